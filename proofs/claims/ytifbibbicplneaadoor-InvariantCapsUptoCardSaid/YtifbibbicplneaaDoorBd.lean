/-
 A part of the proof. No condition.
-/
import Derived.Test.YtifbibbicplneaaDoorBa
import Derived.Test.YtifbibbicplneaaDoorId
namespace Go.Proofs.YtifbibbicplneaaDoor
open Go.Ab Go.Proofs
set_option maxRecDepth 100000
@[reducible] def Qa:Nat:=5
def jQ(l:List UInt8):List T:=l.map fun b=>.lit (.int .u8 b.toNat)
theorem xF{l:List UInt8}:(jQ l).length=l.length:=List.length_map ..
theorem Gy{E:Env}: ∀ {l:List UInt8} {vs:List Value},aA E 0 (jQ l) vs↔vs.take l.length=Lib.byteCells l:=by
 intro l
 induction l with
 |nil=>intro vs; simp[jQ,aA,Lib.byteCells]
 |cons b l ih =>
  intro vs
  cases vs with
  |nil=>simp[jQ,aA,Lib.byteCells,aV]
  |cons v vs =>
   have h:=ih (vs:=vs)
   simp only[jQ,Lib.byteCells] at h
   simp only[jQ,List.map_cons,aA,aV,List.length_cons,List.take_succ_cons,List.take_zero,aG,List.drop_succ_cons,List.drop_zero,h,Lib.byteCells,List.cons.injEq,List.mem_singleton,forall_eq,T.kd]
   constructor
   ·rintro⟨_,_,_,⟨h1,_⟩,h2⟩; exact⟨h1,h2⟩
   ·rintro⟨rfl,h2⟩; exact⟨trivial,by omega,rfl,⟨rfl,trivial⟩,h2⟩
theorem JL(l:List UInt8):T.cu (jQ l)=true:=by
 rw[fP]; intro t ht; obtain⟨x,_,rfl⟩:=List.mem_map.1 ht; rfl
theorem OE{w:World}{e:TypeId}{v:Value}{xs:List Value}(h:qM w e v xs):Go.Ab.rowB v=qN v:=by
 rcases h with ⟨a,rfl,_⟩|⟨g,c,cur,rfl,_⟩
 ·cases a<;>rfl
 ·rfl
theorem XV{E:Env}{l:List UInt8}{v:Value}(h:zD E ⟨Qa,0,jQ l⟩ v):qM E.w Qa v (Lib.byteCells l):=by
 rcases h with ⟨a,rfl,h1⟩|⟨g,c,cur,rfl,h1,h2,h3,h4,h5⟩
 ·have:l=[]:=by simpa [jQ] using h1
  subst this
  exact .inl ⟨a,rfl,rfl⟩
 ·rw[Gy] at h5
  refine .inr ⟨g,c,cur,?_,?_,h2,h3,by simpa [aV] using h4,by rw[Lib.byteCells_length]; exact h5⟩
  ·rw[Lib.byteCells_length]; show Value.slice _ (jQ l).length _=_; rw[xF]
  ·rw[Lib.byteCells_length,<- xF]; exact h1
theorem XW{E:Env}{l:List UInt8}{v:Value}(h:qM E.w Qa v (Lib.byteCells l)):zD E ⟨Qa,0,jQ l⟩ v:=by
 rcases h with ⟨a,rfl,h1⟩|⟨g,c,cur,rfl,h1,h2,h3,h4,h5⟩
 ·have:l=[]:=by simpa [Lib.byteCells] using h1
  subst this
  exact .inl ⟨a,rfl,rfl⟩
 ·rw[Lib.byteCells_length] at h1 h5
  refine .inr ⟨g,c,cur,?_,?_,h2,h3,by simpa [aV] using h4,Gy.2 h5⟩
  ·rw[Lib.byteCells_length]; show _=Value.slice _ (jQ l).length _; rw[xF]
  ·show(jQ l).length<=_; rw[xF]; exact h1
theorem SV(a b:List UInt8):Lib.byteCells a++Lib.strCells (bs b)=Lib.byteCells (a++b):=by
 simp[Lib.byteCells,Lib.strCells,bs]
theorem XY{E:Env}{ad bf:T}{v:Value}(h:zD E ⟨96,3,[.agg [ad,bf]]⟩ v): ∃ g c p q,v= .slice (some ⟨g,0,none⟩) 1 (c+1)/\c+1<=maxLen/\jY E.w g c 96 p q/\aG E ad [p]/\aG E bf [q]:=by
 rcases h with ⟨a,_,h1⟩|⟨g,c,cur,rfl,h1,h2,h3,h4,h5⟩
 ·cases h1
 ·simp only[aA,aG,aS] at h5
  obtain⟨_,h6,_,⟨_,p,r,h7,_,h8,_,q,r2,h9,_,h10,h11⟩,_⟩:=h5
  subst h11; subst h9
  have hz:aV 3=2:=rfl
  rw[hz] at h7 h6
  refine⟨g,c,p,q,rfl,h2,⟨cur,h3,h4,?_,?_⟩,h8,h10⟩
  ·have:=congrArg (fun l=>l[0]?) h7
   simpa [List.getElem?_take] using this
  ·have:=congrArg (fun l=>l[1]?) h7
   simpa [List.getElem?_take] using this
theorem XZ{E:Env}{ad bf:T}{g c:Nat}{p q:Value}(hc:c+1<=maxLen)(h:jY E.w g c 96 p q)(k1:ad.kd=0)(k2:bf.kd=0)(o1:p.oneCell'=true)(o2:q.oneCell'=true)(h1:aG E ad [p])(h2:aG E bf [q]):zD E ⟨96,3,[.agg [ad,bf]]⟩ (.slice (some ⟨g,0,none⟩) 1 (c+1)):=by
 obtain⟨cur,a1,a2,a3,a4⟩:=h
 have hz:aV 3=2:=rfl
 have htk:cur.toList.take 2=[p,q]:=by
  apply List.ext_getElem?
  intro i
  rw[List.getElem?_take]
  match i with
  |0=>simpa using a3
  |1=>simpa using a4
  |i+2=>rw[if_neg (by omega)]; simp
 refine .inr ⟨g,c,cur,rfl,by simp,hc,a1,a2,?_⟩
 simp only[aA,aG,aS,hz]
 refine⟨?_,by simp[a2]; omega,?_,⟨k1,p,[q],htk,o1,h1,k2,q,[],rfl,o2,h2,rfl⟩,trivial⟩
 ·simp[T.kd]
 ·rw[htk]; intro x hx
  simp only[List.mem_cons,List.not_mem_nil,or_false] at hx
  rcases hx with rfl|rfl
  ·exact o1
  ·exact o2
def yw(h:Hp)(d:Option Nat):Hp:=fun j=>if d=some j then none else h j
theorem Ea{h:Hp}{d:Option Nat}{j:Nat}{ob:Ob}(e:yw h d j=some ob):h j=some ob/\d≠some j:=by
 unfold yw at e
 split at e
 ·cases e
 ·exact⟨e,by assumption⟩
structure MI(h:Hp)(i:Nat)(ad bf:T)(d:Option Nat)(xs:List UInt8):Prop where
 pt:ad= .lit (.pointer none)\/ad= .ptr i 0 0
 bu:(bf=T.nil/\xs=[]/\d=none)\/ ∃ m,bf= .own m/\d=some m/\h m=some ⟨Qa,0,jQ xs⟩
 ob:h i=some ⟨96,3,[.agg [ad,bf]]⟩
theorem MI.at{P:Program}{F:Fr P}{E:Env}{i:Nat}{ad bf:T}{d:Option Nat}{xs:List UInt8}(B:MI E.h i ad bf d xs)(hk:qw F E): ∃ g c p q,E.φ i= .slice (some ⟨g,0,none⟩) 1 (c+1)/\E.κ i=3/\c+1<=maxLen /\
  jY E.w g c 96 p q/\(p= .pointer none\/p= .pointer (some ⟨g,0,none⟩))/\qM E.w Qa q (Lib.byteCells xs)/\(∀ k,qN q=some k-> ∃ m ob,d=some m/\m≠i/\E.h m=some ob/\Go.Ab.rowB (E.φ m)=some k):=by
 obtain⟨k1,k2,k3⟩:=hk.obs i _ B.ob
 obtain⟨g,c,p,q,h1,h2,h3,h4,h5⟩:=XY (k1.row (show(3:Nat)≠eF by decide))
 refine⟨g,c,p,q,h1,k2,h2,h3,?_,?_⟩
 ·rcases B.pt with e|e
  ·rw[e] at h4; simp only[aG,List.cons.injEq,and_true] at h4; exact .inl h4
  ·rw[e] at h4
   simp only[aG,List.cons.injEq,and_true] at h4
   obtain⟨u,rfl,h6⟩:=h4
   obtain⟨b,n',c',h7,h8⟩:=h6 (by rw[B.ob]; rfl)
   rw[h1] at h7
   simp only[Value.slice.injEq,Option.some.injEq,Addr.mk.injEq,and_true] at h7
   obtain⟨rfl,_⟩:=h7
   right; rw[h8]; simp
 ·rcases B.bu with ⟨e,rfl,hd⟩|⟨m,e,hd,h6⟩
  ·rw[e] at h5
   simp only[aG,List.cons.injEq,and_true,List.length_nil,true_or] at h5
   obtain⟨a,c',rfl,_,h7⟩:=h5
   obtain rfl:=h7 trivial
   exact⟨.inl ⟨a,rfl,rfl⟩,fun k hk=>by cases a<;>cases hk⟩
  ·rw[e] at h5
   simp only[aG,List.cons.injEq,and_true] at h5
   obtain⟨u,rfl,h7⟩:=h5
   have hq:=h7 (by rw[h6]; rfl)
   subst hq
   have hb:=XV ((hk.obs m _ h6).1.row (show(0:Nat)≠eF by decide))
   refine⟨hb,fun k hk=>⟨m,_,hd,?_,h6,by rw[OE hb]; exact hk⟩⟩
   rintro rfl
   rw[B.ob] at h6; simp at h6
theorem JM{E:Env}{i:Nat}{v:Value}(h:iR E (.ptr i 0 0) v)(hi:(E.h i).isSome=true){g:Nat}{n c:Nat}(hφ:E.φ i= .slice (some ⟨g,0,none⟩) n c):v= .pointer (some ⟨g,0,none⟩):=by
 rcases h with ⟨h,_⟩|⟨_,h⟩
 ·exact absurd rfl h
 ·simp only[aG,List.cons.injEq,and_true] at h
  obtain⟨u,rfl,h2⟩:=h
  obtain⟨b,n',c',h3,h4⟩:=h2 hi
  rw[hφ] at h3
  simp only[Value.slice.injEq,Option.some.injEq,Addr.mk.injEq,and_true] at h3
  obtain⟨rfl,_⟩:=h3
  rw[h4]; simp
theorem cellsB:Tryd.prog.cellsOf 96=2:=by kernel_rfl
theorem MJ:callable Tryd.prog 37:=enters_of lays166.f166 (by kernel_rfl) rfl
theorem JO:callable Tryd.prog 39:=enters_of lays169.f169 (by kernel_rfl) rfl
theorem aO.JQ{h:Hp}{i n:Nat}{ad bf:T}{d:Option Nat}{xs s:List UInt8}(B:MI h i ad bf d xs)(hlen:xs.length+s.length<=140737488355328) :
  aO Tryd.prog 37 [.ptr i 0 0,.lit (.string (bs s))] h n fun t h'=>t= .fU [.int s.length,.lit .nilIface]/\h'=upd (upd (yw h d) i (some ⟨96,3,[.agg [.ptr i 0 0,.own n]]⟩)) n (some ⟨Qa,0,jQ (xs++s)⟩):=by
 refine⟨⟨_,_,rfl,rfl⟩,MJ,fun F M E vs hk he hts hid hm hn=>?_⟩
 subst he
 have hin:i≠n:=fun e=>hn (e▸(hm i _ B.ob).1)
 obtain⟨g,c,p,q,hφ,AZ,hc,hb,hp,hbuf,ZN⟩:=B.at hk
 simp only[bC] at hts
 obtain⟨v0,r0,rfl,h0,v1,r1,rfl,h1,h2⟩:=hts
 have hr1:r1=[]:=by simpa [bn] using h2
 subst hr1
 have e0:v0= .pointer (some ⟨g,0,none⟩):=JM h0 (by rw[B.ob]; rfl) hφ
 subst e0
 have e1:v1= .string (bs s):=by
  rcases h1 with ⟨h,_⟩|⟨_,h⟩
  ·exact absurd rfl h
  ·simpa [aG] using h
 subst e1
 have hsz:(bs s).size=s.length:=by simp[bs,ByteArray.size]
 refine(PX lays166 XO cellsB g c p q (Lib.byteCells xs) (bs s) E.w hb hp hbuf (by rw[Lib.byteCells_length,hsz]; exact hlen)).mono ?_
 rintro e w' ⟨rfl,v',hb',JR,hK,hfr⟩
 rw[SV] at JR
 rw[hsz]
 have abx: ∀ k,qN q=some k->k<E.w.heap.size/\k≠g:=fun k hq=>by
  have hne:96≠Qa:=by decide
  rcases hbuf with ⟨a,rfl,_⟩|⟨g',c',cur,rfl,_,_,a1,_⟩
  ·cases a<;>cases hq
  ·cases hq
   refine⟨?_,?_⟩
   ·rcases Nat.lt_or_ge g' E.w.heap.size with h'|h'
    ·exact h'
    ·simp[Array.getElem?_eq_none h'] at a1
   ·rintro rfl
    obtain⟨aby,b1,_⟩:=hb
    rw[a1] at b1; simp at b1; exact hne b1.2.symm
 have hg:g<E.w.heap.size:=hb.lt
 have SX:Go.Ab.rowB (E.φ i)=some g:=by rw[hφ]; rfl
 have hoth: ∀ j ob k,E.h j=some ob->j≠i->d≠some j->Go.Ab.rowB (E.φ j)=some k->k≠g/\some k≠qN q:=fun j ob k hj hji hdj hkb=>by
  refine⟨?_,?_⟩
  ·rintro rfl; exact hk.sep j i ob _ k hji hj B.ob hkb SX
  ·intro hq
   obtain⟨m,Zx,hdm,_,hm2,Zy⟩:=ZN k hq.symm
   have:j≠m:=by rintro rfl; exact hdj hdm
   exact hk.sep j m ob Zx k this hj hm2 hkb Zy
 let E':Env:= {w:=w',S:=E.S,φ:=fun j=>if j=n then v' else E.φ j,κ:=fun j=>if j=n then 0 else E.κ j,h:=upd (upd (yw E.h d) i (some ⟨96,3,[.agg [.ptr i 0 0,.own n]]⟩)) n (some ⟨Qa,0,jQ (xs++s)⟩)}
 have hSF: ∀ k,E.S k\/F k->k<E.w.heap.size/\k≠g/\some k≠qN q:=fun k hk1=>by
  refine⟨hk1.elim (hk.slt k) (hk.flt k),?_,?_⟩
  ·rintro rfl
   obtain⟨a,b⟩:=hk.out i _ k B.ob SX
   exact hk1.elim a b
  ·intro hq
   obtain⟨m,Zx,hdm,_,hm2,Zy⟩:=ZN k hq.symm
   obtain⟨a,b⟩:=hk.out m _ k hm2 Zy
   exact hk1.elim a b
 have qQ:Ext F E E':=⟨fun _ h=>h,fun k hk1=>by obtain⟨a,b,c⟩:=hSF k hk1; exact hK.block k a b c,hK.size,hK.os,hK.tape,hK.output,hK.dr⟩
 have hn':E'.h n=some ⟨Qa,0,jQ (xs++s)⟩:=by simp[E',upd]
 have hi':E'.h i=some ⟨96,3,[.agg [.ptr i 0 0,.own n]]⟩:=by simp[E',upd,hin]
 have hcase: ∀ j ob,E'.h j=some ob->(j=n/\ob=⟨Qa,0,jQ (xs++s)⟩)\/(j=i/\ob=⟨96,3,[.agg [.ptr i 0 0,.own n]]⟩)\/(j≠n/\j≠i/\E.h j=some ob/\d≠some j):=fun j ob hj=>by
  by_cases h1:j=n
  ·subst h1; rw[hn'] at hj; cases hj; exact .inl ⟨rfl,rfl⟩
  by_cases h2:j=i
  ·subst h2; rw[hi'] at hj; cases hj; exact .inr (.inl ⟨rfl,rfl⟩)
  have h3:yw E.h d j=some ob:=by simpa [E',upd,h1,h2] using hj
  exact .inr (.inr ⟨h1,h2,Ea h3⟩)
 have lU:E'.φ n=v':=if_pos rfl
 have aaP:E'.κ n=0:=if_pos rfl
 have vW: ∀ j,j≠n->E'.φ j=E.φ j:=fun j hj=>if_neg hj
 have X0: ∀ j,j≠n->E'.κ j=E.κ j:=fun j hj=>if_neg hj
 have pq:Same E E' M:=fun j hj hs=>by
  obtain⟨ob,hob⟩:=Option.isSome_iff_exists.1 hs
  have hjn:j≠n:=by rintro rfl; exact hn hj
  refine⟨?_,vW j hjn,X0 j hjn⟩
  rcases hcase j ob hob with ⟨h1,_⟩|⟨rfl,_⟩|⟨_,_,h1,_⟩
  ·exact absurd h1 hjn
  ·rw[B.ob]; rfl
  ·rw[h1]; rfl
 have aaQ:Go.Ab.rowB v'=qN v':=OE JR
 have hnew: ∀ k:Nat,Go.Ab.rowB v'=some k->k<w'.heap.size/\((∃ m ob,d=some m/\m≠i/\E.h m=some ob/\Go.Ab.rowB (E.φ m)=some k)\/E.w.heap.size<=k):=fun k hk1=>by
  rw[aaQ] at hk1
  refine⟨?_,(hfr k hk1).imp (ZN k) id⟩
  rcases JR with ⟨a,rfl,_⟩|⟨g',c',cur,rfl,_,_,a1,_⟩
  ·cases a<;>cases hk1
  ·cases hk1
   rcases Nat.lt_or_ge g' w'.heap.size with h'|h'
   ·exact h'
   ·simp[Array.getElem?_eq_none h'] at a1
 have Iu: ∀ j ob k,E.h j=some ob->Go.Ab.rowB (E.φ j)=some k->k<E.w.heap.size:=fun j ob k hj hkb=>by
  obtain⟨k1,_⟩:=hk.obs j ob hj
  rcases k1 with ⟨_,⟨a,h1,_⟩|⟨g',c',cur,h1,_,_,h2,_⟩⟩|⟨_,g',es,cl,h1,h2,_⟩
  ·rw[h1] at hkb; cases a<;>cases hkb
  ·rw[h1] at hkb
   have hgk:g'=k:=by simpa [Go.Ab.rowB] using hkb
   rw[hgk] at h2
   rcases Nat.lt_or_ge k E.w.heap.size with h'|h'
   ·exact h'
   ·simp[Array.getElem?_eq_none h'] at h2
  ·rw[h1] at hkb
   have hgk:g'=k:=by simpa [Go.Ab.rowB] using hkb
   rw[hgk] at h2
   rcases Nat.lt_or_ge k E.w.heap.size with h'|h'
   ·exact h'
   ·simp[Array.getElem?_eq_none h'] at h2
 refine⟨_,.fU [.int s.length,.lit .nilIface],E',rfl,rfl,⟨rfl,rfl⟩,.inr ⟨rfl,?_⟩,⟨fun j ob hj=>?_,fun j ob k hj hkb=>?_,fun j1 j2 o1 o2 k h12 hj1 hj2 hb1 hb2=>?_,fun k hk1=>Nat.lt_of_lt_of_le (hk.slt k hk1) hK.size,fun k hk1=>Nat.lt_of_lt_of_le (hk.flt k hk1) hK.size,hk.sf,qQ.gl hk⟩,qQ,pq,by simp[T.ids,T.aN],fun j ob hj=>?_⟩
 ·simp[aG,bn,T.kd]
 ·rcases hcase j ob hj with ⟨rfl,rfl⟩|⟨rfl,rfl⟩|⟨hjn,hji,hj0,hdj⟩
  ·rw[lU,aaP]
   exact⟨.inl ⟨show(0:Nat)≠eF by decide,XW JR⟩,rfl,show 0<aV 0 by decide⟩
  ·rw[vW _ hin,X0 _ hin,hφ,AZ]
   refine⟨.inl ⟨show(3:Nat)≠eF by decide,XZ hc hb' rfl rfl rfl ?_ ?_ ?_⟩,rfl,show 0<aV 3 by decide⟩
   ·rcases JR with ⟨a,rfl,_⟩|⟨g',c',cur,rfl,_⟩<;>rfl
   ·simp only[aG,List.cons.injEq,and_true]
    refine⟨_,rfl,fun _=>⟨g,1,c+1,by rw[vW _ hin,hφ],by simp⟩⟩
   ·simp only[aG,List.cons.injEq,and_true]
    exact⟨_,rfl,fun _=>lU.symm⟩
  ·rw[vW j hjn,X0 j hjn]
   obtain⟨k1,k2,k3⟩:=hk.obs j ob hj0
   refine⟨k1.keep (.of qQ pq) (hm j ob hj0).2 (fun k hkb=>?_),k2,k3⟩
   obtain⟨a,b⟩:=hoth j ob k hj0 hji hdj hkb
   exact hK.block k (Iu j ob k hj0 hkb) a b
 ·rcases hcase j ob hj with ⟨rfl,rfl⟩|⟨rfl,rfl⟩|⟨hjn,hji,hj0,hdj⟩
  ·rw[lU] at hkb
   rcases(hnew k hkb).2 with ⟨m,Zx,_,_,h3,h4⟩|h3
   ·exact hk.out m Zx k h3 h4
   ·exact⟨fun hs=>absurd (hk.slt k hs) (by omega),fun hf=>absurd (hk.flt k hf) (by omega)⟩
  ·rw[vW _ hin] at hkb; exact hk.out _ _ k B.ob hkb
  ·rw[vW j hjn] at hkb; exact hk.out j ob k hj0 hkb
 ·have hx: ∀ j ob,E'.h j=some ob->j≠n->Go.Ab.rowB (E'.φ j)=some k->Go.Ab.rowB v'=some k->False:=fun j ob hj hjn hkb hv=>by
   rw[vW j hjn] at hkb
   have hold: ∃ F6,E.h j=some F6:=by
    rcases hcase j ob hj with ⟨h1,_⟩|⟨rfl,_⟩|⟨_,_,h1,_⟩
    ·exact absurd h1 hjn
    ·exact⟨_,B.ob⟩
    ·exact⟨_,h1⟩
   obtain⟨F6,hj0⟩:=hold
   rcases(hnew k hv).2 with ⟨m,Zx,hdm,yx,h3,h4⟩|h3
   ·refine hk.sep j m F6 Zx k ?_ hj0 h3 hkb h4
    rintro rfl
    rcases hcase j ob hj with ⟨h1,_⟩|⟨h1,_⟩|⟨_,_,_,h1⟩
    ·exact hjn h1
    ·exact yx h1
    ·exact h1 hdm
   ·have:=Iu j F6 k hj0 hkb; omega
  by_cases e1:j1=n
  ·subst e1; rw[lU] at hb1
   exact hx j2 o2 hj2 (fun e=>h12 e.symm) hb2 hb1
  by_cases e2:j2=n
  ·subst e2; rw[lU] at hb2
   exact hx j1 o1 hj1 e1 hb1 hb2
  rw[vW j1 e1] at hb1; rw[vW j2 e2] at hb2
  have ho: ∀ j ob,E'.h j=some ob->j≠n-> ∃ F6,E.h j=some F6:=fun j ob hj hjn=>by
   rcases hcase j ob hj with ⟨h1,_⟩|⟨rfl,_⟩|⟨_,_,h1,_⟩
   ·exact absurd h1 hjn
   ·exact⟨_,B.ob⟩
   ·exact⟨_,h1⟩
  obtain⟨a1,b1⟩:=ho j1 o1 hj1 e1
  obtain⟨a2,b2⟩:=ho j2 o2 hj2 e2
  exact hk.sep j1 j2 a1 a2 k h12 b1 b2 hb1 hb2
 ·rcases hcase j ob hj with ⟨rfl,rfl⟩|⟨rfl,rfl⟩|⟨hjn,hji,hj0,hdj⟩
  ·exact⟨.inr rfl,T.ak (fun _ h=>h.elim) _ (bV (JL _))⟩
  ·exact⟨.inl (hm _ _ B.ob).1,by simp only[T.aN,T.ids,and_true]; exact⟨.inl (hm _ _ B.ob).1,.inr trivial⟩⟩
  ·exact⟨.inl (hm j ob hj0).1,T.ak (fun _ h=>.inl h) _ (hm j ob hj0).2⟩
theorem aO.Qb{h:Hp}{i n:Nat}{ad bf:T}{d:Option Nat}{xs:List UInt8}(B:MI h i ad bf d xs)(h0:xs≠[]) :
  aO Tryd.prog 39 [.ptr i 0 0] h n fun t h'=>t= .lit (.string (bs xs))/\h'=upd (yw h d) i none:=by
 refine⟨⟨_,_,rfl,rfl⟩,JO,fun F M E vs hk he hts hid hm hn=>?_⟩
 subst he
 obtain⟨g,c,p,q,hφ,AZ,hc,hb,hp,hbuf,ZN⟩:=B.at hk
 simp only[bC] at hts
 obtain⟨v0,r0,rfl,hv0,h2⟩:=hts
 have hr1:r0=[]:=by simpa [bn] using h2
 subst hr1
 have e0:v0= .pointer (some ⟨g,0,none⟩):=JM hv0 (by rw[B.ob]; rfl) hφ
 subst e0
 obtain⟨gq,cq,rfl⟩: ∃ gq cq,q= .slice (some ⟨gq,0,none⟩) xs.length (cq+1):=by
  rcases hbuf with ⟨a,rfl,h1⟩|⟨g',c',cur,rfl,_⟩
  ·exact absurd (by simpa [Lib.byteCells] using h1) h0
  ·exact⟨g',c',by rw[Lib.byteCells_length]⟩
 refine(MF lays169 XP g c gq (cq+1) p xs E.w hb hbuf h0).mono ?_
 rintro e w' ⟨rfl,hK⟩
 have SX:Go.Ab.rowB (E.φ i)=some g:=by rw[hφ]; rfl
 obtain⟨m,obm,hdm,yx,hm2,Zy⟩:=ZN gq rfl
 have Iu: ∀ j ob k,E.h j=some ob->Go.Ab.rowB (E.φ j)=some k->k<E.w.heap.size:=fun j ob k hj hkb=>by
  obtain⟨k1,_⟩:=hk.obs j ob hj
  rcases k1 with ⟨_,⟨a,h1,_⟩|⟨g',c',cur,h1,_,_,h2,_⟩⟩|⟨_,g',es,cl,h1,h2,_⟩
  ·rw[h1] at hkb; cases a<;>cases hkb
  ·rw[h1] at hkb
   have hgk:g'=k:=by simpa [Go.Ab.rowB] using hkb
   rw[hgk] at h2
   rcases Nat.lt_or_ge k E.w.heap.size with h'|h'
   ·exact h'
   ·simp[Array.getElem?_eq_none h'] at h2
  ·rw[h1] at hkb
   have hgk:g'=k:=by simpa [Go.Ab.rowB] using hkb
   rw[hgk] at h2
   rcases Nat.lt_or_ge k E.w.heap.size with h'|h'
   ·exact h'
   ·simp[Array.getElem?_eq_none h'] at h2
 let E':Env:= {E with w:=w',h:=upd (yw E.h d) i none}
 have hSF: ∀ k,E.S k\/F k->k<E.w.heap.size/\k≠g/\some k≠some gq:=fun k hk1=>by
  refine⟨hk1.elim (hk.slt k) (hk.flt k),?_,?_⟩
  ·rintro rfl
   obtain⟨a,b⟩:=hk.out i _ k B.ob SX
   exact hk1.elim a b
  ·intro hq
   obtain⟨a,b⟩:=hk.out m _ gq hm2 Zy
   cases hq
   exact hk1.elim a b
 have qQ:Ext F E E':=⟨fun _ h=>h,fun k hk1=>by obtain⟨a,b,c⟩:=hSF k hk1; exact hK.block k a b c,hK.size,hK.os,hK.tape,hK.output,hK.dr⟩
 have hcase: ∀ j ob,E'.h j=some ob->j≠i/\E.h j=some ob/\d≠some j:=fun j ob hj=>by
  by_cases h2:j=i
  ·subst h2; simp[E',upd] at hj
  have h3:yw E.h d j=some ob:=by simpa [E',upd,h2] using hj
  exact⟨h2,Ea h3⟩
 have pq:Same E E' M:=fun j hj hs=>by
  obtain⟨ob,hob⟩:=Option.isSome_iff_exists.1 hs
  obtain⟨_,h1,_⟩:=hcase j ob hob
  exact⟨by rw[h1]; rfl,rfl,rfl⟩
 refine⟨_,.lit (.string (bs xs)),E',rfl,rfl,⟨rfl,rfl⟩,.inr ⟨rfl,by simp[aG,bs]⟩,⟨fun j ob hj=>?_,fun j ob k hj hkb=>?_,fun j1 j2 o1 o2 k h12 hj1 hj2 hb1 hb2=>?_,fun k hk1=>Nat.lt_of_lt_of_le (hk.slt k hk1) hK.size,fun k hk1=>Nat.lt_of_lt_of_le (hk.flt k hk1) hK.size,hk.sf,qQ.gl hk⟩,qQ,pq,trivial,fun j ob hj=>?_⟩
 ·obtain⟨hji,hj0,hdj⟩:=hcase j ob hj
  obtain⟨k1,k2,k3⟩:=hk.obs j ob hj0
  refine⟨k1.keep (.of qQ pq) (hm j ob hj0).2 (fun k hkb=>?_),k2,k3⟩
  refine hK.block k (Iu j ob k hj0 hkb) ?_ ?_
  ·rintro rfl; exact hk.sep j i ob _ k hji hj0 B.ob hkb SX
  ·intro hq
   cases hq
   have:j≠m:=by rintro rfl; exact hdj hdm
   exact hk.sep j m ob obm _ this hj0 hm2 hkb Zy
 ·exact hk.out j ob k (hcase j ob hj).2.1 hkb
 ·exact hk.sep j1 j2 o1 o2 k h12 (hcase j1 o1 hj1).2.1 (hcase j2 o2 hj2).2.1 hb1 hb2
 ·have hj0:=(hcase j ob hj).2.1
  exact⟨.inl (hm j ob hj0).1,T.ak (fun _ h=>.inl h) _ (hm j ob hj0).2⟩
def Qc(l:List UInt8):OV:=.row Qa 0 .nil (l.map fun b=>.u8 b.toNat)
def aaR:OV:=.box 96 3 (.agg [.raw (.lit (.pointer none)),.row 0 true .nil])
def Vu(i m:Nat):OV:=.box 96 3 (.agg [.ptr i 0 0,.own m])
theorem Dx(l:List UInt8):(Qc l).aF=⟨Qa,0,jQ l⟩:=by
 simp only[Qc,OV.aF,Rw.aT,List.nil_append,jQ]
 congr 1
 induction l with
 |nil=>rfl
 |cons b l ih=>simp only[List.map_cons,V.aT,ih]; rfl
theorem ah.X3{h:Hz}{i n:Nat}{s:List UInt8}{K:V->Hz->Prop}{KW:Nat->V->Hz->Prop}(hi:h.get i=some aaR)(hlen:s.length<=140737488355328)(hK:K (.fU [.int s.length,.raw (.lit .nilIface)]) ((n,some (Qc s))::(i,some (Vu i n))::h)) :
  ah Tryd.prog false none 37 [.ptr i 0 0,.str s] h n K KW:=by
 have B:MI h.aj i (.lit (.pointer none)) T.nil none []:=⟨.inl rfl,.inl ⟨rfl,rfl,rfl⟩,aK hi⟩
 refine⟨.inl (aO.mono (aO.JQ B (s:=s) (by simpa using hlen)) ?_)⟩
 rintro _ _ ⟨rfl,rfl⟩
 refine⟨.fU [.int s.length,.raw (.lit .nilIface)],_,rfl,?_,(fun e=>by cases e),hK⟩
 rw[aZ,aZ]
 simp only[Option.map,Dx,List.nil_append]
 rfl
theorem ah.write{h:Hz}{i m n:Nat}{xs s:List UInt8}{K:V->Hz->Prop}{KW:Nat->V->Hz->Prop}(hi:h.get i=some (Vu i m))(hm:h.get m=some (Qc xs))(hlen:xs.length+s.length<=140737488355328)
  (hK:K (.fU [.int s.length,.raw (.lit .nilIface)]) ((n,some (Qc (xs++s)))::(i,some (Vu i n))::(m,none)::h)):ah Tryd.prog false none 37 [.ptr i 0 0,.str s] h n K KW:=by
 have B:MI h.aj i (.ptr i 0 0) (.own m) (some m) xs:=⟨.inr rfl,.inr ⟨m,rfl,rfl,by rw[aK hm,Dx]⟩,aK hi⟩
 refine⟨.inl (aO.mono (aO.JQ B (s:=s) hlen) ?_)⟩
 rintro _ _ ⟨rfl,rfl⟩
 refine⟨.fU [.int s.length,.raw (.lit .nilIface)],_,rfl,?_,(fun e=>by cases e),hK⟩
 rw[aZ,aZ,aZ]
 simp only[Option.map,Dx]
 congr 2
 funext j
 simp only[yw,upd,Option.some.injEq,eq_comm]
theorem ah.string{h:Hz}{i m n:Nat}{xs:List UInt8}{K:V->Hz->Prop}{KW:Nat->V->Hz->Prop}(hi:h.get i=some (Vu i m))(hm:h.get m=some (Qc xs))(h0:xs≠[])(hK:K (.str xs) ((i,none)::(m,none)::h)) :
  ah Tryd.prog false none 39 [.ptr i 0 0] h n K KW:=by
 have B:MI h.aj i (.ptr i 0 0) (.own m) (some m) xs:=⟨.inr rfl,.inr ⟨m,rfl,rfl,by rw[aK hm,Dx]⟩,aK hi⟩
 refine⟨.inl (aO.mono (aO.Qb B h0) ?_)⟩
 rintro _ _ ⟨rfl,rfl⟩
 refine⟨.str xs,_,rfl,?_,(fun e=>by cases e),hK⟩
 rw[aZ,aZ]
 simp only[Option.map]
 congr 1
 funext j
 simp only[yw,upd,Option.some.injEq,eq_comm]
theorem S.F7(x sep:Str)(f:Bool):ay Tryd.prog 56 [.row 0 f (.strs [x]),.str sep] (.str x):=by
 refine ay.of Bd.strings_Join (by simp) rfl rfl ?_
 conv=>whnf
 refine Fork.mk (fun q=>absurd (q.symm.trans ((rfl:(((([x]:List Str).length:Int))==0)=false))).symm Bool.false_ne_true) (fun _=>?_)
 conv=>whnf
 conv=>whnf
 refine Fork.mk (fun _=>?_) (fun q=>absurd (q.symm.trans ((rfl:(((([x]:List Str).length:Int))==1)=true))) Bool.false_ne_true)
 conv=>whnf
 refine .mk (by simp only[Rw.rng] at *; first|omega|(simp_all; done)|(simp_all; omega)) ?_
 conv=>whnf
 exact aB.str rfl
theorem S.tJ(i:Nat)(names:List Str)(f g:Bool)(hi:i<names.length)(_hn:names.length<2^30):ay Tryd.prog 38 [.row 0 f (.ints [(i:Int)]),.row 0 g (.strs names)] (.str (names.getD i [])):=by
 refine ay.of Bd.pV (by simp) rfl rfl ?_
 conv=>whnf
 refine aY.times 2 rfl ?_
 conv=>whnf
 refine Fork.mk (fun _=>?_) (fun q=>absurd (q.symm.trans ((rfl:decide ((0:Int)<([(i:Int)].length:Int))=true))) Bool.false_ne_true)
 conv=>whnf
 repeat(refine VC.mk (by simp only[Rw.rng] at *; first|omega|(simp_all; done)|(simp_all; omega)) ?_; conv=>whnf)
 have hcap:nN 16 0 (mV (Rw.strs [names.getD ([(i:Int)].getD (Int.toNat 0) 0).toNat []]) []):=by
  show(0+(1+0))*16<=140737488355328/\0+(1+0)<=1152921504606846976
  omega
 conv=>whnf
 repeat(refine VC.mk (by first|(exact hcap)|(simp only[okI] at *; first|omega|(simp_all; done)|(simp_all; omega))) ?_; conv=>whnf)
 refine Fork.mk (fun q=>absurd (q.symm.trans ((rfl:decide ((1:Int)<([(i:Int)].length:Int))=false))).symm Bool.false_ne_true) (fun _=>?_)
 conv=>whnf
 refine ah.lend (S.F7 (names.getD i []) [124] false) (And.intro (ZO trivial rfl) (And.intro (aC _) trivial)) rfl rfl ?_
 conv=>whnf
 exact aB.str rfl
def AV(name:Str)(fr tt read write:Int):Rule:=⟨name,1,fr,tt,0,0,[],[],[],[],read,write,[],0,[],[],[],0⟩
def gV:aX:=⟨[109,120],1,[[105],[119],[99]],[],[[102,114,101,101],[104,101,108,100]],0,[],[0],[],[AV [97,115,107] 0 1 (-1) (-1),AV [116,97,107,101] 1 2 0 1,AV [108,101,97,118,101] 2 0 1 0]⟩
def yu:Prop':=⟨[101,120],1,[],[⟨[2],2⟩],[],[]⟩
def yc:Clause:=⟨[[2],[2]],[],[]⟩
def qO:Clause:=⟨[[2]],[0],[]⟩
def ZP:Str:=[97,108,108,32,99,32,118,97,108,117,101,61,102,114,101,101]
theorem uQ{name:Str}{fr tt read write:Int}(_h:name.length<2^30):sU (AV name fr tt read write):=by
 constructor<;>simp[AV]
theorem rW:dP gV:=by
 refine⟨by decide,by decide,by decide,by decide,by decide,by decide,by decide,fun i=>?_,by decide⟩
 match i with
 |0=>exact uQ (by decide)
 |1=>exact uQ (by decide)
 |2=>exact uQ (by decide)
 |i+3=>constructor<;>exact(by decide:(0:Nat)<2^30)
theorem D7:nK yu:=by
 refine⟨by decide,by decide,by decide,by decide,fun i=>?_⟩
 match i with
 |0=>decide
 |i+1=>exact(by decide:(0:Nat)<2^30)
theorem Gx:sQ yc:=by
 refine⟨by decide,fun i=>?_,by decide,by decide⟩
 match i with
 |0=>decide
 |1=>decide
 |i+2=>exact(by decide:(0:Nat)<2^30)
theorem D6:sQ qO:=by
 refine⟨by decide,fun i=>?_,by decide,by decide⟩
 match i with
 |0=>decide
 |i+1=>exact(by decide:(0:Nat)<2^30)
theorem SY:CG gV=0:=by kernel_rfl
theorem Vw:xG gV qO=0:=by kernel_rfl
theorem S.MH:ay Tryd.prog 20 [.dat (.eG gV),.dat (.clause qO)] (.fU [.str ZP,.int 0]):=by
 have hV:ay Tryd.prog 22 [.dat (.eG gV),.dat (.clause qO)] (.int 0):=by
  have:=S.dX gV qO rW D6
  rw[SY,Vw] at this; exact this
 refine ay.of Bd.jZ (by simp) rfl rfl ?_
 conv=>whnf
 refine ah.pure hV rfl ?_
 conv=>whnf
 refine Fork.mk (fun q=>absurd (q.symm.trans ((rfl:((0:Int) !=0)=false))).symm Bool.false_ne_true) (fun _=>?_)
 conv=>whnf
 conv=>whnf
 refine ah.X3 rfl (by decide) ?_
 conv=>whnf
 refine aY.times 2 rfl ?_
 conv=>whnf
 refine Fork.mk (fun _=>?_) (fun q=>absurd (q.symm.trans ((rfl:decide ((0:Int)<(qO.each.length:Int))=true))) Bool.false_ne_true)
 conv=>whnf
 refine .mk (by simp only[Rw.rng] at *; first|omega|(simp_all; done)|(simp_all; omega)) ?_
 conv=>whnf
 conv=>whnf
 refine ah.pure (S.tJ 2 gV.states false false (by decide) (by decide)) rfl ?_
 conv=>whnf
 refine .mk (by decide) ?_
 conv=>whnf
 refine ah.write rfl rfl (by decide) ?_
 conv=>whnf
 refine .mk (by simp only[okI] at *; first|omega|(simp_all; done)|(simp_all; omega)) ?_
 conv=>whnf
 refine Fork.mk (fun q=>absurd (q.symm.trans ((rfl:decide ((1:Int)<(qO.each.length:Int))=false))).symm Bool.false_ne_true) (fun _=>?_)
 conv=>whnf
 conv=>whnf
 refine Fork.mk (fun _=>?_) (fun q=>absurd (q.symm.trans ((rfl:decide ((0:Int)<(qO.values.length:Int))=true))) Bool.false_ne_true)
 conv=>whnf
 conv=>whnf
 refine ah.pure (S.tJ 0 gV.values false false (by decide) (by decide)) rfl ?_
 conv=>whnf
 refine .mk (by decide) ?_
 conv=>whnf
 refine ah.write rfl rfl (by decide) ?_
 conv=>whnf
 refine Fork.mk (fun q=>absurd (q.symm.trans ((rfl:decide ((0:Int)<(qO.some.length:Int))=false))).symm Bool.false_ne_true) (fun _=>?_)
 conv=>whnf
 conv=>whnf
 refine ah.string rfl rfl (by decide) ?_
 conv=>whnf
 exact aB.eqv rfl
end Go.Proofs.YtifbibbicplneaaDoor
