/-
 A part of the proof. No condition.
-/
import Derived.Test.YtiakcepnlcpanaaGreatDoorBa
import Derived.Test.YtiakcepnlcpanaaGreatDoorId
namespace Go.Proofs.YtiakcepnlcpanaaGreatDoor
open Go.Ab Go.Proofs
set_option maxRecDepth 100000
@[reducible] def RH:Nat:=5
def kE(l:List UInt8):List T:=l.map fun b=>.lit (.int .u8 b.toNat)
theorem yZ{l:List UInt8}:(kE l).length=l.length:=List.length_map ..
theorem I4{E:Env}: ∀ {l:List UInt8} {vs:List Value},aB E 0 (kE l) vs↔vs.take l.length=Lib.byteCells l:=by
 intro l
 induction l with
 |nil=>intro vs; simp[kE,aB,Lib.byteCells]
 |cons b l ih =>
  intro vs
  cases vs with
  |nil=>simp[kE,aB,Lib.byteCells,aY]
  |cons v vs =>
   have h:=ih (vs:=vs)
   simp only[kE,Lib.byteCells] at h
   simp only[kE,List.map_cons,aB,aY,List.length_cons,List.take_succ_cons,List.take_zero,aI,List.drop_succ_cons,List.drop_zero,h,Lib.byteCells,List.cons.injEq,List.mem_singleton,forall_eq,T.kd]
   constructor
   ·rintro⟨_,_,_,⟨h1,_⟩,h2⟩; exact⟨h1,h2⟩
   ·rintro⟨rfl,h2⟩; exact⟨trivial,by omega,rfl,⟨rfl,trivial⟩,h2⟩
theorem LP(l:List UInt8):T.dh (kE l)=true:=by
 rw[fJ]; intro t ht; obtain⟨x,_,rfl⟩:=List.mem_map.1 ht; rfl
theorem Qu{w:World}{e:TypeId}{v:Value}{xs:List Value}(h:sF w e v xs):Go.Ab.rowB v=sG v:=by
 rcases h with ⟨a,rfl,_⟩|⟨g,c,cur,rfl,_⟩
 ·cases a<;>rfl
 ·rfl
theorem ZO{E:Env}{l:List UInt8}{v:Value}(h:Bg E ⟨RH,0,kE l⟩ v):sF E.w RH v (Lib.byteCells l):=by
 rcases h with ⟨a,rfl,h1⟩|⟨g,c,cur,rfl,h1,h2,h3,h4,h5⟩
 ·have:l=[]:=by simpa [kE] using h1
  subst this
  exact .inl ⟨a,rfl,rfl⟩
 ·rw[I4] at h5
  refine .inr ⟨g,c,cur,?_,?_,h2,h3,by simpa [aY] using h4,by rw[Lib.byteCells_length]; exact h5⟩
  ·rw[Lib.byteCells_length]; show Value.slice _ (kE l).length _=_; rw[yZ]
  ·rw[Lib.byteCells_length,<- yZ]; exact h1
theorem ZP{E:Env}{l:List UInt8}{v:Value}(h:sF E.w RH v (Lib.byteCells l)):Bg E ⟨RH,0,kE l⟩ v:=by
 rcases h with ⟨a,rfl,h1⟩|⟨g,c,cur,rfl,h1,h2,h3,h4,h5⟩
 ·have:l=[]:=by simpa [Lib.byteCells] using h1
  subst this
  exact .inl ⟨a,rfl,rfl⟩
 ·rw[Lib.byteCells_length] at h1 h5
  refine .inr ⟨g,c,cur,?_,?_,h2,h3,by simpa [aY] using h4,I4.2 h5⟩
  ·rw[Lib.byteCells_length]; show _=Value.slice _ (kE l).length _; rw[yZ]
  ·show(kE l).length<=_; rw[yZ]; exact h1
theorem UZ(a b:List UInt8):Lib.byteCells a++Lib.strCells (bs b)=Lib.byteCells (a++b):=by
 simp[Lib.byteCells,Lib.strCells,bs]
theorem ZQ{E:Env}{ad bf:T}{v:Value}(h:Bg E ⟨94,3,[.agg [ad,bf]]⟩ v): ∃ g c p q,v= .slice (some ⟨g,0,none⟩) 1 (c+1)/\c+1<=maxLen/\kS E.w g c 94 p q/\aI E ad [p]/\aI E bf [q]:=by
 rcases h with ⟨a,_,h1⟩|⟨g,c,cur,rfl,h1,h2,h3,h4,h5⟩
 ·cases h1
 ·simp only[aB,aI,aV] at h5
  obtain⟨_,h6,_,⟨_,p,r,h7,_,h8,_,q,r2,h9,_,h10,h11⟩,_⟩:=h5
  subst h11; subst h9
  have hz:aY 3=2:=rfl
  rw[hz] at h7 h6
  refine⟨g,c,p,q,rfl,h2,⟨cur,h3,h4,?_,?_⟩,h8,h10⟩
  ·have:=congrArg (fun l=>l[0]?) h7
   simpa [List.getElem?_take] using this
  ·have:=congrArg (fun l=>l[1]?) h7
   simpa [List.getElem?_take] using this
theorem ZR{E:Env}{ad bf:T}{g c:Nat}{p q:Value}(hc:c+1<=maxLen)(h:kS E.w g c 94 p q)(k1:ad.kd=0)(k2:bf.kd=0)(o1:p.oneCell'=true)(o2:q.oneCell'=true)(h1:aI E ad [p])(h2:aI E bf [q]):Bg E ⟨94,3,[.agg [ad,bf]]⟩ (.slice (some ⟨g,0,none⟩) 1 (c+1)):=by
 obtain⟨cur,a1,a2,a3,a4⟩:=h
 have hz:aY 3=2:=rfl
 have htk:cur.toList.take 2=[p,q]:=by
  apply List.ext_getElem?
  intro i
  rw[List.getElem?_take]
  match i with
  |0=>simpa using a3
  |1=>simpa using a4
  |i+2=>rw[if_neg (by omega)]; simp
 refine .inr ⟨g,c,cur,rfl,by simp,hc,a1,a2,?_⟩
 simp only[aB,aI,aV,hz]
 refine⟨?_,by simp[a2]; omega,?_,⟨k1,p,[q],htk,o1,h1,k2,q,[],rfl,o2,h2,rfl⟩,trivial⟩
 ·simp[T.kd]
 ·rw[htk]; intro x hx
  simp only[List.mem_cons,List.not_mem_nil,or_false] at hx
  rcases hx with rfl|rfl
  ·exact o1
  ·exact o2
def zL(h:Hp)(d:Option Nat):Hp:=fun j=>if d=some j then none else h j
theorem FT{h:Hp}{d:Option Nat}{j:Nat}{ob:Ob}(e:zL h d j=some ob):h j=some ob/\d≠some j:=by
 unfold zL at e
 split at e
 ·cases e
 ·exact⟨e,by assumption⟩
structure OA(h:Hp)(i:Nat)(ad bf:T)(d:Option Nat)(xs:List UInt8):Prop where
 pt:ad= .lit (.pointer none)\/ad= .ptr i 0 0
 bu:(bf=T.nil/\xs=[]/\d=none)\/ ∃ m,bf= .own m/\d=some m/\h m=some ⟨RH,0,kE xs⟩
 ob:h i=some ⟨94,3,[.agg [ad,bf]]⟩
theorem OA.at{P:Program}{F:Fr P}{E:Env}{i:Nat}{ad bf:T}{d:Option Nat}{xs:List UInt8}(B:OA E.h i ad bf d xs)(hk:oJ F E): ∃ g c p q,E.φ i= .slice (some ⟨g,0,none⟩) 1 (c+1)/\E.κ i=3/\c+1<=maxLen /\
  kS E.w g c 94 p q/\(p= .pointer none\/p= .pointer (some ⟨g,0,none⟩))/\sF E.w RH q (Lib.byteCells xs)/\(∀ k,sG q=some k-> ∃ m ob,d=some m/\m≠i/\E.h m=some ob/\Go.Ab.rowB (E.φ m)=some k):=by
 obtain⟨k1,k2,k3⟩:=hk.obs i _ B.ob
 obtain⟨g,c,p,q,h1,h2,h3,h4,h5⟩:=ZQ (k1.row (show(3:Nat)≠fF by decide))
 refine⟨g,c,p,q,h1,k2,h2,h3,?_,?_⟩
 ·rcases B.pt with e|e
  ·rw[e] at h4; simp only[aI,List.cons.injEq,and_true] at h4; exact .inl h4
  ·rw[e] at h4
   simp only[aI,List.cons.injEq,and_true] at h4
   obtain⟨u,rfl,h6⟩:=h4
   obtain⟨b,n',c',h7,h8⟩:=h6 (by rw[B.ob]; rfl)
   rw[h1] at h7
   simp only[Value.slice.injEq,Option.some.injEq,Addr.mk.injEq,and_true] at h7
   obtain⟨rfl,_⟩:=h7
   right; rw[h8]; simp
 ·rcases B.bu with ⟨e,rfl,hd⟩|⟨m,e,hd,h6⟩
  ·rw[e] at h5
   simp only[aI,List.cons.injEq,and_true,List.length_nil,true_or] at h5
   obtain⟨a,c',rfl,_,h7⟩:=h5
   obtain rfl:=h7 trivial
   exact⟨.inl ⟨a,rfl,rfl⟩,fun k hk=>by cases a<;>cases hk⟩
  ·rw[e] at h5
   simp only[aI,List.cons.injEq,and_true] at h5
   obtain⟨u,rfl,h7⟩:=h5
   have hq:=h7 (by rw[h6]; rfl)
   subst hq
   have hb:=ZO ((hk.obs m _ h6).1.row (show(0:Nat)≠fF by decide))
   refine⟨hb,fun k hk=>⟨m,_,hd,?_,h6,by rw[Qu hb]; exact hk⟩⟩
   rintro rfl
   rw[B.ob] at h6; simp at h6
theorem LQ{E:Env}{i:Nat}{v:Value}(h:iY E (.ptr i 0 0) v)(hi:(E.h i).isSome=true){g:Nat}{n c:Nat}(hφ:E.φ i= .slice (some ⟨g,0,none⟩) n c):v= .pointer (some ⟨g,0,none⟩):=by
 rcases h with ⟨h,_⟩|⟨_,h⟩
 ·exact absurd rfl h
 ·simp only[aI,List.cons.injEq,and_true] at h
  obtain⟨u,rfl,h2⟩:=h
  obtain⟨b,n',c',h3,h4⟩:=h2 hi
  rw[hφ] at h3
  simp only[Value.slice.injEq,Option.some.injEq,Addr.mk.injEq,and_true] at h3
  obtain⟨rfl,_⟩:=h3
  rw[h4]; simp
theorem cellsB:Tryz.prog.cellsOf 94=2:=by kernel_rfl
theorem OB:callable Tryz.prog 36:=enters_of lays166.f166 (by kernel_rfl) rfl
theorem LU:callable Tryz.prog 38:=enters_of lays169.f169 (by kernel_rfl) rfl
theorem aF.LV{h:Hp}{i n:Nat}{ad bf:T}{d:Option Nat}{xs s:List UInt8}(B:OA h i ad bf d xs)(hlen:xs.length+s.length<=140737488355328) :
  aF Tryz.prog 36 [.ptr i 0 0,.lit (.string (bs s))] h n fun t h'=>t= .dM [.int s.length,.lit .nilIface]/\h'=upd (upd (zL h d) i (some ⟨94,3,[.agg [.ptr i 0 0,.own n]]⟩)) n (some ⟨RH,0,kE (xs++s)⟩):=by
 refine⟨⟨_,_,rfl,rfl⟩,OB,fun F M E vs hk he hts hid hm hn=>?_⟩
 subst he
 have hin:i≠n:=fun e=>hn (e▸(hm i _ B.ob).1)
 obtain⟨g,c,p,q,hφ,Bh,hc,hb,hp,hbuf,hbo⟩:=B.at hk
 simp only[bg] at hts
 obtain⟨v0,r0,rfl,h0,v1,r1,rfl,h1,h2⟩:=hts
 have hr1:r1=[]:=by simpa [bn] using h2
 subst hr1
 have e0:v0= .pointer (some ⟨g,0,none⟩):=LQ h0 (by rw[B.ob]; rfl) hφ
 subst e0
 have e1:v1= .string (bs s):=by
  rcases h1 with ⟨h,_⟩|⟨_,h⟩
  ·exact absurd rfl h
  ·simpa [aI] using h
 subst e1
 have hsz:(bs s).size=s.length:=by simp[bs,ByteArray.size]
 refine(Rx lays166 ZK cellsB g c p q (Lib.byteCells xs) (bs s) E.w hb hp hbuf (by rw[Lib.byteCells_length,hsz]; exact hlen)).mono ?_
 rintro e w' ⟨rfl,v',hb',LW,hK,hfr⟩
 rw[UZ] at LW
 rw[hsz]
 have adH: ∀ k,sG q=some k->k<E.w.heap.size/\k≠g:=fun k hq=>by
  have hne:94≠RH:=by decide
  rcases hbuf with ⟨a,rfl,_⟩|⟨g',c',cur,rfl,_,_,a1,_⟩
  ·cases a<;>cases hq
  ·cases hq
   refine⟨?_,?_⟩
   ·rcases Nat.lt_or_ge g' E.w.heap.size with h'|h'
    ·exact h'
    ·simp[Array.getElem?_eq_none h'] at a1
   ·rintro rfl
    obtain⟨adI,b1,_⟩:=hb
    rw[a1] at b1; simp at b1; exact hne b1.2.symm
 have hg:g<E.w.heap.size:=hb.lt
 have U0:Go.Ab.rowB (E.φ i)=some g:=by rw[hφ]; rfl
 have hoth: ∀ j ob k,E.h j=some ob->j≠i->d≠some j->Go.Ab.rowB (E.φ j)=some k->k≠g/\some k≠sG q:=fun j ob k hj hji hdj hkb=>by
  refine⟨?_,?_⟩
  ·rintro rfl; exact hk.sep j i ob _ k hji hj B.ob hkb U0
  ·intro hq
   obtain⟨m,ob2,hdm,_,hm2,hm3⟩:=hbo k hq.symm
   have:j≠m:=by rintro rfl; exact hdj hdm
   exact hk.sep j m ob ob2 k this hj hm2 hkb hm3
 let E':Env:= {w:=w',S:=E.S,φ:=fun j=>if j=n then v' else E.φ j,κ:=fun j=>if j=n then 0 else E.κ j,h:=upd (upd (zL E.h d) i (some ⟨94,3,[.agg [.ptr i 0 0,.own n]]⟩)) n (some ⟨RH,0,kE (xs++s)⟩)}
 have hSF: ∀ k,E.S k\/F k->k<E.w.heap.size/\k≠g/\some k≠sG q:=fun k hk1=>by
  refine⟨hk1.elim (hk.slt k) (hk.flt k),?_,?_⟩
  ·rintro rfl
   obtain⟨a,b⟩:=hk.out i _ k B.ob U0
   exact hk1.elim a b
  ·intro hq
   obtain⟨m,ob2,hdm,_,hm2,hm3⟩:=hbo k hq.symm
   obtain⟨a,b⟩:=hk.out m _ k hm2 hm3
   exact hk1.elim a b
 have sQ:Ext F E E':=⟨fun _ h=>h,fun k hk1=>by obtain⟨a,b,c⟩:=hSF k hk1; exact hK.block k a b c,hK.size,hK.os,hK.tape,hK.output,hK.dr⟩
 have hn':E'.h n=some ⟨RH,0,kE (xs++s)⟩:=by simp[E',upd]
 have hi':E'.h i=some ⟨94,3,[.agg [.ptr i 0 0,.own n]]⟩:=by simp[E',upd,hin]
 have hcase: ∀ j ob,E'.h j=some ob->(j=n/\ob=⟨RH,0,kE (xs++s)⟩)\/(j=i/\ob=⟨94,3,[.agg [.ptr i 0 0,.own n]]⟩)\/(j≠n/\j≠i/\E.h j=some ob/\d≠some j):=fun j ob hj=>by
  by_cases h1:j=n
  ·subst h1; rw[hn'] at hj; cases hj; exact .inl ⟨rfl,rfl⟩
  by_cases h2:j=i
  ·subst h2; rw[hi'] at hj; cases hj; exact .inr (.inl ⟨rfl,rfl⟩)
  have h3:zL E.h d j=some ob:=by simpa [E',upd,h1,h2] using hj
  exact .inr (.inr ⟨h1,h2,FT h3⟩)
 have ny:E'.φ n=v':=if_pos rfl
 have acQ:E'.κ n=0:=if_pos rfl
 have xQ: ∀ j,j≠n->E'.φ j=E.φ j:=fun j hj=>if_neg hj
 have ZT: ∀ j,j≠n->E'.κ j=E.κ j:=fun j hj=>if_neg hj
 have qL:Same E E' M:=fun j hj hs=>by
  obtain⟨ob,hob⟩:=Option.isSome_iff_exists.1 hs
  have hjn:j≠n:=by rintro rfl; exact hn hj
  refine⟨?_,xQ j hjn,ZT j hjn⟩
  rcases hcase j ob hob with ⟨h1,_⟩|⟨rfl,_⟩|⟨_,_,h1,_⟩
  ·exact absurd h1 hjn
  ·rw[B.ob]; rfl
  ·rw[h1]; rfl
 have acR:Go.Ab.rowB v'=sG v':=Qu LW
 have hnew: ∀ k:Nat,Go.Ab.rowB v'=some k->k<w'.heap.size/\((∃ m ob,d=some m/\m≠i/\E.h m=some ob/\Go.Ab.rowB (E.φ m)=some k)\/E.w.heap.size<=k):=fun k hk1=>by
  rw[acR] at hk1
  refine⟨?_,(hfr k hk1).imp (hbo k) id⟩
  rcases LW with ⟨a,rfl,_⟩|⟨g',c',cur,rfl,_,_,a1,_⟩
  ·cases a<;>cases hk1
  ·cases hk1
   rcases Nat.lt_or_ge g' w'.heap.size with h'|h'
   ·exact h'
   ·simp[Array.getElem?_eq_none h'] at a1
 have JW: ∀ j ob k,E.h j=some ob->Go.Ab.rowB (E.φ j)=some k->k<E.w.heap.size:=fun j ob k hj hkb=>by
  obtain⟨k1,_⟩:=hk.obs j ob hj
  rcases k1 with ⟨_,⟨a,h1,_⟩|⟨g',c',cur,h1,_,_,h2,_⟩⟩|⟨_,g',es,cl,h1,h2,_⟩
  ·rw[h1] at hkb; cases a<;>cases hkb
  ·rw[h1] at hkb
   have hgk:g'=k:=by simpa [Go.Ab.rowB] using hkb
   rw[hgk] at h2
   rcases Nat.lt_or_ge k E.w.heap.size with h'|h'
   ·exact h'
   ·simp[Array.getElem?_eq_none h'] at h2
  ·rw[h1] at hkb
   have hgk:g'=k:=by simpa [Go.Ab.rowB] using hkb
   rw[hgk] at h2
   rcases Nat.lt_or_ge k E.w.heap.size with h'|h'
   ·exact h'
   ·simp[Array.getElem?_eq_none h'] at h2
 refine⟨_,.dM [.int s.length,.lit .nilIface],E',rfl,rfl,⟨rfl,rfl⟩,.inr ⟨rfl,?_⟩,⟨fun j ob hj=>?_,fun j ob k hj hkb=>?_,fun j1 j2 o1 o2 k h12 hj1 hj2 hb1 hb2=>?_,fun k hk1=>Nat.lt_of_lt_of_le (hk.slt k hk1) hK.size,fun k hk1=>Nat.lt_of_lt_of_le (hk.flt k hk1) hK.size,hk.sf,sQ.gl hk⟩,sQ,qL,by simp[T.ids,T.aN],fun j ob hj=>?_⟩
 ·simp[aI,bn,T.kd]
 ·rcases hcase j ob hj with ⟨rfl,rfl⟩|⟨rfl,rfl⟩|⟨hjn,hji,hj0,hdj⟩
  ·rw[ny,acQ]
   exact⟨.inl ⟨show(0:Nat)≠fF by decide,ZP LW⟩,rfl,show 0<aY 0 by decide⟩
  ·rw[xQ _ hin,ZT _ hin,hφ,Bh]
   refine⟨.inl ⟨show(3:Nat)≠fF by decide,ZR hc hb' rfl rfl rfl ?_ ?_ ?_⟩,rfl,show 0<aY 3 by decide⟩
   ·rcases LW with ⟨a,rfl,_⟩|⟨g',c',cur,rfl,_⟩<;>rfl
   ·simp only[aI,List.cons.injEq,and_true]
    refine⟨_,rfl,fun _=>⟨g,1,c+1,by rw[xQ _ hin,hφ],by simp⟩⟩
   ·simp only[aI,List.cons.injEq,and_true]
    exact⟨_,rfl,fun _=>ny.symm⟩
  ·rw[xQ j hjn,ZT j hjn]
   obtain⟨k1,k2,k3⟩:=hk.obs j ob hj0
   refine⟨k1.keep (.of sQ qL) (hm j ob hj0).2 (fun k hkb=>?_),k2,k3⟩
   obtain⟨a,b⟩:=hoth j ob k hj0 hji hdj hkb
   exact hK.block k (JW j ob k hj0 hkb) a b
 ·rcases hcase j ob hj with ⟨rfl,rfl⟩|⟨rfl,rfl⟩|⟨hjn,hji,hj0,hdj⟩
  ·rw[ny] at hkb
   rcases(hnew k hkb).2 with ⟨m,ob2,_,_,h3,h4⟩|h3
   ·exact hk.out m ob2 k h3 h4
   ·exact⟨fun hs=>absurd (hk.slt k hs) (by omega),fun hf=>absurd (hk.flt k hf) (by omega)⟩
  ·rw[xQ _ hin] at hkb; exact hk.out _ _ k B.ob hkb
  ·rw[xQ j hjn] at hkb; exact hk.out j ob k hj0 hkb
 ·have hx: ∀ j ob,E'.h j=some ob->j≠n->Go.Ab.rowB (E'.φ j)=some k->Go.Ab.rowB v'=some k->False:=fun j ob hj hjn hkb hv=>by
   rw[xQ j hjn] at hkb
   have hold: ∃ Ik,E.h j=some Ik:=by
    rcases hcase j ob hj with ⟨h1,_⟩|⟨rfl,_⟩|⟨_,_,h1,_⟩
    ·exact absurd h1 hjn
    ·exact⟨_,B.ob⟩
    ·exact⟨_,h1⟩
   obtain⟨Ik,hj0⟩:=hold
   rcases(hnew k hv).2 with ⟨m,ob2,hdm,zM,h3,h4⟩|h3
   ·refine hk.sep j m Ik ob2 k ?_ hj0 h3 hkb h4
    rintro rfl
    rcases hcase j ob hj with ⟨h1,_⟩|⟨h1,_⟩|⟨_,_,_,h1⟩
    ·exact hjn h1
    ·exact zM h1
    ·exact h1 hdm
   ·have:=JW j Ik k hj0 hkb; omega
  by_cases e1:j1=n
  ·subst e1; rw[ny] at hb1
   exact hx j2 o2 hj2 (fun e=>h12 e.symm) hb2 hb1
  by_cases e2:j2=n
  ·subst e2; rw[ny] at hb2
   exact hx j1 o1 hj1 e1 hb1 hb2
  rw[xQ j1 e1] at hb1; rw[xQ j2 e2] at hb2
  have ho: ∀ j ob,E'.h j=some ob->j≠n-> ∃ Ik,E.h j=some Ik:=fun j ob hj hjn=>by
   rcases hcase j ob hj with ⟨h1,_⟩|⟨rfl,_⟩|⟨_,_,h1,_⟩
   ·exact absurd h1 hjn
   ·exact⟨_,B.ob⟩
   ·exact⟨_,h1⟩
  obtain⟨a1,b1⟩:=ho j1 o1 hj1 e1
  obtain⟨a2,b2⟩:=ho j2 o2 hj2 e2
  exact hk.sep j1 j2 a1 a2 k h12 b1 b2 hb1 hb2
 ·rcases hcase j ob hj with ⟨rfl,rfl⟩|⟨rfl,rfl⟩|⟨hjn,hji,hj0,hdj⟩
  ·exact⟨.inr rfl,T.ak (fun _ h=>h.elim) _ (bV (LP _))⟩
  ·exact⟨.inl (hm _ _ B.ob).1,by simp only[T.aN,T.ids,and_true]; exact⟨.inl (hm _ _ B.ob).1,.inr trivial⟩⟩
  ·exact⟨.inl (hm j ob hj0).1,T.ak (fun _ h=>.inl h) _ (hm j ob hj0).2⟩
theorem aF.RI{h:Hp}{i n:Nat}{ad bf:T}{d:Option Nat}{xs:List UInt8}(B:OA h i ad bf d xs)(h0:xs≠[]) :
  aF Tryz.prog 38 [.ptr i 0 0] h n fun t h'=>t= .lit (.string (bs xs))/\h'=upd (zL h d) i none:=by
 refine⟨⟨_,_,rfl,rfl⟩,LU,fun F M E vs hk he hts hid hm hn=>?_⟩
 subst he
 obtain⟨g,c,p,q,hφ,Bh,hc,hb,hp,hbuf,hbo⟩:=B.at hk
 simp only[bg] at hts
 obtain⟨v0,r0,rfl,hv0,h2⟩:=hts
 have hr1:r0=[]:=by simpa [bn] using h2
 subst hr1
 have e0:v0= .pointer (some ⟨g,0,none⟩):=LQ hv0 (by rw[B.ob]; rfl) hφ
 subst e0
 obtain⟨gq,cq,rfl⟩: ∃ gq cq,q= .slice (some ⟨gq,0,none⟩) xs.length (cq+1):=by
  rcases hbuf with ⟨a,rfl,h1⟩|⟨g',c',cur,rfl,_⟩
  ·exact absurd (by simpa [Lib.byteCells] using h1) h0
  ·exact⟨g',c',by rw[Lib.byteCells_length]⟩
 refine(Ov lays169 ZL g c gq (cq+1) p xs E.w hb hbuf h0).mono ?_
 rintro e w' ⟨rfl,hK⟩
 have U0:Go.Ab.rowB (E.φ i)=some g:=by rw[hφ]; rfl
 obtain⟨m,obm,hdm,zM,hm2,hm3⟩:=hbo gq rfl
 have JW: ∀ j ob k,E.h j=some ob->Go.Ab.rowB (E.φ j)=some k->k<E.w.heap.size:=fun j ob k hj hkb=>by
  obtain⟨k1,_⟩:=hk.obs j ob hj
  rcases k1 with ⟨_,⟨a,h1,_⟩|⟨g',c',cur,h1,_,_,h2,_⟩⟩|⟨_,g',es,cl,h1,h2,_⟩
  ·rw[h1] at hkb; cases a<;>cases hkb
  ·rw[h1] at hkb
   have hgk:g'=k:=by simpa [Go.Ab.rowB] using hkb
   rw[hgk] at h2
   rcases Nat.lt_or_ge k E.w.heap.size with h'|h'
   ·exact h'
   ·simp[Array.getElem?_eq_none h'] at h2
  ·rw[h1] at hkb
   have hgk:g'=k:=by simpa [Go.Ab.rowB] using hkb
   rw[hgk] at h2
   rcases Nat.lt_or_ge k E.w.heap.size with h'|h'
   ·exact h'
   ·simp[Array.getElem?_eq_none h'] at h2
 let E':Env:= {E with w:=w',h:=upd (zL E.h d) i none}
 have hSF: ∀ k,E.S k\/F k->k<E.w.heap.size/\k≠g/\some k≠some gq:=fun k hk1=>by
  refine⟨hk1.elim (hk.slt k) (hk.flt k),?_,?_⟩
  ·rintro rfl
   obtain⟨a,b⟩:=hk.out i _ k B.ob U0
   exact hk1.elim a b
  ·intro hq
   obtain⟨a,b⟩:=hk.out m _ gq hm2 hm3
   cases hq
   exact hk1.elim a b
 have sQ:Ext F E E':=⟨fun _ h=>h,fun k hk1=>by obtain⟨a,b,c⟩:=hSF k hk1; exact hK.block k a b c,hK.size,hK.os,hK.tape,hK.output,hK.dr⟩
 have hcase: ∀ j ob,E'.h j=some ob->j≠i/\E.h j=some ob/\d≠some j:=fun j ob hj=>by
  by_cases h2:j=i
  ·subst h2; simp[E',upd] at hj
  have h3:zL E.h d j=some ob:=by simpa [E',upd,h2] using hj
  exact⟨h2,FT h3⟩
 have qL:Same E E' M:=fun j hj hs=>by
  obtain⟨ob,hob⟩:=Option.isSome_iff_exists.1 hs
  obtain⟨_,h1,_⟩:=hcase j ob hob
  exact⟨by rw[h1]; rfl,rfl,rfl⟩
 refine⟨_,.lit (.string (bs xs)),E',rfl,rfl,⟨rfl,rfl⟩,.inr ⟨rfl,by simp[aI,bs]⟩,⟨fun j ob hj=>?_,fun j ob k hj hkb=>?_,fun j1 j2 o1 o2 k h12 hj1 hj2 hb1 hb2=>?_,fun k hk1=>Nat.lt_of_lt_of_le (hk.slt k hk1) hK.size,fun k hk1=>Nat.lt_of_lt_of_le (hk.flt k hk1) hK.size,hk.sf,sQ.gl hk⟩,sQ,qL,trivial,fun j ob hj=>?_⟩
 ·obtain⟨hji,hj0,hdj⟩:=hcase j ob hj
  obtain⟨k1,k2,k3⟩:=hk.obs j ob hj0
  refine⟨k1.keep (.of sQ qL) (hm j ob hj0).2 (fun k hkb=>?_),k2,k3⟩
  refine hK.block k (JW j ob k hj0 hkb) ?_ ?_
  ·rintro rfl; exact hk.sep j i ob _ k hji hj0 B.ob hkb U0
  ·intro hq
   cases hq
   have:j≠m:=by rintro rfl; exact hdj hdm
   exact hk.sep j m ob obm _ this hj0 hm2 hkb hm3
 ·exact hk.out j ob k (hcase j ob hj).2.1 hkb
 ·exact hk.sep j1 j2 o1 o2 k h12 (hcase j1 o1 hj1).2.1 (hcase j2 o2 hj2).2.1 hb1 hb2
 ·have hj0:=(hcase j ob hj).2.1
  exact⟨.inl (hm j ob hj0).1,T.ak (fun _ h=>.inl h) _ (hm j ob hj0).2⟩
def RJ(l:List UInt8):OV:=.row RH 0 .nil (l.map fun b=>.u8 b.toNat)
def acS:OV:=.box 94 3 (.agg [.raw (.lit (.pointer none)),.row 0 true .nil])
def XG(i m:Nat):OV:=.box 94 3 (.agg [.ptr i 0 0,.own m])
theorem EX(l:List UInt8):(RJ l).aG=⟨RH,0,kE l⟩:=by
 simp only[RJ,OV.aG,Rw.aS,List.nil_append,kE]
 congr 1
 induction l with
 |nil=>rfl
 |cons b l ih=>simp only[List.map_cons,V.aS,ih]; rfl
theorem ah.ZU{h:Hz}{i n:Nat}{s:List UInt8}{K:V->Hz->Prop}{KW:Nat->V->Hz->Prop}(hi:h.get i=some acS)(hlen:s.length<=140737488355328)(hK:K (.dM [.int s.length,.raw (.lit .nilIface)]) ((n,some (RJ s))::(i,some (XG i n))::h)) :
  ah Tryz.prog false none 36 [.ptr i 0 0,.str s] h n K KW:=by
 have B:OA h.aj i (.lit (.pointer none)) T.nil none []:=⟨.inl rfl,.inl ⟨rfl,rfl,rfl⟩,aJ hi⟩
 refine⟨.inl (aF.mono (aF.LV B (s:=s) (by simpa using hlen)) ?_)⟩
 rintro _ _ ⟨rfl,rfl⟩
 refine⟨.dM [.int s.length,.raw (.lit .nilIface)],_,rfl,?_,(fun e=>by cases e),hK⟩
 rw[aZ,aZ]
 simp only[Option.map,EX,List.nil_append]
 rfl
theorem ah.write{h:Hz}{i m n:Nat}{xs s:List UInt8}{K:V->Hz->Prop}{KW:Nat->V->Hz->Prop}(hi:h.get i=some (XG i m))(hm:h.get m=some (RJ xs))(hlen:xs.length+s.length<=140737488355328)
  (hK:K (.dM [.int s.length,.raw (.lit .nilIface)]) ((n,some (RJ (xs++s)))::(i,some (XG i n))::(m,none)::h)):ah Tryz.prog false none 36 [.ptr i 0 0,.str s] h n K KW:=by
 have B:OA h.aj i (.ptr i 0 0) (.own m) (some m) xs:=⟨.inr rfl,.inr ⟨m,rfl,rfl,by rw[aJ hm,EX]⟩,aJ hi⟩
 refine⟨.inl (aF.mono (aF.LV B (s:=s) hlen) ?_)⟩
 rintro _ _ ⟨rfl,rfl⟩
 refine⟨.dM [.int s.length,.raw (.lit .nilIface)],_,rfl,?_,(fun e=>by cases e),hK⟩
 rw[aZ,aZ,aZ]
 simp only[Option.map,EX]
 congr 2
 funext j
 simp only[zL,upd,Option.some.injEq,eq_comm]
theorem ah.string{h:Hz}{i m n:Nat}{xs:List UInt8}{K:V->Hz->Prop}{KW:Nat->V->Hz->Prop}(hi:h.get i=some (XG i m))(hm:h.get m=some (RJ xs))(h0:xs≠[])(hK:K (.str xs) ((i,none)::(m,none)::h)) :
  ah Tryz.prog false none 38 [.ptr i 0 0] h n K KW:=by
 have B:OA h.aj i (.ptr i 0 0) (.own m) (some m) xs:=⟨.inr rfl,.inr ⟨m,rfl,rfl,by rw[aJ hm,EX]⟩,aJ hi⟩
 refine⟨.inl (aF.mono (aF.RI B h0) ?_)⟩
 rintro _ _ ⟨rfl,rfl⟩
 refine⟨.str xs,_,rfl,?_,(fun e=>by cases e),hK⟩
 rw[aZ,aZ]
 simp only[Option.map]
 congr 1
 funext j
 simp only[zL,upd,Option.some.injEq,eq_comm]
theorem S.Il(x sep:Str)(f:Bool):au Tryz.prog 64 [.row 0 f (.strs [x]),.str sep] (.str x):=by
 refine au.of Bd.strings_Join (by simp) rfl rfl ?_
 conv=>whnf
 refine Fork.mk (fun q=>absurd (q.symm.trans ((rfl:(((([x]:List Str).length:Int))==0)=false))).symm Bool.false_ne_true) (fun _=>?_)
 conv=>whnf
 conv=>whnf
 refine Fork.mk (fun _=>?_) (fun q=>absurd (q.symm.trans ((rfl:(((([x]:List Str).length:Int))==1)=true))) Bool.false_ne_true)
 conv=>whnf
 refine .mk (by simp only[Rw.rng] at *; first|omega|(simp_all; done)|(simp_all; omega)) ?_
 conv=>whnf
 exact aA.str rfl
theorem S.vO(i:Nat)(names:List Str)(f g:Bool)(hi:i<names.length)(_hn:names.length<2^30):au Tryz.prog 37 [.row 0 f (.ints [(i:Int)]),.row 0 g (.strs names)] (.str (names.getD i [])):=by
 refine au.of Bd.qZ (by simp) rfl rfl ?_
 conv=>whnf
 refine aU.times 2 rfl ?_
 conv=>whnf
 refine Fork.mk (fun _=>?_) (fun q=>absurd (q.symm.trans ((rfl:decide ((0:Int)<([(i:Int)].length:Int))=true))) Bool.false_ne_true)
 conv=>whnf
 repeat(refine VC.mk (by simp only[Rw.rng] at *; first|omega|(simp_all; done)|(simp_all; omega)) ?_; conv=>whnf)
 have hcap:oQ 16 0 (og (Rw.strs [names.getD ([(i:Int)].getD (Int.toNat 0) 0).toNat []]) []):=by
  show(0+(1+0))*16<=140737488355328/\0+(1+0)<=1152921504606846976
  omega
 conv=>whnf
 repeat(refine VC.mk (by first|(exact hcap)|(simp only[okI] at *; first|omega|(simp_all; done)|(simp_all; omega))) ?_; conv=>whnf)
 refine Fork.mk (fun q=>absurd (q.symm.trans ((rfl:decide ((1:Int)<([(i:Int)].length:Int))=false))).symm Bool.false_ne_true) (fun _=>?_)
 conv=>whnf
 refine ah.lend (S.Il (names.getD i []) [124] false) (And.intro (abE trivial rfl) (And.intro (aC _) trivial)) rfl rfl ?_
 conv=>whnf
 exact aA.str rfl
def Di(name:Str)(fr tt read write:Int):Rule:=⟨name,1,fr,tt,0,0,[],[],[],[],read,write,[],0,[],[],[],0⟩
def iK:aW:=⟨[109,120],1,[[105],[119],[99]],[],[[102,114,101,101],[104,101,108,100]],0,[],[0],[],[Di [97,115,107] 0 1 (-1) (-1),Di [116,97,107,101] 1 2 0 1,Di [108,101,97,118,101] 2 0 1 0]⟩
def zK:Prop':=⟨[101,120],1,[],[⟨[2],2⟩],[],[]⟩
def zB:Clause:=⟨[[2],[2]],[],[]⟩
def sH:Clause:=⟨[[2]],[0],[]⟩
def abG:Str:=[97,108,108,32,99,32,118,97,108,117,101,61,102,114,101,101]
theorem wQ{name:Str}{fr tt read write:Int}(_h:name.length<2^30):ru (Di name fr tt read write):=by
 constructor<;>simp[Di]
theorem uG:dI iK:=by
 refine⟨by decide,by decide,by decide,by decide,by decide,by decide,by decide,fun i=>?_,by decide⟩
 match i with
 |0=>exact wQ (by decide)
 |1=>exact wQ (by decide)
 |2=>exact wQ (by decide)
 |i+3=>constructor<;>exact(by decide:(0:Nat)<2^30)
theorem FM:oO zK:=by
 refine⟨by decide,by decide,by decide,by decide,fun i=>?_⟩
 match i with
 |0=>decide
 |i+1=>exact(by decide:(0:Nat)<2^30)
theorem IW:qY zB:=by
 refine⟨by decide,fun i=>?_,by decide,by decide⟩
 match i with
 |0=>decide
 |1=>decide
 |i+2=>exact(by decide:(0:Nat)<2^30)
theorem FK:qY sH:=by
 refine⟨by decide,fun i=>?_,by decide,by decide⟩
 match i with
 |0=>decide
 |i+1=>exact(by decide:(0:Nat)<2^30)
theorem U1:zC iK=0:=by kernel_rfl
theorem XH:xP iK sH=0:=by kernel_rfl
theorem S.Oy:au Tryz.prog 16 [.dat (.eU iK),.dat (.clause sH)] (.dM [.str abG,.int 0]):=by
 have hV:au Tryz.prog 28 [.dat (.eU iK),.dat (.clause sH)] (.int 0):=by
  have:=S.fB iK sH uG FK
  rw[U1,XH] at this; exact this
 refine au.of Bd.kV (by simp) rfl rfl ?_
 conv=>whnf
 refine ah.pure hV rfl ?_
 conv=>whnf
 refine Fork.mk (fun q=>absurd (q.symm.trans ((rfl:((0:Int) !=0)=false))).symm Bool.false_ne_true) (fun _=>?_)
 conv=>whnf
 conv=>whnf
 refine ah.ZU rfl (by decide) ?_
 conv=>whnf
 refine aU.times 2 rfl ?_
 conv=>whnf
 refine Fork.mk (fun _=>?_) (fun q=>absurd (q.symm.trans ((rfl:decide ((0:Int)<(sH.each.length:Int))=true))) Bool.false_ne_true)
 conv=>whnf
 refine .mk (by simp only[Rw.rng] at *; first|omega|(simp_all; done)|(simp_all; omega)) ?_
 conv=>whnf
 conv=>whnf
 refine ah.pure (S.vO 2 iK.states false false (by decide) (by decide)) rfl ?_
 conv=>whnf
 refine .mk (by decide) ?_
 conv=>whnf
 refine ah.write rfl rfl (by decide) ?_
 conv=>whnf
 refine .mk (by simp only[okI] at *; first|omega|(simp_all; done)|(simp_all; omega)) ?_
 conv=>whnf
 refine Fork.mk (fun q=>absurd (q.symm.trans ((rfl:decide ((1:Int)<(sH.each.length:Int))=false))).symm Bool.false_ne_true) (fun _=>?_)
 conv=>whnf
 conv=>whnf
 refine Fork.mk (fun _=>?_) (fun q=>absurd (q.symm.trans ((rfl:decide ((0:Int)<(sH.values.length:Int))=true))) Bool.false_ne_true)
 conv=>whnf
 conv=>whnf
 refine ah.pure (S.vO 0 iK.values false false (by decide) (by decide)) rfl ?_
 conv=>whnf
 refine .mk (by decide) ?_
 conv=>whnf
 refine ah.write rfl rfl (by decide) ?_
 conv=>whnf
 refine Fork.mk (fun q=>absurd (q.symm.trans ((rfl:decide ((0:Int)<(sH.some.length:Int))=false))).symm Bool.false_ne_true) (fun _=>?_)
 conv=>whnf
 conv=>whnf
 refine ah.string rfl rfl (by decide) ?_
 conv=>whnf
 exact aA.eqv rfl
end Go.Proofs.YtiakcepnlcpanaaGreatDoor
