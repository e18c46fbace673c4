/-
 A part of the proof. No condition.
-/
import Derived.Test.YtbigdcimbhgjbaaGreatDoorBa
import Derived.Test.YtbigdcimbhgjbaaGreatDoorId
namespace Go.Proofs.YtbigdcimbhgjbaaGreatDoor
open Go.Ab Go.Proofs
set_option maxRecDepth 100000
@[reducible] def Tt:Nat:=5
def kP(l:List UInt8):List T:=l.map fun b=>.lit (.int .u8 b.toNat)
theorem zN{l:List UInt8}:(kP l).length=l.length:=List.length_map ..
theorem Jo{E:Env}: ∀ {l:List UInt8} {vs:List Value},aC E 0 (kP l) vs↔vs.take l.length=Lib.byteCells l:=by
 intro l
 induction l with
 |nil=>intro vs; simp[kP,aC,Lib.byteCells]
 |cons b l ih =>
  intro vs
  cases vs with
  |nil=>simp[kP,aC,Lib.byteCells,bC]
  |cons v vs =>
   have h:=ih (vs:=vs)
   simp only[kP,Lib.byteCells] at h
   simp only[kP,List.map_cons,aC,bC,List.length_cons,List.take_succ_cons,List.take_zero,aJ,List.drop_succ_cons,List.drop_zero,h,Lib.byteCells,List.cons.injEq,List.mem_singleton,forall_eq,T.kd]
   constructor
   ·rintro⟨_,_,_,⟨h1,_⟩,h2⟩; exact⟨h1,h2⟩
   ·rintro⟨rfl,h2⟩; exact⟨trivial,by omega,rfl,⟨rfl,trivial⟩,h2⟩
theorem MQ(l:List UInt8):T.bZ (kP l)=true:=by
 rw[gY]; intro t ht; obtain⟨x,_,rfl⟩:=List.mem_map.1 ht; rfl
theorem Ro{w:World}{e:TypeId}{v:Value}{xs:List Value}(h:uy w e v xs):Go.Ab.rowB v=uz v:=by
 rcases h with ⟨a,rfl,_⟩|⟨g,c,cur,rfl,_⟩
 ·cases a<;>rfl
 ·rfl
theorem aaI{E:Env}{l:List UInt8}{v:Value}(h:Cj E ⟨Tt,0,kP l⟩ v):uy E.w Tt v (Lib.byteCells l):=by
 rcases h with ⟨a,rfl,h1⟩|⟨g,c,cur,rfl,h1,h2,h3,h4,h5⟩
 ·have:l=[]:=by simpa [kP] using h1
  subst this
  exact .inl ⟨a,rfl,rfl⟩
 ·rw[Jo] at h5
  refine .inr ⟨g,c,cur,?_,?_,h2,h3,by simpa [bC] using h4,by rw[Lib.byteCells_length]; exact h5⟩
  ·rw[Lib.byteCells_length]; show Value.slice _ (kP l).length _=_; rw[zN]
  ·rw[Lib.byteCells_length,<- zN]; exact h1
theorem aaJ{E:Env}{l:List UInt8}{v:Value}(h:uy E.w Tt v (Lib.byteCells l)):Cj E ⟨Tt,0,kP l⟩ v:=by
 rcases h with ⟨a,rfl,h1⟩|⟨g,c,cur,rfl,h1,h2,h3,h4,h5⟩
 ·have:l=[]:=by simpa [Lib.byteCells] using h1
  subst this
  exact .inl ⟨a,rfl,rfl⟩
 ·rw[Lib.byteCells_length] at h1 h5
  refine .inr ⟨g,c,cur,?_,?_,h2,h3,by simpa [bC] using h4,Jo.2 h5⟩
  ·rw[Lib.byteCells_length]; show _=Value.slice _ (kP l).length _; rw[zN]
  ·show(kP l).length<=_; rw[zN]; exact h1
theorem VG(a b:List UInt8):Lib.byteCells a++Lib.strCells (bs b)=Lib.byteCells (a++b):=by
 simp[Lib.byteCells,Lib.strCells,bs]
theorem aaK{E:Env}{ad bf:T}{v:Value}(h:Cj E ⟨43,3,[.agg [ad,bf]]⟩ v): ∃ g c p q,v= .slice (some ⟨g,0,none⟩) 1 (c+1)/\c+1<=maxLen/\lg E.w g c 43 p q/\aJ E ad [p]/\aJ E bf [q]:=by
 rcases h with ⟨a,_,h1⟩|⟨g,c,cur,rfl,h1,h2,h3,h4,h5⟩
 ·cases h1
 ·simp only[aC,aJ,aW] at h5
  obtain⟨_,h6,_,⟨_,p,r,h7,_,h8,_,q,r2,h9,_,h10,h11⟩,_⟩:=h5
  subst h11; subst h9
  have hz:bC 3=2:=rfl
  rw[hz] at h7 h6
  refine⟨g,c,p,q,rfl,h2,⟨cur,h3,h4,?_,?_⟩,h8,h10⟩
  ·have:=congrArg (fun l=>l[0]?) h7
   simpa [List.getElem?_take] using this
  ·have:=congrArg (fun l=>l[1]?) h7
   simpa [List.getElem?_take] using this
theorem aaL{E:Env}{ad bf:T}{g c:Nat}{p q:Value}(hc:c+1<=maxLen)(h:lg E.w g c 43 p q)(k1:ad.kd=0)(k2:bf.kd=0)(o1:p.oneCell'=true)(o2:q.oneCell'=true)(h1:aJ E ad [p])(h2:aJ E bf [q]):Cj E ⟨43,3,[.agg [ad,bf]]⟩ (.slice (some ⟨g,0,none⟩) 1 (c+1)):=by
 obtain⟨cur,a1,a2,a3,a4⟩:=h
 have hz:bC 3=2:=rfl
 have htk:cur.toList.take 2=[p,q]:=by
  apply List.ext_getElem?
  intro i
  rw[List.getElem?_take]
  match i with
  |0=>simpa using a3
  |1=>simpa using a4
  |i+2=>rw[if_neg (by omega)]; simp
 refine .inr ⟨g,c,cur,rfl,by simp,hc,a1,a2,?_⟩
 simp only[aC,aJ,aW,hz]
 refine⟨?_,by simp[a2]; omega,?_,⟨k1,p,[q],htk,o1,h1,k2,q,[],rfl,o2,h2,rfl⟩,trivial⟩
 ·simp[T.kd]
 ·rw[htk]; intro x hx
  simp only[List.mem_cons,List.not_mem_nil,or_false] at hx
  rcases hx with rfl|rfl
  ·exact o1
  ·exact o2
def Az(h:Hp)(d:Option Nat):Hp:=fun j=>if d=some j then none else h j
theorem Gv{h:Hp}{d:Option Nat}{j:Nat}{ob:Ob}(e:Az h d j=some ob):h j=some ob/\d≠some j:=by
 unfold Az at e
 split at e
 ·cases e
 ·exact⟨e,by assumption⟩
structure PE(h:Hp)(i:Nat)(ad bf:T)(d:Option Nat)(xs:List UInt8):Prop where
 pt:ad= .lit (.pointer none)\/ad= .ptr i 0 0
 bu:(bf=T.nil/\xs=[]/\d=none)\/ ∃ m,bf= .own m/\d=some m/\h m=some ⟨Tt,0,kP xs⟩
 ob:h i=some ⟨43,3,[.agg [ad,bf]]⟩
theorem PE.at{P:Program}{F:Fr P}{E:Env}{i:Nat}{ad bf:T}{d:Option Nat}{xs:List UInt8}(B:PE E.h i ad bf d xs)(hk:oP F E): ∃ g c p q,E.φ i= .slice (some ⟨g,0,none⟩) 1 (c+1)/\E.κ i=3/\c+1<=maxLen /\
  lg E.w g c 43 p q/\(p= .pointer none\/p= .pointer (some ⟨g,0,none⟩))/\uy E.w Tt q (Lib.byteCells xs)/\(∀ k,uz q=some k-> ∃ m ob,d=some m/\m≠i/\E.h m=some ob/\Go.Ab.rowB (E.φ m)=some k):=by
 obtain⟨k1,k2,k3⟩:=hk.obs i _ B.ob
 obtain⟨g,c,p,q,h1,h2,h3,h4,h5⟩:=aaK (k1.row (show(3:Nat)≠eU by decide))
 refine⟨g,c,p,q,h1,k2,h2,h3,?_,?_⟩
 ·rcases B.pt with e|e
  ·rw[e] at h4; simp only[aJ,List.cons.injEq,and_true] at h4; exact .inl h4
  ·rw[e] at h4
   simp only[aJ,List.cons.injEq,and_true] at h4
   obtain⟨u,rfl,h6⟩:=h4
   obtain⟨b,n',c',h7,h8⟩:=h6 (by rw[B.ob]; rfl)
   rw[h1] at h7
   simp only[Value.slice.injEq,Option.some.injEq,Addr.mk.injEq,and_true] at h7
   obtain⟨rfl,_⟩:=h7
   right; rw[h8]; simp
 ·rcases B.bu with ⟨e,rfl,hd⟩|⟨m,e,hd,h6⟩
  ·rw[e] at h5
   simp only[aJ,List.cons.injEq,and_true,List.length_nil,true_or] at h5
   obtain⟨a,c',rfl,_,h7⟩:=h5
   obtain rfl:=h7 trivial
   exact⟨.inl ⟨a,rfl,rfl⟩,fun k hk=>by cases a<;>cases hk⟩
  ·rw[e] at h5
   simp only[aJ,List.cons.injEq,and_true] at h5
   obtain⟨u,rfl,h7⟩:=h5
   have hq:=h7 (by rw[h6]; rfl)
   subst hq
   have hb:=aaI ((hk.obs m _ h6).1.row (show(0:Nat)≠eU by decide))
   refine⟨hb,fun k hk=>⟨m,_,hd,?_,h6,by rw[Ro hb]; exact hk⟩⟩
   rintro rfl
   rw[B.ob] at h6; simp at h6
theorem MR{E:Env}{i:Nat}{v:Value}(h:je E (.ptr i 0 0) v)(hi:(E.h i).isSome=true){g:Nat}{n c:Nat}(hφ:E.φ i= .slice (some ⟨g,0,none⟩) n c):v= .pointer (some ⟨g,0,none⟩):=by
 rcases h with ⟨h,_⟩|⟨_,h⟩
 ·exact absurd rfl h
 ·simp only[aJ,List.cons.injEq,and_true] at h
  obtain⟨u,rfl,h2⟩:=h
  obtain⟨b,n',c',h3,h4⟩:=h2 hi
  rw[hφ] at h3
  simp only[Value.slice.injEq,Option.some.injEq,Addr.mk.injEq,and_true] at h3
  obtain⟨rfl,_⟩:=h3
  rw[h4]; simp
theorem cellsB:Tryz.prog.cellsOf 43=2:=by kernel_rfl
theorem PG:callable Tryz.prog 11:=enters_of lays166.f166 (by kernel_rfl) rfl
theorem MS:callable Tryz.prog 13:=enters_of lays169.f169 (by kernel_rfl) rfl
theorem aP.MV{h:Hp}{i n:Nat}{ad bf:T}{d:Option Nat}{xs s:List UInt8}(B:PE h i ad bf d xs)(hlen:xs.length+s.length<=140737488355328) :
  aP Tryz.prog 11 [.ptr i 0 0,.lit (.string (bs s))] h n fun t h'=>t= .fH [.int s.length,.lit .nilIface]/\h'=upd (upd (Az h d) i (some ⟨43,3,[.agg [.ptr i 0 0,.own n]]⟩)) n (some ⟨Tt,0,kP (xs++s)⟩):=by
 refine⟨⟨_,_,rfl,rfl⟩,PG,fun F M E vs hk he hts hid hm hn=>?_⟩
 subst he
 have hin:i≠n:=fun e=>hn (e▸(hm i _ B.ob).1)
 obtain⟨g,c,p,q,hφ,Cm,hc,hb,hp,hbuf,hbo⟩:=B.at hk
 simp only[bK] at hts
 obtain⟨v0,r0,rfl,h0,v1,r1,rfl,h1,h2⟩:=hts
 have hr1:r1=[]:=by simpa [bD] using h2
 subst hr1
 have e0:v0= .pointer (some ⟨g,0,none⟩):=MR h0 (by rw[B.ob]; rfl) hφ
 subst e0
 have e1:v1= .string (bs s):=by
  rcases h1 with ⟨h,_⟩|⟨_,h⟩
  ·exact absurd rfl h
  ·simpa [aJ] using h
 subst e1
 have hsz:(bs s).size=s.length:=by simp[bs,ByteArray.size]
 refine(Tm lays166 aaF cellsB g c p q (Lib.byteCells xs) (bs s) E.w hb hp hbuf (by rw[Lib.byteCells_length,hsz]; exact hlen)).mono ?_
 rintro e w' ⟨rfl,v',hb',MW,hK,hfr⟩
 rw[VG] at MW
 rw[hsz]
 have aeh: ∀ k,uz q=some k->k<E.w.heap.size/\k≠g:=fun k hq=>by
  have hne:43≠Tt:=by decide
  rcases hbuf with ⟨a,rfl,_⟩|⟨g',c',cur,rfl,_,_,a1,_⟩
  ·cases a<;>cases hq
  ·cases hq
   refine⟨?_,?_⟩
   ·rcases Nat.lt_or_ge g' E.w.heap.size with h'|h'
    ·exact h'
    ·simp[Array.getElem?_eq_none h'] at a1
   ·rintro rfl
    obtain⟨aei,b1,_⟩:=hb
    rw[a1] at b1; simp at b1; exact hne b1.2.symm
 have hg:g<E.w.heap.size:=hb.lt
 have VH:Go.Ab.rowB (E.φ i)=some g:=by rw[hφ]; rfl
 have hoth: ∀ j ob k,E.h j=some ob->j≠i->d≠some j->Go.Ab.rowB (E.φ j)=some k->k≠g/\some k≠uz q:=fun j ob k hj hji hdj hkb=>by
  refine⟨?_,?_⟩
  ·rintro rfl; exact hk.sep j i ob _ k hji hj B.ob hkb VH
  ·intro hq
   obtain⟨m,ob2,hdm,_,hm2,hm3⟩:=hbo k hq.symm
   have:j≠m:=by rintro rfl; exact hdj hdm
   exact hk.sep j m ob ob2 k this hj hm2 hkb hm3
 let E':Env:= {y:=E.y,w:=w',S:=E.S,φ:=fun j=>if j=n then v' else E.φ j,κ:=fun j=>if j=n then 0 else E.κ j,h:=upd (upd (Az E.h d) i (some ⟨43,3,[.agg [.ptr i 0 0,.own n]]⟩)) n (some ⟨Tt,0,kP (xs++s)⟩)}
 have hSF: ∀ k,E.S k\/F k->k<E.w.heap.size/\k≠g/\some k≠uz q:=fun k hk1=>by
  refine⟨hk1.elim (hk.slt k) (hk.flt k),?_,?_⟩
  ·rintro rfl
   obtain⟨a,b⟩:=hk.out i _ k B.ob VH
   exact hk1.elim a b
  ·intro hq
   obtain⟨m,ob2,hdm,_,hm2,hm3⟩:=hbo k hq.symm
   obtain⟨a,b⟩:=hk.out m _ k hm2 hm3
   exact hk1.elim a b
 have uF:Ext F E E':=⟨fun _ h=>h,fun k hk1=>by obtain⟨a,b,c⟩:=hSF k hk1; exact hK.block k a b c,hK.size,hK.os,hK.tape,hK.output,rfl⟩
 have hn':E'.h n=some ⟨Tt,0,kP (xs++s)⟩:=by simp[E',upd]
 have hi':E'.h i=some ⟨43,3,[.agg [.ptr i 0 0,.own n]]⟩:=by simp[E',upd,hin]
 have hcase: ∀ j ob,E'.h j=some ob->(j=n/\ob=⟨Tt,0,kP (xs++s)⟩)\/(j=i/\ob=⟨43,3,[.agg [.ptr i 0 0,.own n]]⟩)\/(j≠n/\j≠i/\E.h j=some ob/\d≠some j):=fun j ob hj=>by
  by_cases h1:j=n
  ·subst h1; rw[hn'] at hj; cases hj; exact .inl ⟨rfl,rfl⟩
  by_cases h2:j=i
  ·subst h2; rw[hi'] at hj; cases hj; exact .inr (.inl ⟨rfl,rfl⟩)
  have h3:Az E.h d j=some ob:=by simpa [E',upd,h1,h2] using hj
  exact .inr (.inr ⟨h1,h2,Gv h3⟩)
 have nR:E'.φ n=v':=if_pos rfl
 have adz:E'.κ n=0:=if_pos rfl
 have yK: ∀ j,j≠n->E'.φ j=E.φ j:=fun j hj=>if_neg hj
 have aaM: ∀ j,j≠n->E'.κ j=E.κ j:=fun j hj=>if_neg hj
 have rW:Same E E' M:=fun j hj hs=>by
  obtain⟨ob,hob⟩:=Option.isSome_iff_exists.1 hs
  have hjn:j≠n:=by rintro rfl; exact hn hj
  refine⟨?_,yK j hjn,aaM j hjn⟩
  rcases hcase j ob hob with ⟨h1,_⟩|⟨rfl,_⟩|⟨_,_,h1,_⟩
  ·exact absurd h1 hjn
  ·rw[B.ob]; rfl
  ·rw[h1]; rfl
 have adA:Go.Ab.rowB v'=uz v':=Ro MW
 have hnew: ∀ k:Nat,Go.Ab.rowB v'=some k->k<w'.heap.size/\((∃ m ob,d=some m/\m≠i/\E.h m=some ob/\Go.Ab.rowB (E.φ m)=some k)\/E.w.heap.size<=k):=fun k hk1=>by
  rw[adA] at hk1
  refine⟨?_,(hfr k hk1).imp (hbo k) id⟩
  rcases MW with ⟨a,rfl,_⟩|⟨g',c',cur,rfl,_,_,a1,_⟩
  ·cases a<;>cases hk1
  ·cases hk1
   rcases Nat.lt_or_ge g' w'.heap.size with h'|h'
   ·exact h'
   ·simp[Array.getElem?_eq_none h'] at a1
 have KG: ∀ j ob k,E.h j=some ob->Go.Ab.rowB (E.φ j)=some k->k<E.w.heap.size:=fun j ob k hj hkb=>by
  obtain⟨k1,_⟩:=hk.obs j ob hj
  rcases k1 with ⟨_,⟨a,h1,_⟩|⟨g',c',cur,h1,_,_,h2,_⟩⟩|⟨_,g',es,cl,h1,h2,_⟩
  ·rw[h1] at hkb; cases a<;>cases hkb
  ·rw[h1] at hkb
   have hgk:g'=k:=by simpa [Go.Ab.rowB] using hkb
   rw[hgk] at h2
   rcases Nat.lt_or_ge k E.w.heap.size with h'|h'
   ·exact h'
   ·simp[Array.getElem?_eq_none h'] at h2
  ·rw[h1] at hkb
   have hgk:g'=k:=by simpa [Go.Ab.rowB] using hkb
   rw[hgk] at h2
   rcases Nat.lt_or_ge k E.w.heap.size with h'|h'
   ·exact h'
   ·simp[Array.getElem?_eq_none h'] at h2
 refine⟨_,.fH [.int s.length,.lit .nilIface],E',rfl,rfl,⟨rfl,rfl⟩,.inr ⟨rfl,?_⟩,⟨fun j ob hj=>?_,fun j ob k hj hkb=>?_,fun j1 j2 o1 o2 k h12 hj1 hj2 hb1 hb2=>?_,fun k hk1=>Nat.lt_of_lt_of_le (hk.slt k hk1) hK.size,fun k hk1=>Nat.lt_of_lt_of_le (hk.flt k hk1) hK.size,hk.sf,uF.gl hk⟩,uF,rW,by simp[T.ids,T.aO],fun j ob hj=>?_⟩
 ·simp[aJ,bD,T.kd]
 ·rcases hcase j ob hj with ⟨rfl,rfl⟩|⟨rfl,rfl⟩|⟨hjn,hji,hj0,hdj⟩
  ·rw[nR,adz]
   exact⟨.inl ⟨show(0:Nat)≠eU by decide,aaJ MW⟩,rfl,show 0<bC 0 by decide⟩
  ·rw[yK _ hin,aaM _ hin,hφ,Cm]
   refine⟨.inl ⟨show(3:Nat)≠eU by decide,aaL hc hb' rfl rfl rfl ?_ ?_ ?_⟩,rfl,show 0<bC 3 by decide⟩
   ·rcases MW with ⟨a,rfl,_⟩|⟨g',c',cur,rfl,_⟩<;>rfl
   ·simp only[aJ,List.cons.injEq,and_true]
    refine⟨_,rfl,fun _=>⟨g,1,c+1,by rw[yK _ hin,hφ],by simp⟩⟩
   ·simp only[aJ,List.cons.injEq,and_true]
    exact⟨_,rfl,fun _=>nR.symm⟩
  ·rw[yK j hjn,aaM j hjn]
   obtain⟨k1,k2,k3⟩:=hk.obs j ob hj0
   refine⟨k1.keep (.of uF rW) (hm j ob hj0).2 (fun k hkb=>?_),k2,k3⟩
   obtain⟨a,b⟩:=hoth j ob k hj0 hji hdj hkb
   exact hK.block k (KG j ob k hj0 hkb) a b
 ·rcases hcase j ob hj with ⟨rfl,rfl⟩|⟨rfl,rfl⟩|⟨hjn,hji,hj0,hdj⟩
  ·rw[nR] at hkb
   rcases(hnew k hkb).2 with ⟨m,ob2,_,_,h3,h4⟩|h3
   ·exact hk.out m ob2 k h3 h4
   ·exact⟨fun hs=>absurd (hk.slt k hs) (by omega),fun hf=>absurd (hk.flt k hf) (by omega)⟩
  ·rw[yK _ hin] at hkb; exact hk.out _ _ k B.ob hkb
  ·rw[yK j hjn] at hkb; exact hk.out j ob k hj0 hkb
 ·have hx: ∀ j ob,E'.h j=some ob->j≠n->Go.Ab.rowB (E'.φ j)=some k->Go.Ab.rowB v'=some k->False:=fun j ob hj hjn hkb hv=>by
   rw[yK j hjn] at hkb
   have hold: ∃ I5,E.h j=some I5:=by
    rcases hcase j ob hj with ⟨h1,_⟩|⟨rfl,_⟩|⟨_,_,h1,_⟩
    ·exact absurd h1 hjn
    ·exact⟨_,B.ob⟩
    ·exact⟨_,h1⟩
   obtain⟨I5,hj0⟩:=hold
   rcases(hnew k hv).2 with ⟨m,ob2,hdm,zO,h3,h4⟩|h3
   ·refine hk.sep j m I5 ob2 k ?_ hj0 h3 hkb h4
    rintro rfl
    rcases hcase j ob hj with ⟨h1,_⟩|⟨h1,_⟩|⟨_,_,_,h1⟩
    ·exact hjn h1
    ·exact zO h1
    ·exact h1 hdm
   ·have:=KG j I5 k hj0 hkb; omega
  by_cases e1:j1=n
  ·subst e1; rw[nR] at hb1
   exact hx j2 o2 hj2 (fun e=>h12 e.symm) hb2 hb1
  by_cases e2:j2=n
  ·subst e2; rw[nR] at hb2
   exact hx j1 o1 hj1 e1 hb1 hb2
  rw[yK j1 e1] at hb1; rw[yK j2 e2] at hb2
  have ho: ∀ j ob,E'.h j=some ob->j≠n-> ∃ I5,E.h j=some I5:=fun j ob hj hjn=>by
   rcases hcase j ob hj with ⟨h1,_⟩|⟨rfl,_⟩|⟨_,_,h1,_⟩
   ·exact absurd h1 hjn
   ·exact⟨_,B.ob⟩
   ·exact⟨_,h1⟩
  obtain⟨a1,b1⟩:=ho j1 o1 hj1 e1
  obtain⟨a2,b2⟩:=ho j2 o2 hj2 e2
  exact hk.sep j1 j2 a1 a2 k h12 b1 b2 hb1 hb2
 ·rcases hcase j ob hj with ⟨rfl,rfl⟩|⟨rfl,rfl⟩|⟨hjn,hji,hj0,hdj⟩
  ·exact⟨.inr rfl,T.ay (fun _ h=>h.elim) _ (cZ (MQ _))⟩
  ·exact⟨.inl (hm _ _ B.ob).1,by simp only[T.aO,T.ids,and_true]; exact⟨.inl (hm _ _ B.ob).1,.inr trivial⟩⟩
  ·exact⟨.inl (hm j ob hj0).1,T.ay (fun _ h=>.inl h) _ (hm j ob hj0).2⟩
theorem aP.Tv{h:Hp}{i n:Nat}{ad bf:T}{d:Option Nat}{xs:List UInt8}(B:PE h i ad bf d xs)(h0:xs≠[]) :
  aP Tryz.prog 13 [.ptr i 0 0] h n fun t h'=>t= .lit (.string (bs xs))/\h'=upd (Az h d) i none:=by
 refine⟨⟨_,_,rfl,rfl⟩,MS,fun F M E vs hk he hts hid hm hn=>?_⟩
 subst he
 obtain⟨g,c,p,q,hφ,Cm,hc,hb,hp,hbuf,hbo⟩:=B.at hk
 simp only[bK] at hts
 obtain⟨v0,r0,rfl,hv0,h2⟩:=hts
 have hr1:r0=[]:=by simpa [bD] using h2
 subst hr1
 have e0:v0= .pointer (some ⟨g,0,none⟩):=MR hv0 (by rw[B.ob]; rfl) hφ
 subst e0
 obtain⟨gq,cq,rfl⟩: ∃ gq cq,q= .slice (some ⟨gq,0,none⟩) xs.length (cq+1):=by
  rcases hbuf with ⟨a,rfl,h1⟩|⟨g',c',cur,rfl,_⟩
  ·exact absurd (by simpa [Lib.byteCells] using h1) h0
  ·exact⟨g',c',by rw[Lib.byteCells_length]⟩
 refine(Px lays169 aaG g c gq (cq+1) p xs E.w hb hbuf h0).mono ?_
 rintro e w' ⟨rfl,hK⟩
 have VH:Go.Ab.rowB (E.φ i)=some g:=by rw[hφ]; rfl
 obtain⟨m,obm,hdm,zO,hm2,hm3⟩:=hbo gq rfl
 have KG: ∀ j ob k,E.h j=some ob->Go.Ab.rowB (E.φ j)=some k->k<E.w.heap.size:=fun j ob k hj hkb=>by
  obtain⟨k1,_⟩:=hk.obs j ob hj
  rcases k1 with ⟨_,⟨a,h1,_⟩|⟨g',c',cur,h1,_,_,h2,_⟩⟩|⟨_,g',es,cl,h1,h2,_⟩
  ·rw[h1] at hkb; cases a<;>cases hkb
  ·rw[h1] at hkb
   have hgk:g'=k:=by simpa [Go.Ab.rowB] using hkb
   rw[hgk] at h2
   rcases Nat.lt_or_ge k E.w.heap.size with h'|h'
   ·exact h'
   ·simp[Array.getElem?_eq_none h'] at h2
  ·rw[h1] at hkb
   have hgk:g'=k:=by simpa [Go.Ab.rowB] using hkb
   rw[hgk] at h2
   rcases Nat.lt_or_ge k E.w.heap.size with h'|h'
   ·exact h'
   ·simp[Array.getElem?_eq_none h'] at h2
 let E':Env:= {E with w:=w',h:=upd (Az E.h d) i none}
 have hSF: ∀ k,E.S k\/F k->k<E.w.heap.size/\k≠g/\some k≠some gq:=fun k hk1=>by
  refine⟨hk1.elim (hk.slt k) (hk.flt k),?_,?_⟩
  ·rintro rfl
   obtain⟨a,b⟩:=hk.out i _ k B.ob VH
   exact hk1.elim a b
  ·intro hq
   obtain⟨a,b⟩:=hk.out m _ gq hm2 hm3
   cases hq
   exact hk1.elim a b
 have uF:Ext F E E':=⟨fun _ h=>h,fun k hk1=>by obtain⟨a,b,c⟩:=hSF k hk1; exact hK.block k a b c,hK.size,hK.os,hK.tape,hK.output,rfl⟩
 have hcase: ∀ j ob,E'.h j=some ob->j≠i/\E.h j=some ob/\d≠some j:=fun j ob hj=>by
  by_cases h2:j=i
  ·subst h2; simp[E',upd] at hj
  have h3:Az E.h d j=some ob:=by simpa [E',upd,h2] using hj
  exact⟨h2,Gv h3⟩
 have rW:Same E E' M:=fun j hj hs=>by
  obtain⟨ob,hob⟩:=Option.isSome_iff_exists.1 hs
  obtain⟨_,h1,_⟩:=hcase j ob hob
  exact⟨by rw[h1]; rfl,rfl,rfl⟩
 refine⟨_,.lit (.string (bs xs)),E',rfl,rfl,⟨rfl,rfl⟩,.inr ⟨rfl,by simp[aJ,bs]⟩,⟨fun j ob hj=>?_,fun j ob k hj hkb=>?_,fun j1 j2 o1 o2 k h12 hj1 hj2 hb1 hb2=>?_,fun k hk1=>Nat.lt_of_lt_of_le (hk.slt k hk1) hK.size,fun k hk1=>Nat.lt_of_lt_of_le (hk.flt k hk1) hK.size,hk.sf,uF.gl hk⟩,uF,rW,trivial,fun j ob hj=>?_⟩
 ·obtain⟨hji,hj0,hdj⟩:=hcase j ob hj
  obtain⟨k1,k2,k3⟩:=hk.obs j ob hj0
  refine⟨k1.keep (.of uF rW) (hm j ob hj0).2 (fun k hkb=>?_),k2,k3⟩
  refine hK.block k (KG j ob k hj0 hkb) ?_ ?_
  ·rintro rfl; exact hk.sep j i ob _ k hji hj0 B.ob hkb VH
  ·intro hq
   cases hq
   have:j≠m:=by rintro rfl; exact hdj hdm
   exact hk.sep j m ob obm _ this hj0 hm2 hkb hm3
 ·exact hk.out j ob k (hcase j ob hj).2.1 hkb
 ·exact hk.sep j1 j2 o1 o2 k h12 (hcase j1 o1 hj1).2.1 (hcase j2 o2 hj2).2.1 hb1 hb2
 ·have hj0:=(hcase j ob hj).2.1
  exact⟨.inl (hm j ob hj0).1,T.ay (fun _ h=>.inl h) _ (hm j ob hj0).2⟩
def KH(l:List UInt8):OV:=.row Tt 0 .nil (l.map fun b=>.u8 b.toNat)
def adB:OV:=.box 43 3 (.agg [.raw (.lit (.pointer none)),.row 0 true .nil])
def VI(i m:Nat):OV:=.box 43 3 (.agg [.ptr i 0 0,.own m])
theorem FP(l:List UInt8):(KH l).aF=⟨Tt,0,kP l⟩:=by
 simp only[KH,OV.aF,Rw.aX,List.nil_append,kP]
 congr 1
 induction l with
 |nil=>rfl
 |cons b l ih=>simp only[List.map_cons,V.aX,ih]; rfl
theorem ah.VJ{h:Hz}{i n:Nat}{s:List UInt8}{K:V->Hz->Prop}{KW:Nat->V->Hz->Prop}(hi:h.get i=some adB)(hlen:s.length<=140737488355328)(hK:K (.fH [.int s.length,.raw (.lit .nilIface)]) ((n,some (KH s))::(i,some (VI i n))::h)) :
  ah Tryz.prog false none 11 [.ptr i 0 0,.str s] h n K KW:=by
 have B:PE h.aj i (.lit (.pointer none)) T.nil none []:=⟨.inl rfl,.inl ⟨rfl,rfl,rfl⟩,aH hi⟩
 refine⟨.inl (aP.mono (aP.MV B (s:=s) (by simpa using hlen)) ?_)⟩
 rintro _ _ ⟨rfl,rfl⟩
 refine⟨.fH [.int s.length,.raw (.lit .nilIface)],_,rfl,?_,(fun e=>by cases e),hK⟩
 rw[aY,aY]
 simp only[Option.map,FP,List.nil_append]
 rfl
theorem ah.write{h:Hz}{i m n:Nat}{xs s:List UInt8}{K:V->Hz->Prop}{KW:Nat->V->Hz->Prop}(hi:h.get i=some (VI i m))(hm:h.get m=some (KH xs))(hlen:xs.length+s.length<=140737488355328)
  (hK:K (.fH [.int s.length,.raw (.lit .nilIface)]) ((n,some (KH (xs++s)))::(i,some (VI i n))::(m,none)::h)):ah Tryz.prog false none 11 [.ptr i 0 0,.str s] h n K KW:=by
 have B:PE h.aj i (.ptr i 0 0) (.own m) (some m) xs:=⟨.inr rfl,.inr ⟨m,rfl,rfl,by rw[aH hm,FP]⟩,aH hi⟩
 refine⟨.inl (aP.mono (aP.MV B (s:=s) hlen) ?_)⟩
 rintro _ _ ⟨rfl,rfl⟩
 refine⟨.fH [.int s.length,.raw (.lit .nilIface)],_,rfl,?_,(fun e=>by cases e),hK⟩
 rw[aY,aY,aY]
 simp only[Option.map,FP]
 congr 2
 funext j
 simp only[Az,upd,Option.some.injEq,eq_comm]
theorem ah.string{h:Hz}{i m n:Nat}{xs:List UInt8}{K:V->Hz->Prop}{KW:Nat->V->Hz->Prop}(hi:h.get i=some (VI i m))(hm:h.get m=some (KH xs))(h0:xs≠[])(hK:K (.str xs) ((i,none)::(m,none)::h)) :
  ah Tryz.prog false none 13 [.ptr i 0 0] h n K KW:=by
 have B:PE h.aj i (.ptr i 0 0) (.own m) (some m) xs:=⟨.inr rfl,.inr ⟨m,rfl,rfl,by rw[aH hm,FP]⟩,aH hi⟩
 refine⟨.inl (aP.mono (aP.Tv B h0) ?_)⟩
 rintro _ _ ⟨rfl,rfl⟩
 refine⟨.str xs,_,rfl,?_,(fun e=>by cases e),hK⟩
 rw[aY,aY]
 simp only[Option.map]
 congr 1
 funext j
 simp only[Az,upd,Option.some.injEq,eq_comm]
theorem S.I7(x sep:Str)(f:Bool):ak Tryz.prog 30 [.row 0 f (.strs [x]),.str sep] (.str x):=by
 refine ak.of Bd.strings_Join (by simp) rfl rfl ?_
 conv=>whnf
 refine Fork.mk (fun q=>absurd (q.symm.trans ((rfl:(((([x]:List Str).length:Int))==0)=false))).symm Bool.false_ne_true) (fun _=>?_)
 conv=>whnf
 conv=>whnf
 refine Fork.mk (fun _=>?_) (fun q=>absurd (q.symm.trans ((rfl:(((([x]:List Str).length:Int))==1)=true))) Bool.false_ne_true)
 conv=>whnf
 refine .mk (by simp only[Rw.rng] at *; first|omega|(simp_all; done)|(simp_all; omega)) ?_
 conv=>whnf
 exact au.str rfl
theorem S.wR(i:Nat)(names:List Str)(f g:Bool)(hi:i<names.length)(_hn:names.length<2^30):ak Tryz.prog 12 [.row 0 f (.ints [(i:Int)]),.row 0 g (.strs names)] (.str (names.getD i [])):=by
 refine ak.of Bd.fJ (by simp) rfl rfl ?_
 conv=>whnf
 refine aQ.times 2 rfl ?_
 conv=>whnf
 refine Fork.mk (fun _=>?_) (fun q=>absurd (q.symm.trans ((rfl:decide ((0:Int)<([(i:Int)].length:Int))=true))) Bool.false_ne_true)
 conv=>whnf
 repeat(refine VC.mk (by simp only[Rw.rng] at *; first|omega|(simp_all; done)|(simp_all; omega)) ?_; conv=>whnf)
 have hcap:kQ 16 0 (nO (Rw.strs [names.getD ([(i:Int)].getD (Int.toNat 0) 0).toNat []]) []):=by
  show(0+(1+0))*16<=140737488355328/\0+(1+0)<=1152921504606846976
  omega
 conv=>whnf
 repeat(refine VC.mk (by first|(exact hcap)|(simp only[okI] at *; first|omega|(simp_all; done)|(simp_all; omega))) ?_; conv=>whnf)
 refine Fork.mk (fun q=>absurd (q.symm.trans ((rfl:decide ((1:Int)<([(i:Int)].length:Int))=false))).symm Bool.false_ne_true) (fun _=>?_)
 conv=>whnf
 refine ah.lend (S.I7 (names.getD i []) [124] false) (And.intro (Rq trivial rfl) (And.intro (aB _) trivial)) rfl rfl ?_
 conv=>whnf
 exact au.str rfl
def D7(name:Str)(fr tt read write:Int):Rule:=⟨name,1,fr,tt,0,0,[],[],[],[],read,write,[],0,[],[],[],0⟩
def iQ:aS:=⟨[109,120],1,[[105],[119],[99]],[],[[102,114,101,101],[104,101,108,100]],0,[],[0],[],[D7 [97,115,107] 0 1 (-1) (-1),D7 [116,97,107,101] 1 2 0 1,D7 [108,101,97,118,101] 2 0 1 0]⟩
def Aw:Prop':=⟨[101,120],1,[],[⟨[2],2⟩],[],[]⟩
def Aj:Clause:=⟨[[2],[2]],[],[]⟩
def uD:Clause:=⟨[[2]],[0],[]⟩
def acu:Str:=[97,108,108,32,99,32,118,97,108,117,101,61,102,114,101,101]
theorem xP{name:Str}{fr tt read write:Int}(_h:name.length<2^30):wG (D7 name fr tt read write):=by
 constructor<;>simp[D7]
theorem vS:dK iQ:=by
 refine⟨by decide,by decide,by decide,by decide,by decide,by decide,by decide,fun i=>?_,by decide⟩
 match i with
 |0=>exact xP (by decide)
 |1=>exact xP (by decide)
 |2=>exact xP (by decide)
 |i+3=>constructor<;>exact(by decide:(0:Nat)<2^30)
theorem Gu:wH Aw:=by
 refine⟨by decide,by decide,by decide,by decide,fun i=>?_⟩
 match i with
 |0=>decide
 |i+1=>exact(by decide:(0:Nat)<2^30)
theorem Jm:nS Aj:=by
 refine⟨by decide,fun i=>?_,by decide,by decide⟩
 match i with
 |0=>decide
 |1=>decide
 |i+2=>exact(by decide:(0:Nat)<2^30)
theorem Gs:nS uD:=by
 refine⟨by decide,fun i=>?_,by decide,by decide⟩
 match i with
 |0=>decide
 |i+1=>exact(by decide:(0:Nat)<2^30)
theorem VK:tC iQ=0:=by kernel_rfl
theorem YM:nT iQ uD=0:=by kernel_rfl
theorem S.PD:ak Tryz.prog 4 [.dat (.eu iQ),.dat (.clause uD)] (.fH [.str acu,.int 0]):=by
 have hV:ak Tryz.prog 10 [.dat (.eu iQ),.dat (.clause uD)] (.int 0):=by
  have:=S.fB iQ uD vS Gs
  rw[VK,YM] at this; exact this
 refine ak.of Bd.bM (by simp) rfl rfl ?_
 conv=>whnf
 refine ah.pure hV rfl ?_
 conv=>whnf
 refine Fork.mk (fun q=>absurd (q.symm.trans ((rfl:((0:Int) !=0)=false))).symm Bool.false_ne_true) (fun _=>?_)
 conv=>whnf
 conv=>whnf
 refine ah.VJ rfl (by decide) ?_
 conv=>whnf
 refine aQ.times 2 rfl ?_
 conv=>whnf
 refine Fork.mk (fun _=>?_) (fun q=>absurd (q.symm.trans ((rfl:decide ((0:Int)<(uD.each.length:Int))=true))) Bool.false_ne_true)
 conv=>whnf
 refine .mk (by simp only[Rw.rng] at *; first|omega|(simp_all; done)|(simp_all; omega)) ?_
 conv=>whnf
 conv=>whnf
 refine ah.pure (S.wR 2 iQ.states false false (by decide) (by decide)) rfl ?_
 conv=>whnf
 refine .mk (by decide) ?_
 conv=>whnf
 refine ah.write rfl rfl (by decide) ?_
 conv=>whnf
 refine .mk (by simp only[okI] at *; first|omega|(simp_all; done)|(simp_all; omega)) ?_
 conv=>whnf
 refine Fork.mk (fun q=>absurd (q.symm.trans ((rfl:decide ((1:Int)<(uD.each.length:Int))=false))).symm Bool.false_ne_true) (fun _=>?_)
 conv=>whnf
 conv=>whnf
 refine Fork.mk (fun _=>?_) (fun q=>absurd (q.symm.trans ((rfl:decide ((0:Int)<(uD.values.length:Int))=true))) Bool.false_ne_true)
 conv=>whnf
 conv=>whnf
 refine ah.pure (S.wR 0 iQ.values false false (by decide) (by decide)) rfl ?_
 conv=>whnf
 refine .mk (by decide) ?_
 conv=>whnf
 refine ah.write rfl rfl (by decide) ?_
 conv=>whnf
 refine Fork.mk (fun q=>absurd (q.symm.trans ((rfl:decide ((0:Int)<(uD.some.length:Int))=false))).symm Bool.false_ne_true) (fun _=>?_)
 conv=>whnf
 conv=>whnf
 refine ah.string rfl rfl (by decide) ?_
 conv=>whnf
 exact au.eqv rfl
end Go.Proofs.YtbigdcimbhgjbaaGreatDoor
