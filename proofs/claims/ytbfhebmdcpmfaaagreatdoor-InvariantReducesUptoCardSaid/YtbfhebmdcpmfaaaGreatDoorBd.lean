/-
 A part of the proof. No condition.
-/
import Derived.Test.YtbfhebmdcpmfaaaGreatDoorBa
import Derived.Test.YtbfhebmdcpmfaaaGreatDoorId
namespace Go.Proofs.YtbfhebmdcpmfaaaGreatDoor
open Go.Ab Go.Proofs
set_option maxRecDepth 100000
@[reducible] def Sz:Nat:=5
def kJ(l:List UInt8):List T:=l.map fun b=>.lit (.int .u8 b.toNat)
theorem zL{l:List UInt8}:(kJ l).length=l.length:=List.length_map ..
theorem Jm{E:Env}: ∀ {l:List UInt8} {vs:List Value},aC E 0 (kJ l) vs↔vs.take l.length=Lib.byteCells l:=by
 intro l
 induction l with
 |nil=>intro vs; simp[kJ,aC,Lib.byteCells]
 |cons b l ih =>
  intro vs
  cases vs with
  |nil=>simp[kJ,aC,Lib.byteCells,bg]
  |cons v vs =>
   have h:=ih (vs:=vs)
   simp only[kJ,Lib.byteCells] at h
   simp only[kJ,List.map_cons,aC,bg,List.length_cons,List.take_succ_cons,List.take_zero,aI,List.drop_succ_cons,List.drop_zero,h,Lib.byteCells,List.cons.injEq,List.mem_singleton,forall_eq,T.kd]
   constructor
   ·rintro⟨_,_,_,⟨h1,_⟩,h2⟩; exact⟨h1,h2⟩
   ·rintro⟨rfl,h2⟩; exact⟨trivial,by omega,rfl,⟨rfl,trivial⟩,h2⟩
theorem MJ(l:List UInt8):T.dH (kJ l)=true:=by
 rw[ig]; intro t ht; obtain⟨x,_,rfl⟩:=List.mem_map.1 ht; rfl
theorem QT{w:World}{e:TypeId}{v:Value}{xs:List Value}(h:tV w e v xs):Go.Ab.rowB v=tX v:=by
 rcases h with ⟨a,rfl,_⟩|⟨g,c,cur,rfl,_⟩
 ·cases a<;>rfl
 ·rfl
theorem aas{E:Env}{l:List UInt8}{v:Value}(h:CO E ⟨Sz,0,kJ l⟩ v):tV E.w Sz v (Lib.byteCells l):=by
 rcases h with ⟨a,rfl,h1⟩|⟨g,c,cur,rfl,h1,h2,h3,h4,h5⟩
 ·have:l=[]:=by simpa [kJ] using h1
  subst this
  exact .inl ⟨a,rfl,rfl⟩
 ·rw[Jm] at h5
  refine .inr ⟨g,c,cur,?_,?_,h2,h3,by simpa [bg] using h4,by rw[Lib.byteCells_length]; exact h5⟩
  ·rw[Lib.byteCells_length]; show Value.slice _ (kJ l).length _=_; rw[zL]
  ·rw[Lib.byteCells_length,<- zL]; exact h1
theorem aat{E:Env}{l:List UInt8}{v:Value}(h:tV E.w Sz v (Lib.byteCells l)):CO E ⟨Sz,0,kJ l⟩ v:=by
 rcases h with ⟨a,rfl,h1⟩|⟨g,c,cur,rfl,h1,h2,h3,h4,h5⟩
 ·have:l=[]:=by simpa [Lib.byteCells] using h1
  subst this
  exact .inl ⟨a,rfl,rfl⟩
 ·rw[Lib.byteCells_length] at h1 h5
  refine .inr ⟨g,c,cur,?_,?_,h2,h3,by simpa [bg] using h4,Jm.2 h5⟩
  ·rw[Lib.byteCells_length]; show _=Value.slice _ (kJ l).length _; rw[zL]
  ·show(kJ l).length<=_; rw[zL]; exact h1
theorem Vw(a b:List UInt8):Lib.byteCells a++Lib.strCells (bs b)=Lib.byteCells (a++b):=by
 simp[Lib.byteCells,Lib.strCells,bs]
theorem aau{E:Env}{ad bf:T}{v:Value}(h:CO E ⟨96,3,[.agg [ad,bf]]⟩ v): ∃ g c p q,v= .slice (some ⟨g,0,none⟩) 1 (c+1)/\c+1<=maxLen/\kX E.w g c 96 p q/\aI E ad [p]/\aI E bf [q]:=by
 rcases h with ⟨a,_,h1⟩|⟨g,c,cur,rfl,h1,h2,h3,h4,h5⟩
 ·cases h1
 ·simp only[aC,aI,aW] at h5
  obtain⟨_,h6,_,⟨_,p,r,h7,_,h8,_,q,r2,h9,_,h10,h11⟩,_⟩:=h5
  subst h11; subst h9
  have hz:bg 3=2:=rfl
  rw[hz] at h7 h6
  refine⟨g,c,p,q,rfl,h2,⟨cur,h3,h4,?_,?_⟩,h8,h10⟩
  ·have:=congrArg (fun l=>l[0]?) h7
   simpa [List.getElem?_take] using this
  ·have:=congrArg (fun l=>l[1]?) h7
   simpa [List.getElem?_take] using this
theorem aav{E:Env}{ad bf:T}{g c:Nat}{p q:Value}(hc:c+1<=maxLen)(h:kX E.w g c 96 p q)(k1:ad.kd=0)(k2:bf.kd=0)(o1:p.oneCell'=true)(o2:q.oneCell'=true)(h1:aI E ad [p])(h2:aI E bf [q]):CO E ⟨96,3,[.agg [ad,bf]]⟩ (.slice (some ⟨g,0,none⟩) 1 (c+1)):=by
 obtain⟨cur,a1,a2,a3,a4⟩:=h
 have hz:bg 3=2:=rfl
 have htk:cur.toList.take 2=[p,q]:=by
  apply List.ext_getElem?
  intro i
  rw[List.getElem?_take]
  match i with
  |0=>simpa using a3
  |1=>simpa using a4
  |i+2=>rw[if_neg (by omega)]; simp
 refine .inr ⟨g,c,cur,rfl,by simp,hc,a1,a2,?_⟩
 simp only[aC,aI,aW,hz]
 refine⟨?_,by simp[a2]; omega,?_,⟨k1,p,[q],htk,o1,h1,k2,q,[],rfl,o2,h2,rfl⟩,trivial⟩
 ·simp[T.kd]
 ·rw[htk]; intro x hx
  simp only[List.mem_cons,List.not_mem_nil,or_false] at hx
  rcases hx with rfl|rfl
  ·exact o1
  ·exact o2
def AL(h:Hp)(d:Option Nat):Hp:=fun j=>if d=some j then none else h j
theorem Gu{h:Hp}{d:Option Nat}{j:Nat}{ob:Ob}(e:AL h d j=some ob):h j=some ob/\d≠some j:=by
 unfold AL at e
 split at e
 ·cases e
 ·exact⟨e,by assumption⟩
structure O7(h:Hp)(i:Nat)(ad bf:T)(d:Option Nat)(xs:List UInt8):Prop where
 pt:ad= .lit (.pointer none)\/ad= .ptr i 0 0
 bu:(bf=T.nil/\xs=[]/\d=none)\/ ∃ m,bf= .own m/\d=some m/\h m=some ⟨Sz,0,kJ xs⟩
 ob:h i=some ⟨96,3,[.agg [ad,bf]]⟩
theorem O7.at{P:Program}{F:Fr P}{E:Env}{i:Nat}{ad bf:T}{d:Option Nat}{xs:List UInt8}(B:O7 E.h i ad bf d xs)(hk:o7 F E): ∃ g c p q,E.φ i= .slice (some ⟨g,0,none⟩) 1 (c+1)/\E.κ i=3/\c+1<=maxLen /\
  kX E.w g c 96 p q/\(p= .pointer none\/p= .pointer (some ⟨g,0,none⟩))/\tV E.w Sz q (Lib.byteCells xs)/\(∀ k,tX q=some k-> ∃ m ob,d=some m/\m≠i/\E.h m=some ob/\Go.Ab.rowB (E.φ m)=some k):=by
 obtain⟨k1,k2,k3⟩:=hk.obs i _ B.ob
 obtain⟨g,c,p,q,h1,h2,h3,h4,h5⟩:=aau (k1.row (show(3:Nat)≠fF by decide))
 refine⟨g,c,p,q,h1,k2,h2,h3,?_,?_⟩
 ·rcases B.pt with e|e
  ·rw[e] at h4; simp only[aI,List.cons.injEq,and_true] at h4; exact .inl h4
  ·rw[e] at h4
   simp only[aI,List.cons.injEq,and_true] at h4
   obtain⟨u,rfl,h6⟩:=h4
   obtain⟨b,n',c',h7,h8⟩:=h6 (by rw[B.ob]; rfl)
   rw[h1] at h7
   simp only[Value.slice.injEq,Option.some.injEq,Addr.mk.injEq,and_true] at h7
   obtain⟨rfl,_⟩:=h7
   right; rw[h8]; simp
 ·rcases B.bu with ⟨e,rfl,hd⟩|⟨m,e,hd,h6⟩
  ·rw[e] at h5
   simp only[aI,List.cons.injEq,and_true,List.length_nil,true_or] at h5
   obtain⟨a,c',rfl,_,h7⟩:=h5
   obtain rfl:=h7 trivial
   exact⟨.inl ⟨a,rfl,rfl⟩,fun k hk=>by cases a<;>cases hk⟩
  ·rw[e] at h5
   simp only[aI,List.cons.injEq,and_true] at h5
   obtain⟨u,rfl,h7⟩:=h5
   have hq:=h7 (by rw[h6]; rfl)
   subst hq
   have hb:=aas ((hk.obs m _ h6).1.row (show(0:Nat)≠fF by decide))
   refine⟨hb,fun k hk=>⟨m,_,hd,?_,h6,by rw[QT hb]; exact hk⟩⟩
   rintro rfl
   rw[B.ob] at h6; simp at h6
theorem MK{E:Env}{i:Nat}{v:Value}(h:jm E (.ptr i 0 0) v)(hi:(E.h i).isSome=true){g:Nat}{n c:Nat}(hφ:E.φ i= .slice (some ⟨g,0,none⟩) n c):v= .pointer (some ⟨g,0,none⟩):=by
 rcases h with ⟨h,_⟩|⟨_,h⟩
 ·exact absurd rfl h
 ·simp only[aI,List.cons.injEq,and_true] at h
  obtain⟨u,rfl,h2⟩:=h
  obtain⟨b,n',c',h3,h4⟩:=h2 hi
  rw[hφ] at h3
  simp only[Value.slice.injEq,Option.some.injEq,Addr.mk.injEq,and_true] at h3
  obtain⟨rfl,_⟩:=h3
  rw[h4]; simp
theorem cellsB:Tryz.prog.cellsOf 96=2:=by kernel_rfl
theorem O8:callable Tryz.prog 45:=enters_of lays166.f166 (by kernel_rfl) rfl
theorem ML:callable Tryz.prog 47:=enters_of lays169.f169 (by kernel_rfl) rfl
theorem aN.MN{h:Hp}{i n:Nat}{ad bf:T}{d:Option Nat}{xs s:List UInt8}(B:O7 h i ad bf d xs)(hlen:xs.length+s.length<=140737488355328) :
  aN Tryz.prog 45 [.ptr i 0 0,.lit (.string (bs s))] h n fun t h'=>t= .fK [.int s.length,.lit .nilIface]/\h'=upd (upd (AL h d) i (some ⟨96,3,[.agg [.ptr i 0 0,.own n]]⟩)) n (some ⟨Sz,0,kJ (xs++s)⟩):=by
 refine⟨⟨_,_,rfl,rfl⟩,O8,fun F M E vs hk he hts hid hm hn=>?_⟩
 subst he
 have hin:i≠n:=fun e=>hn (e▸(hm i _ B.ob).1)
 obtain⟨g,c,p,q,hφ,D9,hc,hb,hp,hbuf,hbo⟩:=B.at hk
 simp only[bI] at hts
 obtain⟨v0,r0,rfl,h0,v1,r1,rfl,h1,h2⟩:=hts
 have hr1:r1=[]:=by simpa [bC] using h2
 subst hr1
 have e0:v0= .pointer (some ⟨g,0,none⟩):=MK h0 (by rw[B.ob]; rfl) hφ
 subst e0
 have e1:v1= .string (bs s):=by
  rcases h1 with ⟨h,_⟩|⟨_,h⟩
  ·exact absurd rfl h
  ·simpa [aI] using h
 subst e1
 have hsz:(bs s).size=s.length:=by simp[bs,ByteArray.size]
 refine(Sl lays166 aap cellsB g c p q (Lib.byteCells xs) (bs s) E.w hb hp hbuf (by rw[Lib.byteCells_length,hsz]; exact hlen)).mono ?_
 rintro e w' ⟨rfl,v',hb',MO,hK,hfr⟩
 rw[Vw] at MO
 rw[hsz]
 have adR: ∀ k,tX q=some k->k<E.w.heap.size/\k≠g:=fun k hq=>by
  have hne:96≠Sz:=by decide
  rcases hbuf with ⟨a,rfl,_⟩|⟨g',c',cur,rfl,_,_,a1,_⟩
  ·cases a<;>cases hq
  ·cases hq
   refine⟨?_,?_⟩
   ·rcases Nat.lt_or_ge g' E.w.heap.size with h'|h'
    ·exact h'
    ·simp[Array.getElem?_eq_none h'] at a1
   ·rintro rfl
    obtain⟨adS,b1,_⟩:=hb
    rw[a1] at b1; simp at b1; exact hne b1.2.symm
 have hg:g<E.w.heap.size:=hb.lt
 have Vx:Go.Ab.rowB (E.φ i)=some g:=by rw[hφ]; rfl
 have hoth: ∀ j ob k,E.h j=some ob->j≠i->d≠some j->Go.Ab.rowB (E.φ j)=some k->k≠g/\some k≠tX q:=fun j ob k hj hji hdj hkb=>by
  refine⟨?_,?_⟩
  ·rintro rfl; exact hk.sep j i ob _ k hji hj B.ob hkb Vx
  ·intro hq
   obtain⟨m,ob2,hdm,_,hm2,hm3⟩:=hbo k hq.symm
   have:j≠m:=by rintro rfl; exact hdj hdm
   exact hk.sep j m ob ob2 k this hj hm2 hkb hm3
 let E':Env:= {w:=w',S:=E.S,φ:=fun j=>if j=n then v' else E.φ j,κ:=fun j=>if j=n then 0 else E.κ j,h:=upd (upd (AL E.h d) i (some ⟨96,3,[.agg [.ptr i 0 0,.own n]]⟩)) n (some ⟨Sz,0,kJ (xs++s)⟩)}
 have hSF: ∀ k,E.S k\/F k->k<E.w.heap.size/\k≠g/\some k≠tX q:=fun k hk1=>by
  refine⟨hk1.elim (hk.slt k) (hk.flt k),?_,?_⟩
  ·rintro rfl
   obtain⟨a,b⟩:=hk.out i _ k B.ob Vx
   exact hk1.elim a b
  ·intro hq
   obtain⟨m,ob2,hdm,_,hm2,hm3⟩:=hbo k hq.symm
   obtain⟨a,b⟩:=hk.out m _ k hm2 hm3
   exact hk1.elim a b
 have uf:Ext F E E':=⟨fun _ h=>h,fun k hk1=>by obtain⟨a,b,c⟩:=hSF k hk1; exact hK.block k a b c,hK.size,hK.os,hK.tape,hK.output,hK.dr⟩
 have hn':E'.h n=some ⟨Sz,0,kJ (xs++s)⟩:=by simp[E',upd]
 have hi':E'.h i=some ⟨96,3,[.agg [.ptr i 0 0,.own n]]⟩:=by simp[E',upd,hin]
 have hcase: ∀ j ob,E'.h j=some ob->(j=n/\ob=⟨Sz,0,kJ (xs++s)⟩)\/(j=i/\ob=⟨96,3,[.agg [.ptr i 0 0,.own n]]⟩)\/(j≠n/\j≠i/\E.h j=some ob/\d≠some j):=fun j ob hj=>by
  by_cases h1:j=n
  ·subst h1; rw[hn'] at hj; cases hj; exact .inl ⟨rfl,rfl⟩
  by_cases h2:j=i
  ·subst h2; rw[hi'] at hj; cases hj; exact .inr (.inl ⟨rfl,rfl⟩)
  have h3:AL E.h d j=some ob:=by simpa [E',upd,h1,h2] using hj
  exact .inr (.inr ⟨h1,h2,Gu h3⟩)
 have nO:E'.φ n=v':=if_pos rfl
 have adb:E'.κ n=0:=if_pos rfl
 have yJ: ∀ j,j≠n->E'.φ j=E.φ j:=fun j hj=>if_neg hj
 have aaw: ∀ j,j≠n->E'.κ j=E.κ j:=fun j hj=>if_neg hj
 have rG:Same E E' M:=fun j hj hs=>by
  obtain⟨ob,hob⟩:=Option.isSome_iff_exists.1 hs
  have hjn:j≠n:=by rintro rfl; exact hn hj
  refine⟨?_,yJ j hjn,aaw j hjn⟩
  rcases hcase j ob hob with ⟨h1,_⟩|⟨rfl,_⟩|⟨_,_,h1,_⟩
  ·exact absurd h1 hjn
  ·rw[B.ob]; rfl
  ·rw[h1]; rfl
 have ade:Go.Ab.rowB v'=tX v':=QT MO
 have hnew: ∀ k:Nat,Go.Ab.rowB v'=some k->k<w'.heap.size/\((∃ m ob,d=some m/\m≠i/\E.h m=some ob/\Go.Ab.rowB (E.φ m)=some k)\/E.w.heap.size<=k):=fun k hk1=>by
  rw[ade] at hk1
  refine⟨?_,(hfr k hk1).imp (hbo k) id⟩
  rcases MO with ⟨a,rfl,_⟩|⟨g',c',cur,rfl,_,_,a1,_⟩
  ·cases a<;>cases hk1
  ·cases hk1
   rcases Nat.lt_or_ge g' w'.heap.size with h'|h'
   ·exact h'
   ·simp[Array.getElem?_eq_none h'] at a1
 have KC: ∀ j ob k,E.h j=some ob->Go.Ab.rowB (E.φ j)=some k->k<E.w.heap.size:=fun j ob k hj hkb=>by
  obtain⟨k1,_⟩:=hk.obs j ob hj
  rcases k1 with ⟨_,⟨a,h1,_⟩|⟨g',c',cur,h1,_,_,h2,_⟩⟩|⟨_,g',es,cl,h1,h2,_⟩
  ·rw[h1] at hkb; cases a<;>cases hkb
  ·rw[h1] at hkb
   have hgk:g'=k:=by simpa [Go.Ab.rowB] using hkb
   rw[hgk] at h2
   rcases Nat.lt_or_ge k E.w.heap.size with h'|h'
   ·exact h'
   ·simp[Array.getElem?_eq_none h'] at h2
  ·rw[h1] at hkb
   have hgk:g'=k:=by simpa [Go.Ab.rowB] using hkb
   rw[hgk] at h2
   rcases Nat.lt_or_ge k E.w.heap.size with h'|h'
   ·exact h'
   ·simp[Array.getElem?_eq_none h'] at h2
 refine⟨_,.fK [.int s.length,.lit .nilIface],E',rfl,rfl,⟨rfl,rfl⟩,.inr ⟨rfl,?_⟩,⟨fun j ob hj=>?_,fun j ob k hj hkb=>?_,fun j1 j2 o1 o2 k h12 hj1 hj2 hb1 hb2=>?_,fun k hk1=>Nat.lt_of_lt_of_le (hk.slt k hk1) hK.size,fun k hk1=>Nat.lt_of_lt_of_le (hk.flt k hk1) hK.size,hk.sf,uf.gl hk⟩,uf,rG,by simp[T.ids,T.aO],fun j ob hj=>?_⟩
 ·simp[aI,bC,T.kd]
 ·rcases hcase j ob hj with ⟨rfl,rfl⟩|⟨rfl,rfl⟩|⟨hjn,hji,hj0,hdj⟩
  ·rw[nO,adb]
   exact⟨.inl ⟨show(0:Nat)≠fF by decide,aat MO⟩,rfl,show 0<bg 0 by decide⟩
  ·rw[yJ _ hin,aaw _ hin,hφ,D9]
   refine⟨.inl ⟨show(3:Nat)≠fF by decide,aav hc hb' rfl rfl rfl ?_ ?_ ?_⟩,rfl,show 0<bg 3 by decide⟩
   ·rcases MO with ⟨a,rfl,_⟩|⟨g',c',cur,rfl,_⟩<;>rfl
   ·simp only[aI,List.cons.injEq,and_true]
    refine⟨_,rfl,fun _=>⟨g,1,c+1,by rw[yJ _ hin,hφ],by simp⟩⟩
   ·simp only[aI,List.cons.injEq,and_true]
    exact⟨_,rfl,fun _=>nO.symm⟩
  ·rw[yJ j hjn,aaw j hjn]
   obtain⟨k1,k2,k3⟩:=hk.obs j ob hj0
   refine⟨k1.keep (.of uf rG) (hm j ob hj0).2 (fun k hkb=>?_),k2,k3⟩
   obtain⟨a,b⟩:=hoth j ob k hj0 hji hdj hkb
   exact hK.block k (KC j ob k hj0 hkb) a b
 ·rcases hcase j ob hj with ⟨rfl,rfl⟩|⟨rfl,rfl⟩|⟨hjn,hji,hj0,hdj⟩
  ·rw[nO] at hkb
   rcases(hnew k hkb).2 with ⟨m,ob2,_,_,h3,h4⟩|h3
   ·exact hk.out m ob2 k h3 h4
   ·exact⟨fun hs=>absurd (hk.slt k hs) (by omega),fun hf=>absurd (hk.flt k hf) (by omega)⟩
  ·rw[yJ _ hin] at hkb; exact hk.out _ _ k B.ob hkb
  ·rw[yJ j hjn] at hkb; exact hk.out j ob k hj0 hkb
 ·have hx: ∀ j ob,E'.h j=some ob->j≠n->Go.Ab.rowB (E'.φ j)=some k->Go.Ab.rowB v'=some k->False:=fun j ob hj hjn hkb hv=>by
   rw[yJ j hjn] at hkb
   have hold: ∃ IU,E.h j=some IU:=by
    rcases hcase j ob hj with ⟨h1,_⟩|⟨rfl,_⟩|⟨_,_,h1,_⟩
    ·exact absurd h1 hjn
    ·exact⟨_,B.ob⟩
    ·exact⟨_,h1⟩
   obtain⟨IU,hj0⟩:=hold
   rcases(hnew k hv).2 with ⟨m,ob2,hdm,AO,h3,h4⟩|h3
   ·refine hk.sep j m IU ob2 k ?_ hj0 h3 hkb h4
    rintro rfl
    rcases hcase j ob hj with ⟨h1,_⟩|⟨h1,_⟩|⟨_,_,_,h1⟩
    ·exact hjn h1
    ·exact AO h1
    ·exact h1 hdm
   ·have:=KC j IU k hj0 hkb; omega
  by_cases e1:j1=n
  ·subst e1; rw[nO] at hb1
   exact hx j2 o2 hj2 (fun e=>h12 e.symm) hb2 hb1
  by_cases e2:j2=n
  ·subst e2; rw[nO] at hb2
   exact hx j1 o1 hj1 e1 hb1 hb2
  rw[yJ j1 e1] at hb1; rw[yJ j2 e2] at hb2
  have ho: ∀ j ob,E'.h j=some ob->j≠n-> ∃ IU,E.h j=some IU:=fun j ob hj hjn=>by
   rcases hcase j ob hj with ⟨h1,_⟩|⟨rfl,_⟩|⟨_,_,h1,_⟩
   ·exact absurd h1 hjn
   ·exact⟨_,B.ob⟩
   ·exact⟨_,h1⟩
  obtain⟨a1,b1⟩:=ho j1 o1 hj1 e1
  obtain⟨a2,b2⟩:=ho j2 o2 hj2 e2
  exact hk.sep j1 j2 a1 a2 k h12 b1 b2 hb1 hb2
 ·rcases hcase j ob hj with ⟨rfl,rfl⟩|⟨rfl,rfl⟩|⟨hjn,hji,hj0,hdj⟩
  ·exact⟨.inr rfl,T.ay (fun _ h=>h.elim) _ (dw (MJ _))⟩
  ·exact⟨.inl (hm _ _ B.ob).1,by simp only[T.aO,T.ids,and_true]; exact⟨.inl (hm _ _ B.ob).1,.inr trivial⟩⟩
  ·exact⟨.inl (hm j ob hj0).1,T.ay (fun _ h=>.inl h) _ (hm j ob hj0).2⟩
theorem aN.SA{h:Hp}{i n:Nat}{ad bf:T}{d:Option Nat}{xs:List UInt8}(B:O7 h i ad bf d xs)(h0:xs≠[]) :
  aN Tryz.prog 47 [.ptr i 0 0] h n fun t h'=>t= .lit (.string (bs xs))/\h'=upd (AL h d) i none:=by
 refine⟨⟨_,_,rfl,rfl⟩,ML,fun F M E vs hk he hts hid hm hn=>?_⟩
 subst he
 obtain⟨g,c,p,q,hφ,D9,hc,hb,hp,hbuf,hbo⟩:=B.at hk
 simp only[bI] at hts
 obtain⟨v0,r0,rfl,hv0,h2⟩:=hts
 have hr1:r0=[]:=by simpa [bC] using h2
 subst hr1
 have e0:v0= .pointer (some ⟨g,0,none⟩):=MK hv0 (by rw[B.ob]; rfl) hφ
 subst e0
 obtain⟨gq,cq,rfl⟩: ∃ gq cq,q= .slice (some ⟨gq,0,none⟩) xs.length (cq+1):=by
  rcases hbuf with ⟨a,rfl,h1⟩|⟨g',c',cur,rfl,_⟩
  ·exact absurd (by simpa [Lib.byteCells] using h1) h0
  ·exact⟨g',c',by rw[Lib.byteCells_length]⟩
 refine(OY lays169 aaq g c gq (cq+1) p xs E.w hb hbuf h0).mono ?_
 rintro e w' ⟨rfl,hK⟩
 have Vx:Go.Ab.rowB (E.φ i)=some g:=by rw[hφ]; rfl
 obtain⟨m,obm,hdm,AO,hm2,hm3⟩:=hbo gq rfl
 have KC: ∀ j ob k,E.h j=some ob->Go.Ab.rowB (E.φ j)=some k->k<E.w.heap.size:=fun j ob k hj hkb=>by
  obtain⟨k1,_⟩:=hk.obs j ob hj
  rcases k1 with ⟨_,⟨a,h1,_⟩|⟨g',c',cur,h1,_,_,h2,_⟩⟩|⟨_,g',es,cl,h1,h2,_⟩
  ·rw[h1] at hkb; cases a<;>cases hkb
  ·rw[h1] at hkb
   have hgk:g'=k:=by simpa [Go.Ab.rowB] using hkb
   rw[hgk] at h2
   rcases Nat.lt_or_ge k E.w.heap.size with h'|h'
   ·exact h'
   ·simp[Array.getElem?_eq_none h'] at h2
  ·rw[h1] at hkb
   have hgk:g'=k:=by simpa [Go.Ab.rowB] using hkb
   rw[hgk] at h2
   rcases Nat.lt_or_ge k E.w.heap.size with h'|h'
   ·exact h'
   ·simp[Array.getElem?_eq_none h'] at h2
 let E':Env:= {E with w:=w',h:=upd (AL E.h d) i none}
 have hSF: ∀ k,E.S k\/F k->k<E.w.heap.size/\k≠g/\some k≠some gq:=fun k hk1=>by
  refine⟨hk1.elim (hk.slt k) (hk.flt k),?_,?_⟩
  ·rintro rfl
   obtain⟨a,b⟩:=hk.out i _ k B.ob Vx
   exact hk1.elim a b
  ·intro hq
   obtain⟨a,b⟩:=hk.out m _ gq hm2 hm3
   cases hq
   exact hk1.elim a b
 have uf:Ext F E E':=⟨fun _ h=>h,fun k hk1=>by obtain⟨a,b,c⟩:=hSF k hk1; exact hK.block k a b c,hK.size,hK.os,hK.tape,hK.output,hK.dr⟩
 have hcase: ∀ j ob,E'.h j=some ob->j≠i/\E.h j=some ob/\d≠some j:=fun j ob hj=>by
  by_cases h2:j=i
  ·subst h2; simp[E',upd] at hj
  have h3:AL E.h d j=some ob:=by simpa [E',upd,h2] using hj
  exact⟨h2,Gu h3⟩
 have rG:Same E E' M:=fun j hj hs=>by
  obtain⟨ob,hob⟩:=Option.isSome_iff_exists.1 hs
  obtain⟨_,h1,_⟩:=hcase j ob hob
  exact⟨by rw[h1]; rfl,rfl,rfl⟩
 refine⟨_,.lit (.string (bs xs)),E',rfl,rfl,⟨rfl,rfl⟩,.inr ⟨rfl,by simp[aI,bs]⟩,⟨fun j ob hj=>?_,fun j ob k hj hkb=>?_,fun j1 j2 o1 o2 k h12 hj1 hj2 hb1 hb2=>?_,fun k hk1=>Nat.lt_of_lt_of_le (hk.slt k hk1) hK.size,fun k hk1=>Nat.lt_of_lt_of_le (hk.flt k hk1) hK.size,hk.sf,uf.gl hk⟩,uf,rG,trivial,fun j ob hj=>?_⟩
 ·obtain⟨hji,hj0,hdj⟩:=hcase j ob hj
  obtain⟨k1,k2,k3⟩:=hk.obs j ob hj0
  refine⟨k1.keep (.of uf rG) (hm j ob hj0).2 (fun k hkb=>?_),k2,k3⟩
  refine hK.block k (KC j ob k hj0 hkb) ?_ ?_
  ·rintro rfl; exact hk.sep j i ob _ k hji hj0 B.ob hkb Vx
  ·intro hq
   cases hq
   have:j≠m:=by rintro rfl; exact hdj hdm
   exact hk.sep j m ob obm _ this hj0 hm2 hkb hm3
 ·exact hk.out j ob k (hcase j ob hj).2.1 hkb
 ·exact hk.sep j1 j2 o1 o2 k h12 (hcase j1 o1 hj1).2.1 (hcase j2 o2 hj2).2.1 hb1 hb2
 ·have hj0:=(hcase j ob hj).2.1
  exact⟨.inl (hm j ob hj0).1,T.ay (fun _ h=>.inl h) _ (hm j ob hj0).2⟩
def SB(l:List UInt8):OV:=.row Sz 0 .nil (l.map fun b=>.u8 b.toNat)
def adf:OV:=.box 96 3 (.agg [.raw (.lit (.pointer none)),.row 0 true .nil])
def Yq(i m:Nat):OV:=.box 96 3 (.agg [.ptr i 0 0,.own m])
theorem FP(l:List UInt8):(SB l).aF=⟨Sz,0,kJ l⟩:=by
 simp only[SB,OV.aF,Rw.aT,List.nil_append,kJ]
 congr 1
 induction l with
 |nil=>rfl
 |cons b l ih=>simp only[List.map_cons,V.aT,ih]; rfl
theorem ah.aax{h:Hz}{i n:Nat}{s:List UInt8}{K:V->Hz->Prop}{KW:Nat->V->Hz->Prop}(hi:h.get i=some adf)(hlen:s.length<=140737488355328)(hK:K (.fK [.int s.length,.raw (.lit .nilIface)]) ((n,some (SB s))::(i,some (Yq i n))::h)) :
  ah Tryz.prog false none 45 [.ptr i 0 0,.str s] h n K KW:=by
 have B:O7 h.aj i (.lit (.pointer none)) T.nil none []:=⟨.inl rfl,.inl ⟨rfl,rfl,rfl⟩,aH hi⟩
 refine⟨.inl (aN.mono (aN.MN B (s:=s) (by simpa using hlen)) ?_)⟩
 rintro _ _ ⟨rfl,rfl⟩
 refine⟨.fK [.int s.length,.raw (.lit .nilIface)],_,rfl,?_,(fun e=>by cases e),hK⟩
 rw[bD,bD]
 simp only[Option.map,FP,List.nil_append]
 rfl
theorem ah.write{h:Hz}{i m n:Nat}{xs s:List UInt8}{K:V->Hz->Prop}{KW:Nat->V->Hz->Prop}(hi:h.get i=some (Yq i m))(hm:h.get m=some (SB xs))(hlen:xs.length+s.length<=140737488355328)
  (hK:K (.fK [.int s.length,.raw (.lit .nilIface)]) ((n,some (SB (xs++s)))::(i,some (Yq i n))::(m,none)::h)):ah Tryz.prog false none 45 [.ptr i 0 0,.str s] h n K KW:=by
 have B:O7 h.aj i (.ptr i 0 0) (.own m) (some m) xs:=⟨.inr rfl,.inr ⟨m,rfl,rfl,by rw[aH hm,FP]⟩,aH hi⟩
 refine⟨.inl (aN.mono (aN.MN B (s:=s) hlen) ?_)⟩
 rintro _ _ ⟨rfl,rfl⟩
 refine⟨.fK [.int s.length,.raw (.lit .nilIface)],_,rfl,?_,(fun e=>by cases e),hK⟩
 rw[bD,bD,bD]
 simp only[Option.map,FP]
 congr 2
 funext j
 simp only[AL,upd,Option.some.injEq,eq_comm]
theorem ah.string{h:Hz}{i m n:Nat}{xs:List UInt8}{K:V->Hz->Prop}{KW:Nat->V->Hz->Prop}(hi:h.get i=some (Yq i m))(hm:h.get m=some (SB xs))(h0:xs≠[])(hK:K (.str xs) ((i,none)::(m,none)::h)) :
  ah Tryz.prog false none 47 [.ptr i 0 0] h n K KW:=by
 have B:O7 h.aj i (.ptr i 0 0) (.own m) (some m) xs:=⟨.inr rfl,.inr ⟨m,rfl,rfl,by rw[aH hm,FP]⟩,aH hi⟩
 refine⟨.inl (aN.mono (aN.SA B h0) ?_)⟩
 rintro _ _ ⟨rfl,rfl⟩
 refine⟨.str xs,_,rfl,?_,(fun e=>by cases e),hK⟩
 rw[bD,bD]
 simp only[Option.map]
 congr 1
 funext j
 simp only[AL,upd,Option.some.injEq,eq_comm]
theorem S.IV(x sep:Str)(f:Bool):ak Tryz.prog 68 [.row 0 f (.strs [x]),.str sep] (.str x):=by
 refine ak.of Bd.strings_Join (by simp) rfl rfl ?_
 conv=>whnf
 refine Fork.mk (fun q=>absurd (q.symm.trans ((rfl:(((([x]:List Str).length:Int))==0)=false))).symm Bool.false_ne_true) (fun _=>?_)
 conv=>whnf
 conv=>whnf
 refine Fork.mk (fun _=>?_) (fun q=>absurd (q.symm.trans ((rfl:(((([x]:List Str).length:Int))==1)=true))) Bool.false_ne_true)
 conv=>whnf
 refine .mk (by simp only[Rw.rng] at *; first|omega|(simp_all; done)|(simp_all; omega)) ?_
 conv=>whnf
 exact au.str rfl
theorem S.vZ(i:Nat)(names:List Str)(f g:Bool)(hi:i<names.length)(_hn:names.length<2^30):ak Tryz.prog 46 [.row 0 f (.ints [(i:Int)]),.row 0 g (.strs names)] (.str (names.getD i [])):=by
 refine ak.of Bd.sD (by simp) rfl rfl ?_
 conv=>whnf
 refine aJ.times 2 rfl ?_
 conv=>whnf
 refine Fork.mk (fun _=>?_) (fun q=>absurd (q.symm.trans ((rfl:decide ((0:Int)<([(i:Int)].length:Int))=true))) Bool.false_ne_true)
 conv=>whnf
 repeat(refine VC.mk (by simp only[Rw.rng] at *; first|omega|(simp_all; done)|(simp_all; omega)) ?_; conv=>whnf)
 have hcap:mD 16 0 (lH (Rw.strs [names.getD ([(i:Int)].getD (Int.toNat 0) 0).toNat []]) []):=by
  show(0+(1+0))*16<=140737488355328/\0+(1+0)<=1152921504606846976
  omega
 conv=>whnf
 repeat(refine VC.mk (by first|(exact hcap)|(simp only[okI] at *; first|omega|(simp_all; done)|(simp_all; omega))) ?_; conv=>whnf)
 refine Fork.mk (fun q=>absurd (q.symm.trans ((rfl:decide ((1:Int)<([(i:Int)].length:Int))=false))).symm Bool.false_ne_true) (fun _=>?_)
 conv=>whnf
 refine ah.lend (S.IV (names.getD i []) [124] false) (And.intro (ZW trivial rfl) (And.intro (aB _) trivial)) rfl rfl ?_
 conv=>whnf
 exact au.str rfl
def D7(name:Str)(fr tt read write:Int):Rule:=⟨name,1,fr,tt,0,0,[],[],[],[],read,write,[],0,[],[],[],0⟩
def iQ:aU:=⟨[109,120],1,[[105],[119],[99]],[],[[102,114,101,101],[104,101,108,100]],0,[],[0],[],[D7 [97,115,107] 0 1 (-1) (-1),D7 [116,97,107,101] 1 2 0 1,D7 [108,101,97,118,101] 2 0 1 0]⟩
def AB:Prop':=⟨[101,120],1,[],[⟨[2],2⟩],[],[]⟩
def Ap:Clause:=⟨[[2],[2]],[],[]⟩
def tY:Clause:=⟨[[2]],[0],[]⟩
def acd:Str:=[97,108,108,32,99,32,118,97,108,117,101,61,102,114,101,101]
theorem xC{name:Str}{fr tt read write:Int}(_h:name.length<2^30):vN (D7 name fr tt read write):=by
 constructor<;>simp[D7]
theorem uV:dh iQ:=by
 refine⟨by decide,by decide,by decide,by decide,by decide,by decide,by decide,fun i=>?_,by decide⟩
 match i with
 |0=>exact xC (by decide)
 |1=>exact xC (by decide)
 |2=>exact xC (by decide)
 |i+3=>constructor<;>exact(by decide:(0:Nat)<2^30)
theorem Gp:vO AB:=by
 refine⟨by decide,by decide,by decide,by decide,fun i=>?_⟩
 match i with
 |0=>decide
 |i+1=>exact(by decide:(0:Nat)<2^30)
theorem Jk:o9 Ap:=by
 refine⟨by decide,fun i=>?_,by decide,by decide⟩
 match i with
 |0=>decide
 |1=>decide
 |i+2=>exact(by decide:(0:Nat)<2^30)
theorem Gn:o9 tY:=by
 refine⟨by decide,fun i=>?_,by decide,by decide⟩
 match i with
 |0=>decide
 |i+1=>exact(by decide:(0:Nat)<2^30)
theorem Vy:xB iQ=0:=by kernel_rfl
theorem Yr:uX iQ tY=0:=by kernel_rfl
theorem S.O4:ak Tryz.prog 25 [.dat (.dF iQ),.dat (.clause tY)] (.fK [.str acd,.int 0]):=by
 have hV:ak Tryz.prog 9 [.dat (.dF iQ),.dat (.clause tY)] (.int 0):=by
  have:=S.gQ iQ tY uV Gn
  rw[Vy,Yr] at this; exact this
 refine ak.of Bd.lq (by simp) rfl rfl ?_
 conv=>whnf
 refine ah.pure hV rfl ?_
 conv=>whnf
 refine Fork.mk (fun q=>absurd (q.symm.trans ((rfl:((0:Int) !=0)=false))).symm Bool.false_ne_true) (fun _=>?_)
 conv=>whnf
 conv=>whnf
 refine ah.aax rfl (by decide) ?_
 conv=>whnf
 refine aJ.times 2 rfl ?_
 conv=>whnf
 refine Fork.mk (fun _=>?_) (fun q=>absurd (q.symm.trans ((rfl:decide ((0:Int)<(tY.each.length:Int))=true))) Bool.false_ne_true)
 conv=>whnf
 refine .mk (by simp only[Rw.rng] at *; first|omega|(simp_all; done)|(simp_all; omega)) ?_
 conv=>whnf
 conv=>whnf
 refine ah.pure (S.vZ 2 iQ.states false false (by decide) (by decide)) rfl ?_
 conv=>whnf
 refine .mk (by decide) ?_
 conv=>whnf
 refine ah.write rfl rfl (by decide) ?_
 conv=>whnf
 refine .mk (by simp only[okI] at *; first|omega|(simp_all; done)|(simp_all; omega)) ?_
 conv=>whnf
 refine Fork.mk (fun q=>absurd (q.symm.trans ((rfl:decide ((1:Int)<(tY.each.length:Int))=false))).symm Bool.false_ne_true) (fun _=>?_)
 conv=>whnf
 conv=>whnf
 refine Fork.mk (fun _=>?_) (fun q=>absurd (q.symm.trans ((rfl:decide ((0:Int)<(tY.values.length:Int))=true))) Bool.false_ne_true)
 conv=>whnf
 conv=>whnf
 refine ah.pure (S.vZ 0 iQ.values false false (by decide) (by decide)) rfl ?_
 conv=>whnf
 refine .mk (by decide) ?_
 conv=>whnf
 refine ah.write rfl rfl (by decide) ?_
 conv=>whnf
 refine Fork.mk (fun q=>absurd (q.symm.trans ((rfl:decide ((0:Int)<(tY.some.length:Int))=false))).symm Bool.false_ne_true) (fun _=>?_)
 conv=>whnf
 conv=>whnf
 refine ah.string rfl rfl (by decide) ?_
 conv=>whnf
 exact au.eqv rfl
end Go.Proofs.YtbfhebmdcpmfaaaGreatDoor
