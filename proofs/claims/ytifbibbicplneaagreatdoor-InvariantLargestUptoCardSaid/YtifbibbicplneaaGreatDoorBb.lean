/-
 A part of the proof. No condition.
-/
import Derived.Test.YtifbibbicplneaaGreatDoorId
import Derived.Test.YtifbibbicplneaaGreatDoorBd
namespace Go.Proofs.YtifbibbicplneaaGreatDoor
open Go.Ab Go.Proofs
set_option maxRecDepth 100000
theorem aU.Xt{P:Program}{f:FuncId}{ts ts':List T}{h h2:Hz}{n:Nat}{K:T->Hp->Prop}(Z:Nat->Prop)(W:JV Z h h2)(hs:T.dG Z h.au ts ts')(H:aU P f ts h2.au n K):aU P f ts' h.au n K:=by
 obtain⟨hex,hcl,hcall⟩:=H
 refine⟨hex,hcl,fun F M E vs hk he hts hid hm hn=>?_⟩
 have hget: ∀ i ob,h2.au i=some ob-> ∃ ob',E.h (id i)=some ob'/\ ¬ Z (id i)/\ob'.ty=ob.ty/\ob'.k=ob.k/\T.dG Z E.h ob.l ob'.l/\ob.l.map T.kd=ob'.l.map T.kd/\ob.l.map iq=ob'.l.map iq:=fun i ob hi=>by
  simp only[Hz.au,Option.map_eq_some_iff] at hi
  obtain⟨o,e1,rfl⟩:=hi
  obtain⟨o',a1,a2,a3,a4,a5,a6,a7⟩:=H6 W e1
  exact⟨o'.aH,by rw[he]; exact aJ a1,a2,a3,a4,by rw[he]; exact a5,a6,a7⟩
 have hob: ∀ i ob,h2.au i=some ob-> ∃ ob',E.h (id i)=some ob'/\ ¬ Z (id i)/\KC Z E.h id ob ob':=fun i ob hi=>by
  obtain⟨ob',a1,a2,a3,a4,a5,a6,a7⟩:=hget i ob hi
  refine⟨ob',a1,a2,a3,a4,by rw[MO]; exact a5,?_⟩
  rcases(hk.obs _ _ a1).1.kinds with ⟨k1,k2⟩|⟨k1,k2⟩
  ·exact .inl ⟨by rw[<- a4]; exact k1,Ou a7 k2⟩
  ·exact .inr ⟨by rw[<- a4]; exact k1,by rw[<- a4]; exact KD a6 k2⟩
 have hl: ∀ i,(h2.au i).isSome=true->((E.shut Z).h (id i)).isSome=true:=fun i hi=>by
  obtain⟨ob,hi'⟩:=Option.isSome_iff_exists.1 hi
  obtain⟨ob',a1,a2,_⟩:=hob i ob hi'
  rw[yG a2,a1]; rfl
 have aeK:T.aS M ts:=sS _ _ hs hid
 have hvs:bM ((E.shut Z).ren id h2.au) ts vs:=by
  refine xq hl _ _ ?_
  rw[MO]
  exact pJ hk _ _ (by rw[he]; exact hs) _ hts
 refine(hcall F M ((E.shut Z).ren id h2.au) vs (hk.ren hob fun _ _ _ _ e=>e) rfl hvs aeK (fun i ob hi=>?_) hn).mono ?_
 ·obtain⟨ob',a1,_,_,_,a5,_⟩:=hget i ob hi
  rw[he] at a1
  exact⟨(hm i ob' a1).1,sS _ _ a5 (hm i ob' a1).2⟩
 ·rintro e w' ⟨v,t',E',rfl,rfl,hp,hv,hk',hext,hS,h7,h8⟩
  refine⟨v,t',E',rfl,rfl,hp,hv,hk',⟨fun g hg=>hext.s g (.inl hg),fun g hg=>hext.w g (hg.imp .inl id),hext.size,hext.os,hext.tape,hext.output,hext.dr⟩,fun i hi hi2=>?_,h7,h8⟩
  obtain⟨a,b,c⟩:=hS i hi hi2
  exact⟨(zI (hl i a)).1,b,c⟩
theorem ah.Xt{P:Program}{f:FuncId}{args args':List V}{h h2:Hz}{n:Nat}{K:V->Hz->Prop}{KW:Nat->V->Hz->Prop}(Z:Nat->Prop)(W:JV Z h h2)(hs:T.dG Z h.au (V.aW args') (V.aW args))
  (H:aU P f (V.aW args') h2.au n fun t hp=> ∃ v h',t=v.aI/\hp=h'.au/\(false=true->h'=h2/\t.free=true)/\K v h'):ah P false none f args h n K KW :=
 ⟨.inl (aU.mono (aU.Xt Z W hs H) fun _ _ ⟨v,h',a,b,_,d⟩=>⟨v,h',a,b,(fun e=>by cases e),d⟩)⟩
def zJ:V:=.row 0 true .nil
def TQ(name:Str)(fr tt rd wr:Int):V:=.agg [.str name,.int 1,.int fr,.int tt,.int 0,.int 0,zJ,zJ,zJ,zJ,.int rd,.int wr,zJ,.int 0,zJ,zJ,zJ,.int 0]
def Xv:V:=.agg [.str jc.name,.int 1,.row 0 false (.strs jc.states),zJ,.row 0 false (.strs jc.values),.int 0,zJ,.row 0 false (.ints [0]),zJ,.zA 19 false [TQ [97,115,107] 0 1 (-1) (-1),TQ [116,97,107,101] 1 2 0 1,TQ [108,101,97,118,101] 2 0 1 0]]
theorem qA{Z:Nat->Prop}{h:Hp}{k:Nat}{l:List T}:T.sub Z h (.sl k false l) (.sl k true l):=⟨.inl rfl,.inl rfl,fun h=>by cases h⟩
theorem kC{Z:Nat->Prop}{h:Hp}{k:Nat}:T.sub Z h (.sl k false []) T.nil:=⟨.inl rfl,.inr rfl,fun h=>by cases h⟩
theorem aj.weak{P:Program}{f:FuncId}{args:List V}{a b:V}(S:aj P f args a)(hs:T.sub (fun _=>True) no b.aI a.aI)(hb:b.free=true):aj P f args b :=
 wu.shut S (fun _=>hs) (V.kX b hb)
theorem H7{Z:Nat->Prop}{h:Hp}{name:Str}{fr tt rd wr:Int}:T.sub Z h (H8 (ES name fr tt rd wr)) (TQ name fr tt rd wr).aI:=by
 refine⟨aC _,aC _,aC _,aC _,aC _,aC _,kC,kC,kC,kC,aC _,aC _,kC,aC _,kC,kC,kC,aC _,trivial⟩
theorem Vd:T.sub (fun _=>True) no (TR jc) Xv.aI:=by
 refine⟨aC _,aC _,aC _,kC,aC _,aC _,kC,aC _,kC,⟨.inr ⟨⟨H7,H7,H7,trivial⟩,fun t ht=>?_⟩,.inl rfl,fun h=>h⟩,trivial⟩
 obtain⟨x,_,rfl⟩:=List.mem_map.1 ht; rfl
theorem wE{Z:Nat->Prop}{h:Hp}{k i ty:Nat}{l:List T}(hz:Z i)(hf:T.dD l=true)(hk:k≠fP)(q:h i=some ⟨ty,k,l⟩):T.sub Z h (.sl k false l) (.own i):=⟨rfl,hz,hf,hk,ty,q⟩
theorem S.QY:aj Tryz.prog 51 [] (.dat (.bW jc)):=by
 refine aj.weak (a:=Xv) ?_ Vd rfl
 refine aj.of Bd.mW (by simp) rfl rfl ?_
 conv=>whnf
 refine⟨⟨aC _,aC _,qA,aC _,qA,aC _,aC _,qA,aC _,wE trivial rfl (by decide) rfl,trivial⟩⟩
def adH:V:=.agg [.str BN.name,.int 1,zJ,.zA 3 false [.agg [.row 0 true (.ints [2]),.int 2]],zJ,zJ]
theorem S.H9:aj Tryz.prog 52 [] (.dat (.prop BN)):=by
 refine aj.weak (a:=adH) ?_ ?_ rfl
 ·refine aj.of Bd.jY (by simp) rfl rfl ?_
  conv=>whnf
  exact⟨⟨aC _,aC _,aC _,wE trivial rfl (by decide) rfl,aC _,aC _,trivial⟩⟩
 ·refine⟨aC _,aC _,kC,⟨.inr ⟨⟨⟨qA,aC _,trivial⟩,trivial⟩,fun t ht=>?_⟩,.inl rfl,fun h=>h⟩,kC,kC,trivial⟩
  obtain⟨x,_,rfl⟩:=List.mem_map.1 ht; rfl
theorem ZX:uY jc 1 [BG] []=0:=by kernel_rfl
theorem Xw:pK jc (jc.rules.getD 1 default) [BG] []=(0,⟨0,[0,1,1]⟩):=by kernel_rfl
theorem ZY:ccB jc BN [BG,uZ] []=true:=by kernel_rfl
theorem abV:ccB jc BN [BG] []=false:=by kernel_rfl
theorem Ov:SmallK [BG]:=by
 refine⟨by decide,fun i=>?_⟩
 match i with
 |0=>exact KE
 |i+1=>constructor<;>first|(exact(by decide:(0:Nat)<2^30))|(intro i; exact(by decide:(0:Nat)<2^30))
theorem Xx:SmallK [BG,uZ]:=by
 refine⟨by decide,fun i=>?_⟩
 match i with
 |0=>exact KE
 |1=>exact Ia
 |i+2=>constructor<;>first|(exact(by decide:(0:Nat)<2^30))|(intro i; exact(by decide:(0:Nat)<2^30))
theorem DL:SmallK []:=by
 refine⟨by decide,fun i=>?_⟩
 constructor<;>first|(exact(by decide:(0:Nat)<2^30))|(intro i; exact(by decide:(0:Nat)<2^30))
theorem ah.adI{P:Program}{f:FuncId}{args args2:List V}{res:V}{h:Hz}{n:Nat}{K:V->Hz->Prop}{KW:Nat->V->Hz->Prop}(Z:Nat->Prop)(h2 h3:Hz)(j:Nat)(S:aj P f args2 res)(W:JV Z h h2)(W2:JV (fun _=>False) h2 h3)(hs2:T.dG (fun i=>i=j) h3.au (V.aW args2) (V.aW args))(_hr:res.free=true)(hK:K res ((j,none)::h3)):ah P false none f args h n K KW:=by
 refine ah.Xt Z W (cO _) (aU.Xt (fun _=>False) W2 (cO _) ?_)
 refine wu.KF S (fun i=>i=j) hs2 fun h0 h1 h4=>⟨res,(j,none)::h3,rfl,?_,(fun e=>by cases e),hK⟩
 show mX h0 n none=_
 funext i
 rw[bK]
 show h0 i=if i=j then none else h3.au i
 by_cases hi:i=j
 ·rw[if_pos hi,h1 i hi]
 ·rw[if_neg hi,h4 i hi]
def r2V:V:=.row 0 true (.ints [2])
def Z4:V:=.agg [.zA 0 false [r2V,r2V],zJ,zJ]
def Xy:V:=.agg [.zA 0 false [r2V],.row 0 true (.ints [0]),zJ]
theorem TS{Z:Nat->Prop}{h:Hp}:T.sub Z h (og BG) Z4.aI:=by
 refine⟨⟨.inr ⟨⟨qA,qA,trivial⟩,fun t ht=>?_⟩,.inl rfl,fun h=>h⟩,kC,kC,trivial⟩
 obtain⟨x,_,rfl⟩:=List.mem_map.1 ht; rfl
theorem Xz{Z:Nat->Prop}{h:Hp}:T.sub Z h (og uZ) Xy.aI:=by
 refine⟨⟨.inr ⟨⟨qA,trivial⟩,fun t ht=>?_⟩,.inl rfl,fun h=>h⟩,qA,kC,trivial⟩
 obtain⟨x,_,rfl⟩:=List.mem_map.1 ht; rfl
theorem Ox{Z:Nat->Prop}{h:Hp}{i:Nat}(hz:Z i)(q:h i=some ⟨24,0,[r2V.aI,r2V.aI]⟩):T.sub Z h Z4.aI (.agg [.own i,T.nil,T.nil]):=⟨wE hz rfl (by decide) q,aC _,aC _,trivial⟩
theorem Ve{Z:Nat->Prop}{h:Hp}{i:Nat}(hz:Z i)(q:h i=some ⟨24,0,[r2V.aI]⟩):T.sub Z h Xy.aI (.agg [.own i,.sl 0 true [.int 0],T.nil]):=⟨wE hz rfl (by decide) q,aC _,aC _,trivial⟩
def Z5(v:V):OV:=.box 59 4 v
def adJ:OV:=.box 27 11 (.dat (.bW jc))
def adK:OV:=.box 30 7 (.dat (.prop BN))
theorem S.jd:aj Tryz.prog 16 [] (.bool true):=by
 have hS:aj Tryz.prog 19 [.dat (.bW jc),.int 1,.row 4 false (.clauses [BG]),.row 4 true (.clauses [])] (.fO [.int 0,.dat (.elem ⟨0,[0,1,1]⟩),.int 0]):=by
  have:=S.fH jc 1 [BG] [] false true wF Ov DL
  rw[MP,ZX,show(1:Int).toNat=1 from rfl,Xw] at this
  exact this
 refine aj.of Bd.jd (by simp) rfl rfl ?_
 conv=>whnf
 refine ah.pure S.QY rfl ?_
 conv=>whnf
 refine ah.pure S.H9 rfl ?_
 conv=>whnf
 refine ah.adI (fun i=>i=3\/i=8) [(21,some (.row 59 4 .nil [Z4])),(5,some (Z5 Z4)),(11,some (Z5 Xy)),(15,some adJ),(16,some adK)] [(21,some (Oy [BG])),(5,some (Z5 (.dat (.clause BG)))),(11,some (Z5 (.dat (.clause uZ)))),(15,some adJ),(16,some adK)] 21 hS ?_ ?_ ?_ rfl ?_
 ·refine⟨⟨_,rfl,(by decide),rfl,rfl,⟨Ox (.inl rfl) rfl,trivial⟩,rfl,rfl⟩,⟨_,rfl,(by decide),rfl,rfl,⟨Ox (.inl rfl) rfl,trivial⟩,rfl,rfl⟩,⟨_,rfl,(by decide),rfl,rfl,⟨Ve (.inr rfl) rfl,trivial⟩,rfl,rfl⟩,⟨_,rfl,(by decide),rfl,rfl,cO _,rfl,rfl⟩,⟨_,rfl,(by decide),rfl,rfl,cO _,rfl,rfl⟩,trivial⟩
 ·refine⟨⟨_,rfl,(fun h=>h),rfl,rfl,⟨TS,trivial⟩,rfl,rfl⟩,⟨_,rfl,(fun h=>h),rfl,rfl,⟨TS,trivial⟩,rfl,rfl⟩,⟨_,rfl,(fun h=>h),rfl,rfl,⟨Xz,trivial⟩,rfl,rfl⟩,⟨_,rfl,(fun h=>h),rfl,rfl,cO _,rfl,rfl⟩,⟨_,rfl,(fun h=>h),rfl,rfl,cO _,rfl,rfl⟩,trivial⟩
 ·exact And.intro (aC _) (And.intro (aC _) (And.intro (abz rfl rfl) (And.intro ⟨.inl rfl,.inr rfl,fun h=>h⟩ trivial)))
 conv=>whnf
 refine ah.pure S.QZ rfl ?_
 conv=>whnf
 repeat(refine VC.mk (by first|exact id|exact fun h=>⟨h,h⟩) ?_; conv=>whnf)
 have hC:aj Tryz.prog 21 [.dat (.elem ⟨0,[0,1,1]⟩),.dat (.elem ⟨0,[0,1,1]⟩)] (.int 0):=S.sU ⟨0,[0,1,1]⟩ ⟨0,[0,1,1]⟩ (by decide) (by decide)
 refine ah.KG (fun _=>hC) (fun _=>And.intro (aC _) (And.intro ⟨aC _,qA,trivial⟩ trivial)) rfl rfl ?_
 conv=>whnf
 repeat(refine VC.mk id ?_; conv=>whnf)
 refine Fork.mk (fun _=>?_) (fun hx=>absurd hx (by decide))
 conv=>whnf
 repeat(refine VC.mk (by decide) ?_; conv=>whnf)
 have hB:aj Tryz.prog 22 [.dat (.bW jc),.dat (.prop BN),.row 4 false (.clauses [BG,uZ]),.row 4 true (.clauses [])] (.bool true):=by
  have:=S.fB jc BN [BG,uZ] [] false true wF Ib Xx DL
  rw[ZY] at this; exact this
 refine ah.KG (fun _=>hB) (fun _=>And.intro (aC _) (And.intro (aC _) (And.intro (wE trivial rfl (by decide) rfl) (And.intro ⟨.inl rfl,.inr rfl,fun h=>h⟩ trivial)))) rfl rfl ?_
 conv=>whnf
 refine .mk (by decide) ?_
 conv=>whnf
 refine Fork.mk (fun _=>?_) (fun hx=>absurd hx (by decide))
 conv=>whnf
 repeat(refine VC.mk (by decide) ?_; conv=>whnf)
 have hB1:aj Tryz.prog 22 [.dat (.bW jc),.dat (.prop BN),.row 4 false (.clauses [BG]),.row 4 true (.clauses [])] (.bool false):=by
  have:=S.fB jc BN [BG] [] false true wF Ib Ov DL
  rw[abV] at this; exact this
 refine ah.KG (fun _=>hB1) (fun _=>And.intro (aC _) (And.intro (aC _) (And.intro (wE trivial rfl (by decide) rfl) (And.intro ⟨.inl rfl,.inr rfl,fun h=>h⟩ trivial)))) rfl rfl ?_
 conv=>whnf
 repeat(refine VC.mk (by decide) ?_; conv=>whnf)
 exact ak.bool (by decide)
def F5(k:Clause):Bool:=decide ((k.each.length:Int)>6)
def BO(most:Int)(l:List Clause):Bool:=decide ((l.length:Int)>most)||l.any F5
theorem Ic{α:Type}{p:α->Bool}{l:List α}{i:Nat}(d:α)(hi:i<l.length)(h:(l.take i).any p=false):(l.take (i+1)).any p=p (l.getD i d):=by
 rw[List.take_add_one,List.any_append,h,Bool.false_or,List.getElem?_eq_getElem hi]
 simp[hi]
theorem F6{α:Type}{p:α->Bool}{l:List α}{i:Nat}(d:α)(hi:i<l.length)(h:p (l.getD i d)=true):l.any p=true:=by
 rw[List.any_eq_true]
 exact⟨l[i],List.getElem_mem hi,by simpa [hi] using h⟩
theorem TT{most:Int}{l:List Clause}(h:decide ((l.length:Int)>most)=true):BO most l=true:=by rw[BO,h]; rfl
theorem TU{most:Int}{l:List Clause}(h:l.any F5=true):BO most l=true:=by rw[BO,h,Bool.or_true]
theorem S.F7(most:Int)(l a:List Clause)(f g g':Bool)(hl:l.length<2^30)(hlk: ∀ i,(l.getD i default).each.length<2^30)(ha:a.length<2^30)(hak: ∀ i,(a.getD i default).each.length<2^30):aj Tryz.prog 15 [.int most,.zA 0 f [.row 4 g (.clauses l),.row 4 g' (.clauses a)]] (.bool (BO most l||BO most a)):=by
 refine aj.of Bd.CJ (by simp) (by cases f<;>cases g<;>cases g'<;>rfl) rfl ?_
 conv=>whnf
 refine aF.times 3 rfl ?_
 conv=>whnf
 refine Fork.mk (fun _=>?_) (fun q=>absurd (q.symm.trans ((rfl:decide ((0:Int)<([V.row 4 g (.clauses l),V.row 4 g' (.clauses a)].length:Int))=true))) Bool.false_ne_true)
 conv=>whnf
 refine .mk (by omega) ?_
 conv=>whnf
 refine⟨fun h1=>?_,fun h1=>?_⟩
 ·replace h1:decide ((l.length:Int)>most)=true:=h1
  conv=>whnf
  exact ak.bool (by rw[TT h1]; rfl)
 replace h1:decide ((l.length:Int)>most)=false:=h1
 conv=>whnf
 refine aF.same [0,1,5] (fun i:Nat=>[(6,.int i)]) (fun i=>i<=l.length/\(l.take i).any F5=false) (fun i=>l.length-i) 0 rfl (by decide) rfl (fun _=>rfl) ⟨by omega,by simp⟩ ⟨⟨_,rfl,rfl⟩,trivial⟩ ?_
 conv=>whnf
 refine⟨rfl,?_⟩
 rintro i ⟨hi,hall⟩
 conv=>whnf
 refine .mk (by omega) ?_
 conv=>whnf
 refine⟨fun h2=>?_,fun h2=>?_⟩
 ·have hi':i<l.length:=by simpa using h2
  have hki:=hlk i
  conv=>whnf
  repeat(refine VC.mk (by first|(omega)|(simp only[Rw.rng] at *; omega)) ?_; conv=>whnf)
  refine⟨fun h3=>?_,fun h3=>?_⟩
  ·replace h3:F5 (l.getD i default)=true:=h3
   conv=>whnf
   exact ak.bool (by rw[TU (F6 default hi' h3)]; rfl)
  ·replace h3:F5 (l.getD i default)=false:=h3
   conv=>whnf
   refine .mk (by simp only[okI] at *; omega) ?_
   conv=>whnf
   refine⟨i+1,⟨by omega,by rw[Ic default hi' hall]; exact h3⟩,by omega,⟨⟨_,rfl,rfl⟩,trivial⟩,?_,rfl⟩
   repeat' (first|exact trivial|exact⟨_,rfl,rfl⟩|constructor)
 have hi':l.length<=i:=by simpa using h2
 rw[List.take_of_length_le hi'] at hall
 have hml:BO most l=false:=by rw[BO,h1,hall]; rfl
 conv=>whnf
 refine .mk (by simp only[okI] at *; omega) ?_
 conv=>whnf
 refine Fork.mk (fun _=>?_) (fun q=>absurd (q.symm.trans ((rfl:decide ((1:Int)<([V.row 4 g (.clauses l),V.row 4 g' (.clauses a)].length:Int))=true))) Bool.false_ne_true)
 conv=>whnf
 refine .mk (by omega) ?_
 conv=>whnf
 refine⟨fun h1=>?_,fun h1=>?_⟩
 ·replace h1:decide ((a.length:Int)>most)=true:=h1
  conv=>whnf
  exact ak.bool (by rw[TT h1]; rw[Bool.or_true])
 replace h1:decide ((a.length:Int)>most)=false:=h1
 conv=>whnf
 refine aF.same [0,1,5] (fun i:Nat=>[(6,.int i)]) (fun i=>i<=a.length/\(a.take i).any F5=false) (fun i=>a.length-i) 0 rfl (by decide) rfl (fun _=>rfl) ⟨by omega,by simp⟩ ⟨⟨_,rfl,rfl⟩,trivial⟩ ?_
 conv=>whnf
 refine⟨rfl,?_⟩
 rintro i ⟨hi,hall⟩
 conv=>whnf
 refine .mk (by omega) ?_
 conv=>whnf
 refine⟨fun h2=>?_,fun h2=>?_⟩
 ·have hi':i<a.length:=by simpa using h2
  have hki:=hak i
  conv=>whnf
  repeat(refine VC.mk (by first|(omega)|(simp only[Rw.rng] at *; omega)) ?_; conv=>whnf)
  refine⟨fun h3=>?_,fun h3=>?_⟩
  ·replace h3:F5 (a.getD i default)=true:=h3
   conv=>whnf
   exact ak.bool (by rw[TU (F6 default hi' h3)]; rw[Bool.or_true])
  ·replace h3:F5 (a.getD i default)=false:=h3
   conv=>whnf
   refine .mk (by simp only[okI] at *; omega) ?_
   conv=>whnf
   refine⟨i+1,⟨by omega,by rw[Ic default hi' hall]; exact h3⟩,by omega,⟨⟨_,rfl,rfl⟩,trivial⟩,?_,rfl⟩
   repeat' (first|exact trivial|exact⟨_,rfl,rfl⟩|constructor)
 have hi':a.length<=i:=by simpa using h2
 rw[List.take_of_length_le hi'] at hall
 have hma:BO most a=false:=by rw[BO,h1,hall]; rfl
 conv=>whnf
 refine .mk (by simp only[okI] at *; omega) ?_
 conv=>whnf
 refine Fork.mk (fun q=>absurd (q.symm.trans ((rfl:decide ((2:Int)<([V.row 4 g (.clauses l),V.row 4 g' (.clauses a)].length:Int))=false))).symm Bool.false_ne_true) (fun _=>?_)
 conv=>whnf
 exact ak.bool (by rw[hml,hma]; rfl)
end Go.Proofs.YtifbibbicplneaaGreatDoor
