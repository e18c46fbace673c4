/-
 A part of the proof. No condition.
-/
import Derived.Test.YtbfhebmdcpmfaaaGreatDoorId
import Derived.Test.YtbfhebmdcpmfaaaGreatDoorBd
namespace Go.Proofs.YtbfhebmdcpmfaaaGreatDoor
open Go.Ab Go.Proofs
set_option maxRecDepth 100000
theorem aK.NY{P:Program}{f:FuncId}{ts ts':List T}{h h2:Hz}{n:Nat}{K:T->Hp->Prop}(Z:Nat->Prop)(W:Dj Z h h2)(hs:T.dw Z h.aj ts ts')(H:aK P f ts h2.aj n K):aK P f ts' h.aj n K:=by
 obtain⟨hex,hcl,hcall⟩:=H
 refine⟨hex,hcl,fun F M E vs hk he hts hid hm hn=>?_⟩
 have hget: ∀ i ob,h2.aj i=some ob-> ∃ ob',E.h (id i)=some ob'/\ ¬ Z (id i)/\ob'.ty=ob.ty/\ob'.k=ob.k/\T.dw Z E.h ob.l ob'.l/\ob.l.map T.kd=ob'.l.map T.kd/\ob.l.map fK=ob'.l.map fK:=fun i ob hi=>by
  simp only[Hz.aj,Option.map_eq_some_iff] at hi
  obtain⟨o,e1,rfl⟩:=hi
  obtain⟨o',a1,a2,a3,a4,a5,a6,a7⟩:=Bq W e1
  exact⟨o'.aF,by rw[he]; exact aH a1,a2,a3,a4,by rw[he]; exact a5,a6,a7⟩
 have hob: ∀ i ob,h2.aj i=some ob-> ∃ ob',E.h (id i)=some ob'/\ ¬ Z (id i)/\Fh Z E.h id ob ob':=fun i ob hi=>by
  obtain⟨ob',a1,a2,a3,a4,a5,a6,a7⟩:=hget i ob hi
  refine⟨ob',a1,a2,a3,a4,by rw[JE]; exact a5,?_⟩
  rcases(hk.obs _ _ a1).1.kinds with ⟨k1,k2⟩|⟨k1,k2⟩
  ·exact .inl ⟨by rw[<- a4]; exact k1,Fj a7 k2⟩
  ·exact .inr ⟨by rw[<- a4]; exact k1,by rw[<- a4]; exact Dk a6 k2⟩
 have hl: ∀ i,(h2.aj i).isSome=true->((E.shut Z).h (id i)).isSome=true:=fun i hi=>by
  obtain⟨ob,hi'⟩:=Option.isSome_iff_exists.1 hi
  obtain⟨ob',a1,a2,_⟩:=hob i ob hi'
  rw[uw a2,a1]; rfl
 have ab5:T.aN M ts:=nC _ _ hs hid
 have hvs:bD ((E.shut Z).ren id h2.aj) ts vs:=by
  refine sD hl _ _ ?_
  rw[JE]
  exact mJ hk _ _ (by rw[he]; exact hs) _ hts
 refine(hcall F M ((E.shut Z).ren id h2.aj) vs (hk.ren hob fun _ _ _ _ e=>e) rfl hvs ab5 (fun i ob hi=>?_) hn).mono ?_
 ·obtain⟨ob',a1,_,_,_,a5,_⟩:=hget i ob hi
  rw[he] at a1
  exact⟨(hm i ob' a1).1,nC _ _ a5 (hm i ob' a1).2⟩
 ·rintro e w' ⟨v,t',E',rfl,rfl,hp,hv,hk',hext,hS,h7,h8⟩
  refine⟨v,t',E',rfl,rfl,hp,hv,hk',⟨fun g hg=>hext.s g (.inl hg),fun g hg=>hext.w g (hg.imp .inl id),hext.size,hext.os,hext.tape,hext.output,hext.dr⟩,fun i hi hi2=>?_,h7,h8⟩
  obtain⟨a,b,c⟩:=hS i hi hi2
  exact⟨(x8 (hl i a)).1,b,c⟩
theorem ah.NY{P:Program}{f:FuncId}{args args':List V}{h h2:Hz}{n:Nat}{K:V->Hz->Prop}{KW:Nat->V->Hz->Prop}(Z:Nat->Prop)(W:Dj Z h h2)(hs:T.dw Z h.aj (V.aT args') (V.aT args))
  (H:aK P f (V.aT args') h2.aj n fun t hp=> ∃ v h',t=v.aG/\hp=h'.aj/\(false=true->h'=h2/\t.free=true)/\K v h'):ah P false none f args h n K KW :=
 ⟨.inl (aK.mono (aK.NY Z W hs H) fun _ _ ⟨v,h',a,b,_,d⟩=>⟨v,h',a,b,(fun e=>by cases e),d⟩)⟩
def x9:V:=.row 0 true .nil
def P5(name:Str)(fr tt rd wr:Int):V:=.agg [.str name,.int 1,.int fr,.int tt,.int 0,.int 0,x9,x9,x9,x9,.int rd,.int wr,x9,.int 0,x9,x9,x9,.int 0]
def Um:V:=.agg [.str iH.name,.int 1,.row 0 false (.strs iH.states),x9,.row 0 false (.strs iH.values),.int 0,x9,.row 0 false (.ints [0]),x9,.xR 19 false [P5 [97,115,107] 0 1 (-1) (-1),P5 [116,97,107,101] 1 2 0 1,P5 [108,101,97,118,101] 2 0 1 0]]
theorem oJ{Z:Nat->Prop}{h:Hp}{k:Nat}{l:List T}:T.sub Z h (.sl k false l) (.sl k true l):=⟨.inl rfl,.inl rfl,fun h=>by cases h⟩
theorem jG{Z:Nat->Prop}{h:Hp}{k:Nat}:T.sub Z h (.sl k false []) T.nil:=⟨.inl rfl,.inr rfl,fun h=>by cases h⟩
theorem ak.weak{P:Program}{f:FuncId}{args:List V}{a b:V}(S:ak P f args a)(hs:T.sub (fun _=>True) no b.aG a.aG)(hb:b.free=true):ak P f args b :=
 uy.shut S (fun _=>hs) (V.lQ b hb)
theorem Fp{Z:Nat->Prop}{h:Hp}{name:Str}{fr tt rd wr:Int}:T.sub Z h (Fq (Dl name fr tt rd wr)) (P5 name fr tt rd wr).aG:=by
 refine⟨aC _,aC _,aC _,aC _,aC _,aC _,jG,jG,jG,jG,aC _,aC _,jG,aC _,jG,jG,jG,aC _,trivial⟩
theorem QW:T.sub (fun _=>True) no (Un iH) Um.aG:=by
 refine⟨aC _,aC _,aC _,jG,aC _,aC _,jG,aC _,jG,⟨.inr ⟨⟨Fp,Fp,Fp,trivial⟩,fun t ht=>?_⟩,.inl rfl,fun h=>h⟩,trivial⟩
 obtain⟨x,_,rfl⟩:=List.mem_map.1 ht; rfl
theorem wM{Z:Nat->Prop}{h:Hp}{k i ty:Nat}{l:List T}(hz:Z i)(hf:T.dB l=true)(hk:k≠fC)(q:h i=some ⟨ty,k,l⟩):T.sub Z h (.sl k false l) (.own i):=⟨rfl,hz,hf,hk,ty,q⟩
theorem S.N9:ak Tryz.prog 22 [] (.dat (.dJ iH)):=by
 refine ak.weak (a:=Um) ?_ QW rfl
 refine ak.of Bd.lH (by simp) rfl rfl ?_
 conv=>whnf
 refine⟨⟨aC _,aC _,oJ,aC _,oJ,aC _,aC _,oJ,aC _,wM trivial rfl (by decide) rfl,trivial⟩⟩
def aa3:V:=.agg [.str zM.name,.int 1,x9,.xR 3 false [.agg [.row 0 true (.ints [2]),.int 2]],x9,x9]
theorem S.Fv:ak Tryz.prog 23 [] (.dat (.prop zM)):=by
 refine ak.weak (a:=aa3) ?_ ?_ rfl
 ·refine ak.of Bd.jE (by simp) rfl rfl ?_
  conv=>whnf
  exact⟨⟨aC _,aC _,aC _,wM trivial rfl (by decide) rfl,aC _,aC _,trivial⟩⟩
 ·refine⟨aC _,aC _,jG,⟨.inr ⟨⟨⟨oJ,aC _,trivial⟩,trivial⟩,fun t ht=>?_⟩,.inl rfl,fun h=>h⟩,jG,jG,trivial⟩
  obtain⟨x,_,rfl⟩:=List.mem_map.1 ht; rfl
theorem Xg:Fz iH 1 [zC] []=0:=by kernel_rfl
theorem Uo:Eh iH (iH.rules.getD 1 default) [zC] []=(0,⟨0,[0,1,1]⟩):=by kernel_rfl
theorem Xh:Zh iH zM [zC,sS] []=true:=by kernel_rfl
theorem Zi:Zh iH zM [zC] []=false:=by kernel_rfl
theorem La:SmallK [zC]:=by
 refine⟨by decide,fun i=>?_⟩
 match i with
 |0=>exact Iz
 |i+1=>constructor<;>first|(exact(by decide:(0:Nat)<2^30))|(intro i; exact(by decide:(0:Nat)<2^30))
theorem Ur:SmallK [zC,sS]:=by
 refine⟨by decide,fun i=>?_⟩
 match i with
 |0=>exact Iz
 |1=>exact FB
 |i+2=>constructor<;>first|(exact(by decide:(0:Nat)<2^30))|(intro i; exact(by decide:(0:Nat)<2^30))
theorem FC:SmallK []:=by
 refine⟨by decide,fun i=>?_⟩
 constructor<;>first|(exact(by decide:(0:Nat)<2^30))|(intro i; exact(by decide:(0:Nat)<2^30))
theorem ah.aa4{P:Program}{f:FuncId}{args args2:List V}{res:V}{h:Hz}{n:Nat}{K:V->Hz->Prop}{KW:Nat->V->Hz->Prop}(Z:Nat->Prop)(h2 h3:Hz)(j:Nat)(S:ak P f args2 res)(W:Dj Z h h2)(W2:Dj (fun _=>False) h2 h3)(hs2:T.dw (fun i=>i=j) h3.aj (V.aT args2) (V.aT args))(_hr:res.free=true)(hK:K res ((j,none)::h3)):ah P false none f args h n K KW:=by
 refine ah.NY Z W (bY _) (aK.NY (fun _=>False) W2 (bY _) ?_)
 refine uy.P6 S (fun i=>i=j) hs2 fun h0 h1 h4=>⟨res,(j,none)::h3,rfl,?_,(fun e=>by cases e),hK⟩
 show mZ h0 n none=_
 funext i
 rw[bF]
 show h0 i=if i=j then none else h3.aj i
 by_cases hi:i=j
 ·rw[if_pos hi,h1 i hi]
 ·rw[if_neg hi,h4 i hi]
def r2V:V:=.row 0 true (.ints [2])
def Xi:V:=.agg [.xR 0 false [r2V,r2V],x9,x9]
def Us:V:=.agg [.xR 0 false [r2V],.row 0 true (.ints [0]),x9]
theorem P7{Z:Nat->Prop}{h:Hp}:T.sub Z h (nK zC) Xi.aG:=by
 refine⟨⟨.inr ⟨⟨oJ,oJ,trivial⟩,fun t ht=>?_⟩,.inl rfl,fun h=>h⟩,jG,jG,trivial⟩
 obtain⟨x,_,rfl⟩:=List.mem_map.1 ht; rfl
theorem Ut{Z:Nat->Prop}{h:Hp}:T.sub Z h (nK sS) Us.aG:=by
 refine⟨⟨.inr ⟨⟨oJ,trivial⟩,fun t ht=>?_⟩,.inl rfl,fun h=>h⟩,oJ,jG,trivial⟩
 obtain⟨x,_,rfl⟩:=List.mem_map.1 ht; rfl
theorem Lc{Z:Nat->Prop}{h:Hp}{i:Nat}(hz:Z i)(q:h i=some ⟨24,0,[r2V.aG,r2V.aG]⟩):T.sub Z h Xi.aG (.agg [.own i,T.nil,T.nil]):=⟨wM hz rfl (by decide) q,aC _,aC _,trivial⟩
theorem QX{Z:Nat->Prop}{h:Hp}{i:Nat}(hz:Z i)(q:h i=some ⟨24,0,[r2V.aG]⟩):T.sub Z h Us.aG (.agg [.own i,.sl 0 true [.int 0],T.nil]):=⟨wM hz rfl (by decide) q,aC _,aC _,trivial⟩
def Xj(v:V):OV:=.box 36 4 v
def aa5:OV:=.box 27 11 (.dat (.dJ iH))
def aa6:OV:=.box 52 7 (.dat (.prop zM))
theorem S.nP:ak Tryz.prog 10 [] (.bool true):=by
 have hS:ak Tryz.prog 24 [.dat (.dJ iH),.int 1,.row 4 false (.clauses [zC]),.row 4 true (.clauses [])] (.gQ [.int 0,.dat (.elem ⟨0,[0,1,1]⟩),.int 0]):=by
  have:=S.gB iH 1 [zC] [] false true uz La FC
  rw[Oa,Xg,show(1:Int).toNat=1 from rfl,Uo] at this
  exact this
 refine ak.of Bd.nP (by simp) rfl rfl ?_
 conv=>whnf
 refine ah.pure S.N9 rfl ?_
 conv=>whnf
 refine ah.pure S.Fv rfl ?_
 conv=>whnf
 refine ah.aa4 (fun i=>i=3\/i=8) [(21,some (.row 36 4 .nil [Xi])),(5,some (Xj Xi)),(11,some (Xj Us)),(15,some aa5),(16,some aa6)] [(21,some (Uu [zC])),(5,some (Xj (.dat (.clause zC)))),(11,some (Xj (.dat (.clause sS)))),(15,some aa5),(16,some aa6)] 21 hS ?_ ?_ ?_ rfl ?_
 ·refine⟨⟨_,rfl,(by decide),rfl,rfl,⟨Lc (.inl rfl) rfl,trivial⟩,rfl,rfl⟩,⟨_,rfl,(by decide),rfl,rfl,⟨Lc (.inl rfl) rfl,trivial⟩,rfl,rfl⟩,⟨_,rfl,(by decide),rfl,rfl,⟨QX (.inr rfl) rfl,trivial⟩,rfl,rfl⟩,⟨_,rfl,(by decide),rfl,rfl,bY _,rfl,rfl⟩,⟨_,rfl,(by decide),rfl,rfl,bY _,rfl,rfl⟩,trivial⟩
 ·refine⟨⟨_,rfl,(fun h=>h),rfl,rfl,⟨P7,trivial⟩,rfl,rfl⟩,⟨_,rfl,(fun h=>h),rfl,rfl,⟨P7,trivial⟩,rfl,rfl⟩,⟨_,rfl,(fun h=>h),rfl,rfl,⟨Ut,trivial⟩,rfl,rfl⟩,⟨_,rfl,(fun h=>h),rfl,rfl,bY _,rfl,rfl⟩,⟨_,rfl,(fun h=>h),rfl,rfl,bY _,rfl,rfl⟩,trivial⟩
 ·exact And.intro (aC _) (And.intro (aC _) (And.intro (YN rfl rfl) (And.intro ⟨.inl rfl,.inr rfl,fun h=>h⟩ trivial)))
 conv=>whnf
 refine ah.pure S.Oc rfl ?_
 conv=>whnf
 repeat(refine VC.mk (by first|exact id|exact fun h=>⟨h,h⟩) ?_; conv=>whnf)
 have hC:ak Tryz.prog 26 [.dat (.elem ⟨0,[0,1,1]⟩),.dat (.elem ⟨0,[0,1,1]⟩)] (.int 0):=S.qN ⟨0,[0,1,1]⟩ ⟨0,[0,1,1]⟩ (by decide) (by decide)
 refine ah.P8 (fun _=>hC) (fun _=>And.intro (aC _) (And.intro ⟨aC _,oJ,trivial⟩ trivial)) rfl rfl ?_
 conv=>whnf
 repeat(refine VC.mk id ?_; conv=>whnf)
 refine Fork.mk (fun _=>?_) (fun hx=>absurd hx (by decide))
 conv=>whnf
 repeat(refine VC.mk (by decide) ?_; conv=>whnf)
 have hB:ak Tryz.prog 27 [.dat (.dJ iH),.dat (.prop zM),.row 4 false (.clauses [zC,sS]),.row 4 true (.clauses [])] (.bool true):=by
  have:=S.eF iH zM [zC,sS] [] false true uz FD Ur FC
  rw[Xh] at this; exact this
 refine ah.P8 (fun _=>hB) (fun _=>And.intro (aC _) (And.intro (aC _) (And.intro (wM trivial rfl (by decide) rfl) (And.intro ⟨.inl rfl,.inr rfl,fun h=>h⟩ trivial)))) rfl rfl ?_
 conv=>whnf
 refine .mk (by decide) ?_
 conv=>whnf
 refine Fork.mk (fun _=>?_) (fun hx=>absurd hx (by decide))
 conv=>whnf
 repeat(refine VC.mk (by decide) ?_; conv=>whnf)
 have hB1:ak Tryz.prog 27 [.dat (.dJ iH),.dat (.prop zM),.row 4 false (.clauses [zC]),.row 4 true (.clauses [])] (.bool false):=by
  have:=S.eF iH zM [zC] [] false true uz FD La FC
  rw[Zi] at this; exact this
 refine ah.P8 (fun _=>hB1) (fun _=>And.intro (aC _) (And.intro (aC _) (And.intro (wM trivial rfl (by decide) rfl) (And.intro ⟨.inl rfl,.inr rfl,fun h=>h⟩ trivial)))) rfl rfl ?_
 conv=>whnf
 repeat(refine VC.mk (by decide) ?_; conv=>whnf)
 exact au.bool (by decide)
def Ei(k:Clause):Bool:=decide ((k.each.length:Int)>6)
def zN(most:Int)(l:List Clause):Bool:=decide ((l.length:Int)>most)||l.any Ei
theorem FH{α:Type}{p:α->Bool}{l:List α}{i:Nat}(d:α)(hi:i<l.length)(h:(l.take i).any p=false):(l.take (i+1)).any p=p (l.getD i d):=by
 rw[List.take_add_one,List.any_append,h,Bool.false_or,List.getElem?_eq_getElem hi]
 simp[hi]
theorem Ej{α:Type}{p:α->Bool}{l:List α}{i:Nat}(d:α)(hi:i<l.length)(h:p (l.getD i d)=true):l.any p=true:=by
 rw[List.any_eq_true]
 exact⟨l[i],List.getElem_mem hi,by simpa [hi] using h⟩
theorem P9{most:Int}{l:List Clause}(h:decide ((l.length:Int)>most)=true):zN most l=true:=by rw[zN,h]; rfl
theorem Qa{most:Int}{l:List Clause}(h:l.any Ei=true):zN most l=true:=by rw[zN,h,Bool.or_true]
theorem S.Ld(most:Int)(l a:List Clause)(f g g':Bool)(hl:l.length<2^30)(hlk: ∀ i,(l.getD i default).each.length<2^30)(ha:a.length<2^30)(hak: ∀ i,(a.getD i default).each.length<2^30):ak Tryz.prog 11 [.int most,.xR 0 f [.row 4 g (.clauses l),.row 4 g' (.clauses a)]] (.bool (zN most l||zN most a)):=by
 refine ak.of Bd.Ae (by simp) (by cases f<;>cases g<;>cases g'<;>rfl) rfl ?_
 conv=>whnf
 refine aP.times 3 rfl ?_
 conv=>whnf
 refine Fork.mk (fun _=>?_) (fun q=>absurd (q.symm.trans ((rfl:decide ((0:Int)<([V.row 4 g (.clauses l),V.row 4 g' (.clauses a)].length:Int))=true))) Bool.false_ne_true)
 conv=>whnf
 refine .mk (by omega) ?_
 conv=>whnf
 refine⟨fun h1=>?_,fun h1=>?_⟩
 ·replace h1:decide ((l.length:Int)>most)=true:=h1
  conv=>whnf
  exact au.bool (by rw[P9 h1]; rfl)
 replace h1:decide ((l.length:Int)>most)=false:=h1
 conv=>whnf
 refine aP.same [0,1,5] (fun i:Nat=>[(6,.int i)]) (fun i=>i<=l.length/\(l.take i).any Ei=false) (fun i=>l.length-i) 0 rfl (by decide) rfl (fun _=>rfl) ⟨by omega,by simp⟩ ⟨⟨_,rfl,rfl⟩,trivial⟩ ?_
 conv=>whnf
 refine⟨rfl,?_⟩
 rintro i ⟨hi,hall⟩
 conv=>whnf
 refine .mk (by omega) ?_
 conv=>whnf
 refine⟨fun h2=>?_,fun h2=>?_⟩
 ·have hi':i<l.length:=by simpa using h2
  have hki:=hlk i
  conv=>whnf
  repeat(refine VC.mk (by first|(omega)|(simp only[Rw.rng] at *; omega)) ?_; conv=>whnf)
  refine⟨fun h3=>?_,fun h3=>?_⟩
  ·replace h3:Ei (l.getD i default)=true:=h3
   conv=>whnf
   exact au.bool (by rw[Qa (Ej default hi' h3)]; rfl)
  ·replace h3:Ei (l.getD i default)=false:=h3
   conv=>whnf
   refine .mk (by simp only[okI] at *; omega) ?_
   conv=>whnf
   refine⟨i+1,⟨by omega,by rw[FH default hi' hall]; exact h3⟩,by omega,⟨⟨_,rfl,rfl⟩,trivial⟩,?_,rfl⟩
   repeat' (first|exact trivial|exact⟨_,rfl,rfl⟩|constructor)
 have hi':l.length<=i:=by simpa using h2
 rw[List.take_of_length_le hi'] at hall
 have hml:zN most l=false:=by rw[zN,h1,hall]; rfl
 conv=>whnf
 refine .mk (by simp only[okI] at *; omega) ?_
 conv=>whnf
 refine Fork.mk (fun _=>?_) (fun q=>absurd (q.symm.trans ((rfl:decide ((1:Int)<([V.row 4 g (.clauses l),V.row 4 g' (.clauses a)].length:Int))=true))) Bool.false_ne_true)
 conv=>whnf
 refine .mk (by omega) ?_
 conv=>whnf
 refine⟨fun h1=>?_,fun h1=>?_⟩
 ·replace h1:decide ((a.length:Int)>most)=true:=h1
  conv=>whnf
  exact au.bool (by rw[P9 h1]; rw[Bool.or_true])
 replace h1:decide ((a.length:Int)>most)=false:=h1
 conv=>whnf
 refine aP.same [0,1,5] (fun i:Nat=>[(6,.int i)]) (fun i=>i<=a.length/\(a.take i).any Ei=false) (fun i=>a.length-i) 0 rfl (by decide) rfl (fun _=>rfl) ⟨by omega,by simp⟩ ⟨⟨_,rfl,rfl⟩,trivial⟩ ?_
 conv=>whnf
 refine⟨rfl,?_⟩
 rintro i ⟨hi,hall⟩
 conv=>whnf
 refine .mk (by omega) ?_
 conv=>whnf
 refine⟨fun h2=>?_,fun h2=>?_⟩
 ·have hi':i<a.length:=by simpa using h2
  have hki:=hak i
  conv=>whnf
  repeat(refine VC.mk (by first|(omega)|(simp only[Rw.rng] at *; omega)) ?_; conv=>whnf)
  refine⟨fun h3=>?_,fun h3=>?_⟩
  ·replace h3:Ei (a.getD i default)=true:=h3
   conv=>whnf
   exact au.bool (by rw[Qa (Ej default hi' h3)]; rw[Bool.or_true])
  ·replace h3:Ei (a.getD i default)=false:=h3
   conv=>whnf
   refine .mk (by simp only[okI] at *; omega) ?_
   conv=>whnf
   refine⟨i+1,⟨by omega,by rw[FH default hi' hall]; exact h3⟩,by omega,⟨⟨_,rfl,rfl⟩,trivial⟩,?_,rfl⟩
   repeat' (first|exact trivial|exact⟨_,rfl,rfl⟩|constructor)
 have hi':a.length<=i:=by simpa using h2
 rw[List.take_of_length_le hi'] at hall
 have hma:zN most a=false:=by rw[zN,h1,hall]; rfl
 conv=>whnf
 refine .mk (by simp only[okI] at *; omega) ?_
 conv=>whnf
 refine Fork.mk (fun q=>absurd (q.symm.trans ((rfl:decide ((2:Int)<([V.row 4 g (.clauses l),V.row 4 g' (.clauses a)].length:Int))=false))).symm Bool.false_ne_true) (fun _=>?_)
 conv=>whnf
 exact au.bool (by rw[hml,hma]; rfl)
end Go.Proofs.YtbfhebmdcpmfaaaGreatDoor
