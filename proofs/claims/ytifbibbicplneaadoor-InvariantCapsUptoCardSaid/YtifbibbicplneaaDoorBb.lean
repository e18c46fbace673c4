/-
 A part of the proof. No condition.
-/
import Derived.Test.YtifbibbicplneaaDoorId
import Derived.Test.YtifbibbicplneaaDoorBd
namespace Go.Proofs.YtifbibbicplneaaDoor
open Go.Ab Go.Proofs
set_option maxRecDepth 100000
theorem aO.SA{P:Program}{f:FuncId}{ts ts':List T}{h h2:Hz}{n:Nat}{K:T->Hp->Prop}(Z:Nat->Prop)(W:FZ Z h h2)(hs:T.dI Z h.aj ts ts')(H:aO P f ts h2.aj n K):aO P f ts' h.aj n K:=by
 obtain⟨hex,hcl,hcall⟩:=H
 refine⟨hex,hcl,fun F M E vs hk he hts hid hm hn=>?_⟩
 have hget: ∀ i ob,h2.aj i=some ob-> ∃ ob',E.h (id i)=some ob'/\ ¬ Z (id i)/\ob'.ty=ob.ty/\ob'.k=ob.k/\T.dI Z E.h ob.l ob'.l/\ob.l.map T.kd=ob'.l.map T.kd/\ob.l.map gG=ob'.l.map gG:=fun i ob hi=>by
  simp only[Hz.aj,Option.map_eq_some_iff] at hi
  obtain⟨o,e1,rfl⟩:=hi
  obtain⟨o',a1,a2,a3,a4,a5,a6,a7⟩:=DX W e1
  exact⟨o'.aF,by rw[he]; exact aK a1,a2,a3,a4,by rw[he]; exact a5,a6,a7⟩
 have hob: ∀ i ob,h2.aj i=some ob-> ∃ ob',E.h (id i)=some ob'/\ ¬ Z (id i)/\Gv Z E.h id ob ob':=fun i ob hi=>by
  obtain⟨ob',a1,a2,a3,a4,a5,a6,a7⟩:=hget i ob hi
  refine⟨ob',a1,a2,a3,a4,by rw[Ip]; exact a5,?_⟩
  rcases(hk.obs _ _ a1).1.kinds with ⟨k1,k2⟩|⟨k1,k2⟩
  ·exact .inl ⟨by rw[<- a4]; exact k1,JE a7 k2⟩
  ·exact .inr ⟨by rw[<- a4]; exact k1,by rw[<- a4]; exact Gw a6 k2⟩
 have hl: ∀ i,(h2.aj i).isSome=true->((E.shut Z).h (id i)).isSome=true:=fun i hi=>by
  obtain⟨ob,hi'⟩:=Option.isSome_iff_exists.1 hi
  obtain⟨ob',a1,a2,_⟩:=hob i ob hi'
  rw[uO a2,a1]; rfl
 have aaO:T.aN M ts:=o8 _ _ hs hid
 have hvs:bn ((E.shut Z).ren id h2.aj) ts vs:=by
  refine tC hl _ _ ?_
  rw[Ip]
  exact mO hk _ _ (by rw[he]; exact hs) _ hts
 refine(hcall F M ((E.shut Z).ren id h2.aj) vs (hk.ren hob fun _ _ _ _ e=>e) rfl hvs aaO (fun i ob hi=>?_) hn).mono ?_
 ·obtain⟨ob',a1,_,_,_,a5,_⟩:=hget i ob hi
  rw[he] at a1
  exact⟨(hm i ob' a1).1,o8 _ _ a5 (hm i ob' a1).2⟩
 ·rintro e w' ⟨v,t',E',rfl,rfl,hp,hv,hk',hext,hS,h7,h8⟩
  refine⟨v,t',E',rfl,rfl,hp,hv,hk',⟨fun g hg=>hext.s g (.inl hg),fun g hg=>hext.w g (hg.imp .inl id),hext.size,hext.os,hext.tape,hext.output,hext.dr⟩,fun i hi hi2=>?_,h7,h8⟩
  obtain⟨a,b,c⟩:=hS i hi hi2
  exact⟨(vZ (hl i a)).1,b,c⟩
theorem ah.SA{P:Program}{f:FuncId}{args args':List V}{h h2:Hz}{n:Nat}{K:V->Hz->Prop}{KW:Nat->V->Hz->Prop}(Z:Nat->Prop)(W:FZ Z h h2)(hs:T.dI Z h.aj (V.aT args') (V.aT args))
  (H:aO P f (V.aT args') h2.aj n fun t hp=> ∃ v h',t=v.aI/\hp=h'.aj/\(false=true->h'=h2/\t.free=true)/\K v h'):ah P false none f args h n K KW :=
 ⟨.inl (aO.mono (aO.SA Z W hs H) fun _ _ ⟨v,h',a,b,_,d⟩=>⟨v,h',a,b,(fun e=>by cases e),d⟩)⟩
def wo:V:=.row 0 true .nil
def Ox(name:Str)(fr tt rd wr:Int):V:=.agg [.str name,.int 1,.int fr,.int tt,.int 0,.int 0,wo,wo,wo,wo,.int rd,.int wr,wo,.int 0,wo,wo,wo,.int 0]
def SC:V:=.agg [.str gV.name,.int 1,.row 0 false (.strs gV.states),wo,.row 0 false (.strs gV.values),.int 0,wo,.row 0 false (.ints [0]),wo,.vV 19 false [Ox [97,115,107] 0 1 (-1) (-1),Ox [116,97,107,101] 1 2 0 1,Ox [108,101,97,118,101] 2 0 1 0]]
theorem nI{Z:Nat->Prop}{h:Hp}{k:Nat}{l:List T}:T.sub Z h (.sl k false l) (.sl k true l):=⟨.inl rfl,.inl rfl,fun h=>by cases h⟩
theorem jv{Z:Nat->Prop}{h:Hp}{k:Nat}:T.sub Z h (.sl k false []) T.nil:=⟨.inl rfl,.inr rfl,fun h=>by cases h⟩
theorem ay.weak{P:Program}{f:FuncId}{args:List V}{a b:V}(S:ay P f args a)(hs:T.sub (fun _=>True) no b.aI a.aI)(hb:b.free=true):ay P f args b :=
 rU.shut S (fun _=>hs) (V.jO b hb)
theorem DY{Z:Nat->Prop}{h:Hp}{name:Str}{fr tt rd wr:Int}:T.sub Z h (DZ (AV name fr tt rd wr)) (Ox name fr tt rd wr).aI:=by
 refine⟨aC _,aC _,aC _,aC _,aC _,aC _,jv,jv,jv,jv,aC _,aC _,jv,aC _,jv,jv,jv,aC _,trivial⟩
theorem PY:T.sub (fun _=>True) no (Oy gV) SC.aI:=by
 refine⟨aC _,aC _,aC _,jv,aC _,aC _,jv,aC _,jv,⟨.inr ⟨⟨DY,DY,DY,trivial⟩,fun t ht=>?_⟩,.inl rfl,fun h=>h⟩,trivial⟩
 obtain⟨x,_,rfl⟩:=List.mem_map.1 ht; rfl
theorem rV{Z:Nat->Prop}{h:Hp}{k i ty:Nat}{l:List T}(hz:Z i)(hf:T.cu l=true)(hk:k≠eF)(q:h i=some ⟨ty,k,l⟩):T.sub Z h (.sl k false l) (.own i):=⟨rfl,hz,hf,hk,ty,q⟩
theorem S.MG:ay Tryd.prog 18 [] (.dat (.eG gV)):=by
 refine ay.weak (a:=SC) ?_ PY rfl
 refine ay.of Bd.kU (by simp) rfl rfl ?_
 conv=>whnf
 refine⟨⟨aC _,aC _,nI,aC _,nI,aC _,aC _,nI,aC _,rV trivial rfl (by decide) rfl,trivial⟩⟩
def ZG:V:=.agg [.str yu.name,.int 1,wo,.vV 3 false [.agg [.row 0 true (.ints [2]),.int 2]],wo,wo]
theorem S.D5:ay Tryd.prog 19 [] (.dat (.prop yu)):=by
 refine ay.weak (a:=ZG) ?_ ?_ rfl
 ·refine ay.of Bd.jo (by simp) rfl rfl ?_
  conv=>whnf
  exact⟨⟨aC _,aC _,aC _,rV trivial rfl (by decide) rfl,aC _,aC _,trivial⟩⟩
 ·refine⟨aC _,aC _,jv,⟨.inr ⟨⟨⟨nI,aC _,trivial⟩,trivial⟩,fun t ht=>?_⟩,.inl rfl,fun h=>h⟩,jv,jv,trivial⟩
  obtain⟨x,_,rfl⟩:=List.mem_map.1 ht; rfl
theorem Vm:sO gV 1 [yc] []=0:=by kernel_rfl
theorem SE:mP gV (gV.rules.getD 1 default) [yc] []=(0,⟨0,[0,1,1]⟩):=by kernel_rfl
theorem Vo:Oz gV yu [yc,qO] []=true:=by kernel_rfl
theorem XQ:Oz gV yu [yc] []=false:=by kernel_rfl
theorem JF:SmallK [yc]:=by
 refine⟨by decide,fun i=>?_⟩
 match i with
 |0=>exact Gx
 |i+1=>constructor<;>first|(exact(by decide:(0:Nat)<2^30))|(intro i; exact(by decide:(0:Nat)<2^30))
theorem SG:SmallK [yc,qO]:=by
 refine⟨by decide,fun i=>?_⟩
 match i with
 |0=>exact Gx
 |1=>exact D6
 |i+2=>constructor<;>first|(exact(by decide:(0:Nat)<2^30))|(intro i; exact(by decide:(0:Nat)<2^30))
theorem tH:SmallK []:=by
 refine⟨by decide,fun i=>?_⟩
 constructor<;>first|(exact(by decide:(0:Nat)<2^30))|(intro i; exact(by decide:(0:Nat)<2^30))
theorem ah.ZH{P:Program}{f:FuncId}{args args2:List V}{res:V}{h:Hz}{n:Nat}{K:V->Hz->Prop}{KW:Nat->V->Hz->Prop}(Z:Nat->Prop)(h2 h3:Hz)(j:Nat)(S:ay P f args2 res)(W:FZ Z h h2)(W2:FZ (fun _=>False) h2 h3)(hs2:T.dI (fun i=>i=j) h3.aj (V.aT args2) (V.aT args))(_hr:res.free=true)(hK:K res ((j,none)::h3)):ah P false none f args h n K KW:=by
 refine ah.SA Z W (dB _) (aO.SA (fun _=>False) W2 (dB _) ?_)
 refine rU.ZI S (fun i=>i=j) hs2 fun h0 h1 h4=>⟨res,(j,none)::h3,rfl,?_,(fun e=>by cases e),hK⟩
 show lq h0 n none=_
 funext i
 rw[aZ]
 show h0 i=if i=j then none else h3.aj i
 by_cases hi:i=j
 ·rw[if_pos hi,h1 i hi]
 ·rw[if_neg hi,h4 i hi]
def Zw:V:=.row 0 true (.ints [2])
def Vp:V:=.agg [.vV 0 false [Zw,Zw],wo,wo]
def SH:V:=.agg [.vV 0 false [Zw],.row 0 true (.ints [0]),wo]
theorem OA{Z:Nat->Prop}{h:Hp}:T.sub Z h (nJ yc) Vp.aI:=by
 refine⟨⟨.inr ⟨⟨nI,nI,trivial⟩,fun t ht=>?_⟩,.inl rfl,fun h=>h⟩,jv,jv,trivial⟩
 obtain⟨x,_,rfl⟩:=List.mem_map.1 ht; rfl
theorem SI{Z:Nat->Prop}{h:Hp}:T.sub Z h (nJ qO) SH.aI:=by
 refine⟨⟨.inr ⟨⟨nI,trivial⟩,fun t ht=>?_⟩,.inl rfl,fun h=>h⟩,nI,jv,trivial⟩
 obtain⟨x,_,rfl⟩:=List.mem_map.1 ht; rfl
theorem JG{Z:Nat->Prop}{h:Hp}{i:Nat}(hz:Z i)(q:h i=some ⟨24,0,[Zw.aI,Zw.aI]⟩):T.sub Z h Vp.aI (.agg [.own i,T.nil,T.nil]):=⟨rV hz rfl (by decide) q,aC _,aC _,trivial⟩
theorem PZ{Z:Nat->Prop}{h:Hp}{i:Nat}(hz:Z i)(q:h i=some ⟨24,0,[Zw.aI]⟩):T.sub Z h SH.aI (.agg [.own i,.sl 0 true [.int 0],T.nil]):=⟨rV hz rfl (by decide) q,aC _,aC _,trivial⟩
def Vq(v:V):OV:=.box 40 4 v
def ZJ:OV:=.box 27 11 (.dat (.eG gV))
def ZK:OV:=.box 30 7 (.dat (.prop yu))
theorem S.jE:ay Tryd.prog 8 [] (.bool true):=by
 have hS:ay Tryd.prog 13 [.dat (.eG gV),.int 1,.row 4 false (.clauses [yc]),.row 4 true (.clauses [])] (.fU [.int 0,.dat (.elem ⟨0,[0,1,1]⟩),.int 0]):=by
  have:=S.dW gV 1 [yc] [] false true rW JF tH
  rw[Iq,Vm,show(1:Int).toNat=1 from rfl,SE] at this
  exact this
 refine ay.of Bd.jE (by simp) rfl rfl ?_
 conv=>whnf
 refine ah.pure S.MG rfl ?_
 conv=>whnf
 refine ah.pure S.D5 rfl ?_
 conv=>whnf
 refine ah.ZH (fun i=>i=3\/i=8) [(21,some (.row 40 4 .nil [Vp])),(5,some (Vq Vp)),(11,some (Vq SH)),(15,some ZJ),(16,some ZK)] [(21,some (SK [yc])),(5,some (Vq (.dat (.clause yc)))),(11,some (Vq (.dat (.clause qO)))),(15,some ZJ),(16,some ZK)] 21 hS ?_ ?_ ?_ rfl ?_
 ·refine⟨⟨_,rfl,(by decide),rfl,rfl,⟨JG (.inl rfl) rfl,trivial⟩,rfl,rfl⟩,⟨_,rfl,(by decide),rfl,rfl,⟨JG (.inl rfl) rfl,trivial⟩,rfl,rfl⟩,⟨_,rfl,(by decide),rfl,rfl,⟨PZ (.inr rfl) rfl,trivial⟩,rfl,rfl⟩,⟨_,rfl,(by decide),rfl,rfl,dB _,rfl,rfl⟩,⟨_,rfl,(by decide),rfl,rfl,dB _,rfl,rfl⟩,trivial⟩
 ·refine⟨⟨_,rfl,(fun h=>h),rfl,rfl,⟨OA,trivial⟩,rfl,rfl⟩,⟨_,rfl,(fun h=>h),rfl,rfl,⟨OA,trivial⟩,rfl,rfl⟩,⟨_,rfl,(fun h=>h),rfl,rfl,⟨SI,trivial⟩,rfl,rfl⟩,⟨_,rfl,(fun h=>h),rfl,rfl,dB _,rfl,rfl⟩,⟨_,rfl,(fun h=>h),rfl,rfl,dB _,rfl,rfl⟩,trivial⟩
 ·exact And.intro (aC _) (And.intro (aC _) (And.intro (SL rfl rfl) (And.intro ⟨.inl rfl,.inr rfl,fun h=>h⟩ trivial)))
 conv=>whnf
 refine ah.pure S.MH rfl ?_
 conv=>whnf
 repeat(refine VC.mk (by first|exact id|exact fun h=>⟨h,h⟩) ?_; conv=>whnf)
 have hC:ay Tryd.prog 21 [.dat (.elem ⟨0,[0,1,1]⟩),.dat (.elem ⟨0,[0,1,1]⟩)] (.int 0):=S.o9 ⟨0,[0,1,1]⟩ ⟨0,[0,1,1]⟩ (by decide) (by decide)
 refine ah.JH (fun _=>hC) (fun _=>And.intro (aC _) (And.intro ⟨aC _,nI,trivial⟩ trivial)) rfl rfl ?_
 conv=>whnf
 repeat(refine VC.mk id ?_; conv=>whnf)
 refine Fork.mk (fun _=>?_) (fun hx=>absurd hx (by decide))
 conv=>whnf
 repeat(refine VC.mk (by decide) ?_; conv=>whnf)
 have hB:ay Tryd.prog 7 [.dat (.eG gV),.dat (.prop yu),.row 4 false (.clauses [yc,qO]),.row 4 true (.clauses [])] (.bool true):=by
  have:=S.bP gV yu [yc,qO] [] false true rW D7 SG tH
  rw[Vo] at this; exact this
 refine ah.JH (fun _=>hB) (fun _=>And.intro (aC _) (And.intro (aC _) (And.intro (rV trivial rfl (by decide) rfl) (And.intro ⟨.inl rfl,.inr rfl,fun h=>h⟩ trivial)))) rfl rfl ?_
 conv=>whnf
 refine .mk (by decide) ?_
 conv=>whnf
 refine Fork.mk (fun _=>?_) (fun hx=>absurd hx (by decide))
 conv=>whnf
 repeat(refine VC.mk (by decide) ?_; conv=>whnf)
 have hB1:ay Tryd.prog 7 [.dat (.eG gV),.dat (.prop yu),.row 4 false (.clauses [yc]),.row 4 true (.clauses [])] (.bool false):=by
  have:=S.bP gV yu [yc] [] false true rW D7 JF tH
  rw[XQ] at this; exact this
 refine ah.JH (fun _=>hB1) (fun _=>And.intro (aC _) (And.intro (aC _) (And.intro (rV trivial rfl (by decide) rfl) (And.intro ⟨.inl rfl,.inr rfl,fun h=>h⟩ trivial)))) rfl rfl ?_
 conv=>whnf
 repeat(refine VC.mk (by decide) ?_; conv=>whnf)
 exact aB.bool (by decide)
def Cj(k:Clause):Bool:=decide ((k.each.length:Int)>6)
def vO(most:Int)(l:List Clause):Bool:=decide ((l.length:Int)>most)||l.any Cj
theorem D8{α:Type}{p:α->Bool}{l:List α}{i:Nat}(d:α)(hi:i<l.length)(h:(l.take i).any p=false):(l.take (i+1)).any p=p (l.getD i d):=by
 rw[List.take_add_one,List.any_append,h,Bool.false_or,List.getElem?_eq_getElem hi]
 simp[hi]
theorem Cm{α:Type}{p:α->Bool}{l:List α}{i:Nat}(d:α)(hi:i<l.length)(h:p (l.getD i d)=true):l.any p=true:=by
 rw[List.any_eq_true]
 exact⟨l[i],List.getElem_mem hi,by simpa [hi] using h⟩
theorem OB{most:Int}{l:List Clause}(h:decide ((l.length:Int)>most)=true):vO most l=true:=by rw[vO,h]; rfl
theorem OC{most:Int}{l:List Clause}(h:l.any Cj=true):vO most l=true:=by rw[vO,h,Bool.or_true]
theorem S.JI(most:Int)(l a:List Clause)(f g g':Bool)(hl:l.length<2^30)(hlk: ∀ i,(l.getD i default).each.length<2^30)(ha:a.length<2^30)(hak: ∀ i,(a.getD i default).each.length<2^30):ay Tryd.prog 5 [.int most,.vV 0 f [.row 4 g (.clauses l),.row 4 g' (.clauses a)]] (.bool (vO most l||vO most a)):=by
 refine ay.of Bd.yM (by simp) (by cases f<;>cases g<;>cases g'<;>rfl) rfl ?_
 conv=>whnf
 refine aY.times 3 rfl ?_
 conv=>whnf
 refine Fork.mk (fun _=>?_) (fun q=>absurd (q.symm.trans ((rfl:decide ((0:Int)<([V.row 4 g (.clauses l),V.row 4 g' (.clauses a)].length:Int))=true))) Bool.false_ne_true)
 conv=>whnf
 refine .mk (by omega) ?_
 conv=>whnf
 refine⟨fun h1=>?_,fun h1=>?_⟩
 ·replace h1:decide ((l.length:Int)>most)=true:=h1
  conv=>whnf
  exact aB.bool (by rw[OB h1]; rfl)
 replace h1:decide ((l.length:Int)>most)=false:=h1
 conv=>whnf
 refine aY.same [0,1,5] (fun i:Nat=>[(6,.int i)]) (fun i=>i<=l.length/\(l.take i).any Cj=false) (fun i=>l.length-i) 0 rfl (by decide) rfl (fun _=>rfl) ⟨by omega,by simp⟩ ⟨⟨_,rfl,rfl⟩,trivial⟩ ?_
 conv=>whnf
 refine⟨rfl,?_⟩
 rintro i ⟨hi,hall⟩
 conv=>whnf
 refine .mk (by omega) ?_
 conv=>whnf
 refine⟨fun h2=>?_,fun h2=>?_⟩
 ·have hi':i<l.length:=by simpa using h2
  have hki:=hlk i
  conv=>whnf
  repeat(refine VC.mk (by first|(omega)|(simp only[Rw.rng] at *; first|omega|(simp_all; done)|(simp_all; omega))) ?_; conv=>whnf)
  refine⟨fun h3=>?_,fun h3=>?_⟩
  ·replace h3:Cj (l.getD i default)=true:=h3
   conv=>whnf
   exact aB.bool (by rw[OC (Cm default hi' h3)]; rfl)
  ·replace h3:Cj (l.getD i default)=false:=h3
   conv=>whnf
   refine .mk (by simp only[okI] at *; first|omega|(simp_all; done)|(simp_all; omega)) ?_
   conv=>whnf
   refine⟨i+1,⟨by omega,by rw[D8 default hi' hall]; exact h3⟩,by omega,⟨⟨_,rfl,rfl⟩,trivial⟩,?_,rfl⟩
   repeat' (first|exact trivial|exact⟨_,rfl,rfl⟩|constructor)
 have hi':l.length<=i:=by simpa using h2
 rw[List.take_of_length_le hi'] at hall
 have hml:vO most l=false:=by rw[vO,h1,hall]; rfl
 conv=>whnf
 refine .mk (by simp only[okI] at *; first|omega|(simp_all; done)|(simp_all; omega)) ?_
 conv=>whnf
 refine Fork.mk (fun _=>?_) (fun q=>absurd (q.symm.trans ((rfl:decide ((1:Int)<([V.row 4 g (.clauses l),V.row 4 g' (.clauses a)].length:Int))=true))) Bool.false_ne_true)
 conv=>whnf
 refine .mk (by omega) ?_
 conv=>whnf
 refine⟨fun h1=>?_,fun h1=>?_⟩
 ·replace h1:decide ((a.length:Int)>most)=true:=h1
  conv=>whnf
  exact aB.bool (by rw[OB h1]; rw[Bool.or_true])
 replace h1:decide ((a.length:Int)>most)=false:=h1
 conv=>whnf
 refine aY.same [0,1,5] (fun i:Nat=>[(6,.int i)]) (fun i=>i<=a.length/\(a.take i).any Cj=false) (fun i=>a.length-i) 0 rfl (by decide) rfl (fun _=>rfl) ⟨by omega,by simp⟩ ⟨⟨_,rfl,rfl⟩,trivial⟩ ?_
 conv=>whnf
 refine⟨rfl,?_⟩
 rintro i ⟨hi,hall⟩
 conv=>whnf
 refine .mk (by omega) ?_
 conv=>whnf
 refine⟨fun h2=>?_,fun h2=>?_⟩
 ·have hi':i<a.length:=by simpa using h2
  have hki:=hak i
  conv=>whnf
  repeat(refine VC.mk (by first|(omega)|(simp only[Rw.rng] at *; first|omega|(simp_all; done)|(simp_all; omega))) ?_; conv=>whnf)
  refine⟨fun h3=>?_,fun h3=>?_⟩
  ·replace h3:Cj (a.getD i default)=true:=h3
   conv=>whnf
   exact aB.bool (by rw[OC (Cm default hi' h3)]; rw[Bool.or_true])
  ·replace h3:Cj (a.getD i default)=false:=h3
   conv=>whnf
   refine .mk (by simp only[okI] at *; first|omega|(simp_all; done)|(simp_all; omega)) ?_
   conv=>whnf
   refine⟨i+1,⟨by omega,by rw[D8 default hi' hall]; exact h3⟩,by omega,⟨⟨_,rfl,rfl⟩,trivial⟩,?_,rfl⟩
   repeat' (first|exact trivial|exact⟨_,rfl,rfl⟩|constructor)
 have hi':a.length<=i:=by simpa using h2
 rw[List.take_of_length_le hi'] at hall
 have hma:vO most a=false:=by rw[vO,h1,hall]; rfl
 conv=>whnf
 refine .mk (by simp only[okI] at *; first|omega|(simp_all; done)|(simp_all; omega)) ?_
 conv=>whnf
 refine Fork.mk (fun q=>absurd (q.symm.trans ((rfl:decide ((2:Int)<([V.row 4 g (.clauses l),V.row 4 g' (.clauses a)].length:Int))=false))).symm Bool.false_ne_true) (fun _=>?_)
 conv=>whnf
 exact aB.bool (by rw[hml,hma]; rfl)
end Go.Proofs.YtifbibbicplneaaDoor
