/-
 A part of the proof. No condition.
-/
import Derived.Test.YtiakcepnlcpanaaGreatDoorId
import Derived.Test.YtiakcepnlcpanaaGreatDoorBd
namespace Go.Proofs.YtiakcepnlcpanaaGreatDoor
open Go.Ab Go.Proofs
set_option maxRecDepth 100000
theorem aF.Oo{P:Program}{f:FuncId}{ts ts':List T}{h h2:Hz}{n:Nat}{K:T->Hp->Prop}(Z:Nat->Prop)(W:Df Z h h2)(hs:T.cu Z h.aj ts ts')(H:aF P f ts h2.aj n K):aF P f ts' h.aj n K:=by
 obtain⟨hex,hcl,hcall⟩:=H
 refine⟨hex,hcl,fun F M E vs hk he hts hid hm hn=>?_⟩
 have hget: ∀ i ob,h2.aj i=some ob-> ∃ ob',E.h (id i)=some ob'/\ ¬ Z (id i)/\ob'.ty=ob.ty/\ob'.k=ob.k/\T.cu Z E.h ob.l ob'.l/\ob.l.map T.kd=ob'.l.map T.kd/\ob.l.map iw=ob'.l.map iw:=fun i ob hi=>by
  simp only[Hz.aj,Option.map_eq_some_iff] at hi
  obtain⟨o,e1,rfl⟩:=hi
  obtain⟨o',a1,a2,a3,a4,a5,a6,a7⟩:=Ba W e1
  exact⟨o'.aG,by rw[he]; exact aJ a1,a2,a3,a4,by rw[he]; exact a5,a6,a7⟩
 have hob: ∀ i ob,h2.aj i=some ob-> ∃ ob',E.h (id i)=some ob'/\ ¬ Z (id i)/\FB Z E.h id ob ob':=fun i ob hi=>by
  obtain⟨ob',a1,a2,a3,a4,a5,a6,a7⟩:=hget i ob hi
  refine⟨ob',a1,a2,a3,a4,by rw[JQ]; exact a5,?_⟩
  rcases(hk.obs _ _ a1).1.kinds with ⟨k1,k2⟩|⟨k1,k2⟩
  ·exact .inl ⟨by rw[<- a4]; exact k1,FC a7 k2⟩
  ·exact .inr ⟨by rw[<- a4]; exact k1,by rw[<- a4]; exact Dh a6 k2⟩
 have hl: ∀ i,(h2.aj i).isSome=true->((E.shut Z).h (id i)).isSome=true:=fun i hi=>by
  obtain⟨ob,hi'⟩:=Option.isSome_iff_exists.1 hi
  obtain⟨ob',a1,a2,_⟩:=hob i ob hi'
  rw[uF a2,a1]; rfl
 have acO:T.aN M ts:=nG _ _ hs hid
 have hvs:bn ((E.shut Z).ren id h2.aj) ts vs:=by
  refine rW hl _ _ ?_
  rw[JQ]
  exact mV hk _ _ (by rw[he]; exact hs) _ hts
 refine(hcall F M ((E.shut Z).ren id h2.aj) vs (hk.ren hob fun _ _ _ _ e=>e) rfl hvs acO (fun i ob hi=>?_) hn).mono ?_
 ·obtain⟨ob',a1,_,_,_,a5,_⟩:=hget i ob hi
  rw[he] at a1
  exact⟨(hm i ob' a1).1,nG _ _ a5 (hm i ob' a1).2⟩
 ·rintro e w' ⟨v,t',E',rfl,rfl,hp,hv,hk',hext,hS,h7,h8⟩
  refine⟨v,t',E',rfl,rfl,hp,hv,hk',⟨fun g hg=>hext.s g (.inl hg),fun g hg=>hext.w g (hg.imp .inl id),hext.size,hext.os,hext.tape,hext.output,hext.dr⟩,fun i hi hi2=>?_,h7,h8⟩
  obtain⟨a,b,c⟩:=hS i hi hi2
  exact⟨(xY (hl i a)).1,b,c⟩
theorem ah.Oo{P:Program}{f:FuncId}{args args':List V}{h h2:Hz}{n:Nat}{K:V->Hz->Prop}{KW:Nat->V->Hz->Prop}(Z:Nat->Prop)(W:Df Z h h2)(hs:T.cu Z h.aj (V.aS args') (V.aS args))
  (H:aF P f (V.aS args') h2.aj n fun t hp=> ∃ v h',t=v.aH/\hp=h'.aj/\(false=true->h'=h2/\t.free=true)/\K v h'):ah P false none f args h n K KW :=
 ⟨.inl (aF.mono (aF.Oo Z W hs H) fun _ _ ⟨v,h',a,b,_,d⟩=>⟨v,h',a,b,(fun e=>by cases e),d⟩)⟩
def xZ:V:=.row 0 true .nil
def Ql(name:Str)(fr tt rd wr:Int):V:=.agg [.str name,.int 1,.int fr,.int tt,.int 0,.int 0,xZ,xZ,xZ,xZ,.int rd,.int wr,xZ,.int 0,xZ,xZ,xZ,.int 0]
def UN:V:=.agg [.str iK.name,.int 1,.row 0 false (.strs iK.states),xZ,.row 0 false (.strs iK.values),.int 0,xZ,.row 0 false (.ints [0]),xZ,.xO 19 false [Ql [97,115,107] 0 1 (-1) (-1),Ql [116,97,107,101] 1 2 0 1,Ql [108,101,97,118,101] 2 0 1 0]]
theorem oM{Z:Nat->Prop}{h:Hp}{k:Nat}{l:List T}:T.sub Z h (.sl k false l) (.sl k true l):=⟨.inl rfl,.inl rfl,fun h=>by cases h⟩
theorem jI{Z:Nat->Prop}{h:Hp}{k:Nat}:T.sub Z h (.sl k false []) T.nil:=⟨.inl rfl,.inr rfl,fun h=>by cases h⟩
theorem au.weak{P:Program}{f:FuncId}{args:List V}{a b:V}(S:au P f args a)(hs:T.sub (fun _=>True) no b.aH a.aH)(hb:b.free=true):au P f args b :=
 uy.shut S (fun _=>hs) (V.lX b hb)
theorem FD{Z:Nat->Prop}{h:Hp}{name:Str}{fr tt rd wr:Int}:T.sub Z h (FH (Di name fr tt rd wr)) (Ql name fr tt rd wr).aH:=by
 refine⟨aC _,aC _,aC _,aC _,aC _,aC _,jI,jI,jI,jI,aC _,aC _,jI,aC _,jI,jI,jI,aC _,trivial⟩
theorem Ry:T.sub (fun _=>True) no (Qm iK) UN.aH:=by
 refine⟨aC _,aC _,aC _,jI,aC _,aC _,jI,aC _,jI,⟨.inr ⟨⟨FD,FD,FD,trivial⟩,fun t ht=>?_⟩,.inl rfl,fun h=>h⟩,trivial⟩
 obtain⟨x,_,rfl⟩:=List.mem_map.1 ht; rfl
theorem wM{Z:Nat->Prop}{h:Hp}{k i ty:Nat}{l:List T}(hz:Z i)(hf:T.dh l=true)(hk:k≠fF)(q:h i=some ⟨ty,k,l⟩):T.sub Z h (.sl k false l) (.own i):=⟨rfl,hz,hf,hk,ty,q⟩
theorem S.Ox:au Tryz.prog 14 [] (.dat (.eU iK)):=by
 refine au.weak (a:=UN) ?_ Ry rfl
 refine au.of Bd.lQ (by simp) rfl rfl ?_
 conv=>whnf
 refine⟨⟨aC _,aC _,oM,aC _,oM,aC _,aC _,oM,aC _,wM trivial rfl (by decide) rfl,trivial⟩⟩
def aby:V:=.agg [.str zK.name,.int 1,xZ,.xO 3 false [.agg [.row 0 true (.ints [2]),.int 2]],xZ,xZ]
theorem S.FI:au Tryz.prog 15 [] (.dat (.prop zK)):=by
 refine au.weak (a:=aby) ?_ ?_ rfl
 ·refine au.of Bd.jD (by simp) rfl rfl ?_
  conv=>whnf
  exact⟨⟨aC _,aC _,aC _,wM trivial rfl (by decide) rfl,aC _,aC _,trivial⟩⟩
 ·refine⟨aC _,aC _,jI,⟨.inr ⟨⟨⟨oM,aC _,trivial⟩,trivial⟩,fun t ht=>?_⟩,.inl rfl,fun h=>h⟩,jI,jI,trivial⟩
  obtain⟨x,_,rfl⟩:=List.mem_map.1 ht; rfl
theorem Xz:uZ iK 1 [zB] []=0:=by kernel_rfl
theorem UO:nX iK (iK.rules.getD 1 default) [zB] []=(0,⟨0,[0,1,1]⟩):=by kernel_rfl
theorem XA:ZM iK zK [zB,sH] []=true:=by kernel_rfl
theorem ZN:ZM iK zK [zB] []=false:=by kernel_rfl
theorem LG:SmallK [zB]:=by
 refine⟨by decide,fun i=>?_⟩
 match i with
 |0=>exact IW
 |i+1=>constructor<;>first|(exact(by decide:(0:Nat)<2^30))|(intro i; exact(by decide:(0:Nat)<2^30))
theorem UQ:SmallK [zB,sH]:=by
 refine⟨by decide,fun i=>?_⟩
 match i with
 |0=>exact IW
 |1=>exact FK
 |i+2=>constructor<;>first|(exact(by decide:(0:Nat)<2^30))|(intro i; exact(by decide:(0:Nat)<2^30))
theorem Bc:SmallK []:=by
 refine⟨by decide,fun i=>?_⟩
 constructor<;>first|(exact(by decide:(0:Nat)<2^30))|(intro i; exact(by decide:(0:Nat)<2^30))
theorem ah.abz{P:Program}{f:FuncId}{args args2:List V}{res:V}{h:Hz}{n:Nat}{K:V->Hz->Prop}{KW:Nat->V->Hz->Prop}(Z:Nat->Prop)(h2 h3:Hz)(j:Nat)(S:au P f args2 res)(W:Df Z h h2)(W2:Df (fun _=>False) h2 h3)(hs2:T.cu (fun i=>i=j) h3.aj (V.aS args2) (V.aS args))(_hr:res.free=true)(hK:K res ((j,none)::h3)):ah P false none f args h n K KW:=by
 refine ah.Oo Z W (bP _) (aF.Oo (fun _=>False) W2 (bP _) ?_)
 refine uy.Qn S (fun i=>i=j) hs2 fun h0 h1 h4=>⟨res,(j,none)::h3,rfl,?_,(fun e=>by cases e),hK⟩
 show ng h0 n none=_
 funext i
 rw[aZ]
 show h0 i=if i=j then none else h3.aj i
 by_cases hi:i=j
 ·rw[if_pos hi,h1 i hi]
 ·rw[if_neg hi,h4 i hi]
def r2V:V:=.row 0 true (.ints [2])
def XB:V:=.agg [.xO 0 false [r2V,r2V],xZ,xZ]
def UR:V:=.agg [.xO 0 false [r2V],.row 0 true (.ints [0]),xZ]
theorem Qo{Z:Nat->Prop}{h:Hp}:T.sub Z h (kT zB) XB.aH:=by
 refine⟨⟨.inr ⟨⟨oM,oM,trivial⟩,fun t ht=>?_⟩,.inl rfl,fun h=>h⟩,jI,jI,trivial⟩
 obtain⟨x,_,rfl⟩:=List.mem_map.1 ht; rfl
theorem UU{Z:Nat->Prop}{h:Hp}:T.sub Z h (kT sH) UR.aH:=by
 refine⟨⟨.inr ⟨⟨oM,trivial⟩,fun t ht=>?_⟩,.inl rfl,fun h=>h⟩,oM,jI,trivial⟩
 obtain⟨x,_,rfl⟩:=List.mem_map.1 ht; rfl
theorem LH{Z:Nat->Prop}{h:Hp}{i:Nat}(hz:Z i)(q:h i=some ⟨24,0,[r2V.aH,r2V.aH]⟩):T.sub Z h XB.aH (.agg [.own i,T.nil,T.nil]):=⟨wM hz rfl (by decide) q,aC _,aC _,trivial⟩
theorem Rz{Z:Nat->Prop}{h:Hp}{i:Nat}(hz:Z i)(q:h i=some ⟨24,0,[r2V.aH]⟩):T.sub Z h UR.aH (.agg [.own i,.sl 0 true [.int 0],T.nil]):=⟨wM hz rfl (by decide) q,aC _,aC _,trivial⟩
def XC(v:V):OV:=.box 36 4 v
def abA:OV:=.box 27 11 (.dat (.eU iK))
def abB:OV:=.box 30 7 (.dat (.prop zK))
theorem S.kU:au Tryz.prog 7 [] (.bool true):=by
 have hS:au Tryz.prog 13 [.dat (.eU iK),.int 1,.row 4 false (.clauses [zB]),.row 4 true (.clauses [])] (.dM [.int 0,.dat (.elem ⟨0,[0,1,1]⟩),.int 0]):=by
  have:=S.fA iK 1 [zB] [] false true uG LG Bc
  rw[JR,Xz,show(1:Int).toNat=1 from rfl,UO] at this
  exact this
 refine au.of Bd.kU (by simp) rfl rfl ?_
 conv=>whnf
 refine ah.pure S.Ox rfl ?_
 conv=>whnf
 refine ah.pure S.FI rfl ?_
 conv=>whnf
 refine ah.abz (fun i=>i=3\/i=8) [(21,some (.row 36 4 .nil [XB])),(5,some (XC XB)),(11,some (XC UR)),(15,some abA),(16,some abB)] [(21,some (UW [zB])),(5,some (XC (.dat (.clause zB)))),(11,some (XC (.dat (.clause sH)))),(15,some abA),(16,some abB)] 21 hS ?_ ?_ ?_ rfl ?_
 ·refine⟨⟨_,rfl,(by decide),rfl,rfl,⟨LH (.inl rfl) rfl,trivial⟩,rfl,rfl⟩,⟨_,rfl,(by decide),rfl,rfl,⟨LH (.inl rfl) rfl,trivial⟩,rfl,rfl⟩,⟨_,rfl,(by decide),rfl,rfl,⟨Rz (.inr rfl) rfl,trivial⟩,rfl,rfl⟩,⟨_,rfl,(by decide),rfl,rfl,bP _,rfl,rfl⟩,⟨_,rfl,(by decide),rfl,rfl,bP _,rfl,rfl⟩,trivial⟩
 ·refine⟨⟨_,rfl,(fun h=>h),rfl,rfl,⟨Qo,trivial⟩,rfl,rfl⟩,⟨_,rfl,(fun h=>h),rfl,rfl,⟨Qo,trivial⟩,rfl,rfl⟩,⟨_,rfl,(fun h=>h),rfl,rfl,⟨UU,trivial⟩,rfl,rfl⟩,⟨_,rfl,(fun h=>h),rfl,rfl,bP _,rfl,rfl⟩,⟨_,rfl,(fun h=>h),rfl,rfl,bP _,rfl,rfl⟩,trivial⟩
 ·exact And.intro (aC _) (And.intro (aC _) (And.intro (Zi rfl rfl) (And.intro ⟨.inl rfl,.inr rfl,fun h=>h⟩ trivial)))
 conv=>whnf
 refine ah.pure S.Oy rfl ?_
 conv=>whnf
 repeat(refine VC.mk (by first|exact id|exact fun h=>⟨h,h⟩) ?_; conv=>whnf)
 have hC:au Tryz.prog 17 [.dat (.elem ⟨0,[0,1,1]⟩),.dat (.elem ⟨0,[0,1,1]⟩)] (.int 0):=S.qI ⟨0,[0,1,1]⟩ ⟨0,[0,1,1]⟩ (by decide) (by decide)
 refine ah.LJ (fun _=>hC) (fun _=>And.intro (aC _) (And.intro ⟨aC _,oM,trivial⟩ trivial)) rfl rfl ?_
 conv=>whnf
 repeat(refine VC.mk id ?_; conv=>whnf)
 refine Fork.mk (fun _=>?_) (fun hx=>absurd hx (by decide))
 conv=>whnf
 repeat(refine VC.mk (by decide) ?_; conv=>whnf)
 have hB:au Tryz.prog 18 [.dat (.eU iK),.dat (.prop zK),.row 4 false (.clauses [zB,sH]),.row 4 true (.clauses [])] (.bool true):=by
  have:=S.eu iK zK [zB,sH] [] false true uG FM UQ Bc
  rw[XA] at this; exact this
 refine ah.LJ (fun _=>hB) (fun _=>And.intro (aC _) (And.intro (aC _) (And.intro (wM trivial rfl (by decide) rfl) (And.intro ⟨.inl rfl,.inr rfl,fun h=>h⟩ trivial)))) rfl rfl ?_
 conv=>whnf
 refine .mk (by decide) ?_
 conv=>whnf
 refine Fork.mk (fun _=>?_) (fun hx=>absurd hx (by decide))
 conv=>whnf
 repeat(refine VC.mk (by decide) ?_; conv=>whnf)
 have hB1:au Tryz.prog 18 [.dat (.eU iK),.dat (.prop zK),.row 4 false (.clauses [zB]),.row 4 true (.clauses [])] (.bool false):=by
  have:=S.eu iK zK [zB] [] false true uG FM LG Bc
  rw[ZN] at this; exact this
 refine ah.LJ (fun _=>hB1) (fun _=>And.intro (aC _) (And.intro (aC _) (And.intro (wM trivial rfl (by decide) rfl) (And.intro ⟨.inl rfl,.inr rfl,fun h=>h⟩ trivial)))) rfl rfl ?_
 conv=>whnf
 repeat(refine VC.mk (by decide) ?_; conv=>whnf)
 exact aA.bool (by decide)
def Ef(k:Clause):Bool:=decide ((k.each.length:Int)>6)
def xH(most:Int)(l:List Clause):Bool:=decide ((l.length:Int)>most)||l.any Ef
theorem FN{α:Type}{p:α->Bool}{l:List α}{i:Nat}(d:α)(hi:i<l.length)(h:(l.take i).any p=false):(l.take (i+1)).any p=p (l.getD i d):=by
 rw[List.take_add_one,List.any_append,h,Bool.false_or,List.getElem?_eq_getElem hi]
 simp[hi]
theorem Eh{α:Type}{p:α->Bool}{l:List α}{i:Nat}(d:α)(hi:i<l.length)(h:p (l.getD i d)=true):l.any p=true:=by
 rw[List.any_eq_true]
 exact⟨l[i],List.getElem_mem hi,by simpa [hi] using h⟩
theorem Qp{most:Int}{l:List Clause}(h:decide ((l.length:Int)>most)=true):xH most l=true:=by rw[xH,h]; rfl
theorem Qq{most:Int}{l:List Clause}(h:l.any Ef=true):xH most l=true:=by rw[xH,h,Bool.or_true]
theorem S.LK(most:Int)(l a:List Clause)(f g g':Bool)(hl:l.length<2^30)(hlk: ∀ i,(l.getD i default).each.length<2^30)(ha:a.length<2^30)(hak: ∀ i,(a.getD i default).each.length<2^30):au Tryz.prog 4 [.int most,.xO 0 f [.row 4 g (.clauses l),.row 4 g' (.clauses a)]] (.bool (xH most l||xH most a)):=by
 refine au.of Bd.Ac (by simp) (by cases f<;>cases g<;>cases g'<;>rfl) rfl ?_
 conv=>whnf
 refine aU.times 3 rfl ?_
 conv=>whnf
 refine Fork.mk (fun _=>?_) (fun q=>absurd (q.symm.trans ((rfl:decide ((0:Int)<([V.row 4 g (.clauses l),V.row 4 g' (.clauses a)].length:Int))=true))) Bool.false_ne_true)
 conv=>whnf
 refine .mk (by omega) ?_
 conv=>whnf
 refine⟨fun h1=>?_,fun h1=>?_⟩
 ·replace h1:decide ((l.length:Int)>most)=true:=h1
  conv=>whnf
  exact aA.bool (by rw[Qp h1]; rfl)
 replace h1:decide ((l.length:Int)>most)=false:=h1
 conv=>whnf
 refine aU.same [0,1,5] (fun i:Nat=>[(6,.int i)]) (fun i=>i<=l.length/\(l.take i).any Ef=false) (fun i=>l.length-i) 0 rfl (by decide) rfl (fun _=>rfl) ⟨by omega,by simp⟩ ⟨⟨_,rfl,rfl⟩,trivial⟩ ?_
 conv=>whnf
 refine⟨rfl,?_⟩
 rintro i ⟨hi,hall⟩
 conv=>whnf
 refine .mk (by omega) ?_
 conv=>whnf
 refine⟨fun h2=>?_,fun h2=>?_⟩
 ·have hi':i<l.length:=by simpa using h2
  have hki:=hlk i
  conv=>whnf
  repeat(refine VC.mk (by first|(omega)|(simp only[Rw.rng] at *; omega)) ?_; conv=>whnf)
  refine⟨fun h3=>?_,fun h3=>?_⟩
  ·replace h3:Ef (l.getD i default)=true:=h3
   conv=>whnf
   exact aA.bool (by rw[Qq (Eh default hi' h3)]; rfl)
  ·replace h3:Ef (l.getD i default)=false:=h3
   conv=>whnf
   refine .mk (by simp only[okI] at *; omega) ?_
   conv=>whnf
   refine⟨i+1,⟨by omega,by rw[FN default hi' hall]; exact h3⟩,by omega,⟨⟨_,rfl,rfl⟩,trivial⟩,?_,rfl⟩
   repeat' (first|exact trivial|exact⟨_,rfl,rfl⟩|constructor)
 have hi':l.length<=i:=by simpa using h2
 rw[List.take_of_length_le hi'] at hall
 have hml:xH most l=false:=by rw[xH,h1,hall]; rfl
 conv=>whnf
 refine .mk (by simp only[okI] at *; omega) ?_
 conv=>whnf
 refine Fork.mk (fun _=>?_) (fun q=>absurd (q.symm.trans ((rfl:decide ((1:Int)<([V.row 4 g (.clauses l),V.row 4 g' (.clauses a)].length:Int))=true))) Bool.false_ne_true)
 conv=>whnf
 refine .mk (by omega) ?_
 conv=>whnf
 refine⟨fun h1=>?_,fun h1=>?_⟩
 ·replace h1:decide ((a.length:Int)>most)=true:=h1
  conv=>whnf
  exact aA.bool (by rw[Qp h1]; rw[Bool.or_true])
 replace h1:decide ((a.length:Int)>most)=false:=h1
 conv=>whnf
 refine aU.same [0,1,5] (fun i:Nat=>[(6,.int i)]) (fun i=>i<=a.length/\(a.take i).any Ef=false) (fun i=>a.length-i) 0 rfl (by decide) rfl (fun _=>rfl) ⟨by omega,by simp⟩ ⟨⟨_,rfl,rfl⟩,trivial⟩ ?_
 conv=>whnf
 refine⟨rfl,?_⟩
 rintro i ⟨hi,hall⟩
 conv=>whnf
 refine .mk (by omega) ?_
 conv=>whnf
 refine⟨fun h2=>?_,fun h2=>?_⟩
 ·have hi':i<a.length:=by simpa using h2
  have hki:=hak i
  conv=>whnf
  repeat(refine VC.mk (by first|(omega)|(simp only[Rw.rng] at *; omega)) ?_; conv=>whnf)
  refine⟨fun h3=>?_,fun h3=>?_⟩
  ·replace h3:Ef (a.getD i default)=true:=h3
   conv=>whnf
   exact aA.bool (by rw[Qq (Eh default hi' h3)]; rw[Bool.or_true])
  ·replace h3:Ef (a.getD i default)=false:=h3
   conv=>whnf
   refine .mk (by simp only[okI] at *; omega) ?_
   conv=>whnf
   refine⟨i+1,⟨by omega,by rw[FN default hi' hall]; exact h3⟩,by omega,⟨⟨_,rfl,rfl⟩,trivial⟩,?_,rfl⟩
   repeat' (first|exact trivial|exact⟨_,rfl,rfl⟩|constructor)
 have hi':a.length<=i:=by simpa using h2
 rw[List.take_of_length_le hi'] at hall
 have hma:xH most a=false:=by rw[xH,h1,hall]; rfl
 conv=>whnf
 refine .mk (by simp only[okI] at *; omega) ?_
 conv=>whnf
 refine Fork.mk (fun q=>absurd (q.symm.trans ((rfl:decide ((2:Int)<([V.row 4 g (.clauses l),V.row 4 g' (.clauses a)].length:Int))=false))).symm Bool.false_ne_true) (fun _=>?_)
 conv=>whnf
 exact aA.bool (by rw[hml,hma]; rfl)
end Go.Proofs.YtiakcepnlcpanaaGreatDoor
