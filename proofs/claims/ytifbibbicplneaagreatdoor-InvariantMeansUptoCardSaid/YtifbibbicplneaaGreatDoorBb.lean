/-
 A part of the proof. No condition.
-/
import Derived.Test.YtifbibbicplneaaGreatDoorId
import Derived.Test.YtifbibbicplneaaGreatDoorBd
namespace Go.Proofs.YtifbibbicplneaaGreatDoor
open Go.Ab Go.Proofs
set_option maxRecDepth 100000
theorem aU.Xc{P:Program}{f:FuncId}{ts ts':List T}{h h2:Hz}{n:Nat}{K:T->Hp->Prop}(Z:Nat->Prop)(W:JW Z h h2)(hs:T.dH Z h.au ts ts')(H:aU P f ts h2.au n K):aU P f ts' h.au n K:=by
 obtain⟨hex,hcl,hcall⟩:=H
 refine⟨hex,hcl,fun F M E vs hk he hts hid hm hn=>?_⟩
 have hget: ∀ i ob,h2.au i=some ob-> ∃ ob',E.h (id i)=some ob'/\ ¬ Z (id i)/\ob'.ty=ob.ty/\ob'.k=ob.k/\T.dH Z E.h ob.l ob'.l/\ob.l.map T.kd=ob'.l.map T.kd/\ob.l.map gZ=ob'.l.map gZ:=fun i ob hi=>by
  simp only[Hz.au,Option.map_eq_some_iff] at hi
  obtain⟨o,e1,rfl⟩:=hi
  obtain⟨o',a1,a2,a3,a4,a5,a6,a7⟩:=Ik W e1
  exact⟨o'.aG,by rw[he]; exact aK a1,a2,a3,a4,by rw[he]; exact a5,a6,a7⟩
 have hob: ∀ i ob,h2.au i=some ob-> ∃ ob',E.h (id i)=some ob'/\ ¬ Z (id i)/\KC Z E.h id ob ob':=fun i ob hi=>by
  obtain⟨ob',a1,a2,a3,a4,a5,a6,a7⟩:=hget i ob hi
  refine⟨ob',a1,a2,a3,a4,by rw[Mc]; exact a5,?_⟩
  rcases(hk.obs _ _ a1).1.kinds with ⟨k1,k2⟩|⟨k1,k2⟩
  ·exact .inl ⟨by rw[<- a4]; exact k1,Oh a7 k2⟩
  ·exact .inr ⟨by rw[<- a4]; exact k1,by rw[<- a4]; exact KD a6 k2⟩
 have hl: ∀ i,(h2.au i).isSome=true->((E.shut Z).h (id i)).isSome=true:=fun i hi=>by
  obtain⟨ob,hi'⟩:=Option.isSome_iff_exists.1 hi
  obtain⟨ob',a1,a2,_⟩:=hob i ob hi'
  rw[yP a2,a1]; rfl
 have ad7:T.aO M ts:=sU _ _ hs hid
 have hvs:bJ ((E.shut Z).ren id h2.au) ts vs:=by
  refine xK hl _ _ ?_
  rw[Mc]
  exact pO hk _ _ (by rw[he]; exact hs) _ hts
 refine(hcall F M ((E.shut Z).ren id h2.au) vs (hk.ren hob fun _ _ _ _ e=>e) rfl hvs ad7 (fun i ob hi=>?_) hn).mono ?_
 ·obtain⟨ob',a1,_,_,_,a5,_⟩:=hget i ob hi
  rw[he] at a1
  exact⟨(hm i ob' a1).1,sU _ _ a5 (hm i ob' a1).2⟩
 ·rintro e w' ⟨v,t',E',rfl,rfl,hp,hv,hk',hext,hS,h7,h8⟩
  refine⟨v,t',E',rfl,rfl,hp,hv,hk',⟨fun g hg=>hext.s g (.inl hg),fun g hg=>hext.w g (hg.imp .inl id),hext.size,hext.os,hext.tape,hext.output,hext.dr⟩,fun i hi hi2=>?_,h7,h8⟩
  obtain⟨a,b,c⟩:=hS i hi hi2
  exact⟨(zM (hl i a)).1,b,c⟩
theorem ah.Xc{P:Program}{f:FuncId}{args args':List V}{h h2:Hz}{n:Nat}{K:V->Hz->Prop}{KW:Nat->V->Hz->Prop}(Z:Nat->Prop)(W:JW Z h h2)(hs:T.dH Z h.au (V.aX args') (V.aX args))
  (H:aU P f (V.aX args') h2.au n fun t hp=> ∃ v h',t=v.aH/\hp=h'.au/\(false=true->h'=h2/\t.free=true)/\K v h'):ah P false none f args h n K KW :=
 ⟨.inl (aU.mono (aU.Xc Z W hs H) fun _ _ ⟨v,h',a,b,_,d⟩=>⟨v,h',a,b,(fun e=>by cases e),d⟩)⟩
def zN:V:=.row 0 true .nil
def TI(name:Str)(fr tt rd wr:Int):V:=.agg [.str name,.int 1,.int fr,.int tt,.int 0,.int 0,zN,zN,zN,zN,.int rd,.int wr,zN,.int 0,zN,zN,zN,.int 0]
def Xe:V:=.agg [.str iZ.name,.int 1,.row 0 false (.strs iZ.states),zN,.row 0 false (.strs iZ.values),.int 0,zN,.row 0 false (.ints [0]),zN,.yQ 19 false [TI [97,115,107] 0 1 (-1) (-1),TI [116,97,107,101] 1 2 0 1,TI [108,101,97,118,101] 2 0 1 0]]
theorem qG{Z:Nat->Prop}{h:Hp}{k:Nat}{l:List T}:T.sub Z h (.sl k false l) (.sl k true l):=⟨.inl rfl,.inl rfl,fun h=>by cases h⟩
theorem kF{Z:Nat->Prop}{h:Hp}{k:Nat}:T.sub Z h (.sl k false []) T.nil:=⟨.inl rfl,.inr rfl,fun h=>by cases h⟩
theorem aj.weak{P:Program}{f:FuncId}{args:List V}{a b:V}(S:aj P f args a)(hs:T.sub (fun _=>True) no b.aH a.aH)(hb:b.free=true):aj P f args b :=
 wI.shut S (fun _=>hs) (V.kG b hb)
theorem Il{Z:Nat->Prop}{h:Hp}{name:Str}{fr tt rd wr:Int}:T.sub Z h (Io (Fb name fr tt rd wr)) (TI name fr tt rd wr).aH:=by
 refine⟨aB _,aB _,aB _,aB _,aB _,aB _,kF,kF,kF,kF,aB _,aB _,kF,aB _,kF,kF,kF,aB _,trivial⟩
theorem UN:T.sub (fun _=>True) no (TJ iZ) Xe.aH:=by
 refine⟨aB _,aB _,aB _,kF,aB _,aB _,kF,aB _,kF,⟨.inr ⟨⟨Il,Il,Il,trivial⟩,fun t ht=>?_⟩,.inl rfl,fun h=>h⟩,trivial⟩
 obtain⟨x,_,rfl⟩:=List.mem_map.1 ht; rfl
theorem uH{Z:Nat->Prop}{h:Hp}{k i ty:Nat}{l:List T}(hz:Z i)(hf:T.dw l=true)(hk:k≠fM)(q:h i=some ⟨ty,k,l⟩):T.sub Z h (.sl k false l) (.own i):=⟨rfl,hz,hf,hk,ty,q⟩
theorem S.QJ:aj Tryz.prog 51 [] (.dat (.bW iZ)):=by
 refine aj.weak (a:=Xe) ?_ UN rfl
 refine aj.of Bd.mZ (by simp) rfl rfl ?_
 conv=>whnf
 refine⟨⟨aB _,aB _,qG,aB _,qG,aB _,aB _,qG,aB _,uH trivial rfl (by decide) rfl,trivial⟩⟩
def ac6:V:=.agg [.str BR.name,.int 1,zN,.yQ 3 false [.agg [.row 0 true (.ints [2]),.int 2]],zN,zN]
theorem S.Ip:aj Tryz.prog 52 [] (.dat (.prop BR)):=by
 refine aj.weak (a:=ac6) ?_ ?_ rfl
 ·refine aj.of Bd.ku (by simp) rfl rfl ?_
  conv=>whnf
  exact⟨⟨aB _,aB _,aB _,uH trivial rfl (by decide) rfl,aB _,aB _,trivial⟩⟩
 ·refine⟨aB _,aB _,kF,⟨.inr ⟨⟨⟨qG,aB _,trivial⟩,trivial⟩,fun t ht=>?_⟩,.inl rfl,fun h=>h⟩,kF,kF,trivial⟩
  obtain⟨x,_,rfl⟩:=List.mem_map.1 ht; rfl
theorem Zw:wK iZ 1 [BJ] []=0:=by kernel_rfl
theorem Xf:sV iZ (iZ.rules.getD 1 default) [BJ] []=(0,⟨0,[0,1,1]⟩):=by kernel_rfl
theorem Zx:Oi iZ BR [BJ,vk] []=true:=by kernel_rfl
theorem abt:Oi iZ BR [BJ] []=false:=by kernel_rfl
theorem Oj:SmallK [BJ]:=by
 refine⟨by decide,fun i=>?_⟩
 match i with
 |0=>exact KE
 |i+1=>constructor<;>first|(exact(by decide:(0:Nat)<2^30))|(intro i; exact(by decide:(0:Nat)<2^30))
theorem Xg:SmallK [BJ,vk]:=by
 refine⟨by decide,fun i=>?_⟩
 match i with
 |0=>exact KE
 |1=>exact Iq
 |i+2=>constructor<;>first|(exact(by decide:(0:Nat)<2^30))|(intro i; exact(by decide:(0:Nat)<2^30))
theorem DK:SmallK []:=by
 refine⟨by decide,fun i=>?_⟩
 constructor<;>first|(exact(by decide:(0:Nat)<2^30))|(intro i; exact(by decide:(0:Nat)<2^30))
theorem ah.ac7{P:Program}{f:FuncId}{args args2:List V}{res:V}{h:Hz}{n:Nat}{K:V->Hz->Prop}{KW:Nat->V->Hz->Prop}(Z:Nat->Prop)(h2 h3:Hz)(j:Nat)(S:aj P f args2 res)(W:JW Z h h2)(W2:JW (fun _=>False) h2 h3)(hs2:T.dH (fun i=>i=j) h3.au (V.aX args2) (V.aX args))(_hr:res.free=true)(hK:K res ((j,none)::h3)):ah P false none f args h n K KW:=by
 refine ah.Xc Z W (dn _) (aU.Xc (fun _=>False) W2 (dn _) ?_)
 refine wI.Ol S (fun i=>i=j) hs2 fun h0 h1 h4=>⟨res,(j,none)::h3,rfl,?_,(fun e=>by cases e),hK⟩
 show ng h0 n none=_
 funext i
 rw[bD]
 show h0 i=if i=j then none else h3.au i
 by_cases hi:i=j
 ·rw[if_pos hi,h1 i hi]
 ·rw[if_neg hi,h4 i hi]
def r2V:V:=.row 0 true (.ints [2])
def Zy:V:=.agg [.yQ 0 false [r2V,r2V],zN,zN]
def Xh:V:=.agg [.yQ 0 false [r2V],.row 0 true (.ints [0]),zN]
theorem TK{Z:Nat->Prop}{h:Hp}:T.sub Z h (nZ BJ) Zy.aH:=by
 refine⟨⟨.inr ⟨⟨qG,qG,trivial⟩,fun t ht=>?_⟩,.inl rfl,fun h=>h⟩,kF,kF,trivial⟩
 obtain⟨x,_,rfl⟩:=List.mem_map.1 ht; rfl
theorem Xi{Z:Nat->Prop}{h:Hp}:T.sub Z h (nZ vk) Xh.aH:=by
 refine⟨⟨.inr ⟨⟨qG,trivial⟩,fun t ht=>?_⟩,.inl rfl,fun h=>h⟩,qG,kF,trivial⟩
 obtain⟨x,_,rfl⟩:=List.mem_map.1 ht; rfl
theorem Om{Z:Nat->Prop}{h:Hp}{i:Nat}(hz:Z i)(q:h i=some ⟨24,0,[r2V.aH,r2V.aH]⟩):T.sub Z h Zy.aH (.agg [.own i,T.nil,T.nil]):=⟨uH hz rfl (by decide) q,aB _,aB _,trivial⟩
theorem UO{Z:Nat->Prop}{h:Hp}{i:Nat}(hz:Z i)(q:h i=some ⟨24,0,[r2V.aH]⟩):T.sub Z h Xh.aH (.agg [.own i,.sl 0 true [.int 0],T.nil]):=⟨uH hz rfl (by decide) q,aB _,aB _,trivial⟩
def Zz(v:V):OV:=.box 59 4 v
def ac8:OV:=.box 27 11 (.dat (.bW iZ))
def ac9:OV:=.box 30 7 (.dat (.prop BR))
theorem S.eU:aj Tryz.prog 16 [] (.bool true):=by
 have hS:aj Tryz.prog 19 [.dat (.bW iZ),.int 1,.row 4 false (.clauses [BJ]),.row 4 true (.clauses [])] (.fA [.int 0,.dat (.elem ⟨0,[0,1,1]⟩),.int 0]):=by
  have:=S.fF iZ 1 [BJ] [] false true wP Oj DK
  rw[Fe,Zw,show(1:Int).toNat=1 from rfl,Xf] at this
  exact this
 refine aj.of Bd.eU (by simp) rfl rfl ?_
 conv=>whnf
 refine ah.pure S.QJ rfl ?_
 conv=>whnf
 refine ah.pure S.Ip rfl ?_
 conv=>whnf
 refine ah.ac7 (fun i=>i=3\/i=8) [(21,some (.row 59 4 .nil [Zy])),(5,some (Zz Zy)),(11,some (Zz Xh)),(15,some ac8),(16,some ac9)] [(21,some (QK [BJ])),(5,some (Zz (.dat (.clause BJ)))),(11,some (Zz (.dat (.clause vk)))),(15,some ac8),(16,some ac9)] 21 hS ?_ ?_ ?_ rfl ?_
 ·refine⟨⟨_,rfl,(by decide),rfl,rfl,⟨Om (.inl rfl) rfl,trivial⟩,rfl,rfl⟩,⟨_,rfl,(by decide),rfl,rfl,⟨Om (.inl rfl) rfl,trivial⟩,rfl,rfl⟩,⟨_,rfl,(by decide),rfl,rfl,⟨UO (.inr rfl) rfl,trivial⟩,rfl,rfl⟩,⟨_,rfl,(by decide),rfl,rfl,dn _,rfl,rfl⟩,⟨_,rfl,(by decide),rfl,rfl,dn _,rfl,rfl⟩,trivial⟩
 ·refine⟨⟨_,rfl,(fun h=>h),rfl,rfl,⟨TK,trivial⟩,rfl,rfl⟩,⟨_,rfl,(fun h=>h),rfl,rfl,⟨TK,trivial⟩,rfl,rfl⟩,⟨_,rfl,(fun h=>h),rfl,rfl,⟨Xi,trivial⟩,rfl,rfl⟩,⟨_,rfl,(fun h=>h),rfl,rfl,dn _,rfl,rfl⟩,⟨_,rfl,(fun h=>h),rfl,rfl,dn _,rfl,rfl⟩,trivial⟩
 ·exact And.intro (aB _) (And.intro (aB _) (And.intro (Xj rfl rfl) (And.intro ⟨.inl rfl,.inr rfl,fun h=>h⟩ trivial)))
 conv=>whnf
 refine ah.pure S.QL rfl ?_
 conv=>whnf
 repeat(refine VC.mk (by first|exact id|exact fun h=>⟨h,h⟩) ?_; conv=>whnf)
 have hC:aj Tryz.prog 21 [.dat (.elem ⟨0,[0,1,1]⟩),.dat (.elem ⟨0,[0,1,1]⟩)] (.int 0):=S.pR ⟨0,[0,1,1]⟩ ⟨0,[0,1,1]⟩ (by decide) (by decide)
 refine ah.KF (fun _=>hC) (fun _=>And.intro (aB _) (And.intro ⟨aB _,qG,trivial⟩ trivial)) rfl rfl ?_
 conv=>whnf
 repeat(refine VC.mk id ?_; conv=>whnf)
 refine Fork.mk (fun _=>?_) (fun hx=>absurd hx (by decide))
 conv=>whnf
 repeat(refine VC.mk (by decide) ?_; conv=>whnf)
 have hB:aj Tryz.prog 22 [.dat (.bW iZ),.dat (.prop BR),.row 4 false (.clauses [BJ,vk]),.row 4 true (.clauses [])] (.bool true):=by
  have:=S.dR iZ BR [BJ,vk] [] false true wP Ir Xg DK
  rw[Zx] at this; exact this
 refine ah.KF (fun _=>hB) (fun _=>And.intro (aB _) (And.intro (aB _) (And.intro (uH trivial rfl (by decide) rfl) (And.intro ⟨.inl rfl,.inr rfl,fun h=>h⟩ trivial)))) rfl rfl ?_
 conv=>whnf
 refine .mk (by decide) ?_
 conv=>whnf
 refine Fork.mk (fun _=>?_) (fun hx=>absurd hx (by decide))
 conv=>whnf
 repeat(refine VC.mk (by decide) ?_; conv=>whnf)
 have hB1:aj Tryz.prog 22 [.dat (.bW iZ),.dat (.prop BR),.row 4 false (.clauses [BJ]),.row 4 true (.clauses [])] (.bool false):=by
  have:=S.dR iZ BR [BJ] [] false true wP Ir Oj DK
  rw[abt] at this; exact this
 refine ah.KF (fun _=>hB1) (fun _=>And.intro (aB _) (And.intro (aB _) (And.intro (uH trivial rfl (by decide) rfl) (And.intro ⟨.inl rfl,.inr rfl,fun h=>h⟩ trivial)))) rfl rfl ?_
 conv=>whnf
 repeat(refine VC.mk (by decide) ?_; conv=>whnf)
 exact ak.bool (by decide)
def zO(k:Clause):Bool:=decide ((k.each.length:Int)>6)
def xM(most:Int)(l:List Clause):Bool:=decide ((l.length:Int)>most)||l.any zO
theorem CJ{α:Type}{p:α->Bool}{l:List α}{i:Nat}(d:α)(hi:i<l.length)(h:(l.take i).any p=false):(l.take (i+1)).any p=p (l.getD i d):=by
 rw[List.take_add_one,List.any_append,h,Bool.false_or,List.getElem?_eq_getElem hi]
 simp[hi]
theorem zQ{α:Type}{p:α->Bool}{l:List α}{i:Nat}(d:α)(hi:i<l.length)(h:p (l.getD i d)=true):l.any p=true:=by
 rw[List.any_eq_true]
 exact⟨l[i],List.getElem_mem hi,by simpa [hi] using h⟩
theorem Md{most:Int}{l:List Clause}(h:decide ((l.length:Int)>most)=true):xM most l=true:=by rw[xM,h]; rfl
theorem Me{most:Int}{l:List Clause}(h:l.any zO=true):xM most l=true:=by rw[xM,h,Bool.or_true]
theorem S.Oo(most:Int)(l:List Clause)(f g:Bool)(hl:l.length<2^30)(hlk: ∀ i,(l.getD i default).each.length<2^30):aj Tryz.prog 15 [.int most,.yQ 0 f [.row 4 g (.clauses l)]] (.bool (xM most l)):=by
 refine aj.of Bd.yR (by simp) (by cases f<;>cases g<;>rfl) rfl ?_
 conv=>whnf
 refine aC.times 2 rfl ?_
 conv=>whnf
 refine Fork.mk (fun _=>?_) (fun q=>absurd (q.symm.trans ((rfl:decide ((0:Int)<([V.row 4 g (.clauses l)].length:Int))=true))) Bool.false_ne_true)
 conv=>whnf
 refine .mk (by omega) ?_
 conv=>whnf
 refine⟨fun h1=>?_,fun h1=>?_⟩
 ·replace h1:decide ((l.length:Int)>most)=true:=h1
  conv=>whnf
  exact ak.bool (by rw[Md h1])
 replace h1:decide ((l.length:Int)>most)=false:=h1
 conv=>whnf
 refine aC.same [0,1,5] (fun i:Nat=>[(6,.int i)]) (fun i=>i<=l.length/\(l.take i).any zO=false) (fun i=>l.length-i) 0 rfl (by decide) rfl (fun _=>rfl) ⟨by omega,by simp⟩ ⟨⟨_,rfl,rfl⟩,trivial⟩ ?_
 conv=>whnf
 refine⟨rfl,?_⟩
 rintro i ⟨hi,hall⟩
 conv=>whnf
 refine .mk (by omega) ?_
 conv=>whnf
 refine⟨fun h2=>?_,fun h2=>?_⟩
 ·have hi':i<l.length:=by simpa using h2
  have hki:=hlk i
  conv=>whnf
  repeat(refine VC.mk (by first|(omega)|(simp only[Rw.rng] at *; omega)) ?_; conv=>whnf)
  refine⟨fun h3=>?_,fun h3=>?_⟩
  ·replace h3:zO (l.getD i default)=true:=h3
   conv=>whnf
   exact ak.bool (by rw[Me (zQ default hi' h3)])
  ·replace h3:zO (l.getD i default)=false:=h3
   conv=>whnf
   refine .mk (by simp only[okI] at *; omega) ?_
   conv=>whnf
   refine⟨i+1,⟨by omega,by rw[CJ default hi' hall]; exact h3⟩,by omega,⟨⟨_,rfl,rfl⟩,trivial⟩,?_,rfl⟩
   repeat' (first|exact trivial|exact⟨_,rfl,rfl⟩|constructor)
 have hi':l.length<=i:=by simpa using h2
 rw[List.take_of_length_le hi'] at hall
 have hml:xM most l=false:=by rw[xM,h1,hall]; rfl
 conv=>whnf
 refine .mk (by simp only[okI] at *; omega) ?_
 conv=>whnf
 refine Fork.mk (fun q=>absurd (q.symm.trans ((rfl:decide ((1:Int)<([V.row 4 g (.clauses l)].length:Int))=false))).symm Bool.false_ne_true) (fun _=>?_)
 conv=>whnf
 exact ak.bool (by rw[hml])
theorem S.Gp(most:Int)(l a:List Clause)(f g g':Bool)(hl:l.length<2^30)(hlk: ∀ i,(l.getD i default).each.length<2^30)(ha:a.length<2^30)(hak: ∀ i,(a.getD i default).each.length<2^30):aj Tryz.prog 15 [.int most,.yQ 0 f [.row 4 g (.clauses l),.row 4 g' (.clauses a)]] (.bool (xM most l||xM most a)):=by
 refine aj.of Bd.yR (by simp) (by cases f<;>cases g<;>cases g'<;>rfl) rfl ?_
 conv=>whnf
 refine aC.times 3 rfl ?_
 conv=>whnf
 refine Fork.mk (fun _=>?_) (fun q=>absurd (q.symm.trans ((rfl:decide ((0:Int)<([V.row 4 g (.clauses l),V.row 4 g' (.clauses a)].length:Int))=true))) Bool.false_ne_true)
 conv=>whnf
 refine .mk (by omega) ?_
 conv=>whnf
 refine⟨fun h1=>?_,fun h1=>?_⟩
 ·replace h1:decide ((l.length:Int)>most)=true:=h1
  conv=>whnf
  exact ak.bool (by rw[Md h1]; rfl)
 replace h1:decide ((l.length:Int)>most)=false:=h1
 conv=>whnf
 refine aC.same [0,1,5] (fun i:Nat=>[(6,.int i)]) (fun i=>i<=l.length/\(l.take i).any zO=false) (fun i=>l.length-i) 0 rfl (by decide) rfl (fun _=>rfl) ⟨by omega,by simp⟩ ⟨⟨_,rfl,rfl⟩,trivial⟩ ?_
 conv=>whnf
 refine⟨rfl,?_⟩
 rintro i ⟨hi,hall⟩
 conv=>whnf
 refine .mk (by omega) ?_
 conv=>whnf
 refine⟨fun h2=>?_,fun h2=>?_⟩
 ·have hi':i<l.length:=by simpa using h2
  have hki:=hlk i
  conv=>whnf
  repeat(refine VC.mk (by first|(omega)|(simp only[Rw.rng] at *; omega)) ?_; conv=>whnf)
  refine⟨fun h3=>?_,fun h3=>?_⟩
  ·replace h3:zO (l.getD i default)=true:=h3
   conv=>whnf
   exact ak.bool (by rw[Me (zQ default hi' h3)]; rfl)
  ·replace h3:zO (l.getD i default)=false:=h3
   conv=>whnf
   refine .mk (by simp only[okI] at *; omega) ?_
   conv=>whnf
   refine⟨i+1,⟨by omega,by rw[CJ default hi' hall]; exact h3⟩,by omega,⟨⟨_,rfl,rfl⟩,trivial⟩,?_,rfl⟩
   repeat' (first|exact trivial|exact⟨_,rfl,rfl⟩|constructor)
 have hi':l.length<=i:=by simpa using h2
 rw[List.take_of_length_le hi'] at hall
 have hml:xM most l=false:=by rw[xM,h1,hall]; rfl
 conv=>whnf
 refine .mk (by simp only[okI] at *; omega) ?_
 conv=>whnf
 refine Fork.mk (fun _=>?_) (fun q=>absurd (q.symm.trans ((rfl:decide ((1:Int)<([V.row 4 g (.clauses l),V.row 4 g' (.clauses a)].length:Int))=true))) Bool.false_ne_true)
 conv=>whnf
 refine .mk (by omega) ?_
 conv=>whnf
 refine⟨fun h1=>?_,fun h1=>?_⟩
 ·replace h1:decide ((a.length:Int)>most)=true:=h1
  conv=>whnf
  exact ak.bool (by rw[Md h1]; rw[Bool.or_true])
 replace h1:decide ((a.length:Int)>most)=false:=h1
 conv=>whnf
 refine aC.same [0,1,5] (fun i:Nat=>[(6,.int i)]) (fun i=>i<=a.length/\(a.take i).any zO=false) (fun i=>a.length-i) 0 rfl (by decide) rfl (fun _=>rfl) ⟨by omega,by simp⟩ ⟨⟨_,rfl,rfl⟩,trivial⟩ ?_
 conv=>whnf
 refine⟨rfl,?_⟩
 rintro i ⟨hi,hall⟩
 conv=>whnf
 refine .mk (by omega) ?_
 conv=>whnf
 refine⟨fun h2=>?_,fun h2=>?_⟩
 ·have hi':i<a.length:=by simpa using h2
  have hki:=hak i
  conv=>whnf
  repeat(refine VC.mk (by first|(omega)|(simp only[Rw.rng] at *; omega)) ?_; conv=>whnf)
  refine⟨fun h3=>?_,fun h3=>?_⟩
  ·replace h3:zO (a.getD i default)=true:=h3
   conv=>whnf
   exact ak.bool (by rw[Me (zQ default hi' h3)]; rw[Bool.or_true])
  ·replace h3:zO (a.getD i default)=false:=h3
   conv=>whnf
   refine .mk (by simp only[okI] at *; omega) ?_
   conv=>whnf
   refine⟨i+1,⟨by omega,by rw[CJ default hi' hall]; exact h3⟩,by omega,⟨⟨_,rfl,rfl⟩,trivial⟩,?_,rfl⟩
   repeat' (first|exact trivial|exact⟨_,rfl,rfl⟩|constructor)
 have hi':a.length<=i:=by simpa using h2
 rw[List.take_of_length_le hi'] at hall
 have hma:xM most a=false:=by rw[xM,h1,hall]; rfl
 conv=>whnf
 refine .mk (by simp only[okI] at *; omega) ?_
 conv=>whnf
 refine Fork.mk (fun q=>absurd (q.symm.trans ((rfl:decide ((2:Int)<([V.row 4 g (.clauses l),V.row 4 g' (.clauses a)].length:Int))=false))).symm Bool.false_ne_true) (fun _=>?_)
 conv=>whnf
 exact ak.bool (by rw[hml,hma]; rfl)
end Go.Proofs.YtifbibbicplneaaGreatDoor
