/-
 A part of the proof. No condition.
-/
import Derived.Test.YtbfhebmdcpmfaaaGreatDoorIb
namespace Go.Proofs.YtbfhebmdcpmfaaaGreatDoor
open Go.Ab Go.Proofs
set_option maxRecDepth 100000
theorem ah.row{l:List Clause}{f:Bool}{es:List (Int×List Bool)}{e:Elem}{h:Hz}{i j n:Nat}{K:V->Hz->Prop}{KW:Nat->V->Hz->Prop}(hsm:SmallK l)(ht:IZ l e)(hg:iL e.counts.length l es)(hi:h.get i=some (yK l f j))(hj:h.get j=some (xO es))(hij:i≠j)(hn:h.get n=none)(hin:n≠i)(hjn:n≠j)
  (hK: ∀ es',iL e.counts.length l es'->K (.row 0 false (.bools (fH l e))) ((j,some (xO es'))::h)):ah Tryz.prog false none 53 [.ptr i 0 0,.dat (.elem e)] h n K KW:=by
 refine ah.aaI (ts:=[.ptr 0 0 0,.dat (.elem e)]) (o0:=yK l f 1) (V3:=yK l f j) (o1:=xO es) (post:=fun t hp=> ∃ es',iL e.counts.length l es'/\t=(V.row 0 false (.bools (fH l e))).aG/\hp=Hz.aj (hT l f es')) (S.Tz l f es e hsm ht hg) ?_ rfl rfl rfl ?_ hi hj hij hn hin hjn ?_
 ·rfl
 ·rfl
 ·rintro t hp ⟨es',hg',rfl,rfl⟩
  exact⟨.row 0 false (.bools (fH l e)),xO es',rfl,rfl,rfl,rfl,hK es' hg'⟩
theorem TD{n:Nat}: ∀ {h:Hz},(h.all fun p=>Nat.blt p.1 n)=true-> ∀ m,n<=m->h.get m=none:=by
 intro h
 induction h with
 |nil=>intro _ m _; rfl
 |cons p r ih =>
  obtain⟨j,o⟩:=p
  intro q m hm
  simp only[List.all_cons,Bool.and_eq_true,Nat.blt_eq] at q
  simp only[Hz.get]
  have:Nat.beq j m=false:=by
   cases hb:Nat.beq j m with
   |false=>rfl
   |true=>have:=Nat.eq_of_beq_eq_true hb; omega
  rw[this]; exact ih q.2 m hm
theorem ah.y7{l:List Clause}{f:Bool}{h:Hz}{n:Nat}{K:V->Hz->Prop}{KW:Nat->V->Hz->Prop}(hsm:SmallK l)(hn:(h.all fun p=>Nat.blt p.1 n)=true)(hK:KW 1 (.ptr n 0 0) ((n,some (yK l f (n+1)))::(n+1,some (xO []))::h)):ah Tryz.prog false none 29 [.row 4 f (.clauses l)] h n K KW :=
 ah.new2 (_v:=.ptr 0 0 0) (S.jr l f hsm) rfl rfl (by rfl) ⟨⟨trivial,trivial,by show(1:Nat)<2; decide,trivial⟩,trivial⟩ (TD hn) hK
theorem ah.V4{P:Program}{dr:Bool}{f:FuncId}{args:List V}{h:Hz}{n:Nat}{K:V->Hz->Prop}{KW:Nat->V->Hz->Prop}(v:V)(hf:v.free=true)(hK:K v h):ah P dr (some false) f args h n K KW:=⟨.inl (.inl ⟨v,(fun e=>by cases e),hf,hK⟩)⟩
theorem ah.on{P:Program}{f:FuncId}{args:List V}{h:Hz}{n:Nat}{K:V->Hz->Prop}{KW':Nat->V->Hz->Prop}(H:ah P false none f args h n K fun _ _ _=>False):ah P false (some true) f args h n K KW':=by
 rcases H.ok with H|⟨_,_,k,⟨_,_,_,_,_,_,hk⟩,_⟩|⟨_,e,_⟩
 ·exact⟨.inl (.inr ⟨rfl,fun _=>aN.mono H fun t hp ⟨v,h',a,b,_,c⟩=>⟨v,h',a,b,c⟩,fun e=>by cases e⟩)⟩
 ·exact hk.elim
 ·cases e
theorem Em(n:Nat): ∃ r:Rw,(bif isZero (.int n) then some Rw.nil else SC (n:Int).toNat (T.bool false))=some r/\r.aT=(Rw.bools (List.replicate n false)).aT:=by
 cases n with
 |zero=>exact⟨.nil,rfl,rfl⟩
 |succ k=>exact⟨.bools (List.replicate (k+1) false),rfl,rfl⟩
theorem JJ:bn [sQ zE] [T.agg [.int 0,.sl 0 true []]]:=fun Z h=>by
 show T.dD Z h [.agg [.int 0,.sl 0 false []]] [.agg [.int 0,.sl 0 true []]]
 simp[T.sub,T.dD]
theorem au.zeroE{k:Int}{h:Hz}:au (.fK [.int k,.dat (.elem zE)]) (.fK [.int k,.agg [.int 0,.row 0 true .nil]]) h:=⟨by
 show T.sub _ _ (.fK [.int k,.agg [.int 0,.sl 0 false []]]) (.fK [.int k,.agg [.int 0,.sl 0 true []]])
 simp[T.sub,T.dD]⟩
theorem G7{l:List Clause}{x:Elem}:Ej (fH l x)=bif decide (fA l x<l.length) then((fA l x:Nat):Int) else -1:=by
 rw[Ej,SY,pJ]
theorem step_cond{F n s:Nat}{t:Bool}{f:Int}(hf:f=bif decide (F<n) then(F:Int) else -1):(decide (0<=f)&&(decide (f<(s:Int))||(f==(s:Int)&&t)))=(decide (F<n)&&(decide (F<s)||F==s&&t)):=by
 subst hf
 cases h:decide (F<n) with
 |false=>rfl
 |true =>
  simp only[cond_true]
  rw[show decide (0<=(F:Int))=true from decide_eq_true (by omega),show decide ((F:Int)<s)=decide (F<s) from decide_eq_decide.2 ⟨fun h=>by omega,fun h=>by omega⟩]
  rw[show((F:Int)==(s:Int))=(F==s) from by
   rw[Bool.eq_iff_iff,beq_iff_eq,beq_iff_eq]; exact⟨fun h=>by omega,fun h=>by omega⟩]
theorem TF{fire:Elem->Option Elem}{l a:List Clause}{s:Nat×Elem}{e:Elem}{n:Nat}(h:s.2.counts.length<=n)(he:e.counts.length<=n):(stepG fire l a s e).2.counts.length<=n:=by
 unfold stepG
 split
 ·exact h
 ·cases (cO l e&&cO a e&&(decide (fA l _<l.length)&&(decide (fA l _<s.1)||fA l _==s.1&&decide (nD e<nD s.2)))) with
  |false=>exact h
  |true=>exact he
theorem TG{fire:Elem->Option Elem}{l a:List Clause}{n:Nat}: ∀ {es:List Elem} {s:Nat×Elem},s.2.counts.length<=n->(∀ e∈es,e.counts.length<=n)->(es.foldl (stepG fire l a) s).2.counts.length<=n:=by
 intro es
 induction es with
 |nil=>intro s h _; exact h
 |cons e es ih=>intro s h he; exact ih (TF h (he e (by simp))) fun x hx=>he x (List.mem_cons_of_mem _ hx)
set_option maxHeartbeats 2000000 in
theorem S.gW(p:aU)(r:Rule)(l a:List Clause)(n vals:Nat)(f g:Bool)(hp:dh p)(hr:vN r)(hn:p.states.length=n)(hn0:0<n)(Ar:n<=6)(hvs:max 1 p.values.length=vals)(nM:vals<=3)(hF:ZX n p r)(hl:fB n p.values.length l)(ha:fB n p.values.length a)(hs:l.length+a.length<=1000)(rk:Nat)(hrk:bF (l++a)=rk) :
  ak Tryz.prog 44 [.dat (.dF p),.dat (.rule r),.row 4 f (.clauses l),.row 4 g (.clauses a)] (.fK [.int (orM l.length (JD (dK r) l a (eY (rk+3) n vals)).1),.dat (.elem (bif (JD (dK r) l a (eY (rk+3) n vals)).1==l.length then zE else(JD (dK r) l a (eY (rk+3) n vals)).2))]):=by
 have hla:=hl.app ha hs
 have hsm:=hla.small Ar (by omega)
 have YF:bF (l++a)<=3:=qP fun k hk=>(hla.cl k hk).two
 have hsl:=hl.len; have hsa:=ha.len
 have hlen:(l++a).length=l.length+a.length:=List.length_append
 have hU:ak Tryz.prog 52 [.dat (.dF p),.int (bF (l++a)+2)] (.row 3 false (.elems (eY (rk+3) n vals))):=by
  have:=S.eF p n vals (rk+2) hp hn hn0 Ar hvs nM (by omega)
  rw[hrk]; exact this
 have Nh:(eY (rk+3) n vals).length<=3*531441:=by
  rw[pG]
  have:=pO (b:=rk+3) (n:=n) (by omega) Ar
  exact Nat.mul_le_mul nM (by omega)
 have hok:=xI (b:=rk+3) (n:=n) (vals:=vals) (by omega)
 have PN:rk+3<=9:=by omega
 generalize eY (rk+3) n vals=es at hU Nh hok ⊢
 have hblt:Nat.blt (Ei r.kind) 4096=true:=by
  rcases hF.kind with h|h|h<;>rw[Ei,h]<;>rfl
 have hst: ∀ i,(((es.take i).foldl (stepG (dK r) l a) (l.length,zE)).1)<=l.length:=fun i=>MV (fire:=dK r) (l:=l) (a:=a) (es:=es.take i)
 have hnx: ∀ {i:Nat},i<es.length->(es.take (i+1)).foldl (stepG (dK r) l a) (l.length,zE)=stepG (dK r) l a ((es.take i).foldl (stepG (dK r) l a) (l.length,zE)) (es.getD i default):=fun hi=>GU hi
 have hend:JD (dK r) l a es=(es.take es.length).foldl (stepG (dK r) l a) (l.length,zE):=by rw[List.take_length]; rfl
 rw[hend]
 refine ak.of Bd.gW (by simp) rfl rfl ?_
 conv=>whnf
 refine ah.pure (S.iw l a f g (by omega) (by omega)) rfl ?_
 conv=>whnf
 conv=>whnf
 refine ah.y7 hsm rfl ?_
 conv=>whnf
 obtain⟨rb,hrb,hrL⟩:=Em (l++a).length
 rw[hrb]
 conv=>whnf
 refine .mk (by omega) ?_
 conv=>whnf
 refine ah.pure (S.kN r.kind) rfl ?_
 conv=>whnf
 refine .mk (by simp only[okI] at *; omega) ?_
 conv=>whnf
 conv=>whnf
 refine ah.pure (hU) rfl ?_
 conv=>whnf
 refine aJ.yZ (ι:=Nat×List (Int×List Bool)) 100 [2,5,9,10,11,12,14,41,42] (fun x=>[(43,.int x.1),(13,.int (((es.take x.1).foldl (stepG (dK r) l a) (l.length,zE)).1:Nat))]) (fun x=>[(1,.box 88 19 (.dat (.rule r))),(3,.box 55 3 (.agg [.int 0,.row 0 true .nil])),(7,yK (l++a) false 8),(8,xO x.2),(15,rowB (List.replicate (l++a).length false)),(24,.box 55 3 (.dat (.elem ((es.take x.1).foldl (stepG (dK r) l a) (l.length,zE)).2)))]) (fun x=>x.1<=es.length/\iL n (l++a) x.2) (fun x=>es.length-x.1) (0,[]) [1,3,7,8,15,24] rfl (by decide) (fun _=>rfl) ⟨Nat.zero_le _,iL.nil⟩ ?_ ?_ ?_
 ·exact⟨⟨_,rfl,.eq rfl⟩,⟨_,rfl,.eq rfl⟩,trivial⟩
 ·refine⟨okF rfl nofun rfl rfl rfl ⟨rfl,rfl⟩ rfl,okF rfl nofun rfl rfl rfl ⟨rfl,rfl⟩ rfl,⟨rfl,nofun,rfl,rfl,_,rfl,rfl,rfl,bn.of_eq rfl⟩,okF rfl nofun rfl rfl rfl ⟨rfl,rfl⟩ rfl,okF rfl nofun rfl rfl rfl ⟨rfl,rfl⟩ ?_,?_,trivial⟩
  ·show(Rw.bools (List.replicate (l++a).length false)).aT++[]=rb.aT++[]
   rw[hrL]
  ·exact⟨rfl,nofun,rfl,rfl,_,rfl,rfl,rfl,JJ⟩
 conv=>whnf
 refine⟨⟨⟨_,rfl,.eq rfl⟩,⟨_,rfl,.eq rfl⟩,⟨_,rfl,.eq rfl⟩,⟨_,rfl,.eq rfl⟩,⟨_,rfl,.eq rfl⟩,⟨_,rfl,.eq rfl⟩,⟨_,rfl,.eq rfl⟩,⟨_,rfl,.eq rfl⟩,⟨_,rfl,.eq rfl⟩,trivial⟩,rfl,?_⟩
 rintro⟨i,em⟩ ⟨hi,hem⟩
 conv=>whnf
 refine⟨fun h3=>?_,fun h3=>?_⟩
 ·have hi':i<es.length:=by simpa using h3
  have hue:=hok _ (getM (d:=default) hi')
  have hnext:=hnx hi'
  have adV:=hst i
  conv=>whnf
  refine .mk (by simp only[Rw.rng] at *; omega) ?_
  conv=>whnf
  rw[hblt]
  obtain⟨x,hS,hx⟩:=S.apply r (es.getD i default) hr (by rw[hue.len]; exact hF.place) (hue.Bl PN) (by rw[hue.len]; exact Ar) hF.kind
  conv=>whnf
  refine ah.pure hS rfl ?_
  cases hO:dK r (es.getD i default) with
  |none =>
   have hsg:(es.take (i+1)).foldl (stepG (dK r) l a) (l.length,zE)=(es.take i).foldl (stepG (dK r) l a) (l.length,zE):=by rw[hnext,stepG,hO]
   conv=>whnf
   refine .mk (by exact fun h=>⟨h,h⟩) ?_
   conv=>whnf
   refine ah.V4 (.row 0 false (.bools [])) rfl ?_
   conv=>whnf
   refine .mk (by exact fun h=>⟨h,h⟩) ?_
   conv=>whnf
   refine ah.V4 (.bool true) rfl ?_
   conv=>whnf
   repeat(refine VC.mk (by first|exact id|(intro h; rw[h]; rfl)) ?_; conv=>whnf)
   refine Fork.mk (fun _=>?_) (fun q=>absurd (q.symm.trans ((rfl:true=true))) Bool.false_ne_true)
   conv=>whnf
   refine .mk (by simp only[okI] at *; omega) ?_
   conv=>whnf
   refine⟨(i+1,em),[1,3,7,8,15,24],⟨by show i+1<=_; omega,hem⟩,by show es.length-(i+1)<es.length-i; omega,⟨⟨_,rfl,.eq rfl⟩,⟨_,rfl,.eq ?_⟩,trivial⟩,⟨⟨_,rfl,.eq rfl⟩,⟨_,rfl,.eq rfl⟩,⟨_,rfl,.eq rfl⟩,⟨_,rfl,.eq rfl⟩,⟨_,rfl,.eq rfl⟩,⟨_,rfl,.eq rfl⟩,⟨_,rfl,.eq rfl⟩,⟨_,rfl,.eq rfl⟩,⟨_,rfl,.eq rfl⟩,trivial⟩,okF rfl nofun rfl rfl rfl ⟨rfl,rfl⟩ rfl,okF rfl nofun rfl rfl rfl ⟨rfl,rfl⟩ rfl,⟨rfl,nofun,rfl,rfl,_,rfl,rfl,rfl,bn.of_eq rfl⟩,okF rfl nofun rfl rfl rfl ⟨rfl,rfl⟩ rfl,okF rfl nofun rfl rfl rfl ⟨rfl,rfl⟩ rfl,okF rfl nofun rfl rfl rfl ⟨rfl,rfl⟩ ?_,trivial⟩
   ·exact congrArg (fun s:Nat×Elem=>T.int ((s.1:Nat):Int)) hsg
   ·exact congrArg (fun s:Nat×Elem=>(OV.box 55 3 (.dat (.elem s.2))).aF.l) hsg
  |some y =>
   obtain rfl:=hx y hO
   have hxl:x.counts.length=n:=by rw[SH hO,hue.len]
   have hxv:0<=x.value/\x.value<=1048576:=by
    rw[VZ hO,C9]
    have h1:=hue.val
    cases hw:decide (r.write>=0) with
    |false=>show 0<=(es.getD i default).value/\(es.getD i default).value<=1048576; omega
    |true =>
     rcases hF.wr with h2|h2
     ·obtain⟨w1,w2⟩:=sS h2
      show 0<=r.write/\r.write<=1048576; omega
     ·rw[h2] at hw; exact absurd hw (by decide)
   have hte:=hla.at hue PN nM hn0 Ar
   have htx:=hla.tab hxl (YE (hue.nn PN) (by rw[hue.len]; exact Ar) hO) hn0 Ar hxv
   have Au:(es.getD i default).counts.length=n:=hue.len
   conv=>whnf
   refine .mk (by exact fun h=>⟨h,h⟩) ?_
   conv=>whnf
   refine ah.on (ah.row hsm hte (show iL (es.getD i default).counts.length (l++a) em by rw[Au]; exact hem) rfl rfl (by decide) rfl (by decide) (by decide) (fun I4 rO=>?_))
   replace rO:iL (es.getD i default).counts.length (l++a) I4:=rO
   rw[Au] at rO
   conv=>whnf
   refine .mk (by exact fun h=>⟨h,h⟩) ?_
   conv=>whnf
   refine ah.on (ah.lend (S.kC (fH (l++a) (es.getD i default)) (l++a).length false false (by rw[pJ]; omega) (by rw[pJ]; exact Nat.le_refl _)) ⟨aB _,JG trivial rfl,trivial⟩ rfl rfl ?_)
   rw[QZ,SX]
   conv=>whnf
   repeat(refine VC.mk (by first|exact id|(intro h; rw[h]; rfl)) ?_; conv=>whnf)
   refine⟨fun h4=>?_,fun h4=>?_⟩
   ·have h4':(cO l (es.getD i default)&&cO a (es.getD i default))=false:=by
     have h5:(!(cO l (es.getD i default)&&cO a (es.getD i default)))=true:=h4
     simpa only[Bool.not_eq_true'] using h5
    have hsg:(es.take (i+1)).foldl (stepG (dK r) l a) (l.length,zE)=(es.take i).foldl (stepG (dK r) l a) (l.length,zE):=by rw[hnext,stepG,hO]; simp only; rw[h4']; rfl
    conv=>whnf
    refine .mk (by simp only[okI] at *; omega) ?_
    conv=>whnf
    refine⟨(i+1,I4),[1,3,7,8,15,24],⟨by show i+1<=_; omega,rO⟩,by show es.length-(i+1)<es.length-i; omega,⟨⟨_,rfl,.eq rfl⟩,⟨_,rfl,.eq ?_⟩,trivial⟩,⟨⟨_,rfl,.eq rfl⟩,⟨_,rfl,.eq rfl⟩,⟨_,rfl,.eq rfl⟩,⟨_,rfl,.eq rfl⟩,⟨_,rfl,.eq rfl⟩,⟨_,rfl,.eq rfl⟩,⟨_,rfl,.eq rfl⟩,⟨_,rfl,.eq rfl⟩,⟨_,rfl,.eq rfl⟩,trivial⟩,okF rfl nofun rfl rfl rfl ⟨rfl,rfl⟩ rfl,okF rfl nofun rfl rfl rfl ⟨rfl,rfl⟩ rfl,⟨rfl,nofun,rfl,rfl,_,rfl,rfl,rfl,bn.of_eq rfl⟩,okF rfl nofun rfl rfl rfl ⟨rfl,rfl⟩ rfl,okF rfl nofun rfl rfl rfl ⟨rfl,rfl⟩ rfl,okF rfl nofun rfl rfl rfl ⟨rfl,rfl⟩ ?_,trivial⟩
    ·exact congrArg (fun s:Nat×Elem=>T.int ((s.1:Nat):Int)) hsg
    ·exact congrArg (fun s:Nat×Elem=>(OV.box 55 3 (.dat (.elem s.2))).aF.l) hsg
   have h4':(cO l (es.getD i default)&&cO a (es.getD i default))=true:=by
    have h5:(!(cO l (es.getD i default)&&cO a (es.getD i default)))=false:=h4
    simpa only[Bool.not_eq_false'] using h5
   have hfi:=G7 (l:=l) (x:=x)
   have hlen2:((es.take i).foldl (stepG (dK r) l a) (l.length,zE)).2.counts.length<=6:=TG (show(0:Nat)<=6 by decide) fun e he=>by rw[(hok e (List.mem_of_mem_take he)).len]; exact Ar
   conv=>whnf
   refine ah.row hsm htx (show iL x.counts.length (l++a) I4 by rw[hxl]; exact rO) rfl rfl (by decide) rfl (by decide) (by decide) (fun em2 V5=>?_)
   replace V5:iL x.counts.length (l++a) em2:=V5
   rw[hxl] at V5
   conv=>whnf
   refine .mk (by show 0<=(l.length:Int)/\(l.length:Int)<=(fH (l++a) x).length; rw[pJ]; omega) ?_
   conv=>whnf
   refine ah.pure (S.G6 ((fH (l++a) x).take l.length) false (by rw[MW,pJ]; omega)) rfl ?_
   conv=>whnf
   repeat(refine VC.mk (by first|exact id|exact fun h=>⟨h,h⟩) ?_; conv=>whnf)
   rw[MW]
   conv=>whnf
   refine ah.fP (fun _=>S.jf (es.getD i default) (by rw[Au]; omega)) rfl ?_
   conv=>whnf
   refine VC.mk id ?_
   conv=>whnf
   refine ah.fP (fun _=>S.jf ((es.take i).foldl (stepG (dK r) l a) (l.length,zE)).2 (by omega)) rfl ?_
   conv=>whnf
   repeat(refine VC.mk (by first|exact id|exact fun h=>⟨h,h⟩|(intro h; simp[h]; done)|(intro h; simp_all; done)) ?_; conv=>whnf)
   generalize hS:(es.take i).foldl (stepG (dK r) l a) (l.length,zE)=s at *
   have hsc:=step_cond (n:=l.length) (s:=s.1) (t:=decide (nD (es.getD i default)<nD s.2)) hfi
   have YG:stepG (dK r) l a s (es.getD i default)=bif decide (fA l x<l.length)&&(decide (fA l x<s.1)||fA l x==s.1&&decide (nD (es.getD i default)<nD s.2)) then(fA l x,es.getD i default) else s:=by
    rw[stepG,hO]; simp only; rw[h4',Bool.true_and]
   refine⟨fun h5=>?_,fun h5=>?_⟩
   ·have h5':(decide (fA l x<l.length)&&(decide (fA l x<s.1)||fA l x==s.1&&decide (nD (es.getD i default)<nD s.2)))=true:=hsc▸h5
    rw[h5'] at YG
    rw[YG] at hnext
    have hlt:decide (fA l x<l.length)=true:=(Bool.and_eq_true .. ▸h5').1
    rw[hlt] at hfi
    conv=>whnf
    refine .mk (by simp only[okI] at *; omega) ?_
    conv=>whnf
    refine⟨(i+1,em2),[1,3,7,8,15,24],⟨by show i+1<=_; omega,V5⟩,by show es.length-(i+1)<es.length-i; omega,⟨⟨_,rfl,.eq rfl⟩,⟨_,rfl,.eq ?_⟩,trivial⟩,⟨⟨_,rfl,.eq rfl⟩,⟨_,rfl,.eq rfl⟩,⟨_,rfl,.eq rfl⟩,⟨_,rfl,.eq rfl⟩,⟨_,rfl,.eq rfl⟩,⟨_,rfl,.eq rfl⟩,⟨_,rfl,.eq rfl⟩,⟨_,rfl,.eq rfl⟩,⟨_,rfl,.eq rfl⟩,trivial⟩,okF rfl nofun rfl rfl rfl ⟨rfl,rfl⟩ rfl,okF rfl nofun rfl rfl rfl ⟨rfl,rfl⟩ rfl,⟨rfl,nofun,rfl,rfl,_,rfl,rfl,rfl,bn.of_eq rfl⟩,okF rfl nofun rfl rfl rfl ⟨rfl,rfl⟩ rfl,okF rfl nofun rfl rfl rfl ⟨rfl,rfl⟩ rfl,okF rfl nofun rfl rfl rfl ⟨rfl,rfl⟩ ?_,trivial⟩
    ·show T.int (((es.take (i+1)).foldl (stepG (dK r) l a) (l.length,zE)).1:Nat)=T.int (Ej (fH l x))
     rw[hnext,hfi]; rfl
    ·exact congrArg (fun s:Nat×Elem=>(OV.box 55 3 (.dat (.elem s.2))).aF.l) hnext
   ·have h5':(decide (fA l x<l.length)&&(decide (fA l x<s.1)||fA l x==s.1&&decide (nD (es.getD i default)<nD s.2)))=false:=hsc▸h5
    rw[h5'] at YG
    rw[YG] at hnext
    conv=>whnf
    refine .mk (by simp only[okI] at *; omega) ?_
    conv=>whnf
    refine⟨(i+1,em2),[1,3,7,8,15,24],⟨by show i+1<=_; omega,V5⟩,by show es.length-(i+1)<es.length-i; omega,⟨⟨_,rfl,.eq rfl⟩,⟨_,rfl,.eq ?_⟩,trivial⟩,⟨⟨_,rfl,.eq rfl⟩,⟨_,rfl,.eq rfl⟩,⟨_,rfl,.eq rfl⟩,⟨_,rfl,.eq rfl⟩,⟨_,rfl,.eq rfl⟩,⟨_,rfl,.eq rfl⟩,⟨_,rfl,.eq rfl⟩,⟨_,rfl,.eq rfl⟩,⟨_,rfl,.eq rfl⟩,trivial⟩,okF rfl nofun rfl rfl rfl ⟨rfl,rfl⟩ rfl,okF rfl nofun rfl rfl rfl ⟨rfl,rfl⟩ rfl,⟨rfl,nofun,rfl,rfl,_,rfl,rfl,rfl,bn.of_eq rfl⟩,okF rfl nofun rfl rfl rfl ⟨rfl,rfl⟩ rfl,okF rfl nofun rfl rfl rfl ⟨rfl,rfl⟩ rfl,okF rfl nofun rfl rfl rfl ⟨rfl,rfl⟩ ?_,trivial⟩
    ·exact congrArg (fun s:Nat×Elem=>T.int ((s.1:Nat):Int)) hnext
    ·exact congrArg (fun s:Nat×Elem=>(OV.box 55 3 (.dat (.elem s.2))).aF.l) hnext
 ·have hi':i=es.length:=by have:es.length<=i:=(by simpa using h3); omega
  subst hi'
  generalize (es.take es.length).foldl (stepG (dK r) l a) (l.length,zE)=s
  conv=>whnf
  refine⟨fun h4=>?_,fun h4=>?_⟩
  ·have h4':(s.1==l.length)=true:=by
    have h5:((s.1:Int)==(l.length:Int))=true:=h4
    rw[beq_iff_eq] at h5 ⊢; omega
   conv=>whnf
   rw[orM,h4']
   exact au.zeroE
  ·have h4':(s.1==l.length)=false:=by
    have h5:((s.1:Int)==(l.length:Int))=false:=h4
    rw[beq_eq_false_iff_ne] at h5 ⊢; omega
   conv=>whnf
   rw[orM,h4']
   exact au.eqv rfl
abbrev boxS(f:Bool)(st:List Int):OV:=.box 24 0 (.row 0 f (.ints st))
theorem PO{st:List Int}{e:Elem}:(!(pK st e))=(Yt e.counts st||e.value !=0):=by
 rw[pK,Bool.not_and,Bool.not_not,bne]
theorem iI.ofS{f:Bool}{st:List Int}{h0 h:Hz}{n:Nat}{v u:V}{post:T->Hp->Prop}(Z:Nat->Prop)(hz: ¬ Z 0)(h00:(h0.aj 0).isSome=true)(q0:h.get 0=some (boxS f st))(hu:u.free=true)(hv:T.sub Z h.aj u.aG v.aG)(hp:post u.aG (Hz.aj [(0,some (boxS f st))])):iI h0 n post v h:=by
 refine iI.OX (h2:=[(0,some (boxS f st))]) (u:=u) Z ⟨bG (Z:=Z) q0 hz,trivial⟩ ?_ hu hv hp
 intro i o ho
 have hG:=kL (show rM 1 [(0,some (boxS f st))]=true from rfl) i o.aF (aH ho)
 obtain rfl:i=0:=by have:=hG.1; omega
 exact⟨h00,T.ay (fun j hj=>by rw[show j=0 by omega]; exact h00) _ hG.2.1,hG.2.2⟩
theorem S.EZ(st:List Int)(f:Bool)(e:Elem)(hs:st.length<2^30)(he:e.counts.length<2^30):aN Tryz.prog 102 (V.aT [.dat (.elem e),.ptr 0 0 0]) (Hz.aj [(0,some (boxS f st))]) 1 (fun t hp=>t= .bool (!(pK st e))/\hp=Hz.aj [(0,some (boxS f st))]):=by
 refine pR.of (nx:=1) (h0:=[(0,some (boxS f st))]) Bd.lZ (by simp) ⟨_,_,rfl,rfl⟩ rfl rfl ?_
 rw[PO]
 conv=>whnf
 refine aJ.same [1,2,7,8] (fun i:Nat=>[(9,.int i)]) (fun i=>i<=e.counts.length/\(List.range i).any (fun i=>decide (e.counts.getD i 0>0)&& !(O9 st i))=false) (fun i=>e.counts.length-i) 0 rfl (by decide) rfl (fun _=>rfl) ⟨by omega,by simp⟩ ⟨⟨_,rfl,rfl⟩,trivial⟩ ?_
 conv=>whnf
 refine⟨rfl,?_⟩
 rintro i ⟨hi,hall⟩
 conv=>whnf
 refine⟨fun h3=>?_,fun h3=>?_⟩
 ·have hi':i<e.counts.length:=by simpa using h3
  conv=>whnf
  repeat(refine VC.mk (by first|exact fun h=>⟨h,h⟩|(simp only[Rw.rng] at *; omega)) ?_; conv=>whnf)
  refine ah.fP (fun _=>S.slices_Contains_int st i f (by omega)) rfl ?_
  conv=>whnf
  repeat(refine VC.mk id ?_; conv=>whnf)
  refine⟨fun h4=>?_,fun h4=>?_⟩
  ·conv=>whnf
   rw[show Yt e.counts st=true from List.any_eq_true.2 ⟨i,List.mem_range.2 hi',h4⟩]
   exact iI.ofS (u:=.bool true) (fun _=>False) (fun q=>q) rfl rfl rfl (aB _) ⟨rfl,rfl⟩
  ·conv=>whnf
   refine .mk (by simp only[okI] at *; omega) ?_
   conv=>whnf
   refine⟨i+1,⟨by omega,?_⟩,by omega,⟨⟨_,rfl,rfl⟩,trivial⟩,?_,rfl⟩
   ·rw[List.range_succ,List.any_append,hall]
    show(false||((decide (e.counts.getD i 0>0)&& !(O9 st i))||false))=false
    rw[show(decide (e.counts.getD i 0>0)&& !(O9 st i))=false from h4]; rfl
   ·repeat' (first|exact trivial|exact⟨_,rfl,rfl⟩|constructor)
 ·have hi':i=e.counts.length:=by have:e.counts.length<=i:=(by simpa using h3); omega
  subst hi'
  rw[show Yt e.counts st=false from hall]
  conv=>whnf
  exact iI.ofS (u:=.bool (e.value !=0)) (fun _=>False) (fun q=>q) rfl rfl rfl (aB _) ⟨rfl,rfl⟩
def FC(st:List Int):List Elem->Nat->Int
 |[],_=> -1
 |x::r,i=>bif !(pK st x) then(i:Int) else FC st r (i+1)
abbrev hD(f:Bool)(st:List Int)(es:List Elem):Hz:=[(0,some (boxS f st)),(1,some (nS es))]
theorem S.TI(st:List Int)(f:Bool)(es:List Elem)(hs:st.length<2^30)(hl:es.length<2^30)(he: ∀ e∈es,e.counts.length<2^30)(n:Nat):aN Tryz.prog 126 (V.aT [.own 1,.fn 102 [.ptr 0 0 0]]) (Hz.aj (hD f st es)) n (fun t hp=>t= .int (FC st es 0)/\hp=Hz.aj (hD f st es)):=by
 refine pR.of (nx:=2) (h0:=hD f st es) Bd.dQ (by simp) ⟨_,_,rfl,rfl⟩ rfl rfl ?_
 conv=>whnf
 refine aJ.objs 2 [0,1,6,7] (fun i:Nat=>[(8,.int i)]) (fun _=>[(0,boxS f st),(1,nS es)]) (fun i=>i<=es.length/\FC st es 0=FC st (es.drop i) i) (fun i=>es.length-i) 0 [0,1] rfl (by decide) (fun _=>rfl) ⟨by omega,by simp⟩ ?_ ?_ ?_
 ·exact⟨⟨_,rfl,.eq rfl⟩,trivial⟩
 ·exact⟨⟨rfl,(fun _=>rfl),rfl,rfl,rfl,_,rfl,rfl,rfl,bn.of_eq rfl⟩,⟨rfl,(fun _=>rfl),rfl,rfl,rfl,_,rfl,rfl,rfl,bn.of_eq rfl⟩,trivial⟩
 conv=>whnf
 refine⟨⟨⟨_,rfl,.eq rfl⟩,⟨_,rfl,.eq rfl⟩,⟨_,rfl,.eq rfl⟩,⟨_,rfl,.eq rfl⟩,trivial⟩,rfl,?_⟩
 rintro i ⟨hi,hall⟩
 conv=>whnf
 refine⟨fun h3=>?_,fun h3=>?_⟩
 ·have hi':i<es.length:=by simpa using h3
  rw[aY default hi'] at hall
  simp only[FC] at hall
  conv=>whnf
  repeat(refine VC.mk (by simp only[Rw.rng,Int.toNat_natCast]; omega) ?_; conv=>whnf)
  refine ah.GZ (i:=0) (ts:=[.dat (.elem (es.getD i default)),.ptr 0 0 0]) (S.EZ st f (es.getD i default) hs (he _ (getM hi'))) (by rfl) (by rfl) (by rfl) (by rfl) (by rfl) (by rfl) ?_
  rintro t hp ⟨rfl,rfl⟩
  refine .inl ⟨.bool _,boxS f st,rfl,rfl,rfl,?_⟩
  conv=>whnf
  refine⟨fun h4=>?_,fun h4=>?_⟩
  ·conv=>whnf
   rw[h4] at hall
   exact iI.same (nx:=2) rfl ⟨rfl,rfl,trivial⟩ rfl rfl ⟨by rw[hall]; rfl,rfl⟩
  ·conv=>whnf
   refine .mk (by simp only[okI] at *; omega) ?_
   conv=>whnf
   rw[h4] at hall
   exact⟨i+1,[0,1],⟨by omega,hall⟩,by omega,⟨⟨_,rfl,.eq rfl⟩,trivial⟩,⟨⟨_,rfl,.eq rfl⟩,⟨_,rfl,.eq rfl⟩,⟨_,rfl,.eq rfl⟩,⟨_,rfl,.eq rfl⟩,trivial⟩,⟨rfl,(fun _=>rfl),rfl,rfl,rfl,_,rfl,rfl,rfl,bn.of_eq rfl⟩,⟨rfl,(fun _=>rfl),rfl,rfl,rfl,_,rfl,rfl,rfl,bn.of_eq rfl⟩,trivial⟩
 ·conv=>whnf
  have hi':es.length<=i:=by simpa using h3
  rw[List.drop_eq_nil_of_le hi'] at hall
  exact iI.same (nx:=2) rfl ⟨rfl,rfl,trivial⟩ rfl rfl ⟨by rw[hall]; rfl,rfl⟩
def dZ(st:List Int)(es:List Elem):List Elem:=es.filter (pK st)
theorem YH{st:List Int}: ∀ {es:List Elem} {i:Nat},FC st es i= -1->dZ st es=es:=by
 intro es
 induction es with
 |nil=>intro i _; rfl
 |cons x r ih =>
  intro i h
  simp only[FC] at h
  cases hb:pK st x with
  |false=>rw[hb] at h; simp at h
  |true=>rw[hb] at h; simp only[dZ,List.filter_cons,hb,if_true]; exact congrArg _ (ih h)
theorem V6{st:List Int}: ∀ {es:List Elem} {i:Nat},FC st es i≠ -1-> ∃ k,FC st es i=((i+k:Nat):Int)/\k<es.length/\dZ st (es.take k)=es.take k/\pK st (es.getD k default)=false:=by
 intro es
 induction es with
 |nil=>intro i h; exact absurd rfl h
 |cons x r ih =>
  intro i h
  simp only[FC] at h ⊢
  cases hb:pK st x with
  |false=>exact⟨0,by simp,by simp,rfl,by simpa using hb⟩
  |true =>
   rw[hb] at h
   obtain⟨k,h1,h2,h3,h4⟩:=ih h
   refine⟨k+1,by show FC st r (i+1)=_; rw[h1]; omega,by simpa using h2,?_,by simpa using h4⟩
   simp only[dZ,List.take_succ_cons,List.filter_cons,hb,if_true]; exact congrArg _ h3
theorem En{st:List Int}{es:List Elem}{j:Nat}(hj:j<es.length):dZ st (es.take (j+1))=bif pK st (es.getD j default) then dZ st (es.take j)++[es.getD j default] else dZ st (es.take j):=by
 have e:es[j]?.toList=[es.getD j default]:=by simp[hj]
 unfold dZ
 rw[List.take_add_one,List.filter_append,e]
 cases hb:pK st (es.getD j default) with
 |true=>rw[List.filter_cons,hb]; rfl
 |false=>rw[List.filter_cons,hb]; simp
theorem G8{st:List Int}{es:List Elem}{j:Nat}:(dZ st (es.take j)).length<=j:=by
 have:=List.length_filter_le (pK st) (es.take j)
 rw[List.length_take] at this
 unfold dZ; omega
def midD(st:List Int)(es:List Elem)(j:Nat):List Elem:=dZ st (es.take j)++es.drop (dZ st (es.take j)).length
theorem V7{st:List Int}{es:List Elem}{j:Nat}(hj:j<=es.length):(midD st es j).length=es.length:=by
 have:=G8 (st:=st) (es:=es) (j:=j)
 simp[midD]; omega
theorem V8{st:List Int}{es:List Elem}{j k:Nat}(hk:j<=k):(midD st es j).getD k default=es.getD k default:=by
 have:=G8 (st:=st) (es:=es) (j:=j)
 unfold midD
 rw[List.getD_eq_getElem?_getD,List.getElem?_append_right (by omega),List.getElem?_drop]
 rw[show(dZ st (es.take j)).length+(k-(dZ st (es.take j)).length)=k by omega]
 rw[<- List.getD_eq_getElem?_getD]
theorem V9{st:List Int}{es:List Elem}{j:Nat}(hj:j<es.length)(hb:pK st (es.getD j default)=true):(midD st es j).set (dZ st (es.take j)).length (es.getD j default)=midD st es (j+1):=by
 have h1:=G8 (st:=st) (es:=es) (j:=j)
 have h2:=En (st:=st) hj
 rw[hb] at h2
 have h2':dZ st (es.take (j+1))=dZ st (es.take j)++[es.getD j default]:=h2
 unfold midD
 rw[h2',aY default (show(dZ st (es.take j)).length<es.length by omega),Tm rfl]
 simp
theorem ah.drop2{P:Program}{f:FuncId}{ts args:List V}{h:Hz}{i j n:Nat}{o0 o1:OV}{K:V->Hz->Prop}{KW:Nat->V->Hz->Prop}{post:T->Hp->Prop}(H:aN P f (V.aT ts) (Hz.aj [(0,some o0),(1,some o1)]) 2 post)
  (ha:T.cu (fun a=>bif Nat.beq a 0 then i else j) (V.aT ts)=V.aT args) (hid:T.LZ 2 (V.aT ts)=true) (hg:rM 2 [(0,some o0),(1,some o1)]=true) (hf0:o0.KD=true) (hf:o1.KD=true)
  (hi:h.get i=some o0) (hj:h.get j=some o1) (hij:i≠j) (hn:h.get n=none) (hin:n≠i) (hjn:n≠j)
  (hK: ∀ t hp,post t hp-> ∃ v,hp=Hz.aj [(0,some o0)]/\t=v.aG/\v.free=true/\K v ((j,none)::h)):ah P false none f args h n K KW:=by
 have hG:=kL hg
 have hlt: ∀ a:Nat,a<2->(Hz.aj [(0,some o0),(1,some o1)] a).isSome=true:=fun a ha=>by
  rw[cZ,sG]; by_cases e:a=0
  ·rw[if_pos e]; rfl
  ·rw[if_neg e,if_pos (by omega)]; rfl
 have hsome: ∀ a,(Hz.aj [(0,some o0),(1,some o1)] a).isSome=true->a=0\/a=1:=fun a ha=>by
  rw[cZ,sG] at ha; split at ha
  ·left; assumption
  ·split at ha
   ·right; assumption
   ·cases ha
 let ρ:Nat->Nat:=fun a=>bif Nat.beq a 0 then i else j
 have Wh: ∀ a b,(Hz.aj [(0,some o0),(1,some o1)] a).isSome=true->(Hz.aj [(0,some o0),(1,some o1)] b).isSome=true->ρ a=ρ b->a=b:=by
  intro a b ha hb e
  rcases hsome a ha with rfl|rfl<;>rcases hsome b hb with rfl|rfl
  ·rfl
  ·exact absurd e hij
  ·exact absurd e.symm hij
  ·rfl
 have inj: ∀ a b,((Hz.aj [(0,some o0),(1,some o1)] a).isSome=true\/a=2)->((Hz.aj [(0,some o0),(1,some o1)] b).isSome=true\/b=2)->nameAt ρ 2 n a=nameAt ρ 2 n b->a=b:=by
  intro a b ha hb e
  rcases ha with ha|rfl
  ·rcases hb with hb|rfl
   ·rcases hsome a ha with rfl|rfl<;>rcases hsome b hb with rfl|rfl
    ·rfl
    ·exact absurd e hij
    ·exact absurd e.symm hij
    ·rfl
   ·rcases hsome a ha with rfl|rfl
    ·exact absurd e.symm hin
    ·exact absurd e.symm hjn
  ·rcases hb with hb|rfl
   ·rcases hsome b hb with rfl|rfl
    ·exact absurd e hin
    ·exact absurd e hjn
   ·rfl
 refine ah.heap (post:=fun t' h'=> ∃ t h1,post t h1/\t'=t.ren (nameAt ρ 2 n)/\h'=placed ρ 2 n (Hz.aj [(0,some o0),(1,some o1)]) h.aj h1) ?_ ?_
 ·rw[<- ha]
  refine aN.place H (T.ay hlt _ (sV hid)) (fun a ob hob=>?_) (by rw[cZ,sG]; rfl) (fun a ob hob=>?_) Wh
  ·exact⟨T.ay hlt _ (hG a ob hob).2.1,(hG a ob hob).2.2⟩
  ·have hs:(Hz.aj [(0,some o0),(1,some o1)] a).isSome=true:=by rw[hob]; rfl
   rcases hsome a hs with rfl|rfl
   ·rw[cZ,if_pos rfl] at hob; cases hob
    show h.aj i=_
    rw[aH hi,kQ hf0]
   ·rw[cZ,sG,if_neg (by decide),if_pos rfl] at hob; cases hob
    show h.aj j=_
    rw[aH hj,kQ hf]
 ·rintro t' h' ⟨t,h1,hp,rfl,rfl⟩
  obtain⟨v,rfl,rfl,hvf,hk⟩:=hK t h1 hp
  refine⟨v,_,E5 (V.mG v hvf) _,?_,hk⟩
  funext a
  rw[cZ]
  have at0:placed ρ 2 n (Hz.aj [(0,some o0),(1,some o1)]) h.aj (Hz.aj [(0,some o0)]) i=(Hz.aj [(0,some o0)] 0).map (Ob.ren (nameAt ρ 2 n)):=nH (h:=h.aj) (h1:=Hz.aj [(0,some o0)]) inj (i:=0) (.inl (hlt 0 (by decide)))
  have at1:placed ρ 2 n (Hz.aj [(0,some o0),(1,some o1)]) h.aj (Hz.aj [(0,some o0)]) j=(Hz.aj [(0,some o0)] 1).map (Ob.ren (nameAt ρ 2 n)):=nH (h:=h.aj) (h1:=Hz.aj [(0,some o0)]) inj (i:=1) (.inl (hlt 1 (by decide)))
  have at2:placed ρ 2 n (Hz.aj [(0,some o0),(1,some o1)]) h.aj (Hz.aj [(0,some o0)]) n=(Hz.aj [(0,some o0)] 2).map (Ob.ren (nameAt ρ 2 n)):=nH (h:=h.aj) (h1:=Hz.aj [(0,some o0)]) inj (i:=2) (.inr rfl)
  by_cases e1:a=j
  ·subst e1; rw[if_pos rfl,at1,sG,if_neg (by decide)]; rfl
  ·rw[if_neg e1]
   by_cases e0:a=i
   ·subst e0
    rw[at0,sG,if_pos rfl,aH hi,Option.map_some,kQ hf0]
   ·by_cases e2:a=n
    ·subst e2; rw[at2,sG,if_neg (by decide)]; simp only[Hz.aj,hn]; rfl
    ·exact xP (by
      rintro⟨b,hb,e⟩
      rcases hb with hb|rfl
      ·rcases hsome b hb with rfl|rfl
       ·exact e0 e.symm
       ·exact e1 e.symm
      ·exact e2 e.symm)
theorem aaJ{h:Hz}{j k:Nat}{Z:Nat->Prop}{l:List Elem}{x:List V}(hz:Z j)(q:h.get j=some (.row 55 3 (.elems l) x))(hk:k<=l.length):T.sub Z h.aj (V.row 3 false (.elems (l.take k))).aG (V.qQ j 0 k).aG:=by
 show T.sub Z h.aj (.sl 3 false ((l.take k).map sQ)) (.qQ j 0 k)
 simp only[T.sub]
 refine⟨trivial,hz,BA _,by decide,55,l.map sQ++V.aT x,?_,by simp; omega,?_⟩
 ·rw[aH q]; rfl
 ·rw[List.drop_zero,List.take_append_of_le_length (by simp; omega),List.map_take]
set_option maxHeartbeats 1000000 in
theorem S.DeleteFunc(st:List Int)(f:Bool)(es:List Elem)(hs:st.length<2^30)(hl:es.length<2^30)(he: ∀ e∈es,e.counts.length<2^30)(n:Nat):aN Tryz.prog 101 (V.aT [.own 1,.fn 102 [.ptr 0 0 0]]) (Hz.aj (hD f st es)) n (fun t hp=>t=(V.row 3 false (.elems (dZ st es))).aG/\hp=Hz.aj [(0,some (boxS f st))]):=by
 refine pR.of (nx:=2) (h0:=hD f st es) Bd.dO (by simp) ⟨_,_,rfl,rfl⟩ rfl rfl ?_
 conv=>whnf
 refine ah.heap (S.TI st f es hs hl he _) ?_
 rintro t hp ⟨rfl,rfl⟩
 refine⟨.int _,hD f st es,rfl,rfl,?_⟩
 conv=>whnf
 refine⟨fun h1=>?_,fun h1=>?_⟩
 ·have hno:=YH (st:=st) (es:=es) (i:=0) (by simpa using h1)
  conv=>whnf
  rw[hno]
  exact iI.ofS (u:=.row 3 false (.elems es)) (fun i=>i=1) (by decide) rfl rfl rfl (ZY rfl rfl) ⟨rfl,rfl⟩
 obtain⟨k,hk1,hk2,hk3,hk4⟩:=V6 (st:=st) (es:=es) (i:=0) (by
  have h2:(FC st es 0== -1)=false:=h1
  exact beq_eq_false_iff_ne.1 h2)
 rw[Nat.zero_add] at hk1
 rw[hk1]
 have hkn:=En (st:=st) hk2
 rw[hk4] at hkn
 have hkn':dZ st (es.take (k+1))=es.take k:=hkn.trans hk3
 conv=>whnf
 refine .mk (by simp only[okI]; omega) ?_
 conv=>whnf
 have aci:midD st es (k+1)=es:=by
  unfold midD
  rw[hkn',List.length_take,Nat.min_eq_left (by omega),List.take_append_drop]
 refine aJ.objs 2 [0,1] (fun j:Nat=>[(6,.int j),(5,.int (dZ st (es.take j)).length)]) (fun j=>[(0,boxS f st),(1,nS (midD st es j))]) (fun j=>k+1<=j/\j<=es.length/\(dZ st (es.take j)).length<j) (fun j=>es.length-j) (k+1) [0,1] rfl (by decide) (fun _=>rfl) ⟨Nat.le_refl _,by omega,by rw[hkn',List.length_take]; omega⟩ ?_ ?_ ?_
 ·refine⟨⟨_,rfl,.eq rfl⟩,⟨_,rfl,.eq ?_⟩,trivial⟩
  show T.int ((dZ st (es.take (k+1))).length:Nat)=T.int (k:Nat)
  rw[hkn',List.length_take,Nat.min_eq_left (by omega)]
 ·refine⟨⟨rfl,(fun _=>rfl),rfl,rfl,rfl,_,rfl,rfl,rfl,bn.of_eq rfl⟩,⟨rfl,(fun _=>rfl),rfl,rfl,rfl,_,rfl,rfl,rfl,bn.of_eq ?_⟩,trivial⟩
  rw[aci]
 conv=>whnf
 refine⟨⟨⟨_,rfl,.eq rfl⟩,⟨_,rfl,.eq rfl⟩,trivial⟩,rfl,?_⟩
 rintro j ⟨hj0,hj,hsj⟩
 have hml:=V7 (st:=st) hj
 conv=>whnf
 refine⟨fun h3=>?_,fun h3=>?_⟩
 ·have hj':j<es.length:=by
   have h4:(j:Int)<((midD st es j).length:Int):=of_decide_eq_true h3
   omega
  have hge:=V8 (st:=st) (es:=es) (j:=j) (k:=j) (Nat.le_refl _)
  have hst:=V9 (st:=st) hj'
  have hsn:=En (st:=st) hj'
  conv=>whnf
  repeat(refine VC.mk (by simp only[Rw.rng,Int.toNat_natCast,hml]; omega) ?_; conv=>whnf)
  refine ah.GZ (i:=0) (ts:=[.dat (.elem ((midD st es j).getD j default)),.ptr 0 0 0]) (S.EZ st f ((midD st es j).getD j default) hs (by rw[hge]; exact he _ (getM hj'))) (by rfl) (by rfl) (by rfl) (by rfl) (by rfl) (by rfl) ?_
  rintro t hp ⟨rfl,rfl⟩
  refine .inl ⟨.bool _,boxS f st,rfl,rfl,rfl,?_⟩
  rw[hge]
  conv=>whnf
  refine⟨fun h4=>?_,fun h4=>?_⟩
  ·have h4':pK st (es.getD j default)=true:=by simpa using h4
   rw[h4'] at hsn
   have TJ:dZ st (es.take (j+1))=dZ st (es.take j)++[es.getD j default]:=hsn
   conv=>whnf
   repeat(refine VC.mk (by first|(simp only[Rw.rng,Int.toNat_natCast,hml]; omega)|(simp only[okI]; omega)) ?_; conv=>whnf)
   refine⟨j+1,[0,1],⟨by omega,by omega,by rw[TJ,List.length_append]; simp only[List.length_cons,List.length_nil]; omega⟩,by omega,⟨⟨_,rfl,.eq rfl⟩,⟨_,rfl,.eq ?_⟩,trivial⟩,⟨⟨_,rfl,.eq rfl⟩,⟨_,rfl,.eq rfl⟩,trivial⟩,⟨rfl,(fun _=>rfl),rfl,rfl,rfl,_,rfl,rfl,rfl,bn.of_eq rfl⟩,⟨rfl,(fun _=>rfl),rfl,rfl,rfl,_,rfl,rfl,rfl,bn.of_eq ?_⟩,trivial⟩
   ·show T.int ((dZ st (es.take (j+1))).length:Nat)=T.int (((dZ st (es.take j)).length:Int)+1)
    rw[TJ,List.length_append]; rfl
   ·show(nS (midD st es (j+1))).aF.l=(nS ((midD st es j).set (dZ st (es.take j)).length ((midD st es j).getD j default))).aF.l
    rw[hge,hst h4']
  ·have h4':pK st (es.getD j default)=false:=by simpa using h4
   rw[h4'] at hsn
   have TJ:dZ st (es.take (j+1))=dZ st (es.take j):=hsn
   conv=>whnf
   refine .mk (by simp only[okI] at *; omega) ?_
   conv=>whnf
   refine⟨j+1,[0,1],⟨by omega,by omega,by rw[TJ]; omega⟩,by omega,⟨⟨_,rfl,.eq rfl⟩,⟨_,rfl,.eq ?_⟩,trivial⟩,⟨⟨_,rfl,.eq rfl⟩,⟨_,rfl,.eq rfl⟩,trivial⟩,⟨rfl,(fun _=>rfl),rfl,rfl,rfl,_,rfl,rfl,rfl,bn.of_eq rfl⟩,⟨rfl,(fun _=>rfl),rfl,rfl,rfl,_,rfl,rfl,rfl,bn.of_eq ?_⟩,trivial⟩
   ·rw[TJ]; rfl
   ·unfold midD; rw[TJ]
 ·have hj':j=es.length:=by
   have h4: ¬ (j:Int)<((midD st es j).length:Int):=of_decide_eq_false h3
   omega
  subst hj'
  have hall:dZ st (es.take es.length)=dZ st es:=by rw[List.take_length]
  have hle:(dZ st (es.take es.length)).length<=es.length:=by omega
  conv=>whnf
  repeat(refine VC.mk (by first|(simp only[Rw.lg,hml]; omega)|(refine⟨?_,rfl⟩; show((dZ st (es.take es.length)).length:Int).toNat<=(midD st es es.length).length; rw[hml,Int.toNat_natCast]; omega)|(show(0:Int)<=((dZ st (es.take es.length)).length:Int)/\((dZ st (es.take es.length)).length:Int)<=(((midD st es es.length).take ((dZ st (es.take es.length)).length:Int).toNat).length:Int); rw[List.length_take,hml,Int.toNat_natCast]; omega)|(show _<=(midD st es es.length).length/\(midD st es es.length).length=(midD st es es.length).length; rw[hml]; simp only[Int.toNat_natCast]; omega)|(show(0:Int)<=_/\_<=(((midD st es es.length).take _).length:Int); rw[List.length_take,hml]; simp only[Int.toNat_natCast]; omega)) ?_; conv=>whnf)
  have htk:(midD st es es.length).take (dZ st (es.take es.length)).length=dZ st es:=by
   unfold midD; rw[List.take_left,hall]
  have adn:((midD st es es.length).take (dZ st (es.take es.length)).length).take (dZ st (es.take es.length)).length=dZ st es:=by
   rw[List.take_take,Nat.min_self,htk]
  refine iI.ofS (u:=.row 3 false (.elems (dZ st es))) (fun i=>i=1) (by decide) rfl rfl rfl ?_ ⟨rfl,rfl⟩
  rw[<- adn]
  exact aaJ (k:=(dZ st (es.take es.length)).length) rfl rfl (by rw[List.length_take,hml]; omega)
theorem ah.delete{st:List Int}{f:Bool}{es:List Elem}{h:Hz}{i j n:Nat}{K:V->Hz->Prop}{KW:Nat->V->Hz->Prop}(hs:st.length<2^30)(hl:es.length<2^30)(he: ∀ e∈es,e.counts.length<2^30)(hi:h.get i=some (boxS f st))(hj:h.get j=some (nS es))(hij:i≠j)(hn:h.get n=none)(hin:n≠i)(hjn:n≠j)(hK:K (.row 3 false (.elems (dZ st es))) ((j,none)::h)):ah Tryz.prog false none 101 [.own j,.fn 102 [.ptr i 0 0]] h n K KW:=by
 refine ah.drop2 (ts:=[.own 1,.fn 102 [.ptr 0 0 0]]) (o0:=boxS f st) (o1:=nS es) (S.DeleteFunc st f es hs hl he 2) rfl rfl rfl rfl rfl hi hj hij hn hin hjn ?_
 rintro t hp ⟨rfl,rfl⟩
 exact⟨.row 3 false (.elems (dZ st es)),rfl,rfl,rfl,hK⟩
theorem zV{p:aU}(h:xB p=0):Eb p/\sF p=true:=by
 unfold xB at h
 obtain⟨h1,h2⟩:=bz (fun _=>by decide) h
 rw[h2] at h1
 refine⟨aaz h2,?_⟩
 have hm:(jQ p).monadic=true:=by simpa using h1
 simp only[jQ,Bool.and_eq_true] at hm
 exact hm.1
theorem Nj{p:aU}{q:Prop'}(h:Ef p q=0):rH p q=0/\xB p=0/\q.kind=1:=by
 unfold Ef at h
 obtain⟨h1,h2⟩:=bz nz h
 have h3:=Jq h2 (by decide)
 rw[Bool.or_eq_false_iff] at h3
 exact⟨by simpa using h1,by simpa using h3.1,by simpa using h3.2⟩
def CJ(l:List Clause):Nat:=(bF l).toNat
theorem BD{l:List Clause}:bF l=CJ l:=by have:=nC (l:=l); unfold CJ; omega
def lQ(p:aU):Nat:=max 1 p.values.length
def Eo(p:aU)(q:Prop')(l:List Clause):List Elem:=dZ (yU p q) (eY (CJ l+3) p.states.length (lQ p))
theorem S.jv(p:aU)(q:Prop')(m:Nat)(hp:dh p)(hq:vO q)(hv:rH p q=0)(hF:Eb p)(hm:m<=8):ak Tryz.prog 70 [.dat (.dF p),.dat (.prop q),.int m] (.row 3 false (.elems (dZ (yU p q) (eY (m+1) p.states.length (lQ p))))):=by
 have h1:=hF.pos; have h2:=hF.states; have h3:=hF.values
 have nM:lQ p<=3:=by unfold lQ; omega
 have hb0:0<m+1:=by omega
 have hok:=xI (b:=m+1) (n:=p.states.length) (vals:=lQ p) hb0
 have Nh:(eY (m+1) p.states.length (lQ p)).length<=3*531441:=by
  rw[pG]
  have:=pO (b:=m+1) (n:=p.states.length) (by omega) h2
  exact Nat.mul_le_mul nM (by omega)
 refine ak.of Bd.jv (by simp) rfl rfl ?_
 conv=>whnf
 refine ah.pure (S.lK p q hp hq hv) rfl ?_
 conv=>whnf
 conv=>whnf
 refine ah.mkRow (r:=.elems (eY (m+1) p.states.length (lQ p))) (S.Tq p p.states.length (lQ p) m hp rfl h1 h2 rfl nM hm) ?_
 conv=>whnf
 refine ah.delete (f:=false) (st:=yU p q) (es:=eY (m+1) p.states.length (lQ p)) (SK hp hq) (by omega) (fun e he=>by rw[(hok e he).len]; omega) (by rfl) (by rfl) (by decide) (by rfl) (by decide) (by decide) ?_
 conv=>whnf
 exact au.eqv rfl
def FD(p:aU)(q:Prop')(l:List Clause):Int:=bif Ef p q !=0 then Ef p q else jg p l
def TK(p:aU)(q:Prop')(l:List Clause):V:=.fK [.int (bif FD p q l !=0 then 0 else orM l.length (Bz l (Eo p q l))),.int (FD p q l)]
set_option maxHeartbeats 1000000 in
theorem S.fC(p:aU)(q:Prop')(l:List Clause)(f:Bool)(hp:dh p)(hq:vO q)(hl:SmallK l):ak Tryz.prog 48 [.dat (.dF p),.dat (.prop q),.row 4 f (.clauses l)] (TK p q l):=by
 refine ak.of Bd.fC (by simp) rfl rfl ?_
 conv=>whnf
 refine ah.pure (S.lM p q hp hq) rfl ?_
 conv=>whnf
 refine⟨fun h1=>?_,fun h1=>?_⟩
 ·have he:FD p q l=Ef p q:=by rw[FD,show(Ef p q !=0)=true from h1]; rfl
  conv=>whnf
  exact au.eqv (by rw[TK,he,show(Ef p q !=0)=true from h1]; rfl)
 have he:FD p q l=jg p l:=by rw[FD,show(Ef p q !=0)=false from h1]; rfl
 conv=>whnf
 refine ah.lend (S.rE p l false f hp hl) ⟨aB _,JK trivial rfl rfl,trivial⟩ rfl rfl ?_
 conv=>whnf
 refine⟨fun h2=>?_,fun h2=>?_⟩
 ·conv=>whnf
  exact au.eqv (by rw[TK,he,show(jg p l !=0)=true from h2]; rfl)
 obtain⟨hv,hin,_⟩:=Nj (xw h1)
 obtain⟨hF,_⟩:=zV hin
 obtain⟨hR,Wi⟩:=y5 (xw h2)
 have g1:=hF.pos; have g2:=hF.states; have g3:=hF.values
 have hrk:=BD (l:=l)
 have YF:bF l<=3:=qP fun k hk=>(hR.cl k hk).two
 have hU:ak Tryz.prog 70 [.dat (.dF p),.dat (.prop q),.int (bF l+2)] (.row 3 false (.elems (Eo p q l))):=by
  have:=S.jv p q (CJ l+2) hp hq hv hF (by omega)
  rw[hrk]; exact this
 have hok: ∀ e∈Eo p q l,yx (CJ l+3) p.states.length (lQ p) e:=fun e he=>xI (by omega) e (List.mem_filter.1 he).1
 have nM:lQ p<=3:=by unfold lQ; omega
 have PN:CJ l+3<=9:=by omega
 have Nh:(Eo p q l).length<=3*531441:=by
  refine Nat.le_trans (List.length_filter_le _ _) ?_
  rw[pG]
  have:=pO (b:=CJ l+3) (n:=p.states.length) PN g2
  exact Nat.mul_le_mul nM (by omega)
 have hV:TK p q l= .fK [.int (orM l.length (Bz l (Eo p q l))),.int 0]:=by
  rw[TK,he,show(jg p l !=0)=false from h2,xw h2]; rfl
 rw[hV]
 generalize Eo p q l=es at hU hok Nh ⊢
 rw[<- VG]
 conv=>whnf
 refine ah.y7 hl rfl ?_
 conv=>whnf
 refine .mk (by simp only[okI]; omega) ?_
 conv=>whnf
 refine ah.pure (hU) rfl ?_
 conv=>whnf
 refine aJ.yZ (ι:=Nat×List (Int×List Bool)) 100 [2,10,39,40] (fun x=>[(41,.int x.1),(11,.int (Bv l (es.take x.1):Nat))]) (fun x=>[(18,yK l f 19),(19,xO x.2)]) (fun x=>x.1<=es.length/\iL p.states.length l x.2) (fun x=>es.length-x.1) (0,[]) [18,19] rfl (by decide) (fun _=>rfl) ⟨Nat.zero_le _,iL.nil⟩ ?_ ?_ ?_
 ·exact⟨⟨_,rfl,.eq rfl⟩,⟨_,rfl,.eq rfl⟩,trivial⟩
 ·exact⟨⟨rfl,nofun,rfl,rfl,_,rfl,rfl,rfl,bn.of_eq rfl⟩,okF rfl nofun rfl rfl rfl ⟨rfl,rfl⟩ rfl,trivial⟩
 conv=>whnf
 refine⟨⟨⟨_,rfl,.eq rfl⟩,⟨_,rfl,.eq rfl⟩,⟨_,rfl,.eq rfl⟩,⟨_,rfl,.eq rfl⟩,trivial⟩,rfl,?_⟩
 rintro⟨i,em⟩ ⟨hi,hem⟩
 conv=>whnf
 refine⟨fun h3=>?_,fun h3=>?_⟩
 ·have hi':i<es.length:=by simpa using h3
  have hue:=hok _ (getM (d:=default) hi')
  have hte:=hR.at hue PN nM g1 g2
  have Au:(es.getD i default).counts.length=p.states.length:=hue.len
  have hnx:=SV (l:=l) hi'
  have hfi:=G7 (l:=l) (x:=es.getD i default)
  have hle:Bv l (es.take i)<=l.length:=by rw[VG]; exact VH
  have hk1:=hl.len
  conv=>whnf
  refine .mk (by simp only[Rw.rng] at *; omega) ?_
  conv=>whnf
  refine ah.row hl hte (show iL (es.getD i default).counts.length l em by rw[Au]; exact hem) rfl rfl (by decide) rfl (by decide) (by decide) (fun I4 rO=>?_)
  replace rO:iL (es.getD i default).counts.length l I4:=rO
  rw[Au] at rO
  conv=>whnf
  refine ah.pure (S.G6 (fH l (es.getD i default)) false (by rw[pJ]; omega)) rfl ?_
  conv=>whnf
  rw[hfi]
  cases hd:decide (fA l (es.getD i default)<l.length) with
  |true =>
   conv=>whnf
   refine Fork.mk (fun _=>?_) (fun q=>absurd (q.symm.trans (decide_eq_true (show(0:Int)<=((fA l (es.getD i default):Nat):Int) by omega))) Bool.false_ne_true)
   conv=>whnf
   refine .mk (by simp only[okI] at *; omega) ?_
   conv=>whnf
   conv=>whnf
   refine⟨(i+1,I4),[18,19],⟨by show i+1<=_; omega,rO⟩,by show es.length-(i+1)<es.length-i; omega,⟨⟨_,rfl,.eq rfl⟩,⟨_,rfl,.eq ?_⟩,trivial⟩,⟨⟨_,rfl,.eq rfl⟩,⟨_,rfl,.eq rfl⟩,⟨_,rfl,.eq rfl⟩,⟨_,rfl,.eq rfl⟩,trivial⟩,⟨rfl,nofun,rfl,rfl,_,rfl,rfl,rfl,bn.of_eq rfl⟩,okF rfl nofun rfl rfl rfl ⟨rfl,rfl⟩ rfl,trivial⟩
   show T.int (Bv l (es.take (i+1)):Nat)=T.int (min (Bv l (es.take i):Int) (fA l (es.getD i default):Nat))
   rw[hnx]; exact congrArg T.int (by omega)
  |false =>
   have hge:=of_decide_eq_false hd
   conv=>whnf
   refine Fork.mk (fun q=>absurd (q.symm.trans ((rfl:false=false))).symm Bool.false_ne_true) (fun _=>?_)
   conv=>whnf
   refine .mk (by simp only[okI] at *; omega) ?_
   conv=>whnf
   conv=>whnf
   refine⟨(i+1,I4),[18,19],⟨by show i+1<=_; omega,rO⟩,by show es.length-(i+1)<es.length-i; omega,⟨⟨_,rfl,.eq rfl⟩,⟨_,rfl,.eq ?_⟩,trivial⟩,⟨⟨_,rfl,.eq rfl⟩,⟨_,rfl,.eq rfl⟩,⟨_,rfl,.eq rfl⟩,⟨_,rfl,.eq rfl⟩,trivial⟩,⟨rfl,nofun,rfl,rfl,_,rfl,rfl,rfl,bn.of_eq rfl⟩,okF rfl nofun rfl rfl rfl ⟨rfl,rfl⟩ rfl,trivial⟩
   show T.int (Bv l (es.take (i+1)):Nat)=T.int (Bv l (es.take i):Nat)
   rw[hnx,Nat.min_eq_left (by omega)]
 ·have hi':i=es.length:=by have:es.length<=i:=(by simpa using h3); omega
  subst hi'
  rw[List.take_length]
  conv=>whnf
  refine⟨fun h4=>?_,fun h4=>?_⟩
  ·have h4':(Bv l es==l.length)=true:=by
    have h5:((Bv l es:Int)==(l.length:Int))=true:=h4
    rw[beq_iff_eq] at h5 ⊢; omega
   conv=>whnf
   rw[orM,h4']
   exact au.eqv rfl
  ·have h4':(Bv l es==l.length)=false:=by
    have h5:((Bv l es:Int)==(l.length:Int))=false:=h4
    rw[beq_eq_false_iff_ne] at h5 ⊢; omega
   conv=>whnf
   rw[orM,h4']
   exact au.eqv rfl
def FH(st c:List Int):Int:=(st.map fun x=>c.getD x.toNat 0).sum
def BF(q:Prop')(c:List Int):Bool:=q.bad.all fun k=>decide (k.least<=FH k.states c)
structure aaK(n:Nat)(q:Prop'):Prop where
 place: ∀ k∈q.bad,qL n k.states
 least: ∀ k∈q.bad,1<=k.least/\k.least<=3
 some: ∀ k∈q.bad,k.states≠[]
theorem TL{st c:List Int}{i:Nat}(hi:i<st.length):FH (st.take (i+1)) c=FH (st.take i) c+c.getD (st.getD i 0).toNat 0:=by
 unfold FH
 rw[List.take_add_one,List.map_append,List.sum_append]; simp[hi]
theorem Wj{st c:List Int}(h:JI 8 c):0<=FH st c/\FH st c<=8*st.length:=by
 unfold FH
 induction st with
 |nil=>simp
 |cons x r ih =>
  have:=h.g (by omega) x.toNat
  simp only[List.map_cons,List.sum_cons,List.length_cons]; omega
theorem getD_mem{α:Type}{l:List α}{i:Nat}{d:α}(hi:i<l.length):l.getD i d∈l:=by
 rw[show l.getD i d=l[i] by simp[hi]]; exact List.getElem_mem hi
theorem S.nT(q:Prop')(e:Elem)(hq:vO q)(hb:aaK e.counts.length q)(hc:JI 8 e.counts)(_hl:e.counts.length<2^30):ak Tryz.prog 71 [.dat (.prop q),.dat (.elem e)] (.bool (BF q e.counts)):=by
 have q2:=hq.bad
 refine ak.of Bd.nT (by simp) rfl rfl ?_
 conv=>whnf
 refine aJ.same [3,11,12] (fun i:Nat=>[(13,.int i)]) (fun i=>i<=q.bad.length/\(q.bad.take i).all (fun k=>decide (k.least<=FH k.states e.counts))=true) (fun i=>q.bad.length-i) 0 rfl (by decide) rfl (fun _=>rfl) ⟨by omega,by simp⟩ ⟨⟨_,rfl,rfl⟩,trivial⟩ ?_
 conv=>whnf
 refine⟨rfl,?_⟩
 rintro i ⟨hi,hall⟩
 conv=>whnf
 refine⟨fun h3=>?_,fun h3=>?_⟩
 ·have hi':i<q.bad.length:=by simpa using h3
  have hk:=getD_mem (d:=default) hi'
  have hpl:=hb.place _ hk
  have hsz:=hq.cnt i
  conv=>whnf
  refine .mk (by simp only[Rw.rng] at *; omega) ?_
  conv=>whnf
  refine aJ.same [3,6,11,12,13,18,19] (fun j:Nat=>[(20,.int j),(7,.int (FH ((q.bad.getD i default).states.take j) e.counts))]) (fun j=>j<=(q.bad.getD i default).states.length) (fun j=>(q.bad.getD i default).states.length-j) 0 rfl (by decide) rfl (fun _=>rfl) (Nat.zero_le _) ⟨⟨_,rfl,rfl⟩,⟨_,rfl,rfl⟩,trivial⟩ ?_
  conv=>whnf
  refine⟨rfl,?_⟩
  rintro j hj
  have hs1:=Wj (st:=(q.bad.getD i default).states.take j) hc
  have hl1:((q.bad.getD i default).states.take j).length<=(q.bad.getD i default).states.length:=by rw[List.length_take]; omega
  conv=>whnf
  refine⟨fun h4=>?_,fun h4=>?_⟩
  ·have hj':j<(q.bad.getD i default).states.length:=by simpa using h4
   have hst:=TL (c:=e.counts) hj'
   have hg:=hc.g (by omega) ((q.bad.getD i default).states.getD j 0).toNat
   obtain⟨p1,p2⟩:=hpl _ (getD_mem (d:=0) hj')
   conv=>whnf
   repeat(refine VC.mk (by first|(simp only[Rw.rng,Int.toNat_natCast]; omega)|(simp only[okI,Int.toNat_natCast] at *; omega)) ?_; conv=>whnf)
   refine⟨j+1,by omega,by omega,⟨⟨_,rfl,rfl⟩,⟨_,rfl,?_⟩,trivial⟩,?_,rfl⟩
   ·rw[hst]; rfl
   ·repeat' (first|exact trivial|exact⟨_,rfl,rfl⟩|constructor)
  ·have hj':(q.bad.getD i default).states.length<=j:=by simpa using h4
   rw[List.take_of_length_le hj']
   conv=>whnf
   refine⟨fun h5=>?_,fun h5=>?_⟩
   ·conv=>whnf
    refine au.bool ?_
    have: ¬ (q.bad.getD i default).least<=FH (q.bad.getD i default).states e.counts:=by
     simp only[Int.toNat_natCast] at h5
     have:=of_decide_eq_true h5; omega
    exact mM (p:=fun k=>decide (k.least<=FH k.states e.counts)) (d:=default) hi' (decide_eq_false this)
   ·conv=>whnf
    refine .mk (by simp only[okI] at *; omega) ?_
    conv=>whnf
    have:(q.bad.getD i default).least<=FH (q.bad.getD i default).states e.counts:=by
     simp only[Int.toNat_natCast] at h5
     have:=of_decide_eq_false h5; omega
    refine⟨i+1,⟨by omega,?_⟩,by omega,⟨⟨_,rfl,rfl⟩,trivial⟩,?_,rfl⟩
    ·rw[nG (d:=default) hi' hall]; exact decide_eq_true this
    ·repeat' (first|exact trivial|exact⟨_,rfl,rfl⟩|constructor)
 ·have hi':q.bad.length<=i:=by simpa using h3
  rw[List.take_of_length_le hi'] at hall
  conv=>whnf
  exact au.bool hall
theorem Wn{p:aU}{q:Prop'}(hp:rH p q=0)(hk:q.kind=1):aaK p.states.length q:=by
 unfold rH at hp
 obtain⟨_,hp⟩:=bz nz hp
 obtain⟨_,hp⟩:=bz (fun _=>by decide) hp
 obtain⟨_,hp⟩:=bz (fun _=>by decide) hp
 obtain⟨_,hp⟩:=bz (fun _=>by decide) hp
 obtain⟨_,hp⟩:=bz nz hp
 obtain⟨_,hp⟩:=bz (fun _=>by decide) hp
 rw[show(!(q.kind==1))=false by simp[hk]] at hp
 have hcn:=gY hp (zO q.bad p.states.length) (by simp)
 have hall: ∀ k∈q.bad,VB p.states.length k=0:=fun k hk=>gY hcn _ (List.mem_map.2 ⟨k,hk,rfl⟩)
 have hlb: ∀ k∈q.bad,uh k=false:=fun k hk=>Jq (gY (hall k hk) (eu (uh k) 1) (by simp)) (by decide)
 refine⟨fun k hk=>zN (gY (hall k hk) (dU k.states p.states.length) (by simp)),fun k hk=>?_,fun k hk e=>?_⟩
 ·have:=hlb k hk
  simp only[uh,Bool.or_eq_false_iff,decide_eq_false_iff_not] at this; omega
 ·have:=hlb k hk
  rw[uh,e] at this; simp at this
def lgB(l:List Cnt):Int:=l.foldl (fun m k=>max m k.least) 0
theorem YI{l:List Cnt}: ∀ {r:Int},0<=r->l.foldl (fun m k=>max m k.least) r=max r (lgB l):=by
 have: ∀ (l:List Cnt) (r s:Int),l.foldl (fun m k=>max m k.least) (max r s)=max r (l.foldl (fun m k=>max m k.least) s):=by
  intro l
  induction l with
  |nil=>intro r s; rfl
  |cons x l ih=>intro r s; rw[List.foldl_cons,List.foldl_cons,Int.max_assoc,ih]
 intro r hr
 have:=this l r 0
 rw[Int.max_eq_left hr] at this; exact this
theorem aaL{l:List Cnt}(h: ∀ k∈l,1<=k.least/\k.least<=3):0<=lgB l/\lgB l<=3:=by
 have: ∀ (l:List Cnt) (r:Int),0<=r/\r<=3->(∀ k∈l,1<=k.least/\k.least<=3)->0<=l.foldl (fun m k=>max m k.least) r/\l.foldl (fun m k=>max m k.least) r<=3:=by
  intro l
  induction l with
  |nil=>intro r hr _; exact hr
  |cons x l ih=>intro r hr h; have:=h x (by simp); exact ih _ (show 0<=max r x.least/\max r x.least<=3 by omega) fun k hk=>h k (List.mem_cons_of_mem _ hk)
 exact this l 0 (by omega) h
theorem YJ{l:List Cnt}{r:Int}{i:Nat}(hi:i<l.length):(l.take (i+1)).foldl (fun m k=>max m k.least) r=max ((l.take i).foldl (fun m k=>max m k.least) r) (l.getD i default).least:=by
 rw[List.take_add_one,List.foldl_append]; simp[hi]
def Vf(q:Prop')(l:List Clause):Nat:=(max (bF l) (lgB q.bad)).toNat
theorem aaM{q:Prop'}{l:List Clause}:max (bF l) (lgB q.bad)=Vf q l:=by have:=nC (l:=l); unfold Vf; omega
def Wp(p:aU)(q:Prop')(l:List Clause):Option Elem:=Yz (fun e=>BF q e.counts) l (eY (Vf q l+3) p.states.length (lQ p))
def aaN(s:Option Elem):V:=.fK [.dat (.elem (s.getD zE)),.bool s.isSome]
theorem Wq{bad:Elem->Bool}{l:List Clause}{es:List Elem}{x:Elem}(h:es.foldl (Aq bad l) none=some x):x∈es:=VJ h
set_option maxHeartbeats 2000000 in
theorem S.jw(p:aU)(q:Prop')(l:List Clause)(f:Bool)(hp:dh p)(hq:vO q)(hl:SmallK l)(hF:Eb p)(hB:aaK p.states.length q)(hR:fB p.states.length p.values.length l):ak Tryz.prog 49 [.dat (.dF p),.dat (.prop q),.row 4 f (.clauses l)] (aaN (Wp p q l)):=by
 have g1:=hF.pos; have g2:=hF.states; have g3:=hF.values
 have q1:=hq.bad
 have hk1:=hl.len
 have nM:lQ p<=3:=by unfold lQ; omega
 have YF:bF l<=3:=qP fun k hk=>(hR.cl k hk).two
 have ado:=nC (l:=l)
 have hlg:=aaL hB.least
 have hmd:=aaM (q:=q) (l:=l)
 have adW:Vf q l<=3:=by omega
 have PN:Vf q l+3<=9:=by omega
 have hU:ak Tryz.prog 52 [.dat (.dF p),.int (max (bF l) (lgB q.bad)+2)] (.row 3 false (.elems (eY (Vf q l+3) p.states.length (lQ p)))):=by
  have:=S.eF p p.states.length (lQ p) (Vf q l+2) hp rfl g1 g2 rfl nM (by omega)
  rw[hmd]; exact this
 have hok:=xI (b:=Vf q l+3) (n:=p.states.length) (vals:=lQ p) (by omega)
 have Nh:(eY (Vf q l+3) p.states.length (lQ p)).length<=3*531441:=by
  rw[pG]
  have:=pO (b:=Vf q l+3) (n:=p.states.length) PN g2
  exact Nat.mul_le_mul nM (by omega)
 have hend:Wp p q l=Yz (fun e=>BF q e.counts) l (eY (Vf q l+3) p.states.length (lQ p)):=rfl
 rw[hend]
 generalize eY (Vf q l+3) p.states.length (lQ p)=es at hU Nh hok ⊢
 have hmem: ∀ i x,(es.take i).foldl (Aq (fun e=>BF q e.counts) l) none=some x->x.counts.length=p.states.length:=fun i x h=>(hok x (List.mem_of_mem_take (Wq h))).len
 have acj:Yz (fun e=>BF q e.counts) l es=(es.take es.length).foldl (Aq (fun e=>BF q e.counts) l) none:=by rw[List.take_length]; rfl
 rw[acj]
 refine ak.of Bd.jw (by simp) rfl (by rfl) ?_
 conv=>whnf
 refine ah.y7 hl rfl ?_
 conv=>whnf
 obtain⟨rb,hrb,hrL⟩:=Em l.length
 rw[hrb]
 conv=>whnf
 refine .mk (by omega) ?_
 conv=>whnf
 refine aJ.yZ 50 [3,4,6,8,9,26,27] (fun i:Nat=>[(28,.int i),(10,.int ((q.bad.take i).foldl (fun m k=>max m k.least) (bF l)))]) (fun _=>[(0,.box 27 11 (.dat (.dF p))),(1,.box 52 7 (.dat (.prop q))),(2,.box 55 3 (.agg [.int 0,.row 0 true .nil])),(5,yK l f 6),(6,xO []),(10,rowB (List.replicate l.length false))]) (fun i=>i<=q.bad.length) (fun i=>q.bad.length-i) 0 [0,1,2,5,6,10] rfl (by decide) (fun _=>rfl) (Nat.zero_le _) ?_ ?_ ?_
 ·exact⟨⟨_,rfl,.eq rfl⟩,⟨_,rfl,.eq rfl⟩,trivial⟩
 ·refine⟨okF rfl nofun rfl rfl rfl ⟨rfl,rfl⟩ rfl,okF rfl nofun rfl rfl rfl ⟨rfl,rfl⟩ rfl,okF rfl nofun rfl rfl rfl ⟨rfl,rfl⟩ rfl,⟨rfl,nofun,rfl,rfl,_,rfl,rfl,rfl,bn.of_eq rfl⟩,okF rfl nofun rfl rfl rfl ⟨rfl,rfl⟩ rfl,okF rfl nofun rfl rfl rfl ⟨rfl,rfl⟩ ?_,trivial⟩
  show(Rw.bools (List.replicate l.length false)).aT++[]=rb.aT++[]
  rw[hrL]
 conv=>whnf
 refine⟨⟨⟨_,rfl,.eq rfl⟩,⟨_,rfl,.eq rfl⟩,⟨_,rfl,.eq rfl⟩,⟨_,rfl,.eq rfl⟩,⟨_,rfl,.eq rfl⟩,⟨_,rfl,.eq rfl⟩,⟨_,rfl,.eq rfl⟩,trivial⟩,rfl,?_⟩
 rintro i hi
 conv=>whnf
 refine⟨fun h3=>?_,fun h3=>?_⟩
 ·have hi':i<q.bad.length:=by simpa using h3
  have hlt:=YJ (r:=bF l) hi'
  conv=>whnf
  repeat(refine VC.mk (by simp only[okI,Rw.rng] at *; omega) ?_; conv=>whnf)
  refine⟨i+1,[0,1,2,5,6,10],by omega,by omega,⟨⟨_,rfl,.eq rfl⟩,⟨_,rfl,.eq ?_⟩,trivial⟩,⟨⟨_,rfl,.eq rfl⟩,⟨_,rfl,.eq rfl⟩,⟨_,rfl,.eq rfl⟩,⟨_,rfl,.eq rfl⟩,⟨_,rfl,.eq rfl⟩,⟨_,rfl,.eq rfl⟩,⟨_,rfl,.eq rfl⟩,trivial⟩,okF rfl nofun rfl rfl rfl ⟨rfl,rfl⟩ rfl,okF rfl nofun rfl rfl rfl ⟨rfl,rfl⟩ rfl,okF rfl nofun rfl rfl rfl ⟨rfl,rfl⟩ rfl,⟨rfl,nofun,rfl,rfl,_,rfl,rfl,rfl,bn.of_eq rfl⟩,okF rfl nofun rfl rfl rfl ⟨rfl,rfl⟩ rfl,okF rfl nofun rfl rfl rfl ⟨rfl,rfl⟩ rfl,trivial⟩
  rw[hlt]; rfl
 have hi':i=q.bad.length:=by have:q.bad.length<=i:=(by simpa using h3); omega
 subst hi'
 rw[show q.bad.take q.bad.length=q.bad from List.take_length,YI ado]
 conv=>whnf
 refine .mk (by simp only[okI]; omega) ?_
 conv=>whnf
 refine ah.pure (hU) rfl ?_
 conv=>whnf
 refine aJ.yZ (ι:=Nat×List (Int×List Bool)) 100 [4,6,8,9,13,40,41] (fun x=>[(42,.int x.1)]) (fun x=>[(1,.box 52 7 (.dat (.prop q))),(2,.box 55 3 (.agg [.int 0,.row 0 true .nil])),(5,yK l f 6),(6,xO x.2),(10,rowB (List.replicate l.length false)),(51,.box 55 3 (.dat (.elem (((es.take x.1).foldl (Aq (fun e=>BF q e.counts) l) none).getD zE))))]) (fun x=>x.1<=es.length/\iL p.states.length l x.2) (fun x=>es.length-x.1) (0,[]) [1,2,5,6,10,51] rfl (by decide) (fun _=>rfl) ⟨Nat.zero_le _,iL.nil⟩ ?_ ?_ ?_
 ·exact⟨⟨_,rfl,.eq rfl⟩,trivial⟩
 ·exact⟨okF rfl nofun rfl rfl rfl ⟨rfl,rfl⟩ rfl,okF rfl nofun rfl rfl rfl ⟨rfl,rfl⟩ rfl,⟨rfl,nofun,rfl,rfl,_,rfl,rfl,rfl,bn.of_eq rfl⟩,okF rfl nofun rfl rfl rfl ⟨rfl,rfl⟩ rfl,okF rfl nofun rfl rfl rfl ⟨rfl,rfl⟩ rfl,⟨rfl,nofun,rfl,rfl,_,rfl,rfl,rfl,JJ⟩,trivial⟩
 conv=>whnf
 refine⟨⟨⟨_,rfl,.eq rfl⟩,⟨_,rfl,.eq rfl⟩,⟨_,rfl,.eq rfl⟩,⟨_,rfl,.eq rfl⟩,⟨_,rfl,.eq rfl⟩,⟨_,rfl,.eq rfl⟩,⟨_,rfl,.eq rfl⟩,trivial⟩,rfl,?_⟩
 rintro⟨i,em⟩ ⟨hi,hem⟩
 have AO:=hmem i
 conv=>whnf
 refine⟨fun h3=>?_,fun h3=>?_⟩
 ·have hi':i<es.length:=by simpa using h3
  have hue:=hok _ (getM (d:=default) hi')
  have hte:=hR.at hue PN nM g1 g2
  have Au:(es.getD i default).counts.length=p.states.length:=hue.len
  have hnx:(es.take (i+1)).foldl (Aq (fun e=>BF q e.counts) l) none=Aq (fun e=>BF q e.counts) l ((es.take i).foldl (Aq (fun e=>BF q e.counts) l) none) (es.getD i default):=GU hi'
  generalize (es.take i).foldl (Aq (fun e=>BF q e.counts) l) none=s at *
  have hsl:(s.getD zE).counts.length<=6:=by
   cases s with
   |none=>exact show(0:Nat)<=6 by decide
   |some x=>have:=AO x rfl; show x.counts.length<=6; omega
  have hsn:(((s.getD zE).counts.length:Int)==0)=s.isNone:=by
   cases s with
   |none=>rfl
   |some x =>
    have:=AO x rfl
    show((x.counts.length:Int)==0)=false
    exact beq_eq_false_iff_ne.2 (by omega)
  conv=>whnf
  refine .mk (by simp only[Rw.rng] at *; omega) ?_
  conv=>whnf
  refine ah.pure (S.nT q (es.getD i default) hq (by rw[Au]; exact hB) (hue.nn PN) (by rw[Au]; omega)) rfl ?_
  conv=>whnf
  refine .mk (by exact fun h=>⟨h,h⟩) ?_
  conv=>whnf
  cases hD:BF q (es.getD i default).counts with
  |false =>
   have hsg:Aq (fun e=>BF q e.counts) l s (es.getD i default)=s:=by rw[Aq,hD]; rfl
   rw[hsg] at hnx
   refine ah.V4 (.row 0 false (.bools [])) rfl ?_
   conv=>whnf
   refine .mk (by exact fun h=>⟨h,h⟩) ?_
   conv=>whnf
   refine ah.V4 (.bool true) rfl ?_
   conv=>whnf
   repeat(refine VC.mk id ?_; conv=>whnf)
   refine ah.fP (fun _=>S.jf (es.getD i default) (by rw[Au]; omega)) rfl ?_
   conv=>whnf
   refine VC.mk id ?_
   conv=>whnf
   refine ah.fP (fun _=>S.jf (s.getD zE) (by omega)) rfl ?_
   conv=>whnf
   repeat(refine VC.mk (by first|exact id|exact fun h=>⟨h,h⟩|(intro h; simp_all; done)) ?_; conv=>whnf)
   refine Fork.mk (fun q=>absurd (q.symm.trans ((rfl:false=false))).symm Bool.false_ne_true) (fun _=>?_)
   conv=>whnf
   refine .mk (by simp only[okI] at *; omega) ?_
   conv=>whnf
   conv=>whnf
   refine⟨(i+1,em),[1,2,5,6,10,51],⟨by show i+1<=_; omega,hem⟩,by show es.length-(i+1)<es.length-i; omega,⟨⟨_,rfl,.eq rfl⟩,trivial⟩,⟨⟨_,rfl,.eq rfl⟩,⟨_,rfl,.eq rfl⟩,⟨_,rfl,.eq rfl⟩,⟨_,rfl,.eq rfl⟩,⟨_,rfl,.eq rfl⟩,⟨_,rfl,.eq rfl⟩,⟨_,rfl,.eq rfl⟩,trivial⟩,okF rfl nofun rfl rfl rfl ⟨rfl,rfl⟩ rfl,okF rfl nofun rfl rfl rfl ⟨rfl,rfl⟩ rfl,⟨rfl,nofun,rfl,rfl,_,rfl,rfl,rfl,bn.of_eq rfl⟩,okF rfl nofun rfl rfl rfl ⟨rfl,rfl⟩ rfl,okF rfl nofun rfl rfl rfl ⟨rfl,rfl⟩ rfl,okF rfl nofun rfl rfl rfl ⟨rfl,rfl⟩ ?_,trivial⟩
   exact congrArg (fun s:Option Elem=>(OV.box 55 3 (.dat (.elem (s.getD zE)))).aF.l) hnx
  |true =>
   have YG:Aq (fun e=>BF q e.counts) l s (es.getD i default)=bif cO l (es.getD i default)&&(s.isNone||decide (nD (es.getD i default)<nD (s.getD zE))) then some (es.getD i default) else s:=by rw[Aq,hD]; rfl
   refine ah.on (ah.row hl hte (show iL (es.getD i default).counts.length l em by rw[Au]; exact hem) rfl rfl (by decide) rfl (by decide) (by decide) (fun I4 rO=>?_))
   replace rO:iL (es.getD i default).counts.length l I4:=rO
   rw[Au] at rO
   conv=>whnf
   refine .mk (by exact fun h=>⟨h,h⟩) ?_
   conv=>whnf
   refine ah.on (ah.lend (S.kC (fH l (es.getD i default)) l.length false false (by rw[pJ]; omega) (by rw[pJ]; exact Nat.le_refl _)) ⟨aB _,JG trivial rfl,trivial⟩ rfl rfl ?_)
   rw[QZ]
   conv=>whnf
   repeat(refine VC.mk id ?_; conv=>whnf)
   refine ah.fP (fun _=>S.jf (es.getD i default) (by rw[Au]; omega)) rfl ?_
   conv=>whnf
   refine VC.mk id ?_
   conv=>whnf
   refine ah.fP (fun _=>S.jf (s.getD zE) (by omega)) rfl ?_
   conv=>whnf
   repeat(refine VC.mk (by first|exact id|exact fun h=>⟨h,h⟩|(intro h; simp_all; done)) ?_; conv=>whnf)
   refine⟨fun h5=>?_,fun h5=>?_⟩
   ·have h5':(cO l (es.getD i default)&&(s.isNone||decide (nD (es.getD i default)<nD (s.getD zE))))=true:=by rw[<- hsn]; exact h5
    rw[h5'] at YG
    rw[YG] at hnx
    have hfin:=congrArg (fun s:Option Elem=>(OV.box 55 3 (.dat (.elem (s.getD zE)))).aF.l) hnx
    conv=>whnf
    refine .mk (by simp only[okI] at *; omega) ?_
    conv=>whnf
    refine⟨(i+1,I4),[1,2,5,6,10,51],⟨by show i+1<=_; omega,rO⟩,by show es.length-(i+1)<es.length-i; omega,⟨⟨_,rfl,.eq rfl⟩,trivial⟩,⟨⟨_,rfl,.eq rfl⟩,⟨_,rfl,.eq rfl⟩,⟨_,rfl,.eq rfl⟩,⟨_,rfl,.eq rfl⟩,⟨_,rfl,.eq rfl⟩,⟨_,rfl,.eq rfl⟩,⟨_,rfl,.eq rfl⟩,trivial⟩,okF rfl nofun rfl rfl rfl ⟨rfl,rfl⟩ rfl,okF rfl nofun rfl rfl rfl ⟨rfl,rfl⟩ rfl,⟨rfl,nofun,rfl,rfl,_,rfl,rfl,rfl,bn.of_eq rfl⟩,okF rfl nofun rfl rfl rfl ⟨rfl,rfl⟩ rfl,okF rfl nofun rfl rfl rfl ⟨rfl,rfl⟩ rfl,okF rfl nofun rfl rfl rfl ⟨rfl,rfl⟩ ?_,trivial⟩
    exact hfin
   ·have h5':(cO l (es.getD i default)&&(s.isNone||decide (nD (es.getD i default)<nD (s.getD zE))))=false:=by rw[<- hsn]; exact h5
    rw[h5'] at YG
    rw[YG] at hnx
    have hfin:=congrArg (fun s:Option Elem=>(OV.box 55 3 (.dat (.elem (s.getD zE)))).aF.l) hnx
    conv=>whnf
    refine .mk (by simp only[okI] at *; omega) ?_
    conv=>whnf
    refine⟨(i+1,I4),[1,2,5,6,10,51],⟨by show i+1<=_; omega,rO⟩,by show es.length-(i+1)<es.length-i; omega,⟨⟨_,rfl,.eq rfl⟩,trivial⟩,⟨⟨_,rfl,.eq rfl⟩,⟨_,rfl,.eq rfl⟩,⟨_,rfl,.eq rfl⟩,⟨_,rfl,.eq rfl⟩,⟨_,rfl,.eq rfl⟩,⟨_,rfl,.eq rfl⟩,⟨_,rfl,.eq rfl⟩,trivial⟩,okF rfl nofun rfl rfl rfl ⟨rfl,rfl⟩ rfl,okF rfl nofun rfl rfl rfl ⟨rfl,rfl⟩ rfl,⟨rfl,nofun,rfl,rfl,_,rfl,rfl,rfl,bn.of_eq rfl⟩,okF rfl nofun rfl rfl rfl ⟨rfl,rfl⟩ rfl,okF rfl nofun rfl rfl rfl ⟨rfl,rfl⟩ rfl,okF rfl nofun rfl rfl rfl ⟨rfl,rfl⟩ ?_,trivial⟩
    exact hfin
 ·have hi':i=es.length:=by have:es.length<=i:=(by simpa using h3); omega
  subst hi'
  generalize (es.take es.length).foldl (Aq (fun e=>BF q e.counts) l) none=s at *
  conv=>whnf
  refine au.eqv ?_
  rw[aaN]
  cases s with
  |none=>rfl
  |some x =>
   have:=AO x rfl
   show T.fK [sQ x,.bool true]=T.fK [sQ x,.bool (decide (0<(x.counts.length:Int)))]
   rw[decide_eq_true (by omega)]
def EX(p:aU)(r:Rule)(l a:List Clause):Nat×Elem:=JD (dK r) l a (eY (CJ (l++a)+3) p.states.length (lQ p))
def YK(n:Nat)(s:Nat×Elem):List V:=[.int (orM n s.1),.dat (.elem (bif s.1==n then zE else s.2))]
theorem S.Nk(p:aU)(l a:List Clause)(i:Nat)(f g:Bool)(hp:dh p)(hi:i<p.rules.length)(hin:xB p=0)(hl:fB p.states.length p.values.length l)(ha:fB p.states.length p.values.length a)(hs:l.length+a.length<=1000) :
  ak Tryz.prog 44 [.dat (.dF p),.dat (.rule (p.rules.getD i default)),.row 4 f (.clauses l),.row 4 g (.clauses a)] (.fK (YK l.length (EX p (p.rules.getD i default) l a))):=by
 obtain⟨hF,hpl⟩:=zV hin
 have:=hF.values
 exact S.gW p (p.rules.getD i default) l a p.states.length (lQ p) f g hp (hp.rule i) rfl hF.pos hF.states rfl (by unfold lQ; omega) (ace hF (SG hpl) hi) hl ha hs (CJ (l++a)) BD
def Gm(p:aU)(rule:Int)(l a:List Clause):Int:=bif xB p !=0 then xB p else bif decide (rule<0)||decide (rule>=p.rules.length) then 6 else AP p l a
def O1(p:aU)(rule:Int)(l a:List Clause):V:=.fK ((bif Gm p rule l a !=0 then [.int 0,.dat (.elem zE)] else YK l.length (EX p (p.rules.getD rule.toNat default) l a))++[.int (Gm p rule l a)])
theorem au.zero3{k j:Int}{h:Hz}:au (.fK [.int k,.dat (.elem zE),.int j]) (.fK [.int k,.agg [.int 0,.row 0 true .nil],.int j]) h:=⟨by
 show T.sub _ _ (.fK [.int k,.agg [.int 0,.sl 0 false []],.int j]) (.fK [.int k,.agg [.int 0,.sl 0 true []],.int j])
 simp[T.sub,T.dD]⟩
theorem G9{p:aU}{rule:Int}{l a:List Clause}{e:Int}(h:Gm p rule l a=e)(he:(e !=0)=true):O1 p rule l a= .fK [.int 0,.dat (.elem zE),.int e]:=by
 rw[O1,h,he]; rfl
theorem YL{p:aU}{l a:List Clause}(h:AP p l a=0):fB p.states.length p.values.length l/\fB p.states.length p.values.length a/\l.length<=160/\a.length<=160:=by
 unfold AP at h
 obtain⟨h1,h2⟩:=bz nz h
 obtain⟨a1,a2⟩:=y5 (by simpa using h1)
 obtain⟨b1,b2⟩:=y5 h2
 exact⟨a1,b1,a2,b2⟩
theorem S.gK(p:aU)(rule:Int)(l a:List Clause)(f g:Bool)(hp:dh p)(hl:SmallK l)(ha:SmallK a):ak Tryz.prog 24 [.dat (.dF p),.int rule,.row 4 f (.clauses l),.row 4 g (.clauses a)] (O1 p rule l a):=by
 refine ak.of Bd.gK (by simp) rfl (by unfold O1; cases Gm p rule l a !=0<;>rfl) ?_
 conv=>whnf
 refine ah.pure (S.dX p hp) rfl ?_
 conv=>whnf
 refine⟨fun h1=>?_,fun h1=>?_⟩
 ·have he:Gm p rule l a=xB p:=by rw[Gm,show(xB p !=0)=true from h1]; rfl
  conv=>whnf
  rw[G9 he h1]
  exact au.zero3
 have hk:=hp.rules
 conv=>whnf
 repeat(refine VC.mk (by first|exact id|exact fun h=>⟨h,h⟩|(intro h; rw[h]; rfl)) ?_; conv=>whnf)
 refine⟨fun h2=>?_,fun h2=>?_⟩
 ·have h2':(decide (rule<0)||decide (rule>=p.rules.length))=true:=h2
  have he:Gm p rule l a=6:=by rw[Gm,show(xB p !=0)=false from h1,h2']; rfl
  conv=>whnf
  rw[G9 he (by decide)]
  exact au.zero3
 have h2':(decide (rule<0)||decide (rule>=p.rules.length))=false:=h2
 have he:Gm p rule l a=AP p l a:=by rw[Gm,show(xB p !=0)=false from h1,h2']; rfl
 rw[Bool.or_eq_false_iff,decide_eq_false_iff_not,decide_eq_false_iff_not] at h2'
 obtain⟨r1,r2⟩:=h2'
 conv=>whnf
 refine ah.lend (S.IX p l a false f g hp hl ha) ⟨aB _,JK trivial rfl rfl,trivial⟩ rfl rfl ?_
 conv=>whnf
 refine⟨fun h3=>?_,fun h3=>?_⟩
 ·conv=>whnf
  rw[G9 he h3]
  exact au.zero3
 obtain⟨k1,k2,k3,k4⟩:=YL (xw h3)
 have hV:O1 p rule l a= .fK (YK l.length (EX p (p.rules.getD rule.toNat default) l a)++[.int 0]):=by
  rw[O1,he,xw h3]; rfl
 rw[hV]
 conv=>whnf
 refine .mk (by first|(simp only[Rw.rng]; omega)) ?_
 conv=>whnf
 refine ah.pure (S.Nk p l a rule.toNat f g hp (by omega) (xw h1) k1 k2 (by omega)) rfl ?_
 conv=>whnf
 exact au.eqv rfl
def y8(p:aU)(l a:List Clause)(r:Rule):Bool:=(EX p r l a).1==l.length
def Nl(p:aU)(q:Prop')(l a:List Clause):Bool:=((jg p a==0)&&decide (l.length+a.length<=160))&&(p.rules.all (y8 p l a)&&(Wp p q (l++a)).isNone)
def ccB(p:aU)(q:Prop')(l a:List Clause):Bool:=((FD p q l==0)&&(Bz l (Eo p q l)==l.length))&&Nl p q l a
theorem Z5{n m:Nat}(_h:m<=n):decide (orM n m>=0)= !(m==n):=by
 unfold orM
 cases he:m==n with
 |true=>rfl
 |false=>simp only[cond_false]; exact decide_eq_true (by omega)
theorem S.eP(p:aU)(q:Prop')(l a:List Clause)(f g:Bool)(hp:dh p)(hq:vO q)(hl:SmallK l)(ha:SmallK a):ak Tryz.prog 27 [.dat (.dF p),.dat (.prop q),.row 4 f (.clauses l),.row 4 g (.clauses a)] (.bool (ccB p q l a)):=by
 have k1:=hl.len; have k2:=ha.len
 refine ak.of Bd.eP (by simp) rfl rfl ?_
 conv=>whnf
 refine ah.pure (S.fC p q l f hp hq hl) rfl ?_
 rw[TK]
 cases he:FD p q l !=0 with
 |true =>
  have hcT:(FD p q l !=0||decide (0<=bif true then 0 else orM l.length (Bz l (Eo p q l))))=true:=by rw[he]; rfl
  conv=>whnf
  repeat(refine VC.mk (by first|exact id|(intro h; rw[h]; rfl)) ?_; conv=>whnf)
  refine Fork.mk (fun _=>?_) (fun q=>absurd (q.symm.trans (hcT)) Bool.false_ne_true)
  conv=>whnf
  exact au.bool (by rw[ccB,show(FD p q l==0)=false from beq_eq_false_iff_ne.2 (JB he)]; rfl)
 |false =>
  have he0:FD p q l=0:=xw he
  have hor:=Z5 (n:=l.length) (m:=Bz l (Eo p q l)) VH
  rw[he0]
  conv=>whnf
  repeat(refine VC.mk (by first|exact id|(intro h; rw[h]; rfl)) ?_; conv=>whnf)
  refine⟨fun h1=>?_,fun h1=>?_⟩
  ·have h1':decide (orM l.length (Bz l (Eo p q l))>=0)=true:=h1
   conv=>whnf
   refine au.bool ?_
   rw[hor] at h1'
   have h2:(Bz l (Eo p q l)==l.length)=false:=by simpa only[Bool.not_eq_true'] using h1'
   rw[ccB,h2,Bool.and_false]; rfl
  have h1':decide (orM l.length (Bz l (Eo p q l))>=0)=false:=h1
  rw[hor] at h1'
  have h2:(Bz l (Eo p q l)==l.length)=true:=by simpa only[Bool.not_eq_false'] using h1'
  have hcc:ccB p q l a=Nl p q l a:=by rw[ccB,he0,h2]; rfl
  rw[hcc]
  conv=>whnf
  refine ah.lend (S.rE p a false g hp ha) ⟨aB _,JK trivial rfl rfl,trivial⟩ rfl rfl ?_
  conv=>whnf
  repeat(refine VC.mk (by first|exact id|(intro h; rw[h]; rfl)|(intro h; (repeat' apply And.intro)<;>first|exact h|omega|(simp only[Rw.lg]; omega)|(simp only[Rw.rng]; omega))) ?_; conv=>whnf)
  refine⟨fun h3=>?_,fun h3=>?_⟩
  ·have h3':(jg p a !=0||decide ((l.length:Int)+a.length>160))=true:=h3
   conv=>whnf
   refine au.bool ?_
   have:((jg p a==0)&&decide (l.length+a.length<=160))=false:=by
    rw[Bool.or_eq_true] at h3'
    rcases h3' with h|h
    ·rw[show(jg p a==0)=false from beq_eq_false_iff_ne.2 (JB h)]; rfl
    ·have:=of_decide_eq_true h
     rw[decide_eq_false (show ¬ (l.length+a.length<=160) by omega),Bool.and_false]
   rw[Nl,this]; rfl
  have h3':(jg p a !=0||decide ((l.length:Int)+a.length>160))=false:=h3
  rw[Bool.or_eq_false_iff,decide_eq_false_iff_not] at h3'
  obtain⟨h4,h5⟩:=h3'
  have hlen:l.length+a.length<=160:=by omega
  have hrest:Nl p q l a=(p.rules.all (y8 p l a)&&(Wp p q (l++a)).isNone):=by
   rw[Nl,xw h4,decide_eq_true hlen]; rfl
  rw[hrest]
  have hE:Ef p q=0/\jg p l=0:=by
   unfold FD at he0
   obtain⟨u,v⟩:=bz nz he0
   exact⟨by simpa using u,v⟩
  obtain⟨hv,hin,hk⟩:=Nj hE.1
  obtain⟨hF,_⟩:=zV hin
  obtain⟨hR,_⟩:=y5 hE.2
  obtain⟨hA,_⟩:=y5 (xw h4)
  have hla:=hR.app hA (by omega)
  have hru:=hp.rules
  conv=>whnf
  refine aJ.same [2,3,4,5,44,45] (fun i:Nat=>[(46,.int i)]) (fun i=>i<=p.rules.length/\(p.rules.take i).all (y8 p l a)=true) (fun i=>p.rules.length-i) 0 rfl (by decide) rfl (fun _=>rfl) ⟨by omega,by simp⟩ ⟨⟨_,rfl,rfl⟩,trivial⟩ ?_
  conv=>whnf
  refine⟨rfl,?_⟩
  rintro i ⟨hi,hall⟩
  conv=>whnf
  refine⟨fun h6=>?_,fun h6=>?_⟩
  ·have hi':i<p.rules.length:=by simpa using h6
   have hsl:(EX p (p.rules.getD i default) l a).1<=l.length:=MV
   have hog:=Z5 hsl
   conv=>whnf
   refine .mk (by simp only[Rw.rng] at *; omega) ?_
   conv=>whnf
   refine ah.pure (S.Nk p l a i f g hp hi' hin hR hA (by omega)) rfl ?_
   rw[YK]
   conv=>whnf
   refine⟨fun h7=>?_,fun h7=>?_⟩
   ·have Yc:decide (orM l.length (EX p (p.rules.getD i default) l a).1>=0)=true:=h7
    conv=>whnf
    refine au.bool ?_
    rw[hog] at Yc
    have h8:y8 p l a (p.rules.getD i default)=false:=by rw[y8]; simpa only[Bool.not_eq_true'] using Yc
    rw[mM (p:=y8 p l a) (d:=default) hi' h8]; rfl
   ·have Yc:decide (orM l.length (EX p (p.rules.getD i default) l a).1>=0)=false:=h7
    conv=>whnf
    refine .mk (by simp only[okI] at *; omega) ?_
    conv=>whnf
    rw[hog] at Yc
    have h8:y8 p l a (p.rules.getD i default)=true:=by rw[y8]; simpa only[Bool.not_eq_false'] using Yc
    refine⟨i+1,⟨by omega,?_⟩,by omega,⟨⟨_,rfl,rfl⟩,trivial⟩,?_,rfl⟩
    ·rw[nG (d:=default) hi' hall]; exact h8
    ·repeat' (first|exact trivial|exact⟨_,rfl,rfl⟩|constructor)
  ·have hi':p.rules.length<=i:=by simpa using h6
   rw[List.take_of_length_le hi'] at hall
   rw[hall]
   conv=>whnf
   refine ah.pure (S.iw l a f g (by omega) (by omega)) rfl ?_
   conv=>whnf
   conv=>whnf
   refine ah.pure (S.jw p q (l++a) false hp hq (hla.small hF.states hF.values) hF (Wn hv hk) hla) rfl ?_
   rw[aaN]
   conv=>whnf
   refine au.bool ?_
   cases Wp p q (l++a)<;>rfl
end Go.Proofs.YtbfhebmdcpmfaaaGreatDoor
