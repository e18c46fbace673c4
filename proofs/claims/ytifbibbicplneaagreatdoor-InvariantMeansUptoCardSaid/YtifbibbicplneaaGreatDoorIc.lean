/-
 A part of the proof. No condition.
-/
import Derived.Test.YtifbibbicplneaaGreatDoorIb
namespace Go.Proofs.YtifbibbicplneaaGreatDoor
open Go.Ab Go.Proofs
set_option maxRecDepth 100000
theorem ah.row{l:List Clause}{f:Bool}{es:List (Int×List Bool)}{e:Elem}{h:Hz}{i j n:Nat}{K:V->Hz->Prop}{KW:Nat->V->Hz->Prop}(hsm:SmallK l)(ht:GZ l e)(hg:lg e.counts.length l es)(hi:h.get i=some (Ea l f j))(hj:h.get j=some (CW es))(hij:i≠j)(hn:h.get n=none)(hin:n≠i)(hjn:n≠j)
  (hK: ∀ es',lg e.counts.length l es'->K (.row 0 false (.bools (lq l e))) ((j,some (CW es'))::h)):ah Tryz.prog false none 58 [.ptr i 0 0,.dat (.elem e)] h n K KW:=by
 refine ah.abM (ts:=[.ptr 0 0 0,.dat (.elem e)]) (o0:=Ea l f 1) (XY:=Ea l f j) (o1:=CW es) (post:=fun t hp=> ∃ es',lg e.counts.length l es'/\t=(V.row 0 false (.bools (lq l e))).aH/\hp=Hz.au (hT l f es')) (S.Vr l f es e hsm ht hg) ?_ rfl rfl rfl ?_ hi hj hij hn hin hjn ?_
 ·rfl
 ·rfl
 ·rintro t hp ⟨es',hg',rfl,rfl⟩
  exact⟨.row 0 false (.bools (lq l e)),CW es',rfl,rfl,rfl,rfl,hK es' hg'⟩
theorem Vu{n:Nat}: ∀ {h:Hz},(h.all fun p=>Nat.blt p.1 n)=true-> ∀ m,n<=m->h.get m=none:=by
 intro h
 induction h with
 |nil=>intro _ m _; rfl
 |cons p r ih =>
  obtain⟨j,o⟩:=p
  intro q m hm
  simp only[List.all_cons,Bool.and_eq_true,Nat.blt_eq] at q
  simp only[Hz.get]
  have:Nat.beq j m=false:=by
   cases hb:Nat.beq j m with
   |false=>rfl
   |true=>have:=Nat.eq_of_beq_eq_true hb; omega
  rw[this]; exact ih q.2 m hm
theorem ah.Ee{l:List Clause}{f:Bool}{h:Hz}{n:Nat}{K:V->Hz->Prop}{KW:Nat->V->Hz->Prop}(hsm:SmallK l)(hn:(h.all fun p=>Nat.blt p.1 n)=true)(hK:KW 1 (.ptr n 0 0) ((n,some (Ea l f (n+1)))::(n+1,some (CW []))::h)):ah Tryz.prog false none 55 [.row 4 f (.clauses l)] h n K KW :=
 ah.new2 (_v:=.ptr 0 0 0) (S.jK l f hsm) rfl rfl (by rfl) ⟨⟨trivial,trivial,by show(1:Nat)<2; decide,trivial⟩,trivial⟩ (Vu hn) hK
theorem ah.ZQ{P:Program}{dr:Bool}{f:FuncId}{args:List V}{h:Hz}{n:Nat}{K:V->Hz->Prop}{KW:Nat->V->Hz->Prop}(v:V)(hf:v.free=true)(hK:K v h):ah P dr (some false) f args h n K KW:=⟨.inl (.inl ⟨v,(fun e=>by cases e),hf,hK⟩)⟩
theorem ah.on{P:Program}{f:FuncId}{args:List V}{h:Hz}{n:Nat}{K:V->Hz->Prop}{KW':Nat->V->Hz->Prop}(H:ah P false none f args h n K fun _ _ _=>False):ah P false (some true) f args h n K KW':=by
 rcases H.ok with H|⟨_,_,k,⟨_,_,_,_,_,_,hk⟩,_⟩|⟨_,e,_⟩
 ·exact⟨.inl (.inr ⟨rfl,fun _=>aU.mono H fun t hp ⟨v,h',a,b,_,c⟩=>⟨v,h',a,b,c⟩,fun e=>by cases e⟩)⟩
 ·exact hk.elim
 ·cases e
theorem FI(n:Nat): ∃ r:Rw,(bif isZero (.int n) then some Rw.nil else Xu (n:Int).toNat (T.bool false))=some r/\r.aX=(Rw.bools (List.replicate n false)).aX:=by
 cases n with
 |zero=>exact⟨.nil,rfl,rfl⟩
 |succ k=>exact⟨.bools (List.replicate (k+1) false),rfl,rfl⟩
theorem A8:aV [nI zE] [T.agg [.int 0,.sl 0 true []]]:=fun Z h=>by
 show T.dH Z h [.agg [.int 0,.sl 0 false []]] [.agg [.int 0,.sl 0 true []]]
 simp[T.sub,T.dH]
theorem ak.zeroE{k:Int}{h:Hz}:ak (.fA [.int k,.dat (.elem zE)]) (.fA [.int k,.agg [.int 0,.row 0 true .nil]]) h:=⟨by
 show T.sub _ _ (.fA [.int k,.agg [.int 0,.sl 0 false []]]) (.fA [.int k,.agg [.int 0,.sl 0 true []]])
 simp[T.sub,T.dH]⟩
theorem I8{l:List Clause}{x:Elem}:FH (lq l x)=bif decide (aZ l x<l.length) then((aZ l x:Nat):Int) else -1:=by
 rw[FH,Ve,sS]
theorem step_cond{F n s:Nat}{t:Bool}{f:Int}(hf:f=bif decide (F<n) then(F:Int) else -1):(decide (0<=f)&&(decide (f<(s:Int))||(f==(s:Int)&&t)))=(decide (F<n)&&(decide (F<s)||F==s&&t)):=by
 subst hf
 cases h:decide (F<n) with
 |false=>rfl
 |true =>
  simp only[cond_true]
  rw[show decide (0<=(F:Int))=true from decide_eq_true (by omega),show decide ((F:Int)<s)=decide (F<s) from decide_eq_decide.2 ⟨fun h=>by omega,fun h=>by omega⟩]
  rw[show((F:Int)==(s:Int))=(F==s) from by
   rw[Bool.eq_iff_iff,beq_iff_eq,beq_iff_eq]; exact⟨fun h=>by omega,fun h=>by omega⟩]
theorem Vw{fire:Elem->Option Elem}{l a:List Clause}{s:Nat×Elem}{e:Elem}{n:Nat}(h:s.2.counts.length<=n)(he:e.counts.length<=n):(stepG fire l a s e).2.counts.length<=n:=by
 unfold stepG
 split
 ·exact h
 ·cases (dh l e&&dh a e&&(decide (aZ l _<l.length)&&(decide (aZ l _<s.1)||aZ l _==s.1&&decide (dK e<dK s.2)))) with
  |false=>exact h
  |true=>exact he
theorem La{fire:Elem->Option Elem}{l a:List Clause}{n:Nat}: ∀ {es:List Elem} {s:Nat×Elem},s.2.counts.length<=n->(∀ e∈es,e.counts.length<=n)->(es.foldl (stepG fire l a) s).2.counts.length<=n:=by
 intro es
 induction es with
 |nil=>intro s h _; exact h
 |cons e es ih=>intro s h he; exact ih (Vw h (he e (by simp))) fun x hx=>he x (List.mem_cons_of_mem _ hx)
set_option maxHeartbeats 2000000 in
theorem S.iD(p:aP)(r:Rule)(l a:List Clause)(n vals:Nat)(f g:Bool)(hp:bH p)(hr:vF r)(hn:p.states.length=n)(hn0:0<n)(DY:n<=6)(hvs:max 1 p.values.length=vals)(rJ:vals<=3)(hF:Xx n p r)(hl:jq n p.values.length l)(ha:jq n p.values.length a)(hs:l.length+a.length<=1000)(rk:Nat)(hrk:bI (l++a)=rk) :
  aj Tryz.prog 63 [.dat (.bW p),.dat (.rule r),.row 4 f (.clauses l),.row 4 g (.clauses a)] (.fA [.int (orM l.length (DN (bF r) l a (eH (rk+3) n vals)).1),.dat (.elem (bif (DN (bF r) l a (eH (rk+3) n vals)).1==l.length then zE else(DN (bF r) l a (eH (rk+3) n vals)).2))]):=by
 have hla:=hl.app ha hs
 have hsm:=hla.small DY (by omega)
 have ZR:bI (l++a)<=3:=nK fun k hk=>(hla.cl k hk).two
 have hsl:=hl.len; have hsa:=ha.len
 have hlen:(l++a).length=l.length+a.length:=List.length_append
 have hU:aj Tryz.prog 70 [.dat (.bW p),.int (bI (l++a)+2)] (.row 3 false (.elems (eH (rk+3) n vals))):=by
  have:=S.fP p n vals (rk+2) hp hn hn0 DY hvs rJ (by omega)
  rw[hrk]; exact this
 have G6:(eH (rk+3) n vals).length<=3*531441:=by
  rw[oU]
  have:=o8 (b:=rk+3) (n:=n) (by omega) DY
  exact Nat.mul_le_mul rJ (by omega)
 have hok:=wQ (b:=rk+3) (n:=n) (vals:=vals) (by omega)
 have OU:rk+3<=9:=by omega
 generalize eH (rk+3) n vals=es at hU G6 hok ⊢
 have hblt:Nat.blt (FD r.kind) 4096=true:=by
  rcases hF.kind with h|h|h<;>rw[FD,h]<;>rfl
 have hst: ∀ i,(((es.take i).foldl (stepG (bF r) l a) (l.length,zE)).1)<=l.length:=fun i=>D8 (fire:=bF r) (l:=l) (a:=a) (es:=es.take i)
 have hnx: ∀ {i:Nat},i<es.length->(es.take (i+1)).foldl (stepG (bF r) l a) (l.length,zE)=stepG (bF r) l a ((es.take i).foldl (stepG (bF r) l a) (l.length,zE)) (es.getD i default):=fun hi=>yX hi
 have hend:DN (bF r) l a es=(es.take es.length).foldl (stepG (bF r) l a) (l.length,zE):=by rw[List.take_length]; rfl
 rw[hend]
 refine aj.of Bd.iD (by simp) rfl rfl ?_
 conv=>whnf
 refine ah.pure (S.jB l a f g (by omega) (by omega)) rfl ?_
 conv=>whnf
 conv=>whnf
 refine ah.Ee hsm rfl ?_
 conv=>whnf
 obtain⟨rb,hrb,hrL⟩:=FI (l++a).length
 rw[hrb]
 conv=>whnf
 refine .mk (by omega) ?_
 conv=>whnf
 refine ah.pure (S.lI r.kind) rfl ?_
 conv=>whnf
 refine .mk (by simp only[okI] at *; omega) ?_
 conv=>whnf
 conv=>whnf
 refine ah.pure (hU) rfl ?_
 conv=>whnf
 refine aC.vH (ι:=Nat×List (Int×List Bool)) 100 [2,5,9,10,11,12,14,41,42] (fun x=>[(43,.int x.1),(13,.int (((es.take x.1).foldl (stepG (bF r) l a) (l.length,zE)).1:Nat))]) (fun x=>[(1,.box 107 19 (.dat (.rule r))),(3,.box 41 3 (.agg [.int 0,.row 0 true .nil])),(7,Ea (l++a) false 8),(8,CW x.2),(15,rowB (List.replicate (l++a).length false)),(24,.box 41 3 (.dat (.elem ((es.take x.1).foldl (stepG (bF r) l a) (l.length,zE)).2)))]) (fun x=>x.1<=es.length/\lg n (l++a) x.2) (fun x=>es.length-x.1) (0,[]) [1,3,7,8,15,24] rfl (by decide) (fun _=>rfl) ⟨Nat.zero_le _,lg.nil⟩ ?_ ?_ ?_
 ·exact⟨⟨_,rfl,.eq rfl⟩,⟨_,rfl,.eq rfl⟩,trivial⟩
 ·refine⟨okF rfl nofun rfl rfl rfl ⟨rfl,rfl⟩ rfl,okF rfl nofun rfl rfl rfl ⟨rfl,rfl⟩ rfl,⟨rfl,nofun,rfl,rfl,_,rfl,rfl,rfl,aV.of_eq rfl⟩,okF rfl nofun rfl rfl rfl ⟨rfl,rfl⟩ rfl,okF rfl nofun rfl rfl rfl ⟨rfl,rfl⟩ ?_,?_,trivial⟩
  ·show(Rw.bools (List.replicate (l++a).length false)).aX++[]=rb.aX++[]
   rw[hrL]
  ·exact⟨rfl,nofun,rfl,rfl,_,rfl,rfl,rfl,A8⟩
 conv=>whnf
 refine⟨⟨⟨_,rfl,.eq rfl⟩,⟨_,rfl,.eq rfl⟩,⟨_,rfl,.eq rfl⟩,⟨_,rfl,.eq rfl⟩,⟨_,rfl,.eq rfl⟩,⟨_,rfl,.eq rfl⟩,⟨_,rfl,.eq rfl⟩,⟨_,rfl,.eq rfl⟩,⟨_,rfl,.eq rfl⟩,trivial⟩,rfl,?_⟩
 rintro⟨i,em⟩ ⟨hi,hem⟩
 conv=>whnf
 refine⟨fun h3=>?_,fun h3=>?_⟩
 ·have hi':i<es.length:=by simpa using h3
  have hue:=hok _ (getM (d:=default) hi')
  have hnext:=hnx hi'
  have aeP:=hst i
  conv=>whnf
  refine .mk (by simp only[Rw.rng] at *; omega) ?_
  conv=>whnf
  rw[hblt]
  obtain⟨x,hS,hx⟩:=S.apply r (es.getD i default) hr (by rw[hue.len]; exact hF.place) (hue.yO OU) (by rw[hue.len]; exact DY) hF.kind
  conv=>whnf
  refine ah.pure hS rfl ?_
  cases hO:bF r (es.getD i default) with
  |none =>
   have hsg:(es.take (i+1)).foldl (stepG (bF r) l a) (l.length,zE)=(es.take i).foldl (stepG (bF r) l a) (l.length,zE):=by rw[hnext,stepG,hO]
   conv=>whnf
   refine .mk (by exact fun h=>⟨h,h⟩) ?_
   conv=>whnf
   refine ah.ZQ (.row 0 false (.bools [])) rfl ?_
   conv=>whnf
   refine .mk (by exact fun h=>⟨h,h⟩) ?_
   conv=>whnf
   refine ah.ZQ (.bool true) rfl ?_
   conv=>whnf
   repeat(refine VC.mk (by first|exact id|(intro h; rw[h]; rfl)) ?_; conv=>whnf)
   refine Fork.mk (fun _=>?_) (fun q=>absurd (q.symm.trans ((rfl:true=true))) Bool.false_ne_true)
   conv=>whnf
   refine .mk (by simp only[okI] at *; omega) ?_
   conv=>whnf
   refine⟨(i+1,em),[1,3,7,8,15,24],⟨by show i+1<=_; omega,hem⟩,by show es.length-(i+1)<es.length-i; omega,⟨⟨_,rfl,.eq rfl⟩,⟨_,rfl,.eq ?_⟩,trivial⟩,⟨⟨_,rfl,.eq rfl⟩,⟨_,rfl,.eq rfl⟩,⟨_,rfl,.eq rfl⟩,⟨_,rfl,.eq rfl⟩,⟨_,rfl,.eq rfl⟩,⟨_,rfl,.eq rfl⟩,⟨_,rfl,.eq rfl⟩,⟨_,rfl,.eq rfl⟩,⟨_,rfl,.eq rfl⟩,trivial⟩,okF rfl nofun rfl rfl rfl ⟨rfl,rfl⟩ rfl,okF rfl nofun rfl rfl rfl ⟨rfl,rfl⟩ rfl,⟨rfl,nofun,rfl,rfl,_,rfl,rfl,rfl,aV.of_eq rfl⟩,okF rfl nofun rfl rfl rfl ⟨rfl,rfl⟩ rfl,okF rfl nofun rfl rfl rfl ⟨rfl,rfl⟩ rfl,okF rfl nofun rfl rfl rfl ⟨rfl,rfl⟩ ?_,trivial⟩
   ·exact congrArg (fun s:Nat×Elem=>T.int ((s.1:Nat):Int)) hsg
   ·exact congrArg (fun s:Nat×Elem=>(OV.box 41 3 (.dat (.elem s.2))).aG.l) hsg
  |some y =>
   obtain rfl:=hx y hO
   have hxl:x.counts.length=n:=by rw[KL hO,hue.len]
   have hxv:0<=x.value/\x.value<=1048576:=by
    rw[XW hO,Ed]
    have h1:=hue.val
    cases hw:decide (r.write>=0) with
    |false=>show 0<=(es.getD i default).value/\(es.getD i default).value<=1048576; omega
    |true =>
     rcases hF.wr with h2|h2
     ·obtain⟨w1,w2⟩:=uJ h2
      show 0<=r.write/\r.write<=1048576; omega
     ·rw[h2] at hw; exact absurd hw (by decide)
   have hte:=hla.at hue OU rJ hn0 DY
   have htx:=hla.tab hxl (TW (hue.nn OU) (by rw[hue.len]; exact DY) hO) hn0 DY hxv
   have tC:(es.getD i default).counts.length=n:=hue.len
   conv=>whnf
   refine .mk (by exact fun h=>⟨h,h⟩) ?_
   conv=>whnf
   refine ah.on (ah.row hsm hte (show lg (es.getD i default).counts.length (l++a) em by rw[tC]; exact hem) rfl rfl (by decide) rfl (by decide) (by decide) (fun Ry wM=>?_))
   replace wM:lg (es.getD i default).counts.length (l++a) Ry:=wM
   rw[tC] at wM
   conv=>whnf
   refine .mk (by exact fun h=>⟨h,h⟩) ?_
   conv=>whnf
   refine ah.on (ah.lend (S.mW (lq (l++a) (es.getD i default)) (l++a).length false false (by rw[sS]; omega) (by rw[sS]; exact Nat.le_refl _)) ⟨aB _,OM trivial rfl,trivial⟩ rfl rfl ?_)
   rw[TU,Vd]
   conv=>whnf
   repeat(refine VC.mk (by first|exact id|(intro h; rw[h]; rfl)) ?_; conv=>whnf)
   refine⟨fun h4=>?_,fun h4=>?_⟩
   ·have h4':(dh l (es.getD i default)&&dh a (es.getD i default))=false:=by
     have h5:(!(dh l (es.getD i default)&&dh a (es.getD i default)))=true:=h4
     simpa only[Bool.not_eq_true'] using h5
    have hsg:(es.take (i+1)).foldl (stepG (bF r) l a) (l.length,zE)=(es.take i).foldl (stepG (bF r) l a) (l.length,zE):=by rw[hnext,stepG,hO]; simp only; rw[h4']; rfl
    conv=>whnf
    refine .mk (by simp only[okI] at *; omega) ?_
    conv=>whnf
    refine⟨(i+1,Ry),[1,3,7,8,15,24],⟨by show i+1<=_; omega,wM⟩,by show es.length-(i+1)<es.length-i; omega,⟨⟨_,rfl,.eq rfl⟩,⟨_,rfl,.eq ?_⟩,trivial⟩,⟨⟨_,rfl,.eq rfl⟩,⟨_,rfl,.eq rfl⟩,⟨_,rfl,.eq rfl⟩,⟨_,rfl,.eq rfl⟩,⟨_,rfl,.eq rfl⟩,⟨_,rfl,.eq rfl⟩,⟨_,rfl,.eq rfl⟩,⟨_,rfl,.eq rfl⟩,⟨_,rfl,.eq rfl⟩,trivial⟩,okF rfl nofun rfl rfl rfl ⟨rfl,rfl⟩ rfl,okF rfl nofun rfl rfl rfl ⟨rfl,rfl⟩ rfl,⟨rfl,nofun,rfl,rfl,_,rfl,rfl,rfl,aV.of_eq rfl⟩,okF rfl nofun rfl rfl rfl ⟨rfl,rfl⟩ rfl,okF rfl nofun rfl rfl rfl ⟨rfl,rfl⟩ rfl,okF rfl nofun rfl rfl rfl ⟨rfl,rfl⟩ ?_,trivial⟩
    ·exact congrArg (fun s:Nat×Elem=>T.int ((s.1:Nat):Int)) hsg
    ·exact congrArg (fun s:Nat×Elem=>(OV.box 41 3 (.dat (.elem s.2))).aG.l) hsg
   have h4':(dh l (es.getD i default)&&dh a (es.getD i default))=true:=by
    have h5:(!(dh l (es.getD i default)&&dh a (es.getD i default)))=false:=h4
    simpa only[Bool.not_eq_false'] using h5
   have hfi:=I8 (l:=l) (x:=x)
   have hlen2:((es.take i).foldl (stepG (bF r) l a) (l.length,zE)).2.counts.length<=6:=La (show(0:Nat)<=6 by decide) fun e he=>by rw[(hok e (List.mem_of_mem_take he)).len]; exact DY
   conv=>whnf
   refine ah.row hsm htx (show lg x.counts.length (l++a) Ry by rw[hxl]; exact wM) rfl rfl (by decide) rfl (by decide) (by decide) (fun em2 XZ=>?_)
   replace XZ:lg x.counts.length (l++a) em2:=XZ
   rw[hxl] at XZ
   conv=>whnf
   refine .mk (by show 0<=(l.length:Int)/\(l.length:Int)<=(lq (l++a) x).length; rw[sS]; omega) ?_
   conv=>whnf
   refine ah.pure (S.I7 ((lq (l++a) x).take l.length) false (by rw[OH,sS]; omega)) rfl ?_
   conv=>whnf
   repeat(refine VC.mk (by first|exact id|exact fun h=>⟨h,h⟩) ?_; conv=>whnf)
   rw[OH]
   conv=>whnf
   refine ah.cO (fun _=>S.gU (es.getD i default) (by rw[tC]; omega)) rfl ?_
   conv=>whnf
   refine VC.mk id ?_
   conv=>whnf
   refine ah.cO (fun _=>S.gU ((es.take i).foldl (stepG (bF r) l a) (l.length,zE)).2 (by omega)) rfl ?_
   conv=>whnf
   repeat(refine VC.mk (by first|exact id|exact fun h=>⟨h,h⟩|(intro h; simp[h]; done)|(intro h; simp_all; done)) ?_; conv=>whnf)
   generalize hS:(es.take i).foldl (stepG (bF r) l a) (l.length,zE)=s at *
   have hsc:=step_cond (n:=l.length) (s:=s.1) (t:=decide (dK (es.getD i default)<dK s.2)) hfi
   have N7:stepG (bF r) l a s (es.getD i default)=bif decide (aZ l x<l.length)&&(decide (aZ l x<s.1)||aZ l x==s.1&&decide (dK (es.getD i default)<dK s.2)) then(aZ l x,es.getD i default) else s:=by
    rw[stepG,hO]; simp only; rw[h4',Bool.true_and]
   refine⟨fun h5=>?_,fun h5=>?_⟩
   ·have h5':(decide (aZ l x<l.length)&&(decide (aZ l x<s.1)||aZ l x==s.1&&decide (dK (es.getD i default)<dK s.2)))=true:=hsc▸h5
    rw[h5'] at N7
    rw[N7] at hnext
    have hlt:decide (aZ l x<l.length)=true:=(Bool.and_eq_true .. ▸h5').1
    rw[hlt] at hfi
    conv=>whnf
    refine .mk (by simp only[okI] at *; omega) ?_
    conv=>whnf
    refine⟨(i+1,em2),[1,3,7,8,15,24],⟨by show i+1<=_; omega,XZ⟩,by show es.length-(i+1)<es.length-i; omega,⟨⟨_,rfl,.eq rfl⟩,⟨_,rfl,.eq ?_⟩,trivial⟩,⟨⟨_,rfl,.eq rfl⟩,⟨_,rfl,.eq rfl⟩,⟨_,rfl,.eq rfl⟩,⟨_,rfl,.eq rfl⟩,⟨_,rfl,.eq rfl⟩,⟨_,rfl,.eq rfl⟩,⟨_,rfl,.eq rfl⟩,⟨_,rfl,.eq rfl⟩,⟨_,rfl,.eq rfl⟩,trivial⟩,okF rfl nofun rfl rfl rfl ⟨rfl,rfl⟩ rfl,okF rfl nofun rfl rfl rfl ⟨rfl,rfl⟩ rfl,⟨rfl,nofun,rfl,rfl,_,rfl,rfl,rfl,aV.of_eq rfl⟩,okF rfl nofun rfl rfl rfl ⟨rfl,rfl⟩ rfl,okF rfl nofun rfl rfl rfl ⟨rfl,rfl⟩ rfl,okF rfl nofun rfl rfl rfl ⟨rfl,rfl⟩ ?_,trivial⟩
    ·show T.int (((es.take (i+1)).foldl (stepG (bF r) l a) (l.length,zE)).1:Nat)=T.int (FH (lq l x))
     rw[hnext,hfi]; rfl
    ·exact congrArg (fun s:Nat×Elem=>(OV.box 41 3 (.dat (.elem s.2))).aG.l) hnext
   ·have h5':(decide (aZ l x<l.length)&&(decide (aZ l x<s.1)||aZ l x==s.1&&decide (dK (es.getD i default)<dK s.2)))=false:=hsc▸h5
    rw[h5'] at N7
    rw[N7] at hnext
    conv=>whnf
    refine .mk (by simp only[okI] at *; omega) ?_
    conv=>whnf
    refine⟨(i+1,em2),[1,3,7,8,15,24],⟨by show i+1<=_; omega,XZ⟩,by show es.length-(i+1)<es.length-i; omega,⟨⟨_,rfl,.eq rfl⟩,⟨_,rfl,.eq ?_⟩,trivial⟩,⟨⟨_,rfl,.eq rfl⟩,⟨_,rfl,.eq rfl⟩,⟨_,rfl,.eq rfl⟩,⟨_,rfl,.eq rfl⟩,⟨_,rfl,.eq rfl⟩,⟨_,rfl,.eq rfl⟩,⟨_,rfl,.eq rfl⟩,⟨_,rfl,.eq rfl⟩,⟨_,rfl,.eq rfl⟩,trivial⟩,okF rfl nofun rfl rfl rfl ⟨rfl,rfl⟩ rfl,okF rfl nofun rfl rfl rfl ⟨rfl,rfl⟩ rfl,⟨rfl,nofun,rfl,rfl,_,rfl,rfl,rfl,aV.of_eq rfl⟩,okF rfl nofun rfl rfl rfl ⟨rfl,rfl⟩ rfl,okF rfl nofun rfl rfl rfl ⟨rfl,rfl⟩ rfl,okF rfl nofun rfl rfl rfl ⟨rfl,rfl⟩ ?_,trivial⟩
    ·exact congrArg (fun s:Nat×Elem=>T.int ((s.1:Nat):Int)) hnext
    ·exact congrArg (fun s:Nat×Elem=>(OV.box 41 3 (.dat (.elem s.2))).aG.l) hnext
 ·have hi':i=es.length:=by have:es.length<=i:=(by simpa using h3); omega
  subst hi'
  generalize (es.take es.length).foldl (stepG (bF r) l a) (l.length,zE)=s
  conv=>whnf
  refine⟨fun h4=>?_,fun h4=>?_⟩
  ·have h4':(s.1==l.length)=true:=by
    have h5:((s.1:Int)==(l.length:Int))=true:=h4
    rw[beq_iff_eq] at h5 ⊢; omega
   conv=>whnf
   rw[orM,h4']
   exact ak.zeroE
  ·have h4':(s.1==l.length)=false:=by
    have h5:((s.1:Int)==(l.length:Int))=false:=h4
    rw[beq_eq_false_iff_ne] at h5 ⊢; omega
   conv=>whnf
   rw[orM,h4']
   exact ak.eqv rfl
abbrev boxS(f:Bool)(st:List Int):OV:=.box 24 0 (.row 0 f (.ints st))
theorem Rz{st:List Int}{e:Elem}:(!(jm st e))=(GU e.counts st||e.value !=0):=by
 rw[jm,Bool.not_and,Bool.not_not,bne]
theorem kW.ofS{f:Bool}{st:List Int}{h0 h:Hz}{n:Nat}{v u:V}{post:T->Hp->Prop}(Z:Nat->Prop)(hz: ¬ Z 0)(h00:(h0.au 0).isSome=true)(q0:h.get 0=some (boxS f st))(hu:u.free=true)(hv:T.sub Z h.au u.aH v.aH)(hp:post u.aH (Hz.au [(0,some (boxS f st))])):kW h0 n post v h:=by
 refine kW.Xc (h2:=[(0,some (boxS f st))]) (u:=u) Z ⟨dX (Z:=Z) q0 hz,trivial⟩ ?_ hu hv hp
 intro i o ho
 have hG:=qM (show xZ 1 [(0,some (boxS f st))]=true from rfl) i o.aG (aK ho)
 obtain rfl:i=0:=by have:=hG.1; omega
 exact⟨h00,T.ay (fun j hj=>by rw[show j=0 by omega]; exact h00) _ hG.2.1,hG.2.2⟩
theorem S.Gu(st:List Int)(f:Bool)(e:Elem)(hs:st.length<2^30)(he:e.counts.length<2^30):aU Tryz.prog 99 (V.aX [.dat (.elem e),.ptr 0 0 0]) (Hz.au [(0,some (boxS f st))]) 1 (fun t hp=>t= .bool (!(jm st e))/\hp=Hz.au [(0,some (boxS f st))]):=by
 refine rH.of (nx:=1) (h0:=[(0,some (boxS f st))]) Bd.nC (by simp) ⟨_,_,rfl,rfl⟩ rfl rfl ?_
 rw[Rz]
 conv=>whnf
 refine aC.same [1,2,7,8] (fun i:Nat=>[(9,.int i)]) (fun i=>i<=e.counts.length/\(List.range i).any (fun i=>decide (e.counts.getD i 0>0)&& !(rF st i))=false) (fun i=>e.counts.length-i) 0 rfl (by decide) rfl (fun _=>rfl) ⟨by omega,by simp⟩ ⟨⟨_,rfl,rfl⟩,trivial⟩ ?_
 conv=>whnf
 refine⟨rfl,?_⟩
 rintro i ⟨hi,hall⟩
 conv=>whnf
 refine⟨fun h3=>?_,fun h3=>?_⟩
 ·have hi':i<e.counts.length:=by simpa using h3
  conv=>whnf
  repeat(refine VC.mk (by first|exact fun h=>⟨h,h⟩|(simp only[Rw.rng] at *; omega)) ?_; conv=>whnf)
  refine ah.cO (fun _=>S.slices_Contains_int st i f (by omega)) rfl ?_
  conv=>whnf
  repeat(refine VC.mk id ?_; conv=>whnf)
  refine⟨fun h4=>?_,fun h4=>?_⟩
  ·conv=>whnf
   rw[show GU e.counts st=true from List.any_eq_true.2 ⟨i,List.mem_range.2 hi',h4⟩]
   exact kW.ofS (u:=.bool true) (fun _=>False) (fun q=>q) rfl rfl rfl (aB _) ⟨rfl,rfl⟩
  ·conv=>whnf
   refine .mk (by simp only[okI] at *; omega) ?_
   conv=>whnf
   refine⟨i+1,⟨by omega,?_⟩,by omega,⟨⟨_,rfl,rfl⟩,trivial⟩,?_,rfl⟩
   ·rw[List.range_succ,List.any_append,hall]
    show(false||((decide (e.counts.getD i 0>0)&& !(rF st i))||false))=false
    rw[show(decide (e.counts.getD i 0>0)&& !(rF st i))=false from h4]; rfl
   ·repeat' (first|exact trivial|exact⟨_,rfl,rfl⟩|constructor)
 ·have hi':i=e.counts.length:=by have:e.counts.length<=i:=(by simpa using h3); omega
  subst hi'
  rw[show GU e.counts st=false from hall]
  conv=>whnf
  exact kW.ofS (u:=.bool (e.value !=0)) (fun _=>False) (fun q=>q) rfl rfl rfl (aB _) ⟨rfl,rfl⟩
def G7(st:List Int):List Elem->Nat->Int
 |[],_=> -1
 |x::r,i=>bif !(jm st x) then(i:Int) else G7 st r (i+1)
abbrev hD(f:Bool)(st:List Int)(es:List Elem):Hz:=[(0,some (boxS f st)),(1,some (oV es))]
theorem S.Vx(st:List Int)(f:Bool)(es:List Elem)(hs:st.length<2^30)(hl:es.length<2^30)(he: ∀ e∈es,e.counts.length<2^30)(n:Nat):aU Tryz.prog 142 (V.aX [.own 1,.fn 99 [.ptr 0 0 0]]) (Hz.au (hD f st es)) n (fun t hp=>t= .int (G7 st es 0)/\hp=Hz.au (hD f st es)):=by
 refine rH.of (nx:=2) (h0:=hD f st es) Bd.dY (by simp) ⟨_,_,rfl,rfl⟩ rfl rfl ?_
 conv=>whnf
 refine aC.objs 2 [0,1,6,7] (fun i:Nat=>[(8,.int i)]) (fun _=>[(0,boxS f st),(1,oV es)]) (fun i=>i<=es.length/\G7 st es 0=G7 st (es.drop i) i) (fun i=>es.length-i) 0 [0,1] rfl (by decide) (fun _=>rfl) ⟨by omega,by simp⟩ ?_ ?_ ?_
 ·exact⟨⟨_,rfl,.eq rfl⟩,trivial⟩
 ·exact⟨⟨rfl,(fun _=>rfl),rfl,rfl,rfl,_,rfl,rfl,rfl,aV.of_eq rfl⟩,⟨rfl,(fun _=>rfl),rfl,rfl,rfl,_,rfl,rfl,rfl,aV.of_eq rfl⟩,trivial⟩
 conv=>whnf
 refine⟨⟨⟨_,rfl,.eq rfl⟩,⟨_,rfl,.eq rfl⟩,⟨_,rfl,.eq rfl⟩,⟨_,rfl,.eq rfl⟩,trivial⟩,rfl,?_⟩
 rintro i ⟨hi,hall⟩
 conv=>whnf
 refine⟨fun h3=>?_,fun h3=>?_⟩
 ·have hi':i<es.length:=by simpa using h3
  rw[bg default hi'] at hall
  simp only[G7] at hall
  conv=>whnf
  repeat(refine VC.mk (by simp only[Rw.rng,Int.toNat_natCast]; omega) ?_; conv=>whnf)
  refine ah.I4 (i:=0) (ts:=[.dat (.elem (es.getD i default)),.ptr 0 0 0]) (S.Gu st f (es.getD i default) hs (he _ (getM hi'))) (by rfl) (by rfl) (by rfl) (by rfl) (by rfl) (by rfl) ?_
  rintro t hp ⟨rfl,rfl⟩
  refine .inl ⟨.bool _,boxS f st,rfl,rfl,rfl,?_⟩
  conv=>whnf
  refine⟨fun h4=>?_,fun h4=>?_⟩
  ·conv=>whnf
   rw[h4] at hall
   exact kW.same (nx:=2) rfl ⟨rfl,rfl,trivial⟩ rfl rfl ⟨by rw[hall]; rfl,rfl⟩
  ·conv=>whnf
   refine .mk (by simp only[okI] at *; omega) ?_
   conv=>whnf
   rw[h4] at hall
   exact⟨i+1,[0,1],⟨by omega,hall⟩,by omega,⟨⟨_,rfl,.eq rfl⟩,trivial⟩,⟨⟨_,rfl,.eq rfl⟩,⟨_,rfl,.eq rfl⟩,⟨_,rfl,.eq rfl⟩,⟨_,rfl,.eq rfl⟩,trivial⟩,⟨rfl,(fun _=>rfl),rfl,rfl,rfl,_,rfl,rfl,rfl,aV.of_eq rfl⟩,⟨rfl,(fun _=>rfl),rfl,rfl,rfl,_,rfl,rfl,rfl,aV.of_eq rfl⟩,trivial⟩
 ·conv=>whnf
  have hi':es.length<=i:=by simpa using h3
  rw[List.drop_eq_nil_of_le hi'] at hall
  exact kW.same (nx:=2) rfl ⟨rfl,rfl,trivial⟩ rfl rfl ⟨by rw[hall]; rfl,rfl⟩
def dL(st:List Int)(es:List Elem):List Elem:=es.filter (jm st)
theorem ZT{st:List Int}: ∀ {es:List Elem} {i:Nat},G7 st es i= -1->dL st es=es:=by
 intro es
 induction es with
 |nil=>intro i _; rfl
 |cons x r ih =>
  intro i h
  simp only[G7] at h
  cases hb:jm st x with
  |false=>rw[hb] at h; simp at h
  |true=>rw[hb] at h; simp only[dL,List.filter_cons,hb,if_true]; exact congrArg _ (ih h)
theorem X0{st:List Int}: ∀ {es:List Elem} {i:Nat},G7 st es i≠ -1-> ∃ k,G7 st es i=((i+k:Nat):Int)/\k<es.length/\dL st (es.take k)=es.take k/\jm st (es.getD k default)=false:=by
 intro es
 induction es with
 |nil=>intro i h; exact absurd rfl h
 |cons x r ih =>
  intro i h
  simp only[G7] at h ⊢
  cases hb:jm st x with
  |false=>exact⟨0,by simp,by simp,rfl,by simpa using hb⟩
  |true =>
   rw[hb] at h
   obtain⟨k,h1,h2,h3,h4⟩:=ih h
   refine⟨k+1,by show G7 st r (i+1)=_; rw[h1]; omega,by simpa using h2,?_,by simpa using h4⟩
   simp only[dL,List.take_succ_cons,List.filter_cons,hb,if_true]; exact congrArg _ h3
theorem FK{st:List Int}{es:List Elem}{j:Nat}(hj:j<es.length):dL st (es.take (j+1))=bif jm st (es.getD j default) then dL st (es.take j)++[es.getD j default] else dL st (es.take j):=by
 have e:es[j]?.toList=[es.getD j default]:=by simp[hj]
 unfold dL
 rw[List.take_add_one,List.filter_append,e]
 cases hb:jm st (es.getD j default) with
 |true=>rw[List.filter_cons,hb]; rfl
 |false=>rw[List.filter_cons,hb]; simp
theorem I9{st:List Int}{es:List Elem}{j:Nat}:(dL st (es.take j)).length<=j:=by
 have:=List.length_filter_le (jm st) (es.take j)
 rw[List.length_take] at this
 unfold dL; omega
def midD(st:List Int)(es:List Elem)(j:Nat):List Elem:=dL st (es.take j)++es.drop (dL st (es.take j)).length
theorem X3{st:List Int}{es:List Elem}{j:Nat}(hj:j<=es.length):(midD st es j).length=es.length:=by
 have:=I9 (st:=st) (es:=es) (j:=j)
 simp[midD]; omega
theorem X4{st:List Int}{es:List Elem}{j k:Nat}(hk:j<=k):(midD st es j).getD k default=es.getD k default:=by
 have:=I9 (st:=st) (es:=es) (j:=j)
 unfold midD
 rw[List.getD_eq_getElem?_getD,List.getElem?_append_right (by omega),List.getElem?_drop]
 rw[show(dL st (es.take j)).length+(k-(dL st (es.take j)).length)=k by omega]
 rw[<- List.getD_eq_getElem?_getD]
theorem X5{st:List Int}{es:List Elem}{j:Nat}(hj:j<es.length)(hb:jm st (es.getD j default)=true):(midD st es j).set (dL st (es.take j)).length (es.getD j default)=midD st es (j+1):=by
 have h1:=I9 (st:=st) (es:=es) (j:=j)
 have h2:=FK (st:=st) hj
 rw[hb] at h2
 have h2':dL st (es.take (j+1))=dL st (es.take j)++[es.getD j default]:=h2
 unfold midD
 rw[h2',bg default (show(dL st (es.take j)).length<es.length by omega),Vl rfl]
 simp
theorem ah.drop2{P:Program}{f:FuncId}{ts args:List V}{h:Hz}{i j n:Nat}{o0 o1:OV}{K:V->Hz->Prop}{KW:Nat->V->Hz->Prop}{post:T->Hp->Prop}(H:aU P f (V.aX ts) (Hz.au [(0,some o0),(1,some o1)]) 2 post)
  (ha:T.dA (fun a=>bif Nat.beq a 0 then i else j) (V.aX ts)=V.aX args) (hid:T.Vy 2 (V.aX ts)=true) (hg:xZ 2 [(0,some o0),(1,some o1)]=true) (hf0:o0.MF=true) (hf:o1.MF=true)
  (hi:h.get i=some o0) (hj:h.get j=some o1) (hij:i≠j) (hn:h.get n=none) (hin:n≠i) (hjn:n≠j)
  (hK: ∀ t hp,post t hp-> ∃ v,hp=Hz.au [(0,some o0)]/\t=v.aH/\v.free=true/\K v ((j,none)::h)):ah P false none f args h n K KW:=by
 have hG:=qM hg
 have hlt: ∀ a:Nat,a<2->(Hz.au [(0,some o0),(1,some o1)] a).isSome=true:=fun a ha=>by
  rw[dP,uo]; by_cases e:a=0
  ·rw[if_pos e]; rfl
  ·rw[if_neg e,if_pos (by omega)]; rfl
 have hsome: ∀ a,(Hz.au [(0,some o0),(1,some o1)] a).isSome=true->a=0\/a=1:=fun a ha=>by
  rw[dP,uo] at ha; split at ha
  ·left; assumption
  ·split at ha
   ·right; assumption
   ·cases ha
 let ρ:Nat->Nat:=fun a=>bif Nat.beq a 0 then i else j
 have X6: ∀ a b,(Hz.au [(0,some o0),(1,some o1)] a).isSome=true->(Hz.au [(0,some o0),(1,some o1)] b).isSome=true->ρ a=ρ b->a=b:=by
  intro a b ha hb e
  rcases hsome a ha with rfl|rfl<;>rcases hsome b hb with rfl|rfl
  ·rfl
  ·exact absurd e hij
  ·exact absurd e.symm hij
  ·rfl
 have inj: ∀ a b,((Hz.au [(0,some o0),(1,some o1)] a).isSome=true\/a=2)->((Hz.au [(0,some o0),(1,some o1)] b).isSome=true\/b=2)->nameAt ρ 2 n a=nameAt ρ 2 n b->a=b:=by
  intro a b ha hb e
  rcases ha with ha|rfl
  ·rcases hb with hb|rfl
   ·rcases hsome a ha with rfl|rfl<;>rcases hsome b hb with rfl|rfl
    ·rfl
    ·exact absurd e hij
    ·exact absurd e.symm hij
    ·rfl
   ·rcases hsome a ha with rfl|rfl
    ·exact absurd e.symm hin
    ·exact absurd e.symm hjn
  ·rcases hb with hb|rfl
   ·rcases hsome b hb with rfl|rfl
    ·exact absurd e hin
    ·exact absurd e hjn
   ·rfl
 refine ah.heap (post:=fun t' h'=> ∃ t h1,post t h1/\t'=t.ren (nameAt ρ 2 n)/\h'=placed ρ 2 n (Hz.au [(0,some o0),(1,some o1)]) h.au h1) ?_ ?_
 ·rw[<- ha]
  refine aU.place H (T.ay hlt _ (Ef hid)) (fun a ob hob=>?_) (by rw[dP,uo]; rfl) (fun a ob hob=>?_) X6
  ·exact⟨T.ay hlt _ (hG a ob hob).2.1,(hG a ob hob).2.2⟩
  ·have hs:(Hz.au [(0,some o0),(1,some o1)] a).isSome=true:=by rw[hob]; rfl
   rcases hsome a hs with rfl|rfl
   ·rw[dP,if_pos rfl] at hob; cases hob
    show h.au i=_
    rw[aK hi,qO hf0]
   ·rw[dP,uo,if_neg (by decide),if_pos rfl] at hob; cases hob
    show h.au j=_
    rw[aK hj,qO hf]
 ·rintro t' h' ⟨t,h1,hp,rfl,rfl⟩
  obtain⟨v,rfl,rfl,hvf,hk⟩:=hK t h1 hp
  refine⟨v,_,Gv (V.kG v hvf) _,?_,hk⟩
  funext a
  rw[dP]
  have at0:placed ρ 2 n (Hz.au [(0,some o0),(1,some o1)]) h.au (Hz.au [(0,some o0)]) i=(Hz.au [(0,some o0)] 0).map (Ob.ren (nameAt ρ 2 n)):=pX (h:=h.au) (h1:=Hz.au [(0,some o0)]) inj (i:=0) (.inl (hlt 0 (by decide)))
  have at1:placed ρ 2 n (Hz.au [(0,some o0),(1,some o1)]) h.au (Hz.au [(0,some o0)]) j=(Hz.au [(0,some o0)] 1).map (Ob.ren (nameAt ρ 2 n)):=pX (h:=h.au) (h1:=Hz.au [(0,some o0)]) inj (i:=1) (.inl (hlt 1 (by decide)))
  have at2:placed ρ 2 n (Hz.au [(0,some o0),(1,some o1)]) h.au (Hz.au [(0,some o0)]) n=(Hz.au [(0,some o0)] 2).map (Ob.ren (nameAt ρ 2 n)):=pX (h:=h.au) (h1:=Hz.au [(0,some o0)]) inj (i:=2) (.inr rfl)
  by_cases e1:a=j
  ·subst e1; rw[if_pos rfl,at1,uo,if_neg (by decide)]; rfl
  ·rw[if_neg e1]
   by_cases e0:a=i
   ·subst e0
    rw[at0,uo,if_pos rfl,aK hi,Option.map_some,qO hf0]
   ·by_cases e2:a=n
    ·subst e2; rw[at2,uo,if_neg (by decide)]; simp only[Hz.au,hn]; rfl
    ·exact CX (by
      rintro⟨b,hb,e⟩
      rcases hb with hb|rfl
      ·rcases hsome b hb with rfl|rfl
       ·exact e0 e.symm
       ·exact e1 e.symm
      ·exact e2 e.symm)
theorem abN{h:Hz}{j k:Nat}{Z:Nat->Prop}{l:List Elem}{x:List V}(hz:Z j)(q:h.get j=some (.row 41 3 (.elems l) x))(hk:k<=l.length):T.sub Z h.au (V.row 3 false (.elems (l.take k))).aH (V.rY j 0 k).aH:=by
 show T.sub Z h.au (.sl 3 false ((l.take k).map nI)) (.rY j 0 k)
 simp only[T.sub]
 refine⟨trivial,hz,CV _,by decide,41,l.map nI++V.aX x,?_,by simp; omega,?_⟩
 ·rw[aK q]; rfl
 ·rw[List.drop_zero,List.take_append_of_le_length (by simp; omega),List.map_take]
set_option maxHeartbeats 1000000 in
theorem S.DeleteFunc(st:List Int)(f:Bool)(es:List Elem)(hs:st.length<2^30)(hl:es.length<2^30)(he: ∀ e∈es,e.counts.length<2^30)(n:Nat):aU Tryz.prog 98 (V.aX [.own 1,.fn 99 [.ptr 0 0 0]]) (Hz.au (hD f st es)) n (fun t hp=>t=(V.row 3 false (.elems (dL st es))).aH/\hp=Hz.au [(0,some (boxS f st))]):=by
 refine rH.of (nx:=2) (h0:=hD f st es) Bd.dV (by simp) ⟨_,_,rfl,rfl⟩ rfl rfl ?_
 conv=>whnf
 refine ah.heap (S.Vx st f es hs hl he _) ?_
 rintro t hp ⟨rfl,rfl⟩
 refine⟨.int _,hD f st es,rfl,rfl,?_⟩
 conv=>whnf
 refine⟨fun h1=>?_,fun h1=>?_⟩
 ·have hno:=ZT (st:=st) (es:=es) (i:=0) (by simpa using h1)
  conv=>whnf
  rw[hno]
  exact kW.ofS (u:=.row 3 false (.elems es)) (fun i=>i=1) (by decide) rfl rfl rfl (aa6 rfl rfl) ⟨rfl,rfl⟩
 obtain⟨k,hk1,hk2,hk3,hk4⟩:=X0 (st:=st) (es:=es) (i:=0) (by
  have h2:(G7 st es 0== -1)=false:=h1
  exact beq_eq_false_iff_ne.1 h2)
 rw[Nat.zero_add] at hk1
 rw[hk1]
 have hkn:=FK (st:=st) hk2
 rw[hk4] at hkn
 have hkn':dL st (es.take (k+1))=es.take k:=hkn.trans hk3
 conv=>whnf
 refine .mk (by simp only[okI]; omega) ?_
 conv=>whnf
 have adi:midD st es (k+1)=es:=by
  unfold midD
  rw[hkn',List.length_take,Nat.min_eq_left (by omega),List.take_append_drop]
 refine aC.objs 2 [0,1] (fun j:Nat=>[(6,.int j),(5,.int (dL st (es.take j)).length)]) (fun j=>[(0,boxS f st),(1,oV (midD st es j))]) (fun j=>k+1<=j/\j<=es.length/\(dL st (es.take j)).length<j) (fun j=>es.length-j) (k+1) [0,1] rfl (by decide) (fun _=>rfl) ⟨Nat.le_refl _,by omega,by rw[hkn',List.length_take]; omega⟩ ?_ ?_ ?_
 ·refine⟨⟨_,rfl,.eq rfl⟩,⟨_,rfl,.eq ?_⟩,trivial⟩
  show T.int ((dL st (es.take (k+1))).length:Nat)=T.int (k:Nat)
  rw[hkn',List.length_take,Nat.min_eq_left (by omega)]
 ·refine⟨⟨rfl,(fun _=>rfl),rfl,rfl,rfl,_,rfl,rfl,rfl,aV.of_eq rfl⟩,⟨rfl,(fun _=>rfl),rfl,rfl,rfl,_,rfl,rfl,rfl,aV.of_eq ?_⟩,trivial⟩
  rw[adi]
 conv=>whnf
 refine⟨⟨⟨_,rfl,.eq rfl⟩,⟨_,rfl,.eq rfl⟩,trivial⟩,rfl,?_⟩
 rintro j ⟨hj0,hj,hsj⟩
 have hml:=X3 (st:=st) hj
 conv=>whnf
 refine⟨fun h3=>?_,fun h3=>?_⟩
 ·have hj':j<es.length:=by
   have h4:(j:Int)<((midD st es j).length:Int):=of_decide_eq_true h3
   omega
  have hge:=X4 (st:=st) (es:=es) (j:=j) (k:=j) (Nat.le_refl _)
  have hst:=X5 (st:=st) hj'
  have hsn:=FK (st:=st) hj'
  conv=>whnf
  repeat(refine VC.mk (by simp only[Rw.rng,Int.toNat_natCast,hml]; omega) ?_; conv=>whnf)
  refine ah.I4 (i:=0) (ts:=[.dat (.elem ((midD st es j).getD j default)),.ptr 0 0 0]) (S.Gu st f ((midD st es j).getD j default) hs (by rw[hge]; exact he _ (getM hj'))) (by rfl) (by rfl) (by rfl) (by rfl) (by rfl) (by rfl) ?_
  rintro t hp ⟨rfl,rfl⟩
  refine .inl ⟨.bool _,boxS f st,rfl,rfl,rfl,?_⟩
  rw[hge]
  conv=>whnf
  refine⟨fun h4=>?_,fun h4=>?_⟩
  ·have h4':jm st (es.getD j default)=true:=by simpa using h4
   rw[h4'] at hsn
   have Vz:dL st (es.take (j+1))=dL st (es.take j)++[es.getD j default]:=hsn
   conv=>whnf
   repeat(refine VC.mk (by first|(simp only[Rw.rng,Int.toNat_natCast,hml]; omega)|(simp only[okI]; omega)) ?_; conv=>whnf)
   refine⟨j+1,[0,1],⟨by omega,by omega,by rw[Vz,List.length_append]; simp only[List.length_cons,List.length_nil]; omega⟩,by omega,⟨⟨_,rfl,.eq rfl⟩,⟨_,rfl,.eq ?_⟩,trivial⟩,⟨⟨_,rfl,.eq rfl⟩,⟨_,rfl,.eq rfl⟩,trivial⟩,⟨rfl,(fun _=>rfl),rfl,rfl,rfl,_,rfl,rfl,rfl,aV.of_eq rfl⟩,⟨rfl,(fun _=>rfl),rfl,rfl,rfl,_,rfl,rfl,rfl,aV.of_eq ?_⟩,trivial⟩
   ·show T.int ((dL st (es.take (j+1))).length:Nat)=T.int (((dL st (es.take j)).length:Int)+1)
    rw[Vz,List.length_append]; rfl
   ·show(oV (midD st es (j+1))).aG.l=(oV ((midD st es j).set (dL st (es.take j)).length ((midD st es j).getD j default))).aG.l
    rw[hge,hst h4']
  ·have h4':jm st (es.getD j default)=false:=by simpa using h4
   rw[h4'] at hsn
   have Vz:dL st (es.take (j+1))=dL st (es.take j):=hsn
   conv=>whnf
   refine .mk (by simp only[okI] at *; omega) ?_
   conv=>whnf
   refine⟨j+1,[0,1],⟨by omega,by omega,by rw[Vz]; omega⟩,by omega,⟨⟨_,rfl,.eq rfl⟩,⟨_,rfl,.eq ?_⟩,trivial⟩,⟨⟨_,rfl,.eq rfl⟩,⟨_,rfl,.eq rfl⟩,trivial⟩,⟨rfl,(fun _=>rfl),rfl,rfl,rfl,_,rfl,rfl,rfl,aV.of_eq rfl⟩,⟨rfl,(fun _=>rfl),rfl,rfl,rfl,_,rfl,rfl,rfl,aV.of_eq ?_⟩,trivial⟩
   ·rw[Vz]; rfl
   ·unfold midD; rw[Vz]
 ·have hj':j=es.length:=by
   have h4: ¬ (j:Int)<((midD st es j).length:Int):=of_decide_eq_false h3
   omega
  subst hj'
  have hall:dL st (es.take es.length)=dL st es:=by rw[List.take_length]
  have hle:(dL st (es.take es.length)).length<=es.length:=by omega
  conv=>whnf
  repeat(refine VC.mk (by first|(simp only[Rw.kK,hml]; omega)|(refine⟨?_,rfl⟩; show((dL st (es.take es.length)).length:Int).toNat<=(midD st es es.length).length; rw[hml,Int.toNat_natCast]; omega)|(show(0:Int)<=((dL st (es.take es.length)).length:Int)/\((dL st (es.take es.length)).length:Int)<=(((midD st es es.length).take ((dL st (es.take es.length)).length:Int).toNat).length:Int); rw[List.length_take,hml,Int.toNat_natCast]; omega)|(show _<=(midD st es es.length).length/\(midD st es es.length).length=(midD st es es.length).length; rw[hml]; simp only[Int.toNat_natCast]; omega)|(show(0:Int)<=_/\_<=(((midD st es es.length).take _).length:Int); rw[List.length_take,hml]; simp only[Int.toNat_natCast]; omega)) ?_; conv=>whnf)
  have htk:(midD st es es.length).take (dL st (es.take es.length)).length=dL st es:=by
   unfold midD; rw[List.take_left,hall]
  have aee:((midD st es es.length).take (dL st (es.take es.length)).length).take (dL st (es.take es.length)).length=dL st es:=by
   rw[List.take_take,Nat.min_self,htk]
  refine kW.ofS (u:=.row 3 false (.elems (dL st es))) (fun i=>i=1) (by decide) rfl rfl rfl ?_ ⟨rfl,rfl⟩
  rw[<- aee]
  exact abN (k:=(dL st (es.take es.length)).length) rfl rfl (by rw[List.length_take,hml]; omega)
theorem ah.delete{st:List Int}{f:Bool}{es:List Elem}{h:Hz}{i j n:Nat}{K:V->Hz->Prop}{KW:Nat->V->Hz->Prop}(hs:st.length<2^30)(hl:es.length<2^30)(he: ∀ e∈es,e.counts.length<2^30)(hi:h.get i=some (boxS f st))(hj:h.get j=some (oV es))(hij:i≠j)(hn:h.get n=none)(hin:n≠i)(hjn:n≠j)(hK:K (.row 3 false (.elems (dL st es))) ((j,none)::h)):ah Tryz.prog false none 98 [.own j,.fn 99 [.ptr i 0 0]] h n K KW:=by
 refine ah.drop2 (ts:=[.own 1,.fn 99 [.ptr 0 0 0]]) (o0:=boxS f st) (o1:=oV es) (S.DeleteFunc st f es hs hl he 2) rfl rfl rfl rfl rfl hi hj hij hn hin hjn ?_
 rintro t hp ⟨rfl,rfl⟩
 exact⟨.row 3 false (.elems (dL st es)),rfl,rfl,rfl,hK⟩
theorem wS{p:aP}(h:wJ p=0):yT p/\uj p=true:=by
 unfold wJ at h
 obtain⟨h1,h2⟩:=bz (fun _=>by decide) h
 rw[h2] at h1
 refine⟨abB h2,?_⟩
 have hm:(eP p).monadic=true:=by simpa using h1
 simp only[eP,Bool.and_eq_true] at hm
 exact hm.1
theorem Ja{p:aP}{q:Prop'}(h:um p q=0):jv p q=0/\wJ p=0/\q.kind=1:=by
 unfold um at h
 obtain⟨h1,h2⟩:=bz nz h
 have h3:=Fp h2 (by decide)
 rw[Bool.or_eq_false_iff] at h3
 exact⟨by simpa using h1,by simpa using h3.1,by simpa using h3.2⟩
def DL(l:List Clause):Nat:=(bI l).toNat
theorem MQ{l:List Clause}:bI l=DL l:=by have:=sQ (l:=l); unfold DL; omega
def iQ(p:aP):Nat:=max 1 p.values.length
def CY(p:aP)(q:Prop')(l:List Clause):List Elem:=dL (jk p q) (eH (DL l+3) p.states.length (iQ p))
theorem S.jL(p:aP)(q:Prop')(m:Nat)(hp:bH p)(hq:kC q)(hv:jv p q=0)(hF:yT p)(hm:m<=8):aj Tryz.prog 56 [.dat (.bW p),.dat (.prop q),.int m] (.row 3 false (.elems (dL (jk p q) (eH (m+1) p.states.length (iQ p))))):=by
 have h1:=hF.pos; have h2:=hF.states; have h3:=hF.values
 have rJ:iQ p<=3:=by unfold iQ; omega
 have hb0:0<m+1:=by omega
 have hok:=wQ (b:=m+1) (n:=p.states.length) (vals:=iQ p) hb0
 have G6:(eH (m+1) p.states.length (iQ p)).length<=3*531441:=by
  rw[oU]
  have:=o8 (b:=m+1) (n:=p.states.length) (by omega) h2
  exact Nat.mul_le_mul rJ (by omega)
 refine aj.of Bd.jL (by simp) rfl rfl ?_
 conv=>whnf
 refine ah.pure (S.mG p q hp hq hv) rfl ?_
 conv=>whnf
 conv=>whnf
 refine ah.mkRow (r:=.elems (eH (m+1) p.states.length (iQ p))) (S.Vo p p.states.length (iQ p) m hp rfl h1 h2 rfl rJ hm) ?_
 conv=>whnf
 refine ah.delete (f:=false) (st:=jk p q) (es:=eH (m+1) p.states.length (iQ p)) (KO hp hq) (by omega) (fun e he=>by rw[(hok e he).len]; omega) (by rfl) (by rfl) (by decide) (by rfl) (by decide) (by decide) ?_
 conv=>whnf
 exact ak.eqv rfl
def x8(p:aP)(q:Prop')(l:List Clause):Int:=bif um p q !=0 then um p q else iC p l
def VA(p:aP)(q:Prop')(l:List Clause):V:=.fA [.int (bif x8 p q l !=0 then 0 else orM l.length (wL l (CY p q l))),.int (x8 p q l)]
set_option maxHeartbeats 1000000 in
theorem S.fH(p:aP)(q:Prop')(l:List Clause)(f:Bool)(hp:bH p)(hq:kC q)(hl:SmallK l):aj Tryz.prog 17 [.dat (.bW p),.dat (.prop q),.row 4 f (.clauses l)] (VA p q l):=by
 refine aj.of Bd.fH (by simp) rfl rfl ?_
 conv=>whnf
 refine ah.pure (S.mM p q hp hq) rfl ?_
 conv=>whnf
 refine⟨fun h1=>?_,fun h1=>?_⟩
 ·have he:x8 p q l=um p q:=by rw[x8,show(um p q !=0)=true from h1]; rfl
  conv=>whnf
  exact ak.eqv (by rw[VA,he,show(um p q !=0)=true from h1]; rfl)
 have he:x8 p q l=iC p l:=by rw[x8,show(um p q !=0)=false from h1]; rfl
 conv=>whnf
 refine ah.lend (S.xH p l false f hp hl) ⟨aB _,OW trivial rfl rfl,trivial⟩ rfl rfl ?_
 conv=>whnf
 refine⟨fun h2=>?_,fun h2=>?_⟩
 ·conv=>whnf
  exact ak.eqv (by rw[VA,he,show(iC p l !=0)=true from h2]; rfl)
 obtain⟨hv,hin,_⟩:=Ja (uQ h1)
 obtain⟨hF,_⟩:=wS hin
 obtain⟨hR,X7⟩:=y5 (uQ h2)
 have g1:=hF.pos; have g2:=hF.states; have g3:=hF.values
 have hrk:=MQ (l:=l)
 have ZR:bI l<=3:=nK fun k hk=>(hR.cl k hk).two
 have hU:aj Tryz.prog 56 [.dat (.bW p),.dat (.prop q),.int (bI l+2)] (.row 3 false (.elems (CY p q l))):=by
  have:=S.jL p q (DL l+2) hp hq hv hF (by omega)
  rw[hrk]; exact this
 have hok: ∀ e∈CY p q l,IU (DL l+3) p.states.length (iQ p) e:=fun e he=>wQ (by omega) e (List.mem_filter.1 he).1
 have rJ:iQ p<=3:=by unfold iQ; omega
 have OU:DL l+3<=9:=by omega
 have G6:(CY p q l).length<=3*531441:=by
  refine Nat.le_trans (List.length_filter_le _ _) ?_
  rw[oU]
  have:=o8 (b:=DL l+3) (n:=p.states.length) OU g2
  exact Nat.mul_le_mul rJ (by omega)
 have hV:VA p q l= .fA [.int (orM l.length (wL l (CY p q l))),.int 0]:=by
  rw[VA,he,show(iC p l !=0)=false from h2,uQ h2]; rfl
 rw[hV]
 generalize CY p q l=es at hU hok G6 ⊢
 rw[<- XE]
 conv=>whnf
 refine ah.Ee hl rfl ?_
 conv=>whnf
 refine .mk (by simp only[okI]; omega) ?_
 conv=>whnf
 refine ah.pure (hU) rfl ?_
 conv=>whnf
 refine aC.vH (ι:=Nat×List (Int×List Bool)) 100 [2,10,39,40] (fun x=>[(41,.int x.1),(11,.int (CS l (es.take x.1):Nat))]) (fun x=>[(18,Ea l f 19),(19,CW x.2)]) (fun x=>x.1<=es.length/\lg p.states.length l x.2) (fun x=>es.length-x.1) (0,[]) [18,19] rfl (by decide) (fun _=>rfl) ⟨Nat.zero_le _,lg.nil⟩ ?_ ?_ ?_
 ·exact⟨⟨_,rfl,.eq rfl⟩,⟨_,rfl,.eq rfl⟩,trivial⟩
 ·exact⟨⟨rfl,nofun,rfl,rfl,_,rfl,rfl,rfl,aV.of_eq rfl⟩,okF rfl nofun rfl rfl rfl ⟨rfl,rfl⟩ rfl,trivial⟩
 conv=>whnf
 refine⟨⟨⟨_,rfl,.eq rfl⟩,⟨_,rfl,.eq rfl⟩,⟨_,rfl,.eq rfl⟩,⟨_,rfl,.eq rfl⟩,trivial⟩,rfl,?_⟩
 rintro⟨i,em⟩ ⟨hi,hem⟩
 conv=>whnf
 refine⟨fun h3=>?_,fun h3=>?_⟩
 ·have hi':i<es.length:=by simpa using h3
  have hue:=hok _ (getM (d:=default) hi')
  have hte:=hR.at hue OU rJ g1 g2
  have tC:(es.getD i default).counts.length=p.states.length:=hue.len
  have hnx:=Va (l:=l) hi'
  have hfi:=I8 (l:=l) (x:=es.getD i default)
  have hle:CS l (es.take i)<=l.length:=by rw[XE]; exact Rk
  have hk1:=hl.len
  conv=>whnf
  refine .mk (by simp only[Rw.rng] at *; omega) ?_
  conv=>whnf
  refine ah.row hl hte (show lg (es.getD i default).counts.length l em by rw[tC]; exact hem) rfl rfl (by decide) rfl (by decide) (by decide) (fun Ry wM=>?_)
  replace wM:lg (es.getD i default).counts.length l Ry:=wM
  rw[tC] at wM
  conv=>whnf
  refine ah.pure (S.I7 (lq l (es.getD i default)) false (by rw[sS]; omega)) rfl ?_
  conv=>whnf
  rw[hfi]
  cases hd:decide (aZ l (es.getD i default)<l.length) with
  |true =>
   conv=>whnf
   refine Fork.mk (fun _=>?_) (fun q=>absurd (q.symm.trans (decide_eq_true (show(0:Int)<=((aZ l (es.getD i default):Nat):Int) by omega))) Bool.false_ne_true)
   conv=>whnf
   refine .mk (by simp only[okI] at *; omega) ?_
   conv=>whnf
   conv=>whnf
   refine⟨(i+1,Ry),[18,19],⟨by show i+1<=_; omega,wM⟩,by show es.length-(i+1)<es.length-i; omega,⟨⟨_,rfl,.eq rfl⟩,⟨_,rfl,.eq ?_⟩,trivial⟩,⟨⟨_,rfl,.eq rfl⟩,⟨_,rfl,.eq rfl⟩,⟨_,rfl,.eq rfl⟩,⟨_,rfl,.eq rfl⟩,trivial⟩,⟨rfl,nofun,rfl,rfl,_,rfl,rfl,rfl,aV.of_eq rfl⟩,okF rfl nofun rfl rfl rfl ⟨rfl,rfl⟩ rfl,trivial⟩
   show T.int (CS l (es.take (i+1)):Nat)=T.int (min (CS l (es.take i):Int) (aZ l (es.getD i default):Nat))
   rw[hnx]; exact congrArg T.int (by omega)
  |false =>
   have hge:=of_decide_eq_false hd
   conv=>whnf
   refine Fork.mk (fun q=>absurd (q.symm.trans ((rfl:false=false))).symm Bool.false_ne_true) (fun _=>?_)
   conv=>whnf
   refine .mk (by simp only[okI] at *; omega) ?_
   conv=>whnf
   conv=>whnf
   refine⟨(i+1,Ry),[18,19],⟨by show i+1<=_; omega,wM⟩,by show es.length-(i+1)<es.length-i; omega,⟨⟨_,rfl,.eq rfl⟩,⟨_,rfl,.eq ?_⟩,trivial⟩,⟨⟨_,rfl,.eq rfl⟩,⟨_,rfl,.eq rfl⟩,⟨_,rfl,.eq rfl⟩,⟨_,rfl,.eq rfl⟩,trivial⟩,⟨rfl,nofun,rfl,rfl,_,rfl,rfl,rfl,aV.of_eq rfl⟩,okF rfl nofun rfl rfl rfl ⟨rfl,rfl⟩ rfl,trivial⟩
   show T.int (CS l (es.take (i+1)):Nat)=T.int (CS l (es.take i):Nat)
   rw[hnx,Nat.min_eq_left (by omega)]
 ·have hi':i=es.length:=by have:es.length<=i:=(by simpa using h3); omega
  subst hi'
  rw[List.take_length]
  conv=>whnf
  refine⟨fun h4=>?_,fun h4=>?_⟩
  ·have h4':(CS l es==l.length)=true:=by
    have h5:((CS l es:Int)==(l.length:Int))=true:=h4
    rw[beq_iff_eq] at h5 ⊢; omega
   conv=>whnf
   rw[orM,h4']
   exact ak.eqv rfl
  ·have h4':(CS l es==l.length)=false:=by
    have h5:((CS l es:Int)==(l.length:Int))=false:=h4
    rw[beq_eq_false_iff_ne] at h5 ⊢; omega
   conv=>whnf
   rw[orM,h4']
   exact ak.eqv rfl
def Aa(st c:List Int):Int:=(st.map fun x=>c.getD x.toNat 0).sum
def pG(q:Prop')(c:List Int):Bool:=q.bad.all fun k=>decide (k.least<=Aa k.states c)
structure X8(n:Nat)(q:Prop'):Prop where
 place: ∀ k∈q.bad,oK n k.states
 least: ∀ k∈q.bad,1<=k.least/\k.least<=3
 some: ∀ k∈q.bad,k.states≠[]
theorem Lc{st c:List Int}{i:Nat}(hi:i<st.length):Aa (st.take (i+1)) c=Aa (st.take i) c+c.getD (st.getD i 0).toNat 0:=by
 unfold Aa
 rw[List.take_add_one,List.map_append,List.sum_append]; simp[hi]
theorem OX{st c:List Int}(h:J5 8 c):0<=Aa st c/\Aa st c<=8*st.length:=by
 unfold Aa
 induction st with
 |nil=>simp
 |cons x r ih =>
  have:=h.g (by omega) x.toNat
  simp only[List.map_cons,List.sum_cons,List.length_cons]; omega
theorem getD_mem{α:Type}{l:List α}{i:Nat}{d:α}(hi:i<l.length):l.getD i d∈l:=by
 rw[show l.getD i d=l[i] by simp[hi]]; exact List.getElem_mem hi
theorem S.qP(q:Prop')(c:List Int)(f:Bool)(hq:kC q)(hb:X8 c.length q)(hc:J5 8 c)(_hl:c.length<2^30):aj Tryz.prog 111 [.dat (.prop q),.row 0 f (.ints c)] (.bool (pG q c)):=by
 have q2:=hq.bad
 refine aj.of Bd.qP (by simp) rfl rfl ?_
 conv=>whnf
 refine aC.same [1,2] (fun i:Nat=>[(5,.int i)]) (fun i=>i<=q.bad.length/\(q.bad.take i).all (fun k=>decide (k.least<=Aa k.states c))=true) (fun i=>q.bad.length-i) 0 rfl (by decide) rfl (fun _=>rfl) ⟨by omega,by simp⟩ ⟨⟨_,rfl,rfl⟩,trivial⟩ ?_
 conv=>whnf
 refine⟨rfl,?_⟩
 rintro i ⟨hi,hall⟩
 conv=>whnf
 refine⟨fun h3=>?_,fun h3=>?_⟩
 ·have hi':i<q.bad.length:=by simpa using h3
  have hk:=getD_mem (d:=default) hi'
  have hpl:=hb.place _ hk
  have hsz:=hq.cnt i
  conv=>whnf
  refine aC.same [1,2,5] (fun j:Nat=>[(7,.int j),(6,.int (Aa ((q.bad.getD i default).states.take j) c))]) (fun j=>j<=(q.bad.getD i default).states.length) (fun j=>(q.bad.getD i default).states.length-j) 0 rfl (by decide) rfl (fun _=>rfl) (Nat.zero_le _) ⟨⟨_,rfl,rfl⟩,⟨_,rfl,rfl⟩,trivial⟩ ?_
  conv=>whnf
  refine⟨rfl,?_⟩
  rintro j hj
  have hs1:=OX (st:=(q.bad.getD i default).states.take j) hc
  have hl1:((q.bad.getD i default).states.take j).length<=(q.bad.getD i default).states.length:=by rw[List.length_take]; omega
  conv=>whnf
  refine .mk (by simp only[Rw.rng] at *; omega) ?_
  conv=>whnf
  refine⟨fun h4=>?_,fun h4=>?_⟩
  ·have hj':j<(q.bad.getD i default).states.length:=by simpa using h4
   have hst:=Lc (c:=c) hj'
   have hg:=hc.g (by omega) ((q.bad.getD i default).states.getD j 0).toNat
   obtain⟨p1,p2⟩:=hpl _ (getD_mem (d:=0) hj')
   conv=>whnf
   repeat(refine VC.mk (by first|(simp only[Rw.rng,Int.toNat_natCast]; omega)|(simp only[okI,Int.toNat_natCast] at *; omega)) ?_; conv=>whnf)
   refine⟨j+1,by omega,by omega,⟨⟨_,rfl,rfl⟩,⟨_,rfl,?_⟩,trivial⟩,?_,rfl⟩
   ·rw[hst]; rfl
   ·repeat' (first|exact trivial|exact⟨_,rfl,rfl⟩|constructor)
  ·have hj':(q.bad.getD i default).states.length<=j:=by simpa using h4
   rw[List.take_of_length_le hj']
   conv=>whnf
   refine .mk (by simp only[Rw.rng] at *; omega) ?_
   conv=>whnf
   refine⟨fun h5=>?_,fun h5=>?_⟩
   ·conv=>whnf
    refine ak.bool ?_
    have: ¬ (q.bad.getD i default).least<=Aa (q.bad.getD i default).states c:=by
     simp only[Int.toNat_natCast] at h5
     have:=of_decide_eq_true h5; omega
    exact jJ (p:=fun k=>decide (k.least<=Aa k.states c)) (d:=default) hi' (decide_eq_false this)
   ·conv=>whnf
    refine .mk (by simp only[okI] at *; omega) ?_
    conv=>whnf
    have:(q.bad.getD i default).least<=Aa (q.bad.getD i default).states c:=by
     simp only[Int.toNat_natCast] at h5
     have:=of_decide_eq_false h5; omega
    refine⟨i+1,⟨by omega,?_⟩,by omega,⟨⟨_,rfl,rfl⟩,trivial⟩,?_,rfl⟩
    ·rw[iV (d:=default) hi' hall]; exact decide_eq_true this
    ·repeat' (first|exact trivial|exact⟨_,rfl,rfl⟩|constructor)
 ·have hi':q.bad.length<=i:=by simpa using h3
  rw[List.take_of_length_le hi'] at hall
  conv=>whnf
  exact ak.bool hall
theorem S.oW(q:Prop')(e:Elem)(hq:kC q)(hb:X8 e.counts.length q)(hc:J5 8 e.counts)(_hl:e.counts.length<2^30):aj Tryz.prog 109 [.dat (.prop q),.dat (.elem e)] (.bool (pG q e.counts)):=by
 have q2:=hq.bad
 refine aj.of Bd.oW (by simp) rfl rfl ?_
 conv=>whnf
 refine aC.same [3,11,12] (fun i:Nat=>[(13,.int i)]) (fun i=>i<=q.bad.length/\(q.bad.take i).all (fun k=>decide (k.least<=Aa k.states e.counts))=true) (fun i=>q.bad.length-i) 0 rfl (by decide) rfl (fun _=>rfl) ⟨by omega,by simp⟩ ⟨⟨_,rfl,rfl⟩,trivial⟩ ?_
 conv=>whnf
 refine⟨rfl,?_⟩
 rintro i ⟨hi,hall⟩
 conv=>whnf
 refine⟨fun h3=>?_,fun h3=>?_⟩
 ·have hi':i<q.bad.length:=by simpa using h3
  have hk:=getD_mem (d:=default) hi'
  have hpl:=hb.place _ hk
  have hsz:=hq.cnt i
  conv=>whnf
  refine .mk (by simp only[Rw.rng] at *; omega) ?_
  conv=>whnf
  refine aC.same [3,6,11,12,13,18,19] (fun j:Nat=>[(20,.int j),(7,.int (Aa ((q.bad.getD i default).states.take j) e.counts))]) (fun j=>j<=(q.bad.getD i default).states.length) (fun j=>(q.bad.getD i default).states.length-j) 0 rfl (by decide) rfl (fun _=>rfl) (Nat.zero_le _) ⟨⟨_,rfl,rfl⟩,⟨_,rfl,rfl⟩,trivial⟩ ?_
  conv=>whnf
  refine⟨rfl,?_⟩
  rintro j hj
  have hs1:=OX (st:=(q.bad.getD i default).states.take j) hc
  have hl1:((q.bad.getD i default).states.take j).length<=(q.bad.getD i default).states.length:=by rw[List.length_take]; omega
  conv=>whnf
  refine⟨fun h4=>?_,fun h4=>?_⟩
  ·have hj':j<(q.bad.getD i default).states.length:=by simpa using h4
   have hst:=Lc (c:=e.counts) hj'
   have hg:=hc.g (by omega) ((q.bad.getD i default).states.getD j 0).toNat
   obtain⟨p1,p2⟩:=hpl _ (getD_mem (d:=0) hj')
   conv=>whnf
   repeat(refine VC.mk (by first|(simp only[Rw.rng,Int.toNat_natCast]; omega)|(simp only[okI,Int.toNat_natCast] at *; omega)) ?_; conv=>whnf)
   refine⟨j+1,by omega,by omega,⟨⟨_,rfl,rfl⟩,⟨_,rfl,?_⟩,trivial⟩,?_,rfl⟩
   ·rw[hst]; rfl
   ·repeat' (first|exact trivial|exact⟨_,rfl,rfl⟩|constructor)
  ·have hj':(q.bad.getD i default).states.length<=j:=by simpa using h4
   rw[List.take_of_length_le hj']
   conv=>whnf
   refine⟨fun h5=>?_,fun h5=>?_⟩
   ·conv=>whnf
    refine ak.bool ?_
    have: ¬ (q.bad.getD i default).least<=Aa (q.bad.getD i default).states e.counts:=by
     simp only[Int.toNat_natCast] at h5
     have:=of_decide_eq_true h5; omega
    exact jJ (p:=fun k=>decide (k.least<=Aa k.states e.counts)) (d:=default) hi' (decide_eq_false this)
   ·conv=>whnf
    refine .mk (by simp only[okI] at *; omega) ?_
    conv=>whnf
    have:(q.bad.getD i default).least<=Aa (q.bad.getD i default).states e.counts:=by
     simp only[Int.toNat_natCast] at h5
     have:=of_decide_eq_false h5; omega
    refine⟨i+1,⟨by omega,?_⟩,by omega,⟨⟨_,rfl,rfl⟩,trivial⟩,?_,rfl⟩
    ·rw[iV (d:=default) hi' hall]; exact decide_eq_true this
    ·repeat' (first|exact trivial|exact⟨_,rfl,rfl⟩|constructor)
 ·have hi':q.bad.length<=i:=by simpa using h3
  rw[List.take_of_length_le hi'] at hall
  conv=>whnf
  exact ak.bool hall
theorem OY{p:aP}{q:Prop'}(hp:jv p q=0)(hk:q.kind=1):X8 p.states.length q:=by
 unfold jv at hp
 obtain⟨_,hp⟩:=bz nz hp
 obtain⟨_,hp⟩:=bz (fun _=>by decide) hp
 obtain⟨_,hp⟩:=bz (fun _=>by decide) hp
 obtain⟨_,hp⟩:=bz (fun _=>by decide) hp
 obtain⟨_,hp⟩:=bz nz hp
 obtain⟨_,hp⟩:=bz (fun _=>by decide) hp
 rw[show(!(q.kind==1))=false by simp[hk]] at hp
 have hcn:=jH hp (uK q.bad p.states.length) (by simp)
 have hall: ∀ k∈q.bad,JZ p.states.length k=0:=fun k hk=>jH hcn _ (List.mem_map.2 ⟨k,hk,rfl⟩)
 have hlb: ∀ k∈q.bad,oO k=false:=fun k hk=>Fp (jH (hall k hk) (bZ (oO k) 1) (by simp)) (by decide)
 refine⟨fun k hk=>AX (jH (hall k hk) (dO k.states p.states.length) (by simp)),fun k hk=>?_,fun k hk e=>?_⟩
 ·have:=hlb k hk
  simp only[oO,Bool.or_eq_false_iff,decide_eq_false_iff_not] at this; omega
 ·have:=hlb k hk
  rw[oO,e] at this; simp at this
def lgB(l:List Cnt):Int:=l.foldl (fun m k=>max m k.least) 0
theorem ZU{l:List Cnt}: ∀ {r:Int},0<=r->l.foldl (fun m k=>max m k.least) r=max r (lgB l):=by
 have: ∀ (l:List Cnt) (r s:Int),l.foldl (fun m k=>max m k.least) (max r s)=max r (l.foldl (fun m k=>max m k.least) s):=by
  intro l
  induction l with
  |nil=>intro r s; rfl
  |cons x l ih=>intro r s; rw[List.foldl_cons,List.foldl_cons,Int.max_assoc,ih]
 intro r hr
 have:=this l r 0
 rw[Int.max_eq_left hr] at this; exact this
theorem X9{l:List Cnt}(h: ∀ k∈l,1<=k.least/\k.least<=3):0<=lgB l/\lgB l<=3:=by
 have: ∀ (l:List Cnt) (r:Int),0<=r/\r<=3->(∀ k∈l,1<=k.least/\k.least<=3)->0<=l.foldl (fun m k=>max m k.least) r/\l.foldl (fun m k=>max m k.least) r<=3:=by
  intro l
  induction l with
  |nil=>intro r hr _; exact hr
  |cons x l ih=>intro r hr h; have:=h x (by simp); exact ih _ (show 0<=max r x.least/\max r x.least<=3 by omega) fun k hk=>h k (List.mem_cons_of_mem _ hk)
 exact this l 0 (by omega) h
theorem TY{l:List Cnt}{r:Int}{i:Nat}(hi:i<l.length):(l.take (i+1)).foldl (fun m k=>max m k.least) r=max ((l.take i).foldl (fun m k=>max m k.least) r) (l.getD i default).least:=by
 rw[List.take_add_one,List.foldl_append]; simp[hi]
def Ld(q:Prop')(l:List Clause):Nat:=(max (bI l) (lgB q.bad)).toNat
theorem Ya{q:Prop'}{l:List Clause}:max (bI l) (lgB q.bad)=Ld q l:=by have:=sQ (l:=l); unfold Ld; omega
def J6(p:aP)(q:Prop')(l:List Clause):Option Elem:=Vb (fun e=>pG q e.counts) l (eH (Ld q l+3) p.states.length (iQ p))
def VB(s:Option Elem):V:=.fA [.dat (.elem (s.getD zE)),.bool s.isSome]
theorem OZ{bad:Elem->Bool}{l:List Clause}{es:List Elem}{x:Elem}(h:es.foldl (tu bad l) none=some x):x∈es:=XF h
set_option maxHeartbeats 2000000 in
theorem S.jM(p:aP)(q:Prop')(l:List Clause)(f:Bool)(hp:bH p)(hq:kC q)(hl:SmallK l)(hF:yT p)(hB:X8 p.states.length q)(hR:jq p.states.length p.values.length l):aj Tryz.prog 67 [.dat (.bW p),.dat (.prop q),.row 4 f (.clauses l)] (VB (J6 p q l)):=by
 have g1:=hF.pos; have g2:=hF.states; have g3:=hF.values
 have q1:=hq.bad
 have hk1:=hl.len
 have rJ:iQ p<=3:=by unfold iQ; omega
 have ZR:bI l<=3:=nK fun k hk=>(hR.cl k hk).two
 have adk:=sQ (l:=l)
 have hlg:=X9 hB.least
 have hmd:=Ya (q:=q) (l:=l)
 have aeQ:Ld q l<=3:=by omega
 have OU:Ld q l+3<=9:=by omega
 have hU:aj Tryz.prog 70 [.dat (.bW p),.int (max (bI l) (lgB q.bad)+2)] (.row 3 false (.elems (eH (Ld q l+3) p.states.length (iQ p)))):=by
  have:=S.fP p p.states.length (iQ p) (Ld q l+2) hp rfl g1 g2 rfl rJ (by omega)
  rw[hmd]; exact this
 have hok:=wQ (b:=Ld q l+3) (n:=p.states.length) (vals:=iQ p) (by omega)
 have G6:(eH (Ld q l+3) p.states.length (iQ p)).length<=3*531441:=by
  rw[oU]
  have:=o8 (b:=Ld q l+3) (n:=p.states.length) OU g2
  exact Nat.mul_le_mul rJ (by omega)
 have hend:J6 p q l=Vb (fun e=>pG q e.counts) l (eH (Ld q l+3) p.states.length (iQ p)):=rfl
 rw[hend]
 generalize eH (Ld q l+3) p.states.length (iQ p)=es at hU G6 hok ⊢
 have hmem: ∀ i x,(es.take i).foldl (tu (fun e=>pG q e.counts) l) none=some x->x.counts.length=p.states.length:=fun i x h=>(hok x (List.mem_of_mem_take (OZ h))).len
 have O1:Vb (fun e=>pG q e.counts) l es=(es.take es.length).foldl (tu (fun e=>pG q e.counts) l) none:=by rw[List.take_length]; rfl
 rw[O1]
 refine aj.of Bd.jM (by simp) rfl (by rfl) ?_
 conv=>whnf
 refine ah.Ee hl rfl ?_
 conv=>whnf
 obtain⟨rb,hrb,hrL⟩:=FI l.length
 rw[hrb]
 conv=>whnf
 refine .mk (by omega) ?_
 conv=>whnf
 refine aC.vH 50 [3,4,6,8,9,26,27] (fun i:Nat=>[(28,.int i),(10,.int ((q.bad.take i).foldl (fun m k=>max m k.least) (bI l)))]) (fun _=>[(0,.box 27 11 (.dat (.bW p))),(1,.box 30 7 (.dat (.prop q))),(2,.box 41 3 (.agg [.int 0,.row 0 true .nil])),(5,Ea l f 6),(6,CW []),(10,rowB (List.replicate l.length false))]) (fun i=>i<=q.bad.length) (fun i=>q.bad.length-i) 0 [0,1,2,5,6,10] rfl (by decide) (fun _=>rfl) (Nat.zero_le _) ?_ ?_ ?_
 ·exact⟨⟨_,rfl,.eq rfl⟩,⟨_,rfl,.eq rfl⟩,trivial⟩
 ·refine⟨okF rfl nofun rfl rfl rfl ⟨rfl,rfl⟩ rfl,okF rfl nofun rfl rfl rfl ⟨rfl,rfl⟩ rfl,okF rfl nofun rfl rfl rfl ⟨rfl,rfl⟩ rfl,⟨rfl,nofun,rfl,rfl,_,rfl,rfl,rfl,aV.of_eq rfl⟩,okF rfl nofun rfl rfl rfl ⟨rfl,rfl⟩ rfl,okF rfl nofun rfl rfl rfl ⟨rfl,rfl⟩ ?_,trivial⟩
  show(Rw.bools (List.replicate l.length false)).aX++[]=rb.aX++[]
  rw[hrL]
 conv=>whnf
 refine⟨⟨⟨_,rfl,.eq rfl⟩,⟨_,rfl,.eq rfl⟩,⟨_,rfl,.eq rfl⟩,⟨_,rfl,.eq rfl⟩,⟨_,rfl,.eq rfl⟩,⟨_,rfl,.eq rfl⟩,⟨_,rfl,.eq rfl⟩,trivial⟩,rfl,?_⟩
 rintro i hi
 conv=>whnf
 refine⟨fun h3=>?_,fun h3=>?_⟩
 ·have hi':i<q.bad.length:=by simpa using h3
  have hlt:=TY (r:=bI l) hi'
  conv=>whnf
  repeat(refine VC.mk (by simp only[okI,Rw.rng] at *; omega) ?_; conv=>whnf)
  refine⟨i+1,[0,1,2,5,6,10],by omega,by omega,⟨⟨_,rfl,.eq rfl⟩,⟨_,rfl,.eq ?_⟩,trivial⟩,⟨⟨_,rfl,.eq rfl⟩,⟨_,rfl,.eq rfl⟩,⟨_,rfl,.eq rfl⟩,⟨_,rfl,.eq rfl⟩,⟨_,rfl,.eq rfl⟩,⟨_,rfl,.eq rfl⟩,⟨_,rfl,.eq rfl⟩,trivial⟩,okF rfl nofun rfl rfl rfl ⟨rfl,rfl⟩ rfl,okF rfl nofun rfl rfl rfl ⟨rfl,rfl⟩ rfl,okF rfl nofun rfl rfl rfl ⟨rfl,rfl⟩ rfl,⟨rfl,nofun,rfl,rfl,_,rfl,rfl,rfl,aV.of_eq rfl⟩,okF rfl nofun rfl rfl rfl ⟨rfl,rfl⟩ rfl,okF rfl nofun rfl rfl rfl ⟨rfl,rfl⟩ rfl,trivial⟩
  rw[hlt]; rfl
 have hi':i=q.bad.length:=by have:q.bad.length<=i:=(by simpa using h3); omega
 subst hi'
 rw[show q.bad.take q.bad.length=q.bad from List.take_length,ZU adk]
 conv=>whnf
 refine .mk (by simp only[okI]; omega) ?_
 conv=>whnf
 refine ah.pure (hU) rfl ?_
 conv=>whnf
 refine aC.vH (ι:=Nat×List (Int×List Bool)) 100 [4,6,8,9,13,40,41] (fun x=>[(42,.int x.1)]) (fun x=>[(1,.box 30 7 (.dat (.prop q))),(2,.box 41 3 (.agg [.int 0,.row 0 true .nil])),(5,Ea l f 6),(6,CW x.2),(10,rowB (List.replicate l.length false)),(51,.box 41 3 (.dat (.elem (((es.take x.1).foldl (tu (fun e=>pG q e.counts) l) none).getD zE))))]) (fun x=>x.1<=es.length/\lg p.states.length l x.2) (fun x=>es.length-x.1) (0,[]) [1,2,5,6,10,51] rfl (by decide) (fun _=>rfl) ⟨Nat.zero_le _,lg.nil⟩ ?_ ?_ ?_
 ·exact⟨⟨_,rfl,.eq rfl⟩,trivial⟩
 ·exact⟨okF rfl nofun rfl rfl rfl ⟨rfl,rfl⟩ rfl,okF rfl nofun rfl rfl rfl ⟨rfl,rfl⟩ rfl,⟨rfl,nofun,rfl,rfl,_,rfl,rfl,rfl,aV.of_eq rfl⟩,okF rfl nofun rfl rfl rfl ⟨rfl,rfl⟩ rfl,okF rfl nofun rfl rfl rfl ⟨rfl,rfl⟩ rfl,⟨rfl,nofun,rfl,rfl,_,rfl,rfl,rfl,A8⟩,trivial⟩
 conv=>whnf
 refine⟨⟨⟨_,rfl,.eq rfl⟩,⟨_,rfl,.eq rfl⟩,⟨_,rfl,.eq rfl⟩,⟨_,rfl,.eq rfl⟩,⟨_,rfl,.eq rfl⟩,⟨_,rfl,.eq rfl⟩,⟨_,rfl,.eq rfl⟩,trivial⟩,rfl,?_⟩
 rintro⟨i,em⟩ ⟨hi,hem⟩
 have AV:=hmem i
 conv=>whnf
 refine⟨fun h3=>?_,fun h3=>?_⟩
 ·have hi':i<es.length:=by simpa using h3
  have hue:=hok _ (getM (d:=default) hi')
  have hte:=hR.at hue OU rJ g1 g2
  have tC:(es.getD i default).counts.length=p.states.length:=hue.len
  have hnx:(es.take (i+1)).foldl (tu (fun e=>pG q e.counts) l) none=tu (fun e=>pG q e.counts) l ((es.take i).foldl (tu (fun e=>pG q e.counts) l) none) (es.getD i default):=yX hi'
  generalize (es.take i).foldl (tu (fun e=>pG q e.counts) l) none=s at *
  have hsl:(s.getD zE).counts.length<=6:=by
   cases s with
   |none=>exact show(0:Nat)<=6 by decide
   |some x=>have:=AV x rfl; show x.counts.length<=6; omega
  have hsn:(((s.getD zE).counts.length:Int)==0)=s.isNone:=by
   cases s with
   |none=>rfl
   |some x =>
    have:=AV x rfl
    show((x.counts.length:Int)==0)=false
    exact beq_eq_false_iff_ne.2 (by omega)
  conv=>whnf
  refine .mk (by simp only[Rw.rng] at *; omega) ?_
  conv=>whnf
  refine ah.pure (S.oW q (es.getD i default) hq (by rw[tC]; exact hB) (hue.nn OU) (by rw[tC]; omega)) rfl ?_
  conv=>whnf
  refine .mk (by exact fun h=>⟨h,h⟩) ?_
  conv=>whnf
  cases hD:pG q (es.getD i default).counts with
  |false =>
   have hsg:tu (fun e=>pG q e.counts) l s (es.getD i default)=s:=by rw[tu,hD]; rfl
   rw[hsg] at hnx
   refine ah.ZQ (.row 0 false (.bools [])) rfl ?_
   conv=>whnf
   refine .mk (by exact fun h=>⟨h,h⟩) ?_
   conv=>whnf
   refine ah.ZQ (.bool true) rfl ?_
   conv=>whnf
   repeat(refine VC.mk id ?_; conv=>whnf)
   refine ah.cO (fun _=>S.gU (es.getD i default) (by rw[tC]; omega)) rfl ?_
   conv=>whnf
   refine VC.mk id ?_
   conv=>whnf
   refine ah.cO (fun _=>S.gU (s.getD zE) (by omega)) rfl ?_
   conv=>whnf
   repeat(refine VC.mk (by first|exact id|exact fun h=>⟨h,h⟩|(intro h; simp_all; done)) ?_; conv=>whnf)
   refine Fork.mk (fun q=>absurd (q.symm.trans ((rfl:false=false))).symm Bool.false_ne_true) (fun _=>?_)
   conv=>whnf
   refine .mk (by simp only[okI] at *; omega) ?_
   conv=>whnf
   conv=>whnf
   refine⟨(i+1,em),[1,2,5,6,10,51],⟨by show i+1<=_; omega,hem⟩,by show es.length-(i+1)<es.length-i; omega,⟨⟨_,rfl,.eq rfl⟩,trivial⟩,⟨⟨_,rfl,.eq rfl⟩,⟨_,rfl,.eq rfl⟩,⟨_,rfl,.eq rfl⟩,⟨_,rfl,.eq rfl⟩,⟨_,rfl,.eq rfl⟩,⟨_,rfl,.eq rfl⟩,⟨_,rfl,.eq rfl⟩,trivial⟩,okF rfl nofun rfl rfl rfl ⟨rfl,rfl⟩ rfl,okF rfl nofun rfl rfl rfl ⟨rfl,rfl⟩ rfl,⟨rfl,nofun,rfl,rfl,_,rfl,rfl,rfl,aV.of_eq rfl⟩,okF rfl nofun rfl rfl rfl ⟨rfl,rfl⟩ rfl,okF rfl nofun rfl rfl rfl ⟨rfl,rfl⟩ rfl,okF rfl nofun rfl rfl rfl ⟨rfl,rfl⟩ ?_,trivial⟩
   exact congrArg (fun s:Option Elem=>(OV.box 41 3 (.dat (.elem (s.getD zE)))).aG.l) hnx
  |true =>
   have N7:tu (fun e=>pG q e.counts) l s (es.getD i default)=bif dh l (es.getD i default)&&(s.isNone||decide (dK (es.getD i default)<dK (s.getD zE))) then some (es.getD i default) else s:=by rw[tu,hD]; rfl
   refine ah.on (ah.row hl hte (show lg (es.getD i default).counts.length l em by rw[tC]; exact hem) rfl rfl (by decide) rfl (by decide) (by decide) (fun Ry wM=>?_))
   replace wM:lg (es.getD i default).counts.length l Ry:=wM
   rw[tC] at wM
   conv=>whnf
   refine .mk (by exact fun h=>⟨h,h⟩) ?_
   conv=>whnf
   refine ah.on (ah.lend (S.mW (lq l (es.getD i default)) l.length false false (by rw[sS]; omega) (by rw[sS]; exact Nat.le_refl _)) ⟨aB _,OM trivial rfl,trivial⟩ rfl rfl ?_)
   rw[TU]
   conv=>whnf
   repeat(refine VC.mk id ?_; conv=>whnf)
   refine ah.cO (fun _=>S.gU (es.getD i default) (by rw[tC]; omega)) rfl ?_
   conv=>whnf
   refine VC.mk id ?_
   conv=>whnf
   refine ah.cO (fun _=>S.gU (s.getD zE) (by omega)) rfl ?_
   conv=>whnf
   repeat(refine VC.mk (by first|exact id|exact fun h=>⟨h,h⟩|(intro h; simp_all; done)) ?_; conv=>whnf)
   refine⟨fun h5=>?_,fun h5=>?_⟩
   ·have h5':(dh l (es.getD i default)&&(s.isNone||decide (dK (es.getD i default)<dK (s.getD zE))))=true:=by rw[<- hsn]; exact h5
    rw[h5'] at N7
    rw[N7] at hnx
    have hfin:=congrArg (fun s:Option Elem=>(OV.box 41 3 (.dat (.elem (s.getD zE)))).aG.l) hnx
    conv=>whnf
    refine .mk (by simp only[okI] at *; omega) ?_
    conv=>whnf
    refine⟨(i+1,Ry),[1,2,5,6,10,51],⟨by show i+1<=_; omega,wM⟩,by show es.length-(i+1)<es.length-i; omega,⟨⟨_,rfl,.eq rfl⟩,trivial⟩,⟨⟨_,rfl,.eq rfl⟩,⟨_,rfl,.eq rfl⟩,⟨_,rfl,.eq rfl⟩,⟨_,rfl,.eq rfl⟩,⟨_,rfl,.eq rfl⟩,⟨_,rfl,.eq rfl⟩,⟨_,rfl,.eq rfl⟩,trivial⟩,okF rfl nofun rfl rfl rfl ⟨rfl,rfl⟩ rfl,okF rfl nofun rfl rfl rfl ⟨rfl,rfl⟩ rfl,⟨rfl,nofun,rfl,rfl,_,rfl,rfl,rfl,aV.of_eq rfl⟩,okF rfl nofun rfl rfl rfl ⟨rfl,rfl⟩ rfl,okF rfl nofun rfl rfl rfl ⟨rfl,rfl⟩ rfl,okF rfl nofun rfl rfl rfl ⟨rfl,rfl⟩ ?_,trivial⟩
    exact hfin
   ·have h5':(dh l (es.getD i default)&&(s.isNone||decide (dK (es.getD i default)<dK (s.getD zE))))=false:=by rw[<- hsn]; exact h5
    rw[h5'] at N7
    rw[N7] at hnx
    have hfin:=congrArg (fun s:Option Elem=>(OV.box 41 3 (.dat (.elem (s.getD zE)))).aG.l) hnx
    conv=>whnf
    refine .mk (by simp only[okI] at *; omega) ?_
    conv=>whnf
    refine⟨(i+1,Ry),[1,2,5,6,10,51],⟨by show i+1<=_; omega,wM⟩,by show es.length-(i+1)<es.length-i; omega,⟨⟨_,rfl,.eq rfl⟩,trivial⟩,⟨⟨_,rfl,.eq rfl⟩,⟨_,rfl,.eq rfl⟩,⟨_,rfl,.eq rfl⟩,⟨_,rfl,.eq rfl⟩,⟨_,rfl,.eq rfl⟩,⟨_,rfl,.eq rfl⟩,⟨_,rfl,.eq rfl⟩,trivial⟩,okF rfl nofun rfl rfl rfl ⟨rfl,rfl⟩ rfl,okF rfl nofun rfl rfl rfl ⟨rfl,rfl⟩ rfl,⟨rfl,nofun,rfl,rfl,_,rfl,rfl,rfl,aV.of_eq rfl⟩,okF rfl nofun rfl rfl rfl ⟨rfl,rfl⟩ rfl,okF rfl nofun rfl rfl rfl ⟨rfl,rfl⟩ rfl,okF rfl nofun rfl rfl rfl ⟨rfl,rfl⟩ ?_,trivial⟩
    exact hfin
 ·have hi':i=es.length:=by have:es.length<=i:=(by simpa using h3); omega
  subst hi'
  generalize (es.take es.length).foldl (tu (fun e=>pG q e.counts) l) none=s at *
  conv=>whnf
  refine ak.eqv ?_
  rw[VB]
  cases s with
  |none=>rfl
  |some x =>
   have:=AV x rfl
   show T.fA [nI x,.bool true]=T.fA [nI x,.bool (decide (0<(x.counts.length:Int)))]
   rw[decide_eq_true (by omega)]
def sV(p:aP)(r:Rule)(l a:List Clause):Nat×Elem:=DN (bF r) l a (eH (DL (l++a)+3) p.states.length (iQ p))
def RD(n:Nat)(s:Nat×Elem):List V:=[.int (orM n s.1),.dat (.elem (bif s.1==n then zE else s.2))]
theorem S.O4(p:aP)(l a:List Clause)(i:Nat)(f g:Bool)(hp:bH p)(hi:i<p.rules.length)(hin:wJ p=0)(hl:jq p.states.length p.values.length l)(ha:jq p.states.length p.values.length a)(hs:l.length+a.length<=1000) :
  aj Tryz.prog 63 [.dat (.bW p),.dat (.rule (p.rules.getD i default)),.row 4 f (.clauses l),.row 4 g (.clauses a)] (.fA (RD l.length (sV p (p.rules.getD i default) l a))):=by
 obtain⟨hF,hpl⟩:=wS hin
 have:=hF.values
 exact S.iD p (p.rules.getD i default) l a p.states.length (iQ p) f g hp (hp.rule i) rfl hF.pos hF.states rfl (by unfold iQ; omega) (Xy hF (Fj hpl) hi) hl ha hs (DL (l++a)) MQ
def wK(p:aP)(rule:Int)(l a:List Clause):Int:=bif wJ p !=0 then wJ p else bif decide (rule<0)||decide (rule>=p.rules.length) then 6 else vO p l a
def Fe(p:aP)(rule:Int)(l a:List Clause):V:=.fA ((bif wK p rule l a !=0 then [.int 0,.dat (.elem zE)] else RD l.length (sV p (p.rules.getD rule.toNat default) l a))++[.int (wK p rule l a)])
theorem ak.zero3{k j:Int}{h:Hz}:ak (.fA [.int k,.dat (.elem zE),.int j]) (.fA [.int k,.agg [.int 0,.row 0 true .nil],.int j]) h:=⟨by
 show T.sub _ _ (.fA [.int k,.agg [.int 0,.sl 0 false []],.int j]) (.fA [.int k,.agg [.int 0,.sl 0 true []],.int j])
 simp[T.sub,T.dH]⟩
theorem vP{p:aP}{rule:Int}{l a:List Clause}{e:Int}(h:wK p rule l a=e)(he:(e !=0)=true):Fe p rule l a= .fA [.int 0,.dat (.elem zE),.int e]:=by
 rw[Fe,h,he]; rfl
theorem Ua{p:aP}{l a:List Clause}(h:vO p l a=0):jq p.states.length p.values.length l/\jq p.states.length p.values.length a/\l.length<=160/\a.length<=160:=by
 unfold vO at h
 obtain⟨h1,h2⟩:=bz nz h
 obtain⟨a1,a2⟩:=y5 (by simpa using h1)
 obtain⟨b1,b2⟩:=y5 h2
 exact⟨a1,b1,a2,b2⟩
theorem S.fF(p:aP)(rule:Int)(l a:List Clause)(f g:Bool)(hp:bH p)(hl:SmallK l)(ha:SmallK a):aj Tryz.prog 19 [.dat (.bW p),.int rule,.row 4 f (.clauses l),.row 4 g (.clauses a)] (Fe p rule l a):=by
 refine aj.of Bd.fF (by simp) rfl (by unfold Fe; cases wK p rule l a !=0<;>rfl) ?_
 conv=>whnf
 refine ah.pure (S.fE p hp) rfl ?_
 conv=>whnf
 refine⟨fun h1=>?_,fun h1=>?_⟩
 ·have he:wK p rule l a=wJ p:=by rw[wK,show(wJ p !=0)=true from h1]; rfl
  conv=>whnf
  rw[vP he h1]
  exact ak.zero3
 have hk:=hp.rules
 conv=>whnf
 repeat(refine VC.mk (by first|exact id|exact fun h=>⟨h,h⟩|(intro h; rw[h]; rfl)) ?_; conv=>whnf)
 refine⟨fun h2=>?_,fun h2=>?_⟩
 ·have h2':(decide (rule<0)||decide (rule>=p.rules.length))=true:=h2
  have he:wK p rule l a=6:=by rw[wK,show(wJ p !=0)=false from h1,h2']; rfl
  conv=>whnf
  rw[vP he (by decide)]
  exact ak.zero3
 have h2':(decide (rule<0)||decide (rule>=p.rules.length))=false:=h2
 have he:wK p rule l a=vO p l a:=by rw[wK,show(wJ p !=0)=false from h1,h2']; rfl
 rw[Bool.or_eq_false_iff,decide_eq_false_iff_not,decide_eq_false_iff_not] at h2'
 obtain⟨r1,r2⟩:=h2'
 conv=>whnf
 refine ah.lend (S.J3 p l a false f g hp hl ha) ⟨aB _,OW trivial rfl rfl,trivial⟩ rfl rfl ?_
 conv=>whnf
 refine⟨fun h3=>?_,fun h3=>?_⟩
 ·conv=>whnf
  rw[vP he h3]
  exact ak.zero3
 obtain⟨k1,k2,k3,k4⟩:=Ua (uQ h3)
 have hV:Fe p rule l a= .fA (RD l.length (sV p (p.rules.getD rule.toNat default) l a)++[.int 0]):=by
  rw[Fe,he,uQ h3]; rfl
 rw[hV]
 conv=>whnf
 refine .mk (by first|(simp only[Rw.rng]; omega)) ?_
 conv=>whnf
 refine ah.pure (S.O4 p l a rule.toNat f g hp (by omega) (uQ h1) k1 k2 (by omega)) rfl ?_
 conv=>whnf
 exact ak.eqv rfl
def O5(p:aP)(k:Clause):Int:=bif wJ p !=0 then wJ p else xB p k
def GR(p:aP)(k:Clause)(e:Elem):Int:=bif O5 p k !=0 then O5 p k else bZ (xW p e||dK e==0) 1
def Xm(p:aP)(k:Clause)(e:Elem):V:=.fA [.bool (GR p k e==0&&holdsB k e),.int (GR p k e)]
theorem abO{p:aP}(h:wJ p=0):RF p=0:=by
 unfold wJ at h
 obtain⟨h1,h2⟩:=bz (fun _=>by decide) h
 rw[h2] at h1
 have hm:(eP p).monadic=true:=by simpa using h1
 rw[RF,h2,hm,Bool.not_true,Bool.and_false]; rfl
theorem O6{p:aP}{k:Clause}(h:O5 p k=0):wJ p=0/\xB p k=0:=by
 unfold O5 at h
 obtain⟨h1,h2⟩:=bz nz h
 exact⟨by simpa using h1,h2⟩
theorem S.fC(p:aP)(e:Elem)(hp:bH p)(he:e.counts.length<2^30)(hin:wJ p=0):aj Tryz.prog 71 [.dat (.bW p),.dat (.elem e)] (.int (bZ (xW p e||dK e==0) 1)):=by
 have hv:(BX p e !=0)=xW p e:=by
  rw[BX,abO hin]
  cases xW p e<;>rfl
 refine aj.of Bd.fC (by simp) rfl rfl ?_
 conv=>whnf
 refine ah.pure (S.iG p e hp he) rfl ?_
 conv=>whnf
 refine VC.mk id ?_
 conv=>whnf
 rw[hv]
 conv=>whnf
 refine ah.cO (fun _=>S.gU e (by omega)) rfl ?_
 conv=>whnf
 repeat(refine VC.mk (by first|exact id|(intro h; rw[h]; rfl)) ?_; conv=>whnf)
 refine⟨fun h1=>?_,fun h1=>?_⟩
 ·have h1':(xW p e||dK e==0)=true:=h1
  conv=>whnf
  exact ak.int (by rw[h1']; rfl)
 ·have h1':(xW p e||dK e==0)=false:=h1
  conv=>whnf
  exact ak.int (by rw[h1']; rfl)
theorem MB{p:aP}{k:Clause}{e:Elem}(h:GR p k e=0):OI k e/\0<e.counts.length/\k.values.length<2^30/\wJ p=0:=by
 unfold GR at h
 obtain⟨h1,h2⟩:=bz nz h
 obtain⟨hin,hcl⟩:=O6 (by simpa using h1)
 have h3:=Fp h2 (by decide)
 rw[Bool.or_eq_false_iff] at h3
 obtain⟨a,b,c⟩:=Xz h3.1
 obtain⟨hF,_⟩:=wS hin
 have hc:=aa8 hcl
 have h4:=hF.pos; have h5:=hF.states; have h6:=hF.values; have h7:=hc.values.len
 exact⟨⟨⟨_,by rw[a]; exact hc⟩,b,by omega⟩,by omega,by omega,hin⟩
theorem S.kH(p:aP)(k:Clause)(e:Elem)(hp:bH p)(hk:qH k)(he:e.counts.length<2^30):aj Tryz.prog 29 [.dat (.bW p),.dat (.clause k),.dat (.elem e)] (Xm p k e):=by
 refine aj.of Bd.kH (by simp) rfl rfl ?_
 conv=>whnf
 refine ah.pure (S.fG p k hp hk) rfl ?_
 conv=>whnf
 refine⟨fun h1=>?_,fun h1=>?_⟩
 ·have hv:(O5 p k !=0)=true:=h1
  have hE:GR p k e=O5 p k:=by rw[GR,hv]; rfl
  have hz:(O5 p k==0)=false:=beq_eq_false_iff_ne.2 (Gt hv)
  conv=>whnf
  exact ak.eqv (by rw[Xm,hE,hz]; rfl)
 have hv:(O5 p k !=0)=false:=h1
 obtain⟨hin,hcl⟩:=O6 (uQ hv)
 have hE:GR p k e=bZ (xW p e||dK e==0) 1:=by rw[GR,hv]; rfl
 conv=>whnf
 refine ah.pure (S.fC p e hp he hin) rfl ?_
 conv=>whnf
 refine⟨fun h2=>?_,fun h2=>?_⟩
 ·have hz:(bZ (xW p e||dK e==0) 1==0)=false:=beq_eq_false_iff_ne.2 (Gt h2)
  conv=>whnf
  exact ak.eqv (by rw[Xm,hE,hz]; rfl)
 have hz:bZ (xW p e||dK e==0) 1=0:=uQ h2
 obtain⟨hf,h0,hkv,_⟩:=MB (hE.trans hz)
 conv=>whnf
 refine ah.pure (S.kE k e hf h0 hkv) rfl ?_
 conv=>whnf
 exact ak.eqv (by rw[Xm,hE,hz]; rfl)
def oL(p:aP)(l a:List Clause)(r:Rule):Bool:=(sV p r l a).1==l.length
def Eh(p:aP)(q:Prop')(l a:List Clause):Bool:=((iC p a==0)&&decide (l.length+a.length<=160))&&(p.rules.all (oL p l a)&&(J6 p q (l++a)).isNone)
def Oi(p:aP)(q:Prop')(l a:List Clause):Bool:=((x8 p q l==0)&&(wL l (CY p q l)==l.length))&&Eh p q l a
theorem Ub{n m:Nat}(_h:m<=n):decide (orM n m>=0)= !(m==n):=by
 unfold orM
 cases he:m==n with
 |true=>rfl
 |false=>simp only[cond_false]; exact decide_eq_true (by omega)
theorem S.dR(p:aP)(q:Prop')(l a:List Clause)(f g:Bool)(hp:bH p)(hq:kC q)(hl:SmallK l)(ha:SmallK a):aj Tryz.prog 22 [.dat (.bW p),.dat (.prop q),.row 4 f (.clauses l),.row 4 g (.clauses a)] (.bool (Oi p q l a)):=by
 have k1:=hl.len; have k2:=ha.len
 refine aj.of Bd.dR (by simp) rfl rfl ?_
 conv=>whnf
 refine ah.pure (S.fH p q l f hp hq hl) rfl ?_
 rw[VA]
 cases he:x8 p q l !=0 with
 |true =>
  have hcT:(x8 p q l !=0||decide (0<=bif true then 0 else orM l.length (wL l (CY p q l))))=true:=by rw[he]; rfl
  conv=>whnf
  repeat(refine VC.mk (by first|exact id|(intro h; rw[h]; rfl)) ?_; conv=>whnf)
  refine Fork.mk (fun _=>?_) (fun q=>absurd (q.symm.trans (hcT)) Bool.false_ne_true)
  conv=>whnf
  exact ak.bool (by rw[Oi,show(x8 p q l==0)=false from beq_eq_false_iff_ne.2 (Gt he)]; rfl)
 |false =>
  have he0:x8 p q l=0:=uQ he
  have hor:=Ub (n:=l.length) (m:=wL l (CY p q l)) Rk
  rw[he0]
  conv=>whnf
  repeat(refine VC.mk (by first|exact id|(intro h; rw[h]; rfl)) ?_; conv=>whnf)
  refine⟨fun h1=>?_,fun h1=>?_⟩
  ·have h1':decide (orM l.length (wL l (CY p q l))>=0)=true:=h1
   conv=>whnf
   refine ak.bool ?_
   rw[hor] at h1'
   have h2:(wL l (CY p q l)==l.length)=false:=by simpa only[Bool.not_eq_true'] using h1'
   rw[Oi,h2,Bool.and_false]; rfl
  have h1':decide (orM l.length (wL l (CY p q l))>=0)=false:=h1
  rw[hor] at h1'
  have h2:(wL l (CY p q l)==l.length)=true:=by simpa only[Bool.not_eq_false'] using h1'
  have hcc:Oi p q l a=Eh p q l a:=by rw[Oi,he0,h2]; rfl
  rw[hcc]
  conv=>whnf
  refine ah.lend (S.xH p a false g hp ha) ⟨aB _,OW trivial rfl rfl,trivial⟩ rfl rfl ?_
  conv=>whnf
  repeat(refine VC.mk (by first|exact id|(intro h; rw[h]; rfl)|(intro h; (repeat' apply And.intro)<;>first|exact h|omega|(simp only[Rw.kK]; omega)|(simp only[Rw.rng]; omega))) ?_; conv=>whnf)
  refine⟨fun h3=>?_,fun h3=>?_⟩
  ·have h3':(iC p a !=0||decide ((l.length:Int)+a.length>160))=true:=h3
   conv=>whnf
   refine ak.bool ?_
   have:((iC p a==0)&&decide (l.length+a.length<=160))=false:=by
    rw[Bool.or_eq_true] at h3'
    rcases h3' with h|h
    ·rw[show(iC p a==0)=false from beq_eq_false_iff_ne.2 (Gt h)]; rfl
    ·have:=of_decide_eq_true h
     rw[decide_eq_false (show ¬ (l.length+a.length<=160) by omega),Bool.and_false]
   rw[Eh,this]; rfl
  have h3':(iC p a !=0||decide ((l.length:Int)+a.length>160))=false:=h3
  rw[Bool.or_eq_false_iff,decide_eq_false_iff_not] at h3'
  obtain⟨h4,h5⟩:=h3'
  have hlen:l.length+a.length<=160:=by omega
  have hrest:Eh p q l a=(p.rules.all (oL p l a)&&(J6 p q (l++a)).isNone):=by
   rw[Eh,uQ h4,decide_eq_true hlen]; rfl
  rw[hrest]
  have hE:um p q=0/\iC p l=0:=by
   unfold x8 at he0
   obtain⟨u,v⟩:=bz nz he0
   exact⟨by simpa using u,v⟩
  obtain⟨hv,hin,hk⟩:=Ja hE.1
  obtain⟨hF,_⟩:=wS hin
  obtain⟨hR,_⟩:=y5 hE.2
  obtain⟨hA,_⟩:=y5 (uQ h4)
  have hla:=hR.app hA (by omega)
  have hru:=hp.rules
  conv=>whnf
  refine aC.same [2,3,4,5,44,45] (fun i:Nat=>[(46,.int i)]) (fun i=>i<=p.rules.length/\(p.rules.take i).all (oL p l a)=true) (fun i=>p.rules.length-i) 0 rfl (by decide) rfl (fun _=>rfl) ⟨by omega,by simp⟩ ⟨⟨_,rfl,rfl⟩,trivial⟩ ?_
  conv=>whnf
  refine⟨rfl,?_⟩
  rintro i ⟨hi,hall⟩
  conv=>whnf
  refine⟨fun h6=>?_,fun h6=>?_⟩
  ·have hi':i<p.rules.length:=by simpa using h6
   have hsl:(sV p (p.rules.getD i default) l a).1<=l.length:=D8
   have hog:=Ub hsl
   conv=>whnf
   refine .mk (by simp only[Rw.rng] at *; omega) ?_
   conv=>whnf
   refine ah.pure (S.O4 p l a i f g hp hi' hin hR hA (by omega)) rfl ?_
   rw[RD]
   conv=>whnf
   refine⟨fun h7=>?_,fun h7=>?_⟩
   ·have QG:decide (orM l.length (sV p (p.rules.getD i default) l a).1>=0)=true:=h7
    conv=>whnf
    refine ak.bool ?_
    rw[hog] at QG
    have h8:oL p l a (p.rules.getD i default)=false:=by rw[oL]; simpa only[Bool.not_eq_true'] using QG
    rw[jJ (p:=oL p l a) (d:=default) hi' h8]; rfl
   ·have QG:decide (orM l.length (sV p (p.rules.getD i default) l a).1>=0)=false:=h7
    conv=>whnf
    refine .mk (by simp only[okI] at *; omega) ?_
    conv=>whnf
    rw[hog] at QG
    have h8:oL p l a (p.rules.getD i default)=true:=by rw[oL]; simpa only[Bool.not_eq_false'] using QG
    refine⟨i+1,⟨by omega,?_⟩,by omega,⟨⟨_,rfl,rfl⟩,trivial⟩,?_,rfl⟩
    ·rw[iV (d:=default) hi' hall]; exact h8
    ·repeat' (first|exact trivial|exact⟨_,rfl,rfl⟩|constructor)
  ·have hi':p.rules.length<=i:=by simpa using h6
   rw[List.take_of_length_le hi'] at hall
   rw[hall]
   conv=>whnf
   refine ah.pure (S.jB l a f g (by omega) (by omega)) rfl ?_
   conv=>whnf
   conv=>whnf
   refine ah.pure (S.jM p q (l++a) false hp hq (hla.small hF.states hF.values) hF (OY hv hk) hla) rfl ?_
   rw[VB]
   conv=>whnf
   refine ak.bool ?_
   cases J6 p q (l++a)<;>rfl
end Go.Proofs.YtifbibbicplneaaGreatDoor
