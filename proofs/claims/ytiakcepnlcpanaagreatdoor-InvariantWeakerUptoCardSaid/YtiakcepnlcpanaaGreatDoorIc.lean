/-
 A part of the proof. No condition.
-/
import Derived.Test.YtiakcepnlcpanaaGreatDoorIb
namespace Go.Proofs.YtiakcepnlcpanaaGreatDoor
open Go.Ab Go.Proofs
set_option maxRecDepth 100000
theorem ah.row{l:List Clause}{f:Bool}{es:List (Int×List Bool)}{e:Elem}{h:Hz}{i j n:Nat}{K:V->Hz->Prop}{KW:Nat->V->Hz->Prop}(hsm:SmallK l)(ht:Ir l e)(hg:iW e.counts.length l es)(hi:h.get i=some (yw l f j))(hj:h.get j=some (xR es))(hij:i≠j)(hn:h.get n=none)(hin:n≠i)(hjn:n≠j)
  (hK: ∀ es',iW e.counts.length l es'->K (.row 0 false (.bools (fZ l e))) ((j,some (xR es'))::h)):ah Tryz.prog false none 34 [.ptr i 0 0,.dat (.elem e)] h n K KW:=by
 refine ah.aac (ts:=[.ptr 0 0 0,.dat (.elem e)]) (o0:=yw l f 1) (Vp:=yw l f j) (o1:=xR es) (post:=fun t hp=> ∃ es',iW e.counts.length l es'/\t=(V.row 0 false (.bools (fZ l e))).aH/\hp=Hz.aj (hT l f es')) (S.SG l f es e hsm ht hg) ?_ rfl rfl rfl ?_ hi hj hij hn hin hjn ?_
 ·rfl
 ·rfl
 ·rintro t hp ⟨es',hg',rfl,rfl⟩
  exact⟨.row 0 false (.bools (fZ l e)),xR es',rfl,rfl,rfl,rfl,hK es' hg'⟩
theorem SK{n:Nat}: ∀ {h:Hz},(h.all fun p=>Nat.blt p.1 n)=true-> ∀ m,n<=m->h.get m=none:=by
 intro h
 induction h with
 |nil=>intro _ m _; rfl
 |cons p r ih =>
  obtain⟨j,o⟩:=p
  intro q m hm
  simp only[List.all_cons,Bool.and_eq_true,Nat.blt_eq] at q
  simp only[Hz.get]
  have:Nat.beq j m=false:=by
   cases hb:Nat.beq j m with
   |false=>rfl
   |true=>have:=Nat.eq_of_beq_eq_true hb; omega
  rw[this]; exact ih q.2 m hm
theorem ah.BG{l:List Clause}{f:Bool}{h:Hz}{n:Nat}{K:V->Hz->Prop}{KW:Nat->V->Hz->Prop}(hsm:SmallK l)(hn:(h.all fun p=>Nat.blt p.1 n)=true)(hK:KW 1 (.ptr n 0 0) ((n,some (yw l f (n+1)))::(n+1,some (xR []))::h)):ah Tryz.prog false none 22 [.row 4 f (.clauses l)] h n K KW :=
 ah.new2 (_v:=.ptr 0 0 0) (S.jf l f hsm) rfl rfl (by rfl) ⟨⟨trivial,trivial,by show(1:Nat)<2; decide,trivial⟩,trivial⟩ (SK hn) hK
theorem ah.Vq{P:Program}{dr:Bool}{f:FuncId}{args:List V}{h:Hz}{n:Nat}{K:V->Hz->Prop}{KW:Nat->V->Hz->Prop}(v:V)(hf:v.free=true)(hK:K v h):ah P dr (some false) f args h n K KW:=⟨.inl (.inl ⟨v,(fun e=>by cases e),hf,hK⟩)⟩
theorem ah.on{P:Program}{f:FuncId}{args:List V}{h:Hz}{n:Nat}{K:V->Hz->Prop}{KW':Nat->V->Hz->Prop}(H:ah P false none f args h n K fun _ _ _=>False):ah P false (some true) f args h n K KW':=by
 rcases H.ok with H|⟨_,_,k,⟨_,_,_,_,_,_,hk⟩,_⟩|⟨_,e,_⟩
 ·exact⟨.inl (.inr ⟨rfl,fun _=>aF.mono H fun t hp ⟨v,h',a,b,_,c⟩=>⟨v,h',a,b,c⟩,fun e=>by cases e⟩)⟩
 ·exact hk.elim
 ·cases e
theorem Jf(n:Nat): ∃ r:Rw,(bif isZero (.int n) then some Rw.nil else RP (n:Int).toNat (T.bool false))=some r/\r.aS=(Rw.bools (List.replicate n false)).aS:=by
 cases n with
 |zero=>exact⟨.nil,rfl,rfl⟩
 |succ k=>exact⟨.bools (List.replicate (k+1) false),rfl,rfl⟩
theorem Jg:bG [fU zE] [T.agg [.int 0,.sl 0 true []]]:=fun Z h=>by
 show T.cu Z h [.agg [.int 0,.sl 0 false []]] [.agg [.int 0,.sl 0 true []]]
 simp[T.sub,T.cu]
theorem aA.zeroE{k:Int}{h:Hz}:aA (.dM [.int k,.dat (.elem zE)]) (.dM [.int k,.agg [.int 0,.row 0 true .nil]]) h:=⟨by
 show T.sub _ _ (.dM [.int k,.agg [.int 0,.sl 0 false []]]) (.dM [.int k,.agg [.int 0,.sl 0 true []]])
 simp[T.sub,T.cu]⟩
theorem Gp{l:List Clause}{x:Elem}:Dy (fZ l x)=bif decide (dF l x<l.length) then((dF l x:Nat):Int) else -1:=by
 rw[Dy,Sr,qG]
theorem step_cond{F n s:Nat}{t:Bool}{f:Int}(hf:f=bif decide (F<n) then(F:Int) else -1):(decide (0<=f)&&(decide (f<(s:Int))||(f==(s:Int)&&t)))=(decide (F<n)&&(decide (F<s)||F==s&&t)):=by
 subst hf
 cases h:decide (F<n) with
 |false=>rfl
 |true =>
  simp only[cond_true]
  rw[show decide (0<=(F:Int))=true from decide_eq_true (by omega),show decide ((F:Int)<s)=decide (F<s) from decide_eq_decide.2 ⟨fun h=>by omega,fun h=>by omega⟩]
  rw[show((F:Int)==(s:Int))=(F==s) from by
   rw[Bool.eq_iff_iff,beq_iff_eq,beq_iff_eq]; exact⟨fun h=>by omega,fun h=>by omega⟩]
theorem SL{fire:Elem->Option Elem}{l a:List Clause}{s:Nat×Elem}{e:Elem}{n:Nat}(h:s.2.counts.length<=n)(he:e.counts.length<=n):(stepG fire l a s e).2.counts.length<=n:=by
 unfold stepG
 split
 ·exact h
 ·cases (bC l e&&bC a e&&(decide (dF l _<l.length)&&(decide (dF l _<s.1)||dF l _==s.1&&decide (jd e<jd s.2)))) with
  |false=>exact h
  |true=>exact he
theorem SN{fire:Elem->Option Elem}{l a:List Clause}{n:Nat}: ∀ {es:List Elem} {s:Nat×Elem},s.2.counts.length<=n->(∀ e∈es,e.counts.length<=n)->(es.foldl (stepG fire l a) s).2.counts.length<=n:=by
 intro es
 induction es with
 |nil=>intro s h _; exact h
 |cons e es ih=>intro s h he; exact ih (SL h (he e (by simp))) fun x hx=>he x (List.mem_cons_of_mem _ hx)
set_option maxHeartbeats 2000000 in
theorem S.gW(p:aW)(r:Rule)(l a:List Clause)(n vals:Nat)(f g:Bool)(hp:dI p)(hr:ru r)(hn:p.states.length=n)(hn0:0<n)(Dl:n<=6)(hvs:max 1 p.values.length=vals)(nJ:vals<=3)(hF:U5 n p r)(hl:jW n p.values.length l)(ha:jW n p.values.length a)(hs:l.length+a.length<=1000)(rk:Nat)(hrk:bF (l++a)=rk) :
  au Tryz.prog 35 [.dat (.eU p),.dat (.rule r),.row 4 f (.clauses l),.row 4 g (.clauses a)] (.dM [.int (orM l.length (Ep (aX r) l a (gI (rk+3) n vals)).1),.dat (.elem (bif (Ep (aX r) l a (gI (rk+3) n vals)).1==l.length then zE else(Ep (aX r) l a (gI (rk+3) n vals)).2))]):=by
 have hla:=hl.app ha hs
 have hsm:=hla.small Dl (by omega)
 have aad:bF (l++a)<=3:=sZ fun k hk=>(hla.cl k hk).two
 have hsl:=hl.len; have hsa:=ha.len
 have hlen:(l++a).length=l.length+a.length:=List.length_append
 have hU:au Tryz.prog 45 [.dat (.eU p),.int (bF (l++a)+2)] (.row 3 false (.elems (gI (rk+3) n vals))):=by
  have:=S.dX p n vals (rk+2) hp hn hn0 Dl hvs nJ (by omega)
  rw[hrk]; exact this
 have MG:(gI (rk+3) n vals).length<=3*531441:=by
  rw[tq]
  have:=wW (b:=rk+3) (n:=n) (by omega) Dl
  exact Nat.mul_le_mul nJ (by omega)
 have hok:=y9 (b:=rk+3) (n:=n) (vals:=vals) (by omega)
 have UJ:rk+3<=9:=by omega
 generalize gI (rk+3) n vals=es at hU MG hok ⊢
 have hblt:Nat.blt (Dx r.kind) 4096=true:=by
  rcases hF.kind with h|h|h<;>rw[Dx,h]<;>rfl
 have hst: ∀ i,(((es.take i).foldl (stepG (aX r) l a) (l.length,zE)).1)<=l.length:=fun i=>Gj (fire:=aX r) (l:=l) (a:=a) (es:=es.take i)
 have hnx: ∀ {i:Nat},i<es.length->(es.take (i+1)).foldl (stepG (aX r) l a) (l.length,zE)=stepG (aX r) l a ((es.take i).foldl (stepG (aX r) l a) (l.length,zE)) (es.getD i default):=fun hi=>Gh hi
 have hend:Ep (aX r) l a es=(es.take es.length).foldl (stepG (aX r) l a) (l.length,zE):=by rw[List.take_length]; rfl
 rw[hend]
 refine au.of Bd.gW (by simp) rfl rfl ?_
 conv=>whnf
 refine ah.pure (S.gZ l a f g (by omega) (by omega)) rfl ?_
 conv=>whnf
 conv=>whnf
 refine ah.BG hsm rfl ?_
 conv=>whnf
 obtain⟨rb,hrb,hrL⟩:=Jf (l++a).length
 rw[hrb]
 conv=>whnf
 refine .mk (by omega) ?_
 conv=>whnf
 refine ah.pure (S.kJ r.kind) rfl ?_
 conv=>whnf
 refine .mk (by simp only[okI] at *; omega) ?_
 conv=>whnf
 conv=>whnf
 refine ah.pure (hU) rfl ?_
 conv=>whnf
 refine aU.Et (ι:=Nat×List (Int×List Bool)) 100 [2,5,9,10,11,12,14,41,42] (fun x=>[(43,.int x.1),(13,.int (((es.take x.1).foldl (stepG (aX r) l a) (l.length,zE)).1:Nat))]) (fun x=>[(1,.box 78 19 (.dat (.rule r))),(3,.box 38 3 (.agg [.int 0,.row 0 true .nil])),(7,yw (l++a) false 8),(8,xR x.2),(15,rowB (List.replicate (l++a).length false)),(24,.box 38 3 (.dat (.elem ((es.take x.1).foldl (stepG (aX r) l a) (l.length,zE)).2)))]) (fun x=>x.1<=es.length/\iW n (l++a) x.2) (fun x=>es.length-x.1) (0,[]) [1,3,7,8,15,24] rfl (by decide) (fun _=>rfl) ⟨Nat.zero_le _,iW.nil⟩ ?_ ?_ ?_
 ·exact⟨⟨_,rfl,.eq rfl⟩,⟨_,rfl,.eq rfl⟩,trivial⟩
 ·refine⟨okF rfl nofun rfl rfl rfl ⟨rfl,rfl⟩ rfl,okF rfl nofun rfl rfl rfl ⟨rfl,rfl⟩ rfl,⟨rfl,nofun,rfl,rfl,_,rfl,rfl,rfl,bG.of_eq rfl⟩,okF rfl nofun rfl rfl rfl ⟨rfl,rfl⟩ rfl,okF rfl nofun rfl rfl rfl ⟨rfl,rfl⟩ ?_,?_,trivial⟩
  ·show(Rw.bools (List.replicate (l++a).length false)).aS++[]=rb.aS++[]
   rw[hrL]
  ·exact⟨rfl,nofun,rfl,rfl,_,rfl,rfl,rfl,Jg⟩
 conv=>whnf
 refine⟨⟨⟨_,rfl,.eq rfl⟩,⟨_,rfl,.eq rfl⟩,⟨_,rfl,.eq rfl⟩,⟨_,rfl,.eq rfl⟩,⟨_,rfl,.eq rfl⟩,⟨_,rfl,.eq rfl⟩,⟨_,rfl,.eq rfl⟩,⟨_,rfl,.eq rfl⟩,⟨_,rfl,.eq rfl⟩,trivial⟩,rfl,?_⟩
 rintro⟨i,em⟩ ⟨hi,hem⟩
 conv=>whnf
 refine⟨fun h3=>?_,fun h3=>?_⟩
 ·have hi':i<es.length:=by simpa using h3
  have hue:=hok _ (getM (d:=default) hi')
  have hnext:=hnx hi'
  have adK:=hst i
  conv=>whnf
  refine .mk (by simp only[Rw.rng] at *; omega) ?_
  conv=>whnf
  rw[hblt]
  obtain⟨x,hS,hx⟩:=S.apply r (es.getD i default) hr (by rw[hue.len]; exact hF.place) (hue.Dk UJ) (by rw[hue.len]; exact Dl) hF.kind
  conv=>whnf
  refine ah.pure hS rfl ?_
  cases hO:aX r (es.getD i default) with
  |none =>
   have hsg:(es.take (i+1)).foldl (stepG (aX r) l a) (l.length,zE)=(es.take i).foldl (stepG (aX r) l a) (l.length,zE):=by rw[hnext,stepG,hO]
   conv=>whnf
   refine .mk (by exact fun h=>⟨h,h⟩) ?_
   conv=>whnf
   refine ah.Vq (.row 0 false (.bools [])) rfl ?_
   conv=>whnf
   refine .mk (by exact fun h=>⟨h,h⟩) ?_
   conv=>whnf
   refine ah.Vq (.bool true) rfl ?_
   conv=>whnf
   repeat(refine VC.mk (by first|exact id|(intro h; rw[h]; rfl)) ?_; conv=>whnf)
   refine Fork.mk (fun _=>?_) (fun q=>absurd (q.symm.trans ((rfl:true=true))) Bool.false_ne_true)
   conv=>whnf
   refine .mk (by simp only[okI] at *; omega) ?_
   conv=>whnf
   refine⟨(i+1,em),[1,3,7,8,15,24],⟨by show i+1<=_; omega,hem⟩,by show es.length-(i+1)<es.length-i; omega,⟨⟨_,rfl,.eq rfl⟩,⟨_,rfl,.eq ?_⟩,trivial⟩,⟨⟨_,rfl,.eq rfl⟩,⟨_,rfl,.eq rfl⟩,⟨_,rfl,.eq rfl⟩,⟨_,rfl,.eq rfl⟩,⟨_,rfl,.eq rfl⟩,⟨_,rfl,.eq rfl⟩,⟨_,rfl,.eq rfl⟩,⟨_,rfl,.eq rfl⟩,⟨_,rfl,.eq rfl⟩,trivial⟩,okF rfl nofun rfl rfl rfl ⟨rfl,rfl⟩ rfl,okF rfl nofun rfl rfl rfl ⟨rfl,rfl⟩ rfl,⟨rfl,nofun,rfl,rfl,_,rfl,rfl,rfl,bG.of_eq rfl⟩,okF rfl nofun rfl rfl rfl ⟨rfl,rfl⟩ rfl,okF rfl nofun rfl rfl rfl ⟨rfl,rfl⟩ rfl,okF rfl nofun rfl rfl rfl ⟨rfl,rfl⟩ ?_,trivial⟩
   ·exact congrArg (fun s:Nat×Elem=>T.int ((s.1:Nat):Int)) hsg
   ·exact congrArg (fun s:Nat×Elem=>(OV.box 38 3 (.dat (.elem s.2))).aG.l) hsg
  |some y =>
   obtain rfl:=hx y hO
   have hxl:x.counts.length=n:=by rw[Dp hO,hue.len]
   have hxv:0<=x.value/\x.value<=1048576:=by
    rw[Vo hO,BF]
    have h1:=hue.val
    cases hw:decide (r.write>=0) with
    |false=>show 0<=(es.getD i default).value/\(es.getD i default).value<=1048576; omega
    |true =>
     rcases hF.wr with h2|h2
     ·obtain⟨w1,w2⟩:=rO h2
      show 0<=r.write/\r.write<=1048576; omega
     ·rw[h2] at hw; exact absurd hw (by decide)
   have hte:=hla.at hue UJ nJ hn0 Dl
   have htx:=hla.tab hxl (XU (hue.nn UJ) (by rw[hue.len]; exact Dl) hO) hn0 Dl hxv
   have zG:(es.getD i default).counts.length=n:=hue.len
   conv=>whnf
   refine .mk (by exact fun h=>⟨h,h⟩) ?_
   conv=>whnf
   refine ah.on (ah.row hsm hte (show iW (es.getD i default).counts.length (l++a) em by rw[zG]; exact hem) rfl rfl (by decide) rfl (by decide) (by decide) (fun J6 rP=>?_))
   replace rP:iW (es.getD i default).counts.length (l++a) J6:=rP
   rw[zG] at rP
   conv=>whnf
   refine .mk (by exact fun h=>⟨h,h⟩) ?_
   conv=>whnf
   refine ah.on (ah.lend (S.jV (fZ (l++a) (es.getD i default)) (l++a).length false false (by rw[qG]; omega) (by rw[qG]; exact Nat.le_refl _)) ⟨aC _,Me trivial rfl,trivial⟩ rfl rfl ?_)
   rw[QB,Sm]
   conv=>whnf
   repeat(refine VC.mk (by first|exact id|(intro h; rw[h]; rfl)) ?_; conv=>whnf)
   refine⟨fun h4=>?_,fun h4=>?_⟩
   ·have h4':(bC l (es.getD i default)&&bC a (es.getD i default))=false:=by
     have h5:(!(bC l (es.getD i default)&&bC a (es.getD i default)))=true:=h4
     simpa only[Bool.not_eq_true'] using h5
    have hsg:(es.take (i+1)).foldl (stepG (aX r) l a) (l.length,zE)=(es.take i).foldl (stepG (aX r) l a) (l.length,zE):=by rw[hnext,stepG,hO]; simp only; rw[h4']; rfl
    conv=>whnf
    refine .mk (by simp only[okI] at *; omega) ?_
    conv=>whnf
    refine⟨(i+1,J6),[1,3,7,8,15,24],⟨by show i+1<=_; omega,rP⟩,by show es.length-(i+1)<es.length-i; omega,⟨⟨_,rfl,.eq rfl⟩,⟨_,rfl,.eq ?_⟩,trivial⟩,⟨⟨_,rfl,.eq rfl⟩,⟨_,rfl,.eq rfl⟩,⟨_,rfl,.eq rfl⟩,⟨_,rfl,.eq rfl⟩,⟨_,rfl,.eq rfl⟩,⟨_,rfl,.eq rfl⟩,⟨_,rfl,.eq rfl⟩,⟨_,rfl,.eq rfl⟩,⟨_,rfl,.eq rfl⟩,trivial⟩,okF rfl nofun rfl rfl rfl ⟨rfl,rfl⟩ rfl,okF rfl nofun rfl rfl rfl ⟨rfl,rfl⟩ rfl,⟨rfl,nofun,rfl,rfl,_,rfl,rfl,rfl,bG.of_eq rfl⟩,okF rfl nofun rfl rfl rfl ⟨rfl,rfl⟩ rfl,okF rfl nofun rfl rfl rfl ⟨rfl,rfl⟩ rfl,okF rfl nofun rfl rfl rfl ⟨rfl,rfl⟩ ?_,trivial⟩
    ·exact congrArg (fun s:Nat×Elem=>T.int ((s.1:Nat):Int)) hsg
    ·exact congrArg (fun s:Nat×Elem=>(OV.box 38 3 (.dat (.elem s.2))).aG.l) hsg
   have h4':(bC l (es.getD i default)&&bC a (es.getD i default))=true:=by
    have h5:(!(bC l (es.getD i default)&&bC a (es.getD i default)))=false:=h4
    simpa only[Bool.not_eq_false'] using h5
   have hfi:=Gp (l:=l) (x:=x)
   have hlen2:((es.take i).foldl (stepG (aX r) l a) (l.length,zE)).2.counts.length<=6:=SN (show(0:Nat)<=6 by decide) fun e he=>by rw[(hok e (List.mem_of_mem_take he)).len]; exact Dl
   conv=>whnf
   refine ah.row hsm htx (show iW x.counts.length (l++a) J6 by rw[hxl]; exact rP) rfl rfl (by decide) rfl (by decide) (by decide) (fun em2 Vr=>?_)
   replace Vr:iW x.counts.length (l++a) em2:=Vr
   rw[hxl] at Vr
   conv=>whnf
   refine .mk (by show 0<=(l.length:Int)/\(l.length:Int)<=(fZ (l++a) x).length; rw[qG]; omega) ?_
   conv=>whnf
   refine ah.pure (S.Gn ((fZ (l++a) x).take l.length) false (by rw[Mc,qG]; omega)) rfl ?_
   conv=>whnf
   repeat(refine VC.mk (by first|exact id|exact fun h=>⟨h,h⟩) ?_; conv=>whnf)
   rw[Mc]
   conv=>whnf
   refine ah.nY (fun _=>S.iD (es.getD i default) (by rw[zG]; omega)) rfl ?_
   conv=>whnf
   refine VC.mk id ?_
   conv=>whnf
   refine ah.nY (fun _=>S.iD ((es.take i).foldl (stepG (aX r) l a) (l.length,zE)).2 (by omega)) rfl ?_
   conv=>whnf
   repeat(refine VC.mk (by first|exact id|exact fun h=>⟨h,h⟩|(intro h; simp[h]; done)|(intro h; simp_all; done)) ?_; conv=>whnf)
   generalize hS:(es.take i).foldl (stepG (aX r) l a) (l.length,zE)=s at *
   have hsc:=step_cond (n:=l.length) (s:=s.1) (t:=decide (jd (es.getD i default)<jd s.2)) hfi
   have XV:stepG (aX r) l a s (es.getD i default)=bif decide (dF l x<l.length)&&(decide (dF l x<s.1)||dF l x==s.1&&decide (jd (es.getD i default)<jd s.2)) then(dF l x,es.getD i default) else s:=by
    rw[stepG,hO]; simp only; rw[h4',Bool.true_and]
   refine⟨fun h5=>?_,fun h5=>?_⟩
   ·have h5':(decide (dF l x<l.length)&&(decide (dF l x<s.1)||dF l x==s.1&&decide (jd (es.getD i default)<jd s.2)))=true:=hsc▸h5
    rw[h5'] at XV
    rw[XV] at hnext
    have hlt:decide (dF l x<l.length)=true:=(Bool.and_eq_true .. ▸h5').1
    rw[hlt] at hfi
    conv=>whnf
    refine .mk (by simp only[okI] at *; omega) ?_
    conv=>whnf
    refine⟨(i+1,em2),[1,3,7,8,15,24],⟨by show i+1<=_; omega,Vr⟩,by show es.length-(i+1)<es.length-i; omega,⟨⟨_,rfl,.eq rfl⟩,⟨_,rfl,.eq ?_⟩,trivial⟩,⟨⟨_,rfl,.eq rfl⟩,⟨_,rfl,.eq rfl⟩,⟨_,rfl,.eq rfl⟩,⟨_,rfl,.eq rfl⟩,⟨_,rfl,.eq rfl⟩,⟨_,rfl,.eq rfl⟩,⟨_,rfl,.eq rfl⟩,⟨_,rfl,.eq rfl⟩,⟨_,rfl,.eq rfl⟩,trivial⟩,okF rfl nofun rfl rfl rfl ⟨rfl,rfl⟩ rfl,okF rfl nofun rfl rfl rfl ⟨rfl,rfl⟩ rfl,⟨rfl,nofun,rfl,rfl,_,rfl,rfl,rfl,bG.of_eq rfl⟩,okF rfl nofun rfl rfl rfl ⟨rfl,rfl⟩ rfl,okF rfl nofun rfl rfl rfl ⟨rfl,rfl⟩ rfl,okF rfl nofun rfl rfl rfl ⟨rfl,rfl⟩ ?_,trivial⟩
    ·show T.int (((es.take (i+1)).foldl (stepG (aX r) l a) (l.length,zE)).1:Nat)=T.int (Dy (fZ l x))
     rw[hnext,hfi]; rfl
    ·exact congrArg (fun s:Nat×Elem=>(OV.box 38 3 (.dat (.elem s.2))).aG.l) hnext
   ·have h5':(decide (dF l x<l.length)&&(decide (dF l x<s.1)||dF l x==s.1&&decide (jd (es.getD i default)<jd s.2)))=false:=hsc▸h5
    rw[h5'] at XV
    rw[XV] at hnext
    conv=>whnf
    refine .mk (by simp only[okI] at *; omega) ?_
    conv=>whnf
    refine⟨(i+1,em2),[1,3,7,8,15,24],⟨by show i+1<=_; omega,Vr⟩,by show es.length-(i+1)<es.length-i; omega,⟨⟨_,rfl,.eq rfl⟩,⟨_,rfl,.eq ?_⟩,trivial⟩,⟨⟨_,rfl,.eq rfl⟩,⟨_,rfl,.eq rfl⟩,⟨_,rfl,.eq rfl⟩,⟨_,rfl,.eq rfl⟩,⟨_,rfl,.eq rfl⟩,⟨_,rfl,.eq rfl⟩,⟨_,rfl,.eq rfl⟩,⟨_,rfl,.eq rfl⟩,⟨_,rfl,.eq rfl⟩,trivial⟩,okF rfl nofun rfl rfl rfl ⟨rfl,rfl⟩ rfl,okF rfl nofun rfl rfl rfl ⟨rfl,rfl⟩ rfl,⟨rfl,nofun,rfl,rfl,_,rfl,rfl,rfl,bG.of_eq rfl⟩,okF rfl nofun rfl rfl rfl ⟨rfl,rfl⟩ rfl,okF rfl nofun rfl rfl rfl ⟨rfl,rfl⟩ rfl,okF rfl nofun rfl rfl rfl ⟨rfl,rfl⟩ ?_,trivial⟩
    ·exact congrArg (fun s:Nat×Elem=>T.int ((s.1:Nat):Int)) hnext
    ·exact congrArg (fun s:Nat×Elem=>(OV.box 38 3 (.dat (.elem s.2))).aG.l) hnext
 ·have hi':i=es.length:=by have:es.length<=i:=(by simpa using h3); omega
  subst hi'
  generalize (es.take es.length).foldl (stepG (aX r) l a) (l.length,zE)=s
  conv=>whnf
  refine⟨fun h4=>?_,fun h4=>?_⟩
  ·have h4':(s.1==l.length)=true:=by
    have h5:((s.1:Int)==(l.length:Int))=true:=h4
    rw[beq_iff_eq] at h5 ⊢; omega
   conv=>whnf
   rw[orM,h4']
   exact aA.zeroE
  ·have h4':(s.1==l.length)=false:=by
    have h5:((s.1:Int)==(l.length:Int))=false:=h4
    rw[beq_eq_false_iff_ne] at h5 ⊢; omega
   conv=>whnf
   rw[orM,h4']
   exact aA.eqv rfl
abbrev boxS(f:Bool)(st:List Int):OV:=.box 24 0 (.row 0 f (.ints st))
theorem OW{st:List Int}{e:Elem}:(!(oV st e))=(XI e.counts st||e.value !=0):=by
 rw[oV,Bool.not_and,Bool.not_not,bne]
theorem fV.ofS{f:Bool}{st:List Int}{h0 h:Hz}{n:Nat}{v u:V}{post:T->Hp->Prop}(Z:Nat->Prop)(hz: ¬ Z 0)(h00:(h0.aj 0).isSome=true)(q0:h.get 0=some (boxS f st))(hu:u.free=true)(hv:T.sub Z h.aj u.aH v.aH)(hp:post u.aH (Hz.aj [(0,some (boxS f st))])):fV h0 n post v h:=by
 refine fV.Oo (h2:=[(0,some (boxS f st))]) (u:=u) Z ⟨dn (Z:=Z) q0 hz,trivial⟩ ?_ hu hv hp
 intro i o ho
 have hG:=kG (show qP 1 [(0,some (boxS f st))]=true from rfl) i o.aG (aJ ho)
 obtain rfl:i=0:=by have:=hG.1; omega
 exact⟨h00,T.ak (fun j hj=>by rw[show j=0 by omega]; exact h00) _ hG.2.1,hG.2.2⟩
theorem S.Eu(st:List Int)(f:Bool)(e:Elem)(hs:st.length<2^30)(he:e.counts.length<2^30):aF Tryz.prog 61 (V.aS [.dat (.elem e),.ptr 0 0 0]) (Hz.aj [(0,some (boxS f st))]) 1 (fun t hp=>t= .bool (!(oV st e))/\hp=Hz.aj [(0,some (boxS f st))]):=by
 refine lV.of (nx:=1) (h0:=[(0,some (boxS f st))]) Bd.lT (by simp) ⟨_,_,rfl,rfl⟩ rfl rfl ?_
 rw[OW]
 conv=>whnf
 refine aU.same [1,2,7,8] (fun i:Nat=>[(9,.int i)]) (fun i=>i<=e.counts.length/\(List.range i).any (fun i=>decide (e.counts.getD i 0>0)&& !(Qv st i))=false) (fun i=>e.counts.length-i) 0 rfl (by decide) rfl (fun _=>rfl) ⟨by omega,by simp⟩ ⟨⟨_,rfl,rfl⟩,trivial⟩ ?_
 conv=>whnf
 refine⟨rfl,?_⟩
 rintro i ⟨hi,hall⟩
 conv=>whnf
 refine⟨fun h3=>?_,fun h3=>?_⟩
 ·have hi':i<e.counts.length:=by simpa using h3
  conv=>whnf
  repeat(refine VC.mk (by first|exact fun h=>⟨h,h⟩|(simp only[Rw.rng] at *; omega)) ?_; conv=>whnf)
  refine ah.nY (fun _=>S.slices_Contains_int st i f (by omega)) rfl ?_
  conv=>whnf
  repeat(refine VC.mk id ?_; conv=>whnf)
  refine⟨fun h4=>?_,fun h4=>?_⟩
  ·conv=>whnf
   rw[show XI e.counts st=true from List.any_eq_true.2 ⟨i,List.mem_range.2 hi',h4⟩]
   exact fV.ofS (u:=.bool true) (fun _=>False) (fun q=>q) rfl rfl rfl (aC _) ⟨rfl,rfl⟩
  ·conv=>whnf
   refine .mk (by simp only[okI] at *; omega) ?_
   conv=>whnf
   refine⟨i+1,⟨by omega,?_⟩,by omega,⟨⟨_,rfl,rfl⟩,trivial⟩,?_,rfl⟩
   ·rw[List.range_succ,List.any_append,hall]
    show(false||((decide (e.counts.getD i 0>0)&& !(Qv st i))||false))=false
    rw[show(decide (e.counts.getD i 0>0)&& !(Qv st i))=false from h4]; rfl
   ·repeat' (first|exact trivial|exact⟨_,rfl,rfl⟩|constructor)
 ·have hi':i=e.counts.length:=by have:e.counts.length<=i:=(by simpa using h3); omega
  subst hi'
  rw[show XI e.counts st=false from hall]
  conv=>whnf
  exact fV.ofS (u:=.bool (e.value !=0)) (fun _=>False) (fun q=>q) rfl rfl rfl (aC _) ⟨rfl,rfl⟩
def EN(st:List Int):List Elem->Nat->Int
 |[],_=> -1
 |x::r,i=>bif !(oV st x) then(i:Int) else EN st r (i+1)
abbrev hD(f:Bool)(st:List Int)(es:List Elem):Hz:=[(0,some (boxS f st)),(1,some (jE es))]
theorem S.SQ(st:List Int)(f:Bool)(es:List Elem)(hs:st.length<2^30)(hl:es.length<2^30)(he: ∀ e∈es,e.counts.length<2^30)(n:Nat):aF Tryz.prog 82 (V.aS [.own 1,.fn 61 [.ptr 0 0 0]]) (Hz.aj (hD f st es)) n (fun t hp=>t= .int (EN st es 0)/\hp=Hz.aj (hD f st es)):=by
 refine lV.of (nx:=2) (h0:=hD f st es) Bd.dN (by simp) ⟨_,_,rfl,rfl⟩ rfl rfl ?_
 conv=>whnf
 refine aU.objs 2 [0,1,6,7] (fun i:Nat=>[(8,.int i)]) (fun _=>[(0,boxS f st),(1,jE es)]) (fun i=>i<=es.length/\EN st es 0=EN st (es.drop i) i) (fun i=>es.length-i) 0 [0,1] rfl (by decide) (fun _=>rfl) ⟨by omega,by simp⟩ ?_ ?_ ?_
 ·exact⟨⟨_,rfl,.eq rfl⟩,trivial⟩
 ·exact⟨⟨rfl,(fun _=>rfl),rfl,rfl,rfl,_,rfl,rfl,rfl,bG.of_eq rfl⟩,⟨rfl,(fun _=>rfl),rfl,rfl,rfl,_,rfl,rfl,rfl,bG.of_eq rfl⟩,trivial⟩
 conv=>whnf
 refine⟨⟨⟨_,rfl,.eq rfl⟩,⟨_,rfl,.eq rfl⟩,⟨_,rfl,.eq rfl⟩,⟨_,rfl,.eq rfl⟩,trivial⟩,rfl,?_⟩
 rintro i ⟨hi,hall⟩
 conv=>whnf
 refine⟨fun h3=>?_,fun h3=>?_⟩
 ·have hi':i<es.length:=by simpa using h3
  rw[cO default hi'] at hall
  simp only[EN] at hall
  conv=>whnf
  repeat(refine VC.mk (by simp only[Rw.rng,Int.toNat_natCast]; omega) ?_; conv=>whnf)
  refine ah.Dq (i:=0) (ts:=[.dat (.elem (es.getD i default)),.ptr 0 0 0]) (S.Eu st f (es.getD i default) hs (he _ (getM hi'))) (by rfl) (by rfl) (by rfl) (by rfl) (by rfl) (by rfl) ?_
  rintro t hp ⟨rfl,rfl⟩
  refine .inl ⟨.bool _,boxS f st,rfl,rfl,rfl,?_⟩
  conv=>whnf
  refine⟨fun h4=>?_,fun h4=>?_⟩
  ·conv=>whnf
   rw[h4] at hall
   exact fV.same (nx:=2) rfl ⟨rfl,rfl,trivial⟩ rfl rfl ⟨by rw[hall]; rfl,rfl⟩
  ·conv=>whnf
   refine .mk (by simp only[okI] at *; omega) ?_
   conv=>whnf
   rw[h4] at hall
   exact⟨i+1,[0,1],⟨by omega,hall⟩,by omega,⟨⟨_,rfl,.eq rfl⟩,trivial⟩,⟨⟨_,rfl,.eq rfl⟩,⟨_,rfl,.eq rfl⟩,⟨_,rfl,.eq rfl⟩,⟨_,rfl,.eq rfl⟩,trivial⟩,⟨rfl,(fun _=>rfl),rfl,rfl,rfl,_,rfl,rfl,rfl,bG.of_eq rfl⟩,⟨rfl,(fun _=>rfl),rfl,rfl,rfl,_,rfl,rfl,rfl,bG.of_eq rfl⟩,trivial⟩
 ·conv=>whnf
  have hi':es.length<=i:=by simpa using h3
  rw[List.drop_eq_nil_of_le hi'] at hall
  exact fV.same (nx:=2) rfl ⟨rfl,rfl,trivial⟩ rfl rfl ⟨by rw[hall]; rfl,rfl⟩
def dV(st:List Int)(es:List Elem):List Elem:=es.filter (oV st)
theorem XW{st:List Int}: ∀ {es:List Elem} {i:Nat},EN st es i= -1->dV st es=es:=by
 intro es
 induction es with
 |nil=>intro i _; rfl
 |cons x r ih =>
  intro i h
  simp only[EN] at h
  cases hb:oV st x with
  |false=>rw[hb] at h; simp at h
  |true=>rw[hb] at h; simp only[dV,List.filter_cons,hb,if_true]; exact congrArg _ (ih h)
theorem Vs{st:List Int}: ∀ {es:List Elem} {i:Nat},EN st es i≠ -1-> ∃ k,EN st es i=((i+k:Nat):Int)/\k<es.length/\dV st (es.take k)=es.take k/\oV st (es.getD k default)=false:=by
 intro es
 induction es with
 |nil=>intro i h; exact absurd rfl h
 |cons x r ih =>
  intro i h
  simp only[EN] at h ⊢
  cases hb:oV st x with
  |false=>exact⟨0,by simp,by simp,rfl,by simpa using hb⟩
  |true =>
   rw[hb] at h
   obtain⟨k,h1,h2,h3,h4⟩:=ih h
   refine⟨k+1,by show EN st r (i+1)=_; rw[h1]; omega,by simpa using h2,?_,by simpa using h4⟩
   simp only[dV,List.take_succ_cons,List.filter_cons,hb,if_true]; exact congrArg _ h3
theorem Dz{st:List Int}{es:List Elem}{j:Nat}(hj:j<es.length):dV st (es.take (j+1))=bif oV st (es.getD j default) then dV st (es.take j)++[es.getD j default] else dV st (es.take j):=by
 have e:es[j]?.toList=[es.getD j default]:=by simp[hj]
 unfold dV
 rw[List.take_add_one,List.filter_append,e]
 cases hb:oV st (es.getD j default) with
 |true=>rw[List.filter_cons,hb]; rfl
 |false=>rw[List.filter_cons,hb]; simp
theorem Gq{st:List Int}{es:List Elem}{j:Nat}:(dV st (es.take j)).length<=j:=by
 have:=List.length_filter_le (oV st) (es.take j)
 rw[List.length_take] at this
 unfold dV; omega
def midD(st:List Int)(es:List Elem)(j:Nat):List Elem:=dV st (es.take j)++es.drop (dV st (es.take j)).length
theorem Vt{st:List Int}{es:List Elem}{j:Nat}(hj:j<=es.length):(midD st es j).length=es.length:=by
 have:=Gq (st:=st) (es:=es) (j:=j)
 simp[midD]; omega
theorem Vu{st:List Int}{es:List Elem}{j k:Nat}(hk:j<=k):(midD st es j).getD k default=es.getD k default:=by
 have:=Gq (st:=st) (es:=es) (j:=j)
 unfold midD
 rw[List.getD_eq_getElem?_getD,List.getElem?_append_right (by omega),List.getElem?_drop]
 rw[show(dV st (es.take j)).length+(k-(dV st (es.take j)).length)=k by omega]
 rw[<- List.getD_eq_getElem?_getD]
theorem Vw{st:List Int}{es:List Elem}{j:Nat}(hj:j<es.length)(hb:oV st (es.getD j default)=true):(midD st es j).set (dV st (es.take j)).length (es.getD j default)=midD st es (j+1):=by
 have h1:=Gq (st:=st) (es:=es) (j:=j)
 have h2:=Dz (st:=st) hj
 rw[hb] at h2
 have h2':dV st (es.take (j+1))=dV st (es.take j)++[es.getD j default]:=h2
 unfold midD
 rw[h2',cO default (show(dV st (es.take j)).length<es.length by omega),Sz rfl]
 simp
theorem ah.drop2{P:Program}{f:FuncId}{ts args:List V}{h:Hz}{i j n:Nat}{o0 o1:OV}{K:V->Hz->Prop}{KW:Nat->V->Hz->Prop}{post:T->Hp->Prop}(H:aF P f (V.aS ts) (Hz.aj [(0,some o0),(1,some o1)]) 2 post)
  (ha:T.bY (fun a=>bif Nat.beq a 0 then i else j) (V.aS ts)=V.aS args) (hid:T.Jh 2 (V.aS ts)=true) (hg:qP 2 [(0,some o0),(1,some o1)]=true) (hf0:o0.Io=true) (hf:o1.Io=true)
  (hi:h.get i=some o0) (hj:h.get j=some o1) (hij:i≠j) (hn:h.get n=none) (hin:n≠i) (hjn:n≠j)
  (hK: ∀ t hp,post t hp-> ∃ v,hp=Hz.aj [(0,some o0)]/\t=v.aH/\v.free=true/\K v ((j,none)::h)):ah P false none f args h n K KW:=by
 have hG:=kG hg
 have hlt: ∀ a:Nat,a<2->(Hz.aj [(0,some o0),(1,some o1)] a).isSome=true:=fun a ha=>by
  rw[bZ,rE]; by_cases e:a=0
  ·rw[if_pos e]; rfl
  ·rw[if_neg e,if_pos (by omega)]; rfl
 have hsome: ∀ a,(Hz.aj [(0,some o0),(1,some o1)] a).isSome=true->a=0\/a=1:=fun a ha=>by
  rw[bZ,rE] at ha; split at ha
  ·left; assumption
  ·split at ha
   ·right; assumption
   ·cases ha
 let ρ:Nat->Nat:=fun a=>bif Nat.beq a 0 then i else j
 have Vx: ∀ a b,(Hz.aj [(0,some o0),(1,some o1)] a).isSome=true->(Hz.aj [(0,some o0),(1,some o1)] b).isSome=true->ρ a=ρ b->a=b:=by
  intro a b ha hb e
  rcases hsome a ha with rfl|rfl<;>rcases hsome b hb with rfl|rfl
  ·rfl
  ·exact absurd e hij
  ·exact absurd e.symm hij
  ·rfl
 have inj: ∀ a b,((Hz.aj [(0,some o0),(1,some o1)] a).isSome=true\/a=2)->((Hz.aj [(0,some o0),(1,some o1)] b).isSome=true\/b=2)->nameAt ρ 2 n a=nameAt ρ 2 n b->a=b:=by
  intro a b ha hb e
  rcases ha with ha|rfl
  ·rcases hb with hb|rfl
   ·rcases hsome a ha with rfl|rfl<;>rcases hsome b hb with rfl|rfl
    ·rfl
    ·exact absurd e hij
    ·exact absurd e.symm hij
    ·rfl
   ·rcases hsome a ha with rfl|rfl
    ·exact absurd e.symm hin
    ·exact absurd e.symm hjn
  ·rcases hb with hb|rfl
   ·rcases hsome b hb with rfl|rfl
    ·exact absurd e hin
    ·exact absurd e hjn
   ·rfl
 refine ah.heap (post:=fun t' h'=> ∃ t h1,post t h1/\t'=t.ren (nameAt ρ 2 n)/\h'=placed ρ 2 n (Hz.aj [(0,some o0),(1,some o1)]) h.aj h1) ?_ ?_
 ·rw[<- ha]
  refine aF.place H (T.ak hlt _ (rQ hid)) (fun a ob hob=>?_) (by rw[bZ,rE]; rfl) (fun a ob hob=>?_) Vx
  ·exact⟨T.ak hlt _ (hG a ob hob).2.1,(hG a ob hob).2.2⟩
  ·have hs:(Hz.aj [(0,some o0),(1,some o1)] a).isSome=true:=by rw[hob]; rfl
   rcases hsome a hs with rfl|rfl
   ·rw[bZ,if_pos rfl] at hob; cases hob
    show h.aj i=_
    rw[aJ hi,kL hf0]
   ·rw[bZ,rE,if_neg (by decide),if_pos rfl] at hob; cases hob
    show h.aj j=_
    rw[aJ hj,kL hf]
 ·rintro t' h' ⟨t,h1,hp,rfl,rfl⟩
  obtain⟨v,rfl,rfl,hvf,hk⟩:=hK t h1 hp
  refine⟨v,_,Ew (V.lX v hvf) _,?_,hk⟩
  funext a
  rw[bZ]
  have at0:placed ρ 2 n (Hz.aj [(0,some o0),(1,some o1)]) h.aj (Hz.aj [(0,some o0)]) i=(Hz.aj [(0,some o0)] 0).map (Ob.ren (nameAt ρ 2 n)):=mX (h:=h.aj) (h1:=Hz.aj [(0,some o0)]) inj (i:=0) (.inl (hlt 0 (by decide)))
  have at1:placed ρ 2 n (Hz.aj [(0,some o0),(1,some o1)]) h.aj (Hz.aj [(0,some o0)]) j=(Hz.aj [(0,some o0)] 1).map (Ob.ren (nameAt ρ 2 n)):=mX (h:=h.aj) (h1:=Hz.aj [(0,some o0)]) inj (i:=1) (.inl (hlt 1 (by decide)))
  have at2:placed ρ 2 n (Hz.aj [(0,some o0),(1,some o1)]) h.aj (Hz.aj [(0,some o0)]) n=(Hz.aj [(0,some o0)] 2).map (Ob.ren (nameAt ρ 2 n)):=mX (h:=h.aj) (h1:=Hz.aj [(0,some o0)]) inj (i:=2) (.inr rfl)
  by_cases e1:a=j
  ·subst e1; rw[if_pos rfl,at1,rE,if_neg (by decide)]; rfl
  ·rw[if_neg e1]
   by_cases e0:a=i
   ·subst e0
    rw[at0,rE,if_pos rfl,aJ hi,Option.map_some,kL hf0]
   ·by_cases e2:a=n
    ·subst e2; rw[at2,rE,if_neg (by decide)]; simp only[Hz.aj,hn]; rfl
    ·exact wY (by
      rintro⟨b,hb,e⟩
      rcases hb with hb|rfl
      ·rcases hsome b hb with rfl|rfl
       ·exact e0 e.symm
       ·exact e1 e.symm
      ·exact e2 e.symm)
theorem aae{h:Hz}{j k:Nat}{Z:Nat->Prop}{l:List Elem}{x:List V}(hz:Z j)(q:h.get j=some (.row 38 3 (.elems l) x))(hk:k<=l.length):T.sub Z h.aj (V.row 3 false (.elems (l.take k))).aH (V.nC j 0 k).aH:=by
 show T.sub Z h.aj (.sl 3 false ((l.take k).map fU)) (.nC j 0 k)
 simp only[T.sub]
 refine⟨trivial,hz,tH _,by decide,38,l.map fU++V.aS x,?_,by simp; omega,?_⟩
 ·rw[aJ q]; rfl
 ·rw[List.drop_zero,List.take_append_of_le_length (by simp; omega),List.map_take]
set_option maxHeartbeats 1000000 in
theorem S.DeleteFunc(st:List Int)(f:Bool)(es:List Elem)(hs:st.length<2^30)(hl:es.length<2^30)(he: ∀ e∈es,e.counts.length<2^30)(n:Nat):aF Tryz.prog 60 (V.aS [.own 1,.fn 61 [.ptr 0 0 0]]) (Hz.aj (hD f st es)) n (fun t hp=>t=(V.row 3 false (.elems (dV st es))).aH/\hp=Hz.aj [(0,some (boxS f st))]):=by
 refine lV.of (nx:=2) (h0:=hD f st es) Bd.dK (by simp) ⟨_,_,rfl,rfl⟩ rfl rfl ?_
 conv=>whnf
 refine ah.heap (S.SQ st f es hs hl he _) ?_
 rintro t hp ⟨rfl,rfl⟩
 refine⟨.int _,hD f st es,rfl,rfl,?_⟩
 conv=>whnf
 refine⟨fun h1=>?_,fun h1=>?_⟩
 ·have hno:=XW (st:=st) (es:=es) (i:=0) (by simpa using h1)
  conv=>whnf
  rw[hno]
  exact fV.ofS (u:=.row 3 false (.elems es)) (fun i=>i=1) (by decide) rfl rfl rfl (U6 rfl rfl) ⟨rfl,rfl⟩
 obtain⟨k,hk1,hk2,hk3,hk4⟩:=Vs (st:=st) (es:=es) (i:=0) (by
  have h2:(EN st es 0== -1)=false:=h1
  exact beq_eq_false_iff_ne.1 h2)
 rw[Nat.zero_add] at hk1
 rw[hk1]
 have hkn:=Dz (st:=st) hk2
 rw[hk4] at hkn
 have hkn':dV st (es.take (k+1))=es.take k:=hkn.trans hk3
 conv=>whnf
 refine .mk (by simp only[okI]; omega) ?_
 conv=>whnf
 have abQ:midD st es (k+1)=es:=by
  unfold midD
  rw[hkn',List.length_take,Nat.min_eq_left (by omega),List.take_append_drop]
 refine aU.objs 2 [0,1] (fun j:Nat=>[(6,.int j),(5,.int (dV st (es.take j)).length)]) (fun j=>[(0,boxS f st),(1,jE (midD st es j))]) (fun j=>k+1<=j/\j<=es.length/\(dV st (es.take j)).length<j) (fun j=>es.length-j) (k+1) [0,1] rfl (by decide) (fun _=>rfl) ⟨Nat.le_refl _,by omega,by rw[hkn',List.length_take]; omega⟩ ?_ ?_ ?_
 ·refine⟨⟨_,rfl,.eq rfl⟩,⟨_,rfl,.eq ?_⟩,trivial⟩
  show T.int ((dV st (es.take (k+1))).length:Nat)=T.int (k:Nat)
  rw[hkn',List.length_take,Nat.min_eq_left (by omega)]
 ·refine⟨⟨rfl,(fun _=>rfl),rfl,rfl,rfl,_,rfl,rfl,rfl,bG.of_eq rfl⟩,⟨rfl,(fun _=>rfl),rfl,rfl,rfl,_,rfl,rfl,rfl,bG.of_eq ?_⟩,trivial⟩
  rw[abQ]
 conv=>whnf
 refine⟨⟨⟨_,rfl,.eq rfl⟩,⟨_,rfl,.eq rfl⟩,trivial⟩,rfl,?_⟩
 rintro j ⟨hj0,hj,hsj⟩
 have hml:=Vt (st:=st) hj
 conv=>whnf
 refine⟨fun h3=>?_,fun h3=>?_⟩
 ·have hj':j<es.length:=by
   have h4:(j:Int)<((midD st es j).length:Int):=of_decide_eq_true h3
   omega
  have hge:=Vu (st:=st) (es:=es) (j:=j) (k:=j) (Nat.le_refl _)
  have hst:=Vw (st:=st) hj'
  have hsn:=Dz (st:=st) hj'
  conv=>whnf
  repeat(refine VC.mk (by simp only[Rw.rng,Int.toNat_natCast,hml]; omega) ?_; conv=>whnf)
  refine ah.Dq (i:=0) (ts:=[.dat (.elem ((midD st es j).getD j default)),.ptr 0 0 0]) (S.Eu st f ((midD st es j).getD j default) hs (by rw[hge]; exact he _ (getM hj'))) (by rfl) (by rfl) (by rfl) (by rfl) (by rfl) (by rfl) ?_
  rintro t hp ⟨rfl,rfl⟩
  refine .inl ⟨.bool _,boxS f st,rfl,rfl,rfl,?_⟩
  rw[hge]
  conv=>whnf
  refine⟨fun h4=>?_,fun h4=>?_⟩
  ·have h4':oV st (es.getD j default)=true:=by simpa using h4
   rw[h4'] at hsn
   have SV:dV st (es.take (j+1))=dV st (es.take j)++[es.getD j default]:=hsn
   conv=>whnf
   repeat(refine VC.mk (by first|(simp only[Rw.rng,Int.toNat_natCast,hml]; omega)|(simp only[okI]; omega)) ?_; conv=>whnf)
   refine⟨j+1,[0,1],⟨by omega,by omega,by rw[SV,List.length_append]; simp only[List.length_cons,List.length_nil]; omega⟩,by omega,⟨⟨_,rfl,.eq rfl⟩,⟨_,rfl,.eq ?_⟩,trivial⟩,⟨⟨_,rfl,.eq rfl⟩,⟨_,rfl,.eq rfl⟩,trivial⟩,⟨rfl,(fun _=>rfl),rfl,rfl,rfl,_,rfl,rfl,rfl,bG.of_eq rfl⟩,⟨rfl,(fun _=>rfl),rfl,rfl,rfl,_,rfl,rfl,rfl,bG.of_eq ?_⟩,trivial⟩
   ·show T.int ((dV st (es.take (j+1))).length:Nat)=T.int (((dV st (es.take j)).length:Int)+1)
    rw[SV,List.length_append]; rfl
   ·show(jE (midD st es (j+1))).aG.l=(jE ((midD st es j).set (dV st (es.take j)).length ((midD st es j).getD j default))).aG.l
    rw[hge,hst h4']
  ·have h4':oV st (es.getD j default)=false:=by simpa using h4
   rw[h4'] at hsn
   have SV:dV st (es.take (j+1))=dV st (es.take j):=hsn
   conv=>whnf
   refine .mk (by simp only[okI] at *; omega) ?_
   conv=>whnf
   refine⟨j+1,[0,1],⟨by omega,by omega,by rw[SV]; omega⟩,by omega,⟨⟨_,rfl,.eq rfl⟩,⟨_,rfl,.eq ?_⟩,trivial⟩,⟨⟨_,rfl,.eq rfl⟩,⟨_,rfl,.eq rfl⟩,trivial⟩,⟨rfl,(fun _=>rfl),rfl,rfl,rfl,_,rfl,rfl,rfl,bG.of_eq rfl⟩,⟨rfl,(fun _=>rfl),rfl,rfl,rfl,_,rfl,rfl,rfl,bG.of_eq ?_⟩,trivial⟩
   ·rw[SV]; rfl
   ·unfold midD; rw[SV]
 ·have hj':j=es.length:=by
   have h4: ¬ (j:Int)<((midD st es j).length:Int):=of_decide_eq_false h3
   omega
  subst hj'
  have hall:dV st (es.take es.length)=dV st es:=by rw[List.take_length]
  have hle:(dV st (es.take es.length)).length<=es.length:=by omega
  conv=>whnf
  repeat(refine VC.mk (by first|(simp only[Rw.qN,hml]; omega)|(refine⟨?_,rfl⟩; show((dV st (es.take es.length)).length:Int).toNat<=(midD st es es.length).length; rw[hml,Int.toNat_natCast]; omega)|(show(0:Int)<=((dV st (es.take es.length)).length:Int)/\((dV st (es.take es.length)).length:Int)<=(((midD st es es.length).take ((dV st (es.take es.length)).length:Int).toNat).length:Int); rw[List.length_take,hml,Int.toNat_natCast]; omega)|(show _<=(midD st es es.length).length/\(midD st es es.length).length=(midD st es es.length).length; rw[hml]; simp only[Int.toNat_natCast]; omega)|(show(0:Int)<=_/\_<=(((midD st es es.length).take _).length:Int); rw[List.length_take,hml]; simp only[Int.toNat_natCast]; omega)) ?_; conv=>whnf)
  have htk:(midD st es es.length).take (dV st (es.take es.length)).length=dV st es:=by
   unfold midD; rw[List.take_left,hall]
  have ac0:((midD st es es.length).take (dV st (es.take es.length)).length).take (dV st (es.take es.length)).length=dV st es:=by
   rw[List.take_take,Nat.min_self,htk]
  refine fV.ofS (u:=.row 3 false (.elems (dV st es))) (fun i=>i=1) (by decide) rfl rfl rfl ?_ ⟨rfl,rfl⟩
  rw[<- ac0]
  exact aae (k:=(dV st (es.take es.length)).length) rfl rfl (by rw[List.length_take,hml]; omega)
theorem ah.delete{st:List Int}{f:Bool}{es:List Elem}{h:Hz}{i j n:Nat}{K:V->Hz->Prop}{KW:Nat->V->Hz->Prop}(hs:st.length<2^30)(hl:es.length<2^30)(he: ∀ e∈es,e.counts.length<2^30)(hi:h.get i=some (boxS f st))(hj:h.get j=some (jE es))(hij:i≠j)(hn:h.get n=none)(hin:n≠i)(hjn:n≠j)(hK:K (.row 3 false (.elems (dV st es))) ((j,none)::h)):ah Tryz.prog false none 60 [.own j,.fn 61 [.ptr i 0 0]] h n K KW:=by
 refine ah.drop2 (ts:=[.own 1,.fn 61 [.ptr 0 0 0]]) (o0:=boxS f st) (o1:=jE es) (S.DeleteFunc st f es hs hl he 2) rfl rfl rfl rfl rfl hi hj hij hn hin hjn ?_
 rintro t hp ⟨rfl,rfl⟩
 exact⟨.row 3 false (.elems (dV st es)),rfl,rfl,rfl,hK⟩
theorem yY{p:aW}(h:zC p=0):Dn p/\yj p=true:=by
 unfold zC at h
 obtain⟨h1,h2⟩:=bz (fun _=>by decide) h
 rw[h2] at h1
 refine⟨U4 h2,?_⟩
 have hm:(kC p).monadic=true:=by simpa using h1
 simp only[kC,Bool.and_eq_true] at hm
 exact hm.1
theorem FP{p:aW}{q:Prop'}(h:Bf p q=0):qO p q=0/\zC p=0/\q.kind=1:=by
 unfold Bf at h
 obtain⟨h1,h2⟩:=bz nz h
 have h3:=vK h2 (by decide)
 rw[Bool.or_eq_false_iff] at h3
 exact⟨by simpa using h1,by simpa using h3.1,by simpa using h3.2⟩
def zf(l:List Clause):Nat:=(bF l).toNat
theorem Gs{l:List Clause}:bF l=zf l:=by have:=qF (l:=l); unfold zf; omega
def kD(p:aW):Nat:=max 1 p.values.length
def vT(p:aW)(q:Prop')(l:List Clause):List Elem:=dV (yt p q) (gI (zf l+3) p.states.length (kD p))
theorem S.jg(p:aW)(q:Prop')(m:Nat)(hp:dI p)(hq:oO q)(hv:qO p q=0)(hF:Dn p)(hm:m<=8):au Tryz.prog 32 [.dat (.eU p),.dat (.prop q),.int m] (.row 3 false (.elems (dV (yt p q) (gI (m+1) p.states.length (kD p))))):=by
 have h1:=hF.pos; have h2:=hF.states; have h3:=hF.values
 have nJ:kD p<=3:=by unfold kD; omega
 have hb0:0<m+1:=by omega
 have hok:=y9 (b:=m+1) (n:=p.states.length) (vals:=kD p) hb0
 have MG:(gI (m+1) p.states.length (kD p)).length<=3*531441:=by
  rw[tq]
  have:=wW (b:=m+1) (n:=p.states.length) (by omega) h2
  exact Nat.mul_le_mul nJ (by omega)
 refine au.of Bd.jg (by simp) rfl rfl ?_
 conv=>whnf
 refine ah.pure (S.lD p q hp hq hv) rfl ?_
 conv=>whnf
 conv=>whnf
 refine ah.mkRow (r:=.elems (gI (m+1) p.states.length (kD p))) (S.SB p p.states.length (kD p) m hp rfl h1 h2 rfl nJ hm) ?_
 conv=>whnf
 refine ah.delete (f:=false) (st:=yt p q) (es:=gI (m+1) p.states.length (kD p)) (RY hp hq) (by omega) (fun e he=>by rw[(hok e he).len]; omega) (by rfl) (by rfl) (by decide) (by rfl) (by decide) (by decide) ?_
 conv=>whnf
 exact aA.eqv rfl
def wP(p:aW)(q:Prop')(l:List Clause):Int:=bif Bf p q !=0 then Bf p q else mW p l
def OX(p:aW)(q:Prop')(l:List Clause):V:=.dM [.int (bif wP p q l !=0 then 0 else orM l.length (tC l (vT p q l))),.int (wP p q l)]
set_option maxHeartbeats 1000000 in
theorem S.dP(p:aW)(q:Prop')(l:List Clause)(f:Bool)(hp:dI p)(hq:oO q)(hl:SmallK l):au Tryz.prog 12 [.dat (.eU p),.dat (.prop q),.row 4 f (.clauses l)] (OX p q l):=by
 refine au.of Bd.dP (by simp) rfl rfl ?_
 conv=>whnf
 refine ah.pure (S.lF p q hp hq) rfl ?_
 conv=>whnf
 refine⟨fun h1=>?_,fun h1=>?_⟩
 ·have he:wP p q l=Bf p q:=by rw[wP,show(Bf p q !=0)=true from h1]; rfl
  conv=>whnf
  exact aA.eqv (by rw[OX,he,show(Bf p q !=0)=true from h1]; rfl)
 have he:wP p q l=mW p l:=by rw[wP,show(Bf p q !=0)=false from h1]; rfl
 conv=>whnf
 refine ah.lend (S.vk p l false f hp hl) ⟨aC _,MH trivial rfl rfl,trivial⟩ rfl rfl ?_
 conv=>whnf
 refine⟨fun h2=>?_,fun h2=>?_⟩
 ·conv=>whnf
  exact aA.eqv (by rw[OX,he,show(mW p l !=0)=true from h2]; rfl)
 obtain⟨hv,hin,_⟩:=FP (FQ h1)
 obtain⟨hF,_⟩:=yY hin
 obtain⟨hR,abR⟩:=Aj (FQ h2)
 have g1:=hF.pos; have g2:=hF.states; have g3:=hF.values
 have hrk:=Gs (l:=l)
 have aad:bF l<=3:=sZ fun k hk=>(hR.cl k hk).two
 have hU:au Tryz.prog 32 [.dat (.eU p),.dat (.prop q),.int (bF l+2)] (.row 3 false (.elems (vT p q l))):=by
  have:=S.jg p q (zf l+2) hp hq hv hF (by omega)
  rw[hrk]; exact this
 have hok: ∀ e∈vT p q l,uH (zf l+3) p.states.length (kD p) e:=fun e he=>y9 (by omega) e (List.mem_filter.1 he).1
 have nJ:kD p<=3:=by unfold kD; omega
 have UJ:zf l+3<=9:=by omega
 have MG:(vT p q l).length<=3*531441:=by
  refine Nat.le_trans (List.length_filter_le _ _) ?_
  rw[tq]
  have:=wW (b:=zf l+3) (n:=p.states.length) UJ g2
  exact Nat.mul_le_mul nJ (by omega)
 have hV:OX p q l= .dM [.int (orM l.length (tC l (vT p q l))),.int 0]:=by
  rw[OX,he,show(mW p l !=0)=false from h2,FQ h2]; rfl
 rw[hV]
 generalize vT p q l=es at hU hok MG ⊢
 rw[<- Vf]
 conv=>whnf
 refine ah.BG hl rfl ?_
 conv=>whnf
 refine .mk (by simp only[okI]; omega) ?_
 conv=>whnf
 refine ah.pure (hU) rfl ?_
 conv=>whnf
 refine aU.Et (ι:=Nat×List (Int×List Bool)) 100 [2,10,39,40] (fun x=>[(41,.int x.1),(11,.int (Ai l (es.take x.1):Nat))]) (fun x=>[(18,yw l f 19),(19,xR x.2)]) (fun x=>x.1<=es.length/\iW p.states.length l x.2) (fun x=>es.length-x.1) (0,[]) [18,19] rfl (by decide) (fun _=>rfl) ⟨Nat.zero_le _,iW.nil⟩ ?_ ?_ ?_
 ·exact⟨⟨_,rfl,.eq rfl⟩,⟨_,rfl,.eq rfl⟩,trivial⟩
 ·exact⟨⟨rfl,nofun,rfl,rfl,_,rfl,rfl,rfl,bG.of_eq rfl⟩,okF rfl nofun rfl rfl rfl ⟨rfl,rfl⟩ rfl,trivial⟩
 conv=>whnf
 refine⟨⟨⟨_,rfl,.eq rfl⟩,⟨_,rfl,.eq rfl⟩,⟨_,rfl,.eq rfl⟩,⟨_,rfl,.eq rfl⟩,trivial⟩,rfl,?_⟩
 rintro⟨i,em⟩ ⟨hi,hem⟩
 conv=>whnf
 refine⟨fun h3=>?_,fun h3=>?_⟩
 ·have hi':i<es.length:=by simpa using h3
  have hue:=hok _ (getM (d:=default) hi')
  have hte:=hR.at hue UJ nJ g1 g2
  have zG:(es.getD i default).counts.length=p.states.length:=hue.len
  have hnx:=Sl (l:=l) hi'
  have hfi:=Gp (l:=l) (x:=es.getD i default)
  have hle:Ai l (es.take i)<=l.length:=by rw[Vf]; exact Vg
  have hk1:=hl.len
  conv=>whnf
  refine .mk (by simp only[Rw.rng] at *; omega) ?_
  conv=>whnf
  refine ah.row hl hte (show iW (es.getD i default).counts.length l em by rw[zG]; exact hem) rfl rfl (by decide) rfl (by decide) (by decide) (fun J6 rP=>?_)
  replace rP:iW (es.getD i default).counts.length l J6:=rP
  rw[zG] at rP
  conv=>whnf
  refine ah.pure (S.Gn (fZ l (es.getD i default)) false (by rw[qG]; omega)) rfl ?_
  conv=>whnf
  rw[hfi]
  cases hd:decide (dF l (es.getD i default)<l.length) with
  |true =>
   conv=>whnf
   refine Fork.mk (fun _=>?_) (fun q=>absurd (q.symm.trans (decide_eq_true (show(0:Int)<=((dF l (es.getD i default):Nat):Int) by omega))) Bool.false_ne_true)
   conv=>whnf
   refine .mk (by simp only[okI] at *; omega) ?_
   conv=>whnf
   conv=>whnf
   refine⟨(i+1,J6),[18,19],⟨by show i+1<=_; omega,rP⟩,by show es.length-(i+1)<es.length-i; omega,⟨⟨_,rfl,.eq rfl⟩,⟨_,rfl,.eq ?_⟩,trivial⟩,⟨⟨_,rfl,.eq rfl⟩,⟨_,rfl,.eq rfl⟩,⟨_,rfl,.eq rfl⟩,⟨_,rfl,.eq rfl⟩,trivial⟩,⟨rfl,nofun,rfl,rfl,_,rfl,rfl,rfl,bG.of_eq rfl⟩,okF rfl nofun rfl rfl rfl ⟨rfl,rfl⟩ rfl,trivial⟩
   show T.int (Ai l (es.take (i+1)):Nat)=T.int (min (Ai l (es.take i):Int) (dF l (es.getD i default):Nat))
   rw[hnx]; exact congrArg T.int (by omega)
  |false =>
   have hge:=of_decide_eq_false hd
   conv=>whnf
   refine Fork.mk (fun q=>absurd (q.symm.trans ((rfl:false=false))).symm Bool.false_ne_true) (fun _=>?_)
   conv=>whnf
   refine .mk (by simp only[okI] at *; omega) ?_
   conv=>whnf
   conv=>whnf
   refine⟨(i+1,J6),[18,19],⟨by show i+1<=_; omega,rP⟩,by show es.length-(i+1)<es.length-i; omega,⟨⟨_,rfl,.eq rfl⟩,⟨_,rfl,.eq ?_⟩,trivial⟩,⟨⟨_,rfl,.eq rfl⟩,⟨_,rfl,.eq rfl⟩,⟨_,rfl,.eq rfl⟩,⟨_,rfl,.eq rfl⟩,trivial⟩,⟨rfl,nofun,rfl,rfl,_,rfl,rfl,rfl,bG.of_eq rfl⟩,okF rfl nofun rfl rfl rfl ⟨rfl,rfl⟩ rfl,trivial⟩
   show T.int (Ai l (es.take (i+1)):Nat)=T.int (Ai l (es.take i):Nat)
   rw[hnx,Nat.min_eq_left (by omega)]
 ·have hi':i=es.length:=by have:es.length<=i:=(by simpa using h3); omega
  subst hi'
  rw[List.take_length]
  conv=>whnf
  refine⟨fun h4=>?_,fun h4=>?_⟩
  ·have h4':(Ai l es==l.length)=true:=by
    have h5:((Ai l es:Int)==(l.length:Int))=true:=h4
    rw[beq_iff_eq] at h5 ⊢; omega
   conv=>whnf
   rw[orM,h4']
   exact aA.eqv rfl
  ·have h4':(Ai l es==l.length)=false:=by
    have h5:((Ai l es:Int)==(l.length:Int))=false:=h4
    rw[beq_eq_false_iff_ne] at h5 ⊢; omega
   conv=>whnf
   rw[orM,h4']
   exact aA.eqv rfl
def EO(st c:List Int):Int:=(st.map fun x=>c.getD x.toNat 0).sum
def Ak(q:Prop')(c:List Int):Bool:=q.bad.all fun k=>decide (k.least<=EO k.states c)
structure aaf(n:Nat)(q:Prop'):Prop where
 place: ∀ k∈q.bad,rC n k.states
 least: ∀ k∈q.bad,1<=k.least/\k.least<=3
 some: ∀ k∈q.bad,k.states≠[]
theorem SX{st c:List Int}{i:Nat}(hi:i<st.length):EO (st.take (i+1)) c=EO (st.take i) c+c.getD (st.getD i 0).toNat 0:=by
 unfold EO
 rw[List.take_add_one,List.map_append,List.sum_append]; simp[hi]
theorem Vy{st c:List Int}(h:EW 8 c):0<=EO st c/\EO st c<=8*st.length:=by
 unfold EO
 induction st with
 |nil=>simp
 |cons x r ih =>
  have:=h.g (by omega) x.toNat
  simp only[List.map_cons,List.sum_cons,List.length_cons]; omega
theorem getD_mem{α:Type}{l:List α}{i:Nat}{d:α}(hi:i<l.length):l.getD i d∈l:=by
 rw[show l.getD i d=l[i] by simp[hi]]; exact List.getElem_mem hi
theorem S.nK(q:Prop')(e:Elem)(hq:oO q)(hb:aaf e.counts.length q)(hc:EW 8 e.counts)(_hl:e.counts.length<2^30):au Tryz.prog 65 [.dat (.prop q),.dat (.elem e)] (.bool (Ak q e.counts)):=by
 have q2:=hq.bad
 refine au.of Bd.nK (by simp) rfl rfl ?_
 conv=>whnf
 refine aU.same [3,11,12] (fun i:Nat=>[(13,.int i)]) (fun i=>i<=q.bad.length/\(q.bad.take i).all (fun k=>decide (k.least<=EO k.states e.counts))=true) (fun i=>q.bad.length-i) 0 rfl (by decide) rfl (fun _=>rfl) ⟨by omega,by simp⟩ ⟨⟨_,rfl,rfl⟩,trivial⟩ ?_
 conv=>whnf
 refine⟨rfl,?_⟩
 rintro i ⟨hi,hall⟩
 conv=>whnf
 refine⟨fun h3=>?_,fun h3=>?_⟩
 ·have hi':i<q.bad.length:=by simpa using h3
  have hk:=getD_mem (d:=default) hi'
  have hpl:=hb.place _ hk
  have hsz:=hq.cnt i
  conv=>whnf
  refine .mk (by simp only[Rw.rng] at *; omega) ?_
  conv=>whnf
  refine aU.same [3,6,11,12,13,18,19] (fun j:Nat=>[(20,.int j),(7,.int (EO ((q.bad.getD i default).states.take j) e.counts))]) (fun j=>j<=(q.bad.getD i default).states.length) (fun j=>(q.bad.getD i default).states.length-j) 0 rfl (by decide) rfl (fun _=>rfl) (Nat.zero_le _) ⟨⟨_,rfl,rfl⟩,⟨_,rfl,rfl⟩,trivial⟩ ?_
  conv=>whnf
  refine⟨rfl,?_⟩
  rintro j hj
  have hs1:=Vy (st:=(q.bad.getD i default).states.take j) hc
  have hl1:((q.bad.getD i default).states.take j).length<=(q.bad.getD i default).states.length:=by rw[List.length_take]; omega
  conv=>whnf
  refine⟨fun h4=>?_,fun h4=>?_⟩
  ·have hj':j<(q.bad.getD i default).states.length:=by simpa using h4
   have hst:=SX (c:=e.counts) hj'
   have hg:=hc.g (by omega) ((q.bad.getD i default).states.getD j 0).toNat
   obtain⟨p1,p2⟩:=hpl _ (getD_mem (d:=0) hj')
   conv=>whnf
   repeat(refine VC.mk (by first|(simp only[Rw.rng,Int.toNat_natCast]; omega)|(simp only[okI,Int.toNat_natCast] at *; omega)) ?_; conv=>whnf)
   refine⟨j+1,by omega,by omega,⟨⟨_,rfl,rfl⟩,⟨_,rfl,?_⟩,trivial⟩,?_,rfl⟩
   ·rw[hst]; rfl
   ·repeat' (first|exact trivial|exact⟨_,rfl,rfl⟩|constructor)
  ·have hj':(q.bad.getD i default).states.length<=j:=by simpa using h4
   rw[List.take_of_length_le hj']
   conv=>whnf
   refine⟨fun h5=>?_,fun h5=>?_⟩
   ·conv=>whnf
    refine aA.bool ?_
    have: ¬ (q.bad.getD i default).least<=EO (q.bad.getD i default).states e.counts:=by
     simp only[Int.toNat_natCast] at h5
     have:=of_decide_eq_true h5; omega
    exact pO (p:=fun k=>decide (k.least<=EO k.states e.counts)) (d:=default) hi' (decide_eq_false this)
   ·conv=>whnf
    refine .mk (by simp only[okI] at *; omega) ?_
    conv=>whnf
    have:(q.bad.getD i default).least<=EO (q.bad.getD i default).states e.counts:=by
     simp only[Int.toNat_natCast] at h5
     have:=of_decide_eq_false h5; omega
    refine⟨i+1,⟨by omega,?_⟩,by omega,⟨⟨_,rfl,rfl⟩,trivial⟩,?_,rfl⟩
    ·rw[nZ (d:=default) hi' hall]; exact decide_eq_true this
    ·repeat' (first|exact trivial|exact⟨_,rfl,rfl⟩|constructor)
 ·have hi':q.bad.length<=i:=by simpa using h3
  rw[List.take_of_length_le hi'] at hall
  conv=>whnf
  exact aA.bool hall
theorem Vz{p:aW}{q:Prop'}(hp:qO p q=0)(hk:q.kind=1):aaf p.states.length q:=by
 unfold qO at hp
 obtain⟨_,hp⟩:=bz nz hp
 obtain⟨_,hp⟩:=bz (fun _=>by decide) hp
 obtain⟨_,hp⟩:=bz (fun _=>by decide) hp
 obtain⟨_,hp⟩:=bz (fun _=>by decide) hp
 obtain⟨_,hp⟩:=bz nz hp
 obtain⟨_,hp⟩:=bz (fun _=>by decide) hp
 rw[show(!(q.kind==1))=false by simp[hk]] at hp
 have hcn:=je hp (y8 q.bad p.states.length) (by simp)
 have hall: ∀ k∈q.bad,U7 p.states.length k=0:=fun k hk=>je hcn _ (List.mem_map.2 ⟨k,hk,rfl⟩)
 have hlb: ∀ k∈q.bad,sV k=false:=fun k hk=>vK (je (hall k hk) (fQ (sV k) 1) (by simp)) (by decide)
 refine⟨fun k hk=>y5 (je (hall k hk) (iP k.states p.states.length) (by simp)),fun k hk=>?_,fun k hk e=>?_⟩
 ·have:=hlb k hk
  simp only[sV,Bool.or_eq_false_iff,decide_eq_false_iff_not] at this; omega
 ·have:=hlb k hk
  rw[sV,e] at this; simp at this
def lgB(l:List Cnt):Int:=l.foldl (fun m k=>max m k.least) 0
theorem XY{l:List Cnt}: ∀ {r:Int},0<=r->l.foldl (fun m k=>max m k.least) r=max r (lgB l):=by
 have: ∀ (l:List Cnt) (r s:Int),l.foldl (fun m k=>max m k.least) (max r s)=max r (l.foldl (fun m k=>max m k.least) s):=by
  intro l
  induction l with
  |nil=>intro r s; rfl
  |cons x l ih=>intro r s; rw[List.foldl_cons,List.foldl_cons,Int.max_assoc,ih]
 intro r hr
 have:=this l r 0
 rw[Int.max_eq_left hr] at this; exact this
theorem aag{l:List Cnt}(h: ∀ k∈l,1<=k.least/\k.least<=3):0<=lgB l/\lgB l<=3:=by
 have: ∀ (l:List Cnt) (r:Int),0<=r/\r<=3->(∀ k∈l,1<=k.least/\k.least<=3)->0<=l.foldl (fun m k=>max m k.least) r/\l.foldl (fun m k=>max m k.least) r<=3:=by
  intro l
  induction l with
  |nil=>intro r hr _; exact hr
  |cons x l ih=>intro r hr h; have:=h x (by simp); exact ih _ (show 0<=max r x.least/\max r x.least<=3 by omega) fun k hk=>h k (List.mem_cons_of_mem _ hk)
 exact this l 0 (by omega) h
theorem XZ{l:List Cnt}{r:Int}{i:Nat}(hi:i<l.length):(l.take (i+1)).foldl (fun m k=>max m k.least) r=max ((l.take i).foldl (fun m k=>max m k.least) r) (l.getD i default).least:=by
 rw[List.take_add_one,List.foldl_append]; simp[hi]
def UK(q:Prop')(l:List Clause):Nat:=(max (bF l) (lgB q.bad)).toNat
theorem aah{q:Prop'}{l:List Clause}:max (bF l) (lgB q.bad)=UK q l:=by have:=qF (l:=l); unfold UK; omega
def VA(p:aW)(q:Prop')(l:List Clause):Option Elem:=XP (fun e=>Ak q e.counts) l (gI (UK q l+3) p.states.length (kD p))
def aai(s:Option Elem):V:=.dM [.dat (.elem (s.getD zE)),.bool s.isSome]
theorem VB{bad:Elem->Bool}{l:List Clause}{es:List Elem}{x:Elem}(h:es.foldl (zF bad l) none=some x):x∈es:=Vh h
set_option maxHeartbeats 2000000 in
theorem S.jh(p:aW)(q:Prop')(l:List Clause)(f:Bool)(hp:dI p)(hq:oO q)(hl:SmallK l)(hF:Dn p)(hB:aaf p.states.length q)(hR:jW p.states.length p.values.length l):au Tryz.prog 40 [.dat (.eU p),.dat (.prop q),.row 4 f (.clauses l)] (aai (VA p q l)):=by
 have g1:=hF.pos; have g2:=hF.states; have g3:=hF.values
 have q1:=hq.bad
 have hk1:=hl.len
 have nJ:kD p<=3:=by unfold kD; omega
 have aad:bF l<=3:=sZ fun k hk=>(hR.cl k hk).two
 have ac1:=qF (l:=l)
 have hlg:=aag hB.least
 have hmd:=aah (q:=q) (l:=l)
 have adL:UK q l<=3:=by omega
 have UJ:UK q l+3<=9:=by omega
 have hU:au Tryz.prog 45 [.dat (.eU p),.int (max (bF l) (lgB q.bad)+2)] (.row 3 false (.elems (gI (UK q l+3) p.states.length (kD p)))):=by
  have:=S.dX p p.states.length (kD p) (UK q l+2) hp rfl g1 g2 rfl nJ (by omega)
  rw[hmd]; exact this
 have hok:=y9 (b:=UK q l+3) (n:=p.states.length) (vals:=kD p) (by omega)
 have MG:(gI (UK q l+3) p.states.length (kD p)).length<=3*531441:=by
  rw[tq]
  have:=wW (b:=UK q l+3) (n:=p.states.length) UJ g2
  exact Nat.mul_le_mul nJ (by omega)
 have hend:VA p q l=XP (fun e=>Ak q e.counts) l (gI (UK q l+3) p.states.length (kD p)):=rfl
 rw[hend]
 generalize gI (UK q l+3) p.states.length (kD p)=es at hU MG hok ⊢
 have hmem: ∀ i x,(es.take i).foldl (zF (fun e=>Ak q e.counts) l) none=some x->x.counts.length=p.states.length:=fun i x h=>(hok x (List.mem_of_mem_take (VB h))).len
 have abS:XP (fun e=>Ak q e.counts) l es=(es.take es.length).foldl (zF (fun e=>Ak q e.counts) l) none:=by rw[List.take_length]; rfl
 rw[abS]
 refine au.of Bd.jh (by simp) rfl (by rfl) ?_
 conv=>whnf
 refine ah.BG hl rfl ?_
 conv=>whnf
 obtain⟨rb,hrb,hrL⟩:=Jf l.length
 rw[hrb]
 conv=>whnf
 refine .mk (by omega) ?_
 conv=>whnf
 refine aU.Et 50 [3,4,6,8,9,26,27] (fun i:Nat=>[(28,.int i),(10,.int ((q.bad.take i).foldl (fun m k=>max m k.least) (bF l)))]) (fun _=>[(0,.box 27 11 (.dat (.eU p))),(1,.box 30 7 (.dat (.prop q))),(2,.box 38 3 (.agg [.int 0,.row 0 true .nil])),(5,yw l f 6),(6,xR []),(10,rowB (List.replicate l.length false))]) (fun i=>i<=q.bad.length) (fun i=>q.bad.length-i) 0 [0,1,2,5,6,10] rfl (by decide) (fun _=>rfl) (Nat.zero_le _) ?_ ?_ ?_
 ·exact⟨⟨_,rfl,.eq rfl⟩,⟨_,rfl,.eq rfl⟩,trivial⟩
 ·refine⟨okF rfl nofun rfl rfl rfl ⟨rfl,rfl⟩ rfl,okF rfl nofun rfl rfl rfl ⟨rfl,rfl⟩ rfl,okF rfl nofun rfl rfl rfl ⟨rfl,rfl⟩ rfl,⟨rfl,nofun,rfl,rfl,_,rfl,rfl,rfl,bG.of_eq rfl⟩,okF rfl nofun rfl rfl rfl ⟨rfl,rfl⟩ rfl,okF rfl nofun rfl rfl rfl ⟨rfl,rfl⟩ ?_,trivial⟩
  show(Rw.bools (List.replicate l.length false)).aS++[]=rb.aS++[]
  rw[hrL]
 conv=>whnf
 refine⟨⟨⟨_,rfl,.eq rfl⟩,⟨_,rfl,.eq rfl⟩,⟨_,rfl,.eq rfl⟩,⟨_,rfl,.eq rfl⟩,⟨_,rfl,.eq rfl⟩,⟨_,rfl,.eq rfl⟩,⟨_,rfl,.eq rfl⟩,trivial⟩,rfl,?_⟩
 rintro i hi
 conv=>whnf
 refine⟨fun h3=>?_,fun h3=>?_⟩
 ·have hi':i<q.bad.length:=by simpa using h3
  have hlt:=XZ (r:=bF l) hi'
  conv=>whnf
  repeat(refine VC.mk (by simp only[okI,Rw.rng] at *; omega) ?_; conv=>whnf)
  refine⟨i+1,[0,1,2,5,6,10],by omega,by omega,⟨⟨_,rfl,.eq rfl⟩,⟨_,rfl,.eq ?_⟩,trivial⟩,⟨⟨_,rfl,.eq rfl⟩,⟨_,rfl,.eq rfl⟩,⟨_,rfl,.eq rfl⟩,⟨_,rfl,.eq rfl⟩,⟨_,rfl,.eq rfl⟩,⟨_,rfl,.eq rfl⟩,⟨_,rfl,.eq rfl⟩,trivial⟩,okF rfl nofun rfl rfl rfl ⟨rfl,rfl⟩ rfl,okF rfl nofun rfl rfl rfl ⟨rfl,rfl⟩ rfl,okF rfl nofun rfl rfl rfl ⟨rfl,rfl⟩ rfl,⟨rfl,nofun,rfl,rfl,_,rfl,rfl,rfl,bG.of_eq rfl⟩,okF rfl nofun rfl rfl rfl ⟨rfl,rfl⟩ rfl,okF rfl nofun rfl rfl rfl ⟨rfl,rfl⟩ rfl,trivial⟩
  rw[hlt]; rfl
 have hi':i=q.bad.length:=by have:q.bad.length<=i:=(by simpa using h3); omega
 subst hi'
 rw[show q.bad.take q.bad.length=q.bad from List.take_length,XY ac1]
 conv=>whnf
 refine .mk (by simp only[okI]; omega) ?_
 conv=>whnf
 refine ah.pure (hU) rfl ?_
 conv=>whnf
 refine aU.Et (ι:=Nat×List (Int×List Bool)) 100 [4,6,8,9,13,40,41] (fun x=>[(42,.int x.1)]) (fun x=>[(1,.box 30 7 (.dat (.prop q))),(2,.box 38 3 (.agg [.int 0,.row 0 true .nil])),(5,yw l f 6),(6,xR x.2),(10,rowB (List.replicate l.length false)),(51,.box 38 3 (.dat (.elem (((es.take x.1).foldl (zF (fun e=>Ak q e.counts) l) none).getD zE))))]) (fun x=>x.1<=es.length/\iW p.states.length l x.2) (fun x=>es.length-x.1) (0,[]) [1,2,5,6,10,51] rfl (by decide) (fun _=>rfl) ⟨Nat.zero_le _,iW.nil⟩ ?_ ?_ ?_
 ·exact⟨⟨_,rfl,.eq rfl⟩,trivial⟩
 ·exact⟨okF rfl nofun rfl rfl rfl ⟨rfl,rfl⟩ rfl,okF rfl nofun rfl rfl rfl ⟨rfl,rfl⟩ rfl,⟨rfl,nofun,rfl,rfl,_,rfl,rfl,rfl,bG.of_eq rfl⟩,okF rfl nofun rfl rfl rfl ⟨rfl,rfl⟩ rfl,okF rfl nofun rfl rfl rfl ⟨rfl,rfl⟩ rfl,⟨rfl,nofun,rfl,rfl,_,rfl,rfl,rfl,Jg⟩,trivial⟩
 conv=>whnf
 refine⟨⟨⟨_,rfl,.eq rfl⟩,⟨_,rfl,.eq rfl⟩,⟨_,rfl,.eq rfl⟩,⟨_,rfl,.eq rfl⟩,⟨_,rfl,.eq rfl⟩,⟨_,rfl,.eq rfl⟩,⟨_,rfl,.eq rfl⟩,trivial⟩,rfl,?_⟩
 rintro⟨i,em⟩ ⟨hi,hem⟩
 have zM:=hmem i
 conv=>whnf
 refine⟨fun h3=>?_,fun h3=>?_⟩
 ·have hi':i<es.length:=by simpa using h3
  have hue:=hok _ (getM (d:=default) hi')
  have hte:=hR.at hue UJ nJ g1 g2
  have zG:(es.getD i default).counts.length=p.states.length:=hue.len
  have hnx:(es.take (i+1)).foldl (zF (fun e=>Ak q e.counts) l) none=zF (fun e=>Ak q e.counts) l ((es.take i).foldl (zF (fun e=>Ak q e.counts) l) none) (es.getD i default):=Gh hi'
  generalize (es.take i).foldl (zF (fun e=>Ak q e.counts) l) none=s at *
  have hsl:(s.getD zE).counts.length<=6:=by
   cases s with
   |none=>exact show(0:Nat)<=6 by decide
   |some x=>have:=zM x rfl; show x.counts.length<=6; omega
  have hsn:(((s.getD zE).counts.length:Int)==0)=s.isNone:=by
   cases s with
   |none=>rfl
   |some x =>
    have:=zM x rfl
    show((x.counts.length:Int)==0)=false
    exact beq_eq_false_iff_ne.2 (by omega)
  conv=>whnf
  refine .mk (by simp only[Rw.rng] at *; omega) ?_
  conv=>whnf
  refine ah.pure (S.nK q (es.getD i default) hq (by rw[zG]; exact hB) (hue.nn UJ) (by rw[zG]; omega)) rfl ?_
  conv=>whnf
  refine .mk (by exact fun h=>⟨h,h⟩) ?_
  conv=>whnf
  cases hD:Ak q (es.getD i default).counts with
  |false =>
   have hsg:zF (fun e=>Ak q e.counts) l s (es.getD i default)=s:=by rw[zF,hD]; rfl
   rw[hsg] at hnx
   refine ah.Vq (.row 0 false (.bools [])) rfl ?_
   conv=>whnf
   refine .mk (by exact fun h=>⟨h,h⟩) ?_
   conv=>whnf
   refine ah.Vq (.bool true) rfl ?_
   conv=>whnf
   repeat(refine VC.mk id ?_; conv=>whnf)
   refine ah.nY (fun _=>S.iD (es.getD i default) (by rw[zG]; omega)) rfl ?_
   conv=>whnf
   refine VC.mk id ?_
   conv=>whnf
   refine ah.nY (fun _=>S.iD (s.getD zE) (by omega)) rfl ?_
   conv=>whnf
   repeat(refine VC.mk (by first|exact id|exact fun h=>⟨h,h⟩|(intro h; simp_all; done)) ?_; conv=>whnf)
   refine Fork.mk (fun q=>absurd (q.symm.trans ((rfl:false=false))).symm Bool.false_ne_true) (fun _=>?_)
   conv=>whnf
   refine .mk (by simp only[okI] at *; omega) ?_
   conv=>whnf
   conv=>whnf
   refine⟨(i+1,em),[1,2,5,6,10,51],⟨by show i+1<=_; omega,hem⟩,by show es.length-(i+1)<es.length-i; omega,⟨⟨_,rfl,.eq rfl⟩,trivial⟩,⟨⟨_,rfl,.eq rfl⟩,⟨_,rfl,.eq rfl⟩,⟨_,rfl,.eq rfl⟩,⟨_,rfl,.eq rfl⟩,⟨_,rfl,.eq rfl⟩,⟨_,rfl,.eq rfl⟩,⟨_,rfl,.eq rfl⟩,trivial⟩,okF rfl nofun rfl rfl rfl ⟨rfl,rfl⟩ rfl,okF rfl nofun rfl rfl rfl ⟨rfl,rfl⟩ rfl,⟨rfl,nofun,rfl,rfl,_,rfl,rfl,rfl,bG.of_eq rfl⟩,okF rfl nofun rfl rfl rfl ⟨rfl,rfl⟩ rfl,okF rfl nofun rfl rfl rfl ⟨rfl,rfl⟩ rfl,okF rfl nofun rfl rfl rfl ⟨rfl,rfl⟩ ?_,trivial⟩
   exact congrArg (fun s:Option Elem=>(OV.box 38 3 (.dat (.elem (s.getD zE)))).aG.l) hnx
  |true =>
   have XV:zF (fun e=>Ak q e.counts) l s (es.getD i default)=bif bC l (es.getD i default)&&(s.isNone||decide (jd (es.getD i default)<jd (s.getD zE))) then some (es.getD i default) else s:=by rw[zF,hD]; rfl
   refine ah.on (ah.row hl hte (show iW (es.getD i default).counts.length l em by rw[zG]; exact hem) rfl rfl (by decide) rfl (by decide) (by decide) (fun J6 rP=>?_))
   replace rP:iW (es.getD i default).counts.length l J6:=rP
   rw[zG] at rP
   conv=>whnf
   refine .mk (by exact fun h=>⟨h,h⟩) ?_
   conv=>whnf
   refine ah.on (ah.lend (S.jV (fZ l (es.getD i default)) l.length false false (by rw[qG]; omega) (by rw[qG]; exact Nat.le_refl _)) ⟨aC _,Me trivial rfl,trivial⟩ rfl rfl ?_)
   rw[QB]
   conv=>whnf
   repeat(refine VC.mk id ?_; conv=>whnf)
   refine ah.nY (fun _=>S.iD (es.getD i default) (by rw[zG]; omega)) rfl ?_
   conv=>whnf
   refine VC.mk id ?_
   conv=>whnf
   refine ah.nY (fun _=>S.iD (s.getD zE) (by omega)) rfl ?_
   conv=>whnf
   repeat(refine VC.mk (by first|exact id|exact fun h=>⟨h,h⟩|(intro h; simp_all; done)) ?_; conv=>whnf)
   refine⟨fun h5=>?_,fun h5=>?_⟩
   ·have h5':(bC l (es.getD i default)&&(s.isNone||decide (jd (es.getD i default)<jd (s.getD zE))))=true:=by rw[<- hsn]; exact h5
    rw[h5'] at XV
    rw[XV] at hnx
    have hfin:=congrArg (fun s:Option Elem=>(OV.box 38 3 (.dat (.elem (s.getD zE)))).aG.l) hnx
    conv=>whnf
    refine .mk (by simp only[okI] at *; omega) ?_
    conv=>whnf
    refine⟨(i+1,J6),[1,2,5,6,10,51],⟨by show i+1<=_; omega,rP⟩,by show es.length-(i+1)<es.length-i; omega,⟨⟨_,rfl,.eq rfl⟩,trivial⟩,⟨⟨_,rfl,.eq rfl⟩,⟨_,rfl,.eq rfl⟩,⟨_,rfl,.eq rfl⟩,⟨_,rfl,.eq rfl⟩,⟨_,rfl,.eq rfl⟩,⟨_,rfl,.eq rfl⟩,⟨_,rfl,.eq rfl⟩,trivial⟩,okF rfl nofun rfl rfl rfl ⟨rfl,rfl⟩ rfl,okF rfl nofun rfl rfl rfl ⟨rfl,rfl⟩ rfl,⟨rfl,nofun,rfl,rfl,_,rfl,rfl,rfl,bG.of_eq rfl⟩,okF rfl nofun rfl rfl rfl ⟨rfl,rfl⟩ rfl,okF rfl nofun rfl rfl rfl ⟨rfl,rfl⟩ rfl,okF rfl nofun rfl rfl rfl ⟨rfl,rfl⟩ ?_,trivial⟩
    exact hfin
   ·have h5':(bC l (es.getD i default)&&(s.isNone||decide (jd (es.getD i default)<jd (s.getD zE))))=false:=by rw[<- hsn]; exact h5
    rw[h5'] at XV
    rw[XV] at hnx
    have hfin:=congrArg (fun s:Option Elem=>(OV.box 38 3 (.dat (.elem (s.getD zE)))).aG.l) hnx
    conv=>whnf
    refine .mk (by simp only[okI] at *; omega) ?_
    conv=>whnf
    refine⟨(i+1,J6),[1,2,5,6,10,51],⟨by show i+1<=_; omega,rP⟩,by show es.length-(i+1)<es.length-i; omega,⟨⟨_,rfl,.eq rfl⟩,trivial⟩,⟨⟨_,rfl,.eq rfl⟩,⟨_,rfl,.eq rfl⟩,⟨_,rfl,.eq rfl⟩,⟨_,rfl,.eq rfl⟩,⟨_,rfl,.eq rfl⟩,⟨_,rfl,.eq rfl⟩,⟨_,rfl,.eq rfl⟩,trivial⟩,okF rfl nofun rfl rfl rfl ⟨rfl,rfl⟩ rfl,okF rfl nofun rfl rfl rfl ⟨rfl,rfl⟩ rfl,⟨rfl,nofun,rfl,rfl,_,rfl,rfl,rfl,bG.of_eq rfl⟩,okF rfl nofun rfl rfl rfl ⟨rfl,rfl⟩ rfl,okF rfl nofun rfl rfl rfl ⟨rfl,rfl⟩ rfl,okF rfl nofun rfl rfl rfl ⟨rfl,rfl⟩ ?_,trivial⟩
    exact hfin
 ·have hi':i=es.length:=by have:es.length<=i:=(by simpa using h3); omega
  subst hi'
  generalize (es.take es.length).foldl (zF (fun e=>Ak q e.counts) l) none=s at *
  conv=>whnf
  refine aA.eqv ?_
  rw[aai]
  cases s with
  |none=>rfl
  |some x =>
   have:=zM x rfl
   show T.dM [fU x,.bool true]=T.dM [fU x,.bool (decide (0<(x.counts.length:Int)))]
   rw[decide_eq_true (by omega)]
def nX(p:aW)(r:Rule)(l a:List Clause):Nat×Elem:=Ep (aX r) l a (gI (zf (l++a)+3) p.states.length (kD p))
def VD(n:Nat)(s:Nat×Elem):List V:=[.int (orM n s.1),.dat (.elem (bif s.1==n then zE else s.2))]
theorem S.MI(p:aW)(l a:List Clause)(i:Nat)(f g:Bool)(hp:dI p)(hi:i<p.rules.length)(hin:zC p=0)(hl:jW p.states.length p.values.length l)(ha:jW p.states.length p.values.length a)(hs:l.length+a.length<=1000) :
  au Tryz.prog 35 [.dat (.eU p),.dat (.rule (p.rules.getD i default)),.row 4 f (.clauses l),.row 4 g (.clauses a)] (.dM (VD l.length (nX p (p.rules.getD i default) l a))):=by
 obtain⟨hF,hpl⟩:=yY hin
 have:=hF.values
 exact S.gW p (p.rules.getD i default) l a p.states.length (kD p) f g hp (hp.rule i) rfl hF.pos hF.states rfl (by unfold kD; omega) (LM hF (Dj hpl) hi) hl ha hs (zf (l++a)) Gs
def uZ(p:aW)(rule:Int)(l a:List Clause):Int:=bif zC p !=0 then zC p else bif decide (rule<0)||decide (rule>=p.rules.length) then 6 else zN p l a
def JR(p:aW)(rule:Int)(l a:List Clause):V:=.dM ((bif uZ p rule l a !=0 then [.int 0,.dat (.elem zE)] else VD l.length (nX p (p.rules.getD rule.toNat default) l a))++[.int (uZ p rule l a)])
theorem aA.zero3{k j:Int}{h:Hz}:aA (.dM [.int k,.dat (.elem zE),.int j]) (.dM [.int k,.agg [.int 0,.row 0 true .nil],.int j]) h:=⟨by
 show T.sub _ _ (.dM [.int k,.agg [.int 0,.sl 0 false []],.int j]) (.dM [.int k,.agg [.int 0,.sl 0 true []],.int j])
 simp[T.sub,T.cu]⟩
theorem BH{p:aW}{rule:Int}{l a:List Clause}{e:Int}(h:uZ p rule l a=e)(he:(e !=0)=true):JR p rule l a= .dM [.int 0,.dat (.elem zE),.int e]:=by
 rw[JR,h,he]; rfl
theorem X0{p:aW}{l a:List Clause}(h:zN p l a=0):jW p.states.length p.values.length l/\jW p.states.length p.values.length a/\l.length<=160/\a.length<=160:=by
 unfold zN at h
 obtain⟨h1,h2⟩:=bz nz h
 obtain⟨a1,a2⟩:=Aj (by simpa using h1)
 obtain⟨b1,b2⟩:=Aj h2
 exact⟨a1,b1,a2,b2⟩
theorem S.fA(p:aW)(rule:Int)(l a:List Clause)(f g:Bool)(hp:dI p)(hl:SmallK l)(ha:SmallK a):au Tryz.prog 13 [.dat (.eU p),.int rule,.row 4 f (.clauses l),.row 4 g (.clauses a)] (JR p rule l a):=by
 refine au.of Bd.fA (by simp) rfl (by unfold JR; cases uZ p rule l a !=0<;>rfl) ?_
 conv=>whnf
 refine ah.pure (S.eY p hp) rfl ?_
 conv=>whnf
 refine⟨fun h1=>?_,fun h1=>?_⟩
 ·have he:uZ p rule l a=zC p:=by rw[uZ,show(zC p !=0)=true from h1]; rfl
  conv=>whnf
  rw[BH he h1]
  exact aA.zero3
 have hk:=hp.rules
 conv=>whnf
 repeat(refine VC.mk (by first|exact id|exact fun h=>⟨h,h⟩|(intro h; rw[h]; rfl)) ?_; conv=>whnf)
 refine⟨fun h2=>?_,fun h2=>?_⟩
 ·have h2':(decide (rule<0)||decide (rule>=p.rules.length))=true:=h2
  have he:uZ p rule l a=6:=by rw[uZ,show(zC p !=0)=false from h1,h2']; rfl
  conv=>whnf
  rw[BH he (by decide)]
  exact aA.zero3
 have h2':(decide (rule<0)||decide (rule>=p.rules.length))=false:=h2
 have he:uZ p rule l a=zN p l a:=by rw[uZ,show(zC p !=0)=false from h1,h2']; rfl
 rw[Bool.or_eq_false_iff,decide_eq_false_iff_not,decide_eq_false_iff_not] at h2'
 obtain⟨r1,r2⟩:=h2'
 conv=>whnf
 refine ah.lend (S.Ip p l a false f g hp hl ha) ⟨aC _,MH trivial rfl rfl,trivial⟩ rfl rfl ?_
 conv=>whnf
 refine⟨fun h3=>?_,fun h3=>?_⟩
 ·conv=>whnf
  rw[BH he h3]
  exact aA.zero3
 obtain⟨k1,k2,k3,k4⟩:=X0 (FQ h3)
 have hV:JR p rule l a= .dM (VD l.length (nX p (p.rules.getD rule.toNat default) l a)++[.int 0]):=by
  rw[JR,he,FQ h3]; rfl
 rw[hV]
 conv=>whnf
 refine .mk (by first|(simp only[Rw.rng]; omega)) ?_
 conv=>whnf
 refine ah.pure (S.MI p l a rule.toNat f g hp (by omega) (FQ h1) k1 k2 (by omega)) rfl ?_
 conv=>whnf
 exact aA.eqv rfl
def JV(p:aW)(k:Clause):Int:=bif zC p !=0 then zC p else xP p k
def EK(p:aW)(k:Clause)(e:Elem):Int:=bif JV p k !=0 then JV p k else fQ (uz p e||jd e==0) 1
def RG(p:aW)(k:Clause)(e:Elem):V:=.dM [.bool (EK p k e==0&&holdsB k e),.int (EK p k e)]
theorem aaj{p:aW}(h:zC p=0):JX p=0:=by
 unfold zC at h
 obtain⟨h1,h2⟩:=bz (fun _=>by decide) h
 rw[h2] at h1
 have hm:(kC p).monadic=true:=by simpa using h1
 rw[JX,h2,hm,Bool.not_true,Bool.and_false]; rfl
theorem MJ{p:aW}{k:Clause}(h:JV p k=0):zC p=0/\xP p k=0:=by
 unfold JV at h
 obtain⟨h1,h2⟩:=bz nz h
 exact⟨by simpa using h1,h2⟩
theorem S.gu(p:aW)(e:Elem)(hp:dI p)(he:e.counts.length<2^30)(hin:zC p=0):au Tryz.prog 29 [.dat (.eU p),.dat (.elem e)] (.int (fQ (uz p e||jd e==0) 1)):=by
 have hv:(sJ p e !=0)=uz p e:=by
  rw[sJ,aaj hin]
  cases uz p e<;>rfl
 refine au.of Bd.gu (by simp) rfl rfl ?_
 conv=>whnf
 refine ah.pure (S.gX p e hp he) rfl ?_
 conv=>whnf
 refine VC.mk id ?_
 conv=>whnf
 rw[hv]
 conv=>whnf
 refine ah.nY (fun _=>S.iD e (by omega)) rfl ?_
 conv=>whnf
 repeat(refine VC.mk (by first|exact id|(intro h; rw[h]; rfl)) ?_; conv=>whnf)
 refine⟨fun h1=>?_,fun h1=>?_⟩
 ·have h1':(uz p e||jd e==0)=true:=h1
  conv=>whnf
  exact aA.int (by rw[h1']; rfl)
 ·have h1':(uz p e||jd e==0)=false:=h1
  conv=>whnf
  exact aA.int (by rw[h1']; rfl)
theorem X3{p:aW}{k:Clause}{e:Elem}(h:EK p k e=0):ZY k e/\0<e.counts.length/\k.values.length<2^30/\zC p=0:=by
 unfold EK at h
 obtain⟨h1,h2⟩:=bz nz h
 obtain⟨hin,hcl⟩:=MJ (by simpa using h1)
 have h3:=vK h2 (by decide)
 rw[Bool.or_eq_false_iff] at h3
 obtain⟨a,b,c⟩:=JU h3.1
 obtain⟨hF,_⟩:=yY hin
 have hc:=QC hcl
 have h4:=hF.pos; have h5:=hF.states; have h6:=hF.values; have h7:=hc.values.len
 exact⟨⟨⟨_,by rw[a]; exact hc⟩,b,by omega⟩,by omega,by omega,hin⟩
theorem S.iF(p:aW)(k:Clause)(e:Elem)(hp:dI p)(hk:qY k)(he:e.counts.length<2^30):au Tryz.prog 10 [.dat (.eU p),.dat (.clause k),.dat (.elem e)] (RG p k e):=by
 refine au.of Bd.iF (by simp) rfl rfl ?_
 conv=>whnf
 refine ah.pure (S.fB p k hp hk) rfl ?_
 conv=>whnf
 refine⟨fun h1=>?_,fun h1=>?_⟩
 ·have hv:(JV p k !=0)=true:=h1
  have hE:EK p k e=JV p k:=by rw[EK,hv]; rfl
  have hz:(JV p k==0)=false:=beq_eq_false_iff_ne.2 (Zl hv)
  conv=>whnf
  exact aA.eqv (by rw[RG,hE,hz]; rfl)
 have hv:(JV p k !=0)=false:=h1
 obtain⟨hin,hcl⟩:=MJ (FQ hv)
 have hE:EK p k e=fQ (uz p e||jd e==0) 1:=by rw[EK,hv]; rfl
 conv=>whnf
 refine ah.pure (S.gu p e hp he hin) rfl ?_
 conv=>whnf
 refine⟨fun h2=>?_,fun h2=>?_⟩
 ·have hz:(fQ (uz p e||jd e==0) 1==0)=false:=beq_eq_false_iff_ne.2 (Zl h2)
  conv=>whnf
  exact aA.eqv (by rw[RG,hE,hz]; rfl)
 have hz:fQ (uz p e||jd e==0) 1=0:=FQ h2
 obtain⟨hf,h0,hkv,_⟩:=X3 (hE.trans hz)
 conv=>whnf
 refine ah.pure (S.jH k e hf h0 hkv) rfl ?_
 conv=>whnf
 exact aA.eqv (by rw[RG,hE,hz]; rfl)
def yx(p:aW)(l a:List Clause)(r:Rule):Bool:=(nX p r l a).1==l.length
def MK(p:aW)(q:Prop')(l a:List Clause):Bool:=((mW p a==0)&&decide (l.length+a.length<=160))&&(p.rules.all (yx p l a)&&(VA p q (l++a)).isNone)
def ZM(p:aW)(q:Prop')(l a:List Clause):Bool:=((wP p q l==0)&&(tC l (vT p q l)==l.length))&&MK p q l a
theorem Zm{n m:Nat}(_h:m<=n):decide (orM n m>=0)= !(m==n):=by
 unfold orM
 cases he:m==n with
 |true=>rfl
 |false=>simp only[cond_false]; exact decide_eq_true (by omega)
theorem S.eu(p:aW)(q:Prop')(l a:List Clause)(f g:Bool)(hp:dI p)(hq:oO q)(hl:SmallK l)(ha:SmallK a):au Tryz.prog 18 [.dat (.eU p),.dat (.prop q),.row 4 f (.clauses l),.row 4 g (.clauses a)] (.bool (ZM p q l a)):=by
 have k1:=hl.len; have k2:=ha.len
 refine au.of Bd.eu (by simp) rfl rfl ?_
 conv=>whnf
 refine ah.pure (S.dP p q l f hp hq hl) rfl ?_
 rw[OX]
 cases he:wP p q l !=0 with
 |true =>
  have hcT:(wP p q l !=0||decide (0<=bif true then 0 else orM l.length (tC l (vT p q l))))=true:=by rw[he]; rfl
  conv=>whnf
  repeat(refine VC.mk (by first|exact id|(intro h; rw[h]; rfl)) ?_; conv=>whnf)
  refine Fork.mk (fun _=>?_) (fun q=>absurd (q.symm.trans (hcT)) Bool.false_ne_true)
  conv=>whnf
  exact aA.bool (by rw[ZM,show(wP p q l==0)=false from beq_eq_false_iff_ne.2 (Zl he)]; rfl)
 |false =>
  have he0:wP p q l=0:=FQ he
  have hor:=Zm (n:=l.length) (m:=tC l (vT p q l)) Vg
  rw[he0]
  conv=>whnf
  repeat(refine VC.mk (by first|exact id|(intro h; rw[h]; rfl)) ?_; conv=>whnf)
  refine⟨fun h1=>?_,fun h1=>?_⟩
  ·have h1':decide (orM l.length (tC l (vT p q l))>=0)=true:=h1
   conv=>whnf
   refine aA.bool ?_
   rw[hor] at h1'
   have h2:(tC l (vT p q l)==l.length)=false:=by simpa only[Bool.not_eq_true'] using h1'
   rw[ZM,h2,Bool.and_false]; rfl
  have h1':decide (orM l.length (tC l (vT p q l))>=0)=false:=h1
  rw[hor] at h1'
  have h2:(tC l (vT p q l)==l.length)=true:=by simpa only[Bool.not_eq_false'] using h1'
  have hcc:ZM p q l a=MK p q l a:=by rw[ZM,he0,h2]; rfl
  rw[hcc]
  conv=>whnf
  refine ah.lend (S.vk p a false g hp ha) ⟨aC _,MH trivial rfl rfl,trivial⟩ rfl rfl ?_
  conv=>whnf
  repeat(refine VC.mk (by first|exact id|(intro h; rw[h]; rfl)|(intro h; (repeat' apply And.intro)<;>first|exact h|omega|(simp only[Rw.qN]; omega)|(simp only[Rw.rng]; omega))) ?_; conv=>whnf)
  refine⟨fun h3=>?_,fun h3=>?_⟩
  ·have h3':(mW p a !=0||decide ((l.length:Int)+a.length>160))=true:=h3
   conv=>whnf
   refine aA.bool ?_
   have:((mW p a==0)&&decide (l.length+a.length<=160))=false:=by
    rw[Bool.or_eq_true] at h3'
    rcases h3' with h|h
    ·rw[show(mW p a==0)=false from beq_eq_false_iff_ne.2 (Zl h)]; rfl
    ·have:=of_decide_eq_true h
     rw[decide_eq_false (show ¬ (l.length+a.length<=160) by omega),Bool.and_false]
   rw[MK,this]; rfl
  have h3':(mW p a !=0||decide ((l.length:Int)+a.length>160))=false:=h3
  rw[Bool.or_eq_false_iff,decide_eq_false_iff_not] at h3'
  obtain⟨h4,h5⟩:=h3'
  have hlen:l.length+a.length<=160:=by omega
  have hrest:MK p q l a=(p.rules.all (yx p l a)&&(VA p q (l++a)).isNone):=by
   rw[MK,FQ h4,decide_eq_true hlen]; rfl
  rw[hrest]
  have hE:Bf p q=0/\mW p l=0:=by
   unfold wP at he0
   obtain⟨u,v⟩:=bz nz he0
   exact⟨by simpa using u,v⟩
  obtain⟨hv,hin,hk⟩:=FP hE.1
  obtain⟨hF,_⟩:=yY hin
  obtain⟨hR,_⟩:=Aj hE.2
  obtain⟨hA,_⟩:=Aj (FQ h4)
  have hla:=hR.app hA (by omega)
  have hru:=hp.rules
  conv=>whnf
  refine aU.same [2,3,4,5,44,45] (fun i:Nat=>[(46,.int i)]) (fun i=>i<=p.rules.length/\(p.rules.take i).all (yx p l a)=true) (fun i=>p.rules.length-i) 0 rfl (by decide) rfl (fun _=>rfl) ⟨by omega,by simp⟩ ⟨⟨_,rfl,rfl⟩,trivial⟩ ?_
  conv=>whnf
  refine⟨rfl,?_⟩
  rintro i ⟨hi,hall⟩
  conv=>whnf
  refine⟨fun h6=>?_,fun h6=>?_⟩
  ·have hi':i<p.rules.length:=by simpa using h6
   have hsl:(nX p (p.rules.getD i default) l a).1<=l.length:=Gj
   have hog:=Zm hsl
   conv=>whnf
   refine .mk (by simp only[Rw.rng] at *; omega) ?_
   conv=>whnf
   refine ah.pure (S.MI p l a i f g hp hi' hin hR hA (by omega)) rfl ?_
   rw[VD]
   conv=>whnf
   refine⟨fun h7=>?_,fun h7=>?_⟩
   ·have h7':decide (orM l.length (nX p (p.rules.getD i default) l a).1>=0)=true:=h7
    conv=>whnf
    refine aA.bool ?_
    rw[hog] at h7'
    have h8:yx p l a (p.rules.getD i default)=false:=by rw[yx]; simpa only[Bool.not_eq_true'] using h7'
    rw[pO (p:=yx p l a) (d:=default) hi' h8]; rfl
   ·have h7':decide (orM l.length (nX p (p.rules.getD i default) l a).1>=0)=false:=h7
    conv=>whnf
    refine .mk (by simp only[okI] at *; omega) ?_
    conv=>whnf
    rw[hog] at h7'
    have h8:yx p l a (p.rules.getD i default)=true:=by rw[yx]; simpa only[Bool.not_eq_false'] using h7'
    refine⟨i+1,⟨by omega,?_⟩,by omega,⟨⟨_,rfl,rfl⟩,trivial⟩,?_,rfl⟩
    ·rw[nZ (d:=default) hi' hall]; exact h8
    ·repeat' (first|exact trivial|exact⟨_,rfl,rfl⟩|constructor)
  ·have hi':p.rules.length<=i:=by simpa using h6
   rw[List.take_of_length_le hi'] at hall
   rw[hall]
   conv=>whnf
   refine ah.pure (S.gZ l a f g (by omega) (by omega)) rfl ?_
   conv=>whnf
   conv=>whnf
   refine ah.pure (S.jh p q (l++a) false hp hq (hla.small hF.states hF.values) hF (Vz hv hk) hla) rfl ?_
   rw[aai]
   conv=>whnf
   refine aA.bool ?_
   cases VA p q (l++a)<;>rfl
end Go.Proofs.YtiakcepnlcpanaaGreatDoor
