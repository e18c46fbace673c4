/-
 A part of the proof. No condition.
-/
import Derived.Test.YtbigdcimbhgjbaaGreatDoorIb
namespace Go.Proofs.YtbigdcimbhgjbaaGreatDoor
open Go.Ab Go.Proofs
set_option maxRecDepth 100000
theorem ah.row{l:List Clause}{f:Bool}{es:List (Int×List Bool)}{e:Elem}{h:Hz}{i j n:Nat}{K:V->Hz->Prop}{KW:Nat->V->Hz->Prop}(hsm:SmallK l)(ht:Ja l e)(hg:mM e.counts.length l es)(hi:h.get i=some (Fv l f j))(hj:h.get j=some (Ed es))(hij:i≠j)(hn:h.get n=none)(hin:n≠i)(hjn:n≠j)
  (hK: ∀ es',mM e.counts.length l es'->K (.row 0 false (.bools (lN l e))) ((j,some (Ed es'))::h)):ah Tryz.prog false none 59 [.ptr i 0 0,.dat (.elem e)] h n K KW:=by
 refine ah.aaW (ts:=[.ptr 0 0 0,.dat (.elem e)]) (o0:=Fv l f 1) (Wi:=Fv l f j) (o1:=Ed es) (post:=fun t hp=> ∃ es',mM e.counts.length l es'/\t=(V.row 0 false (.bools (lN l e))).aI/\hp=Hz.aj (hT l f es')) (S.TT l f es e hsm ht hg) ?_ rfl rfl rfl ?_ hi hj hij hn hin hjn ?_
 ·rfl
 ·rfl
 ·rintro t hp ⟨es',hg',rfl,rfl⟩
  exact⟨.row 0 false (.bools (lN l e)),Ed es',rfl,rfl,rfl,rfl,hK es' hg'⟩
theorem TW{n:Nat}: ∀ {h:Hz},(h.all fun p=>Nat.blt p.1 n)=true-> ∀ m,n<=m->h.get m=none:=by
 intro h
 induction h with
 |nil=>intro _ m _; rfl
 |cons p r ih =>
  obtain⟨j,o⟩:=p
  intro q m hm
  simp only[List.all_cons,Bool.and_eq_true,Nat.blt_eq] at q
  simp only[Hz.get]
  have:Nat.beq j m=false:=by
   cases hb:Nat.beq j m with
   |false=>rfl
   |true=>have:=Nat.eq_of_beq_eq_true hb; omega
  rw[this]; exact ih q.2 m hm
theorem ah.G6{l:List Clause}{f:Bool}{h:Hz}{n:Nat}{K:V->Hz->Prop}{KW:Nat->V->Hz->Prop}(hsm:SmallK l)(hn:(h.all fun p=>Nat.blt p.1 n)=true)(hK:KW 1 (.ptr n 0 0) ((n,some (Fv l f (n+1)))::(n+1,some (Ed []))::h)):ah Tryz.prog false none 55 [.row 4 f (.clauses l)] h n K KW :=
 ah.new2 (_v:=.ptr 0 0 0) (S.jA l f hsm) rfl rfl (by rfl) ⟨⟨trivial,trivial,by show(1:Nat)<2; decide,trivial⟩,trivial⟩ (TW hn) hK
theorem ah.YZ{P:Program}{dr:Bool}{f:FuncId}{args:List V}{h:Hz}{n:Nat}{K:V->Hz->Prop}{KW:Nat->V->Hz->Prop}(v:V)(hf:v.free=true)(hK:K v h):ah P dr (some false) f args h n K KW:=⟨.inl (.inl ⟨v,(fun e=>by cases e),hf,hK⟩)⟩
theorem ah.on{P:Program}{f:FuncId}{args:List V}{h:Hz}{n:Nat}{K:V->Hz->Prop}{KW':Nat->V->Hz->Prop}(H:ah P false none f args h n K fun _ _ _=>False):ah P false (some true) f args h n K KW':=by
 rcases H.ok with H|⟨_,_,k,⟨_,_,_,_,_,_,hk⟩,_⟩|⟨_,e,_⟩
 ·exact⟨.inl (.inr ⟨rfl,fun _=>aP.mono H fun t hp ⟨v,h',a,b,_,c⟩=>⟨v,h',a,b,c⟩,fun e=>by cases e⟩)⟩
 ·exact hk.elim
 ·cases e
theorem JI(n:Nat): ∃ r:Rw,(bif isZero (.int n) then some Rw.nil else Tz (n:Int).toNat (T.bool false))=some r/\r.aX=(Rw.bools (List.replicate n false)).aX:=by
 cases n with
 |zero=>exact⟨.nil,rfl,rfl⟩
 |succ k=>exact⟨.bools (List.replicate (k+1) false),rfl,rfl⟩
theorem JJ:dD [sZ zE] [T.agg [.int 0,.sl 0 true []]]:=fun Z h=>by
 show T.dJ Z h [.agg [.int 0,.sl 0 false []]] [.agg [.int 0,.sl 0 true []]]
 simp[T.sub,T.dJ]
theorem au.zeroE{k:Int}{h:Hz}:au (.fH [.int k,.dat (.elem zE)]) (.fH [.int k,.agg [.int 0,.row 0 true .nil]]) h:=⟨by
 show T.sub _ _ (.fH [.int k,.agg [.int 0,.sl 0 false []]]) (.fH [.int k,.agg [.int 0,.sl 0 true []]])
 simp[T.sub,T.dJ]⟩
theorem G7{l:List Clause}{x:Elem}:Ef (lN l x)=bif decide (fD l x<l.length) then((fD l x:Nat):Int) else -1:=by
 rw[Ef,TK,tJ]
theorem step_cond{F n s:Nat}{t:Bool}{f:Int}(hf:f=bif decide (F<n) then(F:Int) else -1):(decide (0<=f)&&(decide (f<(s:Int))||(f==(s:Int)&&t)))=(decide (F<n)&&(decide (F<s)||F==s&&t)):=by
 subst hf
 cases h:decide (F<n) with
 |false=>rfl
 |true =>
  simp only[cond_true]
  rw[show decide (0<=(F:Int))=true from decide_eq_true (by omega),show decide ((F:Int)<s)=decide (F<s) from decide_eq_decide.2 ⟨fun h=>by omega,fun h=>by omega⟩]
  rw[show((F:Int)==(s:Int))=(F==s) from by
   rw[Bool.eq_iff_iff,beq_iff_eq,beq_iff_eq]; exact⟨fun h=>by omega,fun h=>by omega⟩]
theorem TY{fire:Elem->Option Elem}{l a:List Clause}{s:Nat×Elem}{e:Elem}{n:Nat}(h:s.2.counts.length<=n)(he:e.counts.length<=n):(stepG fire l a s e).2.counts.length<=n:=by
 unfold stepG
 split
 ·exact h
 ·cases (iT l e&&iT a e&&(decide (fD l _<l.length)&&(decide (fD l _<s.1)||fD l _==s.1&&decide (qY e<qY s.2)))) with
  |false=>exact h
  |true=>exact he
theorem Ua{fire:Elem->Option Elem}{l a:List Clause}{n:Nat}: ∀ {es:List Elem} {s:Nat×Elem},s.2.counts.length<=n->(∀ e∈es,e.counts.length<=n)->(es.foldl (stepG fire l a) s).2.counts.length<=n:=by
 intro es
 induction es with
 |nil=>intro s h _; exact h
 |cons e es ih=>intro s h he; exact ih (TY h (he e (by simp))) fun x hx=>he x (List.mem_cons_of_mem _ hx)
set_option maxHeartbeats 2000000 in
theorem S.gX(p:aS)(r:Rule)(l a:List Clause)(n vals:Nat)(f g:Bool)(hp:dK p)(hr:wG r)(hn:p.states.length=n)(hn0:0<n)(KN:n<=6)(hvs:max 1 p.values.length=vals)(rZ:vals<=3)(hF:aal n p r)(hl:lZ n p.values.length l)(ha:lZ n p.values.length a)(hs:l.length+a.length<=1000)(rk:Nat)(hrk:dw (l++a)=rk) :
  ak Tryz.prog 41 [.dat (.eu p),.dat (.rule r),.row 4 f (.clauses l),.row 4 g (.clauses a)] (.fH [.int (orM l.length (JE (dL r) l a (jW (rk+3) n vals)).1),.dat (.elem (bif (JE (dL r) l a (jW (rk+3) n vals)).1==l.length then zE else(JE (dL r) l a (jW (rk+3) n vals)).2))]):=by
 have hla:=hl.app ha hs
 have hsm:=hla.small KN (by omega)
 have acD:dw (l++a)<=3:=xW fun k hk=>(hla.cl k hk).two
 have hsl:=hl.len; have hsa:=ha.len
 have hlen:(l++a).length=l.length+a.length:=List.length_append
 have hU:ak Tryz.prog 57 [.dat (.eu p),.int (dw (l++a)+2)] (.row 3 false (.elems (jW (rk+3) n vals))):=by
  have:=S.fQ p n vals (rk+2) hp hn hn0 KN hvs rZ (by omega)
  rw[hrk]; exact this
 have Ub:(jW (rk+3) n vals).length<=3*531441:=by
  rw[wY]
  have:=zW (b:=rk+3) (n:=n) (by omega) KN
  exact Nat.mul_le_mul rZ (by omega)
 have hok:=FT (b:=rk+3) (n:=n) (vals:=vals) (by omega)
 have YA:rk+3<=9:=by omega
 generalize jW (rk+3) n vals=es at hU Ub hok ⊢
 have hblt:Nat.blt (Ee r.kind) 4096=true:=by
  rcases hF.kind with h|h|h<;>rw[Ee,h]<;>rfl
 have hst: ∀ i,(((es.take i).foldl (stepG (dL r) l a) (l.length,zE)).1)<=l.length:=fun i=>Nh (fire:=dL r) (l:=l) (a:=a) (es:=es.take i)
 have hnx: ∀ {i:Nat},i<es.length->(es.take (i+1)).foldl (stepG (dL r) l a) (l.length,zE)=stepG (dL r) l a ((es.take i).foldl (stepG (dL r) l a) (l.length,zE)) (es.getD i default):=fun hi=>GV hi
 have hend:JE (dL r) l a es=(es.take es.length).foldl (stepG (dL r) l a) (l.length,zE):=by rw[List.take_length]; rfl
 rw[hend]
 refine ak.of Bd.gX (by simp) rfl rfl ?_
 conv=>whnf
 refine ah.pure (S.jq l a f g (by omega) (by omega)) rfl ?_
 conv=>whnf
 conv=>whnf
 refine ah.G6 hsm rfl ?_
 conv=>whnf
 obtain⟨rb,hrb,hrL⟩:=JI (l++a).length
 rw[hrb]
 conv=>whnf
 refine .mk (by omega) ?_
 conv=>whnf
 refine ah.pure (S.kS r.kind) rfl ?_
 conv=>whnf
 refine .mk (by simp only[okI] at *; omega) ?_
 conv=>whnf
 conv=>whnf
 refine ah.pure (hU) rfl ?_
 conv=>whnf
 refine aQ.AL (ι:=Nat×List (Int×List Bool)) 100 [2,5,9,10,11,12,14,41,42] (fun x=>[(43,.int x.1),(13,.int (((es.take x.1).foldl (stepG (dL r) l a) (l.length,zE)).1:Nat))]) (fun x=>[(1,.box 88 19 (.dat (.rule r))),(3,.box 66 3 (.agg [.int 0,.row 0 true .nil])),(7,Fv (l++a) false 8),(8,Ed x.2),(15,rowB (List.replicate (l++a).length false)),(24,.box 66 3 (.dat (.elem ((es.take x.1).foldl (stepG (dL r) l a) (l.length,zE)).2)))]) (fun x=>x.1<=es.length/\mM n (l++a) x.2) (fun x=>es.length-x.1) (0,[]) [1,3,7,8,15,24] rfl (by decide) (fun _=>rfl) ⟨Nat.zero_le _,mM.nil⟩ ?_ ?_ ?_
 ·exact(sR rfl)
 ·refine⟨iG rfl rfl,iG rfl rfl,vM rfl rfl rfl ⟨rfl,rfl⟩ (dD.of_eq rfl),iG rfl rfl,okF rfl nofun rfl rfl rfl ⟨rfl,rfl⟩ ?_,?_,trivial⟩
  ·show(Rw.bools (List.replicate (l++a).length false)).aX++[]=rb.aX++[]
   rw[hrL]
  ·exact vM rfl rfl rfl ⟨rfl,rfl⟩ JJ
 conv=>whnf
 refine⟨(sR rfl),rfl,?_⟩
 rintro⟨i,em⟩ ⟨hi,hem⟩
 conv=>whnf
 refine⟨fun h3=>?_,fun h3=>?_⟩
 ·have hi':i<es.length:=by simpa using h3
  have hue:=hok _ (getM (d:=default) hi')
  have hnext:=hnx hi'
  have ael:=hst i
  conv=>whnf
  refine .mk (by simp only[Rw.rng] at *; omega) ?_
  conv=>whnf
  rw[hblt]
  obtain⟨x,hS,hx⟩:=S.apply r (es.getD i default) hr (by rw[hue.len]; exact hF.place) (hue.Fq YA) (by rw[hue.len]; exact KN) hF.kind
  conv=>whnf
  refine ah.pure hS rfl ?_
  cases hO:dL r (es.getD i default) with
  |none =>
   have hsg:(es.take (i+1)).foldl (stepG (dL r) l a) (l.length,zE)=(es.take i).foldl (stepG (dL r) l a) (l.length,zE):=by rw[hnext,stepG,hO]
   conv=>whnf
   refine .mk (by exact fun h=>⟨h,h⟩) ?_
   conv=>whnf
   refine ah.YZ (.row 0 false (.bools [])) rfl ?_
   conv=>whnf
   refine .mk (by exact fun h=>⟨h,h⟩) ?_
   conv=>whnf
   refine ah.YZ (.bool true) rfl ?_
   conv=>whnf
   repeat(refine VC.mk (by first|exact id|(intro h; rw[h]; rfl)) ?_; conv=>whnf)
   refine Fork.mk (fun _=>?_) (fun q=>absurd (q.symm.trans ((rfl:true=true))) Bool.false_ne_true)
   conv=>whnf
   refine .mk (by simp only[okI] at *; omega) ?_
   conv=>whnf
   refine⟨(i+1,em),[1,3,7,8,15,24],⟨by show i+1<=_; omega,hem⟩,by show es.length-(i+1)<es.length-i; omega,⟨⟨_,rfl,.eq rfl⟩,⟨_,rfl,.eq ?_⟩,trivial⟩,(sR rfl),iG rfl rfl,iG rfl rfl,vM rfl rfl rfl ⟨rfl,rfl⟩ (dD.of_eq rfl),iG rfl rfl,iG rfl rfl,okF rfl nofun rfl rfl rfl ⟨rfl,rfl⟩ ?_,trivial⟩
   ·exact congrArg (fun s:Nat×Elem=>T.int ((s.1:Nat):Int)) hsg
   ·exact congrArg (fun s:Nat×Elem=>(OV.box 66 3 (.dat (.elem s.2))).aF.l) hsg
  |some y =>
   obtain rfl:=hx y hO
   have hxl:x.counts.length=n:=by rw[TD hO,hue.len]
   have hxv:0<=x.value/\x.value<=1048576:=by
    rw[Wh hO,CY]
    have h1:=hue.val
    cases hw:decide (r.write>=0) with
    |false=>show 0<=(es.getD i default).value/\(es.getD i default).value<=1048576; omega
    |true =>
     rcases hF.wr with h2|h2
     ·obtain⟨w1,w2⟩:=tH h2
      show 0<=r.write/\r.write<=1048576; omega
     ·rw[h2] at hw; exact absurd hw (by decide)
   have hte:=hla.at hue YA rZ hn0 KN
   have htx:=hla.tab hxl (YX (hue.nn YA) (by rw[hue.len]; exact KN) hO) hn0 KN hxv
   have Eh:(es.getD i default).counts.length=n:=hue.len
   conv=>whnf
   refine .mk (by exact fun h=>⟨h,h⟩) ?_
   conv=>whnf
   refine ah.on (ah.row hsm hte (show mM (es.getD i default).counts.length (l++a) em by rw[Eh]; exact hem) rfl rfl (by decide) rfl (by decide) (by decide) (fun Wj yY=>?_))
   replace yY:mM (es.getD i default).counts.length (l++a) Wj:=yY
   rw[Eh] at yY
   conv=>whnf
   refine .mk (by exact fun h=>⟨h,h⟩) ?_
   conv=>whnf
   refine ah.on (ah.lend (S.lW (lN (l++a) (es.getD i default)) (l++a).length false false (by rw[tJ]; omega) (by rw[tJ]; exact Nat.le_refl _)) ⟨aB _,RF trivial rfl,trivial⟩ rfl rfl ?_)
   rw[RD,TJ]
   conv=>whnf
   repeat(refine VC.mk (by first|exact id|(intro h; rw[h]; rfl)) ?_; conv=>whnf)
   refine⟨fun h4=>?_,fun h4=>?_⟩
   ·have h4':(iT l (es.getD i default)&&iT a (es.getD i default))=false:=by
     have h5:(!(iT l (es.getD i default)&&iT a (es.getD i default)))=true:=h4
     simpa only[Bool.not_eq_true'] using h5
    have hsg:(es.take (i+1)).foldl (stepG (dL r) l a) (l.length,zE)=(es.take i).foldl (stepG (dL r) l a) (l.length,zE):=by rw[hnext,stepG,hO]; simp only; rw[h4']; rfl
    conv=>whnf
    refine .mk (by simp only[okI] at *; omega) ?_
    conv=>whnf
    refine⟨(i+1,Wj),[1,3,7,8,15,24],⟨by show i+1<=_; omega,yY⟩,by show es.length-(i+1)<es.length-i; omega,⟨⟨_,rfl,.eq rfl⟩,⟨_,rfl,.eq ?_⟩,trivial⟩,(sR rfl),iG rfl rfl,iG rfl rfl,vM rfl rfl rfl ⟨rfl,rfl⟩ (dD.of_eq rfl),iG rfl rfl,iG rfl rfl,okF rfl nofun rfl rfl rfl ⟨rfl,rfl⟩ ?_,trivial⟩
    ·exact congrArg (fun s:Nat×Elem=>T.int ((s.1:Nat):Int)) hsg
    ·exact congrArg (fun s:Nat×Elem=>(OV.box 66 3 (.dat (.elem s.2))).aF.l) hsg
   have h4':(iT l (es.getD i default)&&iT a (es.getD i default))=true:=by
    have h5:(!(iT l (es.getD i default)&&iT a (es.getD i default)))=false:=h4
    simpa only[Bool.not_eq_false'] using h5
   have hfi:=G7 (l:=l) (x:=x)
   have hlen2:((es.take i).foldl (stepG (dL r) l a) (l.length,zE)).2.counts.length<=6:=Ua (show(0:Nat)<=6 by decide) fun e he=>by rw[(hok e (List.mem_of_mem_take he)).len]; exact KN
   conv=>whnf
   refine ah.row hsm htx (show mM x.counts.length (l++a) Wj by rw[hxl]; exact yY) rfl rfl (by decide) rfl (by decide) (by decide) (fun em2 Wn=>?_)
   replace Wn:mM x.counts.length (l++a) em2:=Wn
   rw[hxl] at Wn
   conv=>whnf
   refine .mk (by show 0<=(l.length:Int)/\(l.length:Int)<=(lN (l++a) x).length; rw[tJ]; omega) ?_
   conv=>whnf
   refine ah.pure (S.GZ ((lN (l++a) x).take l.length) false (by rw[Nj,tJ]; omega)) rfl ?_
   conv=>whnf
   repeat(refine VC.mk (by first|exact id|exact fun h=>⟨h,h⟩) ?_; conv=>whnf)
   rw[Nj]
   conv=>whnf
   refine ah.iD (fun _=>S.jl (es.getD i default) (by rw[Eh]; omega)) rfl ?_
   conv=>whnf
   refine VC.mk id ?_
   conv=>whnf
   refine ah.iD (fun _=>S.jl ((es.take i).foldl (stepG (dL r) l a) (l.length,zE)).2 (by omega)) rfl ?_
   conv=>whnf
   repeat(refine VC.mk (by first|exact id|exact fun h=>⟨h,h⟩|(intro h; simp[h]; done)|(intro h; simp_all; done)) ?_; conv=>whnf)
   generalize hS:(es.take i).foldl (stepG (dL r) l a) (l.length,zE)=s at *
   have hsc:=step_cond (n:=l.length) (s:=s.1) (t:=decide (qY (es.getD i default)<qY s.2)) hfi
   have Y0:stepG (dL r) l a s (es.getD i default)=bif decide (fD l x<l.length)&&(decide (fD l x<s.1)||fD l x==s.1&&decide (qY (es.getD i default)<qY s.2)) then(fD l x,es.getD i default) else s:=by
    rw[stepG,hO]; simp only; rw[h4',Bool.true_and]
   refine⟨fun h5=>?_,fun h5=>?_⟩
   ·have h5':(decide (fD l x<l.length)&&(decide (fD l x<s.1)||fD l x==s.1&&decide (qY (es.getD i default)<qY s.2)))=true:=hsc▸h5
    rw[h5'] at Y0
    rw[Y0] at hnext
    have hlt:decide (fD l x<l.length)=true:=(Bool.and_eq_true .. ▸h5').1
    rw[hlt] at hfi
    conv=>whnf
    refine .mk (by simp only[okI] at *; omega) ?_
    conv=>whnf
    refine⟨(i+1,em2),[1,3,7,8,15,24],⟨by show i+1<=_; omega,Wn⟩,by show es.length-(i+1)<es.length-i; omega,⟨⟨_,rfl,.eq rfl⟩,⟨_,rfl,.eq ?_⟩,trivial⟩,(sR rfl),iG rfl rfl,iG rfl rfl,vM rfl rfl rfl ⟨rfl,rfl⟩ (dD.of_eq rfl),iG rfl rfl,iG rfl rfl,okF rfl nofun rfl rfl rfl ⟨rfl,rfl⟩ ?_,trivial⟩
    ·show T.int (((es.take (i+1)).foldl (stepG (dL r) l a) (l.length,zE)).1:Nat)=T.int (Ef (lN l x))
     rw[hnext,hfi]; rfl
    ·exact congrArg (fun s:Nat×Elem=>(OV.box 66 3 (.dat (.elem s.2))).aF.l) hnext
   ·have h5':(decide (fD l x<l.length)&&(decide (fD l x<s.1)||fD l x==s.1&&decide (qY (es.getD i default)<qY s.2)))=false:=hsc▸h5
    rw[h5'] at Y0
    rw[Y0] at hnext
    conv=>whnf
    refine .mk (by simp only[okI] at *; omega) ?_
    conv=>whnf
    refine⟨(i+1,em2),[1,3,7,8,15,24],⟨by show i+1<=_; omega,Wn⟩,by show es.length-(i+1)<es.length-i; omega,⟨⟨_,rfl,.eq rfl⟩,⟨_,rfl,.eq ?_⟩,trivial⟩,(sR rfl),iG rfl rfl,iG rfl rfl,vM rfl rfl rfl ⟨rfl,rfl⟩ (dD.of_eq rfl),iG rfl rfl,iG rfl rfl,okF rfl nofun rfl rfl rfl ⟨rfl,rfl⟩ ?_,trivial⟩
    ·exact congrArg (fun s:Nat×Elem=>T.int ((s.1:Nat):Int)) hnext
    ·exact congrArg (fun s:Nat×Elem=>(OV.box 66 3 (.dat (.elem s.2))).aF.l) hnext
 ·have hi':i=es.length:=by have:es.length<=i:=(by simpa using h3); omega
  subst hi'
  generalize (es.take es.length).foldl (stepG (dL r) l a) (l.length,zE)=s
  conv=>whnf
  refine⟨fun h4=>?_,fun h4=>?_⟩
  ·have h4':(s.1==l.length)=true:=by
    have h5:((s.1:Int)==(l.length:Int))=true:=h4
    rw[beq_iff_eq] at h5 ⊢; omega
   conv=>whnf
   rw[orM,h4']
   exact au.zeroE
  ·have h4':(s.1==l.length)=false:=by
    have h5:((s.1:Int)==(l.length:Int))=false:=h4
    rw[beq_eq_false_iff_ne] at h5 ⊢; omega
   conv=>whnf
   rw[orM,h4']
   exact au.eqv rfl
abbrev boxS(f:Bool)(st:List Int):OV:=.box 24 0 (.row 0 f (.ints st))
theorem Qd{st:List Int}{e:Elem}:(!(pU st e))=(YO e.counts st||e.value !=0):=by
 rw[pU,Bool.not_and,Bool.not_not,bne]
theorem kN.ofS{f:Bool}{st:List Int}{h0 h:Hz}{n:Nat}{v u:V}{post:T->Hp->Prop}(Z:Nat->Prop)(hz: ¬ Z 0)(h00:(h0.aj 0).isSome=true)(q0:h.get 0=some (boxS f st))(hu:u.free=true)(hv:T.sub Z h.aj u.aI v.aI)(hp:post u.aI (Hz.aj [(0,some (boxS f st))])):kN h0 n post v h:=by
 refine kN.Rj (h2:=[(0,some (boxS f st))]) (u:=u) Z ⟨iZ (Z:=Z) q0 hz,trivial⟩ ?_ hu hv hp
 intro i o ho
 have hG:=pV (show wZ 1 [(0,some (boxS f st))]=true from rfl) i o.aF (aH ho)
 obtain rfl:i=0:=by have:=hG.1; omega
 exact⟨h00,T.ay (fun j hj=>by rw[show j=0 by omega]; exact h00) _ hG.2.1,hG.2.2⟩
theorem S.ET(st:List Int)(f:Bool)(e:Elem)(hs:st.length<2^30)(he:e.counts.length<2^30):aP Tryz.prog 95 (V.aX [.dat (.elem e),.ptr 0 0 0]) (Hz.aj [(0,some (boxS f st))]) 1 (fun t hp=>t= .bool (!(pU st e))/\hp=Hz.aj [(0,some (boxS f st))]):=by
 refine rY.of (nx:=1) (h0:=[(0,some (boxS f st))]) Bd.mg (by simp) ⟨_,_,rfl,rfl⟩ rfl rfl ?_
 rw[Qd]
 conv=>whnf
 refine aQ.same [1,2,7,8] (fun i:Nat=>[(9,.int i)]) (fun i=>i<=e.counts.length/\(List.range i).any (fun i=>decide (e.counts.getD i 0>0)&& !(Ru st i))=false) (fun i=>e.counts.length-i) 0 rfl (by decide) rfl (fun _=>rfl) ⟨by omega,by simp⟩ ⟨⟨_,rfl,rfl⟩,trivial⟩ ?_
 conv=>whnf
 refine⟨rfl,?_⟩
 rintro i ⟨hi,hall⟩
 conv=>whnf
 refine⟨fun h3=>?_,fun h3=>?_⟩
 ·have hi':i<e.counts.length:=by simpa using h3
  conv=>whnf
  repeat(refine VC.mk (by first|exact fun h=>⟨h,h⟩|(simp only[Rw.rng] at *; omega)) ?_; conv=>whnf)
  refine ah.iD (fun _=>S.slices_Contains_int st i f (by omega)) rfl ?_
  conv=>whnf
  repeat(refine VC.mk id ?_; conv=>whnf)
  refine⟨fun h4=>?_,fun h4=>?_⟩
  ·conv=>whnf
   rw[show YO e.counts st=true from List.any_eq_true.2 ⟨i,List.mem_range.2 hi',h4⟩]
   exact kN.ofS (u:=.bool true) (fun _=>False) (fun q=>q) rfl rfl rfl (aB _) ⟨rfl,rfl⟩
  ·conv=>whnf
   refine .mk (by simp only[okI] at *; omega) ?_
   conv=>whnf
   refine⟨i+1,⟨by omega,?_⟩,by omega,⟨⟨_,rfl,rfl⟩,trivial⟩,?_,rfl⟩
   ·rw[List.range_succ,List.any_append,hall]
    show(false||((decide (e.counts.getD i 0>0)&& !(Ru st i))||false))=false
    rw[show(decide (e.counts.getD i 0>0)&& !(Ru st i))=false from h4]; rfl
   ·repeat' (first|exact trivial|exact⟨_,rfl,rfl⟩|constructor)
 ·have hi':i=e.counts.length:=by have:e.counts.length<=i:=(by simpa using h3); omega
  subst hi'
  rw[show YO e.counts st=false from hall]
  conv=>whnf
  exact kN.ofS (u:=.bool (e.value !=0)) (fun _=>False) (fun q=>q) rfl rfl rfl (aB _) ⟨rfl,rfl⟩
def FC(st:List Int):List Elem->Nat->Int
 |[],_=> -1
 |x::r,i=>bif !(pU st x) then(i:Int) else FC st r (i+1)
abbrev hD(f:Bool)(st:List Int)(es:List Elem):Hz:=[(0,some (boxS f st)),(1,some (qZ es))]
theorem S.Uc(st:List Int)(f:Bool)(es:List Elem)(hs:st.length<2^30)(hl:es.length<2^30)(he: ∀ e∈es,e.counts.length<2^30)(n:Nat):aP Tryz.prog 124 (V.aX [.own 1,.fn 95 [.ptr 0 0 0]]) (Hz.aj (hD f st es)) n (fun t hp=>t= .int (FC st es 0)/\hp=Hz.aj (hD f st es)):=by
 refine rY.of (nx:=2) (h0:=hD f st es) Bd.dU (by simp) ⟨_,_,rfl,rfl⟩ rfl rfl ?_
 conv=>whnf
 refine aQ.objs 2 [0,1,6,7] (fun i:Nat=>[(8,.int i)]) (fun _=>[(0,boxS f st),(1,qZ es)]) (fun i=>i<=es.length/\FC st es 0=FC st (es.drop i) i) (fun i=>es.length-i) 0 [0,1] rfl (by decide) (fun _=>rfl) ⟨by omega,by simp⟩ ?_ ?_ ?_
 ·exact(sR rfl)
 ·exact⟨rQ rfl rfl,rQ rfl rfl,trivial⟩
 conv=>whnf
 refine⟨(sR rfl),rfl,?_⟩
 rintro i ⟨hi,hall⟩
 conv=>whnf
 refine⟨fun h3=>?_,fun h3=>?_⟩
 ·have hi':i<es.length:=by simpa using h3
  rw[aZ default hi'] at hall
  simp only[FC] at hall
  conv=>whnf
  repeat(refine VC.mk (by simp only[Rw.rng,Int.toNat_natCast]; omega) ?_; conv=>whnf)
  refine ah.GX (i:=0) (ts:=[.dat (.elem (es.getD i default)),.ptr 0 0 0]) (S.ET st f (es.getD i default) hs (he _ (getM hi'))) (by rfl) (by rfl) (by rfl) (by rfl) (by rfl) (by rfl) ?_
  rintro t hp ⟨rfl,rfl⟩
  refine .inl ⟨.bool _,boxS f st,rfl,rfl,rfl,?_⟩
  conv=>whnf
  refine⟨fun h4=>?_,fun h4=>?_⟩
  ·conv=>whnf
   rw[h4] at hall
   exact kN.same (nx:=2) rfl ⟨rfl,rfl,trivial⟩ rfl rfl ⟨by rw[hall]; rfl,rfl⟩
  ·conv=>whnf
   refine .mk (by simp only[okI] at *; omega) ?_
   conv=>whnf
   rw[h4] at hall
   exact⟨i+1,[0,1],⟨by omega,hall⟩,by omega,(sR rfl),(sR rfl),rQ rfl rfl,rQ rfl rfl,trivial⟩
 ·conv=>whnf
  have hi':es.length<=i:=by simpa using h3
  rw[List.drop_eq_nil_of_le hi'] at hall
  exact kN.same (nx:=2) rfl ⟨rfl,rfl,trivial⟩ rfl rfl ⟨by rw[hall]; rfl,rfl⟩
def eF(st:List Int)(es:List Elem):List Elem:=es.filter (pU st)
theorem Y1{st:List Int}: ∀ {es:List Elem} {i:Nat},FC st es i= -1->eF st es=es:=by
 intro es
 induction es with
 |nil=>intro i _; rfl
 |cons x r ih =>
  intro i h
  simp only[FC] at h
  cases hb:pU st x with
  |false=>rw[hb] at h; simp at h
  |true=>rw[hb] at h; simp only[eF,List.filter_cons,hb,if_true]; exact congrArg _ (ih h)
theorem Wp{st:List Int}: ∀ {es:List Elem} {i:Nat},FC st es i≠ -1-> ∃ k,FC st es i=((i+k:Nat):Int)/\k<es.length/\eF st (es.take k)=es.take k/\pU st (es.getD k default)=false:=by
 intro es
 induction es with
 |nil=>intro i h; exact absurd rfl h
 |cons x r ih =>
  intro i h
  simp only[FC] at h ⊢
  cases hb:pU st x with
  |false=>exact⟨0,by simp,by simp,rfl,by simpa using hb⟩
  |true =>
   rw[hb] at h
   obtain⟨k,h1,h2,h3,h4⟩:=ih h
   refine⟨k+1,by show FC st r (i+1)=_; rw[h1]; omega,by simpa using h2,?_,by simpa using h4⟩
   simp only[eF,List.take_succ_cons,List.filter_cons,hb,if_true]; exact congrArg _ h3
theorem Ei{st:List Int}{es:List Elem}{j:Nat}(hj:j<es.length):eF st (es.take (j+1))=bif pU st (es.getD j default) then eF st (es.take j)++[es.getD j default] else eF st (es.take j):=by
 have e:es[j]?.toList=[es.getD j default]:=by simp[hj]
 unfold eF
 rw[List.take_add_one,List.filter_append,e]
 cases hb:pU st (es.getD j default) with
 |true=>rw[List.filter_cons,hb]; rfl
 |false=>rw[List.filter_cons,hb]; simp
theorem G8{st:List Int}{es:List Elem}{j:Nat}:(eF st (es.take j)).length<=j:=by
 have:=List.length_filter_le (pU st) (es.take j)
 rw[List.length_take] at this
 unfold eF; omega
def midD(st:List Int)(es:List Elem)(j:Nat):List Elem:=eF st (es.take j)++es.drop (eF st (es.take j)).length
theorem Wq{st:List Int}{es:List Elem}{j:Nat}(hj:j<=es.length):(midD st es j).length=es.length:=by
 have:=G8 (st:=st) (es:=es) (j:=j)
 simp[midD]; omega
theorem Ws{st:List Int}{es:List Elem}{j k:Nat}(hk:j<=k):(midD st es j).getD k default=es.getD k default:=by
 have:=G8 (st:=st) (es:=es) (j:=j)
 unfold midD
 rw[List.getD_eq_getElem?_getD,List.getElem?_append_right (by omega),List.getElem?_drop]
 rw[show(eF st (es.take j)).length+(k-(eF st (es.take j)).length)=k by omega]
 rw[<- List.getD_eq_getElem?_getD]
theorem Wu{st:List Int}{es:List Elem}{j:Nat}(hj:j<es.length)(hb:pU st (es.getD j default)=true):(midD st es j).set (eF st (es.take j)).length (es.getD j default)=midD st es (j+1):=by
 have h1:=G8 (st:=st) (es:=es) (j:=j)
 have h2:=Ei (st:=st) hj
 rw[hb] at h2
 have h2':eF st (es.take (j+1))=eF st (es.take j)++[es.getD j default]:=h2
 unfold midD
 rw[h2',aZ default (show(eF st (es.take j)).length<es.length by omega),TN rfl]
 simp
theorem ah.drop2{P:Program}{f:FuncId}{ts args:List V}{h:Hz}{i j n:Nat}{o0 o1:OV}{K:V->Hz->Prop}{KW:Nat->V->Hz->Prop}{post:T->Hp->Prop}(H:aP P f (V.aX ts) (Hz.aj [(0,some o0),(1,some o1)]) 2 post)
  (ha:T.dh (fun a=>bif Nat.beq a 0 then i else j) (V.aX ts)=V.aX args) (hid:T.Nr 2 (V.aX ts)=true) (hg:wZ 2 [(0,some o0),(1,some o1)]=true) (hf0:o0.Gx=true) (hf:o1.Gx=true)
  (hi:h.get i=some o0) (hj:h.get j=some o1) (hij:i≠j) (hn:h.get n=none) (hin:n≠i) (hjn:n≠j)
  (hK: ∀ t hp,post t hp-> ∃ v,hp=Hz.aj [(0,some o0)]/\t=v.aI/\v.free=true/\K v ((j,none)::h)):ah P false none f args h n K KW:=by
 have hG:=pV hg
 have hlt: ∀ a:Nat,a<2->(Hz.aj [(0,some o0),(1,some o1)] a).isSome=true:=fun a ha=>by
  rw[dM,sO]; by_cases e:a=0
  ·rw[if_pos e]; rfl
  ·rw[if_neg e,if_pos (by omega)]; rfl
 have hsome: ∀ a,(Hz.aj [(0,some o0),(1,some o1)] a).isSome=true->a=0\/a=1:=fun a ha=>by
  rw[dM,sO] at ha; split at ha
  ·left; assumption
  ·split at ha
   ·right; assumption
   ·cases ha
 let ρ:Nat->Nat:=fun a=>bif Nat.beq a 0 then i else j
 have Wv: ∀ a b,(Hz.aj [(0,some o0),(1,some o1)] a).isSome=true->(Hz.aj [(0,some o0),(1,some o1)] b).isSome=true->ρ a=ρ b->a=b:=by
  intro a b ha hb e
  rcases hsome a ha with rfl|rfl<;>rcases hsome b hb with rfl|rfl
  ·rfl
  ·exact absurd e hij
  ·exact absurd e.symm hij
  ·rfl
 have inj: ∀ a b,((Hz.aj [(0,some o0),(1,some o1)] a).isSome=true\/a=2)->((Hz.aj [(0,some o0),(1,some o1)] b).isSome=true\/b=2)->nameAt ρ 2 n a=nameAt ρ 2 n b->a=b:=by
  intro a b ha hb e
  rcases ha with ha|rfl
  ·rcases hb with hb|rfl
   ·rcases hsome a ha with rfl|rfl<;>rcases hsome b hb with rfl|rfl
    ·rfl
    ·exact absurd e hij
    ·exact absurd e.symm hij
    ·rfl
   ·rcases hsome a ha with rfl|rfl
    ·exact absurd e.symm hin
    ·exact absurd e.symm hjn
  ·rcases hb with hb|rfl
   ·rcases hsome b hb with rfl|rfl
    ·exact absurd e hin
    ·exact absurd e hjn
   ·rfl
 refine ah.heap (post:=fun t' h'=> ∃ t h1,post t h1/\t'=t.ren (nameAt ρ 2 n)/\h'=placed ρ 2 n (Hz.aj [(0,some o0),(1,some o1)]) h.aj h1) ?_ ?_
 ·rw[<- ha]
  refine aP.place H (T.ay hlt _ (zX hid)) (fun a ob hob=>?_) (by rw[dM,sO]; rfl) (fun a ob hob=>?_) Wv
  ·exact⟨T.ay hlt _ (hG a ob hob).2.1,(hG a ob hob).2.2⟩
  ·have hs:(Hz.aj [(0,some o0),(1,some o1)] a).isSome=true:=by rw[hob]; rfl
   rcases hsome a hs with rfl|rfl
   ·rw[dM,if_pos rfl] at hob; cases hob
    show h.aj i=_
    rw[aH hi,pX hf0]
   ·rw[dM,sO,if_neg (by decide),if_pos rfl] at hob; cases hob
    show h.aj j=_
    rw[aH hj,pX hf]
 ·rintro t' h' ⟨t,h1,hp,rfl,rfl⟩
  obtain⟨v,rfl,rfl,hvf,hk⟩:=hK t h1 hp
  refine⟨v,_,EU (V.lI v hvf) _,?_,hk⟩
  funext a
  rw[dM]
  have at0:placed ρ 2 n (Hz.aj [(0,some o0),(1,some o1)]) h.aj (Hz.aj [(0,some o0)]) i=(Hz.aj [(0,some o0)] 0).map (Ob.ren (nameAt ρ 2 n)):=oU (h:=h.aj) (h1:=Hz.aj [(0,some o0)]) inj (i:=0) (.inl (hlt 0 (by decide)))
  have at1:placed ρ 2 n (Hz.aj [(0,some o0),(1,some o1)]) h.aj (Hz.aj [(0,some o0)]) j=(Hz.aj [(0,some o0)] 1).map (Ob.ren (nameAt ρ 2 n)):=oU (h:=h.aj) (h1:=Hz.aj [(0,some o0)]) inj (i:=1) (.inl (hlt 1 (by decide)))
  have at2:placed ρ 2 n (Hz.aj [(0,some o0),(1,some o1)]) h.aj (Hz.aj [(0,some o0)]) n=(Hz.aj [(0,some o0)] 2).map (Ob.ren (nameAt ρ 2 n)):=oU (h:=h.aj) (h1:=Hz.aj [(0,some o0)]) inj (i:=2) (.inr rfl)
  by_cases e1:a=j
  ·subst e1; rw[if_pos rfl,at1,sO,if_neg (by decide)]; rfl
  ·rw[if_neg e1]
   by_cases e0:a=i
   ·subst e0
    rw[at0,sO,if_pos rfl,aH hi,Option.map_some,pX hf0]
   ·by_cases e2:a=n
    ·subst e2; rw[at2,sO,if_neg (by decide)]; simp only[Hz.aj,hn]; rfl
    ·exact Bq (by
      rintro⟨b,hb,e⟩
      rcases hb with hb|rfl
      ·rcases hsome b hb with rfl|rfl
       ·exact e0 e.symm
       ·exact e1 e.symm
      ·exact e2 e.symm)
theorem aaX{h:Hz}{j k:Nat}{Z:Nat->Prop}{l:List Elem}{x:List V}(hz:Z j)(q:h.get j=some (.row 66 3 (.elems l) x))(hk:k<=l.length):T.sub Z h.aj (V.row 3 false (.elems (l.take k))).aI (V.ru j 0 k).aI:=by
 show T.sub Z h.aj (.sl 3 false ((l.take k).map sZ)) (.ru j 0 k)
 simp only[T.sub]
 refine⟨trivial,hz,Bo _,by decide,66,l.map sZ++V.aX x,?_,by simp; omega,?_⟩
 ·rw[aH q]; rfl
 ·rw[List.drop_zero,List.take_append_of_le_length (by simp; omega),List.map_take]
set_option maxHeartbeats 1000000 in
theorem S.DeleteFunc(st:List Int)(f:Bool)(es:List Elem)(hs:st.length<2^30)(hl:es.length<2^30)(he: ∀ e∈es,e.counts.length<2^30)(n:Nat):aP Tryz.prog 94 (V.aX [.own 1,.fn 95 [.ptr 0 0 0]]) (Hz.aj (hD f st es)) n (fun t hp=>t=(V.row 3 false (.elems (eF st es))).aI/\hp=Hz.aj [(0,some (boxS f st))]):=by
 refine rY.of (nx:=2) (h0:=hD f st es) Bd.dQ (by simp) ⟨_,_,rfl,rfl⟩ rfl rfl ?_
 conv=>whnf
 refine ah.heap (S.Uc st f es hs hl he _) ?_
 rintro t hp ⟨rfl,rfl⟩
 refine⟨.int _,hD f st es,rfl,rfl,?_⟩
 conv=>whnf
 refine⟨fun h1=>?_,fun h1=>?_⟩
 ·have hno:=Y1 (st:=st) (es:=es) (i:=0) (by simpa using h1)
  conv=>whnf
  rw[hno]
  exact kN.ofS (u:=.row 3 false (.elems es)) (fun i=>i=1) (by decide) rfl rfl rfl (aao rfl rfl) ⟨rfl,rfl⟩
 obtain⟨k,hk1,hk2,hk3,hk4⟩:=Wp (st:=st) (es:=es) (i:=0) (by
  have h2:(FC st es 0== -1)=false:=h1
  exact beq_eq_false_iff_ne.1 h2)
 rw[Nat.zero_add] at hk1
 rw[hk1]
 have hkn:=Ei (st:=st) hk2
 rw[hk4] at hkn
 have hkn':eF st (es.take (k+1))=es.take k:=hkn.trans hk3
 conv=>whnf
 refine .mk (by simp only[okI]; omega) ?_
 conv=>whnf
 have acE:midD st es (k+1)=es:=by
  unfold midD
  rw[hkn',List.length_take,Nat.min_eq_left (by omega),List.take_append_drop]
 refine aQ.objs 2 [0,1] (fun j:Nat=>[(6,.int j),(5,.int (eF st (es.take j)).length)]) (fun j=>[(0,boxS f st),(1,qZ (midD st es j))]) (fun j=>k+1<=j/\j<=es.length/\(eF st (es.take j)).length<j) (fun j=>es.length-j) (k+1) [0,1] rfl (by decide) (fun _=>rfl) ⟨Nat.le_refl _,by omega,by rw[hkn',List.length_take]; omega⟩ ?_ ?_ ?_
 ·refine⟨⟨_,rfl,.eq rfl⟩,⟨_,rfl,.eq ?_⟩,trivial⟩
  show T.int ((eF st (es.take (k+1))).length:Nat)=T.int (k:Nat)
  rw[hkn',List.length_take,Nat.min_eq_left (by omega)]
 ·refine⟨rQ rfl rfl,⟨rfl,(fun _=>rfl),rfl,rfl,rfl,_,rfl,rfl,rfl,dD.of_eq ?_⟩,trivial⟩
  rw[acE]
 conv=>whnf
 refine⟨(sR rfl),rfl,?_⟩
 rintro j ⟨hj0,hj,hsj⟩
 have hml:=Wq (st:=st) hj
 conv=>whnf
 refine⟨fun h3=>?_,fun h3=>?_⟩
 ·have hj':j<es.length:=by
   have h4:(j:Int)<((midD st es j).length:Int):=of_decide_eq_true h3
   omega
  have hge:=Ws (st:=st) (es:=es) (j:=j) (k:=j) (Nat.le_refl _)
  have hst:=Wu (st:=st) hj'
  have hsn:=Ei (st:=st) hj'
  conv=>whnf
  repeat(refine VC.mk (by simp only[Rw.rng,Int.toNat_natCast,hml]; omega) ?_; conv=>whnf)
  refine ah.GX (i:=0) (ts:=[.dat (.elem ((midD st es j).getD j default)),.ptr 0 0 0]) (S.ET st f ((midD st es j).getD j default) hs (by rw[hge]; exact he _ (getM hj'))) (by rfl) (by rfl) (by rfl) (by rfl) (by rfl) (by rfl) ?_
  rintro t hp ⟨rfl,rfl⟩
  refine .inl ⟨.bool _,boxS f st,rfl,rfl,rfl,?_⟩
  rw[hge]
  conv=>whnf
  refine⟨fun h4=>?_,fun h4=>?_⟩
  ·have h4':pU st (es.getD j default)=true:=by simpa using h4
   rw[h4'] at hsn
   have Ud:eF st (es.take (j+1))=eF st (es.take j)++[es.getD j default]:=hsn
   conv=>whnf
   repeat(refine VC.mk (by first|(simp only[Rw.rng,Int.toNat_natCast,hml]; omega)|(simp only[okI]; omega)) ?_; conv=>whnf)
   refine⟨j+1,[0,1],⟨by omega,by omega,by rw[Ud,List.length_append]; simp only[List.length_cons,List.length_nil]; omega⟩,by omega,⟨⟨_,rfl,.eq rfl⟩,⟨_,rfl,.eq ?_⟩,trivial⟩,(sR rfl),rQ rfl rfl,⟨rfl,(fun _=>rfl),rfl,rfl,rfl,_,rfl,rfl,rfl,dD.of_eq ?_⟩,trivial⟩
   ·show T.int ((eF st (es.take (j+1))).length:Nat)=T.int (((eF st (es.take j)).length:Int)+1)
    rw[Ud,List.length_append]; rfl
   ·show(qZ (midD st es (j+1))).aF.l=(qZ ((midD st es j).set (eF st (es.take j)).length ((midD st es j).getD j default))).aF.l
    rw[hge,hst h4']
  ·have h4':pU st (es.getD j default)=false:=by simpa using h4
   rw[h4'] at hsn
   have Ud:eF st (es.take (j+1))=eF st (es.take j):=hsn
   conv=>whnf
   refine .mk (by simp only[okI] at *; omega) ?_
   conv=>whnf
   refine⟨j+1,[0,1],⟨by omega,by omega,by rw[Ud]; omega⟩,by omega,⟨⟨_,rfl,.eq rfl⟩,⟨_,rfl,.eq ?_⟩,trivial⟩,(sR rfl),rQ rfl rfl,⟨rfl,(fun _=>rfl),rfl,rfl,rfl,_,rfl,rfl,rfl,dD.of_eq ?_⟩,trivial⟩
   ·rw[Ud]; rfl
   ·unfold midD; rw[Ud]
 ·have hj':j=es.length:=by
   have h4: ¬ (j:Int)<((midD st es j).length:Int):=of_decide_eq_false h3
   omega
  subst hj'
  have hall:eF st (es.take es.length)=eF st es:=by rw[List.take_length]
  have hle:(eF st (es.take es.length)).length<=es.length:=by omega
  conv=>whnf
  repeat(refine VC.mk (by first|(simp only[Rw.oK,hml]; omega)|(refine⟨?_,rfl⟩; show((eF st (es.take es.length)).length:Int).toNat<=(midD st es es.length).length; rw[hml,Int.toNat_natCast]; omega)|(show(0:Int)<=((eF st (es.take es.length)).length:Int)/\((eF st (es.take es.length)).length:Int)<=(((midD st es es.length).take ((eF st (es.take es.length)).length:Int).toNat).length:Int); rw[List.length_take,hml,Int.toNat_natCast]; omega)|(show _<=(midD st es es.length).length/\(midD st es es.length).length=(midD st es es.length).length; rw[hml]; simp only[Int.toNat_natCast]; omega)|(show(0:Int)<=_/\_<=(((midD st es es.length).take _).length:Int); rw[List.length_take,hml]; simp only[Int.toNat_natCast]; omega)) ?_; conv=>whnf)
  have htk:(midD st es es.length).take (eF st (es.take es.length)).length=eF st es:=by
   unfold midD; rw[List.take_left,hall]
  have adI:((midD st es es.length).take (eF st (es.take es.length)).length).take (eF st (es.take es.length)).length=eF st es:=by
   rw[List.take_take,Nat.min_self,htk]
  refine kN.ofS (u:=.row 3 false (.elems (eF st es))) (fun i=>i=1) (by decide) rfl rfl rfl ?_ ⟨rfl,rfl⟩
  rw[<- adI]
  exact aaX (k:=(eF st (es.take es.length)).length) rfl rfl (by rw[List.length_take,hml]; omega)
theorem ah.delete{st:List Int}{f:Bool}{es:List Elem}{h:Hz}{i j n:Nat}{K:V->Hz->Prop}{KW:Nat->V->Hz->Prop}(hs:st.length<2^30)(hl:es.length<2^30)(he: ∀ e∈es,e.counts.length<2^30)(hi:h.get i=some (boxS f st))(hj:h.get j=some (qZ es))(hij:i≠j)(hn:h.get n=none)(hin:n≠i)(hjn:n≠j)(hK:K (.row 3 false (.elems (eF st es))) ((j,none)::h)):ah Tryz.prog false none 94 [.own j,.fn 95 [.ptr i 0 0]] h n K KW:=by
 refine ah.drop2 (ts:=[.own 1,.fn 95 [.ptr 0 0 0]]) (o0:=boxS f st) (o1:=qZ es) (S.DeleteFunc st f es hs hl he 2) rfl rfl rfl rfl rfl hi hj hij hn hin hjn ?_
 rintro t hp ⟨rfl,rfl⟩
 exact⟨.row 3 false (.elems (eF st es)),rfl,rfl,rfl,hK⟩
theorem KT{p:aS}(h:tC p=0):D9 p/\sN p=true:=by
 unfold tC at h
 obtain⟨h1,h2⟩:=bz (fun _=>by decide) h
 rw[h2] at h1
 refine⟨Bc h2,?_⟩
 have hm:(jJ p).monadic=true:=by simpa using h1
 simp only[jJ,Bool.and_eq_true] at hm
 exact hm.1
theorem Ns{p:aS}{q:Prop'}(h:Ec p q=0):rX p q=0/\tC p=0/\q.kind=1:=by
 unfold Ec at h
 obtain⟨h1,h2⟩:=bz nz h
 have h3:=Js h2 (by decide)
 rw[Bool.or_eq_false_iff] at h3
 exact⟨by simpa using h1,by simpa using h3.1,by simpa using h3.2⟩
def Y2(l:List Clause):Nat:=(dw l).toNat
theorem Wx{l:List Clause}:dw l=Y2 l:=by have:=zV (l:=l); unfold Y2; omega
def tK(p:aS):Nat:=max 1 p.values.length
def Ej(p:aS)(q:Prop')(l:List Clause):List Elem:=eF (yU p q) (jW (Y2 l+3) p.states.length (tK p))
theorem S.jB(p:aS)(q:Prop')(m:Nat)(hp:dK p)(hq:wH q)(hv:rX p q=0)(hF:D9 p)(hm:m<=8):ak Tryz.prog 63 [.dat (.eu p),.dat (.prop q),.int m] (.row 3 false (.elems (eF (yU p q) (jW (m+1) p.states.length (tK p))))):=by
 have h1:=hF.pos; have h2:=hF.states; have h3:=hF.values
 have rZ:tK p<=3:=by unfold tK; omega
 have hb0:0<m+1:=by omega
 have hok:=FT (b:=m+1) (n:=p.states.length) (vals:=tK p) hb0
 have Ub:(jW (m+1) p.states.length (tK p)).length<=3*531441:=by
  rw[wY]
  have:=zW (b:=m+1) (n:=p.states.length) (by omega) h2
  exact Nat.mul_le_mul rZ (by omega)
 refine ak.of Bd.jB (by simp) rfl rfl ?_
 conv=>whnf
 refine ah.pure (S.lM p q hp hq hv) rfl ?_
 conv=>whnf
 conv=>whnf
 refine ah.mkRow (r:=.elems (jW (m+1) p.states.length (tK p))) (S.TQ p p.states.length (tK p) m hp rfl h1 h2 rfl rZ hm) ?_
 conv=>whnf
 refine ah.delete (f:=false) (st:=yU p q) (es:=jW (m+1) p.states.length (tK p)) (TF hp hq) (by omega) (fun e he=>by rw[(hok e he).len]; omega) (by rfl) (by rfl) (by decide) (by rfl) (by decide) (by decide) ?_
 conv=>whnf
 exact au.eqv rfl
def FD(p:aS)(q:Prop')(l:List Clause):Int:=bif Ec p q !=0 then Ec p q else qW p l
def Ue(p:aS)(q:Prop')(l:List Clause):V:=.fH [.int (bif FD p q l !=0 then 0 else orM l.length (Bl l (Ej p q l))),.int (FD p q l)]
set_option maxHeartbeats 1000000 in
theorem S.fE(p:aS)(q:Prop')(l:List Clause)(f:Bool)(hp:dK p)(hq:wH q)(hl:SmallK l):ak Tryz.prog 42 [.dat (.eu p),.dat (.prop q),.row 4 f (.clauses l)] (Ue p q l):=by
 refine ak.of Bd.fE (by simp) rfl rfl ?_
 conv=>whnf
 refine ah.pure (S.lQ p q hp hq) rfl ?_
 conv=>whnf
 refine⟨fun h1=>?_,fun h1=>?_⟩
 ·have he:FD p q l=Ec p q:=by rw[FD,show(Ec p q !=0)=true from h1]; rfl
  conv=>whnf
  exact au.eqv (by rw[Ue,he,show(Ec p q !=0)=true from h1]; rfl)
 have he:FD p q l=qW p l:=by rw[FD,show(Ec p q !=0)=false from h1]; rfl
 conv=>whnf
 refine ah.lend (S.AB p l false f hp hl) ⟨aB _,RG trivial rfl rfl,trivial⟩ rfl rfl ?_
 conv=>whnf
 refine⟨fun h2=>?_,fun h2=>?_⟩
 ·conv=>whnf
  exact au.eqv (by rw[Ue,he,show(qW p l !=0)=true from h2]; rfl)
 obtain⟨hv,hin,_⟩:=Ns (Ce h1)
 obtain⟨hF,_⟩:=KT hin
 obtain⟨hR,aee⟩:=G5 (Ce h2)
 have g1:=hF.pos; have g2:=hF.states; have g3:=hF.values
 have hrk:=Wx (l:=l)
 have acD:dw l<=3:=xW fun k hk=>(hR.cl k hk).two
 have hU:ak Tryz.prog 63 [.dat (.eu p),.dat (.prop q),.int (dw l+2)] (.row 3 false (.elems (Ej p q l))):=by
  have:=S.jB p q (Y2 l+2) hp hq hv hF (by omega)
  rw[hrk]; exact this
 have hok: ∀ e∈Ej p q l,GN (Y2 l+3) p.states.length (tK p) e:=fun e he=>FT (by omega) e (List.mem_filter.1 he).1
 have rZ:tK p<=3:=by unfold tK; omega
 have YA:Y2 l+3<=9:=by omega
 have Ub:(Ej p q l).length<=3*531441:=by
  refine Nat.le_trans (List.length_filter_le _ _) ?_
  rw[wY]
  have:=zW (b:=Y2 l+3) (n:=p.states.length) YA g2
  exact Nat.mul_le_mul rZ (by omega)
 have hV:Ue p q l= .fH [.int (orM l.length (Bl l (Ej p q l))),.int 0]:=by
  rw[Ue,he,show(qW p l !=0)=false from h2,Ce h2]; rfl
 rw[hV]
 generalize Ej p q l=es at hU hok Ub ⊢
 rw[<- VY]
 conv=>whnf
 refine ah.G6 hl rfl ?_
 conv=>whnf
 refine .mk (by simp only[okI]; omega) ?_
 conv=>whnf
 refine ah.pure (hU) rfl ?_
 conv=>whnf
 refine aQ.AL (ι:=Nat×List (Int×List Bool)) 100 [2,10,39,40] (fun x=>[(41,.int x.1),(11,.int (Bj l (es.take x.1):Nat))]) (fun x=>[(18,Fv l f 19),(19,Ed x.2)]) (fun x=>x.1<=es.length/\mM p.states.length l x.2) (fun x=>es.length-x.1) (0,[]) [18,19] rfl (by decide) (fun _=>rfl) ⟨Nat.zero_le _,mM.nil⟩ ?_ ?_ ?_
 ·exact(sR rfl)
 ·exact⟨vM rfl rfl rfl ⟨rfl,rfl⟩ (dD.of_eq rfl),iG rfl rfl,trivial⟩
 conv=>whnf
 refine⟨(sR rfl),rfl,?_⟩
 rintro⟨i,em⟩ ⟨hi,hem⟩
 conv=>whnf
 refine⟨fun h3=>?_,fun h3=>?_⟩
 ·have hi':i<es.length:=by simpa using h3
  have hue:=hok _ (getM (d:=default) hi')
  have hte:=hR.at hue YA rZ g1 g2
  have Eh:(es.getD i default).counts.length=p.states.length:=hue.len
  have hnx:=TI (l:=l) hi'
  have hfi:=G7 (l:=l) (x:=es.getD i default)
  have hle:Bj l (es.take i)<=l.length:=by rw[VY]; exact VZ
  have hk1:=hl.len
  conv=>whnf
  refine .mk (by simp only[Rw.rng] at *; omega) ?_
  conv=>whnf
  refine ah.row hl hte (show mM (es.getD i default).counts.length l em by rw[Eh]; exact hem) rfl rfl (by decide) rfl (by decide) (by decide) (fun Wj yY=>?_)
  replace yY:mM (es.getD i default).counts.length l Wj:=yY
  rw[Eh] at yY
  conv=>whnf
  refine ah.pure (S.GZ (lN l (es.getD i default)) false (by rw[tJ]; omega)) rfl ?_
  conv=>whnf
  rw[hfi]
  cases hd:decide (fD l (es.getD i default)<l.length) with
  |true =>
   conv=>whnf
   refine Fork.mk (fun _=>?_) (fun q=>absurd (q.symm.trans (decide_eq_true (show(0:Int)<=((fD l (es.getD i default):Nat):Int) by omega))) Bool.false_ne_true)
   conv=>whnf
   refine .mk (by simp only[okI] at *; omega) ?_
   conv=>whnf
   conv=>whnf
   refine⟨(i+1,Wj),[18,19],⟨by show i+1<=_; omega,yY⟩,by show es.length-(i+1)<es.length-i; omega,⟨⟨_,rfl,.eq rfl⟩,⟨_,rfl,.eq ?_⟩,trivial⟩,(sR rfl),vM rfl rfl rfl ⟨rfl,rfl⟩ (dD.of_eq rfl),iG rfl rfl,trivial⟩
   show T.int (Bj l (es.take (i+1)):Nat)=T.int (min (Bj l (es.take i):Int) (fD l (es.getD i default):Nat))
   rw[hnx]; exact congrArg T.int (by omega)
  |false =>
   have hge:=of_decide_eq_false hd
   conv=>whnf
   refine Fork.mk (fun q=>absurd (q.symm.trans ((rfl:false=false))).symm Bool.false_ne_true) (fun _=>?_)
   conv=>whnf
   refine .mk (by simp only[okI] at *; omega) ?_
   conv=>whnf
   conv=>whnf
   refine⟨(i+1,Wj),[18,19],⟨by show i+1<=_; omega,yY⟩,by show es.length-(i+1)<es.length-i; omega,⟨⟨_,rfl,.eq rfl⟩,⟨_,rfl,.eq ?_⟩,trivial⟩,(sR rfl),vM rfl rfl rfl ⟨rfl,rfl⟩ (dD.of_eq rfl),iG rfl rfl,trivial⟩
   show T.int (Bj l (es.take (i+1)):Nat)=T.int (Bj l (es.take i):Nat)
   rw[hnx,Nat.min_eq_left (by omega)]
 ·have hi':i=es.length:=by have:es.length<=i:=(by simpa using h3); omega
  subst hi'
  rw[List.take_length]
  conv=>whnf
  refine⟨fun h4=>?_,fun h4=>?_⟩
  ·have h4':(Bj l es==l.length)=true:=by
    have h5:((Bj l es:Int)==(l.length:Int))=true:=h4
    rw[beq_iff_eq] at h5 ⊢; omega
   conv=>whnf
   rw[orM,h4']
   exact au.eqv rfl
  ·have h4':(Bj l es==l.length)=false:=by
    have h5:((Bj l es:Int)==(l.length:Int))=false:=h4
    rw[beq_eq_false_iff_ne] at h5 ⊢; omega
   conv=>whnf
   rw[orM,h4']
   exact au.eqv rfl
def FH(st c:List Int):Int:=(st.map fun x=>c.getD x.toNat 0).sum
def Bv(q:Prop')(c:List Int):Bool:=q.bad.all fun k=>decide (k.least<=FH k.states c)
structure aaY(n:Nat)(q:Prop'):Prop where
 place: ∀ k∈q.bad,sK n k.states
 least: ∀ k∈q.bad,1<=k.least/\k.least<=3
 some: ∀ k∈q.bad,k.states≠[]
theorem Uf{st c:List Int}{i:Nat}(hi:i<st.length):FH (st.take (i+1)) c=FH (st.take i) c+c.getD (st.getD i 0).toNat 0:=by
 unfold FH
 rw[List.take_add_one,List.map_append,List.sum_append]; simp[hi]
theorem Wy{st c:List Int}(h:JH 8 c):0<=FH st c/\FH st c<=8*st.length:=by
 unfold FH
 induction st with
 |nil=>simp
 |cons x r ih =>
  have:=h.g (by omega) x.toNat
  simp only[List.map_cons,List.sum_cons,List.length_cons]; omega
theorem getD_mem{α:Type}{l:List α}{i:Nat}{d:α}(hi:i<l.length):l.getD i d∈l:=by
 rw[show l.getD i d=l[i] by simp[hi]]; exact List.getElem_mem hi
theorem S.nZ(q:Prop')(e:Elem)(hq:wH q)(hb:aaY e.counts.length q)(hc:JH 8 e.counts)(_hl:e.counts.length<2^30):ak Tryz.prog 64 [.dat (.prop q),.dat (.elem e)] (.bool (Bv q e.counts)):=by
 have q2:=hq.bad
 refine ak.of Bd.nZ (by simp) rfl rfl ?_
 conv=>whnf
 refine aQ.same [3,11,12] (fun i:Nat=>[(13,.int i)]) (fun i=>i<=q.bad.length/\(q.bad.take i).all (fun k=>decide (k.least<=FH k.states e.counts))=true) (fun i=>q.bad.length-i) 0 rfl (by decide) rfl (fun _=>rfl) ⟨by omega,by simp⟩ ⟨⟨_,rfl,rfl⟩,trivial⟩ ?_
 conv=>whnf
 refine⟨rfl,?_⟩
 rintro i ⟨hi,hall⟩
 conv=>whnf
 refine⟨fun h3=>?_,fun h3=>?_⟩
 ·have hi':i<q.bad.length:=by simpa using h3
  have hk:=getD_mem (d:=default) hi'
  have hpl:=hb.place _ hk
  have hsz:=hq.cnt i
  conv=>whnf
  refine .mk (by simp only[Rw.rng] at *; omega) ?_
  conv=>whnf
  refine aQ.same [3,6,11,12,13,18,19] (fun j:Nat=>[(20,.int j),(7,.int (FH ((q.bad.getD i default).states.take j) e.counts))]) (fun j=>j<=(q.bad.getD i default).states.length) (fun j=>(q.bad.getD i default).states.length-j) 0 rfl (by decide) rfl (fun _=>rfl) (Nat.zero_le _) ⟨⟨_,rfl,rfl⟩,⟨_,rfl,rfl⟩,trivial⟩ ?_
  conv=>whnf
  refine⟨rfl,?_⟩
  rintro j hj
  have hs1:=Wy (st:=(q.bad.getD i default).states.take j) hc
  have hl1:((q.bad.getD i default).states.take j).length<=(q.bad.getD i default).states.length:=by rw[List.length_take]; omega
  conv=>whnf
  refine⟨fun h4=>?_,fun h4=>?_⟩
  ·have hj':j<(q.bad.getD i default).states.length:=by simpa using h4
   have hst:=Uf (c:=e.counts) hj'
   have hg:=hc.g (by omega) ((q.bad.getD i default).states.getD j 0).toNat
   obtain⟨p1,p2⟩:=hpl _ (getD_mem (d:=0) hj')
   conv=>whnf
   repeat(refine VC.mk (by first|(simp only[Rw.rng,Int.toNat_natCast]; omega)|(simp only[okI,Int.toNat_natCast] at *; omega)) ?_; conv=>whnf)
   refine⟨j+1,by omega,by omega,⟨⟨_,rfl,rfl⟩,⟨_,rfl,?_⟩,trivial⟩,?_,rfl⟩
   ·rw[hst]; rfl
   ·repeat' (first|exact trivial|exact⟨_,rfl,rfl⟩|constructor)
  ·have hj':(q.bad.getD i default).states.length<=j:=by simpa using h4
   rw[List.take_of_length_le hj']
   conv=>whnf
   refine⟨fun h5=>?_,fun h5=>?_⟩
   ·conv=>whnf
    refine au.bool ?_
    have: ¬ (q.bad.getD i default).least<=FH (q.bad.getD i default).states e.counts:=by
     simp only[Int.toNat_natCast] at h5
     have:=of_decide_eq_true h5; omega
    exact uN (p:=fun k=>decide (k.least<=FH k.states e.counts)) (d:=default) hi' (decide_eq_false this)
   ·conv=>whnf
    refine .mk (by simp only[okI] at *; omega) ?_
    conv=>whnf
    have:(q.bad.getD i default).least<=FH (q.bad.getD i default).states e.counts:=by
     simp only[Int.toNat_natCast] at h5
     have:=of_decide_eq_false h5; omega
    refine⟨i+1,⟨by omega,?_⟩,by omega,⟨⟨_,rfl,rfl⟩,trivial⟩,?_,rfl⟩
    ·rw[tY (d:=default) hi' hall]; exact decide_eq_true this
    ·repeat' (first|exact trivial|exact⟨_,rfl,rfl⟩|constructor)
 ·have hi':q.bad.length<=i:=by simpa using h3
  rw[List.take_of_length_le hi'] at hall
  conv=>whnf
  exact au.bool hall
theorem WA{p:aS}{q:Prop'}(hp:rX p q=0)(hk:q.kind=1):aaY p.states.length q:=by
 unfold rX at hp
 obtain⟨_,hp⟩:=bz nz hp
 obtain⟨_,hp⟩:=bz (fun _=>by decide) hp
 obtain⟨_,hp⟩:=bz (fun _=>by decide) hp
 obtain⟨_,hp⟩:=bz (fun _=>by decide) hp
 obtain⟨_,hp⟩:=bz nz hp
 obtain⟨_,hp⟩:=bz (fun _=>by decide) hp
 rw[show(!(q.kind==1))=false by simp[hk]] at hp
 have hcn:=jw hp (zU q.bad p.states.length) (by simp)
 have hall: ∀ k∈q.bad,VQ p.states.length k=0:=fun k hk=>jw hcn _ (List.mem_map.2 ⟨k,hk,rfl⟩)
 have hlb: ∀ k∈q.bad,uI k=false:=fun k hk=>Js (jw (hall k hk) (eG (uI k) 1) (by simp)) (by decide)
 refine⟨fun k hk=>zT (jw (hall k hk) (dX k.states p.states.length) (by simp)),fun k hk=>?_,fun k hk e=>?_⟩
 ·have:=hlb k hk
  simp only[uI,Bool.or_eq_false_iff,decide_eq_false_iff_not] at this; omega
 ·have:=hlb k hk
  rw[uI,e] at this; simp at this
def lgB(l:List Cnt):Int:=l.foldl (fun m k=>max m k.least) 0
theorem Y3{l:List Cnt}: ∀ {r:Int},0<=r->l.foldl (fun m k=>max m k.least) r=max r (lgB l):=by
 have: ∀ (l:List Cnt) (r s:Int),l.foldl (fun m k=>max m k.least) (max r s)=max r (l.foldl (fun m k=>max m k.least) s):=by
  intro l
  induction l with
  |nil=>intro r s; rfl
  |cons x l ih=>intro r s; rw[List.foldl_cons,List.foldl_cons,Int.max_assoc,ih]
 intro r hr
 have:=this l r 0
 rw[Int.max_eq_left hr] at this; exact this
theorem aaZ{l:List Cnt}(h: ∀ k∈l,1<=k.least/\k.least<=3):0<=lgB l/\lgB l<=3:=by
 have: ∀ (l:List Cnt) (r:Int),0<=r/\r<=3->(∀ k∈l,1<=k.least/\k.least<=3)->0<=l.foldl (fun m k=>max m k.least) r/\l.foldl (fun m k=>max m k.least) r<=3:=by
  intro l
  induction l with
  |nil=>intro r hr _; exact hr
  |cons x l ih=>intro r hr h; have:=h x (by simp); exact ih _ (show 0<=max r x.least/\max r x.least<=3 by omega) fun k hk=>h k (List.mem_cons_of_mem _ hk)
 exact this l 0 (by omega) h
theorem Y4{l:List Cnt}{r:Int}{i:Nat}(hi:i<l.length):(l.take (i+1)).foldl (fun m k=>max m k.least) r=max ((l.take i).foldl (fun m k=>max m k.least) r) (l.getD i default).least:=by
 rw[List.take_add_one,List.foldl_append]; simp[hi]
def Vt(q:Prop')(l:List Clause):Nat:=(max (dw l) (lgB q.bad)).toNat
theorem aa0{q:Prop'}{l:List Clause}:max (dw l) (lgB q.bad)=Vt q l:=by have:=zV (l:=l); unfold Vt; omega
def WB(p:aS)(q:Prop')(l:List Clause):Option Elem:=YT (fun e=>Bv q e.counts) l (jW (Vt q l+3) p.states.length (tK p))
def aa1(s:Option Elem):V:=.fH [.dat (.elem (s.getD zE)),.bool s.isSome]
theorem WC{bad:Elem->Bool}{l:List Clause}{es:List Elem}{x:Elem}(h:es.foldl (Ap bad l) none=some x):x∈es:=V4 h
set_option maxHeartbeats 2000000 in
theorem S.jC(p:aS)(q:Prop')(l:List Clause)(f:Bool)(hp:dK p)(hq:wH q)(hl:SmallK l)(hF:D9 p)(hB:aaY p.states.length q)(hR:lZ p.states.length p.values.length l):ak Tryz.prog 43 [.dat (.eu p),.dat (.prop q),.row 4 f (.clauses l)] (aa1 (WB p q l)):=by
 have g1:=hF.pos; have g2:=hF.states; have g3:=hF.values
 have q1:=hq.bad
 have hk1:=hl.len
 have rZ:tK p<=3:=by unfold tK; omega
 have acD:dw l<=3:=xW fun k hk=>(hR.cl k hk).two
 have adJ:=zV (l:=l)
 have hlg:=aaZ hB.least
 have hmd:=aa0 (q:=q) (l:=l)
 have aem:Vt q l<=3:=by omega
 have YA:Vt q l+3<=9:=by omega
 have hU:ak Tryz.prog 57 [.dat (.eu p),.int (max (dw l) (lgB q.bad)+2)] (.row 3 false (.elems (jW (Vt q l+3) p.states.length (tK p)))):=by
  have:=S.fQ p p.states.length (tK p) (Vt q l+2) hp rfl g1 g2 rfl rZ (by omega)
  rw[hmd]; exact this
 have hok:=FT (b:=Vt q l+3) (n:=p.states.length) (vals:=tK p) (by omega)
 have Ub:(jW (Vt q l+3) p.states.length (tK p)).length<=3*531441:=by
  rw[wY]
  have:=zW (b:=Vt q l+3) (n:=p.states.length) YA g2
  exact Nat.mul_le_mul rZ (by omega)
 have hend:WB p q l=YT (fun e=>Bv q e.counts) l (jW (Vt q l+3) p.states.length (tK p)):=rfl
 rw[hend]
 generalize jW (Vt q l+3) p.states.length (tK p)=es at hU Ub hok ⊢
 have hmem: ∀ i x,(es.take i).foldl (Ap (fun e=>Bv q e.counts) l) none=some x->x.counts.length=p.states.length:=fun i x h=>(hok x (List.mem_of_mem_take (WC h))).len
 have acF:YT (fun e=>Bv q e.counts) l es=(es.take es.length).foldl (Ap (fun e=>Bv q e.counts) l) none:=by rw[List.take_length]; rfl
 rw[acF]
 refine ak.of Bd.jC (by simp) rfl (by rfl) ?_
 conv=>whnf
 refine ah.G6 hl rfl ?_
 conv=>whnf
 obtain⟨rb,hrb,hrL⟩:=JI l.length
 rw[hrb]
 conv=>whnf
 refine .mk (by omega) ?_
 conv=>whnf
 refine aQ.AL 50 [3,4,6,8,9,26,27] (fun i:Nat=>[(28,.int i),(10,.int ((q.bad.take i).foldl (fun m k=>max m k.least) (dw l)))]) (fun _=>[(0,.box 27 11 (.dat (.eu p))),(1,.box 63 7 (.dat (.prop q))),(2,.box 66 3 (.agg [.int 0,.row 0 true .nil])),(5,Fv l f 6),(6,Ed []),(10,rowB (List.replicate l.length false))]) (fun i=>i<=q.bad.length) (fun i=>q.bad.length-i) 0 [0,1,2,5,6,10] rfl (by decide) (fun _=>rfl) (Nat.zero_le _) ?_ ?_ ?_
 ·exact(sR rfl)
 ·refine⟨iG rfl rfl,iG rfl rfl,iG rfl rfl,vM rfl rfl rfl ⟨rfl,rfl⟩ (dD.of_eq rfl),iG rfl rfl,okF rfl nofun rfl rfl rfl ⟨rfl,rfl⟩ ?_,trivial⟩
  show(Rw.bools (List.replicate l.length false)).aX++[]=rb.aX++[]
  rw[hrL]
 conv=>whnf
 refine⟨(sR rfl),rfl,?_⟩
 rintro i hi
 conv=>whnf
 refine⟨fun h3=>?_,fun h3=>?_⟩
 ·have hi':i<q.bad.length:=by simpa using h3
  have hlt:=Y4 (r:=dw l) hi'
  conv=>whnf
  repeat(refine VC.mk (by simp only[okI,Rw.rng] at *; omega) ?_; conv=>whnf)
  refine⟨i+1,[0,1,2,5,6,10],by omega,by omega,⟨⟨_,rfl,.eq rfl⟩,⟨_,rfl,.eq ?_⟩,trivial⟩,(sR rfl),iG rfl rfl,iG rfl rfl,iG rfl rfl,vM rfl rfl rfl ⟨rfl,rfl⟩ (dD.of_eq rfl),iG rfl rfl,iG rfl rfl,trivial⟩
  rw[hlt]; rfl
 have hi':i=q.bad.length:=by have:q.bad.length<=i:=(by simpa using h3); omega
 subst hi'
 rw[show q.bad.take q.bad.length=q.bad from List.take_length,Y3 adJ]
 conv=>whnf
 refine .mk (by simp only[okI]; omega) ?_
 conv=>whnf
 refine ah.pure (hU) rfl ?_
 conv=>whnf
 refine aQ.AL (ι:=Nat×List (Int×List Bool)) 100 [4,6,8,9,13,40,41] (fun x=>[(42,.int x.1)]) (fun x=>[(1,.box 63 7 (.dat (.prop q))),(2,.box 66 3 (.agg [.int 0,.row 0 true .nil])),(5,Fv l f 6),(6,Ed x.2),(10,rowB (List.replicate l.length false)),(51,.box 66 3 (.dat (.elem (((es.take x.1).foldl (Ap (fun e=>Bv q e.counts) l) none).getD zE))))]) (fun x=>x.1<=es.length/\mM p.states.length l x.2) (fun x=>es.length-x.1) (0,[]) [1,2,5,6,10,51] rfl (by decide) (fun _=>rfl) ⟨Nat.zero_le _,mM.nil⟩ ?_ ?_ ?_
 ·exact(sR rfl)
 ·exact⟨iG rfl rfl,iG rfl rfl,vM rfl rfl rfl ⟨rfl,rfl⟩ (dD.of_eq rfl),iG rfl rfl,iG rfl rfl,vM rfl rfl rfl ⟨rfl,rfl⟩ JJ,trivial⟩
 conv=>whnf
 refine⟨(sR rfl),rfl,?_⟩
 rintro⟨i,em⟩ ⟨hi,hem⟩
 have zO:=hmem i
 conv=>whnf
 refine⟨fun h3=>?_,fun h3=>?_⟩
 ·have hi':i<es.length:=by simpa using h3
  have hue:=hok _ (getM (d:=default) hi')
  have hte:=hR.at hue YA rZ g1 g2
  have Eh:(es.getD i default).counts.length=p.states.length:=hue.len
  have hnx:(es.take (i+1)).foldl (Ap (fun e=>Bv q e.counts) l) none=Ap (fun e=>Bv q e.counts) l ((es.take i).foldl (Ap (fun e=>Bv q e.counts) l) none) (es.getD i default):=GV hi'
  generalize (es.take i).foldl (Ap (fun e=>Bv q e.counts) l) none=s at *
  have hsl:(s.getD zE).counts.length<=6:=by
   cases s with
   |none=>exact show(0:Nat)<=6 by decide
   |some x=>have:=zO x rfl; show x.counts.length<=6; omega
  have hsn:(((s.getD zE).counts.length:Int)==0)=s.isNone:=by
   cases s with
   |none=>rfl
   |some x =>
    have:=zO x rfl
    show((x.counts.length:Int)==0)=false
    exact beq_eq_false_iff_ne.2 (by omega)
  conv=>whnf
  refine .mk (by simp only[Rw.rng] at *; omega) ?_
  conv=>whnf
  refine ah.pure (S.nZ q (es.getD i default) hq (by rw[Eh]; exact hB) (hue.nn YA) (by rw[Eh]; omega)) rfl ?_
  conv=>whnf
  refine .mk (by exact fun h=>⟨h,h⟩) ?_
  conv=>whnf
  cases hD:Bv q (es.getD i default).counts with
  |false =>
   have hsg:Ap (fun e=>Bv q e.counts) l s (es.getD i default)=s:=by rw[Ap,hD]; rfl
   rw[hsg] at hnx
   refine ah.YZ (.row 0 false (.bools [])) rfl ?_
   conv=>whnf
   refine .mk (by exact fun h=>⟨h,h⟩) ?_
   conv=>whnf
   refine ah.YZ (.bool true) rfl ?_
   conv=>whnf
   repeat(refine VC.mk id ?_; conv=>whnf)
   refine ah.iD (fun _=>S.jl (es.getD i default) (by rw[Eh]; omega)) rfl ?_
   conv=>whnf
   refine VC.mk id ?_
   conv=>whnf
   refine ah.iD (fun _=>S.jl (s.getD zE) (by omega)) rfl ?_
   conv=>whnf
   repeat(refine VC.mk (by first|exact id|exact fun h=>⟨h,h⟩|(intro h; simp_all; done)) ?_; conv=>whnf)
   refine Fork.mk (fun q=>absurd (q.symm.trans ((rfl:false=false))).symm Bool.false_ne_true) (fun _=>?_)
   conv=>whnf
   refine .mk (by simp only[okI] at *; omega) ?_
   conv=>whnf
   conv=>whnf
   refine⟨(i+1,em),[1,2,5,6,10,51],⟨by show i+1<=_; omega,hem⟩,by show es.length-(i+1)<es.length-i; omega,(sR rfl),(sR rfl),iG rfl rfl,iG rfl rfl,vM rfl rfl rfl ⟨rfl,rfl⟩ (dD.of_eq rfl),iG rfl rfl,iG rfl rfl,okF rfl nofun rfl rfl rfl ⟨rfl,rfl⟩ ?_,trivial⟩
   exact congrArg (fun s:Option Elem=>(OV.box 66 3 (.dat (.elem (s.getD zE)))).aF.l) hnx
  |true =>
   have Y0:Ap (fun e=>Bv q e.counts) l s (es.getD i default)=bif iT l (es.getD i default)&&(s.isNone||decide (qY (es.getD i default)<qY (s.getD zE))) then some (es.getD i default) else s:=by rw[Ap,hD]; rfl
   refine ah.on (ah.row hl hte (show mM (es.getD i default).counts.length l em by rw[Eh]; exact hem) rfl rfl (by decide) rfl (by decide) (by decide) (fun Wj yY=>?_))
   replace yY:mM (es.getD i default).counts.length l Wj:=yY
   rw[Eh] at yY
   conv=>whnf
   refine .mk (by exact fun h=>⟨h,h⟩) ?_
   conv=>whnf
   refine ah.on (ah.lend (S.lW (lN l (es.getD i default)) l.length false false (by rw[tJ]; omega) (by rw[tJ]; exact Nat.le_refl _)) ⟨aB _,RF trivial rfl,trivial⟩ rfl rfl ?_)
   rw[RD]
   conv=>whnf
   repeat(refine VC.mk id ?_; conv=>whnf)
   refine ah.iD (fun _=>S.jl (es.getD i default) (by rw[Eh]; omega)) rfl ?_
   conv=>whnf
   refine VC.mk id ?_
   conv=>whnf
   refine ah.iD (fun _=>S.jl (s.getD zE) (by omega)) rfl ?_
   conv=>whnf
   repeat(refine VC.mk (by first|exact id|exact fun h=>⟨h,h⟩|(intro h; simp_all; done)) ?_; conv=>whnf)
   refine⟨fun h5=>?_,fun h5=>?_⟩
   ·have h5':(iT l (es.getD i default)&&(s.isNone||decide (qY (es.getD i default)<qY (s.getD zE))))=true:=by rw[<- hsn]; exact h5
    rw[h5'] at Y0
    rw[Y0] at hnx
    have hfin:=congrArg (fun s:Option Elem=>(OV.box 66 3 (.dat (.elem (s.getD zE)))).aF.l) hnx
    conv=>whnf
    refine .mk (by simp only[okI] at *; omega) ?_
    conv=>whnf
    refine⟨(i+1,Wj),[1,2,5,6,10,51],⟨by show i+1<=_; omega,yY⟩,by show es.length-(i+1)<es.length-i; omega,(sR rfl),(sR rfl),iG rfl rfl,iG rfl rfl,vM rfl rfl rfl ⟨rfl,rfl⟩ (dD.of_eq rfl),iG rfl rfl,iG rfl rfl,okF rfl nofun rfl rfl rfl ⟨rfl,rfl⟩ ?_,trivial⟩
    exact hfin
   ·have h5':(iT l (es.getD i default)&&(s.isNone||decide (qY (es.getD i default)<qY (s.getD zE))))=false:=by rw[<- hsn]; exact h5
    rw[h5'] at Y0
    rw[Y0] at hnx
    have hfin:=congrArg (fun s:Option Elem=>(OV.box 66 3 (.dat (.elem (s.getD zE)))).aF.l) hnx
    conv=>whnf
    refine .mk (by simp only[okI] at *; omega) ?_
    conv=>whnf
    refine⟨(i+1,Wj),[1,2,5,6,10,51],⟨by show i+1<=_; omega,yY⟩,by show es.length-(i+1)<es.length-i; omega,(sR rfl),(sR rfl),iG rfl rfl,iG rfl rfl,vM rfl rfl rfl ⟨rfl,rfl⟩ (dD.of_eq rfl),iG rfl rfl,iG rfl rfl,okF rfl nofun rfl rfl rfl ⟨rfl,rfl⟩ ?_,trivial⟩
    exact hfin
 ·have hi':i=es.length:=by have:es.length<=i:=(by simpa using h3); omega
  subst hi'
  generalize (es.take es.length).foldl (Ap (fun e=>Bv q e.counts) l) none=s at *
  conv=>whnf
  refine au.eqv ?_
  rw[aa1]
  cases s with
  |none=>rfl
  |some x =>
   have:=zO x rfl
   show T.fH [sZ x,.bool true]=T.fH [sZ x,.bool (decide (0<(x.counts.length:Int)))]
   rw[decide_eq_true (by omega)]
def ES(p:aS)(r:Rule)(l a:List Clause):Nat×Elem:=JE (dL r) l a (jW (Y2 (l++a)+3) p.states.length (tK p))
def Y5(n:Nat)(s:Nat×Elem):List V:=[.int (orM n s.1),.dat (.elem (bif s.1==n then zE else s.2))]
theorem S.Nu(p:aS)(l a:List Clause)(i:Nat)(f g:Bool)(hp:dK p)(hi:i<p.rules.length)(hin:tC p=0)(hl:lZ p.states.length p.values.length l)(ha:lZ p.states.length p.values.length a)(hs:l.length+a.length<=1000) :
  ak Tryz.prog 41 [.dat (.eu p),.dat (.rule (p.rules.getD i default)),.row 4 f (.clauses l),.row 4 g (.clauses a)] (.fH (Y5 l.length (ES p (p.rules.getD i default) l a))):=by
 obtain⟨hF,hpl⟩:=KT hin
 have:=hF.values
 exact S.gX p (p.rules.getD i default) l a p.states.length (tK p) f g hp (hp.rule i) rfl hF.pos hF.states rfl (by unfold tK; omega) (acv hF (TB hpl) hi) hl ha hs (Y2 (l++a)) Wx
def Gq(p:aS)(rule:Int)(l a:List Clause):Int:=bif tC p !=0 then tC p else bif decide (rule<0)||decide (rule>=p.rules.length) then 6 else AA p l a
def Pz(p:aS)(rule:Int)(l a:List Clause):V:=.fH ((bif Gq p rule l a !=0 then [.int 0,.dat (.elem zE)] else Y5 l.length (ES p (p.rules.getD rule.toNat default) l a))++[.int (Gq p rule l a)])
theorem au.zero3{k j:Int}{h:Hz}:au (.fH [.int k,.dat (.elem zE),.int j]) (.fH [.int k,.agg [.int 0,.row 0 true .nil],.int j]) h:=⟨by
 show T.sub _ _ (.fH [.int k,.agg [.int 0,.sl 0 false []],.int j]) (.fH [.int k,.agg [.int 0,.sl 0 true []],.int j])
 simp[T.sub,T.dJ]⟩
theorem G9{p:aS}{rule:Int}{l a:List Clause}{e:Int}(h:Gq p rule l a=e)(he:(e !=0)=true):Pz p rule l a= .fH [.int 0,.dat (.elem zE),.int e]:=by
 rw[Pz,h,he]; rfl
theorem Y6{p:aS}{l a:List Clause}(h:AA p l a=0):lZ p.states.length p.values.length l/\lZ p.states.length p.values.length a/\l.length<=160/\a.length<=160:=by
 unfold AA at h
 obtain⟨h1,h2⟩:=bz nz h
 obtain⟨a1,a2⟩:=G5 (by simpa using h1)
 obtain⟨b1,b2⟩:=G5 h2
 exact⟨a1,b1,a2,b2⟩
theorem S.gV(p:aS)(rule:Int)(l a:List Clause)(f g:Bool)(hp:dK p)(hl:SmallK l)(ha:SmallK a):ak Tryz.prog 25 [.dat (.eu p),.int rule,.row 4 f (.clauses l),.row 4 g (.clauses a)] (Pz p rule l a):=by
 refine ak.of Bd.gV (by simp) rfl (by unfold Pz; cases Gq p rule l a !=0<;>rfl) ?_
 conv=>whnf
 refine ah.pure (S.fA p hp) rfl ?_
 conv=>whnf
 refine⟨fun h1=>?_,fun h1=>?_⟩
 ·have he:Gq p rule l a=tC p:=by rw[Gq,show(tC p !=0)=true from h1]; rfl
  conv=>whnf
  rw[G9 he h1]
  exact au.zero3
 have hk:=hp.rules
 conv=>whnf
 repeat(refine VC.mk (by first|exact id|exact fun h=>⟨h,h⟩|(intro h; rw[h]; rfl)) ?_; conv=>whnf)
 refine⟨fun h2=>?_,fun h2=>?_⟩
 ·have h2':(decide (rule<0)||decide (rule>=p.rules.length))=true:=h2
  have he:Gq p rule l a=6:=by rw[Gq,show(tC p !=0)=false from h1,h2']; rfl
  conv=>whnf
  rw[G9 he (by decide)]
  exact au.zero3
 have h2':(decide (rule<0)||decide (rule>=p.rules.length))=false:=h2
 have he:Gq p rule l a=AA p l a:=by rw[Gq,show(tC p !=0)=false from h1,h2']; rfl
 rw[Bool.or_eq_false_iff,decide_eq_false_iff_not,decide_eq_false_iff_not] at h2'
 obtain⟨r1,r2⟩:=h2'
 conv=>whnf
 refine ah.lend (S.I8 p l a false f g hp hl ha) ⟨aB _,RG trivial rfl rfl,trivial⟩ rfl rfl ?_
 conv=>whnf
 refine⟨fun h3=>?_,fun h3=>?_⟩
 ·conv=>whnf
  rw[G9 he h3]
  exact au.zero3
 obtain⟨k1,k2,k3,k4⟩:=Y6 (Ce h3)
 have hV:Pz p rule l a= .fH (Y5 l.length (ES p (p.rules.getD rule.toNat default) l a)++[.int 0]):=by
  rw[Pz,he,Ce h3]; rfl
 rw[hV]
 conv=>whnf
 refine .mk (by first|(simp only[Rw.rng]; omega)) ?_
 conv=>whnf
 refine Nv.pure (S.Nu p l a rule.toNat f g hp (by omega) (Ce h1) k1 k2 (by omega)) rfl ?_
 conv=>whnf
 exact au.eqv rfl
def yZ(p:aS)(l a:List Clause)(r:Rule):Bool:=(ES p r l a).1==l.length
def Nw(p:aS)(q:Prop')(l a:List Clause):Bool:=((qW p a==0)&&decide (l.length+a.length<=160))&&(p.rules.all (yZ p l a)&&(WB p q (l++a)).isNone)
def ccB(p:aS)(q:Prop')(l a:List Clause):Bool:=((FD p q l==0)&&(Bl l (Ej p q l)==l.length))&&Nw p q l a
theorem aap{n m:Nat}(_h:m<=n):decide (orM n m>=0)= !(m==n):=by
 unfold orM
 cases he:m==n with
 |true=>rfl
 |false=>simp only[cond_false]; exact decide_eq_true (by omega)
theorem S.eX(p:aS)(q:Prop')(l a:List Clause)(f g:Bool)(hp:dK p)(hq:wH q)(hl:SmallK l)(ha:SmallK a):ak Tryz.prog 27 [.dat (.eu p),.dat (.prop q),.row 4 f (.clauses l),.row 4 g (.clauses a)] (.bool (ccB p q l a)):=by
 have k1:=hl.len; have k2:=ha.len
 refine ak.of Bd.eX (by simp) rfl rfl ?_
 conv=>whnf
 refine ah.pure (S.fE p q l f hp hq hl) rfl ?_
 rw[Ue]
 cases he:FD p q l !=0 with
 |true =>
  have hcT:(FD p q l !=0||decide (0<=bif true then 0 else orM l.length (Bl l (Ej p q l))))=true:=by rw[he]; rfl
  conv=>whnf
  repeat(refine VC.mk (by first|exact id|(intro h; rw[h]; rfl)) ?_; conv=>whnf)
  refine Fork.mk (fun _=>?_) (fun q=>absurd (q.symm.trans (hcT)) Bool.false_ne_true)
  conv=>whnf
  exact au.bool (by rw[ccB,show(FD p q l==0)=false from beq_eq_false_iff_ne.2 (JB he)]; rfl)
 |false =>
  have he0:FD p q l=0:=Ce he
  have hor:=aap (n:=l.length) (m:=Bl l (Ej p q l)) VZ
  rw[he0]
  conv=>whnf
  repeat(refine VC.mk (by first|exact id|(intro h; rw[h]; rfl)) ?_; conv=>whnf)
  refine⟨fun h1=>?_,fun h1=>?_⟩
  ·have h1':decide (orM l.length (Bl l (Ej p q l))>=0)=true:=h1
   conv=>whnf
   refine au.bool ?_
   rw[hor] at h1'
   have h2:(Bl l (Ej p q l)==l.length)=false:=by simpa only[Bool.not_eq_true'] using h1'
   rw[ccB,h2,Bool.and_false]; rfl
  have h1':decide (orM l.length (Bl l (Ej p q l))>=0)=false:=h1
  rw[hor] at h1'
  have h2:(Bl l (Ej p q l)==l.length)=true:=by simpa only[Bool.not_eq_false'] using h1'
  have hcc:ccB p q l a=Nw p q l a:=by rw[ccB,he0,h2]; rfl
  rw[hcc]
  conv=>whnf
  refine ah.lend (S.AB p a false g hp ha) ⟨aB _,RG trivial rfl rfl,trivial⟩ rfl rfl ?_
  conv=>whnf
  repeat(refine VC.mk (by first|exact id|(intro h; rw[h]; rfl)|(intro h; (repeat' apply And.intro)<;>first|exact h|omega|(simp only[Rw.oK]; omega)|(simp only[Rw.rng]; omega))) ?_; conv=>whnf)
  refine⟨fun h3=>?_,fun h3=>?_⟩
  ·have h3':(qW p a !=0||decide ((l.length:Int)+a.length>160))=true:=h3
   conv=>whnf
   refine au.bool ?_
   have:((qW p a==0)&&decide (l.length+a.length<=160))=false:=by
    rw[Bool.or_eq_true] at h3'
    rcases h3' with h|h
    ·rw[show(qW p a==0)=false from beq_eq_false_iff_ne.2 (JB h)]; rfl
    ·have:=of_decide_eq_true h
     rw[decide_eq_false (show ¬ (l.length+a.length<=160) by omega),Bool.and_false]
   rw[Nw,this]; rfl
  have h3':(qW p a !=0||decide ((l.length:Int)+a.length>160))=false:=h3
  rw[Bool.or_eq_false_iff,decide_eq_false_iff_not] at h3'
  obtain⟨h4,h5⟩:=h3'
  have hlen:l.length+a.length<=160:=by omega
  have hrest:Nw p q l a=(p.rules.all (yZ p l a)&&(WB p q (l++a)).isNone):=by
   rw[Nw,Ce h4,decide_eq_true hlen]; rfl
  rw[hrest]
  have hE:Ec p q=0/\qW p l=0:=by
   unfold FD at he0
   obtain⟨u,v⟩:=bz nz he0
   exact⟨by simpa using u,v⟩
  obtain⟨hv,hin,hk⟩:=Ns hE.1
  obtain⟨hF,_⟩:=KT hin
  obtain⟨hR,_⟩:=G5 hE.2
  obtain⟨hA,_⟩:=G5 (Ce h4)
  have hla:=hR.app hA (by omega)
  have hru:=hp.rules
  conv=>whnf
  refine aQ.same [2,3,4,5,44,45] (fun i:Nat=>[(46,.int i)]) (fun i=>i<=p.rules.length/\(p.rules.take i).all (yZ p l a)=true) (fun i=>p.rules.length-i) 0 rfl (by decide) rfl (fun _=>rfl) ⟨by omega,by simp⟩ ⟨⟨_,rfl,rfl⟩,trivial⟩ ?_
  conv=>whnf
  refine⟨rfl,?_⟩
  rintro i ⟨hi,hall⟩
  conv=>whnf
  refine⟨fun h6=>?_,fun h6=>?_⟩
  ·have hi':i<p.rules.length:=by simpa using h6
   have hsl:(ES p (p.rules.getD i default) l a).1<=l.length:=Nh
   have hog:=aap hsl
   conv=>whnf
   refine .mk (by simp only[Rw.rng] at *; omega) ?_
   conv=>whnf
   refine ah.pure (S.Nu p l a i f g hp hi' hin hR hA (by omega)) rfl ?_
   rw[Y5]
   conv=>whnf
   refine⟨fun h7=>?_,fun h7=>?_⟩
   ·have h7':decide (orM l.length (ES p (p.rules.getD i default) l a).1>=0)=true:=h7
    conv=>whnf
    refine au.bool ?_
    rw[hog] at h7'
    have h8:yZ p l a (p.rules.getD i default)=false:=by rw[yZ]; simpa only[Bool.not_eq_true'] using h7'
    rw[uN (p:=yZ p l a) (d:=default) hi' h8]; rfl
   ·have h7':decide (orM l.length (ES p (p.rules.getD i default) l a).1>=0)=false:=h7
    conv=>whnf
    refine .mk (by simp only[okI] at *; omega) ?_
    conv=>whnf
    rw[hog] at h7'
    have h8:yZ p l a (p.rules.getD i default)=true:=by rw[yZ]; simpa only[Bool.not_eq_false'] using h7'
    refine⟨i+1,⟨by omega,?_⟩,by omega,⟨⟨_,rfl,rfl⟩,trivial⟩,?_,rfl⟩
    ·rw[tY (d:=default) hi' hall]; exact h8
    ·repeat' (first|exact trivial|exact⟨_,rfl,rfl⟩|constructor)
  ·have hi':p.rules.length<=i:=by simpa using h6
   rw[List.take_of_length_le hi'] at hall
   rw[hall]
   conv=>whnf
   refine Nv.pure (S.jq l a f g (by omega) (by omega)) rfl ?_
   conv=>whnf
   conv=>whnf
   refine ah.pure (S.jC p q (l++a) false hp hq (hla.small hF.states hF.values) hF (WA hv hk) hla) rfl ?_
   rw[aa1]
   conv=>whnf
   refine au.bool ?_
   cases WB p q (l++a)<;>rfl
end Go.Proofs.YtbigdcimbhgjbaaGreatDoor
