/-
 A part of the proof. No condition.
-/
import Derived.Test.YtifbibbicplneaaDoorIb
namespace Go.Proofs.YtifbibbicplneaaDoor
open Go.Ab Go.Proofs
set_option maxRecDepth 100000
theorem ah.row{l:List Clause}{f:Bool}{es:List (Int×List Bool)}{e:Elem}{h:Hz}{i j n:Nat}{K:V->Hz->Prop}{KW:Nat->V->Hz->Prop}(hsm:SmallK l)(ht:Gf l e)(hg:kZ e.counts.length l es)(hi:h.get i=some (Dk l f j))(hj:h.get j=some (Bh es))(hij:i≠j)(hn:h.get n=none)(hin:n≠i)(hjn:n≠j)
  (hK: ∀ es',kZ e.counts.length l es'->K (.row 0 false (.bools (kK l e))) ((j,some (Bh es'))::h)):ah Tryd.prog false none 29 [.ptr i 0 0,.dat (.elem e)] h n K KW:=by
 refine ah.Ye (ts:=[.ptr 0 0 0,.dat (.elem e)]) (o0:=Dk l f 1) (TK:=Dk l f j) (o1:=Bh es) (post:=fun t hp=> ∃ es',kZ e.counts.length l es'/\t=(V.row 0 false (.bools (kK l e))).aI/\hp=Hz.aj (hT l f es')) (S.Qw l f es e hsm ht hg) ?_ rfl rfl rfl ?_ hi hj hij hn hin hjn ?_
 ·rfl
 ·rfl
 ·rintro t hp ⟨es',hg',rfl,rfl⟩
  exact⟨.row 0 false (.bools (kK l e)),Bh es',rfl,rfl,rfl,rfl,hK es' hg'⟩
theorem QA{n:Nat}: ∀ {h:Hz},(h.all fun p=>Nat.blt p.1 n)=true-> ∀ m,n<=m->h.get m=none:=by
 intro h
 induction h with
 |nil=>intro _ m _; rfl
 |cons p r ih =>
  obtain⟨j,o⟩:=p
  intro q m hm
  simp only[List.all_cons,Bool.and_eq_true,Nat.blt_eq] at q
  simp only[Hz.get]
  have:Nat.beq j m=false:=by
   cases hb:Nat.beq j m with
   |false=>rfl
   |true=>have:=Nat.eq_of_beq_eq_true hb; omega
  rw[this]; exact ih q.2 m hm
theorem ah.EF{l:List Clause}{f:Bool}{h:Hz}{n:Nat}{K:V->Hz->Prop}{KW:Nat->V->Hz->Prop}(hsm:SmallK l)(hn:(h.all fun p=>Nat.blt p.1 n)=true)(hK:KW 1 (.ptr n 0 0) ((n,some (Dk l f (n+1)))::(n+1,some (Bh []))::h)):ah Tryd.prog false none 26 [.row 4 f (.clauses l)] h n K KW :=
 ah.new2 (_v:=.ptr 0 0 0) (S.iT l f hsm) rfl rfl (by rfl) ⟨⟨trivial,trivial,by show(1:Nat)<2; decide,trivial⟩,trivial⟩ (QA hn) hK
theorem ah.VH{P:Program}{dr:Bool}{f:FuncId}{args:List V}{h:Hz}{n:Nat}{K:V->Hz->Prop}{KW:Nat->V->Hz->Prop}(v:V)(hf:v.free=true)(hK:K v h):ah P dr (some false) f args h n K KW:=⟨.inl (.inl ⟨v,(fun e=>by cases e),hf,hK⟩)⟩
theorem ah.on{P:Program}{f:FuncId}{args:List V}{h:Hz}{n:Nat}{K:V->Hz->Prop}{KW':Nat->V->Hz->Prop}(H:ah P false none f args h n K fun _ _ _=>False):ah P false (some true) f args h n K KW':=by
 rcases H.ok with H|⟨_,_,k,⟨_,_,_,_,_,_,hk⟩,_⟩|⟨_,e,_⟩
 ·exact⟨.inl (.inr ⟨rfl,fun _=>aO.mono H fun t hp ⟨v,h',a,b,_,c⟩=>⟨v,h',a,b,c⟩,fun e=>by cases e⟩)⟩
 ·exact hk.elim
 ·cases e
theorem G5(n:Nat): ∃ r:Rw,(bif isZero (.int n) then some Rw.nil else Tf (n:Int).toNat (T.bool false))=some r/\r.aT=(Rw.bools (List.replicate n false)).aT:=by
 cases n with
 |zero=>exact⟨.nil,rfl,rfl⟩
 |succ k=>exact⟨.bools (List.replicate (k+1) false),rfl,rfl⟩
theorem G6:bZ [nP zE] [T.agg [.int 0,.sl 0 true []]]:=fun Z h=>by
 show T.dI Z h [.agg [.int 0,.sl 0 false []]] [.agg [.int 0,.sl 0 true []]]
 simp[T.sub,T.dI]
theorem aB.zeroE{k:Int}{h:Hz}:aB (.fU [.int k,.dat (.elem zE)]) (.fU [.int k,.agg [.int 0,.row 0 true .nil]]) h:=⟨by
 show T.sub _ _ (.fU [.int k,.agg [.int 0,.sl 0 false []]]) (.fU [.int k,.agg [.int 0,.sl 0 true []]])
 simp[T.sub,T.dI]⟩
theorem EG{l:List Clause}{x:Elem}:Bl (kK l x)=bif decide (dw l x<l.length) then((dw l x:Nat):Int) else -1:=by
 rw[Bl,Qo,qA]
theorem step_cond{F n s:Nat}{t:Bool}{f:Int}(hf:f=bif decide (F<n) then(F:Int) else -1):(decide (0<=f)&&(decide (f<(s:Int))||(f==(s:Int)&&t)))=(decide (F<n)&&(decide (F<s)||F==s&&t)):=by
 subst hf
 cases h:decide (F<n) with
 |false=>rfl
 |true =>
  simp only[cond_true]
  rw[show decide (0<=(F:Int))=true from decide_eq_true (by omega),show decide ((F:Int)<s)=decide (F<s) from decide_eq_decide.2 ⟨fun h=>by omega,fun h=>by omega⟩]
  rw[show((F:Int)==(s:Int))=(F==s) from by
   rw[Bool.eq_iff_iff,beq_iff_eq,beq_iff_eq]; exact⟨fun h=>by omega,fun h=>by omega⟩]
theorem QB{fire:Elem->Option Elem}{l a:List Clause}{s:Nat×Elem}{e:Elem}{n:Nat}(h:s.2.counts.length<=n)(he:e.counts.length<=n):(stepG fire l a s e).2.counts.length<=n:=by
 unfold stepG
 split
 ·exact h
 ·cases (bg l e&&bg a e&&(decide (dw l _<l.length)&&(decide (dw l _<s.1)||dw l _==s.1&&decide (kG e<kG s.2)))) with
  |false=>exact h
  |true=>exact he
theorem QC{fire:Elem->Option Elem}{l a:List Clause}{n:Nat}: ∀ {es:List Elem} {s:Nat×Elem},s.2.counts.length<=n->(∀ e∈es,e.counts.length<=n)->(es.foldl (stepG fire l a) s).2.counts.length<=n:=by
 intro es
 induction es with
 |nil=>intro s h _; exact h
 |cons e es ih=>intro s h he; exact ih (QB h (he e (by simp))) fun x hx=>he x (List.mem_cons_of_mem _ hx)
set_option maxHeartbeats 2000000 in
theorem S.fM(p:aX)(r:Rule)(l a:List Clause)(n vals:Nat)(f g:Bool)(hp:dP p)(hr:sU r)(hn:p.states.length=n)(hn0:0<n)(IB:n<=6)(hvs:max 1 p.values.length=vals)(pF:vals<=3)(hF:Xm n p r)(hl:kW n p.values.length l)(ha:kW n p.values.length a)(hs:l.length+a.length<=1000)(rk:Nat)(hrk:aU (l++a)=rk) :
  ay Tryd.prog 15 [.dat (.eG p),.dat (.rule r),.row 4 f (.clauses l),.row 4 g (.clauses a)] (.fU [.int (orM l.length (CS (bM r) l a (gY (rk+3) n vals)).1),.dat (.elem (bif (CS (bM r) l a (gY (rk+3) n vals)).1==l.length then zE else(CS (bM r) l a (gY (rk+3) n vals)).2))]):=by
 have hla:=hl.app ha hs
 have hsm:=hla.small IB (by omega)
 have XT:aU (l++a)<=3:=qP fun k hk=>(hla.cl k hk).two
 have hsl:=hl.len; have hsa:=ha.len
 have hlen:(l++a).length=l.length+a.length:=List.length_append
 have hU:ay Tryd.prog 33 [.dat (.eG p),.int (aU (l++a)+2)] (.row 3 false (.elems (gY (rk+3) n vals))):=by
  have:=S.eP p n vals (rk+2) hp hn hn0 IB hvs pF (by omega)
  rw[hrk]; exact this
 have QD:(gY (rk+3) n vals).length<=3*531441:=by
  rw[tN]
  have:=xO (b:=rk+3) (n:=n) (by omega) IB
  exact Nat.mul_le_mul pF (by omega)
 have hok:=xM (b:=rk+3) (n:=n) (vals:=vals) (by omega)
 have Vg:rk+3<=9:=by omega
 generalize gY (rk+3) n vals=es at hU QD hok ⊢
 have hblt:Nat.blt (Bj r.kind) 4096=true:=by
  rcases hF.kind with h|h|h<;>rw[Bj,h]<;>rfl
 have hst: ∀ i,(((es.take i).foldl (stepG (bM r) l a) (l.length,zE)).1)<=l.length:=fun i=>Ey (fire:=bM r) (l:=l) (a:=a) (es:=es.take i)
 have hnx: ∀ {i:Nat},i<es.length->(es.take (i+1)).foldl (stepG (bM r) l a) (l.length,zE)=stepG (bM r) l a ((es.take i).foldl (stepG (bM r) l a) (l.length,zE)) (es.getD i default):=fun hi=>Eu hi
 have hend:CS (bM r) l a es=(es.take es.length).foldl (stepG (bM r) l a) (l.length,zE):=by rw[List.take_length]; rfl
 rw[hend]
 refine ay.of Bd.fM (by simp) rfl rfl ?_
 conv=>whnf
 refine ah.pure (S.iM l a f g (by omega) (by omega)) rfl ?_
 conv=>whnf
 conv=>whnf
 refine ah.EF hsm rfl ?_
 conv=>whnf
 obtain⟨rb,hrb,hrL⟩:=G5 (l++a).length
 rw[hrb]
 conv=>whnf
 refine .mk (by omega) ?_
 conv=>whnf
 refine ah.pure (S.jS r.kind) rfl ?_
 conv=>whnf
 refine .mk (by simp only[okI] at *; first|omega|(simp_all; done)|(simp_all; omega)) ?_
 conv=>whnf
 conv=>whnf
 refine ah.pure (hU) rfl ?_
 conv=>whnf
 refine aY.CB (ι:=Nat×List (Int×List Bool)) 100 [2,5,9,10,11,12,14,41,42] (fun x=>[(43,.int x.1),(13,.int (((es.take x.1).foldl (stepG (bM r) l a) (l.length,zE)).1:Nat))]) (fun x=>[(1,.box 57 19 (.dat (.rule r))),(3,.box 42 3 (.agg [.int 0,.row 0 true .nil])),(7,Dk (l++a) false 8),(8,Bh x.2),(15,rowB (List.replicate (l++a).length false)),(24,.box 42 3 (.dat (.elem ((es.take x.1).foldl (stepG (bM r) l a) (l.length,zE)).2)))]) (fun x=>x.1<=es.length/\kZ n (l++a) x.2) (fun x=>es.length-x.1) (0,[]) [1,3,7,8,15,24] rfl (by decide) (fun _=>rfl) ⟨Nat.zero_le _,kZ.nil⟩ ?_ ?_ ?_
 ·exact⟨⟨_,rfl,.eq rfl⟩,⟨_,rfl,.eq rfl⟩,trivial⟩
 ·refine⟨okF rfl nofun rfl rfl rfl ⟨rfl,rfl⟩ rfl,okF rfl nofun rfl rfl rfl ⟨rfl,rfl⟩ rfl,⟨rfl,nofun,rfl,rfl,_,rfl,rfl,rfl,bZ.of_eq rfl⟩,okF rfl nofun rfl rfl rfl ⟨rfl,rfl⟩ rfl,okF rfl nofun rfl rfl rfl ⟨rfl,rfl⟩ ?_,?_,trivial⟩
  ·show(Rw.bools (List.replicate (l++a).length false)).aT++[]=rb.aT++[]
   rw[hrL]
  ·exact⟨rfl,nofun,rfl,rfl,_,rfl,rfl,rfl,G6⟩
 conv=>whnf
 refine⟨⟨⟨_,rfl,.eq rfl⟩,⟨_,rfl,.eq rfl⟩,⟨_,rfl,.eq rfl⟩,⟨_,rfl,.eq rfl⟩,⟨_,rfl,.eq rfl⟩,⟨_,rfl,.eq rfl⟩,⟨_,rfl,.eq rfl⟩,⟨_,rfl,.eq rfl⟩,⟨_,rfl,.eq rfl⟩,trivial⟩,rfl,?_⟩
 rintro⟨i,em⟩ ⟨hi,hem⟩
 conv=>whnf
 refine⟨fun h3=>?_,fun h3=>?_⟩
 ·have hi':i<es.length:=by simpa using h3
  have hue:=hok _ (getM (d:=default) hi')
  have hnext:=hnx hi'
  have abB:=hst i
  conv=>whnf
  refine .mk (by simp only[Rw.rng] at *; first|omega|(simp_all; done)|(simp_all; omega)) ?_
  conv=>whnf
  rw[hblt]
  obtain⟨x,hS,hx⟩:=S.apply r (es.getD i default) hr (by rw[hue.len]; exact hF.place) (hue.CJ Vg) (by rw[hue.len]; exact IB) hF.kind
  conv=>whnf
  refine ah.pure hS rfl ?_
  cases hO:bM r (es.getD i default) with
  |none =>
   have hsg:(es.take (i+1)).foldl (stepG (bM r) l a) (l.length,zE)=(es.take i).foldl (stepG (bM r) l a) (l.length,zE):=by rw[hnext,stepG,hO]
   conv=>whnf
   refine .mk (by exact fun h=>⟨h,h⟩) ?_
   conv=>whnf
   refine ah.VH (.row 0 false (.bools [])) rfl ?_
   conv=>whnf
   refine .mk (by exact fun h=>⟨h,h⟩) ?_
   conv=>whnf
   refine ah.VH (.bool true) rfl ?_
   conv=>whnf
   repeat(refine VC.mk (by first|exact id|(intro h; rw[h]; rfl)) ?_; conv=>whnf)
   refine Fork.mk (fun _=>?_) (fun q=>absurd (q.symm.trans ((rfl:true=true))) Bool.false_ne_true)
   conv=>whnf
   refine .mk (by simp only[okI] at *; first|omega|(simp_all; done)|(simp_all; omega)) ?_
   conv=>whnf
   refine⟨(i+1,em),[1,3,7,8,15,24],⟨by show i+1<=_; omega,hem⟩,by show es.length-(i+1)<es.length-i; omega,⟨⟨_,rfl,.eq rfl⟩,⟨_,rfl,.eq ?_⟩,trivial⟩,⟨⟨_,rfl,.eq rfl⟩,⟨_,rfl,.eq rfl⟩,⟨_,rfl,.eq rfl⟩,⟨_,rfl,.eq rfl⟩,⟨_,rfl,.eq rfl⟩,⟨_,rfl,.eq rfl⟩,⟨_,rfl,.eq rfl⟩,⟨_,rfl,.eq rfl⟩,⟨_,rfl,.eq rfl⟩,trivial⟩,okF rfl nofun rfl rfl rfl ⟨rfl,rfl⟩ rfl,okF rfl nofun rfl rfl rfl ⟨rfl,rfl⟩ rfl,⟨rfl,nofun,rfl,rfl,_,rfl,rfl,rfl,bZ.of_eq rfl⟩,okF rfl nofun rfl rfl rfl ⟨rfl,rfl⟩ rfl,okF rfl nofun rfl rfl rfl ⟨rfl,rfl⟩ rfl,okF rfl nofun rfl rfl rfl ⟨rfl,rfl⟩ ?_,trivial⟩
   ·exact congrArg (fun s:Nat×Elem=>T.int ((s.1:Nat):Int)) hsg
   ·exact congrArg (fun s:Nat×Elem=>(OV.box 42 3 (.dat (.elem s.2))).aF.l) hsg
  |some y =>
   obtain rfl:=hx y hO
   have hxl:x.counts.length=n:=by rw[GK hO,hue.len]
   have hxv:0<=x.value/\x.value<=1048576:=by
    rw[TJ hO,zO]
    have h1:=hue.val
    cases hw:decide (r.write>=0) with
    |false=>show 0<=(es.getD i default).value/\(es.getD i default).value<=1048576; omega
    |true =>
     rcases hF.wr with h2|h2
     ·obtain⟨w1,w2⟩:=qy h2
      show 0<=r.write/\r.write<=1048576; omega
     ·rw[h2] at hw; exact absurd hw (by decide)
   have hte:=hla.at hue Vg pF hn0 IB
   have htx:=hla.tab hxl (VG (hue.nn Vg) (by rw[hue.len]; exact IB) hO) hn0 IB hxv
   have Bo:(es.getD i default).counts.length=n:=hue.len
   conv=>whnf
   refine .mk (by exact fun h=>⟨h,h⟩) ?_
   conv=>whnf
   refine ah.on (ah.row hsm hte (show kZ (es.getD i default).counts.length (l++a) em by rw[Bo]; exact hem) rfl rfl (by decide) rfl (by decide) (by decide) (fun TL wG=>?_))
   replace wG:kZ (es.getD i default).counts.length (l++a) TL:=wG
   rw[Bo] at wG
   conv=>whnf
   refine .mk (by exact fun h=>⟨h,h⟩) ?_
   conv=>whnf
   refine ah.on (ah.lend (S.kR (kK (l++a) (es.getD i default)) (l++a).length false false (by rw[qA]; omega) (by rw[qA]; exact Nat.le_refl _)) ⟨aC _,OM trivial rfl,trivial⟩ rfl rfl ?_)
   rw[OL,tV]
   conv=>whnf
   repeat(refine VC.mk (by first|exact id|(intro h; rw[h]; rfl)) ?_; conv=>whnf)
   refine⟨fun h4=>?_,fun h4=>?_⟩
   ·have h4':(bg l (es.getD i default)&&bg a (es.getD i default))=false:=by
     have h5:(!(bg l (es.getD i default)&&bg a (es.getD i default)))=true:=h4
     simpa only[Bool.not_eq_true'] using h5
    have hsg:(es.take (i+1)).foldl (stepG (bM r) l a) (l.length,zE)=(es.take i).foldl (stepG (bM r) l a) (l.length,zE):=by rw[hnext,stepG,hO]; simp only; rw[h4']; rfl
    conv=>whnf
    refine .mk (by simp only[okI] at *; first|omega|(simp_all; done)|(simp_all; omega)) ?_
    conv=>whnf
    refine⟨(i+1,TL),[1,3,7,8,15,24],⟨by show i+1<=_; omega,wG⟩,by show es.length-(i+1)<es.length-i; omega,⟨⟨_,rfl,.eq rfl⟩,⟨_,rfl,.eq ?_⟩,trivial⟩,⟨⟨_,rfl,.eq rfl⟩,⟨_,rfl,.eq rfl⟩,⟨_,rfl,.eq rfl⟩,⟨_,rfl,.eq rfl⟩,⟨_,rfl,.eq rfl⟩,⟨_,rfl,.eq rfl⟩,⟨_,rfl,.eq rfl⟩,⟨_,rfl,.eq rfl⟩,⟨_,rfl,.eq rfl⟩,trivial⟩,okF rfl nofun rfl rfl rfl ⟨rfl,rfl⟩ rfl,okF rfl nofun rfl rfl rfl ⟨rfl,rfl⟩ rfl,⟨rfl,nofun,rfl,rfl,_,rfl,rfl,rfl,bZ.of_eq rfl⟩,okF rfl nofun rfl rfl rfl ⟨rfl,rfl⟩ rfl,okF rfl nofun rfl rfl rfl ⟨rfl,rfl⟩ rfl,okF rfl nofun rfl rfl rfl ⟨rfl,rfl⟩ ?_,trivial⟩
    ·exact congrArg (fun s:Nat×Elem=>T.int ((s.1:Nat):Int)) hsg
    ·exact congrArg (fun s:Nat×Elem=>(OV.box 42 3 (.dat (.elem s.2))).aF.l) hsg
   have h4':(bg l (es.getD i default)&&bg a (es.getD i default))=true:=by
    have h5:(!(bg l (es.getD i default)&&bg a (es.getD i default)))=false:=h4
    simpa only[Bool.not_eq_false'] using h5
   have hfi:=EG (l:=l) (x:=x)
   have hlen2:((es.take i).foldl (stepG (bM r) l a) (l.length,zE)).2.counts.length<=6:=QC (show(0:Nat)<=6 by decide) fun e he=>by rw[(hok e (List.mem_of_mem_take he)).len]; exact IB
   conv=>whnf
   refine ah.row hsm htx (show kZ x.counts.length (l++a) TL by rw[hxl]; exact wG) rfl rfl (by decide) rfl (by decide) (by decide) (fun em2 TM=>?_)
   replace TM:kZ x.counts.length (l++a) em2:=TM
   rw[hxl] at TM
   conv=>whnf
   refine .mk (by show 0<=(l.length:Int)/\(l.length:Int)<=(kK (l++a) x).length; rw[qA]; omega) ?_
   conv=>whnf
   refine ah.pure (S.ED ((kK (l++a) x).take l.length) false (by rw[J3,qA]; omega)) rfl ?_
   conv=>whnf
   repeat(refine VC.mk (by first|exact id|exact fun h=>⟨h,h⟩) ?_; conv=>whnf)
   rw[J3]
   conv=>whnf
   refine ah.mQ (fun _=>S.fZ (es.getD i default) (by rw[Bo]; omega)) rfl ?_
   conv=>whnf
   refine VC.mk id ?_
   conv=>whnf
   refine ah.mQ (fun _=>S.fZ ((es.take i).foldl (stepG (bM r) l a) (l.length,zE)).2 (by omega)) rfl ?_
   conv=>whnf
   repeat(refine VC.mk (by first|exact id|exact fun h=>⟨h,h⟩|(intro h; simp[h]; done)|(intro h; simp_all; done)) ?_; conv=>whnf)
   generalize hS:(es.take i).foldl (stepG (bM r) l a) (l.length,zE)=s at *
   have hsc:=step_cond (n:=l.length) (s:=s.1) (t:=decide (kG (es.getD i default)<kG s.2)) hfi
   have VI:stepG (bM r) l a s (es.getD i default)=bif decide (dw l x<l.length)&&(decide (dw l x<s.1)||dw l x==s.1&&decide (kG (es.getD i default)<kG s.2)) then(dw l x,es.getD i default) else s:=by
    rw[stepG,hO]; simp only; rw[h4',Bool.true_and]
   refine⟨fun h5=>?_,fun h5=>?_⟩
   ·have h5':(decide (dw l x<l.length)&&(decide (dw l x<s.1)||dw l x==s.1&&decide (kG (es.getD i default)<kG s.2)))=true:=hsc▸h5
    rw[h5'] at VI
    rw[VI] at hnext
    have hlt:decide (dw l x<l.length)=true:=(Bool.and_eq_true .. ▸h5').1
    rw[hlt] at hfi
    conv=>whnf
    refine .mk (by simp only[okI] at *; first|omega|(simp_all; done)|(simp_all; omega)) ?_
    conv=>whnf
    refine⟨(i+1,em2),[1,3,7,8,15,24],⟨by show i+1<=_; omega,TM⟩,by show es.length-(i+1)<es.length-i; omega,⟨⟨_,rfl,.eq rfl⟩,⟨_,rfl,.eq ?_⟩,trivial⟩,⟨⟨_,rfl,.eq rfl⟩,⟨_,rfl,.eq rfl⟩,⟨_,rfl,.eq rfl⟩,⟨_,rfl,.eq rfl⟩,⟨_,rfl,.eq rfl⟩,⟨_,rfl,.eq rfl⟩,⟨_,rfl,.eq rfl⟩,⟨_,rfl,.eq rfl⟩,⟨_,rfl,.eq rfl⟩,trivial⟩,okF rfl nofun rfl rfl rfl ⟨rfl,rfl⟩ rfl,okF rfl nofun rfl rfl rfl ⟨rfl,rfl⟩ rfl,⟨rfl,nofun,rfl,rfl,_,rfl,rfl,rfl,bZ.of_eq rfl⟩,okF rfl nofun rfl rfl rfl ⟨rfl,rfl⟩ rfl,okF rfl nofun rfl rfl rfl ⟨rfl,rfl⟩ rfl,okF rfl nofun rfl rfl rfl ⟨rfl,rfl⟩ ?_,trivial⟩
    ·show T.int (((es.take (i+1)).foldl (stepG (bM r) l a) (l.length,zE)).1:Nat)=T.int (Bl (kK l x))
     rw[hnext,hfi]; rfl
    ·exact congrArg (fun s:Nat×Elem=>(OV.box 42 3 (.dat (.elem s.2))).aF.l) hnext
   ·have h5':(decide (dw l x<l.length)&&(decide (dw l x<s.1)||dw l x==s.1&&decide (kG (es.getD i default)<kG s.2)))=false:=hsc▸h5
    rw[h5'] at VI
    rw[VI] at hnext
    conv=>whnf
    refine .mk (by simp only[okI] at *; first|omega|(simp_all; done)|(simp_all; omega)) ?_
    conv=>whnf
    refine⟨(i+1,em2),[1,3,7,8,15,24],⟨by show i+1<=_; omega,TM⟩,by show es.length-(i+1)<es.length-i; omega,⟨⟨_,rfl,.eq rfl⟩,⟨_,rfl,.eq ?_⟩,trivial⟩,⟨⟨_,rfl,.eq rfl⟩,⟨_,rfl,.eq rfl⟩,⟨_,rfl,.eq rfl⟩,⟨_,rfl,.eq rfl⟩,⟨_,rfl,.eq rfl⟩,⟨_,rfl,.eq rfl⟩,⟨_,rfl,.eq rfl⟩,⟨_,rfl,.eq rfl⟩,⟨_,rfl,.eq rfl⟩,trivial⟩,okF rfl nofun rfl rfl rfl ⟨rfl,rfl⟩ rfl,okF rfl nofun rfl rfl rfl ⟨rfl,rfl⟩ rfl,⟨rfl,nofun,rfl,rfl,_,rfl,rfl,rfl,bZ.of_eq rfl⟩,okF rfl nofun rfl rfl rfl ⟨rfl,rfl⟩ rfl,okF rfl nofun rfl rfl rfl ⟨rfl,rfl⟩ rfl,okF rfl nofun rfl rfl rfl ⟨rfl,rfl⟩ ?_,trivial⟩
    ·exact congrArg (fun s:Nat×Elem=>T.int ((s.1:Nat):Int)) hnext
    ·exact congrArg (fun s:Nat×Elem=>(OV.box 42 3 (.dat (.elem s.2))).aF.l) hnext
 ·have hi':i=es.length:=by have:es.length<=i:=(by simpa using h3); omega
  subst hi'
  generalize (es.take es.length).foldl (stepG (bM r) l a) (l.length,zE)=s
  conv=>whnf
  refine⟨fun h4=>?_,fun h4=>?_⟩
  ·have h4':(s.1==l.length)=true:=by
    have h5:((s.1:Int)==(l.length:Int))=true:=h4
    rw[beq_iff_eq] at h5 ⊢; omega
   conv=>whnf
   rw[orM,h4']
   exact aB.zeroE
  ·have h4':(s.1==l.length)=false:=by
    have h5:((s.1:Int)==(l.length:Int))=false:=h4
    rw[beq_eq_false_iff_ne] at h5 ⊢; omega
   conv=>whnf
   rw[orM,h4']
   exact aB.eqv rfl
abbrev boxS(f:Bool)(st:List Int):OV:=.box 24 0 (.row 0 f (.ints st))
theorem Nc{st:List Int}{e:Elem}:(!(lC st e))=(Tc e.counts st||e.value !=0):=by
 rw[lC,Bool.not_and,Bool.not_not,bne]
theorem jG.ofS{f:Bool}{st:List Int}{h0 h:Hz}{n:Nat}{v u:V}{post:T->Hp->Prop}(Z:Nat->Prop)(hz: ¬ Z 0)(h00:(h0.aj 0).isSome=true)(q0:h.get 0=some (boxS f st))(hu:u.free=true)(hv:T.sub Z h.aj u.aI v.aI)(hp:post u.aI (Hz.aj [(0,some (boxS f st))])):jG h0 n post v h:=by
 refine jG.SA (h2:=[(0,some (boxS f st))]) (u:=u) Z ⟨iE (Z:=Z) q0 hz,trivial⟩ ?_ hu hv hp
 intro i o ho
 have hG:=nR (show tX 1 [(0,some (boxS f st))]=true from rfl) i o.aF (aK ho)
 obtain rfl:i=0:=by have:=hG.1; omega
 exact⟨h00,T.ak (fun j hj=>by rw[show j=0 by omega]; exact h00) _ hG.2.1,hG.2.2⟩
theorem S.CV(st:List Int)(f:Bool)(e:Elem)(hs:st.length<2^30)(he:e.counts.length<2^30):aO Tryd.prog 48 (V.aT [.dat (.elem e),.ptr 0 0 0]) (Hz.aj [(0,some (boxS f st))]) 1 (fun t hp=>t= .bool (!(lC st e))/\hp=Hz.aj [(0,some (boxS f st))]):=by
 refine oC.of (nx:=1) (h0:=[(0,some (boxS f st))]) Bd.kX (by simp) ⟨_,_,rfl,rfl⟩ rfl rfl ?_
 rw[Nc]
 conv=>whnf
 refine aY.same [1,2,7,8] (fun i:Nat=>[(9,.int i)]) (fun i=>i<=e.counts.length/\(List.range i).any (fun i=>decide (e.counts.getD i 0>0)&& !(OG st i))=false) (fun i=>e.counts.length-i) 0 rfl (by decide) rfl (fun _=>rfl) ⟨by omega,by simp⟩ ⟨⟨_,rfl,rfl⟩,trivial⟩ ?_
 conv=>whnf
 refine⟨rfl,?_⟩
 rintro i ⟨hi,hall⟩
 conv=>whnf
 refine⟨fun h3=>?_,fun h3=>?_⟩
 ·have hi':i<e.counts.length:=by simpa using h3
  conv=>whnf
  repeat(refine VC.mk (by first|exact fun h=>⟨h,h⟩|(simp only[Rw.rng] at *; first|omega|(simp_all; done)|(simp_all; omega))) ?_; conv=>whnf)
  refine ah.mQ (fun _=>S.slices_Contains_int st i f (by omega)) rfl ?_
  conv=>whnf
  repeat(refine VC.mk id ?_; conv=>whnf)
  refine⟨fun h4=>?_,fun h4=>?_⟩
  ·conv=>whnf
   rw[show Tc e.counts st=true from List.any_eq_true.2 ⟨i,List.mem_range.2 hi',h4⟩]
   exact jG.ofS (u:=.bool true) (fun _=>False) (fun q=>q) rfl rfl rfl (aC _) ⟨rfl,rfl⟩
  ·conv=>whnf
   refine .mk (by simp only[okI] at *; first|omega|(simp_all; done)|(simp_all; omega)) ?_
   conv=>whnf
   refine⟨i+1,⟨by omega,?_⟩,by omega,⟨⟨_,rfl,rfl⟩,trivial⟩,?_,rfl⟩
   ·rw[List.range_succ,List.any_append,hall]
    show(false||((decide (e.counts.getD i 0>0)&& !(OG st i))||false))=false
    rw[show(decide (e.counts.getD i 0>0)&& !(OG st i))=false from h4]; rfl
   ·repeat' (first|exact trivial|exact⟨_,rfl,rfl⟩|constructor)
 ·have hi':i=e.counts.length:=by have:e.counts.length<=i:=(by simpa using h3); omega
  subst hi'
  rw[show Tc e.counts st=false from hall]
  conv=>whnf
  exact jG.ofS (u:=.bool (e.value !=0)) (fun _=>False) (fun q=>q) rfl rfl rfl (aC _) ⟨rfl,rfl⟩
def Dp(st:List Int):List Elem->Nat->Int
 |[],_=> -1
 |x::r,i=>bif !(lC st x) then(i:Int) else Dp st r (i+1)
abbrev hD(f:Bool)(st:List Int)(es:List Elem):Hz:=[(0,some (boxS f st)),(1,some (oJ es))]
theorem S.QE(st:List Int)(f:Bool)(es:List Elem)(hs:st.length<2^30)(hl:es.length<2^30)(he: ∀ e∈es,e.counts.length<2^30)(n:Nat):aO Tryd.prog 69 (V.aT [.own 1,.fn 48 [.ptr 0 0 0]]) (Hz.aj (hD f st es)) n (fun t hp=>t= .int (Dp st es 0)/\hp=Hz.aj (hD f st es)):=by
 refine oC.of (nx:=2) (h0:=hD f st es) Bd.dJ (by simp) ⟨_,_,rfl,rfl⟩ rfl rfl ?_
 conv=>whnf
 refine aY.objs 2 [0,1,6,7] (fun i:Nat=>[(8,.int i)]) (fun _=>[(0,boxS f st),(1,oJ es)]) (fun i=>i<=es.length/\Dp st es 0=Dp st (es.drop i) i) (fun i=>es.length-i) 0 [0,1] rfl (by decide) (fun _=>rfl) ⟨by omega,by simp⟩ ?_ ?_ ?_
 ·exact⟨⟨_,rfl,.eq rfl⟩,trivial⟩
 ·exact⟨⟨rfl,(fun _=>rfl),rfl,rfl,rfl,_,rfl,rfl,rfl,bZ.of_eq rfl⟩,⟨rfl,(fun _=>rfl),rfl,rfl,rfl,_,rfl,rfl,rfl,bZ.of_eq rfl⟩,trivial⟩
 conv=>whnf
 refine⟨⟨⟨_,rfl,.eq rfl⟩,⟨_,rfl,.eq rfl⟩,⟨_,rfl,.eq rfl⟩,⟨_,rfl,.eq rfl⟩,trivial⟩,rfl,?_⟩
 rintro i ⟨hi,hall⟩
 conv=>whnf
 refine⟨fun h3=>?_,fun h3=>?_⟩
 ·have hi':i<es.length:=by simpa using h3
  rw[bU default hi'] at hall
  simp only[Dp] at hall
  conv=>whnf
  repeat(refine VC.mk (by simp only[Rw.rng,Int.toNat_natCast]; omega) ?_; conv=>whnf)
  refine ah.Ez (i:=0) (ts:=[.dat (.elem (es.getD i default)),.ptr 0 0 0]) (S.CV st f (es.getD i default) hs (he _ (getM hi'))) (by rfl) (by rfl) (by rfl) (by rfl) (by rfl) (by rfl) ?_
  rintro t hp ⟨rfl,rfl⟩
  refine .inl ⟨.bool _,boxS f st,rfl,rfl,rfl,?_⟩
  conv=>whnf
  refine⟨fun h4=>?_,fun h4=>?_⟩
  ·conv=>whnf
   rw[h4] at hall
   exact jG.same (nx:=2) rfl ⟨rfl,rfl,trivial⟩ rfl rfl ⟨by rw[hall]; rfl,rfl⟩
  ·conv=>whnf
   refine .mk (by simp only[okI] at *; first|omega|(simp_all; done)|(simp_all; omega)) ?_
   conv=>whnf
   rw[h4] at hall
   exact⟨i+1,[0,1],⟨by omega,hall⟩,by omega,⟨⟨_,rfl,.eq rfl⟩,trivial⟩,⟨⟨_,rfl,.eq rfl⟩,⟨_,rfl,.eq rfl⟩,⟨_,rfl,.eq rfl⟩,⟨_,rfl,.eq rfl⟩,trivial⟩,⟨rfl,(fun _=>rfl),rfl,rfl,rfl,_,rfl,rfl,rfl,bZ.of_eq rfl⟩,⟨rfl,(fun _=>rfl),rfl,rfl,rfl,_,rfl,rfl,rfl,bZ.of_eq rfl⟩,trivial⟩
 ·conv=>whnf
  have hi':es.length<=i:=by simpa using h3
  rw[List.drop_eq_nil_of_le hi'] at hall
  exact jG.same (nx:=2) rfl ⟨rfl,rfl,trivial⟩ rfl rfl ⟨by rw[hall]; rfl,rfl⟩
def dO(st:List Int)(es:List Elem):List Elem:=es.filter (lC st)
theorem VJ{st:List Int}: ∀ {es:List Elem} {i:Nat},Dp st es i= -1->dO st es=es:=by
 intro es
 induction es with
 |nil=>intro i _; rfl
 |cons x r ih =>
  intro i h
  simp only[Dp] at h
  cases hb:lC st x with
  |false=>rw[hb] at h; simp at h
  |true=>rw[hb] at h; simp only[dO,List.filter_cons,hb,if_true]; exact congrArg _ (ih h)
theorem TN{st:List Int}: ∀ {es:List Elem} {i:Nat},Dp st es i≠ -1-> ∃ k,Dp st es i=((i+k:Nat):Int)/\k<es.length/\dO st (es.take k)=es.take k/\lC st (es.getD k default)=false:=by
 intro es
 induction es with
 |nil=>intro i h; exact absurd rfl h
 |cons x r ih =>
  intro i h
  simp only[Dp] at h ⊢
  cases hb:lC st x with
  |false=>exact⟨0,by simp,by simp,rfl,by simpa using hb⟩
  |true =>
   rw[hb] at h
   obtain⟨k,h1,h2,h3,h4⟩:=ih h
   refine⟨k+1,by show Dp st r (i+1)=_; rw[h1]; omega,by simpa using h2,?_,by simpa using h4⟩
   simp only[dO,List.take_succ_cons,List.filter_cons,hb,if_true]; exact congrArg _ h3
theorem Bq{st:List Int}{es:List Elem}{j:Nat}(hj:j<es.length):dO st (es.take (j+1))=bif lC st (es.getD j default) then dO st (es.take j)++[es.getD j default] else dO st (es.take j):=by
 have e:es[j]?.toList=[es.getD j default]:=by simp[hj]
 unfold dO
 rw[List.take_add_one,List.filter_append,e]
 cases hb:lC st (es.getD j default) with
 |true=>rw[List.filter_cons,hb]; rfl
 |false=>rw[List.filter_cons,hb]; simp
theorem EH{st:List Int}{es:List Elem}{j:Nat}:(dO st (es.take j)).length<=j:=by
 have:=List.length_filter_le (lC st) (es.take j)
 rw[List.length_take] at this
 unfold dO; omega
def midD(st:List Int)(es:List Elem)(j:Nat):List Elem:=dO st (es.take j)++es.drop (dO st (es.take j)).length
theorem TP{st:List Int}{es:List Elem}{j:Nat}(hj:j<=es.length):(midD st es j).length=es.length:=by
 have:=EH (st:=st) (es:=es) (j:=j)
 simp[midD]; omega
theorem TQ{st:List Int}{es:List Elem}{j k:Nat}(hk:j<=k):(midD st es j).getD k default=es.getD k default:=by
 have:=EH (st:=st) (es:=es) (j:=j)
 unfold midD
 rw[List.getD_eq_getElem?_getD,List.getElem?_append_right (by omega),List.getElem?_drop]
 rw[show(dO st (es.take j)).length+(k-(dO st (es.take j)).length)=k by omega]
 rw[<- List.getD_eq_getElem?_getD]
theorem TR{st:List Int}{es:List Elem}{j:Nat}(hj:j<es.length)(hb:lC st (es.getD j default)=true):(midD st es j).set (dO st (es.take j)).length (es.getD j default)=midD st es (j+1):=by
 have h1:=EH (st:=st) (es:=es) (j:=j)
 have h2:=Bq (st:=st) hj
 rw[hb] at h2
 have h2':dO st (es.take (j+1))=dO st (es.take j)++[es.getD j default]:=h2
 unfold midD
 rw[h2',bU default (show(dO st (es.take j)).length<es.length by omega),Qq rfl]
 simp
theorem ah.drop2{P:Program}{f:FuncId}{ts args:List V}{h:Hz}{i j n:Nat}{o0 o1:OV}{K:V->Hz->Prop}{KW:Nat->V->Hz->Prop}{post:T->Hp->Prop}(H:aO P f (V.aT ts) (Hz.aj [(0,some o0),(1,some o1)]) 2 post)
  (ha:T.bT (fun a=>bif Nat.beq a 0 then i else j) (V.aT ts)=V.aT args) (hid:T.QF 2 (V.aT ts)=true) (hg:tX 2 [(0,some o0),(1,some o1)]=true) (hf0:o0.Iw=true) (hf:o1.Iw=true)
  (hi:h.get i=some o0) (hj:h.get j=some o1) (hij:i≠j) (hn:h.get n=none) (hin:n≠i) (hjn:n≠j)
  (hK: ∀ t hp,post t hp-> ∃ v,hp=Hz.aj [(0,some o0)]/\t=v.aI/\v.free=true/\K v ((j,none)::h)):ah P false none f args h n K KW:=by
 have hG:=nR hg
 have hlt: ∀ a:Nat,a<2->(Hz.aj [(0,some o0),(1,some o1)] a).isSome=true:=fun a ha=>by
  rw[dA,pX]; by_cases e:a=0
  ·rw[if_pos e]; rfl
  ·rw[if_neg e,if_pos (by omega)]; rfl
 have hsome: ∀ a,(Hz.aj [(0,some o0),(1,some o1)] a).isSome=true->a=0\/a=1:=fun a ha=>by
  rw[dA,pX] at ha; split at ha
  ·left; assumption
  ·split at ha
   ·right; assumption
   ·cases ha
 let ρ:Nat->Nat:=fun a=>bif Nat.beq a 0 then i else j
 have TS: ∀ a b,(Hz.aj [(0,some o0),(1,some o1)] a).isSome=true->(Hz.aj [(0,some o0),(1,some o1)] b).isSome=true->ρ a=ρ b->a=b:=by
  intro a b ha hb e
  rcases hsome a ha with rfl|rfl<;>rcases hsome b hb with rfl|rfl
  ·rfl
  ·exact absurd e hij
  ·exact absurd e.symm hij
  ·rfl
 have inj: ∀ a b,((Hz.aj [(0,some o0),(1,some o1)] a).isSome=true\/a=2)->((Hz.aj [(0,some o0),(1,some o1)] b).isSome=true\/b=2)->nameAt ρ 2 n a=nameAt ρ 2 n b->a=b:=by
  intro a b ha hb e
  rcases ha with ha|rfl
  ·rcases hb with hb|rfl
   ·rcases hsome a ha with rfl|rfl<;>rcases hsome b hb with rfl|rfl
    ·rfl
    ·exact absurd e hij
    ·exact absurd e.symm hij
    ·rfl
   ·rcases hsome a ha with rfl|rfl
    ·exact absurd e.symm hin
    ·exact absurd e.symm hjn
  ·rcases hb with hb|rfl
   ·rcases hsome b hb with rfl|rfl
    ·exact absurd e hin
    ·exact absurd e hjn
   ·rfl
 refine ah.heap (post:=fun t' h'=> ∃ t h1,post t h1/\t'=t.ren (nameAt ρ 2 n)/\h'=placed ρ 2 n (Hz.aj [(0,some o0),(1,some o1)]) h.aj h1) ?_ ?_
 ·rw[<- ha]
  refine aO.place H (T.ak hlt _ (zQ hid)) (fun a ob hob=>?_) (by rw[dA,pX]; rfl) (fun a ob hob=>?_) TS
  ·exact⟨T.ak hlt _ (hG a ob hob).2.1,(hG a ob hob).2.2⟩
  ·have hs:(Hz.aj [(0,some o0),(1,some o1)] a).isSome=true:=by rw[hob]; rfl
   rcases hsome a hs with rfl|rfl
   ·rw[dA,if_pos rfl] at hob; cases hob
    show h.aj i=_
    rw[aK hi,nT hf0]
   ·rw[dA,pX,if_neg (by decide),if_pos rfl] at hob; cases hob
    show h.aj j=_
    rw[aK hj,nT hf]
 ·rintro t' h' ⟨t,h1,hp,rfl,rfl⟩
  obtain⟨v,rfl,rfl,hvf,hk⟩:=hK t h1 hp
  refine⟨v,_,CW (V.jO v hvf) _,?_,hk⟩
  funext a
  rw[dA]
  have at0:placed ρ 2 n (Hz.aj [(0,some o0),(1,some o1)]) h.aj (Hz.aj [(0,some o0)]) i=(Hz.aj [(0,some o0)] 0).map (Ob.ren (nameAt ρ 2 n)):=mY (h:=h.aj) (h1:=Hz.aj [(0,some o0)]) inj (i:=0) (.inl (hlt 0 (by decide)))
  have Zz:placed ρ 2 n (Hz.aj [(0,some o0),(1,some o1)]) h.aj (Hz.aj [(0,some o0)]) j=(Hz.aj [(0,some o0)] 1).map (Ob.ren (nameAt ρ 2 n)):=mY (h:=h.aj) (h1:=Hz.aj [(0,some o0)]) inj (i:=1) (.inl (hlt 1 (by decide)))
  have at2:placed ρ 2 n (Hz.aj [(0,some o0),(1,some o1)]) h.aj (Hz.aj [(0,some o0)]) n=(Hz.aj [(0,some o0)] 2).map (Ob.ren (nameAt ρ 2 n)):=mY (h:=h.aj) (h1:=Hz.aj [(0,some o0)]) inj (i:=2) (.inr rfl)
  by_cases e1:a=j
  ·subst e1; rw[if_pos rfl,Zz,pX,if_neg (by decide)]; rfl
  ·rw[if_neg e1]
   by_cases e0:a=i
   ·subst e0
    rw[at0,pX,if_pos rfl,aK hi,Option.map_some,nT hf0]
   ·by_cases e2:a=n
    ·subst e2; rw[at2,pX,if_neg (by decide)]; simp only[Hz.aj,hn]; rfl
    ·exact yT (by
      rintro⟨b,hb,e⟩
      rcases hb with hb|rfl
      ·rcases hsome b hb with rfl|rfl
       ·exact e0 e.symm
       ·exact e1 e.symm
      ·exact e2 e.symm)
theorem Yf{h:Hz}{j k:Nat}{Z:Nat->Prop}{l:List Elem}{x:List V}(hz:Z j)(q:h.get j=some (.row 42 3 (.elems l) x))(hk:k<=l.length):T.sub Z h.aj (V.row 3 false (.elems (l.take k))).aI (V.oK j 0 k).aI:=by
 show T.sub Z h.aj (.sl 3 false ((l.take k).map nP)) (.oK j 0 k)
 simp only[T.sub]
 refine⟨trivial,hz,yS _,by decide,42,l.map nP++V.aT x,?_,by simp; omega,?_⟩
 ·rw[aK q]; rfl
 ·rw[List.drop_zero,List.take_append_of_le_length (by simp; omega),List.map_take]
set_option maxHeartbeats 1000000 in
theorem S.DeleteFunc(st:List Int)(f:Bool)(es:List Elem)(hs:st.length<2^30)(hl:es.length<2^30)(he: ∀ e∈es,e.counts.length<2^30)(n:Nat):aO Tryd.prog 47 (V.aT [.own 1,.fn 48 [.ptr 0 0 0]]) (Hz.aj (hD f st es)) n (fun t hp=>t=(V.row 3 false (.elems (dO st es))).aI/\hp=Hz.aj [(0,some (boxS f st))]):=by
 refine oC.of (nx:=2) (h0:=hD f st es) Bd.dG (by simp) ⟨_,_,rfl,rfl⟩ rfl rfl ?_
 conv=>whnf
 refine ah.heap (S.QE st f es hs hl he _) ?_
 rintro t hp ⟨rfl,rfl⟩
 refine⟨.int _,hD f st es,rfl,rfl,?_⟩
 conv=>whnf
 refine⟨fun h1=>?_,fun h1=>?_⟩
 ·have hno:=VJ (st:=st) (es:=es) (i:=0) (by simpa using h1)
  conv=>whnf
  rw[hno]
  exact jG.ofS (u:=.row 3 false (.elems es)) (fun i=>i=1) (by decide) rfl rfl rfl (Xn rfl rfl) ⟨rfl,rfl⟩
 obtain⟨k,hk1,hk2,hk3,hk4⟩:=TN (st:=st) (es:=es) (i:=0) (by
  have h2:(Dp st es 0== -1)=false:=h1
  exact beq_eq_false_iff_ne.1 h2)
 rw[Nat.zero_add] at hk1
 rw[hk1]
 have hkn:=Bq (st:=st) hk2
 rw[hk4] at hkn
 have hkn':dO st (es.take (k+1))=es.take k:=hkn.trans hk3
 conv=>whnf
 refine .mk (by simp only[okI]; omega) ?_
 conv=>whnf
 have ZV:midD st es (k+1)=es:=by
  unfold midD
  rw[hkn',List.length_take,Nat.min_eq_left (by omega),List.take_append_drop]
 refine aY.objs 2 [0,1] (fun j:Nat=>[(6,.int j),(5,.int (dO st (es.take j)).length)]) (fun j=>[(0,boxS f st),(1,oJ (midD st es j))]) (fun j=>k+1<=j/\j<=es.length/\(dO st (es.take j)).length<j) (fun j=>es.length-j) (k+1) [0,1] rfl (by decide) (fun _=>rfl) ⟨Nat.le_refl _,by omega,by rw[hkn',List.length_take]; omega⟩ ?_ ?_ ?_
 ·refine⟨⟨_,rfl,.eq rfl⟩,⟨_,rfl,.eq ?_⟩,trivial⟩
  show T.int ((dO st (es.take (k+1))).length:Nat)=T.int (k:Nat)
  rw[hkn',List.length_take,Nat.min_eq_left (by omega)]
 ·refine⟨⟨rfl,(fun _=>rfl),rfl,rfl,rfl,_,rfl,rfl,rfl,bZ.of_eq rfl⟩,⟨rfl,(fun _=>rfl),rfl,rfl,rfl,_,rfl,rfl,rfl,bZ.of_eq ?_⟩,trivial⟩
  rw[ZV]
 conv=>whnf
 refine⟨⟨⟨_,rfl,.eq rfl⟩,⟨_,rfl,.eq rfl⟩,trivial⟩,rfl,?_⟩
 rintro j ⟨hj0,hj,hsj⟩
 have hml:=TP (st:=st) hj
 conv=>whnf
 refine⟨fun h3=>?_,fun h3=>?_⟩
 ·have hj':j<es.length:=by
   have h4:(j:Int)<((midD st es j).length:Int):=of_decide_eq_true h3
   omega
  have hge:=TQ (st:=st) (es:=es) (j:=j) (k:=j) (Nat.le_refl _)
  have hst:=TR (st:=st) hj'
  have hsn:=Bq (st:=st) hj'
  conv=>whnf
  repeat(refine VC.mk (by simp only[Rw.rng,Int.toNat_natCast,hml]; omega) ?_; conv=>whnf)
  refine ah.Ez (i:=0) (ts:=[.dat (.elem ((midD st es j).getD j default)),.ptr 0 0 0]) (S.CV st f ((midD st es j).getD j default) hs (by rw[hge]; exact he _ (getM hj'))) (by rfl) (by rfl) (by rfl) (by rfl) (by rfl) (by rfl) ?_
  rintro t hp ⟨rfl,rfl⟩
  refine .inl ⟨.bool _,boxS f st,rfl,rfl,rfl,?_⟩
  rw[hge]
  conv=>whnf
  refine⟨fun h4=>?_,fun h4=>?_⟩
  ·have h4':lC st (es.getD j default)=true:=by simpa using h4
   rw[h4'] at hsn
   have QG:dO st (es.take (j+1))=dO st (es.take j)++[es.getD j default]:=hsn
   conv=>whnf
   repeat(refine VC.mk (by first|(simp only[Rw.rng,Int.toNat_natCast,hml]; omega)|(simp only[okI]; omega)) ?_; conv=>whnf)
   refine⟨j+1,[0,1],⟨by omega,by omega,by rw[QG,List.length_append]; simp only[List.length_cons,List.length_nil]; omega⟩,by omega,⟨⟨_,rfl,.eq rfl⟩,⟨_,rfl,.eq ?_⟩,trivial⟩,⟨⟨_,rfl,.eq rfl⟩,⟨_,rfl,.eq rfl⟩,trivial⟩,⟨rfl,(fun _=>rfl),rfl,rfl,rfl,_,rfl,rfl,rfl,bZ.of_eq rfl⟩,⟨rfl,(fun _=>rfl),rfl,rfl,rfl,_,rfl,rfl,rfl,bZ.of_eq ?_⟩,trivial⟩
   ·show T.int ((dO st (es.take (j+1))).length:Nat)=T.int (((dO st (es.take j)).length:Int)+1)
    rw[QG,List.length_append]; rfl
   ·show(oJ (midD st es (j+1))).aF.l=(oJ ((midD st es j).set (dO st (es.take j)).length ((midD st es j).getD j default))).aF.l
    rw[hge,hst h4']
  ·have h4':lC st (es.getD j default)=false:=by simpa using h4
   rw[h4'] at hsn
   have QG:dO st (es.take (j+1))=dO st (es.take j):=hsn
   conv=>whnf
   refine .mk (by simp only[okI] at *; first|omega|(simp_all; done)|(simp_all; omega)) ?_
   conv=>whnf
   refine⟨j+1,[0,1],⟨by omega,by omega,by rw[QG]; omega⟩,by omega,⟨⟨_,rfl,.eq rfl⟩,⟨_,rfl,.eq ?_⟩,trivial⟩,⟨⟨_,rfl,.eq rfl⟩,⟨_,rfl,.eq rfl⟩,trivial⟩,⟨rfl,(fun _=>rfl),rfl,rfl,rfl,_,rfl,rfl,rfl,bZ.of_eq rfl⟩,⟨rfl,(fun _=>rfl),rfl,rfl,rfl,_,rfl,rfl,rfl,bZ.of_eq ?_⟩,trivial⟩
   ·rw[QG]; rfl
   ·unfold midD; rw[QG]
 ·have hj':j=es.length:=by
   have h4: ¬ (j:Int)<((midD st es j).length:Int):=of_decide_eq_false h3
   omega
  subst hj'
  have hall:dO st (es.take es.length)=dO st es:=by rw[List.take_length]
  have hle:(dO st (es.take es.length)).length<=es.length:=by omega
  conv=>whnf
  repeat(refine VC.mk (by first|(simp only[Rw.tZ,hml]; omega)|(refine⟨?_,rfl⟩; show((dO st (es.take es.length)).length:Int).toNat<=(midD st es es.length).length; rw[hml,Int.toNat_natCast]; omega)|(show(0:Int)<=((dO st (es.take es.length)).length:Int)/\((dO st (es.take es.length)).length:Int)<=(((midD st es es.length).take ((dO st (es.take es.length)).length:Int).toNat).length:Int); rw[List.length_take,hml,Int.toNat_natCast]; omega)|(show _<=(midD st es es.length).length/\(midD st es es.length).length=(midD st es es.length).length; rw[hml]; simp only[Int.toNat_natCast]; omega)|(show(0:Int)<=_/\_<=(((midD st es es.length).take _).length:Int); rw[List.length_take,hml]; simp only[Int.toNat_natCast]; omega)) ?_; conv=>whnf)
  have htk:(midD st es es.length).take (dO st (es.take es.length)).length=dO st es:=by
   unfold midD; rw[List.take_left,hall]
  have aaZ:((midD st es es.length).take (dO st (es.take es.length)).length).take (dO st (es.take es.length)).length=dO st es:=by
   rw[List.take_take,Nat.min_self,htk]
  refine jG.ofS (u:=.row 3 false (.elems (dO st es))) (fun i=>i=1) (by decide) rfl rfl rfl ?_ ⟨rfl,rfl⟩
  rw[<- aaZ]
  exact Yf (k:=(dO st (es.take es.length)).length) rfl rfl (by rw[List.length_take,hml]; omega)
theorem ah.delete{st:List Int}{f:Bool}{es:List Elem}{h:Hz}{i j n:Nat}{K:V->Hz->Prop}{KW:Nat->V->Hz->Prop}(hs:st.length<2^30)(hl:es.length<2^30)(he: ∀ e∈es,e.counts.length<2^30)(hi:h.get i=some (boxS f st))(hj:h.get j=some (oJ es))(hij:i≠j)(hn:h.get n=none)(hin:n≠i)(hjn:n≠j)(hK:K (.row 3 false (.elems (dO st es))) ((j,none)::h)):ah Tryd.prog false none 47 [.own j,.fn 48 [.ptr i 0 0]] h n K KW:=by
 refine ah.drop2 (ts:=[.own 1,.fn 48 [.ptr 0 0 0]]) (o0:=boxS f st) (o1:=oJ es) (S.DeleteFunc st f es hs hl he 2) rfl rfl rfl rfl rfl hi hj hij hn hin hjn ?_
 rintro t hp ⟨rfl,rfl⟩
 exact⟨.row 3 false (.elems (dO st es)),rfl,rfl,rfl,hK⟩
theorem xB{p:aX}(h:CG p=0):A8 p/\Ba p=true:=by
 unfold CG at h
 obtain⟨h1,h2⟩:=bz (fun _=>by decide) h
 rw[h2] at h1
 refine⟨X5 h2,?_⟩
 have hm:(kC p).monadic=true:=by simpa using h1
 simp only[kC,Bool.and_eq_true] at hm
 exact hm.1
theorem D9{p:aX}{q:Prop'}(h:yN p q=0):pz p q=0/\CG p=0/\q.kind=1:=by
 unfold yN at h
 obtain⟨h1,h2⟩:=bz nz h
 have h3:=xA h2 (by decide)
 rw[Bool.or_eq_false_iff] at h3
 exact⟨by simpa using h1,by simpa using h3.1,by simpa using h3.2⟩
def zC(l:List Clause):Nat:=(aU l).toNat
theorem IJ{l:List Clause}:aU l=zC l:=by have:=rX (l:=l); unfold zC; omega
def nU(p:aX):Nat:=max 1 p.values.length
def qY(p:aX)(q:Prop')(l:List Clause):List Elem:=dO (wE p q) (gY (zC l+3) p.states.length (nU p))
theorem S.iU(p:aX)(q:Prop')(m:Nat)(hp:dP p)(hq:nK q)(hv:pz p q=0)(hF:A8 p)(hm:m<=8):ay Tryd.prog 27 [.dat (.eG p),.dat (.prop q),.int m] (.row 3 false (.elems (dO (wE p q) (gY (m+1) p.states.length (nU p))))):=by
 have h1:=hF.pos; have h2:=hF.states; have h3:=hF.values
 have pF:nU p<=3:=by unfold nU; omega
 have hb0:0<m+1:=by omega
 have hok:=xM (b:=m+1) (n:=p.states.length) (vals:=nU p) hb0
 have QD:(gY (m+1) p.states.length (nU p)).length<=3*531441:=by
  rw[tN]
  have:=xO (b:=m+1) (n:=p.states.length) (by omega) h2
  exact Nat.mul_le_mul pF (by omega)
 refine ay.of Bd.iU (by simp) rfl rfl ?_
 conv=>whnf
 refine ah.pure (S.kJ p q hp hq hv) rfl ?_
 conv=>whnf
 conv=>whnf
 refine ah.mkRow (r:=.elems (gY (m+1) p.states.length (nU p))) (S.Qs p p.states.length (nU p) m hp rfl h1 h2 rfl pF hm) ?_
 conv=>whnf
 refine ah.delete (f:=false) (st:=wE p q) (es:=gY (m+1) p.states.length (nU p)) (Qj hp hq) (by omega) (fun e he=>by rw[(hok e he).len]; omega) (by rfl) (by rfl) (by decide) (by rfl) (by decide) (by decide) ?_
 conv=>whnf
 exact aB.eqv rfl
def sS(p:aX)(q:Prop')(l:List Clause):Int:=bif yN p q !=0 then yN p q else lT p l
def Nh(p:aX)(q:Prop')(l:List Clause):V:=.fU [.int (bif sS p q l !=0 then 0 else orM l.length (qX l (qY p q l))),.int (sS p q l)]
set_option maxHeartbeats 1000000 in
theorem S.dL(p:aX)(q:Prop')(l:List Clause)(f:Bool)(hp:dP p)(hq:nK q)(hl:SmallK l):ay Tryd.prog 12 [.dat (.eG p),.dat (.prop q),.row 4 f (.clauses l)] (Nh p q l):=by
 refine ay.of Bd.dL (by simp) rfl rfl ?_
 conv=>whnf
 refine ah.pure (S.kL p q hp hq) rfl ?_
 conv=>whnf
 refine⟨fun h1=>?_,fun h1=>?_⟩
 ·have he:sS p q l=yN p q:=by rw[sS,show(yN p q !=0)=true from h1]; rfl
  conv=>whnf
  exact aB.eqv (by rw[Nh,he,show(yN p q !=0)=true from h1]; rfl)
 have he:sS p q l=lT p l:=by rw[sS,show(yN p q !=0)=false from h1]; rfl
 conv=>whnf
 refine ah.lend (S.yC p l false f hp hl) ⟨aC _,OO trivial rfl rfl,trivial⟩ rfl rfl ?_
 conv=>whnf
 refine⟨fun h2=>?_,fun h2=>?_⟩
 ·conv=>whnf
  exact aB.eqv (by rw[Nh,he,show(lT p l !=0)=true from h2]; rfl)
 obtain⟨hv,hin,_⟩:=D9 (JW h1)
 obtain⟨hF,_⟩:=xB hin
 obtain⟨hR,abv⟩:=uP (JW h2)
 have g1:=hF.pos; have g2:=hF.states; have g3:=hF.values
 have hrk:=IJ (l:=l)
 have XT:aU l<=3:=qP fun k hk=>(hR.cl k hk).two
 have hU:ay Tryd.prog 27 [.dat (.eG p),.dat (.prop q),.int (aU l+2)] (.row 3 false (.elems (qY p q l))):=by
  have:=S.iU p q (zC l+2) hp hq hv hF (by omega)
  rw[hrk]; exact this
 have hok: ∀ e∈qY p q l,yA (zC l+3) p.states.length (nU p) e:=fun e he=>xM (by omega) e (List.mem_filter.1 he).1
 have pF:nU p<=3:=by unfold nU; omega
 have Vg:zC l+3<=9:=by omega
 have QD:(qY p q l).length<=3*531441:=by
  refine Nat.le_trans (List.length_filter_le _ _) ?_
  rw[tN]
  have:=xO (b:=zC l+3) (n:=p.states.length) Vg g2
  exact Nat.mul_le_mul pF (by omega)
 have hV:Nh p q l= .fU [.int (orM l.length (qX l (qY p q l))),.int 0]:=by
  rw[Nh,he,show(lT p l !=0)=false from h2,JW h2]; rfl
 rw[hV]
 generalize qY p q l=es at hU hok QD ⊢
 rw[<- Tv]
 conv=>whnf
 refine ah.EF hl rfl ?_
 conv=>whnf
 refine .mk (by simp only[okI]; omega) ?_
 conv=>whnf
 refine ah.pure (hU) rfl ?_
 conv=>whnf
 refine aY.CB (ι:=Nat×List (Int×List Bool)) 100 [2,10,39,40] (fun x=>[(41,.int x.1),(11,.int (yR l (es.take x.1):Nat))]) (fun x=>[(18,Dk l f 19),(19,Bh x.2)]) (fun x=>x.1<=es.length/\kZ p.states.length l x.2) (fun x=>es.length-x.1) (0,[]) [18,19] rfl (by decide) (fun _=>rfl) ⟨Nat.zero_le _,kZ.nil⟩ ?_ ?_ ?_
 ·exact⟨⟨_,rfl,.eq rfl⟩,⟨_,rfl,.eq rfl⟩,trivial⟩
 ·exact⟨⟨rfl,nofun,rfl,rfl,_,rfl,rfl,rfl,bZ.of_eq rfl⟩,okF rfl nofun rfl rfl rfl ⟨rfl,rfl⟩ rfl,trivial⟩
 conv=>whnf
 refine⟨⟨⟨_,rfl,.eq rfl⟩,⟨_,rfl,.eq rfl⟩,⟨_,rfl,.eq rfl⟩,⟨_,rfl,.eq rfl⟩,trivial⟩,rfl,?_⟩
 rintro⟨i,em⟩ ⟨hi,hem⟩
 conv=>whnf
 refine⟨fun h3=>?_,fun h3=>?_⟩
 ·have hi':i<es.length:=by simpa using h3
  have hue:=hok _ (getM (d:=default) hi')
  have hte:=hR.at hue Vg pF g1 g2
  have Bo:(es.getD i default).counts.length=p.states.length:=hue.len
  have hnx:=Qn (l:=l) hi'
  have hfi:=EG (l:=l) (x:=es.getD i default)
  have hle:yR l (es.take i)<=l.length:=by rw[Tv]; exact Tz
  have hk1:=hl.len
  conv=>whnf
  refine .mk (by simp only[Rw.rng] at *; first|omega|(simp_all; done)|(simp_all; omega)) ?_
  conv=>whnf
  refine ah.row hl hte (show kZ (es.getD i default).counts.length l em by rw[Bo]; exact hem) rfl rfl (by decide) rfl (by decide) (by decide) (fun TL wG=>?_)
  replace wG:kZ (es.getD i default).counts.length l TL:=wG
  rw[Bo] at wG
  conv=>whnf
  refine ah.pure (S.ED (kK l (es.getD i default)) false (by rw[qA]; omega)) rfl ?_
  conv=>whnf
  rw[hfi]
  cases hd:decide (dw l (es.getD i default)<l.length) with
  |true =>
   conv=>whnf
   refine Fork.mk (fun _=>?_) (fun q=>absurd (q.symm.trans (decide_eq_true (show(0:Int)<=((dw l (es.getD i default):Nat):Int) by omega))) Bool.false_ne_true)
   conv=>whnf
   refine .mk (by simp only[okI] at *; first|omega|(simp_all; done)|(simp_all; omega)) ?_
   conv=>whnf
   conv=>whnf
   refine⟨(i+1,TL),[18,19],⟨by show i+1<=_; omega,wG⟩,by show es.length-(i+1)<es.length-i; omega,⟨⟨_,rfl,.eq rfl⟩,⟨_,rfl,.eq ?_⟩,trivial⟩,⟨⟨_,rfl,.eq rfl⟩,⟨_,rfl,.eq rfl⟩,⟨_,rfl,.eq rfl⟩,⟨_,rfl,.eq rfl⟩,trivial⟩,⟨rfl,nofun,rfl,rfl,_,rfl,rfl,rfl,bZ.of_eq rfl⟩,okF rfl nofun rfl rfl rfl ⟨rfl,rfl⟩ rfl,trivial⟩
   show T.int (yR l (es.take (i+1)):Nat)=T.int (min (yR l (es.take i):Int) (dw l (es.getD i default):Nat))
   rw[hnx]; exact congrArg T.int (by omega)
  |false =>
   have hge:=of_decide_eq_false hd
   conv=>whnf
   refine Fork.mk (fun q=>absurd (q.symm.trans ((rfl:false=false))).symm Bool.false_ne_true) (fun _=>?_)
   conv=>whnf
   refine .mk (by simp only[okI] at *; first|omega|(simp_all; done)|(simp_all; omega)) ?_
   conv=>whnf
   conv=>whnf
   refine⟨(i+1,TL),[18,19],⟨by show i+1<=_; omega,wG⟩,by show es.length-(i+1)<es.length-i; omega,⟨⟨_,rfl,.eq rfl⟩,⟨_,rfl,.eq ?_⟩,trivial⟩,⟨⟨_,rfl,.eq rfl⟩,⟨_,rfl,.eq rfl⟩,⟨_,rfl,.eq rfl⟩,⟨_,rfl,.eq rfl⟩,trivial⟩,⟨rfl,nofun,rfl,rfl,_,rfl,rfl,rfl,bZ.of_eq rfl⟩,okF rfl nofun rfl rfl rfl ⟨rfl,rfl⟩ rfl,trivial⟩
   show T.int (yR l (es.take (i+1)):Nat)=T.int (yR l (es.take i):Nat)
   rw[hnx,Nat.min_eq_left (by omega)]
 ·have hi':i=es.length:=by have:es.length<=i:=(by simpa using h3); omega
  subst hi'
  rw[List.take_length]
  conv=>whnf
  refine⟨fun h4=>?_,fun h4=>?_⟩
  ·have h4':(yR l es==l.length)=true:=by
    have h5:((yR l es:Int)==(l.length:Int))=true:=h4
    rw[beq_iff_eq] at h5 ⊢; omega
   conv=>whnf
   rw[orM,h4']
   exact aB.eqv rfl
  ·have h4':(yR l es==l.length)=false:=by
    have h5:((yR l es:Int)==(l.length:Int))=false:=h4
    rw[beq_eq_false_iff_ne] at h5 ⊢; omega
   conv=>whnf
   rw[orM,h4']
   exact aB.eqv rfl
def Dq(st c:List Int):Int:=(st.map fun x=>c.getD x.toNat 0).sum
def yU(q:Prop')(c:List Int):Bool:=q.bad.all fun k=>decide (k.least<=Dq k.states c)
structure Yg(n:Nat)(q:Prop'):Prop where
 place: ∀ k∈q.bad,pW n k.states
 least: ∀ k∈q.bad,1<=k.least/\k.least<=3
 some: ∀ k∈q.bad,k.states≠[]
theorem QH{st c:List Int}{i:Nat}(hi:i<st.length):Dq (st.take (i+1)) c=Dq (st.take i) c+c.getD (st.getD i 0).toNat 0:=by
 unfold Dq
 rw[List.take_add_one,List.map_append,List.sum_append]; simp[hi]
theorem TT{st c:List Int}(h:GZ 8 c):0<=Dq st c/\Dq st c<=8*st.length:=by
 unfold Dq
 induction st with
 |nil=>simp
 |cons x r ih =>
  have:=h.g (by omega) x.toNat
  simp only[List.map_cons,List.sum_cons,List.length_cons]; omega
theorem getD_mem{α:Type}{l:List α}{i:Nat}{d:α}(hi:i<l.length):l.getD i d∈l:=by
 rw[show l.getD i d=l[i] by simp[hi]]; exact List.getElem_mem hi
theorem S.lW(q:Prop')(e:Elem)(hq:nK q)(hb:Yg e.counts.length q)(hc:GZ 8 e.counts)(_hl:e.counts.length<2^30):ay Tryd.prog 36 [.dat (.prop q),.dat (.elem e)] (.bool (yU q e.counts)):=by
 have q2:=hq.bad
 refine ay.of Bd.lW (by simp) rfl rfl ?_
 conv=>whnf
 refine aY.same [3,11,12] (fun i:Nat=>[(13,.int i)]) (fun i=>i<=q.bad.length/\(q.bad.take i).all (fun k=>decide (k.least<=Dq k.states e.counts))=true) (fun i=>q.bad.length-i) 0 rfl (by decide) rfl (fun _=>rfl) ⟨by omega,by simp⟩ ⟨⟨_,rfl,rfl⟩,trivial⟩ ?_
 conv=>whnf
 refine⟨rfl,?_⟩
 rintro i ⟨hi,hall⟩
 conv=>whnf
 refine⟨fun h3=>?_,fun h3=>?_⟩
 ·have hi':i<q.bad.length:=by simpa using h3
  have hk:=getD_mem (d:=default) hi'
  have hpl:=hb.place _ hk
  have hsz:=hq.cnt i
  conv=>whnf
  refine .mk (by simp only[Rw.rng] at *; first|omega|(simp_all; done)|(simp_all; omega)) ?_
  conv=>whnf
  refine aY.same [3,6,11,12,13,18,19] (fun j:Nat=>[(20,.int j),(7,.int (Dq ((q.bad.getD i default).states.take j) e.counts))]) (fun j=>j<=(q.bad.getD i default).states.length) (fun j=>(q.bad.getD i default).states.length-j) 0 rfl (by decide) rfl (fun _=>rfl) (Nat.zero_le _) ⟨⟨_,rfl,rfl⟩,⟨_,rfl,rfl⟩,trivial⟩ ?_
  conv=>whnf
  refine⟨rfl,?_⟩
  rintro j hj
  have hs1:=TT (st:=(q.bad.getD i default).states.take j) hc
  have hl1:((q.bad.getD i default).states.take j).length<=(q.bad.getD i default).states.length:=by rw[List.length_take]; omega
  conv=>whnf
  refine⟨fun h4=>?_,fun h4=>?_⟩
  ·have hj':j<(q.bad.getD i default).states.length:=by simpa using h4
   have hst:=QH (c:=e.counts) hj'
   have hg:=hc.g (by omega) ((q.bad.getD i default).states.getD j 0).toNat
   obtain⟨p1,p2⟩:=hpl _ (getD_mem (d:=0) hj')
   conv=>whnf
   repeat(refine VC.mk (by first|(simp only[Rw.rng,Int.toNat_natCast]; omega)|(simp only[okI,Int.toNat_natCast] at *; omega)) ?_; conv=>whnf)
   refine⟨j+1,by omega,by omega,⟨⟨_,rfl,rfl⟩,⟨_,rfl,?_⟩,trivial⟩,?_,rfl⟩
   ·rw[hst]; rfl
   ·repeat' (first|exact trivial|exact⟨_,rfl,rfl⟩|constructor)
  ·have hj':(q.bad.getD i default).states.length<=j:=by simpa using h4
   rw[List.take_of_length_le hj']
   conv=>whnf
   refine⟨fun h5=>?_,fun h5=>?_⟩
   ·conv=>whnf
    refine aB.bool ?_
    have: ¬ (q.bad.getD i default).least<=Dq (q.bad.getD i default).states e.counts:=by
     simp only[Int.toNat_natCast] at h5
     have:=of_decide_eq_true h5; omega
    exact uZ (p:=fun k=>decide (k.least<=Dq k.states e.counts)) (d:=default) hi' (decide_eq_false this)
   ·conv=>whnf
    refine .mk (by simp only[okI] at *; first|omega|(simp_all; done)|(simp_all; omega)) ?_
    conv=>whnf
    have:(q.bad.getD i default).least<=Dq (q.bad.getD i default).states e.counts:=by
     simp only[Int.toNat_natCast] at h5
     have:=of_decide_eq_false h5; omega
    refine⟨i+1,⟨by omega,?_⟩,by omega,⟨⟨_,rfl,rfl⟩,trivial⟩,?_,rfl⟩
    ·rw[tY (d:=default) hi' hall]; exact decide_eq_true this
    ·repeat' (first|exact trivial|exact⟨_,rfl,rfl⟩|constructor)
 ·have hi':q.bad.length<=i:=by simpa using h3
  rw[List.take_of_length_le hi'] at hall
  conv=>whnf
  exact aB.bool hall
theorem TU{p:aX}{q:Prop'}(hp:pz p q=0)(hk:q.kind=1):Yg p.states.length q:=by
 unfold pz at hp
 obtain⟨_,hp⟩:=bz nz hp
 obtain⟨_,hp⟩:=bz (fun _=>by decide) hp
 obtain⟨_,hp⟩:=bz (fun _=>by decide) hp
 obtain⟨_,hp⟩:=bz (fun _=>by decide) hp
 obtain⟨_,hp⟩:=bz nz hp
 obtain⟨_,hp⟩:=bz (fun _=>by decide) hp
 rw[show(!(q.kind==1))=false by simp[hk]] at hp
 have hcn:=gW hp (xK q.bad p.states.length) (by simp)
 have hall: ∀ k∈q.bad,Ti p.states.length k=0:=fun k hk=>gW hcn _ (List.mem_map.2 ⟨k,hk,rfl⟩)
 have hlb: ∀ k∈q.bad,qU k=false:=fun k hk=>xA (gW (hall k hk) (fA (qU k) 1) (by simp)) (by decide)
 refine⟨fun k hk=>xI (gW (hall k hk) (iD k.states p.states.length) (by simp)),fun k hk=>?_,fun k hk e=>?_⟩
 ·have:=hlb k hk
  simp only[qU,Bool.or_eq_false_iff,decide_eq_false_iff_not] at this; omega
 ·have:=hlb k hk
  rw[qU,e] at this; simp at this
def ZA(l:List Cnt):Int:=l.foldl (fun m k=>max m k.least) 0
theorem VK{l:List Cnt}: ∀ {r:Int},0<=r->l.foldl (fun m k=>max m k.least) r=max r (ZA l):=by
 have: ∀ (l:List Cnt) (r s:Int),l.foldl (fun m k=>max m k.least) (max r s)=max r (l.foldl (fun m k=>max m k.least) s):=by
  intro l
  induction l with
  |nil=>intro r s; rfl
  |cons x l ih=>intro r s; rw[List.foldl_cons,List.foldl_cons,Int.max_assoc,ih]
 intro r hr
 have:=this l r 0
 rw[Int.max_eq_left hr] at this; exact this
theorem Yh{l:List Cnt}(h: ∀ k∈l,1<=k.least/\k.least<=3):0<=ZA l/\ZA l<=3:=by
 have: ∀ (l:List Cnt) (r:Int),0<=r/\r<=3->(∀ k∈l,1<=k.least/\k.least<=3)->0<=l.foldl (fun m k=>max m k.least) r/\l.foldl (fun m k=>max m k.least) r<=3:=by
  intro l
  induction l with
  |nil=>intro r hr _; exact hr
  |cons x l ih=>intro r hr h; have:=h x (by simp); exact ih _ (show 0<=max r x.least/\max r x.least<=3 by omega) fun k hk=>h k (List.mem_cons_of_mem _ hk)
 exact this l 0 (by omega) h
theorem VL{l:List Cnt}{r:Int}{i:Nat}(hi:i<l.length):(l.take (i+1)).foldl (fun m k=>max m k.least) r=max ((l.take i).foldl (fun m k=>max m k.least) r) (l.getD i default).least:=by
 rw[List.take_add_one,List.foldl_append]; simp[hi]
def Nj(q:Prop')(l:List Clause):Nat:=(max (aU l) (ZA q.bad)).toNat
theorem Yi{q:Prop'}{l:List Clause}:max (aU l) (ZA q.bad)=Nj q l:=by have:=rX (l:=l); unfold Nj; omega
def J8(p:aX)(q:Prop')(l:List Clause):Option Elem:=MS (fun e=>yU q e.counts) l (gY (Nj q l+3) p.states.length (nU p))
def Yj(s:Option Elem):V:=.fU [.dat (.elem (s.getD zE)),.bool s.isSome]
theorem TV{bad:Elem->Bool}{l:List Clause}{es:List Elem}{x:Elem}(h:es.foldl (uX bad l) none=some x):x∈es:=TA h
set_option maxHeartbeats 2000000 in
theorem S.iV(p:aX)(q:Prop')(l:List Clause)(f:Bool)(hp:dP p)(hq:nK q)(hl:SmallK l)(hF:A8 p)(hB:Yg p.states.length q)(hR:kW p.states.length p.values.length l):ay Tryd.prog 16 [.dat (.eG p),.dat (.prop q),.row 4 f (.clauses l)] (Yj (J8 p q l)):=by
 have g1:=hF.pos; have g2:=hF.states; have g3:=hF.values
 have q1:=hq.bad
 have hk1:=hl.len
 have pF:nU p<=3:=by unfold nU; omega
 have XT:aU l<=3:=qP fun k hk=>(hR.cl k hk).two
 have ZM:=rX (l:=l)
 have hlg:=Yh hB.least
 have hmd:=Yi (q:=q) (l:=l)
 have abC:Nj q l<=3:=by omega
 have Vg:Nj q l+3<=9:=by omega
 have hU:ay Tryd.prog 33 [.dat (.eG p),.int (max (aU l) (ZA q.bad)+2)] (.row 3 false (.elems (gY (Nj q l+3) p.states.length (nU p)))):=by
  have:=S.eP p p.states.length (nU p) (Nj q l+2) hp rfl g1 g2 rfl pF (by omega)
  rw[hmd]; exact this
 have hok:=xM (b:=Nj q l+3) (n:=p.states.length) (vals:=nU p) (by omega)
 have QD:(gY (Nj q l+3) p.states.length (nU p)).length<=3*531441:=by
  rw[tN]
  have:=xO (b:=Nj q l+3) (n:=p.states.length) Vg g2
  exact Nat.mul_le_mul pF (by omega)
 have hend:J8 p q l=MS (fun e=>yU q e.counts) l (gY (Nj q l+3) p.states.length (nU p)):=rfl
 rw[hend]
 generalize gY (Nj q l+3) p.states.length (nU p)=es at hU QD hok ⊢
 have hmem: ∀ i x,(es.take i).foldl (uX (fun e=>yU q e.counts) l) none=some x->x.counts.length=p.states.length:=fun i x h=>(hok x (List.mem_of_mem_take (TV h))).len
 have ZW:MS (fun e=>yU q e.counts) l es=(es.take es.length).foldl (uX (fun e=>yU q e.counts) l) none:=by rw[List.take_length]; rfl
 rw[ZW]
 refine ay.of Bd.iV (by simp) rfl (by rfl) ?_
 conv=>whnf
 refine ah.EF hl rfl ?_
 conv=>whnf
 obtain⟨rb,hrb,hrL⟩:=G5 l.length
 rw[hrb]
 conv=>whnf
 refine .mk (by omega) ?_
 conv=>whnf
 refine aY.CB 50 [3,4,6,8,9,26,27] (fun i:Nat=>[(28,.int i),(10,.int ((q.bad.take i).foldl (fun m k=>max m k.least) (aU l)))]) (fun _=>[(0,.box 27 11 (.dat (.eG p))),(1,.box 30 7 (.dat (.prop q))),(2,.box 42 3 (.agg [.int 0,.row 0 true .nil])),(5,Dk l f 6),(6,Bh []),(10,rowB (List.replicate l.length false))]) (fun i=>i<=q.bad.length) (fun i=>q.bad.length-i) 0 [0,1,2,5,6,10] rfl (by decide) (fun _=>rfl) (Nat.zero_le _) ?_ ?_ ?_
 ·exact⟨⟨_,rfl,.eq rfl⟩,⟨_,rfl,.eq rfl⟩,trivial⟩
 ·refine⟨okF rfl nofun rfl rfl rfl ⟨rfl,rfl⟩ rfl,okF rfl nofun rfl rfl rfl ⟨rfl,rfl⟩ rfl,okF rfl nofun rfl rfl rfl ⟨rfl,rfl⟩ rfl,⟨rfl,nofun,rfl,rfl,_,rfl,rfl,rfl,bZ.of_eq rfl⟩,okF rfl nofun rfl rfl rfl ⟨rfl,rfl⟩ rfl,okF rfl nofun rfl rfl rfl ⟨rfl,rfl⟩ ?_,trivial⟩
  show(Rw.bools (List.replicate l.length false)).aT++[]=rb.aT++[]
  rw[hrL]
 conv=>whnf
 refine⟨⟨⟨_,rfl,.eq rfl⟩,⟨_,rfl,.eq rfl⟩,⟨_,rfl,.eq rfl⟩,⟨_,rfl,.eq rfl⟩,⟨_,rfl,.eq rfl⟩,⟨_,rfl,.eq rfl⟩,⟨_,rfl,.eq rfl⟩,trivial⟩,rfl,?_⟩
 rintro i hi
 conv=>whnf
 refine⟨fun h3=>?_,fun h3=>?_⟩
 ·have hi':i<q.bad.length:=by simpa using h3
  have hlt:=VL (r:=aU l) hi'
  conv=>whnf
  repeat(refine VC.mk (by simp only[okI,Rw.rng] at *; first|omega|(simp_all; done)|(simp_all; omega)) ?_; conv=>whnf)
  refine⟨i+1,[0,1,2,5,6,10],by omega,by omega,⟨⟨_,rfl,.eq rfl⟩,⟨_,rfl,.eq ?_⟩,trivial⟩,⟨⟨_,rfl,.eq rfl⟩,⟨_,rfl,.eq rfl⟩,⟨_,rfl,.eq rfl⟩,⟨_,rfl,.eq rfl⟩,⟨_,rfl,.eq rfl⟩,⟨_,rfl,.eq rfl⟩,⟨_,rfl,.eq rfl⟩,trivial⟩,okF rfl nofun rfl rfl rfl ⟨rfl,rfl⟩ rfl,okF rfl nofun rfl rfl rfl ⟨rfl,rfl⟩ rfl,okF rfl nofun rfl rfl rfl ⟨rfl,rfl⟩ rfl,⟨rfl,nofun,rfl,rfl,_,rfl,rfl,rfl,bZ.of_eq rfl⟩,okF rfl nofun rfl rfl rfl ⟨rfl,rfl⟩ rfl,okF rfl nofun rfl rfl rfl ⟨rfl,rfl⟩ rfl,trivial⟩
  rw[hlt]; rfl
 have hi':i=q.bad.length:=by have:q.bad.length<=i:=(by simpa using h3); omega
 subst hi'
 rw[show q.bad.take q.bad.length=q.bad from List.take_length,VK ZM]
 conv=>whnf
 refine .mk (by simp only[okI]; omega) ?_
 conv=>whnf
 refine ah.pure (hU) rfl ?_
 conv=>whnf
 refine aY.CB (ι:=Nat×List (Int×List Bool)) 100 [4,6,8,9,13,40,41] (fun x=>[(42,.int x.1)]) (fun x=>[(1,.box 30 7 (.dat (.prop q))),(2,.box 42 3 (.agg [.int 0,.row 0 true .nil])),(5,Dk l f 6),(6,Bh x.2),(10,rowB (List.replicate l.length false)),(51,.box 42 3 (.dat (.elem (((es.take x.1).foldl (uX (fun e=>yU q e.counts) l) none).getD zE))))]) (fun x=>x.1<=es.length/\kZ p.states.length l x.2) (fun x=>es.length-x.1) (0,[]) [1,2,5,6,10,51] rfl (by decide) (fun _=>rfl) ⟨Nat.zero_le _,kZ.nil⟩ ?_ ?_ ?_
 ·exact⟨⟨_,rfl,.eq rfl⟩,trivial⟩
 ·exact⟨okF rfl nofun rfl rfl rfl ⟨rfl,rfl⟩ rfl,okF rfl nofun rfl rfl rfl ⟨rfl,rfl⟩ rfl,⟨rfl,nofun,rfl,rfl,_,rfl,rfl,rfl,bZ.of_eq rfl⟩,okF rfl nofun rfl rfl rfl ⟨rfl,rfl⟩ rfl,okF rfl nofun rfl rfl rfl ⟨rfl,rfl⟩ rfl,⟨rfl,nofun,rfl,rfl,_,rfl,rfl,rfl,G6⟩,trivial⟩
 conv=>whnf
 refine⟨⟨⟨_,rfl,.eq rfl⟩,⟨_,rfl,.eq rfl⟩,⟨_,rfl,.eq rfl⟩,⟨_,rfl,.eq rfl⟩,⟨_,rfl,.eq rfl⟩,⟨_,rfl,.eq rfl⟩,⟨_,rfl,.eq rfl⟩,trivial⟩,rfl,?_⟩
 rintro⟨i,em⟩ ⟨hi,hem⟩
 have yx:=hmem i
 conv=>whnf
 refine⟨fun h3=>?_,fun h3=>?_⟩
 ·have hi':i<es.length:=by simpa using h3
  have hue:=hok _ (getM (d:=default) hi')
  have hte:=hR.at hue Vg pF g1 g2
  have Bo:(es.getD i default).counts.length=p.states.length:=hue.len
  have hnx:(es.take (i+1)).foldl (uX (fun e=>yU q e.counts) l) none=uX (fun e=>yU q e.counts) l ((es.take i).foldl (uX (fun e=>yU q e.counts) l) none) (es.getD i default):=Eu hi'
  generalize (es.take i).foldl (uX (fun e=>yU q e.counts) l) none=s at *
  have hsl:(s.getD zE).counts.length<=6:=by
   cases s with
   |none=>exact show(0:Nat)<=6 by decide
   |some x=>have:=yx x rfl; show x.counts.length<=6; omega
  have hsn:(((s.getD zE).counts.length:Int)==0)=s.isNone:=by
   cases s with
   |none=>rfl
   |some x =>
    have:=yx x rfl
    show((x.counts.length:Int)==0)=false
    exact beq_eq_false_iff_ne.2 (by omega)
  conv=>whnf
  refine .mk (by simp only[Rw.rng] at *; first|omega|(simp_all; done)|(simp_all; omega)) ?_
  conv=>whnf
  refine ah.pure (S.lW q (es.getD i default) hq (by rw[Bo]; exact hB) (hue.nn Vg) (by rw[Bo]; omega)) rfl ?_
  conv=>whnf
  refine .mk (by exact fun h=>⟨h,h⟩) ?_
  conv=>whnf
  cases hD:yU q (es.getD i default).counts with
  |false =>
   have hsg:uX (fun e=>yU q e.counts) l s (es.getD i default)=s:=by rw[uX,hD]; rfl
   rw[hsg] at hnx
   refine ah.VH (.row 0 false (.bools [])) rfl ?_
   conv=>whnf
   refine .mk (by exact fun h=>⟨h,h⟩) ?_
   conv=>whnf
   refine ah.VH (.bool true) rfl ?_
   conv=>whnf
   repeat(refine VC.mk id ?_; conv=>whnf)
   refine ah.mQ (fun _=>S.fZ (es.getD i default) (by rw[Bo]; omega)) rfl ?_
   conv=>whnf
   refine VC.mk id ?_
   conv=>whnf
   refine ah.mQ (fun _=>S.fZ (s.getD zE) (by omega)) rfl ?_
   conv=>whnf
   repeat(refine VC.mk (by first|exact id|exact fun h=>⟨h,h⟩|(intro h; simp_all; done)) ?_; conv=>whnf)
   refine Fork.mk (fun q=>absurd (q.symm.trans ((rfl:false=false))).symm Bool.false_ne_true) (fun _=>?_)
   conv=>whnf
   refine .mk (by simp only[okI] at *; first|omega|(simp_all; done)|(simp_all; omega)) ?_
   conv=>whnf
   conv=>whnf
   refine⟨(i+1,em),[1,2,5,6,10,51],⟨by show i+1<=_; omega,hem⟩,by show es.length-(i+1)<es.length-i; omega,⟨⟨_,rfl,.eq rfl⟩,trivial⟩,⟨⟨_,rfl,.eq rfl⟩,⟨_,rfl,.eq rfl⟩,⟨_,rfl,.eq rfl⟩,⟨_,rfl,.eq rfl⟩,⟨_,rfl,.eq rfl⟩,⟨_,rfl,.eq rfl⟩,⟨_,rfl,.eq rfl⟩,trivial⟩,okF rfl nofun rfl rfl rfl ⟨rfl,rfl⟩ rfl,okF rfl nofun rfl rfl rfl ⟨rfl,rfl⟩ rfl,⟨rfl,nofun,rfl,rfl,_,rfl,rfl,rfl,bZ.of_eq rfl⟩,okF rfl nofun rfl rfl rfl ⟨rfl,rfl⟩ rfl,okF rfl nofun rfl rfl rfl ⟨rfl,rfl⟩ rfl,okF rfl nofun rfl rfl rfl ⟨rfl,rfl⟩ ?_,trivial⟩
   exact congrArg (fun s:Option Elem=>(OV.box 42 3 (.dat (.elem (s.getD zE)))).aF.l) hnx
  |true =>
   have VI:uX (fun e=>yU q e.counts) l s (es.getD i default)=bif bg l (es.getD i default)&&(s.isNone||decide (kG (es.getD i default)<kG (s.getD zE))) then some (es.getD i default) else s:=by rw[uX,hD]; rfl
   refine ah.on (ah.row hl hte (show kZ (es.getD i default).counts.length l em by rw[Bo]; exact hem) rfl rfl (by decide) rfl (by decide) (by decide) (fun TL wG=>?_))
   replace wG:kZ (es.getD i default).counts.length l TL:=wG
   rw[Bo] at wG
   conv=>whnf
   refine .mk (by exact fun h=>⟨h,h⟩) ?_
   conv=>whnf
   refine ah.on (ah.lend (S.kR (kK l (es.getD i default)) l.length false false (by rw[qA]; omega) (by rw[qA]; exact Nat.le_refl _)) ⟨aC _,OM trivial rfl,trivial⟩ rfl rfl ?_)
   rw[OL]
   conv=>whnf
   repeat(refine VC.mk id ?_; conv=>whnf)
   refine ah.mQ (fun _=>S.fZ (es.getD i default) (by rw[Bo]; omega)) rfl ?_
   conv=>whnf
   refine VC.mk id ?_
   conv=>whnf
   refine ah.mQ (fun _=>S.fZ (s.getD zE) (by omega)) rfl ?_
   conv=>whnf
   repeat(refine VC.mk (by first|exact id|exact fun h=>⟨h,h⟩|(intro h; simp_all; done)) ?_; conv=>whnf)
   refine⟨fun h5=>?_,fun h5=>?_⟩
   ·have h5':(bg l (es.getD i default)&&(s.isNone||decide (kG (es.getD i default)<kG (s.getD zE))))=true:=by rw[<- hsn]; exact h5
    rw[h5'] at VI
    rw[VI] at hnx
    have hfin:=congrArg (fun s:Option Elem=>(OV.box 42 3 (.dat (.elem (s.getD zE)))).aF.l) hnx
    conv=>whnf
    refine .mk (by simp only[okI] at *; first|omega|(simp_all; done)|(simp_all; omega)) ?_
    conv=>whnf
    refine⟨(i+1,TL),[1,2,5,6,10,51],⟨by show i+1<=_; omega,wG⟩,by show es.length-(i+1)<es.length-i; omega,⟨⟨_,rfl,.eq rfl⟩,trivial⟩,⟨⟨_,rfl,.eq rfl⟩,⟨_,rfl,.eq rfl⟩,⟨_,rfl,.eq rfl⟩,⟨_,rfl,.eq rfl⟩,⟨_,rfl,.eq rfl⟩,⟨_,rfl,.eq rfl⟩,⟨_,rfl,.eq rfl⟩,trivial⟩,okF rfl nofun rfl rfl rfl ⟨rfl,rfl⟩ rfl,okF rfl nofun rfl rfl rfl ⟨rfl,rfl⟩ rfl,⟨rfl,nofun,rfl,rfl,_,rfl,rfl,rfl,bZ.of_eq rfl⟩,okF rfl nofun rfl rfl rfl ⟨rfl,rfl⟩ rfl,okF rfl nofun rfl rfl rfl ⟨rfl,rfl⟩ rfl,okF rfl nofun rfl rfl rfl ⟨rfl,rfl⟩ ?_,trivial⟩
    exact hfin
   ·have h5':(bg l (es.getD i default)&&(s.isNone||decide (kG (es.getD i default)<kG (s.getD zE))))=false:=by rw[<- hsn]; exact h5
    rw[h5'] at VI
    rw[VI] at hnx
    have hfin:=congrArg (fun s:Option Elem=>(OV.box 42 3 (.dat (.elem (s.getD zE)))).aF.l) hnx
    conv=>whnf
    refine .mk (by simp only[okI] at *; first|omega|(simp_all; done)|(simp_all; omega)) ?_
    conv=>whnf
    refine⟨(i+1,TL),[1,2,5,6,10,51],⟨by show i+1<=_; omega,wG⟩,by show es.length-(i+1)<es.length-i; omega,⟨⟨_,rfl,.eq rfl⟩,trivial⟩,⟨⟨_,rfl,.eq rfl⟩,⟨_,rfl,.eq rfl⟩,⟨_,rfl,.eq rfl⟩,⟨_,rfl,.eq rfl⟩,⟨_,rfl,.eq rfl⟩,⟨_,rfl,.eq rfl⟩,⟨_,rfl,.eq rfl⟩,trivial⟩,okF rfl nofun rfl rfl rfl ⟨rfl,rfl⟩ rfl,okF rfl nofun rfl rfl rfl ⟨rfl,rfl⟩ rfl,⟨rfl,nofun,rfl,rfl,_,rfl,rfl,rfl,bZ.of_eq rfl⟩,okF rfl nofun rfl rfl rfl ⟨rfl,rfl⟩ rfl,okF rfl nofun rfl rfl rfl ⟨rfl,rfl⟩ rfl,okF rfl nofun rfl rfl rfl ⟨rfl,rfl⟩ ?_,trivial⟩
    exact hfin
 ·have hi':i=es.length:=by have:es.length<=i:=(by simpa using h3); omega
  subst hi'
  generalize (es.take es.length).foldl (uX (fun e=>yU q e.counts) l) none=s at *
  conv=>whnf
  refine aB.eqv ?_
  rw[Yj]
  cases s with
  |none=>rfl
  |some x =>
   have:=yx x rfl
   show T.fU [nP x,.bool true]=T.fU [nP x,.bool (decide (0<(x.counts.length:Int)))]
   rw[decide_eq_true (by omega)]
def mP(p:aX)(r:Rule)(l a:List Clause):Nat×Elem:=CS (bM r) l a (gY (zC (l++a)+3) p.states.length (nU p))
def TW(n:Nat)(s:Nat×Elem):List V:=[.int (orM n s.1),.dat (.elem (bif s.1==n then zE else s.2))]
theorem S.J9(p:aX)(l a:List Clause)(i:Nat)(f g:Bool)(hp:dP p)(hi:i<p.rules.length)(hin:CG p=0)(hl:kW p.states.length p.values.length l)(ha:kW p.states.length p.values.length a)(hs:l.length+a.length<=1000) :
  ay Tryd.prog 15 [.dat (.eG p),.dat (.rule (p.rules.getD i default)),.row 4 f (.clauses l),.row 4 g (.clauses a)] (.fU (TW l.length (mP p (p.rules.getD i default) l a))):=by
 obtain⟨hF,hpl⟩:=xB hin
 have:=hF.values
 exact S.fM p (p.rules.getD i default) l a p.states.length (nU p) f g hp (hp.rule i) rfl hF.pos hF.states rfl (by unfold nU; omega) (ZQ hF (Qi hpl) hi) hl ha hs (zC (l++a)) IJ
def sO(p:aX)(rule:Int)(l a:List Clause):Int:=bif CG p !=0 then CG p else bif decide (rule<0)||decide (rule>=p.rules.length) then 6 else yB p l a
def Iq(p:aX)(rule:Int)(l a:List Clause):V:=.fU ((bif sO p rule l a !=0 then [.int 0,.dat (.elem zE)] else TW l.length (mP p (p.rules.getD rule.toNat default) l a))++[.int (sO p rule l a)])
theorem aB.zero3{k j:Int}{h:Hz}:aB (.fU [.int k,.dat (.elem zE),.int j]) (.fU [.int k,.agg [.int 0,.row 0 true .nil],.int j]) h:=⟨by
 show T.sub _ _ (.fU [.int k,.agg [.int 0,.sl 0 false []],.int j]) (.fU [.int k,.agg [.int 0,.sl 0 true []],.int j])
 simp[T.sub,T.dI]⟩
theorem zS{p:aX}{rule:Int}{l a:List Clause}{e:Int}(h:sO p rule l a=e)(he:(e !=0)=true):Iq p rule l a= .fU [.int 0,.dat (.elem zE),.int e]:=by
 rw[Iq,h,he]; rfl
theorem VN{p:aX}{l a:List Clause}(h:yB p l a=0):kW p.states.length p.values.length l/\kW p.states.length p.values.length a/\l.length<=160/\a.length<=160:=by
 unfold yB at h
 obtain⟨h1,h2⟩:=bz nz h
 obtain⟨a1,a2⟩:=uP (by simpa using h1)
 obtain⟨b1,b2⟩:=uP h2
 exact⟨a1,b1,a2,b2⟩
theorem S.dW(p:aX)(rule:Int)(l a:List Clause)(f g:Bool)(hp:dP p)(hl:SmallK l)(ha:SmallK a):ay Tryd.prog 13 [.dat (.eG p),.int rule,.row 4 f (.clauses l),.row 4 g (.clauses a)] (Iq p rule l a):=by
 refine ay.of Bd.dW (by simp) rfl (by unfold Iq; cases sO p rule l a !=0<;>rfl) ?_
 conv=>whnf
 refine ah.pure (S.fC p hp) rfl ?_
 conv=>whnf
 refine⟨fun h1=>?_,fun h1=>?_⟩
 ·have he:sO p rule l a=CG p:=by rw[sO,show(CG p !=0)=true from h1]; rfl
  conv=>whnf
  rw[zS he h1]
  exact aB.zero3
 have hk:=hp.rules
 conv=>whnf
 repeat(refine VC.mk (by first|exact id|exact fun h=>⟨h,h⟩|(intro h; rw[h]; rfl)) ?_; conv=>whnf)
 refine⟨fun h2=>?_,fun h2=>?_⟩
 ·have h2':(decide (rule<0)||decide (rule>=p.rules.length))=true:=h2
  have he:sO p rule l a=6:=by rw[sO,show(CG p !=0)=false from h1,h2']; rfl
  conv=>whnf
  rw[zS he (by decide)]
  exact aB.zero3
 have h2':(decide (rule<0)||decide (rule>=p.rules.length))=false:=h2
 have he:sO p rule l a=yB p l a:=by rw[sO,show(CG p !=0)=false from h1,h2']; rfl
 rw[Bool.or_eq_false_iff,decide_eq_false_iff_not,decide_eq_false_iff_not] at h2'
 obtain⟨r1,r2⟩:=h2'
 conv=>whnf
 refine ah.lend (S.F8 p l a false f g hp hl ha) ⟨aC _,OO trivial rfl rfl,trivial⟩ rfl rfl ?_
 conv=>whnf
 refine⟨fun h3=>?_,fun h3=>?_⟩
 ·conv=>whnf
  rw[zS he h3]
  exact aB.zero3
 obtain⟨k1,k2,k3,k4⟩:=VN (JW h3)
 have hV:Iq p rule l a= .fU (TW l.length (mP p (p.rules.getD rule.toNat default) l a)++[.int 0]):=by
  rw[Iq,he,JW h3]; rfl
 rw[hV]
 conv=>whnf
 refine .mk (by first|(simp only[Rw.rng]; omega)) ?_
 conv=>whnf
 refine ah.pure (S.J9 p l a rule.toNat f g hp (by omega) (JW h1) k1 k2 (by omega)) rfl ?_
 conv=>whnf
 exact aB.eqv rfl
def Ko(p:aX)(k:Clause):Int:=bif CG p !=0 then CG p else xG p k
def AY(p:aX)(k:Clause)(e:Elem):Int:=bif Ko p k !=0 then Ko p k else fA (wu p e||kG e==0) 1
def P7(p:aX)(k:Clause)(e:Elem):V:=.fU [.bool (AY p k e==0&&holdsB k e),.int (AY p k e)]
theorem Yk{p:aX}(h:CG p=0):Nk p=0:=by
 unfold CG at h
 obtain⟨h1,h2⟩:=bz (fun _=>by decide) h
 rw[h2] at h1
 have hm:(kC p).monadic=true:=by simpa using h1
 rw[Nk,h2,hm,Bool.not_true,Bool.and_false]; rfl
theorem Kq{p:aX}{k:Clause}(h:Ko p k=0):CG p=0/\xG p k=0:=by
 unfold Ko at h
 obtain⟨h1,h2⟩:=bz nz h
 exact⟨by simpa using h1,h2⟩
theorem S.fD(p:aX)(e:Elem)(hp:dP p)(he:e.counts.length<2^30)(hin:CG p=0):ay Tryd.prog 23 [.dat (.eG p),.dat (.elem e)] (.int (fA (wu p e||kG e==0) 1)):=by
 have hv:(Kr p e !=0)=wu p e:=by
  rw[Kr,Yk hin]
  cases wu p e<;>rfl
 refine ay.of Bd.fD (by simp) rfl rfl ?_
 conv=>whnf
 refine ah.pure (S.iW p e hp he) rfl ?_
 conv=>whnf
 refine VC.mk id ?_
 conv=>whnf
 rw[hv]
 conv=>whnf
 refine ah.mQ (fun _=>S.fZ e (by omega)) rfl ?_
 conv=>whnf
 repeat(refine VC.mk (by first|exact id|(intro h; rw[h]; rfl)) ?_; conv=>whnf)
 refine⟨fun h1=>?_,fun h1=>?_⟩
 ·have h1':(wu p e||kG e==0)=true:=h1
  conv=>whnf
  exact aB.int (by rw[h1']; rfl)
 ·have h1':(wu p e||kG e==0)=false:=h1
  conv=>whnf
  exact aB.int (by rw[h1']; rfl)
theorem Ir{p:aX}{k:Clause}{e:Elem}(h:AY p k e=0):X8 k e/\0<e.counts.length/\k.values.length<2^30/\CG p=0:=by
 unfold AY at h
 obtain⟨h1,h2⟩:=bz nz h
 obtain⟨hin,hcl⟩:=Kq (by simpa using h1)
 have h3:=xA h2 (by decide)
 rw[Bool.or_eq_false_iff] at h3
 obtain⟨a,b,c⟩:=SS h3.1
 obtain⟨hF,_⟩:=xB hin
 have hc:=Xq hcl
 have h4:=hF.pos; have h5:=hF.states; have h6:=hF.values; have h7:=hc.values.len
 exact⟨⟨⟨_,by rw[a]; exact hc⟩,b,by omega⟩,by omega,by omega,hin⟩
theorem S.gI(p:aX)(k:Clause)(e:Elem)(hp:dP p)(hk:sQ k)(he:e.counts.length<2^30):ay Tryd.prog 9 [.dat (.eG p),.dat (.clause k),.dat (.elem e)] (P7 p k e):=by
 refine ay.of Bd.gI (by simp) rfl rfl ?_
 conv=>whnf
 refine ah.pure (S.dX p k hp hk) rfl ?_
 conv=>whnf
 refine⟨fun h1=>?_,fun h1=>?_⟩
 ·have hv:(Ko p k !=0)=true:=h1
  have hE:AY p k e=Ko p k:=by rw[AY,hv]; rfl
  have hz:(Ko p k==0)=false:=beq_eq_false_iff_ne.2 (Xr hv)
  conv=>whnf
  exact aB.eqv (by rw[P7,hE,hz]; rfl)
 have hv:(Ko p k !=0)=false:=h1
 obtain⟨hin,hcl⟩:=Kq (JW hv)
 have hE:AY p k e=fA (wu p e||kG e==0) 1:=by rw[AY,hv]; rfl
 conv=>whnf
 refine ah.pure (S.fD p e hp he hin) rfl ?_
 conv=>whnf
 refine⟨fun h2=>?_,fun h2=>?_⟩
 ·have hz:(fA (wu p e||kG e==0) 1==0)=false:=beq_eq_false_iff_ne.2 (Xr h2)
  conv=>whnf
  exact aB.eqv (by rw[P7,hE,hz]; rfl)
 have hz:fA (wu p e||kG e==0) 1=0:=JW h2
 obtain⟨hf,h0,hkv,_⟩:=Ir (hE.trans hz)
 conv=>whnf
 refine ah.pure (S.jr k e hf h0 hkv) rfl ?_
 conv=>whnf
 exact aB.eqv (by rw[P7,hE,hz]; rfl)
def sW(p:aX)(l a:List Clause)(r:Rule):Bool:=(mP p r l a).1==l.length
def EI(p:aX)(q:Prop')(l a:List Clause):Bool:=((lT p a==0)&&decide (l.length+a.length<=160))&&(p.rules.all (sW p l a)&&(J8 p q (l++a)).isNone)
def Oz(p:aX)(q:Prop')(l a:List Clause):Bool:=((sS p q l==0)&&(qX l (qY p q l)==l.length))&&EI p q l a
theorem Xt{n m:Nat}(_h:m<=n):decide (orM n m>=0)= !(m==n):=by
 unfold orM
 cases he:m==n with
 |true=>rfl
 |false=>simp only[cond_false]; exact decide_eq_true (by omega)
theorem S.bP(p:aX)(q:Prop')(l a:List Clause)(f g:Bool)(hp:dP p)(hq:nK q)(hl:SmallK l)(ha:SmallK a):ay Tryd.prog 7 [.dat (.eG p),.dat (.prop q),.row 4 f (.clauses l),.row 4 g (.clauses a)] (.bool (Oz p q l a)):=by
 have k1:=hl.len; have k2:=ha.len
 refine ay.of Bd.bP (by simp) rfl rfl ?_
 conv=>whnf
 refine ah.pure (S.dL p q l f hp hq hl) rfl ?_
 rw[Nh]
 cases he:sS p q l !=0 with
 |true =>
  have hcT:(sS p q l !=0||decide (0<=bif true then 0 else orM l.length (qX l (qY p q l))))=true:=by rw[he]; rfl
  conv=>whnf
  repeat(refine VC.mk (by first|exact id|(intro h; rw[h]; rfl)) ?_; conv=>whnf)
  refine Fork.mk (fun _=>?_) (fun q=>absurd (q.symm.trans (hcT)) Bool.false_ne_true)
  conv=>whnf
  exact aB.bool (by rw[Oz,show(sS p q l==0)=false from beq_eq_false_iff_ne.2 (Xr he)]; rfl)
 |false =>
  have he0:sS p q l=0:=JW he
  have hor:=Xt (n:=l.length) (m:=qX l (qY p q l)) Tz
  rw[he0]
  conv=>whnf
  repeat(refine VC.mk (by first|exact id|(intro h; rw[h]; rfl)) ?_; conv=>whnf)
  refine⟨fun h1=>?_,fun h1=>?_⟩
  ·have h1':decide (orM l.length (qX l (qY p q l))>=0)=true:=h1
   conv=>whnf
   refine aB.bool ?_
   rw[hor] at h1'
   have h2:(qX l (qY p q l)==l.length)=false:=by simpa only[Bool.not_eq_true'] using h1'
   rw[Oz,h2,Bool.and_false]; rfl
  have h1':decide (orM l.length (qX l (qY p q l))>=0)=false:=h1
  rw[hor] at h1'
  have h2:(qX l (qY p q l)==l.length)=true:=by simpa only[Bool.not_eq_false'] using h1'
  have hcc:Oz p q l a=EI p q l a:=by rw[Oz,he0,h2]; rfl
  rw[hcc]
  conv=>whnf
  refine ah.lend (S.yC p a false g hp ha) ⟨aC _,OO trivial rfl rfl,trivial⟩ rfl rfl ?_
  conv=>whnf
  repeat(refine VC.mk (by first|exact id|(intro h; rw[h]; rfl)|(intro h; (repeat' apply And.intro)<;>first|exact h|omega|(simp only[Rw.tZ]; omega)|(simp only[Rw.rng]; omega))) ?_; conv=>whnf)
  refine⟨fun h3=>?_,fun h3=>?_⟩
  ·have h3':(lT p a !=0||decide ((l.length:Int)+a.length>160))=true:=h3
   conv=>whnf
   refine aB.bool ?_
   have:((lT p a==0)&&decide (l.length+a.length<=160))=false:=by
    rw[Bool.or_eq_true] at h3'
    rcases h3' with h|h
    ·rw[show(lT p a==0)=false from beq_eq_false_iff_ne.2 (Xr h)]; rfl
    ·have:=of_decide_eq_true h
     rw[decide_eq_false (show ¬ (l.length+a.length<=160) by omega),Bool.and_false]
   rw[EI,this]; rfl
  have h3':(lT p a !=0||decide ((l.length:Int)+a.length>160))=false:=h3
  rw[Bool.or_eq_false_iff,decide_eq_false_iff_not] at h3'
  obtain⟨h4,h5⟩:=h3'
  have hlen:l.length+a.length<=160:=by omega
  have hrest:EI p q l a=(p.rules.all (sW p l a)&&(J8 p q (l++a)).isNone):=by
   rw[EI,JW h4,decide_eq_true hlen]; rfl
  rw[hrest]
  have hE:yN p q=0/\lT p l=0:=by
   unfold sS at he0
   obtain⟨u,v⟩:=bz nz he0
   exact⟨by simpa using u,v⟩
  obtain⟨hv,hin,hk⟩:=D9 hE.1
  obtain⟨hF,_⟩:=xB hin
  obtain⟨hR,_⟩:=uP hE.2
  obtain⟨hA,_⟩:=uP (JW h4)
  have hla:=hR.app hA (by omega)
  have hru:=hp.rules
  conv=>whnf
  refine aY.same [2,3,4,5,44,45] (fun i:Nat=>[(46,.int i)]) (fun i=>i<=p.rules.length/\(p.rules.take i).all (sW p l a)=true) (fun i=>p.rules.length-i) 0 rfl (by decide) rfl (fun _=>rfl) ⟨by omega,by simp⟩ ⟨⟨_,rfl,rfl⟩,trivial⟩ ?_
  conv=>whnf
  refine⟨rfl,?_⟩
  rintro i ⟨hi,hall⟩
  conv=>whnf
  refine⟨fun h6=>?_,fun h6=>?_⟩
  ·have hi':i<p.rules.length:=by simpa using h6
   have hsl:(mP p (p.rules.getD i default) l a).1<=l.length:=Ey
   have hog:=Xt hsl
   conv=>whnf
   refine .mk (by simp only[Rw.rng] at *; first|omega|(simp_all; done)|(simp_all; omega)) ?_
   conv=>whnf
   refine ah.pure (S.J9 p l a i f g hp hi' hin hR hA (by omega)) rfl ?_
   rw[TW]
   conv=>whnf
   refine⟨fun h7=>?_,fun h7=>?_⟩
   ·have ZX:decide (orM l.length (mP p (p.rules.getD i default) l a).1>=0)=true:=h7
    conv=>whnf
    refine aB.bool ?_
    rw[hog] at ZX
    have h8:sW p l a (p.rules.getD i default)=false:=by rw[sW]; simpa only[Bool.not_eq_true'] using ZX
    rw[uZ (p:=sW p l a) (d:=default) hi' h8]; rfl
   ·have ZX:decide (orM l.length (mP p (p.rules.getD i default) l a).1>=0)=false:=h7
    conv=>whnf
    refine .mk (by simp only[okI] at *; first|omega|(simp_all; done)|(simp_all; omega)) ?_
    conv=>whnf
    rw[hog] at ZX
    have h8:sW p l a (p.rules.getD i default)=true:=by rw[sW]; simpa only[Bool.not_eq_false'] using ZX
    refine⟨i+1,⟨by omega,?_⟩,by omega,⟨⟨_,rfl,rfl⟩,trivial⟩,?_,rfl⟩
    ·rw[tY (d:=default) hi' hall]; exact h8
    ·repeat' (first|exact trivial|exact⟨_,rfl,rfl⟩|constructor)
  ·have hi':p.rules.length<=i:=by simpa using h6
   rw[List.take_of_length_le hi'] at hall
   rw[hall]
   conv=>whnf
   refine ah.pure (S.iM l a f g (by omega) (by omega)) rfl ?_
   conv=>whnf
   conv=>whnf
   refine ah.pure (S.iV p q (l++a) false hp hq (hla.small hF.states hF.values) hF (TU hv hk) hla) rfl ?_
   rw[Yj]
   conv=>whnf
   refine aB.bool ?_
   cases J8 p q (l++a)<;>rfl
end Go.Proofs.YtifbibbicplneaaDoor
