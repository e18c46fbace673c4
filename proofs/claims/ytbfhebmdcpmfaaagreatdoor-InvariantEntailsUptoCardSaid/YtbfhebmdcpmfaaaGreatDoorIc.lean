/-
 A part of the proof. No condition.
-/
import Derived.Test.YtbfhebmdcpmfaaaGreatDoorIb
namespace Go.Proofs.YtbfhebmdcpmfaaaGreatDoor
open Go.Ab Go.Proofs
set_option maxRecDepth 100000
theorem ah.row{l:List Clause}{f:Bool}{es:List (Int×List Bool)}{e:Elem}{h:Hz}{i j n:Nat}{K:V->Hz->Prop}{KW:Nat->V->Hz->Prop}(hsm:SmallK l)(ht:Ia l e)(hg:iR e.counts.length l es)(hi:h.get i=some (yw l f j))(hj:h.get j=some (xW es))(hij:i≠j)(hn:h.get n=none)(hin:n≠i)(hjn:n≠j)
  (hK: ∀ es',iR e.counts.length l es'->K (.row 0 false (.bools (fP l e))) ((j,some (xW es'))::h)):ah Tryz.prog false none 53 [.ptr i 0 0,.dat (.elem e)] h n K KW:=by
 refine ah.ZC (ts:=[.ptr 0 0 0,.dat (.elem e)]) (o0:=yw l f 1) (U5:=yw l f j) (o1:=xW es) (post:=fun t hp=> ∃ es',iR e.counts.length l es'/\t=(V.row 0 false (.bools (fP l e))).aG/\hp=Hz.aj (hT l f es')) (S.RQ l f es e hsm ht hg) ?_ rfl rfl rfl ?_ hi hj hij hn hin hjn ?_
 ·rfl
 ·rfl
 ·rintro t hp ⟨es',hg',rfl,rfl⟩
  exact⟨.row 0 false (.bools (fP l e)),xW es',rfl,rfl,rfl,rfl,hK es' hg'⟩
theorem RX{n:Nat}: ∀ {h:Hz},(h.all fun p=>Nat.blt p.1 n)=true-> ∀ m,n<=m->h.get m=none:=by
 intro h
 induction h with
 |nil=>intro _ m _; rfl
 |cons p r ih =>
  obtain⟨j,o⟩:=p
  intro q m hm
  simp only[List.all_cons,Bool.and_eq_true,Nat.blt_eq] at q
  simp only[Hz.get]
  have:Nat.beq j m=false:=by
   cases hb:Nat.beq j m with
   |false=>rfl
   |true=>have:=Nat.eq_of_beq_eq_true hb; omega
  rw[this]; exact ih q.2 m hm
theorem ah.BN{l:List Clause}{f:Bool}{h:Hz}{n:Nat}{K:V->Hz->Prop}{KW:Nat->V->Hz->Prop}(hsm:SmallK l)(hn:(h.all fun p=>Nat.blt p.1 n)=true)(hK:KW 1 (.ptr n 0 0) ((n,some (yw l f (n+1)))::(n+1,some (xW []))::h)):ah Tryz.prog false none 29 [.row 4 f (.clauses l)] h n K KW :=
 ah.new2 (_v:=.ptr 0 0 0) (S.jf l f hsm) rfl rfl (by rfl) ⟨⟨trivial,trivial,by show(1:Nat)<2; decide,trivial⟩,trivial⟩ (RX hn) hK
theorem ah.U6{P:Program}{dr:Bool}{f:FuncId}{args:List V}{h:Hz}{n:Nat}{K:V->Hz->Prop}{KW:Nat->V->Hz->Prop}(v:V)(hf:v.free=true)(hK:K v h):ah P dr (some false) f args h n K KW:=⟨.inl (.inl ⟨v,(fun e=>by cases e),hf,hK⟩)⟩
theorem ah.on{P:Program}{f:FuncId}{args:List V}{h:Hz}{n:Nat}{K:V->Hz->Prop}{KW':Nat->V->Hz->Prop}(H:ah P false none f args h n K fun _ _ _=>False):ah P false (some true) f args h n K KW':=by
 rcases H.ok with H|⟨_,_,k,⟨_,_,_,_,_,_,hk⟩,_⟩|⟨_,e,_⟩
 ·exact⟨.inl (.inr ⟨rfl,fun _=>aK.mono H fun t hp ⟨v,h',a,b,_,c⟩=>⟨v,h',a,b,c⟩,fun e=>by cases e⟩)⟩
 ·exact hk.elim
 ·cases e
theorem I9(n:Nat): ∃ r:Rw,(bif isZero (.int n) then some Rw.nil else Q7 (n:Int).toNat (T.bool false))=some r/\r.aT=(Rw.bools (List.replicate n false)).aT:=by
 cases n with
 |zero=>exact⟨.nil,rfl,rfl⟩
 |succ k=>exact⟨.bools (List.replicate (k+1) false),rfl,rfl⟩
theorem Ja:bg [rQ zE] [T.agg [.int 0,.sl 0 true []]]:=fun Z h=>by
 show T.dw Z h [.agg [.int 0,.sl 0 false []]] [.agg [.int 0,.sl 0 true []]]
 simp[T.sub,T.dw]
theorem au.zeroE{k:Int}{h:Hz}:au (.gQ [.int k,.dat (.elem zE)]) (.gQ [.int k,.agg [.int 0,.row 0 true .nil]]) h:=⟨by
 show T.sub _ _ (.gQ [.int k,.agg [.int 0,.sl 0 false []]]) (.gQ [.int k,.agg [.int 0,.sl 0 true []]])
 simp[T.sub,T.dw]⟩
theorem Gf{l:List Clause}{x:Elem}:DC (fP l x)=bif decide (eX l x<l.length) then((eX l x:Nat):Int) else -1:=by
 rw[DC,Ru,qM]
theorem step_cond{F n s:Nat}{t:Bool}{f:Int}(hf:f=bif decide (F<n) then(F:Int) else -1):(decide (0<=f)&&(decide (f<(s:Int))||(f==(s:Int)&&t)))=(decide (F<n)&&(decide (F<s)||F==s&&t)):=by
 subst hf
 cases h:decide (F<n) with
 |false=>rfl
 |true =>
  simp only[cond_true]
  rw[show decide (0<=(F:Int))=true from decide_eq_true (by omega),show decide ((F:Int)<s)=decide (F<s) from decide_eq_decide.2 ⟨fun h=>by omega,fun h=>by omega⟩]
  rw[show((F:Int)==(s:Int))=(F==s) from by
   rw[Bool.eq_iff_iff,beq_iff_eq,beq_iff_eq]; exact⟨fun h=>by omega,fun h=>by omega⟩]
theorem RY{fire:Elem->Option Elem}{l a:List Clause}{s:Nat×Elem}{e:Elem}{n:Nat}(h:s.2.counts.length<=n)(he:e.counts.length<=n):(stepG fire l a s e).2.counts.length<=n:=by
 unfold stepG
 split
 ·exact h
 ·cases (eP l e&&eP a e&&(decide (eX l _<l.length)&&(decide (eX l _<s.1)||eX l _==s.1&&decide (mM e<mM s.2)))) with
  |false=>exact h
  |true=>exact he
theorem RZ{fire:Elem->Option Elem}{l a:List Clause}{n:Nat}: ∀ {es:List Elem} {s:Nat×Elem},s.2.counts.length<=n->(∀ e∈es,e.counts.length<=n)->(es.foldl (stepG fire l a) s).2.counts.length<=n:=by
 intro es
 induction es with
 |nil=>intro s h _; exact h
 |cons e es ih=>intro s h he; exact ih (RY h (he e (by simp))) fun x hx=>he x (List.mem_cons_of_mem _ hx)
set_option maxHeartbeats 2000000 in
theorem S.gJ(p:aW)(r:Rule)(l a:List Clause)(n vals:Nat)(f g:Bool)(hp:dD p)(hr:uT r)(hn:p.states.length=n)(hn0:0<n)(zH:n<=6)(hvs:max 1 p.values.length=vals)(mY:vals<=3)(hF:YP n p r)(hl:ig n p.values.length l)(ha:ig n p.values.length a)(hs:l.length+a.length<=1000)(rk:Nat)(hrk:bJ (l++a)=rk) :
  ak Tryz.prog 44 [.dat (.dJ p),.dat (.rule r),.row 4 f (.clauses l),.row 4 g (.clauses a)] (.gQ [.int (orM l.length (IZ (dH r) l a (fH (rk+3) n vals)).1),.dat (.elem (bif (IZ (dH r) l a (fH (rk+3) n vals)).1==l.length then zE else(IZ (dH r) l a (fH (rk+3) n vals)).2))]):=by
 have hla:=hl.app ha hs
 have hsm:=hla.small zH (by omega)
 have XA:bJ (l++a)<=3:=qh fun k hk=>(hla.cl k hk).two
 have hsl:=hl.len; have hsa:=ha.len
 have hlen:(l++a).length=l.length+a.length:=List.length_append
 have hU:ak Tryz.prog 52 [.dat (.dJ p),.int (bJ (l++a)+2)] (.row 3 false (.elems (fH (rk+3) n vals))):=by
  have:=S.dY p n vals (rk+2) hp hn hn0 zH hvs mY (by omega)
  rw[hrk]; exact this
 have LU:(fH (rk+3) n vals).length<=3*531441:=by
  rw[oN]
  have:=oU (b:=rk+3) (n:=n) (by omega) zH
  exact Nat.mul_le_mul mY (by omega)
 have hok:=y8 (b:=rk+3) (n:=n) (vals:=vals) (by omega)
 have OH:rk+3<=9:=by omega
 generalize fH (rk+3) n vals=es at hU LU hok ⊢
 have hblt:Nat.blt (Dz r.kind) 4096=true:=by
  rcases hF.kind with h|h|h<;>rw[Dz,h]<;>rfl
 have hst: ∀ i,(((es.take i).foldl (stepG (dH r) l a) (l.length,zE)).1)<=l.length:=fun i=>LC (fire:=dH r) (l:=l) (a:=a) (es:=es.take i)
 have hnx: ∀ {i:Nat},i<es.length->(es.take (i+1)).foldl (stepG (dH r) l a) (l.length,zE)=stepG (dH r) l a ((es.take i).foldl (stepG (dH r) l a) (l.length,zE)) (es.getD i default):=fun hi=>FZ hi
 have hend:IZ (dH r) l a es=(es.take es.length).foldl (stepG (dH r) l a) (l.length,zE):=by rw[List.take_length]; rfl
 rw[hend]
 refine ak.of Bd.gJ (by simp) rfl rfl ?_
 conv=>whnf
 refine ah.pure (S.gW l a f g (by omega) (by omega)) rfl ?_
 conv=>whnf
 conv=>whnf
 refine ah.BN hsm rfl ?_
 conv=>whnf
 obtain⟨rb,hrb,hrL⟩:=I9 (l++a).length
 rw[hrb]
 conv=>whnf
 refine .mk (by omega) ?_
 conv=>whnf
 refine ah.pure (S.kD r.kind) rfl ?_
 conv=>whnf
 refine .mk (by simp only[okI] at *; omega) ?_
 conv=>whnf
 conv=>whnf
 refine ah.pure (hU) rfl ?_
 conv=>whnf
 refine aP.Eo (ι:=Nat×List (Int×List Bool)) 100 [2,5,9,10,11,12,14,41,42] (fun x=>[(43,.int x.1),(13,.int (((es.take x.1).foldl (stepG (dH r) l a) (l.length,zE)).1:Nat))]) (fun x=>[(1,.box 88 19 (.dat (.rule r))),(3,.box 55 3 (.agg [.int 0,.row 0 true .nil])),(7,yw (l++a) false 8),(8,xW x.2),(15,rowB (List.replicate (l++a).length false)),(24,.box 55 3 (.dat (.elem ((es.take x.1).foldl (stepG (dH r) l a) (l.length,zE)).2)))]) (fun x=>x.1<=es.length/\iR n (l++a) x.2) (fun x=>es.length-x.1) (0,[]) [1,3,7,8,15,24] rfl (by decide) (fun _=>rfl) ⟨Nat.zero_le _,iR.nil⟩ ?_ ?_ ?_
 ·exact⟨⟨_,rfl,.eq rfl⟩,⟨_,rfl,.eq rfl⟩,trivial⟩
 ·refine⟨okF rfl nofun rfl rfl rfl ⟨rfl,rfl⟩ rfl,okF rfl nofun rfl rfl rfl ⟨rfl,rfl⟩ rfl,⟨rfl,nofun,rfl,rfl,_,rfl,rfl,rfl,bg.of_eq rfl⟩,okF rfl nofun rfl rfl rfl ⟨rfl,rfl⟩ rfl,okF rfl nofun rfl rfl rfl ⟨rfl,rfl⟩ ?_,?_,trivial⟩
  ·show(Rw.bools (List.replicate (l++a).length false)).aT++[]=rb.aT++[]
   rw[hrL]
  ·exact⟨rfl,nofun,rfl,rfl,_,rfl,rfl,rfl,Ja⟩
 conv=>whnf
 refine⟨⟨⟨_,rfl,.eq rfl⟩,⟨_,rfl,.eq rfl⟩,⟨_,rfl,.eq rfl⟩,⟨_,rfl,.eq rfl⟩,⟨_,rfl,.eq rfl⟩,⟨_,rfl,.eq rfl⟩,⟨_,rfl,.eq rfl⟩,⟨_,rfl,.eq rfl⟩,⟨_,rfl,.eq rfl⟩,trivial⟩,rfl,?_⟩
 rintro⟨i,em⟩ ⟨hi,hem⟩
 conv=>whnf
 refine⟨fun h3=>?_,fun h3=>?_⟩
 ·have hi':i<es.length:=by simpa using h3
  have hue:=hok _ (getM (d:=default) hi')
  have hnext:=hnx hi'
  have acW:=hst i
  conv=>whnf
  refine .mk (by simp only[Rw.rng] at *; omega) ?_
  conv=>whnf
  rw[hblt]
  obtain⟨x,hS,hx⟩:=S.apply r (es.getD i default) hr (by rw[hue.len]; exact hF.place) (hue.Ag OH) (by rw[hue.len]; exact zH) hF.kind
  conv=>whnf
  refine ah.pure hS rfl ?_
  cases hO:dH r (es.getD i default) with
  |none =>
   have hsg:(es.take (i+1)).foldl (stepG (dH r) l a) (l.length,zE)=(es.take i).foldl (stepG (dH r) l a) (l.length,zE):=by rw[hnext,stepG,hO]
   conv=>whnf
   refine .mk (by exact fun h=>⟨h,h⟩) ?_
   conv=>whnf
   refine ah.U6 (.row 0 false (.bools [])) rfl ?_
   conv=>whnf
   refine .mk (by exact fun h=>⟨h,h⟩) ?_
   conv=>whnf
   refine ah.U6 (.bool true) rfl ?_
   conv=>whnf
   repeat(refine VC.mk (by first|exact id|(intro h; rw[h]; rfl)) ?_; conv=>whnf)
   refine Fork.mk (fun _=>?_) (fun q=>absurd (q.symm.trans ((rfl:true=true))) Bool.false_ne_true)
   conv=>whnf
   refine .mk (by simp only[okI] at *; omega) ?_
   conv=>whnf
   refine⟨(i+1,em),[1,3,7,8,15,24],⟨by show i+1<=_; omega,hem⟩,by show es.length-(i+1)<es.length-i; omega,⟨⟨_,rfl,.eq rfl⟩,⟨_,rfl,.eq ?_⟩,trivial⟩,⟨⟨_,rfl,.eq rfl⟩,⟨_,rfl,.eq rfl⟩,⟨_,rfl,.eq rfl⟩,⟨_,rfl,.eq rfl⟩,⟨_,rfl,.eq rfl⟩,⟨_,rfl,.eq rfl⟩,⟨_,rfl,.eq rfl⟩,⟨_,rfl,.eq rfl⟩,⟨_,rfl,.eq rfl⟩,trivial⟩,okF rfl nofun rfl rfl rfl ⟨rfl,rfl⟩ rfl,okF rfl nofun rfl rfl rfl ⟨rfl,rfl⟩ rfl,⟨rfl,nofun,rfl,rfl,_,rfl,rfl,rfl,bg.of_eq rfl⟩,okF rfl nofun rfl rfl rfl ⟨rfl,rfl⟩ rfl,okF rfl nofun rfl rfl rfl ⟨rfl,rfl⟩ rfl,okF rfl nofun rfl rfl rfl ⟨rfl,rfl⟩ ?_,trivial⟩
   ·exact congrArg (fun s:Nat×Elem=>T.int ((s.1:Nat):Int)) hsg
   ·exact congrArg (fun s:Nat×Elem=>(OV.box 55 3 (.dat (.elem s.2))).aF.l) hsg
  |some y =>
   obtain rfl:=hx y hO
   have hxl:x.counts.length=n:=by rw[Rf hO,hue.len]
   have hxv:0<=x.value/\x.value<=1048576:=by
    rw[U3 hO,BL]
    have h1:=hue.val
    cases hw:decide (r.write>=0) with
    |false=>show 0<=(es.getD i default).value/\(es.getD i default).value<=1048576; omega
    |true =>
     rcases hF.wr with h2|h2
     ·obtain⟨w1,w2⟩:=rV h2
      show 0<=r.write/\r.write<=1048576; omega
     ·rw[h2] at hw; exact absurd hw (by decide)
   have hte:=hla.at hue OH mY hn0 zH
   have htx:=hla.tab hxl (Xz (hue.nn OH) (by rw[hue.len]; exact zH) hO) hn0 zH hxv
   have zI:(es.getD i default).counts.length=n:=hue.len
   conv=>whnf
   refine .mk (by exact fun h=>⟨h,h⟩) ?_
   conv=>whnf
   refine ah.on (ah.row hsm hte (show iR (es.getD i default).counts.length (l++a) em by rw[zI]; exact hem) rfl rfl (by decide) rfl (by decide) (by decide) (fun JR rX=>?_))
   replace rX:iR (es.getD i default).counts.length (l++a) JR:=rX
   rw[zI] at rX
   conv=>whnf
   refine .mk (by exact fun h=>⟨h,h⟩) ?_
   conv=>whnf
   refine ah.on (ah.lend (S.jT (fP (l++a) (es.getD i default)) (l++a).length false false (by rw[qM]; omega) (by rw[qM]; exact Nat.le_refl _)) ⟨aC _,LK trivial rfl,trivial⟩ rfl rfl ?_)
   rw[Qh,Rt]
   conv=>whnf
   repeat(refine VC.mk (by first|exact id|(intro h; rw[h]; rfl)) ?_; conv=>whnf)
   refine⟨fun h4=>?_,fun h4=>?_⟩
   ·have h4':(eP l (es.getD i default)&&eP a (es.getD i default))=false:=by
     have h5:(!(eP l (es.getD i default)&&eP a (es.getD i default)))=true:=h4
     simpa only[Bool.not_eq_true'] using h5
    have hsg:(es.take (i+1)).foldl (stepG (dH r) l a) (l.length,zE)=(es.take i).foldl (stepG (dH r) l a) (l.length,zE):=by rw[hnext,stepG,hO]; simp only; rw[h4']; rfl
    conv=>whnf
    refine .mk (by simp only[okI] at *; omega) ?_
    conv=>whnf
    refine⟨(i+1,JR),[1,3,7,8,15,24],⟨by show i+1<=_; omega,rX⟩,by show es.length-(i+1)<es.length-i; omega,⟨⟨_,rfl,.eq rfl⟩,⟨_,rfl,.eq ?_⟩,trivial⟩,⟨⟨_,rfl,.eq rfl⟩,⟨_,rfl,.eq rfl⟩,⟨_,rfl,.eq rfl⟩,⟨_,rfl,.eq rfl⟩,⟨_,rfl,.eq rfl⟩,⟨_,rfl,.eq rfl⟩,⟨_,rfl,.eq rfl⟩,⟨_,rfl,.eq rfl⟩,⟨_,rfl,.eq rfl⟩,trivial⟩,okF rfl nofun rfl rfl rfl ⟨rfl,rfl⟩ rfl,okF rfl nofun rfl rfl rfl ⟨rfl,rfl⟩ rfl,⟨rfl,nofun,rfl,rfl,_,rfl,rfl,rfl,bg.of_eq rfl⟩,okF rfl nofun rfl rfl rfl ⟨rfl,rfl⟩ rfl,okF rfl nofun rfl rfl rfl ⟨rfl,rfl⟩ rfl,okF rfl nofun rfl rfl rfl ⟨rfl,rfl⟩ ?_,trivial⟩
    ·exact congrArg (fun s:Nat×Elem=>T.int ((s.1:Nat):Int)) hsg
    ·exact congrArg (fun s:Nat×Elem=>(OV.box 55 3 (.dat (.elem s.2))).aF.l) hsg
   have h4':(eP l (es.getD i default)&&eP a (es.getD i default))=true:=by
    have h5:(!(eP l (es.getD i default)&&eP a (es.getD i default)))=false:=h4
    simpa only[Bool.not_eq_false'] using h5
   have hfi:=Gf (l:=l) (x:=x)
   have hlen2:((es.take i).foldl (stepG (dH r) l a) (l.length,zE)).2.counts.length<=6:=RZ (show(0:Nat)<=6 by decide) fun e he=>by rw[(hok e (List.mem_of_mem_take he)).len]; exact zH
   conv=>whnf
   refine ah.row hsm htx (show iR x.counts.length (l++a) JR by rw[hxl]; exact rX) rfl rfl (by decide) rfl (by decide) (by decide) (fun em2 U7=>?_)
   replace U7:iR x.counts.length (l++a) em2:=U7
   rw[hxl] at U7
   conv=>whnf
   refine .mk (by show 0<=(l.length:Int)/\(l.length:Int)<=(fP (l++a) x).length; rw[qM]; omega) ?_
   conv=>whnf
   refine ah.pure (S.F9 ((fP (l++a) x).take l.length) false (by rw[LD,qM]; omega)) rfl ?_
   conv=>whnf
   repeat(refine VC.mk (by first|exact id|exact fun h=>⟨h,h⟩) ?_; conv=>whnf)
   rw[LD]
   conv=>whnf
   refine ah.fJ (fun _=>S.iU (es.getD i default) (by rw[zI]; omega)) rfl ?_
   conv=>whnf
   refine VC.mk id ?_
   conv=>whnf
   refine ah.fJ (fun _=>S.iU ((es.take i).foldl (stepG (dH r) l a) (l.length,zE)).2 (by omega)) rfl ?_
   conv=>whnf
   repeat(refine VC.mk (by first|exact id|exact fun h=>⟨h,h⟩|(intro h; simp[h]; done)|(intro h; simp_all; done)) ?_; conv=>whnf)
   generalize hS:(es.take i).foldl (stepG (dH r) l a) (l.length,zE)=s at *
   have hsc:=step_cond (n:=l.length) (s:=s.1) (t:=decide (mM (es.getD i default)<mM s.2)) hfi
   have XB:stepG (dH r) l a s (es.getD i default)=bif decide (eX l x<l.length)&&(decide (eX l x<s.1)||eX l x==s.1&&decide (mM (es.getD i default)<mM s.2)) then(eX l x,es.getD i default) else s:=by
    rw[stepG,hO]; simp only; rw[h4',Bool.true_and]
   refine⟨fun h5=>?_,fun h5=>?_⟩
   ·have h5':(decide (eX l x<l.length)&&(decide (eX l x<s.1)||eX l x==s.1&&decide (mM (es.getD i default)<mM s.2)))=true:=hsc▸h5
    rw[h5'] at XB
    rw[XB] at hnext
    have hlt:decide (eX l x<l.length)=true:=(Bool.and_eq_true .. ▸h5').1
    rw[hlt] at hfi
    conv=>whnf
    refine .mk (by simp only[okI] at *; omega) ?_
    conv=>whnf
    refine⟨(i+1,em2),[1,3,7,8,15,24],⟨by show i+1<=_; omega,U7⟩,by show es.length-(i+1)<es.length-i; omega,⟨⟨_,rfl,.eq rfl⟩,⟨_,rfl,.eq ?_⟩,trivial⟩,⟨⟨_,rfl,.eq rfl⟩,⟨_,rfl,.eq rfl⟩,⟨_,rfl,.eq rfl⟩,⟨_,rfl,.eq rfl⟩,⟨_,rfl,.eq rfl⟩,⟨_,rfl,.eq rfl⟩,⟨_,rfl,.eq rfl⟩,⟨_,rfl,.eq rfl⟩,⟨_,rfl,.eq rfl⟩,trivial⟩,okF rfl nofun rfl rfl rfl ⟨rfl,rfl⟩ rfl,okF rfl nofun rfl rfl rfl ⟨rfl,rfl⟩ rfl,⟨rfl,nofun,rfl,rfl,_,rfl,rfl,rfl,bg.of_eq rfl⟩,okF rfl nofun rfl rfl rfl ⟨rfl,rfl⟩ rfl,okF rfl nofun rfl rfl rfl ⟨rfl,rfl⟩ rfl,okF rfl nofun rfl rfl rfl ⟨rfl,rfl⟩ ?_,trivial⟩
    ·show T.int (((es.take (i+1)).foldl (stepG (dH r) l a) (l.length,zE)).1:Nat)=T.int (DC (fP l x))
     rw[hnext,hfi]; rfl
    ·exact congrArg (fun s:Nat×Elem=>(OV.box 55 3 (.dat (.elem s.2))).aF.l) hnext
   ·have h5':(decide (eX l x<l.length)&&(decide (eX l x<s.1)||eX l x==s.1&&decide (mM (es.getD i default)<mM s.2)))=false:=hsc▸h5
    rw[h5'] at XB
    rw[XB] at hnext
    conv=>whnf
    refine .mk (by simp only[okI] at *; omega) ?_
    conv=>whnf
    refine⟨(i+1,em2),[1,3,7,8,15,24],⟨by show i+1<=_; omega,U7⟩,by show es.length-(i+1)<es.length-i; omega,⟨⟨_,rfl,.eq rfl⟩,⟨_,rfl,.eq ?_⟩,trivial⟩,⟨⟨_,rfl,.eq rfl⟩,⟨_,rfl,.eq rfl⟩,⟨_,rfl,.eq rfl⟩,⟨_,rfl,.eq rfl⟩,⟨_,rfl,.eq rfl⟩,⟨_,rfl,.eq rfl⟩,⟨_,rfl,.eq rfl⟩,⟨_,rfl,.eq rfl⟩,⟨_,rfl,.eq rfl⟩,trivial⟩,okF rfl nofun rfl rfl rfl ⟨rfl,rfl⟩ rfl,okF rfl nofun rfl rfl rfl ⟨rfl,rfl⟩ rfl,⟨rfl,nofun,rfl,rfl,_,rfl,rfl,rfl,bg.of_eq rfl⟩,okF rfl nofun rfl rfl rfl ⟨rfl,rfl⟩ rfl,okF rfl nofun rfl rfl rfl ⟨rfl,rfl⟩ rfl,okF rfl nofun rfl rfl rfl ⟨rfl,rfl⟩ ?_,trivial⟩
    ·exact congrArg (fun s:Nat×Elem=>T.int ((s.1:Nat):Int)) hnext
    ·exact congrArg (fun s:Nat×Elem=>(OV.box 55 3 (.dat (.elem s.2))).aF.l) hnext
 ·have hi':i=es.length:=by have:es.length<=i:=(by simpa using h3); omega
  subst hi'
  generalize (es.take es.length).foldl (stepG (dH r) l a) (l.length,zE)=s
  conv=>whnf
  refine⟨fun h4=>?_,fun h4=>?_⟩
  ·have h4':(s.1==l.length)=true:=by
    have h5:((s.1:Int)==(l.length:Int))=true:=h4
    rw[beq_iff_eq] at h5 ⊢; omega
   conv=>whnf
   rw[orM,h4']
   exact au.zeroE
  ·have h4':(s.1==l.length)=false:=by
    have h5:((s.1:Int)==(l.length:Int))=false:=h4
    rw[beq_eq_false_iff_ne] at h5 ⊢; omega
   conv=>whnf
   rw[orM,h4']
   exact au.eqv rfl
abbrev boxS(f:Bool)(st:List Int):OV:=.box 24 0 (.row 0 f (.ints st))
theorem OI{st:List Int}{e:Elem}:(!(oP st e))=(Xn e.counts st||e.value !=0):=by
 rw[oP,Bool.not_and,Bool.not_not,bne]
theorem iC.ofS{f:Bool}{st:List Int}{h0 h:Hz}{n:Nat}{v u:V}{post:T->Hp->Prop}(Z:Nat->Prop)(hz: ¬ Z 0)(h00:(h0.aj 0).isSome=true)(q0:h.get 0=some (boxS f st))(hu:u.free=true)(hv:T.sub Z h.aj u.aG v.aG)(hp:post u.aG (Hz.aj [(0,some (boxS f st))])):iC h0 n post v h:=by
 refine iC.NY (h2:=[(0,some (boxS f st))]) (u:=u) Z ⟨bn (Z:=Z) q0 hz,trivial⟩ ?_ hu hv hp
 intro i o ho
 have hG:=ku (show qU 1 [(0,some (boxS f st))]=true from rfl) i o.aF (aH ho)
 obtain rfl:i=0:=by have:=hG.1; omega
 exact⟨h00,T.ay (fun j hj=>by rw[show j=0 by omega]; exact h00) _ hG.2.1,hG.2.2⟩
theorem S.Ep(st:List Int)(f:Bool)(e:Elem)(hs:st.length<2^30)(he:e.counts.length<2^30):aK Tryz.prog 102 (V.aT [.dat (.elem e),.ptr 0 0 0]) (Hz.aj [(0,some (boxS f st))]) 1 (fun t hp=>t= .bool (!(oP st e))/\hp=Hz.aj [(0,some (boxS f st))]):=by
 refine oV.of (nx:=1) (h0:=[(0,some (boxS f st))]) Bd.lJ (by simp) ⟨_,_,rfl,rfl⟩ rfl rfl ?_
 rw[OI]
 conv=>whnf
 refine aP.same [1,2,7,8] (fun i:Nat=>[(9,.int i)]) (fun i=>i<=e.counts.length/\(List.range i).any (fun i=>decide (e.counts.getD i 0>0)&& !(Oh st i))=false) (fun i=>e.counts.length-i) 0 rfl (by decide) rfl (fun _=>rfl) ⟨by omega,by simp⟩ ⟨⟨_,rfl,rfl⟩,trivial⟩ ?_
 conv=>whnf
 refine⟨rfl,?_⟩
 rintro i ⟨hi,hall⟩
 conv=>whnf
 refine⟨fun h3=>?_,fun h3=>?_⟩
 ·have hi':i<e.counts.length:=by simpa using h3
  conv=>whnf
  repeat(refine VC.mk (by first|exact fun h=>⟨h,h⟩|(simp only[Rw.rng] at *; omega)) ?_; conv=>whnf)
  refine ah.fJ (fun _=>S.slices_Contains_int st i f (by omega)) rfl ?_
  conv=>whnf
  repeat(refine VC.mk id ?_; conv=>whnf)
  refine⟨fun h4=>?_,fun h4=>?_⟩
  ·conv=>whnf
   rw[show Xn e.counts st=true from List.any_eq_true.2 ⟨i,List.mem_range.2 hi',h4⟩]
   exact iC.ofS (u:=.bool true) (fun _=>False) (fun q=>q) rfl rfl rfl (aC _) ⟨rfl,rfl⟩
  ·conv=>whnf
   refine .mk (by simp only[okI] at *; omega) ?_
   conv=>whnf
   refine⟨i+1,⟨by omega,?_⟩,by omega,⟨⟨_,rfl,rfl⟩,trivial⟩,?_,rfl⟩
   ·rw[List.range_succ,List.any_append,hall]
    show(false||((decide (e.counts.getD i 0>0)&& !(Oh st i))||false))=false
    rw[show(decide (e.counts.getD i 0>0)&& !(Oh st i))=false from h4]; rfl
   ·repeat' (first|exact trivial|exact⟨_,rfl,rfl⟩|constructor)
 ·have hi':i=e.counts.length:=by have:e.counts.length<=i:=(by simpa using h3); omega
  subst hi'
  rw[show Xn e.counts st=false from hall]
  conv=>whnf
  exact iC.ofS (u:=.bool (e.value !=0)) (fun _=>False) (fun q=>q) rfl rfl rfl (aC _) ⟨rfl,rfl⟩
def EJ(st:List Int):List Elem->Nat->Int
 |[],_=> -1
 |x::r,i=>bif !(oP st x) then(i:Int) else EJ st r (i+1)
abbrev hD(f:Bool)(st:List Int)(es:List Elem):Hz:=[(0,some (boxS f st)),(1,some (nG es))]
theorem S.Si(st:List Int)(f:Bool)(es:List Elem)(hs:st.length<2^30)(hl:es.length<2^30)(he: ∀ e∈es,e.counts.length<2^30)(n:Nat):aK Tryz.prog 126 (V.aT [.own 1,.fn 102 [.ptr 0 0 0]]) (Hz.aj (hD f st es)) n (fun t hp=>t= .int (EJ st es 0)/\hp=Hz.aj (hD f st es)):=by
 refine oV.of (nx:=2) (h0:=hD f st es) Bd.dO (by simp) ⟨_,_,rfl,rfl⟩ rfl rfl ?_
 conv=>whnf
 refine aP.objs 2 [0,1,6,7] (fun i:Nat=>[(8,.int i)]) (fun _=>[(0,boxS f st),(1,nG es)]) (fun i=>i<=es.length/\EJ st es 0=EJ st (es.drop i) i) (fun i=>es.length-i) 0 [0,1] rfl (by decide) (fun _=>rfl) ⟨by omega,by simp⟩ ?_ ?_ ?_
 ·exact⟨⟨_,rfl,.eq rfl⟩,trivial⟩
 ·exact⟨⟨rfl,(fun _=>rfl),rfl,rfl,rfl,_,rfl,rfl,rfl,bg.of_eq rfl⟩,⟨rfl,(fun _=>rfl),rfl,rfl,rfl,_,rfl,rfl,rfl,bg.of_eq rfl⟩,trivial⟩
 conv=>whnf
 refine⟨⟨⟨_,rfl,.eq rfl⟩,⟨_,rfl,.eq rfl⟩,⟨_,rfl,.eq rfl⟩,⟨_,rfl,.eq rfl⟩,trivial⟩,rfl,?_⟩
 rintro i ⟨hi,hall⟩
 conv=>whnf
 refine⟨fun h3=>?_,fun h3=>?_⟩
 ·have hi':i<es.length:=by simpa using h3
  rw[bC default hi'] at hall
  simp only[EJ] at hall
  conv=>whnf
  repeat(refine VC.mk (by simp only[Rw.rng,Int.toNat_natCast]; omega) ?_; conv=>whnf)
  refine ah.F7 (i:=0) (ts:=[.dat (.elem (es.getD i default)),.ptr 0 0 0]) (S.Ep st f (es.getD i default) hs (he _ (getM hi'))) (by rfl) (by rfl) (by rfl) (by rfl) (by rfl) (by rfl) ?_
  rintro t hp ⟨rfl,rfl⟩
  refine .inl ⟨.bool _,boxS f st,rfl,rfl,rfl,?_⟩
  conv=>whnf
  refine⟨fun h4=>?_,fun h4=>?_⟩
  ·conv=>whnf
   rw[h4] at hall
   exact iC.same (nx:=2) rfl ⟨rfl,rfl,trivial⟩ rfl rfl ⟨by rw[hall]; rfl,rfl⟩
  ·conv=>whnf
   refine .mk (by simp only[okI] at *; omega) ?_
   conv=>whnf
   rw[h4] at hall
   exact⟨i+1,[0,1],⟨by omega,hall⟩,by omega,⟨⟨_,rfl,.eq rfl⟩,trivial⟩,⟨⟨_,rfl,.eq rfl⟩,⟨_,rfl,.eq rfl⟩,⟨_,rfl,.eq rfl⟩,⟨_,rfl,.eq rfl⟩,trivial⟩,⟨rfl,(fun _=>rfl),rfl,rfl,rfl,_,rfl,rfl,rfl,bg.of_eq rfl⟩,⟨rfl,(fun _=>rfl),rfl,rfl,rfl,_,rfl,rfl,rfl,bg.of_eq rfl⟩,trivial⟩
 ·conv=>whnf
  have hi':es.length<=i:=by simpa using h3
  rw[List.drop_eq_nil_of_le hi'] at hall
  exact iC.same (nx:=2) rfl ⟨rfl,rfl,trivial⟩ rfl rfl ⟨by rw[hall]; rfl,rfl⟩
def dW(st:List Int)(es:List Elem):List Elem:=es.filter (oP st)
theorem XC{st:List Int}: ∀ {es:List Elem} {i:Nat},EJ st es i= -1->dW st es=es:=by
 intro es
 induction es with
 |nil=>intro i _; rfl
 |cons x r ih =>
  intro i h
  simp only[EJ] at h
  cases hb:oP st x with
  |false=>rw[hb] at h; simp at h
  |true=>rw[hb] at h; simp only[dW,List.filter_cons,hb,if_true]; exact congrArg _ (ih h)
theorem U8{st:List Int}: ∀ {es:List Elem} {i:Nat},EJ st es i≠ -1-> ∃ k,EJ st es i=((i+k:Nat):Int)/\k<es.length/\dW st (es.take k)=es.take k/\oP st (es.getD k default)=false:=by
 intro es
 induction es with
 |nil=>intro i h; exact absurd rfl h
 |cons x r ih =>
  intro i h
  simp only[EJ] at h ⊢
  cases hb:oP st x with
  |false=>exact⟨0,by simp,by simp,rfl,by simpa using hb⟩
  |true =>
   rw[hb] at h
   obtain⟨k,h1,h2,h3,h4⟩:=ih h
   refine⟨k+1,by show EJ st r (i+1)=_; rw[h1]; omega,by simpa using h2,?_,by simpa using h4⟩
   simp only[dW,List.take_succ_cons,List.filter_cons,hb,if_true]; exact congrArg _ h3
theorem DF{st:List Int}{es:List Elem}{j:Nat}(hj:j<es.length):dW st (es.take (j+1))=bif oP st (es.getD j default) then dW st (es.take j)++[es.getD j default] else dW st (es.take j):=by
 have e:es[j]?.toList=[es.getD j default]:=by simp[hj]
 unfold dW
 rw[List.take_add_one,List.filter_append,e]
 cases hb:oP st (es.getD j default) with
 |true=>rw[List.filter_cons,hb]; rfl
 |false=>rw[List.filter_cons,hb]; simp
theorem Gg{st:List Int}{es:List Elem}{j:Nat}:(dW st (es.take j)).length<=j:=by
 have:=List.length_filter_le (oP st) (es.take j)
 rw[List.length_take] at this
 unfold dW; omega
def midD(st:List Int)(es:List Elem)(j:Nat):List Elem:=dW st (es.take j)++es.drop (dW st (es.take j)).length
theorem U9{st:List Int}{es:List Elem}{j:Nat}(hj:j<=es.length):(midD st es j).length=es.length:=by
 have:=Gg (st:=st) (es:=es) (j:=j)
 simp[midD]; omega
theorem Va{st:List Int}{es:List Elem}{j k:Nat}(hk:j<=k):(midD st es j).getD k default=es.getD k default:=by
 have:=Gg (st:=st) (es:=es) (j:=j)
 unfold midD
 rw[List.getD_eq_getElem?_getD,List.getElem?_append_right (by omega),List.getElem?_drop]
 rw[show(dW st (es.take j)).length+(k-(dW st (es.take j)).length)=k by omega]
 rw[<- List.getD_eq_getElem?_getD]
theorem Vb{st:List Int}{es:List Elem}{j:Nat}(hj:j<es.length)(hb:oP st (es.getD j default)=true):(midD st es j).set (dW st (es.take j)).length (es.getD j default)=midD st es (j+1):=by
 have h1:=Gg (st:=st) (es:=es) (j:=j)
 have h2:=DF (st:=st) hj
 rw[hb] at h2
 have h2':dW st (es.take (j+1))=dW st (es.take j)++[es.getD j default]:=h2
 unfold midD
 rw[h2',bC default (show(dW st (es.take j)).length<es.length by omega),RH rfl]
 simp
theorem ah.drop2{P:Program}{f:FuncId}{ts args:List V}{h:Hz}{i j n:Nat}{o0 o1:OV}{K:V->Hz->Prop}{KW:Nat->V->Hz->Prop}{post:T->Hp->Prop}(H:aK P f (V.aT ts) (Hz.aj [(0,some o0),(1,some o1)]) 2 post)
  (ha:T.bZ (fun a=>bif Nat.beq a 0 then i else j) (V.aT ts)=V.aT args) (hid:T.KQ 2 (V.aT ts)=true) (hg:qU 2 [(0,some o0),(1,some o1)]=true) (hf0:o0.JG=true) (hf:o1.JG=true)
  (hi:h.get i=some o0) (hj:h.get j=some o1) (hij:i≠j) (hn:h.get n=none) (hin:n≠i) (hjn:n≠j)
  (hK: ∀ t hp,post t hp-> ∃ v,hp=Hz.aj [(0,some o0)]/\t=v.aG/\v.free=true/\K v ((j,none)::h)):ah P false none f args h n K KW:=by
 have hG:=ku hg
 have hlt: ∀ a:Nat,a<2->(Hz.aj [(0,some o0),(1,some o1)] a).isSome=true:=fun a ha=>by
  rw[cu,rG]; by_cases e:a=0
  ·rw[if_pos e]; rfl
  ·rw[if_neg e,if_pos (by omega)]; rfl
 have hsome: ∀ a,(Hz.aj [(0,some o0),(1,some o1)] a).isSome=true->a=0\/a=1:=fun a ha=>by
  rw[cu,rG] at ha; split at ha
  ·left; assumption
  ·split at ha
   ·right; assumption
   ·cases ha
 let ρ:Nat->Nat:=fun a=>bif Nat.beq a 0 then i else j
 have Vd: ∀ a b,(Hz.aj [(0,some o0),(1,some o1)] a).isSome=true->(Hz.aj [(0,some o0),(1,some o1)] b).isSome=true->ρ a=ρ b->a=b:=by
  intro a b ha hb e
  rcases hsome a ha with rfl|rfl<;>rcases hsome b hb with rfl|rfl
  ·rfl
  ·exact absurd e hij
  ·exact absurd e.symm hij
  ·rfl
 have inj: ∀ a b,((Hz.aj [(0,some o0),(1,some o1)] a).isSome=true\/a=2)->((Hz.aj [(0,some o0),(1,some o1)] b).isSome=true\/b=2)->nameAt ρ 2 n a=nameAt ρ 2 n b->a=b:=by
  intro a b ha hb e
  rcases ha with ha|rfl
  ·rcases hb with hb|rfl
   ·rcases hsome a ha with rfl|rfl<;>rcases hsome b hb with rfl|rfl
    ·rfl
    ·exact absurd e hij
    ·exact absurd e.symm hij
    ·rfl
   ·rcases hsome a ha with rfl|rfl
    ·exact absurd e.symm hin
    ·exact absurd e.symm hjn
  ·rcases hb with hb|rfl
   ·rcases hsome b hb with rfl|rfl
    ·exact absurd e hin
    ·exact absurd e hjn
   ·rfl
 refine ah.heap (post:=fun t' h'=> ∃ t h1,post t h1/\t'=t.ren (nameAt ρ 2 n)/\h'=placed ρ 2 n (Hz.aj [(0,some o0),(1,some o1)]) h.aj h1) ?_ ?_
 ·rw[<- ha]
  refine aK.place H (T.ay hlt _ (rY hid)) (fun a ob hob=>?_) (by rw[cu,rG]; rfl) (fun a ob hob=>?_) Vd
  ·exact⟨T.ay hlt _ (hG a ob hob).2.1,(hG a ob hob).2.2⟩
  ·have hs:(Hz.aj [(0,some o0),(1,some o1)] a).isSome=true:=by rw[hob]; rfl
   rcases hsome a hs with rfl|rfl
   ·rw[cu,if_pos rfl] at hob; cases hob
    show h.aj i=_
    rw[aH hi,kF hf0]
   ·rw[cu,rG,if_neg (by decide),if_pos rfl] at hob; cases hob
    show h.aj j=_
    rw[aH hj,kF hf]
 ·rintro t' h' ⟨t,h1,hp,rfl,rfl⟩
  obtain⟨v,rfl,rfl,hvf,hk⟩:=hK t h1 hp
  refine⟨v,_,Es (V.lQ v hvf) _,?_,hk⟩
  funext a
  rw[cu]
  have at0:placed ρ 2 n (Hz.aj [(0,some o0),(1,some o1)]) h.aj (Hz.aj [(0,some o0)]) i=(Hz.aj [(0,some o0)] 0).map (Ob.ren (nameAt ρ 2 n)):=mP (h:=h.aj) (h1:=Hz.aj [(0,some o0)]) inj (i:=0) (.inl (hlt 0 (by decide)))
  have at1:placed ρ 2 n (Hz.aj [(0,some o0),(1,some o1)]) h.aj (Hz.aj [(0,some o0)]) j=(Hz.aj [(0,some o0)] 1).map (Ob.ren (nameAt ρ 2 n)):=mP (h:=h.aj) (h1:=Hz.aj [(0,some o0)]) inj (i:=1) (.inl (hlt 1 (by decide)))
  have at2:placed ρ 2 n (Hz.aj [(0,some o0),(1,some o1)]) h.aj (Hz.aj [(0,some o0)]) n=(Hz.aj [(0,some o0)] 2).map (Ob.ren (nameAt ρ 2 n)):=mP (h:=h.aj) (h1:=Hz.aj [(0,some o0)]) inj (i:=2) (.inr rfl)
  by_cases e1:a=j
  ·subst e1; rw[if_pos rfl,at1,rG,if_neg (by decide)]; rfl
  ·rw[if_neg e1]
   by_cases e0:a=i
   ·subst e0
    rw[at0,rG,if_pos rfl,aH hi,Option.map_some,kF hf0]
   ·by_cases e2:a=n
    ·subst e2; rw[at2,rG,if_neg (by decide)]; simp only[Hz.aj,hn]; rfl
    ·exact wW (by
      rintro⟨b,hb,e⟩
      rcases hb with hb|rfl
      ·rcases hsome b hb with rfl|rfl
       ·exact e0 e.symm
       ·exact e1 e.symm
      ·exact e2 e.symm)
theorem ZE{h:Hz}{j k:Nat}{Z:Nat->Prop}{l:List Elem}{x:List V}(hz:Z j)(q:h.get j=some (.row 55 3 (.elems l) x))(hk:k<=l.length):T.sub Z h.aj (V.row 3 false (.elems (l.take k))).aG (V.qw j 0 k).aG:=by
 show T.sub Z h.aj (.sl 3 false ((l.take k).map rQ)) (.qw j 0 k)
 simp only[T.sub]
 refine⟨trivial,hz,Aq _,by decide,55,l.map rQ++V.aT x,?_,by simp; omega,?_⟩
 ·rw[aH q]; rfl
 ·rw[List.drop_zero,List.take_append_of_le_length (by simp; omega),List.map_take]
set_option maxHeartbeats 1000000 in
theorem S.DeleteFunc(st:List Int)(f:Bool)(es:List Elem)(hs:st.length<2^30)(hl:es.length<2^30)(he: ∀ e∈es,e.counts.length<2^30)(n:Nat):aK Tryz.prog 101 (V.aT [.own 1,.fn 102 [.ptr 0 0 0]]) (Hz.aj (hD f st es)) n (fun t hp=>t=(V.row 3 false (.elems (dW st es))).aG/\hp=Hz.aj [(0,some (boxS f st))]):=by
 refine oV.of (nx:=2) (h0:=hD f st es) Bd.dM (by simp) ⟨_,_,rfl,rfl⟩ rfl rfl ?_
 conv=>whnf
 refine ah.heap (S.Si st f es hs hl he _) ?_
 rintro t hp ⟨rfl,rfl⟩
 refine⟨.int _,hD f st es,rfl,rfl,?_⟩
 conv=>whnf
 refine⟨fun h1=>?_,fun h1=>?_⟩
 ·have hno:=XC (st:=st) (es:=es) (i:=0) (by simpa using h1)
  conv=>whnf
  rw[hno]
  exact iC.ofS (u:=.row 3 false (.elems es)) (fun i=>i=1) (by decide) rfl rfl rfl (YQ rfl rfl) ⟨rfl,rfl⟩
 obtain⟨k,hk1,hk2,hk3,hk4⟩:=U8 (st:=st) (es:=es) (i:=0) (by
  have h2:(EJ st es 0== -1)=false:=h1
  exact beq_eq_false_iff_ne.1 h2)
 rw[Nat.zero_add] at hk1
 rw[hk1]
 have hkn:=DF (st:=st) hk2
 rw[hk4] at hkn
 have hkn':dW st (es.take (k+1))=es.take k:=hkn.trans hk3
 conv=>whnf
 refine .mk (by simp only[okI]; omega) ?_
 conv=>whnf
 have abf:midD st es (k+1)=es:=by
  unfold midD
  rw[hkn',List.length_take,Nat.min_eq_left (by omega),List.take_append_drop]
 refine aP.objs 2 [0,1] (fun j:Nat=>[(6,.int j),(5,.int (dW st (es.take j)).length)]) (fun j=>[(0,boxS f st),(1,nG (midD st es j))]) (fun j=>k+1<=j/\j<=es.length/\(dW st (es.take j)).length<j) (fun j=>es.length-j) (k+1) [0,1] rfl (by decide) (fun _=>rfl) ⟨Nat.le_refl _,by omega,by rw[hkn',List.length_take]; omega⟩ ?_ ?_ ?_
 ·refine⟨⟨_,rfl,.eq rfl⟩,⟨_,rfl,.eq ?_⟩,trivial⟩
  show T.int ((dW st (es.take (k+1))).length:Nat)=T.int (k:Nat)
  rw[hkn',List.length_take,Nat.min_eq_left (by omega)]
 ·refine⟨⟨rfl,(fun _=>rfl),rfl,rfl,rfl,_,rfl,rfl,rfl,bg.of_eq rfl⟩,⟨rfl,(fun _=>rfl),rfl,rfl,rfl,_,rfl,rfl,rfl,bg.of_eq ?_⟩,trivial⟩
  rw[abf]
 conv=>whnf
 refine⟨⟨⟨_,rfl,.eq rfl⟩,⟨_,rfl,.eq rfl⟩,trivial⟩,rfl,?_⟩
 rintro j ⟨hj0,hj,hsj⟩
 have hml:=U9 (st:=st) hj
 conv=>whnf
 refine⟨fun h3=>?_,fun h3=>?_⟩
 ·have hj':j<es.length:=by
   have h4:(j:Int)<((midD st es j).length:Int):=of_decide_eq_true h3
   omega
  have hge:=Va (st:=st) (es:=es) (j:=j) (k:=j) (Nat.le_refl _)
  have hst:=Vb (st:=st) hj'
  have hsn:=DF (st:=st) hj'
  conv=>whnf
  repeat(refine VC.mk (by simp only[Rw.rng,Int.toNat_natCast,hml]; omega) ?_; conv=>whnf)
  refine ah.F7 (i:=0) (ts:=[.dat (.elem ((midD st es j).getD j default)),.ptr 0 0 0]) (S.Ep st f ((midD st es j).getD j default) hs (by rw[hge]; exact he _ (getM hj'))) (by rfl) (by rfl) (by rfl) (by rfl) (by rfl) (by rfl) ?_
  rintro t hp ⟨rfl,rfl⟩
  refine .inl ⟨.bool _,boxS f st,rfl,rfl,rfl,?_⟩
  rw[hge]
  conv=>whnf
  refine⟨fun h4=>?_,fun h4=>?_⟩
  ·have h4':oP st (es.getD j default)=true:=by simpa using h4
   rw[h4'] at hsn
   have Sj:dW st (es.take (j+1))=dW st (es.take j)++[es.getD j default]:=hsn
   conv=>whnf
   repeat(refine VC.mk (by first|(simp only[Rw.rng,Int.toNat_natCast,hml]; omega)|(simp only[okI]; omega)) ?_; conv=>whnf)
   refine⟨j+1,[0,1],⟨by omega,by omega,by rw[Sj,List.length_append]; simp only[List.length_cons,List.length_nil]; omega⟩,by omega,⟨⟨_,rfl,.eq rfl⟩,⟨_,rfl,.eq ?_⟩,trivial⟩,⟨⟨_,rfl,.eq rfl⟩,⟨_,rfl,.eq rfl⟩,trivial⟩,⟨rfl,(fun _=>rfl),rfl,rfl,rfl,_,rfl,rfl,rfl,bg.of_eq rfl⟩,⟨rfl,(fun _=>rfl),rfl,rfl,rfl,_,rfl,rfl,rfl,bg.of_eq ?_⟩,trivial⟩
   ·show T.int ((dW st (es.take (j+1))).length:Nat)=T.int (((dW st (es.take j)).length:Int)+1)
    rw[Sj,List.length_append]; rfl
   ·show(nG (midD st es (j+1))).aF.l=(nG ((midD st es j).set (dW st (es.take j)).length ((midD st es j).getD j default))).aF.l
    rw[hge,hst h4']
  ·have h4':oP st (es.getD j default)=false:=by simpa using h4
   rw[h4'] at hsn
   have Sj:dW st (es.take (j+1))=dW st (es.take j):=hsn
   conv=>whnf
   refine .mk (by simp only[okI] at *; omega) ?_
   conv=>whnf
   refine⟨j+1,[0,1],⟨by omega,by omega,by rw[Sj]; omega⟩,by omega,⟨⟨_,rfl,.eq rfl⟩,⟨_,rfl,.eq ?_⟩,trivial⟩,⟨⟨_,rfl,.eq rfl⟩,⟨_,rfl,.eq rfl⟩,trivial⟩,⟨rfl,(fun _=>rfl),rfl,rfl,rfl,_,rfl,rfl,rfl,bg.of_eq rfl⟩,⟨rfl,(fun _=>rfl),rfl,rfl,rfl,_,rfl,rfl,rfl,bg.of_eq ?_⟩,trivial⟩
   ·rw[Sj]; rfl
   ·unfold midD; rw[Sj]
 ·have hj':j=es.length:=by
   have h4: ¬ (j:Int)<((midD st es j).length:Int):=of_decide_eq_false h3
   omega
  subst hj'
  have hall:dW st (es.take es.length)=dW st es:=by rw[List.take_length]
  have hle:(dW st (es.take es.length)).length<=es.length:=by omega
  conv=>whnf
  repeat(refine VC.mk (by first|(simp only[Rw.lT,hml]; omega)|(refine⟨?_,rfl⟩; show((dW st (es.take es.length)).length:Int).toNat<=(midD st es es.length).length; rw[hml,Int.toNat_natCast]; omega)|(show(0:Int)<=((dW st (es.take es.length)).length:Int)/\((dW st (es.take es.length)).length:Int)<=(((midD st es es.length).take ((dW st (es.take es.length)).length:Int).toNat).length:Int); rw[List.length_take,hml,Int.toNat_natCast]; omega)|(show _<=(midD st es es.length).length/\(midD st es es.length).length=(midD st es es.length).length; rw[hml]; simp only[Int.toNat_natCast]; omega)|(show(0:Int)<=_/\_<=(((midD st es es.length).take _).length:Int); rw[List.length_take,hml]; simp only[Int.toNat_natCast]; omega)) ?_; conv=>whnf)
  have htk:(midD st es es.length).take (dW st (es.take es.length)).length=dW st es:=by
   unfold midD; rw[List.take_left,hall]
  have aci:((midD st es es.length).take (dW st (es.take es.length)).length).take (dW st (es.take es.length)).length=dW st es:=by
   rw[List.take_take,Nat.min_self,htk]
  refine iC.ofS (u:=.row 3 false (.elems (dW st es))) (fun i=>i=1) (by decide) rfl rfl rfl ?_ ⟨rfl,rfl⟩
  rw[<- aci]
  exact ZE (k:=(dW st (es.take es.length)).length) rfl rfl (by rw[List.length_take,hml]; omega)
theorem ah.delete{st:List Int}{f:Bool}{es:List Elem}{h:Hz}{i j n:Nat}{K:V->Hz->Prop}{KW:Nat->V->Hz->Prop}(hs:st.length<2^30)(hl:es.length<2^30)(he: ∀ e∈es,e.counts.length<2^30)(hi:h.get i=some (boxS f st))(hj:h.get j=some (nG es))(hij:i≠j)(hn:h.get n=none)(hin:n≠i)(hjn:n≠j)(hK:K (.row 3 false (.elems (dW st es))) ((j,none)::h)):ah Tryz.prog false none 101 [.own j,.fn 102 [.ptr i 0 0]] h n K KW:=by
 refine ah.drop2 (ts:=[.own 1,.fn 102 [.ptr 0 0 0]]) (o0:=boxS f st) (o1:=nG es) (S.DeleteFunc st f es hs hl he 2) rfl rfl rfl rfl rfl hi hj hij hn hin hjn ?_
 rintro t hp ⟨rfl,rfl⟩
 exact⟨.row 3 false (.elems (dW st es)),rfl,rfl,rfl,hK⟩
theorem BO{p:aW}(h:yc p=0):Dq p/\rF p=true:=by
 unfold yc at h
 obtain⟨h1,h2⟩:=bz (fun _=>by decide) h
 rw[h2] at h1
 refine⟨Zq h2,?_⟩
 have hm:(jJ p).monadic=true:=by simpa using h1
 simp only[jJ,Bool.and_eq_true] at hm
 exact hm.1
theorem LV{p:aW}{q:Prop'}(h:Dx p q=0):qQ p q=0/\yc p=0/\q.kind=1:=by
 unfold Dx at h
 obtain⟨h1,h2⟩:=bz nz h
 have h3:=IG h2 (by decide)
 rw[Bool.or_eq_false_iff] at h3
 exact⟨by simpa using h1,by simpa using h3.1,by simpa using h3.2⟩
def Hy(l:List Clause):Nat:=(bJ l).toNat
theorem JU{l:List Clause}:bJ l=Hy l:=by have:=qL (l:=l); unfold Hy; omega
def lK(p:aW):Nat:=max 1 p.values.length
def DI(p:aW)(q:Prop')(l:List Clause):List Elem:=dW (yj p q) (fH (Hy l+3) p.states.length (lK p))
theorem S.jg(p:aW)(q:Prop')(m:Nat)(hp:dD p)(hq:uU q)(hv:qQ p q=0)(hF:Dq p)(hm:m<=8):ak Tryz.prog 70 [.dat (.dJ p),.dat (.prop q),.int m] (.row 3 false (.elems (dW (yj p q) (fH (m+1) p.states.length (lK p))))):=by
 have h1:=hF.pos; have h2:=hF.states; have h3:=hF.values
 have mY:lK p<=3:=by unfold lK; omega
 have hb0:0<m+1:=by omega
 have hok:=y8 (b:=m+1) (n:=p.states.length) (vals:=lK p) hb0
 have LU:(fH (m+1) p.states.length (lK p)).length<=3*531441:=by
  rw[oN]
  have:=oU (b:=m+1) (n:=p.states.length) (by omega) h2
  exact Nat.mul_le_mul mY (by omega)
 refine ak.of Bd.jg (by simp) rfl rfl ?_
 conv=>whnf
 refine ah.pure (S.kZ p q hp hq hv) rfl ?_
 conv=>whnf
 conv=>whnf
 refine ah.mkRow (r:=.elems (fH (m+1) p.states.length (lK p))) (S.RJ p p.states.length (lK p) m hp rfl h1 h2 rfl mY hm) ?_
 conv=>whnf
 refine ah.delete (f:=false) (st:=yj p q) (es:=fH (m+1) p.states.length (lK p)) (Rh hp hq) (by omega) (fun e he=>by rw[(hok e he).len]; omega) (by rfl) (by rfl) (by decide) (by rfl) (by decide) (by decide) ?_
 conv=>whnf
 exact au.eqv rfl
def EK(p:aW)(q:Prop')(l:List Clause):Int:=bif Dx p q !=0 then Dx p q else jZ p l
def Sl(p:aW)(q:Prop')(l:List Clause):V:=.gQ [.int (bif EK p q l !=0 then 0 else orM l.length (Ap l (DI p q l))),.int (EK p q l)]
set_option maxHeartbeats 1000000 in
theorem S.eY(p:aW)(q:Prop')(l:List Clause)(f:Bool)(hp:dD p)(hq:uU q)(hl:SmallK l):ak Tryz.prog 48 [.dat (.dJ p),.dat (.prop q),.row 4 f (.clauses l)] (Sl p q l):=by
 refine ak.of Bd.eY (by simp) rfl rfl ?_
 conv=>whnf
 refine ah.pure (S.lg p q hp hq) rfl ?_
 conv=>whnf
 refine⟨fun h1=>?_,fun h1=>?_⟩
 ·have he:EK p q l=Dx p q:=by rw[EK,show(Dx p q !=0)=true from h1]; rfl
  conv=>whnf
  exact au.eqv (by rw[Sl,he,show(Dx p q !=0)=true from h1]; rfl)
 have he:EK p q l=jZ p l:=by rw[EK,show(Dx p q !=0)=false from h1]; rfl
 conv=>whnf
 refine ah.lend (S.vg p l false f hp hl) ⟨aC _,LW trivial rfl rfl,trivial⟩ rfl rfl ?_
 conv=>whnf
 refine⟨fun h2=>?_,fun h2=>?_⟩
 ·conv=>whnf
  exact au.eqv (by rw[Sl,he,show(jZ p l !=0)=true from h2]; rfl)
 obtain⟨hv,hin,_⟩:=LV (xI h1)
 obtain⟨hF,_⟩:=BO hin
 obtain⟨hR,YS⟩:=Ar (xI h2)
 have g1:=hF.pos; have g2:=hF.states; have g3:=hF.values
 have hrk:=JU (l:=l)
 have XA:bJ l<=3:=qh fun k hk=>(hR.cl k hk).two
 have hU:ak Tryz.prog 70 [.dat (.dJ p),.dat (.prop q),.int (bJ l+2)] (.row 3 false (.elems (DI p q l))):=by
  have:=S.jg p q (Hy l+2) hp hq hv hF (by omega)
  rw[hrk]; exact this
 have hok: ∀ e∈DI p q l,En (Hy l+3) p.states.length (lK p) e:=fun e he=>y8 (by omega) e (List.mem_filter.1 he).1
 have mY:lK p<=3:=by unfold lK; omega
 have OH:Hy l+3<=9:=by omega
 have LU:(DI p q l).length<=3*531441:=by
  refine Nat.le_trans (List.length_filter_le _ _) ?_
  rw[oN]
  have:=oU (b:=Hy l+3) (n:=p.states.length) OH g2
  exact Nat.mul_le_mul mY (by omega)
 have hV:Sl p q l= .gQ [.int (orM l.length (Ap l (DI p q l))),.int 0]:=by
  rw[Sl,he,show(jZ p l !=0)=false from h2,xI h2]; rfl
 rw[hV]
 generalize DI p q l=es at hU hok LU ⊢
 rw[<- UJ]
 conv=>whnf
 refine ah.BN hl rfl ?_
 conv=>whnf
 refine .mk (by simp only[okI]; omega) ?_
 conv=>whnf
 refine ah.pure (hU) rfl ?_
 conv=>whnf
 refine aP.Eo (ι:=Nat×List (Int×List Bool)) 100 [2,10,39,40] (fun x=>[(41,.int x.1),(11,.int (Am l (es.take x.1):Nat))]) (fun x=>[(18,yw l f 19),(19,xW x.2)]) (fun x=>x.1<=es.length/\iR p.states.length l x.2) (fun x=>es.length-x.1) (0,[]) [18,19] rfl (by decide) (fun _=>rfl) ⟨Nat.zero_le _,iR.nil⟩ ?_ ?_ ?_
 ·exact⟨⟨_,rfl,.eq rfl⟩,⟨_,rfl,.eq rfl⟩,trivial⟩
 ·exact⟨⟨rfl,nofun,rfl,rfl,_,rfl,rfl,rfl,bg.of_eq rfl⟩,okF rfl nofun rfl rfl rfl ⟨rfl,rfl⟩ rfl,trivial⟩
 conv=>whnf
 refine⟨⟨⟨_,rfl,.eq rfl⟩,⟨_,rfl,.eq rfl⟩,⟨_,rfl,.eq rfl⟩,⟨_,rfl,.eq rfl⟩,trivial⟩,rfl,?_⟩
 rintro⟨i,em⟩ ⟨hi,hem⟩
 conv=>whnf
 refine⟨fun h3=>?_,fun h3=>?_⟩
 ·have hi':i<es.length:=by simpa using h3
  have hue:=hok _ (getM (d:=default) hi')
  have hte:=hR.at hue OH mY g1 g2
  have zI:(es.getD i default).counts.length=p.states.length:=hue.len
  have hnx:=Ro (l:=l) hi'
  have hfi:=Gf (l:=l) (x:=es.getD i default)
  have hle:Am l (es.take i)<=l.length:=by rw[UJ]; exact UK
  have hk1:=hl.len
  conv=>whnf
  refine .mk (by simp only[Rw.rng] at *; omega) ?_
  conv=>whnf
  refine ah.row hl hte (show iR (es.getD i default).counts.length l em by rw[zI]; exact hem) rfl rfl (by decide) rfl (by decide) (by decide) (fun JR rX=>?_)
  replace rX:iR (es.getD i default).counts.length l JR:=rX
  rw[zI] at rX
  conv=>whnf
  refine ah.pure (S.F9 (fP l (es.getD i default)) false (by rw[qM]; omega)) rfl ?_
  conv=>whnf
  rw[hfi]
  cases hd:decide (eX l (es.getD i default)<l.length) with
  |true =>
   conv=>whnf
   refine Fork.mk (fun _=>?_) (fun q=>absurd (q.symm.trans (decide_eq_true (show(0:Int)<=((eX l (es.getD i default):Nat):Int) by omega))) Bool.false_ne_true)
   conv=>whnf
   refine .mk (by simp only[okI] at *; omega) ?_
   conv=>whnf
   conv=>whnf
   refine⟨(i+1,JR),[18,19],⟨by show i+1<=_; omega,rX⟩,by show es.length-(i+1)<es.length-i; omega,⟨⟨_,rfl,.eq rfl⟩,⟨_,rfl,.eq ?_⟩,trivial⟩,⟨⟨_,rfl,.eq rfl⟩,⟨_,rfl,.eq rfl⟩,⟨_,rfl,.eq rfl⟩,⟨_,rfl,.eq rfl⟩,trivial⟩,⟨rfl,nofun,rfl,rfl,_,rfl,rfl,rfl,bg.of_eq rfl⟩,okF rfl nofun rfl rfl rfl ⟨rfl,rfl⟩ rfl,trivial⟩
   show T.int (Am l (es.take (i+1)):Nat)=T.int (min (Am l (es.take i):Int) (eX l (es.getD i default):Nat))
   rw[hnx]; exact congrArg T.int (by omega)
  |false =>
   have hge:=of_decide_eq_false hd
   conv=>whnf
   refine Fork.mk (fun q=>absurd (q.symm.trans ((rfl:false=false))).symm Bool.false_ne_true) (fun _=>?_)
   conv=>whnf
   refine .mk (by simp only[okI] at *; omega) ?_
   conv=>whnf
   conv=>whnf
   refine⟨(i+1,JR),[18,19],⟨by show i+1<=_; omega,rX⟩,by show es.length-(i+1)<es.length-i; omega,⟨⟨_,rfl,.eq rfl⟩,⟨_,rfl,.eq ?_⟩,trivial⟩,⟨⟨_,rfl,.eq rfl⟩,⟨_,rfl,.eq rfl⟩,⟨_,rfl,.eq rfl⟩,⟨_,rfl,.eq rfl⟩,trivial⟩,⟨rfl,nofun,rfl,rfl,_,rfl,rfl,rfl,bg.of_eq rfl⟩,okF rfl nofun rfl rfl rfl ⟨rfl,rfl⟩ rfl,trivial⟩
   show T.int (Am l (es.take (i+1)):Nat)=T.int (Am l (es.take i):Nat)
   rw[hnx,Nat.min_eq_left (by omega)]
 ·have hi':i=es.length:=by have:es.length<=i:=(by simpa using h3); omega
  subst hi'
  rw[List.take_length]
  conv=>whnf
  refine⟨fun h4=>?_,fun h4=>?_⟩
  ·have h4':(Am l es==l.length)=true:=by
    have h5:((Am l es:Int)==(l.length:Int))=true:=h4
    rw[beq_iff_eq] at h5 ⊢; omega
   conv=>whnf
   rw[orM,h4']
   exact au.eqv rfl
  ·have h4':(Am l es==l.length)=false:=by
    have h5:((Am l es:Int)==(l.length:Int))=false:=h4
    rw[beq_eq_false_iff_ne] at h5 ⊢; omega
   conv=>whnf
   rw[orM,h4']
   exact au.eqv rfl
def EL(st c:List Int):Int:=(st.map fun x=>c.getD x.toNat 0).sum
def Au(q:Prop')(c:List Int):Bool:=q.bad.all fun k=>decide (k.least<=EL k.states c)
structure ZF(n:Nat)(q:Prop'):Prop where
 place: ∀ k∈q.bad,pW n k.states
 least: ∀ k∈q.bad,1<=k.least/\k.least<=3
 some: ∀ k∈q.bad,k.states≠[]
theorem Sm{st c:List Int}{i:Nat}(hi:i<st.length):EL (st.take (i+1)) c=EL (st.take i) c+c.getD (st.getD i 0).toNat 0:=by
 unfold EL
 rw[List.take_add_one,List.map_append,List.sum_append]; simp[hi]
theorem Ve{st c:List Int}(h:I8 8 c):0<=EL st c/\EL st c<=8*st.length:=by
 unfold EL
 induction st with
 |nil=>simp
 |cons x r ih =>
  have:=h.g (by omega) x.toNat
  simp only[List.map_cons,List.sum_cons,List.length_cons]; omega
theorem getD_mem{α:Type}{l:List α}{i:Nat}{d:α}(hi:i<l.length):l.getD i d∈l:=by
 rw[show l.getD i d=l[i] by simp[hi]]; exact List.getElem_mem hi
theorem S.nH(q:Prop')(e:Elem)(hq:uU q)(hb:ZF e.counts.length q)(hc:I8 8 e.counts)(_hl:e.counts.length<2^30):ak Tryz.prog 71 [.dat (.prop q),.dat (.elem e)] (.bool (Au q e.counts)):=by
 have q2:=hq.bad
 refine ak.of Bd.nH (by simp) rfl rfl ?_
 conv=>whnf
 refine aP.same [3,11,12] (fun i:Nat=>[(13,.int i)]) (fun i=>i<=q.bad.length/\(q.bad.take i).all (fun k=>decide (k.least<=EL k.states e.counts))=true) (fun i=>q.bad.length-i) 0 rfl (by decide) rfl (fun _=>rfl) ⟨by omega,by simp⟩ ⟨⟨_,rfl,rfl⟩,trivial⟩ ?_
 conv=>whnf
 refine⟨rfl,?_⟩
 rintro i ⟨hi,hall⟩
 conv=>whnf
 refine⟨fun h3=>?_,fun h3=>?_⟩
 ·have hi':i<q.bad.length:=by simpa using h3
  have hk:=getD_mem (d:=default) hi'
  have hpl:=hb.place _ hk
  have hsz:=hq.cnt i
  conv=>whnf
  refine .mk (by simp only[Rw.rng] at *; omega) ?_
  conv=>whnf
  refine aP.same [3,6,11,12,13,18,19] (fun j:Nat=>[(20,.int j),(7,.int (EL ((q.bad.getD i default).states.take j) e.counts))]) (fun j=>j<=(q.bad.getD i default).states.length) (fun j=>(q.bad.getD i default).states.length-j) 0 rfl (by decide) rfl (fun _=>rfl) (Nat.zero_le _) ⟨⟨_,rfl,rfl⟩,⟨_,rfl,rfl⟩,trivial⟩ ?_
  conv=>whnf
  refine⟨rfl,?_⟩
  rintro j hj
  have hs1:=Ve (st:=(q.bad.getD i default).states.take j) hc
  have hl1:((q.bad.getD i default).states.take j).length<=(q.bad.getD i default).states.length:=by rw[List.length_take]; omega
  conv=>whnf
  refine⟨fun h4=>?_,fun h4=>?_⟩
  ·have hj':j<(q.bad.getD i default).states.length:=by simpa using h4
   have hst:=Sm (c:=e.counts) hj'
   have hg:=hc.g (by omega) ((q.bad.getD i default).states.getD j 0).toNat
   obtain⟨p1,p2⟩:=hpl _ (getD_mem (d:=0) hj')
   conv=>whnf
   repeat(refine VC.mk (by first|(simp only[Rw.rng,Int.toNat_natCast]; omega)|(simp only[okI,Int.toNat_natCast] at *; omega)) ?_; conv=>whnf)
   refine⟨j+1,by omega,by omega,⟨⟨_,rfl,rfl⟩,⟨_,rfl,?_⟩,trivial⟩,?_,rfl⟩
   ·rw[hst]; rfl
   ·repeat' (first|exact trivial|exact⟨_,rfl,rfl⟩|constructor)
  ·have hj':(q.bad.getD i default).states.length<=j:=by simpa using h4
   rw[List.take_of_length_le hj']
   conv=>whnf
   refine⟨fun h5=>?_,fun h5=>?_⟩
   ·conv=>whnf
    refine au.bool ?_
    have: ¬ (q.bad.getD i default).least<=EL (q.bad.getD i default).states e.counts:=by
     simp only[Int.toNat_natCast] at h5
     have:=of_decide_eq_true h5; omega
    exact lV (p:=fun k=>decide (k.least<=EL k.states e.counts)) (d:=default) hi' (decide_eq_false this)
   ·conv=>whnf
    refine .mk (by simp only[okI] at *; omega) ?_
    conv=>whnf
    have:(q.bad.getD i default).least<=EL (q.bad.getD i default).states e.counts:=by
     simp only[Int.toNat_natCast] at h5
     have:=of_decide_eq_false h5; omega
    refine⟨i+1,⟨by omega,?_⟩,by omega,⟨⟨_,rfl,rfl⟩,trivial⟩,?_,rfl⟩
    ·rw[mO (d:=default) hi' hall]; exact decide_eq_true this
    ·repeat' (first|exact trivial|exact⟨_,rfl,rfl⟩|constructor)
 ·have hi':q.bad.length<=i:=by simpa using h3
  rw[List.take_of_length_le hi'] at hall
  conv=>whnf
  exact au.bool hall
theorem Vf{p:aW}{q:Prop'}(hp:qQ p q=0)(hk:q.kind=1):ZF p.states.length q:=by
 unfold qQ at hp
 obtain⟨_,hp⟩:=bz nz hp
 obtain⟨_,hp⟩:=bz (fun _=>by decide) hp
 obtain⟨_,hp⟩:=bz (fun _=>by decide) hp
 obtain⟨_,hp⟩:=bz (fun _=>by decide) hp
 obtain⟨_,hp⟩:=bz nz hp
 obtain⟨_,hp⟩:=bz (fun _=>by decide) hp
 rw[show(!(q.kind==1))=false by simp[hk]] at hp
 have hcn:=jc hp (y5 q.bad p.states.length) (by simp)
 have hall: ∀ k∈q.bad,UD p.states.length k=0:=fun k hk=>jc hcn _ (List.mem_map.2 ⟨k,hk,rfl⟩)
 have hlb: ∀ k∈q.bad,sW k=false:=fun k hk=>IG (jc (hall k hk) (dX (sW k) 1) (by simp)) (by decide)
 refine⟨fun k hk=>yZ (jc (hall k hk) (dR k.states p.states.length) (by simp)),fun k hk=>?_,fun k hk e=>?_⟩
 ·have:=hlb k hk
  simp only[sW,Bool.or_eq_false_iff,decide_eq_false_iff_not] at this; omega
 ·have:=hlb k hk
  rw[sW,e] at this; simp at this
def lgB(l:List Cnt):Int:=l.foldl (fun m k=>max m k.least) 0
theorem XD{l:List Cnt}: ∀ {r:Int},0<=r->l.foldl (fun m k=>max m k.least) r=max r (lgB l):=by
 have: ∀ (l:List Cnt) (r s:Int),l.foldl (fun m k=>max m k.least) (max r s)=max r (l.foldl (fun m k=>max m k.least) s):=by
  intro l
  induction l with
  |nil=>intro r s; rfl
  |cons x l ih=>intro r s; rw[List.foldl_cons,List.foldl_cons,Int.max_assoc,ih]
 intro r hr
 have:=this l r 0
 rw[Int.max_eq_left hr] at this; exact this
theorem ZG{l:List Cnt}(h: ∀ k∈l,1<=k.least/\k.least<=3):0<=lgB l/\lgB l<=3:=by
 have: ∀ (l:List Cnt) (r:Int),0<=r/\r<=3->(∀ k∈l,1<=k.least/\k.least<=3)->0<=l.foldl (fun m k=>max m k.least) r/\l.foldl (fun m k=>max m k.least) r<=3:=by
  intro l
  induction l with
  |nil=>intro r hr _; exact hr
  |cons x l ih=>intro r hr h; have:=h x (by simp); exact ih _ (show 0<=max r x.least/\max r x.least<=3 by omega) fun k hk=>h k (List.mem_cons_of_mem _ hk)
 exact this l 0 (by omega) h
theorem XE{l:List Cnt}{r:Int}{i:Nat}(hi:i<l.length):(l.take (i+1)).foldl (fun m k=>max m k.least) r=max ((l.take i).foldl (fun m k=>max m k.least) r) (l.getD i default).least:=by
 rw[List.take_add_one,List.foldl_append]; simp[hi]
def Uj(q:Prop')(l:List Clause):Nat:=(max (bJ l) (lgB q.bad)).toNat
theorem ZH{q:Prop'}{l:List Clause}:max (bJ l) (lgB q.bad)=Uj q l:=by have:=qL (l:=l); unfold Uj; omega
def Vg(p:aW)(q:Prop')(l:List Clause):Option Elem:=Xv (fun e=>Au q e.counts) l (fH (Uj q l+3) p.states.length (lK p))
def ZI(s:Option Elem):V:=.gQ [.dat (.elem (s.getD zE)),.bool s.isSome]
theorem Vh{bad:Elem->Bool}{l:List Clause}{es:List Elem}{x:Elem}(h:es.foldl (zG bad l) none=some x):x∈es:=UM h
set_option maxHeartbeats 2000000 in
theorem S.jh(p:aW)(q:Prop')(l:List Clause)(f:Bool)(hp:dD p)(hq:uU q)(hl:SmallK l)(hF:Dq p)(hB:ZF p.states.length q)(hR:ig p.states.length p.values.length l):ak Tryz.prog 49 [.dat (.dJ p),.dat (.prop q),.row 4 f (.clauses l)] (ZI (Vg p q l)):=by
 have g1:=hF.pos; have g2:=hF.states; have g3:=hF.values
 have q1:=hq.bad
 have hk1:=hl.len
 have mY:lK p<=3:=by unfold lK; omega
 have XA:bJ l<=3:=qh fun k hk=>(hR.cl k hk).two
 have acj:=qL (l:=l)
 have hlg:=ZG hB.least
 have hmd:=ZH (q:=q) (l:=l)
 have acX:Uj q l<=3:=by omega
 have OH:Uj q l+3<=9:=by omega
 have hU:ak Tryz.prog 52 [.dat (.dJ p),.int (max (bJ l) (lgB q.bad)+2)] (.row 3 false (.elems (fH (Uj q l+3) p.states.length (lK p)))):=by
  have:=S.dY p p.states.length (lK p) (Uj q l+2) hp rfl g1 g2 rfl mY (by omega)
  rw[hmd]; exact this
 have hok:=y8 (b:=Uj q l+3) (n:=p.states.length) (vals:=lK p) (by omega)
 have LU:(fH (Uj q l+3) p.states.length (lK p)).length<=3*531441:=by
  rw[oN]
  have:=oU (b:=Uj q l+3) (n:=p.states.length) OH g2
  exact Nat.mul_le_mul mY (by omega)
 have hend:Vg p q l=Xv (fun e=>Au q e.counts) l (fH (Uj q l+3) p.states.length (lK p)):=rfl
 rw[hend]
 generalize fH (Uj q l+3) p.states.length (lK p)=es at hU LU hok ⊢
 have hmem: ∀ i x,(es.take i).foldl (zG (fun e=>Au q e.counts) l) none=some x->x.counts.length=p.states.length:=fun i x h=>(hok x (List.mem_of_mem_take (Vh h))).len
 have abg:Xv (fun e=>Au q e.counts) l es=(es.take es.length).foldl (zG (fun e=>Au q e.counts) l) none:=by rw[List.take_length]; rfl
 rw[abg]
 refine ak.of Bd.jh (by simp) rfl (by rfl) ?_
 conv=>whnf
 refine ah.BN hl rfl ?_
 conv=>whnf
 obtain⟨rb,hrb,hrL⟩:=I9 l.length
 rw[hrb]
 conv=>whnf
 refine .mk (by omega) ?_
 conv=>whnf
 refine aP.Eo 50 [3,4,6,8,9,26,27] (fun i:Nat=>[(28,.int i),(10,.int ((q.bad.take i).foldl (fun m k=>max m k.least) (bJ l)))]) (fun _=>[(0,.box 27 11 (.dat (.dJ p))),(1,.box 52 7 (.dat (.prop q))),(2,.box 55 3 (.agg [.int 0,.row 0 true .nil])),(5,yw l f 6),(6,xW []),(10,rowB (List.replicate l.length false))]) (fun i=>i<=q.bad.length) (fun i=>q.bad.length-i) 0 [0,1,2,5,6,10] rfl (by decide) (fun _=>rfl) (Nat.zero_le _) ?_ ?_ ?_
 ·exact⟨⟨_,rfl,.eq rfl⟩,⟨_,rfl,.eq rfl⟩,trivial⟩
 ·refine⟨okF rfl nofun rfl rfl rfl ⟨rfl,rfl⟩ rfl,okF rfl nofun rfl rfl rfl ⟨rfl,rfl⟩ rfl,okF rfl nofun rfl rfl rfl ⟨rfl,rfl⟩ rfl,⟨rfl,nofun,rfl,rfl,_,rfl,rfl,rfl,bg.of_eq rfl⟩,okF rfl nofun rfl rfl rfl ⟨rfl,rfl⟩ rfl,okF rfl nofun rfl rfl rfl ⟨rfl,rfl⟩ ?_,trivial⟩
  show(Rw.bools (List.replicate l.length false)).aT++[]=rb.aT++[]
  rw[hrL]
 conv=>whnf
 refine⟨⟨⟨_,rfl,.eq rfl⟩,⟨_,rfl,.eq rfl⟩,⟨_,rfl,.eq rfl⟩,⟨_,rfl,.eq rfl⟩,⟨_,rfl,.eq rfl⟩,⟨_,rfl,.eq rfl⟩,⟨_,rfl,.eq rfl⟩,trivial⟩,rfl,?_⟩
 rintro i hi
 conv=>whnf
 refine⟨fun h3=>?_,fun h3=>?_⟩
 ·have hi':i<q.bad.length:=by simpa using h3
  have hlt:=XE (r:=bJ l) hi'
  conv=>whnf
  repeat(refine VC.mk (by simp only[okI,Rw.rng] at *; omega) ?_; conv=>whnf)
  refine⟨i+1,[0,1,2,5,6,10],by omega,by omega,⟨⟨_,rfl,.eq rfl⟩,⟨_,rfl,.eq ?_⟩,trivial⟩,⟨⟨_,rfl,.eq rfl⟩,⟨_,rfl,.eq rfl⟩,⟨_,rfl,.eq rfl⟩,⟨_,rfl,.eq rfl⟩,⟨_,rfl,.eq rfl⟩,⟨_,rfl,.eq rfl⟩,⟨_,rfl,.eq rfl⟩,trivial⟩,okF rfl nofun rfl rfl rfl ⟨rfl,rfl⟩ rfl,okF rfl nofun rfl rfl rfl ⟨rfl,rfl⟩ rfl,okF rfl nofun rfl rfl rfl ⟨rfl,rfl⟩ rfl,⟨rfl,nofun,rfl,rfl,_,rfl,rfl,rfl,bg.of_eq rfl⟩,okF rfl nofun rfl rfl rfl ⟨rfl,rfl⟩ rfl,okF rfl nofun rfl rfl rfl ⟨rfl,rfl⟩ rfl,trivial⟩
  rw[hlt]; rfl
 have hi':i=q.bad.length:=by have:q.bad.length<=i:=(by simpa using h3); omega
 subst hi'
 rw[show q.bad.take q.bad.length=q.bad from List.take_length,XD acj]
 conv=>whnf
 refine .mk (by simp only[okI]; omega) ?_
 conv=>whnf
 refine ah.pure (hU) rfl ?_
 conv=>whnf
 refine aP.Eo (ι:=Nat×List (Int×List Bool)) 100 [4,6,8,9,13,40,41] (fun x=>[(42,.int x.1)]) (fun x=>[(1,.box 52 7 (.dat (.prop q))),(2,.box 55 3 (.agg [.int 0,.row 0 true .nil])),(5,yw l f 6),(6,xW x.2),(10,rowB (List.replicate l.length false)),(51,.box 55 3 (.dat (.elem (((es.take x.1).foldl (zG (fun e=>Au q e.counts) l) none).getD zE))))]) (fun x=>x.1<=es.length/\iR p.states.length l x.2) (fun x=>es.length-x.1) (0,[]) [1,2,5,6,10,51] rfl (by decide) (fun _=>rfl) ⟨Nat.zero_le _,iR.nil⟩ ?_ ?_ ?_
 ·exact⟨⟨_,rfl,.eq rfl⟩,trivial⟩
 ·exact⟨okF rfl nofun rfl rfl rfl ⟨rfl,rfl⟩ rfl,okF rfl nofun rfl rfl rfl ⟨rfl,rfl⟩ rfl,⟨rfl,nofun,rfl,rfl,_,rfl,rfl,rfl,bg.of_eq rfl⟩,okF rfl nofun rfl rfl rfl ⟨rfl,rfl⟩ rfl,okF rfl nofun rfl rfl rfl ⟨rfl,rfl⟩ rfl,⟨rfl,nofun,rfl,rfl,_,rfl,rfl,rfl,Ja⟩,trivial⟩
 conv=>whnf
 refine⟨⟨⟨_,rfl,.eq rfl⟩,⟨_,rfl,.eq rfl⟩,⟨_,rfl,.eq rfl⟩,⟨_,rfl,.eq rfl⟩,⟨_,rfl,.eq rfl⟩,⟨_,rfl,.eq rfl⟩,⟨_,rfl,.eq rfl⟩,trivial⟩,rfl,?_⟩
 rintro⟨i,em⟩ ⟨hi,hem⟩
 have zQ:=hmem i
 conv=>whnf
 refine⟨fun h3=>?_,fun h3=>?_⟩
 ·have hi':i<es.length:=by simpa using h3
  have hue:=hok _ (getM (d:=default) hi')
  have hte:=hR.at hue OH mY g1 g2
  have zI:(es.getD i default).counts.length=p.states.length:=hue.len
  have hnx:(es.take (i+1)).foldl (zG (fun e=>Au q e.counts) l) none=zG (fun e=>Au q e.counts) l ((es.take i).foldl (zG (fun e=>Au q e.counts) l) none) (es.getD i default):=FZ hi'
  generalize (es.take i).foldl (zG (fun e=>Au q e.counts) l) none=s at *
  have hsl:(s.getD zE).counts.length<=6:=by
   cases s with
   |none=>exact show(0:Nat)<=6 by decide
   |some x=>have:=zQ x rfl; show x.counts.length<=6; omega
  have hsn:(((s.getD zE).counts.length:Int)==0)=s.isNone:=by
   cases s with
   |none=>rfl
   |some x =>
    have:=zQ x rfl
    show((x.counts.length:Int)==0)=false
    exact beq_eq_false_iff_ne.2 (by omega)
  conv=>whnf
  refine .mk (by simp only[Rw.rng] at *; omega) ?_
  conv=>whnf
  refine ah.pure (S.nH q (es.getD i default) hq (by rw[zI]; exact hB) (hue.nn OH) (by rw[zI]; omega)) rfl ?_
  conv=>whnf
  refine .mk (by exact fun h=>⟨h,h⟩) ?_
  conv=>whnf
  cases hD:Au q (es.getD i default).counts with
  |false =>
   have hsg:zG (fun e=>Au q e.counts) l s (es.getD i default)=s:=by rw[zG,hD]; rfl
   rw[hsg] at hnx
   refine ah.U6 (.row 0 false (.bools [])) rfl ?_
   conv=>whnf
   refine .mk (by exact fun h=>⟨h,h⟩) ?_
   conv=>whnf
   refine ah.U6 (.bool true) rfl ?_
   conv=>whnf
   repeat(refine VC.mk id ?_; conv=>whnf)
   refine ah.fJ (fun _=>S.iU (es.getD i default) (by rw[zI]; omega)) rfl ?_
   conv=>whnf
   refine VC.mk id ?_
   conv=>whnf
   refine ah.fJ (fun _=>S.iU (s.getD zE) (by omega)) rfl ?_
   conv=>whnf
   repeat(refine VC.mk (by first|exact id|exact fun h=>⟨h,h⟩|(intro h; simp_all; done)) ?_; conv=>whnf)
   refine Fork.mk (fun q=>absurd (q.symm.trans ((rfl:false=false))).symm Bool.false_ne_true) (fun _=>?_)
   conv=>whnf
   refine .mk (by simp only[okI] at *; omega) ?_
   conv=>whnf
   conv=>whnf
   refine⟨(i+1,em),[1,2,5,6,10,51],⟨by show i+1<=_; omega,hem⟩,by show es.length-(i+1)<es.length-i; omega,⟨⟨_,rfl,.eq rfl⟩,trivial⟩,⟨⟨_,rfl,.eq rfl⟩,⟨_,rfl,.eq rfl⟩,⟨_,rfl,.eq rfl⟩,⟨_,rfl,.eq rfl⟩,⟨_,rfl,.eq rfl⟩,⟨_,rfl,.eq rfl⟩,⟨_,rfl,.eq rfl⟩,trivial⟩,okF rfl nofun rfl rfl rfl ⟨rfl,rfl⟩ rfl,okF rfl nofun rfl rfl rfl ⟨rfl,rfl⟩ rfl,⟨rfl,nofun,rfl,rfl,_,rfl,rfl,rfl,bg.of_eq rfl⟩,okF rfl nofun rfl rfl rfl ⟨rfl,rfl⟩ rfl,okF rfl nofun rfl rfl rfl ⟨rfl,rfl⟩ rfl,okF rfl nofun rfl rfl rfl ⟨rfl,rfl⟩ ?_,trivial⟩
   exact congrArg (fun s:Option Elem=>(OV.box 55 3 (.dat (.elem (s.getD zE)))).aF.l) hnx
  |true =>
   have XB:zG (fun e=>Au q e.counts) l s (es.getD i default)=bif eP l (es.getD i default)&&(s.isNone||decide (mM (es.getD i default)<mM (s.getD zE))) then some (es.getD i default) else s:=by rw[zG,hD]; rfl
   refine ah.on (ah.row hl hte (show iR (es.getD i default).counts.length l em by rw[zI]; exact hem) rfl rfl (by decide) rfl (by decide) (by decide) (fun JR rX=>?_))
   replace rX:iR (es.getD i default).counts.length l JR:=rX
   rw[zI] at rX
   conv=>whnf
   refine .mk (by exact fun h=>⟨h,h⟩) ?_
   conv=>whnf
   refine ah.on (ah.lend (S.jT (fP l (es.getD i default)) l.length false false (by rw[qM]; omega) (by rw[qM]; exact Nat.le_refl _)) ⟨aC _,LK trivial rfl,trivial⟩ rfl rfl ?_)
   rw[Qh]
   conv=>whnf
   repeat(refine VC.mk id ?_; conv=>whnf)
   refine ah.fJ (fun _=>S.iU (es.getD i default) (by rw[zI]; omega)) rfl ?_
   conv=>whnf
   refine VC.mk id ?_
   conv=>whnf
   refine ah.fJ (fun _=>S.iU (s.getD zE) (by omega)) rfl ?_
   conv=>whnf
   repeat(refine VC.mk (by first|exact id|exact fun h=>⟨h,h⟩|(intro h; simp_all; done)) ?_; conv=>whnf)
   refine⟨fun h5=>?_,fun h5=>?_⟩
   ·have h5':(eP l (es.getD i default)&&(s.isNone||decide (mM (es.getD i default)<mM (s.getD zE))))=true:=by rw[<- hsn]; exact h5
    rw[h5'] at XB
    rw[XB] at hnx
    have hfin:=congrArg (fun s:Option Elem=>(OV.box 55 3 (.dat (.elem (s.getD zE)))).aF.l) hnx
    conv=>whnf
    refine .mk (by simp only[okI] at *; omega) ?_
    conv=>whnf
    refine⟨(i+1,JR),[1,2,5,6,10,51],⟨by show i+1<=_; omega,rX⟩,by show es.length-(i+1)<es.length-i; omega,⟨⟨_,rfl,.eq rfl⟩,trivial⟩,⟨⟨_,rfl,.eq rfl⟩,⟨_,rfl,.eq rfl⟩,⟨_,rfl,.eq rfl⟩,⟨_,rfl,.eq rfl⟩,⟨_,rfl,.eq rfl⟩,⟨_,rfl,.eq rfl⟩,⟨_,rfl,.eq rfl⟩,trivial⟩,okF rfl nofun rfl rfl rfl ⟨rfl,rfl⟩ rfl,okF rfl nofun rfl rfl rfl ⟨rfl,rfl⟩ rfl,⟨rfl,nofun,rfl,rfl,_,rfl,rfl,rfl,bg.of_eq rfl⟩,okF rfl nofun rfl rfl rfl ⟨rfl,rfl⟩ rfl,okF rfl nofun rfl rfl rfl ⟨rfl,rfl⟩ rfl,okF rfl nofun rfl rfl rfl ⟨rfl,rfl⟩ ?_,trivial⟩
    exact hfin
   ·have h5':(eP l (es.getD i default)&&(s.isNone||decide (mM (es.getD i default)<mM (s.getD zE))))=false:=by rw[<- hsn]; exact h5
    rw[h5'] at XB
    rw[XB] at hnx
    have hfin:=congrArg (fun s:Option Elem=>(OV.box 55 3 (.dat (.elem (s.getD zE)))).aF.l) hnx
    conv=>whnf
    refine .mk (by simp only[okI] at *; omega) ?_
    conv=>whnf
    refine⟨(i+1,JR),[1,2,5,6,10,51],⟨by show i+1<=_; omega,rX⟩,by show es.length-(i+1)<es.length-i; omega,⟨⟨_,rfl,.eq rfl⟩,trivial⟩,⟨⟨_,rfl,.eq rfl⟩,⟨_,rfl,.eq rfl⟩,⟨_,rfl,.eq rfl⟩,⟨_,rfl,.eq rfl⟩,⟨_,rfl,.eq rfl⟩,⟨_,rfl,.eq rfl⟩,⟨_,rfl,.eq rfl⟩,trivial⟩,okF rfl nofun rfl rfl rfl ⟨rfl,rfl⟩ rfl,okF rfl nofun rfl rfl rfl ⟨rfl,rfl⟩ rfl,⟨rfl,nofun,rfl,rfl,_,rfl,rfl,rfl,bg.of_eq rfl⟩,okF rfl nofun rfl rfl rfl ⟨rfl,rfl⟩ rfl,okF rfl nofun rfl rfl rfl ⟨rfl,rfl⟩ rfl,okF rfl nofun rfl rfl rfl ⟨rfl,rfl⟩ ?_,trivial⟩
    exact hfin
 ·have hi':i=es.length:=by have:es.length<=i:=(by simpa using h3); omega
  subst hi'
  generalize (es.take es.length).foldl (zG (fun e=>Au q e.counts) l) none=s at *
  conv=>whnf
  refine au.eqv ?_
  rw[ZI]
  cases s with
  |none=>rfl
  |some x =>
   have:=zQ x rfl
   show T.gQ [rQ x,.bool true]=T.gQ [rQ x,.bool (decide (0<(x.counts.length:Int)))]
   rw[decide_eq_true (by omega)]
def Eh(p:aW)(r:Rule)(l a:List Clause):Nat×Elem:=IZ (dH r) l a (fH (Hy (l++a)+3) p.states.length (lK p))
def XF(n:Nat)(s:Nat×Elem):List V:=[.int (orM n s.1),.dat (.elem (bif s.1==n then zE else s.2))]
theorem S.LX(p:aW)(l a:List Clause)(i:Nat)(f g:Bool)(hp:dD p)(hi:i<p.rules.length)(hin:yc p=0)(hl:ig p.states.length p.values.length l)(ha:ig p.states.length p.values.length a)(hs:l.length+a.length<=1000) :
  ak Tryz.prog 44 [.dat (.dJ p),.dat (.rule (p.rules.getD i default)),.row 4 f (.clauses l),.row 4 g (.clauses a)] (.gQ (XF l.length (Eh p (p.rules.getD i default) l a))):=by
 obtain⟨hF,hpl⟩:=BO hin
 have:=hF.values
 exact S.gJ p (p.rules.getD i default) l a p.states.length (lK p) f g hp (hp.rule i) rfl hF.pos hF.states rfl (by unfold lK; omega) (aa8 hF (Q9 hpl) hi) hl ha hs (Hy (l++a)) JU
def Fz(p:aW)(rule:Int)(l a:List Clause):Int:=bif yc p !=0 then yc p else bif decide (rule<0)||decide (rule>=p.rules.length) then 6 else zS p l a
def Oa(p:aW)(rule:Int)(l a:List Clause):V:=.gQ ((bif Fz p rule l a !=0 then [.int 0,.dat (.elem zE)] else XF l.length (Eh p (p.rules.getD rule.toNat default) l a))++[.int (Fz p rule l a)])
theorem au.zero3{k j:Int}{h:Hz}:au (.gQ [.int k,.dat (.elem zE),.int j]) (.gQ [.int k,.agg [.int 0,.row 0 true .nil],.int j]) h:=⟨by
 show T.sub _ _ (.gQ [.int k,.agg [.int 0,.sl 0 false []],.int j]) (.gQ [.int k,.agg [.int 0,.sl 0 true []],.int j])
 simp[T.sub,T.dw]⟩
theorem Gh{p:aW}{rule:Int}{l a:List Clause}{e:Int}(h:Fz p rule l a=e)(he:(e !=0)=true):Oa p rule l a= .gQ [.int 0,.dat (.elem zE),.int e]:=by
 rw[Oa,h,he]; rfl
theorem XG{p:aW}{l a:List Clause}(h:zS p l a=0):ig p.states.length p.values.length l/\ig p.states.length p.values.length a/\l.length<=160/\a.length<=160:=by
 unfold zS at h
 obtain⟨h1,h2⟩:=bz nz h
 obtain⟨a1,a2⟩:=Ar (by simpa using h1)
 obtain⟨b1,b2⟩:=Ar h2
 exact⟨a1,b1,a2,b2⟩
theorem S.gB(p:aW)(rule:Int)(l a:List Clause)(f g:Bool)(hp:dD p)(hl:SmallK l)(ha:SmallK a):ak Tryz.prog 24 [.dat (.dJ p),.int rule,.row 4 f (.clauses l),.row 4 g (.clauses a)] (Oa p rule l a):=by
 refine ak.of Bd.gB (by simp) rfl (by unfold Oa; cases Fz p rule l a !=0<;>rfl) ?_
 conv=>whnf
 refine ah.pure (S.eU p hp) rfl ?_
 conv=>whnf
 refine⟨fun h1=>?_,fun h1=>?_⟩
 ·have he:Fz p rule l a=yc p:=by rw[Fz,show(yc p !=0)=true from h1]; rfl
  conv=>whnf
  rw[Gh he h1]
  exact au.zero3
 have hk:=hp.rules
 conv=>whnf
 repeat(refine VC.mk (by first|exact id|exact fun h=>⟨h,h⟩|(intro h; rw[h]; rfl)) ?_; conv=>whnf)
 refine⟨fun h2=>?_,fun h2=>?_⟩
 ·have h2':(decide (rule<0)||decide (rule>=p.rules.length))=true:=h2
  have he:Fz p rule l a=6:=by rw[Fz,show(yc p !=0)=false from h1,h2']; rfl
  conv=>whnf
  rw[Gh he (by decide)]
  exact au.zero3
 have h2':(decide (rule<0)||decide (rule>=p.rules.length))=false:=h2
 have he:Fz p rule l a=zS p l a:=by rw[Fz,show(yc p !=0)=false from h1,h2']; rfl
 rw[Bool.or_eq_false_iff,decide_eq_false_iff_not,decide_eq_false_iff_not] at h2'
 obtain⟨r1,r2⟩:=h2'
 conv=>whnf
 refine ah.lend (S.H8 p l a false f g hp hl ha) ⟨aC _,LW trivial rfl rfl,trivial⟩ rfl rfl ?_
 conv=>whnf
 refine⟨fun h3=>?_,fun h3=>?_⟩
 ·conv=>whnf
  rw[Gh he h3]
  exact au.zero3
 obtain⟨k1,k2,k3,k4⟩:=XG (xI h3)
 have hV:Oa p rule l a= .gQ (XF l.length (Eh p (p.rules.getD rule.toNat default) l a)++[.int 0]):=by
  rw[Oa,he,xI h3]; rfl
 rw[hV]
 conv=>whnf
 refine .mk (by first|(simp only[Rw.rng]; omega)) ?_
 conv=>whnf
 refine ah.pure (S.LX p l a rule.toNat f g hp (by omega) (xI h1) k1 k2 (by omega)) rfl ?_
 conv=>whnf
 exact au.eqv rfl
def yA(p:aW)(l a:List Clause)(r:Rule):Bool:=(Eh p r l a).1==l.length
def LY(p:aW)(q:Prop')(l a:List Clause):Bool:=((jZ p a==0)&&decide (l.length+a.length<=160))&&(p.rules.all (yA p l a)&&(Vg p q (l++a)).isNone)
def Zh(p:aW)(q:Prop')(l a:List Clause):Bool:=((EK p q l==0)&&(Ap l (DI p q l)==l.length))&&LY p q l a
theorem YT{n m:Nat}(_h:m<=n):decide (orM n m>=0)= !(m==n):=by
 unfold orM
 cases he:m==n with
 |true=>rfl
 |false=>simp only[cond_false]; exact decide_eq_true (by omega)
theorem S.eF(p:aW)(q:Prop')(l a:List Clause)(f g:Bool)(hp:dD p)(hq:uU q)(hl:SmallK l)(ha:SmallK a):ak Tryz.prog 27 [.dat (.dJ p),.dat (.prop q),.row 4 f (.clauses l),.row 4 g (.clauses a)] (.bool (Zh p q l a)):=by
 have k1:=hl.len; have k2:=ha.len
 refine ak.of Bd.eF (by simp) rfl rfl ?_
 conv=>whnf
 refine ah.pure (S.eY p q l f hp hq hl) rfl ?_
 rw[Sl]
 cases he:EK p q l !=0 with
 |true =>
  have hcT:(EK p q l !=0||decide (0<=bif true then 0 else orM l.length (Ap l (DI p q l))))=true:=by rw[he]; rfl
  conv=>whnf
  repeat(refine VC.mk (by first|exact id|(intro h; rw[h]; rfl)) ?_; conv=>whnf)
  refine Fork.mk (fun _=>?_) (fun q=>absurd (q.symm.trans (hcT)) Bool.false_ne_true)
  conv=>whnf
  exact au.bool (by rw[Zh,show(EK p q l==0)=false from beq_eq_false_iff_ne.2 (IX he)]; rfl)
 |false =>
  have he0:EK p q l=0:=xI he
  have hor:=YT (n:=l.length) (m:=Ap l (DI p q l)) UK
  rw[he0]
  conv=>whnf
  repeat(refine VC.mk (by first|exact id|(intro h; rw[h]; rfl)) ?_; conv=>whnf)
  refine⟨fun h1=>?_,fun h1=>?_⟩
  ·have h1':decide (orM l.length (Ap l (DI p q l))>=0)=true:=h1
   conv=>whnf
   refine au.bool ?_
   rw[hor] at h1'
   have h2:(Ap l (DI p q l)==l.length)=false:=by simpa only[Bool.not_eq_true'] using h1'
   rw[Zh,h2,Bool.and_false]; rfl
  have h1':decide (orM l.length (Ap l (DI p q l))>=0)=false:=h1
  rw[hor] at h1'
  have h2:(Ap l (DI p q l)==l.length)=true:=by simpa only[Bool.not_eq_false'] using h1'
  have hcc:Zh p q l a=LY p q l a:=by rw[Zh,he0,h2]; rfl
  rw[hcc]
  conv=>whnf
  refine ah.lend (S.vg p a false g hp ha) ⟨aC _,LW trivial rfl rfl,trivial⟩ rfl rfl ?_
  conv=>whnf
  repeat(refine VC.mk (by first|exact id|(intro h; rw[h]; rfl)|(intro h; (repeat' apply And.intro)<;>first|exact h|omega|(simp only[Rw.lT]; omega)|(simp only[Rw.rng]; omega))) ?_; conv=>whnf)
  refine⟨fun h3=>?_,fun h3=>?_⟩
  ·have h3':(jZ p a !=0||decide ((l.length:Int)+a.length>160))=true:=h3
   conv=>whnf
   refine au.bool ?_
   have:((jZ p a==0)&&decide (l.length+a.length<=160))=false:=by
    rw[Bool.or_eq_true] at h3'
    rcases h3' with h|h
    ·rw[show(jZ p a==0)=false from beq_eq_false_iff_ne.2 (IX h)]; rfl
    ·have:=of_decide_eq_true h
     rw[decide_eq_false (show ¬ (l.length+a.length<=160) by omega),Bool.and_false]
   rw[LY,this]; rfl
  have h3':(jZ p a !=0||decide ((l.length:Int)+a.length>160))=false:=h3
  rw[Bool.or_eq_false_iff,decide_eq_false_iff_not] at h3'
  obtain⟨h4,h5⟩:=h3'
  have hlen:l.length+a.length<=160:=by omega
  have hrest:LY p q l a=(p.rules.all (yA p l a)&&(Vg p q (l++a)).isNone):=by
   rw[LY,xI h4,decide_eq_true hlen]; rfl
  rw[hrest]
  have hE:Dx p q=0/\jZ p l=0:=by
   unfold EK at he0
   obtain⟨u,v⟩:=bz nz he0
   exact⟨by simpa using u,v⟩
  obtain⟨hv,hin,hk⟩:=LV hE.1
  obtain⟨hF,_⟩:=BO hin
  obtain⟨hR,_⟩:=Ar hE.2
  obtain⟨hA,_⟩:=Ar (xI h4)
  have hla:=hR.app hA (by omega)
  have hru:=hp.rules
  conv=>whnf
  refine aP.same [2,3,4,5,44,45] (fun i:Nat=>[(46,.int i)]) (fun i=>i<=p.rules.length/\(p.rules.take i).all (yA p l a)=true) (fun i=>p.rules.length-i) 0 rfl (by decide) rfl (fun _=>rfl) ⟨by omega,by simp⟩ ⟨⟨_,rfl,rfl⟩,trivial⟩ ?_
  conv=>whnf
  refine⟨rfl,?_⟩
  rintro i ⟨hi,hall⟩
  conv=>whnf
  refine⟨fun h6=>?_,fun h6=>?_⟩
  ·have hi':i<p.rules.length:=by simpa using h6
   have hsl:(Eh p (p.rules.getD i default) l a).1<=l.length:=LC
   have hog:=YT hsl
   conv=>whnf
   refine .mk (by simp only[Rw.rng] at *; omega) ?_
   conv=>whnf
   refine ah.pure (S.LX p l a i f g hp hi' hin hR hA (by omega)) rfl ?_
   rw[XF]
   conv=>whnf
   refine⟨fun h7=>?_,fun h7=>?_⟩
   ·have Xb:decide (orM l.length (Eh p (p.rules.getD i default) l a).1>=0)=true:=h7
    conv=>whnf
    refine au.bool ?_
    rw[hog] at Xb
    have h8:yA p l a (p.rules.getD i default)=false:=by rw[yA]; simpa only[Bool.not_eq_true'] using Xb
    rw[lV (p:=yA p l a) (d:=default) hi' h8]; rfl
   ·have Xb:decide (orM l.length (Eh p (p.rules.getD i default) l a).1>=0)=false:=h7
    conv=>whnf
    refine .mk (by simp only[okI] at *; omega) ?_
    conv=>whnf
    rw[hog] at Xb
    have h8:yA p l a (p.rules.getD i default)=true:=by rw[yA]; simpa only[Bool.not_eq_false'] using Xb
    refine⟨i+1,⟨by omega,?_⟩,by omega,⟨⟨_,rfl,rfl⟩,trivial⟩,?_,rfl⟩
    ·rw[mO (d:=default) hi' hall]; exact h8
    ·repeat' (first|exact trivial|exact⟨_,rfl,rfl⟩|constructor)
  ·have hi':p.rules.length<=i:=by simpa using h6
   rw[List.take_of_length_le hi'] at hall
   rw[hall]
   conv=>whnf
   refine ah.pure (S.gW l a f g (by omega) (by omega)) rfl ?_
   conv=>whnf
   conv=>whnf
   refine ah.pure (S.jh p q (l++a) false hp hq (hla.small hF.states hF.values) hF (Vf hv hk) hla) rfl ?_
   rw[ZI]
   conv=>whnf
   refine au.bool ?_
   cases Vg p q (l++a)<;>rfl
end Go.Proofs.YtbfhebmdcpmfaaaGreatDoor
