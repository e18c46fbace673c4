/-
 The executable evaluator: definitions. It runs code on abstract values, calls within calls, with fuel; it answers nothing where it is not sure.
-/
import Derived.Test.YtkomllaebngbfaaGreatDoorLd
namespace Go.Ab
inductive Tr where
 |lf
 |nd (v:T) (l r:Tr)
 deriving Inhabited
def Tr.get:Tr->Nat->T
 | .lf,_=>T.un
 | .nd v l r,n=>bif Nat.beq n 0 then v else bif Nat.beq (Nat.mod n 2) 1 then l.get (Nat.div n 2) else r.get (Nat.div (Nat.sub n 1) 2)
def Tr.set:Tr->Nat->T->Tr
 | .lf,_,_=>.lf
 | .nd v l r,n,t=>bif Nat.beq n 0 then .nd t l r else bif Nat.beq (Nat.mod n 2) 1 then .nd v (l.set (Nat.div n 2) t) r else .nd v l (r.set (Nat.div (Nat.sub n 1) 2) t)
def Tr.map(f:T->T):Tr->Tr
 | .lf=>.lf
 | .nd v l r=>.nd (f v) (l.map f) (r.map f)
def Tr.full:Nat->Tr
 |0=>.lf
 |d+1=>.nd T.un (Tr.full d) (Tr.full d)
abbrev XH:=List (Nat×Ob)
def lk:XH->Nat->Option Ob
 |[],_=>none
 |(j,o)::r,i=>bif Nat.beq j i then some o else lk r i
def hset(i:Nat)(o:Ob):XH->XH
 |[]=>[(i,o)]
 |(j,p)::r=>bif Nat.beq j i then(i,o)::r else(j,p)::hset i o r
def hdel(i:Nat):XH->XH
 |[]=>[]
 |(j,p)::r=>bif Nat.beq j i then hdel i r else(j,p)::hdel i r
structure XS where
 fr:Tr
 n:Nat
 hp:XH
 nx:Nat
 pin:Nat
 deriving Inhabited
def XS.ev(s:XS):X->T
 | .t n=>s.fr.get n
 | .c v=>v
def XS.put(s:XS)(d:Option Nat)(t:T):Option XS :=
 match d with
 |some i=>bif Nat.blt i s.n then some {s with fr:=s.fr.set i t} else none
 |none=>some s
def XS.qw(s:XS)(d:Option Nat)(t:T)(h:XH):Option XS :=
 match d with
 |some i=>bif Nat.blt i s.n then some {s with fr:=s.fr.set i t,hp:=h} else none
 |none=>some {s with hp:=h}
def H6{α:Type}(n:Nat)(k:Nat->α):α :=
 match n with
 |0=>k 0
 |m+1=>k (Nat.succ m)
def JV{α:Type}(t:T)(k:T->α):α :=
 match t with
 | .lit (.int c (.ofNat n))=>H6 n fun n=>k (.lit (.int c (.ofNat n)))
 | .lit (.int c (.negSucc n))=>H6 n fun n=>k (.lit (.int c (.negSucc n)))
 | .lit (.bool true)=>k (.lit (.bool true))
 | .lit (.bool false)=>k (.lit (.bool false))
 | .lit v=>k (.lit v)
 | .agg l=>k (.agg l)
 | .sl a b l=>k (.sl a b l)
 | .ref a t=>k (.ref a t)
 | .own i=>H6 i fun i=>k (.own i)
 | .ptr i j o=>H6 j fun j=>k (.ptr i j o)
 | .lF i lo hi=>H6 lo fun lo=>H6 hi fun hi=>k (.lF i lo hi)
 | .fn f c=>k (.fn f c)
 | .iF l=>k (.iF l)
 | .any=>k .any
def WI:Int->Int->Bool
 | .ofNat a,.ofNat b=>Nat.blt a b
 | .negSucc _,.ofNat _=>true
 | .ofNat _,.negSucc _=>false
 | .negSucc a,.negSucc b=>Nat.blt b a
def YQ:Int->Int->Bool
 | .ofNat a,.ofNat b=>Nat.beq a b
 | .negSucc a,.negSucc b=>Nat.beq a b
 |_,_=>false
def xY(a b:Int):Bool:= !(WI b a)
def w64(n:Int):Int :=
 match n with
 | .ofNat m=>bif Nat.blt m 9223372036854775808 then .ofNat m else IntKind.i64.wrap (.ofNat m)
 | .negSucc m=>bif Nat.blt m 9223372036854775808 then .negSucc m else IntKind.i64.wrap (.negSucc m)
def zM(op:BinOp)(a b:Int):Option T :=
 match op with
 | .add=>some (.lit (.int .i64 (w64 (Int.add a b))))
 | .sub=>some (.lit (.int .i64 (w64 (Int.sub a b))))
 | .eql=>some (.lit (.bool (YQ a b)))
 | .neq=>some (.lit (.bool (!(YQ a b))))
 | .lss=>some (.lit (.bool (WI a b)))
 | .leq=>some (.lit (.bool (xY a b)))
 | .gtr=>some (.lit (.bool (WI b a)))
 | .geq=>some (.lit (.bool (xY b a)))
 |op=>(wM op (.int .i64 a) (.int .i64 b)).map T.lit
def XA(op:BinOp)(x y:T):Option T :=
 match x,y with
 | .lit (.int .i64 a),.lit (.int .i64 b)=>zM op a b
 | .lit u,.lit v=>(wM op u v).map T.lit
 |_,_=>none
def JW(n:Int)(l:Nat):Bool :=
 match n with
 | .ofNat m=>Nat.blt m l
 | .negSucc _=>false
def uQ{α:Type}(b:Bool)(a:α):Option α:=bif b then some a else none
def UF(k:Nat)(ob:Ob):Option T->Option T->Option T->Bool
 |some (.lit (.int _ a)),none,none=>Nat.beq ob.k k&&xY 0 a&&xY a ob.l.length
 |none,some (.lit (.int _ b)),none=>Nat.beq ob.k k&&xY 0 b&&xY b ob.l.length
 |some (.lit (.int _ a)),some (.lit (.int _ b)),none=>Nat.beq ob.k k&&xY 0 a&&xY a b&&xY b ob.l.length
 |_,_,_=>false
def slB(k:Nat)(x:T)(lo hi mx:Option T):Bool :=
 match x,lo,hi,mx with
 | .sl k' _ l,none,none,none=>Nat.beq k' k||l.isEmpty
 | .sl k' _ l,some (.lit (.int _ a)),none,none=>(Nat.beq k' k||l.isEmpty)&&xY 0 a&&xY a l.length
 | .sl k' _ l,none,some (.lit (.int _ b)),none=>(Nat.beq k' k||l.isEmpty)&&xY 0 b&&xY b l.length
 | .sl k' _ l,some (.lit (.int _ a)),some (.lit (.int _ b)),none=>(Nat.beq k' k||l.isEmpty)&&xY 0 a&&xY a b&&xY b l.length
 | .sl k' _ l,none,some (.lit (.int _ b)),some (.lit (.int _ m))=>(Nat.beq k' k||l.isEmpty)&&xY 0 b&&xY b m&&xY m l.length
 |_,_,_,_=>false
def xq(ev:X->T)(hp:Hp):kS->Option T
 | .mv x=>some (ev x)
 | .pick c a b =>
  match ev c with
  | .lit (.bool true)=>some (ev a)
  | .lit (.bool false)=>some (ev b)
  |_=>none
 | .bin op x y=>XA op (ev x) (ev y)
 | .bb ne x y =>
  match ev x,ev y with
  | .lit (.bool a),.lit (.bool b)=>some (.lit (.bool (bif ne then !(a==b) else a==b)))
  |_,_=>none
 | .not x=>match ev x with| .lit (.bool b)=>some (.lit (.bool !b))|_=>none
 | .conv k x=>match ev x with| .lit (.int _ n)=>some (.lit (.int k (k.wrap n)))|_=>none
 | .fa off k x =>
  match ev x with
  | .ptr i j o=>uQ (hp i).isSome (.ptr i j (Nat.add o off))
  | .ref kt t=>uQ (!(Nat.beq kt 0)&&jc (aU kt) off k) (.ref k (t.part off k))
  |_=>none
 | .fv off k x=>uQ (!(Nat.beq (ev x).kd 0)&&jc (aU (ev x).kd) off k) ((ev x).part off k)
 | .ia k x i =>
  match ev x,ev i with
  | .sl k' _ l,.lit (.int _ n)=>uQ (Nat.beq k' k&&JW n l.length) (.ref k (l.getD n.toNat .any))
  | .own o,.lit (.int _ n)=>match hp o with|some ob=>uQ (Nat.beq ob.k k&&JW n ob.l.length) (.ptr o n.toNat 0)|none=>none
  | .lF o lo hi,.lit (.int _ n)=>match hp o with|some ob=>uQ (Nat.beq ob.k k&&JW n (Nat.sub hi lo)) (.ptr o (Nat.add lo n.toNat) 0)|none=>none
  |_,_=>none
 | .ch x i =>
  match ev x,ev i with
  | .lit (.string b),.lit (.int _ n)=>uQ (JW n b.size) (.lit (.int .u8 (b.data.getD n.toNat 0).toNat))
  |_,_=>none
 | .ld k x =>
  match ev x with
  | .ref k' t=>uQ (Nat.beq k' k&&Nat.blt 0 (aU k)) t
  | .ptr i j off =>
   match hp i with
   |some ob =>
    bif Nat.blt j ob.l.length then
     bif Nat.beq off 0&&Nat.beq ob.k k then some (ob.l.getD j .any)
     else uQ (!(Nat.beq ob.k 0)&&jc (aU ob.k) off k) ((ob.l.getD j .any).part off k)
    else none
   |none=>none
  |_=>none
 | .nc x=>match ev x with
  | .ptr i a b=>uQ (hp i).isSome (.ptr i a b)
  | .ref a b=>some (.ref a b)
  | .fn a b=>some (.fn a b)
  |_=>none
 | .len str x =>
  match ev x with
  | .sl _ _ l=>uQ (!str) (.lit (.int .i64 (.ofNat l.length)))
  | .own o=>match hp o with|some ob=>uQ (!str&& !(Nat.beq ob.k 1000000007)) (.lit (.int .i64 (.ofNat ob.l.length)))|none=>none
  | .lF i lo hi=>uQ (!str&&(hp i).isSome) (.lit (.int .i64 (.ofNat (Nat.sub hi lo))))
  | .lit (.string b)=>uQ str (.lit (.int .i64 (.ofNat b.size)))
  |_=>none
 | .mx x y =>
  match ev x,ev y with
  | .lit (.int k a),.lit (.int _ b)=>some (.lit (.int k (bif WI a b then b else a)))
  |_,_=>none
 | .mn x y =>
  match ev x,ev y with
  | .lit (.int k a),.lit (.int _ b)=>some (.lit (.int k (bif WI b a then b else a)))
  |_,_=>none
 | .mk z ps=>uQ (zY z (ps.map fun p=>(p.1,p.2.1,ev p.2.2))&&oN hp (ps.map fun p=>ev p.2.2)) (.agg (AZ z (ps.map fun p=>(p.1,p.2.1,ev p.2.2))))
 | .ms _ k z n ps=>uQ ((z.kd==k)&&z.free&&zC k n (ps.map fun p=>(p.1,ev p.2))&&oN hp (ps.map fun p=>ev p.2)&&T.aT (ps.map fun p=>ev p.2)&&Nat.ble (n*aU k) 16777216&&Nat.blt 0 (aU k))
   (.sl k true (nI (List.replicate n z) (ps.map fun p=>(p.1,ev p.2))))
 | .sl k x lo hi mx=>uQ (slB k (ev x) (lo.map ev) (hi.map ev) (mx.map ev)) (Ju k (ev x) (lo.map ev) (hi.map ev) (mx.map ev))
 | .NR k x lo hi mx =>
  match ev x with
  | .own i=>match hp i with|some ob=>uQ (UF k ob (lo.map ev) (hi.map ev) (mx.map ev)) (vH i ob (lo.map ev) (hi.map ev) (mx.map ev))|none=>none
  |t=>uQ (slB k t (lo.map ev) (hi.map ev) (mx.map ev)) (Ju k t (lo.map ev) (hi.map ev) (mx.map ev))
 | .sa n x=>match ev x with| .ref k (.agg l)=>uQ (Nat.beq k (n+1)&&Nat.beq l.length n&&Nat.blt 0 n) (.sl 0 true l)|_=>none
 | .E5 x=>match ev x with| .sl _ true l=>some (.lit (.int .i64 (.ofNat l.length)))|_=>none
 | .ss x lo hi =>
  match ev x,lo.map ev,hi.map ev with
  | .lit (.string b),none,none=>some (.lit (.string (b.extract 0 b.size)))
  | .lit (.string b),some (.lit (.int _ i)),none=>uQ (xY 0 i&&xY i b.size) (.lit (.string (b.extract i.toNat b.size)))
  | .lit (.string b),none,some (.lit (.int _ j))=>uQ (xY 0 j&&xY j b.size) (.lit (.string (b.extract 0 j.toNat)))
  | .lit (.string b),some (.lit (.int _ i)),some (.lit (.int _ j))=>uQ (xY 0 i&&xY i j&&xY j b.size) (.lit (.string (b.extract i.toNat j.toNat)))
  |_,_,_=>none
 | .ex x i=>match ev x with| .iF l=>uQ (Nat.blt i l.length) (l.getD i .any)|_=>none
 | .mf f cap=>uQ (uN hp (cap.map ev)&&Nat.blt f 4096) (.fn f (cap.map ev))
 | .mb f x=>match ev x with| .agg l=>uQ (Nat.blt f 4096) (.fn (f+4096) l)|_=>none
 | .eqs ne n x y =>
  match ev x,ev y with
  | .agg l,.agg l'=>uQ (mF l&&mF l'&&(l.length==n)&&(l'.length==n)) (.lit (.bool (bif ne then !(oD l l') else oD l l')))
  |_,_=>none
 | .WA z x i =>
  match ev x,ev i with
  | .own o,.lit (.int .i64 n) =>
   match hp o with
   |some ob=>uQ (ob.k==1000000007) (match sQ n ob.l with|some u=>.iF [u,.lit (.bool true)]|none=>.iF [z,.lit (.bool false)])
   |none=>none
  |_,_=>none
 |_=>none
abbrev CF:=Bool->Nat->FuncId->List T->XH->Option (T×XH)
def zN(cf:CF)(dr:Bool)(n:Nat)(d:Option Nat)(f:FuncId)(ts:List T)(s:XS):Option XS :=
 match cf dr n f ts s.hp with
 |some (t,h)=>s.qw d t h
 |none=>none
def G8(cf:CF)(dr:Bool)(n:Nat)(d:Option Nat)(op:kS)(s:XS):Option XS :=
 match op with
 | .box ty k x =>
  bif (s.ev x).kd==k&&(s.ev x).iL (lk s.hp)&&qK k then s.qw d (.ptr n 0 0) ((n,⟨ty,k,[s.ev x]⟩)::s.hp) else none
 | .al ty k z =>
  bif z.kd==k&&z.iL (lk s.hp)&&z.free&&qK k then s.qw d (.ptr n 0 0) ((n,⟨ty,k,[z]⟩)::s.hp) else none
 | .make ty k bytes z x y =>
  match s.ev x,s.ev y with
  | .lit (.int _ a),.lit (.int _ b) =>
   bif (z.kd==k&&z.iL (lk s.hp)&&z.free&&qK k)&&(xY 0 a&&xY a b&&xY (b*bytes) 140737488355328&&xY b 1152921504606846976) then
    s.qw d (.own n) ((n,⟨ty,k,List.replicate a.toNat z⟩)::s.hp) else none
  |_,_=>none
 | .st k x v =>
  match s.ev x with
  | .ptr i j off =>
   match lk s.hp i with
   |some ob =>
    bif ((s.ev v).kd==k&&(s.ev v).iL (lk s.hp))&&Nat.blt j ob.l.length&&((off==0&&ob.k==k)||(!(ob.k==0)&&jc (aU ob.k) off k)) then
     some {s with hp:=hset i ⟨ob.ty,ob.k,ob.l.set j (bif (off==0&&ob.k==k) then s.ev v else(ob.l.getD j .any).splice off (s.ev v))⟩ s.hp} else none
   |none=>none
  |_=>none
 | .app ty k bytes x y =>
  match LK (lk s.hp) k (s.ev y) with
  | .list m =>
   match s.ev x with
   | .sl k' true l =>
    bif (Nat.beq k' k||l.isEmpty)&&(l.isEmpty|| !m.isEmpty)&&Nat.ble ((l.length+m.length)*bytes) 140737488355328&&Nat.ble (l.length+m.length) 1152921504606846976 then
     s.qw d (.own n) ((n,⟨ty,k,l++m⟩)::s.hp) else none
   | .own i =>
    match lk s.hp i with
    |some ob =>
     bif (ob.k==k&&ob.ty==ty)&&Nat.ble ((ob.l.length+m.length)*bytes) 140737488355328&&Nat.ble (ob.l.length+m.length) 1152921504606846976 then
      s.qw d (.own n) ((n,⟨ty,k,ob.l++m⟩)::hdel i s.hp) else none
    |none=>none
   |_=>none
  | .no=>none
 | .DL ty k z m ps =>
  bif (z.kd==k)&&z.free&&zC k m (ps.map fun p=>(p.1,s.ev p.2))&&oN (lk s.hp) (ps.map fun p=>s.ev p.2)&&Nat.ble (m*aU k) 16777216&&qK k then
   s.qw d (.own n) ((n,⟨ty,k,nI (List.replicate m z) (ps.map fun p=>(p.1,s.ev p.2))⟩)::s.hp) else none
 | .call f xs=>zN cf dr n d f (xs.map s.ev) s
 | .jQ x xs=>match s.ev x with
  | .fn f cap=>bif Nat.blt f 4096 then zN cf dr n d f (xs.map s.ev++cap) s else zN cf dr n d (f % 4096) (.agg cap::xs.map s.ev) s
  |_=>none
 | .vF x =>
  match s.ev x with
  | .sl _ _ l=>bif l.isEmpty then none else s.put d (.lit (.bool false))
  | .own i=>match lk s.hp i with
   |some ob=>bif ob.l.isEmpty||ob.k==dK then none else s.put d (.lit (.bool false))
   |none=>none
  |_=>none
 | .P5 ty=>s.qw d (.own n) ((n,⟨ty,dK,[]⟩)::s.hp)
 | .Jt x i v =>
  match s.ev x,s.ev i with
  | .own o,.lit (.int .i64 m) =>
   match lk s.hp o with
   |some ob=>bif ob.k==dK&&((s.ev v).kd==0&&(s.ev v).uf (lk s.hp)) then some {s with hp:=hset o ⟨ob.ty,ob.k,xR m (s.ev v) ob.l⟩ s.hp} else none
   |none=>none
  |_,_=>none
 | .KU k z x =>
  match s.ev x with
  | .lF i lo hi=>match lk s.hp i with
   |some ob=>bif (ob.k==k&&z.kd==k&&z.iL (lk s.hp)&&z.free)&&Nat.ble hi ob.l.length then
     s.qw d T.un (hset i ⟨ob.ty,ob.k,ob.l.take lo++List.replicate (hi-lo) z++ob.l.drop hi⟩ s.hp) else none
   |none=>none
  |_=>none
 | .bot=>none
 |op=>match xq s.ev (lk s.hp) op with
  |some t=>JV t fun t=>s.put d t
  |none=>none
def ZU(s:XS)(m:Nat):Option Nat :=
 bif Nat.blt m s.n then(match s.fr.get m with
 | .ptr i _ _=>some i
 |_=>none) else none
def neX(s:XS)(xs:List X):List Nat->Bool
 |[]=>true
 |m::r=>(match ZU s m with|some i=>xs.all fun x=>T.YG i (s.ev x)|none=>false)&&neX s xs r
def ZV(dr:Bool)(o:ay):Bool:=bif o.ar then false else bif o.ad then dr else o.dr dr
def OW:kS->Bool
 | .call .. =>true
 | .jQ .. =>true
 |_=>false
def ru(dr:Bool)(o:ay)(s:XS):Bool :=
 (!o.ar||(o.fl&& !o.ad&&match o.op with| .call _ xs=>T.aT (xs.map s.ev)|_=>false))&&(!o.ad||(dr&&OW o.op))&&(bif o.fl then(match o.op with
  | .st _ x _=>T.newer s.nx (s.ev x)
  | .app _ _ _ x _=>T.newer s.nx (s.ev x)
  | .Jt _ _ _=>false
  | .KU _ _ _=>false
  | .call _ _=>true
  | .jQ _ _=>true
  |op=>op.xs.all fun x=>T.lt s.nx (s.ev x)) else true)&&neX s o.op.xs o.ne
def Ai(cf:CF)(dr:Bool)(m:Nat):List ay->Nat->XS->Option XS
 |[],_,s=>H6 (Nat.add s.nx m) fun k=>some {s with nx:=k}
 |o::r,i,s =>
  match o.g with
  |none =>
   bif ru dr o s then
    match G8 cf (ZV dr o) (Nat.add s.nx i) o.d o.op s with
    |some s'=>Ai cf dr m r (Nat.succ i) s'
    |none=>none
   else none
  |some (d,want) =>
   match s.fr.get d with
   | .lit (.bool b) =>
    bif Nat.blt d s.n then
     bif b==want then
      bif ru dr o s then
       match G8 cf (ZV dr o) (Nat.add s.nx i) o.d o.op s with
       |some s'=>Ai cf dr m r (Nat.succ i) s'
       |none=>none
      else none
     else match s.put o.d T.un with
      |some s'=>Ai cf dr m r (Nat.succ i) s'
      |none=>none
    else none
   | .lit (.tuple _) =>
    bif Nat.blt d s.n then
     match s.put o.d T.un with
     |some s'=>Ai cf dr m r (Nat.succ i) s'
     |none=>none
    else none
   |_=>none
mutual
def T.fz(z:XH):T->T
 | .own j=>match lk z j with|some ob=>.sl ob.k false ob.l|none=>.own j
 | .ptr j a b=>match lk z j with|some ob=>bif Nat.beq b 0&&Nat.blt a ob.l.length then .ref ob.k (ob.l.getD a .any) else .ptr j a b|none=>.ptr j a b
 | .lF j a b=>match lk z j with|some ob=>bif Nat.ble b ob.l.length then .sl ob.k false ((ob.l.take b).drop a) else .any|none=>.lF j a b
 | .agg l=>.agg (T.IK z l)
 | .iF l=>.iF (T.IK z l)
 |t=>t
def T.IK(z:XH):List T->List T
 |[]=>[]
 |t::ts=>T.fz z t::T.IK z ts
end
def Ob.fz(z:XH)(o:Ob):Ob:=⟨o.ty,o.k,T.IK z o.l⟩
def JX(z:XH):XH->XH
 |[]=>[]
 |(i,o)::r=>match lk z i with|some _=>JX z r|none=>(i,o.fz z)::JX z r
def vX(p:Nat->Bool)(h:XH):XH->XH
 |[]=>[]
 |(i,_)::r=>bif p i then(match lk h i with
   |some o=>bif !(o.k==dK)&&T.aT o.l then(i,o)::vX p h r else vX p h r
   |none=>vX p h r) else vX p h r
def Qi:List T->List Nat
 |[]=>[]
 | .own i::r=>i::Qi r
 |_::r=>Qi r
def OX:List T->List Nat
 |[]=>[]
 | .agg l::r=>Qi l++OX r
 |_::r=>OX r
def inner:XH->List Nat
 |[]=>[]
 |(_,o)::r=>bif o.k==0 then inner r else OX o.l++inner r
def uS(i:Nat):List Nat->Bool
 |[]=>false
 |j::r=>Nat.beq i j||uS i r
mutual
def T.nms:T->List Nat->List Nat
 | .own i,a=>i::a
 | .ptr i _ _,a=>i::a
 | .lF i _ _,a=>i::a
 | .agg l,a=>T.UG l a
 | .iF l,a=>T.UG l a
 | .fn _ l,a=>T.UG l a
 |_,a=>a
def T.UG:List T->List Nat->List Nat
 |[],a=>a
 |t::ts,a=>T.nms t (T.UG ts a)
end
def Tr.nms:Tr->List Nat->List Nat
 | .lf,a=>a
 | .nd v l r,a=>v.nms (l.nms (r.nms a))
def YR:XH->List Nat->List Nat
 |[],a=>a
 |(_,o)::r,a=>T.UG o.l (YR r a)
def uT(p:Nat->Bool):XH->XH
 |[]=>[]
 |(i,o)::r=>bif p i then(i,o)::uT p r else uT p r
def longer:Nat->XH->Bool
 |0,_=>true
 |_+1,[]=>false
 |n+1,_::r=>longer n r
def XS.gc(s:XS):XS :=
 bif longer 12 s.hp then {s with hp:=uT (fun i=>Nat.blt i s.pin||uS i (s.fr.nms (YR s.hp []))) s.hp} else s
def XS.fz(z:XH)(s:XS):XS:= {s with fr:=s.fr.map (T.fz z),hp:=JX z s.hp}
abbrev ZW:=Bool×Bool×List Nat
def OY:XH->List Nat
 |[]=>[]
 |(_,o)::r=>bif o.k==0 then Qi o.l++OY r else OY r
def ZX(f:Tr):List Nat->List Nat
 |[]=>[]
 |d::r=>match f.get d with
  | .ptr i _ _=>i::ZX f r
  |_=>ZX f r
def ZY(m:ZW)(s:XS):List Nat:=(bif m.1 then inner s.hp else [])++((bif m.2.1 then OY s.hp else [])++ZX s.fr m.2.2)
def XS.H7(m:ZW)(s:XS):XS :=
 match ZY m s with
 |[]=>s.gc
 |l=>match vX (fun i=>Nat.ble s.pin i&&uS i l) s.hp s.hp with
  |[]=>s.gc
  |z=>(s.fz z).gc
def aby:kS->Bool
 | .DL .. =>true
 |_=>false
def UH:List ay->Bool
 |[]=>false
 |o::r=>aby o.op||UH r
def Aj:dU->Bool
 | .reg _ ops=>UH ops
 | .seq a b=>Aj a||Aj b
 | .cond _ a b=>Aj a||Aj b
 | .blk _ b=>Aj b
 | .loop b=>Aj b
 |_=>false
def acN:kS->List Nat
 | .sa _ (.t d)=>[d]
 |_=>[]
def YS:List ay->List Nat
 |[]=>[]
 |o::r=>acN o.op++YS r
def OZ:dU->List Nat
 | .reg _ ops=>YS ops
 | .seq a b=>OZ a++OZ b
 | .cond _ a b=>OZ a++OZ b
 | .blk _ b=>OZ b
 | .loop b=>OZ b
 |_=>[]
def abz:kS->Bool
 | .NR _ _ _ _ (some _)=>true
 |_=>false
def UJ:List ay->Bool
 |[]=>false
 |o::r=>abz o.op||UJ r
def Ak:dU->Bool
 | .reg _ ops=>UJ ops
 | .seq a b=>Ak a||Ak b
 | .cond _ a b=>Ak a||Ak b
 | .blk _ b=>Ak b
 | .loop b=>Ak b
 |_=>false
def D6(c:dU):ZW:=(Aj c,Ak c,OZ c)
inductive Out where
 |bad
 |go (s:XS)
 |ex (id:Nat) (s:XS)
 |rt (s:XS)
 deriving Inhabited
def iter(m:ZW)(body:XS->Out):Nat->XS->Out
 |0,_=>.bad
 |n+1,s =>
  match body (s.H7 m) with
  | .go s'=>iter m body n s'
  |o=>o
def xr(cf:CF)(big:Nat):dU->XS->Out
 | .skip,s=>.go s
 | .reg dr ops,s=>match Ai cf dr ops.length ops 0 s with|some s'=>.go s'|none=>.bad
 | .seq a b,s =>
  match xr cf big a s with
  | .go s'=>xr cf big b s'
  |o=>o
 | .cond c a b,s =>
  match s.ev c with
  | .lit (.bool true)=>xr cf big a s
  | .lit (.bool false)=>xr cf big b s
  |_=>.bad
 | .blk id b,s =>
  match xr cf big b s with
  | .ex j s'=>bif Nat.beq j id then .go s' else .ex j s'
  |o=>o
 | .exit id,s=>.ex id s
 | .ret,s=>.rt s
 | .loop b,s=>iter (D6 b) (xr cf big b) big s
structure Z4 where
 code:dU
 rs:List RV
 nt:Nat
def XB(s:XS):RV->Option T
 | .slot t=>some (s.fr.get t)
 | .cell a k =>
  match s.fr.get a with
  | .ptr i j 0=>match lk s.hp i with|some ob=>bif Nat.blt j ob.l.length&&ob.k==k then some (ob.l.getD j .any) else none|none=>none
  |_=>none
def IL(s:XS):List RV->Option (List T)
 |[]=>some []
 |r::rs=>match XB s r,IL s rs with
  |some t,some l=>some (t::l)
  |_,_=>none
def Dk:List T->T
 |[t]=>t
 |l=>.iF l
def jF(s:XS):List RV->List Nat
 |[]=>[]
 | .slot _::rs=>jF s rs
 | .cell a _::rs=>match s.fr.get a with| .ptr i _ _=>i::jF s rs|_=>jF s rs
def UK(pin:Nat):T->List Nat
 | .own i=>bif Nat.ble pin i then [i] else []
 |_=>[]
def RP(pin:Nat):List T->List Nat
 |[]=>[]
 |t::r=>UK pin t++RP pin r
def MH(n:Nat):XH->List Nat
 |[]=>[]
 |(i,o)::r=>bif Nat.blt i n then RP n o.l++MH n r else MH n r
def UL(n:Nat)(vs:List T)(h:XH):List Nat :=
 match RP n vs with
 |[]=>MH n h
 |l=>l
def settle(p:Nat->Bool):Nat->List T->XH->List T×XH
 |0,t,h=>(t,h)
 |n+1,t,h =>
  match vX p h h with
  |[]=>(t,h)
  |z=>settle p n (T.IK z t) (JX z h)
mutual
def T.rn(m n:Nat):T->T
 | .own i=>bif Nat.beq i m then .own n else .own i
 | .ptr i j o=>bif Nat.beq i m then .ptr n j o else .ptr i j o
 | .lF i j o=>bif Nat.beq i m then .lF n j o else .lF i j o
 | .agg l=>.agg (T.KX m n l)
 | .iF l=>.iF (T.KX m n l)
 | .fn f cap=>.fn f (T.KX m n cap)
 |t=>t
def T.KX(m n:Nat):List T->List T
 |[]=>[]
 |t::ts=>T.rn m n t::T.KX m n ts
end
mutual
def T.O1(p:Nat->Bool):T->Bool
 | .own i=>p i
 | .ptr i _ _=>p i
 | .lF i _ _=>p i
 | .agg l=>T.vY p l
 | .iF l=>T.vY p l
 | .fn _ l=>T.vY p l
 |_=>true
def T.vY(p:Nat->Bool):List T->Bool
 |[]=>true
 |t::ts=>T.O1 p t&&T.vY p ts
end
def qO(h0:XH)(m n:Nat):XH->XH
 |[]=>[]
 |(i,o)::r =>
  bif Nat.beq i m then(n,⟨o.ty,o.k,T.KX m n o.l⟩)::qO h0 m n r
  else bif (lk h0 i).isSome then(i,⟨o.ty,o.k,T.KX m n o.l⟩)::qO h0 m n r
  else qO h0 m n r
def sD(h0:XH):XH->XH
 |[]=>[]
 |(i,o)::r=>bif (lk h0 i).isSome then(i,o)::sD h0 r else sD h0 r
def F9(p:Nat->Bool):XH->Bool
 |[]=>true
 |(i,o)::r=>(bif p i then T.vY p o.l else true)&&F9 p r
def hLt(n:Nat):XH->Bool
 |[]=>true
 |(i,o)::r=>Nat.blt i n&&T.LM n o.l&&hLt n r
mutual
def T.lend(h:XH):T->T
 | .own i=>match lk h i with|some ob=>bif T.aT ob.l&& !(ob.k==dK) then .sl ob.k false ob.l else .own i|none=>.own i
 | .lF i lo hi=>match lk h i with|some ob=>bif T.aT ob.l&& !(ob.k==dK)&&Nat.ble hi ob.l.length then .sl ob.k false ((ob.l.take hi).drop lo) else .lF i lo hi|none=>.lF i lo hi
 | .agg l=>.agg (T.yB h l)
 | .iF l=>.iF (T.yB h l)
 |t=>t
def T.yB(h:XH):List T->List T
 |[]=>[]
 |t::ts=>T.lend h t::T.yB h ts
end
structure Know where
 tab:FuncId->Option Z4
 Qj:Nat->FuncId->List T->Option (T×Option Ob)
 UM:Nat->FuncId->List T->XH->Option (T×XH)
 wr:FuncId->Bool
 big:Nat
def xg:List T->Nat->Tr->Tr
 |[],_,f=>f
 |t::r,i,f=>xg r (Nat.succ i) (f.set i t)
def xk(b:Z4)(ts:List T)(h:XH)(n:Nat):XS:=⟨xg ts 0 (Tr.full (Nat.succ (Nat.log2 b.nt))),b.nt,h,n,n⟩
def O4(n:Nat)(dr:Bool)(rs:List RV)(s:XS):Option (T×Option Ob) :=
 match IL s rs with
 |none=>none
 |some vs =>
  match (bif dr then [] else RP 0 vs) with
  |[m] =>
   match settle (fun i=> !(Nat.beq i m)&& !(uS i (jF s rs))) 8 vs s.hp with
   |(vs,hp) =>
    match lk hp m with
    |some ob=>bif T.aT ob.l&& !(ob.k==dK)&&T.vY (Nat.beq m) vs then some (T.rn m n (Dk vs),some ob) else none
    |none=>none
  |_ =>
   match settle (fun i=> !(uS i (jF s rs))) 8 vs s.hp with
   |(vs,_)=>bif T.aT vs then some (Dk vs,none) else none
def UN(n:Nat)(h:XH):Option Ob->XH
 |none=>h
 |some ob=>(n,ob)::h
def RQ(K:Know)(cf:CF)(dr:Bool)(n:Nat)(f:FuncId)(ts:List T):Option (T×Option Ob) :=
 match K.Qj n f ts with
 |some r=>bif dr&&r.2.isSome then none else some r
 |none =>
  match K.tab f with
  |none=>none
  |some b =>
   bif Nat.ble ts.length b.nt then
    match xr cf K.big b.code (xk b ts [] 0) with
    | .go s=>O4 n dr b.rs s
    | .rt s=>O4 n dr b.rs s
    |_=>none
   else none
def O5(n:Nat)(h:XH)(rs:List RV)(s:XS):Option (T×XH) :=
 match IL s rs with
 |none=>none
 |some vs =>
  match UL n vs s.hp with
  |[m] =>
   match settle (fun i=> !(Nat.beq i m)&&Nat.ble n i&& !(uS i (jF s rs))) 8 vs s.hp with
   |(vs,hp) =>
    bif (lk hp m).isSome&&T.vY (fun i=>(lk h i).isSome||Nat.beq i m) vs&&F9 (fun i=>(lk h i).isSome||Nat.beq i m) hp then some (T.rn m n (Dk vs),qO h m n hp) else none
  |_ =>
   match settle (fun i=>Nat.ble n i&& !(uS i (jF s rs))) 8 vs s.hp with
   |(vs,hp) =>
    bif T.vY (fun i=>(lk h i).isSome) vs&&F9 (fun i=>(lk h i).isSome) hp then some (Dk vs,sD h hp) else none
def JY(K:Know)(cf:CF)(n:Nat)(f:FuncId)(ts:List T)(h:XH):Option (T×XH) :=
 match K.UM n f ts h with
 |some r=>some r
 |none =>
  match K.tab f with
  |none=>none
  |some b =>
   bif T.LM n ts&&hLt n h&&Nat.ble ts.length b.nt then
    match xr cf K.big b.code (xk b ts h n) with
    | .go s=>O5 n h b.rs s
    | .rt s=>O5 n h b.rs s
    |_=>none
   else none
def UO:Option Ob->Bool
 |some ob=>T.qZ ob.l
 |none=>true
def xf(K:Know):Nat->CF
 |0=>fun _ _ _ _ _=>none
 |d+1=>fun dr n f ts h =>
  bif T.aT ts then
   match RQ K (xf K d) dr n f ts with
   |some (t,o)=>some (t,UN n h o)
   |none=>none
  else bif K.wr f then(bif dr then none else JY K (xf K d) n f ts h)
  else bif T.aT (T.yB h ts) then
   match RQ K (xf K d) dr n f (T.yB h ts) with
   |some (t,o)=>bif t.hard&&UO o then some (t,UN n h o) else(bif dr then none else JY K (xf K d) n f ts h)
   |none=>bif dr then none else JY K (xf K d) n f ts h
  else bif dr then none else JY K (xf K d) n f ts h
def Tr.has:Tr->Nat->Prop
 | .lf,_=>False
 | .nd _ l r,n=>if n=0 then True else if n % 2=1 then l.has (n / 2) else r.has ((n-1) / 2)
theorem vZ{α:Type}{a b:Nat}{x y:α}:(bif Nat.beq a b then x else y)=if a=b then x else y:=by
 by_cases h:a=b
 ·subst h; rw[if_pos rfl,Nat.beq_refl]; rfl
 ·rw[if_neg h]
  cases hb:Nat.beq a b with
  |false=>rfl
  |true=>exact absurd (Nat.eq_of_beq_eq_true hb) h
theorem Tr.xu{v:T}{l r:Tr}{n:Nat}:(Tr.nd v l r).get n=if n=0 then v else if n % 2=1 then l.get (n / 2) else r.get ((n-1) / 2):=by
 simp only[Tr.get,vZ]; rfl
theorem Tr.UQ{v:T}{l r:Tr}{n:Nat}{t:T}:(Tr.nd v l r).set n t=if n=0 then .nd t l r else if n % 2=1 then .nd v (l.set (n / 2) t) r else .nd v l (r.set ((n-1) / 2) t):=by
 simp only[Tr.set,vZ]; rfl
theorem Tr.Qk{t:Tr}: ∀ {i j:Nat} {x:T},(t.has i\/j≠i)->(t.set i x).get j=if j=i then x else t.get j:=by
 induction t with
 |lf=>intro i j x h; rcases h with h|h; exact h.elim; rw[if_neg h]; rfl
 |nd v l r ihl ihr =>
  intro i j x h
  rw[Tr.UQ]
  by_cases hi:i=0
  ·rw[if_pos hi,Tr.xu,Tr.xu]
   subst hi
   by_cases hj:j=0
   ·rw[if_pos hj,if_pos hj]
   ·rw[if_neg hj,if_neg hj,if_neg hj]
  ·rw[if_neg hi]
   by_cases hp:i % 2=1
   ·rw[if_pos hp,Tr.xu,Tr.xu]
    by_cases hj:j=0
    ·rw[if_pos hj,if_pos hj,if_neg (by omega)]
    ·rw[if_neg hj,if_neg hj]
     by_cases hq:j % 2=1
     ·rw[if_pos hq,if_pos hq,ihl]
      ·by_cases e:j=i
       ·rw[if_pos e,if_pos (by rw[e])]
       ·rw[if_neg e,if_neg (by omega)]
      ·rcases h with h|h
       ·simp only[Tr.has,if_neg hi,if_pos hp] at h; exact .inl h
       ·right; omega
     ·rw[if_neg hq,if_neg hq,if_neg (by omega)]
   ·rw[if_neg hp,Tr.xu,Tr.xu]
    by_cases hj:j=0
    ·rw[if_pos hj,if_pos hj,if_neg (by omega)]
    ·rw[if_neg hj,if_neg hj]
     by_cases hq:j % 2=1
     ·rw[if_pos hq,if_pos hq,if_neg (by omega)]
     ·rw[if_neg hq,if_neg hq,ihr]
      ·by_cases e:j=i
       ·rw[if_pos e,if_pos (by rw[e])]
       ·rw[if_neg e,if_neg (by omega)]
      ·rcases h with h|h
       ·simp only[Tr.has,if_neg hi,if_neg hp] at h; exact .inl h
       ·right; omega
theorem Tr.has_set{t:Tr}: ∀ {i j:Nat} {x:T},(t.set i x).has j↔t.has j:=by
 induction t with
 |lf=>intro i j x; exact Iff.rfl
 |nd v l r ihl ihr =>
  intro i j x
  rw[Tr.UQ]
  by_cases hi:i=0
  ·rw[if_pos hi]; simp only[Tr.has]
  ·rw[if_neg hi]
   by_cases hp:i % 2=1
   ·rw[if_pos hp]; simp only[Tr.has]
    by_cases hj:j=0
    ·simp[hj]
    ·by_cases hq:j % 2=1<;>simp only[if_neg hj,hq,if_true,if_false]<;>first|exact ihl|exact Iff.rfl
   ·rw[if_neg hp]; simp only[Tr.has]
    by_cases hj:j=0
    ·simp[hj]
    ·by_cases hq:j % 2=1
     ·simp only[if_neg hj,hq,if_true]
     ·simp only[if_neg hj,if_neg hq]; exact ihr
theorem Tr.get_map{f:T->T}(hf:f T.un=T.un){t:Tr}: ∀ {i:Nat},(t.map f).get i=f (t.get i):=by
 induction t with
 |lf=>intro i; exact hf.symm
 |nd v l r ihl ihr =>
  intro i
  simp only[Tr.map]
  rw[Tr.xu,Tr.xu]
  split
  ·rfl
  ·split
   ·exact ihl
   ·exact ihr
theorem Tr.XC{f:T->T}{t:Tr}: ∀ {i:Nat},(t.map f).has i↔t.has i:=by
 induction t with
 |lf=>intro i; exact Iff.rfl
 |nd v l r ihl ihr =>
  intro i
  simp only[Tr.map,Tr.has]
  split
  ·exact Iff.rfl
  ·split
   ·exact ihl
   ·exact ihr
theorem Tr.UR: ∀ {d i:Nat},(Tr.full d).get i=T.un:=by
 intro d
 induction d with
 |zero=>intro i; rfl
 |succ d ih =>
  intro i
  simp only[Tr.full]
  rw[Tr.xu]
  split
  ·rfl
  ·split<;>exact ih
theorem Tr.UU: ∀ {d i:Nat},i+1<2 ^ d->(Tr.full d).has i:=by
 intro d
 induction d with
 |zero=>intro i h; simp at h
 |succ d ih =>
  intro i h
  rw[Nat.pow_succ] at h
  simp only[Tr.full,Tr.has]
  split
  ·trivial
  ·split<;>(apply ih; omega)
theorem dZ{j i:Nat}{o:Ob}{r:XH}:lk ((j,o)::r) i=if j=i then some o else lk r i:=by
 simp only[lk]; rw[vZ]
theorem xw(h:XH)(n:Nat)(ob:Ob):lk ((n,ob)::h)=upd (lk h) n (some ob):=by
 funext i
 rw[dZ]; simp only[upd]
 by_cases e:n=i
 ·rw[if_pos e,if_pos e.symm]
 ·rw[if_neg e,if_neg (fun h=>e h.symm)]
theorem JZ(i:Nat)(o:Ob)(h:XH):lk (hset i o h)=upd (lk h) i (some o):=by
 induction h with
 |nil=>simp only[hset]; rw[xw]
 |cons p r ih =>
  obtain⟨j,q⟩:=p
  simp only[hset]
  rw[vZ]
  by_cases e:j=i
  ·rw[if_pos e]
   funext m
   rw[dZ]; simp only[upd]
   rw[dZ,e]
   by_cases em:m=i
   ·rw[if_pos em.symm,if_pos em]
   ·rw[if_neg (fun h=>em h.symm),if_neg em,if_neg (fun h=>em h.symm)]
  ·rw[if_neg e]
   funext m
   rw[dZ,ih]; simp only[upd]
   rw[dZ]
   by_cases em:m=i
   ·subst em; rw[if_neg e,if_pos rfl,if_pos rfl]
   ·rw[if_neg em,if_neg em]
theorem XD(i:Nat)(h:XH):lk (hdel i h)=upd (lk h) i none:=by
 induction h with
 |nil=>funext m; simp[hdel,lk,upd]
 |cons p r ih =>
  obtain⟨j,q⟩:=p
  simp only[hdel]
  rw[vZ]
  funext m
  by_cases e:j=i
  ·rw[if_pos e,ih]; simp only[upd]
   rw[dZ,e]
   by_cases em:m=i
   ·rw[if_pos em,if_pos em]
   ·rw[if_neg em,if_neg em,if_neg (fun h=>em h.symm)]
  ·rw[if_neg e,dZ,ih]; simp only[upd]
   rw[dZ]
   by_cases em:m=i
   ·subst em; rw[if_neg e,if_pos rfl,if_pos rfl]
   ·rw[if_neg em,if_neg em]
structure uh(x:XS)(s:AS):Prop where
 fr: ∀ i,s.fr.getD i T.un=x.fr.get i
 len:s.fr.length=x.n
 has: ∀ i,i<x.n->x.fr.has i
 hp:s.hp=lk x.hp
 nx:s.nx=x.nx
 pin:s.pin=x.pin
theorem uh.ev{x:XS}{s:AS}(S:uh x s)(a:X):s.ev a=x.ev a:=by
 cases a with
 |t n=>exact S.fr n
 |c v=>rfl
theorem uh.evs{x:XS}{s:AS}(S:uh x s):s.ev=x.ev:=funext S.ev
theorem uh.Z5{x:XS}{s:AS}(S:uh x s){d:Nat}(h:d<x.n):s.fr.getD d .any=x.fr.get d:=by
 rw[<- S.fr d]
 have:d<s.fr.length:=by rw[S.len]; exact h
 simp[List.getD_eq_getElem?_getD,this]
theorem EU{l:List T}{i j:Nat}{t d:T}(hi:i<l.length):(l.set i t).getD j d=if j=i then t else l.getD j d:=by
 simp only[List.getD_eq_getElem?_getD,List.getElem?_set]
 by_cases e:j=i
 ·subst e; simp[hi]
 ·rw[if_neg (fun h=>e h.symm),if_neg e]
theorem uh.qw{x x':XS}{s:AS}(S:uh x s){d:Option Nat}{t:T}{h:XH}(e:x.qw d t h=some x'):uh x' {(s.put d t) with hp:=lk h}:=by
 cases d with
 |none=>simp only[XS.qw] at e; cases e; exact⟨S.fr,S.len,S.has,rfl,S.nx,S.pin⟩
 |some i =>
  simp only[XS.qw] at e
  cases hb:Nat.blt i x.n with
  |false=>rw[hb] at e; cases e
  |true =>
   rw[hb] at e; cases e
   have hi:i<x.n:=Nat.blt_eq.mp hb
   refine⟨fun j=>?_,?_,fun j hj=>Tr.has_set.2 (S.has j hj),rfl,S.nx,S.pin⟩
   ·show(s.fr.set i t).getD j T.un=(x.fr.set i t).get j
    rw[EU (by rw[S.len]; exact hi),Tr.Qk (.inl (S.has i hi)),S.fr]
   ·show(s.fr.set i t).length=x.n
    rw[List.length_set]; exact S.len
theorem XS.abA(x:XS)(d:Option Nat)(t:T):x.put d t=x.qw d t x.hp:=by
 cases d with
 |none=>rfl
 |some i=>rfl
theorem uh.put{x x':XS}{s:AS}(S:uh x s){d:Option Nat}{t:T}(e:x.put d t=some x'):uh x' (s.put d t):=by
 rw[XS.abA] at e
 have:=S.qw e
 rw[<- S.hp] at this
 cases d<;>exact this
theorem Ql{α:Type}(n:Nat)(k:Nat->α):H6 n k=k n:=by cases n<;>rfl
theorem XE{α:Type}(t:T)(k:T->α):JV t k=k t:=by
 unfold JV
 split<;>simp only[Ql]
theorem Gf(a b:Int):WI a b=decide (a<b):=by
 cases a with
 |ofNat m=>cases b with
  |ofNat n =>
   simp only[WI]
   cases h:Nat.blt m n with
   |true=>have:=Nat.blt_eq.mp h; symm; rw[decide_eq_true_eq]; simp only[Int.ofNat_eq_natCast]; omega
   |false =>
    symm; rw[decide_eq_false_iff_not]
    intro q
    have:m<n:=by simp only[Int.ofNat_eq_natCast] at q; omega
    rw[Nat.blt_eq.mpr this] at h; cases h
  |negSucc n=>simp only[WI]; symm; rw[decide_eq_false_iff_not]; simp only[Int.ofNat_eq_natCast,Int.negSucc_eq]; omega
 |negSucc m=>cases b with
  |ofNat n=>simp only[WI]; symm; rw[decide_eq_true_eq]; simp only[Int.ofNat_eq_natCast,Int.negSucc_eq]; omega
  |negSucc n =>
   simp only[WI]
   cases h:Nat.blt n m with
   |true=>have:=Nat.blt_eq.mp h; symm; rw[decide_eq_true_eq]; simp only[Int.negSucc_eq]; omega
   |false =>
    symm; rw[decide_eq_false_iff_not]
    intro q
    have:n<m:=by simp only[Int.negSucc_eq] at q; omega
    rw[Nat.blt_eq.mpr this] at h; cases h
theorem qy(a b:Int):xY a b=decide (a<=b):=by
 unfold xY; rw[Gf]
 by_cases h:a<=b
 ·have: ¬ b<a:=by omega
  simp[h,this]
 ·have:b<a:=by omega
  simp[h,this]
theorem UW(a b:Int):YQ a b=(a==b):=by
 cases a with
 |ofNat m=>cases b with
  |ofNat n =>
   simp only[YQ]
   cases h:Nat.beq m n with
   |true=>have:=Nat.eq_of_beq_eq_true h; subst this; symm; rw[beq_iff_eq]
   |false =>
    symm; rw[beq_eq_false_iff_ne]
    intro q
    have:m=n:=by simp only[Int.ofNat_eq_natCast] at q; omega
    subst this; rw[Nat.beq_refl] at h; cases h
  |negSucc n=>rfl
 |negSucc m=>cases b with
  |ofNat n=>rfl
  |negSucc n =>
   simp only[YQ]
   cases h:Nat.beq m n with
   |true=>have:=Nat.eq_of_beq_eq_true h; subst this; symm; rw[beq_iff_eq]
   |false =>
    symm; rw[beq_eq_false_iff_ne]
    intro q
    have:m=n:=by simp only[Int.negSucc_eq] at q; omega
    subst this; rw[Nat.beq_refl] at h; cases h
theorem UY(n:Int):w64 n=IntKind.i64.wrap n:=by
 unfold w64
 cases n with
 |ofNat m =>
  simp only
  cases h:Nat.blt m 9223372036854775808 with
  |true =>
   have:=Nat.blt_eq.mp h
   symm; exact wrap64 (by simp only[Int.ofNat_eq_natCast]; omega) (by simp only[Int.ofNat_eq_natCast]; omega)
  |false=>exact cond_false _ _
 |negSucc m =>
  simp only
  cases h:Nat.blt m 9223372036854775808 with
  |true =>
   have:=Nat.blt_eq.mp h
   symm; exact wrap64 (by simp only[Int.negSucc_eq]; omega) (by simp only[Int.negSucc_eq]; omega)
  |false=>exact cond_false _ _
theorem UZ(op:BinOp)(a b:Int):zM op a b=(wM op (.int .i64 a) (.int .i64 b)).map T.lit:=by
 cases op with
 |add=>simp only[zM,UY]; rfl
 |sub=>simp only[zM,UY]; rfl
 |eql=>simp only[zM,UW]; rfl
 |neq=>simp only[zM,UW]; rfl
 |lss=>simp only[zM,Gf]; rfl
 |leq=>simp only[zM,qy]; rfl
 |gtr=>simp only[zM,Gf]; rfl
 |geq=>simp only[zM,qy]; rfl
 |_=>rfl
theorem XF{op:BinOp}{x y t:T}(h:XA op x y=some t): ∃ u v r,x= .lit u/\y= .lit v/\wM op u v=some r/\t= .lit r:=by
 unfold XA at h
 split at h
 ·rename_i a b
  rw[UZ] at h
  obtain⟨r,h1,h2⟩:=Option.map_eq_some_iff.1 h
  exact⟨_,_,r,rfl,rfl,h1,h2.symm⟩
 ·rename_i u v _
  obtain⟨r,h1,h2⟩:=Option.map_eq_some_iff.1 h
  exact⟨_,_,r,rfl,rfl,h1,h2.symm⟩
 ·cases h
theorem EH{n:Int}{l:Nat}(h:JW n l=true):TU n l:=by
 unfold JW at h
 cases n with
 |ofNat m =>
  have:=Nat.blt_eq.mp h
  constructor<;>simp only[Int.ofNat_eq_natCast]<;>omega
 |negSucc m=>cases h
theorem iw{α:Type}{b:Bool}{a t:α}(h:uQ b a=some t):b=true/\a=t:=by
 cases b with
 |false=>cases h
 |true=>cases h; exact⟨rfl,rfl⟩
theorem Dl{a b:Nat}(h:Nat.beq a b=true):a=b:=Nat.eq_of_beq_eq_true h
theorem oW(a b:Nat):Nat.beq a b=(a==b):=by
 cases h:Nat.beq a b with
 |true=>symm; rw[beq_iff_eq]; exact Dl h
 |false=>symm; rw[beq_eq_false_iff_ne]; intro e; subst e; rw[Nat.beq_refl] at h; cases h
theorem isEmpty_nil{l:List T}(h:l.isEmpty=true):l=[]:=List.isEmpty_iff.1 h
theorem U0{k:Nat}{ob:Ob}{lo hi mx:Option T}(h:UF k ob lo hi mx=true):zD k ob lo hi mx:=by
 unfold UF at h
 split at h
 ·simp only[Bool.and_eq_true,qy,decide_eq_true_eq] at h
  exact⟨Dl h.1.1,h.1.2,h.2⟩
 ·simp only[Bool.and_eq_true,qy,decide_eq_true_eq] at h
  exact⟨Dl h.1.1,h.1.2,h.2⟩
 ·simp only[Bool.and_eq_true,qy,decide_eq_true_eq] at h
  exact⟨Dl h.1.1.1,h.1.1.2,h.1.2,h.2⟩
 ·cases h
theorem kOr{k k':Nat}{l:List T}(h:(Nat.beq k' k||l.isEmpty)=true):k'=k\/l=[]:=by
 rw[Bool.or_eq_true] at h
 exact h.imp Dl isEmpty_nil
theorem U1{k:Nat}{x:T}{lo hi mx:Option T}(h:slB k x lo hi mx=true):TV k x lo hi mx:=by
 unfold slB at h
 split at h
 ·exact kOr h
 ·simp only[Bool.and_eq_true,qy,decide_eq_true_eq] at h
  exact⟨kOr h.1.1,h.1.2,h.2⟩
 ·simp only[Bool.and_eq_true,qy,decide_eq_true_eq] at h
  exact⟨kOr h.1.1,h.1.2,h.2⟩
 ·simp only[Bool.and_eq_true,qy,decide_eq_true_eq] at h
  exact⟨kOr h.1.1.1,h.1.1.2,h.1.2,h.2⟩
 ·simp only[Bool.and_eq_true,qy,decide_eq_true_eq] at h
  exact⟨kOr h.1.1.1,h.1.1.2,h.1.2,h.2⟩
 ·cases h
theorem abB{s:AS}{op:kS}{t:T}(h:xq s.ev s.hp op=some t):qc s op/\qt s op=t:=by
 cases op<;>simp only[xq] at h<;>try (cases h; done)
 case mv x=>cases h; exact⟨trivial,rfl⟩
 case pick c a b =>
  simp only[qc,qt]
  split at h
  ·rename_i e; cases h; rw[e]; refine⟨rfl,?_⟩
   simp only[vG]; split
   ·rename_i e1 e2; rw[e1]; rfl
   ·rfl
  ·rename_i e; cases h; rw[e]; refine⟨rfl,?_⟩
   simp only[vG]; split
   ·rename_i e1 e2; rw[e2]; rfl
   ·rfl
  ·cases h
 case bin op x y =>
  obtain⟨u,v,r,e1,e2,e3,rfl⟩:=XF h
  simp[qc,qt,e1,e2,e3]
 case bb ne x y =>
  split at h
  ·rename_i a b e1 e2; cases h; simp[qc,qt,e1,e2,isBool]
  ·cases h
 case not x =>
  split at h
  ·rename_i b e1; cases h; simp[qc,qt,e1,isBool]
  ·cases h
 case conv k x =>
  split at h
  ·rename_i b e1; cases h; simp only[qc,qt,e1]; exact⟨trivial,trivial⟩
  ·cases h
 case fa off k x =>
  split at h
  ·rename_i i j o e1; obtain⟨h1,rfl⟩:=iw h; simp only[qc,qt,e1]; exact⟨h1,rfl⟩
  ·rename_i kt t e1; obtain⟨h1,rfl⟩:=iw h; simp only[qc,qt,e1]; rw[oW] at h1; exact⟨h1,trivial⟩
  ·cases h
 case fv off k x =>
  obtain⟨h1,rfl⟩:=iw h; simp only[qc,qt]; rw[oW] at h1; exact⟨h1,trivial⟩
 case ia k x i =>
  split at h
  ·rename_i k' f l c n e1 e2; obtain⟨h1,rfl⟩:=iw h; simp only[qc,qt,e1,e2]; rw[Bool.and_eq_true] at h1; exact⟨⟨Dl h1.1,EH h1.2⟩,trivial⟩
  ·rename_i o c n e1 e2
   split at h
   ·rename_i ob e3; obtain⟨h1,rfl⟩:=iw h; simp only[qc,qt,e1,e2,e3]; rw[Bool.and_eq_true] at h1; exact⟨⟨Dl h1.1,EH h1.2⟩,trivial⟩
   ·cases h
  ·rename_i o lo hi c n e1 e2
   split at h
   ·rename_i ob e3; obtain⟨h1,rfl⟩:=iw h; simp only[qc,qt,e1,e2,e3]; rw[Bool.and_eq_true] at h1; exact⟨⟨Dl h1.1,EH h1.2⟩,rfl⟩
   ·cases h
  ·cases h
 case ch x i =>
  split at h
  ·rename_i b c n e1 e2; obtain⟨h1,rfl⟩:=iw h; simp only[qc,qt,e1,e2]; exact⟨EH h1,trivial⟩
  ·cases h
 case ld k x =>
  split at h
  ·rename_i k' t e1; obtain⟨h1,rfl⟩:=iw h; simp only[qc,qt,e1]; rw[oW] at h1; exact⟨h1,trivial⟩
  ·rename_i i j off e1
   split at h
   ·rename_i ob e2
    cases hj:Nat.blt j ob.l.length with
    |false=>rw[hj] at h; cases h
    |true =>
     rw[hj] at h
     simp only[cond_true] at h
     have hj':j<ob.l.length:=Nat.blt_eq.mp hj
     simp only[qc,qt,e1,e2]
     rw[oW,oW] at h
     cases hb:(off==0&&ob.k==k) with
     |true=>rw[hb] at h; cases h; exact⟨⟨hj',rfl⟩,rfl⟩
     |false=>rw[hb] at h; obtain⟨h1,rfl⟩:=iw h; rw[oW] at h1; exact⟨⟨hj',by rw[Bool.false_or]; exact h1⟩,rfl⟩
   ·cases h
  ·cases h
 case nc x =>
  split at h
  ·rename_i e1; obtain⟨h1,rfl⟩:=iw h; simp only[qc,qt,e1]; exact⟨h1,trivial⟩
  ·rename_i e1; cases h; simp only[qc,qt,e1]; exact⟨trivial,trivial⟩
  ·rename_i e1; cases h; simp only[qc,qt,e1]; exact⟨trivial,trivial⟩
  ·cases h
 case len str x =>
  split at h
  ·rename_i e1; obtain⟨h1,rfl⟩:=iw h; simp only[qc,qt,e1]; exact⟨by simpa using h1,rfl⟩
  ·rename_i e1
   split at h
   ·rename_i e2; obtain⟨h1,rfl⟩:=iw h; simp only[qc,qt,e1,e2]; rw[Bool.and_eq_true,oW] at h1; exact⟨⟨by simpa using h1.1,by simpa using h1.2⟩,rfl⟩
   ·cases h
  ·rename_i e1; obtain⟨h1,rfl⟩:=iw h; simp only[qc,qt,e1]; rw[Bool.and_eq_true] at h1; exact⟨⟨by simpa using h1.1,h1.2⟩,rfl⟩
  ·rename_i e1; obtain⟨h1,rfl⟩:=iw h; simp only[qc,qt,e1]; exact⟨h1,rfl⟩
  ·cases h
 case mx x y =>
  split at h
  ·rename_i k a k' b e1 e2; cases h; simp only[qc,qt,e1,e2,Gf]
   by_cases hlt:a<b<;>simp[hlt]
  ·cases h
 case mn x y =>
  split at h
  ·rename_i k a k' b e1 e2; cases h; simp only[qc,qt,e1,e2,Gf]
   by_cases hlt:b<a<;>simp[hlt]
  ·cases h
 case mk z ps=>obtain⟨h1,rfl⟩:=iw h; exact⟨h1,rfl⟩
 case ms ty k z n ps=>obtain⟨h1,rfl⟩:=iw h; exact⟨h1,rfl⟩
 case sl k x lo hi mx=>obtain⟨h1,rfl⟩:=iw h; exact⟨U1 h1,rfl⟩
 case NR k x lo hi mx =>
  split at h
  ·rename_i i e1
   split at h
   ·rename_i ob e2; obtain⟨h1,rfl⟩:=iw h; simp only[qc,qt,e1,e2]; exact⟨U0 h1,trivial⟩
   ·cases h
  ·rename_i hne
   obtain⟨h1,rfl⟩:=iw h
   simp only[qc,qt]
   exact⟨U1 h1,trivial⟩
 case sa n x =>
  split at h
  ·rename_i e1; obtain⟨h1,rfl⟩:=iw h; simp only[qc,qt,e1]; exact⟨h1,trivial⟩
  ·cases h
 case E5 x =>
  split at h
  ·rename_i e1; cases h; simp only[qc,qt,e1]; exact⟨trivial,rfl⟩
  ·cases h
 case ss x lo hi =>
  split at h
  ·rename_i e1 e2 e3; cases h; simp only[qc,qt,e1,e2,e3]; exact⟨trivial,trivial⟩
  ·rename_i e1 e2 e3; obtain⟨h1,rfl⟩:=iw h; simp only[qc,qt,e1,e2,e3]; simp only[Bool.and_eq_true,qy,decide_eq_true_eq] at h1; exact⟨h1,trivial⟩
  ·rename_i e1 e2 e3; obtain⟨h1,rfl⟩:=iw h; simp only[qc,qt,e1,e2,e3]; simp only[Bool.and_eq_true,qy,decide_eq_true_eq] at h1; exact⟨h1,trivial⟩
  ·rename_i e1 e2 e3; obtain⟨h1,rfl⟩:=iw h; simp only[qc,qt,e1,e2,e3]; simp only[Bool.and_eq_true,qy,decide_eq_true_eq] at h1; exact⟨⟨h1.1.1,h1.1.2,h1.2⟩,trivial⟩
  ·cases h
 case ex x i =>
  split at h
  ·rename_i e1; obtain⟨h1,rfl⟩:=iw h; simp only[qc,qt,e1]; exact⟨h1,trivial⟩
  ·cases h
 case mf f cap=>obtain⟨h1,rfl⟩:=iw h; exact⟨h1,rfl⟩
 case mb f x =>
  split at h
  ·rename_i e1; obtain⟨h1,rfl⟩:=iw h; simp only[qc,qt,e1]; exact⟨Nat.blt_eq.mp h1,trivial⟩
  ·cases h
 case eqs ne n x y =>
  split at h
  ·rename_i e1 e2; obtain⟨h1,rfl⟩:=iw h; simp only[qc,qt,e1,e2]; exact⟨h1,trivial⟩
  ·cases h
 case WA z x i =>
  split at h
  ·rename_i o n e1 e2
   split at h
   ·rename_i ob e3; obtain⟨h1,rfl⟩:=iw h; simp only[qc,qt,e1,e2,e3]; exact⟨by simpa using h1,rfl⟩
   ·cases h
  ·cases h
section
variable {P:Program}
def MI(P:Program)(cf:CF):Prop:= ∀ dr n f ts h t h',cf dr n f ts h=some (t,h') ->
 bF P f ts (lk h) n (fun t1 h1=>t1=t/\h1=lk h')/\(dr=true->lk h'=lk h/\t.free=true) /\
 (T.aT ts=true-> ∃ o:Option Ob,lk h'=gI (lk h) n o/\t.ids (fun i=>i=n)/\(∀ ob,o=some ob->T.aT ob.l=true)/\ ∀ hp,bF P f ts hp n fun t1 h1=>t1=t/\h1=gI hp n o)
theorem Gg{cf:CF}(C:MI P cf){dr:Bool}{n:Nat}{d:Option Nat}{f:FuncId}{ts:List T}{x x':XS}{s:AS}(S:uh x s)(h:zN cf dr n d f ts x=some x'){K:AS->Prop}(hK: ∀ s',uh x' s'->K s') :
  jY P dr n d f ts K s:=by
 unfold zN at h
 split at h
 ·rename_i t h' e
  obtain⟨h1,h2,_⟩:=C dr n f ts x.hp t h' e
  unfold jY
  rw[S.hp]
  refine h1.mono fun t1 g ⟨e1,e2⟩=>⟨fun hd=>?_,?_⟩
  ·rw[e1,e2]; exact h2 hd
  ·rw[e1,e2]; exact hK _ (S.qw h)
 ·cases h
theorem U2{cf:CF}(C:MI P cf){dr:Bool}{n:Nat}{d:Option Nat}{op:kS}{x x':XS}{s:AS}(S:uh x s)(h:G8 cf dr n d op x=some x'){K:AS->Prop}(hK: ∀ s',uh x' s'->K s') :
  jP P dr n d op K s:=by
 have hev:=S.evs
 have U3:=S.hp
 by_cases hq:bC op=true
 ·have h':(match xq x.ev (lk x.hp) op with|some t=>JV t fun t=>x.put d t|none=>none)=some x':=by
   cases op<;>first|exact h|(simp[bC] at hq; done)
  split at h'
  ·rename_i t e
   rw[XE] at h'
   rw[<- hev,<- U3] at e
   obtain⟨h1,h2⟩:=abB e
   rw[bf hq]
   refine⟨h1,hK _ ?_⟩
   rw[h2]; exact S.put h'
  ·cases h'
 cases op<;>first|(exact absurd rfl hq)|skip
 case box ty k a =>
  simp only[G8] at h
  simp only[jP]
  rw[hev,U3]
  cases hb:((x.ev a).kd==k&&(x.ev a).iL (lk x.hp)&&qK k) with
  |false=>rw[hb] at h; cases h
  |true=>rw[hb] at h; refine⟨rfl,hK _ ?_⟩; rw[<- xw]; exact S.qw h
 case al ty k z =>
  simp only[G8] at h
  simp only[jP]
  rw[U3]
  cases hb:(z.kd==k&&z.iL (lk x.hp)&&z.free&&qK k) with
  |false=>rw[hb] at h; cases h
  |true=>rw[hb] at h; refine⟨rfl,hK _ ?_⟩; rw[<- xw]; exact S.qw h
 case make ty k bytes z a b =>
  simp only[G8] at h
  simp only[jP]
  rw[hev,U3]
  split at h
  ·rename_i c u c' v e1 e2
   simp only[e1,e2]
   cases hb:((z.kd==k&&z.iL (lk x.hp)&&z.free&&qK k)&&(xY 0 u&&xY u v&&xY (v*bytes) 140737488355328&&xY v 1152921504606846976)) with
   |false=>rw[hb] at h; cases h
   |true =>
    rw[hb] at h
    rw[Bool.and_eq_true] at hb
    obtain⟨b1,b2⟩:=hb
    simp only[Bool.and_eq_true,qy,decide_eq_true_eq] at b2
    refine⟨b1,⟨b2.1.1.1,b2.1.1.2,b2.1.2,b2.2⟩,hK _ ?_⟩
    rw[<- xw]; exact S.qw h
  ·cases h
 case st k a v =>
  simp only[G8] at h
  simp only[jP]
  rw[hev,U3]
  split at h
  ·rename_i i j off e1
   simp only[e1]
   split at h
   ·rename_i ob e2
    simp only[e2]
    cases hb:(((x.ev v).kd==k&&(x.ev v).iL (lk x.hp))&&Nat.blt j ob.l.length&&((off==0&&ob.k==k)||(!(ob.k==0)&&jc (aU ob.k) off k))) with
    |false=>rw[hb] at h; cases h
    |true =>
     rw[hb] at h
     cases h
     rw[Bool.and_eq_true,Bool.and_eq_true] at hb
     refine⟨hb.1.1,Nat.blt_eq.mp hb.1.2,hb.2,hK _ ⟨S.fr,S.len,S.has,?_,S.nx,S.pin⟩⟩
     exact(JZ _ _ _).symm
   ·cases h
  ·cases h
 case app ty k bytes a b =>
  simp only[G8] at h
  simp only[jP]
  rw[hev,U3]
  split at h
  ·rename_i m e1
   simp only[e1]
   split at h
   ·rename_i k' l e2
    simp only[e2]
    cases hb:((Nat.beq k' k||l.isEmpty)&&(l.isEmpty|| !m.isEmpty)&&Nat.ble ((l.length+m.length)*bytes) 140737488355328&&Nat.ble (l.length+m.length) 1152921504606846976) with
    |false=>rw[hb] at h; cases h
    |true =>
     rw[hb] at h
     simp only[Bool.and_eq_true,Nat.ble_eq] at hb
     obtain⟨⟨⟨b1,b2⟩,b3⟩,b4⟩:=hb
     refine⟨kOr b1,.inl ?_,b3,b4,hK _ ?_⟩
     ·rw[Bool.or_eq_true] at b2
      rcases b2 with b2|b2
      ·exact .inl (isEmpty_nil b2)
      ·right; intro e; rw[e] at b2; simp at b2
     ·rw[<- xw]; exact S.qw h
   ·rename_i i e2
    simp only[e2]
    split at h
    ·rename_i ob e3
     simp only[e3]
     cases hb:((ob.k==k&&ob.ty==ty)&&Nat.ble ((ob.l.length+m.length)*bytes) 140737488355328&&Nat.ble (ob.l.length+m.length) 1152921504606846976) with
     |false=>rw[hb] at h; cases h
     |true =>
      rw[hb] at h
      rw[Bool.and_eq_true,Bool.and_eq_true,Nat.ble_eq,Nat.ble_eq] at hb
      refine⟨hb.1.1,hb.1.2,hb.2,hK _ ?_⟩
      rw[<- XD,<- xw]; exact S.qw h
    ·cases h
   ·cases h
  ·cases h
 case DL ty k z m ps =>
  simp only[G8] at h
  simp only[jP]
  rw[hev,U3]
  cases hb:((z.kd==k)&&z.free&&zC k m (ps.map fun p=>(p.1,x.ev p.2))&&oN (lk x.hp) (ps.map fun p=>x.ev p.2)&&Nat.ble (m*aU k) 16777216&&qK k) with
  |false=>rw[hb] at h; cases h
  |true=>rw[hb] at h; refine⟨rfl,hK _ ?_⟩; rw[<- xw]; exact S.qw h
 case call f xs =>
  simp only[G8] at h
  simp only[jP]
  rw[hev]
  exact Gg C S h hK
 case jQ a xs =>
  simp only[G8] at h
  simp only[jP]
  rw[hev]
  split at h
  ·rename_i f cap e1
   simp only[e1]
   cases hb:Nat.blt f 4096 with
   |true=>rw[hb] at h; exact Gg C S h hK
   |false=>rw[hb] at h; exact Gg C S h hK
  ·cases h
 case vF a =>
  simp only[G8] at h
  simp only[jP]
  rw[hev,U3]
  split at h
  ·rename_i k f l e1
   simp only[e1]
   cases hb:l.isEmpty with
   |true=>rw[hb] at h; cases h
   |false=>rw[hb] at h; exact⟨fun e=>(by rw[e] at hb; cases hb),hK _ (S.put h)⟩
  ·rename_i i e1
   simp only[e1]
   split at h
   ·rename_i ob e2
    simp only[e2]
    cases hb:(ob.l.isEmpty||ob.k==dK) with
    |true=>rw[hb] at h; cases h
    |false =>
     rw[hb] at h
     rw[Bool.or_eq_false_iff] at hb
     exact⟨fun e=>(by rw[e] at hb; cases hb.1),hK _ (S.put h),by simpa using hb.2⟩
   ·cases h
  ·cases h
 case P5 ty =>
  simp only[G8] at h
  simp only[jP]
  rw[U3]
  refine hK _ ?_; rw[<- xw]; exact S.qw h
 case Jt a i v =>
  simp only[G8] at h
  simp only[jP]
  rw[hev,U3]
  split at h
  ·rename_i o m e1 e2
   simp only[e1,e2]
   split at h
   ·rename_i ob e3
    simp only[e3]
    cases hb:(ob.k==dK&&((x.ev v).kd==0&&(x.ev v).uf (lk x.hp))) with
    |false=>rw[hb] at h; cases h
    |true =>
     rw[hb] at h
     cases h
     rw[Bool.and_eq_true] at hb
     refine⟨by simpa using hb.1,hb.2,hK _ ⟨S.fr,S.len,S.has,?_,S.nx,S.pin⟩⟩
     exact(JZ _ _ _).symm
   ·cases h
  ·cases h
 case KU k z a =>
  simp only[G8] at h
  simp only[jP]
  rw[hev,U3]
  split at h
  ·rename_i i lo hi e1
   simp only[e1]
   split at h
   ·rename_i ob e2
    simp only[e2]
    cases hb:((ob.k==k&&z.kd==k&&z.iL (lk x.hp)&&z.free)&&Nat.ble hi ob.l.length) with
    |false=>rw[hb] at h; cases h
    |true =>
     rw[hb] at h
     rw[Bool.and_eq_true,Nat.ble_eq] at hb
     refine⟨hb.1,hb.2,hK _ ?_⟩
     rw[<- JZ]; exact S.qw h
   ·cases h
  ·cases h
 case bot=>cases h
theorem uh.obj{x:XS}{s:AS}(S:uh x s){m i:Nat}(h:ZU x m=some i):s.obj m=some i:=by
 unfold ZU at h
 cases hb:Nat.blt m x.n with
 |false=>rw[hb] at h; cases h
 |true =>
  rw[hb] at h
  simp only[cond_true] at h
  unfold AS.obj
  rw[S.Z5 (Nat.blt_eq.mp hb)]
  split at h
  ·rename_i e; rw[e]; exact h
  ·cases h
theorem Z7{x:XS}{s:AS}(S:uh x s){xs:List X}: ∀ {l:List Nat},neX x xs l=true->Fe s xs l=true:=by
 intro l
 induction l with
 |nil=>intro _; rfl
 |cons m r ih =>
  intro h
  simp only[neX,Bool.and_eq_true] at h
  simp only[Fe,Bool.and_eq_true]
  refine⟨?_,ih h.2⟩
  have h1:=h.1
  split at h1
  ·rename_i i e
   rw[S.obj e]
   simp only[S.ev]; exact h1
  ·cases h1
theorem U4{x:XS}{s:AS}(S:uh x s){dr:Bool}{o:ay}(h:ru dr o x=true):iI o s:=by
 unfold ru at h
 rw[Bool.and_eq_true,Bool.and_eq_true] at h
 refine⟨fun hf=>?_,Z7 S h.2⟩
 have h1:=h.1.2
 rw[hf] at h1
 simp only[cond_true] at h1
 rw[S.nx,S.evs]
 exact h1
theorem U5{x:XS}{dr:Bool}{o:ay}(h:ru dr o x=true)(e:o.ad=true):dr=true/\OW o.op=true:=by
 unfold ru at h
 rw[Bool.and_eq_true,Bool.and_eq_true,Bool.and_eq_true] at h
 simpa [e] using h.1.1.2
theorem U6{x:XS}{dr:Bool}{o:ay}(h:ru dr o x=true)(e:o.ar=true):o.fl=true/\ ∃ f xs,o.op= .call f xs/\T.aT (xs.map x.ev)=true:=by
 unfold ru at h
 rw[Bool.and_eq_true,Bool.and_eq_true,Bool.and_eq_true] at h
 have:=h.1.1.1
 rw[e] at this
 simp only[Bool.not_true,Bool.false_or,Bool.and_eq_true] at this
 refine⟨this.1.1,?_⟩
 have h2:=this.2
 split at h2
 ·rename_i f xs eo; exact⟨f,xs,eo,h2⟩
 ·cases h2
theorem MJ{P:Program}{cf:CF}(C:MI P cf){n:Nat}{d:Option Nat}{op:kS}{x x':XS}(hc:OW op=true)(h:G8 cf true n d op x=some x'):lk x'.hp=lk x.hp:=by
 have key: ∀ {f:FuncId} {ts:List T},zN cf true n d f ts x=some x'->lk x'.hp=lk x.hp:=by
  intro f ts h
  unfold zN at h
  split at h
  ·rename_i t h' e
   have h2:=((C true n f ts x.hp t h' e).2.1 rfl).1
   unfold XS.qw at h
   cases d with
   |none=>cases h; exact h2
   |some i =>
    simp only at h
    cases hb:Nat.blt i x.n with
    |false=>rw[hb] at h; cases h
    |true=>rw[hb] at h; cases h; exact h2
  ·cases h
 cases op<;>try (cases hc; done)
 ·exact key h
 ·simp only[G8] at h
  split at h
  ·rename_i f cap _
   cases hb:Nat.blt f 4096 with
   |true=>rw[hb] at h; exact key h
   |false=>rw[hb] at h; exact key h
  ·cases h
theorem U7{P:Program}{n:Nat}{o:ay}{dr:Bool}{K:AS->Prop}{s:AS}(h:jP P dr n o.d o.op K s):jP P (o.dr dr) n o.d o.op K s:=by
 have key: ∀ {f:FuncId} {ts:List T},jY P dr n o.d f ts K s->jY P (dr&& !o.fl) n o.d f ts K s:=fun h =>
  bF.mono h fun t h' p=>⟨fun e=>p.1 (by rw[Bool.and_eq_true] at e; exact e.1),p.2⟩
 unfold ay.dr
 cases hop:o.op<;>rw[hop] at h<;>try exact h
 ·exact key h
 ·simp only[jP] at h ⊢
  split at h
  ·rename_i f cap _
   cases hb:Nat.blt f 4096 with
   |true=>rw[hb] at h; exact key h
   |false=>rw[hb] at h; exact key h
  ·exact h.elim
theorem XG{cf:CF}(C:MI P cf){dr:Bool}{m:Nat}{K:AS->Prop}: ∀ {ops:List ay} {i:Nat} {x x':XS} {s:AS},uh x s->Ai cf dr m ops i x=some x'->(∀ s',uh x' s'->K s')->nG P dr m K ops i s:=by
 intro ops
 induction ops with
 |nil =>
  intro i x x' s S h hK
  simp only[Ai,Ql] at h
  cases h
  exact hK _ ⟨S.fr,S.len,S.has,S.hp,by show s.nx+m=x.nx+m; rw[S.nx],S.pin⟩
 |cons o r ih =>
  intro i x x' s S h hK
  simp only[Ai] at h
  rw[nG,wX]
  have hop: ∀ {y:XS},(match G8 cf (ZV dr o) (Nat.add x.nx i) o.d o.op x with|some s'=>Ai cf dr m r (Nat.succ i) s'|none=>none)=some y->(∀ s',uh y s'->K s')->ru dr o x=true ->
    iI o s/\(Zm P dr (s.nx+i) o (nG P dr m K r (i+1)) s\/YH P dr (s.nx+i) o.d o.op (nG P dr m K r (i+1)) s):=by
   intro y hy hK' hf
   split at hy
   ·rename_i x1 e1
    refine⟨U4 S hf,.inl ?_⟩
    rw[S.nx]
    cases har:o.ar with
    |false =>
     refine .inl ⟨har,?_⟩
     unfold ZV at e1
     rw[har] at e1
     cases had:o.ad with
     |true =>
      rw[had] at e1
      simp only[cond_true,cond_false] at e1
      exact U7 (U2 C S e1 fun s' S'=>⟨fun e i ob hi=>by
       obtain⟨hd,hc⟩:=U5 hf e
       subst hd
       rw[S'.hp,MJ C hc e1,<- S.hp]; exact hi,ih S' hy hK'⟩)
     |false =>
      rw[had] at e1
      simp only[cond_false] at e1
      exact U2 C S e1 fun s' S'=>⟨fun e=>(by rw[had] at e; cases e),ih S' hy hK'⟩
    |true =>
     obtain⟨hfl,f,xs,eo,hfr⟩:=U6 hf har
     refine .inr ⟨har,hfl,?_⟩
     unfold ZV at e1
     rw[har] at e1
     simp only[cond_true] at e1
     rw[eo] at e1 ⊢
     simp only[G8] at e1
     unfold zN at e1
     split at e1
     ·rename_i t h' ec
      obtain⟨_,_,c3⟩:=C _ _ f _ x.hp t h' ec
      obtain⟨ob,a1,a2,a3,a4⟩:=c3 hfr
      refine⟨t,ob,a2,a3,fun hp _ _=>?_,?_⟩
      ·rw[S.evs]; exact a4 hp
      ·have:=S.qw e1
       rw[a1,<- S.hp] at this
       exact ih this hy hK'
     ·cases e1
   ·cases hy
  split at h
  ·rename_i hg
   cases hf:ru dr o x with
   |false=>rw[hf] at h; cases h
   |true =>
    rw[hf] at h
    left
    refine⟨by rw[hg]; rfl,hop h hK hf⟩
  ·rename_i d want hg
   split at h
   ·rename_i b e
    cases hb:Nat.blt d x.n with
    |false=>rw[hb] at h; cases h
    |true =>
     rw[hb] at h
     simp only[cond_true] at h
     have hgv:gv o.g s=some (b==want):=by rw[hg]; simp only[gv]; rw[S.Z5 (Nat.blt_eq.mp hb),e]
     rw[hgv]
     cases hw:(b==want) with
     |true =>
      rw[hw] at h
      left
      simp only[cond_true] at h
      cases hf:ru dr o x with
      |false=>rw[hf] at h; cases h
      |true=>rw[hf] at h; exact⟨rfl,hop h hK hf⟩
     |false =>
      rw[hw] at h
      right
      simp only[cond_false] at h
      split at h
      ·rename_i x1 e1; exact⟨rfl,ih (S.put e1) h hK⟩
      ·cases h
   ·rename_i tt e
    cases hb:Nat.blt d x.n with
    |false=>rw[hb] at h; cases h
    |true =>
     rw[hb] at h
     simp only[cond_true] at h
     have hgv:gv o.g s=some false:=by rw[hg]; simp only[gv]; rw[S.Z5 (Nat.blt_eq.mp hb),e]
     rw[hgv]
     right
     split at h
     ·rename_i x1 e1; exact⟨rfl,ih (S.put e1) h hK⟩
     ·cases h
   ·cases h
end
structure U8(z:XH)(h:Hp):Prop where
 at': ∀ i o,lk z i=some o->h i=some o/\o.k≠dK/\T.aT o.l=true
theorem MK{p:Nat->Bool}{h:XH}: ∀ {r:XH} {i:Nat} {o:Ob},lk (vX p h r) i=some o->p i=true/\lk h i=some o/\o.k≠dK/\T.aT o.l=true:=by
 intro r
 induction r with
 |nil=>intro i o e; simp[vX,lk] at e
 |cons q r ih =>
  obtain⟨j,u⟩:=q
  intro i o e
  simp only[vX] at e
  cases hp:p j with
  |false=>rw[hp] at e; exact ih e
  |true =>
   rw[hp] at e
   simp only[cond_true] at e
   split at e
   ·rename_i v hv
    cases hb:(!(v.k==dK)&&T.aT v.l) with
    |false=>rw[hb] at e; exact ih e
    |true =>
     rw[hb] at e
     simp only[cond_true] at e
     rw[dZ] at e
     by_cases hij:j=i
     ·rw[if_pos hij] at e; cases e
      subst hij
      rw[Bool.and_eq_true] at hb
      exact⟨hp,hv,by simpa using hb.1,hb.2⟩
     ·rw[if_neg hij] at e; exact ih e
   ·exact ih e
theorem jv{l:List T}:T.aT l=true↔ ∀ t∈l,t.free=true:=by
 induction l with
 |nil=>simp[T.aT]
 |cons t ts ih=>simp[T.aT,ih]
theorem IQ{l:List T}(h:T.aT l=true)(a b:Nat):T.aT ((l.take b).drop a)=true:=by
 rw[jv] at h ⊢
 intro t ht
 exact h t (List.mem_of_mem_take (List.mem_of_mem_drop ht))
theorem oZ(z:XH): ∀ l:List T,T.IK z l=l.map (T.fz z):=by
 intro l
 induction l with
 |nil=>rfl
 |cons t ts ih=>simp only[T.IK,List.map_cons,ih]
mutual
theorem Z8{z:XH}{h:Hp}(H:U8 z h):(t:T)->T.sub (fun i=>(lk z i).isSome=true) h (t.fz z) t
 | .lit v=>by simp[T.fz,T.sub]
 | .agg l=>by simp only[T.fz,T.sub]; exact BH H l
 | .sl k f l=>by simp[T.fz,T.sub]
 | .ref k t=>by simp[T.fz,T.sub]
 | .own i=>by
  simp only[T.fz]
  split
  ·rename_i ob e
   obtain⟨h1,h2,h3⟩:=H.at' i ob e
   simp only[T.sub]
   exact⟨trivial,by rw[e]; rfl,h3,h2,ob.ty,h1⟩
  ·simp[T.sub]
 | .ptr i j o=>by
  simp only[T.fz]
  split
  ·rename_i ob e
   obtain⟨h1,h2,h3⟩:=H.at' i ob e
   cases hb:(Nat.beq o 0&&Nat.blt j ob.l.length) with
   |false=>simp[T.sub]
   |true =>
    simp only[Bool.and_eq_true,Nat.blt_eq] at hb
    simp only[cond_true,T.sub]
    refine⟨Nat.eq_of_beq_eq_true hb.1,by rw[e]; rfl,?_,h2,ob.ty,ob.l,h1,?_⟩
    ·exact jv.1 h3 _ (by rw[List.getD_eq_getElem?_getD,List.getElem?_eq_getElem hb.2]; simp)
    ·rw[List.getD_eq_getElem?_getD,List.getElem?_eq_getElem hb.2]; rfl
  ·simp[T.sub]
 | .lF i a b=>by
  simp only[T.fz]
  split
  ·rename_i ob e
   obtain⟨h1,h2,h3⟩:=H.at' i ob e
   cases hb:Nat.ble b ob.l.length with
   |false=>simp[T.sub]
   |true =>
    simp only[cond_true,T.sub]
    exact⟨trivial,by rw[e]; rfl,IQ h3 a b,h2,ob.ty,ob.l,h1,Nat.le_of_ble_eq_true hb,rfl⟩
  ·simp[T.sub]
 | .fn f c=>by simp[T.fz,T.sub]
 | .iF l=>by simp only[T.fz,T.sub]; exact BH H l
 | .any=>by simp[T.fz,T.sub]
theorem BH{z:XH}{h:Hp}(H:U8 z h):(l:List T)->T.eU (fun i=>(lk z i).isSome=true) h (T.IK z l) l
 |[]=>by simp[T.IK,T.eU]
 |t::ts=>by simp only[T.IK,T.eU]; exact⟨Z8 H t,BH H ts⟩
end
theorem abC(z:XH)(t:T):(t.fz z).kd=t.kd:=by
 cases t<;>simp only[T.fz]<;>try rfl
 case agg l=>simp only[T.kd]; rw[oZ,List.length_map]
 case own i=>split<;>rfl
 case ptr i a b =>
  split
  ·rename_i ob e
   cases (Nat.beq b 0&&Nat.blt a ob.l.length)<;>rfl
  ·rfl
 case lF i a b =>
  split
  ·rename_i ob e
   cases Nat.ble b ob.l.length<;>rfl
  ·rfl
theorem Z9{z:XH}{t:T}{v:Value}(h:t.fz z= .lit v):t= .lit v:=by
 cases t<;>simp only[T.fz] at h<;>try (first|exact h|(cases h; done))
 case own i=>split at h<;>cases h
 case ptr i a b =>
  split at h
  ·rename_i ob e
   cases hb:(Nat.beq b 0&&Nat.blt a ob.l.length)<;>rw[hb] at h<;>cases h
  ·cases h
 case lF i a b =>
  split at h
  ·rename_i ob e
   cases hb:Nat.ble b ob.l.length<;>rw[hb] at h<;>cases h
  ·cases h
theorem Dn{t:T}:jC t=true↔ ∃ n u,t= .iF [.lit (.int .i64 n),u]:=by
 constructor
 ·intro h; unfold jC at h; split at h
  ·exact⟨_,_,rfl⟩
  ·cases h
 ·rintro⟨n,u,rfl⟩; rfl
theorem aac(z:XH)(t:T):jC (t.fz z)=jC t:=by
 rw[Bool.eq_iff_iff,Dn,Dn]
 constructor
 ·rintro⟨n,u,e⟩
  cases t<;>simp only[T.fz] at e<;>try (cases e; done)
  case own i=>split at e<;>cases e
  case ptr i a b =>
   split at e
   ·rename_i ob _
    cases hb:(Nat.beq b 0&&Nat.blt a ob.l.length)<;>rw[hb] at e<;>cases e
   ·cases e
  case lF i a b =>
   split at e
   ·rename_i ob _
    cases hb:Nat.ble b ob.l.length<;>rw[hb] at e<;>cases e
   ·cases e
  case iF l =>
   rw[oZ] at e
   cases l with
   |nil=>cases e
   |cons a l =>
    cases l with
    |nil=>simp at e
    |cons b l =>
     cases l with
     |cons c l=>simp at e
     |nil =>
      simp only[List.map_cons,List.map_nil,T.iF.injEq,List.cons.injEq,and_true] at e
      exact⟨n,b,by rw[Z9 e.1]⟩
 ·rintro⟨n,u,rfl⟩
  exact⟨n,u.fz z,rfl⟩
theorem Qm(z:XH)(h:XH)(i:Nat):lk (JX z h) i=if(lk z i).isSome=true then none else(lk h i).map (Ob.fz z):=by
 induction h with
 |nil=>simp[JX,lk]
 |cons p r ih =>
  obtain⟨j,o⟩:=p
  simp only[JX]
  split
  ·rename_i u e
   rw[ih,dZ]
   by_cases hij:j=i
   ·subst hij; rw[e]; rfl
   ·rw[if_neg hij]
  ·rename_i e
   rw[dZ,ih,dZ]
   by_cases hij:j=i
   ·subst hij; rw[if_pos rfl,e,if_pos rfl]; rfl
   ·rw[if_neg hij,if_neg hij]
def AS.XI(z:XH)(s:AS):AS:= {s with fr:=T.IK z s.fr,hp:=fun i=>if(lk z i).isSome=true then none else(s.hp i).map (Ob.fz z)}
theorem YT{z:XH}{s:AS}(H:U8 z s.hp):TY (fun i=>(lk z i).isSome=true) (s.XI z) s:=by
 refine⟨BH H s.fr,fun i ob hi=>?_,rfl,rfl⟩
 simp only[AS.XI] at hi
 split at hi
 ·cases hi
 ·rename_i hz
  obtain⟨ob',h1,rfl⟩:=Option.map_eq_some_iff.1 hi
  refine⟨ob',h1,hz,rfl,rfl,BH H ob'.l,?_,?_⟩
  ·show(T.IK z ob'.l).map T.kd=_
   rw[oZ,List.map_map]; exact List.map_congr_left fun t _=>abC z t
  ·show(T.IK z ob'.l).map jC=_
   rw[oZ,List.map_map]; exact List.map_congr_left fun t _=>aac z t
theorem Qn(z:XH):T.fz z T.un=T.un:=rfl
theorem getD_map{f:T->T}{l:List T}{i:Nat}{d:T}(h:f d=d):(l.map f).getD i d=f (l.getD i d):=by
 simp only[List.getD_eq_getElem?_getD,List.getElem?_map]
 cases l[i]? <;>simp[h]
theorem uh.fz{x:XS}{s:AS}(S:uh x s)(z:XH):uh (x.fz z) (s.XI z):=by
 refine⟨fun i=>?_,?_,fun i hi=>Tr.XC.2 (S.has i hi),?_,S.nx,S.pin⟩
 ·show(T.IK z s.fr).getD i T.un=(x.fr.map (T.fz z)).get i
  rw[oZ,getD_map (Qn z),Tr.get_map (Qn z),S.fr]
 ·show(T.IK z s.fr).length=x.n
  rw[oZ,List.length_map]; exact S.len
 ·funext i
  show(if(lk z i).isSome=true then none else(s.hp i).map (Ob.fz z))=lk (JX z x.hp) i
  rw[Qm,S.hp]
theorem RS(p:Nat->Bool)(h:XH)(i:Nat):lk (uT p h) i=if p i=true then lk h i else none:=by
 induction h with
 |nil=>simp[uT,lk]
 |cons q r ih =>
  obtain⟨j,o⟩:=q
  simp only[uT]
  cases hp:p j with
  |true =>
   simp only[cond_true]
   rw[dZ,ih,dZ]
   by_cases hij:j=i
   ·subst hij; rw[if_pos rfl,if_pos rfl,if_pos hp]
   ·rw[if_neg hij,if_neg hij]
  |false =>
   simp only[cond_false]
   rw[ih,dZ]
   by_cases hij:j=i
   ·subst hij; rw[hp]; rfl
   ·rw[if_neg hij]
theorem Gh{Z:Nat->Prop}{h:Hp}(l:List T):T.eU Z h l l:=gY l
theorem uh.keep{x:XS}{s:AS}(S:uh x s)(p:Nat->Bool): ∃ s1,AB s1 s/\uh {x with hp:=uT p x.hp} s1:=by
 refine⟨{s with hp:=lk (uT p x.hp)},.fz (Z:=fun _=>False) (s':= {s with hp:=lk (uT p x.hp)}) ⟨Gh _,fun i ob hi=>?_,rfl,rfl⟩ (.refl _),⟨S.fr,S.len,S.has,rfl,S.nx,S.pin⟩⟩
 have hi':lk (uT p x.hp) i=some ob:=hi
 rw[RS] at hi'
 split at hi'
 ·exact⟨ob,by rw[S.hp]; exact hi',fun h=>h,rfl,rfl,Gh _,rfl,rfl⟩
 ·cases hi'
theorem uh.gc{x:XS}{s:AS}(S:uh x s): ∃ s1,AB s1 s/\uh x.gc s1:=by
 unfold XS.gc
 cases longer 12 x.hp with
 |true=>exact S.keep _
 |false=>exact⟨s,.refl _,S⟩
theorem AB.trans{s s' s'':AS}(h:AB s s')(h':AB s' s''):AB s s'':=by
 induction h' with
 |refl=>exact h
 |slot a _ ih=>exact .slot a ih
 |cell a _ ih=>exact .cell a ih
 |take a _ ih=>exact .take a ih
 |fz a _ ih=>exact .fz a ih
theorem uh.H7{x:XS}{s:AS}(S:uh x s)(m:ZW): ∃ s1,AB s1 s/\uh (x.H7 m) s1:=by
 unfold XS.H7
 split
 ·exact S.gc
 ·split
  ·exact S.gc
  ·rename_i l _ z _
   have H:U8 (vX (fun i=>Nat.ble x.pin i&&uS i (ZY m x)) x.hp x.hp) s.hp:=⟨fun i o e=>by
    obtain⟨_,h1,h2,h3⟩:=MK e
    exact⟨by rw[S.hp]; exact h1,h2,h3⟩⟩
   obtain⟨s1,h1,h2⟩:=(S.fz (vX (fun i=>Nat.ble x.pin i&&uS i (ZY m x)) x.hp x.hp)).gc
   exact⟨s1,h1.trans (.fz (YT H) (.refl _)),h2⟩
section
variable {P:Program}
def Good(Q:nD->AS->Prop):Out->Prop
 | .bad=>False
 | .go x=> ∀ s,uh x s->Q .normal s
 | .ex id x=> ∀ s,uh x s->Q (.exit id) s
 | .rt x=> ∀ s,uh x s->Q .ret s
theorem Dp{p:Nat->Prop}: ∀ n,p n-> ∃ m,p m/\ ∀ k,p k->m<=k:=by
 intro n
 induction n using Nat.strongRecOn with
 |ind n ih =>
  intro hn
  by_cases h: ∃ k,k<n/\p k
  ·obtain⟨k,h1,h2⟩:=h; exact ih k h1 h2
  ·exact⟨n,hn,fun k hk=>Nat.le_of_not_lt fun hlt=>h ⟨k,hlt,hk⟩⟩
open Classical in
theorem YU{cf:CF}(C:MI P cf){big:Nat}: ∀ (c:dU) {x:XS} {s:AS} {Q:nD->AS->Prop},uh x s->Good Q (xr cf big c x)->aw P c Q s:=by
 intro c
 induction c with
 |skip=>intro x s Q S h; exact h s S
 |reg dr ops =>
  intro x s Q S h
  simp only[xr] at h
  simp only[aw]
  split at h
  ·rename_i x' e; exact XG C S e h
  ·exact h.elim
 |seq a b iha ihb =>
  intro x s Q S h
  simp only[xr] at h
  simp only[aw]
  refine iha S ?_
  cases e:xr cf big a x with
  |bad=>rw[e] at h; exact h
  |go x'=>rw[e] at h; exact fun s' S'=>ihb S' h
  |ex id x'=>rw[e] at h; exact h
  |rt x'=>rw[e] at h; exact h
 |cond c a b iha ihb =>
  intro x s Q S h
  simp only[xr] at h
  simp only[aw]
  rw[S.ev]
  split at h
  ·rename_i e; simp only[e]; exact⟨fun _=>iha S h,fun q=>(by cases q)⟩
  ·rename_i e; simp only[e]; exact⟨fun q=>(by cases q),fun _=>ihb S h⟩
  ·exact h.elim
 |blk id b ih =>
  intro x s Q S h
  simp only[xr] at h
  simp only[aw]
  refine ih S ?_
  cases e:xr cf big b x with
  |bad=>rw[e] at h; exact h
  |go x'=>rw[e] at h; exact h
  |rt x'=>rw[e] at h; exact h
  |ex j x' =>
   rw[e] at h
   simp only[oW] at h
   intro s' S'
   show(bif j==id then Q .normal s' else Q (.exit j) s')
   cases hj:(j==id) with
   |true=>rw[hj] at h; exact h s' S'
   |false=>rw[hj] at h; exact h s' S'
 |exit id=>intro x s Q S h; exact h s S
 |ret=>intro x s Q S h; exact h s S
 |loop b ih =>
  intro x s Q S h
  simp only[xr] at h
  simp only[aw,xJ]
  let I:AS->Nat->Prop:=fun s n=> ∃ y,uh (y.H7 (D6 b)) s/\Good Q (iter (D6 b) (xr cf big b) n y)
  let μ:AS->Nat:=fun s=>if hh: ∃ n,I s n then Classical.choose (Dp _ (Classical.choose_spec hh)) else 0
  have hμ: ∀ s,(∃ n,I s n)->I s (μ s)/\ ∀ k,I s k->μ s<=k:=by
   intro s hh
   have e:μ s=Classical.choose (Dp _ (Classical.choose_spec hh)):=dif_pos hh
   rw[e]
   exact Classical.choose_spec (Dp _ (Classical.choose_spec hh))
  refine⟨fun s=> ∃ n,I s n,μ,?_,?_⟩
  ·obtain⟨s1,h1,h2⟩:=S.H7 (D6 b)
   exact⟨s1,⟨s1,h1,.inl rfl⟩,big,x,h2,h⟩
  ·intro s hI
   obtain⟨⟨y,h1,h2⟩,_⟩:=hμ s hI
   generalize hm:μ s=m at h2
   cases m with
   |zero=>exact h2.elim
   |succ m =>
    simp only[iter] at h2
    refine ih h1 ?_
    cases e:xr cf big b (y.H7 (D6 b)) with
    |bad=>rw[e] at h2; exact h2
    |ex id x'=>rw[e] at h2; exact h2
    |rt x'=>rw[e] at h2; exact h2
    |go x' =>
     rw[e] at h2
     intro s' S'
     obtain⟨s1,g1,g2⟩:=S'.H7 (D6 b)
     refine⟨s1,⟨s1,g1,.inl rfl⟩,⟨m,x',g2,h2⟩,?_⟩
     have:=(hμ s1 ⟨m,x',g2,h2⟩).2 m ⟨x',g2,h2⟩
     omega
end
section
variable {P:Program}
def abD(P:Program)(h:Hp)(n:Nat)(post:T->Hp->Prop)(rs:List RV):nD->AS->Prop
 | .exit _,_=>False
 |_,s=> ∃ s1,AB s1 s/\ ∀ (F:Fr P) (E:Env) (a:Act),Rel F (· <s1.nx) E s1 a->ZT h n post rs s1
theorem bF.ML{f:FuncId}{fn:Func}{c:Code}{ac:dU}{rs:List RV}{ts:List T}{h:Hp}{n nx nt:Nat}{post:T->Hp->Prop}(hf:P.funcs[f]? =some fn)(hb:fn.body=some c)(hc:comp P c=some ac)
  (hr:jZ P fn.results.toList=some rs) (hcl:callable P f) (hnt:fn.ntmps=nt) (hin: ∃ t h',post t h') (hts:T.aH (· <nx) ts) (hh:lW (· <nx) h)
  (H:aw P ac (abD P h n post rs) ⟨ts++List.replicate (nt-ts.length) T.un,h,nx,nx⟩):bF P f ts h n post:=by
 refine⟨hin,hcl,fun F M E vs hk he hrep hid hm hn=>?_⟩
 suffices hh: ∀ F:Fr P,F.dl=[]->pY F E->Calls P f vs.toArray E.w (Ends F M E n post) by
  refine(hh (F.defs []) rfl (hk.dl [])).mono ?_
  rintro e w' ⟨v,t,E',r1,r2,r3,r4,r5,r6,r7⟩
  exact⟨v,t,E',r1,r2,r3,r4,r5.OI,r6.OI,r7⟩
 clear hk
 intro F hdl hk
 refine calls_of_wp hf hb ?_
 have hlen:=lH hrep
 have hun: ∀ k,bK E (List.replicate k T.un) (List.replicate k undef):=by
  intro k
  induction k with
  |zero=>simp[bK]
  |succ k ih=>rw[List.replicate_succ,List.replicate_succ,bT]; exact⟨_,_,rfl,by rw[aC]; rfl,ih⟩
 have R:Rel F (· <nx) E ⟨ts++List.replicate (nt-ts.length) T.un,h,nx,nx⟩ {tmps:=vs.toArray++Array.replicate (fn.ntmps-vs.toArray.size) undef,defers:=[]}:=by
  refine⟨hk,he,?_,hdl.symm,dV.2 ⟨hts,bH.2 fun t ht=>by rw[List.eq_of_mem_replicate ht]; simp[T.ids]⟩,hh⟩
  have:=wP hrep (hun (nt-ts.length))
  simpa [hnt,hlen] using this
 refine wp_mono (MB c hc H (Nat.le_refl _) R) ?_
 rintro e a' w' ⟨ae,E',s',rfl,rfl,hQ,R',hpn,hle,hext,hs⟩
 have key:(∃ s1,AB s1 s'/\ ∀ (F:Fr P) (E:Env) (a:Act),Rel F (· <s1.nx) E s1 a->ZT h n post rs s1)->a'.defers=[]/\ ∃ v,(results fn a'.tmps).run P E'.w= .ok v E'.w/\Ends F M E n post (.returned v) E'.w:=by
  rintro⟨s1,hN,YV⟩
  obtain⟨E1,hw1,R1,hx1,hs1,hp1,_⟩:=hN.sound R' (by rw[hpn]; exact hle)
  have hret:=YV _ _ _ R1
  clear YV
  replace hext:=hext.trans hx1
  replace hs:=hs.trans hs1 (M':=(· <s1.pin)) (fun i hi=>by rw[hp1,hpn]; exact hi)
  clear hx1 hs1
  rw[<- hw1]
  clear hw1
  revert hret
  generalize E1=E' at *
  replace R':=R1
  clear R1
  generalize s1=s' at *
  rintro⟨hok,Z,ρ,t,h',hpost,hsub,OJ,hinj,Ri,OL,hfix⟩
  obtain⟨v,hrun,hv⟩:=D5 R' hr hok
  refine⟨R'.df.trans hdl,v,hrun,v,t,(E'.shut Z).ren ρ h',rfl,rfl,hpost,?_,?_,?_,?_,T.aV (fun i hi=>?_) _ Ri,fun i ob hi=>?_⟩
  ·have hl: ∀ i,(h' i).isSome=true->((E'.shut Z).h (ρ i)).isSome=true:=fun i hi=>by
    obtain⟨ob,hob⟩:=Option.isSome_iff_exists.1 hi
    obtain⟨ob',h1,h2,_⟩:=OJ i ob hob
    rw[yZ h2,R'.he,h1]; rfl
   rw[<- R'.he] at hsub
   have hv':=FX R'.hk hsub hv
   rcases hv' with ⟨h1,cs,h2,h3⟩|⟨h1,h2⟩
   ·exact .inl ⟨by rw[<- qp ρ]; exact h1,cs,h2,oQ hl t _ h3⟩
   ·exact .inr ⟨by rw[<- qp ρ]; exact h1,oQ hl t _ h2⟩
  ·exact R'.hk.ren (fun i ob hi=>by rw[R'.he]; exact OJ i ob hi) hinj
  ·exact⟨fun g hg=>.inl (hext.s g hg),hext.w,hext.size,hext.os,hext.tape,hext.output,hext.dr⟩
  ·intro i hi hsome
   obtain⟨ob,hob⟩:=Option.isSome_iff_exists.1 hsome
   have Uy:(h i).isSome=true:=(OL i ob hob).1.resolve_right fun e=>hn (e▸hi)
   have hρ:=hfix i Uy hsome
   obtain⟨oi,hoi⟩:=Option.isSome_iff_exists.1 Uy
   obtain⟨ob',dP,_⟩:=OJ i ob hob
   rw[hρ] at dP
   have:=hs i (hh i oi hoi).1 (by rw[R'.he,dP]; rfl)
   refine⟨this.1,?_,?_⟩
   ·show E'.φ (ρ i)=_; rw[hρ]; exact this.2.1
   ·show E'.κ (ρ i)=_; rw[hρ]; exact this.2.2
  ·rcases hi with hi|hi
   ·obtain⟨oi,hoi⟩:=Option.isSome_iff_exists.1 hi
    exact .inl (hm i oi hoi).1
   ·exact .inr hi
  ·have hconv: ∀ i,((h i).isSome=true\/i=n)->M i\/i=n:=fun i hi=>by
    rcases hi with hi|hi
    ·obtain⟨oi,hoi⟩:=Option.isSome_iff_exists.1 hi
     exact .inl (hm i oi hoi).1
    ·exact .inr hi
   exact⟨hconv i (OL i ob hi).1,T.aA hconv _ (OL i ob hi).2⟩
 cases ae with
 |normal=>exact key hQ
 |ret=>exact key hQ
 |exit id=>exact hQ.elim
def lI(p:Nat->Bool)(s:AS):RV->Prop
 | .slot _=>True
 | .cell a k=> ∃ i j ob,s.fr.getD a T.un= .ptr i j 0/\p i=false/\s.hp i=some ob/\j<ob.l.length/\ob.k=k
theorem lI.ok{p:Nat->Bool}{s:AS}{r:RV}(h:lI p s r):r.ok s:=by
 cases r with
 |slot t=>trivial
 |cell a k =>
  obtain⟨i,j,ob,h1,_,h2,h3,h4⟩:=h
  simp only[RV.ok,qc,AS.ev,h1,h2]
  exact⟨h3,by simp[h4]⟩
theorem lI.all{p:Nat->Bool}{s:AS}: ∀ {rs:List RV},(∀ r∈rs,lI p s r)->zL s rs:=by
 intro rs
 induction rs with
 |nil=>intro _; trivial
 |cons r rs ih=>intro h; exact⟨(h r (by simp)).ok,ih fun q hq=>h q (by simp[hq])⟩
theorem lI.val{s:AS}{a k i j:Nat}{ob:Ob}(h1:s.fr.getD a T.un= .ptr i j 0)(h2:s.hp i=some ob)(h4:ob.k=k):(RV.cell a k).val s=ob.l.getD j .any:=by
 simp only[RV.val,qt,AS.ev,h1,h2]
 simp[h4]
theorem BI{s:AS}(rs:List RV):resT s rs=Dk (rs.map (RV.val s)):=by
 cases rs with
 |nil=>rfl
 |cons r rs=>cases rs with
  |nil=>rfl
  |cons q rs=>rfl
theorem XJ{x:XS}{s:AS}(S:uh x s){p:Nat->Bool}{r:RV}{t:T}(h:XB x r=some t)(hp: ∀ i∈jF x [r],p i=false):lI p s r/\r.val s=t:=by
 cases r with
 |slot a=>simp only[XB] at h; cases h; exact⟨trivial,S.fr a⟩
 |cell a k =>
  simp only[XB] at h
  split at h
  ·rename_i i j e1
   split at h
   ·rename_i ob e2
    cases hb:(Nat.blt j ob.l.length&&ob.k==k) with
    |false=>rw[hb] at h; cases h
    |true =>
     rw[hb] at h; cases h
     rw[Bool.and_eq_true] at hb
     have hk:ob.k=k:=by simpa using hb.2
     have h1:s.fr.getD a T.un= .ptr i j 0:=by rw[S.fr]; exact e1
     have h2:s.hp i=some ob:=by rw[S.hp]; exact e2
     exact⟨⟨i,j,ob,h1,hp i (by simp[jF,e1]),h2,Nat.blt_eq.mp hb.1,hk⟩,lI.val h1 h2 hk⟩
   ·cases h
  ·cases h
theorem D7{x:XS}{r:RV}{rs:List RV}{i:Nat}:i∈jF x (r::rs)↔i∈jF x [r]\/i∈jF x rs:=by
 cases r with
 |slot a=>simp[jF]
 |cell a k=>simp only[jF]; split<;>simp
theorem BJ{x:XS}{s:AS}(S:uh x s){p:Nat->Bool}: ∀ {rs:List RV} {vs:List T},IL x rs=some vs->(∀ i∈jF x rs,p i=false)->(∀ r∈rs,lI p s r)/\rs.map (RV.val s)=vs:=by
 intro rs
 induction rs with
 |nil=>intro vs h _; simp only[IL] at h; cases h; exact⟨fun r hr=>(by cases hr),rfl⟩
 |cons r rs ih =>
  intro vs h hp
  simp only[IL] at h
  split at h
  ·rename_i t l e1 e2
   cases h
   obtain⟨h1,h2⟩:=XJ S e1 (p:=p) fun i hi=>hp i (D7.2 (.inl hi))
   obtain⟨h3,h4⟩:=ih e2 fun i hi=>hp i (D7.2 (.inr hi))
   refine⟨fun q hq=>?_,by rw[List.map_cons,h2,h4]⟩
   rcases List.mem_cons.1 hq with rfl|hq
   ·exact h1
   ·exact h3 q hq
  ·cases h
theorem BK{i:Nat}: ∀ {l:List Nat},uS i l=true↔i∈l:=by
 intro l
 induction l with
 |nil=>simp[uS]
 |cons j r ih=>simp[uS,oW,ih]
theorem lI.fz{p:Nat->Bool}{s:AS}{z:XH}(hz: ∀ i o,lk z i=some o->p i=true){r:RV}(h:lI p s r):lI p (s.XI z) r/\r.val (s.XI z)=(r.val s).fz z:=by
 cases r with
 |slot a =>
  refine⟨trivial,?_⟩
  show(T.IK z s.fr).getD a T.un=(s.fr.getD a T.un).fz z
  rw[oZ,getD_map (Qn z)]
 |cell a k =>
  obtain⟨i,j,ob,h1,hpi,h2,h3,h4⟩:=h
  have hzi:lk z i=none:=by
   cases e:lk z i with
   |none=>rfl
   |some o=>rw[hz i o e] at hpi; cases hpi
  have g1:(s.XI z).fr.getD a T.un= .ptr i j 0:=by
   show(T.IK z s.fr).getD a T.un=_
   rw[oZ,getD_map (Qn z),h1]; simp only[T.fz,hzi]
  have g2:(s.XI z).hp i=some (ob.fz z):=by
   show(if(lk z i).isSome=true then none else(s.hp i).map (Ob.fz z))=_
   rw[hzi,h2]; rfl
  refine⟨⟨i,j,ob.fz z,g1,hpi,g2,?_,h4⟩,?_⟩
  ·show j<(T.IK z ob.l).length
   rw[oZ,List.length_map]; exact h3
  ·rw[lI.val g1 g2 h4,lI.val h1 h2 h4]
   show(T.IK z ob.l).getD j .any=_
   rw[oZ,getD_map rfl]
theorem y7{p:Nat->Bool}{rs:List RV}: ∀ (k:Nat) {vs:List T} {h:XH} {s:AS},s.hp=lk h->(∀ r∈rs,lI p s r)->rs.map (RV.val s)=vs ->
  ∃ s1,AB s1 s/\s1.hp=lk (settle p k vs h).2/\(∀ r∈rs,lI p s1 r)/\rs.map (RV.val s1)=(settle p k vs h).1:=by
 intro k
 induction k with
 |zero=>intro vs h s e hc hv; exact⟨s,.refl _,e,hc,hv⟩
 |succ k ih =>
  intro vs h s e hc hv
  simp only[settle]
  split
  ·exact⟨s,.refl _,e,hc,hv⟩
  ·have hcan: ∀ i o,lk (vX p h h) i=some o->p i=true/\lk h i=some o/\o.k≠dK/\T.aT o.l=true:=fun i o hi=>MK hi
   generalize vX p h h=z at hcan
   have H:U8 z s.hp:=⟨fun i o hi=>by rw[e]; exact(hcan i o hi).2⟩
   have hz: ∀ i o,lk z i=some o->p i=true:=fun i o hi=>(hcan i o hi).1
   have a1:(s.XI z).hp=lk (JX z h):=by
    funext i
    rw[Qm]
    show(if(lk z i).isSome=true then none else(s.hp i).map (Ob.fz z))=_
    rw[e]
   have a2:rs.map (RV.val (s.XI z))=T.IK z vs:=by
    rw[oZ,<- hv,List.map_map]
    exact List.map_congr_left fun r hr=>((hc r hr).fz hz).2
   obtain⟨s1,h1,h2,h3,h4⟩:=ih a1 (fun r hr=>((hc r hr).fz hz).1) a2
   exact⟨s1,h1.trans (.fz (YT H) (.refl _)),h2,h3,h4⟩
mutual
theorem J3{p:Nat->Bool}{m n:Nat}{ρ:Nat->Nat}(hm:ρ n=m)(hp: ∀ i,p i=true->i≠m->ρ i=i):(t:T)->t.O1 p=true->(t.rn m n).ren ρ=t
 | .lit _,_=>rfl
 | .sl _ _ _,_=>rfl
 | .ref _ _,_=>rfl
 | .any,_=>rfl
 | .own i,h=>by
  simp only[T.rn]; rw[vZ]
  by_cases e:i=m
  ·rw[if_pos e]; simp only[T.ren]; rw[hm,e]
  ·rw[if_neg e]; simp only[T.ren]; rw[hp i h e]
 | .ptr i _ _,h=>by
  simp only[T.rn]; rw[vZ]
  by_cases e:i=m
  ·rw[if_pos e]; simp only[T.ren]; rw[hm,e]
  ·rw[if_neg e]; simp only[T.ren]; rw[hp i h e]
 | .lF i _ _,h=>by
  simp only[T.rn]; rw[vZ]
  by_cases e:i=m
  ·rw[if_pos e]; simp only[T.ren]; rw[hm,e]
  ·rw[if_neg e]; simp only[T.ren]; rw[hp i h e]
 | .agg l,h=>by simp only[T.rn,T.ren,T.O1] at h ⊢; rw[wo hm hp l h]
 | .iF l,h=>by simp only[T.rn,T.ren,T.O1] at h ⊢; rw[wo hm hp l h]
 | .fn f l,h=>by simp only[T.rn,T.ren,T.O1] at h ⊢; rw[wo hm hp l h]
theorem wo{p:Nat->Bool}{m n:Nat}{ρ:Nat->Nat}(hm:ρ n=m)(hp: ∀ i,p i=true->i≠m->ρ i=i):(l:List T)->T.vY p l=true->T.eX ρ (T.KX m n l)=l
 |[],_=>rfl
 |t::ts,h=>by
  simp only[T.KX,T.eX,T.vY,Bool.and_eq_true] at h ⊢
  rw[J3 hm hp t h.1,wo hm hp ts h.2]
end
mutual
theorem J4{p:Nat->Bool}{m n:Nat}{M:Nat->Prop}(hn:M n)(hp: ∀ i,p i=true->i≠m->M i):(t:T)->t.O1 p=true->(t.rn m n).ids M
 | .lit _,_=>trivial
 | .sl _ _ _,_=>trivial
 | .ref _ _,_=>trivial
 | .any,_=>trivial
 | .own i,h=>by
  simp only[T.rn]; rw[vZ]
  by_cases e:i=m
  ·rw[if_pos e]; exact hn
  ·rw[if_neg e]; exact hp i h e
 | .ptr i _ _,h=>by
  simp only[T.rn]; rw[vZ]
  by_cases e:i=m
  ·rw[if_pos e]; exact hn
  ·rw[if_neg e]; exact hp i h e
 | .lF i _ _,h=>by
  simp only[T.rn]; rw[vZ]
  by_cases e:i=m
  ·rw[if_pos e]; exact hn
  ·rw[if_neg e]; exact hp i h e
 | .agg l,h=>by simp only[T.rn,T.ids,T.O1] at h ⊢; exact wu hn hp l h
 | .iF l,h=>by simp only[T.rn,T.ids,T.O1] at h ⊢; exact wu hn hp l h
 | .fn f l,h=>by simp only[T.rn,T.ids,T.O1] at h ⊢; exact wu hn hp l h
theorem wu{p:Nat->Bool}{m n:Nat}{M:Nat->Prop}(hn:M n)(hp: ∀ i,p i=true->i≠m->M i):(l:List T)->T.vY p l=true->T.aH M (T.KX m n l)
 |[],_=>trivial
 |t::ts,h=>by
  simp only[T.KX,T.aH,T.vY,Bool.and_eq_true] at h ⊢
  exact⟨J4 hn hp t h.1,wu hn hp ts h.2⟩
end
mutual
theorem MN{p:Nat->Bool}{M:Nat->Prop}(hp: ∀ i,p i=true->M i):(t:T)->t.O1 p=true->t.ids M
 | .lit _,_=>trivial
 | .sl _ _ _,_=>trivial
 | .ref _ _,_=>trivial
 | .any,_=>trivial
 | .own i,h=>hp i h
 | .ptr i _ _,h=>hp i h
 | .lF i _ _,h=>hp i h
 | .agg l,h=>by simp only[T.ids,T.O1] at h ⊢; exact wz hp l h
 | .iF l,h=>by simp only[T.ids,T.O1] at h ⊢; exact wz hp l h
 | .fn f l,h=>by simp only[T.ids,T.O1] at h ⊢; exact wz hp l h
theorem wz{p:Nat->Bool}{M:Nat->Prop}(hp: ∀ i,p i=true->M i):(l:List T)->T.vY p l=true->T.aH M l
 |[],_=>trivial
 |t::ts,h=>by
  simp only[T.aH,T.vY,Bool.and_eq_true] at h ⊢
  exact⟨MN hp t h.1,wz hp ts h.2⟩
end
theorem y8{p:Nat->Bool}{l:List T}(h:T.vY p l=true):(Dk l).O1 p=true:=by
 cases l with
 |nil=>rfl
 |cons t l=>cases l with
  |nil=>simp only[T.vY,Bool.and_true] at h; exact h
  |cons u l=>exact h
theorem U9{l:List T}(h:T.aT l=true):(Dk l).free=true:=by
 cases l with
 |nil=>rfl
 |cons t l=>cases l with
  |nil=>simp only[T.aT,Bool.and_true] at h; exact h
  |cons u l=>exact h
mutual
theorem XK{n:Nat}:(t:T)->t.lt n=true->t.ids (· <n)
 | .lit _,_=>trivial
 | .sl _ _ _,_=>trivial
 | .ref _ _,_=>trivial
 | .any,_=>trivial
 | .own i,h=>Nat.blt_eq.mp h
 | .ptr i _ _,h=>Nat.blt_eq.mp h
 | .lF i _ _,h=>Nat.blt_eq.mp h
 | .agg l,h=>by simp only[T.ids,T.lt] at h ⊢; exact wB l h
 | .iF l,h=>by simp only[T.ids,T.lt] at h ⊢; exact wB l h
 | .fn f l,h=>by simp only[T.ids,T.lt] at h ⊢; exact wB l h
theorem wB{n:Nat}:(l:List T)->T.LM n l=true->T.aH (· <n) l
 |[],_=>trivial
 |t::ts,h=>by
  simp only[T.aH,T.LM,Bool.and_eq_true] at h ⊢
  exact⟨XK t h.1,wB ts h.2⟩
end
theorem XL{n:Nat}: ∀ {h:XH},hLt n h=true->lW (· <n) (lk h):=by
 intro h
 induction h with
 |nil=>intro _ i ob hi; cases hi
 |cons q r ih =>
  obtain⟨j,o⟩:=q
  intro hh i ob hi
  simp only[hLt,Bool.and_eq_true] at hh
  rw[dZ] at hi
  by_cases e:j=i
  ·rw[if_pos e] at hi; cases hi; subst e
   exact⟨Nat.blt_eq.mp hh.1.1,wB _ hh.1.2⟩
  ·rw[if_neg e] at hi; exact ih hh.2 i ob hi
end
section
variable {P:Program}
def YW(P:Program)(tab:FuncId->Option Z4):Prop:= ∀ f b,tab f=some b-> ∃ fn c,P.funcs[f]? =some fn/\fn.body=some c/\comp P c=some b.code/\jZ P fn.results.toList=some b.rs/\callable P f/\fn.ntmps=b.nt
def Qo(P:Program)(Qj:Nat->FuncId->List T->Option (T×Option Ob)):Prop:= ∀ n f ts t o,Qj n f ts=some (t,o)-> ∃ tf,tf n=t/\rE P f ts tf o/\(o=none->t.free=true)
def aad(P:Program)(Qj:Nat->FuncId->List T->XH->Option (T×XH)):Prop:= ∀ n f ts h t h',Qj n f ts h=some (t,h')->bF P f ts (lk h) n (fun t1 h1=>t1=t/\h1=lk h')
structure XM(P:Program)(K:Know):Prop where
 tab:YW P K.tab
 Qj:Qo P K.Qj
 UM:aad P K.UM
theorem log2_lt(n:Nat):n<2 ^ (Nat.log2 n+1):=by
 by_cases h:n=0
 ·subst h; simp
 ·exact(Nat.log2_lt h).1 (Nat.lt_succ_self _)
theorem O6: ∀ {ts:List T} {i:Nat} {f:Tr},(∀ j,j<i+ts.length->f.has j)-> ∀ j,(xg ts i f).get j=(if i<=j/\j<i+ts.length then ts.getD (j-i) T.un else f.get j)/\((xg ts i f).has j↔f.has j):=by
 intro ts
 induction ts with
 |nil=>intro i f _ j; refine⟨?_,Iff.rfl⟩; simp only[xg,List.length_nil]; rw[if_neg (by omega)]
 |cons t ts ih =>
  intro i f hf j
  simp only[xg]
  simp only[List.length_cons] at hf
  obtain⟨h1,h2⟩:=ih (i:=Nat.succ i) (f:=f.set i t) (fun k hk=>Tr.has_set.2 (hf k (by simp only[Nat.succ_eq_add_one] at hk; omega))) j
  refine⟨?_,h2.trans Tr.has_set⟩
  rw[h1,Tr.Qk (.inl (hf i (by omega)))]
  simp only[Nat.succ_eq_add_one,List.length_cons]
  by_cases e:j=i
  ·subst e
   rw[if_neg (by omega),if_pos rfl,if_pos (by omega)]; simp
  ·rw[if_neg e]
   by_cases hj:i+1<=j/\j<i+1+ts.length
   ·rw[if_pos hj,if_pos (by omega)]
    have:j-i=(j-(i+1))+1:=by omega
    rw[this,List.getD_cons_succ]
   ·rw[if_neg hj,if_neg (by omega)]
theorem IU{b:Z4}{ts:List T}{h:XH}{n:Nat}(hl:Nat.ble ts.length b.nt=true):uh (xk b ts h n) ⟨ts++List.replicate (b.nt-ts.length) T.un,lk h,n,n⟩:=by
 have hle:ts.length<=b.nt:=Nat.le_of_ble_eq_true hl
 have hfull: ∀ j,j<b.nt->(Tr.full (Nat.succ (Nat.log2 b.nt))).has j:=fun j hj=>Tr.UU (by have:=log2_lt b.nt; simp only[Nat.succ_eq_add_one]; omega)
 have hput:=O6 (ts:=ts) (i:=0) (f:=Tr.full (Nat.succ (Nat.log2 b.nt))) (fun j hj=>hfull j (by omega))
 refine⟨fun i=>?_,?_,fun i hi=>((hput i).2).2 (hfull i hi),rfl,rfl,rfl⟩
 ·show(ts++List.replicate (b.nt-ts.length) T.un).getD i T.un=(xg ts 0 (Tr.full (Nat.succ (Nat.log2 b.nt)))).get i
  rw[(hput i).1,Tr.UR]
  simp only[Nat.zero_le,true_and,Nat.zero_add,Nat.sub_zero]
  by_cases hi:i<ts.length
  ·rw[if_pos hi]
   simp only[List.getD_eq_getElem?_getD,List.getElem?_append_left hi]
  ·rw[if_neg hi]
   simp only[List.getD_eq_getElem?_getD]
   rw[List.getElem?_append_right (by omega),List.getElem?_replicate]
   split<;>rfl
 ·show(ts++List.replicate (b.nt-ts.length) T.un).length=b.nt
  simp; omega
theorem y9{F:Fr P}{M:Nat->Prop}{E:Env}{s:AS}{a:Act}(R:Rel F M E s a){i:Nat}{ob:Ob}(h:s.hp i=some ob):(ob.k=dK/\ob.l.all jC=true)\/(ob.k≠dK/\ ∀ t∈ob.l,t.kd=ob.k) :=
 (R.hk.obs i ob (by rw[R.he]; exact h)).1.kinds
theorem Qp(m n:Nat): ∀ l:List T,T.KX m n l=l.map (T.rn m n):=by
 intro l
 induction l with
 |nil=>rfl
 |cons t ts ih=>simp only[T.KX,List.map_cons,ih]
theorem abG(m n:Nat)(t:T):(t.rn m n).kd=t.kd:=by
 cases t<;>simp only[T.rn]<;>try rfl
 case agg l=>simp only[T.kd]; rw[Qp,List.length_map]
 all_goals (rw[vZ]; split<;>rfl)
theorem MO{m n:Nat}{ob:Ob}(h:(ob.k=dK/\ob.l.all jC=true)\/(ob.k≠dK/\ ∀ t∈ob.l,t.kd=ob.k)) :
  (ob.k=dK/\(T.KX m n ob.l).all jC=true)\/(ob.k≠dK/\ ∀ t∈T.KX m n ob.l,t.kd=ob.k):=by
 rw[Qp]
 rcases h with ⟨h1,h2⟩|⟨h1,h2⟩
 ·refine .inl ⟨h1,?_⟩
  rw[List.all_eq_true] at h2 ⊢
  intro t ht
  obtain⟨u,hu,rfl⟩:=List.mem_map.1 ht
  obtain⟨k,v,e⟩:=Dn.1 (h2 u hu)
  rw[e]; rfl
 ·refine .inr ⟨h1,fun t ht=>?_⟩
  obtain⟨u,hu,rfl⟩:=List.mem_map.1 ht
  rw[abG]; exact h2 u hu
theorem Gi{m k:Nat}{M:Nat->Prop}(hM:M k){t:T}(h:t.O1 (Nat.beq m)=true):(t.rn m k).ids M :=
 J4 (p:=Nat.beq m) hM (fun _ hi hne=>absurd (Dl hi).symm hne) t h
theorem XO{dr:Bool}{n:Nat}{rs:List RV}{x:XS}{t:T}{o:Option Ob}(h:O4 n dr rs x=some (t,o)) :
  ∃ tf:Nat->T,tf n=t/\(∀ k,(tf k).ids (fun i=>i=k))/\(∀ ob,o=some ob->T.aT ob.l=true/\ob.k≠dK)/\(o=none->t.free=true)/\(dr=true->o=none) /\
   ∀ k s,uh x s-> ∃ s1,AB s1 s/\ ∀ (F:Fr P) (E:Env) (a:Act),Rel F (· <s1.nx) E s1 a->ZT no k (fun t' h'=>t'=tf k/\h'=gI no k o) rs s1:=by
 unfold O4 at h
 split at h
 ·cases h
 ·rename_i vs hvs
  split at h
  ·rename_i m htop
   generalize hset:settle (fun i=> !(Nat.beq i m)&& !(uS i (jF x rs))) 8 vs x.hp=st at h
   obtain⟨vs',hp'⟩:=st
   simp only at h
   split at h
   ·rename_i ob hob
    cases hb:(T.aT ob.l&& !(ob.k==dK)&&T.vY (Nat.beq m) vs') with
    |false=>rw[hb] at h; cases h
    |true =>
     rw[hb] at h; cases h
     simp only[Bool.and_eq_true] at hb
     obtain⟨⟨hf,hk⟩,MP⟩:=hb
     have hk':ob.k≠dK:=by simpa using hk
     refine⟨fun k=>T.rn m k (Dk vs'),rfl,fun k=>Gi (M:=fun i=>i=k) rfl (y8 MP),?_,(fun e=>by cases e),?_,?_⟩
     ·intro ob' e; cases e; exact⟨hf,hk'⟩
     ·intro hd; rw[hd] at htop; cases htop
     ·intro k s S
      obtain⟨hc,hv⟩:=BJ S (p:=fun i=> !(Nat.beq i m)&& !(uS i (jF x rs))) hvs (fun i hi=>by rw[BK.2 hi]; simp)
      obtain⟨s1,h1,h2,h3,h4⟩:=y7 8 S.hp hc hv
      rw[hset] at h2 h4
      refine⟨s1,h1,fun F E a R=>⟨lI.all h3,fun _=>False,fun _=>m,T.rn m k (Dk vs'),gI no k (some ob),⟨rfl,rfl⟩,?_,fun i ob' hi=>?_,fun i j hi hj _=>?_,?_,fun i ob' hi=>?_,fun i hi=>by cases hi⟩⟩
      ·rw[BI,h4,J3 (p:=Nat.beq m) rfl (fun i hi hne=>absurd (Dl hi).symm hne) _ (y8 MP)]
       exact fQ _
      ·have abH:s1.hp m=some ob:=by rw[h2]; exact hob
       rcases iJ hi with ⟨_,e⟩|e
       ·cases e
        refine⟨_,abH,fun h=>h,rfl,rfl,?_,y9 R abH⟩
        rw[uF _ (dD hf)]; exact gY _
       ·cases e
      ·obtain⟨oi,hi⟩:=Option.isSome_iff_exists.1 hi
       obtain⟨oj,hj⟩:=Option.isSome_iff_exists.1 hj
       rcases iJ hi with ⟨e1,_⟩|e1
       ·rcases iJ hj with ⟨e2,_⟩|e2
        ·rw[e1,e2]
        ·cases e2
       ·cases e1
      ·exact Gi (.inr rfl) (y8 MP)
      ·rcases iJ hi with ⟨e1,e⟩|e
       ·cases e; exact⟨.inr e1,T.aA (fun _ h=>h.elim) _ (dD hf)⟩
       ·cases e
   ·cases h
  ·generalize hset:settle (fun i=> !(uS i (jF x rs))) 8 vs x.hp=st at h
   obtain⟨vs',hp'⟩:=st
   simp only at h
   cases hb:T.aT vs' with
   |false=>rw[hb] at h; cases h
   |true =>
    rw[hb] at h; cases h
    have hft:=U9 hb
    refine⟨fun _=>Dk vs',rfl,fun k=>T.aV (fun _ h=>h.elim) _ (eH hft),(fun ob e=>by cases e),fun _=>hft,fun _=>rfl,fun k s S=>?_⟩
    obtain⟨hc,hv⟩:=BJ S (p:=fun i=> !(uS i (jF x rs))) hvs (fun i hi=>by rw[BK.2 hi]; rfl)
    obtain⟨s1,h1,h2,h3,h4⟩:=y7 8 S.hp hc hv
    rw[hset] at h2 h4
    refine⟨s1,h1,fun F E a R=>⟨lI.all h3,fun _=>False,id,Dk vs',no,⟨rfl,rfl⟩,?_,(fun i ob' hi=>by cases hi),(fun i j hi=>by cases hi),T.aV (fun _ h=>h.elim) _ (eH hft),tV _,fun i hi=>by cases hi⟩⟩
    rw[BI,h4,OQ _ (eH hft)]
    exact fQ _
theorem EI{K:Know}(KO:XM P K){cf:CF}(C:MI P cf){dr:Bool}{n:Nat}{f:FuncId}{ts:List T}{t:T}{o:Option Ob}(hts:T.aT ts=true)(h:RQ K cf dr n f ts=some (t,o)) :
  ∃ tf,tf n=t/\rE P f ts tf o/\(o=none->t.free=true)/\(dr=true->o=none):=by
 unfold RQ at h
 split at h
 ·rename_i r e
  obtain⟨t',o'⟩:=r
  cases hb:(dr&&o'.isSome) with
  |true=>rw[hb] at h; cases h
  |false =>
   rw[hb] at h; cases h
   obtain⟨tf,h1,h2,h3⟩:=KO.Qj n f ts _ _ e
   refine⟨tf,h1,h2,h3,fun hd=>?_⟩
   rw[hd] at hb
   cases o with
   |none=>rfl
   |some ob=>cases hb
 ·split at h
  ·cases h
  ·rename_i b hb
   obtain⟨fn,c,g1,g2,g3,g4,g5,g6⟩:=KO.tab f b hb
   cases hl:Nat.ble ts.length b.nt with
   |false=>rw[hl] at h; cases h
   |true =>
    rw[hl] at h
    simp only[cond_true] at h
    have fin: ∀ {x:XS},(xr cf K.big b.code (xk b ts [] 0)= .go x\/xr cf K.big b.code (xk b ts [] 0)= .rt x)->O4 n dr b.rs x=some (t,o)-> ∃ tf,tf n=t/\rE P f ts tf o/\(o=none->t.free=true)/\(dr=true->o=none):=by
     intro x hx hf
     obtain⟨tf,a1,a2,a3,a4,a5,a6⟩:=XO (P:=P) hf
     refine⟨tf,a1,⟨hts,a2,fun ob e=>(a3 ob e).1,fun ob e=>(a3 ob e).2,fun k=>?_⟩,a4,a5⟩
     refine bF.ML (nx:=0) g1 g2 g3 g4 g5 g6 ⟨_,_,rfl,rfl⟩ (T.aA (fun _ h=>h.elim) _ (dD hts)) (tV _) ?_
     have hS:=IU (b:=b) (ts:=ts) (h:=[]) (n:=0) hl
     have hno:lk ([]:XH)=no:=rfl
     rw[hno] at hS
     refine YU (big:=K.big) C b.code hS ?_
     rcases hx with hx|hx<;>rw[hx]<;>exact fun s S=>a6 k s S
    split at h
    ·rename_i x e; exact fin (.inl e) h
    ·rename_i x e; exact fin (.inr e) h
    ·cases h
theorem yC{p:Nat->Bool}: ∀ {h:XH},F9 p h=true-> ∀ {i:Nat} {o:Ob},lk h i=some o->p i=true->T.vY p o.l=true:=by
 intro h
 induction h with
 |nil=>intro _ i o e; cases e
 |cons q r ih =>
  obtain⟨j,u⟩:=q
  intro hh i o e hp
  simp only[F9,Bool.and_eq_true] at hh
  rw[dZ] at e
  by_cases hij:j=i
  ·rw[if_pos hij] at e; cases e; subst hij
   have:=hh.1; rw[hp] at this; exact this
  ·rw[if_neg hij] at e; exact ih hh.2 e hp
theorem yD{h0:XH}{m n:Nat}(hm:lk h0 m=none)(_hn:lk h0 n=none): ∀ {h:XH} {i:Nat} {ob:Ob},lk (qO h0 m n h) i=some ob ->
  (i=n/\ ∃ o,lk h m=some o/\ob=⟨o.ty,o.k,T.KX m n o.l⟩)\/((lk h0 i).isSome=true/\ ∃ o,lk h i=some o/\ob=⟨o.ty,o.k,T.KX m n o.l⟩):=by
 intro h
 induction h with
 |nil=>intro i ob e; cases e
 |cons q r ih =>
  obtain⟨j,u⟩:=q
  intro i ob e
  simp only[qO] at e
  rw[vZ] at e
  by_cases hjm:j=m
  ·rw[if_pos hjm,dZ] at e
   by_cases hni:n=i
   ·rw[if_pos hni] at e; cases e
    exact .inl ⟨hni.symm,u,by rw[dZ,if_pos hjm],rfl⟩
   ·rw[if_neg hni] at e
    rcases ih e with ⟨h1,_⟩|⟨h1,o,h2,h3⟩
    ·exact absurd h1.symm hni
    ·refine .inr ⟨h1,o,?_,h3⟩
     rw[dZ,if_neg]; exact h2
     intro hji; rw[<- hji,hjm,hm] at h1; cases h1
  ·rw[if_neg hjm] at e
   cases hg:(lk h0 j).isSome with
   |true =>
    rw[hg] at e
    simp only[cond_true] at e
    rw[dZ] at e
    by_cases hji:j=i
    ·rw[if_pos hji] at e; cases e; subst hji
     exact .inr ⟨hg,u,by rw[dZ,if_pos rfl],rfl⟩
    ·rw[if_neg hji] at e
     rcases ih e with ⟨h1,o,h2,h3⟩|⟨h1,o,h2,h3⟩
     ·exact .inl ⟨h1,o,by rw[dZ,if_neg hjm]; exact h2,h3⟩
     ·exact .inr ⟨h1,o,by rw[dZ,if_neg hji]; exact h2,h3⟩
   |false =>
    rw[hg] at e
    simp only[cond_false] at e
    rcases ih e with ⟨h1,o,h2,h3⟩|⟨h1,o,h2,h3⟩
    ·exact .inl ⟨h1,o,by rw[dZ,if_neg hjm]; exact h2,h3⟩
    ·refine .inr ⟨h1,o,?_,h3⟩
     rw[dZ,if_neg]; exact h2
     intro hji; rw[hji] at hg; rw[hg] at h1; cases h1
theorem BL{h0:XH}: ∀ {h:XH} {i:Nat} {ob:Ob},lk (sD h0 h) i=some ob->(lk h0 i).isSome=true/\lk h i=some ob:=by
 intro h
 induction h with
 |nil=>intro i ob e; cases e
 |cons q r ih =>
  obtain⟨j,u⟩:=q
  intro i ob e
  simp only[sD] at e
  cases hg:(lk h0 j).isSome with
  |true =>
   rw[hg] at e
   simp only[cond_true] at e
   rw[dZ] at e
   rw[dZ]
   by_cases hji:j=i
   ·rw[if_pos hji] at e ⊢; subst hji; exact⟨hg,e⟩
   ·rw[if_neg hji] at e ⊢; exact ih e
  |false =>
   rw[hg] at e
   simp only[cond_false] at e
   obtain⟨h1,h2⟩:=ih e
   refine⟨h1,?_⟩
   rw[dZ,if_neg]; exact h2
   intro hji; rw[hji] at hg; rw[hg] at h1; cases h1
theorem Qq{pin m:Nat}: ∀ {l:List T},m∈RP pin l->pin<=m:=by
 intro l
 induction l with
 |nil=>intro h; cases h
 |cons t l ih =>
  intro h
  simp only[RP,List.mem_append] at h
  rcases h with h|h
  ·unfold UK at h
   split at h
   ·rename_i i
    cases hb:Nat.ble pin i with
    |false=>rw[hb] at h; cases h
    |true=>rw[hb] at h; simp only[cond_true,List.mem_singleton] at h; rw[h]; exact Nat.le_of_ble_eq_true hb
   ·cases h
  ·exact ih h
theorem Va{pin m:Nat}: ∀ {h:XH},m∈MH pin h->pin<=m:=by
 intro h
 induction h with
 |nil=>intro h; cases h
 |cons p r ih =>
  intro h
  obtain⟨i,o⟩:=p
  simp only[MH] at h
  cases hb:Nat.blt i pin with
  |true =>
   rw[hb] at h
   rcases List.mem_append.1 h with h|h
   ·exact Qq h
   ·exact ih h
  |false=>rw[hb] at h; exact ih h
theorem Vb{n m:Nat}{vs:List T}{h:XH}(e:m∈UL n vs h):n<=m:=by
 unfold UL at e
 split at e
 ·exact Va e
 ·exact Qq e
theorem XP{n:Nat}{h:XH}{rs:List RV}{x:XS}{t:T}{h':XH}(hlt:lW (· <n) (lk h))(e:O5 n h rs x=some (t,h')) :
  ∀ s,uh x s-> ∃ s1,AB s1 s/\ ∀ (F:Fr P) (E:Env) (a:Act),Rel F (· <s1.nx) E s1 a->ZT (lk h) n (fun t1 h1=>t1=t/\h1=lk h') rs s1:=by
 have hnn:lk h n=none:=by
  cases e:lk h n with
  |none=>rfl
  |some ob=>exact absurd (hlt n ob e).1 (Nat.lt_irrefl _)
 intro s S
 unfold O5 at e
 split at e
 ·cases e
 ·rename_i vs hvs
  split at e
  ·rename_i m htop
   have hmn:n<=m:=Vb (vs:=vs) (h:=x.hp) (by rw[htop]; simp)
   have hm:lk h m=none:=by
    cases e:lk h m with
    |none=>rfl
    |some ob=>have:m<n:=(hlt m ob e).1; omega
   obtain⟨hc,hv⟩:=BJ S (p:=fun i=> !(Nat.beq i m)&&Nat.ble n i&& !(uS i (jF x rs))) hvs (fun i hi=>by rw[BK.2 hi]; simp)
   obtain⟨s1,h1,h2,h3,h4⟩:=y7 8 S.hp hc hv
   generalize settle (fun i=> !(Nat.beq i m)&&Nat.ble n i&& !(uS i (jF x rs))) 8 vs x.hp=st at e h2 h4
   obtain⟨vs',hp'⟩:=st
   simp only at e h2 h4
   cases hb:((lk hp' m).isSome&&T.vY (fun i=>(lk h i).isSome||Nat.beq i m) vs'&&F9 (fun i=>(lk h i).isSome||Nat.beq i m) hp') with
   |false=>rw[hb] at e; cases e
   |true =>
    rw[hb] at e; cases e
    simp only[Bool.and_eq_true] at hb
    obtain⟨⟨_,MP⟩,hhn⟩:=hb
    have hρ: ∀ i,((lk h i).isSome||Nat.beq i m)=true->i≠m->(if i=n then m else i)=i:=by
     intro i hi hne
     rw[if_neg]
     rintro rfl
     rw[hnn] at hi
     exact hne (Dl (by simpa using hi))
    have hM: ∀ i,((lk h i).isSome||Nat.beq i m)=true->i≠m->((lk h i).isSome=true\/i=n):=by
     intro i hi hne
     rw[Bool.or_eq_true] at hi
     exact .inl (hi.resolve_right fun q=>hne (Dl q))
    refine⟨s1,h1,fun F E a R=>⟨lI.all h3,fun _=>False,fun i=>if i=n then m else i,T.rn m n (Dk vs'),lk (qO h m n hp'),⟨rfl,rfl⟩,?_,fun i ob hi=>?_,fun i j hi hj hij=>?_,?_,fun i ob hi=>?_,fun i hi _=>?_⟩⟩
    ·rw[BI,h4,J3 (p:=fun i=>(lk h i).isSome||Nat.beq i m) (ρ:=fun i=>if i=n then m else i) (if_pos rfl) hρ _ (y8 MP)]
     exact fQ _
    ·rcases yD hm hnn hi with ⟨e1,o,e2,e3⟩|⟨e1,o,e2,e3⟩
     ·have ho:s1.hp m=some o:=by rw[h2]; exact e2
      have hno:=yC hhn e2 (by simp)
      refine⟨o,by simp only[if_pos e1]; exact ho,fun h=>h,by rw[e3],by rw[e3],?_,?_⟩
      ·rw[e3]; show T.eU _ _ (T.eX _ (T.KX m n o.l)) o.l
       rw[wo (p:=fun i=>(lk h i).isSome||Nat.beq i m) (ρ:=fun i=>if i=n then m else i) (if_pos rfl) hρ _ hno]; exact gY _
      ·rw[e3]; exact MO (y9 R ho)
     ·have hin:i≠n:=by rintro rfl; rw[hnn] at e1; cases e1
      have ho:s1.hp i=some o:=by rw[h2]; exact e2
      have hno:=yC hhn e2 (by simp[e1])
      refine⟨o,by simp only[if_neg hin]; exact ho,fun h=>h,by rw[e3],by rw[e3],?_,?_⟩
      ·rw[e3]; show T.eU _ _ (T.eX _ (T.KX m n o.l)) o.l
       rw[wo (p:=fun i=>(lk h i).isSome||Nat.beq i m) (ρ:=fun i=>if i=n then m else i) (if_pos rfl) hρ _ hno]; exact gY _
      ·rw[e3]; exact MO (y9 R ho)
    ·obtain⟨oi,hi⟩:=Option.isSome_iff_exists.1 hi
     obtain⟨oj,hj⟩:=Option.isSome_iff_exists.1 hj
     have cl: ∀ i ob,lk (qO h m n hp') i=some ob->i=n\/(i≠n/\i≠m):=by
      intro i ob hi
      rcases yD hm hnn hi with ⟨e1,_⟩|⟨e1,_⟩
      ·exact .inl e1
      ·exact .inr ⟨(by rintro rfl; rw[hnn] at e1; cases e1),(by rintro rfl; rw[hm] at e1; cases e1)⟩
     rcases cl i oi hi with e1|⟨e1,e1'⟩<;>rcases cl j oj hj with e2|⟨e2,e2'⟩
     ·rw[e1,e2]
     ·simp only[if_pos e1,if_neg e2] at hij; exact absurd hij.symm e2'
     ·simp only[if_neg e1,if_pos e2] at hij; exact absurd hij e1'
     ·simp only[if_neg e1,if_neg e2] at hij; exact hij
    ·exact J4 (.inr rfl) hM _ (y8 MP)
    ·rcases yD hm hnn hi with ⟨e1,o,e2,e3⟩|⟨e1,o,e2,e3⟩
     ·rw[e3]; exact⟨.inr e1,wu (.inr rfl) hM _ (yC hhn e2 (by simp))⟩
     ·rw[e3]; exact⟨.inl e1,wu (.inr rfl) hM _ (yC hhn e2 (by simp[e1]))⟩
    ·show(if i=n then m else i)=i
     rw[if_neg]; rintro rfl; rw[hnn] at hi; cases hi
  ·obtain⟨hc,hv⟩:=BJ S (p:=fun i=>Nat.ble n i&& !(uS i (jF x rs))) hvs (fun i hi=>by rw[BK.2 hi]; simp)
   obtain⟨s1,h1,h2,h3,h4⟩:=y7 8 S.hp hc hv
   generalize settle (fun i=>Nat.ble n i&& !(uS i (jF x rs))) 8 vs x.hp=st at e h2 h4
   obtain⟨vs',hp'⟩:=st
   simp only at e h2 h4
   cases hb:(T.vY (fun i=>(lk h i).isSome) vs'&&F9 (fun i=>(lk h i).isSome) hp') with
   |false=>rw[hb] at e; cases e
   |true =>
    rw[hb] at e; cases e
    simp only[Bool.and_eq_true] at hb
    obtain⟨MP,hhn⟩:=hb
    refine⟨s1,h1,fun F E a R=>⟨lI.all h3,fun _=>False,id,Dk vs',lk (sD h hp'),⟨rfl,rfl⟩,?_,fun i ob hi=>?_,fun i j _ _ hij=>hij,?_,fun i ob hi=>?_,fun i _ _=>rfl⟩⟩
    ·rw[BI,h4,Qh]; exact fQ _
    ·obtain⟨e1,e2⟩:=BL hi
     have ho:s1.hp i=some ob:=by rw[h2]; exact e2
     exact⟨ob,ho,fun h=>h,rfl,rfl,by rw[FZ]; exact gY _,y9 R ho⟩
    ·exact MN (fun i hi=>.inl hi) _ (y8 MP)
    ·obtain⟨e1,e2⟩:=BL hi
     exact⟨.inl e1,wz (fun i hi=>.inl hi) _ (yC hhn e2 e1)⟩
theorem XQ{K:Know}(KO:XM P K){cf:CF}(C:MI P cf){n:Nat}{f:FuncId}{ts:List T}{h:XH}{t:T}{h':XH}(e:JY K cf n f ts h=some (t,h')) :
  bF P f ts (lk h) n (fun t1 h1=>t1=t/\h1=lk h'):=by
 unfold JY at e
 split at e
 ·rename_i r er
  cases e
  exact KO.UM n f ts h _ _ er
 ·split at e
  ·cases e
  ·rename_i b hb
   obtain⟨fn,c,g1,g2,g3,g4,g5,g6⟩:=KO.tab f b hb
   cases hl:(T.LM n ts&&hLt n h&&Nat.ble ts.length b.nt) with
   |false=>rw[hl] at e; cases e
   |true =>
    rw[hl] at e
    simp only[cond_true] at e
    simp only[Bool.and_eq_true] at hl
    obtain⟨⟨l1,l2⟩,l3⟩:=hl
    have hlt:=XL l2
    have fin: ∀ {x:XS},(xr cf K.big b.code (xk b ts h n)= .go x\/xr cf K.big b.code (xk b ts h n)= .rt x)->O5 n h b.rs x=some (t,h')->bF P f ts (lk h) n (fun t1 h1=>t1=t/\h1=lk h'):=by
     intro x hx hf
     refine bF.ML (nx:=n) g1 g2 g3 g4 g5 g6 ⟨_,_,rfl,rfl⟩ (wB _ l1) hlt ?_
     refine YU (big:=K.big) C b.code (IU (b:=b) (ts:=ts) (h:=h) (n:=n) l3) ?_
     rcases hx with hx|hx<;>rw[hx]<;>exact fun s S=>XP hlt hf s S
    split at e
    ·rename_i x ex; exact fin (.inl ex) e
    ·rename_i x ex; exact fin (.inr ex) e
    ·cases e
mutual
theorem Vd{h:XH}:(t:T)->T.sub (fun _=>True) (lk h) (t.lend h) t
 | .lit v=>by simp[T.lend,T.sub]
 | .agg l=>by simp only[T.lend,T.sub]; exact zf l
 | .sl k f l=>by simp[T.lend,T.sub]
 | .ref k t=>by simp[T.lend,T.sub]
 | .own i=>by
  simp only[T.lend]
  split
  ·rename_i ob e
   cases hb:(T.aT ob.l&& !(ob.k==dK)) with
   |false=>simp[T.sub]
   |true =>
    simp only[Bool.and_eq_true] at hb
    simp only[cond_true,T.sub]
    exact⟨trivial,trivial,hb.1,by simpa using hb.2,ob.ty,e⟩
  ·simp[T.sub]
 | .ptr i j o=>by simp[T.lend,T.sub]
 | .lF i a b=>by
  simp only[T.lend]
  split
  ·rename_i ob e
   cases hb:(T.aT ob.l&& !(ob.k==dK)&&Nat.ble b ob.l.length) with
   |false=>simp[T.sub]
   |true =>
    simp only[Bool.and_eq_true] at hb
    simp only[cond_true,T.sub]
    exact⟨trivial,trivial,IQ hb.1.1 a b,by simpa using hb.1.2,ob.ty,ob.l,e,Nat.le_of_ble_eq_true hb.2,rfl⟩
  ·simp[T.sub]
 | .fn f c=>by simp[T.lend,T.sub]
 | .iF l=>by simp only[T.lend,T.sub]; exact zf l
 | .any=>by simp[T.lend,T.sub]
theorem zf{h:XH}:(l:List T)->T.eU (fun _=>True) (lk h) (T.yB h l) l
 |[]=>by simp[T.yB,T.eU]
 |t::ts=>by simp only[T.yB,T.eU]; exact⟨Vd t,zf ts⟩
end
theorem J5(n:Nat)(h:XH)(o:Option Ob):lk (UN n h o)=gI (lk h) n o:=by
 cases o with
 |none=>rfl
 |some ob=>exact xw h n ob
theorem YX{K:Know}(KO:XM P K): ∀ d,MI P (xf K d):=by
 intro d
 induction d with
 |zero=>intro dr n f ts h t h' e; cases e
 |succ d C =>
  intro dr n f ts h t h' e
  simp only[xf] at e
  have Hf: ∀ {t h'},(bif dr then none else JY K (xf K d) n f ts h)=some (t,h')->bF P f ts (lk h) n (fun t1 h1=>t1=t/\h1=lk h')/\(dr=true->lk h'=lk h/\t.free=true):=by
   intro t h' e
   cases dr with
   |true=>cases e
   |false=>exact⟨XQ KO C e,fun hd=>by cases hd⟩
  cases hts:T.aT ts with
  |true =>
   rw[hts] at e
   simp only[cond_true] at e
   split at e
   ·rename_i t1 o er
    cases e
    obtain⟨tf,h1,h2,h3,h4⟩:=EI KO C hts er
    refine⟨?_,fun hd=>?_,fun _=>⟨o,J5 _ _ _,by rw[<- h1]; exact h2.ids n,h2.ob,fun hp=>by have:=h2.frame hp n; rw[h1] at this; exact this⟩⟩
    ·have:=h2.frame (lk h) n
     rw[h1] at this
     rw[J5]; exact this
    ·have:=h4 hd; subst this; exact⟨rfl,h3 rfl⟩
   ·cases e
  |false =>
   rw[hts] at e
   simp only[cond_false] at e
   cases hw:K.wr f with
   |true=>rw[hw] at e; exact⟨(Hf e).1,(Hf e).2,fun q=>(by cases q)⟩
   |false =>
    rw[hw] at e
    simp only[cond_false] at e
    cases hl:T.aT (T.yB h ts) with
    |false=>rw[hl] at e; exact⟨(Hf e).1,(Hf e).2,fun q=>(by cases q)⟩
    |true =>
     rw[hl] at e
     simp only[cond_true] at e
     split at e
     ·rename_i t1 o er
      obtain⟨tf,h1,h2,h3,h4⟩:=EI KO C hl er
      cases hb:(t1.hard&&UO o) with
      |false=>rw[hb] at e; exact⟨(Hf e).1,(Hf e).2,fun q=>(by cases q)⟩
      |true =>
       rw[hb] at e; cases e
       rw[Bool.and_eq_true] at hb
       refine⟨?_,fun hd=>?_,fun q=>(by cases q)⟩
       ·rw[J5]
        refine rE.lend h2 (h:=lk h) (n:=n) (zf ts) (by rw[h1]; exact hb.1) (fun ob e=>by rw[e] at hb; exact hb.2) ?_
        exact⟨h1,rfl⟩
       ·have:=h4 hd; subst this; exact⟨rfl,h3 rfl⟩
     ·exact⟨(Hf e).1,(Hf e).2,fun q=>(by cases q)⟩
end
end Go.Ab
