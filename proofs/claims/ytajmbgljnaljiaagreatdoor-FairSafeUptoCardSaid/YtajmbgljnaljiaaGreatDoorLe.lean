/-
 The executable evaluator: definitions. It runs code on abstract values, calls within calls, with fuel; it answers nothing where it is not sure.
-/
import Derived.Test.YtajmbgljnaljiaaGreatDoorLd
namespace Go.Ab
inductive Tr where
 |lf
 |nd (v:T) (l r:Tr)
 deriving Inhabited
def Tr.get:Tr->Nat->T
 | .lf,_=>T.un
 | .nd v l r,n=>bif Nat.beq n 0 then v else bif Nat.beq (Nat.mod n 2) 1 then l.get (Nat.div n 2) else r.get (Nat.div (Nat.sub n 1) 2)
def Tr.set:Tr->Nat->T->Tr
 | .lf,_,_=>.lf
 | .nd v l r,n,t=>bif Nat.beq n 0 then .nd t l r else bif Nat.beq (Nat.mod n 2) 1 then .nd v (l.set (Nat.div n 2) t) r else .nd v l (r.set (Nat.div (Nat.sub n 1) 2) t)
def Tr.map(f:T->T):Tr->Tr
 | .lf=>.lf
 | .nd v l r=>.nd (f v) (l.map f) (r.map f)
def Tr.full:Nat->Tr
 |0=>.lf
 |d+1=>.nd T.un (Tr.full d) (Tr.full d)
abbrev XH:=List (Nat×Ob)
def lk:XH->Nat->Option Ob
 |[],_=>none
 |(j,o)::r,i=>bif Nat.beq j i then some o else lk r i
def hset(i:Nat)(o:Ob):XH->XH
 |[]=>[(i,o)]
 |(j,p)::r=>bif Nat.beq j i then(i,o)::r else(j,p)::hset i o r
def hdel(i:Nat):XH->XH
 |[]=>[]
 |(j,p)::r=>bif Nat.beq j i then hdel i r else(j,p)::hdel i r
structure XS where
 fr:Tr
 n:Nat
 hp:XH
 nx:Nat
 pin:Nat
 deriving Inhabited
def XS.ev(s:XS):X->T
 | .t n=>s.fr.get n
 | .c v=>v
def XS.put(s:XS)(d:Option Nat)(t:T):Option XS :=
 match d with
 |some i=>bif Nat.blt i s.n then some {s with fr:=s.fr.set i t} else none
 |none=>some s
def XS.sJ(s:XS)(d:Option Nat)(t:T)(h:XH):Option XS :=
 match d with
 |some i=>bif Nat.blt i s.n then some {s with fr:=s.fr.set i t,hp:=h} else none
 |none=>some {s with hp:=h}
def KC{α:Type}(n:Nat)(k:Nat->α):α :=
 match n with
 |0=>k 0
 |m+1=>k (Nat.succ m)
def NT{α:Type}(t:T)(k:T->α):α :=
 match t with
 | .lit (.int c (.ofNat n))=>KC n fun n=>k (.lit (.int c (.ofNat n)))
 | .lit (.int c (.negSucc n))=>KC n fun n=>k (.lit (.int c (.negSucc n)))
 | .lit (.bool true)=>k (.lit (.bool true))
 | .lit (.bool false)=>k (.lit (.bool false))
 | .lit v=>k (.lit v)
 | .agg l=>k (.agg l)
 | .sl a b l=>k (.sl a b l)
 | .ref a t=>k (.ref a t)
 | .own i=>KC i fun i=>k (.own i)
 | .ptr i j o=>KC j fun j=>k (.ptr i j o)
 | .kR i lo hi=>KC lo fun lo=>KC hi fun hi=>k (.kR i lo hi)
 | .fn f c=>k (.fn f c)
 | .fP l=>k (.fP l)
 | .any=>k .any
def iLt:Int->Int->Bool
 | .ofNat a,.ofNat b=>Nat.blt a b
 | .negSucc _,.ofNat _=>true
 | .ofNat _,.negSucc _=>false
 | .negSucc a,.negSucc b=>Nat.blt b a
def iEq:Int->Int->Bool
 | .ofNat a,.ofNat b=>Nat.beq a b
 | .negSucc a,.negSucc b=>Nat.beq a b
 |_,_=>false
def zJ(a b:Int):Bool:= !(iLt b a)
def w64(n:Int):Int :=
 match n with
 | .ofNat m=>bif Nat.blt m 9223372036854775808 then .ofNat m else IntKind.i64.wrap (.ofNat m)
 | .negSucc m=>bif Nat.blt m 9223372036854775808 then .negSucc m else IntKind.i64.wrap (.negSucc m)
def BX(op:BinOp)(a b:Int):Option T :=
 match op with
 | .add=>some (.lit (.int .i64 (w64 (Int.add a b))))
 | .sub=>some (.lit (.int .i64 (w64 (Int.sub a b))))
 | .eql=>some (.lit (.bool (iEq a b)))
 | .neq=>some (.lit (.bool (!(iEq a b))))
 | .lss=>some (.lit (.bool (iLt a b)))
 | .leq=>some (.lit (.bool (zJ a b)))
 | .gtr=>some (.lit (.bool (iLt b a)))
 | .geq=>some (.lit (.bool (zJ b a)))
 |op=>(yS op (.int .i64 a) (.int .i64 b)).map T.lit
def abI(op:BinOp)(x y:T):Option T :=
 match x,y with
 | .lit (.int .i64 a),.lit (.int .i64 b)=>BX op a b
 | .lit u,.lit v=>(yS op u v).map T.lit
 |_,_=>none
def NU(n:Int)(l:Nat):Bool :=
 match n with
 | .ofNat m=>Nat.blt m l
 | .negSucc _=>false
def xw{α:Type}(b:Bool)(a:α):Option α:=bif b then some a else none
def Y5(k:Nat)(ob:Ob):Option T->Option T->Option T->Bool
 |some (.lit (.int _ a)),none,none=>Nat.beq ob.k k&&zJ 0 a&&zJ a ob.l.length
 |none,some (.lit (.int _ b)),none=>Nat.beq ob.k k&&zJ 0 b&&zJ b ob.l.length
 |some (.lit (.int _ a)),some (.lit (.int _ b)),none=>Nat.beq ob.k k&&zJ 0 a&&zJ a b&&zJ b ob.l.length
 |_,_,_=>false
def slB(k:Nat)(x:T)(lo hi mx:Option T):Bool :=
 match x,lo,hi,mx with
 | .sl k' _ l,none,none,none=>Nat.beq k' k||l.isEmpty
 | .sl k' _ l,some (.lit (.int _ a)),none,none=>(Nat.beq k' k||l.isEmpty)&&zJ 0 a&&zJ a l.length
 | .sl k' _ l,none,some (.lit (.int _ b)),none=>(Nat.beq k' k||l.isEmpty)&&zJ 0 b&&zJ b l.length
 | .sl k' _ l,some (.lit (.int _ a)),some (.lit (.int _ b)),none=>(Nat.beq k' k||l.isEmpty)&&zJ 0 a&&zJ a b&&zJ b l.length
 | .sl k' _ l,none,some (.lit (.int _ b)),some (.lit (.int _ m))=>(Nat.beq k' k||l.isEmpty)&&zJ 0 b&&zJ b m&&zJ m l.length
 |_,_,_,_=>false
def xq(ev:X->T)(hp:Hp):lg->Option T
 | .mv x=>some (ev x)
 | .pick c a b =>
  match ev c with
  | .lit (.bool true)=>some (ev a)
  | .lit (.bool false)=>some (ev b)
  |_=>none
 | .bin op x y=>abI op (ev x) (ev y)
 | .bb ne x y =>
  match ev x,ev y with
  | .lit (.bool a),.lit (.bool b)=>some (.lit (.bool (bif ne then !(a==b) else a==b)))
  |_,_=>none
 | .not x=>match ev x with| .lit (.bool b)=>some (.lit (.bool !b))|_=>none
 | .conv k x=>match ev x with| .lit (.int _ n)=>some (.lit (.int k (k.wrap n)))|_=>none
 | .fa off k x =>
  match ev x with
  | .ptr i j o=>xw (hp i).isSome (.ptr i j (Nat.add o off))
  | .ref kt t=>xw (!(Nat.beq kt 0)&&jB (bG kt) off k) (.ref k (t.part off k))
  |_=>none
 | .fv off k x=>xw (!(Nat.beq (ev x).kd 0)&&jB (bG (ev x).kd) off k) ((ev x).part off k)
 | .ia k x i =>
  match ev x,ev i with
  | .sl k' _ l,.lit (.int _ n)=>xw (Nat.beq k' k&&NU n l.length) (.ref k (l.getD n.toNat .any))
  | .own o,.lit (.int _ n)=>match hp o with|some ob=>xw (Nat.beq ob.k k&&NU n ob.l.length) (.ptr o n.toNat 0)|none=>none
  | .kR o lo hi,.lit (.int _ n)=>match hp o with|some ob=>xw (Nat.beq ob.k k&&NU n (Nat.sub hi lo)) (.ptr o (Nat.add lo n.toNat) 0)|none=>none
  |_,_=>none
 | .ch x i =>
  match ev x,ev i with
  | .lit (.string b),.lit (.int _ n)=>xw (NU n b.size) (.lit (.int .u8 (b.data.getD n.toNat 0).toNat))
  |_,_=>none
 | .ld k x =>
  match ev x with
  | .ref k' t=>xw (Nat.beq k' k&&Nat.blt 0 (bG k)) t
  | .ptr i j off =>
   match hp i with
   |some ob =>
    bif Nat.blt j ob.l.length then
     bif Nat.beq off 0&&Nat.beq ob.k k then some (ob.l.getD j .any)
     else xw (!(Nat.beq ob.k 0)&&jB (bG ob.k) off k) ((ob.l.getD j .any).part off k)
    else none
   |none=>none
  |_=>none
 | .nc x=>match ev x with
  | .ptr i a b=>xw (hp i).isSome (.ptr i a b)
  | .ref a b=>some (.ref a b)
  | .fn a b=>some (.fn a b)
  |_=>none
 | .len str x =>
  match ev x with
  | .sl _ _ l=>xw (!str) (.lit (.int .i64 (.ofNat l.length)))
  | .own o=>match hp o with|some ob=>xw (!str&& !(Nat.beq ob.k 1000000007)) (.lit (.int .i64 (.ofNat ob.l.length)))|none=>none
  | .kR i lo hi=>xw (!str&&(hp i).isSome) (.lit (.int .i64 (.ofNat (Nat.sub hi lo))))
  | .lit (.string b)=>xw str (.lit (.int .i64 (.ofNat b.size)))
  |_=>none
 | .mx x y =>
  match ev x,ev y with
  | .lit (.int k a),.lit (.int _ b)=>some (.lit (.int k (bif iLt a b then b else a)))
  |_,_=>none
 | .mn x y =>
  match ev x,ev y with
  | .lit (.int k a),.lit (.int _ b)=>some (.lit (.int k (bif iLt b a then b else a)))
  |_,_=>none
 | .mk z ps=>xw (CQ z (ps.map fun p=>(p.1,p.2.1,ev p.2.2))&&qM hp (ps.map fun p=>ev p.2.2)) (.agg (D8 z (ps.map fun p=>(p.1,p.2.1,ev p.2.2))))
 | .ms _ k z n ps=>xw ((z.kd==k)&&z.free&&BK k n (ps.map fun p=>(p.1,ev p.2))&&qM hp (ps.map fun p=>ev p.2)&&T.bC (ps.map fun p=>ev p.2)&&Nat.ble (n*bG k) 16777216&&Nat.blt 0 (bG k))
   (.sl k true (oD (List.replicate n z) (ps.map fun p=>(p.1,ev p.2))))
 | .sl k x lo hi mx=>xw (slB k (ev x) (lo.map ev) (hi.map ev) (mx.map ev)) (Np k (ev x) (lo.map ev) (hi.map ev) (mx.map ev))
 | .Rl k x lo hi mx =>
  match ev x with
  | .own i=>match hp i with|some ob=>xw (Y5 k ob (lo.map ev) (hi.map ev) (mx.map ev)) (xQ i ob (lo.map ev) (hi.map ev) (mx.map ev))|none=>none
  |t=>xw (slB k t (lo.map ev) (hi.map ev) (mx.map ev)) (Np k t (lo.map ev) (hi.map ev) (mx.map ev))
 | .sa n x=>match ev x with| .ref k (.agg l)=>xw (Nat.beq k (n+1)&&Nat.beq l.length n&&Nat.blt 0 n) (.sl 0 true l)|_=>none
 | .IU x=>match ev x with| .sl _ true l=>some (.lit (.int .i64 (.ofNat l.length)))|_=>none
 | .ss x lo hi =>
  match ev x,lo.map ev,hi.map ev with
  | .lit (.string b),none,none=>some (.lit (.string (b.extract 0 b.size)))
  | .lit (.string b),some (.lit (.int _ i)),none=>xw (zJ 0 i&&zJ i b.size) (.lit (.string (b.extract i.toNat b.size)))
  | .lit (.string b),none,some (.lit (.int _ j))=>xw (zJ 0 j&&zJ j b.size) (.lit (.string (b.extract 0 j.toNat)))
  | .lit (.string b),some (.lit (.int _ i)),some (.lit (.int _ j))=>xw (zJ 0 i&&zJ i j&&zJ j b.size) (.lit (.string (b.extract i.toNat j.toNat)))
  |_,_,_=>none
 | .ex x i=>match ev x with| .fP l=>xw (Nat.blt i l.length) (l.getD i .any)|_=>none
 | .mf f cap=>xw (xg hp (cap.map ev)&&Nat.blt f 4096) (.fn f (cap.map ev))
 | .mb f x=>match ev x with| .agg l=>xw (Nat.blt f 4096) (.fn (f+4096) l)|_=>none
 | .eqs ne n x y =>
  match ev x,ev y with
  | .agg l,.agg l'=>xw (nM l&&nM l'&&(l.length==n)&&(l'.length==n)) (.lit (.bool (bif ne then !(pO l l') else pO l l')))
  |_,_=>none
 | .mlk z x i =>
  match ev x,ev i with
  | .own o,.lit (.int .i64 n) =>
   match hp o with
   |some ob=>xw (ob.k==1000000007) (match vH n ob.l with|some u=>.fP [u,.lit (.bool true)]|none=>.fP [z,.lit (.bool false)])
   |none=>none
  |_,_=>none
 |_=>none
abbrev CF:=Bool->Nat->FuncId->List T->XH->Option (T×XH)
def BZ(cf:CF)(dr:Bool)(n:Nat)(d:Option Nat)(f:FuncId)(ts:List T)(s:XS):Option XS :=
 match cf dr n f ts s.hp with
 |some (t,h)=>s.sJ d t h
 |none=>none
def JY(cf:CF)(dr:Bool)(n:Nat)(d:Option Nat)(op:lg)(s:XS):Option XS :=
 match op with
 | .box ty k x =>
  bif (s.ev x).kd==k&&(s.ev x).iT (lk s.hp)&&sW k then s.sJ d (.ptr n 0 0) ((n,⟨ty,k,[s.ev x]⟩)::s.hp) else none
 | .al ty k z =>
  bif z.kd==k&&z.iT (lk s.hp)&&z.free&&sW k then s.sJ d (.ptr n 0 0) ((n,⟨ty,k,[z]⟩)::s.hp) else none
 | .make ty k bytes z x y =>
  match s.ev x,s.ev y with
  | .lit (.int _ a),.lit (.int _ b) =>
   bif (z.kd==k&&z.iT (lk s.hp)&&z.free&&sW k)&&(zJ 0 a&&zJ a b&&zJ (b*bytes) 140737488355328&&zJ b 1152921504606846976) then
    s.sJ d (.own n) ((n,⟨ty,k,List.replicate a.toNat z⟩)::s.hp) else none
  |_,_=>none
 | .st k x v =>
  match s.ev x with
  | .ptr i j off =>
   match lk s.hp i with
   |some ob =>
    bif ((s.ev v).kd==k&&(s.ev v).iT (lk s.hp))&&Nat.blt j ob.l.length&&((off==0&&ob.k==k)||(!(ob.k==0)&&jB (bG ob.k) off k)) then
     some {s with hp:=hset i ⟨ob.ty,ob.k,ob.l.set j (bif (off==0&&ob.k==k) then s.ev v else(ob.l.getD j .any).splice off (s.ev v))⟩ s.hp} else none
   |none=>none
  |_=>none
 | .app ty k bytes x y =>
  match PX (lk s.hp) k (s.ev y) with
  | .list m =>
   match s.ev x with
   | .sl k' true l =>
    bif (Nat.beq k' k||l.isEmpty)&&(l.isEmpty|| !m.isEmpty)&&Nat.ble ((l.length+m.length)*bytes) 140737488355328&&Nat.ble (l.length+m.length) 1152921504606846976 then
     s.sJ d (.own n) ((n,⟨ty,k,l++m⟩)::s.hp) else none
   | .own i =>
    match lk s.hp i with
    |some ob =>
     bif (ob.k==k&&ob.ty==ty)&&Nat.ble ((ob.l.length+m.length)*bytes) 140737488355328&&Nat.ble (ob.l.length+m.length) 1152921504606846976 then
      s.sJ d (.own n) ((n,⟨ty,k,ob.l++m⟩)::hdel i s.hp) else none
    |none=>none
   |_=>none
  | .no=>none
 | .Dv ty k z m ps =>
  bif (z.kd==k)&&z.free&&BK k m (ps.map fun p=>(p.1,s.ev p.2))&&qM (lk s.hp) (ps.map fun p=>s.ev p.2)&&Nat.ble (m*bG k) 16777216&&sW k then
   s.sJ d (.own n) ((n,⟨ty,k,oD (List.replicate m z) (ps.map fun p=>(p.1,s.ev p.2))⟩)::s.hp) else none
 | .call f xs=>BZ cf dr n d f (xs.map s.ev) s
 | .ku x xs=>match s.ev x with
  | .fn f cap=>bif Nat.blt f 4096 then BZ cf dr n d f (xs.map s.ev++cap) s else BZ cf dr n d (f % 4096) (.agg cap::xs.map s.ev) s
  |_=>none
 | .xO x =>
  match s.ev x with
  | .sl _ _ l=>bif l.isEmpty then none else s.put d (.lit (.bool false))
  | .own i=>match lk s.hp i with
   |some ob=>bif ob.l.isEmpty||ob.k==dI then none else s.put d (.lit (.bool false))
   |none=>none
  |_=>none
 | .Uu ty=>s.sJ d (.own n) ((n,⟨ty,dI,[]⟩)::s.hp)
 | .Nl x i v =>
  match s.ev x,s.ev i with
  | .own o,.lit (.int .i64 m) =>
   match lk s.hp o with
   |some ob=>bif ob.k==dI&&((s.ev v).kd==0&&(s.ev v).wo (lk s.hp)) then some {s with hp:=hset o ⟨ob.ty,ob.k,zF m (s.ev v) ob.l⟩ s.hp} else none
   |none=>none
  |_,_=>none
 | .OG k z x =>
  match s.ev x with
  | .kR i lo hi=>match lk s.hp i with
   |some ob=>bif (ob.k==k&&z.kd==k&&z.iT (lk s.hp)&&z.free)&&Nat.ble hi ob.l.length then
     s.sJ d T.un (hset i ⟨ob.ty,ob.k,ob.l.take lo++List.replicate (hi-lo) z++ob.l.drop hi⟩ s.hp) else none
   |none=>none
  |_=>none
 | .bot=>none
 |op=>match xq s.ev (lk s.hp) op with
  |some t=>NT t fun t=>s.put d t
  |none=>none
def ad7(s:XS)(m:Nat):Option Nat :=
 bif Nat.blt m s.n then(match s.fr.get m with
 | .ptr i _ _=>some i
 |_=>none) else none
def neX(s:XS)(xs:List X):List Nat->Bool
 |[]=>true
 |m::r=>(match ad7 s m with|some i=>xs.all fun x=>T.nid i (s.ev x)|none=>false)&&neX s xs r
def drX(dr:Bool)(o:aC):Bool:=bif o.ar then false else bif o.ad then dr else o.dr dr
def Tj:lg->Bool
 | .call .. =>true
 | .ku .. =>true
 |_=>false
def uh(dr:Bool)(o:aC)(s:XS):Bool :=
 (!o.ar||(o.fl&& !o.ad&&match o.op with| .call _ xs=>T.bC (xs.map s.ev)|_=>false))&&(!o.ad||(dr&&Tj o.op))&&(bif o.fl then(match o.op with
  | .st _ x _=>T.newer s.nx (s.ev x)
  | .app _ _ _ x _=>T.newer s.nx (s.ev x)
  | .Nl _ _ _=>false
  | .OG _ _ _=>false
  | .call _ _=>true
  | .ku _ _=>true
  |op=>op.xs.all fun x=>T.lt s.nx (s.ev x)) else true)&&neX s o.op.xs o.ne
def Df(cf:CF)(dr:Bool)(m:Nat):List aC->Nat->XS->Option XS
 |[],_,s=>KC (Nat.add s.nx m) fun k=>some {s with nx:=k}
 |o::r,i,s =>
  match o.g with
  |none =>
   bif uh dr o s then
    match JY cf (drX dr o) (Nat.add s.nx i) o.d o.op s with
    |some s'=>Df cf dr m r (Nat.succ i) s'
    |none=>none
   else none
  |some (d,want) =>
   match s.fr.get d with
   | .lit (.bool b) =>
    bif Nat.blt d s.n then
     bif b==want then
      bif uh dr o s then
       match JY cf (drX dr o) (Nat.add s.nx i) o.d o.op s with
       |some s'=>Df cf dr m r (Nat.succ i) s'
       |none=>none
      else none
     else match s.put o.d T.un with
      |some s'=>Df cf dr m r (Nat.succ i) s'
      |none=>none
    else none
   | .lit (.tuple _) =>
    bif Nat.blt d s.n then
     match s.put o.d T.un with
     |some s'=>Df cf dr m r (Nat.succ i) s'
     |none=>none
    else none
   |_=>none
mutual
def T.fz(z:XH):T->T
 | .own j=>match lk z j with|some ob=>.sl ob.k false ob.l|none=>.own j
 | .ptr j a b=>match lk z j with|some ob=>bif Nat.beq b 0&&Nat.blt a ob.l.length then .ref ob.k (ob.l.getD a .any) else .ptr j a b|none=>.ptr j a b
 | .kR j a b=>match lk z j with|some ob=>bif Nat.ble b ob.l.length then .sl ob.k false ((ob.l.take b).drop a) else .any|none=>.kR j a b
 | .agg l=>.agg (T.LZ z l)
 | .fP l=>.fP (T.LZ z l)
 |t=>t
def T.LZ(z:XH):List T->List T
 |[]=>[]
 |t::ts=>T.fz z t::T.LZ z ts
end
def Ob.fz(z:XH)(o:Ob):Ob:=⟨o.ty,o.k,T.LZ z o.l⟩
def NV(z:XH):XH->XH
 |[]=>[]
 |(i,o)::r=>match lk z i with|some _=>NV z r|none=>(i,o.fz z)::NV z r
def yt(p:Nat->Bool)(h:XH):XH->XH
 |[]=>[]
 |(i,_)::r=>bif p i then(match lk h i with
   |some o=>bif !(o.k==dI)&&T.bC o.l then(i,o)::yt p h r else yt p h r
   |none=>yt p h r) else yt p h r
def UM:List T->List Nat
 |[]=>[]
 | .own i::r=>i::UM r
 |_::r=>UM r
def Tm:List T->List Nat
 |[]=>[]
 | .agg l::r=>UM l++Tm r
 |_::r=>Tm r
def inner:XH->List Nat
 |[]=>[]
 |(_,o)::r=>bif o.k==0 then inner r else Tm o.l++inner r
def xA(i:Nat):List Nat->Bool
 |[]=>false
 |j::r=>Nat.beq i j||xA i r
mutual
def T.nms:T->List Nat->List Nat
 | .own i,a=>i::a
 | .ptr i _ _,a=>i::a
 | .kR i _ _,a=>i::a
 | .agg l,a=>T.Y6 l a
 | .fP l,a=>T.Y6 l a
 | .fn _ l,a=>T.Y6 l a
 |_,a=>a
def T.Y6:List T->List Nat->List Nat
 |[],a=>a
 |t::ts,a=>T.nms t (T.Y6 ts a)
end
def Tr.nms:Tr->List Nat->List Nat
 | .lf,a=>a
 | .nd v l r,a=>v.nms (l.nms (r.nms a))
def ac1:XH->List Nat->List Nat
 |[],a=>a
 |(_,o)::r,a=>T.Y6 o.l (ac1 r a)
def xB(p:Nat->Bool):XH->XH
 |[]=>[]
 |(i,o)::r=>bif p i then(i,o)::xB p r else xB p r
def longer:Nat->XH->Bool
 |0,_=>true
 |_+1,[]=>false
 |n+1,_::r=>longer n r
def XS.gc(s:XS):XS :=
 bif longer 12 s.hp then {s with hp:=xB (fun i=>Nat.blt i s.pin||xA i (s.fr.nms (ac1 s.hp []))) s.hp} else s
def XS.fz(z:XH)(s:XS):XS:= {s with fr:=s.fr.map (T.fz z),hp:=NV z s.hp}
abbrev Mlt:=Bool×Bool×List Nat
def Tn:XH->List Nat
 |[]=>[]
 |(_,o)::r=>bif o.k==0 then UM o.l++Tn r else Tn r
def GL(f:Tr):List Nat->List Nat
 |[]=>[]
 |d::r=>match f.get d with
  | .ptr i _ _=>i::GL f r
  |_=>GL f r
def ad8(m:Mlt)(s:XS):List Nat:=(bif m.1 then inner s.hp else [])++((bif m.2.1 then Tn s.hp else [])++GL s.fr m.2.2)
def XS.KD(m:Mlt)(s:XS):XS :=
 match ad8 m s with
 |[]=>s.gc
 |l=>match yt (fun i=>Nat.ble s.pin i&&xA i l) s.hp s.hp with
  |[]=>s.gc
  |z=>(s.fz z).gc
def afE:lg->Bool
 | .Dv .. =>true
 |_=>false
def Y7:List aC->Bool
 |[]=>false
 |o::r=>afE o.op||Y7 r
def Dh:eu->Bool
 | .reg _ ops=>Y7 ops
 | .seq a b=>Dh a||Dh b
 | .cond _ a b=>Dh a||Dh b
 | .blk _ b=>Dh b
 | .loop b=>Dh b
 |_=>false
def agP:lg->List Nat
 | .sa _ (.t d)=>[d]
 |_=>[]
def ac2:List aC->List Nat
 |[]=>[]
 |o::r=>agP o.op++ac2 r
def Tq:eu->List Nat
 | .reg _ ops=>ac2 ops
 | .seq a b=>Tq a++Tq b
 | .cond _ a b=>Tq a++Tq b
 | .blk _ b=>Tq b
 | .loop b=>Tq b
 |_=>[]
def afF:lg->Bool
 | .Rl _ _ _ _ (some _)=>true
 |_=>false
def Y8:List aC->Bool
 |[]=>false
 |o::r=>afF o.op||Y8 r
def Di:eu->Bool
 | .reg _ ops=>Y8 ops
 | .seq a b=>Di a||Di b
 | .cond _ a b=>Di a||Di b
 | .blk _ b=>Di b
 | .loop b=>Di b
 |_=>false
def Gs(c:eu):Mlt:=(Dh c,Di c,Tq c)
inductive Out where
 |bad
 |go (s:XS)
 |ex (id:Nat) (s:XS)
 |rt (s:XS)
 deriving Inhabited
def iter(m:Mlt)(body:XS->Out):Nat->XS->Out
 |0,_=>.bad
 |n+1,s =>
  match body (s.KD m) with
  | .go s'=>iter m body n s'
  |o=>o
def xr(cf:CF)(big:Nat):eu->XS->Out
 | .skip,s=>.go s
 | .reg dr ops,s=>match Df cf dr ops.length ops 0 s with|some s'=>.go s'|none=>.bad
 | .seq a b,s =>
  match xr cf big a s with
  | .go s'=>xr cf big b s'
  |o=>o
 | .cond c a b,s =>
  match s.ev c with
  | .lit (.bool true)=>xr cf big a s
  | .lit (.bool false)=>xr cf big b s
  |_=>.bad
 | .blk id b,s =>
  match xr cf big b s with
  | .ex j s'=>bif Nat.beq j id then .go s' else .ex j s'
  |o=>o
 | .exit id,s=>.ex id s
 | .ret,s=>.rt s
 | .loop b,s=>iter (Gs b) (xr cf big b) big s
structure FnX where
 code:eu
 rs:List RV
 nt:Nat
def abJ(s:XS):RV->Option T
 | .slot t=>some (s.fr.get t)
 | .cell a k =>
  match s.fr.get a with
  | .ptr i j 0=>match lk s.hp i with|some ob=>bif Nat.blt j ob.l.length&&ob.k==k then some (ob.l.getD j .any) else none|none=>none
  |_=>none
def L6(s:XS):List RV->Option (List T)
 |[]=>some []
 |r::rs=>match abJ s r,L6 s rs with
  |some t,some l=>some (t::l)
  |_,_=>none
def FI:List T->T
 |[t]=>t
 |l=>.fP l
def jT(s:XS):List RV->List Nat
 |[]=>[]
 | .slot _::rs=>jT s rs
 | .cell a _::rs=>match s.fr.get a with| .ptr i _ _=>i::jT s rs|_=>jT s rs
def Y9(pin:Nat):T->List Nat
 | .own i=>bif Nat.ble pin i then [i] else []
 |_=>[]
def WR(pin:Nat):List T->List Nat
 |[]=>[]
 |t::r=>Y9 pin t++WR pin r
def Qo(n:Nat):XH->List Nat
 |[]=>[]
 |(i,o)::r=>bif Nat.blt i n then WR n o.l++Qo n r else Qo n r
def Za(n:Nat)(vs:List T)(h:XH):List Nat :=
 match WR n vs with
 |[]=>Qo n h
 |l=>l
def settle(p:Nat->Bool):Nat->List T->XH->List T×XH
 |0,t,h=>(t,h)
 |n+1,t,h =>
  match yt p h h with
  |[]=>(t,h)
  |z=>settle p n (T.LZ z t) (NV z h)
mutual
def T.rn(m n:Nat):T->T
 | .own i=>bif Nat.beq i m then .own n else .own i
 | .ptr i j o=>bif Nat.beq i m then .ptr n j o else .ptr i j o
 | .kR i j o=>bif Nat.beq i m then .kR n j o else .kR i j o
 | .agg l=>.agg (T.OH m n l)
 | .fP l=>.fP (T.OH m n l)
 | .fn f cap=>.fn f (T.OH m n cap)
 |t=>t
def T.OH(m n:Nat):List T->List T
 |[]=>[]
 |t::ts=>T.rn m n t::T.OH m n ts
end
mutual
def T.Tt(p:Nat->Bool):T->Bool
 | .own i=>p i
 | .ptr i _ _=>p i
 | .kR i _ _=>p i
 | .agg l=>T.yu p l
 | .fP l=>T.yu p l
 | .fn _ l=>T.yu p l
 |_=>true
def T.yu(p:Nat->Bool):List T->Bool
 |[]=>true
 |t::ts=>T.Tt p t&&T.yu p ts
end
def tJ(h0:XH)(m n:Nat):XH->XH
 |[]=>[]
 |(i,o)::r =>
  bif Nat.beq i m then(n,⟨o.ty,o.k,T.OH m n o.l⟩)::tJ h0 m n r
  else bif (lk h0 i).isSome then(i,⟨o.ty,o.k,T.OH m n o.l⟩)::tJ h0 m n r
  else tJ h0 m n r
def uS(h0:XH):XH->XH
 |[]=>[]
 |(i,o)::r=>bif (lk h0 i).isSome then(i,o)::uS h0 r else uS h0 r
def Jy(p:Nat->Bool):XH->Bool
 |[]=>true
 |(i,o)::r=>(bif p i then T.yu p o.l else true)&&Jy p r
def hLt(n:Nat):XH->Bool
 |[]=>true
 |(i,o)::r=>Nat.blt i n&&T.JX n o.l&&hLt n r
mutual
def T.lend(h:XH):T->T
 | .own i=>match lk h i with|some ob=>bif T.bC ob.l&& !(ob.k==dI) then .sl ob.k false ob.l else .own i|none=>.own i
 | .kR i lo hi=>match lk h i with|some ob=>bif T.bC ob.l&& !(ob.k==dI)&&Nat.ble hi ob.l.length then .sl ob.k false ((ob.l.take hi).drop lo) else .kR i lo hi|none=>.kR i lo hi
 | .agg l=>.agg (T.Ai h l)
 | .fP l=>.fP (T.Ai h l)
 |t=>t
def T.Ai(h:XH):List T->List T
 |[]=>[]
 |t::ts=>T.lend h t::T.Ai h ts
end
structure Know where
 tab:FuncId->Option FnX
 UN:Nat->FuncId->List T->Option (T×Option Ob)
 Zb:Nat->FuncId->List T->XH->Option (T×XH)
 wr:FuncId->Bool
 big:Nat
def zh:List T->Nat->Tr->Tr
 |[],_,f=>f
 |t::r,i,f=>zh r (Nat.succ i) (f.set i t)
def zi(b:FnX)(ts:List T)(h:XH)(n:Nat):XS:=⟨zh ts 0 (Tr.full (Nat.succ (Nat.log2 b.nt))),b.nt,h,n,n⟩
def Tv(n:Nat)(dr:Bool)(rs:List RV)(s:XS):Option (T×Option Ob) :=
 match L6 s rs with
 |none=>none
 |some vs =>
  match (bif dr then [] else WR 0 vs) with
  |[m] =>
   match settle (fun i=> !(Nat.beq i m)&& !(xA i (jT s rs))) 8 vs s.hp with
   |(vs,hp) =>
    match lk hp m with
    |some ob=>bif T.bC ob.l&& !(ob.k==dI)&&T.yu (Nat.beq m) vs then some (T.rn m n (FI vs),some ob) else none
    |none=>none
  |_ =>
   match settle (fun i=> !(xA i (jT s rs))) 8 vs s.hp with
   |(vs,_)=>bif T.bC vs then some (FI vs,none) else none
def Zc(n:Nat)(h:XH):Option Ob->XH
 |none=>h
 |some ob=>(n,ob)::h
def WS(K:Know)(cf:CF)(dr:Bool)(n:Nat)(f:FuncId)(ts:List T):Option (T×Option Ob) :=
 match K.UN n f ts with
 |some r=>bif dr&&r.2.isSome then none else some r
 |none =>
  match K.tab f with
  |none=>none
  |some b =>
   bif Nat.ble ts.length b.nt then
    match xr cf K.big b.code (zi b ts [] 0) with
    | .go s=>Tv n dr b.rs s
    | .rt s=>Tv n dr b.rs s
    |_=>none
   else none
def Tz(n:Nat)(h:XH)(rs:List RV)(s:XS):Option (T×XH) :=
 match L6 s rs with
 |none=>none
 |some vs =>
  match Za n vs s.hp with
  |[m] =>
   match settle (fun i=> !(Nat.beq i m)&&Nat.ble n i&& !(xA i (jT s rs))) 8 vs s.hp with
   |(vs,hp) =>
    bif (lk hp m).isSome&&T.yu (fun i=>(lk h i).isSome||Nat.beq i m) vs&&Jy (fun i=>(lk h i).isSome||Nat.beq i m) hp then some (T.rn m n (FI vs),tJ h m n hp) else none
  |_ =>
   match settle (fun i=>Nat.ble n i&& !(xA i (jT s rs))) 8 vs s.hp with
   |(vs,hp) =>
    bif T.yu (fun i=>(lk h i).isSome) vs&&Jy (fun i=>(lk h i).isSome) hp then some (FI vs,uS h hp) else none
def NW(K:Know)(cf:CF)(n:Nat)(f:FuncId)(ts:List T)(h:XH):Option (T×XH) :=
 match K.Zb n f ts h with
 |some r=>some r
 |none =>
  match K.tab f with
  |none=>none
  |some b =>
   bif T.JX n ts&&hLt n h&&Nat.ble ts.length b.nt then
    match xr cf K.big b.code (zi b ts h n) with
    | .go s=>Tz n h b.rs s
    | .rt s=>Tz n h b.rs s
    |_=>none
   else none
def Zd:Option Ob->Bool
 |some ob=>T.ug ob.l
 |none=>true
def xf(K:Know):Nat->CF
 |0=>fun _ _ _ _ _=>none
 |d+1=>fun dr n f ts h =>
  bif T.bC ts then
   match WS K (xf K d) dr n f ts with
   |some (t,o)=>some (t,Zc n h o)
   |none=>none
  else bif K.wr f then(bif dr then none else NW K (xf K d) n f ts h)
  else bif T.bC (T.Ai h ts) then
   match WS K (xf K d) dr n f (T.Ai h ts) with
   |some (t,o)=>bif t.hard&&Zd o then some (t,Zc n h o) else(bif dr then none else NW K (xf K d) n f ts h)
   |none=>bif dr then none else NW K (xf K d) n f ts h
  else bif dr then none else NW K (xf K d) n f ts h
def Tr.has:Tr->Nat->Prop
 | .lf,_=>False
 | .nd _ l r,n=>if n=0 then True else if n % 2=1 then l.has (n / 2) else r.has ((n-1) / 2)
theorem wF{α:Type}{a b:Nat}{x y:α}:(bif Nat.beq a b then x else y)=if a=b then x else y:=by
 by_cases h:a=b
 ·subst h; rw[if_pos rfl,Nat.beq_refl]; rfl
 ·rw[if_neg h]
  cases hb:Nat.beq a b with
  |false=>rfl
  |true=>exact absurd (Nat.eq_of_beq_eq_true hb) h
theorem Tr.zk{v:T}{l r:Tr}{n:Nat}:(Tr.nd v l r).get n=if n=0 then v else if n % 2=1 then l.get (n / 2) else r.get ((n-1) / 2):=by
 simp only[Tr.get,wF]; rfl
theorem Tr.Ze{v:T}{l r:Tr}{n:Nat}{t:T}:(Tr.nd v l r).set n t=if n=0 then .nd t l r else if n % 2=1 then .nd v (l.set (n / 2) t) r else .nd v l (r.set ((n-1) / 2) t):=by
 simp only[Tr.set,wF]; rfl
theorem Tr.UO{t:Tr}: ∀ {i j:Nat} {x:T},(t.has i\/j≠i)->(t.set i x).get j=if j=i then x else t.get j:=by
 induction t with
 |lf=>intro i j x h; rcases h with h|h; exact h.elim; rw[if_neg h]; rfl
 |nd v l r ihl ihr =>
  intro i j x h
  rw[Tr.Ze]
  by_cases hi:i=0
  ·rw[if_pos hi,Tr.zk,Tr.zk]
   subst hi
   by_cases hj:j=0
   ·rw[if_pos hj,if_pos hj]
   ·rw[if_neg hj,if_neg hj,if_neg hj]
  ·rw[if_neg hi]
   by_cases hp:i % 2=1
   ·rw[if_pos hp,Tr.zk,Tr.zk]
    by_cases hj:j=0
    ·rw[if_pos hj,if_pos hj,if_neg (by omega)]
    ·rw[if_neg hj,if_neg hj]
     by_cases hq:j % 2=1
     ·rw[if_pos hq,if_pos hq,ihl]
      ·by_cases e:j=i
       ·rw[if_pos e,if_pos (by rw[e])]
       ·rw[if_neg e,if_neg (by omega)]
      ·rcases h with h|h
       ·simp only[Tr.has,if_neg hi,if_pos hp] at h; exact .inl h
       ·right; omega
     ·rw[if_neg hq,if_neg hq,if_neg (by omega)]
   ·rw[if_neg hp,Tr.zk,Tr.zk]
    by_cases hj:j=0
    ·rw[if_pos hj,if_pos hj,if_neg (by omega)]
    ·rw[if_neg hj,if_neg hj]
     by_cases hq:j % 2=1
     ·rw[if_pos hq,if_pos hq,if_neg (by omega)]
     ·rw[if_neg hq,if_neg hq,ihr]
      ·by_cases e:j=i
       ·rw[if_pos e,if_pos (by rw[e])]
       ·rw[if_neg e,if_neg (by omega)]
      ·rcases h with h|h
       ·simp only[Tr.has,if_neg hi,if_neg hp] at h; exact .inl h
       ·right; omega
theorem Tr.has_set{t:Tr}: ∀ {i j:Nat} {x:T},(t.set i x).has j↔t.has j:=by
 induction t with
 |lf=>intro i j x; exact Iff.rfl
 |nd v l r ihl ihr =>
  intro i j x
  rw[Tr.Ze]
  by_cases hi:i=0
  ·rw[if_pos hi]; simp only[Tr.has]
  ·rw[if_neg hi]
   by_cases hp:i % 2=1
   ·rw[if_pos hp]; simp only[Tr.has]
    by_cases hj:j=0
    ·simp[hj]
    ·by_cases hq:j % 2=1<;>simp only[if_neg hj,hq,if_true,if_false]<;>first|exact ihl|exact Iff.rfl
   ·rw[if_neg hp]; simp only[Tr.has]
    by_cases hj:j=0
    ·simp[hj]
    ·by_cases hq:j % 2=1
     ·simp only[if_neg hj,hq,if_true]
     ·simp only[if_neg hj,if_neg hq]; exact ihr
theorem Tr.get_map{f:T->T}(hf:f T.un=T.un){t:Tr}: ∀ {i:Nat},(t.map f).get i=f (t.get i):=by
 induction t with
 |lf=>intro i; exact hf.symm
 |nd v l r ihl ihr =>
  intro i
  simp only[Tr.map]
  rw[Tr.zk,Tr.zk]
  split
  ·rfl
  ·split
   ·exact ihl
   ·exact ihr
theorem Tr.abK{f:T->T}{t:Tr}: ∀ {i:Nat},(t.map f).has i↔t.has i:=by
 induction t with
 |lf=>intro i; exact Iff.rfl
 |nd v l r ihl ihr =>
  intro i
  simp only[Tr.map,Tr.has]
  split
  ·exact Iff.rfl
  ·split
   ·exact ihl
   ·exact ihr
theorem Tr.Zf: ∀ {d i:Nat},(Tr.full d).get i=T.un:=by
 intro d
 induction d with
 |zero=>intro i; rfl
 |succ d ih =>
  intro i
  simp only[Tr.full]
  rw[Tr.zk]
  split
  ·rfl
  ·split<;>exact ih
theorem Tr.Zg: ∀ {d i:Nat},i+1<2 ^ d->(Tr.full d).has i:=by
 intro d
 induction d with
 |zero=>intro i h; simp at h
 |succ d ih =>
  intro i h
  rw[Nat.pow_succ] at h
  simp only[Tr.full,Tr.has]
  split
  ·trivial
  ·split<;>(apply ih; omega)
theorem fC{j i:Nat}{o:Ob}{r:XH}:lk ((j,o)::r) i=if j=i then some o else lk r i:=by
 simp only[lk]; rw[wF]
theorem zl(h:XH)(n:Nat)(ob:Ob):lk ((n,ob)::h)=upd (lk h) n (some ob):=by
 funext i
 rw[fC]; simp only[upd]
 by_cases e:n=i
 ·rw[if_pos e,if_pos e.symm]
 ·rw[if_neg e,if_neg (fun h=>e h.symm)]
theorem NY(i:Nat)(o:Ob)(h:XH):lk (hset i o h)=upd (lk h) i (some o):=by
 induction h with
 |nil=>simp only[hset]; rw[zl]
 |cons p r ih =>
  obtain⟨j,q⟩:=p
  simp only[hset]
  rw[wF]
  by_cases e:j=i
  ·rw[if_pos e]
   funext m
   rw[fC]; simp only[upd]
   rw[fC,e]
   by_cases em:m=i
   ·rw[if_pos em.symm,if_pos em]
   ·rw[if_neg (fun h=>em h.symm),if_neg em,if_neg (fun h=>em h.symm)]
  ·rw[if_neg e]
   funext m
   rw[fC,ih]; simp only[upd]
   rw[fC]
   by_cases em:m=i
   ·subst em; rw[if_neg e,if_pos rfl,if_pos rfl]
   ·rw[if_neg em,if_neg em]
theorem abL(i:Nat)(h:XH):lk (hdel i h)=upd (lk h) i none:=by
 induction h with
 |nil=>funext m; simp[hdel,lk,upd]
 |cons p r ih =>
  obtain⟨j,q⟩:=p
  simp only[hdel]
  rw[wF]
  funext m
  by_cases e:j=i
  ·rw[if_pos e,ih]; simp only[upd]
   rw[fC,e]
   by_cases em:m=i
   ·rw[if_pos em,if_pos em]
   ·rw[if_neg em,if_neg em,if_neg (fun h=>em h.symm)]
  ·rw[if_neg e,fC,ih]; simp only[upd]
   rw[fC]
   by_cases em:m=i
   ·subst em; rw[if_neg e,if_pos rfl,if_pos rfl]
   ·rw[if_neg em,if_neg em]
structure wz(x:XS)(s:AS):Prop where
 fr: ∀ i,s.fr.getD i T.un=x.fr.get i
 len:s.fr.length=x.n
 has: ∀ i,i<x.n->x.fr.has i
 hp:s.hp=lk x.hp
 nx:s.nx=x.nx
 pin:s.pin=x.pin
theorem wz.ev{x:XS}{s:AS}(S:wz x s)(a:X):s.ev a=x.ev a:=by
 cases a with
 |t n=>exact S.fr n
 |c v=>rfl
theorem wz.evs{x:XS}{s:AS}(S:wz x s):s.ev=x.ev:=funext S.ev
theorem wz.ad9{x:XS}{s:AS}(S:wz x s){d:Nat}(h:d<x.n):s.fr.getD d .any=x.fr.get d:=by
 rw[<- S.fr d]
 have:d<s.fr.length:=by rw[S.len]; exact h
 simp[List.getD_eq_getElem?_getD,this]
theorem Dz{l:List T}{i j:Nat}{t d:T}(hi:i<l.length):(l.set i t).getD j d=if j=i then t else l.getD j d:=by
 simp only[List.getD_eq_getElem?_getD,List.getElem?_set]
 by_cases e:j=i
 ·subst e; simp[hi]
 ·rw[if_neg (fun h=>e h.symm),if_neg e]
theorem wz.sJ{x x':XS}{s:AS}(S:wz x s){d:Option Nat}{t:T}{h:XH}(e:x.sJ d t h=some x'):wz x' {(s.put d t) with hp:=lk h}:=by
 cases d with
 |none=>simp only[XS.sJ] at e; cases e; exact⟨S.fr,S.len,S.has,rfl,S.nx,S.pin⟩
 |some i =>
  simp only[XS.sJ] at e
  cases hb:Nat.blt i x.n with
  |false=>rw[hb] at e; cases e
  |true =>
   rw[hb] at e; cases e
   have hi:i<x.n:=Nat.blt_eq.mp hb
   refine⟨fun j=>?_,?_,fun j hj=>Tr.has_set.2 (S.has j hj),rfl,S.nx,S.pin⟩
   ·show(s.fr.set i t).getD j T.un=(x.fr.set i t).get j
    rw[Dz (by rw[S.len]; exact hi),Tr.UO (.inl (S.has i hi)),S.fr]
   ·show(s.fr.set i t).length=x.n
    rw[List.length_set]; exact S.len
theorem XS.afG(x:XS)(d:Option Nat)(t:T):x.put d t=x.sJ d t x.hp:=by
 cases d with
 |none=>rfl
 |some i=>rfl
theorem wz.put{x x':XS}{s:AS}(S:wz x s){d:Option Nat}{t:T}(e:x.put d t=some x'):wz x' (s.put d t):=by
 rw[XS.afG] at e
 have:=S.sJ e
 rw[<- S.hp] at this
 cases d<;>exact this
theorem UQ{α:Type}(n:Nat)(k:Nat->α):KC n k=k n:=by cases n<;>rfl
theorem abM{α:Type}(t:T)(k:T->α):NT t k=k t:=by
 unfold NT
 split<;>simp only[UQ]
theorem Jz(a b:Int):iLt a b=decide (a<b):=by
 cases a with
 |ofNat m=>cases b with
  |ofNat n =>
   simp only[iLt]
   cases h:Nat.blt m n with
   |true=>have:=Nat.blt_eq.mp h; symm; rw[decide_eq_true_eq]; simp only[Int.ofNat_eq_natCast]; omega
   |false =>
    symm; rw[decide_eq_false_iff_not]
    intro q
    have:m<n:=by simp only[Int.ofNat_eq_natCast] at q; omega
    rw[Nat.blt_eq.mpr this] at h; cases h
  |negSucc n=>simp only[iLt]; symm; rw[decide_eq_false_iff_not]; simp only[Int.ofNat_eq_natCast,Int.negSucc_eq]; omega
 |negSucc m=>cases b with
  |ofNat n=>simp only[iLt]; symm; rw[decide_eq_true_eq]; simp only[Int.ofNat_eq_natCast,Int.negSucc_eq]; omega
  |negSucc n =>
   simp only[iLt]
   cases h:Nat.blt n m with
   |true=>have:=Nat.blt_eq.mp h; symm; rw[decide_eq_true_eq]; simp only[Int.negSucc_eq]; omega
   |false =>
    symm; rw[decide_eq_false_iff_not]
    intro q
    have:n<m:=by simp only[Int.negSucc_eq] at q; omega
    rw[Nat.blt_eq.mpr this] at h; cases h
theorem sK(a b:Int):zJ a b=decide (a<=b):=by
 unfold zJ; rw[Jz]
 by_cases h:a<=b
 ·have: ¬ b<a:=by omega
  simp[h,this]
 ·have:b<a:=by omega
  simp[h,this]
theorem Zh(a b:Int):iEq a b=(a==b):=by
 cases a with
 |ofNat m=>cases b with
  |ofNat n =>
   simp only[iEq]
   cases h:Nat.beq m n with
   |true=>have:=Nat.eq_of_beq_eq_true h; subst this; symm; rw[beq_iff_eq]
   |false =>
    symm; rw[beq_eq_false_iff_ne]
    intro q
    have:m=n:=by simp only[Int.ofNat_eq_natCast] at q; omega
    subst this; rw[Nat.beq_refl] at h; cases h
  |negSucc n=>rfl
 |negSucc m=>cases b with
  |ofNat n=>rfl
  |negSucc n =>
   simp only[iEq]
   cases h:Nat.beq m n with
   |true=>have:=Nat.eq_of_beq_eq_true h; subst this; symm; rw[beq_iff_eq]
   |false =>
    symm; rw[beq_eq_false_iff_ne]
    intro q
    have:m=n:=by simp only[Int.negSucc_eq] at q; omega
    subst this; rw[Nat.beq_refl] at h; cases h
theorem Zi(n:Int):w64 n=IntKind.i64.wrap n:=by
 unfold w64
 cases n with
 |ofNat m =>
  simp only
  cases h:Nat.blt m 9223372036854775808 with
  |true =>
   have:=Nat.blt_eq.mp h
   symm; exact wrap64 (by simp only[Int.ofNat_eq_natCast]; omega) (by simp only[Int.ofNat_eq_natCast]; omega)
  |false=>exact cond_false _ _
 |negSucc m =>
  simp only
  cases h:Nat.blt m 9223372036854775808 with
  |true =>
   have:=Nat.blt_eq.mp h
   symm; exact wrap64 (by simp only[Int.negSucc_eq]; omega) (by simp only[Int.negSucc_eq]; omega)
  |false=>exact cond_false _ _
theorem Zj(op:BinOp)(a b:Int):BX op a b=(yS op (.int .i64 a) (.int .i64 b)).map T.lit:=by
 cases op with
 |add=>simp only[BX,Zi]; rfl
 |sub=>simp only[BX,Zi]; rfl
 |eql=>simp only[BX,Zh]; rfl
 |neq=>simp only[BX,Zh]; rfl
 |lss=>simp only[BX,Jz]; rfl
 |leq=>simp only[BX,sK]; rfl
 |gtr=>simp only[BX,Jz]; rfl
 |geq=>simp only[BX,sK]; rfl
 |_=>rfl
theorem abN{op:BinOp}{x y t:T}(h:abI op x y=some t): ∃ u v r,x= .lit u/\y= .lit v/\yS op u v=some r/\t= .lit r:=by
 unfold abI at h
 split at h
 ·rename_i a b
  rw[Zj] at h
  obtain⟨r,h1,h2⟩:=Option.map_eq_some_iff.1 h
  exact⟨_,_,r,rfl,rfl,h1,h2.symm⟩
 ·rename_i u v _
  obtain⟨r,h1,h2⟩:=Option.map_eq_some_iff.1 h
  exact⟨_,_,r,rfl,rfl,h1,h2.symm⟩
 ·cases h
theorem Ht{n:Int}{l:Nat}(h:NU n l=true):XB n l:=by
 unfold NU at h
 cases n with
 |ofNat m =>
  have:=Nat.blt_eq.mp h
  constructor<;>simp only[Int.ofNat_eq_natCast]<;>omega
 |negSucc m=>cases h
theorem iM{α:Type}{b:Bool}{a t:α}(h:xw b a=some t):b=true/\a=t:=by
 cases b with
 |false=>cases h
 |true=>cases h; exact⟨rfl,rfl⟩
theorem FK{a b:Nat}(h:Nat.beq a b=true):a=b:=Nat.eq_of_beq_eq_true h
theorem qQ(a b:Nat):Nat.beq a b=(a==b):=by
 cases h:Nat.beq a b with
 |true=>symm; rw[beq_iff_eq]; exact FK h
 |false=>symm; rw[beq_eq_false_iff_ne]; intro e; subst e; rw[Nat.beq_refl] at h; cases h
theorem isEmpty_nil{l:List T}(h:l.isEmpty=true):l=[]:=List.isEmpty_iff.1 h
theorem Zk{k:Nat}{ob:Ob}{lo hi mx:Option T}(h:Y5 k ob lo hi mx=true):BL k ob lo hi mx:=by
 unfold Y5 at h
 split at h
 ·simp only[Bool.and_eq_true,sK,decide_eq_true_eq] at h
  exact⟨FK h.1.1,h.1.2,h.2⟩
 ·simp only[Bool.and_eq_true,sK,decide_eq_true_eq] at h
  exact⟨FK h.1.1,h.1.2,h.2⟩
 ·simp only[Bool.and_eq_true,sK,decide_eq_true_eq] at h
  exact⟨FK h.1.1.1,h.1.1.2,h.1.2,h.2⟩
 ·cases h
theorem kOr{k k':Nat}{l:List T}(h:(Nat.beq k' k||l.isEmpty)=true):k'=k\/l=[]:=by
 rw[Bool.or_eq_true] at h
 exact h.imp FK isEmpty_nil
theorem Zl{k:Nat}{x:T}{lo hi mx:Option T}(h:slB k x lo hi mx=true):YC k x lo hi mx:=by
 unfold slB at h
 split at h
 ·exact kOr h
 ·simp only[Bool.and_eq_true,sK,decide_eq_true_eq] at h
  exact⟨kOr h.1.1,h.1.2,h.2⟩
 ·simp only[Bool.and_eq_true,sK,decide_eq_true_eq] at h
  exact⟨kOr h.1.1,h.1.2,h.2⟩
 ·simp only[Bool.and_eq_true,sK,decide_eq_true_eq] at h
  exact⟨kOr h.1.1.1,h.1.1.2,h.1.2,h.2⟩
 ·simp only[Bool.and_eq_true,sK,decide_eq_true_eq] at h
  exact⟨kOr h.1.1.1,h.1.1.2,h.1.2,h.2⟩
 ·cases h
theorem afH{s:AS}{op:lg}{t:T}(h:xq s.ev s.hp op=some t):qc s op/\qt s op=t:=by
 cases op<;>simp only[xq] at h<;>try (cases h; done)
 case mv x=>cases h; exact⟨trivial,rfl⟩
 case pick c a b =>
  simp only[qc,qt]
  split at h
  ·rename_i e; cases h; rw[e]; refine⟨rfl,?_⟩
   simp only[xP]; split
   ·rename_i e1 e2; rw[e1]; rfl
   ·rfl
  ·rename_i e; cases h; rw[e]; refine⟨rfl,?_⟩
   simp only[xP]; split
   ·rename_i e1 e2; rw[e2]; rfl
   ·rfl
  ·cases h
 case bin op x y =>
  obtain⟨u,v,r,e1,e2,e3,rfl⟩:=abN h
  simp[qc,qt,e1,e2,e3]
 case bb ne x y =>
  split at h
  ·rename_i a b e1 e2; cases h; simp[qc,qt,e1,e2,isBool]
  ·cases h
 case not x =>
  split at h
  ·rename_i b e1; cases h; simp[qc,qt,e1,isBool]
  ·cases h
 case conv k x =>
  split at h
  ·rename_i b e1; cases h; simp only[qc,qt,e1]; exact⟨trivial,trivial⟩
  ·cases h
 case fa off k x =>
  split at h
  ·rename_i i j o e1; obtain⟨h1,rfl⟩:=iM h; simp only[qc,qt,e1]; exact⟨h1,rfl⟩
  ·rename_i kt t e1; obtain⟨h1,rfl⟩:=iM h; simp only[qc,qt,e1]; rw[qQ] at h1; exact⟨h1,trivial⟩
  ·cases h
 case fv off k x =>
  obtain⟨h1,rfl⟩:=iM h; simp only[qc,qt]; rw[qQ] at h1; exact⟨h1,trivial⟩
 case ia k x i =>
  split at h
  ·rename_i k' f l c n e1 e2; obtain⟨h1,rfl⟩:=iM h; simp only[qc,qt,e1,e2]; rw[Bool.and_eq_true] at h1; exact⟨⟨FK h1.1,Ht h1.2⟩,trivial⟩
  ·rename_i o c n e1 e2
   split at h
   ·rename_i ob e3; obtain⟨h1,rfl⟩:=iM h; simp only[qc,qt,e1,e2,e3]; rw[Bool.and_eq_true] at h1; exact⟨⟨FK h1.1,Ht h1.2⟩,trivial⟩
   ·cases h
  ·rename_i o lo hi c n e1 e2
   split at h
   ·rename_i ob e3; obtain⟨h1,rfl⟩:=iM h; simp only[qc,qt,e1,e2,e3]; rw[Bool.and_eq_true] at h1; exact⟨⟨FK h1.1,Ht h1.2⟩,rfl⟩
   ·cases h
  ·cases h
 case ch x i =>
  split at h
  ·rename_i b c n e1 e2; obtain⟨h1,rfl⟩:=iM h; simp only[qc,qt,e1,e2]; exact⟨Ht h1,trivial⟩
  ·cases h
 case ld k x =>
  split at h
  ·rename_i k' t e1; obtain⟨h1,rfl⟩:=iM h; simp only[qc,qt,e1]; rw[qQ] at h1; exact⟨h1,trivial⟩
  ·rename_i i j off e1
   split at h
   ·rename_i ob e2
    cases hj:Nat.blt j ob.l.length with
    |false=>rw[hj] at h; cases h
    |true =>
     rw[hj] at h
     simp only[cond_true] at h
     have hj':j<ob.l.length:=Nat.blt_eq.mp hj
     simp only[qc,qt,e1,e2]
     rw[qQ,qQ] at h
     cases hb:(off==0&&ob.k==k) with
     |true=>rw[hb] at h; cases h; exact⟨⟨hj',rfl⟩,rfl⟩
     |false=>rw[hb] at h; obtain⟨h1,rfl⟩:=iM h; rw[qQ] at h1; exact⟨⟨hj',by rw[Bool.false_or]; exact h1⟩,rfl⟩
   ·cases h
  ·cases h
 case nc x =>
  split at h
  ·rename_i e1; obtain⟨h1,rfl⟩:=iM h; simp only[qc,qt,e1]; exact⟨h1,trivial⟩
  ·rename_i e1; cases h; simp only[qc,qt,e1]; exact⟨trivial,trivial⟩
  ·rename_i e1; cases h; simp only[qc,qt,e1]; exact⟨trivial,trivial⟩
  ·cases h
 case len str x =>
  split at h
  ·rename_i e1; obtain⟨h1,rfl⟩:=iM h; simp only[qc,qt,e1]; exact⟨by simpa using h1,rfl⟩
  ·rename_i e1
   split at h
   ·rename_i e2; obtain⟨h1,rfl⟩:=iM h; simp only[qc,qt,e1,e2]; rw[Bool.and_eq_true,qQ] at h1; exact⟨⟨by simpa using h1.1,by simpa using h1.2⟩,rfl⟩
   ·cases h
  ·rename_i e1; obtain⟨h1,rfl⟩:=iM h; simp only[qc,qt,e1]; rw[Bool.and_eq_true] at h1; exact⟨⟨by simpa using h1.1,h1.2⟩,rfl⟩
  ·rename_i e1; obtain⟨h1,rfl⟩:=iM h; simp only[qc,qt,e1]; exact⟨h1,rfl⟩
  ·cases h
 case mx x y =>
  split at h
  ·rename_i k a k' b e1 e2; cases h; simp only[qc,qt,e1,e2,Jz]
   by_cases hlt:a<b<;>simp[hlt]
  ·cases h
 case mn x y =>
  split at h
  ·rename_i k a k' b e1 e2; cases h; simp only[qc,qt,e1,e2,Jz]
   by_cases hlt:b<a<;>simp[hlt]
  ·cases h
 case mk z ps=>obtain⟨h1,rfl⟩:=iM h; exact⟨h1,rfl⟩
 case ms ty k z n ps=>obtain⟨h1,rfl⟩:=iM h; exact⟨h1,rfl⟩
 case sl k x lo hi mx=>obtain⟨h1,rfl⟩:=iM h; exact⟨Zl h1,rfl⟩
 case Rl k x lo hi mx =>
  split at h
  ·rename_i i e1
   split at h
   ·rename_i ob e2; obtain⟨h1,rfl⟩:=iM h; simp only[qc,qt,e1,e2]; exact⟨Zk h1,trivial⟩
   ·cases h
  ·rename_i hne
   obtain⟨h1,rfl⟩:=iM h
   simp only[qc,qt]
   exact⟨Zl h1,trivial⟩
 case sa n x =>
  split at h
  ·rename_i e1; obtain⟨h1,rfl⟩:=iM h; simp only[qc,qt,e1]; exact⟨h1,trivial⟩
  ·cases h
 case IU x =>
  split at h
  ·rename_i e1; cases h; simp only[qc,qt,e1]; exact⟨trivial,rfl⟩
  ·cases h
 case ss x lo hi =>
  split at h
  ·rename_i e1 e2 e3; cases h; simp only[qc,qt,e1,e2,e3]; exact⟨trivial,trivial⟩
  ·rename_i e1 e2 e3; obtain⟨h1,rfl⟩:=iM h; simp only[qc,qt,e1,e2,e3]; simp only[Bool.and_eq_true,sK,decide_eq_true_eq] at h1; exact⟨h1,trivial⟩
  ·rename_i e1 e2 e3; obtain⟨h1,rfl⟩:=iM h; simp only[qc,qt,e1,e2,e3]; simp only[Bool.and_eq_true,sK,decide_eq_true_eq] at h1; exact⟨h1,trivial⟩
  ·rename_i e1 e2 e3; obtain⟨h1,rfl⟩:=iM h; simp only[qc,qt,e1,e2,e3]; simp only[Bool.and_eq_true,sK,decide_eq_true_eq] at h1; exact⟨⟨h1.1.1,h1.1.2,h1.2⟩,trivial⟩
  ·cases h
 case ex x i =>
  split at h
  ·rename_i e1; obtain⟨h1,rfl⟩:=iM h; simp only[qc,qt,e1]; exact⟨h1,trivial⟩
  ·cases h
 case mf f cap=>obtain⟨h1,rfl⟩:=iM h; exact⟨h1,rfl⟩
 case mb f x =>
  split at h
  ·rename_i e1; obtain⟨h1,rfl⟩:=iM h; simp only[qc,qt,e1]; exact⟨Nat.blt_eq.mp h1,trivial⟩
  ·cases h
 case eqs ne n x y =>
  split at h
  ·rename_i e1 e2; obtain⟨h1,rfl⟩:=iM h; simp only[qc,qt,e1,e2]; exact⟨h1,trivial⟩
  ·cases h
 case mlk z x i =>
  split at h
  ·rename_i o n e1 e2
   split at h
   ·rename_i ob e3; obtain⟨h1,rfl⟩:=iM h; simp only[qc,qt,e1,e2,e3]; exact⟨by simpa using h1,rfl⟩
   ·cases h
  ·cases h
section
variable {P:Program}
def Qp(P:Program)(cf:CF):Prop:= ∀ dr n f ts h t h',cf dr n f ts h=some (t,h') ->
 aN P f ts (lk h) n (fun t1 h1=>t1=t/\h1=lk h')/\(dr=true->lk h'=lk h/\t.free=true) /\
 (T.bC ts=true-> ∃ o:Option Ob,lk h'=fO (lk h) n o/\t.ids (fun i=>i=n)/\(∀ ob,o=some ob->T.bC ob.l=true)/\ ∀ hp,aN P f ts hp n fun t1 h1=>t1=t/\h1=fO hp n o)
theorem JA{cf:CF}(C:Qp P cf){dr:Bool}{n:Nat}{d:Option Nat}{f:FuncId}{ts:List T}{x x':XS}{s:AS}(S:wz x s)(h:BZ cf dr n d f ts x=some x'){K:AS->Prop}(hK: ∀ s',wz x' s'->K s') :
  kL P dr n d f ts K s:=by
 unfold BZ at h
 split at h
 ·rename_i t h' e
  obtain⟨h1,h2,_⟩:=C dr n f ts x.hp t h' e
  unfold kL
  rw[S.hp]
  refine h1.mono fun t1 g ⟨e1,e2⟩=>⟨fun hd=>?_,?_⟩
  ·rw[e1,e2]; exact h2 hd
  ·rw[e1,e2]; exact hK _ (S.sJ h)
 ·cases h
theorem Zm{cf:CF}(C:Qp P cf){dr:Bool}{n:Nat}{d:Option Nat}{op:lg}{x x':XS}{s:AS}(S:wz x s)(h:JY cf dr n d op x=some x'){K:AS->Prop}(hK: ∀ s',wz x' s'->K s') :
  jK P dr n d op K s:=by
 have hev:=S.evs
 have Zn:=S.hp
 by_cases hq:bP op=true
 ·have h':(match xq x.ev (lk x.hp) op with|some t=>NT t fun t=>x.put d t|none=>none)=some x':=by
   cases op<;>first|exact h|(simp[bP] at hq; done)
  split at h'
  ·rename_i t e
   rw[abM] at h'
   rw[<- hev,<- Zn] at e
   obtain⟨h1,h2⟩:=afH e
   rw[bK hq]
   refine⟨h1,hK _ ?_⟩
   rw[h2]; exact S.put h'
  ·cases h'
 cases op<;>first|(exact absurd rfl hq)|skip
 case box ty k a =>
  simp only[JY] at h
  simp only[jK]
  rw[hev,Zn]
  cases hb:((x.ev a).kd==k&&(x.ev a).iT (lk x.hp)&&sW k) with
  |false=>rw[hb] at h; cases h
  |true=>rw[hb] at h; refine⟨rfl,hK _ ?_⟩; rw[<- zl]; exact S.sJ h
 case al ty k z =>
  simp only[JY] at h
  simp only[jK]
  rw[Zn]
  cases hb:(z.kd==k&&z.iT (lk x.hp)&&z.free&&sW k) with
  |false=>rw[hb] at h; cases h
  |true=>rw[hb] at h; refine⟨rfl,hK _ ?_⟩; rw[<- zl]; exact S.sJ h
 case make ty k bytes z a b =>
  simp only[JY] at h
  simp only[jK]
  rw[hev,Zn]
  split at h
  ·rename_i c u c' v e1 e2
   simp only[e1,e2]
   cases hb:((z.kd==k&&z.iT (lk x.hp)&&z.free&&sW k)&&(zJ 0 u&&zJ u v&&zJ (v*bytes) 140737488355328&&zJ v 1152921504606846976)) with
   |false=>rw[hb] at h; cases h
   |true =>
    rw[hb] at h
    rw[Bool.and_eq_true] at hb
    obtain⟨b1,b2⟩:=hb
    simp only[Bool.and_eq_true,sK,decide_eq_true_eq] at b2
    refine⟨b1,⟨b2.1.1.1,b2.1.1.2,b2.1.2,b2.2⟩,hK _ ?_⟩
    rw[<- zl]; exact S.sJ h
  ·cases h
 case st k a v =>
  simp only[JY] at h
  simp only[jK]
  rw[hev,Zn]
  split at h
  ·rename_i i j off e1
   simp only[e1]
   split at h
   ·rename_i ob e2
    simp only[e2]
    cases hb:(((x.ev v).kd==k&&(x.ev v).iT (lk x.hp))&&Nat.blt j ob.l.length&&((off==0&&ob.k==k)||(!(ob.k==0)&&jB (bG ob.k) off k))) with
    |false=>rw[hb] at h; cases h
    |true =>
     rw[hb] at h
     cases h
     rw[Bool.and_eq_true,Bool.and_eq_true] at hb
     refine⟨hb.1.1,Nat.blt_eq.mp hb.1.2,hb.2,hK _ ⟨S.fr,S.len,S.has,?_,S.nx,S.pin⟩⟩
     exact(NY _ _ _).symm
   ·cases h
  ·cases h
 case app ty k bytes a b =>
  simp only[JY] at h
  simp only[jK]
  rw[hev,Zn]
  split at h
  ·rename_i m e1
   simp only[e1]
   split at h
   ·rename_i k' l e2
    simp only[e2]
    cases hb:((Nat.beq k' k||l.isEmpty)&&(l.isEmpty|| !m.isEmpty)&&Nat.ble ((l.length+m.length)*bytes) 140737488355328&&Nat.ble (l.length+m.length) 1152921504606846976) with
    |false=>rw[hb] at h; cases h
    |true =>
     rw[hb] at h
     simp only[Bool.and_eq_true,Nat.ble_eq] at hb
     obtain⟨⟨⟨b1,b2⟩,b3⟩,b4⟩:=hb
     refine⟨kOr b1,.inl ?_,b3,b4,hK _ ?_⟩
     ·rw[Bool.or_eq_true] at b2
      rcases b2 with b2|b2
      ·exact .inl (isEmpty_nil b2)
      ·right; intro e; rw[e] at b2; simp at b2
     ·rw[<- zl]; exact S.sJ h
   ·rename_i i e2
    simp only[e2]
    split at h
    ·rename_i ob e3
     simp only[e3]
     cases hb:((ob.k==k&&ob.ty==ty)&&Nat.ble ((ob.l.length+m.length)*bytes) 140737488355328&&Nat.ble (ob.l.length+m.length) 1152921504606846976) with
     |false=>rw[hb] at h; cases h
     |true =>
      rw[hb] at h
      rw[Bool.and_eq_true,Bool.and_eq_true,Nat.ble_eq,Nat.ble_eq] at hb
      refine⟨hb.1.1,hb.1.2,hb.2,hK _ ?_⟩
      rw[<- abL,<- zl]; exact S.sJ h
    ·cases h
   ·cases h
  ·cases h
 case Dv ty k z m ps =>
  simp only[JY] at h
  simp only[jK]
  rw[hev,Zn]
  cases hb:((z.kd==k)&&z.free&&BK k m (ps.map fun p=>(p.1,x.ev p.2))&&qM (lk x.hp) (ps.map fun p=>x.ev p.2)&&Nat.ble (m*bG k) 16777216&&sW k) with
  |false=>rw[hb] at h; cases h
  |true=>rw[hb] at h; refine⟨rfl,hK _ ?_⟩; rw[<- zl]; exact S.sJ h
 case call f xs =>
  simp only[JY] at h
  simp only[jK]
  rw[hev]
  exact JA C S h hK
 case ku a xs =>
  simp only[JY] at h
  simp only[jK]
  rw[hev]
  split at h
  ·rename_i f cap e1
   simp only[e1]
   cases hb:Nat.blt f 4096 with
   |true=>rw[hb] at h; exact JA C S h hK
   |false=>rw[hb] at h; exact JA C S h hK
  ·cases h
 case xO a =>
  simp only[JY] at h
  simp only[jK]
  rw[hev,Zn]
  split at h
  ·rename_i k f l e1
   simp only[e1]
   cases hb:l.isEmpty with
   |true=>rw[hb] at h; cases h
   |false=>rw[hb] at h; exact⟨fun e=>(by rw[e] at hb; cases hb),hK _ (S.put h)⟩
  ·rename_i i e1
   simp only[e1]
   split at h
   ·rename_i ob e2
    simp only[e2]
    cases hb:(ob.l.isEmpty||ob.k==dI) with
    |true=>rw[hb] at h; cases h
    |false =>
     rw[hb] at h
     rw[Bool.or_eq_false_iff] at hb
     exact⟨fun e=>(by rw[e] at hb; cases hb.1),hK _ (S.put h),by simpa using hb.2⟩
   ·cases h
  ·cases h
 case Uu ty =>
  simp only[JY] at h
  simp only[jK]
  rw[Zn]
  refine hK _ ?_; rw[<- zl]; exact S.sJ h
 case Nl a i v =>
  simp only[JY] at h
  simp only[jK]
  rw[hev,Zn]
  split at h
  ·rename_i o m e1 e2
   simp only[e1,e2]
   split at h
   ·rename_i ob e3
    simp only[e3]
    cases hb:(ob.k==dI&&((x.ev v).kd==0&&(x.ev v).wo (lk x.hp))) with
    |false=>rw[hb] at h; cases h
    |true =>
     rw[hb] at h
     cases h
     rw[Bool.and_eq_true] at hb
     refine⟨by simpa using hb.1,hb.2,hK _ ⟨S.fr,S.len,S.has,?_,S.nx,S.pin⟩⟩
     exact(NY _ _ _).symm
   ·cases h
  ·cases h
 case OG k z a =>
  simp only[JY] at h
  simp only[jK]
  rw[hev,Zn]
  split at h
  ·rename_i i lo hi e1
   simp only[e1]
   split at h
   ·rename_i ob e2
    simp only[e2]
    cases hb:((ob.k==k&&z.kd==k&&z.iT (lk x.hp)&&z.free)&&Nat.ble hi ob.l.length) with
    |false=>rw[hb] at h; cases h
    |true =>
     rw[hb] at h
     rw[Bool.and_eq_true,Nat.ble_eq] at hb
     refine⟨hb.1,hb.2,hK _ ?_⟩
     rw[<- NY]; exact S.sJ h
   ·cases h
  ·cases h
 case bot=>cases h
theorem wz.obj{x:XS}{s:AS}(S:wz x s){m i:Nat}(h:ad7 x m=some i):s.obj m=some i:=by
 unfold ad7 at h
 cases hb:Nat.blt m x.n with
 |false=>rw[hb] at h; cases h
 |true =>
  rw[hb] at h
  simp only[cond_true] at h
  unfold AS.obj
  rw[S.ad9 (Nat.blt_eq.mp hb)]
  split at h
  ·rename_i e; rw[e]; exact h
  ·cases h
theorem aea{x:XS}{s:AS}(S:wz x s){xs:List X}: ∀ {l:List Nat},neX x xs l=true->IY s xs l=true:=by
 intro l
 induction l with
 |nil=>intro _; rfl
 |cons m r ih =>
  intro h
  simp only[neX,Bool.and_eq_true] at h
  simp only[IY,Bool.and_eq_true]
  refine⟨?_,ih h.2⟩
  have h1:=h.1
  split at h1
  ·rename_i i e
   rw[S.obj e]
   simp only[S.ev]; exact h1
  ·cases h1
theorem Zo{x:XS}{s:AS}(S:wz x s){dr:Bool}{o:aC}(h:uh dr o x=true):iZ o s:=by
 unfold uh at h
 rw[Bool.and_eq_true,Bool.and_eq_true] at h
 refine⟨fun hf=>?_,aea S h.2⟩
 have h1:=h.1.2
 rw[hf] at h1
 simp only[cond_true] at h1
 rw[S.nx,S.evs]
 exact h1
theorem Zp{x:XS}{dr:Bool}{o:aC}(h:uh dr o x=true)(e:o.ad=true):dr=true/\Tj o.op=true:=by
 unfold uh at h
 rw[Bool.and_eq_true,Bool.and_eq_true,Bool.and_eq_true] at h
 simpa [e] using h.1.1.2
theorem Zq{x:XS}{dr:Bool}{o:aC}(h:uh dr o x=true)(e:o.ar=true):o.fl=true/\ ∃ f xs,o.op= .call f xs/\T.bC (xs.map x.ev)=true:=by
 unfold uh at h
 rw[Bool.and_eq_true,Bool.and_eq_true,Bool.and_eq_true] at h
 have:=h.1.1.1
 rw[e] at this
 simp only[Bool.not_true,Bool.false_or,Bool.and_eq_true] at this
 refine⟨this.1.1,?_⟩
 have h2:=this.2
 split at h2
 ·rename_i f xs eo; exact⟨f,xs,eo,h2⟩
 ·cases h2
theorem Qq{P:Program}{cf:CF}(C:Qp P cf){n:Nat}{d:Option Nat}{op:lg}{x x':XS}(hc:Tj op=true)(h:JY cf true n d op x=some x'):lk x'.hp=lk x.hp:=by
 have key: ∀ {f:FuncId} {ts:List T},BZ cf true n d f ts x=some x'->lk x'.hp=lk x.hp:=by
  intro f ts h
  unfold BZ at h
  split at h
  ·rename_i t h' e
   have h2:=((C true n f ts x.hp t h' e).2.1 rfl).1
   unfold XS.sJ at h
   cases d with
   |none=>cases h; exact h2
   |some i =>
    simp only at h
    cases hb:Nat.blt i x.n with
    |false=>rw[hb] at h; cases h
    |true=>rw[hb] at h; cases h; exact h2
  ·cases h
 cases op<;>try (cases hc; done)
 ·exact key h
 ·simp only[JY] at h
  split at h
  ·rename_i f cap _
   cases hb:Nat.blt f 4096 with
   |true=>rw[hb] at h; exact key h
   |false=>rw[hb] at h; exact key h
  ·cases h
theorem Zr{P:Program}{n:Nat}{o:aC}{dr:Bool}{K:AS->Prop}{s:AS}(h:jK P dr n o.d o.op K s):jK P (o.dr dr) n o.d o.op K s:=by
 have key: ∀ {f:FuncId} {ts:List T},kL P dr n o.d f ts K s->kL P (dr&& !o.fl) n o.d f ts K s:=fun h =>
  aN.mono h fun t h' p=>⟨fun e=>p.1 (by rw[Bool.and_eq_true] at e; exact e.1),p.2⟩
 unfold aC.dr
 cases hop:o.op<;>rw[hop] at h<;>try exact h
 ·exact key h
 ·simp only[jK] at h ⊢
  split at h
  ·rename_i f cap _
   cases hb:Nat.blt f 4096 with
   |true=>rw[hb] at h; exact key h
   |false=>rw[hb] at h; exact key h
  ·exact h.elim
theorem abO{cf:CF}(C:Qp P cf){dr:Bool}{m:Nat}{K:AS->Prop}: ∀ {ops:List aC} {i:Nat} {x x':XS} {s:AS},wz x s->Df cf dr m ops i x=some x'->(∀ s',wz x' s'->K s')->oC P dr m K ops i s:=by
 intro ops
 induction ops with
 |nil =>
  intro i x x' s S h hK
  simp only[Df,UQ] at h
  cases h
  exact hK _ ⟨S.fr,S.len,S.has,S.hp,by show s.nx+m=x.nx+m; rw[S.nx],S.pin⟩
 |cons o r ih =>
  intro i x x' s S h hK
  simp only[Df] at h
  rw[oC,y7]
  have hop: ∀ {y:XS},(match JY cf (drX dr o) (Nat.add x.nx i) o.d o.op x with|some s'=>Df cf dr m r (Nat.succ i) s'|none=>none)=some y->(∀ s',wz y s'->K s')->uh dr o x=true ->
    iZ o s/\(opR P dr (s.nx+i) o (oC P dr m K r (i+1)) s\/opW P dr (s.nx+i) o.d o.op (oC P dr m K r (i+1)) s):=by
   intro y hy hK' hf
   split at hy
   ·rename_i x1 e1
    refine⟨Zo S hf,.inl ?_⟩
    rw[S.nx]
    cases har:o.ar with
    |false =>
     refine .inl ⟨har,?_⟩
     unfold drX at e1
     rw[har] at e1
     cases had:o.ad with
     |true =>
      rw[had] at e1
      simp only[cond_true,cond_false] at e1
      exact Zr (Zm C S e1 fun s' S'=>⟨fun e i ob hi=>by
       obtain⟨hd,hc⟩:=Zp hf e
       subst hd
       rw[S'.hp,Qq C hc e1,<- S.hp]; exact hi,ih S' hy hK'⟩)
     |false =>
      rw[had] at e1
      simp only[cond_false] at e1
      exact Zm C S e1 fun s' S'=>⟨fun e=>(by rw[had] at e; cases e),ih S' hy hK'⟩
    |true =>
     obtain⟨hfl,f,xs,eo,hfr⟩:=Zq hf har
     refine .inr ⟨har,hfl,?_⟩
     unfold drX at e1
     rw[har] at e1
     simp only[cond_true] at e1
     rw[eo] at e1 ⊢
     simp only[JY] at e1
     unfold BZ at e1
     split at e1
     ·rename_i t h' ec
      obtain⟨_,_,c3⟩:=C _ _ f _ x.hp t h' ec
      obtain⟨ob,a1,a2,a3,a4⟩:=c3 hfr
      refine⟨t,ob,a2,a3,fun hp _ _=>?_,?_⟩
      ·rw[S.evs]; exact a4 hp
      ·have:=S.sJ e1
       rw[a1,<- S.hp] at this
       exact ih this hy hK'
     ·cases e1
   ·cases hy
  split at h
  ·rename_i hg
   cases hf:uh dr o x with
   |false=>rw[hf] at h; cases h
   |true =>
    rw[hf] at h
    left
    refine⟨by rw[hg]; rfl,hop h hK hf⟩
  ·rename_i d want hg
   split at h
   ·rename_i b e
    cases hb:Nat.blt d x.n with
    |false=>rw[hb] at h; cases h
    |true =>
     rw[hb] at h
     simp only[cond_true] at h
     have hgv:gv o.g s=some (b==want):=by rw[hg]; simp only[gv]; rw[S.ad9 (Nat.blt_eq.mp hb),e]
     rw[hgv]
     cases hw:(b==want) with
     |true =>
      rw[hw] at h
      left
      simp only[cond_true] at h
      cases hf:uh dr o x with
      |false=>rw[hf] at h; cases h
      |true=>rw[hf] at h; exact⟨rfl,hop h hK hf⟩
     |false =>
      rw[hw] at h
      right
      simp only[cond_false] at h
      split at h
      ·rename_i x1 e1; exact⟨rfl,ih (S.put e1) h hK⟩
      ·cases h
   ·rename_i tt e
    cases hb:Nat.blt d x.n with
    |false=>rw[hb] at h; cases h
    |true =>
     rw[hb] at h
     simp only[cond_true] at h
     have hgv:gv o.g s=some false:=by rw[hg]; simp only[gv]; rw[S.ad9 (Nat.blt_eq.mp hb),e]
     rw[hgv]
     right
     split at h
     ·rename_i x1 e1; exact⟨rfl,ih (S.put e1) h hK⟩
     ·cases h
   ·cases h
end
structure Zt(z:XH)(h:Hp):Prop where
 at': ∀ i o,lk z i=some o->h i=some o/\o.k≠dI/\T.bC o.l=true
theorem Qr{p:Nat->Bool}{h:XH}: ∀ {r:XH} {i:Nat} {o:Ob},lk (yt p h r) i=some o->p i=true/\lk h i=some o/\o.k≠dI/\T.bC o.l=true:=by
 intro r
 induction r with
 |nil=>intro i o e; simp[yt,lk] at e
 |cons q r ih =>
  obtain⟨j,u⟩:=q
  intro i o e
  simp only[yt] at e
  cases hp:p j with
  |false=>rw[hp] at e; exact ih e
  |true =>
   rw[hp] at e
   simp only[cond_true] at e
   split at e
   ·rename_i v hv
    cases hb:(!(v.k==dI)&&T.bC v.l) with
    |false=>rw[hb] at e; exact ih e
    |true =>
     rw[hb] at e
     simp only[cond_true] at e
     rw[fC] at e
     by_cases hij:j=i
     ·rw[if_pos hij] at e; cases e
      subst hij
      rw[Bool.and_eq_true] at hb
      exact⟨hp,hv,by simpa using hb.1,hb.2⟩
     ·rw[if_neg hij] at e; exact ih e
   ·exact ih e
theorem fU{l:List T}:T.bC l=true↔ ∀ t∈l,t.free=true:=by
 induction l with
 |nil=>simp[T.bC]
 |cons t ts ih=>simp[T.bC,ih]
theorem L8{l:List T}(h:T.bC l=true)(a b:Nat):T.bC ((l.take b).drop a)=true:=by
 rw[fU] at h ⊢
 intro t ht
 exact h t (List.mem_of_mem_take (List.mem_of_mem_drop ht))
theorem qR(z:XH): ∀ l:List T,T.LZ z l=l.map (T.fz z):=by
 intro l
 induction l with
 |nil=>rfl
 |cons t ts ih=>simp only[T.LZ,List.map_cons,ih]
mutual
theorem aeb{z:XH}{h:Hp}(H:Zt z h):(t:T)->T.sub (fun i=>(lk z i).isSome=true) h (t.fz z) t
 | .lit v=>by simp[T.fz,T.sub]
 | .agg l=>by simp only[T.fz,T.sub]; exact Es H l
 | .sl k f l=>by simp[T.fz,T.sub]
 | .ref k t=>by simp[T.fz,T.sub]
 | .own i=>by
  simp only[T.fz]
  split
  ·rename_i ob e
   obtain⟨h1,h2,h3⟩:=H.at' i ob e
   simp only[T.sub]
   exact⟨trivial,by rw[e]; rfl,h3,h2,ob.ty,h1⟩
  ·simp[T.sub]
 | .ptr i j o=>by
  simp only[T.fz]
  split
  ·rename_i ob e
   obtain⟨h1,h2,h3⟩:=H.at' i ob e
   cases hb:(Nat.beq o 0&&Nat.blt j ob.l.length) with
   |false=>simp[T.sub]
   |true =>
    simp only[Bool.and_eq_true,Nat.blt_eq] at hb
    simp only[cond_true,T.sub]
    refine⟨Nat.eq_of_beq_eq_true hb.1,by rw[e]; rfl,?_,h2,ob.ty,ob.l,h1,?_⟩
    ·exact fU.1 h3 _ (by rw[List.getD_eq_getElem?_getD,List.getElem?_eq_getElem hb.2]; simp)
    ·rw[List.getD_eq_getElem?_getD,List.getElem?_eq_getElem hb.2]; rfl
  ·simp[T.sub]
 | .kR i a b=>by
  simp only[T.fz]
  split
  ·rename_i ob e
   obtain⟨h1,h2,h3⟩:=H.at' i ob e
   cases hb:Nat.ble b ob.l.length with
   |false=>simp[T.sub]
   |true =>
    simp only[cond_true,T.sub]
    exact⟨trivial,by rw[e]; rfl,L8 h3 a b,h2,ob.ty,ob.l,h1,Nat.le_of_ble_eq_true hb,rfl⟩
  ·simp[T.sub]
 | .fn f c=>by simp[T.fz,T.sub]
 | .fP l=>by simp only[T.fz,T.sub]; exact Es H l
 | .any=>by simp[T.fz,T.sub]
theorem Es{z:XH}{h:Hp}(H:Zt z h):(l:List T)->T.dM (fun i=>(lk z i).isSome=true) h (T.LZ z l) l
 |[]=>by simp[T.LZ,T.dM]
 |t::ts=>by simp only[T.LZ,T.dM]; exact⟨aeb H t,Es H ts⟩
end
theorem afI(z:XH)(t:T):(t.fz z).kd=t.kd:=by
 cases t<;>simp only[T.fz]<;>try rfl
 case agg l=>simp only[T.kd]; rw[qR,List.length_map]
 case own i=>split<;>rfl
 case ptr i a b =>
  split
  ·rename_i ob e
   cases (Nat.beq b 0&&Nat.blt a ob.l.length)<;>rfl
  ·rfl
 case kR i a b =>
  split
  ·rename_i ob e
   cases Nat.ble b ob.l.length<;>rfl
  ·rfl
theorem aec{z:XH}{t:T}{v:Value}(h:t.fz z= .lit v):t= .lit v:=by
 cases t<;>simp only[T.fz] at h<;>try (first|exact h|(cases h; done))
 case own i=>split at h<;>cases h
 case ptr i a b =>
  split at h
  ·rename_i ob e
   cases hb:(Nat.beq b 0&&Nat.blt a ob.l.length)<;>rw[hb] at h<;>cases h
  ·cases h
 case kR i a b =>
  split at h
  ·rename_i ob e
   cases hb:Nat.ble b ob.l.length<;>rw[hb] at h<;>cases h
  ·cases h
theorem FM{t:T}:fV t=true↔ ∃ n u,t= .fP [.lit (.int .i64 n),u]:=by
 constructor
 ·intro h; unfold fV at h; split at h
  ·exact⟨_,_,rfl⟩
  ·cases h
 ·rintro⟨n,u,rfl⟩; rfl
theorem aed(z:XH)(t:T):fV (t.fz z)=fV t:=by
 rw[Bool.eq_iff_iff,FM,FM]
 constructor
 ·rintro⟨n,u,e⟩
  cases t<;>simp only[T.fz] at e<;>try (cases e; done)
  case own i=>split at e<;>cases e
  case ptr i a b =>
   split at e
   ·rename_i ob _
    cases hb:(Nat.beq b 0&&Nat.blt a ob.l.length)<;>rw[hb] at e<;>cases e
   ·cases e
  case kR i a b =>
   split at e
   ·rename_i ob _
    cases hb:Nat.ble b ob.l.length<;>rw[hb] at e<;>cases e
   ·cases e
  case fP l =>
   rw[qR] at e
   cases l with
   |nil=>cases e
   |cons a l =>
    cases l with
    |nil=>simp at e
    |cons b l =>
     cases l with
     |cons c l=>simp at e
     |nil =>
      simp only[List.map_cons,List.map_nil,T.fP.injEq,List.cons.injEq,and_true] at e
      exact⟨n,b,by rw[aec e.1]⟩
 ·rintro⟨n,u,rfl⟩
  exact⟨n,u.fz z,rfl⟩
theorem UR(z:XH)(h:XH)(i:Nat):lk (NV z h) i=if(lk z i).isSome=true then none else(lk h i).map (Ob.fz z):=by
 induction h with
 |nil=>simp[NV,lk]
 |cons p r ih =>
  obtain⟨j,o⟩:=p
  simp only[NV]
  split
  ·rename_i u e
   rw[ih,fC]
   by_cases hij:j=i
   ·subst hij; rw[e]; rfl
   ·rw[if_neg hij]
  ·rename_i e
   rw[fC,ih,fC]
   by_cases hij:j=i
   ·subst hij; rw[if_pos rfl,e,if_pos rfl]; rfl
   ·rw[if_neg hij,if_neg hij]
def AS.fzS(z:XH)(s:AS):AS:= {s with fr:=T.LZ z s.fr,hp:=fun i=>if(lk z i).isSome=true then none else(s.hp i).map (Ob.fz z)}
theorem ac3{z:XH}{s:AS}(H:Zt z s.hp):V9 (fun i=>(lk z i).isSome=true) (s.fzS z) s:=by
 refine⟨Es H s.fr,fun i ob hi=>?_,rfl,rfl⟩
 simp only[AS.fzS] at hi
 split at hi
 ·cases hi
 ·rename_i hz
  obtain⟨ob',h1,rfl⟩:=Option.map_eq_some_iff.1 hi
  refine⟨ob',h1,hz,rfl,rfl,Es H ob'.l,?_,?_⟩
  ·show(T.LZ z ob'.l).map T.kd=_
   rw[qR,List.map_map]; exact List.map_congr_left fun t _=>afI z t
  ·show(T.LZ z ob'.l).map fV=_
   rw[qR,List.map_map]; exact List.map_congr_left fun t _=>aed z t
theorem UU(z:XH):T.fz z T.un=T.un:=rfl
theorem getD_map{f:T->T}{l:List T}{i:Nat}{d:T}(h:f d=d):(l.map f).getD i d=f (l.getD i d):=by
 simp only[List.getD_eq_getElem?_getD,List.getElem?_map]
 cases l[i]? <;>simp[h]
theorem wz.fz{x:XS}{s:AS}(S:wz x s)(z:XH):wz (x.fz z) (s.fzS z):=by
 refine⟨fun i=>?_,?_,fun i hi=>Tr.abK.2 (S.has i hi),?_,S.nx,S.pin⟩
 ·show(T.LZ z s.fr).getD i T.un=(x.fr.map (T.fz z)).get i
  rw[qR,getD_map (UU z),Tr.get_map (UU z),S.fr]
 ·show(T.LZ z s.fr).length=x.n
  rw[qR,List.length_map]; exact S.len
 ·funext i
  show(if(lk z i).isSome=true then none else(s.hp i).map (Ob.fz z))=lk (NV z x.hp) i
  rw[UR,S.hp]
theorem WT(p:Nat->Bool)(h:XH)(i:Nat):lk (xB p h) i=if p i=true then lk h i else none:=by
 induction h with
 |nil=>simp[xB,lk]
 |cons q r ih =>
  obtain⟨j,o⟩:=q
  simp only[xB]
  cases hp:p j with
  |true =>
   simp only[cond_true]
   rw[fC,ih,fC]
   by_cases hij:j=i
   ·subst hij; rw[if_pos rfl,if_pos rfl,if_pos hp]
   ·rw[if_neg hij,if_neg hij]
  |false =>
   simp only[cond_false]
   rw[ih,fC]
   by_cases hij:j=i
   ·subst hij; rw[hp]; rfl
   ·rw[if_neg hij]
theorem JB{Z:Nat->Prop}{h:Hp}(l:List T):T.dM Z h l l:=dS l
theorem wz.keep{x:XS}{s:AS}(S:wz x s)(p:Nat->Bool): ∃ s1,Dw s1 s/\wz {x with hp:=xB p x.hp} s1:=by
 refine⟨{s with hp:=lk (xB p x.hp)},.fz (Z:=fun _=>False) (s':= {s with hp:=lk (xB p x.hp)}) ⟨JB _,fun i ob hi=>?_,rfl,rfl⟩ (.refl _),⟨S.fr,S.len,S.has,rfl,S.nx,S.pin⟩⟩
 have hi':lk (xB p x.hp) i=some ob:=hi
 rw[WT] at hi'
 split at hi'
 ·exact⟨ob,by rw[S.hp]; exact hi',fun h=>h,rfl,rfl,JB _,rfl,rfl⟩
 ·cases hi'
theorem wz.gc{x:XS}{s:AS}(S:wz x s): ∃ s1,Dw s1 s/\wz x.gc s1:=by
 unfold XS.gc
 cases longer 12 x.hp with
 |true=>exact S.keep _
 |false=>exact⟨s,.refl _,S⟩
theorem Dw.trans{s s' s'':AS}(h:Dw s s')(h':Dw s' s''):Dw s s'':=by
 induction h' with
 |refl=>exact h
 |slot a _ ih=>exact .slot a ih
 |cell a _ ih=>exact .cell a ih
 |take a _ ih=>exact .take a ih
 |fz a _ ih=>exact .fz a ih
theorem wz.KD{x:XS}{s:AS}(S:wz x s)(m:Mlt): ∃ s1,Dw s1 s/\wz (x.KD m) s1:=by
 unfold XS.KD
 split
 ·exact S.gc
 ·split
  ·exact S.gc
  ·rename_i l _ z _
   have H:Zt (yt (fun i=>Nat.ble x.pin i&&xA i (ad8 m x)) x.hp x.hp) s.hp:=⟨fun i o e=>by
    obtain⟨_,h1,h2,h3⟩:=Qr e
    exact⟨by rw[S.hp]; exact h1,h2,h3⟩⟩
   obtain⟨s1,h1,h2⟩:=(S.fz (yt (fun i=>Nat.ble x.pin i&&xA i (ad8 m x)) x.hp x.hp)).gc
   exact⟨s1,h1.trans (.fz (ac3 H) (.refl _)),h2⟩
section
variable {P:Program}
def Good(Q:oz->AS->Prop):Out->Prop
 | .bad=>False
 | .go x=> ∀ s,wz x s->Q .normal s
 | .ex id x=> ∀ s,wz x s->Q (.exit id) s
 | .rt x=> ∀ s,wz x s->Q .ret s
theorem FN{p:Nat->Prop}: ∀ n,p n-> ∃ m,p m/\ ∀ k,p k->m<=k:=by
 intro n
 induction n using Nat.strongRecOn with
 |ind n ih =>
  intro hn
  by_cases h: ∃ k,k<n/\p k
  ·obtain⟨k,h1,h2⟩:=h; exact ih k h1 h2
  ·exact⟨n,hn,fun k hk=>Nat.le_of_not_lt fun hlt=>h ⟨k,hlt,hk⟩⟩
open Classical in
theorem ac4{cf:CF}(C:Qp P cf){big:Nat}: ∀ (c:eu) {x:XS} {s:AS} {Q:oz->AS->Prop},wz x s->Good Q (xr cf big c x)->aw P c Q s:=by
 intro c
 induction c with
 |skip=>intro x s Q S h; exact h s S
 |reg dr ops =>
  intro x s Q S h
  simp only[xr] at h
  simp only[aw]
  split at h
  ·rename_i x' e; exact abO C S e h
  ·exact h.elim
 |seq a b iha ihb =>
  intro x s Q S h
  simp only[xr] at h
  simp only[aw]
  refine iha S ?_
  cases e:xr cf big a x with
  |bad=>rw[e] at h; exact h
  |go x'=>rw[e] at h; exact fun s' S'=>ihb S' h
  |ex id x'=>rw[e] at h; exact h
  |rt x'=>rw[e] at h; exact h
 |cond c a b iha ihb =>
  intro x s Q S h
  simp only[xr] at h
  simp only[aw]
  rw[S.ev]
  split at h
  ·rename_i e; simp only[e]; exact⟨fun _=>iha S h,fun q=>(by cases q)⟩
  ·rename_i e; simp only[e]; exact⟨fun q=>(by cases q),fun _=>ihb S h⟩
  ·exact h.elim
 |blk id b ih =>
  intro x s Q S h
  simp only[xr] at h
  simp only[aw]
  refine ih S ?_
  cases e:xr cf big b x with
  |bad=>rw[e] at h; exact h
  |go x'=>rw[e] at h; exact h
  |rt x'=>rw[e] at h; exact h
  |ex j x' =>
   rw[e] at h
   simp only[qQ] at h
   intro s' S'
   show(bif j==id then Q .normal s' else Q (.exit j) s')
   cases hj:(j==id) with
   |true=>rw[hj] at h; exact h s' S'
   |false=>rw[hj] at h; exact h s' S'
 |exit id=>intro x s Q S h; exact h s S
 |ret=>intro x s Q S h; exact h s S
 |loop b ih =>
  intro x s Q S h
  simp only[xr] at h
  simp only[aw,xW]
  let I:AS->Nat->Prop:=fun s n=> ∃ y,wz (y.KD (Gs b)) s/\Good Q (iter (Gs b) (xr cf big b) n y)
  let μ:AS->Nat:=fun s=>if hh: ∃ n,I s n then Classical.choose (FN _ (Classical.choose_spec hh)) else 0
  have hμ: ∀ s,(∃ n,I s n)->I s (μ s)/\ ∀ k,I s k->μ s<=k:=by
   intro s hh
   have e:μ s=Classical.choose (FN _ (Classical.choose_spec hh)):=dif_pos hh
   rw[e]
   exact Classical.choose_spec (FN _ (Classical.choose_spec hh))
  refine⟨fun s=> ∃ n,I s n,μ,?_,?_⟩
  ·obtain⟨s1,h1,h2⟩:=S.KD (Gs b)
   exact⟨s1,⟨s1,h1,.inl rfl⟩,big,x,h2,h⟩
  ·intro s hI
   obtain⟨⟨y,h1,h2⟩,_⟩:=hμ s hI
   generalize hm:μ s=m at h2
   cases m with
   |zero=>exact h2.elim
   |succ m =>
    simp only[iter] at h2
    refine ih h1 ?_
    cases e:xr cf big b (y.KD (Gs b)) with
    |bad=>rw[e] at h2; exact h2
    |ex id x'=>rw[e] at h2; exact h2
    |rt x'=>rw[e] at h2; exact h2
    |go x' =>
     rw[e] at h2
     intro s' S'
     obtain⟨s1,g1,g2⟩:=S'.KD (Gs b)
     refine⟨s1,⟨s1,g1,.inl rfl⟩,⟨m,x',g2,h2⟩,?_⟩
     have:=(hμ s1 ⟨m,x',g2,h2⟩).2 m ⟨x',g2,h2⟩
     omega
end
section
variable {P:Program}
def afJ(P:Program)(h:Hp)(n:Nat)(post:T->Hp->Prop)(rs:List RV):oz->AS->Prop
 | .exit _,_=>False
 |_,s=> ∃ s1,Dw s1 s/\ ∀ (F:Fr P) (E:Env) (a:Act),Rel F (· <s1.nx) E s1 a->Ret h n post rs s1
theorem aN.Qs{f:FuncId}{fn:Func}{c:Code}{ac:eu}{rs:List RV}{ts:List T}{h:Hp}{n nx nt:Nat}{post:T->Hp->Prop}(hf:P.funcs[f]? =some fn)(hb:fn.body=some c)(hc:comp P c=some ac)
  (hr:kM P fn.results.toList=some rs) (hcl:callable P f) (hnt:fn.ntmps=nt) (hin: ∃ t h',post t h') (hts:T.aJ (· <nx) ts) (hh:lT (· <nx) h)
  (H:aw P ac (afJ P h n post rs) ⟨ts++List.replicate (nt-ts.length) T.un,h,nx,nx⟩):aN P f ts h n post:=by
 refine⟨hin,hcl,fun F M E vs hk he hrep hid hm hn=>?_⟩
 suffices hh: ∀ F:Fr P,F.dl=[]->qy F E->Calls P f vs.toArray E.w (Ends F M E n post) by
  refine(hh (F.defs []) rfl (hk.dl [])).mono ?_
  rintro e w' ⟨v,t,E',r1,r2,r3,r4,r5,r6,r7⟩
  exact⟨v,t,E',r1,r2,r3,r4,r5.SX,r6.SX,r7⟩
 clear hk
 intro F hdl hk
 refine calls_of_wp hf hb ?_
 have hlen:=lS hrep
 have hun: ∀ k,bW E (List.replicate k T.un) (List.replicate k undef):=by
  intro k
  induction k with
  |zero=>simp[bW]
  |succ k ih=>rw[List.replicate_succ,List.replicate_succ,bY]; exact⟨_,_,rfl,by rw[aH]; rfl,ih⟩
 have R:Rel F (· <nx) E ⟨ts++List.replicate (nt-ts.length) T.un,h,nx,nx⟩ {tmps:=vs.toArray++Array.replicate (fn.ntmps-vs.toArray.size) undef,defers:=[]}:=by
  refine⟨hk,he,?_,hdl.symm,eU.2 ⟨hts,cO.2 fun t ht=>by rw[List.eq_of_mem_replicate ht]; simp[T.ids]⟩,hh⟩
  have:=yU hrep (hun (nt-ts.length))
  simpa [hnt,hlen] using this
 refine wp_mono (Qi c hc H (Nat.le_refl _) R) ?_
 rintro e a' w' ⟨ae,E',s',rfl,rfl,hQ,R',hpn,hle,hext,hs⟩
 have key:(∃ s1,Dw s1 s'/\ ∀ (F:Fr P) (E:Env) (a:Act),Rel F (· <s1.nx) E s1 a->Ret h n post rs s1)->a'.defers=[]/\ ∃ v,(results fn a'.tmps).run P E'.w= .ok v E'.w/\Ends F M E n post (.returned v) E'.w:=by
  rintro⟨s1,hN,ac5⟩
  obtain⟨E1,hw1,R1,hx1,hs1,hp1,_⟩:=hN.sound R' (by rw[hpn]; exact hle)
  have hret:=ac5 _ _ _ R1
  clear ac5
  replace hext:=hext.trans hx1
  replace hs:=hs.trans hs1 (M':=(· <s1.pin)) (fun i hi=>by rw[hp1,hpn]; exact hi)
  clear hx1 hs1
  rw[<- hw1]
  clear hw1
  revert hret
  generalize E1=E' at *
  replace R':=R1
  clear R1
  generalize s1=s' at *
  rintro⟨hok,Z,ρ,t,h',hpost,hsub,Kv,hinj,J8,Js,hfix⟩
  obtain⟨v,hrun,hv⟩:=Gp R' hr hok
  refine⟨R'.df.trans hdl,v,hrun,v,t,(E'.shut Z).ren ρ h',rfl,rfl,hpost,?_,?_,?_,?_,T.bD (fun i hi=>?_) _ J8,fun i ob hi=>?_⟩
  ·have hl: ∀ i,(h' i).isSome=true->((E'.shut Z).h (ρ i)).isSome=true:=fun i hi=>by
    obtain⟨ob,hob⟩:=Option.isSome_iff_exists.1 hi
    obtain⟨ob',h1,h2,_⟩:=Kv i ob hob
    rw[wK h2,R'.he,h1]; rfl
   rw[<- R'.he] at hsub
   have hv':=Jp R'.hk hsub hv
   rcases hv' with ⟨h1,cs,h2,h3⟩|⟨h1,h2⟩
   ·exact .inl ⟨by rw[<- nR ρ]; exact h1,cs,h2,qP hl t _ h3⟩
   ·exact .inr ⟨by rw[<- nR ρ]; exact h1,qP hl t _ h2⟩
  ·exact R'.hk.ren (fun i ob hi=>by rw[R'.he]; exact Kv i ob hi) hinj
  ·exact⟨fun g hg=>.inl (hext.s g hg),hext.w,hext.size,hext.os,hext.tape,hext.output,hext.dr⟩
  ·intro i hi hsome
   obtain⟨ob,hob⟩:=Option.isSome_iff_exists.1 hsome
   have Y0:(h i).isSome=true:=(Js i ob hob).1.resolve_right fun e=>hn (e▸hi)
   have hρ:=hfix i Y0 hsome
   obtain⟨oi,hoi⟩:=Option.isSome_iff_exists.1 Y0
   obtain⟨ob',dZ,_⟩:=Kv i ob hob
   rw[hρ] at dZ
   have:=hs i (hh i oi hoi).1 (by rw[R'.he,dZ]; rfl)
   refine⟨this.1,?_,?_⟩
   ·show E'.φ (ρ i)=_; rw[hρ]; exact this.2.1
   ·show E'.κ (ρ i)=_; rw[hρ]; exact this.2.2
  ·rcases hi with hi|hi
   ·obtain⟨oi,hoi⟩:=Option.isSome_iff_exists.1 hi
    exact .inl (hm i oi hoi).1
   ·exact .inr hi
  ·have hconv: ∀ i,((h i).isSome=true\/i=n)->M i\/i=n:=fun i hi=>by
    rcases hi with hi|hi
    ·obtain⟨oi,hoi⟩:=Option.isSome_iff_exists.1 hi
     exact .inl (hm i oi hoi).1
    ·exact .inr hi
   exact⟨hconv i (Js i ob hi).1,T.aA hconv _ (Js i ob hi).2⟩
 cases ae with
 |normal=>exact key hQ
 |ret=>exact key hQ
 |exit id=>exact hQ.elim
def lU(p:Nat->Bool)(s:AS):RV->Prop
 | .slot _=>True
 | .cell a k=> ∃ i j ob,s.fr.getD a T.un= .ptr i j 0/\p i=false/\s.hp i=some ob/\j<ob.l.length/\ob.k=k
theorem lU.ok{p:Nat->Bool}{s:AS}{r:RV}(h:lU p s r):r.ok s:=by
 cases r with
 |slot t=>trivial
 |cell a k =>
  obtain⟨i,j,ob,h1,_,h2,h3,h4⟩:=h
  simp only[RV.ok,qc,AS.ev,h1,h2]
  exact⟨h3,by simp[h4]⟩
theorem lU.all{p:Nat->Bool}{s:AS}: ∀ {rs:List RV},(∀ r∈rs,lU p s r)->BU s rs:=by
 intro rs
 induction rs with
 |nil=>intro _; trivial
 |cons r rs ih=>intro h; exact⟨(h r (by simp)).ok,ih fun q hq=>h q (by simp[hq])⟩
theorem lU.val{s:AS}{a k i j:Nat}{ob:Ob}(h1:s.fr.getD a T.un= .ptr i j 0)(h2:s.hp i=some ob)(h4:ob.k=k):(RV.cell a k).val s=ob.l.getD j .any:=by
 simp only[RV.val,qt,AS.ev,h1,h2]
 simp[h4]
theorem Et{s:AS}(rs:List RV):resT s rs=FI (rs.map (RV.val s)):=by
 cases rs with
 |nil=>rfl
 |cons r rs=>cases rs with
  |nil=>rfl
  |cons q rs=>rfl
theorem abP{x:XS}{s:AS}(S:wz x s){p:Nat->Bool}{r:RV}{t:T}(h:abJ x r=some t)(hp: ∀ i∈jT x [r],p i=false):lU p s r/\r.val s=t:=by
 cases r with
 |slot a=>simp only[abJ] at h; cases h; exact⟨trivial,S.fr a⟩
 |cell a k =>
  simp only[abJ] at h
  split at h
  ·rename_i i j e1
   split at h
   ·rename_i ob e2
    cases hb:(Nat.blt j ob.l.length&&ob.k==k) with
    |false=>rw[hb] at h; cases h
    |true =>
     rw[hb] at h; cases h
     rw[Bool.and_eq_true] at hb
     have hk:ob.k=k:=by simpa using hb.2
     have h1:s.fr.getD a T.un= .ptr i j 0:=by rw[S.fr]; exact e1
     have h2:s.hp i=some ob:=by rw[S.hp]; exact e2
     exact⟨⟨i,j,ob,h1,hp i (by simp[jT,e1]),h2,Nat.blt_eq.mp hb.1,hk⟩,lU.val h1 h2 hk⟩
   ·cases h
  ·cases h
theorem Gt{x:XS}{r:RV}{rs:List RV}{i:Nat}:i∈jT x (r::rs)↔i∈jT x [r]\/i∈jT x rs:=by
 cases r with
 |slot a=>simp[jT]
 |cell a k=>simp only[jT]; split<;>simp
theorem Eu{x:XS}{s:AS}(S:wz x s){p:Nat->Bool}: ∀ {rs:List RV} {vs:List T},L6 x rs=some vs->(∀ i∈jT x rs,p i=false)->(∀ r∈rs,lU p s r)/\rs.map (RV.val s)=vs:=by
 intro rs
 induction rs with
 |nil=>intro vs h _; simp only[L6] at h; cases h; exact⟨fun r hr=>(by cases hr),rfl⟩
 |cons r rs ih =>
  intro vs h hp
  simp only[L6] at h
  split at h
  ·rename_i t l e1 e2
   cases h
   obtain⟨h1,h2⟩:=abP S e1 (p:=p) fun i hi=>hp i (Gt.2 (.inl hi))
   obtain⟨h3,h4⟩:=ih e2 fun i hi=>hp i (Gt.2 (.inr hi))
   refine⟨fun q hq=>?_,by rw[List.map_cons,h2,h4]⟩
   rcases List.mem_cons.1 hq with rfl|hq
   ·exact h1
   ·exact h3 q hq
  ·cases h
theorem Ew{i:Nat}: ∀ {l:List Nat},xA i l=true↔i∈l:=by
 intro l
 induction l with
 |nil=>simp[xA]
 |cons j r ih=>simp[xA,qQ,ih]
theorem lU.fz{p:Nat->Bool}{s:AS}{z:XH}(hz: ∀ i o,lk z i=some o->p i=true){r:RV}(h:lU p s r):lU p (s.fzS z) r/\r.val (s.fzS z)=(r.val s).fz z:=by
 cases r with
 |slot a =>
  refine⟨trivial,?_⟩
  show(T.LZ z s.fr).getD a T.un=(s.fr.getD a T.un).fz z
  rw[qR,getD_map (UU z)]
 |cell a k =>
  obtain⟨i,j,ob,h1,hpi,h2,h3,h4⟩:=h
  have hzi:lk z i=none:=by
   cases e:lk z i with
   |none=>rfl
   |some o=>rw[hz i o e] at hpi; cases hpi
  have g1:(s.fzS z).fr.getD a T.un= .ptr i j 0:=by
   show(T.LZ z s.fr).getD a T.un=_
   rw[qR,getD_map (UU z),h1]; simp only[T.fz,hzi]
  have g2:(s.fzS z).hp i=some (ob.fz z):=by
   show(if(lk z i).isSome=true then none else(s.hp i).map (Ob.fz z))=_
   rw[hzi,h2]; rfl
  refine⟨⟨i,j,ob.fz z,g1,hpi,g2,?_,h4⟩,?_⟩
  ·show j<(T.LZ z ob.l).length
   rw[qR,List.length_map]; exact h3
  ·rw[lU.val g1 g2 h4,lU.val h1 h2 h4]
   show(T.LZ z ob.l).getD j .any=_
   rw[qR,getD_map rfl]
theorem Bg{p:Nat->Bool}{rs:List RV}: ∀ (k:Nat) {vs:List T} {h:XH} {s:AS},s.hp=lk h->(∀ r∈rs,lU p s r)->rs.map (RV.val s)=vs ->
  ∃ s1,Dw s1 s/\s1.hp=lk (settle p k vs h).2/\(∀ r∈rs,lU p s1 r)/\rs.map (RV.val s1)=(settle p k vs h).1:=by
 intro k
 induction k with
 |zero=>intro vs h s e hc hv; exact⟨s,.refl _,e,hc,hv⟩
 |succ k ih =>
  intro vs h s e hc hv
  simp only[settle]
  split
  ·exact⟨s,.refl _,e,hc,hv⟩
  ·have hcan: ∀ i o,lk (yt p h h) i=some o->p i=true/\lk h i=some o/\o.k≠dI/\T.bC o.l=true:=fun i o hi=>Qr hi
   generalize yt p h h=z at hcan
   have H:Zt z s.hp:=⟨fun i o hi=>by rw[e]; exact(hcan i o hi).2⟩
   have hz: ∀ i o,lk z i=some o->p i=true:=fun i o hi=>(hcan i o hi).1
   have a1:(s.fzS z).hp=lk (NV z h):=by
    funext i
    rw[UR]
    show(if(lk z i).isSome=true then none else(s.hp i).map (Ob.fz z))=_
    rw[e]
   have a2:rs.map (RV.val (s.fzS z))=T.LZ z vs:=by
    rw[qR,<- hv,List.map_map]
    exact List.map_congr_left fun r hr=>((hc r hr).fz hz).2
   obtain⟨s1,h1,h2,h3,h4⟩:=ih a1 (fun r hr=>((hc r hr).fz hz).1) a2
   exact⟨s1,h1.trans (.fz (ac3 H) (.refl _)),h2,h3,h4⟩
mutual
theorem NZ{p:Nat->Bool}{m n:Nat}{ρ:Nat->Nat}(hm:ρ n=m)(hp: ∀ i,p i=true->i≠m->ρ i=i):(t:T)->t.Tt p=true->(t.rn m n).ren ρ=t
 | .lit _,_=>rfl
 | .sl _ _ _,_=>rfl
 | .ref _ _,_=>rfl
 | .any,_=>rfl
 | .own i,h=>by
  simp only[T.rn]; rw[wF]
  by_cases e:i=m
  ·rw[if_pos e]; simp only[T.ren]; rw[hm,e]
  ·rw[if_neg e]; simp only[T.ren]; rw[hp i h e]
 | .ptr i _ _,h=>by
  simp only[T.rn]; rw[wF]
  by_cases e:i=m
  ·rw[if_pos e]; simp only[T.ren]; rw[hm,e]
  ·rw[if_neg e]; simp only[T.ren]; rw[hp i h e]
 | .kR i _ _,h=>by
  simp only[T.rn]; rw[wF]
  by_cases e:i=m
  ·rw[if_pos e]; simp only[T.ren]; rw[hm,e]
  ·rw[if_neg e]; simp only[T.ren]; rw[hp i h e]
 | .agg l,h=>by simp only[T.rn,T.ren,T.Tt] at h ⊢; rw[yw hm hp l h]
 | .fP l,h=>by simp only[T.rn,T.ren,T.Tt] at h ⊢; rw[yw hm hp l h]
 | .fn f l,h=>by simp only[T.rn,T.ren,T.Tt] at h ⊢; rw[yw hm hp l h]
theorem yw{p:Nat->Bool}{m n:Nat}{ρ:Nat->Nat}(hm:ρ n=m)(hp: ∀ i,p i=true->i≠m->ρ i=i):(l:List T)->T.yu p l=true->T.dQ ρ (T.OH m n l)=l
 |[],_=>rfl
 |t::ts,h=>by
  simp only[T.OH,T.dQ,T.yu,Bool.and_eq_true] at h ⊢
  rw[NZ hm hp t h.1,yw hm hp ts h.2]
end
mutual
theorem N7{p:Nat->Bool}{m n:Nat}{M:Nat->Prop}(hn:M n)(hp: ∀ i,p i=true->i≠m->M i):(t:T)->t.Tt p=true->(t.rn m n).ids M
 | .lit _,_=>trivial
 | .sl _ _ _,_=>trivial
 | .ref _ _,_=>trivial
 | .any,_=>trivial
 | .own i,h=>by
  simp only[T.rn]; rw[wF]
  by_cases e:i=m
  ·rw[if_pos e]; exact hn
  ·rw[if_neg e]; exact hp i h e
 | .ptr i _ _,h=>by
  simp only[T.rn]; rw[wF]
  by_cases e:i=m
  ·rw[if_pos e]; exact hn
  ·rw[if_neg e]; exact hp i h e
 | .kR i _ _,h=>by
  simp only[T.rn]; rw[wF]
  by_cases e:i=m
  ·rw[if_pos e]; exact hn
  ·rw[if_neg e]; exact hp i h e
 | .agg l,h=>by simp only[T.rn,T.ids,T.Tt] at h ⊢; exact yx hn hp l h
 | .fP l,h=>by simp only[T.rn,T.ids,T.Tt] at h ⊢; exact yx hn hp l h
 | .fn f l,h=>by simp only[T.rn,T.ids,T.Tt] at h ⊢; exact yx hn hp l h
theorem yx{p:Nat->Bool}{m n:Nat}{M:Nat->Prop}(hn:M n)(hp: ∀ i,p i=true->i≠m->M i):(l:List T)->T.yu p l=true->T.aJ M (T.OH m n l)
 |[],_=>trivial
 |t::ts,h=>by
  simp only[T.OH,T.aJ,T.yu,Bool.and_eq_true] at h ⊢
  exact⟨N7 hn hp t h.1,yx hn hp ts h.2⟩
end
mutual
theorem Qu{p:Nat->Bool}{M:Nat->Prop}(hp: ∀ i,p i=true->M i):(t:T)->t.Tt p=true->t.ids M
 | .lit _,_=>trivial
 | .sl _ _ _,_=>trivial
 | .ref _ _,_=>trivial
 | .any,_=>trivial
 | .own i,h=>hp i h
 | .ptr i _ _,h=>hp i h
 | .kR i _ _,h=>hp i h
 | .agg l,h=>by simp only[T.ids,T.Tt] at h ⊢; exact yA hp l h
 | .fP l,h=>by simp only[T.ids,T.Tt] at h ⊢; exact yA hp l h
 | .fn f l,h=>by simp only[T.ids,T.Tt] at h ⊢; exact yA hp l h
theorem yA{p:Nat->Bool}{M:Nat->Prop}(hp: ∀ i,p i=true->M i):(l:List T)->T.yu p l=true->T.aJ M l
 |[],_=>trivial
 |t::ts,h=>by
  simp only[T.aJ,T.yu,Bool.and_eq_true] at h ⊢
  exact⟨Qu hp t h.1,yA hp ts h.2⟩
end
theorem Bh{p:Nat->Bool}{l:List T}(h:T.yu p l=true):(FI l).Tt p=true:=by
 cases l with
 |nil=>rfl
 |cons t l=>cases l with
  |nil=>simp only[T.yu,Bool.and_true] at h; exact h
  |cons u l=>exact h
theorem Zu{l:List T}(h:T.bC l=true):(FI l).free=true:=by
 cases l with
 |nil=>rfl
 |cons t l=>cases l with
  |nil=>simp only[T.bC,Bool.and_true] at h; exact h
  |cons u l=>exact h
mutual
theorem abQ{n:Nat}:(t:T)->t.lt n=true->t.ids (· <n)
 | .lit _,_=>trivial
 | .sl _ _ _,_=>trivial
 | .ref _ _,_=>trivial
 | .any,_=>trivial
 | .own i,h=>Nat.blt_eq.mp h
 | .ptr i _ _,h=>Nat.blt_eq.mp h
 | .kR i _ _,h=>Nat.blt_eq.mp h
 | .agg l,h=>by simp only[T.ids,T.lt] at h ⊢; exact yB l h
 | .fP l,h=>by simp only[T.ids,T.lt] at h ⊢; exact yB l h
 | .fn f l,h=>by simp only[T.ids,T.lt] at h ⊢; exact yB l h
theorem yB{n:Nat}:(l:List T)->T.JX n l=true->T.aJ (· <n) l
 |[],_=>trivial
 |t::ts,h=>by
  simp only[T.aJ,T.JX,Bool.and_eq_true] at h ⊢
  exact⟨abQ t h.1,yB ts h.2⟩
end
theorem abR{n:Nat}: ∀ {h:XH},hLt n h=true->lT (· <n) (lk h):=by
 intro h
 induction h with
 |nil=>intro _ i ob hi; cases hi
 |cons q r ih =>
  obtain⟨j,o⟩:=q
  intro hh i ob hi
  simp only[hLt,Bool.and_eq_true] at hh
  rw[fC] at hi
  by_cases e:j=i
  ·rw[if_pos e] at hi; cases hi; subst e
   exact⟨Nat.blt_eq.mp hh.1.1,yB _ hh.1.2⟩
  ·rw[if_neg e] at hi; exact ih hh.2 i ob hi
end
section
variable {P:Program}
def ac6(P:Program)(tab:FuncId->Option FnX):Prop:= ∀ f b,tab f=some b-> ∃ fn c,P.funcs[f]? =some fn/\fn.body=some c/\comp P c=some b.code/\kM P fn.results.toList=some b.rs/\callable P f/\fn.ntmps=b.nt
def UW(P:Program)(UN:Nat->FuncId->List T->Option (T×Option Ob)):Prop:= ∀ n f ts t o,UN n f ts=some (t,o)-> ∃ tf,tf n=t/\qY P f ts tf o/\(o=none->t.free=true)
def aee(P:Program)(UN:Nat->FuncId->List T->XH->Option (T×XH)):Prop:= ∀ n f ts h t h',UN n f ts h=some (t,h')->aN P f ts (lk h) n (fun t1 h1=>t1=t/\h1=lk h')
structure KOk(P:Program)(K:Know):Prop where
 tab:ac6 P K.tab
 UN:UW P K.UN
 Zb:aee P K.Zb
theorem log2_lt(n:Nat):n<2 ^ (Nat.log2 n+1):=by
 by_cases h:n=0
 ·subst h; simp
 ·exact(Nat.log2_lt h).1 (Nat.lt_succ_self _)
theorem TA: ∀ {ts:List T} {i:Nat} {f:Tr},(∀ j,j<i+ts.length->f.has j)-> ∀ j,(zh ts i f).get j=(if i<=j/\j<i+ts.length then ts.getD (j-i) T.un else f.get j)/\((zh ts i f).has j↔f.has j):=by
 intro ts
 induction ts with
 |nil=>intro i f _ j; refine⟨?_,Iff.rfl⟩; simp only[zh,List.length_nil]; rw[if_neg (by omega)]
 |cons t ts ih =>
  intro i f hf j
  simp only[zh]
  simp only[List.length_cons] at hf
  obtain⟨h1,h2⟩:=ih (i:=Nat.succ i) (f:=f.set i t) (fun k hk=>Tr.has_set.2 (hf k (by simp only[Nat.succ_eq_add_one] at hk; omega))) j
  refine⟨?_,h2.trans Tr.has_set⟩
  rw[h1,Tr.UO (.inl (hf i (by omega)))]
  simp only[Nat.succ_eq_add_one,List.length_cons]
  by_cases e:j=i
  ·subst e
   rw[if_neg (by omega),if_pos rfl,if_pos (by omega)]; simp
  ·rw[if_neg e]
   by_cases hj:i+1<=j/\j<i+1+ts.length
   ·rw[if_pos hj,if_pos (by omega)]
    have:j-i=(j-(i+1))+1:=by omega
    rw[this,List.getD_cons_succ]
   ·rw[if_neg hj,if_neg (by omega)]
theorem L9{b:FnX}{ts:List T}{h:XH}{n:Nat}(hl:Nat.ble ts.length b.nt=true):wz (zi b ts h n) ⟨ts++List.replicate (b.nt-ts.length) T.un,lk h,n,n⟩:=by
 have hle:ts.length<=b.nt:=Nat.le_of_ble_eq_true hl
 have hfull: ∀ j,j<b.nt->(Tr.full (Nat.succ (Nat.log2 b.nt))).has j:=fun j hj=>Tr.Zg (by have:=log2_lt b.nt; simp only[Nat.succ_eq_add_one]; omega)
 have hput:=TA (ts:=ts) (i:=0) (f:=Tr.full (Nat.succ (Nat.log2 b.nt))) (fun j hj=>hfull j (by omega))
 refine⟨fun i=>?_,?_,fun i hi=>((hput i).2).2 (hfull i hi),rfl,rfl,rfl⟩
 ·show(ts++List.replicate (b.nt-ts.length) T.un).getD i T.un=(zh ts 0 (Tr.full (Nat.succ (Nat.log2 b.nt)))).get i
  rw[(hput i).1,Tr.Zf]
  simp only[Nat.zero_le,true_and,Nat.zero_add,Nat.sub_zero]
  by_cases hi:i<ts.length
  ·rw[if_pos hi]
   simp only[List.getD_eq_getElem?_getD,List.getElem?_append_left hi]
  ·rw[if_neg hi]
   simp only[List.getD_eq_getElem?_getD]
   rw[List.getElem?_append_right (by omega),List.getElem?_replicate]
   split<;>rfl
 ·show(ts++List.replicate (b.nt-ts.length) T.un).length=b.nt
  simp; omega
theorem Bj{F:Fr P}{M:Nat->Prop}{E:Env}{s:AS}{a:Act}(R:Rel F M E s a){i:Nat}{ob:Ob}(h:s.hp i=some ob):(ob.k=dI/\ob.l.all fV=true)\/(ob.k≠dI/\ ∀ t∈ob.l,t.kd=ob.k) :=
 (R.hk.obs i ob (by rw[R.he]; exact h)).1.kinds
theorem UY(m n:Nat): ∀ l:List T,T.OH m n l=l.map (T.rn m n):=by
 intro l
 induction l with
 |nil=>rfl
 |cons t ts ih=>simp only[T.OH,List.map_cons,ih]
theorem afK(m n:Nat)(t:T):(t.rn m n).kd=t.kd:=by
 cases t<;>simp only[T.rn]<;>try rfl
 case agg l=>simp only[T.kd]; rw[UY,List.length_map]
 all_goals (rw[wF]; split<;>rfl)
theorem Qv{m n:Nat}{ob:Ob}(h:(ob.k=dI/\ob.l.all fV=true)\/(ob.k≠dI/\ ∀ t∈ob.l,t.kd=ob.k)) :
  (ob.k=dI/\(T.OH m n ob.l).all fV=true)\/(ob.k≠dI/\ ∀ t∈T.OH m n ob.l,t.kd=ob.k):=by
 rw[UY]
 rcases h with ⟨h1,h2⟩|⟨h1,h2⟩
 ·refine .inl ⟨h1,?_⟩
  rw[List.all_eq_true] at h2 ⊢
  intro t ht
  obtain⟨u,hu,rfl⟩:=List.mem_map.1 ht
  obtain⟨k,v,e⟩:=FM.1 (h2 u hu)
  rw[e]; rfl
 ·refine .inr ⟨h1,fun t ht=>?_⟩
  obtain⟨u,hu,rfl⟩:=List.mem_map.1 ht
  rw[afK]; exact h2 u hu
theorem JC{m k:Nat}{M:Nat->Prop}(hM:M k){t:T}(h:t.Tt (Nat.beq m)=true):(t.rn m k).ids M :=
 N7 (p:=Nat.beq m) hM (fun _ hi hne=>absurd (FK hi).symm hne) t h
theorem abS{dr:Bool}{n:Nat}{rs:List RV}{x:XS}{t:T}{o:Option Ob}(h:Tv n dr rs x=some (t,o)) :
  ∃ tf:Nat->T,tf n=t/\(∀ k,(tf k).ids (fun i=>i=k))/\(∀ ob,o=some ob->T.bC ob.l=true/\ob.k≠dI)/\(o=none->t.free=true)/\(dr=true->o=none) /\
   ∀ k s,wz x s-> ∃ s1,Dw s1 s/\ ∀ (F:Fr P) (E:Env) (a:Act),Rel F (· <s1.nx) E s1 a->Ret no k (fun t' h'=>t'=tf k/\h'=fO no k o) rs s1:=by
 unfold Tv at h
 split at h
 ·cases h
 ·rename_i vs hvs
  split at h
  ·rename_i m htop
   generalize hset:settle (fun i=> !(Nat.beq i m)&& !(xA i (jT x rs))) 8 vs x.hp=st at h
   obtain⟨vs',hp'⟩:=st
   simp only at h
   split at h
   ·rename_i ob hob
    cases hb:(T.bC ob.l&& !(ob.k==dI)&&T.yu (Nat.beq m) vs') with
    |false=>rw[hb] at h; cases h
    |true =>
     rw[hb] at h; cases h
     simp only[Bool.and_eq_true] at hb
     obtain⟨⟨hf,hk⟩,Qw⟩:=hb
     have hk':ob.k≠dI:=by simpa using hk
     refine⟨fun k=>T.rn m k (FI vs'),rfl,fun k=>JC (M:=fun i=>i=k) rfl (Bh Qw),?_,(fun e=>by cases e),?_,?_⟩
     ·intro ob' e; cases e; exact⟨hf,hk'⟩
     ·intro hd; rw[hd] at htop; cases htop
     ·intro k s S
      obtain⟨hc,hv⟩:=Eu S (p:=fun i=> !(Nat.beq i m)&& !(xA i (jT x rs))) hvs (fun i hi=>by rw[Ew.2 hi]; simp)
      obtain⟨s1,h1,h2,h3,h4⟩:=Bg 8 S.hp hc hv
      rw[hset] at h2 h4
      refine⟨s1,h1,fun F E a R=>⟨lU.all h3,fun _=>False,fun _=>m,T.rn m k (FI vs'),fO no k (some ob),⟨rfl,rfl⟩,?_,fun i ob' hi=>?_,fun i j hi hj _=>?_,?_,fun i ob' hi=>?_,fun i hi=>by cases hi⟩⟩
      ·rw[Et,h4,NZ (p:=Nat.beq m) rfl (fun i hi hne=>absurd (FK hi).symm hne) _ (Bh Qw)]
       exact dP _
      ·have afL:s1.hp m=some ob:=by rw[h2]; exact hob
       rcases jc hi with ⟨_,e⟩|e
       ·cases e
        refine⟨_,afL,fun h=>h,rfl,rfl,?_,Bj R afL⟩
        rw[uz _ (dB hf)]; exact dS _
       ·cases e
      ·obtain⟨oi,hi⟩:=Option.isSome_iff_exists.1 hi
       obtain⟨oj,hj⟩:=Option.isSome_iff_exists.1 hj
       rcases jc hi with ⟨e1,_⟩|e1
       ·rcases jc hj with ⟨e2,_⟩|e2
        ·rw[e1,e2]
        ·cases e2
       ·cases e1
      ·exact JC (.inr rfl) (Bh Qw)
      ·rcases jc hi with ⟨e1,e⟩|e
       ·cases e; exact⟨.inr e1,T.aA (fun _ h=>h.elim) _ (dB hf)⟩
       ·cases e
   ·cases h
  ·generalize hset:settle (fun i=> !(xA i (jT x rs))) 8 vs x.hp=st at h
   obtain⟨vs',hp'⟩:=st
   simp only at h
   cases hb:T.bC vs' with
   |false=>rw[hb] at h; cases h
   |true =>
    rw[hb] at h; cases h
    have hft:=Zu hb
    refine⟨fun _=>FI vs',rfl,fun k=>T.bD (fun _ h=>h.elim) _ (dU hft),(fun ob e=>by cases e),fun _=>hft,fun _=>rfl,fun k s S=>?_⟩
    obtain⟨hc,hv⟩:=Eu S (p:=fun i=> !(xA i (jT x rs))) hvs (fun i hi=>by rw[Ew.2 hi]; rfl)
    obtain⟨s1,h1,h2,h3,h4⟩:=Bg 8 S.hp hc hv
    rw[hset] at h2 h4
    refine⟨s1,h1,fun F E a R=>⟨lU.all h3,fun _=>False,id,FI vs',no,⟨rfl,rfl⟩,?_,(fun i ob' hi=>by cases hi),(fun i j hi=>by cases hi),T.bD (fun _ h=>h.elim) _ (dU hft),tY _,fun i hi=>by cases hi⟩⟩
    rw[Et,h4,Tc _ (dU hft)]
    exact dP _
theorem Hu{K:Know}(KO:KOk P K){cf:CF}(C:Qp P cf){dr:Bool}{n:Nat}{f:FuncId}{ts:List T}{t:T}{o:Option Ob}(hts:T.bC ts=true)(h:WS K cf dr n f ts=some (t,o)) :
  ∃ tf,tf n=t/\qY P f ts tf o/\(o=none->t.free=true)/\(dr=true->o=none):=by
 unfold WS at h
 split at h
 ·rename_i r e
  obtain⟨t',o'⟩:=r
  cases hb:(dr&&o'.isSome) with
  |true=>rw[hb] at h; cases h
  |false =>
   rw[hb] at h; cases h
   obtain⟨tf,h1,h2,h3⟩:=KO.UN n f ts _ _ e
   refine⟨tf,h1,h2,h3,fun hd=>?_⟩
   rw[hd] at hb
   cases o with
   |none=>rfl
   |some ob=>cases hb
 ·split at h
  ·cases h
  ·rename_i b hb
   obtain⟨fn,c,g1,g2,g3,g4,g5,g6⟩:=KO.tab f b hb
   cases hl:Nat.ble ts.length b.nt with
   |false=>rw[hl] at h; cases h
   |true =>
    rw[hl] at h
    simp only[cond_true] at h
    have fin: ∀ {x:XS},(xr cf K.big b.code (zi b ts [] 0)= .go x\/xr cf K.big b.code (zi b ts [] 0)= .rt x)->Tv n dr b.rs x=some (t,o)-> ∃ tf,tf n=t/\qY P f ts tf o/\(o=none->t.free=true)/\(dr=true->o=none):=by
     intro x hx hf
     obtain⟨tf,a1,a2,a3,a4,a5,a6⟩:=abS (P:=P) hf
     refine⟨tf,a1,⟨hts,a2,fun ob e=>(a3 ob e).1,fun ob e=>(a3 ob e).2,fun k=>?_⟩,a4,a5⟩
     refine aN.Qs (nx:=0) g1 g2 g3 g4 g5 g6 ⟨_,_,rfl,rfl⟩ (T.aA (fun _ h=>h.elim) _ (dB hts)) (tY _) ?_
     have hS:=L9 (b:=b) (ts:=ts) (h:=[]) (n:=0) hl
     have hno:lk ([]:XH)=no:=rfl
     rw[hno] at hS
     refine ac4 (big:=K.big) C b.code hS ?_
     rcases hx with hx|hx<;>rw[hx]<;>exact fun s S=>a6 k s S
    split at h
    ·rename_i x e; exact fin (.inl e) h
    ·rename_i x e; exact fin (.inr e) h
    ·cases h
theorem Aj{p:Nat->Bool}: ∀ {h:XH},Jy p h=true-> ∀ {i:Nat} {o:Ob},lk h i=some o->p i=true->T.yu p o.l=true:=by
 intro h
 induction h with
 |nil=>intro _ i o e; cases e
 |cons q r ih =>
  obtain⟨j,u⟩:=q
  intro hh i o e hp
  simp only[Jy,Bool.and_eq_true] at hh
  rw[fC] at e
  by_cases hij:j=i
  ·rw[if_pos hij] at e; cases e; subst hij
   have:=hh.1; rw[hp] at this; exact this
  ·rw[if_neg hij] at e; exact ih hh.2 e hp
theorem Ak{h0:XH}{m n:Nat}(hm:lk h0 m=none)(_hn:lk h0 n=none): ∀ {h:XH} {i:Nat} {ob:Ob},lk (tJ h0 m n h) i=some ob ->
  (i=n/\ ∃ o,lk h m=some o/\ob=⟨o.ty,o.k,T.OH m n o.l⟩)\/((lk h0 i).isSome=true/\ ∃ o,lk h i=some o/\ob=⟨o.ty,o.k,T.OH m n o.l⟩):=by
 intro h
 induction h with
 |nil=>intro i ob e; cases e
 |cons q r ih =>
  obtain⟨j,u⟩:=q
  intro i ob e
  simp only[tJ] at e
  rw[wF] at e
  by_cases hjm:j=m
  ·rw[if_pos hjm,fC] at e
   by_cases hni:n=i
   ·rw[if_pos hni] at e; cases e
    exact .inl ⟨hni.symm,u,by rw[fC,if_pos hjm],rfl⟩
   ·rw[if_neg hni] at e
    rcases ih e with ⟨h1,_⟩|⟨h1,o,h2,h3⟩
    ·exact absurd h1.symm hni
    ·refine .inr ⟨h1,o,?_,h3⟩
     rw[fC,if_neg]; exact h2
     intro hji; rw[<- hji,hjm,hm] at h1; cases h1
  ·rw[if_neg hjm] at e
   cases hg:(lk h0 j).isSome with
   |true =>
    rw[hg] at e
    simp only[cond_true] at e
    rw[fC] at e
    by_cases hji:j=i
    ·rw[if_pos hji] at e; cases e; subst hji
     exact .inr ⟨hg,u,by rw[fC,if_pos rfl],rfl⟩
    ·rw[if_neg hji] at e
     rcases ih e with ⟨h1,o,h2,h3⟩|⟨h1,o,h2,h3⟩
     ·exact .inl ⟨h1,o,by rw[fC,if_neg hjm]; exact h2,h3⟩
     ·exact .inr ⟨h1,o,by rw[fC,if_neg hji]; exact h2,h3⟩
   |false =>
    rw[hg] at e
    simp only[cond_false] at e
    rcases ih e with ⟨h1,o,h2,h3⟩|⟨h1,o,h2,h3⟩
    ·exact .inl ⟨h1,o,by rw[fC,if_neg hjm]; exact h2,h3⟩
    ·refine .inr ⟨h1,o,?_,h3⟩
     rw[fC,if_neg]; exact h2
     intro hji; rw[hji] at hg; rw[hg] at h1; cases h1
theorem Ey{h0:XH}: ∀ {h:XH} {i:Nat} {ob:Ob},lk (uS h0 h) i=some ob->(lk h0 i).isSome=true/\lk h i=some ob:=by
 intro h
 induction h with
 |nil=>intro i ob e; cases e
 |cons q r ih =>
  obtain⟨j,u⟩:=q
  intro i ob e
  simp only[uS] at e
  cases hg:(lk h0 j).isSome with
  |true =>
   rw[hg] at e
   simp only[cond_true] at e
   rw[fC] at e
   rw[fC]
   by_cases hji:j=i
   ·rw[if_pos hji] at e ⊢; subst hji; exact⟨hg,e⟩
   ·rw[if_neg hji] at e ⊢; exact ih e
  |false =>
   rw[hg] at e
   simp only[cond_false] at e
   obtain⟨h1,h2⟩:=ih e
   refine⟨h1,?_⟩
   rw[fC,if_neg]; exact h2
   intro hji; rw[hji] at hg; rw[hg] at h1; cases h1
theorem UZ{pin m:Nat}: ∀ {l:List T},m∈WR pin l->pin<=m:=by
 intro l
 induction l with
 |nil=>intro h; cases h
 |cons t l ih =>
  intro h
  simp only[WR,List.mem_append] at h
  rcases h with h|h
  ·unfold Y9 at h
   split at h
   ·rename_i i
    cases hb:Nat.ble pin i with
    |false=>rw[hb] at h; cases h
    |true=>rw[hb] at h; simp only[cond_true,List.mem_singleton] at h; rw[h]; exact Nat.le_of_ble_eq_true hb
   ·cases h
  ·exact ih h
theorem Zv{pin m:Nat}: ∀ {h:XH},m∈Qo pin h->pin<=m:=by
 intro h
 induction h with
 |nil=>intro h; cases h
 |cons p r ih =>
  intro h
  obtain⟨i,o⟩:=p
  simp only[Qo] at h
  cases hb:Nat.blt i pin with
  |true =>
   rw[hb] at h
   rcases List.mem_append.1 h with h|h
   ·exact UZ h
   ·exact ih h
  |false=>rw[hb] at h; exact ih h
theorem Zw{n m:Nat}{vs:List T}{h:XH}(e:m∈Za n vs h):n<=m:=by
 unfold Za at e
 split at e
 ·exact Zv e
 ·exact UZ e
theorem abT{n:Nat}{h:XH}{rs:List RV}{x:XS}{t:T}{h':XH}(hlt:lT (· <n) (lk h))(e:Tz n h rs x=some (t,h')) :
  ∀ s,wz x s-> ∃ s1,Dw s1 s/\ ∀ (F:Fr P) (E:Env) (a:Act),Rel F (· <s1.nx) E s1 a->Ret (lk h) n (fun t1 h1=>t1=t/\h1=lk h') rs s1:=by
 have hnn:lk h n=none:=by
  cases e:lk h n with
  |none=>rfl
  |some ob=>exact absurd (hlt n ob e).1 (Nat.lt_irrefl _)
 intro s S
 unfold Tz at e
 split at e
 ·cases e
 ·rename_i vs hvs
  split at e
  ·rename_i m htop
   have hmn:n<=m:=Zw (vs:=vs) (h:=x.hp) (by rw[htop]; simp)
   have hm:lk h m=none:=by
    cases e:lk h m with
    |none=>rfl
    |some ob=>have:m<n:=(hlt m ob e).1; omega
   obtain⟨hc,hv⟩:=Eu S (p:=fun i=> !(Nat.beq i m)&&Nat.ble n i&& !(xA i (jT x rs))) hvs (fun i hi=>by rw[Ew.2 hi]; simp)
   obtain⟨s1,h1,h2,h3,h4⟩:=Bg 8 S.hp hc hv
   generalize settle (fun i=> !(Nat.beq i m)&&Nat.ble n i&& !(xA i (jT x rs))) 8 vs x.hp=st at e h2 h4
   obtain⟨vs',hp'⟩:=st
   simp only at e h2 h4
   cases hb:((lk hp' m).isSome&&T.yu (fun i=>(lk h i).isSome||Nat.beq i m) vs'&&Jy (fun i=>(lk h i).isSome||Nat.beq i m) hp') with
   |false=>rw[hb] at e; cases e
   |true =>
    rw[hb] at e; cases e
    simp only[Bool.and_eq_true] at hb
    obtain⟨⟨_,Qw⟩,hhn⟩:=hb
    have hρ: ∀ i,((lk h i).isSome||Nat.beq i m)=true->i≠m->(if i=n then m else i)=i:=by
     intro i hi hne
     rw[if_neg]
     rintro rfl
     rw[hnn] at hi
     exact hne (FK (by simpa using hi))
    have hM: ∀ i,((lk h i).isSome||Nat.beq i m)=true->i≠m->((lk h i).isSome=true\/i=n):=by
     intro i hi hne
     rw[Bool.or_eq_true] at hi
     exact .inl (hi.resolve_right fun q=>hne (FK q))
    refine⟨s1,h1,fun F E a R=>⟨lU.all h3,fun _=>False,fun i=>if i=n then m else i,T.rn m n (FI vs'),lk (tJ h m n hp'),⟨rfl,rfl⟩,?_,fun i ob hi=>?_,fun i j hi hj hij=>?_,?_,fun i ob hi=>?_,fun i hi _=>?_⟩⟩
    ·rw[Et,h4,NZ (p:=fun i=>(lk h i).isSome||Nat.beq i m) (ρ:=fun i=>if i=n then m else i) (if_pos rfl) hρ _ (Bh Qw)]
     exact dP _
    ·rcases Ak hm hnn hi with ⟨e1,o,e2,e3⟩|⟨e1,o,e2,e3⟩
     ·have ho:s1.hp m=some o:=by rw[h2]; exact e2
      have hno:=Aj hhn e2 (by simp)
      refine⟨o,by simp only[if_pos e1]; exact ho,fun h=>h,by rw[e3],by rw[e3],?_,?_⟩
      ·rw[e3]; show T.dM _ _ (T.dQ _ (T.OH m n o.l)) o.l
       rw[yw (p:=fun i=>(lk h i).isSome||Nat.beq i m) (ρ:=fun i=>if i=n then m else i) (if_pos rfl) hρ _ hno]; exact dS _
      ·rw[e3]; exact Qv (Bj R ho)
     ·have hin:i≠n:=by rintro rfl; rw[hnn] at e1; cases e1
      have ho:s1.hp i=some o:=by rw[h2]; exact e2
      have hno:=Aj hhn e2 (by simp[e1])
      refine⟨o,by simp only[if_neg hin]; exact ho,fun h=>h,by rw[e3],by rw[e3],?_,?_⟩
      ·rw[e3]; show T.dM _ _ (T.dQ _ (T.OH m n o.l)) o.l
       rw[yw (p:=fun i=>(lk h i).isSome||Nat.beq i m) (ρ:=fun i=>if i=n then m else i) (if_pos rfl) hρ _ hno]; exact dS _
      ·rw[e3]; exact Qv (Bj R ho)
    ·obtain⟨oi,hi⟩:=Option.isSome_iff_exists.1 hi
     obtain⟨oj,hj⟩:=Option.isSome_iff_exists.1 hj
     have cl: ∀ i ob,lk (tJ h m n hp') i=some ob->i=n\/(i≠n/\i≠m):=by
      intro i ob hi
      rcases Ak hm hnn hi with ⟨e1,_⟩|⟨e1,_⟩
      ·exact .inl e1
      ·exact .inr ⟨(by rintro rfl; rw[hnn] at e1; cases e1),(by rintro rfl; rw[hm] at e1; cases e1)⟩
     rcases cl i oi hi with e1|⟨e1,e1'⟩<;>rcases cl j oj hj with e2|⟨e2,e2'⟩
     ·rw[e1,e2]
     ·simp only[if_pos e1,if_neg e2] at hij; exact absurd hij.symm e2'
     ·simp only[if_neg e1,if_pos e2] at hij; exact absurd hij e1'
     ·simp only[if_neg e1,if_neg e2] at hij; exact hij
    ·exact N7 (.inr rfl) hM _ (Bh Qw)
    ·rcases Ak hm hnn hi with ⟨e1,o,e2,e3⟩|⟨e1,o,e2,e3⟩
     ·rw[e3]; exact⟨.inr e1,yx (.inr rfl) hM _ (Aj hhn e2 (by simp))⟩
     ·rw[e3]; exact⟨.inl e1,yx (.inr rfl) hM _ (Aj hhn e2 (by simp[e1]))⟩
    ·show(if i=n then m else i)=i
     rw[if_neg]; rintro rfl; rw[hnn] at hi; cases hi
  ·obtain⟨hc,hv⟩:=Eu S (p:=fun i=>Nat.ble n i&& !(xA i (jT x rs))) hvs (fun i hi=>by rw[Ew.2 hi]; simp)
   obtain⟨s1,h1,h2,h3,h4⟩:=Bg 8 S.hp hc hv
   generalize settle (fun i=>Nat.ble n i&& !(xA i (jT x rs))) 8 vs x.hp=st at e h2 h4
   obtain⟨vs',hp'⟩:=st
   simp only at e h2 h4
   cases hb:(T.yu (fun i=>(lk h i).isSome) vs'&&Jy (fun i=>(lk h i).isSome) hp') with
   |false=>rw[hb] at e; cases e
   |true =>
    rw[hb] at e; cases e
    simp only[Bool.and_eq_true] at hb
    obtain⟨Qw,hhn⟩:=hb
    refine⟨s1,h1,fun F E a R=>⟨lU.all h3,fun _=>False,id,FI vs',lk (uS h hp'),⟨rfl,rfl⟩,?_,fun i ob hi=>?_,fun i j _ _ hij=>hij,?_,fun i ob hi=>?_,fun i _ _=>rfl⟩⟩
    ·rw[Et,h4,UJ]; exact dP _
    ·obtain⟨e1,e2⟩:=Ey hi
     have ho:s1.hp i=some ob:=by rw[h2]; exact e2
     exact⟨ob,ho,fun h=>h,rfl,rfl,by rw[Ag]; exact dS _,Bj R ho⟩
    ·exact Qu (fun i hi=>.inl hi) _ (Bh Qw)
    ·obtain⟨e1,e2⟩:=Ey hi
     exact⟨.inl e1,yA (fun i hi=>.inl hi) _ (Aj hhn e2 e1)⟩
theorem abU{K:Know}(KO:KOk P K){cf:CF}(C:Qp P cf){n:Nat}{f:FuncId}{ts:List T}{h:XH}{t:T}{h':XH}(e:NW K cf n f ts h=some (t,h')) :
  aN P f ts (lk h) n (fun t1 h1=>t1=t/\h1=lk h'):=by
 unfold NW at e
 split at e
 ·rename_i r er
  cases e
  exact KO.Zb n f ts h _ _ er
 ·split at e
  ·cases e
  ·rename_i b hb
   obtain⟨fn,c,g1,g2,g3,g4,g5,g6⟩:=KO.tab f b hb
   cases hl:(T.JX n ts&&hLt n h&&Nat.ble ts.length b.nt) with
   |false=>rw[hl] at e; cases e
   |true =>
    rw[hl] at e
    simp only[cond_true] at e
    simp only[Bool.and_eq_true] at hl
    obtain⟨⟨l1,l2⟩,l3⟩:=hl
    have hlt:=abR l2
    have fin: ∀ {x:XS},(xr cf K.big b.code (zi b ts h n)= .go x\/xr cf K.big b.code (zi b ts h n)= .rt x)->Tz n h b.rs x=some (t,h')->aN P f ts (lk h) n (fun t1 h1=>t1=t/\h1=lk h'):=by
     intro x hx hf
     refine aN.Qs (nx:=n) g1 g2 g3 g4 g5 g6 ⟨_,_,rfl,rfl⟩ (yB _ l1) hlt ?_
     refine ac4 (big:=K.big) C b.code (L9 (b:=b) (ts:=ts) (h:=h) (n:=n) l3) ?_
     rcases hx with hx|hx<;>rw[hx]<;>exact fun s S=>abT hlt hf s S
    split at e
    ·rename_i x ex; exact fin (.inl ex) e
    ·rename_i x ex; exact fin (.inr ex) e
    ·cases e
mutual
theorem Zx{h:XH}:(t:T)->T.sub (fun _=>True) (lk h) (t.lend h) t
 | .lit v=>by simp[T.lend,T.sub]
 | .agg l=>by simp only[T.lend,T.sub]; exact Bl l
 | .sl k f l=>by simp[T.lend,T.sub]
 | .ref k t=>by simp[T.lend,T.sub]
 | .own i=>by
  simp only[T.lend]
  split
  ·rename_i ob e
   cases hb:(T.bC ob.l&& !(ob.k==dI)) with
   |false=>simp[T.sub]
   |true =>
    simp only[Bool.and_eq_true] at hb
    simp only[cond_true,T.sub]
    exact⟨trivial,trivial,hb.1,by simpa using hb.2,ob.ty,e⟩
  ·simp[T.sub]
 | .ptr i j o=>by simp[T.lend,T.sub]
 | .kR i a b=>by
  simp only[T.lend]
  split
  ·rename_i ob e
   cases hb:(T.bC ob.l&& !(ob.k==dI)&&Nat.ble b ob.l.length) with
   |false=>simp[T.sub]
   |true =>
    simp only[Bool.and_eq_true] at hb
    simp only[cond_true,T.sub]
    exact⟨trivial,trivial,L8 hb.1.1 a b,by simpa using hb.1.2,ob.ty,ob.l,e,Nat.le_of_ble_eq_true hb.2,rfl⟩
  ·simp[T.sub]
 | .fn f c=>by simp[T.lend,T.sub]
 | .fP l=>by simp only[T.lend,T.sub]; exact Bl l
 | .any=>by simp[T.lend,T.sub]
theorem Bl{h:XH}:(l:List T)->T.dM (fun _=>True) (lk h) (T.Ai h l) l
 |[]=>by simp[T.Ai,T.dM]
 |t::ts=>by simp only[T.Ai,T.dM]; exact⟨Zx t,Bl ts⟩
end
theorem N8(n:Nat)(h:XH)(o:Option Ob):lk (Zc n h o)=fO (lk h) n o:=by
 cases o with
 |none=>rfl
 |some ob=>exact zl h n ob
theorem ac7{K:Know}(KO:KOk P K): ∀ d,Qp P (xf K d):=by
 intro d
 induction d with
 |zero=>intro dr n f ts h t h' e; cases e
 |succ d C =>
  intro dr n f ts h t h' e
  simp only[xf] at e
  have yL: ∀ {t h'},(bif dr then none else NW K (xf K d) n f ts h)=some (t,h')->aN P f ts (lk h) n (fun t1 h1=>t1=t/\h1=lk h')/\(dr=true->lk h'=lk h/\t.free=true):=by
   intro t h' e
   cases dr with
   |true=>cases e
   |false=>exact⟨abU KO C e,fun hd=>by cases hd⟩
  cases hts:T.bC ts with
  |true =>
   rw[hts] at e
   simp only[cond_true] at e
   split at e
   ·rename_i t1 o er
    cases e
    obtain⟨tf,h1,h2,h3,h4⟩:=Hu KO C hts er
    refine⟨?_,fun hd=>?_,fun _=>⟨o,N8 _ _ _,by rw[<- h1]; exact h2.ids n,h2.ob,fun hp=>by have:=h2.frame hp n; rw[h1] at this; exact this⟩⟩
    ·have:=h2.frame (lk h) n
     rw[h1] at this
     rw[N8]; exact this
    ·have:=h4 hd; subst this; exact⟨rfl,h3 rfl⟩
   ·cases e
  |false =>
   rw[hts] at e
   simp only[cond_false] at e
   cases hw:K.wr f with
   |true=>rw[hw] at e; exact⟨(yL e).1,(yL e).2,fun q=>(by cases q)⟩
   |false =>
    rw[hw] at e
    simp only[cond_false] at e
    cases hl:T.bC (T.Ai h ts) with
    |false=>rw[hl] at e; exact⟨(yL e).1,(yL e).2,fun q=>(by cases q)⟩
    |true =>
     rw[hl] at e
     simp only[cond_true] at e
     split at e
     ·rename_i t1 o er
      obtain⟨tf,h1,h2,h3,h4⟩:=Hu KO C hl er
      cases hb:(t1.hard&&Zd o) with
      |false=>rw[hb] at e; exact⟨(yL e).1,(yL e).2,fun q=>(by cases q)⟩
      |true =>
       rw[hb] at e; cases e
       rw[Bool.and_eq_true] at hb
       refine⟨?_,fun hd=>?_,fun q=>(by cases q)⟩
       ·rw[N8]
        refine qY.lend h2 (h:=lk h) (n:=n) (Bl ts) (by rw[h1]; exact hb.1) (fun ob e=>by rw[e] at hb; exact hb.2) ?_
        exact⟨h1,rfl⟩
       ·have:=h4 hd; subst this; exact⟨rfl,h3 rfl⟩
     ·exact⟨(yL e).1,(yL e).2,fun q=>(by cases q)⟩
end
end Go.Ab
