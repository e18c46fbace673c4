/-
 The space of a property: fair's. No condition.
-/
import Derived.Test.YtajmbgljnaljiaaGreatDoorAe
namespace Go.Proofs.YtajmbgljnaljiaaGreatDoor
open Go.Ab Go.Proofs
set_option maxRecDepth 100000
theorem acS(c:Nat)(v:V): ∀ (cs:List V),V.aS (cs.set c v)=(V.aS cs).set c v.aI:=by
 induction c with
 |zero=>intro cs; cases cs<;>rfl
 |succ c ih =>
  intro cs
  cases cs with
  |nil=>rfl
  |cons x r=>show x.aI::V.aS (r.set c v)=x.aI::(V.aS r).set c v.aI; rw[ih r]
theorem Pg: ∀ (cs:List V),(V.aS cs).length=cs.length:=by
 intro cs
 induction cs with
 |nil=>rfl
 |cons x r ih=>show(V.aS r).length+1=r.length+1; rw[ih]
theorem aB.acT{P:Program}{N pn nx:Nat}{b:gJ}{Q:Qz}{m:Fm}{h:Hz}(j c ty k:Nat){k' oty:Nat}{cs:List V}(hj:h.get j=some (.box oty (cs.length+1) (.agg cs)))(hc:c<cs.length)(hg:(V.aS cs).getD c .any= .sl k' true [])(hk:y7 k=true)(hn:j<nx)
  (H:aB P N pn b Q m ((nx,some (.row ty k .nil []))::(j,some (.box oty (cs.length+1) (.agg (cs.set c (.own nx)))))::h) (nx+1)):aB P N pn b Q m h nx:=by
 refine⟨fun fr hl R=>?_⟩
 have H':=H.ok fr hl R
 have e:Hz.au ((nx,some (.row ty k .nil []))::(j,some (.box oty (cs.length+1) (.agg (cs.set c (.own nx)))))::h)=upd (upd h.au j (some ⟨oty,(V.aS cs).length+1,[.agg ((V.aS cs).set c (.own nx))]⟩)) nx (some ⟨ty,k,[]⟩):=by
  rw[bG,bG,Pg]
  show upd (upd h.au j (some ⟨oty,cs.length+1,[.agg (V.aS (cs.set c (.own nx)))]⟩)) nx (some ⟨ty,k,[]⟩)=_
  rw[acS]; rfl
 rw[e] at H'
 obtain⟨I,μ,⟨s0,w0,i0⟩,round⟩:=H'
 have hj':h.au j=some ⟨oty,(V.aS cs).length+1,[.agg (V.aS cs)]⟩:=by rw[Pg]; exact aO hj
 exact⟨I,μ,⟨s0,Wk.acU j c ty k hj' (by rw[Pg]; exact hc) hg hk hn w0,i0⟩,round⟩
abbrev yw:V:=.row 0 true .nil
abbrev zSp:V:=.agg [.str [],.int 0,yw,yw,yw,.int 0,yw,yw,yw,yw,yw,yw,yw]
abbrev spO(p:aC)(l:List Elem)(i j:Nat):V:=.agg [.str p.name,.int p.topology,.row 0 false (.strs p.states),.row 0 false (.strs p.messages),.row 0 false (.strs p.values),.int p.fault,.row 5 false (.yZ p.bQ),.row 0 false (.ints p.initial),.row 0 false (.ints p.leader),.row 19 false (.rules p.rules),.row 3 false (.elems l),.own i,.own j]
abbrev spC(p:aC)(l:List Elem)(u v:V):List V:=[.str p.name,.int p.topology,.row 0 false (.strs p.states),.row 0 false (.strs p.messages),.row 0 false (.strs p.values),.int p.fault,.row 5 false (.yZ p.bQ),.row 0 false (.ints p.initial),.row 0 false (.ints p.leader),.row 19 false (.rules p.rules),.row 3 false (.elems l),u,v]
abbrev aek(p:aC)(l:List Elem)(i j:Nat):OV:=.box 66 14 (spO p l i j)
abbrev BN(l:List (List Bool)):OV:=.row 69 0 (.iK l) []
abbrev Kq(l:List (List (List Int))):OV:=.row 36 0 (.jQ l) []
abbrev agD:OV:=.box 66 14 zSp
abbrev aaM(p:aC)(q:Prop')(l:List Elem)(a:Nat):List (Nat×OV):=[(0,OZ p),(1,pO q),(2,agD),(8,aek p l 20 21),(20,BN ((l.take a).map (zY p))),(21,Kq ((l.take a).map (xQ l p)))]
def onM(p:aC)(x:Elem)(i:Nat):List Bool:=(List.range i).map (fun j=>(eP (p.rules.getD j default) x).isSome)++List.replicate (p.rules.length-i) false
theorem Rx{p:aC}{x:Elem}:onM p x 0=List.replicate p.rules.length false:=by simp[onM]
theorem WG{p:aC}{x:Elem}{i:Nat}(h:i<=p.rules.length):(onM p x i).length=p.rules.length:=by simp[onM]; omega
theorem WH{p:aC}{x:Elem}{i:Nat}(h:i<p.rules.length):(onM p x i).set i ((eP (p.rules.getD i default) x).isSome)=onM p x (i+1):=by
 unfold onM
 rw[List.set_append_right _ _ (by simp)]
 simp only[List.length_map,List.length_range,Nat.sub_self]
 rw[show p.rules.length-i=(p.rules.length-(i+1))+1 by omega,List.replicate_succ,List.set_cons_zero,List.range_succ,List.map_append,List.append_assoc]; rfl
theorem WI{α β:Type}(f:α->β)(d:α)(l:List α):(List.range l.length).map (fun j=>f (l.getD j d))=l.map f:=by
 apply List.ext_getElem
 ·simp
 ·intro i h1 h2
  have hi:i<l.length:=by simpa using h2
  simp[hi]
theorem WJ{p:aC}{x:Elem}:onM p x p.rules.length=zY p x:=by
 unfold onM zY
 rw[Nat.sub_self,List.replicate_zero,List.append_nil]
 exact WI (fun r=>(eP r x).isSome) default p.rules
def sU(l:List Elem)(p:aC)(x:Elem)(i:Nat):List V:=(List.range i).map (fun j=>V.row 0 false (.ints (DW l (p.rules.getD j default) x)))++List.replicate (p.rules.length-i) (vw .nil)
theorem WL{l:List Elem}{p:aC}{x:Elem}{i:Nat}(h:i<=p.rules.length):(sU l p x i).length=p.rules.length:=by simp[sU]; omega
theorem Ry{l:List Elem}{p:aC}{x:Elem}:sU l p x 0=List.replicate p.rules.length (vw .nil):=by simp[sU]
theorem aaN{l:List Elem}{p:aC}{x:Elem}{i:Nat}(h:i<p.rules.length):(sU l p x i)[i]? =some (vw .nil):=by
 unfold sU
 rw[List.getElem?_append_right (by simp)]
 simp only[List.length_map,List.length_range,Nat.sub_self]
 rw[show p.rules.length-i=(p.rules.length-(i+1))+1 by omega,List.replicate_succ]; rfl
theorem Dq{l:List Elem}{p:aC}{x:Elem}{i:Nat}{v:V}(h:v∈sU l p x i):(∃ c,v= .row 0 false (.ints c))\/v=vw .nil:=by
 unfold sU at h
 rcases List.mem_append.1 h with h|h
 ·obtain⟨j,_,rfl⟩:=List.mem_map.1 h
  exact .inl ⟨_,rfl⟩
 ·exact .inr (List.eq_of_mem_replicate h)
theorem pV{l:List Elem}{p:aC}{x:Elem}{i:Nat}:(OV.gen 24 0 (sU l p x i)).good 30=true:=by
 refine FC (fun v hv=>?_) fun v hv=>?_<;>rcases Dq hv with ⟨c,rfl⟩|rfl<;>rfl
theorem vT{l:List Elem}{p:aC}{x:Elem}{i:Nat}:(OV.gen 24 0 ((sU l p x i).set i (.own 25))).good 30=true:=by
 refine FC (fun v hv=>?_) fun v hv=>?_<;>rcases List.mem_or_eq_of_mem_set hv with hv|rfl
 ·rcases Dq hv with ⟨c,rfl⟩|rfl<;>rfl
 ·rfl
 ·rcases Dq hv with ⟨c,rfl⟩|rfl<;>rfl
 ·rfl
theorem Aa{l:List Elem}{p:aC}{x:Elem}{i:Nat}{ρ:Nat->Nat}:bD (T.bU ρ (OV.gen 24 0 (sU l p x i)).ay.l) (OV.gen 24 0 (sU l p x i)).ay.l:=by
 refine bD.of_eq ?_
 show T.bU _ (V.aS (sU l p x i))=V.aS (sU l p x i)
 rw[pR,bJ,List.map_map]
 refine List.map_congr_left fun v hv=>?_
 rcases Dq hv with ⟨c,rfl⟩|rfl<;>rfl
theorem BO{l:List Elem}{p:aC}{x:Elem}{i N:Nat}{ρ:Nat->Nat}(h:ρ 25=N):bD (T.bU ρ (OV.gen 24 0 ((sU l p x i).set i (.own 25))).ay.l) (OV.gen 24 0 ((sU l p x i).set i (.own N))).ay.l:=by
 refine bD.of_eq ?_
 show T.bU _ (V.aS ((sU l p x i).set i (.own 25)))=V.aS ((sU l p x i).set i (.own N))
 rw[pR,bJ,bJ,List.map_map,List.map_set,List.map_set]
 have e:(sU l p x i).map (T.ren ρ ∘ V.aI)=(sU l p x i).map V.aI:=List.map_congr_left fun v hv=>by
  rcases Dq hv with ⟨c,rfl⟩|rfl<;>rfl
 rw[e,<- h]; rfl
theorem WM{l:List Elem}{p:aC}{x:Elem}{i:Nat}{ρ:Nat->Nat}(h:i<p.rules.length)(he:DW l (p.rules.getD i default) x=[]):bD (T.bU ρ (OV.gen 24 0 (sU l p x (i+1))).ay.l) (OV.gen 24 0 (sU l p x i)).ay.l:=by
 intro Z hh
 have hr:=(Aa (l:=l) (p:=p) (x:=x) (i:=i+1) (ρ:=ρ))
 have e:T.bU ρ (V.aS (sU l p x (i+1)))=V.aS (sU l p x (i+1)):=by
  rw[pR,bJ,List.map_map]
  refine List.map_congr_left fun v hv=>?_
  rcases Dq hv with ⟨c,rfl⟩|rfl<;>rfl
 show T.dP Z hh (T.bU ρ (V.aS (sU l p x (i+1)))) (V.aS (sU l p x i))
 rw[e]
 unfold sU
 rw[List.range_succ,List.map_append,List.append_assoc,bJ,bJ,List.map_append,List.map_append (l₁:=List.map _ (List.range i))]
 refine nZ (aP _) ?_
 rw[show p.rules.length-i=(p.rules.length-(i+1))+1 by omega,List.replicate_succ]
 simp only[List.map_cons,List.map_nil,List.cons_append,List.nil_append,he]
 exact⟨by show T.sub Z hh (.sl 0 false []) (.sl 0 true []); simp[T.sub],aP _⟩
theorem WO{l:List Elem}{p:aC}{x:Elem}{i:Nat}{Z:Nat->Prop}{h:Hz}(hi:i<p.rules.length)(hz:Z 25)(hg:h.get 25=some (mg (DW l (p.rules.getD i default) x))) :
  T.dP Z h.au (V.aS (sU l p x (i+1))) (V.aS ((sU l p x i).set i (.own 25)))/\(V.aS (sU l p x (i+1))).map T.kd=(V.aS ((sU l p x i).set i (.own 25))).map T.kd/\(V.aS (sU l p x (i+1))).map fV=(V.aS ((sU l p x i).set i (.own 25))).map fV:=by
 have e:(sU l p x i).set i (.own 25)=(List.range i).map (fun j=>V.row 0 false (.ints (DW l (p.rules.getD j default) x)))++ .own 25::List.replicate (p.rules.length-(i+1)) (vw .nil):=by
  unfold sU
  rw[List.set_append_right _ _ (by simp)]
  simp only[List.length_map,List.length_range,Nat.sub_self]
  rw[show p.rules.length-i=(p.rules.length-(i+1))+1 by omega,List.replicate_succ,List.set_cons_zero]
 have e2:sU l p x (i+1)=(List.range i).map (fun j=>V.row 0 false (.ints (DW l (p.rules.getD j default) x)))++V.row 0 false (.ints (DW l (p.rules.getD i default) x))::List.replicate (p.rules.length-(i+1)) (vw .nil):=by
  unfold sU
  rw[List.range_succ,List.map_append,List.append_assoc]; rfl
 rw[e,e2,bJ,bJ,List.map_append,List.map_append,List.map_cons,List.map_cons]
 refine⟨nZ (aP _) ⟨D5 hz hg,aP _⟩,?_,?_⟩
 ·rw[List.map_append,List.map_append,List.map_cons,List.map_cons]; rfl
 ·rw[List.map_append,List.map_append,List.map_cons,List.map_cons]; rfl
theorem WQ{l:List Elem}{p:aC}{x:Elem}:V.aS (sU l p x p.rules.length)=(xQ l p x).map Go.Ab.ints:=by
 unfold sU xQ
 rw[Nat.sub_self,List.replicate_zero,List.append_nil,bJ,List.map_map,List.map_map]
 rw[<- WI (fun r=>(Go.Ab.ints ∘ fun r=>DW l r x) r) default p.rules]
 rfl
theorem Rz{l:List Elem}{p:aC}{x:Elem}{i N:Nat}{ρ:Nat->Nat}(h:ρ 25=N):bD (T.bU ρ (OV.gen 24 0 ((sU l p x i).set i (.own 25))).ay.l) (OV.gen 24 0 (((sU l p x i).set i (.own 25)).set i (.own N))).ay.l:=by
 rw[List.set_set]; exact BO h
theorem RD(l:List (List Bool)):T.dK (l.map zZ)=true:=by
 rw[dR]; intro t ht; obtain⟨x,_,rfl⟩:=List.mem_map.1 ht; rfl
theorem RF(l:List (List (List Int))):T.dK (l.map Ew)=true:=by
 rw[dR]; intro t ht; obtain⟨x,_,rfl⟩:=List.mem_map.1 ht; rfl
theorem aaO{h:Hz}{j:Nat}{Z:Nat->Prop}{l:List (List Bool)}(hz:Z j)(q:h.get j=some (BN l)):T.sub Z h.au (V.row 0 false (.iK l)).aI (V.own j).aI:=by
 show T.sub Z h.au (.sl 0 false (l.map zZ)) (.own j)
 simp only[T.sub]
 exact⟨trivial,hz,RD l,by decide,69,by rw[aO q]; simp[OV.ay,Rw.aS,V.aS]⟩
theorem aaP{h:Hz}{j:Nat}{Z:Nat->Prop}{l:List (List (List Int))}(hz:Z j)(q:h.get j=some (Kq l)):T.sub Z h.au (V.row 0 false (.jQ l)).aI (V.own j).aI:=by
 show T.sub Z h.au (.sl 0 false (l.map Ew)) (.own j)
 simp only[T.sub]
 exact⟨trivial,hz,RF l,by decide,36,by rw[aO q]; simp[OV.ay,Rw.aS,V.aS]⟩
theorem Nz{Z:Nat->Prop}{h:Hz}{i j:Nat}{l:List (List Bool)}{c:List Bool}(q:h.get i=some (.row 69 0 (.iK l) [.own j]))(hi: ¬ Z i)(hz:Z j)(qj:h.get j=some (rowB c)) :
  ∃ o',h.get i=some o'/\ ¬ Z i/\o'.ay.ty=(BN (l++[c])).ay.ty/\o'.ay.k=(BN (l++[c])).ay.k/\T.dP Z h.au (BN (l++[c])).ay.l o'.ay.l/\(BN (l++[c])).ay.l.map T.kd=o'.ay.l.map T.kd/\(BN (l++[c])).ay.l.map fV=o'.ay.l.map fV:=by
 have e1:(BN (l++[c])).ay.l=l.map zZ++[zZ c]:=by simp[OV.ay,Rw.aS,V.aS]
 refine⟨_,q,hi,rfl,rfl,?_,?_,?_⟩
 ·rw[e1]
  exact nZ (aP _) ⟨aei hz qj,trivial⟩
 ·rw[e1]; show _=List.map T.kd (l.map zZ++[.own j])
  rw[List.map_append,List.map_append]; rfl
 ·rw[e1]; show _=List.map fV (l.map zZ++[.own j])
  rw[List.map_append,List.map_append]; rfl
theorem NC{Z:Nat->Prop}{h:Hz}{i j:Nat}{l:List (List (List Int))}{c:List (List Int)}{o:OV}(q:h.get i=some (.row 36 0 (.jQ l) [.own j]))(hi: ¬ Z i)(hz:Z j)(qj:h.get j=some o)(qo:o.ay=⟨24,0,c.map Go.Ab.ints⟩) :
  ∃ o',h.get i=some o'/\ ¬ Z i/\o'.ay.ty=(Kq (l++[c])).ay.ty/\o'.ay.k=(Kq (l++[c])).ay.k/\T.dP Z h.au (Kq (l++[c])).ay.l o'.ay.l/\(Kq (l++[c])).ay.l.map T.kd=o'.ay.l.map T.kd/\(Kq (l++[c])).ay.l.map fV=o'.ay.l.map fV:=by
 have e1:(Kq (l++[c])).ay.l=l.map Ew++[Ew c]:=by simp[OV.ay,Rw.aS,V.aS]
 refine⟨_,q,hi,rfl,rfl,?_,?_,?_⟩
 ·rw[e1]
  refine nZ (aP _) ⟨?_,trivial⟩
  show T.sub Z h.au (.sl 0 false (c.map Go.Ab.ints)) (.own j)
  simp only[T.sub]
  exact⟨trivial,hz,MW c,by decide,24,by rw[aO qj,qo]⟩
 ·rw[e1]; show _=List.map T.kd (l.map Ew++[.own j])
  rw[List.map_append,List.map_append]; rfl
 ·rw[e1]; show _=List.map fV (l.map Ew++[.own j])
  rw[List.map_append,List.map_append]; rfl
theorem Dt{α β:Type}{f:α->β}{l:List α}{a:Nat}{d:α}(h:a<l.length):(l.take (a+1)).map f=(l.take a).map f++[f (l.getD a d)]:=by
 rw[List.take_add_one,List.getElem?_eq_getElem h,getD_some h,List.map_append]; rfl
abbrev aaQ(p:aC)(q:Prop')(l:List Elem)(a i:Nat):List (Nat×OV):=aaM p q l a++[(22,.box 54 3 (.dat (.elem (l.getD a default)))),(23,rowB (onM p (l.getD a default) i))]
abbrev Yq(p:aC)(q:Prop')(l:List Elem)(a i:Nat):List (Nat×OV):=aaQ p q l a i++[(24,.gen 24 0 (sU l p (l.getD a default) i))]
def IZ(p:aC)(q:Prop')(l:List Elem)(a i j:Nat):List Int->List (Nat×OV)
 |[]=>aaQ p q l a i++[(24,.gen 24 0 (sU l p (l.getD a default) j))]
 |x::r=>aaQ p q l a i++[(24,.gen 24 0 ((sU l p (l.getD a default) j).set j (.own 25))),(25,mg (x::r))]
set_option maxHeartbeats 2000000 in
theorem S.lW(p:aC)(q:Prop')(hp:dJ p)(hq:gG q)(hv:uU p q=0):aj Tryz.prog 34 [.dat (.gW p),.dat (.prop q)] (spV p (bV p q) ((bV p q).map (zY p)) ((bV p q).map (xQ (bV p q) p))):=by
 have hc:=zV hv
 have hrc:=UN p q
 rw[Jc hv] at hrc
 obtain⟨hl,hS⟩:=hrc
 have hss:SS (bV p q):=uD _
 have hk:=(lT (iP (nV hc)).1).O5
 generalize hgl:bV p q=l at hl hS hss
 have hsm:eF l:=fun x hx=>by have:=(hS x hx).abs.len; omega
 refine aj.of Bd.lW (by simp) rfl rfl ?_
 conv=>whnf
 refine Ij.pure (S.wI p q hp hq hv) rfl ?_
 rw[hgl]
 conv=>whnf
 refine aB.acT 8 11 69 0 (cs:=spC p l yw yw) rfl (by show 11<13; decide) rfl rfl (by decide) ?_
 refine aB.acT 8 12 36 0 (cs:=spC p l (.own 14) yw) rfl (by show 12<13; decide) rfl rfl (by decide) ?_
 refine aB.fam 30 [2,4,5,22,23] (fun a:Nat=>[(24,.int a)]) (fun a=>mY (aaM p q l a)) (fun a=>a<=l.length) (fun a=>l.length-a) 0 (dW (aaM p q l 0) [0,1,2,8,14,15]) _ rfl (by decide) (fun _=>rfl) (Nat.zero_le _) (sR rfl) (.inl rfl) ?_ ?_
 ·exact gy.lits (aaM p q l 0) [0,1,2,8,14,15] ⟨aT rfl rfl,aT rfl rfl,aT rfl rfl,kW rfl rfl rfl ⟨rfl,rfl⟩ (bD.of_eq rfl),aT rfl rfl,aT rfl rfl,trivial⟩
 conv=>whnf
 refine⟨(sR rfl),rfl,?_⟩
 rintro a ha
 conv=>whnf
 refine⟨fun h1=>?_,fun h1=>?_⟩
 ·have ha':a<l.length:=by simpa using h1
  have hX:=hS _ (dF (d:=default) ha')
  have hx6:=hX.abs.len
  obtain⟨r0,hr0,hr1⟩:=Dp p.rules.length
  conv=>whnf
  refine .mk (by simp only[Rw.rng] at *; first|omega|(simp_all; done)|(simp_all; omega)) ?_
  conv=>whnf
  rw[hr0]
  conv=>whnf
  refine .mk (by omega) ?_
  conv=>whnf
  have hz:((bif isZero (V.int p.rules.length) then some Rw.nil else LY (p.rules.length:Int).toNat T.nil)=some Rw.nil/\p.rules.length=0)\/(bif isZero (V.int p.rules.length) then some Rw.nil else LY (p.rules.length:Int).toNat T.nil)=none:=by
   rcases Nat.eq_zero_or_pos p.rules.length with h0|h0
   ·exact .inl ⟨by rw[h0]; rfl,h0⟩
   ·exact .inr (yK h0)
  rcases hz with ⟨hz,hk0⟩|hz
  all_goals
   rw[hz]
   conv=>whnf
   repeat(refine VC.mk (by omega) ?_; conv=>whnf)
   refine aB.fam 30 [2,4,5,22,23,24,37,38] (fun i:Nat=>[(39,.int i),(7,.ptr 22 0 0),(8,.own 23),(9,.own 24)]) (fun i=>mY (Yq p q l a i)) (fun i=>i<=p.rules.length) (fun i=>p.rules.length-i) 0 (dW (Yq p q l a 0) [0,1,2,8,20,21,33,38,43]) _ rfl (by decide) (fun _=>rfl) (Nat.zero_le _) (sR rfl) (.inl rfl) ?_ ?_
   ·refine gy.lits (Yq p q l a 0) [0,1,2,8,20,21,33,38,43] ⟨aT rfl rfl,aT rfl rfl,aT rfl rfl,kW rfl rfl rfl ⟨rfl,rfl⟩ (bD.of_eq rfl),aT rfl rfl,aT rfl rfl,aT rfl rfl,okF rfl nofun rfl rfl rfl ⟨rfl,rfl⟩ ?_,kW rfl pV rfl ⟨rfl,rfl⟩ (bD.of_eq ?_),trivial⟩
    ·rw[Rx]
     simp[OV.ay,hr1]
    ·show T.bU _ (V.aS (sU l p (l.getD a default) 0))=_
     rw[Ry]
     first|(rw[hk0]; rfl)|(show _=V.aS (List.replicate p.rules.length (vw .nil)); rw[pR,bJ,List.map_map,List.map_replicate,List.map_replicate]; rfl)
   conv=>whnf
   refine⟨(sR rfl),rfl,?_⟩
   rintro i hi
   have hon:=WG (p:=p) (x:=l.getD a default) hi
   have ae2:=WL (l:=l) (p:=p) (x:=l.getD a default) hi
   conv=>whnf
   refine⟨fun h2=>?_,fun h2=>?_⟩
   ·have hi':i<p.rules.length:=by simpa using h2
    have hpl:sZ (l.getD a default).counts.length (p.rules.getD i default):=by rw[hX.len]; exact(wtR hc hi').place
    have aaR:=WH (x:=l.getD a default) hi'
    conv=>whnf
    repeat(refine VC.mk (by first|(omega)|(simp only[Rw.rng] at *; first|omega|(simp_all; done)|(simp_all; omega))) ?_; conv=>whnf)
    refine ah.pure (aj.JK (S.vM (p.rules.getD i default) (l.getD a default) (hp.rule i) hpl hX.abs.ok hX.abs.len)) rfl ?_
    conv=>whnf
    repeat(refine VC.mk (by first|(simp only[Rw.rng]; omega)|(simp only[Rw.rng,Int.toNat_natCast]; omega)) ?_; conv=>whnf)
    refine ah.pure (S.tq (p.rules.getD i default) (l.getD a default) (hp.rule i) hpl hX.abs.ok hX.abs.pos hX.abs.len) rfl ?_
    have hpo:=yT (r:=p.rules.getD i default) hX.abs
    have hpc: ∀ y∈gI (p.rules.getD i default) (l.getD a default),y.counts.length<2^40:=fun y hy=>by rw[He hy]; omega
    generalize hL:gI (p.rules.getD i default) (l.getD a default)=L at hpo hpc
    have hsu:DW l (p.rules.getD i default) (l.getD a default)=xK l L:=by unfold DW; rw[hL]
    conv=>whnf
    refine aB.fam 30 [2,4,5,7,8,9,10,22,23,24,37,38,39,55,56] (fun c:Nat=>[(57,.int c)]) (fun c=>mY (IZ p q l a (i+1) i (xK l (L.take c)))) (fun c=>c<=L.length) (fun c=>L.length-c) 0 (dW (IZ p q l a (i+1) i []) [0,1,2,8,20,21,22,23,24]) _ rfl (by decide) (fun _=>rfl) (Nat.zero_le _) (sR rfl) (.inl rfl) ?_ ?_
    ·refine gy.lits (IZ p q l a (i+1) i []) [0,1,2,8,20,21,22,23,24] ⟨aT rfl rfl,aT rfl rfl,aT rfl rfl,kW rfl rfl rfl ⟨rfl,rfl⟩ (bD.of_eq rfl),aT rfl rfl,aT rfl rfl,aT rfl rfl,okF rfl nofun rfl rfl rfl ⟨rfl,rfl⟩ ?_,kW rfl pV rfl ⟨rfl,rfl⟩ Aa,trivial⟩
     rw[<- aaR]; rfl
    conv=>whnf
    refine⟨(sR rfl),rfl,?_⟩
    rintro c hcl
    have hal:=J7 l (L.take c)
    rw[List.length_take] at hal
    have hstep:c<L.length->xK l (L.take (c+1))=if A8 l (L.getD c default) (kY l (L.getD c default))=true then xK l (L.take c)++[(kY l (L.getD c default):Int)] else xK l (L.take c):=Nw
    have hend:L.length<=c->DW l (p.rules.getD i default) (l.getD a default)=xK l (L.take c):=fun q=>by rw[hsu,List.take_of_length_le q]
    generalize xK l (L.take c)=acc at hal hstep hend
    cases acc with
    |nil =>
     conv=>whnf
     refine⟨fun h3=>?_,fun h3=>?_⟩
     ·have hc':c<L.length:=by simpa using h3
      replace hstep:=hstep hc'
      conv=>whnf
      repeat(refine VC.mk (by first|(omega)|(simp only[Rw.rng] at *; first|omega|(simp_all; done)|(simp_all; omega))) ?_; conv=>whnf)
      refine ah.pure (S.BinarySearch l (L.getD c default) (kY l (L.getD c default)) false (by omega) hsm (hpc _ (dF hc')) (WB _ _) (Je hss)) rfl ?_
      conv=>whnf
      refine⟨fun h4=>?_,fun h4=>?_⟩
      ·rw[if_pos (show A8 l (L.getD c default) (kY l (L.getD c default))=true from h4),List.nil_append] at hstep
       conv=>whnf
       repeat(refine VC.mk (by omega) ?_; conv=>whnf)
       refine⟨_,aaN hi',?_⟩
       conv=>whnf
       repeat(refine VC.mk (by first|(show(0+(0+1))*8<=140737488355328/\0+(0+1)<=1152921504606846976; omega)|(omega)|(simp only[okI] at *; first|omega|(simp_all; done)|(simp_all; omega))) ?_; conv=>whnf)
       exact gV.lits (c+1) (IZ p q l a (i+1) i [(kY l (L.getD c default):Int)]) [0,1,2,8,20,21,22,23,24,53] _ (.inl rfl) (congrArg (fun z=>mY (IZ p q l a (i+1) i z)) hstep) hc' (by omega) (sR rfl) (sR rfl) ⟨aT rfl rfl,aT rfl rfl,aT rfl rfl,kW rfl rfl rfl ⟨rfl,rfl⟩ (bD.of_eq rfl),aT rfl rfl,aT rfl rfl,aT rfl rfl,aT rfl rfl,kW rfl vT rfl ⟨rfl,rfl⟩ (BO rfl),aT rfl rfl,trivial⟩
      ·rw[if_neg (by rw[show A8 l (L.getD c default) (kY l (L.getD c default))=false from h4]; decide)] at hstep
       conv=>whnf
       repeat(refine VC.mk (by first|(omega)|(simp only[okI] at *; first|omega|(simp_all; done)|(simp_all; omega))) ?_; conv=>whnf)
       exact gV.lits (c+1) (IZ p q l a (i+1) i []) [0,1,2,8,20,21,22,23,24] _ (.inl rfl) (congrArg (fun z=>mY (IZ p q l a (i+1) i z)) hstep) hc' (by omega) (sR rfl) (sR rfl) ⟨aT rfl rfl,aT rfl rfl,aT rfl rfl,kW rfl rfl rfl ⟨rfl,rfl⟩ (bD.of_eq rfl),aT rfl rfl,aT rfl rfl,aT rfl rfl,aT rfl rfl,kW rfl pV rfl ⟨rfl,rfl⟩ Aa,trivial⟩
     ·have hs0:=hend (by simpa using h3)
      conv=>whnf
      repeat(refine VC.mk (by first|(omega)|(simp only[okI] at *; first|omega|(simp_all; done)|(simp_all; omega))) ?_; conv=>whnf)
      exact gV.lits (i+1) (Yq p q l a (i+1)) [0,1,2,8,20,21,22,23,24] _ (.inl rfl) rfl hi' (by omega) (sR rfl) (sR rfl) ⟨aT rfl rfl,aT rfl rfl,aT rfl rfl,kW rfl rfl rfl ⟨rfl,rfl⟩ (bD.of_eq rfl),aT rfl rfl,aT rfl rfl,aT rfl rfl,aT rfl rfl,kW rfl pV rfl ⟨rfl,rfl⟩ (WM hi' hs0),trivial⟩
    |cons y r =>
     have ahM:((sU l p (l.getD a default) i).set i (.own 25)).length=p.rules.length:=by rw[List.length_set,ae2]
     conv=>whnf
     refine⟨fun h3=>?_,fun h3=>?_⟩
     ·have hc':c<L.length:=by simpa using h3
      replace hstep:=hstep hc'
      conv=>whnf
      repeat(refine VC.mk (by first|(omega)|(simp only[Rw.rng] at *; first|omega|(simp_all; done)|(simp_all; omega))) ?_; conv=>whnf)
      refine ah.pure (S.BinarySearch l (L.getD c default) (kY l (L.getD c default)) false (by omega) hsm (hpc _ (dF hc')) (WB _ _) (Je hss)) rfl ?_
      conv=>whnf
      refine⟨fun h4=>?_,fun h4=>?_⟩
      ·rw[if_pos (show A8 l (L.getD c default) (kY l (L.getD c default))=true from h4)] at hstep
       conv=>whnf
       repeat(refine VC.mk (by omega) ?_; conv=>whnf)
       refine⟨.own 25,List.getElem?_set_self (by show i<_; omega),?_⟩
       conv=>whnf
       repeat(refine VC.mk (by first|(show((y::r).length+(0+1))*8<=140737488355328/\(y::r).length+(0+1)<=1152921504606846976; omega)|(omega)|(simp only[okI] at *; first|omega|(simp_all; done)|(simp_all; omega))) ?_; conv=>whnf)
       exact gV.lits (c+1) (IZ p q l a (i+1) i (y::(r++[(kY l (L.getD c default):Int)]))) [0,1,2,8,20,21,22,23,24,53] _ (.inl rfl) (congrArg (fun z=>mY (IZ p q l a (i+1) i z)) hstep) hc' (by omega) (sR rfl) (sR rfl) ⟨aT rfl rfl,aT rfl rfl,aT rfl rfl,kW rfl rfl rfl ⟨rfl,rfl⟩ (bD.of_eq rfl),aT rfl rfl,aT rfl rfl,aT rfl rfl,aT rfl rfl,kW rfl vT rfl ⟨rfl,rfl⟩ (Rz rfl),aT rfl rfl,trivial⟩
      ·rw[if_neg (by rw[show A8 l (L.getD c default) (kY l (L.getD c default))=false from h4]; decide)] at hstep
       conv=>whnf
       repeat(refine VC.mk (by first|(omega)|(simp only[okI] at *; first|omega|(simp_all; done)|(simp_all; omega))) ?_; conv=>whnf)
       exact gV.lits (c+1) (IZ p q l a (i+1) i (y::r)) [0,1,2,8,20,21,22,23,24,25] _ (.inl rfl) (congrArg (fun z=>mY (IZ p q l a (i+1) i z)) hstep) hc' (by omega) (sR rfl) (sR rfl) ⟨aT rfl rfl,aT rfl rfl,aT rfl rfl,kW rfl rfl rfl ⟨rfl,rfl⟩ (bD.of_eq rfl),aT rfl rfl,aT rfl rfl,aT rfl rfl,aT rfl rfl,kW rfl vT rfl ⟨rfl,rfl⟩ (BO rfl),aT rfl rfl,trivial⟩
     ·have hs0:=hend (by simpa using h3)
      conv=>whnf
      repeat(refine VC.mk (by first|(omega)|(simp only[okI] at *; first|omega|(simp_all; done)|(simp_all; omega))) ?_; conv=>whnf)
      refine gV.lits (i+1) (Yq p q l a (i+1)) [0,1,2,8,20,21,22,23,24] (mY (Yq p q l a (i+1))) (.inr ⟨fun z=>z=25,?_⟩) rfl hi' (by omega) (sR rfl) (sR rfl) ⟨aT rfl rfl,aT rfl rfl,aT rfl rfl,kW rfl rfl rfl ⟨rfl,rfl⟩ (bD.of_eq rfl),aT rfl rfl,aT rfl rfl,aT rfl rfl,aT rfl rfl,kW rfl pV rfl ⟨rfl,rfl⟩ Aa,trivial⟩
      have hfz:=WO (l:=l) (p:=p) (x:=l.getD a default) (i:=i) (Z:=fun z=>z=25) (h:=mY (IZ p q l a (i+1) i (y::r))) hi' rfl (by rw[hs0]; rfl)
      exact⟨⟨_,rfl,Nat.ne_of_beq_eq_false rfl,rfl,rfl,aP _,rfl,rfl⟩,⟨_,rfl,Nat.ne_of_beq_eq_false rfl,rfl,rfl,aP _,rfl,rfl⟩,⟨_,rfl,Nat.ne_of_beq_eq_false rfl,rfl,rfl,aP _,rfl,rfl⟩,⟨_,rfl,Nat.ne_of_beq_eq_false rfl,rfl,rfl,aP _,rfl,rfl⟩,⟨_,rfl,Nat.ne_of_beq_eq_false rfl,rfl,rfl,aP _,rfl,rfl⟩,⟨_,rfl,Nat.ne_of_beq_eq_false rfl,rfl,rfl,aP _,rfl,rfl⟩,⟨_,rfl,Nat.ne_of_beq_eq_false rfl,rfl,rfl,aP _,rfl,rfl⟩,⟨_,rfl,Nat.ne_of_beq_eq_false rfl,rfl,rfl,aP _,rfl,rfl⟩,⟨_,rfl,Nat.ne_of_beq_eq_false rfl,rfl,rfl,hfz.1,hfz.2.1,hfz.2.2⟩,trivial⟩
   ·have hi':i=p.rules.length:=by
     have: ¬ i<p.rules.length:=by simpa using h2
     omega
    have hm1:=Dt (f:=zY p) (d:=default) ha'
    have hm2:=Dt (f:=xQ l p) (d:=default) ha'
    have hk1:((l.take a).map (zY p)).length=a:=by rw[List.length_map,List.length_take]; omega
    have hk2:((l.take a).map (xQ l p)).length=a:=by rw[List.length_map,List.length_take]; omega
    conv=>whnf
    repeat(refine VC.mk (by first|(first|(show(((l.take a).map (zY p)).length+1)*24<=140737488355328/\((l.take a).map (zY p)).length+1<=1152921504606846976; omega)|(show(((l.take a).map (xQ l p)).length+1)*24<=140737488355328/\((l.take a).map (xQ l p)).length+1<=1152921504606846976; omega))|(simp only[okI] at *; first|omega|(simp_all; done)|(simp_all; omega))) ?_; conv=>whnf)
    refine gV.lits (a+1) (aaM p q l (a+1)) [0,1,2,8,35,42] [(0,some (OZ p)),(1,some (pO q)),(2,some agD),(8,some (aek p l 35 42)),(35,some (BN ((l.take a).map (zY p)++[zY p (l.getD a default)]))),(42,some (Kq ((l.take a).map (xQ l p)++[xQ l p (l.getD a default)])))] (.inr ⟨fun z=>z=23\/z=24,?_⟩) rfl ha' (by omega) (sR rfl) (sR rfl) ?_
    ·have ne: ∀ z:Nat,Nat.beq z 23=false->Nat.beq z 24=false-> ¬ (z=23\/z=24):=fun z h1 h2 e=>e.elim (Nat.ne_of_beq_eq_false h1) (Nat.ne_of_beq_eq_false h2)
     refine⟨⟨_,rfl,ne _ rfl rfl,rfl,rfl,aP _,rfl,rfl⟩,⟨_,rfl,ne _ rfl rfl,rfl,rfl,aP _,rfl,rfl⟩,⟨_,rfl,ne _ rfl rfl,rfl,rfl,aP _,rfl,rfl⟩,⟨_,rfl,ne _ rfl rfl,rfl,rfl,aP _,rfl,rfl⟩,Nz (Z:=fun z=>z=23\/z=24) (j:=23) rfl (ne _ rfl rfl) (Or.inl rfl) ?_,NC (Z:=fun z=>z=23\/z=24) (j:=24) (o:=.gen 24 0 (sU l p (l.getD a default) i)) rfl (ne _ rfl rfl) (Or.inr rfl) ?_ ?_,trivial⟩
     ·rw[<- WJ,<- hi']; rfl
     ·rfl
     ·rw[<- WQ,<- hi']; rfl
    rw[<- hm1,<- hm2]
    exact⟨aT rfl rfl,aT rfl rfl,aT rfl rfl,kW rfl rfl rfl ⟨rfl,rfl⟩ (bD.of_eq rfl),aT rfl rfl,aT rfl rfl,trivial⟩
 ·have ha':a=l.length:=by
   have: ¬ a<l.length:=by simpa using h1
   omega
  conv=>whnf
  refine⟨?_⟩
  show T.sub _ _ (.agg _) (.agg _)
  simp only[T.sub]
  have e1:(l.take a).map (zY p)=l.map (zY p):=by rw[ha',List.take_length]
  have e2:(l.take a).map (xQ l p)=l.map (xQ l p):=by rw[ha',List.take_length]
  rw[<- e1,<- e2]
  exact⟨aG _,aG _,aG _,aG _,aG _,aG _,aG _,aG _,aG _,aG _,aG _,aaO trivial rfl,aaP trivial rfl,trivial⟩
abbrev ael(l:List Elem)(i j:Nat):OV:=.box 72 4 (.agg [.row 3 false (.elems l),.own i,.own j])
abbrev aem:OV:=.box 72 4 (.agg [yw,yw,yw])
abbrev aaS(p:aC)(q:Prop')(l:List Elem)(a:Nat):List (Nat×OV):=[(0,OZ p),(1,pO q),(2,aem),(7,ael l 20 21),(20,Kq ((l.take a).map (xQ l p))),(21,BN ((l.take a).map (zY p)))]
abbrev aaT(p:aC)(q:Prop')(l:List Elem)(a i:Nat):List (Nat×OV):=aaS p q l a++[(23,rowB (onM p (l.getD a default) i))]
abbrev ND(p:aC)(q:Prop')(l:List Elem)(a i:Nat):List (Nat×OV):=aaT p q l a i++[(24,.gen 24 0 (sU l p (l.getD a default) i))]
def AQ(p:aC)(q:Prop')(l:List Elem)(a i j:Nat):List Int->List (Nat×OV)
 |[]=>aaT p q l a i++[(24,.gen 24 0 (sU l p (l.getD a default) j))]
 |x::r=>aaT p q l a i++[(24,.gen 24 0 ((sU l p (l.getD a default) j).set j (.own 25))),(25,mg (x::r))]
set_option maxHeartbeats 2000000 in
theorem S.qO(p:aC)(q:Prop')(hp:dJ p)(hq:gG q)(hv:uU p q=0):aj Tryz.prog 37 [.dat (.gW p),.dat (.prop q)] (gpV (bV p q) ((bV p q).map (zY p)) ((bV p q).map (xQ (bV p q) p))):=by
 have hc:=zV hv
 have hrc:=UN p q
 rw[Jc hv] at hrc
 obtain⟨hl,hS⟩:=hrc
 have hss:SS (bV p q):=uD _
 have hk:=(lT (iP (nV hc)).1).O5
 generalize hgl:bV p q=l at hl hS hss
 have hsm:eF l:=fun x hx=>by have:=(hS x hx).abs.len; omega
 refine aj.of Bd.qO (by simp) rfl rfl ?_
 conv=>whnf
 refine ah.pure (S.yX p q hp hq hv) rfl ?_
 rw[hgl]
 conv=>whnf
 refine aB.acT 7 1 36 0 (cs:=[.row 3 false (.elems l),yw,yw]) rfl (by show 1<3; decide) rfl rfl (by decide) ?_
 refine aB.acT 7 2 69 0 (cs:=[.row 3 false (.elems l),.own 10,yw]) rfl (by show 2<3; decide) rfl rfl (by decide) ?_
 refine aB.fam 30 [2,4,5] (fun a:Nat=>[(6,.int a)]) (fun a=>mY (aaS p q l a)) (fun a=>a<=l.length) (fun a=>l.length-a) 0 (dW (aaS p q l 0) [0,1,2,7,10,11]) _ rfl (by decide) (fun _=>rfl) (Nat.zero_le _) (sR rfl) (.inl rfl) ?_ ?_
 ·exact gy.lits (aaS p q l 0) [0,1,2,7,10,11] ⟨aT rfl rfl,aT rfl rfl,aT rfl rfl,kW rfl rfl rfl ⟨rfl,rfl⟩ (bD.of_eq rfl),aT rfl rfl,aT rfl rfl,trivial⟩
 conv=>whnf
 refine⟨(sR rfl),rfl,?_⟩
 rintro a ha
 conv=>whnf
 refine⟨fun h1=>?_,fun h1=>?_⟩
 ·have ha':a<l.length:=by simpa using h1
  have hX:=hS _ (dF (d:=default) ha')
  have hx6:=hX.abs.len
  obtain⟨r0,hr0,hr1⟩:=Dp p.rules.length
  have hz:((bif isZero (V.int p.rules.length) then some Rw.nil else LY (p.rules.length:Int).toNat T.nil)=some Rw.nil/\p.rules.length=0)\/(bif isZero (V.int p.rules.length) then some Rw.nil else LY (p.rules.length:Int).toNat T.nil)=none:=by
   rcases Nat.eq_zero_or_pos p.rules.length with h0|h0
   ·exact .inl ⟨by rw[h0]; rfl,h0⟩
   ·exact .inr (yK h0)
  conv=>whnf
  rcases hz with ⟨hz,hk0⟩|hz
  all_goals
   rw[hz]
   conv=>whnf
   repeat(refine VC.mk (by omega) ?_; conv=>whnf)
   rw[hr0]
   conv=>whnf
   repeat(refine VC.mk (by omega) ?_; conv=>whnf)
   refine aB.fam 30 [2,4,5,6] (fun i:Nat=>[(9,.int i),(8,.own 23),(7,.own 24)]) (fun i=>mY (ND p q l a i)) (fun i=>i<=p.rules.length) (fun i=>p.rules.length-i) 0 (dW (ND p q l a 0) [0,1,2,7,20,21,43,38]) _ rfl (by decide) (fun _=>rfl) (Nat.zero_le _) (sR rfl) (.inl rfl) ?_ ?_
   ·refine gy.lits (ND p q l a 0) [0,1,2,7,20,21,43,38] ⟨aT rfl rfl,aT rfl rfl,aT rfl rfl,kW rfl rfl rfl ⟨rfl,rfl⟩ (bD.of_eq rfl),aT rfl rfl,aT rfl rfl,okF rfl nofun rfl rfl rfl ⟨rfl,rfl⟩ ?_,kW rfl pV rfl ⟨rfl,rfl⟩ (bD.of_eq ?_),trivial⟩
    ·rw[Rx]
     simp[OV.ay,hr1]
    ·show T.bU _ (V.aS (sU l p (l.getD a default) 0))=_
     rw[Ry]
     first|(rw[hk0]; rfl)|(show _=V.aS (List.replicate p.rules.length (vw .nil)); rw[pR,bJ,List.map_map,List.map_replicate,List.map_replicate]; rfl)
   conv=>whnf
   refine⟨(sR rfl),rfl,?_⟩
   rintro i hi
   have hon:=WG (p:=p) (x:=l.getD a default) hi
   have ae2:=WL (l:=l) (p:=p) (x:=l.getD a default) hi
   conv=>whnf
   refine⟨fun h2=>?_,fun h2=>?_⟩
   ·have hi':i<p.rules.length:=by simpa using h2
    have hpl:sZ (l.getD a default).counts.length (p.rules.getD (i:Int).toNat default):=by rw[hX.len]; exact(wtR hc hi').place
    have aaR:=WH (x:=l.getD a default) hi'
    have ahN:=Yf (r:=p.rules.getD i default) hX.abs hpl
    conv=>whnf
    repeat(refine VC.mk (by first|(simp only[Rw.rng]; omega)|(simp only[Rw.rng,Int.toNat_natCast]; omega)) ?_; conv=>whnf)
    refine ah.pure (show aj Tryz.prog 54 [.dat (.gW p),.int i,.dat (.elem (l.getD a default))] (.row 3 false (.elems (gI (p.rules.getD i default) (l.getD a default)))) from S.yP p i (l.getD a default) hp hpl (by omega) hX.abs) rfl ?_
    have hpo:=yT (r:=p.rules.getD i default) hX.abs
    have hpc: ∀ y∈gI (p.rules.getD i default) (l.getD a default),y.counts.length<2^40:=fun y hy=>by rw[He hy]; omega
    rw[ahN] at aaR
    generalize hL:gI (p.rules.getD i default) (l.getD a default)=L at hpo hpc aaR
    have hsu:DW l (p.rules.getD i default) (l.getD a default)=xK l L:=by unfold DW; rw[hL]
    conv=>whnf
    repeat(refine VC.mk (by first|(simp only[Rw.rng]; omega)|(simp only[Rw.rng,Int.toNat_natCast]; omega)) ?_; conv=>whnf)
    refine aB.fam 30 [2,4,5,6,7,8,9,10] (fun c:Nat=>[(11,.int c)]) (fun c=>mY (AQ p q l a (i+1) i (xK l (L.take c)))) (fun c=>c<=L.length) (fun c=>L.length-c) 0 (dW (AQ p q l a (i+1) i []) [0,1,2,7,20,21,23,24]) _ rfl (by decide) (fun _=>rfl) (Nat.zero_le _) (sR rfl) (.inl rfl) ?_ ?_
    ·refine gy.lits (AQ p q l a (i+1) i []) [0,1,2,7,20,21,23,24] ⟨aT rfl rfl,aT rfl rfl,aT rfl rfl,kW rfl rfl rfl ⟨rfl,rfl⟩ (bD.of_eq rfl),aT rfl rfl,aT rfl rfl,okF rfl nofun rfl rfl rfl ⟨rfl,rfl⟩ ?_,kW rfl pV rfl ⟨rfl,rfl⟩ Aa,trivial⟩
     rw[<- aaR]; rfl
    conv=>whnf
    refine⟨(sR rfl),rfl,?_⟩
    rintro c hcl
    have hal:=J7 l (L.take c)
    rw[List.length_take] at hal
    have hstep:c<L.length->xK l (L.take (c+1))=if A8 l (L.getD c default) (kY l (L.getD c default))=true then xK l (L.take c)++[(kY l (L.getD c default):Int)] else xK l (L.take c):=Nw
    have hend:L.length<=c->DW l (p.rules.getD i default) (l.getD a default)=xK l (L.take c):=fun q=>by rw[hsu,List.take_of_length_le q]
    have hfd:=agz (b:=L.getD c default) hss
    generalize xK l (L.take c)=acc at hal hstep hend
    cases acc with
    |nil =>
     conv=>whnf
     refine⟨fun h3=>?_,fun h3=>?_⟩
     ·have hc':c<L.length:=by simpa using h3
      replace hstep:=hstep hc'
      conv=>whnf
      repeat(refine VC.mk (by first|(simp only[Rw.rng]; omega)|(simp only[Rw.rng,Int.toNat_natCast]; omega)) ?_; conv=>whnf)
      refine ah.pure (S.yY l (L.getD c default) false (by omega) hsm (hpc _ (dF hc'))) rfl ?_
      by_cases h4:A8 l (L.getD c default) (kY l (L.getD c default))=true
      ·rw[if_pos h4,List.nil_append] at hstep
       rw[if_pos h4] at hfd
       rw[hfd]
       conv=>whnf
       refine Fork.mk (fun _=>?_) (fun q=>absurd (q.symm.trans (decide_eq_true (Int.natCast_nonneg _))) Bool.false_ne_true)
       conv=>whnf
       repeat(refine VC.mk (by omega) ?_; conv=>whnf)
       refine⟨_,aaN hi',?_⟩
       conv=>whnf
       repeat(refine VC.mk (by first|(show(0+(0+1))*8<=140737488355328/\0+(0+1)<=1152921504606846976; omega)|(omega)|(simp only[okI] at *; first|omega|(simp_all; done)|(simp_all; omega))) ?_; conv=>whnf)
       exact gV.lits (c+1) (AQ p q l a (i+1) i [(kY l (L.getD c default):Int)]) [0,1,2,7,20,21,23,24,52] _ (.inl rfl) (congrArg (fun z=>mY (AQ p q l a (i+1) i z)) hstep) hc' (by omega) (sR rfl) (sR rfl) ⟨aT rfl rfl,aT rfl rfl,aT rfl rfl,kW rfl rfl rfl ⟨rfl,rfl⟩ (bD.of_eq rfl),aT rfl rfl,aT rfl rfl,aT rfl rfl,kW rfl vT rfl ⟨rfl,rfl⟩ (BO rfl),aT rfl rfl,trivial⟩
      ·rw[if_neg h4] at hstep hfd
       rw[hfd]
       conv=>whnf
       refine Fork.mk (fun q=>absurd (q.symm.trans ((rfl:decide ((-1:Int)>=0)=false))).symm Bool.false_ne_true) (fun _=>?_)
       conv=>whnf
       repeat(refine VC.mk (by first|(omega)|(simp only[okI] at *; first|omega|(simp_all; done)|(simp_all; omega))) ?_; conv=>whnf)
       exact gV.lits (c+1) (AQ p q l a (i+1) i []) [0,1,2,7,20,21,23,24] _ (.inl rfl) (congrArg (fun z=>mY (AQ p q l a (i+1) i z)) hstep) hc' (by omega) (sR rfl) (sR rfl) ⟨aT rfl rfl,aT rfl rfl,aT rfl rfl,kW rfl rfl rfl ⟨rfl,rfl⟩ (bD.of_eq rfl),aT rfl rfl,aT rfl rfl,aT rfl rfl,kW rfl pV rfl ⟨rfl,rfl⟩ Aa,trivial⟩
     ·have hs0:=hend (by simpa using h3)
      conv=>whnf
      repeat(refine VC.mk (by first|(omega)|(simp only[okI] at *; first|omega|(simp_all; done)|(simp_all; omega))) ?_; conv=>whnf)
      exact gV.lits (i+1) (ND p q l a (i+1)) [0,1,2,7,20,21,23,24] _ (.inl rfl) rfl hi' (by omega) (sR rfl) (sR rfl) ⟨aT rfl rfl,aT rfl rfl,aT rfl rfl,kW rfl rfl rfl ⟨rfl,rfl⟩ (bD.of_eq rfl),aT rfl rfl,aT rfl rfl,aT rfl rfl,kW rfl pV rfl ⟨rfl,rfl⟩ (WM hi' hs0),trivial⟩
    |cons y r =>
     have ahM:((sU l p (l.getD a default) i).set i (.own 25)).length=p.rules.length:=by rw[List.length_set,ae2]
     conv=>whnf
     refine⟨fun h3=>?_,fun h3=>?_⟩
     ·have hc':c<L.length:=by simpa using h3
      replace hstep:=hstep hc'
      conv=>whnf
      repeat(refine VC.mk (by first|(simp only[Rw.rng]; omega)|(simp only[Rw.rng,Int.toNat_natCast]; omega)) ?_; conv=>whnf)
      refine ah.pure (S.yY l (L.getD c default) false (by omega) hsm (hpc _ (dF hc'))) rfl ?_
      by_cases h4:A8 l (L.getD c default) (kY l (L.getD c default))=true
      ·rw[if_pos h4] at hstep hfd
       rw[hfd]
       conv=>whnf
       refine Fork.mk (fun _=>?_) (fun q=>absurd (q.symm.trans (decide_eq_true (Int.natCast_nonneg _))) Bool.false_ne_true)
       conv=>whnf
       repeat(refine VC.mk (by omega) ?_; conv=>whnf)
       refine⟨.own 25,List.getElem?_set_self (by show i<_; omega),?_⟩
       conv=>whnf
       repeat(refine VC.mk (by first|(show((y::r).length+(0+1))*8<=140737488355328/\(y::r).length+(0+1)<=1152921504606846976; omega)|(omega)|(simp only[okI] at *; first|omega|(simp_all; done)|(simp_all; omega))) ?_; conv=>whnf)
       exact gV.lits (c+1) (AQ p q l a (i+1) i (y::(r++[(kY l (L.getD c default):Int)]))) [0,1,2,7,20,21,23,24,52] _ (.inl rfl) (congrArg (fun z=>mY (AQ p q l a (i+1) i z)) hstep) hc' (by omega) (sR rfl) (sR rfl) ⟨aT rfl rfl,aT rfl rfl,aT rfl rfl,kW rfl rfl rfl ⟨rfl,rfl⟩ (bD.of_eq rfl),aT rfl rfl,aT rfl rfl,aT rfl rfl,kW rfl vT rfl ⟨rfl,rfl⟩ (Rz rfl),aT rfl rfl,trivial⟩
      ·rw[if_neg h4] at hstep hfd
       rw[hfd]
       conv=>whnf
       refine Fork.mk (fun q=>absurd (q.symm.trans ((rfl:decide ((-1:Int)>=0)=false))).symm Bool.false_ne_true) (fun _=>?_)
       conv=>whnf
       repeat(refine VC.mk (by first|(omega)|(simp only[okI] at *; first|omega|(simp_all; done)|(simp_all; omega))) ?_; conv=>whnf)
       exact gV.lits (c+1) (AQ p q l a (i+1) i (y::r)) [0,1,2,7,20,21,23,24,25] _ (.inl rfl) (congrArg (fun z=>mY (AQ p q l a (i+1) i z)) hstep) hc' (by omega) (sR rfl) (sR rfl) ⟨aT rfl rfl,aT rfl rfl,aT rfl rfl,kW rfl rfl rfl ⟨rfl,rfl⟩ (bD.of_eq rfl),aT rfl rfl,aT rfl rfl,aT rfl rfl,kW rfl vT rfl ⟨rfl,rfl⟩ (BO rfl),aT rfl rfl,trivial⟩
     ·have hs0:=hend (by simpa using h3)
      conv=>whnf
      repeat(refine VC.mk (by first|(omega)|(simp only[okI] at *; first|omega|(simp_all; done)|(simp_all; omega))) ?_; conv=>whnf)
      refine gV.lits (i+1) (ND p q l a (i+1)) [0,1,2,7,20,21,23,24] (mY (ND p q l a (i+1))) (.inr ⟨fun z=>z=25,?_⟩) rfl hi' (by omega) (sR rfl) (sR rfl) ⟨aT rfl rfl,aT rfl rfl,aT rfl rfl,kW rfl rfl rfl ⟨rfl,rfl⟩ (bD.of_eq rfl),aT rfl rfl,aT rfl rfl,aT rfl rfl,kW rfl pV rfl ⟨rfl,rfl⟩ Aa,trivial⟩
      have hfz:=WO (l:=l) (p:=p) (x:=l.getD a default) (i:=i) (Z:=fun z=>z=25) (h:=mY (AQ p q l a (i+1) i (y::r))) hi' rfl (by rw[hs0]; rfl)
      exact⟨⟨_,rfl,Nat.ne_of_beq_eq_false rfl,rfl,rfl,aP _,rfl,rfl⟩,⟨_,rfl,Nat.ne_of_beq_eq_false rfl,rfl,rfl,aP _,rfl,rfl⟩,⟨_,rfl,Nat.ne_of_beq_eq_false rfl,rfl,rfl,aP _,rfl,rfl⟩,⟨_,rfl,Nat.ne_of_beq_eq_false rfl,rfl,rfl,aP _,rfl,rfl⟩,⟨_,rfl,Nat.ne_of_beq_eq_false rfl,rfl,rfl,aP _,rfl,rfl⟩,⟨_,rfl,Nat.ne_of_beq_eq_false rfl,rfl,rfl,aP _,rfl,rfl⟩,⟨_,rfl,Nat.ne_of_beq_eq_false rfl,rfl,rfl,aP _,rfl,rfl⟩,⟨_,rfl,Nat.ne_of_beq_eq_false rfl,rfl,rfl,hfz.1,hfz.2.1,hfz.2.2⟩,trivial⟩
   ·have hi':i=p.rules.length:=by
     have: ¬ i<p.rules.length:=by simpa using h2
     omega
    have hm1:=Dt (f:=zY p) (d:=default) ha'
    have hm2:=Dt (f:=xQ l p) (d:=default) ha'
    have hk1:((l.take a).map (zY p)).length=a:=by rw[List.length_map,List.length_take]; omega
    have hk2:((l.take a).map (xQ l p)).length=a:=by rw[List.length_map,List.length_take]; omega
    conv=>whnf
    repeat(refine VC.mk (by first|(first|(show(((l.take a).map (zY p)).length+1)*24<=140737488355328/\((l.take a).map (zY p)).length+1<=1152921504606846976; omega)|(show(((l.take a).map (xQ l p)).length+1)*24<=140737488355328/\((l.take a).map (xQ l p)).length+1<=1152921504606846976; omega))|(simp only[okI] at *; first|omega|(simp_all; done)|(simp_all; omega))) ?_; conv=>whnf)
    refine gV.lits (a+1) (aaS p q l (a+1)) [0,1,2,7,39,46] [(0,some (OZ p)),(1,some (pO q)),(2,some aem),(7,some (ael l 39 46)),(39,some (Kq ((l.take a).map (xQ l p)++[xQ l p (l.getD a default)]))),(46,some (BN ((l.take a).map (zY p)++[zY p (l.getD a default)])))] (.inr ⟨fun z=>z=23\/z=24,?_⟩) rfl ha' (by omega) (sR rfl) (sR rfl) ?_
    ·have ne: ∀ z:Nat,Nat.beq z 23=false->Nat.beq z 24=false-> ¬ (z=23\/z=24):=fun z h1 h2 e=>e.elim (Nat.ne_of_beq_eq_false h1) (Nat.ne_of_beq_eq_false h2)
     refine⟨⟨_,rfl,ne _ rfl rfl,rfl,rfl,aP _,rfl,rfl⟩,⟨_,rfl,ne _ rfl rfl,rfl,rfl,aP _,rfl,rfl⟩,⟨_,rfl,ne _ rfl rfl,rfl,rfl,aP _,rfl,rfl⟩,⟨_,rfl,ne _ rfl rfl,rfl,rfl,aP _,rfl,rfl⟩,NC (Z:=fun z=>z=23\/z=24) (j:=24) (o:=.gen 24 0 (sU l p (l.getD a default) i)) rfl (ne _ rfl rfl) (Or.inr rfl) ?_ ?_,Nz (Z:=fun z=>z=23\/z=24) (j:=23) rfl (ne _ rfl rfl) (Or.inl rfl) ?_,trivial⟩
     ·rfl
     ·rw[<- WQ,<- hi']; rfl
     ·rw[<- WJ,<- hi']; rfl
    rw[<- hm1,<- hm2]
    exact⟨aT rfl rfl,aT rfl rfl,aT rfl rfl,kW rfl rfl rfl ⟨rfl,rfl⟩ (bD.of_eq rfl),aT rfl rfl,aT rfl rfl,trivial⟩
 ·have ha':a=l.length:=by
   have: ¬ a<l.length:=by simpa using h1
   omega
  conv=>whnf
  refine⟨?_⟩
  show T.sub _ _ (.agg _) (.agg _)
  simp only[T.sub]
  have e1:(l.take a).map (zY p)=l.map (zY p):=by rw[ha',List.take_length]
  have e2:(l.take a).map (xQ l p)=l.map (xQ l p):=by rw[ha',List.take_length]
  rw[<- e1,<- e2]
  exact⟨aG _,aaP trivial rfl,aaO trivial rfl,trivial⟩
def RG(l:List Bool):Int:=match l.findIdx? (fun b=>b) with
 |some i=>i
 |none=> -1
theorem S.UY(l:List Bool)(f:Bool)(hl:l.length<2^30):aj Tryz.prog 97 [.row 0 f (.bools l),.bool true] (.int (RG l)):=by
 refine aj.of Bd.kZ (by simp) rfl rfl ?_
 conv=>whnf
 refine aB.same [0,1,6,7] (fun i:Nat=>[(8,.int i)]) (fun i=>i<=l.length/\ ∀ j,j<i->l.getD j false=false) (fun i=>l.length-i) 0 rfl (by decide) rfl (fun _=>rfl) ⟨Nat.zero_le _,fun j hj=>absurd hj (Nat.not_lt_zero _)⟩ ⟨⟨_,rfl,rfl⟩,trivial⟩ ?_
 conv=>whnf
 refine⟨rfl,?_⟩
 rintro i ⟨hi,hno⟩
 conv=>whnf
 refine⟨fun h3=>?_,fun h3=>?_⟩
 ·have hi':i<l.length:=by simpa using h3
  conv=>whnf
  refine .mk (by simp only[Rw.rng] at *; first|omega|(simp_all; done)|(simp_all; omega)) ?_
  conv=>whnf
  refine⟨fun h4=>?_,fun h4=>?_⟩
  ·have h4':l.getD i false=true:=by
    have h5:(true==l.getD i false)=true:=h4
    cases hb:l.getD i false with
    |true=>rfl
    |false=>rw[hb] at h5; cases h5
   conv=>whnf
   refine ak.int ?_
   have:l.findIdx? (fun b=>b)=some i:=by
    rw[List.findIdx?_eq_some_iff_getElem]
    refine⟨hi',by rw[getD_some hi'] at h4'; exact h4',fun k hk=>?_⟩
    have:=hno k hk
    rw[getD_some (by omega)] at this
    rw[this]; decide
   rw[RG,this]
  ·have h4':l.getD i false=false:=by
    have h5:(true==l.getD i false)=false:=h4
    cases hb:l.getD i false with
    |true=>rw[hb] at h5; cases h5
    |false=>rfl
   conv=>whnf
   refine .mk (by simp only[okI] at *; first|omega|(simp_all; done)|(simp_all; omega)) ?_
   conv=>whnf
   refine⟨i+1,⟨hi',fun j hj=>?_⟩,by omega,⟨⟨_,rfl,rfl⟩,trivial⟩,?_,rfl⟩
   ·rcases Nat.lt_or_ge j i with q|q
    ·exact hno j q
    ·have:j=i:=by omega
     subst this; exact h4'
   ·repeat' (first|exact trivial|exact⟨_,rfl,rfl⟩|constructor)
 ·have hi':l.length<=i:=by simpa using h3
  conv=>whnf
  refine ak.int ?_
  have:l.findIdx? (fun b=>b)=none:=by
   rw[List.findIdx?_eq_none_iff]
   intro x hx
   obtain⟨k,hk,rfl⟩:=List.mem_iff_getElem.1 hx
   have:=hno k (by omega)
   rw[getD_some hk] at this; exact this
  rw[RG,this]
theorem Yr(l:List Bool):decide (RG l>=0)=l.any fun b=>b:=by
 unfold RG
 cases h:l.findIdx? (fun b=>b) with
 |some i =>
  have:=(List.findIdx?_eq_some_iff_getElem.1 h)
  obtain⟨hi,hp,_⟩:=this
  have e:(l.any fun b=>b)=true:=List.any_eq_true.2 ⟨_,List.getElem_mem hi,hp⟩
  rw[e]; exact decide_eq_true (Int.natCast_nonneg _)
 |none =>
  have:=List.findIdx?_eq_none_iff.1 h
  have e:(l.any fun b=>b)=false:=List.any_eq_false.2 fun x hx=>by rw[this x hx]; decide
  rw[e]; rfl
theorem S.L8(l:List Bool)(f:Bool)(hl:l.length<2^30):aj Tryz.prog 66 [.row 0 f (.bools l),.bool true] (.bool (l.any fun b=>b)):=by
 refine aj.of Bd.jR (by simp) rfl rfl ?_
 conv=>whnf
 refine ah.pure (S.UY l f hl) rfl ?_
 conv=>whnf
 exact ak.bool (Yr l).symm
def upS(rs:List Rule)(on:List (List Bool))(w:List Int)(a:Nat):Bool:=(List.range rs.length).any fun i=>(on.getD a []).getD i false&&zQ (rs.getD i default) w
noncomputable def L9(p:aC)(l:List Elem)(on:List (List Bool))(dG:List (List (List Int)))(w:List Int):Bool :=
 !((List.range l.length).any fun a=>upS p.rules on w a)&&(Hf p l on dG w).ny.all fun r=>r.any fun b=>b
theorem WR{n i:Nat}{f:Nat->Bool}(hi:i<n)(h:f i=true):(List.range n).any f=true:=List.any_eq_true.2 ⟨i,List.mem_range.2 hi,h⟩
theorem Kr{n:Nat}{f:Nat->Bool}(h: ∀ i,i<n->f i=false):(List.range n).any f=false:=List.any_eq_false.2 fun i hi=>by rw[h i (List.mem_range.1 hi)]; decide
theorem UZ{p:aC}{l:List Elem}{on:List (List Bool)}{dG:List (List (List Int))}{w:List Int}{a i:Nat}(ha:a<l.length)(hi:i<p.rules.length)(h:((on.getD a []).getD i false&&zQ (p.rules.getD i default) w)=true):L9 p l on dG w=false:=by
 unfold L9
 rw[WR ha (by unfold upS; exact WR hi h)]; rfl
theorem WS{p:aC}{l:List Elem}{on:List (List Bool)}{dG:List (List (List Int))}{w:List Int}(h: ∀ a,a<l.length->upS p.rules on w a=false):L9 p l on dG w=(Hf p l on dG w).ny.all fun r=>r.any fun b=>b:=by
 unfold L9
 rw[Kr h]; rfl
set_option maxHeartbeats 1000000 in
theorem S.FI(p:aC)(l:List Elem)(on:List (List Bool))(dG:List (List (List Int)))(w:List Int)(f:Bool)(h:Rq p l on dG w):aj Tryz.prog 38 [spV p l on dG,.row 0 f (.ints w)] (.bool (L9 p l on dG w)):=by
 have hn:=h.n; have hk:=h.k; have e1:=h.zY; have e2:=h.xQ; have hwl:=h.wl
 refine aj.of Bd.qA (by simp) rfl rfl ?_
 conv=>whnf
 refine aB.same [1,2,12] (fun a:Nat=>[(13,.int a)]) (fun a=>a<=l.length/\ ∀ a',a'<a->upS p.rules on w a'=false) (fun a=>l.length-a) 0 rfl (by decide) rfl (fun _=>rfl) ⟨Nat.zero_le _,fun a ha=>absurd ha (Nat.not_lt_zero _)⟩ ⟨⟨_,rfl,rfl⟩,trivial⟩ ?_
 conv=>whnf
 refine⟨rfl,?_⟩
 rintro a ⟨ha,hno⟩
 conv=>whnf
 refine⟨fun h1=>?_,fun h1=>?_⟩
 ·have ha':a<l.length:=by simpa using h1
  have hoR:=h.onR a ha'
  conv=>whnf
  refine aB.same [1,2,5,12,13,18,19] (fun i:Nat=>[(20,.int i)]) (fun i=>i<=p.rules.length/\ ∀ i',i'<i->((on.getD a []).getD i' false&&zQ (p.rules.getD i' default) w)=false) (fun i=>p.rules.length-i) 0 rfl (by decide) rfl (fun _=>rfl) ⟨Nat.zero_le _,fun a ha=>absurd ha (Nat.not_lt_zero _)⟩ ⟨⟨_,rfl,rfl⟩,trivial⟩ ?_
  conv=>whnf
  refine⟨rfl,?_⟩
  rintro i ⟨hi,hni⟩
  conv=>whnf
  refine⟨fun h2=>?_,fun h2=>?_⟩
  ·have hi':i<p.rules.length:=by simpa using h2
   conv=>whnf
   repeat(refine VC.mk (by first|(first|(simp only[Rw.rng]; omega)|(simp only[Rw.rng,Int.toNat_natCast]; omega))|exact fun h=>⟨h,h⟩) ?_; conv=>whnf)
   refine ah.dL (fun _=>S.lU (p.rules.getD i default) w f h.wok (h.ZE i hi') h.wl) rfl ?_
   conv=>whnf
   refine VC.mk id ?_
   conv=>whnf
   refine⟨fun h3=>?_,fun h3=>?_⟩
   ·conv=>whnf
    exact ak.bool (UZ ha' hi' h3)
   ·conv=>whnf
    refine .mk (by simp only[okI] at *; first|omega|(simp_all; done)|(simp_all; omega)) ?_
    conv=>whnf
    refine⟨i+1,⟨hi',fun i' hj=>?_⟩,by omega,⟨⟨_,rfl,rfl⟩,trivial⟩,?_,rfl⟩
    ·rcases Nat.lt_or_ge i' i with q|q
     ·exact hni i' q
     ·have:i'=i:=by omega
      subst this; exact h3
    ·repeat' (first|exact trivial|exact⟨_,rfl,rfl⟩|constructor)
  ·have hi':p.rules.length<=i:=by simpa using h2
   conv=>whnf
   refine .mk (by simp only[okI] at *; first|omega|(simp_all; done)|(simp_all; omega)) ?_
   conv=>whnf
   refine⟨a+1,⟨ha',fun a' hj=>?_⟩,by omega,⟨⟨_,rfl,rfl⟩,trivial⟩,?_,rfl⟩
   ·rcases Nat.lt_or_ge a' a with q|q
    ·exact hno a' q
    ·have:a'=a:=by omega
     subst this
     exact Kr fun i' hj=>hni i' (by omega)
   ·repeat' (first|exact trivial|exact⟨_,rfl,rfl⟩|constructor)
 ·have ha':l.length<=a:=by simpa using h1
  have hrow:=WS (dG:=dG) (w:=w) (p:=p) (l:=l) (on:=on) fun a' hj=>hno a' (by omega)
  conv=>whnf
  refine ah.pure (S.FD p l on dG w f h) rfl ?_
  have hL:(Hf p l on dG w).ny.length=l.length:=Fz
  have hR: ∀ j,j<l.length->((Hf p l on dG w).ny.getD j []).length<=8:=fun j hj=>by rw[J6 (g:=Hf p l on dG w) hj]; exact hk
  generalize (Hf p l on dG w).ny=H at hrow hL hR
  conv=>whnf
  refine aB.same [42,43] (fun i:Nat=>[(44,.int i)]) (fun i=>i<=H.length/\(H.take i).all (fun r=>r.any fun b=>b)=true) (fun i=>H.length-i) 0 rfl (by decide) rfl (fun _=>rfl) ⟨Nat.zero_le _,rfl⟩ ⟨⟨_,rfl,rfl⟩,trivial⟩ ?_
  conv=>whnf
  refine⟨rfl,?_⟩
  rintro i ⟨hi,hal⟩
  conv=>whnf
  refine⟨fun h2=>?_,fun h2=>?_⟩
  ·have hi':i<H.length:=by simpa using h2
   have hRi:=hR i (by omega)
   conv=>whnf
   refine .mk (by simp only[Rw.rng] at *; first|omega|(simp_all; done)|(simp_all; omega)) ?_
   conv=>whnf
   refine ah.pure (S.L8 (H.getD i []) false (by omega)) rfl ?_
   conv=>whnf
   refine⟨fun h3=>?_,fun h3=>?_⟩
   ·replace h3:((H.getD i []).any fun b=>b)=false:=by simpa using h3
    conv=>whnf
    refine ak.bool ?_
    rw[hrow]
    exact(qp (p:=fun r:List Bool=>r.any fun b=>b) (d:=[]) hi' h3)
   ·replace h3:((H.getD i []).any fun b=>b)=true:=by
     cases hb:(H.getD i []).any fun b=>b with
     |true=>rfl
     |false =>
      have h4:(!((H.getD i []).any fun b=>b))=false:=h3
      rw[hb] at h4; cases h4
    conv=>whnf
    refine .mk (by simp only[okI] at *; first|omega|(simp_all; done)|(simp_all; omega)) ?_
    conv=>whnf
    refine⟨i+1,⟨hi',?_⟩,by omega,⟨⟨_,rfl,rfl⟩,trivial⟩,?_,rfl⟩
    ·rw[sW (p:=fun r:List Bool=>r.any fun b=>b) (d:=[]) hi' hal]; exact h3
    ·repeat' (first|exact trivial|exact⟨_,rfl,rfl⟩|constructor)
  ·have hi':H.length<=i:=by simpa using h2
   rw[List.take_of_length_le hi'] at hal
   conv=>whnf
   exact ak.bool (by rw[hrow,hal])
theorem acV{g:Gr}{a:Nat}(ha:a<g.n):(((g.pz.getD a []).length:Int)==0)= !((g.ny.getD a []).any fun b=>b):=by
 unfold Gr.pz Gr.ny
 rw[je ha,je ha,List.any_map,List.length_map]
 cases hb:(List.range g.k).any ((fun b=>b) ∘ fun i=>g.hlp a i) with
 |true =>
  obtain⟨i,h1,h2⟩:=List.any_eq_true.1 hb
  have:0<((List.range g.k).filter fun i=>g.hlp a i).length:=List.length_pos_of_mem (List.mem_filter.2 ⟨h1,h2⟩)
  rw[Bool.not_true,beq_eq_false_iff_ne]; omega
 |false =>
  have hf:(List.range g.k).filter (fun i=>g.hlp a i)=[]:=by
   rw[List.filter_eq_nil_iff]
   intro i hi
   have:=List.any_eq_false.1 hb i hi
   exact this
  rw[hf]; rfl
theorem FK{g:Gr}:g.pz.length=g.n:=by simp[Gr.pz]
set_option maxHeartbeats 1000000 in
theorem S.rU(p:aC)(l:List Elem)(on:List (List Bool))(dG:List (List (List Int)))(w:List Int)(f:Bool)(h:Rq p l on dG w):aj Tryz.prog 39 [.dat (.gW p),gpV l on dG,.row 0 f (.ints w)] (.bool (L9 p l on dG w)):=by
 have hn:=h.n; have hk:=h.k; have e1:=h.zY; have e2:=h.xQ; have hwl:=h.wl
 refine aj.of Bd.rU (by simp) rfl rfl ?_
 conv=>whnf
 refine aB.same [2,3,4] (fun a:Nat=>[(7,.int a)]) (fun a=>a<=l.length/\ ∀ a',a'<a->upS p.rules on w a'=false) (fun a=>l.length-a) 0 rfl (by decide) rfl (fun _=>rfl) ⟨Nat.zero_le _,fun a ha=>absurd ha (Nat.not_lt_zero _)⟩ ⟨⟨_,rfl,rfl⟩,trivial⟩ ?_
 conv=>whnf
 refine⟨rfl,?_⟩
 rintro a ⟨ha,hno⟩
 conv=>whnf
 refine⟨fun h1=>?_,fun h1=>?_⟩
 ·have ha':a<l.length:=by simpa using h1
  have hoR:=h.onR a ha'
  conv=>whnf
  refine aB.same [2,3,4,7] (fun i:Nat=>[(8,.int i)]) (fun i=>i<=p.rules.length/\ ∀ i',i'<i->((on.getD a []).getD i' false&&zQ (p.rules.getD i' default) w)=false) (fun i=>p.rules.length-i) 0 rfl (by decide) rfl (fun _=>rfl) ⟨Nat.zero_le _,fun a ha=>absurd ha (Nat.not_lt_zero _)⟩ ⟨⟨_,rfl,rfl⟩,trivial⟩ ?_
  conv=>whnf
  refine⟨rfl,?_⟩
  rintro i ⟨hi,hni⟩
  conv=>whnf
  refine⟨fun h2=>?_,fun h2=>?_⟩
  ·have hi':i<p.rules.length:=by simpa using h2
   conv=>whnf
   repeat(refine VC.mk (by first|(first|(simp only[Rw.rng]; omega)|(simp only[Rw.rng,Int.toNat_natCast]; omega)|(intro _; simp only[Rw.rng]; omega))|exact fun h=>h|exact fun h=>⟨h,h⟩|(intro h; (repeat' apply And.intro)<;>first|exact h|omega|(simp only[Rw.nO]; omega)|(simp only[Rw.rng]; omega))) ?_; conv=>whnf)
   refine ah.dL (fun _=>S.nX (p.rules.getD i default) w f h.wok (h.ZE i hi') h.wl) rfl ?_
   conv=>whnf
   refine VC.mk id ?_
   conv=>whnf
   refine⟨fun h3=>?_,fun h3=>?_⟩
   ·conv=>whnf
    exact ak.bool (UZ ha' hi' h3)
   ·conv=>whnf
    refine .mk (by simp only[okI] at *; first|omega|(simp_all; done)|(simp_all; omega)) ?_
    conv=>whnf
    refine⟨i+1,⟨hi',fun i' hj=>?_⟩,by omega,⟨⟨_,rfl,rfl⟩,trivial⟩,?_,rfl⟩
    ·rcases Nat.lt_or_ge i' i with q|q
     ·exact hni i' q
     ·have:i'=i:=by omega
      subst this; exact h3
    ·repeat' (first|exact trivial|exact⟨_,rfl,rfl⟩|constructor)
  ·have hi':p.rules.length<=i:=by simpa using h2
   conv=>whnf
   refine .mk (by simp only[okI] at *; first|omega|(simp_all; done)|(simp_all; omega)) ?_
   conv=>whnf
   refine⟨a+1,⟨ha',fun a' hj=>?_⟩,by omega,⟨⟨_,rfl,rfl⟩,trivial⟩,?_,rfl⟩
   ·rcases Nat.lt_or_ge a' a with q|q
    ·exact hno a' q
    ·have:a'=a:=by omega
     subst this
     exact Kr fun i' hj=>hni i' (by omega)
   ·repeat' (first|exact trivial|exact⟨_,rfl,rfl⟩|constructor)
 ·have ha':l.length<=a:=by simpa using h1
  have hrow:=WS (dG:=dG) (w:=w) (p:=p) (l:=l) (on:=on) fun a' hj=>hno a' (by omega)
  conv=>whnf
  refine ah.pure (S.vS p l on dG w f h) rfl ?_
  have hL:(Hf p l on dG w).ny.length=l.length:=Fz
  have hL2:(Hf p l on dG w).pz.length=l.length:=FK
  have hR: ∀ j,j<l.length->((((Hf p l on dG w).pz.getD j []).length:Int)==0)= !(((Hf p l on dG w).ny.getD j []).any fun b=>b):=fun j hj=>acV hj
  generalize (Hf p l on dG w).ny=H at hrow hL hR
  generalize (Hf p l on dG w).pz=M at hL2 hR
  conv=>whnf
  refine aB.same [9] (fun i:Nat=>[(10,.int i)]) (fun i=>i<=M.length/\(H.take i).all (fun r=>r.any fun b=>b)=true) (fun i=>M.length-i) 0 rfl (by decide) rfl (fun _=>rfl) ⟨Nat.zero_le _,rfl⟩ ⟨⟨_,rfl,rfl⟩,trivial⟩ ?_
  conv=>whnf
  refine⟨rfl,?_⟩
  rintro i ⟨hi,hal⟩
  conv=>whnf
  refine⟨fun h2=>?_,fun h2=>?_⟩
  ·have hi':i<M.length:=by simpa using h2
   have hRi:=hR i (by omega)
   conv=>whnf
   refine .mk (by simp only[Rw.rng] at *; first|omega|(simp_all; done)|(simp_all; omega)) ?_
   conv=>whnf
   refine⟨fun h3=>?_,fun h3=>?_⟩
   ·replace h3:(((M.getD i []).length:Int)==0)=true:=h3
    rw[hRi,Bool.not_eq_true'] at h3
    conv=>whnf
    refine ak.bool ?_
    rw[hrow]
    exact(qp (p:=fun r:List Bool=>r.any fun b=>b) (d:=[]) (by omega) h3)
   ·replace h3:(((M.getD i []).length:Int)==0)=false:=h3
    rw[hRi,Bool.not_eq_false'] at h3
    conv=>whnf
    refine .mk (by simp only[okI] at *; first|omega|(simp_all; done)|(simp_all; omega)) ?_
    conv=>whnf
    refine⟨i+1,⟨hi',?_⟩,by omega,⟨⟨_,rfl,rfl⟩,trivial⟩,?_,rfl⟩
    ·rw[sW (p:=fun r:List Bool=>r.any fun b=>b) (d:=[]) (by omega) hal]; exact h3
    ·repeat' (first|exact trivial|exact⟨_,rfl,rfl⟩|constructor)
  ·have hi':M.length<=i:=by simpa using h2
   rw[List.take_of_length_le (by omega)] at hal
   conv=>whnf
   exact ak.bool (by rw[hrow,hal])
theorem FM{α β:Type}{f:α->β}{l:List α}{i:Nat}{d:β}{e:α}(h:i<l.length):(l.map f).getD i d=f (l.getD i e):=by
 rw[getD_some (by simpa using h),getD_some h,List.getElem_map]
theorem Yt{p:aC}{q:Prop'}{w:List Int}(hv:uU p q=0)(hw:GN p w=true):Rq p (bV p q) ((bV p q).map (zY p)) ((bV p q).map (xQ (bV p q) p)) w:=by
 have hc:=zV hv
 have hrc:=UN p q
 rw[Jc hv] at hrc
 obtain⟨hl,hS⟩:=hrc
 have hV:=lT (iP (nV hc)).1
 obtain⟨w1,w2⟩:=acv hw
 have hst:=hV.states
 have key: ∀ a x,(((bV p q).map (xQ (bV p q) p)).getD a []).getD x []=[]\/ ∃ y∈bV p q,∃ r,(((bV p q).map (xQ (bV p q) p)).getD a []).getD x []=DW (bV p q) r y:=by
  intro a x
  rcases Nat.lt_or_ge a (bV p q).length with ha|ha
  ·rw[FM (e:=default) ha]
   rcases Nat.lt_or_ge x p.rules.length with hx|hx
   ·right
    refine⟨_,dF (d:=default) ha,p.rules.getD x default,?_⟩
    unfold xQ
    rw[FM (e:=default) hx]
   ·left
    exact getD_none (by unfold xQ; simpa using hx)
  ·left
   rw[show((bV p q).map (xQ (bV p q) p)).getD a []=[] from getD_none (by simpa using ha)]
   rfl
 refine⟨hl,hV.O5,by simp,fun a ha=>?_,by simp,fun a ha=>?_,fun a x=>?_,fun a x b hb=>?_,fun i hi=>by rw[w1]; exact wtR hc hi,w2,by omega⟩
 ·rw[FM (e:=default) ha]; simp[zY]
 ·rw[FM (e:=default) ha]; simp[xQ]
 ·rcases key a x with e|⟨y,hy,r,e⟩<;>rw[e]
  ·simp
  ·have h1:=J7 (bV p q) (gI r y)
   have h2:=yT (r:=r) (hS y hy).abs
   unfold DW
   omega
 ·rcases key a x with e|⟨y,hy,r,e⟩<;>rw[e] at hb
  ·cases hb
  ·exact aaE hb
noncomputable def Kt(p:aC)(q:Prop')(w:List Int):Bool:=L9 p (bV p q) ((bV p q).map (zY p)) ((bV p q).map (xQ (bV p q) p)) w
noncomputable def cwB(p:aC)(q:Prop')(w:List Int):Bool:=((Bg p q 2==0)&&GN p w)&&Kt p q w
theorem S.iL(p:aC)(q:Prop')(w:List Int)(f:Bool)(hp:dJ p)(hq:gG q)(hw:w.length<2^30):aj Tryz.prog 15 [.dat (.gW p),.dat (.prop q),.row 0 f (.ints w)] (.bool (cwB p q w)):=by
 refine aj.of Bd.iL (by simp) rfl rfl ?_
 conv=>whnf
 refine ah.pure (S.jL p q 2 hp hq) rfl ?_
 conv=>whnf
 refine .mk (by exact fun h=>⟨h,h⟩) ?_
 conv=>whnf
 refine ah.dL (fun _=>S.jk p w f hw) rfl ?_
 conv=>whnf
 repeat(refine VC.mk (by first|exact id|exact fun h=>⟨h,h⟩) ?_; conv=>whnf)
 have hk:((Bg p q 2==0)&&GN p w)=true->uU p q=0/\GN p w=true:=fun h=>by
  rw[Bool.and_eq_true,beq_iff_eq] at h
  exact⟨zX h.1,h.2⟩
 refine ah.dL (fun hb=>S.lW p q hp hq (hk hb).1) rfl ?_
 conv=>whnf
 refine .mk (by exact fun h=>⟨h,h⟩) ?_
 conv=>whnf
 refine ah.dL (fun hb=>S.FI p _ _ _ w f (Yt (hk hb).1 (hk hb).2)) rfl ?_
 conv=>whnf
 refine VC.mk id ?_
 conv=>whnf
 exact ak.bool rfl
theorem S.lg(p:aC)(q:Prop')(w:List Int)(f:Bool)(hp:dJ p)(hq:gG q)(hw:w.length<2^30):aj Tryz.prog 16 [.dat (.gW p),.dat (.prop q),.row 0 f (.ints w)] (.bool (cwB p q w)):=by
 refine aj.of Bd.lg (by simp) rfl rfl ?_
 conv=>whnf
 refine ah.pure (S.yG p q 2 hp hq) rfl ?_
 conv=>whnf
 refine .mk (by exact fun h=>⟨h,h⟩) ?_
 conv=>whnf
 refine ah.dL (fun _=>S.qK p w f hw) rfl ?_
 conv=>whnf
 repeat(refine VC.mk (by first|exact id|exact fun h=>⟨h,h⟩) ?_; conv=>whnf)
 have hk:((Bg p q 2==0)&&GN p w)=true->uU p q=0/\GN p w=true:=fun h=>by
  rw[Bool.and_eq_true,beq_iff_eq] at h
  exact⟨zX h.1,h.2⟩
 refine ah.dL (fun hb=>S.qO p q hp hq (hk hb).1) rfl ?_
 conv=>whnf
 refine .mk (by intro h; simp only[h,true_and]; done) ?_
 conv=>whnf
 refine ah.dL (fun hb=>S.rU p _ _ _ w f (Yt (hk hb).1 (hk hb).2)) rfl ?_
 conv=>whnf
 refine VC.mk id ?_
 conv=>whnf
 exact ak.bool rfl
def rV(m:Nat):List Int->Nat
 |[]=>0
 |x::r=>x.toNat*(m+1)^r.length+rV m r
theorem acW{α:Type}{g:Nat->List α}{B:Nat}(hg: ∀ k,(g k).length=B){K k j:Nat}(hk:k<K)(hj:j<B):((List.range K).flatMap g)[k*B+j]? =(g k)[j]? :=by
 induction K with
 |zero=>omega
 |succ K ih =>
  rw[List.range_succ,List.flatMap_append,List.flatMap_cons,List.flatMap_nil,List.append_nil]
  have hl:((List.range K).flatMap g).length=K*B:=by rw[WA hg,List.length_range]
  by_cases h:k=K
  ·subst h
   rw[List.getElem?_append_right (by omega),hl,Nat.add_sub_cancel_left]
  ·have hk':k<K:=by omega
   have:(k+1)*B<=K*B:=Nat.mul_le_mul_right _ hk'
   rw[Nat.add_mul,Nat.one_mul] at this
   rw[List.getElem?_append_left (by omega),ih hk']
theorem WT{m:Nat}: ∀ {c:List Int},(∀ x∈c,0<=x/\x<=m)->rV m c<(m+1)^c.length:=by
 intro c
 induction c with
 |nil=>intro _; simp[rV]
 |cons x r ih =>
  intro h
  have h1:=ih fun y hy=>h y (List.mem_cons_of_mem _ hy)
  have h2:=h x (by simp)
  simp only[rV,List.length_cons,Nat.pow_succ]
  have h3:x.toNat<=m:=by omega
  have h4:x.toNat*(m+1)^r.length<=m*(m+1)^r.length:=Nat.mul_le_mul_right _ h3
  rw[Nat.mul_succ,Nat.mul_comm _ m]
  omega
theorem acX{m:Nat}: ∀ {n:Nat} {c:List Int},c.length=n->(∀ x∈c,0<=x/\x<=m)->(allM m n)[rV m c]? =some c:=by
 intro n
 induction n with
 |zero =>
  intro c hc _
  have:c=[]:=List.length_eq_zero_iff.1 hc
  subst this; rfl
 |succ n ih =>
  intro c hc h
  cases c with
  |nil=>cases hc
  |cons x r =>
   have hr:r.length=n:=by simpa using hc
   have hx:=h x (by simp)
   have hrr: ∀ y∈r,0<=y/\y<=m:=fun y hy=>h y (List.mem_cons_of_mem _ hy)
   have h1:=WT hrr
   simp only[rV,allM]
   rw[hr] at h1 ⊢
   rw[acW (B:=(m+1)^n) (fun k=>by rw[List.length_map,rO]) (by omega) h1,List.getElem?_map,ih hr hrr]
   show some (((x.toNat:Nat):Int)::r)=_
   rw[Int.toNat_of_nonneg hx.1]
theorem RH{m:Nat}: ∀ {a b:List Int},rV m (a++b)=rV m a*(m+1)^b.length+rV m b:=by
 intro a b
 induction a with
 |nil=>simp[rV]
 |cons x r ih =>
  simp only[List.cons_append,rV,ih,List.length_append,Nat.pow_add]
  rw[Nat.add_mul,Nat.mul_assoc]
  omega
theorem NG{m t:Nat}:rV m (List.replicate t 0)=0:=by
 induction t with
 |zero=>rfl
 |succ t ih=>rw[List.replicate_succ]; simp[rV,ih]
theorem RI{m t:Nat}:rV m (List.replicate t (m:Int))+1=(m+1)^t:=by
 induction t with
 |zero=>rfl
 |succ t ih =>
  rw[List.replicate_succ]
  simp only[rV,List.length_replicate,Int.toNat_natCast,Nat.pow_succ]
  rw[Nat.mul_succ,Nat.mul_comm _ m]
  omega
theorem Yu{m t:Nat}{a:List Int}{x:Int}(hx:0<=x):rV m (a++(x+1)::List.replicate t 0)=rV m (a++x::List.replicate t (m:Int))+1:=by
 rw[RH,RH]
 simp only[rV,List.length_cons,List.length_replicate,NG]
 have e:(x+1).toNat=x.toNat+1:=by omega
 have:=RI (m:=m) (t:=t)
 rw[e,Nat.add_mul,Nat.one_mul]
 omega
structure FN(ac:List Int->Bool)(m n:Nat)(w:List Int):Prop where
 len:w.length=n
 rng: ∀ x∈w,0<=x/\x<=(m:Int)
 no: ∀ j,j<rV m w->ac ((allM m n).getD j [])=false
theorem FN.lt{ac:List Int->Bool}{m n:Nat}{w:List Int}(h:FN ac m n w):rV m w<(m+1)^n:=by rw[<- h.len]; exact WT h.rng
theorem FN.at'{ac:List Int->Bool}{m n:Nat}{w:List Int}(h:FN ac m n w):(allM m n)[rV m w]? =some w:=acX h.len h.rng
theorem FN.zero{ac:List Int->Bool}{m n:Nat}:FN ac m n (List.replicate n 0):=by
 refine⟨by simp,fun x hx=>?_,fun j hj=>?_⟩
 ·rw[List.eq_of_mem_replicate hx]; omega
 ·rw[NG] at hj; omega
theorem FN.yes{ac:List Int->Bool}{m n:Nat}{w:List Int}(h:FN ac m n w)(ha:ac w=true):(allM m n).find? ac=some w:=by
 rw[List.find?_eq_some_iff_getElem]
 have hl:rV m w<(allM m n).length:=by rw[rO]; exact h.lt
 have e:=h.at'
 rw[List.getElem?_eq_getElem hl,Option.some.injEq] at e
 refine⟨ha,_,hl,e,fun j hj=>?_⟩
 have:=h.no j hj
 rw[getD_some (by omega)] at this
 rw[this]; rfl
theorem FN.next{ac:List Int->Bool}{m n t:Nat}{a:List Int}{x:Int}(h:FN ac m n (a++x::List.replicate t (m:Int)))(hx:x≠m)(hn:ac (a++x::List.replicate t (m:Int))=false):FN ac m n (a++(x+1)::List.replicate t 0)/\(m+1)^n-rV m (a++(x+1)::List.replicate t 0)<(m+1)^n-rV m (a++x::List.replicate t (m:Int)):=by
 have h0:=h.rng x (by simp)
 have e:=Yu (m:=m) (t:=t) (a:=a) (x:=x) h0.1
 refine⟨⟨?_,fun y hy=>?_,fun j hj=>?_⟩,?_⟩
 ·have:=h.len
  simp only[List.length_append,List.length_cons,List.length_replicate] at this ⊢
  exact this
 ·rcases List.mem_append.1 hy with hy|hy
  ·exact h.rng y (List.mem_append.2 (.inl hy))
  ·rcases List.mem_cons.1 hy with rfl|hy
   ·omega
   ·rw[List.eq_of_mem_replicate hy]; omega
 ·rw[e] at hj
  rcases Nat.lt_or_ge j (rV m (a++x::List.replicate t (m:Int))) with q|q
  ·exact h.no j q
  ·have:j=rV m (a++x::List.replicate t (m:Int)):=by omega
   subst this
   rw[List.getD_eq_getElem?_getD,h.at']; exact hn
 ·have:=h.lt
  omega
theorem FN.none{ac:List Int->Bool}{m n:Nat}(h:FN ac m n (List.replicate n (m:Int)))(hn:ac (List.replicate n (m:Int))=false):(allM m n).find? ac=none:=by
 rw[List.find?_eq_none]
 intro w hw
 obtain⟨j,hj,e⟩:=List.mem_iff_getElem.1 hw
 have ht:=RI (m:=m) (t:=n)
 rw[rO] at hj
 rcases Nat.lt_or_ge j (rV m (List.replicate n (m:Int))) with q|q
 ·have:=h.no j q
  rw[getD_some (by rw[rO]; exact hj),e] at this
  rw[this]; decide
 ·have:j=rV m (List.replicate n (m:Int)):=by omega
  subst this
  have e2:=h.at'
  rw[List.getElem?_eq_getElem (by rw[rO]; exact hj),Option.some.injEq,e] at e2
  rw[e2,hn]; decide
def rW(w:List Int)(t:Nat):List Int:=w.take (w.length-t)++List.replicate t 0
theorem Yv{w:List Int}{t:Nat}(h:t<=w.length):(rW w t).length=w.length:=by simp[rW]; omega
theorem Hg{w:List Int}{t i:Nat}(h:i+t<w.length):(rW w t).getD i 0=w.getD i 0:=by
 unfold rW
 rw[List.getD_eq_getElem?_getD,List.getElem?_append_left (by rw[List.length_take]; omega),List.getElem?_take_of_lt (by omega),<- List.getD_eq_getElem?_getD]
theorem U0{w:List Int}{t:Nat}(h:t<w.length):(rW w t).set (w.length-(t+1)) 0=rW w (t+1):=by
 unfold rW
 have e:w.take (w.length-t)=w.take (w.length-(t+1))++[w[w.length-(t+1)]'(by omega)]:=by
  rw[show w.length-t=(w.length-(t+1))+1 by omega,List.take_add_one,List.getElem?_eq_getElem (by omega)]; rfl
 rw[e,List.append_assoc,List.set_append_right _ _ (by rw[List.length_take]; omega),List.length_take]
 rw[show w.length-(t+1)-min (w.length-(t+1)) w.length=0 by omega]
 rfl
theorem RJ{w:List Int}{t:Nat}{m:Int}(h:t<=w.length)(hm: ∀ j,w.length-t<=j->j<w.length->w.getD j 0=m):w.drop (w.length-t)=List.replicate t m:=by
 apply List.ext_getElem
 ·simp; omega
 ·intro j h1 h2
  have h2':j<t:=by simpa using h2
  rw[List.getElem_drop,List.getElem_replicate]
  have:=hm (w.length-t+j) (by omega) (by omega)
  rw[getD_some (by omega)] at this; exact this
theorem S.NH(a:List Int)(f g:Bool)(ha:a.length<2^30):aj Tryz.prog 14 [.row 0 f (.ints a),.row 0 g (.ints a)] (.bool true):=by
 refine aj.of Bd.oh (by simp) rfl rfl ?_
 conv=>whnf
 refine Fork.mk (fun h1=>absurd h1 (by simp)) (fun h1=>?_)
 conv=>whnf
 refine aB.same [0,1] (fun i:Nat=>[(5,.int i)]) (fun i=>i<=a.length) (fun i=>a.length-i) 0 rfl (by decide) rfl (fun _=>rfl) (Nat.zero_le _) ⟨⟨_,rfl,rfl⟩,trivial⟩ ?_
 conv=>whnf
 refine⟨rfl,?_⟩
 rintro i hi
 conv=>whnf
 refine⟨fun h2=>?_,fun h2=>?_⟩
 ·have hi':i<a.length:=by simpa using h2
  conv=>whnf
  repeat(refine VC.mk (by simp only[Rw.rng] at *; first|omega|(simp_all; done)|(simp_all; omega)) ?_; conv=>whnf)
  refine⟨fun h3=>?_,fun h3=>?_⟩
  ·exfalso
   revert h3
   simp
  ·conv=>whnf
   refine .mk (by simp only[okI] at *; first|omega|(simp_all; done)|(simp_all; omega)) ?_
   conv=>whnf
   refine⟨i+1,hi',by omega,⟨⟨_,rfl,rfl⟩,trivial⟩,?_,rfl⟩
   repeat' (first|exact trivial|exact⟨_,rfl,rfl⟩|constructor)
 ·conv=>whnf
  exact ak.bool rfl
def U1(p:aC)(q:Prop')(w:List Int):Int:=bif Bg p q 2 !=0 then Bg p q 2 else bif GN p w then 0 else 1
noncomputable def hfL(p:aC)(q:Prop')(w:List Int):List (List Int):=@ite _ (U1 p q w=0) (Classical.propDecidable _) (Hf p (bV p q) ((bV p q).map (zY p)) ((bV p q).map (xQ (bV p q) p)) w).pz []
theorem aen{p:aC}{q:Prop'}{w:List Int}(h:Bg p q 2≠0):U1 p q w=Bg p q 2/\hfL p q w=[]:=by
 have e:U1 p q w=Bg p q 2:=by unfold U1; rw[show(Bg p q 2 !=0)=true by simpa using h]; rfl
 exact⟨e,if_neg (by rw[e]; exact h)⟩
theorem aeo{p:aC}{q:Prop'}{w:List Int}(h:Bg p q 2=0)(hw:GN p w=false):U1 p q w=1/\hfL p q w=[]:=by
 have e:U1 p q w=1:=by unfold U1; rw[h,hw]; rfl
 exact⟨e,if_neg (by rw[e]; decide)⟩
theorem U2{p:aC}{q:Prop'}{w:List Int}(h:Bg p q 2=0)(hw:GN p w=true):U1 p q w=0/\hfL p q w=(Hf p (bV p q) ((bV p q).map (zY p)) ((bV p q).map (xQ (bV p q) p)) w).pz:=by
 have e:U1 p q w=0:=by unfold U1; rw[h,hw]; rfl
 exact⟨e,if_pos e⟩
theorem ak.WU{h:Hz}{k:Nat}{c:Int}{l:List (List Int)}(e:l=[]):ak (.fZ [.row 0 false (.gu l),.int c]) (.fZ [.row k true .nil,.int c]) h:=⟨by
 subst e
 show T.sub _ _ (.fZ _) (.fZ _)
 simp only[T.sub]
 exact⟨by show T.sub _ _ (.sl 0 false []) (.sl k true []); simp[T.sub],aG _,trivial⟩⟩
theorem S.uH(p:aC)(q:Prop')(w:List Int)(f:Bool)(hp:dJ p)(hq:gG q)(hw:w.length<2^30):aj Tryz.prog 13 [.dat (.gW p),.dat (.prop q),.row 0 f (.ints w)] (.fZ [.row 0 false (.gu (hfL p q w)),.int (U1 p q w)]):=by
 refine aj.of Bd.uH (by simp) rfl rfl ?_
 conv=>whnf
 refine ah.pure (S.yG p q 2 hp hq) rfl ?_
 conv=>whnf
 refine⟨fun h1=>?_,fun h1=>?_⟩
 ·obtain⟨e1,e2⟩:=aen (w:=w) (show Bg p q 2≠0 by simpa using h1)
  conv=>whnf
  rw[e1]
  exact ak.WU e2
 ·have h0:Bg p q 2=0:=by simpa using h1
  conv=>whnf
  refine ah.pure (S.qK p w f hw) rfl ?_
  conv=>whnf
  refine⟨fun h2=>?_,fun h2=>?_⟩
  ·obtain⟨e1,e2⟩:=aeo (w:=w) h0 (show GN p w=false by simpa using h2)
   conv=>whnf
   rw[e1]
   exact ak.WU e2
  ·have hv:GN p w=true:=by simpa using h2
   obtain⟨e1,e2⟩:=U2 (w:=w) h0 hv
   conv=>whnf
   refine ah.pure (S.qO p q hp hq (zX h0)) rfl ?_
   conv=>whnf
   refine ah.pure (S.vS p _ _ _ w f (Yt (zX h0) hv)) rfl ?_
   conv=>whnf
   rw[e1,e2]
   exact ak.eqv rfl
theorem aaU{w:List Int}{t:Nat}{m:Int}(h:t<w.length)(hm: ∀ j,w.length-t<=j->j<w.length->w.getD j 0=m):w=w.take (w.length-(t+1))++w.getD (w.length-(t+1)) 0::List.replicate t m:=by
 have h1:w.length-(t+1)<w.length:=by omega
 rw[<- RJ (by omega) hm,getD_some h1,show w.length-t=(w.length-(t+1))+1 by omega,<- List.drop_eq_getElem_cons h1,List.take_append_drop]
theorem Yw{w:List Int}{t:Nat}{v:Int}(h:t<w.length):(rW w t).set (w.length-(t+1)) v=w.take (w.length-(t+1))++v::List.replicate t 0:=by
 unfold rW
 have e:w.take (w.length-t)=w.take (w.length-(t+1))++[w[w.length-(t+1)]'(by omega)]:=by
  rw[show w.length-t=(w.length-(t+1))+1 by omega,List.take_add_one,List.getElem?_eq_getElem (by omega)]; rfl
 rw[e,List.append_assoc,List.set_append_right _ _ (by rw[List.length_take]; omega),List.length_take]
 rw[show w.length-(t+1)-min (w.length-(t+1)) w.length=0 by omega]
 rfl
def fwE(p:aC)(q:Prop')(most:Int):Int:=bif Bg p q 2 !=0 then Bg p q 2 else bif decide (most<0)||decide (most>3) then 1 else 0
noncomputable def fwO(p:aC)(q:Prop')(most:Int):Option (List Int):=@ite _ (fwE p q most=0) (Classical.propDecidable _) ((allM most.toNat p.states.length).find? (Kt p q)) none
noncomputable def fwV(p:aC)(q:Prop')(most:Int):V:=.fZ [.row 0 false (.ints ((fwO p q most).getD [])),.bool (fwO p q most).isSome,.int (fwE p q most)]
theorem agE{p:aC}{q:Prop'}{most:Int}(h:Bg p q 2≠0):fwV p q most= .fZ [.row 0 false (.ints []),.bool false,.int (Bg p q 2)]:=by
 have e:fwE p q most=Bg p q 2:=by unfold fwE; rw[show(Bg p q 2 !=0)=true by simpa using h]; rfl
 have e2:fwO p q most=none:=if_neg (by rw[e]; exact h)
 unfold fwV; rw[e2,e]; rfl
theorem agF{p:aC}{q:Prop'}{most:Int}(h:Bg p q 2=0)(hm:(decide (most<0)||decide (most>3))=true):fwV p q most= .fZ [.row 0 false (.ints []),.bool false,.int 1]:=by
 have e:fwE p q most=1:=by unfold fwE; rw[h,hm]; rfl
 have e2:fwO p q most=none:=if_neg (by rw[e]; decide)
 unfold fwV; rw[e2,e]; rfl
theorem aaV{p:aC}{q:Prop'}{most:Int}{o:Option (List Int)}(h:Bg p q 2=0)(hm:(decide (most<0)||decide (most>3))=false)(ho:(allM most.toNat p.states.length).find? (Kt p q)=o):fwV p q most= .fZ [.row 0 false (.ints (o.getD [])),.bool o.isSome,.int 0]:=by
 have e:fwE p q most=0:=by unfold fwE; rw[h,hm]; rfl
 have e2:fwO p q most=o:=by rw[<- ho]; exact if_pos e
 unfold fwV; rw[e2,e]
theorem ak.fwN{h:Hz}{c:Int}:ak (.fZ [.row 0 false (.ints []),.bool false,.int c]) (.fZ [.row 0 true .nil,.bool false,.int c]) h:=⟨by
 show T.sub _ _ (.fZ _) (.fZ _)
 simp only[T.sub]
 exact⟨by show T.sub _ _ (.sl 0 false []) (.sl 0 true []); simp[T.sub],aG _,aG _,trivial⟩⟩
theorem ak.fwY{h:Hz}{j:Nat}{l:List Int}(q:h.get j=some (mg l)):ak (.fZ [.row 0 false (.ints l),.bool true,.int 0]) (.fZ [.own j,.bool true,.int 0]) h:=⟨by
 show T.sub _ _ (.fZ _) (.fZ _)
 simp only[T.sub]
 exact⟨D5 trivial q,aG _,aG _,trivial⟩⟩
theorem agG{p:aC}{m:Nat}{w:List Int}(hm:m<=3)(hl:w.length=p.states.length)(hr: ∀ x∈w,0<=x/\x<=(m:Int)):GN p w=true:=by
 unfold GN
 rw[show((w.length:Int) !=p.states.length)=false by rw[hl]; simp]
 show w.all Um=true
 rw[List.all_eq_true]
 intro x hx
 have:=hr x hx
 unfold Um
 rw[show decide (x<0)=false by simp; omega,show decide (6<x)=false by simp; omega]; rfl
set_option maxHeartbeats 1000000 in
theorem S.lq(p:aC)(q:Prop')(most:Int)(hp:dJ p)(hq:gG q):aj Tryz.prog 17 [.dat (.gW p),.dat (.prop q),.int most] (fwV p q most):=by
 refine aj.of Bd.lq (by simp) rfl rfl ?_
 conv=>whnf
 refine ah.pure (S.jL p q 2 hp hq) rfl ?_
 conv=>whnf
 refine⟨fun h1=>?_,fun h1=>?_⟩
 ·rw[agE (show Bg p q 2≠0 by simpa using h1)]
  conv=>whnf
  exact ak.fwN
 ·have h0:Bg p q 2=0:=by simpa using h1
  conv=>whnf
  repeat(refine VC.mk (by first|exact id|(intro h; rw[h]; rfl)) ?_; conv=>whnf)
  refine⟨fun h2=>?_,fun h2=>?_⟩
  ·rw[agF h0 h2]
   conv=>whnf
   exact ak.fwN
  ·have hms:0<=most/\most<=3:=by
    have h2':(decide (most<0)||decide (most>3))=false:=h2
    rw[Bool.or_eq_false_iff,decide_eq_false_iff_not,decide_eq_false_iff_not] at h2'; omega
   have hv:=zX h0
   have hst:=(lT (iP (nV (zV hv))).1).states
   have hfy:=fun o ho=>aaV (o:=o) h0 h2 ho
   obtain⟨m,rfl⟩: ∃ m:Nat,most=m:=⟨most.toNat,by omega⟩
   have hm3:m<=3:=by omega
   simp only[Int.toNat_natCast] at hfy
   have hr0:=Bj (lT (iP (nV (zV hv))).1).pos
   generalize fwV p q m=VV at hfy
   conv=>whnf
   refine ah.pure (S.lW p q hp hq hv) rfl ?_
   have hF:=fun w (hw:GN p w=true)=>Yt (p:=p) (q:=q) (w:=w) hv hw
   have hac: ∀ w,Kt p q w=L9 p (bV p q) ((bV p q).map (zY p)) ((bV p q).map (xQ (bV p q) p)) w:=fun _=>rfl
   generalize Kt p q=ac at hfy hac
   generalize bV p q=l at hF hac
   generalize l.map (zY p)=on at hF hac
   generalize l.map (xQ l p)=dG at hF hac
   conv=>whnf
   rw[hr0]
   conv=>whnf
   refine .mk (by omega) ?_
   conv=>whnf
   refine aB.fam 20 [2] (fun w:List Int=>[(10,.ptr 4 0 0),(11,.own 5)]) (fun w=>mY [(4,boxS p l on dG),(5,mg w)]) (fun w=>FN ac m p.states.length w) (fun w=>(m+1)^p.states.length-rV m w) (List.replicate p.states.length 0) (dW [(4,boxS p l on dG),(5,mg (List.replicate p.states.length 0))] [20,25]) _ rfl (by decide) (fun _=>rfl) .zero (sR rfl) (.inl rfl) ?_ ?_
   ·refine gy.lits _ _ ⟨aT rfl rfl,aT rfl rfl,trivial⟩
   conv=>whnf
   refine⟨(sR rfl),rfl,?_⟩
   rintro w hI
   have hwl:=hI.len
   conv=>whnf
   refine ah.lend (S.FI p l on dG w false (hF w (agG hm3 hI.len hI.rng))) ⟨aG _,D5 trivial rfl,trivial⟩ rfl rfl ?_
   rw[<- hac]
   conv=>whnf
   refine⟨fun h3=>?_,fun h3=>?_⟩
   ·rw[hfy _ (hI.yes h3)]
    conv=>whnf
    exact ak.fwY rfl
   ·conv=>whnf
    refine .mk (by simp only[okI] at *; first|omega|(simp_all; done)|(simp_all; omega)) ?_
    conv=>whnf
    have hz0:rW w 0=w:=by simp[rW]
    refine aB.fam 20 [2,10] (fun t:Nat=>[(12,.int ((w.length:Int)-1-t)),(11,.own 5)]) (fun t=>mY [(4,boxS p l on dG),(5,mg (rW w t))]) (fun t=>t<=w.length/\ ∀ j,w.length-t<=j->j<w.length->w.getD j 0=m) (fun t=>w.length-t) 0 (dW [(4,boxS p l on dG),(5,mg (rW w 0))] [4,5]) _ rfl (by decide) (fun _=>rfl) ⟨Nat.zero_le _,fun j h1 h2=>by omega⟩ ⟨⟨_,rfl,.eq (congrArg (fun z=>T.int z) (show(w.length:Int)-1-((0:Nat):Int)=(w.length:Int)-1 by omega))⟩,⟨_,rfl,.eq rfl⟩,trivial⟩ (.inl rfl) ?_ ?_
    ·refine gy.lits _ _ ⟨aT rfl rfl,okF rfl nofun rfl rfl rfl ⟨rfl,rfl⟩ ?_,trivial⟩
     rw[hz0]
    conv=>whnf
    refine⟨(sR rfl),rfl,?_⟩
    rintro t ⟨ht,hmt⟩
    have hzl:(rW w t).length=w.length:=Yv ht
    conv=>whnf
    repeat(refine VC.mk (by first|exact id|exact fun h=>⟨h,h⟩|(simp only[Rw.rng] at *; first|omega|(simp_all; done)|(simp_all; omega))) ?_; conv=>whnf)
    refine⟨fun h4=>?_,fun h4=>?_⟩
    ·rw[Bool.and_eq_true] at h4
     have h5:=of_decide_eq_true h4.1
     have htl:t<w.length:=by omega
     have hti:((w.length:Int)-1-t).toNat=w.length-(t+1):=by omega
     have h6:w.getD (w.length-(t+1)) 0=m:=by
      have h7:((rW w t).getD ((w.length:Int)-1-t).toNat 0==(m:Int))=true:=h4.2
      rw[hti,Hg (by omega)] at h7
      simpa using h7
     have hnx:=U0 htl
     conv=>whnf
     repeat(refine VC.mk (by first|(simp only[Rw.rng]; omega)|(simp only[okI] at *; omega)) ?_; conv=>whnf)
     refine gV.lits (t+1) [(4,boxS p l on dG),(5,mg (rW w (t+1)))] [4,5] _ (.inl rfl) rfl ⟨by omega,fun j j1 j2=>?_⟩ (by omega) ⟨⟨_,rfl,.eq (congrArg (fun z=>T.int z) (show(w.length:Int)-1-((t+1:Nat):Int)=(w.length:Int)-1-t-1 by omega))⟩,⟨_,rfl,.eq rfl⟩,trivial⟩ (sR rfl) ⟨aT rfl rfl,okF rfl nofun rfl rfl rfl ⟨rfl,rfl⟩ ?_,trivial⟩
     ·rcases Nat.lt_or_ge j (w.length-t) with g|g
      ·have:j=w.length-(t+1):=by omega
       subst this; exact h6
      ·exact hmt j g j2
     ·rw[<- hnx,<- hti]
    ·conv=>whnf
     refine⟨fun h5=>?_,fun h5=>?_⟩
     ·have h6:=of_decide_eq_true h5
      have htn:t=w.length:=by omega
      have hwm:w=List.replicate p.states.length (m:Int):=by
       have:=RJ ht hmt
       rw[htn,Nat.sub_self,List.drop_zero,hwl] at this; exact this
      rw[hwm] at hI h3
      rw[hfy _ (hI.none h3)]
      conv=>whnf
      exact ak.fwN
     ·have h6:=of_decide_eq_false h5
      have htl:t<w.length:=by omega
      have hti:((w.length:Int)-1-t).toNat=w.length-(t+1):=by omega
      have hne:w.getD (w.length-(t+1)) 0≠m:=by
       intro e
       have h7:(decide ((w.length:Int)-1-t>=0)&&((rW w t).getD ((w.length:Int)-1-t).toNat 0==(m:Int)))=false:=h4
       rw[hti,Hg (by omega),e,decide_eq_true (by omega)] at h7
       simp at h7
      have hsp:=aaU htl hmt
      have hzg:(rW w t).getD (w.length-(t+1)) 0=w.getD (w.length-(t+1)) 0:=Hg (by omega)
      have hrg:=hI.rng _ (dF (d:=0) (show w.length-(t+1)<w.length by omega))
      have hzp:=Yw (v:=w.getD (w.length-(t+1)) 0+1) htl
      generalize w.getD (w.length-(t+1)) 0=x at hne hsp hzg hrg hzp
      rw[<- hti] at hzg
      have hzI:(rW w t).getD ((w.length:Int)-1-t).toNat 0=x:=hzg
      rw[hsp] at hI h3
      obtain⟨n1,n2⟩:=hI.next hne h3
      conv=>whnf
      repeat(refine VC.mk (by first|(simp only[Rw.rng]; omega)|(simp only[okI]; rw[hzI]; omega)) ?_; conv=>whnf)
      refine gV.lits (w.take (w.length-(t+1))++(x+1)::List.replicate t 0) [(4,boxS p l on dG),(5,mg (w.take (w.length-(t+1))++(x+1)::List.replicate t 0))] [4,5] _ (.inl rfl) rfl n1 (by rw[<- hsp] at n2; exact n2) (sR rfl) (sR rfl) ⟨aT rfl rfl,okF rfl nofun rfl rfl rfl ⟨rfl,rfl⟩ ?_,trivial⟩
      rw[hzI,hti,hzp]
def BP(r:List Bool)(i:Nat):List Int:=((List.range i).filter fun j=>r.getD j false).map fun j:Nat=>(j:Int)
theorem Yx{r:List Bool}{i:Nat}:BP r (i+1)=if r.getD i false=true then BP r i++[(i:Int)] else BP r i:=by
 unfold BP
 rw[List.range_succ,List.filter_append,List.map_append]
 cases h:r.getD i false with
 |true =>
  rw[if_pos rfl,show List.filter (fun j=>r.getD j false) [i]=[i] from by rw[List.filter_cons_of_pos (p:=fun j=>r.getD j false) h]; rfl]; rfl
 |false =>
  rw[if_neg (by decide),show List.filter (fun j=>r.getD j false) [i]=[] from by rw[List.filter_cons_of_neg (p:=fun j=>r.getD j false) (by rw[h]; decide)]; rfl,List.map_nil,List.append_nil]
theorem RN{r:List Bool}{i:Nat}:(BP r i).length<=i:=by
 unfold BP
 rw[List.length_map]
 exact Nat.le_trans (List.length_filter_le ..) (by simp)
theorem RP{g:Gr}{a:Nat}(ha:a<g.n):BP (g.ny.getD a []) g.k=g.pz.getD a []:=by
 unfold BP Gr.ny Gr.pz
 rw[je ha,je ha]
 congr 1
 refine List.filter_congr fun i hi=>?_
 rw[je (List.mem_range.1 hi)]
theorem ak.ae3{h:Hz}{j:Nat}{l:List (List Int)}{c:Int}(q:h.get j=some (iC l)):ak (.fZ [.row 0 false (.gu l),.int c]) (.fZ [.own j,.int c]) h:=⟨by
 show T.sub _ _ (.fZ _) (.fZ _)
 simp only[T.sub]
 exact⟨OI trivial q,aG _,trivial⟩⟩
set_option maxHeartbeats 1000000 in
theorem S.rX(p:aC)(q:Prop')(w:List Int)(f:Bool)(hp:dJ p)(hq:gG q)(hw:w.length<2^30):aj Tryz.prog 12 [.dat (.gW p),.dat (.prop q),.row 0 f (.ints w)] (.fZ [.row 0 false (.gu (hfL p q w)),.int (U1 p q w)]):=by
 refine aj.of Bd.rX (by simp) rfl rfl ?_
 conv=>whnf
 refine ah.pure (S.jL p q 2 hp hq) rfl ?_
 conv=>whnf
 refine⟨fun h1=>?_,fun h1=>?_⟩
 ·obtain⟨e1,e2⟩:=aen (w:=w) (show Bg p q 2≠0 by simpa using h1)
  conv=>whnf
  rw[e1]
  exact ak.WU e2
 ·have h0:Bg p q 2=0:=by simpa using h1
  conv=>whnf
  refine ah.pure (S.jk p w f hw) rfl ?_
  conv=>whnf
  refine⟨fun h2=>?_,fun h2=>?_⟩
  ·obtain⟨e1,e2⟩:=aeo (w:=w) h0 (show GN p w=false by simpa using h2)
   conv=>whnf
   rw[e1]
   exact ak.WU e2
  ·have hv:GN p w=true:=by simpa using h2
   obtain⟨e1,e2⟩:=U2 (w:=w) h0 hv
   have hF:=Yt (zX h0) hv
   rw[e1,e2]
   conv=>whnf
   refine ah.pure (S.lW p q hp hq (zX h0)) rfl ?_
   generalize bV p q=l at hF
   generalize l.map (zY p)=on at hF
   generalize l.map (xQ l p)=dG at hF
   conv=>whnf
   refine ah.pure (S.FD p l on dG w f hF) rfl ?_
   have hn:=hF.n
   have hk:=hF.k
   generalize hg:Hf p l on dG w=g
   have gn:g.n=l.length:=by rw[<- hg]; rfl
   have gk:g.k=p.rules.length:=by rw[<- hg]; rfl
   have hH:g.ny.length=l.length:=by rw[Fz,gn]
   have hM:g.pz.length=l.length:=by rw[FK,gn]
   conv=>whnf
   refine aB.nil 9 24 0 (by rfl) rfl rfl rfl ?_
   refine aB.fam 20 [29,30] (fun a:Nat=>[(31,.int a),(9,.own 5)]) (fun a=>mY [(5,iC (g.pz.take a))]) (fun a=>a<=l.length) (fun a=>l.length-a) 0 (dW [(5,iC (g.pz.take 0))] [22]) _ rfl (by decide) (fun _=>rfl) (Nat.zero_le _) (sR rfl) (.inl rfl) ?_ ?_
   ·exact gy.lits _ _ ⟨aT rfl rfl,trivial⟩
   conv=>whnf
   refine⟨(sR rfl),rfl,?_⟩
   rintro a ha
   have htl:(g.pz.take a).length=a:=by rw[List.length_take]; omega
   conv=>whnf
   refine⟨fun h3=>?_,fun h3=>?_⟩
   ·have ha':a<l.length:=by
     have:(a:Int)<(g.ny.length:Int):=of_decide_eq_true h3
     omega
    have hrow:(g.ny.getD a []).length=g.k:=J6 (by omega)
    have hall:=RP (g:=g) (a:=a) (by omega)
    conv=>whnf
    refine .mk (by simp only[Rw.rng] at *; first|omega|(simp_all; done)|(simp_all; omega)) ?_
    conv=>whnf
    obtain⟨r,hr⟩: ∃ r,r=g.ny.getD a []:=⟨_,rfl⟩
    rw[<- hr] at hrow hall
    rw[show g.ny.getD (a:Int).toNat []=r from hr.symm]
    refine aB.nil 12 3 0 (by rfl) rfl rfl rfl ?_
    refine aB.fam 20 [9,29,30,31,35,36] (fun i:Nat=>[(37,.int i),(12,.own 6)]) (fun i=>mY [(5,iC (g.pz.take a)),(6,mg (BP r i))]) (fun i=>i<=r.length) (fun i=>r.length-i) 0 (dW [(5,iC (g.pz.take a)),(6,mg (BP r 0))] [5,28]) _ rfl (by decide) (fun _=>rfl) (Nat.zero_le _) (sR rfl) (.inl rfl) ?_ ?_
    ·exact gy.lits _ _ ⟨aT rfl rfl,aT rfl rfl,trivial⟩
    conv=>whnf
    refine⟨(sR rfl),rfl,?_⟩
    rintro i hi
    have hil:=RN (r:=r) (i:=i)
    have hnx:=Yx (r:=r) (i:=i)
    conv=>whnf
    refine⟨fun h4=>?_,fun h4=>?_⟩
    ·have hi':i<r.length:=by simpa using h4
     conv=>whnf
     refine .mk (by simp only[Rw.rng] at *; first|omega|(simp_all; done)|(simp_all; omega)) ?_
     conv=>whnf
     refine⟨fun h5=>?_,fun h5=>?_⟩
     ·rw[if_pos (show r.getD i false=true from h5)] at hnx
      conv=>whnf
      repeat(refine VC.mk (by first|(show((BP r i).length+(0+1))*8<=140737488355328/\(BP r i).length+(0+1)<=1152921504606846976; omega)|(simp only[okI] at *; first|omega|(simp_all; done)|(simp_all; omega))) ?_; conv=>whnf)
      refine gV.lits (i+1) [(5,iC (g.pz.take a)),(6,mg (BP r (i+1)))] [5,30] _ (.inl rfl) rfl hi' (by omega) (sR rfl) (sR rfl) ⟨aT rfl rfl,okF rfl nofun rfl rfl rfl ⟨rfl,rfl⟩ ?_,trivial⟩
      rw[hnx]
     ·rw[if_neg (by rw[show r.getD i false=false from h5]; decide)] at hnx
      conv=>whnf
      refine .mk (by simp only[okI] at *; first|omega|(simp_all; done)|(simp_all; omega)) ?_
      conv=>whnf
      exact gV.lits (i+1) [(5,iC (g.pz.take a)),(6,mg (BP r i))] [5,6] _ (.inl rfl) (by rw[hnx]) hi' (by omega) (sR rfl) (sR rfl) ⟨aT rfl rfl,aT rfl rfl,trivial⟩
    ·have hi':i=g.k:=by
      have: ¬ i<r.length:=by simpa using h4
      omega
     have hst:g.pz.take (a+1)=g.pz.take a++[BP r i]:=by
      rw[hi',hall,List.take_add_one,List.getElem?_eq_getElem (by omega),getD_some (by omega)]; rfl
     conv=>whnf
     repeat(refine VC.mk (by first|(show((g.pz.take a).length+1)*24<=140737488355328/\(g.pz.take a).length+1<=1152921504606846976; omega)|(simp only[okI] at *; first|omega|(simp_all; done)|(simp_all; omega))) ?_; conv=>whnf)
     refine gV.lits (a+1) [(5,iC (g.pz.take a++[BP r i]))] [24] [(24,some (iC (g.pz.take a++[BP r i])))] (.inr ⟨fun z=>z=6,Di (Z:=fun z=>z=6) (j:=6) rfl rfl (Nat.ne_of_beq_eq_false rfl) rfl rfl,trivial⟩) (by rw[hst]) ha' (by omega) (sR rfl) (sR rfl) ⟨aT rfl rfl,trivial⟩
   ·have ha':l.length<=a:=by
     have: ¬ ((a:Int)<(g.ny.length:Int)):=of_decide_eq_false h3
     omega
    rw[List.take_of_length_le (by omega)]
    conv=>whnf
    exact ak.ae3 rfl
structure ail(g g':Gr):Prop where
 n:g.n=g'.n
 k:g.k=g'.k
 Uo: ∀ a i,i<g.k->g.Uo a i=g'.Uo a i
 Fv: ∀ a x,x<g.k->g.Fv a x=g'.Fv a x
 Qq:g.Qq=g'.Qq
 dG:g.dG=g'.dG
end Go.Proofs.YtajmbgljnaljiaaGreatDoor
