/-
 The space of a property: fair's. No condition.
-/
import Derived.Test.YtajmbgljnaljiaaGreatDoorAe
namespace Go.Proofs.YtajmbgljnaljiaaGreatDoor
open Go.Ab Go.Proofs
set_option maxRecDepth 100000
theorem acV(c:Nat)(v:V): ∀ (cs:List V),V.aS (cs.set c v)=(V.aS cs).set c v.aI:=by
 induction c with
 |zero=>intro cs; cases cs<;>rfl
 |succ c ih =>
  intro cs
  cases cs with
  |nil=>rfl
  |cons x r=>show x.aI::V.aS (r.set c v)=x.aI::(V.aS r).set c v.aI; rw[ih r]
theorem O8: ∀ (cs:List V),(V.aS cs).length=cs.length:=by
 intro cs
 induction cs with
 |nil=>rfl
 |cons x r ih=>show(V.aS r).length+1=r.length+1; rw[ih]
theorem aB.acW{P:Program}{N pn nx:Nat}{b:gI}{Q:Qz}{m:Fm}{h:Hz}(j c ty k:Nat){k' oty:Nat}{cs:List V}(hj:h.get j=some (.box oty (cs.length+1) (.agg cs)))(hc:c<cs.length)(hg:(V.aS cs).getD c .any= .sl k' true [])(hk:zh k=true)(hn:j<nx)
  (H:aB P N pn b Q m ((nx,some (.row ty k .nil []))::(j,some (.box oty (cs.length+1) (.agg (cs.set c (.own nx)))))::h) (nx+1)):aB P N pn b Q m h nx:=by
 refine⟨fun fr hl R=>?_⟩
 have H':=H.ok fr hl R
 have e:Hz.au ((nx,some (.row ty k .nil []))::(j,some (.box oty (cs.length+1) (.agg (cs.set c (.own nx)))))::h)=upd (upd h.au j (some ⟨oty,(V.aS cs).length+1,[.agg ((V.aS cs).set c (.own nx))]⟩)) nx (some ⟨ty,k,[]⟩):=by
  rw[bG,bG,O8]
  show upd (upd h.au j (some ⟨oty,cs.length+1,[.agg (V.aS (cs.set c (.own nx)))]⟩)) nx (some ⟨ty,k,[]⟩)=_
  rw[acV]; rfl
 rw[e] at H'
 obtain⟨I,μ,⟨s0,w0,i0⟩,round⟩:=H'
 have hj':h.au j=some ⟨oty,(V.aS cs).length+1,[.agg (V.aS cs)]⟩:=by rw[O8]; exact aO hj
 exact⟨I,μ,⟨s0,Wk.acX j c ty k hj' (by rw[O8]; exact hc) hg hk hn w0,i0⟩,round⟩
abbrev yB:V:=.row 0 true .nil
abbrev zSp:V:=.agg [.str [],.int 0,yB,yB,yB,.int 0,yB,yB,yB,yB,yB,yB,yB]
abbrev spO(p:aC)(l:List Elem)(i j:Nat):V:=.agg [.str p.name,.int p.topology,.row 0 false (.strs p.states),.row 0 false (.strs p.messages),.row 0 false (.strs p.values),.int p.fault,.row 5 false (.y8 p.bQ),.row 0 false (.ints p.initial),.row 0 false (.ints p.leader),.row 19 false (.rules p.rules),.row 3 false (.elems l),.own i,.own j]
abbrev spC(p:aC)(l:List Elem)(u v:V):List V:=[.str p.name,.int p.topology,.row 0 false (.strs p.states),.row 0 false (.strs p.messages),.row 0 false (.strs p.values),.int p.fault,.row 5 false (.y8 p.bQ),.row 0 false (.ints p.initial),.row 0 false (.ints p.leader),.row 19 false (.rules p.rules),.row 3 false (.elems l),u,v]
abbrev aeo(p:aC)(l:List Elem)(i j:Nat):OV:=.box 66 14 (spO p l i j)
abbrev BO(l:List (List Bool)):OV:=.row 69 0 (.iL l) []
abbrev J7(l:List (List (List Int))):OV:=.row 36 0 (.jO l) []
abbrev agL:OV:=.box 66 14 zSp
abbrev aaO(p:aC)(q:Prop')(l:List Elem)(a:Nat):List (Nat×OV):=[(0,LV p),(1,pF q),(2,agL),(8,aeo p l 20 21),(20,BO ((l.take a).map (AV p))),(21,J7 ((l.take a).map (yx l p)))]
def onM(p:aC)(x:Elem)(i:Nat):List Bool:=(List.range i).map (fun j=>(eP (p.rules.getD j default) x).isSome)++List.replicate (p.rules.length-i) false
theorem Rx{p:aC}{x:Elem}:onM p x 0=List.replicate p.rules.length false:=by simp[onM]
theorem WL{p:aC}{x:Elem}{i:Nat}(h:i<=p.rules.length):(onM p x i).length=p.rules.length:=by simp[onM]; omega
theorem WM{p:aC}{x:Elem}{i:Nat}(h:i<p.rules.length):(onM p x i).set i ((eP (p.rules.getD i default) x).isSome)=onM p x (i+1):=by
 unfold onM
 rw[List.set_append_right _ _ (by simp)]
 simp only[List.length_map,List.length_range,Nat.sub_self]
 rw[show p.rules.length-i=(p.rules.length-(i+1))+1 by omega,List.replicate_succ,List.set_cons_zero,List.range_succ,List.map_append,List.append_assoc]; rfl
theorem WO{α β:Type}(f:α->β)(d:α)(l:List α):(List.range l.length).map (fun j=>f (l.getD j d))=l.map f:=by
 apply List.ext_getElem
 ·simp
 ·intro i h1 h2
  have hi:i<l.length:=by simpa using h2
  simp[hi]
theorem WQ{p:aC}{x:Elem}:onM p x p.rules.length=AV p x:=by
 unfold onM AV
 rw[Nat.sub_self,List.replicate_zero,List.append_nil]
 exact WO (fun r=>(eP r x).isSome) default p.rules
def sS(l:List Elem)(p:aC)(x:Elem)(i:Nat):List V:=(List.range i).map (fun j=>V.row 0 false (.ints (DU l (p.rules.getD j default) x)))++List.replicate (p.rules.length-i) (vw .nil)
theorem WR{l:List Elem}{p:aC}{x:Elem}{i:Nat}(h:i<=p.rules.length):(sS l p x i).length=p.rules.length:=by simp[sS]; omega
theorem Ry{l:List Elem}{p:aC}{x:Elem}:sS l p x 0=List.replicate p.rules.length (vw .nil):=by simp[sS]
theorem aaP{l:List Elem}{p:aC}{x:Elem}{i:Nat}(h:i<p.rules.length):(sS l p x i)[i]? =some (vw .nil):=by
 unfold sS
 rw[List.getElem?_append_right (by simp)]
 simp only[List.length_map,List.length_range,Nat.sub_self]
 rw[show p.rules.length-i=(p.rules.length-(i+1))+1 by omega,List.replicate_succ]; rfl
theorem Dp{l:List Elem}{p:aC}{x:Elem}{i:Nat}{v:V}(h:v∈sS l p x i):(∃ c,v= .row 0 false (.ints c))\/v=vw .nil:=by
 unfold sS at h
 rcases List.mem_append.1 h with h|h
 ·obtain⟨j,_,rfl⟩:=List.mem_map.1 h
  exact .inl ⟨_,rfl⟩
 ·exact .inr (List.eq_of_mem_replicate h)
theorem pX{l:List Elem}{p:aC}{x:Elem}{i:Nat}:(OV.gen 24 0 (sS l p x i)).good 30=true:=by
 refine Fq (fun v hv=>?_) fun v hv=>?_<;>rcases Dp hv with ⟨c,rfl⟩|rfl<;>rfl
theorem vS{l:List Elem}{p:aC}{x:Elem}{i:Nat}:(OV.gen 24 0 ((sS l p x i).set i (.own 25))).good 30=true:=by
 refine Fq (fun v hv=>?_) fun v hv=>?_<;>rcases List.mem_or_eq_of_mem_set hv with hv|rfl
 ·rcases Dp hv with ⟨c,rfl⟩|rfl<;>rfl
 ·rfl
 ·rcases Dp hv with ⟨c,rfl⟩|rfl<;>rfl
 ·rfl
theorem Ac{l:List Elem}{p:aC}{x:Elem}{i:Nat}{ρ:Nat->Nat}:bD (T.bU ρ (OV.gen 24 0 (sS l p x i)).ay.l) (OV.gen 24 0 (sS l p x i)).ay.l:=by
 refine bD.of_eq ?_
 show T.bU _ (V.aS (sS l p x i))=V.aS (sS l p x i)
 rw[pV,bJ,List.map_map]
 refine List.map_congr_left fun v hv=>?_
 rcases Dp hv with ⟨c,rfl⟩|rfl<;>rfl
theorem BP{l:List Elem}{p:aC}{x:Elem}{i N:Nat}{ρ:Nat->Nat}(h:ρ 25=N):bD (T.bU ρ (OV.gen 24 0 ((sS l p x i).set i (.own 25))).ay.l) (OV.gen 24 0 ((sS l p x i).set i (.own N))).ay.l:=by
 refine bD.of_eq ?_
 show T.bU _ (V.aS ((sS l p x i).set i (.own 25)))=V.aS ((sS l p x i).set i (.own N))
 rw[pV,bJ,bJ,List.map_map,List.map_set,List.map_set]
 have e:(sS l p x i).map (T.ren ρ ∘ V.aI)=(sS l p x i).map V.aI:=List.map_congr_left fun v hv=>by
  rcases Dp hv with ⟨c,rfl⟩|rfl<;>rfl
 rw[e,<- h]; rfl
theorem WS{l:List Elem}{p:aC}{x:Elem}{i:Nat}{ρ:Nat->Nat}(h:i<p.rules.length)(he:DU l (p.rules.getD i default) x=[]):bD (T.bU ρ (OV.gen 24 0 (sS l p x (i+1))).ay.l) (OV.gen 24 0 (sS l p x i)).ay.l:=by
 intro Z hh
 have hr:=(Ac (l:=l) (p:=p) (x:=x) (i:=i+1) (ρ:=ρ))
 have e:T.bU ρ (V.aS (sS l p x (i+1)))=V.aS (sS l p x (i+1)):=by
  rw[pV,bJ,List.map_map]
  refine List.map_congr_left fun v hv=>?_
  rcases Dp hv with ⟨c,rfl⟩|rfl<;>rfl
 show T.dP Z hh (T.bU ρ (V.aS (sS l p x (i+1)))) (V.aS (sS l p x i))
 rw[e]
 unfold sS
 rw[List.range_succ,List.map_append,List.append_assoc,bJ,bJ,List.map_append,List.map_append (l₁:=List.map _ (List.range i))]
 refine nZ (aP _) ?_
 rw[show p.rules.length-i=(p.rules.length-(i+1))+1 by omega,List.replicate_succ]
 simp only[List.map_cons,List.map_nil,List.cons_append,List.nil_append,he]
 exact⟨by show T.sub Z hh (.sl 0 false []) (.sl 0 true []); simp[T.sub],aP _⟩
theorem WT{l:List Elem}{p:aC}{x:Elem}{i:Nat}{Z:Nat->Prop}{h:Hz}(hi:i<p.rules.length)(hz:Z 25)(hg:h.get 25=some (nN (DU l (p.rules.getD i default) x))) :
  T.dP Z h.au (V.aS (sS l p x (i+1))) (V.aS ((sS l p x i).set i (.own 25)))/\(V.aS (sS l p x (i+1))).map T.kd=(V.aS ((sS l p x i).set i (.own 25))).map T.kd/\(V.aS (sS l p x (i+1))).map fZ=(V.aS ((sS l p x i).set i (.own 25))).map fZ:=by
 have e:(sS l p x i).set i (.own 25)=(List.range i).map (fun j=>V.row 0 false (.ints (DU l (p.rules.getD j default) x)))++ .own 25::List.replicate (p.rules.length-(i+1)) (vw .nil):=by
  unfold sS
  rw[List.set_append_right _ _ (by simp)]
  simp only[List.length_map,List.length_range,Nat.sub_self]
  rw[show p.rules.length-i=(p.rules.length-(i+1))+1 by omega,List.replicate_succ,List.set_cons_zero]
 have e2:sS l p x (i+1)=(List.range i).map (fun j=>V.row 0 false (.ints (DU l (p.rules.getD j default) x)))++V.row 0 false (.ints (DU l (p.rules.getD i default) x))::List.replicate (p.rules.length-(i+1)) (vw .nil):=by
  unfold sS
  rw[List.range_succ,List.map_append,List.append_assoc]; rfl
 rw[e,e2,bJ,bJ,List.map_append,List.map_append,List.map_cons,List.map_cons]
 refine⟨nZ (aP _) ⟨xQ hz hg,aP _⟩,?_,?_⟩
 ·rw[List.map_append,List.map_append,List.map_cons,List.map_cons]; rfl
 ·rw[List.map_append,List.map_append,List.map_cons,List.map_cons]; rfl
theorem WU{l:List Elem}{p:aC}{x:Elem}:V.aS (sS l p x p.rules.length)=(yx l p x).map Go.Ab.ints:=by
 unfold sS yx
 rw[Nat.sub_self,List.replicate_zero,List.append_nil,bJ,List.map_map,List.map_map]
 rw[<- WO (fun r=>(Go.Ab.ints ∘ fun r=>DU l r x) r) default p.rules]
 rfl
theorem Rz{l:List Elem}{p:aC}{x:Elem}{i N:Nat}{ρ:Nat->Nat}(h:ρ 25=N):bD (T.bU ρ (OV.gen 24 0 ((sS l p x i).set i (.own 25))).ay.l) (OV.gen 24 0 (((sS l p x i).set i (.own 25)).set i (.own N))).ay.l:=by
 rw[List.set_set]; exact BP h
theorem RD(l:List (List Bool)):T.dJ (l.map Aa)=true:=by
 rw[dR]; intro t ht; obtain⟨x,_,rfl⟩:=List.mem_map.1 ht; rfl
theorem RF(l:List (List (List Int))):T.dJ (l.map Et)=true:=by
 rw[dR]; intro t ht; obtain⟨x,_,rfl⟩:=List.mem_map.1 ht; rfl
theorem aaQ{h:Hz}{j:Nat}{Z:Nat->Prop}{l:List (List Bool)}(hz:Z j)(q:h.get j=some (BO l)):T.sub Z h.au (V.row 0 false (.iL l)).aI (V.own j).aI:=by
 show T.sub Z h.au (.sl 0 false (l.map Aa)) (.own j)
 simp only[T.sub]
 exact⟨trivial,hz,RD l,by decide,69,by rw[aO q]; simp[OV.ay,Rw.aS,V.aS]⟩
theorem aaR{h:Hz}{j:Nat}{Z:Nat->Prop}{l:List (List (List Int))}(hz:Z j)(q:h.get j=some (J7 l)):T.sub Z h.au (V.row 0 false (.jO l)).aI (V.own j).aI:=by
 show T.sub Z h.au (.sl 0 false (l.map Et)) (.own j)
 simp only[T.sub]
 exact⟨trivial,hz,RF l,by decide,36,by rw[aO q]; simp[OV.ay,Rw.aS,V.aS]⟩
theorem Nu{Z:Nat->Prop}{h:Hz}{i j:Nat}{l:List (List Bool)}{c:List Bool}(q:h.get i=some (.row 69 0 (.iL l) [.own j]))(hi: ¬ Z i)(hz:Z j)(qj:h.get j=some (rowB c)) :
  ∃ o',h.get i=some o'/\ ¬ Z i/\o'.ay.ty=(BO (l++[c])).ay.ty/\o'.ay.k=(BO (l++[c])).ay.k/\T.dP Z h.au (BO (l++[c])).ay.l o'.ay.l/\(BO (l++[c])).ay.l.map T.kd=o'.ay.l.map T.kd/\(BO (l++[c])).ay.l.map fZ=o'.ay.l.map fZ:=by
 have e1:(BO (l++[c])).ay.l=l.map Aa++[Aa c]:=by simp[OV.ay,Rw.aS,V.aS]
 refine⟨_,q,hi,rfl,rfl,?_,?_,?_⟩
 ·rw[e1]
  exact nZ (aP _) ⟨aem hz qj,trivial⟩
 ·rw[e1]; show _=List.map T.kd (l.map Aa++[.own j])
  rw[List.map_append,List.map_append]; rfl
 ·rw[e1]; show _=List.map fZ (l.map Aa++[.own j])
  rw[List.map_append,List.map_append]; rfl
theorem Nv{Z:Nat->Prop}{h:Hz}{i j:Nat}{l:List (List (List Int))}{c:List (List Int)}{o:OV}(q:h.get i=some (.row 36 0 (.jO l) [.own j]))(hi: ¬ Z i)(hz:Z j)(qj:h.get j=some o)(qo:o.ay=⟨24,0,c.map Go.Ab.ints⟩) :
  ∃ o',h.get i=some o'/\ ¬ Z i/\o'.ay.ty=(J7 (l++[c])).ay.ty/\o'.ay.k=(J7 (l++[c])).ay.k/\T.dP Z h.au (J7 (l++[c])).ay.l o'.ay.l/\(J7 (l++[c])).ay.l.map T.kd=o'.ay.l.map T.kd/\(J7 (l++[c])).ay.l.map fZ=o'.ay.l.map fZ:=by
 have e1:(J7 (l++[c])).ay.l=l.map Et++[Et c]:=by simp[OV.ay,Rw.aS,V.aS]
 refine⟨_,q,hi,rfl,rfl,?_,?_,?_⟩
 ·rw[e1]
  refine nZ (aP _) ⟨?_,trivial⟩
  show T.sub Z h.au (.sl 0 false (c.map Go.Ab.ints)) (.own j)
  simp only[T.sub]
  exact⟨trivial,hz,MP c,by decide,24,by rw[aO qj,qo]⟩
 ·rw[e1]; show _=List.map T.kd (l.map Et++[.own j])
  rw[List.map_append,List.map_append]; rfl
 ·rw[e1]; show _=List.map fZ (l.map Et++[.own j])
  rw[List.map_append,List.map_append]; rfl
theorem vT{α β:Type}{f:α->β}{l:List α}{a:Nat}{d:α}(h:a<l.length):(l.take (a+1)).map f=(l.take a).map f++[f (l.getD a d)]:=by
 rw[List.take_add_one,List.getElem?_eq_getElem h,getD_some h,List.map_append]; rfl
abbrev aaS(p:aC)(q:Prop')(l:List Elem)(a i:Nat):List (Nat×OV):=aaO p q l a++[(22,.box 54 3 (.dat (.elem (l.getD a default)))),(23,rowB (onM p (l.getD a default) i))]
abbrev Yq(p:aC)(q:Prop')(l:List Elem)(a i:Nat):List (Nat×OV):=aaS p q l a i++[(24,.gen 24 0 (sS l p (l.getD a default) i))]
def IW(p:aC)(q:Prop')(l:List Elem)(a i j:Nat):List Int->List (Nat×OV)
 |[]=>aaS p q l a i++[(24,.gen 24 0 (sS l p (l.getD a default) j))]
 |x::r=>aaS p q l a i++[(24,.gen 24 0 ((sS l p (l.getD a default) j).set j (.own 25))),(25,nN (x::r))]
set_option maxHeartbeats 2000000 in
theorem S.oV(p:aC)(q:Prop')(hp:dL p)(hq:iF q)(hv:vk p q=0):aj Tryz.prog 34 [.dat (.iE p),.dat (.prop q)] (spV p (dG p q) ((dG p q).map (AV p)) ((dG p q).map (yx (dG p q) p))):=by
 have hc:=uT hv
 have hrc:=UY p q
 rw[I9 hv] at hrc
 obtain⟨hl,hS⟩:=hrc
 have hss:SS (dG p q):=uz _
 have hk:=(kU (gu (lS hc)).1).OY
 generalize hgl:dG p q=l at hl hS hss
 have hsm:eF l:=fun x hx=>by have:=(hS x hx).abs.len; omega
 refine aj.of Bd.oV (by simp) rfl rfl ?_
 conv=>whnf
 refine Ie.pure (S.wK p q hp hq hv) rfl ?_
 rw[hgl]
 conv=>whnf
 refine aB.acW 8 11 69 0 (cs:=spC p l yB yB) rfl (by show 11<13; decide) rfl rfl (by decide) ?_
 refine aB.acW 8 12 36 0 (cs:=spC p l (.own 14) yB) rfl (by show 12<13; decide) rfl rfl (by decide) ?_
 refine aB.fam 30 [2,4,5,22,23] (fun a:Nat=>[(24,.int a)]) (fun a=>mZ (aaO p q l a)) (fun a=>a<=l.length) (fun a=>l.length-a) 0 (dX (aaO p q l 0) [0,1,2,8,14,15]) _ rfl (by decide) (fun _=>rfl) (Nat.zero_le _) (sR rfl) (.inl rfl) ?_ ?_
 ·exact gG.lits (aaO p q l 0) [0,1,2,8,14,15] ⟨aT rfl rfl,aT rfl rfl,aT rfl rfl,kX rfl rfl rfl ⟨rfl,rfl⟩ (bD.of_eq rfl),aT rfl rfl,aT rfl rfl,trivial⟩
 conv=>whnf
 refine⟨(sR rfl),rfl,?_⟩
 rintro a ha
 conv=>whnf
 refine⟨fun h1=>?_,fun h1=>?_⟩
 ·have ha':a<l.length:=by simpa using h1
  have hX:=hS _ (bZ (d:=default) ha')
  have hx6:=hX.abs.len
  obtain⟨r0,hr0,hr1⟩:=Dn p.rules.length
  conv=>whnf
  refine .mk (by simp only[Rw.rng] at *; first|omega|(simp_all; done)|(simp_all; omega)) ?_
  conv=>whnf
  rw[hr0]
  conv=>whnf
  refine .mk (by omega) ?_
  conv=>whnf
  have hz:((bif isZero (V.int p.rules.length) then some Rw.nil else LQ (p.rules.length:Int).toNat T.nil)=some Rw.nil/\p.rules.length=0)\/(bif isZero (V.int p.rules.length) then some Rw.nil else LQ (p.rules.length:Int).toNat T.nil)=none:=by
   rcases Nat.eq_zero_or_pos p.rules.length with h0|h0
   ·exact .inl ⟨by rw[h0]; rfl,h0⟩
   ·exact .inr (yN h0)
  rcases hz with ⟨hz,hk0⟩|hz
  all_goals
   rw[hz]
   conv=>whnf
   repeat(refine VC.mk (by omega) ?_; conv=>whnf)
   refine aB.fam 30 [2,4,5,22,23,24,37,38] (fun i:Nat=>[(39,.int i),(7,.ptr 22 0 0),(8,.own 23),(9,.own 24)]) (fun i=>mZ (Yq p q l a i)) (fun i=>i<=p.rules.length) (fun i=>p.rules.length-i) 0 (dX (Yq p q l a 0) [0,1,2,8,20,21,33,38,43]) _ rfl (by decide) (fun _=>rfl) (Nat.zero_le _) (sR rfl) (.inl rfl) ?_ ?_
   ·refine gG.lits (Yq p q l a 0) [0,1,2,8,20,21,33,38,43] ⟨aT rfl rfl,aT rfl rfl,aT rfl rfl,kX rfl rfl rfl ⟨rfl,rfl⟩ (bD.of_eq rfl),aT rfl rfl,aT rfl rfl,aT rfl rfl,okF rfl nofun rfl rfl rfl ⟨rfl,rfl⟩ ?_,kX rfl pX rfl ⟨rfl,rfl⟩ (bD.of_eq ?_),trivial⟩
    ·rw[Rx]
     simp[OV.ay,hr1]
    ·show T.bU _ (V.aS (sS l p (l.getD a default) 0))=_
     rw[Ry]
     first|(rw[hk0]; rfl)|(show _=V.aS (List.replicate p.rules.length (vw .nil)); rw[pV,bJ,List.map_map,List.map_replicate,List.map_replicate]; rfl)
   conv=>whnf
   refine⟨(sR rfl),rfl,?_⟩
   rintro i hi
   have hon:=WL (p:=p) (x:=l.getD a default) hi
   have ae6:=WR (l:=l) (p:=p) (x:=l.getD a default) hi
   conv=>whnf
   refine⟨fun h2=>?_,fun h2=>?_⟩
   ·have hi':i<p.rules.length:=by simpa using h2
    have hpl:sW (l.getD a default).counts.length (p.rules.getD i default):=by rw[hX.len]; exact(wtR hc hi').place
    have aaT:=WM (x:=l.getD a default) hi'
    conv=>whnf
    repeat(refine VC.mk (by first|(omega)|(simp only[Rw.rng] at *; first|omega|(simp_all; done)|(simp_all; omega))) ?_; conv=>whnf)
    refine ah.pure (aj.JG (S.vM (p.rules.getD i default) (l.getD a default) (hp.rule i) hpl hX.abs.ok hX.abs.len)) rfl ?_
    conv=>whnf
    repeat(refine VC.mk (by first|(simp only[Rw.rng]; omega)|(simp only[Rw.rng,Int.toNat_natCast]; omega)) ?_; conv=>whnf)
    refine ah.pure (S.sZ (p.rules.getD i default) (l.getD a default) (hp.rule i) hpl hX.abs.ok hX.abs.pos hX.abs.len) rfl ?_
    have hpo:=yX (r:=p.rules.getD i default) hX.abs
    have hpc: ∀ y∈gy (p.rules.getD i default) (l.getD a default),y.counts.length<2^40:=fun y hy=>by rw[G6 hy]; omega
    generalize hL:gy (p.rules.getD i default) (l.getD a default)=L at hpo hpc
    have hsu:DU l (p.rules.getD i default) (l.getD a default)=xO l L:=by unfold DU; rw[hL]
    conv=>whnf
    refine aB.fam 30 [2,4,5,7,8,9,10,22,23,24,37,38,39,55,56] (fun c:Nat=>[(57,.int c)]) (fun c=>mZ (IW p q l a (i+1) i (xO l (L.take c)))) (fun c=>c<=L.length) (fun c=>L.length-c) 0 (dX (IW p q l a (i+1) i []) [0,1,2,8,20,21,22,23,24]) _ rfl (by decide) (fun _=>rfl) (Nat.zero_le _) (sR rfl) (.inl rfl) ?_ ?_
    ·refine gG.lits (IW p q l a (i+1) i []) [0,1,2,8,20,21,22,23,24] ⟨aT rfl rfl,aT rfl rfl,aT rfl rfl,kX rfl rfl rfl ⟨rfl,rfl⟩ (bD.of_eq rfl),aT rfl rfl,aT rfl rfl,aT rfl rfl,okF rfl nofun rfl rfl rfl ⟨rfl,rfl⟩ ?_,kX rfl pX rfl ⟨rfl,rfl⟩ Ac,trivial⟩
     rw[<- aaT]; rfl
    conv=>whnf
    refine⟨(sR rfl),rfl,?_⟩
    rintro c hcl
    have hal:=J3 l (L.take c)
    rw[List.length_take] at hal
    have hstep:c<L.length->xO l (L.take (c+1))=if Bc l (L.getD c default) (kZ l (L.getD c default))=true then xO l (L.take c)++[(kZ l (L.getD c default):Int)] else xO l (L.take c):=Nq
    have hend:L.length<=c->DU l (p.rules.getD i default) (l.getD a default)=xO l (L.take c):=fun q=>by rw[hsu,List.take_of_length_le q]
    generalize xO l (L.take c)=acc at hal hstep hend
    cases acc with
    |nil =>
     conv=>whnf
     refine⟨fun h3=>?_,fun h3=>?_⟩
     ·have hc':c<L.length:=by simpa using h3
      replace hstep:=hstep hc'
      conv=>whnf
      repeat(refine VC.mk (by first|(omega)|(simp only[Rw.rng] at *; first|omega|(simp_all; done)|(simp_all; omega))) ?_; conv=>whnf)
      refine ah.pure (S.BinarySearch l (L.getD c default) (kZ l (L.getD c default)) false (by omega) hsm (hpc _ (bZ hc')) (WI _ _) (Ja hss)) rfl ?_
      conv=>whnf
      refine⟨fun h4=>?_,fun h4=>?_⟩
      ·rw[if_pos (show Bc l (L.getD c default) (kZ l (L.getD c default))=true from h4),List.nil_append] at hstep
       conv=>whnf
       repeat(refine VC.mk (by omega) ?_; conv=>whnf)
       refine⟨_,aaP hi',?_⟩
       conv=>whnf
       repeat(refine VC.mk (by first|(show(0+(0+1))*8<=140737488355328/\0+(0+1)<=1152921504606846976; omega)|(omega)|(simp only[okI] at *; first|omega|(simp_all; done)|(simp_all; omega))) ?_; conv=>whnf)
       exact iH.lits (c+1) (IW p q l a (i+1) i [(kZ l (L.getD c default):Int)]) [0,1,2,8,20,21,22,23,24,53] _ (.inl rfl) (congrArg (fun z=>mZ (IW p q l a (i+1) i z)) hstep) hc' (by omega) (sR rfl) (sR rfl) ⟨aT rfl rfl,aT rfl rfl,aT rfl rfl,kX rfl rfl rfl ⟨rfl,rfl⟩ (bD.of_eq rfl),aT rfl rfl,aT rfl rfl,aT rfl rfl,aT rfl rfl,kX rfl vS rfl ⟨rfl,rfl⟩ (BP rfl),aT rfl rfl,trivial⟩
      ·rw[if_neg (by rw[show Bc l (L.getD c default) (kZ l (L.getD c default))=false from h4]; decide)] at hstep
       conv=>whnf
       repeat(refine VC.mk (by first|(omega)|(simp only[okI] at *; first|omega|(simp_all; done)|(simp_all; omega))) ?_; conv=>whnf)
       exact iH.lits (c+1) (IW p q l a (i+1) i []) [0,1,2,8,20,21,22,23,24] _ (.inl rfl) (congrArg (fun z=>mZ (IW p q l a (i+1) i z)) hstep) hc' (by omega) (sR rfl) (sR rfl) ⟨aT rfl rfl,aT rfl rfl,aT rfl rfl,kX rfl rfl rfl ⟨rfl,rfl⟩ (bD.of_eq rfl),aT rfl rfl,aT rfl rfl,aT rfl rfl,aT rfl rfl,kX rfl pX rfl ⟨rfl,rfl⟩ Ac,trivial⟩
     ·have hs0:=hend (by simpa using h3)
      conv=>whnf
      repeat(refine VC.mk (by first|(omega)|(simp only[okI] at *; first|omega|(simp_all; done)|(simp_all; omega))) ?_; conv=>whnf)
      exact iH.lits (i+1) (Yq p q l a (i+1)) [0,1,2,8,20,21,22,23,24] _ (.inl rfl) rfl hi' (by omega) (sR rfl) (sR rfl) ⟨aT rfl rfl,aT rfl rfl,aT rfl rfl,kX rfl rfl rfl ⟨rfl,rfl⟩ (bD.of_eq rfl),aT rfl rfl,aT rfl rfl,aT rfl rfl,aT rfl rfl,kX rfl pX rfl ⟨rfl,rfl⟩ (WS hi' hs0),trivial⟩
    |cons y r =>
     have ahP:((sS l p (l.getD a default) i).set i (.own 25)).length=p.rules.length:=by rw[List.length_set,ae6]
     conv=>whnf
     refine⟨fun h3=>?_,fun h3=>?_⟩
     ·have hc':c<L.length:=by simpa using h3
      replace hstep:=hstep hc'
      conv=>whnf
      repeat(refine VC.mk (by first|(omega)|(simp only[Rw.rng] at *; first|omega|(simp_all; done)|(simp_all; omega))) ?_; conv=>whnf)
      refine ah.pure (S.BinarySearch l (L.getD c default) (kZ l (L.getD c default)) false (by omega) hsm (hpc _ (bZ hc')) (WI _ _) (Ja hss)) rfl ?_
      conv=>whnf
      refine⟨fun h4=>?_,fun h4=>?_⟩
      ·rw[if_pos (show Bc l (L.getD c default) (kZ l (L.getD c default))=true from h4)] at hstep
       conv=>whnf
       repeat(refine VC.mk (by omega) ?_; conv=>whnf)
       refine⟨.own 25,List.getElem?_set_self (by show i<_; omega),?_⟩
       conv=>whnf
       repeat(refine VC.mk (by first|(show((y::r).length+(0+1))*8<=140737488355328/\(y::r).length+(0+1)<=1152921504606846976; omega)|(omega)|(simp only[okI] at *; first|omega|(simp_all; done)|(simp_all; omega))) ?_; conv=>whnf)
       exact iH.lits (c+1) (IW p q l a (i+1) i (y::(r++[(kZ l (L.getD c default):Int)]))) [0,1,2,8,20,21,22,23,24,53] _ (.inl rfl) (congrArg (fun z=>mZ (IW p q l a (i+1) i z)) hstep) hc' (by omega) (sR rfl) (sR rfl) ⟨aT rfl rfl,aT rfl rfl,aT rfl rfl,kX rfl rfl rfl ⟨rfl,rfl⟩ (bD.of_eq rfl),aT rfl rfl,aT rfl rfl,aT rfl rfl,aT rfl rfl,kX rfl vS rfl ⟨rfl,rfl⟩ (Rz rfl),aT rfl rfl,trivial⟩
      ·rw[if_neg (by rw[show Bc l (L.getD c default) (kZ l (L.getD c default))=false from h4]; decide)] at hstep
       conv=>whnf
       repeat(refine VC.mk (by first|(omega)|(simp only[okI] at *; first|omega|(simp_all; done)|(simp_all; omega))) ?_; conv=>whnf)
       exact iH.lits (c+1) (IW p q l a (i+1) i (y::r)) [0,1,2,8,20,21,22,23,24,25] _ (.inl rfl) (congrArg (fun z=>mZ (IW p q l a (i+1) i z)) hstep) hc' (by omega) (sR rfl) (sR rfl) ⟨aT rfl rfl,aT rfl rfl,aT rfl rfl,kX rfl rfl rfl ⟨rfl,rfl⟩ (bD.of_eq rfl),aT rfl rfl,aT rfl rfl,aT rfl rfl,aT rfl rfl,kX rfl vS rfl ⟨rfl,rfl⟩ (BP rfl),aT rfl rfl,trivial⟩
     ·have hs0:=hend (by simpa using h3)
      conv=>whnf
      repeat(refine VC.mk (by first|(omega)|(simp only[okI] at *; first|omega|(simp_all; done)|(simp_all; omega))) ?_; conv=>whnf)
      refine iH.lits (i+1) (Yq p q l a (i+1)) [0,1,2,8,20,21,22,23,24] (mZ (Yq p q l a (i+1))) (.inr ⟨fun z=>z=25,?_⟩) rfl hi' (by omega) (sR rfl) (sR rfl) ⟨aT rfl rfl,aT rfl rfl,aT rfl rfl,kX rfl rfl rfl ⟨rfl,rfl⟩ (bD.of_eq rfl),aT rfl rfl,aT rfl rfl,aT rfl rfl,aT rfl rfl,kX rfl pX rfl ⟨rfl,rfl⟩ Ac,trivial⟩
      have hfz:=WT (l:=l) (p:=p) (x:=l.getD a default) (i:=i) (Z:=fun z=>z=25) (h:=mZ (IW p q l a (i+1) i (y::r))) hi' rfl (by rw[hs0]; rfl)
      exact⟨⟨_,rfl,Nat.ne_of_beq_eq_false rfl,rfl,rfl,aP _,rfl,rfl⟩,⟨_,rfl,Nat.ne_of_beq_eq_false rfl,rfl,rfl,aP _,rfl,rfl⟩,⟨_,rfl,Nat.ne_of_beq_eq_false rfl,rfl,rfl,aP _,rfl,rfl⟩,⟨_,rfl,Nat.ne_of_beq_eq_false rfl,rfl,rfl,aP _,rfl,rfl⟩,⟨_,rfl,Nat.ne_of_beq_eq_false rfl,rfl,rfl,aP _,rfl,rfl⟩,⟨_,rfl,Nat.ne_of_beq_eq_false rfl,rfl,rfl,aP _,rfl,rfl⟩,⟨_,rfl,Nat.ne_of_beq_eq_false rfl,rfl,rfl,aP _,rfl,rfl⟩,⟨_,rfl,Nat.ne_of_beq_eq_false rfl,rfl,rfl,aP _,rfl,rfl⟩,⟨_,rfl,Nat.ne_of_beq_eq_false rfl,rfl,rfl,hfz.1,hfz.2.1,hfz.2.2⟩,trivial⟩
   ·have hi':i=p.rules.length:=by
     have: ¬ i<p.rules.length:=by simpa using h2
     omega
    have hm1:=vT (f:=AV p) (d:=default) ha'
    have hm2:=vT (f:=yx l p) (d:=default) ha'
    have hk1:((l.take a).map (AV p)).length=a:=by rw[List.length_map,List.length_take]; omega
    have hk2:((l.take a).map (yx l p)).length=a:=by rw[List.length_map,List.length_take]; omega
    conv=>whnf
    repeat(refine VC.mk (by first|(first|(show(((l.take a).map (AV p)).length+1)*24<=140737488355328/\((l.take a).map (AV p)).length+1<=1152921504606846976; omega)|(show(((l.take a).map (yx l p)).length+1)*24<=140737488355328/\((l.take a).map (yx l p)).length+1<=1152921504606846976; omega))|(simp only[okI] at *; first|omega|(simp_all; done)|(simp_all; omega))) ?_; conv=>whnf)
    refine iH.lits (a+1) (aaO p q l (a+1)) [0,1,2,8,35,42] [(0,some (LV p)),(1,some (pF q)),(2,some agL),(8,some (aeo p l 35 42)),(35,some (BO ((l.take a).map (AV p)++[AV p (l.getD a default)]))),(42,some (J7 ((l.take a).map (yx l p)++[yx l p (l.getD a default)])))] (.inr ⟨fun z=>z=23\/z=24,?_⟩) rfl ha' (by omega) (sR rfl) (sR rfl) ?_
    ·have ne: ∀ z:Nat,Nat.beq z 23=false->Nat.beq z 24=false-> ¬ (z=23\/z=24):=fun z h1 h2 e=>e.elim (Nat.ne_of_beq_eq_false h1) (Nat.ne_of_beq_eq_false h2)
     refine⟨⟨_,rfl,ne _ rfl rfl,rfl,rfl,aP _,rfl,rfl⟩,⟨_,rfl,ne _ rfl rfl,rfl,rfl,aP _,rfl,rfl⟩,⟨_,rfl,ne _ rfl rfl,rfl,rfl,aP _,rfl,rfl⟩,⟨_,rfl,ne _ rfl rfl,rfl,rfl,aP _,rfl,rfl⟩,Nu (Z:=fun z=>z=23\/z=24) (j:=23) rfl (ne _ rfl rfl) (Or.inl rfl) ?_,Nv (Z:=fun z=>z=23\/z=24) (j:=24) (o:=.gen 24 0 (sS l p (l.getD a default) i)) rfl (ne _ rfl rfl) (Or.inr rfl) ?_ ?_,trivial⟩
     ·rw[<- WQ,<- hi']; rfl
     ·rfl
     ·rw[<- WU,<- hi']; rfl
    rw[<- hm1,<- hm2]
    exact⟨aT rfl rfl,aT rfl rfl,aT rfl rfl,kX rfl rfl rfl ⟨rfl,rfl⟩ (bD.of_eq rfl),aT rfl rfl,aT rfl rfl,trivial⟩
 ·have ha':a=l.length:=by
   have: ¬ a<l.length:=by simpa using h1
   omega
  conv=>whnf
  refine⟨?_⟩
  show T.sub _ _ (.agg _) (.agg _)
  simp only[T.sub]
  have e1:(l.take a).map (AV p)=l.map (AV p):=by rw[ha',List.take_length]
  have e2:(l.take a).map (yx l p)=l.map (yx l p):=by rw[ha',List.take_length]
  rw[<- e1,<- e2]
  exact⟨aF _,aF _,aF _,aF _,aF _,aF _,aF _,aF _,aF _,aF _,aF _,aaQ trivial rfl,aaR trivial rfl,trivial⟩
abbrev aep(l:List Elem)(i j:Nat):OV:=.box 72 4 (.agg [.row 3 false (.elems l),.own i,.own j])
abbrev aer:OV:=.box 72 4 (.agg [yB,yB,yB])
abbrev aaU(p:aC)(q:Prop')(l:List Elem)(a:Nat):List (Nat×OV):=[(0,LV p),(1,pF q),(2,aer),(7,aep l 20 21),(20,J7 ((l.take a).map (yx l p))),(21,BO ((l.take a).map (AV p)))]
abbrev aaV(p:aC)(q:Prop')(l:List Elem)(a i:Nat):List (Nat×OV):=aaU p q l a++[(23,rowB (onM p (l.getD a default) i))]
abbrev Nw(p:aC)(q:Prop')(l:List Elem)(a i:Nat):List (Nat×OV):=aaV p q l a i++[(24,.gen 24 0 (sS l p (l.getD a default) i))]
def AX(p:aC)(q:Prop')(l:List Elem)(a i j:Nat):List Int->List (Nat×OV)
 |[]=>aaV p q l a i++[(24,.gen 24 0 (sS l p (l.getD a default) j))]
 |x::r=>aaV p q l a i++[(24,.gen 24 0 ((sS l p (l.getD a default) j).set j (.own 25))),(25,nN (x::r))]
set_option maxHeartbeats 2000000 in
theorem S.uG(p:aC)(q:Prop')(hp:dL p)(hq:iF q)(hv:vk p q=0):aj Tryz.prog 37 [.dat (.iE p),.dat (.prop q)] (gpV (dG p q) ((dG p q).map (AV p)) ((dG p q).map (yx (dG p q) p))):=by
 have hc:=uT hv
 have hrc:=UY p q
 rw[I9 hv] at hrc
 obtain⟨hl,hS⟩:=hrc
 have hss:SS (dG p q):=uz _
 have hk:=(kU (gu (lS hc)).1).OY
 generalize hgl:dG p q=l at hl hS hss
 have hsm:eF l:=fun x hx=>by have:=(hS x hx).abs.len; omega
 refine aj.of Bd.uG (by simp) rfl rfl ?_
 conv=>whnf
 refine ah.pure (S.y5 p q hp hq hv) rfl ?_
 rw[hgl]
 conv=>whnf
 refine aB.acW 7 1 36 0 (cs:=[.row 3 false (.elems l),yB,yB]) rfl (by show 1<3; decide) rfl rfl (by decide) ?_
 refine aB.acW 7 2 69 0 (cs:=[.row 3 false (.elems l),.own 10,yB]) rfl (by show 2<3; decide) rfl rfl (by decide) ?_
 refine aB.fam 30 [2,4,5] (fun a:Nat=>[(6,.int a)]) (fun a=>mZ (aaU p q l a)) (fun a=>a<=l.length) (fun a=>l.length-a) 0 (dX (aaU p q l 0) [0,1,2,7,10,11]) _ rfl (by decide) (fun _=>rfl) (Nat.zero_le _) (sR rfl) (.inl rfl) ?_ ?_
 ·exact gG.lits (aaU p q l 0) [0,1,2,7,10,11] ⟨aT rfl rfl,aT rfl rfl,aT rfl rfl,kX rfl rfl rfl ⟨rfl,rfl⟩ (bD.of_eq rfl),aT rfl rfl,aT rfl rfl,trivial⟩
 conv=>whnf
 refine⟨(sR rfl),rfl,?_⟩
 rintro a ha
 conv=>whnf
 refine⟨fun h1=>?_,fun h1=>?_⟩
 ·have ha':a<l.length:=by simpa using h1
  have hX:=hS _ (bZ (d:=default) ha')
  have hx6:=hX.abs.len
  obtain⟨r0,hr0,hr1⟩:=Dn p.rules.length
  have hz:((bif isZero (V.int p.rules.length) then some Rw.nil else LQ (p.rules.length:Int).toNat T.nil)=some Rw.nil/\p.rules.length=0)\/(bif isZero (V.int p.rules.length) then some Rw.nil else LQ (p.rules.length:Int).toNat T.nil)=none:=by
   rcases Nat.eq_zero_or_pos p.rules.length with h0|h0
   ·exact .inl ⟨by rw[h0]; rfl,h0⟩
   ·exact .inr (yN h0)
  conv=>whnf
  rcases hz with ⟨hz,hk0⟩|hz
  all_goals
   rw[hz]
   conv=>whnf
   repeat(refine VC.mk (by omega) ?_; conv=>whnf)
   rw[hr0]
   conv=>whnf
   repeat(refine VC.mk (by omega) ?_; conv=>whnf)
   refine aB.fam 30 [2,4,5,6] (fun i:Nat=>[(9,.int i),(8,.own 23),(7,.own 24)]) (fun i=>mZ (Nw p q l a i)) (fun i=>i<=p.rules.length) (fun i=>p.rules.length-i) 0 (dX (Nw p q l a 0) [0,1,2,7,20,21,43,38]) _ rfl (by decide) (fun _=>rfl) (Nat.zero_le _) (sR rfl) (.inl rfl) ?_ ?_
   ·refine gG.lits (Nw p q l a 0) [0,1,2,7,20,21,43,38] ⟨aT rfl rfl,aT rfl rfl,aT rfl rfl,kX rfl rfl rfl ⟨rfl,rfl⟩ (bD.of_eq rfl),aT rfl rfl,aT rfl rfl,okF rfl nofun rfl rfl rfl ⟨rfl,rfl⟩ ?_,kX rfl pX rfl ⟨rfl,rfl⟩ (bD.of_eq ?_),trivial⟩
    ·rw[Rx]
     simp[OV.ay,hr1]
    ·show T.bU _ (V.aS (sS l p (l.getD a default) 0))=_
     rw[Ry]
     first|(rw[hk0]; rfl)|(show _=V.aS (List.replicate p.rules.length (vw .nil)); rw[pV,bJ,List.map_map,List.map_replicate,List.map_replicate]; rfl)
   conv=>whnf
   refine⟨(sR rfl),rfl,?_⟩
   rintro i hi
   have hon:=WL (p:=p) (x:=l.getD a default) hi
   have ae6:=WR (l:=l) (p:=p) (x:=l.getD a default) hi
   conv=>whnf
   refine⟨fun h2=>?_,fun h2=>?_⟩
   ·have hi':i<p.rules.length:=by simpa using h2
    have hpl:sW (l.getD a default).counts.length (p.rules.getD (i:Int).toNat default):=by rw[hX.len]; exact(wtR hc hi').place
    have aaT:=WM (x:=l.getD a default) hi'
    have ahQ:=Yf (r:=p.rules.getD i default) hX.abs hpl
    conv=>whnf
    repeat(refine VC.mk (by first|(simp only[Rw.rng]; omega)|(simp only[Rw.rng,Int.toNat_natCast]; omega)) ?_; conv=>whnf)
    refine ah.pure (show aj Tryz.prog 54 [.dat (.iE p),.int i,.dat (.elem (l.getD a default))] (.row 3 false (.elems (gy (p.rules.getD i default) (l.getD a default)))) from S.yS p i (l.getD a default) hp hpl (by omega) hX.abs) rfl ?_
    have hpo:=yX (r:=p.rules.getD i default) hX.abs
    have hpc: ∀ y∈gy (p.rules.getD i default) (l.getD a default),y.counts.length<2^40:=fun y hy=>by rw[G6 hy]; omega
    rw[ahQ] at aaT
    generalize hL:gy (p.rules.getD i default) (l.getD a default)=L at hpo hpc aaT
    have hsu:DU l (p.rules.getD i default) (l.getD a default)=xO l L:=by unfold DU; rw[hL]
    conv=>whnf
    repeat(refine VC.mk (by first|(simp only[Rw.rng]; omega)|(simp only[Rw.rng,Int.toNat_natCast]; omega)) ?_; conv=>whnf)
    refine aB.fam 30 [2,4,5,6,7,8,9,10] (fun c:Nat=>[(11,.int c)]) (fun c=>mZ (AX p q l a (i+1) i (xO l (L.take c)))) (fun c=>c<=L.length) (fun c=>L.length-c) 0 (dX (AX p q l a (i+1) i []) [0,1,2,7,20,21,23,24]) _ rfl (by decide) (fun _=>rfl) (Nat.zero_le _) (sR rfl) (.inl rfl) ?_ ?_
    ·refine gG.lits (AX p q l a (i+1) i []) [0,1,2,7,20,21,23,24] ⟨aT rfl rfl,aT rfl rfl,aT rfl rfl,kX rfl rfl rfl ⟨rfl,rfl⟩ (bD.of_eq rfl),aT rfl rfl,aT rfl rfl,okF rfl nofun rfl rfl rfl ⟨rfl,rfl⟩ ?_,kX rfl pX rfl ⟨rfl,rfl⟩ Ac,trivial⟩
     rw[<- aaT]; rfl
    conv=>whnf
    refine⟨(sR rfl),rfl,?_⟩
    rintro c hcl
    have hal:=J3 l (L.take c)
    rw[List.length_take] at hal
    have hstep:c<L.length->xO l (L.take (c+1))=if Bc l (L.getD c default) (kZ l (L.getD c default))=true then xO l (L.take c)++[(kZ l (L.getD c default):Int)] else xO l (L.take c):=Nq
    have hend:L.length<=c->DU l (p.rules.getD i default) (l.getD a default)=xO l (L.take c):=fun q=>by rw[hsu,List.take_of_length_le q]
    have hfd:=agH (b:=L.getD c default) hss
    generalize xO l (L.take c)=acc at hal hstep hend
    cases acc with
    |nil =>
     conv=>whnf
     refine⟨fun h3=>?_,fun h3=>?_⟩
     ·have hc':c<L.length:=by simpa using h3
      replace hstep:=hstep hc'
      conv=>whnf
      repeat(refine VC.mk (by first|(simp only[Rw.rng]; omega)|(simp only[Rw.rng,Int.toNat_natCast]; omega)) ?_; conv=>whnf)
      refine ah.pure (S.y7 l (L.getD c default) false (by omega) hsm (hpc _ (bZ hc'))) rfl ?_
      by_cases h4:Bc l (L.getD c default) (kZ l (L.getD c default))=true
      ·rw[if_pos h4,List.nil_append] at hstep
       rw[if_pos h4] at hfd
       rw[hfd]
       conv=>whnf
       refine Fork.mk (fun _=>?_) (fun q=>absurd (q.symm.trans (decide_eq_true (Int.natCast_nonneg _))) Bool.false_ne_true)
       conv=>whnf
       repeat(refine VC.mk (by omega) ?_; conv=>whnf)
       refine⟨_,aaP hi',?_⟩
       conv=>whnf
       repeat(refine VC.mk (by first|(show(0+(0+1))*8<=140737488355328/\0+(0+1)<=1152921504606846976; omega)|(omega)|(simp only[okI] at *; first|omega|(simp_all; done)|(simp_all; omega))) ?_; conv=>whnf)
       exact iH.lits (c+1) (AX p q l a (i+1) i [(kZ l (L.getD c default):Int)]) [0,1,2,7,20,21,23,24,52] _ (.inl rfl) (congrArg (fun z=>mZ (AX p q l a (i+1) i z)) hstep) hc' (by omega) (sR rfl) (sR rfl) ⟨aT rfl rfl,aT rfl rfl,aT rfl rfl,kX rfl rfl rfl ⟨rfl,rfl⟩ (bD.of_eq rfl),aT rfl rfl,aT rfl rfl,aT rfl rfl,kX rfl vS rfl ⟨rfl,rfl⟩ (BP rfl),aT rfl rfl,trivial⟩
      ·rw[if_neg h4] at hstep hfd
       rw[hfd]
       conv=>whnf
       refine Fork.mk (fun q=>absurd (q.symm.trans ((rfl:decide ((-1:Int)>=0)=false))).symm Bool.false_ne_true) (fun _=>?_)
       conv=>whnf
       repeat(refine VC.mk (by first|(omega)|(simp only[okI] at *; first|omega|(simp_all; done)|(simp_all; omega))) ?_; conv=>whnf)
       exact iH.lits (c+1) (AX p q l a (i+1) i []) [0,1,2,7,20,21,23,24] _ (.inl rfl) (congrArg (fun z=>mZ (AX p q l a (i+1) i z)) hstep) hc' (by omega) (sR rfl) (sR rfl) ⟨aT rfl rfl,aT rfl rfl,aT rfl rfl,kX rfl rfl rfl ⟨rfl,rfl⟩ (bD.of_eq rfl),aT rfl rfl,aT rfl rfl,aT rfl rfl,kX rfl pX rfl ⟨rfl,rfl⟩ Ac,trivial⟩
     ·have hs0:=hend (by simpa using h3)
      conv=>whnf
      repeat(refine VC.mk (by first|(omega)|(simp only[okI] at *; first|omega|(simp_all; done)|(simp_all; omega))) ?_; conv=>whnf)
      exact iH.lits (i+1) (Nw p q l a (i+1)) [0,1,2,7,20,21,23,24] _ (.inl rfl) rfl hi' (by omega) (sR rfl) (sR rfl) ⟨aT rfl rfl,aT rfl rfl,aT rfl rfl,kX rfl rfl rfl ⟨rfl,rfl⟩ (bD.of_eq rfl),aT rfl rfl,aT rfl rfl,aT rfl rfl,kX rfl pX rfl ⟨rfl,rfl⟩ (WS hi' hs0),trivial⟩
    |cons y r =>
     have ahP:((sS l p (l.getD a default) i).set i (.own 25)).length=p.rules.length:=by rw[List.length_set,ae6]
     conv=>whnf
     refine⟨fun h3=>?_,fun h3=>?_⟩
     ·have hc':c<L.length:=by simpa using h3
      replace hstep:=hstep hc'
      conv=>whnf
      repeat(refine VC.mk (by first|(simp only[Rw.rng]; omega)|(simp only[Rw.rng,Int.toNat_natCast]; omega)) ?_; conv=>whnf)
      refine ah.pure (S.y7 l (L.getD c default) false (by omega) hsm (hpc _ (bZ hc'))) rfl ?_
      by_cases h4:Bc l (L.getD c default) (kZ l (L.getD c default))=true
      ·rw[if_pos h4] at hstep hfd
       rw[hfd]
       conv=>whnf
       refine Fork.mk (fun _=>?_) (fun q=>absurd (q.symm.trans (decide_eq_true (Int.natCast_nonneg _))) Bool.false_ne_true)
       conv=>whnf
       repeat(refine VC.mk (by omega) ?_; conv=>whnf)
       refine⟨.own 25,List.getElem?_set_self (by show i<_; omega),?_⟩
       conv=>whnf
       repeat(refine VC.mk (by first|(show((y::r).length+(0+1))*8<=140737488355328/\(y::r).length+(0+1)<=1152921504606846976; omega)|(omega)|(simp only[okI] at *; first|omega|(simp_all; done)|(simp_all; omega))) ?_; conv=>whnf)
       exact iH.lits (c+1) (AX p q l a (i+1) i (y::(r++[(kZ l (L.getD c default):Int)]))) [0,1,2,7,20,21,23,24,52] _ (.inl rfl) (congrArg (fun z=>mZ (AX p q l a (i+1) i z)) hstep) hc' (by omega) (sR rfl) (sR rfl) ⟨aT rfl rfl,aT rfl rfl,aT rfl rfl,kX rfl rfl rfl ⟨rfl,rfl⟩ (bD.of_eq rfl),aT rfl rfl,aT rfl rfl,aT rfl rfl,kX rfl vS rfl ⟨rfl,rfl⟩ (Rz rfl),aT rfl rfl,trivial⟩
      ·rw[if_neg h4] at hstep hfd
       rw[hfd]
       conv=>whnf
       refine Fork.mk (fun q=>absurd (q.symm.trans ((rfl:decide ((-1:Int)>=0)=false))).symm Bool.false_ne_true) (fun _=>?_)
       conv=>whnf
       repeat(refine VC.mk (by first|(omega)|(simp only[okI] at *; first|omega|(simp_all; done)|(simp_all; omega))) ?_; conv=>whnf)
       exact iH.lits (c+1) (AX p q l a (i+1) i (y::r)) [0,1,2,7,20,21,23,24,25] _ (.inl rfl) (congrArg (fun z=>mZ (AX p q l a (i+1) i z)) hstep) hc' (by omega) (sR rfl) (sR rfl) ⟨aT rfl rfl,aT rfl rfl,aT rfl rfl,kX rfl rfl rfl ⟨rfl,rfl⟩ (bD.of_eq rfl),aT rfl rfl,aT rfl rfl,aT rfl rfl,kX rfl vS rfl ⟨rfl,rfl⟩ (BP rfl),aT rfl rfl,trivial⟩
     ·have hs0:=hend (by simpa using h3)
      conv=>whnf
      repeat(refine VC.mk (by first|(omega)|(simp only[okI] at *; first|omega|(simp_all; done)|(simp_all; omega))) ?_; conv=>whnf)
      refine iH.lits (i+1) (Nw p q l a (i+1)) [0,1,2,7,20,21,23,24] (mZ (Nw p q l a (i+1))) (.inr ⟨fun z=>z=25,?_⟩) rfl hi' (by omega) (sR rfl) (sR rfl) ⟨aT rfl rfl,aT rfl rfl,aT rfl rfl,kX rfl rfl rfl ⟨rfl,rfl⟩ (bD.of_eq rfl),aT rfl rfl,aT rfl rfl,aT rfl rfl,kX rfl pX rfl ⟨rfl,rfl⟩ Ac,trivial⟩
      have hfz:=WT (l:=l) (p:=p) (x:=l.getD a default) (i:=i) (Z:=fun z=>z=25) (h:=mZ (AX p q l a (i+1) i (y::r))) hi' rfl (by rw[hs0]; rfl)
      exact⟨⟨_,rfl,Nat.ne_of_beq_eq_false rfl,rfl,rfl,aP _,rfl,rfl⟩,⟨_,rfl,Nat.ne_of_beq_eq_false rfl,rfl,rfl,aP _,rfl,rfl⟩,⟨_,rfl,Nat.ne_of_beq_eq_false rfl,rfl,rfl,aP _,rfl,rfl⟩,⟨_,rfl,Nat.ne_of_beq_eq_false rfl,rfl,rfl,aP _,rfl,rfl⟩,⟨_,rfl,Nat.ne_of_beq_eq_false rfl,rfl,rfl,aP _,rfl,rfl⟩,⟨_,rfl,Nat.ne_of_beq_eq_false rfl,rfl,rfl,aP _,rfl,rfl⟩,⟨_,rfl,Nat.ne_of_beq_eq_false rfl,rfl,rfl,aP _,rfl,rfl⟩,⟨_,rfl,Nat.ne_of_beq_eq_false rfl,rfl,rfl,hfz.1,hfz.2.1,hfz.2.2⟩,trivial⟩
   ·have hi':i=p.rules.length:=by
     have: ¬ i<p.rules.length:=by simpa using h2
     omega
    have hm1:=vT (f:=AV p) (d:=default) ha'
    have hm2:=vT (f:=yx l p) (d:=default) ha'
    have hk1:((l.take a).map (AV p)).length=a:=by rw[List.length_map,List.length_take]; omega
    have hk2:((l.take a).map (yx l p)).length=a:=by rw[List.length_map,List.length_take]; omega
    conv=>whnf
    repeat(refine VC.mk (by first|(first|(show(((l.take a).map (AV p)).length+1)*24<=140737488355328/\((l.take a).map (AV p)).length+1<=1152921504606846976; omega)|(show(((l.take a).map (yx l p)).length+1)*24<=140737488355328/\((l.take a).map (yx l p)).length+1<=1152921504606846976; omega))|(simp only[okI] at *; first|omega|(simp_all; done)|(simp_all; omega))) ?_; conv=>whnf)
    refine iH.lits (a+1) (aaU p q l (a+1)) [0,1,2,7,39,46] [(0,some (LV p)),(1,some (pF q)),(2,some aer),(7,some (aep l 39 46)),(39,some (J7 ((l.take a).map (yx l p)++[yx l p (l.getD a default)]))),(46,some (BO ((l.take a).map (AV p)++[AV p (l.getD a default)])))] (.inr ⟨fun z=>z=23\/z=24,?_⟩) rfl ha' (by omega) (sR rfl) (sR rfl) ?_
    ·have ne: ∀ z:Nat,Nat.beq z 23=false->Nat.beq z 24=false-> ¬ (z=23\/z=24):=fun z h1 h2 e=>e.elim (Nat.ne_of_beq_eq_false h1) (Nat.ne_of_beq_eq_false h2)
     refine⟨⟨_,rfl,ne _ rfl rfl,rfl,rfl,aP _,rfl,rfl⟩,⟨_,rfl,ne _ rfl rfl,rfl,rfl,aP _,rfl,rfl⟩,⟨_,rfl,ne _ rfl rfl,rfl,rfl,aP _,rfl,rfl⟩,⟨_,rfl,ne _ rfl rfl,rfl,rfl,aP _,rfl,rfl⟩,Nv (Z:=fun z=>z=23\/z=24) (j:=24) (o:=.gen 24 0 (sS l p (l.getD a default) i)) rfl (ne _ rfl rfl) (Or.inr rfl) ?_ ?_,Nu (Z:=fun z=>z=23\/z=24) (j:=23) rfl (ne _ rfl rfl) (Or.inl rfl) ?_,trivial⟩
     ·rfl
     ·rw[<- WU,<- hi']; rfl
     ·rw[<- WQ,<- hi']; rfl
    rw[<- hm1,<- hm2]
    exact⟨aT rfl rfl,aT rfl rfl,aT rfl rfl,kX rfl rfl rfl ⟨rfl,rfl⟩ (bD.of_eq rfl),aT rfl rfl,aT rfl rfl,trivial⟩
 ·have ha':a=l.length:=by
   have: ¬ a<l.length:=by simpa using h1
   omega
  conv=>whnf
  refine⟨?_⟩
  show T.sub _ _ (.agg _) (.agg _)
  simp only[T.sub]
  have e1:(l.take a).map (AV p)=l.map (AV p):=by rw[ha',List.take_length]
  have e2:(l.take a).map (yx l p)=l.map (yx l p):=by rw[ha',List.take_length]
  rw[<- e1,<- e2]
  exact⟨aF _,aaR trivial rfl,aaQ trivial rfl,trivial⟩
def RG(l:List Bool):Int:=match l.findIdx? (fun b=>b) with
 |some i=>i
 |none=> -1
theorem S.U4(l:List Bool)(f:Bool)(hl:l.length<2^30):aj Tryz.prog 97 [.row 0 f (.bools l),.bool true] (.int (RG l)):=by
 refine aj.of Bd.lg (by simp) rfl rfl ?_
 conv=>whnf
 refine aB.same [0,1,6,7] (fun i:Nat=>[(8,.int i)]) (fun i=>i<=l.length/\ ∀ j,j<i->l.getD j false=false) (fun i=>l.length-i) 0 rfl (by decide) rfl (fun _=>rfl) ⟨Nat.zero_le _,fun j hj=>absurd hj (Nat.not_lt_zero _)⟩ ⟨⟨_,rfl,rfl⟩,trivial⟩ ?_
 conv=>whnf
 refine⟨rfl,?_⟩
 rintro i ⟨hi,hno⟩
 conv=>whnf
 refine⟨fun h3=>?_,fun h3=>?_⟩
 ·have hi':i<l.length:=by simpa using h3
  conv=>whnf
  refine .mk (by simp only[Rw.rng] at *; first|omega|(simp_all; done)|(simp_all; omega)) ?_
  conv=>whnf
  refine⟨fun h4=>?_,fun h4=>?_⟩
  ·have h4':l.getD i false=true:=by
    have h5:(true==l.getD i false)=true:=h4
    cases hb:l.getD i false with
    |true=>rfl
    |false=>rw[hb] at h5; cases h5
   conv=>whnf
   refine ak.int ?_
   have:l.findIdx? (fun b=>b)=some i:=by
    rw[List.findIdx?_eq_some_iff_getElem]
    refine⟨hi',by rw[getD_some hi'] at h4'; exact h4',fun k hk=>?_⟩
    have:=hno k hk
    rw[getD_some (by omega)] at this
    rw[this]; decide
   rw[RG,this]
  ·have h4':l.getD i false=false:=by
    have h5:(true==l.getD i false)=false:=h4
    cases hb:l.getD i false with
    |true=>rw[hb] at h5; cases h5
    |false=>rfl
   conv=>whnf
   refine .mk (by simp only[okI] at *; first|omega|(simp_all; done)|(simp_all; omega)) ?_
   conv=>whnf
   refine⟨i+1,⟨hi',fun j hj=>?_⟩,by omega,⟨⟨_,rfl,rfl⟩,trivial⟩,?_,rfl⟩
   ·rcases Nat.lt_or_ge j i with q|q
    ·exact hno j q
    ·have:j=i:=by omega
     subst this; exact h4'
   ·repeat' (first|exact trivial|exact⟨_,rfl,rfl⟩|constructor)
 ·have hi':l.length<=i:=by simpa using h3
  conv=>whnf
  refine ak.int ?_
  have:l.findIdx? (fun b=>b)=none:=by
   rw[List.findIdx?_eq_none_iff]
   intro x hx
   obtain⟨k,hk,rfl⟩:=List.mem_iff_getElem.1 hx
   have:=hno k (by omega)
   rw[getD_some hk] at this; exact this
  rw[RG,this]
theorem Yr(l:List Bool):decide (RG l>=0)=l.any fun b=>b:=by
 unfold RG
 cases h:l.findIdx? (fun b=>b) with
 |some i =>
  have:=(List.findIdx?_eq_some_iff_getElem.1 h)
  obtain⟨hi,hp,_⟩:=this
  have e:(l.any fun b=>b)=true:=List.any_eq_true.2 ⟨_,List.getElem_mem hi,hp⟩
  rw[e]; exact decide_eq_true (Int.natCast_nonneg _)
 |none =>
  have:=List.findIdx?_eq_none_iff.1 h
  have e:(l.any fun b=>b)=false:=List.any_eq_false.2 fun x hx=>by rw[this x hx]; decide
  rw[e]; rfl
theorem S.LX(l:List Bool)(f:Bool)(hl:l.length<2^30):aj Tryz.prog 66 [.row 0 f (.bools l),.bool true] (.bool (l.any fun b=>b)):=by
 refine aj.of Bd.jP (by simp) rfl rfl ?_
 conv=>whnf
 refine ah.pure (S.U4 l f hl) rfl ?_
 conv=>whnf
 exact ak.bool (Yr l).symm
def upS(rs:List Rule)(on:List (List Bool))(w:List Int)(a:Nat):Bool:=(List.range rs.length).any fun i=>(on.getD a []).getD i false&&oK (rs.getD i default) w
noncomputable def Fz(p:aC)(l:List Elem)(on:List (List Bool))(dF:List (List (List Int)))(w:List Int):Bool :=
 !((List.range l.length).any fun a=>upS p.rules on w a)&&(IV p l on dF w).pG.all fun r=>r.any fun b=>b
theorem WV{n i:Nat}{f:Nat->Bool}(hi:i<n)(h:f i=true):(List.range n).any f=true:=List.any_eq_true.2 ⟨i,List.mem_range.2 hi,h⟩
theorem J8{n:Nat}{f:Nat->Bool}(h: ∀ i,i<n->f i=false):(List.range n).any f=false:=List.any_eq_false.2 fun i hi=>by rw[h i (List.mem_range.1 hi)]; decide
theorem U5{p:aC}{l:List Elem}{on:List (List Bool)}{dF:List (List (List Int))}{w:List Int}{a i:Nat}(ha:a<l.length)(hi:i<p.rules.length)(h:((on.getD a []).getD i false&&oK (p.rules.getD i default) w)=true):Fz p l on dF w=false:=by
 unfold Fz
 rw[WV ha (by unfold upS; exact WV hi h)]; rfl
theorem WW{p:aC}{l:List Elem}{on:List (List Bool)}{dF:List (List (List Int))}{w:List Int}(h: ∀ a,a<l.length->upS p.rules on w a=false):Fz p l on dF w=(IV p l on dF w).pG.all fun r=>r.any fun b=>b:=by
 unfold Fz
 rw[J8 h]; rfl
set_option maxHeartbeats 1000000 in
theorem S.FB(p:aC)(l:List Elem)(on:List (List Bool))(dF:List (List (List Int)))(w:List Int)(f:Bool)(h:Rq p l on dF w):aj Tryz.prog 38 [spV p l on dF,.row 0 f (.ints w)] (.bool (Fz p l on dF w)):=by
 have hn:=h.n; have hk:=h.k; have e1:=h.AV; have e2:=h.yx; have hwl:=h.wl
 refine aj.of Bd.qF (by simp) rfl rfl ?_
 conv=>whnf
 refine aB.same [1,2,12] (fun a:Nat=>[(13,.int a)]) (fun a=>a<=l.length/\ ∀ a',a'<a->upS p.rules on w a'=false) (fun a=>l.length-a) 0 rfl (by decide) rfl (fun _=>rfl) ⟨Nat.zero_le _,fun a ha=>absurd ha (Nat.not_lt_zero _)⟩ ⟨⟨_,rfl,rfl⟩,trivial⟩ ?_
 conv=>whnf
 refine⟨rfl,?_⟩
 rintro a ⟨ha,hno⟩
 conv=>whnf
 refine⟨fun h1=>?_,fun h1=>?_⟩
 ·have ha':a<l.length:=by simpa using h1
  have hoR:=h.onR a ha'
  conv=>whnf
  refine aB.same [1,2,5,12,13,18,19] (fun i:Nat=>[(20,.int i)]) (fun i=>i<=p.rules.length/\ ∀ i',i'<i->((on.getD a []).getD i' false&&oK (p.rules.getD i' default) w)=false) (fun i=>p.rules.length-i) 0 rfl (by decide) rfl (fun _=>rfl) ⟨Nat.zero_le _,fun a ha=>absurd ha (Nat.not_lt_zero _)⟩ ⟨⟨_,rfl,rfl⟩,trivial⟩ ?_
  conv=>whnf
  refine⟨rfl,?_⟩
  rintro i ⟨hi,hni⟩
  conv=>whnf
  refine⟨fun h2=>?_,fun h2=>?_⟩
  ·have hi':i<p.rules.length:=by simpa using h2
   conv=>whnf
   repeat(refine VC.mk (by first|(first|(simp only[Rw.rng]; omega)|(simp only[Rw.rng,Int.toNat_natCast]; omega))|exact fun h=>⟨h,h⟩) ?_; conv=>whnf)
   refine ah.dM (fun _=>S.lT (p.rules.getD i default) w f h.wok (h.ZE i hi') h.wl) rfl ?_
   conv=>whnf
   refine VC.mk id ?_
   conv=>whnf
   refine⟨fun h3=>?_,fun h3=>?_⟩
   ·conv=>whnf
    exact ak.bool (U5 ha' hi' h3)
   ·conv=>whnf
    refine .mk (by simp only[okI] at *; first|omega|(simp_all; done)|(simp_all; omega)) ?_
    conv=>whnf
    refine⟨i+1,⟨hi',fun i' hj=>?_⟩,by omega,⟨⟨_,rfl,rfl⟩,trivial⟩,?_,rfl⟩
    ·rcases Nat.lt_or_ge i' i with q|q
     ·exact hni i' q
     ·have:i'=i:=by omega
      subst this; exact h3
    ·repeat' (first|exact trivial|exact⟨_,rfl,rfl⟩|constructor)
  ·have hi':p.rules.length<=i:=by simpa using h2
   conv=>whnf
   refine .mk (by simp only[okI] at *; first|omega|(simp_all; done)|(simp_all; omega)) ?_
   conv=>whnf
   refine⟨a+1,⟨ha',fun a' hj=>?_⟩,by omega,⟨⟨_,rfl,rfl⟩,trivial⟩,?_,rfl⟩
   ·rcases Nat.lt_or_ge a' a with q|q
    ·exact hno a' q
    ·have:a'=a:=by omega
     subst this
     exact J8 fun i' hj=>hni i' (by omega)
   ·repeat' (first|exact trivial|exact⟨_,rfl,rfl⟩|constructor)
 ·have ha':l.length<=a:=by simpa using h1
  have hrow:=WW (dF:=dF) (w:=w) (p:=p) (l:=l) (on:=on) fun a' hj=>hno a' (by omega)
  conv=>whnf
  refine ah.pure (S.O6 p l on dF w f h) rfl ?_
  have hL:(IV p l on dF w).pG.length=l.length:=JZ
  have hR: ∀ j,j<l.length->((IV p l on dF w).pG.getD j []).length<=8:=fun j hj=>by rw[Rl (g:=IV p l on dF w) hj]; exact hk
  generalize (IV p l on dF w).pG=H at hrow hL hR
  conv=>whnf
  refine aB.same [42,43] (fun i:Nat=>[(44,.int i)]) (fun i=>i<=H.length/\(H.take i).all (fun r=>r.any fun b=>b)=true) (fun i=>H.length-i) 0 rfl (by decide) rfl (fun _=>rfl) ⟨Nat.zero_le _,rfl⟩ ⟨⟨_,rfl,rfl⟩,trivial⟩ ?_
  conv=>whnf
  refine⟨rfl,?_⟩
  rintro i ⟨hi,hal⟩
  conv=>whnf
  refine⟨fun h2=>?_,fun h2=>?_⟩
  ·have hi':i<H.length:=by simpa using h2
   have hRi:=hR i (by omega)
   conv=>whnf
   refine .mk (by simp only[Rw.rng] at *; first|omega|(simp_all; done)|(simp_all; omega)) ?_
   conv=>whnf
   refine ah.pure (S.LX (H.getD i []) false (by omega)) rfl ?_
   conv=>whnf
   refine⟨fun h3=>?_,fun h3=>?_⟩
   ·replace h3:((H.getD i []).any fun b=>b)=false:=by simpa using h3
    conv=>whnf
    refine ak.bool ?_
    rw[hrow]
    exact(qy (p:=fun r:List Bool=>r.any fun b=>b) (d:=[]) hi' h3)
   ·replace h3:((H.getD i []).any fun b=>b)=true:=by
     cases hb:(H.getD i []).any fun b=>b with
     |true=>rfl
     |false =>
      have h4:(!((H.getD i []).any fun b=>b))=false:=h3
      rw[hb] at h4; cases h4
    conv=>whnf
    refine .mk (by simp only[okI] at *; first|omega|(simp_all; done)|(simp_all; omega)) ?_
    conv=>whnf
    refine⟨i+1,⟨hi',?_⟩,by omega,⟨⟨_,rfl,rfl⟩,trivial⟩,?_,rfl⟩
    ·rw[sV (p:=fun r:List Bool=>r.any fun b=>b) (d:=[]) hi' hal]; exact h3
    ·repeat' (first|exact trivial|exact⟨_,rfl,rfl⟩|constructor)
  ·have hi':H.length<=i:=by simpa using h2
   rw[List.take_of_length_le hi'] at hal
   conv=>whnf
   exact ak.bool (by rw[hrow,hal])
theorem acY{g:Gr}{a:Nat}(ha:a<g.n):(((g.Fj.getD a []).length:Int)==0)= !((g.pG.getD a []).any fun b=>b):=by
 unfold Gr.Fj Gr.pG
 rw[kP ha,kP ha,List.any_map,List.length_map]
 cases hb:(List.range g.k).any ((fun b=>b) ∘ fun i=>g.hlp a i) with
 |true =>
  obtain⟨i,h1,h2⟩:=List.any_eq_true.1 hb
  have:0<((List.range g.k).filter fun i=>g.hlp a i).length:=List.length_pos_of_mem (List.mem_filter.2 ⟨h1,h2⟩)
  rw[Bool.not_true,beq_eq_false_iff_ne]; omega
 |false =>
  have hf:(List.range g.k).filter (fun i=>g.hlp a i)=[]:=by
   rw[List.filter_eq_nil_iff]
   intro i hi
   have:=List.any_eq_false.1 hb i hi
   exact this
  rw[hf]; rfl
theorem aaW{g:Gr}:g.Fj.length=g.n:=by simp[Gr.Fj]
set_option maxHeartbeats 1000000 in
theorem S.rU(p:aC)(l:List Elem)(on:List (List Bool))(dF:List (List (List Int)))(w:List Int)(f:Bool)(h:Rq p l on dF w):aj Tryz.prog 39 [.dat (.iE p),gpV l on dF,.row 0 f (.ints w)] (.bool (Fz p l on dF w)):=by
 have hn:=h.n; have hk:=h.k; have e1:=h.AV; have e2:=h.yx; have hwl:=h.wl
 refine aj.of Bd.rU (by simp) rfl rfl ?_
 conv=>whnf
 refine aB.same [2,3,4] (fun a:Nat=>[(7,.int a)]) (fun a=>a<=l.length/\ ∀ a',a'<a->upS p.rules on w a'=false) (fun a=>l.length-a) 0 rfl (by decide) rfl (fun _=>rfl) ⟨Nat.zero_le _,fun a ha=>absurd ha (Nat.not_lt_zero _)⟩ ⟨⟨_,rfl,rfl⟩,trivial⟩ ?_
 conv=>whnf
 refine⟨rfl,?_⟩
 rintro a ⟨ha,hno⟩
 conv=>whnf
 refine⟨fun h1=>?_,fun h1=>?_⟩
 ·have ha':a<l.length:=by simpa using h1
  have hoR:=h.onR a ha'
  conv=>whnf
  refine aB.same [2,3,4,7] (fun i:Nat=>[(8,.int i)]) (fun i=>i<=p.rules.length/\ ∀ i',i'<i->((on.getD a []).getD i' false&&oK (p.rules.getD i' default) w)=false) (fun i=>p.rules.length-i) 0 rfl (by decide) rfl (fun _=>rfl) ⟨Nat.zero_le _,fun a ha=>absurd ha (Nat.not_lt_zero _)⟩ ⟨⟨_,rfl,rfl⟩,trivial⟩ ?_
  conv=>whnf
  refine⟨rfl,?_⟩
  rintro i ⟨hi,hni⟩
  conv=>whnf
  refine⟨fun h2=>?_,fun h2=>?_⟩
  ·have hi':i<p.rules.length:=by simpa using h2
   conv=>whnf
   repeat(refine VC.mk (by first|(first|(simp only[Rw.rng]; omega)|(simp only[Rw.rng,Int.toNat_natCast]; omega)|(intro _; simp only[Rw.rng]; omega))|exact fun h=>h|exact fun h=>⟨h,h⟩|(intro h; (repeat' apply And.intro)<;>first|exact h|omega|(simp only[Rw.nO]; omega)|(simp only[Rw.rng]; omega))) ?_; conv=>whnf)
   refine ah.dM (fun _=>S.nX (p.rules.getD i default) w f h.wok (h.ZE i hi') h.wl) rfl ?_
   conv=>whnf
   refine VC.mk id ?_
   conv=>whnf
   refine⟨fun h3=>?_,fun h3=>?_⟩
   ·conv=>whnf
    exact ak.bool (U5 ha' hi' h3)
   ·conv=>whnf
    refine .mk (by simp only[okI] at *; first|omega|(simp_all; done)|(simp_all; omega)) ?_
    conv=>whnf
    refine⟨i+1,⟨hi',fun i' hj=>?_⟩,by omega,⟨⟨_,rfl,rfl⟩,trivial⟩,?_,rfl⟩
    ·rcases Nat.lt_or_ge i' i with q|q
     ·exact hni i' q
     ·have:i'=i:=by omega
      subst this; exact h3
    ·repeat' (first|exact trivial|exact⟨_,rfl,rfl⟩|constructor)
  ·have hi':p.rules.length<=i:=by simpa using h2
   conv=>whnf
   refine .mk (by simp only[okI] at *; first|omega|(simp_all; done)|(simp_all; omega)) ?_
   conv=>whnf
   refine⟨a+1,⟨ha',fun a' hj=>?_⟩,by omega,⟨⟨_,rfl,rfl⟩,trivial⟩,?_,rfl⟩
   ·rcases Nat.lt_or_ge a' a with q|q
    ·exact hno a' q
    ·have:a'=a:=by omega
     subst this
     exact J8 fun i' hj=>hni i' (by omega)
   ·repeat' (first|exact trivial|exact⟨_,rfl,rfl⟩|constructor)
 ·have ha':l.length<=a:=by simpa using h1
  have hrow:=WW (dF:=dF) (w:=w) (p:=p) (l:=l) (on:=on) fun a' hj=>hno a' (by omega)
  conv=>whnf
  refine ah.pure (S.zf p l on dF w f h) rfl ?_
  have hL:(IV p l on dF w).pG.length=l.length:=JZ
  have hL2:(IV p l on dF w).Fj.length=l.length:=aaW
  have hR: ∀ j,j<l.length->((((IV p l on dF w).Fj.getD j []).length:Int)==0)= !(((IV p l on dF w).pG.getD j []).any fun b=>b):=fun j hj=>acY hj
  generalize (IV p l on dF w).pG=H at hrow hL hR
  generalize (IV p l on dF w).Fj=M at hL2 hR
  conv=>whnf
  refine aB.same [9] (fun i:Nat=>[(10,.int i)]) (fun i=>i<=M.length/\(H.take i).all (fun r=>r.any fun b=>b)=true) (fun i=>M.length-i) 0 rfl (by decide) rfl (fun _=>rfl) ⟨Nat.zero_le _,rfl⟩ ⟨⟨_,rfl,rfl⟩,trivial⟩ ?_
  conv=>whnf
  refine⟨rfl,?_⟩
  rintro i ⟨hi,hal⟩
  conv=>whnf
  refine⟨fun h2=>?_,fun h2=>?_⟩
  ·have hi':i<M.length:=by simpa using h2
   have hRi:=hR i (by omega)
   conv=>whnf
   refine .mk (by simp only[Rw.rng] at *; first|omega|(simp_all; done)|(simp_all; omega)) ?_
   conv=>whnf
   refine⟨fun h3=>?_,fun h3=>?_⟩
   ·replace h3:(((M.getD i []).length:Int)==0)=true:=h3
    rw[hRi,Bool.not_eq_true'] at h3
    conv=>whnf
    refine ak.bool ?_
    rw[hrow]
    exact(qy (p:=fun r:List Bool=>r.any fun b=>b) (d:=[]) (by omega) h3)
   ·replace h3:(((M.getD i []).length:Int)==0)=false:=h3
    rw[hRi,Bool.not_eq_false'] at h3
    conv=>whnf
    refine .mk (by simp only[okI] at *; first|omega|(simp_all; done)|(simp_all; omega)) ?_
    conv=>whnf
    refine⟨i+1,⟨hi',?_⟩,by omega,⟨⟨_,rfl,rfl⟩,trivial⟩,?_,rfl⟩
    ·rw[sV (p:=fun r:List Bool=>r.any fun b=>b) (d:=[]) (by omega) hal]; exact h3
    ·repeat' (first|exact trivial|exact⟨_,rfl,rfl⟩|constructor)
  ·have hi':M.length<=i:=by simpa using h2
   rw[List.take_of_length_le (by omega)] at hal
   conv=>whnf
   exact ak.bool (by rw[hrow,hal])
theorem zi{α β:Type}{f:α->β}{l:List α}{i:Nat}{d:β}{e:α}(h:i<l.length):(l.map f).getD i d=f (l.getD i e):=by
 rw[getD_some (by simpa using h),getD_some h,List.getElem_map]
theorem ae7{p:aC}{q:Prop'}{w:List Int}(hv:vk p q=0)(hw:Gz p w=true):Rq p (dG p q) ((dG p q).map (AV p)) ((dG p q).map (yx (dG p q) p)) w:=by
 have hc:=uT hv
 have hrc:=UY p q
 rw[I9 hv] at hrc
 obtain⟨hl,hS⟩:=hrc
 have hV:=kU (gu (lS hc)).1
 obtain⟨w1,w2⟩:=OC hw
 have hst:=hV.states
 have key: ∀ a x,(((dG p q).map (yx (dG p q) p)).getD a []).getD x []=[]\/ ∃ y∈dG p q,∃ r,(((dG p q).map (yx (dG p q) p)).getD a []).getD x []=DU (dG p q) r y:=by
  intro a x
  rcases Nat.lt_or_ge a (dG p q).length with ha|ha
  ·rw[zi (e:=default) ha]
   rcases Nat.lt_or_ge x p.rules.length with hx|hx
   ·right
    refine⟨_,bZ (d:=default) ha,p.rules.getD x default,?_⟩
    unfold yx
    rw[zi (e:=default) hx]
   ·left
    exact getD_none (by unfold yx; simpa using hx)
  ·left
   rw[show((dG p q).map (yx (dG p q) p)).getD a []=[] from getD_none (by simpa using ha)]
   rfl
 refine⟨hl,hV.OY,by simp,fun a ha=>?_,by simp,fun a ha=>?_,fun a x=>?_,fun a x b hb=>?_,fun i hi=>by rw[w1]; exact wtR hc hi,w2,by omega⟩
 ·rw[zi (e:=default) ha]; simp[AV]
 ·rw[zi (e:=default) ha]; simp[yx]
 ·rcases key a x with e|⟨y,hy,r,e⟩<;>rw[e]
  ·simp
  ·have h1:=J3 (dG p q) (gy r y)
   have h2:=yX (r:=r) (hS y hy).abs
   unfold DU
   omega
 ·rcases key a x with e|⟨y,hy,r,e⟩<;>rw[e] at hb
  ·cases hb
  ·exact aaG hb
noncomputable def DW(p:aC)(q:Prop')(w:List Int):Bool:=Fz p (dG p q) ((dG p q).map (AV p)) ((dG p q).map (yx (dG p q) p)) w
noncomputable def ZF(p:aC)(q:Prop')(w:List Int):Bool:=((GK p q 2==0)&&Gz p w)&&DW p q w
theorem S.fF(p:aC)(q:Prop')(w:List Int)(f:Bool)(hp:dL p)(hq:iF q)(hw:w.length<2^30):aj Tryz.prog 15 [.dat (.iE p),.dat (.prop q),.row 0 f (.ints w)] (.bool (ZF p q w)):=by
 refine aj.of Bd.fF (by simp) rfl rfl ?_
 conv=>whnf
 refine ah.pure (S.kY p q 2 hp hq) rfl ?_
 conv=>whnf
 refine .mk (by exact fun h=>⟨h,h⟩) ?_
 conv=>whnf
 refine ah.dM (fun _=>S.kK p w f hw) rfl ?_
 conv=>whnf
 repeat(refine VC.mk (by first|exact id|exact fun h=>⟨h,h⟩) ?_; conv=>whnf)
 have hk:((GK p q 2==0)&&Gz p w)=true->vk p q=0/\Gz p w=true:=fun h=>by
  rw[Bool.and_eq_true,beq_iff_eq] at h
  exact⟨G7 h.1,h.2⟩
 refine ah.dM (fun hb=>S.oV p q hp hq (hk hb).1) rfl ?_
 conv=>whnf
 refine .mk (by exact fun h=>⟨h,h⟩) ?_
 conv=>whnf
 refine ah.dM (fun hb=>S.FB p _ _ _ w f (ae7 (hk hb).1 (hk hb).2)) rfl ?_
 conv=>whnf
 refine VC.mk id ?_
 conv=>whnf
 exact ak.bool rfl
def rV(m:Nat):List Int->Nat
 |[]=>0
 |x::r=>x.toNat*(m+1)^r.length+rV m r
theorem acZ{α:Type}{g:Nat->List α}{B:Nat}(hg: ∀ k,(g k).length=B){K k j:Nat}(hk:k<K)(hj:j<B):((List.range K).flatMap g)[k*B+j]? =(g k)[j]? :=by
 induction K with
 |zero=>omega
 |succ K ih =>
  rw[List.range_succ,List.flatMap_append,List.flatMap_cons,List.flatMap_nil,List.append_nil]
  have hl:((List.range K).flatMap g).length=K*B:=by rw[WH hg,List.length_range]
  by_cases h:k=K
  ·subst h
   rw[List.getElem?_append_right (by omega),hl,Nat.add_sub_cancel_left]
  ·have hk':k<K:=by omega
   have:(k+1)*B<=K*B:=Nat.mul_le_mul_right _ hk'
   rw[Nat.add_mul,Nat.one_mul] at this
   rw[List.getElem?_append_left (by omega),ih hk']
theorem WX{m:Nat}: ∀ {c:List Int},(∀ x∈c,0<=x/\x<=m)->rV m c<(m+1)^c.length:=by
 intro c
 induction c with
 |nil=>intro _; simp[rV]
 |cons x r ih =>
  intro h
  have h1:=ih fun y hy=>h y (List.mem_cons_of_mem _ hy)
  have h2:=h x (by simp)
  simp only[rV,List.length_cons,Nat.pow_succ]
  have h3:x.toNat<=m:=by omega
  have h4:x.toNat*(m+1)^r.length<=m*(m+1)^r.length:=Nat.mul_le_mul_right _ h3
  rw[Nat.mul_succ,Nat.mul_comm _ m]
  omega
theorem ac0{m:Nat}: ∀ {n:Nat} {c:List Int},c.length=n->(∀ x∈c,0<=x/\x<=m)->(allM m n)[rV m c]? =some c:=by
 intro n
 induction n with
 |zero =>
  intro c hc _
  have:c=[]:=List.length_eq_zero_iff.1 hc
  subst this; rfl
 |succ n ih =>
  intro c hc h
  cases c with
  |nil=>cases hc
  |cons x r =>
   have hr:r.length=n:=by simpa using hc
   have hx:=h x (by simp)
   have hrr: ∀ y∈r,0<=y/\y<=m:=fun y hy=>h y (List.mem_cons_of_mem _ hy)
   have h1:=WX hrr
   simp only[rV,allM]
   rw[hr] at h1 ⊢
   rw[acZ (B:=(m+1)^n) (fun k=>by rw[List.length_map,pU]) (by omega) h1,List.getElem?_map,ih hr hrr]
   show some (((x.toNat:Nat):Int)::r)=_
   rw[Int.toNat_of_nonneg hx.1]
theorem RH{m:Nat}: ∀ {a b:List Int},rV m (a++b)=rV m a*(m+1)^b.length+rV m b:=by
 intro a b
 induction a with
 |nil=>simp[rV]
 |cons x r ih =>
  simp only[List.cons_append,rV,ih,List.length_append,Nat.pow_add]
  rw[Nat.add_mul,Nat.mul_assoc]
  omega
theorem Ny{m t:Nat}:rV m (List.replicate t 0)=0:=by
 induction t with
 |zero=>rfl
 |succ t ih=>rw[List.replicate_succ]; simp[rV,ih]
theorem RI{m t:Nat}:rV m (List.replicate t (m:Int))+1=(m+1)^t:=by
 induction t with
 |zero=>rfl
 |succ t ih =>
  rw[List.replicate_succ]
  simp only[rV,List.length_replicate,Int.toNat_natCast,Nat.pow_succ]
  rw[Nat.mul_succ,Nat.mul_comm _ m]
  omega
theorem Yt{m t:Nat}{a:List Int}{x:Int}(hx:0<=x):rV m (a++(x+1)::List.replicate t 0)=rV m (a++x::List.replicate t (m:Int))+1:=by
 rw[RH,RH]
 simp only[rV,List.length_cons,List.length_replicate,Ny]
 have e:(x+1).toNat=x.toNat+1:=by omega
 have:=RI (m:=m) (t:=t)
 rw[e,Nat.add_mul,Nat.one_mul]
 omega
structure FC(ac:List Int->Bool)(m n:Nat)(w:List Int):Prop where
 len:w.length=n
 rng: ∀ x∈w,0<=x/\x<=(m:Int)
 no: ∀ j,j<rV m w->ac ((allM m n).getD j [])=false
theorem FC.lt{ac:List Int->Bool}{m n:Nat}{w:List Int}(h:FC ac m n w):rV m w<(m+1)^n:=by rw[<- h.len]; exact WX h.rng
theorem FC.at'{ac:List Int->Bool}{m n:Nat}{w:List Int}(h:FC ac m n w):(allM m n)[rV m w]? =some w:=ac0 h.len h.rng
theorem FC.zero{ac:List Int->Bool}{m n:Nat}:FC ac m n (List.replicate n 0):=by
 refine⟨by simp,fun x hx=>?_,fun j hj=>?_⟩
 ·rw[List.eq_of_mem_replicate hx]; omega
 ·rw[Ny] at hj; omega
theorem FC.yes{ac:List Int->Bool}{m n:Nat}{w:List Int}(h:FC ac m n w)(ha:ac w=true):(allM m n).find? ac=some w:=by
 rw[List.find?_eq_some_iff_getElem]
 have hl:rV m w<(allM m n).length:=by rw[pU]; exact h.lt
 have e:=h.at'
 rw[List.getElem?_eq_getElem hl,Option.some.injEq] at e
 refine⟨ha,_,hl,e,fun j hj=>?_⟩
 have:=h.no j hj
 rw[getD_some (by omega)] at this
 rw[this]; rfl
theorem FC.next{ac:List Int->Bool}{m n t:Nat}{a:List Int}{x:Int}(h:FC ac m n (a++x::List.replicate t (m:Int)))(hx:x≠m)(hn:ac (a++x::List.replicate t (m:Int))=false):FC ac m n (a++(x+1)::List.replicate t 0)/\(m+1)^n-rV m (a++(x+1)::List.replicate t 0)<(m+1)^n-rV m (a++x::List.replicate t (m:Int)):=by
 have h0:=h.rng x (by simp)
 have e:=Yt (m:=m) (t:=t) (a:=a) (x:=x) h0.1
 refine⟨⟨?_,fun y hy=>?_,fun j hj=>?_⟩,?_⟩
 ·have:=h.len
  simp only[List.length_append,List.length_cons,List.length_replicate] at this ⊢
  exact this
 ·rcases List.mem_append.1 hy with hy|hy
  ·exact h.rng y (List.mem_append.2 (.inl hy))
  ·rcases List.mem_cons.1 hy with rfl|hy
   ·omega
   ·rw[List.eq_of_mem_replicate hy]; omega
 ·rw[e] at hj
  rcases Nat.lt_or_ge j (rV m (a++x::List.replicate t (m:Int))) with q|q
  ·exact h.no j q
  ·have:j=rV m (a++x::List.replicate t (m:Int)):=by omega
   subst this
   rw[List.getD_eq_getElem?_getD,h.at']; exact hn
 ·have:=h.lt
  omega
theorem FC.none{ac:List Int->Bool}{m n:Nat}(h:FC ac m n (List.replicate n (m:Int)))(hn:ac (List.replicate n (m:Int))=false):(allM m n).find? ac=none:=by
 rw[List.find?_eq_none]
 intro w hw
 obtain⟨j,hj,e⟩:=List.mem_iff_getElem.1 hw
 have ht:=RI (m:=m) (t:=n)
 rw[pU] at hj
 rcases Nat.lt_or_ge j (rV m (List.replicate n (m:Int))) with q|q
 ·have:=h.no j q
  rw[getD_some (by rw[pU]; exact hj),e] at this
  rw[this]; decide
 ·have:j=rV m (List.replicate n (m:Int)):=by omega
  subst this
  have e2:=h.at'
  rw[List.getElem?_eq_getElem (by rw[pU]; exact hj),Option.some.injEq,e] at e2
  rw[e2,hn]; decide
def rW(w:List Int)(t:Nat):List Int:=w.take (w.length-t)++List.replicate t 0
theorem Yu{w:List Int}{t:Nat}(h:t<=w.length):(rW w t).length=w.length:=by simp[rW]; omega
theorem G8{w:List Int}{t i:Nat}(h:i+t<w.length):(rW w t).getD i 0=w.getD i 0:=by
 unfold rW
 rw[List.getD_eq_getElem?_getD,List.getElem?_append_left (by rw[List.length_take]; omega),List.getElem?_take_of_lt (by omega),<- List.getD_eq_getElem?_getD]
theorem U6{w:List Int}{t:Nat}(h:t<w.length):(rW w t).set (w.length-(t+1)) 0=rW w (t+1):=by
 unfold rW
 have e:w.take (w.length-t)=w.take (w.length-(t+1))++[w[w.length-(t+1)]'(by omega)]:=by
  rw[show w.length-t=(w.length-(t+1))+1 by omega,List.take_add_one,List.getElem?_eq_getElem (by omega)]; rfl
 rw[e,List.append_assoc,List.set_append_right _ _ (by rw[List.length_take]; omega),List.length_take]
 rw[show w.length-(t+1)-min (w.length-(t+1)) w.length=0 by omega]
 rfl
theorem RJ{w:List Int}{t:Nat}{m:Int}(h:t<=w.length)(hm: ∀ j,w.length-t<=j->j<w.length->w.getD j 0=m):w.drop (w.length-t)=List.replicate t m:=by
 apply List.ext_getElem
 ·simp; omega
 ·intro j h1 h2
  have h2':j<t:=by simpa using h2
  rw[List.getElem_drop,List.getElem_replicate]
  have:=hm (w.length-t+j) (by omega) (by omega)
  rw[getD_some (by omega)] at this; exact this
theorem S.Nz(a:List Int)(f g:Bool)(ha:a.length<2^30):aj Tryz.prog 14 [.row 0 f (.ints a),.row 0 g (.ints a)] (.bool true):=by
 refine aj.of Bd.oh (by simp) rfl rfl ?_
 conv=>whnf
 refine Fork.mk (fun h1=>absurd h1 (by simp)) (fun h1=>?_)
 conv=>whnf
 refine aB.same [0,1] (fun i:Nat=>[(5,.int i)]) (fun i=>i<=a.length) (fun i=>a.length-i) 0 rfl (by decide) rfl (fun _=>rfl) (Nat.zero_le _) ⟨⟨_,rfl,rfl⟩,trivial⟩ ?_
 conv=>whnf
 refine⟨rfl,?_⟩
 rintro i hi
 conv=>whnf
 refine⟨fun h2=>?_,fun h2=>?_⟩
 ·have hi':i<a.length:=by simpa using h2
  conv=>whnf
  repeat(refine VC.mk (by simp only[Rw.rng] at *; first|omega|(simp_all; done)|(simp_all; omega)) ?_; conv=>whnf)
  refine⟨fun h3=>?_,fun h3=>?_⟩
  ·exfalso
   revert h3
   simp
  ·conv=>whnf
   refine .mk (by simp only[okI] at *; first|omega|(simp_all; done)|(simp_all; omega)) ?_
   conv=>whnf
   refine⟨i+1,hi',by omega,⟨⟨_,rfl,rfl⟩,trivial⟩,?_,rfl⟩
   repeat' (first|exact trivial|exact⟨_,rfl,rfl⟩|constructor)
 ·conv=>whnf
  exact ak.bool rfl
theorem aaX{w:List Int}{t:Nat}{m:Int}(h:t<w.length)(hm: ∀ j,w.length-t<=j->j<w.length->w.getD j 0=m):w=w.take (w.length-(t+1))++w.getD (w.length-(t+1)) 0::List.replicate t m:=by
 have h1:w.length-(t+1)<w.length:=by omega
 rw[<- RJ (by omega) hm,getD_some h1,show w.length-t=(w.length-(t+1))+1 by omega,<- List.drop_eq_getElem_cons h1,List.take_append_drop]
theorem Yv{w:List Int}{t:Nat}{v:Int}(h:t<w.length):(rW w t).set (w.length-(t+1)) v=w.take (w.length-(t+1))++v::List.replicate t 0:=by
 unfold rW
 have e:w.take (w.length-t)=w.take (w.length-(t+1))++[w[w.length-(t+1)]'(by omega)]:=by
  rw[show w.length-t=(w.length-(t+1))+1 by omega,List.take_add_one,List.getElem?_eq_getElem (by omega)]; rfl
 rw[e,List.append_assoc,List.set_append_right _ _ (by rw[List.length_take]; omega),List.length_take]
 rw[show w.length-(t+1)-min (w.length-(t+1)) w.length=0 by omega]
 rfl
def fwE(p:aC)(q:Prop')(most:Int):Int:=bif GK p q 2 !=0 then GK p q 2 else bif decide (most<0)||decide (most>3) then 1 else 0
noncomputable def fwO(p:aC)(q:Prop')(most:Int):Option (List Int):=@ite _ (fwE p q most=0) (Classical.propDecidable _) ((allM most.toNat p.states.length).find? (DW p q)) none
noncomputable def ZG(p:aC)(q:Prop')(most:Int):V:=.gW [.row 0 false (.ints ((fwO p q most).getD [])),.bool (fwO p q most).isSome,.int (fwE p q most)]
theorem aes{p:aC}{q:Prop'}{most:Int}(h:GK p q 2≠0):ZG p q most= .gW [.row 0 false (.ints []),.bool false,.int (GK p q 2)]:=by
 have e:fwE p q most=GK p q 2:=by unfold fwE; rw[show(GK p q 2 !=0)=true by simpa using h]; rfl
 have e2:fwO p q most=none:=if_neg (by rw[e]; exact h)
 unfold ZG; rw[e2,e]; rfl
theorem aeu{p:aC}{q:Prop'}{most:Int}(h:GK p q 2=0)(hm:(decide (most<0)||decide (most>3))=true):ZG p q most= .gW [.row 0 false (.ints []),.bool false,.int 1]:=by
 have e:fwE p q most=1:=by unfold fwE; rw[h,hm]; rfl
 have e2:fwO p q most=none:=if_neg (by rw[e]; decide)
 unfold ZG; rw[e2,e]; rfl
theorem U7{p:aC}{q:Prop'}{most:Int}{o:Option (List Int)}(h:GK p q 2=0)(hm:(decide (most<0)||decide (most>3))=false)(ho:(allM most.toNat p.states.length).find? (DW p q)=o):ZG p q most= .gW [.row 0 false (.ints (o.getD [])),.bool o.isSome,.int 0]:=by
 have e:fwE p q most=0:=by unfold fwE; rw[h,hm]; rfl
 have e2:fwO p q most=o:=by rw[<- ho]; exact if_pos e
 unfold ZG; rw[e2,e]
theorem ak.fwN{h:Hz}{c:Int}:ak (.gW [.row 0 false (.ints []),.bool false,.int c]) (.gW [.row 0 true .nil,.bool false,.int c]) h:=⟨by
 show T.sub _ _ (.gW _) (.gW _)
 simp only[T.sub]
 exact⟨by show T.sub _ _ (.sl 0 false []) (.sl 0 true []); simp[T.sub],aF _,aF _,trivial⟩⟩
theorem ak.fwY{h:Hz}{j:Nat}{l:List Int}(q:h.get j=some (nN l)):ak (.gW [.row 0 false (.ints l),.bool true,.int 0]) (.gW [.own j,.bool true,.int 0]) h:=⟨by
 show T.sub _ _ (.gW _) (.gW _)
 simp only[T.sub]
 exact⟨xQ trivial q,aF _,aF _,trivial⟩⟩
theorem aev{p:aC}{m:Nat}{w:List Int}(hm:m<=3)(hl:w.length=p.states.length)(hr: ∀ x∈w,0<=x/\x<=(m:Int)):Gz p w=true:=by
 unfold Gz
 rw[show((w.length:Int) !=p.states.length)=false by rw[hl]; simp]
 show w.all Uo=true
 rw[List.all_eq_true]
 intro x hx
 have:=hr x hx
 unfold Uo
 rw[show decide (x<0)=false by simp; omega,show decide (6<x)=false by simp; omega]; rfl
set_option maxHeartbeats 1000000 in
theorem S.jF(p:aC)(q:Prop')(most:Int)(hp:dL p)(hq:iF q):aj Tryz.prog 17 [.dat (.iE p),.dat (.prop q),.int most] (ZG p q most):=by
 refine aj.of Bd.jF (by simp) rfl rfl ?_
 conv=>whnf
 refine ah.pure (S.kY p q 2 hp hq) rfl ?_
 conv=>whnf
 refine⟨fun h1=>?_,fun h1=>?_⟩
 ·rw[aes (show GK p q 2≠0 by simpa using h1)]
  conv=>whnf
  exact ak.fwN
 ·have h0:GK p q 2=0:=by simpa using h1
  conv=>whnf
  repeat(refine VC.mk (by first|exact id|(intro h; rw[h]; rfl)) ?_; conv=>whnf)
  refine⟨fun h2=>?_,fun h2=>?_⟩
  ·rw[aeu h0 h2]
   conv=>whnf
   exact ak.fwN
  ·have hms:0<=most/\most<=3:=by
    have h2':(decide (most<0)||decide (most>3))=false:=h2
    rw[Bool.or_eq_false_iff,decide_eq_false_iff_not,decide_eq_false_iff_not] at h2'; omega
   have hv:=G7 h0
   have hst:=(kU (gu (lS (uT hv))).1).states
   have ZH:=fun o ho=>U7 (o:=o) h0 h2 ho
   obtain⟨m,rfl⟩: ∃ m:Nat,most=m:=⟨most.toNat,by omega⟩
   have hm3:m<=3:=by omega
   simp only[Int.toNat_natCast] at ZH
   have hr0:=Bo (kU (gu (lS (uT hv))).1).pos
   generalize ZG p q m=VV at ZH
   conv=>whnf
   refine ah.pure (S.oV p q hp hq hv) rfl ?_
   have hF:=fun w (hw:Gz p w=true)=>ae7 (p:=p) (q:=q) (w:=w) hv hw
   have hac: ∀ w,DW p q w=Fz p (dG p q) ((dG p q).map (AV p)) ((dG p q).map (yx (dG p q) p)) w:=fun _=>rfl
   generalize DW p q=ac at ZH hac
   generalize dG p q=l at hF hac
   generalize l.map (AV p)=on at hF hac
   generalize l.map (yx l p)=dF at hF hac
   conv=>whnf
   rw[hr0]
   conv=>whnf
   refine .mk (by omega) ?_
   conv=>whnf
   refine aB.fam 20 [2] (fun w:List Int=>[(10,.ptr 4 0 0),(11,.own 5)]) (fun w=>mZ [(4,boxS p l on dF),(5,nN w)]) (fun w=>FC ac m p.states.length w) (fun w=>(m+1)^p.states.length-rV m w) (List.replicate p.states.length 0) (dX [(4,boxS p l on dF),(5,nN (List.replicate p.states.length 0))] [20,25]) _ rfl (by decide) (fun _=>rfl) .zero (sR rfl) (.inl rfl) ?_ ?_
   ·refine gG.lits _ _ ⟨aT rfl rfl,aT rfl rfl,trivial⟩
   conv=>whnf
   refine⟨(sR rfl),rfl,?_⟩
   rintro w hI
   have hwl:=hI.len
   conv=>whnf
   refine ah.lend (S.FB p l on dF w false (hF w (aev hm3 hI.len hI.rng))) ⟨aF _,xQ trivial rfl,trivial⟩ rfl rfl ?_
   rw[<- hac]
   conv=>whnf
   refine⟨fun h3=>?_,fun h3=>?_⟩
   ·rw[ZH _ (hI.yes h3)]
    conv=>whnf
    exact ak.fwY rfl
   ·conv=>whnf
    refine .mk (by simp only[okI] at *; first|omega|(simp_all; done)|(simp_all; omega)) ?_
    conv=>whnf
    have hz0:rW w 0=w:=by simp[rW]
    refine aB.fam 20 [2,10] (fun t:Nat=>[(12,.int ((w.length:Int)-1-t)),(11,.own 5)]) (fun t=>mZ [(4,boxS p l on dF),(5,nN (rW w t))]) (fun t=>t<=w.length/\ ∀ j,w.length-t<=j->j<w.length->w.getD j 0=m) (fun t=>w.length-t) 0 (dX [(4,boxS p l on dF),(5,nN (rW w 0))] [4,5]) _ rfl (by decide) (fun _=>rfl) ⟨Nat.zero_le _,fun j h1 h2=>by omega⟩ ⟨⟨_,rfl,.eq (congrArg (fun z=>T.int z) (show(w.length:Int)-1-((0:Nat):Int)=(w.length:Int)-1 by omega))⟩,⟨_,rfl,.eq rfl⟩,trivial⟩ (.inl rfl) ?_ ?_
    ·refine gG.lits _ _ ⟨aT rfl rfl,okF rfl nofun rfl rfl rfl ⟨rfl,rfl⟩ ?_,trivial⟩
     rw[hz0]
    conv=>whnf
    refine⟨(sR rfl),rfl,?_⟩
    rintro t ⟨ht,hmt⟩
    have hzl:(rW w t).length=w.length:=Yu ht
    conv=>whnf
    repeat(refine VC.mk (by first|exact id|exact fun h=>⟨h,h⟩|(simp only[Rw.rng] at *; first|omega|(simp_all; done)|(simp_all; omega))) ?_; conv=>whnf)
    refine⟨fun h4=>?_,fun h4=>?_⟩
    ·rw[Bool.and_eq_true] at h4
     have h5:=of_decide_eq_true h4.1
     have htl:t<w.length:=by omega
     have hti:((w.length:Int)-1-t).toNat=w.length-(t+1):=by omega
     have h6:w.getD (w.length-(t+1)) 0=m:=by
      have h7:((rW w t).getD ((w.length:Int)-1-t).toNat 0==(m:Int))=true:=h4.2
      rw[hti,G8 (by omega)] at h7
      simpa using h7
     have hnx:=U6 htl
     conv=>whnf
     repeat(refine VC.mk (by first|(simp only[Rw.rng]; omega)|(simp only[okI] at *; omega)) ?_; conv=>whnf)
     refine iH.lits (t+1) [(4,boxS p l on dF),(5,nN (rW w (t+1)))] [4,5] _ (.inl rfl) rfl ⟨by omega,fun j j1 j2=>?_⟩ (by omega) ⟨⟨_,rfl,.eq (congrArg (fun z=>T.int z) (show(w.length:Int)-1-((t+1:Nat):Int)=(w.length:Int)-1-t-1 by omega))⟩,⟨_,rfl,.eq rfl⟩,trivial⟩ (sR rfl) ⟨aT rfl rfl,okF rfl nofun rfl rfl rfl ⟨rfl,rfl⟩ ?_,trivial⟩
     ·rcases Nat.lt_or_ge j (w.length-t) with g|g
      ·have:j=w.length-(t+1):=by omega
       subst this; exact h6
      ·exact hmt j g j2
     ·rw[<- hnx,<- hti]
    ·conv=>whnf
     refine⟨fun h5=>?_,fun h5=>?_⟩
     ·have h6:=of_decide_eq_true h5
      have htn:t=w.length:=by omega
      have hwm:w=List.replicate p.states.length (m:Int):=by
       have:=RJ ht hmt
       rw[htn,Nat.sub_self,List.drop_zero,hwl] at this; exact this
      rw[hwm] at hI h3
      rw[ZH _ (hI.none h3)]
      conv=>whnf
      exact ak.fwN
     ·have h6:=of_decide_eq_false h5
      have htl:t<w.length:=by omega
      have hti:((w.length:Int)-1-t).toNat=w.length-(t+1):=by omega
      have hne:w.getD (w.length-(t+1)) 0≠m:=by
       intro e
       have h7:(decide ((w.length:Int)-1-t>=0)&&((rW w t).getD ((w.length:Int)-1-t).toNat 0==(m:Int)))=false:=h4
       rw[hti,G8 (by omega),e,decide_eq_true (by omega)] at h7
       simp at h7
      have hsp:=aaX htl hmt
      have hzg:(rW w t).getD (w.length-(t+1)) 0=w.getD (w.length-(t+1)) 0:=G8 (by omega)
      have hrg:=hI.rng _ (bZ (d:=0) (show w.length-(t+1)<w.length by omega))
      have hzp:=Yv (v:=w.getD (w.length-(t+1)) 0+1) htl
      generalize w.getD (w.length-(t+1)) 0=x at hne hsp hzg hrg hzp
      rw[<- hti] at hzg
      have hzI:(rW w t).getD ((w.length:Int)-1-t).toNat 0=x:=hzg
      rw[hsp] at hI h3
      obtain⟨n1,n2⟩:=hI.next hne h3
      conv=>whnf
      repeat(refine VC.mk (by first|(simp only[Rw.rng]; omega)|(simp only[okI]; rw[hzI]; omega)) ?_; conv=>whnf)
      refine iH.lits (w.take (w.length-(t+1))++(x+1)::List.replicate t 0) [(4,boxS p l on dF),(5,nN (w.take (w.length-(t+1))++(x+1)::List.replicate t 0))] [4,5] _ (.inl rfl) rfl n1 (by rw[<- hsp] at n2; exact n2) (sR rfl) (sR rfl) ⟨aT rfl rfl,okF rfl nofun rfl rfl rfl ⟨rfl,rfl⟩ ?_,trivial⟩
      rw[hzI,hti,hzp]
set_option maxHeartbeats 1000000 in
theorem S.mJ(p:aC)(q:Prop')(most:Int)(hp:dL p)(hq:iF q):aj Tryz.prog 18 [.dat (.iE p),.dat (.prop q),.int most] (ZG p q most):=by
 refine aj.of Bd.mJ (by simp) rfl rfl ?_
 conv=>whnf
 refine ah.pure (S.Bl p q 2 hp hq) rfl ?_
 conv=>whnf
 refine⟨fun h1=>?_,fun h1=>?_⟩
 ·rw[aes (show GK p q 2≠0 by simpa using h1)]
  conv=>whnf
  exact ak.fwN
 ·have h0:GK p q 2=0:=by simpa using h1
  conv=>whnf
  repeat(refine VC.mk (by first|exact id|(intro h; rw[h]; rfl)) ?_; conv=>whnf)
  refine⟨fun h2=>?_,fun h2=>?_⟩
  ·rw[aeu h0 h2]
   conv=>whnf
   exact ak.fwN
  ·have hms:0<=most/\most<=3:=by
    have h2':(decide (most<0)||decide (most>3))=false:=h2
    rw[Bool.or_eq_false_iff,decide_eq_false_iff_not,decide_eq_false_iff_not] at h2'; omega
   have hv:=G7 h0
   have hV:=kU (gu (lS (uT hv))).1
   have hst:=hV.states
   have ZH:=fun o ho=>U7 (o:=o) h0 h2 ho
   obtain⟨m,rfl⟩: ∃ m:Nat,most=m:=⟨most.toNat,by omega⟩
   have hm3:m<=3:=by omega
   simp only[Int.toNat_natCast] at ZH
   generalize ZG p q m=VV at ZH
   conv=>whnf
   refine ah.pure (S.uG p q hp hq hv) rfl ?_
   have hF:=fun w (hw:Gz p w=true)=>ae7 (p:=p) (q:=q) (w:=w) hv hw
   have hac: ∀ w,DW p q w=Fz p (dG p q) ((dG p q).map (AV p)) ((dG p q).map (yx (dG p q) p)) w:=fun _=>rfl
   generalize DW p q=ac at ZH hac
   generalize dG p q=l at hF hac
   generalize l.map (AV p)=on at hF hac
   generalize l.map (yx l p)=dF at hF hac
   conv=>whnf
   refine ah.pure (S.QL m p.states.length hV.pos hV.states hm3) rfl ?_
   have hin: ∀ w∈allM m p.states.length,w.length=p.states.length/\Gz p w=true:=fun w hw=>by
    obtain⟨a1,a2⟩:=wJ.1 hw
    exact⟨a1,aev hm3 a1 a2⟩
   have hAl:(allM m p.states.length).length<=4^6:=by
    rw[pU]
    exact Nat.le_trans (Nat.pow_le_pow_left (by omega) _) (Nat.pow_le_pow_right (by decide) hst)
   have h46:4^6=4096:=by decide
   generalize allM m p.states.length=A at ZH hin hAl
   conv=>whnf
   refine aB.same [3,10,11] (fun i:Nat=>[(12,.int i)]) (fun i=>i<=A.length/\ ∀ j,j<i->ac (A.getD j [])=false) (fun i=>A.length-i) 0 rfl (by decide) rfl (fun _=>rfl) ⟨Nat.zero_le _,fun j hj=>absurd hj (Nat.not_lt_zero _)⟩ ⟨⟨_,rfl,rfl⟩,trivial⟩ ?_
   conv=>whnf
   refine⟨rfl,?_⟩
   rintro i ⟨hi,hno⟩
   conv=>whnf
   refine⟨fun h3=>?_,fun h3=>?_⟩
   ·have hi':i<A.length:=by simpa using h3
    obtain⟨a1,a2⟩:=hin _ (bZ (d:=[]) hi')
    conv=>whnf
    refine .mk (by simp only[Rw.rng] at *; first|omega|(simp_all; done)|(simp_all; omega)) ?_
    conv=>whnf
    refine ah.pure (S.rU p l on dF (A.getD i []) false (hF _ a2)) rfl ?_
    rw[<- hac]
    conv=>whnf
    refine⟨fun h4=>?_,fun h4=>?_⟩
    ·have hfi:A.find? ac=some (A.getD i []):=by
      rw[List.find?_eq_some_iff_getElem]
      refine⟨h4,i,hi',by rw[getD_some hi'],fun j hj=>?_⟩
      have:=hno j hj
      rw[getD_some (by omega)] at this
      rw[this]; rfl
     rw[ZH _ hfi]
     conv=>whnf
     repeat(refine VC.mk (by first|(first|(show(0+(A.getD i []).length)*8<=140737488355328/\0+(A.getD i []).length<=1152921504606846976; omega))|(simp only[Rw.rng] at *; first|omega|(simp_all; done)|(simp_all; omega))) ?_; conv=>whnf)
     exact ak.fwY rfl
    ·conv=>whnf
     refine .mk (by simp only[okI] at *; first|omega|(simp_all; done)|(simp_all; omega)) ?_
     conv=>whnf
     refine⟨i+1,⟨hi',fun j hj=>?_⟩,by omega,⟨⟨_,rfl,rfl⟩,trivial⟩,?_,rfl⟩
     ·rcases Nat.lt_or_ge j i with g|g
      ·exact hno j g
      ·have:j=i:=by omega
       subst this; exact h4
     ·repeat' (first|exact trivial|exact⟨_,rfl,rfl⟩|constructor)
   ·have hi':A.length<=i:=by simpa using h3
    have hfi:A.find? ac=none:=by
     rw[List.find?_eq_none]
     intro w hw
     obtain⟨j,hj,e⟩:=List.mem_iff_getElem.1 hw
     have:=hno j (by omega)
     rw[getD_some hj,e] at this
     rw[this]; decide
    rw[ZH _ hfi]
    conv=>whnf
    exact ak.fwN
end Go.Proofs.YtajmbgljnaljiaaGreatDoor
namespace Go.Proofs.YtajmbgljnaljiaaGreatDoor
open Go.Ab Go.Proofs
set_option maxRecDepth 100000
structure RN(g g':Gr):Prop where
 n:g.n=g'.n
 k:g.k=g'.k
 Rj: ∀ a i,i<g.k->g.Rj a i=g'.Rj a i
 E5: ∀ a x,x<g.k->g.E5 a x=g'.E5 a x
 OZ:g.OZ=g'.OZ
 dF:g.dF=g'.dF
theorem RN.hlp{g g':Gr}(h:RN g g'){a i:Nat}(hi:i<g.k):g.hlp a i=g'.hlp a i:=by
 have key: ∀ G:Nat->Prop,g.Cl i G↔g'.Cl i G:=by
  intro G
  unfold Gr.Cl
  refine forall_congr' fun a=>imp_congr_right fun _=>?_
  rw[h.n,h.Rj a i hi,h.OZ,h.dF,h.k]
  refine and_congr_right fun _=>and_congr_right fun _=>forall_congr' fun x=>imp_congr_right fun hx=>?_
  rw[h.E5 a x (by rw[h.k]; exact hx)]
 rw[Bool.eq_iff_iff,Dk,Dk]
 constructor
 ·rintro⟨G,h1,h2⟩; exact⟨G,(key G).1 h1,h2⟩
 ·rintro⟨G,h1,h2⟩; exact⟨G,(key G).2 h1,h2⟩
theorem RN.pG{g g':Gr}(h:RN g g'):g.pG=g'.pG:=by
 unfold Gr.pG
 rw[<- h.n,<- h.k]
 refine List.map_congr_left fun a _=>List.map_congr_left fun i hi=>?_
 exact h.hlp (List.mem_range.1 hi)
theorem Yw{p:aC}{l:List Elem}{on:List (List Bool)}{dF:List (List (List Int))}{w w':List Int}(h: ∀ i,i<p.rules.length->oK (p.rules.getD i default) w=oK (p.rules.getD i default) w'/\rF (p.rules.getD i default) w=rF (p.rules.getD i default) w'):Fz p l on dF w=Fz p l on dF w':=by
 have hg:RN (IV p l on dF w) (IV p l on dF w'):=by
  refine⟨rfl,rfl,fun a i hi=>?_,fun a x hx=>?_,rfl,rfl⟩
  ·show((on.getD a []).getD i false&&rF _ w)=((on.getD a []).getD i false&&rF _ w')
   rw[(h i hi).2]
  ·show(((on.getD a []).getD x false&& !(oK _ w))&& !(rF _ w))=(((on.getD a []).getD x false&& !(oK _ w'))&& !(rF _ w'))
   rw[(h x hx).1,(h x hx).2]
 have hu: ∀ a,upS p.rules on w a=upS p.rules on w' a:=fun a=>by
  unfold upS
  rw[Bool.eq_iff_iff,List.any_eq_true,List.any_eq_true]
  refine exists_congr fun i=>and_congr_right fun hi=>?_
  rw[(h i (List.mem_range.1 hi)).1]
 unfold Fz
 rw[hg.pG]
 simp only[hu]
theorem aaY{r:Rule}{w w':List Int}(h1: ∀ x,x<r.response.length->UC r w x=UC r w' x)(h2:decide (0<wF r w)=decide (0<wF r w'))(h3:decide (wF r w<0)=decide (wF r w'<0)):oK r w=oK r w'/\rF r w=rF r w':=by
 have e:oK r w=oK r w':=by
  unfold oK upB
  rw[h2]
  congr 1
  rw[Bool.eq_iff_iff,List.any_eq_true,List.any_eq_true]
  refine exists_congr fun i=>and_congr_right fun hi=>?_
  rw[h1 i (List.mem_range.1 hi)]
 refine⟨e,?_⟩
 unfold rF
 rw[e,h3]
theorem NC(w:List Int)(i:Nat):(w.map fun x=>2*x).getD i 0=2*w.getD i 0:=by
 rcases Nat.lt_or_ge i w.length with h|h
 ·rw[zi (e:=0) h]
 ·rw[getD_none (by simpa using h),getD_none h]; rfl
theorem Yx(r:Rule)(w:List Int):oK r (w.map fun x=>2*x)=oK r w/\rF r (w.map fun x=>2*x)=rF r w:=by
 have hw: ∀ x,wt (w.map fun x=>2*x) x=2*wt w x:=fun x=>NC w x.toNat
 have hc:wF r (w.map fun x=>2*x)=2*wF r w:=by
  unfold wF
  rw[hw,hw,hw,hw]
  cases r.kind==2<;>simp only[cond_true,cond_false]<;>omega
 refine aaY (fun x _=>?_) ?_ ?_
 ·unfold UC
  rw[hw,NC,decide_eq_decide]; omega
 ·rw[hc,decide_eq_decide]; omega
 ·rw[hc,decide_eq_decide]; omega
theorem RP{w:List Int}{i:Nat}(h:i<w.length):(w.map fun x=>x+1).getD i 0=w.getD i 0+1:=zi (e:=0) h
theorem aaZ{r:Rule}{w:List Int}(h:Uy w.length r):oK r (w.map fun x=>x+1)=oK r w/\rF r (w.map fun x=>x+1)=rF r w:=by
 have p1:=h.place.src; have p2:=h.place.dst; have p3:=h.place.Uz; have p4:=h.place.UA
 have hw: ∀ x:Int,0<=x/\x<w.length->wt (w.map fun x=>x+1) x=wt w x+1:=fun x hx=>RP (by omega)
 have hc:wF r (w.map fun x=>x+1)=wF r w:=by
  unfold wF
  rw[hw _ p1,hw _ p2,hw _ p3,hw _ p4]
  cases r.kind==2<;>simp only[cond_true,cond_false]<;>omega
 refine aaY (fun x hx=>?_) (by rw[hc]) (by rw[hc])
 unfold UC
 have hl:=h.agu
 rw[hw _ (yJ h.agv hx),RP (by omega),decide_eq_decide]; omega
theorem RQ{p:aC}{q:Prop'}{w w':List Int}(hw:Gz p w=true)(hw':Gz p w'=true)(h:AQ p=0-> ∀ i,i<p.rules.length->oK (p.rules.getD i default) w=oK (p.rules.getD i default) w'/\rF (p.rules.getD i default) w=rF (p.rules.getD i default) w'):ZF p q w=ZF p q w':=by
 unfold ZF
 rw[hw,hw']
 cases hk:(GK p q 2==0) with
 |false=>rfl
 |true =>
  have hk0:GK p q 2=0:=by simpa using hk
  show DW p q w=DW p q w'
  unfold DW
  exact Yw (h (uT (G7 hk0)))
theorem aa0{p:aC}{q:Prop'}{w:List Int}(hw:Gz p w=true):(Gz p (w.map fun x=>2*x)&&(ZF p q (w.map fun x=>2*x) !=ZF p q w))=false:=by
 cases h:Gz p (w.map fun x=>2*x) with
 |false=>rfl
 |true=>rw[RQ h hw fun _ i _=>Yx _ w]; simp
theorem ac1{p:aC}{q:Prop'}{w:List Int}(hw:Gz p w=true):(Gz p (w.map fun x=>x+1)&&(ZF p q (w.map fun x=>x+1) !=ZF p q w))=false:=by
 cases h:Gz p (w.map fun x=>x+1) with
 |false=>rfl
 |true=>rw[RQ h hw fun hc i hi=>aaZ (by rw[(OC hw).1]; exact wtR hc hi)]; simp
end Go.Proofs.YtajmbgljnaljiaaGreatDoor
