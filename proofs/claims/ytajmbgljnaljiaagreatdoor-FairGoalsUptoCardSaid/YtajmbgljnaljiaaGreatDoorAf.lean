/-
 The space of a property: fair's. No condition.
-/
import Derived.Test.YtajmbgljnaljiaaGreatDoorAe
namespace Go.Proofs.YtajmbgljnaljiaaGreatDoor
open Go.Ab Go.Proofs
set_option maxRecDepth 100000
theorem Y2(c:Nat)(v:V): ∀ (cs:List V),V.aS (cs.set c v)=(V.aS cs).set c v.aF:=by
 induction c with
 |zero=>intro cs; cases cs<;>rfl
 |succ c ih =>
  intro cs
  cases cs with
  |nil=>rfl
  |cons x r=>show x.aF::V.aS (r.set c v)=x.aF::(V.aS r).set c v.aF; rw[ih r]
theorem Ku: ∀ (cs:List V),(V.aS cs).length=cs.length:=by
 intro cs
 induction cs with
 |nil=>rfl
 |cons x r ih=>show(V.aS r).length+1=r.length+1; rw[ih]
theorem aP.abu{P:Program}{N pn nx:Nat}{b:fF}{Q:Qz}{m:Fm}{h:Hz}(j c ty k:Nat){k' oty:Nat}{cs:List V}(hj:h.get j=some (.box oty (cs.length+1) (.agg cs)))(hc:c<cs.length)(hg:(V.aS cs).getD c .any= .sl k' true [])(hk:vH k=true)(hn:j<nx)
  (H:aP P N pn b Q m ((nx,some (.row ty k .nil []))::(j,some (.box oty (cs.length+1) (.agg (cs.set c (.own nx)))))::h) (nx+1)):aP P N pn b Q m h nx:=by
 refine⟨fun fr hl R=>?_⟩
 have H':=H.ok fr hl R
 have e:Hz.aj ((nx,some (.row ty k .nil []))::(j,some (.box oty (cs.length+1) (.agg (cs.set c (.own nx)))))::h)=upd (upd h.aj j (some ⟨oty,(V.aS cs).length+1,[.agg ((V.aS cs).set c (.own nx))]⟩)) nx (some ⟨ty,k,[]⟩):=by
  rw[bn,bn,Ku]
  show upd (upd h.aj j (some ⟨oty,cs.length+1,[.agg (V.aS (cs.set c (.own nx)))]⟩)) nx (some ⟨ty,k,[]⟩)=_
  rw[Y2]; rfl
 rw[e] at H'
 obtain⟨I,μ,⟨s0,w0,i0⟩,round⟩:=H'
 have hj':h.aj j=some ⟨oty,(V.aS cs).length+1,[.agg (V.aS cs)]⟩:=by rw[Ku]; exact aO hj
 exact⟨I,μ,⟨s0,Wk.Y3 j c ty k hj' (by rw[Ku]; exact hc) hg hk hn w0,i0⟩,round⟩
abbrev zx:V:=.row 0 true .nil
abbrev zSp:V:=.agg [.str [],.int 0,zx,zx,zx,.int 0,zx,zx,zx,zx,zx,zx,zx]
abbrev spO(p:aH)(l:List Elem)(i j:Nat):V:=.agg [.str p.name,.int p.topology,.row 0 false (.strs p.states),.row 0 false (.strs p.messages),.row 0 false (.strs p.values),.int p.fault,.row 5 false (.vG p.dM),.row 0 false (.ints p.initial),.row 0 false (.ints p.leader),.row 19 false (.rules p.rules),.row 3 false (.elems l),.own i,.own j]
abbrev spC(p:aH)(l:List Elem)(u v:V):List V:=[.str p.name,.int p.topology,.row 0 false (.strs p.states),.row 0 false (.strs p.messages),.row 0 false (.strs p.values),.int p.fault,.row 5 false (.vG p.dM),.row 0 false (.ints p.initial),.row 0 false (.ints p.leader),.row 19 false (.rules p.rules),.row 3 false (.elems l),u,v]
abbrev aaO(p:aH)(l:List Elem)(i j:Nat):OV:=.box 66 14 (spO p l i j)
abbrev Bj(l:List (List Bool)):OV:=.row 69 0 (.gu l) []
abbrev Kv(l:List (List (List Int))):OV:=.row 36 0 (.jw l) []
abbrev ac4:OV:=.box 66 14 zSp
abbrev Wy(p:aH)(q:Prop')(l:List Elem)(a:Nat):List (Nat×OV):=[(0,YV p),(1,nX q),(2,ac4),(8,aaO p l 20 21),(20,Bj ((l.take a).map (zY p))),(21,Kv ((l.take a).map (zD l p)))]
def Yv(p:aH)(x:Elem)(i:Nat):List Bool:=(List.range i).map (fun j=>(iC (p.rules.getD j default) x).isSome)++List.replicate (p.rules.length-i) false
theorem WA{p:aH}{x:Elem}:Yv p x 0=List.replicate p.rules.length false:=by simp[Yv]
theorem Y4{p:aH}{x:Elem}{i:Nat}(h:i<=p.rules.length):(Yv p x i).length=p.rules.length:=by simp[Yv]; omega
theorem Y5{p:aH}{x:Elem}{i:Nat}(h:i<p.rules.length):(Yv p x i).set i ((iC (p.rules.getD i default) x).isSome)=Yv p x (i+1):=by
 unfold Yv
 rw[List.set_append_right _ _ (by simp)]
 simp only[List.length_map,List.length_range,Nat.sub_self]
 rw[show p.rules.length-i=(p.rules.length-(i+1))+1 by omega,List.replicate_succ,List.set_cons_zero,List.range_succ,List.map_append,List.append_assoc]; rfl
theorem Ri{α β:Type}(f:α->β)(d:α)(l:List α):(List.range l.length).map (fun j=>f (l.getD j d))=l.map f:=by
 apply List.ext_getElem
 ·simp
 ·intro i h1 h2
  have hi:i<l.length:=by simpa using h2
  simp[hi]
theorem Y6{p:aH}{x:Elem}:Yv p x p.rules.length=zY p x:=by
 unfold Yv zY
 rw[Nat.sub_self,List.replicate_zero,List.append_nil]
 exact Ri (fun r=>(iC r x).isSome) default p.rules
def rF(l:List Elem)(p:aH)(x:Elem)(i:Nat):List V:=(List.range i).map (fun j=>V.row 0 false (.ints (Dq l (p.rules.getD j default) x)))++List.replicate (p.rules.length-i) (uJ .nil)
theorem Y7{l:List Elem}{p:aH}{x:Elem}{i:Nat}(h:i<=p.rules.length):(rF l p x i).length=p.rules.length:=by simp[rF]; omega
theorem WB{l:List Elem}{p:aH}{x:Elem}:rF l p x 0=List.replicate p.rules.length (uJ .nil):=by simp[rF]
theorem abv{l:List Elem}{p:aH}{x:Elem}{i:Nat}(h:i<p.rules.length):(rF l p x i)[i]? =some (uJ .nil):=by
 unfold rF
 rw[List.getElem?_append_right (by simp)]
 simp only[List.length_map,List.length_range,Nat.sub_self]
 rw[show p.rules.length-i=(p.rules.length-(i+1))+1 by omega,List.replicate_succ]; rfl
theorem yV{l:List Elem}{p:aH}{x:Elem}{i:Nat}{v:V}(h:v∈rF l p x i):(∃ c,v= .row 0 false (.ints c))\/v=uJ .nil:=by
 unfold rF at h
 rcases List.mem_append.1 h with h|h
 ·obtain⟨j,_,rfl⟩:=List.mem_map.1 h
  exact .inl ⟨_,rfl⟩
 ·exact .inr (List.eq_of_mem_replicate h)
theorem x9{l:List Elem}{p:aH}{x:Elem}{i:Nat}:(OV.gen 24 0 (rF l p x i)).good 30=true:=by
 refine FW (fun v hv=>?_) fun v hv=>?_<;>rcases yV hv with ⟨c,rfl⟩|rfl<;>rfl
theorem Dt{l:List Elem}{p:aH}{x:Elem}{i:Nat}:(OV.gen 24 0 ((rF l p x i).set i (.own 25))).good 30=true:=by
 refine FW (fun v hv=>?_) fun v hv=>?_<;>rcases List.mem_or_eq_of_mem_set hv with hv|rfl
 ·rcases yV hv with ⟨c,rfl⟩|rfl<;>rfl
 ·rfl
 ·rcases yV hv with ⟨c,rfl⟩|rfl<;>rfl
 ·rfl
theorem EO{l:List Elem}{p:aH}{x:Elem}{i:Nat}{ρ:Nat->Nat}:dL (T.bQ ρ (OV.gen 24 0 (rF l p x i)).ay.l) (OV.gen 24 0 (rF l p x i)).ay.l:=by
 refine dL.of_eq ?_
 show T.bQ _ (V.aS (rF l p x i))=V.aS (rF l p x i)
 rw[vF,bY,List.map_map]
 refine List.map_congr_left fun v hv=>?_
 rcases yV hv with ⟨c,rfl⟩|rfl<;>rfl
theorem FY{l:List Elem}{p:aH}{x:Elem}{i N:Nat}{ρ:Nat->Nat}(h:ρ 25=N):dL (T.bQ ρ (OV.gen 24 0 ((rF l p x i).set i (.own 25))).ay.l) (OV.gen 24 0 ((rF l p x i).set i (.own N))).ay.l:=by
 refine dL.of_eq ?_
 show T.bQ _ (V.aS ((rF l p x i).set i (.own 25)))=V.aS ((rF l p x i).set i (.own N))
 rw[vF,bY,bY,List.map_map,List.map_set,List.map_set]
 have e:(rF l p x i).map (T.ren ρ ∘ V.aF)=(rF l p x i).map V.aF:=List.map_congr_left fun v hv=>by
  rcases yV hv with ⟨c,rfl⟩|rfl<;>rfl
 rw[e,<- h]; rfl
theorem Y8{l:List Elem}{p:aH}{x:Elem}{i:Nat}{ρ:Nat->Nat}(h:i<p.rules.length)(he:Dq l (p.rules.getD i default) x=[]):dL (T.bQ ρ (OV.gen 24 0 (rF l p x (i+1))).ay.l) (OV.gen 24 0 (rF l p x i)).ay.l:=by
 intro Z hh
 have hr:=(EO (l:=l) (p:=p) (x:=x) (i:=i+1) (ρ:=ρ))
 have e:T.bQ ρ (V.aS (rF l p x (i+1)))=V.aS (rF l p x (i+1)):=by
  rw[vF,bY,List.map_map]
  refine List.map_congr_left fun v hv=>?_
  rcases yV hv with ⟨c,rfl⟩|rfl<;>rfl
 show T.dG Z hh (T.bQ ρ (V.aS (rF l p x (i+1)))) (V.aS (rF l p x i))
 rw[e]
 unfold rF
 rw[List.range_succ,List.map_append,List.append_assoc,bY,bY,List.map_append,List.map_append (l₁:=List.map _ (List.range i))]
 refine qH (aW _) ?_
 rw[show p.rules.length-i=(p.rules.length-(i+1))+1 by omega,List.replicate_succ]
 simp only[List.map_cons,List.map_nil,List.cons_append,List.nil_append,he]
 exact⟨by show T.sub Z hh (.sl 0 false []) (.sl 0 true []); simp[T.sub],aW _⟩
theorem Y9{l:List Elem}{p:aH}{x:Elem}{i:Nat}{Z:Nat->Prop}{h:Hz}(hi:i<p.rules.length)(hz:Z 25)(hg:h.get 25=some (xK (Dq l (p.rules.getD i default) x))) :
  T.dG Z h.aj (V.aS (rF l p x (i+1))) (V.aS ((rF l p x i).set i (.own 25)))/\(V.aS (rF l p x (i+1))).map T.kd=(V.aS ((rF l p x i).set i (.own 25))).map T.kd/\(V.aS (rF l p x (i+1))).map fJ=(V.aS ((rF l p x i).set i (.own 25))).map fJ:=by
 have e:(rF l p x i).set i (.own 25)=(List.range i).map (fun j=>V.row 0 false (.ints (Dq l (p.rules.getD j default) x)))++ .own 25::List.replicate (p.rules.length-(i+1)) (uJ .nil):=by
  unfold rF
  rw[List.set_append_right _ _ (by simp)]
  simp only[List.length_map,List.length_range,Nat.sub_self]
  rw[show p.rules.length-i=(p.rules.length-(i+1))+1 by omega,List.replicate_succ,List.set_cons_zero]
 have e2:rF l p x (i+1)=(List.range i).map (fun j=>V.row 0 false (.ints (Dq l (p.rules.getD j default) x)))++V.row 0 false (.ints (Dq l (p.rules.getD i default) x))::List.replicate (p.rules.length-(i+1)) (uJ .nil):=by
  unfold rF
  rw[List.range_succ,List.map_append,List.append_assoc]; rfl
 rw[e,e2,bY,bY,List.map_append,List.map_append,List.map_cons,List.map_cons]
 refine⟨qH (aW _) ⟨D6 hz hg,aW _⟩,?_,?_⟩
 ·rw[List.map_append,List.map_append,List.map_cons,List.map_cons]; rfl
 ·rw[List.map_append,List.map_append,List.map_cons,List.map_cons]; rfl
theorem Za{l:List Elem}{p:aH}{x:Elem}:V.aS (rF l p x p.rules.length)=(zD l p x).map Go.Ab.ints:=by
 unfold rF zD
 rw[Nat.sub_self,List.replicate_zero,List.append_nil,bY,List.map_map,List.map_map]
 rw[<- Ri (fun r=>(Go.Ab.ints ∘ fun r=>Dq l r x) r) default p.rules]
 rfl
theorem WC{l:List Elem}{p:aH}{x:Elem}{i N:Nat}{ρ:Nat->Nat}(h:ρ 25=N):dL (T.bQ ρ (OV.gen 24 0 ((rF l p x i).set i (.own 25))).ay.l) (OV.gen 24 0 (((rF l p x i).set i (.own 25)).set i (.own N))).ay.l:=by
 rw[List.set_set]; exact FY h
theorem Ny(l:List (List Bool)):T.cZ (l.map wQ)=true:=by
 rw[eG]; intro t ht; obtain⟨x,_,rfl⟩:=List.mem_map.1 ht; rfl
theorem Nz(l:List (List (List Int))):T.cZ (l.map Aa)=true:=by
 rw[eG]; intro t ht; obtain⟨x,_,rfl⟩:=List.mem_map.1 ht; rfl
theorem abw{h:Hz}{j:Nat}{Z:Nat->Prop}{l:List (List Bool)}(hz:Z j)(q:h.get j=some (Bj l)):T.sub Z h.aj (V.row 0 false (.gu l)).aF (V.own j).aF:=by
 show T.sub Z h.aj (.sl 0 false (l.map wQ)) (.own j)
 simp only[T.sub]
 exact⟨trivial,hz,Ny l,by decide,69,by rw[aO q]; simp[OV.ay,Rw.aS,V.aS]⟩
theorem abx{h:Hz}{j:Nat}{Z:Nat->Prop}{l:List (List (List Int))}(hz:Z j)(q:h.get j=some (Kv l)):T.sub Z h.aj (V.row 0 false (.jw l)).aF (V.own j).aF:=by
 show T.sub Z h.aj (.sl 0 false (l.map Aa)) (.own j)
 simp only[T.sub]
 exact⟨trivial,hz,Nz l,by decide,36,by rw[aO q]; simp[OV.ay,Rw.aS,V.aS]⟩
theorem TJ{Z:Nat->Prop}{h:Hz}{i j:Nat}{l:List (List Bool)}{c:List Bool}(q:h.get i=some (.row 69 0 (.gu l) [.own j]))(hi: ¬ Z i)(hz:Z j)(qj:h.get j=some (rowB c)) :
  ∃ o',h.get i=some o'/\ ¬ Z i/\o'.ay.ty=(Bj (l++[c])).ay.ty/\o'.ay.k=(Bj (l++[c])).ay.k/\T.dG Z h.aj (Bj (l++[c])).ay.l o'.ay.l/\(Bj (l++[c])).ay.l.map T.kd=o'.ay.l.map T.kd/\(Bj (l++[c])).ay.l.map fJ=o'.ay.l.map fJ:=by
 have e1:(Bj (l++[c])).ay.l=l.map wQ++[wQ c]:=by simp[OV.ay,Rw.aS,V.aS]
 refine⟨_,q,hi,rfl,rfl,?_,?_,?_⟩
 ·rw[e1]
  exact qH (aW _) ⟨ac3 hz qj,trivial⟩
 ·rw[e1]; show _=List.map T.kd (l.map wQ++[.own j])
  rw[List.map_append,List.map_append]; rfl
 ·rw[e1]; show _=List.map fJ (l.map wQ++[.own j])
  rw[List.map_append,List.map_append]; rfl
theorem TK{Z:Nat->Prop}{h:Hz}{i j:Nat}{l:List (List (List Int))}{c:List (List Int)}{o:OV}(q:h.get i=some (.row 36 0 (.jw l) [.own j]))(hi: ¬ Z i)(hz:Z j)(qj:h.get j=some o)(qo:o.ay=⟨24,0,c.map Go.Ab.ints⟩) :
  ∃ o',h.get i=some o'/\ ¬ Z i/\o'.ay.ty=(Kv (l++[c])).ay.ty/\o'.ay.k=(Kv (l++[c])).ay.k/\T.dG Z h.aj (Kv (l++[c])).ay.l o'.ay.l/\(Kv (l++[c])).ay.l.map T.kd=o'.ay.l.map T.kd/\(Kv (l++[c])).ay.l.map fJ=o'.ay.l.map fJ:=by
 have e1:(Kv (l++[c])).ay.l=l.map Aa++[Aa c]:=by simp[OV.ay,Rw.aS,V.aS]
 refine⟨_,q,hi,rfl,rfl,?_,?_,?_⟩
 ·rw[e1]
  refine qH (aW _) ⟨?_,trivial⟩
  show T.sub Z h.aj (.sl 0 false (c.map Go.Ab.ints)) (.own j)
  simp only[T.sub]
  exact⟨trivial,hz,Iz c,by decide,24,by rw[aO qj,qo]⟩
 ·rw[e1]; show _=List.map T.kd (l.map Aa++[.own j])
  rw[List.map_append,List.map_append]; rfl
 ·rw[e1]; show _=List.map fJ (l.map Aa++[.own j])
  rw[List.map_append,List.map_append]; rfl
theorem I4{α β:Type}{f:α->β}{l:List α}{a:Nat}{d:α}(h:a<l.length):(l.take (a+1)).map f=(l.take a).map f++[f (l.getD a d)]:=by
 rw[List.take_add_one,List.getElem?_eq_getElem h,getD_some h,List.map_append]; rfl
abbrev WE(p:aH)(q:Prop')(l:List Elem)(a i:Nat):List (Nat×OV):=Wy p q l a++[(22,.box 54 3 (.dat (.elem (l.getD a default)))),(23,rowB (Yv p (l.getD a default) i))]
abbrev TL(p:aH)(q:Prop')(l:List Elem)(a i:Nat):List (Nat×OV):=WE p q l a i++[(24,.gen 24 0 (rF l p (l.getD a default) i))]
def EC(p:aH)(q:Prop')(l:List Elem)(a i j:Nat):List Int->List (Nat×OV)
 |[]=>WE p q l a i++[(24,.gen 24 0 (rF l p (l.getD a default) j))]
 |x::r=>WE p q l a i++[(24,.gen 24 0 ((rF l p (l.getD a default) j).set j (.own 25))),(25,xK (x::r))]
set_option maxHeartbeats 2000000 in
theorem S.lY(p:aH)(q:Prop')(hp:gq p)(hq:jO q)(hv:uI p q=0):au Tryz.prog 34 [.dat (.mJ p),.dat (.prop q)] (spV p (dS p q) ((dS p q).map (zY p)) ((dS p q).map (zD (dS p q) p))):=by
 have hc:=wL hv
 have hrc:=V4 p q
 rw[J6 hv] at hrc
 obtain⟨hl,hS⟩:=hrc
 have hss:SS (dS p q):=qJ _
 have hk:=(oC (iV (ou hc)).1).WG
 generalize hgl:dS p q=l at hl hS hss
 have hsm:eU l:=fun x hx=>by have:=(hS x hx).abs.len; omega
 refine au.of Bd.lY (by simp) rfl rfl ?_
 conv=>whnf
 refine Fz.pure (S.sJ p q hp hq hv) rfl ?_
 rw[hgl]
 conv=>whnf
 refine aP.abu 8 11 69 0 (cs:=spC p l zx zx) rfl (by show 11<13; decide) rfl rfl (by decide) ?_
 refine aP.abu 8 12 36 0 (cs:=spC p l (.own 14) zx) rfl (by show 12<13; decide) rfl rfl (by decide) ?_
 refine aP.fam 30 [2,4,5,22,23] (fun a:Nat=>[(24,.int a)]) (fun a=>ng (Wy p q l a)) (fun a=>a<=l.length) (fun a=>l.length-a) 0 (dR (Wy p q l 0) [0,1,2,8,14,15]) _ rfl (by decide) (fun _=>rfl) (Nat.zero_le _) (sR rfl) (.inl rfl) ?_ ?_
 ·exact gJ.lits (Wy p q l 0) [0,1,2,8,14,15] ⟨cu rfl rfl,cu rfl rfl,cu rfl rfl,nV rfl rfl rfl ⟨rfl,rfl⟩ (dL.of_eq rfl),cu rfl rfl,cu rfl rfl,trivial⟩
 conv=>whnf
 refine⟨(sR rfl),rfl,?_⟩
 rintro a ha
 conv=>whnf
 refine⟨fun h1=>?_,fun h1=>?_⟩
 ·have ha':a<l.length:=by simpa using h1
  have hX:=hS _ (eY (d:=default) ha')
  have hx6:=hX.abs.len
  obtain⟨r0,hr0,hr1⟩:=IZ p.rules.length
  conv=>whnf
  refine .mk (by simp only[Rw.rng] at *; first|omega|(simp_all; done)|(simp_all; omega)) ?_
  conv=>whnf
  rw[hr0]
  conv=>whnf
  refine .mk (by omega) ?_
  conv=>whnf
  have hz:((bif isZero (V.int p.rules.length) then some Rw.nil else MN (p.rules.length:Int).toNat T.nil)=some Rw.nil/\p.rules.length=0)\/(bif isZero (V.int p.rules.length) then some Rw.nil else MN (p.rules.length:Int).toNat T.nil)=none:=by
   rcases Nat.eq_zero_or_pos p.rules.length with h0|h0
   ·exact .inl ⟨by rw[h0]; rfl,h0⟩
   ·exact .inr (AV h0)
  rcases hz with ⟨hz,hk0⟩|hz
  all_goals
   rw[hz]
   conv=>whnf
   repeat(refine VC.mk (by omega) ?_; conv=>whnf)
   refine aP.fam 30 [2,4,5,22,23,24,37,38] (fun i:Nat=>[(39,.int i),(7,.ptr 22 0 0),(8,.own 23),(9,.own 24)]) (fun i=>ng (TL p q l a i)) (fun i=>i<=p.rules.length) (fun i=>p.rules.length-i) 0 (dR (TL p q l a 0) [0,1,2,8,20,21,33,38,43]) _ rfl (by decide) (fun _=>rfl) (Nat.zero_le _) (sR rfl) (.inl rfl) ?_ ?_
   ·refine gJ.lits (TL p q l a 0) [0,1,2,8,20,21,33,38,43] ⟨cu rfl rfl,cu rfl rfl,cu rfl rfl,nV rfl rfl rfl ⟨rfl,rfl⟩ (dL.of_eq rfl),cu rfl rfl,cu rfl rfl,cu rfl rfl,okF rfl nofun rfl rfl rfl ⟨rfl,rfl⟩ ?_,nV rfl x9 rfl ⟨rfl,rfl⟩ (dL.of_eq ?_),trivial⟩
    ·rw[WA]
     simp[OV.ay,hr1]
    ·show T.bQ _ (V.aS (rF l p (l.getD a default) 0))=_
     rw[WB]
     first|(rw[hk0]; rfl)|(show _=V.aS (List.replicate p.rules.length (uJ .nil)); rw[vF,bY,List.map_map,List.map_replicate,List.map_replicate]; rfl)
   conv=>whnf
   refine⟨(sR rfl),rfl,?_⟩
   rintro i hi
   have hon:=Y4 (p:=p) (x:=l.getD a default) hi
   have aeg:=Y7 (l:=l) (p:=p) (x:=l.getD a default) hi
   conv=>whnf
   refine⟨fun h2=>?_,fun h2=>?_⟩
   ·have hi':i<p.rules.length:=by simpa using h2
    have hpl:zQ (l.getD a default).counts.length (p.rules.getD i default):=by rw[hX.len]; exact(wtR hc hi').place
    have aeh:=Y5 (x:=l.getD a default) hi'
    conv=>whnf
    repeat(refine VC.mk (by first|(omega)|(simp only[Rw.rng] at *; first|omega|(simp_all; done)|(simp_all; omega))) ?_; conv=>whnf)
    refine ah.pure (au.II (S.rH (p.rules.getD i default) (l.getD a default) (hp.rule i) hpl hX.abs.ok hX.abs.len)) rfl ?_
    conv=>whnf
    repeat(refine VC.mk (by first|(simp only[Rw.rng]; omega)|(simp only[Rw.rng,Int.toNat_natCast]; omega)) ?_; conv=>whnf)
    refine ah.pure (S.pF (p.rules.getD i default) (l.getD a default) (hp.rule i) hpl hX.abs.ok hX.abs.pos hX.abs.len) rfl ?_
    have hpo:=FU (r:=p.rules.getD i default) hX.abs
    have hpc: ∀ y∈jL (p.rules.getD i default) (l.getD a default),y.counts.length<2^40:=fun y hy=>by rw[IX hy]; omega
    generalize hL:jL (p.rules.getD i default) (l.getD a default)=L at hpo hpc
    have hsu:Dq l (p.rules.getD i default) (l.getD a default)=xM l L:=by unfold Dq; rw[hL]
    conv=>whnf
    refine aP.fam 30 [2,4,5,7,8,9,10,22,23,24,37,38,39,55,56] (fun c:Nat=>[(57,.int c)]) (fun c=>ng (EC p q l a (i+1) i (xM l (L.take c)))) (fun c=>c<=L.length) (fun c=>L.length-c) 0 (dR (EC p q l a (i+1) i []) [0,1,2,8,20,21,22,23,24]) _ rfl (by decide) (fun _=>rfl) (Nat.zero_le _) (sR rfl) (.inl rfl) ?_ ?_
    ·refine gJ.lits (EC p q l a (i+1) i []) [0,1,2,8,20,21,22,23,24] ⟨cu rfl rfl,cu rfl rfl,cu rfl rfl,nV rfl rfl rfl ⟨rfl,rfl⟩ (dL.of_eq rfl),cu rfl rfl,cu rfl rfl,cu rfl rfl,okF rfl nofun rfl rfl rfl ⟨rfl,rfl⟩ ?_,nV rfl x9 rfl ⟨rfl,rfl⟩ EO,trivial⟩
     rw[<- aeh]; rfl
    conv=>whnf
    refine⟨(sR rfl),rfl,?_⟩
    rintro c hcl
    have hal:=Nu l (L.take c)
    rw[List.length_take] at hal
    have hstep:c<L.length->xM l (L.take (c+1))=if Dp l (L.getD c default) (kD l (L.getD c default))=true then xM l (L.take c)++[(kD l (L.getD c default):Int)] else xM l (L.take c):=TI
    have hend:L.length<=c->Dq l (p.rules.getD i default) (l.getD a default)=xM l (L.take c):=fun q=>by rw[hsu,List.take_of_length_le q]
    generalize xM l (L.take c)=acc at hal hstep hend
    cases acc with
    |nil =>
     conv=>whnf
     refine⟨fun h3=>?_,fun h3=>?_⟩
     ·have hc':c<L.length:=by simpa using h3
      replace hstep:=hstep hc'
      conv=>whnf
      repeat(refine VC.mk (by first|(omega)|(simp only[Rw.rng] at *; first|omega|(simp_all; done)|(simp_all; omega))) ?_; conv=>whnf)
      refine ah.pure (S.BinarySearch l (L.getD c default) (kD l (L.getD c default)) false (by omega) hsm (hpc _ (eY hc')) (Rh _ _) (J8 hss)) rfl ?_
      conv=>whnf
      refine⟨fun h4=>?_,fun h4=>?_⟩
      ·rw[if_pos (show Dp l (L.getD c default) (kD l (L.getD c default))=true from h4),List.nil_append] at hstep
       conv=>whnf
       repeat(refine VC.mk (by omega) ?_; conv=>whnf)
       refine⟨_,abv hi',?_⟩
       conv=>whnf
       repeat(refine VC.mk (by first|(show(0+(0+1))*8<=140737488355328/\0+(0+1)<=1152921504606846976; omega)|(omega)|(simp only[okI] at *; first|omega|(simp_all; done)|(simp_all; omega))) ?_; conv=>whnf)
       exact jM.lits (c+1) (EC p q l a (i+1) i [(kD l (L.getD c default):Int)]) [0,1,2,8,20,21,22,23,24,53] _ (.inl rfl) (congrArg (fun z=>ng (EC p q l a (i+1) i z)) hstep) hc' (by omega) (sR rfl) (sR rfl) ⟨cu rfl rfl,cu rfl rfl,cu rfl rfl,nV rfl rfl rfl ⟨rfl,rfl⟩ (dL.of_eq rfl),cu rfl rfl,cu rfl rfl,cu rfl rfl,cu rfl rfl,nV rfl Dt rfl ⟨rfl,rfl⟩ (FY rfl),cu rfl rfl,trivial⟩
      ·rw[if_neg (by rw[show Dp l (L.getD c default) (kD l (L.getD c default))=false from h4]; decide)] at hstep
       conv=>whnf
       repeat(refine VC.mk (by first|(omega)|(simp only[okI] at *; first|omega|(simp_all; done)|(simp_all; omega))) ?_; conv=>whnf)
       exact jM.lits (c+1) (EC p q l a (i+1) i []) [0,1,2,8,20,21,22,23,24] _ (.inl rfl) (congrArg (fun z=>ng (EC p q l a (i+1) i z)) hstep) hc' (by omega) (sR rfl) (sR rfl) ⟨cu rfl rfl,cu rfl rfl,cu rfl rfl,nV rfl rfl rfl ⟨rfl,rfl⟩ (dL.of_eq rfl),cu rfl rfl,cu rfl rfl,cu rfl rfl,cu rfl rfl,nV rfl x9 rfl ⟨rfl,rfl⟩ EO,trivial⟩
     ·have hs0:=hend (by simpa using h3)
      conv=>whnf
      repeat(refine VC.mk (by first|(omega)|(simp only[okI] at *; first|omega|(simp_all; done)|(simp_all; omega))) ?_; conv=>whnf)
      exact jM.lits (i+1) (TL p q l a (i+1)) [0,1,2,8,20,21,22,23,24] _ (.inl rfl) rfl hi' (by omega) (sR rfl) (sR rfl) ⟨cu rfl rfl,cu rfl rfl,cu rfl rfl,nV rfl rfl rfl ⟨rfl,rfl⟩ (dL.of_eq rfl),cu rfl rfl,cu rfl rfl,cu rfl rfl,cu rfl rfl,nV rfl x9 rfl ⟨rfl,rfl⟩ (Y8 hi' hs0),trivial⟩
    |cons y r =>
     have ae4:((rF l p (l.getD a default) i).set i (.own 25)).length=p.rules.length:=by rw[List.length_set,aeg]
     conv=>whnf
     refine⟨fun h3=>?_,fun h3=>?_⟩
     ·have hc':c<L.length:=by simpa using h3
      replace hstep:=hstep hc'
      conv=>whnf
      repeat(refine VC.mk (by first|(omega)|(simp only[Rw.rng] at *; first|omega|(simp_all; done)|(simp_all; omega))) ?_; conv=>whnf)
      refine ah.pure (S.BinarySearch l (L.getD c default) (kD l (L.getD c default)) false (by omega) hsm (hpc _ (eY hc')) (Rh _ _) (J8 hss)) rfl ?_
      conv=>whnf
      refine⟨fun h4=>?_,fun h4=>?_⟩
      ·rw[if_pos (show Dp l (L.getD c default) (kD l (L.getD c default))=true from h4)] at hstep
       conv=>whnf
       repeat(refine VC.mk (by omega) ?_; conv=>whnf)
       refine⟨.own 25,List.getElem?_set_self (by show i<_; omega),?_⟩
       conv=>whnf
       repeat(refine VC.mk (by first|(show((y::r).length+(0+1))*8<=140737488355328/\(y::r).length+(0+1)<=1152921504606846976; omega)|(omega)|(simp only[okI] at *; first|omega|(simp_all; done)|(simp_all; omega))) ?_; conv=>whnf)
       exact jM.lits (c+1) (EC p q l a (i+1) i (y::(r++[(kD l (L.getD c default):Int)]))) [0,1,2,8,20,21,22,23,24,53] _ (.inl rfl) (congrArg (fun z=>ng (EC p q l a (i+1) i z)) hstep) hc' (by omega) (sR rfl) (sR rfl) ⟨cu rfl rfl,cu rfl rfl,cu rfl rfl,nV rfl rfl rfl ⟨rfl,rfl⟩ (dL.of_eq rfl),cu rfl rfl,cu rfl rfl,cu rfl rfl,cu rfl rfl,nV rfl Dt rfl ⟨rfl,rfl⟩ (WC rfl),cu rfl rfl,trivial⟩
      ·rw[if_neg (by rw[show Dp l (L.getD c default) (kD l (L.getD c default))=false from h4]; decide)] at hstep
       conv=>whnf
       repeat(refine VC.mk (by first|(omega)|(simp only[okI] at *; first|omega|(simp_all; done)|(simp_all; omega))) ?_; conv=>whnf)
       exact jM.lits (c+1) (EC p q l a (i+1) i (y::r)) [0,1,2,8,20,21,22,23,24,25] _ (.inl rfl) (congrArg (fun z=>ng (EC p q l a (i+1) i z)) hstep) hc' (by omega) (sR rfl) (sR rfl) ⟨cu rfl rfl,cu rfl rfl,cu rfl rfl,nV rfl rfl rfl ⟨rfl,rfl⟩ (dL.of_eq rfl),cu rfl rfl,cu rfl rfl,cu rfl rfl,cu rfl rfl,nV rfl Dt rfl ⟨rfl,rfl⟩ (FY rfl),cu rfl rfl,trivial⟩
     ·have hs0:=hend (by simpa using h3)
      conv=>whnf
      repeat(refine VC.mk (by first|(omega)|(simp only[okI] at *; first|omega|(simp_all; done)|(simp_all; omega))) ?_; conv=>whnf)
      refine jM.lits (i+1) (TL p q l a (i+1)) [0,1,2,8,20,21,22,23,24] (ng (TL p q l a (i+1))) (.inr ⟨fun z=>z=25,?_⟩) rfl hi' (by omega) (sR rfl) (sR rfl) ⟨cu rfl rfl,cu rfl rfl,cu rfl rfl,nV rfl rfl rfl ⟨rfl,rfl⟩ (dL.of_eq rfl),cu rfl rfl,cu rfl rfl,cu rfl rfl,cu rfl rfl,nV rfl x9 rfl ⟨rfl,rfl⟩ EO,trivial⟩
      have hfz:=Y9 (l:=l) (p:=p) (x:=l.getD a default) (i:=i) (Z:=fun z=>z=25) (h:=ng (EC p q l a (i+1) i (y::r))) hi' rfl (by rw[hs0]; rfl)
      exact⟨⟨_,rfl,Nat.ne_of_beq_eq_false rfl,rfl,rfl,aW _,rfl,rfl⟩,⟨_,rfl,Nat.ne_of_beq_eq_false rfl,rfl,rfl,aW _,rfl,rfl⟩,⟨_,rfl,Nat.ne_of_beq_eq_false rfl,rfl,rfl,aW _,rfl,rfl⟩,⟨_,rfl,Nat.ne_of_beq_eq_false rfl,rfl,rfl,aW _,rfl,rfl⟩,⟨_,rfl,Nat.ne_of_beq_eq_false rfl,rfl,rfl,aW _,rfl,rfl⟩,⟨_,rfl,Nat.ne_of_beq_eq_false rfl,rfl,rfl,aW _,rfl,rfl⟩,⟨_,rfl,Nat.ne_of_beq_eq_false rfl,rfl,rfl,aW _,rfl,rfl⟩,⟨_,rfl,Nat.ne_of_beq_eq_false rfl,rfl,rfl,aW _,rfl,rfl⟩,⟨_,rfl,Nat.ne_of_beq_eq_false rfl,rfl,rfl,hfz.1,hfz.2.1,hfz.2.2⟩,trivial⟩
   ·have hi':i=p.rules.length:=by
     have: ¬ i<p.rules.length:=by simpa using h2
     omega
    have hm1:=I4 (f:=zY p) (d:=default) ha'
    have hm2:=I4 (f:=zD l p) (d:=default) ha'
    have hk1:((l.take a).map (zY p)).length=a:=by rw[List.length_map,List.length_take]; omega
    have hk2:((l.take a).map (zD l p)).length=a:=by rw[List.length_map,List.length_take]; omega
    conv=>whnf
    repeat(refine VC.mk (by first|(first|(show(((l.take a).map (zY p)).length+1)*24<=140737488355328/\((l.take a).map (zY p)).length+1<=1152921504606846976; omega)|(show(((l.take a).map (zD l p)).length+1)*24<=140737488355328/\((l.take a).map (zD l p)).length+1<=1152921504606846976; omega))|(simp only[okI] at *; first|omega|(simp_all; done)|(simp_all; omega))) ?_; conv=>whnf)
    refine jM.lits (a+1) (Wy p q l (a+1)) [0,1,2,8,35,42] [(0,some (YV p)),(1,some (nX q)),(2,some ac4),(8,some (aaO p l 35 42)),(35,some (Bj ((l.take a).map (zY p)++[zY p (l.getD a default)]))),(42,some (Kv ((l.take a).map (zD l p)++[zD l p (l.getD a default)])))] (.inr ⟨fun z=>z=23\/z=24,?_⟩) rfl ha' (by omega) (sR rfl) (sR rfl) ?_
    ·have ne: ∀ z:Nat,Nat.beq z 23=false->Nat.beq z 24=false-> ¬ (z=23\/z=24):=fun z h1 h2 e=>e.elim (Nat.ne_of_beq_eq_false h1) (Nat.ne_of_beq_eq_false h2)
     refine⟨⟨_,rfl,ne _ rfl rfl,rfl,rfl,aW _,rfl,rfl⟩,⟨_,rfl,ne _ rfl rfl,rfl,rfl,aW _,rfl,rfl⟩,⟨_,rfl,ne _ rfl rfl,rfl,rfl,aW _,rfl,rfl⟩,⟨_,rfl,ne _ rfl rfl,rfl,rfl,aW _,rfl,rfl⟩,TJ (Z:=fun z=>z=23\/z=24) (j:=23) rfl (ne _ rfl rfl) (Or.inl rfl) ?_,TK (Z:=fun z=>z=23\/z=24) (j:=24) (o:=.gen 24 0 (rF l p (l.getD a default) i)) rfl (ne _ rfl rfl) (Or.inr rfl) ?_ ?_,trivial⟩
     ·rw[<- Y6,<- hi']; rfl
     ·rfl
     ·rw[<- Za,<- hi']; rfl
    rw[<- hm1,<- hm2]
    exact⟨cu rfl rfl,cu rfl rfl,cu rfl rfl,nV rfl rfl rfl ⟨rfl,rfl⟩ (dL.of_eq rfl),cu rfl rfl,cu rfl rfl,trivial⟩
 ·have ha':a=l.length:=by
   have: ¬ a<l.length:=by simpa using h1
   omega
  conv=>whnf
  refine⟨?_⟩
  show T.sub _ _ (.agg _) (.agg _)
  simp only[T.sub]
  have e1:(l.take a).map (zY p)=l.map (zY p):=by rw[ha',List.take_length]
  have e2:(l.take a).map (zD l p)=l.map (zD l p):=by rw[ha',List.take_length]
  rw[<- e1,<- e2]
  exact⟨aB _,aB _,aB _,aB _,aB _,aB _,aB _,aB _,aB _,aB _,aB _,abw trivial rfl,abx trivial rfl,trivial⟩
end Go.Proofs.YtajmbgljnaljiaaGreatDoor
namespace Go.Proofs.YtajmbgljnaljiaaGreatDoor
open Go.Ab Go.Proofs
set_option maxRecDepth 100000
def NC(l:List Bool):Int:=match l.findIdx? (fun b=>b) with
 |some i=>i
 |none=> -1
theorem S.PI(l:List Bool)(f:Bool)(hl:l.length<2^30):au Tryz.prog 97 [.row 0 f (.bools l),.bool true] (.int (NC l)):=by
 refine au.of Bd.jQ (by simp) rfl rfl ?_
 conv=>whnf
 refine aP.same [0,1,6,7] (fun i:Nat=>[(8,.int i)]) (fun i=>i<=l.length/\ ∀ j,j<i->l.getD j false=false) (fun i=>l.length-i) 0 rfl (by decide) rfl (fun _=>rfl) ⟨Nat.zero_le _,fun j hj=>absurd hj (Nat.not_lt_zero _)⟩ ⟨⟨_,rfl,rfl⟩,trivial⟩ ?_
 conv=>whnf
 refine⟨rfl,?_⟩
 rintro i ⟨hi,hno⟩
 conv=>whnf
 refine⟨fun h3=>?_,fun h3=>?_⟩
 ·have hi':i<l.length:=by simpa using h3
  conv=>whnf
  refine .mk (by simp only[Rw.rng] at *; first|omega|(simp_all; done)|(simp_all; omega)) ?_
  conv=>whnf
  refine⟨fun h4=>?_,fun h4=>?_⟩
  ·have h4':l.getD i false=true:=by
    have h5:(true==l.getD i false)=true:=h4
    cases hb:l.getD i false with
    |true=>rfl
    |false=>rw[hb] at h5; cases h5
   conv=>whnf
   refine aG.int ?_
   have:l.findIdx? (fun b=>b)=some i:=by
    rw[List.findIdx?_eq_some_iff_getElem]
    refine⟨hi',by rw[getD_some hi'] at h4'; exact h4',fun k hk=>?_⟩
    have:=hno k hk
    rw[getD_some (by omega)] at this
    rw[this]; decide
   rw[NC,this]
  ·have h4':l.getD i false=false:=by
    have h5:(true==l.getD i false)=false:=h4
    cases hb:l.getD i false with
    |true=>rw[hb] at h5; cases h5
    |false=>rfl
   conv=>whnf
   refine .mk (by simp only[okI] at *; first|omega|(simp_all; done)|(simp_all; omega)) ?_
   conv=>whnf
   refine⟨i+1,⟨hi',fun j hj=>?_⟩,by omega,⟨⟨_,rfl,rfl⟩,trivial⟩,?_,rfl⟩
   ·rcases Nat.lt_or_ge j i with q|q
    ·exact hno j q
    ·have:j=i:=by omega
     subst this; exact h4'
   ·repeat' (first|exact trivial|exact⟨_,rfl,rfl⟩|constructor)
 ·have hi':l.length<=i:=by simpa using h3
  conv=>whnf
  refine aG.int ?_
  have:l.findIdx? (fun b=>b)=none:=by
   rw[List.findIdx?_eq_none_iff]
   intro x hx
   obtain⟨k,hk,rfl⟩:=List.mem_iff_getElem.1 hx
   have:=hno k (by omega)
   rw[getD_some hk] at this; exact this
  rw[NC,this]
theorem TM(l:List Bool):decide (NC l>=0)=l.any fun b=>b:=by
 unfold NC
 cases h:l.findIdx? (fun b=>b) with
 |some i =>
  have:=(List.findIdx?_eq_some_iff_getElem.1 h)
  obtain⟨hi,hp,_⟩:=this
  have e:(l.any fun b=>b)=true:=List.any_eq_true.2 ⟨_,List.getElem_mem hi,hp⟩
  rw[e]; exact decide_eq_true (Int.natCast_nonneg _)
 |none =>
  have:=List.findIdx?_eq_none_iff.1 h
  have e:(l.any fun b=>b)=false:=List.any_eq_false.2 fun x hx=>by rw[this x hx]; decide
  rw[e]; rfl
theorem S.H6(l:List Bool)(f:Bool)(hl:l.length<2^30):au Tryz.prog 66 [.row 0 f (.bools l),.bool true] (.bool (l.any fun b=>b)):=by
 refine au.of Bd.je (by simp) rfl rfl ?_
 conv=>whnf
 refine ah.pure (S.PI l f hl) rfl ?_
 conv=>whnf
 exact aG.bool (TM l).symm
def upS(rs:List Rule)(on:List (List Bool))(w:List Int)(a:Nat):Bool:=(List.range rs.length).any fun i=>(on.getD a []).getD i false&&L8 (rs.getD i default) w
noncomputable def ED(p:aH)(l:List Elem)(on:List (List Bool))(fM:List (List (List Int)))(w:List Int):Bool :=
 !((List.range l.length).any fun a=>upS p.rules on w a)&&(Wu p l on fM w).rE.all fun r=>r.any fun b=>b
theorem Rj{n i:Nat}{f:Nat->Bool}(hi:i<n)(h:f i=true):(List.range n).any f=true:=List.any_eq_true.2 ⟨i,List.mem_range.2 hi,h⟩
theorem ND{n:Nat}{f:Nat->Bool}(h: ∀ i,i<n->f i=false):(List.range n).any f=false:=List.any_eq_false.2 fun i hi=>by rw[h i (List.mem_range.1 hi)]; decide
theorem WH{p:aH}{l:List Elem}{on:List (List Bool)}{fM:List (List (List Int))}{w:List Int}{a i:Nat}(ha:a<l.length)(hi:i<p.rules.length)(h:((on.getD a []).getD i false&&L8 (p.rules.getD i default) w)=true):ED p l on fM w=false:=by
 unfold ED
 rw[Rj ha (by unfold upS; exact Rj hi h)]; rfl
theorem Zb{p:aH}{l:List Elem}{on:List (List Bool)}{fM:List (List (List Int))}{w:List Int}(h: ∀ a,a<l.length->upS p.rules on w a=false):ED p l on fM w=(Wu p l on fM w).rE.all fun r=>r.any fun b=>b:=by
 unfold ED
 rw[ND h]; rfl
set_option maxHeartbeats 1000000 in
theorem S.Bl(p:aH)(l:List Elem)(on:List (List Bool))(fM:List (List (List Int)))(w:List Int)(f:Bool)(h:Y1 p l on fM w):au Tryz.prog 38 [spV p l on fM,.row 0 f (.ints w)] (.bool (ED p l on fM w)):=by
 have hn:=h.n; have hk:=h.k; have e1:=h.zY; have e2:=h.zD; have hwl:=h.wl
 refine au.of Bd.nC (by simp) rfl rfl ?_
 conv=>whnf
 refine aP.same [1,2,12] (fun a:Nat=>[(13,.int a)]) (fun a=>a<=l.length/\ ∀ a',a'<a->upS p.rules on w a'=false) (fun a=>l.length-a) 0 rfl (by decide) rfl (fun _=>rfl) ⟨Nat.zero_le _,fun a ha=>absurd ha (Nat.not_lt_zero _)⟩ ⟨⟨_,rfl,rfl⟩,trivial⟩ ?_
 conv=>whnf
 refine⟨rfl,?_⟩
 rintro a ⟨ha,hno⟩
 conv=>whnf
 refine⟨fun h1=>?_,fun h1=>?_⟩
 ·have ha':a<l.length:=by simpa using h1
  have hoR:=h.onR a ha'
  conv=>whnf
  refine aP.same [1,2,5,12,13,18,19] (fun i:Nat=>[(20,.int i)]) (fun i=>i<=p.rules.length/\ ∀ i',i'<i->((on.getD a []).getD i' false&&L8 (p.rules.getD i' default) w)=false) (fun i=>p.rules.length-i) 0 rfl (by decide) rfl (fun _=>rfl) ⟨Nat.zero_le _,fun a ha=>absurd ha (Nat.not_lt_zero _)⟩ ⟨⟨_,rfl,rfl⟩,trivial⟩ ?_
  conv=>whnf
  refine⟨rfl,?_⟩
  rintro i ⟨hi,hni⟩
  conv=>whnf
  refine⟨fun h2=>?_,fun h2=>?_⟩
  ·have hi':i<p.rules.length:=by simpa using h2
   conv=>whnf
   repeat(refine VC.mk (by first|(first|(simp only[Rw.rng]; omega)|(simp only[Rw.rng,Int.toNat_natCast]; omega))|exact fun h=>⟨h,h⟩) ?_; conv=>whnf)
   refine ah.jC (fun _=>S.ku (p.rules.getD i default) w f h.wok (h.rul i hi') h.wl) rfl ?_
   conv=>whnf
   refine VC.mk id ?_
   conv=>whnf
   refine⟨fun h3=>?_,fun h3=>?_⟩
   ·conv=>whnf
    exact aG.bool (WH ha' hi' h3)
   ·conv=>whnf
    refine .mk (by simp only[okI] at *; first|omega|(simp_all; done)|(simp_all; omega)) ?_
    conv=>whnf
    refine⟨i+1,⟨hi',fun i' hj=>?_⟩,by omega,⟨⟨_,rfl,rfl⟩,trivial⟩,?_,rfl⟩
    ·rcases Nat.lt_or_ge i' i with q|q
     ·exact hni i' q
     ·have:i'=i:=by omega
      subst this; exact h3
    ·repeat' (first|exact trivial|exact⟨_,rfl,rfl⟩|constructor)
  ·have hi':p.rules.length<=i:=by simpa using h2
   conv=>whnf
   refine .mk (by simp only[okI] at *; first|omega|(simp_all; done)|(simp_all; omega)) ?_
   conv=>whnf
   refine⟨a+1,⟨ha',fun a' hj=>?_⟩,by omega,⟨⟨_,rfl,rfl⟩,trivial⟩,?_,rfl⟩
   ·rcases Nat.lt_or_ge a' a with q|q
    ·exact hno a' q
    ·have:a'=a:=by omega
     subst this
     exact ND fun i' hj=>hni i' (by omega)
   ·repeat' (first|exact trivial|exact⟨_,rfl,rfl⟩|constructor)
 ·have ha':l.length<=a:=by simpa using h1
  have hrow:=Zb (fM:=fM) (w:=w) (p:=p) (l:=l) (on:=on) fun a' hj=>hno a' (by omega)
  conv=>whnf
  refine ah.pure (S.Kt p l on fM w f h) rfl ?_
  have hL:(Wu p l on fM w).rE.length=l.length:=Np
  have hR: ∀ j,j<l.length->((Wu p l on fM w).rE.getD j []).length<=8:=fun j hj=>by rw[Nq (g:=Wu p l on fM w) hj]; exact hk
  generalize (Wu p l on fM w).rE=H at hrow hL hR
  conv=>whnf
  refine aP.same [42,43] (fun i:Nat=>[(44,.int i)]) (fun i=>i<=H.length/\(H.take i).all (fun r=>r.any fun b=>b)=true) (fun i=>H.length-i) 0 rfl (by decide) rfl (fun _=>rfl) ⟨Nat.zero_le _,rfl⟩ ⟨⟨_,rfl,rfl⟩,trivial⟩ ?_
  conv=>whnf
  refine⟨rfl,?_⟩
  rintro i ⟨hi,hal⟩
  conv=>whnf
  refine⟨fun h2=>?_,fun h2=>?_⟩
  ·have hi':i<H.length:=by simpa using h2
   have hRi:=hR i (by omega)
   conv=>whnf
   refine .mk (by simp only[Rw.rng] at *; first|omega|(simp_all; done)|(simp_all; omega)) ?_
   conv=>whnf
   refine ah.pure (S.H6 (H.getD i []) false (by omega)) rfl ?_
   conv=>whnf
   refine⟨fun h3=>?_,fun h3=>?_⟩
   ·replace h3:((H.getD i []).any fun b=>b)=false:=by simpa using h3
    conv=>whnf
    refine aG.bool ?_
    rw[hrow]
    exact(zO (p:=fun r:List Bool=>r.any fun b=>b) (d:=[]) hi' h3)
   ·replace h3:((H.getD i []).any fun b=>b)=true:=by
     cases hb:(H.getD i []).any fun b=>b with
     |true=>rfl
     |false =>
      have h4:(!((H.getD i []).any fun b=>b))=false:=h3
      rw[hb] at h4; cases h4
    conv=>whnf
    refine .mk (by simp only[okI] at *; first|omega|(simp_all; done)|(simp_all; omega)) ?_
    conv=>whnf
    refine⟨i+1,⟨hi',?_⟩,by omega,⟨⟨_,rfl,rfl⟩,trivial⟩,?_,rfl⟩
    ·rw[C9 (p:=fun r:List Bool=>r.any fun b=>b) (d:=[]) hi' hal]; exact h3
    ·repeat' (first|exact trivial|exact⟨_,rfl,rfl⟩|constructor)
  ·have hi':H.length<=i:=by simpa using h2
   rw[List.take_of_length_le hi'] at hal
   conv=>whnf
   exact aG.bool (by rw[hrow,hal])
theorem sO{α β:Type}{f:α->β}{l:List α}{i:Nat}{d:β}{e:α}(h:i<l.length):(l.map f).getD i d=f (l.getD i e):=by
 rw[getD_some (by simpa using h),getD_some h,List.getElem_map]
theorem ac5{p:aH}{q:Prop'}{w:List Int}(hv:uI p q=0)(hw:SV p w=true):Y1 p (dS p q) ((dS p q).map (zY p)) ((dS p q).map (zD (dS p q) p)) w:=by
 have hc:=wL hv
 have hrc:=V4 p q
 rw[J6 hv] at hrc
 obtain⟨hl,hS⟩:=hrc
 have hV:=oC (iV (ou hc)).1
 obtain⟨w1,w2⟩:=YC hw
 have hst:=hV.states
 have key: ∀ a x,(((dS p q).map (zD (dS p q) p)).getD a []).getD x []=[]\/ ∃ y∈dS p q,∃ r,(((dS p q).map (zD (dS p q) p)).getD a []).getD x []=Dq (dS p q) r y:=by
  intro a x
  rcases Nat.lt_or_ge a (dS p q).length with ha|ha
  ·rw[sO (e:=default) ha]
   rcases Nat.lt_or_ge x p.rules.length with hx|hx
   ·right
    refine⟨_,eY (d:=default) ha,p.rules.getD x default,?_⟩
    unfold zD
    rw[sO (e:=default) hx]
   ·left
    exact getD_none (by unfold zD; simpa using hx)
  ·left
   rw[show((dS p q).map (zD (dS p q) p)).getD a []=[] from getD_none (by simpa using ha)]
   rfl
 refine⟨hl,hV.WG,by simp,fun a ha=>?_,by simp,fun a ha=>?_,fun a x=>?_,fun a x b hb=>?_,fun i hi=>by rw[w1]; exact wtR hc hi,w2,by omega⟩
 ·rw[sO (e:=default) ha]; simp[zY]
 ·rw[sO (e:=default) ha]; simp[zD]
 ·rcases key a x with e|⟨y,hy,r,e⟩<;>rw[e]
  ·simp
  ·have h1:=Nu (dS p q) (jL r y)
   have h2:=FU (r:=r) (hS y hy).abs
   unfold Dq
   omega
 ·rcases key a x with e|⟨y,hy,r,e⟩<;>rw[e] at hb
  ·cases hb
  ·exact Wq hb
noncomputable def FZ(p:aH)(q:Prop')(w:List Int):Bool:=ED p (dS p q) ((dS p q).map (zY p)) ((dS p q).map (zD (dS p q) p)) w
noncomputable def Zc(p:aH)(q:Prop')(w:List Int):Bool:=((Ew p q 2==0)&&SV p w)&&FZ p q w
theorem S.eX(p:aH)(q:Prop')(w:List Int)(f:Bool)(hp:gq p)(hq:jO q)(hw:w.length<2^30):au Tryz.prog 15 [.dat (.mJ p),.dat (.prop q),.row 0 f (.ints w)] (.bool (Zc p q w)):=by
 refine au.of Bd.eX (by simp) rfl rfl ?_
 conv=>whnf
 refine ah.pure (S.jP p q 2 hp hq) rfl ?_
 conv=>whnf
 refine .mk (by exact fun h=>⟨h,h⟩) ?_
 conv=>whnf
 refine ah.jC (fun _=>S.jD p w f hw) rfl ?_
 conv=>whnf
 repeat(refine VC.mk (by first|exact id|exact fun h=>⟨h,h⟩) ?_; conv=>whnf)
 have hk:((Ew p q 2==0)&&SV p w)=true->uI p q=0/\SV p w=true:=fun h=>by
  rw[Bool.and_eq_true,beq_iff_eq] at h
  exact⟨zX h.1,h.2⟩
 refine ah.jC (fun hb=>S.lY p q hp hq (hk hb).1) rfl ?_
 conv=>whnf
 refine .mk (by exact fun h=>⟨h,h⟩) ?_
 conv=>whnf
 refine ah.jC (fun hb=>S.Bl p _ _ _ w f (ac5 (hk hb).1 (hk hb).2)) rfl ?_
 conv=>whnf
 refine VC.mk id ?_
 conv=>whnf
 exact aG.bool rfl
def oI(m:Nat):List Int->Nat
 |[]=>0
 |x::r=>x.toNat*(m+1)^r.length+oI m r
theorem Zd{α:Type}{g:Nat->List α}{B:Nat}(hg: ∀ k,(g k).length=B){K k j:Nat}(hk:k<K)(hj:j<B):((List.range K).flatMap g)[k*B+j]? =(g k)[j]? :=by
 induction K with
 |zero=>omega
 |succ K ih =>
  rw[List.range_succ,List.flatMap_append,List.flatMap_cons,List.flatMap_nil,List.append_nil]
  have hl:((List.range K).flatMap g).length=K*B:=by rw[Q9 hg,List.length_range]
  by_cases h:k=K
  ·subst h
   rw[List.getElem?_append_right (by omega),hl,Nat.add_sub_cancel_left]
  ·have hk':k<K:=by omega
   have:(k+1)*B<=K*B:=Nat.mul_le_mul_right _ hk'
   rw[Nat.add_mul,Nat.one_mul] at this
   rw[List.getElem?_append_left (by omega),ih hk']
theorem Rk{m:Nat}: ∀ {c:List Int},(∀ x∈c,0<=x/\x<=m)->oI m c<(m+1)^c.length:=by
 intro c
 induction c with
 |nil=>intro _; simp[oI]
 |cons x r ih =>
  intro h
  have h1:=ih fun y hy=>h y (List.mem_cons_of_mem _ hy)
  have h2:=h x (by simp)
  simp only[oI,List.length_cons,Nat.pow_succ]
  have h3:x.toNat<=m:=by omega
  have h4:x.toNat*(m+1)^r.length<=m*(m+1)^r.length:=Nat.mul_le_mul_right _ h3
  rw[Nat.mul_succ,Nat.mul_comm _ m]
  omega
theorem Ze{m:Nat}: ∀ {n:Nat} {c:List Int},c.length=n->(∀ x∈c,0<=x/\x<=m)->(allM m n)[oI m c]? =some c:=by
 intro n
 induction n with
 |zero =>
  intro c hc _
  have:c=[]:=List.length_eq_zero_iff.1 hc
  subst this; rfl
 |succ n ih =>
  intro c hc h
  cases c with
  |nil=>cases hc
  |cons x r =>
   have hr:r.length=n:=by simpa using hc
   have hx:=h x (by simp)
   have hrr: ∀ y∈r,0<=y/\y<=m:=fun y hy=>h y (List.mem_cons_of_mem _ hy)
   have h1:=Rk hrr
   simp only[oI,allM]
   rw[hr] at h1 ⊢
   rw[Zd (B:=(m+1)^n) (fun k=>by rw[List.length_map,sG]) (by omega) h1,List.getElem?_map,ih hr hrr]
   show some (((x.toNat:Nat):Int)::r)=_
   rw[Int.toNat_of_nonneg hx.1]
theorem NG{m:Nat}: ∀ {a b:List Int},oI m (a++b)=oI m a*(m+1)^b.length+oI m b:=by
 intro a b
 induction a with
 |nil=>simp[oI]
 |cons x r ih =>
  simp only[List.cons_append,oI,ih,List.length_append,Nat.pow_add]
  rw[Nat.add_mul,Nat.mul_assoc]
  omega
theorem I5{m t:Nat}:oI m (List.replicate t 0)=0:=by
 induction t with
 |zero=>rfl
 |succ t ih=>rw[List.replicate_succ]; simp[oI,ih]
theorem NH{m t:Nat}:oI m (List.replicate t (m:Int))+1=(m+1)^t:=by
 induction t with
 |zero=>rfl
 |succ t ih =>
  rw[List.replicate_succ]
  simp only[oI,List.length_replicate,Int.toNat_natCast,Nat.pow_succ]
  rw[Nat.mul_succ,Nat.mul_comm _ m]
  omega
theorem TN{m t:Nat}{a:List Int}{x:Int}(hx:0<=x):oI m (a++(x+1)::List.replicate t 0)=oI m (a++x::List.replicate t (m:Int))+1:=by
 rw[NG,NG]
 simp only[oI,List.length_cons,List.length_replicate,I5]
 have e:(x+1).toNat=x.toNat+1:=by omega
 have:=NH (m:=m) (t:=t)
 rw[e,Nat.add_mul,Nat.one_mul]
 omega
structure Bo(ac:List Int->Bool)(m n:Nat)(w:List Int):Prop where
 len:w.length=n
 rng: ∀ x∈w,0<=x/\x<=(m:Int)
 no: ∀ j,j<oI m w->ac ((allM m n).getD j [])=false
theorem Bo.lt{ac:List Int->Bool}{m n:Nat}{w:List Int}(h:Bo ac m n w):oI m w<(m+1)^n:=by rw[<- h.len]; exact Rk h.rng
theorem Bo.at'{ac:List Int->Bool}{m n:Nat}{w:List Int}(h:Bo ac m n w):(allM m n)[oI m w]? =some w:=Ze h.len h.rng
theorem Bo.zero{ac:List Int->Bool}{m n:Nat}:Bo ac m n (List.replicate n 0):=by
 refine⟨by simp,fun x hx=>?_,fun j hj=>?_⟩
 ·rw[List.eq_of_mem_replicate hx]; omega
 ·rw[I5] at hj; omega
theorem Bo.yes{ac:List Int->Bool}{m n:Nat}{w:List Int}(h:Bo ac m n w)(ha:ac w=true):(allM m n).find? ac=some w:=by
 rw[List.find?_eq_some_iff_getElem]
 have hl:oI m w<(allM m n).length:=by rw[sG]; exact h.lt
 have e:=h.at'
 rw[List.getElem?_eq_getElem hl,Option.some.injEq] at e
 refine⟨ha,_,hl,e,fun j hj=>?_⟩
 have:=h.no j hj
 rw[getD_some (by omega)] at this
 rw[this]; rfl
theorem Bo.next{ac:List Int->Bool}{m n t:Nat}{a:List Int}{x:Int}(h:Bo ac m n (a++x::List.replicate t (m:Int)))(hx:x≠m)(hn:ac (a++x::List.replicate t (m:Int))=false):Bo ac m n (a++(x+1)::List.replicate t 0)/\(m+1)^n-oI m (a++(x+1)::List.replicate t 0)<(m+1)^n-oI m (a++x::List.replicate t (m:Int)):=by
 have h0:=h.rng x (by simp)
 have e:=TN (m:=m) (t:=t) (a:=a) (x:=x) h0.1
 refine⟨⟨?_,fun y hy=>?_,fun j hj=>?_⟩,?_⟩
 ·have:=h.len
  simp only[List.length_append,List.length_cons,List.length_replicate] at this ⊢
  exact this
 ·rcases List.mem_append.1 hy with hy|hy
  ·exact h.rng y (List.mem_append.2 (.inl hy))
  ·rcases List.mem_cons.1 hy with rfl|hy
   ·omega
   ·rw[List.eq_of_mem_replicate hy]; omega
 ·rw[e] at hj
  rcases Nat.lt_or_ge j (oI m (a++x::List.replicate t (m:Int))) with q|q
  ·exact h.no j q
  ·have:j=oI m (a++x::List.replicate t (m:Int)):=by omega
   subst this
   rw[List.getD_eq_getElem?_getD,h.at']; exact hn
 ·have:=h.lt
  omega
theorem Bo.none{ac:List Int->Bool}{m n:Nat}(h:Bo ac m n (List.replicate n (m:Int)))(hn:ac (List.replicate n (m:Int))=false):(allM m n).find? ac=none:=by
 rw[List.find?_eq_none]
 intro w hw
 obtain⟨j,hj,e⟩:=List.mem_iff_getElem.1 hw
 have ht:=NH (m:=m) (t:=n)
 rw[sG] at hj
 rcases Nat.lt_or_ge j (oI m (List.replicate n (m:Int))) with q|q
 ·have:=h.no j q
  rw[getD_some (by rw[sG]; exact hj),e] at this
  rw[this]; decide
 ·have:j=oI m (List.replicate n (m:Int)):=by omega
  subst this
  have e2:=h.at'
  rw[List.getElem?_eq_getElem (by rw[sG]; exact hj),Option.some.injEq,e] at e2
  rw[e2,hn]; decide
def oJ(w:List Int)(t:Nat):List Int:=w.take (w.length-t)++List.replicate t 0
theorem TP{w:List Int}{t:Nat}(h:t<=w.length):(oJ w t).length=w.length:=by simp[oJ]; omega
theorem Du{w:List Int}{t i:Nat}(h:i+t<w.length):(oJ w t).getD i 0=w.getD i 0:=by
 unfold oJ
 rw[List.getD_eq_getElem?_getD,List.getElem?_append_left (by rw[List.length_take]; omega),List.getElem?_take_of_lt (by omega),<- List.getD_eq_getElem?_getD]
theorem PK{w:List Int}{t:Nat}(h:t<w.length):(oJ w t).set (w.length-(t+1)) 0=oJ w (t+1):=by
 unfold oJ
 have e:w.take (w.length-t)=w.take (w.length-(t+1))++[w[w.length-(t+1)]'(by omega)]:=by
  rw[show w.length-t=(w.length-(t+1))+1 by omega,List.take_add_one,List.getElem?_eq_getElem (by omega)]; rfl
 rw[e,List.append_assoc,List.set_append_right _ _ (by rw[List.length_take]; omega),List.length_take]
 rw[show w.length-(t+1)-min (w.length-(t+1)) w.length=0 by omega]
 rfl
theorem NI{w:List Int}{t:Nat}{m:Int}(h:t<=w.length)(hm: ∀ j,w.length-t<=j->j<w.length->w.getD j 0=m):w.drop (w.length-t)=List.replicate t m:=by
 apply List.ext_getElem
 ·simp; omega
 ·intro j h1 h2
  have h2':j<t:=by simpa using h2
  rw[List.getElem_drop,List.getElem_replicate]
  have:=hm (w.length-t+j) (by omega) (by omega)
  rw[getD_some (by omega)] at this; exact this
theorem S.TQ(a:List Int)(f g:Bool)(ha:a.length<2^30):au Tryz.prog 14 [.row 0 f (.ints a),.row 0 g (.ints a)] (.bool true):=by
 refine au.of Bd.lH (by simp) rfl rfl ?_
 conv=>whnf
 refine Fork.mk (fun h1=>absurd h1 (by simp)) (fun h1=>?_)
 conv=>whnf
 refine aP.same [0,1] (fun i:Nat=>[(5,.int i)]) (fun i=>i<=a.length) (fun i=>a.length-i) 0 rfl (by decide) rfl (fun _=>rfl) (Nat.zero_le _) ⟨⟨_,rfl,rfl⟩,trivial⟩ ?_
 conv=>whnf
 refine⟨rfl,?_⟩
 rintro i hi
 conv=>whnf
 refine⟨fun h2=>?_,fun h2=>?_⟩
 ·have hi':i<a.length:=by simpa using h2
  conv=>whnf
  repeat(refine VC.mk (by simp only[Rw.rng] at *; first|omega|(simp_all; done)|(simp_all; omega)) ?_; conv=>whnf)
  refine⟨fun h3=>?_,fun h3=>?_⟩
  ·exfalso
   revert h3
   simp
  ·conv=>whnf
   refine .mk (by simp only[okI] at *; first|omega|(simp_all; done)|(simp_all; omega)) ?_
   conv=>whnf
   refine⟨i+1,hi',by omega,⟨⟨_,rfl,rfl⟩,trivial⟩,?_,rfl⟩
   repeat' (first|exact trivial|exact⟨_,rfl,rfl⟩|constructor)
 ·conv=>whnf
  exact aG.bool rfl
theorem WI{w:List Int}{t:Nat}{m:Int}(h:t<w.length)(hm: ∀ j,w.length-t<=j->j<w.length->w.getD j 0=m):w=w.take (w.length-(t+1))++w.getD (w.length-(t+1)) 0::List.replicate t m:=by
 have h1:w.length-(t+1)<w.length:=by omega
 rw[<- NI (by omega) hm,getD_some h1,show w.length-t=(w.length-(t+1))+1 by omega,<- List.drop_eq_getElem_cons h1,List.take_append_drop]
theorem TR{w:List Int}{t:Nat}{v:Int}(h:t<w.length):(oJ w t).set (w.length-(t+1)) v=w.take (w.length-(t+1))++v::List.replicate t 0:=by
 unfold oJ
 have e:w.take (w.length-t)=w.take (w.length-(t+1))++[w[w.length-(t+1)]'(by omega)]:=by
  rw[show w.length-t=(w.length-(t+1))+1 by omega,List.take_add_one,List.getElem?_eq_getElem (by omega)]; rfl
 rw[e,List.append_assoc,List.set_append_right _ _ (by rw[List.length_take]; omega),List.length_take]
 rw[show w.length-(t+1)-min (w.length-(t+1)) w.length=0 by omega]
 rfl
def fwE(p:aH)(q:Prop')(most:Int):Int:=bif Ew p q 2 !=0 then Ew p q 2 else bif decide (most<0)||decide (most>3) then 1 else 0
noncomputable def fwO(p:aH)(q:Prop')(most:Int):Option (List Int):=@ite _ (fwE p q most=0) (Classical.propDecidable _) ((allM most.toNat p.states.length).find? (FZ p q)) none
noncomputable def Zf(p:aH)(q:Prop')(most:Int):V:=.fU [.row 0 false (.ints ((fwO p q most).getD [])),.bool (fwO p q most).isSome,.int (fwE p q most)]
theorem ac6{p:aH}{q:Prop'}{most:Int}(h:Ew p q 2≠0):Zf p q most= .fU [.row 0 false (.ints []),.bool false,.int (Ew p q 2)]:=by
 have e:fwE p q most=Ew p q 2:=by unfold fwE; rw[show(Ew p q 2 !=0)=true by simpa using h]; rfl
 have e2:fwO p q most=none:=if_neg (by rw[e]; exact h)
 unfold Zf; rw[e2,e]; rfl
theorem ac7{p:aH}{q:Prop'}{most:Int}(h:Ew p q 2=0)(hm:(decide (most<0)||decide (most>3))=true):Zf p q most= .fU [.row 0 false (.ints []),.bool false,.int 1]:=by
 have e:fwE p q most=1:=by unfold fwE; rw[h,hm]; rfl
 have e2:fwO p q most=none:=if_neg (by rw[e]; decide)
 unfold Zf; rw[e2,e]; rfl
theorem WJ{p:aH}{q:Prop'}{most:Int}{o:Option (List Int)}(h:Ew p q 2=0)(hm:(decide (most<0)||decide (most>3))=false)(ho:(allM most.toNat p.states.length).find? (FZ p q)=o):Zf p q most= .fU [.row 0 false (.ints (o.getD [])),.bool o.isSome,.int 0]:=by
 have e:fwE p q most=0:=by unfold fwE; rw[h,hm]; rfl
 have e2:fwO p q most=o:=by rw[<- ho]; exact if_pos e
 unfold Zf; rw[e2,e]
theorem aG.fwN{h:Hz}{c:Int}:aG (.fU [.row 0 false (.ints []),.bool false,.int c]) (.fU [.row 0 true .nil,.bool false,.int c]) h:=⟨by
 show T.sub _ _ (.fU _) (.fU _)
 simp only[T.sub]
 exact⟨by show T.sub _ _ (.sl 0 false []) (.sl 0 true []); simp[T.sub],aB _,aB _,trivial⟩⟩
theorem aG.fwY{h:Hz}{j:Nat}{l:List Int}(q:h.get j=some (xK l)):aG (.fU [.row 0 false (.ints l),.bool true,.int 0]) (.fU [.own j,.bool true,.int 0]) h:=⟨by
 show T.sub _ _ (.fU _) (.fU _)
 simp only[T.sub]
 exact⟨D6 trivial q,aB _,aB _,trivial⟩⟩
theorem ac8{p:aH}{m:Nat}{w:List Int}(hm:m<=3)(hl:w.length=p.states.length)(hr: ∀ x∈w,0<=x/\x<=(m:Int)):SV p w=true:=by
 unfold SV
 rw[show((w.length:Int) !=p.states.length)=false by rw[hl]; simp]
 show w.all Vp=true
 rw[List.all_eq_true]
 intro x hx
 have:=hr x hx
 unfold Vp
 rw[show decide (x<0)=false by simp; omega,show decide (6<x)=false by simp; omega]; rfl
set_option maxHeartbeats 1000000 in
theorem S.jR(p:aH)(q:Prop')(most:Int)(hp:gq p)(hq:jO q):au Tryz.prog 17 [.dat (.mJ p),.dat (.prop q),.int most] (Zf p q most):=by
 refine au.of Bd.jR (by simp) rfl rfl ?_
 conv=>whnf
 refine ah.pure (S.jP p q 2 hp hq) rfl ?_
 conv=>whnf
 refine⟨fun h1=>?_,fun h1=>?_⟩
 ·rw[ac6 (show Ew p q 2≠0 by simpa using h1)]
  conv=>whnf
  exact aG.fwN
 ·have h0:Ew p q 2=0:=by simpa using h1
  conv=>whnf
  repeat(refine VC.mk (by first|exact id|(intro h; rw[h]; rfl)) ?_; conv=>whnf)
  refine⟨fun h2=>?_,fun h2=>?_⟩
  ·rw[ac7 h0 h2]
   conv=>whnf
   exact aG.fwN
  ·have hms:0<=most/\most<=3:=by
    have h2':(decide (most<0)||decide (most>3))=false:=h2
    rw[Bool.or_eq_false_iff,decide_eq_false_iff_not,decide_eq_false_iff_not] at h2'; omega
   have hv:=zX h0
   have hst:=(oC (iV (ou (wL hv))).1).states
   have hfy:=fun o ho=>WJ (o:=o) h0 h2 ho
   obtain⟨m,rfl⟩: ∃ m:Nat,most=m:=⟨most.toNat,by omega⟩
   have hm3:m<=3:=by omega
   simp only[Int.toNat_natCast] at hfy
   have hr0:=Fh (oC (iV (ou (wL hv))).1).pos
   generalize Zf p q m=VV at hfy
   conv=>whnf
   refine ah.pure (S.lY p q hp hq hv) rfl ?_
   have hF:=fun w (hw:SV p w=true)=>ac5 (p:=p) (q:=q) (w:=w) hv hw
   have hac: ∀ w,FZ p q w=ED p (dS p q) ((dS p q).map (zY p)) ((dS p q).map (zD (dS p q) p)) w:=fun _=>rfl
   generalize FZ p q=ac at hfy hac
   generalize dS p q=l at hF hac
   generalize l.map (zY p)=on at hF hac
   generalize l.map (zD l p)=fM at hF hac
   conv=>whnf
   rw[hr0]
   conv=>whnf
   refine .mk (by omega) ?_
   conv=>whnf
   refine aP.fam 20 [2] (fun w:List Int=>[(10,.ptr 4 0 0),(11,.own 5)]) (fun w=>ng [(4,boxS p l on fM),(5,xK w)]) (fun w=>Bo ac m p.states.length w) (fun w=>(m+1)^p.states.length-oI m w) (List.replicate p.states.length 0) (dR [(4,boxS p l on fM),(5,xK (List.replicate p.states.length 0))] [20,25]) _ rfl (by decide) (fun _=>rfl) .zero (sR rfl) (.inl rfl) ?_ ?_
   ·refine gJ.lits _ _ ⟨cu rfl rfl,cu rfl rfl,trivial⟩
   conv=>whnf
   refine⟨(sR rfl),rfl,?_⟩
   rintro w hI
   have hwl:=hI.len
   conv=>whnf
   refine ah.lend (S.Bl p l on fM w false (hF w (ac8 hm3 hI.len hI.rng))) ⟨aB _,D6 trivial rfl,trivial⟩ rfl rfl ?_
   rw[<- hac]
   conv=>whnf
   refine⟨fun h3=>?_,fun h3=>?_⟩
   ·rw[hfy _ (hI.yes h3)]
    conv=>whnf
    exact aG.fwY rfl
   ·conv=>whnf
    refine .mk (by simp only[okI] at *; first|omega|(simp_all; done)|(simp_all; omega)) ?_
    conv=>whnf
    have hz0:oJ w 0=w:=by simp[oJ]
    refine aP.fam 20 [2,10] (fun t:Nat=>[(12,.int ((w.length:Int)-1-t)),(11,.own 5)]) (fun t=>ng [(4,boxS p l on fM),(5,xK (oJ w t))]) (fun t=>t<=w.length/\ ∀ j,w.length-t<=j->j<w.length->w.getD j 0=m) (fun t=>w.length-t) 0 (dR [(4,boxS p l on fM),(5,xK (oJ w 0))] [4,5]) _ rfl (by decide) (fun _=>rfl) ⟨Nat.zero_le _,fun j h1 h2=>by omega⟩ ⟨⟨_,rfl,.eq (congrArg (fun z=>T.int z) (show(w.length:Int)-1-((0:Nat):Int)=(w.length:Int)-1 by omega))⟩,⟨_,rfl,.eq rfl⟩,trivial⟩ (.inl rfl) ?_ ?_
    ·refine gJ.lits _ _ ⟨cu rfl rfl,okF rfl nofun rfl rfl rfl ⟨rfl,rfl⟩ ?_,trivial⟩
     rw[hz0]
    conv=>whnf
    refine⟨(sR rfl),rfl,?_⟩
    rintro t ⟨ht,hmt⟩
    have hzl:(oJ w t).length=w.length:=TP ht
    conv=>whnf
    repeat(refine VC.mk (by first|exact id|exact fun h=>⟨h,h⟩|(simp only[Rw.rng] at *; first|omega|(simp_all; done)|(simp_all; omega))) ?_; conv=>whnf)
    refine⟨fun h4=>?_,fun h4=>?_⟩
    ·rw[Bool.and_eq_true] at h4
     have h5:=of_decide_eq_true h4.1
     have htl:t<w.length:=by omega
     have hti:((w.length:Int)-1-t).toNat=w.length-(t+1):=by omega
     have h6:w.getD (w.length-(t+1)) 0=m:=by
      have h7:((oJ w t).getD ((w.length:Int)-1-t).toNat 0==(m:Int))=true:=h4.2
      rw[hti,Du (by omega)] at h7
      simpa using h7
     have hnx:=PK htl
     conv=>whnf
     repeat(refine VC.mk (by first|(simp only[Rw.rng]; omega)|(simp only[okI] at *; omega)) ?_; conv=>whnf)
     refine jM.lits (t+1) [(4,boxS p l on fM),(5,xK (oJ w (t+1)))] [4,5] _ (.inl rfl) rfl ⟨by omega,fun j j1 j2=>?_⟩ (by omega) ⟨⟨_,rfl,.eq (congrArg (fun z=>T.int z) (show(w.length:Int)-1-((t+1:Nat):Int)=(w.length:Int)-1-t-1 by omega))⟩,⟨_,rfl,.eq rfl⟩,trivial⟩ (sR rfl) ⟨cu rfl rfl,okF rfl nofun rfl rfl rfl ⟨rfl,rfl⟩ ?_,trivial⟩
     ·rcases Nat.lt_or_ge j (w.length-t) with g|g
      ·have:j=w.length-(t+1):=by omega
       subst this; exact h6
      ·exact hmt j g j2
     ·rw[<- hnx,<- hti]
    ·conv=>whnf
     refine⟨fun h5=>?_,fun h5=>?_⟩
     ·have h6:=of_decide_eq_true h5
      have htn:t=w.length:=by omega
      have hwm:w=List.replicate p.states.length (m:Int):=by
       have:=NI ht hmt
       rw[htn,Nat.sub_self,List.drop_zero,hwl] at this; exact this
      rw[hwm] at hI h3
      rw[hfy _ (hI.none h3)]
      conv=>whnf
      exact aG.fwN
     ·have h6:=of_decide_eq_false h5
      have htl:t<w.length:=by omega
      have hti:((w.length:Int)-1-t).toNat=w.length-(t+1):=by omega
      have hne:w.getD (w.length-(t+1)) 0≠m:=by
       intro e
       have h7:(decide ((w.length:Int)-1-t>=0)&&((oJ w t).getD ((w.length:Int)-1-t).toNat 0==(m:Int)))=false:=h4
       rw[hti,Du (by omega),e,decide_eq_true (by omega)] at h7
       simp at h7
      have hsp:=WI htl hmt
      have hzg:(oJ w t).getD (w.length-(t+1)) 0=w.getD (w.length-(t+1)) 0:=Du (by omega)
      have hrg:=hI.rng _ (eY (d:=0) (show w.length-(t+1)<w.length by omega))
      have hzp:=TR (v:=w.getD (w.length-(t+1)) 0+1) htl
      generalize w.getD (w.length-(t+1)) 0=x at hne hsp hzg hrg hzp
      rw[<- hti] at hzg
      have hzI:(oJ w t).getD ((w.length:Int)-1-t).toNat 0=x:=hzg
      rw[hsp] at hI h3
      obtain⟨n1,n2⟩:=hI.next hne h3
      conv=>whnf
      repeat(refine VC.mk (by first|(simp only[Rw.rng]; omega)|(simp only[okI]; rw[hzI]; omega)) ?_; conv=>whnf)
      refine jM.lits (w.take (w.length-(t+1))++(x+1)::List.replicate t 0) [(4,boxS p l on fM),(5,xK (w.take (w.length-(t+1))++(x+1)::List.replicate t 0))] [4,5] _ (.inl rfl) rfl n1 (by rw[<- hsp] at n2; exact n2) (sR rfl) (sR rfl) ⟨cu rfl rfl,okF rfl nofun rfl rfl rfl ⟨rfl,rfl⟩ ?_,trivial⟩
      rw[hzI,hti,hzp]
end Go.Proofs.YtajmbgljnaljiaaGreatDoor
namespace Go.Proofs.YtajmbgljnaljiaaGreatDoor
open Go.Ab Go.Proofs
set_option maxRecDepth 100000
structure aeR(g g':Gr):Prop where
 n:g.n=g'.n
 k:g.k=g'.k
 TB: ∀ a i,i<g.k->g.TB a i=g'.TB a i
 Ht: ∀ a x,x<g.k->g.Ht a x=g'.Ht a x
 Vq:g.Vq=g'.Vq
 fM:g.fM=g'.fM
def vI(s:Int)(l:List Int)(x:Nat):Bool:=((x:Int)==s)||Dj l x
def nR(s:Int)(l:List Int)(i:Nat):List Int:=((List.range i).filter (vI s l)).map fun x:Nat=>(x:Int)
def vJ(p:aH)(q:Prop')(s:Int):Prop':= {q with goal:=nR s q.goal p.states.length}
theorem PL{s:Int}{l:List Int}{i:Nat}:nR s l (i+1)=if vI s l i=true then nR s l i++[(i:Int)] else nR s l i:=by
 unfold nR
 rw[List.range_succ,List.filter_append,List.map_append]
 cases h:vI s l i with
 |true=>rw[if_pos rfl,show List.filter (vI s l) [i]=[i] from by rw[List.filter_cons_of_pos (p:=vI s l) h]; rfl]; rfl
 |false=>rw[if_neg (by decide),show List.filter (vI s l) [i]=[] from by rw[List.filter_cons_of_neg (p:=vI s l) (by rw[h]; decide)]; rfl,List.map_nil,List.append_nil]
theorem I7{s:Int}{l:List Int}{i:Nat}{x:Int}:x∈nR s l i↔ ∃ k:Nat,k<i/\vI s l k=true/\x=k:=by
 unfold nR
 rw[List.mem_map]
 constructor
 ·rintro⟨k,h,rfl⟩
  obtain⟨h1,h2⟩:=List.mem_filter.1 h
  exact⟨k,List.mem_range.1 h1,h2,rfl⟩
 ·rintro⟨k,h1,h2,rfl⟩
  exact⟨k,List.mem_filter.2 ⟨List.mem_range.2 h1,h2⟩,rfl⟩
theorem TS{s:Int}{l:List Int}{i:Nat}:(nR s l i).length<=i:=by
 unfold nR
 rw[List.length_map]
 exact Nat.le_trans (List.length_filter_le ..) (by simp)
theorem WL{s:Int}{l:List Int}{i:Nat}:(nR s l i).Pairwise (· < ·):=by
 unfold nR
 rw[List.pairwise_map]
 refine List.Pairwise.filter _ ?_
 exact List.pairwise_lt_range.imp fun h=>by omega
theorem Rl{s:Int}{l:List Int}{n k:Nat}(hk:k<n)(h:vI s l k=true):(k:Int)∈nR s l n:=I7.2 ⟨k,hk,h,rfl⟩
theorem Zg: ∀ {l:List Int},l.Pairwise (· < ·)->NJ l=true:=by
 intro l
 induction l with
 |nil=>intro _; rfl
 |cons a t ih =>
  intro h
  cases t with
  |nil=>rfl
  |cons b r =>
   have h1:=List.pairwise_cons.1 h
   show(decide (a<b)&&NJ (b::r))=true
   rw[ih h1.2,Bool.and_true,decide_eq_true_eq]
   exact h1.1 b (by simp)
theorem WM{s:Int}{l:List Int}{n:Nat}:lI (nR s l n) n=0:=by
 have h:(nR s l n).any (fun i=>yc i n)=false:=by
  rw[List.any_eq_false]
  intro x hx
  obtain⟨k,hk,_,rfl⟩:=I7.1 hx
  simp only[yc,Bool.or_eq_true,decide_eq_true_eq]
  omega
 unfold lI
 rw[h,Zg WL]; rfl
theorem PN{a s:Int}{b c d e:Bool}{X Y:Int}(hY:X=0->Y=0)(h:(bif a !=0 then a else bif b then 2 else bif c then 1 else bif d then 1 else bif s !=0 then s else bif e then 5 else X)=0):(bif a !=0 then a else bif b then 2 else bif c then 1 else bif d then 1 else bif s !=0 then s else bif e then 5 else Y)=0:=by
 obtain⟨h1,h⟩:=bz nz h
 obtain⟨h2,h⟩:=bz (fun _=>by decide) h
 obtain⟨h3,h⟩:=bz (fun _=>by decide) h
 obtain⟨h4,h⟩:=bz (fun _=>by decide) h
 obtain⟨h5,h⟩:=bz nz h
 obtain⟨h6,h⟩:=bz (fun _=>by decide) h
 rw[h1,h2,h3,h4,h5,h6]
 exact hY h
theorem I8{p:aH}{q:Prop'}(hp:kY p q=0)(hk:q.kind=2):lI q.goal p.states.length=0/\q.goal.length≠0:=by
 unfold kY at hp
 obtain⟨_,hp⟩:=bz nz hp
 obtain⟨_,hp⟩:=bz (fun _=>by decide) hp
 obtain⟨_,hp⟩:=bz (fun _=>by decide) hp
 obtain⟨_,hp⟩:=bz (fun _=>by decide) hp
 obtain⟨_,hp⟩:=bz nz hp
 obtain⟨_,hp⟩:=bz (fun _=>by decide) hp
 rw[show(!(q.kind==1))=true by simp[hk]] at hp
 refine⟨nD hp _ (by simp),fun e=>?_⟩
 have:=TT (nD hp (iq ((q.goal.length:Int)==0) 1) (by simp)) (by decide)
 rw[e] at this; simp at this
theorem TU{p:aH}{q:Prop'}{s:Int}(hp:kY p q=0)(hk:q.kind=2):kY p (vJ p q s)=0:=by
 obtain⟨h1,h2⟩:=I8 hp hk
 have hg:qy (vJ p q s)=qy q:=by
  unfold qy
  rw[show(vJ p q s).kind=2 from hk,hk]; rfl
 have hl:(((nR s q.goal p.states.length).length:Int)==0)=false:=by
  obtain⟨x,t,e⟩: ∃ x t,q.goal=x::t:=by
   cases hq:q.goal with
   |nil=>rw[hq] at h2; exact absurd rfl h2
   |cons x t=>exact⟨x,t,rfl⟩
  have hx:=yX h1 x (by rw[e]; simp)
  have hm:(x.toNat:Int)∈nR s q.goal p.states.length:=Rl (by omega) (by
   unfold vI
   rw[Bool.or_eq_true]
   right
   rw[EP,Int.toNat_of_nonneg hx.1,e]; simp)
  have:=List.length_pos_of_mem hm
  rw[beq_eq_false_iff_ne]; omega
 unfold kY at hp ⊢
 rw[hg]
 refine PN (fun _=>?_) hp
 show(bif !(q.kind==1) then gK [lI (nR s q.goal p.states.length) p.states.length,iq (((nR s q.goal p.states.length).length:Int)==0) 1] else _)=0
 rw[show(!(q.kind==1))=true by simp[hk],WM,hl]; rfl
theorem Zh{p:aH}{q:Prop'}{s:Int}(h:Ew p q 2=0):Ew p (vJ p q s) 2=0:=by
 have hk:=Rf h
 have hf:=zX h
 have hf':uI p (vJ p q s)=0:=by
  unfold uI
  rw[TU (A8 hf) hk]; exact wL hf
 unfold Ew
 rw[hf',show(vJ p q s).kind=2 from hk]; rfl
theorem I9{p:aH}{q:Prop'}{s:Int}(h:Ew p q 2=0){x:Elem}(hl:mP (vJ p q s) x=true):mP q x=true:=by
 have hk:=Rf h
 have hg:=(I8 (A8 (zX h)) hk).1
 unfold mP at hl ⊢
 rw[show(vJ p q s).kind=q.kind from rfl] at hl
 rw[hk] at hl ⊢
 have hl:Pq (vJ p q s) x=false:=by simpa using hl
 have:Pq q x=false:=by
  rw[Bool.eq_false_iff]
  intro hr
  rw[Bool.eq_false_iff] at hl
  refine hl ?_
  unfold Pq at hr ⊢
  rw[Bool.not_eq_true'] at hr ⊢
  unfold JY at hr ⊢
  rw[List.any_eq_false] at hr ⊢
  intro i hi
  have:=hr i hi
  rw[Bool.and_eq_true,not_and,Bool.not_eq_true',Bool.not_eq_false] at this ⊢
  intro hc
  have hm:=this hc
  rw[EP] at hm
  have hx:=yX hg _ hm
  rw[EP]
  exact Rl (by omega) (by unfold vI; rw[Bool.or_eq_true]; right; rw[EP]; exact hm)
 rw[this]; rfl
theorem WO{p:aH}{q:Prop'}{s:Int}(h:Ew p q 2=0){x:Elem}(hr:IU p (vJ p q s) x):IU p q x:=by
 induction hr with
 |ini h1 h2=>exact .ini h1 (I9 h h2)
 |Yu _ hr hy hl ih=>exact .Yu ih hr hy (I9 h hl)
theorem ER{L:List Elem}{z:Elem}(hs:SS L)(h:z∈L):kD L z<L.length/\L.getD (kD L z) default=z:=by
 have:=(J9 hs).2 h
 unfold Dp at this
 rw[Bool.and_eq_true,decide_eq_true_eq,beq_iff_eq,iP] at this
 exact this
theorem Rn{L M:List Elem}(hs:SS L){b:Int}:b∈xM L M↔ ∃ z,z∈M/\z∈L/\b=kD L z:=by
 unfold xM
 rw[List.mem_filterMap]
 constructor
 ·rintro⟨z,h1,h2⟩
  split at h2
  ·rename_i q
   exact⟨z,h1,(J9 hs).1 q,(Option.some.inj h2).symm⟩
  ·cases h2
 ·rintro⟨z,h1,h2,rfl⟩
  exact⟨z,h1,by rw[if_pos ((J9 hs).2 h2)]⟩
section
variable {p:aH} {w:List Int}
abbrev gOf(p:aH)(w:List Int)(L:List Elem):Gr:=Wu p L (L.map (zY p)) (L.map (zD L p)) w
theorem aaP{L:List Elem}{a x:Nat}(ha:a<L.length)(hx:x<p.rules.length):(gOf p w L).fM a x=xM L (jL (p.rules.getD x default) (L.getD a default)):=by
 show(((L.map (zD L p)).getD a []).getD x [])=_
 rw[sO (e:=default) ha]
 unfold zD
 rw[sO (e:=default) hx]; rfl
theorem Ro{L:List Elem}{a:Nat}(ha:a<L.length):(L.map (zY p)).getD a []=zY p (L.getD a default):=sO (e:=default) ha
theorem Zi{L L':List Elem}(hs:SS L)(hs':SS L')(hsub: ∀ x∈L',x∈L){a i:Nat}(ha:a<L'.length)(h:(gOf p w L).LY (kD L (L'.getD a default)) i):(gOf p w L').LY a i:=by
 refine LY.max (G:=fun c=>c<L'.length/\(gOf p w L).LY (kD L (L'.getD c default)) i) ?_ ⟨ha,h⟩
 rintro c ⟨hc,hH⟩
 obtain⟨hc1,hc2⟩:=ER hs (hsub _ (eY (d:=default) hc))
 obtain⟨-,hb,hn⟩:=LY.cl _ hH
 have eo:(L'.map (zY p)).getD c []=(L.map (zY p)).getD (kD L (L'.getD c default)) []:=by
  rw[Ro hc,Ro hc1,hc2]
 refine⟨hc,?_,fun x hx hne=>?_⟩
 ·show(((L'.map (zY p)).getD c []).getD i false&&_)=true
  rw[eo]; exact hb
 ·have hne':(gOf p w L).Ht (kD L (L'.getD c default)) x=true:=by
   show((((L.map (zY p)).getD _ []).getD x false&&_)&&_)=true
   rw[<- eo]; exact hne
  obtain⟨hm,hA⟩:=hn x hx hne'
  refine⟨hm,fun b hb=>?_⟩
  rw[aaP hc hx,Rn hs'] at hb
  obtain⟨z,z1,z2,rfl⟩:=hb
  obtain⟨q1,q2⟩:=ER hs' z2
  rw[Int.toNat_natCast]
  refine⟨q1,?_⟩
  have:=hA (kD L z) (by rw[aaP hc1 hx,hc2,Rn hs]; exact⟨z,z1,hsub _ z2,rfl⟩)
  rw[Int.toNat_natCast] at this
  rw[q2]; exact this
theorem Zj{L L':List Elem}(hs:SS L)(hs':SS L')(hsub: ∀ x∈L',x∈L)(h:ED p L (L.map (zY p)) (L.map (zD L p)) w=true):ED p L' (L'.map (zY p)) (L'.map (zD L' p)) w=true:=by
 unfold ED at h ⊢
 rw[Bool.and_eq_true,Bool.not_eq_true',List.any_eq_false,List.all_eq_true] at h ⊢
 obtain⟨h1,h2⟩:=h
 refine⟨fun a ha=>?_,fun r hr=>?_⟩
 ·have ha:=List.mem_range.1 ha
  obtain⟨hc1,hc2⟩:=ER hs (hsub _ (eY (d:=default) ha))
  have:=h1 _ (List.mem_range.2 hc1)
  unfold upS at this ⊢
  rw[Ro hc1,hc2] at this
  rw[Ro ha]; exact this
 ·unfold Gr.rE at hr
  rw[List.mem_map] at hr
  obtain⟨a,ha,rfl⟩:=hr
  have ha:a<L'.length:=List.mem_range.1 ha
  obtain⟨hc1,_⟩:=ER hs (hsub _ (eY (d:=default) ha))
  have:=h2 _ (List.mem_map.2 ⟨_,List.mem_range.2 hc1,rfl⟩)
  rw[List.any_map,List.any_eq_true] at this ⊢
  obtain⟨i,hi,hh⟩:=this
  exact⟨i,hi,Bc.2 (Zi hs hs' hsub ha (Bc.1 hh))⟩
end
theorem WQ{p:aH}{q:Prop'}{w:List Int}{s:Int}(h:Zc p q w=true):Zc p (vJ p q s) w=true:=by
 unfold Zc at h ⊢
 rw[Bool.and_eq_true,Bool.and_eq_true,beq_iff_eq] at h ⊢
 obtain⟨⟨h1,h2⟩,h3⟩:=h
 refine⟨⟨Zh h1,h2⟩,?_⟩
 have hc:=wL (zX h1)
 exact Zj (qJ _) (qJ _) (fun x hx=>(wO hc).2 (WO h1 ((wO hc).1 hx))) h3
end Go.Proofs.YtajmbgljnaljiaaGreatDoor
