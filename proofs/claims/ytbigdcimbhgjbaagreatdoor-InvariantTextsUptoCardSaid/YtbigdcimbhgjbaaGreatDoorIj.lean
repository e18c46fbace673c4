/-
 Texts, their parts and separators; the library's words for them. No condition.
-/
import Derived.Lib.SplitLaws
import Derived.Lib.Join
import Derived.Shelf.Strings.Count
import Derived.Shelf.Strings.Search2
import Derived.Test.YtbigdcimbhgjbaaGreatDoorNa
import Derived.Test.YtbigdcimbhgjbaaGreatDoorIb
import Derived.Test.YtbigdcimbhgjbaaGreatDoorBd
namespace Go.Ab
open Go.RowKit
def dZ(b:UInt8):List (List UInt8)->List UInt8
 |[]=>[]
 |[x]=>x
 |x::y::r=>x++b::dZ b (y::r)
def aG(b:UInt8):List UInt8->List (List UInt8)
 |[]=>[[]]
 |c::r=>match aG b r with
  |[]=>[]
  |w::ws=>bif c==b then []::w::ws else(c::w)::ws
theorem KU{b:UInt8}: ∀ {s:List UInt8},aG b s≠[]
 |[]=>by simp[aG]
 |c::r=>by
  have:=KU (b:=b) (s:=r)
  unfold aG
  split
  ·rename_i e; exact absurd e this
  ·cases c==b<;>simp
theorem WH{b:UInt8}{s:List UInt8}:aG b (b::s)=[]::aG b s:=by
 rw[aG]
 split
 ·rename_i e; exact absurd e KU
 ·rename_i e; simp[e]
theorem KX{b:UInt8}: ∀ {w:List UInt8},b ∉ w->aG b w=[w]
 |[],_=>rfl
 |c::w,h=>by
  simp only[List.mem_cons,not_or] at h
  rw[aG,KX h.2]
  simp only[beq_eq_false_iff_ne.2 (Ne.symm h.1),cond_false]
theorem He{b:UInt8}{s:List UInt8}: ∀ {w:List UInt8},b ∉ w->aG b (w++b::s)=w::aG b s
 |[],_=>WH
 |c::w,h=>by
  simp only[List.mem_cons,not_or] at h
  rw[List.cons_append,aG,He h.2]
  simp only[beq_eq_false_iff_ne.2 (Ne.symm h.1),cond_false]
theorem Hf{b:UInt8}: ∀ {ws:List (List UInt8)},ws≠[]->(∀ w∈ws,b ∉ w)->aG b (dZ b ws)=ws
 |[],h,_=>absurd rfl h
 |[x],_,hw=>KX (hw x (by simp))
 |x::y::r,_,hw=>by
  rw[dZ,He (hw x (by simp)),Hf (by simp) (fun w h=>hw w (List.mem_cons_of_mem _ h))]
theorem Nz{b:UInt8}: ∀ {xs:List (List UInt8)},Lib.join xs [b]=dZ b xs
 |[]=>rfl
 |[x]=>by simp[Lib.join,dZ]
 |x::y::r=>by
  have:=Nz (b:=b) (xs:=y::r)
  unfold Lib.join at this ⊢
  rw[dZ,<- this,List.intercalate_cons_cons]
  simp
theorem zY(b c:UInt8)(r:List UInt8): ∃ w ws,aG b r=w::ws/\aG b (c::r)=bif c==b then []::w::ws else(c::w)::ws:=by
 cases h:aG b r with
 |nil=>exact absurd h KU
 |cons w ws=>exact⟨w,ws,rfl,by rw[aG,h]⟩
theorem Hg{b:UInt8}: ∀ {s:List UInt8},dZ b (aG b s)=s
 |[]=>rfl
 |c::r=>by
  obtain⟨w,ws,h1,h2⟩:=zY b c r
  have ih:=Hg (b:=b) (s:=r)
  rw[h1] at ih; rw[h2]
  cases hc:c==b with
  |true=>rw[cond_true,dZ,ih,beq_iff_eq.1 hc]; rfl
  |false =>
   rw[cond_false]
   cases ws with
   |nil=>rw[dZ] at ih ⊢; rw[ih]
   |cons y ys=>rw[dZ] at ih ⊢; rw[List.cons_append,ih]
theorem rU{b:UInt8}: ∀ {s:List UInt8},(aG b s).length=s.count b+1
 |[]=>rfl
 |c::r=>by
  obtain⟨w,ws,h1,h2⟩:=zY b c r
  have ih:=rU (b:=b) (s:=r)
  rw[h1] at ih; rw[h2]
  cases hc:c==b with
  |true=>rw[cond_true,beq_iff_eq.1 hc,List.count_cons_self]; simp only[List.length_cons] at ih ⊢; omega
  |false=>rw[cond_false,List.count_cons_of_ne (by simpa using hc)]; simpa using ih
theorem WI{b:UInt8}: ∀ {s:List UInt8},∀ w∈aG b s,b ∉ w
 |[]=>by simp[aG]
 |c::r=>by
  obtain⟨w,ws,h1,h2⟩:=zY b c r
  have ih:=WI (b:=b) (s:=r)
  rw[h1] at ih; rw[h2]
  cases hc:c==b with
  |true =>
   rw[cond_true]
   intro x hx
   rcases List.mem_cons.1 hx with rfl|hx
   ·simp
   ·exact ih x hx
  |false =>
   rw[cond_false]
   intro x hx
   rcases List.mem_cons.1 hx with rfl|hx
   ·have h3:=ih w (by simp)
    simp only[List.mem_cons,not_or]
    exact⟨fun e=>by rw[e] at hc; simp at hc,h3⟩
   ·exact ih x (List.mem_cons_of_mem _ hx)
theorem aaq{b:UInt8}{s:List UInt8}: ∀ {w:List UInt8},b ∉ w->Lib.indexByte (w++b::s) b=w.length
 |[],_=>by simp[Lib.indexByte]
 |c::w,h=>by
  simp only[List.mem_cons,not_or] at h
  rw[List.cons_append,Lib.indexByte,aaq h.2,beq_eq_false_iff_ne.2 (Ne.symm h.1)]
  have: ¬ ((w.length:Int)= -1):=by omega
  simp[this]
theorem qO.aa2{P:Program}{f:FuncId}{ts:List T}{u:Value}(hcl:callable P f)(hfree:T.bZ ts=true)(H: ∀ (E:Env) (vs:List Value),bD E ts vs->(∀ g,E.S g->g<E.w.heap.size)->Calls P f vs.toArray E.w fun e w'=>e= .returned u/\Below E.w.heap.size E.w w'):qO P f ts (.lit u):=by
 refine⟨hfree,fun _=>trivial,(fun _ h=>by cases h),(fun _ h=>by cases h),fun n=>⟨⟨_,_,rfl,rfl⟩,hcl,fun F M E vs hk he hr hid hm hn=>?_⟩⟩
 refine(H E vs hr hk.slt).mono ?_
 rintro e w' ⟨rfl,g⟩
 have hext:Ext F E {E with w:=w'}:=⟨fun _ h=>h,fun q hq=>g.block q (by
  rcases hq with hq|hq
  ·exact hk.slt q hq
  ·exact hk.flt q hq),g.size,g.os,g.tape,g.output,rfl⟩
 refine⟨u,.lit u,{E with w:=w'},rfl,rfl,⟨rfl,by rw[show gu no n none=no from rfl]; exact he⟩,aK.2 rfl,?_,hext,fun i _ hs=>⟨hs,rfl,rfl⟩,trivial,?_⟩
 ·refine⟨(fun i ob hi=>by rw[show({E with w:=w'}:Env).h=E.h from rfl,he] at hi; cases hi),(fun i ob g hi=>by rw[show({E with w:=w'}:Env).h=E.h from rfl,he] at hi; cases hi),(fun i j oi oj g _ hi=>by rw[show({E with w:=w'}:Env).h=E.h from rfl,he] at hi; cases hi),fun q hq=>Nat.lt_of_lt_of_le (hk.slt q hq) g.size,fun q hq=>Nat.lt_of_lt_of_le (hk.flt q hq) g.size,hk.sf,hext.gl hk⟩
 ·intro i ob hi
  rw[show({E with w:=w'}:Env).h=E.h from rfl,he] at hi; cases hi
theorem NC{E:Env}: ∀ {xs:List Str} {vs:List Value},aC E 0 (xs.map eS) vs-> ∀ (j:Nat) (x:ByteArray),(xs.map bs)[j]? =some x->vs[j]? =some (.string x)
 |[],_,_,j,x,hx=>by simp at hx
 |s::xs,vs,h,j,x,hx=>by
  simp only[List.map_cons,aC] at h
  obtain⟨_,h1,_,h2,h3⟩:=h
  cases vs with
  |nil=>simp[bC] at h1
  |cons v vs =>
   have hz:bC 0=1:=rfl
   rw[hz] at h2 h3
   simp only[List.take_succ_cons,List.take_zero,List.drop_succ_cons,List.drop_zero] at h2 h3
   cases j with
   |zero =>
    have h4:v= .string (bs s):=by simpa [eS,aJ] using h2
    simp only[List.map_cons,List.getElem?_cons_zero,Option.some.injEq] at hx ⊢
    rw[h4,hx]
   |succ j=>simpa using NC h3 j x (by simpa using hx)
end Go.Ab
namespace Go.Proofs.YtbigdcimbhgjbaaGreatDoor
open Go.Ab Go.Proofs
set_option maxRecDepth 100000
structure mX(l:List Str):Prop where
 dis: ∀ i j,i<j->j<l.length->l.getD i []≠l.getD j []
 ch: ∀ x∈l,∀ c∈x,nameB c.toNat=true
 sz: ∀ x∈l,x.length<=12
theorem ND{s:Str}(h:validName s=true):(∀ c∈s,nameB c.toNat=true)/\s.length<=12:=by
 unfold validName nmB at h
 simp only[Bool.and_eq_true,Bool.not_eq_true',decide_eq_false_iff_not] at h
 obtain⟨⟨⟨_,h2⟩,h3⟩,_⟩:=h
 have e:(bs s).data.toList=s:=by simp[bs]
 have e2:(bs s).size=s.length:=by rw[<- e]; simp[ByteArray.size,bs]
 rw[e] at h3
 rw[e2] at h2
 refine⟨fun c hc=>?_,by omega⟩
 cases s with
 |nil=>cases hc
 |cons a r =>
  simp only[kG,Bool.and_eq_true,List.all_eq_true] at h3
  rcases List.mem_cons.1 hc with rfl|hc
  ·unfold nameB; rw[h3.1]; rfl
  ·exact h3.2 c hc
theorem NG{A B:List Str}{i:Nat}:(A++B).getD (A.length+i) []=B.getD i []:=by
 simp only[List.getD_eq_getElem?_getD]; rw[List.getElem?_append_right (by omega)]; simp
theorem getD_in{α:Type}{l:List α}{i:Nat}{d:α}(h:i<l.length):l.getD i d=l[i]:=by simp[h]
theorem RH{A B:List Str}{i:Nat}(h:i<A.length):(A++B).getD i []=A.getD i []:=by
 simp only[List.getD_eq_getElem?_getD]; rw[List.getElem?_append_left h]
theorem mX.of{l:List Str}(h: ∀ i,i<l.length->tN l i=false):mX l:=by
 have hv: ∀ i,i<l.length->validName (l.getD i [])=true:=fun i hi=>by
  have:=h i hi
  simp only[tN,Bool.or_eq_false_iff,Bool.not_eq_false'] at this
  exact this.1
 refine⟨fun i j hij hj e=>?_,fun x hx=>?_,fun x hx=>?_⟩
 ·have:=h j hj
  simp only[tN,Bool.or_eq_false_iff] at this
  have h2:=List.any_eq_false.1 this.2 (l.getD i []) (by
   refine List.mem_iff_getElem.2 ⟨i,by simp; omega,?_⟩
   rw[List.getElem_take,getD_in (by omega)])
  exact h2 (by rw[e]; simp)
 ·obtain⟨i,hi,rfl⟩:=List.mem_iff_getElem.1 hx
  have:=hv i hi
  rw[getD_in hi] at this
  exact(ND this).1
 ·obtain⟨i,hi,rfl⟩:=List.mem_iff_getElem.1 hx
  have:=hv i hi
  rw[getD_in hi] at this
  exact(ND this).2
theorem mX.left{A B:List Str}(h:mX (A++B)):mX A :=
 ⟨fun i j hij hj=>by have:=h.dis i j hij (by simp; omega); rwa [RH (by omega),RH hj] at this,fun x hx=>h.ch x (by simp[hx]),fun x hx=>h.sz x (by simp[hx])⟩
theorem mX.right{A B:List Str}(h:mX (A++B)):mX B :=
 ⟨fun i j hij hj=>by have:=h.dis (A.length+i) (A.length+j) (by omega) (by simp; omega); rwa [NG,NG] at this,fun x hx=>h.ch x (by simp[hx]),fun x hx=>h.sz x (by simp[hx])⟩
theorem uG{p:aS}(h:tC p=0):dn p=0:=by
 unfold tC at h
 cases h1:dn p==0&& !(jJ p).monadic with
 |true=>rw[h1] at h; cases h
 |false=>rw[h1] at h; exact h
theorem yS{p:aS}(h:tC p=0):mX p.states/\mX p.values:=by
 have h:=uG h
 unfold dn at h
 obtain⟨_,h⟩:=bz (fun _=>by decide) h
 obtain⟨_,h⟩:=bz (fun _=>by decide) h
 obtain⟨_,h⟩:=bz (fun _=>by decide) h
 obtain⟨_,h⟩:=bz (fun _=>by decide) h
 obtain⟨h1,_⟩:=bz nz h
 have h2:uO p=0:=by simpa using h1
 unfold uO at h2
 have h3:(List.range (allNames p).length).any (tN (allNames p))=false:=by
  cases e:(List.range (allNames p).length).any (tN (allNames p)) with
  |true=>rw[e] at h2; exact absurd h2 (by decide)
  |false=>rfl
 have h4:mX (allNames p):=mX.of fun i hi=>by
  cases e:tN (allNames p) i with
  |false=>rfl
  |true=>rw[zQ.2 ⟨i,hi,e⟩] at h3; cases h3
 unfold allNames at h4
 exact⟨h4.left.left,h4.right⟩
theorem mX.no{l:List Str}(h:mX l){b:UInt8}(hb:nameB b.toNat=false): ∀ x∈l,b ∉ x:=fun x hx hc=>by
 rw[h.ch x hx b hc] at hb; cases hb
theorem NH{l:List Str}: ∀ {i k:Nat},i<l.length->(∀ j,j<i->l.getD j []≠l.getD i [])->iE (l.getD i []) l k=((k+i:Nat):Int):=by
 induction l with
 |nil=>intro i k h; cases h
 |cons x r ih =>
  intro i k hi hd
  cases i with
  |zero=>simp[iE]
  |succ i =>
   have h0:(r.getD i []==x)=false:=by
    have:=hd 0 (by omega)
    simp only[List.getD_cons_zero,List.getD_cons_succ] at this
    exact beq_eq_false_iff_ne.2 (Ne.symm this)
   rw[List.getD_cons_succ,iE,h0,cond_false,ih (by simpa using hi) (fun j hj=>by have:=hd (j+1) (by omega); simpa using this)]
   congr 1; omega
def sQ(names:List Str)(l:List Int):Str:=dZ 124 (l.map fun x=>names.getD x.toNat [])
def ixs(names:List Str)(s:Str):Option (List Int):=bif (aG 124 s).any (fun w=>decide (iE w names 0<0)) then none else some ((aG 124 s).map fun w=>iE w names 0)
theorem Qg{names:List Str}{l:List Int}(h:mX names)(hl:uK names.length l)(h0:l≠[]):ixs names (sQ names l)=some l:=by
 have hm: ∀ x∈l,names.getD x.toNat []∈names:=fun x hx=>by
  have:=hl.1 x hx
  rw[getD_in (by omega)]; exact List.getElem_mem _
 have hc:aG 124 (sQ names l)=l.map fun x=>names.getD x.toNat []:=Hf (by simpa using h0) (fun w hw=>by
  obtain⟨x,hx,rfl⟩:=List.mem_map.1 hw
  exact h.no (by decide) _ (hm x hx))
 have hf: ∀ x∈l,iE (names.getD x.toNat []) names 0=x:=fun x hx=>by
  have:=hl.1 x hx
  rw[NH (by omega) (fun j hj=>h.dis j _ hj (by omega))]; omega
 unfold ixs
 rw[hc]
 have h1:((l.map fun x=>names.getD x.toNat []).any fun w=>decide (iE w names 0<0))=false:=by
  refine List.any_eq_false.2 fun w hw=>?_
  obtain⟨x,hx,rfl⟩:=List.mem_map.1 hw
  have:=hl.1 x hx
  rw[hf x hx]; simp; omega
 rw[h1,cond_false,List.map_map]
 exact congrArg some ((List.map_congr_left (g:=id) hf).trans (List.map_id l))
theorem y5{b:UInt8}{m:Nat}: ∀ {ws:List Str},(∀ w∈ws,w.length<=m)->(dZ b ws).length<=ws.length*(m+1)
 |[],_=>by simp[dZ]
 |[x],h=>by have:=h x (by simp); simp only[dZ,List.length_singleton]; omega
 |x::y::r,h=>by
  have h1:=h x (by simp)
  have h2:=y5 (b:=b) (ws:=y::r) (fun w hw=>h w (List.mem_cons_of_mem _ hw))
  simp only[dZ,List.length_append,List.length_cons] at h2 ⊢
  have:(r.length+1+1)*(m+1)=(r.length+1)*(m+1)+(m+1):=Nat.succ_mul ..
  omega
theorem RI{b c:UInt8}(hbc:c≠b): ∀ {ws:List Str},(∀ w∈ws,c ∉ w)->c ∉ dZ b ws
 |[],_=>by simp[dZ]
 |[x],h=>by simpa [dZ] using h x (by simp)
 |x::y::r,h=>by
  have h1:=h x (by simp)
  have h2:=RI hbc (ws:=y::r) (fun w hw=>h w (List.mem_cons_of_mem _ hw))
  simp only[dZ,List.mem_append,List.mem_cons,not_or]
  exact⟨h1,hbc,h2⟩
theorem RJ{names:List Str}{l:List Int}(h:mX names)(hl:uK names.length l){c:UInt8}(h1:nameB c.toNat=false)(h2:c≠124):c ∉ sQ names l :=
 RI h2 fun w hw=>by
  obtain⟨x,hx,rfl⟩:=List.mem_map.1 hw
  have:=hl.1 x hx
  rw[getD_in (by omega)]; exact h.no h1 _ (List.getElem_mem _)
def pY:Str:=[118,97,108,117,101,61]
def rD:Str:=[115,111,109,101,61]
def Em:Str:=[97,108,108]
def uP(p:aS)(k:Clause):List Str :=
 k.each.map (sQ p.states)++((bif decide (0<k.values.length) then [pY++sQ p.values k.values] else [])++(bif decide (0<k.some.length) then [rD++sQ p.states k.some] else []))
def fmtS(p:aS)(k:Clause):Str:=dZ 32 (Em::uP p k)
def og(s h:Str):Bool:=decide (h.length<=s.length)&&(s.take h.length==h)
def stepW(p:aS)(k:Clause)(w:Str):Clause×Bool :=
 bif og w pY then(match ixs p.values (w.drop 6) with|some l=>({k with values:=l},true)|none=>({k with values:=[]},false)) else
 bif og w rD then(match ixs p.states (w.drop 5) with|some l=>({k with some:=l},true)|none=>({k with some:=[]},false)) else
 match ixs p.states w with|some l=>({k with each:=k.each++[l]},true)|none=>(k,false)
def uQ(p:aS):Clause->Bool->List Str->Clause×Bool
 |k,ok,[]=>(k,ok)
 |k,ok,w::ws=>uQ p (stepW p k w).1 (ok&&(stepW p k w).2) ws
def D5:Clause:=⟨[],[],[]⟩
def qM(p:aS)(s:Str):Clause×Bool:=uQ p D5 true ((aG 32 s).drop 1)
def qL(p:aS)(s:Str):Int :=
 bif tC p !=0 then tC p else bif decide (4000<s.length) then 4 else
 bif !((qM p s).2&&(nT p (qM p s).1==0)&&(fmtS p (qM p s).1==s)) then 3 else 0
def nY(p:aS)(s:Str):Clause:=bif qL p s==0 then(qM p s).1 else D5
theorem WJ{w h:Str}{c:UInt8}(hc:c∈h)(hw:c ∉ w):og w h=false:=by
 unfold og
 cases e:w.take h.length==h with
 |false=>simp
 |true =>
  have:=beq_iff_eq.1 e
  rw[<- this] at hc
  exact absurd (List.mem_of_mem_take hc) hw
theorem RN{h s:Str}:og (h++s) h=true:=by simp[og]
theorem NI{p:aS}(h:mX p.states): ∀ {l:List (List Int)} {k:Clause} {ws:List Str},(∀ s∈l,uK p.states.length s/\s≠[])->uQ p k true (l.map (sQ p.states)++ws)=uQ p {k with each:=k.each++l} true ws
 |[],k,ws,_=>by simp
 |s::l,k,ws,hl=>by
  obtain⟨h1,h2⟩:=hl s (by simp)
  have e1:og (sQ p.states s) pY=false:=WJ (c:=61) (by decide) (RJ h h1 (by decide) (by decide))
  have e2:og (sQ p.states s) rD=false:=WJ (c:=61) (by decide) (RJ h h1 (by decide) (by decide))
  have e3:stepW p k (sQ p.states s)=({k with each:=k.each++[s]},true):=by
   unfold stepW; rw[e1,e2,Qg h h1 h2]; rfl
  rw[List.map_cons,List.cons_append,uQ,e3]
  show uQ p {k with each:=k.each++[s]} true _=_
  rw[NI h (fun s hs=>hl s (List.mem_cons_of_mem _ hs))]
  simp
theorem Uh{p:aS}{k:Clause}(hs:mX p.states)(hv:mX p.values)(hk:Ak p.states.length p.values.length k):uQ p D5 true (uP p k)=(k,true):=by
 obtain⟨each,values,eY⟩:=k
 unfold uP
 rw[NI hs hk.each]
 simp only[D5,List.nil_append]
 have e1: ∀ {k':Clause} {ws:List Str},k'.values=[]->uQ p k' true ((bif decide (0<values.length) then [pY++sQ p.values values] else [])++ws)=uQ p {k' with values:=values} true ws:=by
  intro k' ws h0
  cases values with
  |nil=>obtain⟨a,b,c⟩:=k'; simp only at h0; subst h0; rfl
  |cons a r =>
   have:stepW p k' (pY++sQ p.values (a::r))=({k' with values:=a::r},true):=by
    unfold stepW
    rw[RN,show(pY++sQ p.values (a::r)).drop 6=sQ p.values (a::r) from rfl,Qg hv hk.values (by simp)]; rfl
   rw[show(bif decide (0<(a::r).length) then [pY++sQ p.values (a::r)] else [])=[pY++sQ p.values (a::r)] by simp]
   rw[List.singleton_append,uQ,this]; rfl
 have e2: ∀ {k':Clause},k'.some=[]->uQ p k' true (bif decide (0<eY.length) then [rD++sQ p.states eY] else [])=({k' with some:=eY},true):=by
  intro k' h0
  cases eY with
  |nil=>obtain⟨a,b,c⟩:=k'; simp only at h0; subst h0; rfl
  |cons a r =>
   have hv':og (rD++sQ p.states (a::r)) pY=false:=by
    unfold og
    cases e:(rD++sQ p.states (a::r)).take pY.length==pY with
    |false=>simp
    |true=>have:=congrArg (fun l=>l[0]?) (beq_iff_eq.1 e); simp[rD,pY] at this
   have:stepW p k' (rD++sQ p.states (a::r))=({k' with some:=a::r},true):=by
    unfold stepW
    rw[hv',RN,show(rD++sQ p.states (a::r)).drop 5=sQ p.states (a::r) from rfl,Qg hs hk.some (by simp)]; rfl
   rw[show(bif decide (0<(a::r).length) then [rD++sQ p.states (a::r)] else [])=[rD++sQ p.states (a::r)] by simp]
   rw[uQ,this]; rfl
 rw[e1 rfl,e2 rfl]
theorem WL{p:aS}{k:Clause}(hs:mX p.states)(hv:mX p.values)(hk:Ak p.states.length p.values.length k): ∀ w∈Em::uP p k,(32:UInt8) ∉ w:=by
 have g: ∀ {l},uK p.states.length l->(32:UInt8) ∉ sQ p.states l:=fun h=>RJ hs h (by decide) (by decide)
 intro w hw
 simp only[uP,List.mem_cons,List.mem_append,List.mem_map] at hw
 rcases hw with rfl|⟨s,h1,rfl⟩|hw|hw
 ·decide
 ·exact g (hk.each s h1).1
 ·cases e:decide (0<k.values.length) with
  |false=>rw[e] at hw; cases hw
  |true =>
   rw[e] at hw
   simp only[cond_true,List.mem_singleton] at hw; subst hw
   simp only[List.mem_append,not_or]
   exact⟨by decide,RJ hv hk.values (by decide) (by decide)⟩
 ·cases e:decide (0<k.some.length) with
  |false=>rw[e] at hw; cases hw
  |true =>
   rw[e] at hw
   simp only[cond_true,List.mem_singleton] at hw; subst hw
   simp only[List.mem_append,not_or]
   exact⟨by decide,g hk.some⟩
theorem sS{names:List Str}{l:List Int}(h:mX names)(hl:uK names.length l)(h6:names.length<=6):(sQ names l).length<=78:=by
 have h1:(sQ names l).length<=l.length*(12+1):=by
  unfold sQ
  refine Nat.le_trans (y5 (m:=12) fun w hw=>?_) (by simp)
  obtain⟨x,hx,rfl⟩:=List.mem_map.1 hw
  have:=hl.1 x hx
  rw[getD_in (by omega)]; exact h.sz _ (List.getElem_mem _)
 have:=hl.len
 omega
theorem Rt{p:aS}{k:Clause}(hs:mX p.states)(hv:mX p.values)(hk:Ak p.states.length p.values.length k)(h6:p.states.length<=6)(h3:p.values.length<=3):(fmtS p k).length<=600:=by
 have h1: ∀ w∈Em::uP p k,w.length<=90:=by
  intro w hw
  simp only[uP,List.mem_cons,List.mem_append,List.mem_map] at hw
  rcases hw with rfl|⟨s,h1,rfl⟩|hw|hw
  ·decide
  ·have:=sS hs (hk.each s h1).1 h6; omega
  ·cases e:decide (0<k.values.length) with
   |false=>rw[e] at hw; cases hw
   |true =>
    rw[e] at hw
    simp only[cond_true,List.mem_singleton] at hw; subst hw
    have:=sS hv hk.values (by omega)
    rw[List.length_append]; simp only[pY,List.length_cons,List.length_nil]; omega
  ·cases e:decide (0<k.some.length) with
   |false=>rw[e] at hw; cases hw
   |true =>
    rw[e] at hw
    simp only[cond_true,List.mem_singleton] at hw; subst hw
    have:=sS hs hk.some h6
    rw[List.length_append]; simp only[rD,List.length_cons,List.length_nil]; omega
 have h2:(Em::uP p k).length<=5:=by
  have:=hk.two
  simp only[uP,List.length_cons,List.length_append,List.length_map]
  cases decide (0<k.values.length)<;>cases decide (0<k.some.length)<;>simp only[cond_true,cond_false,List.length_nil,List.length_singleton]<;>omega
 have h4:=y5 (b:=32) h1
 unfold fmtS
 have:(Em::uP p k).length*(90+1)<=5*91:=Nat.mul_le_mul_right _ h2
 omega
theorem NJ{p:aS}{k:Clause}(hs:mX p.states)(hv:mX p.values)(hk:Ak p.states.length p.values.length k):qM p (fmtS p k)=(k,true):=by
 unfold qM fmtS
 rw[Hf (by simp) (WL hs hv hk),List.drop_one,List.tail_cons,Uh hs hv hk]
theorem YN{p:aS}{k:Clause}(hin:tC p=0)(hc:nT p k=0):qL p (fmtS p k)=0/\nY p (fmtS p k)=k:=by
 obtain⟨hs,hv⟩:=yS hin
 have hF:=Bc (uG hin)
 have hk:=MZ hc
 have h1:=Rt hs hv hk hF.states hF.values
 have h2:qL p (fmtS p k)=0:=by
  unfold qL
  rw[NJ hs hv hk,hin,hc]
  simp only[bne_self_eq_false,cond_false,decide_eq_false (show ¬ 4000<(fmtS p k).length by omega),beq_self_eq_true,Bool.and_self,Bool.not_true]
 refine⟨h2,?_⟩
 unfold nY
 rw[h2,NJ hs hv hk]; rfl
theorem S.HasPrefix(s h:Str):ak Tryz.prog 53 [.str s,.str h] (.bool (og s h)):=by
 refine ak.of Bd.gZ (by simp) rfl rfl ?_
 unfold og
 by_cases h0:h.length<=s.length
 ·conv=>whnf
  repeat(refine VC.mk (by first|exact id|exact fun h=>⟨h,h⟩|(intro h; simp_all; done)) ?_; conv=>whnf)
  exact au.bool (by simp)
 ·conv=>whnf
  repeat(refine VC.mk (by first|exact id|exact fun h=>⟨h,h⟩|(intro h; simp_all; done)) ?_; conv=>whnf)
  exact au.bool (by simp[h0])
theorem S.CutPrefix(s h:Str):ak Tryz.prog 34 [.str s,.str h] (.fH [.str (bif og s h then s.drop h.length else s),.bool (og s h)]):=by
 refine ak.of Bd.ig (by simp) rfl rfl ?_
 conv=>whnf
 refine ah.pure (S.HasPrefix s h) rfl ?_
 conv=>whnf
 cases hb:og s h with
 |false =>
  refine Fork.mk (fun _=>?_) (fun q=>absurd (q.symm.trans ((rfl:(!false)=true))) Bool.false_ne_true)
  conv=>whnf
  conv=>whnf
  exact au.eqv rfl
 |true =>
  have h0:h.length<=s.length:=by simp only[og,Bool.and_eq_true,decide_eq_true_eq] at hb; exact hb.1
  refine Fork.mk (fun q=>absurd (q.symm.trans ((rfl:(!true)=false))).symm Bool.false_ne_true) (fun _=>?_)
  conv=>whnf
  refine .mk (by omega) ?_
  conv=>whnf
  conv=>whnf
  exact au.eqv rfl
theorem S.strings_CutPrefix(s h:Str):ak Tryz.prog 18 [.str s,.str h] (.fH [.str (bif og s h then s.drop h.length else s),.bool (og s h)]):=by
 refine ak.of Bd.strings_CutPrefix (by simp) rfl rfl ?_
 conv=>whnf
 refine ah.pure (S.CutPrefix s h) rfl ?_
 conv=>whnf
 exact au.eqv rfl
theorem S.mY(s h:Str):ak Tryz.prog 38 [.str s,.str h] (.bool (og s h)):=by
 refine ak.of Bd.mY (by simp) rfl rfl ?_
 unfold og
 by_cases h0:h.length<=s.length
 ·conv=>whnf
  repeat(refine VC.mk (by first|exact id|exact fun h=>⟨h,h⟩|(intro h; simp_all; done)) ?_; conv=>whnf)
  exact au.bool (by simp)
 ·conv=>whnf
  repeat(refine VC.mk (by first|exact id|exact fun h=>⟨h,h⟩|(intro h; simp_all; done)) ?_; conv=>whnf)
  exact au.bool (by simp[h0])
theorem S.aa3(s:Str)(b:UInt8):ak Tryz.prog 51 [.str s,.str [b]] (.int (s.count b:Nat)):=by
 refine qO.KY (us:=[.string (bs s),.string ⟨#[b]⟩]) (u:=.int .i64 (s.count b:Nat)) Tryz.call51 fun w _=>?_
 have:Calls Tryz.prog 51 #[.string (bs s),.string ⟨#[b]⟩] w fun e w'=>e= .returned (.int .i64 (Lib.countByte (bs s).data.toList b))/\w'=w:=Any.strings_Count_one Tryz.laysCount (bs s) b w
 refine this.mono ?_
 rintro e w' ⟨rfl,rfl⟩
 refine⟨?_,Grew.refl _⟩
 simp[Lib.countByte,bs]
theorem S.aa4(s:Str)(b:UInt8):ak Tryz.prog 77 [.str s,.str [b]] (.int (Lib.indexByte s b)):=by
 refine qO.KY (us:=[.string (bs s),.string ⟨#[b]⟩]) (u:=.int .i64 (Lib.indexByte s b)) Tryz.call77 fun w _=>?_
 have:Calls Tryz.prog 77 #[.string (bs s),.string ⟨#[b]⟩] w fun e w'=>e= .returned (.int .i64 (Lib.indexByte (bs s).data.toList b))/\w'=w:=Any.stringslite_Index_one Tryz.laysIndex (bs s) b w
 refine this.mono ?_
 rintro e w' ⟨rfl,rfl⟩
 refine⟨?_,Grew.refl _⟩
 simp[bs]
theorem S.Hl(s:Str)(b:UInt8):ak Tryz.prog 52 [.str s,.str [b]] (.int (Lib.indexByte s b)):=by
 refine ak.of Bd.strings_Index (by simp) rfl rfl ?_
 conv=>whnf
 refine ah.pure (S.aa4 s b) rfl ?_
 conv=>whnf
 exact au.eqv rfl
def Y7(l:List Str):OV:=.row 9 0 (.strs l) []
def oh(l:List Str)(i:Nat):List Str:=l.take i++List.replicate (l.length-i) []
theorem Qh{l:List Str}:oh l 0=List.replicate l.length []:=by simp[oh]
theorem Ui{l:List Str}{i:Nat}(h:i<=l.length):(oh l i).length=l.length:=by simp[oh]; omega
theorem JK{l:List Str}{i:Nat}(h:i<l.length):(oh l i).set i (l.getD i [])=oh l (i+1):=by
 obtain⟨n,hn⟩: ∃ n,l.length-i=n+1:=⟨l.length-i-1,by omega⟩
 have h2:l.length-(i+1)=n:=by omega
 unfold oh
 rw[hn,h2,List.replicate_succ,List.set_append_right _ _ (by simp; omega),List.length_take,show i-min i l.length=0 by omega,List.set_cons_zero,List.take_succ_eq_append_getElem h,getD_in h]
 simp only[List.append_assoc,List.singleton_append]
theorem Uj{l:List Str}:oh l l.length=l:=by simp[oh]
theorem join_step{b:UInt8}{l:List Str}{i:Nat}(h:i+1<l.length):dZ b (l.drop i)=l.getD i []++b::dZ b (l.drop (i+1)):=by
 rw[List.drop_eq_getElem_cons (by omega),List.drop_eq_getElem_cons h,getD_in (by omega)]; rfl
theorem JL{b:UInt8}: ∀ {l:List Str} {i:Nat},(dZ b (l.drop i)).length<=(dZ b l).length
 |[],i=>by simp
 |x::r,0=>by simp
 |x::r,i+1=>by
  have h1:(dZ b r).length<=(dZ b (x::r)).length:=by
   cases r with
   |nil=>simp[dZ]
   |cons y r=>simp only[dZ,List.length_append,List.length_cons]; omega
  exact Nat.le_trans (JL (l:=r) (i:=i)) h1
theorem WM{n:Nat}(h:0<n):(bif isZero (.int n) then some Rw.nil else Tz (n:Int).toNat (T.lit (Value.string (bs []))))=some (.strs (List.replicate n [])):=by
 obtain⟨k,rfl⟩: ∃ k,n=k+1:=⟨n-1,by omega⟩
 rfl
theorem S.genSplit(s:Str)(b:UInt8)(hs:s.length<2^30):ak Tryz.prog 33 [.str s,.str [b],.int 0,.int (-1)] (.row 0 false (.strs (aG b s))):=by
 have hc:s.count b<=s.length:=List.count_le_length
 refine ak.of Bd.strings_genSplit (by simp) rfl rfl ?_
 conv=>whnf
 refine Fork.mk (fun q=>absurd (q.symm.trans ((rfl:((-1:Int)==0)=false))).symm Bool.false_ne_true) (fun _=>?_)
 conv=>whnf
 conv=>whnf
 refine Fork.mk (fun q=>absurd (q.symm.trans ((rfl:(([b]:Str)==(bs []).data.toList)=false))).symm Bool.false_ne_true) (fun _=>?_)
 conv=>whnf
 conv=>whnf
 refine Fork.mk (fun _=>?_) (fun q=>absurd (q.symm.trans ((rfl:decide ((-1:Int)<0)=true))) Bool.false_ne_true)
 conv=>whnf
 conv=>whnf
 refine ah.pure (S.aa3 s b) rfl ?_
 conv=>whnf
 repeat(refine VC.mk (by simp only[okI] at *; first|omega|(simp_all; done)|(simp_all; omega)) ?_; conv=>whnf)
 have hmin:min ((s.count b:Nat)+1:Int) ((s.length:Int)+1)=((s.count b+1:Nat):Int):=by omega
 rw[hmin,WM (by omega)]
 conv=>whnf
 repeat(refine VC.mk (by first|(omega)|(simp only[okI] at *; first|omega|(simp_all; done)|(simp_all; omega))) ?_; conv=>whnf)
 refine aQ.objs 1 [1,2,3] (fun i:Nat=>[(0,.str (dZ b ((aG b s).drop i))),(10,.int i),(9,.own 0)]) (fun i=>[(0,Y7 (oh (aG b s) i))]) (fun i=>i<=s.count b) (fun i=>s.count b-i) 0 [19] rfl (by decide) (fun _=>rfl) (Nat.zero_le _) ?_ ?_ ?_
 ·refine⟨⟨_,rfl,.eq ?_⟩,⟨_,rfl,.eq rfl⟩,⟨_,rfl,.eq rfl⟩,trivial⟩
  rw[List.drop_zero,Hg]; rfl
 ·refine⟨⟨rfl,nofun,rfl,rfl,rfl,_,rfl,rfl,rfl,dD.of_eq ?_⟩,trivial⟩
  rw[Qh,rU]; rfl
 conv=>whnf
 refine⟨(sR rfl),rfl,?_⟩
 rintro i hi
 have hl:=rU (b:=b) (s:=s)
 have hf:=Ui (l:=aG b s) (i:=i) (by omega)
 conv=>whnf
 refine⟨fun h3=>?_,fun h3=>?_⟩
 ·have hi':i<s.count b:=by simpa using h3
  have hr:dZ b ((aG b s).drop i)=(aG b s).getD i []++b::dZ b ((aG b s).drop (i+1)):=join_step (by omega)
  have hw:b ∉ (aG b s).getD i []:=by rw[getD_in (by omega)]; exact WI _ (List.getElem_mem _)
  conv=>whnf
  refine ah.pure (S.Hl (dZ b ((aG b s).drop i)) b) rfl ?_
  conv=>whnf
  rw[hr,aaq hw]
  have hsz:=JL (b:=b) (l:=aG b s) (i:=i)
  rw[Hg,hr] at hsz
  generalize hww:(aG b s).getD i []=w at *
  conv=>whnf
  refine Fork.mk (fun q=>absurd (q.symm.trans ((decide_eq_false (by omega):decide ((w.length:Int)<0)=false))).symm Bool.false_ne_true) (fun _=>?_)
  conv=>whnf
  repeat(refine VC.mk (by first|(simp only[List.length_append]; omega)|(simp only[okI,Rw.rng] at *; first|omega|(simp_all; done)|(simp_all; omega))) ?_; conv=>whnf)
  simp only[List.length_append,List.length_cons] at hsz
  conv=>whnf
  repeat(refine VC.mk (by first|((simp only[List.length_cons,List.length_nil,List.length_append]; omega))|(simp only[okI] at *; first|omega|(simp_all; done)|(simp_all; omega))) ?_; conv=>whnf)
  have ht:(w++b::dZ b ((aG b s).drop (i+1))).take ((w.length:Int)+0).toNat=w:=by simp
  have hd:(w++b::dZ b ((aG b s).drop (i+1))).drop ((w.length:Int)+([b]:Str).length).toNat=dZ b ((aG b s).drop (i+1)):=by
   rw[show((w.length:Int)+([b]:Str).length).toNat=w.length+1 by simp]; simp
  refine⟨i+1,[0],by omega,by omega,⟨⟨_,rfl,.eq ?_⟩,⟨_,rfl,.eq rfl⟩,⟨_,rfl,.eq rfl⟩,trivial⟩,(sR rfl),⟨rfl,nofun,rfl,rfl,rfl,_,rfl,rfl,rfl,dD.of_eq ?_⟩,trivial⟩
  ·rw[hd]; rfl
  ·rw[ht,<- hww,Int.toNat_natCast,JK (by omega)]; rfl
 ·have hi':i=s.count b:=by have:=of_decide_eq_false h3; omega
  have hr:dZ b ((aG b s).drop i)=(aG b s).getD i []:=by
   rw[List.drop_eq_getElem_cons (by omega),List.drop_eq_nil_of_le (by omega),getD_in (by omega)]; rfl
  conv=>whnf
  repeat(refine VC.mk (by simp only[okI,Rw.rng] at *; first|omega|(simp_all; done)|(simp_all; omega)) ?_; conv=>whnf)
  have hset:(oh (aG b s) i).set (i:Int).toNat (dZ b ((aG b s).drop i))=aG b s:=by
   rw[hr,Int.toNat_natCast,JK (by omega),show i+1=(aG b s).length by omega,Uj]
  rw[hset]
  conv=>whnf
  refine .mk (by(simp only[Rw.oK]; omega)) ?_
  conv=>whnf
  have he:=aar (h:=(0,some (OV.row 9 0 (Rw.strs (aG b s)) []))::KZ [(0,Y7 (oh (aG b s) i))]) (Z:=fun _=>True) (j:=0) (ty:=9) (l:=aG b s) (i:=((i:Int)+1).toNat) trivial rfl (by omega)
  rw[List.take_of_length_le (by omega)] at he
  exact⟨he⟩
theorem S.WO(s:Str)(b:UInt8)(hs:s.length<2^30):ak Tryz.prog 17 [.str s,.str [b]] (.row 0 false (.strs (aG b s))):=by
 refine ak.of Bd.strings_Split (by simp) rfl rfl ?_
 conv=>whnf
 refine ah.pure (S.genSplit s b hs) rfl ?_
 conv=>whnf
 exact au.eqv rfl
end Go.Proofs.YtbigdcimbhgjbaaGreatDoor
namespace Go.Proofs.YtbigdcimbhgjbaaGreatDoor
open Go.Ab Go.Proofs Go.Shelf Go.RowKit
set_option maxRecDepth 100000
theorem WQ:Builder.Extra Tryz.prog Tryz.laysJoin_ren:= {
 sizeBuilder:=by kernel_rfl
 liesBuilder:=by kernel_rfl
 t5:=Tryz.underlying5
 a5:=Tryz.isAgg5
 z5:=Tryz.sizeOf5
 v5:=Tryz.zeroValue5
 infoByte:=by kernel_rfl
 cellsByte:=by kernel_rfl
 sizeByte:=by kernel_rfl
 neB5:=by decide}
theorem S.strings_Join(xs:List Str)(b:UInt8)(f:Bool)(hn:xs.length<2^30)(hl:(dZ b xs).length<=140737488355328):ak Tryz.prog 30 [.row 0 f (.strs xs),.str [b]] (.str (dZ b xs)):=by
 refine qO.aa2 (ts:=[.sl 0 f (xs.map eS),.lit (.string (bs [b]))]) (u:=.string (bs (dZ b xs))) Tryz.call30 (by simp only[T.bZ,T.free,Bool.and_true]) fun E vs h hS=>?_
 simp only[bK] at h
 obtain⟨v,r,rfl,h1,v',r',rfl,h2,h3⟩:=h
 simp only[bD] at h3; subst h3
 rw[aA rfl] at h1
 simp only[aJ] at h1
 obtain⟨a,c,h4,hc,_,h5⟩:=h1
 have hv':v'= .string (bs [b]):=aK.1 h2
 have hv:v= .slice a xs.length c:=by simpa using h4
 subst hv hv'
 have hc':xs.length<=c:=by simpa using hc
 have hys:(xs.map bs).map (·.data.toList)=xs:=by simp[bs,Function.comp_def]
 have hj:Lib.join ((xs.map bs).map (·.data.toList)) (bs [b]).data.toList=dZ b xs:=by rw[hys]; exact Nz
 rcases h5 with h5|⟨bk,o,cur,e,m,rfl,hs,hcell,_,hrows⟩
 ·have:xs=[]:=by simpa using h5
  subst this
  have:Calls Tryz.prog 30 #[.slice a 0 c,.string (bs [b])] E.w fun e w'=>e= .returned (.string ⟨#[]⟩)/\w'=E.w:=Any.strings_Join_none Tryz.laysJoin WQ a c (bs [b]) E.w
  refine this.mono ?_
  rintro e w' ⟨rfl,rfl⟩
  exact⟨rfl,Below.refl _ _⟩
 ·have:Calls Tryz.prog 30 #[.slice (some ⟨bk,o,none⟩) (xs.map bs).length c,.string (bs [b])] E.w fun e w'=>e= .returned (.string ⟨(Lib.join ((xs.map bs).map (·.data.toList)) (bs [b]).data.toList).toArray⟩)/\Below E.w.heap.size E.w w' :=
   Any.strings_Join Tryz.laysJoin WQ bk o c (xs.map bs) (bs [b]) E.w (fun j x hx=>by
    have:=NC hrows j x hx
    rw[Lib.cell_of_heap hcell]
    simpa using this) (hS _ hs) (by simp; omega) (by simpa using hc') (by rw[hj]; exact hl)
  rw[hj,List.length_map] at this
  exact this
end Go.Proofs.YtbigdcimbhgjbaaGreatDoor
