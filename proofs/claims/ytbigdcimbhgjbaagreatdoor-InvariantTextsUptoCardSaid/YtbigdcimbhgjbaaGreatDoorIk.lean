/-
 Texts: the names of indexes; the parts of a text; the indexes of names. No condition.
-/
import Derived.Test.YtbigdcimbhgjbaaGreatDoorIj
import Derived.Test.YtbigdcimbhgjbaaGreatDoorIa
namespace Go.Proofs.YtbigdcimbhgjbaaGreatDoor
open Go.Ab Go.Proofs
set_option maxRecDepth 100000
theorem oL{b:UInt8}{x:Str}: ∀ {l:List Str},l≠[]->dZ b (l++[x])=dZ b l++b::x
 |[],h=>absurd rfl h
 |[y],_=>rfl
 |y::z::r,_=>by
  have:=oL (b:=b) (x:=x) (l:=z::r) (by simp)
  simp only[List.cons_append,dZ] at this ⊢
  rw[this]; simp
theorem S.fJ(l:List Int)(names:List Str)(f g:Bool)(h:mX names)(hl:uK names.length l)(h6:names.length<=6):ak Tryz.prog 12 [.row 0 f (.ints l),.row 0 g (.strs names)] (.str (sQ names l)):=by
 have hlen:=hl.len
 have hnm:=sS h hl h6
 refine ak.of Bd.fJ (by simp) rfl rfl ?_
 conv=>whnf
 refine aQ.nil 5 9 0 (by rfl) rfl rfl rfl ?_
 refine aQ.objs 1 [0,1,8,9] (fun i:Nat=>[(10,.int i),(5,.own 0)]) (fun i=>[(0,Y7 ((l.take i).map fun x=>names.getD x.toNat []))]) (fun i=>i<=l.length) (fun i=>l.length-i) 0 [5] rfl (by decide) (fun _=>rfl) (Nat.zero_le _) ?_ ?_ ?_
 ·exact(sR rfl)
 ·exact⟨rQ rfl rfl,trivial⟩
 conv=>whnf
 refine⟨(sR rfl),rfl,?_⟩
 rintro i hi
 conv=>whnf
 refine⟨fun h3=>?_,fun h3=>?_⟩
 ·have hi':i<l.length:=by simpa using h3
  have hx:=hl.1 (l.getD i 0) (by rw[getD_in hi']; exact List.getElem_mem _)
  conv=>whnf
  repeat(refine VC.mk (by first|(((show((List.map (fun x=>names.getD x.toNat []) (List.take i l)).length+(0+1))*16<=140737488355328/\(List.map (fun x=>names.getD x.toNat []) (List.take i l)).length+(0+1)<=1152921504606846976); simp only[List.length_map,List.length_take]; omega))|(simp only[okI,Rw.rng] at *; first|omega|(simp_all; done)|(simp_all; omega))) ?_; conv=>whnf)
  refine⟨i+1,[11],by omega,by omega,(sR rfl),(sR rfl),⟨rfl,nofun,rfl,rfl,rfl,_,rfl,rfl,rfl,dD.of_eq ?_⟩,trivial⟩
  rw[List.take_succ_eq_append_getElem hi',List.map_append,Int.toNat_natCast,getD_in hi']; rfl
 ·have hi':i=l.length:=by have: ¬ ((i:Int)<(l.length:Int)):=of_decide_eq_false h3; omega
  subst hi'
  conv=>whnf
  refine ah.lend (S.strings_Join ((l.take l.length).map fun x=>names.getD x.toNat []) 124 false (by simp; omega) (by rw[List.take_length]; exact Nat.le_trans hnm (by decide))) (And.intro (Rq trivial rfl) (And.intro (aB _) trivial)) rfl rfl ?_
  conv=>whnf
  exact au.str (by rw[List.take_length]; rfl)
theorem S.oW(l:List Int)(names:List Str)(f g:Bool)(h:mX names)(hl:uK names.length l)(h6:names.length<=6):ak Tryz.prog 15 [.row 0 g (.strs names),.row 0 f (.ints l)] (.str (sQ names l)):=by
 have hlen:=hl.len
 refine ak.of Bd.oW (by simp) rfl rfl ?_
 conv=>whnf
 refine aQ.same [0,1] (fun i:Nat=>[(6,.int i),(5,.str (dZ 124 ((l.take i).map fun x=>names.getD x.toNat [])))]) (fun i=>i<=l.length) (fun i=>l.length-i) 0 rfl (by decide) rfl (fun _=>rfl) (Nat.zero_le _) ⟨⟨_,rfl,rfl⟩,⟨_,rfl,rfl⟩,trivial⟩ ?_
 conv=>whnf
 refine⟨rfl,?_⟩
 rintro i hi
 conv=>whnf
 refine⟨fun h3=>?_,fun h3=>?_⟩
 ·have hi':i<l.length:=by simpa using h3
  have hx:=hl.1 (l.getD i 0) (by rw[getD_in hi']; exact List.getElem_mem _)
  have hst:(l.take (i+1)).map (fun x=>names.getD x.toNat [])=(l.take i).map (fun x=>names.getD x.toNat [])++[names.getD (l.getD i 0).toNat []]:=by
   rw[List.take_succ_eq_append_getElem hi',List.map_append,getD_in hi']; rfl
  have hjl:(dZ 124 ((l.take i).map fun x=>names.getD x.toNat [])).length<=78:=by
   refine Nat.le_trans (y5 (m:=12) fun w hw=>?_) (by simp; omega)
   obtain⟨x,hx,rfl⟩:=List.mem_map.1 hw
   have:=hl.1 x (List.mem_of_mem_take hx)
   rw[getD_in (by omega)]; exact h.sz _ (List.getElem_mem _)
  have acG:(names.getD (l.getD (i:Int).toNat 0).toNat []).length<=12:=by
   rw[Int.toNat_natCast,getD_in (by omega)]; exact h.sz _ (List.getElem_mem _)
  conv=>whnf
  refine⟨fun h4=>?_,fun h4=>?_⟩
  ·have h5:0<i:=by simpa using h4
   conv=>whnf
   repeat(refine VC.mk (by first|(first|exact Nat.le_trans (Nat.add_le_add hjl (Nat.le_refl 1)) (by decide)|(rw[List.length_append]; exact Nat.le_trans (Nat.add_le_add (Nat.add_le_add hjl (Nat.le_refl 1)) acG) (by decide)))|(simp only[okI,Rw.rng] at *; first|omega|(simp_all; done)|(simp_all; omega))) ?_; conv=>whnf)
   refine⟨i+1,by omega,by omega,⟨⟨_,rfl,rfl⟩,⟨_,rfl,?_⟩,trivial⟩,?_,rfl⟩
   ·rw[hst,oL (by simp; exact⟨by omega,fun e=>by rw[e] at hi'; cases hi'⟩),Int.toNat_natCast]
    exact congrArg (fun x=>(V.str x).aI) (List.append_assoc _ [124] _).symm
   ·repeat' (first|exact trivial|exact⟨_,rfl,rfl⟩|constructor)
  ·have h5:i=0:=by have: ¬ (0<(i:Int)):=of_decide_eq_false h4; omega
   subst h5
   conv=>whnf
   repeat(refine VC.mk (by first|(exact Nat.le_trans (Nat.add_le_add hjl acG) (by decide))|(simp only[okI,Rw.rng] at *; first|omega|(simp_all; done)|(simp_all; omega))) ?_; conv=>whnf)
   refine⟨1,by omega,by omega,⟨⟨_,rfl,rfl⟩,⟨_,rfl,?_⟩,trivial⟩,?_,rfl⟩
   ·rw[hst]; rfl
   ·repeat' (first|exact trivial|exact⟨_,rfl,rfl⟩|constructor)
 ·have hi':i=l.length:=by have: ¬ ((i:Int)<(l.length:Int)):=of_decide_eq_false h3; omega
  subst hi'
  conv=>whnf
  exact au.str (by rw[List.take_length]; rfl)
def yL(names:List Str)(s:Str):List Int:=(ixs names s).getD []
def xZ(names:List Str)(s:Str):Bool:=(ixs names s).isSome
theorem WR{names:List Str}{s:Str}(h:((aG 124 s).any fun w=>decide (iE w names 0<0))=false):yL names s=(aG 124 s).map (fun w=>iE w names 0)/\xZ names s=true:=by
 unfold yL xZ ixs; rw[h]; exact⟨rfl,rfl⟩
theorem aas{names:List Str}{s:Str}{w:Str}(hw:w∈aG 124 s)(h:iE w names 0<0):yL names s=[]/\xZ names s=false:=by
 have:((aG 124 s).any fun w=>decide (iE w names 0<0))=true:=List.any_eq_true.2 ⟨w,hw,decide_eq_true h⟩
 unfold yL xZ ixs; rw[this]; exact⟨rfl,rfl⟩
def IZ(names:List Str)(s:Str):V:=.fH [.row 0 false (.ints (yL names s)),.bool (xZ names s)]
theorem au.ixN{h:Hz}{b:Bool}:au (.fH [.row 0 false (.ints []),.bool b]) (.fH [.row 0 true .nil,.bool b]) h:=⟨⟨(au.acw (k:=0) (k':=0) (r:=.ints []) (h:=h) rfl).1,aB _,trivial⟩⟩
theorem au.ixY{h:Hz}{j:Nat}{l:List Int}{b:Bool}(q:h.get j=some (jV l)):au (.fH [.row 0 false (.ints l),.bool b]) (.fH [.own j,.bool b]) h:=⟨⟨Jq trivial q,aB _,trivial⟩⟩
theorem S.dI(s:Str)(names:List Str)(g:Bool)(hs:s.length<2^30)(hn:names.length<2^30):ak Tryz.prog 19 [.str s,.row 0 g (.strs names)] (IZ names s):=by
 have hl:=rU (b:=124) (s:=s)
 have hc:s.count 124<=s.length:=List.count_le_length
 refine ak.of Bd.dI (by simp) rfl rfl ?_
 conv=>whnf
 refine ah.pure (S.WO s 124 hs) rfl ?_
 conv=>whnf
 refine aQ.nil 6 3 0 (by rfl) rfl rfl rfl ?_
 refine aQ.objs 1 [1,11,12] (fun i:Nat=>[(13,.int i),(6,.own 0)]) (fun i=>[(0,jV (((aG 124 s).take i).map fun w=>iE w names 0))]) (fun i=>i<=(aG 124 s).length/\ ∀ w∈(aG 124 s).take i,¬ iE w names 0<0) (fun i=>(aG 124 s).length-i) 0 [7] rfl (by decide) (fun _=>rfl) ⟨Nat.zero_le _,by simp⟩ ?_ ?_ ?_
 ·exact(sR rfl)
 ·exact⟨rQ rfl rfl,trivial⟩
 conv=>whnf
 refine⟨(sR rfl),rfl,?_⟩
 rintro i ⟨hi,hall⟩
 conv=>whnf
 refine⟨fun h3=>?_,fun h3=>?_⟩
 ·have hi':i<(aG 124 s).length:=by simpa using h3
  have hmem:(aG 124 s).getD i []∈aG 124 s:=by rw[getD_in hi']; exact List.getElem_mem _
  conv=>whnf
  refine .mk (by simp only[Rw.rng] at *; first|omega|(simp_all; done)|(simp_all; omega)) ?_
  conv=>whnf
  refine ah.pure (S.slices_Index_string names ((aG 124 s).getD i []) g (by omega)) rfl ?_
  conv=>whnf
  conv=>whnf
  refine⟨fun h4=>?_,fun h4=>?_⟩
  ·have h5:iE ((aG 124 s).getD i []) names 0<0:=of_decide_eq_true h4
   obtain⟨e1,e2⟩:=aas hmem h5
   conv=>whnf
   rw[IZ,e1,e2]
   exact au.ixN
  ·have h5: ¬ iE ((aG 124 s).getD i []) names 0<0:=of_decide_eq_false h4
   conv=>whnf
   repeat(refine VC.mk (by first|(exact(by show((((aG 124 s).take i).map fun w=>iE w names 0).length+(0+1))*8<=140737488355328/\(((aG 124 s).take i).map fun w=>iE w names 0).length+(0+1)<=1152921504606846976; simp only[List.length_map,List.length_take]; omega))|(simp only[okI] at *; first|omega|(simp_all; done)|(simp_all; omega))) ?_; conv=>whnf)
   refine⟨i+1,[14],⟨by omega,fun w hw=>?_⟩,by omega,(sR rfl),(sR rfl),⟨rfl,nofun,rfl,rfl,rfl,_,rfl,rfl,rfl,dD.of_eq ?_⟩,trivial⟩
   ·rw[List.take_succ_eq_append_getElem hi'] at hw
    rcases List.mem_append.1 hw with hw|hw
    ·exact hall w hw
    ·rw[List.mem_singleton] at hw; subst hw; rwa [getD_in hi'] at h5
   ·rw[List.take_succ_eq_append_getElem hi',List.map_append,getD_in hi']; rfl
 ·have hi':i=(aG 124 s).length:=by have: ¬ ((i:Int)<((aG 124 s).length:Int)):=of_decide_eq_false h3; omega
  subst hi'
  rw[List.take_length] at hall
  obtain⟨e1,e2⟩:=WR (names:=names) (s:=s) (List.any_eq_false.2 fun w hw=>by simpa using hall w hw)
  conv=>whnf
  rw[IZ,e1,e2,List.take_length]
  exact au.ixY rfl
structure adK(b:UInt8)(s:Str)(x:Nat×Nat×List Str):Prop where
 le:x.1<=s.length+1
 len:x.2.2.length<=x.1
 at_:(x.1<=s.length/\x.2.1<=x.1/\aG b s=x.2.2++aG b (s.drop x.2.1)/\b ∉ (s.drop x.2.1).take (x.1-x.2.1))\/(x.1=s.length+1/\x.2.2=aG b s)
theorem S.tZ(s:Str)(b:UInt8)(hs:s.length<2^30):ak Tryz.prog 37 [.str s,.u8 b.toNat] (.row 0 false (.strs (aG b s))):=by
 refine ak.of Bd.tZ (by simp) rfl rfl ?_
 conv=>whnf
 refine aQ.nil 5 9 0 (by rfl) rfl rfl rfl ?_
 refine aQ.objs 1 [0,1] (fun x:Nat×Nat×List Str=>[(7,.int x.1),(6,.int x.2.1),(5,.own 0)]) (fun x=>[(0,Y7 x.2.2)]) (adK b s) (fun x=>s.length+1-x.1) (0,0,[]) [4] rfl (by decide) (fun _=>rfl) ⟨by simp,by simp,.inl ⟨by simp,by simp,by simp,by simp⟩⟩ ?_ ?_ ?_
 ·exact(sR rfl)
 ·exact⟨rQ rfl rfl,trivial⟩
 conv=>whnf
 refine⟨(sR rfl),rfl,?_⟩
 rintro⟨i,fr,out⟩ ⟨hle,hlen,hat⟩
 simp only at hle hlen hat
 conv=>whnf
 refine⟨fun h3=>?_,fun h3=>?_⟩
 ·have h3':i<=s.length:=by simpa using h3
  obtain⟨_,hfr,hcut,hno⟩:i<=s.length/\fr<=i/\aG b s=out++aG b (s.drop fr)/\b ∉ (s.drop fr).take (i-fr):=by
   rcases hat with h|⟨h,_⟩
   ·exact h
   ·omega
  have hsp:i<s.length->s.drop fr=(s.drop fr).take (i-fr)++s.getD i 0::s.drop (i+1):=fun hi=>by
   rw[getD_in hi]
   have h1:(s.drop fr).drop (i-fr)=s[i]::s.drop (i+1):=by
    rw[List.drop_drop,show fr+(i-fr)=i by omega,List.drop_eq_getElem_cons hi]
   rw[<- h1,List.take_append_drop]
  conv=>whnf
  repeat(refine VC.mk (by first|exact fun h=>⟨h,h⟩|(intro h; rw[h]; rfl)|(simp only[] at *; first|omega|(simp_all; done)|(simp_all; omega))) ?_; conv=>whnf)
  refine⟨fun h4=>?_,fun h4=>?_⟩
  ·have h5:i=s.length\/(i<s.length/\s.getD i 0=b):=by
    rcases Bool.or_eq_true_iff.1 h4 with h|h
    ·left; have:=beq_iff_eq.1 h; simp only at this; omega
    ·by_cases hi:i=s.length
     ·exact .inl hi
     ·right
      have h6:=beq_iff_eq.1 h
      simp only[Int.toNat_natCast] at h6
      exact⟨by omega,UInt8.toNat_inj.1 (by omega)⟩
   conv=>whnf
   repeat(refine VC.mk (by first|(first|(simp only; omega)|(show(out.length+(0+1))*16<=140737488355328/\out.length+(0+1)<=1152921504606846976; omega))|(simp only[okI] at *; first|omega|(simp_all; done)|(simp_all; omega))) ?_; conv=>whnf)
   refine⟨(i+1,i+1,out++[(s.drop fr).take (i-fr)]),[22],⟨by simp only; omega,by simp; omega,?_⟩,by simp only; omega,(sR rfl),(sR rfl),⟨rfl,nofun,rfl,rfl,rfl,_,rfl,rfl,rfl,dD.of_eq ?_⟩,trivial⟩
   ·rcases h5 with h5|⟨h5,h6⟩
    ·refine .inr ⟨by simp only; omega,?_⟩
     have hw:(s.drop fr).take (i-fr)=s.drop fr:=List.take_of_length_le (by simp; omega)
     simp only
     rw[hcut,hw]; rw[hw] at hno; rw[KX hno]
    ·refine .inl ⟨by simp only; omega,Nat.le_refl _,?_,by simp⟩
     have e:=hsp h5
     rw[h6] at e
     generalize (s.drop fr).take (i-fr)=w at *
     simp only
     rw[hcut,e,He hno]; simp
   ·have e:(s.drop fr).take (i-fr)=(s.take (i:Int).toNat).drop (fr:Int).toNat:=by rw[Int.toNat_natCast,Int.toNat_natCast,List.drop_take]
    rw[e]; rfl
  ·have h5:i<s.length/\s.getD i 0≠b:=by
    have h6:=Bool.or_eq_false_iff.1 h4
    have h7:=beq_eq_false_iff_ne.1 h6.1
    have h8:=beq_eq_false_iff_ne.1 h6.2
    simp only[Int.toNat_natCast] at h7 h8
    exact⟨by omega,fun e=>h8 (by rw[e])⟩
   conv=>whnf
   refine .mk (by simp only[okI] at *; first|omega|(simp_all; done)|(simp_all; omega)) ?_
   conv=>whnf
   refine⟨(i+1,fr,out),[0],⟨by simp only; omega,by simp only; omega,.inl ⟨by simp only; omega,by simp only; omega,hcut,?_⟩⟩,by simp only; omega,(sR rfl),(sR rfl),rQ rfl rfl,trivial⟩
   simp only
   rw[hsp h5.1,show i+1-fr=((s.drop fr).take (i-fr)).length+1 by simp; omega,List.take_length_add_append,List.take_succ_cons,List.take_zero]
   simp only[List.mem_append,List.mem_singleton,not_or]
   exact⟨hno,fun e=>h5.2 e.symm⟩
 ·have h3':i=s.length+1:=by have: ¬ ((i:Int)<=(s.length:Int)):=of_decide_eq_false h3; omega
  have ho:out=aG b s:=by
   rcases hat with ⟨h,_⟩|⟨_,h⟩
   ·omega
   ·exact h
  conv=>whnf
  rw[<- ho]
  exact⟨Rq trivial rfl⟩
theorem Uk{w:Str}{l:List Str}: ∀ {k:Nat},(∀ j,j<l.length->l.getD j []≠w)->iE w l k= -1:=by
 induction l with
 |nil=>intro k _; rfl
 |cons x r ih =>
  intro k h
  have h0:(w==x)=false:=beq_eq_false_iff_ne.2 fun e=>h 0 (by simp) (by simp[e])
  rw[iE,h0,cond_false]
  exact ih fun j hj=>by have:=h (j+1) (by simpa using hj); simpa using this
structure aa5(w:Str)(names:List Str)(y:Nat×Int):Prop where
 le:y.1<=names.length
 at_:(y.2= -1/\ ∀ j,j<y.1->names.getD j []≠w)\/ ∃ j,j<y.1/\y.2=(j:Int)/\names.getD j []=w
theorem aa5.done{w:Str}{names:List Str}{y:Nat×Int}(h:aa5 w names y)(hn:mX names)(hy:y.1=names.length):y.2=iE w names 0:=by
 rcases h.at_ with ⟨h1,h2⟩|⟨j,h1,h2,h3⟩
 ·rw[h1,Uk fun j hj=>h2 j (by omega)]
 ·rw[h2,<- h3,NH (by omega) fun i hi=>hn.dis i j hi (by omega)]; simp
theorem S.jm(s:Str)(names:List Str)(g:Bool)(hs:s.length<2^30)(hn:names.length<2^30)(h:mX names):ak Tryz.prog 39 [.row 0 g (.strs names),.str s] (IZ names s):=by
 have hl:=rU (b:=124) (s:=s)
 have hc:s.count 124<=s.length:=List.count_le_length
 refine ak.of Bd.jm (by simp) rfl rfl ?_
 conv=>whnf
 refine ah.pure (S.tZ s 124 hs) rfl ?_
 conv=>whnf
 refine aQ.nil 7 3 0 (by rfl) rfl rfl rfl ?_
 refine aQ.objs 1 [0,6] (fun i:Nat=>[(8,.int i),(7,.own 0)]) (fun i=>[(0,jV (((aG 124 s).take i).map fun w=>iE w names 0))]) (fun i=>i<=(aG 124 s).length/\ ∀ w∈(aG 124 s).take i,¬ iE w names 0<0) (fun i=>(aG 124 s).length-i) 0 [7] rfl (by decide) (fun _=>rfl) ⟨Nat.zero_le _,by simp⟩ ?_ ?_ ?_
 ·exact(sR rfl)
 ·exact⟨rQ rfl rfl,trivial⟩
 conv=>whnf
 refine⟨(sR rfl),rfl,?_⟩
 rintro i ⟨hi,hall⟩
 conv=>whnf
 refine⟨fun h3=>?_,fun h3=>?_⟩
 ·have hi':i<(aG 124 s).length:=by simpa using h3
  have hmem:(aG 124 s).getD i []∈aG 124 s:=by rw[getD_in hi']; exact List.getElem_mem _
  conv=>whnf
  refine aQ.same [0,6,7,8] (fun y:Nat×Int=>[(10,.int y.1),(9,.int y.2)]) (aa5 ((aG 124 s).getD i []) names) (fun y=>names.length-y.1) (0,-1) rfl (by decide) rfl (fun _=>rfl) ⟨Nat.zero_le _,.inl ⟨rfl,fun j hj=>absurd hj (Nat.not_lt_zero _)⟩⟩ ⟨⟨_,rfl,rfl⟩,⟨_,rfl,rfl⟩,trivial⟩ ?_
  conv=>whnf
  refine⟨rfl,?_⟩
  rintro⟨x,t⟩ hN
  have hx:=hN.le
  simp only at hx
  conv=>whnf
  refine⟨fun h4=>?_,fun h4=>?_⟩
  ·have hx':x<names.length:=by simpa using h4
   conv=>whnf
   repeat(refine VC.mk (by simp only[Rw.rng] at *; first|omega|(simp_all; done)|(simp_all; omega)) ?_; conv=>whnf)
   refine⟨fun h5=>?_,fun h5=>?_⟩
   ·have h6:names.getD x []=(aG 124 s).getD i []:=by simpa using beq_iff_eq.1 h5
    conv=>whnf
    refine .mk (by simp only[okI] at *; first|omega|(simp_all; done)|(simp_all; omega)) ?_
    conv=>whnf
    refine⟨(x+1,(x:Int)),⟨by simp only; omega,.inr ⟨x,by simp only; omega,rfl,h6⟩⟩,by simp only; omega,⟨⟨_,rfl,rfl⟩,⟨_,rfl,rfl⟩,trivial⟩,?_,rfl⟩
    repeat' (first|exact trivial|exact⟨_,rfl,rfl⟩|constructor)
   ·have h6:names.getD x []≠(aG 124 s).getD i []:=by simpa using beq_eq_false_iff_ne.1 h5
    conv=>whnf
    refine .mk (by simp only[okI] at *; first|omega|(simp_all; done)|(simp_all; omega)) ?_
    conv=>whnf
    refine⟨(x+1,t),⟨by simp only; omega,?_⟩,by simp only; omega,⟨⟨_,rfl,rfl⟩,⟨_,rfl,rfl⟩,trivial⟩,?_,rfl⟩
    ·rcases hN.at_ with ⟨e1,e2⟩|⟨j,e1,e2,e3⟩
     ·refine .inl ⟨e1,fun j hj=>?_⟩
      simp only at hj e2
      by_cases hjx:j=x
      ·subst hjx; exact h6
      ·exact e2 j (by omega)
     ·exact .inr ⟨j,by simp only at e1 ⊢; omega,e2,e3⟩
    ·repeat' (first|exact trivial|exact⟨_,rfl,rfl⟩|constructor)
  ·have hx':x=names.length:=by have: ¬ ((x:Int)<(names.length:Int)):=of_decide_eq_false h4; omega
   have ht:=hN.done h hx'
   simp only at ht
   subst ht
   conv=>whnf
   refine⟨fun h5=>?_,fun h5=>?_⟩
   ·have h5:iE ((aG 124 s).getD i []) names 0<0:=of_decide_eq_true h5
    obtain⟨e1,e2⟩:=aas hmem h5
    conv=>whnf
    rw[IZ,e1,e2]
    exact au.ixN
   ·have h5: ¬ iE ((aG 124 s).getD i []) names 0<0:=of_decide_eq_false h5
    conv=>whnf
    repeat(refine VC.mk (by first|(exact(by show((((aG 124 s).take i).map fun w=>iE w names 0).length+(0+1))*8<=140737488355328/\(((aG 124 s).take i).map fun w=>iE w names 0).length+(0+1)<=1152921504606846976; simp only[List.length_map,List.length_take]; omega))|(simp only[okI] at *; first|omega|(simp_all; done)|(simp_all; omega))) ?_; conv=>whnf)
    refine⟨i+1,[16],⟨by omega,fun w hw=>?_⟩,by omega,(sR rfl),(sR rfl),⟨rfl,nofun,rfl,rfl,rfl,_,rfl,rfl,rfl,dD.of_eq ?_⟩,trivial⟩
    ·rw[List.take_succ_eq_append_getElem hi'] at hw
     rcases List.mem_append.1 hw with hw|hw
     ·exact hall w hw
     ·rw[List.mem_singleton] at hw; subst hw; rwa [getD_in hi'] at h5
    ·rw[List.take_succ_eq_append_getElem hi',List.map_append,getD_in hi']; rfl
 ·have hi':i=(aG 124 s).length:=by have: ¬ ((i:Int)<((aG 124 s).length:Int)):=of_decide_eq_false h3; omega
  subst hi'
  rw[List.take_length] at hall
  obtain⟨e1,e2⟩:=WR (names:=names) (s:=s) (List.any_eq_false.2 fun w hw=>by simpa using hall w hw)
  conv=>whnf
  rw[IZ,e1,e2,List.take_length]
  exact au.ixY rfl
def Fp(p:aS)(k:Clause):Int:=bif tC p !=0 then tC p else nT p k
def CG(p:aS)(k:Clause):V:=.fH [.str (bif Fp p k !=0 then [] else fmtS p k),.int (Fp p k)]
theorem KI{p:aS}{k:Clause}(h:Fp p k=0):tC p=0/\nT p k=0:=by
 unfold Fp at h
 cases h1:tC p !=0 with
 |true=>rw[h1,cond_true] at h; rw[h] at h1; cases h1
 |false=>rw[h1,cond_false] at h; exact⟨by simpa using h1,h⟩
def NK(p:aS)(k:Clause)(i:Nat):Str:=dZ 32 (Em::(k.each.take i).map (sQ p.states))
def I4(p:aS)(k:Clause):Str:=bif decide (0<k.values.length) then NK p k k.each.length++(32::(pY++sQ p.values k.values)) else NK p k k.each.length
def YB(p:aS)(k:Clause):Str:=bif decide (0<k.some.length) then I4 p k++(32::(rD++sQ p.states k.some)) else I4 p k
theorem RP{p:aS}{k:Clause}{i:Nat}(h:i<k.each.length):NK p k (i+1)=NK p k i++(32::sQ p.states (k.each.getD i [])):=by
 unfold NK
 rw[List.take_succ_eq_append_getElem h,List.map_append,getD_in h,List.map_singleton,<- List.cons_append,oL (by simp)]
theorem y7{p:aS}{k:Clause}:YB p k=fmtS p k:=by
 unfold YB I4 fmtS uP NK
 rw[List.take_length]
 cases decide (0<k.values.length)<;>cases decide (0<k.some.length)<;>simp only[cond_true,cond_false,List.append_nil,List.nil_append]
 ·exact(oL (l:=Em::k.each.map (sQ p.states)) (by simp)).symm
 ·exact(oL (l:=Em::k.each.map (sQ p.states)) (by simp)).symm
 ·show _=dZ 32 (((Em::k.each.map (sQ p.states))++([pY++sQ p.values k.values]++[rD++sQ p.states k.some])))
  rw[<- List.append_assoc,oL (l:=(Em::k.each.map (sQ p.states))++[pY++sQ p.values k.values]) (by simp),oL (l:=Em::k.each.map (sQ p.states)) (by simp)]
theorem La{p:aS}{k:Clause}{i:Nat}(hs:mX p.states)(hk:Ak p.states.length p.values.length k)(h6:p.states.length<=6):(NK p k i).length<=240:=by
 have h1: ∀ w∈Em::(k.each.take i).map (sQ p.states),w.length<=78:=by
  intro w hw
  rcases List.mem_cons.1 hw with rfl|hw
  ·decide
  ·obtain⟨s,h1,rfl⟩:=List.mem_map.1 hw
   exact sS hs (hk.each s (List.mem_of_mem_take h1)).1 h6
 have h2:=y5 (b:=32) h1
 have h3:=hk.two
 unfold NK
 simp only[List.length_cons,List.length_map,List.length_take] at h2
 have:(min i k.each.length+1)*(78+1)<=3*79:=Nat.mul_le_mul_right _ (by omega)
 omega
theorem RQ{p:aS}{k:Clause}(hs:mX p.states)(hv:mX p.values)(hk:Ak p.states.length p.values.length k)(h6:p.states.length<=6)(h3:p.values.length<=3):(I4 p k).length<=400:=by
 have h1:=La (i:=k.each.length) hs hk h6
 have h2:=sS hv hk.values (by omega)
 unfold I4
 cases decide (0<k.values.length)<;>simp only[cond_true,cond_false,List.length_append,List.length_cons,pY,List.length_nil]<;>omega
theorem S.jo(p:aS)(k:Clause)(hp:dK p)(hk:nS k):ak Tryz.prog 5 [.dat (.eu p),.dat (.clause k)] (CG p k):=by
 have g1:=hk.each; have g2:=hk.values; have g3:=hk.some
 refine ak.of Bd.jo (by simp) rfl rfl ?_
 conv=>whnf
 refine ah.pure (S.lS p k hp hk) rfl ?_
 conv=>whnf
 rw[show(bif tC p !=0 then tC p else nT p k)=Fp p k from rfl]
 refine⟨fun h1=>?_,fun h1=>?_⟩
 ·conv=>whnf
  rw[CG,h1]
  exact au.eqv rfl
 have h0:Fp p k=0:=by simpa using h1
 obtain⟨hin,hcl⟩:=KI h0
 obtain⟨hs,hv⟩:=yS hin
 have hF:=Bc (uG hin)
 have hc:=MZ hcl
 have q1:=hF.states; have q2:=hF.values
 have z1:(bs [32]).data.toList.length=1:=rfl
 have z2:(bs [32,118,97,108,117,101,61]).data.toList.length=7:=rfl
 have z3:(bs [32,115,111,109,101,61]).data.toList.length=6:=rfl
 conv=>whnf
 refine aQ.same [0,1,2,3] (fun i:Nat=>[(8,.int i),(7,.str (NK p k i))]) (fun i=>i<=k.each.length) (fun i=>k.each.length-i) 0 rfl (by decide) rfl (fun _=>rfl) (Nat.zero_le _) ⟨⟨_,rfl,rfl⟩,⟨_,rfl,rfl⟩,trivial⟩ ?_
 conv=>whnf
 refine⟨rfl,?_⟩
 rintro i hi
 have hA:=La (i:=i) hs hc q1
 conv=>whnf
 refine⟨fun h3=>?_,fun h3=>?_⟩
 ·have hi':i<k.each.length:=by simpa using h3
  have he:=(hc.each (k.each.getD i []) (by rw[getD_in hi']; exact List.getElem_mem _)).1
  have hn:=sS hs he q1
  conv=>whnf
  refine .mk (by simp only[Rw.rng] at *; first|omega|(simp_all; done)|(simp_all; omega)) ?_
  conv=>whnf
  refine ah.pure (S.oW (k.each.getD i []) p.states false false hs he q1) rfl ?_
  conv=>whnf
  repeat(refine VC.mk (by first|(first|omega|(simp only[List.length_append]; omega))|(simp only[okI] at *; first|omega|(simp_all; done)|(simp_all; omega))) ?_; conv=>whnf)
  refine⟨i+1,by omega,by omega,⟨⟨_,rfl,rfl⟩,⟨_,rfl,?_⟩,trivial⟩,?_,rfl⟩
  ·rw[RP hi']; rfl
  ·repeat' (first|exact trivial|exact⟨_,rfl,rfl⟩|constructor)
 ·have hi':i=k.each.length:=by have: ¬ ((i:Int)<(k.each.length:Int)):=of_decide_eq_false h3; omega
  subst hi'
  have hnv:=sS hv hc.values (by omega)
  have hns:=sS hs hc.some q1
  have hB:=RQ hs hv hc q1 q2
  have eE:(bif Fp p k !=0 then [] else fmtS p k)=fmtS p k:=by rw[h1]; rfl
  conv=>whnf
  refine⟨fun h4=>?_,fun h4=>?_⟩
  ·have e1:decide (0<k.values.length)=true:=by simpa using h4
   have eB:I4 p k=NK p k k.each.length++(32::(pY++sQ p.values k.values)):=by unfold I4; rw[e1]; rfl
   conv=>whnf
   refine ah.pure (S.oW k.values p.values false false hv hc.values (by omega)) rfl ?_
   conv=>whnf
   repeat(refine VC.mk (by first|omega|(simp only[List.length_append]; omega)) ?_; conv=>whnf)
   refine⟨fun h5=>?_,fun h5=>?_⟩
   ·have e2:decide (0<k.some.length)=true:=by simpa using h5
    have eC:fmtS p k=I4 p k++(32::(rD++sQ p.states k.some)):=by rw[<- y7]; unfold YB; rw[e2]; rfl
    conv=>whnf
    refine ah.pure (S.oW k.some p.states false false hs hc.some q1) rfl ?_
    conv=>whnf
    repeat(refine VC.mk (by first|omega|(simp only[List.length_append]; omega)) ?_; conv=>whnf)
    rw[CG,eE,eC,eB,h0]
    exact au.eqv rfl
   ·have e2:decide (0<k.some.length)=false:=by simpa using h5
    have eC:fmtS p k=I4 p k:=by rw[<- y7]; unfold YB; rw[e2]; rfl
    conv=>whnf
    rw[CG,eE,eC,eB,h0]
    exact au.eqv rfl
  ·have e1:decide (0<k.values.length)=false:=by simpa using h4
   have eB:I4 p k=NK p k k.each.length:=by unfold I4; rw[e1]; rfl
   conv=>whnf
   refine⟨fun h5=>?_,fun h5=>?_⟩
   ·have e2:decide (0<k.some.length)=true:=by simpa using h5
    have eC:fmtS p k=I4 p k++(32::(rD++sQ p.states k.some)):=by rw[<- y7]; unfold YB; rw[e2]; rfl
    conv=>whnf
    refine ah.pure (S.oW k.some p.states false false hs hc.some q1) rfl ?_
    conv=>whnf
    repeat(refine VC.mk (by first|omega|(simp only[List.length_append]; omega)) ?_; conv=>whnf)
    rw[CG,eE,eC,eB,h0]
    exact au.eqv rfl
   ·have e2:decide (0<k.some.length)=false:=by simpa using h5
    have eC:fmtS p k=I4 p k:=by rw[<- y7]; unfold YB; rw[e2]; rfl
    conv=>whnf
    rw[CG,eE,eC,eB,h0]
    exact au.eqv rfl
theorem aat: ∀ {l:List UInt8},EW 0 (l.map fun b=>V.u8 b.toNat)=true
 |[]=>rfl
 |_::l=>aat (l:=l)
theorem aau{nx:Nat}: ∀ {l:List UInt8},T.Nr nx (V.aX (l.map fun b=>V.u8 b.toNat))=true
 |[]=>rfl
 |_::l=>aau (l:=l)
theorem WS: ∀ {l:List UInt8},V.bZ (l.map fun b=>V.u8 b.toNat)=true
 |[]=>rfl
 |_::l=>WS (l:=l)
theorem RS{nx:Nat}{l:List UInt8}:((KH l).good nx&&(KH l).Gx)=true:=by
 show((true&&EW 0 (l.map fun b=>V.u8 b.toNat)&&T.Nr nx (V.aX (l.map fun b=>V.u8 b.toNat))&&_)&&V.bZ (l.map fun b=>V.u8 b.toNat))=true
 rw[aat,aau,WS]; rfl
theorem S.bM(p:aS)(k:Clause)(hp:dK p)(hk:nS k):ak Tryz.prog 4 [.dat (.eu p),.dat (.clause k)] (CG p k):=by
 have g1:=hk.each; have g2:=hk.values; have g3:=hk.some
 refine ak.of Bd.bM (by simp) rfl rfl ?_
 conv=>whnf
 refine ah.pure (S.fB p k hp hk) rfl ?_
 conv=>whnf
 rw[show(bif tC p !=0 then tC p else nT p k)=Fp p k from rfl]
 refine⟨fun h1=>?_,fun h1=>?_⟩
 ·conv=>whnf
  rw[CG,h1]
  exact au.eqv rfl
 have h0:Fp p k=0:=by simpa using h1
 obtain⟨hin,hcl⟩:=KI h0
 obtain⟨hs,hv⟩:=yS hin
 have hF:=Bc (uG hin)
 have hc:=MZ hcl
 have q1:=hF.states; have q2:=hF.values
 have z1:(bs [32]).data.toList.length=1:=rfl
 have z2:(bs [32,118,97,108,117,101,61]).data.toList.length=7:=rfl
 have z3:(bs [32,115,111,109,101,61]).data.toList.length=6:=rfl
 have eE:(bif Fp p k !=0 then [] else fmtS p k)=fmtS p k:=by rw[h1]; rfl
 conv=>whnf
 refine ah.VJ rfl (by decide) ?_
 conv=>whnf
 refine aQ.AL 4 [2,3,18,19] (fun i:Nat=>[(20,.int i),(7,.ptr 2 0 0)]) (fun i=>[(0,.box 27 11 (.dat (.eu p))),(1,.box 30 4 (.dat (.clause k))),(2,VI 2 3),(3,KH (NK p k i))]) (fun i=>i<=k.each.length) (fun i=>k.each.length-i) 0 [0,1,10,11] rfl (by decide) (fun _=>rfl) (Nat.zero_le _) ?_ ?_ ?_
 ·exact(sR rfl)
 ·exact⟨iG rfl rfl,iG rfl rfl,vM rfl rfl rfl ⟨rfl,rfl⟩ (dD.of_eq rfl),okF rfl nofun rfl RS rfl ⟨rfl,rfl⟩ rfl,trivial⟩
 conv=>whnf
 refine⟨(sR rfl),rfl,?_⟩
 rintro i hi
 have hA:=La (i:=i) hs hc q1
 conv=>whnf
 refine⟨fun h3=>?_,fun h3=>?_⟩
 ·have hi':i<k.each.length:=by simpa using h3
  have he:=(hc.each (k.each.getD i []) (by rw[getD_in hi']; exact List.getElem_mem _)).1
  have hn:=sS hs he q1
  conv=>whnf
  refine .mk (by simp only[Rw.rng] at *; first|omega|(simp_all; done)|(simp_all; omega)) ?_
  conv=>whnf
  refine ah.pure (S.fJ (k.each.getD i []) p.states false false hs he q1) rfl ?_
  conv=>whnf
  refine .mk (by first|omega|(simp only[List.length_append]; omega)) ?_
  conv=>whnf
  refine ah.write rfl rfl (by rw[List.length_append]; omega) ?_
  conv=>whnf
  refine .mk (by simp only[okI] at *; first|omega|(simp_all; done)|(simp_all; omega)) ?_
  conv=>whnf
  refine⟨i+1,[0,1,2,13],by omega,by omega,(sR rfl),(sR rfl),iG rfl rfl,iG rfl rfl,vM rfl rfl rfl ⟨rfl,rfl⟩ (dD.of_eq rfl),okF rfl nofun rfl RS rfl ⟨rfl,rfl⟩ ?_,trivial⟩
  rw[RP hi']; rfl
 ·have hi':i=k.each.length:=by have: ¬ ((i:Int)<(k.each.length:Int)):=of_decide_eq_false h3; omega
  subst hi'
  have hnv:=sS hv hc.values (by omega)
  have hns:=sS hs hc.some q1
  have hB:=RQ hs hv hc q1 q2
  have nA:NK p k k.each.length≠[]:=fun e=>by have:=congrArg List.length e; unfold NK Em at this; cases hl:(k.each.take k.each.length).map (sQ p.states)<;>rw[hl] at this<;>simp[dZ] at this
  conv=>whnf
  refine⟨fun h4=>?_,fun h4=>?_⟩
  ·have e1:decide (0<k.values.length)=true:=by simpa using h4
   have eB:I4 p k=NK p k k.each.length++(32::(pY++sQ p.values k.values)):=by unfold I4; rw[e1]; rfl
   have eL:(I4 p k).length=(NK p k k.each.length).length+7+(sQ p.values k.values).length:=by rw[eB]; simp[pY]; omega
   conv=>whnf
   refine ah.pure (S.fJ k.values p.values false false hv hc.values (by omega)) rfl ?_
   conv=>whnf
   refine .mk (by first|omega|(simp only[List.length_append]; omega)) ?_
   conv=>whnf
   refine ah.write rfl rfl (by rw[List.length_append]; omega) ?_
   conv=>whnf
   refine⟨fun h5=>?_,fun h5=>?_⟩
   ·have e2:decide (0<k.some.length)=true:=by simpa using h5
    have eC:fmtS p k=I4 p k++(32::(rD++sQ p.states k.some)):=by rw[<- y7]; unfold YB; rw[e2]; rfl
    conv=>whnf
    refine ah.pure (S.fJ k.some p.states false false hs hc.some q1) rfl ?_
    conv=>whnf
    refine .mk (by first|omega|(simp only[List.length_append]; omega)) ?_
    conv=>whnf
    refine ah.write rfl rfl (by simp only[List.length_append]; omega) ?_
    conv=>whnf
    refine ah.string rfl rfl (by simp[nA]) ?_
    conv=>whnf
    rw[CG,eE,eC,eB,h0]
    exact au.eqv rfl
   ·have e2:decide (0<k.some.length)=false:=by simpa using h5
    have eC:fmtS p k=I4 p k:=by rw[<- y7]; unfold YB; rw[e2]; rfl
    conv=>whnf
    refine ah.string rfl rfl (by simp[nA]) ?_
    conv=>whnf
    rw[CG,eE,eC,eB,h0]
    exact au.eqv rfl
  ·have e1:decide (0<k.values.length)=false:=by simpa using h4
   have eB:I4 p k=NK p k k.each.length:=by unfold I4; rw[e1]; rfl
   conv=>whnf
   refine⟨fun h5=>?_,fun h5=>?_⟩
   ·have e2:decide (0<k.some.length)=true:=by simpa using h5
    have eC:fmtS p k=I4 p k++(32::(rD++sQ p.states k.some)):=by rw[<- y7]; unfold YB; rw[e2]; rfl
    conv=>whnf
    refine ah.pure (S.fJ k.some p.states false false hs hc.some q1) rfl ?_
    conv=>whnf
    refine .mk (by first|omega|(simp only[List.length_append]; omega)) ?_
    conv=>whnf
    refine ah.write rfl rfl (by simp only[List.length_append]; omega) ?_
    conv=>whnf
    refine ah.string rfl rfl (by simp[nA]) ?_
    conv=>whnf
    rw[CG,eE,eC,eB,h0]
    exact au.eqv rfl
   ·have e2:decide (0<k.some.length)=false:=by simpa using h5
    have eC:fmtS p k=I4 p k:=by rw[<- y7]; unfold YB; rw[e2]; rfl
    conv=>whnf
    refine ah.string rfl rfl nA ?_
    conv=>whnf
    rw[CG,eE,eC,eB,h0]
    exact au.eqv rfl
end Go.Proofs.YtbigdcimbhgjbaaGreatDoor
