/-
 The statement of familychecklaw08.InvariantTexts, from the contract of the law's call.
-/
import Derived.Test.YtbigdcimbhgjbaaGreatDoorCards
import Derived.Test.YtbigdcimbhgjbaaGreatDoorTie
import Derived.ProofKit
import Derived.Test.YtbigdcimbhgjbaaGreatDoorTa
import Derived.Test.YtbigdcimbhgjbaaGreatDoorTb
import Derived.Test.YtbigdcimbhgjbaaGreatDoorBe
import Derived.Test.YtbigdcimbhgjbaaGreatDoorLg
namespace Go.Proofs.YtbigdcimbhgjbaaGreatDoor
open Go.Ab Go.Proofs Go.ChangeShapes Go.WideShapes Go.ChangeAt Go.RowKit
set_option maxRecDepth 100000
theorem own:ownKnob Tryz.prog.godebug=none:=by kernel_rfl
theorem laidOut:laidOutB Tryz.prog=true:=Tf
theorem gTab:Tryz.prog.globalNamed "strings.asciiSpace" = some 3:=by kernel_rfl
theorem Yt{H:Type}{enc:TypeId×Value->H}{P:Program}{w:World}{base:Nat}{spare held}: ∀ {ts:List TypeId} {vs:List Value} {ds:List (DataW H)} {ps:List MemPlace},DataW.TrodAll enc P w base spare held ts vs ds ps->ds.length=ts.length:=by
 intro ts
 induction ts with
 |nil=>intro vs ds ps h; obtain⟨_,rfl,_⟩:=trodAll_nil h; rfl
 |cons t r ih =>
  intro vs ds ps h
  obtain⟨_,_,_,_,_,_,_,rfl,_,_,h2⟩:=trodAll_cons h
  simp[ih h2]
theorem table{W:World}(h:laidMetH Tryz.prog Rows.invariantTextsUptoRow.laid W):Lib.TabIs Tryz.prog W "strings.asciiSpace" .u8 Lib.asciiSpaceTab :=
 Lib.tabIs_of_head (rest:=[("unicode/utf8.first",Rows.laid_unicode_utf8_first)]) (e:=5) (t:=179) (n:=256) gTab (by kernel_rfl) (by kernel_rfl) (by kernel_rfl) (by kernel_rfl) (by kernel_rfl) (laidMet.tail (laidMet.tail h))
noncomputable def laidWorld(os:Os):World :=
 let N:=11
 let w0:=World.holding Tryz.prog os ⟨#[.cells ([9,13,1,32,133,101,160,5760,5600,8192,8202,1,8232,8233,1,8239,8287,48,12288,12288,1].map fun(z:Nat)=>Value.int .u16 (z:Int)).toArray 202,.cells #[.slice (some ⟨N,0,none⟩) 7 7,.slice none 0 0,.int .i64 2] 199],#[],[]⟩
 let put (h:List Obj) (g:Nat) (cs:Array Value):List Obj:=h.modify g fun
  | .cells _ t frozen=>.cells cs t frozen
  |o=>o
 let lits (d:DataW Unit):List Value:=match d with
  | .agg l=>l.map fun| .lit (.int k z)=>.int k z|_=>.nilFunc
  |_=>[]
 let h1:=put w0.heap.toList 3 (Lib.asciiSpaceTab.map fun z=>Value.int .u8 z).toArray
 let h2:=put h1 4 #[.pointer (some ⟨N+1,0,none⟩)]
 let h3:=put h2 1 (lits Rows.laid_unicode_utf8_first).toArray
 let h4:=put h3 2 (match (Rows.laid_unicode_utf8_acceptRanges:DataW Unit) with
  | .agg l=>(l.map lits).flatten
  |_=>[]).toArray
 {w0 with heap:=⟨h4⟩}
noncomputable abbrev Fj:Array Value:= #[.agg #[.string ByteArray.empty,.int .i64 0,.slice none 0 0,.slice none 0 0,.slice none 0 0,.int .i64 0,.slice none 0 0,.slice none 0 0,.slice none 0 0,.slice none 0 0],.agg #[.slice none 0 0,.slice none 0 0,.slice none 0 0],.string ByteArray.empty]
theorem row_mem{b n:Nat}{x:MemPlace}(h:x∈MemPlace.row ⟨b,0,none⟩ n):x.block=b:=by
 obtain⟨i,_,rfl⟩:=List.mem_map.1 h; rfl
theorem row_nodup{b n:Nat}:(MemPlace.row ⟨b,0,none⟩ n).Nodup:=by
 refine List.pairwise_map.2 (List.nodup_range.imp fun {i j} hij e=>hij ?_)
 simp only[MemPlace.cell.injEq,true_and] at e
 omega
theorem rows_nodup: ∀ {l:List (Nat×Nat)},(l.map (·.1)).Nodup->((l.map fun x=>MemPlace.row ⟨x.1,0,none⟩ x.2).flatten).Nodup/\ ∀ x∈(l.map fun x=>MemPlace.row ⟨x.1,0,none⟩ x.2).flatten,x.block∈l.map (·.1)
 |[],_=>⟨List.nodup_nil,fun x h=>by cases h⟩
 |(b,n)::l,h=>by
  rw[List.map_cons,List.nodup_cons] at h
  obtain⟨h1,h2⟩:=rows_nodup h.2
  rw[List.map_cons,List.flatten_cons]
  refine⟨List.nodup_append.2 ⟨row_nodup,h1,fun x hx y hy e=>?_⟩,fun x hx=>?_⟩
  ·subst e
   have:=h2 x hy
   rw[row_mem hx] at this; exact h.1 this
  ·rcases List.mem_append.1 hx with hx|hx
   ·rw[row_mem hx]; simp
   ·exact List.mem_cons_of_mem _ (h2 x hx)
def places:List MemPlace:=([(2,32),(4,1),(12,3),(11,21),(3,256),(1,256)].map fun x:Nat×Nat=>MemPlace.row ⟨x.1,0,none⟩ x.2).flatten
theorem Yu(os:Os):DataW.laidRun Tryz.prog ((laidWorld os).forCall (fun _ _=>0) ⟨#[],Fj,[]⟩).memory 10 (Rows.invariantTextsUptoRow.laid.map (·.1))=some (Rows.invariantTextsUptoRow.laid,places):=by kernel_rfl
theorem Vm(os:Os):laidRowsB Tryz.prog ((laidWorld os).forCall (fun _ _=>0) ⟨#[],Fj,[]⟩).memory places=true:=by kernel_rfl
theorem laid_met(os:Os):laidMet Tryz.prog Rows.invariantTextsUptoRow.laid ((laidWorld os).forCall (fun _ _=>0) ⟨#[],Fj,[]⟩).memory :=
 laidMet_of_run 10 (Yu os) (decide_eq_true (rows_nodup (by decide)).1) (Vm os)
theorem witness_row(os:Os){H:Type}(enc:TypeId×Value->H) :
  (Rows.OpenSpec.upto Rows.invariantTextsSpec).preRow enc Tryz.prog Tryz.f3 Rows.invariantTextsUptoRow.domain false Rows.invariantTextsUptoRow.laid ((laidWorld os).forCall (fun _ _=>0) ⟨#[],Fj,[]⟩).memory Fj:=by
 have hw:(DataW.whole enc Tryz.prog ((laidWorld os).forCall (fun _ _=>0) ⟨#[],Fj,[]⟩).memory Tryz.f3.params.toList Rows.invariantTextsSpec.vars false Fj.toList 8).map (fun x=>(x.1,x.2.1)) =
   some ([.agg [.lit (.string []),.lit (.int .i64 0),.nil,.nil,.nil,.lit (.int .i64 0),.nil,.nil,.nil,.nil],.agg [.nil,.nil,.nil],.lit (.string [])],[]):=by kernel_rfl
 obtain⟨⟨x1,x2,x3⟩,hx,hx1⟩:=Option.map_eq_some_iff.1 hw
 simp only[Prod.mk.injEq] at hx1
 obtain⟨rfl,rfl⟩:=hx1
 exact OpenSpec.preRow_of_cond 8 hx (by kernel_rfl) (fun k hk=>by cases hk; kernel_rfl) (by kernel_rfl) (laid_met os)
theorem contract(_hsane:ak Tryz.prog 9 [] (.bool true)){H:Type}{ds:List (DataW H)}(hb:Rows.uptoBulkAll ds<=1048576)(hw:Sh.U3 [ER,xO,.str] ds):qO Tryz.prog 3 (Sh.args [ER,xO,.str] ds) (.bool true):=by
 obtain⟨d0,r0,rfl,h0,d1,r1,rfl,h1,d2,r2,rfl,h2,hz⟩:=hw
 simp only[Sh.U3] at hz; subst hz
 simp only[Rows.uptoBulkAll] at hb
 obtain⟨x0,e0,s0⟩:=aae (N:=1048576) h0 (by omega) (by omega)
 obtain⟨x1,e1,s1,_⟩:=Vk (N:=1048576) h1 (by omega) (by omega)
 obtain⟨x2,e2,s2,_⟩:=S9 (N:=1048576) h2 (by omega)
 simp only[Sh.args,e0,e1,e2]
 exact S.iF x0 x1 x2  s0 s1 (by omega)
theorem lifted(O7:ak Tryz.prog 9 [] (.bool true))(os:Os)(started:os.Started)(H:Type)(enc:TypeId×Value->H)(F:Stop.Interp) :
  ReturnsInHanded {} Tryz.checked os 3 .any ((Rows.OpenSpec.upto Rows.invariantTextsSpec).preRow enc Tryz.prog Tryz.f3 Rows.invariantTextsUptoRow.domain false Rows.invariantTextsUptoRow.laid) (((Rows.OpenSpec.upto Rows.invariantTextsSpec).at F).post enc Tryz.prog Tryz.f3 false true false false):=by
 refine returnsInHanded_of_row (C:=Tryz.checked) (s:=Rows.OpenSpec.upto Rows.invariantTextsSpec) own started (by kernel_rfl) Tryz.func3
  (witness_row_atRef (enc:=enc) (C:=Tryz.checked) false (laidWorld os) Fj rfl (by kernel_rfl) (by kernel_rfl) (by kernel_rfl) (witness_row os enc)) ?_
 intro W base args ds gs before hval hW _ hcond _ hL _ _
 have hgs:gs=[]:=by
  obtain⟨p,q,_,hV,_⟩:=hW
  cases gs with
  |nil=>rfl
  |cons _ _=>exact hV.elim
 have hb:Rows.uptoBulkAll ds<=1048576:=by
  have:=of_decide_eq_true (hcond _ rfl)
  rw[hgs,List.append_nil] at this; exact this
 obtain⟨p,q,hA,hV,_⟩:=id hW
 have hlen:ds.length=3:=by
  rw[Tryz.params3] at hA
  exact Yt hA
 obtain⟨d0,d1,d2,hds⟩: ∃ d0 d1 d2,ds=[d0,d1,d2]:=by
  rcases ds with _|⟨d0,_|⟨d1,_|⟨d2,_|⟨d3,r⟩⟩⟩⟩<;>simp at hlen
  exact⟨d0,d1,d2,rfl⟩
 refine X8 (Pv:=[ER,xO,.str]) (tb:=4) (s:=Rows.invariantTextsSpec) (U7 (table hL)) laidOut ?_ rfl (by kernel_rfl) (by kernel_rfl) ?_ (by kernel_rfl) hval hW (fun hw=>contract O7 hb hw)
 ·rw[Tryz.params3]
  intro t ht
  have:t=27\/t=30\/t=9:=by simpa using ht
  rcases this with rfl|rfl|rfl
  ·exact⟨by kernel_rfl,of_decide_eq_true (by kernel_rfl)⟩
  ·exact⟨by kernel_rfl,of_decide_eq_true (by kernel_rfl)⟩
  ·exact⟨by kernel_rfl,of_decide_eq_true (by kernel_rfl)⟩
 ·rw[hds]; rfl
theorem named:Tryz.prog.funcNamed "familycheck/familychecklaw08.InvariantTexts" = some 3:=by kernel_rfl
theorem jf1:(Rows.invariantTextsUptoRow.inPlace==Tryz.pinned.checked.prog.inPlace 3)=true:=by kernel_rfl
theorem jf2:(Rows.invariantTextsUptoRow.unfollowed==Tryz.pinned.checked.prog.unfollowed 3)=true:=by kernel_rfl
theorem jf3:(Rows.invariantTextsUptoRow.recurses==Tryz.pinned.checked.prog.recurses 3)=true:=by kernel_rfl
theorem jf4:(Rows.invariantTextsUptoRow.named==Tryz.pinned.checked.prog.varsNamed 3)=true:=by kernel_rfl
theorem goes:false=Rows.invariantTextsUptoRow.goesBy Tryz.pinned.checked.prog:=by kernel_rfl
theorem closed:joinedFacts Tryz.pinned.checked.prog 3 Tryz.f3 (Rows.OpenSpec.upto Rows.invariantTextsSpec).bare Rows.invariantTextsUptoRow=true :=
 Vl Tf Yn Yo Yp Yq Ym aaf aag aai jf1 jf2 jf3 jf4 (by kernel_rfl) (by kernel_rfl) (by kernel_rfl)
theorem said(O7:ak Tryz.prog 9 [] (.bool true)):Rows.InvariantTextsUptoSaid :=
 OpenClaim.holds_of_cond 3 Tryz.f3 rfl rfl rfl rfl rfl rfl rfl ⟨rfl,rfl,rfl,rfl,rfl⟩ rfl rfl rfl rfl rfl named Tryz.func3 closed
  (of_decide_eq_true (by kernel_rfl)) (by unfold Func.isWrapper; first|(rw[if_pos (by decide +kernel)]; kernel_rfl)|(rw[if_neg (by decide +kernel)]; exact⟨rfl,rfl⟩))
  (fun os started H enc _ F=>by rw[OpenClaim.pre_eq_preRow]; exact lifted O7 os started H enc F)
theorem plain(f:FuncId)(fn:Func)(hf:Tryz.pinned.checked.prog.funcNamed "familycheck/familychecklaw08.InvariantTexts" = some f) (hfn:Tryz.pinned.checked.prog.funcs[f]? =some fn) :
  false=Tryz.pinned.checked.prog.looks []/\ ∀ (j:Nat) t,fn.params[j]? =some t->Tryz.pinned.checked.prog.wantsStandIn t=false:=by
 obtain rfl:f=3:=Option.some.inj (named.symm.trans hf) |>.symm
 obtain rfl:fn=Tryz.f3:=(Option.some.inj (Tryz.func3.symm.trans hfn)).symm
 refine⟨Yr,fun j t ht=>?_⟩
 rw[Tryz.params3] at ht
 have:t=27\/t=30\/t=9:=by simpa using Array.mem_of_getElem? ht
 rcases this with rfl|rfl|rfl
 ·exact(show Tryz.prog.wantsStandIn 27=false by kernel_rfl)
 ·exact(show Tryz.prog.wantsStandIn 30=false by kernel_rfl)
 ·exact(show Tryz.prog.wantsStandIn 9=false by kernel_rfl)
theorem ach(O7:ak Tryz.prog 9 [] (.bool true)):Rows.InvariantTextsUptoCardSaid :=
 Claim7.holds_tied_plain_at .later [] _ _ _ _ (said O7) (fun _ h=>by cases h) (by kernel_rfl) (fun _ h=>by cases h) invariantTextsUpto_row_tie rfl ⟨rfl,rfl⟩ aah rfl plain goes
end Go.Proofs.YtbigdcimbhgjbaaGreatDoor
