/-
 The statement of familychecklaw09.FairSimulates, from the contract of the law's call.
-/
import Derived.Test.YtkomllaebngbfaaGreatDoorCards
import Derived.Test.YtkomllaebngbfaaGreatDoorTie
import Derived.ProofKit
import Derived.Test.YtkomllaebngbfaaGreatDoorTa
import Derived.Test.YtkomllaebngbfaaGreatDoorTb
import Derived.Test.YtkomllaebngbfaaGreatDoorBc
import Derived.Test.YtkomllaebngbfaaGreatDoorLg
namespace Go.Proofs.YtkomllaebngbfaaGreatDoor
open Go.Ab Go.Proofs Go.ChangeShapes Go.WideShapes Go.ChangeAt Go.RowKit
set_option maxRecDepth 100000
theorem own:ownKnob Tryz.prog.godebug=none:=by kernel_rfl
theorem laidOut:laidOutB Tryz.prog=true:=xB
theorem gTab:Tryz.prog.globalNamed "strings.asciiSpace" = some 0:=by kernel_rfl
theorem wC{H:Type}{enc:TypeId×Value->H}{P:Program}{w:World}{base:Nat}{spare held}: ∀ {ts:List TypeId} {vs:List Value} {ds:List (DataW H)} {ps:List MemPlace},DataW.TrodAll enc P w base spare held ts vs ds ps->ds.length=ts.length:=by
 intro ts
 induction ts with
 |nil=>intro vs ds ps h; obtain⟨_,rfl,_⟩:=trodAll_nil h; rfl
 |cons t r ih =>
  intro vs ds ps h
  obtain⟨_,_,_,_,_,_,_,rfl,_,_,h2⟩:=trodAll_cons h
  simp[ih h2]
theorem table{W:World}(h:laidMetH Tryz.prog Rows.fairSimulatesUptoRow.laid W):Lib.TabIs Tryz.prog W "strings.asciiSpace" .u8 Lib.asciiSpaceTab :=
 Lib.tabIs_of_head (rest:=[]) (e:=5) (t:=197) (n:=256) gTab (by kernel_rfl) (by kernel_rfl) (by kernel_rfl) (by kernel_rfl) (by kernel_rfl) (laidMet.tail h)
noncomputable def laidWorld(os:Os):World :=
 let N:=(World.settled Tryz.prog os).heap.size
 let w0:=World.holding Tryz.prog os ⟨#[.cells ([9,13,1,32,133,101,160,5760,5600,8192,8202,1,8232,8233,1,8239,8287,48,12288,12288,1].map fun(z:Nat)=>Value.int .u16 (z:Int)).toArray 220,.cells #[.slice (some ⟨N,0,none⟩) 7 7,.slice none 0 0,.int .i64 2] 217],#[],[]⟩
 let put (h:Array Obj) (g:Nat) (cs:Array Value):Array Obj:=h.modify g fun
  | .cells _ t frozen=>.cells cs t frozen
  |o=>o
 let h1:=put w0.heap 0 (Lib.asciiSpaceTab.map fun z=>Value.int .u8 z).toArray
 let h2:=put h1 1 #[.pointer (some ⟨N+1,0,none⟩)]
 {w0 with heap:=h2}
noncomputable abbrev lQ:Array Value:= #[.agg #[.string ByteArray.empty,.int .i64 0,.slice none 0 0,.slice none 0 0,.slice none 0 0,.int .i64 0,.slice none 0 0,.slice none 0 0,.slice none 0 0,.slice none 0 0],.int .i64 0,.agg #[.int .i64 0,.slice none 0 0]]
theorem laid_met(os:Os):laidMet Tryz.prog Rows.fairSimulatesUptoRow.laid ((laidWorld os).forCall (fun _ _=>0) ⟨#[],lQ,[]⟩).memory :=
 laidMet_of_run' 10 (by kernel_rfl) (by kernel_rfl)
theorem witness_row(os:Os){H:Type}(enc:TypeId×Value->H) :
  (Rows.OpenSpec.upto Rows.fairSimulatesSpec).preRow enc Tryz.prog Tryz.f11 Rows.fairSimulatesUptoRow.domain false Rows.fairSimulatesUptoRow.laid ((laidWorld os).forCall (fun _ _=>0) ⟨#[],lQ,[]⟩).memory lQ:=by
 have hw:(DataW.whole enc Tryz.prog ((laidWorld os).forCall (fun _ _=>0) ⟨#[],lQ,[]⟩).memory Tryz.f11.params.toList Rows.fairSimulatesSpec.vars false lQ.toList 8).map (fun x=>(x.1,x.2.1)) =
   some ([.agg [.lit (.string []),.lit (.int .i64 0),.nil,.nil,.nil,.lit (.int .i64 0),.nil,.nil,.nil,.nil],.lit (.int .i64 0),.agg [.lit (.int .i64 0),.nil]],[]):=by kernel_rfl
 obtain⟨⟨x1,x2,x3⟩,hx,hx1⟩:=Option.map_eq_some_iff.1 hw
 simp only[Prod.mk.injEq] at hx1
 obtain⟨rfl,rfl⟩:=hx1
 exact OpenSpec.preRow_of_cond 8 hx (by kernel_rfl) (fun k hk=>by cases hk; kernel_rfl) (by kernel_rfl) (laid_met os)
theorem contract(_Uk:aj Tryz.prog 19 [] (.bool true)){H:Type}{ds:List (DataW H)}(hb:Rows.uptoBulkAll ds<=1048576)(hw:Sh.KT [pY,.int,uf] ds):oH Tryz.prog 11 (Sh.args [pY,.int,uf] ds) (.bool true):=by
 obtain⟨d0,r0,rfl,h0,d1,r1,rfl,h1,d2,r2,rfl,h2,hz⟩:=hw
 simp only[Sh.KT] at hz; subst hz
 simp only[Rows.uptoBulkAll] at hb
 obtain⟨x0,e0,s0⟩:=Iy (N:=1048576) h0 (by omega) (by omega)
 obtain⟨x1,e1,_⟩:=Uj h1
 obtain⟨x2,e2,s2,_⟩:=OL (N:=1048576) h2 (by omega)
 simp only[Sh.args,e0,e1,e2]
 exact S.fP x0 x1 x2  s0  (by omega)
theorem lifted(nY:aj Tryz.prog 19 [] (.bool true))(os:Os)(started:os.Started)(H:Type)(enc:TypeId×Value->H)(F:Stop.Interp) :
  ReturnsInHanded {} Tryz.checked os 11 .any ((Rows.OpenSpec.upto Rows.fairSimulatesSpec).preRow enc Tryz.prog Tryz.f11 Rows.fairSimulatesUptoRow.domain false Rows.fairSimulatesUptoRow.laid) (((Rows.OpenSpec.upto Rows.fairSimulatesSpec).at F).post enc Tryz.prog Tryz.f11 false true false false):=by
 refine returnsInHanded_of_row (C:=Tryz.checked) (s:=Rows.OpenSpec.upto Rows.fairSimulatesSpec) own started (by kernel_rfl) Tryz.func11
  (witness_row_atRef (enc:=enc) (C:=Tryz.checked) false (laidWorld os) lQ rfl (by kernel_rfl) (by kernel_rfl) (by kernel_rfl) (witness_row os enc)) ?_
 intro W base args ds gs before hval hW _ hcond _ hL _ _
 have hgs:gs=[]:=by
  obtain⟨p,q,_,hV,_⟩:=hW
  cases gs with
  |nil=>rfl
  |cons _ _=>exact hV.elim
 have hb:Rows.uptoBulkAll ds<=1048576:=by
  have:=of_decide_eq_true (hcond _ rfl)
  rw[hgs,List.append_nil] at this; exact this
 obtain⟨p,q,hA,hV,_⟩:=id hW
 have hlen:ds.length=3:=by
  rw[Tryz.params11] at hA
  exact wC hA
 obtain⟨d0,d1,d2,hds⟩: ∃ d0 d1 d2,ds=[d0,d1,d2]:=by
  rcases ds with _|⟨d0,_|⟨d1,_|⟨d2,_|⟨d3,r⟩⟩⟩⟩<;>simp at hlen
  exact⟨d0,d1,d2,rfl⟩
 refine EU (Oy:=[pY,.int,uf]) (tb:=4) (s:=Rows.fairSimulatesSpec) (BP (table hL)) laidOut ?_ rfl (by kernel_rfl) (by kernel_rfl) ?_ (by kernel_rfl) hval hW (fun hw=>contract nY hb hw)
 ·rw[Tryz.params11]
  intro t ht
  have:t=27\/t=3\/t=50:=by simpa using ht
  rcases this with rfl|rfl|rfl
  ·exact⟨by kernel_rfl,of_decide_eq_true (by kernel_rfl)⟩
  ·exact⟨by kernel_rfl,of_decide_eq_true (by kernel_rfl)⟩
  ·exact⟨by kernel_rfl,of_decide_eq_true (by kernel_rfl)⟩
 ·rw[hds]; rfl
theorem named:Tryz.prog.funcNamed "familycheck/familychecklaw09.FairSimulates" = some 11:=by kernel_rfl
theorem jf1:(Rows.fairSimulatesUptoRow.inPlace==Tryz.pinned.checked.prog.inPlace 11)=true:=by kernel_rfl
theorem jf2:(Rows.fairSimulatesUptoRow.unfollowed==Tryz.pinned.checked.prog.unfollowed 11)=true:=by kernel_rfl
theorem jf3:(Rows.fairSimulatesUptoRow.recurses==Tryz.pinned.checked.prog.recurses 11)=true:=by kernel_rfl
theorem jf4:(Rows.fairSimulatesUptoRow.named==Tryz.pinned.checked.prog.varsNamed 11)=true:=by kernel_rfl
theorem goes:false=Rows.fairSimulatesUptoRow.goesBy Tryz.pinned.checked.prog:=by kernel_rfl
theorem closed:joinedFacts Tryz.pinned.checked.prog 11 Tryz.f11 (Rows.OpenSpec.upto Rows.fairSimulatesSpec).bare Rows.fairSimulatesUptoRow=true :=
 BR xB Fe Fg Fh Fj Fb Iz IB IE jf1 jf2 jf3 jf4 (by kernel_rfl) (by kernel_rfl) (by kernel_rfl)
theorem said(nY:aj Tryz.prog 19 [] (.bool true)):Rows.FairSimulatesUptoSaid :=
 OpenClaim.holds_of_cond 11 Tryz.f11 rfl rfl rfl rfl rfl rfl rfl ⟨rfl,rfl,rfl,rfl,rfl⟩ rfl rfl rfl rfl rfl named Tryz.func11 closed
  (of_decide_eq_true (by kernel_rfl)) (by unfold Func.isWrapper; first|(rw[if_pos (by decide +kernel)]; kernel_rfl)|(rw[if_neg (by decide +kernel)]; exact⟨rfl,rfl⟩))
  (fun os started H enc _ F=>by rw[OpenClaim.pre_eq_preRow]; exact lifted nY os started H enc F)
theorem plain(f:FuncId)(fn:Func)(hf:Tryz.pinned.checked.prog.funcNamed "familycheck/familychecklaw09.FairSimulates" = some f) (hfn:Tryz.pinned.checked.prog.funcs[f]? =some fn) :
  false=Tryz.pinned.checked.prog.looks []/\ ∀ (j:Nat) t,fn.params[j]? =some t->Tryz.pinned.checked.prog.wantsStandIn t=false:=by
 obtain rfl:f=11:=Option.some.inj (named.symm.trans hf) |>.symm
 obtain rfl:fn=Tryz.f11:=(Option.some.inj (Tryz.func11.symm.trans hfn)).symm
 refine⟨Fp,fun j t ht=>?_⟩
 rw[Tryz.params11] at ht
 have:t=27\/t=3\/t=50:=by simpa using Array.mem_of_getElem? ht
 rcases this with rfl|rfl|rfl
 ·exact(show Tryz.prog.wantsStandIn 27=false by kernel_rfl)
 ·exact(show Tryz.prog.wantsStandIn 3=false by kernel_rfl)
 ·exact(show Tryz.prog.wantsStandIn 50=false by kernel_rfl)
theorem DN(nY:aj Tryz.prog 19 [] (.bool true)):Rows.FairSimulatesUptoCardSaid :=
 Claim7.holds_tied_plain_at .later [] _ _ _ _ (said nY) (fun _ h=>by cases h) (by kernel_rfl) (fun _ h=>by cases h) fairSimulatesUpto_row_tie rfl ⟨rfl,rfl⟩ IC rfl plain goes
end Go.Proofs.YtkomllaebngbfaaGreatDoor
