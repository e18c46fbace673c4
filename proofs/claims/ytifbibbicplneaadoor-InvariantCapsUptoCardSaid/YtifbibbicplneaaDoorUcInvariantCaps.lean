/-
 The statement of familychecklaw08.InvariantCaps, from the contract of the law's call.
-/
import Derived.Test.YtifbibbicplneaaDoorCards
import Derived.Test.YtifbibbicplneaaDoorTie
import Derived.ProofKit
import Derived.Test.YtifbibbicplneaaDoorTa
import Derived.Test.YtifbibbicplneaaDoorTb
import Derived.Test.YtifbibbicplneaaDoorBc
import Derived.Test.YtifbibbicplneaaDoorLf
namespace Go.Proofs.YtifbibbicplneaaDoor
open Go.Ab Go.Proofs Go.ChangeShapes Go.WideShapes Go.ChangeAt Go.RowKit
set_option maxRecDepth 100000
theorem own:ownKnob Tryd.prog.godebug=none:=by kernel_rfl
theorem laidOut:laidOutB Tryd.prog=true:=DV
theorem gTab:Tryd.prog.globalNamed "strings.asciiSpace" = some 0:=by kernel_rfl
theorem FV{H:Type}{enc:TypeId×Value->H}{P:Program}{w:World}{base:Nat}{spare held}: ∀ {ts:List TypeId} {vs:List Value} {ds:List (DataW H)} {ps:List MemPlace},DataW.TrodAll enc P w base spare held ts vs ds ps->ds.length=ts.length:=by
 intro ts
 induction ts with
 |nil=>intro vs ds ps h; obtain⟨_,rfl,_⟩:=trodAll_nil h; rfl
 |cons t r ih =>
  intro vs ds ps h
  obtain⟨_,_,_,_,_,_,_,rfl,_,_,h2⟩:=trodAll_cons h
  simp[ih h2]
theorem table{W:World}(h:laidMetH Tryd.prog Rows.invariantCapsUptoRow.laid W):Lib.TabIs Tryd.prog W "strings.asciiSpace" .u8 Lib.asciiSpaceTab :=
 Lib.tabIs_of_head (rest:=[]) (e:=5) (t:=161) (n:=256) gTab (by kernel_rfl) (by kernel_rfl) (by kernel_rfl) (by kernel_rfl) (by kernel_rfl) (laidMet.tail h)
noncomputable def laidWorld(os:Os):World :=
 let N:=(World.settled Tryd.prog os).heap.size
 let w0:=World.holding Tryd.prog os ⟨#[.cells ([9,13,1,32,133,101,160,5760,5600,8192,8202,1,8232,8233,1,8239,8287,48,12288,12288,1].map fun(z:Nat)=>Value.int .u16 (z:Int)).toArray 176,.cells #[.slice (some ⟨N,0,none⟩) 7 7,.slice none 0 0,.int .i64 2] 173],#[],[]⟩
 let put (h:Array Obj) (g:Nat) (cs:Array Value):Array Obj:=h.modify g fun
  | .cells _ t frozen=>.cells cs t frozen
  |o=>o
 let h1:=put w0.heap 0 (Lib.asciiSpaceTab.map fun z=>Value.int .u8 z).toArray
 let h2:=put h1 2 #[.pointer (some ⟨N+1,0,none⟩)]
 {w0 with heap:=h2}
noncomputable abbrev uN:Array Value:= #[.agg #[.string ByteArray.empty,.int .i64 0,.slice none 0 0,.slice none 0 0,.slice none 0 0,.int .i64 0,.slice none 0 0,.slice none 0 0,.slice none 0 0,.slice none 0 0],.agg #[.slice none 0 0,.slice none 0 0,.slice none 0 0],.agg #[.int .i64 0,.slice none 0 0]]
theorem laid_met(os:Os):laidMet Tryd.prog Rows.invariantCapsUptoRow.laid ((laidWorld os).forCall (fun _ _=>0) ⟨#[],uN,[]⟩).memory :=
 laidMet_of_run' 10 (by kernel_rfl) (by kernel_rfl)
theorem witness_row(os:Os){H:Type}(enc:TypeId×Value->H) :
  (Rows.OpenSpec.upto Rows.invariantCapsSpec).preRow enc Tryd.prog Tryd.f4 Rows.invariantCapsUptoRow.domain false Rows.invariantCapsUptoRow.laid ((laidWorld os).forCall (fun _ _=>0) ⟨#[],uN,[]⟩).memory uN:=by
 have hw:(DataW.whole enc Tryd.prog ((laidWorld os).forCall (fun _ _=>0) ⟨#[],uN,[]⟩).memory Tryd.f4.params.toList Rows.invariantCapsSpec.vars false uN.toList 8).map (fun x=>(x.1,x.2.1)) =
   some ([.agg [.lit (.string []),.lit (.int .i64 0),.nil,.nil,.nil,.lit (.int .i64 0),.nil,.nil,.nil,.nil],.agg [.nil,.nil,.nil],.agg [.lit (.int .i64 0),.nil]],[]):=by kernel_rfl
 obtain⟨⟨x1,x2,x3⟩,hx,hx1⟩:=Option.map_eq_some_iff.1 hw
 simp only[Prod.mk.injEq] at hx1
 obtain⟨rfl,rfl⟩:=hx1
 exact OpenSpec.preRow_of_cond 8 hx (by kernel_rfl) (fun k hk=>by cases hk; kernel_rfl) (by kernel_rfl) (laid_met os)
theorem contract(_Zt:ay Tryd.prog 8 [] (.bool true)){H:Type}{ds:List (DataW H)}(hb:Rows.uptoBulkAll ds<=1048576)(hw:Sh.Jo [zA,rP,Ce] ds):sH Tryd.prog 4 (Sh.args [zA,rP,Ce] ds) (.bool true):=by
 obtain⟨d0,r0,rfl,h0,d1,r1,rfl,h1,d2,r2,rfl,h2,hz⟩:=hw
 simp only[Sh.Jo] at hz; subst hz
 simp only[Rows.uptoBulkAll] at hb
 obtain⟨x0,e0,s0⟩:=PK (N:=1048576) h0 (by omega) (by omega)
 obtain⟨x1,e1,s1,_⟩:=Il (N:=1048576) h1 (by omega) (by omega)
 obtain⟨x2,e2,s2,_⟩:=Xg (N:=1048576) h2 (by omega)
 simp only[Sh.args,e0,e1,e2]
 exact S.iw x0 x1 x2  s0 s1 (by omega)
theorem lifted(xw:ay Tryd.prog 8 [] (.bool true))(os:Os)(started:os.Started)(H:Type)(enc:TypeId×Value->H)(F:Stop.Interp) :
  ReturnsInHanded {} Tryd.checked os 4 .any ((Rows.OpenSpec.upto Rows.invariantCapsSpec).preRow enc Tryd.prog Tryd.f4 Rows.invariantCapsUptoRow.domain false Rows.invariantCapsUptoRow.laid) (((Rows.OpenSpec.upto Rows.invariantCapsSpec).at F).post enc Tryd.prog Tryd.f4 false true false false):=by
 refine returnsInHanded_of_row (C:=Tryd.checked) (s:=Rows.OpenSpec.upto Rows.invariantCapsSpec) own started (by kernel_rfl) Tryd.func4
  (witness_row_atRef (enc:=enc) (C:=Tryd.checked) false (laidWorld os) uN rfl (by kernel_rfl) (by kernel_rfl) (by kernel_rfl) (witness_row os enc)) ?_
 intro W base args ds gs before hval hW _ hcond _ hL _ _
 have hgs:gs=[]:=by
  obtain⟨p,q,_,hV,_⟩:=hW
  cases gs with
  |nil=>rfl
  |cons _ _=>exact hV.elim
 have hb:Rows.uptoBulkAll ds<=1048576:=by
  have:=of_decide_eq_true (hcond _ rfl)
  rw[hgs,List.append_nil] at this; exact this
 obtain⟨p,q,hA,hV,_⟩:=id hW
 have hlen:ds.length=3:=by
  rw[Tryd.params4] at hA
  exact FV hA
 obtain⟨d0,d1,d2,hds⟩: ∃ d0 d1 d2,ds=[d0,d1,d2]:=by
  rcases ds with _|⟨d0,_|⟨d1,_|⟨d2,_|⟨d3,r⟩⟩⟩⟩<;>simp at hlen
  exact⟨d0,d1,d2,rfl⟩
 refine LK (LJ:=[zA,rP,Ce]) (tb:=4) (s:=Rows.invariantCapsSpec) (Ii (table hL)) laidOut ?_ rfl (by kernel_rfl) (by kernel_rfl) ?_ (by kernel_rfl) hval hW (fun hw=>contract xw hb hw)
 ·rw[Tryd.params4]
  intro t ht
  have:t=27\/t=40\/t=42:=by simpa using ht
  rcases this with rfl|rfl|rfl
  ·exact⟨by kernel_rfl,of_decide_eq_true (by kernel_rfl)⟩
  ·exact⟨by kernel_rfl,of_decide_eq_true (by kernel_rfl)⟩
  ·exact⟨by kernel_rfl,of_decide_eq_true (by kernel_rfl)⟩
 ·rw[hds]; rfl
theorem named:Tryd.prog.funcNamed "familycheck/familychecklaw08.InvariantCaps" = some 4:=by kernel_rfl
theorem jf1:(Rows.invariantCapsUptoRow.inPlace==Tryd.pinned.checked.prog.inPlace 4)=true:=by kernel_rfl
theorem jf2:(Rows.invariantCapsUptoRow.unfollowed==Tryd.pinned.checked.prog.unfollowed 4)=true:=by kernel_rfl
theorem jf3:(Rows.invariantCapsUptoRow.recurses==Tryd.pinned.checked.prog.recurses 4)=true:=by kernel_rfl
theorem jf4:(Rows.invariantCapsUptoRow.named==Tryd.pinned.checked.prog.varsNamed 4)=true:=by kernel_rfl
theorem goes:false=Rows.invariantCapsUptoRow.goesBy Tryd.pinned.checked.prog:=by kernel_rfl
theorem closed:joinedFacts Tryd.pinned.checked.prog 4 Tryd.f4 (Rows.OpenSpec.upto Rows.invariantCapsSpec).bare Rows.invariantCapsUptoRow=true :=
 Io DV LX LY LZ L6 LW PL PN PS jf1 jf2 jf3 jf4 (by kernel_rfl) (by kernel_rfl) (by kernel_rfl)
theorem said(xw:ay Tryd.prog 8 [] (.bool true)):Rows.InvariantCapsUptoSaid :=
 OpenClaim.holds_of_cond 4 Tryd.f4 rfl rfl rfl rfl rfl rfl rfl ⟨rfl,rfl,rfl,rfl,rfl⟩ rfl rfl rfl rfl rfl named Tryd.func4 closed
  (of_decide_eq_true (by kernel_rfl)) (by unfold Func.isWrapper; first|(rw[if_pos (by decide +kernel)]; kernel_rfl)|(rw[if_neg (by decide +kernel)]; exact⟨rfl,rfl⟩))
  (fun os started H enc _ F=>by rw[OpenClaim.pre_eq_preRow]; exact lifted xw os started H enc F)
theorem plain(f:FuncId)(fn:Func)(hf:Tryd.pinned.checked.prog.funcNamed "familycheck/familychecklaw08.InvariantCaps" = some f) (hfn:Tryd.pinned.checked.prog.funcs[f]? =some fn) :
  false=Tryd.pinned.checked.prog.looks []/\ ∀ (j:Nat) t,fn.params[j]? =some t->Tryd.pinned.checked.prog.wantsStandIn t=false:=by
 obtain rfl:f=4:=Option.some.inj (named.symm.trans hf) |>.symm
 obtain rfl:fn=Tryd.f4:=(Option.some.inj (Tryd.func4.symm.trans hfn)).symm
 refine⟨L8,fun j t ht=>?_⟩
 rw[Tryd.params4] at ht
 have:t=27\/t=40\/t=42:=by simpa using Array.mem_of_getElem? ht
 rcases this with rfl|rfl|rfl
 ·exact(show Tryd.prog.wantsStandIn 27=false by kernel_rfl)
 ·exact(show Tryd.prog.wantsStandIn 40=false by kernel_rfl)
 ·exact(show Tryd.prog.wantsStandIn 42=false by kernel_rfl)
theorem Ot(xw:ay Tryd.prog 8 [] (.bool true)):Rows.InvariantCapsUptoCardSaid :=
 Claim7.holds_tied_plain_at .later [] _ _ _ _ (said xw) (fun _ h=>by cases h) (by kernel_rfl) (fun _ h=>by cases h) invariantCapsUpto_row_tie rfl ⟨rfl,rfl⟩ PO rfl plain goes
end Go.Proofs.YtifbibbicplneaaDoor
