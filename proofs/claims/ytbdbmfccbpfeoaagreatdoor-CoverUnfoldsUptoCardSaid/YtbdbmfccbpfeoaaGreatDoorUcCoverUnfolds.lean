/-
 The statement of familychecklaw05.CoverUnfolds, from the contract of the law's call.
-/
import Derived.Test.YtbdbmfccbpfeoaaGreatDoorCards
import Derived.Test.YtbdbmfccbpfeoaaGreatDoorTie
import Derived.ProofKit
import Derived.Test.YtbdbmfccbpfeoaaGreatDoorTa
import Derived.Test.YtbdbmfccbpfeoaaGreatDoorTb
import Derived.Test.YtbdbmfccbpfeoaaGreatDoorQg
import Derived.Test.YtbdbmfccbpfeoaaGreatDoorLg
namespace Go.Proofs.YtbdbmfccbpfeoaaGreatDoor
open Go.Ab Go.Proofs Go.ChangeShapes Go.WideShapes Go.ChangeAt Go.RowKit
set_option maxRecDepth 100000
theorem own:ownKnob Tryz.prog.godebug=none:=by kernel_rfl
theorem laidOut:laidOutB Tryz.prog=true:=YH
theorem gTab:Tryz.prog.globalNamed "strings.asciiSpace" = some 0:=by kernel_rfl
theorem adN{H:Type}{enc:TypeId×Value->H}{P:Program}{w:World}{base:Nat}{spare held}: ∀ {ts:List TypeId} {vs:List Value} {ds:List (DataW H)} {ps:List MemPlace},DataW.TrodAll enc P w base spare held ts vs ds ps->ds.length=ts.length:=by
 intro ts;induction ts with
 |nil=>intro vs ds ps h; obtain⟨_,rfl,_⟩:=trodAll_nil h; rfl
 |cons t r ih =>
  intro vs ds ps h;obtain⟨_,_,_,_,_,_,_,rfl,_,_,h2⟩:=trodAll_cons h;simp[ih h2]
theorem table{W:World}(h:laidMetH Tryz.prog Rows.coverUnfoldsUptoRow.laid W):Lib.TabIs Tryz.prog W "strings.asciiSpace" .u8 Lib.asciiSpaceTab :=
 Lib.tabIs_of_head (rest:=[]) (e:=5) (t:=204) (n:=256) gTab (by kernel_rfl) (by kernel_rfl) (by kernel_rfl) (by kernel_rfl) (by kernel_rfl) (laidMet.tail h)
noncomputable def laidWorld(os:Os):World :=
 let N:=(World.settled Tryz.prog os).heap.size
 let w0:=World.holding Tryz.prog os ⟨#[.cells ([9,13,1,32,133,101,160,5760,5600,8192,8202,1,8232,8233,1,8239,8287,48,12288,12288,1].map fun(z:Nat)=>Value.int .u16 (z:Int)).toArray 219,.cells #[.slice (some ⟨N,0,none⟩) 7 7,.slice none 0 0,.int .i64 2] 216],#[],[]⟩
 let put (h:Array Obj) (g:Nat) (cs:Array Value):Array Obj:=h.modify g fun
  | .cells _ t frozen=>.cells cs t frozen
  |o=>o
 let h1:=put w0.heap 0 (Lib.asciiSpaceTab.map fun z=>Value.int .u8 z).toArray
 let h2:=put h1 1 #[.pointer (some ⟨N+1,0,none⟩)]
 {w0 with heap:=h2}
noncomputable abbrev Qd:Array Value:= #[.agg #[.string ByteArray.empty,.int .i64 0,.slice none 0 0,.slice none 0 0,.slice none 0 0,.int .i64 0,.slice none 0 0,.slice none 0 0,.slice none 0 0,.slice none 0 0],.agg #[.slice none 0 0,.slice none 0 0,.int .i64 0,.slice none 0 0,.slice none 0 0,.int .i64 0]]
theorem laid_met(os:Os):laidMet Tryz.prog Rows.coverUnfoldsUptoRow.laid ((laidWorld os).forCall (fun _ _=>0) ⟨#[],Qd,[]⟩).memory :=
 laidMet_of_run' 10 (by kernel_rfl) (by kernel_rfl)
theorem witness_row(os:Os){H:Type}(enc:TypeId×Value->H) :
  (Rows.OpenSpec.upto Rows.coverUnfoldsSpec).preRow enc Tryz.prog Tryz.f3 Rows.coverUnfoldsUptoRow.domain false Rows.coverUnfoldsUptoRow.laid ((laidWorld os).forCall (fun _ _=>0) ⟨#[],Qd,[]⟩).memory Qd:=by
 have hw:(DataW.whole enc Tryz.prog ((laidWorld os).forCall (fun _ _=>0) ⟨#[],Qd,[]⟩).memory Tryz.f3.params.toList Rows.coverUnfoldsSpec.vars false Qd.toList 8).map (fun x=>(x.1,x.2.1)) =
   some ([.agg [.lit (.string []),.lit (.int .i64 0),.nil,.nil,.nil,.lit (.int .i64 0),.nil,.nil,.nil,.nil],.agg [.nil,.nil,.lit (.int .i64 0),.nil,.nil,.lit (.int .i64 0)]],[]):=by kernel_rfl
 obtain⟨⟨x1,x2,x3⟩,hx,hx1⟩:=bX.1 hw;simp only[eh] at hx1;obtain⟨rfl,rfl⟩:=hx1;exact OpenSpec.preRow_of_cond 8 hx (by kernel_rfl) (fun k hk=>by cases hk; kernel_rfl) (by kernel_rfl) (laid_met os)
theorem contract(_ajJ:aj Tryz.prog 6 [] (.bool true)){H:Type}{ds:List (DataW H)}(hb:Rows.uptoBulkAll ds<=1048576)(hw:Sh.Vm [Ju,Qc] ds):yj Tryz.prog 3 (Sh.args [Ju,Qc] ds) (.bool true):=by
 obtain⟨d0,r0,rfl,h0,d1,r1,rfl,h1,hz⟩:=hw;simp only[Sh.Vm] at hz; subst hz;simp only[Rows.uptoBulkAll] at hb;obtain⟨x0,e0,s0⟩:=afS (N:=1048576) h0 (by omega) (by omega);obtain⟨x1,e1,s1⟩:=ahJ (N:=1048576) h1 (by omega) (by omega);simp only[Sh.args,e0,e1];exact S.jX x0 x1  s0 s1
theorem lifted(U9:aj Tryz.prog 6 [] (.bool true))(os:Os)(started:os.Started)(H:Type)(enc:TypeId×Value->H)(F:Stop.Interp) :
  ReturnsInHanded {} Tryz.checked os 3 .any ((Rows.OpenSpec.upto Rows.coverUnfoldsSpec).preRow enc Tryz.prog Tryz.f3 Rows.coverUnfoldsUptoRow.domain false Rows.coverUnfoldsUptoRow.laid) (((Rows.OpenSpec.upto Rows.coverUnfoldsSpec).at F).post enc Tryz.prog Tryz.f3 false true false false):=by
 refine returnsInHanded_of_row (C:=Tryz.checked) (s:=Rows.OpenSpec.upto Rows.coverUnfoldsSpec) own started (by kernel_rfl) Tryz.func3
  (witness_row_atRef (enc:=enc) (C:=Tryz.checked) false (laidWorld os) Qd rfl (by kernel_rfl) (by kernel_rfl) (by kernel_rfl) (witness_row os enc)) ?_
 intro W base args ds gs before hval hW _ hcond _ hL _ _;have hgs:gs=[]:=by
  obtain⟨p,q,_,hV,_⟩:=hW;cases gs with
  |nil=>rfl
  |cons _ _=>exact hV.elim
 have hb:Rows.uptoBulkAll ds<=1048576:=by
  have:=aq (hcond _ rfl);rw[hgs,cT] at this; exact this
 obtain⟨p,q,hA,hV,_⟩:=id hW;have hlen:ds.length=2:=by
  rw[Tryz.params3] at hA;exact adN hA
 obtain⟨d0,d1,hds⟩: ∃ d0 d1,ds=[d0,d1]:=by
  rcases ds with _|⟨d0,_|⟨d1,_|⟨d2,r⟩⟩⟩<;>simp at hlen
  exact⟨d0,d1,rfl⟩
 refine acr (Vo:=[Ju,Qc]) (tb:=4) (s:=Rows.coverUnfoldsSpec) (ZU (table hL)) laidOut ?_ rfl (by kernel_rfl) (by kernel_rfl) ?_ (by kernel_rfl) hval hW (fun hw=>contract U9 hb hw)
 ·rw[Tryz.params3];intro t ht
  have:t=27\/t=29:=by simpa using ht
  rcases this with rfl|rfl
  ·exact⟨by kernel_rfl,aq (by kernel_rfl)⟩
  ·exact⟨by kernel_rfl,aq (by kernel_rfl)⟩
 ·rw[hds]; rfl
theorem named:Tryz.prog.funcNamed "familycheck/familychecklaw05.CoverUnfolds" = some 3:=by kernel_rfl
theorem jf1:(Rows.coverUnfoldsUptoRow.inPlace==Tryz.pinned.checked.prog.inPlace 3)=true:=by kernel_rfl
theorem jf2:(Rows.coverUnfoldsUptoRow.unfollowed==Tryz.pinned.checked.prog.unfollowed 3)=true:=by kernel_rfl
theorem jf3:(Rows.coverUnfoldsUptoRow.recurses==Tryz.pinned.checked.prog.recurses 3)=true:=by kernel_rfl
theorem jf4:(Rows.coverUnfoldsUptoRow.named==Tryz.pinned.checked.prog.varsNamed 3)=true:=by kernel_rfl
theorem goes:false=Rows.coverUnfoldsUptoRow.goesBy Tryz.pinned.checked.prog:=by kernel_rfl
theorem closed:joinedFacts Tryz.pinned.checked.prog 3 Tryz.f3 (Rows.OpenSpec.upto Rows.coverUnfoldsSpec).bare Rows.coverUnfoldsUptoRow=true :=
 aaH YH adI adJ adK adL adH afT afU afW jf1 jf2 jf3 jf4 (by kernel_rfl) (by kernel_rfl) (by kernel_rfl)
theorem said(U9:aj Tryz.prog 6 [] (.bool true)):Rows.CoverUnfoldsUptoSaid :=
 OpenClaim.holds_of_cond 3 Tryz.f3 rfl rfl rfl rfl rfl rfl rfl ⟨rfl,rfl,rfl,rfl,rfl⟩ rfl rfl rfl rfl rfl named Tryz.func3 closed
  (aq (by kernel_rfl)) (by unfold Func.isWrapper; first|(rw[ba (by decide +kernel)]; kernel_rfl)|(rw[av (by decide +kernel)]; exact⟨rfl,rfl⟩))
  (fun os started H enc _ F=>by rw[OpenClaim.pre_eq_preRow]; exact lifted U9 os started H enc F)
theorem plain(f:FuncId)(fn:Func)(hf:Tryz.pinned.checked.prog.funcNamed "familycheck/familychecklaw05.CoverUnfolds" = some f) (hfn:Tryz.pinned.checked.prog.funcs[f]? =some fn) :
  false=Tryz.pinned.checked.prog.looks []/\ ∀ (j:Nat) t,fn.params[j]? =some t->Tryz.pinned.checked.prog.wantsStandIn t=false:=by
 obtain rfl:f=3:=Option.some.inj (named.symm.trans hf) |>.symm
 obtain rfl:fn=Tryz.f3:=(Option.some.inj (Tryz.func3.symm.trans hfn)).symm;refine⟨adM,fun j t ht=>?_⟩;rw[Tryz.params3] at ht
 have:t=27\/t=29:=by simpa using Array.mem_of_getElem? ht
 rcases this with rfl|rfl
 ·exact(show Tryz.prog.wantsStandIn 27=false by kernel_rfl)
 ·exact(show Tryz.prog.wantsStandIn 29=false by kernel_rfl)
theorem ahK(U9:aj Tryz.prog 6 [] (.bool true)):Rows.CoverUnfoldsUptoCardSaid :=
 Claim7.holds_tied_plain_at .later [] _ _ _ _ (said U9) (fun _ h=>by cases h) (by kernel_rfl) (fun _ h=>by cases h) coverUnfoldsUpto_row_tie rfl ⟨rfl,rfl⟩ afV rfl plain goes
end Go.Proofs.YtbdbmfccbpfeoaaGreatDoor
