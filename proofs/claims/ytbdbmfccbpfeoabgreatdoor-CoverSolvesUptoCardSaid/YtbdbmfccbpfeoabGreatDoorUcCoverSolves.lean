/-
 The statement of familychecklaw05.CoverSolves, from the contract of the law's call.
-/
import Derived.Test.YtbdbmfccbpfeoabGreatDoorCards
import Derived.Test.YtbdbmfccbpfeoabGreatDoorTie
import Derived.ProofKit
import Derived.Test.YtbdbmfccbpfeoabGreatDoorTa
import Derived.Test.YtbdbmfccbpfeoabGreatDoorTb
import Derived.Test.YtbdbmfccbpfeoabGreatDoorBe
import Derived.Test.YtbdbmfccbpfeoabGreatDoorLg
namespace Go.Proofs.YtbdbmfccbpfeoabGreatDoor
open Go.Ab Go.Proofs Go.ChangeShapes Go.WideShapes Go.ChangeAt Go.RowKit
set_option maxRecDepth 100000
theorem own:ownKnob Tryz.prog.godebug=none:=by kernel_rfl
theorem laidOut:laidOutB Tryz.prog=true:=Yx
theorem gTab:Tryz.prog.globalNamed "strings.asciiSpace" = some 0:=by kernel_rfl
theorem adq{H:Type}{enc:TypeId×Value->H}{P:Program}{w:World}{base:Nat}{spare held}: ∀ {ts:List TypeId} {vs:List Value} {ds:List (DataW H)} {ps:List MemPlace},DataW.TrodAll enc P w base spare held ts vs ds ps->ds.length=ts.length:=by
 intro ts;induction ts with
 |nil=>intro vs ds ps h; obtain⟨_,rfl,_⟩:=trodAll_nil h; rfl
 |cons t r ih =>
  intro vs ds ps h;obtain⟨_,_,_,_,_,_,_,rfl,_,_,h2⟩:=trodAll_cons h;simp[ih h2]
theorem table{W:World}(h:laidMetH Tryz.prog Rows.coverSolvesUptoRow.laid W):Lib.TabIs Tryz.prog W "strings.asciiSpace" .u8 Lib.asciiSpaceTab :=
 Lib.tabIs_of_head (rest:=[]) (e:=5) (t:=152) (n:=256) gTab (by kernel_rfl) (by kernel_rfl) (by kernel_rfl) (by kernel_rfl) (by kernel_rfl) (laidMet.tail h)
noncomputable def laidWorld(os:Os):World :=
 let N:=(World.settled Tryz.prog os).heap.size
 let w0:=World.holding Tryz.prog os ⟨#[.cells ([9,13,1,32,133,101,160,5760,5600,8192,8202,1,8232,8233,1,8239,8287,48,12288,12288,1].map fun(z:Nat)=>Value.int .u16 (z:Int)).toArray 190,.cells #[.slice (some ⟨N,0,none⟩) 7 7,.slice none 0 0,.int .i64 2] 187],#[],[]⟩
 let put (h:Array Obj) (g:Nat) (cs:Array Value):Array Obj:=h.modify g fun
  | .cells _ t frozen=>.cells cs t frozen
  |o=>o
 let h1:=put w0.heap 0 (Lib.asciiSpaceTab.map fun z=>Value.int .u8 z).toArray
 let h2:=put h1 1 #[.pointer (some ⟨N+1,0,none⟩)]
 {w0 with heap:=h2}
noncomputable abbrev Qb:Array Value:= #[.agg #[.string ByteArray.empty,.int .i64 0,.slice none 0 0,.slice none 0 0,.slice none 0 0,.int .i64 0,.slice none 0 0,.slice none 0 0,.slice none 0 0,.slice none 0 0],.agg #[.string ByteArray.empty,.int .i64 0,.slice none 0 0,.slice none 0 0,.slice none 0 0,.slice none 0 0],.int .i64 0]
theorem laid_met(os:Os):laidMet Tryz.prog Rows.coverSolvesUptoRow.laid ((laidWorld os).forCall (fun _ _=>0) ⟨#[],Qb,[]⟩).memory :=
 laidMet_of_run' 10 (by kernel_rfl) (by kernel_rfl)
theorem witness_row(os:Os){H:Type}(enc:TypeId×Value->H) :
  (Rows.OpenSpec.upto Rows.coverSolvesSpec).preRow enc Tryz.prog Tryz.f3 Rows.coverSolvesUptoRow.domain false Rows.coverSolvesUptoRow.laid ((laidWorld os).forCall (fun _ _=>0) ⟨#[],Qb,[]⟩).memory Qb:=by
 have hw:(DataW.whole enc Tryz.prog ((laidWorld os).forCall (fun _ _=>0) ⟨#[],Qb,[]⟩).memory Tryz.f3.params.toList Rows.coverSolvesSpec.vars false Qb.toList 8).map (fun x=>(x.1,x.2.1)) =
   some ([.agg [.lit (.string []),.lit (.int .i64 0),.nil,.nil,.nil,.lit (.int .i64 0),.nil,.nil,.nil,.nil],.agg [.lit (.string []),.lit (.int .i64 0),.nil,.nil,.nil,.nil],.lit (.int .i64 0)],[]):=by kernel_rfl
 obtain⟨⟨x1,x2,x3⟩,hx,hx1⟩:=bh.1 hw;simp only[Prod.mk.injEq] at hx1;obtain⟨rfl,rfl⟩:=hx1;exact OpenSpec.preRow_of_cond 8 hx (by kernel_rfl) (fun k hk=>by cases hk; kernel_rfl) (by kernel_rfl) (laid_met os)
theorem contract(_aiN:aj Tryz.prog 10 [] (.bool true)){H:Type}{ds:List (DataW H)}(hb:Rows.uptoBulkAll ds<=1048576)(hw:Sh.Yb [Jv,Jw,.int] ds):xG Tryz.prog 3 (Sh.args [Jv,Jw,.int] ds) (.bool true):=by
 obtain⟨d0,r0,rfl,h0,d1,r1,rfl,h1,d2,r2,rfl,h2,hz⟩:=hw;simp only[Sh.Yb] at hz; subst hz;simp only[Rows.uptoBulkAll] at hb;obtain⟨x0,e0,s0⟩:=afg (N:=1048576) h0 (by omega) (by omega);obtain⟨x1,e1,s1⟩:=afh (N:=1048576) h1 (by omega) (by omega);obtain⟨x2,e2,_⟩:=ag5 h2;simp only[Sh.args,e0,e1,e2];exact S.kS x0 x1 x2  s0 s1
theorem lifted(Ve:aj Tryz.prog 10 [] (.bool true))(os:Os)(started:os.Started)(H:Type)(enc:TypeId×Value->H)(F:Stop.Interp) :
  ReturnsInHanded {} Tryz.checked os 3 .any ((Rows.OpenSpec.upto Rows.coverSolvesSpec).preRow enc Tryz.prog Tryz.f3 Rows.coverSolvesUptoRow.domain false Rows.coverSolvesUptoRow.laid) (((Rows.OpenSpec.upto Rows.coverSolvesSpec).at F).post enc Tryz.prog Tryz.f3 false true false false):=by
 refine returnsInHanded_of_row (C:=Tryz.checked) (s:=Rows.OpenSpec.upto Rows.coverSolvesSpec) own started (by kernel_rfl) Tryz.func3
  (witness_row_atRef (enc:=enc) (C:=Tryz.checked) false (laidWorld os) Qb rfl (by kernel_rfl) (by kernel_rfl) (by kernel_rfl) (witness_row os enc)) ?_
 intro W base args ds gs before hval hW _ hcond _ hL _ _;have hgs:gs=[]:=by
  obtain⟨p,q,_,hV,_⟩:=hW;cases gs with
  |nil=>rfl
  |cons _ _=>exact hV.elim
 have hb:Rows.uptoBulkAll ds<=1048576:=by
  have:=ai (hcond _ rfl);rw[hgs,cN] at this; exact this
 obtain⟨p,q,hA,hV,_⟩:=id hW;have hlen:ds.length=3:=by
  rw[Tryz.params3] at hA;exact adq hA
 obtain⟨d0,d1,d2,hds⟩: ∃ d0 d1 d2,ds=[d0,d1,d2]:=by
  rcases ds with _|⟨d0,_|⟨d1,_|⟨d2,_|⟨d3,r⟩⟩⟩⟩<;>simp at hlen
  exact⟨d0,d1,d2,rfl⟩
 refine acn (Vp:=[Jv,Jw,.int]) (tb:=4) (s:=Rows.coverSolvesSpec) (ZH (table hL)) laidOut ?_ rfl (by kernel_rfl) (by kernel_rfl) ?_ (by kernel_rfl) hval hW (fun hw=>contract Ve hb hw)
 ·rw[Tryz.params3];intro t ht
  have:t=27\/t=30\/t=3:=by simpa using ht
  rcases this with rfl|rfl|rfl
  ·exact⟨by kernel_rfl,ai (by kernel_rfl)⟩
  ·exact⟨by kernel_rfl,ai (by kernel_rfl)⟩
  ·exact⟨by kernel_rfl,ai (by kernel_rfl)⟩
 ·rw[hds]; rfl
theorem named:Tryz.prog.funcNamed "familycheck/familychecklaw05.CoverSolves" = some 3:=by kernel_rfl
theorem jf1:(Rows.coverSolvesUptoRow.inPlace==Tryz.pinned.checked.prog.inPlace 3)=true:=by kernel_rfl
theorem jf2:(Rows.coverSolvesUptoRow.unfollowed==Tryz.pinned.checked.prog.unfollowed 3)=true:=by kernel_rfl
theorem jf3:(Rows.coverSolvesUptoRow.recurses==Tryz.pinned.checked.prog.recurses 3)=true:=by kernel_rfl
theorem jf4:(Rows.coverSolvesUptoRow.named==Tryz.pinned.checked.prog.varsNamed 3)=true:=by kernel_rfl
theorem goes:false=Rows.coverSolvesUptoRow.goesBy Tryz.pinned.checked.prog:=by kernel_rfl
theorem closed:joinedFacts Tryz.pinned.checked.prog 3 Tryz.f3 (Rows.OpenSpec.upto Rows.coverSolvesSpec).bare Rows.coverSolvesUptoRow=true :=
 aaz Yx adk adl adn ado adi afi afj afl jf1 jf2 jf3 jf4 (by kernel_rfl) (by kernel_rfl) (by kernel_rfl)
theorem said(Ve:aj Tryz.prog 10 [] (.bool true)):Rows.CoverSolvesUptoSaid :=
 OpenClaim.holds_of_cond 3 Tryz.f3 rfl rfl rfl rfl rfl rfl rfl ⟨rfl,rfl,rfl,rfl,rfl⟩ rfl rfl rfl rfl rfl named Tryz.func3 closed
  (ai (by kernel_rfl)) (by unfold Func.isWrapper; first|(rw[bk (by decide +kernel)]; kernel_rfl)|(rw[bX (by decide +kernel)]; exact⟨rfl,rfl⟩))
  (fun os started H enc _ F=>by rw[OpenClaim.pre_eq_preRow]; exact lifted Ve os started H enc F)
theorem plain(f:FuncId)(fn:Func)(hf:Tryz.pinned.checked.prog.funcNamed "familycheck/familychecklaw05.CoverSolves" = some f) (hfn:Tryz.pinned.checked.prog.funcs[f]? =some fn) :
  false=Tryz.pinned.checked.prog.looks []/\ ∀ (j:Nat) t,fn.params[j]? =some t->Tryz.pinned.checked.prog.wantsStandIn t=false:=by
 obtain rfl:f=3:=Option.some.inj (named.symm.trans hf) |>.symm
 obtain rfl:fn=Tryz.f3:=(Option.some.inj (Tryz.func3.symm.trans hfn)).symm;refine⟨adp,fun j t ht=>?_⟩;rw[Tryz.params3] at ht
 have:t=27\/t=30\/t=3:=by simpa using Array.mem_of_getElem? ht
 rcases this with rfl|rfl|rfl
 ·exact(show Tryz.prog.wantsStandIn 27=false by kernel_rfl)
 ·exact(show Tryz.prog.wantsStandIn 30=false by kernel_rfl)
 ·exact(show Tryz.prog.wantsStandIn 3=false by kernel_rfl)
theorem ag6(Ve:aj Tryz.prog 10 [] (.bool true)):Rows.CoverSolvesUptoCardSaid :=
 Claim7.holds_tied_plain_at .later [] _ _ _ _ (said Ve) (fun _ h=>by cases h) (by kernel_rfl) (fun _ h=>by cases h) coverSolvesUpto_row_tie rfl ⟨rfl,rfl⟩ afk rfl plain goes
end Go.Proofs.YtbdbmfccbpfeoabGreatDoor
