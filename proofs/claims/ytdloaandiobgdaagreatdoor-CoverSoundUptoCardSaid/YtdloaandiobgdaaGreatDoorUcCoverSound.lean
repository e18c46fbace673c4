/-
 The statement of familychecklaw05.CoverSound, from the contract of the law's call.
-/
import Derived.Test.YtdloaandiobgdaaGreatDoorCards
import Derived.Test.YtdloaandiobgdaaGreatDoorTie
import Derived.ProofKit
import Derived.Test.YtdloaandiobgdaaGreatDoorTa
import Derived.Test.YtdloaandiobgdaaGreatDoorTb
import Derived.Test.YtdloaandiobgdaaGreatDoorBe
import Derived.Test.YtdloaandiobgdaaGreatDoorLg
namespace Go.Proofs.YtdloaandiobgdaaGreatDoor
open Go.Ab Go.Proofs Go.ChangeShapes Go.WideShapes Go.ChangeAt Go.RowKit
set_option maxRecDepth 100000
theorem own:ownKnob Tryz.prog.godebug=none:=by kernel_rfl
theorem laidOut:laidOutB Tryz.prog=true:=aa1
theorem gTab:Tryz.prog.globalNamed "strings.asciiSpace" = some 0:=by kernel_rfl
theorem agJ{H:Type}{enc:TypeId×Value->H}{P:Program}{w:World}{base:Nat}{spare held}: ∀ {ts:List TypeId} {vs:List Value} {ds:List (DataW H)} {ps:List MemPlace},DataW.TrodAll enc P w base spare held ts vs ds ps->ds.length=ts.length:=by
 intro ts;induction ts with
 |nil=>intro vs ds ps h; obtain⟨_,rfl,_⟩:=trodAll_nil h; rfl
 |cons t r ih =>
  intro vs ds ps h;obtain⟨_,_,_,_,_,_,_,rfl,_,_,h2⟩:=trodAll_cons h;simp[ih h2]
theorem table{W:World}(h:laidMetH Tryz.prog Rows.coverSoundUptoRow.laid W):Lib.TabIs Tryz.prog W "strings.asciiSpace" .u8 Lib.asciiSpaceTab :=
 Lib.tabIs_of_head (rest:=[]) (e:=5) (t:=199) (n:=256) gTab (by kernel_rfl) (by kernel_rfl) (by kernel_rfl) (by kernel_rfl) (by kernel_rfl) (laidMet.tail h)
noncomputable def laidWorld(os:Os):World :=
 let N:=(World.settled Tryz.prog os).heap.size
 let w0:=World.holding Tryz.prog os ⟨#[.cells ([9,13,1,32,133,101,160,5760,5600,8192,8202,1,8232,8233,1,8239,8287,48,12288,12288,1].map fun(z:Nat)=>Value.int .u16 (z:Int)).toArray 241,.cells #[.slice (some ⟨N,0,none⟩) 7 7,.slice none 0 0,.int .i64 2] 238],#[],[]⟩
 let put (h:Array Obj) (g:Nat) (cs:Array Value):Array Obj:=h.modify g fun
  | .cells _ t frozen=>.cells cs t frozen
  |o=>o
 let h1:=put w0.heap 0 (Lib.asciiSpaceTab.map fun z=>Value.int .u8 z).toArray
 let h2:=put h1 1 #[.pointer (some ⟨N+1,0,none⟩)]
 {w0 with heap:=h2}
noncomputable abbrev Tt:Array Value:= #[.agg #[.string ByteArray.empty,.int .i64 0,.slice none 0 0,.slice none 0 0,.slice none 0 0,.int .i64 0,.slice none 0 0,.slice none 0 0,.slice none 0 0,.slice none 0 0],.agg #[.string ByteArray.empty,.int .i64 0,.slice none 0 0,.slice none 0 0,.slice none 0 0,.slice none 0 0],.slice none 0 0]
theorem laid_met(os:Os):laidMet Tryz.prog Rows.coverSoundUptoRow.laid ((laidWorld os).forCall (fun _ _=>0) ⟨#[],Tt,[]⟩).memory :=
 laidMet_of_run' 10 (by kernel_rfl) (by kernel_rfl)
theorem witness_row(os:Os){H:Type}(enc:TypeId×Value->H) :
  (Rows.OpenSpec.upto Rows.coverSoundSpec).preRow enc Tryz.prog Tryz.f3 Rows.coverSoundUptoRow.domain false Rows.coverSoundUptoRow.laid ((laidWorld os).forCall (fun _ _=>0) ⟨#[],Tt,[]⟩).memory Tt:=by
 have hw:(DataW.whole enc Tryz.prog ((laidWorld os).forCall (fun _ _=>0) ⟨#[],Tt,[]⟩).memory Tryz.f3.params.toList Rows.coverSoundSpec.vars false Tt.toList 8).map (fun x=>(x.1,x.2.1)) =
   some ([.agg [.lit (.string []),.lit (.int .i64 0),.nil,.nil,.nil,.lit (.int .i64 0),.nil,.nil,.nil,.nil],.agg [.lit (.string []),.lit (.int .i64 0),.nil,.nil,.nil,.nil],.nil],[]):=by kernel_rfl
 obtain⟨⟨x1,x2,x3⟩,hx,hx1⟩:=be.1 hw;simp only[fe] at hx1;obtain⟨rfl,rfl⟩:=hx1;exact OpenSpec.preRow_of_cond 8 hx (by kernel_rfl) (fun k hk=>by cases hk; kernel_rfl) (by kernel_rfl) (laid_met os)
theorem contract(_hsane:ak Tryz.prog 7 [] (.bool true)){H:Type}{ds:List (DataW H)}(hb:Rows.uptoBulkAll ds<=1048576)(hw:Sh.Y6 [LX,LY,J8] ds):zC Tryz.prog 3 (Sh.args [LX,LY,J8] ds) (.bool true):=by
 obtain⟨d0,r0,rfl,h0,d1,r1,rfl,h1,d2,r2,rfl,h2,hz⟩:=hw;simp only[Sh.Y6] at hz; subst hz;simp only[Rows.uptoBulkAll] at hb;obtain⟨x0,e0,s0⟩:=ajd (N:=1048576) h0 (by omega) (by omega);obtain⟨x1,e1,s1⟩:=aje (N:=1048576) h1 (by omega) (by omega);obtain⟨x2,e2,s2,t2⟩:=agC (N:=1048576) h2 (by omega);simp only[Sh.args,e0,e1,e2];exact S.jW x0 x1 x2 s0 s1 (by omega) (fun x hx=>by have:=t2 x hx; omega)
theorem lifted(XL:ak Tryz.prog 7 [] (.bool true))(os:Os)(started:os.Started)(H:Type)(enc:TypeId×Value->H)(F:Stop.Interp) :
  ReturnsInHanded {} Tryz.checked os 3 .any ((Rows.OpenSpec.upto Rows.coverSoundSpec).preRow enc Tryz.prog Tryz.f3 Rows.coverSoundUptoRow.domain false Rows.coverSoundUptoRow.laid) (((Rows.OpenSpec.upto Rows.coverSoundSpec).at F).post enc Tryz.prog Tryz.f3 false true false false):=by
 refine returnsInHanded_of_row (C:=Tryz.checked) (s:=Rows.OpenSpec.upto Rows.coverSoundSpec) own started (by kernel_rfl) Tryz.func3
  (witness_row_atRef (enc:=enc) (C:=Tryz.checked) false (laidWorld os) Tt rfl (by kernel_rfl) (by kernel_rfl) (by kernel_rfl) (witness_row os enc)) ?_
 intro W base args ds gs before hval hW _ hcond _ hL _ _;have hgs:gs=[]:=by
  obtain⟨p,q,_,hV,_⟩:=hW;cases gs with
  |nil=>rfl
  |cons _ _=>exact hV.elim
 have hb:Rows.uptoBulkAll ds<=1048576:=by
  have:=ag (hcond _ rfl);rw[hgs,cS] at this; exact this
 obtain⟨p,q,hA,hV,_⟩:=id hW;have hlen:ds.length=3:=by
  rw[Tryz.params3] at hA;exact agJ hA
 obtain⟨d0,d1,d2,hds⟩: ∃ d0 d1 d2,ds=[d0,d1,d2]:=by
  rcases ds with _|⟨d0,_|⟨d1,_|⟨d2,_|⟨d3,r⟩⟩⟩⟩<;>simp at hlen
  exact⟨d0,d1,d2,rfl⟩
 refine ae1 (XV:=[LX,LY,J8]) (tb:=4) (s:=Rows.coverSoundSpec) (ace (table hL)) laidOut ?_ rfl (by kernel_rfl) (by kernel_rfl) ?_ (by kernel_rfl) hval hW (fun hw=>contract XL hb hw)
 ·rw[Tryz.params3];intro t ht
  have:t=27\/t=30\/t=31:=by simpa using ht
  rcases this with rfl|rfl|rfl
  ·exact⟨by kernel_rfl,ag (by kernel_rfl)⟩
  ·exact⟨by kernel_rfl,ag (by kernel_rfl)⟩
  ·exact⟨by kernel_rfl,ag (by kernel_rfl)⟩
 ·rw[hds]; rfl
theorem named:Tryz.prog.funcNamed "familycheck/familychecklaw05.CoverSound" = some 3:=by kernel_rfl
theorem jf1:(Rows.coverSoundUptoRow.inPlace==Tryz.pinned.checked.prog.inPlace 3)=true:=by kernel_rfl
theorem jf2:(Rows.coverSoundUptoRow.unfollowed==Tryz.pinned.checked.prog.unfollowed 3)=true:=by kernel_rfl
theorem jf3:(Rows.coverSoundUptoRow.recurses==Tryz.pinned.checked.prog.recurses 3)=true:=by kernel_rfl
theorem jf4:(Rows.coverSoundUptoRow.named==Tryz.pinned.checked.prog.varsNamed 3)=true:=by kernel_rfl
theorem goes:false=Rows.coverSoundUptoRow.goesBy Tryz.pinned.checked.prog:=by kernel_rfl
theorem closed:joinedFacts Tryz.pinned.checked.prog 3 Tryz.f3 (Rows.OpenSpec.upto Rows.coverSoundSpec).bare Rows.coverSoundUptoRow=true :=
 ade aa1 agE agF agG agH agD ajf ajg aji jf1 jf2 jf3 jf4 (by kernel_rfl) (by kernel_rfl) (by kernel_rfl)
theorem said(XL:ak Tryz.prog 7 [] (.bool true)):Rows.CoverSoundUptoSaid :=
 OpenClaim.holds_of_cond 3 Tryz.f3 rfl rfl rfl rfl rfl rfl rfl ⟨rfl,rfl,rfl,rfl,rfl⟩ rfl rfl rfl rfl rfl named Tryz.func3 closed
  (ag (by kernel_rfl)) (by unfold Func.isWrapper; first|(rw[bc (by decide +kernel)]; kernel_rfl)|(rw[bB (by decide +kernel)]; exact⟨rfl,rfl⟩))
  (fun os started H enc _ F=>by rw[OpenClaim.pre_eq_preRow]; exact lifted XL os started H enc F)
theorem plain(f:FuncId)(fn:Func)(hf:Tryz.pinned.checked.prog.funcNamed "familycheck/familychecklaw05.CoverSound" = some f) (hfn:Tryz.pinned.checked.prog.funcs[f]? =some fn) :
  false=Tryz.pinned.checked.prog.looks []/\ ∀ (j:Nat) t,fn.params[j]? =some t->Tryz.pinned.checked.prog.wantsStandIn t=false:=by
 obtain rfl:f=3:=Option.some.inj (named.symm.trans hf) |>.symm
 obtain rfl:fn=Tryz.f3:=(Option.some.inj (Tryz.func3.symm.trans hfn)).symm;refine⟨agI,fun j t ht=>?_⟩;rw[Tryz.params3] at ht
 have:t=27\/t=30\/t=31:=by simpa using Array.mem_of_getElem? ht
 rcases this with rfl|rfl|rfl
 ·exact(show Tryz.prog.wantsStandIn 27=false by kernel_rfl)
 ·exact(show Tryz.prog.wantsStandIn 30=false by kernel_rfl)
 ·exact(show Tryz.prog.wantsStandIn 31=false by kernel_rfl)
theorem alx(XL:ak Tryz.prog 7 [] (.bool true)):Rows.CoverSoundUptoCardSaid :=
 Claim7.holds_tied_plain_at .later [] _ _ _ _ (said XL) (fun _ h=>by cases h) (by kernel_rfl) (fun _ h=>by cases h) coverSoundUpto_row_tie rfl ⟨rfl,rfl⟩ ajh rfl plain goes
end Go.Proofs.YtdloaandiobgdaaGreatDoor
