/- The function transhumancetop.TopBound answers true at every start and every list of turns, and leaves both as they read. Conditions: what is read holds together at most 1048576 values and letters (the second form's bound); the listed package-level variables hold what the program's text lays (the card ties that). -/
import Derived.Test.YtaimmacnafoanaaGreatDoorRowB
import Derived.Test.YtaimmacnafoanaaGreatDoorQ29
import Derived.Test.YtaimmacnafoanaaGreatDoorRowC
import Derived.Test.YtaimmacnafoanaaGreatDoorCards
import Derived.Test.YtaimmacnafoanaaGreatDoorTie
import Derived.WalkKit
import Derived.ProofKit
import Derived.OpenShut
import Derived.ChangeOld
import Derived.Below
import Derived.SizedLaws
import Derived.Deep.DeepHandedRow
import Derived.Lay
namespace Go.Proofs.YtaimmacnafoanaaGreatDoor.topBound
open Go.ChangeShapes Go.WideShapes Go.ChangeAt Go.RowKit F
set_option linter.unusedVariables false
set_option linter.unusedSimpArgs false
set_option maxRecDepth 100000
theorem own : ownKnob Tryz.prog.godebug = none := by kernel_rfl
theorem laidOut : laidOutB Tryz.prog = true := by kernel_rfl
def arg0 : Array Value := #[.agg #[.string ⟨#[]⟩, .slice none 0 0, .int .i64 0, .int .i64 0, .int .i64 0, .int .i64 0, .int .i64 0], .slice none 0 0]
theorem contract (H : Type) (enc : TypeId × Value → H) (W : World) (base : Nat) (args : Array Value) (ds gs : List (DataW H)) (before : List MemPlace)
    (hval : ∀ (j : Nat) t v, Tryz.f4.params[j]? = some t → args[j]? = some v → Value.okWide Tryz.prog W .any base t v)
    (hW : DataW.Whole enc Tryz.prog Tryz.f4.params.toList Rows.topBoundSpec.vars false W args.toList ds gs before) (hk : Rows.uptoSmall H (ds ++ gs) = true)
    (hL : laidMetH Tryz.prog Rows.topBoundUptoRow.laid W) (hsh : W.ShapedOpen Tryz.prog) :
    Calls Tryz.prog 4 args W fun e W' => ∃ v, e = .returned v ∧ Rows.topBoundSpec.post enc Tryz.prog Tryz.f4 false true false false W args v W' := by
  have hW' := hW
  obtain ⟨p, q, hA0, hV, rfl, hfz, hnd⟩ := hW
  have hA : DataW.TrodAll enc Tryz.prog W 0 (fun _ => true) true Tryz.f4.params.toList args.toList ds p := hA0
  rw [Tryz.params4] at hA hval
  obtain ⟨v0, vs0, d0, ds0, p0, q0, hargs, rfl, rfl, h0, r0⟩ := trodAll_cons hA
  obtain ⟨v1, vs1, d1, ds1, p1, q1, rfl, rfl, rfl, h1, r1⟩ := trodAll_cons r0
  obtain ⟨rfl, rfl, rfl⟩ := trodAll_nil r1
  obtain rfl : args = #[v0, v1] := by cases args; simp_all
  obtain ⟨rfl, rfl⟩ := trodVars_none hV
  obtain ⟨x, hx, bx⟩ := open_start (hval 0 26 v0 rfl rfl) h0
  obtain ⟨zs, hz, bz⟩ := open_turns (hval 1 32 v1 rfl rfl) h1
  have lt0 : ∀ x ∈ p0, x.block < W.heap.size := by obtain ⟨m, hm⟩ := h0; exact DataW.trod_lt m _ _ _ hm
  have lt1 : ∀ x ∈ p1, x.block < W.heap.size := by obtain ⟨m, hm⟩ := h1; exact DataW.trod_lt m _ _ _ hm
  have hb : Rows.uptoBulkAll (([d0, d1] : List (DataW H)) ++ []) ≤ 1048576 := of_decide_eq_true hk
  simp only [List.append_nil, Rows.uptoBulkAll] at hb
  have hcall := pc4 glOk x zs (by omega) (by omega) (by omega) W (fun B => B < W.heap.size) [v0, v1] (gp_of hL hsh) (fun _ h => h) (.cons _ _ _ _ hx (.cons _ _ _ _ hz .nil))
  refine hcall.mono fun e W' ⟨he, bel⟩ => ?_
  obtain ⟨y, rfl, hy⟩ := he
  cases hy
  exact ⟨_, rfl, _, _, _, [], _, [], hW', trodAll_mk1 (shut_bool Tryz.underlying4 _), trodAll_cons_mk (Below.trod laidOut (by kernel_rfl) (of_decide_eq_true (by kernel_rfl)) h0 bel lt0) (trodAll_cons_mk (Below.trod laidOut (by kernel_rfl) (of_decide_eq_true (by kernel_rfl)) h1 bel lt1) trodAll_mk0), rfl, bel.frame _, fun h => by cases h⟩
theorem reads (os : Os) {H : Type} (enc : TypeId × Value → H) : ∃ ds places, DataW.whole enc Tryz.prog ((World.laidAll Tryz.prog os Rows.topBoundUptoRow.laid).forCall (fun _ _ => 0) ⟨#[], arg0, []⟩).memory Tryz.f4.params.toList Rows.topBoundSpec.vars false arg0.toList 8 = some (ds, [], places) ∧ ds = [.agg [.lit (.string []), .nil, .lit (.int .i64 0), .lit (.int .i64 0), .agg [.lit (.int .i64 0), .lit (.int .i64 0), .lit (.int .i64 0)]], .nil] :=
  ⟨_, [], by kernel_rfl, rfl⟩
theorem met (os : Os) : laidMetH Tryz.prog Rows.topBoundUptoRow.laid ((World.laidAll Tryz.prog os Rows.topBoundUptoRow.laid).forCall (fun _ _ => 0) ⟨#[], arg0, []⟩).memory := by
  rw [MakeChecks.laidMetH_plain _ _ _ (by kernel_rfl)]
  exact laidMet_laidAll _ (by kernel_rfl) (by kernel_rfl)
theorem okIn (os : Os) : Input.okWideB Tryz.prog ((World.laidAll Tryz.prog os Rows.topBoundUptoRow.laid).forCall (fun _ _ => 0) ⟨#[], arg0, []⟩) 4 ⟨#[], arg0, []⟩ = true := by kernel_rfl
theorem witness (os : Os) (H : Type) (enc : TypeId × Value → H) :
    ∃ (w : World) (tape : Tape) (i : Input), w.os = os ∧ (w.forCall tape i).Shaped Tryz.checked.prog ∧ i.vars = [] ∧ Input.okWide Tryz.checked.prog (w.forCall tape i) .any w.heap.size 4 i ∧
      (Rows.OpenSpec.upto Rows.topBoundSpec).preRow enc Tryz.checked.prog Tryz.f4 Rows.topBoundUptoRow.domain false Rows.topBoundUptoRow.laid (w.forCall tape i).memory i.args ∧ ({} : Assume).holds Tryz.checked.prog (lone (Frame.enter Tryz.checked.prog 4 i.args .normal) [] (w.forCall tape i)) := by
  obtain ⟨ds, places, hx, rfl⟩ := reads os enc
  refine ⟨World.laidAll Tryz.prog os Rows.topBoundUptoRow.laid, fun _ _ => 0, ⟨#[], arg0, []⟩, World.laidAll_os _ _ _, World.shaped_of_ZipB (by kernel_rfl) (by kernel_rfl), (Input.okWide_of_okWideB (base := 0) (okIn os)).1, (Input.okWide_of_okWideB (okIn os)).2,
    OpenSpec.preRow_of_cond 8 hx (by kernel_rfl) (fun k hk => by cases hk; kernel_rfl) (by kernel_rfl) (met os), ?_⟩
  simp only [Assume.holds]
  exact ⟨by simp, by simp, fun _ => Modest.zero, by simp, by simp⟩
theorem lifted (os : Os) (started : os.Started) (H : Type) (enc : TypeId × Value → H) (F : Stop.Interp) :
    ReturnsInHanded {} Tryz.checked os 4 .any ((Rows.OpenSpec.upto Rows.topBoundSpec).preRow enc Tryz.prog Tryz.f4 Rows.topBoundUptoRow.domain false Rows.topBoundUptoRow.laid) (((Rows.OpenSpec.upto Rows.topBoundSpec).at F).post enc Tryz.prog Tryz.f4 false true false false) := by
  refine returnsInHanded_of_row (C := Tryz.checked) (s := Rows.OpenSpec.upto Rows.topBoundSpec) own started (by kernel_rfl) Tryz.func4 (witness os H enc) ?_
  intro W base args ds gs before hval hW _ hk _ hL hsh _
  exact contract H enc W base args ds gs before hval hW (hk _ rfl) hL hsh
theorem facts : joinedFacts Tryz.pinned.checked.prog 4 Tryz.f4 (Rows.OpenSpec.upto Rows.topBoundSpec).bare Rows.topBoundUptoRow = true := by
  unfold joinedFacts
  rw [Heads.mayEnter, Heads.lifted, Heads.make, k00, k01, k02, k03, k04, k05, k06, k07, k08, k09, k10, k11, k12, k13, k14, k15, k16, k17, k18, k19, k20, k21, k22, k23, k24, k25, k26, k27]
  refine Eq.trans (b := true) ?_ rfl
  kernel_rfl
theorem said : Rows.TopBoundUptoSaid :=
  OpenClaim.holds_of_cond 4 Tryz.f4 rfl rfl rfl rfl rfl rfl rfl ⟨rfl, rfl, rfl, rfl, rfl⟩ rfl rfl rfl rfl rfl (by kernel_rfl) Tryz.func4 facts
    (of_decide_eq_true (by kernel_rfl)) (by unfold Func.isWrapper; first | (rw [if_pos (by decide +kernel)]; kernel_rfl) | (rw [if_neg (by decide +kernel)]; exact ⟨rfl, rfl⟩))
    (fun os started H enc _ F => by rw [OpenClaim.pre_eq_preRow]; exact lifted os started H enc F)
theorem mainIs : Tryz.pinned.checked.prog.mainIs = some (true, "5fd80c9097958c6ae34ff2a2b1ebcc64cd8e83705de2a889316502434af2b693".toList) := by
  obtain ⟨X, h⟩ := Heads.words
  unfold Program.mainIs
  rw [h]
  kernel_rfl
theorem filt : (Rows.topBoundUptoRow.laid.filter fun x => Rows.topBoundUptoRow.namedList.contains x.1) = Rows.topBoundUptoRow.laid :=
  List.filter_eq_self.2 fun x hx => List.all_eq_true.1 (show (Rows.topBoundUptoRow.laid.all fun x => Rows.topBoundUptoRow.namedList.contains x.1) = true by kernel_rfl) x hx
theorem dups : (Rows.topBoundUptoRow.laid.map (·.1)).eraseDups.length == Rows.topBoundUptoRow.laid.length := by kernel_rfl
theorem wfs : Rows.topBoundUptoRow.wf (Rows.OpenSpec.upto Rows.topBoundSpec) = true := by kernel_rfl
theorem wf : Rows.topBoundUptoRow.wfByText (Rows.OpenSpec.upto Rows.topBoundSpec) = true := by
  unfold OpenClaim.wfByText
  rw [if_pos (show Rows.topBoundUptoRow.unfollowed = true from rfl), filt]
  have e : ({ Rows.topBoundUptoRow with laid := Rows.topBoundUptoRow.laid } : OpenClaim) = Rows.topBoundUptoRow := rfl
  rw [e, wfs, dups]
  rfl
theorem plain (f : FuncId) (fn : Func) (hf : Tryz.pinned.checked.prog.funcNamed "transhumance/transhumancetop.TopBound" = some f) (hfn : Tryz.pinned.checked.prog.funcs[f]? = some fn) :
    true = Tryz.pinned.checked.prog.looks [] ∧ ∀ (j : Nat) t, fn.params[j]? = some t → Tryz.pinned.checked.prog.wantsStandIn t = false := by
  obtain rfl : f = 4 := Option.some.inj ((show Tryz.prog.funcNamed "transhumance/transhumancetop.TopBound" = some 4 by kernel_rfl).symm.trans hf) |>.symm
  obtain rfl : fn = Tryz.f4 := (Option.some.inj (Tryz.func4.symm.trans hfn)).symm
  refine ⟨looks, fun j t ht => ?_⟩
  rw [Tryz.params4] at ht
  have hm : t ∈ [26, 32] := by simpa using Array.mem_of_getElem? ht
  have hall : ([26, 32].all fun u => !Tryz.prog.wantsStandIn u) = true := by kernel_rfl
  exact (show Tryz.prog.wantsStandIn t = false by simpa using List.all_eq_true.1 hall t hm)
theorem card : Rows.TopBoundUptoCardSaid :=
  Claim7.holds_tied_plain_at .later [] _ _ _ _ said (fun _ h => by cases h) wf (fun _ h => by cases h) topBoundUpto_row_tie rfl ⟨rfl, rfl⟩ mainIs rfl plain goes
#print axioms card
end Go.Proofs.YtaimmacnafoanaaGreatDoor.topBound
namespace Go.Proofs.YtaimmacnafoanaaGreatDoor
/-- The card, under a short name, for the claim. -/
theorem topBoundUpto_holds : Rows.TopBoundUptoCardSaid := topBound.card
end Go.Proofs.YtaimmacnafoanaaGreatDoor
