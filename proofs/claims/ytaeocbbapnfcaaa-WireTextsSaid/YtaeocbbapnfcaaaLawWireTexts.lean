/- Functions of the program, each with the machine's call that does what it says; laid by a program of this session over the kit's printer. -/
import Derived.Test.YtaeocbbapnfcaaaRows
import Derived.Test.YtaeocbbapnfcaaaPWirex3
import Derived.Test.YtaeocbbapnfcaaaPureWireTexts
import Derived.Test.YtaeocbbapnfcaaaHeads
import Derived.WalkKit
import Derived.ProofKit
import Derived.OpenShut
import Derived.ShutString
import Derived.ChangeOld
import Derived.Below
import Derived.SizedLaws
import Derived.SliceStrings
namespace Go.Proofs.Ytaeocbbapnfcaaa.wireTexts
open Go.ChangeShapes Go.WideShapes Go.ChangeAt Go.RowKit
open Go.ChangeMaps (open_string shut_string)
set_option linter.unusedVariables false
set_option linter.unusedSimpArgs false
theorem own : ownKnob Try.prog.godebug = none := by kernel_rfl
theorem laidOut : laidOutB Try.prog = true := by kernel_rfl
set_option maxRecDepth 100000 in
theorem lifted (os : Os) (started : os.Started) (H : Type) (enc : TypeId × Value → H) :
    ReturnsInHanded {} Try.checked os 11 .any (Rows.wireTextsSpec.pre6 enc Try.prog Try.f11 Rows.wireTextsRow.domain false) (Rows.wireTextsSpec.post enc Try.prog Try.f11 false true false false) := by
  refine returnsInHanded_of_change_sized (C := Try.checked) own started (by kernel_rfl) Try.func11
    (ChangeSpec.witness6 (enc := enc) (C := Try.checked) false ⟨#[], #[.slice none 0 0, .int .i64 0], []⟩ 8 (by kernel_rfl) (by kernel_rfl) (by kernel_rfl) (by kernel_rfl)) ?_
  intro W base args ds gs before hval0 hW hcnd hsz0 _
  have hval : ∀ (j : Nat) t v, Try.f11.params[j]? = some t → args[j]? = some v → Value.okWide Try.prog W .any base t v := hval0
  have hW' := hW
  obtain ⟨p, q, hA0, hV, rfl, hfz, hnd⟩ := hW
  have hA : DataW.TrodAll enc Try.prog W 0 (fun _ => true) true Try.f11.params.toList args.toList ds p := hA0
  rw [Try.params11] at hA hval
  obtain ⟨v0, vs0, d0, ds0, p0, q0, hargs, rfl, rfl, h0, r0⟩ := trodAll_cons hA
  obtain ⟨v1, vs1, d1, ds1, p1, q1, rfl, rfl, rfl, h1, r1⟩ := trodAll_cons r0
  obtain ⟨rfl, rfl, rfl⟩ := trodAll_nil r1
  obtain rfl : args = #[v0, v1] := by cases args; simp_all
  obtain ⟨rfl, rfl⟩ := trodVars_none hV
  obtain ⟨a0, len0, cap0, rfl⟩ := okWide_slice Try.underlying37 (hval 0 37 v0 rfl rfl)
  have k0 := h0
  have lt0 : ∀ x ∈ p0, x.block < W.heap.size := by obtain ⟨m, hm⟩ := k0; exact DataW.trod_lt m _ _ _ hm
  obtain ⟨l0, e0, le0, hr0⟩ : ∃ l0 : List ByteArray, l0.length = len0 ∧ len0 ≤ cap0 ∧ Go.Proofs.YtaeocbbapnfcaaaW.PrintWords.ReadsOf Value.string ByteArray.empty W a0 len0 l0 := by
    obtain ⟨fuel, hf⟩ := h0
    rcases open_strings Try.underlying37 Try.underlying9 (by kernel_rfl) hf with ⟨hcs, _⟩ | ⟨x, l, c, ss, hcs, _, hl, hm, hz, _, hcell, _⟩
    · simp [Value.cells] at hcs
      obtain ⟨rfl, rfl, rfl⟩ := hcs
      exact ⟨[], rfl, Nat.le_refl _, rfl, by decide, fun h => absurd h (Nat.lt_irrefl 0)⟩
    · simp [Value.cells] at hcs
      obtain ⟨rfl, rfl, rfl⟩ := hcs
      have hz' : ss.length = cap0 := by simpa using hz
      have hm' : cap0 ≤ 9223372036854775807 := Nat.le_trans hm (by unfold maxLen; decide)
      refine ⟨ss.take len0, by simp; omega, hl, by simp; omega, by omega, fun _ => ⟨x, rfl, fun j hj => ?_⟩⟩
      rw [hcell j (by omega)]
      congr 2
      simp [List.getD_eq_getElem?_getD, List.getElem?_take, hj]
  subst e0
  obtain ⟨a1, rfl, rfl, rfl, w1⟩ := open_int Try.underlying3 (hval 1 3 v1 rfl rfl) h1
  clear hA0 hval0 hsz0
  obtain ⟨k, hk⟩ := Pure.Texts.texts l0 a1
  refine (PWire.transhumancelaw01_WireTexts.calls k a0 cap0 l0 a1 true W (Go.Proofs.YtaeocbbapnfcaaaW.PrintWords.Kd.C_of_reads hr0) le0 hk).mono fun e W' ⟨he, bel⟩ => ?_
  subst he
  exact ⟨_, rfl, _, _, _, [], _, [], hW', trodAll_mk1 (shut_bool Try.underlying4 _), (trodAll_cons_mk (Below.trod laidOut (by kernel_rfl) (of_decide_eq_true (by kernel_rfl)) k0 bel lt0) (trodAll_cons_mk (shut_int Try.underlying3 w1) trodAll_mk0)), rfl, bel.frame _, fun h => by cases h⟩
theorem facts : joinedFacts Try.pinned.checked.prog 11 Try.f11 Rows.wireTextsSpec Rows.wireTextsRow = true := by
  unfold joinedFacts
  rw [Heads.mayEnter, Heads.lifted, Heads.make]
  refine Eq.trans (b := true) ?_ rfl
  kernel_rfl
theorem over : Rows.wireTextsRow.holds Try.pinned (OpenSpec.ofChange Rows.wireTextsSpec) :=
  OpenClaim.holds_of_wide 11 Try.f11 rfl rfl rfl rfl rfl rfl rfl ⟨rfl, rfl, rfl, rfl, rfl⟩ rfl rfl rfl rfl rfl (by kernel_rfl) Try.func11 facts
    (of_decide_eq_true (by kernel_rfl)) (by unfold Func.isWrapper; first | (rw [if_pos (by decide +kernel)]; kernel_rfl) | (rw [if_neg (by decide +kernel)]; exact ⟨rfl, rfl⟩))
    (fun os started H enc _ => lifted os started H enc)
theorem proved : Rows.WireTextsSaid := over
#print axioms proved
end Go.Proofs.Ytaeocbbapnfcaaa.wireTexts
namespace Go.Proofs.Ytaeocbbapnfcaaa
/-- The row, under a short name, for the claim. -/
theorem wireTexts_holds : Rows.WireTextsSaid := wireTexts.proved
end Go.Proofs.Ytaeocbbapnfcaaa
