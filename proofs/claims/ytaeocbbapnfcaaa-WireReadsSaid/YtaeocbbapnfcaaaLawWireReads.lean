/- The row of WireReads, out of its printed walk. -/
import Derived.Test.YtaeocbbapnfcaaaRows
import Derived.Test.YtaeocbbapnfcaaaPureWireReads
import Derived.Test.YtaeocbbapnfcaaaHeads
import Derived.WalkKit
import Derived.ProofKit
import Derived.OpenShut
import Derived.ShutString
import Derived.ChangeOld
import Derived.Below
import Derived.SizedLaws
import Derived.Deep.SlicePairs
namespace Go.Proofs.Ytaeocbbapnfcaaa.wireReads
open Go.ChangeShapes Go.WideShapes Go.ChangeAt Go.RowKit
open Go.ChangeMaps (open_string shut_string)
set_option linter.unusedVariables false
set_option linter.unusedSimpArgs false
theorem own : ownKnob Try.prog.godebug = none := by kernel_rfl
theorem laidOut : laidOutB Try.prog = true := by kernel_rfl
/-- A slice of steps, opened as one list. -/
theorem open_steps {H : Type} {enc : TypeId × Value → H} {W : World} {base : Nat} {held : Bool} {fuel : Nat} {a0 : Option Addr} {len cap : Nat} {x : DataW H × List MemPlace}
    (hf : DataW.trod enc Try.prog W base (fun _ => true) held fuel 45 [.slice a0 len cap] = some x) : ∃ l : List PWire.S49, l.length = len ∧ len ≤ cap ∧ Go.Proofs.YtaeocbbapnfcaaaW.PrintWords.Kd.C PWire.k49 W a0 len l := by
  rcases Go.Deep.open_slice_pairs Try.underlying45 Try.underlying49 (by kernel_rfl) rfl rfl (by kernel_rfl) (by kernel_rfl) hf with ⟨hcs, _⟩ | ⟨a, l, c, m, n, V0, V1, D0, D1, P0, P1, hcs, _, hl, hm, hz, _, hx⟩
  · simp at hcs
    obtain ⟨rfl, rfl, rfl⟩ := hcs
    exact ⟨[], rfl, Nat.le_refl _, rfl, by decide, fun h => absurd h (Nat.lt_irrefl 0)⟩
  · simp at hcs
    obtain ⟨rfl, rfl, rfl⟩ := hcs
    have hz' : m = cap := by simpa using hz
    subst hz'
    have hm' : m ≤ 9223372036854775807 := Nat.le_trans hm (by unfold maxLen; decide)
    let g : Value → Int := fun v => match v with | .int _ n => n | _ => 0
    have e0 : ∀ i, i < m → V0 i = .int .i64 (g (V0 i)) := by
      intro i hi
      obtain ⟨n, h, _⟩ := DataW.trod_int Try.underlying3 (hx i hi).2.2.1
      simp at h
      rw [h]
    have e1 : ∀ i, i < m → V1 i = .int .i64 (g (V1 i)) := by
      intro i hi
      obtain ⟨n, h, _⟩ := DataW.trod_int Try.underlying3 (hx i hi).2.2.2
      simp at h
      rw [h]
    refine ⟨(List.range len).map fun i => ⟨g (V0 i), g (V1 i)⟩, by simp, hl, by simp, by omega, fun _ => ⟨a, rfl, fun j p hj => ?_⟩⟩
    obtain ⟨hj1, hj2⟩ := List.getElem?_eq_some_iff.1 hj
    have hjl : j < len := by simpa using hj1
    simp at hj2
    subst hj2
    refine ⟨_, rfl, PWire.k49_mk W _, fun i u hu => ?_⟩
    match i, hu with
    | 0, hu =>
      simp at hu
      subst hu
      rw [← e0 j (by omega)]
      exact (hx j (by omega)).1
    | 1, hu =>
      simp at hu
      subst hu
      rw [← e1 j (by omega)]
      exact (hx j (by omega)).2.1
set_option maxRecDepth 100000 in
theorem lifted (os : Os) (started : os.Started) (H : Type) (enc : TypeId × Value → H) :
    ReturnsInHanded {} Try.checked os 12 .any (Rows.wireReadsSpec.pre6 enc Try.prog Try.f12 Rows.wireReadsRow.domain false) (Rows.wireReadsSpec.post enc Try.prog Try.f12 false true false false) := by
  refine returnsInHanded_of_change_sized (C := Try.checked) own started (by kernel_rfl) Try.func12
    (ChangeSpec.witness6 (enc := enc) (C := Try.checked) false ⟨#[], #[.string ByteArray.empty, .slice none 0 0], []⟩ 8 (by kernel_rfl) (by kernel_rfl) (by kernel_rfl) (by kernel_rfl)) ?_
  intro W base args ds gs before hval0 hW hcnd hsz0 _
  have hval : ∀ (j : Nat) t v, Try.f12.params[j]? = some t → args[j]? = some v → Value.okWide Try.prog W .any base t v := hval0
  have hW' := hW
  obtain ⟨p, q, hA0, hV, rfl, hfz, hnd⟩ := hW
  have hA : DataW.TrodAll enc Try.prog W 0 (fun _ => true) true Try.f12.params.toList args.toList ds p := hA0
  rw [Try.params12] at hA hval
  obtain ⟨v0, vs0, d0, ds0, p0, q0, hargs, rfl, rfl, h0, r0⟩ := trodAll_cons hA
  obtain ⟨v1, vs1, d1, ds1, p1, q1, rfl, rfl, rfl, h1, r1⟩ := trodAll_cons r0
  obtain ⟨rfl, rfl, rfl⟩ := trodAll_nil r1
  obtain rfl : args = #[v0, v1] := by cases args; simp_all
  obtain ⟨rfl, rfl⟩ := trodVars_none hV
  obtain ⟨a0, rfl, rfl, rfl, y0⟩ := open_string Try.underlying9 (hval 0 9 v0 rfl rfl) h0
  obtain ⟨a1, len1, cap1, rfl⟩ := okWide_slice Try.underlying45 (hval 1 45 v1 rfl rfl)
  have k1 := h1
  have lt1 : ∀ x ∈ p1, x.block < W.heap.size := by obtain ⟨m, hm⟩ := k1; exact DataW.trod_lt m _ _ _ hm
  obtain ⟨fuel, hf⟩ := h1
  obtain ⟨l1, e1, le1, hr1⟩ := open_steps hf
  subst e1
  clear hA0 hval0 hsz0
  obtain ⟨k, hk⟩ := Pure.Reads.reads a0 l1
  refine (PWire.wireReads.calls k a0 a1 cap1 l1 true W hr1 le1 hk).mono fun e W' ⟨he, bel⟩ => ?_
  subst he
  exact ⟨_, rfl, _, _, _, [], _, [], hW', trodAll_mk1 (shut_bool Try.underlying4 _), (trodAll_cons_mk (shut_string Try.underlying9 y0) (trodAll_cons_mk (Below.trod laidOut (by kernel_rfl) (of_decide_eq_true (by kernel_rfl)) k1 bel lt1) trodAll_mk0)), rfl, bel.frame _, fun h => by cases h⟩
theorem facts : joinedFacts Try.pinned.checked.prog 12 Try.f12 Rows.wireReadsSpec Rows.wireReadsRow = true := by
  unfold joinedFacts
  rw [Heads.mayEnter, Heads.lifted, Heads.make]
  refine Eq.trans (b := true) ?_ rfl
  kernel_rfl
theorem over : Rows.wireReadsRow.holds Try.pinned (OpenSpec.ofChange Rows.wireReadsSpec) :=
  OpenClaim.holds_of_wide 12 Try.f12 rfl rfl rfl rfl rfl rfl rfl ⟨rfl, rfl, rfl, rfl, rfl⟩ rfl rfl rfl rfl rfl (by kernel_rfl) Try.func12 facts
    (of_decide_eq_true (by kernel_rfl)) (by unfold Func.isWrapper; first | (rw [if_pos (by decide +kernel)]; kernel_rfl) | (rw [if_neg (by decide +kernel)]; exact ⟨rfl, rfl⟩))
    (fun os started H enc _ => lifted os started H enc)
theorem proved : Rows.WireReadsSaid := over
#print axioms proved
end Go.Proofs.Ytaeocbbapnfcaaa.wireReads
namespace Go.Proofs.Ytaeocbbapnfcaaa
/-- The row, under a short name, for the claim. -/
theorem wireReads_holds : Rows.WireReadsSaid := wireReads.proved
end Go.Proofs.Ytaeocbbapnfcaaa
