/- Arguments that are sections, opened: a slice of them, and one by value. -/
import Derived.Test.YtaeocbbapnfcaaaPSectx0
import Derived.Deep.SlicePairs
import Derived.Lib.SmallJoins
import Derived.OpenShut
import Derived.ProofKit
namespace Go.Proofs.Ytaeocbbapnfcaaa.SectRows
open Go.ChangeShapes Go.WideShapes Go.ChangeAt Go.RowKit
set_option linter.unusedVariables false
/-- A slice of sections, opened as one list. -/
theorem open_secs {H : Type} {enc : TypeId × Value → H} {W : World} {base : Nat} {held : Bool} {fuel : Nat} {a0 : Option Addr} {len cap : Nat} {x : DataW H × List MemPlace}
    (hf : DataW.trod enc Try.prog W base (fun _ => true) held fuel 57 [.slice a0 len cap] = some x) : ∃ l : List PSect.S65, l.length = len ∧ len ≤ cap ∧ Go.Proofs.YtaeocbbapnfcaaaW.PrintWords.Kd.C PSect.k65 W a0 len l := by
  rcases Go.Deep.open_slice_pairs Try.underlying57 Try.underlying65 (by kernel_rfl) rfl rfl (by kernel_rfl) (by kernel_rfl) hf with ⟨hcs, _⟩ | ⟨a, l, c, m, n, V0, V1, D0, D1, P0, P1, hcs, _, hl, hm, hz, _, hx⟩
  · simp at hcs
    obtain ⟨rfl, rfl, rfl⟩ := hcs
    exact ⟨[], rfl, Nat.le_refl _, rfl, by decide, fun h => absurd h (Nat.lt_irrefl 0)⟩
  · simp at hcs
    obtain ⟨rfl, rfl, rfl⟩ := hcs
    have hz' : m = cap := by simpa using hz
    subst hz'
    have hm' : m ≤ 9223372036854775807 := Nat.le_trans hm (by unfold maxLen; decide)
    let g : Value → Int := fun v => match v with | .int _ n => n | _ => 0
    let b : Value → ByteArray := fun v => match v with | .string s => s | _ => ByteArray.empty
    have e0 : ∀ i, i < m → V0 i = .int .i64 (g (V0 i)) := by
      intro i hi
      obtain ⟨n, h, _⟩ := DataW.trod_int Try.underlying3 (hx i hi).2.2.1
      simp at h
      rw [h]
    have e1 : ∀ i, i < m → V1 i = .string (b (V1 i)) := by
      intro i hi
      obtain ⟨n, h, _⟩ := DataW.trod_string Try.underlying9 (hx i hi).2.2.2
      simp at h
      rw [h]
    refine ⟨(List.range len).map fun i => ⟨g (V0 i), b (V1 i)⟩, by simp, hl, by simp, by omega, fun _ => ⟨a, rfl, fun j p hj => ?_⟩⟩
    obtain ⟨hj1, hj2⟩ := List.getElem?_eq_some_iff.1 hj
    have hjl : j < len := by simpa using hj1
    simp at hj2
    subst hj2
    refine ⟨_, rfl, PSect.k65_mk W _, fun i u hu => ?_⟩
    match i, hu with
    | 0, hu =>
      simp at hu
      subst hu
      rw [← e0 j (by omega)]
      exact (hx j (by omega)).1
    | 1, hu =>
      simp at hu
      subst hu
      rw [← e1 j (by omega)]
      exact (hx j (by omega)).2.1
/-- A section by value. -/
theorem open_sec {H : Type} {enc : TypeId × Value → H} {W : World} {base b0 : Nat} {held : Bool} {r : Reach} {v : Value} {d : DataW H} {p : List MemPlace}
    (hv : Value.okWide Try.prog W r b0 65 v) (h : DataW.Trod enc Try.prog W base (fun _ => true) held 65 v d p) : ∃ (t : Int) (q : ByteArray), v = .agg #[.int .i64 t, .string q] := by
  obtain ⟨c0, c1, y0, y1, m, rfl, rfl, rfl, hy0, hy1⟩ := Go.Joins.open_agg2 Try.underlying65 (by kernel_rfl) (by kernel_rfl) hv h
  obtain ⟨t, h0, _⟩ := DataW.trod_int Try.underlying3 hy0
  obtain ⟨q, h1, _⟩ := DataW.trod_string Try.underlying9 hy1
  simp at h0 h1
  exact ⟨t, q, by rw [h0, h1]⟩
end Go.Proofs.Ytaeocbbapnfcaaa.SectRows
