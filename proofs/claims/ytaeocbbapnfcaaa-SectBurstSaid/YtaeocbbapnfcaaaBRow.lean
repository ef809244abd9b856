/- A row of bytes that a text was turned into: its cells are read, written and turned into a text again; the mark behind them is of no moment to that. -/
import Derived.Test.YtaeocbbapnfcaaaProg
import Derived.Test.YtaeocbbapnfcaaaWWords
import Derived.Test.YtaeocbbapnfcaaaWLast
import Derived.WalkKit
import Derived.KernelRfl
import Derived.Below
import Derived.Lib.ConvBytes
import Derived.Laws.BytesArg
namespace Go.Proofs.Ytaeocbbapnfcaaa.BRow
open Go.RowKit Go.Proofs.YtaeocbbapnfcaaaW.PrintWords

/-- In block g lie these bytes, from its begin on; no cell of it is frozen. -/
structure BRow (W : World) (g : Nat) (xs : List Nat) : Prop where
  row : ∃ cs : Array Value, W.heap[g]? = some (.cells cs 5 (cs.size, cs.size + 1)) ∧ ∀ (j : Nat) (h : j < xs.length), cs[j]? = some (.int .u8 ((xs[j] : Nat) : Int))

theorem lt {W : World} {g : Nat} {xs : List Nat} (h : BRow W g xs) : g < W.heap.size := by
  obtain ⟨cs, hh, _⟩ := h.row
  exact (Array.getElem?_eq_some_iff.1 hh).1
theorem cell {W : World} {g : Nat} {xs : List Nat} (h : BRow W g xs) (j : Nat) (hj : j < xs.length) : W.cell? ⟨g, j, none⟩ = some (.int .u8 ((xs[j] : Nat) : Int)) := by
  obtain ⟨cs, hh, hc⟩ := h.row
  simp [World.cell?, hh, hc j hj]
theorem frozen {W : World} {g : Nat} {xs : List Nat} (h : BRow W g xs) (j : Nat) (hj : j < xs.length) : W.frozen? ⟨g, j, none⟩ = false := by
  obtain ⟨cs, hh, hc⟩ := h.row
  have := (Array.getElem?_eq_some_iff.1 (hc j hj)).1
  simp [World.frozen?, hh]
  omega
/-- A cell, under a name of its own. -/
theorem named {W : World} {g : Nat} {xs : List Nat} (h : BRow W g xs) (j : Nat) (hj : j < xs.length) : ∃ x : Nat, x = xs.getD j 0 ∧ W.cell? ⟨g, j, none⟩ = some (.int .u8 (x : Int)) ∧ W.frozen? ⟨g, j, none⟩ = false :=
  ⟨xs[j], by simp [List.getD_eq_getElem?_getD, hj], cell h j hj, frozen h j hj⟩
theorem below {W W1 : World} {g : Nat} {xs : List Nat} (h : BRow W g xs) (hb : Below W.heap.size W W1) : BRow W1 g xs := by
  have hl := lt h
  obtain ⟨cs, hh, hc⟩ := h.row
  exact ⟨⟨cs, by rw [hb.block g hl]; exact hh, hc⟩⟩
theorem drew {W : World} {g : Nat} {xs : List Nat} (h : BRow W g xs) : BRow W.drew g xs := by
  obtain ⟨cs, hh, hc⟩ := h.row
  exact ⟨⟨cs, hh, hc⟩⟩
theorem drewN {W : World} {g : Nat} {xs : List Nat} (h : BRow W g xs) (n : Nat) : BRow (W.drewN n) g xs := by
  obtain ⟨cs, hh, hc⟩ := h.row
  exact ⟨⟨cs, hh, hc⟩⟩
theorem set {W : World} {g : Nat} {xs : List Nat} (h : BRow W g xs) (j y : Nat) : BRow (W.setCell ⟨g, j, none⟩ (.int .u8 (y : Int))) g (xs.set j y) := by
  obtain ⟨cs, hh, hc⟩ := h.row
  refine ⟨⟨cs.setIfInBounds j (.int .u8 (y : Int)), ?_, ?_⟩⟩
  · simp [World.setCell, Array.getElem?_modify, hh]
  · intro i hi
    rw [List.length_set] at hi
    rw [Array.getElem?_setIfInBounds, List.getElem_set]
    have := (Array.getElem?_eq_some_iff.1 (hc i hi)).1
    by_cases e : j = i
    · subst e; simp [this]
    · simp [e, hc i hi]
theorem below_set {B : Nat} {w W : World} (hb : Below B w W) {g : Nat} (hg : B ≤ g) (j : Nat) (v : Value) : Below B w (W.setCell ⟨g, j, none⟩ v) := hb.setCell hg v
/-- The row that a text is turned into. -/
theorem made (W : World) (s : ByteArray) : BRow (Lib.bytesWorld W 5 s) W.heap.size (s.data.toList.map UInt8.toNat) := by
  refine ⟨⟨Lib.bytesCells W 5 s, Lib.bytesWorld_at_new W 5 s, ?_⟩⟩
  intro j hj
  simp only [List.length_map, Array.length_toList] at hj
  have hs : j < s.data.size := hj
  simp only [Lib.bytesCells]
  rw [Array.getElem?_append_left (by simpa using hs)]
  simp only [Array.getElem?_map, List.getElem_map, Array.getElem_toList]
  rw [Array.getElem?_eq_getElem hs]
  rfl
theorem made_below (W : World) (s : ByteArray) : Below W.heap.size W (Lib.bytesWorld W 5 s) :=
  ⟨rfl, rfl, rfl, by rw [Lib.bytesWorld_size]; omega, fun k hk => Lib.bytesWorld_at_old W 5 s k hk⟩
/-- A text of bytes. -/
def text (xs : List Nat) : ByteArray := strOfNums (xs.map Int.ofNat)
theorem conv {W : World} {g : Nat} {xs : List Nat} (h : BRow W g xs) (cap : Nat) : (convert 27 9 (.slice (some ⟨g, 0, none⟩) xs.length cap)).run Try.prog W = .ok (.string (text xs)) W := by
  refine run_convert_bytes_arg W 27 5 Try.underlying27 Try.underlying5 g 0 xs.length cap (xs.map Int.ofNat) (by simp) (fun i hi => ?_) 9 Try.underlying9
  have := cell h i hi
  simpa [hi] using this
theorem text_size (xs : List Nat) : (text xs).size = xs.length := by simp [text, strOfNums_size]
theorem text_bytes (xs : List Nat) (h : ∀ x ∈ xs, x < 256) : (text xs).data.toList.map UInt8.toNat = xs := by
  rw [text, strOfNums_data, List.map_map, List.map_map]
  conv => rhs; rw [← List.map_id xs]
  apply List.map_congr_left
  intro x hx
  have := h x hx
  simp only [Function.comp_apply, Int.toNat_natCast, id, Int.ofNat_eq_natCast]
  exact UInt8.toNat_ofNat_of_lt' (by simpa using this)
end Go.Proofs.Ytaeocbbapnfcaaa.BRow
