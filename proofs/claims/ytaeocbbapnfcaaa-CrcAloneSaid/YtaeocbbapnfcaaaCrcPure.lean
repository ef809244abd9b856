/- What the printed functions of the checksum's statements come to: the plain facts' own sums. -/
import Derived.Test.YtaeocbbapnfcaaaPCrcx1
import Derived.Test.YtaeocbbapnfcaaaBase
namespace Go.Proofs.Ytaeocbbapnfcaaa.CrcPure
open Go.RowKit Go.Proofs.Ytaeocbbapnfcaaa.PCrc Go.Proofs.YtaeocbbapnfcaaaW.PrintWords Go.Proofs.YtaeocbbapnfcaaaW.PrintLast Crc CrcWalk Base

theorem roll_f (s : Int) (t : ByteArray) (h : t.size ≤ 140737488351232) : crc_Roll.f s t = some (rollI s t) := if_pos h
theorem of_f (t : ByteArray) (h : t.size ≤ 140737488351232) : crc_Of.f t = some (rollI 0 t) := by
  unfold crc_Of.f
  rw [roll_f 0 t h]
  rfl
theorem rollI_nat (s : Nat) (t : ByteArray) (h : s < 4294967296) : rollI (s : Int) t = ((sum s (bys t) : Nat) : Int) := by
  rw [rollI, if_neg (by omega), if_neg (by omega)]
  rfl
theorem fixed_f : transhumancelaw02_fixed.f = some true := by
  unfold transhumancelaw02_fixed.f
  rw [of_f _ (by decide), of_f _ (by decide), of_f _ (by decide)]
  simp only [Option.bind_some]
  have e1 : rollI 0 (⟨#[49, 50, 51, 52, 53, 54, 55, 56, 57]⟩ : ByteArray) = 3421780262 := by decide +kernel
  have e2 : rollI 0 (⟨#[]⟩ : ByteArray) = 0 := by decide +kernel
  have e3 : rollI (rollI 0 (⟨#[49, 50, 51, 52]⟩ : ByteArray)) (⟨#[53, 54, 55, 56, 57]⟩ : ByteArray) = 3421780262 := by decide +kernel
  rw [if_pos e1, if_pos e2, roll_f _ _ (by decide)]
  simp only [Option.bind_some]
  rw [if_pos e3, roll_f _ _ (by decide), roll_f _ _ (by decide)]
  rfl
theorem bys_lt (t : ByteArray) : ∀ b ∈ bys t, b < 256 := by
  intro b hb
  simp only [bys, List.mem_map] at hb
  obtain ⟨x, _, rfl⟩ := hb
  exact x.toNat_lt
theorem bys_append (s t : ByteArray) : bys (s ++ t) = bys s ++ bys t := by simp [bys]
theorem roll_lt' (x : Nat) (t : ByteArray) (h : x < 4294967296) : roll x (bys t) < 4294967296 :=
  roll_lt (bys t) (x := x) h (fun b hb => by have := bys_lt t b hb; omega)
theorem sum_lt (s : Nat) (l : List Nat) : sum s l < 4294967296 := by unfold sum; omega
theorem compl_sum (s : Nat) (t : ByteArray) (h : s < 4294967296) : 4294967295 - sum s (bys t) = roll (4294967295 - s) (bys t) := by
  have := roll_lt' (4294967295 - s) t (by omega)
  unfold sum
  omega
theorem sum_append (s : Nat) (t u : ByteArray) (h : s < 4294967296) : sum s (bys (t ++ u)) = sum (sum s (bys t)) (bys u) := by
  rw [bys_append]
  show _ = 4294967295 - roll (4294967295 - sum s (bys t)) (bys u)
  rw [compl_sum s t h, ← roll_append]
  rfl
theorem sum_nil (s : Nat) (h : s < 4294967296) : sum s [] = s := by unfold sum; rw [roll_nil]; omega
/-- Texts that go on alike from two states. -/
theorem roll_same (x y : Nat) (t : ByteArray) (hx : x < 4294967296) (hy : y < 4294967296) : (roll x (bys t) = roll y (bys t)) ↔ x = y := by
  constructor
  · intro h
    rw [roll_val, roll_val] at h
    have h2 : it (8 * (bys t).length) (x ^^^ y) = 0 := by
      have e : x ^^^ y = (x ^^^ val (bys t)) ^^^ (y ^^^ val (bys t)) := by
        rw [Nat.xor_comm y, Nat.xor_assoc, ← Nat.xor_assoc (val (bys t)), Nat.xor_self, Nat.zero_xor]
      rw [e, it_xor, h, Nat.xor_self]
    exact xor_eq_zero.1 (it_ne _ (Nat.xor_lt_two_pow hx hy) h2)
  · rintro rfl; rfl
theorem sum_same (x y : Nat) (t : ByteArray) (hx : x < 4294967296) (hy : y < 4294967296) : (sum x (bys t) = sum y (bys t)) ↔ x = y := by
  have h := roll_same (4294967295 - x) (4294967295 - y) t (by omega) (by omega)
  have h1 := roll_lt' (4294967295 - x) t (by omega)
  have h2 := roll_lt' (4294967295 - y) t (by omega)
  unfold sum
  constructor
  · intro h3; have := h.1 (by omega); omega
  · rintro rfl; rfl

end Go.Proofs.Ytaeocbbapnfcaaa.CrcPure
