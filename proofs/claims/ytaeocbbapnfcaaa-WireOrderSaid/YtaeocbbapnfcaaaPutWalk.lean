/- The walk through wire.Put: the varint of a number. -/
import Derived.Test.YtaeocbbapnfcaaaProg
import Derived.Test.YtaeocbbapnfcaaaBase
import Derived.Test.YtaeocbbapnfcaaaWWords
import Derived.Test.YtaeocbbapnfcaaaWLast
import Derived.WalkKit
import Derived.KernelRfl
import Derived.Below
import Derived.ScopeJumps
import Derived.WalkMore
import Derived.OwnWalk
namespace Go.Proofs.Ytaeocbbapnfcaaa.PutWalk
open Go.RowKit Go.Proofs.YtaeocbbapnfcaaaW.PrintWords Base
set_option linter.unusedVariables false
set_option linter.unusedSimpArgs false

theorem info5 : (Try.prog.info? 5).map (fun i => (i.zero, i.size, i.bytes)) = some (some (.int .u8 0), 1, 1) := by kernel_rfl

/-- Seven bits a byte, the lowest first; all but the last one marked. (k: how many more there may be.) -/
def vput : Nat → Nat → List Nat
  | 0, n => [n]
  | k + 1, n => if 127 < n then (128 + n % 128) :: vput k (n / 128) else [n]
theorem vput_more (k m : Nat) (h : 127 < m) : vput (k + 1) m = (128 + m % 128) :: vput k (m / 128) := if_pos h
theorem vput_last (k m : Nat) (h : m ≤ 127) : vput k m = [m] := by
  cases k with
  | zero => rfl
  | succ k => exact if_neg (by omega)
set_option maxRecDepth 100000 in
theorem or_low : ∀ x : Fin 256, (x.val ||| 128) = 128 + x.val % 128 := by decide
theorem byte_more (m : Nat) : Go.bits .or .u8 ((m : Int) % 256) 128 = ((128 + m % 128 : Nat) : Int) := by
  have e : ((m : Int) % 256) = ((m % 256 : Nat) : Int) := by omega
  rw [e, show (128 : Int) = ((128 : Nat) : Int) from rfl, u8_or_nat _ _ (by omega) (by omega), or_low ⟨m % 256, by omega⟩]
  congr 2
  show m % 256 % 128 = m % 128
  omega
theorem div_lt (k m : Nat) (h : m < 128 ^ (k + 1 + 1)) : m / 128 < 128 ^ (k + 1) := by
  rw [Nat.div_lt_iff_lt_mul (by omega), ← Nat.pow_succ]
  exact h
set_option maxHeartbeats 800000 in
set_option maxRecDepth 100000 in
theorem put_in (n : Nat) (w : World) (h : n < 281474976710656) :
    Calls Try.prog 26 #[.int .i64 (n : Int)] w fun e w' => e = .returned (.string (strOfNums ((vput 7 n).map Int.ofNat))) ∧ Below w.heap.size w w' := by
  have g0 : decide ((n : Int) < 0) = false := decide_eq_false (by omega)
  have g1 : decide ((281474976710655 : Int) < (n : Int)) = false := decide_eq_false (by omega)
  go_enter Try.func26, Try.ntmps26
  go_wp2
  refine wp_scope_jumps 0 (fun a' w' => ∃ (m k : Nat) (v : Value) (p : List Int) (u10 u11 u12 u13 u14 u15 u16 u17 u18 u19 : Value), a' = { tmps := #[.int .i64 (m : Int), undef, .string ⟨#[]⟩, v, .int .i64 (n : Int), .bool false, .bool false, .int .i64 (n : Int), .bool false, .bool false, u10, u11, u12, u13, u14, u15, u16, u17, u18, u19, undef, undef, undef, undef, undef, undef], defers := [] } ∧ Aside0 (p ++ (vput k m).map Int.ofNat = (vput 7 n).map Int.ofNat) ∧ Aside0 (m < 128 ^ (k + 1)) ∧ Aside0 (p.length + k ≤ 7) ∧ Aside0 (m < 281474976710656) ∧ Aside0 (w'.ownsRow w.heap.size 5 1 v p.length (nums .u8 p)) ∧ Aside0 (Below w.heap.size w w')) (fun a' _ => (intOf (a'.tmps.getD 0 undef)).toNat) rfl ?_ ?_
  · go_wp2
    go_step3
    obtain ⟨k, hk⟩ : ∃ k, k = 7 := ⟨_, rfl⟩
    obtain ⟨p, hp⟩ : ∃ p : List Int, p = [] := ⟨_, rfl⟩
    have HP : Aside0 (p ++ (vput k n).map Int.ofNat = (vput 7 n).map Int.ofNat) := ⟨by rw [hk, hp]; rfl⟩
    have HM : Aside0 (n < 128 ^ (k + 1)) := ⟨by rw [hk]; omega⟩
    have HL : Aside0 (p.length + k ≤ 7) := ⟨by rw [hk, hp]; simp⟩
    have HO : Aside0 (w.ownsRow w.heap.size 5 1 (.slice none 0 0) p.length (nums .u8 p)) := ⟨by rw [hp]; exact own_nil _ _ _ _⟩
    have HB := Aside0.mk (Below.refl w.heap.size w)
    have hm48 := Aside0.mk h
    clear hk hp
    by_cases hlt : 127 < n
    · have hlt' : (127 : Int) < (n : Int) := by omega
      cases k with
      | zero => exact absurd HM.out (by omega)
      | succ k =>
        have E := Aside0.mk (byte_more n)
        have HN := Aside0.mk (vput_more k n hlt)
        have hm48' : n < 281474976710656 := hm48.out
        go_wp2_with (first | (at_builtin; refine print_append_num w.heap.size rfl _ _ 27 5 .u8 1 rfl Try.underlying27 info5 (by decide) (.slice none 0 0) p _ rfl rfl HO.out HB.out HB.out.size (by have := HL.out; omega) ?_; intro v1 w1 ho hb hg hat; have HO1 := Aside0.mk ho; have HB1 := Aside0.mk hb; have hcs := own_string Try.underlying27 Try.underlying5 Try.underlying9 ho; clear ho hb hg hat))
        go_step3
        refine ⟨rfl, ?_⟩
        refine ⟨n / 128, k, v1, p ++ [((128 + n % 128 : Nat) : Int)], _, _, _, _, _, _, _, _, _, _, by first | rfl, ⟨by rw [← HP.out, HN.out, List.append_assoc]; rfl⟩, ⟨div_lt k n HM.out⟩, ⟨by have := HL.out; rw [List.length_append]; simp; omega⟩, ⟨by have := hm48.out; omega⟩, ⟨by rw [← E.out]; exact HO1.out⟩, HB1⟩
    · have hlt' : (n : Int) ≤ 127 := by omega
      have HN := Aside0.mk (vput_last k n (by omega))
      go_wp2_with (first | (at_builtin; refine print_append_num w.heap.size rfl _ _ 27 5 .u8 1 rfl Try.underlying27 info5 (by decide) (.slice none 0 0) p _ rfl rfl HO.out HB.out HB.out.size (by have := HL.out; omega) ?_; intro v1 w1 ho hb hg hat; have HO1 := Aside0.mk ho; have HB1 := Aside0.mk hb; have hcs := own_string Try.underlying27 Try.underlying5 Try.underlying9 ho; clear ho hb hg hat))
      go_wp2
      simp only [Exit.jump]
      go_ret
      exact ⟨by rw [← HP.out, HN.out]; rfl, HB1.out⟩

  · rintro a' wr ⟨m, k, v, p, u10, u11, u12, u13, u14, u15, u16, u17, u18, u19, rfl, HP, HM, HL, hm48, HO, HB⟩
    by_cases hlt : 127 < m
    · have hlt' : (127 : Int) < (m : Int) := by omega
      cases k with
      | zero => exact absurd HM.out (by omega)
      | succ k =>
        have E := Aside0.mk (byte_more m)
        have HN := Aside0.mk (vput_more k m hlt)
        have hm48' : m < 281474976710656 := hm48.out
        go_wp2_with (first | (at_builtin; refine print_append_num w.heap.size rfl _ _ 27 5 .u8 1 rfl Try.underlying27 info5 (by decide) v p _ rfl rfl HO.out HB.out HB.out.size (by have := HL.out; omega) ?_; intro v1 w1 ho hb hg hat; have HO1 := Aside0.mk ho; have HB1 := Aside0.mk hb; have hcs := own_string Try.underlying27 Try.underlying5 Try.underlying9 ho; clear ho hb hg hat))
        go_step3
        refine ⟨rfl, ?_⟩
        refine ⟨?_, by simp [intOf]; omega⟩
        refine ⟨m / 128, k, v1, p ++ [((128 + m % 128 : Nat) : Int)], _, _, _, _, _, _, _, _, _, _, by first | rfl, ⟨by rw [← HP.out, HN.out, List.append_assoc]; rfl⟩, ⟨div_lt k m HM.out⟩, ⟨by have := HL.out; rw [List.length_append]; simp; omega⟩, ⟨by have := hm48.out; omega⟩, ⟨by rw [← E.out]; exact HO1.out⟩, HB1⟩
    · have hlt' : (m : Int) ≤ 127 := by omega
      have HN := Aside0.mk (vput_last k m (by omega))
      go_wp2_with (first | (at_builtin; refine print_append_num w.heap.size rfl _ _ 27 5 .u8 1 rfl Try.underlying27 info5 (by decide) v p _ rfl rfl HO.out HB.out HB.out.size (by have := HL.out; omega) ?_; intro v1 w1 ho hb hg hat; have HO1 := Aside0.mk ho; have HB1 := Aside0.mk hb; have hcs := own_string Try.underlying27 Try.underlying5 Try.underlying9 ho; clear ho hb hg hat))
      go_wp2
      simp only [Exit.jump]
      go_ret
      exact ⟨by rw [← HP.out, HN.out]; rfl, HB1.out⟩


/-- What Put hands back, whatever it is handed. -/
def putS (a : Int) : ByteArray := if a < 0 then ⟨#[]⟩ else if a > 281474976710655 then ⟨#[]⟩ else strOfNums ((vput 7 a.toNat).map Int.ofNat)
set_option maxHeartbeats 400000 in
theorem put_any (a : Int) (w : World) : Calls Try.prog 26 #[.int .i64 a] w fun e w' => e = .returned (.string (putS a)) ∧ Below w.heap.size w w' := by
  by_cases h0 : a < 0
  · rw [putS, if_pos h0]
    go_enter Try.func26, Try.ntmps26
    go_wp2
    refine wp_scope_straight ?_
    go_wp2
    simp only [Exit.noGoto]
    go_ret
    exact ⟨rfl, Below.refl _ _⟩
  · by_cases h1 : a > 281474976710655
    · rw [putS, if_neg h0, if_pos h1]
      go_enter Try.func26, Try.ntmps26
      go_wp2
      refine wp_scope_straight ?_
      go_wp2
      simp only [Exit.noGoto]
      go_ret
      exact ⟨rfl, Below.refl _ _⟩
    · obtain ⟨n, rfl⟩ := Int.eq_ofNat_of_zero_le (show 0 ≤ a by omega)
      rw [putS, if_neg h0, if_neg h1]
      exact put_in n w (by omega)
end Go.Proofs.Ytaeocbbapnfcaaa.PutWalk
