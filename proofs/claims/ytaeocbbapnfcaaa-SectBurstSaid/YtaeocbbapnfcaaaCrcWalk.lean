/- The walk through the checksum's package: a byte's remainder, the table of all remainders, and the sum rolled on: what the machine's calls hand back is the plain facts' own number. -/
import Derived.Test.YtaeocbbapnfcaaaProg
import Derived.Test.YtaeocbbapnfcaaaCrcPlain
import Derived.Test.YtaeocbbapnfcaaaWWords
import Derived.Test.YtaeocbbapnfcaaaWLast
import Derived.WalkKit
import Derived.KernelRfl
import Derived.Below
import Derived.Deep.LoopGhost
import Derived.Deep.WholeRow
import Derived.Laws.BitsAllLaws
namespace Go.Proofs.Ytaeocbbapnfcaaa.CrcWalk
open Go.RowKit Go.Proofs.YtaeocbbapnfcaaaW.PrintWords Crc
set_option linter.unusedVariables false
set_option linter.unusedSimpArgs false

theorem it_next (n x : Nat) : it (n + 1) x = s1 (it n x) := by rw [it_add n 1]; rfl

theorem s1_walk (x : Nat) (h : x < 4294967296) : Go.bits .xor .u32 ((x : Int) / 2) ((3988292384 * (Go.bits .and .u32 (x : Int) 1)) % 4294967296) = ((s1 x : Nat) : Int) := by
  have e1 : Go.bits .and .u32 (x : Int) 1 = ((x &&& 1 : Nat) : Int) := u32_and_nat x 1 h (by decide)
  rw [e1, nat_mask1]
  have e2 : ((x : Int) / 2) = ((x / 2 : Nat) : Int) := by omega
  rw [e2]
  rcases Nat.mod_two_eq_zero_or_one x with hx | hx
  · have e3 : (3988292384 * ((x % 2 : Nat) : Int)) % 4294967296 = ((0 : Nat) : Int) := by rw [hx]; rfl
    rw [e3, u32_xor_nat (x / 2) 0 (by omega) (by decide), s1, if_neg (by omega), Nat.xor_zero]
  · have e3 : (3988292384 * ((x % 2 : Nat) : Int)) % 4294967296 = ((3988292384 : Nat) : Int) := by rw [hx]; rfl
    rw [e3, u32_xor_nat (x / 2) 3988292384 (by omega) (by decide), s1, if_pos hx]

set_option maxHeartbeats 400000 in
theorem remainder_any (b : Nat) (w : World) (h : b < 4294967296) :
    Calls Try.prog 67 #[.int .u32 (b : Int)] w fun e w' => e = .returned (.int .u32 ((it 8 b : Nat) : Int)) ∧ w = w' := by
  go_enter Try.func67, Try.ntmps67
  go_wp2
  go_loop [0, 3] (fun v0 v3 => ∃ i : Nat, i ≤ 8 ∧ v3 = .int .i64 (i : Int) ∧ v0 = .int .u32 ((it i b : Nat) : Int)) (fun _ v3 => 8 - (intOf v3).toNat)
  case atStart => exact ⟨0, by omega, rfl, rfl⟩
  case round =>
    obtain ⟨i, hi, rfl, rfl⟩ := hrel
    by_cases hlt : i < 8
    · have hb : it i b < 4294967296 := it_lt i h
      have HS := Aside0.mk (s1_walk (it i b) hb)
      have HN := Aside0.mk (it_next i b)
      clear hb h
      generalize it i b = x at *
      go_wp2
      go_round
      case rel => exact ⟨i + 1, by omega, by go_num, by rw [HN.out, ← HS.out]⟩
      case measure => simp [intOf]; omega
    · obtain rfl : i = 8 := by omega
      go_wp2
      go_ret
      exact ⟨rfl, rfl⟩

/-- The table, so many of its remainders laid. -/
def tab (n : Nat) : Array Value := Array.ofFn (n := 256) fun i => .int .u32 (((if i.val < n then it 8 i.val else 0 : Nat)) : Int)
theorem tab_size (n : Nat) : (tab n).size = 256 := by simp [tab]
theorem tab_zero : Array.replicate 256 (Value.int .u32 0) = tab 0 := by
  apply Array.ext
  · simp [tab]
  · intro i h1 h2; simp [tab]
theorem tab_set (n : Nat) (h : n < 256) : (tab n).setIfInBounds n (.int .u32 ((it 8 n : Nat) : Int)) = tab (n + 1) := by
  apply Array.ext
  · simp [tab]
  · intro i h1 h2
    simp only [tab, Array.size_setIfInBounds, Array.size_ofFn] at h1
    rw [Array.getElem_setIfInBounds (by simpa [tab] using h1)]
    by_cases e : n = i
    · subst e; simp [tab]
    · have : (i < n) = (i < n + 1) := by simp; omega
      simp [tab, e, this]
theorem tab_get (i : Nat) (h : i < 256) : (tab 256)[i]? = some (.int .u32 ((it 8 i : Nat) : Int)) := by
  rw [Array.getElem?_eq_getElem (by rw [tab_size]; exact h)]
  simp [tab, h]
theorem tab_one (n : Nat) : (tab n).all (·.oneCell') = true := by
  rw [Array.all_eq_true]
  intro i hi
  simp [tab, Value.oneCell']
theorem info76 : (Try.prog.info? 76).map (fun i => (i.zero, i.size)) = some (some (.agg (Array.replicate 256 (.int .u32 0))), 256) := by kernel_rfl

theorem wp_load_row {op : Oper} {a : Act} {w : World} {K : Act → World → Prop} {Q : Exit → Act → World → Prop} (ty : TypeId) (x : Operand) (ho : op.op = .load ty x) (b : Nat) (hx : a.eval x = .pointer (some ⟨b, 0, none⟩))
    (c : Array Value) (t : TypeId) (hb : w.heap[b]? = some (.cells c t (0, 0))) (n : Nat) (e : TypeId) (hu : Try.prog.underlying ty = some (.array n e)) (hi : (Try.prog.info? ty).map (·.size) = some c.size) (h : K (a.put op.dst (.agg c)) w) : op.wp Try.prog a w K Q := by
  unfold Oper.wp execOp
  simp only [ho, hx, Instr.loadAt, Instr.sureAddr, Sem.run_bind, Sem.run_pure, Result.andThen_ok, run_loadVar_row _ _ t ty c (0, 0) _ hb hu rfl hi]
  exact h
theorem wp_store_row {op : Oper} {a : Act} {w : World} {K : Act → World → Prop} {Q : Exit → Act → World → Prop} (ty : TypeId) (x y : Operand) (ho : op.op = .store ty x y) (b : Nat) (c' : Array Value) (hx : a.eval x = .pointer (some ⟨b, 0, none⟩)) (hy : a.eval y = .agg c')
    (c : Array Value) (t : TypeId) (hb : w.heap[b]? = some (.cells c t (0, 0))) (hi : (Try.prog.info? ty).map (·.size) = some c'.size) (hs : c.size = c'.size) (h1 : c'.all (·.oneCell') = true) (h : K (a.put op.dst undef) (w.setRow b c')) : op.wp Try.prog a w K Q := by
  unfold Oper.wp execOp
  simp only [ho, hx, hy, Instr.storeAt, Instr.sureAddr, Sem.run_bind, Sem.run_pure, Result.andThen_ok, run_storeVar_row _ _ t ty c c' hb hi hs h1]
  exact h
theorem wpList_lrow {ops : Array Oper} {rest : List Oper} {op : Oper} {a : Act} {w : World} {Q : Exit → Act → World → Prop} (hgd : op.guard = none) (ty : TypeId) (x : Operand) (ho : op.op = .load ty x) (b : Nat) (hx : a.eval x = .pointer (some ⟨b, 0, none⟩))
    (c : Array Value) (t : TypeId) (hb : w.heap[b]? = some (.cells c t (0, 0))) (n : Nat) (e : TypeId) (hu : Try.prog.underlying ty = some (.array n e)) (hi : (Try.prog.info? ty).map (·.size) = some c.size) (h : wpList Try.prog ops Q rest (a.put op.dst (.agg c)) w) : wpList Try.prog ops Q (op :: rest) a w :=
  wpList_plain hgd fun _ hK => wp_load_row ty x ho b hx c t hb n e hu hi (hK _ _ h)
theorem wpList_srow {ops : Array Oper} {rest : List Oper} {op : Oper} {a : Act} {w : World} {Q : Exit → Act → World → Prop} (hgd : op.guard = none) (ty : TypeId) (x y : Operand) (ho : op.op = .store ty x y) (b : Nat) (c' : Array Value) (hx : a.eval x = .pointer (some ⟨b, 0, none⟩)) (hy : a.eval y = .agg c')
    (c : Array Value) (t : TypeId) (hb : w.heap[b]? = some (.cells c t (0, 0))) (hi : (Try.prog.info? ty).map (·.size) = some c'.size) (hs : c.size = c'.size) (h1 : c'.all (·.oneCell') = true) (h : wpList Try.prog ops Q rest (a.put op.dst undef) (w.setRow b c')) : wpList Try.prog ops Q (op :: rest) a w :=
  wpList_plain hgd fun _ hK => wp_store_row ty x y ho b c' hx hy c t hb hi hs h1 (hK _ _ h)
theorem setRow_under (w : World) (c c' d : Array Value) (t u : TypeId) : ((w.alloc (.cells c t)).alloc (.cells d u)).setRow w.heap.size c' = (w.alloc (.cells c' t)).alloc (.cells d u) := by
  simp only [World.setRow, World.alloc]
  congr 1
  apply Array.ext_getElem?
  intro i
  rw [Array.getElem?_modify]
  by_cases h : w.heap.size = i
  · subst h
    simp [Array.getElem?_push]
  · have h' : ¬ i = w.heap.size := fun e => h e.symm
    simp [h, h', Array.getElem?_push]
theorem heap_under (w : World) (o p : Obj) : ((w.alloc o).alloc p).heap[w.heap.size]? = some o := by
  show ((w.heap.push o).push p)[w.heap.size]? = some o
  simp [Array.getElem?_push]
theorem heap_over (w : World) (o p : Obj) : ((w.alloc o).alloc p).heap[w.heap.size + 1]? = some p := by
  have := heap_alloc_last (w.alloc o) p
  rwa [show (w.alloc o).heap.size = w.heap.size + 1 by simp] at this

attribute [irreducible] tab
set_option maxHeartbeats 400000 in
set_option maxRecDepth 100000 in
theorem table_any (w : World) :
    Calls Try.prog 51 #[] w fun e w' => e = .returned (.agg (tab 256)) ∧ (w.alloc (.cells (tab 256) 76)).alloc (.cells (tab 256) 76) = w' := by
  have hv76 := (zero_of_info info76).1
  have hi76 := (zero_of_info info76).2
  go_enter Try.func51, Try.ntmps51
  go_wp2_with fail
  rw [tab_zero]
  go_loopg [3] 256 (fun g s3 wx => ∃ i : Nat, i + g = 256 ∧ s3 = .int .i64 i ∧ wx = (w.alloc (.cells (tab 0) 76)).alloc (.cells (tab i) 76))
  case atStart => exact ⟨0, by omega, rfl, rfl⟩
  case round =>
    obtain ⟨i, hig, rfl, rfl⟩ := hrel
    cases gk with
    | zero =>
      obtain rfl : i = 256 := by omega
      clear hig
      have hu := (by kernel_rfl : Try.prog.underlying 76 = some (.array 256 75))
      have hsz : (Try.prog.info? 76).map (·.size) = some (tab 256).size := by rw [tab_size]; exact hi76
      have hs2 : (tab 0).size = (tab 256).size := by rw [tab_size, tab_size]
      have h1 := tab_one 256
      have H := Aside0.mk (And.intro hu (And.intro hsz (And.intro hs2 h1)))
      clear hu hsz hs2 h1 hv76 hi76
      go_wp2_with (first | (refine wpList_lrow rfl 76 _ rfl (w.heap.size + 1) rfl (tab 256) 76 (heap_over _ _ _) 256 75 H.out.1 H.out.2.1 ?_) | (refine wpList_srow rfl 76 _ _ rfl w.heap.size (tab 256) rfl rfl (tab 0) 76 (heap_under _ _ _) H.out.2.1 H.out.2.2.1 H.out.2.2.2 ?_; rw [setRow_under]))
      refine bodyPost_ret (v := .agg (tab 256)) ?_ rfl ⟨rfl, rfl⟩
      exact results_cell_row rfl _ _ w.heap.size 76 (tab 256) (0, 0) _ rfl (heap_under _ _ _) H.out.1 rfl H.out.2.1
    | succ g =>
      have hi : i < 256 := by omega
      have HT := Aside0.mk (tab_set i hi)
      have hi32 : i < 4294967296 := by omega
      obtain ⟨v, hv⟩ : ∃ v, (tab i)[i]? = some v := ⟨_, Array.getElem?_eq_getElem (by rw [tab_size]; exact hi)⟩
      have HG := Aside0.mk hig
      clear hig hv76 hi76
      go_wp2_with (go_at_call 67; refine (remainder_any i _ hi32).mono ?_; rintro e w' ⟨rfl, rfl⟩)
      go_roundg g
      case measure => omega
      case rel => exact ⟨i + 1, by have := HG.out; omega, by first | rfl | simp, by rw [← HT.out]⟩

/-- A text's bys, as numbers. -/
def bys (t : ByteArray) : List Nat := t.data.toList.map UInt8.toNat

theorem table_below (w : World) : Calls Try.prog 51 #[] w fun e w' => e = .returned (.agg (tab 256)) ∧ Below w.heap.size w w' :=
  (table_any w).mono fun e w' ⟨h1, h2⟩ => ⟨h1, h2 ▸ ((Below.refl _ _).alloc (Nat.le_refl _) _).alloc (by simp) _⟩
theorem low_walk (x : Nat) (b : UInt8) : Go.bits .xor .u8 ((x : Int) % 256) (b.toNat : Int) = (((x % 256) ^^^ b.toNat : Nat) : Int) := by
  have e : ((x : Int) % 256) = ((x % 256 : Nat) : Int) := by omega
  rw [e]
  exact u8_xor_nat _ _ (by omega) b.toNat_lt
theorem low_lt (x : Nat) (b : UInt8) : (x % 256) ^^^ b.toNat < 256 := Nat.xor_lt_two_pow (n := 8) (by omega) b.toNat_lt
theorem byte_walk (x : Nat) (b : UInt8) (h : x < 4294967296) : Go.bits .xor .u32 ((x : Int) / 256) ((it 8 ((x % 256) ^^^ b.toNat) : Nat) : Int) = ((stp x b.toNat : Nat) : Int) := by
  have e : ((x : Int) / 256) = ((x / 256 : Nat) : Int) := by omega
  have hl : it 8 ((x % 256) ^^^ b.toNat) < 4294967296 := it_lt 8 (Nat.lt_of_lt_of_le (low_lt x b) (by decide))
  rw [e, u32_xor_nat _ _ (by omega) hl, byte_step]
  rfl
theorem stp_lt {x : Nat} (b : UInt8) (h : x < 4294967296) : stp x b.toNat < 4294967296 := it_lt 8 (Nat.xor_lt_two_pow (n := 32) h (by have := b.toNat_lt; omega))
theorem compl_walk (x : Nat) (h : x < 4294967296) : Go.bits .xor .u32 IntKind.u32.max (x : Int) = ((4294967295 - x : Nat) : Int) := by
  have e : IntKind.u32.max = ((4294967295 : Nat) : Int) := rfl
  rw [e, u32_xor_nat _ _ (by omega) h, compl_xor h]
theorem bys_size (t : ByteArray) : (bys t).length = t.size := by simp [bys]
theorem bys_next (t : ByteArray) (k : Nat) (h : k < t.size) : (bys t).take (k + 1) = (bys t).take k ++ [t[k].toNat] := by
  rw [List.take_succ_eq_append_getElem (by rw [bys_size]; exact h)]
  simp [bys]
  rfl
theorem roll_next (x0 : Nat) (t : ByteArray) (k : Nat) (h : k < t.size) : roll x0 ((bys t).take (k + 1)) = stp (roll x0 ((bys t).take k)) t[k].toNat := by
  rw [bys_next t k h, roll_append, roll_cons, roll_nil]
theorem heap_last (w : World) (o : Obj) : (w.alloc o).heap[w.heap.size]? = some o := heap_alloc_last w o

set_option maxHeartbeats 400000 in
set_option maxRecDepth 100000 in
theorem roll_in (s : Nat) (t : ByteArray) (w : World) (hs : s < 4294967296) (ht : t.size ≤ 140737488351232) :
    Calls Try.prog 23 #[.int .i64 (s : Int), .string t] w fun e w' => e = .returned (.int .i64 ((sum s (bys t) : Nat) : Int)) ∧ Below w.heap.size w w' := by
  have hv76 := (zero_of_info info76).1
  have hi76 := (zero_of_info info76).2
  have hu := (by kernel_rfl : Try.prog.underlying 76 = some (.array 256 75))
  have hsz : (Try.prog.info? 76).map (·.size) = some (tab 256).size := by rw [tab_size]; exact hi76
  have hs2 : (Array.replicate 256 (Value.int .u32 0)).size = (tab 256).size := by rw [tab_size, Array.size_replicate]
  have h1 := tab_one 256
  have H := Aside0.mk (And.intro hu (And.intro hsz (And.intro hs2 h1)))
  clear hu hsz hs2 h1 hi76
  have q1 : (s : Int) ≤ 4294967295 := by omega
  have q0 : 0 ≤ (s : Int) := by omega
  clear hs
  go_enter Try.func23, Try.ntmps23
  go_wp2_with (first | (go_at_call 51; refine (table_below _).mono ?_; rintro e w1 ⟨rfl, hb⟩; have HB := Aside0.mk hb; clear hb) | (refine wpList_srow rfl 76 _ _ rfl _ (tab 256) rfl rfl _ 76 (heap_last _ _) H.out.2.1 H.out.2.2.1 H.out.2.2.2 ?_; rw [World.setRow_alloc_new]))
  clear H hv76
  go_loop [6, 20] (fun v6 v20 => ∃ (k x : Nat), k ≤ t.size ∧ x < 4294967296 ∧ v20 = .int .i64 (k : Int) ∧ v6 = .int .u32 (x : Int) ∧ Aside0 (roll (4294967295 - s) ((bys t).take k) = x)) (fun _ v20 => t.size - (intOf v20).toNat)
  case atStart =>
    have hs : s < 4294967296 := by omega
    exact ⟨0, 4294967295 - s, by omega, by omega, rfl, by rw [compl_walk s hs], ⟨by rw [List.take_zero, roll_nil]⟩⟩
  case round =>
    obtain ⟨k, x, hk, hx, rfl, rfl, HX⟩ := hrel
    clear q0 q1
    by_cases hlt : k < t.size
    · have HN := Aside0.mk (roll_next (4294967295 - s) t k hlt)
      obtain ⟨b, hb⟩ : ∃ b : UInt8, t[k] = b := ⟨_, rfl⟩
      rw [hb] at HN
      have hn := low_lt x b
      have en := low_walk x b
      have HB2 := Aside0.mk (byte_walk x b hx)
      have hx2 := stp_lt b hx
      have hc := tab_get _ hn
      generalize (x % 256) ^^^ b.toNat = n at *
      have hx3 := Aside0.mk hx2
      clear hx2
      go_wp2
      go_round
      case rel => exact ⟨k + 1, stp x b.toNat, by omega, hx3.out, by go_num, by rw [HB2.out], ⟨by rw [HN.out, HX.out]⟩⟩
      case measure => simp [intOf]; omega
    · obtain rfl : k = t.size := by omega
      have e := compl_walk x hx
      have HS : sum s (bys t) = 4294967295 - x := by rw [sum, ← HX.out, ← bys_size, List.take_length]
      have hy : 4294967295 - x < 4294967296 := by omega
      generalize 4294967295 - x = y at *
      have HS' := Aside0.mk HS
      clear HS HX
      go_wp2
      go_ret
      exact ⟨by rw [HS'.out]; rfl, HB.out.alloc HB.out.size _⟩
/-- What Roll hands back, whatever it is handed. -/
def rollI (s : Int) (t : ByteArray) : Int := if s < 0 then 0 else if s > 4294967295 then 0 else ((sum s.toNat (bys t) : Nat) : Int)

set_option maxHeartbeats 400000 in
theorem roll_calls (s : Int) (t : ByteArray) (w : World) (ht : t.size ≤ 140737488351232) :
    Calls Try.prog 23 #[.int .i64 s, .string t] w fun e w' => e = .returned (.int .i64 (rollI s t)) ∧ Below w.heap.size w w' := by
  by_cases h0 : s < 0
  · rw [rollI, if_pos h0]
    go_enter Try.func23, Try.ntmps23
    go_wp2
    go_ret
    exact ⟨rfl, Below.refl _ _⟩
  · by_cases h1 : s > 4294967295
    · rw [rollI, if_neg h0, if_pos h1]
      go_enter Try.func23, Try.ntmps23
      go_wp2
      go_ret
      exact ⟨rfl, Below.refl _ _⟩
    · obtain ⟨n, rfl⟩ := Int.eq_ofNat_of_zero_le (show 0 ≤ s by omega)
      rw [rollI, if_neg h0, if_neg h1]
      exact roll_in n t w (by omega) ht
end Go.Proofs.Ytaeocbbapnfcaaa.CrcWalk
