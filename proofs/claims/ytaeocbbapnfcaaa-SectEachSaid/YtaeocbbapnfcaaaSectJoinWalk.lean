/- strings.Builder at this program: String off the kit's shelf; copyCheck and WriteString walked here (this program's copyCheck refuses where the library's panics, so the shelf's do not fit): lines of the kit's worked walks, turned to this program's numbers. The walk through sect.Join: a Builder is written each section's bytes, one behind the other. -/
import Derived.Shelf.Lay
import Derived.Shelf.Strings.Builder1
import Derived.Test.YtaeocbbapnfcaaaBase
import Derived.Test.YtaeocbbapnfcaaaProg
import Derived.Test.YtaeocbbapnfcaaaSectSays
import Derived.Lib.UnsafeStr
namespace Go.Proofs.Ytaeocbbapnfcaaa.SectShelf
open Go.Shelf Go.RowKit
set_option linter.unusedVariables false
theorem sizeB : (Try.prog.info? 89).map (·.size) = some 2 := by kernel_rfl
theorem infoByte : (Try.prog.info? 5).map (fun i => (i.zero, i.size, i.bytes)) = some (some (.int .u8 0), 1, 1) := by kernel_rfl
theorem copy_used (b : Nat) (w : World) (h0 : w.cell? ⟨b, 0, none⟩ = some (.pointer (some ⟨b, 0, none⟩))) :
    Calls Try.prog 69 #[.pointer (some ⟨b, 0, none⟩)] w fun e w' => e = .returned (.tuple #[]) ∧ w' = w := by
  obtain ⟨j, hj, _⟩ := Option.map_eq_some_iff.1 sizeB
  go_enter Try.func69, Try.ntmps69
  go_wp2
  rw [Lib.run_neq_ptr_same w _ Try.underlying87 hj]
  go_wp2
  go_end0
  exact ⟨rfl, rfl⟩
theorem copy_fresh (b : Nat) (w : World) (h0 : w.cell? ⟨b, 0, none⟩ = some (.pointer none)) (hsh : w.shape? b = some (89, 2)) (hfz : w.frozen? ⟨b, 0, none⟩ = false) :
    Calls Try.prog 69 #[.pointer (some ⟨b, 0, none⟩)] w fun e w' => e = .returned (.tuple #[]) ∧ w' = w.setCell ⟨b, 0, none⟩ (.pointer (some ⟨b, 0, none⟩)) := by
  obtain ⟨j, hj, hjs⟩ := Option.map_eq_some_iff.1 sizeB
  go_enter Try.func69, Try.ntmps69
  go_wp2
  rw [Lib.run_to_unsafe w ⟨b, 0, none⟩ Try.underlying87 Try.underlying97 hj (by rw [hjs]; decide) hsh (Nat.zero_lt_succ 1)]
  simp only [Result.andThen]
  rw [Oper.upon_value]
  go_wp2
  rw [run_callFunc_extern Try.func70 (by kernel_rfl) (by kernel_rfl) (by kernel_rfl) (e := Extern.AbiNoEscape.same) (by kernel_rfl)]
  rw [Lib.run_noEscape]
  simp only [Result.andThen]
  rw [Oper.upon_value]
  go_wp2
  rw [Lib.run_from_unsafe w ⟨b, 0, none⟩ Try.underlying97 Try.underlying87 hj hsh (by kernel_rfl)]
  simp only [Result.andThen]
  rw [Oper.upon_value]
  go_wp2
  go_end0
  exact ⟨rfl, rfl⟩
theorem copy_check (B b : Nat) (bs : List Value) (w : World) (h : Lib.IsBuilder 89 5 B b bs w) :
    Calls Try.prog 69 #[.pointer (some ⟨b, 0, none⟩)] w fun e w' => e = .returned (.tuple #[]) ∧ (Lib.BuilderAt 89 5 B b (.pointer (some ⟨b, 0, none⟩)) bs w' ∧ Below B w w') := by
  rcases h with h | h
  · refine (copy_fresh b w h.cell0 h.shape h.frozen0).mono ?_
    rintro e w' ⟨rfl, rfl⟩
    exact ⟨rfl, h.used _, (Below.refl B w).setCell (p := ⟨b, 0, none⟩) h.1 _⟩
  · refine (copy_used b w h.cell0).mono ?_
    rintro e w' ⟨rfl, rfl⟩
    exact ⟨rfl, h, Below.refl B _⟩
set_option maxHeartbeats 2000000 in
set_option maxRecDepth 100000 in
theorem write_string (B b : Nat) (bs : List Value) (s : ByteArray) (w : World) (h : Lib.IsBuilder 89 5 B b bs w) (hlen : bs.length + s.size ≤ 140737488355328) (hBw : B ≤ w.heap.size) :
    Calls Try.prog 65 #[.pointer (some ⟨b, 0, none⟩), .string s] w fun e w' => e = .returned (.tuple #[.int .i64 s.size, .nilIface]) ∧ (Lib.BuilderAt 89 5 B b (.pointer (some ⟨b, 0, none⟩)) (bs ++ Lib.strCells s) w' ∧ Below B w w') := by
  obtain ⟨i0, hi, hz0, hz1, hz2⟩ := info_parts infoByte
  go_enter Try.func65, Try.ntmps65
  go_wp2_with (go_at_call 69; refine (copy_check B b bs _ h).mono ?_)
  rintro e w1 ⟨rfl, h1, hb1⟩
  obtain ⟨hB, v, hbk, hown, hne⟩ := h1
  have c0 : w1.cell? ⟨b, 0, none⟩ = some (.pointer (some ⟨b, 0, none⟩)) := by rw [Lib.cell_of_heap hbk]; rfl
  have c1 : w1.cell? ⟨b, 1, none⟩ = some v := by rw [Lib.cell_of_heap hbk]; rfl
  go_wp2_with (at_builtin; refine Lib.wpList_append_own_string _ rfl _ _ 27 9 rfl B 5 i0 Try.underlying27 Try.underlying9 hi hz0 hz1 hz2 _ _ _ rfl hown s rfl ?c3 ?c4 ?c5 ?_)
  case c3 => unfold maxLen; omega
  case c4 => omega
  case c5 => have := hb1.size; omega
  intro v' w2 hown' hgrow _
  have hlt : b < w1.heap.size := by
    rcases Nat.lt_or_ge b w1.heap.size with h' | h'
    · exact h'
    · simp [Array.getElem?_eq_none h'] at hbk
  have hb2 : w2.heap[b]? = some (.cells #[.pointer (some ⟨b, 0, none⟩), v] 89 (0, 0)) := by
    rw [hgrow.block b hlt (fun e => hne e.symm)]
    exact hbk
  have d0 : w2.cell? ⟨b, 0, none⟩ = some (.pointer (some ⟨b, 0, none⟩)) := by rw [Lib.cell_of_heap hb2]; rfl
  have d1 : w2.cell? ⟨b, 1, none⟩ = some v := by rw [Lib.cell_of_heap hb2]; rfl
  have f1 : w2.frozen? ⟨b, 1, none⟩ = false := Lib.frozen_of_heap hb2 1
  obtain ⟨ao, n', cap, rfl⟩ : ∃ ao n' cap, v' = .slice ao n' cap := by
    rcases hown'.2 with ⟨hv, _⟩ | ⟨g, cap, cur, hv, _⟩
    · exact ⟨_, _, _, hv⟩
    · exact ⟨_, _, _, hv⟩
  go_wp2
  go_ret2
  refine ⟨rfl, ?_, ?_⟩
  · exact Lib.BuilderAt.put (T := 89) (e := 5) hB hb2 (bs' := bs ++ Lib.strCells s) (by simpa [Lib.strCells_length] using hown') (by decide)
  · exact (hb1.grown hgrow (by have := hb1.size; omega) (fun k hk => (hown.lt k hk).1)).setCell (p := ⟨b, 1, none⟩) hB _
/-- The numbers of this program's own functions and types for those of the shelf's. -/
def Try.lays169_ren : Go.Shelf.Ren := ⟨fun | 169 => 66 | n => n, fun | 70 => 87 | 9 => 9 | 0 => 0 | 72 => 89 | 37 => 27 | 127 => 96 | 3 => 3 | 5 => 5 | n => n, fun | n => n⟩
theorem Try.lays169 : Go.Proofs.Lays.n169 Try.prog Try.lays169_ren := { mixed := by kernel_rfl, f169 := Try.func66.trans (congrArg some (by kernel_rfl)), t0 := Try.underlying0, a0 := Try.isAgg0, z0 := Try.sizeOf0, v0 := Try.zeroValue0, t3 := Try.underlying3, a3 := Try.isAgg3, z3 := Try.sizeOf3, v3 := Try.zeroValue3, t9 := Try.underlying9, a9 := Try.isAgg9, z9 := Try.sizeOf9, v9 := Try.zeroValue9, t37 := Try.underlying27, a37 := Try.isAgg27, z37 := Try.sizeOf27, v37 := Try.zeroValue27, t70 := Try.underlying87, a70 := Try.isAgg87, z70 := Try.sizeOf87, v70 := Try.zeroValue87, t72 := Try.underlying89, a72 := Try.isAgg89, z72 := Try.sizeOf89, v72 := Try.zeroValue89, t127 := Try.underlying96, a127 := Try.isAgg96, z127 := Try.sizeOf96, v127 := Try.zeroValue96 }
theorem Try.Builder_Extra_169 : Builder.Extra Try.prog Try.lays169_ren where
  sizeBuilder := by kernel_rfl
  liesBuilder := by kernel_rfl
  t5 := Try.underlying5
  a5 := Try.isAgg5
  z5 := Try.sizeOf5
  v5 := Try.zeroValue5
  infoByte := by kernel_rfl
  cellsByte := by kernel_rfl
  sizeByte := by kernel_rfl
  neB5 := by decide
theorem string_any (B b : Nat) (l : List UInt8) (w : World) (h : Lib.IsBuilder 89 5 B b (Lib.byteCells l) w) (hBw : B ≤ w.heap.size) :
    Calls Try.prog 66 #[.pointer (some ⟨b, 0, none⟩)] w fun e w' => e = .returned (.string ⟨l.toArray⟩) ∧ Below B w w' := Any.Builder_String_any Try.lays169 Try.Builder_Extra_169 B b l w h hBw
end Go.Proofs.Ytaeocbbapnfcaaa.SectShelf
namespace Go.Proofs.Ytaeocbbapnfcaaa.SectJoinWalk
open Go.RowKit Go.Proofs.YtaeocbbapnfcaaaW.PrintWords Go.Proofs.YtaeocbbapnfcaaaW.PrintLast Base SectShelf SectSays
set_option linter.unusedVariables false
set_option linter.unusedSimpArgs false

theorem builder_below {T e : TypeId} {B b : Nat} {bs : List Value} {w w1 : World} (h : Lib.IsBuilder T e B b bs w) (hb : Below w.heap.size w w1) : Lib.IsBuilder T e B b bs w1 := by
  have key : ∀ p, Lib.BuilderAt T e B b p bs w → Lib.BuilderAt T e B b p bs w1 := by
    rintro p hp
    have hl := hp.lt
    obtain ⟨hB, v, hbk, hown, hne⟩ := hp
    exact ⟨hB, v, by rw [hb.block b hl]; exact hbk, own_move hown (fun k hk => hb.block k (own_lt hown k hk)), hne⟩
  exact h.imp (key _) (key _)
/-- The first sections' bytes. -/
def joined (T : Nat → Int) (P : Nat → ByteArray) : Nat → ByteArray
  | 0 => ⟨#[]⟩
  | k + 1 => joined T P k ++ secS (T k) (P k)
/-- A row of sections. -/
def Row (T : Nat → Int) (P : Nat → ByteArray) (n : Nat) (A : Option Addr) (w : World) : Prop := ∀ i, i < n → ∃ ad : Addr, A = some ad ∧ w.cell? (ad.add (i * 2)) = some (.int .i64 (T i)) ∧ w.cell? ⟨(ad.add (i * 2)).block, (ad.add (i * 2)).off + 1, none⟩ = some (.string (P i))
theorem row_below {T : Nat → Int} {P : Nat → ByteArray} {n : Nat} {A : Option Addr} {w w1 : World} (h : Row T P n A w) (hb : Below w.heap.size w w1) : Row T P n A w1 := by
  intro i hi
  obtain ⟨ad, e, h1, h2⟩ := h i hi
  exact ⟨ad, e, (hb.cell (World.block_lt_of_cell? w _ h1)).trans h1, (hb.cell (World.block_lt_of_cell? w _ h2)).trans h2⟩
theorem str_cells (s t : ByteArray) : Lib.strCells (s ++ t) = Lib.strCells s ++ Lib.strCells t := by
  rw [Lib.strCells_eq, Lib.strCells_eq, Lib.strCells_eq, ← Lib.byteCells_append]
  simp
set_option maxHeartbeats 1600000 in
set_option maxRecDepth 100000 in
theorem join_any (A : Option Addr) (n c : Nat) (T : Nat → Int) (P : Nat → ByteArray) (w : World) (hrow : Row T P n A w) (hn : n ≤ c) (hc : n ≤ 9223372036854775807) (hsz : ∀ k, k ≤ n → (joined T P k).size ≤ 140737488355328)
    (PUT : ∀ (i : Nat) (w : World), i < n → Calls Try.prog 46 #[.int .i64 (T i), .string (P i)] w fun e w' => e = .returned (.string (secS (T i) (P i))) ∧ Below w.heap.size w w') :
    Calls Try.prog 49 #[.slice A n c] w fun e w' => e = .returned (.string (joined T P n)) ∧ Below w.heap.size w w' := by
  have HR := Aside0.mk hrow
  have HP := Aside0.mk PUT
  have HZ := Aside0.mk hsz
  have HN := Aside0.mk hn
  clear hrow PUT hsz hn
  go_enter Try.func49, Try.ntmps49
  go_wp2
  have HL := Aside0.mk (Lib.fresh_isBuilder 89 5 w)
  have HB := Aside0.mk ((Below.refl w.heap.size w).alloc (Nat.le_refl _) (Obj.cells #[Value.pointer none, Value.slice none 0 0] 89))
  go_loopg [8] n (fun d v8 wx => ∃ k : Nat, k + d = n ∧ v8 = .int .i64 (k : Int) ∧ Aside0 (Lib.IsBuilder 89 5 w.heap.size w.heap.size (Lib.strCells (joined T P k)) wx) ∧ Aside0 (Below w.heap.size w wx))
  case atStart => exact ⟨0, by omega, rfl, HL, HB⟩
  case round =>
    obtain ⟨k, hk, rfl, HL1, HB1⟩ := hrel
    clear HL HB
    cases gk with
    | zero =>
      obtain rfl : k = n := by omega
      clear hk
      have HS := Aside0.mk (HB1.out.size)
      have HL2 : Aside0 (Lib.IsBuilder 89 5 w.heap.size w.heap.size (Lib.byteCells (joined T P k).data.toList) wr) := ⟨HL1.out⟩
      go_wp2_with (go_at_call 66; (with_reducible refine (string_any w.heap.size w.heap.size (joined T P k).data.toList _ HL2.out HS.out).mono ?_); rintro e w5 ⟨rfl, hb⟩; have HB2 := Aside0.mk (HB1.out.trans hb); clear hb)
      go_ret
      exact ⟨by simp, HB2.out⟩
    | succ d =>
      have hlt : k < n := by omega
      obtain ⟨ad, e, h1, h2⟩ := HR.out k hlt
      have h1' := (HB1.out.cell (World.block_lt_of_cell? w _ h1)).trans h1
      have h2' := (HB1.out.cell (World.block_lt_of_cell? w _ h2)).trans h2
      clear h1 h2
      have HE := Aside0.mk e
      have HK := Aside0.mk hk
      have hc' : (k : Int) < (n : Int) := by omega
      subst e
      clear hk
      have HK2 := Aside0.mk hlt
      clear hlt
      have HS := Aside0.mk (show (Lib.strCells (joined T P k)).length + (secS (T k) (P k)).size ≤ 140737488355328 by
        have := HZ.out (k + 1) HK2.out
        rw [Lib.strCells_length]
        simp only [joined, ByteArray.size_append] at this
        exact this)
      go_wp2_with (first
        | (go_at_call 46; (with_reducible refine (HP.out k _ HK2.out).mono ?_); rintro e w1 ⟨rfl, hb⟩; have hb2 := below_then ((Below.refl wr.heap.size wr).alloc (Nat.le_refl _) _) (by simp) hb; have HL2 := Aside0.mk (builder_below HL1.out hb2); have HB2 := Aside0.mk (below_step HB1.out hb2); clear hb hb2)
        | (go_at_call 65; (with_reducible refine (write_string w.heap.size w.heap.size (Lib.strCells (joined T P k)) (secS (T k) (P k)) _ HL2.out HS.out HB2.out.size).mono ?_); rintro e w2 ⟨rfl, hl, hb⟩; have HL3 := Aside0.mk hl; have HB3 := Aside0.mk (HB2.out.trans hb); clear hb hl))
      go_roundg d
      case measure => omega
      case rel => exact ⟨k + 1, by have := HK.out; omega, by first | rfl | simp, ⟨Or.inr (by have := HL3.out; rw [← str_cells] at this; exact this)⟩, HB3⟩
end Go.Proofs.Ytaeocbbapnfcaaa.SectJoinWalk
