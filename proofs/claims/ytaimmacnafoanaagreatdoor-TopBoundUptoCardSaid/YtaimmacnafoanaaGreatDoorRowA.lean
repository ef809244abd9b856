/- How memory shows the data of a start: slices of numbers and of values, and the struct that holds them. -/
import Derived.Test.YtaimmacnafoanaaGreatDoorQ01
import Derived.WideShapes
namespace Go.Proofs.YtaimmacnafoanaaGreatDoor.F
open Go Go.RowKit Go.ChangeShapes Go.WideShapes
set_option linter.unusedVariables false
set_option linter.unusedSimpArgs false
theorem spot_of {P : Program} {W : World} {base : Nat} {t e : TypeId} {a : Addr} {len cap : Nat} (ht : P.underlying t = some (.slice e))
    (h : Cell.okWide P W .any base t (.slice (some a) len cap)) : a.spot = none := by
  simp only [Cell.okWide, ht, Cell.ok] at h
  have h2 := h.2.2
  unfold World.has at h2
  exact h2.2.1
theorem addr_none {a : Addr} (h : a.spot = none) (i : Nat) : a.add i = ⟨a.block, a.off + i, none⟩ := by
  obtain ⟨b, o, s⟩ := a
  simp only at h
  subst h
  exact Addr.add_mid b o i
theorem tvl_ints {W : World} {im : Nat → Prop} : ∀ l : List Int, TvL W im ((l.map eI).flatMap V.cells) (l.map fun n => Value.int .i64 n)
  | [] => .nil
  | n :: l => .cons _ _ _ _ (.int _ _) (tvl_ints l)
theorem tvl_vals {W : World} {im : Nat → Prop} : ∀ l : List Val, TvL W im ((l.map eVal).flatMap V.cells) (l.flatMap fun a => [Value.int .i64 a.re, Value.int .i64 a.im])
  | [] => .nil
  | a :: l => .cons _ _ _ _ (.int _ _) (.cons _ _ _ _ (.int _ _) (tvl_vals l))
theorem tv_ints {W : World} {im : Nat → Prop} {a : Addr} {zs : List Int} {len cap : Nat} (hs : a.spot = none) (hl : zs.length = len) (hc : len ≤ cap) (him : zs ≠ [] → im a.block)
    (hz : ∀ i, i < len → W.cell? (a.add i) = some (.int .i64 (zs.getD i 0))) : Tv W im (.imm (zs.map eI)) (.slice (some a) len cap) := by
  subst hl
  have e : a = ⟨a.block, a.off, none⟩ := by cases a; simp only at hs; rw [hs]
  by_cases h0 : zs = []
  · subst h0
    rw [e]
    exact .imm0 _ _ (fun h => by cases h) (OkA.some _ _)
  · have k : Tv W im (.imm (zs.map eI)) (.slice (some ⟨a.block, a.off, none⟩) (zs.map eI).length cap) := by
      refine .imm (zs.map eI) 1 a.block a.off cap (zs.map fun n => .int .i64 n) (by simpa using h0) (him h0) (by simpa using hc) ?_ ?_ ?_ (tvl_ints zs)
      · intro e he
        obtain ⟨n, _, rfl⟩ := List.mem_map.1 he
        rfl
      · intro j v hj
        have hlt : j < zs.length := by simpa using (List.getElem?_eq_some_iff.1 hj).1
        rw [← addr_none hs, hz j hlt]
        simp only [List.getElem?_map, List.getElem?_eq_getElem hlt, Option.map_some] at hj
        rw [← hj, List.getD_eq_getElem?_getD, List.getElem?_eq_getElem hlt]
        rfl
      · intro x hx
        obtain ⟨n, _, rfl⟩ := List.mem_map.1 hx
        rfl
    rw [← e, List.length_map] at k
    exact k
theorem pair_at : ∀ (l : List Val) (j : Nat) (v : Value), (l.flatMap fun a => [Value.int .i64 a.re, Value.int .i64 a.im])[j]? = some v →
    ∃ i a, l[i]? = some a ∧ ((j = i * 2 ∧ v = .int .i64 a.re) ∨ (j = i * 2 + 1 ∧ v = .int .i64 a.im))
  | [], j, v, h => by cases h
  | a :: l, 0, v, h => ⟨0, a, rfl, .inl ⟨rfl, by cases h; rfl⟩⟩
  | a :: l, 1, v, h => ⟨0, a, rfl, .inr ⟨rfl, by cases h; rfl⟩⟩
  | a :: l, j + 2, v, h => by
    obtain ⟨i, b, h1, h2⟩ := pair_at l j v h
    exact ⟨i + 1, b, h1, h2.elim (fun k => .inl ⟨by omega, k.2⟩) fun k => .inr ⟨by omega, k.2⟩⟩
theorem tv_vals {W : World} {im : Nat → Prop} {a : Addr} {zs : List Val} {len cap : Nat} (hs : a.spot = none) (hl : zs.length = len) (hc : len ≤ cap) (him : zs ≠ [] → im a.block)
    (hz : ∀ i z, zs[i]? = some z → W.cell? (a.add (i * 2)) = some (.int .i64 z.re) ∧ W.cell? (a.add (i * 2 + 1)) = some (.int .i64 z.im)) : Tv W im (.imm (zs.map eVal)) (.slice (some a) len cap) := by
  subst hl
  have e : a = ⟨a.block, a.off, none⟩ := by cases a; simp only at hs; rw [hs]
  by_cases h0 : zs = []
  · subst h0
    rw [e]
    exact .imm0 _ _ (fun h => by cases h) (OkA.some _ _)
  · have k : Tv W im (.imm (zs.map eVal)) (.slice (some ⟨a.block, a.off, none⟩) (zs.map eVal).length cap) := by
      refine .imm (zs.map eVal) 2 a.block a.off cap (zs.flatMap fun a => [Value.int .i64 a.re, Value.int .i64 a.im]) (by simpa using h0) (him h0) (by simpa using hc) ?_ ?_ ?_ (tvl_vals zs)
      · intro e he
        obtain ⟨n, _, rfl⟩ := List.mem_map.1 he
        rfl
      · intro j v hj
        obtain ⟨i, z, h1, h2⟩ := pair_at zs j v hj
        obtain ⟨h3, h4⟩ := hz i z h1
        rw [← addr_none hs]
        rcases h2 with ⟨rfl, rfl⟩ | ⟨rfl, rfl⟩
        · exact h3
        · exact h4
      · intro x hx
        obtain ⟨n, _, hn⟩ := List.mem_flatMap.1 hx
        simp only [List.mem_cons, List.not_mem_nil, or_false] at hn
        rcases hn with rfl | rfl <;> rfl
    rw [← e, List.length_map] at k
    exact k
end Go.Proofs.YtaimmacnafoanaaGreatDoor.F
