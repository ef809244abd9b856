/- From the row's reading of memory to the trees that the walk takes: the struct of a start, and a slice of numbers; the variables that the row lists. -/
import Derived.Test.YtaimmacnafoanaaGreatDoorRowA
import Derived.Test.YtaimmacnafoanaaGreatDoorQ04
import Derived.Test.YtaimmacnafoanaaGreatDoorRows
import Derived.Deep.SlicePairs
import Derived.Stop.LaidErr
import Derived.Lib.LaidTab
import Derived.Shelf.Vars
import Derived.LaidLaws
import Derived.MakeChecks
namespace Go.Proofs.YtaimmacnafoanaaGreatDoor.F
open Go Go.RowKit Go.ChangeShapes Go.WideShapes Go.Deep
set_option linter.unusedVariables false
set_option linter.unusedSimpArgs false
set_option linter.constructorNameAsVariable false
set_option maxRecDepth 100000
theorem cell_lt {w : World} {a : Addr} {v : Value} (h : w.cell? a = some v) : a.block < w.heap.size := by
  unfold World.cell? at h
  cases ho : w.heap[a.block]? with
  | none => simp [ho] at h
  | some o => exact (Array.getElem?_eq_some_iff.1 ho).1
theorem bulk_one {H : Type} (d : DataW H) : 1 ≤ Rows.uptoBulk d := by
  cases d with
  | lit l => cases l <;> simp [Rows.uptoBulk]
  | nil => simp [Rows.uptoBulk]
  | ptr d => simp [Rows.uptoBulk]
  | slice elems spare => simp [Rows.uptoBulk]
  | agg parts => simp [Rows.uptoBulk]
  | iface t d => simp [Rows.uptoBulk]
  | map entries => simp [Rows.uptoBulk]
  | held h => simp [Rows.uptoBulk]
theorem bulk_len {H : Type} (l : List (DataW H)) : l.length ≤ Rows.uptoBulkAll l := by
  induction l with
  | nil => simp [Rows.uptoBulkAll]
  | cons x r ih => have := bulk_one x; simp only [Rows.uptoBulkAll, List.length_cons]; omega
def zNum : Value → Int
  | .int _ z => z
  | _ => 0
theorem c9 : Tryz.prog.cellsOf 9 = 1 := by kernel_rfl
theorem c22 : Tryz.prog.cellsOf 22 = 1 := by kernel_rfl
theorem c3 : Tryz.prog.cellsOf 3 = 1 := by kernel_rfl
theorem c24 : Tryz.prog.cellsOf 24 = 3 := by kernel_rfl
theorem c26 : Tryz.prog.cellsOf 26 = 7 := by kernel_rfl
theorem c40 : Tryz.prog.cellsOf 40 = 2 := by kernel_rfl
theorem ct26 : Tryz.prog.cellTypes Tryz.prog.depth 26 = some [9, 22, 3, 3, 3, 3, 3] := by kernel_rfl
theorem open_start {H : Type} {enc : TypeId × Value → H} {W : World} {base : Nat} {v : Value} {d : DataW H} {p : List MemPlace} (hval : Value.okWide Tryz.prog W .any base 26 v)
    (h : DataW.Trod enc Tryz.prog W 0 (fun _ => true) true 26 v d p) :
    ∃ x : St, Tv W (fun B => B < W.heap.size) (eSt x) v ∧ x.text.length + x.args.length ≤ Rows.uptoBulk d := by
  obtain ⟨cs, rfl, hsz⟩ := okWide_struct Tryz.underlying26 hval
  rw [c26] at hsz
  obtain ⟨l⟩ := cs
  obtain ⟨q0, q1, q2, q3, q4, q5, q6, rfl⟩ : ∃ q0 q1 q2 q3 q4 q5 q6, l = [q0, q1, q2, q3, q4, q5, q6] := by
    match l, hsz with
    | [q0, q1, q2, q3, q4, q5, q6], _ => exact ⟨_, _, _, _, _, _, _, rfl⟩
  have hrow : Cell.okWide Tryz.prog W .any base 22 q1 := by
    unfold Value.okWide at hval
    rw [Tryz.underlying26] at hval
    obtain ⟨cs', e, _, ts, hts, _, hall⟩ := hval
    cases e
    rw [ct26] at hts
    cases hts
    obtain ⟨u, hu, hok⟩ := hall 1 q1 rfl
    cases hu
    exact hok
  obtain ⟨fuel, hf⟩ := h
  have hf' : DataW.trod enc Tryz.prog W 0 (fun _ => true) true fuel 26 [q0, q1, q2, q3, q4, q5, q6] = some (d, p) := hf
  obtain ⟨xs, n, rfl, hx, _, hlen, hfs⟩ := DataW.trod_struct Tryz.underlying26 hf'
  obtain ⟨y0, y1, y2, y3, y4, rfl⟩ : ∃ y0 y1 y2 y3 y4, xs = [y0, y1, y2, y3, y4] := by
    match xs, hlen with
    | [y0, y1, y2, y3, y4], _ => exact ⟨_, _, _, _, _, rfl⟩
  have f0 := hfs 0 _ rfl
  have f1 := hfs 1 _ rfl
  have f2 := hfs 2 _ rfl
  have f3 := hfs 3 _ rfl
  have f4 := hfs 4 _ rfl
  simp only [c9, c22, c3, c24, List.drop_zero, List.drop_succ_cons, List.take_succ_cons, List.take_zero, List.getElem?_cons_zero, List.getElem?_cons_succ] at f0 f1 f2 f3 f4
  obtain ⟨s, e0, ey0, hs⟩ := DataW.trod_string Tryz.underlying9 f0
  obtain ⟨n2, e2, ey2, _⟩ := DataW.trod_int Tryz.underlying3 f2
  obtain ⟨n3, e3, ey3, _⟩ := DataW.trod_int Tryz.underlying3 f3
  obtain ⟨ls, m, rfl, hx4, _, hlen4, hf4⟩ := DataW.trod_struct Tryz.underlying24 f4
  obtain ⟨u0, u1, u2, rfl⟩ : ∃ u0 u1 u2, ls = [u0, u1, u2] := by
    match ls, hlen4 with
    | [u0, u1, u2], _ => exact ⟨_, _, _, rfl⟩
  have g0 := hf4 0 _ rfl
  have g1 := hf4 1 _ rfl
  have g2 := hf4 2 _ rfl
  simp only [c3, List.drop_zero, List.drop_succ_cons, List.take_succ_cons, List.take_zero, List.getElem?_cons_zero, List.getElem?_cons_succ] at g0 g1 g2
  obtain ⟨k0, e4, ey4, _⟩ := DataW.trod_int Tryz.underlying3 g0
  obtain ⟨k1, e5, ey5, _⟩ := DataW.trod_int Tryz.underlying3 g1
  obtain ⟨k2, e6, ey6, _⟩ := DataW.trod_int Tryz.underlying3 g2
  cases e0
  cases e2
  cases e3
  cases e4
  cases e5
  cases e6
  have key : ∃ vals : List Val, Tv W (fun B => B < W.heap.size) (.imm (vals.map eVal)) q1 ∧ vals.length ≤ Rows.uptoBulk y1.1 ∧ q1.oneCell' = true := by
    rcases open_slice_pairs Tryz.underlying22 Tryz.underlying40 c40 rfl rfl c3 c3 f1 with ⟨e1, ey⟩ | ⟨a, len, cap, mm, nn, V0, V1, D0, D1, P0, P1, e1, _, hlc, hcm, hmm, ey, hcells⟩
    · cases e1
      exact ⟨[], .imm0 _ _ (fun _ => rfl) OkA.none, Nat.zero_le _, rfl⟩
    · cases e1
      simp only [if_true] at hmm
      subst hmm
      have hsp : a.spot = none := spot_of Tryz.underlying22 hrow
      refine ⟨(List.range len).map fun i => ⟨zNum (V0 i), zNum (V1 i)⟩, tv_vals hsp (by simp) hlc (fun hne => ?_) (fun i z hz => ?_), ?_, rfl⟩
      · have : 0 < len := by
          rcases Nat.eq_zero_or_pos len with h0 | h0
          · subst h0; exact absurd rfl hne
          · exact h0
        exact cell_lt (hcells 0 (by omega)).1
      · have hi : i < len := by
          have := (List.getElem?_eq_some_iff.1 hz).1
          simpa using this
        obtain ⟨h1, h2, h3, h4⟩ := hcells i (by omega)
        obtain ⟨z0, ez0, _, _⟩ := DataW.trod_int Tryz.underlying3 h3
        obtain ⟨z1, ez1, _, _⟩ := DataW.trod_int Tryz.underlying3 h4
        simp only [List.cons.injEq, and_true] at ez0 ez1
        simp only [List.getElem?_map, List.getElem?_range hi, Option.map_some, Option.some.injEq] at hz
        subst hz
        rw [h1, h2, ez0, ez1]
        exact ⟨rfl, rfl⟩
      · rw [ey]
        simp only [Rows.uptoBulk]
        have := bulk_len ((List.range len).map fun i => DataW.agg [D0 i, D1 i])
        simp only [List.length_map, List.length_range] at this ⊢
        omega
  obtain ⟨vals, ht, hb, hq1⟩ := key
  refine ⟨⟨s.data.toList, vals, n2, n3, ⟨k0, k1, k2⟩⟩, ?_, ?_⟩
  · refine .agg _ [_, _, _, _, _, _, _] ?_ (.cons _ _ _ _ (.str _) (.cons _ _ _ _ ht (.cons _ _ _ _ (.int _ _) (.cons _ _ _ _ (.int _ _) (.cons _ _ _ _ (.int _ _) (.cons _ _ _ _ (.int _ _) (.cons _ _ _ _ (.int _ _) .nil)))))))
    intro x hx
    simp only [List.mem_cons, List.not_mem_nil, or_false] at hx
    rcases hx with rfl | rfl | rfl | rfl | rfl | rfl | rfl <;> first | rfl | exact hq1
  · simp only [Prod.mk.injEq] at hx
    rw [hx.1, ey0]
    simp only [List.map_cons, List.map_nil, Rows.uptoBulk, Rows.uptoBulkAll]
    omega
theorem open_turns {H : Type} {enc : TypeId × Value → H} {W : World} {base : Nat} {v : Value} {d : DataW H} {p : List MemPlace} (hval : Value.okWide Tryz.prog W .any base 32 v)
    (h : DataW.Trod enc Tryz.prog W 0 (fun _ => true) true 32 v d p) :
    ∃ zs : List Int, Tv W (fun B => B < W.heap.size) (.imm (zs.map eI)) v ∧ zs.length ≤ Rows.uptoBulk d := by
  obtain ⟨a0, len0, cap0, rfl⟩ := okWide_slice Tryz.underlying32 hval
  obtain ⟨fuel, hf⟩ := h
  have hf' : DataW.trod enc Tryz.prog W 0 (fun _ => true) true fuel 32 [.slice a0 len0 cap0] = some (d, p) := hf
  rcases open_ints Tryz.underlying32 Tryz.underlying3 c3 hf' with ⟨e1, ey⟩ | ⟨a, len, cap, zs, e1, _, hlc, hcm, hmm, ey, hcells, _⟩
  · cases e1
    exact ⟨[], .imm0 _ _ (fun _ => rfl) OkA.none, Nat.zero_le _⟩
  · cases e1
    simp only [if_true] at hmm
    have hsp : a.spot = none := by
      refine spot_of (W := W) (base := base) Tryz.underlying32 (len := len0) (cap := cap0) ?_
      unfold Value.okWide at hval
      rw [Tryz.underlying32] at hval
      exact hval
    refine ⟨zs.take len0, tv_ints hsp (by simp; omega) hlc (fun hne => ?_) (fun i hi => ?_), ?_⟩
    · have : 0 < len0 := by
        rcases Nat.eq_zero_or_pos len0 with h0 | h0
        · subst h0; exact absurd (List.take_zero) hne
        · exact h0
      exact cell_lt (hcells 0 (by omega))
    · rw [hcells i (by omega)]
      congr 2
      simp [List.getD_eq_getElem?_getD, List.getElem?_take, hi]
    · simp only [Prod.mk.injEq] at ey
      rw [ey.1]
      simp only [Rows.uptoBulk]
      have := bulk_len (lits (H := H) .i64 (zs.take len0))
      simp only [lits, List.length_map, List.length_take] at this ⊢
      omega

/-! The variables that the row lists. -/
def GP (W : World) : Prop := (∃ m, W.cell? ⟨0, 0, none⟩ = some (.int .i64 m)) ∧ Lib.TabIs Tryz.prog W "internal/strconv.uint64pow10" .u64 Lib.pow10Tab ∧
  (∃ te pe, W.cell? ⟨2, 0, none⟩ = some (.iface te pe)) ∧ ∃ te pe, W.cell? ⟨3, 0, none⟩ = some (.iface te pe)
theorem gPow : Tryz.prog.globalNamed "internal/strconv.uint64pow10" = some 1 := by kernel_rfl
theorem gSyn : Tryz.prog.globalNamed "strconv.ErrSyntax" = some 2 := by kernel_rfl
theorem gRan : Tryz.prog.globalNamed "strconv.ErrRange" = some 3 := by kernel_rfl
theorem gPowT : (Tryz.prog.globals[1]?).map (·.type) = some 413 := by kernel_rfl
theorem gSynT : (Tryz.prog.globals[2]?).map (·.type) = some 83 := by kernel_rfl
theorem gRanT : (Tryz.prog.globals[3]?).map (·.type) = some 83 := by kernel_rfl
theorem row439 : ∀ u, Tryz.prog.typeName? 3 u = some "*errors.errorString" → u = 439 :=
  typeName_ptr_named (nm := "errors.errorString") (by kernel_rfl) (by kernel_rfl) (by decide)
theorem cell_below {w w' : World} (h : Below 4 w w') {g : Nat} (hg : g < 4) {i : Nat} {v : Value} (k : w.cell? ⟨g, i, none⟩ = some v) : w'.cell? ⟨g, i, none⟩ = some v :=
  (World.cell?_of_block (w := w) (a := ⟨g, i, none⟩) (h.block g hg)).trans k
def gl : Gl where
  N := 4
  G := GP
  st := fun w w' h ⟨⟨m, k0⟩, k1, ⟨t2, p2, k2⟩, t3, p3, k3⟩ => ⟨⟨m, cell_below h (by decide) k0⟩, by
    unfold Lib.TabIs World.var? at k1 ⊢
    rw [gPow] at k1 ⊢
    simp only [Option.bind_some] at k1 ⊢
    rw [h.block 1 (by decide)]
    exact k1, ⟨t2, p2, cell_below h (by decide) k2⟩, t3, p3, cell_below h (by decide) k3⟩
  le := fun w ⟨_, _, _, _, _, k3⟩ => by have := cell_lt k3; simp only at this; omega
theorem glOk : GlOk gl where
  mx := fun w h => h.1
  pw := fun w h => h.2.1
  sy := fun w ⟨_, _, ⟨t, p, k⟩, _⟩ => ⟨_, k, .inr ⟨t, p, rfl⟩⟩
  rg := fun w ⟨_, _, _, t, p, k⟩ => ⟨_, k, .inr ⟨t, p, rfl⟩⟩
theorem gp_of {W : World} (hL : laidMetH Tryz.prog Rows.topBoundUptoRow.laid W) (hsh : W.ShapedOpen Tryz.prog) : GP W := by
  rw [MakeChecks.laidMetH_plain _ _ _ (by kernel_rfl)] at hL
  have h2 : laidMet Tryz.prog (("internal/strconv.uint64pow10", Lib.tabData .u64 Lib.pow10Tab) :: _) W := hL.tail.tail
  have h4 := h2.tail.tail
  obtain ⟨a3, s3, v3, _⟩ := laid_sentinel (n := "strconv.ErrRange") (nm := "*errors.errorString") h4 gRan gRanT Tryz.underlying83 row439 Tryz.underlying439 Tryz.underlying441 rfl rfl Tryz.underlying9 (by kernel_rfl) c9
  obtain ⟨a2, s2, v2, _⟩ := laid_sentinel (n := "strconv.ErrSyntax") (nm := "*errors.errorString") h4.tail gSyn gSynT Tryz.underlying83 row439 Tryz.underlying439 Tryz.underlying441 rfl rfl Tryz.underlying9 (by kernel_rfl) c9
  refine ⟨?_, ?_, ⟨_, _, by simpa using World.var?_cell gSyn v2 0⟩, _, _, by simpa using World.var?_cell gRan v3 0⟩
  · exact Go.Proofs.cell_of_shapedOpen_int (g := 0) (t := 3) (zero := #[.int .i64 0]) hsh (by decide +kernel) (by kernel_rfl) rfl (by kernel_rfl) (by kernel_rfl) Tryz.underlying3
  · exact Lib.tabIs_of_head gPow gPowT Tryz.underlying413 Tryz.underlying378 (by kernel_rfl) (by kernel_rfl) h2
end Go.Proofs.YtaimmacnafoanaaGreatDoor.F
