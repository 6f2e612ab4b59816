/- A part of the proof. -/
import Derived.Test.YtfggdokihnopeaaGreatDoorCau
namespace Go.Proofs.YtfggdokihnopeaaGreatDoor
open Go Go.Vc Go.RowKit Go.ChangeShapes Go.WideShapes Go.ChangeAt Go.Joins
set_option maxRecDepth 100000
theorem g0 : Tryz.prog.globalNamed "metrolab/touch.others" = some 0 := by kernel_rfl
theorem g2 : Tryz.prog.globalNamed "internal/strconv.uint64pow10" = some 2 := by kernel_rfl
theorem gt0 : (Tryz.prog.globals[0]?).map (·.type) = some 264 := by kernel_rfl
theorem z0G : Tryz.prog.cellsOf 249 = 2 := by kernel_rfl
theorem w1B : Tryz.prog.cellsOf 264 = 6 := by kernel_rfl
theorem W0D : Tryz.prog.cellsOf 3 = 1 := by kernel_rfl
theorem V1k : Tryz.prog.underlying 3 = some (.int .i64) := by kernel_rfl
theorem v1Z : Tryz.prog.underlying 249 = some (.array 2 3) := by kernel_rfl
theorem X1L : Tryz.prog.underlying 264 = some (.array 3 249) := by kernel_rfl
theorem y0u {H : Type} {q : IntKind} : ∀ {ms ns : List Int}, (ns.map fun m => (DataW.lit (.int q m) : DataW H)) = ms.map (fun m => DataW.lit (.int q m)) → ms = ns
 |[], [], _ => rfl
 |[], _ :: _, h => by cases h
 |_ :: _, [], h => by cases h
 |a :: ms, b :: ns, h => by
  simp only [List.map_cons, List.cons.injEq, DataW.lit.injEq, Lit.int.injEq, true_and] at h
  rw [h.1, y0u h.2]
theorem q1E {W : World} {l : List (String × DataW Unit)} {ps : List MemPlace} (h : DataW.LaidVars Tryz.prog W l ps) (hm : ("metrolab/touch.others", Rows.laid_metrolab_touch_others) ∈ l) :
  ∀ i, i < 6 → W.cell? ⟨0, i, none⟩ = some (.int .i64 ([1, 2, 0, 2, 0, 1].getD i 0)) := by
 obtain ⟨g, t, cs, fuel, p, h1, h2, h3, h4⟩ := V0F h hm
 obtain rfl : 0 = g := Option.some.inj (g0.symm.trans h1)
 obtain rfl : 264 = t := Option.some.inj (gt0.symm.trans h2)
 obtain ⟨xs, m, _, ex, hl, hxl, hel⟩ := DataW.trod_array X1L h4
 rw [z0G] at hel
 rw [w1B] at hl
 have ed := congrArg Prod.fst ex
 match xs, hxl with
 |[x0, x1, x2], _ =>
  have e0 := hel 0 zE
  have e1 := hel 1 zE
  have e2 := hel 2 zE
  obtain ⟨d0, q0⟩ := x0
  obtain ⟨d1, q1⟩ := x1
  obtain ⟨d2, q2⟩ := x2
  obtain ⟨m0, c0, f0⟩ := J0G v1Z V1k W0D z0G (show DataW.trod _ _ _ _ _ _ _ _ _ = some (d0, q0) from e0)
  obtain ⟨m1, c1, f1⟩ := J0G v1Z V1k W0D z0G (show DataW.trod _ _ _ _ _ _ _ _ _ = some (d1, q1) from e1)
  obtain ⟨m2, c2, f2⟩ := J0G v1Z V1k W0D z0G (show DataW.trod _ _ _ _ _ _ _ _ _ = some (d2, q2) from e2)
  simp only [Rows.laid_metrolab_touch_others, List.map_cons, List.map_nil, f0, f1, f2, DataW.agg.injEq, List.cons.injEq, and_true] at ed
  obtain ⟨a0, a1, a2⟩ := ed
  obtain rfl := y0u (ns := [1, 2]) a0
  obtain rfl := y0u (ns := [0, 2]) a1
  obtain rfl := y0u (ns := [0, 1]) a2
  obtain ⟨cl⟩ := cs
  match cl, hl with
  |[b0, b1, b2, b3, b4, b5], _ =>
   simp at c0 c1 c2
   obtain ⟨rfl, rfl⟩ := c0
   obtain ⟨rfl, rfl⟩ := c1
   obtain ⟨rfl, rfl⟩ := c2
   intro i hi
   rw [World.var?_cell g0 h3]
   rcases (by omega : i = 0 ∨ i = 1 ∨ i = 2 ∨ i = 3 ∨ i = 4 ∨ i = 5) with rfl | rfl | rfl | rfl | rfl | rfl <;> rfl
theorem gt2 : (Tryz.prog.globals[2]?).map (·.type) = some 401 := by kernel_rfl
theorem X1O : Tryz.prog.underlying 401 = some (.array 20 308) := by kernel_rfl
theorem X1N : Tryz.prog.underlying 308 = some (.int .u64) := by kernel_rfl
theorem w1E : Tryz.prog.cellsOf 308 = 1 := by kernel_rfl
theorem w1F : Tryz.prog.cellsOf 401 = 20 := by kernel_rfl
theorem x1z {W : World} {l : List (String × DataW Unit)} {ps : List MemPlace} (h : DataW.LaidVars Tryz.prog W l ps) (hm : ("internal/strconv.uint64pow10", Rows.laid_internal_strconv_uint64pow10) ∈ l) :
  ∃ t fr, W.heap[2]? = some (.cells (Lib.pow10Tab.map (Value.int .u64)).toArray t fr) := by
 obtain ⟨g, t, cs, fuel, p, h1, h2, h3, h4⟩ := V0F h hm
 obtain rfl : 2 = g := Option.some.inj (g2.symm.trans h1)
 obtain rfl : 401 = t := Option.some.inj (gt2.symm.trans h2)
 obtain ⟨ms, c0, f0⟩ := J0G X1O X1N w1E w1F h4
 have hd : Rows.laid_internal_strconv_uint64pow10 (H := Unit) = .agg (Lib.pow10Tab.map fun m => .lit (.int .u64 m)) := by rfl
 rw [hd, DataW.agg.injEq] at f0
 obtain rfl := y0u f0
 obtain ⟨cl⟩ := cs
 simp only at c0
 subst c0
 unfold World.var? at h3
 rw [g2] at h3
 simp only [Option.bind_some] at h3
 split at h3
 ·rename_i cs' t' fr' hh
  cases h3
  exact ⟨t', fr', hh⟩
 ·cases h3
theorem q1q {W : World} (h : W.ShapedOpen Tryz.prog) : ∃ m, W.cell? ⟨1, 0, none⟩ = some (.int .i64 m) :=
 cell_of_shapedOpen_int (t := 3) (zero := #[.int .i64 0]) (k := .i64) h (of_decide_eq_true (by kernel_rfl)) (by kernel_rfl) (by kernel_rfl) (by kernel_rfl) (by kernel_rfl) (by kernel_rfl)
theorem Y0Z {w : World} {b o : Nat} {v : Value} (h : w.cell? ⟨b, o, none⟩ = some v) : b < w.heap.size := by
 unfold World.cell? at h
 split at h
 ·rename_i hb; exact (Array.getElem?_eq_some_iff.1 hb).1
 ·cases h
theorem Z1Q {W : World} {l : List (String × DataW Unit)} (hl : laidMet Tryz.prog l W) (hs : W.ShapedOpen Tryz.prog) (hm0 : ("metrolab/touch.others", Rows.laid_metrolab_touch_others) ∈ l) (hm2 : ("internal/strconv.uint64pow10", Rows.laid_internal_strconv_uint64pow10) ∈ l) :
  ZOk (fun k => k < W.heap.size) W := by
 obtain ⟨ps, hv, _⟩ := hl
 have h0 := q1E hv hm0
 obtain ⟨m, h1⟩ := q1q hs
 obtain ⟨t, fr, h2⟩ := x1z hv hm2
 refine ⟨fun k h => h, fun p hp => ?_⟩
 simp only [glb, List.mem_cons, List.not_mem_nil, or_false] at hp
 rcases hp with rfl | rfl | rfl
 ·have hb := Y0Z (h0 0 zE)
  exact ⟨0, 0, rfl, fun _ => hb, hb, fun i hi => ⟨_, by rw [Nat.zero_add]; exact h0 i hi, rfl⟩⟩
 ·have hb := Y0Z h1
  exact ⟨1, m, rfl, hb, hb, h1⟩
 ·have hb : 2 < W.heap.size := (Array.getElem?_eq_some_iff.1 h2).1
  exact ⟨2, t, fr, rfl, hb, hb, h2⟩
end Go.Proofs.YtfggdokihnopeaaGreatDoor
