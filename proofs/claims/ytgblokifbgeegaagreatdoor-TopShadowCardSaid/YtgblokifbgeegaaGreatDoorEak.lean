/- A part of the proof. -/
import Derived.Test.YtgblokifbgeegaaGreatDoorEaj
namespace Go.Proofs.YtgblokifbgeegaaGreatDoor
open Go Go.Vc Go.RowKit Go.ChangeShapes Go.WideShapes Go.ChangeAt Go.Joins
set_option maxRecDepth 100000
theorem g2 : Tryz.prog.globalNamed "internal/strconv.uint64pow10" = some 1 := by kernel_rfl
theorem Y1s : Tryz.prog.cellsOf 3 = 1 := by kernel_rfl
theorem j2u : Tryz.prog.underlying 3 = some (.int .i64) := by kernel_rfl
theorem k0N {H : Type} {q : IntKind} : ∀ {ms ns : List Int}, (ns.map fun m => (DataW.lit (.int q m) : DataW H)) = ms.map (fun m => DataW.lit (.int q m)) → ms = ns
 |[], [], _ => rfl
 |[], _ :: _, h => by cases h
 |_ :: _, [], h => by cases h
 |a :: ms, b :: ns, h => by
  simp only [List.map_cons, List.cons.injEq, DataW.lit.injEq, Lit.int.injEq, true_and] at h
  rw [h.1, k0N h.2]
theorem gt2 : (Tryz.prog.globals[1]?).map (·.type) = some 290 := by kernel_rfl
theorem k1W : Tryz.prog.underlying 290 = some (.array 20 254) := by kernel_rfl
theorem k1V : Tryz.prog.underlying 254 = some (.int .u64) := by kernel_rfl
theorem y1q : Tryz.prog.cellsOf 254 = 1 := by kernel_rfl
theorem y1r : Tryz.prog.cellsOf 290 = 20 := by kernel_rfl
theorem z1p {W : World} {l : List (String × DataW Unit)} {ps : List MemPlace} (h : DataW.LaidVars Tryz.prog W l ps) (hm : ("internal/strconv.uint64pow10", Rows.laid_internal_strconv_uint64pow10) ∈ l) :
  ∃ t fr, W.heap[1]? = some (.cells (Lib.pow10Tab.map (Value.int .u64)).toArray t fr) := by
 obtain ⟨g, t, cs, fuel, p, h1, h2, h3, h4⟩ := k0K h hm
 obtain rfl : 1 = g := Option.some.inj (g2.symm.trans h1)
 obtain rfl : 290 = t := Option.some.inj (gt2.symm.trans h2)
 obtain ⟨ms, c0, f0⟩ := V1U k1W k1V y1q y1r h4
 have hd : Rows.laid_internal_strconv_uint64pow10 (H := Unit) = .agg (Lib.pow10Tab.map fun m => .lit (.int .u64 m)) := by rfl
 rw [hd, DataW.agg.injEq] at f0
 obtain rfl := k0N f0
 obtain ⟨cl⟩ := cs
 simp only at c0
 subst c0
 unfold World.var? at h3
 rw [g2] at h3
 simp only [Option.bind_some] at h3
 split at h3
 ·rename_i cs' t' fr' hh
  cases h3
  exact ⟨t', fr', hh⟩
 ·cases h3
theorem v1X {W : World} (h : W.ShapedOpen Tryz.prog) : ∃ m, W.cell? ⟨0, 0, none⟩ = some (.int .i64 m) :=
 cell_of_shapedOpen_int (t := 3) (zero := #[.int .i64 0]) (k := .i64) h (of_decide_eq_true (by kernel_rfl)) (by kernel_rfl) (by kernel_rfl) (by kernel_rfl) (by kernel_rfl) (by kernel_rfl)
theorem y1p {w : World} {b o : Nat} {v : Value} (h : w.cell? ⟨b, o, none⟩ = some v) : b < w.heap.size := by
 unfold World.cell? at h
 split at h
 ·rename_i hb; exact (Array.getElem?_eq_some_iff.1 hb).1
 ·cases h
theorem q2a {W : World} {l : List (String × DataW Unit)} (hl : laidMet Tryz.prog l W) (hs : W.ShapedOpen Tryz.prog) (hm2 : ("internal/strconv.uint64pow10", Rows.laid_internal_strconv_uint64pow10) ∈ l) :
  ZOk (fun k => k < W.heap.size) W := by
 obtain ⟨ps, hv, _⟩ := hl
 obtain ⟨m, h1⟩ := v1X hs
 obtain ⟨t, fr, h2⟩ := z1p hv hm2
 refine ⟨fun k h => h, fun p hp => ?_⟩
 simp only [glb, List.mem_cons, List.not_mem_nil, or_false] at hp
 rcases hp with rfl | rfl
 ·have hb := y1p h1
  exact ⟨0, m, rfl, hb, hb, h1⟩
 ·have hb : 1 < W.heap.size := (Array.getElem?_eq_some_iff.1 h2).1
  exact ⟨1, t, fr, rfl, hb, hb, h2⟩
end Go.Proofs.YtgblokifbgeegaaGreatDoor
