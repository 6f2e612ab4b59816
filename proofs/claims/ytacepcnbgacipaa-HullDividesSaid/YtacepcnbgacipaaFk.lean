/- A part of the proof that the law returns true at every input and that the input reads behind the call as it read before; this part states nothing of its own that needs a condition of the input. -/
import Derived.Test.YtacepcnbgacipaaFd
import Derived.Test.YtacepcnbgacipaaFg
import Derived.Test.YtacepcnbgacipaaFh
set_option linter.unusedVariables false
set_option linter.unusedSimpArgs false
namespace Go.Proofs.Ytacepcnbgacipaa
open Go Go.Vc Go.RowKit
set_option maxHeartbeats 2000000
/-! KDQ -/
def ixB (p : Nat → Bool) (n : Nat) : Int := match (List.range n).find? p with | some k => (k : Int) | none => -1
theorem ixB_hit {p : Nat → Bool} {n k : Nat} (hk : k < n) (hall : ∀ j, j < k → p j = false) (h : p k = true) : ixB p n = (k : Int) := by
  have : (List.range n).find? p = some k := by
    rw [List.find?_range_eq_some]
    exact ⟨h, by simpa using hk, fun j hj => by simp [hall j hj]⟩
  unfold ixB; rw [this]
theorem ixB_no {p : Nat → Bool} {n : Nat} (hall : ∀ j, j < n → p j = false) : ixB p n = -1 := by
  have : (List.range n).find? p = none := by
    rw [List.find?_eq_none]
    intro x hx
    simp [hall x (List.mem_range.1 hx)]
  unfold ixB; rw [this]
theorem index_c (v : List Nat) (n : Nat) (hn : v.length ≤ 10000) : CtrA Try.prog 76 [idx v, vi n] (vi (ixB (fun k => decide (n = gi v k)) v.length)) := by
  refine ctrA _ Try.func76 rfl rfl Try.ntmps76 rfl fun w Z => ?_
  simp only [initT, List.map_cons, List.map_nil, Nat.zero_add, Nat.reduceAdd]
  refine cq_seq ?_
  refine cq_region ?_
  apply sq_g; exact g_assign (s := .av (.val (.int _ _))) rfl; exact rfl
  refine sq_nil ?_
  refine sq_then ?_
  refine cq_seq ?_
  refine cq_seq ?_
  refine cq_region ?_
  apply sq_g; exact g_move (s := .av _) rfl; exact rfl
  apply sq_g; exact g_len rfl; exact rfl
  apply sq_g; exact g_move (s := .av (.val (.int _ _))) rfl; exact rfl
  refine sq_nil ?_
  refine sq_then ?_
  refine cq_block ?_
  refine cq_loop (γ := Nat) (fun k => [(0, .av (idx v)), (1, .av (vi n)), (6, .av (idx v)), (7, .av (vi v.length)), (8, .av (vi k))]) (fun _ => []) (fun k => k ≤ v.length ∧ ∀ j, j < k → decide (n = gi v j) = false) (fun k => v.length - k) 0 ⟨Nat.zero_le _, by omega⟩ (ent ⟨.refl _, .refl _, .refl _, .refl _, .refl _, trivial⟩ trivial) ?_
  rintro k ⟨hk, hall⟩
  refine cq_seq ?_
  refine cq_region ?_
  apply sq_g; exact g_cmp rfl rfl rfl; exact rfl
  refine sq_nil ?_
  refine sq_then ?_
  refine cq_seq ?_
  (refine cq_cond rfl (fun hb => ?_) (fun hb => ?_) <;> (try simp only [decide_eq_true_eq, decide_eq_false_iff_not, beq_iff_eq, beq_eq_false_iff_ne, bne_iff_ne, bne_eq_false_iff_eq, ne_eq, Bool.not_eq_true', Bool.not_eq_false', Bool.and_eq_true, Bool.or_eq_true, Bool.and_eq_false_iff, Bool.or_eq_false_iff] at hb) <;> (try (exfalso; omega)))
  · have hkl : k < v.length := by omega
    refine cq_skip ?_
    refine sq_then ?_
    refine cq_seq ?_
    refine cq_block ?_
    refine cq_seq ?_
    refine cq_region ?_
    apply sq_g; exact g_move (s := .av (.val (.int _ _))) rfl; exact rfl
    apply sq_g; exact g_assign (s := .av (.val (.int _ _))) rfl; exact rfl
    refine sq_nil ?_
    refine sq_then ?_
    refine cq_seq ?_
    refine cq_region ?_
    apply sq_g; exact g_move (s := .av (.val (.int _ _))) rfl; exact rfl
    apply sq_g; exact g_move (s := .av _) rfl; exact rfl
    apply sq_g; exact g_move (s := .av (.val (.int _ _))) rfl; exact rfl
    apply sq_g; exact g_index rfl rfl rfl (by omega); exact rfl
    apply sq_g; exact g_load (τ := .val (.int _ _)) rfl rfl rfl; exact rfl
    apply sq_g; exact g_cmp rfl rfl rfl; exact rfl
    refine sq_nil ?_
    refine sq_then ?_
    (refine cq_cond rfl (fun hb => ?_) (fun hb => ?_) <;> (try simp only [decide_eq_true_eq, decide_eq_false_iff_not, beq_iff_eq, beq_eq_false_iff_ne, bne_iff_ne, bne_eq_false_iff_eq, ne_eq, Bool.not_eq_true', Bool.not_eq_false', Bool.and_eq_true, Bool.or_eq_true, Bool.and_eq_false_iff, Bool.or_eq_false_iff] at hb) <;> (try (exfalso; omega)))
    · have e1 := ixB_hit (p := fun k => decide (n = gi v k)) hkl hall (decide_eq_true (by omega))
      refine cq_seq ?_
      refine cq_region ?_
      apply sq_g; exact g_move (s := .av (.val (.int _ _))) rfl; exact rfl
      apply sq_g; exact g_assign (s := .av (.val (.int _ _))) rfl; exact rfl
      refine sq_nil ?_
      refine sq_then ?_
      refine cq_ret ?_
      refine sq_inBlock_ret ?_
      refine sq_then_ret ?_
      refine sq_then_ret ?_
      refine sq_inBlock_ret ?_
      refine sq_then_ret ?_
      exact sq_res1 rfl (.tmp rfl) (by rw [e1])
    · refine cq_skip ?_
      refine sq_then ?_
      refine cq_region ?_
      apply sq_g; exact g_arith rfl rfl rfl (by omega); exact rfl
      apply sq_g; exact g_move (s := .av (.val (.int _ _))) rfl; exact rfl
      refine sq_nil ?_
      exact sq_round (k + 1) ⟨by omega, lt_step hall (decide_eq_false (by omega))⟩ (by omega) (ent ⟨.refl _, .refl _, .refl _, .refl _, .int (by omega), trivial⟩ trivial)
  · have hkl : k = v.length := by omega
    subst hkl
    have e1 := ixB_no (p := fun k => decide (n = gi v k)) hall
    refine cq_exit ?_
    refine sq_then ?_
    refine cq_seq ?_
    refine cq_region ?_
    apply sq_g; exact g_assign (s := .av (.val (.int _ _))) rfl; exact rfl
    refine sq_nil ?_
    refine sq_then ?_
    refine cq_ret ?_
    exact sq_res1 rfl (.tmp rfl) (by rw [e1])
theorem contains_c (v : List Nat) (n : Nat) (hn : v.length ≤ 10000) : CtrA Try.prog 41 [idx v, vi n] (vb (decide (0 ≤ ixB (fun k => decide (n = gi v k)) v.length))) := by
  refine ctrA _ Try.func41 rfl rfl Try.ntmps41 rfl fun w Z => ?_
  simp only [initT, List.map_cons, List.map_nil, Nat.zero_add, Nat.reduceAdd]
  refine cq_seq ?_
  refine cq_region ?_
  apply sq_g; exact g_assign (s := .av (.val (.bool _))) rfl; exact rfl
  refine sq_nil ?_
  refine sq_then ?_
  refine cq_seq ?_
  refine cq_region ?_
  apply sq_g; exact g_move (s := .av _) rfl; exact rfl
  apply sq_g; exact g_move (s := .av (.val (.int _ _))) rfl; exact rfl
  apply sq_g; exact g_call (index_c v n hn) rfl; exact rfl
  apply sq_g; exact g_cmp rfl rfl rfl; exact rfl
  apply sq_g; exact g_assign (s := .av (.val (.bool _))) rfl; exact rfl
  refine sq_nil ?_
  refine sq_then ?_
  refine cq_ret ?_
  exact sq_res1 rfl (.tmp rfl) rfl
end Go.Proofs.Ytacepcnbgacipaa
namespace Go.Proofs.Ytacepcnbgacipaa
open Go Go.Vc
theorem pm {a b : Int} (ha : 0 < a) (h : 0 < a * b) : 0 < b := by
  rcases Int.lt_or_le 0 b with k | k
  · exact k
  · have := Int.mul_nonneg (Int.le_of_lt ha) (show 0 ≤ -b by omega)
    rw [Int.mul_neg] at this; omega
theorem pm_nn {a b : Int} (ha : 0 < a) (h : 0 ≤ a * b) : 0 ≤ b := by
  rcases Int.lt_or_le b 0 with k | k
  · have := Int.mul_pos ha (show 0 < -b by omega)
    rw [Int.mul_neg] at this; omega
  · exact k
theorem big_n (f g : Pt → Int) : ∀ E : List Pt, (∀ e ∈ E, 0 < f e ∨ (f e = 0 ∧ 0 < g e)) → ∃ N, 0 ≤ N ∧ ∀ e ∈ E, 0 < N * f e + g e
  | [], _ => ⟨0, by omega, by simp⟩
  | a :: E, h => by
    obtain ⟨N, hN, hE⟩ := big_n f g E (fun e he => h e (List.mem_cons_of_mem _ he))
    obtain ⟨M, h1, h2⟩ : ∃ M : Int, 0 ≤ M ∧ -g a < M := ⟨max 0 (1 - g a), by omega, by omega⟩
    have hnn : ∀ e ∈ a :: E, 0 ≤ f e := fun e he => by have := h e he; omega
    refine ⟨N + M, by omega, fun e he => ?_⟩
    have k0 := hnn e he
    have k1 := Int.mul_nonneg h1 k0
    have k2 := Int.mul_nonneg hN k0
    rw [Int.add_mul]
    rcases List.mem_cons.1 he with rfl | he'
    · rcases h e he with k | ⟨k, k'⟩
      · have : M * 1 ≤ M * f e := Int.mul_le_mul_of_nonneg_left (by omega) h1
        omega
      · rw [k, Int.mul_zero, Int.mul_zero]; omega
    · have := hE e he'
      omega
/-- Three of them that cancel. -/
def Dep3 (E : List Pt) : Prop := ∃ e1 ∈ E, ∃ e2 ∈ E, ∃ e3 ∈ E, ∃ w1 w2 w3 : Int, 0 ≤ w1 ∧ 0 ≤ w2 ∧ 0 ≤ w3 ∧ 0 < w1 + w2 + w3 ∧ w1 * e1.x + w2 * e2.x + w3 * e3.x = 0 ∧ w1 * e1.y + w2 * e2.y + w3 * e3.y = 0
theorem Dep3.mono {E F : List Pt} (h : Dep3 E) (hs : ∀ e ∈ E, e ∈ F) : Dep3 F := by
  obtain ⟨e1, h1, e2, h2, e3, h3, r⟩ := h
  exact ⟨e1, hs _ h1, e2, hs _ h2, e3, hs _ h3, r⟩
theorem dot_rot (e c : Pt) : dot e (rot c) = trn c e := by simp only [dot, rot, trn]; grind
theorem pt_zero {e : Pt} (h : ¬ 0 < dot e e) : e = ⟨0, 0⟩ := by
  apply Classical.byContradiction
  intro hne
  exact h (sq_pos hne)
theorem gordan2 : ∀ E : List Pt, (∃ d, ∀ e ∈ E, 0 < dot e d) ∨ Dep3 E
  | [] => .inl ⟨⟨0, 0⟩, by simp⟩
  | e0 :: E => by
    rcases gordan2 E with ⟨d, hd⟩ | h
    case inr => exact .inr (h.mono fun e he => List.mem_cons_of_mem _ he)
    by_cases h0 : 0 < dot e0 d
    · exact .inl ⟨d, fun e he => by
        rcases List.mem_cons.1 he with rfl | he
        · exact h0
        · exact hd e he⟩
    by_cases hz : 0 < dot e0 e0
    case neg =>
      have := pt_zero hz
      subst this
      exact .inr ⟨⟨0, 0⟩, by simp, ⟨0, 0⟩, by simp, ⟨0, 0⟩, by simp, 1, 0, 0, by simp⟩
    have left : ∀ s : Int, (∀ e ∈ E, 0 < s * trn e0 e) → ∃ d, ∀ e ∈ e0 :: E, 0 < dot e d := by
      intro s hs
      obtain ⟨N, hN, hall⟩ := big_n (fun e => s * trn e0 e) (fun e => dot e e0) E (fun e he => .inl (hs e he))
      refine ⟨⟨N * s * (rot e0).x + e0.x, N * s * (rot e0).y + e0.y⟩, fun e he => ?_⟩
      have e3 : dot e ⟨N * s * (rot e0).x + e0.x, N * s * (rot e0).y + e0.y⟩ = N * (s * trn e0 e) + dot e e0 := by
        simp only [dot, rot, trn]; grind
      rw [e3]
      rcases List.mem_cons.1 he with rfl | he
      · have : trn e e = 0 := by simp only [trn]; grind
        rw [this, Int.mul_zero, Int.mul_zero]; omega
      · exact hall e he
    by_cases hpos : ∀ e ∈ E, 0 < trn e0 e
    · exact .inl (left 1 fun e he => by have := hpos e he; omega)
    by_cases hneg : ∀ e ∈ E, trn e0 e < 0
    · exact .inl (left (-1) fun e he => by have := hneg e he; omega)
    have hpos' : ∃ e1 ∈ E, trn e0 e1 ≤ 0 := by
      apply Classical.byContradiction
      intro hc
      exact hpos fun e he => by
        apply Classical.byContradiction
        intro h; exact hc ⟨e, he, by omega⟩
    have hneg' : ∃ e2 ∈ E, 0 ≤ trn e0 e2 := by
      apply Classical.byContradiction
      intro hc
      exact hneg fun e he => by
        apply Classical.byContradiction
        intro h; exact hc ⟨e, he, by omega⟩
    obtain ⟨e1, m1, k1⟩ := hpos'
    obtain ⟨e2, m2, k2⟩ := hneg'
    obtain ⟨w1, w2, n1, n2, n3, hw⟩ : ∃ w1 w2 : Int, 0 ≤ w1 ∧ 0 ≤ w2 ∧ 0 < w1 + w2 ∧ w1 * trn e0 e1 + w2 * trn e0 e2 = 0 := by
      by_cases hz1 : trn e0 e1 = 0
      · exact ⟨1, 0, by omega, by omega, by omega, by rw [hz1]; omega⟩
      · exact ⟨trn e0 e2, -trn e0 e1, k2, by omega, by omega, by grind⟩
    have f1 := hd e1 m1
    have f2 := hd e2 m2
    have g1 := Int.mul_nonneg n1 (Int.le_of_lt f1)
    have g2 := Int.mul_nonneg n2 (Int.le_of_lt f2)
    have hf : 0 < w1 * dot e1 d + w2 * dot e2 d := by
      by_cases z : w1 = 0
      · have := Int.mul_pos (show 0 < w2 by omega) f2
        omega
      · have := Int.mul_pos (show 0 < w1 by omega) f1
        omega
    have key : dot e0 e0 * (w1 * dot e1 d + w2 * dot e2 d) = (w1 * dot e1 e0 + w2 * dot e2 e0) * dot e0 d := by
      simp only [dot, trn] at *; grind
    have hm := Int.mul_pos hz hf
    rw [key] at hm
    have hlt : w1 * dot e1 e0 + w2 * dot e2 e0 < 0 := by
      apply Classical.byContradiction
      intro hc
      have := Int.mul_nonneg (show 0 ≤ w1 * dot e1 e0 + w2 * dot e2 e0 by omega) (show 0 ≤ -dot e0 d by omega)
      rw [Int.mul_neg] at this
      omega
    refine .inr ⟨e0, by simp, e1, List.mem_cons_of_mem _ m1, e2, List.mem_cons_of_mem _ m2, -(w1 * dot e1 e0 + w2 * dot e2 e0), dot e0 e0 * w1, dot e0 e0 * w2, by omega, Int.mul_nonneg (Int.le_of_lt hz) n1, Int.mul_nonneg (Int.le_of_lt hz) n2, ?_, ?_, ?_⟩
    · have := Int.mul_nonneg (Int.le_of_lt hz) n1
      have := Int.mul_nonneg (Int.le_of_lt hz) n2
      omega
    · simp only [dot, trn] at hw ⊢; grind
    · simp only [dot, trn] at hw ⊢; grind
end Go.Proofs.Ytacepcnbgacipaa
namespace Go.Proofs.Ytacepcnbgacipaa
open Go Go.Vc
/-- A line between the two kinds of points. -/
def Sep (V : List (Int × Pt)) : Prop := ∃ (d : Pt) (t : Int), ∀ v ∈ V, 0 < v.1 * (dot v.2 d - t)
/-- Four of them that no line divides. -/
def Bad (V : List (Int × Pt)) : Prop := ∃ v1 ∈ V, ∃ v2 ∈ V, ∃ v3 ∈ V, ∃ v4 ∈ V, ∃ w1 w2 w3 w4 : Int, 0 ≤ w1 ∧ 0 ≤ w2 ∧ 0 ≤ w3 ∧ 0 ≤ w4 ∧ 0 < w1 + w2 + w3 + w4 ∧ w1 * v1.1 + w2 * v2.1 + w3 * v3.1 + w4 * v4.1 = 0 ∧
  w1 * v1.1 * v1.2.x + w2 * v2.1 * v2.2.x + w3 * v3.1 * v3.2.x + w4 * v4.1 * v4.2.x = 0 ∧ w1 * v1.1 * v1.2.y + w2 * v2.1 * v2.2.y + w3 * v3.1 * v3.2.y + w4 * v4.1 * v4.2.y = 0
theorem Bad.mono {E F : List (Int × Pt)} (h : Bad E) (hs : ∀ e ∈ E, e ∈ F) : Bad F := by
  obtain ⟨e1, h1, e2, h2, e3, h3, e4, h4, r⟩ := h
  exact ⟨e1, hs _ h1, e2, hs _ h2, e3, hs _ h3, e4, hs _ h4, r⟩
def tov (v0 v : Int × Pt) : Pt := ⟨v.1 * (v.2.x - v0.2.x), v.1 * (v.2.y - v0.2.y)⟩
theorem kirch : ∀ V : List (Int × Pt), (∀ v ∈ V, v.1 = 1 ∨ v.1 = -1) → Sep V ∨ Bad V
  | [], _ => .inl ⟨⟨0, 0⟩, 0, by simp⟩
  | v0 :: V, hs => by
    rcases kirch V (fun v hv => hs v (List.mem_cons_of_mem _ hv)) with ⟨d, t, hd⟩ | h
    case inr => exact .inr (h.mono fun e he => List.mem_cons_of_mem _ he)
    by_cases h0 : 0 < v0.1 * (dot v0.2 d - t)
    · exact .inl ⟨d, t, fun e he => by
        rcases List.mem_cons.1 he with rfl | he
        · exact h0
        · exact hd e he⟩
    have s0 := hs v0 (by simp)
    rcases gordan2 (V.map (tov v0)) with ⟨d', hd'⟩ | ⟨e1, m1, e2, m2, e3, m3, w1, w2, w3, n1, n2, n3, hw, hx, hy⟩
    · refine .inl ⟨⟨2 * d'.x, 2 * d'.y⟩, 2 * dot v0.2 d' - v0.1, fun v hv => ?_⟩
      rcases List.mem_cons.1 hv with rfl | hv
      · have : v.1 * (dot v.2 ⟨2 * d'.x, 2 * d'.y⟩ - (2 * dot v.2 d' - v.1)) = v.1 * v.1 := by simp only [dot]; grind
        rw [this]
        rcases s0 with s0 | s0 <;> rw [s0] <;> omega
      · have k := hd' (tov v0 v) (List.mem_map.2 ⟨v, hv, rfl⟩)
        have : v.1 * (dot v.2 ⟨2 * d'.x, 2 * d'.y⟩ - (2 * dot v0.2 d' - v0.1)) = 2 * dot (tov v0 v) d' + v.1 * v0.1 := by simp only [dot, tov]; grind
        rw [this]
        have h1 := hs v (List.mem_cons_of_mem _ hv)
        rcases s0 with s0 | s0 <;> rcases h1 with h1 | h1 <;> rw [s0, h1] <;> omega
    · obtain ⟨v1, q1, rfl⟩ := List.mem_map.1 m1
      obtain ⟨v2, q2, rfl⟩ := List.mem_map.1 m2
      obtain ⟨v3, q3, rfl⟩ := List.mem_map.1 m3
      have k1 := hd v1 q1
      have k2 := hd v2 q2
      have k3 := hd v3 q3
      have p1 := Int.mul_nonneg n1 (Int.le_of_lt k1)
      have p2 := Int.mul_nonneg n2 (Int.le_of_lt k2)
      have p3 := Int.mul_nonneg n3 (Int.le_of_lt k3)
      have hsum : 0 < w1 * (v1.1 * (dot v1.2 d - t)) + w2 * (v2.1 * (dot v2.2 d - t)) + w3 * (v3.1 * (dot v3.2 d - t)) := by
        by_cases z1 : w1 = 0
        · by_cases z2 : w2 = 0
          · have := Int.mul_pos (show 0 < w3 by omega) k3
            omega
          · have := Int.mul_pos (show 0 < w2 by omega) k2
            omega
        · have := Int.mul_pos (show 0 < w1 by omega) k1
          omega
      simp only [tov] at hx hy
      have e : w1 * (v1.1 * (dot v1.2 d - t)) + w2 * (v2.1 * (dot v2.2 d - t)) + w3 * (v3.1 * (dot v3.2 d - t)) = (w1 * v1.1 + w2 * v2.1 + w3 * v3.1) * (dot v0.2 d - t) := by
        simp only [dot]; grind
      rw [e] at hsum
      refine .inr ⟨v0, by simp, v1, List.mem_cons_of_mem _ q1, v2, List.mem_cons_of_mem _ q2, v3, List.mem_cons_of_mem _ q3, -(w1 * v1.1 + w2 * v2.1 + w3 * v3.1) * v0.1, w1, w2, w3, ?_, n1, n2, n3, ?_, ?_, ?_, ?_⟩
      · rcases s0 with s0 | s0
        · rw [s0] at h0 ⊢
          apply Classical.byContradiction
          intro hc
          have := Int.mul_nonneg (show 0 ≤ w1 * v1.1 + w2 * v2.1 + w3 * v3.1 by omega) (show 0 ≤ -(dot v0.2 d - t) by omega)
          rw [Int.mul_neg] at this
          omega
        · rw [s0] at h0 ⊢
          apply Classical.byContradiction
          intro hc
          have := Int.mul_nonneg (show 0 ≤ -(w1 * v1.1 + w2 * v2.1 + w3 * v3.1) by omega) (show 0 ≤ dot v0.2 d - t by omega)
          rw [Int.neg_mul] at this
          omega
      · have : 0 ≤ -(w1 * v1.1 + w2 * v2.1 + w3 * v3.1) * v0.1 := by
          rcases s0 with s0 | s0
          · rw [s0] at h0 ⊢
            apply Classical.byContradiction
            intro hc
            have := Int.mul_nonneg (show 0 ≤ w1 * v1.1 + w2 * v2.1 + w3 * v3.1 by omega) (show 0 ≤ -(dot v0.2 d - t) by omega)
            rw [Int.mul_neg] at this
            omega
          · rw [s0] at h0 ⊢
            apply Classical.byContradiction
            intro hc
            have := Int.mul_nonneg (show 0 ≤ -(w1 * v1.1 + w2 * v2.1 + w3 * v3.1) by omega) (show 0 ≤ dot v0.2 d - t by omega)
            rw [Int.neg_mul] at this
            omega
        omega
      · have : v0.1 * v0.1 = 1 := by rcases s0 with s0 | s0 <;> rw [s0] <;> omega
        grind
      · have : v0.1 * v0.1 = 1 := by rcases s0 with s0 | s0 <;> rw [s0] <;> omega
        grind
      · have : v0.1 * v0.1 = 1 := by rcases s0 with s0 | s0 <;> rw [s0] <;> omega
        grind
/-- A point with weights is in the hull. -/
theorem inH_comb {l : List Pt} {p : Pt} {i j k : Nat} (hi : i < l.length) (hj : j < l.length) (hk : k < l.length) {W w1 w2 w3 : Int} (n1 : 0 ≤ w1) (n2 : 0 ≤ w2) (n3 : 0 ≤ w3) (hW : 0 < W) (hs : W = w1 + w2 + w3)
    (ex : W * p.x = w1 * (gp l i).x + w2 * (gp l j).x + w3 * (gp l k).x) (ey : W * p.y = w1 * (gp l i).y + w2 * (gp l j).y + w3 * (gp l k).y) : inH l p = true := by
  have c3 : W * crs (gp l i) (gp l j) p = w3 * crs (gp l i) (gp l j) (gp l k) := by simp only [crs, trn, sub]; grind
  have c1 : W * crs (gp l j) (gp l k) p = w1 * crs (gp l i) (gp l j) (gp l k) := by simp only [crs, trn, sub]; grind
  have c2 : W * crs (gp l k) (gp l i) p = w2 * crs (gp l i) (gp l j) (gp l k) := by simp only [crs, trn, sub]; grind
  rcases Int.lt_trichotomy (crs (gp l i) (gp l j) (gp l k)) 0 with hD | hD | hD
  · refine inH_tri hi hj hk ⟨by omega, .inr ⟨?_, ?_, ?_⟩⟩
    · have := pm_nn (b := -crs (gp l i) (gp l j) p) hW (by rw [Int.mul_neg, c3, ← Int.mul_neg]; exact Int.mul_nonneg n3 (by omega))
      omega
    · have := pm_nn (b := -crs (gp l j) (gp l k) p) hW (by rw [Int.mul_neg, c1, ← Int.mul_neg]; exact Int.mul_nonneg n1 (by omega))
      omega
    · have := pm_nn (b := -crs (gp l k) (gp l i) p) hW (by rw [Int.mul_neg, c2, ← Int.mul_neg]; exact Int.mul_nonneg n2 (by omega))
      omega
  · rw [hD, Int.mul_zero] at c1 c2 c3
    have z : ∀ x, W * x = 0 → x = 0 := fun x h => by
      rcases Int.mul_eq_zero.1 h with h | h
      · omega
      · exact h
    have z1 := z _ c1
    have z2 := z _ c2
    have z3 := z _ c3
    have s1 : ∀ a : Pt, 0 ≤ dot a a := fun a => by
      have := sq_nn a.x
      have := sq_nn a.y
      simp only [dot]; omega
    by_cases b3 : dot (sub (gp l i) p) (sub (gp l j) p) ≤ 0
    · exact inH_seg hi hj ((btw_iff _ _ _).2 ⟨z3, b3⟩)
    by_cases b1 : dot (sub (gp l j) p) (sub (gp l k) p) ≤ 0
    · exact inH_seg hj hk ((btw_iff _ _ _).2 ⟨z1, b1⟩)
    by_cases b2 : dot (sub (gp l k) p) (sub (gp l i) p) ≤ 0
    · exact inH_seg hk hi ((btw_iff _ _ _).2 ⟨z2, b2⟩)
    exfalso
    have d1 : w1 * dot (sub (gp l i) p) (sub (gp l i) p) + w2 * dot (sub (gp l i) p) (sub (gp l j) p) + w3 * dot (sub (gp l k) p) (sub (gp l i) p) = 0 := by simp only [dot, sub]; grind
    have d2 : w1 * dot (sub (gp l i) p) (sub (gp l j) p) + w2 * dot (sub (gp l j) p) (sub (gp l j) p) + w3 * dot (sub (gp l j) p) (sub (gp l k) p) = 0 := by simp only [dot, sub]; grind
    have t1 := Int.mul_nonneg n1 (s1 (sub (gp l i) p))
    have t2 := Int.mul_nonneg n2 (show 0 ≤ dot (sub (gp l i) p) (sub (gp l j) p) by omega)
    have t3 := Int.mul_nonneg n3 (show 0 ≤ dot (sub (gp l k) p) (sub (gp l i) p) by omega)
    have t4 := Int.mul_nonneg n1 (show 0 ≤ dot (sub (gp l i) p) (sub (gp l j) p) by omega)
    have t5 := Int.mul_nonneg n2 (s1 (sub (gp l j) p))
    have t6 := Int.mul_nonneg n3 (show 0 ≤ dot (sub (gp l j) p) (sub (gp l k) p) by omega)
    by_cases y1 : w1 = 0
    · by_cases y2 : w2 = 0
      · have := Int.mul_pos (show 0 < w3 by omega) (show 0 < dot (sub (gp l k) p) (sub (gp l i) p) by omega)
        omega
      · have := Int.mul_pos (show 0 < w2 by omega) (show 0 < dot (sub (gp l i) p) (sub (gp l j) p) by omega)
        omega
    · have := Int.mul_pos (show 0 < w1 by omega) (show 0 < dot (sub (gp l i) p) (sub (gp l j) p) by omega)
      omega
  · refine inH_tri hi hj hk ⟨by omega, .inl ⟨?_, ?_, ?_⟩⟩
    · exact pm_nn hW (by rw [c3]; exact Int.mul_nonneg n3 (by omega))
    · exact pm_nn hW (by rw [c1]; exact Int.mul_nonneg n1 (by omega))
    · exact pm_nn hW (by rw [c2]; exact Int.mul_nonneg n2 (by omega))
end Go.Proofs.Ytacepcnbgacipaa
namespace Go.Proofs.Ytacepcnbgacipaa
open Go Go.Vc
/-- The hulls have a point in common, as the law says it. -/
def Meets (a b : List Pt) : Prop := (∃ i, i < a.length ∧ inH b (gp a i) = true) ∨ (∃ j, j < b.length ∧ inH a (gp b j) = true) ∨
  ∃ i j k m, i < a.length ∧ j < a.length ∧ k < b.length ∧ m < b.length ∧ crs (gp a i) (gp a j) (gp b k) * crs (gp a i) (gp a j) (gp b m) < 0 ∧ crs (gp b k) (gp b m) (gp a i) * crs (gp b k) (gp b m) (gp a j) < 0
theorem zmul {W x : Int} (hW : 0 < W) (h : W * x = 0) : x = 0 := by
  rcases Int.mul_eq_zero.1 h with h | h
  · omega
  · exact h
/-- Two numbers with weights that cancel. -/
theorem two_zero {w1 w2 x y : Int} (n1 : 0 ≤ w1) (n2 : 0 ≤ w2) (hw : 0 < w1 + w2) (h : w1 * x + w2 * y = 0) : x * y < 0 ∨ (x = 0 ∧ y = 0) ∨ w1 = 0 ∨ w2 = 0 := by
  by_cases z1 : w1 = 0
  · exact .inr (.inr (.inl z1))
  by_cases z2 : w2 = 0
  · exact .inr (.inr (.inr z2))
  have p1 : 0 < w1 := by omega
  have p2 : 0 < w2 := by omega
  rcases Int.lt_trichotomy x 0 with hx | hx | hx
  · have := Int.mul_pos p1 (show 0 < -x by omega)
    rw [Int.mul_neg] at this
    have hy := pm p2 (show 0 < w2 * y by omega)
    have := Int.mul_pos (show 0 < -x by omega) hy
    rw [Int.neg_mul] at this
    exact .inl (by omega)
  · subst hx
    rw [Int.mul_zero, Int.zero_add] at h
    exact .inr (.inl ⟨rfl, zmul p2 h⟩)
  · have := Int.mul_pos p1 hx
    have hy := pm (b := -y) p2 (by rw [Int.mul_neg]; omega)
    have := Int.mul_pos hx hy
    rw [Int.mul_neg] at this
    exact .inl (by omega)
theorem meet22 {a b : List Pt} {i j k m : Nat} (hi : i < a.length) (hj : j < a.length) (hk : k < b.length) (hm : m < b.length) {W w1 w2 w3 w4 : Int} (n1 : 0 ≤ w1) (n2 : 0 ≤ w2) (n3 : 0 ≤ w3) (n4 : 0 ≤ w4) (hW : 0 < W) (hs1 : W = w1 + w2) (hs2 : W = w3 + w4)
    (ex : w1 * (gp b k).x + w2 * (gp b m).x = w3 * (gp a i).x + w4 * (gp a j).x) (ey : w1 * (gp b k).y + w2 * (gp b m).y = w3 * (gp a i).y + w4 * (gp a j).y) : Meets a b := by
  have D : w1 * crs (gp a i) (gp a j) (gp b k) + w2 * crs (gp a i) (gp a j) (gp b m) = 0 := by simp only [crs, trn, sub]; grind
  have E : w3 * crs (gp b k) (gp b m) (gp a i) + w4 * crs (gp b k) (gp b m) (gp a j) = 0 := by simp only [crs, trn, sub]; grind
  have inA : ∀ q, q < b.length → W * (gp b q).x = w3 * (gp a i).x + w4 * (gp a j).x → W * (gp b q).y = w3 * (gp a i).y + w4 * (gp a j).y → Meets a b := fun q hq e1 e2 =>
    .inr (.inl ⟨q, hq, inH_comb hi hj hj n3 n4 (Int.le_refl 0) hW (by omega) (by omega) (by omega)⟩)
  have inB : ∀ q, q < a.length → W * (gp a q).x = w1 * (gp b k).x + w2 * (gp b m).x → W * (gp a q).y = w1 * (gp b k).y + w2 * (gp b m).y → Meets a b := fun q hq e1 e2 =>
    .inl ⟨q, hq, inH_comb hk hm hm n1 n2 (Int.le_refl 0) hW (by omega) (by omega) (by omega)⟩
  -- all on one line
  have line : crs (gp a i) (gp a j) (gp b k) = 0 → crs (gp a i) (gp a j) (gp b m) = 0 → crs (gp b k) (gp b m) (gp a i) = 0 → Meets a b := by
    intro z1 z2 z3
    by_cases hne : 0 < dot (sub (gp a j) (gp a i)) (sub (gp a j) (gp a i))
    case neg =>
      have hz := pt_zero hne
      have e1 : (gp a j).x = (gp a i).x := by have := congrArg Pt.x hz; simp only [sub] at this; omega
      have e2 : (gp a j).y = (gp a i).y := by have := congrArg Pt.y hz; simp only [sub] at this; omega
      refine inB i hi ?_ ?_
      · rw [ex, e1]; grind
      · rw [ey, e2]; grind
    by_cases b1 : dot (sub (gp a i) (gp b k)) (sub (gp a j) (gp b k)) ≤ 0
    · exact .inr (.inl ⟨k, hk, inH_seg hi hj ((btw_iff _ _ _).2 ⟨z1, b1⟩)⟩)
    by_cases b2 : dot (sub (gp a i) (gp b m)) (sub (gp a j) (gp b m)) ≤ 0
    · exact .inr (.inl ⟨m, hm, inH_seg hi hj ((btw_iff _ _ _).2 ⟨z2, b2⟩)⟩)
    by_cases b3 : dot (sub (gp b k) (gp a i)) (sub (gp b m) (gp a i)) ≤ 0
    · exact .inl ⟨i, hi, inH_seg hk hm ((btw_iff _ _ _).2 ⟨z3, b3⟩)⟩
    exfalso
    -- coordinates along the line
    have f1 : dot (sub (gp a j) (gp a i)) (sub (gp a j) (gp a i)) * dot (sub (gp a i) (gp b k)) (sub (gp a j) (gp b k)) = (0 - dot (sub (gp b k) (gp a i)) (sub (gp a j) (gp a i))) * (dot (sub (gp a j) (gp a i)) (sub (gp a j) (gp a i)) - dot (sub (gp b k) (gp a i)) (sub (gp a j) (gp a i))) := by
      simp only [crs, trn, sub, dot] at z1 ⊢; grind
    have f2 : dot (sub (gp a j) (gp a i)) (sub (gp a j) (gp a i)) * dot (sub (gp a i) (gp b m)) (sub (gp a j) (gp b m)) = (0 - dot (sub (gp b m) (gp a i)) (sub (gp a j) (gp a i))) * (dot (sub (gp a j) (gp a i)) (sub (gp a j) (gp a i)) - dot (sub (gp b m) (gp a i)) (sub (gp a j) (gp a i))) := by
      simp only [crs, trn, sub, dot] at z2 ⊢; grind
    have f3 : dot (sub (gp a j) (gp a i)) (sub (gp a j) (gp a i)) * dot (sub (gp b k) (gp a i)) (sub (gp b m) (gp a i)) = dot (sub (gp b k) (gp a i)) (sub (gp a j) (gp a i)) * dot (sub (gp b m) (gp a i)) (sub (gp a j) (gp a i)) := by
      simp only [crs, trn, sub, dot] at z1 z2 ⊢; grind
    have f4 : w1 * dot (sub (gp b k) (gp a i)) (sub (gp a j) (gp a i)) + w2 * dot (sub (gp b m) (gp a i)) (sub (gp a j) (gp a i)) = w4 * dot (sub (gp a j) (gp a i)) (sub (gp a j) (gp a i)) := by
      simp only [sub, dot]; grind
    generalize dot (sub (gp a j) (gp a i)) (sub (gp a j) (gp a i)) = L at *
    have g1 := Int.mul_pos hne (show 0 < dot (sub (gp a i) (gp b k)) (sub (gp a j) (gp b k)) by omega)
    have g2 := Int.mul_pos hne (show 0 < dot (sub (gp a i) (gp b m)) (sub (gp a j) (gp b m)) by omega)
    have g3 := Int.mul_pos hne (show 0 < dot (sub (gp b k) (gp a i)) (sub (gp b m) (gp a i)) by omega)
    rw [f1] at g1
    rw [f2] at g2
    rw [f3] at g3
    generalize dot (sub (gp b k) (gp a i)) (sub (gp a j) (gp a i)) = x at *
    generalize dot (sub (gp b m) (gp a i)) (sub (gp a j) (gp a i)) = y at *
    have out : ∀ x : Int, 0 < (0 - x) * (L - x) → x < 0 ∨ L < x := fun x h => by
      apply Classical.byContradiction
      intro hc
      have := Int.mul_nonneg (show 0 ≤ x by omega) (show 0 ≤ L - x by omega)
      have e : (0 - x) * (L - x) = -(x * (L - x)) := by grind
      omega
    rcases out x g1 with hx | hx
    · have hy := pm (a := -x) (b := -y) (by omega) (by rw [Int.neg_mul_neg]; exact g3)
      have t1 := Int.mul_nonneg n1 (show 0 ≤ -x by omega)
      have t2 := Int.mul_nonneg n2 (show 0 ≤ -y by omega)
      have t3 := Int.mul_nonneg n4 (Int.le_of_lt hne)
      rw [Int.mul_neg] at t1 t2
      by_cases y1 : w1 = 0
      · have := Int.mul_pos (show 0 < w2 by omega) hy
        rw [Int.mul_neg] at this; omega
      · have := Int.mul_pos (show 0 < w1 by omega) (show 0 < -x by omega)
        rw [Int.mul_neg] at this; omega
    · have hy0 := pm (show 0 < x by omega) g3
      have hy : L < y := by rcases out y g2 with h | h <;> omega
      have t1 := Int.mul_nonneg n1 (show 0 ≤ x - L by omega)
      have t2 := Int.mul_nonneg n2 (show 0 ≤ y - L by omega)
      have t3 := Int.mul_nonneg n3 (Int.le_of_lt hne)
      have e : w1 * (x - L) + w2 * (y - L) = -(w3 * L) := by
        have hWL : (w1 + w2) * L = (w3 + w4) * L := by rw [← hs1, hs2]
        rw [Int.add_mul, Int.add_mul] at hWL
        rw [Int.mul_sub, Int.mul_sub]; omega
      by_cases y1 : w1 = 0
      · have := Int.mul_pos (show 0 < w2 by omega) (show 0 < y - L by omega)
        omega
      · have := Int.mul_pos (show 0 < w1 by omega) (show 0 < x - L by omega)
        omega
  rcases two_zero n1 n2 (by omega) D with d | ⟨d1, d2⟩ | d | d
  · rcases two_zero n3 n4 (by omega) E with e | ⟨e1, e2⟩ | e | e
    · exact .inr (.inr ⟨i, j, k, m, hi, hj, hk, hm, d, e⟩)
    · exfalso
      -- q's line holds both p's: then all are on one line
      have h1 : crs (gp a i) (gp a j) (gp b k) * dot (sub (gp b m) (gp b k)) (sub (gp b m) (gp b k)) = 0 := by simp only [crs, trn, sub, dot] at e1 e2 ⊢; grind
      rcases Int.mul_eq_zero.1 h1 with h1 | h1
      · rw [h1] at d; omega
      · have hz := pt_zero (e := sub (gp b m) (gp b k)) (by omega)
        have x1 : (gp b m).x = (gp b k).x := by have := congrArg Pt.x hz; simp only [sub] at this; omega
        have x2 : (gp b m).y = (gp b k).y := by have := congrArg Pt.y hz; simp only [sub] at this; omega
        have : gp b m = gp b k := by cases h : gp b m; cases h2 : gp b k; rw [h, h2] at x1 x2; simp only at x1 x2; rw [x1, x2]
        rw [this] at d
        have := sq_nn (crs (gp a i) (gp a j) (gp b k))
        omega
    · exact inB j hj (by have : W = w4 := by omega
                         rw [ex, e, this]; omega) (by have : W = w4 := by omega
                                                      rw [ey, e, this]; omega)
    · exact inB i hi (by have : W = w3 := by omega
                         rw [ex, e, this]; omega) (by have : W = w3 := by omega
                                                      rw [ey, e, this]; omega)
  · by_cases hz : 0 < dot (sub (gp a j) (gp a i)) (sub (gp a j) (gp a i))
    · refine line d1 d2 ?_
      have : dot (sub (gp a j) (gp a i)) (sub (gp a j) (gp a i)) * crs (gp b k) (gp b m) (gp a i) = 0 := by simp only [crs, trn, sub, dot] at d1 d2 ⊢; grind
      exact zmul hz this
    · have hz := pt_zero hz
      have x1 : (gp a j).x = (gp a i).x := by have := congrArg Pt.x hz; simp only [sub] at this; omega
      have x2 : (gp a j).y = (gp a i).y := by have := congrArg Pt.y hz; simp only [sub] at this; omega
      refine inB i hi ?_ ?_
      · rw [ex, x1]; grind
      · rw [ey, x2]; grind
  · exact inA m hm (by have : W = w2 := by omega
                       rw [← ex, d, this]; omega) (by have : W = w2 := by omega
                                                      rw [← ey, d, this]; omega)
  · exact inA k hk (by have : W = w1 := by omega
                       rw [← ex, d, this]; omega) (by have : W = w1 := by omega
                                                      rw [← ey, d, this]; omega)
end Go.Proofs.Ytacepcnbgacipaa
namespace Go.Proofs.Ytacepcnbgacipaa
open Go Go.Vc
/-- The points of both lists, each with its side. -/
def both (a b : List Pt) : List (Int × Pt) := a.map (fun p => (-1, p)) ++ b.map (fun p => (1, p))
theorem both_mem {a b : List Pt} {v : Int × Pt} (h : v ∈ both a b) : (∃ i, i < a.length ∧ v = (-1, gp a i)) ∨ (∃ j, j < b.length ∧ v = (1, gp b j)) := by
  unfold both at h
  rcases List.mem_append.1 h with h | h
  · obtain ⟨p, hp, rfl⟩ := List.mem_map.1 h
    obtain ⟨i, hi, e⟩ := List.getElem_of_mem hp
    exact .inl ⟨i, hi, by rw [gp_eq hi, e]⟩
  · obtain ⟨p, hp, rfl⟩ := List.mem_map.1 h
    obtain ⟨i, hi, e⟩ := List.getElem_of_mem hp
    exact .inr ⟨i, hi, by rw [gp_eq hi, e]⟩
theorem both_a {a b : List Pt} {i : Nat} (h : i < a.length) : ((-1, gp a i) : Int × Pt) ∈ both a b := List.mem_append.2 (.inl (List.mem_map.2 ⟨_, gp_mem h, rfl⟩))
theorem both_b {a b : List Pt} {i : Nat} (h : i < b.length) : ((1, gp b i) : Int × Pt) ∈ both a b := List.mem_append.2 (.inr (List.mem_map.2 ⟨_, gp_mem h, rfl⟩))
/-- One of b against three of a. -/
theorem meet13 {a b : List Pt} {q i j k : Nat} (hq : q < b.length) (hi : i < a.length) (hj : j < a.length) (hk : k < a.length) {w w1 w2 w3 : Int} (n1 : 0 ≤ w1) (n2 : 0 ≤ w2) (n3 : 0 ≤ w3) (hw : 0 < w) (hs : w = w1 + w2 + w3)
    (ex : w * (gp b q).x = w1 * (gp a i).x + w2 * (gp a j).x + w3 * (gp a k).x) (ey : w * (gp b q).y = w1 * (gp a i).y + w2 * (gp a j).y + w3 * (gp a k).y) : Meets a b :=
  .inr (.inl ⟨q, hq, inH_comb hi hj hk n1 n2 n3 hw hs ex ey⟩)
theorem meet31 {a b : List Pt} {q i j k : Nat} (hq : q < a.length) (hi : i < b.length) (hj : j < b.length) (hk : k < b.length) {w w1 w2 w3 : Int} (n1 : 0 ≤ w1) (n2 : 0 ≤ w2) (n3 : 0 ≤ w3) (hw : 0 < w) (hs : w = w1 + w2 + w3)
    (ex : w * (gp a q).x = w1 * (gp b i).x + w2 * (gp b j).x + w3 * (gp b k).x) (ey : w * (gp a q).y = w1 * (gp b i).y + w2 * (gp b j).y + w3 * (gp b k).y) : Meets a b :=
  .inl ⟨q, hq, inH_comb hi hj hk n1 n2 n3 hw hs ex ey⟩
theorem bad_meets {a b : List Pt} (h : Bad (both a b)) : Meets a b := by
  obtain ⟨v1, m1, v2, m2, v3, m3, v4, m4, w1, w2, w3, w4, n1, n2, n3, n4, hw, hs, hx, hy⟩ := h
  rcases both_mem m1 with ⟨i1, l1, rfl⟩ | ⟨i1, l1, rfl⟩ <;> rcases both_mem m2 with ⟨i2, l2, rfl⟩ | ⟨i2, l2, rfl⟩ <;> rcases both_mem m3 with ⟨i3, l3, rfl⟩ | ⟨i3, l3, rfl⟩ <;> rcases both_mem m4 with ⟨i4, l4, rfl⟩ | ⟨i4, l4, rfl⟩ <;>
    simp only [Int.mul_neg, Int.mul_one, Int.neg_mul] at hs hx hy
  · omega
  · exact meet13 l4 l1 l2 l3 (w := w4) n1 n2 n3 (by omega) (by omega) (by omega) (by omega)
  · exact meet13 l3 l1 l2 l4 (w := w3) n1 n2 n4 (by omega) (by omega) (by omega) (by omega)
  · exact meet22 l1 l2 l3 l4 (W := w3 + w4) n3 n4 n1 n2 (by omega) (by omega) (by omega) (by omega) (by omega)
  · exact meet13 l2 l1 l3 l4 (w := w2) n1 n3 n4 (by omega) (by omega) (by omega) (by omega)
  · exact meet22 l1 l3 l2 l4 (W := w2 + w4) n2 n4 n1 n3 (by omega) (by omega) (by omega) (by omega) (by omega)
  · exact meet22 l1 l4 l2 l3 (W := w2 + w3) n2 n3 n1 n4 (by omega) (by omega) (by omega) (by omega) (by omega)
  · exact meet31 l1 l2 l3 l4 (w := w1) n2 n3 n4 (by omega) (by omega) (by omega) (by omega)
  · exact meet13 l1 l2 l3 l4 (w := w1) n2 n3 n4 (by omega) (by omega) (by omega) (by omega)
  · exact meet22 l2 l3 l1 l4 (W := w1 + w4) n1 n4 n2 n3 (by omega) (by omega) (by omega) (by omega) (by omega)
  · exact meet22 l2 l4 l1 l3 (W := w1 + w3) n1 n3 n2 n4 (by omega) (by omega) (by omega) (by omega) (by omega)
  · exact meet31 l2 l1 l3 l4 (w := w2) n1 n3 n4 (by omega) (by omega) (by omega) (by omega)
  · exact meet22 l3 l4 l1 l2 (W := w1 + w2) n1 n2 n3 n4 (by omega) (by omega) (by omega) (by omega) (by omega)
  · exact meet31 l3 l1 l2 l4 (w := w3) n1 n2 n4 (by omega) (by omega) (by omega) (by omega)
  · exact meet31 l4 l1 l2 l3 (w := w4) n1 n2 n3 (by omega) (by omega) (by omega) (by omega)
  · omega
/-! A direction that divides: then one of those that are tried. -/
/-- The rightmost of the directions in a half plane. -/
theorem rightmost {d0 : Pt} (s : Int) : ∀ C : List Pt, C ≠ [] → (∀ c ∈ C, 0 < dot c d0) → ∃ c ∈ C, ∀ c' ∈ C, 0 ≤ s * trn c c'
  | [], h, _ => absurd rfl h
  | [a], _, _ => ⟨a, by simp, fun c' hc => by
      rw [List.mem_singleton] at hc
      subst hc
      have : trn c' c' = 0 := by simp only [trn]; grind
      rw [this, Int.mul_zero]; omega⟩
  | a :: b :: r, _, hp => by
    obtain ⟨m, hm, h⟩ := rightmost s (b :: r) (by simp) (fun c hc => hp c (List.mem_cons_of_mem _ hc))
    by_cases k : 0 ≤ s * trn m a
    · refine ⟨m, List.mem_cons_of_mem _ hm, fun c' hc => ?_⟩
      rcases List.mem_cons.1 hc with rfl | hc
      · exact k
      · exact h c' hc
    · refine ⟨a, by simp, fun c' hc => ?_⟩
      rcases List.mem_cons.1 hc with rfl | hc
      · have : trn c' c' = 0 := by simp only [trn]; grind
        rw [this, Int.mul_zero]; omega
      · have h1 := h c' hc
        apply Classical.byContradiction
        intro hcn
        have pa := hp a (by simp)
        have pm' := hp m (List.mem_cons_of_mem _ hm)
        have pc := hp c' (List.mem_cons_of_mem _ hc)
        have id : s * trn m a * dot c' d0 + s * trn a c' * dot m d0 = s * trn m c' * dot a d0 := by simp only [trn, dot]; grind
        have t1 := Int.mul_nonneg h1 (Int.le_of_lt pa)
        have t2 := Int.mul_pos (show 0 < -(s * trn m a) by omega) pc
        have t3 := Int.mul_pos (show 0 < -(s * trn a c') by omega) pm'
        rw [Int.neg_mul] at t2 t3
        omega
end Go.Proofs.Ytacepcnbgacipaa
namespace Go.Proofs.Ytacepcnbgacipaa
open Go Go.Vc
theorem mem_wA {a b : List Pt} {c : Pt} : c ∈ wA a b a.length ↔ ∃ i j, i < a.length ∧ j < b.length ∧ c = sub (gp b j) (gp a i) := by
  simp only [wA, wAr, List.mem_flatMap, List.mem_range, List.mem_map]
  constructor
  · rintro ⟨i, hi, j, hj, rfl⟩; exact ⟨i, j, hi, hj, rfl⟩
  · rintro ⟨i, j, hi, hj, rfl⟩; exact ⟨i, hi, j, hj, rfl⟩
theorem mem_norms {a b : List Pt} {k i j : Nat} (hk : k < 2) (hij : i < j) (hj : j < (ll a b k).length) : nrm (gp (ll a b k) i) (gp (ll a b k) j) ∈ ways a b ∧ nrn (gp (ll a b k) i) (gp (ll a b k) j) ∈ ways a b := by
  have : ∀ x, (x = nrm (gp (ll a b k) i) (gp (ll a b k) j) ∨ x = nrn (gp (ll a b k) i) (gp (ll a b k) j)) → x ∈ ways a b := by
    intro x hx
    unfold ways
    refine List.mem_append.2 (.inr ?_)
    simp only [wL, wN, wNr, List.mem_flatMap, List.mem_range, List.mem_cons, List.not_mem_nil, or_false]
    exact ⟨k, hk, i, by omega, j - (i + 1), by omega, by rw [show i + 1 + (j - (i + 1)) = j by omega]; exact hx⟩
  exact ⟨this _ (.inl rfl), this _ (.inr rfl)⟩
theorem splits_of {a b : List Pt} {d : Pt} (ha : 0 < a.length) (hb : 0 < b.length) (h : ∀ c ∈ wA a b a.length, 0 < dot c d) : splits a b d = true := by
  unfold splits top
  obtain ⟨i, hi, ei⟩ := topTo_at a d a.length
  obtain ⟨j, hj, ej⟩ := topTo_at b (neg d) b.length
  have := h (sub (gp b j) (gp a i)) (mem_wA.2 ⟨i, j, by omega, by omega, rfl⟩)
  rw [ei, ej, decide_eq_true_eq, dot_neg]
  rw [dot_sub] at this
  omega
/-- A normal of two points, pointing the right way. -/
theorem norm_way {a b : List Pt} (ha : 0 < a.length) (hb : 0 < b.length) {n : Pt} (h : ∀ c ∈ wA a b a.length, 0 < dot c n) {k i j : Nat} (hk : k < 2) (hi : i < (ll a b k).length) (hj : j < (ll a b k).length)
    (hne : gp (ll a b k) i ≠ gp (ll a b k) j) (he : dot (gp (ll a b k) i) n = dot (gp (ll a b k) j) n) : ∃ d ∈ ways a b, splits a b d = true := by
  have hm : nrm (gp (ll a b k) i) (gp (ll a b k) j) ∈ ways a b ∧ nrn (gp (ll a b k) i) (gp (ll a b k) j) ∈ ways a b := by
    have hij : i ≠ j := fun e => hne (by rw [e])
    rcases Nat.lt_or_gt_of_ne hij with hlt | hlt
    · exact mem_norms hk hlt hj
    · have := mem_norms (a := a) (b := b) hk hlt hi
      exact ⟨by rw [← nrn_swap]; exact this.2, by rw [← nrm_swap]; exact this.1⟩
  have hc0 := h _ (mem_wA.2 ⟨0, 0, ha, hb, rfl⟩)
  have hn : 0 < dot n n := by
    refine sq_pos fun e => ?_
    rw [e] at hc0
    simp [dot] at hc0
  have hg : 0 < dot (nrm (gp (ll a b k) i) (gp (ll a b k) j)) (nrm (gp (ll a b k) i) (gp (ll a b k) j)) := sq_pos (nrm_ne hne)
  have ht : trn (nrm (gp (ll a b k) i) (gp (ll a b k) j)) n = 0 := by
    simp only [dot] at he
    simp only [trn, nrm, sub]; grind
  rw [nrn_neg] at hm
  generalize nrm (gp (ll a b k) i) (gp (ll a b k) j) = g at *
  have key : ∀ c, dot n n * dot c g = dot g n * dot c n := fun c => by simp only [dot, trn] at ht ⊢; grind
  rcases Int.lt_trichotomy (dot g n) 0 with hs | hs | hs
  · refine ⟨_, hm.2, splits_of ha hb fun c hc => ?_⟩
    rw [dot_neg]
    refine pm hn ?_
    rw [Int.mul_neg, key c, ← Int.neg_mul]
    exact Int.mul_pos (by omega) (h c hc)
  · exfalso
    have k2 := key g
    rw [hs, Int.zero_mul] at k2
    have := Int.mul_pos hn hg
    omega
  · refine ⟨_, hm.1, splits_of ha hb fun c hc => ?_⟩
    refine pm hn ?_
    rw [key c]
    exact Int.mul_pos hs (h c hc)
theorem list_min (f : Pt → Int) : ∀ C : List Pt, C ≠ [] → ∃ c ∈ C, ∀ c' ∈ C, f c ≤ f c'
  | [], h => absurd rfl h
  | [a], _ => ⟨a, by simp, by simp⟩
  | a :: b :: r, _ => by
    obtain ⟨m, hm, h⟩ := list_min f (b :: r) (by simp)
    by_cases k : f m ≤ f a
    · refine ⟨m, List.mem_cons_of_mem _ hm, fun c' hc => ?_⟩
      rcases List.mem_cons.1 hc with rfl | hc
      · exact k
      · exact h c' hc
    · refine ⟨a, by simp, fun c' hc => ?_⟩
      rcases List.mem_cons.1 hc with rfl | hc
      · omega
      · have := h c' hc; omega
theorem par_zero {c e : Pt} (hc : 0 < dot c c) (h1 : trn c e = 0) (h2 : dot e c = 0) : e = ⟨0, 0⟩ := by
  have k1 : dot c c * e.x = 0 := by simp only [dot, trn] at *; grind
  have k2 : dot c c * e.y = 0 := by simp only [dot, trn] at *; grind
  have x := zmul hc k1
  have y := zmul hc k2
  cases e; simp only at x y; rw [x, y]
theorem sep_way {a b : List Pt} (ha : 0 < a.length) (hb : 0 < b.length) (hS : Sep (both a b)) : ∃ d ∈ ways a b, splits a b d = true := by
  obtain ⟨d0, t, hd⟩ := hS
  have hp : ∀ c ∈ wA a b a.length, 0 < dot c d0 := by
    intro c hc
    obtain ⟨i, j, hi, hj, rfl⟩ := mem_wA.1 hc
    have h1 := hd _ (both_a (b := b) hi)
    have h2 := hd _ (both_b (a := a) hj)
    simp only at h1 h2
    rw [dot_sub]; omega
  have hC : wA a b a.length ≠ [] := fun e => by
    have := mem_wA.2 ⟨0, 0, ha, hb, rfl⟩
    rw [e] at this; cases this
  obtain ⟨c0, m0, r0⟩ := rightmost 1 _ hC hp
  have r0' : ∀ c ∈ wA a b a.length, 0 ≤ trn c0 c := fun c hc => by have := r0 c hc; omega
  have p0 := hp c0 m0
  have q0 : 0 < dot c0 c0 := by
    refine sq_pos fun e => ?_
    rw [e] at p0
    simp [dot] at p0
  have par : ∀ c ∈ wA a b a.length, trn c0 c = 0 → 0 < dot c c0 := by
    intro c hc hz
    refine pm p0 ?_
    have : dot c0 d0 * dot c c0 = dot c0 c0 * dot c d0 := by simp only [dot, trn] at *; grind
    rw [this]
    exact Int.mul_pos q0 (hp c hc)
  by_cases hall : ∀ c ∈ wA a b a.length, trn c0 c = 0
  · refine ⟨c0, ?_, splits_of ha hb fun c hc => par c hc (hall c hc)⟩
    unfold ways
    exact List.mem_append.2 (.inl m0)
  obtain ⟨cx, mx, hx⟩ : ∃ c ∈ wA a b a.length, 0 < trn c0 c := by
    apply Classical.byContradiction
    intro hn
    exact hall fun c hc => by
      have := r0' c hc
      apply Classical.byContradiction
      intro h; exact hn ⟨c, hc, by omega⟩
  -- the nearest on the ray
  have z0 : trn c0 c0 = 0 := by simp only [trn]; grind
  obtain ⟨c1, m1', n1⟩ := list_min (fun c => dot c c0) ((wA a b a.length).filter fun c => decide (trn c0 c = 0)) (fun e => by
    have : c0 ∈ (wA a b a.length).filter fun c => decide (trn c0 c = 0) := List.mem_filter.2 ⟨m0, by simp [z0]⟩
    rw [e] at this; cases this)
  obtain ⟨m1, z1⟩ := List.mem_filter.1 m1'
  have z1 : trn c0 c1 = 0 := by simpa using z1
  have n1 : ∀ c ∈ wA a b a.length, trn c0 c = 0 → dot c1 c0 ≤ dot c c0 := fun c hc hz => n1 c (List.mem_filter.2 ⟨hc, by simp [hz]⟩)
  have hE : ∀ e ∈ ((wA a b a.length).filter fun c => decide (c ≠ c1)).map (fun c => sub c c1), 0 < trn c0 e ∨ (trn c0 e = 0 ∧ 0 < dot e c0) := by
    intro e he
    obtain ⟨c, hc, rfl⟩ := List.mem_map.1 he
    obtain ⟨hc, hne⟩ := List.mem_filter.1 hc
    have hne : c ≠ c1 := by simpa using hne
    have e1 : trn c0 (sub c c1) = trn c0 c := by simp only [trn, sub] at *; grind
    have h1 := r0' c hc
    rw [e1]
    by_cases hz : trn c0 c = 0
    · refine .inr ⟨hz, ?_⟩
      have h2 := n1 c hc hz
      rw [dot_sub]
      apply Classical.byContradiction
      intro hcn
      exact sub_ne hne (par_zero q0 (e1.trans hz) (by rw [dot_sub]; omega))
    · exact .inl (by omega)
  obtain ⟨N, hN, hbig⟩ := big_n (fun e => trn c0 e) (fun e => dot e c0) _ hE
  have hpos : ∀ e ∈ ((wA a b a.length).filter fun c => decide (c ≠ c1)).map (fun c => sub c c1), 0 < dot e ⟨N * (rot c0).x + c0.x, N * (rot c0).y + c0.y⟩ := fun e he => by
    have h1 := hbig e he
    have : dot e ⟨N * (rot c0).x + c0.x, N * (rot c0).y + c0.y⟩ = N * trn c0 e + dot e c0 := by simp only [dot, rot, trn]; grind
    rw [this]; exact h1
  have hxne : cx ≠ c1 := fun e => by rw [e, z1] at hx; omega
  have hxE : sub cx c1 ∈ ((wA a b a.length).filter fun c => decide (c ≠ c1)).map (fun c => sub c c1) := List.mem_map.2 ⟨cx, List.mem_filter.2 ⟨mx, by simp [hxne]⟩, rfl⟩
  obtain ⟨e2, me, re⟩ := rightmost (-1) _ (fun e => by rw [e] at hxE; cases hxE) hpos
  have hE2 := hE e2 me
  obtain ⟨c2, mc, rfl⟩ := List.mem_map.1 me
  obtain ⟨m2, hne2⟩ := List.mem_filter.1 mc
  have hne2 : c2 ≠ c1 := by simpa using hne2
  have hup : 0 < trn c0 (sub c2 c1) := by
    rcases hE2 with h | ⟨h, h'⟩
    · exact h
    · exfalso
      have h1 := re _ hxE
      have h2 : 0 < trn c0 (sub cx c1) := by
        have : trn c0 (sub cx c1) = trn c0 cx := by simp only [trn, sub] at *; grind
        rw [this]; exact hx
      have h3 : dot c0 c0 * trn (sub c2 c1) (sub cx c1) = dot (sub c2 c1) c0 * trn c0 (sub cx c1) := by
        generalize sub c2 c1 = e at *
        generalize sub cx c1 = e' at *
        simp only [dot, trn] at *; grind
      have h4 := Int.mul_pos h' h2
      rw [← h3] at h4
      have := pm q0 h4
      omega
  have hn1 : 0 < dot c1 (neg (rot (sub c2 c1))) := by
    refine pm q0 ?_
    have : dot c0 c0 * dot c1 (neg (rot (sub c2 c1))) = dot c1 c0 * trn c0 (sub c2 c1) := by
      generalize sub c2 c1 = e at *
      simp only [dot, trn, neg, rot] at *; grind
    rw [this]
    exact Int.mul_pos (par c1 m1 z1) hup
  have hge : ∀ c ∈ wA a b a.length, dot c1 (neg (rot (sub c2 c1))) ≤ dot c (neg (rot (sub c2 c1))) := by
    intro c hc
    by_cases hcc : c = c1
    · rw [hcc]; omega
    · have h1 := re (sub c c1) (List.mem_map.2 ⟨c, List.mem_filter.2 ⟨hc, by simp [hcc]⟩, rfl⟩)
      have h2 : dot (sub c c1) (neg (rot (sub c2 c1))) = -1 * trn (sub c2 c1) (sub c c1) := by
        generalize sub c2 c1 = e at *
        generalize sub c c1 = e' at *
        simp only [dot, trn, neg, rot]; grind
      rw [← h2, dot_sub] at h1
      omega
  have heq : dot c2 (neg (rot (sub c2 c1))) = dot c1 (neg (rot (sub c2 c1))) := by
    simp only [dot, neg, rot, sub]; grind
  generalize neg (rot (sub c2 c1)) = n at *
  have hall2 : ∀ c ∈ wA a b a.length, 0 < dot c n := fun c hc => by have := hge c hc; omega
  obtain ⟨i1, j1, hi1, hj1, rfl⟩ := mem_wA.1 m1
  obtain ⟨i2, j2, hi2, hj2, rfl⟩ := mem_wA.1 m2
  have g1 := hge _ (mem_wA.2 ⟨i1, j2, hi1, hj2, rfl⟩)
  have g2 := hge _ (mem_wA.2 ⟨i2, j1, hi2, hj1, rfl⟩)
  rw [dot_sub, dot_sub] at g1 g2 heq
  by_cases hb2 : gp b j1 = gp b j2
  · have ha2 : gp a i1 ≠ gp a i2 := fun e => hne2 (by rw [e, hb2])
    exact norm_way ha hb hall2 (k := 0) (by omega) hi1 hi2 ha2 (by show dot (gp a i1) n = dot (gp a i2) n; omega)
  · exact norm_way ha hb hall2 (k := 1) (by omega) hj1 hj2 hb2 (by show dot (gp b j1) n = dot (gp b j2) n; omega)
/-- No direction of those that are tried divides: then the hulls meet. -/
theorem no_way {a b : List Pt} (ha : 0 < a.length) (hb : 0 < b.length) (h : ∀ d ∈ ways a b, splits a b d = false) : Meets a b := by
  rcases kirch (both a b) (fun v hv => by
    rcases both_mem hv with ⟨i, _, rfl⟩ | ⟨i, _, rfl⟩
    · exact .inr rfl
    · exact .inl rfl) with hS | hB
  · obtain ⟨d, hd, hs⟩ := sep_way ha hb hS
    rw [h d hd] at hs; cases hs
  · exact bad_meets hB
end Go.Proofs.Ytacepcnbgacipaa
namespace Go.Proofs.Ytacepcnbgacipaa
open Go Go.Vc Go.RowKit
set_option maxHeartbeats 4000000
/-! KDQ -/
/-- A function value that says yes or no of a point. -/
abbrev Says (K n : Nat) (cf : Nat → AV) (p : Pt → Bool) : Prop := ∀ q, SmP q → CtrA Try.prog K ([pp q] ++ (List.range n).map cf) (vb (p q))
theorem indexg_c (l : List Pt) (sm : ∀ i, SmP (gp l i)) (hn : l.length ≤ 10000) {K n : Nat} {cf : Nat → AV} {p : Pt → Bool} (hs : Says K n cf p) : CtrA Try.prog 71 [pts l, .clo K n cf] (vi (ixB (fun k => p (gp l k)) l.length)) := by
  refine ctrA _ Try.func71 rfl rfl Try.ntmps71 rfl fun w Z => ?_
  simp only [initT, List.map_cons, List.map_nil, Nat.zero_add, Nat.reduceAdd]
  refine cq_seq ?_
  refine cq_region ?_
  apply sq_g; exact g_assign (s := .av (.val (.int _ _))) rfl; exact rfl
  refine sq_nil ?_
  refine sq_then ?_
  refine cq_seq ?_
  refine cq_seq ?_
  refine cq_region ?_
  apply sq_g; exact g_move (s := .av _) rfl; exact rfl
  apply sq_g; exact g_len rfl; exact rfl
  apply sq_g; exact g_move (s := .av (.val (.int _ _))) rfl; exact rfl
  refine sq_nil ?_
  refine sq_then ?_
  refine cq_block ?_
  refine cq_loop (γ := Nat) (fun k => [(0, .av (pts l)), (1, .av (.clo K n cf)), (6, .av (pts l)), (7, .av (vi l.length)), (8, .av (vi k))]) (fun _ => []) (fun k => k ≤ l.length ∧ ∀ j, j < k → p (gp l j) = false) (fun k => l.length - k) 0 ⟨Nat.zero_le _, by omega⟩ (ent ⟨.refl _, .refl _, .refl _, .refl _, .refl _, trivial⟩ trivial) ?_
  rintro k ⟨hk, hall⟩
  refine cq_seq ?_
  refine cq_region ?_
  apply sq_g; exact g_cmp rfl rfl rfl; exact rfl
  refine sq_nil ?_
  refine sq_then ?_
  refine cq_seq ?_
  (refine cq_cond rfl (fun hb => ?_) (fun hb => ?_) <;> (try simp only [decide_eq_true_eq, decide_eq_false_iff_not, beq_iff_eq, beq_eq_false_iff_ne, bne_iff_ne, bne_eq_false_iff_eq, ne_eq, Bool.not_eq_true', Bool.not_eq_false', Bool.and_eq_true, Bool.or_eq_true, Bool.and_eq_false_iff, Bool.or_eq_false_iff] at hb) <;> (try (exfalso; omega)))
  · have hkl : k < l.length := by omega
    refine cq_skip ?_
    refine sq_then ?_
    refine cq_seq ?_
    refine cq_block ?_
    refine cq_seq ?_
    refine cq_region ?_
    apply sq_g; exact g_move (s := .av (.val (.int _ _))) rfl; exact rfl
    apply sq_g; exact g_assign (s := .av (.val (.int _ _))) rfl; exact rfl
    refine sq_nil ?_
    refine sq_then ?_
    refine cq_seq ?_
    refine cq_region ?_
    apply sq_g; exact g_move (s := .av _) rfl; exact rfl
    apply sq_g; exact g_move (s := .av _) rfl; exact rfl
    apply sq_g; exact g_move (s := .av (.val (.int _ _))) rfl; exact rfl
    apply sq_g; exact g_index rfl rfl rfl (by omega); exact rfl
    apply sq_g; exact g_load_agg (us := [.int _ _, .int _ _]) rfl rfl rfl rfl; exact rfl
    apply sq_g; exact  g_callc (τs := [_]) (n := n) (cf := cf) (hs (gp l k) (sm k)) rfl rfl; exact rfl
    refine sq_nil ?_
    refine sq_then ?_
    (refine cq_cond rfl (fun hb => ?_) (fun hb => ?_) <;> (try simp only [decide_eq_true_eq, decide_eq_false_iff_not, beq_iff_eq, beq_eq_false_iff_ne, bne_iff_ne, bne_eq_false_iff_eq, ne_eq, Bool.not_eq_true', Bool.not_eq_false', Bool.and_eq_true, Bool.or_eq_true, Bool.and_eq_false_iff, Bool.or_eq_false_iff] at hb) <;> (try (exfalso; omega)))
    · have e1 := ixB_hit (p := fun k => p (gp l k)) hkl hall hb
      refine cq_seq ?_
      refine cq_region ?_
      apply sq_g; exact g_move (s := .av (.val (.int _ _))) rfl; exact rfl
      apply sq_g; exact g_assign (s := .av (.val (.int _ _))) rfl; exact rfl
      refine sq_nil ?_
      refine sq_then ?_
      refine cq_ret ?_
      refine sq_inBlock_ret ?_
      refine sq_then_ret ?_
      refine sq_then_ret ?_
      refine sq_inBlock_ret ?_
      refine sq_then_ret ?_
      exact sq_res1 rfl (.tmp rfl) (by rw [e1])
    · refine cq_skip ?_
      refine sq_then ?_
      refine cq_region ?_
      apply sq_g; exact g_arith rfl rfl rfl (by omega); exact rfl
      apply sq_g; exact g_move (s := .av (.val (.int _ _))) rfl; exact rfl
      refine sq_nil ?_
      exact sq_round (k + 1) ⟨by omega, lt_step hall (by simpa using hb)⟩ (by omega) (ent ⟨.refl _, .refl _, .refl _, .refl _, .int (by omega), trivial⟩ trivial)
  · have hkl : k = l.length := by omega
    subst hkl
    have e1 := ixB_no (p := fun k => p (gp l k)) hall
    refine cq_exit ?_
    refine sq_then ?_
    refine cq_seq ?_
    refine cq_region ?_
    apply sq_g; exact g_assign (s := .av (.val (.int _ _))) rfl; exact rfl
    refine sq_nil ?_
    refine sq_then ?_
    refine cq_ret ?_
    exact sq_res1 rfl (.tmp rfl) (by rw [e1])
theorem containsg_c (l : List Pt) (sm : ∀ i, SmP (gp l i)) (hn : l.length ≤ 10000) {K n : Nat} {cf : Nat → AV} {p : Pt → Bool} (hs : Says K n cf p) : CtrA Try.prog 27 [pts l, .clo K n cf] (vb (decide (0 ≤ ixB (fun k => p (gp l k)) l.length))) := by
  refine ctrA _ Try.func27 rfl rfl Try.ntmps27 rfl fun w Z => ?_
  simp only [initT, List.map_cons, List.map_nil, Nat.zero_add, Nat.reduceAdd]
  refine cq_seq ?_
  refine cq_region ?_
  apply sq_g; exact g_assign (s := .av (.val (.bool _))) rfl; exact rfl
  refine sq_nil ?_
  refine sq_then ?_
  refine cq_seq ?_
  refine cq_region ?_
  apply sq_g; exact g_move (s := .av _) rfl; exact rfl
  apply sq_g; exact g_move (s := .av _) rfl; exact rfl
  apply sq_g; exact g_call (indexg_c l sm hn hs) rfl; exact rfl
  apply sq_g; exact g_cmp rfl rfl rfl; exact rfl
  apply sq_g; exact g_assign (s := .av (.val (.bool _))) rfl; exact rfl
  refine sq_nil ?_
  refine sq_then ?_
  refine cq_ret ?_
  exact sq_res1 rfl (.tmp rfl) rfl
abbrev mp (m : Int) : AV := .ptr 1 (fun _ => vi m)
theorem most_c (d : Pt) (hd : BdP d) (m : Int) (q : Pt) (hq : SmP q) : CtrA Try.prog 28 [pp q, bp d, mp m] (vb (decide (dot q d ≤ m))) := by
  refine ctrA _ Try.func28 rfl rfl Try.ntmps28 rfl fun w Z => ?_
  simp only [initT, List.map_cons, List.map_nil, Nat.zero_add, Nat.reduceAdd]
  refine cq_seq ?_
  refine cq_region ?_
  apply sq_g; exact g_box_agg rfl; exact rfl
  apply sq_g; exact g_assign (s := .av (.val (.bool _))) rfl; exact rfl
  refine sq_nil ?_
  refine sq_then ?_
  refine cq_seq ?_
  refine cq_drawn ?_
  apply dq_g; exact g_load_agg (us := [.int _ _, .int _ _]) rfl rfl rfl rfl; exact rfl
  apply dq_g; exact g_load_agg (us := [.int _ _, .int _ _]) rfl rfl rfl rfl; exact rfl
  apply dq_g; exact g_call (times_c q d hq.bd hd) rfl; exact rfl
  apply dq_g; exact g_load (τ := .val (.int _ _)) rfl rfl rfl; exact rfl
  apply dq_g; exact g_cmp rfl rfl rfl; exact rfl
  apply dq_g; exact g_assign (s := .av (.val (.bool _))) rfl; exact rfl
  refine dq_nil tm (by kernel_rfl) ?_
  refine sq_then ?_
  refine cq_ret ?_
  exact sq_res1 rfl (.tmp rfl) rfl
theorem inb_c (l : List Pt) (sm : ∀ i, SmP (gp l i)) (hn : l.length ≤ 64) (q : Pt) (hq : SmP q) : CtrA Try.prog 29 [pp q, lp l] (vb (inH l q)) := by
  refine ctrA _ Try.func29 rfl rfl Try.ntmps29 rfl fun w Z => ?_
  simp only [initT, List.map_cons, List.map_nil, Nat.zero_add, Nat.reduceAdd]
  refine cq_seq ?_
  refine cq_region ?_
  apply sq_g; exact g_box_agg rfl; exact rfl
  apply sq_g; exact g_assign (s := .av (.val (.bool _))) rfl; exact rfl
  refine sq_nil ?_
  refine sq_then ?_
  refine cq_seq ?_
  refine cq_region ?_
  apply sq_g; exact g_load rfl rfl rfl; exact rfl
  apply sq_g; exact g_load_agg (us := [.int _ _, .int _ _]) rfl rfl rfl rfl; exact rfl
  apply sq_g; exact g_call (inH_c l q sm hq hn) rfl; exact rfl
  apply sq_g; exact g_assign (s := .av (.val (.bool _))) rfl; exact rfl
  refine sq_nil ?_
  refine sq_then ?_
  refine cq_ret ?_
  exact sq_res1 rfl (.tmp rfl) rfl
theorem ina_c (l : List Pt) (sm : ∀ i, SmP (gp l i)) (hn : l.length ≤ 64) (q : Pt) (hq : SmP q) : CtrA Try.prog 31 [pp q, lp l] (vb (inH l q)) := by
  refine ctrA _ Try.func31 rfl rfl Try.ntmps31 rfl fun w Z => ?_
  simp only [initT, List.map_cons, List.map_nil, Nat.zero_add, Nat.reduceAdd]
  refine cq_seq ?_
  refine cq_region ?_
  apply sq_g; exact g_box_agg rfl; exact rfl
  apply sq_g; exact g_assign (s := .av (.val (.bool _))) rfl; exact rfl
  refine sq_nil ?_
  refine sq_then ?_
  refine cq_seq ?_
  refine cq_region ?_
  apply sq_g; exact g_load rfl rfl rfl; exact rfl
  apply sq_g; exact g_load_agg (us := [.int _ _, .int _ _]) rfl rfl rfl rfl; exact rfl
  apply sq_g; exact g_call (inH_c l q sm hq hn) rfl; exact rfl
  apply sq_g; exact g_assign (s := .av (.val (.bool _))) rfl; exact rfl
  refine sq_nil ?_
  refine sq_then ?_
  refine cq_ret ?_
  exact sq_res1 rfl (.tmp rfl) rfl
end Go.Proofs.Ytacepcnbgacipaa
namespace Go.Proofs.Ytacepcnbgacipaa
open Go Go.Vc Go.RowKit
set_option maxHeartbeats 4000000
/-! KDQ -/
def crB (a b : List Pt) (i j k m : Nat) : Bool := decide (sgn (crs (gp a i) (gp a j) (gp b k)) * sgn (crs (gp a i) (gp a j) (gp b m)) < 0) && decide (sgn (crs (gp b k) (gp b m) (gp a i)) * sgn (crs (gp b k) (gp b m) (gp a j)) < 0)
def d4 (a b : List Pt) (s : Bool) (i j k m : Nat) : Bool := s || (List.range m).any (crB a b i j k)
def d3 (a b : List Pt) (s : Bool) (i j k : Nat) : Bool := s || (List.range k).any fun k => (List.range b.length).any (crB a b i j k)
def d2 (a b : List Pt) (s : Bool) (i j : Nat) : Bool := s || (List.range j).any fun j => (List.range b.length).any fun k => (List.range b.length).any (crB a b i j k)
def d1 (a b : List Pt) (s : Bool) (i : Nat) : Bool := s || (List.range i).any fun i => (List.range a.length).any fun j => (List.range b.length).any fun k => (List.range b.length).any (crB a b i j k)
theorem d4_0 (a b : List Pt) (s : Bool) (i j k : Nat) : d4 a b s i j k 0 = s := by simp [d4]
theorem d3_0 (a b : List Pt) (s : Bool) (i j : Nat) : d3 a b s i j 0 = s := by simp [d3]
theorem d2_0 (a b : List Pt) (s : Bool) (i : Nat) : d2 a b s i 0 = s := by simp [d2]
theorem d1_0 (a b : List Pt) (s : Bool) : d1 a b s 0 = s := by simp [d1]
theorem d4_s (a b : List Pt) (s : Bool) (i j k m : Nat) : d4 a b s i j k (m + 1) = (d4 a b s i j k m || crB a b i j k m) := by simp [d4, List.range_succ, Bool.or_assoc]
theorem d3_s (a b : List Pt) (s : Bool) (i j k : Nat) : d3 a b s i j (k + 1) = d4 a b (d3 a b s i j k) i j k b.length := by simp [d3, d4, List.range_succ, Bool.or_assoc]
theorem d2_s (a b : List Pt) (s : Bool) (i j : Nat) : d2 a b s i (j + 1) = d3 a b (d2 a b s i j) i j b.length := by simp [d2, d3, List.range_succ, Bool.or_assoc]
theorem d1_s (a b : List Pt) (s : Bool) (i : Nat) : d1 a b s (i + 1) = d2 a b (d1 a b s i) i a.length := by simp [d1, d2, List.range_succ, Bool.or_assoc]
theorem sgn_bd (x : Int) : -1 ≤ sgn x ∧ sgn x ≤ 1 := by
  unfold sgn; split
  · omega
  · split <;> omega
theorem sgn_mul {x y : Int} (h : x * y < 0) : sgn x * sgn y < 0 := by
  rcases Int.lt_trichotomy x 0 with hx | hx | hx
  · have hy : 0 < y := pm (a := -x) (by omega) (by rw [Int.neg_mul]; omega)
    simp only [sgn, if_pos hx, if_neg (show ¬ y < 0 by omega), if_pos hy]; omega
  · subst hx; omega
  · have hy : 0 < -y := pm hx (by rw [Int.mul_neg]; omega)
    simp only [sgn, if_neg (show ¬ x < 0 by omega), if_pos hx, if_pos (show y < 0 by omega)]; omega
theorem ixB_fst {p : Nat → Bool} {n : Nat} (h : decide (0 ≤ ixB p n) = false) : ∀ k, k < n → p k = false := by
  intro k hk
  rw [decide_eq_false_iff_not] at h
  unfold ixB at h
  split at h
  · omega
  · rename_i h2
    rw [List.find?_eq_none] at h2
    simpa using h2 k (List.mem_range.2 hk)
theorem ixB_neg {p : Nat → Bool} {n : Nat} (h : ∀ k, k < n → p k = false) : decide (0 ≤ ixB p n) = false := by
  rw [ixB_no h]; rfl
theorem ixB_pos {p : Nat → Bool} {n k : Nat} (hk : k < n) (h : p k = true) : decide (0 ≤ ixB p n) = true := by
  cases hd : decide (0 ≤ ixB p n)
  · rw [ixB_fst hd k hk] at h; cases h
  · rfl
theorem d1_meet {a b : List Pt} (hM : Meets a b) (hA : decide (0 ≤ ixB (fun k => inH b (gp a k)) a.length) = false) : d1 a b (decide (0 ≤ ixB (fun k => inH a (gp b k)) b.length)) a.length = true := by
  rcases hM with ⟨i, hi, h⟩ | ⟨j, hj, h⟩ | ⟨i, j, k, m, hi, hj, hk, hm, h1, h2⟩
  · have := ixB_fst hA i hi
    rw [h] at this; cases this
  · rw [ixB_pos (p := fun k => inH a (gp b k)) hj h]; simp [d1]
  · unfold d1
    rw [Bool.or_eq_true]
    right
    refine List.any_eq_true.2 ⟨i, List.mem_range.2 hi, List.any_eq_true.2 ⟨j, List.mem_range.2 hj, List.any_eq_true.2 ⟨k, List.mem_range.2 hk, List.any_eq_true.2 ⟨m, List.mem_range.2 hm, ?_⟩⟩⟩⟩
    unfold crB
    rw [Bool.and_eq_true]
    exact ⟨decide_eq_true (sgn_mul h1), decide_eq_true (sgn_mul h2)⟩
theorem divides_c (a b : List Pt) : CtrA Try.prog 6 [pts a, pts b] (vb true) := by
  refine ctrA _ Try.func6 rfl rfl Try.ntmps6 rfl fun w Z => ?_
  simp only [initT, List.map_cons, List.map_nil, Nat.zero_add, Nat.reduceAdd]
  by_cases hra : rgt a = true
  case neg =>
    have c1 := lright_c a
    rw [Bool.eq_false_iff.2 hra] at c1
    refine cq_seq ?_
    refine cq_region ?_
    apply sq_g; exact g_box rfl rfl; exact rfl
    apply sq_g; exact g_box rfl rfl; exact rfl
    apply sq_g; exact g_assign (s := .av (.val (.bool _))) rfl; exact rfl
    refine sq_nil ?_
    refine sq_then ?_
    refine cq_seq ?_
    refine cq_seq ?_
    refine cq_region ?_
    apply sq_g; exact g_load rfl rfl rfl; exact rfl
    apply sq_g; exact g_call (c1) rfl; exact rfl
    apply sq_g; exact g_not rfl; exact rfl
    apply sq_g; exact g_move (s := .av (.val (.bool _))) rfl; exact rfl
    refine sq_off rfl rfl rfl rfl ?_
    refine sq_off rfl rfl rfl rfl ?_
    refine sq_off rfl rfl rfl rfl ?_
    apply sq_g; exact g_pick (s := .av (.val (.bool _))) rfl rfl; exact rfl
    refine sq_nil ?_
    refine sq_then ?_
    refine cq_cond_t rfl ?_
    refine cq_seq ?_
    refine cq_region ?_
    apply sq_g; exact g_call (awake_c) rfl; exact rfl
    apply sq_g; exact g_assign (s := .av (.val (.bool _))) rfl; exact rfl
    refine sq_nil ?_
    refine sq_then ?_
    refine cq_ret ?_
    refine sq_then_ret ?_
    exact sq_res1 rfl (.tmp rfl) rfl
  have c1 := lright_c a
  rw [hra] at c1
  by_cases hrb : rgt b = true
  case neg =>
    have c2 := lright_c b
    rw [Bool.eq_false_iff.2 hrb] at c2
    refine cq_seq ?_
    refine cq_region ?_
    apply sq_g; exact g_box rfl rfl; exact rfl
    apply sq_g; exact g_box rfl rfl; exact rfl
    apply sq_g; exact g_assign (s := .av (.val (.bool _))) rfl; exact rfl
    refine sq_nil ?_
    refine sq_then ?_
    refine cq_seq ?_
    refine cq_seq ?_
    refine cq_region ?_
    apply sq_g; exact g_load rfl rfl rfl; exact rfl
    apply sq_g; exact g_call (c1) rfl; exact rfl
    apply sq_g; exact g_not rfl; exact rfl
    apply sq_g; exact g_move (s := .av (.val (.bool _))) rfl; exact rfl
    apply sq_on; exact g_load rfl rfl rfl; exact rfl; exact rfl; exact rfl
    apply sq_on; exact g_call (c2) rfl; exact rfl; exact rfl; exact rfl
    apply sq_on; exact g_not rfl; exact rfl; exact rfl; exact rfl
    apply sq_g; exact g_pick (s := .av (.val (.bool _))) rfl rfl; exact rfl
    refine sq_nil ?_
    refine sq_then ?_
    refine cq_cond_t rfl ?_
    refine cq_seq ?_
    refine cq_region ?_
    apply sq_g; exact g_call (awake_c) rfl; exact rfl
    apply sq_g; exact g_assign (s := .av (.val (.bool _))) rfl; exact rfl
    refine sq_nil ?_
    refine sq_then ?_
    refine cq_ret ?_
    refine sq_then_ret ?_
    exact sq_res1 rfl (.tmp rfl) rfl
  have c2 := lright_c b
  rw [hrb] at c2
  obtain ⟨a0, a8, hca⟩ : 0 < a.length ∧ a.length ≤ 8 ∧ chk a = 0 := by simpa using hra
  obtain ⟨b0, b8, hcb⟩ : 0 < b.length ∧ b.length ≤ 8 ∧ chk b = 0 := by simpa using hrb
  have sa := chk_sm hca
  have sb := chk_sm hcb
  have cs := sep_c a b
  clear hra hrb
  cases hf : (ways a b).find? (splits a b) with
  | some d =>
    have hd := ways_bd sa sb d (List.mem_of_find?_eq_some hf)
    have hsp := List.find?_some hf
    have hR : sepR a b = (true, d, top a d, 0) := by simp [sepR, hca, hcb, hf, show a ≠ [] by intro e; subst e; simp at a0, show b ≠ [] by intro e; subst e; simp at b0]
    rw [hR] at cs
    have h1 : ∀ k, k < a.length → dot (gp a k) d ≤ top a d := fun k hk => topTo_le a d _ k hk
    have h2 : ∀ k, k < b.length → decide (dot (gp b k) d ≤ top a d) = false := fun k hk => by
      unfold splits at hsp
      rw [decide_eq_true_eq] at hsp
      have := topTo_le b (neg d) _ k hk
      rw [dot_neg] at this
      rw [decide_eq_false_iff_not]
      unfold top at hsp ⊢; omega
    have cc := containsg_c b sb (by omega) (K := 28) (n := 2) (cf := fun i => [bp d, mp (top a d)].getD i .any) (p := fun q => decide (dot q d ≤ top a d)) (fun q hq => most_c d hd (top a d) q hq)
    rw [ixB_neg (p := fun k => decide (dot (gp b k) d ≤ top a d)) h2] at cc
    refine cq_seq ?_
    refine cq_region ?_
    apply sq_g; exact g_box rfl rfl; exact rfl
    apply sq_g; exact g_box rfl rfl; exact rfl
    apply sq_g; exact g_assign (s := .av (.val (.bool _))) rfl; exact rfl
    refine sq_nil ?_
    refine sq_then ?_
    refine cq_seq ?_
    refine cq_seq ?_
    refine cq_region ?_
    apply sq_g; exact g_load rfl rfl rfl; exact rfl
    apply sq_g; exact g_call (c1) rfl; exact rfl
    apply sq_g; exact g_not rfl; exact rfl
    apply sq_g; exact g_move (s := .av (.val (.bool _))) rfl; exact rfl
    apply sq_on; exact g_load rfl rfl rfl; exact rfl; exact rfl; exact rfl
    apply sq_on; exact g_call (c2) rfl; exact rfl; exact rfl; exact rfl
    apply sq_on; exact g_not rfl; exact rfl; exact rfl; exact rfl
    apply sq_g; exact g_pick (s := .av (.val (.bool _))) rfl rfl; exact rfl
    refine sq_nil ?_
    refine sq_then ?_
    refine cq_cond_f rfl ?_
    refine cq_skip ?_
    refine sq_then ?_
    refine cq_seq ?_
    refine cq_region ?_
    apply sq_g; exact g_load rfl rfl rfl; exact rfl
    apply sq_g; exact g_load rfl rfl rfl; exact rfl
    apply sq_g; exact g_call (cs) rfl; exact rfl
    apply sq_g; exact g_move (s := .av _) rfl; exact rfl
    apply sq_g; exact g_extractT rfl rfl; exact rfl
    apply sq_g; exact g_extractT rfl rfl; exact rfl
    apply sq_g; exact g_extractT rfl rfl; exact rfl
    apply sq_g; exact g_extractT rfl rfl; exact rfl
    refine sq_v (f_alloc 10 rfl) rfl ?_
    refine sq_v (f_alloc 11 rfl) rfl ?_
    apply sq_g; exact g_assign (s := .av (.val (.bool _))) rfl; exact rfl
    refine sq_s (g_store_agg rfl rfl rfl rfl rfl rfl) ?_
    refine sq_s (g_store' rfl rfl rfl rfl rfl rfl) ?_
    apply sq_g; exact g_assign (s := .av (.val (.int _ _))) rfl; exact rfl
    refine sq_nil ?_
    refine sq_then ?_
    refine cq_seq ?_
    refine cq_seq ?_
    refine cq_region ?_
    apply sq_g; exact g_move (s := .av (.val (.int _ _))) rfl; exact rfl
    apply sq_g; exact g_cmp rfl rfl rfl; exact rfl
    refine sq_nil ?_
    refine sq_then ?_
    refine cq_cond_f rfl ?_
    refine cq_skip ?_
    refine sq_then ?_
    refine cq_seq ?_
    refine cq_seq ?_
    refine cq_region ?_
    apply sq_g; exact g_move (s := .av (.val (.bool _))) rfl; exact rfl
    refine sq_nil ?_
    refine sq_then ?_
    refine cq_cond_t rfl ?_
    refine cq_seq ?_
    refine cq_seq ?_
    refine cq_region ?_
    apply sq_g; exact g_load rfl rfl rfl; exact rfl
    apply sq_g; exact g_len rfl; exact rfl
    apply sq_g; exact g_move (s := .av (.val (.int _ _))) rfl; exact rfl
    refine sq_nil ?_
    refine sq_then ?_
    refine cq_block ?_
    refine cq_loop (γ := Nat) (fun k => [(2, .av (lp a)), (3, .av (lp b)), (6, .av (bp d)), (7, .av (mp (top a d))), (40, .av (pts a)), (41, .av (vi a.length)), (42, .av (vi k))]) (fun _ => []) (fun k => k ≤ a.length) (fun k => a.length - k) 0 (Nat.zero_le _) (((ent_freezec 6 10 (fun k => .val ([Go.Value.int .i64 d.x, .int .i64 d.y].getD k Go.undef)) rfl rfl rfl).trans (ent_freezec 7 11 (fun _ => vi (top a d)) rfl rfl rfl)).trans (ent ⟨.refl _, .refl _, .refl _, .refl _, .refl _, .refl _, .refl _, trivial⟩ trivial)) ?_
    intro k hk
    refine cq_seq ?_
    refine cq_region ?_
    apply sq_g; exact g_cmp rfl rfl rfl; exact rfl
    refine sq_nil ?_
    refine sq_then ?_
    refine cq_seq ?_
    (refine cq_cond rfl (fun hb => ?_) (fun hb => ?_) <;> (try simp only [decide_eq_true_eq, decide_eq_false_iff_not, beq_iff_eq, beq_eq_false_iff_ne, bne_iff_ne, bne_eq_false_iff_eq, ne_eq, Bool.not_eq_true', Bool.not_eq_false', Bool.and_eq_true, Bool.or_eq_true, Bool.and_eq_false_iff, Bool.or_eq_false_iff] at hb) <;> (try (exfalso; omega)))
    · have hka : k < a.length := by omega
      have h3 := h1 k hka
      refine cq_skip ?_
      refine sq_then ?_
      refine cq_seq ?_
      refine cq_block ?_
      refine cq_seq ?_
      refine cq_region ?_
      apply sq_g; exact g_index rfl rfl rfl (by omega); exact rfl
      apply sq_g; exact g_load_agg (us := [.int _ _, .int _ _]) rfl rfl rfl rfl; exact rfl
      refine sq_v (f_alloc 10 rfl) rfl ?_
      refine sq_s (g_store_agg rfl rfl rfl rfl rfl rfl) ?_
      refine sq_nil ?_
      refine sq_then ?_
      refine cq_seq ?_
      refine cq_drawn ?_
      apply dq_g; exact g_load_own_agg (us := [.int _ _, .int _ _]) rfl rfl rfl rfl; exact rfl
      apply dq_g; exact g_load_agg (us := [.int _ _, .int _ _]) rfl rfl rfl rfl; exact rfl
      apply dq_g; exact g_call (times_c (gp a k) d (sa k).bd hd) rfl; exact rfl
      apply dq_g; exact g_load (τ := .val (.int _ _)) rfl rfl rfl; exact rfl
      apply dq_g; exact g_cmp rfl rfl rfl; exact rfl
      refine dq_nil tm (by kernel_rfl) ?_
      refine sq_then ?_
      (refine cq_cond rfl (fun hb => ?_) (fun hb => ?_) <;> (try simp only [decide_eq_true_eq, decide_eq_false_iff_not, beq_iff_eq, beq_eq_false_iff_ne, bne_iff_ne, bne_eq_false_iff_eq, ne_eq, Bool.not_eq_true', Bool.not_eq_false', Bool.and_eq_true, Bool.or_eq_true, Bool.and_eq_false_iff, Bool.or_eq_false_iff] at hb) <;> (try (exfalso; omega)))
      refine cq_skip ?_
      refine sq_then ?_
      refine cq_region ?_
      apply sq_g; exact g_arith rfl rfl rfl (by omega); exact rfl
      apply sq_g; exact g_move (s := .av (.val (.int _ _))) rfl; exact rfl
      refine sq_nil ?_
      exact sq_round (k + 1) (by omega) (by omega) (ent ⟨.refl _, .refl _, .refl _, .refl _, .refl _, .refl _, .int (by omega), trivial⟩ trivial)
    · refine cq_exit ?_
      refine sq_then ?_
      refine cq_seq ?_
      refine cq_region ?_
      apply sq_g; exact g_load rfl rfl rfl; exact rfl
      apply sq_g; exact g_makeFunc (τs := [_, _]) rfl; exact rfl
      apply sq_g; exact g_call (cc) rfl; exact rfl
      apply sq_g; exact g_not rfl; exact rfl
      apply sq_g; exact g_move (s := .av (.val (.bool _))) rfl; exact rfl
      apply sq_on; exact g_call (awake_c) rfl; exact rfl; exact rfl; exact rfl
      apply sq_g; exact g_pick (s := .av (.val (.bool _))) rfl rfl; exact rfl
      apply sq_g; exact g_assign (s := .av (.val (.bool _))) rfl; exact rfl
      refine sq_nil ?_
      refine sq_then ?_
      refine cq_ret ?_
      refine sq_then_ret ?_
      exact sq_res1 rfl (.tmp rfl) rfl
  | none =>
    have hno : ∀ d ∈ ways a b, splits a b d = false := fun d hd => by simpa using List.find?_eq_none.1 hf d hd
    have hM := no_way a0 b0 hno
    have hR : sepR a b = (false, ⟨0, 0⟩, 0, 0) := by simp [sepR, hca, hcb, hf, show a ≠ [] by intro e; subst e; simp at a0, show b ≠ [] by intro e; subst e; simp at b0]
    rw [hR] at cs
    have ca := containsg_c a sa (by omega) (K := 29) (n := 1) (cf := fun i => [lp b].getD i .any) (p := inH b) (fun q hq => inb_c b sb (by omega) q hq)
    have cb := containsg_c b sb (by omega) (K := 31) (n := 1) (cf := fun i => [lp a].getD i .any) (p := inH a) (fun q hq => ina_c a sa (by omega) q hq)
    by_cases hA : decide (0 ≤ ixB (fun k => inH b (gp a k)) a.length) = true
    · rw [hA] at ca
      refine cq_seq ?_
      refine cq_region ?_
      apply sq_g; exact g_box rfl rfl; exact rfl
      apply sq_g; exact g_box rfl rfl; exact rfl
      apply sq_g; exact g_assign (s := .av (.val (.bool _))) rfl; exact rfl
      refine sq_nil ?_
      refine sq_then ?_
      refine cq_seq ?_
      refine cq_seq ?_
      refine cq_region ?_
      apply sq_g; exact g_load rfl rfl rfl; exact rfl
      apply sq_g; exact g_call (c1) rfl; exact rfl
      apply sq_g; exact g_not rfl; exact rfl
      apply sq_g; exact g_move (s := .av (.val (.bool _))) rfl; exact rfl
      apply sq_on; exact g_load rfl rfl rfl; exact rfl; exact rfl; exact rfl
      apply sq_on; exact g_call (c2) rfl; exact rfl; exact rfl; exact rfl
      apply sq_on; exact g_not rfl; exact rfl; exact rfl; exact rfl
      apply sq_g; exact g_pick (s := .av (.val (.bool _))) rfl rfl; exact rfl
      refine sq_nil ?_
      refine sq_then ?_
      refine cq_cond_f rfl ?_
      refine cq_skip ?_
      refine sq_then ?_
      refine cq_seq ?_
      refine cq_region ?_
      apply sq_g; exact g_load rfl rfl rfl; exact rfl
      apply sq_g; exact g_load rfl rfl rfl; exact rfl
      apply sq_g; exact g_call (cs) rfl; exact rfl
      apply sq_g; exact g_move (s := .av _) rfl; exact rfl
      apply sq_g; exact g_extractT rfl rfl; exact rfl
      apply sq_g; exact g_extractT rfl rfl; exact rfl
      apply sq_g; exact g_extractT rfl rfl; exact rfl
      apply sq_g; exact g_extractT rfl rfl; exact rfl
      refine sq_v (f_alloc 10 rfl) rfl ?_
      refine sq_v (f_alloc 11 rfl) rfl ?_
      apply sq_g; exact g_assign (s := .av (.val (.bool _))) rfl; exact rfl
      refine sq_s (g_store_agg rfl rfl rfl rfl rfl rfl) ?_
      refine sq_s (g_store' rfl rfl rfl rfl rfl rfl) ?_
      apply sq_g; exact g_assign (s := .av (.val (.int _ _))) rfl; exact rfl
      refine sq_nil ?_
      refine sq_then ?_
      refine cq_seq ?_
      refine cq_seq ?_
      refine cq_region ?_
      apply sq_g; exact g_move (s := .av (.val (.int _ _))) rfl; exact rfl
      apply sq_g; exact g_cmp rfl rfl rfl; exact rfl
      refine sq_nil ?_
      refine sq_then ?_
      refine cq_cond_f rfl ?_
      refine cq_skip ?_
      refine sq_then ?_
      refine cq_seq ?_
      refine cq_seq ?_
      refine cq_region ?_
      apply sq_g; exact g_move (s := .av (.val (.bool _))) rfl; exact rfl
      refine sq_nil ?_
      refine sq_then ?_
      refine cq_cond_f rfl ?_
      refine cq_skip ?_
      refine sq_then ?_
      refine cq_seq ?_
      refine cq_region ?_
      apply sq_g; exact g_load rfl rfl rfl; exact rfl
      apply sq_g; exact g_makeFunc (τs := [_]) rfl; exact rfl
      apply sq_g; exact g_call (ca) rfl; exact rfl
      apply sq_g; exact g_move (s := .av (.val (.bool _))) rfl; exact rfl
      refine sq_off rfl rfl rfl rfl ?_
      refine sq_off rfl rfl rfl rfl ?_
      refine sq_off rfl rfl rfl rfl ?_
      apply sq_g; exact g_pick (s := .av (.val (.bool _))) rfl rfl; exact rfl
      apply sq_g; exact g_assign (s := .av (.val (.bool _))) rfl; exact rfl
      refine sq_nil ?_
      refine sq_then ?_
      refine cq_seq ?_
      refine cq_seq ?_
      refine cq_region ?_
      apply sq_g; exact g_load rfl rfl rfl; exact rfl
      apply sq_g; exact g_len rfl; exact rfl
      apply sq_g; exact g_move (s := .av (.val (.int _ _))) rfl; exact rfl
      refine sq_nil ?_
      refine sq_then ?_
      refine cq_block ?_
      refine cq_loop (γ := Nat) (fun i => [(2, .av (lp a)), (3, .av (lp b)), (11, .av (vb true)), (67, .av (pts a)), (68, .av (vi a.length)), (69, .av (vi i))]) (fun _ => []) (fun i => i ≤ a.length) (fun i => a.length - i) 0 (Nat.zero_le _) (ent ⟨.refl _, .refl _, .refl _, .refl _, .refl _, .refl _, trivial⟩ trivial) ?_
      intro i hi
      refine cq_seq ?_
      refine cq_region ?_
      apply sq_g; exact g_cmp rfl rfl rfl; exact rfl
      refine sq_nil ?_
      refine sq_then ?_
      refine cq_seq ?_
      (refine cq_cond rfl (fun hb => ?_) (fun hb => ?_) <;> (try simp only [decide_eq_true_eq, decide_eq_false_iff_not, beq_iff_eq, beq_eq_false_iff_ne, bne_iff_ne, bne_eq_false_iff_eq, ne_eq, Bool.not_eq_true', Bool.not_eq_false', Bool.and_eq_true, Bool.or_eq_true, Bool.and_eq_false_iff, Bool.or_eq_false_iff] at hb) <;> (try (exfalso; omega)))
      · have hia : i < a.length := by omega
        refine cq_skip ?_
        refine sq_then ?_
        refine cq_seq ?_
        refine cq_block ?_
        refine cq_seq ?_
        refine cq_region ?_
        apply sq_g; exact g_index rfl rfl rfl (by omega); exact rfl
        apply sq_g; exact g_load_agg (us := [.int _ _, .int _ _]) rfl rfl rfl rfl; exact rfl
        refine sq_v (f_alloc 10 rfl) rfl ?_
        refine sq_s (g_store_agg rfl rfl rfl rfl rfl rfl) ?_
        refine sq_nil ?_
        refine sq_then ?_
        refine cq_seq ?_
        refine cq_region ?_
        apply sq_g; exact g_load rfl rfl rfl; exact rfl
        apply sq_g; exact g_len rfl; exact rfl
        apply sq_g; exact g_move (s := .av (.val (.int _ _))) rfl; exact rfl
        refine sq_nil ?_
        refine sq_then ?_
        refine cq_block ?_
        refine cq_loop (γ := Nat) (fun j => [(2, .av (lp a)), (3, .av (lp b)), (11, .av (vb true)), (13, .av (bp (gp a i))), (67, .av (pts a)), (68, .av (vi a.length)), (69, .av (vi i)), (73, .av (pts a)), (74, .av (vi a.length)), (75, .av (vi j))]) (fun _ => []) (fun j => j ≤ a.length) (fun j => a.length - j) 0 (Nat.zero_le _) ((ent_freezec 13 10 (fun k => .val ([Go.Value.int .i64 (gp a i).x, .int .i64 (gp a i).y].getD k Go.undef)) rfl rfl rfl).trans (ent ⟨.refl _, .refl _, .refl _, .refl _, .refl _, .refl _, .refl _, .refl _, .refl _, .refl _, trivial⟩ trivial)) ?_
        intro j hj
        refine cq_seq ?_
        refine cq_region ?_
        apply sq_g; exact g_cmp rfl rfl rfl; exact rfl
        refine sq_nil ?_
        refine sq_then ?_
        refine cq_seq ?_
        (refine cq_cond rfl (fun hb => ?_) (fun hb => ?_) <;> (try simp only [decide_eq_true_eq, decide_eq_false_iff_not, beq_iff_eq, beq_eq_false_iff_ne, bne_iff_ne, bne_eq_false_iff_eq, ne_eq, Bool.not_eq_true', Bool.not_eq_false', Bool.and_eq_true, Bool.or_eq_true, Bool.and_eq_false_iff, Bool.or_eq_false_iff] at hb) <;> (try (exfalso; omega)))
        · have hja : j < a.length := by omega
          refine cq_skip ?_
          refine sq_then ?_
          refine cq_seq ?_
          refine cq_block ?_
          refine cq_seq ?_
          refine cq_region ?_
          apply sq_g; exact g_index rfl rfl rfl (by omega); exact rfl
          apply sq_g; exact g_load_agg (us := [.int _ _, .int _ _]) rfl rfl rfl rfl; exact rfl
          refine sq_v (f_alloc 10 rfl) rfl ?_
          refine sq_s (g_store_agg rfl rfl rfl rfl rfl rfl) ?_
          refine sq_nil ?_
          refine sq_then ?_
          refine cq_seq ?_
          refine cq_region ?_
          apply sq_g; exact g_load rfl rfl rfl; exact rfl
          apply sq_g; exact g_len rfl; exact rfl
          apply sq_g; exact g_move (s := .av (.val (.int _ _))) rfl; exact rfl
          refine sq_nil ?_
          refine sq_then ?_
          refine cq_block ?_
          refine cq_loop (γ := Nat) (fun k => [(2, .av (lp a)), (3, .av (lp b)), (11, .av (vb true)), (13, .av (bp (gp a i))), (15, .av (bp (gp a j))), (67, .av (pts a)), (68, .av (vi a.length)), (69, .av (vi i)), (73, .av (pts a)), (74, .av (vi a.length)), (75, .av (vi j)), (79, .av (pts b)), (80, .av (vi b.length)), (81, .av (vi k))]) (fun _ => []) (fun k => k ≤ b.length) (fun k => b.length - k) 0 (Nat.zero_le _) ((ent_freezec 15 10 (fun k => .val ([Go.Value.int .i64 (gp a j).x, .int .i64 (gp a j).y].getD k Go.undef)) rfl rfl rfl).trans (ent ⟨.refl _, .refl _, .refl _, .refl _, .refl _, .refl _, .refl _, .refl _, .refl _, .refl _, .refl _, .refl _, .refl _, .refl _, trivial⟩ trivial)) ?_
          intro k hk
          refine cq_seq ?_
          refine cq_region ?_
          apply sq_g; exact g_cmp rfl rfl rfl; exact rfl
          refine sq_nil ?_
          refine sq_then ?_
          refine cq_seq ?_
          (refine cq_cond rfl (fun hb => ?_) (fun hb => ?_) <;> (try simp only [decide_eq_true_eq, decide_eq_false_iff_not, beq_iff_eq, beq_eq_false_iff_ne, bne_iff_ne, bne_eq_false_iff_eq, ne_eq, Bool.not_eq_true', Bool.not_eq_false', Bool.and_eq_true, Bool.or_eq_true, Bool.and_eq_false_iff, Bool.or_eq_false_iff] at hb) <;> (try (exfalso; omega)))
          · have hkb : k < b.length := by omega
            refine cq_skip ?_
            refine sq_then ?_
            refine cq_seq ?_
            refine cq_block ?_
            refine cq_seq ?_
            refine cq_region ?_
            apply sq_g; exact g_index rfl rfl rfl (by omega); exact rfl
            apply sq_g; exact g_load_agg (us := [.int _ _, .int _ _]) rfl rfl rfl rfl; exact rfl
            refine sq_v (f_alloc 10 rfl) rfl ?_
            refine sq_s (g_store_agg rfl rfl rfl rfl rfl rfl) ?_
            refine sq_nil ?_
            refine sq_then ?_
            refine cq_seq ?_
            refine cq_region ?_
            apply sq_g; exact g_load rfl rfl rfl; exact rfl
            apply sq_g; exact g_len rfl; exact rfl
            apply sq_g; exact g_move (s := .av (.val (.int _ _))) rfl; exact rfl
            refine sq_nil ?_
            refine sq_then ?_
            refine cq_block ?_
            refine cq_loop (γ := Nat) (fun m => [(2, .av (lp a)), (3, .av (lp b)), (11, .av (vb true)), (13, .av (bp (gp a i))), (15, .av (bp (gp a j))), (17, .av (bp (gp b k))), (67, .av (pts a)), (68, .av (vi a.length)), (69, .av (vi i)), (73, .av (pts a)), (74, .av (vi a.length)), (75, .av (vi j)), (79, .av (pts b)), (80, .av (vi b.length)), (81, .av (vi k)), (85, .av (pts b)), (86, .av (vi b.length)), (87, .av (vi m))]) (fun _ => []) (fun m => m ≤ b.length) (fun m => b.length - m) 0 (Nat.zero_le _) ((ent_freezec 17 10 (fun z => .val ([Go.Value.int .i64 (gp b k).x, .int .i64 (gp b k).y].getD z Go.undef)) rfl rfl rfl).trans (ent ⟨.refl _, .refl _, .refl _, .refl _, .refl _, .refl _, .refl _, .refl _, .refl _, .refl _, .refl _, .refl _, .refl _, .refl _, .refl _, .refl _, .refl _, .refl _, trivial⟩ trivial)) ?_
            intro m hm
            refine cq_seq ?_
            refine cq_region ?_
            apply sq_g; exact g_cmp rfl rfl rfl; exact rfl
            refine sq_nil ?_
            refine sq_then ?_
            refine cq_seq ?_
            (refine cq_cond rfl (fun hb => ?_) (fun hb => ?_) <;> (try simp only [decide_eq_true_eq, decide_eq_false_iff_not, beq_iff_eq, beq_eq_false_iff_ne, bne_iff_ne, bne_eq_false_iff_eq, ne_eq, Bool.not_eq_true', Bool.not_eq_false', Bool.and_eq_true, Bool.or_eq_true, Bool.and_eq_false_iff, Bool.or_eq_false_iff] at hb) <;> (try (exfalso; omega)))
            · have hmb : m < b.length := by omega
              refine cq_skip ?_
              refine sq_then ?_
              refine cq_seq ?_
              refine cq_block ?_
              refine cq_seq ?_
              refine cq_region ?_
              apply sq_g; exact g_index rfl rfl rfl (by omega); exact rfl
              apply sq_g; exact g_load_agg (us := [.int _ _, .int _ _]) rfl rfl rfl rfl; exact rfl
              refine sq_v (f_alloc 10 rfl) rfl ?_
              refine sq_s (g_store_agg rfl rfl rfl rfl rfl rfl) ?_
              refine sq_nil ?_
              refine sq_then ?_
              refine cq_drawn ?_
              apply dq_g; exact g_move (s := .av (.val (.bool _))) rfl; exact rfl
              apply dq_g; exact g_move (s := .av (.val (.bool _))) rfl; exact rfl
              refine dq_off nofun rfl rfl rfl rfl ?_
              refine dq_off nofun rfl rfl rfl rfl ?_
              refine dq_off nofun rfl rfl rfl rfl ?_
              refine dq_off nofun rfl rfl rfl rfl ?_
              refine dq_off nofun rfl rfl rfl rfl ?_
              refine dq_off nofun rfl rfl rfl rfl ?_
              refine dq_off nofun rfl rfl rfl rfl ?_
              refine dq_off nofun rfl rfl rfl rfl ?_
              refine dq_off nofun rfl rfl rfl rfl ?_
              refine dq_off nofun rfl rfl rfl rfl ?_
              refine dq_off nofun rfl rfl rfl rfl ?_
              refine dq_off nofun rfl rfl rfl rfl ?_
              refine dq_off nofun rfl rfl rfl rfl ?_
              refine dq_offu nofun rfl rfl rfl ?_
              refine dq_offu nofun rfl rfl rfl ?_
              refine dq_offu nofun rfl rfl rfl ?_
              refine dq_offu nofun rfl rfl rfl ?_
              refine dq_offu nofun rfl rfl rfl ?_
              refine dq_offu nofun rfl rfl rfl ?_
              refine dq_offu nofun rfl rfl rfl ?_
              refine dq_offu nofun rfl rfl rfl ?_
              refine dq_offu nofun rfl rfl rfl ?_
              refine dq_offu nofun rfl rfl rfl ?_
              refine dq_offu nofun rfl rfl rfl ?_
              refine dq_offu nofun rfl rfl rfl ?_
              refine dq_off nofun rfl rfl rfl rfl ?_
              apply dq_g; exact g_pick (s := .av (.val (.bool _))) rfl rfl; exact rfl
              apply dq_g; exact g_assign (s := .av (.val (.bool _))) rfl; exact rfl
              refine dq_nil tm (by kernel_rfl) ?_
              refine sq_then ?_
              refine cq_region ?_
              apply sq_g; exact g_arith rfl rfl rfl (by omega); exact rfl
              apply sq_g; exact g_move (s := .av (.val (.int _ _))) rfl; exact rfl
              refine sq_nil ?_
              exact sq_round (m + 1) (by omega) (by omega) (ent ⟨.refl _, .refl _, .refl _, .refl _, .refl _, .refl _, .refl _, .refl _, .refl _, .refl _, .refl _, .refl _, .refl _, .refl _, .refl _, .refl _, .refl _, .int (by omega), trivial⟩ trivial)
            · have e : m = b.length := by omega
              subst e
              refine cq_exit ?_
              refine sq_then ?_
              refine cq_region ?_
              apply sq_g; exact g_arith rfl rfl rfl (by omega); exact rfl
              apply sq_g; exact g_move (s := .av (.val (.int _ _))) rfl; exact rfl
              refine sq_nil ?_
              exact sq_round (k + 1) (by omega) (by omega) (ent ⟨.refl _, .refl _, .refl _, .refl _, .refl _, .refl _, .refl _, .refl _, .refl _, .refl _, .refl _, .refl _, .refl _, .int (by omega), trivial⟩ trivial)
          · have e : k = b.length := by omega
            subst e
            refine cq_exit ?_
            refine sq_then ?_
            refine cq_region ?_
            apply sq_g; exact g_arith rfl rfl rfl (by omega); exact rfl
            apply sq_g; exact g_move (s := .av (.val (.int _ _))) rfl; exact rfl
            refine sq_nil ?_
            exact sq_round (j + 1) (by omega) (by omega) (ent ⟨.refl _, .refl _, .refl _, .refl _, .refl _, .refl _, .refl _, .refl _, .refl _, .int (by omega), trivial⟩ trivial)
        · have e : j = a.length := by omega
          subst e
          refine cq_exit ?_
          refine sq_then ?_
          refine cq_region ?_
          apply sq_g; exact g_arith rfl rfl rfl (by omega); exact rfl
          apply sq_g; exact g_move (s := .av (.val (.int _ _))) rfl; exact rfl
          refine sq_nil ?_
          exact sq_round (i + 1) (by omega) (by omega) (ent ⟨.refl _, .refl _, .refl _, .refl _, .refl _, .int (by omega), trivial⟩ trivial)
      · have e : i = a.length := by omega
        subst e
        refine cq_exit ?_
        refine sq_then ?_
        refine cq_seq ?_
        refine cq_region ?_
        apply sq_g; exact g_move (s := .av (.val (.bool _))) rfl; exact rfl
        apply sq_g; exact g_move (s := .av (.val (.bool _))) rfl; exact rfl
        apply sq_on; exact g_call (awake_c) rfl; exact rfl; exact rfl; exact rfl
        apply sq_g; exact g_pick (s := .av (.val (.bool _))) rfl rfl; exact rfl
        apply sq_g; exact g_assign (s := .av (.val (.bool _))) rfl; exact rfl
        refine sq_nil ?_
        refine sq_then ?_
        refine cq_ret ?_
        exact sq_res1 rfl (.tmp rfl) rfl
    · rw [Bool.not_eq_true] at hA
      have hE := d1_meet hM hA
      rw [hA] at ca
      generalize decide (0 ≤ ixB (fun k => inH a (gp b k)) b.length) = M at *
      refine cq_seq ?_
      refine cq_region ?_
      apply sq_g; exact g_box rfl rfl; exact rfl
      apply sq_g; exact g_box rfl rfl; exact rfl
      apply sq_g; exact g_assign (s := .av (.val (.bool _))) rfl; exact rfl
      refine sq_nil ?_
      refine sq_then ?_
      refine cq_seq ?_
      refine cq_seq ?_
      refine cq_region ?_
      apply sq_g; exact g_load rfl rfl rfl; exact rfl
      apply sq_g; exact g_call (c1) rfl; exact rfl
      apply sq_g; exact g_not rfl; exact rfl
      apply sq_g; exact g_move (s := .av (.val (.bool _))) rfl; exact rfl
      apply sq_on; exact g_load rfl rfl rfl; exact rfl; exact rfl; exact rfl
      apply sq_on; exact g_call (c2) rfl; exact rfl; exact rfl; exact rfl
      apply sq_on; exact g_not rfl; exact rfl; exact rfl; exact rfl
      apply sq_g; exact g_pick (s := .av (.val (.bool _))) rfl rfl; exact rfl
      refine sq_nil ?_
      refine sq_then ?_
      refine cq_cond_f rfl ?_
      refine cq_skip ?_
      refine sq_then ?_
      refine cq_seq ?_
      refine cq_region ?_
      apply sq_g; exact g_load rfl rfl rfl; exact rfl
      apply sq_g; exact g_load rfl rfl rfl; exact rfl
      apply sq_g; exact g_call (cs) rfl; exact rfl
      apply sq_g; exact g_move (s := .av _) rfl; exact rfl
      apply sq_g; exact g_extractT rfl rfl; exact rfl
      apply sq_g; exact g_extractT rfl rfl; exact rfl
      apply sq_g; exact g_extractT rfl rfl; exact rfl
      apply sq_g; exact g_extractT rfl rfl; exact rfl
      refine sq_v (f_alloc 10 rfl) rfl ?_
      refine sq_v (f_alloc 11 rfl) rfl ?_
      apply sq_g; exact g_assign (s := .av (.val (.bool _))) rfl; exact rfl
      refine sq_s (g_store_agg rfl rfl rfl rfl rfl rfl) ?_
      refine sq_s (g_store' rfl rfl rfl rfl rfl rfl) ?_
      apply sq_g; exact g_assign (s := .av (.val (.int _ _))) rfl; exact rfl
      refine sq_nil ?_
      refine sq_then ?_
      refine cq_seq ?_
      refine cq_seq ?_
      refine cq_region ?_
      apply sq_g; exact g_move (s := .av (.val (.int _ _))) rfl; exact rfl
      apply sq_g; exact g_cmp rfl rfl rfl; exact rfl
      refine sq_nil ?_
      refine sq_then ?_
      refine cq_cond_f rfl ?_
      refine cq_skip ?_
      refine sq_then ?_
      refine cq_seq ?_
      refine cq_seq ?_
      refine cq_region ?_
      apply sq_g; exact g_move (s := .av (.val (.bool _))) rfl; exact rfl
      refine sq_nil ?_
      refine sq_then ?_
      refine cq_cond_f rfl ?_
      refine cq_skip ?_
      refine sq_then ?_
      refine cq_seq ?_
      refine cq_region ?_
      apply sq_g; exact g_load rfl rfl rfl; exact rfl
      apply sq_g; exact g_makeFunc (τs := [_]) rfl; exact rfl
      apply sq_g; exact g_call (ca) rfl; exact rfl
      apply sq_g; exact g_move (s := .av (.val (.bool _))) rfl; exact rfl
      apply sq_on; exact g_load rfl rfl rfl; exact rfl; exact rfl; exact rfl
      apply sq_on; exact g_makeFunc (τs := [_]) rfl; exact rfl; exact rfl; exact rfl
      apply sq_on; exact g_call (cb) rfl; exact rfl; exact rfl; exact rfl
      apply sq_g; exact g_pick (s := .av (.val (.bool _))) rfl rfl; exact rfl
      apply sq_g; exact g_assign (s := .av (.val (.bool _))) rfl; exact rfl
      refine sq_nil ?_
      refine sq_then ?_
      refine cq_seq ?_
      refine cq_seq ?_
      refine cq_region ?_
      apply sq_g; exact g_load rfl rfl rfl; exact rfl
      apply sq_g; exact g_len rfl; exact rfl
      apply sq_g; exact g_move (s := .av (.val (.int _ _))) rfl; exact rfl
      refine sq_nil ?_
      refine sq_then ?_
      refine cq_block ?_
      refine cq_loop (γ := Nat) (fun i => [(2, .av (lp a)), (3, .av (lp b)), (11, .av (vb (d1 a b M i))), (67, .av (pts a)), (68, .av (vi a.length)), (69, .av (vi i))]) (fun _ => []) (fun i => i ≤ a.length) (fun i => a.length - i) 0 (Nat.zero_le _) (ent ⟨.refl _, .refl _, (by rw [d1_0]; exact .refl _), .refl _, .refl _, .refl _, trivial⟩ trivial) ?_
      intro i hi
      refine cq_seq ?_
      refine cq_region ?_
      apply sq_g; exact g_cmp rfl rfl rfl; exact rfl
      refine sq_nil ?_
      refine sq_then ?_
      refine cq_seq ?_
      (refine cq_cond rfl (fun hb => ?_) (fun hb => ?_) <;> (try simp only [decide_eq_true_eq, decide_eq_false_iff_not, beq_iff_eq, beq_eq_false_iff_ne, bne_iff_ne, bne_eq_false_iff_eq, ne_eq, Bool.not_eq_true', Bool.not_eq_false', Bool.and_eq_true, Bool.or_eq_true, Bool.and_eq_false_iff, Bool.or_eq_false_iff] at hb) <;> (try (exfalso; omega)))
      · have hia : i < a.length := by omega
        refine cq_skip ?_
        refine sq_then ?_
        refine cq_seq ?_
        refine cq_block ?_
        refine cq_seq ?_
        refine cq_region ?_
        apply sq_g; exact g_index rfl rfl rfl (by omega); exact rfl
        apply sq_g; exact g_load_agg (us := [.int _ _, .int _ _]) rfl rfl rfl rfl; exact rfl
        refine sq_v (f_alloc 10 rfl) rfl ?_
        refine sq_s (g_store_agg rfl rfl rfl rfl rfl rfl) ?_
        refine sq_nil ?_
        refine sq_then ?_
        refine cq_seq ?_
        refine cq_region ?_
        apply sq_g; exact g_load rfl rfl rfl; exact rfl
        apply sq_g; exact g_len rfl; exact rfl
        apply sq_g; exact g_move (s := .av (.val (.int _ _))) rfl; exact rfl
        refine sq_nil ?_
        refine sq_then ?_
        refine cq_block ?_
        refine cq_loop (γ := Nat) (fun j => [(2, .av (lp a)), (3, .av (lp b)), (11, .av (vb (d2 a b (d1 a b M i) i j))), (13, .av (bp (gp a i))), (67, .av (pts a)), (68, .av (vi a.length)), (69, .av (vi i)), (73, .av (pts a)), (74, .av (vi a.length)), (75, .av (vi j))]) (fun _ => []) (fun j => j ≤ a.length) (fun j => a.length - j) 0 (Nat.zero_le _) ((ent_freezec 13 10 (fun k => .val ([Go.Value.int .i64 (gp a i).x, .int .i64 (gp a i).y].getD k Go.undef)) rfl rfl rfl).trans (ent ⟨.refl _, .refl _, (by rw [d2_0]; exact .refl _), .refl _, .refl _, .refl _, .refl _, .refl _, .refl _, .refl _, trivial⟩ trivial)) ?_
        intro j hj
        refine cq_seq ?_
        refine cq_region ?_
        apply sq_g; exact g_cmp rfl rfl rfl; exact rfl
        refine sq_nil ?_
        refine sq_then ?_
        refine cq_seq ?_
        (refine cq_cond rfl (fun hb => ?_) (fun hb => ?_) <;> (try simp only [decide_eq_true_eq, decide_eq_false_iff_not, beq_iff_eq, beq_eq_false_iff_ne, bne_iff_ne, bne_eq_false_iff_eq, ne_eq, Bool.not_eq_true', Bool.not_eq_false', Bool.and_eq_true, Bool.or_eq_true, Bool.and_eq_false_iff, Bool.or_eq_false_iff] at hb) <;> (try (exfalso; omega)))
        · have hja : j < a.length := by omega
          refine cq_skip ?_
          refine sq_then ?_
          refine cq_seq ?_
          refine cq_block ?_
          refine cq_seq ?_
          refine cq_region ?_
          apply sq_g; exact g_index rfl rfl rfl (by omega); exact rfl
          apply sq_g; exact g_load_agg (us := [.int _ _, .int _ _]) rfl rfl rfl rfl; exact rfl
          refine sq_v (f_alloc 10 rfl) rfl ?_
          refine sq_s (g_store_agg rfl rfl rfl rfl rfl rfl) ?_
          refine sq_nil ?_
          refine sq_then ?_
          refine cq_seq ?_
          refine cq_region ?_
          apply sq_g; exact g_load rfl rfl rfl; exact rfl
          apply sq_g; exact g_len rfl; exact rfl
          apply sq_g; exact g_move (s := .av (.val (.int _ _))) rfl; exact rfl
          refine sq_nil ?_
          refine sq_then ?_
          refine cq_block ?_
          refine cq_loop (γ := Nat) (fun k => [(2, .av (lp a)), (3, .av (lp b)), (11, .av (vb (d3 a b (d2 a b (d1 a b M i) i j) i j k))), (13, .av (bp (gp a i))), (15, .av (bp (gp a j))), (67, .av (pts a)), (68, .av (vi a.length)), (69, .av (vi i)), (73, .av (pts a)), (74, .av (vi a.length)), (75, .av (vi j)), (79, .av (pts b)), (80, .av (vi b.length)), (81, .av (vi k))]) (fun _ => []) (fun k => k ≤ b.length) (fun k => b.length - k) 0 (Nat.zero_le _) ((ent_freezec 15 10 (fun k => .val ([Go.Value.int .i64 (gp a j).x, .int .i64 (gp a j).y].getD k Go.undef)) rfl rfl rfl).trans (ent ⟨.refl _, .refl _, (by rw [d3_0]; exact .refl _), .refl _, .refl _, .refl _, .refl _, .refl _, .refl _, .refl _, .refl _, .refl _, .refl _, .refl _, trivial⟩ trivial)) ?_
          intro k hk
          refine cq_seq ?_
          refine cq_region ?_
          apply sq_g; exact g_cmp rfl rfl rfl; exact rfl
          refine sq_nil ?_
          refine sq_then ?_
          refine cq_seq ?_
          (refine cq_cond rfl (fun hb => ?_) (fun hb => ?_) <;> (try simp only [decide_eq_true_eq, decide_eq_false_iff_not, beq_iff_eq, beq_eq_false_iff_ne, bne_iff_ne, bne_eq_false_iff_eq, ne_eq, Bool.not_eq_true', Bool.not_eq_false', Bool.and_eq_true, Bool.or_eq_true, Bool.and_eq_false_iff, Bool.or_eq_false_iff] at hb) <;> (try (exfalso; omega)))
          · have hkb : k < b.length := by omega
            refine cq_skip ?_
            refine sq_then ?_
            refine cq_seq ?_
            refine cq_block ?_
            refine cq_seq ?_
            refine cq_region ?_
            apply sq_g; exact g_index rfl rfl rfl (by omega); exact rfl
            apply sq_g; exact g_load_agg (us := [.int _ _, .int _ _]) rfl rfl rfl rfl; exact rfl
            refine sq_v (f_alloc 10 rfl) rfl ?_
            refine sq_s (g_store_agg rfl rfl rfl rfl rfl rfl) ?_
            refine sq_nil ?_
            refine sq_then ?_
            refine cq_seq ?_
            refine cq_region ?_
            apply sq_g; exact g_load rfl rfl rfl; exact rfl
            apply sq_g; exact g_len rfl; exact rfl
            apply sq_g; exact g_move (s := .av (.val (.int _ _))) rfl; exact rfl
            refine sq_nil ?_
            refine sq_then ?_
            refine cq_block ?_
            refine cq_loop (γ := Nat) (fun m => [(2, .av (lp a)), (3, .av (lp b)), (11, .av (vb (d4 a b (d3 a b (d2 a b (d1 a b M i) i j) i j k) i j k m))), (13, .av (bp (gp a i))), (15, .av (bp (gp a j))), (17, .av (bp (gp b k))), (67, .av (pts a)), (68, .av (vi a.length)), (69, .av (vi i)), (73, .av (pts a)), (74, .av (vi a.length)), (75, .av (vi j)), (79, .av (pts b)), (80, .av (vi b.length)), (81, .av (vi k)), (85, .av (pts b)), (86, .av (vi b.length)), (87, .av (vi m))]) (fun _ => []) (fun m => m ≤ b.length) (fun m => b.length - m) 0 (Nat.zero_le _) ((ent_freezec 17 10 (fun z => .val ([Go.Value.int .i64 (gp b k).x, .int .i64 (gp b k).y].getD z Go.undef)) rfl rfl rfl).trans (ent ⟨.refl _, .refl _, (by rw [d4_0]; exact .refl _), .refl _, .refl _, .refl _, .refl _, .refl _, .refl _, .refl _, .refl _, .refl _, .refl _, .refl _, .refl _, .refl _, .refl _, .refl _, trivial⟩ trivial)) ?_
            intro m hm
            refine cq_seq ?_
            refine cq_region ?_
            apply sq_g; exact g_cmp rfl rfl rfl; exact rfl
            refine sq_nil ?_
            refine sq_then ?_
            refine cq_seq ?_
            (refine cq_cond rfl (fun hb => ?_) (fun hb => ?_) <;> (try simp only [decide_eq_true_eq, decide_eq_false_iff_not, beq_iff_eq, beq_eq_false_iff_ne, bne_iff_ne, bne_eq_false_iff_eq, ne_eq, Bool.not_eq_true', Bool.not_eq_false', Bool.and_eq_true, Bool.or_eq_true, Bool.and_eq_false_iff, Bool.or_eq_false_iff] at hb) <;> (try (exfalso; omega)))
            · have hmb : m < b.length := by omega
              have f1 := left_c (gp a i) (gp a j) (gp b k) (sa _) (sa _) (sb _)
              have f2 := left_c (gp a i) (gp a j) (gp b m) (sa _) (sa _) (sb _)
              have f3 := left_c (gp b k) (gp b m) (gp a i) (sb _) (sb _) (sa _)
              have f4 := left_c (gp b k) (gp b m) (gp a j) (sb _) (sb _) (sa _)
              have g1 := signum_c (crs (gp a i) (gp a j) (gp b k))
              have g2 := signum_c (crs (gp a i) (gp a j) (gp b m))
              have g3 := signum_c (crs (gp b k) (gp b m) (gp a i))
              have g4 := signum_c (crs (gp b k) (gp b m) (gp a j))
              have s1 := sgn_bd (crs (gp a i) (gp a j) (gp b k))
              have s2 := sgn_bd (crs (gp a i) (gp a j) (gp b m))
              have s3 := sgn_bd (crs (gp b k) (gp b m) (gp a i))
              have s4 := sgn_bd (crs (gp b k) (gp b m) (gp a j))
              have hX : crB a b i j k m = (decide (sgn (crs (gp a i) (gp a j) (gp b k)) * sgn (crs (gp a i) (gp a j) (gp b m)) < 0) && decide (sgn (crs (gp b k) (gp b m) (gp a i)) * sgn (crs (gp b k) (gp b m) (gp a j)) < 0)) := rfl
              have hS := d4_s a b (d3 a b (d2 a b (d1 a b M i) i j) i j k) i j k m
              focus
                refine cq_skip ?_
                refine sq_then ?_
                refine cq_seq ?_
                refine cq_block ?_
                refine cq_seq ?_
                refine cq_region ?_
                apply sq_g; exact g_index rfl rfl rfl (by omega); exact rfl
                apply sq_g; exact g_load_agg (us := [.int _ _, .int _ _]) rfl rfl rfl rfl; exact rfl
                refine sq_v (f_alloc 10 rfl) rfl ?_
                refine sq_s (g_store_agg rfl rfl rfl rfl rfl rfl) ?_
                refine sq_nil ?_
                refine sq_then ?_
                refine cq_drawn ?_
                apply dq_g; exact g_move (s := .av (.val (.bool _))) rfl; exact rfl
                apply dq_g; exact g_move (s := .av (.val (.bool _))) rfl; exact rfl
                refine dq_split rfl rfl (fun hb => ?_) (fun hb => ?_) <;> (try simp only [decide_eq_true_eq, decide_eq_false_iff_not, beq_iff_eq, beq_eq_false_iff_ne, bne_iff_ne, bne_eq_false_iff_eq, ne_eq, Bool.not_eq_true', Bool.not_eq_false', Bool.and_eq_true, Bool.or_eq_true, Bool.and_eq_false_iff, Bool.or_eq_false_iff] at hb) <;> (try (exfalso; omega))
                refine dq_off nofun rfl rfl rfl rfl ?_
                refine dq_off nofun rfl rfl rfl rfl ?_
                refine dq_off nofun rfl rfl rfl rfl ?_
                refine dq_off nofun rfl rfl rfl rfl ?_
                refine dq_off nofun rfl rfl rfl rfl ?_
                refine dq_off nofun rfl rfl rfl rfl ?_
                refine dq_off nofun rfl rfl rfl rfl ?_
                refine dq_off nofun rfl rfl rfl rfl ?_
                refine dq_off nofun rfl rfl rfl rfl ?_
                refine dq_off nofun rfl rfl rfl rfl ?_
                refine dq_off nofun rfl rfl rfl rfl ?_
                refine dq_off nofun rfl rfl rfl rfl ?_
                refine dq_off nofun rfl rfl rfl rfl ?_
                refine dq_offu nofun rfl rfl rfl ?_
                refine dq_offu nofun rfl rfl rfl ?_
                refine dq_offu nofun rfl rfl rfl ?_
                refine dq_offu nofun rfl rfl rfl ?_
                refine dq_offu nofun rfl rfl rfl ?_
                refine dq_offu nofun rfl rfl rfl ?_
                refine dq_offu nofun rfl rfl rfl ?_
                refine dq_offu nofun rfl rfl rfl ?_
                refine dq_offu nofun rfl rfl rfl ?_
                refine dq_offu nofun rfl rfl rfl ?_
                refine dq_offu nofun rfl rfl rfl ?_
                refine dq_offu nofun rfl rfl rfl ?_
                refine dq_off nofun rfl rfl rfl rfl ?_
                apply dq_g; exact g_pick (s := .av (.val (.bool _))) rfl rfl; exact rfl
                apply dq_g; exact g_assign (s := .av (.val (.bool _))) rfl; exact rfl
                refine dq_nil tm (by kernel_rfl) ?_
                refine sq_then ?_
                refine cq_region ?_
                apply sq_g; exact g_arith rfl rfl rfl (by omega); exact rfl
                apply sq_g; exact g_move (s := .av (.val (.int _ _))) rfl; exact rfl
                refine sq_nil ?_
                rotate_left
                apply dq_on; exact g_load_agg (us := [.int _ _, .int _ _]) rfl rfl rfl rfl; exact rfl; exact rfl; exact rfl
                apply dq_on; exact g_load_agg (us := [.int _ _, .int _ _]) rfl rfl rfl rfl; exact rfl; exact rfl; exact rfl
                apply dq_on; exact g_load_agg (us := [.int _ _, .int _ _]) rfl rfl rfl rfl; exact rfl; exact rfl; exact rfl
                apply dq_on; exact g_call (f1) rfl; exact rfl; exact rfl; exact rfl
                apply dq_on; exact g_call (g1) rfl; exact rfl; exact rfl; exact rfl
                apply dq_on; exact g_load_agg (us := [.int _ _, .int _ _]) rfl rfl rfl rfl; exact rfl; exact rfl; exact rfl
                apply dq_on; exact g_load_agg (us := [.int _ _, .int _ _]) rfl rfl rfl rfl; exact rfl; exact rfl; exact rfl
                apply dq_on; exact g_load_own_agg (us := [.int _ _, .int _ _]) rfl rfl rfl rfl; exact rfl; exact rfl; exact rfl
                apply dq_on; exact g_call (f2) rfl; exact rfl; exact rfl; exact rfl
                apply dq_on; exact g_call (g2) rfl; exact rfl; exact rfl; exact rfl
                apply dq_on; exact g_mulB rfl rfl (by omega) (by omega); exact rfl; exact rfl; exact rfl
                apply dq_on; exact g_cmp rfl rfl rfl; exact rfl; exact rfl; exact rfl
                apply dq_on; exact g_move (s := .av (.val (.bool _))) rfl; exact rfl; exact rfl; exact rfl
                refine dq_split rfl rfl (fun hb => ?_) (fun hb => ?_) <;> (try simp only [decide_eq_true_eq, decide_eq_false_iff_not, beq_iff_eq, beq_eq_false_iff_ne, bne_iff_ne, bne_eq_false_iff_eq, ne_eq, Bool.not_eq_true', Bool.not_eq_false', Bool.and_eq_true, Bool.or_eq_true, Bool.and_eq_false_iff, Bool.or_eq_false_iff] at hb) <;> (try (exfalso; omega))
                apply dq_on; exact g_load_agg (us := [.int _ _, .int _ _]) rfl rfl rfl rfl; exact rfl; exact rfl; exact rfl
                apply dq_on; exact g_load_own_agg (us := [.int _ _, .int _ _]) rfl rfl rfl rfl; exact rfl; exact rfl; exact rfl
                apply dq_on; exact g_load_agg (us := [.int _ _, .int _ _]) rfl rfl rfl rfl; exact rfl; exact rfl; exact rfl
                apply dq_on; exact g_call (f3) rfl; exact rfl; exact rfl; exact rfl
                apply dq_on; exact g_call (g3) rfl; exact rfl; exact rfl; exact rfl
                apply dq_on; exact g_load_agg (us := [.int _ _, .int _ _]) rfl rfl rfl rfl; exact rfl; exact rfl; exact rfl
                apply dq_on; exact g_load_own_agg (us := [.int _ _, .int _ _]) rfl rfl rfl rfl; exact rfl; exact rfl; exact rfl
                apply dq_on; exact g_load_agg (us := [.int _ _, .int _ _]) rfl rfl rfl rfl; exact rfl; exact rfl; exact rfl
                apply dq_on; exact g_call (f4) rfl; exact rfl; exact rfl; exact rfl
                apply dq_on; exact g_call (g4) rfl; exact rfl; exact rfl; exact rfl
                apply dq_on; exact g_mulB rfl rfl (by omega) (by omega); exact rfl; exact rfl; exact rfl
                apply dq_on; exact g_cmp rfl rfl rfl; exact rfl; exact rfl; exact rfl
                apply dq_on; exact g_pick (s := .av (.val (.bool _))) rfl rfl; exact rfl; exact rfl; exact rfl
                apply dq_g; exact g_pick (s := .av (.val (.bool _))) rfl rfl; exact rfl
                apply dq_g; exact g_assign (s := .av (.val (.bool _))) rfl; exact rfl
                refine dq_nil tm (by kernel_rfl) ?_
                refine sq_then ?_
                refine cq_region ?_
                apply sq_g; exact g_arith rfl rfl rfl (by omega); exact rfl
                apply sq_g; exact g_move (s := .av (.val (.int _ _))) rfl; exact rfl
                refine sq_nil ?_
                rotate_left
                refine dq_off nofun rfl rfl rfl rfl ?_
                refine dq_off nofun rfl rfl rfl rfl ?_
                refine dq_off nofun rfl rfl rfl rfl ?_
                refine dq_off nofun rfl rfl rfl rfl ?_
                refine dq_off nofun rfl rfl rfl rfl ?_
                refine dq_off nofun rfl rfl rfl rfl ?_
                refine dq_off nofun rfl rfl rfl rfl ?_
                refine dq_off nofun rfl rfl rfl rfl ?_
                refine dq_off nofun rfl rfl rfl rfl ?_
                refine dq_off nofun rfl rfl rfl rfl ?_
                refine dq_off nofun rfl rfl rfl rfl ?_
                refine dq_off nofun rfl rfl rfl rfl ?_
                apply dq_on; exact g_pick (s := .av (.val (.bool _))) rfl rfl; exact rfl; exact rfl; exact rfl
                apply dq_g; exact g_pick (s := .av (.val (.bool _))) rfl rfl; exact rfl
                apply dq_g; exact g_assign (s := .av (.val (.bool _))) rfl; exact rfl
                refine dq_nil tm (by kernel_rfl) ?_
                refine sq_then ?_
                refine cq_region ?_
                apply sq_g; exact g_arith rfl rfl rfl (by omega); exact rfl
                apply sq_g; exact g_move (s := .av (.val (.int _ _))) rfl; exact rfl
                refine sq_nil ?_
                rotate_left
              all_goals refine sq_round (m + 1) (by omega) (by omega) (ent ⟨.refl _, .refl _, ?_, .refl _, .refl _, .refl _, .refl _, .refl _, .refl _, .refl _, .refl _, .refl _, .refl _, .refl _, .refl _, .refl _, .refl _, .int (by omega), trivial⟩ trivial)
              all_goals first | (rw [show d4 a b (d3 a b (d2 a b (d1 a b M i) i j) i j k) i j k (m + 1) = true by rw [hS, hX]; simp [*]]; exact .refl _) | (rw [show d4 a b (d3 a b (d2 a b (d1 a b M i) i j) i j k) i j k (m + 1) = false by rw [hS, hX]; simp [*]]; exact .refl _) | (rw [show d4 a b (d3 a b (d2 a b (d1 a b M i) i j) i j k) i j k (m + 1) = decide (sgn (crs (gp b k) (gp b m) (gp a i)) * sgn (crs (gp b k) (gp b m) (gp a j)) < 0) by rw [hS, hX]; simp [*]]; exact .refl _)
            · have e : m = b.length := by omega
              subst e
              refine cq_exit ?_
              refine sq_then ?_
              refine cq_region ?_
              apply sq_g; exact g_arith rfl rfl rfl (by omega); exact rfl
              apply sq_g; exact g_move (s := .av (.val (.int _ _))) rfl; exact rfl
              refine sq_nil ?_
              exact sq_round (k + 1) (by omega) (by omega) (ent ⟨.refl _, .refl _, (by rw [d3_s]; exact .refl _), .refl _, .refl _, .refl _, .refl _, .refl _, .refl _, .refl _, .refl _, .refl _, .refl _, .int (by omega), trivial⟩ trivial)
          · have e : k = b.length := by omega
            subst e
            refine cq_exit ?_
            refine sq_then ?_
            refine cq_region ?_
            apply sq_g; exact g_arith rfl rfl rfl (by omega); exact rfl
            apply sq_g; exact g_move (s := .av (.val (.int _ _))) rfl; exact rfl
            refine sq_nil ?_
            exact sq_round (j + 1) (by omega) (by omega) (ent ⟨.refl _, .refl _, (by rw [d2_s]; exact .refl _), .refl _, .refl _, .refl _, .refl _, .refl _, .refl _, .int (by omega), trivial⟩ trivial)
        · have e : j = a.length := by omega
          subst e
          refine cq_exit ?_
          refine sq_then ?_
          refine cq_region ?_
          apply sq_g; exact g_arith rfl rfl rfl (by omega); exact rfl
          apply sq_g; exact g_move (s := .av (.val (.int _ _))) rfl; exact rfl
          refine sq_nil ?_
          exact sq_round (i + 1) (by omega) (by omega) (ent ⟨.refl _, .refl _, (by rw [d1_s]; exact .refl _), .refl _, .refl _, .int (by omega), trivial⟩ trivial)
      · have e : i = a.length := by omega
        subst e
        rw [hE]
        refine cq_exit ?_
        refine sq_then ?_
        refine cq_seq ?_
        refine cq_region ?_
        apply sq_g; exact g_move (s := .av (.val (.bool _))) rfl; exact rfl
        apply sq_g; exact g_move (s := .av (.val (.bool _))) rfl; exact rfl
        apply sq_on; exact g_call (awake_c) rfl; exact rfl; exact rfl; exact rfl
        apply sq_g; exact g_pick (s := .av (.val (.bool _))) rfl rfl; exact rfl
        apply sq_g; exact g_assign (s := .av (.val (.bool _))) rfl; exact rfl
        refine sq_nil ?_
        refine sq_then ?_
        refine cq_ret ?_
        exact sq_res1 rfl (.tmp rfl) rfl
end Go.Proofs.Ytacepcnbgacipaa
