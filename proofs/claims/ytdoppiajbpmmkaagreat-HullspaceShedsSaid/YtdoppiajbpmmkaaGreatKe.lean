/- A part of the proof that the law returns true at every input and that the input reads behind the call as it read before; this part states nothing of its own that needs a condition of the input. -/
import Derived.Test.YtdoppiajbpmmkaaGreatY
import Derived.Test.YtdoppiajbpmmkaaGreatKd
set_option linter.unusedVariables false
set_option linter.unusedSimpArgs false
set_option linter.unnecessarySimpa false
namespace Go.Vc
open Go Go.RowKit
variable {P : Program} {E : Env} {T : Tab} {O : Own} {d : Option Tmp} {ty : TypeId} {pos : String} {af : Array Edge} {g : Option (Nat × Bool)}
theorem run_append0 {t e : TypeId} {sz : Nat} [ht : SlTy P t e sz] (w : World) (b p : Option Addr) (n c k : Nat) (hn : n ≤ c) : (Builtin.append_ #[t, t] ty #[.slice b n c, .slice p 0 k]).run P w = .ok (.slice b n c) w := by
  cases p with
  | none =>
    cases b with
    | none => simp [Builtin.append_, run_underlying ht.und, ht.size, Builtin.lenOf, Builtin.firstCells, hn]
    | some a => simp [Builtin.append_, run_underlying ht.und, ht.size, Builtin.lenOf, Builtin.firstCells, hn, storeCells]
  | some q =>
    have hl := run_loadCells_list (P := P) (w := w) q [] (fun j u h => by simp at h)
    simp only [List.length_nil] at hl
    cases b with
    | none => simp [Builtin.append_, run_underlying ht.und, ht.size, Builtin.lenOf, Builtin.firstCells, hn, hl]
    | some a => simp [Builtin.append_, run_underlying ht.und, ht.size, Builtin.lenOf, Builtin.firstCells, hn, hl, storeCells]
end Go.Vc
namespace Go.Proofs.YtdoppiajbpmmkaaGreat
open Go Go.Vc Go.RowKit
set_option maxHeartbeats 8000000
/-! KDQ -/
theorem rzero_c (p : Tr) : CtrA Tryz.prog 78 [tp p] (vb (decide (p = tz))) := by
  refine ctrA _ Tryz.func78 rfl rfl Tryz.ntmps78 rfl fun w Z => ?_
  have e : decide (p = tz) = (decide (p.x = 0) && decide (p.y = 0) && decide (p.z = 0)) := by
    cases p; rw [Bool.eq_iff_iff]; simp [tz, and_assoc]
  rw [e]
  simp only [initT, List.map_cons, List.map_nil, Nat.zero_add, Nat.reduceAdd]
  focus
    refine cq_seq ?_
    refine cq_region ?_
    apply sq_g; exact g_box_agg rfl; exact rfl
    apply sq_g; exact g_assign (s := .av (.val (.bool _))) rfl; exact rfl
    refine sq_nil ?_
    refine sq_then ?_
    refine cq_seq ?_
    refine cq_region ?_
    apply sq_g; exact g_field rfl; exact rfl
    apply sq_g; exact g_load (τ := .val (.int _ _)) rfl rfl rfl; exact rfl
    apply sq_g; exact g_cmp rfl rfl rfl; exact rfl
    apply sq_g; exact g_move (s := .av (.val (.bool _))) rfl; exact rfl
    refine sq_split rfl rfl (fun hb => ?_) (fun hb => ?_) <;> (try simp only [decide_eq_true_eq, decide_eq_false_iff_not, beq_iff_eq, beq_eq_false_iff_ne, bne_iff_ne, bne_eq_false_iff_eq, ne_eq, Bool.not_eq_true', Bool.not_eq_false', Bool.and_eq_true, Bool.or_eq_true, Bool.and_eq_false_iff, Bool.or_eq_false_iff] at hb) <;> (try (exfalso; omega))
    apply sq_on; exact g_field rfl; exact rfl; exact rfl; exact rfl
    apply sq_on; exact g_load (τ := .val (.int _ _)) rfl rfl rfl; exact rfl; exact rfl; exact rfl
    apply sq_on; exact g_cmp rfl rfl rfl; exact rfl; exact rfl; exact rfl
    apply sq_g; exact g_pick (s := .av (.val (.bool _))) rfl rfl; exact rfl
    apply sq_g; exact g_move (s := .av (.val (.bool _))) rfl; exact rfl
    refine sq_split rfl rfl (fun hb => ?_) (fun hb => ?_) <;> (try simp only [decide_eq_true_eq, decide_eq_false_iff_not, beq_iff_eq, beq_eq_false_iff_ne, bne_iff_ne, bne_eq_false_iff_eq, ne_eq, Bool.not_eq_true', Bool.not_eq_false', Bool.and_eq_true, Bool.or_eq_true, Bool.and_eq_false_iff, Bool.or_eq_false_iff] at hb) <;> (try (exfalso; omega))
    apply sq_on; exact g_field rfl; exact rfl; exact rfl; exact rfl
    apply sq_on; exact g_load (τ := .val (.int _ _)) rfl rfl rfl; exact rfl; exact rfl; exact rfl
    apply sq_on; exact g_cmp rfl rfl rfl; exact rfl; exact rfl; exact rfl
    apply sq_g; exact g_pick (s := .av (.val (.bool _))) rfl rfl; exact rfl
    apply sq_g; exact g_assign (s := .av (.val (.bool _))) rfl; exact rfl
    refine sq_nil ?_
    refine sq_then ?_
    refine cq_ret ?_
    rotate_left
    refine sq_off rfl rfl rfl rfl ?_
    refine sq_off rfl rfl rfl rfl ?_
    refine sq_off rfl rfl rfl rfl ?_
    apply sq_g; exact g_pick (s := .av (.val (.bool _))) rfl rfl; exact rfl
    apply sq_g; exact g_assign (s := .av (.val (.bool _))) rfl; exact rfl
    refine sq_nil ?_
    refine sq_then ?_
    refine cq_ret ?_
    rotate_left
    refine sq_off rfl rfl rfl rfl ?_
    refine sq_off rfl rfl rfl rfl ?_
    refine sq_off rfl rfl rfl rfl ?_
    apply sq_g; exact g_pick (s := .av (.val (.bool _))) rfl rfl; exact rfl
    apply sq_g; exact g_move (s := .av (.val (.bool _))) rfl; exact rfl
    refine sq_off rfl rfl rfl rfl ?_
    refine sq_off rfl rfl rfl rfl ?_
    refine sq_off rfl rfl rfl rfl ?_
    apply sq_g; exact g_pick (s := .av (.val (.bool _))) rfl rfl; exact rfl
    apply sq_g; exact g_assign (s := .av (.val (.bool _))) rfl; exact rfl
    refine sq_nil ?_
    refine sq_then ?_
    refine cq_ret ?_
    rotate_left
  all_goals (refine sq_res1 rfl (.tmp rfl) (congrArg vb ?_); (try simp only [beq_iff_eq, Bool.beq_eq_decide_eq] at *); simp [*])
theorem rless_c (a b : Tr) (h1 : BT 1000000000000 a) (h2 : BT 1000000000000 b) : CtrA Tryz.prog 108 [tp a, tp b] (tp (tsub a b)) := by
  refine ctrA _ Tryz.func108 rfl rfl Tryz.ntmps108 rfl fun w Z => ?_
  obtain ⟨⟨_, _⟩, ⟨_, _⟩, ⟨_, _⟩⟩ := h1
  obtain ⟨⟨_, _⟩, ⟨_, _⟩, ⟨_, _⟩⟩ := h2
  simp only [initT, List.map_cons, List.map_nil, Nat.zero_add, Nat.reduceAdd]
  refine cq_seq ?_
  refine cq_region ?_
  apply sq_g; exact g_box_agg rfl; exact rfl
  apply sq_g; exact g_box_agg rfl; exact rfl
  refine sq_v (f_alloc 10 rfl) rfl ?_
  refine sq_nil ?_
  refine sq_then ?_
  refine cq_seq ?_
  refine cq_region ?_
  apply sq_g; exact g_field rfl; exact rfl
  apply sq_g; exact g_load (τ := .val (.int _ _)) rfl rfl rfl; exact rfl
  apply sq_g; exact g_field rfl; exact rfl
  apply sq_g; exact g_load (τ := .val (.int _ _)) rfl rfl rfl; exact rfl
  apply sq_g; exact g_arith rfl rfl rfl (by omega); exact rfl
  apply sq_g; exact g_field rfl; exact rfl
  apply sq_g; exact g_load (τ := .val (.int _ _)) rfl rfl rfl; exact rfl
  apply sq_g; exact g_field rfl; exact rfl
  apply sq_g; exact g_load (τ := .val (.int _ _)) rfl rfl rfl; exact rfl
  apply sq_g; exact g_arith rfl rfl rfl (by omega); exact rfl
  apply sq_g; exact g_field rfl; exact rfl
  apply sq_g; exact g_load (τ := .val (.int _ _)) rfl rfl rfl; exact rfl
  apply sq_g; exact g_field rfl; exact rfl
  apply sq_g; exact g_load (τ := .val (.int _ _)) rfl rfl rfl; exact rfl
  apply sq_g; exact g_arith rfl rfl rfl (by omega); exact rfl
  apply sq_g; exact g_build (is := [0, 1, 2]) (xs := [_, _, _]) (vs := [_, _, _]) (tb67 _ _ _) rfl rfl; exact rfl
  refine sq_s (g_store_agg rfl rfl rfl rfl rfl rfl) ?_
  refine sq_nil ?_
  refine sq_then ?_
  refine cq_ret ?_
  exact sq_res1 rfl (.agg (us := [_, _, _]) rfl rfl rfl rfl) rfl
theorem rtspace_c (a b : Tr) {A B : Int} (h1 : BT A a) (h2 : BT B b) (hab : A * B ≤ 1000000000000000000) : CtrA Tryz.prog 109 [tp a, tp b] (vi (tdot a b)) := by
  refine ctrA _ Tryz.func109 rfl rfl Tryz.ntmps109 rfl fun w Z => ?_
  obtain ⟨m1, n1⟩ := bn_mul h1.x h2.x
  obtain ⟨m2, n2⟩ := bn_mul h1.y h2.y
  obtain ⟨m3, n3⟩ := bn_mul h1.z h2.z
  simp only [initT, List.map_cons, List.map_nil, Nat.zero_add, Nat.reduceAdd]
  refine cq_seq ?_
  refine cq_region ?_
  apply sq_g; exact g_box_agg rfl; exact rfl
  apply sq_g; exact g_box_agg rfl; exact rfl
  apply sq_g; exact g_assign (s := .av (.val (.int _ _))) rfl; exact rfl
  refine sq_nil ?_
  refine sq_then ?_
  refine cq_seq ?_
  refine cq_region ?_
  apply sq_g; exact g_field rfl; exact rfl
  apply sq_g; exact g_load (τ := .val (.int _ _)) rfl rfl rfl; exact rfl
  apply sq_g; exact g_field rfl; exact rfl
  apply sq_g; exact g_load (τ := .val (.int _ _)) rfl rfl rfl; exact rfl
  apply sq_g; exact g_arith rfl rfl rfl (by omega); exact rfl
  apply sq_g; exact g_field rfl; exact rfl
  apply sq_g; exact g_load (τ := .val (.int _ _)) rfl rfl rfl; exact rfl
  apply sq_g; exact g_field rfl; exact rfl
  apply sq_g; exact g_load (τ := .val (.int _ _)) rfl rfl rfl; exact rfl
  apply sq_g; exact g_arith rfl rfl rfl (by omega); exact rfl
  apply sq_g; exact g_arith rfl rfl rfl (by omega); exact rfl
  apply sq_g; exact g_field rfl; exact rfl
  apply sq_g; exact g_load (τ := .val (.int _ _)) rfl rfl rfl; exact rfl
  apply sq_g; exact g_field rfl; exact rfl
  apply sq_g; exact g_load (τ := .val (.int _ _)) rfl rfl rfl; exact rfl
  apply sq_g; exact g_arith rfl rfl rfl (by omega); exact rfl
  apply sq_g; exact g_arith rfl rfl rfl (by omega); exact rfl
  apply sq_g; exact g_assign (s := .av (.val (.int _ _))) rfl; exact rfl
  refine sq_nil ?_
  refine sq_then ?_
  refine cq_ret ?_
  exact sq_res1 rfl (.tmp rfl) rfl
theorem rvector_c (a b : Tr) {A B : Int} (h1 : BT A a) (h2 : BT B b) (hab : A * B ≤ 1000000000000000000) : CtrA Tryz.prog 107 [tp a, tp b] (tp (tcr a b)) := by
  refine ctrA _ Tryz.func107 rfl rfl Tryz.ntmps107 rfl fun w Z => ?_
  obtain ⟨m1, n1⟩ := bn_mul h1.y h2.z
  obtain ⟨m2, n2⟩ := bn_mul h1.z h2.y
  obtain ⟨m3, n3⟩ := bn_mul h1.z h2.x
  obtain ⟨m4, n4⟩ := bn_mul h1.x h2.z
  obtain ⟨m5, n5⟩ := bn_mul h1.x h2.y
  obtain ⟨m6, n6⟩ := bn_mul h1.y h2.x
  simp only [initT, List.map_cons, List.map_nil, Nat.zero_add, Nat.reduceAdd]
  refine cq_seq ?_
  refine cq_region ?_
  apply sq_g; exact g_box_agg rfl; exact rfl
  apply sq_g; exact g_box_agg rfl; exact rfl
  refine sq_v (f_alloc 10 rfl) rfl ?_
  refine sq_nil ?_
  refine sq_then ?_
  refine cq_seq ?_
  refine cq_region ?_
  apply sq_g; exact g_field rfl; exact rfl
  apply sq_g; exact g_load (τ := .val (.int _ _)) rfl rfl rfl; exact rfl
  apply sq_g; exact g_field rfl; exact rfl
  apply sq_g; exact g_load (τ := .val (.int _ _)) rfl rfl rfl; exact rfl
  apply sq_g; exact g_arith rfl rfl rfl (by omega); exact rfl
  apply sq_g; exact g_field rfl; exact rfl
  apply sq_g; exact g_load (τ := .val (.int _ _)) rfl rfl rfl; exact rfl
  apply sq_g; exact g_field rfl; exact rfl
  apply sq_g; exact g_load (τ := .val (.int _ _)) rfl rfl rfl; exact rfl
  apply sq_g; exact g_arith rfl rfl rfl (by omega); exact rfl
  apply sq_g; exact g_arith rfl rfl rfl (by omega); exact rfl
  apply sq_g; exact g_field rfl; exact rfl
  apply sq_g; exact g_load (τ := .val (.int _ _)) rfl rfl rfl; exact rfl
  apply sq_g; exact g_field rfl; exact rfl
  apply sq_g; exact g_load (τ := .val (.int _ _)) rfl rfl rfl; exact rfl
  apply sq_g; exact g_arith rfl rfl rfl (by omega); exact rfl
  apply sq_g; exact g_field rfl; exact rfl
  apply sq_g; exact g_load (τ := .val (.int _ _)) rfl rfl rfl; exact rfl
  apply sq_g; exact g_field rfl; exact rfl
  apply sq_g; exact g_load (τ := .val (.int _ _)) rfl rfl rfl; exact rfl
  apply sq_g; exact g_arith rfl rfl rfl (by omega); exact rfl
  apply sq_g; exact g_arith rfl rfl rfl (by omega); exact rfl
  apply sq_g; exact g_field rfl; exact rfl
  apply sq_g; exact g_load (τ := .val (.int _ _)) rfl rfl rfl; exact rfl
  apply sq_g; exact g_field rfl; exact rfl
  apply sq_g; exact g_load (τ := .val (.int _ _)) rfl rfl rfl; exact rfl
  apply sq_g; exact g_arith rfl rfl rfl (by omega); exact rfl
  apply sq_g; exact g_field rfl; exact rfl
  apply sq_g; exact g_load (τ := .val (.int _ _)) rfl rfl rfl; exact rfl
  apply sq_g; exact g_field rfl; exact rfl
  apply sq_g; exact g_load (τ := .val (.int _ _)) rfl rfl rfl; exact rfl
  apply sq_g; exact g_arith rfl rfl rfl (by omega); exact rfl
  apply sq_g; exact g_arith rfl rfl rfl (by omega); exact rfl
  apply sq_g; exact g_build (is := [0, 1, 2]) (xs := [_, _, _]) (vs := [_, _, _]) (tb67 _ _ _) rfl rfl; exact rfl
  refine sq_s (g_store_agg rfl rfl rfl rfl rfl rfl) ?_
  refine sq_nil ?_
  refine sq_then ?_
  refine cq_ret ?_
  exact sq_res1 rfl (.agg (us := [_, _, _]) rfl rfl rfl rfl) rfl
def tac (a b c : Tr) : Tr := tcr (tsub b a) (tsub c a)
def six (a b c d : Tr) : Int := tdot (tac a b c) (tsub d a)
theorem BT.ac {a b c : Tr} (h1 : BT 100000 a) (h2 : BT 100000 b) (h3 : BT 100000 c) : BT 80000000000 (tac a b c) := ((h2.sub h1).cr (h3.sub h1)).le (by decide)
theorem racross_c (a b c : Tr) (h1 : BT 100000 a) (h2 : BT 100000 b) (h3 : BT 100000 c) : CtrA Tryz.prog 79 [tp a, tp b, tp c] (tp (tac a b c)) := by
  refine ctrA _ Tryz.func79 rfl rfl Tryz.ntmps79 rfl fun w Z => ?_
  have e1 := rless_c b a (h2.le (by decide)) (h1.le (by decide))
  have e2 := rless_c c a (h3.le (by decide)) (h1.le (by decide))
  have e3 := rvector_c (tsub b a) (tsub c a) (h2.sub h1) (h3.sub h1) (by decide)
  simp only [initT, List.map_cons, List.map_nil, Nat.zero_add, Nat.reduceAdd]
  refine cq_seq ?_
  refine cq_region ?_
  apply sq_g; exact g_box_agg rfl; exact rfl
  apply sq_g; exact g_box_agg rfl; exact rfl
  apply sq_g; exact g_box_agg rfl; exact rfl
  refine sq_v (f_alloc 10 rfl) rfl ?_
  refine sq_nil ?_
  refine sq_then ?_
  refine cq_seq ?_
  refine cq_drawn ?_
  apply dq_g; exact g_load_agg (us := [.int _ _, .int _ _, .int _ _]) rfl rfl rfl rfl; exact rfl
  apply dq_g; exact g_load_agg (us := [.int _ _, .int _ _, .int _ _]) rfl rfl rfl rfl; exact rfl
  apply dq_g; exact g_call (e1) rfl; exact rfl
  apply dq_g; exact g_load_agg (us := [.int _ _, .int _ _, .int _ _]) rfl rfl rfl rfl; exact rfl
  apply dq_g; exact g_load_agg (us := [.int _ _, .int _ _, .int _ _]) rfl rfl rfl rfl; exact rfl
  apply dq_g; exact g_call (e2) rfl; exact rfl
  apply dq_g; exact g_call (e3) rfl; exact rfl
  refine dq_s (g_store_agg rfl rfl rfl rfl rfl rfl) ?_
  refine dq_nil tm (by kernel_rfl) ?_
  refine sq_then ?_
  refine cq_ret ?_
  exact sq_res1 rfl (.agg (us := [_, _, _]) rfl rfl rfl rfl) rfl
theorem rsix_c (a b c d : Tr) (h1 : BT 100000 a) (h2 : BT 100000 b) (h3 : BT 100000 c) (h4 : BT 100000 d) : CtrA Tryz.prog 80 [tp a, tp b, tp c, tp d] (vi (six a b c d)) := by
  refine ctrA _ Tryz.func80 rfl rfl Tryz.ntmps80 rfl fun w Z => ?_
  have e1 := racross_c a b c h1 h2 h3
  have e2 := rless_c d a (h4.le (by decide)) (h1.le (by decide))
  have e3 := rtspace_c (tac a b c) (tsub d a) (h1.ac h2 h3) (h4.sub h1) (by decide)
  simp only [initT, List.map_cons, List.map_nil, Nat.zero_add, Nat.reduceAdd]
  refine cq_seq ?_
  refine cq_region ?_
  apply sq_g; exact g_box_agg rfl; exact rfl
  apply sq_g; exact g_box_agg rfl; exact rfl
  apply sq_g; exact g_box_agg rfl; exact rfl
  apply sq_g; exact g_box_agg rfl; exact rfl
  apply sq_g; exact g_assign (s := .av (.val (.int _ _))) rfl; exact rfl
  refine sq_nil ?_
  refine sq_then ?_
  refine cq_seq ?_
  refine cq_drawn ?_
  apply dq_g; exact g_load_agg (us := [.int _ _, .int _ _, .int _ _]) rfl rfl rfl rfl; exact rfl
  apply dq_g; exact g_load_agg (us := [.int _ _, .int _ _, .int _ _]) rfl rfl rfl rfl; exact rfl
  apply dq_g; exact g_load_agg (us := [.int _ _, .int _ _, .int _ _]) rfl rfl rfl rfl; exact rfl
  apply dq_g; exact g_call (e1) rfl; exact rfl
  apply dq_g; exact g_load_agg (us := [.int _ _, .int _ _, .int _ _]) rfl rfl rfl rfl; exact rfl
  apply dq_g; exact g_load_agg (us := [.int _ _, .int _ _, .int _ _]) rfl rfl rfl rfl; exact rfl
  apply dq_g; exact g_call (e2) rfl; exact rfl
  apply dq_g; exact g_call (e3) rfl; exact rfl
  apply dq_g; exact g_assign (s := .av (.val (.int _ _))) rfl; exact rfl
  refine dq_nil tm (by kernel_rfl) ?_
  refine sq_then ?_
  refine cq_ret ?_
  exact sq_res1 rfl (.tmp rfl) rfl
end Go.Proofs.YtdoppiajbpmmkaaGreat
namespace Go.Proofs.YtdoppiajbpmmkaaGreat
open Go Go.Vc Go.RowKit
set_option maxHeartbeats 8000000
/-! KDQ -/
end Go.Proofs.YtdoppiajbpmmkaaGreat
namespace Go.Proofs.YtdoppiajbpmmkaaGreat
open Go Go.Vc Go.RowKit
set_option maxHeartbeats 8000000
/-! KDQ -/
end Go.Proofs.YtdoppiajbpmmkaaGreat
namespace Go.Proofs.YtdoppiajbpmmkaaGreat
open Go Go.Vc Go.RowKit
set_option maxHeartbeats 8000000
/-! KDQ -/
end Go.Proofs.YtdoppiajbpmmkaaGreat
namespace Go.Proofs.YtdoppiajbpmmkaaGreat
open Go Go.Vc Go.RowKit
set_option maxHeartbeats 8000000
/-! KDQ -/
def mx (o v : Int) : Int := if o < v then v else o
def rC (l : List Tr) (a b : Nat) (o : Int) : Nat → Int
  | 0 => o
  | c + 1 => if tac (gt l a) (gt l b) (gt l c) = tz then rC l a b o c else mx (rC l a b o c) 2
def rB (l : List Tr) (a : Nat) (o : Int) : Nat → Int
  | 0 => o
  | b + 1 => if gt l a = gt l b then rB l a o b else rC l a b (mx (rB l a o b) 1) b
def rA (l : List Tr) : Nat → Int
  | 0 => -1
  | a + 1 => rB l a (mx (rA l a) 0) a
/-- Four points that are not coplanar. -/
def Solid (l : List Tr) : Prop := ∃ a, a < l.length ∧ ∃ b, b < a ∧ ∃ c, c < b ∧ ∃ d, d < l.length ∧ six (gt l a) (gt l b) (gt l c) (gt l d) ≠ 0
theorem rC_le (l : List Tr) (a b : Nat) {o : Int} (h : o ≤ 2) : ∀ c, rC l a b o c ≤ 2
  | 0 => h
  | c + 1 => by have := rC_le l a b h c; unfold rC mx; split <;> (try split) <;> omega
theorem rB_le (l : List Tr) (a : Nat) {o : Int} (h : o ≤ 2) : ∀ b, rB l a o b ≤ 2
  | 0 => h
  | b + 1 => by
    have := rB_le l a h b
    unfold rB
    split
    · exact this
    · exact rC_le l a b (by unfold mx; split <;> omega) b
theorem rA_le (l : List Tr) : ∀ a, rA l a ≤ 2
  | 0 => (show (-1 : Int) ≤ 2 by decide)
  | a + 1 => rB_le l a (by have := rA_le l a; unfold mx; split <;> omega) a
theorem six_same {a b : Tr} (h : a = b) (c d : Tr) : six a b c d = 0 := by
  subst h; unfold six tac tcr tsub tdot; simp
theorem six_zero {a b c : Tr} (h : tac a b c = tz) (d : Tr) : six a b c d = 0 := by
  unfold six; rw [h]; unfold tz tdot; simp
theorem rank_c (l : List Tr) (r : Int) (hl : RT l) (hn : l.length ≤ 6) (h3 : Solid l → r = 3) (h2 : ¬ Solid l → r = rA l l.length) : CtrA Tryz.prog 53 [ts l] (vi r) := by
  refine ctrA _ Tryz.func53 rfl rfl Tryz.ntmps53 rfl fun w Z => ?_
  simp only [initT, List.map_cons, List.map_nil, Nat.zero_add, Nat.reduceAdd]
  refine cq_seq ?_
  refine cq_region ?_
  apply sq_g; exact g_assign (s := .av (.val (.int _ _))) rfl; exact rfl
  refine sq_nil ?_
  refine sq_then ?_
  refine cq_seq ?_
  refine cq_region ?_
  apply sq_g; exact g_assign (s := .av (.val (.int _ _))) rfl; exact rfl
  refine sq_nil ?_
  refine sq_then ?_
  refine cq_seq ?_
  refine cq_seq ?_
  refine cq_region ?_
  apply sq_g; exact g_assign (s := .av (.val (.int _ _))) rfl; exact rfl
  refine sq_nil ?_
  refine sq_then ?_
  refine cq_block ?_
  refine cq_loop (γ := Nat) (fun a => [(0, .av (ts l)), (3, .av (vi (rA l a))), (4, .av (vi a))]) (fun _ => []) (fun a => a ≤ l.length ∧ ∀ a', a' < a → ∀ b, b < a' → ∀ c, c < b → ∀ d, d < l.length → six (gt l a') (gt l b) (gt l c) (gt l d) = 0) (fun a => l.length - a) 0 ⟨Nat.zero_le _, by omega⟩ (ent ⟨.refl _, .refl _, .refl _, trivial⟩ trivial) ?_
  rintro a ⟨ha, iA⟩
  refine cq_seq ?_
  refine cq_seq ?_
  refine cq_region ?_
  apply sq_g; exact g_move (s := .av (.val (.int _ _))) rfl; exact rfl
  apply sq_g; exact g_move (s := .av _) rfl; exact rfl
  apply sq_g; exact g_len rfl; exact rfl
  apply sq_g; exact g_cmp rfl rfl rfl; exact rfl
  refine sq_nil ?_
  refine sq_then ?_
  (refine cq_cond rfl (fun hb => ?_) (fun hb => ?_) <;> (try simp only [decide_eq_true_eq, decide_eq_false_iff_not, beq_iff_eq, beq_eq_false_iff_ne, bne_iff_ne, bne_eq_false_iff_eq, ne_eq, Bool.not_eq_true', Bool.not_eq_false', Bool.and_eq_true, Bool.or_eq_true, Bool.and_eq_false_iff, Bool.or_eq_false_iff] at hb) <;> (try (exfalso; omega)))
  · have hal : a < l.length := by omega
    have eA : rA l (a + 1) = rB l a (mx (rA l a) 0) a := rfl
    generalize rA l a = o at eA ⊢
    unfold mx at eA
    refine cq_skip ?_
    refine sq_then ?_
    refine cq_seq ?_
    refine cq_block ?_
    refine cq_seq ?_
    refine cq_region ?_
    apply sq_g; exact g_move (s := .av (.val (.int _ _))) rfl; exact rfl
    apply sq_g; exact g_max rfl rfl; exact rfl
    apply sq_g; exact g_assign (s := .av (.val (.int _ _))) rfl; exact rfl
    refine sq_nil ?_
    refine sq_then ?_
    refine cq_seq ?_
    refine cq_region ?_
    apply sq_g; exact g_assign (s := .av (.val (.int _ _))) rfl; exact rfl
    refine sq_nil ?_
    refine sq_then ?_
    refine cq_block ?_
    generalize hO : (if o < 0 then (0 : Int) else o) = O at eA ⊢
    refine cq_loop (γ := Nat) (fun b => [(0, .av (ts l)), (3, .av (vi (rB l a O b))), (4, .av (vi a)), (5, .av (vi b))]) (fun _ => []) (fun b => b ≤ a ∧ ∀ b', b' < b → ∀ c, c < b' → ∀ d, d < l.length → six (gt l a) (gt l b') (gt l c) (gt l d) = 0) (fun b => a - b) 0 ⟨Nat.zero_le _, by omega⟩ (ent ⟨.refl _, .int (by first | exact hO | rfl | omega), .refl _, .refl _, trivial⟩ trivial) ?_
    rintro b ⟨hbn, iB⟩
    refine cq_seq ?_
    refine cq_seq ?_
    refine cq_region ?_
    apply sq_g; exact g_move (s := .av (.val (.int _ _))) rfl; exact rfl
    apply sq_g; exact g_move (s := .av (.val (.int _ _))) rfl; exact rfl
    apply sq_g; exact g_cmp rfl rfl rfl; exact rfl
    refine sq_nil ?_
    refine sq_then ?_
    (refine cq_cond rfl (fun hb => ?_) (fun hb => ?_) <;> (try simp only [decide_eq_true_eq, decide_eq_false_iff_not, beq_iff_eq, beq_eq_false_iff_ne, bne_iff_ne, bne_eq_false_iff_eq, ne_eq, Bool.not_eq_true', Bool.not_eq_false', Bool.and_eq_true, Bool.or_eq_true, Bool.and_eq_false_iff, Bool.or_eq_false_iff] at hb) <;> (try (exfalso; omega)))
    · have hba : b < a := by omega
      have hbl : b < l.length := by omega
      have eB : rB l a O (b + 1) = if gt l a = gt l b then rB l a O b else rC l a b (mx (rB l a O b) 1) b := rfl
      generalize rB l a O b = p at eB ⊢
      refine cq_skip ?_
      refine sq_then ?_
      refine cq_seq ?_
      refine cq_block ?_
      refine cq_seq ?_
      refine cq_seq ?_
      refine cq_drawn ?_
      apply dq_g; exact g_move (s := .av _) rfl; exact rfl
      apply dq_g; exact g_move (s := .av (.val (.int _ _))) rfl; exact rfl
      apply dq_g; exact g_index rfl rfl rfl (by omega); exact rfl
      apply dq_g; exact g_load_agg (us := [.int _ _, .int _ _, .int _ _]) rfl rfl rfl rfl; exact rfl
      apply dq_g; exact g_move (s := .av _) rfl; exact rfl
      apply dq_g; exact g_move (s := .av (.val (.int _ _))) rfl; exact rfl
      apply dq_g; exact g_index rfl rfl rfl (by omega); exact rfl
      apply dq_g; exact g_load_agg (us := [.int _ _, .int _ _, .int _ _]) rfl rfl rfl rfl; exact rfl
      apply dq_g; exact g_eql (xs := [_, _, _]) (ys := [_, _, _]) rfl rfl rfl rfl; exact rfl
      refine dq_nil tm (by kernel_rfl) ?_
      refine sq_then ?_
      (refine cq_cond rfl (fun hb => ?_) (fun hb => ?_) <;> (try simp only [decide_eq_true_eq, decide_eq_false_iff_not, beq_iff_eq, beq_eq_false_iff_ne, bne_iff_ne, bne_eq_false_iff_eq, ne_eq, Bool.not_eq_true', Bool.not_eq_false', Bool.and_eq_true, Bool.or_eq_true, Bool.and_eq_false_iff, Bool.or_eq_false_iff] at hb) <;> (try (exfalso; omega)))
      · have hab := (nn_iff _ _).1 hb
        rw [if_pos hab] at eB
        refine cq_exit ?_
        refine sq_then ?_
        refine cq_region ?_
        apply sq_g; exact g_move (s := .av (.val (.int _ _))) rfl; exact rfl
        apply sq_g; exact g_arith rfl rfl rfl (by omega); exact rfl
        apply sq_g; exact g_assign (s := .av (.val (.int _ _))) rfl; exact rfl
        refine sq_nil ?_
        exact sq_round (b + 1) ⟨by omega, fun b' hb' c hc d hd => by
          by_cases e : b' = b
          · subst e; exact six_same hab _ _
          · exact iB b' (by omega) c hc d hd⟩ (by omega) (ent ⟨.refl _, .int (by rw [eB]), .refl _, .int (by omega), trivial⟩ trivial)
      · have hab : ¬ gt l a = gt l b := fun e => hb ((nn_iff _ _).2 e)
        rw [if_neg hab] at eB
        clear hb
        unfold mx at eB
        refine cq_skip ?_
        refine sq_then ?_
        refine cq_seq ?_
        refine cq_region ?_
        apply sq_g; exact g_move (s := .av (.val (.int _ _))) rfl; exact rfl
        apply sq_g; exact g_max rfl rfl; exact rfl
        apply sq_g; exact g_assign (s := .av (.val (.int _ _))) rfl; exact rfl
        refine sq_nil ?_
        refine sq_then ?_
        refine cq_seq ?_
        refine cq_region ?_
        apply sq_g; exact g_assign (s := .av (.val (.int _ _))) rfl; exact rfl
        refine sq_nil ?_
        refine sq_then ?_
        refine cq_block ?_
        generalize hQ : (if p < 1 then (1 : Int) else p) = Q at eB ⊢
        refine cq_loop (γ := Nat) (fun c => [(0, .av (ts l)), (3, .av (vi (rC l a b Q c))), (4, .av (vi a)), (5, .av (vi b)), (6, .av (vi c))]) (fun _ => []) (fun c => c ≤ b ∧ ∀ c', c' < c → ∀ d, d < l.length → six (gt l a) (gt l b) (gt l c') (gt l d) = 0) (fun c => b - c) 0 ⟨Nat.zero_le _, by omega⟩ (ent ⟨.refl _, .int (by first | exact hQ | rfl | omega), .refl _, .refl _, .refl _, trivial⟩ trivial) ?_
        rintro c ⟨hcn, iC⟩
        refine cq_seq ?_
        refine cq_seq ?_
        refine cq_region ?_
        apply sq_g; exact g_move (s := .av (.val (.int _ _))) rfl; exact rfl
        apply sq_g; exact g_move (s := .av (.val (.int _ _))) rfl; exact rfl
        apply sq_g; exact g_cmp rfl rfl rfl; exact rfl
        refine sq_nil ?_
        refine sq_then ?_
        (refine cq_cond rfl (fun hb => ?_) (fun hb => ?_) <;> (try simp only [decide_eq_true_eq, decide_eq_false_iff_not, beq_iff_eq, beq_eq_false_iff_ne, bne_iff_ne, bne_eq_false_iff_eq, ne_eq, Bool.not_eq_true', Bool.not_eq_false', Bool.and_eq_true, Bool.or_eq_true, Bool.and_eq_false_iff, Bool.or_eq_false_iff] at hb) <;> (try (exfalso; omega)))
        · have hcb : c < b := by omega
          have hcl : c < l.length := by omega
          have eC : rC l a b Q (c + 1) = if tac (gt l a) (gt l b) (gt l c) = tz then rC l a b Q c else mx (rC l a b Q c) 2 := rfl
          generalize rC l a b Q c = q at eC ⊢
          have hta := racross_c (gt l a) (gt l b) (gt l c) (hl a) (hl b) (hl c)
          by_cases hnz : tac (gt l a) (gt l b) (gt l c) = tz
          · rw [if_pos hnz] at eC
            rw [hnz] at hta
            have hz := rzero_c tz
            rw [decide_eq_true rfl] at hz
            refine cq_skip ?_
            refine sq_then ?_
            refine cq_seq ?_
            refine cq_block ?_
            refine cq_seq ?_
            refine cq_seq ?_
            refine cq_drawn ?_
            apply dq_g; exact g_move (s := .av _) rfl; exact rfl
            apply dq_g; exact g_move (s := .av (.val (.int _ _))) rfl; exact rfl
            apply dq_g; exact g_index rfl rfl rfl (by omega); exact rfl
            apply dq_g; exact g_load_agg (us := [.int _ _, .int _ _, .int _ _]) rfl rfl rfl rfl; exact rfl
            apply dq_g; exact g_move (s := .av _) rfl; exact rfl
            apply dq_g; exact g_move (s := .av (.val (.int _ _))) rfl; exact rfl
            apply dq_g; exact g_index rfl rfl rfl (by omega); exact rfl
            apply dq_g; exact g_load_agg (us := [.int _ _, .int _ _, .int _ _]) rfl rfl rfl rfl; exact rfl
            apply dq_g; exact g_move (s := .av _) rfl; exact rfl
            apply dq_g; exact g_move (s := .av (.val (.int _ _))) rfl; exact rfl
            apply dq_g; exact g_index rfl rfl rfl (by omega); exact rfl
            apply dq_g; exact g_load_agg (us := [.int _ _, .int _ _, .int _ _]) rfl rfl rfl rfl; exact rfl
            apply dq_g; exact g_call (hta) rfl; exact rfl
            apply dq_g; exact g_call (hz) rfl; exact rfl
            refine dq_nil tm (by kernel_rfl) ?_
            refine sq_then ?_
            refine cq_cond_t rfl ?_
            refine cq_exit ?_
            refine sq_then ?_
            refine cq_region ?_
            apply sq_g; exact g_move (s := .av (.val (.int _ _))) rfl; exact rfl
            apply sq_g; exact g_arith rfl rfl rfl (by omega); exact rfl
            apply sq_g; exact g_assign (s := .av (.val (.int _ _))) rfl; exact rfl
            refine sq_nil ?_
            exact sq_round (c + 1) ⟨by omega, fun c' hc' d hd => by
              by_cases e : c' = c
              · subst e; exact six_zero hnz _
              · exact iC c' (by omega) d hd⟩ (by omega) (ent ⟨.refl _, .int (by rw [eC]), .refl _, .refl _, .int (by omega), trivial⟩ trivial)
          · rw [if_neg hnz] at eC
            have hz := rzero_c (tac (gt l a) (gt l b) (gt l c))
            rw [decide_eq_false hnz] at hz
            generalize tac (gt l a) (gt l b) (gt l c) = n at hta hz
            unfold mx at eC
            refine cq_skip ?_
            refine sq_then ?_
            refine cq_seq ?_
            refine cq_block ?_
            refine cq_seq ?_
            refine cq_seq ?_
            refine cq_drawn ?_
            apply dq_g; exact g_move (s := .av _) rfl; exact rfl
            apply dq_g; exact g_move (s := .av (.val (.int _ _))) rfl; exact rfl
            apply dq_g; exact g_index rfl rfl rfl (by omega); exact rfl
            apply dq_g; exact g_load_agg (us := [.int _ _, .int _ _, .int _ _]) rfl rfl rfl rfl; exact rfl
            apply dq_g; exact g_move (s := .av _) rfl; exact rfl
            apply dq_g; exact g_move (s := .av (.val (.int _ _))) rfl; exact rfl
            apply dq_g; exact g_index rfl rfl rfl (by omega); exact rfl
            apply dq_g; exact g_load_agg (us := [.int _ _, .int _ _, .int _ _]) rfl rfl rfl rfl; exact rfl
            apply dq_g; exact g_move (s := .av _) rfl; exact rfl
            apply dq_g; exact g_move (s := .av (.val (.int _ _))) rfl; exact rfl
            apply dq_g; exact g_index rfl rfl rfl (by omega); exact rfl
            apply dq_g; exact g_load_agg (us := [.int _ _, .int _ _, .int _ _]) rfl rfl rfl rfl; exact rfl
            apply dq_g; exact g_call (hta) rfl; exact rfl
            apply dq_g; exact g_call (hz) rfl; exact rfl
            refine dq_nil tm (by kernel_rfl) ?_
            refine sq_then ?_
            refine cq_cond_f rfl ?_
            refine cq_skip ?_
            refine sq_then ?_
            refine cq_seq ?_
            refine cq_region ?_
            apply sq_g; exact g_move (s := .av (.val (.int _ _))) rfl; exact rfl
            apply sq_g; exact g_max rfl rfl; exact rfl
            apply sq_g; exact g_assign (s := .av (.val (.int _ _))) rfl; exact rfl
            refine sq_nil ?_
            refine sq_then ?_
            refine cq_seq ?_
            refine cq_region ?_
            apply sq_g; exact g_assign (s := .av (.val (.int _ _))) rfl; exact rfl
            refine sq_nil ?_
            refine sq_then ?_
            refine cq_block ?_
            generalize hR : (if q < 2 then (2 : Int) else q) = R at eC ⊢
            refine cq_loop (γ := Nat) (fun d => [(0, .av (ts l)), (3, .av (vi R)), (4, .av (vi a)), (5, .av (vi b)), (6, .av (vi c)), (7, .av (vi d))]) (fun _ => []) (fun d => d ≤ l.length ∧ ∀ d', d' < d → six (gt l a) (gt l b) (gt l c) (gt l d') = 0) (fun d => l.length - d) 0 ⟨Nat.zero_le _, by omega⟩ (ent ⟨.refl _, .int (by first | exact hR | rfl | omega), .refl _, .refl _, .refl _, .refl _, trivial⟩ trivial) ?_
            rintro d ⟨hdn, iD⟩
            refine cq_seq ?_
            refine cq_seq ?_
            refine cq_region ?_
            apply sq_g; exact g_move (s := .av (.val (.int _ _))) rfl; exact rfl
            apply sq_g; exact g_move (s := .av _) rfl; exact rfl
            apply sq_g; exact g_len rfl; exact rfl
            apply sq_g; exact g_cmp rfl rfl rfl; exact rfl
            refine sq_nil ?_
            refine sq_then ?_
            (refine cq_cond rfl (fun hb => ?_) (fun hb => ?_) <;> (try simp only [decide_eq_true_eq, decide_eq_false_iff_not, beq_iff_eq, beq_eq_false_iff_ne, bne_iff_ne, bne_eq_false_iff_eq, ne_eq, Bool.not_eq_true', Bool.not_eq_false', Bool.and_eq_true, Bool.or_eq_true, Bool.and_eq_false_iff, Bool.or_eq_false_iff] at hb) <;> (try (exfalso; omega)))
            · have hdl : d < l.length := by omega
              have hsx := rsix_c (gt l a) (gt l b) (gt l c) (gt l d) (hl a) (hl b) (hl c) (hl d)
              generalize hS : six (gt l a) (gt l b) (gt l c) (gt l d) = s at hsx
              refine cq_skip ?_
              refine sq_then ?_
              refine cq_seq ?_
              refine cq_block ?_
              refine cq_seq ?_
              refine cq_drawn ?_
              apply dq_g; exact g_move (s := .av _) rfl; exact rfl
              apply dq_g; exact g_move (s := .av (.val (.int _ _))) rfl; exact rfl
              apply dq_g; exact g_index rfl rfl rfl (by omega); exact rfl
              apply dq_g; exact g_load_agg (us := [.int _ _, .int _ _, .int _ _]) rfl rfl rfl rfl; exact rfl
              apply dq_g; exact g_move (s := .av _) rfl; exact rfl
              apply dq_g; exact g_move (s := .av (.val (.int _ _))) rfl; exact rfl
              apply dq_g; exact g_index rfl rfl rfl (by omega); exact rfl
              apply dq_g; exact g_load_agg (us := [.int _ _, .int _ _, .int _ _]) rfl rfl rfl rfl; exact rfl
              apply dq_g; exact g_move (s := .av _) rfl; exact rfl
              apply dq_g; exact g_move (s := .av (.val (.int _ _))) rfl; exact rfl
              apply dq_g; exact g_index rfl rfl rfl (by omega); exact rfl
              apply dq_g; exact g_load_agg (us := [.int _ _, .int _ _, .int _ _]) rfl rfl rfl rfl; exact rfl
              apply dq_g; exact g_move (s := .av _) rfl; exact rfl
              apply dq_g; exact g_move (s := .av (.val (.int _ _))) rfl; exact rfl
              apply dq_g; exact g_index rfl rfl rfl (by omega); exact rfl
              apply dq_g; exact g_load_agg (us := [.int _ _, .int _ _, .int _ _]) rfl rfl rfl rfl; exact rfl
              apply dq_g; exact g_call (hsx) rfl; exact rfl
              apply dq_g; exact g_cmp rfl rfl rfl; exact rfl
              refine dq_nil tm (by kernel_rfl) ?_
              refine sq_then ?_
              (refine cq_cond rfl (fun hb => ?_) (fun hb => ?_) <;> (try simp only [decide_eq_true_eq, decide_eq_false_iff_not, beq_iff_eq, beq_eq_false_iff_ne, bne_iff_ne, bne_eq_false_iff_eq, ne_eq, Bool.not_eq_true', Bool.not_eq_false', Bool.and_eq_true, Bool.or_eq_true, Bool.and_eq_false_iff, Bool.or_eq_false_iff] at hb) <;> (try (exfalso; omega)))
              · rw [h3 ⟨a, hal, b, hba, c, hcb, d, hdl, by rw [hS]; exact hb⟩]
                refine cq_seq ?_
                refine cq_region ?_
                apply sq_g; exact g_assign (s := .av (.val (.int _ _))) rfl; exact rfl
                refine sq_nil ?_
                refine sq_then ?_
                refine cq_ret ?_
                refine sq_inBlock_ret ?_
                refine sq_then_ret ?_
                refine sq_then_ret ?_
                refine sq_inBlock_ret ?_
                refine sq_inBlock_ret ?_
                refine sq_then_ret ?_
                refine sq_then_ret ?_
                refine sq_inBlock_ret ?_
                refine sq_inBlock_ret ?_
                refine sq_then_ret ?_
                refine sq_then_ret ?_
                refine sq_inBlock_ret ?_
                refine sq_inBlock_ret ?_
                refine sq_then_ret ?_
                refine sq_then_ret ?_
                refine sq_inBlock_ret ?_
                refine sq_then_ret ?_
                exact sq_res1 rfl (.tmp rfl) rfl
              · have hs0 : s = 0 := by omega
                refine cq_skip ?_
                refine sq_then ?_
                refine cq_region ?_
                apply sq_g; exact g_move (s := .av (.val (.int _ _))) rfl; exact rfl
                apply sq_g; exact g_arith rfl rfl rfl (by omega); exact rfl
                apply sq_g; exact g_assign (s := .av (.val (.int _ _))) rfl; exact rfl
                refine sq_nil ?_
                exact sq_round (d + 1) ⟨by omega, fun d' hd' => by
                  by_cases e : d' = d
                  · subst e; omega
                  · exact iD d' (by omega)⟩ (by omega) (ent ⟨.refl _, .refl _, .refl _, .refl _, .refl _, .int (by omega), trivial⟩ trivial)
            · have hdl : d = l.length := by omega
              subst hdl
              refine cq_exit ?_
              refine sq_then ?_
              refine cq_region ?_
              apply sq_g; exact g_move (s := .av (.val (.int _ _))) rfl; exact rfl
              apply sq_g; exact g_arith rfl rfl rfl (by omega); exact rfl
              apply sq_g; exact g_assign (s := .av (.val (.int _ _))) rfl; exact rfl
              refine sq_nil ?_
              exact sq_round (c + 1) ⟨by omega, fun c' hc' d hd => by
                by_cases e : c' = c
                · subst e; exact iD d hd
                · exact iC c' (by omega) d hd⟩ (by omega) (ent ⟨.refl _, .int (by rw [eC]), .refl _, .refl _, .int (by omega), trivial⟩ trivial)
        · have hcb : c = b := by omega
          subst hcb
          refine cq_exit ?_
          refine sq_then ?_
          refine cq_region ?_
          apply sq_g; exact g_move (s := .av (.val (.int _ _))) rfl; exact rfl
          apply sq_g; exact g_arith rfl rfl rfl (by omega); exact rfl
          apply sq_g; exact g_assign (s := .av (.val (.int _ _))) rfl; exact rfl
          refine sq_nil ?_
          exact sq_round (c + 1) ⟨by omega, fun b' hb' c' hc d hd => by
            by_cases e : b' = c
            · subst e; exact iC c' hc d hd
            · exact iB b' (by omega) c' hc d hd⟩ (by omega) (ent ⟨.refl _, .int (by rw [eB]), .refl _, .int (by omega), trivial⟩ trivial)
    · have hba : b = a := by omega
      subst hba
      refine cq_exit ?_
      refine sq_then ?_
      refine cq_region ?_
      apply sq_g; exact g_move (s := .av (.val (.int _ _))) rfl; exact rfl
      apply sq_g; exact g_arith rfl rfl rfl (by omega); exact rfl
      apply sq_g; exact g_assign (s := .av (.val (.int _ _))) rfl; exact rfl
      refine sq_nil ?_
      exact sq_round (b + 1) ⟨by omega, fun a' ha' b' hb' c hc d hd => by
        by_cases e : a' = b
        · subst e; exact iB b' hb' c hc d hd
        · exact iA a' (by omega) b' hb' c hc d hd⟩ (by omega) (ent ⟨.refl _, .int (by rw [eA]), .int (by omega), trivial⟩ trivial)
  · have hal : a = l.length := by omega
    subst hal
    rw [h2 (fun ⟨a, ha, b, hb, c, hc, d, hd, h⟩ => h (iA a ha b hb c hc d hd))]
    refine cq_exit ?_
    refine sq_then ?_
    refine cq_seq ?_
    refine cq_region ?_
    apply sq_g; exact g_move (s := .av (.val (.int _ _))) rfl; exact rfl
    apply sq_g; exact g_assign (s := .av (.val (.int _ _))) rfl; exact rfl
    refine sq_nil ?_
    refine sq_then ?_
    refine cq_ret ?_
    exact sq_res1 rfl (.tmp rfl) rfl
end Go.Proofs.YtdoppiajbpmmkaaGreat
