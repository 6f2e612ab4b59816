/- A part of the proof that the law returns true at every input and that the input reads behind the call as it read before; this part states nothing of its own that needs a condition of the input. -/
import Derived.Test.YtdoppiajbpmmkaaGreatY
import Derived.Test.YtdoppiajbpmmkaaGreatKd
set_option linter.unusedVariables false
set_option linter.unusedSimpArgs false
set_option linter.unnecessarySimpa false
namespace Go.Vc
open Go Go.RowKit
variable {P : Program} {E : Env} {T : Tab} {O : Own} {d : Option Tmp} {ty : TypeId} {pos : String} {af : Array Edge} {g : Option (Nat × Bool)}
theorem run_append0 {t e : TypeId} {sz : Nat} [ht : SlTy P t e sz] (w : World) (b p : Option Addr) (n c k : Nat) (hn : n ≤ c) : (Builtin.append_ #[t, t] ty #[.slice b n c, .slice p 0 k]).run P w = .ok (.slice b n c) w := by
  cases p with
  | none =>
    cases b with
    | none => simp [Builtin.append_, run_underlying ht.und, ht.size, Builtin.lenOf, Builtin.firstCells, hn]
    | some a => simp [Builtin.append_, run_underlying ht.und, ht.size, Builtin.lenOf, Builtin.firstCells, hn, storeCells]
  | some q =>
    have hl := run_loadCells_list (P := P) (w := w) q [] (fun j u h => by simp at h)
    simp only [List.length_nil] at hl
    cases b with
    | none => simp [Builtin.append_, run_underlying ht.und, ht.size, Builtin.lenOf, Builtin.firstCells, hn, hl]
    | some a => simp [Builtin.append_, run_underlying ht.und, ht.size, Builtin.lenOf, Builtin.firstCells, hn, hl, storeCells]
/-- Nothing appended: the row as it is. -/
theorem g_append0 {t e : TypeId} {x y : Operand} {r n m sz : Nat} {f h : Nat → Nat → AV} [ht : SlTy P t e sz] (hx : T.ev x = .osl r) (hr : look O r = some (.row e sz n f)) (hy : T.ev y = .av (.sl m sz h)) (hm : m = 0) :
    GV P E ⟨d, .call ⟨.builtin .append, #[x, y], #[t, t]⟩, ty, pos, af, g⟩ T O (.osl r) [r] [] :=
  gv_pure [r] fun Z ν a w hh hO => by
    subst hm
    have hvx := osl_ok hx (hh x (by simp [Op.operands, Call.operands]))
    obtain ⟨p, c, hvy, hmc, hcm, hcells⟩ := sl_ok hy (hh y (by simp [Op.operands, Call.operands]))
    have hrow := hO r (by simp) _ hr
    have hf : ∃ b m k, ν r = .slice b m k ∧ m ≤ k := by
      rcases hrow with ⟨h1, _⟩ | ⟨b, cap, arr, h1, _, _, _, h5, _⟩
      · exact ⟨_, _, _, h1, Nat.le_refl _⟩
      · exact ⟨_, _, _, h1, h5⟩
    obtain ⟨b, m, k, e1, e2⟩ := hf
    refine ⟨ν r, ?_, ?_⟩
    · simp only [execOp, resolve, invoke, builtin, Sem.run_bind, Sem.run_pure, Result.andThen_ok, List.map_toArray, List.map_cons, List.map_nil, hvx, hvy, e1, run_append0 w b p m k c e2]
    · have := hh x (by simp [Op.operands, Call.operands])
      rw [hx] at this
      rw [← hvx]; exact this
theorem ALe.sl' {n n' sz : Nat} {f f' : Nat → Nat → AV} (hn : n = n') (h : ∀ i, i < n → ∀ j, j < sz → f i j = f' i j) : ALe (.sl n sz f) (.sl n' sz f') := by
  subst hn
  exact ALe.sl fun i hi j hj => ALe.of_eq (h i hi j hj)
end Go.Vc
namespace Go.Proofs.YtdoppiajbpmmkaaGreat
open Go Go.Vc Go.RowKit
set_option maxHeartbeats 8000000
/-! KDQ -/
theorem rzero_c (p : Tr) : CtrA Tryz.prog 78 [tp p] (vb (decide (p = tz))) := by
  refine ctrA _ Tryz.func78 rfl rfl Tryz.ntmps78 rfl fun w Z => ?_
  have e : decide (p = tz) = (decide (p.x = 0) && decide (p.y = 0) && decide (p.z = 0)) := by
    cases p; rw [Bool.eq_iff_iff]; simp [tz, and_assoc]
  rw [e]
  simp only [initT, List.map_cons, List.map_nil, Nat.zero_add, Nat.reduceAdd]
  focus
    refine cq_seq ?_
    refine cq_region ?_
    apply sq_g; exact g_box_agg rfl; exact rfl
    apply sq_g; exact g_assign (s := .av (.val (.bool _))) rfl; exact rfl
    refine sq_nil ?_
    refine sq_then ?_
    refine cq_seq ?_
    refine cq_region ?_
    apply sq_g; exact g_field rfl; exact rfl
    apply sq_g; exact g_load (τ := .val (.int _ _)) rfl rfl rfl; exact rfl
    apply sq_g; exact g_cmp rfl rfl rfl; exact rfl
    apply sq_g; exact g_move (s := .av (.val (.bool _))) rfl; exact rfl
    refine sq_split rfl rfl (fun hb => ?_) (fun hb => ?_) <;> (try simp only [decide_eq_true_eq, decide_eq_false_iff_not, beq_iff_eq, beq_eq_false_iff_ne, bne_iff_ne, bne_eq_false_iff_eq, ne_eq, Bool.not_eq_true', Bool.not_eq_false', Bool.and_eq_true, Bool.or_eq_true, Bool.and_eq_false_iff, Bool.or_eq_false_iff] at hb) <;> (try (exfalso; omega))
    apply sq_on; exact g_field rfl; exact rfl; exact rfl; exact rfl
    apply sq_on; exact g_load (τ := .val (.int _ _)) rfl rfl rfl; exact rfl; exact rfl; exact rfl
    apply sq_on; exact g_cmp rfl rfl rfl; exact rfl; exact rfl; exact rfl
    apply sq_g; exact g_pick (s := .av (.val (.bool _))) rfl rfl; exact rfl
    apply sq_g; exact g_move (s := .av (.val (.bool _))) rfl; exact rfl
    refine sq_split rfl rfl (fun hb => ?_) (fun hb => ?_) <;> (try simp only [decide_eq_true_eq, decide_eq_false_iff_not, beq_iff_eq, beq_eq_false_iff_ne, bne_iff_ne, bne_eq_false_iff_eq, ne_eq, Bool.not_eq_true', Bool.not_eq_false', Bool.and_eq_true, Bool.or_eq_true, Bool.and_eq_false_iff, Bool.or_eq_false_iff] at hb) <;> (try (exfalso; omega))
    apply sq_on; exact g_field rfl; exact rfl; exact rfl; exact rfl
    apply sq_on; exact g_load (τ := .val (.int _ _)) rfl rfl rfl; exact rfl; exact rfl; exact rfl
    apply sq_on; exact g_cmp rfl rfl rfl; exact rfl; exact rfl; exact rfl
    apply sq_g; exact g_pick (s := .av (.val (.bool _))) rfl rfl; exact rfl
    apply sq_g; exact g_assign (s := .av (.val (.bool _))) rfl; exact rfl
    refine sq_nil ?_
    refine sq_then ?_
    refine cq_ret ?_
    rotate_left
    refine sq_off rfl rfl rfl rfl ?_
    refine sq_off rfl rfl rfl rfl ?_
    refine sq_off rfl rfl rfl rfl ?_
    apply sq_g; exact g_pick (s := .av (.val (.bool _))) rfl rfl; exact rfl
    apply sq_g; exact g_assign (s := .av (.val (.bool _))) rfl; exact rfl
    refine sq_nil ?_
    refine sq_then ?_
    refine cq_ret ?_
    rotate_left
    refine sq_off rfl rfl rfl rfl ?_
    refine sq_off rfl rfl rfl rfl ?_
    refine sq_off rfl rfl rfl rfl ?_
    apply sq_g; exact g_pick (s := .av (.val (.bool _))) rfl rfl; exact rfl
    apply sq_g; exact g_move (s := .av (.val (.bool _))) rfl; exact rfl
    refine sq_off rfl rfl rfl rfl ?_
    refine sq_off rfl rfl rfl rfl ?_
    refine sq_off rfl rfl rfl rfl ?_
    apply sq_g; exact g_pick (s := .av (.val (.bool _))) rfl rfl; exact rfl
    apply sq_g; exact g_assign (s := .av (.val (.bool _))) rfl; exact rfl
    refine sq_nil ?_
    refine sq_then ?_
    refine cq_ret ?_
    rotate_left
  all_goals (refine sq_res1 rfl (.tmp rfl) (congrArg vb ?_); (try simp only [beq_iff_eq, Bool.beq_eq_decide_eq] at *); simp [*])
theorem rless_c (a b : Tr) (h1 : BT 1000000000000 a) (h2 : BT 1000000000000 b) : CtrA Tryz.prog 108 [tp a, tp b] (tp (tsub a b)) := by
  refine ctrA _ Tryz.func108 rfl rfl Tryz.ntmps108 rfl fun w Z => ?_
  obtain ⟨⟨_, _⟩, ⟨_, _⟩, ⟨_, _⟩⟩ := h1
  obtain ⟨⟨_, _⟩, ⟨_, _⟩, ⟨_, _⟩⟩ := h2
  simp only [initT, List.map_cons, List.map_nil, Nat.zero_add, Nat.reduceAdd]
  refine cq_seq ?_
  refine cq_region ?_
  apply sq_g; exact g_box_agg rfl; exact rfl
  apply sq_g; exact g_box_agg rfl; exact rfl
  refine sq_v (f_alloc 10 rfl) rfl ?_
  refine sq_nil ?_
  refine sq_then ?_
  refine cq_seq ?_
  refine cq_region ?_
  apply sq_g; exact g_field rfl; exact rfl
  apply sq_g; exact g_load (τ := .val (.int _ _)) rfl rfl rfl; exact rfl
  apply sq_g; exact g_field rfl; exact rfl
  apply sq_g; exact g_load (τ := .val (.int _ _)) rfl rfl rfl; exact rfl
  apply sq_g; exact g_arith rfl rfl rfl (by omega); exact rfl
  apply sq_g; exact g_field rfl; exact rfl
  apply sq_g; exact g_load (τ := .val (.int _ _)) rfl rfl rfl; exact rfl
  apply sq_g; exact g_field rfl; exact rfl
  apply sq_g; exact g_load (τ := .val (.int _ _)) rfl rfl rfl; exact rfl
  apply sq_g; exact g_arith rfl rfl rfl (by omega); exact rfl
  apply sq_g; exact g_field rfl; exact rfl
  apply sq_g; exact g_load (τ := .val (.int _ _)) rfl rfl rfl; exact rfl
  apply sq_g; exact g_field rfl; exact rfl
  apply sq_g; exact g_load (τ := .val (.int _ _)) rfl rfl rfl; exact rfl
  apply sq_g; exact g_arith rfl rfl rfl (by omega); exact rfl
  apply sq_g; exact g_build (is := [0, 1, 2]) (xs := [_, _, _]) (vs := [_, _, _]) (tb67 _ _ _) rfl rfl; exact rfl
  refine sq_s (g_store_agg rfl rfl rfl rfl rfl rfl) ?_
  refine sq_nil ?_
  refine sq_then ?_
  refine cq_ret ?_
  exact sq_res1 rfl (.agg (us := [_, _, _]) rfl rfl rfl rfl) rfl
theorem rtspace_c (a b : Tr) {A B : Int} (h1 : BT A a) (h2 : BT B b) (hab : A * B ≤ 1000000000000000000) : CtrA Tryz.prog 109 [tp a, tp b] (vi (tdot a b)) := by
  refine ctrA _ Tryz.func109 rfl rfl Tryz.ntmps109 rfl fun w Z => ?_
  obtain ⟨m1, n1⟩ := bn_mul h1.x h2.x
  obtain ⟨m2, n2⟩ := bn_mul h1.y h2.y
  obtain ⟨m3, n3⟩ := bn_mul h1.z h2.z
  simp only [initT, List.map_cons, List.map_nil, Nat.zero_add, Nat.reduceAdd]
  refine cq_seq ?_
  refine cq_region ?_
  apply sq_g; exact g_box_agg rfl; exact rfl
  apply sq_g; exact g_box_agg rfl; exact rfl
  apply sq_g; exact g_assign (s := .av (.val (.int _ _))) rfl; exact rfl
  refine sq_nil ?_
  refine sq_then ?_
  refine cq_seq ?_
  refine cq_region ?_
  apply sq_g; exact g_field rfl; exact rfl
  apply sq_g; exact g_load (τ := .val (.int _ _)) rfl rfl rfl; exact rfl
  apply sq_g; exact g_field rfl; exact rfl
  apply sq_g; exact g_load (τ := .val (.int _ _)) rfl rfl rfl; exact rfl
  apply sq_g; exact g_arith rfl rfl rfl (by omega); exact rfl
  apply sq_g; exact g_field rfl; exact rfl
  apply sq_g; exact g_load (τ := .val (.int _ _)) rfl rfl rfl; exact rfl
  apply sq_g; exact g_field rfl; exact rfl
  apply sq_g; exact g_load (τ := .val (.int _ _)) rfl rfl rfl; exact rfl
  apply sq_g; exact g_arith rfl rfl rfl (by omega); exact rfl
  apply sq_g; exact g_arith rfl rfl rfl (by omega); exact rfl
  apply sq_g; exact g_field rfl; exact rfl
  apply sq_g; exact g_load (τ := .val (.int _ _)) rfl rfl rfl; exact rfl
  apply sq_g; exact g_field rfl; exact rfl
  apply sq_g; exact g_load (τ := .val (.int _ _)) rfl rfl rfl; exact rfl
  apply sq_g; exact g_arith rfl rfl rfl (by omega); exact rfl
  apply sq_g; exact g_arith rfl rfl rfl (by omega); exact rfl
  apply sq_g; exact g_assign (s := .av (.val (.int _ _))) rfl; exact rfl
  refine sq_nil ?_
  refine sq_then ?_
  refine cq_ret ?_
  exact sq_res1 rfl (.tmp rfl) rfl
theorem rvector_c (a b : Tr) {A B : Int} (h1 : BT A a) (h2 : BT B b) (hab : A * B ≤ 1000000000000000000) : CtrA Tryz.prog 107 [tp a, tp b] (tp (tcr a b)) := by
  refine ctrA _ Tryz.func107 rfl rfl Tryz.ntmps107 rfl fun w Z => ?_
  obtain ⟨m1, n1⟩ := bn_mul h1.y h2.z
  obtain ⟨m2, n2⟩ := bn_mul h1.z h2.y
  obtain ⟨m3, n3⟩ := bn_mul h1.z h2.x
  obtain ⟨m4, n4⟩ := bn_mul h1.x h2.z
  obtain ⟨m5, n5⟩ := bn_mul h1.x h2.y
  obtain ⟨m6, n6⟩ := bn_mul h1.y h2.x
  simp only [initT, List.map_cons, List.map_nil, Nat.zero_add, Nat.reduceAdd]
  refine cq_seq ?_
  refine cq_region ?_
  apply sq_g; exact g_box_agg rfl; exact rfl
  apply sq_g; exact g_box_agg rfl; exact rfl
  refine sq_v (f_alloc 10 rfl) rfl ?_
  refine sq_nil ?_
  refine sq_then ?_
  refine cq_seq ?_
  refine cq_region ?_
  apply sq_g; exact g_field rfl; exact rfl
  apply sq_g; exact g_load (τ := .val (.int _ _)) rfl rfl rfl; exact rfl
  apply sq_g; exact g_field rfl; exact rfl
  apply sq_g; exact g_load (τ := .val (.int _ _)) rfl rfl rfl; exact rfl
  apply sq_g; exact g_arith rfl rfl rfl (by omega); exact rfl
  apply sq_g; exact g_field rfl; exact rfl
  apply sq_g; exact g_load (τ := .val (.int _ _)) rfl rfl rfl; exact rfl
  apply sq_g; exact g_field rfl; exact rfl
  apply sq_g; exact g_load (τ := .val (.int _ _)) rfl rfl rfl; exact rfl
  apply sq_g; exact g_arith rfl rfl rfl (by omega); exact rfl
  apply sq_g; exact g_arith rfl rfl rfl (by omega); exact rfl
  apply sq_g; exact g_field rfl; exact rfl
  apply sq_g; exact g_load (τ := .val (.int _ _)) rfl rfl rfl; exact rfl
  apply sq_g; exact g_field rfl; exact rfl
  apply sq_g; exact g_load (τ := .val (.int _ _)) rfl rfl rfl; exact rfl
  apply sq_g; exact g_arith rfl rfl rfl (by omega); exact rfl
  apply sq_g; exact g_field rfl; exact rfl
  apply sq_g; exact g_load (τ := .val (.int _ _)) rfl rfl rfl; exact rfl
  apply sq_g; exact g_field rfl; exact rfl
  apply sq_g; exact g_load (τ := .val (.int _ _)) rfl rfl rfl; exact rfl
  apply sq_g; exact g_arith rfl rfl rfl (by omega); exact rfl
  apply sq_g; exact g_arith rfl rfl rfl (by omega); exact rfl
  apply sq_g; exact g_field rfl; exact rfl
  apply sq_g; exact g_load (τ := .val (.int _ _)) rfl rfl rfl; exact rfl
  apply sq_g; exact g_field rfl; exact rfl
  apply sq_g; exact g_load (τ := .val (.int _ _)) rfl rfl rfl; exact rfl
  apply sq_g; exact g_arith rfl rfl rfl (by omega); exact rfl
  apply sq_g; exact g_field rfl; exact rfl
  apply sq_g; exact g_load (τ := .val (.int _ _)) rfl rfl rfl; exact rfl
  apply sq_g; exact g_field rfl; exact rfl
  apply sq_g; exact g_load (τ := .val (.int _ _)) rfl rfl rfl; exact rfl
  apply sq_g; exact g_arith rfl rfl rfl (by omega); exact rfl
  apply sq_g; exact g_arith rfl rfl rfl (by omega); exact rfl
  apply sq_g; exact g_build (is := [0, 1, 2]) (xs := [_, _, _]) (vs := [_, _, _]) (tb67 _ _ _) rfl rfl; exact rfl
  refine sq_s (g_store_agg rfl rfl rfl rfl rfl rfl) ?_
  refine sq_nil ?_
  refine sq_then ?_
  refine cq_ret ?_
  exact sq_res1 rfl (.agg (us := [_, _, _]) rfl rfl rfl rfl) rfl
def tac (a b c : Tr) : Tr := tcr (tsub b a) (tsub c a)
def six (a b c d : Tr) : Int := tdot (tac a b c) (tsub d a)
theorem BT.ac {a b c : Tr} (h1 : BT 100000 a) (h2 : BT 100000 b) (h3 : BT 100000 c) : BT 80000000000 (tac a b c) := ((h2.sub h1).cr (h3.sub h1)).le (by decide)
theorem racross_c (a b c : Tr) (h1 : BT 100000 a) (h2 : BT 100000 b) (h3 : BT 100000 c) : CtrA Tryz.prog 79 [tp a, tp b, tp c] (tp (tac a b c)) := by
  refine ctrA _ Tryz.func79 rfl rfl Tryz.ntmps79 rfl fun w Z => ?_
  have e1 := rless_c b a (h2.le (by decide)) (h1.le (by decide))
  have e2 := rless_c c a (h3.le (by decide)) (h1.le (by decide))
  have e3 := rvector_c (tsub b a) (tsub c a) (h2.sub h1) (h3.sub h1) (by decide)
  simp only [initT, List.map_cons, List.map_nil, Nat.zero_add, Nat.reduceAdd]
  refine cq_seq ?_
  refine cq_region ?_
  apply sq_g; exact g_box_agg rfl; exact rfl
  apply sq_g; exact g_box_agg rfl; exact rfl
  apply sq_g; exact g_box_agg rfl; exact rfl
  refine sq_v (f_alloc 10 rfl) rfl ?_
  refine sq_nil ?_
  refine sq_then ?_
  refine cq_seq ?_
  refine cq_drawn ?_
  apply dq_g; exact g_load_agg (us := [.int _ _, .int _ _, .int _ _]) rfl rfl rfl rfl; exact rfl
  apply dq_g; exact g_load_agg (us := [.int _ _, .int _ _, .int _ _]) rfl rfl rfl rfl; exact rfl
  apply dq_g; exact g_call (e1) rfl; exact rfl
  apply dq_g; exact g_load_agg (us := [.int _ _, .int _ _, .int _ _]) rfl rfl rfl rfl; exact rfl
  apply dq_g; exact g_load_agg (us := [.int _ _, .int _ _, .int _ _]) rfl rfl rfl rfl; exact rfl
  apply dq_g; exact g_call (e2) rfl; exact rfl
  apply dq_g; exact g_call (e3) rfl; exact rfl
  refine dq_s (g_store_agg rfl rfl rfl rfl rfl rfl) ?_
  refine dq_nil tm (by kernel_rfl) ?_
  refine sq_then ?_
  refine cq_ret ?_
  exact sq_res1 rfl (.agg (us := [_, _, _]) rfl rfl rfl rfl) rfl
theorem rsix_c (a b c d : Tr) (h1 : BT 100000 a) (h2 : BT 100000 b) (h3 : BT 100000 c) (h4 : BT 100000 d) : CtrA Tryz.prog 80 [tp a, tp b, tp c, tp d] (vi (six a b c d)) := by
  refine ctrA _ Tryz.func80 rfl rfl Tryz.ntmps80 rfl fun w Z => ?_
  have e1 := racross_c a b c h1 h2 h3
  have e2 := rless_c d a (h4.le (by decide)) (h1.le (by decide))
  have e3 := rtspace_c (tac a b c) (tsub d a) (h1.ac h2 h3) (h4.sub h1) (by decide)
  simp only [initT, List.map_cons, List.map_nil, Nat.zero_add, Nat.reduceAdd]
  refine cq_seq ?_
  refine cq_region ?_
  apply sq_g; exact g_box_agg rfl; exact rfl
  apply sq_g; exact g_box_agg rfl; exact rfl
  apply sq_g; exact g_box_agg rfl; exact rfl
  apply sq_g; exact g_box_agg rfl; exact rfl
  apply sq_g; exact g_assign (s := .av (.val (.int _ _))) rfl; exact rfl
  refine sq_nil ?_
  refine sq_then ?_
  refine cq_seq ?_
  refine cq_drawn ?_
  apply dq_g; exact g_load_agg (us := [.int _ _, .int _ _, .int _ _]) rfl rfl rfl rfl; exact rfl
  apply dq_g; exact g_load_agg (us := [.int _ _, .int _ _, .int _ _]) rfl rfl rfl rfl; exact rfl
  apply dq_g; exact g_load_agg (us := [.int _ _, .int _ _, .int _ _]) rfl rfl rfl rfl; exact rfl
  apply dq_g; exact g_call (e1) rfl; exact rfl
  apply dq_g; exact g_load_agg (us := [.int _ _, .int _ _, .int _ _]) rfl rfl rfl rfl; exact rfl
  apply dq_g; exact g_load_agg (us := [.int _ _, .int _ _, .int _ _]) rfl rfl rfl rfl; exact rfl
  apply dq_g; exact g_call (e2) rfl; exact rfl
  apply dq_g; exact g_call (e3) rfl; exact rfl
  apply dq_g; exact g_assign (s := .av (.val (.int _ _))) rfl; exact rfl
  refine dq_nil tm (by kernel_rfl) ?_
  refine sq_then ?_
  refine cq_ret ?_
  exact sq_res1 rfl (.tmp rfl) rfl
theorem rshared_c (a b : Int) (h1 : Bn 1000000000000 a) (h2 : Bn 1000000000000 b) : CtrA Tryz.prog 110 [vi a, vi b] (vi ((Nat.gcd a.natAbs b.natAbs : Nat) : Int)) := by
  refine ctrA _ Tryz.func110 rfl rfl Tryz.ntmps110 rfl fun w Z => ?_
  obtain ⟨_, _⟩ := h1
  obtain ⟨_, _⟩ := h2
  simp only [initT, List.map_cons, List.map_nil, Nat.zero_add, Nat.reduceAdd]
  refine cq_seq ?_
  refine cq_region ?_
  apply sq_g; exact g_assign (s := .av (.val (.int _ _))) rfl; exact rfl
  refine sq_nil ?_
  refine sq_then ?_
  refine cq_seq ?_
  refine cq_region ?_
  apply sq_g; exact g_move (s := .av (.val (.int _ _))) rfl; exact rfl
  apply sq_g; exact g_move (s := .av (.val (.int _ _))) rfl; exact rfl
  apply sq_g; exact g_neg rfl (by omega); exact rfl
  apply sq_g; exact g_max rfl rfl; exact rfl
  apply sq_g; exact g_move (s := .av (.val (.int _ _))) rfl; exact rfl
  apply sq_g; exact g_move (s := .av (.val (.int _ _))) rfl; exact rfl
  apply sq_g; exact g_neg rfl (by omega); exact rfl
  apply sq_g; exact g_max rfl rfl; exact rfl
  apply sq_g; exact g_assign (s := .av (.val (.int _ _))) rfl; exact rfl
  apply sq_g; exact g_assign (s := .av (.val (.int _ _))) rfl; exact rfl
  refine sq_nil ?_
  refine sq_then ?_
  refine cq_seq ?_
  refine cq_block ?_
  refine cq_loop (γ := Nat × Nat) (fun g => [(0, .av (vi g.1)), (1, .av (vi g.2))]) (fun _ => []) (fun g => Nat.gcd g.1 g.2 = Nat.gcd a.natAbs b.natAbs ∧ g.1 ≤ 1000000000000 ∧ g.2 ≤ 1000000000000) (fun g => g.2) (a.natAbs, b.natAbs) ⟨rfl, by dsimp only; omega, by dsimp only; omega⟩ (ent ⟨.int (by dsimp only; split <;> omega), .int (by dsimp only; split <;> omega), trivial⟩ trivial) ?_
  rintro ⟨g, m⟩ ⟨hg, hg1, hm1⟩
  dsimp only at hg hg1 hm1 ⊢
  refine cq_seq ?_
  refine cq_seq ?_
  refine cq_region ?_
  apply sq_g; exact g_move (s := .av (.val (.int _ _))) rfl; exact rfl
  apply sq_g; exact g_cmp rfl rfl rfl; exact rfl
  refine sq_nil ?_
  refine sq_then ?_
  (refine cq_cond rfl (fun hb => ?_) (fun hb => ?_) <;> (try simp only [decide_eq_true_eq, decide_eq_false_iff_not, beq_iff_eq, beq_eq_false_iff_ne, bne_iff_ne, bne_eq_false_iff_eq, ne_eq, Bool.not_eq_true', Bool.not_eq_false', Bool.and_eq_true, Bool.or_eq_true, Bool.and_eq_false_iff, Bool.or_eq_false_iff] at hb) <;> (try (exfalso; omega)))
  · have hlt : g % m < m := Nat.mod_lt _ (by omega)
    refine cq_skip ?_
    refine sq_then ?_
    refine cq_block ?_
    refine cq_drawn ?_
    apply dq_g; exact g_move (s := .av (.val (.int _ _))) rfl; exact rfl
    apply dq_g; exact g_move (s := .av (.val (.int _ _))) rfl; exact rfl
    apply dq_g; exact g_move (s := .av (.val (.int _ _))) rfl; exact rfl
    apply dq_g; exact g_rem rfl rfl (by omega) (by omega); exact rfl
    apply dq_g; exact g_assign (s := .av (.val (.int _ _))) rfl; exact rfl
    apply dq_g; exact g_assign (s := .av (.val (.int _ _))) rfl; exact rfl
    refine dq_nil tm (by kernel_rfl) ?_
    refine sq_inBlock ?_
    exact sq_round (g := (g, m)) (m, g % m) ⟨by dsimp only; rw [← hg, Nat.gcd_comm g m, Nat.gcd_rec m g, Nat.gcd_comm], by dsimp only; omega, by dsimp only; omega⟩ hlt (ent ⟨.refl _, .int (by dsimp only; omega), trivial⟩ trivial)
  · have hm : m = 0 := by omega
    subst hm
    rw [Nat.gcd_zero_right] at hg
    subst hg
    refine cq_exit ?_
    refine sq_then ?_
    refine cq_seq ?_
    refine cq_region ?_
    apply sq_g; exact g_move (s := .av (.val (.int _ _))) rfl; exact rfl
    apply sq_g; exact g_assign (s := .av (.val (.int _ _))) rfl; exact rfl
    refine sq_nil ?_
    refine sq_then ?_
    refine cq_ret ?_
    exact sq_res1 rfl (.tmp rfl) rfl
theorem rprim_c (a : Tr) (h : BT 1000000000000 a) (h0 : a ≠ tz) : CtrA Tryz.prog 82 [tp a] (tp (tpr a)) := by
  refine ctrA _ Tryz.func82 rfl rfl Tryz.ntmps82 rfl fun w Z => ?_
  have hg : tg a ≠ 0 := by
    intro e
    apply h0
    obtain ⟨d1, d2, d3⟩ := tg_dvd a
    rw [e] at d1 d2 d3
    have := Nat.eq_zero_of_zero_dvd d1
    have := Nat.eq_zero_of_zero_dvd d2
    have := Nat.eq_zero_of_zero_dvd d3
    exact tr_ext (by show a.x = 0; omega) (by show a.y = 0; omega) (by show a.z = 0; omega)
  have e1 := rshared_c a.x a.y h.x h.y
  have hle : (Nat.gcd a.x.natAbs a.y.natAbs : Int) ≤ 1000000000000 := by
    have := tgs_le h 2 (by omega)
    have e : tgs a 2 = Nat.gcd (Nat.gcd 0 a.x.natAbs) a.y.natAbs := rfl
    rw [Nat.gcd_zero_left] at e
    rw [← e]; exact this
  have e2 := rshared_c ((Nat.gcd a.x.natAbs a.y.natAbs : Nat) : Int) a.z ⟨by omega, hle⟩ h.z
  have hG : Nat.gcd ((Nat.gcd a.x.natAbs a.y.natAbs : Nat) : Int).natAbs a.z.natAbs = tg a := by
    unfold tg; rw [Int.natAbs_natCast, Nat.gcd_zero_left]
  rw [hG] at e2
  have ht : tpr a = ⟨a.x.tdiv (tg a), a.y.tdiv (tg a), a.z.tdiv (tg a)⟩ := by unfold tpr; rw [if_neg hg]
  have hgl : (tg a : Int) ≤ 1000000000000 := tgs_le h 3 (by omega)
  rw [ht]
  generalize tg a = g at hg e2 hgl ⊢
  obtain ⟨⟨_, _⟩, ⟨_, _⟩, ⟨_, _⟩⟩ := h
  have hgp : (0 : Int) < g := by omega
  simp only [initT, List.map_cons, List.map_nil, Nat.zero_add, Nat.reduceAdd]
  refine cq_seq ?_
  refine cq_region ?_
  apply sq_g; exact g_box_agg rfl; exact rfl
  refine sq_v (f_alloc 10 rfl) rfl ?_
  refine sq_nil ?_
  refine sq_then ?_
  refine cq_seq ?_
  refine cq_drawn ?_
  apply dq_g; exact g_field rfl; exact rfl
  apply dq_g; exact g_load (τ := .val (.int _ _)) rfl rfl rfl; exact rfl
  apply dq_g; exact g_field rfl; exact rfl
  apply dq_g; exact g_load (τ := .val (.int _ _)) rfl rfl rfl; exact rfl
  apply dq_g; exact g_call (e1) rfl; exact rfl
  apply dq_g; exact g_field rfl; exact rfl
  apply dq_g; exact g_load (τ := .val (.int _ _)) rfl rfl rfl; exact rfl
  apply dq_g; exact g_call (e2) rfl; exact rfl
  apply dq_g; exact g_assign (s := .av (.val (.int _ _))) rfl; exact rfl
  refine dq_nil tm (by kernel_rfl) ?_
  refine sq_then ?_
  refine cq_seq ?_
  refine cq_drawn ?_
  apply dq_g; exact g_field rfl; exact rfl
  apply dq_g; exact g_load (τ := .val (.int _ _)) rfl rfl rfl; exact rfl
  apply dq_g; exact g_move (s := .av (.val (.int _ _))) rfl; exact rfl
  apply dq_g; exact g_quoT rfl rfl (by omega) (by omega); exact rfl
  apply dq_g; exact g_field rfl; exact rfl
  apply dq_g; exact g_load (τ := .val (.int _ _)) rfl rfl rfl; exact rfl
  apply dq_g; exact g_move (s := .av (.val (.int _ _))) rfl; exact rfl
  apply dq_g; exact g_quoT rfl rfl (by omega) (by omega); exact rfl
  apply dq_g; exact g_field rfl; exact rfl
  apply dq_g; exact g_load (τ := .val (.int _ _)) rfl rfl rfl; exact rfl
  apply dq_g; exact g_move (s := .av (.val (.int _ _))) rfl; exact rfl
  apply dq_g; exact g_quoT rfl rfl (by omega) (by omega); exact rfl
  apply dq_g; exact  g_build (is := [0, 1, 2]) (xs := [_, _, _]) (vs := [_, _, _]) (tb23i _ _ _) rfl rfl; exact rfl
  refine dq_s (g_store_agg rfl rfl rfl rfl rfl rfl) ?_
  refine dq_nil tm (by kernel_rfl) ?_
  refine sq_then ?_
  refine cq_ret ?_
  exact sq_res1 rfl (.agg (us := [_, _, _]) rfl rfl rfl rfl) rfl
end Go.Proofs.YtdoppiajbpmmkaaGreat
namespace Go.Proofs.YtdoppiajbpmmkaaGreat
open Go Go.Vc Go.RowKit
set_option maxHeartbeats 8000000
/-! KDQ -/
theorem rbelow_c (a b : Tr) : CtrA Tryz.prog 111 [tp a, tp b] (vb (decide (lexT a b))) := by
  refine ctrA _ Tryz.func111 rfl rfl Tryz.ntmps111 rfl fun w Z => ?_
  simp only [initT, List.map_cons, List.map_nil, Nat.zero_add, Nat.reduceAdd]
  refine cq_seq ?_
  refine cq_region ?_
  apply sq_g; exact g_box_agg rfl; exact rfl
  apply sq_g; exact g_box_agg rfl; exact rfl
  apply sq_g; exact g_assign (s := .av (.val (.bool _))) rfl; exact rfl
  refine sq_nil ?_
  refine sq_then ?_
  refine cq_seq ?_
  refine cq_seq ?_
  refine cq_region ?_
  apply sq_g; exact g_assign (s := .av (.val (.int _ _))) rfl; exact rfl
  refine sq_nil ?_
  refine sq_then ?_
  refine cq_block ?_
  refine cq_loop (γ := Nat) (fun k => [(2, .av (bt a)), (3, .av (bt b)), (5, .av (vi k))]) (fun _ => []) (fun k => k ≤ 3 ∧ (0 < k → a.x = b.x) ∧ (1 < k → a.y = b.y) ∧ (2 < k → a.z = b.z)) (fun k => 3 - k) 0 ⟨by omega, by omega, by omega, by omega⟩ (ent ⟨.refl _, .refl _, .refl _, trivial⟩ trivial) ?_
  rintro k ⟨hk, hx, hy, hz⟩
  rcases (by omega : k = 0 ∨ k = 1 ∨ k = 2 ∨ k = 3) with rfl | rfl | rfl | rfl
  · refine cq_seq ?_
    refine cq_seq ?_
    refine cq_region ?_
    apply sq_g; exact g_move (s := .av (.val (.int _ _))) rfl; exact rfl
    apply sq_g; exact g_cmp rfl rfl rfl; exact rfl
    refine sq_nil ?_
    refine sq_then ?_
    refine cq_cond_t rfl ?_
    refine cq_skip ?_
    refine sq_then ?_
    refine cq_seq ?_
    refine cq_block ?_
    refine cq_seq ?_
    refine cq_drawn ?_
    apply dq_g; exact g_move (s := .av (.val (.int _ _))) rfl; exact rfl
    apply dq_g; exact  g_index_arr (k := 0) rfl rfl rfl (by decide) rfl; exact rfl
    apply dq_g; exact g_load (τ := .val (.int _ _)) rfl rfl rfl; exact rfl
    apply dq_g; exact g_move (s := .av (.val (.int _ _))) rfl; exact rfl
    apply dq_g; exact  g_index_arr (k := 0) rfl rfl rfl (by decide) rfl; exact rfl
    apply dq_g; exact g_load (τ := .val (.int _ _)) rfl rfl rfl; exact rfl
    apply dq_g; exact g_cmp rfl rfl rfl; exact rfl
    refine dq_nil tm (by kernel_rfl) ?_
    refine sq_then ?_
    (refine cq_cond rfl (fun hb => ?_) (fun hb => ?_) <;> (try simp only [decide_eq_true_eq, decide_eq_false_iff_not, beq_iff_eq, beq_eq_false_iff_ne, bne_iff_ne, bne_eq_false_iff_eq, ne_eq, Bool.not_eq_true', Bool.not_eq_false', Bool.and_eq_true, Bool.or_eq_true, Bool.and_eq_false_iff, Bool.or_eq_false_iff] at hb) <;> (try (exfalso; omega)))
    · refine cq_seq ?_
      refine cq_drawn ?_
      apply dq_g; exact g_move (s := .av (.val (.int _ _))) rfl; exact rfl
      apply dq_g; exact  g_index_arr (k := 0) rfl rfl rfl (by decide) rfl; exact rfl
      apply dq_g; exact g_load (τ := .val (.int _ _)) rfl rfl rfl; exact rfl
      apply dq_g; exact g_move (s := .av (.val (.int _ _))) rfl; exact rfl
      apply dq_g; exact  g_index_arr (k := 0) rfl rfl rfl (by decide) rfl; exact rfl
      apply dq_g; exact g_load (τ := .val (.int _ _)) rfl rfl rfl; exact rfl
      apply dq_g; exact g_cmp rfl rfl rfl; exact rfl
      apply dq_g; exact g_assign (s := .av (.val (.bool _))) rfl; exact rfl
      refine dq_nil tm (by kernel_rfl) ?_
      refine sq_then ?_
      refine cq_ret ?_
      refine sq_inBlock_ret ?_
      refine sq_then_ret ?_
      refine sq_then_ret ?_
      refine sq_inBlock_ret ?_
      refine sq_then_ret ?_
      exact sq_res1 rfl (.tmp rfl) (congrArg vb (decide_eq_decide.2 (by unfold lexT; omega)))
    · refine cq_skip ?_
      refine sq_then ?_
      refine cq_region ?_
      apply sq_g; exact g_move (s := .av (.val (.int _ _))) rfl; exact rfl
      apply sq_g; exact g_arith rfl rfl rfl (by omega); exact rfl
      apply sq_g; exact g_assign (s := .av (.val (.int _ _))) rfl; exact rfl
      refine sq_nil ?_
      exact sq_round 1 ⟨by omega, by omega, by omega, by omega⟩ (by omega) (ent ⟨.refl _, .refl _, .int (by omega), trivial⟩ trivial)
  · refine cq_seq ?_
    refine cq_seq ?_
    refine cq_region ?_
    apply sq_g; exact g_move (s := .av (.val (.int _ _))) rfl; exact rfl
    apply sq_g; exact g_cmp rfl rfl rfl; exact rfl
    refine sq_nil ?_
    refine sq_then ?_
    refine cq_cond_t rfl ?_
    refine cq_skip ?_
    refine sq_then ?_
    refine cq_seq ?_
    refine cq_block ?_
    refine cq_seq ?_
    refine cq_drawn ?_
    apply dq_g; exact g_move (s := .av (.val (.int _ _))) rfl; exact rfl
    apply dq_g; exact  g_index_arr (k := 1) rfl rfl rfl (by decide) rfl; exact rfl
    apply dq_g; exact g_load (τ := .val (.int _ _)) rfl rfl rfl; exact rfl
    apply dq_g; exact g_move (s := .av (.val (.int _ _))) rfl; exact rfl
    apply dq_g; exact  g_index_arr (k := 1) rfl rfl rfl (by decide) rfl; exact rfl
    apply dq_g; exact g_load (τ := .val (.int _ _)) rfl rfl rfl; exact rfl
    apply dq_g; exact g_cmp rfl rfl rfl; exact rfl
    refine dq_nil tm (by kernel_rfl) ?_
    refine sq_then ?_
    (refine cq_cond rfl (fun hb => ?_) (fun hb => ?_) <;> (try simp only [decide_eq_true_eq, decide_eq_false_iff_not, beq_iff_eq, beq_eq_false_iff_ne, bne_iff_ne, bne_eq_false_iff_eq, ne_eq, Bool.not_eq_true', Bool.not_eq_false', Bool.and_eq_true, Bool.or_eq_true, Bool.and_eq_false_iff, Bool.or_eq_false_iff] at hb) <;> (try (exfalso; omega)))
    · refine cq_seq ?_
      refine cq_drawn ?_
      apply dq_g; exact g_move (s := .av (.val (.int _ _))) rfl; exact rfl
      apply dq_g; exact  g_index_arr (k := 1) rfl rfl rfl (by decide) rfl; exact rfl
      apply dq_g; exact g_load (τ := .val (.int _ _)) rfl rfl rfl; exact rfl
      apply dq_g; exact g_move (s := .av (.val (.int _ _))) rfl; exact rfl
      apply dq_g; exact  g_index_arr (k := 1) rfl rfl rfl (by decide) rfl; exact rfl
      apply dq_g; exact g_load (τ := .val (.int _ _)) rfl rfl rfl; exact rfl
      apply dq_g; exact g_cmp rfl rfl rfl; exact rfl
      apply dq_g; exact g_assign (s := .av (.val (.bool _))) rfl; exact rfl
      refine dq_nil tm (by kernel_rfl) ?_
      refine sq_then ?_
      refine cq_ret ?_
      refine sq_inBlock_ret ?_
      refine sq_then_ret ?_
      refine sq_then_ret ?_
      refine sq_inBlock_ret ?_
      refine sq_then_ret ?_
      exact sq_res1 rfl (.tmp rfl) (congrArg vb (decide_eq_decide.2 (by unfold lexT; omega)))
    · refine cq_skip ?_
      refine sq_then ?_
      refine cq_region ?_
      apply sq_g; exact g_move (s := .av (.val (.int _ _))) rfl; exact rfl
      apply sq_g; exact g_arith rfl rfl rfl (by omega); exact rfl
      apply sq_g; exact g_assign (s := .av (.val (.int _ _))) rfl; exact rfl
      refine sq_nil ?_
      exact sq_round 2 ⟨by omega, by omega, by omega, by omega⟩ (by omega) (ent ⟨.refl _, .refl _, .int (by omega), trivial⟩ trivial)
  · refine cq_seq ?_
    refine cq_seq ?_
    refine cq_region ?_
    apply sq_g; exact g_move (s := .av (.val (.int _ _))) rfl; exact rfl
    apply sq_g; exact g_cmp rfl rfl rfl; exact rfl
    refine sq_nil ?_
    refine sq_then ?_
    refine cq_cond_t rfl ?_
    refine cq_skip ?_
    refine sq_then ?_
    refine cq_seq ?_
    refine cq_block ?_
    refine cq_seq ?_
    refine cq_drawn ?_
    apply dq_g; exact g_move (s := .av (.val (.int _ _))) rfl; exact rfl
    apply dq_g; exact  g_index_arr (k := 2) rfl rfl rfl (by decide) rfl; exact rfl
    apply dq_g; exact g_load (τ := .val (.int _ _)) rfl rfl rfl; exact rfl
    apply dq_g; exact g_move (s := .av (.val (.int _ _))) rfl; exact rfl
    apply dq_g; exact  g_index_arr (k := 2) rfl rfl rfl (by decide) rfl; exact rfl
    apply dq_g; exact g_load (τ := .val (.int _ _)) rfl rfl rfl; exact rfl
    apply dq_g; exact g_cmp rfl rfl rfl; exact rfl
    refine dq_nil tm (by kernel_rfl) ?_
    refine sq_then ?_
    (refine cq_cond rfl (fun hb => ?_) (fun hb => ?_) <;> (try simp only [decide_eq_true_eq, decide_eq_false_iff_not, beq_iff_eq, beq_eq_false_iff_ne, bne_iff_ne, bne_eq_false_iff_eq, ne_eq, Bool.not_eq_true', Bool.not_eq_false', Bool.and_eq_true, Bool.or_eq_true, Bool.and_eq_false_iff, Bool.or_eq_false_iff] at hb) <;> (try (exfalso; omega)))
    · refine cq_seq ?_
      refine cq_drawn ?_
      apply dq_g; exact g_move (s := .av (.val (.int _ _))) rfl; exact rfl
      apply dq_g; exact  g_index_arr (k := 2) rfl rfl rfl (by decide) rfl; exact rfl
      apply dq_g; exact g_load (τ := .val (.int _ _)) rfl rfl rfl; exact rfl
      apply dq_g; exact g_move (s := .av (.val (.int _ _))) rfl; exact rfl
      apply dq_g; exact  g_index_arr (k := 2) rfl rfl rfl (by decide) rfl; exact rfl
      apply dq_g; exact g_load (τ := .val (.int _ _)) rfl rfl rfl; exact rfl
      apply dq_g; exact g_cmp rfl rfl rfl; exact rfl
      apply dq_g; exact g_assign (s := .av (.val (.bool _))) rfl; exact rfl
      refine dq_nil tm (by kernel_rfl) ?_
      refine sq_then ?_
      refine cq_ret ?_
      refine sq_inBlock_ret ?_
      refine sq_then_ret ?_
      refine sq_then_ret ?_
      refine sq_inBlock_ret ?_
      refine sq_then_ret ?_
      exact sq_res1 rfl (.tmp rfl) (congrArg vb (decide_eq_decide.2 (by unfold lexT; omega)))
    · refine cq_skip ?_
      refine sq_then ?_
      refine cq_region ?_
      apply sq_g; exact g_move (s := .av (.val (.int _ _))) rfl; exact rfl
      apply sq_g; exact g_arith rfl rfl rfl (by omega); exact rfl
      apply sq_g; exact g_assign (s := .av (.val (.int _ _))) rfl; exact rfl
      refine sq_nil ?_
      exact sq_round 3 ⟨by omega, by omega, by omega, by omega⟩ (by omega) (ent ⟨.refl _, .refl _, .int (by omega), trivial⟩ trivial)
  · refine cq_seq ?_
    refine cq_seq ?_
    refine cq_region ?_
    apply sq_g; exact g_move (s := .av (.val (.int _ _))) rfl; exact rfl
    apply sq_g; exact g_cmp rfl rfl rfl; exact rfl
    refine sq_nil ?_
    refine sq_then ?_
    refine cq_cond_f rfl ?_
    refine cq_exit ?_
    refine sq_then ?_
    refine cq_seq ?_
    refine cq_region ?_
    apply sq_g; exact g_assign (s := .av (.val (.bool _))) rfl; exact rfl
    refine sq_nil ?_
    refine sq_then ?_
    refine cq_ret ?_
    exact sq_res1 rfl (.tmp rfl) (congrArg vb (decide_eq_false (by unfold lexT; omega)).symm)
theorem tq51 (a b c d e : Value) (w : World) : (Instr.buildSlice 51 1 ([0].zip [.agg [a, b, c, d, e].toArray]).toArray).run Tryz.prog w = .ok (.slice (some ⟨w.heap.size, 0, none⟩) 1 1) (w.alloc (.cells [a, b, c, d, e].toArray 58)) := by kernel_rfl
theorem mk51 (f : Fc) (Z : Zone) (w : World) (vs : List Value) (h : All2 (fun τ v => AV.ok Z w τ v) [fca f] vs) : ∃ cs : List Value, (Instr.buildSlice 51 1 ([0].zip vs).toArray).run Tryz.prog w = .ok (.slice (some ⟨w.heap.size, 0, none⟩) 1 1) (w.alloc (.cells cs.toArray 58)) ∧ ∀ i, i < 1 → ∀ j, j < 5 → ∃ u, cs[i * 5 + j]? = some u ∧ (ff [f] i j).ok Z w u := by
  match vs, h with
  | [x], ⟨hx, _⟩ =>
    obtain ⟨cs, e, h1, h2⟩ := hx
    subst e
    match cs, h1 with
    | [a, b, c, d, e], _ =>
      refine ⟨_, tq51 a b c d e w, fun i hi j hj => ?_⟩
      obtain rfl : i = 0 := by omega
      obtain ⟨u, hu, hk⟩ := h2 j hj
      exact ⟨u, by simpa using hu, hk⟩
end Go.Proofs.YtdoppiajbpmmkaaGreat
namespace Go.Proofs.YtdoppiajbpmmkaaGreat
open Go Go.Vc Go.RowKit
set_option maxHeartbeats 8000000
/-! KDQ -/
/-- A facet put into an ordered list. -/
def putF : List Fc → Fc → List Fc
  | [], f => [f]
  | g :: L, f => if lexT g.n f.n then g :: putF L f else if g.n = f.n then g :: L else f :: g :: L
theorem putF_at (f : Fc) : ∀ (L : List Fc) (k : Nat), k ≤ L.length → (∀ j, j < k → lexT (gf L j).n f.n) → (k < L.length → ¬ lexT (gf L k).n f.n) → putF L f = if k < L.length ∧ (gf L k).n = f.n then L else L.take k ++ f :: L.drop k
  | [], k, hk, _, _ => by
    have : k = 0 := by simpa using hk
    subst this
    rfl
  | g :: L, 0, _, _, h2 => by
    have h2 : ¬ lexT g.n f.n := h2 (by simp)
    unfold putF
    rw [if_neg h2]
    simp only [List.length_cons, Nat.zero_lt_succ, true_and, List.take_zero, List.drop_zero, List.nil_append]
    rfl
  | g :: L, k + 1, hk, h1, h2 => by
    have h0 : lexT g.n f.n := h1 0 (by omega)
    have ih := putF_at f L k (by simpa using hk) (fun j hj => h1 (j + 1) (by omega)) (fun hh => h2 (by simpa using hh))
    unfold putF
    rw [if_pos h0, ih]
    have e : gf (g :: L) (k + 1) = gf L k := rfl
    rw [e]
    simp only [List.length_cons, Nat.add_lt_add_iff_right, List.take_succ_cons, List.drop_succ_cons, List.cons_append]
    split <;> rfl
theorem gf_put (L : List Fc) (f : Fc) (k : Nat) (hk : k ≤ L.length) : ∀ i, i < L.length + 1 → gf (L.take k ++ f :: L.drop k) i = if i < k then gf L i else if i = k then f else gf L (i - 1) := by
  intro i hi
  have hl : (L.take k).length = k := by rw [List.length_take]; omega
  by_cases h : i < k
  · rw [if_pos h]
    unfold gf
    rw [List.getD, List.getD, List.getElem?_append_left (by omega), List.getElem?_take, if_pos h]
  · rw [if_neg h]
    by_cases h2 : i = k
    · subst h2
      rw [if_pos rfl]
      unfold gf
      rw [List.getD, List.getElem?_append_right (by omega), hl, Nat.sub_self]
      rfl
    · rw [if_neg h2]
      unfold gf
      rw [List.getD, List.getD, List.getElem?_append_right (by omega), hl, show i - k = (i - k - 1) + 1 from by omega, List.getElem?_cons_succ, List.getElem?_drop, show k + (i - k - 1) = i - 1 from by omega]
theorem bs51_0 (w : World) : (Instr.buildSlice 51 0 #[]).run Tryz.prog w = .ok (.slice (some ⟨w.heap.size, 0, none⟩) 0 0) (w.alloc (.cells #[] 58)) := by kernel_rfl
theorem le_mx {m : Nat} (h : m ≤ 5000000) : m ≤ maxLen := by simp only [maxLen]; omega
theorem put_c (L : List Fc) (f : Fc) (hn : L.length ≤ 1000) : CtrA Tryz.prog 83 [fs L, fca f] (fs (putF L f)) := by
  refine ctrA _ Tryz.func83 rfl rfl Tryz.ntmps83 rfl fun w Z => ?_
  simp only [initT, List.map_cons, List.map_nil, Nat.zero_add, Nat.reduceAdd]
  refine cq_seq ?_
  refine cq_region ?_
  apply sq_g; exact  g_box_aggv rfl; exact rfl
  apply sq_g; exact g_assign (s := .av _) rfl; exact rfl
  refine sq_nil ?_
  refine sq_then ?_
  refine cq_seq ?_
  refine cq_region ?_
  apply sq_g; exact g_assign (s := .av (.val (.int _ _))) rfl; exact rfl
  refine sq_nil ?_
  refine sq_then ?_
  refine cq_seq ?_
  refine cq_block ?_
  refine cq_loop (γ := Nat) (fun k => [(0, .av (fs L)), (3, .av (.ptr 5 (fcf f))), (4, .av nilA), (5, .av (vi k))]) (fun _ => []) (fun k => k ≤ L.length ∧ ∀ j, j < k → lexT (gf L j).n f.n) (fun k => L.length - k) 0 ⟨Nat.zero_le _, by omega⟩ (ent ⟨.refl _, .refl _, .refl _, .refl _, trivial⟩ trivial) ?_
  rintro k ⟨hk, hall⟩
  have hbl := rbelow_c (gf L k).n f.n
  by_cases hkl : k < L.length
  · by_cases hlt : lexT (gf L k).n f.n
    · rw [decide_eq_true hlt] at hbl
      refine cq_seq ?_
      refine cq_seq ?_
      refine cq_drawn ?_
      apply dq_g; exact g_move (s := .av (.val (.int _ _))) rfl; exact rfl
      apply dq_g; exact g_move (s := .av _) rfl; exact rfl
      apply dq_g; exact g_len rfl; exact rfl
      apply dq_g; exact g_cmp rfl rfl rfl; exact rfl
      apply dq_g; exact g_move (s := .av (.val (.bool _))) rfl; exact rfl
      refine dq_split rfl rfl (fun hb => ?_) (fun hb => ?_) <;> (try simp only [decide_eq_true_eq, decide_eq_false_iff_not, beq_iff_eq, beq_eq_false_iff_ne, bne_iff_ne, bne_eq_false_iff_eq, ne_eq, Bool.not_eq_true', Bool.not_eq_false', Bool.and_eq_true, Bool.or_eq_true, Bool.and_eq_false_iff, Bool.or_eq_false_iff] at hb) <;> (try (exfalso; omega))
      apply dq_on; exact g_move (s := .av _) rfl; exact rfl; exact rfl; exact rfl
      apply dq_on; exact g_move (s := .av (.val (.int _ _))) rfl; exact rfl; exact rfl; exact rfl
      apply dq_on; exact g_index rfl rfl rfl (by omega); exact rfl; exact rfl; exact rfl
      apply dq_on; exact g_field rfl; exact rfl; exact rfl; exact rfl
      apply dq_on; exact g_load_agg (us := [.int _ _, .int _ _, .int _ _]) rfl rfl rfl rfl; exact rfl; exact rfl; exact rfl
      apply dq_on; exact g_field rfl; exact rfl; exact rfl; exact rfl
      apply dq_on; exact g_load_agg (us := [.int _ _, .int _ _, .int _ _]) rfl rfl rfl rfl; exact rfl; exact rfl; exact rfl
      apply dq_on; exact g_call (hbl) rfl; exact rfl; exact rfl; exact rfl
      apply dq_g; exact g_pick (s := .av (.val (.bool _))) rfl rfl; exact rfl
      refine dq_nil tm (by kernel_rfl) ?_
      refine sq_then ?_
      refine cq_cond_t rfl ?_
      refine cq_skip ?_
      refine sq_then ?_
      refine cq_block ?_
      refine cq_region ?_
      apply sq_g; exact g_move (s := .av (.val (.int _ _))) rfl; exact rfl
      apply sq_g; exact g_arith rfl rfl rfl (by omega); exact rfl
      apply sq_g; exact g_assign (s := .av (.val (.int _ _))) rfl; exact rfl
      refine sq_nil ?_
      refine sq_inBlock ?_
      exact sq_round (k + 1) ⟨by omega, fun j hj => by
        by_cases e : j = k
        · subst e; exact hlt
        · exact hall j (by omega)⟩ (by omega) (ent ⟨.refl _, .refl _, .refl _, .int (by omega), trivial⟩ trivial)
    · rw [decide_eq_false hlt] at hbl
      have hp := putF_at f L k hk hall (fun _ => hlt)
      refine cq_seq ?_
      refine cq_seq ?_
      refine cq_drawn ?_
      apply dq_g; exact g_move (s := .av (.val (.int _ _))) rfl; exact rfl
      apply dq_g; exact g_move (s := .av _) rfl; exact rfl
      apply dq_g; exact g_len rfl; exact rfl
      apply dq_g; exact g_cmp rfl rfl rfl; exact rfl
      apply dq_g; exact g_move (s := .av (.val (.bool _))) rfl; exact rfl
      refine dq_split rfl rfl (fun hb => ?_) (fun hb => ?_) <;> (try simp only [decide_eq_true_eq, decide_eq_false_iff_not, beq_iff_eq, beq_eq_false_iff_ne, bne_iff_ne, bne_eq_false_iff_eq, ne_eq, Bool.not_eq_true', Bool.not_eq_false', Bool.and_eq_true, Bool.or_eq_true, Bool.and_eq_false_iff, Bool.or_eq_false_iff] at hb) <;> (try (exfalso; omega))
      apply dq_on; exact g_move (s := .av _) rfl; exact rfl; exact rfl; exact rfl
      apply dq_on; exact g_move (s := .av (.val (.int _ _))) rfl; exact rfl; exact rfl; exact rfl
      apply dq_on; exact g_index rfl rfl rfl (by omega); exact rfl; exact rfl; exact rfl
      apply dq_on; exact g_field rfl; exact rfl; exact rfl; exact rfl
      apply dq_on; exact g_load_agg (us := [.int _ _, .int _ _, .int _ _]) rfl rfl rfl rfl; exact rfl; exact rfl; exact rfl
      apply dq_on; exact g_field rfl; exact rfl; exact rfl; exact rfl
      apply dq_on; exact g_load_agg (us := [.int _ _, .int _ _, .int _ _]) rfl rfl rfl rfl; exact rfl; exact rfl; exact rfl
      apply dq_on; exact g_call (hbl) rfl; exact rfl; exact rfl; exact rfl
      apply dq_g; exact g_pick (s := .av (.val (.bool _))) rfl rfl; exact rfl
      refine dq_nil tm (by kernel_rfl) ?_
      refine sq_then ?_
      refine cq_cond_f rfl ?_
      refine cq_exit ?_
      refine sq_then ?_
      refine cq_seq ?_
      refine cq_seq ?_
      refine cq_drawn ?_
      apply dq_g; exact g_move (s := .av (.val (.int _ _))) rfl; exact rfl
      apply dq_g; exact g_move (s := .av _) rfl; exact rfl
      apply dq_g; exact g_len rfl; exact rfl
      apply dq_g; exact g_cmp rfl rfl rfl; exact rfl
      apply dq_g; exact g_move (s := .av (.val (.bool _))) rfl; exact rfl
      refine dq_split rfl rfl (fun hb => ?_) (fun hb => ?_) <;> (try simp only [decide_eq_true_eq, decide_eq_false_iff_not, beq_iff_eq, beq_eq_false_iff_ne, bne_iff_ne, bne_eq_false_iff_eq, ne_eq, Bool.not_eq_true', Bool.not_eq_false', Bool.and_eq_true, Bool.or_eq_true, Bool.and_eq_false_iff, Bool.or_eq_false_iff] at hb) <;> (try (exfalso; omega))
      apply dq_on; exact g_move (s := .av _) rfl; exact rfl; exact rfl; exact rfl
      apply dq_on; exact g_move (s := .av (.val (.int _ _))) rfl; exact rfl; exact rfl; exact rfl
      apply dq_on; exact g_index rfl rfl rfl (by omega); exact rfl; exact rfl; exact rfl
      apply dq_on; exact g_field rfl; exact rfl; exact rfl; exact rfl
      apply dq_on; exact g_load_agg (us := [.int _ _, .int _ _, .int _ _]) rfl rfl rfl rfl; exact rfl; exact rfl; exact rfl
      apply dq_on; exact g_field rfl; exact rfl; exact rfl; exact rfl
      apply dq_on; exact g_load_agg (us := [.int _ _, .int _ _, .int _ _]) rfl rfl rfl rfl; exact rfl; exact rfl; exact rfl
      apply dq_on; exact g_eql (xs := [_, _, _]) (ys := [_, _, _]) rfl rfl rfl rfl; exact rfl; exact rfl; exact rfl
      apply dq_g; exact g_pick (s := .av (.val (.bool _))) rfl rfl; exact rfl
      refine dq_nil tm (by kernel_rfl) ?_
      refine sq_then ?_
      (refine cq_cond rfl (fun hb => ?_) (fun hb => ?_) <;> (try simp only [decide_eq_true_eq, decide_eq_false_iff_not, beq_iff_eq, beq_eq_false_iff_ne, bne_iff_ne, bne_eq_false_iff_eq, ne_eq, Bool.not_eq_true', Bool.not_eq_false', Bool.and_eq_true, Bool.or_eq_true, Bool.and_eq_false_iff, Bool.or_eq_false_iff] at hb) <;> (try (exfalso; omega)))
      · have hbn := (nn_iff _ _).1 hb
        rw [if_pos ⟨hkl, hbn⟩] at hp
        rw [hp]
        refine cq_seq ?_
        refine cq_region ?_
        apply sq_g; exact g_move (s := .av _) rfl; exact rfl
        apply sq_g; exact g_assign (s := .av _) rfl; exact rfl
        refine sq_nil ?_
        refine sq_then ?_
        refine cq_ret ?_
        refine sq_then_ret ?_
        exact sq_res1 rfl (.tmp rfl) rfl
      · have hbn : ¬ (gf L k).n = f.n := fun e => hb ((nn_iff _ _).2 e)
        clear hb
        rw [if_neg (fun h => hbn h.2)] at hp
        have hrow := gf_put L f k hk
        rw [hp]
        have hLn : (L.take k ++ f :: L.drop k).length = L.length + 1 := by rw [List.length_append, List.length_take, List.length_cons, List.length_drop]; omega
        by_cases hk0 : k = 0
        · refine cq_skip ?_
          refine sq_then ?_
          refine cq_seq ?_
          refine cq_region ?_
          refine sq_v (f_bs0 (ff []) 70 bs51_0 rfl) rfl ?_
          apply sq_g; exact g_move (s := .av _) rfl; exact rfl
          apply sq_g; exact g_move (s := .av (.val (.int _ _))) rfl; exact rfl
          apply sq_g; exact  g_slice (lo := none) (hi := some (.tmp 40)) (l := 0) (h := k) rfl rfl ⟨_, _, rfl, rfl⟩ (by omega) (by omega); exact rfl
          apply sq_g; exact  g_append0 rfl rfl rfl (by omega); exact rfl
          apply sq_g; exact g_assign (s := .osl _) rfl; exact rfl
          refine sq_nil ?_
          refine sq_then ?_
          refine cq_seq ?_
          refine cq_region ?_
          apply sq_g; exact g_move (s := .osl _) rfl; exact rfl
          apply sq_g; exact  g_load_aggv (f := fcf f) rfl rfl; exact rfl
          apply sq_g; exact  g_bslice_gen (is := [0]) (xs := [_]) (τs := [_]) (row := ff [f]) rfl rfl (mk51 f) rfl; exact rfl
          refine sq_v (v_append rfl rfl rfl (fun i _ j hj => fcf_one _ j hj) (by omega) (le_mx (by omega)) (by omega)) rfl ?_
          apply sq_g; exact g_assign (s := .osl _) rfl; exact rfl
          refine sq_nil ?_
          refine sq_then ?_
          refine cq_seq ?_
          refine cq_region ?_
          apply sq_g; exact g_move (s := .osl _) rfl; exact rfl
          apply sq_g; exact g_move (s := .av _) rfl; exact rfl
          apply sq_g; exact g_move (s := .av (.val (.int _ _))) rfl; exact rfl
          apply sq_g; exact  g_slice (lo := some (.tmp 49)) (hi := none) (l := k) (h := L.length) rfl ⟨_, _, rfl, rfl⟩ rfl (by omega) (by omega); exact rfl
          refine sq_v (v_append rfl rfl rfl (fun i _ j hj => fcf_one _ j hj) (by omega) (le_mx (by omega)) (by omega)) rfl ?_
          apply sq_g; exact g_assign (s := .osl _) rfl; exact rfl
          refine sq_nil ?_
          refine sq_then ?_
          refine cq_ret ?_
          refine sq_ent (Ent.trans (ent_freeze 70 rfl) (ent_av 4 rfl (ALe.sl' (f' := ff (L.take k ++ f :: L.drop k)) (by rw [hLn]; omega) ?_))) (sq_res1 rfl (.tmp rfl) rfl)
          intro i hi j hj
          subst hk0
          have e1 := hrow i (by omega)
          unfold ff at *
          rw [e1]
          repeat unfold rowApp
          repeat' split
          all_goals (first | omega | exact congrArg (fun q => fcf (gf L q) j) (by omega) | exact congrArg (fun q => fcf (gf [f] q) j) (show _ = 0 from by omega) | rfl)
        · refine cq_skip ?_
          refine sq_then ?_
          refine cq_seq ?_
          refine cq_region ?_
          refine sq_v (f_bs0 (ff []) 70 bs51_0 rfl) rfl ?_
          apply sq_g; exact g_move (s := .av _) rfl; exact rfl
          apply sq_g; exact g_move (s := .av (.val (.int _ _))) rfl; exact rfl
          apply sq_g; exact  g_slice (lo := none) (hi := some (.tmp 40)) (l := 0) (h := k) rfl rfl ⟨_, _, rfl, rfl⟩ (by omega) (by omega); exact rfl
          refine sq_v (v_append rfl rfl rfl (fun i _ j hj => fcf_one _ j hj) (by omega) (le_mx (by omega)) (by omega)) rfl ?_
          apply sq_g; exact g_assign (s := .osl _) rfl; exact rfl
          refine sq_nil ?_
          refine sq_then ?_
          refine cq_seq ?_
          refine cq_region ?_
          apply sq_g; exact g_move (s := .osl _) rfl; exact rfl
          apply sq_g; exact  g_load_aggv (f := fcf f) rfl rfl; exact rfl
          apply sq_g; exact  g_bslice_gen (is := [0]) (xs := [_]) (τs := [_]) (row := ff [f]) rfl rfl (mk51 f) rfl; exact rfl
          refine sq_v (v_append rfl rfl rfl (fun i _ j hj => fcf_one _ j hj) (by omega) (le_mx (by omega)) (by omega)) rfl ?_
          apply sq_g; exact g_assign (s := .osl _) rfl; exact rfl
          refine sq_nil ?_
          refine sq_then ?_
          refine cq_seq ?_
          refine cq_region ?_
          apply sq_g; exact g_move (s := .osl _) rfl; exact rfl
          apply sq_g; exact g_move (s := .av _) rfl; exact rfl
          apply sq_g; exact g_move (s := .av (.val (.int _ _))) rfl; exact rfl
          apply sq_g; exact  g_slice (lo := some (.tmp 49)) (hi := none) (l := k) (h := L.length) rfl ⟨_, _, rfl, rfl⟩ rfl (by omega) (by omega); exact rfl
          refine sq_v (v_append rfl rfl rfl (fun i _ j hj => fcf_one _ j hj) (by omega) (le_mx (by omega)) (by omega)) rfl ?_
          apply sq_g; exact g_assign (s := .osl _) rfl; exact rfl
          refine sq_nil ?_
          refine sq_then ?_
          refine cq_ret ?_
          refine sq_ent (Ent.trans (ent_freeze 70 rfl) (ent_av 4 rfl (ALe.sl' (f' := ff (L.take k ++ f :: L.drop k)) (by rw [hLn]; omega) ?_))) (sq_res1 rfl (.tmp rfl) rfl)
          intro i hi j hj
          have e1 := hrow i (by omega)
          unfold ff at *
          rw [e1]
          repeat unfold rowApp
          repeat' split
          all_goals (first | omega | exact congrArg (fun q => fcf (gf L q) j) (by omega) | exact congrArg (fun q => fcf (gf [f] q) j) (show _ = 0 from by omega) | rfl)
  · have hp := putF_at f L k hk hall (fun h => absurd h hkl)
    refine cq_seq ?_
    refine cq_seq ?_
    refine cq_drawn ?_
    apply dq_g; exact g_move (s := .av (.val (.int _ _))) rfl; exact rfl
    apply dq_g; exact g_move (s := .av _) rfl; exact rfl
    apply dq_g; exact g_len rfl; exact rfl
    apply dq_g; exact g_cmp rfl rfl rfl; exact rfl
    apply dq_g; exact g_move (s := .av (.val (.bool _))) rfl; exact rfl
    refine dq_split rfl rfl (fun hb => ?_) (fun hb => ?_) <;> (try simp only [decide_eq_true_eq, decide_eq_false_iff_not, beq_iff_eq, beq_eq_false_iff_ne, bne_iff_ne, bne_eq_false_iff_eq, ne_eq, Bool.not_eq_true', Bool.not_eq_false', Bool.and_eq_true, Bool.or_eq_true, Bool.and_eq_false_iff, Bool.or_eq_false_iff] at hb) <;> (try (exfalso; omega))
    refine dq_off nofun rfl rfl rfl rfl ?_
    refine dq_off nofun rfl rfl rfl rfl ?_
    refine dq_off nofun rfl rfl rfl rfl ?_
    refine dq_off nofun rfl rfl rfl rfl ?_
    refine dq_off nofun rfl rfl rfl rfl ?_
    refine dq_off nofun rfl rfl rfl rfl ?_
    refine dq_off nofun rfl rfl rfl rfl ?_
    refine dq_off nofun rfl rfl rfl rfl ?_
    apply dq_g; exact g_pick (s := .av (.val (.bool _))) rfl rfl; exact rfl
    refine dq_nil tm (by kernel_rfl) ?_
    refine sq_then ?_
    refine cq_cond_f rfl ?_
    refine cq_exit ?_
    refine sq_then ?_
    refine cq_seq ?_
    refine cq_seq ?_
    refine cq_drawn ?_
    apply dq_g; exact g_move (s := .av (.val (.int _ _))) rfl; exact rfl
    apply dq_g; exact g_move (s := .av _) rfl; exact rfl
    apply dq_g; exact g_len rfl; exact rfl
    apply dq_g; exact g_cmp rfl rfl rfl; exact rfl
    apply dq_g; exact g_move (s := .av (.val (.bool _))) rfl; exact rfl
    refine dq_split rfl rfl (fun hb => ?_) (fun hb => ?_) <;> (try simp only [decide_eq_true_eq, decide_eq_false_iff_not, beq_iff_eq, beq_eq_false_iff_ne, bne_iff_ne, bne_eq_false_iff_eq, ne_eq, Bool.not_eq_true', Bool.not_eq_false', Bool.and_eq_true, Bool.or_eq_true, Bool.and_eq_false_iff, Bool.or_eq_false_iff] at hb) <;> (try (exfalso; omega))
    refine dq_off nofun rfl rfl rfl rfl ?_
    refine dq_off nofun rfl rfl rfl rfl ?_
    refine dq_off nofun rfl rfl rfl rfl ?_
    refine dq_off nofun rfl rfl rfl rfl ?_
    refine dq_off nofun rfl rfl rfl rfl ?_
    refine dq_off nofun rfl rfl rfl rfl ?_
    refine dq_off nofun rfl rfl rfl rfl ?_
    refine dq_off nofun rfl rfl rfl rfl ?_
    apply dq_g; exact g_pick (s := .av (.val (.bool _))) rfl rfl; exact rfl
    refine dq_nil tm (by kernel_rfl) ?_
    refine sq_then ?_
    refine cq_cond_f rfl ?_
    refine cq_skip ?_
    refine sq_then ?_
    refine cq_seq ?_
    refine cq_region ?_
    rw [if_neg (fun h => hkl h.1)] at hp
    have hrow := gf_put L f k hk
    rw [hp]
    have hLn : (L.take k ++ f :: L.drop k).length = L.length + 1 := by rw [List.length_append, List.length_take, List.length_cons, List.length_drop]; omega
    by_cases hk0 : k = 0
    · refine sq_v (f_bs0 (ff []) 70 bs51_0 rfl) rfl ?_
      apply sq_g; exact g_move (s := .av _) rfl; exact rfl
      apply sq_g; exact g_move (s := .av (.val (.int _ _))) rfl; exact rfl
      apply sq_g; exact  g_slice (lo := none) (hi := some (.tmp 40)) (l := 0) (h := k) rfl rfl ⟨_, _, rfl, rfl⟩ (by omega) (by omega); exact rfl
      apply sq_g; exact  g_append0 rfl rfl rfl (by omega); exact rfl
      apply sq_g; exact g_assign (s := .osl _) rfl; exact rfl
      refine sq_nil ?_
      refine sq_then ?_
      refine cq_seq ?_
      refine cq_region ?_
      apply sq_g; exact g_move (s := .osl _) rfl; exact rfl
      apply sq_g; exact  g_load_aggv (f := fcf f) rfl rfl; exact rfl
      apply sq_g; exact  g_bslice_gen (is := [0]) (xs := [_]) (τs := [_]) (row := ff [f]) rfl rfl (mk51 f) rfl; exact rfl
      refine sq_v (v_append rfl rfl rfl (fun i _ j hj => fcf_one _ j hj) (by omega) (le_mx (by omega)) (by omega)) rfl ?_
      apply sq_g; exact g_assign (s := .osl _) rfl; exact rfl
      refine sq_nil ?_
      refine sq_then ?_
      refine cq_seq ?_
      refine cq_region ?_
      apply sq_g; exact g_move (s := .osl _) rfl; exact rfl
      apply sq_g; exact g_move (s := .av _) rfl; exact rfl
      apply sq_g; exact g_move (s := .av (.val (.int _ _))) rfl; exact rfl
      apply sq_g; exact  g_slice (lo := some (.tmp 49)) (hi := none) (l := k) (h := L.length) rfl ⟨_, _, rfl, rfl⟩ rfl (by omega) (by omega); exact rfl
      apply sq_g; exact  g_append0 rfl rfl rfl (by omega); exact rfl
      apply sq_g; exact g_assign (s := .osl _) rfl; exact rfl
      refine sq_nil ?_
      refine sq_then ?_
      refine cq_ret ?_
      refine sq_ent (Ent.trans (ent_freeze 70 rfl) (ent_av 4 rfl (ALe.sl' (f' := ff (L.take k ++ f :: L.drop k)) (by rw [hLn]; omega) ?_))) (sq_res1 rfl (.tmp rfl) rfl)
      intro i hi j hj
      subst hk0
      have e1 := hrow i (by omega)
      unfold ff at *
      rw [e1]
      repeat unfold rowApp
      repeat' split
      all_goals (first | omega | exact congrArg (fun q => fcf (gf L q) j) (by omega) | exact congrArg (fun q => fcf (gf [f] q) j) (show _ = 0 from by omega) | rfl)
    · refine sq_v (f_bs0 (ff []) 70 bs51_0 rfl) rfl ?_
      apply sq_g; exact g_move (s := .av _) rfl; exact rfl
      apply sq_g; exact g_move (s := .av (.val (.int _ _))) rfl; exact rfl
      apply sq_g; exact  g_slice (lo := none) (hi := some (.tmp 40)) (l := 0) (h := k) rfl rfl ⟨_, _, rfl, rfl⟩ (by omega) (by omega); exact rfl
      refine sq_v (v_append rfl rfl rfl (fun i _ j hj => fcf_one _ j hj) (by omega) (le_mx (by omega)) (by omega)) rfl ?_
      apply sq_g; exact g_assign (s := .osl _) rfl; exact rfl
      refine sq_nil ?_
      refine sq_then ?_
      refine cq_seq ?_
      refine cq_region ?_
      apply sq_g; exact g_move (s := .osl _) rfl; exact rfl
      apply sq_g; exact  g_load_aggv (f := fcf f) rfl rfl; exact rfl
      apply sq_g; exact  g_bslice_gen (is := [0]) (xs := [_]) (τs := [_]) (row := ff [f]) rfl rfl (mk51 f) rfl; exact rfl
      refine sq_v (v_append rfl rfl rfl (fun i _ j hj => fcf_one _ j hj) (by omega) (le_mx (by omega)) (by omega)) rfl ?_
      apply sq_g; exact g_assign (s := .osl _) rfl; exact rfl
      refine sq_nil ?_
      refine sq_then ?_
      refine cq_seq ?_
      refine cq_region ?_
      apply sq_g; exact g_move (s := .osl _) rfl; exact rfl
      apply sq_g; exact g_move (s := .av _) rfl; exact rfl
      apply sq_g; exact g_move (s := .av (.val (.int _ _))) rfl; exact rfl
      apply sq_g; exact  g_slice (lo := some (.tmp 49)) (hi := none) (l := k) (h := L.length) rfl ⟨_, _, rfl, rfl⟩ rfl (by omega) (by omega); exact rfl
      apply sq_g; exact  g_append0 rfl rfl rfl (by omega); exact rfl
      apply sq_g; exact g_assign (s := .osl _) rfl; exact rfl
      refine sq_nil ?_
      refine sq_then ?_
      refine cq_ret ?_
      refine sq_ent (Ent.trans (ent_freeze 70 rfl) (ent_av 4 rfl (ALe.sl' (f' := ff (L.take k ++ f :: L.drop k)) (by rw [hLn]; omega) ?_))) (sq_res1 rfl (.tmp rfl) rfl)
      intro i hi j hj
      have e1 := hrow i (by omega)
      unfold ff at *
      rw [e1]
      repeat unfold rowApp
      repeat' split
      all_goals (first | omega | exact congrArg (fun q => fcf (gf L q) j) (by omega) | exact congrArg (fun q => fcf (gf [f] q) j) (show _ = 0 from by omega) | rfl)
end Go.Proofs.YtdoppiajbpmmkaaGreat
namespace Go.Proofs.YtdoppiajbpmmkaaGreat
open Go Go.Vc Go.RowKit
set_option maxHeartbeats 8000000
/-! KDQ -/
def sStep (l : List Tr) (a b c : Nat) (X : List Fc) : List Fc :=
  if tac (gt l a) (gt l b) (gt l c) = tz then X else
  if supBest l (tpr (tac (gt l a) (gt l b) (gt l c))) = tdot (tpr (tac (gt l a) (gt l b) (gt l c))) (gt l a) then putF X ⟨tpr (tac (gt l a) (gt l b) (gt l c)), supBest l (tpr (tac (gt l a) (gt l b) (gt l c))), onTo l (tpr (tac (gt l a) (gt l b) (gt l c))) (supBest l (tpr (tac (gt l a) (gt l b) (gt l c)))) l.length⟩ else X
def sC (l : List Tr) (a b : Nat) (X : List Fc) : Nat → List Fc
  | 0 => X
  | c + 1 => sStep l a b c (sC l a b X c)
def sB (l : List Tr) (a : Nat) (X : List Fc) : Nat → List Fc
  | 0 => X
  | b + 1 => sC l a b (sB l a X b) l.length
def sA (l : List Tr) : Nat → List Fc
  | 0 => []
  | a + 1 => sB l a (sA l a) l.length
def sidesL (l : List Tr) : List Fc := sA l l.length
theorem putF_len : ∀ (L : List Fc) (f : Fc), (putF L f).length ≤ L.length + 1
  | [], _ => Nat.le_refl _
  | g :: L, f => by
    have := putF_len L f
    unfold putF
    split
    · simp; omega
    · split <;> simp
theorem sStep_len (l : List Tr) (a b c : Nat) (X : List Fc) : (sStep l a b c X).length ≤ X.length + 1 := by
  unfold sStep
  split
  · omega
  · split
    · exact putF_len _ _
    · omega
theorem sC_len (l : List Tr) (a b : Nat) (X : List Fc) : ∀ c, (sC l a b X c).length ≤ X.length + c
  | 0 => Nat.le_refl _
  | c + 1 => by have := sC_len l a b X c; have := sStep_len l a b c (sC l a b X c); unfold sC; omega
theorem sB_len (l : List Tr) (hn : l.length ≤ 6) (a : Nat) (X : List Fc) : ∀ b, (sB l a X b).length ≤ X.length + 6 * b
  | 0 => Nat.le_refl _
  | b + 1 => by have := sB_len l hn a X b; have := sC_len l a b (sB l a X b) l.length; unfold sB; omega
theorem sA_len (l : List Tr) (hn : l.length ≤ 6) : ∀ a, (sA l a).length ≤ 36 * a
  | 0 => Nat.le_refl _
  | a + 1 => by have := sA_len l hn a; have := sB_len l hn a (sA l a) l.length; unfold sA; omega
theorem tb58_012 (a b c m : Int) (p : Option Addr) (n k : Nat) : Tryz.prog.built 58 ([0, 1, 2].zip [.agg #[.int .i64 a, .int .i64 b, .int .i64 c], .int .i64 m, .slice p n k]) = some [Value.int .i64 a, .int .i64 b, .int .i64 c, .int .i64 m, .slice p n k].toArray := by kernel_rfl
theorem mk58 (f : Fc) (Z : Zone) (w : World) (vs : List Value) (h : All2 (fun τ v => AV.ok Z w τ v) [tp f.n, vi f.m, zs (natL f.s)] vs) : ∃ cs : List Value, Tryz.prog.built 58 ([0, 1, 2].zip vs) = some cs.toArray ∧ cs.length = 5 ∧ ∀ i, i < 5 → ∃ u, cs[i]? = some u ∧ (fcf f i).ok Z w u := by
  rw [show zs (natL f.s) = .sl f.s.length 1 (xf f.s) from by rw [xf_natL, zs, List.length_map]] at h
  match vs, h with
  | [a, m, s], ⟨h1, hm, h2, _⟩ =>
    have h1 : a = .agg #[.int .i64 f.n.x, .int .i64 f.n.y, .int .i64 f.n.z] := h1
    have hm : m = .int .i64 f.m := hm
    subst h1 hm
    obtain ⟨p, c, rfl, h3⟩ := id h2
    refine ⟨_, tb58_012 _ _ _ _ _ _ _, rfl, fun i hi => ?_⟩
    rcases (by omega : i = 0 ∨ i = 1 ∨ i = 2 ∨ i = 3 ∨ i = 4) with rfl | rfl | rfl | rfl | rfl
    · exact ⟨_, rfl, rfl⟩
    · exact ⟨_, rfl, rfl⟩
    · exact ⟨_, rfl, rfl⟩
    · exact ⟨_, rfl, rfl⟩
    · exact ⟨_, rfl, h2⟩
theorem sides_c (l : List Tr) (hl : RT l) (hn : l.length ≤ 6) : CtrA Tryz.prog 55 [ts l] (fs (sidesL l)) := by
  refine ctrA _ Tryz.func55 rfl rfl Tryz.ntmps55 rfl fun w Z => ?_
  have hAl := sA_len l hn
  simp only [initT, List.map_cons, List.map_nil, Nat.zero_add, Nat.reduceAdd]
  refine cq_seq ?_
  refine cq_region ?_
  apply sq_g; exact g_assign (s := .av _) rfl; exact rfl
  refine sq_nil ?_
  refine sq_then ?_
  refine cq_seq ?_
  refine cq_region ?_
  apply sq_g; exact g_assign (s := .av _) rfl; exact rfl
  refine sq_nil ?_
  refine sq_then ?_
  refine cq_seq ?_
  refine cq_seq ?_
  refine cq_region ?_
  apply sq_g; exact g_assign (s := .av (.val (.int _ _))) rfl; exact rfl
  refine sq_nil ?_
  refine sq_then ?_
  refine cq_block ?_
  refine cq_loop (γ := Nat) (fun a => [(0, .av (ts l)), (3, .av (fs (sA l a))), (4, .av (vi a))]) (fun _ => []) (fun a => a ≤ l.length) (fun a => l.length - a) 0 (Nat.zero_le _) (ent ⟨.refl _, fun Z ν w v h => ALe.nil Z w v h, .refl _, trivial⟩ trivial) ?_
  intro a ha
  refine cq_seq ?_
  refine cq_seq ?_
  refine cq_region ?_
  apply sq_g; exact g_move (s := .av (.val (.int _ _))) rfl; exact rfl
  apply sq_g; exact g_move (s := .av _) rfl; exact rfl
  apply sq_g; exact g_len rfl; exact rfl
  apply sq_g; exact g_cmp rfl rfl rfl; exact rfl
  refine sq_nil ?_
  refine sq_then ?_
  (refine cq_cond rfl (fun hb => ?_) (fun hb => ?_) <;> (try simp only [decide_eq_true_eq, decide_eq_false_iff_not, beq_iff_eq, beq_eq_false_iff_ne, bne_iff_ne, bne_eq_false_iff_eq, ne_eq, Bool.not_eq_true', Bool.not_eq_false', Bool.and_eq_true, Bool.or_eq_true, Bool.and_eq_false_iff, Bool.or_eq_false_iff] at hb) <;> (try (exfalso; omega)))
  · have hal : a < l.length := by omega
    have eA : sA l (a + 1) = sB l a (sA l a) l.length := rfl
    have hA1 := hAl a
    generalize sA l a = X at eA hA1 ⊢
    have hBl := sB_len l hn a X
    refine cq_skip ?_
    refine sq_then ?_
    refine cq_seq ?_
    refine cq_block ?_
    refine cq_seq ?_
    refine cq_region ?_
    apply sq_g; exact g_assign (s := .av (.val (.int _ _))) rfl; exact rfl
    refine sq_nil ?_
    refine sq_then ?_
    refine cq_block ?_
    refine cq_loop (γ := Nat) (fun b => [(0, .av (ts l)), (3, .av (fs (sB l a X b))), (4, .av (vi a)), (5, .av (vi b))]) (fun _ => []) (fun b => b ≤ l.length) (fun b => l.length - b) 0 (Nat.zero_le _) (ent ⟨.refl _, .refl _, .refl _, .refl _, trivial⟩ trivial) ?_
    intro b hbn
    refine cq_seq ?_
    refine cq_seq ?_
    refine cq_region ?_
    apply sq_g; exact g_move (s := .av (.val (.int _ _))) rfl; exact rfl
    apply sq_g; exact g_move (s := .av _) rfl; exact rfl
    apply sq_g; exact g_len rfl; exact rfl
    apply sq_g; exact g_cmp rfl rfl rfl; exact rfl
    refine sq_nil ?_
    refine sq_then ?_
    (refine cq_cond rfl (fun hb => ?_) (fun hb => ?_) <;> (try simp only [decide_eq_true_eq, decide_eq_false_iff_not, beq_iff_eq, beq_eq_false_iff_ne, bne_iff_ne, bne_eq_false_iff_eq, ne_eq, Bool.not_eq_true', Bool.not_eq_false', Bool.and_eq_true, Bool.or_eq_true, Bool.and_eq_false_iff, Bool.or_eq_false_iff] at hb) <;> (try (exfalso; omega)))
    · have hbl : b < l.length := by omega
      have eB : sB l a X (b + 1) = sC l a b (sB l a X b) l.length := rfl
      have hB1 := hBl b
      generalize sB l a X b = Y at eB hB1 ⊢
      have hCl := sC_len l a b Y
      refine cq_skip ?_
      refine sq_then ?_
      refine cq_seq ?_
      refine cq_block ?_
      refine cq_seq ?_
      refine cq_region ?_
      apply sq_g; exact g_assign (s := .av (.val (.int _ _))) rfl; exact rfl
      refine sq_nil ?_
      refine sq_then ?_
      refine cq_block ?_
      refine cq_loop (γ := Nat) (fun c => [(0, .av (ts l)), (3, .av (fs (sC l a b Y c))), (4, .av (vi a)), (5, .av (vi b)), (6, .av (vi c))]) (fun _ => []) (fun c => c ≤ l.length) (fun c => l.length - c) 0 (Nat.zero_le _) (ent ⟨.refl _, .refl _, .refl _, .refl _, .refl _, trivial⟩ trivial) ?_
      intro c hcn
      refine cq_seq ?_
      refine cq_seq ?_
      refine cq_region ?_
      apply sq_g; exact g_move (s := .av (.val (.int _ _))) rfl; exact rfl
      apply sq_g; exact g_move (s := .av _) rfl; exact rfl
      apply sq_g; exact g_len rfl; exact rfl
      apply sq_g; exact g_cmp rfl rfl rfl; exact rfl
      refine sq_nil ?_
      refine sq_then ?_
      (refine cq_cond rfl (fun hb => ?_) (fun hb => ?_) <;> (try simp only [decide_eq_true_eq, decide_eq_false_iff_not, beq_iff_eq, beq_eq_false_iff_ne, bne_iff_ne, bne_eq_false_iff_eq, ne_eq, Bool.not_eq_true', Bool.not_eq_false', Bool.and_eq_true, Bool.or_eq_true, Bool.and_eq_false_iff, Bool.or_eq_false_iff] at hb) <;> (try (exfalso; omega)))
      · have hcl : c < l.length := by omega
        have eC : sC l a b Y (c + 1) = sStep l a b c (sC l a b Y c) := rfl
        have hC1 := hCl c
        generalize sC l a b Y c = W at eC hC1 ⊢
        unfold sStep at eC
        have hta := racross_c (gt l a) (gt l b) (gt l c) (hl a) (hl b) (hl c)
        have hbt := (hl a).ac (hl b) (hl c)
        generalize tac (gt l a) (gt l b) (gt l c) = n at eC hta hbt
        have hz := rzero_c n
        by_cases hnz : n = tz
        · rw [decide_eq_true hnz] at hz
          rw [if_pos hnz] at eC
          refine cq_skip ?_
          refine sq_then ?_
          refine cq_seq ?_
          refine cq_block ?_
          refine cq_seq ?_
          refine cq_drawn ?_
          apply dq_g; exact g_move (s := .av _) rfl; exact rfl
          apply dq_g; exact g_move (s := .av (.val (.int _ _))) rfl; exact rfl
          apply dq_g; exact g_index rfl rfl rfl (by omega); exact rfl
          apply dq_g; exact g_load_agg (us := [.int _ _, .int _ _, .int _ _]) rfl rfl rfl rfl; exact rfl
          apply dq_g; exact g_move (s := .av _) rfl; exact rfl
          apply dq_g; exact g_move (s := .av (.val (.int _ _))) rfl; exact rfl
          apply dq_g; exact g_index rfl rfl rfl (by omega); exact rfl
          apply dq_g; exact g_load_agg (us := [.int _ _, .int _ _, .int _ _]) rfl rfl rfl rfl; exact rfl
          apply dq_g; exact g_move (s := .av _) rfl; exact rfl
          apply dq_g; exact g_move (s := .av (.val (.int _ _))) rfl; exact rfl
          apply dq_g; exact g_index rfl rfl rfl (by omega); exact rfl
          apply dq_g; exact g_load_agg (us := [.int _ _, .int _ _, .int _ _]) rfl rfl rfl rfl; exact rfl
          apply dq_g; exact g_call (hta) rfl; exact rfl
          refine dq_v (ga_alloc 10) rfl rfl ?_
          refine dq_s (g_store_agg rfl rfl rfl rfl rfl rfl) ?_
          refine dq_nil tm (by kernel_rfl) ?_
          refine sq_then ?_
          refine cq_seq ?_
          refine cq_seq ?_
          refine cq_region ?_
          apply sq_g; exact g_load_own_agg (us := [.int _ _, .int _ _, .int _ _]) rfl rfl rfl rfl; exact rfl
          apply sq_g; exact g_call (hz) rfl; exact rfl
          refine sq_nil ?_
          refine sq_then ?_
          refine cq_cond_t rfl ?_
          refine cq_exit ?_
          refine sq_then ?_
          refine cq_region ?_
          apply sq_g; exact g_move (s := .av (.val (.int _ _))) rfl; exact rfl
          apply sq_g; exact g_arith rfl rfl rfl (by omega); exact rfl
          apply sq_g; exact g_assign (s := .av (.val (.int _ _))) rfl; exact rfl
          refine sq_nil ?_
          exact sq_round (c + 1) (by omega) (by omega) (ent ⟨.refl _, (by rw [eC]; exact .refl _), .refl _, .refl _, .int (by omega), trivial⟩ trivial)
        · rw [decide_eq_false hnz] at hz
          rw [if_neg hnz] at eC
          have hpr := rprim_c n (hbt.le (by decide)) hnz
          have hpb := hbt.pr
          generalize tpr n = d at eC hpr hpb
          have hfar := far_c l d hl (hpb.le (by decide)) (by omega) (by omega)
          have htm := rtimes_c (gt l a) d (hl a) hpb (by decide)
          generalize supBest l d = m at eC hfar
          have hput := put_c W ⟨d, m, onTo l d m l.length⟩ (by omega)
          have hmk := mk58 ⟨d, m, onTo l d m l.length⟩
          generalize hS : onTo l d m l.length = S at eC hfar hput hmk
          refine cq_skip ?_
          refine sq_then ?_
          refine cq_seq ?_
          refine cq_block ?_
          refine cq_seq ?_
          refine cq_drawn ?_
          apply dq_g; exact g_move (s := .av _) rfl; exact rfl
          apply dq_g; exact g_move (s := .av (.val (.int _ _))) rfl; exact rfl
          apply dq_g; exact g_index rfl rfl rfl (by omega); exact rfl
          apply dq_g; exact g_load_agg (us := [.int _ _, .int _ _, .int _ _]) rfl rfl rfl rfl; exact rfl
          apply dq_g; exact g_move (s := .av _) rfl; exact rfl
          apply dq_g; exact g_move (s := .av (.val (.int _ _))) rfl; exact rfl
          apply dq_g; exact g_index rfl rfl rfl (by omega); exact rfl
          apply dq_g; exact g_load_agg (us := [.int _ _, .int _ _, .int _ _]) rfl rfl rfl rfl; exact rfl
          apply dq_g; exact g_move (s := .av _) rfl; exact rfl
          apply dq_g; exact g_move (s := .av (.val (.int _ _))) rfl; exact rfl
          apply dq_g; exact g_index rfl rfl rfl (by omega); exact rfl
          apply dq_g; exact g_load_agg (us := [.int _ _, .int _ _, .int _ _]) rfl rfl rfl rfl; exact rfl
          apply dq_g; exact g_call (hta) rfl; exact rfl
          refine dq_v (ga_alloc 10) rfl rfl ?_
          refine dq_s (g_store_agg rfl rfl rfl rfl rfl rfl) ?_
          refine dq_nil tm (by kernel_rfl) ?_
          refine sq_then ?_
          refine cq_seq ?_
          refine cq_seq ?_
          refine cq_region ?_
          apply sq_g; exact g_load_own_agg (us := [.int _ _, .int _ _, .int _ _]) rfl rfl rfl rfl; exact rfl
          apply sq_g; exact g_call (hz) rfl; exact rfl
          refine sq_nil ?_
          refine sq_then ?_
          refine cq_cond_f rfl ?_
          refine cq_skip ?_
          refine sq_then ?_
          refine cq_seq ?_
          refine cq_region ?_
          apply sq_g; exact g_load_own_agg (us := [.int _ _, .int _ _, .int _ _]) rfl rfl rfl rfl; exact rfl
          apply sq_g; exact g_call (hpr) rfl; exact rfl
          refine sq_v (f_alloc 11 rfl) rfl ?_
          refine sq_s (g_store_agg rfl rfl rfl rfl rfl rfl) ?_
          refine sq_nil ?_
          refine sq_then ?_
          refine cq_seq ?_
          refine cq_region ?_
          apply sq_g; exact g_move (s := .av _) rfl; exact rfl
          apply sq_g; exact g_load_own_agg (us := [.int _ _, .int _ _, .int _ _]) rfl rfl rfl rfl; exact rfl
          apply sq_g; exact g_call (hfar) rfl; exact rfl
          apply sq_g; exact g_move (s := .av _) rfl; exact rfl
          apply sq_g; exact g_extractT rfl rfl; exact rfl
          apply sq_g; exact g_extractT rfl rfl; exact rfl
          apply sq_g; exact g_assign (s := .av (.val (.int _ _))) rfl; exact rfl
          apply sq_g; exact g_assign (s := .av _) rfl; exact rfl
          refine sq_nil ?_
          refine sq_then ?_
          refine cq_seq ?_
          refine cq_drawn ?_
          apply dq_g; exact g_move (s := .av (.val (.int _ _))) rfl; exact rfl
          apply dq_g; exact g_move (s := .av _) rfl; exact rfl
          apply dq_g; exact g_move (s := .av (.val (.int _ _))) rfl; exact rfl
          apply dq_g; exact g_index rfl rfl rfl (by omega); exact rfl
          apply dq_g; exact g_load_agg (us := [.int _ _, .int _ _, .int _ _]) rfl rfl rfl rfl; exact rfl
          apply dq_g; exact g_load_own_agg (us := [.int _ _, .int _ _, .int _ _]) rfl rfl rfl rfl; exact rfl
          apply dq_g; exact g_call (htm) rfl; exact rfl
          apply dq_g; exact g_cmp rfl rfl rfl; exact rfl
          refine dq_nil tm (by kernel_rfl) ?_
          refine sq_then ?_
          (refine cq_cond rfl (fun hb => ?_) (fun hb => ?_) <;> (try simp only [decide_eq_true_eq, decide_eq_false_iff_not, beq_iff_eq, beq_eq_false_iff_ne, bne_iff_ne, bne_eq_false_iff_eq, ne_eq, Bool.not_eq_true', Bool.not_eq_false', Bool.and_eq_true, Bool.or_eq_true, Bool.and_eq_false_iff, Bool.or_eq_false_iff] at hb) <;> (try (exfalso; omega)))
          · rw [if_pos (by omega)] at eC
            refine cq_region ?_
            apply sq_g; exact g_move (s := .av _) rfl; exact rfl
            apply sq_g; exact g_load_own_agg (us := [.int _ _, .int _ _, .int _ _]) rfl rfl rfl rfl; exact rfl
            apply sq_g; exact g_move (s := .av (.val (.int _ _))) rfl; exact rfl
            apply sq_g; exact g_move (s := .av _) rfl; exact rfl
            apply sq_g; exact  g_build_gen (is := [0, 1, 2]) (xs := [_, _, _]) (τs := [_, _, _]) rfl rfl hmk; exact rfl
            apply sq_g; exact g_call (hput) rfl; exact rfl
            apply sq_g; exact g_assign (s := .av _) rfl; exact rfl
            refine sq_nil ?_
            refine sq_then ?_
            refine cq_region ?_
            apply sq_g; exact g_move (s := .av (.val (.int _ _))) rfl; exact rfl
            apply sq_g; exact g_arith rfl rfl rfl (by omega); exact rfl
            apply sq_g; exact g_assign (s := .av (.val (.int _ _))) rfl; exact rfl
            refine sq_nil ?_
            exact sq_round (c + 1) (by omega) (by omega) (ent ⟨.refl _, (by rw [eC]; exact .refl _), .refl _, .refl _, .int (by omega), trivial⟩ trivial)
          · rw [if_neg (by omega)] at eC
            refine cq_skip ?_
            refine sq_then ?_
            refine cq_region ?_
            apply sq_g; exact g_move (s := .av (.val (.int _ _))) rfl; exact rfl
            apply sq_g; exact g_arith rfl rfl rfl (by omega); exact rfl
            apply sq_g; exact g_assign (s := .av (.val (.int _ _))) rfl; exact rfl
            refine sq_nil ?_
            exact sq_round (c + 1) (by omega) (by omega) (ent ⟨.refl _, (by rw [eC]; exact .refl _), .refl _, .refl _, .int (by omega), trivial⟩ trivial)
      · have hcl : c = l.length := by omega
        subst hcl
        refine cq_exit ?_
        refine sq_then ?_
        refine cq_region ?_
        apply sq_g; exact g_move (s := .av (.val (.int _ _))) rfl; exact rfl
        apply sq_g; exact g_arith rfl rfl rfl (by omega); exact rfl
        apply sq_g; exact g_assign (s := .av (.val (.int _ _))) rfl; exact rfl
        refine sq_nil ?_
        exact sq_round (b + 1) (by omega) (by omega) (ent ⟨.refl _, (by rw [eB]; exact .refl _), .refl _, .int (by omega), trivial⟩ trivial)
    · have hbl : b = l.length := by omega
      subst hbl
      refine cq_exit ?_
      refine sq_then ?_
      refine cq_region ?_
      apply sq_g; exact g_move (s := .av (.val (.int _ _))) rfl; exact rfl
      apply sq_g; exact g_arith rfl rfl rfl (by omega); exact rfl
      apply sq_g; exact g_assign (s := .av (.val (.int _ _))) rfl; exact rfl
      refine sq_nil ?_
      exact sq_round (a + 1) (by omega) (by omega) (ent ⟨.refl _, (by rw [eA]; exact .refl _), .int (by omega), trivial⟩ trivial)
  · have hal : a = l.length := by omega
    subst hal
    refine cq_exit ?_
    refine sq_then ?_
    refine cq_seq ?_
    refine cq_region ?_
    apply sq_g; exact g_move (s := .av _) rfl; exact rfl
    apply sq_g; exact g_assign (s := .av _) rfl; exact rfl
    refine sq_nil ?_
    refine sq_then ?_
    refine cq_ret ?_
    exact sq_res1 rfl (.tmp rfl) rfl
end Go.Proofs.YtdoppiajbpmmkaaGreat
namespace Go.Proofs.YtdoppiajbpmmkaaGreat
open Go Go.Vc Go.RowKit
set_option maxHeartbeats 8000000
/-! KDQ -/
def mx (o v : Int) : Int := if o < v then v else o
def rC (l : List Tr) (a b : Nat) (o : Int) : Nat → Int
  | 0 => o
  | c + 1 => if tac (gt l a) (gt l b) (gt l c) = tz then rC l a b o c else mx (rC l a b o c) 2
def rB (l : List Tr) (a : Nat) (o : Int) : Nat → Int
  | 0 => o
  | b + 1 => if gt l a = gt l b then rB l a o b else rC l a b (mx (rB l a o b) 1) b
def rA (l : List Tr) : Nat → Int
  | 0 => -1
  | a + 1 => rB l a (mx (rA l a) 0) a
/-- Four points that are not coplanar. -/
def Solid (l : List Tr) : Prop := ∃ a, a < l.length ∧ ∃ b, b < a ∧ ∃ c, c < b ∧ ∃ d, d < l.length ∧ six (gt l a) (gt l b) (gt l c) (gt l d) ≠ 0
theorem rC_le (l : List Tr) (a b : Nat) {o : Int} (h : o ≤ 2) : ∀ c, rC l a b o c ≤ 2
  | 0 => h
  | c + 1 => by have := rC_le l a b h c; unfold rC mx; split <;> (try split) <;> omega
theorem rB_le (l : List Tr) (a : Nat) {o : Int} (h : o ≤ 2) : ∀ b, rB l a o b ≤ 2
  | 0 => h
  | b + 1 => by
    have := rB_le l a h b
    unfold rB
    split
    · exact this
    · exact rC_le l a b (by unfold mx; split <;> omega) b
theorem rA_le (l : List Tr) : ∀ a, rA l a ≤ 2
  | 0 => (show (-1 : Int) ≤ 2 by decide)
  | a + 1 => rB_le l a (by have := rA_le l a; unfold mx; split <;> omega) a
theorem six_same {a b : Tr} (h : a = b) (c d : Tr) : six a b c d = 0 := by
  subst h; unfold six tac tcr tsub tdot; simp
theorem six_zero {a b c : Tr} (h : tac a b c = tz) (d : Tr) : six a b c d = 0 := by
  unfold six; rw [h]; unfold tz tdot; simp
theorem rank_c (l : List Tr) (r : Int) (hl : RT l) (hn : l.length ≤ 6) (h3 : Solid l → r = 3) (h2 : ¬ Solid l → r = rA l l.length) : CtrA Tryz.prog 53 [ts l] (vi r) := by
  refine ctrA _ Tryz.func53 rfl rfl Tryz.ntmps53 rfl fun w Z => ?_
  simp only [initT, List.map_cons, List.map_nil, Nat.zero_add, Nat.reduceAdd]
  refine cq_seq ?_
  refine cq_region ?_
  apply sq_g; exact g_assign (s := .av (.val (.int _ _))) rfl; exact rfl
  refine sq_nil ?_
  refine sq_then ?_
  refine cq_seq ?_
  refine cq_region ?_
  apply sq_g; exact g_assign (s := .av (.val (.int _ _))) rfl; exact rfl
  refine sq_nil ?_
  refine sq_then ?_
  refine cq_seq ?_
  refine cq_seq ?_
  refine cq_region ?_
  apply sq_g; exact g_assign (s := .av (.val (.int _ _))) rfl; exact rfl
  refine sq_nil ?_
  refine sq_then ?_
  refine cq_block ?_
  refine cq_loop (γ := Nat) (fun a => [(0, .av (ts l)), (3, .av (vi (rA l a))), (4, .av (vi a))]) (fun _ => []) (fun a => a ≤ l.length ∧ ∀ a', a' < a → ∀ b, b < a' → ∀ c, c < b → ∀ d, d < l.length → six (gt l a') (gt l b) (gt l c) (gt l d) = 0) (fun a => l.length - a) 0 ⟨Nat.zero_le _, by omega⟩ (ent ⟨.refl _, .refl _, .refl _, trivial⟩ trivial) ?_
  rintro a ⟨ha, iA⟩
  refine cq_seq ?_
  refine cq_seq ?_
  refine cq_region ?_
  apply sq_g; exact g_move (s := .av (.val (.int _ _))) rfl; exact rfl
  apply sq_g; exact g_move (s := .av _) rfl; exact rfl
  apply sq_g; exact g_len rfl; exact rfl
  apply sq_g; exact g_cmp rfl rfl rfl; exact rfl
  refine sq_nil ?_
  refine sq_then ?_
  (refine cq_cond rfl (fun hb => ?_) (fun hb => ?_) <;> (try simp only [decide_eq_true_eq, decide_eq_false_iff_not, beq_iff_eq, beq_eq_false_iff_ne, bne_iff_ne, bne_eq_false_iff_eq, ne_eq, Bool.not_eq_true', Bool.not_eq_false', Bool.and_eq_true, Bool.or_eq_true, Bool.and_eq_false_iff, Bool.or_eq_false_iff] at hb) <;> (try (exfalso; omega)))
  · have hal : a < l.length := by omega
    have eA : rA l (a + 1) = rB l a (mx (rA l a) 0) a := rfl
    generalize rA l a = o at eA ⊢
    unfold mx at eA
    refine cq_skip ?_
    refine sq_then ?_
    refine cq_seq ?_
    refine cq_block ?_
    refine cq_seq ?_
    refine cq_region ?_
    apply sq_g; exact g_move (s := .av (.val (.int _ _))) rfl; exact rfl
    apply sq_g; exact g_max rfl rfl; exact rfl
    apply sq_g; exact g_assign (s := .av (.val (.int _ _))) rfl; exact rfl
    refine sq_nil ?_
    refine sq_then ?_
    refine cq_seq ?_
    refine cq_region ?_
    apply sq_g; exact g_assign (s := .av (.val (.int _ _))) rfl; exact rfl
    refine sq_nil ?_
    refine sq_then ?_
    refine cq_block ?_
    generalize hO : (if o < 0 then (0 : Int) else o) = O at eA ⊢
    refine cq_loop (γ := Nat) (fun b => [(0, .av (ts l)), (3, .av (vi (rB l a O b))), (4, .av (vi a)), (5, .av (vi b))]) (fun _ => []) (fun b => b ≤ a ∧ ∀ b', b' < b → ∀ c, c < b' → ∀ d, d < l.length → six (gt l a) (gt l b') (gt l c) (gt l d) = 0) (fun b => a - b) 0 ⟨Nat.zero_le _, by omega⟩ (ent ⟨.refl _, .int (by first | exact hO | rfl | omega), .refl _, .refl _, trivial⟩ trivial) ?_
    rintro b ⟨hbn, iB⟩
    refine cq_seq ?_
    refine cq_seq ?_
    refine cq_region ?_
    apply sq_g; exact g_move (s := .av (.val (.int _ _))) rfl; exact rfl
    apply sq_g; exact g_move (s := .av (.val (.int _ _))) rfl; exact rfl
    apply sq_g; exact g_cmp rfl rfl rfl; exact rfl
    refine sq_nil ?_
    refine sq_then ?_
    (refine cq_cond rfl (fun hb => ?_) (fun hb => ?_) <;> (try simp only [decide_eq_true_eq, decide_eq_false_iff_not, beq_iff_eq, beq_eq_false_iff_ne, bne_iff_ne, bne_eq_false_iff_eq, ne_eq, Bool.not_eq_true', Bool.not_eq_false', Bool.and_eq_true, Bool.or_eq_true, Bool.and_eq_false_iff, Bool.or_eq_false_iff] at hb) <;> (try (exfalso; omega)))
    · have hba : b < a := by omega
      have hbl : b < l.length := by omega
      have eB : rB l a O (b + 1) = if gt l a = gt l b then rB l a O b else rC l a b (mx (rB l a O b) 1) b := rfl
      generalize rB l a O b = p at eB ⊢
      refine cq_skip ?_
      refine sq_then ?_
      refine cq_seq ?_
      refine cq_block ?_
      refine cq_seq ?_
      refine cq_seq ?_
      refine cq_drawn ?_
      apply dq_g; exact g_move (s := .av _) rfl; exact rfl
      apply dq_g; exact g_move (s := .av (.val (.int _ _))) rfl; exact rfl
      apply dq_g; exact g_index rfl rfl rfl (by omega); exact rfl
      apply dq_g; exact g_load_agg (us := [.int _ _, .int _ _, .int _ _]) rfl rfl rfl rfl; exact rfl
      apply dq_g; exact g_move (s := .av _) rfl; exact rfl
      apply dq_g; exact g_move (s := .av (.val (.int _ _))) rfl; exact rfl
      apply dq_g; exact g_index rfl rfl rfl (by omega); exact rfl
      apply dq_g; exact g_load_agg (us := [.int _ _, .int _ _, .int _ _]) rfl rfl rfl rfl; exact rfl
      apply dq_g; exact g_eql (xs := [_, _, _]) (ys := [_, _, _]) rfl rfl rfl rfl; exact rfl
      refine dq_nil tm (by kernel_rfl) ?_
      refine sq_then ?_
      (refine cq_cond rfl (fun hb => ?_) (fun hb => ?_) <;> (try simp only [decide_eq_true_eq, decide_eq_false_iff_not, beq_iff_eq, beq_eq_false_iff_ne, bne_iff_ne, bne_eq_false_iff_eq, ne_eq, Bool.not_eq_true', Bool.not_eq_false', Bool.and_eq_true, Bool.or_eq_true, Bool.and_eq_false_iff, Bool.or_eq_false_iff] at hb) <;> (try (exfalso; omega)))
      · have hab := (nn_iff _ _).1 hb
        rw [if_pos hab] at eB
        refine cq_exit ?_
        refine sq_then ?_
        refine cq_region ?_
        apply sq_g; exact g_move (s := .av (.val (.int _ _))) rfl; exact rfl
        apply sq_g; exact g_arith rfl rfl rfl (by omega); exact rfl
        apply sq_g; exact g_assign (s := .av (.val (.int _ _))) rfl; exact rfl
        refine sq_nil ?_
        exact sq_round (b + 1) ⟨by omega, fun b' hb' c hc d hd => by
          by_cases e : b' = b
          · subst e; exact six_same hab _ _
          · exact iB b' (by omega) c hc d hd⟩ (by omega) (ent ⟨.refl _, .int (by rw [eB]), .refl _, .int (by omega), trivial⟩ trivial)
      · have hab : ¬ gt l a = gt l b := fun e => hb ((nn_iff _ _).2 e)
        rw [if_neg hab] at eB
        clear hb
        unfold mx at eB
        refine cq_skip ?_
        refine sq_then ?_
        refine cq_seq ?_
        refine cq_region ?_
        apply sq_g; exact g_move (s := .av (.val (.int _ _))) rfl; exact rfl
        apply sq_g; exact g_max rfl rfl; exact rfl
        apply sq_g; exact g_assign (s := .av (.val (.int _ _))) rfl; exact rfl
        refine sq_nil ?_
        refine sq_then ?_
        refine cq_seq ?_
        refine cq_region ?_
        apply sq_g; exact g_assign (s := .av (.val (.int _ _))) rfl; exact rfl
        refine sq_nil ?_
        refine sq_then ?_
        refine cq_block ?_
        generalize hQ : (if p < 1 then (1 : Int) else p) = Q at eB ⊢
        refine cq_loop (γ := Nat) (fun c => [(0, .av (ts l)), (3, .av (vi (rC l a b Q c))), (4, .av (vi a)), (5, .av (vi b)), (6, .av (vi c))]) (fun _ => []) (fun c => c ≤ b ∧ ∀ c', c' < c → ∀ d, d < l.length → six (gt l a) (gt l b) (gt l c') (gt l d) = 0) (fun c => b - c) 0 ⟨Nat.zero_le _, by omega⟩ (ent ⟨.refl _, .int (by first | exact hQ | rfl | omega), .refl _, .refl _, .refl _, trivial⟩ trivial) ?_
        rintro c ⟨hcn, iC⟩
        refine cq_seq ?_
        refine cq_seq ?_
        refine cq_region ?_
        apply sq_g; exact g_move (s := .av (.val (.int _ _))) rfl; exact rfl
        apply sq_g; exact g_move (s := .av (.val (.int _ _))) rfl; exact rfl
        apply sq_g; exact g_cmp rfl rfl rfl; exact rfl
        refine sq_nil ?_
        refine sq_then ?_
        (refine cq_cond rfl (fun hb => ?_) (fun hb => ?_) <;> (try simp only [decide_eq_true_eq, decide_eq_false_iff_not, beq_iff_eq, beq_eq_false_iff_ne, bne_iff_ne, bne_eq_false_iff_eq, ne_eq, Bool.not_eq_true', Bool.not_eq_false', Bool.and_eq_true, Bool.or_eq_true, Bool.and_eq_false_iff, Bool.or_eq_false_iff] at hb) <;> (try (exfalso; omega)))
        · have hcb : c < b := by omega
          have hcl : c < l.length := by omega
          have eC : rC l a b Q (c + 1) = if tac (gt l a) (gt l b) (gt l c) = tz then rC l a b Q c else mx (rC l a b Q c) 2 := rfl
          generalize rC l a b Q c = q at eC ⊢
          have hta := racross_c (gt l a) (gt l b) (gt l c) (hl a) (hl b) (hl c)
          by_cases hnz : tac (gt l a) (gt l b) (gt l c) = tz
          · rw [if_pos hnz] at eC
            rw [hnz] at hta
            have hz := rzero_c tz
            rw [decide_eq_true rfl] at hz
            refine cq_skip ?_
            refine sq_then ?_
            refine cq_seq ?_
            refine cq_block ?_
            refine cq_seq ?_
            refine cq_seq ?_
            refine cq_drawn ?_
            apply dq_g; exact g_move (s := .av _) rfl; exact rfl
            apply dq_g; exact g_move (s := .av (.val (.int _ _))) rfl; exact rfl
            apply dq_g; exact g_index rfl rfl rfl (by omega); exact rfl
            apply dq_g; exact g_load_agg (us := [.int _ _, .int _ _, .int _ _]) rfl rfl rfl rfl; exact rfl
            apply dq_g; exact g_move (s := .av _) rfl; exact rfl
            apply dq_g; exact g_move (s := .av (.val (.int _ _))) rfl; exact rfl
            apply dq_g; exact g_index rfl rfl rfl (by omega); exact rfl
            apply dq_g; exact g_load_agg (us := [.int _ _, .int _ _, .int _ _]) rfl rfl rfl rfl; exact rfl
            apply dq_g; exact g_move (s := .av _) rfl; exact rfl
            apply dq_g; exact g_move (s := .av (.val (.int _ _))) rfl; exact rfl
            apply dq_g; exact g_index rfl rfl rfl (by omega); exact rfl
            apply dq_g; exact g_load_agg (us := [.int _ _, .int _ _, .int _ _]) rfl rfl rfl rfl; exact rfl
            apply dq_g; exact g_call (hta) rfl; exact rfl
            apply dq_g; exact g_call (hz) rfl; exact rfl
            refine dq_nil tm (by kernel_rfl) ?_
            refine sq_then ?_
            refine cq_cond_t rfl ?_
            refine cq_exit ?_
            refine sq_then ?_
            refine cq_region ?_
            apply sq_g; exact g_move (s := .av (.val (.int _ _))) rfl; exact rfl
            apply sq_g; exact g_arith rfl rfl rfl (by omega); exact rfl
            apply sq_g; exact g_assign (s := .av (.val (.int _ _))) rfl; exact rfl
            refine sq_nil ?_
            exact sq_round (c + 1) ⟨by omega, fun c' hc' d hd => by
              by_cases e : c' = c
              · subst e; exact six_zero hnz _
              · exact iC c' (by omega) d hd⟩ (by omega) (ent ⟨.refl _, .int (by rw [eC]), .refl _, .refl _, .int (by omega), trivial⟩ trivial)
          · rw [if_neg hnz] at eC
            have hz := rzero_c (tac (gt l a) (gt l b) (gt l c))
            rw [decide_eq_false hnz] at hz
            generalize tac (gt l a) (gt l b) (gt l c) = n at hta hz
            unfold mx at eC
            refine cq_skip ?_
            refine sq_then ?_
            refine cq_seq ?_
            refine cq_block ?_
            refine cq_seq ?_
            refine cq_seq ?_
            refine cq_drawn ?_
            apply dq_g; exact g_move (s := .av _) rfl; exact rfl
            apply dq_g; exact g_move (s := .av (.val (.int _ _))) rfl; exact rfl
            apply dq_g; exact g_index rfl rfl rfl (by omega); exact rfl
            apply dq_g; exact g_load_agg (us := [.int _ _, .int _ _, .int _ _]) rfl rfl rfl rfl; exact rfl
            apply dq_g; exact g_move (s := .av _) rfl; exact rfl
            apply dq_g; exact g_move (s := .av (.val (.int _ _))) rfl; exact rfl
            apply dq_g; exact g_index rfl rfl rfl (by omega); exact rfl
            apply dq_g; exact g_load_agg (us := [.int _ _, .int _ _, .int _ _]) rfl rfl rfl rfl; exact rfl
            apply dq_g; exact g_move (s := .av _) rfl; exact rfl
            apply dq_g; exact g_move (s := .av (.val (.int _ _))) rfl; exact rfl
            apply dq_g; exact g_index rfl rfl rfl (by omega); exact rfl
            apply dq_g; exact g_load_agg (us := [.int _ _, .int _ _, .int _ _]) rfl rfl rfl rfl; exact rfl
            apply dq_g; exact g_call (hta) rfl; exact rfl
            apply dq_g; exact g_call (hz) rfl; exact rfl
            refine dq_nil tm (by kernel_rfl) ?_
            refine sq_then ?_
            refine cq_cond_f rfl ?_
            refine cq_skip ?_
            refine sq_then ?_
            refine cq_seq ?_
            refine cq_region ?_
            apply sq_g; exact g_move (s := .av (.val (.int _ _))) rfl; exact rfl
            apply sq_g; exact g_max rfl rfl; exact rfl
            apply sq_g; exact g_assign (s := .av (.val (.int _ _))) rfl; exact rfl
            refine sq_nil ?_
            refine sq_then ?_
            refine cq_seq ?_
            refine cq_region ?_
            apply sq_g; exact g_assign (s := .av (.val (.int _ _))) rfl; exact rfl
            refine sq_nil ?_
            refine sq_then ?_
            refine cq_block ?_
            generalize hR : (if q < 2 then (2 : Int) else q) = R at eC ⊢
            refine cq_loop (γ := Nat) (fun d => [(0, .av (ts l)), (3, .av (vi R)), (4, .av (vi a)), (5, .av (vi b)), (6, .av (vi c)), (7, .av (vi d))]) (fun _ => []) (fun d => d ≤ l.length ∧ ∀ d', d' < d → six (gt l a) (gt l b) (gt l c) (gt l d') = 0) (fun d => l.length - d) 0 ⟨Nat.zero_le _, by omega⟩ (ent ⟨.refl _, .int (by first | exact hR | rfl | omega), .refl _, .refl _, .refl _, .refl _, trivial⟩ trivial) ?_
            rintro d ⟨hdn, iD⟩
            refine cq_seq ?_
            refine cq_seq ?_
            refine cq_region ?_
            apply sq_g; exact g_move (s := .av (.val (.int _ _))) rfl; exact rfl
            apply sq_g; exact g_move (s := .av _) rfl; exact rfl
            apply sq_g; exact g_len rfl; exact rfl
            apply sq_g; exact g_cmp rfl rfl rfl; exact rfl
            refine sq_nil ?_
            refine sq_then ?_
            (refine cq_cond rfl (fun hb => ?_) (fun hb => ?_) <;> (try simp only [decide_eq_true_eq, decide_eq_false_iff_not, beq_iff_eq, beq_eq_false_iff_ne, bne_iff_ne, bne_eq_false_iff_eq, ne_eq, Bool.not_eq_true', Bool.not_eq_false', Bool.and_eq_true, Bool.or_eq_true, Bool.and_eq_false_iff, Bool.or_eq_false_iff] at hb) <;> (try (exfalso; omega)))
            · have hdl : d < l.length := by omega
              have hsx := rsix_c (gt l a) (gt l b) (gt l c) (gt l d) (hl a) (hl b) (hl c) (hl d)
              generalize hS : six (gt l a) (gt l b) (gt l c) (gt l d) = s at hsx
              refine cq_skip ?_
              refine sq_then ?_
              refine cq_seq ?_
              refine cq_block ?_
              refine cq_seq ?_
              refine cq_drawn ?_
              apply dq_g; exact g_move (s := .av _) rfl; exact rfl
              apply dq_g; exact g_move (s := .av (.val (.int _ _))) rfl; exact rfl
              apply dq_g; exact g_index rfl rfl rfl (by omega); exact rfl
              apply dq_g; exact g_load_agg (us := [.int _ _, .int _ _, .int _ _]) rfl rfl rfl rfl; exact rfl
              apply dq_g; exact g_move (s := .av _) rfl; exact rfl
              apply dq_g; exact g_move (s := .av (.val (.int _ _))) rfl; exact rfl
              apply dq_g; exact g_index rfl rfl rfl (by omega); exact rfl
              apply dq_g; exact g_load_agg (us := [.int _ _, .int _ _, .int _ _]) rfl rfl rfl rfl; exact rfl
              apply dq_g; exact g_move (s := .av _) rfl; exact rfl
              apply dq_g; exact g_move (s := .av (.val (.int _ _))) rfl; exact rfl
              apply dq_g; exact g_index rfl rfl rfl (by omega); exact rfl
              apply dq_g; exact g_load_agg (us := [.int _ _, .int _ _, .int _ _]) rfl rfl rfl rfl; exact rfl
              apply dq_g; exact g_move (s := .av _) rfl; exact rfl
              apply dq_g; exact g_move (s := .av (.val (.int _ _))) rfl; exact rfl
              apply dq_g; exact g_index rfl rfl rfl (by omega); exact rfl
              apply dq_g; exact g_load_agg (us := [.int _ _, .int _ _, .int _ _]) rfl rfl rfl rfl; exact rfl
              apply dq_g; exact g_call (hsx) rfl; exact rfl
              apply dq_g; exact g_cmp rfl rfl rfl; exact rfl
              refine dq_nil tm (by kernel_rfl) ?_
              refine sq_then ?_
              (refine cq_cond rfl (fun hb => ?_) (fun hb => ?_) <;> (try simp only [decide_eq_true_eq, decide_eq_false_iff_not, beq_iff_eq, beq_eq_false_iff_ne, bne_iff_ne, bne_eq_false_iff_eq, ne_eq, Bool.not_eq_true', Bool.not_eq_false', Bool.and_eq_true, Bool.or_eq_true, Bool.and_eq_false_iff, Bool.or_eq_false_iff] at hb) <;> (try (exfalso; omega)))
              · rw [h3 ⟨a, hal, b, hba, c, hcb, d, hdl, by rw [hS]; exact hb⟩]
                refine cq_seq ?_
                refine cq_region ?_
                apply sq_g; exact g_assign (s := .av (.val (.int _ _))) rfl; exact rfl
                refine sq_nil ?_
                refine sq_then ?_
                refine cq_ret ?_
                refine sq_inBlock_ret ?_
                refine sq_then_ret ?_
                refine sq_then_ret ?_
                refine sq_inBlock_ret ?_
                refine sq_inBlock_ret ?_
                refine sq_then_ret ?_
                refine sq_then_ret ?_
                refine sq_inBlock_ret ?_
                refine sq_inBlock_ret ?_
                refine sq_then_ret ?_
                refine sq_then_ret ?_
                refine sq_inBlock_ret ?_
                refine sq_inBlock_ret ?_
                refine sq_then_ret ?_
                refine sq_then_ret ?_
                refine sq_inBlock_ret ?_
                refine sq_then_ret ?_
                exact sq_res1 rfl (.tmp rfl) rfl
              · have hs0 : s = 0 := by omega
                refine cq_skip ?_
                refine sq_then ?_
                refine cq_region ?_
                apply sq_g; exact g_move (s := .av (.val (.int _ _))) rfl; exact rfl
                apply sq_g; exact g_arith rfl rfl rfl (by omega); exact rfl
                apply sq_g; exact g_assign (s := .av (.val (.int _ _))) rfl; exact rfl
                refine sq_nil ?_
                exact sq_round (d + 1) ⟨by omega, fun d' hd' => by
                  by_cases e : d' = d
                  · subst e; omega
                  · exact iD d' (by omega)⟩ (by omega) (ent ⟨.refl _, .refl _, .refl _, .refl _, .refl _, .int (by omega), trivial⟩ trivial)
            · have hdl : d = l.length := by omega
              subst hdl
              refine cq_exit ?_
              refine sq_then ?_
              refine cq_region ?_
              apply sq_g; exact g_move (s := .av (.val (.int _ _))) rfl; exact rfl
              apply sq_g; exact g_arith rfl rfl rfl (by omega); exact rfl
              apply sq_g; exact g_assign (s := .av (.val (.int _ _))) rfl; exact rfl
              refine sq_nil ?_
              exact sq_round (c + 1) ⟨by omega, fun c' hc' d hd => by
                by_cases e : c' = c
                · subst e; exact iD d hd
                · exact iC c' (by omega) d hd⟩ (by omega) (ent ⟨.refl _, .int (by rw [eC]), .refl _, .refl _, .int (by omega), trivial⟩ trivial)
        · have hcb : c = b := by omega
          subst hcb
          refine cq_exit ?_
          refine sq_then ?_
          refine cq_region ?_
          apply sq_g; exact g_move (s := .av (.val (.int _ _))) rfl; exact rfl
          apply sq_g; exact g_arith rfl rfl rfl (by omega); exact rfl
          apply sq_g; exact g_assign (s := .av (.val (.int _ _))) rfl; exact rfl
          refine sq_nil ?_
          exact sq_round (c + 1) ⟨by omega, fun b' hb' c' hc d hd => by
            by_cases e : b' = c
            · subst e; exact iC c' hc d hd
            · exact iB b' (by omega) c' hc d hd⟩ (by omega) (ent ⟨.refl _, .int (by rw [eB]), .refl _, .int (by omega), trivial⟩ trivial)
    · have hba : b = a := by omega
      subst hba
      refine cq_exit ?_
      refine sq_then ?_
      refine cq_region ?_
      apply sq_g; exact g_move (s := .av (.val (.int _ _))) rfl; exact rfl
      apply sq_g; exact g_arith rfl rfl rfl (by omega); exact rfl
      apply sq_g; exact g_assign (s := .av (.val (.int _ _))) rfl; exact rfl
      refine sq_nil ?_
      exact sq_round (b + 1) ⟨by omega, fun a' ha' b' hb' c hc d hd => by
        by_cases e : a' = b
        · subst e; exact iB b' hb' c hc d hd
        · exact iA a' (by omega) b' hb' c hc d hd⟩ (by omega) (ent ⟨.refl _, .int (by rw [eA]), .int (by omega), trivial⟩ trivial)
  · have hal : a = l.length := by omega
    subst hal
    rw [h2 (fun ⟨a, ha, b, hb, c, hc, d, hd, h⟩ => h (iA a ha b hb c hc d hd))]
    refine cq_exit ?_
    refine sq_then ?_
    refine cq_seq ?_
    refine cq_region ?_
    apply sq_g; exact g_move (s := .av (.val (.int _ _))) rfl; exact rfl
    apply sq_g; exact g_assign (s := .av (.val (.int _ _))) rfl; exact rfl
    refine sq_nil ?_
    refine sq_then ?_
    refine cq_ret ?_
    exact sq_res1 rfl (.tmp rfl) rfl
end Go.Proofs.YtdoppiajbpmmkaaGreat
