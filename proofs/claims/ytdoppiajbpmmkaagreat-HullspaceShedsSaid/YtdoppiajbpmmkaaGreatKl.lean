/- A part of the proof that the law returns true at every input and that the input reads behind the call as it read before; this part states nothing of its own that needs a condition of the input. -/
import Derived.Test.YtdoppiajbpmmkaaGreatKh
import Derived.Test.YtdoppiajbpmmkaaGreatGe
import Derived.Test.YtdoppiajbpmmkaaGreatZ
set_option linter.unusedVariables false
set_option linter.unusedSimpArgs false
set_option linter.unnecessarySimpa false
namespace Go.Proofs.YtdoppiajbpmmkaaGreat
open Go Go.Vc Go.RowKit
set_option maxHeartbeats 8000000
/-! KDQ -/
theorem bs22_n (w : World) : (Instr.buildSlice 22 0 #[]).run Tryz.prog w = .ok (.slice (some ⟨w.heap.size, 0, none⟩) 0 0) (w.alloc (.cells #[] 67)) := by kernel_rfl
theorem eg22 (x y : Operand) (a : Addr) (n c : Nat) (w : World) : (eqGuard .eql 22 x y (.slice (some a) n c) (.slice none 0 0)).run Tryz.prog w = .ok () w := by kernel_rfl
theorem ev22 (a : Addr) (n c : Nat) (w : World) : (binOp .eql 22 (.slice (some a) n c) (.slice none 0 0)).run Tryz.prog w = .ok (.bool false) w := by kernel_rfl
theorem tclone_c (l : List Tr) (h0 : 0 < l.length) (hn : l.length ≤ 1000) : CtrR Tryz.prog 41 [ts l] 67 3 l.length (tf l) [] := by
  refine ctrR _ Tryz.func41 rfl rfl Tryz.ntmps41 rfl fun w Z => ?_
  have hml : 0 + l.length ≤ maxLen := by simp only [maxLen]; omega
  simp only [initT, List.map_cons, List.map_nil, Nat.zero_add, Nat.reduceAdd]
  refine cq_seq ?_
  refine cq_region ?_
  apply sq_g; exact g_assign (s := .av _) rfl; exact rfl
  refine sq_nil ?_
  refine sq_then ?_
  refine cq_seq ?_
  refine cq_seq ?_
  refine cq_region ?_
  apply sq_g; exact g_move (s := .av _) rfl; exact rfl
  apply sq_g; exact  g_eqnil_sl (fun a n c w => eg22 _ _ a n c w) (fun a n c w => ev22 a n c w) rfl rfl h0; exact rfl
  refine sq_nil ?_
  refine sq_then ?_
  refine cq_cond_f rfl ?_
  refine cq_skip ?_
  refine sq_then ?_
  refine cq_seq ?_
  refine cq_region ?_
  refine sq_v (f_bs0 (tf []) 70 bs22_n rfl) rfl ?_
  apply sq_g; exact g_move (s := .av _) rfl; exact rfl
  refine sq_v (v_append (h := tf l) (m := l.length) rfl rfl rfl (fun i _ j _ => tf_one l i j) h0 hml (by omega)) rfl ?_
  apply sq_g; exact g_assign (s := .osl _) rfl; exact rfl
  refine sq_nil ?_
  refine sq_then ?_
  refine cq_ret ?_
  exact sq_retR rfl rfl rfl (by omega) (fun i hi j hj => by unfold rowApp; rw [if_neg (by omega)]; rfl)
theorem tf_cg {M L : List Tr} {a b : Nat} (j : Nat) (h : gt M a = gt L b) : tf M a j = tf L b j := by
  unfold tf; rw [h]
theorem zv67 (w : World) : (zeroValue 67).run Tryz.prog w = .ok (.agg #[.int .i64 0, .int .i64 0, .int .i64 0]) w := by kernel_rfl
def delF (l : List Tr) (i : Nat) : Nat → Nat → AV := rowAny (rowMv (tf l) i (i + 1) (l.length - (i + 1))) (i + (l.length - (i + 1)))
theorem tdel_c (l : List Tr) (i : Nat) (hn : l.length ≤ 1000) (hi : i < l.length) : CtrH Tryz.prog 40 [.osl 1000, .av (vi i), .av (vi ((i + 1 : Nat) : Int))] [(1000, .row 67 3 l.length (tf l))] (.osx 1000 3 0 (i + (l.length - (i + 1)))) [(1000, .row 67 3 l.length (delF l i))] := by
  unfold delF
  refine ctrH _ Tryz.func40 rfl rfl Tryz.ntmps40 rfl rfl fun w Z ν => ?_
  simp only [initT, List.map_cons, List.map_nil, Nat.zero_add, Nat.reduceAdd]
  refine cq_seq ?_
  refine cq_region ?_
  apply sq_g; exact g_assign (s := .av _) rfl; exact rfl
  refine sq_nil ?_
  refine sq_then ?_
  refine cq_seq ?_
  refine cq_region ?_
  apply sq_g; exact g_move (s := .osl _) rfl; exact rfl
  apply sq_g; exact g_move (s := .av (.val (.int _ _))) rfl; exact rfl
  apply sq_g; exact g_move (s := .av (.val (.int _ _))) rfl; exact rfl
  apply sq_g; exact g_move (s := .osl _) rfl; exact rfl
  apply sq_g; exact g_len_own rfl rfl; exact rfl
  apply sq_g; exact  g_slice3 (lo := i) (hi := i + 1) rfl rfl rfl rfl rfl rfl (by omega) rfl (by omega) (by omega) (by omega); exact rfl
  refine sq_nil ?_
  refine sq_then ?_
  refine cq_seq ?_
  refine cq_seq ?_
  refine cq_region ?_
  apply sq_g; exact g_move (s := .av (.val (.int _ _))) rfl; exact rfl
  apply sq_g; exact g_move (s := .av (.val (.int _ _))) rfl; exact rfl
  apply sq_g; exact g_cmp rfl rfl rfl; exact rfl
  refine sq_nil ?_
  refine sq_then ?_
  (refine cq_cond rfl (fun hb => ?_) (fun hb => ?_) <;> (try simp only [decide_eq_true_eq, decide_eq_false_iff_not, beq_iff_eq, beq_eq_false_iff_ne, bne_iff_ne, bne_eq_false_iff_eq, ne_eq, Bool.not_eq_true', Bool.not_eq_false', Bool.and_eq_true, Bool.or_eq_true, Bool.and_eq_false_iff, Bool.or_eq_false_iff] at hb) <;> (try (exfalso; omega)))
  refine cq_skip ?_
  refine sq_then ?_
  refine cq_seq ?_
  refine cq_region ?_
  apply sq_g; exact g_move (s := .osl _) rfl; exact rfl
  apply sq_g; exact g_len_own rfl rfl; exact rfl
  apply sq_g; exact g_assign (s := .av (.val (.int _ _))) rfl; exact rfl
  refine sq_nil ?_
  refine sq_then ?_
  refine cq_seq ?_
  refine cq_drawn ?_
  apply dq_g; exact g_move (s := .osl _) rfl; exact rfl
  apply dq_g; exact g_move (s := .av (.val (.int _ _))) rfl; exact rfl
  apply dq_g; exact  g_to rfl rfl rfl rfl (by omega) (by omega); exact rfl
  apply dq_g; exact g_move (s := .osl _) rfl; exact rfl
  apply dq_g; exact g_move (s := .av (.val (.int _ _))) rfl; exact rfl
  apply dq_g; exact g_from rfl rfl rfl rfl (by omega) (by omega); exact rfl
  refine dq_tail tm rfl ?_
  refine sq_v (g_app_win rfl rfl rfl (by omega) (by omega) (fun a _ j _ => tf_one l a j) (by omega)).v rfl ?_
  apply sq_g; exact g_assign (s := .osx _ _ _ _) rfl; exact rfl
  refine sq_nil ?_
  refine sq_then ?_
  refine cq_seq ?_
  refine cq_region ?_
  apply sq_g; exact g_move (s := .osx _ _ _ _) rfl; exact rfl
  apply sq_g; exact g_move (s := .osx _ _ _ _) rfl; exact rfl
  apply sq_g; exact g_len_osx rfl; exact rfl
  apply sq_g; exact g_move (s := .av (.val (.int _ _))) rfl; exact rfl
  apply sq_g; exact  g_win rfl rfl rfl rfl rfl rfl (by omega) (by omega) (by omega); exact rfl
  refine sq_s (g_clearA (zs := [.int .i64 0, .int .i64 0, .int .i64 0]) zv67 rfl rfl (by decide) (by decide) rfl rfl) ?_
  refine sq_nil ?_
  refine sq_then ?_
  refine cq_seq ?_
  refine cq_region ?_
  apply sq_g; exact g_move (s := .osx _ _ _ _) rfl; exact rfl
  apply sq_g; exact g_assign (s := .osx _ _ _ _) rfl; exact rfl
  refine sq_nil ?_
  refine sq_then ?_
  refine cq_ret ?_
  exact sq_ent (ent (T' := [(6, .osx 1000 3 0 (i + (l.length - (i + 1))))]) (O' := [(1000, .row 67 3 l.length (rowAny (rowMv (tf l) i (i + 1) (l.length - (i + 1))) (i + (l.length - (i + 1)))))]) ⟨.refl _, trivial⟩ ⟨⟨_, rfl, .refl _⟩, trivial⟩) (sq_retH rfl rfl rfl)
theorem delF_eq {l : List Tr} {i : Nat} (hi : i < l.length) : ∀ a, a < (wo l i).length → ∀ j, delF l i a j = tf (wo l i) a j := fun a ha j => by
  rw [wo_len hi] at ha
  unfold delF rowAny rowMv
  rw [if_neg (by omega)]
  by_cases h1 : a < i
  · rw [if_pos h1]
    exact (tf_cg j (by rw [wo_gt hi, if_pos h1])).symm
  · rw [if_neg h1, if_pos (by omega)]
    exact (tf_cg j (by rw [wo_gt hi, if_neg h1, show i + 1 + (a - i) = a + 1 by omega])).symm
def outB (p : Tr) (f : Fc) : Bool := decide (f.m < tdot f.n p)
theorem ins70_c (f : Fc) (p : Tr) (hn : BT 1000000000000 f.n) (hp : BT 100000 p) : CtrA Tryz.prog 70 [fca f, bt p] (vb (outB p f)) := by
  have hd := dot_c f.n p hn hp (by decide)
  unfold outB
  generalize hq : tdot f.n p = q at hd ⊢
  refine ctrA _ Tryz.func70 rfl rfl Tryz.ntmps70 rfl fun w Z => ?_
  simp only [initT, List.map_cons, List.map_nil, Nat.zero_add, Nat.reduceAdd]
  refine cq_seq ?_
  refine cq_region ?_
  apply sq_g; exact  g_box_aggv rfl; exact rfl
  apply sq_g; exact g_assign (s := .av (.val (.bool _))) rfl; exact rfl
  refine sq_nil ?_
  refine sq_then ?_
  refine cq_seq ?_
  refine cq_drawn ?_
  apply dq_g; exact g_field rfl; exact rfl
  apply dq_g; exact g_load_agg (us := [.int _ _, .int _ _, .int _ _]) rfl rfl rfl rfl; exact rfl
  apply dq_g; exact g_load_agg (us := [.int _ _, .int _ _, .int _ _]) rfl rfl rfl rfl; exact rfl
  apply dq_g; exact g_call (hd) rfl; exact rfl
  apply dq_g; exact g_field rfl; exact rfl
  apply dq_g; exact g_load (τ := .val (.int _ _)) rfl rfl rfl; exact rfl
  apply dq_g; exact g_cmp rfl rfl rfl; exact rfl
  apply dq_g; exact g_assign (s := .av (.val (.bool _))) rfl; exact rfl
  refine dq_nil tm (by kernel_rfl) ?_
  refine sq_then ?_
  refine cq_ret ?_
  exact sq_res1 rfl (.tmp rfl) rfl
theorem idx93_c {p : Fc → Bool} {g : Nat} {cap : AV} (L : List Fc) (hn : L.length ≤ 1000) (hg : ∀ f ∈ L, CtrA Tryz.prog g [fca f, cap] (vb (p f))) : CtrA Tryz.prog 93 [fs L, kcl g cap] (vi (ixB (fun k => p (gf L k)) L.length)) := by
  refine ctrA _ Tryz.func93 rfl rfl Tryz.ntmps93 rfl fun w Z => ?_
  simp only [initT, List.map_cons, List.map_nil, Nat.zero_add, Nat.reduceAdd]
  refine cq_seq ?_
  refine cq_region ?_
  apply sq_g; exact g_assign (s := .av (.val (.int _ _))) rfl; exact rfl
  refine sq_nil ?_
  refine sq_then ?_
  refine cq_seq ?_
  refine cq_seq ?_
  refine cq_region ?_
  apply sq_g; exact g_move (s := .av _) rfl; exact rfl
  apply sq_g; exact g_len rfl; exact rfl
  apply sq_g; exact g_move (s := .av (.val (.int _ _))) rfl; exact rfl
  refine sq_nil ?_
  refine sq_then ?_
  refine cq_block ?_
  refine cq_loop (γ := Nat) (fun k => [(0, .av (fs L)), (1, .av (kcl g cap)), (6, .av (fs L)), (7, .av (vi L.length)), (8, .av (vi k))]) (fun _ => []) (fun k => k ≤ L.length ∧ ∀ j, j < k → p (gf L j) = false) (fun k => L.length - k) 0 ⟨Nat.zero_le _, by omega⟩ (ent ⟨.refl _, .refl _, .refl _, .refl _, .refl _, trivial⟩ trivial) ?_
  rintro k ⟨hk, hall⟩
  refine cq_seq ?_
  refine cq_region ?_
  apply sq_g; exact g_cmp rfl rfl rfl; exact rfl
  refine sq_nil ?_
  refine sq_then ?_
  refine cq_seq ?_
  (refine cq_cond rfl (fun hb => ?_) (fun hb => ?_) <;> (try simp only [decide_eq_true_eq, decide_eq_false_iff_not, beq_iff_eq, beq_eq_false_iff_ne, bne_iff_ne, bne_eq_false_iff_eq, ne_eq, Bool.not_eq_true', Bool.not_eq_false', Bool.and_eq_true, Bool.or_eq_true, Bool.and_eq_false_iff, Bool.or_eq_false_iff] at hb) <;> (try (exfalso; omega)))
  · have hkl : k < L.length := by omega
    have hgk := hg _ (gf_mem hkl)
    refine cq_skip ?_
    refine sq_then ?_
    refine cq_seq ?_
    refine cq_block ?_
    refine cq_seq ?_
    refine cq_region ?_
    apply sq_g; exact g_move (s := .av (.val (.int _ _))) rfl; exact rfl
    apply sq_g; exact g_assign (s := .av (.val (.int _ _))) rfl; exact rfl
    refine sq_nil ?_
    refine sq_then ?_
    refine cq_seq ?_
    refine cq_region ?_
    apply sq_g; exact g_move (s := .av _) rfl; exact rfl
    apply sq_g; exact g_move (s := .av _) rfl; exact rfl
    apply sq_g; exact g_move (s := .av (.val (.int _ _))) rfl; exact rfl
    apply sq_g; exact g_index rfl rfl rfl (by omega); exact rfl
    apply sq_g; exact  g_load_aggv rfl rfl; exact rfl
    apply sq_g; exact  g_callc (τs := [_]) (n := 1) (cf := fun i => [cap].getD i .any) hgk rfl rfl; exact rfl
    refine sq_nil ?_
    refine sq_then ?_
    (refine cq_cond rfl (fun hb => ?_) (fun hb => ?_) <;> (try simp only [decide_eq_true_eq, decide_eq_false_iff_not, beq_iff_eq, beq_eq_false_iff_ne, bne_iff_ne, bne_eq_false_iff_eq, ne_eq, Bool.not_eq_true', Bool.not_eq_false', Bool.and_eq_true, Bool.or_eq_true, Bool.and_eq_false_iff, Bool.or_eq_false_iff] at hb) <;> (try (exfalso; omega)))
    · have e1 := ixB_hit (p := fun k => p (gf L k)) hkl hall hb
      refine cq_seq ?_
      refine cq_region ?_
      apply sq_g; exact g_move (s := .av (.val (.int _ _))) rfl; exact rfl
      apply sq_g; exact g_assign (s := .av (.val (.int _ _))) rfl; exact rfl
      refine sq_nil ?_
      refine sq_then ?_
      refine cq_ret ?_
      refine sq_inBlock_ret ?_
      refine sq_then_ret ?_
      refine sq_then_ret ?_
      refine sq_inBlock_ret ?_
      refine sq_then_ret ?_
      exact sq_res1 rfl (.tmp rfl) (by rw [e1])
    · refine cq_skip ?_
      refine sq_then ?_
      refine cq_region ?_
      apply sq_g; exact g_arith rfl rfl rfl (by omega); exact rfl
      apply sq_g; exact g_move (s := .av (.val (.int _ _))) rfl; exact rfl
      refine sq_nil ?_
      exact sq_round (k + 1) ⟨by omega, flt_step (p := fun k => p (gf L k)) hall (by simpa using hb)⟩ (by omega) (ent ⟨.refl _, .refl _, .refl _, .refl _, .int (by omega), trivial⟩ trivial)
  · have hkl : k = L.length := by omega
    subst hkl
    have e1 := ixB_no (p := fun k => p (gf L k)) hall
    refine cq_exit ?_
    refine sq_then ?_
    refine cq_seq ?_
    refine cq_region ?_
    apply sq_g; exact g_assign (s := .av (.val (.int _ _))) rfl; exact rfl
    refine sq_nil ?_
    refine sq_then ?_
    refine cq_ret ?_
    exact sq_res1 rfl (.tmp rfl) (by rw [e1])
theorem any68_c {p : Fc → Bool} {g : Nat} {cap : AV} (L : List Fc) (hn : L.length ≤ 1000) (hg : ∀ f ∈ L, CtrA Tryz.prog g [fca f, cap] (vb (p f))) : CtrA Tryz.prog 68 [fs L, kcl g cap] (vb ((List.range L.length).any fun k => p (gf L k))) := by
  refine ctrA _ Tryz.func68 rfl rfl Tryz.ntmps68 rfl fun w Z => ?_
  have hi := idx93_c L hn hg
  simp only [initT, List.map_cons, List.map_nil, Nat.zero_add, Nat.reduceAdd]
  refine cq_seq ?_
  refine cq_region ?_
  apply sq_g; exact g_assign (s := .av (.val (.bool _))) rfl; exact rfl
  refine sq_nil ?_
  refine sq_then ?_
  refine cq_seq ?_
  refine cq_region ?_
  apply sq_g; exact g_move (s := .av _) rfl; exact rfl
  apply sq_g; exact g_move (s := .av _) rfl; exact rfl
  apply sq_g; exact g_call (hi) rfl; exact rfl
  apply sq_g; exact g_cmp rfl rfl rfl; exact rfl
  apply sq_g; exact g_assign (s := .av (.val (.bool _))) rfl; exact rfl
  refine sq_nil ?_
  refine sq_then ?_
  refine cq_ret ?_
  exact sq_res1 rfl (.tmp rfl) (congrArg vb (ix_any _ _))
theorem fac_bt {l : List Tr} (hl : RT l) {f : Fc} (h : f ∈ facetsL l) : BT 1000000000000 f.n := (fac_bd hl h).1
theorem tb96 (p q : Option Addr) (n k m j : Nat) : Tryz.prog.built 96 ([0, 1].zip [.slice p n k, .slice q m j]) = some [Value.slice p n k, .slice q m j].toArray := by kernel_rfl
def two (a b : AV) : Nat → AV
  | 0 => a
  | _+1 => b
theorem mk96 (l M : List Tr) (Z : Zone) (w : World) (vs : List Value) (h : All2 (fun τ v => AV.ok Z w τ v) [ts l, ts M] vs) : ∃ cs : List Value, Tryz.prog.built 96 ([0, 1].zip vs) = some cs.toArray ∧ cs.length = 2 ∧ ∀ i, i < 2 → ∃ u, cs[i]? = some u ∧ (two (ts l) (ts M) i).ok Z w u := by
  match vs, h with
  | [a, b], ⟨h1, h2, _⟩ =>
    obtain ⟨p, c, rfl, h3⟩ := id h1
    obtain ⟨q, k, rfl, h4⟩ := id h2
    refine ⟨_, tb96 _ _ _ _ _ _, rfl, fun i hi => ?_⟩
    rcases (by omega : i = 0 ∨ i = 1) with rfl | rfl
    · exact ⟨_, rfl, h1⟩
    · exact ⟨_, rfl, h2⟩
theorem ix96_0 (a b : Value) (w : World) : (Instr.index 96 (.agg #[a, b]) (.int .i64 0)).run Tryz.prog w = .ok a w := by kernel_rfl
theorem ix96_1 (a b : Value) (w : World) : (Instr.index 96 (.agg #[a, b]) (.int .i64 1)).run Tryz.prog w = .ok b w := by kernel_rfl
theorem g_index96 {E : Env} {T : Tab} {O : Go.Vc.Own} {d : Option Tmp} {ty : TypeId} {pos : String} {af : Array Edge} {g : Option (Nat × Bool)} {x y : Operand} {f : Nat → AV} {i : Int} {k : Nat} (hx : T.ev x = .av (.agg 2 f)) (hy : T.ev y = .av (.val (.int .i64 i))) (hi : i = ↑k) (hk : k < 2) : GV Tryz.prog E ⟨d, .index 96 x y, ty, pos, af, g⟩ T O (.av (f k)) [] [] :=
  gv_pure [] fun Z ν a w h _ => by
    obtain ⟨cs, e1, e2, e3⟩ := agg_ok hx (h x (by simp [Op.operands]))
    have hvi := val_ok hy (h y (by simp [Op.operands]))
    subst hi
    match cs, e2 with
    | [c0, c1], _ =>
      rcases (by omega : k = 0 ∨ k = 1) with rfl | rfl
      · obtain ⟨u, q1, q2⟩ := e3 0 (by omega)
        simp at q1; subst q1
        have hr := ix96_0 c0 c1 w
        exact ⟨c0, by simp [execOp, e1, hvi, hr], q2⟩
      · obtain ⟨u, q1, q2⟩ := e3 1 (by omega)
        simp at q1; subst q1
        have hr := ix96_1 c0 c1 w
        exact ⟨c1, by simp [execOp, e1, hvi, hr], q2⟩
theorem inside3_c (l : List Tr) (p : Tr) (hl : RT l) (h6 : l.length ≤ 6) (hc : chkT l = 0) (hp : rightT p = true) (hd : (spn l).dim = 3) : CtrA Tryz.prog 39 [ts l, tp p] (tupOf [vb (!((List.range (facetsL l).length).any fun k => outB p (gf (facetsL l) k))), vi 0]) := by
  have hc1 := check_c l
  rw [hc] at hc1
  have hc2 := check_c [p]
  rw [show chkT [p] = 0 from by simp [chkT, hp]] at hc2
  have hpb := right_bt hp
  have hv := (vectors_c l (by omega)).ro
  have ho := of_c p
  have hs := spanned_c l hl (by omega)
  have hf := (facets_c l hl h6).ro
  have lF := facets_len l h6
  generalize spn l = s at hs hd
  obtain ⟨sd, sp, sw⟩ := s
  simp only at hd
  subst hd
  have hk := any68_c (g := 70) (p := outB p) (cap := bt p) (facetsL l) lF (fun f hf => ins70_c f p (fac_bt hl hf) hpb)
  generalize (List.range (facetsL l).length).any (fun k => outB p (gf (facetsL l) k)) = q at hk ⊢
  generalize facetsL l = L at hf hk lF
  refine ctrA _ Tryz.func39 rfl rfl Tryz.ntmps39 rfl fun w Z => ?_
  simp only [initT, List.map_cons, List.map_nil, Nat.zero_add, Nat.reduceAdd]
  refine cq_seq ?_
  refine cq_region ?_
  apply sq_g; exact g_box_agg rfl; exact rfl
  apply sq_g; exact g_assign (s := .av (.val (.bool _))) rfl; exact rfl
  apply sq_g; exact g_assign (s := .av (.val (.int _ _))) rfl; exact rfl
  refine sq_nil ?_
  refine sq_then ?_
  refine cq_seq ?_
  refine cq_seq ?_
  refine cq_region ?_
  apply sq_g; exact g_move (s := .av _) rfl; exact rfl
  apply sq_g; exact g_load_agg (us := [.int _ _, .int _ _, .int _ _]) rfl rfl rfl rfl; exact rfl
  apply sq_g; exact  g_bslice (is := [0]) (xs := [_]) (vs := [_]) (us := [_, _, _]) (tq22 _ _ _) rfl rfl rfl (tf_row p); exact rfl
  have hmk := mk96 l [p]
  apply sq_g; exact  g_build_gen (is := [0, 1]) (xs := [_, _]) (τs := [_, _]) rfl rfl hmk; exact rfl
  apply sq_g; exact g_move (s := .av (.val (.int _ _))) rfl; exact rfl
  refine sq_nil ?_
  refine sq_then ?_
  refine cq_block ?_
  refine cq_loop (γ := Nat) (fun k => [(0, .av (ts l)), (3, .av (bt p)), (19, .av (.agg 2 (two (ts l) (ts [p])))), (20, .av (vi k))]) (fun _ => []) (fun k => k ≤ 2) (fun k => 2 - k) 0 (by omega) (ent ⟨.refl _, .refl _, .refl _, .refl _, trivial⟩ trivial) ?_
  intro k hk2
  refine cq_seq ?_
  refine cq_region ?_
  apply sq_g; exact g_cmp rfl rfl rfl; exact rfl
  refine sq_nil ?_
  refine sq_then ?_
  refine cq_seq ?_
  (refine cq_cond rfl (fun hb => ?_) (fun hb => ?_) <;> (try simp only [decide_eq_true_eq, decide_eq_false_iff_not, beq_iff_eq, beq_eq_false_iff_ne, bne_iff_ne, bne_eq_false_iff_eq, ne_eq, Bool.not_eq_true', Bool.not_eq_false', Bool.and_eq_true, Bool.or_eq_true, Bool.and_eq_false_iff, Bool.or_eq_false_iff] at hb) <;> (try (exfalso; omega)))
  · rcases (by omega : k = 0 ∨ k = 1) with rfl | rfl
    · refine cq_skip ?_
      refine sq_then ?_
      refine cq_seq ?_
      refine cq_block ?_
      refine cq_seq ?_
      refine cq_region ?_
      apply sq_g; exact  g_index96 (k := 0) rfl rfl rfl (by decide); exact rfl
      apply sq_g; exact g_assign (s := .av _) rfl; exact rfl
      refine sq_nil ?_
      refine sq_then ?_
      refine cq_seq ?_
      refine cq_region ?_
      apply sq_g; exact g_move (s := .av _) rfl; exact rfl
      apply sq_g; exact g_call (hc1) rfl; exact rfl
      apply sq_g; exact g_assign (s := .av (.val (.int _ _))) rfl; exact rfl
      refine sq_nil ?_
      refine sq_then ?_
      refine cq_seq ?_
      refine cq_region ?_
      apply sq_g; exact g_move (s := .av (.val (.int _ _))) rfl; exact rfl
      apply sq_g; exact g_cmp rfl rfl rfl; exact rfl
      refine sq_nil ?_
      refine sq_then ?_
      refine cq_cond_f rfl ?_
      refine cq_skip ?_
      refine sq_then ?_
      refine cq_region ?_
      apply sq_g; exact g_arith rfl rfl rfl (by omega); exact rfl
      apply sq_g; exact g_move (s := .av (.val (.int _ _))) rfl; exact rfl
      refine sq_nil ?_
      exact sq_round 1 (by omega) (by omega) (ent ⟨.refl _, .refl _, .refl _, .int (by omega), trivial⟩ trivial)
    · refine cq_skip ?_
      refine sq_then ?_
      refine cq_seq ?_
      refine cq_block ?_
      refine cq_seq ?_
      refine cq_region ?_
      apply sq_g; exact  g_index96 (k := 1) rfl rfl rfl (by decide); exact rfl
      apply sq_g; exact g_assign (s := .av _) rfl; exact rfl
      refine sq_nil ?_
      refine sq_then ?_
      refine cq_seq ?_
      refine cq_region ?_
      apply sq_g; exact g_move (s := .av _) rfl; exact rfl
      apply sq_g; exact g_call (hc2) rfl; exact rfl
      apply sq_g; exact g_assign (s := .av (.val (.int _ _))) rfl; exact rfl
      refine sq_nil ?_
      refine sq_then ?_
      refine cq_seq ?_
      refine cq_region ?_
      apply sq_g; exact g_move (s := .av (.val (.int _ _))) rfl; exact rfl
      apply sq_g; exact g_cmp rfl rfl rfl; exact rfl
      refine sq_nil ?_
      refine sq_then ?_
      refine cq_cond_f rfl ?_
      refine cq_skip ?_
      refine sq_then ?_
      refine cq_region ?_
      apply sq_g; exact g_arith rfl rfl rfl (by omega); exact rfl
      apply sq_g; exact g_move (s := .av (.val (.int _ _))) rfl; exact rfl
      refine sq_nil ?_
      exact sq_round 2 (by omega) (by omega) (ent ⟨.refl _, .refl _, .refl _, .int (by omega), trivial⟩ trivial)
  · refine cq_exit ?_
    refine sq_then ?_
    refine cq_seq ?_
    refine cq_drawn ?_
    apply dq_g; exact g_move (s := .av _) rfl; exact rfl
    apply dq_g; exact g_call (hv) rfl; exact rfl
    apply dq_g; exact g_load_agg (us := [.int _ _, .int _ _, .int _ _]) rfl rfl rfl rfl; exact rfl
    apply dq_g; exact g_call (ho) rfl; exact rfl
    refine dq_v (ga_alloc 10) rfl rfl ?_
    apply dq_g; exact g_assign (s := .av _) rfl; exact rfl
    refine dq_s (g_store_agg rfl rfl rfl rfl rfl rfl) ?_
    refine dq_nil tm (by kernel_rfl) ?_
    refine sq_then ?_
    refine cq_seq ?_
    refine cq_region ?_
    apply sq_g; exact g_move (s := .av _) rfl; exact rfl
    apply sq_g; exact g_call (hs) rfl; exact rfl
    refine lsq_ent (ent_freezec 10 10 (fun i => .val ([Go.Value.int .i64 p.x, .int .i64 p.y, .int .i64 p.z].getD i Go.undef)) rfl rfl rfl) ?_
    refine sq_v (f_alloc 10 rfl) rfl ?_
    refine sq_s (g_store_agg rfl rfl rfl rfl rfl rfl) ?_
    refine sq_nil ?_
    refine sq_then ?_
    refine cq_seq ?_
    refine cq_seq ?_
    refine cq_region ?_
    apply sq_g; exact g_field_own rfl; exact rfl
    apply sq_g; exact g_load_own (s := .av (.val (.int _ _))) rfl rfl rfl; exact rfl
    refine sq_nil ?_
    refine sq_then ?_
    refine cq_block ?_
    refine cq_seq ?_
    refine cq_region ?_
    apply sq_g; exact g_cmp rfl rfl rfl; exact rfl
    apply sq_g; exact g_assign (s := .av (.val (.bool _))) rfl; exact rfl
    refine sq_nil ?_
    refine sq_then ?_
    refine cq_cond_f rfl ?_
    refine cq_seq ?_
    refine cq_region ?_
    apply sq_g; exact g_cmp rfl rfl rfl; exact rfl
    apply sq_g; exact g_assign (s := .av (.val (.bool _))) rfl; exact rfl
    refine sq_nil ?_
    refine sq_then ?_
    refine cq_cond_f rfl ?_
    refine cq_seq ?_
    refine cq_region ?_
    apply sq_g; exact g_cmp rfl rfl rfl; exact rfl
    apply sq_g; exact g_assign (s := .av (.val (.bool _))) rfl; exact rfl
    refine sq_nil ?_
    refine sq_then ?_
    refine cq_cond_f rfl ?_
    refine cq_seq ?_
    refine cq_region ?_
    apply sq_g; exact g_cmp rfl rfl rfl; exact rfl
    apply sq_g; exact g_assign (s := .av (.val (.bool _))) rfl; exact rfl
    refine sq_nil ?_
    refine sq_then ?_
    refine cq_cond_f rfl ?_
    refine cq_skip ?_
    refine sq_then ?_
    refine cq_seq ?_
    refine cq_region ?_
    apply sq_g; exact g_move (s := .av _) rfl; exact rfl
    apply sq_g; exact g_call (hf) rfl; exact rfl
    apply sq_g; exact g_makeFunc (τs := [_]) rfl; exact rfl
    apply sq_g; exact g_call (hk) rfl; exact rfl
    apply sq_g; exact g_not rfl; exact rfl
    apply sq_g; exact g_assign (s := .av (.val (.bool _))) rfl; exact rfl
    apply sq_g; exact g_assign (s := .av (.val (.int _ _))) rfl; exact rfl
    refine sq_nil ?_
    refine sq_then ?_
    refine cq_ret ?_
    exact sq_resN (rvs := [_, _]) (τs := [_, _]) rfl rfl ⟨.tmp rfl, .tmp rfl, trivial⟩ rfl
theorem inside2_c (l : List Tr) (p : Tr) (hl : RT l) (h6 : l.length ≤ 6) (hc : chkT l = 0) (hp : rightT p = true) (hd : (spn l).dim = 2) (hne : tdot (tpr (spn l).way) (tsub p (spn l).pt) ≠ 0) : CtrA Tryz.prog 39 [ts l, tp p] (tupOf [vb false, vi 0]) := by
  have hc1 := check_c l
  rw [hc] at hc1
  have hc2 := check_c [p]
  rw [show chkT [p] = 0 from by simp [chkT, hp]] at hc2
  have hpb := right_bt hp
  have hv := (vectors_c l (by omega)).ro
  have ho := of_c p
  have hs := spanned_c l hl (by omega)
  have hok := SpOk.to hl l.length
  rw [show spTo l l.length = spn l from rfl] at hok
  have hpt := hok.pt
  have hw : BT 80000000000 (spn l).way := by
    rcases hok.dim with e | e | e | e | e
    · omega
    · omega
    · exact e.2.le (by decide)
    · exact e.2.le (by decide)
    · omega
  generalize spn l = s at hs hd hne hpt hw
  obtain ⟨sd, sp, sw⟩ := s
  simp only at hd hne hpt hw
  subst hd
  have k1 := prim_c sw (hw.le (by decide))
  have k2 := minus_c p sp (hpb.le (by decide)) (hpt.le (by decide))
  have k3 := dot_c (tpr sw) (tsub p sp) hw.pr (hpb.sub hpt) (by decide)
  generalize tdot (tpr sw) (tsub p sp) = q at k3 hne
  generalize tsub p sp = d at k2 k3
  generalize tpr sw = n at k1 k3
  clear hw hpt hok hpb
  refine ctrA _ Tryz.func39 rfl rfl Tryz.ntmps39 rfl fun w Z => ?_
  have hmk := mk96 l [p]
  simp only [initT, List.map_cons, List.map_nil, Nat.zero_add, Nat.reduceAdd]
  refine cq_seq ?_
  refine cq_region ?_
  apply sq_g; exact g_box_agg rfl; exact rfl
  apply sq_g; exact g_assign (s := .av (.val (.bool _))) rfl; exact rfl
  apply sq_g; exact g_assign (s := .av (.val (.int _ _))) rfl; exact rfl
  refine sq_nil ?_
  refine sq_then ?_
  refine cq_seq ?_
  refine cq_seq ?_
  refine cq_region ?_
  apply sq_g; exact g_move (s := .av _) rfl; exact rfl
  apply sq_g; exact g_load_agg (us := [.int _ _, .int _ _, .int _ _]) rfl rfl rfl rfl; exact rfl
  apply sq_g; exact  g_bslice (is := [0]) (xs := [_]) (vs := [_]) (us := [_, _, _]) (tq22 _ _ _) rfl rfl rfl (tf_row p); exact rfl
  apply sq_g; exact  g_build_gen (is := [0, 1]) (xs := [_, _]) (τs := [_, _]) rfl rfl hmk; exact rfl
  apply sq_g; exact g_move (s := .av (.val (.int _ _))) rfl; exact rfl
  refine sq_nil ?_
  refine sq_then ?_
  refine cq_block ?_
  refine cq_loop (γ := Nat) (fun k => [(0, .av (ts l)), (3, .av (bt p)), (19, .av (.agg 2 (two (ts l) (ts [p])))), (20, .av (vi k))]) (fun _ => []) (fun k => k ≤ 2) (fun k => 2 - k) 0 (by omega) (ent ⟨.refl _, .refl _, .refl _, .refl _, trivial⟩ trivial) ?_
  intro k hk2
  refine cq_seq ?_
  refine cq_region ?_
  apply sq_g; exact g_cmp rfl rfl rfl; exact rfl
  refine sq_nil ?_
  refine sq_then ?_
  refine cq_seq ?_
  (refine cq_cond rfl (fun hb => ?_) (fun hb => ?_) <;> (try simp only [decide_eq_true_eq, decide_eq_false_iff_not, beq_iff_eq, beq_eq_false_iff_ne, bne_iff_ne, bne_eq_false_iff_eq, ne_eq, Bool.not_eq_true', Bool.not_eq_false', Bool.and_eq_true, Bool.or_eq_true, Bool.and_eq_false_iff, Bool.or_eq_false_iff] at hb) <;> (try (exfalso; omega)))
  · rcases (by omega : k = 0 ∨ k = 1) with rfl | rfl
    · refine cq_skip ?_
      refine sq_then ?_
      refine cq_seq ?_
      refine cq_block ?_
      refine cq_seq ?_
      refine cq_region ?_
      apply sq_g; exact  g_index96 (k := 0) rfl rfl rfl (by decide); exact rfl
      apply sq_g; exact g_assign (s := .av _) rfl; exact rfl
      refine sq_nil ?_
      refine sq_then ?_
      refine cq_seq ?_
      refine cq_region ?_
      apply sq_g; exact g_move (s := .av _) rfl; exact rfl
      apply sq_g; exact g_call (hc1) rfl; exact rfl
      apply sq_g; exact g_assign (s := .av (.val (.int _ _))) rfl; exact rfl
      refine sq_nil ?_
      refine sq_then ?_
      refine cq_seq ?_
      refine cq_region ?_
      apply sq_g; exact g_move (s := .av (.val (.int _ _))) rfl; exact rfl
      apply sq_g; exact g_cmp rfl rfl rfl; exact rfl
      refine sq_nil ?_
      refine sq_then ?_
      refine cq_cond_f rfl ?_
      refine cq_skip ?_
      refine sq_then ?_
      refine cq_region ?_
      apply sq_g; exact g_arith rfl rfl rfl (by omega); exact rfl
      apply sq_g; exact g_move (s := .av (.val (.int _ _))) rfl; exact rfl
      refine sq_nil ?_
      exact sq_round 1 (by omega) (by omega) (ent ⟨.refl _, .refl _, .refl _, .int (by omega), trivial⟩ trivial)
    · refine cq_skip ?_
      refine sq_then ?_
      refine cq_seq ?_
      refine cq_block ?_
      refine cq_seq ?_
      refine cq_region ?_
      apply sq_g; exact  g_index96 (k := 1) rfl rfl rfl (by decide); exact rfl
      apply sq_g; exact g_assign (s := .av _) rfl; exact rfl
      refine sq_nil ?_
      refine sq_then ?_
      refine cq_seq ?_
      refine cq_region ?_
      apply sq_g; exact g_move (s := .av _) rfl; exact rfl
      apply sq_g; exact g_call (hc2) rfl; exact rfl
      apply sq_g; exact g_assign (s := .av (.val (.int _ _))) rfl; exact rfl
      refine sq_nil ?_
      refine sq_then ?_
      refine cq_seq ?_
      refine cq_region ?_
      apply sq_g; exact g_move (s := .av (.val (.int _ _))) rfl; exact rfl
      apply sq_g; exact g_cmp rfl rfl rfl; exact rfl
      refine sq_nil ?_
      refine sq_then ?_
      refine cq_cond_f rfl ?_
      refine cq_skip ?_
      refine sq_then ?_
      refine cq_region ?_
      apply sq_g; exact g_arith rfl rfl rfl (by omega); exact rfl
      apply sq_g; exact g_move (s := .av (.val (.int _ _))) rfl; exact rfl
      refine sq_nil ?_
      exact sq_round 2 (by omega) (by omega) (ent ⟨.refl _, .refl _, .refl _, .int (by omega), trivial⟩ trivial)
  · refine cq_exit ?_
    refine sq_then ?_
    refine cq_seq ?_
    refine cq_drawn ?_
    apply dq_g; exact g_move (s := .av _) rfl; exact rfl
    apply dq_g; exact g_call (hv) rfl; exact rfl
    apply dq_g; exact g_load_agg (us := [.int _ _, .int _ _, .int _ _]) rfl rfl rfl rfl; exact rfl
    apply dq_g; exact g_call (ho) rfl; exact rfl
    refine dq_v (ga_alloc 10) rfl rfl ?_
    apply dq_g; exact g_assign (s := .av _) rfl; exact rfl
    refine dq_s (g_store_agg rfl rfl rfl rfl rfl rfl) ?_
    refine dq_nil tm (by kernel_rfl) ?_
    refine sq_then ?_
    refine cq_seq ?_
    refine cq_region ?_
    apply sq_g; exact g_move (s := .av _) rfl; exact rfl
    apply sq_g; exact g_call (hs) rfl; exact rfl
    refine sq_v (f_alloc 11 rfl) rfl ?_
    refine sq_s (g_store_agg rfl rfl rfl rfl rfl rfl) ?_
    refine sq_nil ?_
    refine sq_then ?_
    refine cq_seq ?_
    refine cq_seq ?_
    refine cq_region ?_
    apply sq_g; exact g_field_own rfl; exact rfl
    apply sq_g; exact g_load_own (s := .av (.val (.int _ _))) rfl rfl rfl; exact rfl
    refine sq_nil ?_
    refine sq_then ?_
    refine cq_block ?_
    refine cq_seq ?_
    refine cq_region ?_
    apply sq_g; exact g_cmp rfl rfl rfl; exact rfl
    apply sq_g; exact g_assign (s := .av (.val (.bool _))) rfl; exact rfl
    refine sq_nil ?_
    refine sq_then ?_
    refine cq_cond_f rfl ?_
    refine cq_seq ?_
    refine cq_region ?_
    apply sq_g; exact g_cmp rfl rfl rfl; exact rfl
    apply sq_g; exact g_assign (s := .av (.val (.bool _))) rfl; exact rfl
    refine sq_nil ?_
    refine sq_then ?_
    refine cq_cond_f rfl ?_
    refine cq_seq ?_
    refine cq_region ?_
    apply sq_g; exact g_cmp rfl rfl rfl; exact rfl
    apply sq_g; exact g_assign (s := .av (.val (.bool _))) rfl; exact rfl
    refine sq_nil ?_
    refine sq_then ?_
    refine cq_cond_f rfl ?_
    refine cq_seq ?_
    refine cq_region ?_
    apply sq_g; exact g_cmp rfl rfl rfl; exact rfl
    apply sq_g; exact g_assign (s := .av (.val (.bool _))) rfl; exact rfl
    refine sq_nil ?_
    refine sq_then ?_
    refine cq_cond_t rfl ?_
    refine cq_seq ?_
    refine cq_region ?_
    apply sq_g; exact g_field_own rfl; exact rfl
    apply sq_g; exact g_load_own_agg (us := [.int _ _, .int _ _, .int _ _]) rfl rfl rfl rfl; exact rfl
    apply sq_g; exact g_call (k1) rfl; exact rfl
    refine sq_v (f_alloc 12 rfl) rfl ?_
    refine sq_s (g_store_agg rfl rfl rfl rfl rfl rfl) ?_
    refine sq_nil ?_
    refine sq_then ?_
    refine cq_seq ?_
    refine cq_seq ?_
    refine cq_drawn ?_
    apply dq_g; exact g_load_own_agg (us := [.int _ _, .int _ _, .int _ _]) rfl rfl rfl rfl; exact rfl
    apply dq_g; exact g_load_own_agg (us := [.int _ _, .int _ _, .int _ _]) rfl rfl rfl rfl; exact rfl
    apply dq_g; exact g_field_own rfl; exact rfl
    apply dq_g; exact g_load_own_agg (us := [.int _ _, .int _ _, .int _ _]) rfl rfl rfl rfl; exact rfl
    apply dq_g; exact g_call (k2) rfl; exact rfl
    apply dq_g; exact g_call (k3) rfl; exact rfl
    apply dq_g; exact g_cmp rfl rfl rfl; exact rfl
    refine dq_nil tm (by kernel_rfl) ?_
    refine sq_then ?_
    (refine cq_cond rfl (fun hb => ?_) (fun hb => ?_) <;> (try simp only [decide_eq_true_eq, decide_eq_false_iff_not, beq_iff_eq, beq_eq_false_iff_ne, bne_iff_ne, bne_eq_false_iff_eq, ne_eq, Bool.not_eq_true', Bool.not_eq_false', Bool.and_eq_true, Bool.or_eq_true, Bool.and_eq_false_iff, Bool.or_eq_false_iff] at hb) <;> (try (exfalso; omega)))
    refine cq_seq ?_
    refine cq_region ?_
    apply sq_g; exact g_assign (s := .av (.val (.bool _))) rfl; exact rfl
    apply sq_g; exact g_assign (s := .av (.val (.int _ _))) rfl; exact rfl
    refine sq_nil ?_
    refine sq_then ?_
    refine cq_ret ?_
    refine sq_then_ret ?_
    refine sq_inBlock_ret ?_
    refine sq_then_ret ?_
    exact sq_resN (rvs := [_, _]) (τs := [_, _]) rfl rfl ⟨.tmp rfl, .tmp rfl, trivial⟩ rfl
end Go.Proofs.YtdoppiajbpmmkaaGreat
namespace Go.Proofs.YtdoppiajbpmmkaaGreat
open Go Go.Vc Go.RowKit
set_option maxHeartbeats 8000000
/-! KDQ -/
theorem rng37_c (l : List Tr) (a : Int) : CtrA Tryz.prog 37 [vi a, bx (ts l)] (vb (decide (a < 0) || decide ((l.length : Int) ≤ a))) := by
  refine ctrA _ Tryz.func37 rfl rfl Tryz.ntmps37 rfl fun w Z => ?_
  simp only [initT, List.map_cons, List.map_nil, Nat.zero_add, Nat.reduceAdd]
  focus
    refine cq_seq ?_
    refine cq_region ?_
    apply sq_g; exact g_assign (s := .av (.val (.bool _))) rfl; exact rfl
    refine sq_nil ?_
    refine sq_then ?_
    refine cq_seq ?_
    refine cq_region ?_
    apply sq_g; exact g_move (s := .av (.val (.int _ _))) rfl; exact rfl
    apply sq_g; exact g_cmp rfl rfl rfl; exact rfl
    apply sq_g; exact g_move (s := .av (.val (.bool _))) rfl; exact rfl
    refine sq_split rfl rfl (fun hb => ?_) (fun hb => ?_) <;> (try simp only [decide_eq_true_eq, decide_eq_false_iff_not, beq_iff_eq, beq_eq_false_iff_ne, bne_iff_ne, bne_eq_false_iff_eq, ne_eq, Bool.not_eq_true', Bool.not_eq_false', Bool.and_eq_true, Bool.or_eq_true, Bool.and_eq_false_iff, Bool.or_eq_false_iff] at hb) <;> (try (exfalso; omega))
    refine sq_off rfl rfl rfl rfl ?_
    refine sq_off rfl rfl rfl rfl ?_
    refine sq_off rfl rfl rfl rfl ?_
    refine sq_off rfl rfl rfl rfl ?_
    apply sq_g; exact g_pick (s := .av (.val (.bool _))) rfl rfl; exact rfl
    apply sq_g; exact g_assign (s := .av (.val (.bool _))) rfl; exact rfl
    refine sq_nil ?_
    refine sq_then ?_
    refine cq_ret ?_
    rotate_left
    apply sq_on; exact g_move (s := .av (.val (.int _ _))) rfl; exact rfl; exact rfl; exact rfl
    apply sq_on; exact g_load rfl rfl rfl; exact rfl; exact rfl; exact rfl
    apply sq_on; exact g_len rfl; exact rfl; exact rfl; exact rfl
    apply sq_on; exact g_cmp rfl rfl rfl; exact rfl; exact rfl; exact rfl
    apply sq_g; exact g_pick (s := .av (.val (.bool _))) rfl rfl; exact rfl
    apply sq_g; exact g_assign (s := .av (.val (.bool _))) rfl; exact rfl
    refine sq_nil ?_
    refine sq_then ?_
    refine cq_ret ?_
    rotate_left
  all_goals (refine sq_res1 rfl (.tmp rfl) (congrArg vb ?_); simp [*])
theorem eq38_c (a b : Fc) (hn : a.n = b.n) (hm : a.m = b.m) : CtrA Tryz.prog 38 [fca a, fca b] (vb true) := by
  refine ctrA _ Tryz.func38 rfl rfl Tryz.ntmps38 rfl fun w Z => ?_
  have hn' := (nn_iff a.n b.n).2 hn
  simp only [initT, List.map_cons, List.map_nil, Nat.zero_add, Nat.reduceAdd]
  focus
    refine cq_seq ?_
    refine cq_region ?_
    apply sq_g; exact  g_box_aggv rfl; exact rfl
    apply sq_g; exact  g_box_aggv rfl; exact rfl
    apply sq_g; exact g_assign (s := .av (.val (.bool _))) rfl; exact rfl
    refine sq_nil ?_
    refine sq_then ?_
    refine cq_seq ?_
    refine cq_region ?_
    apply sq_g; exact g_field rfl; exact rfl
    apply sq_g; exact g_load_agg (us := [.int _ _, .int _ _, .int _ _]) rfl rfl rfl rfl; exact rfl
    apply sq_g; exact g_field rfl; exact rfl
    apply sq_g; exact g_load_agg (us := [.int _ _, .int _ _, .int _ _]) rfl rfl rfl rfl; exact rfl
    apply sq_g; exact g_eql (xs := [_, _, _]) (ys := [_, _, _]) rfl rfl rfl rfl; exact rfl
    apply sq_g; exact g_move (s := .av (.val (.bool _))) rfl; exact rfl
    refine sq_split rfl rfl (fun hb => ?_) (fun hb => ?_) <;> (try simp only [decide_eq_true_eq, decide_eq_false_iff_not, beq_iff_eq, beq_eq_false_iff_ne, bne_iff_ne, bne_eq_false_iff_eq, ne_eq, Bool.not_eq_true', Bool.not_eq_false', Bool.and_eq_true, Bool.or_eq_true, Bool.and_eq_false_iff, Bool.or_eq_false_iff] at hb) <;> (try (exfalso; omega))
    apply sq_on; exact g_field rfl; exact rfl; exact rfl; exact rfl
    apply sq_on; exact g_load (τ := .val (.int _ _)) rfl rfl rfl; exact rfl; exact rfl; exact rfl
    apply sq_on; exact g_field rfl; exact rfl; exact rfl; exact rfl
    apply sq_on; exact g_load (τ := .val (.int _ _)) rfl rfl rfl; exact rfl; exact rfl; exact rfl
    apply sq_on; exact g_cmp rfl rfl rfl; exact rfl; exact rfl; exact rfl
    apply sq_g; exact g_pick (s := .av (.val (.bool _))) rfl rfl; exact rfl
    apply sq_g; exact g_assign (s := .av (.val (.bool _))) rfl; exact rfl
    refine sq_nil ?_
    refine sq_then ?_
    refine cq_ret ?_
    rotate_left
    refine sq_off rfl rfl rfl rfl ?_
    refine sq_off rfl rfl rfl rfl ?_
    refine sq_off rfl rfl rfl rfl ?_
    refine sq_off rfl rfl rfl rfl ?_
    refine sq_off rfl rfl rfl rfl ?_
    apply sq_g; exact g_pick (s := .av (.val (.bool _))) rfl rfl; exact rfl
    apply sq_g; exact g_assign (s := .av (.val (.bool _))) rfl; exact rfl
    refine sq_nil ?_
    refine sq_then ?_
    refine cq_ret ?_
    rotate_left
  all_goals (first | exact sq_res1 rfl (.tmp rfl) rfl | exact absurd hn' ‹_› | (refine sq_res1 rfl (.tmp rfl) (congrArg vb ?_); simp [hm]))
theorem eqfv_c (L M : List Fc) (hn : L.length ≤ 1000) (hlen : M.length = L.length) (hs : ∀ k, k < L.length → CtrA Tryz.prog 38 [fca (gf L k), fca (gf M k)] (vb true)) : CtrA Tryz.prog 36 [fs L, fs M, .val (.func (.func 38) #[] #[])] (vb true) := by
  refine ctrA _ Tryz.func36 rfl rfl Tryz.ntmps36 rfl fun w Z => ?_
  simp only [initT, List.map_cons, List.map_nil, Nat.zero_add, Nat.reduceAdd]
  refine cq_seq ?_
  refine cq_region ?_
  apply sq_g; exact g_assign (s := .av (.val (.bool _))) rfl; exact rfl
  refine sq_nil ?_
  refine sq_then ?_
  refine cq_seq ?_
  refine cq_seq ?_
  refine cq_region ?_
  apply sq_g; exact g_move (s := .av _) rfl; exact rfl
  apply sq_g; exact g_len rfl; exact rfl
  apply sq_g; exact g_move (s := .av _) rfl; exact rfl
  apply sq_g; exact g_len rfl; exact rfl
  apply sq_g; exact g_cmp rfl rfl rfl; exact rfl
  refine sq_nil ?_
  refine sq_then ?_
  (refine cq_cond rfl (fun hb => ?_) (fun hb => ?_) <;> (try simp only [decide_eq_true_eq, decide_eq_false_iff_not, beq_iff_eq, beq_eq_false_iff_ne, bne_iff_ne, bne_eq_false_iff_eq, ne_eq, Bool.not_eq_true', Bool.not_eq_false', Bool.and_eq_true, Bool.or_eq_true, Bool.and_eq_false_iff, Bool.or_eq_false_iff] at hb) <;> (try (exfalso; omega)))
  refine cq_skip ?_
  refine sq_then ?_
  refine cq_seq ?_
  refine cq_seq ?_
  refine cq_region ?_
  apply sq_g; exact g_move (s := .av _) rfl; exact rfl
  apply sq_g; exact g_len rfl; exact rfl
  apply sq_g; exact g_move (s := .av (.val (.int _ _))) rfl; exact rfl
  refine sq_nil ?_
  refine sq_then ?_
  refine cq_block ?_
  refine cq_loop (γ := Nat) (fun k => [(0, .av (fs L)), (1, .av (fs M)), (2, .av (.val (.func (.func 38) #[] #[]))), (15, .av (fs L)), (16, .av (vi L.length)), (17, .av (vi k))]) (fun _ => []) (fun k => k ≤ L.length) (fun k => L.length - k) 0 (Nat.zero_le _) (ent ⟨.refl _, .refl _, .refl _, .refl _, .refl _, .refl _, trivial⟩ trivial) ?_
  intro k hk
  refine cq_seq ?_
  refine cq_region ?_
  apply sq_g; exact g_cmp rfl rfl rfl; exact rfl
  refine sq_nil ?_
  refine sq_then ?_
  refine cq_seq ?_
  (refine cq_cond rfl (fun hb => ?_) (fun hb => ?_) <;> (try simp only [decide_eq_true_eq, decide_eq_false_iff_not, beq_iff_eq, beq_eq_false_iff_ne, bne_iff_ne, bne_eq_false_iff_eq, ne_eq, Bool.not_eq_true', Bool.not_eq_false', Bool.and_eq_true, Bool.or_eq_true, Bool.and_eq_false_iff, Bool.or_eq_false_iff] at hb) <;> (try (exfalso; omega)))
  · have hkl : k < L.length := by omega
    have hc := hs k hkl
    refine cq_skip ?_
    refine sq_then ?_
    refine cq_seq ?_
    refine cq_block ?_
    refine cq_seq ?_
    refine cq_region ?_
    apply sq_g; exact g_move (s := .av (.val (.int _ _))) rfl; exact rfl
    apply sq_g; exact g_index rfl rfl rfl (by omega); exact rfl
    apply sq_g; exact  g_load_aggv rfl rfl; exact rfl
    refine sq_v (f_alloc 10 rfl) rfl ?_
    apply sq_g; exact g_assign (s := .av (.val (.int _ _))) rfl; exact rfl
    refine sq_s (g_store_aggv rfl rfl (fcf_one (gf L k)) rfl rfl) ?_
    refine sq_nil ?_
    refine sq_then ?_
    refine cq_seq ?_
    refine cq_region ?_
    apply sq_g; exact g_move (s := .av _) rfl; exact rfl
    apply sq_g; exact g_move (s := .av (.val (.int _ _))) rfl; exact rfl
    apply sq_g; exact g_index rfl rfl rfl (by omega); exact rfl
    apply sq_g; exact  g_load_aggv rfl rfl; exact rfl
    refine sq_v (f_alloc 11 rfl) rfl ?_
    refine sq_s (g_store_aggv rfl rfl (fcf_one (gf M k)) rfl rfl) ?_
    refine sq_nil ?_
    refine sq_then ?_
    refine cq_seq ?_
    refine cq_region ?_
    apply sq_g; exact g_move (s := .av _) rfl; exact rfl
    apply sq_g; exact  g_load_own_aggv (f := fcf (gf L k)) rfl rfl rfl; exact rfl
    apply sq_g; exact  g_load_own_aggv (f := fcf (gf M k)) rfl rfl rfl; exact rfl
    apply sq_g; exact g_callv (hc) rfl rfl; exact rfl
    apply sq_g; exact g_not rfl; exact rfl
    refine sq_nil ?_
    refine sq_then ?_
    refine cq_cond_f rfl ?_
    refine cq_skip ?_
    refine sq_then ?_
    refine cq_region ?_
    apply sq_g; exact g_arith rfl rfl rfl (by omega); exact rfl
    apply sq_g; exact g_move (s := .av (.val (.int _ _))) rfl; exact rfl
    refine sq_nil ?_
    exact sq_round (k + 1) (by omega) (by omega) (ent ⟨.refl _, .refl _, .refl _, .refl _, .refl _, .int (by omega), trivial⟩ trivial)
  · refine cq_exit ?_
    refine sq_then ?_
    refine cq_seq ?_
    refine cq_region ?_
    apply sq_g; exact g_assign (s := .av (.val (.bool _))) rfl; exact rfl
    refine sq_nil ?_
    refine sq_then ?_
    refine cq_ret ?_
    exact sq_res1 rfl (.tmp rfl) rfl
theorem chk_sub {l M : List Tr} (h : chkT l = 0) (hs : ∀ k, k < M.length → ∃ x, x < l.length ∧ gt M k = gt l x) (hn : M.length ≤ 64) : chkT M = 0 := by
  unfold chkT at h ⊢
  rw [if_neg (by omega)]
  split at h
  · omega
  · rename_i h64
    have hall : l.all rightT = true := by
      cases e : l.all rightT with
      | true => rfl
      | false => rw [e] at h; simp at h
    rw [if_pos]
    rw [List.all_eq_true] at hall ⊢
    intro p hp
    obtain ⟨k, hk, rfl⟩ := List.getElem_of_mem hp
    rw [← gt_eq hk]
    obtain ⟨x, hx, e⟩ := hs k hk
    rw [e]; exact hall _ (gt_mem hx)
theorem right_of {l : List Tr} (h : chkT l = 0) {i : Nat} (hi : i < l.length) : rightT (gt l i) = true := by
  unfold chkT at h
  split at h
  · omega
  · cases e : l.all rightT with
    | true => exact List.all_eq_true.1 e _ (gt_mem hi)
    | false => rw [e] at h; simp at h
section
variable {l : List Tr}
theorem S3.ow_chk (s : S3 l) (h : chkT l = 0) : chkT (ow l) = 0 := chk_sub h (fun k hk => by
  obtain ⟨v, hv, e⟩ := ow_of hk
  exact ⟨v, (s.vxm hv).lt, e⟩) (by rw [ow_len]; have := VL_len l; have := s.h6; omega)
theorem S3.in_c (s : S3 l) (h : chkT l = 0) {i : Nat} (hi : i < l.length) : CtrA Tryz.prog 39 [ts (ow l), tp (gt l i)] (tupOf [vb true, vi 0]) := by
  have O := s.own
  have hc := inside3_c (ow l) (gt l i) O.hl O.h6 (s.ow_chk h) (right_of h hi) ((dim3_iff _).2 O.hS)
  rw [any_ff (p := fun k => outB (gt l i) (gf (facetsL (ow l)) k)) (fun k hk => decide_eq_false (by have := s.behind (gf_mem hk) hi; omega))] at hc
  exact hc
theorem S3.out_c (s : S3 l) (h : chkT l = 0) {i : Nat} (hi : i < (ow l).length) : CtrA Tryz.prog 39 [ts (wo (ow l) i), tp (gt (ow l) i)] (tupOf [vb false, vi 0]) := by
  have O := s.own
  have hlen := wo_len hi
  have hRT : RT (wo (ow l) i) := fun k => by rw [wo_gt hi]; exact O.hl _
  have h6 : (wo (ow l) i).length ≤ 6 := by have := O.h6; omega
  have hck : chkT (wo (ow l) i) = 0 := chk_sub (s.ow_chk h) (fun k hk => ⟨_, by split <;> omega, wo_gt hi k⟩) (by omega)
  have hr := right_of (s.ow_chk h) hi
  by_cases hd : (spn (wo (ow l) i)).dim = 3
  · have hc := inside3_c (wo (ow l) i) (gt (ow l) i) hRT h6 hck hr hd
    obtain ⟨g, hg⟩ := s.front hi
    obtain ⟨f, hf, hfm⟩ := sep_facet hRT ((dim3_iff _).1 hd) hg
    obtain ⟨k, hk, rfl⟩ := gf_of_mem hf
    rw [any_t (p := fun k => outB (gt (ow l) i) (gf (facetsL (wo (ow l) i)) k)) hk (decide_eq_true hfm)] at hc
    exact hc
  · obtain ⟨h2, hne⟩ := s.alone hi hd
    exact inside2_c (wo (ow l) i) (gt (ow l) i) hRT h6 hck hr h2 hne
theorem ow_step {k : Nat} (h : k < (VL l).length) : ((VL l).take (k + 1)).map (gt l) = ((VL l).take k).map (gt l) ++ [gt l (gi (VL l) k)] := by
  rw [gi_takeS h, List.map_append]; rfl
end
theorem tdel2_c (l : List Tr) (i : Nat) (hn : l.length ≤ 1000) (hi : i < l.length) : CtrH Tryz.prog 40 [.osl 1000, .av (vi i), .av (vi ((i : Int) + 1))] [(1000, .row 67 3 l.length (tf l))] (.osx 1000 3 0 (i + (l.length - (i + 1)))) [(1000, .row 67 3 l.length (delF l i))] := tdel_c l i hn hi
theorem sheds_c (l : List Tr) : CtrA Tryz.prog 8 [ts l] (vb true) := by
  have hA := awake_c
  by_cases hsol : l.length ≤ 6 ∧ chkT l = 0 ∧ Sol l
  case neg =>
    have h1 := lawsolid_n l hsol
    refine ctrA _ Tryz.func8 rfl rfl Tryz.ntmps8 rfl fun w Z => ?_
    simp only [initT, List.map_cons, List.map_nil, Nat.zero_add, Nat.reduceAdd]
    refine cq_seq ?_
    refine cq_region ?_
    apply sq_g; exact g_box rfl rfl; exact rfl
    apply sq_g; exact g_assign (s := .av (.val (.bool _))) rfl; exact rfl
    refine sq_nil ?_
    refine sq_then ?_
    refine cq_seq ?_
    refine cq_seq ?_
    refine cq_region ?_
    apply sq_g; exact g_load rfl rfl rfl; exact rfl
    apply sq_g; exact g_call (h1) rfl; exact rfl
    apply sq_g; exact g_not rfl; exact rfl
    refine sq_nil ?_
    refine sq_then ?_
    refine cq_cond_t rfl ?_
    refine cq_seq ?_
    refine cq_region ?_
    apply sq_g; exact g_call (hA) rfl; exact rfl
    apply sq_g; exact g_assign (s := .av (.val (.bool _))) rfl; exact rfl
    refine sq_nil ?_
    refine sq_then ?_
    refine cq_ret ?_
    refine sq_then_ret ?_
    all_goals exact sq_res1 rfl (.tmp rfl) rfl
  obtain ⟨h6, hc, hS⟩ := hsol
  have hf : few l := .inl h6
  have h1 := lawsolid_c l (fun _ _ => hS) (by omega) hf hc
  obtain ⟨hl, _⟩ := hf.le hc
  have S : S3 l := ⟨hl, h6, hS⟩
  have d3 := (dim3_iff l).2 hS
  have v1 := vert_c l hf
  have g1 := facs_q l hf
  have lF := facets_len l h6
  unfold vertQ at v1
  unfold facQ errF at g1
  rw [if_pos hc, hc] at v1
  rw [if_pos hc, if_pos hc, if_neg (by omega), if_neg (by omega)] at g1
  rw [S.vert] at v1
  have O := S.own
  have fo : few (ow l) := .inl O.h6
  have oc := S.ow_chk hc
  have od := (dim3_iff (ow l)).2 O.hS
  have g2 := facs_q (ow l) fo
  unfold facQ errF at g2
  rw [if_pos oc, if_pos oc, if_neg (by omega), if_neg (by omega)] at g2
  have hsh := S.shed
  have hshl : (facetsL l).length = (facetsL (ow l)).length := by have := congrArg List.length hsh; simpa using this.symm
  have q2 := eqfv_c (facetsL (ow l)) (facetsL l) (facets_len _ O.h6) hshl (fun k hk => by
    have hk2 : k < (facetsL l).length := by omega
    have e : strip (gf (facetsL (ow l)) k) = strip (gf (facetsL l) k) := by
      have : gf ((facetsL (ow l)).map strip) k = gf ((facetsL l).map strip) k := by rw [hsh]
      rwa [gf_map strip _ hk, gf_map strip _ hk2] at this
    unfold strip at e
    simp only [Fc.mk.injEq, and_true] at e
    exact eq38_c _ _ e.1 e.2)
  have hVn : (natL (VL l)).length = (VL l).length := by simp
  have hV4 : 4 ≤ (VL l).length := by have := O.four; rwa [ow_len] at this
  have hV6 : (VL l).length ≤ 6 := by have := VL_len l; omega
  have q1 := containsk_c (rng37_c l) (natL (VL l)) (by omega)
  rw [any_ff (fun i hi => by
    rw [hVn] at hi
    rw [gz_natL hi]
    have := (S.vxm (gi_mem hi)).lt
    simp; omega)] at q1
  have hin := fun {i} (hi : i < l.length) => S.in_c hc hi
  have hout := fun {i} (hi : i < (ow l).length) => S.out_c hc hi
  have hgi : ∀ k, k < (VL l).length → gi (VL l) k < l.length := fun k hk => (S.vxm (gi_mem hk)).lt
  have hcl := tclone_c (ow l) (by rw [ow_len]; omega) (by rw [ow_len]; omega)
  have hdl := fun {i} (hi : i < (ow l).length) => tdel2_c (ow l) i (by rw [ow_len]; omega) hi
  have eow : ow l = ((VL l).take (VL l).length).map (gt l) := by rw [List.take_length]; rfl
  have hol := ow_len l
  refine ctrA _ Tryz.func8 rfl rfl Tryz.ntmps8 rfl fun w Z => ?_
  simp only [initT, List.map_cons, List.map_nil, Nat.zero_add, Nat.reduceAdd]
  refine cq_seq ?_
  refine cq_region ?_
  apply sq_g; exact g_box rfl rfl; exact rfl
  apply sq_g; exact g_assign (s := .av (.val (.bool _))) rfl; exact rfl
  refine sq_nil ?_
  refine sq_then ?_
  refine cq_seq ?_
  refine cq_seq ?_
  refine cq_region ?_
  apply sq_g; exact g_load rfl rfl rfl; exact rfl
  apply sq_g; exact g_call (h1) rfl; exact rfl
  apply sq_g; exact g_not rfl; exact rfl
  refine sq_nil ?_
  refine sq_then ?_
  refine cq_cond_f rfl ?_
  refine cq_skip ?_
  refine sq_then ?_
  refine cq_seq ?_
  refine cq_region ?_
  apply sq_g; exact g_load rfl rfl rfl; exact rfl
  apply sq_g; exact g_call (v1) rfl; exact rfl
  apply sq_g; exact g_move (s := .av _) rfl; exact rfl
  apply sq_g; exact g_extractT rfl rfl; exact rfl
  apply sq_g; exact g_extractT rfl rfl; exact rfl
  apply sq_g; exact g_assign (s := .av _) rfl; exact rfl
  apply sq_g; exact g_assign (s := .av (.val (.int _ _))) rfl; exact rfl
  refine sq_nil ?_
  refine sq_then ?_
  refine cq_seq ?_
  refine cq_region ?_
  apply sq_g; exact g_load rfl rfl rfl; exact rfl
  apply sq_g; exact g_call (g1) rfl; exact rfl
  apply sq_g; exact g_move (s := .av _) rfl; exact rfl
  apply sq_g; exact g_extractT rfl rfl; exact rfl
  apply sq_g; exact g_extractT rfl rfl; exact rfl
  apply sq_g; exact g_assign (s := .av _) rfl; exact rfl
  apply sq_g; exact g_assign (s := .av (.val (.int _ _))) rfl; exact rfl
  refine sq_nil ?_
  refine sq_then ?_
  refine cq_seq ?_
  refine cq_seq ?_
  refine cq_region ?_
  apply sq_g; exact g_move (s := .av (.val (.int _ _))) rfl; exact rfl
  apply sq_g; exact g_cmp rfl rfl rfl; exact rfl
  apply sq_g; exact g_move (s := .av (.val (.bool _))) rfl; exact rfl
  apply sq_on; exact g_move (s := .av (.val (.int _ _))) rfl; exact rfl; exact rfl; exact rfl
  apply sq_on; exact g_cmp rfl rfl rfl; exact rfl; exact rfl; exact rfl
  apply sq_g; exact g_pick (s := .av (.val (.bool _))) rfl rfl; exact rfl
  apply sq_g; exact g_move (s := .av (.val (.bool _))) rfl; exact rfl
  apply sq_on; exact g_move (s := .av _) rfl; exact rfl; exact rfl; exact rfl
  apply sq_on; exact g_len rfl; exact rfl; exact rfl; exact rfl
  apply sq_on; exact g_cmp rfl rfl rfl; exact rfl; exact rfl; exact rfl
  apply sq_g; exact g_pick (s := .av (.val (.bool _))) rfl rfl; exact rfl
  apply sq_g; exact g_move (s := .av (.val (.bool _))) rfl; exact rfl
  refine sq_split rfl rfl (fun hb => ?_) (fun hb => ?_) <;> (try simp only [decide_eq_true_eq, decide_eq_false_iff_not, beq_iff_eq, beq_eq_false_iff_ne, bne_iff_ne, bne_eq_false_iff_eq, ne_eq, Bool.not_eq_true', Bool.not_eq_false', Bool.and_eq_true, Bool.or_eq_true, Bool.and_eq_false_iff, Bool.or_eq_false_iff] at hb) <;> (try (exfalso; omega))
  apply sq_on; exact g_move (s := .av _) rfl; exact rfl; exact rfl; exact rfl
  apply sq_on; exact g_makeFunc (τs := [_]) rfl; exact rfl; exact rfl; exact rfl
  apply sq_on; exact g_call (q1) rfl; exact rfl; exact rfl; exact rfl
  apply sq_g; exact g_pick (s := .av (.val (.bool _))) rfl rfl; exact rfl
  refine sq_nil ?_
  refine sq_then ?_
  refine cq_cond_f rfl ?_
  refine cq_skip ?_
  refine sq_then ?_
  refine cq_seq ?_
  refine cq_region ?_
  apply sq_g; exact g_assign (s := .av _) rfl; exact rfl
  refine sq_nil ?_
  refine sq_then ?_
  refine cq_seq ?_
  refine cq_seq ?_
  refine cq_region ?_
  apply sq_g; exact g_move (s := .av _) rfl; exact rfl
  apply sq_g; exact g_len rfl; exact rfl
  apply sq_g; exact g_move (s := .av (.val (.int _ _))) rfl; exact rfl
  refine sq_nil ?_
  refine sq_then ?_
  refine cq_block ?_
  refine cq_loop (γ := Nat) (fun k => [(1, .av (bx (ts l))), (3, .av (zs (natL (VL l)))), (5, .av (fs (facetsL l))), (7, .osl 70), (49, .av (zs (natL (VL l)))), (50, .av (vi (natL (VL l)).length)), (51, .av (vi k))]) (fun k => [(70, .row 67 3 (((VL l).take k).map (gt l)).length (tf (((VL l).take k).map (gt l))))]) (fun k => k ≤ (VL l).length) (fun k => (VL l).length - k) 0 (Nat.zero_le _) (Ent.trans (ent_row (dd := 7) 70 67 3 (tf []) rfl rfl) (ent ⟨.refl _, .refl _, .refl _, .refl _, .refl _, .refl _, .refl _, trivial⟩ ⟨⟨_, rfl, .refl _⟩, trivial⟩)) ?_
  intro k hk
  have hkn : (((VL l).take k).map (gt l)).length ≤ 6 := by simp; omega
  have hmx : (((VL l).take k).map (gt l)).length + 1 ≤ maxLen := by simp only [maxLen]; omega
  refine cq_seq ?_
  refine cq_region ?_
  apply sq_g; exact g_cmp rfl rfl rfl; exact rfl
  refine sq_nil ?_
  refine sq_then ?_
  refine cq_seq ?_
  (refine cq_cond rfl (fun hb => ?_) (fun hb => ?_) <;> (try simp only [decide_eq_true_eq, decide_eq_false_iff_not, beq_iff_eq, beq_eq_false_iff_ne, bne_iff_ne, bne_eq_false_iff_eq, ne_eq, Bool.not_eq_true', Bool.not_eq_false', Bool.and_eq_true, Bool.or_eq_true, Bool.and_eq_false_iff, Bool.or_eq_false_iff] at hb) <;> (try (exfalso; omega)))
  · have hkl : k < (VL l).length := by omega
    have esn := ow_step hkl
    have hgx := hgi k hkl
    have hgz := gz_natL hkl
    generalize gi (VL l) k = x at esn hgx hgz
    generalize ((VL l).take k).map (gt l) = M at esn hkn hmx ⊢
    refine cq_skip ?_
    refine sq_then ?_
    refine cq_seq ?_
    refine cq_block ?_
    refine cq_seq ?_
    refine cq_region ?_
    apply sq_g; exact g_index rfl rfl rfl (by omega); exact rfl
    apply sq_g; exact g_load (τ := .val (.int _ _)) rfl rfl rfl; exact rfl
    apply sq_g; exact g_assign (s := .av (.val (.int _ _))) rfl; exact rfl
    refine sq_nil ?_
    refine sq_then ?_
    refine cq_region ?_
    apply sq_g; exact g_move (s := .osl _) rfl; exact rfl
    apply sq_g; exact g_load rfl rfl rfl; exact rfl
    apply sq_g; exact g_move (s := .av (.val (.int _ _))) rfl; exact rfl
    apply sq_g; exact  g_index (k := x) rfl rfl hgz hgx; exact rfl
    apply sq_g; exact g_load_agg (us := [.int _ _, .int _ _, .int _ _]) rfl rfl rfl rfl; exact rfl
    apply sq_g; exact  g_bslice (is := [0]) (xs := [_]) (vs := [_]) (us := [_, _, _]) (tq22 _ _ _) rfl rfl rfl (tf_row (gt l x)); exact rfl
    refine sq_v (v_append (h := tf [gt l x]) (m := 1) rfl rfl rfl (fun i _ j _ => tf_one _ i j) (by omega) hmx (by omega)) rfl ?_
    apply sq_g; exact g_assign (s := .osl _) rfl; exact rfl
    refine sq_nil ?_
    refine sq_then ?_
    refine cq_region ?_
    apply sq_g; exact g_arith rfl rfl rfl (by omega); exact rfl
    apply sq_g; exact g_move (s := .av (.val (.int _ _))) rfl; exact rfl
    refine sq_nil ?_
    exact sq_round (k + 1) (by omega) (by omega) (ent ⟨.refl _, .refl _, .refl _, .refl _, .refl _, .refl _, .int (by omega), trivial⟩ ⟨⟨_, rfl, .row (by rw [esn]; simp) (fun i hi j hj => by rw [esn]; exact tf_app _ _ i hi j hj)⟩, trivial⟩)
  have hkl : k = (VL l).length := by omega
  subst hkl
  rw [← eow]
  refine cq_ent (ent_freeze 70 rfl) ?_
  generalize facetsL (ow l) = F2 at g2 q2
  generalize facetsL l = F1 at g1 q2
  refine cq_exit ?_
  refine sq_then ?_
  refine cq_seq ?_
  refine cq_region ?_
  apply sq_g; exact g_move (s := .av _) rfl; exact rfl
  apply sq_g; exact g_call (g2) rfl; exact rfl
  apply sq_g; exact g_move (s := .av _) rfl; exact rfl
  apply sq_g; exact g_extractT rfl rfl; exact rfl
  apply sq_g; exact g_extractT rfl rfl; exact rfl
  apply sq_g; exact g_assign (s := .av _) rfl; exact rfl
  apply sq_g; exact g_assign (s := .av (.val (.int _ _))) rfl; exact rfl
  refine sq_nil ?_
  refine sq_then ?_
  refine cq_seq ?_
  refine cq_seq ?_
  refine cq_region ?_
  apply sq_g; exact g_move (s := .av (.val (.int _ _))) rfl; exact rfl
  apply sq_g; exact g_cmp rfl rfl rfl; exact rfl
  apply sq_g; exact g_move (s := .av (.val (.bool _))) rfl; exact rfl
  apply sq_on; exact g_move (s := .av _) rfl; exact rfl; exact rfl; exact rfl
  apply sq_on; exact g_move (s := .av _) rfl; exact rfl; exact rfl; exact rfl
  apply sq_on; exact g_call (q2) rfl; exact rfl; exact rfl; exact rfl
  apply sq_on; exact g_not rfl; exact rfl; exact rfl; exact rfl
  apply sq_g; exact g_pick (s := .av (.val (.bool _))) rfl rfl; exact rfl
  refine sq_nil ?_
  refine sq_then ?_
  refine cq_cond_f rfl ?_
  refine cq_skip ?_
  refine sq_then ?_
  refine cq_seq ?_
  refine cq_seq ?_
  refine cq_region ?_
  apply sq_g; exact g_load rfl rfl rfl; exact rfl
  apply sq_g; exact g_len rfl; exact rfl
  apply sq_g; exact g_move (s := .av (.val (.int _ _))) rfl; exact rfl
  refine sq_nil ?_
  refine sq_then ?_
  refine cq_block ?_
  refine cq_loop (γ := Nat) (fun k => [(7, .av (ts (ow l))), (76, .av (ts l)), (77, .av (vi l.length)), (78, .av (vi k))]) (fun _ => []) (fun k => k ≤ l.length) (fun k => l.length - k) 0 (Nat.zero_le _) (ent ⟨.refl _, .refl _, .refl _, .refl _, trivial⟩ trivial) ?_
  intro k hk1
  refine cq_seq ?_
  refine cq_region ?_
  apply sq_g; exact g_cmp rfl rfl rfl; exact rfl
  refine sq_nil ?_
  refine sq_then ?_
  refine cq_seq ?_
  (refine cq_cond rfl (fun hb => ?_) (fun hb => ?_) <;> (try simp only [decide_eq_true_eq, decide_eq_false_iff_not, beq_iff_eq, beq_eq_false_iff_ne, bne_iff_ne, bne_eq_false_iff_eq, ne_eq, Bool.not_eq_true', Bool.not_eq_false', Bool.and_eq_true, Bool.or_eq_true, Bool.and_eq_false_iff, Bool.or_eq_false_iff] at hb) <;> (try (exfalso; omega)))
  · have hkl : k < l.length := by omega
    have hck := hin hkl
    refine cq_skip ?_
    refine sq_then ?_
    refine cq_seq ?_
    refine cq_block ?_
    refine cq_seq ?_
    refine cq_region ?_
    apply sq_g; exact g_index rfl rfl rfl (by omega); exact rfl
    apply sq_g; exact g_load_agg (us := [.int _ _, .int _ _, .int _ _]) rfl rfl rfl rfl; exact rfl
    refine sq_v (f_alloc 10 rfl) rfl ?_
    refine sq_s (g_store_agg rfl rfl rfl rfl rfl rfl) ?_
    refine sq_nil ?_
    refine sq_then ?_
    refine cq_seq ?_
    refine cq_region ?_
    apply sq_g; exact g_move (s := .av _) rfl; exact rfl
    apply sq_g; exact g_load_own_agg (us := [.int _ _, .int _ _, .int _ _]) rfl rfl rfl rfl; exact rfl
    apply sq_g; exact g_call (hck) rfl; exact rfl
    apply sq_g; exact g_move (s := .av _) rfl; exact rfl
    apply sq_g; exact g_extractT rfl rfl; exact rfl
    apply sq_g; exact g_extractT rfl rfl; exact rfl
    apply sq_g; exact g_assign (s := .av (.val (.bool _))) rfl; exact rfl
    apply sq_g; exact g_assign (s := .av (.val (.int _ _))) rfl; exact rfl
    refine sq_nil ?_
    refine sq_then ?_
    refine cq_seq ?_
    refine cq_region ?_
    apply sq_g; exact g_move (s := .av (.val (.int _ _))) rfl; exact rfl
    apply sq_g; exact g_cmp rfl rfl rfl; exact rfl
    apply sq_g; exact g_move (s := .av (.val (.bool _))) rfl; exact rfl
    apply sq_on; exact g_move (s := .av (.val (.bool _))) rfl; exact rfl; exact rfl; exact rfl
    apply sq_on; exact g_not rfl; exact rfl; exact rfl; exact rfl
    apply sq_g; exact g_pick (s := .av (.val (.bool _))) rfl rfl; exact rfl
    refine sq_nil ?_
    refine sq_then ?_
    refine cq_cond_f rfl ?_
    refine cq_skip ?_
    refine sq_then ?_
    refine cq_region ?_
    apply sq_g; exact g_arith rfl rfl rfl (by omega); exact rfl
    apply sq_g; exact g_move (s := .av (.val (.int _ _))) rfl; exact rfl
    refine sq_nil ?_
    exact sq_round (k + 1) (by omega) (by omega) (ent ⟨.refl _, .refl _, .refl _, .int (by omega), trivial⟩ trivial)
  refine cq_exit ?_
  refine sq_then ?_
  refine cq_seq ?_
  refine cq_seq ?_
  refine cq_region ?_
  apply sq_g; exact g_move (s := .av _) rfl; exact rfl
  apply sq_g; exact g_len rfl; exact rfl
  apply sq_g; exact g_move (s := .av (.val (.int _ _))) rfl; exact rfl
  refine sq_nil ?_
  refine sq_then ?_
  refine cq_block ?_
  refine cq_loop (γ := Nat) (fun k => [(7, .av (ts (ow l))), (95, .av (ts (ow l))), (96, .av (vi (ow l).length)), (97, .av (vi k))]) (fun _ => []) (fun k => k ≤ (ow l).length) (fun k => (ow l).length - k) 0 (Nat.zero_le _) (ent ⟨.refl _, .refl _, .refl _, .refl _, trivial⟩ trivial) ?_
  intro k2 hk2
  refine cq_seq ?_
  refine cq_region ?_
  apply sq_g; exact g_cmp rfl rfl rfl; exact rfl
  refine sq_nil ?_
  refine sq_then ?_
  refine cq_seq ?_
  (refine cq_cond rfl (fun hb => ?_) (fun hb => ?_) <;> (try simp only [decide_eq_true_eq, decide_eq_false_iff_not, beq_iff_eq, beq_eq_false_iff_ne, bne_iff_ne, bne_eq_false_iff_eq, ne_eq, Bool.not_eq_true', Bool.not_eq_false', Bool.and_eq_true, Bool.or_eq_true, Bool.and_eq_false_iff, Bool.or_eq_false_iff] at hb) <;> (try (exfalso; omega)))
  · have hkl2 : k2 < (ow l).length := by omega
    have hck := hout hkl2
    have hdk := hdl hkl2
    have hde := delF_eq hkl2
    have hwl := wo_len hkl2
    have hck' : CtrA Tryz.prog 39 [.sl (k2 + ((ow l).length - (k2 + 1))) 3 (tf (wo (ow l) k2)), tp (gt (ow l) k2)] (tupOf [vb false, vi 0]) := by
      rw [show k2 + ((ow l).length - (k2 + 1)) = (wo (ow l) k2).length by omega]; exact hck
    refine cq_skip ?_
    refine sq_then ?_
    refine cq_seq ?_
    refine cq_block ?_
    refine cq_seq ?_
    refine cq_region ?_
    apply sq_g; exact g_move (s := .av (.val (.int _ _))) rfl; exact rfl
    apply sq_g; exact g_index rfl rfl rfl (by omega); exact rfl
    apply sq_g; exact g_load_agg (us := [.int _ _, .int _ _, .int _ _]) rfl rfl rfl rfl; exact rfl
    refine sq_v (f_alloc 10 rfl) rfl ?_
    apply sq_g; exact g_assign (s := .av (.val (.int _ _))) rfl; exact rfl
    refine sq_s (g_store_agg rfl rfl rfl rfl rfl rfl) ?_
    refine sq_nil ?_
    refine sq_then ?_
    refine cq_seq ?_
    refine cq_drawn ?_
    apply dq_g; exact g_move (s := .av _) rfl; exact rfl
    refine dq_v (ga_call_row 71 (hcl) rfl) rfl rfl ?_
    apply dq_g; exact g_move (s := .av (.val (.int _ _))) rfl; exact rfl
    apply dq_g; exact g_move (s := .av (.val (.int _ _))) rfl; exact rfl
    apply dq_g; exact g_arith rfl rfl rfl (by omega); exact rfl
    refine dq_call_h (g_call_h [(1000, 71)] hdk rfl ⟨rfl, trivial⟩ rfl rfl) rfl ?_
    apply dq_g; exact g_load_own_agg (us := [.int _ _, .int _ _, .int _ _]) rfl rfl rfl rfl; exact rfl
    apply dq_g; exact  g_call_w2 (k := k2 + ((ow l).length - (k2 + 1))) (fr := tf (wo (ow l) k2)) hck' rfl rfl (by omega) (by omega) (fun a ha j => hde a (by omega) j) rfl; exact rfl
    apply dq_g; exact g_move (s := .av _) rfl; exact rfl
    apply dq_g; exact g_extractT rfl rfl; exact rfl
    apply dq_g; exact g_extractT rfl rfl; exact rfl
    apply dq_g; exact g_assign (s := .av (.val (.bool _))) rfl; exact rfl
    apply dq_g; exact g_assign (s := .av (.val (.int _ _))) rfl; exact rfl
    refine dq_nil tm (by kernel_rfl) ?_
    refine sq_then ?_
    refine cq_seq ?_
    refine cq_region ?_
    apply sq_g; exact g_move (s := .av (.val (.int _ _))) rfl; exact rfl
    apply sq_g; exact g_cmp rfl rfl rfl; exact rfl
    apply sq_g; exact g_move (s := .av (.val (.bool _))) rfl; exact rfl
    apply sq_on; exact g_move (s := .av (.val (.bool _))) rfl; exact rfl; exact rfl; exact rfl
    apply sq_g; exact g_pick (s := .av (.val (.bool _))) rfl rfl; exact rfl
    refine sq_nil ?_
    refine sq_then ?_
    refine cq_cond_f rfl ?_
    refine cq_skip ?_
    refine sq_then ?_
    refine cq_region ?_
    apply sq_g; exact g_arith rfl rfl rfl (by omega); exact rfl
    apply sq_g; exact g_move (s := .av (.val (.int _ _))) rfl; exact rfl
    refine sq_nil ?_
    exact sq_round (k2 + 1) (by omega) (by omega) (ent ⟨.refl _, .refl _, .refl _, .int (by omega), trivial⟩ trivial)
  refine cq_exit ?_
  refine sq_then ?_
  refine cq_seq ?_
  refine cq_region ?_
  apply sq_g; exact g_call (hA) rfl; exact rfl
  apply sq_g; exact g_assign (s := .av (.val (.bool _))) rfl; exact rfl
  refine sq_nil ?_
  refine sq_then ?_
  refine cq_ret ?_
  all_goals exact sq_res1 rfl (.tmp rfl) rfl
end Go.Proofs.YtdoppiajbpmmkaaGreat
