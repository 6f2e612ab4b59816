/- A part of the proof. -/
import Derived.Deep.QuietTactic
import Derived.Test.YtgepmbjmaljgoaaGreatDoorCaj
import Derived.Test.YtgepmbjmaljgoaaGreatDoorCal
set_option linter.unusedVariables false
set_option linter.unusedSimpArgs false
section
namespace Go.Vc
open Go Go.RowKit
section
variable {P : Program} {E : Env} {T : Tab} {O : Own} {d : Option Tmp} {ty : TypeId} {pos : String} {af : Array Edge} {g : Option (Nat × Bool)}
theorem g_quoT {xt yt : TypeId} {x y : Operand} {m n : Int} (h1 : T.ev x = .av (.val (.int .i64 m))) (h2 : T.ev y = .av (.val (.int .i64 n))) (hn : 0 < n) (hmax : -9223372036854775807 ≤ m ∧ m ≤ 9223372036854775807) :
  GV P E ⟨d, .binOp .quo xt x y yt, ty, pos, af, g⟩ T O (.av (.val (.int .i64 (m.tdiv n)))) [] [] :=
 g_bin h1 h2 (fun w => run_eqGuard_int ..) (fun w => by
  have hne : n ≠ 0 := by omega
  have := Int.natAbs_tdiv_le_natAbs m n
  simp [binOp, Op.intDiv, hne, IntWalk.i64_in (m.tdiv n) (by omega)])
end
end Go.Vc
end
namespace Go.Proofs.YtgepmbjmaljgoaaGreatDoor.H.S
open Go Go.Vc Go.RowKit
set_option maxHeartbeats 4000000
theorem of_c (p : Tr) : CtrA Tryz.prog 194 [tp p] (tp p) := by
 refine ctrA _ Tryz.func194 rfl rfl Tryz.ntmps194 rfl fun w Z => ?_
 refine zU ?_
 refine wt ?_
 refine sq_g (g_build (t := 192) (is := [0, 1, 2]) (xs := [_, _, _]) (vs := [_, _, _]) (tb192 _ _ _) rfl rfl) rfl ?_
 refine wt ?_
 exact sq_res1 rfl (.agg (us := [_, _, _]) rfl rfl rfl rfl) rfl
theorem minus_c (a b : Tr) (h1 : BT 1000000000000 a) (h2 : BT 1000000000000 b) : CtrA Tryz.prog 195 [tp a, tp b] (tp (tsub a b)) := by
 refine ctrA _ Tryz.func195 rfl rfl Tryz.ntmps195 rfl fun w Z => ?_
 obtain ⟨⟨_, _⟩, ⟨_, _⟩, ⟨_, _⟩⟩ := h1
 obtain ⟨⟨_, _⟩, ⟨_, _⟩, ⟨_, _⟩⟩ := h2
 refine zU ?_
 refine wt ?_
 refine sq_g (g_build (t := 192) (is := [0, 1, 2]) (xs := [_, _, _]) (vs := [_, _, _]) (tb192 _ _ _) rfl rfl) rfl ?_
 refine wt ?_
 exact sq_res1 rfl (.agg (us := [_, _, _]) rfl rfl rfl rfl) rfl
theorem dot_c (a b : Tr) {A B : Int} (h1 : BT A a) (h2 : BT B b) (hab : A * B ≤ 1000000000000000000) : CtrA Tryz.prog 198 [tp a, tp b] (vi (tdot a b)) := by
 refine ctrA _ Tryz.func198 rfl rfl Tryz.ntmps198 rfl fun w Z => ?_
 obtain ⟨m1, n1⟩ := bn_mul h1.x h2.x
 obtain ⟨m2, n2⟩ := bn_mul h1.y h2.y
 obtain ⟨m3, n3⟩ := bn_mul h1.z h2.z
 refine zU ?_
 refine wt ?_
 exact zV
theorem cross_c (a b : Tr) {A B : Int} (h1 : BT A a) (h2 : BT B b) (hab : A * B ≤ 1000000000000000000) : CtrA Tryz.prog 196 [tp a, tp b] (tp (tcr a b)) := by
 refine ctrA _ Tryz.func196 rfl rfl Tryz.ntmps196 rfl fun w Z => ?_
 obtain ⟨m1, n1⟩ := bn_mul h1.y h2.z
 obtain ⟨m2, n2⟩ := bn_mul h1.z h2.y
 obtain ⟨m3, n3⟩ := bn_mul h1.z h2.x
 obtain ⟨m4, n4⟩ := bn_mul h1.x h2.z
 obtain ⟨m5, n5⟩ := bn_mul h1.x h2.y
 obtain ⟨m6, n6⟩ := bn_mul h1.y h2.x
 refine zU ?_
 refine wt ?_
 refine sq_g (g_build (t := 192) (is := [0, 1, 2]) (xs := [_, _, _]) (vs := [_, _, _]) (tb192 _ _ _) rfl rfl) rfl ?_
 refine wt ?_
 exact sq_res1 rfl (.agg (us := [_, _, _]) rfl rfl rfl rfl) rfl
def co (a : Tr) (k : Nat) : Int := [a.x, a.y, a.z].getD k 0
def tgs (a : Tr) : Nat → Nat
 |0 => 0
 |k + 1 => Nat.gcd (tgs a k) (co a k).natAbs
theorem tgs3 (a : Tr) : tgs a 3 = tg a := rfl
theorem ix192_0 (a : Tr) (w : World) : (Instr.index 192 (.agg [.int .i64 a.x, .int .i64 a.y, .int .i64 a.z].toArray) (.int .i64 (((0 : Nat)) : Int))).run Tryz.prog w = .ok (.int .i64 (co a 0)) w := by kernel_rfl
theorem ix192_1 (a : Tr) (w : World) : (Instr.index 192 (.agg [.int .i64 a.x, .int .i64 a.y, .int .i64 a.z].toArray) (.int .i64 (((1 : Nat)) : Int))).run Tryz.prog w = .ok (.int .i64 (co a 1)) w := by kernel_rfl
theorem ix192_2 (a : Tr) (w : World) : (Instr.index 192 (.agg [.int .i64 a.x, .int .i64 a.y, .int .i64 a.z].toArray) (.int .i64 (((2 : Nat)) : Int))).run Tryz.prog w = .ok (.int .i64 (co a 2)) w := by kernel_rfl
theorem ix192 (a : Tr) (k : Nat) (h : k < 3) (w : World) : (Instr.index 192 (.agg [.int .i64 a.x, .int .i64 a.y, .int .i64 a.z].toArray) (.int .i64 k)).run Tryz.prog w = .ok (.int .i64 (co a k)) w := by
 rcases (by omega : k = 0 ∨ k = 1 ∨ k = 2) with rfl | rfl | rfl
 ·exact ix192_0 a w
 ·exact ix192_1 a w
 ·exact ix192_2 a w
theorem tgs_le {a : Tr} {B : Int} (h : BT B a) : ∀ k, k ≤ 3 → (tgs a k : Int) ≤ B := by
 have hc : ∀ k, k < 3 → Bn B (co a k) := fun k hk => by
  match k, hk with
  |0, _ => exact h.x
  |1, _ => exact h.y
  |2, _ => exact h.z
 intro k
 induction k with
 |zero => intro _; have := h.x; simp only [Bn] at this; simp only [tgs]; omega
 |succ k ih =>
  intro hk
  have h1 := hc k zO
  have h2 := ih zO
  simp only [tgs]
  by_cases h0 : tgs a k = 0
  ·rw [h0, Nat.gcd_zero_left]; simp only [Bn] at h1; omega
  ·have := Nat.gcd_le_left (co a k).natAbs (show 0 < tgs a k by omega)
   omega
theorem prim_c (a : Tr) (h : BT 1000000000000 a) : CtrA Tryz.prog 197 [tp a] (tp (tpr a)) := by
 refine ctrA _ Tryz.func197 rfl rfl Tryz.ntmps197 rfl fun w Z => ?_
 have hc : ∀ k, k < 3 → Bn 1000000000000 (co a k) := fun k hk => by
  match k, hk with
  |0, _ => exact h.x
  |1, _ => exact h.y
  |2, _ => exact h.z
 have hle := tgs_le h
 refine zU ?_
 refine wt ?_
 refine cq_loop (γ := Nat) (fun k => [(1, .av (bt a)), (2, .own 10 0), (3, .av (vi (tgs a k))), (7, .av (tp a)), (8, .av (vi k))]) (fun _ => [(10, .cells [.av (vi 0), .av (vi 0), .av (vi 0)])]) (fun k => k ≤ 3) (fun k => 3 - k) 0 zO (ent zS zT) ?_
 intro k hk
 refine wt ?_
 (refine cq_cond rfl ?_ ?_ <;> intro hb <;> (try simp only [zA, zB, zG, zC, zD, zN] at hb) <;> (try (exfalso; omega)))
 ·have hk3 : k < 3 := by omega
  have hck := hc k hk3
  have hlk := hle k hk
  have hl1 := hle (k + 1) zO
  obtain ⟨hc1, hc2⟩ := hck
  refine wt ?_
  refine sq_g (g_indexv rfl rfl (fun w => ix192 a k hk3 w)) rfl ?_
  refine wt ?_
  refine cq_loop (γ := Nat × Nat) (fun g => [(1, .av (bt a)), (2, .own 10 0), (3, .av (vi g.1)), (6, .av (vi g.2)), (7, .av (tp a)), (8, .av (vi k))]) (fun _ => [(10, .cells [.av (vi 0), .av (vi 0), .av (vi 0)])]) (fun g => Nat.gcd g.1 g.2 = tgs a (k + 1) ∧ g.1 ≤ 1000000000000 ∧ g.2 ≤ 1000000000000) (fun g => g.2) (tgs a k, (co a k).natAbs) ⟨rfl, by dsimp only; omega, by dsimp only; omega⟩ (ent ⟨.refl _, .refl _, .refl _, .int (by dsimp only; omega), .refl _, .refl _, trivial⟩ zT) ?_
  rintro ⟨g, m⟩ ⟨hg, hg1, hm1⟩
  dsimp only at hg hg1 hm1 ⊢
  refine wt ?_
  (refine cq_cond rfl ?_ ?_ <;> intro hb <;> (try simp only [zA, zB, zG, zC, zD, zN] at hb) <;> (try (exfalso; omega)))
  ·have hlt : g % m < m := Nat.mod_lt _ zO
   refine wt ?_
   exact sq_round (g := (g, m)) (m, g % m) ⟨by dsimp only; rw [← hg, Nat.gcd_comm g m, Nat.gcd_rec m g, Nat.gcd_comm], by dsimp only; omega, by dsimp only; omega⟩ hlt (ent ⟨.refl _, .refl _, .refl _, .int (by dsimp only; omega), .refl _, .refl _, trivial⟩ zT)
  ·have hm : m = 0 := by omega
   subst hm
   rw [Nat.gcd_zero_right] at hg
   refine wt ?_
   exact sq_round (k + 1) (by omega) (by omega) (ent ⟨.refl _, .refl _, .int (by rw [hg]), .refl _, .int (by omega), trivial⟩ zT)
 ·have hk3 : k = 3 := by omega
  subst hk3
  have hle3 := hle 3 zO
  rw [tgs3] at hle3 ⊢
  have ht : tpr a = if tg a = 0 then a else ⟨a.x.tdiv (tg a), a.y.tdiv (tg a), a.z.tdiv (tg a)⟩ := rfl
  obtain ⟨⟨_, _⟩, ⟨_, _⟩, ⟨_, _⟩⟩ := h
  refine wt ?_
  (refine cq_cond rfl ?_ ?_ <;> intro hb <;> (try simp only [zA, zB, zG, zC, zD, zN] at hb) <;> (try (exfalso; omega)))
  ·rw [if_pos (by omega)] at ht
   rw [ht]
   refine wt ?_
   exact sq_res1 rfl (.agg (us := [_, _, _]) rfl rfl rfl rfl) rfl
  ·rw [if_neg (by omega)] at ht
   rw [ht]
   refine wt ?_
   refine dq_g (g_build (t := 192) (is := [0, 1, 2]) (xs := [_, _, _]) (vs := [_, _, _]) (tb192 _ _ _) rfl rfl) rfl ?_
   refine wt ?_
   exact sq_res1 rfl (.agg (us := [_, _, _]) rfl rfl rfl rfl) rfl
theorem gt_app (l m : List Tr) (i : Nat) : gt (l ++ m) i = if i < l.length then gt l i else gt m (i - l.length) := by
 unfold gt
 by_cases h : i < l.length
 ·simp [List.getD, List.getElem?_append_left h, h]
 ·simp [List.getD, List.getElem?_append_right (Nat.le_of_not_lt h), h]
theorem tf_row (p : Tr) : ∀ i, i < 1 → ∀ j, j < 3 → ∃ u, [Value.int .i64 p.x, .int .i64 p.y, .int .i64 p.z][i * 3 + j]? = some u ∧ tf [p] i j = .val u := by
 intro i hi j hj
 obtain rfl : i = 0 := by omega
 match j, hj with
 |0, _ => exact ⟨_, rfl, rfl⟩
 |1, _ => exact ⟨_, rfl, rfl⟩
 |2, _ => exact ⟨_, rfl, rfl⟩
theorem tf_one (l : List Tr) : ∀ i j, (tf l i j).one = true := fun i j => by unfold tf; split <;> rfl
theorem tf_app (l : List Tr) (p : Tr) : ∀ i, i < l.length + 1 → ∀ j, j < 3 → rowApp l.length (tf l) (tf [p]) i j = tf (l ++ [p]) i j := by
 intro i hi j hj
 unfold rowApp tf
 rw [gt_app]
 by_cases h : i < l.length
 ·rw [if_pos h, if_pos h]
 ·rw [if_neg h, if_neg h]
theorem vectors_c (l : List Tr) (hn : l.length ≤ 1000) : CtrR Tryz.prog 152 [ts l] 192 3 l.length (tf l) [] := by
 refine ctrR _ Tryz.func152 rfl rfl Tryz.ntmps152 rfl fun w Z => ?_
 refine zU ?_
 refine wt ?_
 refine cq_loop (γ := Nat) (fun k => [(3, .osl 70), (6, .av (ts l)), (7, .av (vi l.length)), (8, .av (vi k))]) (fun k => [(70, .row 192 3 (l.take k).length (tf (l.take k)))]) (fun k => k ≤ l.length) (fun k => l.length - k) 0 (Nat.zero_le _) (Ent.trans (ent_row (dd := 3) 70 192 3 (tf []) rfl rfl) (ent zS zT)) ?_
 intro k hk
 refine wt ?_
 (refine cq_cond rfl ?_ ?_ <;> intro hb <;> (try simp only [zA, zB, zG, zC, zD, zN] at hb) <;> (try (exfalso; omega)))
 ·have hkl : k < l.length := by omega
  have ht := gt_take hkl
  have hl1 : (l.take k).length ≤ k := by rw [List.length_take]; omega
  generalize l.take k = X at ht hl1 ⊢
  have hml : X.length + 1 ≤ maxLen := by simp only [maxLen]; omega
  have ho := of_c (gt l k)
  refine wt ?_
  refine sq_g (g_bslice (is := [0]) (xs := [_]) (vs := [_]) (us := [_, _, _]) (tq136 _ _ _) rfl rfl rfl (tf_row _)) rfl ?_
  refine wt ?_
  refine sq_v (v_append (h := tf [gt l k]) (m := 1) rfl rfl rfl (fun i _ j _ => tf_one _ i j) zO hml zO) rfl ?_
  refine wt ?_
  exact sq_round (k + 1) (by omega) (by omega) (ent zS ⟨⟨_, rfl, .row (by rw [ht]; simp) (fun i hi j hj => by rw [ht]; exact tf_app _ _ i hi j hj)⟩, trivial⟩)
 ·have hkl : k = l.length := by omega
  subst hkl
  rw [List.take_length]
  refine wt ?_
  exact sq_retR rfl rfl rfl rfl (fun _ _ _ _ => rfl)
end Go.Proofs.YtgepmbjmaljgoaaGreatDoor.H.S
namespace Go.Proofs.YtgepmbjmaljgoaaGreatDoor.H.S
open Go Go.Vc Go.RowKit
set_option maxHeartbeats 8000000
theorem rzero_c (p : Tr) : CtrA Tryz.prog 88 [tp p] (vb (decide (p = tz))) := by
 refine ctrA _ Tryz.func88 rfl rfl Tryz.ntmps88 rfl fun w Z => ?_
 have e : decide (p = tz) = (decide (p.x = 0) && decide (p.y = 0) && decide (p.z = 0)) := by
  cases p; rw [Bool.eq_iff_iff]; simp [tz, and_assoc]
 rw [e]
 refine zU ?_
 refine wt ?_
 repeat' (first
   |(refine sq_split rfl rfl (fun hb => ?_) (fun hb => ?_) <;> (try simp only [zA, zB, zG, zC, zD, zN] at hb) <;> (try (exfalso; omega)) <;> refine wt ?_)
   |(refine dq_split rfl rfl (fun hb => ?_) (fun hb => ?_) <;> (try simp only [zA, zB, zG, zC, zD, zN] at hb) <;> (try (exfalso; omega)) <;> refine wt ?_))
 all_goals (refine sq_res1 rfl (.tmp rfl) (congrArg vb ?_); (try simp only [beq_iff_eq, Bool.beq_eq_decide_eq] at *); simp [*])
theorem rless_c (a b : Tr) (h1 : BT 1000000000000 a) (h2 : BT 1000000000000 b) : CtrA Tryz.prog 150 [tp a, tp b] (tp (tsub a b)) := by
 refine ctrA _ Tryz.func150 rfl rfl Tryz.ntmps150 rfl fun w Z => ?_
 obtain ⟨⟨_, _⟩, ⟨_, _⟩, ⟨_, _⟩⟩ := h1
 obtain ⟨⟨_, _⟩, ⟨_, _⟩, ⟨_, _⟩⟩ := h2
 refine zU ?_
 refine wt ?_
 exact sq_res1 rfl (.agg (us := [_, _, _]) rfl rfl rfl rfl) rfl
theorem rtspace_c (a b : Tr) {A B : Int} (h1 : BT A a) (h2 : BT B b) (hab : A * B ≤ 1000000000000000000) : CtrA Tryz.prog 151 [tp a, tp b] (vi (tdot a b)) := by
 refine ctrA _ Tryz.func151 rfl rfl Tryz.ntmps151 rfl fun w Z => ?_
 obtain ⟨m1, n1⟩ := bn_mul h1.x h2.x
 obtain ⟨m2, n2⟩ := bn_mul h1.y h2.y
 obtain ⟨m3, n3⟩ := bn_mul h1.z h2.z
 refine zU ?_
 refine wt ?_
 exact zV
theorem rvector_c (a b : Tr) {A B : Int} (h1 : BT A a) (h2 : BT B b) (hab : A * B ≤ 1000000000000000000) : CtrA Tryz.prog 149 [tp a, tp b] (tp (tcr a b)) := by
 refine ctrA _ Tryz.func149 rfl rfl Tryz.ntmps149 rfl fun w Z => ?_
 obtain ⟨m1, n1⟩ := bn_mul h1.y h2.z
 obtain ⟨m2, n2⟩ := bn_mul h1.z h2.y
 obtain ⟨m3, n3⟩ := bn_mul h1.z h2.x
 obtain ⟨m4, n4⟩ := bn_mul h1.x h2.z
 obtain ⟨m5, n5⟩ := bn_mul h1.x h2.y
 obtain ⟨m6, n6⟩ := bn_mul h1.y h2.x
 refine zU ?_
 refine wt ?_
 exact sq_res1 rfl (.agg (us := [_, _, _]) rfl rfl rfl rfl) rfl
def tac (a b c : Tr) : Tr := tcr (tsub b a) (tsub c a)
def six (a b c d : Tr) : Int := tdot (tac a b c) (tsub d a)
theorem bt_ac {a b c : Tr} (h1 : BT 100000 a) (h2 : BT 100000 b) (h3 : BT 100000 c) : BT 80000000000 (tac a b c) := ((h2.sub h1).cr (h3.sub h1)).le (by decide)
theorem racross_c (a b c : Tr) (h1 : BT 100000 a) (h2 : BT 100000 b) (h3 : BT 100000 c) : CtrA Tryz.prog 89 [tp a, tp b, tp c] (tp (tac a b c)) := by
 refine ctrA _ Tryz.func89 rfl rfl Tryz.ntmps89 rfl fun w Z => ?_
 have e1 := rless_c b a (h2.le zE) (h1.le zE)
 have e2 := rless_c c a (h3.le zE) (h1.le zE)
 have e3 := rvector_c (tsub b a) (tsub c a) (h2.sub h1) (h3.sub h1) zE
 refine zU ?_
 have hq1 := e1
 have hq2 := e2
 have hq3 := e3
 refine wt ?_
 repeat' (first
   |(refine sq_split rfl rfl (fun hb => ?_) (fun hb => ?_) <;> (try simp only [zA, zB, zG, zC, zD, zN] at hb) <;> (try (exfalso; omega)) <;> refine wt ?_)
   |(refine dq_split rfl rfl (fun hb => ?_) (fun hb => ?_) <;> (try simp only [zA, zB, zG, zC, zD, zN] at hb) <;> (try (exfalso; omega)) <;> refine wt ?_))
 exact sq_res1 rfl (.agg (us := [_, _, _]) rfl rfl rfl rfl) rfl
theorem rsix_c (a b c d : Tr) (h1 : BT 100000 a) (h2 : BT 100000 b) (h3 : BT 100000 c) (h4 : BT 100000 d) : CtrA Tryz.prog 90 [tp a, tp b, tp c, tp d] (vi (six a b c d)) := by
 refine ctrA _ Tryz.func90 rfl rfl Tryz.ntmps90 rfl fun w Z => ?_
 have e1 := racross_c a b c h1 h2 h3
 have e2 := rless_c d a (h4.le zE) (h1.le zE)
 have e3 := rtspace_c (tac a b c) (tsub d a) (bt_ac h1 h2 h3) (h4.sub h1) zE
 refine zU ?_
 have hq4 := e1
 have hq5 := e2
 have hq6 := e3
 refine wt ?_
 repeat' (first
   |(refine sq_split rfl rfl (fun hb => ?_) (fun hb => ?_) <;> (try simp only [zA, zB, zG, zC, zD, zN] at hb) <;> (try (exfalso; omega)) <;> refine wt ?_)
   |(refine dq_split rfl rfl (fun hb => ?_) (fun hb => ?_) <;> (try simp only [zA, zB, zG, zC, zD, zN] at hb) <;> (try (exfalso; omega)) <;> refine wt ?_))
 exact zV
def mx (o v : Int) : Int := if o < v then v else o
def rC (l : List Tr) (a b : Nat) (o : Int) : Nat → Int
 |0 => o
 |c + 1 => if tac (gt l a) (gt l b) (gt l c) = tz then rC l a b o c else mx (rC l a b o c) 2
def rB (l : List Tr) (a : Nat) (o : Int) : Nat → Int
 |0 => o
 |b + 1 => if gt l a = gt l b then rB l a o b else rC l a b (mx (rB l a o b) 1) b
def rA (l : List Tr) : Nat → Int
 |0 => -1
 |a + 1 => rB l a (mx (rA l a) 0) a
def Solid (l : List Tr) : Prop := ∃ a, a < l.length ∧ ∃ b, b < a ∧ ∃ c, c < b ∧ ∃ d, d < l.length ∧ six (gt l a) (gt l b) (gt l c) (gt l d) ≠ 0
theorem rC_le (l : List Tr) (a b : Nat) {o : Int} (h : o ≤ 2) : ∀ c, rC l a b o c ≤ 2
 |0 => h
 |c + 1 => by have := rC_le l a b h c; unfold rC mx; split <;> (try split) <;> omega
theorem rB_le (l : List Tr) (a : Nat) {o : Int} (h : o ≤ 2) : ∀ b, rB l a o b ≤ 2
 |0 => h
 |b + 1 => by
  have := rB_le l a h b
  unfold rB
  split
  ·exact this
  ·exact rC_le l a b (by unfold mx; split <;> omega) b
theorem rA_le (l : List Tr) : ∀ a, rA l a ≤ 2
 |0 => (show (-1 : Int) ≤ 2 by decide)
 |a + 1 => rB_le l a (by have := rA_le l a; unfold mx; split <;> omega) a
theorem six_same {a b : Tr} (h : a = b) (c d : Tr) : six a b c d = 0 := by
 subst h; unfold six tac tcr tsub tdot; simp
theorem six_zero {a b c : Tr} (h : tac a b c = tz) (d : Tr) : six a b c d = 0 := by
 unfold six; rw [h]; unfold tz tdot; simp
theorem nn_iff (a b : Tr) : ([a.x, a.y, a.z] = [b.x, b.y, b.z]) ↔ a = b := by
 cases a; cases b; simp
theorem rank_c (l : List Tr) (r : Int) (hl : RT l) (hn : l.length ≤ 6) (h3 : Solid l → r = 3) (h2 : ¬ Solid l → r = rA l l.length) : CtrA Tryz.prog 40 [ts l] (vi r) := by
 refine ctrA _ Tryz.func40 rfl rfl Tryz.ntmps40 rfl fun w Z => ?_
 refine zU ?_
 refine wt ?_
 refine cq_loop (γ := Nat) (fun a => [(0, .av (ts l)), (3, .av (vi (rA l a))), (4, .av (vi a))]) (fun _ => []) (fun a => a ≤ l.length ∧ ∀ a', a' < a → ∀ b, b < a' → ∀ c, c < b → ∀ d, d < l.length → six (gt l a') (gt l b) (gt l c) (gt l d) = 0) (fun a => l.length - a) 0 ⟨Nat.zero_le _, by omega⟩ (ent zS trivial) ?_
 rintro a ⟨ha, iA⟩
 refine wt ?_
 (refine cq_cond rfl ?_ ?_ <;> intro hb <;> (try simp only [zA, zB, zG, zC, zD, zN] at hb) <;> (try (exfalso; omega)))
 ·have hal : a < l.length := by omega
  have eA : rA l (a + 1) = rB l a (mx (rA l a) 0) a := rfl
  generalize rA l a = o at eA ⊢
  unfold mx at eA
  refine wt ?_
  generalize hO : (if o < 0 then (0 : Int) else o) = O at eA ⊢
  refine cq_loop (γ := Nat) (fun b => [(0, .av (ts l)), (3, .av (vi (rB l a O b))), (4, .av (vi a)), (5, .av (vi b))]) (fun _ => []) (fun b => b ≤ a ∧ ∀ b', b' < b → ∀ c, c < b' → ∀ d, d < l.length → six (gt l a) (gt l b') (gt l c) (gt l d) = 0) (fun b => a - b) 0 ⟨Nat.zero_le _, by omega⟩ (ent ⟨.refl _, .int (by first | exact hO | rfl | omega), .refl _, .refl _, trivial⟩ trivial) ?_
  rintro b ⟨hbn, iB⟩
  refine wt ?_
  (refine cq_cond rfl ?_ ?_ <;> intro hb <;> (try simp only [zA, zB, zG, zC, zD, zN] at hb) <;> (try (exfalso; omega)))
  ·have hba : b < a := by omega
   have hbl : b < l.length := by omega
   have eB : rB l a O (b + 1) = if gt l a = gt l b then rB l a O b else rC l a b (mx (rB l a O b) 1) b := rfl
   generalize rB l a O b = p at eB ⊢
   refine wt ?_
   (refine cq_cond rfl ?_ ?_ <;> intro hb <;> (try simp only [zA, zB, zG, zC, zD, zN] at hb) <;> (try (exfalso; omega)))
   ·have hab := (nn_iff _ _).1 hb
    rw [if_pos hab] at eB
    refine wt ?_
    exact sq_round (b + 1) ⟨by omega, fun b' hb' c hc d hd => by
     by_cases e : b' = b
     ·subst e; exact six_same hab _ _
     ·exact iB b' (by omega) c hc d hd⟩ (by omega) (ent ⟨.refl _, .int (by rw [eB]), .refl _, .int (by omega), trivial⟩ trivial)
   ·have hab : ¬ gt l a = gt l b := fun e => hb ((nn_iff _ _).2 e)
    rw [if_neg hab] at eB
    clear hb
    unfold mx at eB
    refine wt ?_
    generalize hQ : (if p < 1 then (1 : Int) else p) = Q at eB ⊢
    refine cq_loop (γ := Nat) (fun c => [(0, .av (ts l)), (3, .av (vi (rC l a b Q c))), (4, .av (vi a)), (5, .av (vi b)), (6, .av (vi c))]) (fun _ => []) (fun c => c ≤ b ∧ ∀ c', c' < c → ∀ d, d < l.length → six (gt l a) (gt l b) (gt l c') (gt l d) = 0) (fun c => b - c) 0 ⟨Nat.zero_le _, by omega⟩ (ent ⟨.refl _, .int (by first | exact hQ | rfl | omega), .refl _, .refl _, .refl _, trivial⟩ trivial) ?_
    rintro c ⟨hcn, iC⟩
    refine wt ?_
    (refine cq_cond rfl ?_ ?_ <;> intro hb <;> (try simp only [zA, zB, zG, zC, zD, zN] at hb) <;> (try (exfalso; omega)))
    ·have hcb : c < b := by omega
     have hcl : c < l.length := by omega
     have eC : rC l a b Q (c + 1) = if tac (gt l a) (gt l b) (gt l c) = tz then rC l a b Q c else mx (rC l a b Q c) 2 := rfl
     generalize rC l a b Q c = q at eC ⊢
     have hta := racross_c (gt l a) (gt l b) (gt l c) (hl a) (hl b) (hl c)
     by_cases hnz : tac (gt l a) (gt l b) (gt l c) = tz
     ·rw [if_pos hnz] at eC
      rw [hnz] at hta
      have hz := rzero_c tz
      rw [decide_eq_true rfl] at hz
      have hq1 := hta
      have hq2 := hz
      refine wt ?_
      repeat' (first
        |(refine sq_split rfl rfl (fun hb => ?_) (fun hb => ?_) <;> (try simp only [zA, zB, zG, zC, zD, zN] at hb) <;> (try (exfalso; omega)) <;> refine wt ?_)
        |(refine dq_split rfl rfl (fun hb => ?_) (fun hb => ?_) <;> (try simp only [zA, zB, zG, zC, zD, zN] at hb) <;> (try (exfalso; omega)) <;> refine wt ?_))
      exact sq_round (c + 1) ⟨by omega, fun c' hc' d hd => by
       by_cases e : c' = c
       ·subst e; exact six_zero hnz _
       ·exact iC c' (by omega) d hd⟩ (by omega) (ent ⟨.refl _, .int (by rw [eC]), .refl _, .refl _, .int (by omega), trivial⟩ trivial)
     ·rw [if_neg hnz] at eC
      have hz := rzero_c (tac (gt l a) (gt l b) (gt l c))
      rw [decide_eq_false hnz] at hz
      generalize tac (gt l a) (gt l b) (gt l c) = n at hta hz
      unfold mx at eC
      have hq3 := hta
      have hq4 := hz
      refine wt ?_
      repeat' (first
        |(refine sq_split rfl rfl (fun hb => ?_) (fun hb => ?_) <;> (try simp only [zA, zB, zG, zC, zD, zN] at hb) <;> (try (exfalso; omega)) <;> refine wt ?_)
        |(refine dq_split rfl rfl (fun hb => ?_) (fun hb => ?_) <;> (try simp only [zA, zB, zG, zC, zD, zN] at hb) <;> (try (exfalso; omega)) <;> refine wt ?_))
      generalize hR : (if q < 2 then (2 : Int) else q) = R at eC ⊢
      refine cq_loop (γ := Nat) (fun d => [(0, .av (ts l)), (3, .av (vi R)), (4, .av (vi a)), (5, .av (vi b)), (6, .av (vi c)), (7, .av (vi d))]) (fun _ => []) (fun d => d ≤ l.length ∧ ∀ d', d' < d → six (gt l a) (gt l b) (gt l c) (gt l d') = 0) (fun d => l.length - d) 0 ⟨Nat.zero_le _, by omega⟩ (ent ⟨.refl _, .int (by first | exact hR | rfl | omega), .refl _, .refl _, .refl _, .refl _, trivial⟩ trivial) ?_
      rintro d ⟨hdn, iD⟩
      refine wt ?_
      (refine cq_cond rfl ?_ ?_ <;> intro hb <;> (try simp only [zA, zB, zG, zC, zD, zN] at hb) <;> (try (exfalso; omega)))
      ·have hdl : d < l.length := by omega
       have hsx := rsix_c (gt l a) (gt l b) (gt l c) (gt l d) (hl a) (hl b) (hl c) (hl d)
       generalize hS : six (gt l a) (gt l b) (gt l c) (gt l d) = s at hsx
       have hq5 := hsx
       refine wt ?_
       repeat' (first
         |(refine sq_split rfl rfl (fun hb => ?_) (fun hb => ?_) <;> (try simp only [zA, zB, zG, zC, zD, zN] at hb) <;> (try (exfalso; omega)) <;> refine wt ?_)
         |(refine dq_split rfl rfl (fun hb => ?_) (fun hb => ?_) <;> (try simp only [zA, zB, zG, zC, zD, zN] at hb) <;> (try (exfalso; omega)) <;> refine wt ?_))
       (refine cq_cond rfl ?_ ?_ <;> intro hb <;> (try simp only [zA, zB, zG, zC, zD, zN] at hb) <;> (try (exfalso; omega)))
       ·rw [h3 ⟨a, hal, b, hba, c, hcb, d, hdl, by rw [hS]; exact hb⟩]
        refine wt ?_
        exact zV
       ·have hs0 : s = 0 := by omega
        refine wt ?_
        exact sq_round (d + 1) ⟨by omega, fun d' hd' => by
         by_cases e : d' = d
         ·subst e; omega
         ·exact iD d' zO⟩ zO (ent zS trivial)
      ·have hdl : d = l.length := by omega
       subst hdl
       refine wt ?_
       exact sq_round (c + 1) ⟨by omega, fun c' hc' d hd => by
        by_cases e : c' = c
        ·subst e; exact iD d hd
        ·exact iC c' (by omega) d hd⟩ (by omega) (ent ⟨.refl _, .int (by rw [eC]), .refl _, .refl _, .int (by omega), trivial⟩ trivial)
    ·have hcb : c = b := by omega
     subst hcb
     refine wt ?_
     exact sq_round (c + 1) ⟨by omega, fun b' hb' c' hc d hd => by
      by_cases e : b' = c
      ·subst e; exact iC c' hc d hd
      ·exact iB b' (by omega) c' hc d hd⟩ (by omega) (ent ⟨.refl _, .int (by rw [eB]), .refl _, .int (by omega), trivial⟩ trivial)
  ·have hba : b = a := by omega
   subst hba
   refine wt ?_
   exact sq_round (b + 1) ⟨by omega, fun a' ha' b' hb' c hc d hd => by
    by_cases e : a' = b
    ·subst e; exact iB b' hb' c hc d hd
    ·exact iA a' (by omega) b' hb' c hc d hd⟩ (by omega) (ent ⟨.refl _, .int (by rw [eA]), .int (by omega), trivial⟩ trivial)
 ·have hal : a = l.length := by omega
  subst hal
  rw [h2 (fun ⟨a, ha, b, hb, c, hc, d, hd, h⟩ => h (iA a ha b hb c hc d hd))]
  refine wt ?_
  exact zV
end Go.Proofs.YtgepmbjmaljgoaaGreatDoor.H.S
namespace Go.Proofs.YtgepmbjmaljgoaaGreatDoor.H.S
open Go Go.Vc Go.RowKit Go.Sort
set_option maxHeartbeats 1000000
def cmpT (a b : Tr) : Int := if Lib.compareInt a.x b.x ≠ 0 then Lib.compareInt a.x b.x else if Lib.compareInt a.y b.y ≠ 0 then Lib.compareInt a.y b.y else Lib.compareInt a.z b.z
def cmpFr (a b : Tr) (k : Nat) : Int := match k with
 |0 => cmpT a b
 |1 => if Lib.compareInt a.y b.y ≠ 0 then Lib.compareInt a.y b.y else Lib.compareInt a.z b.z
 |2 => Lib.compareInt a.z b.z
 |_ => 0
theorem cmpFr_go {a b : Tr} {k : Nat} (hk : k < 3) : cmpFr a b k = if Lib.compareInt (co a k) (co b k) ≠ 0 then Lib.compareInt (co a k) (co b k) else cmpFr a b (k + 1) := by
 rcases (by omega : k = 0 ∨ k = 1 ∨ k = 2) with rfl | rfl | rfl
 ·rfl
 ·rfl
 ·show Lib.compareInt a.z b.z = if Lib.compareInt a.z b.z ≠ 0 then Lib.compareInt a.z b.z else 0
  split
  ·rfl
  ·rename_i h; exact Decidable.of_not_not h
set_option maxRecDepth 100000 in
theorem compare3 (a b : Tr) (p q cp cq : Nat) (W : World) (hp : ∀ j, j < 3 → W.cell? ⟨p, j, none⟩ = some (.int .i64 (co a j))) (hq : ∀ j, j < 3 → W.cell? ⟨q, j, none⟩ = some (.int .i64 (co b j))) :
  Calls Tryz.prog 249 #[.slice (some ⟨p, 0, none⟩) 3 cp, .slice (some ⟨q, 0, none⟩) 3 cq] W fun e w' => e = .returned (.int .i64 (cmpT a b)) ∧ w' = W := by
 go_enter Tryz.func249, Tryz.ntmps249
 go_wp2
 go_loopw [11] (fun i wr => ∃ k : Nat, k ≤ 3 ∧ i = .int .i64 k ∧ wr = W ∧ cmpFr a b k = cmpT a b) (fun i _ => 3 - (intOf i).toNat)
 case atStart => exact ⟨0, Nat.zero_le _, rfl, rfl, rfl⟩
 case round =>
  obtain ⟨k, hk, rfl, rfl, hc⟩ := hrel
  by_cases hk3 : k < 3
  ·have hkz : (k : Int) < 3 := by omega
   have h1 := hp k hk3
   have h2 := hq k hk3
   have hf := cmpFr_go (a := a) (b := b) hk3
   go_wp2_with (first | (go_at_call 223; refine (Tryz.cmp_Compare_int _ _ _).mono ?_; rintro e w' ⟨rfl, rfl⟩) | fail)
   ·rename_i hne
    go_ret
    refine ⟨?_, rfl⟩
    show Ending.returned (Value.int .i64 (Lib.compareInt (co a k) (co b k))) = _
    rw [← hc, hf, if_pos (by simpa using hne)]
   ·rename_i hne
    refine ⟨⟨k + 1, by omega, by go_num, trivial, ?_⟩, by simp [intOf]; omega⟩
    rw [← hc, hf, if_neg (by simpa using hne)]
  ·have : k = 3 := by omega
   subst this
   go_wp2
   go_ret
   refine ⟨?_, rfl⟩
   rw [← hc]
   rfl
def enc5 (n : Tr) (m : Int) (p : Option Addr) (k c : Nat) : List Value := [.int .i64 n.x, .int .i64 n.y, .int .i64 n.z, .int .i64 m, .slice p k c]
theorem co_cell (a : Tr) (m : Int) (p : Option Addr) (k c : Nat) : ∀ j, j < 3 → (enc5 a m p k c).toArray[j]? = some (.int .i64 (co a j)) := fun j hj => by
 rcases (by omega : j = 0 ∨ j = 1 ∨ j = 2) with rfl | rfl | rfl <;> rfl
theorem cmp_at (a b : Tr) (m m' : Int) (p p' : Option Addr) (k c k' c' : Nat) (W : World) (n : Nat) :
  Calls Tryz.prog 249 #[.slice (some ⟨W.heap.size, 0, none⟩) 3 3, .slice (some ⟨W.heap.size + 1, 0, none⟩) 3 3] (((W.alloc (.cells (enc5 a m p k c).toArray 89)).alloc (.cells (enc5 b m' p' k' c').toArray 89)).drewN n) fun e w' => e = .returned (.int .i64 (cmpT a b)) ∧ w' = (((W.alloc (.cells (enc5 a m p k c).toArray 89)).alloc (.cells (enc5 b m' p' k' c').toArray 89)).drewN n) := by
 refine compare3 a b _ _ _ _ _ (fun j hj => ?_) (fun j hj => ?_)
 ·have h1 : (((W.alloc (.cells (enc5 a m p k c).toArray 89)).alloc (.cells (enc5 b m' p' k' c').toArray 89)).drewN n).heap[W.heap.size]? = some (.cells (enc5 a m p k c).toArray 89 (0, 0)) := by
   show ((W.alloc (.cells (enc5 a m p k c).toArray 89)).alloc (.cells (enc5 b m' p' k' c').toArray 89)).heap[W.heap.size]? = _
   rw [Go.Vc.heap_old _ _ (by simp)]
   exact World.alloc_heap_new W _
  simp only [World.cell?, h1]
  exact co_cell a m p k c j hj
 ·have h1 : (((W.alloc (.cells (enc5 a m p k c).toArray 89)).alloc (.cells (enc5 b m' p' k' c').toArray 89)).drewN n).heap[W.heap.size + 1]? = some (.cells (enc5 b m' p' k' c').toArray 89 (0, 0)) := by
   show ((W.alloc (.cells (enc5 a m p k c).toArray 89)).alloc (.cells (enc5 b m' p' k' c').toArray 89)).heap[W.heap.size + 1]? = _
   have := World.alloc_heap_new (W.alloc (.cells (enc5 a m p k c).toArray 89)) (.cells (enc5 b m' p' k' c').toArray 89)
   rwa [World.size_alloc] at this
  simp only [World.cell?, h1]
  exact co_cell b m' p' k' c' j hj
set_option maxRecDepth 100000 in
theorem cmp_any (a b : Tr) (m m' : Int) (p p' : Option Addr) (k c k' c' : Nat) (W : World) : Calls Tryz.prog 201 #[.agg (enc5 a m p k c).toArray, .agg (enc5 b m' p' k' c').toArray] W fun e w' => e = .returned (.int .i64 (cmpT a b)) ∧ ∃ q, w' = (grow W #[.cells (enc5 a m p k c).toArray 89, .cells (enc5 b m' p' k' c').toArray 89]).drewN q := by
 go_enter Tryz.func201, Tryz.ntmps201
 go_wp2
 go_quiet (first | (go_at_call 249; refine Calls.quiet_of_same (cmp_at a b m m' p p' k c k' c' W _)))
 go_wp2
 go_ret
 exact ⟨rfl, nq, by rw [alloc_eq_grow, alloc_eq_grow, grow_grow]; rfl⟩
end Go.Proofs.YtgepmbjmaljgoaaGreatDoor.H.S
namespace Go.Proofs
open Go.Shelf
def Tryz.laysSlF06_f246_ren : Go.Shelf.Ren := ⟨fun | 6 => 246 | 15 => 160 | 14 => 286 | 28 => 214 | 29 => 215 | 20 => 305 | 21 => 306 | 22 => 307 | 23 => 308 | 24 => 309 | 25 => 310 | 26 => 311 | 27 => 312 | 46 => 332 | 47 => 253 | 48 => 254 | 49 => 333 | 50 => 334 | 57 => 345 | n => n, fun | 22 => 84 | 24 => 89 | 25 => 249 | 3 => 3 | 39 => 207 | 0 => 0 | 53 => 266 | 55 => 268 | 4 => 4 | 46 => 259 | 45 => 258 | 50 => 263 | 5 => 5 | 9 => 9 | 66 => 305 | 70 => 309 | 76 => 343 | 77 => 344 | n => n, fun | n => n⟩
theorem Tryz.laysSlF06_f246 : Go.Proofs.SlLaysF0.n6 Tryz.prog Tryz.laysSlF06_f246_ren := {
 mixed := by kernel_rfl
 f6 := ⟨Tryz.f246.name, by decide, Tryz.func246.trans (congrArg some (by kernel_rfl))⟩
 f14 := ⟨Tryz.f286.name, by decide, Tryz.func286.trans (congrArg some (by kernel_rfl))⟩
 f15 := Tryz.func160.trans (congrArg some (by kernel_rfl))
 f20 := ⟨Tryz.f305.name, by decide, Tryz.func305.trans (congrArg some (by kernel_rfl))⟩
 f21 := ⟨Tryz.f306.name, by decide, Tryz.func306.trans (congrArg some (by kernel_rfl))⟩
 f22 := ⟨Tryz.f307.name, by decide, Tryz.func307.trans (congrArg some (by kernel_rfl))⟩
 f23 := ⟨Tryz.f308.name, by decide, Tryz.func308.trans (congrArg some (by kernel_rfl))⟩
 f24 := ⟨Tryz.f309.name, by decide, Tryz.func309.trans (congrArg some (by kernel_rfl))⟩
 f25 := ⟨Tryz.f310.name, by decide, Tryz.func310.trans (congrArg some (by kernel_rfl))⟩
 f26 := ⟨Tryz.f311.name, by decide, Tryz.func311.trans (congrArg some (by kernel_rfl))⟩
 f27 := ⟨Tryz.f312.name, by decide, Tryz.func312.trans (congrArg some (by kernel_rfl))⟩
 f28 := Tryz.func214.trans (congrArg some (by kernel_rfl))
 f29 := Tryz.func215.trans (congrArg some (by kernel_rfl))
 f46 := ⟨Tryz.f332.name, by decide, Tryz.func332.trans (congrArg some (by kernel_rfl))⟩
 f47 := Tryz.func253.trans (congrArg some (by kernel_rfl))
 f48 := Tryz.func254.trans (congrArg some (by kernel_rfl))
 f49 := ⟨Tryz.f333.name, by decide, Tryz.func333.trans (congrArg some (by kernel_rfl))⟩
 f50 := ⟨Tryz.f334.name, by decide, Tryz.func334.trans (congrArg some (by kernel_rfl))⟩
 f57 := ⟨Tryz.f345.name, by decide, Tryz.func345.trans (congrArg some (by kernel_rfl))⟩
 t0 := Tryz.underlying0
 a0 := Tryz.isAgg0
 z0 := Tryz.sizeOf0
 v0 := Tryz.zeroValue0
 t3 := Tryz.underlying3
 a3 := Tryz.isAgg3
 z3 := Tryz.sizeOf3
 v3 := Tryz.zeroValue3
 t4 := Tryz.underlying4
 a4 := Tryz.isAgg4
 z4 := Tryz.sizeOf4
 v4 := Tryz.zeroValue4
 t5 := Tryz.underlying5
 a5 := Tryz.isAgg5
 z5 := Tryz.sizeOf5
 v5 := Tryz.zeroValue5
 t9 := Tryz.underlying9
 a9 := Tryz.isAgg9
 z9 := Tryz.sizeOf9
 v9 := Tryz.zeroValue9
 t22 := Tryz.underlying84
 a22 := Tryz.isAgg84
 z22 := Tryz.sizeOf84
 v22 := Tryz.zeroValue84
 t25 := Tryz.underlying249
 a25 := Tryz.isAgg249
 z25 := Tryz.sizeOf249
 v25 := Tryz.zeroValue249
 t39 := Tryz.underlying207
 a39 := Tryz.isAgg207
 z39 := Tryz.sizeOf207
 v39 := Tryz.zeroValue207
 t45 := Tryz.underlying258
 a45 := Tryz.isAgg258
 z45 := Tryz.sizeOf258
 v45 := Tryz.zeroValue258
 t46 := Tryz.underlying259
 a46 := Tryz.isAgg259
 z46 := Tryz.sizeOf259
 v46 := Tryz.zeroValue259
 t50 := Tryz.underlying263
 a50 := Tryz.isAgg263
 z50 := Tryz.sizeOf263
 v50 := Tryz.zeroValue263
 t53 := Tryz.underlying266
 a53 := Tryz.isAgg266
 z53 := Tryz.sizeOf266
 v53 := Tryz.zeroValue266
 t55 := Tryz.underlying268
 a55 := Tryz.isAgg268
 z55 := Tryz.sizeOf268
 v55 := Tryz.zeroValue268
 t66 := Tryz.underlying305
 a66 := Tryz.isAgg305
 z66 := Tryz.sizeOf305
 v66 := Tryz.zeroValue305
 t70 := Tryz.underlying309
 a70 := Tryz.isAgg309
 z70 := Tryz.sizeOf309
 v70 := Tryz.zeroValue309
 t76 := Tryz.underlying343
 a76 := Tryz.isAgg343
 z76 := Tryz.sizeOf343
 v76 := Tryz.zeroValue343
 t77 := Tryz.underlying344
 a77 := Tryz.isAgg344
 z77 := Tryz.sizeOf344
 v77 := Tryz.zeroValue344 }
end Go.Proofs
namespace Go.Proofs.YtgepmbjmaljgoaaGreatDoor.H.S
open Go Go.Vc Go.RowKit
set_option maxHeartbeats 4000000
abbrev c7 (s : Spn) : Res := .cells [.av (vi s.dim), .av (vi s.pt.x), .av (vi s.pt.y), .av (vi s.pt.z), .av (vi s.way.x), .av (vi s.way.y), .av (vi s.way.z)]
abbrev spv (s : Spn) : AV := .val (.agg #[.int .i64 s.dim, .int .i64 s.pt.x, .int .i64 s.pt.y, .int .i64 s.pt.z, .int .i64 s.way.x, .int .i64 s.way.y, .int .i64 s.way.z])
theorem tb194_0 : Tryz.prog.built 194 [(0, .int .i64 (-1))] = some #[.int .i64 (-1), .int .i64 0, .int .i64 0, .int .i64 0, .int .i64 0, .int .i64 0, .int .i64 0] := by kernel_rfl
theorem tb192_0 : Tryz.prog.built 192 [] = some #[.int .i64 0, .int .i64 0, .int .i64 0] := by kernel_rfl
theorem tz_eq (a : Tr) : ([a.x, a.y, a.z] == [0, 0, 0]) = decide (a = tz) := by
 cases a; rw [Bool.eq_iff_iff]; simp [tz]
theorem spanned_c (l : List Tr) (hl : RT l) (hn : l.length ≤ 1000) : CtrA Tryz.prog 153 [ts l] (spv (spn l)) := by
 refine ctrA _ Tryz.func153 rfl rfl Tryz.ntmps153 rfl fun w Z => ?_
 have h00 : spTo l 0 = ⟨-1, tz, tz⟩ := rfl
 refine zU ?_
 refine wt ?_
 repeat' (first
   |(refine sq_split rfl rfl (fun hb => ?_) (fun hb => ?_) <;> (try simp only [zA, zB, zG, zC, zD, zN] at hb) <;> (try (exfalso; omega)) <;> refine wt ?_)
   |(refine dq_split rfl rfl (fun hb => ?_) (fun hb => ?_) <;> (try simp only [zA, zB, zG, zC, zD, zN] at hb) <;> (try (exfalso; omega)) <;> refine wt ?_)
   |(refine sq_g (g_build (is := [0]) (xs := [_]) (vs := [_]) tb194_0 rfl rfl) rfl ?_; refine wt ?_)
   |(refine dq_g (g_build (is := [0]) (xs := [_]) (vs := [_]) tb194_0 rfl rfl) rfl ?_; refine wt ?_)
   |(refine sq_on (g_build (is := [0]) (xs := [_]) (vs := [_]) tb194_0 rfl rfl) rfl rfl rfl ?_; refine wt ?_)
   |(refine dq_on (g_build (is := [0]) (xs := [_]) (vs := [_]) tb194_0 rfl rfl) rfl rfl rfl ?_; refine wt ?_))
 refine cq_loop (γ := Nat) (fun k => [(2, .own 10 0), (3, .own 11 0), (9, .av (ts l)), (10, .av (vi l.length)), (11, .av (vi k))]) (fun k => [(10, c7 ⟨0, tz, tz⟩), (11, c7 (spTo l k))]) (fun k => k ≤ l.length) (fun k => l.length - k) 0 (Nat.zero_le _) (ent zS zT) ?_
 intro k hk
 refine wt ?_
 (refine cq_cond rfl ?_ ?_ <;> intro hb <;> (try simp only [zA, zB, zG, zC, zD, zN] at hb) <;> (try (exfalso; omega)))
 ·have hkl : k < l.length := by omega
  have hs := spTo_succ hkl
  have hok := SpOk.to hl k
  have hp := hl k
  generalize spTo l k = s at hs hok ⊢
  have hsub : BT 200000 (tsub (gt l k) s.pt) := hp.sub hok.pt
  have hq := hok.pt
  have hp' := hp.le (B := 1000000000000) zE
  have hq' := hq.le (B := 1000000000000) zE
  unfold spStep at hs
  refine wt ?_
  (refine cq_cond rfl ?_ ?_ <;> intro hb <;> (try simp only [zA, zB, zG, zC, zD, zN] at hb) <;> (try (exfalso; omega)))
  ·rw [if_pos hb] at hs
   refine wt ?_
   exact sq_round (k + 1) (by omega) (by omega) (ent zS ⟨⟨_, rfl, .refl _⟩, ⟨_, rfl, by rw [hs]; exact .refl _⟩, trivial⟩)
  rw [if_neg hb] at hs
  have hm1 := hb
  refine wt ?_
  (refine cq_cond rfl ?_ ?_ <;> intro hb <;> (try simp only [zA, zB, zG, zC, zD, zN] at hb) <;> (try (exfalso; omega)))
  ·rw [if_pos hb] at hs
   have hq1 := minus_c (gt l k) s.pt hp' hq'
   refine wt ?_
   repeat' (first
     |(refine sq_split rfl rfl (fun hb => ?_) (fun hb => ?_) <;> (try simp only [zA, zB, zG, zC, zD, zN] at hb) <;> (try (exfalso; omega)) <;> refine wt ?_)
     |(refine dq_split rfl rfl (fun hb => ?_) (fun hb => ?_) <;> (try simp only [zA, zB, zG, zC, zD, zN] at hb) <;> (try (exfalso; omega)) <;> refine wt ?_)
     |(refine sq_g (g_build (is := []) (xs := []) (vs := []) tb192_0 rfl rfl) rfl ?_; refine wt ?_)
     |(refine dq_g (g_build (is := []) (xs := []) (vs := []) tb192_0 rfl rfl) rfl ?_; refine wt ?_)
     |(refine sq_on (g_build (is := []) (xs := []) (vs := []) tb192_0 rfl rfl) rfl rfl rfl ?_; refine wt ?_)
     |(refine dq_on (g_build (is := []) (xs := []) (vs := []) tb192_0 rfl rfl) rfl rfl rfl ?_; refine wt ?_))
   refine cq_cond rfl (fun hc => ?_) (fun hc => ?_)
   ·rw [if_neg (by intro e; rw [e] at hc; simp [tz] at hc)] at hs
    refine wt ?_
    exact sq_round (k + 1) (by omega) (by omega) (ent zS ⟨⟨_, rfl, .refl _⟩, ⟨_, rfl, by rw [hs]; exact .refl _⟩, trivial⟩)
   ·rw [if_pos (by rw [tz_eq] at hc; simpa using hc)] at hs
    refine wt ?_
    exact sq_round (k + 1) (by omega) (by omega) (ent zS ⟨⟨_, rfl, .refl _⟩, ⟨_, rfl, by rw [hs]; exact .refl _⟩, trivial⟩)
  rw [if_neg hb] at hs
  have h00' := hb
  refine wt ?_
  (refine cq_cond rfl ?_ ?_ <;> intro hb <;> (try simp only [zA, zB, zG, zC, zD, zN] at hb) <;> (try (exfalso; omega)))
  ·rw [if_pos hb] at hs
   have hw : BT 200000 s.way := by
    rcases hok.dim with e | e | e | e | e
    ·omega
    ·omega
    ·exact e.2
    ·omega
    ·omega
   have hq2 := minus_c (gt l k) s.pt hp' hq'
   have hq3 := cross_c s.way (tsub (gt l k) s.pt) hw hsub zE
   refine wt ?_
   repeat' (first
     |(refine sq_split rfl rfl (fun hb => ?_) (fun hb => ?_) <;> (try simp only [zA, zB, zG, zC, zD, zN] at hb) <;> (try (exfalso; omega)) <;> refine wt ?_)
     |(refine dq_split rfl rfl (fun hb => ?_) (fun hb => ?_) <;> (try simp only [zA, zB, zG, zC, zD, zN] at hb) <;> (try (exfalso; omega)) <;> refine wt ?_)
     |(refine sq_g (g_build (is := []) (xs := []) (vs := []) tb192_0 rfl rfl) rfl ?_; refine wt ?_)
     |(refine dq_g (g_build (is := []) (xs := []) (vs := []) tb192_0 rfl rfl) rfl ?_; refine wt ?_)
     |(refine sq_on (g_build (is := []) (xs := []) (vs := []) tb192_0 rfl rfl) rfl rfl rfl ?_; refine wt ?_)
     |(refine dq_on (g_build (is := []) (xs := []) (vs := []) tb192_0 rfl rfl) rfl rfl rfl ?_; refine wt ?_))
   refine cq_cond rfl (fun hc => ?_) (fun hc => ?_)
   ·rw [if_neg (by intro e; rw [e] at hc; simp [tz] at hc)] at hs
    refine wt ?_
    exact sq_round (k + 1) (by omega) (by omega) (ent zS ⟨⟨_, rfl, .refl _⟩, ⟨_, rfl, by rw [hs]; exact .refl _⟩, trivial⟩)
   ·rw [if_pos (by rw [tz_eq] at hc; simpa using hc)] at hs
    refine wt ?_
    exact sq_round (k + 1) (by omega) (by omega) (ent zS ⟨⟨_, rfl, .refl _⟩, ⟨_, rfl, by rw [hs]; exact .refl _⟩, trivial⟩)
  rw [if_neg hb] at hs
  have h11 := hb
  refine wt ?_
  (refine cq_cond rfl ?_ ?_ <;> intro hb <;> (try simp only [zA, zB, zG, zC, zD, zN] at hb) <;> (try (exfalso; omega)))
  ·rw [if_pos hb] at hs
   have hd2 := hb
   have hw : BT 80000000000 s.way := by
    rcases hok.dim with e | e | e | e | e
    ·omega
    ·omega
    ·omega
    ·exact e.2
    ·omega
   have hq4 := prim_c s.way (hw.le zE)
   have hq5 := minus_c (gt l k) s.pt hp' hq'
   have hq6 := dot_c (tpr s.way) (tsub (gt l k) s.pt) hw.pr hsub zE
   refine wt ?_
   repeat' (first
     |(refine sq_split rfl rfl (fun hb => ?_) (fun hb => ?_) <;> (try simp only [zA, zB, zG, zC, zD, zN] at hb) <;> (try (exfalso; omega)) <;> refine wt ?_)
     |(refine dq_split rfl rfl (fun hb => ?_) (fun hb => ?_) <;> (try simp only [zA, zB, zG, zC, zD, zN] at hb) <;> (try (exfalso; omega)) <;> refine wt ?_))
   (refine cq_cond rfl ?_ ?_ <;> intro hb <;> (try simp only [zA, zB, zG, zC, zD, zN] at hb) <;> (try (exfalso; omega)))
   ·rw [if_neg hb] at hs
    refine wt ?_
    exact sq_round (k + 1) (by omega) (by omega) (ent zS ⟨⟨_, rfl, .refl _⟩, ⟨_, rfl, by rw [hs]; exact .refl _⟩, trivial⟩)
   ·rw [if_pos hb] at hs
    refine wt ?_
    exact sq_round (k + 1) (by omega) (by omega) (ent zS ⟨⟨_, rfl, .refl _⟩, ⟨_, rfl, by rw [hs, hd2]; exact .refl _⟩, trivial⟩)
  ·rw [if_neg hb] at hs
   refine wt ?_
   exact sq_round (k + 1) (by omega) (by omega) (ent zS ⟨⟨_, rfl, .refl _⟩, ⟨_, rfl, by rw [hs]; exact .refl _⟩, trivial⟩)
 ·have hkl : k = l.length := by omega
  subst hkl
  refine wt ?_
  repeat' (first
    |(refine sq_split rfl rfl (fun hb => ?_) (fun hb => ?_) <;> (try simp only [zA, zB, zG, zC, zD, zN] at hb) <;> (try (exfalso; omega)) <;> refine wt ?_)
    |(refine dq_split rfl rfl (fun hb => ?_) (fun hb => ?_) <;> (try simp only [zA, zB, zG, zC, zD, zN] at hb) <;> (try (exfalso; omega)) <;> refine wt ?_)
    |(refine sq_g (g_load_own_agg (us := [.int _ _, .int _ _, .int _ _, .int _ _, .int _ _, .int _ _, .int _ _]) rfl rfl rfl rfl) rfl ?_; refine wt ?_)
    |(refine dq_g (g_load_own_agg (us := [.int _ _, .int _ _, .int _ _, .int _ _, .int _ _, .int _ _, .int _ _]) rfl rfl rfl rfl) rfl ?_; refine wt ?_)
    |(refine sq_on (g_load_own_agg (us := [.int _ _, .int _ _, .int _ _, .int _ _, .int _ _, .int _ _, .int _ _]) rfl rfl rfl rfl) rfl rfl rfl ?_; refine wt ?_)
    |(refine dq_on (g_load_own_agg (us := [.int _ _, .int _ _, .int _ _, .int _ _, .int _ _, .int _ _, .int _ _]) rfl rfl rfl rfl) rfl rfl rfl ?_; refine wt ?_))
  exact sq_res1 rfl (.agg (us := [_, _, _, _, _, _, _]) rfl rfl rfl rfl) rfl
end Go.Proofs.YtgepmbjmaljgoaaGreatDoor.H.S
namespace Go.Proofs.YtgepmbjmaljgoaaGreatDoor.H.S
open Go Go.Vc Go.RowKit
set_option maxHeartbeats 8000000
theorem times_c (a : Tr) (k : Int) (h : BT 1000000000000 a) (hk : k = -1) : CtrA Tryz.prog 287 [tp a, vi k] (tp (tmul a k)) := by
 refine ctrA _ Tryz.func287 rfl rfl Tryz.ntmps287 rfl fun w Z => ?_
 obtain ⟨⟨_, _⟩, ⟨_, _⟩, ⟨_, _⟩⟩ := h
 subst hk
 refine zU ?_
 refine wt ?_
 repeat' (first
   |(refine sq_split rfl rfl (fun hb => ?_) (fun hb => ?_) <;> (try simp only [zA, zB, zG, zC, zD, zN] at hb) <;> (try (exfalso; omega)) <;> refine wt ?_)
   |(refine dq_split rfl rfl (fun hb => ?_) (fun hb => ?_) <;> (try simp only [zA, zB, zG, zC, zD, zN] at hb) <;> (try (exfalso; omega)) <;> refine wt ?_)
   |(refine sq_g (g_build (is := [0, 1, 2]) (xs := [_, _, _]) (vs := [_, _, _]) (tb192 _ _ _) rfl rfl) rfl ?_; refine wt ?_)
   |(refine dq_g (g_build (is := [0, 1, 2]) (xs := [_, _, _]) (vs := [_, _, _]) (tb192 _ _ _) rfl rfl) rfl ?_; refine wt ?_)
   |(refine sq_on (g_build (is := [0, 1, 2]) (xs := [_, _, _]) (vs := [_, _, _]) (tb192 _ _ _) rfl rfl) rfl rfl rfl ?_; refine wt ?_)
   |(refine dq_on (g_build (is := [0, 1, 2]) (xs := [_, _, _]) (vs := [_, _, _]) (tb192 _ _ _) rfl rfl) rfl rfl rfl ?_; refine wt ?_))
 exact sq_res1 rfl (.agg (us := [_, _, _]) rfl rfl rfl rfl) rfl
structure Fc where
 n : Tr
 m : Int
 s : List Nat
deriving DecidableEq, Inhabited
def fcf (f : Fc) : Nat → AV
 |0 => vi f.n.x
 |1 => vi f.n.y
 |2 => vi f.n.z
 |3 => vi f.m
 |_+4 => .sl f.s.length 1 (xf f.s)
theorem fcf_one (f : Fc) : ∀ i, i < 5 → (fcf f i).one = true := fun i h => by
 rcases (by omega : i = 0 ∨ i = 1 ∨ i = 2 ∨ i = 3 ∨ i = 4) with rfl | rfl | rfl | rfl | rfl <;> rfl
abbrev fca (f : Fc) : AV := .agg 5 (fcf f)
def onTo (l : List Tr) (n : Tr) (m : Int) (k : Nat) : List Nat := (List.range k).filter fun i => decide (tdot n (gt l i) = m)
def anyLt (l : List Tr) (n : Tr) (m : Int) (k : Nat) : Bool := (List.range k).any fun i => decide (tdot n (gt l i) < m)
def anyGt (l : List Tr) (n : Tr) (m : Int) (k : Nat) : Bool := (List.range k).any fun i => decide (m < tdot n (gt l i))
def facN (l : List Tr) (n : Tr) (m : Int) : Fc := if anyGt l n m l.length = true then ⟨tmul n (-1), -m, onTo l n m l.length⟩ else ⟨n, m, onTo l n m l.length⟩
def facB (l : List Tr) (n : Tr) (m : Int) : Bool := !anyLt l n m l.length || !anyGt l n m l.length
theorem onTo_succ (l : List Tr) (n : Tr) (m : Int) (k : Nat) : onTo l n m (k + 1) = if tdot n (gt l k) = m then onTo l n m k ++ [k] else onTo l n m k := by
 unfold onTo
 rw [List.range_succ, List.filter_append]
 split
 ·rename_i h; simp [h]
 ·rename_i h; simp [h]
theorem onTo_len (l : List Tr) (n : Tr) (m : Int) (k : Nat) : (onTo l n m k).length ≤ k := by
 have := List.length_filter_le (fun i => decide (tdot n (gt l i) = m)) (List.range k)
 simpa [onTo] using this
theorem anyLt_succ (l : List Tr) (n : Tr) (m : Int) (k : Nat) : anyLt l n m (k + 1) = (anyLt l n m k || decide (tdot n (gt l k) < m)) := by unfold anyLt; rw [List.range_succ, List.any_append]; simp
theorem anyGt_succ (l : List Tr) (n : Tr) (m : Int) (k : Nat) : anyGt l n m (k + 1) = (anyGt l n m k || decide (m < tdot n (gt l k))) := by unfold anyGt; rw [List.range_succ, List.any_append]; simp
theorem tb89_2 (n : Tr) (m : Int) : Tryz.prog.built 89 [(0, .agg #[.int .i64 n.x, .int .i64 n.y, .int .i64 n.z]), (1, .int .i64 m)] = some #[.int .i64 n.x, .int .i64 n.y, .int .i64 n.z, .int .i64 m, .slice none 0 0] := by kernel_rfl
theorem facet_c (l : List Tr) (n : Tr) (m : Int) (hl : RT l) (hln : l.length ≤ 1000) (hn : BT 1000000000000 n) (hm : Bn 1000000000000000000 m) : CtrA Tryz.prog 248 [ts l, tp n, vi m] (tupOf [fca (facN l n m), vb (facB l n m)]) := by
 refine ctrA _ Tryz.func248 rfl rfl Tryz.ntmps248 rfl fun w Z => ?_
 obtain ⟨hm1, hm2⟩ := hm
 refine zU ?_
 refine wt ?_
 repeat' (first
   |(refine sq_split rfl rfl (fun hb => ?_) (fun hb => ?_) <;> (try simp only [zA, zB, zG, zC, zD, zN] at hb) <;> (try (exfalso; omega)) <;> refine wt ?_)
   |(refine dq_split rfl rfl (fun hb => ?_) (fun hb => ?_) <;> (try simp only [zA, zB, zG, zC, zD, zN] at hb) <;> (try (exfalso; omega)) <;> refine wt ?_)
   |(refine sq_g (g_build (is := [0, 1]) (xs := [_, _]) (vs := [_, _]) (tb89_2 n m) rfl rfl) rfl ?_; refine wt ?_)
   |(refine dq_g (g_build (is := [0, 1]) (xs := [_, _]) (vs := [_, _]) (tb89_2 n m) rfl rfl) rfl ?_; refine wt ?_)
   |(refine sq_on (g_build (is := [0, 1]) (xs := [_, _]) (vs := [_, _]) (tb89_2 n m) rfl rfl) rfl rfl rfl ?_; refine wt ?_)
   |(refine dq_on (g_build (is := [0, 1]) (xs := [_, _]) (vs := [_, _]) (tb89_2 n m) rfl rfl) rfl rfl rfl ?_; refine wt ?_))
 refine cq_loop (γ := Nat) (fun k => [(2, .av (vi m)), (4, .av (bt n)), (6, .own 10 0), (8, .own 11 0), (9, .av (vb (anyLt l n m k))), (10, .av (vb (anyGt l n m k))), (17, .av (ts l)), (18, .av (vi l.length)), (19, .av (vi k))]) (fun k => [(10, .cells [.av (vi 0), .av (vi 0), .av (vi 0), .av (vi 0), .av (.val (.slice none 0 0))]), (60, .row 3 1 (onTo l n m k).length (xf (onTo l n m k))), (11, .cells [.av (vi n.x), .av (vi n.y), .av (vi n.z), .av (vi m), .osl 60])]) (fun k => k ≤ l.length) (fun k => l.length - k) 0 (Nat.zero_le _) (Ent.trans (ent_rowc (r := 11) (off := 4) 60 3 1 (xf []) rfl rfl rfl) (ent zS zT)) ?_
 intro k hk
 refine wt ?_
 (refine cq_cond rfl ?_ ?_ <;> intro hb <;> (try simp only [zA, zB, zG, zC, zD, zN] at hb) <;> (try (exfalso; omega)))
 ·have hkl : k < l.length := by omega
  have e0 := onTo_succ l n m k
  have e1 := anyLt_succ l n m k
  have e2 := anyGt_succ l n m k
  have hol := onTo_len l n m k
  generalize onTo l n m k = X at e0 hol ⊢
  generalize anyLt l n m k = bl at e1 ⊢
  generalize anyGt l n m k = ba at e2 ⊢
  refine wt ?_
  repeat' (first
    |(refine sq_split rfl rfl (fun hb => ?_) (fun hb => ?_) <;> (try simp only [zA, zB, zG, zC, zD, zN] at hb) <;> (try (exfalso; omega)) <;> refine wt ?_)
    |(refine dq_split rfl rfl (fun hb => ?_) (fun hb => ?_) <;> (try simp only [zA, zB, zG, zC, zD, zN] at hb) <;> (try (exfalso; omega)) <;> refine wt ?_)
    |(refine sq_g (g_call (dot_c _ _ hn (hl _) zE) rfl) rfl ?_; refine wt ?_)
    |(refine dq_g (g_call (dot_c _ _ hn (hl _) zE) rfl) rfl ?_; refine wt ?_)
    |(refine sq_on (g_call (dot_c _ _ hn (hl _) zE) rfl) rfl rfl rfl ?_; refine wt ?_)
    |(refine dq_on (g_call (dot_c _ _ hn (hl _) zE) rfl) rfl rfl rfl ?_; refine wt ?_))
  (refine cq_cond rfl ?_ ?_ <;> intro hb <;> (try simp only [zA, zB, zG, zC, zD, zN] at hb) <;> (try (exfalso; omega)))
  ·rw [if_neg (by omega)] at e0
   rw [decide_eq_true hb, Bool.or_true] at e1
   rw [decide_eq_false (by omega), Bool.or_false] at e2
   refine wt ?_
   exact sq_round (k + 1) (by omega) (by omega) (ent ⟨.refl _, .refl _, .refl _, .refl _, (by rw [e1]; exact .refl _), (by rw [e2]; exact .refl _), .refl _, .refl _, .int (by omega), trivial⟩ ⟨⟨_, rfl, .refl _⟩, ⟨_, rfl, .row (by rw [e0]) (fun _ _ _ _ => by rw [e0])⟩, ⟨_, rfl, .refl _⟩, trivial⟩)
  have hb1 := hb
  rw [decide_eq_false hb, Bool.or_false] at e1
  refine wt ?_
  (refine cq_cond rfl ?_ ?_ <;> intro hb <;> (try simp only [zA, zB, zG, zC, zD, zN] at hb) <;> (try (exfalso; omega)))
  ·rw [if_neg (by omega)] at e0
   rw [decide_eq_true hb, Bool.or_true] at e2
   refine wt ?_
   exact sq_round (k + 1) (by omega) (by omega) (ent ⟨.refl _, .refl _, .refl _, .refl _, (by rw [e1]; exact .refl _), (by rw [e2]; exact .refl _), .refl _, .refl _, .int (by omega), trivial⟩ ⟨⟨_, rfl, .refl _⟩, ⟨_, rfl, .row (by rw [e0]) (fun _ _ _ _ => by rw [e0])⟩, ⟨_, rfl, .refl _⟩, trivial⟩)
  ·rw [if_pos (by omega)] at e0
   rw [decide_eq_false hb, Bool.or_false] at e2
   have hml : X.length + 1 ≤ maxLen := by simp only [maxLen]; omega
   refine wt ?_
   repeat' (first
     |(refine sq_split rfl rfl (fun hb => ?_) (fun hb => ?_) <;> (try simp only [zA, zB, zG, zC, zD, zN] at hb) <;> (try (exfalso; omega)) <;> refine wt ?_)
     |(refine dq_split rfl rfl (fun hb => ?_) (fun hb => ?_) <;> (try simp only [zA, zB, zG, zC, zD, zN] at hb) <;> (try (exfalso; omega)) <;> refine wt ?_)
     |(refine sq_v (v_push_ix rfl rfl rfl hml rfl) rfl ?_; refine wt ?_)
     |(refine sq_s (g_store_osl (q := 60) rfl rfl rfl rfl rfl) ?_; refine wt ?_))
   exact sq_round (k + 1) (by omega) (by omega) (ent ⟨.refl _, .refl _, .refl _, .refl _, (by rw [e1]; exact .refl _), (by rw [e2]; exact .refl _), .refl _, .refl _, .int (by omega), trivial⟩ ⟨⟨_, rfl, .refl _⟩, ⟨_, rfl, .row (by rw [e0]) (fun _ _ _ _ => by rw [e0])⟩, ⟨_, rfl, .refl _⟩, trivial⟩)
 ·have hkl : k = l.length := by omega
  subst hkl
  have f1 : facN l n m = if anyGt l n m l.length = true then ⟨tmul n (-1), -m, onTo l n m l.length⟩ else ⟨n, m, onTo l n m l.length⟩ := rfl
  have f2 : facB l n m = (!anyLt l n m l.length || !anyGt l n m l.length) := rfl
  generalize onTo l n m l.length = X at f1 ⊢
  generalize anyLt l n m l.length = bl at f2 ⊢
  generalize anyGt l n m l.length = ba at f1 f2 ⊢
  refine wt ?_
  (refine cq_cond rfl ?_ ?_ <;> intro hb <;> (try simp only [zA, zB, zG, zC, zD, zN] at hb) <;> (try (exfalso; omega)))
  ·rw [if_pos hb] at f1
   rw [f1, f2]
   have ht := times_c n (-1) hn rfl
   have hq1 := ht
   refine wt ?_
   repeat' (first
     |(refine sq_split rfl rfl (fun hb => ?_) (fun hb => ?_) <;> (try simp only [zA, zB, zG, zC, zD, zN] at hb) <;> (try (exfalso; omega)) <;> refine wt ?_)
     |(refine dq_split rfl rfl (fun hb => ?_) (fun hb => ?_) <;> (try simp only [zA, zB, zG, zC, zD, zN] at hb) <;> (try (exfalso; omega)) <;> refine wt ?_)
     |(refine lsq_ent (ent_freeze_in 11 60 4 rfl rfl rfl rfl) ?_; refine wt ?_)
     |(refine sq_g (g_load_own_aggv (f := fcf ⟨tmul n (-1), -m, X⟩) rfl rfl rfl) rfl ?_; refine wt ?_)
     |(refine dq_g (g_load_own_aggv (f := fcf ⟨tmul n (-1), -m, X⟩) rfl rfl rfl) rfl ?_; refine wt ?_)
     |(refine sq_on (g_load_own_aggv (f := fcf ⟨tmul n (-1), -m, X⟩) rfl rfl rfl) rfl rfl rfl ?_; refine wt ?_)
     |(refine dq_on (g_load_own_aggv (f := fcf ⟨tmul n (-1), -m, X⟩) rfl rfl rfl) rfl rfl rfl ?_; refine wt ?_)
     |(refine sq_s (g_store_aggv rfl rfl (fcf_one _) rfl rfl) ?_; refine wt ?_))
   all_goals (exact sq_resN (rvs := [_, _]) (τs := [fca _, vb _]) rfl rfl ⟨.aggv (k := 5) rfl rfl rfl, .tmp rfl, trivial⟩ (by rw [hb]; rfl))
  ·rw [if_neg (by rw [hb]; simp)] at f1
   rw [f1, f2]
   refine wt ?_
   repeat' (first
     |(refine sq_split rfl rfl (fun hb => ?_) (fun hb => ?_) <;> (try simp only [zA, zB, zG, zC, zD, zN] at hb) <;> (try (exfalso; omega)) <;> refine wt ?_)
     |(refine dq_split rfl rfl (fun hb => ?_) (fun hb => ?_) <;> (try simp only [zA, zB, zG, zC, zD, zN] at hb) <;> (try (exfalso; omega)) <;> refine wt ?_)
     |(refine lsq_ent (ent_freeze_in 11 60 4 rfl rfl rfl rfl) ?_; refine wt ?_)
     |(refine sq_g (g_load_own_aggv (f := fcf ⟨n, m, X⟩) rfl rfl rfl) rfl ?_; refine wt ?_)
     |(refine dq_g (g_load_own_aggv (f := fcf ⟨n, m, X⟩) rfl rfl rfl) rfl ?_; refine wt ?_)
     |(refine sq_on (g_load_own_aggv (f := fcf ⟨n, m, X⟩) rfl rfl rfl) rfl rfl rfl ?_; refine wt ?_)
     |(refine dq_on (g_load_own_aggv (f := fcf ⟨n, m, X⟩) rfl rfl rfl) rfl rfl rfl ?_; refine wt ?_)
     |(refine sq_s (g_store_aggv rfl rfl (fcf_one _) rfl rfl) ?_; refine wt ?_))
   all_goals (exact sq_resN (rvs := [_, _]) (τs := [fca _, vb _]) rfl rfl ⟨.aggv (k := 5) rfl rfl rfl, .tmp rfl, trivial⟩ (by rw [hb]; rfl))
end Go.Proofs.YtgepmbjmaljgoaaGreatDoor.H.S
namespace Go.Proofs.YtgepmbjmaljgoaaGreatDoor.H.S
open Go Go.Vc Go.RowKit
set_option maxHeartbeats 4000000
def plN (l : List Tr) (i j k : Nat) : Tr := tpr (tcr (tsub (gt l i) (gt l k)) (tsub (gt l j) (gt l k)))
def plM (l : List Tr) (i j k : Nat) : Int := tdot (plN l i j k) (gt l k)
def plF (l : List Tr) (i j k : Nat) : Fc := facN l (plN l i j k) (plM l i j k)
def plB (l : List Tr) (i j k : Nat) : Bool := decide (plN l i j k ≠ tz) && facB l (plN l i j k) (plM l i j k)
def pK (l : List Tr) (i j : Nat) : Nat → List Fc
 |0 => []
 |k + 1 => pK l i j k ++ if plB l i j k = true then [plF l i j k] else []
def pJ (l : List Tr) (i : Nat) : Nat → List Fc
 |0 => []
 |j + 1 => pJ l i j ++ pK l i j j
def pI (l : List Tr) : Nat → List Fc
 |0 => []
 |i + 1 => pI l i ++ pJ l i i
def planesL (l : List Tr) : List Fc := pI l l.length
theorem pre_mono {α : Type} {f g : Nat → List α} (h : ∀ k, f (k + 1) = f k ++ g k) {k n : Nat} (hk : k ≤ n) : f k <+: f n := by
 induction n with
 |zero => rw [Nat.le_zero.1 hk]; exact List.prefix_refl _
 |succ n ih =>
  by_cases e : k = n + 1
  ·rw [e]; exact List.prefix_refl _
  ·rw [h n]; exact (ih (by omega)).trans (List.prefix_append _ _)
theorem planes_pre {l : List Tr} {i j k : Nat} (hi : i < l.length) (hj : j < i) (hk : k < j) : pI l i ++ (pJ l i j ++ pK l i j (k + 1)) <+: planesL l := by
 have h1 : pK l i j (k + 1) <+: pK l i j j := pre_mono (fun _ => rfl) zO
 have h2 : pJ l i (j + 1) <+: pJ l i i := pre_mono (fun _ => rfl) zO
 have h3 : pI l (i + 1) <+: pI l l.length := pre_mono (fun _ => rfl) zO
 have h4 : pJ l i j ++ pK l i j (k + 1) <+: pJ l i (j + 1) := (List.prefix_append_right_inj _).2 h1
 exact ((List.prefix_append_right_inj _).2 (h4.trans h2)).trans h3
theorem pre_at {α : Type} {A L : List α} {x : α} (h : A ++ [x] <+: L) : L[A.length]? = some x := by
 obtain ⟨t, rfl⟩ := h
 simp
def V5 (x : Value) : Prop := ∃ cs : List Value, x = .agg cs.toArray ∧ cs.length = 5 ∧ ∀ (i : Nat) (v : Value), cs[i]? = some v → v.oneCell' = true
theorem fca_V5 (f : Fc) (Z : Zone) (w : World) (v : Value) (h : AV.ok Z w (fca f) v) : V5 v := by
 obtain ⟨cs, rfl, h1, h2⟩ := h
 refine ⟨cs, rfl, h1, fun i v hv => ?_⟩
 have hi : i < 5 := by have := (List.getElem?_eq_some_iff.1 hv).1; omega
 obtain ⟨u, hu, hk⟩ := h2 i hi
 rw [hu] at hv
 cases hv
 exact AV.one_cells (fcf_one f i hi) hk
abbrev yv (l : Nat) : AV := .val (.func (.yield l) #[] #[])
abbrev lt (l : List Tr) : AV := .ptr 1 (fun _ => ts l)
theorem planesi_c (l : List Tr) (hl : RT l) (hn : l.length ≤ 64) : CtrM Tryz.prog 247 [lt l] V5 ((planesL l).map fca) := by
 refine ctrM _ Tryz.func247 rfl rfl Tryz.ntmps247 rfl fun y J Y w Z S => ?_
 refine zU ?_
 refine wt ?_
 refine cq_loopM Y (γ := Nat) (fun i => [(0, .av (yv y)), (1, .av (lt l)), (10, .av (vi l.length)), (11, .av (vi i))]) (fun i => (pI l i).length) (fun i => i ≤ l.length) (fun i => l.length - i) 0 S (Nat.zero_le _) (ent zS trivial) ?_
 intro i hi w Z S
 refine wt ?_
 (refine cq_cond rfl ?_ ?_ <;> intro hb <;> (try simp only [zA, zB, zG, zC, zD, zN] at hb) <;> (try (exfalso; omega)))
 ·have hil : i < l.length := by omega
  refine wt ?_
  refine cq_loopM Y (γ := Nat) (fun j => [(0, .av (yv y)), (1, .av (lt l)), (3, .av (vi i)), (10, .av (vi l.length)), (11, .av (vi i)), (14, .av (vi i)), (15, .av (vi j))]) (fun j => (pI l i ++ pJ l i j).length) (fun j => j ≤ i) (fun j => i - j) 0 (by rw [show pJ l i 0 = [] from rfl, List.append_nil]; exact S) (Nat.zero_le _) (ent zS trivial) ?_
  intro j hj w Z S
  refine wt ?_
  (refine cq_cond rfl ?_ ?_ <;> intro hb <;> (try simp only [zA, zB, zG, zC, zD, zN] at hb) <;> (try (exfalso; omega)))
  ·have hjl : j < i := by omega
   refine wt ?_
   refine cq_loopM Y (γ := Nat) (fun k => [(0, .av (yv y)), (1, .av (lt l)), (3, .av (vi i)), (4, .av (vi j)), (10, .av (vi l.length)), (11, .av (vi i)), (14, .av (vi i)), (15, .av (vi j)), (18, .av (vi j)), (19, .av (vi k))]) (fun k => (pI l i ++ (pJ l i j ++ pK l i j k)).length) (fun k => k ≤ j) (fun k => j - k) 0 (by rw [show pK l i j 0 = [] from rfl, List.append_nil]; exact S) (Nat.zero_le _) (ent zS trivial) ?_
   intro k hk w Z S
   refine wt ?_
   (refine cq_cond rfl ?_ ?_ <;> intro hb <;> (try simp only [zA, zB, zG, zC, zD, zN] at hb) <;> (try (exfalso; omega)))
   ·have hkl : k < j := by omega
    have hp := planes_pre hil hjl hkl
    have e0 : pK l i j (k + 1) = pK l i j k ++ if plB l i j k = true then [plF l i j k] else [] := rfl
    have b1 : BT 1000000000000 (gt l i) := (hl i).le zE
    have b2 : BT 1000000000000 (gt l j) := (hl j).le zE
    have b3 : BT 1000000000000 (gt l k) := (hl k).le zE
    have s1 : BT 200000 (tsub (gt l i) (gt l k)) := (hl i).sub (hl k)
    have s2 : BT 200000 (tsub (gt l j) (gt l k)) := (hl j).sub (hl k)
    have s3 : BT 80000000000 (tcr (tsub (gt l i) (gt l k)) (tsub (gt l j) (gt l k))) := (s1.cr s2).le zE
    have s4 : BT 80000000000 (plN l i j k) := s3.pr
    have s5 : Bn 1000000000000000000 (plM l i j k) := bn_le (bn_dot s4 (hl k)) zE
    have hf := facet_c l (plN l i j k) (plM l i j k) hl zO (s4.le zE) s5
    have q1 := minus_c (gt l i) (gt l k) b1 b3
    have q2 := minus_c (gt l j) (gt l k) b2 b3
    have q3 := cross_c (tsub (gt l i) (gt l k)) (tsub (gt l j) (gt l k)) s1 s2 zE
    have q4 := prim_c (tcr (tsub (gt l i) (gt l k)) (tsub (gt l j) (gt l k))) (s3.le zE)
    have q5 := dot_c (plN l i j k) (gt l k) s4 (hl k) zE
    refine wt ?_
    refine dq_s (g_store_aggv rfl rfl (fcf_one _) rfl rfl) ?_
    refine wt ?_
    refine sq_g (g_build (t := 192) (is := []) (xs := []) (vs := []) tb192_0 rfl rfl) rfl ?_
    refine wt ?_
    have hv : ([(tpr (tcr (tsub (gt l i) (gt l k)) (tsub (gt l j) (gt l k)))).x, (tpr (tcr (tsub (gt l i) (gt l k)) (tsub (gt l j) (gt l k)))).y, (tpr (tcr (tsub (gt l i) (gt l k)) (tsub (gt l j) (gt l k)))).z] == [0, 0, 0]) = decide (plN l i j k = tz) := tz_eq (plN l i j k)
    have hpb : plB l i j k = (decide (plN l i j k ≠ tz) && facB l (plN l i j k) (plM l i j k)) := rfl
    rw [hv]
    by_cases hz : plN l i j k = tz
    ·rw [decide_eq_true hz]
     have hB : plB l i j k = false := by rw [hpb, decide_eq_false (fun h => h hz)]; rfl
     rw [if_neg (by rw [hB]; simp), List.append_nil] at e0
     rw [← e0] at S
     refine wt ?_
     exact sq_roundM Y (g := k) (k + 1) S zO zO (ent zS trivial)
    ·rw [decide_eq_false hz]
     rw [decide_eq_true hz, Bool.true_and] at hpb
     rw [← hpb]
     cases hB : plB l i j k with
     |false =>
      rw [if_neg (by rw [hB]; simp), List.append_nil] at e0
      rw [← e0] at S
      refine wt ?_
      exact sq_roundM Y (g := k) (k + 1) S zO zO (ent zS trivial)
     |true =>
      rw [if_pos hB] at e0
      rw [e0, ← List.append_assoc, ← List.append_assoc] at hp
      have hm := pre_at hp
      rw [List.append_assoc] at hm
      refine wt ?_
      refine sq_on (g_load_own_aggv (f := fcf (facN l (plN l i j k) (plM l i j k))) rfl rfl rfl) rfl rfl rfl ?_
      refine lsq_ent ent_drop ?_
      refine sq_yieldM_on Y S (τ := fca (plF l i j k)) (by rw [List.getElem?_map, hm]; rfl) (fca_V5 _) rfl rfl rfl rfl rfl (fun w' Z' S' => ?_)
      have e9 : (pI l i ++ (pJ l i j ++ pK l i j k)).length + 1 = (pI l i ++ (pJ l i j ++ pK l i j (k + 1))).length := by rw [e0]; simp; omega
      rw [e9] at S'
      refine wt ?_
      exact sq_roundM Y (g := k) (k + 1) S' zO zO (ent zS trivial)
   ·have hke : k = j := by omega
    subst hke
    have e1 : pJ l i (k + 1) = pJ l i k ++ pK l i k k := rfl
    rw [← e1] at S
    refine wt ?_
    exact sq_roundM Y (g := k) (k + 1) S zO zO (ent zS trivial)
  ·have hje : j = i := by omega
   subst hje
   have e1 : pI l (j + 1) = pI l j ++ pJ l j j := rfl
   rw [← e1] at S
   refine wt ?_
   exact sq_roundM Y (g := j) (j + 1) S zO zO (ent zS trivial)
 ·have hie : i = l.length := by omega
  subst hie
  have e1 : (pI l l.length).length = ((planesL l).map fca).length := by rw [List.length_map]; rfl
  rw [e1] at S
  refine wt ?_
  exact sq_retM' Y rfl S
abbrev pcl (l : List Tr) : AV := .clo 247 1 (fun i => [lt l].getD i .any)
theorem planes_c (l : List Tr) : CtrA Tryz.prog 200 [ts l] (pcl l) := by
 refine ctrA _ Tryz.func200 rfl rfl Tryz.ntmps200 rfl fun w Z => ?_
 refine zU ?_
 refine wt ?_
 exact zV
def gf (L : List Fc) (i : Nat) : Fc := L.getD i default
def ff (L : List Fc) : Nat → Nat → AV := fun i j => fcf (gf L i) j
def cellOf (x : Value) (j : Nat) : Value := match x with | .agg cs => cs.toList.getD j undef | _ => undef
def rawf (xs : List Value) : Nat → Nat → AV := fun i j => .val (cellOf (xs.getD i undef) j)
theorem tq84 (a b c d e : Value) (w : World) : (Instr.buildSlice 84 1 #[(0, .agg #[a, b, c, d, e])]).run Tryz.prog w = .ok (.slice (some ⟨w.heap.size, 0, none⟩) 1 1) (w.alloc (.cells #[a, b, c, d, e] 89)) := by kernel_rfl
theorem rawf_app (xs : List Value) (x : Value) : ∀ i, i < xs.length + 1 → ∀ j, j < 5 → rowApp xs.length (rawf xs) (rawf [x]) i j = rawf (xs ++ [x]) i j := by
 intro i hi j hj
 unfold rowApp rawf
 by_cases h : i < xs.length
 ·rw [if_pos h]; simp [List.getD, List.getElem?_append_left h]
 ·rw [if_neg h]
  have e : i = xs.length := by omega
  subst e
  simp [List.getD]
theorem raw_up {Z : Zone} {w : World} : ∀ (L : List Fc) (xs : List Value), All2 (fun τ v => AV.ok Z w τ v) (L.map fca) xs → ∀ i, i < xs.length → ∀ j, j < 5 → ∀ u, (rawf xs i j).ok Z w u → (ff L i j).ok Z w u
 |[], [], _, i, hi, _, _, _, _ => absurd hi (Nat.not_lt_zero _)
 |f :: L, x :: xs, h, 0, _, j, hj, u, hu => by
  obtain ⟨⟨cs, rfl, h1, h2⟩, _⟩ := h
  obtain ⟨v, hv, hk⟩ := h2 j hj
  obtain rfl : u = cs.getD j undef := hu
  rw [List.getD, hv]
  exact hk
 |f :: L, x :: xs, h, i + 1, hi, j, hj, u, hu => raw_up L xs h.2 i (by simpa using hi) j hj u hu
theorem planes_len (l : List Tr) (hn : l.length ≤ 6) : (planesL l).length ≤ 1000 := by
 have hK : ∀ i j k, (pK l i j k).length ≤ k := fun i j k => by
  induction k with
  |zero => exact Nat.le_refl _
  |succ k ih => unfold pK; rw [List.length_append]; split <;> simp <;> omega
 have hJ : ∀ i j, j ≤ 6 → (pJ l i j).length ≤ 6 * j := fun i j hj => by
  induction j with
  |zero => exact Nat.le_refl _
  |succ j ih =>
   have := ih zO
   have := hK i j j
   unfold pJ; rw [List.length_append]; omega
 have hI : ∀ i, i ≤ 6 → (pI l i).length ≤ 36 * i := fun i hi => by
  induction i with
  |zero => exact Nat.le_refl _
  |succ i ih =>
   have := ih zO
   have := hJ i i zO
   unfold pI; rw [List.length_append]; omega
 have := hI l.length hn
 unfold planesL
 omega
theorem aseq_c (l : List Tr) (hl : RT l) (hn : l.length ≤ 6) : CtrR Tryz.prog 285 [.val (.slice none 0 0), pcl l] 89 5 (planesL l).length (ff (planesL l)) [] := by
 refine ctrRM _ Tryz.func285 rfl rfl Tryz.ntmps285 rfl fun w Z => ?_
 have hpl := planes_len l hn
 refine zU ?_
 refine cq_seq ?_
 refine cq_region ?_
 refine sq_v (f_box_own 2 rfl rfl rfl) rfl ?_
 refine wt ?_
 refine cq_more (ent_rowc (r := 2) (off := 0) 5 89 5 (rawf []) rfl rfl rfl) ?_
 refine cq_rangeM rfl rfl (planesi_c l hl zO) [5, 7, 8, 9, 10, 11] [(2, .own 2 0), (6, .av (pcl l))] (fun pre => [(5, .row 89 5 pre.length (rawf pre)), (2, .cells [.osl 5])]) (fun x => [(5, .av (.ptr 5 (fun j => .val (cellOf x j))))]) (ent zS zT) rfl rfl rfl rfl (fun _ => rfl) ?_ ?_ ?_
 ·rintro lp a0 w0 Z0 keep pre x ⟨cs, rfl, h5, h1⟩
  match cs, h5 with
  |[c0, c1, c2, c3, c4], _ =>
   have hall : [c0, c1, c2, c3, c4].all Value.oneCell' = true := by
    rw [List.all_eq_true]
    intro x hx
    obtain ⟨i, hi, rfl⟩ := List.getElem_of_mem hx
    exact h1 i _ (List.getElem?_eq_getElem hi)
   refine wt ?_
   repeat' (first
     |(refine sq_split rfl rfl (fun hb => ?_) (fun hb => ?_) <;> (try simp only [zA, zB, zG, zC, zD, zN] at hb) <;> (try (exfalso; omega)) <;> refine wt ?_)
     |(refine dq_split rfl rfl (fun hb => ?_) (fun hb => ?_) <;> (try simp only [zA, zB, zG, zC, zD, zN] at hb) <;> (try (exfalso; omega)) <;> refine wt ?_)
     |(refine sq_s (g_store_agg (us := [c0, c1, c2, c3, c4]) rfl rfl rfl hall rfl rfl) ?_; refine wt ?_))
   exact sq_assM (Ent.trans (ent_freezec 5 10 (fun j => .val (cellOf (.agg #[c0, c1, c2, c3, c4]) j)) rfl rfl rfl) (ent zS zT))
 ·rintro lp a0 w0 Z0 keep pre x ⟨cs, rfl, h5, h1⟩ hlen
  match cs, h5 with
  |[c0, c1, c2, c3, c4], _ =>
   have hpr : pre.length ≤ 1000 := by rw [List.length_map] at hlen; omega
   have hrow : ∀ i, i < 1 → ∀ j, j < 5 → ∃ u, [c0, c1, c2, c3, c4][i * 5 + j]? = some u ∧ rawf [.agg #[c0, c1, c2, c3, c4]] i j = .val u := fun i hi j hj => by
    obtain rfl : i = 0 := by omega
    rcases (by omega : j = 0 ∨ j = 1 ∨ j = 2 ∨ j = 3 ∨ j = 4) with rfl | rfl | rfl | rfl | rfl <;> exact ⟨_, rfl, rfl⟩
   have hone : ∀ i, i < 1 → ∀ j, j < 5 → (rawf [.agg #[c0, c1, c2, c3, c4]] i j).one = true := fun i hi j hj => by
    obtain rfl : i = 0 := by omega
    rcases (by omega : j = 0 ∨ j = 1 ∨ j = 2 ∨ j = 3 ∨ j = 4) with rfl | rfl | rfl | rfl | rfl
    ·exact h1 0 c0 rfl
    ·exact h1 1 c1 rfl
    ·exact h1 2 c2 rfl
    ·exact h1 3 c3 rfl
    ·exact h1 4 c4 rfl
   have hml : pre.length + 1 ≤ maxLen := by simp only [maxLen]; omega
   refine wt ?_
   repeat' (first
     |(refine sq_split rfl rfl (fun hb => ?_) (fun hb => ?_) <;> (try simp only [zA, zB, zG, zC, zD, zN] at hb) <;> (try (exfalso; omega)) <;> refine wt ?_)
     |(refine dq_split rfl rfl (fun hb => ?_) (fun hb => ?_) <;> (try simp only [zA, zB, zG, zC, zD, zN] at hb) <;> (try (exfalso; omega)) <;> refine wt ?_)
     |(refine sq_g (g_load_agg (us := [c0, c1, c2, c3, c4]) rfl rfl rfl rfl) rfl ?_; refine wt ?_)
     |(refine dq_g (g_load_agg (us := [c0, c1, c2, c3, c4]) rfl rfl rfl rfl) rfl ?_; refine wt ?_)
     |(refine sq_on (g_load_agg (us := [c0, c1, c2, c3, c4]) rfl rfl rfl rfl) rfl rfl rfl ?_; refine wt ?_)
     |(refine dq_on (g_load_agg (us := [c0, c1, c2, c3, c4]) rfl rfl rfl rfl) rfl rfl rfl ?_; refine wt ?_)
     |(refine sq_g (g_bslice (is := [0]) (xs := [_]) (vs := [_]) (us := [c0, c1, c2, c3, c4]) (tq84 _ _ _ _ _) rfl rfl rfl hrow) rfl ?_; refine wt ?_)
     |(refine dq_g (g_bslice (is := [0]) (xs := [_]) (vs := [_]) (us := [c0, c1, c2, c3, c4]) (tq84 _ _ _ _ _) rfl rfl rfl hrow) rfl ?_; refine wt ?_)
     |(refine sq_on (g_bslice (is := [0]) (xs := [_]) (vs := [_]) (us := [c0, c1, c2, c3, c4]) (tq84 _ _ _ _ _) rfl rfl rfl hrow) rfl rfl rfl ?_; refine wt ?_)
     |(refine dq_on (g_bslice (is := [0]) (xs := [_]) (vs := [_]) (us := [c0, c1, c2, c3, c4]) (tq84 _ _ _ _ _) rfl rfl rfl hrow) rfl rfl rfl ?_; refine wt ?_)
     |(refine sq_v (v_append (h := rawf [.agg #[c0, c1, c2, c3, c4]]) (m := 1) rfl rfl rfl hone zO hml zO) rfl ?_; refine wt ?_)
     |(refine sq_s (g_store_osl (q := 5) rfl rfl rfl rfl rfl) ?_; refine wt ?_))
   exact sq_rndM (ent zS ⟨⟨_, rfl, .row (by simp) (fun i hi j hj => rawf_app _ _ i (by simpa using hi) j hj)⟩, ⟨_, rfl, .refl _⟩, trivial⟩)
 ·intro D w2 xs Z1 ν a hA hR h
  have hxl : xs.length = (planesL l).length := by rw [← hR.len, List.length_map]
  have h2 := h.rerowM (r := 5) (f' := ff (planesL l)) rfl (fun i hi j hj u hu => raw_up _ _ hR i hi j hj u hu)
  refine sq_use ⟨_, _, h2⟩ ?_
  refine wt ?_
  exact sq_afterM hA (sq_retR rfl rfl rfl hxl (fun _ _ _ _ => rfl))
theorem collect_c (l : List Tr) (hl : RT l) (hn : l.length ≤ 6) : CtrR Tryz.prog 245 [pcl l] 89 5 (planesL l).length (ff (planesL l)) [] := by
 refine ctrR _ Tryz.func245 rfl rfl Tryz.ntmps245 rfl fun w Z => ?_
 have ha := aseq_c l hl hn
 refine zU ?_
 refine wt ?_
 repeat' (first
   |(refine sq_split rfl rfl (fun hb => ?_) (fun hb => ?_) <;> (try simp only [zA, zB, zG, zC, zD, zN] at hb) <;> (try (exfalso; omega)) <;> refine wt ?_)
   |(refine dq_split rfl rfl (fun hb => ?_) (fun hb => ?_) <;> (try simp only [zA, zB, zG, zC, zD, zN] at hb) <;> (try (exfalso; omega)) <;> refine wt ?_)
   |(refine sq_v (f_call_row 40 (ha) rfl rfl) rfl ?_; refine wt ?_)
   |(refine dq_v (ga_call_row 40 (ha) rfl) rfl rfl ?_; refine wt ?_))
 exact sq_retR rfl rfl rfl rfl (fun _ _ _ _ => rfl)
end Go.Proofs.YtgepmbjmaljgoaaGreatDoor.H.S
namespace Go.Proofs.YtgepmbjmaljgoaaGreatDoor.H.S
open Go Go.Vc Go.RowKit Go.Sort
set_option maxHeartbeats 1000000
theorem cmpI_lt (a b : Int) : Lib.compareInt a b = if a < b then -1 else if b < a then 1 else 0 := rfl
def lexT (a b : Tr) : Prop := a.x < b.x ∨ a.x = b.x ∧ (a.y < b.y ∨ a.y = b.y ∧ a.z < b.z)
instance (a b : Tr) : Decidable (lexT a b) := by unfold lexT; infer_instance
theorem cmpT_lt (a b : Tr) : cmpT a b < 0 ↔ lexT a b := by
 unfold cmpT lexT
 rw [cmpI_lt a.x, cmpI_lt a.y, cmpI_lt a.z]
 repeat' split
 all_goals omega
abbrev Raw := Tr × Int × Option Addr × Nat × Nat
def encR (x : Raw) : List Value := enc5 x.1 x.2.1 x.2.2.1 x.2.2.2.1 x.2.2.2.2
def cfR (x y : Raw) : Int := cmpT x.1 y.1
theorem ltR (x y : Raw) : ltOf cfR x y = decide (lexT x.1 y.1) := by
 unfold ltOf cfR
 rw [Bool.eq_iff_iff, decide_eq_true_eq, decide_eq_true_eq]
 exact cmpT_lt _ _
theorem swoR : SWO (ltOf cfR) := ⟨fun x => by rw [ltR]; simp [lexT], fun x y z h1 h2 => by rw [ltR, decide_eq_true_eq] at *; unfold lexT at *; omega, fun x y z h1 h2 => by rw [ltR, decide_eq_false_iff_not] at *; unfold lexT at *; omega⟩
def leF (a b : Fc) : Bool := !decide (lexT b.n a.n)
def sortF (L : List Fc) : List Fc := L.mergeSort leF
theorem leF_tr : ∀ a b c : Fc, leF a b = true → leF b c = true → leF a c = true := fun a b c h1 h2 => by
 unfold leF at *
 rw [Bool.not_eq_true', decide_eq_false_iff_not] at *
 unfold lexT at *
 omega
theorem leF_to : ∀ a b : Fc, (leF a b || leF b a) = true := fun a b => by
 unfold leF
 rw [Bool.or_eq_true, Bool.not_eq_true', Bool.not_eq_true', decide_eq_false_iff_not, decide_eq_false_iff_not]
 unfold lexT
 omega
theorem tr_ext {a b : Tr} (h1 : a.x = b.x) (h2 : a.y = b.y) (h3 : a.z = b.z) : a = b := by cases a; cases b; simp at *; exact ⟨h1, h2, h3⟩
theorem sortF_of {L L' : List Fc} (hu : ∀ f ∈ L, ∀ g ∈ L, f.n = g.n → f = g) (hp : L'.Perm L) (hs : L'.Pairwise (fun a b => leF a b = true)) : L' = sortF L := by
 refine List.Perm.eq_of_pairwise (le := fun a b => leF a b = true) (fun a b ha hb h1 h2 => ?_) hs (List.pairwise_mergeSort leF_tr leF_to L) (hp.trans (List.mergeSort_perm L _).symm)
 refine hu a (hp.mem_iff.1 ha) b ((List.mergeSort_perm L _).mem_iff.1 hb) ?_
 unfold leF at h1 h2
 rw [Bool.not_eq_true', decide_eq_false_iff_not] at h1 h2
 unfold lexT at h1 h2
 exact tr_ext zO zO zO
theorem all2_perm {α β : Type} {R : α → β → Prop} {xs ys : List β} (h : xs.Perm ys) : ∀ {L : List α}, All2 R L xs → ∃ L', L'.Perm L ∧ All2 R L' ys := by
 induction h with
 |nil => intro L hL; exact ⟨L, List.Perm.refl _, hL⟩
 |cons x _ ih =>
  intro L hL
  match L, hL with
  |a :: L, hL =>
   obtain ⟨L', h1, h2⟩ := ih hL.2
   exact ⟨a :: L', h1.cons a, hL.1, h2⟩
 |swap x y l =>
  intro L hL
  match L, hL with
  |a :: b :: L, hL => exact ⟨b :: a :: L, List.Perm.swap _ _ _, hL.2.1, hL.1, hL.2.2⟩
 |trans _ _ ih1 ih2 =>
  intro L hL
  obtain ⟨L1, p1, h1⟩ := ih1 hL
  obtain ⟨L2, p2, h2⟩ := ih2 h1
  exact ⟨L2, p2.trans p1, h2⟩
theorem all2_get {α β : Type} {R : α → β → Prop} : ∀ {L : List α} {xs : List β} {i : Nat} {a : α} {x : β}, All2 R L xs → L[i]? = some a → xs[i]? = some x → R a x
 |_ :: _, _ :: _, 0, _, _, h, h1, h2 => by simp at h1 h2; subst h1 h2; exact h.1
 |_ :: _, _ :: _, i + 1, _, _, h, h1, h2 => all2_get (i := i) h.2 (by simpa using h1) (by simpa using h2)
def RF (Z : Zone) (w : World) (f : Fc) (x : Raw) : Prop := x.1 = f.n ∧ x.2.1 = f.m ∧ AV.ok Z w (.sl f.s.length 1 (xf f.s)) (.slice x.2.2.1 x.2.2.2.1 x.2.2.2.2)
theorem isAgg46 (w : World) : (isAgg 89).run Tryz.prog w = .ok true w := by kernel_rfl
theorem size46 (w : World) : (Go.sizeOf 89).run Tryz.prog w = .ok 5 w := by kernel_rfl
theorem encR_cell (x : Raw) (f : Fc) {Z : Zone} {w : World} (h : RF Z w f x) : ∀ j, j < 5 → (fcf f j).ok Z w ((encR x)[j]!) := by
 obtain ⟨h1, h2, h3⟩ := h
 intro j hj
 rcases (by omega : j = 0 ∨ j = 1 ∨ j = 2 ∨ j = 3 ∨ j = 4) with rfl | rfl | rfl | rfl | rfl
 ·show Value.int .i64 x.1.x = .int .i64 f.n.x; rw [h1]
 ·show Value.int .i64 x.1.y = .int .i64 f.n.y; rw [h1]
 ·show Value.int .i64 x.1.z = .int .i64 f.n.z; rw [h1]
 ·show Value.int .i64 x.2.1 = .int .i64 f.m; rw [h2]
 ·exact h3
theorem raws_of {Z : Zone} {w : World} {arr : Array Value} {L : List Fc} (h : ∀ i, i < L.length → ∀ j, j < 5 → ∃ u, arr[i * 5 + j]? = some u ∧ (ff L i j).ok Z w u) :
  ∃ xs : List Raw, All2 (RF Z w) L xs ∧ ∀ i x, xs[i]? = some x → ∀ j, j < 5 → arr[i * 5 + j]? = some ((encR x)[j]!) := by
 have key : ∀ (n : Nat) (L : List Fc) (o : Nat), L.length = n → (∀ i, i < L.length → ∀ j, j < 5 → ∃ u, arr[o + i * 5 + j]? = some u ∧ (ff L i j).ok Z w u) →
   ∃ xs : List Raw, All2 (RF Z w) L xs ∧ ∀ i x, xs[i]? = some x → ∀ j, j < 5 → arr[o + i * 5 + j]? = some ((encR x)[j]!) := by
  intro n
  induction n with
  |zero => intro L o hn _; rw [List.length_eq_zero_iff.1 hn]; exact ⟨[], trivial, fun i x hx => by simp at hx⟩
  |succ n ih =>
   intro L o hn hL
   match L, hn with
   |f :: L, hn =>
    obtain ⟨xs, a1, a2⟩ := ih L (o + 5) (by simpa using hn) (fun i hi j hj => by
     have := hL (i + 1) (by simpa using hi) j hj
     rw [show o + (i + 1) * 5 + j = o + 5 + i * 5 + j from by omega] at this
     exact this)
    obtain ⟨u0, b0, k0⟩ := hL 0 (by simp) 0 (by omega)
    obtain ⟨u1, b1, k1⟩ := hL 0 (by simp) 1 (by omega)
    obtain ⟨u2, b2, k2⟩ := hL 0 (by simp) 2 (by omega)
    obtain ⟨u3, b3, k3⟩ := hL 0 (by simp) 3 (by omega)
    obtain ⟨u4, b4, k4⟩ := hL 0 (by simp) 4 (by omega)
    have k4' := k4
    obtain ⟨p, c, rfl, _⟩ := k4'
    obtain rfl : u0 = .int .i64 f.n.x := k0
    obtain rfl : u1 = .int .i64 f.n.y := k1
    obtain rfl : u2 = .int .i64 f.n.z := k2
    obtain rfl : u3 = .int .i64 f.m := k3
    refine ⟨(f.n, f.m, p, f.s.length, c) :: xs, ⟨⟨rfl, rfl, k4⟩, a1⟩, fun i x hx j hj => ?_⟩
    cases i with
    |zero =>
     simp only [List.getElem?_cons_zero, Option.some.injEq] at hx
     subst hx
     rcases (by omega : j = 0 ∨ j = 1 ∨ j = 2 ∨ j = 3 ∨ j = 4) with rfl | rfl | rfl | rfl | rfl
     ·exact b0
     ·exact b1
     ·exact b2
     ·exact b3
     ·exact b4
    |succ i =>
     have := a2 i x (by simpa using hx) j hj
     rw [show o + (i + 1) * 5 + j = o + 5 + i * 5 + j from by omega]
     exact this
 obtain ⟨xs, a1, a2⟩ := key L.length L 0 rfl (fun i hi j hj => by rw [Nat.zero_add]; exact h i hi j hj)
 exact ⟨xs, a1, fun i x hx j hj => by have := a2 i x hx j hj; rwa [Nat.zero_add] at this⟩
theorem all2_len' {α β : Type} {R : α → β → Prop} {L : List α} {xs : List β} (h : All2 R L xs) : L.length = xs.length := by
 have := h.len
 omega
theorem lk5 {i j n : Nat} (hi : i < n) (hj : j < 5) : i * 5 + j < n * 5 := by omega
theorem sortf_c (L : List Fc) (hu : ∀ f ∈ L, ∀ g ∈ L, f.n = g.n → f = g) (hn : L.length ≤ 1000000) : CtrW Tryz.prog 246 [.val (.func (.func 201) #[] #[])] 89 5 L.length (ff L) L.length (ff (sortF L)) false := by
 refine ⟨entersM Tryz.func246 rfl rfl, fun w Z v vs hZ hvs hrow => ?_⟩
 match vs, hvs with
 |[fv], ⟨h1, _⟩ =>
  obtain rfl : fv = .func (.func 201) #[] #[] := h1
  by_cases h0 : L.length = 0
  ·have hl : L = [] := List.eq_nil_of_length_eq_zero h0
   subst hl
   have hv : ∃ p cap, v = .slice p 0 cap := by
    rcases hrow with ⟨e, _⟩ | ⟨b, cap, arr, e, _⟩
    ·exact ⟨none, 0, e⟩
    ·exact ⟨_, cap, e⟩
   obtain ⟨p, cap, rfl⟩ := hv
   refine (show Calls Tryz.prog 246 #[.slice p 0 cap, .func (.func 201) #[] #[]] w _ from AnyF.slices_SortFunc_none Tryz.laysSlF06_f246 p cap (.func (.func 201) #[] #[]) w).mono ?_
   rintro e w' ⟨rfl, rfl⟩
   exact ⟨_, _, Z, rfl, rfl, ⟨rfl, rfl, rfl, Nat.le_refl _, fun _ _ _ => rfl⟩, fun _ h => h, fun _ h => .inl h, hZ.1, fun b hb => .inl hb, by
    rcases hrow with ⟨e, _⟩ | ⟨b, cap, arr, e, h2, h3, h4, h5, h6, h7⟩
    ·exact .inl ⟨e, rfl⟩
    ·exact .inr ⟨b, cap, arr, e, h2, h3, h4, h5, h6, fun i hi => by simp at hi⟩⟩
  ·rcases hrow with ⟨_, e⟩ | ⟨b, cap, arr, rfl, h2, h3, h4, h5, h6, h7⟩
   ·exact absurd e h0
   ·have hb := (Array.getElem?_eq_some_iff.1 h3).1
    obtain ⟨xs, hx, hcell⟩ := raws_of h7
    have hxl := all2_len' hx
    have hH : HoldsK encR 5 w b 0 xs.toArray := by
     intro t ht
     have ht' : t < xs.length * 5 := by simpa using ht
     refine ⟨?_, by simp [World.frozen?, h3]⟩
     have hq : t = t / 5 * 5 + t % 5 := by omega
     have htl : t / 5 < xs.length := by omega
     have hc := hcell (t / 5) xs[t / 5] (List.getElem?_eq_getElem htl) (t % 5) (Nat.mod_lt _ zO)
     rw [get_flatK _ _ _ t (by simpa using ht'), Nat.zero_add]
     simp only [World.cell?, h3]
     rw [← hq] at hc
     have e : xs.toArray[t / 5]! = xs[t / 5] := by
      rw [getElem!_pos xs.toArray (t / 5) (by simp; omega)]
      simp
     rw [e]
     simpa using hc
    have hcmp : CmpLays Tryz.prog 201 #[] encR 5 cfR b 0 xs.toArray.size w := fun m os dk _ x y =>
     (cmp_any x.1 y.1 x.2.1 y.2.1 x.2.2.1 y.2.2.1 x.2.2.2.1 x.2.2.2.2 y.2.2.2.1 y.2.2.2.2 _).mono fun e w' ⟨he, q, hw⟩ => ⟨he, q, _, hw⟩
    have hrun := AnyQ.slices_SortFunc (α := Raw) Tryz.laysSlF06_f246 5 isAgg46 size46 encR (fun _ => rfl) (fun x v hv => by
     simp only [encR, enc5, List.mem_cons, List.not_mem_nil, or_false] at hv
     rcases hv with rfl | rfl | rfl | rfl | rfl <;> rfl) cfR swoR 201 #[] b 0 cap xs.toArray w (entersM Tryz.func201 rfl rfl) hcmp hH hb (by simp; omega)
    rw [List.size_toArray] at hrun
    have hrun2 : Calls Tryz.prog 246 #[.slice (some ⟨b, 0, none⟩) L.length cap, .func (.func 201) #[] #[]] w fun e w' => e = .returned (.tuple #[]) ∧ ∃ d' n os, PermIn 0 xs.length xs.toArray d' ∧ SortedIn (ltOf cfR) 0 xs.length d' ∧ w' = sortWorldK encR 5 w b 0 n d' os := by
     rw [hxl]
     exact hrun
    refine Calls.mono hrun2 ?_
    rintro e w' ⟨rfl, d', n, os, hp, hs, rfl⟩
    have hsz : d'.size = xs.length := by have := hp.1; simpa using this
    have hperm : d'.toList.Perm xs := by
     have := hp.2.2
     simp [hsz] at this
     rwa [List.take_of_length_le (by simp [hsz])] at this
    obtain ⟨L', hL1, hL2⟩ := all2_perm hperm.symm hx
    have hL3 : L'.Pairwise (fun a b => leF a b = true) := by
     rw [List.pairwise_iff_getElem]
     intro i j hi hj hij
     have hl2 := all2_len' hL2
     have hjd : j < d'.size := by simp at hl2; omega
     have h := hs i j (Nat.zero_le _) hij (by rw [← hsz]; exact hjd)
     rw [getElem!_pos d' j hjd, getElem!_pos d' i (by omega), ltR, decide_eq_false_iff_not] at h
     have r1 := (all2_get hL2 (List.getElem?_eq_getElem hi) (List.getElem?_eq_getElem (by simp at hl2 ⊢; omega))).1
     have r2 := (all2_get hL2 (List.getElem?_eq_getElem hj) (List.getElem?_eq_getElem (by simp at hl2 ⊢; omega))).1
     simp only [Array.getElem_toList] at r1 r2
     rw [r1, r2] at h
     unfold leF
     rw [Bool.not_eq_true', decide_eq_false_iff_not]
     exact h
    have hd' := sortF_of hu hL1 hL3
    subst hd'
    have hheap : (sortWorldK encR 5 w b 0 n d' os).heap[b]? = some (.cells (putCells id 0 (flatK encR 5 d') arr) 89 (0, 0)) := by
     unfold sortWorldK putRowK
     rw [heap_grow_old _ _ (by simpa [putRow, mapBlock, Sort.ahead] using hb)]
     simp [putRow, mapBlock, Sort.ahead, Array.getElem?_modify, h3, onCells]
    have hgr : w.grownBy (sortWorldK encR 5 w b 0 n d' os) (some b) := by
     unfold sortWorldK putRowK
     refine ⟨rfl, rfl, rfl, by simp, fun k hk hne => ?_⟩
     rw [heap_grow_old _ _ (by simpa using hk)]
     have : b ≠ k := fun e => hne (by rw [e])
     simp [putRow, mapBlock, Sort.ahead, Array.getElem?_modify, this]
    refine ⟨_, _, Z, rfl, rfl, hgr, fun _ h => h, fun _ h => .inl h, fun k hk => Nat.lt_of_lt_of_le (hZ.1 k hk) hgr.size, fun b hb => .inl hb, .inr ⟨b, cap, _, rfl, h2, hheap, h4, h5, by simp [putCells, h6], fun i hi j hj => ?_⟩⟩
    have hlt := lk5 hi hj
    have hal : i * 5 + j < arr.size := by rw [h6]; have := lk5 (Nat.lt_of_lt_of_le hi h4) hj; exact this
    have hl2 := all2_len' hL2
    have hid : i < d'.size := by simp at hl2; have := hL1.length_eq; omega
    have hiL : i < (sortF L).length := by have := hL1.length_eq; omega
    have hRF := all2_get hL2 (List.getElem?_eq_getElem hiL) (List.getElem?_eq_getElem (by simpa using hid))
    have hgf : (sortF L)[i] = gf (sortF L) i := by unfold gf; simp [List.getD, hiL]
    rw [hgf, Array.getElem_toList] at hRF
    have hRF2 : RF Z (sortWorldK encR 5 w b 0 n d' os) (gf (sortF L) i) d'[i] := ⟨hRF.1, hRF.2.1, AV.ok_mono (fun _ q => q) hgr.size (fun k q hk => hgr.block k hk (fun e => by cases e; exact h2 q)) _ _ hRF.2.2⟩
    refine ⟨(encR d'[i])[j]!, ?_, encR_cell _ _ hRF2 j hj⟩
    have hf := get_flatK encR 5 d' (i * 5 + j) zO
    have e1 : (i * 5 + j) / 5 = i := by omega
    have e2 : (i * 5 + j) % 5 = j := by omega
    rw [e1, e2, getElem!_pos d' i hid] at hf
    simp only [putCells]
    rw [Array.getElem?_mapIdx, Array.getElem?_eq_getElem hal]
    simp only [Option.map_some]
    rw [if_pos ⟨Nat.zero_le _, by simp; omega⟩]
    simpa using hf
end Go.Proofs.YtgepmbjmaljgoaaGreatDoor.H.S
namespace Go.Proofs.YtgepmbjmaljgoaaGreatDoor.H.S
open Go Go.Vc Go.RowKit
set_option maxHeartbeats 4000000
theorem nn_eq (a b : Tr) : ([a.x, a.y, a.z] == [b.x, b.y, b.z]) = decide (a = b) := by
 cases a; cases b; rw [Bool.eq_iff_iff]; simp
theorem eqf_c (a b : Fc) : CtrA Tryz.prog 203 [fca a, fca b] (vb (decide (a.n = b.n))) := by
 refine ctrA _ Tryz.func203 rfl rfl Tryz.ntmps203 rfl fun w Z => ?_
 refine zU ?_
 refine wt ?_
 exact sq_res1 rfl (.tmp rfl) (congrArg vb (nn_eq _ _))
abbrev eqv : AV := .val (.func (.func 203) #[] #[])
def cptPF (L : List Fc) (i : Nat) : Bool := decide (i = 0) || decide ((gf L i).n ≠ (gf L (i - 1)).n)
def cptToF (L : List Fc) (m : Nat) : List Fc := ((List.range m).filter (cptPF L)).map (gf L)
def cptF (L : List Fc) : List Fc := cptToF L L.length
theorem cptToF_succ (L : List Fc) (m : Nat) : cptToF L (m + 1) = if cptPF L m = true then cptToF L m ++ [gf L m] else cptToF L m := by
 simp only [cptToF, List.range_succ, List.filter_append, List.map_append]
 split <;> rename_i h <;> simp [List.filter, h]
theorem cptToF_len (L : List Fc) (m : Nat) : (cptToF L m).length ≤ m := by
 have := List.length_filter_le (cptPF L) (List.range m)
 simpa [cptToF] using this
theorem gf_eq {L : List Fc} {i : Nat} (h : i < L.length) : gf L i = L[i] := by simp [gf, h]
theorem gf_mem {L : List Fc} {i : Nat} (h : i < L.length) : gf L i ∈ L := by rw [gf_eq h]; exact List.getElem_mem h
theorem gf_take (L : List Fc) (m k : Nat) : gf (L.take m) k = if k < m then gf L k else default := by
 simp only [gf, List.getD, List.getElem?_take]
 split <;> rfl
theorem cptToF_all (L : List Fc) : ∀ (m : Nat), m ≤ L.length → (∀ i, i < m → cptPF L i = true) → cptToF L m = L.take m
 |0, _, _ => rfl
 |m + 1, hm, h => by
  rw [cptToF_succ, if_pos (h m (by omega)), cptToF_all L m (by omega) (fun i hi => h i (by omega)), List.take_succ_eq_append_getElem (by omega), gf_eq (by omega)]
theorem cptF_short {L : List Fc} (h : L.length < 2) : cptF L = L := by
 rw [cptF, cptToF_all L _ (Nat.le_refl _) (fun i hi => by simp [cptPF, show i = 0 by omega]), List.take_length]
theorem gf_set (L : List Fc) (i : Nat) (x : Fc) (k : Nat) : gf (L.set i x) k = if i = k ∧ k < L.length then x else gf L k := by
 simp only [gf, List.getD, List.getElem?_set]
 by_cases h : i = k
 ·subst h
  by_cases h2 : i < L.length
  ·simp [h2]
  ·simp [h2]
 ·simp [h]
theorem gf_app (L : List Fc) (x : Fc) (k : Nat) : gf (L ++ [x]) k = if k < L.length then gf L k else if k = L.length then x else default := by
 simp only [gf]
 by_cases h : k < L.length
 ·simp [List.getD, List.getElem?_append_left h, h]
 ·by_cases h2 : k = L.length
  ·subst h2; simp [List.getD]
  ·rw [if_neg h, if_neg h2, List.getD, List.getElem?_eq_none (by simp; omega)]; rfl
theorem lt_step {p : Nat → Bool} {n : Nat} (h : ∀ k, k < n → p k = true) (hn : p n = true) : ∀ k, k < n + 1 → p k = true := fun k hk => by
 by_cases e : k = n
 ·subst e; exact hn
 ·exact h k zO
theorem zvF (w : World) : (zeroValue 89).run Tryz.prog w = .ok (.agg [.int .i64 0, .int .i64 0, .int .i64 0, .int .i64 0, .slice none 0 0].toArray) w := by kernel_rfl
theorem zvF_one : ∀ v ∈ ([.int .i64 0, .int .i64 0, .int .i64 0, .int .i64 0, .slice none 0 0] : List Value), v.oneCell' = true := fun v hv => by
 simp only [List.mem_cons, List.not_mem_nil, or_false] at hv
 rcases hv with rfl | rfl | rfl | rfl | rfl <;> rfl
theorem ff_set {u : List Fc} {k : Nat} {x : Fc} (hk : k < u.length) : ∀ i, i < u.length → ∀ j, j < 5 → rowSet (ff u) k 0 ((List.range 5).map (fcf x)) i j = ff (u.set k x) i j := by
 intro i hi j hj
 unfold rowSet ff
 rw [gf_set]
 by_cases h : i = k
 ·subst h
  rw [if_pos ⟨rfl, Nat.zero_le _, by simpa using hj⟩, if_pos ⟨rfl, hk⟩]
  rcases (by omega : j = 0 ∨ j = 1 ∨ j = 2 ∨ j = 3 ∨ j = 4) with rfl | rfl | rfl | rfl | rfl <;> rfl
 ·rw [if_neg (fun e => h e.1), if_neg (fun e => h e.1.symm)]
theorem compactf_c (v : List Fc) (hn : v.length ≤ 1000) :
  CtrW Tryz.prog 202 [eqv] 89 5 v.length (ff v) (cptF v).length (ff (cptF v)) true := by
 refine ctrW _ Tryz.func202 rfl rfl Tryz.ntmps202 rfl fun w Z v0 => ?_
 refine zU ?_
 refine wt ?_
 (refine cq_cond rfl ?_ ?_ <;> intro hb <;> (try simp only [zA, zB, zG, zC, zD, zN] at hb) <;> (try (exfalso; omega)))
 ·refine wt ?_
  exact sq_retWb rfl rfl rfl (by rw [cptF_short (by omega)]) (fun _ _ _ _ => by rw [cptF_short (by omega)])
 ·refine wt ?_
  refine cq_loop (γ := Nat) (fun k => [(0, .osl 0), (1, .av eqv), (5, .av (vi k))]) (fun _ => [(0, .row 89 5 v.length (ff v))]) (fun k => 1 ≤ k ∧ k ≤ v.length ∧ ∀ i, i < k → cptPF v i = true) (fun k => v.length - k) 1 ⟨by omega, by omega, fun i hi => by simp [cptPF, show i = 0 by omega]⟩ (ent ⟨.refl _, .refl _, .int rfl, trivial⟩ zT) ?_
  rintro k ⟨hk1, hkn, hall⟩
  obtain ⟨k', rfl⟩ : ∃ k', k = k' + 1 := ⟨k - 1, by omega⟩
  refine wt ?_
  (refine cq_cond rfl ?_ ?_ <;> intro hb <;> (try simp only [zA, zB, zG, zC, zD, zN] at hb) <;> (try (exfalso; omega)))
  ·have hq := eqf_c (gf v (k' + 1)) (gf v k')
   refine wt ?_
   refine dq_g (g_load_oel_aggv rfl rfl zO) rfl ?_
   refine wt ?_
   refine dq_g (g_load_oel_aggv rfl rfl zO) rfl ?_
   have e0 : (((k' + 1 : Nat) : Int) - 1).toNat = k' := by omega
   rw [e0]
   refine wt ?_
   (refine cq_cond rfl ?_ ?_ <;> intro hb <;> (try simp only [zA, zB, zG, zC, zD, zN] at hb) <;> (try (exfalso; omega)))
   ·have hK : cptPF v (k' + 1) = false := by simp [cptPF, hb]
    have h1 : cptToF v (k' + 1 + 1) = v.take (k' + 1) := by
     rw [cptToF_succ, hK, if_neg (by simp), cptToF_all v _ (by omega) hall]
    refine wt ?_
    refine cq_loop (γ := List Fc × Nat) (fun g => [(0, .osl 0), (1, .av eqv), (5, .av (vi (cptToF v (k' + 1 + g.2)).length)), (6, .osx 0 5 (k' + 1) (v.length - (k' + 1))), (7, .av (vi g.2))]) (fun g => [(0, .row 89 5 v.length (ff g.1))])
     (fun g => 1 ≤ g.2 ∧ g.2 ≤ v.length - (k' + 1) ∧ g.1.length = v.length ∧ (cptToF v (k' + 1 + g.2)).length ≤ k' + g.2 ∧ (∀ i, i < (cptToF v (k' + 1 + g.2)).length → gf g.1 i = gf (cptToF v (k' + 1 + g.2)) i) ∧ ∀ i, k' + g.2 ≤ i → gf g.1 i = gf v i) (fun g => v.length - g.2) (v, 1)
     ⟨by simp, by simp; omega, rfl, by simp only [h1]; simp; omega, fun i hi => by simp only [h1] at hi ⊢; rw [gf_take]; simp at hi; rw [if_pos (by omega)], fun i hi => rfl⟩ (ent ⟨.refl _, .refl _, .int (by simp only [h1]; simp; omega), .refl _, .refl _, trivial⟩ zT) ?_
    rintro ⟨u, m⟩ ⟨hm1, hmn, hul, hcl, hu1, hu2⟩
    simp only at hm1 hmn hul hcl hu1 hu2
    obtain ⟨m', rfl⟩ : ∃ m', m = m' + 1 := ⟨m - 1, by omega⟩
    dsimp only
    refine wt ?_
    (refine cq_cond rfl ?_ ?_ <;> intro hb <;> (try simp only [zA, zB, zG, zC, zD, zN] at hb) <;> (try (exfalso; omega)))
    ·have e1 : gf u (k' + 1 + (m' + 1)) = gf v (k' + 1 + (m' + 1)) := hu2 _ zO
     have e2 : gf u (k' + 1 + m') = gf v (k' + 1 + m') := hu2 _ zO
     have e3 : k' + 1 + (m' + 1) - 1 = k' + 1 + m' := by omega
     have hS := cptToF_succ v (k' + 1 + (m' + 1))
     have hq := eqf_c (gf u (k' + 1 + (m' + 1))) (gf u (k' + 1 + m'))
     refine wt ?_
     refine dq_g (g_load_oel_aggv rfl rfl zO) rfl ?_
     refine wt ?_
     refine dq_g (g_index_osx (k := m') rfl rfl zO zO) rfl ?_
     refine wt ?_
     refine dq_g (g_load_oel_aggv rfl rfl zO) rfl ?_
     refine wt ?_
     (refine cq_cond rfl ?_ ?_ <;> intro hb <;> (try simp only [zA, zB, zG, zC, zD, zN] at hb) <;> (try (exfalso; omega)))
     ·have hP : cptPF v (k' + 1 + (m' + 1)) = true := by
       simp only [cptPF, e3]; rw [← e1, ← e2]; simp [hb]
      rw [hP, if_pos rfl] at hS
      refine wt ?_
      refine sq_g (g_load_oel_aggv rfl rfl zO) rfl ?_
      refine wt ?_
      refine sq_s (g_store_oel_aggv rfl rfl (fcf_one _) rfl zO) ?_
      refine wt ?_
      refine sq_round (g := (u, m' + 1)) (u.set (cptToF v (k' + 1 + (m' + 1))).length (gf u (k' + 1 + (m' + 1))), m' + 1 + 1) ⟨by simp, by simp; omega, by simp [hul], ?_, ?_, ?_⟩ (by simp; omega) (ent ⟨.refl _, .refl _, .int (by simp only; rw [show k' + 1 + (m' + 1 + 1) = k' + 1 + (m' + 1) + 1 from by omega, hS]; simp), .refl _, .int (by simp), trivial⟩ ⟨⟨_, rfl, .row rfl (fun i hi j hj => ff_set (by omega) i (by omega) j hj)⟩, trivial⟩)
      ·simp only; rw [show k' + 1 + (m' + 1 + 1) = k' + 1 + (m' + 1) + 1 from by omega, hS]; simp; omega
      ·simp only; rw [show k' + 1 + (m' + 1 + 1) = k' + 1 + (m' + 1) + 1 from by omega, hS]
       intro i hi
       rw [gf_set, gf_app]
       simp only [List.length_append, List.length_singleton] at hi
       by_cases h : i = (cptToF v (k' + 1 + (m' + 1))).length
       ·rw [if_pos ⟨h.symm, by omega⟩, if_neg (by omega), if_pos h, e1]
       ·rw [if_neg (fun e => h e.1.symm), if_pos (by omega)]; exact hu1 i (by omega)
      ·simp only
       intro i hi
       rw [gf_set, if_neg (fun e => by omega)]
       exact hu2 i zO
     ·have hP : cptPF v (k' + 1 + (m' + 1)) = false := by
       simp only [cptPF, e3]; rw [← e1, ← e2]; simp [hb]
      rw [hP, if_neg (by simp)] at hS
      refine wt ?_
      refine sq_round (g := (u, m' + 1)) (u, m' + 1 + 1) ⟨by simp, by simp; omega, hul, ?_, ?_, ?_⟩ (by simp; omega) (ent ⟨.refl _, .refl _, .int (by simp only; rw [show k' + 1 + (m' + 1 + 1) = k' + 1 + (m' + 1) + 1 from by omega, hS]), .refl _, .int (by simp), trivial⟩ zT)
      ·simp only; rw [show k' + 1 + (m' + 1 + 1) = k' + 1 + (m' + 1) + 1 from by omega, hS]; omega
      ·simp only; rw [show k' + 1 + (m' + 1 + 1) = k' + 1 + (m' + 1) + 1 from by omega, hS]; exact hu1
      ·simp only; exact fun i hi => hu2 i (by omega)
    ·have hE : k' + 1 + (m' + 1) = v.length := by omega
     have hcE : cptToF v (k' + 1 + (m' + 1)) = cptF v := by rw [hE]; rfl
     refine wt ?_
     refine sq_s (g_clearA (lo := (cptToF v (k' + 1 + (m' + 1))).length) zvF rfl rfl zE zvF_one rfl rfl) ?_
     refine wt ?_
     refine sq_retWb rfl rfl rfl (by rw [hcE]) (fun i hi j hj => ?_)
     simp only [rowAny]
     rw [if_neg (by omega)]
     simp only [ff]
     rw [hu1 i (by omega), hcE]
   ·refine wt ?_
    exact sq_round (k' + 1 + 1) ⟨by omega, by omega, lt_step hall (by simp [cptPF, hb])⟩ (by omega) (ent ⟨.refl _, .refl _, .int (by simp), trivial⟩ zT)
  ·refine wt ?_
   have e : cptF v = v := by rw [cptF, cptToF_all v _ (Nat.le_refl _) (fun i hi => hall i (by omega)), List.take_length]
   exact sq_retWb rfl rfl rfl (by rw [e]) (fun _ _ _ _ => by rw [e])
structure IsF (l : List Tr) (f : Fc) : Prop where
 le : ∀ i, i < l.length → tdot f.n (gt l i) ≤ f.m
 s : f.s = onTo l f.n f.m l.length
 at_ : ∃ k, k < l.length ∧ tdot f.n (gt l k) = f.m
theorem tdot_neg (n p : Tr) : tdot (tmul n (-1)) p = -tdot n p := by
 simp only [tdot, tmul]
 rw [show (-1 * n.x) * p.x = -(n.x * p.x) from by rw [Int.neg_mul, Int.one_mul, Int.neg_mul], show (-1 * n.y) * p.y = -(n.y * p.y) from by rw [Int.neg_mul, Int.one_mul, Int.neg_mul], show (-1 * n.z) * p.z = -(n.z * p.z) from by rw [Int.neg_mul, Int.one_mul, Int.neg_mul]]
 omega
theorem any_f {p : Nat → Bool} {n : Nat} (h : (List.range n).any p = false) : ∀ i, i < n → p i = false := fun i hi => by
 have := List.any_eq_false.1 h i (List.mem_range.2 hi)
 simpa using this
theorem onTo_neg (l : List Tr) (n : Tr) (m : Int) (k : Nat) : onTo l (tmul n (-1)) (-m) k = onTo l n m k := by
 unfold onTo
 refine List.filter_congr fun i _ => ?_
 rw [tdot_neg]
 by_cases h : tdot n (gt l i) = m
 ·simp [h]
 ·rw [decide_eq_false h, decide_eq_false (by omega)]
theorem plF_isF {l : List Tr} {i j k : Nat} (hk : k < l.length) (h : plB l i j k = true) : IsF l (plF l i j k) := by
 unfold plB at h
 rw [Bool.and_eq_true] at h
 have hB := h.2
 have hm : tdot (plN l i j k) (gt l k) = plM l i j k := rfl
 unfold plF facN
 unfold facB at hB
 generalize plN l i j k = n at *
 generalize plM l i j k = m at *
 by_cases ha : anyGt l n m l.length = true
 ·rw [if_pos ha]
  rw [ha] at hB
  have hlt : anyLt l n m l.length = false := by simpa using hB
  refine ⟨fun i hi => ?_, (onTo_neg l n m _).symm, k, hk, ?_⟩
  ·have := any_f hlt i hi
   rw [decide_eq_false_iff_not] at this
   dsimp only
   rw [tdot_neg]; omega
  ·dsimp only
   rw [tdot_neg, hm]
 ·rw [if_neg ha]
  have hgt : anyGt l n m l.length = false := by simpa using ha
  refine ⟨fun i hi => ?_, rfl, k, hk, hm⟩
  have := any_f hgt i hi
  rw [decide_eq_false_iff_not] at this
  dsimp only
  omega
theorem mem_pK {l : List Tr} {i j : Nat} {f : Fc} : ∀ {k}, f ∈ pK l i j k → ∃ k', k' < k ∧ plB l i j k' = true ∧ f = plF l i j k'
 |0, h => by cases h
 |k + 1, h => by
  unfold pK at h
  rcases List.mem_append.1 h with h | h
  ·obtain ⟨k', h1, h2, h3⟩ := mem_pK h
   exact ⟨k', by omega, h2, h3⟩
  ·split at h
   ·rename_i hb
    exact ⟨k, by omega, hb, List.mem_singleton.1 h⟩
   ·cases h
theorem mem_pJ {l : List Tr} {i : Nat} {f : Fc} : ∀ {j}, f ∈ pJ l i j → ∃ j' k', j' < j ∧ k' < j' ∧ plB l i j' k' = true ∧ f = plF l i j' k'
 |0, h => by cases h
 |j + 1, h => by
  unfold pJ at h
  rcases List.mem_append.1 h with h | h
  ·obtain ⟨j', k', h1, h2, h3⟩ := mem_pJ h
   exact ⟨j', k', by omega, h2, h3⟩
  ·obtain ⟨k', h1, h2, h3⟩ := mem_pK h
   exact ⟨j, k', by omega, h1, h2, h3⟩
theorem mem_pI {l : List Tr} {f : Fc} : ∀ {i}, f ∈ pI l i → ∃ i' j' k', i' < i ∧ j' < i' ∧ k' < j' ∧ plB l i' j' k' = true ∧ f = plF l i' j' k'
 |0, h => by cases h
 |i + 1, h => by
  unfold pI at h
  rcases List.mem_append.1 h with h | h
  ·obtain ⟨i', j', k', h1, h2⟩ := mem_pI h
   exact ⟨i', j', k', by omega, h2⟩
  ·obtain ⟨j', k', h1, h2, h3, h4⟩ := mem_pJ h
   exact ⟨i, j', k', by omega, h1, h2, h3, h4⟩
theorem planes_isF {l : List Tr} {f : Fc} (h : f ∈ planesL l) : IsF l f := by
 obtain ⟨i, j, k, h1, h2, h3, h4, rfl⟩ := mem_pI h
 exact plF_isF zO h4
theorem isF_inj {l : List Tr} {f g : Fc} (hf : IsF l f) (hg : IsF l g) (h : f.n = g.n) : f = g := by
 obtain ⟨kf, a1, a2⟩ := hf.at_
 obtain ⟨kg, b1, b2⟩ := hg.at_
 have h1 := hg.le kf a1
 have h2 := hf.le kg b1
 rw [← h] at h1 b2
 have hm : f.m = g.m := by omega
 have hs : f.s = g.s := by rw [hf.s, hg.s, h, hm]
 cases f; cases g
 simp only [Fc.mk.injEq]
 exact ⟨h, hm, hs⟩
def facetsL (l : List Tr) : List Fc := cptF (sortF (planesL l))
theorem sortF_len (L : List Fc) : (sortF L).length = L.length := (List.mergeSort_perm L _).length_eq
theorem cptF_len (L : List Fc) : (cptF L).length ≤ L.length := cptToF_len L _
theorem sortedfunc_c (l : List Tr) (hl : RT l) (hn : l.length ≤ 6) : CtrR Tryz.prog 199 [pcl l, .val (.func (.func 201) #[] #[])] 89 5 (planesL l).length (ff (sortF (planesL l))) [] := by
 refine ctrR _ Tryz.func199 rfl rfl Tryz.ntmps199 rfl fun w Z => ?_
 have hpl := planes_len l hn
 have hc := collect_c l hl hn
 have hs := sortf_c (planesL l) (fun f hf g hg h => isF_inj (planes_isF hf) (planes_isF hg) h) zO
 refine zU ?_
 refine wt ?_
 repeat' (first
   |(refine sq_split rfl rfl (fun hb => ?_) (fun hb => ?_) <;> (try simp only [zA, zB, zG, zC, zD, zN] at hb) <;> (try (exfalso; omega)) <;> refine wt ?_)
   |(refine dq_split rfl rfl (fun hb => ?_) (fun hb => ?_) <;> (try simp only [zA, zB, zG, zC, zD, zN] at hb) <;> (try (exfalso; omega)) <;> refine wt ?_)
   |(refine sq_v (f_call_row 40 (hc) rfl rfl) rfl ?_; refine wt ?_)
   |(refine dq_v (ga_call_row 40 (hc) rfl) rfl rfl ?_; refine wt ?_)
   |(refine sq_v (v_call_w (hs) rfl rfl rfl) rfl ?_; refine wt ?_))
 exact sq_retR rfl rfl rfl rfl (fun _ _ _ _ => rfl)
theorem facets_c (l : List Tr) (hl : RT l) (hn : l.length ≤ 6) : CtrR Tryz.prog 154 [ts l] 89 5 (facetsL l).length (ff (facetsL l)) [] := by
 refine ctrR _ Tryz.func154 rfl rfl Tryz.ntmps154 rfl fun w Z => ?_
 have hpl := planes_len l hn
 have hp := planes_c l
 have hs := sortedfunc_c l hl hn
 have hc := compactf_c (sortF (planesL l)) (by rw [sortF_len]; omega)
 rw [sortF_len] at hc
 refine zU ?_
 have hq1 := hp
 refine wt ?_
 repeat' (first
   |(refine sq_split rfl rfl (fun hb => ?_) (fun hb => ?_) <;> (try simp only [zA, zB, zG, zC, zD, zN] at hb) <;> (try (exfalso; omega)) <;> refine wt ?_)
   |(refine dq_split rfl rfl (fun hb => ?_) (fun hb => ?_) <;> (try simp only [zA, zB, zG, zC, zD, zN] at hb) <;> (try (exfalso; omega)) <;> refine wt ?_)
   |(refine sq_v (f_call_row 40 (hs) rfl rfl) rfl ?_; refine wt ?_)
   |(refine dq_v (ga_call_row 40 (hs) rfl) rfl rfl ?_; refine wt ?_)
   |(refine sq_v (v_call_wb (hc) rfl rfl rfl) rfl ?_; refine wt ?_))
 exact sq_retR rfl rfl rfl rfl (fun _ _ _ _ => rfl)
end Go.Proofs.YtgepmbjmaljgoaaGreatDoor.H.S
namespace Go.Proofs.YtgepmbjmaljgoaaGreatDoor.H.S
open Go Go.Vc Go.RowKit
set_option maxHeartbeats 1000000
theorem tg_dvd (a : Tr) : tg a ∣ a.x.natAbs ∧ tg a ∣ a.y.natAbs ∧ tg a ∣ a.z.natAbs := by
 unfold tg
 refine ⟨?_, ?_, Nat.gcd_dvd_right _ _⟩
 ·exact Nat.dvd_trans (Nat.gcd_dvd_left _ _) (Nat.dvd_trans (Nat.gcd_dvd_left _ _) (Nat.gcd_dvd_right _ _))
 ·exact Nat.dvd_trans (Nat.gcd_dvd_left _ _) (Nat.gcd_dvd_right _ _)
theorem tdiv_zero {g : Nat} {n : Int} (hd : g ∣ n.natAbs) (h : n.tdiv g = 0) : n = 0 := by
 have h1 : (g : Int) ∣ n := Int.ofNat_dvd_left.2 hd
 have h2 := Int.mul_tdiv_cancel' h1
 rw [h, Int.mul_zero] at h2
 exact h2.symm
theorem tpr_ne {a : Tr} (h : a ≠ tz) : tpr a ≠ tz := by
 unfold tpr
 split
 ·exact h
 ·intro e
  apply h
  obtain ⟨d1, d2, d3⟩ := tg_dvd a
  simp only [tz, Tr.mk.injEq] at e
  exact tr_ext (tdiv_zero d1 e.1) (tdiv_zero d2 e.2.1) (tdiv_zero d3 e.2.2)
theorem tmul_ne {a : Tr} (h : a ≠ tz) : tmul a (-1) ≠ tz := by
 intro e
 apply h
 simp only [tmul, tz, Tr.mk.injEq] at e
 exact tr_ext (by show a.x = 0; omega) (by show a.y = 0; omega) (by show a.z = 0; omega)
theorem planes_ne {l : List Tr} {f : Fc} (h : f ∈ planesL l) : f.n ≠ tz := by
 obtain ⟨i, j, k, _, _, _, h4, rfl⟩ := mem_pI h
 unfold plB at h4
 rw [Bool.and_eq_true, decide_eq_true_eq] at h4
 unfold plF facN
 split
 ·exact tmul_ne h4.1
 ·exact h4.1
theorem cptF_sub {L : List Fc} {f : Fc} (h : f ∈ cptF L) : f ∈ L := by
 unfold cptF cptToF at h
 obtain ⟨i, hi, rfl⟩ := List.mem_map.1 h
 exact gf_mem (List.mem_range.1 (List.mem_filter.1 hi).1)
theorem facets_sub {l : List Tr} {f : Fc} (h : f ∈ facetsL l) : f ∈ planesL l := (List.mergeSort_perm _ _).mem_iff.1 (cptF_sub h)
theorem onTo_mem {l : List Tr} {n : Tr} {m : Int} {k i : Nat} : i ∈ onTo l n m k ↔ i < k ∧ tdot n (gt l i) = m := by unfold onTo; simp
theorem fac_s {l : List Tr} {f : Fc} (h : IsF l f) : 0 < f.s.length ∧ ∀ i ∈ f.s, i < l.length := by
 obtain ⟨k, h1, h2⟩ := h.at_
 rw [h.s]
 exact ⟨List.length_pos_of_mem (onTo_mem.2 ⟨h1, h2⟩), fun i hi => (onTo_mem.1 hi).1⟩
def det (u v w : Tr) : Int := tdot (tcr u v) w
theorem tr_ne {w : Tr} (h : w ≠ tz) : w.x ≠ 0 ∨ w.y ≠ 0 ∨ w.z ≠ 0 := by
 by_cases hx : w.x = 0
 ·by_cases hy : w.y = 0
  ·by_cases hz : w.z = 0
   ·exact absurd (tr_ext hx hy hz) h
   ·exact .inr (.inr hz)
  ·exact .inr (.inl hy)
 ·exact .inl hx
theorem mul_z {a b : Int} (h : a ≠ 0) (e : a * b = 0) : b = 0 := by
 rcases Int.mul_eq_zero.1 e with h1 | h1
 ·exact absurd h1 h
 ·exact h1
theorem det_flat {n u v w : Tr} (hn : n ≠ tz) (h1 : tdot n u = 0) (h2 : tdot n v = 0) (h3 : tdot n w = 0) : det u v w = 0 := by
 simp only [tdot] at h1 h2 h3
 rcases tr_ne hn with h | h | h
 ·refine mul_z h ?_
  simp only [det, tdot, tcr]; grind
 ·refine mul_z h ?_
  simp only [det, tdot, tcr]; grind
 ·refine mul_z h ?_
  simp only [det, tdot, tcr]; grind
theorem cr_par {n u v : Tr} (hn : n ≠ tz) (h1 : tcr n u = tz) (h2 : tcr n v = tz) : tcr u v = tz := by
 simp only [tcr, tz, Tr.mk.injEq] at h1 h2
 obtain ⟨a1, a2, a3⟩ := h1
 obtain ⟨b1, b2, b3⟩ := h2
 have k : n.x * n.x * (tcr u v).x = 0 ∧ n.x * n.x * (tcr u v).y = 0 ∧ n.x * n.x * (tcr u v).z = 0 ∧ n.y * n.y * (tcr u v).x = 0 ∧ n.y * n.y * (tcr u v).y = 0 ∧ n.y * n.y * (tcr u v).z = 0 ∧ n.z * n.z * (tcr u v).x = 0 ∧ n.z * n.z * (tcr u v).y = 0 ∧ n.z * n.z * (tcr u v).z = 0 := by
  simp only [tcr]
  refine ⟨?_, ?_, ?_, ?_, ?_, ?_, ?_, ?_, ?_⟩ <;> grind
 obtain ⟨k1, k2, k3, k4, k5, k6, k7, k8, k9⟩ := k
 rcases tr_ne hn with h | h | h
 ·have h' := Int.mul_ne_zero h h
  exact tr_ext (mul_z h' k1) (mul_z h' k2) (mul_z h' k3)
 ·have h' := Int.mul_ne_zero h h
  exact tr_ext (mul_z h' k4) (mul_z h' k5) (mul_z h' k6)
 ·have h' := Int.mul_ne_zero h h
  exact tr_ext (mul_z h' k7) (mul_z h' k8) (mul_z h' k9)
theorem tg_pos {a : Tr} (h : a ≠ tz) : tg a ≠ 0 := by
 intro e
 apply h
 obtain ⟨d1, d2, d3⟩ := tg_dvd a
 rw [e] at d1 d2 d3
 have := Nat.eq_zero_of_zero_dvd d1
 have := Nat.eq_zero_of_zero_dvd d2
 have := Nat.eq_zero_of_zero_dvd d3
 exact tr_ext (by show a.x = 0; omega) (by show a.y = 0; omega) (by show a.z = 0; omega)
theorem tpr_mul {a : Tr} (h : a ≠ tz) : ∃ g : Int, 0 < g ∧ a.x = g * (tpr a).x ∧ a.y = g * (tpr a).y ∧ a.z = g * (tpr a).z := by
 have hg := tg_pos h
 obtain ⟨d1, d2, d3⟩ := tg_dvd a
 refine ⟨(tg a : Int), by omega, ?_⟩
 unfold tpr
 rw [if_neg hg]
 exact ⟨(Int.mul_tdiv_cancel' (Int.ofNat_dvd_left.2 d1)).symm, (Int.mul_tdiv_cancel' (Int.ofNat_dvd_left.2 d2)).symm, (Int.mul_tdiv_cancel' (Int.ofNat_dvd_left.2 d3)).symm⟩
theorem tpr_dot {a : Tr} (h : a ≠ tz) : ∃ g : Int, 0 < g ∧ ∀ p, tdot a p = g * tdot (tpr a) p := by
 obtain ⟨g, g0, h1, h2, h3⟩ := tpr_mul h
 refine ⟨g, g0, fun p => ?_⟩
 simp only [tdot]
 rw [h1, h2, h3]
 generalize (tpr a).x = X; generalize (tpr a).y = Y; generalize (tpr a).z = Z
 grind
theorem tpr_dot0 {a : Tr} (h : a ≠ tz) (p : Tr) : tdot (tpr a) p = 0 ↔ tdot a p = 0 := by
 obtain ⟨g, g0, hp⟩ := tpr_dot h
 rw [hp p]
 constructor
 ·intro e; rw [e, Int.mul_zero]
 ·intro e; exact mul_z zO e
structure SpI (l : List Tr) (k : Nat) (s : Spn) : Prop where
 d0 : s.dim = 0 → ∀ i, i < k → gt l i = s.pt
 d1 : s.dim = 1 → s.way ≠ tz ∧ ∀ i, i < k → tcr s.way (tsub (gt l i) s.pt) = tz
 d2 : s.dim = 2 → s.way ≠ tz ∧ ∀ i, i < k → tdot s.way (tsub (gt l i) s.pt) = 0
 pt : s.dim ≠ -1 → ∃ i, i < k ∧ gt l i = s.pt
 no : s.dim = -1 → k = 0
 w1 : s.dim = 1 → ∃ i, i < k ∧ s.way = tsub (gt l i) s.pt
 w2 : s.dim = 2 → ∃ i j, i < k ∧ j < k ∧ (∃ g : Int, g ≠ 0 ∧ ∀ p, tdot (tcr (tsub (gt l i) s.pt) (tsub (gt l j) s.pt)) p = g * tdot s.way p)
 w3 : s.dim = 3 → ∃ i j m, i < k ∧ j < k ∧ m < k ∧ six s.pt (gt l i) (gt l j) (gt l m) ≠ 0
 rg : s.dim = -1 ∨ s.dim = 0 ∨ s.dim = 1 ∨ s.dim = 2 ∨ s.dim = 3
theorem tsub_z {a b : Tr} (h : tsub a b = tz) : a = b := by
 simp only [tsub, tz, Tr.mk.injEq] at h
 exact tr_ext zO zO zO
theorem tsub_s (a : Tr) : tsub a a = tz := by simp only [tsub, tz, Int.sub_self]
theorem tcr_s (a : Tr) : tcr a a = tz := by simp only [tcr, tz, Tr.mk.injEq]; refine ⟨?_, ?_, ?_⟩ <;> grind
theorem tcr_z (a : Tr) : tcr a tz = tz := by simp [tcr, tz]
theorem tdot_cr2 (a b : Tr) : tdot (tcr a b) b = 0 := by simp only [tdot, tcr]; grind
theorem SpI.step {l : List Tr} {k : Nat} {s : Spn} (h : SpI l k s) : SpI l (k + 1) (spStep s (gt l k)) := by
 have hlt : ∀ {q : Nat → Prop}, (∀ i, i < k → q i) → q k → ∀ i, i < k + 1 → q i := fun h1 h2 i hi => by
  by_cases e : i = k
  ·rw [e]; exact h2
  ·exact h1 i zO
 unfold spStep
 by_cases c0 : s.dim = -1
 ·rw [if_pos c0]
  have k0 := h.no c0
  subst k0
  exact ⟨fun _ i hi => by (obtain rfl : i = 0 := by omega); rfl, fun e => by simp at e, fun e => by simp at e, fun _ => ⟨0, by omega, rfl⟩, fun e => by simp at e, fun e => by simp at e, fun e => by simp at e, fun e => by simp at e, .inr (.inl rfl)⟩
 rw [if_neg c0]
 obtain ⟨i0, hi0, hp0⟩ := h.pt c0
 by_cases c1 : s.dim = 0
 ·rw [if_pos c1]
  split
  ·rename_i hz
   exact ⟨fun _ => hlt (h.d0 c1) (tsub_z hz), fun e => by omega, fun e => by omega, fun _ => ⟨i0, by omega, hp0⟩, fun e => by omega, fun e => by omega, fun e => by omega, fun e => by omega, .inr (.inl c1)⟩
  ·rename_i hz
   refine ⟨fun e => by simp at e, fun _ => ⟨hz, hlt (fun i hi => ?_) (tcr_s _)⟩, fun e => by simp at e, fun _ => ⟨i0, by omega, hp0⟩, fun e => by simp at e, fun _ => ⟨k, by omega, rfl⟩, fun e => by simp at e, fun e => by simp at e, .inr (.inr (.inl rfl))⟩
   rw [h.d0 c1 i hi]
   show tcr _ (tsub s.pt s.pt) = tz
   rw [tsub_s, tcr_z]
 rw [if_neg c1]
 by_cases c2 : s.dim = 1
 ·rw [if_pos c2]
  obtain ⟨hw, hc⟩ := h.d1 c2
  obtain ⟨iw, hiw, ew⟩ := h.w1 c2
  split
  ·rename_i hz
   exact ⟨fun e => by omega, fun _ => ⟨hw, hlt hc hz⟩, fun e => by omega, fun _ => ⟨i0, by omega, hp0⟩, fun e => by omega, fun _ => ⟨iw, by omega, ew⟩, fun e => by omega, fun e => by omega, .inr (.inr (.inl c2))⟩
  ·rename_i hz
   refine ⟨fun e => by simp at e, fun e => by simp at e, fun _ => ⟨hz, hlt (fun i hi => ?_) (tdot_cr2 _ _)⟩, fun _ => ⟨i0, by omega, hp0⟩, fun e => by simp at e, fun e => by simp at e, fun _ => ⟨iw, k, by omega, by omega, 1, by decide, fun p => ?_⟩, fun e => by simp at e, .inr (.inr (.inr (.inl rfl)))⟩
   ·have hci := hc i hi
    show tdot (tcr s.way (tsub (gt l k) s.pt)) (tsub (gt l i) s.pt) = 0
    generalize tsub (gt l i) s.pt = u at hci
    generalize tsub (gt l k) s.pt = v
    simp only [tcr, tz, Tr.mk.injEq] at hci
    obtain ⟨a1, a2, a3⟩ := hci
    simp only [tdot, tcr]; grind
   ·show tdot (tcr (tsub (gt l iw) s.pt) (tsub (gt l k) s.pt)) p = 1 * tdot (tcr s.way (tsub (gt l k) s.pt)) p
    rw [← ew, Int.one_mul]
 rw [if_neg c2]
 by_cases c3 : s.dim = 2
 ·rw [if_pos c3]
  obtain ⟨hw, hc⟩ := h.d2 c3
  obtain ⟨i, j, hi, hj, g, hg, hp⟩ := h.w2 c3
  obtain ⟨g', g0, hp'⟩ := tpr_dot hw
  split
  ·rename_i hz
   refine ⟨fun e => by simp at e, fun e => by simp at e, fun _ => ⟨tpr_ne hw, hlt (fun i hi => (tpr_dot0 hw _).2 (hc i hi)) hz⟩, fun _ => ⟨i0, by omega, hp0⟩, fun e => by simp at e, fun e => by simp at e, fun _ => ⟨i, j, by omega, by omega, g * g', Int.mul_ne_zero hg (by omega), fun p => ?_⟩, fun e => by simp at e, .inr (.inr (.inr (.inl rfl)))⟩
   show tdot (tcr (tsub (gt l i) s.pt) (tsub (gt l j) s.pt)) p = g * g' * tdot (tpr s.way) p
   rw [hp p, hp' p, Int.mul_assoc]
  ·rename_i hz
   refine ⟨fun e => by simp at e, fun e => by simp at e, fun e => by simp at e, fun _ => ⟨i0, by omega, hp0⟩, fun e => by simp at e, fun e => by simp at e, fun e => by simp at e, fun _ => ⟨i, j, k, by omega, by omega, by omega, ?_⟩, .inr (.inr (.inr (.inr rfl)))⟩
   show tdot (tcr (tsub (gt l i) s.pt) (tsub (gt l j) s.pt)) (tsub (gt l k) s.pt) ≠ 0
   rw [hp, hp']
   exact Int.mul_ne_zero hg (Int.mul_ne_zero zO hz)
 rw [if_neg c3]
 have c4 : s.dim = 3 := by have := h.rg; omega
 obtain ⟨i, j, m, hi, hj, hm, hs⟩ := h.w3 c4
 exact ⟨fun e => by omega, fun e => by omega, fun e => by omega, fun _ => ⟨i0, by omega, hp0⟩, fun e => by omega, fun e => by omega, fun e => by omega, fun _ => ⟨i, j, m, by omega, by omega, by omega, hs⟩, h.rg⟩
theorem SpI.to (l : List Tr) : ∀ k, k ≤ l.length → SpI l k (spTo l k)
 |0, _ => ⟨fun e => by simp [spTo] at e, fun e => by simp [spTo] at e, fun e => by simp [spTo] at e, fun e => by simp [spTo] at e, fun _ => rfl, fun e => by simp [spTo] at e, fun e => by simp [spTo] at e, fun e => by simp [spTo] at e, .inl rfl⟩
 |k + 1, hk => by
  rw [spTo_succ (by omega)]
  exact (SpI.to l k zO).step
def Sol (l : List Tr) : Prop := ∃ a b c d, a < l.length ∧ b < l.length ∧ c < l.length ∧ d < l.length ∧ six (gt l a) (gt l b) (gt l c) (gt l d) ≠ 0
theorem six12 (a b c d : Tr) : six b a c d = - six a b c d := by simp only [six, tac, tdot, tcr, tsub]; grind
theorem six23 (a b c d : Tr) : six a c b d = - six a b c d := by simp only [six, tac, tdot, tcr, tsub]; grind
theorem tac23 (a b c : Tr) : tac a c b = tmul (tac a b c) (-1) := by simp only [tac, tcr, tsub, tmul, Tr.mk.injEq]; refine ⟨?_, ?_, ?_⟩ <;> grind
theorem sorted3 {n : Nat} {P : Nat → Nat → Nat → Prop} (h12 : ∀ a b c, P a b c → P b a c) (h23 : ∀ a b c, P a b c → P a c b) (hne : ∀ a b, ¬ P a a b) {a b c : Nat} (ha : a < n) (hb : b < n) (hc : c < n) (h : P a b c) : ∃ i j k, i < n ∧ j < i ∧ k < j ∧ P i j k := by
 have hab : a ≠ b := fun e => hne b c (by rw [e] at h; exact h)
 have hbc : b ≠ c := fun e => by rw [e] at h; exact hne c a (h23 _ _ _ (h12 _ _ _ h))
 have hac : a ≠ c := fun e => by rw [e] at h; exact hne c b (h23 _ _ _ h)
 rcases (by omega : (b < a ∧ c < b) ∨ (c < a ∧ b < c) ∨ (a < b ∧ c < a) ∨ (c < b ∧ a < c) ∨ (a < c ∧ b < a) ∨ (b < c ∧ a < b)) with ⟨h1, h2⟩ | ⟨h1, h2⟩ | ⟨h1, h2⟩ | ⟨h1, h2⟩ | ⟨h1, h2⟩ | ⟨h1, h2⟩
 ·exact ⟨a, b, c, ha, h1, h2, h⟩
 ·exact ⟨a, c, b, ha, h1, h2, h23 _ _ _ h⟩
 ·exact ⟨b, a, c, hb, h1, h2, h12 _ _ _ h⟩
 ·exact ⟨b, c, a, hb, h1, h2, h23 _ _ _ (h12 _ _ _ h)⟩
 ·exact ⟨c, a, b, hc, h1, h2, h12 _ _ _ (h23 _ _ _ h)⟩
 ·exact ⟨c, b, a, hc, h1, h2, h12 _ _ _ (h23 _ _ _ (h12 _ _ _ h))⟩
theorem six_aa (a c d : Tr) : six a a c d = 0 := six_same rfl c d
theorem sol_iff (l : List Tr) : Sol l ↔ Solid l := by
 constructor
 ·rintro ⟨a, b, c, d, ha, hb, hc, hd, h⟩
  obtain ⟨i, j, k, hi, hj, hk, hs⟩ := sorted3 (P := fun a b c => six (gt l a) (gt l b) (gt l c) (gt l d) ≠ 0) (fun a b c h => by rw [six12]; omega) (fun a b c h => by rw [six23]; omega) (fun a b h => h (six_aa _ _ _)) ha hb hc h
  exact ⟨i, hi, j, hj, k, hk, d, hd, hs⟩
 ·rintro ⟨a, ha, b, hb, c, hc, d, hd, h⟩
  exact ⟨a, b, c, d, ha, by omega, by omega, hd, h⟩
theorem tcr_sub (n a b p : Tr) : tcr n (tsub a p) = tz → tcr n (tsub b p) = tz → tcr n (tsub b a) = tz := by
 simp only [tcr, tsub, tz, Tr.mk.injEq]
 rintro ⟨h1, h2, h3⟩ ⟨h4, h5, h6⟩
 refine ⟨?_, ?_, ?_⟩ <;> grind
theorem tdot_sub (n a b p : Tr) : tdot n (tsub a p) = 0 → tdot n (tsub b p) = 0 → tdot n (tsub b a) = 0 := by
 simp only [tdot, tsub]
 intro h1 h2
 grind
theorem dim3_iff (l : List Tr) : (spn l).dim = 3 ↔ Sol l := by
 have h := SpI.to l l.length (Nat.le_refl _)
 have e : spTo l l.length = spn l := rfl
 rw [e] at h
 constructor
 ·intro h3
  obtain ⟨i0, hi0, ep⟩ := h.pt zO
  obtain ⟨i, j, m, hi, hj, hm, hs⟩ := h.w3 h3
  exact ⟨i0, i, j, m, hi0, hi, hj, hm, by rw [ep]; exact hs⟩
 ·rintro ⟨a, b, c, d, ha, hb, hc, hd, hs⟩
  rcases h.rg with h1 | h1 | h1 | h1 | h1
  ·have := h.no h1; omega
  ·exact absurd (six_same ((h.d0 h1 a ha).trans (h.d0 h1 b hb).symm) _ _) hs
  ·obtain ⟨hw, hall⟩ := h.d1 h1
   exact absurd (six_zero (cr_par hw (tcr_sub _ _ _ _ (hall a ha) (hall b hb)) (tcr_sub _ _ _ _ (hall a ha) (hall c hc))) _) hs
  ·obtain ⟨hw, hall⟩ := h.d2 h1
   exact absurd (det_flat hw (tdot_sub _ _ _ _ (hall a ha) (hall b hb)) (tdot_sub _ _ _ _ (hall a ha) (hall c hc)) (tdot_sub _ _ _ _ (hall a ha) (hall d hd))) hs
  ·exact h1
end Go.Proofs.YtgepmbjmaljgoaaGreatDoor.H.S
