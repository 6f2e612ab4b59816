/- A part of the proof. -/
import Derived.Lib.AtoiAll
import Derived.Lib.Atoi
import Derived.Test.YtgepmbjmaljgoaaGreatDoorCai
set_option linter.unusedVariables false
set_option linter.unusedSimpArgs false
namespace Go.Proofs.YtgepmbjmaljgoaaGreatDoor.H
open Go Go.Vc Go.RowKit
structure Tr where
 x : Int
 y : Int
 z : Int
deriving DecidableEq, Inhabited
abbrev vi (n : Int) : AV := .val (.int .i64 n)
abbrev vb (b : Bool) : AV := .val (.bool b)
abbrev tp (a : Tr) : AV := .val (.agg #[.int .i64 a.x, .int .i64 a.y, .int .i64 a.z])
def gt (l : List Tr) (i : Nat) : Tr := l.getD i default
def tf (l : List Tr) : Nat → Nat → AV := fun i j => match j with | 0 => .val (.int .i64 (gt l i).x) | 1 => .val (.int .i64 (gt l i).y) | _+2 => .val (.int .i64 (gt l i).z)
def ts (l : List Tr) : AV := .sl l.length 3 (fun i j => match j with | 0 => .val (.int .i64 (gt l i).x) | 1 => .val (.int .i64 (gt l i).y) | _+2 => .val (.int .i64 (gt l i).z))
abbrev bt (p : Tr) : AV := .ptr 3 (fun i => .val ([Go.Value.int .i64 p.x, .int .i64 p.y, .int .i64 p.z].getD i Go.undef))
theorem gt_eq {l : List Tr} {i : Nat} (h : i < l.length) : gt l i = l[i] := by simp [gt, h]
theorem gt_mem {l : List Tr} {i : Nat} (h : i < l.length) : gt l i ∈ l := by rw [gt_eq h]; exact List.getElem_mem h
theorem gt_take {l : List Tr} {k : Nat} (h : k < l.length) : l.take (k + 1) = l.take k ++ [gt l k] := by
 rw [List.take_succ_eq_append_getElem h, gt_eq h]
def tsub (a b : Tr) : Tr := ⟨a.x - b.x, a.y - b.y, a.z - b.z⟩
def tdot (a b : Tr) : Int := a.x * b.x + a.y * b.y + a.z * b.z
def tcr (a b : Tr) : Tr := ⟨a.y * b.z - a.z * b.y, a.z * b.x - a.x * b.z, a.x * b.y - a.y * b.x⟩
def tmul (a : Tr) (k : Int) : Tr := ⟨k * a.x, k * a.y, k * a.z⟩
def tz : Tr := ⟨0, 0, 0⟩
def tg (a : Tr) : Nat := Nat.gcd (Nat.gcd (Nat.gcd 0 a.x.natAbs) a.y.natAbs) a.z.natAbs
def tpr (a : Tr) : Tr := if tg a = 0 then a else ⟨a.x.tdiv (tg a), a.y.tdiv (tg a), a.z.tdiv (tg a)⟩
def inB (n : Int) : Bool := decide (-100000 ≤ n) && decide (n ≤ 100000)
def rightT (p : Tr) : Bool := inB p.x && inB p.y && inB p.z
def chkT (l : List Tr) : Int := if 64 < l.length then 5 else if l.all rightT then 0 else 2
abbrev Bn (B n : Int) : Prop := -B ≤ n ∧ n ≤ B
structure BT (B : Int) (a : Tr) : Prop where
 x : Bn B a.x
 y : Bn B a.y
 z : Bn B a.z
theorem bn_mul {A B m n : Int} (h1 : Bn A m) (h2 : Bn B n) : Bn (A * B) (m * n) := by
 have hA : 0 ≤ A := by omega
 have hB : 0 ≤ B := by omega
 have h3 : (m * n).natAbs ≤ (A * B).natAbs := by
  rw [Int.natAbs_mul, Int.natAbs_mul]
  exact Nat.mul_le_mul zO zO
 have h4 : 0 ≤ A * B := Int.mul_nonneg hA hB
 omega
theorem bn_le {A B n : Int} (h : Bn A n) (hab : A ≤ B) : Bn B n := by omega
theorem BT.le {A B : Int} {a : Tr} (h : BT A a) (hab : A ≤ B) : BT B a := ⟨bn_le h.x hab, bn_le h.y hab, bn_le h.z hab⟩
theorem BT.sub {A B : Int} {a b : Tr} (h1 : BT A a) (h2 : BT B b) : BT (A + B) (tsub a b) := by
 have := h1.x; have := h1.y; have := h1.z; have := h2.x; have := h2.y; have := h2.z
 refine ⟨?_, ?_, ?_⟩ <;> simp only [tsub, Bn] at * <;> omega
theorem BT.cr {A B : Int} {a b : Tr} (h1 : BT A a) (h2 : BT B b) : BT (2 * (A * B)) (tcr a b) := by
 have a1 := bn_mul h1.y h2.z; have a2 := bn_mul h1.z h2.y; have a3 := bn_mul h1.z h2.x
 have a4 := bn_mul h1.x h2.z; have a5 := bn_mul h1.x h2.y; have a6 := bn_mul h1.y h2.x
 refine ⟨?_, ?_, ?_⟩ <;> simp only [tcr, Bn] at * <;> omega
theorem bn_dot {A B : Int} {a b : Tr} (h1 : BT A a) (h2 : BT B b) : Bn (3 * (A * B)) (tdot a b) := by
 have a1 := bn_mul h1.x h2.x; have a2 := bn_mul h1.y h2.y; have a3 := bn_mul h1.z h2.z
 simp only [tdot, Bn] at *; omega
theorem bn_tdiv {B n : Int} (g : Nat) (h : Bn B n) : Bn B (n.tdiv g) := by
 have := Int.natAbs_tdiv_le_natAbs n g
 omega
theorem BT.pr {A : Int} {a : Tr} (h : BT A a) : BT A (tpr a) := by
 unfold tpr
 split
 ·exact h
 ·exact ⟨bn_tdiv _ h.x, bn_tdiv _ h.y, bn_tdiv _ h.z⟩
structure Spn where
 dim : Int
 pt : Tr
 way : Tr
def spStep (s : Spn) (p : Tr) : Spn :=
 if s.dim = -1 then ⟨0, p, s.way⟩ else
 if s.dim = 0 then (if tsub p s.pt = tz then s else ⟨1, s.pt, tsub p s.pt⟩) else
 if s.dim = 1 then (if tcr s.way (tsub p s.pt) = tz then s else ⟨2, s.pt, tcr s.way (tsub p s.pt)⟩) else
 if s.dim = 2 then (if tdot (tpr s.way) (tsub p s.pt) = 0 then ⟨2, s.pt, tpr s.way⟩ else ⟨3, s.pt, tpr s.way⟩) else s
def spTo (l : List Tr) (k : Nat) : Spn := (l.take k).foldl spStep ⟨-1, tz, tz⟩
def spn (l : List Tr) : Spn := spTo l l.length
theorem spTo_succ {l : List Tr} {k : Nat} (h : k < l.length) : spTo l (k + 1) = spStep (spTo l k) (gt l k) := by
 unfold spTo
 rw [gt_take h, List.foldl_append]; rfl
def RT (l : List Tr) : Prop := ∀ i, BT 100000 (gt l i)
theorem RT.of {l : List Tr} (h : chkT l = 0) : RT l ∧ l.length ≤ 64 := by
 unfold chkT at h
 split at h
 ·omega
 ·split at h
  ·rename_i h1 h2
   refine ⟨fun i => ?_, by omega⟩
   by_cases hi : i < l.length
   ·have := List.all_eq_true.1 h2 _ (gt_mem hi)
    simp only [rightT, inB, Bool.and_eq_true, decide_eq_true_eq] at this
    exact ⟨by omega, by omega, by omega⟩
   ·have e : gt l i = ⟨0, 0, 0⟩ := by unfold gt; rw [List.getD, List.getElem?_eq_none (by omega)]; rfl
    rw [e]
    exact ⟨by decide, by decide, by decide⟩
  ·omega
structure SpOk (s : Spn) : Prop where
 pt : BT 100000 s.pt
 dim : s.dim = -1 ∨ s.dim = 0 ∨ (s.dim = 1 ∧ BT 200000 s.way) ∨ (s.dim = 2 ∧ BT 80000000000 s.way) ∨ (s.dim = 3 ∧ BT 80000000000 s.way)
theorem SpOk.step {s : Spn} {p : Tr} (h : SpOk s) (hp : BT 100000 p) : SpOk (spStep s p) := by
 have hs : BT 200000 (tsub p s.pt) := hp.sub h.pt
 unfold spStep
 by_cases h0 : s.dim = -1
 ·rw [if_pos h0]; exact ⟨hp, .inr (.inl rfl)⟩
 ·rw [if_neg h0]
  by_cases h1 : s.dim = 0
  ·rw [if_pos h1]
   split
   ·exact h
   ·exact ⟨h.pt, .inr (.inr (.inl ⟨rfl, hs⟩))⟩
  ·rw [if_neg h1]
   by_cases h2 : s.dim = 1
   ·rw [if_pos h2]
    have hw : BT 200000 s.way := by
     rcases h.dim with e | e | e | e | e
     ·omega
     ·omega
     ·exact e.2
     ·omega
     ·omega
    split
    ·exact h
    ·exact ⟨h.pt, .inr (.inr (.inr (.inl ⟨rfl, (hw.cr hs).le zE⟩)))⟩
   ·rw [if_neg h2]
    by_cases h3 : s.dim = 2
    ·rw [if_pos h3]
     have hw : BT 80000000000 s.way := by
      rcases h.dim with e | e | e | e | e
      ·omega
      ·omega
      ·omega
      ·exact e.2
      ·omega
     split
     ·exact ⟨h.pt, .inr (.inr (.inr (.inl ⟨rfl, hw.pr⟩)))⟩
     ·exact ⟨h.pt, .inr (.inr (.inr (.inr ⟨rfl, hw.pr⟩)))⟩
    ·rw [if_neg h3]; exact h
theorem SpOk.to {l : List Tr} (h : RT l) : ∀ k, SpOk (spTo l k)
 |0 => (show SpOk ⟨-1, tz, tz⟩ from ⟨⟨by decide, by decide, by decide⟩, .inl rfl⟩)
 |k + 1 => by
  by_cases hk : k < l.length
  ·rw [spTo_succ hk]; exact (SpOk.to h k).step (h k)
  ·have : spTo l (k + 1) = spTo l k := by unfold spTo; rw [List.take_of_length_le (by omega), List.take_of_length_le (by omega)]
   rw [this]; exact SpOk.to h k
end Go.Proofs.YtgepmbjmaljgoaaGreatDoor.H
namespace Go.Proofs.YtgepmbjmaljgoaaGreatDoor.H
open Go.Vc
abbrev pp (p : Pt) : AV := pv p.x p.y
theorem gp_eq {l : List Pt} {i : Nat} (h : i < l.length) : gp l i = l[i] := by simp [gp, h]
theorem gp_mem {l : List Pt} {i : Nat} (h : i < l.length) : gp l i ∈ l := by rw [gp_eq h]; exact List.getElem_mem h
theorem gi_eq {l : List Nat} {i : Nat} (h : i < l.length) : gi l i = l[i] := by simp [gi, h]
def sub (a b : Pt) : Pt := ⟨a.x - b.x, a.y - b.y⟩
def dot (a b : Pt) : Int := a.x * b.x + a.y * b.y
def trn (a b : Pt) : Int := a.x * b.y - a.y * b.x
def crs (a b c : Pt) : Int := trn (sub b a) (sub c a)
def rightB (p : Pt) : Bool := inB p.x && inB p.y
def chk (l : List Pt) : Int := if 64 < l.length then 5 else if l.all rightB then 0 else 2
abbrev bp (p : Pt) : AV := .ptr 2 (fun i => .val ([Go.Value.int .i64 p.x, .int .i64 p.y].getD i Go.undef))
abbrev BdP (p : Pt) : Prop := (-1500000000 ≤ p.x ∧ p.x ≤ 1500000000) ∧ (-1500000000 ≤ p.y ∧ p.y ≤ 1500000000)
def cmpI (a b : Int) : Int := if a < b then -1 else if b < a then 1 else 0
def ordC (l : List Pt) (i k : Nat) : Int := if cmpI (gp l i).x (gp l k).x = 0 then cmpI (gp l i).y (gp l k).y else cmpI (gp l i).x (gp l k).x
def swp (v : List Nat) (i j : Nat) : List Nat := (v.set i (gi v j)).set j (gi v i)
def sink (lt : Nat → Nat → Bool) (a : Nat) (v : List Nat) : Nat → List Nat
 |0 => v
 |j + 1 => if decide (a < j + 1) && lt (gi v (j + 1)) (gi v j) then sink lt a (swp v (j + 1) j) j else v
def isortR (lt : Nat → Nat → Bool) (a b : Nat) (v : List Nat) (i : Nat) : List Nat := (List.range' i (b - i)).foldl (fun v i => sink lt a v i) v
def ordI (l : List Pt) : List Nat := isortR (fun i k => decide (ordC l i k < 0)) 0 l.length (List.range l.length) 1
def upTo (n k : Nat) : List Nat := (List.range n).map (fun i => if i < k then i else 0)
abbrev Sm (x : Int) : Prop := -300000 ≤ x ∧ x ≤ 300000
abbrev SmP (p : Pt) : Prop := Sm p.x ∧ Sm p.y
theorem pt_beq (a b : Pt) : ([a.x, a.y] == [b.x, b.y]) = decide (a = b) := by
 cases a; cases b; rw [Bool.eq_iff_iff]; simp
theorem take_gp {l : List Pt} {k : Nat} (h : k < l.length) : l.take (k + 1) = l.take k ++ [gp l k] := by
 rw [List.take_succ_eq_append_getElem h, gp_eq h]
theorem all_gp {l : List Pt} {q : Pt → Prop} (h : ∀ p ∈ l, q p) (hd : q default) : ∀ i, q (gp l i) := by
 intro i
 by_cases hi : i < l.length
 ·rw [gp_eq hi]; exact h _ (List.getElem_mem hi)
 ·simp only [gp, List.getD, List.getElem?_eq_none (Nat.le_of_not_lt hi)]; exact hd
theorem SmP_d : SmP default := by constructor <;> decide
theorem prodB {a b : Int} (h : -1500000000 ≤ a ∧ a ≤ 1500000000) (k : -1500000000 ≤ b ∧ b ≤ 1500000000) : -2250000000000000000 ≤ a * b ∧ a * b ≤ 2250000000000000000 := by
 have h1 : (a * b).natAbs ≤ 1500000000 * 1500000000 := by
  rw [Int.natAbs_mul]
  exact Nat.mul_le_mul zO zO
 omega
theorem sub_bd {a b : Pt} (h1 : SmP a) (h2 : SmP b) : BdP (sub a b) := by
 simp only [BdP, sub]; omega
theorem any_false_of {n : Nat} {f : Nat → Bool} (h : ∀ i, i < n → f i = false) : (List.range n).any f = false := by
 rw [List.any_eq_false]; intro i hi; simp [h i (List.mem_range.1 hi)]
theorem any_true_of {n k : Nat} {f : Nat → Bool} (hk : k < n) (h : f k = true) : (List.range n).any f = true :=
 List.any_eq_true.2 ⟨k, List.mem_range.2 hk, h⟩
theorem plt_step {k : Nat} {p : Nat → Prop} (h : ∀ i, i < k → p i) (hk : p k) : ∀ i, i < k + 1 → p i := fun i hi => by
 rcases Nat.lt_or_ge i k with h1 | h1
 ·exact h i h1
 ·have : i = k := by omega
  subst this; exact hk
theorem isortR_step {lt : Nat → Nat → Bool} {a b : Nat} {v : List Nat} {i : Nat} (h : i < b) : isortR lt a b v i = isortR lt a b (sink lt a v i) (i + 1) := by
 unfold isortR
 obtain ⟨n, hn⟩ : ∃ n, b - i = n + 1 := ⟨b - i - 1, by omega⟩
 rw [hn, show b - (i + 1) = n from by omega, List.range'_succ]; rfl
theorem isortR_end {lt : Nat → Nat → Bool} {a b : Nat} {v : List Nat} {i : Nat} (h : b ≤ i) : isortR lt a b v i = v := by
 unfold isortR
 rw [show b - i = 0 from by omega]; rfl
theorem swp_len (v : List Nat) (i j : Nat) : (swp v i j).length = v.length := by simp [swp]
theorem gi_set (v : List Nat) (i x k : Nat) : gi (v.set i x) k = if i = k ∧ k < v.length then x else gi v k := by
 simp only [gi, List.getD, List.getElem?_set]
 by_cases h : i = k
 ·subst h
  by_cases h2 : i < v.length
  ·simp [h2]
  ·simp [h2]
 ·simp [h]
theorem gi_swp {v : List Nat} {i j : Nat} (hi : i < v.length) (hj : j < v.length) (k : Nat) : gi (swp v i j) k = if k = j then gi v i else if k = i then gi v j else gi v k := by
 unfold swp
 rw [gi_set, gi_set]
 simp only [List.length_set]
 split <;> split <;> (try split) <;> (try split) <;> first | rfl | (exfalso; omega)
theorem swp_all {v : List Nat} {i j : Nat} {p : Nat → Prop} (hi : i < v.length) (hj : j < v.length) (h : ∀ k, k < v.length → p (gi v k)) : ∀ k, k < (swp v i j).length → p (gi (swp v i j) k) := by
 intro k hk
 rw [swp_len] at hk
 rw [gi_swp hi hj]
 split
 ·exact h i hi
 ·split
  ·exact h j hj
  ·exact h k hk
theorem sink_len (lt : Nat → Nat → Bool) (a : Nat) : ∀ (j : Nat) (v : List Nat), (sink lt a v j).length = v.length
 |0, v => rfl
 |j + 1, v => by
  unfold sink
  split
  ·rw [sink_len lt a j, swp_len]
  ·rfl
theorem sink_all {lt : Nat → Nat → Bool} {a : Nat} {p : Nat → Prop} : ∀ {j : Nat} {v : List Nat}, j < v.length → (∀ k, k < v.length → p (gi v k)) → ∀ k, k < (sink lt a v j).length → p (gi (sink lt a v j) k)
 |0, v, _, h => h
 |j + 1, v, hj, h => by
  unfold sink
  split
  ·exact sink_all (by rw [swp_len]; omega) (swp_all hj (by omega) h)
  ·exact h
theorem gi_app (v : List Nat) (x k : Nat) : gi (v ++ [x]) k = if k < v.length then gi v k else if k = v.length then x else 0 := by
 simp only [gi, getD_app]
theorem app_all {v : List Nat} {x : Nat} {p : Nat → Prop} (h : ∀ k, k < v.length → p (gi v k)) (hx : p x) : ∀ k, k < (v ++ [x]).length → p (gi (v ++ [x]) k) := by
 intro k hk
 rw [gi_app]
 split
 ·exact h k (by assumption)
 ·rw [if_pos (by simp at hk; omega)]; exact hx
theorem isortR_len (lt : Nat → Nat → Bool) (a b : Nat) (v : List Nat) (i : Nat) : (isortR lt a b v i).length = v.length := by
 unfold isortR
 generalize List.range' i (b - i) = xs
 induction xs generalizing v with
 |nil => rfl
 |cons x xs ih => rw [List.foldl_cons, ih, sink_len]
theorem upTo_len (n k : Nat) : (upTo n k).length = n := by simp [upTo]
theorem gi_upTo {n k i : Nat} (h : i < n) : gi (upTo n k) i = if i < k then i else 0 := by
 simp [gi, upTo, List.getD, h]
theorem upTo_full (n : Nat) : upTo n n = List.range n := by
 refine List.ext_getElem (by simp [upTo]) fun i h1 h2 => ?_
 simp [upTo] at h1 ⊢
 intro h; omega
theorem gi_range {n i : Nat} (h : i < n) : gi (List.range n) i = i := by simp [gi, List.getD, h]
end Go.Proofs.YtgepmbjmaljgoaaGreatDoor.H
namespace Go.Proofs.YtgepmbjmaljgoaaGreatDoor.H
open Go Go.Vc Go.RowKit
set_option maxHeartbeats 4000000
theorem win_c (n : Int) : CtrA Tryz.prog 72 [vi n] (vb (inB n)) := by
 refine ctrA _ Tryz.func72 rfl rfl Tryz.ntmps72 rfl fun w Z => ?_
 refine zU ?_
 refine wt ?_
 (first | refine sq_split rfl rfl ?_ ?_ | refine dq_split rfl rfl ?_ ?_) <;> intro hb <;> (try simp only [zA, zB, zG, zC, zD, zN] at hb) <;> (try (exfalso; omega))
 ·refine wt ?_
  exact sq_res1 rfl (.tmp rfl) (congrArg vb (by unfold inB; rw [decide_eq_true (by assumption : -100000 ≤ n), Bool.true_and]))
 ·refine wt ?_
  exact sq_res1 rfl (.tmp rfl) (congrArg vb (by unfold inB; rw [decide_eq_false (by assumption : ¬ -100000 ≤ n), Bool.false_and]))
theorem wit_c (n : Int) : CtrA Tryz.prog 166 [vi n] (vb (inB n)) := by
 refine ctrA _ Tryz.func166 rfl rfl Tryz.ntmps166 rfl fun w Z => ?_
 refine zU ?_
 refine wt ?_
 (first | refine sq_split rfl rfl ?_ ?_ | refine dq_split rfl rfl ?_ ?_) <;> intro hb <;> (try simp only [zA, zB, zG, zC, zD, zN] at hb) <;> (try (exfalso; omega))
 ·refine wt ?_
  exact sq_res1 rfl (.tmp rfl) (congrArg vb (by unfold inB; rw [decide_eq_true (by assumption : -100000 ≤ n), Bool.true_and]))
 ·refine wt ?_
  exact sq_res1 rfl (.tmp rfl) (congrArg vb (by unfold inB; rw [decide_eq_false (by assumption : ¬ -100000 ≤ n), Bool.false_and]))
theorem rights_c (p : Tr) : CtrA Tryz.prog 60 [tp p] (vb (rightT p)) := by
 have h1 := win_c p.x
 have h2 := win_c p.y
 have h3 := win_c p.z
 refine ctrA _ Tryz.func60 rfl rfl Tryz.ntmps60 rfl fun w Z => ?_
 refine zU ?_
 (refine wt ?_; repeat' (((first | refine sq_split rfl rfl ?_ ?_ | refine dq_split rfl rfl ?_ ?_) <;> intro hb <;> (try simp only [zA, zB, zG, zC, zD, zN] at hb) <;> (try (exfalso; omega))) <;> refine wt ?_))
 all_goals (refine sq_res1 rfl (.tmp rfl) (congrArg vb ?_); simp [rightB, rightT, *])
theorem flat_c (p : Pt) : CtrA Tryz.prog 104 [pp p] (vb (rightB p)) := by
 have h1 := wit_c p.x
 have h2 := wit_c p.y
 refine ctrA _ Tryz.func104 rfl rfl Tryz.ntmps104 rfl fun w Z => ?_
 refine zU ?_
 (refine wt ?_; repeat' (((first | refine sq_split rfl rfl ?_ ?_ | refine dq_split rfl rfl ?_ ?_) <;> intro hb <;> (try simp only [zA, zB, zG, zC, zD, zN] at hb) <;> (try (exfalso; omega))) <;> refine wt ?_))
 all_goals (refine sq_res1 rfl (.tmp rfl) (congrArg vb ?_); simp [rightB, rightT, *])
theorem to_c (a b : Pt) (h1 : SmP a) (h2 : SmP b) : CtrA Tryz.prog 132 [pp a, pp b] (pp (sub b a)) := by
 simp only [SmP, Sm] at h1 h2
 refine ctrA _ Tryz.func132 rfl rfl Tryz.ntmps132 rfl fun w Z => ?_
 refine zU ?_
 refine wt ?_
 exact sq_res1 rfl (.agg (us := [_, _]) rfl rfl rfl rfl) rfl
end Go.Proofs.YtgepmbjmaljgoaaGreatDoor.H
namespace Go.Na
open Go.Lib
def dvA (a : Nat) (l : List UInt8) : Nat := l.foldl (fun a b => a * 10 + (b.toNat - 48)) a
def dv (l : List UInt8) : Nat := dvA 0 l
def isD (b : UInt8) : Prop := 48 ≤ b.toNat ∧ b.toNat ≤ 57
instance (b : UInt8) : Decidable (isD b) := by unfold isD; infer_instance
structure Can (l : List UInt8) : Prop where
 ne : l ≠ []
 dig : ∀ b ∈ l, isD b
 hd : ∀ r, l = 48 :: r → r = []
theorem dvA_append (a : Nat) (l m : List UInt8) : dvA a (l ++ m) = dvA (dvA a l) m := by simp [dvA]
theorem dv_snoc (l : List UInt8) (b : UInt8) : dv (l ++ [b]) = dv l * 10 + (b.toNat - 48) := by simp [dv, dvA]
theorem dvA_eq (a : Nat) : ∀ l : List UInt8, dvA a l = a * 10 ^ l.length + dv l := by
 intro l
 induction l generalizing a with
 |nil => simp [dvA, dv]
 |cons b l ih =>
  show dvA (a * 10 + (b.toNat - 48)) l = a * 10 ^ (l.length + 1) + dvA (0 * 10 + (b.toNat - 48)) l
  rw [ih, ih (0 * 10 + (b.toNat - 48)), Nat.pow_succ, Nat.zero_mul, Nat.zero_add, Nat.add_mul, Nat.mul_assoc, Nat.mul_comm 10, Nat.add_assoc]
theorem dv_append (l m : List UInt8) : dv (l ++ m) = dv l * 10 ^ m.length + dv m := by
 rw [show dv (l ++ m) = dvA (dv l) m from dvA_append 0 l m, dvA_eq]
theorem dv_lt : ∀ l : List UInt8, (∀ b ∈ l, isD b) → dv l < 10 ^ l.length := by
 intro l
 induction l with
 |nil => intro _; simp [dv, dvA]
 |cons b l ih =>
  intro h
  have h1 := ih fun c hc => h c (by simp [hc])
  have h2 := (h b (by simp)).2
  rw [show b :: l = [b] ++ l from rfl, dv_append, show ([b] ++ l).length = l.length + 1 by simp, Nat.pow_succ]
  have : dv [b] = b.toNat - 48 := by simp [dv, dvA]
  rw [this]
  have : (b.toNat - 48) * 10 ^ l.length ≤ 9 * 10 ^ l.length := Nat.mul_le_mul_right _ (by omega)
  omega
theorem u8d (k : Nat) (h : k < 10) : (UInt8.ofNat (48 + k)).toNat = 48 + k := by
 rw [UInt8.toNat_ofNat']; omega
theorem dec_dig : ∀ u : Nat, ∀ b ∈ decDigits u, isD b := by
 intro u
 induction u using Nat.strongRecOn with
 |_ u ih =>
  intro b hb
  rw [decDigits] at hb
  split at hb
  ·rename_i h
   rw [List.mem_singleton.1 hb]
   unfold isD; rw [u8d u h]; omega
  ·rename_i h
   rcases List.mem_append.1 hb with h1 | h1
   ·exact ih (u / 10) (by omega) b h1
   ·rw [List.mem_singleton.1 h1]
    unfold isD; rw [u8d _ (Nat.mod_lt _ (by omega))]; have := Nat.mod_lt u (show 10 > 0 by omega); omega
theorem dv_dec : ∀ u : Nat, dv (decDigits u) = u := by
 intro u
 induction u using Nat.strongRecOn with
 |_ u ih =>
  rw [decDigits]
  split
  ·rename_i h
   simp only [dv, dvA, List.foldl_cons, List.foldl_nil]
   rw [u8d u h]; omega
  ·rename_i h
   rw [dv_snoc, ih (u / 10) (by omega), u8d _ (Nat.mod_lt _ (by omega))]
   omega
theorem dec_ne (u : Nat) : decDigits u ≠ [] := by
 intro h
 have := decDigits_length u
 have := nDigits_pos u
 rw [h] at *
 simp at *
 omega
theorem dec_hd : ∀ u : Nat, ∀ r, decDigits u = 48 :: r → r = [] := by
 intro u
 induction u using Nat.strongRecOn with
 |_ u ih =>
  intro r h
  rw [decDigits] at h
  split at h
  ·injection h with _ h; exact h.symm
  ·rename_i hu
   cases hd : decDigits (u / 10) with
   |nil => exact absurd hd (dec_ne _)
   |cons c s =>
    rw [hd] at h
    simp only [List.cons_append, List.cons.injEq] at h
    have := ih (u / 10) (by omega) s (by rw [hd, h.1])
    subst this
    have hv := dv_dec (u / 10)
    rw [hd, h.1] at hv
    simp [dv, dvA] at hv
    omega
theorem can_dec (u : Nat) : Can (decDigits u) := ⟨dec_ne u, dec_dig u, dec_hd u⟩
theorem ofd {b : UInt8} (h : isD b) : UInt8.ofNat (48 + (b.toNat - 48)) = b := by
 apply UInt8.toNat_inj.1
 have := h.1; have := h.2
 rw [u8d _ (by omega)]; omega
theorem dv_pos {l : List UInt8} (h : Can l) (h0 : l ≠ [48]) : 0 < dv l := by
 cases l with
 |nil => exact absurd rfl h.ne
 |cons b r =>
  rw [show b :: r = [b] ++ r from rfl, dv_append]
  have hb := h.dig b (by simp)
  have : dv [b] = b.toNat - 48 := by simp [dv, dvA]
  rw [this]
  have hp : 0 < 10 ^ r.length := Nat.pow_pos (by decide)
  by_cases hz : b.toNat = 48
  ·have : b = 48 := UInt8.toNat_inj.1 hz
   subst this
   have := h.hd r rfl
   subst this
   exact absurd rfl h0
  ·have h1 := hb.1
   have : 1 * 10 ^ r.length ≤ (b.toNat - 48) * 10 ^ r.length := Nat.mul_le_mul_right _ (by omega)
   omega
theorem dec_dv : ∀ n : Nat, ∀ l : List UInt8, l.length = n → Can l → decDigits (dv l) = l := by
 intro n
 induction n with
 |zero => intro l hl h; exact absurd (List.length_eq_zero_iff.1 hl) h.ne
 |succ n ih =>
  intro l hl h
  have hs := List.dropLast_concat_getLast h.ne
  generalize hm : l.dropLast = m at hs
  generalize l.getLast h.ne = b at hs
  subst hs
  have hb := h.dig b (by simp)
  rw [dv_snoc]
  cases m with
  |nil =>
   have : dv [] = 0 := rfl
   rw [this, decDigits, dif_pos (by have := hb.2; omega), Nat.zero_mul, Nat.zero_add, ofd hb]; rfl
  |cons c s =>
   have hc : Can (c :: s) := ⟨by simp, fun x hx => h.dig x (List.mem_append_left _ hx), fun r hr => by
    injection hr with h1 h2
    subst h1
    have := h.hd (s ++ [b]) rfl
    simp at this⟩
   have hne : c :: s ≠ [48] := by
    intro he
    rw [he] at h
    have := h.hd [b] rfl
    simp at this
   have hp := dv_pos hc hne
   have h2 := hb.2
   rw [decDigits, dif_neg (by omega)]
   have e1 : (dv (c :: s) * 10 + (b.toNat - 48)) / 10 = dv (c :: s) := by omega
   have e2 : (dv (c :: s) * 10 + (b.toNat - 48)) % 10 = b.toNat - 48 := by omega
   rw [e1, e2, ih (c :: s) (by simp at hl ⊢; omega) hc, ofd hb]
theorem can_iff {l : List UInt8} : Can l ↔ ∃ u, l = decDigits u := ⟨fun h => ⟨dv l, (dec_dv _ l rfl h).symm⟩, fun ⟨u, h⟩ => h ▸ can_dec u⟩
theorem dec_inj {u v : Nat} (h : decDigits u = decDigits v) : u = v := by rw [← dv_dec u, h, dv_dec]
theorem itoa_inj {m n : Int} (h : itoa m = itoa n) : m = n := by
 unfold itoa at h
 have hx : ∀ a b : Nat, 45 :: decDigits a ≠ decDigits b := fun a b e => by
  have := dec_dig b 45 (by rw [← e]; simp)
  exact absurd this (by decide)
 split at h <;> split at h
 ·injection h with _ h
  have := dec_inj h; omega
 ·exact absurd h (hx _ _)
 ·exact absurd h.symm (hx _ _)
 ·have := dec_inj h; omega
def rtx (q : Rat) : List UInt8 := if q.den = 1 then itoa q.num else itoa q.num ++ 47 :: decDigits q.den
theorem itoa_dig (n : Int) : ∀ b ∈ itoa n, isD b ∨ b = 45 := fun b hb => by
 unfold itoa at hb
 split at hb
 ·rcases List.mem_cons.1 hb with h | h
  ·exact .inr h
  ·exact .inl (dec_dig _ b h)
 ·exact .inl (dec_dig _ b hb)
theorem no47 (n : Int) : (47 : UInt8) ∉ itoa n := fun h => by
 rcases itoa_dig n 47 h with h | h
 ·exact absurd h (by decide)
 ·exact absurd h (by decide)
theorem split47 {a b c d : List UInt8} (ha : (47 : UInt8) ∉ a) (hc : (47 : UInt8) ∉ c) (h : a ++ 47 :: b = c ++ 47 :: d) : a = c ∧ b = d := by
 induction a generalizing c with
 |nil =>
  cases c with
  |nil => simp at h; exact ⟨rfl, h⟩
  |cons x c => simp at h; exact absurd (by rw [h.1]; simp) hc
 |cons y a ih =>
  cases c with
  |nil => simp at h; exact absurd (by rw [h.1]; simp) ha
  |cons x c =>
   simp at h
   obtain ⟨e1, e2⟩ := ih (fun q => ha (by simp [q])) (fun q => hc (by simp [q])) h.2
   exact ⟨by rw [h.1, e1], e2⟩
theorem itoa_nat (n : Nat) : itoa (n : Int) = decDigits n := by unfold itoa; rw [if_neg (by omega)]; simp
theorem rtx_div {n d g : Int} (hd : d ≠ 0) (hg : g = if d < 0 then -((Int.gcd n d : Nat) : Int) else ((Int.gcd n d : Nat) : Int)) : rtx (Rat.divInt n d) = if d / g = 1 then itoa (n / g) else itoa (n / g) ++ 47 :: itoa (d / g) := by
 have h1 : (Rat.divInt n d).num = n / g := by
  rw [Rat.num_divInt, Int.gcd_comm d n, hg]
  split
  ·rename_i h
   rw [Int.sign_eq_neg_one_of_neg h, Int.ediv_neg, Int.neg_mul, Int.one_mul]
   exact Int.neg_ediv_of_dvd (Int.gcd_dvd_left ..)
  ·rename_i h
   rw [Int.sign_eq_one_of_pos (by omega), Int.one_mul]
 have h2 : ((Rat.divInt n d).den : Int) = d / g := by
  rw [Rat.den_divInt, if_neg hd, Int.gcd_comm d n, hg, Int.natCast_ediv]
  split
  ·rename_i h
   rw [Int.ediv_neg, show ((d.natAbs : Nat) : Int) = -d by omega]
   exact Int.neg_ediv_of_dvd (Int.gcd_dvd_right ..)
  ·rename_i h
   rw [show ((d.natAbs : Nat) : Int) = d by omega]
 unfold rtx
 rw [← h1, ← h2, itoa_nat]
 by_cases h : (Rat.divInt n d).den = 1
 ·rw [if_pos h, if_pos (by omega)]
 ·rw [if_neg h, if_neg (by omega)]
end Go.Na
namespace Go.Na
theorem fdiv_unique {m n q r : Int} (h : m = q * n + r) (hr : (0 ≤ r ∧ r < n) ∨ (n < r ∧ r ≤ 0)) : m.fdiv n = q ∧ m.fmod n = r := by
 have h2 : ∀ {m n q r : Int}, m = q * n + r → 0 ≤ r → r < n → m.fdiv n = q := by
  intro m n q r h h0 h1
  rw [Int.fdiv_eq_ediv_of_nonneg _ (by omega)]
  have := (Int.ediv_emod_unique (a := m) (b := n) (r := r) (q := q) (by omega)).2 ⟨by rw [h, Int.mul_comm]; omega, h0, h1⟩
  exact this.1
 have hq : m.fdiv n = q := by
  rcases hr with ⟨h0, h1⟩ | ⟨h0, h1⟩
  ·exact h2 h h0 h1
  ·rw [← Int.neg_fdiv_neg]
   exact h2 (r := -r) (by rw [h, Int.mul_neg]; omega) (by omega) (by omega)
 refine ⟨hq, ?_⟩
 have := Int.mul_fdiv_add_fmod m n
 rw [hq] at this
 rw [Int.mul_comm] at this
 omega
theorem fdiv_dvd {m n : Int} (h : n ∣ m) : m.fdiv n = m / n := by
 rw [Int.fdiv_eq_ediv, if_pos (.inr h)]; omega
abbrev B : Int := 1000000000
def vw (f : Nat → Int) : Nat → Int
 |0 => 0
 |n + 1 => vw f n + f n * B ^ n
theorem vw_congr {f g : Nat → Int} : ∀ {n : Nat}, (∀ i, i < n → f i = g i) → vw f n = vw g n
 |0, _ => rfl
 |n + 1, h => by
  show vw f n + f n * B ^ n = vw g n + g n * B ^ n
  rw [vw_congr fun i hi => h i (by omega), h n (by omega)]
theorem vw_upd {f g : Nat → Int} {k : Nat} (ho : ∀ i, i ≠ k → g i = f i) : ∀ {n : Nat}, k < n → vw g n = vw f n + (g k - f k) * B ^ k
 |0, h => by omega
 |n + 1, h => by
  show vw g n + g n * B ^ n = vw f n + f n * B ^ n + (g k - f k) * B ^ k
  by_cases hk : k = n
  ·subst hk
   rw [vw_congr fun i hi => ho i (by omega), Int.sub_mul]; omega
  ·rw [vw_upd ho (show k < n by omega), ho n (fun e => hk e.symm)]; omega
theorem B_pos (n : Nat) : 0 < B ^ n := Int.pow_pos (by decide)
theorem vw_nonneg {f : Nat → Int} (h : ∀ i, 0 ≤ f i) : ∀ n, 0 ≤ vw f n
 |0 => Int.le_refl 0
 |n + 1 => Int.add_nonneg (vw_nonneg h n) (Int.mul_nonneg (h n) (Int.le_of_lt (B_pos n)))
theorem vw_lt {f : Nat → Int} (h0 : ∀ i, 0 ≤ f i) (h : ∀ i, f i < B) : ∀ n, vw f n < B ^ n
 |0 => by show (0 : Int) < B ^ 0; decide
 |n + 1 => by
  have h1 := vw_lt h0 h n
  have h2 : f n * B ^ n ≤ (B - 1) * B ^ n := Int.mul_le_mul_of_nonneg_right (by have := h n; omega) (Int.le_of_lt (B_pos n))
  rw [Int.pow_succ]
  show vw f n + f n * B ^ n < B ^ n * B
  rw [Int.sub_mul, Int.one_mul, Int.mul_comm B] at h2
  omega
theorem vw_zero {f : Nat → Int} {n : Nat} (h : ∀ i, n ≤ i → f i = 0) : ∀ m, vw f (n + m) = vw f n
 |0 => rfl
 |m + 1 => by
  show vw f (n + m) + f (n + m) * B ^ (n + m) = _
  rw [vw_zero h m, h (n + m) (by omega)]; simp
theorem rest_zero {f : Nat → Int} {j m n : Nat} {V r : Int} (h0 : ∀ i, 0 ≤ f i) (h1 : ∀ i, f i < B) (hz : ∀ i, j ≤ i → f i = 0) (hm : m ≤ j) (hV0 : 0 ≤ V) (hV : V < B ^ m) (hj : j ≤ n) (he : vw f n + r * B ^ j = V) : r = 0 := by
 have e1 : vw f n = vw f j := by
  have := vw_zero hz (n - j)
  rwa [show j + (n - j) = n by omega] at this
 have h2 := vw_lt h0 h1 j
 have h3 := vw_nonneg h0 j
 have h4 : B ^ m ≤ B ^ j := by
  rw [show j = m + (j - m) by omega, Int.pow_add]
  have := B_pos (j - m)
  have h5 : B ^ m * 1 ≤ B ^ m * B ^ (j - m) := Int.mul_le_mul_of_nonneg_left (by omega) (Int.le_of_lt (B_pos m))
  omega
 have hp := B_pos j
 rcases Int.lt_trichotomy r 0 with h | h | h
 ·have : r * B ^ j ≤ (-1) * B ^ j := Int.mul_le_mul_of_nonneg_right (by omega) (Int.le_of_lt hp)
  omega
 ·exact h
 ·have : 1 * B ^ j ≤ r * B ^ j := Int.mul_le_mul_of_nonneg_right (by omega) (Int.le_of_lt hp)
  omega
theorem carry_step {f f' g : Nat → Int} {i u N : Nat} {c V r s r' : Int} (hj : i + u < N) (he : vw f N + r * B ^ (i + u) = V + c * vw g i * B ^ u)
  (hs : s = f (i + u) + r + c * g i) (hf : f' (i + u) + r' * B = s) (ho : ∀ k, k ≠ i + u → f' k = f k) : vw f' N + r' * B ^ (i + 1 + u) = V + c * vw g (i + 1) * B ^ u := by
 rw [vw_upd ho hj, show i + 1 + u = (i + u) + 1 by omega, Int.pow_succ]
 show _ = V + c * (vw g i + g i * B ^ i) * B ^ u
 have e : B ^ (i + u) = B ^ i * B ^ u := Int.pow_add ..
 rw [e] at he ⊢
 have e2 : f' (i + u) = s - r' * B := by omega
 rw [e2, hs]
 generalize B ^ i = p at he ⊢
 generalize B ^ u = q at he ⊢
 grind
theorem carry_digit (s : Int) : let r := s.tdiv B; let t := s - r * B; (0 ≤ t → t < B ∧ t + r * B = s) ∧ (t < 0 → 0 ≤ t + B ∧ t + B < B ∧ (t + B) + (r - 1) * B = s) := by
 intro r t
 have h4 : t = s - r * 1000000000 := rfl
 have h5 : r = s.tdiv 1000000000 := rfl
 clear_value r t
 have h3 : -1000000000 < t ∧ t < 1000000000 := by
  rcases Int.le_total 0 s with h | h
  ·rw [Int.tdiv_eq_ediv_of_nonneg h] at h5; omega
  ·have : s = -(-s) := by omega
   rw [this, Int.neg_tdiv, Int.tdiv_eq_ediv_of_nonneg (by omega)] at h5; omega
 show (0 ≤ t → t < 1000000000 ∧ t + r * 1000000000 = s) ∧ (t < 0 → 0 ≤ t + 1000000000 ∧ t + 1000000000 < 1000000000 ∧ (t + 1000000000) + (r - 1) * 1000000000 = s)
 refine ⟨fun h => ⟨by omega, by omega⟩, fun h => ⟨by omega, by omega, by omega⟩⟩
theorem vw_top {f : Nat → Int} {n N : Nat} (h0 : ∀ i, 0 ≤ f i) (hN : n + 2 ≤ N) : (f (n + 1) * B + f n) * B ^ n ≤ vw f N := by
 have h1 : ∀ m, vw f (n + 2) ≤ vw f (n + 2 + m) := fun m => by
  induction m with
  |zero => exact Int.le_refl _
  |succ m ih => exact Int.le_trans ih (by
    show vw f (n + 2 + m) ≤ vw f (n + 2 + m) + f (n + 2 + m) * B ^ (n + 2 + m)
    have := Int.mul_nonneg (h0 (n + 2 + m)) (Int.le_of_lt (B_pos (n + 2 + m)))
    omega)
 have h2 := h1 (N - (n + 2))
 rw [show n + 2 + (N - (n + 2)) = N by omega] at h2
 refine Int.le_trans ?_ h2
 show _ ≤ vw f n + f n * B ^ n + f (n + 1) * B ^ (n + 1)
 have h3 := vw_nonneg h0 n
 have e : (f (n + 1) * B + f n) * B ^ n = f n * B ^ n + f (n + 1) * B ^ (n + 1) := by
  rw [Int.pow_succ]
  generalize B ^ n = p
  grind
 omega
theorem est_le {f g : Nat → Int} {n N : Nat} {b k : Int} (h0 : ∀ i, 0 ≤ f i) (hg0 : ∀ i, 0 ≤ g i) (hg : ∀ i, g i < B) (hN : n + 2 ≤ N) (hb : b = if n = 0 then g n else g n + 1) (hb0 : 0 < b) (hk0 : 0 ≤ k) (hk : k ≤ (f (n + 1) * B + f n) / b) : k * vw g (n + 1) ≤ vw f N := by
 have h1 := vw_top h0 hN
 have hp := B_pos n
 have h2 : vw g (n + 1) ≤ b * B ^ n := by
  show vw g n + g n * B ^ n ≤ b * B ^ n
  by_cases hn : n = 0
  ·subst hn
   rw [if_pos rfl] at hb
   subst hb
   show 0 + _ ≤ _
   omega
  ·rw [if_neg hn] at hb
   have := vw_lt hg0 hg n
   rw [hb, Int.add_mul, Int.one_mul]; omega
 have h3 : k * b ≤ f (n + 1) * B + f n := by
  have := Int.ediv_mul_le (f (n + 1) * B + f n) (show b ≠ 0 by omega)
  exact Int.le_trans (Int.mul_le_mul_of_nonneg_right hk (Int.le_of_lt hb0)) this
 have h4 : k * vw g (n + 1) ≤ k * (b * B ^ n) := Int.mul_le_mul_of_nonneg_left h2 hk0
 have h5 : k * (b * B ^ n) ≤ (f (n + 1) * B + f n) * B ^ n := by
  rw [← Int.mul_assoc]; exact Int.mul_le_mul_of_nonneg_right h3 (Int.le_of_lt hp)
 omega
theorem vw_cmp {f g : Nat → Int} (hf0 : ∀ i, 0 ≤ f i) (hf : ∀ i, f i < B) (hg0 : ∀ i, 0 ≤ g i) {i : Nat} (hlt : f i < g i) : ∀ {n : Nat}, i < n → (∀ k, i < k → k < n → f k = g k) → vw f n < vw g n
 |0, h, _ => by omega
 |n + 1, h, hs => by
  show vw f n + f n * B ^ n < vw g n + g n * B ^ n
  by_cases hin : i = n
  ·subst hin
   have h1 := vw_lt hf0 hf i
   have h2 := vw_nonneg hg0 i
   have h3 : (f i + 1) * B ^ i ≤ g i * B ^ i := Int.mul_le_mul_of_nonneg_right (by omega) (Int.le_of_lt (B_pos i))
   rw [Int.add_mul, Int.one_mul] at h3
   omega
  ·have := vw_cmp hf0 hf hg0 hlt (show i < n by omega) fun k h1 h2 => hs k h1 (by omega)
   rw [hs n (by omega) (by omega)]; omega
theorem vw_shift {f g : Nat → Int} (h : ∀ i, g (i + 1) = f i) : ∀ n, vw g (n + 1) = vw f n * B + g 0
 |0 => by show 0 + g 0 * B ^ 0 = 0 * B + g 0; simp
 |n + 1 => by
  show vw g (n + 1) + g (n + 1) * B ^ (n + 1) = (vw f n + f n * B ^ n) * B + g 0
  rw [vw_shift h n, h n, Int.pow_succ]
  generalize B ^ n = p
  grind
end Go.Na
namespace Go.Na
open Go.Lib
def pad (k : Nat) : List UInt8 := List.replicate (9 - (decDigits k).length) 48 ++ decDigits k
theorem dec_len {k : Nat} : ∀ {n : Nat}, k < 10 ^ n → 0 < n → (decDigits k).length ≤ n := by
 induction k using Nat.strongRecOn with
 |_ k ih =>
  intro n h hn
  rw [decDigits]
  split
  ·simp; omega
  ·rename_i hk
   have hn1 : 1 < n := by
    rcases Nat.lt_or_ge 1 n with h1 | h1
    ·exact h1
    ·have : n = 1 := by omega
     subst this; omega
   obtain ⟨m, rfl⟩ : ∃ m, n = m + 1 := ⟨n - 1, by omega⟩
   rw [Nat.pow_succ] at h
   have := ih (k / 10) (by omega) (n := m) (by omega) (by omega)
   simp; omega
theorem pad_len {k : Nat} (h : k < 1000000000) : (pad k).length = 9 := by
 have := dec_len (n := 9) h (by decide)
 simp [pad]; omega
theorem dv_rep (n : Nat) : dv (List.replicate n 48) = 0 := by
 induction n with
 |zero => rfl
 |succ n ih => rw [List.replicate_succ', dv_snoc, ih]; decide
theorem dv_pad (k : Nat) : dv (pad k) = k := by
 rw [pad, dv_append, dv_rep, dv_dec]; simp
theorem pad_dig (k : Nat) : ∀ b ∈ pad k, isD b := fun b hb => by
 rcases List.mem_append.1 hb with h | h
 ·rw [(List.mem_replicate.1 h).2]; decide
 ·exact dec_dig k b h
def tl (f : Nat → Int) : Nat → List UInt8
 |0 => []
 |n + 1 => pad (f n).toNat ++ tl f n
theorem tl_len {f : Nat → Int} (h : ∀ i, f i < B) : ∀ n, (tl f n).length = 9 * n
 |0 => rfl
 |n + 1 => by
  have h1 : f n < 1000000000 := h n
  rw [tl, List.length_append, tl_len h n, pad_len (by omega)]; omega
theorem tl_dig (f : Nat → Int) : ∀ n, ∀ b ∈ tl f n, isD b
 |0, b, hb => by simp [tl] at hb
 |n + 1, b, hb => (List.mem_append.1 hb).elim (pad_dig _ b) (tl_dig f n b)
theorem pow9 (n : Nat) : ((10 ^ (9 * n) : Nat) : Int) = B ^ n := by
 rw [Nat.pow_mul]; simp
theorem dv_tl {f : Nat → Int} (h0 : ∀ i, 0 ≤ f i) (h : ∀ i, f i < B) : ∀ n, ((dv (tl f n) : Nat) : Int) = vw f n
 |0 => rfl
 |n + 1 => by
  have := h0 n
  rw [tl, dv_append, dv_pad, tl_len h, Int.natCast_add, Int.natCast_mul, dv_tl h0 h n, pow9, Int.toNat_of_nonneg (h0 n)]
  show _ = vw f n + f n * B ^ n
  omega
theorem text_eq {f : Nat → Int} (h0 : ∀ i, 0 ≤ f i) (h : ∀ i, f i < B) {n : Nat} (hn : f n ≠ 0) : decDigits (f n).toNat ++ tl f n = decDigits (vw f (n + 1)).toNat := by
 have hp := h0 n
 have hc : Can (decDigits (f n).toNat ++ tl f n) := ⟨by simp [dec_ne], fun b hb => (List.mem_append.1 hb).elim (dec_dig _ b) (tl_dig f n b), fun r hr => by
  cases hd : decDigits (f n).toNat with
  |nil => exact absurd hd (dec_ne _)
  |cons c s =>
   rw [hd] at hr
   injection hr with h1 h2
   subst h1
   have := dec_hd _ s hd
   subst this
   have hv := dv_dec (f n).toNat
   rw [hd] at hv
   simp [dv, dvA] at hv
   omega⟩
 rw [← dec_dv _ _ rfl hc]
 congr 1
 have h1 : ((dv (decDigits (f n).toNat ++ tl f n) : Nat) : Int) = vw f (n + 1) := by
  rw [dv_append, dv_dec, tl_len h, Int.natCast_add, Int.natCast_mul, dv_tl h0 h n, pow9, Int.toNat_of_nonneg (h0 n)]
  show _ = vw f n + f n * B ^ n
  omega
 rw [← h1]; simp
theorem read_step {s : List UInt8} (h : ∀ b ∈ s, isD b) : dv s = dv (s.take (s.length - 9)) * 1000000000 + dv (s.drop (s.length - 9)) ∧ dv (s.drop (s.length - 9)) < 1000000000 := by
 constructor
 ·have e := dv_append (s.take (s.length - 9)) (s.drop (s.length - 9))
  rw [List.take_append_drop] at e
  by_cases hl : 9 ≤ s.length
  ·rw [show (s.drop (s.length - 9)).length = 9 by simp; omega] at e
   exact e
  ·rw [show s.length - 9 = 0 by omega] at e ⊢
   simp [dv, dvA]
 ·have h1 := dv_lt (s.drop (s.length - 9)) fun b hb => h b (List.mem_of_mem_drop hb)
  have h2 : (10 : Nat) ^ (s.drop (s.length - 9)).length ≤ 10 ^ 9 := Nat.pow_le_pow_right (by decide) (by simp; omega)
  exact Nat.lt_of_lt_of_le h1 h2
theorem dv_one (b : UInt8) : dv [b] = b.toNat - 48 := by simp [dv, dvA]
theorem dv_cons (b : UInt8) (l : List UInt8) : dv (b :: l) = (b.toNat - 48) * 10 ^ l.length + dv l := by
 rw [show b :: l = [b] ++ l from rfl, dv_append, dv_one]
theorem dgI {b : UInt8} (h : isD b) : 0 ≤ ((b.toNat : Int) - 48) ∧ ((b.toNat : Int) - 48) ≤ 9 := by
 have := h.1; have := h.2; omega
theorem dec_lt_len {u v : Nat} (h : (decDigits u).length < (decDigits v).length) : u < v := by
 rcases Nat.lt_or_ge u v with h1 | h1
 ·exact h1
 ·exfalso
  have h2 := dv_lt _ (dec_dig u)
  rw [dv_dec] at h2
  have h3 : 0 < (decDigits u).length := List.length_pos_iff.2 (dec_ne u)
  have := dec_len (k := v) (n := (decDigits u).length) (by omega) h3
  omega
def LI (k : Nat) (m : Int) : Prop := m.natAbs < 10 ^ k
theorem LI.len {k : Nat} {m : Int} (h : LI k m) (hk : 0 < k) : (decDigits m.natAbs).length ≤ k := dec_len h hk
theorem LI.of_len {k : Nat} {m : Int} (h : (decDigits m.natAbs).length ≤ k) : LI k m := by
 have hlt := dv_lt _ (dec_dig m.natAbs)
 rw [dv_dec] at hlt
 exact Nat.lt_of_lt_of_le hlt (Nat.pow_le_pow_right (by decide) h)
theorem LI.mono {k l : Nat} {m : Int} (h : LI k m) (hl : k ≤ l) : LI l m := Nat.lt_of_lt_of_le h (Nat.pow_le_pow_right (by decide) hl)
theorem LI.le {k : Nat} {m n : Int} (h : LI k m) (hl : n.natAbs ≤ m.natAbs) : LI k n := Nat.lt_of_le_of_lt hl h
theorem LI.neg {k : Nat} {m : Int} (h : LI k m) : LI k (-m) := h.le (by omega)
theorem LI.sub {k : Nat} {m n : Int} (h : LI k m) (h' : LI k n) : LI (k + 1) (m - n) := by
 unfold LI at *
 rw [Nat.pow_succ]; omega
theorem LI.mul {k l : Nat} {m n : Int} (h : LI k m) (h' : LI l n) : LI (k + l) (m * n) := by
 unfold LI at *
 rw [Nat.pow_add, Int.natAbs_mul]
 exact Nat.mul_lt_mul'' h h'
theorem LI.small {k : Nat} {m : Int} (h : m.natAbs < 10) (hk : 0 < k) : LI k m := by
 unfold LI
 have : 10 ^ 1 ≤ 10 ^ k := Nat.pow_le_pow_right (by decide) hk
 omega
def szL : List UInt8 → List UInt8
 |[] => []
 |b :: r => if b = 45 then r else b :: r
structure IsNum (l : List UInt8) : Prop where
 ne : szL l ≠ []
 hd : (szL l).head? = some 48 → l = [48]
 dig : ∀ b ∈ szL l, isD b
theorem dig45 {b : UInt8} (h : isD b) : b ≠ 45 := by
 rintro rfl; exact absurd h (by decide)
theorem dec_cons (u : Nat) : ∃ b r, decDigits u = b :: r ∧ isD b := by
 cases h : decDigits u with
 |nil => exact absurd h (dec_ne u)
 |cons b r => exact ⟨b, r, rfl, dec_dig u b (by rw [h]; simp)⟩
theorem szL_dec (u : Nat) : szL (decDigits u) = decDigits u := by
 obtain ⟨b, r, h, hd⟩ := dec_cons u
 rw [h, szL, if_neg (dig45 hd)]
theorem itoa_neg {m : Int} (h : m < 0) : itoa m = 45 :: decDigits m.natAbs := by unfold itoa; rw [if_pos h]
theorem itoa_pos {m : Int} (h : ¬ m < 0) : itoa m = decDigits m.natAbs := by
 unfold itoa; rw [if_neg h]; congr 1; omega
theorem szL_itoa (m : Int) : szL (itoa m) = decDigits m.natAbs := by
 by_cases h : m < 0
 ·rw [itoa_neg h, szL, if_pos rfl]
 ·rw [itoa_pos h, szL_dec]
theorem dec_zero : decDigits 0 = [48] := by rw [decDigits]; rfl
theorem dec_head0 {u : Nat} (h : (decDigits u).head? = some 48) : u = 0 := by
 cases hd : decDigits u with
 |nil => exact absurd hd (dec_ne u)
 |cons b r =>
  rw [hd] at h
  simp at h
  subst h
  have := dec_hd u r hd
  subst this
  have hv := dv_dec u
  rw [hd] at hv
  simp [dv, dvA] at hv
  exact hv.symm
theorem isNum_itoa (m : Int) : IsNum (itoa m) := by
 refine ⟨by rw [szL_itoa]; exact dec_ne _, fun h => ?_, by rw [szL_itoa]; exact dec_dig _⟩
 rw [szL_itoa] at h
 have := dec_head0 h
 obtain rfl : m = 0 := by omega
 rw [itoa_pos (by decide)]; exact dec_zero
theorem isNum_iff (l : List UInt8) : IsNum l ↔ ∃ m : Int, l = itoa m := by
 constructor
 ·intro h
  have hc : Can (szL l) := ⟨h.ne, h.dig, fun r hr => by
   have := h.hd (by rw [hr]; rfl)
   subst this
   have e : szL [48] = [48] := rfl
   rw [e] at hr
   injection hr with _ hr
   exact hr.symm⟩
  obtain ⟨u, hu⟩ := can_iff.1 hc
  cases l with
  |nil => exact absurd rfl h.ne
  |cons b r =>
   by_cases hb : b = 45
   ·subst hb
    have e : szL (45 :: r) = r := by rw [szL, if_pos rfl]
    rw [e] at hu
    have h0 : u ≠ 0 := by
     rintro rfl
     have := h.hd (by rw [e, hu, dec_zero]; rfl)
     injection this with h1 _
     exact absurd h1 (by decide)
    exact ⟨-(u : Int), by rw [itoa_neg (by omega), hu]; simp⟩
   ·have e : szL (b :: r) = b :: r := by rw [szL, if_neg hb]
    rw [e] at hu
    exact ⟨(u : Int), by rw [hu, itoa_nat]⟩
 ·rintro ⟨m, rfl⟩; exact isNum_itoa m
open Classical in
noncomputable def chk (l : List UInt8) : Int := if IsNum l then (if 1024 < (szL l).length then 11 else 0) else 3
theorem chk_bad {l : List UInt8} (h : ¬ IsNum l) : chk l = 3 := if_neg h
theorem chk_num {m : Int} (h : LI 1000 m) : chk (itoa m) = 0 := by
 unfold chk
 rw [if_pos (isNum_itoa m), szL_itoa, if_neg]
 have := h.len (by decide); omega
theorem chk_good {l : List UInt8} (h : chk l = 0) : ∃ m : Int, l = itoa m := by
 unfold chk at h
 split at h
 ·rename_i hn; exact (isNum_iff l).1 hn
 ·exact absurd h (by decide)
theorem chk_short {l : List UInt8} (hl : l.length ≤ 1000) : chk l = 0 ∨ chk l = 3 := by
 unfold chk
 split
 ·rw [if_neg]
  ·exact .inl rfl
  ·have : (szL l).length ≤ l.length := by
    cases l with
    |nil => simp [szL]
    |cons b r =>
     by_cases hb : b = 45
     ·rw [szL, if_pos hb]; simp
     ·rw [szL, if_neg hb]; exact Nat.le_refl _
   omega
 ·exact .inr rfl
def spI (l : List UInt8) : Option Nat := l.findIdx? (· == 47)
def spN (l : List UInt8) : List UInt8 := match spI l with | some i => l.take i | none => l
def spD (l : List UInt8) : List UInt8 := match spI l with | some i => l.drop (i + 1) | none => [49]
theorem spI_none {l : List UInt8} (h : (47 : UInt8) ∉ l) : spI l = none := by
 unfold spI
 rw [List.findIdx?_eq_none_iff]
 intro x hx
 simp
 rintro rfl; exact h hx
theorem spI_some {a b : List UInt8} (h : (47 : UInt8) ∉ a) : spI (a ++ 47 :: b) = some a.length := by
 unfold spI
 induction a with
 |nil => rw [List.nil_append, List.findIdx?_cons]; rfl
 |cons x a ih =>
  have hx : (x == 47) = false := by simp; rintro rfl; exact h (by simp)
  rw [List.cons_append, List.findIdx?_cons, hx, ih (fun q => h (by simp [q]))]
  simp
theorem spI_at {l : List UInt8} {i : Nat} (h : spI l = some i) : l = l.take i ++ 47 :: l.drop (i + 1) ∧ (47 : UInt8) ∉ l.take i ∧ i < l.length := by
 unfold spI at h
 rw [List.findIdx?_eq_some_iff_getElem] at h
 obtain ⟨hi, h1, h2⟩ := h
 refine ⟨?_, fun hm => ?_, hi⟩
 ·conv => lhs; rw [← List.take_append_drop i l, List.drop_eq_getElem_cons hi]
  simp at h1
  rw [h1]
 ·obtain ⟨k, hk, e⟩ := List.getElem_of_mem hm
  have hk' : k < i := by simp at hk; omega
  have := h2 k hk'
  rw [List.getElem_take] at e
  simp [e] at this
def IsRat (l : List UInt8) : Prop := ∃ q : Rat, l = rtx q
theorem rtx_int (m : Int) : rtx (m : Rat) = itoa m := by
 unfold rtx
 rw [if_pos (by simp)]
 simp
theorem spI_rtx (q : Rat) : spI (rtx q) = if q.den = 1 then none else some (itoa q.num).length := by
 unfold rtx
 split
 ·exact spI_none (no47 _)
 ·exact spI_some (no47 _)
theorem spN_rtx (q : Rat) : spN (rtx q) = itoa q.num := by
 unfold spN
 rw [spI_rtx]
 by_cases h : q.den = 1
 ·rw [if_pos h]; simp only [rtx, if_pos h]
 ·rw [if_neg h]; simp only [rtx, if_neg h]; simp
theorem spD_rtx (q : Rat) : spD (rtx q) = itoa (q.den : Int) := by
 unfold spD
 rw [spI_rtx, itoa_nat]
 by_cases h : q.den = 1
 ·rw [if_pos h, h]; rw [decDigits]; rfl
 ·rw [if_neg h]; simp only [rtx, if_neg h]; simp
theorem isRat_mid (m e : Int) : IsRat (itoa m ++ 47 :: itoa e) ↔ 1 < e ∧ Int.gcd m e = 1 := by
 constructor
 ·rintro ⟨q, hq⟩
  unfold rtx at hq
  split at hq
  ·exact absurd (hq ▸ (by simp : (47 : UInt8) ∈ itoa m ++ 47 :: itoa e)) (no47 _)
  ·rename_i h1
   obtain ⟨e1, e2⟩ := split47 (no47 _) (no47 _) hq
   rw [← itoa_nat] at e2
   have hm := itoa_inj e1
   have he := itoa_inj e2
   have := q.den_nz
   subst hm he
   exact ⟨by omega, by have := q.reduced; unfold Nat.Coprime at this; exact this⟩
 ·rintro ⟨h1, h2⟩
  refine ⟨⟨m, e.toNat, by omega, ?_⟩, ?_⟩
  ·unfold Nat.Coprime
   rw [show e.toNat = e.natAbs by omega]; exact h2
  ·unfold rtx
   have hne : ¬ (e.toNat = 1) := by omega
   rw [if_neg hne, ← itoa_nat]
   show _ = itoa m ++ 47 :: itoa ((e.toNat : Nat) : Int)
   rw [Int.toNat_of_nonneg (by omega)]
theorem isRat_num (m : Int) : IsRat (itoa m) := ⟨m, (rtx_int m).symm⟩
theorem isRat_parts {l : List UInt8} (h : IsRat l) : IsNum (spN l) ∧ IsNum (spD l) := by
 obtain ⟨q, rfl⟩ := h
 rw [spN_rtx, spD_rtx]
 exact ⟨isNum_itoa _, isNum_itoa _⟩
open Classical in
noncomputable def chkR (l : List UInt8) : Int := if IsRat l then 0 else 3
theorem chkR_rtx (q : Rat) : chkR (rtx q) = 0 := if_pos ⟨q, rfl⟩
theorem chkR_bad {l : List UInt8} (h : ¬ IsRat l) : chkR l = 3 := if_neg h
def LR (k : Nat) (q : Rat) : Prop := LI k q.num ∧ LI k (q.den : Int)
theorem LR.mono {k l : Nat} {q : Rat} (h : LR k q) (hl : k ≤ l) : LR l q := ⟨h.1.mono hl, h.2.mono hl⟩
theorem divInt_LR {k : Nat} {n d : Int} (hd : d ≠ 0) (hn : LI k n) (hdd : LI k d) : LR k (Rat.divInt n d) := by
 have hg : 0 < d.gcd n := Nat.pos_of_ne_zero fun h => hd (Int.gcd_eq_zero_iff.1 h).1
 constructor
 ·refine hn.le ?_
  rw [Rat.num_divInt]
  have h1 : ((d.gcd n : Nat) : Int) ∣ d.sign * n := Int.dvd_mul_of_dvd_right (Int.gcd_dvd_right ..)
  have h2 := Int.ediv_mul_cancel h1
  generalize d.sign * n / ((d.gcd n : Nat) : Int) = a at h2
  have h3 := congrArg Int.natAbs h2
  rw [Int.natAbs_mul, Int.natAbs_mul, Int.natAbs_natCast, Int.natAbs_sign_of_ne_zero hd, Nat.one_mul] at h3
  rw [← h3]
  exact Nat.le_mul_of_pos_right _ hg
 ·refine hdd.le ?_
  rw [Rat.den_divInt, if_neg hd, Int.natAbs_natCast]
  exact Nat.div_le_self ..
theorem sub_eq (q r : Rat) : q - r = Rat.divInt (q.num * r.den - r.num * q.den) (q.den * r.den) := by
 conv => lhs; rw [← Rat.num_divInt_den q, ← Rat.num_divInt_den r]
 rw [Rat.divInt_sub_divInt _ _ (by have := q.den_nz; omega) (by have := r.den_nz; omega)]
theorem LR.int {k : Nat} {m : Int} (h : LI k m) (hk : 0 < k) : LR k (m : Rat) := by
 constructor
 ·simpa using h
 ·simp; exact .small (by decide) hk
def rsg (q : Rat) : Int := if q.num = 0 then 0 else if q.num < 0 then -1 else 1
def sgn (m : Int) : Int := if m = 0 then 0 else if m < 0 then -1 else 1
theorem sgn_divInt (n d : Int) (hd : 0 < d) : rsg (Rat.divInt n d) = sgn n := by
 unfold rsg sgn
 have hg : 0 < d.gcd n := Nat.pos_of_ne_zero fun h => by have := (Int.gcd_eq_zero_iff.1 h).1; omega
 have h1 : ((d.gcd n : Nat) : Int) ∣ n := Int.gcd_dvd_right ..
 have h2 := Int.ediv_mul_cancel h1
 have hnum : (Rat.divInt n d).num = n / ((d.gcd n : Nat) : Int) := by
  rw [Rat.num_divInt, Int.sign_eq_one_of_pos hd, Int.one_mul]
 rw [hnum]
 generalize n / ((d.gcd n : Nat) : Int) = a at h2
 generalize hG : ((d.gcd n : Nat) : Int) = g at h2
 have hg' : 0 < g := by omega
 rcases Int.lt_trichotomy a 0 with h | h | h
 ·have : n < 0 := by rw [← h2]; exact Int.mul_neg_of_neg_of_pos h hg'
  rw [if_neg (by omega), if_pos h, if_neg (by omega), if_pos this]
 ·subst h
  have : n = 0 := by rw [← h2]; simp
  rw [if_pos rfl, if_pos this]
 ·have : 0 < n := by rw [← h2]; exact Int.mul_pos h hg'
  rw [if_neg (by omega), if_neg (by omega), if_neg (by omega), if_neg (by omega)]
theorem sgn_sub (q r : Rat) : sgn (q.num * r.den - r.num * q.den) = rsg (q - r) := by
 rw [sub_eq, sgn_divInt]
 have := q.den_nz; have := r.den_nz
 exact Int.mul_pos (by omega) (by omega)
end Go.Na
section
end
namespace Go.Proofs.YtgepmbjmaljgoaaGreatDoor.H
open Go Go.Vc Go.Na
def cz (p : Tr) (k : Nat) : Int := match k with | 0 => p.x | 1 => p.y | _ => p.z
def ou (k : Nat) : Nat := match k with | 0 => 1 | _ => 0
def ov (k : Nat) : Nat := match k with | 0 => 2 | 1 => 2 | _ => 1
def plc (k : Nat) (p : Tr) : Pt := ⟨cz p (ou k), cz p (ov k)⟩
structure Pl where
 A : Rat
 B : Rat
 C : Rat
 s : List Nat
deriving Inhabited, DecidableEq
def hgt (k : Nat) (A B C : Rat) (p : Tr) : Rat := (cz p k : Rat) - (A + (B * ((plc k p).x : Rat) + C * ((plc k p).y : Rat)))
def lowB (l : List Tr) (k : Nat) (A B C : Rat) (n : Nat) : Bool := (List.range n).any fun i => decide (hgt k A B C (gt l i) < 0)
def onL (l : List Tr) (k : Nat) (A B C : Rat) (n : Nat) : List Nat := (List.range n).filter fun i => decide (hgt k A B C (gt l i) = 0)
def mkP (l : List Tr) (k : Nat) (A B C : Rat) : Option Pl := if lowB l k A B C l.length = true then none else some ⟨A, B, C, onL l k A B C l.length⟩
def nvP (a b c : Tr) : Tr := tcr (tsub b a) (tsub c a)
def upP (k : Nat) (n : Tr) : Tr := if cz n k < 0 then ⟨-n.x, -n.y, -n.z⟩ else n
def nP (l : List Tr) (k a b c : Nat) : Tr := upP k (nvP (gt l a) (gt l b) (gt l c))
def mP (l : List Tr) (k a b c : Nat) : Int := tdot (nP l k a b c) (gt l a)
def aP (l : List Tr) (k a b c : Nat) : Rat := Rat.divInt (mP l k a b c) (cz (nP l k a b c) k)
def bP (l : List Tr) (k a b c : Nat) : Rat := Rat.divInt (-cz (nP l k a b c) (ou k)) (cz (nP l k a b c) k)
def cP (l : List Tr) (k a b c : Nat) : Rat := Rat.divInt (-cz (nP l k a b c) (ov k)) (cz (nP l k a b c) k)
def thr (l : List Tr) (k a b c : Nat) : Option Pl :=
 if cz (nvP (gt l a) (gt l b) (gt l c)) k = 0 then none else mkP l k (aP l k a b c) (bP l k a b c) (cP l k a b c)
def tripI (i j : Nat) : List (Nat × Nat × Nat) := (List.range j).map fun k => (k, j, i)
def tripJ (i : Nat) (n : Nat) : List (Nat × Nat × Nat) := (List.range n).flatMap fun j => tripI i j
def trip (n : Nat) : List (Nat × Nat × Nat) := (List.range n).flatMap fun i => tripJ i i
def thrT (l : List Tr) (k : Nat) (t : Nat × Nat × Nat) : Option Pl := thr l k t.1 t.2.1 t.2.2
def thrs (l : List Tr) (k : Nat) : List Pl := (trip l.length).filterMap (thrT l k)
theorem tdot_cz (n p : Tr) {k : Nat} (hk : k < 3) : tdot n p = cz n k * cz p k + cz n (ou k) * cz p (ou k) + cz n (ov k) * cz p (ov k) := by
 rcases (by omega : k = 0 ∨ k = 1 ∨ k = 2) with rfl | rfl | rfl <;> simp only [tdot, cz, ou, ov] <;> omega
theorem upP_pos {k : Nat} {n : Tr} (h : cz n k ≠ 0) : 0 < cz (upP k n) k := by
 unfold upP
 split
 ·rename_i h1
  match k with
  |0 => simp only [cz] at *; omega
  |1 => simp only [cz] at *; omega
  |k + 2 => simp only [cz] at *; omega
 ·omega
theorem divInt_cast (a b : Int) : Rat.divInt a b = (a : Rat) / (b : Rat) := by
 rw [Rat.divInt_eq_div]
theorem hgt_eq {l : List Tr} {k a b c : Nat} (hk : k < 3) (hn : cz (nvP (gt l a) (gt l b) (gt l c)) k ≠ 0) (p : Tr) :
  hgt k (aP l k a b c) (bP l k a b c) (cP l k a b c) p = ((tdot (nP l k a b c) p - mP l k a b c : Int) : Rat) / (cz (nP l k a b c) k : Rat) := by
 have hpos : 0 < cz (nP l k a b c) k := upP_pos hn
 have hne : (cz (nP l k a b c) k : Rat) ≠ 0 := by
  have : cz (nP l k a b c) k ≠ 0 := by omega
  simpa using this
 unfold hgt aP bP cP
 rw [divInt_cast, divInt_cast, divInt_cast, tdot_cz _ _ hk]
 simp only [plc, Rat.intCast_neg, Rat.intCast_sub, Rat.intCast_add, Rat.intCast_mul, Rat.div_def]
 have := Rat.mul_inv_cancel _ hne
 generalize (cz (nP l k a b c) k : Rat) = d at *
 generalize d⁻¹ = e at *
 grind
theorem hgt_sgn {l : List Tr} {k a b c : Nat} (hk : k < 3) (hn : cz (nvP (gt l a) (gt l b) (gt l c)) k ≠ 0) (p : Tr) :
  (hgt k (aP l k a b c) (bP l k a b c) (cP l k a b c) p < 0 ↔ tdot (nP l k a b c) p < mP l k a b c) ∧ (hgt k (aP l k a b c) (bP l k a b c) (cP l k a b c) p = 0 ↔ tdot (nP l k a b c) p = mP l k a b c) := by
 have hpos : 0 < cz (nP l k a b c) k := upP_pos hn
 have hq : (0 : Rat) < (cz (nP l k a b c) k : Rat) := by exact_mod_cast hpos
 rw [hgt_eq hk hn]
 generalize (cz (nP l k a b c) k : Rat) = d at *
 constructor
 ·rw [Rat.div_lt_iff hq, Rat.zero_mul]
  constructor
  ·intro h
   have : (tdot (nP l k a b c) p - mP l k a b c : Int) < 0 := by exact_mod_cast h
   omega
  ·intro h
   have : (tdot (nP l k a b c) p - mP l k a b c : Int) < 0 := by omega
   exact_mod_cast this
 ·constructor
  ·intro h
   have h1 : ((tdot (nP l k a b c) p - mP l k a b c : Int) : Rat) = 0 := by
    have := congrArg (· * d) h
    simp only [Rat.div_def, Rat.zero_mul] at this
    rw [Rat.mul_assoc, Rat.mul_comm d⁻¹ d, Rat.mul_inv_cancel d (by grind), Rat.mul_one] at this
    exact this
   have h2 : (tdot (nP l k a b c) p - mP l k a b c : Int) = 0 := by exact_mod_cast h1
   omega
  ·intro h
   rw [h, Int.sub_self]
   simp [Rat.div_def]
def ltP (P Q : Pl) : Prop := P.A < Q.A ∨ P.A = Q.A ∧ (P.B < Q.B ∨ P.B = Q.B ∧ P.C < Q.C)
instance (P Q : Pl) : Decidable (ltP P Q) := by unfold ltP; infer_instance
def eqP (P Q : Pl) : Prop := P.A = Q.A ∧ P.B = Q.B ∧ P.C = Q.C
instance (P Q : Pl) : Decidable (eqP P Q) := by unfold eqP; infer_instance
theorem ltP_irr (P : Pl) : ¬ ltP P P := by unfold ltP; grind
theorem ltP_tr {P Q R : Pl} (h : ltP P Q) (k : ltP Q R) : ltP P R := by unfold ltP at *; grind
theorem ltP_tri (P Q : Pl) : ltP P Q ∨ eqP P Q ∨ ltP Q P := by unfold ltP eqP; grind
def putP (p : Pl) : List Pl → List Pl
 |[] => [p]
 |q :: L => if ltP q p then q :: putP p L else if eqP q p then q :: L else p :: q :: L
def Asc (L : List Pl) : Prop := L.Pairwise ltP
theorem asc_ext : ∀ {L M : List Pl}, Asc L → Asc M → (∀ p, p ∈ L ↔ p ∈ M) → L = M
 |[], [], _, _, _ => rfl
 |[], q :: M, _, _, h => by have := (h q).2 (by simp); cases this
 |p :: L, [], _, _, h => by have := (h p).1 (by simp); cases this
 |p :: L, q :: M, hL, hM, h => by
  obtain ⟨hL1, hL2⟩ := List.pairwise_cons.1 hL
  obtain ⟨hM1, hM2⟩ := List.pairwise_cons.1 hM
  have hpq : p = q := by
   rcases List.mem_cons.1 ((h p).1 (by simp)) with e | e
   ·exact e
   ·rcases List.mem_cons.1 ((h q).2 (by simp)) with e' | e'
    ·exact e'.symm
    ·exact absurd (ltP_tr (hM1 p e) (hL1 q e')) (ltP_irr _)
  subst hpq
  rw [asc_ext hL2 hM2 (fun r => ?_)]
  constructor
  ·intro hr
   rcases List.mem_cons.1 ((h r).1 (by simp [hr])) with e | e
   ·subst e; exact absurd (hL1 r hr) (ltP_irr _)
   ·exact e
  ·intro hr
   rcases List.mem_cons.1 ((h r).2 (by simp [hr])) with e | e
   ·subst e; exact absurd (hM1 r hr) (ltP_irr _)
   ·exact e
theorem put_asc {p : Pl} : ∀ {L : List Pl}, Asc L → Asc (putP p L)
 |[], _ => by simp [putP, Asc]
 |q :: L, h => by
  obtain ⟨h1, h2⟩ := List.pairwise_cons.1 h
  unfold putP
  split
  ·rename_i hq
   refine List.pairwise_cons.2 ⟨fun r hr => ?_, put_asc h2⟩
   have : ∀ L : List Pl, r ∈ putP p L → r = p ∨ r ∈ L := by
    intro L
    induction L with
    |nil => intro h; simp [putP] at h; exact .inl h
    |cons q L ih =>
     intro h
     unfold putP at h
     split at h
     ·rcases List.mem_cons.1 h with e | e
      ·exact .inr (by simp [e])
      ·rcases ih e with e | e
       ·exact .inl e
       ·exact .inr (by simp [e])
     ·split at h
      ·exact .inr h
      ·rcases List.mem_cons.1 h with e | e
       ·exact .inl e
       ·exact .inr e
   rcases this L hr with e | e
   ·subst e; exact hq
   ·exact h1 r e
  ·split
   ·exact h
   ·rename_i hq he
    have hpq : ltP p q := by
     rcases ltP_tri p q with e | e | e
     ·exact e
     ·exact absurd ⟨e.1.symm, e.2.1.symm, e.2.2.symm⟩ he
     ·exact absurd e hq
    refine List.pairwise_cons.2 ⟨fun r hr => ?_, h⟩
    rcases List.mem_cons.1 hr with e | e
    ·subst e; exact hpq
    ·exact ltP_tr hpq (h1 r e)
theorem put_mem {L : List Pl} {p r : Pl} (hu : ∀ q, q = p ∨ q ∈ L → eqP q p → q = p) : r ∈ putP p L ↔ r = p ∨ r ∈ L := by
 induction L with
 |nil => simp [putP]
 |cons q L ih =>
  have ih := ih (fun x hx => hu x (hx.elim .inl (fun h => .inr (by simp [h]))))
  unfold putP
  split
  ·rw [List.mem_cons, ih, List.mem_cons]; grind
  ·split
   ·rename_i he
    have := hu q (.inr (by simp)) he
    subst this
    simp
   ·simp
def sortP (L : List Pl) : List Pl := L.foldl (fun a p => putP p a) []
theorem sortP_ok : ∀ {L a : List Pl}, (∀ p ∈ L ++ a, ∀ q ∈ L ++ a, eqP p q → p = q) → Asc a → Asc (L.foldl (fun a p => putP p a) a) ∧ ∀ r, r ∈ L.foldl (fun a p => putP p a) a ↔ r ∈ L ∨ r ∈ a
 |[], a, _, ha => ⟨ha, fun r => by simp⟩
 |p :: L, a, hu, ha => by
  have hm : ∀ r, r ∈ putP p a ↔ r = p ∨ r ∈ a := fun r => put_mem (fun q hq he => hu q (by rcases hq with e | e <;> simp [e]) p (by simp) he)
  obtain ⟨h1, h2⟩ := sortP_ok (L := L) (a := putP p a) (fun x hx y hy e => hu x (by
   rcases List.mem_append.1 hx with e | e
   ·simp [e]
   ·rcases (hm x).1 e with e | e <;> simp [e]) y (by
   rcases List.mem_append.1 hy with e | e
   ·simp [e]
   ·rcases (hm y).1 e with e | e <;> simp [e]) e) (put_asc ha)
  refine ⟨h1, fun r => ?_⟩
  rw [List.foldl_cons, h2, hm, List.mem_cons]
  grind
def candP (l : List Tr) (k : Nat) : List Pl := sortP (thrs l k)
theorem thr_s {l : List Tr} {k : Nat} {P : Pl} (h : P ∈ thrs l k) : mkP l k P.A P.B P.C = some P := by
 obtain ⟨t, _, ht⟩ := List.mem_filterMap.1 h
 unfold thrT thr at ht
 split at ht
 ·cases ht
 ·have h2 := ht
  unfold mkP at ht
  split at ht
  ·cases ht
  ·cases ht; exact h2
theorem thrs_uniq {l : List Tr} {k : Nat} {P Q : Pl} (hP : P ∈ thrs l k) (hQ : Q ∈ thrs l k) (h : eqP P Q) : P = Q := by
 have h1 := thr_s hP
 have h2 := thr_s hQ
 rw [h.1, h.2.1, h.2.2, h2] at h1
 exact (Option.some.inj h1).symm
theorem cand_ok (l : List Tr) (k : Nat) : Asc (candP l k) ∧ ∀ r, r ∈ candP l k ↔ r ∈ thrs l k := by
 have := sortP_ok (L := thrs l k) (a := []) (by simp only [List.append_nil]; exact fun p hp q hq e => thrs_uniq hp hq e) List.Pairwise.nil
 exact ⟨this.1, fun r => by rw [candP, sortP, this.2]; simp⟩
end Go.Proofs.YtgepmbjmaljgoaaGreatDoor.H
namespace Go.Proofs.YtgepmbjmaljgoaaGreatDoor.H
open Go Go.Vc Go.RowKit
set_option maxHeartbeats 4000000
theorem high_c (p : Tr) : CtrA Tryz.prog 113 [tp p] (vb (rightT p)) := by
 have h1 := wit_c p.x
 have h2 := wit_c p.y
 have h3 := wit_c p.z
 refine ctrA _ Tryz.func113 rfl rfl Tryz.ntmps113 rfl fun w Z => ?_
 refine zU ?_
 (refine wt ?_; repeat' (((first | refine sq_split rfl rfl ?_ ?_ | refine dq_split rfl rfl ?_ ?_) <;> intro hb <;> (try simp only [zA, zB, zG, zC, zD, zN] at hb) <;> (try (exfalso; omega))) <;> refine wt ?_))
 all_goals (refine sq_res1 rfl (.tmp rfl) (congrArg vb ?_); simp [rightT, *])
theorem pall_c (l : List Pt) (hn : l.length ≤ 1000) : CtrA Tryz.prog 165 [.val (.func (.func 104) #[] #[]), pts l] (vi (if l.all rightB then 0 else 2)) := by
 refine ctrA _ Tryz.func165 rfl rfl Tryz.ntmps165 rfl fun w Z => ?_
 refine zU ?_
 refine wt ?_
 refine cq_loop (γ := Nat) (fun k => [(0, .av (.val (.func (.func 104) #[] #[]))), (7, .av (pts l)), (8, .av (vi l.length)), (9, .av (vi k))]) (fun _ => []) (fun k => k ≤ l.length ∧ (l.take k).all rightB = true) (fun k => l.length - k) 0 ⟨Nat.zero_le _, by simp⟩ (ent zS trivial) ?_
 rintro k ⟨hk, hall⟩
 refine wt ?_
 (refine cq_cond rfl ?_ ?_ <;> intro hb <;> (try simp only [zA, zB, zG, zC, zD, zN] at hb) <;> (try (exfalso; omega)))
 ·have hkl : k < l.length := by omega
  have hf := flat_c (gp l k)
  refine wt ?_
  (refine cq_cond rfl ?_ ?_ <;> intro hb <;> (try simp only [zA, zB, zG, zC, zD, zN] at hb) <;> (try (exfalso; omega)))
  ·refine wt ?_
   refine sq_res1 rfl (.tmp rfl) (congrArg vi ?_)
   have : ¬ l.all rightB = true := fun h => by
    have := List.all_eq_true.1 h (gp l k) (gp_mem hkl)
    simp [this] at hb
   simp [this]
  ·refine wt ?_
   exact sq_round (k + 1) ⟨by omega, by rw [take_gp hkl]; simp only [List.all_append, hall, List.all_cons, List.all_nil, Bool.and_true, Bool.true_and]; exact hb⟩ (by omega) (ent zS trivial)
 ·refine wt ?_
  have : k = l.length := by omega
  subst this
  rw [List.take_length] at hall
  exact sq_res1 rfl (.tmp rfl) (congrArg vi (by simp [hall]))
theorem pchecked_c (l : List Pt) : CtrA Tryz.prog 103 [pts l, .val (.func (.func 104) #[] #[])] (vi (chk l)) := by
 refine ctrA _ Tryz.func103 rfl rfl Tryz.ntmps103 rfl fun w Z => ?_
 refine zU ?_
 refine wt ?_
 (refine cq_cond rfl ?_ ?_ <;> intro hb <;> (try simp only [zA, zB, zG, zC, zD, zN] at hb) <;> (try (exfalso; omega)))
 ·refine wt ?_
  exact sq_res1 rfl (.tmp rfl) (by simp [chk]; omega)
 ·have hp := pall_c l zO
  refine wt ?_
  exact sq_res1 rfl (.tmp rfl) (congrArg vi (by simp [chk, show ¬ 64 < l.length by omega]))
theorem pcheck_c (l : List Pt) : CtrA Tryz.prog 49 [pts l] (vi (chk l)) := by
 have h := pchecked_c l
 refine ctrA _ Tryz.func49 rfl rfl Tryz.ntmps49 rfl fun w Z => ?_
 refine zU ?_
 refine wt ?_
 exact zV
theorem sall_c (l : List Tr) (hn : l.length ≤ 1000) : CtrA Tryz.prog 176 [.val (.func (.func 113) #[] #[]), ts l] (vi (if l.all rightT then 0 else 2)) := by
 refine ctrA _ Tryz.func176 rfl rfl Tryz.ntmps176 rfl fun w Z => ?_
 refine zU ?_
 refine wt ?_
 refine cq_loop (γ := Nat) (fun k => [(0, .av (.val (.func (.func 113) #[] #[]))), (7, .av (ts l)), (8, .av (vi l.length)), (9, .av (vi k))]) (fun _ => []) (fun k => k ≤ l.length ∧ (l.take k).all rightT = true) (fun k => l.length - k) 0 ⟨Nat.zero_le _, by simp⟩ (ent zS trivial) ?_
 rintro k ⟨hk, hall⟩
 refine wt ?_
 (refine cq_cond rfl ?_ ?_ <;> intro hb <;> (try simp only [zA, zB, zG, zC, zD, zN] at hb) <;> (try (exfalso; omega)))
 ·have hkl : k < l.length := by omega
  have hf := high_c (gt l k)
  refine wt ?_
  (refine cq_cond rfl ?_ ?_ <;> intro hb <;> (try simp only [zA, zB, zG, zC, zD, zN] at hb) <;> (try (exfalso; omega)))
  ·refine wt ?_
   refine sq_res1 rfl (.tmp rfl) (congrArg vi ?_)
   have : ¬ l.all rightT = true := fun h => by
    have := List.all_eq_true.1 h (gt l k) (gt_mem hkl)
    simp [this] at hb
   simp [this]
  ·refine wt ?_
   exact sq_round (k + 1) ⟨by omega, by rw [gt_take hkl]; simp only [List.all_append, hall, List.all_cons, List.all_nil, Bool.and_true, Bool.true_and]; exact hb⟩ (by omega) (ent zS trivial)
 ·refine wt ?_
  have : k = l.length := by omega
  subst this
  rw [List.take_length] at hall
  exact sq_res1 rfl (.tmp rfl) (congrArg vi (by simp [hall]))
theorem schecked_c (l : List Tr) : CtrA Tryz.prog 112 [ts l, .val (.func (.func 113) #[] #[])] (vi (chkT l)) := by
 refine ctrA _ Tryz.func112 rfl rfl Tryz.ntmps112 rfl fun w Z => ?_
 refine zU ?_
 refine wt ?_
 (refine cq_cond rfl ?_ ?_ <;> intro hb <;> (try simp only [zA, zB, zG, zC, zD, zN] at hb) <;> (try (exfalso; omega)))
 ·refine wt ?_
  exact sq_res1 rfl (.tmp rfl) (by simp [chkT]; omega)
 ·have hp := sall_c l zO
  refine wt ?_
  exact sq_res1 rfl (.tmp rfl) (congrArg vi (by simp [chkT, show ¬ 64 < l.length by omega]))
theorem scheck_c (l : List Tr) : CtrA Tryz.prog 57 [ts l] (vi (chkT l)) := by
 have h := schecked_c l
 refine ctrA _ Tryz.func57 rfl rfl Tryz.ntmps57 rfl fun w Z => ?_
 refine zU ?_
 refine wt ?_
 exact zV
theorem rscheck_c (l : List Tr) (hn : l.length ≤ 1000) : CtrA Tryz.prog 68 [ts l] (vi (chkT l)) := by
 have hC : chkT l = if 64 < l.length then 5 else if l.all rightT then 0 else 2 := rfl
 refine ctrA _ Tryz.func68 rfl rfl Tryz.ntmps68 rfl fun w Z => ?_
 refine zU ?_
 refine wt ?_
 (refine cq_cond rfl ?_ ?_ <;> intro hb <;> (try simp only [zA, zB, zG, zC, zD, zN] at hb) <;> (try (exfalso; omega)))
 ·refine wt ?_
  exact sq_res1 rfl (.tmp rfl) (by rw [hC, if_pos (by omega)])
 rw [if_neg (by omega)] at hC
 refine wt ?_
 refine cq_loop (γ := Nat) (fun k => [(0, .av (ts l)), (3, .av (vi k))]) (fun _ => []) (fun k => k ≤ l.length ∧ (l.take k).all rightT = true) (fun k => l.length - k) 0 ⟨Nat.zero_le _, rfl⟩ (ent zS trivial) ?_
 rintro k ⟨hk, hall⟩
 refine wt ?_
 (refine cq_cond rfl ?_ ?_ <;> intro hb <;> (try simp only [zA, zB, zG, zC, zD, zN] at hb) <;> (try (exfalso; omega)))
 ·have hkl : k < l.length := by omega
  have hr := rights_c (gt l k)
  cases hg : rightT (gt l k) with
  |true =>
   rw [hg] at hr
   refine wt ?_
   exact sq_round (k + 1) ⟨by omega, by rw [gt_take hkl]; simp only [List.all_append, hall, List.all_cons, List.all_nil, Bool.and_true, Bool.true_and]; exact hg⟩ (by omega) (ent zS trivial)
  |false =>
   rw [hg] at hr
   rw [if_neg (fun h => by have := List.all_eq_true.1 h _ (gt_mem hkl); rw [hg] at this; cases this)] at hC
   refine wt ?_
   exact sq_res1 rfl (.tmp rfl) (by rw [hC])
 ·have hkl : k = l.length := by omega
  subst hkl
  rw [List.take_length] at hall
  rw [if_pos hall] at hC
  refine wt ?_
  exact sq_res1 rfl (.tmp rfl) (by rw [hC])
def fewB (l : List Tr) : Bool := decide (l.length ≤ 6) || (decide (64 < l.length) && decide (l.length < 128))
theorem fews_c (l : List Tr) : CtrA Tryz.prog 11 [ts l] (vb (fewB l)) := by
 refine ctrA _ Tryz.func11 rfl rfl Tryz.ntmps11 rfl fun w Z => ?_
 refine zU ?_
 (refine wt ?_; repeat' (((first | refine sq_split rfl rfl ?_ ?_ | refine dq_split rfl rfl ?_ ?_) <;> intro hb <;> (try simp only [zA, zB, zG, zC, zD, zN] at hb) <;> (try (exfalso; omega))) <;> refine wt ?_))
 all_goals (refine sq_res1 rfl (.tmp rfl) (congrArg vb ?_); rw [Bool.eq_iff_iff]; simp [fewB]; omega)
theorem rminus_c (a b : Pt) (h1 : SmP a) (h2 : SmP b) : CtrA Tryz.prog 135 [pp a, pp b] (pp (sub a b)) := by
 simp only [SmP, Sm] at h1 h2
 refine ctrA _ Tryz.func135 rfl rfl Tryz.ntmps135 rfl fun w Z => ?_
 refine zU ?_
 refine wt ?_
 exact sq_res1 rfl (.agg (us := [_, _]) rfl rfl rfl rfl) rfl
theorem trn_bd {a b : Pt} (h1 : BdP a) (h2 : BdP b) : (-2250000000000000000 ≤ a.x * b.y ∧ a.x * b.y ≤ 2250000000000000000) ∧ (-2250000000000000000 ≤ a.y * b.x ∧ a.y * b.x ≤ 2250000000000000000) := ⟨prodB h1.1 h2.2, prodB h1.2 h2.1⟩
theorem rturn_c (a b : Pt) (h1 : BdP a) (h2 : BdP b) : CtrA Tryz.prog 162 [pp a, pp b] (vi (trn a b)) := by
 obtain ⟨⟨m1, n1⟩, ⟨m2, n2⟩⟩ := trn_bd h1 h2
 refine ctrA _ Tryz.func162 rfl rfl Tryz.ntmps162 rfl fun w Z => ?_
 refine zU ?_
 refine wt ?_
 exact zV
theorem rleft_c (a b c : Pt) (h1 : SmP a) (h2 : SmP b) (h3 : SmP c) : CtrA Tryz.prog 100 [pp a, pp b, pp c] (vi (crs a b c)) := by
 have q1 := rminus_c _ _ h2 h1
 have q2 := rminus_c _ _ h3 h1
 have q3 := rturn_c _ _ (sub_bd h2 h1) (sub_bd h3 h1)
 refine ctrA _ Tryz.func100 rfl rfl Tryz.ntmps100 rfl fun w Z => ?_
 refine zU ?_
 refine wt ?_
 exact zV
theorem turn_c (a b : Pt) (h1 : BdP a) (h2 : BdP b) : CtrA Tryz.prog 133 [pp a, pp b] (vi (trn a b)) := by
 obtain ⟨⟨m1, n1⟩, ⟨m2, n2⟩⟩ := trn_bd h1 h2
 refine ctrA _ Tryz.func133 rfl rfl Tryz.ntmps133 rfl fun w Z => ?_
 refine zU ?_
 refine wt ?_
 exact zV
theorem reach_c (a b : Tr) (h1 : BT 100000 a) (h2 : BT 100000 b) : CtrA Tryz.prog 250 [tp a, tp b] (tp (tsub b a)) := by
 obtain ⟨⟨_, _⟩, ⟨_, _⟩, ⟨_, _⟩⟩ := h1
 obtain ⟨⟨_, _⟩, ⟨_, _⟩, ⟨_, _⟩⟩ := h2
 refine ctrA _ Tryz.func250 rfl rfl Tryz.ntmps250 rfl fun w Z => ?_
 refine zU ?_
 refine wt ?_
 exact sq_res1 rfl (.agg (us := [_, _, _]) rfl rfl rfl rfl) rfl
theorem vturn_c (a b : Tr) {A B : Int} (h1 : BT A a) (h2 : BT B b) (hab : A * B ≤ 1000000000000000000) : CtrA Tryz.prog 251 [tp a, tp b] (tp (tcr a b)) := by
 obtain ⟨m1, n1⟩ := bn_mul h1.y h2.z
 obtain ⟨m2, n2⟩ := bn_mul h1.z h2.y
 obtain ⟨m3, n3⟩ := bn_mul h1.z h2.x
 obtain ⟨m4, n4⟩ := bn_mul h1.x h2.z
 obtain ⟨m5, n5⟩ := bn_mul h1.x h2.y
 obtain ⟨m6, n6⟩ := bn_mul h1.y h2.x
 refine ctrA _ Tryz.func251 rfl rfl Tryz.ntmps251 rfl fun w Z => ?_
 refine zU ?_
 refine wt ?_
 exact sq_res1 rfl (.agg (us := [_, _, _]) rfl rfl rfl rfl) rfl
theorem norm_c (a b c : Tr) (h1 : BT 100000 a) (h2 : BT 100000 b) (h3 : BT 100000 c) : CtrA Tryz.prog 204 [tp a, tp b, tp c] (tp (nvP a b c)) := by
 have e1 := reach_c a b h1 h2
 have e2 := reach_c a c h1 h3
 have e3 := vturn_c (tsub b a) (tsub c a) (h2.sub h1) (h3.sub h1) zE
 refine ctrA _ Tryz.func204 rfl rfl Tryz.ntmps204 rfl fun w Z => ?_
 refine zU ?_
 refine wt ?_
 exact sq_res1 rfl (.agg (us := [_, _, _]) rfl rfl rfl rfl) rfl
theorem tq22_3 (a b c : Tr) (w : World) : (Instr.buildSlice 22 3 #[(0, .agg #[.int .i64 a.x, .int .i64 a.y, .int .i64 a.z]), (1, .agg #[.int .i64 b.x, .int .i64 b.y, .int .i64 b.z]), (2, .agg #[.int .i64 c.x, .int .i64 c.y, .int .i64 c.z])]).run Tryz.prog w = .ok (.slice (some ⟨w.heap.size, 0, none⟩) 3 3) (w.alloc (.cells #[.int .i64 a.x, .int .i64 a.y, .int .i64 a.z, .int .i64 b.x, .int .i64 b.y, .int .i64 b.z, .int .i64 c.x, .int .i64 c.y, .int .i64 c.z] 51)) := by kernel_rfl
theorem ts3_row (a b c : Tr) : ∀ (i : Nat), i < 3 → ∀ (j : Nat), j < 3 → ∃ u, ([Value.int .i64 a.x, .int .i64 a.y, .int .i64 a.z, .int .i64 b.x, .int .i64 b.y, .int .i64 b.z, .int .i64 c.x, .int .i64 c.y, .int .i64 c.z])[i * 3 + j]? = some u ∧ (match j with | 0 => AV.val (.int .i64 (gt [a, b, c] i).x) | 1 => .val (.int .i64 (gt [a, b, c] i).y) | _+2 => .val (.int .i64 (gt [a, b, c] i).z)) = AV.val u := by
 intro i hi j hj
 match i, hi, j, hj with
 |0, _, 0, _ => exact ⟨_, rfl, rfl⟩
 |0, _, 1, _ => exact ⟨_, rfl, rfl⟩
 |0, _, 2, _ => exact ⟨_, rfl, rfl⟩
 |1, _, 0, _ => exact ⟨_, rfl, rfl⟩
 |1, _, 1, _ => exact ⟨_, rfl, rfl⟩
 |1, _, 2, _ => exact ⟨_, rfl, rfl⟩
 |2, _, 0, _ => exact ⟨_, rfl, rfl⟩
 |2, _, 1, _ => exact ⟨_, rfl, rfl⟩
 |2, _, 2, _ => exact ⟨_, rfl, rfl⟩
theorem bt_right {a : Tr} (h : BT 100000 a) : rightT a = true := by
 obtain ⟨⟨_, _⟩, ⟨_, _⟩, ⟨_, _⟩⟩ := h
 simp [rightT, inB]; omega
theorem normal_c (a b c : Tr) (h1 : BT 100000 a) (h2 : BT 100000 b) (h3 : BT 100000 c) : CtrA Tryz.prog 156 [tp a, tp b, tp c] (tupOf [tp (nvP a b c), vi 0]) := by
 have q := sall_c [a, b, c] (by simp)
 rw [if_pos (by simp [bt_right h1, bt_right h2, bt_right h3])] at q
 have q2 := norm_c a b c h1 h2 h3
 refine ctrA _ Tryz.func156 rfl rfl Tryz.ntmps156 rfl fun w Z => ?_
 refine zU ?_
 refine wt ?_
 refine sq_g (g_bslice (row := tf [a, b, c]) (is := [0, 1, 2]) (xs := [_, _, _]) (vs := [_, _, _]) (us := [_, _, _, _, _, _, _, _, _]) (tq22_3 a b c) rfl rfl rfl (ts3_row a b c)) rfl ?_
 refine wt ?_
 exact sq_resN (rvs := [_, _]) (τs := [_, _]) rfl rfl ⟨.agg (us := [_, _, _]) rfl rfl rfl rfl, .tmp rfl, trivial⟩ rfl
def ixB (p : Nat → Bool) (n : Nat) : Int := match (List.range n).find? p with | some k => k | none => -1
theorem ixB_hit {p : Nat → Bool} {n k : Nat} (hk : k < n) (hall : ∀ j, j < k → p j = false) (hp : p k = true) : ixB p n = k := by
 have : (List.range n).find? p = some k := by
  rw [List.find?_range_eq_some]
  exact ⟨hp, by simpa using hk, fun j hj => by simp [hall j hj]⟩
 unfold ixB; rw [this]
theorem ixB_no {p : Nat → Bool} {n : Nat} (hall : ∀ j, j < n → p j = false) : ixB p n = -1 := by
 have : (List.range n).find? p = none := by
  rw [List.find?_eq_none]
  intro x hx
  simp [hall x (List.mem_range.1 hx)]
 unfold ixB; rw [this]
theorem flt_step {p : Nat → Bool} {n : Nat} (h : ∀ k, k < n → p k = false) (hn : p n = false) : ∀ k, k < n + 1 → p k = false := fun k hk => by
 by_cases e : k = n
 ·subst e; exact hn
 ·exact h k zO
abbrev lp (l : List Pt) : AV := .ptr 1 (fun _ => pts l)
abbrev ccl (l : List Pt) : AV := .clo 131 1 (fun i => [lp l].getD i .any)
theorem ne0_c (l : List Pt) (p : Pt) (h : 0 < l.length) : CtrA Tryz.prog 131 [pp p, lp l] (vb (decide (p ≠ gp l 0))) := by
 refine ctrA _ Tryz.func131 rfl rfl Tryz.ntmps131 rfl fun w Z => ?_
 refine zU ?_
 refine wt ?_
 exact sq_res1 rfl (.tmp rfl) (congrArg vb (by rw [pt_beq]; simp))
theorem ixf_c (l : List Pt) (hn : l.length ≤ 1000) : CtrA Tryz.prog 130 [pts l, ccl l] (vi (ixB (fun k => decide (gp l k ≠ gp l 0)) l.length)) := by
 refine ctrA _ Tryz.func130 rfl rfl Tryz.ntmps130 rfl fun w Z => ?_
 refine zU ?_
 refine wt ?_
 refine cq_loop (γ := Nat) (fun k => [(0, .av (pts l)), (1, .av (ccl l)), (6, .av (pts l)), (7, .av (vi l.length)), (8, .av (vi k))]) (fun _ => []) (fun k => k ≤ l.length ∧ ∀ j, j < k → decide (gp l j ≠ gp l 0) = false) (fun k => l.length - k) 0 ⟨Nat.zero_le _, by omega⟩ (ent zS trivial) ?_
 rintro k ⟨hk, hall⟩
 refine wt ?_
 (refine cq_cond rfl ?_ ?_ <;> intro hb <;> (try simp only [zA, zB, zG, zC, zD, zN] at hb) <;> (try (exfalso; omega)))
 ·have hkl : k < l.length := by omega
  have hgk := ne0_c l (gp l k) zO
  refine wt ?_
  refine cq_cond rfl (fun hb => ?_) (fun hb => ?_)
  ·have e1 := ixB_hit (p := fun k => decide (gp l k ≠ gp l 0)) hkl hall hb
   refine wt ?_
   exact sq_res1 rfl (.tmp rfl) (by rw [e1])
  ·refine wt ?_
   exact sq_round (k + 1) ⟨by omega, flt_step (p := fun k => decide (gp l k ≠ gp l 0)) hall hb⟩ zO (ent zS trivial)
 ·have hkl : k = l.length := by omega
  subst hkl
  have e1 := ixB_no (p := fun k => decide (gp l k ≠ gp l 0)) hall
  refine wt ?_
  exact sq_res1 rfl (.tmp rfl) (by rw [e1])
def collB (l : List Pt) : Bool := match (List.range l.length).find? (fun k => decide (gp l k ≠ gp l 0)) with
 |none => true
 |some k => (List.range l.length).all fun i => decide (trn (sub (gp l k) (gp l 0)) (sub (gp l i) (gp l 0)) = 0)
def collE (l : List Pt) : Bool := if chk l = 0 then collB l else false
theorem chk_sm {l : List Pt} (h : chk l = 0) : (∀ i, SmP (gp l i)) ∧ l.length ≤ 64 := by
 unfold chk at h
 split at h
 ·omega
 ·split at h
  ·rename_i h1 h2
   refine ⟨all_gp (q := SmP) (fun p hp => ?_) SmP_d, by omega⟩
   have := List.all_eq_true.1 h2 p hp
   simp [rightB, inB] at this
   simp only [SmP, Sm]; omega
  ·omega
theorem coll_c (l : List Pt) : CtrA Tryz.prog 67 [pts l] (tupOf [vb (collE l), vi (chk l)]) := by
 have q := pcheck_c l
 have hC : collE l = if chk l = 0 then collB l else false := rfl
 refine ctrA _ Tryz.func67 rfl rfl Tryz.ntmps67 rfl fun w Z => ?_
 refine zU ?_
 refine wt ?_
 (refine cq_cond rfl ?_ ?_ <;> intro hb <;> (try simp only [zA, zB, zG, zC, zD, zN] at hb) <;> (try (exfalso; omega)))
 ·rw [if_neg hb] at hC
  refine wt ?_
  exact sq_resN (rvs := [_, _]) (τs := [_, _]) rfl rfl ⟨.tmp rfl, .tmp rfl, trivial⟩ (by rw [hC])
 rw [if_pos hb] at hC
 obtain ⟨sm, h64⟩ := chk_sm hb
 have hx := ixf_c l zO
 cases hf : (List.range l.length).find? (fun k => decide (gp l k ≠ gp l 0)) with
 |none =>
  have e1 : ixB (fun k => decide (gp l k ≠ gp l 0)) l.length = -1 := by unfold ixB; rw [hf]
  rw [e1] at hx
  have e2 : collB l = true := by unfold collB; rw [hf]
  refine wt ?_
  exact sq_resN (rvs := [_, _]) (τs := [_, _]) rfl rfl ⟨.tmp rfl, .tmp rfl, trivial⟩ (by rw [hC, e2, hb])
 |some k =>
  have e1 : ixB (fun k => decide (gp l k ≠ gp l 0)) l.length = k := by unfold ixB; rw [hf]
  rw [e1] at hx
  have hk : k < l.length := List.mem_range.1 (List.mem_of_find?_eq_some hf)
  have e2 : collB l = (List.range l.length).all fun i => decide (trn (sub (gp l k) (gp l 0)) (sub (gp l i) (gp l 0)) = 0) := by unfold collB; rw [hf]
  have ht := to_c (gp l 0) (gp l k) (sm 0) (sm k)
  refine wt ?_
  refine cq_loop (γ := Nat) (fun i => [(1, .av (lp l)), (7, .av (.val (.func (.func 133) #[.agg #[.int .i64 (sub (gp l k) (gp l 0)).x, .int .i64 (sub (gp l k) (gp l 0)).y]] #[]))), (30, .av (pts l)), (31, .av (vi l.length)), (32, .av (vi i))]) (fun _ => []) (fun i => i ≤ l.length ∧ ∀ j, j < i → trn (sub (gp l k) (gp l 0)) (sub (gp l j) (gp l 0)) = 0) (fun i => l.length - i) 0 ⟨Nat.zero_le _, by omega⟩ (ent zS trivial) ?_
  rintro i ⟨hi, hall⟩
  refine wt ?_
  (refine cq_cond rfl ?_ ?_ <;> intro hb <;> (try simp only [zA, zB, zG, zC, zD, zN] at hb) <;> (try (exfalso; omega)))
  ·have hil : i < l.length := by omega
   have ht2 := to_c (gp l 0) (gp l i) (sm 0) (sm i)
   have ht3 := turn_c (sub (gp l k) (gp l 0)) (sub (gp l i) (gp l 0)) (sub_bd (sm k) (sm 0)) (sub_bd (sm i) (sm 0))
   refine wt ?_
   (refine cq_cond rfl ?_ ?_ <;> intro hb <;> (try simp only [zA, zB, zG, zC, zD, zN] at hb) <;> (try (exfalso; omega)))
   ·have e3 : collB l = false := by
     rw [e2, List.all_eq_false]
     exact ⟨i, List.mem_range.2 hil, by simpa using hb⟩
    refine wt ?_
    exact sq_resN (rvs := [_, _]) (τs := [_, _]) rfl rfl ⟨.tmp rfl, .tmp rfl, trivial⟩ (by rw [hC, e3, ‹chk l = 0›])
   ·refine wt ?_
    exact sq_round (i + 1) ⟨by omega, plt_step hall hb⟩ zO (ent zS trivial)
  ·have hil : i = l.length := by omega
   subst hil
   have e3 : collB l = true := by
    rw [e2, List.all_eq_true]
    exact fun j hj => decide_eq_true (hall j (List.mem_range.1 hj))
   refine wt ?_
   exact sq_resN (rvs := [_, _]) (τs := [_, _]) rfl rfl ⟨.tmp rfl, .tmp rfl, trivial⟩ (by rw [hC, e3, ‹chk l = 0›])
end Go.Proofs.YtgepmbjmaljgoaaGreatDoor.H
namespace Go.Proofs.YtgepmbjmaljgoaaGreatDoor.H
open Go Go.Vc Go.RowKit
set_option maxHeartbeats 400000
theorem hless_c (a b : Pt) (h1 : SmP a) (h2 : SmP b) : CtrA Tryz.prog 110 [pp a, pp b] (pp (sub a b)) := by
 refine ctrA _ Tryz.func110 rfl rfl Tryz.ntmps110 rfl fun w Z => ?_
 refine zU ?_
 refine wt ?_
 exact sq_res1 rfl (.agg (us := [_, _]) rfl rfl rfl rfl) rfl
theorem hdot_c (a b : Pt) (h1 : BdP a) (h2 : BdP b) : CtrA Tryz.prog 109 [pp a, pp b] (vi (dot a b)) := by
 refine ctrA _ Tryz.func109 rfl rfl Tryz.ntmps109 rfl fun w Z => ?_
 refine zU ?_
 refine wt ?_
 exact zV
theorem hleft_c (a b c : Pt) (h1 : SmP a) (h2 : SmP b) (h3 : SmP c) : CtrA Tryz.prog 108 [pp a, pp b, pp c] (vi (crs a b c)) := by
 refine ctrA _ Tryz.func108 rfl rfl Tryz.ntmps108 rfl fun w Z => ?_
 have k1 := sub_bd h2 h1
 have k2 := sub_bd h3 h1
 refine zU ?_
 have q1 := hless_c _ _ h2 h1
 have q2 := hless_c _ _ h3 h1
 refine wt ?_
 exact zV
end Go.Proofs.YtgepmbjmaljgoaaGreatDoor.H
namespace Go.Proofs.YtgepmbjmaljgoaaGreatDoor.H
open Go Go.Vc Go.RowKit
set_option maxHeartbeats 4000000
theorem nan_c (n : Int) : CtrA Tryz.prog 260 [vi n] (vb false) := by
 refine ctrA _ Tryz.func260 rfl rfl Tryz.ntmps260 rfl fun w Z => ?_
 refine zU ?_
 refine wt ?_
 exact sq_res1 rfl (.tmp rfl) (congrArg vb (by simp))
theorem ccmp_c (a b : Int) : CtrA Tryz.prog 223 [vi a, vi b] (vi (cmpI a b)) := by
 refine ctrA _ Tryz.func223 rfl rfl Tryz.ntmps223 rfl fun w Z => ?_
 refine zU ?_
 have q1 := nan_c a
 have q2 := nan_c b
 refine wt ?_
 (refine cq_cond rfl ?_ ?_ <;> intro hb <;> (try simp only [zA, zB, zG, zC, zD, zN] at hb) <;> (try (exfalso; omega)))
 ·refine wt ?_
  exact sq_res1 rfl (.tmp rfl) (congrArg vi (by simp [cmpI, hb]))
 ·refine wt ?_
  (refine cq_cond rfl ?_ ?_ <;> intro hb <;> (try simp only [zA, zB, zG, zC, zD, zN] at hb) <;> (try (exfalso; omega)))
  ·refine wt ?_
   exact sq_res1 rfl (.tmp rfl) (congrArg vi (by simp [cmpI, hb]; omega))
  ·refine wt ?_
   exact sq_res1 rfl (.tmp rfl) (congrArg vi (by simp [cmpI]; omega))
def ils (a b : Int) : AV := .sl 2 1 (fun i _ => match i with | 0 => vi a | _ => vi b)
theorem tq27_2 (x0 x1 : Int) (w : World) : (Instr.buildSlice 40 2 #[(0, .int .i64 x0), (1, .int .i64 x1)]).run Tryz.prog w = .ok (.slice (some ⟨w.heap.size, 0, none⟩) 2 2) (w.alloc (.cells #[.int .i64 x0, .int .i64 x1] 3)) := by kernel_rfl
theorem ils_row (a b : Int) : ∀ (i : Nat), i < 2 → ∀ (j : Nat), j < 1 → ∃ u, ([Value.int .i64 a, .int .i64 b])[i * 1 + j]? = some u ∧ (match i with | 0 => vi a | _ => vi b) = AV.val u := by
 intro i hi j hj
 obtain rfl : j = 0 := by omega
 match i, hi with
 |0, _ => exact ⟨_, rfl, rfl⟩
 |1, _ => exact ⟨_, rfl, rfl⟩
theorem or_c (a b : Int) : CtrA Tryz.prog 222 [ils a b] (vi (if a = 0 then b else a)) := by
 refine ctrA _ Tryz.func222 rfl rfl Tryz.ntmps222 rfl fun w Z => ?_
 refine zU ?_
 refine wt ?_
 refine cq_loop (γ := Nat) (fun k => [(3, .av (vi 0)), (6, .av (ils a b)), (7, .av (vi 2)), (8, .av (vi k))]) (fun _ => []) (fun k => k ≤ 2 ∧ (0 < k → a = 0) ∧ (1 < k → b = 0)) (fun k => 2 - k) 0 ⟨by omega, by omega, by omega⟩ (ent zS trivial) ?_
 rintro k ⟨hk, h1, h2⟩
 refine wt ?_
 (refine cq_cond rfl ?_ ?_ <;> intro hb <;> (try simp only [zA, zB, zG, zC, zD, zN] at hb) <;> (try (exfalso; omega)))
 ·match k, hk, h1, h2, hb with
  |0, hk, h1, h2, hb =>
   refine wt ?_
   (refine cq_cond rfl ?_ ?_ <;> intro hb <;> (try simp only [zA, zB, zG, zC, zD, zN] at hb) <;> (try (exfalso; omega)))
   ·refine wt ?_
    exact sq_res1 rfl (.tmp rfl) (congrArg vi (by rw [if_neg hb]))
   ·refine wt ?_
    exact sq_round 1 ⟨by omega, by omega, by omega⟩ zO (ent zS trivial)
  |1, hk, h1, h2, hb =>
   refine wt ?_
   (refine cq_cond rfl ?_ ?_ <;> intro hb <;> (try simp only [zA, zB, zG, zC, zD, zN] at hb) <;> (try (exfalso; omega)))
   ·refine wt ?_
    exact sq_res1 rfl (.tmp rfl) (congrArg vi (by rw [if_pos (h1 (by omega))]))
   ·refine wt ?_
    exact sq_round 2 ⟨by omega, by omega, by omega⟩ zO (ent zS trivial)
  |k + 2, hk, h1, h2, hb => exfalso; omega
 ·refine wt ?_
  exact sq_res1 rfl (.tmp rfl) (congrArg vi (by rw [if_pos (h1 (by omega)), h2 (by omega)]))
theorem ordc_c (l : List Pt) (i k : Nat) (hi : i < l.length) (hk : k < l.length) : CtrA Tryz.prog 221 [vi i, vi k, lp l] (vi (ordC l i k)) := by
 refine ctrA _ Tryz.func221 rfl rfl Tryz.ntmps221 rfl fun w Z => ?_
 have q1 := ccmp_c (gp l i).x (gp l k).x
 have q2 := ccmp_c (gp l i).y (gp l k).y
 have q3 := or_c (cmpI (gp l i).x (gp l k).x) (cmpI (gp l i).y (gp l k).y)
 refine zU ?_
 refine wt ?_
 refine dq_g (g_bslice (is := [0, 1]) (xs := [_, _]) (vs := [_, _]) (us := [_, _]) (tq27_2 _ _) rfl rfl rfl (ils_row _ _)) rfl ?_
 refine wt ?_
 exact zV
theorem xf_swp {v : List Nat} {a b : Nat} (ha : a < v.length) (hb : b < v.length) (hab : a ≠ b) : ∀ i, i < v.length → ∀ j, j < 1 → rowSet (rowSet (xf v) a 0 [vi (gi v b)]) b 0 [vi (gi v a)] i j = xf (swp v a b) i j := by
 intro i hi j hj
 obtain rfl : j = 0 := by omega
 unfold rowSet xf
 rw [gi_swp ha hb]
 by_cases h1 : i = b
 ·simp [h1]
 ·by_cases h2 : i = a
  ·simp [h2, hab]
  ·simp [h1, h2]
abbrev ocl (l : List Pt) : AV := .clo 221 1 (fun i => [lp l].getD i .any)
theorem isort_c (l : List Pt) (v : List Nat) (a b : Nat) (hv : ∀ k, k < v.length → gi v k < l.length) (hab : a ≤ b) (hb' : b ≤ v.length) (hn : v.length ≤ 1000) :
  CtrW Tryz.prog 289 [vi a, vi b, ocl l] 3 1 v.length (xf v) v.length (xf (isortR (fun i k => decide (ordC l i k < 0)) a b v (a + 1))) false := by
 refine ctrW _ Tryz.func289 rfl rfl Tryz.ntmps289 rfl fun w Z v0 => ?_
 refine zU ?_
 refine wt ?_
 refine cq_loop (γ := List Nat × Nat) (fun g => [(0, .osl 0), (1, .av (vi a)), (2, .av (vi b)), (3, .av (ocl l)), (8, .av (vi g.2))]) (fun g => [(0, .row 3 1 g.1.length (xf g.1))])
  (fun g => g.1.length = v.length ∧ (∀ k, k < g.1.length → gi g.1 k < l.length) ∧ isortR (fun i k => decide (ordC l i k < 0)) a b g.1 g.2 = isortR (fun i k => decide (ordC l i k < 0)) a b v (a + 1) ∧ a < g.2 ∧ g.2 ≤ b + 1) (fun g => b + 1 - g.2) (v, a + 1) ⟨rfl, hv, rfl, by simp, by simp; omega⟩ (ent ⟨.refl _, .refl _, .refl _, .refl _, .int (by simp), trivial⟩ zT) ?_
 rintro ⟨u, i⟩ ⟨hl, hu, hS, hai, hib⟩
 simp only at hl hu hS hai hib
 refine wt ?_
 (refine cq_cond rfl ?_ ?_ <;> intro hb <;> (try simp only [zA, zB, zG, zC, zD, zN] at hb) <;> (try (exfalso; omega)))
 ·refine wt ?_
  refine cq_loop (γ := List Nat × Nat) (fun g => [(0, .osl 0), (1, .av (vi a)), (2, .av (vi b)), (3, .av (ocl l)), (8, .av (vi i)), (9, .av (vi g.2))]) (fun g => [(0, .row 3 1 g.1.length (xf g.1))])
   (fun g => g.1.length = v.length ∧ (∀ k, k < g.1.length → gi g.1 k < l.length) ∧ sink (fun i k => decide (ordC l i k < 0)) a g.1 g.2 = sink (fun i k => decide (ordC l i k < 0)) a u i ∧ a ≤ g.2 ∧ g.2 < v.length) (fun g => g.2) (u, i) ⟨hl, hu, rfl, by simp; omega, by simp; omega⟩ (ent zS zT) ?_
  rintro ⟨t, j⟩ ⟨htl, htu, htS, haj, hjn⟩
  simp only at htl htu htS haj hjn
  dsimp only
  match j, htS, haj, hjn with
  |0, htS, haj, hjn =>
   refine wt ?_
   exact sq_round (g := (u, i)) (t, i + 1) ⟨htl, htu, (by rw [← hS, isortR_step (v := u) (i := i) (by omega), ← htS]; rfl : isortR (fun i k => decide (ordC l i k < 0)) a b t (i + 1) = _), by simp; omega, by simp; omega⟩ (by simp; omega) (ent ⟨.refl _, .refl _, .refl _, .refl _, .int (by simp), trivial⟩ zT)
  |j + 1, htS, haj, hjn =>
   have q := ordc_c l (gi t (j + 1)) (gi t j) (htu _ zO) (htu _ zO)
   have e0 : (((j + 1 : Nat) : Int) - 1).toNat = j := by omega
   refine wt ?_
   (first | refine sq_split rfl rfl ?_ ?_ | refine dq_split rfl rfl ?_ ?_) <;> intro hb <;> (try simp only [zA, zB, zG, zC, zD, zN] at hb) <;> (try (exfalso; omega))
   ·have haj' := hb
    refine wt ?_
    rw [e0]
    refine wt ?_
    (refine cq_cond rfl ?_ ?_ <;> intro hb <;> (try simp only [zA, zB, zG, zC, zD, zN] at hb) <;> (try (exfalso; omega)))
    ·refine wt ?_
     try rw [e0]
     refine wt ?_
     have e : sink (fun i k => decide (ordC l i k < 0)) a t (j + 1) = sink (fun i k => decide (ordC l i k < 0)) a (swp t (j + 1) j) j := by
      rw [sink, if_pos (by simp [hb]; omega)]
     exact sq_round (g := (t, j + 1)) (swp t (j + 1) j, j) ⟨by rw [swp_len]; exact htl, swp_all (v := t) (i := j + 1) (j := j) (p := fun x => x < l.length) (by omega) (by omega) htu, (e.symm.trans htS), by simp; omega, by simp; omega⟩ (by simp) (ent ⟨.refl _, .refl _, .refl _, .refl _, .refl _, .int (by simp), trivial⟩ ⟨⟨_, rfl, .row (swp_len _ _ _).symm (xf_swp (by omega) (by omega) (by omega))⟩, trivial⟩)
    ·refine wt ?_
     have e : sink (fun i k => decide (ordC l i k < 0)) a t (j + 1) = t := by
      rw [sink, if_neg (by simp [hb])]
     exact sq_round (g := (u, i)) (t, i + 1) ⟨htl, htu, (by rw [← hS, isortR_step (v := u) (i := i) (by omega), ← htS, e] : isortR (fun i k => decide (ordC l i k < 0)) a b t (i + 1) = _), by simp; omega, by simp; omega⟩ (by simp; omega) (ent ⟨.refl _, .refl _, .refl _, .refl _, .int (by simp), trivial⟩ zT)
   ·have e : sink (fun i k => decide (ordC l i k < 0)) a t (j + 1) = t := by
     rw [sink, if_neg (by simp; omega)]
    refine wt ?_
    exact sq_round (g := (u, i)) (t, i + 1) ⟨htl, htu, (by rw [← hS, isortR_step (v := u) (i := i) (by omega), ← htS, e] : isortR (fun i k => decide (ordC l i k < 0)) a b t (i + 1) = _), by simp; omega, by simp; omega⟩ (by simp; omega) (ent ⟨.refl _, .refl _, .refl _, .refl _, .int (by simp), trivial⟩ zT)
 ·refine wt ?_
  exact sq_retW rfl rfl rfl hl (fun _ _ _ _ => by rw [← hS, isortR_end (by omega)])
end Go.Proofs.YtgepmbjmaljgoaaGreatDoor.H
namespace Go.Proofs.YtgepmbjmaljgoaaGreatDoor.H
open Go.Vc
def cptP (l : List Pt) (v : List Nat) (i : Nat) : Bool := decide (i = 0) || decide (gp l (gi v i) ≠ gp l (gi v (i - 1)))
def cptTo (l : List Pt) (v : List Nat) (m : Nat) : List Nat := ((List.range m).filter (cptP l v)).map (gi v)
def cpt (l : List Pt) (v : List Nat) : List Nat := cptTo l v v.length
def pop (l : List Pt) (i : Nat) : List Nat → List Nat
 |b :: a :: r => if crs (gp l a) (gp l b) (gp l i) ≤ 0 then pop l i (a :: r) else b :: a :: r
 |s => s
def stk (l : List Pt) (v : List Nat) : List Nat := v.foldl (fun st i => i :: pop l i st) []
def chain (l : List Pt) (v : List Nat) : List Nat := (stk l v).tail.reverse
theorem cptTo_succ (l : List Pt) (v : List Nat) (m : Nat) : cptTo l v (m + 1) = if cptP l v m = true then cptTo l v m ++ [gi v m] else cptTo l v m := by
 simp only [cptTo, List.range_succ, List.filter_append, List.map_append]
 split <;> rename_i h <;> simp [List.filter, h]
theorem cptTo_len (l : List Pt) (v : List Nat) (m : Nat) : (cptTo l v m).length ≤ m := by
 have := List.length_filter_le (cptP l v) (List.range m)
 simpa [cptTo] using this
theorem gi_take (v : List Nat) (m k : Nat) : gi (v.take m) k = if k < m then gi v k else 0 := by
 simp only [gi, List.getD, List.getElem?_take]
 split <;> rfl
theorem cptTo_all (l : List Pt) (v : List Nat) : ∀ (m : Nat), m ≤ v.length → (∀ i, i < m → cptP l v i = true) → cptTo l v m = v.take m
 |0, _, _ => rfl
 |m + 1, hm, h => by
  rw [cptTo_succ, if_pos (h m (by omega)), cptTo_all l v m (by omega) (fun i hi => h i (by omega)), List.take_succ_eq_append_getElem (by omega), gi_eq (by omega)]
theorem gi_rev_top (b : Nat) (r : List Nat) : gi (b :: r).reverse r.length = b := by
 simp [gi, List.getD]
theorem gi_rev_cons (b : Nat) (r : List Nat) {k : Nat} (h : k < r.length) : gi (b :: r).reverse k = gi r.reverse k := by
 simp only [gi, List.getD, List.reverse_cons]
 rw [List.getElem?_append_left (by simpa using h)]
theorem cpt_short {l : List Pt} {v : List Nat} (h : v.length < 2) : cpt l v = v := by
 rw [cpt, cptTo_all l v _ (Nat.le_refl _) (fun i hi => by simp [cptP, show i = 0 by omega]), List.take_length]
def ordN (l : List Pt) : List Nat := if chk l = 0 then ordI l else []
def arr (l : List Pt) : List Nat := if (cpt l (ordN l)).length < 3 then cpt l (ordN l) else chain l (cpt l (ordN l)) ++ chain l (cpt l (ordN l)).reverse
theorem chk_smH {l : List Pt} (h : chk l = 0) : ∀ i, SmP (gp l i) := by
 refine all_gp (q := SmP) (fun p hp => ?_) SmP_d
 unfold chk at h
 split at h
 ·cases h
 ·split at h
  ·rename_i h2
   have := List.all_eq_true.1 h2 p hp
   simp [rightB, inB] at this
   simp only [SmP, Sm]; omega
  ·cases h
theorem pop_len (l : List Pt) (i : Nat) : ∀ (st : List Nat), 0 < st.length → 0 < (pop l i st).length
 |[], h => by simp at h
 |[x], _ => by simp [pop]
 |b :: a :: r, _ => by
  unfold pop
  split
  ·exact pop_len l i (a :: r) (by simp)
  ·simp
theorem stk_len (l : List Pt) (v : List Nat) (h : 1 < v.length) : 1 < (stk l v).length := by
 match v, h with
 |x :: y :: v, _ =>
  have key : ∀ (v : List Nat) (st : List Nat), 1 < st.length → 1 < (v.foldl (fun st i => i :: pop l i st) st).length := by
   intro v
   induction v with
   |nil => intro st h; exact h
   |cons z v ih => intro st h; exact ih _ (by have := pop_len l z st (by omega); simp; omega)
  unfold stk
  simp only [List.foldl_cons]
  exact key v _ (by have := pop_len l y [x] (by simp); simp [pop])
theorem chain_pos (l : List Pt) (v : List Nat) (h : 1 < v.length) : 0 < (chain l v).length := by
 have := stk_len l v h
 simp [chain]; omega
theorem isortR_all {lt : Nat → Nat → Bool} {a b : Nat} {p : Nat → Prop} : ∀ (m : Nat) {v : List Nat} {i : Nat}, b - i = m → b ≤ v.length → (∀ k, k < v.length → p (gi v k)) → ∀ k, k < (isortR lt a b v i).length → p (gi (isortR lt a b v i) k)
 |0, v, i, hm, hb, h => by rw [isortR_end (by omega)]; exact h
 |m + 1, v, i, hm, hb, h => by
  rw [isortR_step (by omega)]
  exact isortR_all m (by omega) (by rw [sink_len]; omega) (sink_all (by omega) h)
theorem ordN_lt (l : List Pt) : ∀ k, k < (ordN l).length → gi (ordN l) k < l.length := by
 unfold ordN
 split
 ·exact isortR_all (p := fun x => x < l.length) _ rfl (by simp) (fun k hk => by simp at hk; rw [gi_range hk]; exact hk)
 ·intro k hk; simp at hk
theorem ordN_len (l : List Pt) : (ordN l).length ≤ l.length := by
 unfold ordN; split
 ·simp [ordI, isortR_len]
 ·simp
theorem cpt_p {l : List Pt} {v : List Nat} {p : Nat → Prop} (h : ∀ k, k < v.length → p (gi v k)) : ∀ m, m ≤ v.length → ∀ k, k < (cptTo l v m).length → p (gi (cptTo l v m) k)
 |0, _ => fun k hk => by simp [cptTo] at hk
 |m + 1, hm => by
  rw [cptTo_succ]
  split
  ·exact app_all (p := p) (cpt_p h m zO) (h m zO)
  ·exact cpt_p h m zO
theorem rev_p {v : List Nat} {p : Nat → Prop} (h : ∀ k, k < v.length → p (gi v k)) : ∀ k, k < v.reverse.length → p (gi v.reverse k) := by
 intro k hk
 simp at hk
 have h2 : v.length - 1 - k < v.length := by omega
 have e : gi v.reverse k = gi v (v.length - 1 - k) := by simp [gi, List.getD, hk, h2]
 rw [e]; exact h _ h2
theorem pop_le (l : List Pt) (i : Nat) : ∀ (st : List Nat), (pop l i st).length ≤ st.length
 |[] => by simp [pop]
 |[x] => by simp [pop]
 |b :: a :: r => by
  unfold pop
  split
  ·have := pop_le l i (a :: r); simp at this ⊢; omega
  ·simp
theorem stk_le (l : List Pt) (v : List Nat) : (stk l v).length ≤ v.length := by
 have key : ∀ (v : List Nat) (st : List Nat), (v.foldl (fun st i => i :: pop l i st) st).length ≤ st.length + v.length := by
  intro v
  induction v with
  |nil => intro st; simp
  |cons z v ih => intro st; have := ih (z :: pop l z st); have := pop_le l z st; simp at *; omega
 have := key v []
 simpa [stk] using this
theorem chain_le (l : List Pt) (v : List Nat) : (chain l v).length ≤ v.length := by
 have := stk_le l v
 simp [chain]; omega
end Go.Proofs.YtgepmbjmaljgoaaGreatDoor.H
namespace Go.Proofs.YtgepmbjmaljgoaaGreatDoor.H
open Go Go.Vc Go.RowKit
set_option maxHeartbeats 4000000
theorem stable_c (l : List Pt) (v : List Nat) (hv : ∀ k, k < v.length → gi v k < l.length) (hn : v.length ≤ 19) :
  CtrW Tryz.prog 259 [vi v.length, ocl l] 3 1 v.length (xf v) v.length (xf (isortR (fun i k => decide (ordC l i k < 0)) 0 v.length v 1)) false := by
 refine ctrW _ Tryz.func259 rfl rfl Tryz.ntmps259 rfl fun w Z v0 => ?_
 refine zU ?_
 refine wt ?_
 refine cq_loop (γ := Unit) (fun _ => [(0, .osl 0), (1, .av (vi v.length)), (2, .av (ocl l)), (6, .av (vi 20)), (7, .av (vi 0)), (8, .av (vi 20))]) (fun _ => [(0, .row 3 1 v.length (xf v))]) (fun _ => True) (fun _ => 0) () trivial (ent zS zT) ?_
 intro _ _
 refine wt ?_
 (refine cq_cond rfl ?_ ?_ <;> intro hb <;> (try simp only [zA, zB, zG, zC, zD, zN] at hb) <;> (try (exfalso; omega)))
 have hI := isort_c l v 0 v.length hv zO zO zO
 refine wt ?_
 refine sq_v (v_call_w hI rfl rfl rfl) rfl ?_
 refine wt ?_
 refine cq_loop (γ := Unit) (fun _ => [(0, .osl 0), (1, .av (vi v.length)), (6, .av (vi 20))]) (fun _ => [(0, .row 3 1 v.length (xf (isortR (fun i k => decide (ordC l i k < 0)) 0 v.length v 1)))]) (fun _ => True) (fun _ => 0) () trivial (ent zS zT) ?_
 intro _ _
 refine wt ?_
 (refine cq_cond rfl ?_ ?_ <;> intro hb <;> (try simp only [zA, zB, zG, zC, zD, zN] at hb) <;> (try (exfalso; omega)))
 refine wt ?_
 exact sq_retW rfl rfl rfl rfl (fun _ _ _ _ => rfl)
theorem sortStable_c (l : List Pt) (v : List Nat) (hv : ∀ k, k < v.length → gi v k < l.length) (hn : v.length ≤ 19) :
  CtrW Tryz.prog 220 [ocl l] 3 1 v.length (xf v) v.length (xf (isortR (fun i k => decide (ordC l i k < 0)) 0 v.length v 1)) false := by
 refine ctrW _ Tryz.func220 rfl rfl Tryz.ntmps220 rfl fun w Z v0 => ?_
 refine zU ?_
 refine wt ?_
 refine sq_v (v_call_w (stable_c l v hv hn) rfl rfl rfl) rfl ?_
 refine wt ?_
 exact sq_retW rfl rfl rfl rfl (fun _ _ _ _ => rfl)
theorem upTo_zero {n i j : Nat} (hi : i < n) (hj : j < 1) : AV.val ([Value.int .i64 0].getD j undef) = xf (upTo n 0) i j := by
 obtain rfl : j = 0 := by omega
 simp [xf, gi_upTo hi]
theorem zi3 : ∃ inf z, Tryz.prog.info? 3 = some inf ∧ inf.zero = some z ∧ inf.size = 1 ∧ inf.bytes = 8 ∧ z.cells = [Value.int .i64 0].toArray ∧ 0 < 1 :=
 ⟨(Tryz.prog.info? 3).getD default, ((Tryz.prog.info? 3).getD default).zero.getD undef, by kernel_rfl, by kernel_rfl, by kernel_rfl, by kernel_rfl, by kernel_rfl, by decide⟩
theorem order_c (l : List Pt) (hn : l.length ≤ 19) : CtrR Tryz.prog 167 [pts l] 3 1 (ordN l).length (xf (ordN l)) [vi (chk l)] := by
 refine ctrR _ Tryz.func167 rfl rfl Tryz.ntmps167 rfl fun w Z => ?_
 refine zU ?_
 have hpc := pcheck_c l
 refine wt ?_
 (refine cq_cond rfl ?_ ?_ <;> intro hb <;> (try simp only [zA, zB, zG, zC, zD, zN] at hb) <;> (try (exfalso; omega)))
 ·refine wt ?_
  exact sq_retRN_nil rfl rfl (by simp [ordN, hb]) (τs := [vi (chk l)]) ⟨.tmp rfl, trivial⟩ rfl
 ·have hb' : chk l = 0 := hb
  refine wt ?_
  refine sq_v (v_make 0 (n := l.length) (q := .i64) (q' := .i64) (zs := [.int .i64 0]) rfl zi3 rfl rfl rfl rfl (by simp only [maxLen]; omega) (by omega)) rfl ?_
  refine wt ?_
  refine cq_loop (γ := Nat) (fun k => [(1, .av (lp l)), (5, .osl 0), (16, .av (vi l.length)), (17, .av (vi k))]) (fun k => [(0, .row 3 1 l.length (xf (upTo l.length k)))]) (fun k => k ≤ l.length) (fun k => l.length - k) 0 zO (ent zS ⟨⟨_, rfl, .row rfl (fun i hi j hj => upTo_zero hi hj)⟩, trivial⟩) ?_
  intro k hk
  refine wt ?_
  (refine cq_cond rfl ?_ ?_ <;> intro hb <;> (try simp only [zA, zB, zG, zC, zD, zN] at hb) <;> (try (exfalso; omega)))
  ·refine wt ?_
   exact sq_round (k + 1) zO zO (ent zS ⟨⟨_, rfl, .row rfl (fun i hi j hj => by
    obtain rfl : j = 0 := by omega
    simp only [rowSet, xf, gi_upTo hi]
    by_cases h1 : i = k
    ·simp [h1]
    ·simp [h1, show (i < k + 1) = (i < k) from by apply propext; omega])⟩, trivial⟩)
  ·have hkl : k = l.length := by omega
   subst hkl
   have hs := sortStable_c l (upTo l.length l.length) (fun k hk => by rw [upTo_len] at hk; rw [gi_upTo hk]; split <;> omega) (by rw [upTo_len]; exact hn)
   rw [upTo_len] at hs
   refine wt ?_
   refine sq_v (v_call_w hs rfl rfl rfl) rfl ?_
   refine wt ?_
   exact sq_retRN rfl rfl rfl (by simp [ordN, show chk l = 0 from hb', ordI, isortR_len]) (fun _ _ _ _ => by simp [ordN, show chk l = 0 from hb', ordI, upTo_full]) (τs := [vi (chk l)]) ⟨by rw [hb']; exact .tmp rfl, trivial⟩ rfl
theorem eqc_c (l : List Pt) (i k : Nat) (hi : i < l.length) (hk : k < l.length) : CtrA Tryz.prog 169 [vi i, vi k, lp l] (vb (decide (gp l i = gp l k))) := by
 refine ctrA _ Tryz.func169 rfl rfl Tryz.ntmps169 rfl fun w Z => ?_
 refine zU ?_
 refine wt ?_
 exact sq_res1 rfl (.tmp rfl) (congrArg vb (pt_beq _ _))
theorem hleft_l (l : List Pt) (i j k : Nat) (hl : ∀ i, SmP (gp l i)) : CtrA Tryz.prog 108 [pp (gp l i), pp (gp l j), pp (gp l k)] (vi (crs (gp l i) (gp l j) (gp l k))) := hleft_c _ _ _ (hl _) (hl _) (hl _)
theorem chain_c (l : List Pt) (v : List Nat) (hl : ∀ i, SmP (gp l i)) (hv : ∀ k, k < v.length → gi v k < l.length) (h0 : 0 < v.length) (hn : v.length ≤ 1000) : CtrR Tryz.prog 170 [idx v, lp l] 3 1 (chain l v).length (xf (chain l v)) [] := by
 refine ctrR _ Tryz.func170 rfl rfl Tryz.ntmps170 rfl fun w Z => ?_
 refine zU ?_
 refine wt ?_
 refine cq_loop (γ := List Nat × Nat) (fun g => [(1, .av (lp l)), (4, .osl 0), (7, .av (idx v)), (8, .av (vi v.length)), (9, .av (vi g.2))]) (fun g => [(0, .row 3 1 g.1.reverse.length (xf g.1.reverse))])
  (fun g => g.2 ≤ v.length ∧ g.1 = stk l (v.take g.2) ∧ g.1.length ≤ g.2 ∧ (0 < g.2 → 0 < g.1.length) ∧ ∀ x ∈ g.1, x < l.length) (fun g => v.length - g.2) ([], 0) ⟨Nat.zero_le _, rfl, Nat.zero_le _, by simp, by simp⟩ ((ent_row (dd := 4) 0 3 1 (xf []) rfl rfl).trans (ent zS zT)) ?_
 rintro ⟨st, k⟩ ⟨hk, hst, hlen, hpos, hin⟩
 simp only at hk hst hlen hpos hin
 refine wt ?_
 (refine cq_cond rfl ?_ ?_ <;> intro hb <;> (try simp only [zA, zB, zG, zC, zD, zN] at hb) <;> (try (exfalso; omega)))
 ·have hkv : k < v.length := by omega
  have hx := hv k hkv
  refine wt ?_
  refine cq_loop (γ := List Nat) (fun s => [(1, .av (lp l)), (4, .osl 0), (6, .av (vi (gi v k))), (7, .av (idx v)), (8, .av (vi v.length)), (9, .av (vi k))]) (fun s => [(0, .row 3 1 s.reverse.length (xf s.reverse))])
   (fun s => pop l (gi v k) s = pop l (gi v k) st ∧ s.length ≤ k ∧ ∀ x ∈ s, x < l.length) (fun s => s.length) st ⟨rfl, hlen, hin⟩ (ent zS zT) ?_
  rintro s ⟨hs, hsl, hsin⟩
  have key : ∀ s : List Nat, pop l (gi v k) st = s → s.length ≤ k → (∀ x ∈ s, x < l.length) → (gi v k :: s) = stk l (v.take (k + 1)) ∧ (gi v k :: s).length ≤ k + 1 ∧ (0 < k + 1 → 0 < (gi v k :: s).length) ∧ ∀ x ∈ gi v k :: s, x < l.length := by
   intro s h1 h2 h3
   refine ⟨?_, by simp; omega, by simp, fun x hx' => by simp at hx'; rcases hx' with rfl | hx'; exact hx; exact h3 x hx'⟩
   rw [List.take_succ_eq_append_getElem hkv, stk, List.foldl_append, List.foldl_cons, List.foldl_nil, ← stk, ← hst, ← gi_eq hkv, h1]
  match s, hs, hsl, hsin with
  |[], hs, hsl, hsin =>
   have hL0 : ([] : List Nat).reverse.length = 0 := rfl
   refine wt ?_
   exact sq_round (g := (st, k)) (gi v k :: [], k + 1) ⟨by simp; omega, key [] hs.symm hsl hsin⟩ (by simp; omega) (ent ⟨.refl _, .refl _, .refl _, .refl _, .int (by simp), trivial⟩ zT)
  |[x], hs, hsl, hsin =>
   have hL0 : [x].reverse.length = 1 := rfl
   refine wt ?_
   exact sq_round (g := (st, k)) (gi v k :: [x], k + 1) ⟨by simp; omega, key [x] hs.symm hsl hsin⟩ (by simp; omega) (ent ⟨.refl _, .refl _, .refl _, .refl _, .int (by simp), trivial⟩ zT)
  |b :: a :: r, hs, hsl, hsin =>
   have ha := hsin a (by simp)
   have hb2 := hsin b (by simp)
   have hL : (b :: a :: r).length = r.length + 2 := rfl
   have hrl : (b :: a :: r).reverse.length = r.length + 2 := by simp
   have xa : xf (b :: a :: r).reverse r.length 0 = vi a := by
    simp only [xf]; rw [gi_rev_cons b (a :: r) (by simp), gi_rev_top]
   have xb : xf (b :: a :: r).reverse (r.length + 1) 0 = vi b := by
    simp only [xf]; rw [show r.length + 1 = (a :: r).length from rfl, gi_rev_top]
   have ga : gi (b :: a :: r).reverse ((((b :: a :: r).reverse.length : Nat) : Int) - 2).toNat = a := by
    rw [show ((((b :: a :: r).reverse.length : Nat) : Int) - 2).toNat = r.length by omega]
    have := xa; simp only [xf, AV.val.injEq, Value.int.injEq, true_and] at this; omega
   have gb : gi (b :: a :: r).reverse ((((b :: a :: r).reverse.length : Nat) : Int) - 1).toNat = b := by
    rw [show ((((b :: a :: r).reverse.length : Nat) : Int) - 1).toNat = r.length + 1 by omega]
    have := xb; simp only [xf, AV.val.injEq, Value.int.injEq, true_and] at this; omega
   have hq := hleft_l l a b (gi v k) hl
   refine wt ?_
   (first | refine sq_split rfl rfl ?_ ?_ | refine dq_split rfl rfl ?_ ?_) <;> intro hb <;> (try simp only [zA, zB, zG, zC, zD, zN] at hb) <;> (try (exfalso; omega))
   refine wt ?_
   rw [ga]
   refine wt ?_
   rw [gb]
   refine wt ?_
   (refine cq_cond rfl ?_ ?_ <;> intro hb <;> (try simp only [zA, zB, zG, zC, zD, zN] at hb) <;> (try (exfalso; omega)))
   ·refine wt ?_
    refine sq_round (a :: r) ⟨?_, by simp at hsl ⊢; omega, fun x hx' => hsin x (by simp at hx' ⊢; exact .inr hx')⟩ (by simp) (ent zS ⟨⟨_, rfl, .row (by simp only [List.length_reverse, List.length_cons]; omega) (fun i hi j hj => by simp only [xf]; rw [gi_rev_cons b (a :: r) (by simp only [List.length_cons]; omega)])⟩, trivial⟩)
    rw [← hs, pop, if_pos hb]
   ·refine wt ?_
    refine sq_round (g := (st, k)) (gi v k :: b :: a :: r, k + 1) ⟨by simp; omega, key (b :: a :: r) (by rw [← hs, pop, if_neg hb]) hsl hsin⟩ (by simp; omega) (ent ⟨.refl _, .refl _, .refl _, .refl _, .int (by simp), trivial⟩ ⟨⟨_, rfl, .row (by simp) (fun i hi j hj => by simp)⟩, trivial⟩)
 ·have hkv : k = v.length := by omega
  subst hkv
  rw [List.take_length] at hst
  match st, hst, hpos h0 with
  |x :: r, hst, _ =>
   have hL : (x :: r).reverse.length = r.length + 1 := by simp
   have hL2 : (x :: r).length = r.length + 1 := rfl
   dsimp only
   refine wt ?_
   refine sq_retR rfl rfl rfl ?_ (fun i hi j hj => ?_)
   ·show _ = (stk l v).tail.reverse.length
    rw [← hst]; simp only [List.tail_cons, List.length_reverse] at hL ⊢; omega
   ·show xf _ _ _ = xf (stk l v).tail.reverse _ _
    rw [← hst]; simp only [xf, List.tail_cons]
    rw [gi_rev_cons x r (by omega)]
theorem zv3 (w : World) : (zeroValue 3).run Tryz.prog w = .ok (.int .i64 0) w := by kernel_rfl
abbrev ecl (l : List Pt) : AV := .clo 169 1 (fun i => [lp l].getD i .any)
theorem xf_set {u : List Nat} {k y : Nat} (hk : k < u.length) : ∀ i, i < u.length → ∀ j, j < 1 → rowSet (xf u) k 0 [vi y] i j = xf (u.set k y) i j := by
 intro i hi j hj
 obtain rfl : j = 0 := by omega
 unfold rowSet xf
 rw [gi_set]
 by_cases h : i = k
 ·subst h; simp [hk]
 ·have h' : ¬ k = i := fun e => h e.symm
  simp [h, h']
theorem compact_c (l : List Pt) (v : List Nat) (hv : ∀ k, k < v.length → gi v k < l.length) (hn : v.length ≤ 1000) :
  CtrW Tryz.prog 168 [ecl l] 3 1 v.length (xf v) (cpt l v).length (xf (cpt l v)) true := by
 refine ctrW _ Tryz.func168 rfl rfl Tryz.ntmps168 rfl fun w Z v0 => ?_
 refine zU ?_
 refine wt ?_
 (refine cq_cond rfl ?_ ?_ <;> intro hb <;> (try simp only [zA, zB, zG, zC, zD, zN] at hb) <;> (try (exfalso; omega)))
 ·refine wt ?_
  exact sq_retWb rfl rfl rfl (by rw [cpt_short (by omega)]) (fun _ _ _ _ => by rw [cpt_short (by omega)])
 ·refine wt ?_
  refine cq_loop (γ := Nat) (fun k => [(0, .osl 0), (1, .av (ecl l)), (5, .av (vi k))]) (fun _ => [(0, .row 3 1 v.length (xf v))]) (fun k => 1 ≤ k ∧ k ≤ v.length ∧ ∀ i, i < k → cptP l v i = true) (fun k => v.length - k) 1 ⟨by omega, by omega, fun i hi => by simp [cptP, show i = 0 by omega]⟩ (ent ⟨.refl _, .refl _, .int rfl, trivial⟩ zT) ?_
  rintro k ⟨hk1, hkn, hall⟩
  obtain ⟨k', rfl⟩ : ∃ k', k = k' + 1 := ⟨k - 1, by omega⟩
  refine wt ?_
  (refine cq_cond rfl ?_ ?_ <;> intro hb <;> (try simp only [zA, zB, zG, zC, zD, zN] at hb) <;> (try (exfalso; omega)))
  ·have hq := eqc_c l (gi v (k' + 1)) (gi v k') (hv _ zO) (hv _ zO)
   have e0 : (((k' + 1 : Nat) : Int) - 1).toNat = k' := by omega
   refine wt ?_
   rw [e0]
   refine wt ?_
   (refine cq_cond rfl ?_ ?_ <;> intro hb <;> (try simp only [zA, zB, zG, zC, zD, zN] at hb) <;> (try (exfalso; omega)))
   ·have hK : cptP l v (k' + 1) = false := by simp [cptP, hb]
    have h1 : cptTo l v (k' + 1 + 1) = v.take (k' + 1) := by
     rw [cptTo_succ, hK, if_neg (by simp), cptTo_all l v _ (by omega) hall]
    refine wt ?_
    refine cq_loop (γ := List Nat × Nat) (fun g => [(0, .osl 0), (1, .av (ecl l)), (5, .av (vi (cptTo l v (k' + 1 + g.2)).length)), (6, .osx 0 1 (k' + 1) (v.length - (k' + 1))), (7, .av (vi g.2))]) (fun g => [(0, .row 3 1 v.length (xf g.1))])
     (fun g => 1 ≤ g.2 ∧ g.2 ≤ v.length - (k' + 1) ∧ g.1.length = v.length ∧ (cptTo l v (k' + 1 + g.2)).length ≤ k' + g.2 ∧ (∀ i, i < (cptTo l v (k' + 1 + g.2)).length → gi g.1 i = gi (cptTo l v (k' + 1 + g.2)) i) ∧ ∀ i, k' + g.2 ≤ i → gi g.1 i = gi v i) (fun g => v.length - g.2) (v, 1)
     ⟨by simp, by simp; omega, rfl, by simp only [h1]; simp; omega, fun i hi => by simp only [h1] at hi ⊢; rw [gi_take]; simp at hi; rw [if_pos (by omega)], fun i hi => rfl⟩ (ent ⟨.refl _, .refl _, .int (by simp only [h1]; simp; omega), .refl _, .refl _, trivial⟩ zT) ?_
    rintro ⟨u, m⟩ ⟨hm1, hmn, hul, hcl, hu1, hu2⟩
    simp only at hm1 hmn hul hcl hu1 hu2
    obtain ⟨m', rfl⟩ : ∃ m', m = m' + 1 := ⟨m - 1, by omega⟩
    dsimp only
    refine wt ?_
    (refine cq_cond rfl ?_ ?_ <;> intro hb <;> (try simp only [zA, zB, zG, zC, zD, zN] at hb) <;> (try (exfalso; omega)))
    ·have e1 : gi u (k' + 1 + (m' + 1)) = gi v (k' + 1 + (m' + 1)) := hu2 _ zO
     have e2 : gi u (k' + 1 + m') = gi v (k' + 1 + m') := hu2 _ zO
     have e3 : k' + 1 + (m' + 1) - 1 = k' + 1 + m' := by omega
     have b1 : gi u (k' + 1 + (m' + 1)) < l.length := by rw [e1]; exact hv _ (by omega)
     have b2 : gi u (k' + 1 + m') < l.length := by rw [e2]; exact hv _ (by omega)
     have hS := cptTo_succ l v (k' + 1 + (m' + 1))
     have hq := eqc_c l (gi u (k' + 1 + (m' + 1))) (gi u (k' + 1 + m')) b1 b2
     refine wt ?_
     refine dq_g (g_index_osx (k := m') rfl rfl zO zO) rfl ?_
     refine wt ?_
     (refine cq_cond rfl ?_ ?_ <;> intro hb <;> (try simp only [zA, zB, zG, zC, zD, zN] at hb) <;> (try (exfalso; omega)))
     ·have hP : cptP l v (k' + 1 + (m' + 1)) = true := by
       simp only [cptP, e3]; rw [← e1, ← e2]; simp [hb]
      rw [hP, if_pos rfl] at hS
      refine wt ?_
      refine sq_round (g := (u, m' + 1)) (u.set (cptTo l v (k' + 1 + (m' + 1))).length (gi u (k' + 1 + (m' + 1))), m' + 1 + 1) ⟨by simp, by simp; omega, by simp [hul], ?_, ?_, ?_⟩ (by simp; omega) (ent ⟨.refl _, .refl _, .int (by simp only; rw [show k' + 1 + (m' + 1 + 1) = k' + 1 + (m' + 1) + 1 from by omega, hS]; simp), .refl _, .int (by simp), trivial⟩ ⟨⟨_, rfl, .row rfl (fun i hi j hj => xf_set (by omega) i (by omega) j hj)⟩, trivial⟩)
      ·simp only; rw [show k' + 1 + (m' + 1 + 1) = k' + 1 + (m' + 1) + 1 from by omega, hS]; simp; omega
      ·simp only; rw [show k' + 1 + (m' + 1 + 1) = k' + 1 + (m' + 1) + 1 from by omega, hS]
       intro i hi
       rw [gi_set, gi_app]
       simp only [List.length_append, List.length_singleton] at hi
       by_cases h : i = (cptTo l v (k' + 1 + (m' + 1))).length
       ·rw [if_pos ⟨h.symm, by omega⟩, if_neg (by omega), if_pos h, e1]
       ·rw [if_neg (fun e => h e.1.symm), if_pos (by omega)]; exact hu1 i (by omega)
      ·simp only
       intro i hi
       rw [gi_set, if_neg (fun e => by omega)]
       exact hu2 i zO
     ·have hP : cptP l v (k' + 1 + (m' + 1)) = false := by
       simp only [cptP, e3]; rw [← e1, ← e2]; simp [hb]
      rw [hP, if_neg (by simp)] at hS
      refine wt ?_
      refine sq_round (g := (u, m' + 1)) (u, m' + 1 + 1) ⟨by simp, by simp; omega, hul, ?_, ?_, ?_⟩ (by simp; omega) (ent ⟨.refl _, .refl _, .int (by simp only; rw [show k' + 1 + (m' + 1 + 1) = k' + 1 + (m' + 1) + 1 from by omega, hS]), .refl _, .int (by simp), trivial⟩ zT)
      ·simp only; rw [show k' + 1 + (m' + 1 + 1) = k' + 1 + (m' + 1) + 1 from by omega, hS]; omega
      ·simp only; rw [show k' + 1 + (m' + 1 + 1) = k' + 1 + (m' + 1) + 1 from by omega, hS]; exact hu1
      ·simp only; exact fun i hi => hu2 i (by omega)
    ·have hE : k' + 1 + (m' + 1) = v.length := by omega
     have hcE : cptTo l v (k' + 1 + (m' + 1)) = cpt l v := by rw [hE]; rfl
     refine wt ?_
     refine sq_s (g_clear (lo := (cptTo l v (k' + 1 + (m' + 1))).length) zv3 rfl rfl rfl rfl) ?_
     refine wt ?_
     refine sq_retWb rfl rfl rfl (by rw [hcE]) (fun i hi j hj => ?_)
     obtain rfl : j = 0 := by omega
     simp only [rowClr]
     rw [if_neg (by omega)]
     simp only [xf]
     rw [hu1 i (by omega), hcE]
   ·refine wt ?_
    exact sq_round (k' + 1 + 1) ⟨by omega, by omega, plt_step hall (by simp [cptP, hb])⟩ (by omega) (ent ⟨.refl _, .refl _, .int (by simp), trivial⟩ zT)
  ·refine wt ?_
   have e : cpt l v = v := by rw [cpt, cptTo_all l v _ (Nat.le_refl _) (fun i hi => hall i (by omega)), List.take_length]
   exact sq_retWb rfl rfl rfl (by rw [e]) (fun _ _ _ _ => by rw [e])
theorem gi_rev {v : List Nat} {k : Nat} (h : k < v.length) : gi v.reverse k = gi v (v.length - 1 - k) := by
 have h2 : v.length - 1 - k < v.length := by omega
 simp [gi, List.getD, h, h2]
theorem reverse_c (v : List Nat) (hn : v.length ≤ 1000) (h0 : 0 < v.length) : CtrW Tryz.prog 171 [] 3 1 v.length (xf v) v.length (xf v.reverse) false := by
 refine ctrW _ Tryz.func171 rfl rfl Tryz.ntmps171 rfl fun w Z v0 => ?_
 refine zU ?_
 refine wt ?_
 refine cq_loop (γ := List Nat × Nat) (fun g => [(0, .osl 0), (2, .av (vi g.2)), (3, .av (vi ((v.length : Int) - 1 - g.2)))]) (fun g => [(0, .row 3 1 v.length (xf g.1))])
  (fun g => g.1.length = v.length ∧ 2 * g.2 ≤ v.length ∧ ∀ k, k < v.length → gi g.1 k = if k < g.2 ∨ v.length - 1 - g.2 < k then gi v (v.length - 1 - k) else gi v k) (fun g => v.length - g.2) (v, 0)
  ⟨rfl, by simp, fun k hk => by simp only; rw [if_neg (by omega)]⟩ (ent ⟨.refl _, .refl _, .int (by simp), trivial⟩ zT) ?_
 rintro ⟨u, i⟩ ⟨hul, hi2, hu⟩
 simp only at hul hi2 hu
 dsimp only
 refine wt ?_
 (refine cq_cond rfl ?_ ?_ <;> intro hb <;> (try simp only [zA, zB, zG, zC, zD, zN] at hb) <;> (try (exfalso; omega)))
 ·have e0 : ((v.length : Int) - 1 - (i : Int)).toNat = v.length - 1 - i := by omega
  refine wt ?_
  try rw [e0]
  refine wt ?_
  refine sq_round (g := (u, i)) (swp u i (v.length - 1 - i), i + 1) ⟨by simp [swp_len, hul], by simp; omega, fun k hk => ?_⟩ (by simp; omega) (ent ⟨.refl _, .int (by simp), .int (by simp; omega), trivial⟩ ⟨⟨_, rfl, .row rfl (fun a ha b hb => xf_swp (v := u) (by omega) (by omega) (by omega) a (by omega) b hb)⟩, trivial⟩)
  simp only
  rw [gi_swp (by omega) (by omega)]
  by_cases h1 : k = v.length - 1 - i
  ·rw [if_pos h1, if_pos (by omega), hu i (by omega), if_neg (by omega), h1, show v.length - 1 - (v.length - 1 - i) = i from by omega]
  ·by_cases h2 : k = i
   ·rw [if_neg h1, if_pos h2, if_pos (by omega), hu _ (by omega), if_neg (by omega), h2]
   ·rw [if_neg h1, if_neg h2, hu k hk]
    by_cases h3 : k < i ∨ v.length - 1 - i < k
    ·rw [if_pos h3, if_pos (by omega)]
    ·rw [if_neg h3, if_neg (by omega)]
 ·refine wt ?_
  refine sq_retW rfl rfl rfl rfl (fun a ha b hb => ?_)
  obtain rfl : b = 0 := by omega
  simp only [xf]
  rw [hu a ha, gi_rev ha]
  split
  ·rfl
  ·rw [show v.length - 1 - a = a from by omega]
theorem around_c (l : List Pt) (hn : l.length ≤ 19) : CtrR Tryz.prog 107 [pts l] 3 1 (arr l).length (xf (arr l)) [] := by
 refine ctrR _ Tryz.func107 rfl rfl Tryz.ntmps107 rfl fun w Z => ?_
 refine zU ?_
 refine wt ?_
 refine sq_v (v_call_rowN 0 (order_c l hn) rfl rfl) rfl ?_
 refine wt ?_
 (refine cq_cond rfl ?_ ?_ <;> intro hb <;> (try simp only [zA, zB, zG, zC, zD, zN] at hb) <;> (try (exfalso; omega)))
 ·refine wt ?_
  have e : ordN l = [] := by simp [ordN, hb]
  exact sq_retR_nil rfl rfl (by simp [arr, e, cpt, cptTo])
 ·have hcl : (cpt l (ordN l)).length ≤ (ordN l).length := cptTo_len _ _ _
  have h1 : (cpt l (ordN l)).length ≤ 1000 := by have := ordN_len l; omega
  have b1 : ∀ k, k < (cpt l (ordN l)).length → gi (cpt l (ordN l)) k < l.length := cpt_p (p := fun x => x < l.length) (ordN_lt l) _ (Nat.le_refl _)
  have b2 : ∀ k, k < (cpt l (ordN l)).reverse.length → gi (cpt l (ordN l)).reverse k < l.length := rev_p (p := fun x => x < l.length) b1
  have sm := chk_smH hb
  have h9 : (ordN l).length ≤ 1000 := by have := ordN_len l; omega
  have c2 : 0 < (cpt l (ordN l)).length → CtrR Tryz.prog 170 [.sl (cpt l (ordN l)).length 1 (xf (cpt l (ordN l)).reverse), lp l] 3 1 (chain l (cpt l (ordN l)).reverse).length (xf (chain l (cpt l (ordN l)).reverse)) [] := fun h => by
   have := chain_c l (cpt l (ordN l)).reverse sm b2 (by simpa using h) (by simpa using h1)
   rw [idx_eq, List.length_reverse] at this
   exact this
  refine wt ?_
  refine sq_v (v_call_wb (compact_c l (ordN l) (ordN_lt l) h9) rfl rfl rfl) rfl ?_
  refine wt ?_
  (refine cq_cond rfl ?_ ?_ <;> intro hb <;> (try simp only [zA, zB, zG, zC, zD, zN] at hb) <;> (try (exfalso; omega)))
  ·refine wt ?_
   exact sq_retR rfl rfl rfl (by rw [arr, if_pos (by omega)]) (fun _ _ _ _ => by rw [arr, if_pos (by omega)])
  ·refine wt ?_
   refine sq_v (v_callc_row 1 (τs := [_]) (n := 1) (cf := fun i => [lp l].getD i .any) (chain_c l (cpt l (ordN l)) sm b1 zO h1) rfl rfl (fun _ _ _ _ => ⟨_, rfl⟩)) rfl ?_
   refine wt ?_
   refine sq_v (v_call_w (reverse_c (cpt l (ordN l)) h1 zO) rfl rfl rfl) rfl ?_
   refine wt ?_
   refine sq_v (v_callc_row 2 (τs := [_]) (n := 1) (cf := fun i => [lp l].getD i .any) (c2 zO) rfl rfl (fun _ _ _ _ => ⟨_, rfl⟩)) rfl ?_
   refine wt ?_
   have q1 := chain_le l (cpt l (ordN l))
   have q2 := chain_le l (cpt l (ordN l)).reverse
   rw [List.length_reverse] at q2
   have p2 : 0 < (chain l (cpt l (ordN l)).reverse).length := chain_pos _ _ (by simp; omega)
   refine lsq_more (ent_freeze 2 rfl) ?_
   refine sq_v (v_append (h := xf (chain l (cpt l (ordN l)).reverse)) (m := (chain l (cpt l (ordN l)).reverse).length) rfl rfl rfl (fun _ _ _ _ => rfl) p2 (by simp only [maxLen]; omega) (by omega)) rfl ?_
   refine wt ?_
   have e : arr l = chain l (cpt l (ordN l)) ++ chain l (cpt l (ordN l)).reverse := by rw [arr, if_neg (by omega)]
   rw [e]
   refine sq_retR rfl rfl rfl (by rw [List.length_append]) (fun i hi j hj => ?_)
   simp only [rowApp, xf]
   split
   ·rename_i h; simp [gi, List.getD, List.getElem?_append_left h]
   ·rename_i h; simp [gi, List.getD, List.getElem?_append_right (Nat.le_of_not_lt h)]
end Go.Proofs.YtgepmbjmaljgoaaGreatDoor.H
