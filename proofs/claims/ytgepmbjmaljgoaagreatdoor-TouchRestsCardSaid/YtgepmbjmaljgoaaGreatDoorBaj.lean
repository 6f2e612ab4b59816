/- A part of the proof. -/
import Derived.Lib.AtoiAll
import Derived.Lib.Atoi
import Derived.Test.YtgepmbjmaljgoaaGreatDoorBai
set_option linter.unusedVariables false
set_option linter.unusedSimpArgs false
namespace Go.Proofs.YtgepmbjmaljgoaaGreatDoor.H
open Go Go.Vc Go.RowKit
structure Tr where
 x : Int
 y : Int
 z : Int
deriving DecidableEq, Inhabited
abbrev vi (n : Int) : AV := .val (.int .i64 n)
abbrev vb (b : Bool) : AV := .val (.bool b)
abbrev tp (a : Tr) : AV := .val (.agg #[.int .i64 a.x, .int .i64 a.y, .int .i64 a.z])
def gt (l : List Tr) (i : Nat) : Tr := l.getD i default
def tf (l : List Tr) : Nat → Nat → AV := fun i j => match j with | 0 => .val (.int .i64 (gt l i).x) | 1 => .val (.int .i64 (gt l i).y) | _+2 => .val (.int .i64 (gt l i).z)
def ts (l : List Tr) : AV := .sl l.length 3 (fun i j => match j with | 0 => .val (.int .i64 (gt l i).x) | 1 => .val (.int .i64 (gt l i).y) | _+2 => .val (.int .i64 (gt l i).z))
theorem gt_eq {l : List Tr} {i : Nat} (h : i < l.length) : gt l i = l[i] := by simp [gt, h]
theorem gt_mem {l : List Tr} {i : Nat} (h : i < l.length) : gt l i ∈ l := by rw [gt_eq h]; exact List.getElem_mem h
theorem gt_take {l : List Tr} {k : Nat} (h : k < l.length) : l.take (k + 1) = l.take k ++ [gt l k] := by
 rw [List.take_succ_eq_append_getElem h, gt_eq h]
def tsub (a b : Tr) : Tr := ⟨a.x - b.x, a.y - b.y, a.z - b.z⟩
def tdot (a b : Tr) : Int := a.x * b.x + a.y * b.y + a.z * b.z
def tcr (a b : Tr) : Tr := ⟨a.y * b.z - a.z * b.y, a.z * b.x - a.x * b.z, a.x * b.y - a.y * b.x⟩
def inB (n : Int) : Bool := decide (-100000 ≤ n) && decide (n ≤ 100000)
def rightT (p : Tr) : Bool := inB p.x && inB p.y && inB p.z
def chkT (l : List Tr) : Int := if 64 < l.length then 5 else if l.all rightT then 0 else 2
abbrev Bn (B n : Int) : Prop := -B ≤ n ∧ n ≤ B
structure BT (B : Int) (a : Tr) : Prop where
 x : Bn B a.x
 y : Bn B a.y
 z : Bn B a.z
theorem bn_mul {A B m n : Int} (h1 : Bn A m) (h2 : Bn B n) : Bn (A * B) (m * n) := by
 have hA : 0 ≤ A := by omega
 have hB : 0 ≤ B := by omega
 have h3 : (m * n).natAbs ≤ (A * B).natAbs := by
  rw [Int.natAbs_mul, Int.natAbs_mul]
  exact Nat.mul_le_mul zO zO
 have h4 : 0 ≤ A * B := Int.mul_nonneg hA hB
 omega
theorem bn_le {A B n : Int} (h : Bn A n) (hab : A ≤ B) : Bn B n := by omega
theorem BT.le {A B : Int} {a : Tr} (h : BT A a) (hab : A ≤ B) : BT B a := ⟨bn_le h.x hab, bn_le h.y hab, bn_le h.z hab⟩
theorem BT.sub {A B : Int} {a b : Tr} (h1 : BT A a) (h2 : BT B b) : BT (A + B) (tsub a b) := by
 have := h1.x; have := h1.y; have := h1.z; have := h2.x; have := h2.y; have := h2.z
 refine ⟨?_, ?_, ?_⟩ <;> simp only [tsub, Bn] at * <;> omega
theorem BT.cr {A B : Int} {a b : Tr} (h1 : BT A a) (h2 : BT B b) : BT (2 * (A * B)) (tcr a b) := by
 have a1 := bn_mul h1.y h2.z; have a2 := bn_mul h1.z h2.y; have a3 := bn_mul h1.z h2.x
 have a4 := bn_mul h1.x h2.z; have a5 := bn_mul h1.x h2.y; have a6 := bn_mul h1.y h2.x
 refine ⟨?_, ?_, ?_⟩ <;> simp only [tcr, Bn] at * <;> omega
theorem bn_dot {A B : Int} {a b : Tr} (h1 : BT A a) (h2 : BT B b) : Bn (3 * (A * B)) (tdot a b) := by
 have a1 := bn_mul h1.x h2.x; have a2 := bn_mul h1.y h2.y; have a3 := bn_mul h1.z h2.z
 simp only [tdot, Bn] at *; omega
def RT (l : List Tr) : Prop := ∀ i, BT 100000 (gt l i)
theorem RT.of {l : List Tr} (h : chkT l = 0) : RT l ∧ l.length ≤ 64 := by
 unfold chkT at h
 split at h
 ·omega
 ·split at h
  ·rename_i h1 h2
   refine ⟨fun i => ?_, by omega⟩
   by_cases hi : i < l.length
   ·have := List.all_eq_true.1 h2 _ (gt_mem hi)
    simp only [rightT, inB, Bool.and_eq_true, decide_eq_true_eq] at this
    exact ⟨by omega, by omega, by omega⟩
   ·have e : gt l i = ⟨0, 0, 0⟩ := by unfold gt; rw [List.getD, List.getElem?_eq_none (by omega)]; rfl
    rw [e]
    exact ⟨by decide, by decide, by decide⟩
  ·omega
end Go.Proofs.YtgepmbjmaljgoaaGreatDoor.H
namespace Go.Proofs.YtgepmbjmaljgoaaGreatDoor.H
open Go.Vc
abbrev pp (p : Pt) : AV := pv p.x p.y
theorem gp_eq {l : List Pt} {i : Nat} (h : i < l.length) : gp l i = l[i] := by simp [gp, h]
theorem gp_mem {l : List Pt} {i : Nat} (h : i < l.length) : gp l i ∈ l := by rw [gp_eq h]; exact List.getElem_mem h
theorem gi_eq {l : List Nat} {i : Nat} (h : i < l.length) : gi l i = l[i] := by simp [gi, h]
def sub (a b : Pt) : Pt := ⟨a.x - b.x, a.y - b.y⟩
def dot (a b : Pt) : Int := a.x * b.x + a.y * b.y
def trn (a b : Pt) : Int := a.x * b.y - a.y * b.x
def crs (a b c : Pt) : Int := trn (sub b a) (sub c a)
def sgn (n : Int) : Int := if n < 0 then -1 else if 0 < n then 1 else 0
def bef (a b : Pt) : Bool := decide (a.x < b.x) || (a.x == b.x && decide (a.y < b.y))
def rightB (p : Pt) : Bool := inB p.x && inB p.y
def chk (l : List Pt) : Int := if 64 < l.length then 5 else if l.all rightB then 0 else 2
def btw (p a b : Pt) : Bool := crs a b p == 0 && decide (dot (sub a p) (sub b p) ≤ 0)
def wth (p a b c : Pt) : Bool := crs a b c != 0 && ((decide (0 ≤ sgn (crs a b p)) && decide (0 ≤ sgn (crs b c p)) && decide (0 ≤ sgn (crs c a p))) || (decide (sgn (crs a b p) ≤ 0) && decide (sgn (crs b c p) ≤ 0) && decide (sgn (crs c a p) ≤ 0)))
def inH (l : List Pt) (p : Pt) : Bool := (List.range l.length).any fun i => decide (gp l i = p) || (List.range i).any fun j => btw p (gp l i) (gp l j) || (List.range j).any fun k => wth p (gp l i) (gp l j) (gp l k)
abbrev bp (p : Pt) : AV := .ptr 2 (fun i => .val ([Go.Value.int .i64 p.x, .int .i64 p.y].getD i Go.undef))
def othersOf (l : List Pt) (i k : Nat) : List Pt := (l.take k).filter (fun q => decide (q ≠ gp l i))
def vtx (l : List Pt) (i : Nat) : Bool := !((List.range i).any fun k => decide (gp l k = gp l i)) && !inH (othersOf l i l.length) (gp l i)
abbrev BdP (p : Pt) : Prop := (-1500000000 ≤ p.x ∧ p.x ≤ 1500000000) ∧ (-1500000000 ≤ p.y ∧ p.y ≤ 1500000000)
def cmpI (a b : Int) : Int := if a < b then -1 else if b < a then 1 else 0
def ordC (l : List Pt) (i k : Nat) : Int := if cmpI (gp l i).x (gp l k).x = 0 then cmpI (gp l i).y (gp l k).y else cmpI (gp l i).x (gp l k).x
def swp (v : List Nat) (i j : Nat) : List Nat := (v.set i (gi v j)).set j (gi v i)
def sink (lt : Nat → Nat → Bool) (a : Nat) (v : List Nat) : Nat → List Nat
 |0 => v
 |j + 1 => if decide (a < j + 1) && lt (gi v (j + 1)) (gi v j) then sink lt a (swp v (j + 1) j) j else v
def isortR (lt : Nat → Nat → Bool) (a b : Nat) (v : List Nat) (i : Nat) : List Nat := (List.range' i (b - i)).foldl (fun v i => sink lt a v i) v
def srtTo (l : List Pt) (k : Nat) : List Nat := (List.range k).foldl (fun v i => sink (fun i k => bef (gp l i) (gp l k)) 0 (v ++ [i]) i) []
def ordI (l : List Pt) : List Nat := isortR (fun i k => decide (ordC l i k < 0)) 0 l.length (List.range l.length) 1
def upTo (n k : Nat) : List Nat := (List.range n).map (fun i => if i < k then i else 0)
abbrev Sm (x : Int) : Prop := -300000 ≤ x ∧ x ≤ 300000
abbrev SmP (p : Pt) : Prop := Sm p.x ∧ Sm p.y
theorem pt_beq (a b : Pt) : ([a.x, a.y] == [b.x, b.y]) = decide (a = b) := by
 cases a; cases b; rw [Bool.eq_iff_iff]; simp
theorem take_gp {l : List Pt} {k : Nat} (h : k < l.length) : l.take (k + 1) = l.take k ++ [gp l k] := by
 rw [List.take_succ_eq_append_getElem h, gp_eq h]
theorem all_gp {l : List Pt} {q : Pt → Prop} (h : ∀ p ∈ l, q p) (hd : q default) : ∀ i, q (gp l i) := by
 intro i
 by_cases hi : i < l.length
 ·rw [gp_eq hi]; exact h _ (List.getElem_mem hi)
 ·simp only [gp, List.getD, List.getElem?_eq_none (Nat.le_of_not_lt hi)]; exact hd
theorem SmP_d : SmP default := by constructor <;> decide
theorem prodB {a b : Int} (h : -1500000000 ≤ a ∧ a ≤ 1500000000) (k : -1500000000 ≤ b ∧ b ≤ 1500000000) : -2250000000000000000 ≤ a * b ∧ a * b ≤ 2250000000000000000 := by
 have h1 : (a * b).natAbs ≤ 1500000000 * 1500000000 := by
  rw [Int.natAbs_mul]
  exact Nat.mul_le_mul zO zO
 omega
theorem sub_bd {a b : Pt} (h1 : SmP a) (h2 : SmP b) : BdP (sub a b) := by
 simp only [BdP, sub]; omega
theorem any_false_of {n : Nat} {f : Nat → Bool} (h : ∀ i, i < n → f i = false) : (List.range n).any f = false := by
 rw [List.any_eq_false]; intro i hi; simp [h i (List.mem_range.1 hi)]
theorem any_true_of {n k : Nat} {f : Nat → Bool} (hk : k < n) (h : f k = true) : (List.range n).any f = true :=
 List.any_eq_true.2 ⟨k, List.mem_range.2 hk, h⟩
theorem plt_step {k : Nat} {p : Nat → Prop} (h : ∀ i, i < k → p i) (hk : p k) : ∀ i, i < k + 1 → p i := fun i hi => by
 rcases Nat.lt_or_ge i k with h1 | h1
 ·exact h i h1
 ·have : i = k := by omega
  subst this; exact hk
theorem isortR_step {lt : Nat → Nat → Bool} {a b : Nat} {v : List Nat} {i : Nat} (h : i < b) : isortR lt a b v i = isortR lt a b (sink lt a v i) (i + 1) := by
 unfold isortR
 obtain ⟨n, hn⟩ : ∃ n, b - i = n + 1 := ⟨b - i - 1, by omega⟩
 rw [hn, show b - (i + 1) = n from by omega, List.range'_succ]; rfl
theorem isortR_end {lt : Nat → Nat → Bool} {a b : Nat} {v : List Nat} {i : Nat} (h : b ≤ i) : isortR lt a b v i = v := by
 unfold isortR
 rw [show b - i = 0 from by omega]; rfl
theorem srtTo_succ (l : List Pt) (k : Nat) : srtTo l (k + 1) = sink (fun i k => bef (gp l i) (gp l k)) 0 (srtTo l k ++ [k]) k := by
 simp [srtTo, List.range_succ, List.foldl_append]
theorem swp_len (v : List Nat) (i j : Nat) : (swp v i j).length = v.length := by simp [swp]
theorem gi_set (v : List Nat) (i x k : Nat) : gi (v.set i x) k = if i = k ∧ k < v.length then x else gi v k := by
 simp only [gi, List.getD, List.getElem?_set]
 by_cases h : i = k
 ·subst h
  by_cases h2 : i < v.length
  ·simp [h2]
  ·simp [h2]
 ·simp [h]
theorem gi_swp {v : List Nat} {i j : Nat} (hi : i < v.length) (hj : j < v.length) (k : Nat) : gi (swp v i j) k = if k = j then gi v i else if k = i then gi v j else gi v k := by
 unfold swp
 rw [gi_set, gi_set]
 simp only [List.length_set]
 split <;> split <;> (try split) <;> (try split) <;> first | rfl | (exfalso; omega)
theorem swp_all {v : List Nat} {i j : Nat} {p : Nat → Prop} (hi : i < v.length) (hj : j < v.length) (h : ∀ k, k < v.length → p (gi v k)) : ∀ k, k < (swp v i j).length → p (gi (swp v i j) k) := by
 intro k hk
 rw [swp_len] at hk
 rw [gi_swp hi hj]
 split
 ·exact h i hi
 ·split
  ·exact h j hj
  ·exact h k hk
theorem sink_len (lt : Nat → Nat → Bool) (a : Nat) : ∀ (j : Nat) (v : List Nat), (sink lt a v j).length = v.length
 |0, v => rfl
 |j + 1, v => by
  unfold sink
  split
  ·rw [sink_len lt a j, swp_len]
  ·rfl
theorem sink_all {lt : Nat → Nat → Bool} {a : Nat} {p : Nat → Prop} : ∀ {j : Nat} {v : List Nat}, j < v.length → (∀ k, k < v.length → p (gi v k)) → ∀ k, k < (sink lt a v j).length → p (gi (sink lt a v j) k)
 |0, v, _, h => h
 |j + 1, v, hj, h => by
  unfold sink
  split
  ·exact sink_all (by rw [swp_len]; omega) (swp_all hj (by omega) h)
  ·exact h
theorem srtTo_len (l : List Pt) (k : Nat) : (srtTo l k).length = k := by
 induction k with
 |zero => rfl
 |succ k ih => rw [srtTo_succ, sink_len]; simp [ih]
theorem gi_app (v : List Nat) (x k : Nat) : gi (v ++ [x]) k = if k < v.length then gi v k else if k = v.length then x else 0 := by
 simp only [gi, getD_app]
theorem app_all {v : List Nat} {x : Nat} {p : Nat → Prop} (h : ∀ k, k < v.length → p (gi v k)) (hx : p x) : ∀ k, k < (v ++ [x]).length → p (gi (v ++ [x]) k) := by
 intro k hk
 rw [gi_app]
 split
 ·exact h k (by assumption)
 ·rw [if_pos (by simp at hk; omega)]; exact hx
theorem isortR_len (lt : Nat → Nat → Bool) (a b : Nat) (v : List Nat) (i : Nat) : (isortR lt a b v i).length = v.length := by
 unfold isortR
 generalize List.range' i (b - i) = xs
 induction xs generalizing v with
 |nil => rfl
 |cons x xs ih => rw [List.foldl_cons, ih, sink_len]
theorem upTo_len (n k : Nat) : (upTo n k).length = n := by simp [upTo]
theorem gi_upTo {n k i : Nat} (h : i < n) : gi (upTo n k) i = if i < k then i else 0 := by
 simp [gi, upTo, List.getD, h]
theorem upTo_full (n : Nat) : upTo n n = List.range n := by
 refine List.ext_getElem (by simp [upTo]) fun i h1 h2 => ?_
 simp [upTo] at h1 ⊢
 intro h; omega
theorem gi_range {n i : Nat} (h : i < n) : gi (List.range n) i = i := by simp [gi, List.getD, h]
end Go.Proofs.YtgepmbjmaljgoaaGreatDoor.H
namespace Go.Proofs.YtgepmbjmaljgoaaGreatDoor.H
open Go Go.Vc Go.RowKit
set_option maxHeartbeats 4000000
theorem win_c (n : Int) : CtrA Tryz.prog 72 [vi n] (vb (inB n)) := by
 refine ctrA _ Tryz.func72 rfl rfl Tryz.ntmps72 rfl fun w Z => ?_
 refine zU ?_
 refine wt ?_
 (first | refine sq_split rfl rfl ?_ ?_ | refine dq_split rfl rfl ?_ ?_) <;> intro hb <;> (try simp only [zA, zB, zG, zC, zD, zN] at hb) <;> (try (exfalso; omega))
 ·refine wt ?_
  exact sq_res1 rfl (.tmp rfl) (congrArg vb (by unfold inB; rw [decide_eq_true (by assumption : -100000 ≤ n), Bool.true_and]))
 ·refine wt ?_
  exact sq_res1 rfl (.tmp rfl) (congrArg vb (by unfold inB; rw [decide_eq_false (by assumption : ¬ -100000 ≤ n), Bool.false_and]))
theorem wit_c (n : Int) : CtrA Tryz.prog 166 [vi n] (vb (inB n)) := by
 refine ctrA _ Tryz.func166 rfl rfl Tryz.ntmps166 rfl fun w Z => ?_
 refine zU ?_
 refine wt ?_
 (first | refine sq_split rfl rfl ?_ ?_ | refine dq_split rfl rfl ?_ ?_) <;> intro hb <;> (try simp only [zA, zB, zG, zC, zD, zN] at hb) <;> (try (exfalso; omega))
 ·refine wt ?_
  exact sq_res1 rfl (.tmp rfl) (congrArg vb (by unfold inB; rw [decide_eq_true (by assumption : -100000 ≤ n), Bool.true_and]))
 ·refine wt ?_
  exact sq_res1 rfl (.tmp rfl) (congrArg vb (by unfold inB; rw [decide_eq_false (by assumption : ¬ -100000 ≤ n), Bool.false_and]))
theorem rright_c (p : Pt) : CtrA Tryz.prog 29 [pp p] (vb (rightB p)) := by
 have h1 := win_c p.x
 have h2 := win_c p.y
 refine ctrA _ Tryz.func29 rfl rfl Tryz.ntmps29 rfl fun w Z => ?_
 refine zU ?_
 (refine wt ?_; repeat' (((first | refine sq_split rfl rfl ?_ ?_ | refine dq_split rfl rfl ?_ ?_) <;> intro hb <;> (try simp only [zA, zB, zG, zC, zD, zN] at hb) <;> (try (exfalso; omega))) <;> refine wt ?_))
 all_goals (refine sq_res1 rfl (.tmp rfl) (congrArg vb ?_); simp [rightB, rightT, *])
theorem rights_c (p : Tr) : CtrA Tryz.prog 60 [tp p] (vb (rightT p)) := by
 have h1 := win_c p.x
 have h2 := win_c p.y
 have h3 := win_c p.z
 refine ctrA _ Tryz.func60 rfl rfl Tryz.ntmps60 rfl fun w Z => ?_
 refine zU ?_
 (refine wt ?_; repeat' (((first | refine sq_split rfl rfl ?_ ?_ | refine dq_split rfl rfl ?_ ?_) <;> intro hb <;> (try simp only [zA, zB, zG, zC, zD, zN] at hb) <;> (try (exfalso; omega))) <;> refine wt ?_))
 all_goals (refine sq_res1 rfl (.tmp rfl) (congrArg vb ?_); simp [rightB, rightT, *])
theorem flat_c (p : Pt) : CtrA Tryz.prog 104 [pp p] (vb (rightB p)) := by
 have h1 := wit_c p.x
 have h2 := wit_c p.y
 refine ctrA _ Tryz.func104 rfl rfl Tryz.ntmps104 rfl fun w Z => ?_
 refine zU ?_
 (refine wt ?_; repeat' (((first | refine sq_split rfl rfl ?_ ?_ | refine dq_split rfl rfl ?_ ?_) <;> intro hb <;> (try simp only [zA, zB, zG, zC, zD, zN] at hb) <;> (try (exfalso; omega))) <;> refine wt ?_))
 all_goals (refine sq_res1 rfl (.tmp rfl) (congrArg vb ?_); simp [rightB, rightT, *])
theorem to_c (a b : Pt) (h1 : SmP a) (h2 : SmP b) : CtrA Tryz.prog 132 [pp a, pp b] (pp (sub b a)) := by
 simp only [SmP, Sm] at h1 h2
 refine ctrA _ Tryz.func132 rfl rfl Tryz.ntmps132 rfl fun w Z => ?_
 refine zU ?_
 refine wt ?_
 exact sq_res1 rfl (.agg (us := [_, _]) rfl rfl rfl rfl) rfl
end Go.Proofs.YtgepmbjmaljgoaaGreatDoor.H
namespace Go.Na
open Go.Lib
def dvA (a : Nat) (l : List UInt8) : Nat := l.foldl (fun a b => a * 10 + (b.toNat - 48)) a
def dv (l : List UInt8) : Nat := dvA 0 l
def isD (b : UInt8) : Prop := 48 ≤ b.toNat ∧ b.toNat ≤ 57
instance (b : UInt8) : Decidable (isD b) := by unfold isD; infer_instance
structure Can (l : List UInt8) : Prop where
 ne : l ≠ []
 dig : ∀ b ∈ l, isD b
 hd : ∀ r, l = 48 :: r → r = []
theorem dvA_append (a : Nat) (l m : List UInt8) : dvA a (l ++ m) = dvA (dvA a l) m := by simp [dvA]
theorem dv_snoc (l : List UInt8) (b : UInt8) : dv (l ++ [b]) = dv l * 10 + (b.toNat - 48) := by simp [dv, dvA]
theorem dvA_eq (a : Nat) : ∀ l : List UInt8, dvA a l = a * 10 ^ l.length + dv l := by
 intro l
 induction l generalizing a with
 |nil => simp [dvA, dv]
 |cons b l ih =>
  show dvA (a * 10 + (b.toNat - 48)) l = a * 10 ^ (l.length + 1) + dvA (0 * 10 + (b.toNat - 48)) l
  rw [ih, ih (0 * 10 + (b.toNat - 48)), Nat.pow_succ, Nat.zero_mul, Nat.zero_add, Nat.add_mul, Nat.mul_assoc, Nat.mul_comm 10, Nat.add_assoc]
theorem dv_append (l m : List UInt8) : dv (l ++ m) = dv l * 10 ^ m.length + dv m := by
 rw [show dv (l ++ m) = dvA (dv l) m from dvA_append 0 l m, dvA_eq]
theorem dv_lt : ∀ l : List UInt8, (∀ b ∈ l, isD b) → dv l < 10 ^ l.length := by
 intro l
 induction l with
 |nil => intro _; simp [dv, dvA]
 |cons b l ih =>
  intro h
  have h1 := ih fun c hc => h c (by simp [hc])
  have h2 := (h b (by simp)).2
  rw [show b :: l = [b] ++ l from rfl, dv_append, show ([b] ++ l).length = l.length + 1 by simp, Nat.pow_succ]
  have : dv [b] = b.toNat - 48 := by simp [dv, dvA]
  rw [this]
  have : (b.toNat - 48) * 10 ^ l.length ≤ 9 * 10 ^ l.length := Nat.mul_le_mul_right _ (by omega)
  omega
theorem u8d (k : Nat) (h : k < 10) : (UInt8.ofNat (48 + k)).toNat = 48 + k := by
 rw [UInt8.toNat_ofNat']; omega
theorem dec_dig : ∀ u : Nat, ∀ b ∈ decDigits u, isD b := by
 intro u
 induction u using Nat.strongRecOn with
 |_ u ih =>
  intro b hb
  rw [decDigits] at hb
  split at hb
  ·rename_i h
   rw [List.mem_singleton.1 hb]
   unfold isD; rw [u8d u h]; omega
  ·rename_i h
   rcases List.mem_append.1 hb with h1 | h1
   ·exact ih (u / 10) (by omega) b h1
   ·rw [List.mem_singleton.1 h1]
    unfold isD; rw [u8d _ (Nat.mod_lt _ (by omega))]; have := Nat.mod_lt u (show 10 > 0 by omega); omega
theorem dv_dec : ∀ u : Nat, dv (decDigits u) = u := by
 intro u
 induction u using Nat.strongRecOn with
 |_ u ih =>
  rw [decDigits]
  split
  ·rename_i h
   simp only [dv, dvA, List.foldl_cons, List.foldl_nil]
   rw [u8d u h]; omega
  ·rename_i h
   rw [dv_snoc, ih (u / 10) (by omega), u8d _ (Nat.mod_lt _ (by omega))]
   omega
theorem dec_ne (u : Nat) : decDigits u ≠ [] := by
 intro h
 have := decDigits_length u
 have := nDigits_pos u
 rw [h] at *
 simp at *
 omega
theorem dec_hd : ∀ u : Nat, ∀ r, decDigits u = 48 :: r → r = [] := by
 intro u
 induction u using Nat.strongRecOn with
 |_ u ih =>
  intro r h
  rw [decDigits] at h
  split at h
  ·injection h with _ h; exact h.symm
  ·rename_i hu
   cases hd : decDigits (u / 10) with
   |nil => exact absurd hd (dec_ne _)
   |cons c s =>
    rw [hd] at h
    simp only [List.cons_append, List.cons.injEq] at h
    have := ih (u / 10) (by omega) s (by rw [hd, h.1])
    subst this
    have hv := dv_dec (u / 10)
    rw [hd, h.1] at hv
    simp [dv, dvA] at hv
    omega
theorem can_dec (u : Nat) : Can (decDigits u) := ⟨dec_ne u, dec_dig u, dec_hd u⟩
theorem ofd {b : UInt8} (h : isD b) : UInt8.ofNat (48 + (b.toNat - 48)) = b := by
 apply UInt8.toNat_inj.1
 have := h.1; have := h.2
 rw [u8d _ (by omega)]; omega
theorem dv_pos {l : List UInt8} (h : Can l) (h0 : l ≠ [48]) : 0 < dv l := by
 cases l with
 |nil => exact absurd rfl h.ne
 |cons b r =>
  rw [show b :: r = [b] ++ r from rfl, dv_append]
  have hb := h.dig b (by simp)
  have : dv [b] = b.toNat - 48 := by simp [dv, dvA]
  rw [this]
  have hp : 0 < 10 ^ r.length := Nat.pow_pos (by decide)
  by_cases hz : b.toNat = 48
  ·have : b = 48 := UInt8.toNat_inj.1 hz
   subst this
   have := h.hd r rfl
   subst this
   exact absurd rfl h0
  ·have h1 := hb.1
   have : 1 * 10 ^ r.length ≤ (b.toNat - 48) * 10 ^ r.length := Nat.mul_le_mul_right _ (by omega)
   omega
theorem dec_dv : ∀ n : Nat, ∀ l : List UInt8, l.length = n → Can l → decDigits (dv l) = l := by
 intro n
 induction n with
 |zero => intro l hl h; exact absurd (List.length_eq_zero_iff.1 hl) h.ne
 |succ n ih =>
  intro l hl h
  have hs := List.dropLast_concat_getLast h.ne
  generalize hm : l.dropLast = m at hs
  generalize l.getLast h.ne = b at hs
  subst hs
  have hb := h.dig b (by simp)
  rw [dv_snoc]
  cases m with
  |nil =>
   have : dv [] = 0 := rfl
   rw [this, decDigits, dif_pos (by have := hb.2; omega), Nat.zero_mul, Nat.zero_add, ofd hb]; rfl
  |cons c s =>
   have hc : Can (c :: s) := ⟨by simp, fun x hx => h.dig x (List.mem_append_left _ hx), fun r hr => by
    injection hr with h1 h2
    subst h1
    have := h.hd (s ++ [b]) rfl
    simp at this⟩
   have hne : c :: s ≠ [48] := by
    intro he
    rw [he] at h
    have := h.hd [b] rfl
    simp at this
   have hp := dv_pos hc hne
   have h2 := hb.2
   rw [decDigits, dif_neg (by omega)]
   have e1 : (dv (c :: s) * 10 + (b.toNat - 48)) / 10 = dv (c :: s) := by omega
   have e2 : (dv (c :: s) * 10 + (b.toNat - 48)) % 10 = b.toNat - 48 := by omega
   rw [e1, e2, ih (c :: s) (by simp at hl ⊢; omega) hc, ofd hb]
theorem can_iff {l : List UInt8} : Can l ↔ ∃ u, l = decDigits u := ⟨fun h => ⟨dv l, (dec_dv _ l rfl h).symm⟩, fun ⟨u, h⟩ => h ▸ can_dec u⟩
theorem dec_inj {u v : Nat} (h : decDigits u = decDigits v) : u = v := by rw [← dv_dec u, h, dv_dec]
theorem itoa_inj {m n : Int} (h : itoa m = itoa n) : m = n := by
 unfold itoa at h
 have hx : ∀ a b : Nat, 45 :: decDigits a ≠ decDigits b := fun a b e => by
  have := dec_dig b 45 (by rw [← e]; simp)
  exact absurd this (by decide)
 split at h <;> split at h
 ·injection h with _ h
  have := dec_inj h; omega
 ·exact absurd h (hx _ _)
 ·exact absurd h.symm (hx _ _)
 ·have := dec_inj h; omega
def rtx (q : Rat) : List UInt8 := if q.den = 1 then itoa q.num else itoa q.num ++ 47 :: decDigits q.den
theorem itoa_dig (n : Int) : ∀ b ∈ itoa n, isD b ∨ b = 45 := fun b hb => by
 unfold itoa at hb
 split at hb
 ·rcases List.mem_cons.1 hb with h | h
  ·exact .inr h
  ·exact .inl (dec_dig _ b h)
 ·exact .inl (dec_dig _ b hb)
theorem no47 (n : Int) : (47 : UInt8) ∉ itoa n := fun h => by
 rcases itoa_dig n 47 h with h | h
 ·exact absurd h (by decide)
 ·exact absurd h (by decide)
theorem split47 {a b c d : List UInt8} (ha : (47 : UInt8) ∉ a) (hc : (47 : UInt8) ∉ c) (h : a ++ 47 :: b = c ++ 47 :: d) : a = c ∧ b = d := by
 induction a generalizing c with
 |nil =>
  cases c with
  |nil => simp at h; exact ⟨rfl, h⟩
  |cons x c => simp at h; exact absurd (by rw [h.1]; simp) hc
 |cons y a ih =>
  cases c with
  |nil => simp at h; exact absurd (by rw [h.1]; simp) ha
  |cons x c =>
   simp at h
   obtain ⟨e1, e2⟩ := ih (fun q => ha (by simp [q])) (fun q => hc (by simp [q])) h.2
   exact ⟨by rw [h.1, e1], e2⟩
theorem rtx_inj {p q : Rat} (h : rtx p = rtx q) : p = q := by
 unfold rtx at h
 split at h <;> split at h
 ·rename_i h1 h2
  exact Rat.ext (itoa_inj h) (h1.trans h2.symm)
 ·exact absurd (h ▸ (by simp : (47 : UInt8) ∈ itoa q.num ++ 47 :: decDigits q.den)) (no47 _)
 ·exact absurd (h ▸ (by simp : (47 : UInt8) ∈ itoa p.num ++ 47 :: decDigits p.den)) (no47 _)
 ·obtain ⟨e1, e2⟩ := split47 (no47 _) (no47 _) h
  exact Rat.ext (itoa_inj e1) (dec_inj e2)
theorem itoa_nat (n : Nat) : itoa (n : Int) = decDigits n := by unfold itoa; rw [if_neg (by omega)]; simp
theorem rtx_div {n d g : Int} (hd : d ≠ 0) (hg : g = if d < 0 then -((Int.gcd n d : Nat) : Int) else ((Int.gcd n d : Nat) : Int)) : rtx (Rat.divInt n d) = if d / g = 1 then itoa (n / g) else itoa (n / g) ++ 47 :: itoa (d / g) := by
 have h1 : (Rat.divInt n d).num = n / g := by
  rw [Rat.num_divInt, Int.gcd_comm d n, hg]
  split
  ·rename_i h
   rw [Int.sign_eq_neg_one_of_neg h, Int.ediv_neg, Int.neg_mul, Int.one_mul]
   exact Int.neg_ediv_of_dvd (Int.gcd_dvd_left ..)
  ·rename_i h
   rw [Int.sign_eq_one_of_pos (by omega), Int.one_mul]
 have h2 : ((Rat.divInt n d).den : Int) = d / g := by
  rw [Rat.den_divInt, if_neg hd, Int.gcd_comm d n, hg, Int.natCast_ediv]
  split
  ·rename_i h
   rw [Int.ediv_neg, show ((d.natAbs : Nat) : Int) = -d by omega]
   exact Int.neg_ediv_of_dvd (Int.gcd_dvd_right ..)
  ·rename_i h
   rw [show ((d.natAbs : Nat) : Int) = d by omega]
 unfold rtx
 rw [← h1, ← h2, itoa_nat]
 by_cases h : (Rat.divInt n d).den = 1
 ·rw [if_pos h, if_pos (by omega)]
 ·rw [if_neg h, if_neg (by omega)]
end Go.Na
namespace Go.Na
theorem fdiv_unique {m n q r : Int} (h : m = q * n + r) (hr : (0 ≤ r ∧ r < n) ∨ (n < r ∧ r ≤ 0)) : m.fdiv n = q ∧ m.fmod n = r := by
 have h2 : ∀ {m n q r : Int}, m = q * n + r → 0 ≤ r → r < n → m.fdiv n = q := by
  intro m n q r h h0 h1
  rw [Int.fdiv_eq_ediv_of_nonneg _ (by omega)]
  have := (Int.ediv_emod_unique (a := m) (b := n) (r := r) (q := q) (by omega)).2 ⟨by rw [h, Int.mul_comm]; omega, h0, h1⟩
  exact this.1
 have hq : m.fdiv n = q := by
  rcases hr with ⟨h0, h1⟩ | ⟨h0, h1⟩
  ·exact h2 h h0 h1
  ·rw [← Int.neg_fdiv_neg]
   exact h2 (r := -r) (by rw [h, Int.mul_neg]; omega) (by omega) (by omega)
 refine ⟨hq, ?_⟩
 have := Int.mul_fdiv_add_fmod m n
 rw [hq] at this
 rw [Int.mul_comm] at this
 omega
theorem abs_div {m n : Int} (hn : n ≠ 0) : ((m.natAbs : Nat) : Int) = ((m.natAbs / n.natAbs : Nat) : Int) * ((n.natAbs : Nat) : Int) + ((m.natAbs % n.natAbs : Nat) : Int) ∧ m.natAbs % n.natAbs < n.natAbs := by
 have h1 := Nat.div_add_mod m.natAbs n.natAbs
 refine ⟨?_, Nat.mod_lt _ (by omega)⟩
 rw [Nat.mul_comm] at h1
 omega
theorem fdiv_of (m n : Int) (hn : n ≠ 0) : m.fdiv n = if decide (m < 0) = decide (n < 0) then ((m.natAbs / n.natAbs : Nat) : Int) else if m.natAbs % n.natAbs = 0 then -((m.natAbs / n.natAbs : Nat) : Int) else -((m.natAbs / n.natAbs : Nat) : Int) - 1 := by
 obtain ⟨h1, h2⟩ := abs_div (m := m) hn
 generalize hq : ((m.natAbs / n.natAbs : Nat) : Int) = q at h1
 generalize hr : m.natAbs % n.natAbs = r at h1 h2
 by_cases hm : m < 0 <;> by_cases hn0 : n < 0
 ·rw [if_pos (by simp [hm, hn0])]
  have e1 : ((m.natAbs : Nat) : Int) = -m := by omega
  have e2 : ((n.natAbs : Nat) : Int) = -n := by omega
  rw [e1, e2, Int.mul_neg] at h1
  exact (fdiv_unique (r := -r) (by omega) (.inr ⟨by omega, by omega⟩)).1
 ·rw [if_neg (by simp [hm, hn0])]
  have e1 : ((m.natAbs : Nat) : Int) = -m := by omega
  have e2 : ((n.natAbs : Nat) : Int) = n := by omega
  rw [e1, e2] at h1
  split
  ·exact (fdiv_unique (r := 0) (by rw [Int.neg_mul]; omega) (.inl ⟨by omega, by omega⟩)).1
  ·exact (fdiv_unique (r := n - r) (by rw [Int.sub_mul, Int.neg_mul]; omega) (.inl ⟨by omega, by omega⟩)).1
 ·rw [if_neg (by simp [hm, hn0])]
  have e1 : ((m.natAbs : Nat) : Int) = m := by omega
  have e2 : ((n.natAbs : Nat) : Int) = -n := by omega
  rw [e1, e2, Int.mul_neg] at h1
  split
  ·exact (fdiv_unique (r := 0) (by rw [Int.neg_mul]; omega) (.inr ⟨by omega, by omega⟩)).1
  ·exact (fdiv_unique (r := n + r) (by rw [Int.sub_mul, Int.neg_mul]; omega) (.inr ⟨by omega, by omega⟩)).1
 ·rw [if_pos (by simp [hm, hn0])]
  have e1 : ((m.natAbs : Nat) : Int) = m := by omega
  have e2 : ((n.natAbs : Nat) : Int) = n := by omega
  rw [e1, e2] at h1
  exact (fdiv_unique (r := r) (by omega) (.inl ⟨by omega, by omega⟩)).1
theorem fdiv_dvd {m n : Int} (h : n ∣ m) : m.fdiv n = m / n := by
 rw [Int.fdiv_eq_ediv, if_pos (.inr h)]; omega
theorem fmod_eq (m n : Int) : m.fmod n = m - m.fdiv n * n := by
 have := Int.mul_fdiv_add_fmod m n
 rw [Int.mul_comm] at this; omega
abbrev B : Int := 1000000000
def vw (f : Nat → Int) : Nat → Int
 |0 => 0
 |n + 1 => vw f n + f n * B ^ n
theorem vw_congr {f g : Nat → Int} : ∀ {n : Nat}, (∀ i, i < n → f i = g i) → vw f n = vw g n
 |0, _ => rfl
 |n + 1, h => by
  show vw f n + f n * B ^ n = vw g n + g n * B ^ n
  rw [vw_congr fun i hi => h i (by omega), h n (by omega)]
theorem vw_upd {f g : Nat → Int} {k : Nat} (ho : ∀ i, i ≠ k → g i = f i) : ∀ {n : Nat}, k < n → vw g n = vw f n + (g k - f k) * B ^ k
 |0, h => by omega
 |n + 1, h => by
  show vw g n + g n * B ^ n = vw f n + f n * B ^ n + (g k - f k) * B ^ k
  by_cases hk : k = n
  ·subst hk
   rw [vw_congr fun i hi => ho i (by omega), Int.sub_mul]; omega
  ·rw [vw_upd ho (show k < n by omega), ho n (fun e => hk e.symm)]; omega
theorem B_pos (n : Nat) : 0 < B ^ n := Int.pow_pos (by decide)
theorem vw_nonneg {f : Nat → Int} (h : ∀ i, 0 ≤ f i) : ∀ n, 0 ≤ vw f n
 |0 => Int.le_refl 0
 |n + 1 => Int.add_nonneg (vw_nonneg h n) (Int.mul_nonneg (h n) (Int.le_of_lt (B_pos n)))
theorem vw_lt {f : Nat → Int} (h0 : ∀ i, 0 ≤ f i) (h : ∀ i, f i < B) : ∀ n, vw f n < B ^ n
 |0 => by show (0 : Int) < B ^ 0; decide
 |n + 1 => by
  have h1 := vw_lt h0 h n
  have h2 : f n * B ^ n ≤ (B - 1) * B ^ n := Int.mul_le_mul_of_nonneg_right (by have := h n; omega) (Int.le_of_lt (B_pos n))
  rw [Int.pow_succ]
  show vw f n + f n * B ^ n < B ^ n * B
  rw [Int.sub_mul, Int.one_mul, Int.mul_comm B] at h2
  omega
theorem vw_zero {f : Nat → Int} {n : Nat} (h : ∀ i, n ≤ i → f i = 0) : ∀ m, vw f (n + m) = vw f n
 |0 => rfl
 |m + 1 => by
  show vw f (n + m) + f (n + m) * B ^ (n + m) = _
  rw [vw_zero h m, h (n + m) (by omega)]; simp
theorem rest_zero {f : Nat → Int} {j m n : Nat} {V r : Int} (h0 : ∀ i, 0 ≤ f i) (h1 : ∀ i, f i < B) (hz : ∀ i, j ≤ i → f i = 0) (hm : m ≤ j) (hV0 : 0 ≤ V) (hV : V < B ^ m) (hj : j ≤ n) (he : vw f n + r * B ^ j = V) : r = 0 := by
 have e1 : vw f n = vw f j := by
  have := vw_zero hz (n - j)
  rwa [show j + (n - j) = n by omega] at this
 have h2 := vw_lt h0 h1 j
 have h3 := vw_nonneg h0 j
 have h4 : B ^ m ≤ B ^ j := by
  rw [show j = m + (j - m) by omega, Int.pow_add]
  have := B_pos (j - m)
  have h5 : B ^ m * 1 ≤ B ^ m * B ^ (j - m) := Int.mul_le_mul_of_nonneg_left (by omega) (Int.le_of_lt (B_pos m))
  omega
 have hp := B_pos j
 rcases Int.lt_trichotomy r 0 with h | h | h
 ·have : r * B ^ j ≤ (-1) * B ^ j := Int.mul_le_mul_of_nonneg_right (by omega) (Int.le_of_lt hp)
  omega
 ·exact h
 ·have : 1 * B ^ j ≤ r * B ^ j := Int.mul_le_mul_of_nonneg_right (by omega) (Int.le_of_lt hp)
  omega
theorem carry_step {f f' g : Nat → Int} {i u N : Nat} {c V r s r' : Int} (hj : i + u < N) (he : vw f N + r * B ^ (i + u) = V + c * vw g i * B ^ u)
  (hs : s = f (i + u) + r + c * g i) (hf : f' (i + u) + r' * B = s) (ho : ∀ k, k ≠ i + u → f' k = f k) : vw f' N + r' * B ^ (i + 1 + u) = V + c * vw g (i + 1) * B ^ u := by
 rw [vw_upd ho hj, show i + 1 + u = (i + u) + 1 by omega, Int.pow_succ]
 show _ = V + c * (vw g i + g i * B ^ i) * B ^ u
 have e : B ^ (i + u) = B ^ i * B ^ u := Int.pow_add ..
 rw [e] at he ⊢
 have e2 : f' (i + u) = s - r' * B := by omega
 rw [e2, hs]
 generalize B ^ i = p at he ⊢
 generalize B ^ u = q at he ⊢
 grind
theorem carry_digit (s : Int) : let r := s.tdiv B; let t := s - r * B; (0 ≤ t → t < B ∧ t + r * B = s) ∧ (t < 0 → 0 ≤ t + B ∧ t + B < B ∧ (t + B) + (r - 1) * B = s) := by
 intro r t
 have h4 : t = s - r * 1000000000 := rfl
 have h5 : r = s.tdiv 1000000000 := rfl
 clear_value r t
 have h3 : -1000000000 < t ∧ t < 1000000000 := by
  rcases Int.le_total 0 s with h | h
  ·rw [Int.tdiv_eq_ediv_of_nonneg h] at h5; omega
  ·have : s = -(-s) := by omega
   rw [this, Int.neg_tdiv, Int.tdiv_eq_ediv_of_nonneg (by omega)] at h5; omega
 show (0 ≤ t → t < 1000000000 ∧ t + r * 1000000000 = s) ∧ (t < 0 → 0 ≤ t + 1000000000 ∧ t + 1000000000 < 1000000000 ∧ (t + 1000000000) + (r - 1) * 1000000000 = s)
 refine ⟨fun h => ⟨by omega, by omega⟩, fun h => ⟨by omega, by omega, by omega⟩⟩
theorem vw_top {f : Nat → Int} {n N : Nat} (h0 : ∀ i, 0 ≤ f i) (hN : n + 2 ≤ N) : (f (n + 1) * B + f n) * B ^ n ≤ vw f N := by
 have h1 : ∀ m, vw f (n + 2) ≤ vw f (n + 2 + m) := fun m => by
  induction m with
  |zero => exact Int.le_refl _
  |succ m ih => exact Int.le_trans ih (by
    show vw f (n + 2 + m) ≤ vw f (n + 2 + m) + f (n + 2 + m) * B ^ (n + 2 + m)
    have := Int.mul_nonneg (h0 (n + 2 + m)) (Int.le_of_lt (B_pos (n + 2 + m)))
    omega)
 have h2 := h1 (N - (n + 2))
 rw [show n + 2 + (N - (n + 2)) = N by omega] at h2
 refine Int.le_trans ?_ h2
 show _ ≤ vw f n + f n * B ^ n + f (n + 1) * B ^ (n + 1)
 have h3 := vw_nonneg h0 n
 have e : (f (n + 1) * B + f n) * B ^ n = f n * B ^ n + f (n + 1) * B ^ (n + 1) := by
  rw [Int.pow_succ]
  generalize B ^ n = p
  grind
 omega
theorem est_le {f g : Nat → Int} {n N : Nat} {b k : Int} (h0 : ∀ i, 0 ≤ f i) (hg0 : ∀ i, 0 ≤ g i) (hg : ∀ i, g i < B) (hN : n + 2 ≤ N) (hb : b = if n = 0 then g n else g n + 1) (hb0 : 0 < b) (hk0 : 0 ≤ k) (hk : k ≤ (f (n + 1) * B + f n) / b) : k * vw g (n + 1) ≤ vw f N := by
 have h1 := vw_top h0 hN
 have hp := B_pos n
 have h2 : vw g (n + 1) ≤ b * B ^ n := by
  show vw g n + g n * B ^ n ≤ b * B ^ n
  by_cases hn : n = 0
  ·subst hn
   rw [if_pos rfl] at hb
   subst hb
   show 0 + _ ≤ _
   omega
  ·rw [if_neg hn] at hb
   have := vw_lt hg0 hg n
   rw [hb, Int.add_mul, Int.one_mul]; omega
 have h3 : k * b ≤ f (n + 1) * B + f n := by
  have := Int.ediv_mul_le (f (n + 1) * B + f n) (show b ≠ 0 by omega)
  exact Int.le_trans (Int.mul_le_mul_of_nonneg_right hk (Int.le_of_lt hb0)) this
 have h4 : k * vw g (n + 1) ≤ k * (b * B ^ n) := Int.mul_le_mul_of_nonneg_left h2 hk0
 have h5 : k * (b * B ^ n) ≤ (f (n + 1) * B + f n) * B ^ n := by
  rw [← Int.mul_assoc]; exact Int.mul_le_mul_of_nonneg_right h3 (Int.le_of_lt hp)
 omega
theorem vw_cmp {f g : Nat → Int} (hf0 : ∀ i, 0 ≤ f i) (hf : ∀ i, f i < B) (hg0 : ∀ i, 0 ≤ g i) {i : Nat} (hlt : f i < g i) : ∀ {n : Nat}, i < n → (∀ k, i < k → k < n → f k = g k) → vw f n < vw g n
 |0, h, _ => by omega
 |n + 1, h, hs => by
  show vw f n + f n * B ^ n < vw g n + g n * B ^ n
  by_cases hin : i = n
  ·subst hin
   have h1 := vw_lt hf0 hf i
   have h2 := vw_nonneg hg0 i
   have h3 : (f i + 1) * B ^ i ≤ g i * B ^ i := Int.mul_le_mul_of_nonneg_right (by omega) (Int.le_of_lt (B_pos i))
   rw [Int.add_mul, Int.one_mul] at h3
   omega
  ·have := vw_cmp hf0 hf hg0 hlt (show i < n by omega) fun k h1 h2 => hs k h1 (by omega)
   rw [hs n (by omega) (by omega)]; omega
theorem vw_shift {f g : Nat → Int} (h : ∀ i, g (i + 1) = f i) : ∀ n, vw g (n + 1) = vw f n * B + g 0
 |0 => by show 0 + g 0 * B ^ 0 = 0 * B + g 0; simp
 |n + 1 => by
  show vw g (n + 1) + g (n + 1) * B ^ (n + 1) = (vw f n + f n * B ^ n) * B + g 0
  rw [vw_shift h n, h n, Int.pow_succ]
  generalize B ^ n = p
  grind
end Go.Na
namespace Go.Na
open Go.Lib
def pad (k : Nat) : List UInt8 := List.replicate (9 - (decDigits k).length) 48 ++ decDigits k
theorem dec_len {k : Nat} : ∀ {n : Nat}, k < 10 ^ n → 0 < n → (decDigits k).length ≤ n := by
 induction k using Nat.strongRecOn with
 |_ k ih =>
  intro n h hn
  rw [decDigits]
  split
  ·simp; omega
  ·rename_i hk
   have hn1 : 1 < n := by
    rcases Nat.lt_or_ge 1 n with h1 | h1
    ·exact h1
    ·have : n = 1 := by omega
     subst this; omega
   obtain ⟨m, rfl⟩ : ∃ m, n = m + 1 := ⟨n - 1, by omega⟩
   rw [Nat.pow_succ] at h
   have := ih (k / 10) (by omega) (n := m) (by omega) (by omega)
   simp; omega
theorem pad_len {k : Nat} (h : k < 1000000000) : (pad k).length = 9 := by
 have := dec_len (n := 9) h (by decide)
 simp [pad]; omega
theorem dv_rep (n : Nat) : dv (List.replicate n 48) = 0 := by
 induction n with
 |zero => rfl
 |succ n ih => rw [List.replicate_succ', dv_snoc, ih]; decide
theorem dv_pad (k : Nat) : dv (pad k) = k := by
 rw [pad, dv_append, dv_rep, dv_dec]; simp
theorem pad_dig (k : Nat) : ∀ b ∈ pad k, isD b := fun b hb => by
 rcases List.mem_append.1 hb with h | h
 ·rw [(List.mem_replicate.1 h).2]; decide
 ·exact dec_dig k b h
def tl (f : Nat → Int) : Nat → List UInt8
 |0 => []
 |n + 1 => pad (f n).toNat ++ tl f n
theorem tl_len {f : Nat → Int} (h : ∀ i, f i < B) : ∀ n, (tl f n).length = 9 * n
 |0 => rfl
 |n + 1 => by
  have h1 : f n < 1000000000 := h n
  rw [tl, List.length_append, tl_len h n, pad_len (by omega)]; omega
theorem tl_dig (f : Nat → Int) : ∀ n, ∀ b ∈ tl f n, isD b
 |0, b, hb => by simp [tl] at hb
 |n + 1, b, hb => (List.mem_append.1 hb).elim (pad_dig _ b) (tl_dig f n b)
theorem pow9 (n : Nat) : ((10 ^ (9 * n) : Nat) : Int) = B ^ n := by
 rw [Nat.pow_mul]; simp
theorem dv_tl {f : Nat → Int} (h0 : ∀ i, 0 ≤ f i) (h : ∀ i, f i < B) : ∀ n, ((dv (tl f n) : Nat) : Int) = vw f n
 |0 => rfl
 |n + 1 => by
  have := h0 n
  rw [tl, dv_append, dv_pad, tl_len h, Int.natCast_add, Int.natCast_mul, dv_tl h0 h n, pow9, Int.toNat_of_nonneg (h0 n)]
  show _ = vw f n + f n * B ^ n
  omega
theorem text_eq {f : Nat → Int} (h0 : ∀ i, 0 ≤ f i) (h : ∀ i, f i < B) {n : Nat} (hn : f n ≠ 0) : decDigits (f n).toNat ++ tl f n = decDigits (vw f (n + 1)).toNat := by
 have hp := h0 n
 have hc : Can (decDigits (f n).toNat ++ tl f n) := ⟨by simp [dec_ne], fun b hb => (List.mem_append.1 hb).elim (dec_dig _ b) (tl_dig f n b), fun r hr => by
  cases hd : decDigits (f n).toNat with
  |nil => exact absurd hd (dec_ne _)
  |cons c s =>
   rw [hd] at hr
   injection hr with h1 h2
   subst h1
   have := dec_hd _ s hd
   subst this
   have hv := dv_dec (f n).toNat
   rw [hd] at hv
   simp [dv, dvA] at hv
   omega⟩
 rw [← dec_dv _ _ rfl hc]
 congr 1
 have h1 : ((dv (decDigits (f n).toNat ++ tl f n) : Nat) : Int) = vw f (n + 1) := by
  rw [dv_append, dv_dec, tl_len h, Int.natCast_add, Int.natCast_mul, dv_tl h0 h n, pow9, Int.toNat_of_nonneg (h0 n)]
  show _ = vw f n + f n * B ^ n
  omega
 rw [← h1]; simp
theorem read_step {s : List UInt8} (h : ∀ b ∈ s, isD b) : dv s = dv (s.take (s.length - 9)) * 1000000000 + dv (s.drop (s.length - 9)) ∧ dv (s.drop (s.length - 9)) < 1000000000 := by
 constructor
 ·have e := dv_append (s.take (s.length - 9)) (s.drop (s.length - 9))
  rw [List.take_append_drop] at e
  by_cases hl : 9 ≤ s.length
  ·rw [show (s.drop (s.length - 9)).length = 9 by simp; omega] at e
   exact e
  ·rw [show s.length - 9 = 0 by omega] at e ⊢
   simp [dv, dvA]
 ·have h1 := dv_lt (s.drop (s.length - 9)) fun b hb => h b (List.mem_of_mem_drop hb)
  have h2 : (10 : Nat) ^ (s.drop (s.length - 9)).length ≤ 10 ^ 9 := Nat.pow_le_pow_right (by decide) (by simp; omega)
  exact Nat.lt_of_lt_of_le h1 h2
def bare : List UInt8 → List UInt8
 |[] => []
 |[b] => [b]
 |b :: c :: r => if b = 48 then bare (c :: r) else b :: c :: r
theorem bare_step (c : UInt8) (r : List UInt8) : bare (48 :: c :: r) = bare (c :: r) := by simp [bare]
theorem bare_stop {l : List UInt8} (h : ¬ (1 < l.length ∧ l.head? = some 48)) : bare l = l := by
 cases l with
 |nil => rfl
 |cons b l =>
  cases l with
  |nil => rfl
  |cons c r =>
   unfold bare
   rw [if_neg]
   rintro rfl
   exact h ⟨by simp, rfl⟩
theorem dv_one (b : UInt8) : dv [b] = b.toNat - 48 := by simp [dv, dvA]
theorem dv_cons (b : UInt8) (l : List UInt8) : dv (b :: l) = (b.toNat - 48) * 10 ^ l.length + dv l := by
 rw [show b :: l = [b] ++ l from rfl, dv_append, dv_one]
theorem bare_dec : ∀ l : List UInt8, l ≠ [] → (∀ b ∈ l, isD b) → bare l = decDigits (dv l)
 |[], h, _ => absurd rfl h
 |[b], _, h => by
  have hc : Can [b] := ⟨by simp, h, fun r hr => by injection hr with _ h; exact h.symm⟩
  exact (dec_dv 1 [b] rfl hc).symm
 |b :: c :: r, _, h => by
  unfold bare
  split
  ·rename_i h0
   subst h0
   rw [bare_dec (c :: r) (by simp) fun x hx => h x (by simp at hx ⊢; exact .inr hx)]
   rw [dv_cons 48 (c :: r)]
   simp
  ·rename_i h0
   refine (dec_dv _ _ rfl ⟨by simp, h, fun r hr => ?_⟩).symm
   injection hr with h1 _
   exact absurd h1 h0
theorem take_snoc {l : List UInt8} {i : Nat} (h : i < l.length) : l.take (i + 1) = l.take i ++ [l[i]] := by
 rw [List.take_add_one, List.getElem?_eq_getElem h]; rfl
theorem dv_take {l : List UInt8} {i : Nat} (h : i < l.length) : dv (l.take (i + 1)) = dv (l.take i) * 10 + (l[i].toNat - 48) := by
 rw [take_snoc h, dv_snoc]
theorem dv_drop {l : List UInt8} {i : Nat} (h : i < l.length) : dv (l.drop i) = (l[i].toNat - 48) * 10 ^ (l.length - (i + 1)) + dv (l.drop (i + 1)) := by
 rw [List.drop_eq_getElem_cons h, dv_cons, List.length_drop]
def sg (add : Bool) : Int := if add then 1 else -1
def colN (x y c : Int) (add : Bool) : Int := if add then x + y + c else x - y - c
def colD (n : Int) : Int := if 9 < n then n - 10 else if n < 0 then n + 10 else n
def colC (n : Int) : Int := if 9 < n then 1 else if n < 0 then 1 else 0
theorem col_ok {x y c : Int} {add : Bool} (hx : 0 ≤ x ∧ x ≤ 9) (hy : 0 ≤ y ∧ y ≤ 9) (hc : 0 ≤ c ∧ c ≤ 1) : (0 ≤ colD (colN x y c add) ∧ colD (colN x y c add) ≤ 9) ∧ (0 ≤ colC (colN x y c add) ∧ colC (colN x y c add) ≤ 1) ∧
  colD (colN x y c add) + sg add * 10 * colC (colN x y c add) = x + sg add * y + sg add * c := by
 cases add
 ·simp only [colN, sg, colD, colC, Bool.false_eq_true, if_false]
  split
  ·omega
  ·split <;> omega
 ·simp only [colN, sg, colD, colC, if_true]
  split
  ·omega
  ·split <;> omega
theorem col_step {a b o p x y c d e s : Int} (h : o + s * c * p = a + s * b) (hn : d + s * 10 * e = x + s * y + s * c) : (d * p + o) + s * e * (p * 10) = (x * p + a) + s * (y * p + b) := by grind
structure PInv (add : Bool) (a b l : List UInt8) (k : Nat) (c : Int) : Prop where
 len : l.length = a.length
 le : k ≤ a.length
 dig : ∀ x ∈ l.drop k, isD x
 c01 : 0 ≤ c ∧ c ≤ 1
 val : (dv (l.drop k) : Int) + sg add * c * 10 ^ (a.length - k) = dv (a.drop k) + sg add * dv (b.drop k)
theorem drop_set_self {l : List UInt8} {k : Nat} {x : UInt8} (h : k < l.length) : (l.set k x).drop k = x :: l.drop (k + 1) := by
 rw [List.drop_eq_getElem_cons (by simpa using h), List.drop_set_of_lt (by omega)]
 simp
def byt (d : Int) : UInt8 := UInt8.ofNat (48 + d.toNat)
theorem byt_toNat {d : Int} (h : 0 ≤ d ∧ d ≤ 9) : ((byt d).toNat : Int) = 48 + d := by
 unfold byt; rw [u8d _ (by omega)]; omega
theorem byt_dig {d : Int} (h : 0 ≤ d ∧ d ≤ 9) : isD (byt d) := by
 unfold byt isD; rw [u8d _ (by omega)]; omega
theorem byt_dv {d : Int} (h : 0 ≤ d ∧ d ≤ 9) : (((byt d).toNat - 48 : Nat) : Int) = d := by
 unfold byt; rw [u8d _ (by omega)]; omega
theorem PInv.zero {add : Bool} {a b l : List UInt8} (hl : l.length = a.length) (hb : b.length = a.length) : PInv add a b l a.length 0 := by
 refine ⟨hl, Nat.le_refl _, ?_, by omega, ?_⟩
 ·rw [List.drop_eq_nil_of_le (by omega)]; simp
 ·rw [List.drop_eq_nil_of_le (by omega), List.drop_eq_nil_of_le (by omega), List.drop_eq_nil_of_le (by omega)]
  simp [dv, dvA]
theorem dgI {b : UInt8} (h : isD b) : 0 ≤ ((b.toNat : Int) - 48) ∧ ((b.toNat : Int) - 48) ≤ 9 := by
 have := h.1; have := h.2; omega
theorem PInv.step {add : Bool} {a b l : List UInt8} {k : Nat} {c : Int} (h : PInv add a b l (k + 1) c) (ha : ∀ x ∈ a, isD x) (hb : ∀ x ∈ b, isD x) (hlb : b.length = a.length) {x y : UInt8} (hx : a[k]? = some x) (hy : b[k]? = some y) :
  PInv add a b (l.set k (byt (colD (colN ((x.toNat : Int) - 48) ((y.toNat : Int) - 48) c add)))) k (colC (colN ((x.toNat : Int) - 48) ((y.toNat : Int) - 48) c add)) := by
 have hk := h.le
 obtain ⟨hka, rfl⟩ := List.getElem?_eq_some_iff.1 hx
 obtain ⟨hkb, rfl⟩ := List.getElem?_eq_some_iff.1 hy
 have hax := ha _ (List.getElem_mem hka)
 have hby := hb _ (List.getElem_mem hkb)
 obtain ⟨h1, h2, h3⟩ := col_ok (add := add) (dgI hax) (dgI hby) h.c01
 have hkl : k < l.length := by rw [h.len]; omega
 refine ⟨by simp [h.len], by omega, ?_, h2, ?_⟩
 ·rw [drop_set_self hkl]
  intro z hz
  rcases List.mem_cons.1 hz with rfl | hz
  ·exact byt_dig h1
  ·exact h.dig z hz
 ·have hv := h.val
  rw [drop_set_self hkl, dv_cons, dv_drop hka, dv_drop hkb, Int.natCast_add, Int.natCast_mul, byt_dv h1, Int.natCast_add, Int.natCast_mul, Int.natCast_add, Int.natCast_mul, List.length_drop, h.len, hlb]
  have e : a.length - k = (a.length - (k + 1)) + 1 := by omega
  rw [e, Int.pow_succ]
  have ex : ((a[k].toNat - 48 : Nat) : Int) = (a[k].toNat : Int) - 48 := by have := hax.1; omega
  have ey : ((b[k].toNat - 48 : Nat) : Int) = (b[k].toNat : Int) - 48 := by have := hby.1; omega
  rw [ex, ey]
  have := col_step hv h3
  simpa [Int.natCast_pow] using this
theorem PInv.sum {a b l : List UInt8} {c : Int} (h : PInv true a b l 0 c) (hl : l ≠ []) (hs : dv a + dv b < 10 ^ a.length) : bare l = decDigits (dv a + dv b) := by
 have hv := h.val
 have hd := h.dig
 rw [List.drop_zero] at hv hd
 rw [bare_dec l hl hd]
 congr 1
 have hlt := dv_lt l hd
 rw [h.len] at hlt
 simp only [sg, List.drop_zero, Nat.sub_zero, if_true, Int.one_mul] at hv
 have hp : ((10 ^ a.length : Nat) : Int) = 10 ^ a.length := by simp
 rw [← hp] at hv
 have := h.c01
 rcases (by omega : c = 0 ∨ c = 1) with rfl | rfl
 ·omega
 ·omega
theorem PInv.dif {a b l : List UInt8} {c : Int} (h : PInv false a b l 0 c) (hl : l ≠ []) (hs : dv b ≤ dv a) (ha : ∀ x ∈ a, isD x) : bare l = decDigits (dv a - dv b) := by
 have hv := h.val
 have hd := h.dig
 rw [List.drop_zero] at hv hd
 rw [bare_dec l hl hd]
 congr 1
 have hlt := dv_lt l hd
 have hla := dv_lt a ha
 rw [h.len] at hlt
 simp only [sg, List.drop_zero, Nat.sub_zero, Bool.false_eq_true, if_false] at hv
 have hp : ((10 ^ a.length : Nat) : Int) = 10 ^ a.length := by simp
 rw [← hp] at hv
 have := h.c01
 rcases (by omega : c = 0 ∨ c = 1) with rfl | rfl
 ·omega
 ·omega
def wideL (l : List UInt8) (n : Nat) : List UInt8 := List.replicate (n - l.length) 48 ++ l
theorem dv_wide (l : List UInt8) (n : Nat) : dv (wideL l n) = dv l := by rw [wideL, dv_append, dv_rep]; simp
theorem wide_len {l : List UInt8} {n : Nat} (h : l.length ≤ n) : (wideL l n).length = n := by simp [wideL]; omega
theorem wide_dig {l : List UInt8} (h : ∀ b ∈ l, isD b) (n : Nat) : ∀ b ∈ wideL l n, isD b := fun b hb => by
 rcases List.mem_append.1 hb with h1 | h1
 ·rw [(List.mem_replicate.1 h1).2]; decide
 ·exact h b h1
def cvA (a : Int) (l : List Int) : Int := l.foldl (fun a c => a * 10 + c) a
def cv (l : List Int) : Int := cvA 0 l
theorem cvA_eq (a : Int) : ∀ l : List Int, cvA a l = a * 10 ^ l.length + cv l := by
 intro l
 induction l generalizing a with
 |nil => simp [cvA, cv]
 |cons b l ih =>
  show cvA (a * 10 + b) l = a * 10 ^ (l.length + 1) + cvA (0 * 10 + b) l
  rw [ih, ih (0 * 10 + b), Int.pow_succ]
  generalize (10 : Int) ^ l.length = p
  grind
theorem cv_append (l m : List Int) : cv (l ++ m) = cv l * 10 ^ m.length + cv m := by
 rw [show cv (l ++ m) = cvA (cv l) m by simp [cv, cvA], cvA_eq]
theorem cv_cons (b : Int) (l : List Int) : cv (b :: l) = b * 10 ^ l.length + cv l := by
 rw [show b :: l = [b] ++ l from rfl, cv_append]; simp [cv, cvA]
theorem cv_set {l : List Int} {j : Nat} (h : j < l.length) (x : Int) : cv (l.set j (l[j] + x)) = cv l + x * 10 ^ (l.length - (j + 1)) := by
 have e : l = l.take j ++ l[j] :: l.drop (j + 1) := by
  conv => lhs; rw [← List.take_append_drop j l, List.drop_eq_getElem_cons h]
 have e2 : l.set j (l[j] + x) = l.take j ++ (l[j] + x) :: l.drop (j + 1) := by
  rw [List.set_eq_take_append_cons_drop, if_pos h]
 rw [e2]
 conv => rhs; rw [e]
 rw [cv_append, cv_append, cv_cons, cv_cons]
 simp only [List.length_append, List.length_cons, List.length_drop, List.length_take]
 rw [show min j l.length + (l.length - (j + 1) + 1) - (j + 1) = l.length - (j + 1) by omega]
 generalize (10 : Int) ^ (l.length - (j + 1)) = p
 grind
theorem cv_rep (n : Nat) : cv (List.replicate n 0) = 0 := by
 induction n with
 |zero => rfl
 |succ n ih => rw [List.replicate_succ, cv_cons, ih]; simp
theorem cv_drop {l : List Int} {i : Nat} (h : i < l.length) : cv (l.drop i) = l[i] * 10 ^ (l.length - (i + 1)) + cv (l.drop (i + 1)) := by
 rw [List.drop_eq_getElem_cons h, cv_cons, List.length_drop]
structure MInv (a b : List UInt8) (l : List Int) (i k : Nat) : Prop where
 len : l.length = a.length + b.length
 bd : ∀ x ∈ l, 0 ≤ x ∧ x ≤ 81 * ((i * b.length + k : Nat) : Int)
 val : cv l = (dv (a.take i) : Int) * 10 ^ (a.length - i) * dv b + ((dv (a.take (i + 1)) : Int) - 10 * dv (a.take i)) * dv (b.take k) * 10 ^ (a.length + b.length - (i + 1) - k)
theorem MInv.zero (a b : List UInt8) : MInv a b (List.replicate (a.length + b.length) 0) 0 0 := by
 refine ⟨by simp, fun x hx => ?_, ?_⟩
 ·rw [(List.mem_replicate.1 hx).2]; omega
 ·rw [cv_rep]; simp [dv, dvA]
theorem take_dg {a : List UInt8} {i : Nat} (h : i < a.length) : (dv (a.take (i + 1)) : Int) - 10 * dv (a.take i) = ((a[i].toNat - 48 : Nat) : Int) := by
 have := dv_take h
 omega
theorem MInv.step {a b : List UInt8} {l : List Int} {i k : Nat} (h : MInv a b l i k) (ha : ∀ x ∈ a, isD x) (hb : ∀ x ∈ b, isD x) {x y : UInt8} {c : Int} (hx : a[i]? = some x) (hy : b[k]? = some y) (hc : l[i + k + 1]? = some c) :
  MInv a b (l.set (i + k + 1) (c + ((x.toNat : Int) - 48) * ((y.toNat : Int) - 48))) i (k + 1) := by
 obtain ⟨hi, rfl⟩ := List.getElem?_eq_some_iff.1 hx
 obtain ⟨hk, rfl⟩ := List.getElem?_eq_some_iff.1 hy
 obtain ⟨hj, rfl⟩ := List.getElem?_eq_some_iff.1 hc
 have h1 := dgI (ha _ (List.getElem_mem hi))
 have h2 := dgI (hb _ (List.getElem_mem hk))
 have hm : 0 ≤ ((a[i].toNat : Int) - 48) * ((b[k].toNat : Int) - 48) ∧ ((a[i].toNat : Int) - 48) * ((b[k].toNat : Int) - 48) ≤ 81 := by
  constructor
  ·exact Int.mul_nonneg h1.1 h2.1
  ·have h3 : ((a[i].toNat : Int) - 48) * ((b[k].toNat : Int) - 48) ≤ 9 * ((b[k].toNat : Int) - 48) := Int.mul_le_mul_of_nonneg_right h1.2 h2.1
   omega
 refine ⟨by simp [h.len], fun z hz => ?_, ?_⟩
 ·rcases List.mem_or_eq_of_mem_set hz with h3 | h3
  ·have := h.bd z h3; omega
  ·have := h.bd _ (List.getElem_mem hj); omega
 ·rw [cv_set hj, h.val, h.len, take_dg hi]
  have e := dv_take hk
  rw [e]
  have ex : ((a[i].toNat - 48 : Nat) : Int) = (a[i].toNat : Int) - 48 := by omega
  have ey : ((b[k].toNat - 48 : Nat) : Int) = (b[k].toNat : Int) - 48 := by omega
  rw [Int.natCast_add, Int.natCast_mul, ex, ey]
  have e1 : a.length + b.length - (i + 1) - k = (a.length + b.length - (i + k + 1 + 1)) + 1 := by omega
  have e2 : a.length + b.length - (i + 1) - (k + 1) = a.length + b.length - (i + k + 1 + 1) := by omega
  rw [e1, e2, Int.pow_succ]
  generalize (10 : Int) ^ (a.length + b.length - (i + k + 1 + 1)) = p
  grind
theorem MInv.row {a b : List UInt8} {l : List Int} {i : Nat} (h : MInv a b l i b.length) (hi : i < a.length) : MInv a b l (i + 1) 0 := by
 refine ⟨h.len, fun x hx => ?_, ?_⟩
 ·have := h.bd x hx
  rw [Nat.add_mul]; simp only [Nat.one_mul, Nat.add_zero]; exact this
 ·rw [h.val, List.take_length]
  have e0 : dv (b.take 0) = 0 := rfl
  rw [e0]
  have e : a.length - i = (a.length - (i + 1)) + 1 := by omega
  have e1 : a.length + b.length - (i + 1) - b.length = a.length - (i + 1) := by omega
  rw [e, e1, Int.pow_succ]
  generalize (10 : Int) ^ (a.length - (i + 1)) = p
  grind
theorem MInv.all {a b : List UInt8} {l : List Int} (h : MInv a b l a.length 0) : cv l = (dv a : Int) * dv b := by
 have := h.val
 have e0 : dv (b.take 0) = 0 := rfl
 rw [e0, List.take_length] at this
 simpa using this
structure CInv (l : List Int) (o : List UInt8) (k : Nat) (c : Int) (M : Int) : Prop where
 len : o.length = l.length
 le : k ≤ l.length
 dig : ∀ x ∈ o.drop k, isD x
 c0 : 0 ≤ c ∧ c ≤ M
 val : (dv (o.drop k) : Int) + c * 10 ^ (l.length - k) = cv (l.drop k)
theorem CInv.zero {l : List Int} {o : List UInt8} {M : Int} (h : o.length = l.length) (hM : 0 ≤ M) : CInv l o l.length 0 M := by
 refine ⟨h, Nat.le_refl _, ?_, by omega, ?_⟩
 ·rw [List.drop_eq_nil_of_le (by omega)]; simp
 ·rw [List.drop_eq_nil_of_le (by omega), List.drop_eq_nil_of_le (by omega)]
  simp [dv, dvA, cv, cvA]
theorem CInv.step {l : List Int} {o : List UInt8} {k : Nat} {c M x : Int} (h : CInv l o (k + 1) c M) (hx : l[k]? = some x) (hx0 : 0 ≤ x ∧ x ≤ M) : CInv l (o.set k (byt ((c + x) % 10))) k ((c + x) / 10) M := by
 have hk := h.le
 obtain ⟨hkl, rfl⟩ := List.getElem?_eq_some_iff.1 hx
 have h0 := h.c0
 have hd : 0 ≤ (c + l[k]) % 10 ∧ (c + l[k]) % 10 ≤ 9 := by omega
 have hko : k < o.length := by rw [h.len]; omega
 refine ⟨by simp [h.len], by omega, ?_, by omega, ?_⟩
 ·rw [drop_set_self hko]
  intro z hz
  rcases List.mem_cons.1 hz with rfl | hz
  ·exact byt_dig hd
  ·exact h.dig z hz
 ·have hv := h.val
  rw [drop_set_self hko, dv_cons, cv_drop hkl, Int.natCast_add, Int.natCast_mul, byt_dv hd, List.length_drop, h.len]
  have e : l.length - k = (l.length - (k + 1)) + 1 := by omega
  rw [e, Int.pow_succ]
  have e3 : (c + l[k]) % 10 = (c + l[k]) - 10 * ((c + l[k]) / 10) := by omega
  rw [e3]
  generalize (c + l[k]) / 10 = q
  rw [← hv]
  have e4 : ((10 ^ (l.length - (k + 1)) : Nat) : Int) = 10 ^ (l.length - (k + 1)) := by simp
  rw [e4]
  generalize (10 : Int) ^ (l.length - (k + 1)) = p
  grind
theorem CInv.all {l : List Int} {o : List UInt8} {c M : Int} (h : CInv l o 0 c M) (ho : o ≠ []) {n : Nat} (hv : cv l = n) (hn : n < 10 ^ l.length) : bare o = decDigits n := by
 have hval := h.val
 have hd := h.dig
 rw [List.drop_zero] at hval hd
 rw [bare_dec o ho hd]
 congr 1
 rw [List.drop_zero, hv, Nat.sub_zero] at hval
 have hp : ((10 ^ l.length : Nat) : Int) = 10 ^ l.length := by simp
 rw [← hp] at hval
 have h0 := h.c0
 rcases (by omega : c = 0 ∨ 1 ≤ c) with rfl | h1
 ·omega
 ·have : 1 * ((10 ^ l.length : Nat) : Int) ≤ c * ((10 ^ l.length : Nat) : Int) := Int.mul_le_mul_of_nonneg_right h1 (by omega)
  omega
theorem div_step {u v d r q : Nat} (hr : r < v) (hq : u = q * v + r) (hd : d < 10) : (10 * r + d) / v < 10 ∧ (u * 10 + d) / v = q * 10 + (10 * r + d) / v ∧ (u * 10 + d) % v = (10 * r + d) % v := by
 have hv : 0 < v := by omega
 refine ⟨?_, ?_, ?_⟩
 ·rw [Nat.div_lt_iff_lt_mul hv]; omega
 ·subst hq
  have e : (q * v + r) * 10 + d = (10 * r + d) + v * (q * 10) := by grind
  rw [e, Nat.add_mul_div_left _ _ hv]; omega
 ·subst hq
  have e : (q * v + r) * 10 + d = (10 * r + d) + v * (q * 10) := by grind
  rw [e, Nat.add_mul_mod_self_left]
theorem less_dv : ∀ {a b : List UInt8}, a.length = b.length → (∀ x ∈ a, isD x) → (∀ x ∈ b, isD x) → (Op.bytesLess a b = true ↔ dv a < dv b)
 |[], [], _, _, _ => by simp [Op.bytesLess]
 |x :: a, y :: b, hl, ha, hb => by
  have hl' : a.length = b.length := by simpa using hl
  have ih := less_dv hl' (fun z hz => ha z (by simp [hz])) (fun z hz => hb z (by simp [hz]))
  have h1 := dgI (ha x (by simp))
  have h2 := dgI (hb y (by simp))
  have l1 := dv_lt a fun z hz => ha z (by simp [hz])
  have l2 := dv_lt b fun z hz => hb z (by simp [hz])
  rw [← hl'] at l2
  rw [dv_cons, dv_cons, ← hl']
  unfold Op.bytesLess
  generalize hp : 10 ^ a.length = p at l1 l2 ⊢
  rcases Nat.lt_trichotomy x.toNat y.toNat with h | h | h
  ·have h3 : (x.toNat - 48 + 1) * p ≤ (y.toNat - 48) * p := Nat.mul_le_mul_right _ (by omega)
   rw [Nat.add_mul] at h3
   have hx : x < y := h
   simp [hx]; omega
  ·have : x = y := UInt8.toNat_inj.1 h
   subst this
   simp [ih]
  ·have h3 : (y.toNat - 48 + 1) * p ≤ (x.toNat - 48) * p := Nat.mul_le_mul_right _ (by omega)
   rw [Nat.add_mul] at h3
   have hx : ¬ x < y := by show ¬ x.toNat < y.toNat; omega
   have hne : x ≠ y := by rintro rfl; omega
   simp [hx, hne]; omega
theorem dec_lt_len {u v : Nat} (h : (decDigits u).length < (decDigits v).length) : u < v := by
 rcases Nat.lt_or_ge u v with h1 | h1
 ·exact h1
 ·exfalso
  have h2 := dv_lt _ (dec_dig u)
  rw [dv_dec] at h2
  have h3 : 0 < (decDigits u).length := List.length_pos_iff.2 (dec_ne u)
  have := dec_len (k := v) (n := (decDigits u).length) (by omega) h3
  omega
theorem dec_less (u v : Nat) : ((decDigits u).length < (decDigits v).length ∨ (decDigits u).length = (decDigits v).length ∧ Op.bytesLess (decDigits u) (decDigits v) = true) ↔ u < v := by
 constructor
 ·rintro (h | ⟨h1, h2⟩)
  ·exact dec_lt_len h
  ·have := (less_dv h1 (dec_dig u) (dec_dig v)).1 h2
   rwa [dv_dec, dv_dec] at this
 ·intro h
  rcases Nat.lt_trichotomy (decDigits u).length (decDigits v).length with h1 | h1 | h1
  ·exact .inl h1
  ·refine .inr ⟨h1, (less_dv h1 (dec_dig u) (dec_dig v)).2 ?_⟩
   rwa [dv_dec, dv_dec]
  ·have := dec_lt_len h1; omega
theorem tmod_fmod {m n : Int} (hn : n ≠ 0) : m.fmod n = if m.tmod n ≠ 0 ∧ ¬ (m.tmod n < 0 ↔ n < 0) then m.tmod n + n else m.tmod n := by
 have h1 := Int.mul_tdiv_add_tmod m n
 have h2 : (m.tmod n).natAbs < n.natAbs := by
  rw [Int.natAbs_tmod]; exact Nat.mod_lt _ (by omega)
 rw [Int.mul_comm] at h1
 generalize m.tdiv n = q at h1
 generalize m.tmod n = r at h1 h2 ⊢
 split
 ·rename_i h
  exact (fdiv_unique (q := q - 1) (r := r + n) (by rw [Int.sub_mul]; omega) (by omega)).2
 ·rename_i h
  exact (fdiv_unique (q := q) (r := r) (by omega) (by omega)).2
theorem fdiv_tdiv {m n : Int} (hn : n ≠ 0) : (m - m.fmod n).tdiv n = m.fdiv n := by
 have h1 := Int.mul_fdiv_add_fmod m n
 have e : m - m.fmod n = n * m.fdiv n := by omega
 rw [e, Int.mul_tdiv_cancel_left _ hn]
theorem fmod_lt {m n : Int} (hn : n ≠ 0) : (m.fmod n).natAbs < n.natAbs := by
 rw [tmod_fmod hn]
 have h2 : (m.tmod n).natAbs < n.natAbs := by
  rw [Int.natAbs_tmod]; exact Nat.mod_lt _ (by omega)
 split <;> omega
def LI (k : Nat) (m : Int) : Prop := m.natAbs < 10 ^ k
theorem LI.len {k : Nat} {m : Int} (h : LI k m) (hk : 0 < k) : (decDigits m.natAbs).length ≤ k := dec_len h hk
theorem LI.of_len {k : Nat} {m : Int} (h : (decDigits m.natAbs).length ≤ k) : LI k m := by
 have hlt := dv_lt _ (dec_dig m.natAbs)
 rw [dv_dec] at hlt
 exact Nat.lt_of_lt_of_le hlt (Nat.pow_le_pow_right (by decide) h)
theorem LI.mono {k l : Nat} {m : Int} (h : LI k m) (hl : k ≤ l) : LI l m := Nat.lt_of_lt_of_le h (Nat.pow_le_pow_right (by decide) hl)
theorem LI.le {k : Nat} {m n : Int} (h : LI k m) (hl : n.natAbs ≤ m.natAbs) : LI k n := Nat.lt_of_le_of_lt hl h
theorem LI.neg {k : Nat} {m : Int} (h : LI k m) : LI k (-m) := h.le (by omega)
theorem LI.abs {k : Nat} {m : Int} (h : LI k m) : LI k ((m.natAbs : Nat) : Int) := h.le (by omega)
theorem LI.add {k : Nat} {m n : Int} (h : LI k m) (h' : LI k n) : LI (k + 1) (m + n) := by
 unfold LI at *
 rw [Nat.pow_succ]; omega
theorem LI.sub {k : Nat} {m n : Int} (h : LI k m) (h' : LI k n) : LI (k + 1) (m - n) := by
 unfold LI at *
 rw [Nat.pow_succ]; omega
theorem LI.mul {k l : Nat} {m n : Int} (h : LI k m) (h' : LI l n) : LI (k + l) (m * n) := by
 unfold LI at *
 rw [Nat.pow_add, Int.natAbs_mul]
 exact Nat.mul_lt_mul'' h h'
theorem LI.fdiv {k : Nat} {m n : Int} (h : LI k m) (hn : n ≠ 0) : LI (k + 1) (m.fdiv n) := by
 have h1 := Nat.div_le_self m.natAbs n.natAbs
 have h2 := fdiv_of m n hn
 unfold LI at *
 rw [Nat.pow_succ]
 have hp : 0 < 10 ^ k := Nat.pow_pos (by decide)
 generalize m.natAbs / n.natAbs = q at h1 h2
 split at h2
 ·omega
 ·split at h2 <;> omega
theorem LI.small {k : Nat} {m : Int} (h : m.natAbs < 10) (hk : 0 < k) : LI k m := by
 unfold LI
 have : 10 ^ 1 ≤ 10 ^ k := Nat.pow_le_pow_right (by decide) hk
 omega
def szL : List UInt8 → List UInt8
 |[] => []
 |b :: r => if b = 45 then r else b :: r
structure IsNum (l : List UInt8) : Prop where
 ne : szL l ≠ []
 hd : (szL l).head? = some 48 → l = [48]
 dig : ∀ b ∈ szL l, isD b
theorem dig45 {b : UInt8} (h : isD b) : b ≠ 45 := by
 rintro rfl; exact absurd h (by decide)
theorem dec_cons (u : Nat) : ∃ b r, decDigits u = b :: r ∧ isD b := by
 cases h : decDigits u with
 |nil => exact absurd h (dec_ne u)
 |cons b r => exact ⟨b, r, rfl, dec_dig u b (by rw [h]; simp)⟩
theorem szL_dec (u : Nat) : szL (decDigits u) = decDigits u := by
 obtain ⟨b, r, h, hd⟩ := dec_cons u
 rw [h, szL, if_neg (dig45 hd)]
theorem itoa_neg {m : Int} (h : m < 0) : itoa m = 45 :: decDigits m.natAbs := by unfold itoa; rw [if_pos h]
theorem itoa_pos {m : Int} (h : ¬ m < 0) : itoa m = decDigits m.natAbs := by
 unfold itoa; rw [if_neg h]; congr 1; omega
theorem szL_itoa (m : Int) : szL (itoa m) = decDigits m.natAbs := by
 by_cases h : m < 0
 ·rw [itoa_neg h, szL, if_pos rfl]
 ·rw [itoa_pos h, szL_dec]
theorem dec_zero : decDigits 0 = [48] := by rw [decDigits]; rfl
theorem dec_head0 {u : Nat} (h : (decDigits u).head? = some 48) : u = 0 := by
 cases hd : decDigits u with
 |nil => exact absurd hd (dec_ne u)
 |cons b r =>
  rw [hd] at h
  simp at h
  subst h
  have := dec_hd u r hd
  subst this
  have hv := dv_dec u
  rw [hd] at hv
  simp [dv, dvA] at hv
  exact hv.symm
theorem isNum_itoa (m : Int) : IsNum (itoa m) := by
 refine ⟨by rw [szL_itoa]; exact dec_ne _, fun h => ?_, by rw [szL_itoa]; exact dec_dig _⟩
 rw [szL_itoa] at h
 have := dec_head0 h
 obtain rfl : m = 0 := by omega
 rw [itoa_pos (by decide)]; exact dec_zero
theorem isNum_iff (l : List UInt8) : IsNum l ↔ ∃ m : Int, l = itoa m := by
 constructor
 ·intro h
  have hc : Can (szL l) := ⟨h.ne, h.dig, fun r hr => by
   have := h.hd (by rw [hr]; rfl)
   subst this
   have e : szL [48] = [48] := rfl
   rw [e] at hr
   injection hr with _ hr
   exact hr.symm⟩
  obtain ⟨u, hu⟩ := can_iff.1 hc
  cases l with
  |nil => exact absurd rfl h.ne
  |cons b r =>
   by_cases hb : b = 45
   ·subst hb
    have e : szL (45 :: r) = r := by rw [szL, if_pos rfl]
    rw [e] at hu
    have h0 : u ≠ 0 := by
     rintro rfl
     have := h.hd (by rw [e, hu, dec_zero]; rfl)
     injection this with h1 _
     exact absurd h1 (by decide)
    exact ⟨-(u : Int), by rw [itoa_neg (by omega), hu]; simp⟩
   ·have e : szL (b :: r) = b :: r := by rw [szL, if_neg hb]
    rw [e] at hu
    exact ⟨(u : Int), by rw [hu, itoa_nat]⟩
 ·rintro ⟨m, rfl⟩; exact isNum_itoa m
open Classical in
noncomputable def chk (l : List UInt8) : Int := if IsNum l then (if 1024 < (szL l).length then 11 else 0) else 3
theorem chk_bad {l : List UInt8} (h : ¬ IsNum l) : chk l = 3 := if_neg h
theorem chk_num {m : Int} (h : LI 1000 m) : chk (itoa m) = 0 := by
 unfold chk
 rw [if_pos (isNum_itoa m), szL_itoa, if_neg]
 have := h.len (by decide); omega
theorem chk_good {l : List UInt8} (h : chk l = 0) : ∃ m : Int, l = itoa m := by
 unfold chk at h
 split at h
 ·rename_i hn; exact (isNum_iff l).1 hn
 ·exact absurd h (by decide)
theorem chk_short {l : List UInt8} (hl : l.length ≤ 1000) : chk l = 0 ∨ chk l = 3 := by
 unfold chk
 split
 ·rw [if_neg]
  ·exact .inl rfl
  ·have : (szL l).length ≤ l.length := by
    cases l with
    |nil => simp [szL]
    |cons b r =>
     by_cases hb : b = 45
     ·rw [szL, if_pos hb]; simp
     ·rw [szL, if_neg hb]; exact Nat.le_refl _
   omega
 ·exact .inr rfl
def spI (l : List UInt8) : Option Nat := l.findIdx? (· == 47)
def spN (l : List UInt8) : List UInt8 := match spI l with | some i => l.take i | none => l
def spD (l : List UInt8) : List UInt8 := match spI l with | some i => l.drop (i + 1) | none => [49]
theorem spI_none {l : List UInt8} (h : (47 : UInt8) ∉ l) : spI l = none := by
 unfold spI
 rw [List.findIdx?_eq_none_iff]
 intro x hx
 simp
 rintro rfl; exact h hx
theorem spI_some {a b : List UInt8} (h : (47 : UInt8) ∉ a) : spI (a ++ 47 :: b) = some a.length := by
 unfold spI
 induction a with
 |nil => rw [List.nil_append, List.findIdx?_cons]; rfl
 |cons x a ih =>
  have hx : (x == 47) = false := by simp; rintro rfl; exact h (by simp)
  rw [List.cons_append, List.findIdx?_cons, hx, ih (fun q => h (by simp [q]))]
  simp
theorem spI_at {l : List UInt8} {i : Nat} (h : spI l = some i) : l = l.take i ++ 47 :: l.drop (i + 1) ∧ (47 : UInt8) ∉ l.take i ∧ i < l.length := by
 unfold spI at h
 rw [List.findIdx?_eq_some_iff_getElem] at h
 obtain ⟨hi, h1, h2⟩ := h
 refine ⟨?_, fun hm => ?_, hi⟩
 ·conv => lhs; rw [← List.take_append_drop i l, List.drop_eq_getElem_cons hi]
  simp at h1
  rw [h1]
 ·obtain ⟨k, hk, e⟩ := List.getElem_of_mem hm
  have hk' : k < i := by simp at hk; omega
  have := h2 k hk'
  rw [List.getElem_take] at e
  simp [e] at this
def IsRat (l : List UInt8) : Prop := ∃ q : Rat, l = rtx q
theorem rtx_int (m : Int) : rtx (m : Rat) = itoa m := by
 unfold rtx
 rw [if_pos (by simp)]
 simp
theorem spI_rtx (q : Rat) : spI (rtx q) = if q.den = 1 then none else some (itoa q.num).length := by
 unfold rtx
 split
 ·exact spI_none (no47 _)
 ·exact spI_some (no47 _)
theorem spN_rtx (q : Rat) : spN (rtx q) = itoa q.num := by
 unfold spN
 rw [spI_rtx]
 by_cases h : q.den = 1
 ·rw [if_pos h]; simp only [rtx, if_pos h]
 ·rw [if_neg h]; simp only [rtx, if_neg h]; simp
theorem spD_rtx (q : Rat) : spD (rtx q) = itoa (q.den : Int) := by
 unfold spD
 rw [spI_rtx, itoa_nat]
 by_cases h : q.den = 1
 ·rw [if_pos h, h]; rw [decDigits]; rfl
 ·rw [if_neg h]; simp only [rtx, if_neg h]; simp
theorem isRat_mid (m e : Int) : IsRat (itoa m ++ 47 :: itoa e) ↔ 1 < e ∧ Int.gcd m e = 1 := by
 constructor
 ·rintro ⟨q, hq⟩
  unfold rtx at hq
  split at hq
  ·exact absurd (hq ▸ (by simp : (47 : UInt8) ∈ itoa m ++ 47 :: itoa e)) (no47 _)
  ·rename_i h1
   obtain ⟨e1, e2⟩ := split47 (no47 _) (no47 _) hq
   rw [← itoa_nat] at e2
   have hm := itoa_inj e1
   have he := itoa_inj e2
   have := q.den_nz
   subst hm he
   exact ⟨by omega, by have := q.reduced; unfold Nat.Coprime at this; exact this⟩
 ·rintro ⟨h1, h2⟩
  refine ⟨⟨m, e.toNat, by omega, ?_⟩, ?_⟩
  ·unfold Nat.Coprime
   rw [show e.toNat = e.natAbs by omega]; exact h2
  ·unfold rtx
   have hne : ¬ (e.toNat = 1) := by omega
   rw [if_neg hne, ← itoa_nat]
   show _ = itoa m ++ 47 :: itoa ((e.toNat : Nat) : Int)
   rw [Int.toNat_of_nonneg (by omega)]
theorem isRat_num (m : Int) : IsRat (itoa m) := ⟨m, (rtx_int m).symm⟩
theorem isRat_parts {l : List UInt8} (h : IsRat l) : IsNum (spN l) ∧ IsNum (spD l) := by
 obtain ⟨q, rfl⟩ := h
 rw [spN_rtx, spD_rtx]
 exact ⟨isNum_itoa _, isNum_itoa _⟩
open Classical in
noncomputable def chkR (l : List UInt8) : Int := if IsRat l then 0 else 3
theorem chkR_rtx (q : Rat) : chkR (rtx q) = 0 := if_pos ⟨q, rfl⟩
theorem chkR_bad {l : List UInt8} (h : ¬ IsRat l) : chkR l = 3 := if_neg h
def LR (k : Nat) (q : Rat) : Prop := LI k q.num ∧ LI k (q.den : Int)
theorem LR.mono {k l : Nat} {q : Rat} (h : LR k q) (hl : k ≤ l) : LR l q := ⟨h.1.mono hl, h.2.mono hl⟩
theorem divInt_LR {k : Nat} {n d : Int} (hd : d ≠ 0) (hn : LI k n) (hdd : LI k d) : LR k (Rat.divInt n d) := by
 have hg : 0 < d.gcd n := Nat.pos_of_ne_zero fun h => hd (Int.gcd_eq_zero_iff.1 h).1
 constructor
 ·refine hn.le ?_
  rw [Rat.num_divInt]
  have h1 : ((d.gcd n : Nat) : Int) ∣ d.sign * n := Int.dvd_mul_of_dvd_right (Int.gcd_dvd_right ..)
  have h2 := Int.ediv_mul_cancel h1
  generalize d.sign * n / ((d.gcd n : Nat) : Int) = a at h2
  have h3 := congrArg Int.natAbs h2
  rw [Int.natAbs_mul, Int.natAbs_mul, Int.natAbs_natCast, Int.natAbs_sign_of_ne_zero hd, Nat.one_mul] at h3
  rw [← h3]
  exact Nat.le_mul_of_pos_right _ hg
 ·refine hdd.le ?_
  rw [Rat.den_divInt, if_neg hd, Int.natAbs_natCast]
  exact Nat.div_le_self ..
theorem sub_eq (q r : Rat) : q - r = Rat.divInt (q.num * r.den - r.num * q.den) (q.den * r.den) := by
 conv => lhs; rw [← Rat.num_divInt_den q, ← Rat.num_divInt_den r]
 rw [Rat.divInt_sub_divInt _ _ (by have := q.den_nz; omega) (by have := r.den_nz; omega)]
theorem add_eq (q r : Rat) : q + r = Rat.divInt (q.num * r.den + r.num * q.den) (q.den * r.den) := by
 conv => lhs; rw [← Rat.num_divInt_den q, ← Rat.num_divInt_den r]
 rw [Rat.divInt_add_divInt _ _ (by have := q.den_nz; omega) (by have := r.den_nz; omega)]
theorem mul_eq (q r : Rat) : q * r = Rat.divInt (q.num * r.num) (q.den * r.den) := by
 conv => lhs; rw [← Rat.num_divInt_den q, ← Rat.num_divInt_den r]
 rw [Rat.divInt_mul_divInt]
theorem div_eq (q r : Rat) : q / r = Rat.divInt (q.num * r.den) (q.den * r.num) := by
 conv => lhs; rw [Rat.div_def, ← Rat.num_divInt_den q, ← Rat.num_divInt_den r, Rat.inv_divInt]
 rw [Rat.divInt_mul_divInt]
theorem LR.sub {k : Nat} {q r : Rat} (h : LR k q) (h' : LR k r) : LR (k + k + 1) (q - r) := by
 rw [sub_eq]
 exact divInt_LR (by have := q.den_nz; have := r.den_nz; simp; omega) ((h.1.mul h'.2).sub (h'.1.mul h.2)) ((h.2.mul h'.2).mono (by omega))
theorem LR.add {k : Nat} {q r : Rat} (h : LR k q) (h' : LR k r) : LR (k + k + 1) (q + r) := by
 rw [add_eq]
 exact divInt_LR (by have := q.den_nz; have := r.den_nz; simp; omega) ((h.1.mul h'.2).add (h'.1.mul h.2)) ((h.2.mul h'.2).mono (by omega))
theorem LR.mul {k : Nat} {q r : Rat} (h : LR k q) (h' : LR k r) : LR (k + k) (q * r) := by
 rw [mul_eq]
 exact divInt_LR (by have := q.den_nz; have := r.den_nz; simp; omega) (h.1.mul h'.1) (h.2.mul h'.2)
theorem num0 {r : Rat} (h : r ≠ 0) : r.num ≠ 0 := fun e => h (Rat.num_eq_zero.1 e)
theorem LR.div {k : Nat} {q r : Rat} (h : LR k q) (h' : LR k r) (h0 : r ≠ 0) : LR (k + k) (q / r) := by
 rw [div_eq]
 exact divInt_LR (Int.mul_ne_zero (by have := q.den_nz; omega) (num0 h0)) (h.1.mul h'.2) (h.2.mul h'.1)
theorem LR.int {k : Nat} {m : Int} (h : LI k m) (hk : 0 < k) : LR k (m : Rat) := by
 constructor
 ·simpa using h
 ·simp; exact .small (by decide) hk
theorem LR.neg {k : Nat} {q : Rat} (h : LR k q) : LR k (-q) := ⟨by rw [Rat.neg_num]; exact h.1.neg, by rw [Rat.neg_den]; exact h.2⟩
def rsg (q : Rat) : Int := if q.num = 0 then 0 else if q.num < 0 then -1 else 1
def sgn (m : Int) : Int := if m = 0 then 0 else if m < 0 then -1 else 1
theorem sgn_divInt (n d : Int) (hd : 0 < d) : rsg (Rat.divInt n d) = sgn n := by
 unfold rsg sgn
 have hg : 0 < d.gcd n := Nat.pos_of_ne_zero fun h => by have := (Int.gcd_eq_zero_iff.1 h).1; omega
 have h1 : ((d.gcd n : Nat) : Int) ∣ n := Int.gcd_dvd_right ..
 have h2 := Int.ediv_mul_cancel h1
 have hnum : (Rat.divInt n d).num = n / ((d.gcd n : Nat) : Int) := by
  rw [Rat.num_divInt, Int.sign_eq_one_of_pos hd, Int.one_mul]
 rw [hnum]
 generalize n / ((d.gcd n : Nat) : Int) = a at h2
 generalize hG : ((d.gcd n : Nat) : Int) = g at h2
 have hg' : 0 < g := by omega
 rcases Int.lt_trichotomy a 0 with h | h | h
 ·have : n < 0 := by rw [← h2]; exact Int.mul_neg_of_neg_of_pos h hg'
  rw [if_neg (by omega), if_pos h, if_neg (by omega), if_pos this]
 ·subst h
  have : n = 0 := by rw [← h2]; simp
  rw [if_pos rfl, if_pos this]
 ·have : 0 < n := by rw [← h2]; exact Int.mul_pos h hg'
  rw [if_neg (by omega), if_neg (by omega), if_neg (by omega), if_neg (by omega)]
theorem sgn_sub (q r : Rat) : sgn (q.num * r.den - r.num * q.den) = rsg (q - r) := by
 rw [sub_eq, sgn_divInt]
 have := q.den_nz; have := r.den_nz
 exact Int.mul_pos (by omega) (by omega)
end Go.Na
namespace Go.Na
open Go
abbrev Mat := Nat → Nat → Rat
def sm (f : Nat → Rat) : Nat → Rat
 |0 => 0
 |n + 1 => sm f n + f n
theorem sm_congr {f g : Nat → Rat} : ∀ {n : Nat}, (∀ c, c < n → f c = g c) → sm f n = sm g n
 |0, _ => rfl
 |n + 1, h => by rw [sm, sm, sm_congr (fun c hc => h c (by omega)), h n (by omega)]
theorem sm_zero {f : Nat → Rat} : ∀ {n : Nat}, (∀ c, c < n → f c = 0) → sm f n = 0
 |0, _ => rfl
 |n + 1, h => by rw [sm, sm_zero (fun c hc => h c (by omega)), h n (by omega)]; grind
theorem sm_sub (f g : Nat → Rat) : ∀ n, sm (fun c => f c - g c) n = sm f n - sm g n
 |0 => by simp only [sm]; grind
 |n + 1 => by simp only [sm, sm_sub f g n]; grind
theorem sm_mul (a : Rat) (f : Nat → Rat) : ∀ n, sm (fun c => a * f c) n = a * sm f n
 |0 => by simp only [sm]; grind
 |n + 1 => by simp only [sm, sm_mul a f n]; grind
theorem sm_one {f : Nat → Rat} {j : Nat} : ∀ {n : Nat}, (∀ c, c < n → c ≠ j → f c = 0) → j < n → sm f n = f j
 |0, _, hj => by omega
 |n + 1, h, hj => by
  by_cases e : j = n
  ·subst e
   rw [sm, sm_zero (fun c hc => h c (by omega) (by omega))]; grind
  ·rw [sm, sm_one (fun c hc => h c (by omega)) (by omega), h n (by omega) (fun x => e x.symm)]; grind
def swp (M : Mat) (t p : Nat) : Mat := fun i c => if i = t then M p c else if i = p then M t c else M i c
def nrm (M : Mat) (t k : Nat) : Mat := fun i c => if i = t then M t c / M t k else M i c
def elm (M : Mat) (t k : Nat) : Mat := fun i c => if i = t then M t c else M i c - M i k * M t c
def piv (M : Mat) (k : Nat) : Nat → Nat → Nat
 |p, 0 => p
 |p, f + 1 => if M p k = 0 then piv M k (p + 1) f else p
def stp (n k : Nat) (s : Mat × List Nat) : Mat × List Nat :=
 if piv s.1 k s.2.length (n - s.2.length) = n then s
 else (elm (nrm (swp s.1 s.2.length (piv s.1 k s.2.length (n - s.2.length))) s.2.length k) s.2.length k, s.2 ++ [k])
def red (n : Nat) (M : Mat) : Nat → Mat × List Nat
 |0 => (M, [])
 |m + 1 => stp n m (red n M m)
theorem piv_le (M : Mat) (k : Nat) : ∀ (f p : Nat), p ≤ piv M k p f ∧ piv M k p f ≤ p + f
 |0, p => by simp [piv]
 |f + 1, p => by
  rw [piv]
  split
  ·have := piv_le M k f (p + 1); omega
  ·omega
theorem piv_ne (M : Mat) (k : Nat) : ∀ (f p : Nat), piv M k p f < p + f → M (piv M k p f) k ≠ 0
 |0, p, h => by simp [piv] at h
 |f + 1, p, h => by
  rw [piv] at h ⊢
  split
  ·rename_i h0
   rw [if_pos h0] at h
   exact piv_ne M k f (p + 1) (by omega)
  ·assumption
theorem piv_zero (M : Mat) (k : Nat) : ∀ (f p : Nat), piv M k p f = p + f → ∀ q, p ≤ q → q < p + f → M q k = 0
 |0, p, _, q, h1, h2 => by omega
 |f + 1, p, h, q, h1, h2 => by
  rw [piv] at h
  split at h
  ·rename_i h0
   by_cases e : q = p
   ·subst e; exact h0
   ·exact piv_zero M k f (p + 1) (by omega) q (by omega) (by omega)
  ·omega
def Ker (M : Mat) (n m : Nat) (v : Nat → Rat) : Prop := ∀ i, i < n → sm (fun c => M i c * v c) m = 0
theorem ker_swp {M : Mat} {n m t p : Nat} (ht : t < n) (hp : p < n) {v : Nat → Rat} : Ker (swp M t p) n m v ↔ Ker M n m v := by
 constructor
 ·intro h i hi
  by_cases e1 : i = t
  ·subst e1
   by_cases e2 : p = i
   ·have := h i hi; simp only [swp, if_pos] at this; rw [e2] at this; exact this
   ·have := h p hp
    simp only [swp, if_neg e2, if_pos] at this
    exact this
  ·by_cases e2 : i = p
   ·subst e2
    have := h t ht
    simp only [swp, if_pos] at this
    exact this
   ·have := h i hi
    simp only [swp, if_neg e1, if_neg e2] at this
    exact this
 ·intro h i hi
  simp only [swp]
  by_cases e1 : i = t
  ·simp only [if_pos e1]; exact h p hp
  ·simp only [if_neg e1]
   by_cases e2 : i = p
   ·simp only [if_pos e2]; exact h t ht
   ·simp only [if_neg e2]; exact h i hi
theorem ker_nrm {M : Mat} {n m t k : Nat} (h0 : M t k ≠ 0) {v : Nat → Rat} : Ker (nrm M t k) n m v ↔ Ker M n m v := by
 have key : sm (fun c => M t c / M t k * v c) m = (M t k)⁻¹ * sm (fun c => M t c * v c) m := by
  rw [← sm_mul]
  exact sm_congr fun c _ => by rw [Rat.div_def]; grind
 have hi0 : (M t k)⁻¹ ≠ 0 := fun e => by
  have := Rat.mul_inv_cancel (M t k) h0
  rw [e] at this; grind
 constructor
 ·intro h i hi
  have := h i hi
  by_cases e : i = t
  ·subst e
   simp only [nrm, if_pos] at this
   rw [key] at this
   rcases Rat.mul_eq_zero.1 this with h1 | h1
   ·exact absurd h1 hi0
   ·exact h1
  ·simp only [nrm, if_neg e] at this; exact this
 ·intro h i hi
  have := h i hi
  by_cases e : i = t
  ·subst e
   simp only [nrm, if_pos]
   rw [key, this]; grind
  ·simp only [nrm, if_neg e]; exact this
theorem ker_elm {M : Mat} {n m t k : Nat} (ht : t < n) {v : Nat → Rat} : Ker (elm M t k) n m v ↔ Ker M n m v := by
 have key : ∀ i, sm (fun c => (M i c - M i k * M t c) * v c) m = sm (fun c => M i c * v c) m - M i k * sm (fun c => M t c * v c) m := fun i => by
  rw [← sm_mul, ← sm_sub]
  exact sm_congr fun c _ => by grind
 constructor
 ·intro h
  have h1 := h t ht
  simp only [elm, if_pos] at h1
  intro i hi
  by_cases e : i = t
  ·subst e; exact h1
  ·have := h i hi
   simp only [elm, if_neg e] at this
   rw [key, h1] at this
   grind
 ·intro h i hi
  by_cases e : i = t
  ·subst e; simp only [elm, if_pos]; exact h i hi
  ·simp only [elm, if_neg e]
   rw [key, h i hi, h t ht]; grind
structure RedOk (M : Mat) (n m k : Nat) (s : Mat × List Nat) : Prop where
 lead : s.2 = List.range k
 unit : ∀ i c, i < n → c < k → s.1 i c = if i = c then 1 else 0
 ker : ∀ v, Ker s.1 n m v ↔ Ker M n m v
theorem red_step {M : Mat} {n m k : Nat} (hk : k < n) (hnm : n ≤ m) (hM : ∀ v, Ker M n m v → (∀ c, n ≤ c → c < m → v c = 0) → ∀ c, c < n → v c = 0) {s : Mat × List Nat} (h : RedOk M n m k s) :
  (k ≤ piv s.1 k k (n - k) ∧ piv s.1 k k (n - k) < n ∧ s.1 (piv s.1 k k (n - k)) k ≠ 0) ∧ RedOk M n m (k + 1) (stp n k s) := by
 have hlen : s.2.length = k := by rw [h.lead]; simp
 have hle := piv_le s.1 k (n - k) k
 have hne : piv s.1 k k (n - k) ≠ n := by
  intro e
  have hz := piv_zero s.1 k (n - k) k (by omega)
  have hv : Ker s.1 n m (fun c => if c = k then 1 else if c < k then - s.1 c k else 0) := by
   intro i hi
   by_cases hik : i < k
   ·have h1 : sm (fun c => s.1 i c * (if c = k then 1 else if c < k then - s.1 c k else 0)) m = sm (fun c => (if c = k then s.1 i k else 0) - (if c = i then s.1 i k else 0)) m := by
     refine sm_congr fun c hc => ?_
     by_cases e1 : c = k
     ·subst e1; rw [if_pos rfl, if_pos rfl, if_neg (by omega)]; grind
     ·rw [if_neg e1, if_neg e1]
      by_cases e2 : c < k
      ·rw [if_pos e2, h.unit i c hi e2]
       by_cases e3 : i = c
       ·subst e3; rw [if_pos rfl, if_pos rfl]; grind
       ·rw [if_neg e3, if_neg (fun x => e3 x.symm)]; grind
      ·rw [if_neg e2, if_neg (by omega)]; grind
    rw [h1, sm_sub, sm_one (j := k) (fun c _ hc => if_neg hc) (by omega), sm_one (j := i) (fun c _ hc => if_neg hc) (by omega), if_pos rfl, if_pos rfl]
    grind
   ·refine sm_zero fun c hc => ?_
    by_cases e1 : c = k
    ·subst e1; rw [hz i (by omega) (by omega)]; grind
    ·dsimp only
     rw [if_neg e1]
     by_cases e2 : c < k
     ·rw [if_pos e2, h.unit i c hi e2, if_neg (by omega)]; grind
     ·rw [if_neg e2]; grind
  have := hM _ ((h.ker _).1 hv) (fun c h1 h2 => by rw [if_neg (by omega), if_neg (by omega)]) k hk
  rw [if_pos rfl] at this
  exact absurd this (by decide)
 have hlt : piv s.1 k k (n - k) < n := by omega
 have hn0 := piv_ne s.1 k (n - k) k (by omega)
 refine ⟨⟨hle.1, hlt, hn0⟩, ?_⟩
 unfold stp
 rw [hlen, if_neg hne]
 generalize piv s.1 k k (n - k) = p at hle hlt hn0
 have hs0 : swp s.1 k p k k ≠ 0 := by simp only [swp, if_pos]; exact hn0
 have hsu : ∀ i c, i < n → c < k → swp s.1 k p i c = if i = c then 1 else 0 := by
  intro i c hi hc
  simp only [swp]
  by_cases e1 : i = k
  ·subst e1; rw [if_pos rfl, h.unit p c hlt hc, if_neg (by omega), if_neg (by omega)]
  ·rw [if_neg e1]
   by_cases e2 : i = p
   ·subst e2; rw [if_pos rfl, h.unit k c hk hc, if_neg (by omega), if_neg (by omega)]
   ·rw [if_neg e2, h.unit i c hi hc]
 refine ⟨by rw [h.lead, List.range_succ], fun i c hi hc => ?_, fun v => ?_⟩
 ·by_cases e : c = k
  ·subst e
   by_cases e1 : i = c
   ·subst e1
    simp only [elm, nrm, if_pos]
    rw [Rat.div_def]; exact Rat.mul_inv_cancel _ hs0
   ·simp only [elm, nrm, if_neg e1, if_pos]
    rw [Rat.div_def, Rat.mul_inv_cancel _ hs0]; grind
  ·have hck : c < k := by omega
   have h1 := hsu i c hi hck
   have h2 := hsu k c hk hck
   rw [if_neg (by omega)] at h2
   by_cases e1 : i = k
   ·subst e1
    simp only [elm, nrm, if_pos]
    rw [h2, if_neg (by omega), Rat.div_def]; grind
   ·simp only [elm, nrm, if_neg e1, if_pos]
    rw [h2, h1, Rat.div_def]; grind
 ·rw [ker_elm hk, ker_nrm hs0, ker_swp hk hlt, h.ker]
theorem red_ok {M : Mat} {n m : Nat} (hnm : n ≤ m) (hM : ∀ v, Ker M n m v → (∀ c, n ≤ c → c < m → v c = 0) → ∀ c, c < n → v c = 0) : ∀ k, k ≤ n → RedOk M n m k (red n M k)
 |0, _ => ⟨rfl, fun i c _ hc => absurd hc (Nat.not_lt_zero _), fun v => Iff.rfl⟩
 |k + 1, hk => (red_step hk hnm hM (red_ok hnm hM k (by omega))).2
theorem red_stay {M : Mat} {n m : Nat} (hnm : n ≤ m) (hM : ∀ v, Ker M n m v → (∀ c, n ≤ c → c < m → v c = 0) → ∀ c, c < n → v c = 0) : ∀ j, red n M (n + j) = red n M n
 |0 => rfl
 |j + 1 => by
  rw [← Nat.add_assoc, red, red_stay hnm hM j]
  have hlen : (red n M n).2.length = n := by rw [(red_ok hnm hM n (Nat.le_refl _)).lead]; simp
  unfold stp
  rw [hlen, Nat.sub_self, piv, if_pos rfl]
theorem red_sol {M : Mat} {n : Nat} (hM : ∀ v, Ker M n (n + 1) v → v n = 0 → ∀ c, c < n → v c = 0) (x : Nat → Rat) (hx : ∀ i, i < n → sm (fun c => M i c * x c) n = M i n) :
  (red n M (n + 1)).2 = List.range n ∧ ∀ i, i < n → (red n M (n + 1)).1 i n = x i := by
 have hM' : ∀ v, Ker M n (n + 1) v → (∀ c, n ≤ c → c < n + 1 → v c = 0) → ∀ c, c < n → v c = 0 := fun v h1 h2 => hM v h1 (h2 n (Nat.le_refl _) (by omega))
 rw [red_stay (Nat.le_succ n) hM' 1]
 have hok := red_ok (Nat.le_succ n) hM' n (Nat.le_refl _)
 refine ⟨hok.lead, fun i hi => ?_⟩
 have hk : Ker M n (n + 1) (fun c => if c = n then -1 else x c) := by
  intro i hi
  have h1 : sm (fun c => M i c * (if c = n then -1 else x c)) n = M i n := by
   rw [← hx i hi]
   exact sm_congr fun c hc => by rw [if_neg (by omega)]
  rw [sm, h1]; dsimp only; rw [if_pos rfl]; grind
 have h2 := (hok.ker _).2 hk i hi
 rw [sm, if_pos rfl] at h2
 have h3 : sm (fun c => (red n M n).1 i c * (if c = n then -1 else x c)) n = x i := by
  rw [sm_one (j := i) (fun c hc hne => by rw [hok.unit i c hi hc, if_neg (fun e => hne e.symm)]; grind) hi, hok.unit i i hi hi, if_pos rfl, if_neg (by omega)]
  grind
 rw [h3] at h2
 grind
end Go.Na
namespace Go.Proofs.YtgepmbjmaljgoaaGreatDoor.H
open Go Go.Vc Go.Na
def cz (p : Tr) (k : Nat) : Int := match k with | 0 => p.x | 1 => p.y | _ => p.z
def ou (k : Nat) : Nat := match k with | 0 => 1 | _ => 0
def ov (k : Nat) : Nat := match k with | 0 => 2 | 1 => 2 | _ => 1
def plc (k : Nat) (p : Tr) : Pt := ⟨cz p (ou k), cz p (ov k)⟩
structure Pl where
 A : Rat
 B : Rat
 C : Rat
 s : List Nat
deriving Inhabited, DecidableEq
def hgt (k : Nat) (A B C : Rat) (p : Tr) : Rat := (cz p k : Rat) - (A + (B * ((plc k p).x : Rat) + C * ((plc k p).y : Rat)))
def lowB (l : List Tr) (k : Nat) (A B C : Rat) (n : Nat) : Bool := (List.range n).any fun i => decide (hgt k A B C (gt l i) < 0)
def onL (l : List Tr) (k : Nat) (A B C : Rat) (n : Nat) : List Nat := (List.range n).filter fun i => decide (hgt k A B C (gt l i) = 0)
def mkP (l : List Tr) (k : Nat) (A B C : Rat) : Option Pl := if lowB l k A B C l.length = true then none else some ⟨A, B, C, onL l k A B C l.length⟩
def nvP (a b c : Tr) : Tr := tcr (tsub b a) (tsub c a)
def upP (k : Nat) (n : Tr) : Tr := if cz n k < 0 then ⟨-n.x, -n.y, -n.z⟩ else n
def nP (l : List Tr) (k a b c : Nat) : Tr := upP k (nvP (gt l a) (gt l b) (gt l c))
def mP (l : List Tr) (k a b c : Nat) : Int := tdot (nP l k a b c) (gt l a)
def aP (l : List Tr) (k a b c : Nat) : Rat := Rat.divInt (mP l k a b c) (cz (nP l k a b c) k)
def bP (l : List Tr) (k a b c : Nat) : Rat := Rat.divInt (-cz (nP l k a b c) (ou k)) (cz (nP l k a b c) k)
def cP (l : List Tr) (k a b c : Nat) : Rat := Rat.divInt (-cz (nP l k a b c) (ov k)) (cz (nP l k a b c) k)
def thr (l : List Tr) (k a b c : Nat) : Option Pl :=
 if cz (nvP (gt l a) (gt l b) (gt l c)) k = 0 then none else mkP l k (aP l k a b c) (bP l k a b c) (cP l k a b c)
def tripI (i j : Nat) : List (Nat × Nat × Nat) := (List.range j).map fun k => (k, j, i)
def tripJ (i : Nat) (n : Nat) : List (Nat × Nat × Nat) := (List.range n).flatMap fun j => tripI i j
def trip (n : Nat) : List (Nat × Nat × Nat) := (List.range n).flatMap fun i => tripJ i i
def thrT (l : List Tr) (k : Nat) (t : Nat × Nat × Nat) : Option Pl := thr l k t.1 t.2.1 t.2.2
def thrs (l : List Tr) (k : Nat) : List Pl := (trip l.length).filterMap (thrT l k)
theorem tdot_cz (n p : Tr) {k : Nat} (hk : k < 3) : tdot n p = cz n k * cz p k + cz n (ou k) * cz p (ou k) + cz n (ov k) * cz p (ov k) := by
 rcases (by omega : k = 0 ∨ k = 1 ∨ k = 2) with rfl | rfl | rfl <;> simp only [tdot, cz, ou, ov] <;> omega
theorem upP_pos {k : Nat} {n : Tr} (h : cz n k ≠ 0) : 0 < cz (upP k n) k := by
 unfold upP
 split
 ·rename_i h1
  match k with
  |0 => simp only [cz] at *; omega
  |1 => simp only [cz] at *; omega
  |k + 2 => simp only [cz] at *; omega
 ·omega
theorem divInt_cast (a b : Int) : Rat.divInt a b = (a : Rat) / (b : Rat) := by
 rw [Rat.divInt_eq_div]
theorem hgt_eq {l : List Tr} {k a b c : Nat} (hk : k < 3) (hn : cz (nvP (gt l a) (gt l b) (gt l c)) k ≠ 0) (p : Tr) :
  hgt k (aP l k a b c) (bP l k a b c) (cP l k a b c) p = ((tdot (nP l k a b c) p - mP l k a b c : Int) : Rat) / (cz (nP l k a b c) k : Rat) := by
 have hpos : 0 < cz (nP l k a b c) k := upP_pos hn
 have hne : (cz (nP l k a b c) k : Rat) ≠ 0 := by
  have : cz (nP l k a b c) k ≠ 0 := by omega
  simpa using this
 unfold hgt aP bP cP
 rw [divInt_cast, divInt_cast, divInt_cast, tdot_cz _ _ hk]
 simp only [plc, Rat.intCast_neg, Rat.intCast_sub, Rat.intCast_add, Rat.intCast_mul, Rat.div_def]
 have := Rat.mul_inv_cancel _ hne
 generalize (cz (nP l k a b c) k : Rat) = d at *
 generalize d⁻¹ = e at *
 grind
theorem hgt_sgn {l : List Tr} {k a b c : Nat} (hk : k < 3) (hn : cz (nvP (gt l a) (gt l b) (gt l c)) k ≠ 0) (p : Tr) :
  (hgt k (aP l k a b c) (bP l k a b c) (cP l k a b c) p < 0 ↔ tdot (nP l k a b c) p < mP l k a b c) ∧ (hgt k (aP l k a b c) (bP l k a b c) (cP l k a b c) p = 0 ↔ tdot (nP l k a b c) p = mP l k a b c) := by
 have hpos : 0 < cz (nP l k a b c) k := upP_pos hn
 have hq : (0 : Rat) < (cz (nP l k a b c) k : Rat) := by exact_mod_cast hpos
 rw [hgt_eq hk hn]
 generalize (cz (nP l k a b c) k : Rat) = d at *
 constructor
 ·rw [Rat.div_lt_iff hq, Rat.zero_mul]
  constructor
  ·intro h
   have : (tdot (nP l k a b c) p - mP l k a b c : Int) < 0 := by exact_mod_cast h
   omega
  ·intro h
   have : (tdot (nP l k a b c) p - mP l k a b c : Int) < 0 := by omega
   exact_mod_cast this
 ·constructor
  ·intro h
   have h1 : ((tdot (nP l k a b c) p - mP l k a b c : Int) : Rat) = 0 := by
    have := congrArg (· * d) h
    simp only [Rat.div_def, Rat.zero_mul] at this
    rw [Rat.mul_assoc, Rat.mul_comm d⁻¹ d, Rat.mul_inv_cancel d (by grind), Rat.mul_one] at this
    exact this
   have h2 : (tdot (nP l k a b c) p - mP l k a b c : Int) = 0 := by exact_mod_cast h1
   omega
  ·intro h
   rw [h, Int.sub_self]
   simp [Rat.div_def]
def ltP (P Q : Pl) : Prop := P.A < Q.A ∨ P.A = Q.A ∧ (P.B < Q.B ∨ P.B = Q.B ∧ P.C < Q.C)
instance (P Q : Pl) : Decidable (ltP P Q) := by unfold ltP; infer_instance
def eqP (P Q : Pl) : Prop := P.A = Q.A ∧ P.B = Q.B ∧ P.C = Q.C
instance (P Q : Pl) : Decidable (eqP P Q) := by unfold eqP; infer_instance
theorem ltP_irr (P : Pl) : ¬ ltP P P := by unfold ltP; grind
theorem ltP_tr {P Q R : Pl} (h : ltP P Q) (k : ltP Q R) : ltP P R := by unfold ltP at *; grind
theorem ltP_tri (P Q : Pl) : ltP P Q ∨ eqP P Q ∨ ltP Q P := by unfold ltP eqP; grind
theorem ltP_ne {P Q : Pl} (h : ltP P Q) : ¬ eqP P Q := by unfold ltP eqP at *; grind
def putP (p : Pl) : List Pl → List Pl
 |[] => [p]
 |q :: L => if ltP q p then q :: putP p L else if eqP q p then q :: L else p :: q :: L
def Asc (L : List Pl) : Prop := L.Pairwise ltP
theorem asc_ext : ∀ {L M : List Pl}, Asc L → Asc M → (∀ p, p ∈ L ↔ p ∈ M) → L = M
 |[], [], _, _, _ => rfl
 |[], q :: M, _, _, h => by have := (h q).2 (by simp); cases this
 |p :: L, [], _, _, h => by have := (h p).1 (by simp); cases this
 |p :: L, q :: M, hL, hM, h => by
  obtain ⟨hL1, hL2⟩ := List.pairwise_cons.1 hL
  obtain ⟨hM1, hM2⟩ := List.pairwise_cons.1 hM
  have hpq : p = q := by
   rcases List.mem_cons.1 ((h p).1 (by simp)) with e | e
   ·exact e
   ·rcases List.mem_cons.1 ((h q).2 (by simp)) with e' | e'
    ·exact e'.symm
    ·exact absurd (ltP_tr (hM1 p e) (hL1 q e')) (ltP_irr _)
  subst hpq
  rw [asc_ext hL2 hM2 (fun r => ?_)]
  constructor
  ·intro hr
   rcases List.mem_cons.1 ((h r).1 (by simp [hr])) with e | e
   ·subst e; exact absurd (hL1 r hr) (ltP_irr _)
   ·exact e
  ·intro hr
   rcases List.mem_cons.1 ((h r).2 (by simp [hr])) with e | e
   ·subst e; exact absurd (hM1 r hr) (ltP_irr _)
   ·exact e
theorem put_asc {p : Pl} : ∀ {L : List Pl}, Asc L → Asc (putP p L)
 |[], _ => by simp [putP, Asc]
 |q :: L, h => by
  obtain ⟨h1, h2⟩ := List.pairwise_cons.1 h
  unfold putP
  split
  ·rename_i hq
   refine List.pairwise_cons.2 ⟨fun r hr => ?_, put_asc h2⟩
   have : ∀ L : List Pl, r ∈ putP p L → r = p ∨ r ∈ L := by
    intro L
    induction L with
    |nil => intro h; simp [putP] at h; exact .inl h
    |cons q L ih =>
     intro h
     unfold putP at h
     split at h
     ·rcases List.mem_cons.1 h with e | e
      ·exact .inr (by simp [e])
      ·rcases ih e with e | e
       ·exact .inl e
       ·exact .inr (by simp [e])
     ·split at h
      ·exact .inr h
      ·rcases List.mem_cons.1 h with e | e
       ·exact .inl e
       ·exact .inr e
   rcases this L hr with e | e
   ·subst e; exact hq
   ·exact h1 r e
  ·split
   ·exact h
   ·rename_i hq he
    have hpq : ltP p q := by
     rcases ltP_tri p q with e | e | e
     ·exact e
     ·exact absurd ⟨e.1.symm, e.2.1.symm, e.2.2.symm⟩ he
     ·exact absurd e hq
    refine List.pairwise_cons.2 ⟨fun r hr => ?_, h⟩
    rcases List.mem_cons.1 hr with e | e
    ·subst e; exact hpq
    ·exact ltP_tr hpq (h1 r e)
theorem put_mem {L : List Pl} {p r : Pl} (hu : ∀ q, q = p ∨ q ∈ L → eqP q p → q = p) : r ∈ putP p L ↔ r = p ∨ r ∈ L := by
 induction L with
 |nil => simp [putP]
 |cons q L ih =>
  have ih := ih (fun x hx => hu x (hx.elim .inl (fun h => .inr (by simp [h]))))
  unfold putP
  split
  ·rw [List.mem_cons, ih, List.mem_cons]; grind
  ·split
   ·rename_i he
    have := hu q (.inr (by simp)) he
    subst this
    simp
   ·simp
def sortP (L : List Pl) : List Pl := L.foldl (fun a p => putP p a) []
theorem sortP_ok : ∀ {L a : List Pl}, (∀ p ∈ L ++ a, ∀ q ∈ L ++ a, eqP p q → p = q) → Asc a → Asc (L.foldl (fun a p => putP p a) a) ∧ ∀ r, r ∈ L.foldl (fun a p => putP p a) a ↔ r ∈ L ∨ r ∈ a
 |[], a, _, ha => ⟨ha, fun r => by simp⟩
 |p :: L, a, hu, ha => by
  have hm : ∀ r, r ∈ putP p a ↔ r = p ∨ r ∈ a := fun r => put_mem (fun q hq he => hu q (by rcases hq with e | e <;> simp [e]) p (by simp) he)
  obtain ⟨h1, h2⟩ := sortP_ok (L := L) (a := putP p a) (fun x hx y hy e => hu x (by
   rcases List.mem_append.1 hx with e | e
   ·simp [e]
   ·rcases (hm x).1 e with e | e <;> simp [e]) y (by
   rcases List.mem_append.1 hy with e | e
   ·simp [e]
   ·rcases (hm y).1 e with e | e <;> simp [e]) e) (put_asc ha)
  refine ⟨h1, fun r => ?_⟩
  rw [List.foldl_cons, h2, hm, List.mem_cons]
  grind
def candP (l : List Tr) (k : Nat) : List Pl := sortP (thrs l k)
theorem thr_s {l : List Tr} {k : Nat} {P : Pl} (h : P ∈ thrs l k) : mkP l k P.A P.B P.C = some P := by
 obtain ⟨t, _, ht⟩ := List.mem_filterMap.1 h
 unfold thrT thr at ht
 split at ht
 ·cases ht
 ·have h2 := ht
  unfold mkP at ht
  split at ht
  ·cases ht
  ·cases ht; exact h2
theorem thrs_uniq {l : List Tr} {k : Nat} {P Q : Pl} (hP : P ∈ thrs l k) (hQ : Q ∈ thrs l k) (h : eqP P Q) : P = Q := by
 have h1 := thr_s hP
 have h2 := thr_s hQ
 rw [h.1, h.2.1, h.2.2, h2] at h1
 exact (Option.some.inj h1).symm
theorem cand_ok (l : List Tr) (k : Nat) : Asc (candP l k) ∧ ∀ r, r ∈ candP l k ↔ r ∈ thrs l k := by
 have := sortP_ok (L := thrs l k) (a := []) (by simp only [List.append_nil]; exact fun p hp q hq e => thrs_uniq hp hq e) List.Pairwise.nil
 exact ⟨this.1, fun r => by rw [candP, sortP, this.2]; simp⟩
end Go.Proofs.YtgepmbjmaljgoaaGreatDoor.H
namespace Go.Proofs.YtgepmbjmaljgoaaGreatDoor.H
open Go Go.Vc Go.RowKit
set_option maxHeartbeats 4000000
theorem high_c (p : Tr) : CtrA Tryz.prog 113 [tp p] (vb (rightT p)) := by
 have h1 := wit_c p.x
 have h2 := wit_c p.y
 have h3 := wit_c p.z
 refine ctrA _ Tryz.func113 rfl rfl Tryz.ntmps113 rfl fun w Z => ?_
 refine zU ?_
 (refine wt ?_; repeat' (((first | refine sq_split rfl rfl ?_ ?_ | refine dq_split rfl rfl ?_ ?_) <;> intro hb <;> (try simp only [zA, zB, zG, zC, zD, zN] at hb) <;> (try (exfalso; omega))) <;> refine wt ?_))
 all_goals (refine sq_res1 rfl (.tmp rfl) (congrArg vb ?_); simp [rightT, *])
theorem pall_c (l : List Pt) (hn : l.length ≤ 1000) : CtrA Tryz.prog 165 [.val (.func (.func 104) #[] #[]), pts l] (vi (if l.all rightB then 0 else 2)) := by
 refine ctrA _ Tryz.func165 rfl rfl Tryz.ntmps165 rfl fun w Z => ?_
 refine zU ?_
 refine wt ?_
 refine cq_loop (γ := Nat) (fun k => [(0, .av (.val (.func (.func 104) #[] #[]))), (7, .av (pts l)), (8, .av (vi l.length)), (9, .av (vi k))]) (fun _ => []) (fun k => k ≤ l.length ∧ (l.take k).all rightB = true) (fun k => l.length - k) 0 ⟨Nat.zero_le _, by simp⟩ (ent zS trivial) ?_
 rintro k ⟨hk, hall⟩
 refine wt ?_
 (refine cq_cond rfl ?_ ?_ <;> intro hb <;> (try simp only [zA, zB, zG, zC, zD, zN] at hb) <;> (try (exfalso; omega)))
 ·have hkl : k < l.length := by omega
  have hf := flat_c (gp l k)
  refine wt ?_
  (refine cq_cond rfl ?_ ?_ <;> intro hb <;> (try simp only [zA, zB, zG, zC, zD, zN] at hb) <;> (try (exfalso; omega)))
  ·refine wt ?_
   refine sq_res1 rfl (.tmp rfl) (congrArg vi ?_)
   have : ¬ l.all rightB = true := fun h => by
    have := List.all_eq_true.1 h (gp l k) (gp_mem hkl)
    simp [this] at hb
   simp [this]
  ·refine wt ?_
   exact sq_round (k + 1) ⟨by omega, by rw [take_gp hkl]; simp only [List.all_append, hall, List.all_cons, List.all_nil, Bool.and_true, Bool.true_and]; exact hb⟩ (by omega) (ent zS trivial)
 ·refine wt ?_
  have : k = l.length := by omega
  subst this
  rw [List.take_length] at hall
  exact sq_res1 rfl (.tmp rfl) (congrArg vi (by simp [hall]))
theorem pchecked_c (l : List Pt) : CtrA Tryz.prog 103 [pts l, .val (.func (.func 104) #[] #[])] (vi (chk l)) := by
 refine ctrA _ Tryz.func103 rfl rfl Tryz.ntmps103 rfl fun w Z => ?_
 refine zU ?_
 refine wt ?_
 (refine cq_cond rfl ?_ ?_ <;> intro hb <;> (try simp only [zA, zB, zG, zC, zD, zN] at hb) <;> (try (exfalso; omega)))
 ·refine wt ?_
  exact sq_res1 rfl (.tmp rfl) (by simp [chk]; omega)
 ·have hp := pall_c l zO
  refine wt ?_
  exact sq_res1 rfl (.tmp rfl) (congrArg vi (by simp [chk, show ¬ 64 < l.length by omega]))
theorem pcheck_c (l : List Pt) : CtrA Tryz.prog 49 [pts l] (vi (chk l)) := by
 have h := pchecked_c l
 refine ctrA _ Tryz.func49 rfl rfl Tryz.ntmps49 rfl fun w Z => ?_
 refine zU ?_
 refine wt ?_
 exact zV
theorem sall_c (l : List Tr) (hn : l.length ≤ 1000) : CtrA Tryz.prog 176 [.val (.func (.func 113) #[] #[]), ts l] (vi (if l.all rightT then 0 else 2)) := by
 refine ctrA _ Tryz.func176 rfl rfl Tryz.ntmps176 rfl fun w Z => ?_
 refine zU ?_
 refine wt ?_
 refine cq_loop (γ := Nat) (fun k => [(0, .av (.val (.func (.func 113) #[] #[]))), (7, .av (ts l)), (8, .av (vi l.length)), (9, .av (vi k))]) (fun _ => []) (fun k => k ≤ l.length ∧ (l.take k).all rightT = true) (fun k => l.length - k) 0 ⟨Nat.zero_le _, by simp⟩ (ent zS trivial) ?_
 rintro k ⟨hk, hall⟩
 refine wt ?_
 (refine cq_cond rfl ?_ ?_ <;> intro hb <;> (try simp only [zA, zB, zG, zC, zD, zN] at hb) <;> (try (exfalso; omega)))
 ·have hkl : k < l.length := by omega
  have hf := high_c (gt l k)
  refine wt ?_
  (refine cq_cond rfl ?_ ?_ <;> intro hb <;> (try simp only [zA, zB, zG, zC, zD, zN] at hb) <;> (try (exfalso; omega)))
  ·refine wt ?_
   refine sq_res1 rfl (.tmp rfl) (congrArg vi ?_)
   have : ¬ l.all rightT = true := fun h => by
    have := List.all_eq_true.1 h (gt l k) (gt_mem hkl)
    simp [this] at hb
   simp [this]
  ·refine wt ?_
   exact sq_round (k + 1) ⟨by omega, by rw [gt_take hkl]; simp only [List.all_append, hall, List.all_cons, List.all_nil, Bool.and_true, Bool.true_and]; exact hb⟩ (by omega) (ent zS trivial)
 ·refine wt ?_
  have : k = l.length := by omega
  subst this
  rw [List.take_length] at hall
  exact sq_res1 rfl (.tmp rfl) (congrArg vi (by simp [hall]))
theorem schecked_c (l : List Tr) : CtrA Tryz.prog 112 [ts l, .val (.func (.func 113) #[] #[])] (vi (chkT l)) := by
 refine ctrA _ Tryz.func112 rfl rfl Tryz.ntmps112 rfl fun w Z => ?_
 refine zU ?_
 refine wt ?_
 (refine cq_cond rfl ?_ ?_ <;> intro hb <;> (try simp only [zA, zB, zG, zC, zD, zN] at hb) <;> (try (exfalso; omega)))
 ·refine wt ?_
  exact sq_res1 rfl (.tmp rfl) (by simp [chkT]; omega)
 ·have hp := sall_c l zO
  refine wt ?_
  exact sq_res1 rfl (.tmp rfl) (congrArg vi (by simp [chkT, show ¬ 64 < l.length by omega]))
theorem scheck_c (l : List Tr) : CtrA Tryz.prog 57 [ts l] (vi (chkT l)) := by
 have h := schecked_c l
 refine ctrA _ Tryz.func57 rfl rfl Tryz.ntmps57 rfl fun w Z => ?_
 refine zU ?_
 refine wt ?_
 exact zV
theorem rscheck_c (l : List Tr) (hn : l.length ≤ 1000) : CtrA Tryz.prog 68 [ts l] (vi (chkT l)) := by
 have hC : chkT l = if 64 < l.length then 5 else if l.all rightT then 0 else 2 := rfl
 refine ctrA _ Tryz.func68 rfl rfl Tryz.ntmps68 rfl fun w Z => ?_
 refine zU ?_
 refine wt ?_
 (refine cq_cond rfl ?_ ?_ <;> intro hb <;> (try simp only [zA, zB, zG, zC, zD, zN] at hb) <;> (try (exfalso; omega)))
 ·refine wt ?_
  exact sq_res1 rfl (.tmp rfl) (by rw [hC, if_pos (by omega)])
 rw [if_neg (by omega)] at hC
 refine wt ?_
 refine cq_loop (γ := Nat) (fun k => [(0, .av (ts l)), (3, .av (vi k))]) (fun _ => []) (fun k => k ≤ l.length ∧ (l.take k).all rightT = true) (fun k => l.length - k) 0 ⟨Nat.zero_le _, rfl⟩ (ent zS trivial) ?_
 rintro k ⟨hk, hall⟩
 refine wt ?_
 (refine cq_cond rfl ?_ ?_ <;> intro hb <;> (try simp only [zA, zB, zG, zC, zD, zN] at hb) <;> (try (exfalso; omega)))
 ·have hkl : k < l.length := by omega
  have hr := rights_c (gt l k)
  cases hg : rightT (gt l k) with
  |true =>
   rw [hg] at hr
   refine wt ?_
   exact sq_round (k + 1) ⟨by omega, by rw [gt_take hkl]; simp only [List.all_append, hall, List.all_cons, List.all_nil, Bool.and_true, Bool.true_and]; exact hg⟩ (by omega) (ent zS trivial)
  |false =>
   rw [hg] at hr
   rw [if_neg (fun h => by have := List.all_eq_true.1 h _ (gt_mem hkl); rw [hg] at this; cases this)] at hC
   refine wt ?_
   exact sq_res1 rfl (.tmp rfl) (by rw [hC])
 ·have hkl : k = l.length := by omega
  subst hkl
  rw [List.take_length] at hall
  rw [if_pos hall] at hC
  refine wt ?_
  exact sq_res1 rfl (.tmp rfl) (by rw [hC])
def fewB (l : List Tr) : Bool := decide (l.length ≤ 6) || (decide (64 < l.length) && decide (l.length < 128))
theorem fews_c (l : List Tr) : CtrA Tryz.prog 11 [ts l] (vb (fewB l)) := by
 refine ctrA _ Tryz.func11 rfl rfl Tryz.ntmps11 rfl fun w Z => ?_
 refine zU ?_
 (refine wt ?_; repeat' (((first | refine sq_split rfl rfl ?_ ?_ | refine dq_split rfl rfl ?_ ?_) <;> intro hb <;> (try simp only [zA, zB, zG, zC, zD, zN] at hb) <;> (try (exfalso; omega))) <;> refine wt ?_))
 all_goals (refine sq_res1 rfl (.tmp rfl) (congrArg vb ?_); rw [Bool.eq_iff_iff]; simp [fewB]; omega)
theorem rminus_c (a b : Pt) (h1 : SmP a) (h2 : SmP b) : CtrA Tryz.prog 135 [pp a, pp b] (pp (sub a b)) := by
 simp only [SmP, Sm] at h1 h2
 refine ctrA _ Tryz.func135 rfl rfl Tryz.ntmps135 rfl fun w Z => ?_
 refine zU ?_
 refine wt ?_
 exact sq_res1 rfl (.agg (us := [_, _]) rfl rfl rfl rfl) rfl
theorem trn_bd {a b : Pt} (h1 : BdP a) (h2 : BdP b) : (-2250000000000000000 ≤ a.x * b.y ∧ a.x * b.y ≤ 2250000000000000000) ∧ (-2250000000000000000 ≤ a.y * b.x ∧ a.y * b.x ≤ 2250000000000000000) := ⟨prodB h1.1 h2.2, prodB h1.2 h2.1⟩
theorem rturn_c (a b : Pt) (h1 : BdP a) (h2 : BdP b) : CtrA Tryz.prog 162 [pp a, pp b] (vi (trn a b)) := by
 obtain ⟨⟨m1, n1⟩, ⟨m2, n2⟩⟩ := trn_bd h1 h2
 refine ctrA _ Tryz.func162 rfl rfl Tryz.ntmps162 rfl fun w Z => ?_
 refine zU ?_
 refine wt ?_
 exact zV
theorem rtimes_c (a b : Pt) (h1 : BdP a) (h2 : BdP b) : CtrA Tryz.prog 134 [pp a, pp b] (vi (dot a b)) := by
 obtain ⟨m1, n1⟩ := prodB h1.1 h2.1
 obtain ⟨m2, n2⟩ := prodB h1.2 h2.2
 refine ctrA _ Tryz.func134 rfl rfl Tryz.ntmps134 rfl fun w Z => ?_
 refine zU ?_
 refine wt ?_
 exact zV
theorem rleft_c (a b c : Pt) (h1 : SmP a) (h2 : SmP b) (h3 : SmP c) : CtrA Tryz.prog 100 [pp a, pp b, pp c] (vi (crs a b c)) := by
 have q1 := rminus_c _ _ h2 h1
 have q2 := rminus_c _ _ h3 h1
 have q3 := rturn_c _ _ (sub_bd h2 h1) (sub_bd h3 h1)
 refine ctrA _ Tryz.func100 rfl rfl Tryz.ntmps100 rfl fun w Z => ?_
 refine zU ?_
 refine wt ?_
 exact zV
theorem rsgn_c (n : Int) : CtrA Tryz.prog 136 [vi n] (vi (sgn n)) := by
 refine ctrA _ Tryz.func136 rfl rfl Tryz.ntmps136 rfl fun w Z => ?_
 refine zU ?_
 refine wt ?_
 (refine cq_cond rfl ?_ ?_ <;> intro hb <;> (try simp only [zA, zB, zG, zC, zD, zN] at hb) <;> (try (exfalso; omega)))
 ·refine wt ?_
  exact sq_res1 rfl (.tmp rfl) (congrArg vi (by unfold sgn; rw [if_pos hb]))
 ·refine wt ?_
  (refine cq_cond rfl ?_ ?_ <;> intro hb <;> (try simp only [zA, zB, zG, zC, zD, zN] at hb) <;> (try (exfalso; omega)))
  ·refine wt ?_
   exact sq_res1 rfl (.tmp rfl) (congrArg vi (by unfold sgn; rw [if_neg (by omega), if_pos hb]))
  ·refine wt ?_
   exact sq_res1 rfl (.tmp rfl) (congrArg vi (by unfold sgn; rw [if_neg (by omega), if_neg hb]))
theorem turn_c (a b : Pt) (h1 : BdP a) (h2 : BdP b) : CtrA Tryz.prog 133 [pp a, pp b] (vi (trn a b)) := by
 obtain ⟨⟨m1, n1⟩, ⟨m2, n2⟩⟩ := trn_bd h1 h2
 refine ctrA _ Tryz.func133 rfl rfl Tryz.ntmps133 rfl fun w Z => ?_
 refine zU ?_
 refine wt ?_
 exact zV
theorem reach_c (a b : Tr) (h1 : BT 100000 a) (h2 : BT 100000 b) : CtrA Tryz.prog 250 [tp a, tp b] (tp (tsub b a)) := by
 obtain ⟨⟨_, _⟩, ⟨_, _⟩, ⟨_, _⟩⟩ := h1
 obtain ⟨⟨_, _⟩, ⟨_, _⟩, ⟨_, _⟩⟩ := h2
 refine ctrA _ Tryz.func250 rfl rfl Tryz.ntmps250 rfl fun w Z => ?_
 refine zU ?_
 refine wt ?_
 exact sq_res1 rfl (.agg (us := [_, _, _]) rfl rfl rfl rfl) rfl
theorem vturn_c (a b : Tr) {A B : Int} (h1 : BT A a) (h2 : BT B b) (hab : A * B ≤ 1000000000000000000) : CtrA Tryz.prog 251 [tp a, tp b] (tp (tcr a b)) := by
 obtain ⟨m1, n1⟩ := bn_mul h1.y h2.z
 obtain ⟨m2, n2⟩ := bn_mul h1.z h2.y
 obtain ⟨m3, n3⟩ := bn_mul h1.z h2.x
 obtain ⟨m4, n4⟩ := bn_mul h1.x h2.z
 obtain ⟨m5, n5⟩ := bn_mul h1.x h2.y
 obtain ⟨m6, n6⟩ := bn_mul h1.y h2.x
 refine ctrA _ Tryz.func251 rfl rfl Tryz.ntmps251 rfl fun w Z => ?_
 refine zU ?_
 refine wt ?_
 exact sq_res1 rfl (.agg (us := [_, _, _]) rfl rfl rfl rfl) rfl
theorem norm_c (a b c : Tr) (h1 : BT 100000 a) (h2 : BT 100000 b) (h3 : BT 100000 c) : CtrA Tryz.prog 204 [tp a, tp b, tp c] (tp (nvP a b c)) := by
 have e1 := reach_c a b h1 h2
 have e2 := reach_c a c h1 h3
 have e3 := vturn_c (tsub b a) (tsub c a) (h2.sub h1) (h3.sub h1) zE
 refine ctrA _ Tryz.func204 rfl rfl Tryz.ntmps204 rfl fun w Z => ?_
 refine zU ?_
 refine wt ?_
 exact sq_res1 rfl (.agg (us := [_, _, _]) rfl rfl rfl rfl) rfl
theorem tq22_3 (a b c : Tr) (w : World) : (Instr.buildSlice 22 3 #[(0, .agg #[.int .i64 a.x, .int .i64 a.y, .int .i64 a.z]), (1, .agg #[.int .i64 b.x, .int .i64 b.y, .int .i64 b.z]), (2, .agg #[.int .i64 c.x, .int .i64 c.y, .int .i64 c.z])]).run Tryz.prog w = .ok (.slice (some ⟨w.heap.size, 0, none⟩) 3 3) (w.alloc (.cells #[.int .i64 a.x, .int .i64 a.y, .int .i64 a.z, .int .i64 b.x, .int .i64 b.y, .int .i64 b.z, .int .i64 c.x, .int .i64 c.y, .int .i64 c.z] 51)) := by kernel_rfl
theorem ts3_row (a b c : Tr) : ∀ (i : Nat), i < 3 → ∀ (j : Nat), j < 3 → ∃ u, ([Value.int .i64 a.x, .int .i64 a.y, .int .i64 a.z, .int .i64 b.x, .int .i64 b.y, .int .i64 b.z, .int .i64 c.x, .int .i64 c.y, .int .i64 c.z])[i * 3 + j]? = some u ∧ (match j with | 0 => AV.val (.int .i64 (gt [a, b, c] i).x) | 1 => .val (.int .i64 (gt [a, b, c] i).y) | _+2 => .val (.int .i64 (gt [a, b, c] i).z)) = AV.val u := by
 intro i hi j hj
 match i, hi, j, hj with
 |0, _, 0, _ => exact ⟨_, rfl, rfl⟩
 |0, _, 1, _ => exact ⟨_, rfl, rfl⟩
 |0, _, 2, _ => exact ⟨_, rfl, rfl⟩
 |1, _, 0, _ => exact ⟨_, rfl, rfl⟩
 |1, _, 1, _ => exact ⟨_, rfl, rfl⟩
 |1, _, 2, _ => exact ⟨_, rfl, rfl⟩
 |2, _, 0, _ => exact ⟨_, rfl, rfl⟩
 |2, _, 1, _ => exact ⟨_, rfl, rfl⟩
 |2, _, 2, _ => exact ⟨_, rfl, rfl⟩
theorem bt_right {a : Tr} (h : BT 100000 a) : rightT a = true := by
 obtain ⟨⟨_, _⟩, ⟨_, _⟩, ⟨_, _⟩⟩ := h
 simp [rightT, inB]; omega
theorem normal_c (a b c : Tr) (h1 : BT 100000 a) (h2 : BT 100000 b) (h3 : BT 100000 c) : CtrA Tryz.prog 156 [tp a, tp b, tp c] (tupOf [tp (nvP a b c), vi 0]) := by
 have q := sall_c [a, b, c] (by simp)
 rw [if_pos (by simp [bt_right h1, bt_right h2, bt_right h3])] at q
 have q2 := norm_c a b c h1 h2 h3
 refine ctrA _ Tryz.func156 rfl rfl Tryz.ntmps156 rfl fun w Z => ?_
 refine zU ?_
 refine wt ?_
 refine sq_g (g_bslice (row := tf [a, b, c]) (is := [0, 1, 2]) (xs := [_, _, _]) (vs := [_, _, _]) (us := [_, _, _, _, _, _, _, _, _]) (tq22_3 a b c) rfl rfl rfl (ts3_row a b c)) rfl ?_
 refine wt ?_
 exact sq_resN (rvs := [_, _]) (τs := [_, _]) rfl rfl ⟨.agg (us := [_, _, _]) rfl rfl rfl rfl, .tmp rfl, trivial⟩ rfl
def ixB (p : Nat → Bool) (n : Nat) : Int := match (List.range n).find? p with | some k => k | none => -1
theorem ixB_hit {p : Nat → Bool} {n k : Nat} (hk : k < n) (hall : ∀ j, j < k → p j = false) (hp : p k = true) : ixB p n = k := by
 have : (List.range n).find? p = some k := by
  rw [List.find?_range_eq_some]
  exact ⟨hp, by simpa using hk, fun j hj => by simp [hall j hj]⟩
 unfold ixB; rw [this]
theorem ixB_no {p : Nat → Bool} {n : Nat} (hall : ∀ j, j < n → p j = false) : ixB p n = -1 := by
 have : (List.range n).find? p = none := by
  rw [List.find?_eq_none]
  intro x hx
  simp [hall x (List.mem_range.1 hx)]
 unfold ixB; rw [this]
theorem flt_step {p : Nat → Bool} {n : Nat} (h : ∀ k, k < n → p k = false) (hn : p n = false) : ∀ k, k < n + 1 → p k = false := fun k hk => by
 by_cases e : k = n
 ·subst e; exact hn
 ·exact h k zO
abbrev lp (l : List Pt) : AV := .ptr 1 (fun _ => pts l)
abbrev ccl (l : List Pt) : AV := .clo 131 1 (fun i => [lp l].getD i .any)
theorem ne0_c (l : List Pt) (p : Pt) (h : 0 < l.length) : CtrA Tryz.prog 131 [pp p, lp l] (vb (decide (p ≠ gp l 0))) := by
 refine ctrA _ Tryz.func131 rfl rfl Tryz.ntmps131 rfl fun w Z => ?_
 refine zU ?_
 refine wt ?_
 exact sq_res1 rfl (.tmp rfl) (congrArg vb (by rw [pt_beq]; simp))
theorem ixf_c (l : List Pt) (hn : l.length ≤ 1000) : CtrA Tryz.prog 130 [pts l, ccl l] (vi (ixB (fun k => decide (gp l k ≠ gp l 0)) l.length)) := by
 refine ctrA _ Tryz.func130 rfl rfl Tryz.ntmps130 rfl fun w Z => ?_
 refine zU ?_
 refine wt ?_
 refine cq_loop (γ := Nat) (fun k => [(0, .av (pts l)), (1, .av (ccl l)), (6, .av (pts l)), (7, .av (vi l.length)), (8, .av (vi k))]) (fun _ => []) (fun k => k ≤ l.length ∧ ∀ j, j < k → decide (gp l j ≠ gp l 0) = false) (fun k => l.length - k) 0 ⟨Nat.zero_le _, by omega⟩ (ent zS trivial) ?_
 rintro k ⟨hk, hall⟩
 refine wt ?_
 (refine cq_cond rfl ?_ ?_ <;> intro hb <;> (try simp only [zA, zB, zG, zC, zD, zN] at hb) <;> (try (exfalso; omega)))
 ·have hkl : k < l.length := by omega
  have hgk := ne0_c l (gp l k) zO
  refine wt ?_
  refine cq_cond rfl (fun hb => ?_) (fun hb => ?_)
  ·have e1 := ixB_hit (p := fun k => decide (gp l k ≠ gp l 0)) hkl hall hb
   refine wt ?_
   exact sq_res1 rfl (.tmp rfl) (by rw [e1])
  ·refine wt ?_
   exact sq_round (k + 1) ⟨by omega, flt_step (p := fun k => decide (gp l k ≠ gp l 0)) hall hb⟩ zO (ent zS trivial)
 ·have hkl : k = l.length := by omega
  subst hkl
  have e1 := ixB_no (p := fun k => decide (gp l k ≠ gp l 0)) hall
  refine wt ?_
  exact sq_res1 rfl (.tmp rfl) (by rw [e1])
def collB (l : List Pt) : Bool := match (List.range l.length).find? (fun k => decide (gp l k ≠ gp l 0)) with
 |none => true
 |some k => (List.range l.length).all fun i => decide (trn (sub (gp l k) (gp l 0)) (sub (gp l i) (gp l 0)) = 0)
def collE (l : List Pt) : Bool := if chk l = 0 then collB l else false
theorem chk_sm {l : List Pt} (h : chk l = 0) : (∀ i, SmP (gp l i)) ∧ l.length ≤ 64 := by
 unfold chk at h
 split at h
 ·omega
 ·split at h
  ·rename_i h1 h2
   refine ⟨all_gp (q := SmP) (fun p hp => ?_) SmP_d, by omega⟩
   have := List.all_eq_true.1 h2 p hp
   simp [rightB, inB] at this
   simp only [SmP, Sm]; omega
  ·omega
theorem coll_c (l : List Pt) : CtrA Tryz.prog 67 [pts l] (tupOf [vb (collE l), vi (chk l)]) := by
 have q := pcheck_c l
 have hC : collE l = if chk l = 0 then collB l else false := rfl
 refine ctrA _ Tryz.func67 rfl rfl Tryz.ntmps67 rfl fun w Z => ?_
 refine zU ?_
 refine wt ?_
 (refine cq_cond rfl ?_ ?_ <;> intro hb <;> (try simp only [zA, zB, zG, zC, zD, zN] at hb) <;> (try (exfalso; omega)))
 ·rw [if_neg hb] at hC
  refine wt ?_
  exact sq_resN (rvs := [_, _]) (τs := [_, _]) rfl rfl ⟨.tmp rfl, .tmp rfl, trivial⟩ (by rw [hC])
 rw [if_pos hb] at hC
 obtain ⟨sm, h64⟩ := chk_sm hb
 have hx := ixf_c l zO
 cases hf : (List.range l.length).find? (fun k => decide (gp l k ≠ gp l 0)) with
 |none =>
  have e1 : ixB (fun k => decide (gp l k ≠ gp l 0)) l.length = -1 := by unfold ixB; rw [hf]
  rw [e1] at hx
  have e2 : collB l = true := by unfold collB; rw [hf]
  refine wt ?_
  exact sq_resN (rvs := [_, _]) (τs := [_, _]) rfl rfl ⟨.tmp rfl, .tmp rfl, trivial⟩ (by rw [hC, e2, hb])
 |some k =>
  have e1 : ixB (fun k => decide (gp l k ≠ gp l 0)) l.length = k := by unfold ixB; rw [hf]
  rw [e1] at hx
  have hk : k < l.length := List.mem_range.1 (List.mem_of_find?_eq_some hf)
  have e2 : collB l = (List.range l.length).all fun i => decide (trn (sub (gp l k) (gp l 0)) (sub (gp l i) (gp l 0)) = 0) := by unfold collB; rw [hf]
  have ht := to_c (gp l 0) (gp l k) (sm 0) (sm k)
  refine wt ?_
  refine cq_loop (γ := Nat) (fun i => [(1, .av (lp l)), (7, .av (.val (.func (.func 133) #[.agg #[.int .i64 (sub (gp l k) (gp l 0)).x, .int .i64 (sub (gp l k) (gp l 0)).y]] #[]))), (30, .av (pts l)), (31, .av (vi l.length)), (32, .av (vi i))]) (fun _ => []) (fun i => i ≤ l.length ∧ ∀ j, j < i → trn (sub (gp l k) (gp l 0)) (sub (gp l j) (gp l 0)) = 0) (fun i => l.length - i) 0 ⟨Nat.zero_le _, by omega⟩ (ent zS trivial) ?_
  rintro i ⟨hi, hall⟩
  refine wt ?_
  (refine cq_cond rfl ?_ ?_ <;> intro hb <;> (try simp only [zA, zB, zG, zC, zD, zN] at hb) <;> (try (exfalso; omega)))
  ·have hil : i < l.length := by omega
   have ht2 := to_c (gp l 0) (gp l i) (sm 0) (sm i)
   have ht3 := turn_c (sub (gp l k) (gp l 0)) (sub (gp l i) (gp l 0)) (sub_bd (sm k) (sm 0)) (sub_bd (sm i) (sm 0))
   refine wt ?_
   (refine cq_cond rfl ?_ ?_ <;> intro hb <;> (try simp only [zA, zB, zG, zC, zD, zN] at hb) <;> (try (exfalso; omega)))
   ·have e3 : collB l = false := by
     rw [e2, List.all_eq_false]
     exact ⟨i, List.mem_range.2 hil, by simpa using hb⟩
    refine wt ?_
    exact sq_resN (rvs := [_, _]) (τs := [_, _]) rfl rfl ⟨.tmp rfl, .tmp rfl, trivial⟩ (by rw [hC, e3, ‹chk l = 0›])
   ·refine wt ?_
    exact sq_round (i + 1) ⟨by omega, plt_step hall hb⟩ zO (ent zS trivial)
  ·have hil : i = l.length := by omega
   subst hil
   have e3 : collB l = true := by
    rw [e2, List.all_eq_true]
    exact fun j hj => decide_eq_true (hall j (List.mem_range.1 hj))
   refine wt ?_
   exact sq_resN (rvs := [_, _]) (τs := [_, _]) rfl rfl ⟨.tmp rfl, .tmp rfl, trivial⟩ (by rw [hC, e3, ‹chk l = 0›])
end Go.Proofs.YtgepmbjmaljgoaaGreatDoor.H
namespace Go.Proofs.YtgepmbjmaljgoaaGreatDoor.H
open Go Go.Vc Go.RowKit
set_option maxHeartbeats 400000
theorem hless_c (a b : Pt) (h1 : SmP a) (h2 : SmP b) : CtrA Tryz.prog 110 [pp a, pp b] (pp (sub a b)) := by
 refine ctrA _ Tryz.func110 rfl rfl Tryz.ntmps110 rfl fun w Z => ?_
 refine zU ?_
 refine wt ?_
 exact sq_res1 rfl (.agg (us := [_, _]) rfl rfl rfl rfl) rfl
theorem hdot_c (a b : Pt) (h1 : BdP a) (h2 : BdP b) : CtrA Tryz.prog 109 [pp a, pp b] (vi (dot a b)) := by
 refine ctrA _ Tryz.func109 rfl rfl Tryz.ntmps109 rfl fun w Z => ?_
 refine zU ?_
 refine wt ?_
 exact zV
theorem hleft_c (a b c : Pt) (h1 : SmP a) (h2 : SmP b) (h3 : SmP c) : CtrA Tryz.prog 108 [pp a, pp b, pp c] (vi (crs a b c)) := by
 refine ctrA _ Tryz.func108 rfl rfl Tryz.ntmps108 rfl fun w Z => ?_
 have k1 := sub_bd h2 h1
 have k2 := sub_bd h3 h1
 refine zU ?_
 have q1 := hless_c _ _ h2 h1
 have q2 := hless_c _ _ h3 h1
 refine wt ?_
 exact zV
end Go.Proofs.YtgepmbjmaljgoaaGreatDoor.H
