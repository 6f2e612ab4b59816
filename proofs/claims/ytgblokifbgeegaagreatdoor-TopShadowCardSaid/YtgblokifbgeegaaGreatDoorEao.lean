/- A part of the proof. -/
import Derived.Test.YtgblokifbgeegaaGreatDoorEag
import Derived.Test.YtgblokifbgeegaaGreatDoorEai
import Derived.Test.YtgblokifbgeegaaGreatDoorEan
set_option linter.unusedVariables false
set_option linter.unusedSimpArgs false
namespace Go.Proofs.YtgblokifbgeegaaGreatDoor.H
open Go.Vc
abbrev pp (p : Pt) : AV := pv p.x p.y
theorem W0t {l : List Pt} {i : Nat} (h : i < l.length) : gp l i = l[i] := by simp [gp, h]
theorem V0r {l : List Pt} {i : Nat} (h : i < l.length) : gp l i ∈ l := by rw [W0t h]; exact List.getElem_mem h
theorem v0G {l : List Nat} {i : Nat} (h : i < l.length) : gi l i = l[i] := by simp [gi, h]
def sub (a b : Pt) : Pt := ⟨a.x - b.x, a.y - b.y⟩
def dot (a b : Pt) : Int := a.x * b.x + a.y * b.y
def trn (a b : Pt) : Int := a.x * b.y - a.y * b.x
def crs (a b c : Pt) : Int := trn (sub b a) (sub c a)
def sgn (n : Int) : Int := if n < 0 then -1 else if 0 < n then 1 else 0
def bef (a b : Pt) : Bool := decide (a.x < b.x) || (a.x == b.x && decide (a.y < b.y))
def x0v (p : Pt) : Bool := inB p.x && inB p.y
def chk (l : List Pt) : Int := if 64 < l.length then 5 else if l.all x0v then 0 else 2
def btw (p a b : Pt) : Bool := crs a b p == 0 && decide (dot (sub a p) (sub b p) ≤ 0)
def wth (p a b c : Pt) : Bool := crs a b c != 0 && ((decide (0 ≤ sgn (crs a b p)) && decide (0 ≤ sgn (crs b c p)) && decide (0 ≤ sgn (crs c a p))) || (decide (sgn (crs a b p) ≤ 0) && decide (sgn (crs b c p) ≤ 0) && decide (sgn (crs c a p) ≤ 0)))
def inH (l : List Pt) (p : Pt) : Bool := (List.range l.length).any fun i => decide (gp l i = p) || (List.range i).any fun j => btw p (gp l i) (gp l j) || (List.range j).any fun k => wth p (gp l i) (gp l j) (gp l k)
def q0y (l : List Pt) (i k : Nat) : List Pt := (l.take k).filter (fun q => decide (q ≠ gp l i))
def vtx (l : List Pt) (i : Nat) : Bool := !((List.range i).any fun k => decide (gp l k = gp l i)) && !inH (q0y l i l.length) (gp l i)
abbrev BdP (p : Pt) : Prop := (-1500000000 ≤ p.x ∧ p.x ≤ 1500000000) ∧ (-1500000000 ≤ p.y ∧ p.y ≤ 1500000000)
def x1Z (a b : Int) : Int := if a < b then -1 else if b < a then 1 else 0
def V0y (l : List Pt) (i k : Nat) : Int := if x1Z (gp l i).x (gp l k).x = 0 then x1Z (gp l i).y (gp l k).y else x1Z (gp l i).x (gp l k).x
def swp (v : List Nat) (i j : Nat) : List Nat := (v.set i (gi v j)).set j (gi v i)
def sink (lt : Nat → Nat → Bool) (a : Nat) (v : List Nat) : Nat → List Nat
 |0 => v
 |j + 1 => if decide (a < j + 1) && lt (gi v (j + 1)) (gi v j) then sink lt a (swp v (j + 1) j) j else v
def q0R (lt : Nat → Nat → Bool) (a b : Nat) (v : List Nat) (i : Nat) : List Nat := (List.range' i (b - i)).foldl (fun v i => sink lt a v i) v
def w0B (l : List Pt) (k : Nat) : List Nat := (List.range k).foldl (fun v i => sink (fun i k => bef (gp l i) (gp l k)) 0 (v ++ [i]) i) []
def X1W (l : List Pt) : List Nat := q0R (fun i k => decide (V0y l i k < 0)) 0 l.length (List.range l.length) 1
def y1e (n k : Nat) : List Nat := (List.range n).map (fun i => if i < k then i else 0)
abbrev Sm (x : Int) : Prop := -300000 ≤ x ∧ x ≤ 300000
abbrev SmP (p : Pt) : Prop := Sm p.x ∧ Sm p.y
theorem Z1Z (a b : Pt) : ([a.x, a.y] == [b.x, b.y]) = decide (a = b) := by
 cases a; cases b; rw [Bool.eq_iff_iff]; simp
theorem X1l {l : List Pt} {k : Nat} (h : k < l.length) : l.take (k + 1) = l.take k ++ [gp l k] := by
 rw [List.take_succ_eq_append_getElem h, W0t h]
theorem J1b {l : List Pt} {q : Pt → Prop} (h : ∀ p ∈ l, q p) (hd : q default) : ∀ i, q (gp l i) := by
 intro i
 by_cases hi : i < l.length
 ·rw [W0t hi]; exact h _ (List.getElem_mem hi)
 ·simp only [gp, List.getD, List.getElem?_eq_none (Nat.le_of_not_lt hi)]; exact hd
theorem Q1Q : SmP default := by constructor <;> decide
theorem Q1k {a b : Pt} (h1 : SmP a) (h2 : SmP b) : BdP (sub a b) := by
 simp only [BdP, sub]; omega
theorem z1o {k : Nat} {p : Nat → Prop} (h : ∀ i, i < k → p i) (hk : p k) : ∀ i, i < k + 1 → p i := fun i hi => by
 rcases Nat.lt_or_ge i k with h1 | h1
 ·exact h i h1
 ·have : i = k := by omega
  subst this; exact hk
theorem w0d {lt : Nat → Nat → Bool} {a b : Nat} {v : List Nat} {i : Nat} (h : i < b) : q0R lt a b v i = q0R lt a b (sink lt a v i) (i + 1) := by
 unfold q0R
 obtain ⟨n, hn⟩ : ∃ n, b - i = n + 1 := ⟨b - i - 1, by omega⟩
 rw [hn, show b - (i + 1) = n from by omega, List.range'_succ]; rfl
theorem z0D {lt : Nat → Nat → Bool} {a b : Nat} {v : List Nat} {i : Nat} (h : b ≤ i) : q0R lt a b v i = v := by
 unfold q0R
 rw [show b - i = 0 from by omega]; rfl
theorem z0I (l : List Pt) (k : Nat) : w0B l (k + 1) = sink (fun i k => bef (gp l i) (gp l k)) 0 (w0B l k ++ [k]) k := by
 simp [w0B, List.range_succ, List.foldl_append]
theorem y0s (v : List Nat) (i j : Nat) : (swp v i j).length = v.length := by simp [swp]
theorem X0K (v : List Nat) (i x k : Nat) : gi (v.set i x) k = if i = k ∧ k < v.length then x else gi v k := by
 simp only [gi, List.getD, List.getElem?_set]
 by_cases h : i = k
 ·subst h
  by_cases h2 : i < v.length
  ·simp [h2]
  ·simp [h2]
 ·simp [h]
theorem v1y {v : List Nat} {i j : Nat} (hi : i < v.length) (hj : j < v.length) (k : Nat) : gi (swp v i j) k = if k = j then gi v i else if k = i then gi v j else gi v k := by
 unfold swp
 rw [X0K, X0K]
 simp only [List.length_set]
 split <;> split <;> (try split) <;> (try split) <;> first | rfl | (exfalso; omega)
theorem x1r {v : List Nat} {i j : Nat} {p : Nat → Prop} (hi : i < v.length) (hj : j < v.length) (h : ∀ k, k < v.length → p (gi v k)) : ∀ k, k < (swp v i j).length → p (gi (swp v i j) k) := by
 intro k hk
 rw [y0s] at hk
 rw [v1y hi hj]
 split
 ·exact h i hi
 ·split
  ·exact h j hj
  ·exact h k hk
theorem J0z (lt : Nat → Nat → Bool) (a : Nat) : ∀ (j : Nat) (v : List Nat), (sink lt a v j).length = v.length
 |0, v => rfl
 |j + 1, v => by
  unfold sink
  split
  ·rw [J0z lt a j, y0s]
  ·rfl
theorem K0j {lt : Nat → Nat → Bool} {a : Nat} {p : Nat → Prop} : ∀ {j : Nat} {v : List Nat}, j < v.length → (∀ k, k < v.length → p (gi v k)) → ∀ k, k < (sink lt a v j).length → p (gi (sink lt a v j) k)
 |0, v, _, h => h
 |j + 1, v, hj, h => by
  unfold sink
  split
  ·exact K0j (by rw [y0s]; omega) (x1r hj (by omega) h)
  ·exact h
theorem z0j (l : List Pt) (k : Nat) : (w0B l k).length = k := by
 induction k with
 |zero => rfl
 |succ k ih => rw [z0I, J0z]; simp [ih]
theorem k0z (v : List Nat) (x k : Nat) : gi (v ++ [x]) k = if k < v.length then gi v k else if k = v.length then x else 0 := by
 simp only [gi, W0r]
theorem Q1Y {v : List Nat} {x : Nat} {p : Nat → Prop} (h : ∀ k, k < v.length → p (gi v k)) (hx : p x) : ∀ k, k < (v ++ [x]).length → p (gi (v ++ [x]) k) := by
 intro k hk
 rw [k0z]
 split
 ·exact h k (by assumption)
 ·rw [if_pos (by simp at hk; omega)]; exact hx
theorem V0u (lt : Nat → Nat → Bool) (a b : Nat) (v : List Nat) (i : Nat) : (q0R lt a b v i).length = v.length := by
 unfold q0R
 generalize List.range' i (b - i) = xs
 induction xs generalizing v with
 |nil => rfl
 |cons x xs ih => rw [List.foldl_cons, ih, J0z]
theorem X0b (n k : Nat) : (y1e n k).length = n := by simp [y1e]
theorem Y0S {n k i : Nat} (h : i < n) : gi (y1e n k) i = if i < k then i else 0 := by
 simp [gi, y1e, List.getD, h]
theorem x1L (n : Nat) : y1e n n = List.range n := by
 refine List.ext_getElem (by simp [y1e]) fun i h1 h2 => ?_
 simp [y1e] at h1 ⊢
 intro h; omega
theorem y1V {n i : Nat} (h : i < n) : gi (List.range n) i = i := by simp [gi, List.getD, h]
end Go.Proofs.YtgblokifbgeegaaGreatDoor.H
namespace Go.Proofs.YtgblokifbgeegaaGreatDoor.H
open Go Go.Vc Go.RowKit
set_option maxHeartbeats 4000000
theorem X1I (n : Int) : CtrA Tryz.prog 65 [vi n] (vb (inB n)) := by
 refine j0p _ Tryz.func65 rfl rfl Tryz.ntmps65 rfl fun w Z => ?_
 refine zU ?_
 refine wt ?_
 (first | refine j0l rfl rfl ?_ ?_ | refine j0t rfl rfl ?_ ?_) <;> intro hb <;> (try simp only [zA, zB, zG, zC, zD, zN] at hb) <;> (try exact zQ)
 ·refine wt ?_
  exact j0e rfl (.tmp rfl) (congrArg vb (by unfold inB; rw [decide_eq_true (by assumption : -100000 ≤ n), Bool.true_and]))
 ·refine wt ?_
  exact j0e rfl (.tmp rfl) (congrArg vb (by unfold inB; rw [decide_eq_false (by assumption : ¬ -100000 ≤ n), Bool.false_and]))
theorem x1S (n : Int) : CtrA Tryz.prog 140 [vi n] (vb (inB n)) := by
 refine j0p _ Tryz.func140 rfl rfl Tryz.ntmps140 rfl fun w Z => ?_
 refine zU ?_
 refine wt ?_
 (first | refine j0l rfl rfl ?_ ?_ | refine j0t rfl rfl ?_ ?_) <;> intro hb <;> (try simp only [zA, zB, zG, zC, zD, zN] at hb) <;> (try exact zQ)
 ·refine wt ?_
  exact j0e rfl (.tmp rfl) (congrArg vb (by unfold inB; rw [decide_eq_true (by assumption : -100000 ≤ n), Bool.true_and]))
 ·refine wt ?_
  exact j0e rfl (.tmp rfl) (congrArg vb (by unfold inB; rw [decide_eq_false (by assumption : ¬ -100000 ≤ n), Bool.false_and]))
theorem z1v (p : Tr) : CtrA Tryz.prog 28 [tp p] (vb (v0I p)) := by
 have h1 := X1I p.x
 have h2 := X1I p.y
 have h3 := X1I p.z
 refine j0p _ Tryz.func28 rfl rfl Tryz.ntmps28 rfl fun w Z => ?_
 refine zU ?_
 (refine wt ?_; repeat' (((first | refine j0l rfl rfl ?_ ?_ | refine j0t rfl rfl ?_ ?_) <;> intro hb <;> (try simp only [zA, zB, zG, zC, zD, zN] at hb) <;> (try exact zQ)) <;> refine wt ?_))
 all_goals (refine j0e rfl (.tmp rfl) (congrArg vb ?_); simp [x0v, v0I, *])
theorem flat_c (p : Pt) : CtrA Tryz.prog 150 [pp p] (vb (x0v p)) := by
 have h1 := x1S p.x
 have h2 := x1S p.y
 refine j0p _ Tryz.func150 rfl rfl Tryz.ntmps150 rfl fun w Z => ?_
 refine zU ?_
 (refine wt ?_; repeat' (((first | refine j0l rfl rfl ?_ ?_ | refine j0t rfl rfl ?_ ?_) <;> intro hb <;> (try simp only [zA, zB, zG, zC, zD, zN] at hb) <;> (try exact zQ)) <;> refine wt ?_))
 all_goals (refine j0e rfl (.tmp rfl) (congrArg vb ?_); simp [x0v, v0I, *])
end Go.Proofs.YtgblokifbgeegaaGreatDoor.H
section
end
section
end
namespace Go.Proofs.YtgblokifbgeegaaGreatDoor.H
open Go Go.Vc Go.RowKit
set_option maxHeartbeats 4000000
theorem Z1q (p : Tr) : CtrA Tryz.prog 103 [tp p] (vb (v0I p)) := by
 have h1 := x1S p.x
 have h2 := x1S p.y
 have h3 := x1S p.z
 refine j0p _ Tryz.func103 rfl rfl Tryz.ntmps103 rfl fun w Z => ?_
 refine zU ?_
 (refine wt ?_; repeat' (((first | refine j0l rfl rfl ?_ ?_ | refine j0t rfl rfl ?_ ?_) <;> intro hb <;> (try simp only [zA, zB, zG, zC, zD, zN] at hb) <;> (try exact zQ)) <;> refine wt ?_))
 all_goals (refine j0e rfl (.tmp rfl) (congrArg vb ?_); simp [v0I, *])
theorem Z1T (l : List Pt) (hn : l.length ≤ 1000) : CtrA Tryz.prog 185 [.val (.func (.func 150) #[] #[]), pts l] (vi (if l.all x0v then 0 else 2)) := by
 refine j0p _ Tryz.func185 rfl rfl Tryz.ntmps185 rfl fun w Z => ?_
 refine zU ?_
 refine wt ?_
 refine j0f (γ := Nat) (fun k => [(0, .av (.val (.func (.func 150) #[] #[]))), (7, .av (pts l)), (8, .av (vi l.length)), (9, .av (vi k))]) (fun _ => []) (fun k => k ≤ l.length ∧ (l.take k).all x0v = true) (fun k => l.length - k) 0 ⟨Nat.zero_le _, by simp⟩ (ent zS trivial) ?_
 rintro k ⟨hk, hall⟩
 refine wt ?_
 (refine j0a rfl ?_ ?_ <;> intro hb <;> (try simp only [zA, zB, zG, zC, zD, zN] at hb) <;> (try exact zQ))
 ·have hkl : k < l.length := by omega
  have hf := flat_c (gp l k)
  refine wt ?_
  (refine j0a rfl ?_ ?_ <;> intro hb <;> (try simp only [zA, zB, zG, zC, zD, zN] at hb) <;> (try exact zQ))
  ·refine wt ?_
   refine j0e rfl (.tmp rfl) (congrArg vi ?_)
   have : ¬ l.all x0v = true := fun h => by
    have := List.all_eq_true.1 h (gp l k) (V0r hkl)
    simp [this] at hb
   simp [this]
  ·refine wt ?_
   exact j0c (k + 1) ⟨by omega, by rw [X1l hkl]; simp only [List.all_append, hall, List.all_cons, List.all_nil, Bool.and_true, Bool.true_and]; exact hb⟩ (by omega) (ent zS trivial)
 ·refine wt ?_
  have : k = l.length := by omega
  subst this
  rw [List.take_length] at hall
  exact j0e rfl (.tmp rfl) (congrArg vi (by simp [hall]))
theorem j1p (l : List Pt) : CtrA Tryz.prog 149 [pts l, .val (.func (.func 150) #[] #[])] (vi (chk l)) := by
 refine j0p _ Tryz.func149 rfl rfl Tryz.ntmps149 rfl fun w Z => ?_
 refine zU ?_
 refine wt ?_
 (refine j0a rfl ?_ ?_ <;> intro hb <;> (try simp only [zA, zB, zG, zC, zD, zN] at hb) <;> (try exact zQ))
 ·refine wt ?_
  exact j0e rfl (.tmp rfl) (by simp [chk]; omega)
 ·have hp := Z1T l zO
  refine wt ?_
  exact j0e rfl (.tmp rfl) (congrArg vi (by simp [chk, show ¬ 64 < l.length by omega]))
theorem W0D (l : List Pt) : CtrA Tryz.prog 116 [pts l] (vi (chk l)) := by
 have h := j1p l
 refine j0p _ Tryz.func116 rfl rfl Tryz.ntmps116 rfl fun w Z => ?_
 refine zU ?_
 refine wt ?_
 exact zV
theorem k1i (l : List Tr) (hn : l.length ≤ 1000) : CtrA Tryz.prog 139 [.val (.func (.func 103) #[] #[]), ts l] (vi (if l.all v0I then 0 else 2)) := by
 refine j0p _ Tryz.func139 rfl rfl Tryz.ntmps139 rfl fun w Z => ?_
 refine zU ?_
 refine wt ?_
 refine j0f (γ := Nat) (fun k => [(0, .av (.val (.func (.func 103) #[] #[]))), (7, .av (ts l)), (8, .av (vi l.length)), (9, .av (vi k))]) (fun _ => []) (fun k => k ≤ l.length ∧ (l.take k).all v0I = true) (fun k => l.length - k) 0 ⟨Nat.zero_le _, by simp⟩ (ent zS trivial) ?_
 rintro k ⟨hk, hall⟩
 refine wt ?_
 (refine j0a rfl ?_ ?_ <;> intro hb <;> (try simp only [zA, zB, zG, zC, zD, zN] at hb) <;> (try exact zQ))
 ·have hkl : k < l.length := by omega
  have hf := Z1q (gt l k)
  refine wt ?_
  (refine j0a rfl ?_ ?_ <;> intro hb <;> (try simp only [zA, zB, zG, zC, zD, zN] at hb) <;> (try exact zQ))
  ·refine wt ?_
   refine j0e rfl (.tmp rfl) (congrArg vi ?_)
   have : ¬ l.all v0I = true := fun h => by
    have := List.all_eq_true.1 h (gt l k) (x0p hkl)
    simp [this] at hb
   simp [this]
  ·refine wt ?_
   exact j0c (k + 1) ⟨by omega, by rw [Q0g hkl]; simp only [List.all_append, hall, List.all_cons, List.all_nil, Bool.and_true, Bool.true_and]; exact hb⟩ (by omega) (ent zS trivial)
 ·refine wt ?_
  have : k = l.length := by omega
  subst this
  rw [List.take_length] at hall
  exact j0e rfl (.tmp rfl) (congrArg vi (by simp [hall]))
theorem j1v (l : List Tr) : CtrA Tryz.prog 102 [ts l, .val (.func (.func 103) #[] #[])] (vi (w0i l)) := by
 refine j0p _ Tryz.func102 rfl rfl Tryz.ntmps102 rfl fun w Z => ?_
 refine zU ?_
 refine wt ?_
 (refine j0a rfl ?_ ?_ <;> intro hb <;> (try simp only [zA, zB, zG, zC, zD, zN] at hb) <;> (try exact zQ))
 ·refine wt ?_
  exact j0e rfl (.tmp rfl) (by simp [w0i]; omega)
 ·have hp := k1i l zO
  refine wt ?_
  exact j0e rfl (.tmp rfl) (congrArg vi (by simp [w0i, show ¬ 64 < l.length by omega]))
theorem W0J (l : List Tr) : CtrA Tryz.prog 60 [ts l] (vi (w0i l)) := by
 have h := j1v l
 refine j0p _ Tryz.func60 rfl rfl Tryz.ntmps60 rfl fun w Z => ?_
 refine zU ?_
 refine wt ?_
 exact zV
theorem w1M (l : List Tr) (hn : l.length ≤ 1000) : CtrA Tryz.prog 29 [ts l] (vi (w0i l)) := by
 have hC : w0i l = if 64 < l.length then 5 else if l.all v0I then 0 else 2 := rfl
 refine j0p _ Tryz.func29 rfl rfl Tryz.ntmps29 rfl fun w Z => ?_
 refine zU ?_
 refine wt ?_
 (refine j0a rfl ?_ ?_ <;> intro hb <;> (try simp only [zA, zB, zG, zC, zD, zN] at hb) <;> (try exact zQ))
 ·refine wt ?_
  exact j0e rfl (.tmp rfl) (by rw [hC, if_pos (by omega)])
 rw [if_neg (by omega)] at hC
 refine wt ?_
 refine j0f (γ := Nat) (fun k => [(0, .av (ts l)), (3, .av (vi k))]) (fun _ => []) (fun k => k ≤ l.length ∧ (l.take k).all v0I = true) (fun k => l.length - k) 0 ⟨Nat.zero_le _, rfl⟩ (ent zS trivial) ?_
 rintro k ⟨hk, hall⟩
 refine wt ?_
 (refine j0a rfl ?_ ?_ <;> intro hb <;> (try simp only [zA, zB, zG, zC, zD, zN] at hb) <;> (try exact zQ))
 ·have hkl : k < l.length := by omega
  have hr := z1v (gt l k)
  cases hg : v0I (gt l k) with
  |true =>
   rw [hg] at hr
   refine wt ?_
   exact j0c (k + 1) ⟨by omega, by rw [Q0g hkl]; simp only [List.all_append, hall, List.all_cons, List.all_nil, Bool.and_true, Bool.true_and]; exact hg⟩ (by omega) (ent zS trivial)
  |false =>
   rw [hg] at hr
   rw [if_neg (fun h => by have := List.all_eq_true.1 h _ (x0p hkl); rw [hg] at this; cases this)] at hC
   refine wt ?_
   exact j0e rfl (.tmp rfl) (by rw [hC])
 ·have hkl : k = l.length := by omega
  subst hkl
  rw [List.take_length] at hall
  rw [if_pos hall] at hC
  refine wt ?_
  exact j0e rfl (.tmp rfl) (by rw [hC])
end Go.Proofs.YtgblokifbgeegaaGreatDoor.H
section
namespace Go.Vc
open Go Go.RowKit
section
theorem Y1B {P : Program} {f : FuncId} {fn : Func} {c : Code} {args : List AV} {res : AV} (N : Nat) (hf : P.funcs[f]? = some fn) (hb : fn.body = some c) (hname : (fn.name == "runtime.NumGoroutine") = false) (hN : fn.ntmps = N) (hlen' : Nat.ble args.length N = true)
  (h : ∀ w Z vs, ZOk Z w → All2 (fun τ v => AV.ok Z w τ v) args vs → CQ P (q0F N w Z) (bodyPost P fn (Q1N w Z res)) (y0o 0 (vs.map fun v => SV.av (.val v))) [] c) : CtrA P f args res := by
 have hlen : args.length ≤ N := Nat.le_of_ble_eq_true hlen'
 refine ⟨fun vs w => ?_, fun w Z vs hZ hvs => ?_⟩
 ·have hname' : fn.name ≠ "runtime.NumGoroutine" := by simpa using hname
  simp [callFunc, hf, hname', hb]
 ·refine calls_of_wp hf hb ?_
  have hl := hvs.len
  refine wpIn_wide.1 ((h w Z vs hZ hvs).sq _ w ⟨Z, fun _ => undef, rfl, ?_, (fun _ _ h => by cases h), (fun _ _ h => by cases h), ⟨rfl, rfl, rfl, Nat.le_refl _, fun k hk => hk, fun _ _ => rfl, hZ, fun _ hk => hk, fun _ hk => .inl hk⟩, ⟨fun r x hx => by simp [look] at hx, fun r r' _ h1 => by simp [look] at h1⟩, fun d => ?_⟩)
  ·simp only [Array.size_append, List.size_toArray, Array.size_replicate, hN, q0F]; omega
  ·rw [w0c, if_pos (Nat.zero_le _), Nat.sub_zero]
   by_cases hd : d < vs.length
   ·have h1 : (vs.map fun v => SV.av (.val v)).getD d (.av .any) = .av (.val vs[d]) := by simp [List.getD, List.getElem?_eq_getElem hd]
    rw [h1]
    have : (vs.toArray ++ Array.replicate (fn.ntmps - vs.toArray.size) undef).getD d undef = vs[d] := by
     rw [Array.getD_eq_getD_getElem?, Array.getElem?_append_left (by simpa using hd)]
     simp [hd]
    rw [this]; exact rfl
   ·have h1 : (vs.map fun v => SV.av (.val v)).getD d (.av .any) = .av .any := by
     rw [List.getD, List.getElem?_eq_none (by simpa using hd)]; rfl
    rw [h1]; trivial
def Q0z (T : Tab) : Bool := T.all fun p => match p.2 with | .av (.val _) => true | _ => false
theorem w1o {T : Tab} (h : Q0z T = true) (d : Nat) : T.get d = .av .any ∨ ∃ v, T.get d = .av (.val v) := by
 unfold Tab.get
 cases hl : look T d with
 |none => exact .inl rfl
 |some s =>
  right
  have := List.all_eq_true.1 h _ (v0d hl)
  cases s with
  |av τ => cases τ with
   |val v => exact ⟨v, rfl⟩
   |_ => cases this
  |_ => cases this
variable {P : Program} {N : Nat} {w0 w w1 w2 : World} {Z Z1 : j0q} {ν : j0W} {T : Tab} {a : Act} {Q : Exit → Act → World → Prop} {ops : Array Oper} {l : List Oper}
theorem v0C {O : Own} (h : SatZ (q0F N w Z) Z1 ν T O a w1) : Below w.heap.size w w1 := ⟨h.base.os, h.base.tape, h.base.output, h.base.size, h.base.kept⟩
theorem Z0h (hpl : Q0z T = true) (hZ : ZOk Z w0) (hb : Below w0.heap.size w0 w2) (h : SatZ (q0F N w Z) Z1 ν T [] a w1) : SatZ (q0F N w2 Z) Z ν T [] a w2 := by
 refine ⟨h.defers, h.tsize, (fun _ _ q => by cases q), (fun _ _ q => by cases q), ⟨rfl, rfl, rfl, Nat.le_refl _, fun _ hk => hk, fun _ _ => rfl, hZ.next (fun _ q => q) hb.size (fun k _ hl => hb.block k hl) (fun k hk => Nat.lt_of_lt_of_le (hZ.1 k hk) hb.size), fun _ hk => hk, fun _ hk => .inl hk⟩, ⟨fun r x hx => by simp [look] at hx, fun r r' _ h1 => by simp [look] at h1⟩, fun d => ?_⟩
 have hs := h.slot d
 rcases w1o hpl d with e | ⟨v, e⟩
 ·rw [e]; trivial
 ·rw [e] at hs ⊢; exact hs
theorem x0g {Tb e : TypeId} {B b : Nat} {p : Value} {bs : List Value} (h : Lib.BuilderAt Tb e B b p bs w) (hb : Below w.heap.size w w1) : Lib.BuilderAt Tb e B b p bs w1 := by
 have hlt := h.lt
 obtain ⟨h1, v, h2, h3, h4⟩ := h
 refine ⟨h1, v, (hb.block b hlt).trans h2, h3.kept (row := none) ⟨hb.os, hb.tape, hb.output, hb.size, fun k hk _ => hb.block k hk⟩ ?_, h4⟩
 by_cases hn : v.ownBlock = none
 ·exact .inl hn
 ·exact .inr hn
theorem q0v {Tb e : TypeId} {B b : Nat} {bs : List Value} (h : Lib.IsBuilder Tb e B b bs w) (hb : Below w.heap.size w w1) : Lib.IsBuilder Tb e B b bs w1 :=
 h.imp (fun h => x0g h hb) (fun h => x0g h hb)
variable {d : Nat} {ty : TypeId} {pos : String} {af : Array Edge}
theorem Q0s {f : FuncId} {xs : List Operand} {vs : List Value} {ats : Array TypeId} {u : Value} {ψ : World → Prop} (hZ : ZOk Z w0) (hbw : Below w0.heap.size w0 w) (hpl : Q0z T = true)
  (he : Enters P f) (hx : xs.map T.ev = vs.map (fun v => SV.av (.val v)))
  (hc : ∀ w1, Below w.heap.size w w1 → Calls P f vs.toArray w1 (fun e w2 => e = .returned u ∧ ψ w2 ∧ Below w0.heap.size w1 w2))
  (hd : (q0F N w Z).wr d = true) (hk : ∀ w2, Below w0.heap.size w0 w2 → ψ w2 → LSQ P (q0F N w2 Z) ops Q l ((d, .av (.val u)) :: T) []) :
  LSQ P (q0F N w Z) ops Q (⟨some d, .call ⟨.value (.func f), xs.toArray, ats⟩, ty, pos, af, none⟩ :: l) T [] := by
 refine ⟨fun a w1 hsat => ?_⟩
 obtain ⟨Z1, ν, h⟩ := hsat
 have hb1 := v0C h
 have hev : xs.map a.eval = vs := by
  have h2 := x0Z h (τs := vs.map AV.val) (by rw [hx, List.map_map]; rfl)
  clear hx hc hk he
  generalize xs.map a.eval = us at h2
  induction us generalizing vs with
  |nil => cases vs with
   |nil => rfl
   |cons _ _ => exact h2.elim
  |cons u us ih => cases vs with
   |nil => exact h2.elim
   |cons v vs =>
    have h3 : u = v := h2.1
    rw [h3, ih h2.2]
 refine wpListIn_plain rfl fun K hK => ?_
 refine Oper.wp_in (K := fun a' w' => a' = a.put (some d) u ∧ ψ w' ∧ Below w0.heap.size w1 w') _ (by intro c; simp) ?_ ?_
 ·refine q0o (f := f) (args := (xs.map a.eval).toArray) ?_ ?_
  ·have hen := he (xs.map a.eval).toArray w1
   simp [execOp, resolve, Deferred.ofValue, Act.eval, invoke] at hen ⊢
   exact hen
  ·rw [hev]
   refine Calls.mono (hc w1 hb1) ?_
   rintro e w2 ⟨rfl, h1, h2⟩
   exact ⟨u, rfl, rfl, h1, h2⟩
 ·rintro a' w' ⟨rfl, h1, h2⟩
  have hb2 : Below w0.heap.size w0 w' := (hbw.trans (hb1.mono hbw.size)).trans h2
  exact hK _ _ ((hk w' hb2 h1).sq _ _ ⟨Z, ν, (Z0h hpl hZ hb2 h).put (some d) _ _ hd rfl⟩)
theorem j1m {t : TypeId} {zs : List Value} [hz : ZeroTy P t zs] (hZ : ZOk Z w0) (hbw : Below w0.heap.size w0 w) (hpl : Q0z T = true) (hd : (q0F N w Z).wr d = true)
  (hk : ∀ b w2, Below w0.heap.size w0 w2 → w0.heap.size ≤ b → w2.heap[b]? = some (.cells zs.toArray t (0, 0)) → LSQ P (q0F N w2 Z) ops Q l ((d, .av (.val (.pointer (some ⟨b, 0, none⟩)))) :: T) []) :
  LSQ P (q0F N w Z) ops Q (⟨some d, .alloc t, ty, pos, af, none⟩ :: l) T [] := by
 refine ⟨fun a w1 hsat => ?_⟩
 obtain ⟨Z1, ν, h⟩ := hsat
 have hb1 := v0C h
 obtain ⟨z, hz, hc⟩ := hz.zero
 refine wpListIn_plain rfl fun K hK => ?_
 refine Oper.wp_in (K := fun a' w' => a' = a.put (some d) (.pointer (some ⟨w1.heap.size, 0, none⟩)) ∧ w' = w1.alloc (.cells zs.toArray t)) _ (by intro c; simp) ?_ ?_
 ·exact j0C (w' := w1.alloc (.cells zs.toArray t)) (v := .pointer (some ⟨w1.heap.size, 0, none⟩)) (by simp [execOp, Instr.alloc, hz, newVar, newRow, hc]) ⟨rfl, rfl⟩
 ·rintro a' w' ⟨rfl, rfl⟩
  have hle : w0.heap.size ≤ w1.heap.size := Nat.le_trans hbw.size hb1.size
  have hb2 : Below w0.heap.size w0 (w1.alloc (.cells zs.toArray t)) := (hbw.trans (hb1.mono hbw.size)).alloc hle _
  exact hK _ _ ((hk _ _ hb2 hle (heap_alloc_new _ _)).sq _ _ ⟨Z, ν, (Z0h hpl hZ hb2 h).put (some d) _ _ hd rfl⟩)
end
section
variable {P : Program} {E : Env} {T : Tab} {O : Own} {d : Option Nat} {ty : TypeId} {pos : String} {af : Array Edge} {g : Option (Nat × Bool)} {t e : TypeId} {x y : Operand} {b o : Nat}
theorem J1w (hx : T.ev x = .av (.val (.pointer (some ⟨b, o, none⟩)))) : GV P E ⟨d, .nilCheck x, ty, pos, af, g⟩ T O (.av (.val (.pointer (some ⟨b, o, none⟩)))) [] [] :=
 j0k [] fun Z ν a w h _ => ⟨_, by
  have := j0B hx (h x (by simp [Op.operands]))
  simp [execOp, this], rfl⟩
theorem k0w {i off : Nat} [hs : FldTy P t i off] (hx : T.ev x = .av (.val (.pointer (some ⟨b, o, none⟩)))) : GV P E ⟨d, .fieldAddr t x i, ty, pos, af, g⟩ T O (.av (.val (.pointer (some ⟨b, o + off, none⟩)))) [] [] :=
 j0k [] fun Z ν a w h _ => ⟨_, by
  have := j0B hx (h x (by simp [Op.operands]))
  simp [execOp, this, hs.run b o w], rfl⟩
theorem J0o {len k : Nat} {q : IntKind} {i : Int} [ht : ArrTy P t len e 1] (hx : T.ev x = .av (.val (.pointer (some ⟨b, o, none⟩)))) (hy : T.ev y = .av (.val (.int q i))) (hi : i = ↑k) (hk : k < len) :
  GV P E ⟨d, .indexAddr t x y, ty, pos, af, g⟩ T O (.av (.val (.pointer (some ⟨b, o + k, none⟩)))) [] [] :=
 j0k [] fun Z ν a w h _ => ⟨_, by
  have hax := j0B hx (h x (by simp [Op.operands]))
  have hv := j0B hy (h y (by simp [Op.operands]))
  subst hi
  simp [execOp, Instr.indexAt, hv, hax, asIntOf, run_underlying ht.und, ht.size w, hk, j0Q, Instr.sureAddr], rfl⟩
theorem Q0Z {w0 w : World} {B : Nat} (h : Below B w0 w) (hb : b < B) : w.cell? ⟨b, o, none⟩ = w0.cell? ⟨b, o, none⟩ := by
 simp only [World.cell?, h.block b hb]
theorem v1s {N : Nat} {w0 w : World} {Z : j0q} {v : Value} [ht : CellTy P t] (hx : T.ev x = .av (.val (.pointer (some ⟨b, o, none⟩)))) (hbw : Below w0.heap.size w0 w) (hlt : b < w0.heap.size) (hc : w0.cell? ⟨b, o, none⟩ = some v) :
  GV P (q0F N w Z) ⟨d, .load t x, ty, pos, af, g⟩ T O (.av (.val v)) [] [] := by
 refine ⟨fun T' O' hT hO => ⟨by intro c; simp, fun Z1 ν a w1 hs => ?_⟩⟩
 have hev := j0M hs x
 rw [j0s (o := ⟨d, .load t x, ty, pos, af, g⟩) hT (by simp [Op.operands]), hx] at hev
 have hax : a.eval x = .pointer (some ⟨b, o, none⟩) := hev
 have h1 : w1.cell? ⟨b, o, none⟩ = some v := by
  rw [Q0Z (v0C hs) (Nat.lt_of_lt_of_le hlt hbw.size), Q0Z hbw hlt, hc]
 refine j0C (w' := w1) (v := v) ?_ ⟨_, Z1, ν, rfl, hs, rfl⟩
 simp [execOp, Instr.loadAt, hax, Instr.sureAddr, loadVar, ht.run w1, h1]
end
section
variable {P : Program} {N : Nat} {w0 w : World} {Z : j0q} {T : Tab} {Q : Exit → Act → World → Prop} {γ : Type} {Tof : γ → Tab} {φ : γ → World → Prop} {μ : γ → Nat}
def K1p (N : Nat) (w0 : World) (Z : j0q) (Tof : γ → Tab) (φ : γ → World → Prop) (g : γ) (a : Act) (w : World) : Prop := φ g w ∧ Below w0.heap.size w0 w ∧ Sat (q0F N w Z) (Tof g) [] a w
theorem w1S (hZ : ZOk Z w0) (hbw : Below w0.heap.size w0 w) (g : γ) (hpl : Q0z (Tof g) = true) (h0 : ∀ w1, Below w.heap.size w w1 → φ g w1) (hst : Ent T [] (Tof g) []) {a : Act} {w1 : World} (hs : Sat (q0F N w Z) T [] a w1) : K1p N w0 Z Tof φ g a w1 := by
 obtain ⟨Z1, ν, h⟩ := hst _ a w1 hs
 have hb1 := v0C h
 have hb2 := hbw.trans (hb1.mono hbw.size)
 exact ⟨h0 w1 hb1, hb2, Z, ν, Z0h hpl hZ hb2 h⟩
theorem Z0X {c : Code} (Tof : γ → Tab) (φ : γ → World → Prop) (μ : γ → Nat) (g0 : γ) (hZ : ZOk Z w0) (hbw : Below w0.heap.size w0 w) (hpl : ∀ g, Q0z (Tof g) = true) (h0 : ∀ w1, Below w.heap.size w w1 → φ g0 w1) (hst : Ent T [] (Tof g0) [])
  (hbody : ∀ g w, Below w0.heap.size w0 w → φ g w → CQ P (q0F N w Z) (Exit.then (fun a w' => ∃ g', μ g' < μ g ∧ K1p N w0 Z Tof φ g' a w') Q) (Tof g) [] c) : CQ P (q0F N w Z) Q T [] (Code.loop c) := by
 refine ⟨fun a w1 hs => ?_⟩
 refine wpIn_loop_ghost (fun n a w => ∃ g, μ g = n ∧ K1p N w0 Z Tof φ g a w) (μ g0) ⟨g0, rfl, w1S hZ hbw g0 (hpl g0) h0 hst hs⟩ ?_
 rintro n a w2 ⟨g, rfl, hg, hb2, hsat⟩
 refine wpIn_mono ((hbody g w2 hb2 hg).sq a w2 hsat) ?_
 intro e a' w' hq
 cases e with
 |normal => obtain ⟨g', h1, h2⟩ := hq; exact ⟨μ g', h1, g', rfl, h2⟩
 |exit id => exact hq
 |goto l => exact hq
 |ret => exact hq
 |panic ch => exact hq
 |outgrown => exact hq
theorem Y0o {g : γ} (g' : γ) (hZ : ZOk Z w0) (hbw : Below w0.heap.size w0 w) (hpl : Q0z (Tof g') = true) (hμ : μ g' < μ g) (h0 : ∀ w1, Below w.heap.size w w1 → φ g' w1) (hst : Ent T [] (Tof g') []) :
  SQ (q0F N w Z) T [] (Exit.then (fun a w' => ∃ g', μ g' < μ g ∧ K1p N w0 Z Tof φ g' a w') Q .normal) := fun _ _ hs => ⟨g', hμ, w1S hZ hbw g' hpl h0 hst hs⟩
theorem x1j {fn : Func} {t : Nat} {v : Value} (hZ : ZOk Z w0) (hbw : Below w0.heap.size w0 w) (hr : fn.results = #[.tmp t]) (ht : T.get t = .av (.val v)) : SQ (q0F N w Z) T [] (bodyPost P fn (Q1N w0 Z (.val v)) .ret) := by
 rintro a w' ⟨Z', ν, h⟩
 have hs := h.slot t
 rw [ht] at hs
 have hb2 := hbw.trans ((v0C h).mono hbw.size)
 exact bodyPost_ret (results_tmp hr a.tmps P w') h.defers ⟨_, Z, rfl, hb2, fun _ q => q, fun k q => .inl q, fun k q => Nat.lt_of_lt_of_le (hZ.1 k q) hb2.size, hs⟩
end
end Go.Vc
end
