/- A part of the proof. -/
import Derived.Test.YtgblokifbgeegaaGreatDoorCaq
set_option linter.unusedVariables false
set_option linter.unusedSimpArgs false
namespace Go.Proofs.YtgblokifbgeegaaGreatDoor.H
open Go Go.Vc Go.RowKit
set_option maxHeartbeats 4000000
theorem X1Q {v : List Nat} {k : Nat} (h : k < v.length) : gi v.reverse k = gi v (v.length - 1 - k) := by
 have h2 : v.length - 1 - k < v.length := by omega
 simp [gi, List.getD, h, h2]
theorem v1T (v : List Nat) (hn : v.length ≤ 1000) (h0 : 0 < v.length) : CtrW Tryz.prog 292 [] 3 1 v.length (xf v) v.length (xf v.reverse) false := by
 refine W1C _ Tryz.func292 rfl rfl Tryz.ntmps292 rfl fun w Z v0 => ?_
 refine zU ?_
 refine wt ?_
 refine j0f (γ := List Nat × Nat) (fun g => [(0, .osl 0), (2, .av (vi g.2)), (3, .av (vi ((v.length : Int) - 1 - g.2)))]) (fun g => [(0, .row 3 1 v.length (xf g.1))])
  (fun g => g.1.length = v.length ∧ 2 * g.2 ≤ v.length ∧ ∀ k, k < v.length → gi g.1 k = if k < g.2 ∨ v.length - 1 - g.2 < k then gi v (v.length - 1 - k) else gi v k) (fun g => v.length - g.2) (v, 0)
  ⟨rfl, by simp, fun k hk => by simp only; rw [if_neg (by omega)]⟩ (ent ⟨.refl _, .refl _, .int (by simp), trivial⟩ zT) ?_
 rintro ⟨u, i⟩ ⟨hul, hi2, hu⟩
 simp only at hul hi2 hu
 dsimp only
 refine wt ?_
 (refine j0a rfl ?_ ?_ <;> intro hb <;> (try simp only [zA, zB, zG, zC, zD, zN] at hb) <;> (try exact zQ))
 ·have e0 : ((v.length : Int) - 1 - (i : Int)).toNat = v.length - 1 - i := by omega
  refine wt ?_
  try rw [e0]
  refine wt ?_
  refine j0b (g := (u, i)) (swp u i (v.length - 1 - i), i + 1) ⟨by simp [y0j, hul], by simp; omega, fun k hk => ?_⟩ (by simp; omega) (ent ⟨.refl _, .int (by simp), .int (by simp; omega), trivial⟩ ⟨⟨_, rfl, .row rfl (fun a ha b hb => J1K (v := u) (by omega) (by omega) (by omega) a (by omega) b hb)⟩, trivial⟩)
  simp only
  rw [q1M (by omega) (by omega)]
  by_cases h1 : k = v.length - 1 - i
  ·rw [if_pos h1, if_pos (by omega), hu i (by omega), if_neg (by omega), h1, show v.length - 1 - (v.length - 1 - i) = i from by omega]
  ·by_cases h2 : k = i
   ·rw [if_neg h1, if_pos h2, if_pos (by omega), hu _ (by omega), if_neg (by omega), h2]
   ·rw [if_neg h1, if_neg h2, hu k hk]
    by_cases h3 : k < i ∨ v.length - 1 - i < k
    ·rw [if_pos h3, if_pos (by omega)]
    ·rw [if_neg h3, if_neg (by omega)]
 ·refine wt ?_
  refine W0w rfl rfl rfl rfl (fun a ha b hb => ?_)
  obtain rfl : b = 0 := by omega
  simp only [xf]
  rw [hu a ha, X1Q ha]
  split
  ·rfl
  ·rw [show v.length - 1 - a = a from by omega]
theorem x1l (l : List Pt) (hn : l.length ≤ 19) : CtrR Tryz.prog 259 [pts l] 3 1 (arr l).length (xf (arr l)) [] := by
 refine j1Y _ Tryz.func259 rfl rfl Tryz.ntmps259 rfl fun w Z => ?_
 refine zU ?_
 refine wt ?_
 refine j0u (Q0D 0 (order_c l hn) rfl rfl) rfl ?_
 refine wt ?_
 (refine j0a rfl ?_ ?_ <;> intro hb <;> (try simp only [zA, zB, zG, zC, zD, zN] at hb) <;> (try exact zQ))
 ·refine wt ?_
  have e : v0g l = [] := by simp [v0g, hb]
  exact Y0U rfl rfl (by simp [arr, e, cpt, q0C])
 ·have hcl : (cpt l (v0g l)).length ≤ (v0g l).length := X0f _ _ _
  have h1 : (cpt l (v0g l)).length ≤ 1000 := by have := W0h l; omega
  have b1 : ∀ k, k < (cpt l (v0g l)).length → gi (cpt l (v0g l)) k < l.length := Q1d (p := fun x => x < l.length) (Y0H l) _ (Nat.le_refl _)
  have b2 : ∀ k, k < (cpt l (v0g l)).reverse.length → gi (cpt l (v0g l)).reverse k < l.length := k1I (p := fun x => x < l.length) b1
  have sm := j1M hb
  have h9 : (v0g l).length ≤ 1000 := by have := W0h l; omega
  have c2 : 0 < (cpt l (v0g l)).length → CtrR Tryz.prog 290 [.sl (cpt l (v0g l)).length 1 (xf (cpt l (v0g l)).reverse), lp l] 3 1 (chain l (cpt l (v0g l)).reverse).length (xf (chain l (cpt l (v0g l)).reverse)) [] := fun h => by
   have := j1K l (cpt l (v0g l)).reverse sm b2 (by simpa using h) (by simpa using h1)
   rw [idx_eq, List.length_reverse] at this
   exact this
  refine wt ?_
  refine j0u (v0A (j1R l (v0g l) (Y0H l) h9) rfl rfl rfl) rfl ?_
  refine wt ?_
  (refine j0a rfl ?_ ?_ <;> intro hb <;> (try simp only [zA, zB, zG, zC, zD, zN] at hb) <;> (try exact zQ))
  ·refine wt ?_
   exact w0s rfl rfl rfl (by rw [arr, if_pos (by omega)]) (fun _ _ _ _ => by rw [arr, if_pos (by omega)])
  ·refine wt ?_
   refine j0u (Q0E 1 (τs := [_]) (n := 1) (cf := fun i => [lp l].getD i .any) (j1K l (cpt l (v0g l)) sm b1 zO h1) rfl rfl (fun _ _ _ _ => ⟨_, rfl⟩)) rfl ?_
   refine wt ?_
   refine j0u (v0v (v1T (cpt l (v0g l)) h1 zO) rfl rfl rfl) rfl ?_
   refine wt ?_
   refine j0u (Q0E 2 (τs := [_]) (n := 1) (cf := fun i => [lp l].getD i .any) (c2 zO) rfl rfl (fun _ _ _ _ => ⟨_, rfl⟩)) rfl ?_
   refine wt ?_
   have q1 := J0a l (cpt l (v0g l))
   have q2 := J0a l (cpt l (v0g l)).reverse
   rw [List.length_reverse] at q2
   have p2 : 0 < (chain l (cpt l (v0g l)).reverse).length := j1L _ _ (by simp; omega)
   refine v0G (j0S 2 rfl) ?_
   refine j0u (v0u (h := xf (chain l (cpt l (v0g l)).reverse)) (m := (chain l (cpt l (v0g l)).reverse).length) rfl rfl rfl (fun _ _ _ _ => rfl) p2 (by simp only [maxLen]; omega) (by omega)) rfl ?_
   refine wt ?_
   have e : arr l = chain l (cpt l (v0g l)) ++ chain l (cpt l (v0g l)).reverse := by rw [arr, if_neg (by omega)]
   rw [e]
   refine w0s rfl rfl rfl (by rw [List.length_append]) (fun i hi j hj => ?_)
   simp only [w0k, xf]
   split
   ·rename_i h; simp [gi, List.getD, List.getElem?_append_left h]
   ·rename_i h; simp [gi, List.getD, List.getElem?_append_right (Nat.le_of_not_lt h)]
end Go.Proofs.YtgblokifbgeegaaGreatDoor.H
section
end
namespace Go.Proofs.YtgblokifbgeegaaGreatDoor.H
open Go Go.Vc Go.RowKit Go.Na
set_option maxHeartbeats 4000000
def eqB (f : Nat → Int) (m : Nat) (g : Nat → Int) (n : Nat) : Bool := decide (m = n) && (List.range m).all fun i => decide (f i = g i)
theorem Q1r (f g : Nat → Int) (m n : Nat) (hm : m ≤ 1000000) : CtrA Tryz.prog 22 [.sl m 1 (fun i _ => vi (f i)), .sl n 1 (fun i _ => vi (g i))] (vb (eqB f m g n)) := by
 refine j0l _ Tryz.func22 rfl rfl Tryz.ntmps22 rfl fun w Z => ?_
 refine zU ?_
 refine wt ?_
 (refine j0a rfl ?_ ?_ <;> intro hb <;> (try simp only [zA, zB, zG, zC, zD, zN] at hb) <;> (try exact zQ))
 ·refine wt ?_
  exact j0e rfl (.tmp rfl) (congrArg vb (by unfold eqB; rw [decide_eq_false (by omega)]; rfl))
 ·have hmn : m = n := by omega
  subst hmn
  refine wt ?_
  refine j0f (γ := Nat) (fun i => [(0, .av (.sl m 1 (fun i _ => vi (f i)))), (1, .av (.sl m 1 (fun i _ => vi (g i)))), (12, .av (vi m)), (13, .av (vi i))]) (fun _ => []) (fun i => i ≤ m ∧ ∀ j, j < i → f j = g j) (fun i => m - i) 0 ⟨Nat.zero_le _, by omega⟩ (ent zS trivial) ?_
  rintro i ⟨hi, he⟩
  refine wt ?_
  (refine j0a rfl ?_ ?_ <;> intro hb <;> (try simp only [zA, zB, zG, zC, zD, zN] at hb) <;> (try exact zQ))
  ·have hil : i < m := by omega
   refine wt ?_
   (refine j0a rfl ?_ ?_ <;> intro hb <;> (try simp only [zA, zB, zG, zC, zD, zN] at hb) <;> (try exact zQ))
   ·refine wt ?_
    exact j0e rfl (.tmp rfl) (congrArg vb (by
     unfold eqB
     have : (List.range m).all (fun i => decide (f i = g i)) = false := by
      rw [List.all_eq_false]
      exact ⟨i, by simpa using hil, by simpa using hb⟩
     rw [this, Bool.and_false]))
   ·refine wt ?_
    exact j0b (i + 1) ⟨by omega, fun j hj => by
     by_cases e : j = i
     ·subst e; exact hb
     ·exact he j zO⟩ zO (ent zS trivial)
  ·have hil : i = m := by omega
   subst hil
   refine wt ?_
   exact j0e rfl (.tmp rfl) (congrArg vb (by
    unfold eqB
    have : (List.range i).all (fun i => decide (f i = g i)) = true := by
     rw [List.all_eq_true]
     intro j hj
     simpa using he j (by simpa using hj)
    rw [this, decide_eq_true rfl]; rfl))
end Go.Proofs.YtgblokifbgeegaaGreatDoor.H
