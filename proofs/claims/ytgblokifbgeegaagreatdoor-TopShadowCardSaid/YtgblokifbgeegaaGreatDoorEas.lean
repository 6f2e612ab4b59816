/- A part of the proof. -/
import Derived.Test.YtgblokifbgeegaaGreatDoorEar
set_option linter.unusedVariables false
set_option linter.unusedSimpArgs false
namespace Go.Proofs.YtgblokifbgeegaaGreatDoor.H
open Go Go.Vc Go.RowKit
set_option maxHeartbeats 4000000
theorem zv3 (w : World) : (zeroValue 3).run Tryz.prog w = .ok (.int .i64 0) w := by kernel_rfl
abbrev ecl (l : List Pt) : AV := .clo 289 1 (fun i => [lp l].getD i .any)
theorem K1j {u : List Nat} {k y : Nat} (hk : k < u.length) : ∀ i, i < u.length → ∀ j, j < 1 → v0f (xf u) k 0 [vi y] i j = xf (u.set k y) i j := by
 intro i hi j hj
 obtain rfl : j = 0 := by omega
 unfold v0f xf
 rw [X0K]
 by_cases h : i = k
 ·subst h; simp [hk]
 ·have h' : ¬ k = i := fun e => h e.symm
  simp [h, h']
theorem q1E (l : List Pt) (v : List Nat) (hv : ∀ k, k < v.length → gi v k < l.length) (hn : v.length ≤ 1000) :
  CtrW Tryz.prog 288 [ecl l] 3 1 v.length (xf v) (cpt l v).length (xf (cpt l v)) true := by
 refine X1P _ Tryz.func288 rfl rfl Tryz.ntmps288 rfl fun w Z v0 => ?_
 refine zU ?_
 refine wt ?_
 (refine j0a rfl ?_ ?_ <;> intro hb <;> (try simp only [zA, zB, zG, zC, zD, zN] at hb) <;> (try exact zQ))
 ·refine wt ?_
  exact x0S rfl rfl rfl (by rw [X0z (by omega)]) (fun _ _ _ _ => by rw [X0z (by omega)])
 ·refine wt ?_
  refine j0f (γ := Nat) (fun k => [(0, .osl 0), (1, .av (ecl l)), (5, .av (vi k))]) (fun _ => [(0, .row 3 1 v.length (xf v))]) (fun k => 1 ≤ k ∧ k ≤ v.length ∧ ∀ i, i < k → V0Y l v i = true) (fun k => v.length - k) 1 ⟨by omega, by omega, fun i hi => by simp [V0Y, show i = 0 by omega]⟩ (ent ⟨.refl _, .refl _, .int rfl, trivial⟩ zT) ?_
  rintro k ⟨hk1, hkn, hall⟩
  obtain ⟨k', rfl⟩ : ∃ k', k = k' + 1 := ⟨k - 1, by omega⟩
  refine wt ?_
  (refine j0a rfl ?_ ?_ <;> intro hb <;> (try simp only [zA, zB, zG, zC, zD, zN] at hb) <;> (try exact zQ))
  ·have hq := Y1X l (gi v (k' + 1)) (gi v k') (hv _ zO) (hv _ zO)
   have e0 : (((k' + 1 : Nat) : Int) - 1).toNat = k' := by omega
   refine wt ?_
   rw [e0]
   refine wt ?_
   (refine j0a rfl ?_ ?_ <;> intro hb <;> (try simp only [zA, zB, zG, zC, zD, zN] at hb) <;> (try exact zQ))
   ·have hK : V0Y l v (k' + 1) = false := by simp [V0Y, hb]
    have h1 : q0B l v (k' + 1 + 1) = v.take (k' + 1) := by
     rw [v0l, hK, if_neg (by simp), y0C l v _ (by omega) hall]
    refine wt ?_
    refine j0f (γ := List Nat × Nat) (fun g => [(0, .osl 0), (1, .av (ecl l)), (5, .av (vi (q0B l v (k' + 1 + g.2)).length)), (6, .osx 0 1 (k' + 1) (v.length - (k' + 1))), (7, .av (vi g.2))]) (fun g => [(0, .row 3 1 v.length (xf g.1))])
     (fun g => 1 ≤ g.2 ∧ g.2 ≤ v.length - (k' + 1) ∧ g.1.length = v.length ∧ (q0B l v (k' + 1 + g.2)).length ≤ k' + g.2 ∧ (∀ i, i < (q0B l v (k' + 1 + g.2)).length → gi g.1 i = gi (q0B l v (k' + 1 + g.2)) i) ∧ ∀ i, k' + g.2 ≤ i → gi g.1 i = gi v i) (fun g => v.length - g.2) (v, 1)
     ⟨by simp, by simp; omega, rfl, by simp only [h1]; simp; omega, fun i hi => by simp only [h1] at hi ⊢; rw [V1K]; simp at hi; rw [if_pos (by omega)], fun i hi => rfl⟩ (ent ⟨.refl _, .refl _, .int (by simp only [h1]; simp; omega), .refl _, .refl _, trivial⟩ zT) ?_
    rintro ⟨u, m⟩ ⟨hm1, hmn, hul, hcl, hu1, hu2⟩
    simp only at hm1 hmn hul hcl hu1 hu2
    obtain ⟨m', rfl⟩ : ∃ m', m = m' + 1 := ⟨m - 1, by omega⟩
    dsimp only
    refine wt ?_
    (refine j0a rfl ?_ ?_ <;> intro hb <;> (try simp only [zA, zB, zG, zC, zD, zN] at hb) <;> (try exact zQ))
    ·have e1 : gi u (k' + 1 + (m' + 1)) = gi v (k' + 1 + (m' + 1)) := hu2 _ zO
     have e2 : gi u (k' + 1 + m') = gi v (k' + 1 + m') := hu2 _ zO
     have e3 : k' + 1 + (m' + 1) - 1 = k' + 1 + m' := by omega
     have b1 : gi u (k' + 1 + (m' + 1)) < l.length := by rw [e1]; exact hv _ (by omega)
     have b2 : gi u (k' + 1 + m') < l.length := by rw [e2]; exact hv _ (by omega)
     have hS := v0l l v (k' + 1 + (m' + 1))
     have hq := Y1X l (gi u (k' + 1 + (m' + 1))) (gi u (k' + 1 + m')) b1 b2
     refine wt ?_
     refine v0x (q0s (k := m') rfl rfl zO zO) rfl ?_
     refine wt ?_
     (refine j0a rfl ?_ ?_ <;> intro hb <;> (try simp only [zA, zB, zG, zC, zD, zN] at hb) <;> (try exact zQ))
     ·have hP : V0Y l v (k' + 1 + (m' + 1)) = true := by
       simp only [V0Y, e3]; rw [← e1, ← e2]; simp [hb]
      rw [hP, if_pos rfl] at hS
      refine wt ?_
      refine j0c (g := (u, m' + 1)) (u.set (q0B l v (k' + 1 + (m' + 1))).length (gi u (k' + 1 + (m' + 1))), m' + 1 + 1) ⟨by simp, by simp; omega, by simp [hul], ?_, ?_, ?_⟩ (by simp; omega) (ent ⟨.refl _, .refl _, .int (by simp only; rw [show k' + 1 + (m' + 1 + 1) = k' + 1 + (m' + 1) + 1 from by omega, hS]; simp), .refl _, .int (by simp), trivial⟩ ⟨⟨_, rfl, .row rfl (fun i hi j hj => K1j (by omega) i (by omega) j hj)⟩, trivial⟩)
      ·simp only; rw [show k' + 1 + (m' + 1 + 1) = k' + 1 + (m' + 1) + 1 from by omega, hS]; simp; omega
      ·simp only; rw [show k' + 1 + (m' + 1 + 1) = k' + 1 + (m' + 1) + 1 from by omega, hS]
       intro i hi
       rw [X0K, k0z]
       simp only [List.length_append, List.length_singleton] at hi
       by_cases h : i = (q0B l v (k' + 1 + (m' + 1))).length
       ·rw [if_pos ⟨h.symm, by omega⟩, if_neg (by omega), if_pos h, e1]
       ·rw [if_neg (fun e => h e.1.symm), if_pos (by omega)]; exact hu1 i (by omega)
      ·simp only
       intro i hi
       rw [X0K, if_neg (fun e => by omega)]
       exact hu2 i zO
     ·have hP : V0Y l v (k' + 1 + (m' + 1)) = false := by
       simp only [V0Y, e3]; rw [← e1, ← e2]; simp [hb]
      rw [hP, if_neg (by simp)] at hS
      refine wt ?_
      refine j0c (g := (u, m' + 1)) (u, m' + 1 + 1) ⟨by simp, by simp; omega, hul, ?_, ?_, ?_⟩ (by simp; omega) (ent ⟨.refl _, .refl _, .int (by simp only; rw [show k' + 1 + (m' + 1 + 1) = k' + 1 + (m' + 1) + 1 from by omega, hS]), .refl _, .int (by simp), trivial⟩ zT)
      ·simp only; rw [show k' + 1 + (m' + 1 + 1) = k' + 1 + (m' + 1) + 1 from by omega, hS]; omega
      ·simp only; rw [show k' + 1 + (m' + 1 + 1) = k' + 1 + (m' + 1) + 1 from by omega, hS]; exact hu1
      ·simp only; exact fun i hi => hu2 i (by omega)
    ·have hE : k' + 1 + (m' + 1) = v.length := by omega
     have hcE : q0B l v (k' + 1 + (m' + 1)) = cpt l v := by rw [hE]; rfl
     refine wt ?_
     refine v0P (V1I (lo := (q0B l v (k' + 1 + (m' + 1))).length) zv3 rfl rfl rfl rfl) ?_
     refine wt ?_
     refine x0S rfl rfl rfl (by rw [hcE]) (fun i hi j hj => ?_)
     obtain rfl : j = 0 := by omega
     simp only [Q0E]
     rw [if_neg (by omega)]
     simp only [xf]
     rw [hu1 i (by omega), hcE]
   ·refine wt ?_
    exact j0c (k' + 1 + 1) ⟨by omega, by omega, z1o hall (by simp [V0Y, hb])⟩ (by omega) (ent ⟨.refl _, .refl _, .int (by simp), trivial⟩ zT)
  ·refine wt ?_
   have e : cpt l v = v := by rw [cpt, y0C l v _ (Nat.le_refl _) (fun i hi => hall i (by omega)), List.take_length]
   exact x0S rfl rfl rfl (by rw [e]) (fun _ _ _ _ => by rw [e])
theorem Z1k {v : List Nat} {k : Nat} (h : k < v.length) : gi v.reverse k = gi v (v.length - 1 - k) := by
 have h2 : v.length - 1 - k < v.length := by omega
 simp [gi, List.getD, h, h2]
theorem w1H (v : List Nat) (hn : v.length ≤ 1000) (h0 : 0 < v.length) : CtrW Tryz.prog 292 [] 3 1 v.length (xf v) v.length (xf v.reverse) false := by
 refine X1P _ Tryz.func292 rfl rfl Tryz.ntmps292 rfl fun w Z v0 => ?_
 refine zU ?_
 refine wt ?_
 refine j0f (γ := List Nat × Nat) (fun g => [(0, .osl 0), (2, .av (vi g.2)), (3, .av (vi ((v.length : Int) - 1 - g.2)))]) (fun g => [(0, .row 3 1 v.length (xf g.1))])
  (fun g => g.1.length = v.length ∧ 2 * g.2 ≤ v.length ∧ ∀ k, k < v.length → gi g.1 k = if k < g.2 ∨ v.length - 1 - g.2 < k then gi v (v.length - 1 - k) else gi v k) (fun g => v.length - g.2) (v, 0)
  ⟨rfl, by simp, fun k hk => by simp only; rw [if_neg (by omega)]⟩ (ent ⟨.refl _, .refl _, .int (by simp), trivial⟩ zT) ?_
 rintro ⟨u, i⟩ ⟨hul, hi2, hu⟩
 simp only at hul hi2 hu
 dsimp only
 refine wt ?_
 (refine j0a rfl ?_ ?_ <;> intro hb <;> (try simp only [zA, zB, zG, zC, zD, zN] at hb) <;> (try exact zQ))
 ·have e0 : ((v.length : Int) - 1 - (i : Int)).toNat = v.length - 1 - i := by omega
  refine wt ?_
  try rw [e0]
  refine wt ?_
  refine j0c (g := (u, i)) (swp u i (v.length - 1 - i), i + 1) ⟨by simp [y0s, hul], by simp; omega, fun k hk => ?_⟩ (by simp; omega) (ent ⟨.refl _, .int (by simp), .int (by simp; omega), trivial⟩ ⟨⟨_, rfl, .row rfl (fun a ha b hb => Q1L (v := u) (by omega) (by omega) (by omega) a (by omega) b hb)⟩, trivial⟩)
  simp only
  rw [v1y (by omega) (by omega)]
  by_cases h1 : k = v.length - 1 - i
  ·rw [if_pos h1, if_pos (by omega), hu i (by omega), if_neg (by omega), h1, show v.length - 1 - (v.length - 1 - i) = i from by omega]
  ·by_cases h2 : k = i
   ·rw [if_neg h1, if_pos h2, if_pos (by omega), hu _ (by omega), if_neg (by omega), h2]
   ·rw [if_neg h1, if_neg h2, hu k hk]
    by_cases h3 : k < i ∨ v.length - 1 - i < k
    ·rw [if_pos h3, if_pos (by omega)]
    ·rw [if_neg h3, if_neg (by omega)]
 ·refine wt ?_
  refine W0P rfl rfl rfl rfl (fun a ha b hb => ?_)
  obtain rfl : b = 0 := by omega
  simp only [xf]
  rw [hu a ha, Z1k ha]
  split
  ·rfl
  ·rw [show v.length - 1 - a = a from by omega]
theorem y1i (l : List Pt) (hn : l.length ≤ 19) : CtrR Tryz.prog 259 [pts l] 3 1 (arr l).length (xf (arr l)) [] := by
 refine q1M _ Tryz.func259 rfl rfl Tryz.ntmps259 rfl fun w Z => ?_
 refine zU ?_
 refine wt ?_
 refine j0u (Q0P 0 (order_c l hn) rfl rfl) rfl ?_
 refine wt ?_
 (refine j0a rfl ?_ ?_ <;> intro hb <;> (try simp only [zA, zB, zG, zC, zD, zN] at hb) <;> (try exact zQ))
 ·refine wt ?_
  have e : v0k l = [] := by simp [v0k, hb]
  exact Z0r rfl rfl (by simp [arr, e, cpt, q0B])
 ·have hcl : (cpt l (v0k l)).length ≤ (v0k l).length := X0y _ _ _
  have h1 : (cpt l (v0k l)).length ≤ 1000 := by have := W0A l; omega
  have b1 : ∀ k, k < (cpt l (v0k l)).length → gi (cpt l (v0k l)) k < l.length := V1l (p := fun x => x < l.length) (Z0c l) _ (Nat.le_refl _)
  have b2 : ∀ k, k < (cpt l (v0k l)).reverse.length → gi (cpt l (v0k l)).reverse k < l.length := K1Y (p := fun x => x < l.length) b1
  have sm := q1z hb
  have h9 : (v0k l).length ≤ 1000 := by have := W0A l; omega
  have c2 : 0 < (cpt l (v0k l)).length → CtrR Tryz.prog 290 [.sl (cpt l (v0k l)).length 1 (xf (cpt l (v0k l)).reverse), lp l] 3 1 (chain l (cpt l (v0k l)).reverse).length (xf (chain l (cpt l (v0k l)).reverse)) [] := fun h => by
   have := q1w l (cpt l (v0k l)).reverse sm b2 (by simpa using h) (by simpa using h1)
   rw [idx_eq, List.length_reverse] at this
   exact this
  refine wt ?_
  refine j0u (v0F (q1E l (v0k l) (Z0c l) h9) rfl rfl rfl) rfl ?_
  refine wt ?_
  (refine j0a rfl ?_ ?_ <;> intro hb <;> (try simp only [zA, zB, zG, zC, zD, zN] at hb) <;> (try exact zQ))
  ·refine wt ?_
   exact w0A rfl rfl rfl (by rw [arr, if_pos (by omega)]) (fun _ _ _ _ => by rw [arr, if_pos (by omega)])
  ·refine wt ?_
   refine j0u (Q0Q 1 (τs := [_]) (n := 1) (cf := fun i => [lp l].getD i .any) (q1w l (cpt l (v0k l)) sm b1 zO h1) rfl rfl (fun _ _ _ _ => ⟨_, rfl⟩)) rfl ?_
   refine wt ?_
   refine j0u (v0B (w1H (cpt l (v0k l)) h1 zO) rfl rfl rfl) rfl ?_
   refine wt ?_
   refine j0u (Q0Q 2 (τs := [_]) (n := 1) (cf := fun i => [lp l].getD i .any) (c2 zO) rfl rfl (fun _ _ _ _ => ⟨_, rfl⟩)) rfl ?_
   refine wt ?_
   have q1 := J0h l (cpt l (v0k l))
   have q2 := J0h l (cpt l (v0k l)).reverse
   rw [List.length_reverse] at q2
   have p2 : 0 < (chain l (cpt l (v0k l)).reverse).length := q1x _ _ (by simp; omega)
   refine v0N (j0X 2 rfl) ?_
   refine j0u (v0i (h := xf (chain l (cpt l (v0k l)).reverse)) (m := (chain l (cpt l (v0k l)).reverse).length) rfl rfl rfl (fun _ _ _ _ => rfl) p2 (by simp only [maxLen]; omega) (by omega)) rfl ?_
   refine wt ?_
   have e : arr l = chain l (cpt l (v0k l)) ++ chain l (cpt l (v0k l)).reverse := by rw [arr, if_neg (by omega)]
   rw [e]
   refine w0A rfl rfl rfl (by rw [List.length_append]) (fun i hi j hj => ?_)
   simp only [v0J, xf]
   split
   ·rename_i h; simp [gi, List.getD, List.getElem?_append_left h]
   ·rename_i h; simp [gi, List.getD, List.getElem?_append_right (Nat.le_of_not_lt h)]
end Go.Proofs.YtgblokifbgeegaaGreatDoor.H
section
end
section
end
