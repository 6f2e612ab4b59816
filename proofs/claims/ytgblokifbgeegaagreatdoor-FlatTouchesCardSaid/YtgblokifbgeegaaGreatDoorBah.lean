/- A part of the proof. -/
import Derived.Test.YtgblokifbgeegaaGreatDoorBag
set_option linter.unusedVariables false
set_option linter.unusedSimpArgs false
namespace Go.Proofs.YtgblokifbgeegaaGreatDoor
open Go Go.Vc Go.RowKit Go.Na Go.Lib
set_option maxHeartbeats 4000000
abbrev vR (q : Rat) : AV := vS (rtx q)
def spZ (l : List UInt8) : Int := match spI l with | some i => i | none => -1
theorem Z1u {l : List UInt8} {i : Nat} (h : ∀ k, k < i → ∀ x, l[k]? = some x → x ≠ 47) (hi : l[i]? = some 47) : spI l = some i := by
 obtain ⟨hl, e⟩ := List.getElem?_eq_some_iff.1 hi
 unfold spI
 rw [List.findIdx?_eq_some_iff_getElem]
 exact ⟨hl, by rw [e]; rfl, fun j hj => by simpa using h j hj _ (List.getElem?_eq_getElem (by omega))⟩
theorem Z1v {l : List UInt8} (h : ∀ k, k < l.length → ∀ x, l[k]? = some x → x ≠ 47) : spI l = none := k0R fun hm => by
 obtain ⟨k, hk, e⟩ := List.getElem_of_mem hm
 exact h k hk _ (List.getElem?_eq_getElem hk) e
theorem w1h (l : List UInt8) (hl : l.length ≤ 1000000) : CtrA Tryz.prog 76 [vS l] (vi (spZ l)) := by
 refine j0n _ Tryz.func76 rfl rfl Tryz.ntmps76 rfl fun w Z => ?_
 refine zU ?_
 refine wk ?_
 refine j0f (γ := Nat) (fun i => [(0, .av (vS l)), (3, .av (vi i))]) (fun _ => []) (fun i => i ≤ l.length ∧ ∀ k, k < i → ∀ x, l[k]? = some x → x ≠ 47) (fun i => l.length - i) 0 ⟨Nat.zero_le _, fun k hk => absurd hk zO⟩ (ent zS trivial) ?_
 rintro i ⟨hi, hall⟩
 refine wk ?_
 (refine j0a rfl ?_ ?_ <;> intro hb <;> (try simp only [zA, zB, zG, zC, zD, zN] at hb) <;> (try exact zQ))
 ·have hx : l[i]? = some l[i] := List.getElem?_eq_getElem zO
  generalize l[i] = x at *
  refine wk ?_
  refine j0l (q0X rfl rfl rfl hx) rfl ?_
  refine wk ?_
  (refine j0a rfl ?_ ?_ <;> intro hb <;> (try simp only [zA, zB, zG, zC, zD, zN] at hb) <;> (try exact zQ))
  ·have hb' := (y1W x 47).1 hb
   subst hb'
   refine wk ?_
   exact j0e rfl (.tmp rfl) (congrArg vi (by unfold spZ; rw [Z1u hall hx]))
  ·refine wk ?_
   exact j0b (i + 1) ⟨by omega, fun k hk y hy => by
    rcases (by omega : k < i ∨ k = i) with h | h
    ·exact hall k h y hy
    ·rw [h, hx] at hy
     cases hy
     exact fun e => hb ((y1W x 47).2 e)⟩ zO (ent zS trivial)
 ·obtain rfl : i = l.length := by omega
  refine wk ?_
  exact j0e rfl (.tmp rfl) (congrArg vi (by unfold spZ; rw [Z1v hall]))
theorem w1q (l : List UInt8) (hl : l.length ≤ 1000000) : CtrA Tryz.prog 74 [vS l] (j0r [vS (spN l), vS (spD l)]) := by
 have h1 := w1h l hl
 unfold spZ at h1
 unfold spN spD
 cases h : spI l with
 |none =>
  rw [h] at h1
  refine j0n _ Tryz.func74 rfl rfl Tryz.ntmps74 rfl fun w Z => ?_
  refine zU ?_
  refine wk ?_
  exact zW
 |some i =>
  rw [h] at h1
  dsimp only at h1
  have hi := (J1q h).2.2
  refine j0n _ Tryz.func74 rfl rfl Tryz.ntmps74 rfl fun w Z => ?_
  refine zU ?_
  refine wk ?_
  refine v0I (Y1g i rfl rfl rfl zO) rfl ?_
  refine wk ?_
  refine v0I (y0k (i + 1) rfl rfl rfl zO) rfl ?_
  refine wk ?_
  exact zW
theorem w1r (q : Rat) (hl : (rtx q).length ≤ 1000000) : CtrA Tryz.prog 74 [vR q] (j0r [vI q.num, vI (q.den : Int)]) := by
 have := w1q (rtx q) hl
 rwa [w1o, w1m] at this
theorem y1s (n d : Int) (hd : d ≠ 0) (hn : LI 1900 n) (hdd : LI 1900 d) : CtrA Tryz.prog 67 [vI n, vI d] (vR (Rat.divInt n d)) := by
 have h1 := k0M n d (hn.mono zE) (hdd.mono zE)
 have h2 := w0r d
 have hg0 : Int.gcd n d ≠ 0 := fun h => hd (Int.gcd_eq_zero_iff.1 h).2
 have hgd : Int.gcd n d ≤ d.natAbs := Nat.le_of_dvd zO (Int.gcd_dvd_natAbs_right ..)
 have hlg : LI 1900 ((Int.gcd n d : Nat) : Int) := hdd.le (by rw [Int.natAbs_natCast]; exact hgd)
 have h3 := W0N ((Int.gcd n d : Nat) : Int) (by have := hlg.len zE; omega)
 generalize hG : (if d < 0 then -((Int.gcd n d : Nat) : Int) else ((Int.gcd n d : Nat) : Int)) = G
 have hr := v1X (n := n) (d := d) hd hG.symm
 have hGd : G ∣ d ∧ G ∣ n := by
  rw [← hG]
  split
  ·exact ⟨Int.neg_dvd.2 (Int.gcd_dvd_right ..), Int.neg_dvd.2 (Int.gcd_dvd_left ..)⟩
  ·exact ⟨Int.gcd_dvd_right .., Int.gcd_dvd_left ..⟩
 have hG0 : G ≠ 0 := by rw [← hG]; split <;> omega
 have hlG : LI 1900 G := hlg.le (by rw [← hG]; split <;> simp)
 have h4 := W0r n G hG0 (hn.mono zE) (hlG.mono zE)
 have h5 := W0r d G hG0 (hdd.mono zE) (hlG.mono zE)
 have f1 := hn.fdiv hG0
 have f2 := hdd.fdiv hG0
 rw [x0H hGd.2] at h4 f1
 rw [x0H hGd.1] at h5 f2
 have l1 : (itoa (n / G)).length ≤ 2000 := by
  have := f1.len zE
  by_cases h : n / G < 0
  ·rw [itoa_neg h]; simp; omega
  ·rw [itoa_pos h]; omega
 have hz : (itoa (d / G) == [49]) = decide (d / G = 1) := by
  by_cases h : d / G = 1
  ·rw [h, V0p]; rfl
  ·rw [decide_eq_false h, beq_eq_false_iff_ne, ← V0p]
   exact fun e => h (w0m e)
 have l2 : (itoa (d / G)).length ≤ 2000 := by
  have := f2.len zE
  by_cases h : d / G < 0
  ·rw [itoa_neg h]; simp; omega
  ·rw [itoa_pos h]; omega
 rw [vR, hr]
 by_cases h0 : d / G = 1
 all_goals
  first
   |rw [decide_eq_true h0] at hz; rw [if_pos h0]
   |rw [decide_eq_false h0] at hz; rw [if_neg h0]
  by_cases hneg : d < 0
  all_goals
   first
    |rw [decide_eq_true hneg] at h2; rw [if_pos hneg] at hG
    |rw [decide_eq_false hneg] at h2; rw [if_neg hneg] at hG
   subst hG
   refine j0n _ Tryz.func67 rfl rfl Tryz.ntmps67 rfl fun w Z => ?_
   refine zU ?_
   refine wk ?_
   rw [hz]
   refine wk ?_
   first
    |exact zV
    |refine j0l (w0H rfl rfl (by simp only [List.length_cons, List.length_nil]; omega)) rfl ?_
     refine wk ?_
     refine j0l (w0H rfl rfl (by simp only [List.length_append, List.length_cons, List.length_nil]; omega)) rfl ?_
     refine wk ?_
     exact j0e rfl (.tmp rfl) (congrArg vS (by simp))
theorem v1Z {k : Nat} {q : Rat} (h : LR k q) (hk : 0 < k) : (rtx q).length ≤ 2 * k + 2 := by
 have h1 := h.1.len hk
 have h2 := h.2.len hk
 rw [Int.natAbs_natCast] at h2
 have h3 : (itoa q.num).length ≤ k + 1 := by
  by_cases hn : q.num < 0
  ·rw [itoa_neg hn]; simp; omega
  ·rw [itoa_pos hn]; omega
 unfold rtx
 split
 ·omega
 ·simp; omega
theorem W1z (a b c d e : ByteArray) (w : World) : (Instr.buildSlice 101 5 #[(0, .string a), (1, .string b), (2, .string c), (3, .string d), (4, .string e)]).run Tryz.prog w = .ok (.slice (some ⟨w.heap.size, 0, none⟩) 5 5) (w.alloc (.cells #[.string a, .string b, .string c, .string d, .string e] 104)) := by kernel_rfl
def k1M (a b c d e : Int) : AV := .sl 5 1 (fun i _ => vS (match i with | 0 => itoa a | 1 => itoa b | 2 => itoa c | 3 => itoa d | _ => itoa e))
theorem X0m (q r : Rat) (hq : LR 900 q) (hr : LR 900 r) : CtrA Tryz.prog 66 [vR q, vR r] (k1M (q.num * r.den) (r.num * q.den) (q.den * r.den) (q.num * r.num) (q.den * r.num)) := by
 have h1 := w1r q (by have := v1Z hq zE; omega)
 have h2 := w1r r (by have := v1Z hr zE; omega)
 have m1 : LI 5000 q.num := hq.1.mono zE
 have m2 : LI 5000 (q.den : Int) := hq.2.mono zE
 have m3 : LI 5000 r.num := hr.1.mono zE
 have m4 : LI 5000 (r.den : Int) := hr.2.mono zE
 have t1 := times_c _ _ m1 m4
 have t2 := times_c _ _ m3 m2
 have t3 := times_c _ _ m2 m4
 have t4 := times_c _ _ m1 m3
 have t5 := times_c _ _ m2 m3
 refine j0n _ Tryz.func66 rfl rfl Tryz.ntmps66 rfl fun w Z => ?_
 refine zU ?_
 refine wk ?_
 refine j0l (q0c (is := [0, 1, 2, 3, 4]) (xs := [_, _, _, _, _]) (vs := [_, _, _, _, _]) (us := [_, _, _, _, _]) (row := fun i _ => vS (match i with | 0 => itoa (q.num * r.den) | 1 => itoa (r.num * q.den) | 2 => itoa (q.den * r.den) | 3 => itoa (q.num * r.num) | _ => itoa (q.den * r.num))) (W1z _ _ _ _ _) rfl rfl rfl (fun i hi j hj => by
  obtain rfl : j = 0 := zO
  rcases (by omega : i = 0 ∨ i = 1 ∨ i = 2 ∨ i = 3 ∨ i = 4) with rfl | rfl | rfl | rfl | rfl <;> exact ⟨_, rfl, rfl⟩)) rfl ?_
 refine wk ?_
 exact zV
theorem X1a (q r : Rat) (hq : LR 900 q) (hr : LR 900 r) : CtrA Tryz.prog 31 [vR q, vR r] (vR (q * r)) := by
 have h1 := X0m q r hq hr
 have d1 := q.den_nz
 have d2 := r.den_nz
 have h3 := y1s (q.num * r.num) (q.den * r.den) (Int.mul_ne_zero zO zO) ((hq.1.mul hr.1).mono zE) ((hq.2.mul hr.2).mono zE)
 rw [← mul_eq] at h3
 unfold k1M at h1
 refine j0n _ Tryz.func31 rfl rfl Tryz.ntmps31 rfl fun w Z => ?_
 refine zU ?_
 refine wk ?_
 exact zV
theorem rtx_0 : rtx 0 = [48] := by
 have := Q0y 0
 rw [show ((0 : Int) : Rat) = 0 from rfl] at this
 rw [this, itoa_pos (by decide)]; exact y0E
theorem W1Z (q r : Rat) (hq : LR 900 q) (hr : LR 900 r) : CtrA Tryz.prog 37 [vR q, vR r] (vi (rsg (q - r))) := by
 have h1 := X0m q r hq hr
 have h2 := order_c (q.num * r.den) (r.num * q.den) ((hq.1.mul hr.2).mono zE) ((hr.1.mul hq.2).mono zE)
 rw [Y0X] at h2
 unfold k1M at h1
 refine j0n _ Tryz.func37 rfl rfl Tryz.ntmps37 rfl fun w Z => ?_
 refine zU ?_
 refine wk ?_
 exact zV
theorem X1b (n : Int) (hn : -9223372036854775807 ≤ n ∧ n ≤ 9223372036854775807) : CtrA Tryz.prog 32 [vi n] (vR (n : Rat)) := by
 have h1 := of_c n hn
 rw [vR, Q0y]
 refine j0n _ Tryz.func32 rfl rfl Tryz.ntmps32 rfl fun w Z => ?_
 refine zU ?_
 refine wk ?_
 exact zV
theorem y1p (m : Int) : (itoa m == [49]) = decide (m = 1) := by
 by_cases h : m = 1
 ·rw [h, V0p]; rfl
 ·rw [decide_eq_false h, beq_eq_false_iff_ne, ← V0p]
  exact fun e => h (w0m e)
theorem W1e (l : List UInt8) : (spN l).length ≤ l.length := by
 unfold spN; split
 ·simp; omega
 ·exact Nat.le_refl _
theorem W1d (l : List UInt8) : (spD l).length ≤ l.length + 1 := by
 unfold spD; split
 ·simp; omega
 ·simp
theorem V0E {m : Int} {k : Nat} (h : (itoa m).length ≤ k) : LI k m := .of_len (by
 by_cases hm : m < 0
 ·rw [itoa_neg hm] at h; simp at h; omega
 ·rw [itoa_pos hm] at h; exact h)
theorem V1U (l : List UInt8) (hl : l.length ≤ 400) : CtrA Tryz.prog 40 [vS l] (vi (k1n l)) := by
 have h1 := w1q l zO
 have h2 := w1h l zO
 have ln := W1e l
 have ld := W1d l
 have c1 := V0v (spN l) zO
 have c2 := V0v (spD l) zO
 rcases X0f (l := spN l) zO with e1 | e1
 case inr =>
  rw [e1] at c1
  refine j0n _ Tryz.func40 rfl rfl Tryz.ntmps40 rfl fun w Z => ?_
  refine zU ?_
  refine wk ?_
  exact j0e rfl (.tmp rfl) (congrArg vi (J0g fun h => by
   obtain ⟨m, hm⟩ := (Q0h _).1 (Q0i h).1
   rw [hm, Y0u (V0E (by rw [← hm]; omega))] at e1
   cases e1).symm)
 obtain ⟨m, hm⟩ := Z0D e1
 rcases X0f (l := spD l) zO with e2 | e2
 case inr =>
  rw [e1] at c1
  rw [e2] at c2
  refine j0n _ Tryz.func40 rfl rfl Tryz.ntmps40 rfl fun w Z => ?_
  refine zU ?_
  refine wk ?_
  exact j0e rfl (.tmp rfl) (congrArg vi (J0g fun h => by
   obtain ⟨m, hm⟩ := (Q0h _).1 (Q0i h).2
   rw [hm, Y0u (V0E (by rw [← hm]; omega))] at e2
   cases e2).symm)
 obtain ⟨e, he⟩ := Z0D e2
 rw [e1] at c1
 rw [e2] at c2
 have hs1 : spN l = match spI l with | some i => l.take i | none => l := rfl
 have hs2 : spD l = match spI l with | some i => l.drop (i + 1) | none => [49] := rfl
 unfold spZ at h2
 cases hI : spI l with
 |none =>
  rw [hI] at h2 hs1
  dsimp only at h2 hs1
  refine j0n _ Tryz.func40 rfl rfl Tryz.ntmps40 rfl fun w Z => ?_
  refine zU ?_
  refine wk ?_
  exact j0e rfl (.tmp rfl) (congrArg vi (by rw [← hs1, hm]; exact (if_pos (v1a m)).symm))
 |some i =>
  rw [hI] at h2 hs1 hs2
  dsimp only at h2 hs1 hs2
  obtain ⟨hl2, _, hil⟩ := J1q hI
  rw [← hs1, ← hs2, hm, he] at hl2
  have hiff := q1Z m e
  rw [← hl2] at hiff
  rw [hm] at h1 c1
  rw [he] at h1 c2
  have lm : LI 401 m := V0E (by rw [← hm]; omega)
  have le : LI 401 e := V0E (by rw [← he]; omega)
  have ho := order_c e 1 (le.mono zE) (.small zE zE)
  rw [show vI 1 = vS [49] by rw [vI, V0p]] at ho
  have hsh := k0M m e (lm.mono zE) (le.mono zE)
  have h49 := y1p ((Int.gcd m e : Nat) : Int)
  by_cases h0 : 1 < e
  ·have es : sgn (e - 1) = 1 := by unfold sgn; rw [if_neg (by omega), if_neg (by omega)]
   rw [es] at ho
   by_cases hg : Int.gcd m e = 1
   ·rw [decide_eq_true (by omega)] at h49
    refine j0n _ Tryz.func40 rfl rfl Tryz.ntmps40 rfl fun w Z => ?_
    refine zU ?_
    refine wk ?_
    rw [h49]
    refine wk ?_
    exact j0e rfl (.tmp rfl) (congrArg vi (if_pos (hiff.2 ⟨h0, hg⟩)).symm)
   ·rw [decide_eq_false (by omega)] at h49
    refine j0n _ Tryz.func40 rfl rfl Tryz.ntmps40 rfl fun w Z => ?_
    refine zU ?_
    refine wk ?_
    rw [h49]
    refine wk ?_
    exact j0e rfl (.tmp rfl) (congrArg vi (J0g fun h => hg (hiff.1 h).2).symm)
  ·have hbad : k1n l = 3 := J0g fun h => h0 (hiff.1 h).1
   rw [hbad]
   by_cases h1' : e = 1
   ·have es : sgn (e - 1) = 0 := by unfold sgn; rw [if_pos (by omega)]
    rw [es] at ho
    refine j0n _ Tryz.func40 rfl rfl Tryz.ntmps40 rfl fun w Z => ?_
    refine zU ?_
    refine wk ?_
    exact zV
   ·have es : sgn (e - 1) = -1 := by unfold sgn; rw [if_neg (by omega), if_pos (by omega)]
    rw [es] at ho
    refine j0n _ Tryz.func40 rfl rfl Tryz.ntmps40 rfl fun w Z => ?_
    refine zU ?_
    refine wk ?_
    exact zV
end Go.Proofs.YtgblokifbgeegaaGreatDoor
