/- A part of the proof. -/
import Derived.Test.YtgblokifbgeegaaGreatDoorDay
import Derived.Test.YtgblokifbgeegaaGreatDoorDba
set_option linter.unusedVariables false
set_option linter.unusedSimpArgs false
namespace Go.Proofs.YtgblokifbgeegaaGreatDoor.H.S
open Go Go.Vc Go.RowKit Go.Na Go.Lib H.G
set_option maxHeartbeats 8000000
abbrev p2 (p : Pt) : AV := .val (.agg #[.int .i64 p.x, .int .i64 p.y])
def lf3 (a b p : Pt) : Int := (b.x - a.x) * (p.y - a.y) - (b.y - a.y) * (p.x - a.x)
theorem V1O {a b p : Pt} (ha : SmP a) (hb' : SmP b) (hp : SmP p) : Bn 360000000000 ((b.x - a.x) * (p.y - a.y)) ∧ Bn 360000000000 ((b.y - a.y) * (p.x - a.x)) := by
 obtain ⟨⟨a1, a2⟩, a3, a4⟩ := ha
 obtain ⟨⟨b1, b2⟩, b3, b4⟩ := hb'
 obtain ⟨⟨p1, p2⟩, p3, p4⟩ := hp
 have q1 := j0U (A := 600000) (B := 600000) (m := b.x - a.x) (n := p.y - a.y) ⟨by omega, by omega⟩ ⟨by omega, by omega⟩
 have q2 := j0U (A := 600000) (B := 600000) (m := b.y - a.y) (n := p.x - a.x) ⟨by omega, by omega⟩ ⟨by omega, by omega⟩
 exact ⟨⟨by omega, by omega⟩, ⟨by omega, by omega⟩⟩
theorem W1v (a b p : Pt) (ha : SmP a) (hb' : SmP b) (hp : SmP p) : CtrA Tryz.prog 187 [p2 a, p2 b, p2 p] (vi (lf3 a b p)) := by
 obtain ⟨⟨q1, q2⟩, ⟨q3, q4⟩⟩ := V1O ha hb' hp
 obtain ⟨⟨a1, a2⟩, a3, a4⟩ := ha
 obtain ⟨⟨b1, b2⟩, b3, b4⟩ := hb'
 obtain ⟨⟨p1, p2⟩, p3, p4⟩ := hp
 unfold lf3
 refine j0o _ Tryz.func187 rfl rfl Tryz.ntmps187 rfl fun w Z => ?_
 refine xU ?_
 refine wt ?_
 exact xV
def j1O (a b : Pt) : Int := (b.x - a.x) * (b.x - a.x) + (b.y - a.y) * (b.y - a.y)
theorem Z1N (a : Int) : 0 ≤ a * a := by
 rcases Int.le_total 0 a with h | h
 ·exact Int.mul_nonneg h h
 ·exact Int.mul_nonneg_of_nonpos_of_nonpos h h
theorem k0q {a b : Pt} (h : a ≠ b) : 0 < j1O a b := by
 unfold j1O
 have h1 := Z1N (b.x - a.x)
 have h2 := Z1N (b.y - a.y)
 refine Classical.byContradiction fun hno => h ?_
 have e1 : (b.x - a.x) * (b.x - a.x) = 0 := by omega
 have e2 : (b.y - a.y) * (b.y - a.y) = 0 := by omega
 have e3 : b.x - a.x = 0 := by rcases Int.mul_eq_zero.1 e1 with q | q <;> exact q
 have e4 : b.y - a.y = 0 := by rcases Int.mul_eq_zero.1 e2 with q | q <;> exact q
 cases a; cases b
 simp only [Pt.mk.injEq] at *
 omega
theorem Z1P (n f : Int) (hf : f ≠ 0) : Rat.divInt n f * (n : Rat) = ((n * n : Int) : Rat) / (f : Rat) := by
 rw [Rat.divInt_eq_div, Rat.div_def, Rat.div_def, Rat.intCast_mul]
 grind
theorem w1Y (n : Int) (a b : Pt) (ha : SmP a) (hb' : SmP b) (hab : a ≠ b) (hn : -1000000000000 ≤ n ∧ n ≤ 1000000000000) : CtrA Tryz.prog 151 [vi n, p2 a, p2 b] (vS (rtx (((n * n : Int) : Rat) / ((j1O a b : Int) : Rat)))) := by
 have hp := k0q hab
 have hfe : j1O a b = (b.x - a.x) * (b.x - a.x) + (b.y - a.y) * (b.y - a.y) := rfl
 obtain ⟨⟨a1, a2⟩, a3, a4⟩ := ha
 obtain ⟨⟨b1, b2⟩, b3, b4⟩ := hb'
 obtain ⟨q1, q2⟩ := j0U (A := 600000) (B := 600000) (m := b.x - a.x) (n := b.x - a.x) ⟨by omega, by omega⟩ ⟨by omega, by omega⟩
 obtain ⟨q3, q4⟩ := j0U (A := 600000) (B := 600000) (m := b.y - a.y) (n := b.y - a.y) ⟨by omega, by omega⟩ ⟨by omega, by omega⟩
 rw [← Z1P n _ (by omega)]
 have h1 := W1l n (j1O a b) xO xO xO
 have hN : LR 20 (n : Rat) := LR.int (k := 20) (show n.natAbs < 10 ^ 20 by omega) xE
 have h2 := w1u (Rat.divInt n (j1O a b)) (n : Rat) ((J0P (k := 20) xO (show n.natAbs < 10 ^ 20 by omega) (show (j1O a b).natAbs < 10 ^ 20 by omega)).mono xE) (hN.mono xE)
 have h3 := w0O n xO
 rw [hfe] at h1 h2 ⊢
 refine j0o _ Tryz.func151 rfl rfl Tryz.ntmps151 rfl fun w Z => ?_
 refine xU ?_
 refine wt ?_
 exact xV
theorem k0M (q r : Rat) (hq : LR 400 q) (hr : LR 400 r) : CtrA Tryz.prog 119 [vS (rtx q), vS (rtx r)] (vb (decide (q < r))) := by
 have hc := y0n q r hq hr
 have e : decide (rsg (q - r) < 0) = decide (q < r) := by
  rw [Bool.eq_iff_iff, decide_eq_true_eq, decide_eq_true_eq]
  exact Y0h
 refine j0o _ Tryz.func119 rfl rfl Tryz.ntmps119 rfl fun w Z => ?_
 refine xU ?_
 refine wt ?_
 exact j0e rfl (.tmp rfl) (congrArg vb e)
theorem k0V (l : List Pt) : CtrA Tryz.prog 78 [pts l] (vi (z0t l)) := by
 have hc := W0E l
 unfold z0t
 refine j0o _ Tryz.func78 rfl rfl Tryz.ntmps78 rfl fun w Z => ?_
 by_cases h : chk l = 0
 ·rw [h] at hc ⊢
  by_cases h0 : l.length = 0
  ·rw [if_neg (by decide), if_pos h0]
   have h1 : ((l.length : Nat) : Int) = 0 := by omega
   refine xU ?_
   refine wt ?_
   (refine j0a rfl ?_ ?_ <;> intro hb <;> (try simp only [xA, xB, xG, xC, xD, xN] at hb) <;> (try exact xQ))
   refine wt ?_
   exact xV
  ·rw [if_neg (by decide), if_neg h0]
   refine xU ?_
   refine wt ?_
   (refine j0a rfl ?_ ?_ <;> intro hb <;> (try simp only [xA, xB, xG, xC, xD, xN] at hb) <;> (try exact xQ))
   refine wt ?_
   exact xV
 ·rw [if_pos h]
  generalize chk l = e at hc h ⊢
  refine xU ?_
  refine wt ?_
  (refine j0a rfl ?_ ?_ <;> intro hb <;> (try simp only [xA, xB, xG, xC, xD, xN] at hb) <;> (try exact xQ))
  refine wt ?_
  exact xV
abbrev prC (l : List Pt) (i j : Nat) : List Value := [.int .i64 i, .int .i64 j, .int .i64 (arN l i j l.length), .int .i64 (frN l i j l.length)]
abbrev prA (l : List Pt) (i j : Nat) : AV := .val (.agg #[.int .i64 i, .int .i64 j, .int .i64 (arN l i j l.length), .int .i64 (frN l i j l.length)])
theorem V1P {l : List Pt} {i j : Nat} (h : gp l i = gp l j) (k : Nat) : lfP l i j k = 0 := by unfold lfP; rw [h]; simp
theorem Y0B {l : List Pt} {i j : Nat} (h : gp l i = gp l j) : ∀ k, arN l i j k = 0 ∧ frN l i j k = 0
 |0 => ⟨rfl, rfl⟩
 |k + 1 => by
  obtain ⟨h1, h2⟩ := Y0B h k
  have e : amx (lfP l i j k) = 0 := by rw [V1P h]; rfl
  rw [V0O, Y0O, e, h1, if_neg (by omega), if_neg (by omega)]
  exact ⟨rfl, h2⟩
theorem x1g : Tryz.prog.built 116 [] = some #[.int .i64 0, .int .i64 0, .int .i64 0, .int .i64 0] := by kernel_rfl
theorem x1f (x y : Int) : Tryz.prog.built 116 [(0, .agg #[.int .i64 x, .int .i64 y])] = some #[.int .i64 x, .int .i64 y, .int .i64 0, .int .i64 0] := by kernel_rfl
theorem K0b (a b : Pt) : ([a.x, a.y] == [b.x, b.y]) = decide (a = b) := by
 rw [Bool.eq_iff_iff, beq_iff_eq, decide_eq_true_eq]
 cases a; cases b
 simp
theorem Y0r (l : List Pt) (i j : Nat) (hl : ∀ i, SmP (gp l i)) (hn : l.length ≤ 1000) (hi : i < l.length) (hj : j < l.length) : CtrA Tryz.prog 153 [pts l, vi i, vi j] (j0u [prA l i j, vb (j1z l i j)]) := by
 refine j0o _ Tryz.func153 rfl rfl Tryz.ntmps153 rfl fun w Z => ?_
 by_cases he : gp l i = gp l j
 ·have hs : j1z l i j = false := by unfold j1z; rw [decide_eq_false (fun q => q he)]; rfl
  unfold prA
  rw [hs, (Y0B he l.length).1, (Y0B he l.length).2]
  refine xU ?_
  refine wt ?_
  repeat' (first
    |(refine j0l (j0j (t := 73) (is := [0, 1]) (xs := [_, _]) (vs := [_, _]) (K1s _ _) rfl rfl) rfl ?_; refine wt ?_)
    |(refine j0l (j0j (t := 116) (is := [0]) (xs := [_]) (vs := [.agg #[.int .i64 _, .int .i64 _]]) (x1f _ _) rfl rfl) rfl ?_; refine wt ?_))
  rw [K0b, decide_eq_true he]
  refine wt ?_
  repeat' (first
    |(refine j0l (j0n (us := [.int .i64 _, .int .i64 _, .int .i64 _, .int .i64 _]) rfl rfl rfl rfl) rfl ?_; refine wt ?_))
  exact j0A (rvs := [_, _]) (τs := [_, _]) rfl rfl ⟨.agg (us := [.int .i64 i, .int .i64 j, .int .i64 0, .int .i64 0]) rfl rfl rfl rfl, .tmp rfl, trivial⟩ rfl
 ·have hs : j1z l i j = (decide (lwN l i j l.length = 0) || decide (hgN l i j l.length = 0)) := by unfold j1z; rw [decide_eq_true he]; rfl
  rw [hs]
  refine xU ?_
  refine wt ?_
  repeat' (first
    |(refine j0l (j0j (t := 73) (is := [0, 1]) (xs := [_, _]) (vs := [_, _]) (K1s _ _) rfl rfl) rfl ?_; refine wt ?_)
    |(refine j0l (j0j (t := 116) (is := [0]) (xs := [_]) (vs := [.agg #[.int .i64 _, .int .i64 _]]) (x1f _ _) rfl rfl) rfl ?_; refine wt ?_))
  rw [K0b, decide_eq_false he]
  refine wt ?_
  refine j0f (γ := Nat) (fun k => [(0, .av (pts l)), (1, .av (vi i)), (2, .av (vi j)), (6, .own 10 0), (7, .av (vb false)), (8, .own 11 0), (9, .av (vi (lwN l i j k))), (10, .av (vi (hgN l i j k))), (28, .av (pts l)), (29, .av (vi l.length)), (30, .av (vi k))]) (fun k => [(10, .cells [.av (vi 0), .av (vi 0), .av (vi 0), .av (vi 0)]), (11, .cells [.av (vi i), .av (vi j), .av (vi (arN l i j k)), .av (vi (frN l i j k))])]) (fun k => k ≤ l.length) (fun k => l.length - k) 0 (Nat.zero_le _) (ent xS xT) ?_
  intro k hk
  refine wt ?_
  (refine j0a rfl ?_ ?_ <;> intro hb <;> (try simp only [xA, xB, xG, xC, xD, xN] at hb) <;> (try exact xQ))
  ·have hkl : k < l.length := by omega
   have hf := W1v (gp l i) (gp l j) (gp l k) (hl i) (hl j) (hl k)
   obtain ⟨⟨q1, q2⟩, q3, q4⟩ := V1O (hl i) (hl j) (hl k)
   have hfe : lf3 (gp l i) (gp l j) (gp l k) = (((gp l j).x - (gp l i).x) * ((gp l k).y - (gp l i).y) - ((gp l j).y - (gp l i).y) * ((gp l k).x - (gp l i).x)) := rfl
   have a1 := V0O l i j k
   have a2 := Y0O l i j k
   have a3 : lwN l i j (k + 1) = if lf3 (gp l i) (gp l j) (gp l k) < lwN l i j k then lf3 (gp l i) (gp l j) (gp l k) else lwN l i j k := by
    show min (lwN l i j k) (lf3 (gp l i) (gp l j) (gp l k)) = _
    split <;> omega
   have a4 : hgN l i j (k + 1) = if hgN l i j k < lf3 (gp l i) (gp l j) (gp l k) then lf3 (gp l i) (gp l j) (gp l k) else hgN l i j k := by
    show max (hgN l i j k) (lf3 (gp l i) (gp l j) (gp l k)) = _
    split <;> omega
   have a5 : amx (lfP l i j k) = if lf3 (gp l i) (gp l j) (gp l k) < -lf3 (gp l i) (gp l j) (gp l k) then -lf3 (gp l i) (gp l j) (gp l k) else lf3 (gp l i) (gp l j) (gp l k) := by
    show max (lf3 (gp l i) (gp l j) (gp l k)) (-lf3 (gp l i) (gp l j) (gp l k)) = _
    split <;> omega
   have hbd : -1000000000000 ≤ lf3 (gp l i) (gp l j) (gp l k) ∧ lf3 (gp l i) (gp l j) (gp l k) ≤ 1000000000000 := by omega
   rw [a5] at a1 a2
   clear hfe q1 q2 q3 q4
   generalize lf3 (gp l i) (gp l j) (gp l k) = n at hf a1 a2 a3 a4 hbd
   refine wt ?_
   (refine j0a rfl ?_ ?_ <;> intro hb <;> (try simp only [xA, xB, xG, xC, xD, xN] at hb) <;> (try exact xQ))
   ·rw [if_pos hb] at a1 a2
    refine wt ?_
    exact j0c (k + 1) (by omega) (by omega) (ent ⟨.refl _, .refl _, .refl _, .refl _, .refl _, .refl _, by rw [a3]; exact .refl _, by rw [a4]; exact .refl _, .refl _, .refl _, .int (by omega), trivial⟩ ⟨⟨_, rfl, .refl _⟩, ⟨_, rfl, by rw [a1, a2]; exact .refl _⟩, trivial⟩)
   ·rw [if_neg (show ¬ _ by omega)] at a1 a2
    refine wt ?_
    exact j0c (k + 1) (by omega) (by omega) (ent ⟨.refl _, .refl _, .refl _, .refl _, .refl _, .refl _, by rw [a3]; exact .refl _, by rw [a4]; exact .refl _, .refl _, .refl _, .int (by omega), trivial⟩ ⟨⟨_, rfl, .refl _⟩, ⟨_, rfl, by rw [a1, a2]; exact .refl _⟩, trivial⟩)
  ·have hkl : k = l.length := by omega
   subst hkl
   refine wt ?_
   repeat' (first
     |(refine j0r rfl rfl (fun hb => ?_) (fun hb => ?_) <;> (try simp only [xA, xB, xG, xC, xD, xN] at hb) <;> (try exact xQ) <;> refine wt ?_)
     |(refine j0l (j0n (us := [.int .i64 _, .int .i64 _, .int .i64 _, .int .i64 _]) rfl rfl rfl rfl) rfl ?_; refine wt ?_))
   ·exact j0A (rvs := [_, _]) (τs := [_, _]) rfl rfl ⟨.agg (us := prC l i j) rfl rfl rfl rfl, .tmp rfl, trivial⟩ (congrArg (fun b => j0u [prA l i j, vb b]) (by rw [decide_eq_true hb]; rfl))
   ·exact j0A (rvs := [_, _]) (τs := [_, _]) rfl rfl ⟨.agg (us := prC l i j) rfl rfl rfl rfl, .tmp rfl, trivial⟩ (congrArg (fun b => j0u [prA l i j, vb b]) (by rw [decide_eq_false hb, Bool.false_or]; rfl))
end Go.Proofs.YtgblokifbgeegaaGreatDoor.H.S
namespace Go.Proofs.YtgblokifbgeegaaGreatDoor.H.S
open Go Go.Vc Go.RowKit Go.Na Go.Lib
set_option maxHeartbeats 8000000
theorem X1j (l : List Tr) (d : Tr) (m : Option Tr) (hl : RT l) (h0 : 0 < l.length) (h7 : l.length ≤ 7) (hd : GD d) (hm : ∀ x, m = some x → GD x) :
  CtrH Tryz.prog 95 [.av (tp d), .av (lt l), .own 1000 0, .own 1001 0] [(1000, X0u l m), (1001, J1x l m)] (.av (vi 0)) [(1000, X0u l (z0n l m d)), (1001, J1x l (z0n l m d))] := by
 have hz := k1E l d hl h0 xO hd.bt xE
 have hs := K1q l hl h0 d hd
 cases m with
 |none =>
  refine z0m _ Tryz.func95 rfl rfl Tryz.ntmps95 rfl rfl fun w Z ν => ?_
  refine xU ?_
  refine wt ?_
  exact j0T (T' := [(5, .av (vi 0))]) (O' := [(1000, X0u l (some d)), (1001, J1x l (some d))]) (ent ⟨.refl _, trivial⟩ xT) (q0I rfl rfl rfl)
 |some x =>
  have hx := hm x rfl
  have hc := y0n (Wq l d) (Wq l x) ((Q1x hl h0 hd).mono xE) ((Q1x hl h0 hx).mono xE)
  have hne : (wO l (some x) == []) = false := by rw [beq_eq_false_iff_ne]; exact w1D _
  have hb0 := X1L (l := l) hd.ne hx.ne
  have e1 := Y0h (q := Wq l d) (r := Wq l x)
  have e2 := J1G (q := Wq l d) (r := Wq l x)
  have hcp := (X1P d x).of (args' := [.sl 3 1 (fun i _ => .val ((v3 d).getD i undef)), .sl 3 1 (fun i _ => vi (co x i))]) ⟨ALe.sl' rfl (fun i hi j hj => by
    rcases (by omega : i = 0 ∨ i = 1 ∨ i = 2) with rfl | rfl | rfl <;> rfl), .refl _, trivial⟩
  have hlex := q1t d x
  have hS : z0n l (some x) d = if bef l d x then some d else some x := rfl
  rcases Y0g (Wq l d - Wq l x) with er | er | er
  ·rw [er] at hc e1
   rw [hS, if_pos (hb0.2 (.inl (e1.1 (by decide))))]
   refine z0m _ Tryz.func95 rfl rfl Tryz.ntmps95 rfl rfl fun w Z ν => ?_
   refine xU ?_
   refine wt ?_
   rw [hne]
   refine wt ?_
   exact j0T (T' := [(5, .av (vi 0))]) (O' := [(1000, X0u l (some d)), (1001, J1x l (some d))]) (ent ⟨.refl _, trivial⟩ xT) (q0I rfl rfl rfl)
  ·rw [er] at hc e1 e2
   have eq := e2.1 rfl
   by_cases hle : y0s d x
   ·have h3 := decide_eq_true (hlex.2 hle)
    rw [hS, if_pos (hb0.2 (.inr ⟨eq, hle⟩))]
    refine z0m _ Tryz.func95 rfl rfl Tryz.ntmps95 rfl rfl fun w Z ν => ?_
    refine xU ?_
    refine wt ?_
    rw [hne]
    refine wt ?_
    repeat' (first
      |(refine Q0Q (v0Y (n := 3) rfl xE xE) rfl rfl rfl ?_; refine wt ?_)
      |(refine Q0Q (y0U (len := 3) rfl rfl xE) rfl rfl rfl ?_; refine wt ?_)
      |(refine Q0Q (X0I hcp rfl rfl rfl rfl) rfl rfl rfl ?_; refine wt ?_))
    rw [h3]
    refine wt ?_
    exact j0T (T' := [(5, .av (vi 0))]) (O' := [(1000, X0u l (some d)), (1001, J1x l (some d))]) (ent ⟨.refl _, trivial⟩ xT) (q0I rfl rfl rfl)
   ·have h3 := decide_eq_false (fun q => hle (hlex.1 q))
    rw [hS, if_neg (fun q => (hb0.1 q).elim (fun q => by have := e1.2 q; omega) (fun q => hle q.2))]
    refine z0m _ Tryz.func95 rfl rfl Tryz.ntmps95 rfl rfl fun w Z ν => ?_
    refine xU ?_
    refine wt ?_
    rw [hne]
    refine wt ?_
    repeat' (first
      |(refine Q0Q (v0Y (n := 3) rfl xE xE) rfl rfl rfl ?_; refine wt ?_)
      |(refine Q0Q (y0U (len := 3) rfl rfl xE) rfl rfl rfl ?_; refine wt ?_)
      |(refine Q0Q (X0I hcp rfl rfl rfl rfl) rfl rfl rfl ?_; refine wt ?_))
    rw [h3]
    refine wt ?_
    exact j0T (T' := [(5, .av (vi 0))]) (O' := [(1000, X0u l (some x)), (1001, J1x l (some x))]) (ent ⟨.refl _, trivial⟩ xT) (q0I rfl rfl rfl)
  ·rw [er] at hc e1 e2
   rw [hS, if_neg (fun q => (hb0.1 q).elim (fun q => by have := e1.2 q; omega) (fun q => by have := e2.2 q.1; omega))]
   refine z0m _ Tryz.func95 rfl rfl Tryz.ntmps95 rfl rfl fun w Z ν => ?_
   refine xU ?_
   refine wt ?_
   rw [hne]
   refine wt ?_
   exact j0T (T' := [(5, .av (vi 0))]) (O' := [(1000, X0u l (some x)), (1001, J1x l (some x))]) (ent ⟨.refl _, trivial⟩ xT) (q0I rfl rfl rfl)
def Y1R : Value → Int
 |.int .i64 n => n
 |_ => 0
def k1N (x : Value) : Tr := ⟨Y1R (cellOf x 0), Y1R (cellOf x 1), Y1R (cellOf x 2)⟩
theorem j2J (d : Tr) : k1N (.agg #[.int .i64 d.x, .int .i64 d.y, .int .i64 d.z]) = d := rfl
def mS (l : List Tr) (pre : List Value) : Option Tr := w0R l ((pre.map k1N).filter y1I)
theorem V1T (l : List Tr) (pre : List Value) {d : Tr} (h : GD d) : mS l (pre ++ [.agg #[.int .i64 d.x, .int .i64 d.y, .int .i64 d.z]]) = z0n l (mS l pre) d := by
 unfold mS
 rw [List.map_append, List.filter_append]
 have e : List.filter y1I (List.map k1N [Value.agg #[.int .i64 d.x, .int .i64 d.y, .int .i64 d.z]]) = [d] := by
  simp only [List.map_cons, List.map_nil, j2J, List.filter_cons, (Q0d d).2 h]
  rfl
 rw [e, x1W]
theorem q1e {l : List Tr} : ∀ (L : List Tr) (m : Option Tr) (P : Tr → Prop), (∀ x, m = some x → P x) → (∀ x ∈ L, P x) → ∀ x, L.foldl (z0n l) m = some x → P x
 |[], m, P, hm, _, x, h => hm x h
 |d :: L, m, P, hm, hL, x, h => by
  refine q1e L (z0n l m d) P (fun y hy => ?_) (fun y hy => hL y (by simp [hy])) x h
  cases m with
  |none => cases hy; exact hL d (by simp)
  |some z =>
   simp only [z0n] at hy
   split at hy
   ·cases hy; exact hL d (by simp)
   ·cases hy; exact hm _ rfl
theorem K1h (l : List Tr) (pre : List Value) (x : Tr) (h : mS l pre = some x) : GD x :=
 q1e _ none GD (fun _ h => by cases h) (fun y hy => (Q0d y).1 (List.mem_filter.1 hy).2) x h
theorem Q1a {Z : j0p} {w : World} : ∀ {L : List Tr} {xs : List Value}, All2 (fun τ v => AV.ok Z w τ v) (L.map tp) xs → xs.map k1N = L
 |[], [], _ => rfl
 |d :: L, x :: xs, ⟨h1, h2⟩ => by
  obtain rfl : x = _ := h1
  rw [List.map_cons, Q1a h2]
  rfl
 |[], _ :: _, h => h.elim
 |_ :: _, [], h => h.elim
theorem q1K {l : List Tr} (h : w0f l = 0) (h7 : l.length ≤ 7) (hw : Q0U l) : ∀ d ∈ x0T l, GD d := fun d hd => by
 have hl := (RT.of h).1
 have hgap := J0i (X0J hl)
 unfold x0T at hd
 split at hd
 ·next h3 =>
  have s : S3 l := ⟨hl, h7, (w0j l).1 h3⟩
  unfold Y1e at hd
  rcases List.mem_append.1 hd with h1 | h1
  ·obtain ⟨f, hf, rfl⟩ := List.mem_map.1 h1
   exact ⟨q0F (y0L h7 f hf).1, hgap _ (y0K s.hS hf)⟩
  ·obtain ⟨i, k, hi, hk, hn, rfl⟩ := q0g.1 h1
   have hB : ∀ v ∈ j1L l, BT 200000 v := fun v hv => by
    rcases k0j s v hv with q | q
    ·exact X0J hl _ q
    ·have := z1G (X0J hl _ q)
     obtain ⟨⟨a, b⟩, ⟨c, e⟩, ⟨f, g⟩⟩ := this
     simp only [j0O] at a b c e f g
     refine ⟨⟨?_, ?_⟩, ⟨?_, ?_⟩, ⟨?_, ?_⟩⟩ <;> omega
   exact ⟨q0F hn, J0i hB _ h1⟩
 ·obtain ⟨i, k, hi, hk, hn, e⟩ := flatD_ex hw
  rw [e, List.mem_singleton] at hd
  subst hd
  exact ⟨q0F hn, V0V ((((hl i).sub (hl 0)).cr ((hl k).sub (hl 0))).le xE)⟩
theorem Z1e {l : List Tr} (h : w0f l = 0) (h7 : l.length ≤ 7) (hw : Q0U l) {xs : List Value} (hx : xs.map k1N = x0T l) : mS l xs = some (lm l) := by
 unfold mS
 rw [hx, List.filter_eq_self.2 (fun d hd => (Q0d d).2 (q1K h h7 hw d hd)), q1b (RT.of h).1 h7 hw, V1Q hw]
theorem z1E (l : List Tr) (h : w0f l = 0) (h7 : l.length ≤ 7) (hw : Q0U l) : CtrA Tryz.prog 55 [ts l] (j0u [vS (rtx (Wq l (lm l))), zA (lm l) (loD l (lm l)) (hiD l (lm l)), vi 0]) := by
 have hl : RT l := (RT.of h).1
 have hl0 : 0 < l.length := by obtain ⟨a, _, _, ha, _⟩ := hw; omega
 have hdc := Y1f l
 refine X1W _ Tryz.func55 rfl rfl Tryz.ntmps55 rfl fun w Z => ?_
 refine xU ?_
 refine y0D ?_
 refine q0B ?_
 refine j0l (X0G rfl rfl) rfl ?_
 refine j0t (j0I 20 rfl) rfl ?_
 refine j0t (j0I 21 rfl) rfl ?_
 refine j0t (j0I 22 rfl) rfl ?_
 refine wt ?_
 refine j0l (z0M (caps := [.av (lt l), .own 10 0, .own 11 0]) rfl) rfl ?_
 refine j0t (j0I 23 rfl) rfl ?_
 refine v0N (v0Z (s := .clo 95 [.av (lt l), .own 10 0, .own 11 0]) rfl rfl rfl rfl rfl nofun) ?_
 refine wt ?_
 refine J0L rfl rfl (Q1U l h h7 hw) [8, 14, 15, 16, 17, 9, 18, 19, 20, 21] [(2, .own 20 0), (3, .own 21 0), (4, .own 22 0), (5, .own 10 0), (6, .own 11 0), (7, .own 23 0), (13, .av (dcl l))] (fun pre => [(10, X0u l (mS l pre)), (11, J1x l (mS l pre)), (20, .cells [.av (vS [])]), (21, .cells [.av (vi 0), .av (vi 0), .av (vi 0), .av (vi 0), .av (vi 0)]), (22, .cells [.av (vi 0)]), (23, .cells [.clo 95 [.av (lt l), .own 10 0, .own 11 0]])]) (fun x => [(8, .av (.ptr 3 (fun j => .val (cellOf x j))))]) (ent xS xT) rfl rfl rfl rfl (fun _ => rfl) ?_ ?_ ?_
 ·rintro lp a0 w0 Z0 keep pre x ⟨d, rfl, hn, hB⟩
  refine wt ?_
  exact Z0r (Ent.trans (v0m 8 12 (fun j => .val (cellOf (.agg #[.int .i64 d.x, .int .i64 d.y, .int .i64 d.z]) j)) rfl rfl rfl) (ent xS xT))
 ·rintro lp a0 w0 Z0 keep pre x ⟨d, rfl, hn, hB⟩ hlen
  have hk := X1j l d (mS l pre) hl hl0 h7 ⟨hn, hB⟩ (K1h l pre)
  rw [V1T l pre ⟨hn, hB⟩]
  refine wt ?_
  refine j0t (Y0w [(1000, 10), (1001, 11)] hk rfl rfl ⟨rfl, rfl, trivial⟩ rfl) rfl ?_
  refine wt ?_
  exact Z0t (ent xS xT)
 ·intro D w2 xs Z1 ν a hA hR h'
  rw [Z1e h h7 hw (Q1a hR)] at h'
  refine w1W ⟨_, _, h'⟩ ?_
  refine wt ?_
  exact z0g hA (j0A (rvs := [_, _, _]) (τs := [_, _, _]) rfl rfl ⟨.cell rfl rfl rfl, .agg (us := [.int .i64 (lm l).x, .int .i64 (lm l).y, .int .i64 (lm l).z, .int .i64 (loD l (lm l)), .int .i64 (hiD l (lm l))]) rfl rfl rfl rfl, .cell rfl rfl rfl, trivial⟩ rfl)
end Go.Proofs.YtgblokifbgeegaaGreatDoor.H.S
namespace Go.Proofs.YtgblokifbgeegaaGreatDoor.H.S
open Go Go.Vc Go.RowKit Go.Na Go.Lib H.G
set_option maxHeartbeats 8000000
abbrev lpt (l : List Pt) : AV := .ptr 1 (fun _ => pts l)
abbrev qcl (l : List Pt) : AV := .clo 152 1 (fun i => [lpt l].getD i .any)
theorem Z1x (l : List Pt) : CtrA Tryz.prog 120 [pts l] (qcl l) := by
 refine j0o _ Tryz.func120 rfl rfl Tryz.ntmps120 rfl fun w Z => ?_
 refine xU ?_
 refine wt ?_
 exact xV
structure GP (l : List Pt) (x : Nat × Nat) : Prop where
 lt : x.1 < x.2
 len : x.2 < l.length
 sup : j1z l x.1 x.2 = true
theorem GP.S {l : List Pt} {x : Nat × Nat} (h : GP l x) : j1I l x.1 x.2 := (J0B (by have := h.lt; have := h.len; omega) h.len).1 h.sup
def V4 (l : List Pt) (x : Value) : Prop := ∃ y : Nat × Nat, x = .agg #[.int .i64 y.1, .int .i64 y.2, .int .i64 (arN l y.1 y.2 l.length), .int .i64 (frN l y.1 y.2 l.length)] ∧ GP l y
theorem Z1v {l : List Pt} {i j : Nat} (h : GP l (i, j)) (Z : j0p) (w : World) (v : Value) (hv : AV.ok Z w (prA l i j) v) : V4 l v := ⟨(i, j), hv, h⟩
theorem Z1w {l : List Pt} {i m : Nat} (hi : i < l.length) (hm : m ≤ l.length) : iP l i ++ jP l i m <+: Z0h l := by
 have h1 : jP l i m <+: jP l i l.length := x0c (f := jP l i) (fun k => Y0Y l i k) hm
 have h2 : iP l (i + 1) <+: iP l l.length := x0c (f := iP l) (fun k => Y0W l k) hi
 rw [Y0W] at h2
 exact ((List.prefix_append_right_inj _).2 h1).trans h2
theorem W1h (l : List Pt) (hl : ∀ i, SmP (gp l i)) (hn : l.length ≤ 1000) : CtrM Tryz.prog 152 [lpt l] (V4 l) ((Z0h l).map fun x => prA l x.1 x.2) := by
 refine k1K _ Tryz.func152 rfl rfl Tryz.ntmps152 rfl fun y J Y w Z S => ?_
 refine xU ?_
 refine wt ?_
 refine v0v Y (γ := Nat) (fun i => [(0, .av (yv y)), (1, .av (lpt l)), (7, .av (pts l)), (8, .av (vi l.length)), (9, .av (vi i))]) (fun i => (iP l i).length) (fun i => i ≤ l.length) (fun i => l.length - i) 0 S (Nat.zero_le _) (ent xS trivial) ?_
 intro i hi w Z S
 refine wt ?_
 (refine j0a rfl ?_ ?_ <;> intro hb <;> (try simp only [xA, xB, xG, xC, xD, xN] at hb) <;> (try exact xQ))
 ·have hil : i < l.length := by omega
  have S0 : iP l i ++ jP l i (i + 1) = iP l i := by rw [J1g l i (i + 1) (by omega), List.append_nil]
  rw [← S0] at S
  refine wt ?_
  refine v0v Y (γ := Nat) (fun m => [(0, .av (yv y)), (1, .av (lpt l)), (3, .av (vi i)), (4, .av (vi m)), (7, .av (pts l)), (8, .av (vi l.length)), (9, .av (vi i))]) (fun m => (iP l i ++ jP l i m).length) (fun m => i + 1 ≤ m ∧ m ≤ l.length) (fun m => l.length - m) (i + 1) S xO (ent xS trivial) ?_
  rintro m ⟨hm1, hm2⟩ w Z S
  refine wt ?_
  (refine j0a rfl ?_ ?_ <;> intro hb <;> (try simp only [xA, xB, xG, xC, xD, xN] at hb) <;> (try exact xQ))
  ·have hml : m < l.length := by omega
   have hs := Y0r l i m hl hn hil hml
   have hcs := Y0Y l i m
   have hpr := Z1w (l := l) hil (m := m + 1) xO
   cases hb2 : j1z l i m with
   |false =>
    rw [hb2] at hs
    rw [if_neg (by rw [hb2]; rintro ⟨_, q⟩; cases q), List.append_nil] at hcs
    rw [← hcs] at S
    refine wt ?_
    exact q0d Y (g := m) (m + 1) S ⟨by omega, by omega⟩ xO (ent xS trivial)
   |true =>
    rw [hb2] at hs
    rw [if_pos ⟨by omega, hb2⟩] at hcs
    rw [hcs, ← List.append_assoc] at hpr
    have hmm : ((Z0h l).map fun x => prA l x.1 x.2)[(iP l i ++ jP l i m).length]? = some (prA l i m) := by
     rw [List.getElem?_map, w1k hpr]; rfl
    have hlen : (iP l i ++ jP l i (m + 1)).length = (iP l i ++ jP l i m).length + 1 := by rw [hcs]; simp; omega
    refine wt ?_
    repeat' (first
      |(refine Y0n (j0n (us := [.int .i64 _, .int .i64 _, .int .i64 _, .int .i64 _]) rfl rfl rfl rfl) rfl rfl rfl ?_; refine wt ?_))
    refine v0G x0F ?_
    refine w0u Y S (τ := prA l i m) hmm (Z1v ⟨by show i < m; omega, hml, hb2⟩) rfl rfl rfl rfl rfl (fun w' Z' S' => ?_)
    rw [← hlen] at S'
    refine wt ?_
    exact q0d Y (g := m) (m + 1) S' ⟨by omega, by omega⟩ xO (ent xS trivial)
  ·obtain rfl : m = l.length := by omega
   rw [← Y0W] at S
   refine wt ?_
   exact q0d Y (g := i) (i + 1) S xO xO (ent xS trivial)
 ·obtain rfl : i = l.length := by omega
  have e4 : (iP l l.length).length = ((Z0h l).map fun x => prA l x.1 x.2).length := by simp [Z0h]
  rw [e4] at S
  refine wt ?_
  exact W0N Y rfl S
theorem X1z {l : List Pt} {x : Nat × Nat} (h : GP l x) : Wp l x = ((arN l x.1 x.2 l.length * arN l x.1 x.2 l.length : Int) : Rat) / ((j1O (gp l x.1) (gp l x.2) : Int) : Rat) := by
 unfold Wp Wq
 rw [X1G h.S]
 congr 2
 simp only [pp, j0b, j1O]
 grind
theorem Q1D {l : List Pt} (hl : ∀ i, SmP (gp l i)) (i j : Nat) : ∀ k, 0 ≤ arN l i j k ∧ arN l i j k ≤ 720000000000
 |0 => ⟨Int.le_refl _, by show (0 : Int) ≤ 720000000000; omega⟩
 |k + 1 => by
  obtain ⟨h1, h2⟩ := Q1D hl i j k
  obtain ⟨⟨q1, q2⟩, q3, q4⟩ := V1O (hl i) (hl j) (hl k)
  have e : amx (lfP l i j k) = max (lf3 (gp l i) (gp l j) (gp l k)) (-lf3 (gp l i) (gp l j) (gp l k)) := rfl
  have f : lf3 (gp l i) (gp l j) (gp l k) = (((gp l j).x - (gp l i).x) * ((gp l k).y - (gp l i).y) - ((gp l j).y - (gp l i).y) * ((gp l k).x - (gp l i).x)) := rfl
  rw [V0O]
  split <;> omega
theorem w1r (l : List Pt) (x : Nat × Nat) (hl : ∀ i, SmP (gp l i)) (hn : l.length ≤ 1000) (h : GP l x) : CtrA Tryz.prog 118 [prA l x.1 x.2, pts l] (vS (rtx (Wp l x))) := by
 have h1 := h.lt
 have h2 := h.len
 obtain ⟨b1, b2⟩ := Q1D hl x.1 x.2 l.length
 have hs := w1Y (arN l x.1 x.2 l.length) (gp l x.1) (gp l x.2) (hl _) (hl _) h.S.2.2.1 ⟨by omega, by omega⟩
 rw [← X1z h] at hs
 have f1 := Y1C l x.1 x.2 l.length xO
 generalize Wp l x = q at hs ⊢
 obtain ⟨i, j⟩ := x
 dsimp only at *
 refine j0o _ Tryz.func118 rfl rfl Tryz.ntmps118 rfl fun w Z => ?_
 refine xU ?_
 refine wt ?_
 exact xV
theorem Q1w {l : List Pt} (hl : ∀ i, SmP (gp l i)) {x : Nat × Nat} (h : GP l x) : LR 49 (Wp l x) := by
 rw [X1z h]
 have hp := k0q h.S.2.2.1
 obtain ⟨b1, b2⟩ := Q1D hl x.1 x.2 l.length
 rw [← Rat.divInt_eq_div]
 have ha : LI 12 (arN l x.1 x.2 l.length) := (show (arN l x.1 x.2 l.length).natAbs < 10 ^ 12 by omega)
 have hf : LI 12 (j1O (gp l x.1) (gp l x.2)) := (show (j1O (gp l x.1) (gp l x.2)).natAbs < 10 ^ 12 by
  have e : j1O (gp l x.1) (gp l x.2) = ((gp l x.2).x - (gp l x.1).x) * ((gp l x.2).x - (gp l x.1).x) + ((gp l x.2).y - (gp l x.1).y) * ((gp l x.2).y - (gp l x.1).y) := rfl
  obtain ⟨⟨a1, a2⟩, a3, a4⟩ := hl x.1
  obtain ⟨⟨c1, c2⟩, c3, c4⟩ := hl x.2
  obtain ⟨q1, q2⟩ := j0U (A := 600000) (B := 600000) (m := (gp l x.2).x - (gp l x.1).x) (n := (gp l x.2).x - (gp l x.1).x) ⟨by omega, by omega⟩ ⟨by omega, by omega⟩
  obtain ⟨q3, q4⟩ := j0U (A := 600000) (B := 600000) (m := (gp l x.2).y - (gp l x.1).y) (n := (gp l x.2).y - (gp l x.1).y) ⟨by omega, by omega⟩ ⟨by omega, by omega⟩
  omega)
 exact J0P xO ((ha.mul ha).mono xE) (hf.mono xE)
def wP (l : List Pt) : Option (Nat × Nat) → List UInt8
 |none => []
 |some x => rtx (Wp l x)
abbrev X1m (l : List Pt) (m : Option (Nat × Nat)) : Res := .cells [.av (vS (wP l m))]
def o1 (m : Option (Nat × Nat)) : Nat := (m.getD (0, 0)).1
def o2 (m : Option (Nat × Nat)) : Nat := (m.getD (0, 0)).2
def o3 (l : List Pt) : Option (Nat × Nat) → Int
 |none => 0
 |some x => arN l x.1 x.2 l.length
def o4 (l : List Pt) : Option (Nat × Nat) → Nat
 |none => 0
 |some x => frN l x.1 x.2 l.length
abbrev otR (l : List Pt) (m : Option (Nat × Nat)) : Res := .cells [.av (vi (o1 m)), .av (vi (o2 m)), .av (vi (o3 l m)), .av (vi (o4 l m))]
theorem W1d (l : List Pt) (x : Nat × Nat) (m : Option (Nat × Nat)) (hl : ∀ i, SmP (gp l i)) (hn : l.length ≤ 1000) (hx : GP l x) (hm : ∀ y, m = some y → GP l y) :
  CtrH Tryz.prog 117 [.av (prA l x.1 x.2), .av (lpt l), .own 1000 0, .own 1001 0] [(1000, X1m l m), (1001, otR l m)] (.av .any) [(1000, X1m l (K0K l m x)), (1001, otR l (K0K l m x))] := by
 have hs := w1r l x hl hn hx
 cases m with
 |none =>
  refine z0m _ Tryz.func117 rfl rfl Tryz.ntmps117 rfl rfl fun w Z ν => ?_
  refine xU ?_
  refine wt ?_
  repeat' (first
    |(refine j0l (j0v (us := [.int .i64 _, .int .i64 _, .int .i64 _, .int .i64 _]) rfl rfl rfl rfl) rfl ?_; refine wt ?_)
    |(refine v0j (j0v (us := [.int .i64 _, .int .i64 _, .int .i64 _, .int .i64 _]) rfl rfl rfl rfl) rfl ?_; refine wt ?_))
  exact j0T (T' := []) (O' := [(1000, X1m l (some x)), (1001, otR l (some x))]) (ent trivial xT) (x0N rfl rfl rfl)
 |some y =>
  have hy := hm y rfl
  have hc := k0M (Wp l x) (Wp l y) ((Q1w hl hx).mono xE) ((Q1w hl hy).mono xE)
  have hne : (wP l (some y) == []) = false := by rw [beq_eq_false_iff_ne]; exact w1D _
  have hS : K0K l (some y) x = if Wp l x < Wp l y then some x else some y := rfl
  by_cases hlt : Wp l x < Wp l y
  ·rw [decide_eq_true hlt] at hc
   rw [hS, if_pos hlt]
   refine z0m _ Tryz.func117 rfl rfl Tryz.ntmps117 rfl rfl fun w Z ν => ?_
   refine xU ?_
   refine wt ?_
   repeat' (first
     |(refine j0l (j0v (us := [.int .i64 _, .int .i64 _, .int .i64 _, .int .i64 _]) rfl rfl rfl rfl) rfl ?_; refine wt ?_))
   rw [hne]
   refine wt ?_
   repeat' (first
     |(refine v0j (j0v (us := [.int .i64 _, .int .i64 _, .int .i64 _, .int .i64 _]) rfl rfl rfl rfl) rfl ?_; refine wt ?_))
   exact j0T (T' := []) (O' := [(1000, X1m l (some x)), (1001, otR l (some x))]) (ent trivial xT) (x0N rfl rfl rfl)
  ·rw [decide_eq_false hlt] at hc
   rw [hS, if_neg hlt]
   refine z0m _ Tryz.func117 rfl rfl Tryz.ntmps117 rfl rfl fun w Z ν => ?_
   refine xU ?_
   refine wt ?_
   repeat' (first
     |(refine j0l (j0v (us := [.int .i64 _, .int .i64 _, .int .i64 _, .int .i64 _]) rfl rfl rfl rfl) rfl ?_; refine wt ?_))
   rw [hne]
   refine wt ?_
   exact j0T (T' := []) (O' := [(1000, X1m l (some y)), (1001, otR l (some y))]) (ent trivial xT) (x0N rfl rfl rfl)
def pOf (x : Value) : Nat × Nat := ((Y1R (cellOf x 0)).toNat, (Y1R (cellOf x 1)).toNat)
theorem J1z (l : List Pt) (y : Nat × Nat) : pOf (.agg #[.int .i64 y.1, .int .i64 y.2, .int .i64 (arN l y.1 y.2 l.length), .int .i64 (frN l y.1 y.2 l.length)]) = y := by
 show ((((y.1 : Nat) : Int).toNat, ((y.2 : Nat) : Int).toNat) : Nat × Nat) = y
 simp
def gpB (l : List Pt) (y : Nat × Nat) : Bool := decide (y.1 < y.2) && decide (y.2 < l.length) && j1z l y.1 y.2
theorem Y0U (l : List Pt) (y : Nat × Nat) : gpB l y = true ↔ GP l y := by
 unfold gpB
 simp only [Bool.and_eq_true, decide_eq_true_eq]
 exact ⟨fun ⟨⟨h1, h2⟩, h3⟩ => ⟨h1, h2, h3⟩, fun h => ⟨⟨h.lt, h.len⟩, h.sup⟩⟩
def mP (l : List Pt) (pre : List Value) : Option (Nat × Nat) := Q1H l ((pre.map pOf).filter (gpB l))
theorem V1S (l : List Pt) (pre : List Value) {y : Nat × Nat} (h : GP l y) : mP l (pre ++ [.agg #[.int .i64 y.1, .int .i64 y.2, .int .i64 (arN l y.1 y.2 l.length), .int .i64 (frN l y.1 y.2 l.length)]]) = K0K l (mP l pre) y := by
 unfold mP
 rw [List.map_append, List.filter_append, List.map_singleton, J1z]
 rw [show List.filter (gpB l) [y] = [y] by simp [List.filter_cons, (Y0U l y).2 h], Q1I]
theorem z1M {l : List Pt} : ∀ (L : List (Nat × Nat)) (m : Option (Nat × Nat)), (∀ x, m = some x → GP l x) → (∀ x ∈ L, GP l x) → ∀ x, L.foldl (K0K l) m = some x → GP l x
 |[], m, hm, _, x, h => hm x h
 |d :: L, m, hm, hL, x, h => by
  refine z1M L (K0K l m d) (fun y hy => ?_) (fun y hy => hL y (by simp [hy])) x h
  cases m with
  |none => cases hy; exact hL d (by simp)
  |some z =>
   simp only [K0K] at hy
   split at hy
   ·cases hy; exact hL d (by simp)
   ·cases hy; exact hm _ rfl
theorem K1g (l : List Pt) (pre : List Value) (x : Nat × Nat) (h : mP l pre = some x) : GP l x :=
 z1M _ none (fun _ h => by cases h) (fun y hy => (Y0U l y).1 (List.mem_filter.1 hy).2) x h
theorem J1C {l : List Pt} {Z : j0p} {w : World} : ∀ {L : List (Nat × Nat)} {xs : List Value}, All2 (fun τ v => AV.ok Z w τ v) (L.map fun x => prA l x.1 x.2) xs → xs.map pOf = L
 |[], [], _ => rfl
 |d :: L, x :: xs, ⟨h1, h2⟩ => by
  obtain rfl : x = _ := h1
  rw [List.map_cons, J1C h2, J1z]
 |[], _ :: _, h => h.elim
 |_ :: _, [], h => h.elim
theorem k0Z {l : List Pt} : ∀ x ∈ Z0h l, GP l x := fun x hx => by
 obtain ⟨h1, h2, h3⟩ := J0s.1 hx
 exact ⟨h1, h2, (J0B xO h2).2 h3⟩
theorem Z1d {l : List Pt} {xs : List Value} (hx : xs.map pOf = Z0h l) : mP l xs = bP l := by
 unfold mP bP
 rw [hx, List.filter_eq_self.2 (fun d hd => (Y0U l d).2 (k0Z d hd))]
def wT (l : List Pt) : List UInt8 := if bP l = none then [48] else wP l (bP l)
theorem K1G (l : List Pt) : wT l = rtx (Ws l) := by
 unfold wT Ws
 cases h : bP l with
 |none => simp only [if_pos]; exact Q0A 0 ▸ itoa_zero.symm
 |some x => rfl
theorem k0W (l : List Pt) (hl : ∀ i, SmP (gp l i)) (hn : l.length ≤ 1000) : CtrA Tryz.prog 79 [pts l] (j0u [vS (rtx (Ws l)), .val (.agg #[.int .i64 (o1 (bP l)), .int .i64 (o2 (bP l)), .int .i64 (o3 l (bP l)), .int .i64 (o4 l (bP l))])]) := by
 have hdc := Z1x l
 rw [← K1G]
 refine X1W _ Tryz.func79 rfl rfl Tryz.ntmps79 rfl fun w Z => ?_
 refine xU ?_
 refine y0D ?_
 refine q0B ?_
 refine j0l (X0G rfl rfl) rfl ?_
 refine wt ?_
 repeat' (first
   |(refine j0l (j0j (t := 116) (is := []) (xs := []) (vs := []) x1g rfl rfl) rfl ?_; refine wt ?_))
 refine j0l (z0M (caps := [.av (lpt l), .own 11 0, .own 12 0]) rfl) rfl ?_
 refine j0t (j0I 23 rfl) rfl ?_
 refine v0N (v0Z (s := .clo 117 [.av (lpt l), .own 11 0, .own 12 0]) rfl rfl rfl rfl rfl nofun) ?_
 refine wt ?_
 refine J0L rfl rfl (W1h l hl hn) [7, 12, 13, 14, 15] [(3, .own 10 0), (4, .own 11 0), (5, .own 12 0), (6, .own 23 0), (11, .av (qcl l))] (fun pre => [(11, X1m l (mP l pre)), (12, otR l (mP l pre)), (10, .cells [.av (vi 0), .av (vi 0), .av (vi 0), .av (vi 0)]), (23, .cells [.clo 117 [.av (lpt l), .own 11 0, .own 12 0]])]) (fun x => [(7, .av (.ptr 4 (fun j => .val (cellOf x j))))]) (ent xS xT) rfl rfl rfl rfl (fun _ => rfl) ?_ ?_ ?_
 ·rintro lp a0 w0 Z0 keep pre x ⟨y, rfl, hy⟩
  refine wt ?_
  exact Z0r (Ent.trans (v0m 7 13 (fun j => .val (cellOf (.agg #[.int .i64 y.1, .int .i64 y.2, .int .i64 (arN l y.1 y.2 l.length), .int .i64 (frN l y.1 y.2 l.length)]) j)) rfl rfl rfl) (ent xS xT))
 ·rintro lp a0 w0 Z0 keep pre x ⟨y, rfl, hy⟩ hlen
  have hk := W1d l y (mP l pre) hl hn hy (K1g l pre)
  rw [V1S l pre hy]
  refine wt ?_
  repeat' (first
    |(refine j0l (j0v (us := [.int .i64 _, .int .i64 _, .int .i64 _, .int .i64 _]) rfl rfl rfl rfl) rfl ?_; refine wt ?_))
  refine j0t (Y0w [(1000, 11), (1001, 12)] hk rfl rfl ⟨rfl, rfl, trivial⟩ rfl) rfl ?_
  refine wt ?_
  exact Z0t (ent xS xT)
 ·intro D w2 xs Z1 ν a hA hR h'
  rw [Z1d (J1C hR)] at h'
  unfold wT
  generalize bP l = m at h' ⊢
  refine w1W ⟨_, _, h'⟩ ?_
  cases m with
  |none =>
   refine wt ?_
   repeat' (first
     |(refine j0l (j0j (t := 116) (is := []) (xs := []) (vs := []) x1g rfl rfl) rfl ?_; refine wt ?_))
   exact z0g hA (j0A (rvs := [_, _]) (τs := [_, _]) rfl rfl ⟨.tmp rfl, .agg (us := [.int .i64 0, .int .i64 0, .int .i64 0, .int .i64 0]) rfl rfl rfl rfl, trivial⟩ rfl)
  |some x =>
   have hne : (wP l (some x) == []) = false := by rw [beq_eq_false_iff_ne]; exact w1D _
   refine wt ?_
   rw [hne]
   refine wt ?_
   repeat' (first
     |(refine v0j (j0n (us := [.int .i64 _, .int .i64 _, .int .i64 _, .int .i64 _]) rfl rfl rfl rfl) rfl ?_; refine wt ?_))
   exact z0g hA (j0A (rvs := [_, _]) (τs := [_, _]) rfl rfl ⟨.tmp rfl, .agg (us := [.int .i64 x.1, .int .i64 x.2, .int .i64 (arN l x.1 x.2 l.length), .int .i64 (frN l x.1 x.2 l.length)]) rfl rfl rfl rfl, trivial⟩ rfl)
theorem k1b : Tryz.prog.built 73 [] = some #[.int .i64 0, .int .i64 0] := by kernel_rfl
def zW (l : List Pt) : List UInt8 := if z0t l = 0 then rtx (Ws l) else []
def zI (l : List Pt) : Nat := if z0t l = 0 then o1 (bP l) else 0
def zJ (l : List Pt) : Nat := if z0t l = 0 then o2 (bP l) else 0
def zF (l : List Pt) : Nat := if z0t l = 0 then o4 l (bP l) else 0
theorem X0F {l : List Pt} (h : z0t l = 0) : chk l = 0 ∧ 0 < l.length := by
 unfold z0t at h
 by_cases h0 : chk l = 0
 ·rw [if_neg (by omega)] at h
  split at h <;> omega
 ·rw [if_pos h0] at h; omega
theorem K0c (l : List Pt) : CtrA Tryz.prog 41 [pts l] (j0u [vS (zW l), .val (.agg #[.int .i64 (zI l), .int .i64 (zJ l)]), vi (zF l), vi (z0t l)]) := by
 have hg := k0V l
 have hl := fun e : z0t l = 0 => k0W l (Q0X (X0F e).1).1 (by have := (Q0X (X0F e).1).2; omega)
 unfold zW zI zJ zF
 generalize z0t l = e at hg hl ⊢
 by_cases he : e = 0
 ·rw [if_pos he, if_pos he, if_pos he, if_pos he]
  have hl := hl he
  subst he
  refine j0o _ Tryz.func41 rfl rfl Tryz.ntmps41 rfl fun w Z => ?_
  refine xU ?_
  refine wt ?_
  exact j0A (rvs := [_, _, _, _]) (τs := [_, _, _, _]) rfl rfl ⟨.tmp rfl, .agg (us := [.int .i64 (o1 (bP l)), .int .i64 (o2 (bP l))]) rfl rfl rfl rfl, .tmp rfl, .tmp rfl, trivial⟩ rfl
 ·rw [if_neg he, if_neg he, if_neg he, if_neg he]
  refine j0o _ Tryz.func41 rfl rfl Tryz.ntmps41 rfl fun w Z => ?_
  refine xU ?_
  refine wt ?_
  (refine j0a rfl ?_ ?_ <;> intro hb <;> (try simp only [xA, xB, xG, xC, xD, xN] at hb) <;> (try exact xQ))
  refine wt ?_
  repeat' (first
    |(refine j0l (j0j (t := 73) (is := []) (xs := []) (vs := []) k1b rfl rfl) rfl ?_; refine wt ?_))
  exact j0A (rvs := [_, _, _, _]) (τs := [_, _, _, _]) rfl rfl ⟨.tmp rfl, .agg (us := [.int .i64 0, .int .i64 0]) rfl rfl rfl rfl, .tmp rfl, .tmp rfl, trivial⟩ rfl
end Go.Proofs.YtgblokifbgeegaaGreatDoor.H.S
namespace Go.Proofs.YtgblokifbgeegaaGreatDoor.H.S
open Go Go.Vc Go.RowKit
theorem Y1u {l : List Tr} (h : w0f l = 0) (hw : Q0U l) : V0c l = 0 := by
 unfold V0c
 rw [if_pos h, if_neg (by have := (k0b l).1 hw; omega)]
end Go.Proofs.YtgblokifbgeegaaGreatDoor.H.S
namespace Go.Proofs.YtgblokifbgeegaaGreatDoor.H.S
open Go Go.Vc Go.RowKit H.G
theorem X0Z (l : List Pt) (h : Int) : (j0P l h).length = 2 * l.length := by
 unfold j0P
 induction l with
 |nil => rfl
 |cons p l ih => rw [List.flatMap_cons, List.length_append, ih]; simp; omega
theorem V1u {l : List Tr} {t : Tr} (h : t ∈ l) : ∃ i, i < l.length ∧ gt l i = t := x0X h
theorem j1p {l : List Pt} {h : Int} {i j : Nat} (hi : i < l.length) (hj : j < l.length) (hne : gp l i ≠ gp l j) (hh : 0 < h) : Q0U (j0P l h) := by
 obtain ⟨a, ha, ea⟩ := V1u (q0C (h := h).2 ⟨i, hi, .inl rfl⟩)
 obtain ⟨b, hb, eb⟩ := V1u (q0C (h := h).2 ⟨j, hj, .inl rfl⟩)
 obtain ⟨c, hc, ec⟩ := V1u (q0C (h := h).2 ⟨i, hi, .inr rfl⟩)
 refine ⟨a, b, c, ha, hb, hc, fun e => hne ?_⟩
 rw [ea, eb, ec] at e
 generalize gp l i = p at *
 generalize gp l j = q at *
 simp only [tac, tcr, j0H, p3, tz, Tr.mk.injEq] at e
 obtain ⟨e1, e2, _⟩ := e
 have f1 : (q.y - p.y) * h = 0 := by grind
 have f2 : (q.x - p.x) * h = 0 := by grind
 have g1 : q.y - p.y = 0 := by rcases Int.mul_eq_zero.1 f1 with z | z <;> omega
 have g2 : q.x - p.x = 0 := by rcases Int.mul_eq_zero.1 f2 with z | z <;> omega
 cases p; cases q
 simp only [Pt.mk.injEq] at *
 omega
theorem w1m {l : List Pt} {h : Int} (hl : l.length ≤ 3) (hp : ∀ p ∈ l, (-1000 ≤ p.x ∧ p.x ≤ 1000) ∧ (-1000 ≤ p.y ∧ p.y ≤ 1000)) (hh : 0 ≤ h ∧ h ≤ 1000) : w0f (j0P l h) = 0 := by
 unfold w0f
 rw [if_neg (by rw [X0Z]; omega), if_pos]
 rw [List.all_eq_true]
 intro t ht
 obtain ⟨i, hi, ht⟩ := q0C.1 ht
 have hm : gp l i ∈ l := by unfold gp; simp [List.getD, hi]
 obtain ⟨⟨a1, a2⟩, a3, a4⟩ := hp _ hm
 unfold z0e inB
 rcases ht with rfl | rfl
 ·simp only [p3, Bool.and_eq_true]; refine ⟨⟨⟨?_, ?_⟩, ?_, ?_⟩, ?_, ?_⟩ <;> (refine decide_eq_true ?_; omega)
 ·simp only [Bool.and_eq_true]; refine ⟨⟨⟨?_, ?_⟩, ?_, ?_⟩, ?_, ?_⟩ <;> (refine decide_eq_true ?_; omega)
theorem x1S {l : List Pt} {h : Int} {i j : Nat} (hi : i < l.length) (hj : j < l.length) (hne : gp l i ≠ gp l j) (hh : 0 < h) {m : Tr} (hm : MinD (j0P l h) m) : Wq (j0P l h) m = if Ws l < ((h * h : Int) : Rat) then Ws l else ((h * h : Int) : Rat) := by
 obtain ⟨x, hx⟩ := X1K hi hj hne
 have hd := z1J hx
 obtain ⟨h1, h2⟩ := w1l xO hh hd hm
 have e : Ws l = Wq (flat3 l) (pp l x.1 x.2) := by unfold Ws; rw [hx]; rfl
 split
 ·next q => rw [e] at q ⊢; exact h1 (Rat.le_of_lt q)
 ·next q => rw [e] at q; exact h2 (Rat.not_lt.1 q)
theorem X0o {l : List Pt} {h t : Int} {i j : Nat} (hi : i < l.length) (hj : j < l.length) (hne : gp l i ≠ gp l j) (ht : 0 ≤ t) (hth : t < h) {m : Tr} (hm : MinD (j0P l h) m) : Wq (j0P l h) m ≤ ((t * t : Int) : Rat) ↔ Ws l ≤ ((t * t : Int) : Rat) := by
 obtain ⟨x, hx⟩ := X1K hi hj hne
 have hd := z1J hx
 have e : Ws l = Wq (flat3 l) (pp l x.1 x.2) := by unfold Ws; rw [hx]; rfl
 rw [e]
 exact w1o xO xO ht hth hd hm
end Go.Proofs.YtgblokifbgeegaaGreatDoor.H.S
section
end
namespace Go.Proofs.YtgblokifbgeegaaGreatDoor.H.S
open Go Go.Vc Go.RowKit Go.Na Go.Lib
set_option maxHeartbeats 8000000
theorem k0n {l : List Tr} (h : V0c l = 0) : w0f l = 0 ∧ Q0U l := by
 unfold V0c at h
 by_cases h0 : w0f l = 0
 ·rw [if_pos h0] at h
  refine ⟨h0, (k0b l).2 ?_⟩
  by_cases h2 : (spn l).dim < 2
  ·rw [if_pos h2] at h; omega
  ·omega
 ·rw [if_neg h0] at h; exact absurd h h0
theorem few.le7 {l : List Tr} (hf : few l) (h : w0f l = 0) : l.length ≤ 7 := (hf.le h).2
def wtx (l : List Tr) : List UInt8 := if V0c l = 0 then rtx (Wq l (lm l)) else []
def dW (l : List Tr) : Tr := if V0c l = 0 then lm l else tz
def aW (l : List Tr) : Int := if V0c l = 0 then loD l (lm l) else 0
def bW (l : List Tr) : Int := if V0c l = 0 then hiD l (lm l) else 0
theorem K0F (l : List Tr) (hf : few l) : CtrA Tryz.prog 18 [ts l] (j0u [vS (wtx l), zA (dW l) (aW l) (bW l), vi (V0c l)]) := by
 have hg := z1D l hf
 have hl := fun e : V0c l = 0 => z1E l (k0n e).1 (hf.le7 (k0n e).1) (k0n e).2
 unfold wtx dW aW bW
 generalize V0c l = e at hg hl ⊢
 by_cases he : e = 0
 ·rw [if_pos he, if_pos he, if_pos he, if_pos he]
  have hl := hl he
  subst he
  refine j0o _ Tryz.func18 rfl rfl Tryz.ntmps18 rfl fun w Z => ?_
  refine xU ?_
  refine wt ?_
  exact j0A (rvs := [_, _, _]) (τs := [_, _, _]) rfl rfl ⟨.tmp rfl, .agg (us := [_, _, _, _, _]) rfl rfl rfl rfl, .tmp rfl, trivial⟩ rfl
 ·rw [if_neg he, if_neg he, if_neg he, if_neg he]
  refine j0o _ Tryz.func18 rfl rfl Tryz.ntmps18 rfl fun w Z => ?_
  refine xU ?_
  refine wt ?_
  (refine j0a rfl ?_ ?_ <;> intro hb <;> (try simp only [xA, xB, xG, xC, xD, xN] at hb) <;> (try exact xQ))
  refine wt ?_
  exact j0A (rvs := [_, _, _]) (τs := [_, _, _]) rfl rfl ⟨.tmp rfl, .agg (us := [_, _, _, _, _]) rfl rfl rfl rfl, .tmp rfl, trivial⟩ rfl
def V1h (l : List Tr) (t : Int) : Int := if w0f l = 0 then (if t < 0 ∨ 100000 < t then 2 else V0c l) else w0f l
def inW (l : List Tr) (t : Int) : Bool := if V1h l t = 0 then decide (Wq l (lm l) ≤ ((t * t : Int) : Rat)) else false
theorem Z1C (q r : Rat) : decide (rsg (q - r) ≤ 0) = decide (q ≤ r) := by
 rw [Bool.eq_iff_iff, decide_eq_true_eq, decide_eq_true_eq]
 have h1 := Y0h (q := r) (r := q)
 have h2 := Y0h (q := q) (r := r)
 have h3 := J1G (q := q) (r := r)
 rcases Y0g (q - r) with h | h | h
 ·have : q < r := h2.1 xO
  exact ⟨fun _ => Rat.le_of_lt this, fun _ => by omega⟩
 ·have e : q = r := h3.1 h
  exact ⟨fun _ => by rw [e]; exact Rat.le_refl, fun _ => by omega⟩
 ·constructor
  ·intro _; omega
  ·intro hle
   exfalso
   rcases Rat.le_iff_lt_or_eq.1 hle with h4 | h4
   ·have := h2.2 h4; omega
   ·have := h3.2 h4; omega
theorem x1J (l : List Tr) (t : Int) (hf : few l) : CtrA Tryz.prog 23 [ts l, vi t] (j0u [vb (inW l t), vi (V1h l t)]) := by
 have hc := J0w l
 have hg := K0F l hf
 have hE : V1h l t = if w0f l = 0 then (if t < 0 ∨ 100000 < t then 2 else V0c l) else w0f l := rfl
 have hI : inW l t = if V1h l t = 0 then decide (Wq l (lm l) ≤ ((t * t : Int) : Rat)) else false := rfl
 generalize inW l t = b at hI ⊢
 generalize V1h l t = E at hE hI ⊢
 by_cases h0 : w0f l = 0
 ·rw [if_pos h0] at hE
  rw [h0] at hc
  by_cases ht : t < 0 ∨ 100000 < t
  ·rw [if_pos ht] at hE
   rw [hE, if_neg (by decide)] at hI
   subst hE hI
   refine j0o _ Tryz.func23 rfl rfl Tryz.ntmps23 rfl fun w Z => ?_
   refine xU ?_
   by_cases h1 : t < 0
   ·have h1' := decide_eq_true h1
    refine wt ?_
    rw [h1']
    refine wt ?_
    exact xW
   ·have h1' := decide_eq_false h1
    refine wt ?_
    rw [h1']
    refine wt ?_
    (refine j0a rfl ?_ ?_ <;> intro hb <;> (try simp only [xA, xB, xG, xC, xD, xN] at hb) <;> (try exact xQ))
    refine wt ?_
    exact xW
  ·rw [if_neg ht] at hE
   have h1' : decide (t < 0) = false := decide_eq_false xO
   by_cases he : V0c l = 0
   ·rw [he] at hE
    rw [if_pos hE] at hI
    subst hE
    unfold wtx dW aW bW at hg
    rw [if_pos he, if_pos he, if_pos he, if_pos he, he] at hg
    obtain ⟨_, hw⟩ := k0n he
    have hl := (RT.of h0).1
    have hl0 : 0 < l.length := by obtain ⟨a, _, _, ha, _⟩ := hw; omega
    have hGD : GD (lm l) := ⟨(v1H hw).1, K1f hl hw⟩
    have htt : t * t ≤ 10000000000 := by
     have := Int.mul_le_mul (show t ≤ 100000 by omega) (show t ≤ 100000 by omega) xO xO
     omega
    have htt0 : 0 ≤ t * t := Int.mul_nonneg xO xO
    have hwh := w0O (t * t) ⟨by omega, by omega⟩
    have hcm := y0n (Wq l (lm l)) ((t * t : Int) : Rat) ((Q1x hl hl0 hGD).mono xE) (LR.ofI ((show LI 19 (t * t) from I64.li ⟨by omega, by omega⟩).mono xE) xE)
    rw [vRI] at hcm
    rw [← Z1C] at hI
    subst hI
    refine j0o _ Tryz.func23 rfl rfl Tryz.ntmps23 rfl fun w Z => ?_
    refine xU ?_
    refine wt ?_
    rw [h1']
    refine wt ?_
    (refine j0a rfl ?_ ?_ <;> intro hb <;> (try simp only [xA, xB, xG, xC, xD, xN] at hb) <;> (try exact xQ))
    refine wt ?_
    exact xW
   ·rw [hE, if_neg he] at hI
    rw [hE, hI]
    generalize V0c l = e at hg he ⊢
    refine j0o _ Tryz.func23 rfl rfl Tryz.ntmps23 rfl fun w Z => ?_
    refine xU ?_
    refine wt ?_
    rw [h1']
    refine wt ?_
    (refine j0a rfl ?_ ?_ <;> intro hb <;> (try simp only [xA, xB, xG, xC, xD, xN] at hb) <;> (try exact xQ))
    refine wt ?_
    (refine j0a rfl ?_ ?_ <;> intro hb <;> (try simp only [xA, xB, xG, xC, xD, xN] at hb) <;> (try exact xQ))
    refine wt ?_
    exact xW
 ·rw [if_neg h0] at hE
  rw [hE, if_neg h0] at hI
  rw [hE, hI]
  generalize w0f l = e at hc h0 ⊢
  refine j0o _ Tryz.func23 rfl rfl Tryz.ntmps23 rfl fun w Z => ?_
  refine xU ?_
  refine wt ?_
  (refine j0a rfl ?_ ?_ <;> intro hb <;> (try simp only [xA, xB, xG, xC, xD, xN] at hb) <;> (try exact xQ))
  refine wt ?_
  exact xW
end Go.Proofs.YtgblokifbgeegaaGreatDoor.H.S
section
end
section
end
section
end
section
end
section
end
section
end
section
end
section
end
namespace Go.Proofs.YtgblokifbgeegaaGreatDoor.H.S
open Go Go.Vc Go.RowKit Go.Na Go.Lib
set_option maxHeartbeats 8000000
theorem k1O {l : List Tr} (h : V0c l = 0) : wtx l = rtx (Wq l (lm l)) ∧ dW l = lm l ∧ aW l = loD l (lm l) ∧ bW l = hiD l (lm l) := by
 unfold wtx dW aW bW
 rw [if_pos h, if_pos h, if_pos h, if_pos h]
 exact ⟨rfl, rfl, rfl, rfl⟩
theorem j2F (l : List Tr) (hf : few l) (h : V0c l = 0) : CtrA Tryz.prog 18 [ts l] (j0u [vS (rtx (Wq l (lm l))), zA (lm l) (loD l (lm l)) (hiD l (lm l)), vi 0]) := by
 have h1 := K0F l hf
 rw [(k1O h).1, (k1O h).2.1, (k1O h).2.2.1, (k1O h).2.2.2, h] at h1
 exact h1
end Go.Proofs.YtgblokifbgeegaaGreatDoor.H.S
section
end
section
end
section
end
namespace Go.Proofs.YtgblokifbgeegaaGreatDoor.H.S
open Go Go.Vc Go.RowKit Go.Na Go.Lib H.G
set_option maxHeartbeats 8000000
theorem X1C (l : List Pt) (hl : ∀ i, SmP (gp l i)) : LR 49 (Ws l) := by
 unfold Ws
 cases h : bP l with
 |none => exact ⟨LI.small (m := 0) xE xE, LI.small (m := 1) xE xE⟩
 |some x => exact Q1w hl (k0Z x (j1Y h).1)
theorem Z1z (t : Int) (ht : 0 ≤ t ∧ t ≤ 100000) : CtrA Tryz.prog 80 [vi t] (vi 0) := by
 refine j0o _ Tryz.func80 rfl rfl Tryz.ntmps80 rfl fun w Z => ?_
 refine xU ?_
 refine wt ?_
 repeat' (first
   |(refine j0r rfl rfl (fun hb => ?_) (fun hb => ?_) <;> (try simp only [xA, xB, xG, xC, xD, xN] at hb) <;> (try exact xQ) <;> refine wt ?_))
 (refine j0a rfl ?_ ?_ <;> intro hb <;> (try simp only [xA, xB, xG, xC, xD, xN] at hb) <;> (try exact xQ))
 refine wt ?_
 exact xV
theorem V1L (l : List Pt) (t : Int) (hl : ∀ i, SmP (gp l i)) (hn : l.length ≤ 1000) (ht : 0 ≤ t ∧ t ≤ 100000) : CtrA Tryz.prog 81 [pts l, vi t] (vb (decide (Ws l ≤ ((t * t : Int) : Rat)))) := by
 have h1 := k0W l hl hn
 have htt : 0 ≤ t * t ∧ t * t ≤ 10000000000 := by
  have := Int.mul_le_mul ht.2 ht.2 ht.1 (show (0 : Int) ≤ 100000 by decide)
  have := Int.mul_nonneg ht.1 ht.1
  omega
 have h2 := w0O (t * t) xO
 have h3 := k0M ((t * t : Int) : Rat) (Ws l) (LR.mono (k := 20) (LR.ofI (show (t * t).natAbs < 10 ^ 20 by omega) xE) xE) ((X1C l hl).mono xE)
 have e : (!decide (((t * t : Int) : Rat) < Ws l)) = decide (Ws l ≤ ((t * t : Int) : Rat)) := by
  rw [Bool.eq_iff_iff, Bool.not_eq_true', decide_eq_false_iff_not, decide_eq_true_eq, Rat.not_lt]
 refine j0o _ Tryz.func81 rfl rfl Tryz.ntmps81 rfl fun w Z => ?_
 refine xU ?_
 refine wt ?_
 exact j0e rfl (.tmp rfl) (congrArg vb e)
theorem x1b (l : List Pt) (t : Int) (he : z0t l = 0) (ht : 0 ≤ t ∧ t ≤ 100000) : CtrA Tryz.prog 45 [pts l, vi t] (j0u [vb (decide (Ws l ≤ ((t * t : Int) : Rat))), vi 0]) := by
 have h1 := k0V l
 have h2 := Z1z t ht
 have h3 := V1L l t (Q0X (X0F he).1).1 (by have := (Q0X (X0F he).1).2; omega) ht
 rw [he] at h1
 refine j0o _ Tryz.func45 rfl rfl Tryz.ntmps45 rfl fun w Z => ?_
 refine xU ?_
 refine wt ?_
 exact xW
def up3 (p : Pt) (h : Int) : Tr := ⟨p.x, p.y, h⟩
def prK (l : List Pt) (h : Int) (k : Nat) : List Tr := (List.range k).flatMap fun i => [p3 (gp l i), up3 (gp l i) h]
theorem k0Y (l : List Pt) (h : Int) (k : Nat) : prK l h (k + 1) = prK l h k ++ [p3 (gp l k), up3 (gp l k) h] := by
 unfold prK
 rw [List.range_succ, List.flatMap_append]; simp
theorem w1j (l : List Pt) (h : Int) : ∀ k, (prK l h k).length = 2 * k
 |0 => rfl
 |k + 1 => by rw [k0Y, List.length_append, w1j l h k]; simp; omega
theorem W1g (l : List Pt) (h : Int) : prK l h l.length = j0P l h := by
 have e : (List.range l.length).map (gp l) = l := by
  apply List.ext_getElem
  ·simp
  ·intro i h1 h2
   simp [gp, List.getD, h2]
 unfold prK j0P
 conv => rhs; rw [← e, List.flatMap_map]
 rfl
theorem W1S (p q : Tr) : ∀ i, i < 2 → ∀ j, j < 3 → ∃ u, [Value.int .i64 p.x, .int .i64 p.y, .int .i64 p.z, .int .i64 q.x, .int .i64 q.y, .int .i64 q.z][i * 3 + j]? = some u ∧ tf [p, q] i j = .val u := by
 intro i hi j hj
 rcases (by omega : i = 0 ∨ i = 1) with rfl | rfl <;> rcases (by omega : j = 0 ∨ j = 1 ∨ j = 2) with rfl | rfl | rfl <;> exact ⟨_, rfl, rfl⟩
theorem W1R (l m : List Tr) : ∀ i, i < l.length + m.length → ∀ j, j < 3 → v0H l.length (tf l) (tf m) i j = tf (l ++ m) i j := by
 intro i hi j hj
 unfold v0H tf
 rw [J1d]
 split <;> rfl
theorem k1l (a b c d e f : Int) (w : World) : (Instr.buildSlice 34 2 #[(0, .agg #[.int .i64 a, .int .i64 b, .int .i64 c]), (1, .agg #[.int .i64 d, .int .i64 e, .int .i64 f])]).run Tryz.prog w = .ok (.slice (some ⟨w.heap.size, 0, none⟩) 2 2) (w.alloc (.cells #[.int .i64 a, .int .i64 b, .int .i64 c, .int .i64 d, .int .i64 e, .int .i64 f] 53)) := by kernel_rfl
theorem Z1Z (a b : Int) : Tryz.prog.built 53 [(0, .int .i64 a), (1, .int .i64 b)] = some #[.int .i64 a, .int .i64 b, .int .i64 0] := by kernel_rfl
theorem W0G (l : List Pt) (h : Int) (hn : l.length ≤ 1000) : CtrA Tryz.prog 44 [pts l, vi h] (ts (j0P l h)) := by
 refine j0o _ Tryz.func44 rfl rfl Tryz.ntmps44 rfl fun w Z => ?_
 refine xU ?_
 refine wt ?_
 refine j0f (γ := Nat) (fun k => [(0, .av (pts l)), (1, .av (vi h)), (5, .osl 70), (8, .av (pts l)), (9, .av (vi l.length)), (10, .av (vi k))]) (fun k => [(70, .row 53 3 (prK l h k).length (tf (prK l h k)))]) (fun k => k ≤ l.length) (fun k => l.length - k) 0 (Nat.zero_le _) (Ent.trans (x0l (dd := 5) 70 53 3 (tf []) rfl rfl) (ent xS xT)) ?_
 intro k hk
 refine wt ?_
 (refine j0a rfl ?_ ?_ <;> intro hb <;> (try simp only [xA, xB, xG, xC, xD, xN] at hb) <;> (try exact xQ))
 ·have hkl : k < l.length := by omega
  have e1 := k0Y l h k
  have hYl := w1j l h k
  generalize prK l h k = Y at e1 hYl ⊢
  have hml : Y.length + 2 ≤ maxLen := by simp only [maxLen]; omega
  refine wt ?_
  repeat' (first
    |(refine j0l (j0j (t := 53) (is := [0, 1]) (xs := [_, _]) (vs := [_, _]) (Z1Z _ _) rfl rfl) rfl ?_; refine wt ?_)
    |(refine j0l (j0Y (is := [0, 1]) (xs := [_, _]) (vs := [_, _]) (us := [_, _, _, _, _, _]) (k1l _ _ _ _ _ _) rfl rfl rfl (W1S (p3 (gp l k)) (up3 (gp l k) h))) rfl ?_; refine wt ?_)
    |(refine j0t (v0z (h := tf [p3 (gp l k), up3 (gp l k) h]) (m := 2) rfl rfl rfl (fun i _ j _ => x1l _ i j) xO hml xO) rfl ?_; refine wt ?_))
  exact j0c (k + 1) (by omega) (by omega) (ent xS ⟨⟨_, rfl, .row (by rw [e1]; simp) (fun i hi j hj => by rw [e1]; exact W1R _ _ i (by simpa using hi) j hj)⟩, trivial⟩)
 ·have hkl : k = l.length := by omega
  subst hkl
  rw [W1g]
  refine wt ?_
  exact Q0F (q0n 70 rfl) (j0e rfl (.tmp rfl) rfl)
structure PrO (l : List Pt) (h : Int) : Prop where
 len : l.length ≤ 3
 two : ∃ i j, i < l.length ∧ j < l.length ∧ gp l i ≠ gp l j
 bd : ∀ p ∈ l, (-1000 ≤ p.x ∧ p.x ≤ 1000) ∧ (-1000 ≤ p.y ∧ p.y ≤ 1000)
 h0 : 0 < h
 h1 : h ≤ 1000
def prQ (l : List Pt) (h : Int) : Rat := if Ws l < ((h * h : Int) : Rat) then Ws l else ((h * h : Int) : Rat)
theorem PrO.ok {l : List Pt} {h : Int} (o : PrO l h) : few (j0P l h) ∧ w0f (j0P l h) = 0 ∧ Q0U (j0P l h) ∧ V0c (j0P l h) = 0 ∧ Wq (j0P l h) (lm (j0P l h)) = prQ l h := by
 obtain ⟨i, j, hi, hj, hne⟩ := o.two
 have h1 := w1m o.len o.bd ⟨Int.le_of_lt o.h0, o.h1⟩
 have h2 := j1p hi hj hne o.h0
 have := o.len
 exact ⟨.inl (by rw [X0Z]; omega), h1, h2, Y1u h1 h2, x1S hi hj hne o.h0 (v1H h2)⟩
theorem W0l (l : List Pt) (h : Int) (o : PrO l h) : CtrA Tryz.prog 18 [ts (j0P l h)] (j0u [vS (rtx (prQ l h)), zA (lm (j0P l h)) (loD (j0P l h) (lm (j0P l h))) (hiD (j0P l h) (lm (j0P l h))), vi 0]) := by
 obtain ⟨h1, _, _, h4, h5⟩ := o.ok
 have h := j2F (j0P l h) h1 h4
 rw [h5] at h
 exact h
theorem Z1r (l m : List Pt) (hl : l.length = 1) (hm : m.length = 1) : CtrA Tryz.prog 43 [pts l, pts m] (vb (decide (gp l 0 = gp m 0))) := by
 refine j0o _ Tryz.func43 rfl rfl Tryz.ntmps43 rfl fun w Z => ?_
 refine xU ?_
 refine wt ?_
 rw [hl, hm]
 refine wt ?_
 refine j0f (γ := Nat) (fun k => [(0, .av (pts l)), (1, .av (pts m)), (12, .av (vi l.length)), (13, .av (vi k))]) (fun _ => []) (fun k => k = 0 ∨ k = 1 ∧ gp l 0 = gp m 0) (fun k => 1 - k) 0 (.inl rfl) (ent xS trivial) ?_
 rintro k hk
 refine wt ?_
 (refine j0a rfl ?_ ?_ <;> intro hb <;> (try simp only [xA, xB, xG, xC, xD, xN] at hb) <;> (try exact xQ))
 ·obtain rfl : k = 0 := by omega
  by_cases e : gp l 0 = gp m 0
  ·rw [decide_eq_true e]
   refine wt ?_
   rw [K0b, decide_eq_true e]
   refine wt ?_
   exact j0c 1 (.inr ⟨rfl, e⟩) xO (ent xS trivial)
  ·rw [decide_eq_false e]
   refine wt ?_
   rw [K0b, decide_eq_false e]
   refine wt ?_
   exact xV
 ·have e : gp l 0 = gp m 0 := by
   rcases hk with rfl | ⟨_, e⟩
   ·omega
   ·exact e
  rw [decide_eq_true e]
  refine wt ?_
  exact xV
def TW : List Pt := [⟨0, 0⟩, ⟨3, 0⟩, ⟨0, 4⟩]
theorem K1A : Ws TW = Rat.divInt 144 25 := by decide +kernel
theorem j2b : z0t TW = 0 := by decide
theorem j2D : PrO TW 9 := ⟨by decide, ⟨0, 1, by decide, by decide, by decide⟩, by decide, by decide, by decide⟩
theorem j2c : rtx (Rat.divInt 144 25) = [49, 52, 52, 47, 50, 53] := by
 unfold rtx
 rw [if_neg (by decide +kernel)]
 have e1 : (Rat.divInt 144 25).num = 144 := by decide +kernel
 have e2 : (Rat.divInt 144 25).den = 25 := by decide +kernel
 rw [e1, e2, Na.itoa_pos (by decide)]
 show Lib.decDigits 144 ++ 47 :: Lib.decDigits 25 = _
 have d1 : Lib.decDigits 144 = [49, 52, 52] := V0a 3 [49, 52, 52] rfl ⟨by decide, by decide, fun r h => by cases h⟩
 have d2 : Lib.decDigits 25 = [50, 53] := V0a 2 [50, 53] rfl ⟨by decide, by decide, fun r h => by cases h⟩
 rw [d1, d2]; rfl
theorem k1d (a : Int) : Tryz.prog.built 82 [(0, .int .i64 a)] = some #[.int .i64 a, .int .i64 0] := by kernel_rfl
theorem k1e (a : Int) : Tryz.prog.built 82 [(1, .int .i64 a)] = some #[.int .i64 0, .int .i64 a] := by kernel_rfl
theorem V0I (a b c d e f : Int) (w : World) : (Instr.buildSlice 76 3 #[(0, .agg #[.int .i64 a, .int .i64 b]), (1, .agg #[.int .i64 c, .int .i64 d]), (2, .agg #[.int .i64 e, .int .i64 f])]).run Tryz.prog w = .ok (.slice (some ⟨w.heap.size, 0, none⟩) 3 3) (w.alloc (.cells #[.int .i64 a, .int .i64 b, .int .i64 c, .int .i64 d, .int .i64 e, .int .i64 f] 82)) := by kernel_rfl
theorem z0C (p q r : Pt) : ∀ i, i < 3 → ∀ j, j < 2 → ∃ u, [Value.int .i64 p.x, .int .i64 p.y, .int .i64 q.x, .int .i64 q.y, .int .i64 r.x, .int .i64 r.y][i * 2 + j]? = some u ∧ pf [p, q, r] i j = .val u := by
 intro i hi j hj
 rcases (by omega : i = 0 ∨ i = 1 ∨ i = 2) with rfl | rfl | rfl <;> rcases (by omega : j = 0 ∨ j = 1) with rfl | rfl <;> exact ⟨_, rfl, rfl⟩
theorem Q0J : CtrA Tryz.prog 39 [] (vb true) := by
 have h1 := K0c TW
 have h2 := W0G TW 9 xE
 have h3 := W0l TW 9 j2D
 have e : prQ TW 9 = Ws TW := by unfold prQ; rw [if_pos (by rw [K1A]; decide +kernel)]
 rw [e, K1A, j2c] at h3
 have e1 : zW TW = [49, 52, 52, 47, 50, 53] := by unfold zW; rw [if_pos j2b, K1A, j2c]
 rw [e1, j2b] at h1
 refine j0o _ Tryz.func39 rfl rfl Tryz.ntmps39 rfl fun w Z => ?_
 refine xU ?_
 refine wt ?_
 repeat' (first
   |(refine j0l (j0j (t := 82) (is := [0]) (xs := [_]) (vs := [.int .i64 3]) (k1d 3) rfl rfl) rfl ?_; refine wt ?_)
   |(refine j0l (j0j (t := 82) (is := [1]) (xs := [_]) (vs := [.int .i64 4]) (k1e 4) rfl rfl) rfl ?_; refine wt ?_)
   |(refine j0l (j0Y (is := [0, 1, 2]) (xs := [_, _, _]) (vs := [_, _, _]) (us := [_, _, _, _, _, _]) (V0I 0 0 3 0 0 4) rfl rfl rfl (z0C ⟨0, 0⟩ ⟨3, 0⟩ ⟨0, 4⟩)) rfl ?_; refine wt ?_))
 exact xV
abbrev i2 (a b : Int) : AV := .val (.agg #[.int .i8 a, .int .i8 b])
abbrev I8 (n : Int) : Prop := -128 ≤ n ∧ n ≤ 127
def P3 (a b c d : Int) : List Pt := [⟨0, 0⟩, ⟨a, b⟩, ⟨c, d⟩]
theorem Z1p {a b c d : Int} (ha : I8 a) (hb' : I8 b) (hc : I8 c) (hd : I8 d) : ∀ p ∈ P3 a b c d, (-1000 ≤ p.x ∧ p.x ≤ 1000) ∧ (-1000 ≤ p.y ∧ p.y ≤ 1000) := by
 obtain ⟨_, _⟩ := ha
 obtain ⟨_, _⟩ := hb'
 obtain ⟨_, _⟩ := hc
 obtain ⟨_, _⟩ := hd
 intro p hp
 simp only [P3, List.mem_cons, List.not_mem_nil, or_false] at hp
 rcases hp with rfl | rfl | rfl
 ·exact ⟨⟨by decide, by decide⟩, ⟨by decide, by decide⟩⟩
 ·exact ⟨⟨by show _ ≤ a; omega, by show a ≤ _; omega⟩, ⟨by show _ ≤ b; omega, by show b ≤ _; omega⟩⟩
 ·exact ⟨⟨by show _ ≤ c; omega, by show c ≤ _; omega⟩, ⟨by show _ ≤ d; omega, by show d ≤ _; omega⟩⟩
theorem J1y {a b c d : Int} (ha : I8 a) (hb' : I8 b) (hc : I8 c) (hd : I8 d) : z0t (P3 a b c d) = 0 := by
 have h := Z1p ha hb' hc hd
 have e : chk (P3 a b c d) = 0 := by
  unfold chk
  rw [if_neg (by simp [P3]), if_pos]
  rw [List.all_eq_true]
  intro p hp
  obtain ⟨⟨h1, h2⟩, h3, h4⟩ := h p hp
  unfold x0Y inB
  simp only [Bool.and_eq_true]
  exact ⟨⟨decide_eq_true xO, decide_eq_true xO⟩, decide_eq_true xO, decide_eq_true xO⟩
 unfold z0t
 rw [e, if_neg (by decide), if_neg (by simp [P3])]
theorem K1l {a b c d h : Int} (ha : I8 a) (hb' : I8 b) (hc : I8 c) (hd : I8 d) (hh : 0 < h) (hh2 : h ≤ 1000) (hne : ¬ ((0 = a ∧ 0 = b) ∧ (a = c ∧ b = d))) : PrO (P3 a b c d) h := by
 refine ⟨by simp [P3], ?_, Z1p ha hb' hc hd, hh, hh2⟩
 by_cases e : 0 = a ∧ 0 = b
 ·exact ⟨1, 2, by simp [P3], by simp [P3], fun q => hne ⟨e, by simpa [P3, gp] using q⟩⟩
 ·exact ⟨0, 1, by simp [P3], by simp [P3], fun q => e (by simpa [P3, gp] using q)⟩
theorem V1z (a b c d : Int) : ([a, b] == [c, d]) = decide (a = c ∧ b = d) := by
 rw [Bool.eq_iff_iff, beq_iff_eq, decide_eq_true_eq]
 simp
theorem K1S (p q r : Pt) : gp [p, q, r] (Int.toNat 0) = p := rfl
theorem V1m (p q r : Pt) : gp [p, q, r] (Int.toNat 1) = q := rfl
theorem Y1D (p q r : Pt) : gp [p, q, r] (Int.toNat 2) = r := rfl
theorem toptol_c (a b c d t : Int) (ha : I8 a) (hb' : I8 b) (hc : I8 c) (hd : I8 d) (ht : 0 ≤ t ∧ t ≤ 255) : CtrA Tryz.prog 13 [i2 a b, i2 c d, .val (.int .u8 t)] (vb true) := by
 have h0 := Q0J
 by_cases E : (0 = a ∧ 0 = b) ∧ (a = c ∧ b = d)
 ·refine j0o _ Tryz.func13 rfl rfl Tryz.ntmps13 rfl fun w Z => ?_
  refine xU ?_
  refine wt ?_
  repeat' (first
    |(refine j0l (j0Y (is := [0, 1, 2]) (xs := [_, _, _]) (vs := [_, _, _]) (us := [_, _, _, _, _, _]) (V0I 0 0 _ _ _ _) rfl rfl rfl (z0C ⟨0, 0⟩ ⟨a, b⟩ ⟨c, d⟩)) rfl ?_; refine wt ?_))
  rw [V1m, Y1D, V1z, decide_eq_true E.2]
  refine wt ?_
  rw [V1m, K1S, V1z, decide_eq_true (show a = 0 ∧ b = 0 from ⟨E.1.1.symm, E.1.2.symm⟩)]
  refine wt ?_
  exact xV
 ·have he := J1y ha hb' hc hd
  have h1 := x1b (P3 a b c d) t he ⟨by omega, by omega⟩
  have h2 := W0G (P3 a b c d) 300 (by simp [P3])
  have o := K1l (h := 300) ha hb' hc hd xE xE E
  obtain ⟨o1, o2, o3, o4, o5⟩ := o.ok
  have h3 := x1J (j0P (P3 a b c d) 300) t o1
  have hN : V1h (j0P (P3 a b c d) 300) t = 0 := by unfold V1h; rw [if_pos o2, if_neg (by omega), o4]
  have hW : inW (j0P (P3 a b c d) 300) t = decide (Ws (P3 a b c d) ≤ ((t * t : Int) : Rat)) := by
   unfold inW
   rw [if_pos hN]
   obtain ⟨i, j, hi, hj, hne⟩ := o.two
   have := X0o hi hj hne ht.1 (by omega : t < 300) (v1H o3)
   rw [Bool.eq_iff_iff, decide_eq_true_eq, decide_eq_true_eq]
   exact this
  rw [hN, hW] at h3
  refine j0o _ Tryz.func13 rfl rfl Tryz.ntmps13 rfl fun w Z => ?_
  refine xU ?_
  refine wt ?_
  repeat' (first
    |(refine j0l (j0Y (is := [0, 1, 2]) (xs := [_, _, _]) (vs := [_, _, _]) (us := [_, _, _, _, _, _]) (V0I 0 0 _ _ _ _) rfl rfl rfl (z0C ⟨0, 0⟩ ⟨a, b⟩ ⟨c, d⟩)) rfl ?_; refine wt ?_))
  by_cases E2 : a = c ∧ b = d
  ·have E1 : ¬ (a = 0 ∧ b = 0) := fun q => E ⟨⟨q.1.symm, q.2.symm⟩, E2⟩
   rw [V1m, Y1D, V1z, decide_eq_true E2]
   refine wt ?_
   rw [V1m, K1S, V1z, decide_eq_false E1]
   refine wt ?_
   rw [beq_self_eq_true]
   refine wt ?_
   exact xV
  ·rw [V1m, Y1D, V1z, decide_eq_false E2]
   refine wt ?_
   rw [beq_self_eq_true]
   refine wt ?_
   exact xV
theorem topprism_c (a b c d h : Int) (ha : I8 a) (hb' : I8 b) (hc : I8 c) (hd : I8 d) (hh : 0 ≤ h ∧ h ≤ 255) : CtrA Tryz.prog 12 [i2 a b, i2 c d, .val (.int .u8 h)] (vb true) := by
 have h0 := Q0J
 have hq0 := (Z1r [⟨0, 0⟩] [⟨a, b⟩] rfl rfl).of (args' := [.sl (1 - 0) 2 (fun i j => pf (P3 a b c d) (0 + i) j), .sl (2 - 1) 2 (fun i j => pf (P3 a b c d) (1 + i) j)]) ⟨ALe.sl' rfl (fun i hi j hj => by
   obtain rfl : i = 0 := by omega
   rcases (by omega : j = 0 ∨ j = 1) with rfl | rfl <;> rfl), ALe.sl' rfl (fun i hi j hj => by
   obtain rfl : i = 0 := by omega
   rcases (by omega : j = 0 ∨ j = 1) with rfl | rfl <;> rfl), trivial⟩
 have eq0 : decide (gp [(⟨0, 0⟩ : Pt)] 0 = gp [(⟨a, b⟩ : Pt)] 0) = decide (0 = a ∧ 0 = b) := by
  rw [Bool.eq_iff_iff, decide_eq_true_eq, decide_eq_true_eq]
  show (⟨0, 0⟩ : Pt) = ⟨a, b⟩ ↔ _
  rw [Pt.mk.injEq]
 rw [eq0] at hq0
 have he := J1y ha hb' hc hd
 have h1 := K0c (P3 a b c d)
 have z1 : zW (P3 a b c d) = rtx (Ws (P3 a b c d)) := by unfold zW; rw [if_pos he]
 rw [z1, he] at h1
 have hsm := (Q0X (X0F he).1).1
 have hL := X1C (P3 a b c d) hsm
 have h4 := Z0j (rtx (Ws (P3 a b c d))) (by have := Z0m hL xE; omega)
 rw [y1f] at h4
 have h2 := W0G (P3 a b c d) (1 + h) (by simp [P3])
 have hhh : 0 ≤ (1 + h) * (1 + h) ∧ (1 + h) * (1 + h) ≤ 65536 := by
  have := Int.mul_le_mul (show 1 + h ≤ 256 by omega) (show 1 + h ≤ 256 by omega) xO (show (0 : Int) ≤ 256 by decide)
  have := Int.mul_nonneg (show 0 ≤ 1 + h by omega) (show 0 ≤ 1 + h by omega)
  omega
 have h5 := j1s ((1 + h) * (1 + h)) xO
 have h6 := j1r (Ws (P3 a b c d)) (((1 + h) * (1 + h) : Int) : Rat) (hL.mono xE) (LR.mono (k := 20) (LR.ofI (show ((1 + h) * (1 + h)).natAbs < 10 ^ 20 by omega) xE) xE)
 have e6 : decide (rsg (Ws (P3 a b c d) - (((1 + h) * (1 + h) : Int) : Rat)) < 0) = decide (Ws (P3 a b c d) < (((1 + h) * (1 + h) : Int) : Rat)) := by
  rw [Bool.eq_iff_iff, decide_eq_true_eq, decide_eq_true_eq]
  exact Y0h
 have q1 : Ws (P3 a b c d) < (((1 + h) * (1 + h) : Int) : Rat) → prQ (P3 a b c d) (1 + h) = Ws (P3 a b c d) := fun q => by unfold prQ; rw [if_pos q]
 have q2 : ¬ Ws (P3 a b c d) < (((1 + h) * (1 + h) : Int) : Rat) → prQ (P3 a b c d) (1 + h) = (((1 + h) * (1 + h) : Int) : Rat) := fun q => by unfold prQ; rw [if_neg q]
 by_cases E1 : 0 = a ∧ 0 = b
 ·rw [decide_eq_true E1] at hq0
  by_cases E2 : a = c ∧ b = d
  ·refine j0o _ Tryz.func12 rfl rfl Tryz.ntmps12 rfl fun w Z => ?_
   refine xU ?_
   refine wt ?_
   repeat' (first
     |(refine j0l (j0Y (is := [0, 1, 2]) (xs := [_, _, _]) (vs := [_, _, _]) (us := [_, _, _, _, _, _]) (V0I 0 0 _ _ _ _) rfl rfl rfl (z0C ⟨0, 0⟩ ⟨a, b⟩ ⟨c, d⟩)) rfl ?_; refine wt ?_))
   refine v0j (q0Y (lo := none) (hi := some (.const (.int .i64 1))) (l := 0) (h := 1) rfl rfl ⟨_, _, rfl, rfl⟩ xE xE) rfl ?_
   refine wt ?_
   refine v0j (q0Y (lo := some (.const (.int .i64 1))) (hi := some (.const (.int .i64 2))) (l := 1) (h := 2) rfl ⟨_, _, rfl, rfl⟩ ⟨_, _, rfl, rfl⟩ xE xE) rfl ?_
   refine wt ?_
   rw [V1m, Y1D, V1z, decide_eq_true E2]
   refine wt ?_
   exact xV
  ·have h3 := W0l (P3 a b c d) (1 + h) (K1l ha hb' hc hd xO xO fun q => E2 q.2)
   refine j0o _ Tryz.func12 rfl rfl Tryz.ntmps12 rfl fun w Z => ?_
   refine xU ?_
   refine wt ?_
   repeat' (first
     |(refine j0l (j0Y (is := [0, 1, 2]) (xs := [_, _, _]) (vs := [_, _, _]) (us := [_, _, _, _, _, _]) (V0I 0 0 _ _ _ _) rfl rfl rfl (z0C ⟨0, 0⟩ ⟨a, b⟩ ⟨c, d⟩)) rfl ?_; refine wt ?_))
   refine v0j (q0Y (lo := none) (hi := some (.const (.int .i64 1))) (l := 0) (h := 1) rfl rfl ⟨_, _, rfl, rfl⟩ xE xE) rfl ?_
   refine wt ?_
   refine v0j (q0Y (lo := some (.const (.int .i64 1))) (hi := some (.const (.int .i64 2))) (l := 1) (h := 2) rfl ⟨_, _, rfl, rfl⟩ ⟨_, _, rfl, rfl⟩ xE xE) rfl ?_
   refine wt ?_
   rw [V1m, Y1D, V1z, decide_eq_false E2]
   refine wt ?_
   rw [e6]
   refine wt ?_
   by_cases hlt : Ws (P3 a b c d) < (((1 + h) * (1 + h) : Int) : Rat)
   ·rw [decide_eq_true hlt]
    refine wt ?_
    rw [q1 hlt, beq_self_eq_true]
    refine wt ?_
    exact xV
   ·rw [decide_eq_false hlt]
    refine wt ?_
    rw [q2 hlt]
    refine wt ?_
    rw [show (rtx (((1 + h) * (1 + h) : Int) : Rat) == rtx (((1 + h) * (1 + h) : Int) : Rat)) = true from beq_self_eq_true _]
    refine wt ?_
    exact xV
 ·rw [decide_eq_false E1] at hq0
  have h3 := W0l (P3 a b c d) (1 + h) (K1l ha hb' hc hd xO xO fun q => E1 q.1)
  refine j0o _ Tryz.func12 rfl rfl Tryz.ntmps12 rfl fun w Z => ?_
  refine xU ?_
  refine wt ?_
  repeat' (first
    |(refine j0l (j0Y (is := [0, 1, 2]) (xs := [_, _, _]) (vs := [_, _, _]) (us := [_, _, _, _, _, _]) (V0I 0 0 _ _ _ _) rfl rfl rfl (z0C ⟨0, 0⟩ ⟨a, b⟩ ⟨c, d⟩)) rfl ?_; refine wt ?_))
  refine v0j (q0Y (lo := none) (hi := some (.const (.int .i64 1))) (l := 0) (h := 1) rfl rfl ⟨_, _, rfl, rfl⟩ xE xE) rfl ?_
  refine wt ?_
  refine v0j (q0Y (lo := some (.const (.int .i64 1))) (hi := some (.const (.int .i64 2))) (l := 1) (h := 2) rfl ⟨_, _, rfl, rfl⟩ ⟨_, _, rfl, rfl⟩ xE xE) rfl ?_
  refine wt ?_
  rw [e6]
  refine wt ?_
  by_cases hlt : Ws (P3 a b c d) < (((1 + h) * (1 + h) : Int) : Rat)
  ·rw [decide_eq_true hlt]
   refine wt ?_
   rw [q1 hlt, beq_self_eq_true]
   refine wt ?_
   exact xV
  ·rw [decide_eq_false hlt]
   refine wt ?_
   rw [q2 hlt]
   refine wt ?_
   rw [show (rtx (((1 + h) * (1 + h) : Int) : Rat) == rtx (((1 + h) * (1 + h) : Int) : Rat)) = true from beq_self_eq_true _]
   refine wt ?_
   exact xV
end Go.Proofs.YtgblokifbgeegaaGreatDoor.H.S
section
end
section
namespace Go.Proofs.YtgblokifbgeegaaGreatDoor
open Go Go.Vc Go.RowKit Go.ChangeShapes Go.WideShapes Go.ChangeAt Go.Joins
set_option maxRecDepth 100000
section
variable {HH : Type} {enc : TypeId × Value → HH} {W : World} {base : Nat} {spare : Nat → Bool} {held : Bool}
theorem Q1M : Tryz.prog.cellsOf 80 = 2 := by kernel_rfl
theorem Q1L : Tryz.prog.cellsOf 79 = 1 := by kernel_rfl
theorem k1q : Tryz.prog.underlying 80 = some (.array 2 79) := by kernel_rfl
theorem k1p : Tryz.prog.underlying 79 = some (.int .i8) := by kernel_rfl
theorem wf_i8 {n : Int} (h : (Lit.int .i8 n).wf = true) : H.S.I8 n := by
 have h' : (decide (IntKind.min .i8 ≤ n) && decide (n ≤ IntKind.max .i8)) = true := h
 rw [Bool.and_eq_true, decide_eq_true_eq, decide_eq_true_eq] at h'
 have e1 : IntKind.min .i8 = -128 := by decide
 have e2 : IntKind.max .i8 = 127 := by decide
 rw [e1, e2] at h'
 exact h'
theorem K1T {v : Value} {b0 : Nat} {d : DataW HH} {p : List MemPlace} (hv : Value.okWide Tryz.prog W .any b0 80 v) (h : DataW.Trod enc Tryz.prog W base spare held 80 v d p) : ∃ a b : Int, H.S.I8 a ∧ H.S.I8 b ∧ AV.ok (fun k => k < W.heap.size) W (H.S.i2 a b) v := by
 obtain ⟨cs, rfl, hsz⟩ := j1k k1q hv
 obtain ⟨fuel, hf⟩ := h
 obtain ⟨cl⟩ := cs
 simp only [Value.cells] at hf
 obtain ⟨xs, n, _, _, hl, hxl, hel⟩ := DataW.trod_array k1q hf
 rw [Q1M] at hl
 rw [Q1L] at hel
 match cl, hl with
 |[c0, c1], _ =>
  have e0 := hel 0 xE
  have e1 := hel 1 xE
  rw [List.getElem?_eq_getElem (by omega)] at e0 e1
  obtain ⟨z0, q0, _, w0⟩ := DataW.trod_int k1p e0
  obtain ⟨z1, q1, _, w1⟩ := DataW.trod_int k1p e1
  simp at q0 q1
  subst q0 q1
  exact ⟨z0, z1, wf_i8 w0, wf_i8 w1, rfl⟩
end
end Go.Proofs.YtgblokifbgeegaaGreatDoor
end
