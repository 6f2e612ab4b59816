/- A part of the proof. -/
import Derived.Test.YtgblokifbgeegaaGreatDoorEay
import Derived.Test.YtgblokifbgeegaaGreatDoorEba
set_option linter.unusedVariables false
set_option linter.unusedSimpArgs false
namespace Go.Proofs.YtgblokifbgeegaaGreatDoor.H.S
open Go Go.Vc Go.RowKit Go.Na Go.Lib H.G
set_option maxHeartbeats 8000000
abbrev p2 (p : Pt) : AV := .val (.agg #[.int .i64 p.x, .int .i64 p.y])
def lf3 (a b p : Pt) : Int := (b.x - a.x) * (p.y - a.y) - (b.y - a.y) * (p.x - a.x)
theorem W1d {a b p : Pt} (ha : SmP a) (hb' : SmP b) (hp : SmP p) : Bn 360000000000 ((b.x - a.x) * (p.y - a.y)) ∧ Bn 360000000000 ((b.y - a.y) * (p.x - a.x)) := by
 obtain ⟨⟨a1, a2⟩, a3, a4⟩ := ha
 obtain ⟨⟨b1, b2⟩, b3, b4⟩ := hb'
 obtain ⟨⟨p1, p2⟩, p3, p4⟩ := hp
 have q1 := j0F (A := 600000) (B := 600000) (m := b.x - a.x) (n := p.y - a.y) ⟨by omega, by omega⟩ ⟨by omega, by omega⟩
 have q2 := j0F (A := 600000) (B := 600000) (m := b.y - a.y) (n := p.x - a.x) ⟨by omega, by omega⟩ ⟨by omega, by omega⟩
 exact ⟨⟨by omega, by omega⟩, ⟨by omega, by omega⟩⟩
theorem W1T (a b p : Pt) (ha : SmP a) (hb' : SmP b) (hp : SmP p) : CtrA Tryz.prog 187 [p2 a, p2 b, p2 p] (vi (lf3 a b p)) := by
 obtain ⟨⟨q1, q2⟩, ⟨q3, q4⟩⟩ := W1d ha hb' hp
 obtain ⟨⟨a1, a2⟩, a3, a4⟩ := ha
 obtain ⟨⟨b1, b2⟩, b3, b4⟩ := hb'
 obtain ⟨⟨p1, p2⟩, p3, p4⟩ := hp
 unfold lf3
 refine j0p _ Tryz.func187 rfl rfl Tryz.ntmps187 rfl fun w Z => ?_
 refine xU ?_
 refine wt ?_
 exact xV
def j1P (a b : Pt) : Int := (b.x - a.x) * (b.x - a.x) + (b.y - a.y) * (b.y - a.y)
theorem k1u (a : Int) : 0 ≤ a * a := by
 rcases Int.le_total 0 a with h | h
 ·exact Int.mul_nonneg h h
 ·exact Int.mul_nonneg_of_nonpos_of_nonpos h h
theorem k0r {a b : Pt} (h : a ≠ b) : 0 < j1P a b := by
 unfold j1P
 have h1 := k1u (b.x - a.x)
 have h2 := k1u (b.y - a.y)
 refine Classical.byContradiction fun hno => h ?_
 have e1 : (b.x - a.x) * (b.x - a.x) = 0 := by omega
 have e2 : (b.y - a.y) * (b.y - a.y) = 0 := by omega
 have e3 : b.x - a.x = 0 := by rcases Int.mul_eq_zero.1 e1 with q | q <;> exact q
 have e4 : b.y - a.y = 0 := by rcases Int.mul_eq_zero.1 e2 with q | q <;> exact q
 cases a; cases b
 simp only [Pt.mk.injEq] at *
 omega
theorem k1w (n f : Int) (hf : f ≠ 0) : Rat.divInt n f * (n : Rat) = ((n * n : Int) : Rat) / (f : Rat) := by
 rw [Rat.divInt_eq_div, Rat.div_def, Rat.div_def, Rat.intCast_mul]
 grind
theorem x1n (n : Int) (a b : Pt) (ha : SmP a) (hb' : SmP b) (hab : a ≠ b) (hn : -1000000000000 ≤ n ∧ n ≤ 1000000000000) : CtrA Tryz.prog 151 [vi n, p2 a, p2 b] (vS (rtx (((n * n : Int) : Rat) / ((j1P a b : Int) : Rat)))) := by
 have hp := k0r hab
 have hfe : j1P a b = (b.x - a.x) * (b.x - a.x) + (b.y - a.y) * (b.y - a.y) := rfl
 obtain ⟨⟨a1, a2⟩, a3, a4⟩ := ha
 obtain ⟨⟨b1, b2⟩, b3, b4⟩ := hb'
 obtain ⟨q1, q2⟩ := j0F (A := 600000) (B := 600000) (m := b.x - a.x) (n := b.x - a.x) ⟨by omega, by omega⟩ ⟨by omega, by omega⟩
 obtain ⟨q3, q4⟩ := j0F (A := 600000) (B := 600000) (m := b.y - a.y) (n := b.y - a.y) ⟨by omega, by omega⟩ ⟨by omega, by omega⟩
 rw [← k1w n _ (by omega)]
 have h1 := W1H n (j1P a b) xO xO xO
 have hN : LR 20 (n : Rat) := LR.int (k := 20) (show n.natAbs < 10 ^ 20 by omega) xE
 have h2 := w1B (Rat.divInt n (j1P a b)) (n : Rat) ((y0K (k := 20) xO (show n.natAbs < 10 ^ 20 by omega) (show (j1P a b).natAbs < 10 ^ 20 by omega)).mono xE) (hN.mono xE)
 have h3 := z0e n xO
 rw [hfe] at h1 h2 ⊢
 refine j0p _ Tryz.func151 rfl rfl Tryz.ntmps151 rfl fun w Z => ?_
 refine xU ?_
 refine wt ?_
 exact xV
theorem v1Q (q r : Rat) (hq : LR 400 q) (hr : LR 400 r) : CtrA Tryz.prog 119 [vS (rtx q), vS (rtx r)] (vb (decide (q < r))) := by
 have hc := Q0D q r hq hr
 have e : decide (rsg (q - r) < 0) = decide (q < r) := by
  rw [Bool.eq_iff_iff, decide_eq_true_eq, decide_eq_true_eq]
  exact K0e
 refine j0p _ Tryz.func119 rfl rfl Tryz.ntmps119 rfl fun w Z => ?_
 refine xU ?_
 refine wt ?_
 exact j0e rfl (.tmp rfl) (congrArg vb e)
theorem z1l (l : List Pt) : CtrA Tryz.prog 78 [pts l] (vi (z0M l)) := by
 have hc := W0D l
 unfold z0M
 refine j0p _ Tryz.func78 rfl rfl Tryz.ntmps78 rfl fun w Z => ?_
 by_cases h : chk l = 0
 ·rw [h] at hc ⊢
  by_cases h0 : l.length = 0
  ·rw [if_neg (by decide), if_pos h0]
   have h1 : ((l.length : Nat) : Int) = 0 := by omega
   refine xU ?_
   refine wt ?_
   (refine j0a rfl ?_ ?_ <;> intro hb <;> (try simp only [xA, xB, xG, xC, xD, xN] at hb) <;> (try exact xQ))
   refine wt ?_
   exact xV
  ·rw [if_neg (by decide), if_neg h0]
   refine xU ?_
   refine wt ?_
   (refine j0a rfl ?_ ?_ <;> intro hb <;> (try simp only [xA, xB, xG, xC, xD, xN] at hb) <;> (try exact xQ))
   refine wt ?_
   exact xV
 ·rw [if_pos h]
  generalize chk l = e at hc h ⊢
  refine xU ?_
  refine wt ?_
  (refine j0a rfl ?_ ?_ <;> intro hb <;> (try simp only [xA, xB, xG, xC, xD, xN] at hb) <;> (try exact xQ))
  refine wt ?_
  exact xV
abbrev prC (l : List Pt) (i j : Nat) : List Value := [.int .i64 i, .int .i64 j, .int .i64 (arN l i j l.length), .int .i64 (frN l i j l.length)]
abbrev prA (l : List Pt) (i j : Nat) : AV := .val (.agg #[.int .i64 i, .int .i64 j, .int .i64 (arN l i j l.length), .int .i64 (frN l i j l.length)])
theorem W1e {l : List Pt} {i j : Nat} (h : gp l i = gp l j) (k : Nat) : lfP l i j k = 0 := by unfold lfP; rw [h]; simp
theorem Y0B {l : List Pt} {i j : Nat} (h : gp l i = gp l j) : ∀ k, arN l i j k = 0 ∧ frN l i j k = 0
 |0 => ⟨rfl, rfl⟩
 |k + 1 => by
  obtain ⟨h1, h2⟩ := Y0B h k
  have e : amx (lfP l i j k) = 0 := by rw [W1e h]; rfl
  rw [V0N, Y0N, e, h1, if_neg (by omega), if_neg (by omega)]
  exact ⟨rfl, h2⟩
theorem x1x : Tryz.prog.built 116 [] = some #[.int .i64 0, .int .i64 0, .int .i64 0, .int .i64 0] := by kernel_rfl
theorem x1w (x y : Int) : Tryz.prog.built 116 [(0, .agg #[.int .i64 x, .int .i64 y])] = some #[.int .i64 x, .int .i64 y, .int .i64 0, .int .i64 0] := by kernel_rfl
theorem Q1a (a b : Pt) : ([a.x, a.y] == [b.x, b.y]) = decide (a = b) := by
 rw [Bool.eq_iff_iff, beq_iff_eq, decide_eq_true_eq]
 cases a; cases b
 simp
theorem Y0r (l : List Pt) (i j : Nat) (hl : ∀ i, SmP (gp l i)) (hn : l.length ≤ 1000) (hi : i < l.length) (hj : j < l.length) : CtrA Tryz.prog 153 [pts l, vi i, vi j] (j0x [prA l i j, vb (j1A l i j)]) := by
 refine j0p _ Tryz.func153 rfl rfl Tryz.ntmps153 rfl fun w Z => ?_
 by_cases he : gp l i = gp l j
 ·have hs : j1A l i j = false := by unfold j1A; rw [decide_eq_false (fun q => q he)]; rfl
  unfold prA
  rw [hs, (Y0B he l.length).1, (Y0B he l.length).2]
  refine xU ?_
  refine wt ?_
  repeat' (first
    |(refine j0n (j0j (t := 73) (is := [0, 1]) (xs := [_, _]) (vs := [_, _]) (j2k _ _) rfl rfl) rfl ?_; refine wt ?_)
    |(refine j0n (j0j (t := 116) (is := [0]) (xs := [_]) (vs := [.agg #[.int .i64 _, .int .i64 _]]) (x1w _ _) rfl rfl) rfl ?_; refine wt ?_))
  rw [Q1a, decide_eq_true he]
  refine wt ?_
  repeat' (first
    |(refine j0n (j0o (us := [.int .i64 _, .int .i64 _, .int .i64 _, .int .i64 _]) rfl rfl rfl rfl) rfl ?_; refine wt ?_))
  exact j0A (rvs := [_, _]) (τs := [_, _]) rfl rfl ⟨.agg (us := [.int .i64 i, .int .i64 j, .int .i64 0, .int .i64 0]) rfl rfl rfl rfl, .tmp rfl, trivial⟩ rfl
 ·have hs : j1A l i j = (decide (lwN l i j l.length = 0) || decide (hgN l i j l.length = 0)) := by unfold j1A; rw [decide_eq_true he]; rfl
  rw [hs]
  refine xU ?_
  refine wt ?_
  repeat' (first
    |(refine j0n (j0j (t := 73) (is := [0, 1]) (xs := [_, _]) (vs := [_, _]) (j2k _ _) rfl rfl) rfl ?_; refine wt ?_)
    |(refine j0n (j0j (t := 116) (is := [0]) (xs := [_]) (vs := [.agg #[.int .i64 _, .int .i64 _]]) (x1w _ _) rfl rfl) rfl ?_; refine wt ?_))
  rw [Q1a, decide_eq_false he]
  refine wt ?_
  refine j0f (γ := Nat) (fun k => [(0, .av (pts l)), (1, .av (vi i)), (2, .av (vi j)), (6, .own 10 0), (7, .av (vb false)), (8, .own 11 0), (9, .av (vi (lwN l i j k))), (10, .av (vi (hgN l i j k))), (28, .av (pts l)), (29, .av (vi l.length)), (30, .av (vi k))]) (fun k => [(10, .cells [.av (vi 0), .av (vi 0), .av (vi 0), .av (vi 0)]), (11, .cells [.av (vi i), .av (vi j), .av (vi (arN l i j k)), .av (vi (frN l i j k))])]) (fun k => k ≤ l.length) (fun k => l.length - k) 0 (Nat.zero_le _) (ent xS xT) ?_
  intro k hk
  refine wt ?_
  (refine j0a rfl ?_ ?_ <;> intro hb <;> (try simp only [xA, xB, xG, xC, xD, xN] at hb) <;> (try exact xQ))
  ·have hkl : k < l.length := by omega
   have hf := W1T (gp l i) (gp l j) (gp l k) (hl i) (hl j) (hl k)
   obtain ⟨⟨q1, q2⟩, q3, q4⟩ := W1d (hl i) (hl j) (hl k)
   have hfe : lf3 (gp l i) (gp l j) (gp l k) = (((gp l j).x - (gp l i).x) * ((gp l k).y - (gp l i).y) - ((gp l j).y - (gp l i).y) * ((gp l k).x - (gp l i).x)) := rfl
   have a1 := V0N l i j k
   have a2 := Y0N l i j k
   have a3 : lwN l i j (k + 1) = if lf3 (gp l i) (gp l j) (gp l k) < lwN l i j k then lf3 (gp l i) (gp l j) (gp l k) else lwN l i j k := by
    show min (lwN l i j k) (lf3 (gp l i) (gp l j) (gp l k)) = _
    split <;> omega
   have a4 : hgN l i j (k + 1) = if hgN l i j k < lf3 (gp l i) (gp l j) (gp l k) then lf3 (gp l i) (gp l j) (gp l k) else hgN l i j k := by
    show max (hgN l i j k) (lf3 (gp l i) (gp l j) (gp l k)) = _
    split <;> omega
   have a5 : amx (lfP l i j k) = if lf3 (gp l i) (gp l j) (gp l k) < -lf3 (gp l i) (gp l j) (gp l k) then -lf3 (gp l i) (gp l j) (gp l k) else lf3 (gp l i) (gp l j) (gp l k) := by
    show max (lf3 (gp l i) (gp l j) (gp l k)) (-lf3 (gp l i) (gp l j) (gp l k)) = _
    split <;> omega
   have hbd : -1000000000000 ≤ lf3 (gp l i) (gp l j) (gp l k) ∧ lf3 (gp l i) (gp l j) (gp l k) ≤ 1000000000000 := by omega
   rw [a5] at a1 a2
   clear hfe q1 q2 q3 q4
   generalize lf3 (gp l i) (gp l j) (gp l k) = n at hf a1 a2 a3 a4 hbd
   refine wt ?_
   (refine j0a rfl ?_ ?_ <;> intro hb <;> (try simp only [xA, xB, xG, xC, xD, xN] at hb) <;> (try exact xQ))
   ·rw [if_pos hb] at a1 a2
    refine wt ?_
    exact j0c (k + 1) (by omega) (by omega) (ent ⟨.refl _, .refl _, .refl _, .refl _, .refl _, .refl _, by rw [a3]; exact .refl _, by rw [a4]; exact .refl _, .refl _, .refl _, .int (by omega), trivial⟩ ⟨⟨_, rfl, .refl _⟩, ⟨_, rfl, by rw [a1, a2]; exact .refl _⟩, trivial⟩)
   ·rw [if_neg (show ¬ _ by omega)] at a1 a2
    refine wt ?_
    exact j0c (k + 1) (by omega) (by omega) (ent ⟨.refl _, .refl _, .refl _, .refl _, .refl _, .refl _, by rw [a3]; exact .refl _, by rw [a4]; exact .refl _, .refl _, .refl _, .int (by omega), trivial⟩ ⟨⟨_, rfl, .refl _⟩, ⟨_, rfl, by rw [a1, a2]; exact .refl _⟩, trivial⟩)
  ·have hkl : k = l.length := by omega
   subst hkl
   refine wt ?_
   repeat' (first
     |(refine j0l rfl rfl (fun hb => ?_) (fun hb => ?_) <;> (try simp only [xA, xB, xG, xC, xD, xN] at hb) <;> (try exact xQ) <;> refine wt ?_)
     |(refine j0n (j0o (us := [.int .i64 _, .int .i64 _, .int .i64 _, .int .i64 _]) rfl rfl rfl rfl) rfl ?_; refine wt ?_))
   ·exact j0A (rvs := [_, _]) (τs := [_, _]) rfl rfl ⟨.agg (us := prC l i j) rfl rfl rfl rfl, .tmp rfl, trivial⟩ (congrArg (fun b => j0x [prA l i j, vb b]) (by rw [decide_eq_true hb]; rfl))
   ·exact j0A (rvs := [_, _]) (τs := [_, _]) rfl rfl ⟨.agg (us := prC l i j) rfl rfl rfl rfl, .tmp rfl, trivial⟩ (congrArg (fun b => j0x [prA l i j, vb b]) (by rw [decide_eq_false hb, Bool.false_or]; rfl))
end Go.Proofs.YtgblokifbgeegaaGreatDoor.H.S
namespace Go.Proofs.YtgblokifbgeegaaGreatDoor.H.S
open Go Go.Vc Go.RowKit Go.Na Go.Lib
set_option maxHeartbeats 8000000
theorem X1L (l : List Tr) (d : Tr) (m : Option Tr) (hl : RT l) (h0 : 0 < l.length) (h7 : l.length ≤ 7) (hd : GD d) (hm : ∀ x, m = some x → GD x) :
  CtrH Tryz.prog 95 [.av (tp d), .av (lt l), .own 1000 0, .own 1001 0] [(1000, X0t l m), (1001, J1T l m)] (.av (vi 0)) [(1000, X0t l (z0q l m d)), (1001, J1T l (z0q l m d))] := by
 have hz := K1l l d hl h0 xO hd.bt xE
 have hs := j2h l hl h0 d hd
 cases m with
 |none =>
  refine z0o _ Tryz.func95 rfl rfl Tryz.ntmps95 rfl rfl fun w Z ν => ?_
  refine xU ?_
  refine wt ?_
  exact j0U (T' := [(5, .av (vi 0))]) (O' := [(1000, X0t l (some d)), (1001, J1T l (some d))]) (ent ⟨.refl _, trivial⟩ xT) (q0J rfl rfl rfl)
 |some x =>
  have hx := hm x rfl
  have hc := Q0D (Wq l d) (Wq l x) ((Y1b hl h0 hd).mono xE) ((Y1b hl h0 hx).mono xE)
  have hne : (wO l (some x) == []) = false := by rw [beq_eq_false_iff_ne]; exact w1O _
  have hb0 := Y1n (l := l) hd.ne hx.ne
  have e1 := K0e (q := Wq l d) (r := Wq l x)
  have e2 := Q1c (q := Wq l d) (r := Wq l x)
  have hcp := (Y1t d x).of (args' := [.sl 3 1 (fun i _ => .val ((v3 d).getD i undef)), .sl 3 1 (fun i _ => vi (co x i))]) ⟨ALe.sl' rfl (fun i hi j hj => by
    rcases (by omega : i = 0 ∨ i = 1 ∨ i = 2) with rfl | rfl | rfl <;> rfl), .refl _, trivial⟩
  have hlex := q1A d x
  have hS : z0q l (some x) d = if bef l d x then some d else some x := rfl
  rcases Y0h (Wq l d - Wq l x) with er | er | er
  ·rw [er] at hc e1
   rw [hS, if_pos (hb0.2 (.inl (e1.1 (by decide))))]
   refine z0o _ Tryz.func95 rfl rfl Tryz.ntmps95 rfl rfl fun w Z ν => ?_
   refine xU ?_
   refine wt ?_
   rw [hne]
   refine wt ?_
   exact j0U (T' := [(5, .av (vi 0))]) (O' := [(1000, X0t l (some d)), (1001, J1T l (some d))]) (ent ⟨.refl _, trivial⟩ xT) (q0J rfl rfl rfl)
  ·rw [er] at hc e1 e2
   have eq := e2.1 rfl
   by_cases hle : y0u d x
   ·have h3 := decide_eq_true (hlex.2 hle)
    rw [hS, if_pos (hb0.2 (.inr ⟨eq, hle⟩))]
    refine z0o _ Tryz.func95 rfl rfl Tryz.ntmps95 rfl rfl fun w Z ν => ?_
    refine xU ?_
    refine wt ?_
    rw [hne]
    refine wt ?_
    repeat' (first
      |(refine Q0U (w0a (n := 3) rfl xE xE) rfl rfl rfl ?_; refine wt ?_)
      |(refine Q0U (y0W (len := 3) rfl rfl xE) rfl rfl rfl ?_; refine wt ?_)
      |(refine Q0U (X0H hcp rfl rfl rfl rfl) rfl rfl rfl ?_; refine wt ?_))
    rw [h3]
    refine wt ?_
    exact j0U (T' := [(5, .av (vi 0))]) (O' := [(1000, X0t l (some d)), (1001, J1T l (some d))]) (ent ⟨.refl _, trivial⟩ xT) (q0J rfl rfl rfl)
   ·have h3 := decide_eq_false (fun q => hle (hlex.1 q))
    rw [hS, if_neg (fun q => (hb0.1 q).elim (fun q => by have := e1.2 q; omega) (fun q => hle q.2))]
    refine z0o _ Tryz.func95 rfl rfl Tryz.ntmps95 rfl rfl fun w Z ν => ?_
    refine xU ?_
    refine wt ?_
    rw [hne]
    refine wt ?_
    repeat' (first
      |(refine Q0U (w0a (n := 3) rfl xE xE) rfl rfl rfl ?_; refine wt ?_)
      |(refine Q0U (y0W (len := 3) rfl rfl xE) rfl rfl rfl ?_; refine wt ?_)
      |(refine Q0U (X0H hcp rfl rfl rfl rfl) rfl rfl rfl ?_; refine wt ?_))
    rw [h3]
    refine wt ?_
    exact j0U (T' := [(5, .av (vi 0))]) (O' := [(1000, X0t l (some x)), (1001, J1T l (some x))]) (ent ⟨.refl _, trivial⟩ xT) (q0J rfl rfl rfl)
  ·rw [er] at hc e1 e2
   rw [hS, if_neg (fun q => (hb0.1 q).elim (fun q => by have := e1.2 q; omega) (fun q => by have := e2.2 q.1; omega))]
   refine z0o _ Tryz.func95 rfl rfl Tryz.ntmps95 rfl rfl fun w Z ν => ?_
   refine xU ?_
   refine wt ?_
   rw [hne]
   refine wt ?_
   exact j0U (T' := [(5, .av (vi 0))]) (O' := [(1000, X0t l (some x)), (1001, J1T l (some x))]) (ent ⟨.refl _, trivial⟩ xT) (q0J rfl rfl rfl)
def Z1u : Value → Int
 |.int .i64 n => n
 |_ => 0
def K1v (x : Value) : Tr := ⟨Z1u (cellOf x 0), Z1u (cellOf x 1), Z1u (cellOf x 2)⟩
theorem q2G (d : Tr) : K1v (.agg #[.int .i64 d.x, .int .i64 d.y, .int .i64 d.z]) = d := rfl
def mS (l : List Tr) (pre : List Value) : Option Tr := w0S l ((pre.map K1v).filter y1W)
theorem W1i (l : List Tr) (pre : List Value) {d : Tr} (h : GD d) : mS l (pre ++ [.agg #[.int .i64 d.x, .int .i64 d.y, .int .i64 d.z]]) = z0q l (mS l pre) d := by
 unfold mS
 rw [List.map_append, List.filter_append]
 have e : List.filter y1W (List.map K1v [Value.agg #[.int .i64 d.x, .int .i64 d.y, .int .i64 d.z]]) = [d] := by
  simp only [List.map_cons, List.map_nil, q2G, List.filter_cons, (Q0f d).2 h]
  rfl
 rw [e, y1k]
theorem q1j {l : List Tr} : ∀ (L : List Tr) (m : Option Tr) (P : Tr → Prop), (∀ x, m = some x → P x) → (∀ x ∈ L, P x) → ∀ x, L.foldl (z0q l) m = some x → P x
 |[], m, P, hm, _, x, h => hm x h
 |d :: L, m, P, hm, hL, x, h => by
  refine q1j L (z0q l m d) P (fun y hy => ?_) (fun y hy => hL y (by simp [hy])) x h
  cases m with
  |none => cases hy; exact hL d (by simp)
  |some z =>
   simp only [z0q] at hy
   split at hy
   ·cases hy; exact hL d (by simp)
   ·cases hy; exact hm _ rfl
theorem K1S (l : List Tr) (pre : List Value) (x : Tr) (h : mS l pre = some x) : GD x :=
 q1j _ none GD (fun _ h => by cases h) (fun y hy => (Q0f y).1 (List.mem_filter.1 hy).2) x h
theorem Q1v {Z : j0q} {w : World} : ∀ {L : List Tr} {xs : List Value}, All2 (fun τ v => AV.ok Z w τ v) (L.map tp) xs → xs.map K1v = L
 |[], [], _ => rfl
 |d :: L, x :: xs, ⟨h1, h2⟩ => by
  obtain rfl : x = _ := h1
  rw [List.map_cons, Q1v h2]
  rfl
 |[], _ :: _, h => h.elim
 |_ :: _, [], h => h.elim
theorem q1R {l : List Tr} (h : w0i l = 0) (h7 : l.length ≤ 7) (hw : z0p l) : ∀ d ∈ x0W l, GD d := fun d hd => by
 have hl := (RT.of h).1
 have hgap := J0l (X0I hl)
 unfold x0W at hd
 split at hd
 ·next h3 =>
  have s : S3 l := ⟨hl, h7, (q0V l).1 h3⟩
  unfold Y1I at hd
  rcases List.mem_append.1 hd with h1 | h1
  ·obtain ⟨f, hf, rfl⟩ := List.mem_map.1 h1
   exact ⟨q0G (y0O h7 f hf).1, hgap _ (y0N s.hS hf)⟩
  ·obtain ⟨i, k, hi, hk, hn, rfl⟩ := q0h.1 h1
   have hB : ∀ v ∈ j1M l, BT 200000 v := fun v hv => by
    rcases k0k s v hv with q | q
    ·exact X0I hl _ q
    ·have := J1a (X0I hl _ q)
     obtain ⟨⟨a, b⟩, ⟨c, e⟩, ⟨f, g⟩⟩ := this
     simp only [j0P] at a b c e f g
     refine ⟨⟨?_, ?_⟩, ⟨?_, ?_⟩, ⟨?_, ?_⟩⟩ <;> omega
   exact ⟨q0G hn, J0l hB _ h1⟩
 ·obtain ⟨i, k, hi, hk, hn, e⟩ := flatD_ex hw
  rw [e, List.mem_singleton] at hd
  subst hd
  exact ⟨q0G hn, V0U ((((hl i).sub (hl 0)).cr ((hl k).sub (hl 0))).le xE)⟩
theorem Z1I {l : List Tr} (h : w0i l = 0) (h7 : l.length ≤ 7) (hw : z0p l) {xs : List Value} (hx : xs.map K1v = x0W l) : mS l xs = some (lm l) := by
 unfold mS
 rw [hx, List.filter_eq_self.2 (fun d hd => (Q0f d).2 (q1R h h7 hw d hd)), q1g (RT.of h).1 h7 hw, W1f hw]
theorem z1Y (l : List Tr) (h : w0i l = 0) (h7 : l.length ≤ 7) (hw : z0p l) : CtrA Tryz.prog 55 [ts l] (j0x [vS (rtx (Wq l (lm l))), zA (lm l) (loD l (lm l)) (hiD l (lm l)), vi 0]) := by
 have hl : RT l := (RT.of h).1
 have hl0 : 0 < l.length := by obtain ⟨a, _, _, ha, _⟩ := hw; omega
 have hdc := Y1J l
 refine Y1A _ Tryz.func55 rfl rfl Tryz.ntmps55 rfl fun w Z => ?_
 refine xU ?_
 refine y0F ?_
 refine q0C ?_
 refine j0n (X0F rfl rfl) rfl ?_
 refine j0u (j0J 20 rfl) rfl ?_
 refine j0u (j0J 21 rfl) rfl ?_
 refine j0u (j0J 22 rfl) rfl ?_
 refine wt ?_
 refine j0n (z0O (caps := [.av (lt l), .own 10 0, .own 11 0]) rfl) rfl ?_
 refine j0u (j0J 23 rfl) rfl ?_
 refine v0P (w0b (s := .clo 95 [.av (lt l), .own 10 0, .own 11 0]) rfl rfl rfl rfl rfl nofun) ?_
 refine wt ?_
 refine J0N rfl rfl (V1p l h h7 hw) [8, 14, 15, 16, 17, 9, 18, 19, 20, 21] [(2, .own 20 0), (3, .own 21 0), (4, .own 22 0), (5, .own 10 0), (6, .own 11 0), (7, .own 23 0), (13, .av (dcl l))] (fun pre => [(10, X0t l (mS l pre)), (11, J1T l (mS l pre)), (20, .cells [.av (vS [])]), (21, .cells [.av (vi 0), .av (vi 0), .av (vi 0), .av (vi 0), .av (vi 0)]), (22, .cells [.av (vi 0)]), (23, .cells [.clo 95 [.av (lt l), .own 10 0, .own 11 0]])]) (fun x => [(8, .av (.ptr 3 (fun j => .val (cellOf x j))))]) (ent xS xT) rfl rfl rfl rfl (fun _ => rfl) ?_ ?_ ?_
 ·rintro lp a0 w0 Z0 keep pre x ⟨d, rfl, hn, hB⟩
  refine wt ?_
  exact Z0q (Ent.trans (v0n 8 12 (fun j => .val (cellOf (.agg #[.int .i64 d.x, .int .i64 d.y, .int .i64 d.z]) j)) rfl rfl rfl) (ent xS xT))
 ·rintro lp a0 w0 Z0 keep pre x ⟨d, rfl, hn, hB⟩ hlen
  have hk := X1L l d (mS l pre) hl hl0 h7 ⟨hn, hB⟩ (K1S l pre)
  rw [W1i l pre ⟨hn, hB⟩]
  refine wt ?_
  refine j0u (Y0w [(1000, 10), (1001, 11)] hk rfl rfl ⟨rfl, rfl, trivial⟩ rfl) rfl ?_
  refine wt ?_
  exact Z0s (ent xS xT)
 ·intro D w2 xs Z1 ν a hA hR h'
  rw [Z1I h h7 hw (Q1v hR)] at h'
  refine x1l ⟨_, _, h'⟩ ?_
  refine wt ?_
  exact z0i hA (j0A (rvs := [_, _, _]) (τs := [_, _, _]) rfl rfl ⟨.cell rfl rfl rfl, .agg (us := [.int .i64 (lm l).x, .int .i64 (lm l).y, .int .i64 (lm l).z, .int .i64 (loD l (lm l)), .int .i64 (hiD l (lm l))]) rfl rfl rfl rfl, .cell rfl rfl rfl, trivial⟩ rfl)
end Go.Proofs.YtgblokifbgeegaaGreatDoor.H.S
namespace Go.Proofs.YtgblokifbgeegaaGreatDoor.H.S
open Go Go.Vc Go.RowKit Go.Na Go.Lib H.G
set_option maxHeartbeats 8000000
abbrev lpt (l : List Pt) : AV := .ptr 1 (fun _ => pts l)
abbrev qcl (l : List Pt) : AV := .clo 152 1 (fun i => [lpt l].getD i .any)
theorem Z1Y (l : List Pt) : CtrA Tryz.prog 120 [pts l] (qcl l) := by
 refine j0p _ Tryz.func120 rfl rfl Tryz.ntmps120 rfl fun w Z => ?_
 refine xU ?_
 refine wt ?_
 exact xV
structure GP (l : List Pt) (x : Nat × Nat) : Prop where
 lt : x.1 < x.2
 len : x.2 < l.length
 sup : j1A l x.1 x.2 = true
theorem GP.S {l : List Pt} {x : Nat × Nat} (h : GP l x) : j1J l x.1 x.2 := (J0D (by have := h.lt; have := h.len; omega) h.len).1 h.sup
def V4 (l : List Pt) (x : Value) : Prop := ∃ y : Nat × Nat, x = .agg #[.int .i64 y.1, .int .i64 y.2, .int .i64 (arN l y.1 y.2 l.length), .int .i64 (frN l y.1 y.2 l.length)] ∧ GP l y
theorem Z1W {l : List Pt} {i j : Nat} (h : GP l (i, j)) (Z : j0q) (w : World) (v : Value) (hv : AV.ok Z w (prA l i j) v) : V4 l v := ⟨(i, j), hv, h⟩
theorem Z1X {l : List Pt} {i m : Nat} (hi : i < l.length) (hm : m ≤ l.length) : iP l i ++ jP l i m <+: Z0g l := by
 have h1 : jP l i m <+: jP l i l.length := x0d (f := jP l i) (fun k => Y0X l i k) hm
 have h2 : iP l (i + 1) <+: iP l l.length := x0d (f := iP l) (fun k => Y0V l k) hi
 rw [Y0V] at h2
 exact ((List.prefix_append_right_inj _).2 h1).trans h2
theorem W1x (l : List Pt) (hl : ∀ i, SmP (gp l i)) (hn : l.length ≤ 1000) : CtrM Tryz.prog 152 [lpt l] (V4 l) ((Z0g l).map fun x => prA l x.1 x.2) := by
 refine K1s _ Tryz.func152 rfl rfl Tryz.ntmps152 rfl fun y J Y w Z S => ?_
 refine xU ?_
 refine wt ?_
 refine v0w Y (γ := Nat) (fun i => [(0, .av (yv y)), (1, .av (lpt l)), (7, .av (pts l)), (8, .av (vi l.length)), (9, .av (vi i))]) (fun i => (iP l i).length) (fun i => i ≤ l.length) (fun i => l.length - i) 0 S (Nat.zero_le _) (ent xS trivial) ?_
 intro i hi w Z S
 refine wt ?_
 (refine j0a rfl ?_ ?_ <;> intro hb <;> (try simp only [xA, xB, xG, xC, xD, xN] at hb) <;> (try exact xQ))
 ·have hil : i < l.length := by omega
  have S0 : iP l i ++ jP l i (i + 1) = iP l i := by rw [J1B l i (i + 1) (by omega), List.append_nil]
  rw [← S0] at S
  refine wt ?_
  refine v0w Y (γ := Nat) (fun m => [(0, .av (yv y)), (1, .av (lpt l)), (3, .av (vi i)), (4, .av (vi m)), (7, .av (pts l)), (8, .av (vi l.length)), (9, .av (vi i))]) (fun m => (iP l i ++ jP l i m).length) (fun m => i + 1 ≤ m ∧ m ≤ l.length) (fun m => l.length - m) (i + 1) S xO (ent xS trivial) ?_
  rintro m ⟨hm1, hm2⟩ w Z S
  refine wt ?_
  (refine j0a rfl ?_ ?_ <;> intro hb <;> (try simp only [xA, xB, xG, xC, xD, xN] at hb) <;> (try exact xQ))
  ·have hml : m < l.length := by omega
   have hs := Y0r l i m hl hn hil hml
   have hcs := Y0X l i m
   have hpr := Z1X (l := l) hil (m := m + 1) xO
   cases hb2 : j1A l i m with
   |false =>
    rw [hb2] at hs
    rw [if_neg (by rw [hb2]; rintro ⟨_, q⟩; cases q), List.append_nil] at hcs
    rw [← hcs] at S
    refine wt ?_
    exact q0e Y (g := m) (m + 1) S ⟨by omega, by omega⟩ xO (ent xS trivial)
   |true =>
    rw [hb2] at hs
    rw [if_pos ⟨by omega, hb2⟩] at hcs
    rw [hcs, ← List.append_assoc] at hpr
    have hmm : ((Z0g l).map fun x => prA l x.1 x.2)[(iP l i ++ jP l i m).length]? = some (prA l i m) := by
     rw [List.getElem?_map, w1t hpr]; rfl
    have hlen : (iP l i ++ jP l i (m + 1)).length = (iP l i ++ jP l i m).length + 1 := by rw [hcs]; simp; omega
    refine wt ?_
    repeat' (first
      |(refine Y0n (j0o (us := [.int .i64 _, .int .i64 _, .int .i64 _, .int .i64 _]) rfl rfl rfl rfl) rfl rfl rfl ?_; refine wt ?_))
    refine v0e x0I ?_
    refine w0v Y S (τ := prA l i m) hmm (Z1W ⟨by show i < m; omega, hml, hb2⟩) rfl rfl rfl rfl rfl (fun w' Z' S' => ?_)
    rw [← hlen] at S'
    refine wt ?_
    exact q0e Y (g := m) (m + 1) S' ⟨by omega, by omega⟩ xO (ent xS trivial)
  ·obtain rfl : m = l.length := by omega
   rw [← Y0V] at S
   refine wt ?_
   exact q0e Y (g := i) (i + 1) S xO xO (ent xS trivial)
 ·obtain rfl : i = l.length := by omega
  have e4 : (iP l l.length).length = ((Z0g l).map fun x => prA l x.1 x.2).length := by simp [Z0g]
  rw [e4] at S
  refine wt ?_
  exact W0N Y rfl S
theorem Y1a {l : List Pt} {x : Nat × Nat} (h : GP l x) : Wp l x = ((arN l x.1 x.2 l.length * arN l x.1 x.2 l.length : Int) : Rat) / ((j1P (gp l x.1) (gp l x.2) : Int) : Rat) := by
 unfold Wp Wq
 rw [Y1i h.S]
 congr 2
 simp only [pp, j0b, j1P]
 grind
theorem Q1Z {l : List Pt} (hl : ∀ i, SmP (gp l i)) (i j : Nat) : ∀ k, 0 ≤ arN l i j k ∧ arN l i j k ≤ 720000000000
 |0 => ⟨Int.le_refl _, by show (0 : Int) ≤ 720000000000; omega⟩
 |k + 1 => by
  obtain ⟨h1, h2⟩ := Q1Z hl i j k
  obtain ⟨⟨q1, q2⟩, q3, q4⟩ := W1d (hl i) (hl j) (hl k)
  have e : amx (lfP l i j k) = max (lf3 (gp l i) (gp l j) (gp l k)) (-lf3 (gp l i) (gp l j) (gp l k)) := rfl
  have f : lf3 (gp l i) (gp l j) (gp l k) = (((gp l j).x - (gp l i).x) * ((gp l k).y - (gp l i).y) - ((gp l j).y - (gp l i).y) * ((gp l k).x - (gp l i).x)) := rfl
  rw [V0N]
  split <;> omega
theorem w1y (l : List Pt) (x : Nat × Nat) (hl : ∀ i, SmP (gp l i)) (hn : l.length ≤ 1000) (h : GP l x) : CtrA Tryz.prog 118 [prA l x.1 x.2, pts l] (vS (rtx (Wp l x))) := by
 have h1 := h.lt
 have h2 := h.len
 obtain ⟨b1, b2⟩ := Q1Z hl x.1 x.2 l.length
 have hs := x1n (arN l x.1 x.2 l.length) (gp l x.1) (gp l x.2) (hl _) (hl _) h.S.2.2.1 ⟨by omega, by omega⟩
 rw [← Y1a h] at hs
 have f1 := Z1g l x.1 x.2 l.length xO
 generalize Wp l x = q at hs ⊢
 obtain ⟨i, j⟩ := x
 dsimp only at *
 refine j0p _ Tryz.func118 rfl rfl Tryz.ntmps118 rfl fun w Z => ?_
 refine xU ?_
 refine wt ?_
 exact xV
theorem Q1T {l : List Pt} (hl : ∀ i, SmP (gp l i)) {x : Nat × Nat} (h : GP l x) : LR 49 (Wp l x) := by
 rw [Y1a h]
 have hp := k0r h.S.2.2.1
 obtain ⟨b1, b2⟩ := Q1Z hl x.1 x.2 l.length
 rw [← Rat.divInt_eq_div]
 have ha : LI 12 (arN l x.1 x.2 l.length) := (show (arN l x.1 x.2 l.length).natAbs < 10 ^ 12 by omega)
 have hf : LI 12 (j1P (gp l x.1) (gp l x.2)) := (show (j1P (gp l x.1) (gp l x.2)).natAbs < 10 ^ 12 by
  have e : j1P (gp l x.1) (gp l x.2) = ((gp l x.2).x - (gp l x.1).x) * ((gp l x.2).x - (gp l x.1).x) + ((gp l x.2).y - (gp l x.1).y) * ((gp l x.2).y - (gp l x.1).y) := rfl
  obtain ⟨⟨a1, a2⟩, a3, a4⟩ := hl x.1
  obtain ⟨⟨c1, c2⟩, c3, c4⟩ := hl x.2
  obtain ⟨q1, q2⟩ := j0F (A := 600000) (B := 600000) (m := (gp l x.2).x - (gp l x.1).x) (n := (gp l x.2).x - (gp l x.1).x) ⟨by omega, by omega⟩ ⟨by omega, by omega⟩
  obtain ⟨q3, q4⟩ := j0F (A := 600000) (B := 600000) (m := (gp l x.2).y - (gp l x.1).y) (n := (gp l x.2).y - (gp l x.1).y) ⟨by omega, by omega⟩ ⟨by omega, by omega⟩
  omega)
 exact y0K xO ((ha.mul ha).mono xE) (hf.mono xE)
def wP (l : List Pt) : Option (Nat × Nat) → List UInt8
 |none => []
 |some x => rtx (Wp l x)
abbrev X1O (l : List Pt) (m : Option (Nat × Nat)) : Res := .cells [.av (vS (wP l m))]
def o1 (m : Option (Nat × Nat)) : Nat := (m.getD (0, 0)).1
def o2 (m : Option (Nat × Nat)) : Nat := (m.getD (0, 0)).2
def o3 (l : List Pt) : Option (Nat × Nat) → Int
 |none => 0
 |some x => arN l x.1 x.2 l.length
def o4 (l : List Pt) : Option (Nat × Nat) → Nat
 |none => 0
 |some x => frN l x.1 x.2 l.length
abbrev otR (l : List Pt) (m : Option (Nat × Nat)) : Res := .cells [.av (vi (o1 m)), .av (vi (o2 m)), .av (vi (o3 l m)), .av (vi (o4 l m))]
theorem W1t (l : List Pt) (x : Nat × Nat) (m : Option (Nat × Nat)) (hl : ∀ i, SmP (gp l i)) (hn : l.length ≤ 1000) (hx : GP l x) (hm : ∀ y, m = some y → GP l y) :
  CtrH Tryz.prog 117 [.av (prA l x.1 x.2), .av (lpt l), .own 1000 0, .own 1001 0] [(1000, X1O l m), (1001, otR l m)] (.av .any) [(1000, X1O l (K0N l m x)), (1001, otR l (K0N l m x))] := by
 have hs := w1y l x hl hn hx
 cases m with
 |none =>
  refine z0o _ Tryz.func117 rfl rfl Tryz.ntmps117 rfl rfl fun w Z ν => ?_
  refine xU ?_
  refine wt ?_
  repeat' (first
    |(refine j0n (j0v (us := [.int .i64 _, .int .i64 _, .int .i64 _, .int .i64 _]) rfl rfl rfl rfl) rfl ?_; refine wt ?_)
    |(refine v0x (j0v (us := [.int .i64 _, .int .i64 _, .int .i64 _, .int .i64 _]) rfl rfl rfl rfl) rfl ?_; refine wt ?_))
  exact j0U (T' := []) (O' := [(1000, X1O l (some x)), (1001, otR l (some x))]) (ent trivial xT) (x0Q rfl rfl rfl)
 |some y =>
  have hy := hm y rfl
  have hc := v1Q (Wp l x) (Wp l y) ((Q1T hl hx).mono xE) ((Q1T hl hy).mono xE)
  have hne : (wP l (some y) == []) = false := by rw [beq_eq_false_iff_ne]; exact w1O _
  have hS : K0N l (some y) x = if Wp l x < Wp l y then some x else some y := rfl
  by_cases hlt : Wp l x < Wp l y
  ·rw [decide_eq_true hlt] at hc
   rw [hS, if_pos hlt]
   refine z0o _ Tryz.func117 rfl rfl Tryz.ntmps117 rfl rfl fun w Z ν => ?_
   refine xU ?_
   refine wt ?_
   repeat' (first
     |(refine j0n (j0v (us := [.int .i64 _, .int .i64 _, .int .i64 _, .int .i64 _]) rfl rfl rfl rfl) rfl ?_; refine wt ?_))
   rw [hne]
   refine wt ?_
   repeat' (first
     |(refine v0x (j0v (us := [.int .i64 _, .int .i64 _, .int .i64 _, .int .i64 _]) rfl rfl rfl rfl) rfl ?_; refine wt ?_))
   exact j0U (T' := []) (O' := [(1000, X1O l (some x)), (1001, otR l (some x))]) (ent trivial xT) (x0Q rfl rfl rfl)
  ·rw [decide_eq_false hlt] at hc
   rw [hS, if_neg hlt]
   refine z0o _ Tryz.func117 rfl rfl Tryz.ntmps117 rfl rfl fun w Z ν => ?_
   refine xU ?_
   refine wt ?_
   repeat' (first
     |(refine j0n (j0v (us := [.int .i64 _, .int .i64 _, .int .i64 _, .int .i64 _]) rfl rfl rfl rfl) rfl ?_; refine wt ?_))
   rw [hne]
   refine wt ?_
   exact j0U (T' := []) (O' := [(1000, X1O l (some y)), (1001, otR l (some y))]) (ent trivial xT) (x0Q rfl rfl rfl)
def pOf (x : Value) : Nat × Nat := ((Z1u (cellOf x 0)).toNat, (Z1u (cellOf x 1)).toNat)
theorem J1U (l : List Pt) (y : Nat × Nat) : pOf (.agg #[.int .i64 y.1, .int .i64 y.2, .int .i64 (arN l y.1 y.2 l.length), .int .i64 (frN l y.1 y.2 l.length)]) = y := by
 show ((((y.1 : Nat) : Int).toNat, ((y.2 : Nat) : Int).toNat) : Nat × Nat) = y
 simp
def gpB (l : List Pt) (y : Nat × Nat) : Bool := decide (y.1 < y.2) && decide (y.2 < l.length) && j1A l y.1 y.2
theorem Y0T (l : List Pt) (y : Nat × Nat) : gpB l y = true ↔ GP l y := by
 unfold gpB
 simp only [Bool.and_eq_true, decide_eq_true_eq]
 exact ⟨fun ⟨⟨h1, h2⟩, h3⟩ => ⟨h1, h2, h3⟩, fun h => ⟨⟨h.lt, h.len⟩, h.sup⟩⟩
def mP (l : List Pt) (pre : List Value) : Option (Nat × Nat) := V1d l ((pre.map pOf).filter (gpB l))
theorem W1h (l : List Pt) (pre : List Value) {y : Nat × Nat} (h : GP l y) : mP l (pre ++ [.agg #[.int .i64 y.1, .int .i64 y.2, .int .i64 (arN l y.1 y.2 l.length), .int .i64 (frN l y.1 y.2 l.length)]]) = K0N l (mP l pre) y := by
 unfold mP
 rw [List.map_append, List.filter_append, List.map_singleton, J1U]
 rw [show List.filter (gpB l) [y] = [y] by simp [List.filter_cons, (Y0T l y).2 h], V1e]
theorem J1g {l : List Pt} : ∀ (L : List (Nat × Nat)) (m : Option (Nat × Nat)), (∀ x, m = some x → GP l x) → (∀ x ∈ L, GP l x) → ∀ x, L.foldl (K0N l) m = some x → GP l x
 |[], m, hm, _, x, h => hm x h
 |d :: L, m, hm, hL, x, h => by
  refine J1g L (K0N l m d) (fun y hy => ?_) (fun y hy => hL y (by simp [hy])) x h
  cases m with
  |none => cases hy; exact hL d (by simp)
  |some z =>
   simp only [K0N] at hy
   split at hy
   ·cases hy; exact hL d (by simp)
   ·cases hy; exact hm _ rfl
theorem K1R (l : List Pt) (pre : List Value) (x : Nat × Nat) (h : mP l pre = some x) : GP l x :=
 J1g _ none (fun _ h => by cases h) (fun y hy => (Y0T l y).1 (List.mem_filter.1 hy).2) x h
theorem J1X {l : List Pt} {Z : j0q} {w : World} : ∀ {L : List (Nat × Nat)} {xs : List Value}, All2 (fun τ v => AV.ok Z w τ v) (L.map fun x => prA l x.1 x.2) xs → xs.map pOf = L
 |[], [], _ => rfl
 |d :: L, x :: xs, ⟨h1, h2⟩ => by
  obtain rfl : x = _ := h1
  rw [List.map_cons, J1X h2, J1U]
 |[], _ :: _, h => h.elim
 |_ :: _, [], h => h.elim
theorem k0Y {l : List Pt} : ∀ x ∈ Z0g l, GP l x := fun x hx => by
 obtain ⟨h1, h2, h3⟩ := J0v.1 hx
 exact ⟨h1, h2, (J0D xO h2).2 h3⟩
theorem Z1H {l : List Pt} {xs : List Value} (hx : xs.map pOf = Z0g l) : mP l xs = bP l := by
 unfold mP bP
 rw [hx, List.filter_eq_self.2 (fun d hd => (Y0T l d).2 (k0Y d hd))]
def wT (l : List Pt) : List UInt8 := if bP l = none then [48] else wP l (bP l)
theorem j2A (l : List Pt) : wT l = rtx (Ws l) := by
 unfold wT Ws
 cases h : bP l with
 |none => simp only [if_pos]; exact W0H 0 ▸ itoa_zero.symm
 |some x => rfl
theorem z1n (l : List Pt) (hl : ∀ i, SmP (gp l i)) (hn : l.length ≤ 1000) : CtrA Tryz.prog 79 [pts l] (j0x [vS (rtx (Ws l)), .val (.agg #[.int .i64 (o1 (bP l)), .int .i64 (o2 (bP l)), .int .i64 (o3 l (bP l)), .int .i64 (o4 l (bP l))])]) := by
 have hdc := Z1Y l
 rw [← j2A]
 refine Y1A _ Tryz.func79 rfl rfl Tryz.ntmps79 rfl fun w Z => ?_
 refine xU ?_
 refine y0F ?_
 refine q0C ?_
 refine j0n (X0F rfl rfl) rfl ?_
 refine wt ?_
 repeat' (first
   |(refine j0n (j0j (t := 116) (is := []) (xs := []) (vs := []) x1x rfl rfl) rfl ?_; refine wt ?_))
 refine j0n (z0O (caps := [.av (lpt l), .own 11 0, .own 12 0]) rfl) rfl ?_
 refine j0u (j0J 23 rfl) rfl ?_
 refine v0P (w0b (s := .clo 117 [.av (lpt l), .own 11 0, .own 12 0]) rfl rfl rfl rfl rfl nofun) ?_
 refine wt ?_
 refine J0N rfl rfl (W1x l hl hn) [7, 12, 13, 14, 15] [(3, .own 10 0), (4, .own 11 0), (5, .own 12 0), (6, .own 23 0), (11, .av (qcl l))] (fun pre => [(11, X1O l (mP l pre)), (12, otR l (mP l pre)), (10, .cells [.av (vi 0), .av (vi 0), .av (vi 0), .av (vi 0)]), (23, .cells [.clo 117 [.av (lpt l), .own 11 0, .own 12 0]])]) (fun x => [(7, .av (.ptr 4 (fun j => .val (cellOf x j))))]) (ent xS xT) rfl rfl rfl rfl (fun _ => rfl) ?_ ?_ ?_
 ·rintro lp a0 w0 Z0 keep pre x ⟨y, rfl, hy⟩
  refine wt ?_
  exact Z0q (Ent.trans (v0n 7 13 (fun j => .val (cellOf (.agg #[.int .i64 y.1, .int .i64 y.2, .int .i64 (arN l y.1 y.2 l.length), .int .i64 (frN l y.1 y.2 l.length)]) j)) rfl rfl rfl) (ent xS xT))
 ·rintro lp a0 w0 Z0 keep pre x ⟨y, rfl, hy⟩ hlen
  have hk := W1t l y (mP l pre) hl hn hy (K1R l pre)
  rw [W1h l pre hy]
  refine wt ?_
  repeat' (first
    |(refine j0n (j0v (us := [.int .i64 _, .int .i64 _, .int .i64 _, .int .i64 _]) rfl rfl rfl rfl) rfl ?_; refine wt ?_))
  refine j0u (Y0w [(1000, 11), (1001, 12)] hk rfl rfl ⟨rfl, rfl, trivial⟩ rfl) rfl ?_
  refine wt ?_
  exact Z0s (ent xS xT)
 ·intro D w2 xs Z1 ν a hA hR h'
  rw [Z1H (J1X hR)] at h'
  unfold wT
  generalize bP l = m at h' ⊢
  refine x1l ⟨_, _, h'⟩ ?_
  cases m with
  |none =>
   refine wt ?_
   repeat' (first
     |(refine j0n (j0j (t := 116) (is := []) (xs := []) (vs := []) x1x rfl rfl) rfl ?_; refine wt ?_))
   exact z0i hA (j0A (rvs := [_, _]) (τs := [_, _]) rfl rfl ⟨.tmp rfl, .agg (us := [.int .i64 0, .int .i64 0, .int .i64 0, .int .i64 0]) rfl rfl rfl rfl, trivial⟩ rfl)
  |some x =>
   have hne : (wP l (some x) == []) = false := by rw [beq_eq_false_iff_ne]; exact w1O _
   refine wt ?_
   rw [hne]
   refine wt ?_
   repeat' (first
     |(refine v0x (j0o (us := [.int .i64 _, .int .i64 _, .int .i64 _, .int .i64 _]) rfl rfl rfl rfl) rfl ?_; refine wt ?_))
   exact z0i hA (j0A (rvs := [_, _]) (τs := [_, _]) rfl rfl ⟨.tmp rfl, .agg (us := [.int .i64 x.1, .int .i64 x.2, .int .i64 (arN l x.1 x.2 l.length), .int .i64 (frN l x.1 x.2 l.length)]) rfl rfl rfl rfl, trivial⟩ rfl)
theorem k1H : Tryz.prog.built 73 [] = some #[.int .i64 0, .int .i64 0] := by kernel_rfl
def zW (l : List Pt) : List UInt8 := if z0M l = 0 then rtx (Ws l) else []
def zI (l : List Pt) : Nat := if z0M l = 0 then o1 (bP l) else 0
def zJ (l : List Pt) : Nat := if z0M l = 0 then o2 (bP l) else 0
def zF (l : List Pt) : Nat := if z0M l = 0 then o4 l (bP l) else 0
theorem J1q {l : List Pt} (h : z0M l = 0) : chk l = 0 ∧ 0 < l.length := by
 unfold z0M at h
 by_cases h0 : chk l = 0
 ·rw [if_neg (by omega)] at h
  split at h <;> omega
 ·rw [if_pos h0] at h; omega
theorem K0a (l : List Pt) : CtrA Tryz.prog 41 [pts l] (j0x [vS (zW l), .val (.agg #[.int .i64 (zI l), .int .i64 (zJ l)]), vi (zF l), vi (z0M l)]) := by
 have hg := z1l l
 have hl := fun e : z0M l = 0 => z1n l (q1y (J1q e).1).1 (by have := (q1y (J1q e).1).2; omega)
 unfold zW zI zJ zF
 generalize z0M l = e at hg hl ⊢
 by_cases he : e = 0
 ·rw [if_pos he, if_pos he, if_pos he, if_pos he]
  have hl := hl he
  subst he
  refine j0p _ Tryz.func41 rfl rfl Tryz.ntmps41 rfl fun w Z => ?_
  refine xU ?_
  refine wt ?_
  exact j0A (rvs := [_, _, _, _]) (τs := [_, _, _, _]) rfl rfl ⟨.tmp rfl, .agg (us := [.int .i64 (o1 (bP l)), .int .i64 (o2 (bP l))]) rfl rfl rfl rfl, .tmp rfl, .tmp rfl, trivial⟩ rfl
 ·rw [if_neg he, if_neg he, if_neg he, if_neg he]
  refine j0p _ Tryz.func41 rfl rfl Tryz.ntmps41 rfl fun w Z => ?_
  refine xU ?_
  refine wt ?_
  (refine j0a rfl ?_ ?_ <;> intro hb <;> (try simp only [xA, xB, xG, xC, xD, xN] at hb) <;> (try exact xQ))
  refine wt ?_
  repeat' (first
    |(refine j0n (j0j (t := 73) (is := []) (xs := []) (vs := []) k1H rfl rfl) rfl ?_; refine wt ?_))
  exact j0A (rvs := [_, _, _, _]) (τs := [_, _, _, _]) rfl rfl ⟨.tmp rfl, .agg (us := [.int .i64 0, .int .i64 0]) rfl rfl rfl rfl, .tmp rfl, .tmp rfl, trivial⟩ rfl
end Go.Proofs.YtgblokifbgeegaaGreatDoor.H.S
namespace Go.Proofs.YtgblokifbgeegaaGreatDoor.H.S
open Go Go.Vc Go.RowKit
theorem v1g {l : List Tr} (h : w0i l = 0) (hw : z0p l) : X0E l = 0 := by
 unfold X0E
 rw [if_pos h, if_neg (by have := (k0c l).1 hw; omega)]
end Go.Proofs.YtgblokifbgeegaaGreatDoor.H.S
namespace Go.Proofs.YtgblokifbgeegaaGreatDoor.H.S
open Go Go.Vc Go.RowKit H.G
theorem v1z {l : List Tr} {f : Tr → Pt} {i : Nat} (h : i < l.length) : gp (l.map f) i = f (gt l i) := by unfold gp gt; simp [List.getD, h]
theorem j1x {l : List Tr} (hw : z0p l) (a : Nat) : ∃ i j, i < (l.map (shT a)).length ∧ j < (l.map (shT a)).length ∧ gp (l.map (shT a)) i ≠ gp (l.map (shT a)) j := by
 obtain ⟨x, y, z, hx, hy, hz, hn⟩ := hw
 refine Classical.byContradiction fun hno => hn ?_
 have key : ∀ i j, i < l.length → j < l.length → shT a (gt l i) = shT a (gt l j) := fun i j hi hj => by
  refine Classical.byContradiction fun q => hno ⟨i, j, by simpa using hi, by simpa using hj, ?_⟩
  rw [v1z hi, v1z hj]; exact q
 have h1 := key x y hx hy
 have h2 := key x z hx hz
 generalize gt l x = p at *
 generalize gt l y = q at *
 generalize gt l z = r at *
 unfold shT at h1 h2
 simp only [tac, tcr, j0E, tz, Tr.mk.injEq]
 by_cases ha0 : a = 0
 ·simp only [if_pos ha0, Pt.mk.injEq] at h1 h2
  obtain ⟨e1, e2⟩ := h1
  obtain ⟨e3, e4⟩ := h2
  refine ⟨?_, ?_, ?_⟩ <;> grind
 ·by_cases ha1 : a = 1
  ·simp only [if_neg ha0, if_pos ha1, Pt.mk.injEq] at h1 h2
   obtain ⟨e1, e2⟩ := h1
   obtain ⟨e3, e4⟩ := h2
   refine ⟨?_, ?_, ?_⟩ <;> grind
  ·simp only [if_neg ha0, if_neg ha1, Pt.mk.injEq] at h1 h2
   obtain ⟨e1, e2⟩ := h1
   obtain ⟨e3, e4⟩ := h2
   refine ⟨?_, ?_, ?_⟩ <;> grind
theorem j1X {l : List Tr} (hw : z0p l) (h0 : 0 < l.length) (a : Nat) {m : Tr} (hm : MinD l m) : Wq l m ≤ Ws (l.map (shT a)) := by
 obtain ⟨i, j, hi, hj, hne⟩ := j1x hw a
 obtain ⟨x, hx⟩ := Y1m hi hj hne
 have h1 := J1d hx
 unfold Ws
 rw [hx]
 exact k1m h0 a h1.2.1 h1.1 hm
theorem j2b {l : List Tr} (hl : RT l) (a : Nat) : ∀ i, SmP (gp (l.map (shT a)) i) := fun i => by
 by_cases h : i < l.length
 ·rw [v1z h]
  obtain ⟨⟨x1, x2⟩, ⟨y1, y2⟩, ⟨z1, z2⟩⟩ := hl i
  unfold shT
  split
  ·exact ⟨⟨by show _ ≤ (gt l i).y; omega, by show (gt l i).y ≤ _; omega⟩, ⟨by show _ ≤ (gt l i).z; omega, by show (gt l i).z ≤ _; omega⟩⟩
  ·split
   ·exact ⟨⟨by show _ ≤ (gt l i).z; omega, by show (gt l i).z ≤ _; omega⟩, ⟨by show _ ≤ (gt l i).x; omega, by show (gt l i).x ≤ _; omega⟩⟩
   ·exact ⟨⟨by show _ ≤ (gt l i).x; omega, by show (gt l i).x ≤ _; omega⟩, ⟨by show _ ≤ (gt l i).y; omega, by show (gt l i).y ≤ _; omega⟩⟩
 ·rw [show gp (l.map (shT a)) i = default by unfold gp; rw [List.getD, List.getElem?_eq_none (by simp; omega)]; rfl]
  exact Q1Q
theorem X0Z (l : List Pt) (h : Int) : (j0Y l h).length = 2 * l.length := by
 unfold j0Y
 induction l with
 |nil => rfl
 |cons p l ih => rw [List.flatMap_cons, List.length_append, ih]; simp; omega
theorem y1X {l : List Tr} {t : Tr} (h : t ∈ l) : ∃ i, i < l.length ∧ gt l i = t := x0p h
theorem j1r {l : List Pt} {h : Int} {i j : Nat} (hi : i < l.length) (hj : j < l.length) (hne : gp l i ≠ gp l j) (hh : 0 < h) : z0p (j0Y l h) := by
 obtain ⟨a, ha, ea⟩ := y1X (q0D (h := h).2 ⟨i, hi, .inl rfl⟩)
 obtain ⟨b, hb, eb⟩ := y1X (q0D (h := h).2 ⟨j, hj, .inl rfl⟩)
 obtain ⟨c, hc, ec⟩ := y1X (q0D (h := h).2 ⟨i, hi, .inr rfl⟩)
 refine ⟨a, b, c, ha, hb, hc, fun e => hne ?_⟩
 rw [ea, eb, ec] at e
 generalize gp l i = p at *
 generalize gp l j = q at *
 simp only [tac, tcr, j0E, p3, tz, Tr.mk.injEq] at e
 obtain ⟨e1, e2, _⟩ := e
 have f1 : (q.y - p.y) * h = 0 := by grind
 have f2 : (q.x - p.x) * h = 0 := by grind
 have g1 : q.y - p.y = 0 := by rcases Int.mul_eq_zero.1 f1 with z | z <;> omega
 have g2 : q.x - p.x = 0 := by rcases Int.mul_eq_zero.1 f2 with z | z <;> omega
 cases p; cases q
 simp only [Pt.mk.injEq] at *
 omega
theorem w1u {l : List Pt} {h : Int} (hl : l.length ≤ 3) (hp : ∀ p ∈ l, (-1000 ≤ p.x ∧ p.x ≤ 1000) ∧ (-1000 ≤ p.y ∧ p.y ≤ 1000)) (hh : 0 ≤ h ∧ h ≤ 1000) : w0i (j0Y l h) = 0 := by
 unfold w0i
 rw [if_neg (by rw [X0Z]; omega), if_pos]
 rw [List.all_eq_true]
 intro t ht
 obtain ⟨i, hi, ht⟩ := q0D.1 ht
 have hm : gp l i ∈ l := by unfold gp; simp [List.getD, hi]
 obtain ⟨⟨a1, a2⟩, a3, a4⟩ := hp _ hm
 unfold v0I inB
 rcases ht with rfl | rfl
 ·simp only [p3, Bool.and_eq_true]; refine ⟨⟨⟨?_, ?_⟩, ?_, ?_⟩, ?_, ?_⟩ <;> (refine decide_eq_true ?_; omega)
 ·simp only [Bool.and_eq_true]; refine ⟨⟨⟨?_, ?_⟩, ?_, ?_⟩, ?_, ?_⟩ <;> (refine decide_eq_true ?_; omega)
theorem y1g {l : List Pt} {h : Int} {i j : Nat} (hi : i < l.length) (hj : j < l.length) (hne : gp l i ≠ gp l j) (hh : 0 < h) {m : Tr} (hm : MinD (j0Y l h) m) : Wq (j0Y l h) m = if Ws l < ((h * h : Int) : Rat) then Ws l else ((h * h : Int) : Rat) := by
 obtain ⟨x, hx⟩ := Y1m hi hj hne
 have hd := J1d hx
 obtain ⟨h1, h2⟩ := W1z xO hh hd hm
 have e : Ws l = Wq (flat3 l) (pp l x.1 x.2) := by unfold Ws; rw [hx]; rfl
 split
 ·next q => rw [e] at q ⊢; exact h1 (Rat.le_of_lt q)
 ·next q => rw [e] at q; exact h2 (Rat.not_lt.1 q)
end Go.Proofs.YtgblokifbgeegaaGreatDoor.H.S
section
end
namespace Go.Proofs.YtgblokifbgeegaaGreatDoor.H.S
open Go Go.Vc Go.RowKit Go.Na Go.Lib
set_option maxHeartbeats 8000000
theorem k0o {l : List Tr} (h : X0E l = 0) : w0i l = 0 ∧ z0p l := by
 unfold X0E at h
 by_cases h0 : w0i l = 0
 ·rw [if_pos h0] at h
  refine ⟨h0, (k0c l).2 ?_⟩
  by_cases h2 : (spn l).dim < 2
  ·rw [if_pos h2] at h; omega
  ·omega
 ·rw [if_neg h0] at h; exact absurd h h0
theorem few.le7 {l : List Tr} (hf : few l) (h : w0i l = 0) : l.length ≤ 7 := (hf.le h).2
def wtx (l : List Tr) : List UInt8 := if X0E l = 0 then rtx (Wq l (lm l)) else []
def dW (l : List Tr) : Tr := if X0E l = 0 then lm l else tz
def aW (l : List Tr) : Int := if X0E l = 0 then loD l (lm l) else 0
def bW (l : List Tr) : Int := if X0E l = 0 then hiD l (lm l) else 0
theorem K0I (l : List Tr) (hf : few l) : CtrA Tryz.prog 18 [ts l] (j0x [vS (wtx l), zA (dW l) (aW l) (bW l), vi (X0E l)]) := by
 have hg := z1X l hf
 have hl := fun e : X0E l = 0 => z1Y l (k0o e).1 (hf.le7 (k0o e).1) (k0o e).2
 unfold wtx dW aW bW
 generalize X0E l = e at hg hl ⊢
 by_cases he : e = 0
 ·rw [if_pos he, if_pos he, if_pos he, if_pos he]
  have hl := hl he
  subst he
  refine j0p _ Tryz.func18 rfl rfl Tryz.ntmps18 rfl fun w Z => ?_
  refine xU ?_
  refine wt ?_
  exact j0A (rvs := [_, _, _]) (τs := [_, _, _]) rfl rfl ⟨.tmp rfl, .agg (us := [_, _, _, _, _]) rfl rfl rfl rfl, .tmp rfl, trivial⟩ rfl
 ·rw [if_neg he, if_neg he, if_neg he, if_neg he]
  refine j0p _ Tryz.func18 rfl rfl Tryz.ntmps18 rfl fun w Z => ?_
  refine xU ?_
  refine wt ?_
  (refine j0a rfl ?_ ?_ <;> intro hb <;> (try simp only [xA, xB, xG, xC, xD, xN] at hb) <;> (try exact xQ))
  refine wt ?_
  exact j0A (rvs := [_, _, _]) (τs := [_, _, _]) rfl rfl ⟨.tmp rfl, .agg (us := [_, _, _, _, _]) rfl rfl rfl rfl, .tmp rfl, trivial⟩ rfl
theorem Q1d (q r : Rat) : decide (rsg (q - r) ≤ 0) = decide (q ≤ r) := by
 rw [Bool.eq_iff_iff, decide_eq_true_eq, decide_eq_true_eq]
 have h1 := K0e (q := r) (r := q)
 have h2 := K0e (q := q) (r := r)
 have h3 := Q1c (q := q) (r := r)
 rcases Y0h (q - r) with h | h | h
 ·have : q < r := h2.1 xO
  exact ⟨fun _ => Rat.le_of_lt this, fun _ => by omega⟩
 ·have e : q = r := h3.1 h
  exact ⟨fun _ => by rw [e]; exact Rat.le_refl, fun _ => by omega⟩
 ·constructor
  ·intro _; omega
  ·intro hle
   exfalso
   rcases Rat.le_iff_lt_or_eq.1 hle with h4 | h4
   ·have := h2.2 h4; omega
   ·have := h3.2 h4; omega
end Go.Proofs.YtgblokifbgeegaaGreatDoor.H.S
section
end
section
end
namespace Go.Proofs.YtgblokifbgeegaaGreatDoor.H.S
open Go Go.Vc Go.RowKit Go.Na Go.Lib
set_option maxHeartbeats 8000000
theorem w1L (l : List Tr) (hl : RT l) (h7 : l.length ≤ 7) : CtrA Tryz.prog 26 [ts l] (vi (rkI l)) := by
 refine k1d l (rkI l) hl h7 (fun h => ?_) (fun h => ?_)
 ·unfold rkI; rw [if_pos ((q0V l).2 ((x1a l).2 h))]
 ·unfold rkI; rw [if_neg (fun e => h ((x1a l).1 ((q0V l).1 e)))]
end Go.Proofs.YtgblokifbgeegaaGreatDoor.H.S
section
end
section
end
section
end
section
end
section
end
namespace Go.Proofs.YtgblokifbgeegaaGreatDoor.H.S
open Go Go.Vc Go.RowKit Go.Na Go.Lib
set_option maxHeartbeats 8000000
theorem j1V {l : List Tr} (hl : RT l) (h0 : 0 < l.length) {d : Tr} (hd : GD d) : LR 49 (Wq l d) := by
 obtain ⟨⟨a1, a2⟩, ⟨b1, b2⟩, hle⟩ := K0H hl h0 hd.bt
 have hw : LI 17 (wdt l d) := (show (wdt l d).natAbs < 10 ^ 17 by unfold wdt; omega)
 have hn := Z0A hd.I
 have hnn := q0j hd.ne
 unfold Wq
 rw [← Rat.divInt_eq_div]
 exact y0K xO ((hw.mul hw).mono xE) (hn.mono xE)
theorem Z1D {l : List Tr} (hl : RT l) (hw : z0p l) : GD (lm l) := ⟨(X0Q hw).1, K1Q hl hw⟩
theorem K1w {l : List Tr} (h : X0E l = 0) : wtx l = rtx (Wq l (lm l)) ∧ dW l = lm l ∧ aW l = loD l (lm l) ∧ bW l = hiD l (lm l) := by
 unfold wtx dW aW bW
 rw [if_pos h, if_pos h, if_pos h, if_pos h]
 exact ⟨rfl, rfl, rfl, rfl⟩
theorem j2F (l : List Tr) (hf : few l) (h : X0E l = 0) : CtrA Tryz.prog 18 [ts l] (j0x [vS (rtx (Wq l (lm l))), zA (lm l) (loD l (lm l)) (hiD l (lm l)), vi 0]) := by
 have h1 := K0I l hf
 rw [(K1w h).1, (K1w h).2.1, (K1w h).2.2.1, (K1w h).2.2.2, h] at h1
 exact h1
end Go.Proofs.YtgblokifbgeegaaGreatDoor.H.S
section
end
section
end
section
end
namespace Go.Proofs.YtgblokifbgeegaaGreatDoor.H.S
open Go Go.Vc Go.RowKit Go.Na Go.Lib H.G
set_option maxHeartbeats 8000000
theorem K1B (l : List Pt) (hl : ∀ i, SmP (gp l i)) : LR 49 (Ws l) := by
 unfold Ws
 cases h : bP l with
 |none => exact ⟨LI.small (m := 0) xE xE, LI.small (m := 1) xE xE⟩
 |some x => exact Q1T hl (k0Y x (q1d h).1)
def shK (l : List Tr) (a k : Nat) : List Pt := (List.range k).map fun i => shT a (gt l i)
theorem z1x (l : List Tr) (a k : Nat) : shK l a (k + 1) = shK l a k ++ [shT a (gt l k)] := by
 unfold shK
 rw [List.range_succ, List.map_append]; rfl
theorem W1P (l : List Tr) (a k : Nat) : (shK l a k).length = k := by unfold shK; simp
theorem W1O (l : List Tr) (a : Nat) : shK l a l.length = l.map (shT a) := by
 unfold shK
 apply List.ext_getElem
 ·simp
 ·intro i h1 h2
  have hi : i < l.length := by simpa using h1
  simp [gt, List.getD, hi]
theorem w1U (l : List Tr) (a : Nat) (ha : a < 3) (hn : l.length ≤ 1000) : CtrA Tryz.prog 42 [ts l, vi a] (pts (l.map (shT a))) := by
 refine j0p _ Tryz.func42 rfl rfl Tryz.ntmps42 rfl fun w Z => ?_
 refine xU ?_
 refine wt ?_
 refine j0f (γ := Nat) (fun k => [(0, .av (ts l)), (1, .av (vi a)), (5, .osl 70), (9, .av (ts l)), (10, .av (vi l.length)), (11, .av (vi k))]) (fun k => [(70, .row 82 2 (shK l a k).length (pf (shK l a k)))]) (fun k => k ≤ l.length) (fun k => l.length - k) 0 (Nat.zero_le _) (Ent.trans (w0x (dd := 5) 70 82 2 (pf []) rfl rfl) (ent xS xT)) ?_
 intro k hk
 refine wt ?_
 (refine j0a rfl ?_ ?_ <;> intro hb <;> (try simp only [xA, xB, xG, xC, xD, xN] at hb) <;> (try exact xQ))
 ·have hkl : k < l.length := by omega
  have e1 := z1x l a k
  have hYl := W1P l a k
  generalize shK l a k = Y at e1 hYl ⊢
  have hml : Y.length + 1 ≤ maxLen := by simp only [maxLen]; omega
  rcases (by omega : a = 0 ∨ a = 1 ∨ a = 2) with rfl | rfl | rfl
  ·refine wt ?_
   repeat' (first
     |(refine v0x (q0c (is := [0]) (xs := [_]) (vs := [_]) (us := [_, _]) (X1X _ _) rfl rfl rfl (k0V (shT 0 (gt l k)))) rfl ?_; refine wt ?_))
   refine W0d tm (by kernel_rfl) ?_
   refine wt ?_
   exact j0c (k + 1) (by omega) (by omega) (ent xS ⟨⟨_, rfl, by rw [e1]; exact .refl _⟩, trivial⟩)
  ·refine wt ?_
   repeat' (first
     |(refine v0x (q0c (is := [0]) (xs := [_]) (vs := [_]) (us := [_, _]) (X1X _ _) rfl rfl rfl (k0V (shT 1 (gt l k)))) rfl ?_; refine wt ?_))
   refine W0d tm (by kernel_rfl) ?_
   refine wt ?_
   exact j0c (k + 1) (by omega) (by omega) (ent xS ⟨⟨_, rfl, by rw [e1]; exact .refl _⟩, trivial⟩)
  ·refine wt ?_
   repeat' (first
     |(refine v0x (q0c (is := [0]) (xs := [_]) (vs := [_]) (us := [_, _]) (X1X _ _) rfl rfl rfl (k0V (shT 2 (gt l k)))) rfl ?_; refine wt ?_))
   refine W0d tm (by kernel_rfl) ?_
   refine wt ?_
   exact j0c (k + 1) (by omega) (by omega) (ent xS ⟨⟨_, rfl, by rw [e1]; exact .refl _⟩, trivial⟩)
 ·have hkl : k = l.length := by omega
  subst hkl
  rw [W1O]
  refine wt ?_
  exact z0W (j0X 70 rfl) (j0e rfl (.tmp rfl) rfl)
def up3 (p : Pt) (h : Int) : Tr := ⟨p.x, p.y, h⟩
def prK (l : List Pt) (h : Int) (k : Nat) : List Tr := (List.range k).flatMap fun i => [p3 (gp l i), up3 (gp l i) h]
theorem k0X (l : List Pt) (h : Int) (k : Nat) : prK l h (k + 1) = prK l h k ++ [p3 (gp l k), up3 (gp l k) h] := by
 unfold prK
 rw [List.range_succ, List.flatMap_append]; simp
theorem w1s (l : List Pt) (h : Int) : ∀ k, (prK l h k).length = 2 * k
 |0 => rfl
 |k + 1 => by rw [k0X, List.length_append, w1s l h k]; simp; omega
theorem W1w (l : List Pt) (h : Int) : prK l h l.length = j0Y l h := by
 have e : (List.range l.length).map (gp l) = l := by
  apply List.ext_getElem
  ·simp
  ·intro i h1 h2
   simp [gp, List.getD, h2]
 unfold prK j0Y
 conv => rhs; rw [← e, List.flatMap_map]
 rfl
theorem X1r (p q : Tr) : ∀ i, i < 2 → ∀ j, j < 3 → ∃ u, [Value.int .i64 p.x, .int .i64 p.y, .int .i64 p.z, .int .i64 q.x, .int .i64 q.y, .int .i64 q.z][i * 3 + j]? = some u ∧ tf [p, q] i j = .val u := by
 intro i hi j hj
 rcases (by omega : i = 0 ∨ i = 1) with rfl | rfl <;> rcases (by omega : j = 0 ∨ j = 1 ∨ j = 2) with rfl | rfl | rfl <;> exact ⟨_, rfl, rfl⟩
theorem X1q (l m : List Tr) : ∀ i, i < l.length + m.length → ∀ j, j < 3 → v0J l.length (tf l) (tf m) i j = tf (l ++ m) i j := by
 intro i hi j hj
 unfold v0J tf
 rw [J1y]
 split <;> rfl
theorem k1R (a b c d e f : Int) (w : World) : (Instr.buildSlice 34 2 #[(0, .agg #[.int .i64 a, .int .i64 b, .int .i64 c]), (1, .agg #[.int .i64 d, .int .i64 e, .int .i64 f])]).run Tryz.prog w = .ok (.slice (some ⟨w.heap.size, 0, none⟩) 2 2) (w.alloc (.cells #[.int .i64 a, .int .i64 b, .int .i64 c, .int .i64 d, .int .i64 e, .int .i64 f] 53)) := by kernel_rfl
theorem k1F (a b : Int) : Tryz.prog.built 53 [(0, .int .i64 a), (1, .int .i64 b)] = some #[.int .i64 a, .int .i64 b, .int .i64 0] := by kernel_rfl
theorem z1r (l : List Pt) (h : Int) (hn : l.length ≤ 1000) : CtrA Tryz.prog 44 [pts l, vi h] (ts (j0Y l h)) := by
 refine j0p _ Tryz.func44 rfl rfl Tryz.ntmps44 rfl fun w Z => ?_
 refine xU ?_
 refine wt ?_
 refine j0f (γ := Nat) (fun k => [(0, .av (pts l)), (1, .av (vi h)), (5, .osl 70), (8, .av (pts l)), (9, .av (vi l.length)), (10, .av (vi k))]) (fun k => [(70, .row 53 3 (prK l h k).length (tf (prK l h k)))]) (fun k => k ≤ l.length) (fun k => l.length - k) 0 (Nat.zero_le _) (Ent.trans (w0x (dd := 5) 70 53 3 (tf []) rfl rfl) (ent xS xT)) ?_
 intro k hk
 refine wt ?_
 (refine j0a rfl ?_ ?_ <;> intro hb <;> (try simp only [xA, xB, xG, xC, xD, xN] at hb) <;> (try exact xQ))
 ·have hkl : k < l.length := by omega
  have e1 := k0X l h k
  have hYl := w1s l h k
  generalize prK l h k = Y at e1 hYl ⊢
  have hml : Y.length + 2 ≤ maxLen := by simp only [maxLen]; omega
  refine wt ?_
  repeat' (first
    |(refine j0n (j0j (t := 53) (is := [0, 1]) (xs := [_, _]) (vs := [_, _]) (k1F _ _) rfl rfl) rfl ?_; refine wt ?_)
    |(refine j0n (q0c (is := [0, 1]) (xs := [_, _]) (vs := [_, _]) (us := [_, _, _, _, _, _]) (k1R _ _ _ _ _ _) rfl rfl rfl (X1r (p3 (gp l k)) (up3 (gp l k) h))) rfl ?_; refine wt ?_)
    |(refine j0u (v0i (h := tf [p3 (gp l k), up3 (gp l k) h]) (m := 2) rfl rfl rfl (fun i _ j _ => K0v _ i j) xO hml xO) rfl ?_; refine wt ?_))
  exact j0c (k + 1) (by omega) (by omega) (ent xS ⟨⟨_, rfl, .row (by rw [e1]; simp) (fun i hi j hj => by rw [e1]; exact X1q _ _ i (by simpa using hi) j hj)⟩, trivial⟩)
 ·have hkl : k = l.length := by omega
  subst hkl
  rw [W1w]
  refine wt ?_
  exact z0W (j0X 70 rfl) (j0e rfl (.tmp rfl) rfl)
structure PrO (l : List Pt) (h : Int) : Prop where
 len : l.length ≤ 3
 two : ∃ i j, i < l.length ∧ j < l.length ∧ gp l i ≠ gp l j
 bd : ∀ p ∈ l, (-1000 ≤ p.x ∧ p.x ≤ 1000) ∧ (-1000 ≤ p.y ∧ p.y ≤ 1000)
 h0 : 0 < h
 h1 : h ≤ 1000
def prQ (l : List Pt) (h : Int) : Rat := if Ws l < ((h * h : Int) : Rat) then Ws l else ((h * h : Int) : Rat)
theorem PrO.ok {l : List Pt} {h : Int} (o : PrO l h) : few (j0Y l h) ∧ w0i (j0Y l h) = 0 ∧ z0p (j0Y l h) ∧ X0E (j0Y l h) = 0 ∧ Wq (j0Y l h) (lm (j0Y l h)) = prQ l h := by
 obtain ⟨i, j, hi, hj, hne⟩ := o.two
 have h1 := w1u o.len o.bd ⟨Int.le_of_lt o.h0, o.h1⟩
 have h2 := j1r hi hj hne o.h0
 have := o.len
 exact ⟨.inl (by rw [X0Z]; omega), h1, h2, v1g h1 h2, y1g hi hj hne o.h0 (X0Q h2)⟩
theorem y1R (l : List Pt) (h : Int) (o : PrO l h) : CtrA Tryz.prog 18 [ts (j0Y l h)] (j0x [vS (rtx (prQ l h)), zA (lm (j0Y l h)) (loD (j0Y l h) (lm (j0Y l h))) (hiD (j0Y l h) (lm (j0Y l h))), vi 0]) := by
 obtain ⟨h1, _, _, h4, h5⟩ := o.ok
 have h := j2F (j0Y l h) h1 h4
 rw [h5] at h
 exact h
def TW : List Pt := [⟨0, 0⟩, ⟨3, 0⟩, ⟨0, 4⟩]
theorem j2s : Ws TW = Rat.divInt 144 25 := by decide +kernel
theorem j2V : z0M TW = 0 := by decide
theorem q2B : PrO TW 9 := ⟨by decide, ⟨0, 1, by decide, by decide, by decide⟩, by decide, by decide, by decide⟩
theorem j2W : rtx (Rat.divInt 144 25) = [49, 52, 52, 47, 50, 53] := by
 unfold rtx
 rw [if_neg (by decide +kernel)]
 have e1 : (Rat.divInt 144 25).num = 144 := by decide +kernel
 have e2 : (Rat.divInt 144 25).den = 25 := by decide +kernel
 rw [e1, e2, Na.itoa_pos (by decide)]
 show Lib.decDigits 144 ++ 47 :: Lib.decDigits 25 = _
 have d1 : Lib.decDigits 144 = [49, 52, 52] := V0c 3 [49, 52, 52] rfl ⟨by decide, by decide, fun r h => by cases h⟩
 have d2 : Lib.decDigits 25 = [50, 53] := V0c 2 [50, 53] rfl ⟨by decide, by decide, fun r h => by cases h⟩
 rw [d1, d2]; rfl
theorem k1J (a : Int) : Tryz.prog.built 82 [(0, .int .i64 a)] = some #[.int .i64 a, .int .i64 0] := by kernel_rfl
theorem k1K (a : Int) : Tryz.prog.built 82 [(1, .int .i64 a)] = some #[.int .i64 0, .int .i64 a] := by kernel_rfl
theorem k1S (a b c d e f : Int) (w : World) : (Instr.buildSlice 76 3 #[(0, .agg #[.int .i64 a, .int .i64 b]), (1, .agg #[.int .i64 c, .int .i64 d]), (2, .agg #[.int .i64 e, .int .i64 f])]).run Tryz.prog w = .ok (.slice (some ⟨w.heap.size, 0, none⟩) 3 3) (w.alloc (.cells #[.int .i64 a, .int .i64 b, .int .i64 c, .int .i64 d, .int .i64 e, .int .i64 f] 82)) := by kernel_rfl
theorem W1s (p q r : Pt) : ∀ i, i < 3 → ∀ j, j < 2 → ∃ u, [Value.int .i64 p.x, .int .i64 p.y, .int .i64 q.x, .int .i64 q.y, .int .i64 r.x, .int .i64 r.y][i * 2 + j]? = some u ∧ pf [p, q, r] i j = .val u := by
 intro i hi j hj
 rcases (by omega : i = 0 ∨ i = 1 ∨ i = 2) with rfl | rfl | rfl <;> rcases (by omega : j = 0 ∨ j = 1) with rfl | rfl <;> exact ⟨_, rfl, rfl⟩
theorem Z0F : CtrA Tryz.prog 39 [] (vb true) := by
 have h1 := K0a TW
 have h2 := z1r TW 9 xE
 have h3 := y1R TW 9 q2B
 have e : prQ TW 9 = Ws TW := by unfold prQ; rw [if_pos (by rw [j2s]; decide +kernel)]
 rw [e, j2s, j2W] at h3
 have e1 : zW TW = [49, 52, 52, 47, 50, 53] := by unfold zW; rw [if_pos j2V, j2s, j2W]
 rw [e1, j2V] at h1
 refine j0p _ Tryz.func39 rfl rfl Tryz.ntmps39 rfl fun w Z => ?_
 refine xU ?_
 refine wt ?_
 repeat' (first
   |(refine j0n (j0j (t := 82) (is := [0]) (xs := [_]) (vs := [.int .i64 3]) (k1J 3) rfl rfl) rfl ?_; refine wt ?_)
   |(refine j0n (j0j (t := 82) (is := [1]) (xs := [_]) (vs := [.int .i64 4]) (k1K 4) rfl rfl) rfl ?_; refine wt ?_)
   |(refine j0n (q0c (is := [0, 1, 2]) (xs := [_, _, _]) (vs := [_, _, _]) (us := [_, _, _, _, _, _]) (k1S 0 0 3 0 0 4) rfl rfl rfl (W1s ⟨0, 0⟩ ⟨3, 0⟩ ⟨0, 4⟩)) rfl ?_; refine wt ?_))
 exact xV
end Go.Proofs.YtgblokifbgeegaaGreatDoor.H.S
section
end
namespace Go.Proofs.YtgblokifbgeegaaGreatDoor.H.S
open Go Go.Vc Go.RowKit Go.Na Go.Lib H.G
set_option maxHeartbeats 8000000
theorem j2c {l : List Tr} (h : w0i l = 0) (a : Nat) : chk (l.map (shT a)) = 0 := by
 have hl := (RT.of h).1
 have hn := (RT.of h).2
 unfold chk
 rw [if_neg (by simp; omega), if_pos]
 rw [List.all_eq_true]
 intro p hp
 obtain ⟨t, ht, rfl⟩ := List.mem_map.1 hp
 obtain ⟨i, hi, rfl⟩ := y1X ht
 obtain ⟨⟨x1, x2⟩, ⟨y1, y2⟩, ⟨z1, z2⟩⟩ := hl i
 unfold x0v inB shT
 simp only [Bool.and_eq_true]
 split
 ·exact ⟨⟨decide_eq_true y1, decide_eq_true y2⟩, decide_eq_true z1, decide_eq_true z2⟩
 ·split
  ·exact ⟨⟨decide_eq_true z1, decide_eq_true z2⟩, decide_eq_true x1, decide_eq_true x2⟩
  ·exact ⟨⟨decide_eq_true x1, decide_eq_true x2⟩, decide_eq_true y1, decide_eq_true y2⟩
def x1Y (m : Int) (k : Nat) : Bool := IntKind.u8.wrap ((BitVec.ofInt IntKind.u8.bits (m.fdiv (2 ^ (min k IntKind.u8.bits))) &&& BitVec.ofInt IntKind.u8.bits 1).toNat : Int) == 1
def j1Q (l : List Tr) (f : Nat → Bool) (k : Nat) : List Tr := ((List.range k).filter f).map (gt l)
theorem x1o (l : List Tr) (f : Nat → Bool) (k : Nat) : j1Q l f (k + 1) = if f k = true then j1Q l f k ++ [gt l k] else j1Q l f k := by
 unfold j1Q
 rw [List.range_succ, List.filter_append, List.map_append]
 by_cases h : f k = true
 ·rw [if_pos h]; simp [h]
 ·rw [if_neg h]; simp [h]
theorem K0r (l : List Tr) (f : Nat → Bool) (k : Nat) : (j1Q l f k).length ≤ k := by
 have := List.length_filter_le f (List.range k)
 unfold j1Q; simpa using this
theorem z1F {l : List Tr} {f : Nat → Bool} {k : Nat} (hk : k ≤ l.length) : ∀ p ∈ j1Q l f k, p ∈ l := fun p hp => by
 unfold j1Q at hp
 obtain ⟨i, hi, rfl⟩ := List.mem_map.1 hp
 have := List.mem_range.1 (List.mem_filter.1 hi).1
 unfold gt
 simp [List.getD, show i < l.length by omega]
theorem X1d {l k : List Tr} (h : w0i l = 0) (hk : k.length ≤ 64) (hm : ∀ p ∈ k, p ∈ l) : w0i k = 0 := by
 unfold w0i at h ⊢
 have h64 : ¬ 64 < l.length := fun q => by rw [if_pos q] at h; omega
 rw [if_neg h64] at h
 have h2 : l.all v0I = true := by
  by_cases h' : l.all v0I = true
  ·exact h'
  ·rw [if_neg h'] at h; omega
 rw [if_neg (by omega), if_pos]
 rw [List.all_eq_true] at h2 ⊢
 exact fun p hp => h2 p (hm p hp)
theorem topshadow_c (l : List Tr) (m : Int) (hm : 0 ≤ m ∧ m ≤ 255) : CtrA Tryz.prog 11 [ts l, .val (.int .u8 m)] (vb true) := by
 have h0 := Z0F
 by_cases h6 : l.length ≤ 6
 ·have hc := w1M l xO
  by_cases hc0 : w0i l = 0
  ·rw [hc0] at hc
   have hl := (RT.of hc0).1
   have hr := w1L l hl xO
   by_cases hw : 2 ≤ rkI l
   ·have hW := (w1J l).1 hw
    have hl0 : 0 < l.length := by obtain ⟨a, _, _, ha, _⟩ := hW; omega
    have hE := v1g hc0 hW
    have h1 := j2F l (.inl xO) hE
    have L1 := j1V hl hl0 (Z1D hl hW)
    have h2 := y0p (rtx (Wq l (lm l))) (by have := Q0G L1 xE; omega)
    rw [V0W] at h2
    refine j0p _ Tryz.func11 rfl rfl Tryz.ntmps11 rfl fun w Z => ?_
    refine xU ?_
    refine wt ?_
    repeat' (first
      |(refine j0l rfl rfl (fun hb => ?_) (fun hb => ?_) <;> (try simp only [xA, xB, xG, xC, xD, xN] at hb) <;> (try exact xQ) <;> refine wt ?_))
    (refine j0a rfl ?_ ?_ <;> intro hb <;> (try simp only [xA, xB, xG, xC, xD, xN] at hb) <;> (try exact xQ))
    refine wt ?_
    generalize hWq : Wq l (lm l) = W at h1 h2 L1
    refine j0f (γ := Nat) (fun k => [(0, .av (ts l)), (1, .av (.val (.int .u8 m))), (5, .av (vS (rtx W))), (45, .av (vi k))]) (fun _ => []) (fun k => k ≤ 3) (fun k => 3 - k) 0 (Nat.zero_le _) (ent xS trivial) ?_
    intro k hk
    refine wt ?_
    (refine j0a rfl ?_ ?_ <;> intro hb <;> (try simp only [xA, xB, xG, xC, xD, xN] at hb) <;> (try exact xQ))
    ·have hk3 : k < 3 := by omega
     have hs := w1U l k hk3 xO
     have hp := K0a (l.map (shT k))
     have hee : z0M (l.map (shT k)) = 0 := by unfold z0M; rw [j2c hc0, if_neg (by decide), if_neg (by rw [List.length_map]; omega)]
     have z1 : zW (l.map (shT k)) = rtx (Ws (l.map (shT k))) := by unfold zW; rw [if_pos hee]
     rw [z1, hee] at hp
     have hle := j1X hW hl0 k (X0Q hW)
     rw [hWq] at hle
     have L2 := K1B (l.map (shT k)) (j2b hl k)
     have h4 := y0p (rtx (Ws (l.map (shT k)))) (by have := Q0G L2 xE; omega)
     rw [V0W] at h4
     have h5 := V0D W (Ws (l.map (shT k))) (L1.mono xE) (L2.mono xE)
     have e5 : decide (0 < rsg (W - Ws (l.map (shT k)))) = false := by
      have := Q1d W (Ws (l.map (shT k)))
      rw [decide_eq_true hle, decide_eq_true_eq] at this
      rw [decide_eq_false_iff_not]; omega
     generalize l.map (shT k) = S at hs hp h4 h5 e5
     refine wt ?_
     rw [e5]
     refine wt ?_
     exact j0c (k + 1) xO xO (ent xS trivial)
    ·obtain rfl : k = 3 := by omega
     refine wt ?_
     refine j0f (γ := Nat) (fun k => [(0, .av (ts l)), (1, .av (.val (.int .u8 m))), (5, .av (vS (rtx W))), (13, .osl 70), (71, .av (ts l)), (72, .av (vi l.length)), (73, .av (vi k))]) (fun k => [(70, .row 53 3 (j1Q l (x1Y m) k).length (tf (j1Q l (x1Y m) k)))]) (fun k => k ≤ l.length) (fun k => l.length - k) 0 (Nat.zero_le _) (Ent.trans (w0x (dd := 13) 70 53 3 (tf []) rfl rfl) (ent xS xT)) ?_
     intro k hk
     refine wt ?_
     (refine j0a rfl ?_ ?_ <;> intro hb <;> (try simp only [xA, xB, xG, xC, xD, xN] at hb) <;> (try exact xQ))
     ·have hkl : k < l.length := by omega
      have e1 := x1o l (x1Y m) k
      have hYl := K0r l (x1Y m) k
      have hbit : x1Y m k = (IntKind.u8.wrap ((BitVec.ofInt IntKind.u8.bits (m.fdiv (2 ^ (min k IntKind.u8.bits))) &&& BitVec.ofInt IntKind.u8.bits 1).toNat : Int) == 1) := rfl
      generalize j1Q l (x1Y m) k = Y at e1 hYl ⊢
      have hml : Y.length + 1 ≤ maxLen := by simp only [maxLen]; omega
      refine wt ?_
      repeat' (first
        |(refine j0n (K1N (k' := .i64) (n := k) rfl rfl) rfl ?_; refine wt ?_)
        |(refine j0n (K1M rfl rfl) rfl ?_; refine wt ?_))
      rw [← hbit]
      cases hb2 : x1Y m k with
      |true =>
       rw [if_pos hb2] at e1
       refine wt ?_
       repeat' (first
         |(refine j0n (q0c (is := [0]) (xs := [_]) (vs := [_]) (us := [_, _, _]) (q2A _ _ _) rfl rfl rfl (x1C (gt l k))) rfl ?_; refine wt ?_)
         |(refine j0u (v0i (h := tf [gt l k]) (m := 1) rfl rfl rfl (fun i _ j _ => K0v _ i j) xO hml xO) rfl ?_; refine wt ?_))
       exact j0c (k + 1) (by omega) (by omega) (ent xS ⟨⟨_, rfl, .row (by rw [e1]; simp) (fun i hi j hj => by rw [e1]; exact x1B _ _ i hi j hj)⟩, trivial⟩)
      |false =>
       rw [if_neg (by rw [hb2]; decide)] at e1
       refine wt ?_
       exact j0c (k + 1) (by omega) (by omega) (ent xS ⟨⟨_, rfl, by rw [e1]; exact .refl _⟩, trivial⟩)
     ·obtain rfl : k = l.length := by omega
      have ym := z1F (l := l) (f := x1Y m) (k := l.length) (Nat.le_refl _)
      have yl := K0r l (x1Y m) l.length
      generalize j1Q l (x1Y m) l.length = Y at ym yl ⊢
      have yc := X1d hc0 xO ym
      have yR := (RT.of yc).1
      have g1 := K0I Y (.inl xO)
      by_cases eY : X0E Y = 0
      ·have yW := (k0o eY).2
       have y0 : 0 < Y.length := by obtain ⟨a, _, _, ha, _⟩ := yW; omega
       have g2 := j2F Y (.inl xO) eY
       have L3 := j1V yR y0 (Z1D yR yW)
       have g3 := y0p (rtx (Wq Y (lm Y))) (by have := Q0G L3 xE; omega)
       rw [V0W] at g3
       have hle := Y1e y0 ym (X0Q yW) (X0Q hW)
       rw [hWq] at hle
       have g4 := V0D (Wq Y (lm Y)) W (L3.mono xE) (L1.mono xE)
       have e4 : decide (rsg (Wq Y (lm Y) - W) ≤ 0) = true := by rw [Q1d]; exact decide_eq_true hle
       clear g1
       refine wt ?_
       refine v0e (j0X 70 rfl) ?_
       refine wt ?_
       rw [e4]
       refine wt ?_
       exact xV
      ·have hrk := w1L Y yR xO
       have e5 : rkI Y < 2 := by
        refine Classical.byContradiction fun q => eY (v1g yc ((w1J Y).1 xO))
       generalize wtx Y = t1 at g1
       generalize dW Y = t2 at g1
       generalize aW Y = t3 at g1
       generalize bW Y = t4 at g1
       refine wt ?_
       refine v0e (j0X 70 rfl) ?_
       refine wt ?_
       (refine j0a rfl ?_ ?_ <;> intro hb <;> (try simp only [xA, xB, xG, xC, xD, xN] at hb) <;> (try exact xQ))
       refine wt ?_
       repeat' (first
         |(refine j0l rfl rfl (fun hb => ?_) (fun hb => ?_) <;> (try simp only [xA, xB, xG, xC, xD, xN] at hb) <;> (try exact xQ) <;> refine wt ?_))
       exact xV
   ·refine j0p _ Tryz.func11 rfl rfl Tryz.ntmps11 rfl fun w Z => ?_
    refine xU ?_
    refine wt ?_
    repeat' (first
      |(refine j0l rfl rfl (fun hb => ?_) (fun hb => ?_) <;> (try simp only [xA, xB, xG, xC, xD, xN] at hb) <;> (try exact xQ) <;> refine wt ?_))
    (refine j0a rfl ?_ ?_ <;> intro hb <;> (try simp only [xA, xB, xG, xC, xD, xN] at hb) <;> (try exact xQ))
    refine wt ?_
    exact xV
  ·refine j0p _ Tryz.func11 rfl rfl Tryz.ntmps11 rfl fun w Z => ?_
   refine xU ?_
   refine wt ?_
   repeat' (first
     |(refine j0l rfl rfl (fun hb => ?_) (fun hb => ?_) <;> (try simp only [xA, xB, xG, xC, xD, xN] at hb) <;> (try exact xQ) <;> refine wt ?_))
   ·exact xV
 ·refine j0p _ Tryz.func11 rfl rfl Tryz.ntmps11 rfl fun w Z => ?_
  refine xU ?_
  refine wt ?_
  repeat' (first
    |(refine j0l rfl rfl (fun hb => ?_) (fun hb => ?_) <;> (try simp only [xA, xB, xG, xC, xD, xN] at hb) <;> (try exact xQ) <;> refine wt ?_))
  ·exact xV
end Go.Proofs.YtgblokifbgeegaaGreatDoor.H.S
section
end
