/- A part of the proof. -/
import Derived.Test.YtgblokifbgeegaaGreatDoorEat
import Derived.Test.YtgblokifbgeegaaGreatDoorEau
import Derived.Test.YtgblokifbgeegaaGreatDoorEax
set_option linter.unusedVariables false
set_option linter.unusedSimpArgs false
namespace Go.Proofs.YtgblokifbgeegaaGreatDoor.H.S
open Go Go.Vc
theorem x1J {l : List Tr} {d e : Tr} (hd : d ≠ tz) (he : e ≠ tz) (hed : j0b e d = 0) (hpr : ∀ a b, Pr l d a b → j0b e (dv l a b) = 0) {p h : Nat} (Lp : Lo l d p) (Hh : Hi l d h) (hle : j0b e (dv l p h) ≤ 0) (hw : 0 < wdt l d) (hoff : ∃ i, i < l.length ∧ j0b e (dv l p i) ≠ 0) :
  ∃ M N : Int, 0 < M ∧ 0 < N ∧ lc M N d e ≠ tz ∧ wLT l (lc M N d e) d ∧ Lo l (lc M N d e) p ∧ Hi l (lc M N d e) h ∧ ((∃ y, Lo l (lc M N d e) y ∧ ¬ Lo l d y) ∨ (∃ y, Hi l (lc M N d e) y ∧ ¬ Hi l d y)) := by
 obtain ⟨hp, ep⟩ := Lp
 obtain ⟨hh, eh⟩ := Hh
 let f : Nat → Int := fun x => if x < l.length then j0b d (dv l p x) else j0b d (dv l (x - l.length) h)
 let g : Nat → Int := fun x => if x < l.length then j0b e (dv l p x) else j0b e (dv l (x - l.length) h)
 have f1 : ∀ i, i < l.length → f i = j0b d (gt l i) - loD l d := fun i hi => by show (if i < l.length then _ else _) = _; rw [if_pos hi, j0m, ep]
 have f2 : ∀ i, i < l.length → f (l.length + i) = hiD l d - j0b d (gt l i) := fun i hi => by show (if l.length + i < l.length then _ else _) = _; rw [if_neg (by omega), Nat.add_sub_cancel_left, j0m, eh]
 have g1 : ∀ i, i < l.length → g i = j0b e (dv l p i) := fun i hi => if_pos hi
 have g2 : ∀ i, i < l.length → g (l.length + i) = j0b e (dv l i h) := fun i hi => by show (if l.length + i < l.length then _ else _) = _; rw [if_neg (by omega), Nat.add_sub_cancel_left]
 have split : ∀ {Q : Nat → Prop}, (∀ i, i < l.length → Q i) → (∀ i, i < l.length → Q (l.length + i)) → ∀ x, x < 2 * l.length → Q x := fun {Q} a b x hx => by
  by_cases hx1 : x < l.length
  ·exact a x hx1
  ·have := b (x - l.length) xO
   rwa [show l.length + (x - l.length) = x by omega] at this
 have hf : ∀ x, x < 2 * l.length → 0 ≤ f x := split (fun i hi => by rw [f1 i hi]; have := w0e d hi; omega) (fun i hi => by rw [f2 i hi]; have := v0H d hi; omega)
 have hex : ∃ x, x < 2 * l.length ∧ g x < 0 := by
  refine Classical.byContradiction fun hall => ?_
  have a1 : ∀ x, x < 2 * l.length → 0 ≤ g x := fun x hx => by
   by_cases hg : g x < 0
   ·exact absurd ⟨x, hx, hg⟩ hall
   ·omega
  have ph : j0b e (dv l p h) = 0 := by have := a1 h (by omega); rw [g1 h hh] at this; omega
  obtain ⟨i, hi, hn⟩ := hoff
  have b1 := a1 i xO
  have b2 := a1 (l.length + i) xO
  rw [g1 i hi] at b1
  rw [g2 i hi] at b2
  rw [j0m] at *
  omega
 obtain ⟨x, hx, hgx, hall⟩ := W0x f g (2 * l.length) hf hex
 have hfx : 0 < f x := by
  have h1 := hf x hx
  rcases (by omega : f x = 0 ∨ 0 < f x) with h2 | h2
  ·exfalso
   revert h2 hgx
   refine split (Q := fun x => g x < 0 → f x = 0 → False) (fun i hi => ?_) (fun i hi => ?_) x hx
   ·rw [f1 i hi, g1 i hi]
    intro q1 q2
    have := hpr p i (.inl ⟨⟨hp, ep⟩, hi, by omega⟩)
    omega
   ·rw [f2 i hi, g2 i hi]
    intro q1 q2
    have := hpr i h (.inr ⟨⟨hi, by omega⟩, hh, eh⟩)
    omega
  ·exact h2
 have hM : 0 < -(g x) := by omega
 have hxN : f x = f x := rfl
 generalize hMe : -(g x) = M at *
 generalize hNe : f x = N at *
 have dd : ∀ z, j0b (lc M N d e) z = M * j0b d z + N * j0b e z := fun z => X0N _ _ _ _ _
 have lowp : ∀ i, i < l.length → 0 ≤ j0b (lc M N d e) (dv l p i) := fun i hi => by
  have := hall i xO
  rw [f1 i hi, g1 i hi] at this
  rw [dd, j0m d, ep]
  exact this
 have highp : ∀ i, i < l.length → 0 ≤ j0b (lc M N d e) (dv l i h) := fun i hi => by
  have := hall (l.length + i) xO
  rw [f2 i hi, g2 i hi] at this
  rw [dd, j0m d, eh]
  exact this
 have elo : loD l (lc M N d e) = j0b (lc M N d e) (gt l p) := Q0q hp fun i hi => by have := lowp i hi; rw [j0m] at this; omega
 have ehi : hiD l (lc M N d e) = j0b (lc M N d e) (gt l h) := Q0i hh fun i hi => by have := highp i hi; rw [j0m] at this; omega
 have hwe : wdt l (lc M N d e) = M * wdt l d + N * j0b e (dv l p h) := by
  unfold wdt
  rw [elo, ehi, ← j0m, dd, j0m d, ep, eh]
 have hNe2 : N * j0b e (dv l p h) ≤ 0 := Int.mul_nonpos_of_nonneg_of_nonpos (Int.le_of_lt hfx) hle
 have hw0 : 0 ≤ wdt l (lc M N d e) := by
  unfold wdt
  rw [elo, ehi, ← j0m]
  exact lowp h hh
 have hnn : j0b (lc M N d e) (lc M N d e) = M * M * j0b d d + N * N * j0b e e := by
  have c : j0b d e = 0 := by rw [q0i]; exact hed
  rw [dd, k0e, k0e, c, hed]; grind
 have pd := q0j hd
 have pe := q0j he
 have hgt : M * M * j0b d d < j0b (lc M N d e) (lc M N d e) := by
  rw [hnn]
  have := Int.mul_pos (Int.mul_pos hfx hfx) pe
  omega
 refine ⟨M, N, hM, hfx, fun hz => ?_, ?_, ⟨hp, elo.symm⟩, ⟨hh, ehi.symm⟩, ?_⟩
 ·rw [hz] at hgt
  have h1 := Int.mul_pos (Int.mul_pos hM hM) pd
  have h2 : j0b tz tz = 0 := by simp [j0b, tz]
  omega
 ·unfold wLT
  have w1 : wdt l (lc M N d e) ≤ M * wdt l d := by omega
  have w2 : wdt l (lc M N d e) * wdt l (lc M N d e) ≤ (M * wdt l d) * (M * wdt l d) := Int.mul_le_mul w1 w1 hw0 (Int.le_of_lt (Int.mul_pos hM hw))
  have w3 : wdt l (lc M N d e) * wdt l (lc M N d e) * j0b d d ≤ (M * wdt l d) * (M * wdt l d) * j0b d d := Int.mul_le_mul_of_nonneg_right w2 (Int.le_of_lt pd)
  have w4 : (M * wdt l d) * (M * wdt l d) * j0b d d = wdt l d * wdt l d * (M * M * j0b d d) := by grind
  have w5 : wdt l d * wdt l d * (M * M * j0b d d) < wdt l d * wdt l d * j0b (lc M N d e) (lc M N d e) := Int.mul_lt_mul_of_pos_left hgt (Int.mul_pos hw hw)
  omega
 ·have hxM : -(g x) = M := hMe
  have hxN : f x = N := hNe
  revert hxN hxM
  refine split (Q := fun x => -(g x) = M → f x = N → _) (fun i hi => ?_) (fun i hi => ?_) x hx
  ·rw [f1 i hi, g1 i hi]
   intro q2 q1
   refine .inl ⟨i, ⟨hi, ?_⟩, fun hl => ?_⟩
   ·have h3 : j0b (lc M N d e) (dv l p i) = 0 := by
     rw [dd, j0m d, ep, q1, ← q2]; grind
    rw [j0m] at h3
    rw [elo]; omega
   ·have := hl.2; omega
  ·rw [f2 i hi, g2 i hi]
   intro q2 q1
   refine .inr ⟨i, ⟨hi, ?_⟩, fun hl => ?_⟩
   ·have h3 : j0b (lc M N d e) (dv l i h) = 0 := by
     rw [dd, j0m d, eh, q1, ← q2]; grind
    rw [j0m] at h3
    rw [ehi]; omega
   ·have := hl.2; omega
def p3 (p : Pt) : Tr := ⟨p.x, p.y, 0⟩
def flat3 (l : List Pt) : List Tr := l.map p3
theorem q0x {l : List Pt} {i : Nat} (h : i < l.length) : gt (flat3 l) i = p3 (gp l i) := by unfold gt flat3 gp; simp [List.getD, h]
def j1T (l : List Tr) (d : Tr) : Prop := ∃ a b, Pr l d a b ∧ gt l a ≠ gt l b
theorem V0z {l : List Tr} (hz : ∀ i, i < l.length → (gt l i).z = 0) (h0 : 0 < l.length) {d : Tr} (hd : d ≠ tz) (dz : d.z = 0) (hw : ∀ d : Tr, d ≠ tz → d.z = 0 → 0 < wdt l d) : ∃ d' : Tr, d' ≠ tz ∧ d'.z = 0 ∧ j1T l d' ∧ wLE l d' d := by
 by_cases h2 : j1T l d
 ·exact ⟨d, hd, dz, h2, Int.le_refl _⟩
 obtain ⟨p, hp, ep⟩ := w0L d h0
 obtain ⟨h, hh, eh⟩ := x0q d h0
 have hpr : ∀ (e : Tr) (a b : Nat), Pr l d a b → j0b e (dv l a b) = 0 := fun e a b hab => by
  have : gt l a = gt l b := Classical.byContradiction fun q => h2 ⟨a, b, hab, q⟩
  unfold dv; rw [this]; simp [j0E, j0b]
 have key : ∀ e : Tr, e ≠ tz → e.z = 0 → j0b e d = 0 → j0b e (dv l p h) ≤ 0 → ∃ d' : Tr, d' ≠ tz ∧ d'.z = 0 ∧ j1T l d' ∧ wLE l d' d := by
  intro e he ez hed hle
  have hoff : ∃ i, i < l.length ∧ j0b e (dv l p i) ≠ 0 := by
   refine Classical.byContradiction fun hno => ?_
   have h1 := hw e he ez
   have h3 := X0h (l := l) (n := e) (M := j0b e (gt l p)) h0 fun i hi => by
    have : j0b e (dv l p i) = 0 := Classical.byContradiction fun q => hno ⟨i, hi, q⟩
    rw [j0m] at this; omega
   omega
  obtain ⟨M, N, hM, hN, hne, hlt, Lp', Hh', hy⟩ := x1J hd he hed (hpr e) ⟨hp, ep⟩ ⟨hh, eh⟩ hle (hw d hd dz) hoff
  refine ⟨_, hne, by show M * d.z + N * e.z = 0; rw [dz, ez]; simp, ?_, by unfold wLT at hlt; unfold wLE; omega⟩
  rcases hy with ⟨y, hy, hny⟩ | ⟨y, hy, hny⟩
  ·exact ⟨p, y, .inl ⟨Lp', hy⟩, fun q => hny ⟨hy.1, by rw [← q]; exact ep⟩⟩
  ·exact ⟨h, y, .inr ⟨Hh', hy⟩, fun q => hny ⟨hy.1, by rw [← q]; exact eh⟩⟩
 have he : (⟨-d.y, d.x, 0⟩ : Tr) ≠ tz := fun q => hd (by
  simp only [tz, Tr.mk.injEq] at q
  exact q0T (by show d.x = 0; omega) (by show d.y = 0; omega) (by show d.z = 0; exact dz))
 by_cases hs : j0b (⟨-d.y, d.x, 0⟩ : Tr) (dv l p h) ≤ 0
 ·exact key _ he rfl (by simp only [j0b]; grind) hs
 ·exact key _ (q0A he) rfl (by simp only [j0b, j0P]; grind) (by rw [j0z]; omega)
theorem z1q {A h x y z w : Int} (hA : 0 ≤ A) (hh : 0 ≤ h) (hz : 0 ≤ z) : A * A + h * h * (z * z) ≤ (A + h * z) * (A + h * z) := by
 have h1 := Int.mul_nonneg hA (Int.mul_nonneg hh hz)
 have e : (A + h * z) * (A + h * z) = A * A + h * h * (z * z) + 2 * (A * (h * z)) := by grind
 omega
theorem X1a {a b : Int} (h0 : 0 ≤ a) (h : a ≤ b) : a * a ≤ b * b := Int.mul_le_mul h h h0 (Int.le_trans h0 h)
theorem X1H {k l : List Tr} (h0 : 0 < k.length) (h : ∀ p ∈ k, p ∈ l) (d : Tr) : wdt k d ≤ wdt l d := by
 obtain ⟨p, hp, ep⟩ := w0L d h0
 obtain ⟨q, hq, eq⟩ := x0q d h0
 have at1 : ∀ i, i < k.length → ∃ j, j < l.length ∧ gt l j = gt k i := fun i hi => by
  have e : gt k i = k[i] := by unfold gt; simp [List.getD, hi]
  obtain ⟨j, hj, ej⟩ := List.getElem_of_mem (h _ (List.getElem_mem hi))
  exact ⟨j, hj, by rw [e, ← ej]; unfold gt; simp [List.getD, hj]⟩
 obtain ⟨a, ha, ea⟩ := at1 p hp
 obtain ⟨b, hb, eb⟩ := at1 q hq
 have h1 := w0e d ha
 have h2 := v0H d hb
 rw [ea] at h1
 rw [eb] at h2
 unfold wdt; omega
theorem Y1e {k l : List Tr} (h0 : 0 < k.length) (h : ∀ p ∈ k, p ∈ l) {m m' : Tr} (hk : MinD k m') (hl : MinD l m) : Wq k m' ≤ Wq l m := by
 refine Rat.le_trans (hk.le hl.1) ((j1W hl.1 hl.1).2 ?_)
 exact Int.mul_le_mul_of_nonneg_right (X1a (K0E h0 m) (X1H h0 h m)) (Int.le_of_lt (q0j hl.1))
def shT (a : Nat) (p : Tr) : Pt := if a = 0 then ⟨p.y, p.z⟩ else if a = 1 then ⟨p.z, p.x⟩ else ⟨p.x, p.y⟩
def emT (a : Nat) (d : Tr) : Tr := if a = 0 then ⟨0, d.x, d.y⟩ else if a = 1 then ⟨d.y, 0, d.x⟩ else ⟨d.x, d.y, 0⟩
theorem k1l (a : Nat) (d p : Tr) : j0b d (p3 (shT a p)) = 1 * j0b (emT a d) p + 0 := by
 unfold shT emT p3
 split
 ·simp only [j0b]; grind
 ·split <;> simp only [j0b] <;> grind
theorem Y1U (a : Nat) {d : Tr} (hz : d.z = 0) : j0b (emT a d) (emT a d) = j0b d d := by
 unfold emT
 split
 ·simp only [j0b, hz]; grind
 ·split <;> simp only [j0b, hz] <;> grind
theorem K1H (a : Nat) {d : Tr} (hz : d.z = 0) (h : d ≠ tz) : emT a d ≠ tz := fun e => by
 have h1 := q0j h
 rw [← Y1U a hz, e] at h1
 simp [j0b, tz] at h1
theorem k1m {l : List Tr} (h0 : 0 < l.length) (a : Nat) {d : Tr} (hz : d.z = 0) (hd : d ≠ tz) {m : Tr} (hm : MinD l m) : Wq l m ≤ Wq (flat3 (l.map (shT a))) d := by
 have e : wdt (flat3 (l.map (shT a))) d = wdt l (emT a d) := by
  unfold flat3
  rw [List.map_map]
  have := X1E (l := l) (T := p3 ∘ shT a) (d := emT a d) (e := d) (k := 1) (c := 0) xO h0 fun p => k1l a d p
  omega
 have h1 := hm.le (K1H a hz hd)
 unfold Wq at h1 ⊢
 rw [e]
 rw [Y1U a hz] at h1
 exact h1
def K1n (l : List Pt) (d : Tr) : Prop := d ≠ tz ∧ d.z = 0 ∧ ∀ e : Tr, e ≠ tz → e.z = 0 → wLE (flat3 l) d e
def pp (l : List Pt) (a b : Nat) : Tr := ⟨-((gp l b).y - (gp l a).y), (gp l b).x - (gp l a).x, 0⟩
def lfP (l : List Pt) (a b k : Nat) : Int := ((gp l b).x - (gp l a).x) * ((gp l k).y - (gp l a).y) - ((gp l b).y - (gp l a).y) * ((gp l k).x - (gp l a).x)
theorem W1b (l : List Pt) : (flat3 l).length = l.length := by unfold flat3; simp
theorem W0E {l : List Pt} {a b : Nat} (h : gp l a ≠ gp l b) : pp l a b ≠ tz := fun e => h (by
 simp only [pp, tz, Tr.mk.injEq] at e
 have h1 : (gp l a).x = (gp l b).x := by omega
 have h2 : (gp l a).y = (gp l b).y := by omega
 revert h1 h2
 cases gp l a; cases gp l b
 intro h1 h2
 simp only at h1 h2
 rw [h1, h2])
theorem Q0p {l : List Pt} {a b k : Nat} (ha : a < l.length) (hk : k < l.length) : lfP l a b k = j0b (pp l a b) (gt (flat3 l) k) - j0b (pp l a b) (gt (flat3 l) a) := by
 rw [q0x hk, q0x ha]; simp only [lfP, pp, p3, j0b]; grind
def j1J (l : List Pt) (a b : Nat) : Prop := a < l.length ∧ b < l.length ∧ gp l a ≠ gp l b ∧ ((∀ k, k < l.length → 0 ≤ lfP l a b k) ∨ ∀ k, k < l.length → lfP l a b k ≤ 0)
theorem Z1C {l : List Pt} {a b : Nat} (h : j1J l a b) {n : Int} (hn : ∀ k, k < l.length → lfP l a b k ≤ n ∧ -n ≤ lfP l a b k) (he : ∃ k, k < l.length ∧ (lfP l a b k = n ∨ lfP l a b k = -n)) : wdt (flat3 l) (pp l a b) = n := by
 obtain ⟨ha, hb, _, hs⟩ := h
 obtain ⟨k, hk, ek⟩ := he
 have z0 : lfP l a b a = 0 := by simp only [lfP]; grind
 have hlen := W1b l
 have wd : ∀ {p q : Nat}, p < l.length → q < l.length → (∀ i, i < l.length → lfP l a b p ≤ lfP l a b i ∧ lfP l a b i ≤ lfP l a b q) → wdt (flat3 l) (pp l a b) = lfP l a b q - lfP l a b p := fun {p q} hp hq hh => by
  have e1 : loD (flat3 l) (pp l a b) = j0b (pp l a b) (gt (flat3 l) p) := Q0q xO fun i hi => by
   have := (hh i xO).1
   rw [Q0p ha hp, Q0p ha (by omega)] at this; omega
  have e2 : hiD (flat3 l) (pp l a b) = j0b (pp l a b) (gt (flat3 l) q) := Q0i xO fun i hi => by
   have := (hh i xO).2
   rw [Q0p ha hq, Q0p ha (by omega)] at this; omega
  unfold wdt
  rw [e1, e2, Q0p ha hp, Q0p ha hq]; omega
 rcases hs with hs | hs
 ·have h1 := hs k hk
  have h2 := hn k hk
  have := wd ha hk fun i hi => ⟨by have := hs i hi; omega, by have := hn i hi; omega⟩
  omega
 ·have h1 := hs k hk
  have h2 := hn k hk
  have := wd hk ha fun i hi => ⟨by have := hn i hi; omega, by have := hs i hi; omega⟩
  omega
theorem J1W {l : List Pt} {a b : Nat} (ha : a < l.length) (hb : b < l.length) {d : Tr} (hz : d.z = 0) (h : j0b d (dv (flat3 l) a b) = 0) : tcr d (pp l a b) = tz := by
 unfold dv at h
 rw [q0x ha, q0x hb] at h
 simp only [p3, j0E, j0b, hz] at h
 refine q0T ?_ ?_ ?_ <;> simp only [tcr, pp, tz, hz] <;> grind
theorem K0h {l : List Pt} {d : Tr} (hz : d.z = 0) (hd : d ≠ tz) (h : j1T (flat3 l) d) : ∃ a b, a < b ∧ j1J l a b ∧ tcr d (pp l a b) = tz := by
 have hlen := W1b l
 have key : ∀ a b, Pr (flat3 l) d a b → gt (flat3 l) a ≠ gt (flat3 l) b → a < l.length → b < l.length → j1J l a b ∧ tcr d (pp l a b) = tz := fun a b hab hne ha hb => by
  have hg : gp l a ≠ gp l b := fun e => hne (by rw [q0x ha, q0x hb, e])
  have hc := J1W ha hb hz hab.lev
  refine ⟨⟨ha, hb, hg, ?_⟩, hc⟩
  have hm := Z0e hc
  have pe := q0j (W0E hg)
  have hs : ∀ k, k < l.length → j0b (pp l a b) (pp l a b) * j0b d (dv (flat3 l) a k) = j0b (pp l a b) d * lfP l a b k := fun k hk => by
   have e1 : j0b (j0P d (j0b (pp l a b) (pp l a b))) (dv (flat3 l) a k) = j0b (pp l a b) (pp l a b) * j0b d (dv (flat3 l) a k) := v0A _ _ _
   have e2 : j0b (j0P (pp l a b) (j0b (pp l a b) d)) (dv (flat3 l) a k) = j0b (pp l a b) d * j0b (pp l a b) (dv (flat3 l) a k) := v0A _ _ _
   rw [← e1, hm, e2, Q0p ha hk, j0m]
  have sgn : ∀ {s x y n : Int}, 0 < n → n * y = s * x → (0 ≤ y → 0 < s → 0 ≤ x) ∧ (0 ≤ y → s < 0 → x ≤ 0) ∧ (y ≤ 0 → 0 < s → x ≤ 0) ∧ (y ≤ 0 → s < 0 → 0 ≤ x) := fun {s x y n} hn e => by
   refine ⟨fun h1 h2 => ?_, fun h1 h2 => ?_, fun h1 h2 => ?_, fun h1 h2 => ?_⟩
   ·have q := Int.mul_nonneg (Int.le_of_lt hn) h1
    refine Classical.byContradiction fun hx => ?_
    have := Int.mul_neg_of_pos_of_neg h2 (show x < 0 by omega); omega
   ·have q := Int.mul_nonneg (Int.le_of_lt hn) h1
    refine Classical.byContradiction fun hx => ?_
    have := Int.mul_neg_of_neg_of_pos h2 (show 0 < x by omega); omega
   ·have q := Int.mul_nonpos_of_nonneg_of_nonpos (Int.le_of_lt hn) h1
    refine Classical.byContradiction fun hx => ?_
    have := Int.mul_pos h2 (show 0 < x by omega); omega
   ·have q := Int.mul_nonpos_of_nonneg_of_nonpos (Int.le_of_lt hn) h1
    refine Classical.byContradiction fun hx => ?_
    have := Int.mul_pos_of_neg_of_neg h2 (show x < 0 by omega); omega
  have hs0 : j0b (pp l a b) d ≠ 0 := fun e => by
   have h1 := hm
   rw [e] at h1
   have h2 : j0b (j0P d (j0b (pp l a b) (pp l a b))) d = 0 := by rw [h1]; simp [j0P, j0b]
   rw [v0A] at h2
   have := Int.mul_pos pe (q0j hd)
   omega
  rcases hab with ⟨⟨_, ea⟩, _, _⟩ | ⟨⟨_, ea⟩, _, _⟩
  ·have hy : ∀ k, k < l.length → 0 ≤ j0b d (dv (flat3 l) a k) := fun k hk => by
    have := w0e (l := flat3 l) d (i := k) xO
    rw [j0m]; omega
   rcases (by omega : 0 < j0b (pp l a b) d ∨ j0b (pp l a b) d < 0) with q | q
   ·exact .inl fun k hk => (sgn pe (hs k hk)).1 (hy k hk) q
   ·exact .inr fun k hk => (sgn pe (hs k hk)).2.1 (hy k hk) q
  ·have hy : ∀ k, k < l.length → j0b d (dv (flat3 l) a k) ≤ 0 := fun k hk => by
    have := v0H (l := flat3 l) d (i := k) xO
    rw [j0m]; omega
   rcases (by omega : 0 < j0b (pp l a b) d ∨ j0b (pp l a b) d < 0) with q | q
   ·exact .inr fun k hk => (sgn pe (hs k hk)).2.2.1 (hy k hk) q
   ·exact .inl fun k hk => (sgn pe (hs k hk)).2.2.2 (hy k hk) q
 obtain ⟨a, b, hab, hne⟩ := h
 have hl : a < l.length ∧ b < l.length := by
  rcases hab with ⟨⟨h1, _⟩, h2, _⟩ | ⟨⟨h1, _⟩, h2, _⟩ <;> omega
 have hab' : a ≠ b := fun e => hne (by rw [e])
 rcases (by omega : a < b ∨ b < a) with q | q
 ·obtain ⟨h1, h2⟩ := key a b hab hne hl.1 hl.2
  exact ⟨a, b, q, h1, h2⟩
 ·have hba : Pr (flat3 l) d b a := by
   rcases hab with ⟨h1, h2⟩ | ⟨h1, h2⟩
   ·exact .inl ⟨h2, h1⟩
   ·exact .inr ⟨h2, h1⟩
  obtain ⟨h1, h2⟩ := key b a hba (fun e => hne e.symm) hl.2 hl.1
  exact ⟨b, a, q, h1, h2⟩
theorem X1f {l : List Pt} {a b : Nat} (h : j1J l a b) (hm : ∀ i j, i < j → j1J l i j → wLE (flat3 l) (pp l a b) (pp l i j)) : K1n l (pp l a b) := by
 obtain ⟨ha, hb, hne, _⟩ := h
 have hlen := W1b l
 refine ⟨W0E hne, rfl, fun e he ez => ?_⟩
 by_cases hall : ∀ d : Tr, d ≠ tz → d.z = 0 → 0 < wdt (flat3 l) d
 ·obtain ⟨d', hd', dz', hs, hle⟩ := V0z (l := flat3 l) (fun i hi => by rw [q0x (by omega)]; rfl) (by omega) he ez hall
  obtain ⟨i, j, hij, hS, hc⟩ := K0h dz' hd' hs
  have hpj := W0E hS.2.2.1
  have h2 := Z0H (l := flat3 l) (by omega) hpj hd' (by rw [z0k, hc]; simp [j0P, tz])
  exact x0D (W0E hne) hd' he (x0D (W0E hne) hpj hd' (hm i j hij hS) h2) hle
 ·obtain ⟨d, hd, dz, hw⟩ : ∃ d : Tr, d ≠ tz ∧ d.z = 0 ∧ wdt (flat3 l) d = 0 := by
   refine Classical.byContradiction fun hno => hall fun d hd dz => ?_
   have h1 := K0E (l := flat3 l) xO d
   have h2 : wdt (flat3 l) d ≠ 0 := fun e => hno ⟨d, hd, dz, e⟩
   omega
  have flat : ∀ i, i < l.length → j0b d (gt (flat3 l) i) = loD (flat3 l) d := fun i hi => by
   have h1 := w0e (l := flat3 l) d (i := i) xO
   have h2 := v0H (l := flat3 l) d (i := i) xO
   unfold wdt at hw; omega
  have hc : tcr d (pp l a b) = tz := J1W ha hb dz (by rw [j0m, flat a ha, flat b hb]; omega)
  have h1 := Z0H (l := flat3 l) (by omega) (W0E hne) hd (by rw [z0k, hc]; simp [j0P, tz])
  exact x0D (W0E hne) hd he h1 (K0D hw e)
def j0Y (l : List Pt) (h : Int) : List Tr := l.flatMap fun p => [⟨p.x, p.y, 0⟩, ⟨p.x, p.y, h⟩]
theorem q0D {l : List Pt} {h : Int} {t : Tr} : t ∈ j0Y l h ↔ ∃ i, i < l.length ∧ (t = p3 (gp l i) ∨ t = ⟨(gp l i).x, (gp l i).y, h⟩) := by
 unfold j0Y
 rw [List.mem_flatMap]
 constructor
 ·rintro ⟨p, hp, ht⟩
  obtain ⟨i, hi, e⟩ := List.getElem_of_mem hp
  have eg : gp l i = p := by unfold gp; simp [List.getD, hi, e]
  refine ⟨i, hi, ?_⟩
  rw [eg]
  simpa [p3] using ht
 ·rintro ⟨i, hi, ht⟩
  refine ⟨l[i], List.getElem_mem hi, ?_⟩
  have eg : gp l i = l[i] := by unfold gp; simp [List.getD, hi]
  rw [eg] at ht
  simpa [p3] using ht
theorem J1L {l : List Tr} {i : Nat} (h : i < l.length) : gt l i ∈ l := by
 have e : gt l i = l[i] := by unfold gt; simp [List.getD, h]
 rw [e]; exact List.getElem_mem h
theorem x0p {l : List Tr} {t : Tr} (h : t ∈ l) : ∃ i, i < l.length ∧ gt l i = t := by
 obtain ⟨i, hi, e⟩ := List.getElem_of_mem h
 exact ⟨i, hi, by unfold gt; simp [List.getD, hi, e]⟩
def flD (d : Tr) : Tr := ⟨d.x, d.y, 0⟩
theorem w0P (d : Tr) (p : Pt) (h : Int) : j0b d ⟨p.x, p.y, h⟩ = j0b (flD d) (p3 p) + h * d.z := by simp only [flD, p3, j0b]; grind
theorem v0U (d : Tr) (p : Pt) : j0b d (p3 p) = j0b (flD d) (p3 p) := by simp only [flD, p3, j0b]; grind
def j1Y (z : Int) : Int := if z < 0 then -z else z
theorem Q1V (z : Int) : 0 ≤ j1Y z := by unfold j1Y; split <;> omega
theorem Q1W (z : Int) : j1Y z * j1Y z = z * z := by unfold j1Y; split <;> grind
theorem Q0B {l : List Pt} {h : Int} (h0 : 0 < l.length) (hh : 0 < h) (d : Tr) : wdt (j0Y l h) d = wdt (flat3 l) (flD d) + h * j1Y d.z := by
 have hlen := W1b l
 obtain ⟨p, hp, ep⟩ := w0L (l := flat3 l) (flD d) xO
 obtain ⟨q, hq, eq⟩ := x0q (l := flat3 l) (flD d) xO
 have lows : ∀ i, i < l.length → loD (flat3 l) (flD d) ≤ j0b (flD d) (p3 (gp l i)) := fun i hi => by
  have := w0e (l := flat3 l) (flD d) (i := i) xO
  rwa [q0x hi] at this
 have highs : ∀ i, i < l.length → j0b (flD d) (p3 (gp l i)) ≤ hiD (flat3 l) (flD d) := fun i hi => by
  have := v0H (l := flat3 l) (flD d) (i := i) xO
  rwa [q0x hi] at this
 rw [q0x (by omega)] at ep eq
 have b0 : (p3 (gp l p) : Tr) ∈ j0Y l h := q0D.2 ⟨p, by omega, .inl rfl⟩
 have b1 : (⟨(gp l p).x, (gp l p).y, h⟩ : Tr) ∈ j0Y l h := q0D.2 ⟨p, by omega, .inr rfl⟩
 have t0 : (p3 (gp l q) : Tr) ∈ j0Y l h := q0D.2 ⟨q, by omega, .inl rfl⟩
 have t1 : (⟨(gp l q).x, (gp l q).y, h⟩ : Tr) ∈ j0Y l h := q0D.2 ⟨q, by omega, .inr rfl⟩
 have gen : ∀ {x y : Tr}, x ∈ j0Y l h → y ∈ j0Y l h → (∀ t ∈ j0Y l h, j0b d x ≤ j0b d t ∧ j0b d t ≤ j0b d y) → wdt (j0Y l h) d = j0b d y - j0b d x := fun {x y} hx hy hall => by
  obtain ⟨i, hi, ei⟩ := x0p hx
  obtain ⟨j, hj, ej⟩ := x0p hy
  have e1 := Q0q (l := j0Y l h) (d := d) hi fun k hk => by rw [ei]; exact (hall _ (J1L hk)).1
  have e2 := Q0i (l := j0Y l h) (d := d) hj fun k hk => by rw [ej]; exact (hall _ (J1L hk)).2
  unfold wdt
  rw [e1, e2, ei, ej]
 have hw : wdt (flat3 l) (flD d) = hiD (flat3 l) (flD d) - loD (flat3 l) (flD d) := rfl
 rcases (by omega : d.z < 0 ∨ 0 ≤ d.z) with hz | hz
 ·have hn := Int.mul_neg_of_pos_of_neg hh hz
  have ha : j1Y d.z = -d.z := if_pos hz
  rw [gen b1 t0 fun t ht => by
   obtain ⟨i, hi, e | e⟩ := q0D.1 ht
   ·rw [e]; simp only [v0U d, w0P d]
    have := lows i hi; have := highs i hi; omega
   ·rw [e]; simp only [v0U d, w0P d]
    have := lows i hi; have := highs i hi; omega, v0U d, w0P d, ha, Int.mul_neg]
  omega
 ·have hn := Int.mul_nonneg (Int.le_of_lt hh) hz
  have ha : j1Y d.z = d.z := if_neg xO
  rw [gen b0 t1 fun t ht => by
   obtain ⟨i, hi, e | e⟩ := q0D.1 ht
   ·rw [e]; simp only [v0U d, w0P d]
    have := lows i hi; have := highs i hi; omega
   ·rw [e]; simp only [v0U d, w0P d]
    have := lows i hi; have := highs i hi; omega, v0U d, w0P d, ha]
  omega
def upD : Tr := ⟨0, 0, 1⟩
theorem Q1y : upD ≠ tz := by simp [upD, tz]
theorem K1f {l : List Tr} (h0 : 0 < l.length) : wdt l tz = 0 := X0h (M := 0) h0 fun i _ => by simp [j0b, tz]
theorem k0Z {l : List Pt} {h : Int} (h0 : 0 < l.length) (hh : 0 < h) : wdt (j0Y l h) upD = h := by
 have hlen := W1b l
 rw [Q0B h0 hh]
 have : flD upD = tz := rfl
 rw [this, K1f (by omega)]
 show 0 + h * j1Y 1 = h
 simp [j1Y]
theorem V0B {l : List Pt} {h : Int} (h0 : 0 < l.length) (hh : 0 < h) {d : Tr} (hz : d.z = 0) : wdt (j0Y l h) d = wdt (flat3 l) d := by
 rw [Q0B h0 hh, hz]
 have e : flD d = d := q0T rfl rfl hz.symm
 rw [e]
 simp [j1Y]
theorem w1v {l : List Pt} {h : Int} (h0 : 0 < l.length) (hh : 0 < h) {d : Tr} (hd : K1n l d) : MinD (j0Y l h) (if wdt (flat3 l) d * wdt (flat3 l) d ≤ h * h * j0b d d then d else upD) := by
 obtain ⟨hd0, hdz, hm⟩ := hd
 have hlen := W1b l
 have pd := q0j hd0
 have main : ∀ e : Tr, e ≠ tz → wdt (flat3 l) d * wdt (flat3 l) d * (e.x * e.x + e.y * e.y) + h * h * (e.z * e.z) * j0b d d ≤ wdt (j0Y l h) e * wdt (j0Y l h) e * j0b d d := fun e he => by
  have hA := K0E (l := flat3 l) xO (flD e)
  have g1 := z1q (x := 0) (y := 0) (w := 0) hA (Int.le_of_lt hh) (Q1V e.z)
  rw [← Q0B h0 hh, Q1W] at g1
  have g2 : wdt (flat3 l) d * wdt (flat3 l) d * (e.x * e.x + e.y * e.y) ≤ wdt (flat3 l) (flD e) * wdt (flat3 l) (flD e) * j0b d d := by
   by_cases hf : flD e = tz
   ·have hx : e.x = 0 ∧ e.y = 0 := by simp only [flD, tz, Tr.mk.injEq] at hf; exact ⟨hf.1, hf.2.1⟩
    rw [hx.1, hx.2]
    have := Int.mul_nonneg (Int.mul_nonneg hA hA) (Int.le_of_lt pd)
    simpa using this
   ·have h1 := hm (flD e) hf rfl
    unfold wLE at h1
    have e2 : j0b (flD e) (flD e) = e.x * e.x + e.y * e.y := by simp only [flD, j0b]; grind
    rwa [e2] at h1
  have g3 := Int.mul_le_mul_of_nonneg_right g1 (Int.le_of_lt pd)
  have e3 : (wdt (flat3 l) (flD e) * wdt (flat3 l) (flD e) + h * h * (e.z * e.z)) * j0b d d = wdt (flat3 l) (flD e) * wdt (flat3 l) (flD e) * j0b d d + h * h * (e.z * e.z) * j0b d d := by grind
  omega
 split
 ·rename_i hle
  refine ⟨hd0, fun e he => ?_⟩
  unfold wLE
  rw [V0B h0 hh hdz]
  have h1 := main e he
  have h2 := Int.mul_le_mul_of_nonneg_right hle (y0c e.z)
  have e1 : wdt (flat3 l) d * wdt (flat3 l) d * j0b e e = wdt (flat3 l) d * wdt (flat3 l) d * (e.x * e.x + e.y * e.y) + wdt (flat3 l) d * wdt (flat3 l) d * (e.z * e.z) := by simp only [j0b]; grind
  have e2 : h * h * j0b d d * (e.z * e.z) = h * h * (e.z * e.z) * j0b d d := by grind
  omega
 ·rename_i hlt
  refine ⟨Q1y, fun e he => ?_⟩
  unfold wLE
  rw [k0Z h0 hh]
  have h1 := main e he
  have hxy : 0 ≤ e.x * e.x + e.y * e.y := by have := y0c e.x; have := y0c e.y; omega
  have h2 := Int.mul_le_mul_of_nonneg_right (show h * h * j0b d d ≤ wdt (flat3 l) d * wdt (flat3 l) d by omega) hxy
  have e1 : j0b upD upD = 1 := rfl
  rw [e1, Int.mul_one]
  refine Int.le_of_mul_le_mul_right (a := j0b d d) ?_ pd
  have e2 : h * h * j0b e e * j0b d d = h * h * j0b d d * (e.x * e.x + e.y * e.y) + h * h * (e.z * e.z) * j0b d d := by simp only [j0b]; grind
  omega
theorem W1z {l : List Pt} {h : Int} (h0 : 0 < l.length) (hh : 0 < h) {d m : Tr} (hd : K1n l d) (hm : MinD (j0Y l h) m) : (Wq (flat3 l) d ≤ ((h * h : Int) : Rat) → Wq (j0Y l h) m = Wq (flat3 l) d) ∧ (((h * h : Int) : Rat) ≤ Wq (flat3 l) d → Wq (j0Y l h) m = ((h * h : Int) : Rat)) := by
 have hup : Wq (j0Y l h) upD = ((h * h : Int) : Rat) := by
  unfold Wq
  rw [k0Z h0 hh]
  have : j0b upD upD = 1 := rfl
  rw [this, Rat.div_def]
  have e1 : ((1 : Int) : Rat) = 1 := by simp
  have e2 := Rat.mul_inv_cancel (1 : Rat) xE
  rw [Rat.one_mul] at e2
  rw [e1, e2, Rat.mul_one]
 have hba : Wq (j0Y l h) d = Wq (flat3 l) d := by unfold Wq; rw [V0B h0 hh hd.2.1]
 have hs := Q1U hm (w1v h0 hh hd)
 have hl1 := hm.le hd.1
 have hl2 := hm.le Q1y
 rw [hup] at hl2
 rw [hba] at hl1
 rw [hs] at hl1 hl2 ⊢
 revert hl1 hl2
 split
 ·rw [hba]; intro a b; exact ⟨fun _ => rfl, fun c => by grind⟩
 ·rw [hup]; intro a b; exact ⟨fun c => by grind, fun _ => rfl⟩
end Go.Proofs.YtgblokifbgeegaaGreatDoor.H.S
namespace Go.Proofs.YtgblokifbgeegaaGreatDoor.H.S
open Go Go.Vc Go.RowKit H.G
def amx (n : Int) : Int := max n (-n)
def lwN (l : List Pt) (i j : Nat) : Nat → Int
 |0 => 0
 |k + 1 => min (lwN l i j k) (lfP l i j k)
def hgN (l : List Pt) (i j : Nat) : Nat → Int
 |0 => 0
 |k + 1 => max (hgN l i j k) (lfP l i j k)
def arN (l : List Pt) (i j : Nat) : Nat → Int
 |0 => 0
 |k + 1 => if arN l i j k < amx (lfP l i j k) then amx (lfP l i j k) else arN l i j k
def frN (l : List Pt) (i j : Nat) : Nat → Nat
 |0 => 0
 |k + 1 => if arN l i j k < amx (lfP l i j k) then k else frN l i j k
theorem Z1G (l : List Pt) (i j : Nat) : ∀ k, lwN l i j k ≤ 0 ∧ (∀ m, m < k → lwN l i j k ≤ lfP l i j m) ∧ (lwN l i j k = 0 ∨ ∃ m, m < k ∧ lfP l i j m = lwN l i j k)
 |0 => ⟨Int.le_refl _, fun m h => by omega, .inl rfl⟩
 |k + 1 => by
  obtain ⟨h1, h2, h3⟩ := Z1G l i j k
  have e : lwN l i j (k + 1) = min (lwN l i j k) (lfP l i j k) := rfl
  refine ⟨by omega, fun m hm => ?_, ?_⟩
  ·by_cases h : m = k
   ·subst h; omega
   ·have := h2 m xO; omega
  ·by_cases h : lfP l i j k < lwN l i j k
   ·exact .inr ⟨k, by omega, by omega⟩
   ·rcases h3 with h3 | ⟨m, hm, h3⟩
    ·exact .inl xO
    ·exact .inr ⟨m, by omega, by omega⟩
theorem Z1p (l : List Pt) (i j : Nat) : ∀ k, 0 ≤ hgN l i j k ∧ (∀ m, m < k → lfP l i j m ≤ hgN l i j k) ∧ (hgN l i j k = 0 ∨ ∃ m, m < k ∧ lfP l i j m = hgN l i j k)
 |0 => ⟨Int.le_refl _, fun m h => by omega, .inl rfl⟩
 |k + 1 => by
  obtain ⟨h1, h2, h3⟩ := Z1p l i j k
  have e : hgN l i j (k + 1) = max (hgN l i j k) (lfP l i j k) := rfl
  refine ⟨by omega, fun m hm => ?_, ?_⟩
  ·by_cases h : m = k
   ·subst h; omega
   ·have := h2 m xO; omega
  ·by_cases h : hgN l i j k < lfP l i j k
   ·exact .inr ⟨k, by omega, by omega⟩
   ·rcases h3 with h3 | ⟨m, hm, h3⟩
    ·exact .inl xO
    ·exact .inr ⟨m, by omega, by omega⟩
theorem V0N (l : List Pt) (i j k : Nat) : arN l i j (k + 1) = if arN l i j k < amx (lfP l i j k) then amx (lfP l i j k) else arN l i j k := rfl
theorem Y0N (l : List Pt) (i j k : Nat) : frN l i j (k + 1) = if arN l i j k < amx (lfP l i j k) then k else frN l i j k := rfl
theorem Y1h (l : List Pt) (i j : Nat) : ∀ k, 0 ≤ arN l i j k ∧ (∀ m, m < k → lfP l i j m ≤ arN l i j k ∧ -arN l i j k ≤ lfP l i j m) ∧ (arN l i j k = 0 ∨ ∃ m, m < k ∧ (lfP l i j m = arN l i j k ∨ lfP l i j m = -arN l i j k))
 |0 => ⟨Int.le_refl _, fun m h => by omega, .inl rfl⟩
 |k + 1 => by
  obtain ⟨h1, h2, h3⟩ := Y1h l i j k
  have e := V0N l i j k
  have ea : amx (lfP l i j k) = max (lfP l i j k) (-(lfP l i j k)) := rfl
  by_cases h : arN l i j k < amx (lfP l i j k)
  ·rw [if_pos h] at e
   refine ⟨by omega, fun m hm => ?_, .inr ⟨k, by omega, by omega⟩⟩
   by_cases hm' : m = k
   ·subst hm'; omega
   ·have := h2 m xO; omega
  ·rw [if_neg h] at e
   rw [e]
   refine ⟨h1, fun m hm => ?_, ?_⟩
   ·by_cases hm' : m = k
    ·subst hm'; omega
    ·exact h2 m xO
   ·rcases h3 with h3 | ⟨m, hm, h3⟩
    ·exact .inl h3
    ·exact .inr ⟨m, by omega, h3⟩
theorem Z1g (l : List Pt) (i j : Nat) : ∀ k, 0 < k → frN l i j k < k
 |0, h => by omega
 |k + 1, _ => by
  rw [Y0N]
  split
  ·omega
  ·by_cases hk : k = 0
   ·subst hk; exact Nat.zero_lt_one
   ·have := Z1g l i j k xO; omega
def j1A (l : List Pt) (i j : Nat) : Bool := decide (gp l i ≠ gp l j) && (decide (lwN l i j l.length = 0) || decide (hgN l i j l.length = 0))
theorem J0D {l : List Pt} {i j : Nat} (hi : i < l.length) (hj : j < l.length) : j1A l i j = true ↔ j1J l i j := by
 unfold j1A
 simp only [Bool.and_eq_true, Bool.or_eq_true, decide_eq_true_eq]
 obtain ⟨a1, a2, a3⟩ := Z1G l i j l.length
 obtain ⟨b1, b2, b3⟩ := Z1p l i j l.length
 constructor
 ·rintro ⟨h1, h2⟩
  refine ⟨hi, hj, h1, ?_⟩
  rcases h2 with h2 | h2
  ·exact .inl fun k hk => by have := a2 k hk; omega
  ·exact .inr fun k hk => by have := b2 k hk; omega
 ·rintro ⟨_, _, h1, h2⟩
  refine ⟨h1, ?_⟩
  rcases h2 with h2 | h2
  ·rcases a3 with a3 | ⟨m, hm, a3⟩
   ·exact .inl a3
   ·exact .inl (by have := h2 m hm; omega)
  ·rcases b3 with b3 | ⟨m, hm, b3⟩
   ·exact .inr b3
   ·exact .inr (by have := h2 m hm; omega)
theorem Y1i {l : List Pt} {i j : Nat} (h : j1J l i j) : wdt (flat3 l) (pp l i j) = arN l i j l.length := by
 obtain ⟨a1, a2, a3⟩ := Y1h l i j l.length
 refine Z1C h a2 ?_
 rcases a3 with a3 | a3
 ·have h0 : 0 < l.length := by have := h.1; omega
  have := a2 0 h0
  exact ⟨0, h0, .inl xO⟩
 ·exact a3
def jP (l : List Pt) (i m : Nat) : List (Nat × Nat) := (List.range m).filterMap fun j => if i < j ∧ j1A l i j = true then some (i, j) else none
def iP (l : List Pt) (n : Nat) : List (Nat × Nat) := (List.range n).flatMap fun i => jP l i l.length
def Z0g (l : List Pt) : List (Nat × Nat) := iP l l.length
theorem Y0X (l : List Pt) (i m : Nat) : jP l i (m + 1) = jP l i m ++ if i < m ∧ j1A l i m = true then [(i, m)] else [] := by
 unfold jP
 rw [List.range_succ, List.filterMap_append]
 congr 1
 simp only [List.filterMap_cons, List.filterMap_nil]
 split
 ·next h => split at h <;> simp_all
 ·next h => split at h <;> simp_all
theorem J1B (l : List Pt) (i : Nat) : ∀ m, m ≤ i + 1 → jP l i m = []
 |0, _ => rfl
 |m + 1, h => by rw [Y0X, J1B l i m (by omega), if_neg (by omega)]; rfl
theorem Y0V (l : List Pt) (n : Nat) : iP l (n + 1) = iP l n ++ jP l n l.length := by unfold iP; rw [List.range_succ, List.flatMap_append]; simp
theorem J1M {l : List Pt} {i m : Nat} {x : Nat × Nat} : x ∈ jP l i m ↔ x.1 = i ∧ i < x.2 ∧ x.2 < m ∧ j1A l i x.2 = true := by
 unfold jP
 rw [List.mem_filterMap]
 constructor
 ·rintro ⟨j, hj, h⟩
  rw [List.mem_range] at hj
  split at h
  ·next hc => cases h; exact ⟨rfl, hc.1, hj, hc.2⟩
  ·cases h
 ·rintro ⟨h1, h2, h3, h4⟩
  refine ⟨x.2, List.mem_range.2 h3, ?_⟩
  rw [if_pos ⟨h2, h4⟩, ← h1]
theorem J0v {l : List Pt} {x : Nat × Nat} : x ∈ Z0g l ↔ x.1 < x.2 ∧ x.2 < l.length ∧ j1J l x.1 x.2 := by
 unfold Z0g iP
 rw [List.mem_flatMap]
 constructor
 ·rintro ⟨i, hi, h⟩
  rw [List.mem_range] at hi
  obtain ⟨h1, h2, h3, h4⟩ := J1M.1 h
  rw [h1]
  exact ⟨h2, h3, (J0D hi h3).1 h4⟩
 ·rintro ⟨h1, h2, h3⟩
  exact ⟨x.1, List.mem_range.2 xO, J1M.2 ⟨rfl, h1, h2, (J0D xO h2).2 h3⟩⟩
def Wp (l : List Pt) (x : Nat × Nat) : Rat := Wq (flat3 l) (pp l x.1 x.2)
def K0N (l : List Pt) : Option (Nat × Nat) → Nat × Nat → Option (Nat × Nat)
 |none, x => some x
 |some y, x => if Wp l x < Wp l y then some x else some y
def V1d (l : List Pt) (L : List (Nat × Nat)) : Option (Nat × Nat) := L.foldl (K0N l) none
theorem V1e {l : List Pt} {L : List (Nat × Nat)} {x : Nat × Nat} : V1d l (L ++ [x]) = K0N l (V1d l L) x := by unfold V1d; rw [List.foldl_append]; rfl
theorem Z0P {l : List Pt} : ∀ (L : List (Nat × Nat)) (y : Nat × Nat), ∃ x, L.foldl (K0N l) (some y) = some x ∧ (x = y ∨ x ∈ L) ∧ Wp l x ≤ Wp l y ∧ ∀ z ∈ L, Wp l x ≤ Wp l z
 |[], y => ⟨y, rfl, .inl rfl, Rat.le_refl, fun _ h => by cases h⟩
 |z :: L, y => by
  simp only [List.foldl_cons, K0N]
  by_cases h : Wp l z < Wp l y
  ·rw [if_pos h]
   obtain ⟨x, h1, h2, h3, h4⟩ := Z0P (l := l) L z
   refine ⟨x, h1, .inr ?_, Rat.le_trans h3 (Rat.le_of_lt h), fun w hw => ?_⟩
   ·rcases h2 with h2 | h2
    ·rw [h2]; exact List.mem_cons_self
    ·exact List.mem_cons_of_mem _ h2
   ·rcases List.mem_cons.1 hw with rfl | hw
    ·exact h3
    ·exact h4 w hw
  ·rw [if_neg h]
   obtain ⟨x, h1, h2, h3, h4⟩ := Z0P (l := l) L y
   refine ⟨x, h1, h2.imp id (List.mem_cons_of_mem _), h3, fun w hw => ?_⟩
   rcases List.mem_cons.1 hw with rfl | hw
   ·exact Rat.le_trans h3 (Rat.not_lt.1 h)
   ·exact h4 w hw
def bP (l : List Pt) : Option (Nat × Nat) := V1d l (Z0g l)
theorem q1d {l : List Pt} {x : Nat × Nat} (h : bP l = some x) : x ∈ Z0g l ∧ ∀ z ∈ Z0g l, Wp l x ≤ Wp l z := by
 unfold bP V1d at h
 cases hL : Z0g l with
 |nil => rw [hL] at h; cases h
 |cons y L =>
  rw [hL, List.foldl_cons] at h
  obtain ⟨x', h1, h2, h3, h4⟩ := Z0P (l := l) L y
  rw [show K0N l none y = some y from rfl, h1] at h
  cases h
  refine ⟨?_, fun z hz => ?_⟩
  ·rcases h2 with h2 | h2
   ·rw [h2]; exact List.mem_cons_self
   ·exact List.mem_cons_of_mem _ h2
  ·rcases List.mem_cons.1 hz with rfl | hz
   ·exact h3
   ·exact h4 z hz
theorem V1c {l : List Pt} (h : bP l = none) : Z0g l = [] := by
 unfold bP V1d at h
 cases hL : Z0g l with
 |nil => rfl
 |cons y L =>
  rw [hL, List.foldl_cons] at h
  obtain ⟨x', h1, _⟩ := Z0P (l := l) L y
  rw [show K0N l none y = some y from rfl, h1] at h
  cases h
def Ws (l : List Pt) : Rat := match bP l with
 |none => 0
 |some x => Wp l x
theorem J1d {l : List Pt} {x : Nat × Nat} (h : bP l = some x) : K1n l (pp l x.1 x.2) := by
 obtain ⟨h1, h2⟩ := q1d h
 obtain ⟨q1, q2, q3⟩ := J0v.1 h1
 refine X1f q3 fun i j hij hS => ?_
 have := h2 (i, j) (J0v.2 ⟨hij, hS.2.1, hS⟩)
 exact (j1W (W0E q3.2.2.1) (W0E hS.2.2.1)).1 this
theorem k1y {l : List Pt} {i j : Nat} (hi : i < l.length) (hj : j < l.length) (hne : gp l i ≠ gp l j) : ∃ a b, a < b ∧ j1J l a b := by
 have hlen := W1b l
 have fin : ∀ d : Tr, d.z = 0 → d ≠ tz → j1T (flat3 l) d → ∃ a b, a < b ∧ j1J l a b := fun d dz hd hs => by
  obtain ⟨a, b, h1, h2, _⟩ := K0h dz hd hs
  exact ⟨a, b, h1, h2⟩
 by_cases hall : ∀ d : Tr, d ≠ tz → d.z = 0 → 0 < wdt (flat3 l) d
 ·obtain ⟨d', hd', dz', hs, _⟩ := V0z (l := flat3 l) (fun i hi => by rw [q0x (by omega)]; rfl) (by omega) (d := ⟨1, 0, 0⟩) (by decide) rfl hall
  exact fin d' dz' hd' hs
 ·obtain ⟨d, hd, dz, hw⟩ : ∃ d : Tr, d ≠ tz ∧ d.z = 0 ∧ wdt (flat3 l) d = 0 := by
   refine Classical.byContradiction fun hno => hall fun d hd dz => ?_
   have h1 := K0E (l := flat3 l) xO d
   have h2 : wdt (flat3 l) d ≠ 0 := fun e => hno ⟨d, hd, dz, e⟩
   omega
  have lo : ∀ k, k < l.length → Lo (flat3 l) d k := fun k hk => ⟨by omega, by
   have h1 := w0e (l := flat3 l) d (i := k) xO
   have h2 := v0H (l := flat3 l) d (i := k) xO
   unfold wdt at hw
   omega⟩
  refine fin d dz hd ⟨i, j, .inl ⟨lo i hi, lo j hj⟩, fun e => hne ?_⟩
  rw [q0x hi, q0x hj] at e
  simp only [p3, Tr.mk.injEq] at e
  revert e
  cases gp l i; cases gp l j
  rintro ⟨h1, h2, _⟩
  simp only at h1 h2
  rw [h1, h2]
theorem Y1m {l : List Pt} {i j : Nat} (hi : i < l.length) (hj : j < l.length) (hne : gp l i ≠ gp l j) : ∃ x, bP l = some x := by
 obtain ⟨a, b, hab, hS⟩ := k1y hi hj hne
 cases h : bP l with
 |some x => exact ⟨x, rfl⟩
 |none =>
  have := V1c h
  have hm := J0v.2 (⟨hab, hS.2.1, hS⟩ : (a, b).1 < (a, b).2 ∧ (a, b).2 < l.length ∧ j1J l (a, b).1 (a, b).2)
  rw [this] at hm
  cases hm
end Go.Proofs.YtgblokifbgeegaaGreatDoor.H.S
section
end
namespace Go.Proofs.YtgblokifbgeegaaGreatDoor.H.S
open Go Go.Vc
set_option maxHeartbeats 1000000
def cK (g : List Tr) (i k : Nat) : List Tr := (List.range k).filterMap fun k => if tcr (gt g i) (gt g k) = tz then none else some (q0U (tcr (gt g i) (gt g k)))
def cI (g : List Tr) (n : Nat) : List Tr := (List.range n).flatMap fun i => cK g i i
theorem Z0Q (g : List Tr) : cI g g.length = j0V g := rfl
theorem J0J (g : List Tr) (i k : Nat) : cK g i (k + 1) = cK g i k ++ if tcr (gt g i) (gt g k) = tz then [] else [q0U (tcr (gt g i) (gt g k))] := by
 unfold cK
 rw [List.range_succ, List.filterMap_append]
 congr 1
 by_cases h : tcr (gt g i) (gt g k) = tz
 ·simp [h]
 ·simp [h]
theorem z0s (g : List Tr) (n : Nat) : cI g (n + 1) = cI g n ++ cK g n n := by unfold cI; rw [List.range_succ, List.flatMap_append]; simp
theorem q2d (g : List Tr) (i : Nat) : cK g i 0 = [] := rfl
theorem y1k {l L : List Tr} {d : Tr} : w0S l (L ++ [d]) = z0q l (w0S l L) d := by unfold w0S; rw [List.foldl_append]; rfl
theorem X0I {l : List Tr} (hl : RT l) : ∀ v ∈ w0y l, BT 200000 v := fun v hv => by
 obtain ⟨i, k, _, _, rfl⟩ := J0t.1 hv
 exact (hl i).sub (hl k)
theorem J1a {A : Int} {d : Tr} (h : BT A d) : BT A (j0P d (-1)) := by
 obtain ⟨⟨a, b⟩, ⟨c, e⟩, ⟨f, g⟩⟩ := h
 refine ⟨⟨?_, ?_⟩, ⟨?_, ?_⟩, ⟨?_, ?_⟩⟩ <;> simp only [j0P] <;> omega
theorem V0U {A : Int} {d : Tr} (h : BT A d) : BT A (q0U d) := by
 unfold q0U
 split
 ·exact J1a h.pr
 ·exact h.pr
def dvs (l : List Tr) : List Tr := (List.range l.length).map fun i => dv l 0 i
def flatD (l : List Tr) : List Tr := (j0V (dvs l)).take 1
def x0W (l : List Tr) : List Tr := if (spn l).dim = 3 then Y1I l (j1M l) else flatD l
theorem z0R {l : List Tr} {i : Nat} (h : i < l.length) : gt (dvs l) i = dv l 0 i := by unfold gt dvs; simp [List.getD, h]
theorem W0g (l : List Tr) : (dvs l).length = l.length := by unfold dvs; simp
theorem flatD_at {l : List Tr} {i k : Nat} (hi : i < l.length) (hk : k < i) (h0 : cI (dvs l) i ++ cK (dvs l) i k = []) (hn : tcr (dv l 0 i) (dv l 0 k) ≠ tz) : flatD l = [q0U (tcr (dv l 0 i) (dv l 0 k))] := by
 have h1 : ∀ n, i < n → n ≤ l.length → ∃ t, cI (dvs l) n = q0U (tcr (dv l 0 i) (dv l 0 k)) :: t := by
  intro n
  induction n with
  |zero => intro h; omega
  |succ n ih =>
   intro h hl
   by_cases e : i = n
   ·subst e
    have h2 : ∀ m, k < m → ∃ t, cI (dvs l) i ++ cK (dvs l) i m = q0U (tcr (dv l 0 i) (dv l 0 k)) :: t := by
     intro m
     induction m with
     |zero => intro h; omega
     |succ m ihm =>
      intro hm
      by_cases e : k = m
      ·subst e
       rw [J0J, ← List.append_assoc, h0, z0R hi, z0R (by omega), if_neg hn]
       exact ⟨[], rfl⟩
      ·obtain ⟨t, ht⟩ := ihm xO
       rw [J0J, ← List.append_assoc, ht]
       exact ⟨_, rfl⟩
    rw [z0s]
    exact h2 i hk
   ·obtain ⟨t, ht⟩ := ih xO xO
    rw [z0s, ht]
    exact ⟨_, rfl⟩
 obtain ⟨t, ht⟩ := h1 l.length hi (Nat.le_refl _)
 unfold flatD
 rw [← Z0Q, W0g, ht]; rfl
theorem x1u (l : List Tr) (a b c : Nat) : tac (gt l a) (gt l b) (gt l c) = tcr (dv l a b) (dv l a c) := by unfold tac dv; rfl
theorem j1H {l : List Tr} (h : z0p l) : ∃ i k, i < l.length ∧ k < i ∧ tcr (dv l 0 i) (dv l 0 k) ≠ tz := by
 refine Classical.byContradiction fun hno => ?_
 have h0 : ∀ i k, i < l.length → k < l.length → tcr (dv l 0 i) (dv l 0 k) = tz := fun i k hi hk => by
  refine Classical.byContradiction fun hn => ?_
  rcases (by omega : k < i ∨ i < k ∨ i = k) with h1 | h1 | h1
  ·exact hno ⟨i, k, hi, h1, hn⟩
  ·exact hno ⟨k, i, hk, h1, fun e => hn (by rw [z0k, e]; rfl)⟩
  ·subst h1; exact hn (K0u _)
 obtain ⟨a, b, c, ha, hb, hc, hn⟩ := h
 refine hn ?_
 have e : tac (gt l a) (gt l b) (gt l c) = j0E (j0E (tcr (dv l 0 b) (dv l 0 c)) (tcr (dv l 0 b) (dv l 0 a))) (tcr (dv l 0 a) (dv l 0 c)) := by
  simp only [tac, dv, j0E, tcr, Tr.mk.injEq]; refine ⟨?_, ?_, ?_⟩ <;> grind
 rw [e, h0 b c hb hc, h0 b a hb ha, h0 a c ha hc]; rfl
theorem flatD_ex {l : List Tr} (h : z0p l) : ∃ i k, i < l.length ∧ k < l.length ∧ tcr (dv l 0 i) (dv l 0 k) ≠ tz ∧ flatD l = [q0U (tcr (dv l 0 i) (dv l 0 k))] := by
 obtain ⟨i, k, hi, hk, hn⟩ := j1H h
 have hm : q0U (tcr (gt (dvs l) i) (gt (dvs l) k)) ∈ j0V (dvs l) := q0h.2 ⟨i, k, by rw [W0g]; exact hi, hk, by rw [z0R hi, z0R (by omega)]; exact hn, rfl⟩
 cases hc : j0V (dvs l) with
 |nil => rw [hc] at hm; cases hm
 |cons d t =>
  obtain ⟨i, k, hi, hk, hn, e⟩ := q0h.1 (show d ∈ j0V (dvs l) by rw [hc]; simp)
  rw [W0g] at hi
  rw [z0R hi, z0R (by omega)] at hn e
  exact ⟨i, k, hi, by omega, hn, by unfold flatD; rw [hc, e]; rfl⟩
theorem q1h {l : List Tr} (h : z0p l) (hS : ¬ Sol l) : w0S l (flatD l) = w0S l (j0V (w0y l)) := by
 obtain ⟨i, k, hi, hk, hn, e⟩ := flatD_ex h
 have h0 : 0 < l.length := by omega
 have hm := y0G h0 hi h0 hk hn
 rw [e]
 obtain ⟨y, hy, hyl, _⟩ := y0z (l := l) (L := j0V (w0y l)) x0j (fun he => by rw [he] at hm; cases hm)
 rw [hy]
 show some _ = some y
 congr 1
 have hw : tac (gt l 0) (gt l i) (gt l k) ≠ tz := by rw [x1u]; exact hn
 have q1 := (flat_gap hS h0 hi hk hw _ hm).1
 have q2 := (flat_gap hS h0 hi hk hw _ hyl).1
 obtain ⟨a, b, _, _, hab, rfl⟩ := q0h.1 hyl
 rw [← J0K hn, ← J0K hab]
 exact x0i (q0G hn) (q0G hab) (x0Y hw q1 q2)
theorem q1g {l : List Tr} (hl : RT l) (h7 : l.length ≤ 7) (h : z0p l) : w0S l (x0W l) = w0S l (j0V (w0y l)) := by
 unfold x0W
 by_cases hd : (spn l).dim = 3
 ·rw [if_pos hd]
  exact q1k ⟨hl, h7, (q0V l).1 hd⟩
 ·rw [if_neg hd]
  exact q1h h (fun hS => hd ((q0V l).2 hS))
theorem k0c (l : List Tr) : z0p l ↔ 2 ≤ (spn l).dim := by
 have h := SpI.to l l.length (Nat.le_refl _)
 have e : J0B l l.length = spn l := rfl
 rw [e] at h
 constructor
 ·rintro ⟨a, b, c, ha, hb, hc, hn⟩
  rcases h.rg with h1 | h1 | h1 | h1 | h1
  ·have := h.no h1; omega
  ·exact absurd (by rw [h.d0 h1 a ha, h.d0 h1 b hb]; exact x1t _ _) hn
  ·exfalso
   obtain ⟨hw, hp⟩ := h.d1 h1
   have q1 := W0V _ _ _ _ (hp a ha) (hp b hb)
   have q2 := W0V _ _ _ _ (hp a ha) (hp c hc)
   refine hn ?_
   rw [x1u]
   exact x0Y hw q1 q2
  ·omega
  ·omega
 ·intro h2
  rcases h.rg with h1 | h1 | h1 | h1 | h1
  ·omega
  ·omega
  ·omega
  ·obtain ⟨hw, _⟩ := h.d2 h1
   obtain ⟨i0, hi0, ep⟩ := h.pt xO
   obtain ⟨i, j, hi, hj, g, hg, hp⟩ := h.w2 h1
   refine ⟨i0, i, j, hi0, hi, hj, fun e => ?_⟩
   rw [x1u] at e
   unfold dv at e
   rw [ep] at e
   have := hp (spn l).way
   rw [e, X1o] at this
   have h3 := q0j hw
   have h4 := Int.mul_ne_zero hg (show j0b (spn l).way (spn l).way ≠ 0 by omega)
   omega
  ·obtain ⟨a, b, c, d, ha, hb, hc, hd, hs⟩ := (q0V l).1 h1
   exact ⟨a, b, c, ha, hb, hc, fun e => hs (z0g e _)⟩
theorem z1S {l : List Tr} (h : Sol l) : z0p l := by
 obtain ⟨a, b, c, d, ha, hb, hc, hd, hs⟩ := h
 exact ⟨a, b, c, ha, hb, hc, fun e => hs (z0g e _)⟩
def rkI (l : List Tr) : Int := if (spn l).dim = 3 then 3 else rA l l.length
theorem w1J (l : List Tr) : 2 ≤ rkI l ↔ z0p l := by
 unfold rkI
 by_cases h : (spn l).dim = 3
 ·rw [if_pos h]
  exact ⟨fun _ => z1S ((q0V l).1 h), fun _ => by omega⟩
 ·rw [if_neg h]
  have := W1A l l.length
  exact ⟨fun h2 => W1C (by omega), fun hw => by rw [q2u hw]; omega⟩
def lm (l : List Tr) : Tr := (w0S l (j0V (w0y l))).getD tz
theorem W1f {l : List Tr} (h : z0p l) : w0S l (j0V (w0y l)) = some (lm l) := by
 obtain ⟨m, hm, _⟩ := V0P h
 unfold lm; rw [hm]; rfl
theorem Z1E {l : List Tr} (h : z0p l) : lm l ∈ j0V (w0y l) := by
 obtain ⟨m, hm, h2, _⟩ := V0P h
 unfold lm; rw [hm]; exact h2
theorem X0Q {l : List Tr} (h : z0p l) : MinD l (lm l) := by
 obtain ⟨m, hm, _, h2⟩ := V0P h
 unfold lm; rw [hm]; exact h2
theorem J0l {g : List Tr} (hg : ∀ v ∈ g, BT 200000 v) : ∀ d ∈ j0V g, BT 80000000000 d := fun d hd => by
 obtain ⟨i, k, hi, hk, _, rfl⟩ := q0h.1 hd
 have h1 : gt g i ∈ g := by unfold gt; simp [List.getD, hi]
 have h2 : gt g k ∈ g := by unfold gt; simp [List.getD, show k < g.length by omega]
 exact V0U (((hg _ h1).cr (hg _ h2)).le xE)
theorem K1Q {l : List Tr} (hl : RT l) (h : z0p l) : BT 80000000000 (lm l) := J0l (X0I hl) _ (Z1E h)
end Go.Proofs.YtgblokifbgeegaaGreatDoor.H.S
namespace Go.Proofs.YtgblokifbgeegaaGreatDoor.H.S
open Go Go.Vc Go.RowKit H.G Go.Sort
set_option maxHeartbeats 8000000
theorem Z0k {ety : TypeId} {Z : j0q} {w : World} {b cap : Nat} {arr : Array Value} {l d : List Int} {q : Nat} {os : Array Obj} (h2 : ¬ Z b) (h3 : w.heap[b]? = some (.cells arr ety (0, 0))) (h4 : l.length ≤ cap) (h5 : cap ≤ maxLen) (h6 : arr.size = cap * 1) (hd : d.length = l.length) {n' : Nat} (hn : n' ≤ l.length) {l' : List Int} (hl : ∀ i, i < n' → gz d i = gz l' i) :
  w.grownBy (grow (putRow (Value.int .i64) (Sort.ahead w q) b 0 d.toArray) os) (some b) ∧ RowAt (grow (putRow (Value.int .i64) (Sort.ahead w q) b 0 d.toArray) os) Z ety 1 n' (zf l') (.slice (some ⟨b, 0, none⟩) n' cap) := by
 have hb := (Array.getElem?_eq_some_iff.1 h3).1
 refine ⟨⟨rfl, rfl, rfl, by simp [grow, putRow, mapBlock, Sort.ahead], fun k hk hne => ?_⟩, .inr ⟨b, cap, putCells (Value.int .i64) 0 d.toArray arr, rfl, h2, ?_, by omega, h5, ?_, fun i hi j hj => ?_⟩⟩
 ·rw [heap_grow_old _ _ (by simpa [putRow, mapBlock, Sort.ahead] using hk)]
  have : b ≠ k := fun e => hne (by rw [e])
  simp [putRow, mapBlock, Sort.ahead, Array.getElem?_modify, this]
 ·rw [heap_grow_old _ _ (by simpa [putRow, mapBlock, Sort.ahead] using hb)]
  simp [putRow, mapBlock, Sort.ahead, Array.getElem?_modify, h3, onCells]
 ·simp [putCells, h6]
 ·obtain rfl : j = 0 := by omega
  refine ⟨.int .i64 (gz l' i), ?_, rfl⟩
  have hal : i < arr.size := by omega
  simp only [putCells, Nat.mul_one, Nat.add_zero]
  rw [Array.getElem?_mapIdx, Array.getElem?_eq_getElem hal]
  simp only [Option.map_some]
  rw [if_pos ⟨Nat.zero_le _, by simp; omega⟩, ← hl i hi]
  have hid : i < d.toArray.size := by simp; omega
  rw [Nat.sub_zero, getElem!_pos d.toArray i hid]
  simp [gz, List.getD, show i < d.length by omega]
theorem Q0F {ety : TypeId} {Z : j0q} {w : World} {b : Nat} {arr : Array Value} {l : List Int} (h3 : w.heap[b]? = some (.cells arr ety (0, 0))) (h7 : ∀ i, i < l.length → ∀ j, j < 1 → ∃ u, arr[i * 1 + j]? = some u ∧ (zf l i j).ok Z w u) : Holds (Value.int .i64) w b 0 l.toArray := by
 intro j hj
 have hj' : j < l.length := by simpa using hj
 obtain ⟨u, hu, hk⟩ := h7 j hj' 0 xO
 obtain rfl : u = .int .i64 (gz l j) := hk
 refine ⟨?_, by simp [World.frozen?, h3]⟩
 simp only [World.cell?, h3, Nat.zero_add]
 rw [getElem!_pos l.toArray j hj]
 simp only [Nat.mul_one, Nat.add_zero] at hu
 simpa [gz, List.getD, hj'] using hu
theorem Y0l (ety : TypeId) (l : List Int) (hn : l.length ≤ 1000000) : CtrW Tryz.prog 200 [] ety 1 l.length (zf l) l.length (zf (x0y l)) false := by
 refine ⟨w0W Tryz.func200 rfl rfl, fun w Z v vs hZ hvs hrow => ?_⟩
 match vs, hvs with
 |[], _ =>
  by_cases h0 : l.length = 0
  ·have hl : l = [] := List.eq_nil_of_length_eq_zero h0
   subst hl
   have hv : ∃ p cap, v = .slice p 0 cap := by
    rcases hrow with ⟨e, _⟩ | ⟨b, cap, arr, e, _⟩
    ·exact ⟨none, 0, e⟩
    ·exact ⟨_, cap, e⟩
   obtain ⟨p, cap, rfl⟩ := hv
   refine (Tryz.slices_Sort_int_none p cap w).mono ?_
   rintro e w' ⟨rfl, rfl⟩
   exact ⟨_, _, Z, rfl, rfl, ⟨rfl, rfl, rfl, Nat.le_refl _, fun _ _ _ => rfl⟩, fun _ h => h, fun _ h => .inl h, hZ.1, fun b hb => .inl hb, by
    rcases hrow with ⟨e, _⟩ | ⟨b, cap, arr, e, h2, h3, h4, h5, h6, h7⟩
    ·exact .inl ⟨e, rfl⟩
    ·exact .inr ⟨b, cap, arr, e, h2, h3, h4, h5, h6, fun i hi => by simp at hi⟩⟩
  ·rcases hrow with ⟨_, e⟩ | ⟨b, cap, arr, rfl, h2, h3, h4, h5, h6, h7⟩
   ·exact absurd e h0
   ·have hb := (Array.getElem?_eq_some_iff.1 h3).1
    refine (Tryz.slices_Sort_int b 0 cap l w (Q0F h3 h7) hb xO).mono ?_
    rintro e w' ⟨rfl, q, os, rfl⟩
    obtain ⟨hgr, hr⟩ := Z0k (Z := Z) (l := l) (d := x0y l) (q := q) (os := os) h2 h3 h4 h5 h6 (by unfold x0y; rw [List.length_mergeSort]) (Nat.le_refl _) (l' := x0y l) (fun _ _ => rfl)
    exact ⟨_, _, Z, rfl, rfl, hgr, fun _ h => h, fun _ h => .inl h, fun k hk => Nat.lt_of_lt_of_le (hZ.1 k hk) hgr.size, fun b hb => .inl hb, hr⟩
theorem w0C (ety : TypeId) (l : List Int) (hn : l.length ≤ 1000000) : CtrW Tryz.prog 201 [] ety 1 l.length (zf l) (Lib.compact l).length (zf (Lib.compact l)) true := by
 refine ⟨w0W Tryz.func201 rfl rfl, fun w Z v vs hZ hvs hrow => ?_⟩
 have hcl := Y0J l
 match vs, hvs with
 |[], _ =>
  by_cases h0 : l.length = 0
  ·have hl : l = [] := List.eq_nil_of_length_eq_zero h0
   subst hl
   have hv : ∃ p cap, v = .slice p 0 cap := by
    rcases hrow with ⟨e, _⟩ | ⟨b, cap, arr, e, _⟩
    ·exact ⟨none, 0, e⟩
    ·exact ⟨_, cap, e⟩
   obtain ⟨p, cap, rfl⟩ := hv
   refine (Tryz.slices_Compact_int_empty p cap w).mono ?_
   rintro e w' ⟨rfl, rfl⟩
   exact ⟨_, _, Z, rfl, rfl, ⟨rfl, rfl, rfl, Nat.le_refl _, fun _ _ _ => rfl⟩, fun _ h => h, fun _ h => .inl h, hZ.1, fun b hb => .inl hb, by
    rcases hrow with ⟨e, _⟩ | ⟨b, cap, arr, e, h2, h3, h4, h5, h6, h7⟩
    ·exact .inl ⟨e, rfl⟩
    ·exact .inr ⟨b, cap, arr, e, h2, h3, h4, h5, h6, fun i hi => absurd hi (by simp [Lib.compact, Lib.compactUpTo])⟩⟩
  ·rcases hrow with ⟨_, e⟩ | ⟨b, cap, arr, rfl, h2, h3, h4, h5, h6, h7⟩
   ·exact absurd e h0
   ·refine (Tryz.slices_Compact_int b 0 cap l w (Q0F h3 h7) xO h4).mono ?_
    rintro e w' ⟨rfl, q, rfl⟩
    obtain ⟨hgr, hr⟩ := Z0k (Z := Z) (l := l) (d := Lib.compact l ++ List.replicate (l.length - (Lib.compact l).length) 0) (q := q) (os := #[]) h2 h3 h4 h5 h6 (by simp; omega) hcl (l' := Lib.compact l) (fun i hi => Q0h hi)
    rw [grow_empty] at hgr hr
    exact ⟨_, _, Z, rfl, rfl, hgr, fun _ h => h, fun _ h => .inl h, fun k hk => Nat.lt_of_lt_of_le (hZ.1 k hk) hgr.size, fun b hb => .inl hb, hr⟩
theorem y1F (l : List Int) (i j : Nat) (hn : l.length ≤ 1000000) (h0 : 0 < l.length) (hij : i ≤ j) (hj : j ≤ l.length) : CtrW Tryz.prog 261 [.val (.int .i64 i), .val (.int .i64 j)] 3 1 l.length (zf l) (l.length - (j - i)) (zf (l.take i ++ l.drop j)) true := by
 refine ⟨w0W Tryz.func261 rfl rfl, fun w Z v vs hZ hvs hrow => ?_⟩
 match vs, hvs with
 |[v1, v2], ⟨h1, h2', _⟩ =>
  obtain rfl : v1 = .int .i64 i := h1
  obtain rfl : v2 = .int .i64 j := h2'
  rcases hrow with ⟨_, e⟩ | ⟨b, cap, arr, rfl, h2, h3, h4, h5, h6, h7⟩
  ·omega
  ·refine (Tryz.slices_Delete_int b 0 cap i j l w (Q0F h3 h7) h4 (Nat.le_trans h5 xE) hij hj).mono ?_
   rintro e w' ⟨rfl, q, rfl⟩
   obtain ⟨hgr, hr⟩ := Z0k (Z := Z) (l := l) (d := l.take i ++ l.drop j ++ List.replicate (j - i) 0) (q := q) (os := #[]) h2 h3 h4 h5 h6 (by simp; omega) (n' := l.length - (j - i)) (by omega) (l' := l.take i ++ l.drop j) (fun k hk => Q0h (by simp; omega))
   rw [grow_empty] at hgr hr
   exact ⟨_, _, Z, rfl, rfl, hgr, fun _ h => h, fun _ h => .inl h, fun k hk => Nat.lt_of_lt_of_le (hZ.1 k hk) hgr.size, fun b hb => .inl hb, hr⟩
end Go.Proofs.YtgblokifbgeegaaGreatDoor.H.S
namespace Go.Proofs.YtgblokifbgeegaaGreatDoor.H.S
open Go Go.Vc Go.RowKit H.G
set_option maxHeartbeats 8000000
theorem q2s (n : Int) : CtrA Tryz.prog 260 [vi n] (vb (decide (n ≠ 0))) := by
 refine j0p _ Tryz.func260 rfl rfl Tryz.ntmps260 rfl fun w Z => ?_
 refine xU ?_
 refine wt ?_
 exact j0e rfl (.tmp rfl) (congrArg vb (by rw [Bool.eq_iff_iff]; simp))
theorem k0G {g : Nat} {p : Int → Bool} (hg : ∀ n, CtrA Tryz.prog g [vi n] (vb (p n))) (l : List Int) (hn : l.length ≤ 100000) : CtrA Tryz.prog 176 [zs l, .val (.func (.func g) #[] #[])] (vi (ixB (fun k => p (gz l k)) l.length)) := by
 refine j0p _ Tryz.func176 rfl rfl Tryz.ntmps176 rfl fun w Z => ?_
 refine xU ?_
 refine wt ?_
 refine j0f (γ := Nat) (fun k => [(0, .av (zs l)), (1, .av (.val (.func (.func g) #[] #[]))), (6, .av (zs l)), (7, .av (vi l.length)), (8, .av (vi k))]) (fun _ => []) (fun k => k ≤ l.length ∧ ∀ j, j < k → p (gz l j) = false) (fun k => l.length - k) 0 ⟨Nat.zero_le _, by omega⟩ (ent xS trivial) ?_
 rintro k ⟨hk, hall⟩
 refine wt ?_
 (refine j0a rfl ?_ ?_ <;> intro hb <;> (try simp only [xA, xB, xG, xC, xD, xN] at hb) <;> (try exact xQ))
 ·have hkl : k < l.length := by omega
  have hgk := hg (gz l k)
  refine wt ?_
  (refine j0a rfl ?_ ?_ <;> intro hb <;> (try simp only [xA, xB, xG, xC, xD, xN] at hb) <;> (try exact xQ))
  ·have e1 := Q0n (p := fun k => p (gz l k)) hkl hall hb
   refine wt ?_
   exact j0e rfl (.tmp rfl) (by rw [e1])
  ·refine wt ?_
   exact j0c (k + 1) ⟨by omega, k0t (p := fun k => p (gz l k)) hall (by simpa using hb)⟩ (by omega) (ent xS trivial)
 ·have hkl : k = l.length := by omega
  subst hkl
  have e1 := v1M (p := fun k => p (gz l k)) hall
  refine wt ?_
  exact j0e rfl (.tmp rfl) (by rw [e1])
theorem q2c (w : World) : (Instr.buildSlice 40 0 #[]).run Tryz.prog w = .ok (.slice (some ⟨w.heap.size, 0, none⟩) 0 0) (w.alloc (.cells #[] 3)) := by kernel_rfl
theorem q2f (x y : Operand) (a : Addr) (n c : Nat) (w : World) : (eqGuard .eql 40 x y (.slice (some a) n c) (.slice none 0 0)).run Tryz.prog w = .ok () w := by kernel_rfl
theorem q2k (a : Addr) (n c : Nat) (w : World) : (binOp .eql 40 (.slice (some a) n c) (.slice none 0 0)).run Tryz.prog w = .ok (.bool false) w := by kernel_rfl
theorem V1i (l : List Int) (h0 : 0 < l.length) (hn : l.length ≤ 1000) : CtrR Tryz.prog 262 [zs l] 3 1 l.length (zf l) [] := by
 refine q1M _ Tryz.func262 rfl rfl Tryz.ntmps262 rfl fun w Z => ?_
 have hml : 0 + l.length ≤ maxLen := by simp only [maxLen]; omega
 refine xU ?_
 refine wt ?_
 repeat' (first
   |(refine j0n (z0B (fun a n c w => q2f _ _ a n c w) (fun a n c w => q2k a n c w) rfl rfl h0) rfl ?_; refine wt ?_)
   |(refine j0u (K1I (zf []) 70 q2c rfl) rfl ?_; refine wt ?_)
   |(refine j0u (v0i (h := zf l) (m := l.length) rfl rfl rfl (fun i _ j _ => K1k l i j) h0 hml xO) rfl ?_; refine wt ?_))
 exact w0A rfl rfl rfl (by omega) (fun i hi j hj => by unfold v0J; rw [if_neg (by omega)]; rfl)
end Go.Proofs.YtgblokifbgeegaaGreatDoor.H.S
namespace Go.Proofs.YtgblokifbgeegaaGreatDoor.H.S
open Go Go.Vc Go.RowKit Go.Na Go.Lib
set_option maxHeartbeats 8000000
theorem K1W (n : Int) : CtrA Tryz.prog 177 [vi n] (vb (decide (n ≠ 0))) := by
 refine j0p _ Tryz.func177 rfl rfl Tryz.ntmps177 rfl fun w Z => ?_
 refine xU ?_
 refine wt ?_
 exact j0e rfl (.tmp rfl) (congrArg vb (by rw [Bool.eq_iff_iff]; simp))
theorem y1j {n : Tr} (h : n ≠ tz) : (axI n = 0 ∧ n.x ≠ 0) ∨ (axI n = 1 ∧ n.x = 0 ∧ n.y ≠ 0) ∨ (axI n = 2 ∧ n.x = 0 ∧ n.y = 0 ∧ n.z ≠ 0) := by
 unfold axI
 by_cases hx : n.x = 0
 ·by_cases hy : n.y = 0
  ·have hz : n.z ≠ 0 := fun hz => h (by cases n; simp only [tz, Tr.mk.injEq]; exact ⟨hx, hy, hz⟩)
   refine .inr (.inr ⟨?_, hx, hy, hz⟩)
   exact Q0n (k := 2) (show 2 < 3 by decide) (fun j hj => by
    rcases (by omega : j = 0 ∨ j = 1) with rfl | rfl
    ·exact decide_eq_false (fun h => h hx)
    ·exact decide_eq_false (fun h => h hy)) (decide_eq_true hz)
  ·refine .inr (.inl ⟨?_, hx, hy⟩)
   exact Q0n (k := 1) (show 1 < 3 by decide) (fun j hj => by
    obtain rfl : j = 0 := by omega
    exact decide_eq_false (fun h => h hx)) (decide_eq_true hy)
 ·refine .inl ⟨?_, hx⟩
  exact Q0n (k := 0) (show 0 < 3 by decide) (fun j hj => by omega) (decide_eq_true hx)
theorem k1M {d : Tr} (h : d ≠ tz) : tg d ≠ 0 := fun e => h (by
 unfold tg at e
 have h1 := Nat.gcd_eq_zero_iff.1 e
 have h2 := Nat.gcd_eq_zero_iff.1 h1.1
 have h3 := Nat.gcd_eq_zero_iff.1 h2.1
 cases d
 simp only [tz, Tr.mk.injEq]
 simp only at h1 h2 h3
 omega)
theorem j2n : tg tz = 0 := rfl
def X1Q (d : Tr) (G : Int) : Tr := ⟨d.x.tdiv G, d.y.tdiv G, d.z.tdiv G⟩
theorem y1o {d : Tr} (h : d ≠ tz) : q0U d = if ngT d then X1Q d (-(tg d : Int)) else X1Q d (tg d : Int) := by
 obtain ⟨g, g0, hp⟩ := Q0N h
 have ex : d.x = g * (tpr d).x := by have := hp ⟨1, 0, 0⟩; simpa [j0b] using this
 have ey : d.y = g * (tpr d).y := by have := hp ⟨0, 1, 0⟩; simpa [j0b] using this
 have ez : d.z = g * (tpr d).z := by have := hp ⟨0, 0, 1⟩; simpa [j0b] using this
 have s : ∀ v : Int, (g * v < 0 ↔ v < 0) ∧ (g * v = 0 ↔ v = 0) := fun v => by
  rcases (by omega : v < 0 ∨ v = 0 ∨ 0 < v) with h | h | h
  ·have := Int.mul_neg_of_pos_of_neg g0 h; omega
  ·subst h; simp
  ·have := Int.mul_pos g0 h; omega
 have hn : ngT d ↔ ngT (tpr d) := by
  unfold ngT
  rw [ex, ey, ez, (s _).1, (s _).1, (s _).1, (s _).2, (s _).2]
 have ht : tpr d = X1Q d (tg d) := by unfold tpr; rw [if_neg (k1M h)]; rfl
 unfold q0U
 by_cases hg : ngT d
 ·rw [if_pos (hn.1 hg), if_pos hg, ht]
  simp only [j0P, X1Q, Int.tdiv_neg]
  simp
 ·rw [if_neg (fun h => hg (hn.2 h)), if_neg hg, ht]
theorem Z1w (a : Tr) (w : World) : (Instr.index 22 (.agg [.int .i64 a.x, .int .i64 a.y, .int .i64 a.z].toArray) (.int .i64 (((0 : Nat)) : Int))).run Tryz.prog w = .ok (.int .i64 (co a 0)) w := by kernel_rfl
theorem Z1x (a : Tr) (w : World) : (Instr.index 22 (.agg [.int .i64 a.x, .int .i64 a.y, .int .i64 a.z].toArray) (.int .i64 (((1 : Nat)) : Int))).run Tryz.prog w = .ok (.int .i64 (co a 1)) w := by kernel_rfl
theorem Z1y (a : Tr) (w : World) : (Instr.index 22 (.agg [.int .i64 a.x, .int .i64 a.y, .int .i64 a.z].toArray) (.int .i64 (((2 : Nat)) : Int))).run Tryz.prog w = .ok (.int .i64 (co a 2)) w := by kernel_rfl
theorem q2o (a : Tr) (k : Nat) (h : k < 3) (w : World) : (Instr.index 22 (.agg [.int .i64 a.x, .int .i64 a.y, .int .i64 a.z].toArray) (.int .i64 k)).run Tryz.prog w = .ok (.int .i64 (co a k)) w := by
 rcases (by omega : k = 0 ∨ k = 1 ∨ k = 2) with rfl | rfl | rfl
 ·exact Z1w a w
 ·exact Z1x a w
 ·exact Z1y a w
abbrev v3 (d : Tr) : List Value := [.int .i64 d.x, .int .i64 d.y, .int .i64 d.z]
def dvL (d : Tr) (G : Int) : Nat → List Value
 |0 => v3 d
 |1 => [.int .i64 (d.x.tdiv G), .int .i64 d.y, .int .i64 d.z]
 |2 => [.int .i64 (d.x.tdiv G), .int .i64 (d.y.tdiv G), .int .i64 d.z]
 |_ => v3 (X1Q d G)
theorem x1W (d : Tr) (h : BT 1000000000000 d) : CtrA Tryz.prog 136 [tp d] (j0x [tp (if d = tz then d else q0U d), vb (decide (d ≠ tz))]) := by
 refine j0p _ Tryz.func136 rfl rfl Tryz.ntmps136 rfl fun w Z => ?_
 have hc : ∀ k, k < 3 → Bn 1000000000000 (co d k) := fun k hk => by
  match k, hk with
  |0, _ => exact h.x
  |1, _ => exact h.y
  |2, _ => exact h.z
 have hle := Q1t h
 refine xU ?_
 refine y0F ?_
 refine q0C ?_
 refine j0u (y0M (us := v3 d) 9 rfl rfl) rfl ?_
 refine wt ?_
 repeat' (first
   |(refine j0n (v0L rfl rfl rfl) rfl ?_; refine wt ?_))
 refine j0f (γ := Nat × Int) (fun g => [(1, .own 9 0), (2, .own 10 0), (4, .av (vi g.2)), (9, .av (tp d)), (10, .av (vi g.1))]) (fun _ => [(9, .vb (v3 d)), (10, .cells [.av (vi 0), .av (vi 0), .av (vi 0)])]) (fun g => g.1 ≤ 3 ∧ g.2.natAbs = tgs d g.1) (fun g => 3 - g.1) (0, 0) ⟨by dsimp only; omega, rfl⟩ (ent xS xT) ?_
 rintro ⟨k, b⟩ ⟨hk, hbk⟩
 dsimp only at hk hbk ⊢
 refine wt ?_
 (refine j0a rfl ?_ ?_ <;> intro hb <;> (try simp only [xA, xB, xG, xC, xD, xN] at hb) <;> (try exact xQ))
 ·have hk3 : k < 3 := by omega
  have hck := hc k hk3
  have hlk := hle k hk
  have hl1 := hle (k + 1) xO
  obtain ⟨hc1, hc2⟩ := hck
  refine wt ?_
  repeat' (first
    |(refine j0n (k0y rfl rfl (fun w => q2o d k hk3 w)) rfl ?_; refine wt ?_))
  refine j0f (γ := Int × Int) (fun g => [(1, .own 9 0), (2, .own 10 0), (4, .av (vi g.1)), (6, .av (vi g.2)), (9, .av (tp d)), (10, .av (vi k))]) (fun _ => [(9, .vb (v3 d)), (10, .cells [.av (vi 0), .av (vi 0), .av (vi 0)])]) (fun g => Nat.gcd g.1.natAbs g.2.natAbs = tgs d (k + 1) ∧ g.1.natAbs ≤ 1000000000000 ∧ g.2.natAbs ≤ 1000000000000) (fun g => g.2.natAbs) (b, co d k) ⟨by dsimp only; rw [hbk]; rfl, by dsimp only; omega, by dsimp only; omega⟩ (ent xS xT) ?_
  rintro ⟨g, m⟩ ⟨hg, hg1, hm1⟩
  dsimp only at hg hg1 hm1 ⊢
  refine wt ?_
  (refine j0a rfl ?_ ?_ <;> intro hb <;> (try simp only [xA, xB, xG, xC, xD, xN] at hb) <;> (try exact xQ))
  ·have hm0 : 0 < m.natAbs := by omega
   have hlt : (g.tmod m).natAbs < m.natAbs := by rw [Int.natAbs_tmod]; exact Nat.mod_lt _ hm0
   refine wt ?_
   exact j0c (g := (g, m)) (m, g.tmod m) ⟨by dsimp only; rw [← hg, Int.natAbs_tmod, Nat.gcd_comm g.natAbs m.natAbs, Nat.gcd_rec m.natAbs g.natAbs, Nat.gcd_comm], by dsimp only; omega, by dsimp only; omega⟩ hlt (ent xS xT)
  ·have hm : m = 0 := by omega
   subst hm
   rw [Int.natAbs_zero, Nat.gcd_zero_right] at hg
   refine wt ?_
   exact j0c (g := (k, b)) (k + 1, g) ⟨by dsimp only; omega, hg⟩ (by dsimp only; omega) (ent ⟨.refl _, .refl _, .refl _, .refl _, .int (by dsimp only; omega), trivial⟩ xT)
 ·have hk3 : k = 3 := by omega
  subst hk3
  have hle3 := hle 3 xO
  rw [j2T] at hle3 hbk
  by_cases hz : d = tz
  ·subst hz
   have hb0 : b = 0 := by rw [j2n] at hbk; omega
   subst hb0
   rw [if_pos rfl, decide_eq_false (fun h => h rfl)]
   refine wt ?_
   repeat' (first
     |(refine j0n (v0L rfl rfl rfl) rfl ?_; refine wt ?_))
   exact j0A (rvs := [_, _]) (τs := [_, _]) rfl rfl ⟨.agg (us := v3 tz) rfl rfl rfl rfl, .tmp rfl, trivial⟩ rfl
  ·have hg0 := k1M hz
   rw [if_neg hz, decide_eq_true hz, y1o hz]
   obtain ⟨⟨x1, x2⟩, ⟨y1, y2⟩, ⟨z1, z2⟩⟩ := h
   have hmx : (if b < -b then -b else b) = (tg d : Int) := by split <;> omega
   generalize tg d = G at *
   have hix := k0G K1W (tl d) (show 3 ≤ 100000 by decide)
   rw [show ixB (fun k => decide (gz (tl d) k ≠ 0)) (tl d).length = axI d from rfl] at hix
   have hix := hix.of (args' := [.sl 3 1 (fun i _ => .val ((v3 d).getD (0 + 0 + i) undef)), .val (.func (.func 177) #[] #[])]) ⟨ALe.sl' rfl (fun i hi j hj => by
    rcases (by omega : i = 0 ∨ i = 1 ∨ i = 2) with rfl | rfl | rfl <;> rfl), .refl _, trivial⟩
   have hN1 : -(G : Int) ≠ 0 := by omega
   have hN2 : (G : Int) ≠ 0 := by omega
   refine wt ?_
   (refine j0a rfl ?_ ?_ <;> intro hb <;> (try simp only [xA, xB, xG, xC, xD, xN] at hb) <;> (try exact xQ))
   refine wt ?_
   rw [hmx]
   refine j0n (x0a (l := 0) (h := 3) rfl rfl rfl rfl xE xE xE) rfl ?_
   rcases y1j hz with ⟨ha, h0⟩ | ⟨ha, h0, h1⟩ | ⟨ha, h0, h1, h2⟩
   all_goals rw [ha] at hix
   all_goals refine j0n (q0g hix rfl ⟨.oc rfl rfl (Nat.le_refl 3), .av rfl, trivial⟩ (flat_val _)) rfl ?_
   all_goals refine wt ?_
   all_goals (refine j0a rfl ?_ ?_ <;> intro hb <;> (try simp only [xA, xB, xG, xC, xD, xN] at hb) <;> (try exact xQ))
   all_goals first
    |(rw [if_pos (show ngT d by unfold ngT; omega)]; refine wt ?_; generalize -(G : Int) = H at *)
    |(rw [if_neg (show ¬ ngT d by unfold ngT; omega)]; refine wt ?_; generalize (G : Int) = H at *)
   all_goals
    have hH : H ≠ 0 := by assumption
    refine j0f (γ := Nat) (fun k => [(1, .own 9 0), (2, .own 10 0), (4, .av (vi H)), (35, .av (vi k))]) (fun k => [(9, .vb (dvL d H k)), (10, .cells [.av (vi 0), .av (vi 0), .av (vi 0)])]) (fun k => k ≤ 3) (fun k => 3 - k) 0 (Nat.zero_le _) (ent xS xT) ?_
    intro k hk
    refine wt ?_
    (refine j0a rfl ?_ ?_ <;> intro hb <;> (try simp only [xA, xB, xG, xC, xD, xN] at hb) <;> (try exact xQ))
    ·rcases (by omega : k = 0 ∨ k = 1 ∨ k = 2) with rfl | rfl | rfl
     ·refine wt ?_
      repeat' (first
        |(refine v0P (v0s rfl rfl rfl rfl (show 0 < 3 by decide) rfl) ?_; refine wt ?_))
      exact j0c 1 xO xO (ent xS xT)
     ·refine wt ?_
      repeat' (first
        |(refine v0P (v0s rfl rfl rfl rfl (show 1 < 3 by decide) rfl) ?_; refine wt ?_))
      exact j0c 2 xO xO (ent xS xT)
     ·refine wt ?_
      repeat' (first
        |(refine v0P (v0s rfl rfl rfl rfl (show 2 < 3 by decide) rfl) ?_; refine wt ?_))
      exact j0c 3 xO xO (ent xS xT)
    ·obtain rfl : k = 3 := by omega
     refine wt ?_
     repeat' (first
       |(refine j0n (v0L rfl rfl rfl) rfl ?_; refine wt ?_))
     exact j0A (rvs := [_, _]) (τs := [_, _]) rfl rfl ⟨.agg (us := v3 (X1Q d H)) rfl rfl rfl rfl, .tmp rfl, trivial⟩ rfl
end Go.Proofs.YtgblokifbgeegaaGreatDoor.H.S
namespace Go.Proofs.YtgblokifbgeegaaGreatDoor.H.S
open Go Go.Vc Go.RowKit H.G
set_option maxHeartbeats 8000000
theorem V1T (s : List Int) (a : Int) (hn : s.length ≤ 100000) : CtrA Tryz.prog 202 [zs s, vi a] (vi (ixB (fun k => decide (a = gz s k)) s.length)) := by
 refine j0p _ Tryz.func202 rfl rfl Tryz.ntmps202 rfl fun w Z => ?_
 refine xU ?_
 refine wt ?_
 refine j0f (γ := Nat) (fun k => [(0, .av (zs s)), (1, .av (vi a)), (6, .av (zs s)), (7, .av (vi s.length)), (8, .av (vi k))]) (fun _ => []) (fun k => k ≤ s.length ∧ ∀ j, j < k → decide (a = gz s j) = false) (fun k => s.length - k) 0 ⟨Nat.zero_le _, by omega⟩ (ent xS trivial) ?_
 rintro k ⟨hk, hall⟩
 refine wt ?_
 (refine j0a rfl ?_ ?_ <;> intro hb <;> (try simp only [xA, xB, xG, xC, xD, xN] at hb) <;> (try exact xQ))
 ·have hkl : k < s.length := by omega
  refine wt ?_
  (refine j0a rfl ?_ ?_ <;> intro hb <;> (try simp only [xA, xB, xG, xC, xD, xN] at hb) <;> (try exact xQ))
  ·have e1 := Q0n (p := fun k => decide (a = gz s k)) hkl hall (decide_eq_true hb)
   refine wt ?_
   exact j0e rfl (.tmp rfl) (by rw [e1])
  ·refine wt ?_
   exact j0c (k + 1) ⟨by omega, k0t (p := fun k => decide (a = gz s k)) hall (decide_eq_false hb)⟩ xO (ent xS trivial)
 ·have hkl : k = s.length := by omega
  subst hkl
  have e1 := v1M (p := fun k => decide (a = gz s k)) hall
  refine wt ?_
  exact j0e rfl (.tmp rfl) (by rw [e1])
theorem V0a (s : List Int) (a : Int) (hn : s.length ≤ 100000) : CtrA Tryz.prog 179 [zs s, vi a] (vb (hasB s a)) := by
 refine j0p _ Tryz.func179 rfl rfl Tryz.ntmps179 rfl fun w Z => ?_
 have hi := V1T s a hn
 refine xU ?_
 have hq1 := hi
 refine wt ?_
 exact j0e rfl (.tmp rfl) (congrArg vb (Z1A s a))
theorem V1P (l : List Pt) (hs : Sml l) : CtrR Tryz.prog 230 [pts l] 3 1 (w0j l).length (xf (w0j l)) [vi (z0M l)] := by
 refine q1M _ Tryz.func230 rfl rfl Tryz.ntmps230 rfl fun w Z => ?_
 refine xU ?_
 have hq3 := W0D l
 refine wt ?_
 (refine j0a rfl ?_ ?_ <;> intro hb <;> (try simp only [xA, xB, xG, xC, xD, xN] at hb) <;> (try exact xQ))
 ·have e1 : z0M l = chk l := by simp [z0M, hb]
  have e2 : w0j l = [] := by simp [w0j, e1, hb]
  rw [e1, e2]
  refine wt ?_
  exact x0z rfl rfl rfl (τs := [vi (chk l)]) ⟨.tmp rfl, trivial⟩ rfl
 ·have hn1 := hs hb
  have hb' := hb
  refine wt ?_
  (refine j0a rfl ?_ ?_ <;> intro hb <;> (try simp only [xA, xB, xG, xC, xD, xN] at hb) <;> (try exact xQ))
  ·have e1 : z0M l = 13 := by simp [z0M, hb', show l.length = 0 by omega]
   have e2 : w0j l = [] := by simp [w0j, e1]
   rw [e1, e2]
   refine wt ?_
   exact x0z rfl rfl rfl (τs := [vi 13]) ⟨.tmp rfl, trivial⟩ rfl
  ·have e1 : z0M l = 0 := by simp [z0M, hb', show l.length ≠ 0 by omega]
   have e2 : w0j l = arr l := by simp [w0j, e1]
   have ha := y1i l hn1
   rw [e1, e2]
   refine wt ?_
   repeat' (first
     |(refine j0u (w0D 40 (ha) rfl rfl) rfl ?_; refine wt ?_))
   exact W0O rfl rfl rfl rfl (fun _ _ _ _ => rfl) (τs := [vi 0]) ⟨.tmp rfl, trivial⟩ rfl
theorem z1y (l : List Tr) (n : Tr) (h : n ≠ tz) (hn : l.length ≤ 1000) : CtrR Tryz.prog 231 [ts l, tp n] 82 2 (shN l n).length (pf (shN l n)) [] := by
 refine q1M _ Tryz.func231 rfl rfl Tryz.ntmps231 rfl fun w Z => ?_
 obtain ⟨hA, hA3⟩ := Y0D h
 have hix := k0G q2s (tl n) (show 3 ≤ 100000 by decide)
 rw [show ixB (fun k => decide (gz (tl n) k ≠ 0)) (tl n).length = ((axN n : Nat) : Int) from hA] at hix
 have hptr : ∀ i, i < 3 → (fun i => AV.val ([Go.Value.int .i64 n.x, .int .i64 n.y, .int .i64 n.z].getD i Go.undef)) i = (fun i => zf (tl n) i 0) i := fun i hi => by
  rcases (by omega : i = 0 ∨ i = 1 ∨ i = 2) with rfl | rfl | rfl <;> rfl
 unfold shN
 generalize axN n = ax at hA3 hix ⊢
 refine xU ?_
 have hq1 := hix
 refine wt ?_
 repeat' (first
   |(refine v0e (V1y (n := 3) 3 (f' := fun i => zf (tl n) i 0) rfl hptr) ?_; refine wt ?_)
   |(refine j0n (w0a rfl xE xE) rfl ?_; refine wt ?_))
 refine j0f (γ := Nat) (fun k => [(5, .av (vi ax)), (6, .osl 70), (12, .av (ts l)), (13, .av (vi l.length)), (14, .av (vi k))]) (fun k => [(70, .row 82 2 ((l.take k).map (shp ax)).length (pf ((l.take k).map (shp ax))))]) (fun k => k ≤ l.length) (fun k => l.length - k) 0 (Nat.zero_le _) (Ent.trans (w0x (dd := 6) 70 82 2 (pf []) rfl rfl) (ent xS xT)) ?_
 intro k hk
 refine wt ?_
 (refine j0a rfl ?_ ?_ <;> intro hb <;> (try simp only [xA, xB, xG, xC, xD, xN] at hb) <;> (try exact xQ))
 ·have hkl : k < l.length := by omega
  have ht := Q0g hkl
  have hl1 : ((l.take k).map (shp ax)).length ≤ k := by rw [List.length_map, List.length_take]; omega
  have e1 : (l.take (k + 1)).map (shp ax) = (l.take k).map (shp ax) ++ [shp ax (gt l k)] := by rw [ht]; simp
  generalize (l.take k).map (shp ax) = X at hl1 e1 ⊢
  have hcl := V1i (tl (gt l k)) (show 0 < 3 by decide) (show 3 ≤ 1000 by decide)
  have hdl := y1F (tl (gt l k)) ax (ax + 1) (show 3 ≤ 1000000 by decide) (show 0 < 3 by decide) xO (show ax + 1 ≤ 3 by omega)
  rw [show ((ax + 1 : Nat) : Int) = (ax : Int) + 1 from by omega, show (tl (gt l k)).length - (ax + 1 - ax) = 2 from by rw [show (tl (gt l k)).length = 3 from rfl]; omega] at hdl
  have hml : X.length + 1 ≤ maxLen := by simp only [maxLen]; omega
  refine wt ?_
  repeat' (first
    |(refine v0e (v0n 8 10 (fun i => zf (tl (gt l k)) i 0) rfl rfl rfl) ?_; refine wt ?_)
    |(refine j0n (w0a (n := 3) rfl xE xE) rfl ?_; refine wt ?_)
    |(refine j0u (w0D 71 (hcl) rfl rfl) rfl ?_; refine wt ?_)
    |(refine j0u (v0F (hdl) rfl rfl rfl) rfl ?_; refine wt ?_)
    |(refine v0x (q0c (is := [0]) (xs := [_]) (vs := [_]) (us := [_, _]) (X1X _ _) rfl rfl rfl (k0V (shp ax (gt l k)))) rfl ?_; refine wt ?_))
  refine W0d tm (by kernel_rfl) ?_
  refine wt ?_
  exact j0c (k + 1) (by omega) (by omega) (ent xS ⟨⟨_, rfl, by rw [e1]; exact .refl _⟩, trivial⟩)
 ·have hkl : k = l.length := by omega
  subst hkl
  rw [List.take_length]
  refine wt ?_
  exact w0A rfl rfl rfl rfl (fun _ _ _ _ => rfl)
theorem X0x (l : List Tr) (n : Tr) (h : n ≠ tz) (hn : l.length ≤ 7) : CtrR Tryz.prog 199 [ts l, tp n] 3 1 (w0j (shN l n)).length (xf (w0j (shN l n))) [vi (z0M (shN l n))] := by
 refine q1M _ Tryz.func199 rfl rfl Tryz.ntmps199 rfl fun w Z => ?_
 have hsh := (z1y l n h xO).ro
 have hh := V1P (shN l n) (fun _ => by rw [y0r]; omega)
 refine xU ?_
 have hq2 := hsh
 refine wt ?_
 repeat' (first
   |(refine j0u (y0i 40 (hh) rfl rfl) rfl ?_; refine wt ?_))
 exact W0O rfl rfl rfl rfl (fun _ _ _ _ => rfl) (τs := [vi _]) ⟨.tmp rfl, trivial⟩ rfl
theorem K0W (l : List Tr) (d : Tr) (hl : RT l) (hd : BT 1000000000000 d) (hn : l.length ≤ 1000) : CtrA Tryz.prog 198 [ts l, tp d] (.val (.agg #[.int .i64 ((j1O l d l.length : Nat) : Int), .int .i64 ((j1N l d l.length : Nat) : Int)])) := by
 refine j0p _ Tryz.func198 rfl rfl Tryz.ntmps198 rfl fun w Z => ?_
 refine xU ?_
 refine wt ?_
 refine j0f (γ := Nat) (fun k => [(0, .av (ts l)), (3, .av (bt d)), (4, .own 10 0), (5, .own 11 0), (8, .av (ts l)), (9, .av (vi l.length)), (10, .av (vi k))]) (fun k => [(10, .cells [.av (vi 0), .av (vi 0)]), (11, .cells [.av (vi (j1O l d k)), .av (vi (j1N l d k))])]) (fun k => k ≤ l.length) (fun k => l.length - k) 0 (Nat.zero_le _) (ent xS xT) ?_
 intro k hk
 refine wt ?_
 (refine j0a rfl ?_ ?_ <;> intro hb <;> (try simp only [xA, xB, xG, xC, xD, xN] at hb) <;> (try exact xQ))
 ·have hkl : k < l.length := by omega
  have h1 := v1i l d k l.length hk xO
  have h2 := v1h l d k l.length hk xO
  have e1 : j1O l d (k + 1) = if j0b d (gt l k) < j0b d (gt l (j1O l d k)) then k else j1O l d k := rfl
  have e2 : j1N l d (k + 1) = if j0b d (gt l (j1N l d k)) < j0b d (gt l k) then k else j1N l d k := rfl
  generalize j1O l d k = lo at h1 e1 ⊢
  generalize j1N l d k = hi at h2 e2 ⊢
  refine wt ?_
  repeat' (first
    |(refine v0x (X0G (K0U _ _ hd (hl _) xE) rfl) rfl ?_; refine wt ?_))
  (refine j0a rfl ?_ ?_ <;> intro hb <;> (try simp only [xA, xB, xG, xC, xD, xN] at hb) <;> (try exact xQ))
  ·rw [if_pos hb] at e1
   refine wt ?_
   repeat' (first
     |(refine v0x (X0G (K0U _ _ hd (hl _) xE) rfl) rfl ?_; refine wt ?_))
   (refine j0a rfl ?_ ?_ <;> intro hb <;> (try simp only [xA, xB, xG, xC, xD, xN] at hb) <;> (try exact xQ))
   ·rw [if_pos hb] at e2
    refine wt ?_
    exact j0c (k + 1) (by omega) (by omega) (ent xS ⟨⟨_, rfl, .refl _⟩, ⟨_, rfl, by rw [e1, e2]; exact .refl _⟩, trivial⟩)
   ·rw [if_neg hb] at e2
    refine wt ?_
    exact j0c (k + 1) (by omega) (by omega) (ent xS ⟨⟨_, rfl, .refl _⟩, ⟨_, rfl, by rw [e1, e2]; exact .refl _⟩, trivial⟩)
  ·rw [if_neg hb] at e1
   refine wt ?_
   repeat' (first
     |(refine v0x (X0G (K0U _ _ hd (hl _) xE) rfl) rfl ?_; refine wt ?_))
   (refine j0a rfl ?_ ?_ <;> intro hb <;> (try simp only [xA, xB, xG, xC, xD, xN] at hb) <;> (try exact xQ))
   ·rw [if_pos hb] at e2
    refine wt ?_
    exact j0c (k + 1) (by omega) (by omega) (ent xS ⟨⟨_, rfl, .refl _⟩, ⟨_, rfl, by rw [e1, e2]; exact .refl _⟩, trivial⟩)
   ·rw [if_neg hb] at e2
    refine wt ?_
    exact j0c (k + 1) (by omega) (by omega) (ent xS ⟨⟨_, rfl, .refl _⟩, ⟨_, rfl, by rw [e1, e2]; exact .refl _⟩, trivial⟩)
 ·have hkl : k = l.length := by omega
  subst hkl
  refine wt ?_
  exact j0e rfl (.agg (us := [_, _]) rfl rfl rfl rfl) rfl
theorem Y1q (w : World) : (Instr.buildSlice 40 1 #[(0, .int .i64 0)]).run Tryz.prog w = .ok (.slice (some ⟨w.heap.size, 0, none⟩) 1 1) (w.alloc (.cells #[.int .i64 0] 3)) := by kernel_rfl
theorem j1E (l : List Tr) (L : List Fc) (τ : AV) (hl : RT l) (hn : l.length ≤ 7) (hτ : (spn l).dim ≠ -1 → (spn l).dim ≠ 0 → (spn l).dim ≠ 1 → (spn l).dim ≠ 2 → τ = .sl L.length 5 (ff L)) (hLn : L.length ≤ 1000) (hL : ∀ f ∈ L, f.n ≠ tz ∧ 0 < f.s.length ∧ f.s.length ≤ 7 ∧ ∀ i ∈ f.s, i < l.length) :
  CtrA Tryz.prog 178 [ts l, τ] (j0x [zs (z1O l L), vi 0]) := by
 refine j0p _ Tryz.func178 rfl rfl Tryz.ntmps178 rfl fun w Z => ?_
 have hsp := Q0K l hl xO
 have hok : SpOk (spn l) := SpOk.to hl l.length
 have hway := W1Z (l := l)
 have hpos := W1Y (l := l)
 have hv : z1O l L = Lib.compact (x0y (k1e l L)) := rfl
 unfold k1e at hv
 generalize spn l = s at hsp hok hway hpos hτ hv
 refine xU ?_
 have hq1 := hsp
 refine wt ?_
 (refine j0a rfl ?_ ?_ <;> intro hb <;> (try simp only [xA, xB, xG, xC, xD, xN] at hb) <;> (try exact xQ))
 ·rw [if_pos hb] at hv
  rw [hv]
  have hs := Y0l 3 [] xE
  have hc := w0C 3 (x0y []) (by rw [q0E]; decide)
  rw [q0E] at hc
  refine Y1x (w0x (dd := 6) 70 3 1 (zf []) rfl rfl) ?_
  refine wt ?_
  repeat' (first
    |(refine j0u (v0B (hs) rfl rfl rfl) rfl ?_; refine wt ?_)
    |(refine j0u (v0F (hc) rfl rfl rfl) rfl ?_; refine wt ?_))
  exact z0W (j0X 70 rfl) (j0A (rvs := [_, _]) (τs := [_, _]) rfl rfl ⟨.tmp rfl, .tmp rfl, trivial⟩ rfl)
 rw [if_neg hb] at hv
 have hm1 := hb
 refine wt ?_
 (refine j0a rfl ?_ ?_ <;> intro hb <;> (try simp only [xA, xB, xG, xC, xD, xN] at hb) <;> (try exact xQ))
 ·rw [if_pos hb] at hv
  rw [hv]
  have hs := Y0l 3 [0] xE
  have hc := w0C 3 (x0y [0]) (by rw [q0E]; decide)
  rw [q0E] at hc
  refine q0C ?_
  refine j0u (K1J (zf [0]) 70 Y1q (fun _ _ => rfl) rfl) rfl ?_
  refine wt ?_
  repeat' (first
    |(refine j0u (v0B (hs) rfl rfl rfl) rfl ?_; refine wt ?_)
    |(refine j0u (v0F (hc) rfl rfl rfl) rfl ?_; refine wt ?_))
  exact z0W (j0X 70 rfl) (j0A (rvs := [_, _]) (τs := [_, _]) rfl rfl ⟨.tmp rfl, .tmp rfl, trivial⟩ rfl)
 rw [if_neg hb] at hv
 have hm0 := hb
 refine wt ?_
 (refine j0a rfl ?_ ?_ <;> intro hb <;> (try simp only [xA, xB, xG, xC, xD, xN] at hb) <;> (try exact xQ))
 ·rw [if_pos hb] at hv
  rw [hv]
  have hw : BT 200000 s.way := by
   rcases hok.dim with e | e | e | e | e
   ·omega
   ·omega
   ·exact e.2
   ·omega
   ·omega
  have hx := K0W l s.way hl (hw.le xE) xO
  generalize j1O l s.way l.length = lo at hx ⊢
  generalize j1N l s.way l.length = hi at hx ⊢
  have hs := fun ety => Y0l ety [(lo : Int), (hi : Int)] (show 2 ≤ 1000000 by decide)
  have hc := fun ety => w0C ety (x0y [(lo : Int), (hi : Int)]) (by rw [q0E]; exact (show 2 ≤ 1000000 by decide))
  simp only [q0E] at hc
  have hq2 := hx
  refine wt ?_
  refine W0w (f := fun i => zf [(lo : Int), (hi : Int)] i 0) rfl rfl rfl xE rfl (fun ety => ?_)
  have hs' := hs ety
  have hc' := hc ety
  refine wt ?_
  repeat' (first
    |(refine j0u (v0B (hs') rfl rfl rfl) rfl ?_; refine wt ?_)
    |(refine j0u (v0F (hc') rfl rfl rfl) rfl ?_; refine wt ?_))
  exact z0W (j0X 11 rfl) (j0A (rvs := [_, _]) (τs := [_, _]) rfl rfl ⟨.tmp rfl, .tmp rfl, trivial⟩ rfl)
 rw [if_neg hb] at hv
 have hd1 := hb
 refine wt ?_
 (refine j0a rfl ?_ ?_ <;> intro hb <;> (try simp only [xA, xB, xG, xC, xD, xN] at hb) <;> (try exact xQ))
 ·rw [if_pos hb] at hv
  rw [hv]
  have hwy := hway xO
  have hc := X0x l s.way hwy hn
  rw [K0g hl hwy (hpos hm1) hn] at hc
  generalize hV : w0j (shN l s.way) = V at hc
  have hVl : V.length ≤ 14 := by have := X0L (shN l s.way); rw [y0r, hV] at this; omega
  have hs := Y0l 3 (x0f V) (by simp; omega)
  have hcc := w0C 3 (x0y (x0f V)) (by rw [q0E]; simp; omega)
  rw [q0E] at hcc
  have hxz := xz V
  have hnl : V.length = (x0f V).length := by simp
  refine wt ?_
  repeat' (first
    |(refine j0u (y0i 40 (hc) rfl rfl) rfl ?_; refine wt ?_))
  refine v0e (v1f (upd := [(40, .row 3 1 (x0f V).length (zf (x0f V)))]) ⟨⟨_, rfl, .row hnl hxz⟩, trivial⟩) ?_
  refine wt ?_
  repeat' (first
    |(refine j0u (v0B (hs) rfl rfl rfl) rfl ?_; refine wt ?_)
    |(refine j0u (v0F (hcc) rfl rfl rfl) rfl ?_; refine wt ?_))
  exact z0W (j0X 40 rfl) (j0A (rvs := [_, _]) (τs := [_, _]) rfl rfl ⟨.tmp rfl, .tmp rfl, trivial⟩ rfl)
 ·rw [if_neg hb] at hv
  rw [hv]
  rw [hτ hm1 hm0 hd1 hb]
  have hlen := Y0d l L (fun f hf => ⟨(hL f hf).1, (hL f hf).2.2.1⟩)
  refine wt ?_
  refine j0f (γ := Nat) (fun k => [(0, .av (ts l)), (6, .osl 70), (24, .av (.sl L.length 5 (ff L))), (25, .av (vi L.length)), (26, .av (vi k))]) (fun k => [(70, .row 3 1 (z0f l L k).length (zf (z0f l L k)))]) (fun k => k ≤ L.length) (fun k => L.length - k) 0 (Nat.zero_le _) (Ent.trans (w0x (dd := 6) 70 3 1 (zf []) rfl rfl) (ent xS xT)) ?_
  intro k hk
  refine wt ?_
  (refine j0a rfl ?_ ?_ <;> intro hb <;> (try simp only [xA, xB, xG, xC, xD, xN] at hb) <;> (try exact xQ))
  ·have hkl : k < L.length := by omega
   obtain ⟨f1, f2, f3, f4⟩ := hL (gf L k) (y0Y hkl)
   have hr : z0f l L (k + 1) = z0f l L k ++ vf l (gf L k) := rfl
   have hrl := hlen k hk
   have hff : ∀ j, ff L k j = fcf (gf L k) j := fun _ => rfl
   have hv2 : vf l (gf L k) = (w0U l (gf L k)).map (fun i => ((gi (gf L k).s i : Nat) : Int)) := rfl
   rw [hv2] at hr
   generalize z0f l L k = X at hr hrl ⊢
   refine wt ?_
   repeat' (first
     |(refine j0n (v0q rfl rfl) rfl ?_; refine wt ?_)
     |(refine v0P (q0d rfl rfl (v0W (gf L k)) rfl rfl) ?_; refine wt ?_))
   refine j0f (γ := Nat) (fun j => [(0, .av (ts l)), (6, .osl 70), (12, .av (.ptr 5 (fcf (gf L k)))), (24, .av (.sl L.length 5 (ff L))), (25, .av (vi L.length)), (26, .av (vi k)), (13, .osl 71), (31, .av (.sl (gf L k).s.length 1 (xf (gf L k).s))), (32, .av (vi (gf L k).s.length)), (33, .av (vi j))]) (fun j => [(70, .row 3 1 X.length (zf X)), (71, .row 165 3 ((((gf L k).s.take j).map (gt l)).length) (tf (((gf L k).s.take j).map (gt l))))]) (fun j => j ≤ (gf L k).s.length) (fun j => (gf L k).s.length - j) 0 (Nat.zero_le _) (Ent.trans (v0n 12 10 (fcf (gf L k)) rfl rfl rfl) (Ent.trans (w0x (dd := 13) 71 165 3 (tf []) rfl rfl) (ent xS xT))) ?_
   intro j hj
   refine wt ?_
   (refine j0a rfl ?_ ?_ <;> intro hb <;> (try simp only [xA, xB, xG, xC, xD, xN] at hb) <;> (try exact xQ))
   ·have hjl : j < (gf L k).s.length := by omega
    have hix := f4 _ (v0a hjl)
    have e1 : ((gf L k).s.take (j + 1)).map (gt l) = ((gf L k).s.take j).map (gt l) ++ [gt l (gi (gf L k).s j)] := by rw [k0A hjl, List.map_append]; rfl
    have hl1 : (((gf L k).s.take j).map (gt l)).length ≤ j := by rw [List.length_map, List.length_take]; omega
    generalize ((gf L k).s.take j).map (gt l) = Y at e1 hl1 ⊢
    have hml : Y.length + 1 ≤ maxLen := by simp only [maxLen]; omega
    refine wt ?_
    repeat' (first
      |(refine j0n (q0c (is := [0]) (xs := [_]) (vs := [_]) (us := [_, _, _]) (k1Q _ _ _) rfl rfl rfl (x1C _)) rfl ?_; refine wt ?_)
      |(refine j0u (v0i (h := tf [gt l (gi (gf L k).s j)]) (m := 1) rfl rfl rfl (fun i _ j _ => K0v _ i j) xO hml xO) rfl ?_; refine wt ?_))
    exact j0c (j + 1) (by omega) (by omega) (ent xS ⟨⟨_, rfl, .refl _⟩, ⟨_, rfl, .row (by rw [e1]; simp) (fun i hi j hj => by rw [e1]; exact x1B _ _ i hi j hj)⟩, trivial⟩)
   ·have hjl : j = (gf L k).s.length := by omega
    subst hjl
    rw [List.take_length]
    have hp := RT.pick hl (gf L k).s
    have hcr := X0x ((gf L k).s.map (gt l)) (gf L k).n f1 (by rw [List.length_map]; exact f3)
    rw [K0g hp f1 (by rw [List.length_map]; exact f2) (by rw [List.length_map]; exact f3)] at hcr
    rw [show w0U l (gf L k) = w0j (shN ((gf L k).s.map (gt l)) (gf L k).n) from rfl] at hr
    have hVlt : ∀ x ∈ w0j (shN ((gf L k).s.map (gt l)) (gf L k).n), x < (gf L k).s.length := fun x hx => by have := y1Y _ x hx; rwa [y0r, List.length_map] at this
    have hVl := X0w l (gf L k) f3
    rw [show w0U l (gf L k) = w0j (shN ((gf L k).s.map (gt l)) (gf L k).n) from rfl] at hVl
    generalize w0j (shN ((gf L k).s.map (gt l)) (gf L k).n) = V at hr hcr hVlt hVl
    refine wt ?_
    repeat' (first
      |(refine v0e (j0X 71 rfl) ?_; refine wt ?_)
      |(refine j0u (y0i 72 (hcr) rfl rfl) rfl ?_; refine wt ?_))
    refine j0f (γ := Nat) (fun m => [(0, .av (ts l)), (6, .osl 70), (12, .av (.ptr 5 (fcf (gf L k)))), (24, .av (.sl L.length 5 (ff L))), (25, .av (vi L.length)), (26, .av (vi k)), (55, .av (.sl V.length 1 (xf V))), (56, .av (vi V.length)), (57, .av (vi m))]) (fun m => [(70, .row 3 1 (X ++ (V.take m).map (fun i => ((gi (gf L k).s i : Nat) : Int))).length (zf (X ++ (V.take m).map (fun i => ((gi (gf L k).s i : Nat) : Int)))))]) (fun m => m ≤ V.length) (fun m => V.length - m) 0 (Nat.zero_le _) (Ent.trans (j0X 72 rfl) (ent xS ⟨⟨_, rfl, by rw [List.take_zero, List.map_nil, List.append_nil]; exact .refl _⟩, trivial⟩)) ?_
    intro m hm
    refine wt ?_
    (refine j0a rfl ?_ ?_ <;> intro hb <;> (try simp only [xA, xB, xG, xC, xD, xN] at hb) <;> (try exact xQ))
    ·have hml : m < V.length := by omega
     have hix := hVlt _ (v0a hml)
     have hff4 : gi V m < (gf L k).s.length := hix
     have e1 : (V.take (m + 1)).map (fun i => ((gi (gf L k).s i : Nat) : Int)) = (V.take m).map (fun i => ((gi (gf L k).s i : Nat) : Int)) ++ [((gi (gf L k).s (gi V m) : Nat) : Int)] := by rw [k0A hml, List.map_append]; rfl
     have hl1 : ((V.take m).map (fun i => ((gi (gf L k).s i : Nat) : Int))).length ≤ m := by rw [List.length_map, List.length_take]; omega
     have e2 : X ++ (V.take (m + 1)).map (fun i => ((gi (gf L k).s i : Nat) : Int)) = (X ++ (V.take m).map (fun i => ((gi (gf L k).s i : Nat) : Int))) ++ [((gi (gf L k).s (gi V m) : Nat) : Int)] := by rw [e1, List.append_assoc]
     have hYl : (X ++ (V.take m).map (fun i => ((gi (gf L k).s i : Nat) : Int))).length ≤ 14 * k + m := by rw [List.length_append]; omega
     generalize X ++ (V.take m).map (fun i => ((gi (gf L k).s i : Nat) : Int)) = Y at hYl e2 ⊢
     have hmx : Y.length + 1 ≤ maxLen := by simp only [maxLen]; omega
     refine wt ?_
     repeat' (first
       |(refine j0u (v0i (h := xf [gi (gf L k).s (gi V m)]) (m := 1) rfl rfl rfl (fun i _ j _ => rfl) xO hmx xO) rfl ?_; refine wt ?_))
     exact j0c (m + 1) (by omega) (by omega) (ent xS ⟨⟨_, rfl, .row (by rw [e2]; simp) (fun i hi j hj => by rw [e2]; exact K1m _ _ i hi j hj)⟩, trivial⟩)
    ·have hml : m = V.length := by omega
     subst hml
     rw [List.take_length]
     refine wt ?_
     exact j0c (k + 1) (by omega) (by omega) (ent xS ⟨⟨_, rfl, by rw [hr]; exact .refl _⟩, trivial⟩)
  ·have hkl : k = L.length := by omega
   subst hkl
   have hlL := hlen L.length (Nat.le_refl _)
   have hs := Y0l 3 (z0f l L L.length) xO
   have hc := w0C 3 (x0y (z0f l L L.length)) (by rw [q0E]; omega)
   rw [q0E] at hc
   refine wt ?_
   repeat' (first
     |(refine j0u (v0B (hs) rfl rfl rfl) rfl ?_; refine wt ?_)
     |(refine j0u (v0F (hc) rfl rfl rfl) rfl ?_; refine wt ?_))
   exact z0W (j0X 70 rfl) (j0A (rvs := [_, _]) (τs := [_, _]) rfl rfl ⟨.tmp rfl, .tmp rfl, trivial⟩ rfl)
theorem Y1H (l : List Tr) (hf : few l) : CtrA Tryz.prog 94 [ts l] (j0x [vi (if w0i l = 0 then (spn l).dim else 0), vi (w0i l)]) := by
 refine j0p _ Tryz.func94 rfl rfl Tryz.ntmps94 rfl fun w Z => ?_
 have hc := W0J l
 by_cases h : w0i l = 0
 ·rw [if_pos h]
  rw [h] at hc ⊢
  obtain ⟨hl, hn⟩ := hf.le h
  have hv := (Y0z l xO).ro
  have hs := Q0K l hl xO
  generalize spn l = s at hs ⊢
  refine xU ?_
  have hq1 := hc
  have hq2 := hv
  have hq3 := hs
  refine wt ?_
  repeat' (first
    |(refine j0n (k0x (us := [_, _, _, _, _, _, _]) rfl (x1c s)) rfl ?_; refine wt ?_))
  exact xW
 ·rw [if_neg h]
  generalize w0i l = e at h hc ⊢
  refine xU ?_
  have hq4 := hc
  refine wt ?_
  (refine j0a rfl ?_ ?_ <;> intro hb <;> (try simp only [xA, xB, xG, xC, xD, xN] at hb) <;> (try exact xQ))
  refine wt ?_
  exact xW
theorem j1F (l : List Tr) (hl : RT l) (hn : l.length ≤ 7) : CtrA Tryz.prog 178 [ts l, Q1h l] (j0x [zs (z1O l (j0i l)), vi 0]) :=
 j1E l (j0i l) (Q1h l) hl hn (fun h1 h2 h3 h4 => by
  have := y0J hl
  unfold Q1h
  rw [if_neg (by omega)]) (z0x l hn) (y0O hn)
theorem q2g (x y : Operand) (a : Addr) (n c : Nat) (w : World) : (eqGuard .eql 173 x y (.slice (some a) n c) (.slice none 0 0)).run Tryz.prog w = .ok () w := by kernel_rfl
theorem q2l (a : Addr) (n c : Nat) (w : World) : (binOp .eql 173 (.slice (some a) n c) (.slice none 0 0)).run Tryz.prog w = .ok (.bool false) w := by kernel_rfl
theorem V1x (l : List Tr) (L : List Fc) (V : List Int) (hs : CtrA Tryz.prog 175 [ts l] (j0x [ts l, fs L, vi 0])) (h0 : 0 < L.length) (hLn : L.length ≤ 1000) (hL : ∀ f ∈ L, f.s.length ≤ 7)
  (hv : CtrA Tryz.prog 178 [ts l, fs L] (j0x [zs V, vi 0])) (hV : V.length ≤ 14000) : CtrA Tryz.prog 137 [ts l] (j0x [es (Y1Q L V), vi 0]) := by
 refine j0p _ Tryz.func137 rfl rfl Tryz.ntmps137 rfl fun w Z => ?_
 have hlen := Y0M L V hV
 refine xU ?_
 have hq1 := hs
 have hq2 := hv
 refine wt ?_
 repeat' (first
   |(refine j0n (z0B (fun a n c w => q2g _ _ a n c w) (fun a n c w => q2l a n c w) rfl rfl h0) rfl ?_; refine wt ?_))
 refine j0f (γ := Nat) (fun k => [(5, .av (fs L)), (7, .av (zs V)), (8, .osl 70), (36, .av (zs V)), (37, .av (vi V.length)), (38, .av (vi k))]) (fun k => [(70, .row 73 2 (eTo L V k).length (ef (eTo L V k)))]) (fun k => k ≤ V.length) (fun k => V.length - k) 0 (Nat.zero_le _) (Ent.trans (w0x (dd := 8) 70 73 2 (ef []) rfl rfl) (ent xS xT)) ?_
 intro k hk
 refine wt ?_
 (refine j0a rfl ?_ ?_ <;> intro hb <;> (try simp only [xA, xB, xG, xC, xD, xN] at hb) <;> (try exact xQ))
 ·have hkl : k < V.length := by omega
  have e0 : eTo L V (k + 1) = eTo L V k ++ eM L V k (V.length - (k + 1)) := rfl
  have hk1 := hlen k
  generalize eTo L V k = X at e0 hk1 ⊢
  have hml := v1b L V k
  refine wt ?_
  repeat' (first
    |(refine j0n (x0o (lo := some (.tmp 45)) (hi := none) (l := k + 1) (h := V.length) rfl ⟨_, _, rfl, xO⟩ rfl xO xO) rfl ?_; refine wt ?_))
  refine j0f (γ := Nat) (fun m => [(5, .av (fs L)), (7, .av (zs V)), (8, .osl 70), (36, .av (zs V)), (37, .av (vi V.length)), (38, .av (vi k)), (10, .av (vi (gz V k))), (46, .av (.sl (V.length - (k + 1)) 1 (fun i => zf V (k + 1 + i)))), (47, .av (vi ((V.length - (k + 1) : Nat) : Int))), (48, .av (vi m))]) (fun m => [(70, .row 73 2 (X ++ eM L V k m).length (ef (X ++ eM L V k m)))]) (fun m => m ≤ V.length - (k + 1)) (fun m => V.length - (k + 1) - m) 0 (Nat.zero_le _) (ent xS ⟨⟨_, rfl, by rw [show eM L V k 0 = [] from rfl, List.append_nil]; exact .refl _⟩, trivial⟩) ?_
  intro m hm
  refine wt ?_
  (refine j0a rfl ?_ ?_ <;> intro hb <;> (try simp only [xA, xB, xG, xC, xD, xN] at hb) <;> (try exact xQ))
  ·have hmm : m < V.length - (k + 1) := by omega
   have e1 : eM L V k (m + 1) = eM L V k m ++ if 2 ≤ cnt L (gz V k) (gz V (k + 1 + m)) L.length then [(gz V k, gz V (k + 1 + m))] else [] := rfl
   have e2 : X ++ eM L V k (m + 1) = (X ++ eM L V k m) ++ if 2 ≤ cnt L (gz V k) (gz V (k + 1 + m)) L.length then [(gz V k, gz V (k + 1 + m))] else [] := by rw [e1, List.append_assoc]
   have hYl : (X ++ eM L V k m).length ≤ 14000 * k + 14000 := by rw [List.length_append]; have := hml m; omega
   generalize X ++ eM L V k m = Y at e2 hYl ⊢
   refine wt ?_
   refine j0f (γ := Nat) (fun q => [(5, .av (fs L)), (7, .av (zs V)), (8, .osl 70), (36, .av (zs V)), (37, .av (vi V.length)), (38, .av (vi k)), (10, .av (vi (gz V k))), (46, .av (.sl (V.length - (k + 1)) 1 (fun i => zf V (k + 1 + i)))), (47, .av (vi ((V.length - (k + 1) : Nat) : Int))), (48, .av (vi m)), (12, .av (vi (gz V (k + 1 + m)))), (13, .av (vi (cnt L (gz V k) (gz V (k + 1 + m)) q))), (52, .av (fs L)), (53, .av (vi L.length)), (54, .av (vi q))]) (fun q => [(70, .row 73 2 Y.length (ef Y))]) (fun q => q ≤ L.length) (fun q => L.length - q) 0 (Nat.zero_le _) (ent xS xT) ?_
   intro q hq
   have hql := J1j L (gz V k) (gz V (k + 1 + m)) q
   refine wt ?_
   (refine j0a rfl ?_ ?_ <;> intro hb <;> (try simp only [xA, xB, xG, xC, xD, xN] at hb) <;> (try exact xQ))
   ·have hqq : q < L.length := by omega
    have e3 : cnt L (gz V k) (gz V (k + 1 + m)) (q + 1) = cnt L (gz V k) (gz V (k + 1 + m)) q + if (hasB (x0f (gf L q).s) (gz V k) && hasB (x0f (gf L q).s) (gz V (k + 1 + m))) = true then 1 else 0 := rfl
    have hf6 := hL _ (y0Y hqq)
    have hc1 := V0a (x0f (gf L q).s) (gz V k) (by simp; omega)
    have hc2 := V0a (x0f (gf L q).s) (gz V (k + 1 + m)) (by simp; omega)
    rw [show zs (x0f (gf L q).s) = .sl (gf L q).s.length 1 (xf (gf L q).s) from by rw [X1K, zs, List.length_map]] at hc1 hc2
    generalize hasB (x0f (gf L q).s) (gz V k) = b1 at e3 hc1
    generalize hasB (x0f (gf L q).s) (gz V (k + 1 + m)) = b2 at e3 hc2
    generalize cnt L (gz V k) (gz V (k + 1 + m)) q = c at e3 hql ⊢
    have hfin : ∀ c' : Nat, c' = cnt L (gz V k) (gz V (k + 1 + m)) (q + 1) → (c' : Int) = ((cnt L (gz V k) (gz V (k + 1 + m)) (q + 1) : Nat) : Int) := fun _ h => by rw [h]
    cases b1 <;> cases b2
    ·have hq3 := hc1
     have hq4 := hc2
     refine wt ?_
     repeat' (first
       |(refine j0n (v0q rfl rfl) rfl ?_; refine wt ?_)
       |(refine v0P (q0d rfl rfl (v0W (gf L q)) rfl rfl) ?_; refine wt ?_))
     exact j0c (q + 1) (by omega) (by omega) (ent ⟨.refl _, .refl _, .refl _, .refl _, .refl _, .refl _, .refl _, .refl _, .refl _, .refl _, .refl _, .int (hfin _ (by rw [e3]; rfl)), .refl _, .refl _, .int (by omega), trivial⟩ xT)
    ·have hq5 := hc1
     have hq6 := hc2
     refine wt ?_
     repeat' (first
       |(refine j0n (v0q rfl rfl) rfl ?_; refine wt ?_)
       |(refine v0P (q0d rfl rfl (v0W (gf L q)) rfl rfl) ?_; refine wt ?_))
     exact j0c (q + 1) (by omega) (by omega) (ent ⟨.refl _, .refl _, .refl _, .refl _, .refl _, .refl _, .refl _, .refl _, .refl _, .refl _, .refl _, .int (hfin _ (by rw [e3]; rfl)), .refl _, .refl _, .int (by omega), trivial⟩ xT)
    ·have hq7 := hc1
     have hq8 := hc2
     refine wt ?_
     repeat' (first
       |(refine j0n (v0q rfl rfl) rfl ?_; refine wt ?_)
       |(refine v0P (q0d rfl rfl (v0W (gf L q)) rfl rfl) ?_; refine wt ?_))
     exact j0c (q + 1) (by omega) (by omega) (ent ⟨.refl _, .refl _, .refl _, .refl _, .refl _, .refl _, .refl _, .refl _, .refl _, .refl _, .refl _, .int (hfin _ (by rw [e3]; rfl)), .refl _, .refl _, .int (by omega), trivial⟩ xT)
    ·have hq9 := hc1
     have hq10 := hc2
     refine wt ?_
     repeat' (first
       |(refine j0n (v0q rfl rfl) rfl ?_; refine wt ?_)
       |(refine v0P (q0d rfl rfl (v0W (gf L q)) rfl rfl) ?_; refine wt ?_))
     exact j0c (q + 1) (by omega) (by omega) (ent ⟨.refl _, .refl _, .refl _, .refl _, .refl _, .refl _, .refl _, .refl _, .refl _, .refl _, .refl _, .int (by have := hfin (c + 1) (by rw [e3]; rfl); omega), .refl _, .refl _, .int (by omega), trivial⟩ xT)
   ·have hqq : q = L.length := by omega
    subst hqq
    generalize cnt L (gz V k) (gz V (k + 1 + m)) L.length = c at e2 hql ⊢
    have hmx : Y.length + 1 ≤ maxLen := by simp only [maxLen]; omega
    refine wt ?_
    (refine j0a rfl ?_ ?_ <;> intro hb <;> (try simp only [xA, xB, xG, xC, xD, xN] at hb) <;> (try exact xQ))
    ·rw [if_pos (by omega)] at e2
     refine wt ?_
     repeat' (first
       |(refine j0n (j0j (t := 73) (is := [0, 1]) (xs := [_, _]) (vs := [_, _]) (j2k _ _) rfl rfl) rfl ?_; refine wt ?_)
       |(refine j0n (q0c (is := [0]) (xs := [_]) (vs := [_]) (us := [_, _]) (j2p _ _) rfl rfl rfl (Y1T _ _)) rfl ?_; refine wt ?_)
       |(refine j0u (v0i (h := ef [(gz V k, gz V (k + 1 + m))]) (m := 1) rfl rfl rfl (fun i _ j _ => Y1S _ i j) xO hmx xO) rfl ?_; refine wt ?_))
     exact j0c (m + 1) (by omega) (by omega) (ent xS ⟨⟨_, rfl, .row (by rw [e2]; simp) (fun i hi j hj => by rw [e2]; exact Y1R _ _ i hi j hj)⟩, trivial⟩)
    ·rw [if_neg (by omega), List.append_nil] at e2
     refine wt ?_
     exact j0c (m + 1) (by omega) (by omega) (ent xS ⟨⟨_, rfl, by rw [e2]; exact .refl _⟩, trivial⟩)
  ·have hmm : m = V.length - (k + 1) := by omega
   subst hmm
   refine wt ?_
   exact j0c (k + 1) (by omega) (by omega) (ent xS ⟨⟨_, rfl, by rw [e0]; exact .refl _⟩, trivial⟩)
 ·have hkl : k = V.length := by omega
  subst hkl
  refine wt ?_
  exact z0W (j0X 70 rfl) (j0A (rvs := [_, _]) (τs := [_, _]) rfl rfl ⟨.tmp rfl, .tmp rfl, trivial⟩ rfl)
end Go.Proofs.YtgblokifbgeegaaGreatDoor.H.S
namespace Go.Proofs.YtgblokifbgeegaaGreatDoor.H.S
open Go Go.Vc Go.RowKit Go.Na Go.Lib
set_option maxHeartbeats 8000000
theorem Y1v (x y : Int) : CtrA Tryz.prog 132 [vi x, vi y] (vi (Lib.compareInt x y)) := by
 refine z0L (us := [.int .i64 x, .int .i64 y]) (j0L Tryz.func132 rfl rfl) (fun Z w _ => (Tryz.cmp_Compare_int x y w).mono ?_) (fun Z w => rfl)
 rintro e w' ⟨rfl, rfl⟩
 exact ⟨rfl, Below.refl _ _⟩
theorem Y1t (a b : Tr) : CtrA Tryz.prog 96 [.sl 3 1 (fun i _ => vi (co a i)), .sl 3 1 (fun i _ => vi (co b i))] (vi (y1a a b)) := by
 refine j0p _ Tryz.func96 rfl rfl Tryz.ntmps96 rfl fun w Z => ?_
 refine xU ?_
 refine wt ?_
 refine j0f (γ := Nat) (fun k => [(0, .av (.sl 3 1 (fun i _ => vi (co a i)))), (1, .av (.sl 3 1 (fun i _ => vi (co b i)))), (9, .av (.sl 3 1 (fun i _ => vi (co a i)))), (10, .av (vi 3)), (11, .av (vi k))]) (fun k => []) (fun k => k ≤ 3 ∧ y1u a b k = y1a a b) (fun k => 3 - k) 0 ⟨Nat.zero_le _, rfl⟩ (ent xS trivial) ?_
 rintro k ⟨hk, hc⟩
 refine wt ?_
 (refine j0a rfl ?_ ?_ <;> intro hb <;> (try simp only [xA, xB, xG, xC, xD, xN] at hb) <;> (try exact xQ))
 ·have hk3 : k < 3 := by omega
  have hf := Z0U (a := a) (b := b) hk3
  have h1 := Y1v (co a k) (co b k)
  refine wt ?_
  (refine j0a rfl ?_ ?_ <;> intro hb <;> (try simp only [xA, xB, xG, xC, xD, xN] at hb) <;> (try exact xQ))
  refine wt ?_
  (refine j0a rfl ?_ ?_ <;> intro hb <;> (try simp only [xA, xB, xG, xC, xD, xN] at hb) <;> (try exact xQ))
  ·rw [if_pos hb] at hf
   refine wt ?_
   exact j0e rfl (.tmp rfl) (congrArg vi (by rw [← hc, hf]))
  ·rw [if_neg (by simpa using hb)] at hf
   refine wt ?_
   exact j0c (k + 1) ⟨by omega, by rw [← hf]; exact hc⟩ (by omega) (ent xS trivial)
 ·obtain rfl : k = 3 := by omega
  refine wt ?_
  exact j0e rfl (.tmp rfl) (congrArg vi hc)
def X0E (l : List Tr) : Int := if w0i l = 0 then (if (spn l).dim < 2 then 14 else 0) else w0i l
theorem z1X (l : List Tr) (hf : few l) : CtrA Tryz.prog 54 [ts l] (vi (X0E l)) := by
 refine j0p _ Tryz.func54 rfl rfl Tryz.ntmps54 rfl fun w Z => ?_
 have hd := Y1H l hf
 unfold X0E
 by_cases h : w0i l = 0
 ·rw [if_pos h, h] at hd
  rw [if_pos h]
  generalize (spn l).dim = n at hd ⊢
  refine xU ?_
  refine wt ?_
  (refine j0a rfl ?_ ?_ <;> intro hb <;> (try simp only [xA, xB, xG, xC, xD, xN] at hb) <;> (try exact xQ))
  ·rw [if_pos hb]
   refine wt ?_
   exact xV
  ·rw [if_neg hb]
   refine wt ?_
   exact xV
 ·rw [if_neg h] at hd
  rw [if_neg h]
  generalize w0i l = e at h hd ⊢
  refine xU ?_
  refine wt ?_
  (refine j0a rfl ?_ ?_ <;> intro hb <;> (try simp only [xA, xB, xG, xC, xD, xN] at hb) <;> (try exact xQ))
  refine wt ?_
  exact xV
def crN (n : Tr) : Tr := if n = tz then n else q0U n
theorem K0G (a b c d : Tr) (ha : BT 100000 a) (hb' : BT 100000 b) (hc : BT 100000 c) (hd : BT 100000 d) : CtrA Tryz.prog 135 [tp a, tp b, tp c, tp d] (j0x [tp (crN (tcr (j0E b a) (j0E d c))), vb (decide (tcr (j0E b a) (j0E d c) ≠ tz))]) := by
 refine j0p _ Tryz.func135 rfl rfl Tryz.ntmps135 rfl fun w Z => ?_
 have hu := hb'.sub ha
 have hv := hd.sub hc
 have hn := (hu.cr hv).le (show (2 * ((100000 + 100000) * (100000 + 100000)) : Int) ≤ 1000000000000 by decide)
 have hp := x1W _ hn
 have m1 : Bn ((100000 + 100000) * (100000 + 100000)) ((b.y - a.y) * (d.z - c.z)) := j0F hu.y hv.z
 have m2 : Bn ((100000 + 100000) * (100000 + 100000)) ((b.z - a.z) * (d.y - c.y)) := j0F hu.z hv.y
 have m3 : Bn ((100000 + 100000) * (100000 + 100000)) ((b.z - a.z) * (d.x - c.x)) := j0F hu.z hv.x
 have m4 : Bn ((100000 + 100000) * (100000 + 100000)) ((b.x - a.x) * (d.z - c.z)) := j0F hu.x hv.z
 have m5 : Bn ((100000 + 100000) * (100000 + 100000)) ((b.x - a.x) * (d.y - c.y)) := j0F hu.x hv.y
 have m6 : Bn ((100000 + 100000) * (100000 + 100000)) ((b.y - a.y) * (d.x - c.x)) := j0F hu.y hv.x
 obtain ⟨_, _⟩ := m1
 obtain ⟨_, _⟩ := m2
 obtain ⟨_, _⟩ := m3
 obtain ⟨_, _⟩ := m4
 obtain ⟨_, _⟩ := m5
 obtain ⟨_, _⟩ := m6
 obtain ⟨⟨_, _⟩, ⟨_, _⟩, ⟨_, _⟩⟩ := ha
 obtain ⟨⟨_, _⟩, ⟨_, _⟩, ⟨_, _⟩⟩ := hb'
 obtain ⟨⟨_, _⟩, ⟨_, _⟩, ⟨_, _⟩⟩ := hc
 obtain ⟨⟨_, _⟩, ⟨_, _⟩, ⟨_, _⟩⟩ := hd
 refine xU ?_
 refine wt ?_
 exact j0A (rvs := [_, _]) (τs := [_, _]) rfl rfl ⟨.agg (us := v3 (crN (tcr (j0E b a) (j0E d c)))) rfl rfl rfl rfl, .tmp rfl, trivial⟩ rfl
def V3 (x : Value) : Prop := ∃ d : Tr, x = .agg #[.int .i64 d.x, .int .i64 d.y, .int .i64 d.z] ∧ d ≠ tz ∧ BT 80000000000 d
theorem X1v {d : Tr} (hn : d ≠ tz) (hB : BT 80000000000 d) (Z : j0q) (w : World) (v : Value) (h : AV.ok Z w (tp d) v) : V3 v := ⟨d, h, hn, hB⟩
theorem J1m {n : Tr} (h : n ≠ tz) : crN n = q0U n := by unfold crN; rw [if_neg h]
theorem Z1b {l : List Tr} (hl : RT l) {f : Fc} (h : f ∈ j0i l) : BT 1000000000000 f.n := by
 obtain ⟨a, b, c, h1⟩ := V0A (w0E h)
 rw [h1.ev]
 exact (Y1r (hl a) (hl b) (hl c)).pr.le xE
theorem V1w {l : List Tr} (s : S3 l) {i : Nat} (h : i < (Q0S l).length) : ∃ u v : Nat, (Q0S l).getD i (0, 0) = ((u : Int), (v : Int)) ∧ u < l.length ∧ v < l.length := by
 have hm : (Q0S l).getD i (0, 0) ∈ Q0S l := by simp [List.getD, h]
 generalize (Q0S l).getD i (0, 0) = x at hm
 unfold Q0S at hm
 rw [W0h] at hm
 obtain ⟨a, b, ha, hb, _, rfl, _⟩ := W0F _ _ (y1f l) hm
 exact ⟨a, b, rfl, (s.vxm ha).lt, (s.vxm hb).lt⟩
theorem y1J (l : List Tr) : (j1M l).length = (Q0S l).length := by unfold j1M; simp
theorem V1u {l : List Tr} {i u v : Nat} (h : i < (Q0S l).length) (e : (Q0S l).getD i (0, 0) = ((u : Int), (v : Int))) : gt (j1M l) i = dv l u v := by
 have e' : (Q0S l)[i] = ((u : Int), (v : Int)) := by rw [← e]; simp [List.getD, h]
 unfold gt j1M
 simp [List.getD, h, e']
theorem K1G {l : List Tr} {i u v : Nat} (e : (Q0S l).getD i (0, 0) = ((u : Int), (v : Int))) : (List.range 2).map (fun j => ef (Q0S l) i j) = [Value.int .i64 u, .int .i64 v].map AV.val := by
 show [vi ((Q0S l).getD i (0, 0)).1, vi ((Q0S l).getD i (0, 0)).2] = _
 rw [e]; rfl
theorem q1J {g : List Tr} {i k : Nat} (hi : i < g.length) (hk : k < i) : cI g i ++ cK g i (k + 1) <+: j0V g := by
 have h1 : cK g i (k + 1) <+: cK g i i := x0d (f := cK g i) (fun k => J0J g i k) xO
 have h2 : cI g (i + 1) <+: cI g g.length := x0d (f := cI g) (fun n => z0s g n) xO
 rw [Z0Q] at h2
 rw [z0s] at h2
 exact ((List.prefix_append_right_inj _).2 h1).trans h2
theorem y1M (l : List Tr) (s : S3 l) (h : w0i l = 0) : CtrA Tryz.prog 137 [ts l] (j0x [es (Q0S l), vi 0]) := by
 have d3 := (q0V l).2 s.hS
 have hs := x1b l (.inl s.h6) h
 have hv := j1F l s.hl s.h6
 have hA : Q1h l = fs (j0i l) := by unfold Q1h; rw [if_neg (by omega)]
 rw [hA] at hs hv
 rw [s.vert] at hv
 have hlen : (x0f (VL l)).length ≤ 7 := by
  rw [List.length_map]
  have := List.length_filter_le (fun i => (j0i l).any fun f => (vfN l f).contains i) (List.range l.length)
  rw [List.length_range] at this
  have h6 := s.h6
  unfold VL; omega
 exact V1x l (j0i l) (x0f (VL l)) hs (z0y s.hl d3) (z0x l s.h6) (fun f hf => (y0O s.h6 f hf).2.2.1) hv xO
theorem y1K {l : List Tr} (h7 : l.length ≤ 7) : (Q0S l).length ≤ 1000000 := by
 have hlen : (x0f (VL l)).length ≤ 7 := by
  rw [List.length_map]
  have := List.length_filter_le (fun i => (j0i l).any fun f => (vfN l f).contains i) (List.range l.length)
  rw [List.length_range] at this
  unfold VL; omega
 have := Y0M (j0i l) (x0f (VL l)) xO (x0f (VL l)).length
 unfold Q0S Y1Q
 omega
theorem y1H (l : List Tr) (hd : (spn l).dim = 3) (h : w0i l = 0) (h7 : l.length ≤ 7) (hw : z0p l) : CtrM Tryz.prog 133 [lt l] V3 ((x0W l).map tp) := by
 have hl : RT l := (RT.of h).1
 have hl0 : 0 < l.length := by obtain ⟨a, _, _, ha, _⟩ := hw; omega
 have hfc := J1u l (.inl h7) (fun _ h3 => z0y hl (by have := y0J hl; omega))
 refine K1s _ Tryz.func133 rfl rfl Tryz.ntmps133 rfl fun y J Y w Z S => ?_
 have e1 : V1A l = 0 := by unfold V1A; rw [if_pos h, if_neg (by omega)]
 have e2 : Z1a l = j0i l := by unfold Z1a; rw [if_pos h, if_neg (by omega)]
 have s : S3 l := ⟨hl, h7, (q0V l).1 hd⟩
 have hD : x0W l = (j0i l).map (fun f => q0U f.n) ++ j0V (j1M l) := by unfold x0W Y1I; rw [if_pos hd]
 have hgap := J0l (X0I hl)
 have hFB : ∀ f ∈ j0i l, q0U f.n ≠ tz ∧ BT 80000000000 (q0U f.n) ∧ f.n ≠ tz ∧ BT 1000000000000 f.n := fun f hf => by
  have hn := (y0O h7 f hf).1
  exact ⟨q0G hn, hgap _ (y0N s.hS hf), hn, Z1b hl hf⟩
 have hed := y1M l s h
 have hLl := z0x l h7
 have hat := fun i hi => V1w s (i := i) hi
 have hgt := fun i u v hi e => V1u (l := l) (i := i) (u := u) (v := v) hi e
 have hga := fun i u v e => K1G (l := l) (i := i) (u := u) (v := v) e
 have hgl := y1J l
 have hEl := y1K h7
 rw [e1, e2] at hfc
 generalize j0i l = L at hfc hD hFB hLl
 generalize Q0S l = EE at hed hat hgt hga hgl hEl
 generalize j1M l = G at hD hgt hgl
 refine xU ?_
 refine wt ?_
 refine v0w Y (γ := Nat) (fun k => [(0, .av (yv y)), (1, .av (lt l)), (61, .av (fs L)), (62, .av (vi L.length)), (63, .av (vi k))]) (fun k => k) (fun k => k ≤ L.length) (fun k => L.length - k) 0 S (Nat.zero_le _) (ent xS trivial) ?_
 intro k hk w Z S
 refine wt ?_
 (refine j0a rfl ?_ ?_ <;> intro hb <;> (try simp only [xA, xB, xG, xC, xD, xN] at hb) <;> (try exact xQ))
 ·have hkl : k < L.length := by omega
  obtain ⟨f1, f2, f3, f4⟩ := hFB (gf L k) (y0Y hkl)
  have hp := x1W (gf L k).n f4
  rw [if_neg f3, decide_eq_true f3] at hp
  have hm : ((x0W l).map tp)[k]? = some (tp (q0U (gf L k).n)) := by
   rw [hD, List.getElem?_map, List.getElem?_append_left (by simpa using hkl), List.getElem?_map]
   simp [gf, List.getD, hkl]
  refine wt ?_
  repeat' (first
    |(refine j0n (v0q rfl rfl) rfl ?_; refine wt ?_)
    |(refine v0P (q0d rfl rfl (v0W (gf L k)) rfl rfl) ?_; refine wt ?_))
  refine v0e x0I ?_
  refine w0v Y S (τ := tp (q0U (gf L k).n)) hm (X1v f1 f2) rfl rfl rfl rfl rfl (fun w' Z' S' => ?_)
  refine wt ?_
  exact q0e Y (g := k) (k + 1) S' xO xO (ent xS trivial)
 ·have hkl : k = L.length := by omega
  subst hkl
  refine wt ?_
  refine v0w Y (γ := Nat) (fun i => [(0, .av (yv y)), (1, .av (lt l)), (13, .av (es EE)), (86, .av (es EE)), (87, .av (vi EE.length)), (88, .av (vi i))]) (fun i => L.length + (cI G i).length) (fun i => i ≤ EE.length) (fun i => EE.length - i) 0 S (Nat.zero_le _) (ent xS trivial) ?_
  intro i hi w Z S
  refine wt ?_
  (refine j0a rfl ?_ ?_ <;> intro hb <;> (try simp only [xA, xB, xG, xC, xD, xN] at hb) <;> (try exact xQ))
  ·have hil : i < EE.length := by omega
   obtain ⟨u, v, e3, hu, hv⟩ := hat i hil
   have hga1 := hga i u v e3
   have hg1 := hgt i u v hil e3
   have q1 : (EE.getD i (0, 0)).fst = (u : Int) := by rw [e3]
   have q2 : (EE.getD i (0, 0)).snd = (v : Int) := by rw [e3]
   refine wt ?_
   rw [q1, q2]
   refine j0n (x0o (lo := none) (hi := some (.tmp 94)) (l := 0) (h := i) rfl rfl ⟨_, _, rfl, rfl⟩ xO xO) rfl ?_
   refine wt ?_
   refine v0w Y (γ := Nat) (fun k => [(0, .av (yv y)), (1, .av (lt l)), (13, .av (es EE)), (86, .av (es EE)), (87, .av (vi EE.length)), (88, .av (vi i)), (16, .av (.ptr 2 (fun j => [vi (u : Int), vi (v : Int)].getD j .any))), (95, .av (.sl (i - 0) 2 (fun k => ef EE (0 + k)))), (96, .av (vi ((i - 0 : Nat) : Int))), (97, .av (vi k))]) (fun k => L.length + (cI G i ++ cK G i k).length) (fun k => k ≤ i) (fun k => i - k) 0 (by rw [q2d, List.append_nil]; exact S) (Nat.zero_le _) (Ent.trans (v0n 16 10 (fun j => [vi (u : Int), vi (v : Int)].getD j .any) rfl rfl rfl) (Ent.trans x0I (ent xS trivial))) ?_
   intro k hk w Z S
   refine wt ?_
   (refine j0a rfl ?_ ?_ <;> intro hb <;> (try simp only [xA, xB, xG, xC, xD, xN] at hb) <;> (try exact xQ))
   ·have hkl : k < i := by omega
    obtain ⟨u', v', e5, hu', hv'⟩ := hat k xO
    have hg2 := hgt k u' v' xO e5
    have q3 : (EE.getD (0 + k) (0, 0)).fst = (u' : Int) := by rw [Nat.zero_add, e5]
    have q4 : (EE.getD (0 + k) (0, 0)).snd = (v' : Int) := by rw [Nat.zero_add, e5]
    have hx := K0G (gt l u) (gt l v) (gt l u') (gt l v') (hl u) (hl v) (hl u') (hl v')
    rw [show tcr (j0E (gt l v) (gt l u)) (j0E (gt l v') (gt l u')) = tcr (dv l u v) (dv l u' v') from rfl] at hx
    have hBT : BT 80000000000 (tcr (dv l u v) (dv l u' v')) := ((((hl v).sub (hl u)).cr ((hl v').sub (hl u')))).le xE
    have hcs := J0J G i k
    have hpr := q1J (g := G) (i := i) (k := k) xO hkl
    rw [hg1, hg2] at hcs
    generalize tcr (dv l u v) (dv l u' v') = n at hx hBT hcs
    by_cases hn : n = tz
    ·rw [if_pos hn, List.append_nil] at hcs
     rw [decide_eq_false (fun q => q hn)] at hx
     generalize crN n = c at hx
     rw [← hcs] at S
     refine wt ?_
     rw [q3, q4]
     refine wt ?_
     exact q0e Y (g := k) (k + 1) S xO xO (ent xS trivial)
    ·rw [if_neg hn] at hcs
     rw [decide_eq_true hn, J1m hn] at hx
     rw [hcs, ← List.append_assoc] at hpr
     have hm : ((x0W l).map tp)[L.length + (cI G i ++ cK G i k).length]? = some (tp (q0U n)) := by
      rw [hD, List.getElem?_map, List.getElem?_append_right (by simp), List.length_map, Nat.add_sub_cancel_left, w1t hpr]; rfl
     have hlen : L.length + (cI G i ++ cK G i (k + 1)).length = L.length + (cI G i ++ cK G i k).length + 1 := by rw [hcs]; simp; omega
     refine wt ?_
     rw [q3, q4]
     refine wt ?_
     refine v0e x0I ?_
     refine w0v Y S (τ := tp (q0U n)) hm (X1v (q0G hn) (V0U hBT)) rfl rfl rfl rfl rfl (fun w' Z' S' => ?_)
     rw [← hlen] at S'
     refine wt ?_
     exact q0e Y (g := k) (k + 1) S' xO xO (ent xS trivial)
   ·obtain rfl : k = i := by omega
    rw [← z0s] at S
    refine wt ?_
    exact q0e Y (g := k) (k + 1) S xO xO (ent xS trivial)
  ·have hil : i = EE.length := by omega
   subst hil
   have e4 : L.length + (cI G EE.length).length = ((x0W l).map tp).length := by rw [hD, ← hgl, Z0Q]; simp
   rw [e4] at S
   refine wt ?_
   exact W0N Y rfl S
theorem y1G (l : List Tr) (hd : ¬ (spn l).dim = 3) (h : w0i l = 0) (h7 : l.length ≤ 7) (hw : z0p l) : CtrM Tryz.prog 133 [lt l] V3 ((x0W l).map tp) := by
 have hl : RT l := (RT.of h).1
 have hl0 : 0 < l.length := by obtain ⟨a, _, _, ha, _⟩ := hw; omega
 have hfc := J1u l (.inl h7) (fun _ h3 => z0y hl (by have := y0J hl; omega))
 refine K1s _ Tryz.func133 rfl rfl Tryz.ntmps133 rfl fun y J Y w Z S => ?_
 have e1 : V1A l = 14 := by unfold V1A; rw [if_pos h, if_pos (by have := y0J hl; omega)]
 have hflat : ∀ i k, i < l.length → k < i → cI (dvs l) i ++ cK (dvs l) i k = [] → tcr (dv l 0 i) (dv l 0 k) ≠ tz → x0W l = [q0U (tcr (dv l 0 i) (dv l 0 k))] := fun i k hi hk h0 hn => by
  unfold x0W; rw [if_neg hd]; exact flatD_at hi hk h0 hn
 have hno : cI (dvs l) l.length ≠ [] := fun e => by
  obtain ⟨i, k, _, _, _, e2⟩ := flatD_ex hw
  unfold flatD at e2
  rw [← Z0Q, W0g, e] at e2
  cases e2
 rw [e1] at hfc
 refine xU ?_
 refine wt ?_
 refine v0w Y (γ := Nat) (fun i => [(0, .av (yv y)), (1, .av (lt l)), (29, .av (vi l.length)), (30, .av (vi i))]) (fun _ => 0) (fun i => i ≤ l.length ∧ cI (dvs l) i = []) (fun i => l.length - i) 0 S ⟨Nat.zero_le _, rfl⟩ (ent xS trivial) ?_
 rintro i ⟨hi, hc0⟩ w Z S
 refine wt ?_
 (refine j0a rfl ?_ ?_ <;> intro hb <;> (try simp only [xA, xB, xG, xC, xD, xN] at hb) <;> (try exact xQ))
 ·have hil : i < l.length := by omega
  refine wt ?_
  refine v0w Y (γ := Nat) (fun k => [(0, .av (yv y)), (1, .av (lt l)), (29, .av (vi l.length)), (30, .av (vi i)), (5, .av (vi i)), (33, .av (vi i)), (34, .av (vi k))]) (fun _ => 0) (fun k => k ≤ i ∧ cI (dvs l) i ++ cK (dvs l) i k = []) (fun k => i - k) 0 S ⟨Nat.zero_le _, by rw [hc0]; rfl⟩ (ent xS trivial) ?_
  rintro k ⟨hk, hck⟩ w Z S
  refine wt ?_
  (refine j0a rfl ?_ ?_ <;> intro hb <;> (try simp only [xA, xB, xG, xC, xD, xN] at hb) <;> (try exact xQ))
  ·have hkl : k < i := by omega
   have hx := K0G (gt l 0) (gt l i) (gt l 0) (gt l k) (hl 0) (hl i) (hl 0) (hl k)
   have hfl := hflat i k hil hkl hck
   have hBT : BT 80000000000 (tcr (dv l 0 i) (dv l 0 k)) := ((((hl i).sub (hl 0)).cr ((hl k).sub (hl 0)))).le xE
   rw [show tcr (j0E (gt l i) (gt l 0)) (j0E (gt l k) (gt l 0)) = tcr (dv l 0 i) (dv l 0 k) from rfl] at hx
   have hcs : cK (dvs l) i (k + 1) = cK (dvs l) i k ++ if tcr (dv l 0 i) (dv l 0 k) = tz then [] else [q0U (tcr (dv l 0 i) (dv l 0 k))] := by rw [J0J, z0R hil, z0R (by omega)]
   generalize tcr (dv l 0 i) (dv l 0 k) = n at hx hfl hBT hcs
   by_cases hn : n = tz
   ·rw [if_pos hn, List.append_nil] at hcs
    rw [decide_eq_false (fun q => q hn)] at hx
    generalize crN n = c at hx
    refine wt ?_
    exact q0e Y (g := k) (k + 1) S ⟨by omega, by rw [hcs]; exact hck⟩ (by omega) (ent xS trivial)
   ·rw [decide_eq_true hn, J1m hn] at hx
    have hfl := hfl hn
    have hlen : ((x0W l).map tp).length = 0 + 1 := by rw [hfl]; rfl
    refine wt ?_
    refine v0e x0I ?_
    refine Y0p Y S (τ := tp (q0U n)) (by rw [hfl]; rfl) (X1v (q0G hn) (V0U hBT)) rfl rfl rfl (fun w' Z' S' => ?_)
    rw [← hlen] at S'
    refine wt ?_
    exact x1k Y rfl S'
  ·obtain rfl : k = i := by omega
   refine wt ?_
   exact q0e Y (g := k) (k + 1) S ⟨by omega, by rw [z0s]; exact hck⟩ (by omega) (ent xS trivial)
 ·obtain rfl : i = l.length := by omega
  exact absurd hc0 hno
theorem V1p (l : List Tr) (h : w0i l = 0) (h7 : l.length ≤ 7) (hw : z0p l) : CtrM Tryz.prog 133 [lt l] V3 ((x0W l).map tp) := by
 by_cases hd : (spn l).dim = 3
 ·exact y1H l hd h h7 hw
 ·exact y1G l hd h h7 hw
abbrev dcl (l : List Tr) : AV := .clo 133 1 (fun i => [lt l].getD i .any)
theorem Y1J (l : List Tr) : CtrA Tryz.prog 97 [ts l] (dcl l) := by
 refine j0p _ Tryz.func97 rfl rfl Tryz.ntmps97 rfl fun w Z => ?_
 refine xU ?_
 refine wt ?_
 exact xV
structure GD (d : Tr) : Prop where
 ne : d ≠ tz
 bt : BT 80000000000 d
def y1W (d : Tr) : Bool := decide (d ≠ tz) && decide (-80000000000 ≤ d.x) && decide (d.x ≤ 80000000000) && decide (-80000000000 ≤ d.y) && decide (d.y ≤ 80000000000) && decide (-80000000000 ≤ d.z) && decide (d.z ≤ 80000000000)
theorem Q0f (d : Tr) : y1W d = true ↔ GD d := by
 unfold y1W
 simp only [Bool.and_eq_true, decide_eq_true_eq]
 constructor
 ·rintro ⟨⟨⟨⟨⟨⟨h0, h1⟩, h2⟩, h3⟩, h4⟩, h5⟩, h6⟩; exact ⟨h0, ⟨h1, h2⟩, ⟨h3, h4⟩, ⟨h5, h6⟩⟩
 ·rintro ⟨h0, ⟨h1, h2⟩, ⟨h3, h4⟩, ⟨h5, h6⟩⟩; exact ⟨⟨⟨⟨⟨⟨h0, h1⟩, h2⟩, h3⟩, h4⟩, h5⟩, h6⟩
theorem GD.I {d : Tr} (h : GD d) : I64T d := by
 obtain ⟨_, ⟨⟨_, _⟩, ⟨_, _⟩, ⟨_, _⟩⟩⟩ := h
 exact ⟨⟨by omega, by omega⟩, ⟨by omega, by omega⟩, ⟨by omega, by omega⟩⟩
theorem K0H {l : List Tr} (hl : RT l) (h0 : 0 < l.length) {d : Tr} (hd : BT 80000000000 d) : Bn 24000000000000000 (loD l d) ∧ Bn 24000000000000000 (hiD l d) ∧ loD l d ≤ hiD l d := by
 obtain ⟨i, hi, e1⟩ := w0L (l := l) d h0
 obtain ⟨k, hk, e2⟩ := x0q (l := l) d h0
 have b1 := K0L (q1p hd (hl i)) (show (3 * (80000000000 * 100000) : Int) ≤ 24000000000000000 by decide)
 have b2 := K0L (q1p hd (hl k)) (show (3 * (80000000000 * 100000) : Int) ≤ 24000000000000000 by decide)
 rw [e1] at b1
 rw [e2] at b2
 have h1 := w0e d h0
 have h2 := v0H d h0
 exact ⟨b1, b2, by omega⟩
theorem Y1b {l : List Tr} (hl : RT l) (h0 : 0 < l.length) {d : Tr} (hd : GD d) : LR 100 (Wq l d) := by
 obtain ⟨⟨a1, a2⟩, ⟨b1, b2⟩, hle⟩ := K0H hl h0 hd.bt
 have hw : LI 17 (wdt l d) := (show (wdt l d).natAbs < 10 ^ 17 by unfold wdt; omega)
 have hn := Z0A hd.I
 unfold Wq
 exact (LR.div (LR.ofI (k := 50) ((hw.mul hw).mono xE) xE) (LR.ofI (k := 50) (hn.mono xE) xE) (nnQ hd.ne)).mono xE
theorem j2Z {l : List Tr} (hl : RT l) (h0 : 0 < l.length) {d : Tr} (hd : GD d) : zE d (loD l d) (hiD l d) = 0 ∧ zT d (loD l d) (hiD l d) = rtx (Wq l d) := by
 obtain ⟨_, _, hle⟩ := K0H hl h0 hd.bt
 have e : zE d (loD l d) (hiD l d) = 0 := by unfold zE; rw [if_neg hd.ne, if_neg (by omega)]
 exact ⟨e, by unfold zT; rw [if_pos e]; rfl⟩
theorem j2h (l : List Tr) (hl : RT l) (h0 : 0 < l.length) (d : Tr) (hd : GD d) : CtrA Tryz.prog 14 [zA d (loD l d) (hiD l d)] (j0x [vS (rtx (Wq l d)), vi 0]) := by
 obtain ⟨⟨a1, a2⟩, ⟨b1, b2⟩, _⟩ := K0H hl h0 hd.bt
 have h := z1D d (loD l d) (hiD l d) hd.I ⟨by omega, by omega⟩ ⟨by omega, by omega⟩
 rw [(j2Z hl h0 hd).1, (j2Z hl h0 hd).2] at h
 exact h
def wO (l : List Tr) : Option Tr → List UInt8
 |none => []
 |some d => rtx (Wq l d)
abbrev X0t (l : List Tr) (m : Option Tr) : Res := .cells [.av (vS (wO l m))]
def dO (m : Option Tr) : Tr := m.getD tz
def loO (l : List Tr) : Option Tr → Int
 |none => 0
 |some d => loD l d
def hiO (l : List Tr) : Option Tr → Int
 |none => 0
 |some d => hiD l d
abbrev J1T (l : List Tr) (m : Option Tr) : Res := .cells [.av (vi (dO m).x), .av (vi (dO m).y), .av (vi (dO m).z), .av (vi (loO l m)), .av (vi (hiO l m))]
theorem w1O (q : Rat) : rtx q ≠ [] := fun e => by
 unfold rtx at e
 split at e
 ·unfold itoa at e
  split at e
  ·cases e
  ·exact w0l _ e
 ·simp at e
theorem Y0h (q : Rat) : rsg q = -1 ∨ rsg q = 0 ∨ rsg q = 1 := by
 unfold rsg
 split
 ·exact .inr (.inl rfl)
 ·split
  ·exact .inl rfl
  ·exact .inr (.inr rfl)
end Go.Proofs.YtgblokifbgeegaaGreatDoor.H.S
