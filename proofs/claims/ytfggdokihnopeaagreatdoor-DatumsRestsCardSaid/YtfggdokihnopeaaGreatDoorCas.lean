/- A part of the proof. -/
import Derived.Test.YtfggdokihnopeaaGreatDoorCar
set_option linter.unusedVariables false
set_option linter.unusedSimpArgs false
namespace Go.Proofs.YtfggdokihnopeaaGreatDoor.H
open Go Go.Vc
structure Sys where
 ax : Nat → Nat
 off : Nat → Int
 sp : Nat → List Tr
def Prm (a : Nat → Nat) : Prop := a 0 < 3 ∧ a 1 < 3 ∧ a 2 < 3 ∧ a 0 ≠ a 1 ∧ a 0 ≠ a 2 ∧ a 1 ≠ a 2
def mvQ (t : Nat → Rat) (p : Tr) (k : Nat) : Rat := (cz p k : Rat) + X0F (frm k p) t 6
def sgA (a : Nat → Nat) : Rat := if (a 0 + 1) % 3 = a 1 then 1 else -1
theorem y0B {a : Nat → Nat} (h : Prm a) : (a 0 = 0 ∧ a 1 = 1 ∧ a 2 = 2 ∧ sgA a = 1) ∨ (a 0 = 1 ∧ a 1 = 2 ∧ a 2 = 0 ∧ sgA a = 1) ∨ (a 0 = 2 ∧ a 1 = 0 ∧ a 2 = 1 ∧ sgA a = 1) ∨ (a 0 = 0 ∧ a 1 = 2 ∧ a 2 = 1 ∧ sgA a = -1) ∨ (a 0 = 2 ∧ a 1 = 1 ∧ a 2 = 0 ∧ sgA a = -1) ∨ (a 0 = 1 ∧ a 1 = 0 ∧ a 2 = 2 ∧ sgA a = -1) := by
 unfold Prm at h
 unfold sgA
 obtain ⟨h0, h1, h2, h3, h4, h5⟩ := h
 generalize a 0 = x at *
 generalize a 1 = y at *
 generalize a 2 = z at *
 rcases (by omega : x = 0 ∨ x = 1 ∨ x = 2) with rfl | rfl | rfl <;> rcases (by omega : y = 0 ∨ y = 1 ∨ y = 2) with rfl | rfl | rfl <;> rcases (by omega : z = 0 ∨ z = 1 ∨ z = 2) with rfl | rfl | rfl <;> first | omega | simp
theorem q1r (t : Nat → Rat) (p : Tr) : mvQ t p 0 = (p.x : Rat) + t 0 + (t 4 * (p.z : Rat) - t 5 * (p.y : Rat)) ∧ mvQ t p 1 = (p.y : Rat) + t 1 + (t 5 * (p.x : Rat) - t 3 * (p.z : Rat)) ∧ mvQ t p 2 = (p.z : Rat) + t 2 + (t 3 * (p.y : Rat) - t 4 * (p.x : Rat)) := by
 refine ⟨?_, ?_, ?_⟩ <;> simp only [mvQ, X0F, frm, cz, Rat.intCast_neg] <;> grind
theorem z0r {a : Nat → Nat} (h : Prm a) (t : Nat → Rat) (p : Tr) :
  mvQ t p (a 0) = (cz p (a 0) : Rat) + t (a 0) + sgA a * (t (3 + a 1) * (cz p (a 2) : Rat) - t (3 + a 2) * (cz p (a 1) : Rat)) ∧
  mvQ t p (a 1) = (cz p (a 1) : Rat) + t (a 1) + sgA a * (t (3 + a 2) * (cz p (a 0) : Rat) - t (3 + a 0) * (cz p (a 2) : Rat)) ∧
  mvQ t p (a 2) = (cz p (a 2) : Rat) + t (a 2) + sgA a * (t (3 + a 0) * (cz p (a 1) : Rat) - t (3 + a 1) * (cz p (a 0) : Rat)) := by
 obtain ⟨m0, m1, m2⟩ := q1r t p
 rcases y0B h with ⟨e0, e1, e2, e3⟩ | ⟨e0, e1, e2, e3⟩ | ⟨e0, e1, e2, e3⟩ | ⟨e0, e1, e2, e3⟩ | ⟨e0, e1, e2, e3⟩ | ⟨e0, e1, e2, e3⟩ <;> rw [e0, e1, e2, e3, m0, m1, m2] <;> simp only [cz, Nat.reduceAdd] <;> refine ⟨?_, ?_, ?_⟩ <;> grind
def hq (S : Sys) (t : Nat → Rat) (k : Nat) (p : Tr) : Rat := mvQ t p (S.ax k) - (S.off k : Rat)
def onS (S : Sys) (t : Nat → Rat) (k : Nat) : List Nat := (List.range (S.sp k).length).filter fun i => decide (hq S t k (gt (S.sp k) i) = 0)
theorem j0Z {S : Sys} {t : Nat → Rat} {k i : Nat} : i ∈ onS S t k ↔ i < (S.sp k).length ∧ hq S t k (gt (S.sp k) i) = 0 := by
 unfold onS; rw [List.mem_filter, List.mem_range, decide_eq_true_eq]
def UpS (S : Sys) (t : Nat → Rat) (k : Nat) : Prop := ∀ i, i < (S.sp k).length → 0 ≤ hq S t k (gt (S.sp k) i)
def Tch (S : Sys) (t : Nat → Rat) : Prop := (UpS S t 0 ∧ UpS S t 1 ∧ UpS S t 2) ∧ J0b (plP (S.sp 0) (S.ax 0) (onS S t 0)) = false ∧ (∃ i j, i ∈ onS S t 1 ∧ j ∈ onS S t 1 ∧ cz (gt (S.sp 1) i) (S.ax 2) ≠ cz (gt (S.sp 1) j) (S.ax 2)) ∧ ∃ i, i ∈ onS S t 2
def Eq6 (t u : Nat → Rat) : Prop := ∀ i, i < 6 → t i = u i
theorem Eq6.mv {t u : Nat → Rat} (h : Eq6 t u) (p : Tr) (k : Nat) : mvQ t p k = mvQ u p k := by
 unfold mvQ
 simp only [X0F]
 rw [h 0 (by omega), h 1 (by omega), h 2 (by omega), h 3 (by omega), h 4 (by omega), h 5 (by omega)]
theorem Eq6.hq {S : Sys} {t u : Nat → Rat} (h : Eq6 t u) (k : Nat) (p : Tr) : hq S t k p = hq S u k p := by
 show mvQ _ _ _ - _ = mvQ _ _ _ - _
 rw [h.mv]
theorem Eq6.on {S : Sys} {t u : Nat → Rat} (h : Eq6 t u) (k : Nat) : onS S t k = onS S u k := by
 show (List.range _).filter (fun i => decide (H.hq S t k (gt (S.sp k) i) = 0)) = (List.range _).filter (fun i => decide (H.hq S u k (gt (S.sp k) i) = 0))
 congr 1
 funext i
 rw [h.hq]
theorem Eq6.tch {S : Sys} {t u : Nat → Rat} (h : Eq6 t u) (ht : Tch S t) : Tch S u := by
 unfold Tch UpS at *
 rw [h.on 0, h.on 1, h.on 2] at ht
 obtain ⟨⟨h1, h2, h3⟩, h4⟩ := ht
 exact ⟨⟨fun i hi => by rw [← h.hq]; exact h1 i hi, fun i hi => by rw [← h.hq]; exact h2 i hi, fun i hi => by rw [← h.hq]; exact h3 i hi⟩, h4⟩
theorem Eq6.symm {t u : Nat → Rat} (h : Eq6 t u) : Eq6 u t := fun i hi => (h i hi).symm
theorem J1w {a : Nat → Nat} (h : Prm a) {t u : Nat → Rat} (h0 : t (a 0) = u (a 0)) (h1 : t (a 1) = u (a 1)) (h2 : t (a 2) = u (a 2)) (h3 : t (3 + a 0) = u (3 + a 0)) (h4 : t (3 + a 1) = u (3 + a 1)) (h5 : t (3 + a 2) = u (3 + a 2)) : Eq6 t u := by
 intro i hi
 rcases y0B h with ⟨e0, e1, e2, _⟩ | ⟨e0, e1, e2, _⟩ | ⟨e0, e1, e2, _⟩ | ⟨e0, e1, e2, _⟩ | ⟨e0, e1, e2, _⟩ | ⟨e0, e1, e2, _⟩ <;> rw [e0] at h0 h3 <;> rw [e1] at h1 h4 <;> rw [e2] at h2 h5 <;> rcases (by omega : i = 0 ∨ i = 1 ∨ i = 2 ∨ i = 3 ∨ i = 4 ∨ i = 5) with rfl | rfl | rfl | rfl | rfl | rfl <;> assumption
def pB (k : Nat) (t : Nat → Rat) : Rat := match k with | 0 => t 5 | 1 => -t 5 | _ => t 4
def pC (k : Nat) (t : Nat → Rat) : Rat := match k with | 0 => -t 4 | 1 => t 3 | _ => -t 3
theorem Z0I {S : Sys} {k : Nat} (hk : S.ax k < 3) (t : Nat → Rat) (p : Tr) : hq S t k p = hgt (S.ax k) ((S.off k : Rat) - t (S.ax k)) (pB (S.ax k) t) (pC (S.ax k) t) p := by
 unfold hq
 obtain ⟨m0, m1, m2⟩ := q1r t p
 generalize S.ax k = a at *
 rcases (by omega : a = 0 ∨ a = 1 ∨ a = 2) with rfl | rfl | rfl
 ·rw [m0]; simp only [hgt, cz, plc, ou, ov, pB, pC]; grind
 ·rw [m1]; simp only [hgt, cz, plc, ou, ov, pB, pC]; grind
 ·rw [m2]; simp only [hgt, cz, plc, ou, ov, pB, pC]; grind
theorem Q1f {a : Nat → Nat} (h : Prm a) {t u : Nat → Rat} (hB : pB (a 0) t = pB (a 0) u) (hC : pC (a 0) t = pC (a 0) u) : t (3 + a 1) = u (3 + a 1) ∧ t (3 + a 2) = u (3 + a 2) := by
 rcases y0B h with ⟨e0, e1, e2, _⟩ | ⟨e0, e1, e2, _⟩ | ⟨e0, e1, e2, _⟩ | ⟨e0, e1, e2, _⟩ | ⟨e0, e1, e2, _⟩ | ⟨e0, e1, e2, _⟩ <;> rw [e0] at hB hC <;> rw [e1, e2] <;> simp only [pB, pC, Nat.reduceAdd] at * <;> constructor <;> grind
theorem y1c {S : Sys} (hS : Prm S.ax) {t u : Nat → Rat} {a b c i j : Tr} (hn : crs (plc (S.ax 0) a) (plc (S.ax 0) b) (plc (S.ax 0) c) ≠ 0) (hij : cz i (S.ax 2) ≠ cz j (S.ax 2))
  (ta : hq S t 0 a = 0) (tb : hq S t 0 b = 0) (tc : hq S t 0 c = 0) (ti : hq S t 1 i = 0) (tj : hq S t 1 j = 0)
  (ua : hq S u 0 a = 0) (ub : hq S u 0 b = 0) (uc : hq S u 0 c = 0) (ui : hq S u 1 i = 0) (uj : hq S u 1 j = 0) : t (S.ax 0) = u (S.ax 0) ∧ t (S.ax 1) = u (S.ax 1) ∧ t (3 + S.ax 0) = u (3 + S.ax 0) ∧ t (3 + S.ax 1) = u (3 + S.ax 1) ∧ t (3 + S.ax 2) = u (3 + S.ax 2) := by
 have hk := hS.1
 rw [Z0I hk] at ta tb tc ua ub uc
 obtain ⟨eA, eB, eC⟩ := Q0P hn ta tb tc ua ub uc
 obtain ⟨w1, w2⟩ := Q1f hS eB eC
 have s0 : sgA S.ax ≠ 0 := by unfold sgA; split <;> grind
 obtain ⟨_, mi, _⟩ := z0r hS t i
 obtain ⟨_, mj, _⟩ := z0r hS t j
 obtain ⟨_, ni, _⟩ := z0r hS u i
 obtain ⟨_, nj, _⟩ := z0r hS u j
 unfold hq at ti tj ui uj
 rw [mi] at ti
 rw [mj] at tj
 rw [ni] at ui
 rw [nj] at uj
 have cij : ((cz i (S.ax 2) : Int) : Rat) - (cz j (S.ax 2) : Rat) ≠ 0 := fun e => by
  have e2 : ((cz i (S.ax 2) : Int) : Rat) = (cz j (S.ax 2) : Rat) := by grind
  exact hij (by exact_mod_cast e2)
 have w0 : t (3 + S.ax 0) = u (3 + S.ax 0) := by
  have e : sgA S.ax * ((t (3 + S.ax 0) - u (3 + S.ax 0)) * ((cz i (S.ax 2) : Rat) - (cz j (S.ax 2) : Rat))) = 0 := by rw [w2] at ti tj; grind
  rcases Rat.mul_eq_zero.1 e with q | q
  ·exact absurd q s0
  ·rcases Rat.mul_eq_zero.1 q with q | q
   ·grind
   ·exact absurd q cij
 exact ⟨by grind, by rw [w2, w0] at ti; grind, w0, w1, w2⟩
def w0L (t : Nat → Rat) (s : Nat) (x : Rat) (r : Nat) (y : Rat) : Nat → Rat := fun i => if i = s then t i + x else if i = 3 + r then t i + y else t i
theorem X0f (t : Nat → Rat) {s r k : Nat} (x y : Rat) (hs : s < 3) (hr : r < 3) (hk : k < 3) (p : Tr) : mvQ (w0L t s x r y) p k = mvQ t p k + (if s = k then x else 0) + (frm k p (3 + r) : Rat) * y := by
 obtain ⟨m0, m1, m2⟩ := q1r t p
 obtain ⟨n0, n1, n2⟩ := q1r (w0L t s x r y) p
 rcases (by omega : k = 0 ∨ k = 1 ∨ k = 2) with rfl | rfl | rfl
 ·rw [m0, n0]
  rcases (by omega : s = 0 ∨ s = 1 ∨ s = 2) with rfl | rfl | rfl <;> rcases (by omega : r = 0 ∨ r = 1 ∨ r = 2) with rfl | rfl | rfl <;> simp [w0L, frm] <;> grind
 ·rw [m1, n1]
  rcases (by omega : s = 0 ∨ s = 1 ∨ s = 2) with rfl | rfl | rfl <;> rcases (by omega : r = 0 ∨ r = 1 ∨ r = 2) with rfl | rfl | rfl <;> simp [w0L, frm] <;> grind
 ·rw [m2, n2]
  rcases (by omega : s = 0 ∨ s = 1 ∨ s = 2) with rfl | rfl | rfl <;> rcases (by omega : r = 0 ∨ r = 1 ∨ r = 2) with rfl | rfl | rfl <;> simp [w0L, frm] <;> grind
theorem x1e {k : Nat} (hk : k < 3) (p : Tr) : frm k p (3 + k) = 0 := by
 rcases (by omega : k = 0 ∨ k = 1 ∨ k = 2) with rfl | rfl | rfl <;> rfl
def q0B (S : Sys) (p : Tr) : Int := frm (S.ax 1) p (3 + S.ax 0)
theorem K0V {S : Sys} (hS : Prm S.ax) (p : Tr) : (q0B S p : Rat) = -(sgA S.ax) * (cz p (S.ax 2) : Rat) := by
 unfold q0B
 rcases y0B hS with ⟨e0, e1, e2, e3⟩ | ⟨e0, e1, e2, e3⟩ | ⟨e0, e1, e2, e3⟩ | ⟨e0, e1, e2, e3⟩ | ⟨e0, e1, e2, e3⟩ | ⟨e0, e1, e2, e3⟩ <;> rw [e0, e1, e2, e3] <;> simp [frm, cz] <;> grind
theorem K0W {S : Sys} (hS : Prm S.ax) (p q : Tr) : q0B S p = q0B S q ↔ cz p (S.ax 2) = cz q (S.ax 2) := by
 have h1 := K0V hS p
 have h2 := K0V hS q
 have s0 : sgA S.ax = 1 ∨ sgA S.ax = -1 := by unfold sgA; split <;> simp
 constructor
 ·intro e
  rw [e] at h1
  have : (cz p (S.ax 2) : Rat) = (cz q (S.ax 2) : Rat) := by rcases s0 with s | s <;> rw [s] at h1 h2 <;> grind
  exact_mod_cast this
 ·intro e
  rw [e] at h1
  have : (q0B S p : Rat) = (q0B S q : Rat) := by grind
  exact_mod_cast this
def X0M (S : Sys) (t : Nat → Rat) (p q : Tr) : Rat := (hq S t 1 q - hq S t 1 p) / ((q0B S p : Rat) - (q0B S q : Rat))
def J1Q (S : Sys) (t : Nat → Rat) (p q : Tr) : Rat := -((q0B S p : Rat) * X0M S t p q + hq S t 1 p)
def q0N (S : Sys) (t : Nat → Rat) (p q : Tr) : Nat → Rat := w0L t (S.ax 1) (J1Q S t p q) (S.ax 0) (X0M S t p q)
theorem V0G {S : Sys} (hS : Prm S.ax) (t : Nat → Rat) (p q x : Tr) : hq S (q0N S t p q) 0 x = hq S t 0 x ∧ hq S (q0N S t p q) 1 x = hq S t 1 x + J1Q S t p q + (q0B S x : Rat) * X0M S t p q := by
 obtain ⟨h0, h1, h2, h3, h4, h5⟩ := hS
 unfold hq q0N
 constructor
 ·rw [X0f t _ _ h1 h0 h0, if_neg (fun e => h3 e.symm), x1e h0]
  grind
 ·rw [X0f t _ _ h1 h0 h1, if_pos rfl]
  show _ + _ + (q0B S x : Rat) * _ - _ = _
  grind
theorem X0b {S : Sys} (hS : Prm S.ax) (t : Nat → Rat) {p q : Tr} (h : q0B S p ≠ q0B S q) : hq S (q0N S t p q) 1 p = 0 ∧ hq S (q0N S t p q) 1 q = 0 := by
 rw [(V0G hS t p q p).2, (V0G hS t p q q).2]
 have hd : ((q0B S p : Int) : Rat) - (q0B S q : Rat) ≠ 0 := fun e => by
  have e2 : ((q0B S p : Int) : Rat) = (q0B S q : Rat) := by grind
  exact h (by exact_mod_cast e2)
 have ha : X0M S t p q * ((q0B S p : Rat) - (q0B S q : Rat)) = hq S t 1 q - hq S t 1 p := by
  unfold X0M
  rw [Rat.div_def, Rat.mul_assoc, Rat.inv_mul_cancel _ hd, Rat.mul_one]
 unfold J1Q
 constructor <;> grind
def Q1Z (S : Sys) (t : Nat → Rat) (m : Rat) : Nat → Rat := w0L t (S.ax 2) (-m) (S.ax 2) 0
theorem k0y {S : Sys} (hS : Prm S.ax) (t : Nat → Rat) (m : Rat) (x : Tr) : hq S (Q1Z S t m) 0 x = hq S t 0 x ∧ hq S (Q1Z S t m) 1 x = hq S t 1 x ∧ hq S (Q1Z S t m) 2 x = hq S t 2 x - m := by
 obtain ⟨h0, h1, h2, h3, h4, h5⟩ := hS
 unfold hq Q1Z
 refine ⟨?_, ?_, ?_⟩
 ·rw [X0f t _ _ h2 h2 h0, if_neg (fun e => h4 e.symm)]; grind
 ·rw [X0f t _ _ h2 h2 h1, if_neg (fun e => h5 e.symm)]; grind
 ·rw [X0f t _ _ h2 h2 h2, if_pos rfl]; grind
def Q0f (f : Nat → Rat) : Nat → Rat
 |0 => f 0
 |k + 1 => if f k < Q0f f k then f k else Q0f f k
theorem J0L (f : Nat → Rat) : ∀ k, (∀ i, i < k → Q0f f k ≤ f i) ∧ Q0f f k ≤ f 0 ∧ (Q0f f k = f 0 ∨ ∃ i, i < k ∧ Q0f f k = f i)
 |0 => ⟨fun i hi => absurd hi (Nat.not_lt_zero i), Rat.le_refl, .inl rfl⟩
 |k + 1 => by
  obtain ⟨h1, h2, h3⟩ := J0L f k
  unfold Q0f
  split
  ·rename_i h
   refine ⟨fun i hi => ?_, by grind, .inr ⟨k, by omega, rfl⟩⟩
   by_cases e : i = k
   ·subst e; exact Rat.le_refl
   ·have := h1 i zO; grind
  ·rename_i h
   refine ⟨fun i hi => ?_, h2, ?_⟩
   ·by_cases e : i = k
    ·subst e; grind
    ·exact h1 i zO
   ·rcases h3 with e | ⟨i, hi, e⟩
    ·exact .inl e
    ·exact .inr ⟨i, by omega, e⟩
def lwS (S : Sys) (t : Nat → Rat) (k : Nat) : Bool := (List.range (S.sp k).length).any fun i => decide (hq S t k (gt (S.sp k) i) < 0)
theorem x0W {S : Sys} {t : Nat → Rat} {k : Nat} : lwS S t k = false ↔ UpS S t k := by
 unfold lwS UpS
 rw [List.any_eq_false]
 constructor
 ·intro h i hi
  have := h i (List.mem_range.2 hi)
  simp only [decide_eq_true_eq] at this
  grind
 ·intro h i hi
  have := h i (List.mem_range.1 hi)
  simp only [decide_eq_true_eq]
  grind
def lnS (S : Sys) (t : Nat → Rat) (i k : Nat) : Option (Nat → Rat) := if q0B S (gt (S.sp 1) i) = q0B S (gt (S.sp 1) k) then none else if lwS S (q0N S t (gt (S.sp 1) i) (gt (S.sp 1) k)) 1 = true then none else some (q0N S t (gt (S.sp 1) i) (gt (S.sp 1) k))
def second (S : Sys) (t : Nat → Rat) : List (Nat → Rat) := (List.range (S.sp 1).length).flatMap fun i => (List.range i).filterMap fun k => lnS S t i k
def q0F (S : Sys) (t : Nat → Rat) : Nat → Rat := Q1Z S t (Q0f (fun i => hq S t 2 (gt (S.sp 2) i)) (S.sp 2).length)
def j0J (S : Sys) : List (Nat → Rat) := (q0e (S.sp 0) (S.ax 0)).map fun P => Q0V (S.ax 0) (S.off 0) P.A P.B P.C
def q0J (S : Sys) : List (Nat → Rat) := (j0J S).flatMap fun t => (second S t).map (q0F S)
theorem y0X {S : Sys} {t u : Nat → Rat} : u ∈ second S t ↔ ∃ i k, i < (S.sp 1).length ∧ k < i ∧ q0B S (gt (S.sp 1) i) ≠ q0B S (gt (S.sp 1) k) ∧ UpS S (q0N S t (gt (S.sp 1) i) (gt (S.sp 1) k)) 1 ∧ u = q0N S t (gt (S.sp 1) i) (gt (S.sp 1) k) := by
 unfold second
 simp only [List.mem_flatMap, List.mem_range, List.mem_filterMap]
 constructor
 ·rintro ⟨i, hi, k, hk, h⟩
  unfold lnS at h
  split at h
  ·cases h
  ·rename_i ha
   split at h
   ·cases h
   ·rename_i hl
    injection h with h
    exact ⟨i, k, hi, hk, ha, x0W.1 (by simpa using hl), h.symm⟩
 ·rintro ⟨i, k, hi, hk, ha, hl, h⟩
  refine ⟨i, hi, k, hk, ?_⟩
  unfold lnS
  rw [if_neg ha, if_neg (by rw [x0W.2 hl]; decide), h]
theorem x1Y {S : Sys} (hS : Prm S.ax) (h0 : 0 < (S.sp 2).length) (t : Nat → Rat) : UpS S (q0F S t) 2 ∧ ∃ i, i ∈ onS S (q0F S t) 2 := by
 obtain ⟨h1, h2, h3⟩ := J0L (fun i => hq S t 2 (gt (S.sp 2) i)) (S.sp 2).length
 unfold q0F
 refine ⟨fun i hi => ?_, ?_⟩
 ·rw [(k0y hS _ _ _).2.2]
  have := h1 i hi
  grind
 ·obtain ⟨i, hi, e⟩ : ∃ i, i < (S.sp 2).length ∧ Q0f (fun i => hq S t 2 (gt (S.sp 2) i)) (S.sp 2).length = hq S t 2 (gt (S.sp 2) i) := by
   rcases h3 with e | ⟨i, hi, e⟩
   ·exact ⟨0, h0, e⟩
   ·exact ⟨i, hi, e⟩
  refine ⟨i, j0Z.2 ⟨hi, ?_⟩⟩
  rw [(k0y hS _ _ _).2.2, e]
  grind
theorem W1J {S : Sys} {k : Nat} (hk : S.ax k < 3) (t : Nat → Rat) : onS S t k = onL (S.sp k) (S.ax k) ((S.off k : Rat) - t (S.ax k)) (pB (S.ax k) t) (pC (S.ax k) t) (S.sp k).length := by
 unfold onS onL
 congr 1
 funext i
 rw [Z0I hk]
theorem Z0t {S : Sys} (hk : S.ax 0 < 3) (A B C : Rat) (p : Tr) : hq S (Q0V (S.ax 0) (S.off 0) A B C) 0 p = hgt (S.ax 0) A B C p := by
 unfold hq mvQ
 rw [x1q hk]
 grind
theorem W0F {S : Sys} (hS : Prm S.ax) (h0 : 0 < (S.sp 2).length) {t : Nat → Rat} (h : t ∈ q0J S) : Tch S t := by
 unfold q0J j0J at h
 simp only [List.mem_flatMap, List.mem_map] at h
 obtain ⟨_, ⟨P, hP, rfl⟩, u, hu, rfl⟩ := h
 obtain ⟨i, k, hi, hk, ha, hl, rfl⟩ := y0X.1 hu
 have hk0 := hS.1
 obtain ⟨u2, o2⟩ := x1Y hS h0 (q0N S (Q0V (S.ax 0) (S.off 0) P.A P.B P.C) (gt (S.sp 1) i) (gt (S.sp 1) k))
 have e0 : ∀ x, hq S (q0F S (q0N S (Q0V (S.ax 0) (S.off 0) P.A P.B P.C) (gt (S.sp 1) i) (gt (S.sp 1) k))) 0 x = hgt (S.ax 0) P.A P.B P.C x := fun x => by
  unfold q0F
  rw [(k0y hS _ _ _).1, (V0G hS _ _ _ _).1, Z0t hk0]
 have e1 : ∀ x, hq S (q0F S (q0N S (Q0V (S.ax 0) (S.off 0) P.A P.B P.C) (gt (S.sp 1) i) (gt (S.sp 1) k))) 1 x = hq S (q0N S (Q0V (S.ax 0) (S.off 0) P.A P.B P.C) (gt (S.sp 1) i) (gt (S.sp 1) k)) 1 x := fun x => by
  unfold q0F
  rw [(k0y hS _ _ _).2.1]
 obtain ⟨z1, z2⟩ := X0b hS (Q0V (S.ax 0) (S.off 0) P.A P.B P.C) ha
 refine ⟨⟨fun j hj => ?_, fun j hj => ?_, u2⟩, ?_, ⟨i, k, j0Z.2 ⟨hi, ?_⟩, j0Z.2 ⟨by omega, ?_⟩, fun e => ha ((K0W hS _ _).2 e)⟩, o2⟩
 ·rw [e0]; exact J1g (J0h hP) hj
 ·rw [e1]; exact hl j hj
 ·have e : onS S (q0F S (q0N S (Q0V (S.ax 0) (S.off 0) P.A P.B P.C) (gt (S.sp 1) i) (gt (S.sp 1) k))) 0 = P.s := by
   rw [(j1k hk0 hP).1]
   unfold onS onL
   congr 1
   funext j
   rw [e0]
  rw [e]
  exact w1A hk0 hP
 ·rw [e1]; exact z1
 ·rw [e1]; exact z2
theorem X1j {l : List Tr} {k : Nat} {s : List Nat} (h : J0b (plP l k s) = false) : ∃ a b c, a ∈ s ∧ b ∈ s ∧ c ∈ s ∧ crs (plc k (gt l a)) (plc k (gt l b)) (plc k (gt l c)) ≠ 0 := by
 have hlen : (plP l k s).length = s.length := by unfold plP; rw [List.length_map]
 refine Classical.byContradiction fun hno => ?_
 have : J0b (plP l k s) = true := by
  unfold J0b
  simp only [List.all_eq_true, List.mem_range, decide_eq_true_eq]
  intro i hi j hj m hm
  rw [y0s (by omega), y0s (by omega), y0s (by omega)]
  have mem : ∀ x, x < s.length → gi s x ∈ s := fun x hx => by
   have : gi s x = s[x] := by unfold gi; simp [List.getD, hx]
   rw [this]; exact List.getElem_mem hx
  refine Classical.byContradiction fun hc => hno ⟨_, _, _, mem i zO, mem j zO, mem m zO, hc⟩
 rw [this] at h
 cases h
theorem v1O {S : Sys} (hS : Prm S.ax) {t : Nat → Rat} (h : Tch S t) : ∃ u, u ∈ q0J S ∧ Eq6 u t := by
 obtain ⟨⟨h0, h1, h2⟩, hs, ⟨i, k, hi, hk, hik⟩, m, hm⟩ := h
 have hk0 := hS.1
 have hP := J1e (l := S.sp 0) hk0 (A := (S.off 0 : Rat) - t (S.ax 0)) (B := pB (S.ax 0) t) (C := pC (S.ax 0) t) (x1a.1 fun j hj => by
  rw [q1b, ← Z0I hk0]; exact h0 j hj) (by rw [← W1J hk0]; exact hs)
 obtain ⟨a, b, c, ha, hb, hc, hn⟩ := X1j hs
 have key : ∀ i k, i ∈ onS S t 1 → k ∈ onS S t 1 → cz (gt (S.sp 1) i) (S.ax 2) ≠ cz (gt (S.sp 1) k) (S.ax 2) → k < i → ∃ u, u ∈ q0J S ∧ Eq6 u t := fun i k hi hk hik hlt => by
  have harm : q0B S (gt (S.sp 1) i) ≠ q0B S (gt (S.sp 1) k) := fun e => hik ((K0W hS _ _).1 e)
  generalize hT1 : Q0V (S.ax 0) (S.off 0) ((S.off 0 : Rat) - t (S.ax 0)) (pB (S.ax 0) t) (pC (S.ax 0) t) = T1
  have q0 : ∀ x, hq S T1 0 x = hq S t 0 x := fun x => by rw [← hT1, Z0t hk0, ← Z0I hk0]
  obtain ⟨z1, z2⟩ := X0b hS T1 harm
  have r0 : ∀ x, hq S (q0N S T1 (gt (S.sp 1) i) (gt (S.sp 1) k)) 0 x = hq S t 0 x := fun x => by rw [(V0G hS _ _ _ _).1, q0]
  obtain ⟨f0, f1, f2, f3, f4⟩ := y1c hS (t := q0N S T1 (gt (S.sp 1) i) (gt (S.sp 1) k)) (u := t) hn hik (by rw [r0]; exact (j0Z.1 ha).2) (by rw [r0]; exact (j0Z.1 hb).2) (by rw [r0]; exact (j0Z.1 hc).2) z1 z2 (j0Z.1 ha).2 (j0Z.1 hb).2 (j0Z.1 hc).2 (j0Z.1 hi).2 (j0Z.1 hk).2
  generalize hL : q0N S T1 (gt (S.sp 1) i) (gt (S.sp 1) k) = L at *
  have r1 : ∀ x, hq S L 1 x = hq S t 1 x := fun x => by
   unfold hq
   rw [(z0r hS L x).2.1, (z0r hS t x).2.1, f1, f2, f4]
  have r2 : ∀ x, hq S L 2 x = hq S t 2 x + (L (S.ax 2) - t (S.ax 2)) := fun x => by
   unfold hq
   rw [(z0r hS L x).2.2, (z0r hS t x).2.2, f2, f3]
   grind
  have hmin : Q0f (fun i => hq S L 2 (gt (S.sp 2) i)) (S.sp 2).length = L (S.ax 2) - t (S.ax 2) := by
   obtain ⟨m1, m2, m3⟩ := J0L (fun i => hq S L 2 (gt (S.sp 2) i)) (S.sp 2).length
   obtain ⟨hml, hmz⟩ := j0Z.1 hm
   have g1 := m1 m hml
   rw [r2, hmz] at g1
   obtain ⟨j, hj, e⟩ : ∃ j, j < (S.sp 2).length ∧ Q0f (fun i => hq S L 2 (gt (S.sp 2) i)) (S.sp 2).length = hq S L 2 (gt (S.sp 2) j) := by
    rcases m3 with e | ⟨j, hj, e⟩
    ·exact ⟨0, by omega, e⟩
    ·exact ⟨j, hj, e⟩
   have g2 := h2 j hj
   rw [r2] at e
   grind
  refine ⟨q0F S L, ?_, ?_⟩
  ·unfold q0J j0J
   simp only [List.mem_flatMap, List.mem_map]
   refine ⟨T1, ⟨_, hP, hT1⟩, L, y0X.2 ⟨i, k, (j0Z.1 hi).1, hlt, harm, ?_, hL.symm⟩, rfl⟩
   rw [hL]
   intro j hj
   rw [r1]; exact h1 j hj
  ·unfold q0F Q1Z
   rw [hmin]
   obtain ⟨p0, p1, p2, p3, p4, p5⟩ := hS
   refine J1w ⟨p0, p1, p2, p3, p4, p5⟩ ?_ ?_ ?_ ?_ ?_ ?_ <;> unfold w0L
   ·rw [if_neg p4, if_neg (by omega)]; exact f0
   ·rw [if_neg p5, if_neg (by omega)]; exact f1
   ·rw [if_pos rfl]; grind
   ·rw [if_neg (by omega), if_neg (by omega)]; exact f2
   ·rw [if_neg (by omega), if_neg (by omega)]; exact f3
   ·rw [if_neg (by omega), if_pos rfl, f4]; grind
 rcases (by omega : k < i ∨ i < k ∨ i = k) with q | q | q
 ·exact key i k hi hk hik q
 ·exact key k i hk hi (fun e => hik e.symm) q
 ·exact absurd (by rw [q]) hik
structure Tor where
 a : Rat
 b : Rat
 c : Rat
 d : Rat
 e : Rat
 f : Rat
deriving DecidableEq
def Tor.n (x : Tor) : Nat → Rat
 |0 => x.a
 |1 => x.b
 |2 => x.c
 |3 => x.d
 |4 => x.e
 |5 => x.f
 |_ => 0
def mkT (t : Nat → Rat) : Tor := ⟨t 0, t 1, t 2, t 3, t 4, t 5⟩
theorem J1X (x : Tor) : mkT x.n = x := rfl
theorem X0g (t : Nat → Rat) : Eq6 (mkT t).n t := fun i hi => by
 rcases (by omega : i = 0 ∨ i = 1 ∨ i = 2 ∨ i = 3 ∨ i = 4 ∨ i = 5) with rfl | rfl | rfl | rfl | rfl | rfl <;> rfl
theorem y1Y {t u : Nat → Rat} : mkT t = mkT u ↔ Eq6 t u := by
 constructor
 ·intro h i hi
  rw [← X0g t i hi, ← X0g u i hi, h]
 ·intro h
  unfold mkT
  rw [h 0 (by omega), h 1 (by omega), h 2 (by omega), h 3 (by omega), h 4 (by omega), h 5 (by omega)]
def ltO (x y : Tor) : Prop := x.a < y.a ∨ x.a = y.a ∧ (x.b < y.b ∨ x.b = y.b ∧ (x.c < y.c ∨ x.c = y.c ∧ (x.d < y.d ∨ x.d = y.d ∧ (x.e < y.e ∨ x.e = y.e ∧ x.f < y.f))))
instance (x y : Tor) : Decidable (ltO x y) := by unfold ltO; infer_instance
theorem X0c {a b c : Rat} {P Q R : Prop} (f : P → Q → R) (h : a < b ∨ a = b ∧ P) (k : b < c ∨ b = c ∧ Q) : a < c ∨ a = c ∧ R := by
 rcases h with h | ⟨e, p⟩ <;> rcases k with k | ⟨e', q⟩
 ·left; grind
 ·left; grind
 ·left; grind
 ·exact .inr ⟨e.trans e', f p q⟩
theorem y1U {x y z : Tor} (h : ltO x y) (k : ltO y z) : ltO x z := X0c (fun h k => X0c (fun h k => X0c (fun h k => X0c (fun h k => X0c (fun h k => by grind) h k) h k) h k) h k) h k
theorem J1S (x y : Tor) : ltO x y ∨ x = y ∨ ltO y x := by
 cases x; cases y
 simp only [ltO, Tor.mk.injEq]
 grind
theorem J1x {x y : Tor} (h : ∀ j, j < 6 → x.n j = y.n j) : x = y := by
 rw [← J1X x, ← J1X y]
 exact y1Y.2 h
def J0P (p : Tor) : List Tor → List Tor
 |[] => [p]
 |q :: L => if ltO q p then q :: J0P p L else if q = p then q :: L else p :: q :: L
def w1x (L : List Tor) : Prop := L.Pairwise ltO
theorem V0P {p r : Tor} : ∀ {L : List Tor}, r ∈ J0P p L ↔ r = p ∨ r ∈ L
 |[] => by simp [J0P]
 |q :: L => by
  unfold J0P
  split
  ·rw [List.mem_cons, V0P, List.mem_cons]; grind
  ·split
   ·rename_i e; subst e; simp
   ·simp
theorem Z0Y {p : Tor} : ∀ {L : List Tor}, w1x L → w1x (J0P p L)
 |[], _ => by simp [J0P, w1x]
 |q :: L, h => by
  obtain ⟨h1, h2⟩ := List.pairwise_cons.1 h
  unfold J0P
  split
  ·rename_i hq
   refine List.pairwise_cons.2 ⟨fun r hr => ?_, Z0Y h2⟩
   rcases V0P.1 hr with e | e
   ·subst e; exact hq
   ·exact h1 r e
  ·split
   ·exact h
   ·rename_i hq he
    have hpq : ltO p q := by
     rcases J1S p q with e | e | e
     ·exact e
     ·exact absurd e.symm he
     ·exact absurd e hq
    refine List.pairwise_cons.2 ⟨fun r hr => ?_, h⟩
    rcases List.mem_cons.1 hr with e | e
    ·subst e; exact hpq
    ·exact y1U hpq (h1 r e)
def Y0F (L : List Tor) : List Tor := L.foldl (fun a p => J0P p a) []
theorem k0k : ∀ {L a : List Tor}, w1x a → w1x (L.foldl (fun a p => J0P p a) a) ∧ ∀ r, r ∈ L.foldl (fun a p => J0P p a) a ↔ r ∈ L ∨ r ∈ a
 |[], a, ha => ⟨ha, fun r => by simp⟩
 |p :: L, a, ha => by
  obtain ⟨h1, h2⟩ := k0k (L := L) (a := J0P p a) (Z0Y ha)
  refine ⟨h1, fun r => ?_⟩
  rw [List.foldl_cons, h2, V0P, List.mem_cons]
  grind
theorem z0Y (L : List Tor) : w1x (Y0F L) ∧ ∀ r, r ∈ Y0F L ↔ r ∈ L := by
 obtain ⟨h1, h2⟩ := k0k (L := L) (a := []) List.Pairwise.nil
 exact ⟨h1, fun r => by unfold Y0F; rw [h2]; simp⟩
theorem Z0Z {p : Tor} : ∀ {L : List Tor}, (J0P p L).length ≤ L.length + 1
 |[] => by simp [J0P]
 |q :: L => by
  unfold J0P
  split
  ·have := Z0Z (p := p) (L := L); simp only [List.length_cons]; omega
  ·split <;> simp
def y0a (p : Tor) : List Tor → Nat
 |[] => 0
 |q :: L => if ltO q p then y0a p L + 1 else 0
theorem J0n (p : Tor) : ∀ L : List Tor, y0a p L ≤ L.length
 |[] => Nat.le_refl _
 |q :: L => by
  have := J0n p L
  unfold y0a
  split <;> simp only [List.length_cons] <;> omega
theorem V0O {p : Tor} : ∀ {L : List Tor}, J0P p L = if L[y0a p L]? = some p then L else L.take (y0a p L) ++ p :: L.drop (y0a p L)
 |[] => by simp [J0P, y0a]
 |q :: L => by
  unfold J0P y0a
  split
  ·rw [V0O (L := L)]
   simp only [List.getElem?_cons_succ, List.take_succ_cons, List.drop_succ_cons]
   split <;> simp
  ·simp only [List.getElem?_cons_zero, List.take_zero, List.drop_zero, List.nil_append, Option.some.injEq]
theorem y1y {p : Tor} : ∀ {L : List Tor}, w1x L → ∀ i (h : i < L.length), ltO L[i] p ↔ i < y0a p L
 |[], _, i, h => absurd h (Nat.not_lt_zero i)
 |q :: L, hL, i, h => by
  obtain ⟨h1, h2⟩ := List.pairwise_cons.1 hL
  unfold y0a
  split
  ·rename_i hq
   match i, h with
   |0, _ => simp [hq]
   |i + 1, h =>
    have := y1y (p := p) h2 i (by simpa using h)
    simp only [List.getElem_cons_succ]
    rw [this]; omega
  ·rename_i hq
   match i, h with
   |0, _ => simp [hq]
   |i + 1, h =>
    simp only [List.getElem_cons_succ]
    constructor
    ·intro hlt
     exact absurd (y1U (h1 _ (List.getElem_mem _)) hlt) hq
    ·omega
def x0g (S : Sys) : List Tor := Y0F ((q0J S).map mkT)
theorem x1p {S : Sys} (hS : Prm S.ax) (h0 : 0 < (S.sp 2).length) {x : Tor} : x ∈ x0g S ↔ Tch S x.n := by
 unfold x0g
 rw [(z0Y _).2, List.mem_map]
 constructor
 ·rintro ⟨t, ht, rfl⟩
  exact (X0g t).symm.tch (W0F hS h0 ht)
 ·intro h
  obtain ⟨u, hu, e⟩ := v1O hS h
  exact ⟨u, hu, (y1Y.2 e).trans (J1X x)⟩
def k1t (S : Sys) : Prop := ∃ i j, i < (S.sp 1).length ∧ j < (S.sp 1).length ∧ cz (gt (S.sp 1) i) (S.ax 2) ≠ cz (gt (S.sp 1) j) (S.ax 2)
end Go.Proofs.YtfggdokihnopeaaGreatDoor.H
namespace Go.Proofs.YtfggdokihnopeaaGreatDoor.H
open Go Go.Vc Go.RowKit Go.Na
def CD (d : Int) (X : Nat) (q : Rat) : Prop := ∃ x : Int, q * (d : Rat) = (x : Rat) ∧ x.natAbs ≤ X
theorem J1i {d : Int} (h : d ≠ 0) : (d : Rat) ≠ 0 := fun e => h (by exact Rat.intCast_inj.1 (e.trans Rat.intCast_zero.symm))
theorem CD.lr {d : Int} {X : Nat} {q : Rat} {k : Nat} (h : CD d X q) (h0 : d ≠ 0) (hX : X < 10 ^ k) (hd : d.natAbs < 10 ^ k) : LR k q := by
 obtain ⟨x, e, h1⟩ := h
 have hd' := J1i h0
 have e2 : q = Rat.divInt x d := by
  rw [v0J, ← e]
  grind
 rw [e2]
 exact v0I h0 (show x.natAbs < 10 ^ k from Nat.lt_of_le_of_lt h1 hX) hd
theorem CD.mono {d : Int} {X Y : Nat} {q : Rat} (h : CD d X q) (hl : X ≤ Y) : CD d Y q := by
 obtain ⟨x, e, h1⟩ := h
 exact ⟨x, e, Nat.le_trans h1 hl⟩
theorem CD.add {d : Int} {X Y : Nat} {q r : Rat} (h : CD d X q) (h' : CD d Y r) : CD d (X + Y) (q + r) := by
 obtain ⟨x, e, h1⟩ := h
 obtain ⟨y, e', h2⟩ := h'
 exact ⟨x + y, by rw [Rat.intCast_add]; grind, Nat.le_trans (Int.natAbs_add_le x y) (Nat.add_le_add h1 h2)⟩
theorem CD.neg {d : Int} {X : Nat} {q : Rat} (h : CD d X q) : CD d X (-q) := by
 obtain ⟨x, e, h1⟩ := h
 exact ⟨-x, by rw [Rat.intCast_neg]; grind, by omega⟩
theorem CD.sub {d : Int} {X Y : Nat} {q r : Rat} (h : CD d X q) (h' : CD d Y r) : CD d (X + Y) (q - r) := by
 rw [Rat.sub_eq_add_neg]
 exact h.add h'.neg
theorem CD.mulI {d : Int} {X C : Nat} {q : Rat} (h : CD d X q) {c : Int} (hc : c.natAbs ≤ C) : CD d (C * X) ((c : Rat) * q) := by
 obtain ⟨x, e, h1⟩ := h
 exact ⟨c * x, by rw [Rat.intCast_mul]; grind, by rw [Int.natAbs_mul]; exact Nat.mul_le_mul hc h1⟩
theorem CD.int {d : Int} {D C : Nat} (hd : d.natAbs ≤ D) {c : Int} (hc : c.natAbs ≤ C) : CD d (C * D) (c : Rat) :=
 ⟨c * d, by rw [Rat.intCast_mul], by rw [Int.natAbs_mul]; exact Nat.mul_le_mul hc hd⟩
theorem CD.scale {d : Int} {X M : Nat} {q : Rat} (h : CD d X q) {m : Int} (hm : m.natAbs ≤ M) : CD (d * m) (X * M) q := by
 obtain ⟨x, e, h1⟩ := h
 exact ⟨x * m, by rw [Rat.intCast_mul, Rat.intCast_mul]; grind, by rw [Int.natAbs_mul]; exact Nat.mul_le_mul h1 hm⟩
theorem CD.div {d : Int} {X : Nat} {q : Rat} (h : CD d X q) {m : Int} (hm : m ≠ 0) : CD (d * m) X (q / (m : Rat)) := by
 obtain ⟨x, e, h1⟩ := h
 have hm' := J1i hm
 exact ⟨x, by rw [Rat.intCast_mul, ← e]; grind, h1⟩
def CT (d : Int) (X : Nat) (t : Nat → Rat) : Prop := ∀ i, CD d X (t i)
theorem CT.mv {d : Int} {X D : Nat} {t : Nat → Rat} (h : CT d X t) (hd : d.natAbs ≤ D) {p : Tr} (hp : BT 2000 p) {k : Nat} (hk : k < 3) : CD d (2000 * D + 4001 * X) (mvQ t p k) := by
 have hx := hp.x
 have hy := hp.y
 have hz := hp.z
 have e := q1r t p
 have key : ∀ (c a b : Int) (i j m : Nat), -2000 ≤ c → c ≤ 2000 → -2000 ≤ a → a ≤ 2000 → -2000 ≤ b → b ≤ 2000 → CD d (2000 * D + 4001 * X) ((c : Rat) + t i + (t j * (a : Rat) - t m * (b : Rat))) := fun c a b i j m h1 h2 h3 h4 h5 h6 => by
  have q1 := (CD.int (C := 2000) hd (c := c) zO).add (h i)
  have q2 := ((h j).mulI (C := 2000) (c := a) zO).sub ((h m).mulI (C := 2000) (c := b) zO)
  rw [Rat.mul_comm (t j), Rat.mul_comm (t m)]
  exact (q1.add q2).mono zO
 rcases (by omega : k = 0 ∨ k = 1 ∨ k = 2) with rfl | rfl | rfl
 ·rw [e.1]; exact key _ _ _ _ _ _ hx.1 hx.2 hz.1 hz.2 hy.1 hy.2
 ·rw [e.2.1]; exact key _ _ _ _ _ _ hy.1 hy.2 hx.1 hx.2 hz.1 hz.2
 ·rw [e.2.2]; exact key _ _ _ _ _ _ hz.1 hz.2 hy.1 hy.2 hx.1 hx.2
structure SmS (S : Sys) : Prop where
 pr : Prm S.ax
 off : ∀ k, (S.off k).natAbs ≤ 100000
 sp : ∀ k i, BT 2000 (gt (S.sp k) i)
theorem SmS.ax {S : Sys} (h : SmS S) {k : Nat} (hk : k < 3) : S.ax k < 3 := by
 obtain ⟨h0, h1, h2, _⟩ := h.pr
 rcases (by omega : k = 0 ∨ k = 1 ∨ k = 2) with rfl | rfl | rfl <;> assumption
theorem CT.hq {S : Sys} (hS : SmS S) {d : Int} {X D : Nat} {t : Nat → Rat} (h : CT d X t) (hd : d.natAbs ≤ D) {p : Tr} (hp : BT 2000 p) {k : Nat} (hk : k < 3) : CD d (102000 * D + 4001 * X) (hq S t k p) := by
 unfold H.hq
 exact ((h.mv hd hp (hS.ax hk)).sub (CD.int hd (hS.off k))).mono zO
theorem SmS.rt {S : Sys} (hS : SmS S) (k : Nat) : RT (S.sp k) := fun i => let h := hS.sp k i; ⟨⟨by have := h.x; omega, by have := h.x; omega⟩, ⟨by have := h.y; omega, by have := h.y; omega⟩, ⟨by have := h.z; omega, by have := h.z; omega⟩⟩
theorem J0j {n d : Int} (h0 : d ≠ 0) {X : Nat} (hn : n.natAbs ≤ X) : CD d X (Rat.divInt n d) := by
 refine ⟨n, ?_, hn⟩
 rw [v0J]
 have := J1i h0
 grind
theorem K0E {k : Nat} {o : Int} {A B C : Rat} (Q : Rat → Prop) (h0 : Q 0) (h1 : Q ((o : Rat) - A)) (h2 : Q B) (h3 : Q (-B)) (h4 : Q C) (h5 : Q (-C)) (i : Nat) : Q (Q0V k o A B C i) := by
 unfold Q0V
 split <;> (dsimp only; split <;> assumption)
theorem V0w {S : Sys} (hS : SmS S) {t : Nat → Rat} (h : t ∈ j0J S) : ∃ d : Int, d ≠ 0 ∧ d.natAbs ≤ 80000000000 ∧ CT d 10000000000000000 t := by
 obtain ⟨P, hP, rfl⟩ := List.mem_map.1 h
 obtain ⟨a, b, c, hz, eA, eB, eC⟩ := v1R (J0h hP)
 have hn := BT.np (hS.rt 0) (S.ax 0) a b c
 have h4 : cz (nP (S.sp 0) (S.ax 0) a b c) (S.ax 0) ≠ 0 := by have := x0p (k := S.ax 0) (n := nvP (gt (S.sp 0) a) (gt (S.sp 0) b) (gt (S.sp 0) c)) hz; unfold nP; omega
 have n0 := hn.cz (S.ax 0)
 have n1 := hn.cz (ou (S.ax 0))
 have n2 := hn.cz (ov (S.ax 0))
 have ho := hS.off 0
 refine ⟨cz (nP (S.sp 0) (S.ax 0) a b c) (S.ax 0), h4, by omega, fun i => ?_⟩
 have hm : (mP (S.sp 0) (S.ax 0) a b c).natAbs ≤ 480000000000000 := by
  have hp := hS.sp 0 a
  have := hn.x; have := hn.y; have := hn.z; have := hp.x; have := hp.y; have := hp.z
  unfold mP w0k
  generalize nP (S.sp 0) (S.ax 0) a b c = n at *
  generalize gt (S.sp 0) a = p at *
  have key : ∀ x y : Int, -80000000000 ≤ x → x ≤ 80000000000 → -2000 ≤ y → y ≤ 2000 → (x * y).natAbs ≤ 160000000000000 := fun x y h1 h2 h3 h4 => by
   rw [Int.natAbs_mul]
   exact Nat.le_trans (Nat.mul_le_mul (show x.natAbs ≤ 80000000000 by omega) (show y.natAbs ≤ 2000 by omega)) zE
  have k1 := key n.x p.x zO zO zO zO
  have k2 := key n.y p.y zO zO zO zO
  have k3 := key n.z p.z zO zO zO zO
  omega
 obtain ⟨d, hd⟩ : ∃ d, d = cz (nP (S.sp 0) (S.ax 0) a b c) (S.ax 0) := ⟨_, rfl⟩
 rw [← hd] at h4 n0 ⊢
 have cA : CD d 480000000000000 P.A := by rw [eA]; unfold aP; rw [← hd]; exact J0j h4 hm
 have cB : CD d 80000000000 P.B := by rw [eB]; unfold bP; rw [← hd]; exact J0j h4 (by omega)
 have cC : CD d 80000000000 P.C := by rw [eC]; unfold cP; rw [← hd]; exact J0j h4 (by omega)
 have cO := CD.int (C := 100000) (D := 80000000000) (d := d) zO ho
 exact K0E (CD d 10000000000000000) (by rw [← Rat.intCast_zero]; exact (CD.int (C := 0) (D := 80000000000) (by omega) (by decide)).mono (by decide)) ((cO.sub cA).mono (by decide)) (cB.mono (by decide)) (cB.neg.mono (by decide)) (cC.mono (by decide)) (cC.neg.mono (by decide)) i
theorem Y0U {S : Sys} (hS : SmS S) {p : Tr} (hp : BT 2000 p) : (q0B S p).natAbs ≤ 2000 := by
 have h1 := K0V hS.pr p
 have h2 := hp.cz (S.ax 2)
 unfold sgA at h1
 split at h1
 ·have : q0B S p = -cz p (S.ax 2) := Rat.intCast_inj.1 (by rw [h1, Rat.intCast_neg]; grind)
  omega
 ·have : q0B S p = cz p (S.ax 2) := Rat.intCast_inj.1 (by rw [h1]; grind)
  omega
theorem K0S {d : Int} {X Y : Nat} {t : Nat → Rat} (h : CT d X t) {s r : Nat} {x y : Rat} (hx : CD d Y x) (hy : CD d Y y) : CT d (X + Y) (w0L t s x r y) := fun i => by
 unfold w0L
 split
 ·exact (h i).add hx
 ·split
  ·exact (h i).add hy
  ·exact (h i).mono zO
structure SCD (S : Sys) (t : Nat → Rat) (p q : Tr) (d : Int) : Prop where
 ang : CD d 100000000000000000000 (X0M S t p q)
 arm : CD d 200000000000000000000000 ((q0B S p : Rat) * X0M S t p q)
 lft : CD d 400000000000000000000000 (J1Q S t p q)
 tor : CT d 500000000000000000000000 (q0N S t p q)
theorem q1i {S : Sys} (hS : SmS S) {d : Int} {t : Nat → Rat} (h : CT d 10000000000000000 t) (hd0 : d ≠ 0) (hd : d.natAbs ≤ 80000000000) {p q : Tr} (hp : BT 2000 p) (hq : BT 2000 q) (hne : q0B S p ≠ q0B S q) :
  ∃ d' : Int, d' ≠ 0 ∧ d'.natAbs ≤ 320000000000000 ∧ SCD S t p q d' := by
 have a1 := Y0U hS hp
 have a2 := Y0U hS hq
 have hm : (q0B S p - q0B S q).natAbs ≤ 4000 := by omega
 have hm0 : q0B S p - q0B S q ≠ 0 := by omega
 have h1 := h.hq hS hd hp (k := 1) zE
 have h2 := h.hq hS hd hq (k := 1) zE
 have c1 : CD (d * (q0B S p - q0B S q)) 100000000000000000000 (X0M S t p q) := by
  unfold X0M
  rw [← Rat.intCast_sub]
  exact ((h2.sub h1).div hm0).mono zE
 have c2 := c1.mulI a1
 have c3 := (c2.add (h1.scale hm)).neg
 have c4 : CD (d * (q0B S p - q0B S q)) 400000000000000000000000 (J1Q S t p q) := c3.mono zE
 refine ⟨d * (q0B S p - q0B S q), Int.mul_ne_zero hd0 hm0, ?_, c1, c2.mono zE, c4, ?_⟩
 ·rw [Int.natAbs_mul]
  exact Nat.le_trans (Nat.mul_le_mul hd hm) zE
 ·intro i
  exact (K0S (fun i => (h i).scale hm) c4 (c1.mono zE) i).mono zE
theorem X0v {S : Sys} (hS : SmS S) {t u : Nat → Rat} (ht : t ∈ j0J S) (hu : u ∈ second S t) : ∃ d : Int, d ≠ 0 ∧ d.natAbs ≤ 320000000000000 ∧ CT d 500000000000000000000000 u := by
 obtain ⟨d, h1, h2, h3⟩ := V0w hS ht
 obtain ⟨i, k, hi, hk, hne, _, rfl⟩ := y0X.1 hu
 obtain ⟨d', q1, q2, q3⟩ := q1i hS h3 h1 h2 (hS.sp 1 i) (hS.sp 1 k) hne
 exact ⟨d', q1, q2, q3.tor⟩
theorem J1W (f : Nat → Rat) (n : Nat) (h : 0 < n) : ∃ i, i < n ∧ Q0f f n = f i := by
 rcases (J0L f n).2.2 with e | ⟨i, hi, e⟩
 ·exact ⟨0, h, e⟩
 ·exact ⟨i, hi, e⟩
theorem x1X {S : Sys} (hS : SmS S) (h0 : 0 < (S.sp 2).length) {d : Int} {u : Nat → Rat} (hd : d.natAbs ≤ 320000000000000) (h : CT d 500000000000000000000000 u) : CT d 10000000000000000000000000000 (q0F S u) := by
 obtain ⟨i, hi, e⟩ := J1W (fun i => hq S u 2 (gt (S.sp 2) i)) (S.sp 2).length h0
 have h1 := h.hq hS hd (hS.sp 2 i) (k := 2) zE
 intro j
 unfold q0F Q1Z
 rw [e]
 refine (K0S h h1.neg ?_ j).mono zE
 rw [← Rat.intCast_zero]
 exact (CD.int (C := 0) hd (c := 0) (Nat.le_refl 0)).mono (by rw [Nat.zero_mul]; exact Nat.zero_le _)
theorem w1I {S : Sys} (hS : SmS S) (h0 : 0 < (S.sp 2).length) {t : Nat → Rat} (h : t ∈ q0J S) : ∃ d : Int, d ≠ 0 ∧ d.natAbs ≤ 320000000000000 ∧ CT d 10000000000000000000000000000 t := by
 obtain ⟨a, ha, h⟩ := List.mem_flatMap.1 h
 obtain ⟨u, hu, rfl⟩ := List.mem_map.1 h
 obtain ⟨d, h1, h2, h3⟩ := X0v hS ha hu
 exact ⟨d, h1, h2, x1X hS h0 h2 h3⟩
theorem CT.lr {d : Int} {X : Nat} {t : Nat → Rat} (h : CT d X t) (h0 : d ≠ 0) (hd : d.natAbs < 10 ^ 43) (hX : X < 10 ^ 43) (i : Nat) : LR 43 (t i) := (h i).lr h0 hX hd
theorem Z0s {S : Sys} (hS : SmS S) {t : Nat → Rat} (h : t ∈ j0J S) : (∀ i, LR 43 (t i)) ∧ ∀ k, k < 3 → ∀ p, BT 2000 p → LR 43 (hq S t k p) := by
 obtain ⟨d, h1, h2, h3⟩ := V0w hS h
 exact ⟨h3.lr h1 zO zE, fun k hk p hp => (h3.hq hS h2 hp hk).lr h1 zE zO⟩
theorem v1r {S : Sys} (hS : SmS S) {t u : Nat → Rat} (ht : t ∈ j0J S) (hu : u ∈ second S t) : (∀ i, LR 43 (u i)) ∧ ∀ k, k < 3 → ∀ p, BT 2000 p → LR 43 (hq S u k p) := by
 obtain ⟨d, h1, h2, h3⟩ := X0v hS ht hu
 exact ⟨h3.lr h1 zO zE, fun k hk p hp => (h3.hq hS h2 hp hk).lr h1 zE zO⟩
theorem z0H {S : Sys} (hS : SmS S) (h0 : 0 < (S.sp 2).length) {t : Nat → Rat} (h : t ∈ q0J S) : (∀ i, LR 43 (t i)) ∧ ∀ k, k < 3 → ∀ p, BT 2000 p → LR 43 (hq S t k p) := by
 obtain ⟨d, h1, h2, h3⟩ := w1I hS h0 h
 exact ⟨h3.lr h1 zO zE, fun k hk p hp => (h3.hq hS h2 hp hk).lr h1 zE zO⟩
theorem q1j {S : Sys} (hS : SmS S) {t : Nat → Rat} (ht : t ∈ j0J S) {p q : Tr} (hp : BT 2000 p) (hq' : BT 2000 q) (hne : q0B S p ≠ q0B S q) :
  (∀ i, LR 43 (q0N S t p q i)) ∧ LR 43 (X0M S t p q) ∧ LR 43 ((q0B S p : Rat) * X0M S t p q) ∧ LR 43 (J1Q S t p q) ∧ ∀ k, k < 3 → ∀ x, BT 2000 x → LR 43 (hq S (q0N S t p q) k x) := by
 obtain ⟨d, h1, h2, h3⟩ := V0w hS ht
 obtain ⟨d', q1, q2, q3⟩ := q1i hS h3 h1 h2 hp hq' hne
 exact ⟨q3.tor.lr q1 zO zE, q3.ang.lr q1 zE zO, q3.arm.lr q1 zE zO, q3.lft.lr q1 zE zO, fun k hk x hx => (q3.tor.hq hS q2 hx hk).lr q1 zE zO⟩
def fmL {α : Type} (f : Nat → Nat → Option α) (n : Nat) : List α := (List.range n).flatMap fun i => (List.range i).filterMap fun k => f i k
def fmC {α : Type} (f : Nat → Nat → Option α) (i k : Nat) : Nat := (fmL f i).length + ((List.range k).filterMap fun k => f i k).length
theorem z0P {α : Type} (f : Nat → Nat → Option α) (n : Nat) : fmL f (n + 1) = fmL f n ++ (List.range n).filterMap fun k => f n k := by
 unfold fmL
 rw [List.range_succ, List.flatMap_append]
 simp
theorem J1D {α : Type} (f : Nat → Nat → Option α) {i n : Nat} (h : i ≤ n) : ∃ r, fmL f n = fmL f i ++ r := by
 obtain ⟨d, rfl⟩ := Nat.exists_eq_add_of_le h
 clear h
 induction d with
 |zero => exact ⟨[], by simp⟩
 |succ d ih =>
  obtain ⟨r, e⟩ := ih
  exact ⟨r ++ (List.range (i + d)).filterMap fun k => f (i + d) k, by rw [show i + (d + 1) = (i + d) + 1 by omega, z0P, e, List.append_assoc]⟩
theorem W1j {α : Type} (g : Nat → Option α) {k n : Nat} (h : k ≤ n) : ∃ r, (List.range n).filterMap g = (List.range k).filterMap g ++ r := by
 obtain ⟨d, rfl⟩ := Nat.exists_eq_add_of_le h
 exact ⟨((List.range d).map (k + ·)).filterMap g, by rw [List.range_add, List.filterMap_append]⟩
theorem Y0a {α : Type} (g : Nat → Option α) (k : Nat) : (List.range (k + 1)).filterMap g = (List.range k).filterMap g ++ (g k).toList := by
 rw [List.range_succ, List.filterMap_append]
 cases h : g k <;> simp [h]
theorem Z0x {α : Type} {f : Nat → Nat → Option α} {i k : Nat} (h : f i k = none) : fmC f i (k + 1) = fmC f i k := by
 unfold fmC; rw [Y0a, h]; simp
theorem x1c {α : Type} {f : Nat → Nat → Option α} {i k : Nat} {u : α} (h : f i k = some u) : fmC f i (k + 1) = fmC f i k + 1 := by
 unfold fmC; rw [Y0a, h]; simp; omega
theorem J1C {α : Type} (f : Nat → Nat → Option α) (i : Nat) : fmC f (i + 1) 0 = fmC f i i := by
 unfold fmC; rw [z0P]; simp
theorem J1B {α : Type} (f : Nat → Nat → Option α) (n : Nat) : fmC f n 0 = (fmL f n).length := by
 unfold fmC; simp
theorem Y1J {α : Type} {f : Nat → Nat → Option α} {n i k : Nat} (hi : i < n) (hk : k < i) {u : α} (h : f i k = some u) : (fmL f n)[fmC f i k]? = some u := by
 obtain ⟨r, e⟩ := J1D f (i := i + 1) (n := n) zO
 obtain ⟨r2, e2⟩ := W1j (fun k => f i k) (k := k + 1) (n := i) zO
 rw [e, z0P, e2, Y0a, h]
 unfold fmC
 rw [List.append_assoc, List.append_assoc, List.append_assoc, List.getElem?_append_right (by omega), Nat.add_sub_cancel_left, List.getElem?_append_right (by simp)]
 simp
theorem J0V (S : Sys) (t : Nat → Rat) : second S t = fmL (fun i k => lnS S t i k) (S.sp 1).length := rfl
def flC {α β : Type} (g : α → List β) (l : List α) (i : Nat) : Nat := ((l.take i).flatMap g).length
theorem Z0u {α β : Type} (g : α → List β) {l : List α} {i : Nat} {a : α} (h : l[i]? = some a) : flC g l (i + 1) = flC g l i + (g a).length := by
 unfold flC
 rw [List.take_add_one, h]
 simp
theorem j1O {α β : Type} (g : α → List β) (l : List α) : flC g l l.length = (l.flatMap g).length := by
 unfold flC; rw [List.take_length]
theorem W1h {α β : Type} (g : α → List β) {l : List α} {i j : Nat} {a : α} {b : β} (h : l[i]? = some a) (hb : (g a)[j]? = some b) : (l.flatMap g)[flC g l i + j]? = some b := by
 obtain ⟨hl, rfl⟩ := List.getElem?_eq_some_iff.1 h
 have e : l = l.take i ++ l[i] :: l.drop (i + 1) := by rw [List.getElem_cons_drop, List.take_append_drop]
 have hj := (List.getElem?_eq_some_iff.1 hb).1
 have e2 : l.flatMap g = (l.take i).flatMap g ++ (g l[i] ++ (l.drop (i + 1)).flatMap g) := by
  conv => lhs; rw [e]
  rw [List.flatMap_append, List.flatMap_cons]
 unfold flC
 rw [e2, List.getElem?_append_right (by omega), Nat.add_sub_cancel_left, List.getElem?_append_left hj]
 exact hb
end Go.Proofs.YtfggdokihnopeaaGreatDoor.H
namespace Go.Proofs.YtfggdokihnopeaaGreatDoor.H
open Go Go.Vc Go.RowKit
open Go.Na (rtx LR j0v v0j rsg)
set_option maxHeartbeats 4000000
def syA (S : Sys) : Nat → AV
 |0 => vi ((S.ax 0 : Nat) : Int)
 |1 => vi ((S.ax 1 : Nat) : Int)
 |2 => vi ((S.ax 2 : Nat) : Int)
 |3 => vi (S.off 0)
 |4 => vi (S.off 1)
 |5 => vi (S.off 2)
 |6 => ts (S.sp 0)
 |7 => ts (S.sp 1)
 |_ => ts (S.sp 2)
abbrev syV (S : Sys) : AV := .agg 9 (syA S)
abbrev hgF (S : Sys) (t : Nat → Rat) (k : Nat) : Nat → Nat → AV := fun i _ => vR (hq S t k (gt (S.sp k) i))
theorem w0S (p : Tr) {k : Nat} (hk : k < 3) : CtrA Tryz.prog 186 [tp p, vi (k : Int)] (vi (cz p k)) := by
 refine j0s _ Tryz.func186 rfl rfl Tryz.ntmps186 rfl fun w Z => ?_
 refine zU ?_
 refine wt ?_
 refine j0j (q0i (V1x p hk) rfl rfl) rfl ?_
 refine wt ?_
 exact zV
abbrev t6L (t : Nat → Rat) : List Value := [sv (rtx (t 0)), sv (rtx (t 1)), sv (rtx (t 2)), sv (rtx (t 3)), sv (rtx (t 4)), sv (rtx (t 5))]
abbrev t6P (t : Nat → Rat) : AV := .ptr 6 (fun i => .val ((t6L t).getD i undef))
theorem J0e (S : Sys) (t : Nat → Rat) (k : Nat) (p : Tr) : w0P t p (S.ax k) - (S.off k : Rat) = hq S t k p := rfl
theorem y1d (x : List UInt8) (w : World) : (Instr.buildSlice 62 1 #[(0, sv x)]).run Tryz.prog w = .ok (.slice (some ⟨w.heap.size, 0, none⟩) 1 1) (w.alloc (.cells #[sv x] 33)) := by kernel_rfl
theorem W1W (u : Value) : ∀ i, i < 1 → ∀ j, j < 1 → ∃ v, [u][i * 1 + j]? = some v ∧ (fun (_ _ : Nat) => AV.val u) i j = .val v := fun i hi j hj => by
 obtain rfl : i = 0 := by omega
 obtain rfl : j = 0 := by omega
 exact ⟨u, rfl, rfl⟩
theorem W1Y {n i j : Nat} {f : Nat → Nat → AV} {τ : AV} (hi : i < n + 1) (h : f n j = τ) : w0u n f (fun _ _ => τ) i j = f i j := by
 unfold w0u
 split
 ·rfl
 ·rw [show i = n by omega]; exact h.symm
theorem Y1S (f : Nat → AV) {a : Nat} (ha : a < 3) {cs : List SV} (h : cs = [.av (f 0), .av (f 1), .av (f 2)]) : cs[0 + a * 1]? = some (.av (f a)) := by
 subst h
 rcases (by omega : a = 0 ∨ a = 1 ∨ a = 2) with rfl | rfl | rfl <;> rfl
theorem K0f (S : Sys) (hS : SmS S) (t : Nat → Rat) (ht : ∀ i, LR 43 (t i)) (hn : (S.sp 0).length ≤ 1000) : CtrR Tryz.prog 120 [syV S, vi 0, t6 t] 33 1 (S.sp 0).length (hgF S t 0) [vi 0] := by
 refine K0L _ Tryz.func120 rfl rfl Tryz.ntmps120 rfl fun w Z => ?_
 have hax : S.ax 0 < 3 := hS.ax zE
 have hof := hS.off 0
 have hwh := v0f (S.off 0) zO
 refine zU ?_
 refine wt ?_
 refine w0h (v0L (dd := 8) 20 33 1 (hgF S t 0) rfl rfl) ?_
 refine j0g (γ := Nat) (fun i => [(1, .av (vi 0)), (3, .av (.ptr 9 (syA S))), (5, .av (t6P t)), (17, .av (ts (S.sp 0))), (18, .av (vi (S.sp 0).length)), (19, .av (vi i)), (8, .osl 20)]) (fun i => [(20, .row 33 1 i (hgF S t 0))]) (fun i => i ≤ (S.sp 0).length) (fun i => (S.sp 0).length - i) 0 zO (ent zS zT) ?_
 intro i hi
 refine wt ?_
 (refine j0a rfl ?_ ?_ <;> intro hb <;> (try simp only [zA, zB, zG, zC, zD, zN] at hb) <;> (try exact zQ))
 ·have hil : i < (S.sp 0).length := by omega
  have hb2 := hS.sp 0 i
  have hb5 : BT 100000 (gt (S.sp 0) i) := hS.rt 0 i
  have hap := y0J t (gt (S.sp 0) i) hb5 ht
  have hsu := z0a (w0P t (gt (S.sp 0) i) (S.ax 0)) (S.off 0 : Rat) (X0P hb5 ht _) (Go.Na.LR.mono (q0h (x := S.off 0) zO) zE)
  rw [J0e] at hsu
  refine wt ?_
  refine j0j (j0k (us := t6L t) rfl rfl rfl rfl) rfl ?_
  refine wt ?_
  refine q0H (j0u rfl rfl (Y1S (fun j => vR (w0P t (gt (S.sp 0) i) j)) hax rfl)) rfl ?_
  refine wt ?_
  refine j0j (j0S (is := [0]) (xs := [_]) (vs := [sv (rtx (hq S t 0 (gt (S.sp 0) i)))]) (us := [sv (rtx (hq S t 0 (gt (S.sp 0) i)))]) (row := fun _ _ => vR (hq S t 0 (gt (S.sp 0) i))) (y1d _) rfl rfl rfl (W1W _)) rfl ?_
  refine wt ?_
  refine j0A (q0G (m := 1) (sz := 1) (bytes := 16) (h := fun _ _ => vR (hq S t 0 (gt (S.sp 0) i))) rfl rfl rfl (fun _ _ _ _ => rfl) (by decide) (by simp only [maxLen]; omega) (by omega)) rfl ?_
  refine wt ?_
  exact j0b (i + 1) zO zO (ent zS ⟨⟨_, rfl, .row rfl (fun a ha b hb => W1Y ha rfl)⟩, trivial⟩)
 ·have hil : i = (S.sp 0).length := by omega
  subst hil
  refine wt ?_
  exact y0E (rvs := []) (τs := [vi 0]) rfl rfl rfl rfl (fun _ _ _ _ => rfl) ⟨.tmp rfl, trivial⟩ rfl
theorem y0V (S : Sys) (hS : SmS S) (t : Nat → Rat) (ht : ∀ i, LR 43 (t i)) (hn : (S.sp 1).length ≤ 1000) : CtrR Tryz.prog 120 [syV S, vi 1, t6 t] 33 1 (S.sp 1).length (hgF S t 1) [vi 0] := by
 refine K0L _ Tryz.func120 rfl rfl Tryz.ntmps120 rfl fun w Z => ?_
 have hax : S.ax 1 < 3 := hS.ax zE
 have hof := hS.off 1
 have hwh := v0f (S.off 1) zO
 refine zU ?_
 refine wt ?_
 refine w0h (v0L (dd := 8) 20 33 1 (hgF S t 1) rfl rfl) ?_
 refine j0g (γ := Nat) (fun i => [(1, .av (vi 1)), (3, .av (.ptr 9 (syA S))), (5, .av (t6P t)), (17, .av (ts (S.sp 1))), (18, .av (vi (S.sp 1).length)), (19, .av (vi i)), (8, .osl 20)]) (fun i => [(20, .row 33 1 i (hgF S t 1))]) (fun i => i ≤ (S.sp 1).length) (fun i => (S.sp 1).length - i) 0 zO (ent zS zT) ?_
 intro i hi
 refine wt ?_
 (refine j0a rfl ?_ ?_ <;> intro hb <;> (try simp only [zA, zB, zG, zC, zD, zN] at hb) <;> (try exact zQ))
 ·have hil : i < (S.sp 1).length := by omega
  have hb2 := hS.sp 1 i
  have hb5 : BT 100000 (gt (S.sp 1) i) := hS.rt 1 i
  have hap := y0J t (gt (S.sp 1) i) hb5 ht
  have hsu := z0a (w0P t (gt (S.sp 1) i) (S.ax 1)) (S.off 1 : Rat) (X0P hb5 ht _) (Go.Na.LR.mono (q0h (x := S.off 1) zO) zE)
  rw [J0e] at hsu
  refine wt ?_
  refine j0j (j0k (us := t6L t) rfl rfl rfl rfl) rfl ?_
  refine wt ?_
  refine q0H (j0u rfl rfl (Y1S (fun j => vR (w0P t (gt (S.sp 1) i) j)) hax rfl)) rfl ?_
  refine wt ?_
  refine j0j (j0S (is := [0]) (xs := [_]) (vs := [sv (rtx (hq S t 1 (gt (S.sp 1) i)))]) (us := [sv (rtx (hq S t 1 (gt (S.sp 1) i)))]) (row := fun _ _ => vR (hq S t 1 (gt (S.sp 1) i))) (y1d _) rfl rfl rfl (W1W _)) rfl ?_
  refine wt ?_
  refine j0A (q0G (m := 1) (sz := 1) (bytes := 16) (h := fun _ _ => vR (hq S t 1 (gt (S.sp 1) i))) rfl rfl rfl (fun _ _ _ _ => rfl) (by decide) (by simp only [maxLen]; omega) (by omega)) rfl ?_
  refine wt ?_
  exact j0b (i + 1) zO zO (ent zS ⟨⟨_, rfl, .row rfl (fun a ha b hb => W1Y ha rfl)⟩, trivial⟩)
 ·have hil : i = (S.sp 1).length := by omega
  subst hil
  refine wt ?_
  exact y0E (rvs := []) (τs := [vi 0]) rfl rfl rfl rfl (fun _ _ _ _ => rfl) ⟨.tmp rfl, trivial⟩ rfl
theorem Q0G (S : Sys) (hS : SmS S) (t : Nat → Rat) (ht : ∀ i, LR 43 (t i)) (hn : (S.sp 2).length ≤ 1000) : CtrR Tryz.prog 120 [syV S, vi 2, t6 t] 33 1 (S.sp 2).length (hgF S t 2) [vi 0] := by
 refine K0L _ Tryz.func120 rfl rfl Tryz.ntmps120 rfl fun w Z => ?_
 have hax : S.ax 2 < 3 := hS.ax zE
 have hof := hS.off 2
 have hwh := v0f (S.off 2) zO
 refine zU ?_
 refine wt ?_
 refine w0h (v0L (dd := 8) 20 33 1 (hgF S t 2) rfl rfl) ?_
 refine j0g (γ := Nat) (fun i => [(1, .av (vi 2)), (3, .av (.ptr 9 (syA S))), (5, .av (t6P t)), (17, .av (ts (S.sp 2))), (18, .av (vi (S.sp 2).length)), (19, .av (vi i)), (8, .osl 20)]) (fun i => [(20, .row 33 1 i (hgF S t 2))]) (fun i => i ≤ (S.sp 2).length) (fun i => (S.sp 2).length - i) 0 zO (ent zS zT) ?_
 intro i hi
 refine wt ?_
 (refine j0a rfl ?_ ?_ <;> intro hb <;> (try simp only [zA, zB, zG, zC, zD, zN] at hb) <;> (try exact zQ))
 ·have hil : i < (S.sp 2).length := by omega
  have hb2 := hS.sp 2 i
  have hb5 : BT 100000 (gt (S.sp 2) i) := hS.rt 2 i
  have hap := y0J t (gt (S.sp 2) i) hb5 ht
  have hsu := z0a (w0P t (gt (S.sp 2) i) (S.ax 2)) (S.off 2 : Rat) (X0P hb5 ht _) (Go.Na.LR.mono (q0h (x := S.off 2) zO) zE)
  rw [J0e] at hsu
  refine wt ?_
  refine j0j (j0k (us := t6L t) rfl rfl rfl rfl) rfl ?_
  refine wt ?_
  refine q0H (j0u rfl rfl (Y1S (fun j => vR (w0P t (gt (S.sp 2) i) j)) hax rfl)) rfl ?_
  refine wt ?_
  refine j0j (j0S (is := [0]) (xs := [_]) (vs := [sv (rtx (hq S t 2 (gt (S.sp 2) i)))]) (us := [sv (rtx (hq S t 2 (gt (S.sp 2) i)))]) (row := fun _ _ => vR (hq S t 2 (gt (S.sp 2) i))) (y1d _) rfl rfl rfl (W1W _)) rfl ?_
  refine wt ?_
  refine j0A (q0G (m := 1) (sz := 1) (bytes := 16) (h := fun _ _ => vR (hq S t 2 (gt (S.sp 2) i))) rfl rfl rfl (fun _ _ _ _ => rfl) (by decide) (by simp only [maxLen]; omega) (by omega)) rfl ?_
  refine wt ?_
  exact j0b (i + 1) zO zO (ent zS ⟨⟨_, rfl, .row rfl (fun a ha b hb => W1Y ha rfl)⟩, trivial⟩)
 ·have hil : i = (S.sp 2).length := by omega
  subst hil
  refine wt ?_
  exact y0E (rvs := []) (τs := [vi 0]) rfl rfl rfl rfl (fun _ _ _ _ => rfl) ⟨.tmp rfl, trivial⟩ rfl
def onF (f : Nat → Rat) (n : Nat) : List Nat := (List.range n).filter fun i => decide (f i = 0)
theorem z0W (f : Nat → Rat) (n : Nat) : onF f (n + 1) = if f n = 0 then onF f n ++ [n] else onF f n := by
 unfold onF
 rw [List.range_succ, List.filter_append]
 by_cases h : f n = 0 <;> simp [h]
def lwF (f : Nat → Rat) (n : Nat) : Bool := (List.range n).any fun i => decide (f i < 0)
theorem Z0O (f : Nat → Rat) (n : Nat) : lwF f (n + 1) = (lwF f n || decide (f n < 0)) := by
 unfold lwF
 rw [List.range_succ, List.any_append]
 simp
theorem q1y (f : Nat → Rat) (n : Nat) : (onF f n).length ≤ n := by
 have := List.length_filter_le (fun i => decide (f i = 0)) (List.range n)
 unfold onF; simpa using this
abbrev rsl (f : Nat → Rat) (n : Nat) : AV := .sl n 1 (fun i _ => vR (f i))
theorem w0B (f : Nat → Rat) (n : Nat) (hn : n ≤ 1000) (hf : ∀ i, i < n → LR 43 (f i)) (hlow : lwF f n = false) : CtrR Tryz.prog 121 [rsl f n] 3 1 (onF f n).length (xf (onF f n)) [vb true] := by
 refine K0L _ Tryz.func121 rfl rfl Tryz.ntmps121 rfl fun w Z => ?_
 refine zU ?_
 refine wt ?_
 refine w0h (v0L (dd := 4) 20 3 1 (xf (onF f 0)) rfl rfl) ?_
 refine j0g (γ := Nat) (fun i => [(9, .av (rsl f n)), (10, .av (vi n)), (11, .av (vi i)), (4, .osl 20)]) (fun i => [(20, .row 3 1 (onF f i).length (xf (onF f i)))]) (fun i => i ≤ n ∧ lwF f i = false) (fun i => n - i) 0 ⟨by omega, rfl⟩ (ent zS zT) ?_
 rintro i ⟨hi, hlo⟩
 have hol := q1y f i
 refine wt ?_
 (refine j0a rfl ?_ ?_ <;> intro hb <;> (try simp only [zA, zB, zG, zC, zD, zN] at hb) <;> (try exact zQ))
 ·have hil : i < n := by omega
  have hs := k0a (f i) (Go.Na.LR.mono (hf i hil) zE)
  have hnn : ¬ f i < 0 := fun h => by
   have := List.any_eq_false.1 hlow i (List.mem_range.2 hil)
   simp [h] at this
  have hl1 : lwF f (i + 1) = false := by rw [Z0O, hlo]; simp [hnn]
  refine wt ?_
  (refine j0a rfl ?_ ?_ <;> intro hb <;> (try simp only [zA, zB, zG, zC, zD, zN] at hb) <;> (try exact zQ))
  ·exact absurd (x0j.1 hb) hnn
  ·refine wt ?_
   (refine j0a rfl ?_ ?_ <;> intro hb <;> (try simp only [zA, zB, zG, zC, zD, zN] at hb) <;> (try exact zQ))
   ·have hz : f i = 0 := v0g.1 hb
    have hon : onF f (i + 1) = onF f i ++ [i] := by rw [z0W, if_pos hz]
    refine wt ?_
    exact j0b (i + 1) ⟨by omega, hl1⟩ (by omega) (ent zS ⟨⟨_, rfl, .row (by rw [hon]) (fun _ _ _ _ => by rw [hon])⟩, trivial⟩)
   ·have hz : ¬ f i = 0 := fun h => hb (v0g.2 h)
    have hon : onF f (i + 1) = onF f i := by rw [z0W, if_neg hz]
    refine wt ?_
    exact j0b (i + 1) ⟨by omega, hl1⟩ (by omega) (ent zS ⟨⟨_, rfl, .row (by rw [hon]) (fun _ _ _ _ => by rw [hon])⟩, trivial⟩)
 ·have hil : i = n := by omega
  subst hil
  refine wt ?_
  exact y0E (rvs := []) (τs := [vb true]) rfl rfl rfl rfl (fun _ _ _ _ => rfl) ⟨.tmp rfl, trivial⟩ rfl
theorem X0U (f : Nat → Rat) (n : Nat) (hn : n ≤ 1000) (hf : ∀ i, i < n → LR 43 (f i)) (hlow : lwF f n = true) : CtrA Tryz.prog 121 [rsl f n] (j0x [.val (.slice none 0 0), vb false]) := by
 refine j0s _ Tryz.func121 rfl rfl Tryz.ntmps121 rfl fun w Z => ?_
 refine zU ?_
 refine wt ?_
 refine w0h (v0L (dd := 4) 20 3 1 (xf (onF f 0)) rfl rfl) ?_
 refine j0g (γ := Nat) (fun i => [(9, .av (rsl f n)), (10, .av (vi n)), (11, .av (vi i)), (4, .osl 20)]) (fun i => [(20, .row 3 1 (onF f i).length (xf (onF f i)))]) (fun i => i ≤ n ∧ lwF f i = false) (fun i => n - i) 0 ⟨by omega, rfl⟩ (ent zS zT) ?_
 rintro i ⟨hi, hlo⟩
 have hol := q1y f i
 refine wt ?_
 (refine j0a rfl ?_ ?_ <;> intro hb <;> (try simp only [zA, zB, zG, zC, zD, zN] at hb) <;> (try exact zQ))
 ·have hil : i < n := by omega
  have hs := k0a (f i) (Go.Na.LR.mono (hf i hil) zE)
  refine wt ?_
  (refine j0a rfl ?_ ?_ <;> intro hb <;> (try simp only [zA, zB, zG, zC, zD, zN] at hb) <;> (try exact zQ))
  ·refine wt ?_
   exact zW
  ·have hnn : ¬ f i < 0 := fun h => hb (x0j.2 h)
   have hl1 : lwF f (i + 1) = false := by rw [Z0O, hlo]; simp [hnn]
   refine wt ?_
   (refine j0a rfl ?_ ?_ <;> intro hb <;> (try simp only [zA, zB, zG, zC, zD, zN] at hb) <;> (try exact zQ))
   ·have hz : f i = 0 := v0g.1 hb
    have hon : onF f (i + 1) = onF f i ++ [i] := by rw [z0W, if_pos hz]
    refine wt ?_
    exact j0b (i + 1) ⟨by omega, hl1⟩ (by omega) (ent zS ⟨⟨_, rfl, .row (by rw [hon]) (fun _ _ _ _ => by rw [hon])⟩, trivial⟩)
   ·have hz : ¬ f i = 0 := fun h => hb (v0g.2 h)
    have hon : onF f (i + 1) = onF f i := by rw [z0W, if_neg hz]
    refine wt ?_
    exact j0b (i + 1) ⟨by omega, hl1⟩ (by omega) (ent zS ⟨⟨_, rfl, .row (by rw [hon]) (fun _ _ _ _ => by rw [hon])⟩, trivial⟩)
 ·have hil : i = n := by omega
  subst hil
  rw [hlo] at hlow
  cases hlow
theorem w1h (t : Nat → Rat) (x y : Rat) (ht : ∀ i, LR 43 (t i)) (hx : LR 43 x) (hy : LR 43 y) : CtrA Tryz.prog 156 [t6 t, vi 0, vR x, vi 0, vR y] (j0x [t6 (w0L t 0 x 0 y), vi 0]) := by
 have h1 := q0a (t 0) x (Go.Na.LR.mono (ht _) zE) (Go.Na.LR.mono hx zE)
 have h2 := q0a (t (3 + 0)) y (Go.Na.LR.mono (ht _) zE) (Go.Na.LR.mono hy zE)
 refine j0s _ Tryz.func156 rfl rfl Tryz.ntmps156 rfl fun w Z => ?_
 refine zU ?_
 refine v0y ?_
 refine j0T ?_
 refine j0A (q0v (us := t6L t) 5 rfl rfl) rfl ?_
 refine wt ?_
 refine j0j (j0h (us := t6L (w0L t 0 x 0 y)) rfl rfl rfl rfl) rfl ?_
 refine wt ?_
 exact j0t (rvs := [_, _]) (τs := [_, _]) rfl rfl ⟨.agg (us := t6L (w0L t 0 x 0 y)) rfl rfl rfl rfl, .tmp rfl, trivial⟩ rfl
theorem w1i (t : Nat → Rat) (x y : Rat) (ht : ∀ i, LR 43 (t i)) (hx : LR 43 x) (hy : LR 43 y) : CtrA Tryz.prog 156 [t6 t, vi 0, vR x, vi 1, vR y] (j0x [t6 (w0L t 0 x 1 y), vi 0]) := by
 have h1 := q0a (t 0) x (Go.Na.LR.mono (ht _) zE) (Go.Na.LR.mono hx zE)
 have h2 := q0a (t (3 + 1)) y (Go.Na.LR.mono (ht _) zE) (Go.Na.LR.mono hy zE)
 refine j0s _ Tryz.func156 rfl rfl Tryz.ntmps156 rfl fun w Z => ?_
 refine zU ?_
 refine v0y ?_
 refine j0T ?_
 refine j0A (q0v (us := t6L t) 5 rfl rfl) rfl ?_
 refine wt ?_
 refine j0j (j0h (us := t6L (w0L t 0 x 1 y)) rfl rfl rfl rfl) rfl ?_
 refine wt ?_
 exact j0t (rvs := [_, _]) (τs := [_, _]) rfl rfl ⟨.agg (us := t6L (w0L t 0 x 1 y)) rfl rfl rfl rfl, .tmp rfl, trivial⟩ rfl
theorem w1j (t : Nat → Rat) (x y : Rat) (ht : ∀ i, LR 43 (t i)) (hx : LR 43 x) (hy : LR 43 y) : CtrA Tryz.prog 156 [t6 t, vi 0, vR x, vi 2, vR y] (j0x [t6 (w0L t 0 x 2 y), vi 0]) := by
 have h1 := q0a (t 0) x (Go.Na.LR.mono (ht _) zE) (Go.Na.LR.mono hx zE)
 have h2 := q0a (t (3 + 2)) y (Go.Na.LR.mono (ht _) zE) (Go.Na.LR.mono hy zE)
 refine j0s _ Tryz.func156 rfl rfl Tryz.ntmps156 rfl fun w Z => ?_
 refine zU ?_
 refine v0y ?_
 refine j0T ?_
 refine j0A (q0v (us := t6L t) 5 rfl rfl) rfl ?_
 refine wt ?_
 refine j0j (j0h (us := t6L (w0L t 0 x 2 y)) rfl rfl rfl rfl) rfl ?_
 refine wt ?_
 exact j0t (rvs := [_, _]) (τs := [_, _]) rfl rfl ⟨.agg (us := t6L (w0L t 0 x 2 y)) rfl rfl rfl rfl, .tmp rfl, trivial⟩ rfl
theorem w1k (t : Nat → Rat) (x y : Rat) (ht : ∀ i, LR 43 (t i)) (hx : LR 43 x) (hy : LR 43 y) : CtrA Tryz.prog 156 [t6 t, vi 1, vR x, vi 0, vR y] (j0x [t6 (w0L t 1 x 0 y), vi 0]) := by
 have h1 := q0a (t 1) x (Go.Na.LR.mono (ht _) zE) (Go.Na.LR.mono hx zE)
 have h2 := q0a (t (3 + 0)) y (Go.Na.LR.mono (ht _) zE) (Go.Na.LR.mono hy zE)
 refine j0s _ Tryz.func156 rfl rfl Tryz.ntmps156 rfl fun w Z => ?_
 refine zU ?_
 refine v0y ?_
 refine j0T ?_
 refine j0A (q0v (us := t6L t) 5 rfl rfl) rfl ?_
 refine wt ?_
 refine j0j (j0h (us := t6L (w0L t 1 x 0 y)) rfl rfl rfl rfl) rfl ?_
 refine wt ?_
 exact j0t (rvs := [_, _]) (τs := [_, _]) rfl rfl ⟨.agg (us := t6L (w0L t 1 x 0 y)) rfl rfl rfl rfl, .tmp rfl, trivial⟩ rfl
theorem w1l (t : Nat → Rat) (x y : Rat) (ht : ∀ i, LR 43 (t i)) (hx : LR 43 x) (hy : LR 43 y) : CtrA Tryz.prog 156 [t6 t, vi 1, vR x, vi 1, vR y] (j0x [t6 (w0L t 1 x 1 y), vi 0]) := by
 have h1 := q0a (t 1) x (Go.Na.LR.mono (ht _) zE) (Go.Na.LR.mono hx zE)
 have h2 := q0a (t (3 + 1)) y (Go.Na.LR.mono (ht _) zE) (Go.Na.LR.mono hy zE)
 refine j0s _ Tryz.func156 rfl rfl Tryz.ntmps156 rfl fun w Z => ?_
 refine zU ?_
 refine v0y ?_
 refine j0T ?_
 refine j0A (q0v (us := t6L t) 5 rfl rfl) rfl ?_
 refine wt ?_
 refine j0j (j0h (us := t6L (w0L t 1 x 1 y)) rfl rfl rfl rfl) rfl ?_
 refine wt ?_
 exact j0t (rvs := [_, _]) (τs := [_, _]) rfl rfl ⟨.agg (us := t6L (w0L t 1 x 1 y)) rfl rfl rfl rfl, .tmp rfl, trivial⟩ rfl
theorem w1m (t : Nat → Rat) (x y : Rat) (ht : ∀ i, LR 43 (t i)) (hx : LR 43 x) (hy : LR 43 y) : CtrA Tryz.prog 156 [t6 t, vi 1, vR x, vi 2, vR y] (j0x [t6 (w0L t 1 x 2 y), vi 0]) := by
 have h1 := q0a (t 1) x (Go.Na.LR.mono (ht _) zE) (Go.Na.LR.mono hx zE)
 have h2 := q0a (t (3 + 2)) y (Go.Na.LR.mono (ht _) zE) (Go.Na.LR.mono hy zE)
 refine j0s _ Tryz.func156 rfl rfl Tryz.ntmps156 rfl fun w Z => ?_
 refine zU ?_
 refine v0y ?_
 refine j0T ?_
 refine j0A (q0v (us := t6L t) 5 rfl rfl) rfl ?_
 refine wt ?_
 refine j0j (j0h (us := t6L (w0L t 1 x 2 y)) rfl rfl rfl rfl) rfl ?_
 refine wt ?_
 exact j0t (rvs := [_, _]) (τs := [_, _]) rfl rfl ⟨.agg (us := t6L (w0L t 1 x 2 y)) rfl rfl rfl rfl, .tmp rfl, trivial⟩ rfl
theorem w1n (t : Nat → Rat) (x y : Rat) (ht : ∀ i, LR 43 (t i)) (hx : LR 43 x) (hy : LR 43 y) : CtrA Tryz.prog 156 [t6 t, vi 2, vR x, vi 0, vR y] (j0x [t6 (w0L t 2 x 0 y), vi 0]) := by
 have h1 := q0a (t 2) x (Go.Na.LR.mono (ht _) zE) (Go.Na.LR.mono hx zE)
 have h2 := q0a (t (3 + 0)) y (Go.Na.LR.mono (ht _) zE) (Go.Na.LR.mono hy zE)
 refine j0s _ Tryz.func156 rfl rfl Tryz.ntmps156 rfl fun w Z => ?_
 refine zU ?_
 refine v0y ?_
 refine j0T ?_
 refine j0A (q0v (us := t6L t) 5 rfl rfl) rfl ?_
 refine wt ?_
 refine j0j (j0h (us := t6L (w0L t 2 x 0 y)) rfl rfl rfl rfl) rfl ?_
 refine wt ?_
 exact j0t (rvs := [_, _]) (τs := [_, _]) rfl rfl ⟨.agg (us := t6L (w0L t 2 x 0 y)) rfl rfl rfl rfl, .tmp rfl, trivial⟩ rfl
theorem w1o (t : Nat → Rat) (x y : Rat) (ht : ∀ i, LR 43 (t i)) (hx : LR 43 x) (hy : LR 43 y) : CtrA Tryz.prog 156 [t6 t, vi 2, vR x, vi 1, vR y] (j0x [t6 (w0L t 2 x 1 y), vi 0]) := by
 have h1 := q0a (t 2) x (Go.Na.LR.mono (ht _) zE) (Go.Na.LR.mono hx zE)
 have h2 := q0a (t (3 + 1)) y (Go.Na.LR.mono (ht _) zE) (Go.Na.LR.mono hy zE)
 refine j0s _ Tryz.func156 rfl rfl Tryz.ntmps156 rfl fun w Z => ?_
 refine zU ?_
 refine v0y ?_
 refine j0T ?_
 refine j0A (q0v (us := t6L t) 5 rfl rfl) rfl ?_
 refine wt ?_
 refine j0j (j0h (us := t6L (w0L t 2 x 1 y)) rfl rfl rfl rfl) rfl ?_
 refine wt ?_
 exact j0t (rvs := [_, _]) (τs := [_, _]) rfl rfl ⟨.agg (us := t6L (w0L t 2 x 1 y)) rfl rfl rfl rfl, .tmp rfl, trivial⟩ rfl
theorem w1p (t : Nat → Rat) (x y : Rat) (ht : ∀ i, LR 43 (t i)) (hx : LR 43 x) (hy : LR 43 y) : CtrA Tryz.prog 156 [t6 t, vi 2, vR x, vi 2, vR y] (j0x [t6 (w0L t 2 x 2 y), vi 0]) := by
 have h1 := q0a (t 2) x (Go.Na.LR.mono (ht _) zE) (Go.Na.LR.mono hx zE)
 have h2 := q0a (t (3 + 2)) y (Go.Na.LR.mono (ht _) zE) (Go.Na.LR.mono hy zE)
 refine j0s _ Tryz.func156 rfl rfl Tryz.ntmps156 rfl fun w Z => ?_
 refine zU ?_
 refine v0y ?_
 refine j0T ?_
 refine j0A (q0v (us := t6L t) 5 rfl rfl) rfl ?_
 refine wt ?_
 refine j0j (j0h (us := t6L (w0L t 2 x 2 y)) rfl rfl rfl rfl) rfl ?_
 refine wt ?_
 exact j0t (rvs := [_, _]) (τs := [_, _]) rfl rfl ⟨.agg (us := t6L (w0L t 2 x 2 y)) rfl rfl rfl rfl, .tmp rfl, trivial⟩ rfl
theorem z1P (t : Nat → Rat) (x y : Rat) (ht : ∀ i, LR 43 (t i)) (hx : LR 43 x) (hy : LR 43 y) {s r : Nat} (hs : s < 3) (hr : r < 3) : CtrA Tryz.prog 156 [t6 t, vi (s : Int), vR x, vi (r : Int), vR y] (j0x [t6 (w0L t s x r y), vi 0]) := by
 rcases (by omega : s = 0 ∨ s = 1 ∨ s = 2) with rfl | rfl | rfl <;> rcases (by omega : r = 0 ∨ r = 1 ∨ r = 2) with rfl | rfl | rfl
 ·exact w1h t x y ht hx hy
 ·exact w1i t x y ht hx hy
 ·exact w1j t x y ht hx hy
 ·exact w1k t x y ht hx hy
 ·exact w1l t x y ht hx hy
 ·exact w1m t x y ht hx hy
 ·exact w1n t x y ht hx hy
 ·exact w1o t x y ht hx hy
 ·exact w1p t x y ht hx hy
end Go.Proofs.YtfggdokihnopeaaGreatDoor.H
namespace Go.Proofs.YtfggdokihnopeaaGreatDoor.H
open Go Go.Vc Go.RowKit Go.Na Go.Lib
set_option maxHeartbeats 8000000
theorem k1c (n p m q : Int) (hn : LI 400 n) (hp : LI 400 p) (hm : LI 400 m) (hq : LI 400 q) : CtrH Tryz.prog 278 [.own 1000 0, .av (vI n), .av (vI p), .av (vI m), .av (vI q)] [(1000, E0)] (.av (j0x [vI (n * q), vI (p * m)])) [(1000, E0)] := by
 have b := fun (x y : Int) (hx : LI 400 x) (hy : LI 400 y) => (by have h := LI.mul hx hy; exact h : LI 800 (x * y))
 have M := fun (x : Int) (h : LI 400 x) => (h.mono zE : LI 1000 x)
 have c1 := z0z n q (M _ hn) (M _ hq) ((b _ _ hn hq).mono zE)
 have c3 := z0z p m (M _ hp) (M _ hm) ((b _ _ hp hm).mono zE)
 refine Q0i _ Tryz.func278 rfl rfl Tryz.ntmps278 rfl rfl fun w Z ν => ?_
 refine zU ?_
 refine wl ?_
 refine j0j (v0C rfl rfl) rfl ?_
 refine wl ?_
 refine j0A (j0o [] c1 rfl ⟨rfl, trivial⟩ rfl) rfl ?_
 refine wl ?_
 refine j0j (v0C rfl rfl) rfl ?_
 refine wl ?_
 refine j0A (j0o [] c3 rfl ⟨rfl, trivial⟩ rfl) rfl ?_
 refine wl ?_
 exact q0k (T' := [(10, .av (vI (n * q))), (11, .av (vI (p * m)))]) (O' := [(1000, E0)]) (ent zS zT) (z0Z (rvs := [_, _]) (τs := [_, _]) rfl rfl rfl ⟨.tmp rfl, .tmp rfl, trivial⟩ rfl)
theorem W1F {r : Rat} (h : r ≠ 0) : r.num ≠ 0 := fun e => h (Rat.num_eq_zero.1 e)
theorem Q1l (q r : Rat) (hq : LR 400 q) (hr : LR 400 r) (h0 : r ≠ 0) : CtrA Tryz.prog 218 [vR q, vR r] (j0x [vR (q / r), vi 0]) := by
 have hdn : (q.den : Int) * r.num ≠ 0 := Int.mul_ne_zero (by have := q.den_pos; omega) (W1F h0)
 have h := Z0P 278 q r (q.num * r.den) (q.den * r.num) (hq.mono zE) (hr.mono zE) (li4 hq.1 hr.2) (li4 hq.2 hr.1) hdn (k1c q.num q.den r.num r.den hq.1 hq.2 hr.1 hr.2)
 rw [← div_eq] at h
 have h1 := J0k q r (hq.mono zE) (hr.mono zE)
 have hz : (rtx r == [48]) = false := by rw [beq_eq_false_iff_ne]; exact fun e => h0 (rtx_inj (e.trans rtx_0.symm))
 refine j0s _ Tryz.func218 rfl rfl Tryz.ntmps218 rfl fun w Z => ?_
 refine zU ?_
 refine wl ?_
 refine j0j (q1a rfl rfl) rfl ?_
 refine wl ?_
 rw [hz]
 refine wl ?_
 exact zW
end Go.Proofs.YtfggdokihnopeaaGreatDoor.H
namespace Go.Proofs.YtfggdokihnopeaaGreatDoor.H
open Go Go.Vc Go.RowKit
open Go.Na (rtx LR j0v v0j rsg)
set_option maxHeartbeats 4000000
theorem j1b {k : Nat} (hk : k < 3) (p : Tr) (hp : BT 100000 p) : CtrA Tryz.prog 276 [vi (k : Int), tp p] (vi 0) := by
 have h2 := x0D [p]
 have hr : q0j p = true := by
  have := hp.x; have := hp.y; have := hp.z
  unfold q0j inB; simp only [Bool.and_eq_true, decide_eq_true_eq]; omega
 rw [V1I, if_pos hr] at h2
 have e1 : decide ((k : Int) < 0) = false := decide_eq_false zO
 have e2 : decide ((3 : Int) ≤ (k : Int)) = false := decide_eq_false zO
 refine j0s _ Tryz.func276 rfl rfl Tryz.ntmps276 rfl fun w Z => ?_
 refine zU ?_
 refine wt ?_
 rw [e2]
 refine wt ?_
 refine j0j (j0S (is := [0]) (xs := [_]) (vs := [_]) (us := [.int .i64 p.x, .int .i64 p.y, .int .i64 p.z]) (row := tf [p]) (Y1k p) rfl rfl rfl (k0v p)) rfl ?_
 refine wt ?_
 exact zV
abbrev c6P (c : Nat → Int) : AV := .sl 6 1 (fun i _ => vi (c i))
theorem y1l (c : Nat → Int) (hc : ∀ i, -100000 ≤ c i ∧ c i ≤ 100000) : CtrR Tryz.prog 277 [c6P c] 33 1 6 (fun i _ => vR ((c i : Int) : Rat)) [] := by
 refine K0L _ Tryz.func277 rfl rfl Tryz.ntmps277 rfl fun w Z => ?_
 refine zU ?_
 refine wt ?_
 refine w0h (v0L (dd := 3) 20 33 1 (fun i _ => vR ((c i : Int) : Rat)) rfl rfl) ?_
 refine j0g (γ := Nat) (fun i => [(6, .av (c6P c)), (7, .av (vi 6)), (8, .av (vi i)), (3, .osl 20)]) (fun i => [(20, .row 33 1 i (fun i _ => vR ((c i : Int) : Rat)))]) (fun i => i ≤ 6) (fun i => 6 - i) 0 zO (ent zS zT) ?_
 intro i hi
 refine wt ?_
 (refine j0a rfl ?_ ?_ <;> intro hb <;> (try simp only [zA, zB, zG, zC, zD, zN] at hb) <;> (try exact zQ))
 ·have hil : i < 6 := by omega
  have hw := v0f (c i) (by have := hc i; omega)
  refine wt ?_
  refine j0j (j0S (is := [0]) (xs := [_]) (vs := [sv (rtx ((c i : Int) : Rat))]) (us := [sv (rtx ((c i : Int) : Rat))]) (row := fun _ _ => vR ((c i : Int) : Rat)) (y1d _) rfl rfl rfl (W1W _)) rfl ?_
  refine wt ?_
  refine j0A (q0G (m := 1) (sz := 1) (bytes := 16) (h := fun _ _ => vR ((c i : Int) : Rat)) rfl rfl rfl (fun _ _ _ _ => rfl) (by decide) (by simp only [maxLen]; omega) (by omega)) rfl ?_
  refine wt ?_
  exact j0b (i + 1) zO zO (ent zS ⟨⟨_, rfl, .row rfl (fun a ha b hb => W1Y ha rfl)⟩, trivial⟩)
 ·have hil : i = 6 := by omega
  subst hil
  refine wt ?_
  exact x0Y rfl rfl rfl rfl (fun _ _ _ _ => rfl)
theorem j1Q {k : Nat} (hk : k < 3) (p : Tr) (hp : BT 100000 p) : CtrR Tryz.prog 217 [vi (k : Int), tp p] 33 1 6 (fun i _ => vR ((frm k p i : Int) : Rat)) [vi 0] := by
 have h1 := j1b hk p hp
 have h2 := Z0y p hk hp
 have h3 := y1l (frm k p) (W0O k hp)
 refine K0L _ Tryz.func217 rfl rfl Tryz.ntmps217 rfl fun w Z => ?_
 refine zU ?_
 refine wt ?_
 refine j0z (j0F 7 10 (fun i => vi (frm k p i)) rfl rfl rfl) ?_
 refine j0j (v0O (n := 6) (f := fun i => vi (frm k p i)) rfl zE zE) rfl ?_
 refine wt ?_
 refine j0A (q0q 22 h3 rfl rfl) rfl ?_
 refine wt ?_
 exact y0E (rvs := []) (τs := [vi 0]) rfl rfl rfl rfl (fun _ _ _ _ => rfl) ⟨.tmp rfl, trivial⟩ rfl
theorem z1G (a b : Int) (w : World) : (Instr.buildSlice 37 2 #[(0, .int .i64 a), (1, .int .i64 b)]).run Tryz.prog w = .ok (.slice (some ⟨w.heap.size, 0, none⟩) 2 2) (w.alloc (.cells #[.int .i64 a, .int .i64 b] 3)) := by kernel_rfl
def pr2 (i k : Nat) : Nat → Nat → AV := fun n _ => .val (.int .i64 (([(i : Int), (k : Int)] : List Int).getD n 0))
theorem W1R (i k : Nat) : ∀ n, n < 2 → ∀ j, j < 1 → ∃ u, [Value.int .i64 (i : Int), .int .i64 (k : Int)][n * 1 + j]? = some u ∧ pr2 i k n j = .val u := fun n hn j hj => by
 obtain rfl : j = 0 := by omega
 rcases (by omega : n = 0 ∨ n = 1) with rfl | rfl <;> exact ⟨_, rfl, rfl⟩
def Z1V (a b : Rat) : Nat → List SV
 |0 => [.av (vS []), .av (vS [])]
 |1 => [.av (vR a), .av (vS [])]
 |_ => [.av (vR a), .av (vR b)]
def q1h (S : Sys) (t : Nat → Rat) (p q : Tr) : AV := if q0B S p = q0B S q then j0x [t6 t, vb false, vi 0] else j0x [t6 (q0N S t p q), vb true, vi 0]
theorem q1k (S : Sys) (hS : SmS S) (t : Nat → Rat) (ht : t ∈ j0J S) {i k : Nat} (hi : i < (S.sp 1).length) (hk : k < (S.sp 1).length) (hn : (S.sp 1).length ≤ 1000) :
  CtrA Tryz.prog 152 [syV S, t6 t, rsl (fun i => hq S t 1 (gt (S.sp 1) i)) (S.sp 1).length, vi i, vi k] (q1h S t (gt (S.sp 1) i) (gt (S.sp 1) k)) := by
 have h0 : S.ax 0 < 3 := hS.ax zE
 have h1 : S.ax 1 < 3 := hS.ax zE
 have hF0 := j1Q h1 (gt (S.sp 1) i) (hS.rt 1 i)
 have hF1 := j1Q h1 (gt (S.sp 1) k) (hS.rt 1 k)
 have e3 : ((3 : Int) + ((S.ax 0 : Nat) : Int)).toNat = 3 + S.ax 0 := by omega
 have hbi := hS.sp 1 i
 have hbk := hS.sp 1 k
 refine j0s _ Tryz.func152 rfl rfl Tryz.ntmps152 rfl fun w Z => ?_
 refine zU ?_
 refine v0y ?_
 refine j0T ?_
 refine j0j (x0v rfl) rfl ?_
 refine j0A (q0v (us := t6L t) 6 rfl rfl) rfl ?_
 refine wt ?_
 refine j0j (j0S (is := [0, 1]) (xs := [_, _]) (vs := [.int .i64 (i : Int), .int .i64 (k : Int)]) (us := [.int .i64 (i : Int), .int .i64 (k : Int)]) (row := pr2 i k) (z1G _ _) rfl rfl rfl (W1R i k)) rfl ?_
 refine wt ?_
 refine j0g (γ := Nat) (fun n => [(2, .av (rsl (fun i => hq S t 1 (gt (S.sp 1) i)) (S.sp 1).length)), (3, .av (vi i)), (4, .av (vi k)), (5, .av (.ptr 9 (syA S))), (6, .own 6 0), (10, .own 10 0), (11, .av (vb false)), (12, .av (vi 0)), (13, .av (vi (S.ax 0 : Nat))), (14, .av (vi (S.ax 1 : Nat))), (15, .own 11 0), (33, .av (.sl 2 1 (pr2 i k))), (34, .av (vi 2)), (35, .av (vi n))])
  (fun n => [(6, .cells ((t6L t).map fun u => .av (.val u))), (10, .cells [.av (vS []), .av (vS []), .av (vS []), .av (vS []), .av (vS []), .av (vS [])]), (11, .cells (Z1V (q0B S (gt (S.sp 1) i) : Rat) (q0B S (gt (S.sp 1) k) : Rat) n))]) (fun n => n ≤ 2) (fun n => 2 - n) 0 zO
  (ent zS zT) ?_
 intro n hn2
 match n, hn2 with
 |0, _ =>
  refine wt ?_
  refine j0A (j0O 22 hF0 rfl rfl) rfl ?_
  refine wt ?_
  rw [e3]
  exact j0b 1 zO zO (ent zS zT)
 |1, _ =>
  refine wt ?_
  refine j0A (j0O 22 hF1 rfl rfl) rfl ?_
  refine wt ?_
  rw [e3]
  exact j0b 2 zO zO (ent zS zT)
 |2, _ =>
  refine wt ?_
  by_cases he : q0B S (gt (S.sp 1) i) = q0B S (gt (S.sp 1) k)
  ·rw [show (rtx ((q0B S (gt (S.sp 1) i) : Int) : Rat) == rtx ((q0B S (gt (S.sp 1) k) : Int) : Rat)) = true by rw [he]; exact beq_self_eq_true _]
   refine wt ?_
   refine j0j (j0h (us := t6L t) rfl rfl rfl rfl) rfl ?_
   refine wt ?_
   exact j0t (rvs := [_, _, _]) (τs := [_, _, _]) rfl rfl ⟨.agg (us := t6L t) rfl rfl rfl rfl, .tmp rfl, .tmp rfl, trivial⟩ (by unfold q1h; rw [if_pos he])
  ·rw [show (rtx ((q0B S (gt (S.sp 1) i) : Int) : Rat) == rtx ((q0B S (gt (S.sp 1) k) : Int) : Rat)) = false from beq_eq_false_iff_ne.2 fun e => he (Rat.intCast_inj.1 (Go.Na.rtx_inj e))]
   have hne : ((q0B S (gt (S.sp 1) i) : Int) : Rat) - ((q0B S (gt (S.sp 1) k) : Int) : Rat) ≠ 0 := fun e => he (Rat.intCast_inj.1 (by grind))
   obtain ⟨l1, l2, l3, l4, l5⟩ := q1j hS ht hbi hbk he
   obtain ⟨m1, m2⟩ := Z0s hS ht
   have ma := Y0U hS hbi
   have mb := Y0U hS hbk
   have n1 : LR 400 ((q0B S (gt (S.sp 1) i) : Int) : Rat) := Go.Na.LR.mono (q0h (x := q0B S (gt (S.sp 1) i)) zO) zE
   have n2 : LR 400 ((q0B S (gt (S.sp 1) k) : Int) : Rat) := Go.Na.LR.mono (q0h (x := q0B S (gt (S.sp 1) k)) zO) zE
   have u := fun {q : Rat} (h : LR 43 q) => Go.Na.LR.mono h (show 43 ≤ 400 by decide)
   have c1 := z0a (hq S t 1 (gt (S.sp 1) k)) (hq S t 1 (gt (S.sp 1) i)) (u (m2 1 zE _ hbk)) (u (m2 1 zE _ hbi))
   have c2 := z0a _ _ n1 n2
   have c3 := Q1l (hq S t 1 (gt (S.sp 1) k) - hq S t 1 (gt (S.sp 1) i)) (((q0B S (gt (S.sp 1) i) : Int) : Rat) - ((q0B S (gt (S.sp 1) k) : Int) : Rat)) (Go.Na.LR.mono (Go.Na.LR.sub (m2 1 (by decide) _ hbk) (m2 1 (by decide) _ hbi)) (by decide)) (by rw [← Rat.intCast_sub]; exact Go.Na.LR.mono (q0h (x := q0B S (gt (S.sp 1) i) - q0B S (gt (S.sp 1) k)) (by omega)) (by decide)) hne
   have c4 := q1P ((q0B S (gt (S.sp 1) i) : Int) : Rat) (X0M S t (gt (S.sp 1) i) (gt (S.sp 1) k)) n1 (u l2)
   have c5 := q0a (((q0B S (gt (S.sp 1) i) : Int) : Rat) * X0M S t (gt (S.sp 1) i) (gt (S.sp 1) k)) (hq S t 1 (gt (S.sp 1) i)) (u l3) (u (m2 1 zE _ hbi))
   have c6 := V0Q (((q0B S (gt (S.sp 1) i) : Int) : Rat) * X0M S t (gt (S.sp 1) i) (gt (S.sp 1) k) + hq S t 1 (gt (S.sp 1) i)) (by have := Go.Na.LR.neg l4; unfold J1Q at this; rw [Rat.neg_neg] at this; exact Go.Na.LR.mono this (by decide))
   have c7 := z1P t (-(((q0B S (gt (S.sp 1) i) : Int) : Rat) * X0M S t (gt (S.sp 1) i) (gt (S.sp 1) k) + hq S t 1 (gt (S.sp 1) i))) (X0M S t (gt (S.sp 1) i) (gt (S.sp 1) k)) m1 l4 l2 h1 h0
   refine wt ?_
   refine j0j (j0h (us := t6L t) rfl rfl rfl rfl) rfl ?_
   refine wt ?_
   refine j0j (j0h (us := t6L (q0N S t (gt (S.sp 1) i) (gt (S.sp 1) k))) rfl rfl rfl rfl) rfl ?_
   refine wt ?_
   exact j0t (rvs := [_, _, _]) (τs := [_, _, _]) rfl rfl ⟨.agg (us := t6L (q0N S t (gt (S.sp 1) i) (gt (S.sp 1) k))) rfl rfl rfl rfl, .tmp rfl, .tmp rfl, trivial⟩ (by unfold q1h; rw [if_neg he])
 |n + 3, hn2 => omega
theorem V1c {k : Nat} (hk : k < 3) (o : Int) (A B C : Rat) : Y1j (y1b k o A B C) = t6 (Q0V k o A B C) := by
 rcases (by omega : k = 0 ∨ k = 1 ∨ k = 2) with rfl | rfl | rfl <;> simp [y1b, t6, Q0V, Y1j, rtx_0]
abbrev prT (t : Nat → Rat) : List AV := [t6 t, vi 0]
abbrev ywV (y : Nat) : AV := .val (.func (.yield y) #[] #[])
structure OkS (S : Sys) : Prop extends SmS S where
 n0 : (S.sp 0).length ≤ 6
 n1 : (S.sp 1).length ≤ 6
 n2 : (S.sp 2).length ≤ 6
 p2 : 0 < (S.sp 2).length
 st : w0M (x0K (S.sp 0) (S.ax 0)) = false
theorem y0N (S : Sys) : (j0J S).length = (q0e (S.sp 0) (S.ax 0)).length := by unfold j0J; rw [List.length_map]
theorem J1f {S : Sys} (h : OkS S) : w1z (S.sp 0) (S.ax 0 : Nat) = j0x [.sl (q0e (S.sp 0) (S.ax 0)).length 5 (pf5 (S.ax 0 : Nat) (q0e (S.sp 0) (S.ax 0))), vi 0] := by
 have hR := h.rt 0
 have hc : w0z (S.sp 0) = 0 := by
  unfold w0z
  rw [if_neg (by have := h.n0; omega), if_pos]
  rw [List.all_eq_true]
  intro p hp
  obtain ⟨i, hi, rfl⟩ := List.getElem_of_mem hp
  have e : (S.sp 0)[i] = gt (S.sp 0) i := by simp [gt, hi, List.getD]
  rw [e]
  have hb := hR i
  have := hb.x; have := hb.y; have := hb.z
  unfold q0j inB; simp only [Bool.and_eq_true, decide_eq_true_eq]; omega
 have hk : S.ax 0 < 3 := h.ax zE
 have hg : w1t (S.sp 0) (S.ax 0 : Nat) = 0 := by
  unfold w1t
  rw [if_neg (by rw [hc]; simp), if_pos (by omega)]
 unfold w1z
 rw [if_neg (by rw [hg]; simp), Int.toNat_natCast]
 unfold X0R
 rw [if_neg (by rw [Z0b hR (by have := h.n0; omega) _]; simp), if_neg (by rw [h.st]; simp)]
theorem j1M {S : Sys} (h : OkS S) : (q0e (S.sp 0) (S.ax 0)).length ≤ 1000 := by
 have := Y0Y (l := S.sp 0) (S.ax 0) (by have := h.n0; omega)
 omega
theorem x1b (S : Sys) (h : OkS S) : CtrL Tryz.prog 149 [.ptr 9 (syA S)] ((j0J S).map prT) := by
 have hc := W0C (S.sp 0) (S.ax 0 : Nat) (by unfold Y1h; simp [h.n0])
 rw [J1f h] at hc
 have hfl := y0N S
 have hcl : (q0e (S.sp 0) (S.ax 0)).length ≤ 1000 := j1M h
 refine Z1D _ Tryz.func149 rfl rfl Tryz.ntmps149 rfl fun y J Y w Z S0 => ?_
 refine zU ?_
 refine wt ?_
 refine V0n Y (γ := Nat) (fun i => [(0, .av (ywV y)), (1, .av (.ptr 9 (syA S))), (25, .av (.sl (q0e (S.sp 0) (S.ax 0)).length 5 (pf5 (S.ax 0 : Nat) (q0e (S.sp 0) (S.ax 0))))), (26, .av (vi (q0e (S.sp 0) (S.ax 0)).length)), (27, .av (vi i))]) (fun i => i) (fun i => i ≤ (q0e (S.sp 0) (S.ax 0)).length) (fun i => (q0e (S.sp 0) (S.ax 0)).length - i) 0 S0 (Nat.zero_le _) (ent zS trivial) ?_
 intro i hi w Z S1
 refine wt ?_
 (refine j0a rfl ?_ ?_ <;> intro hb <;> (try simp only [zA, zB, zG, zC, zD, zN] at hb) <;> (try exact zQ))
 ·have hil : i < (q0e (S.sp 0) (S.ax 0)).length := by omega
  have hm : gP (q0e (S.sp 0) (S.ax 0)) i ∈ q0e (S.sp 0) (S.ax 0) := z0l hil
  obtain ⟨lA, lB, lC⟩ := v1Q (h.rt 0) (J0h hm)
  have hT : CtrA Tryz.prog 150 [.agg 5 (pf5 (S.ax 0 : Nat) (q0e (S.sp 0) (S.ax 0)) i), vi (S.off 0)] (j0x [t6 (Q0V (S.ax 0) (S.off 0) (gP (q0e (S.sp 0) (S.ax 0)) i).A (gP (q0e (S.sp 0) (S.ax 0)) i).B (gP (q0e (S.sp 0) (S.ax 0)) i).C), vi 0]) := by
   have q := K0R (S.ax 0) (h.ax zE) (gP (q0e (S.sp 0) (S.ax 0)) i).A (gP (q0e (S.sp 0) (S.ax 0)) i).B (gP (q0e (S.sp 0) (S.ax 0)) i).C (idx (gP (q0e (S.sp 0) (S.ax 0)) i).s) (S.off 0) (by have := h.off 0; omega) (Go.Na.LR.mono lA zE) (Go.Na.LR.mono lB zE) (Go.Na.LR.mono lC zE) (by have := LR.len' lA zE; omega) (by have := LR.len' lB zE; omega) (by have := LR.len' lC zE; omega)
   rw [V1c (h.ax (by decide))] at q
   exact q
  have hy : ((j0J S).map prT)[i]? = some (prT (Q0V (S.ax 0) (S.off 0) (gP (q0e (S.sp 0) (S.ax 0)) i).A (gP (q0e (S.sp 0) (S.ax 0)) i).B (gP (q0e (S.sp 0) (S.ax 0)) i).C)) := by
   unfold j0J
   rw [List.map_map, List.getElem?_map, List.getElem?_eq_getElem hil, W0Q hil]
   rfl
  refine wt ?_
  refine j0j (j0i rfl rfl) rfl ?_
  refine wt ?_
  refine q0U (j0y rfl rfl (x0X _ _ _ _ _) rfl rfl) ?_
  refine wt ?_
  refine j0j (j0n (f := pf5 (S.ax 0 : Nat) (q0e (S.sp 0) (S.ax 0)) i) rfl rfl rfl) rfl ?_
  refine wt ?_
  obtain ⟨u, hu⟩ : ∃ u, u = Q0V (S.ax 0) (S.off 0) (gP (q0e (S.sp 0) (S.ax 0)) i).A (gP (q0e (S.sp 0) (S.ax 0)) i).B (gP (q0e (S.sp 0) (S.ax 0)) i).C := ⟨_, rfl⟩
  rw [← hu] at hy ⊢
  refine j0j (j0h (us := t6L u) rfl rfl rfl rfl) rfl ?_
  refine wt ?_
  refine j0z (T' := [(0, .av (ywV y)), (1, .av (.ptr 9 (syA S))), (25, .av (.sl (q0e (S.sp 0) (S.ax 0)).length 5 (pf5 (S.ax 0 : Nat) (q0e (S.sp 0) (S.ax 0))))), (26, .av (vi (q0e (S.sp 0) (S.ax 0)).length)), (27, .av (vi i)), (8, .av (vi 0)), (39, .av (ywV y)), (40, .av (t6 u)), (41, .av (vi 0))]) (O' := []) (ent zS trivial) ?_
  refine x0o Y S1 hy rfl rfl rfl (fun w' Z' S2 => ?_)
  refine wt ?_
  exact x0n Y (g := i) (i + 1) S2 zO zO (ent zS trivial)
 ·have hil : i = (q0e (S.sp 0) (S.ax 0)).length := by omega
  subst hil
  refine wt ?_
  rw [← y0N, ← List.length_map (f := prT)] at S1
  exact V0Z Y rfl S1
abbrev ln1 (S : Sys) (t : Nat → Rat) : Nat → Nat → Option (Nat → Rat) := fun i k => lnS S t i k
abbrev hqf (S : Sys) (t : Nat → Rat) (k : Nat) : Nat → Rat := fun i => hq S t k (gt (S.sp k) i)
theorem v1q (S : Sys) (h : OkS S) (t : Nat → Rat) (ht : t ∈ j0J S) : CtrL Tryz.prog 151 [.ptr 9 (syA S), t6P t] ((second S t).map prT) := by
 obtain ⟨q1, q2⟩ := Z0s h.toSmS ht
 have hn1 := h.n1
 have hh := y0V S h.toSmS t q1 zO
 have hlen : ((second S t).map prT).length = fmC (ln1 S t) (S.sp 1).length 0 := by rw [List.length_map, J0V, J1B]
 have hat : ∀ i k u, i < (S.sp 1).length → k < i → ln1 S t i k = some u → ((second S t).map prT)[fmC (ln1 S t) i k]? = some (prT u) := fun i k u hi hk e => by
  rw [List.getElem?_map, J0V, Y1J hi hk e]; rfl
 refine Z1D _ Tryz.func151 rfl rfl Tryz.ntmps151 rfl fun y J Y w Z S0 => ?_
 refine zU ?_
 refine wt ?_
 refine j0j (j0i rfl rfl) rfl ?_
 refine wt ?_
 refine j0j (j0k (us := t6L t) rfl rfl rfl rfl) rfl ?_
 refine wt ?_
 refine j0A (j0O 22 hh rfl rfl) rfl ?_
 refine wt ?_
 refine V0n Y (γ := Nat) (fun i => [(0, .av (ywV y)), (1, .av (.ptr 9 (syA S))), (2, .av (t6P t)), (4, .av (rsl (hqf S t 1) (S.sp 1).length)), (27, .av (vi (S.sp 1).length)), (28, .av (vi i))]) (fun i => fmC (ln1 S t) i 0) (fun i => i ≤ (S.sp 1).length) (fun i => (S.sp 1).length - i) 0 S0 (Nat.zero_le _) (Ent.trans (v0m 22 rfl) (ent zS trivial)) ?_
 intro i hi w Z S1
 refine wt ?_
 (refine j0a rfl ?_ ?_ <;> intro hb <;> (try simp only [zA, zB, zG, zC, zD, zN] at hb) <;> (try exact zQ))
 ·have hil : i < (S.sp 1).length := by omega
  refine wt ?_
  refine V0n Y (γ := Nat) (fun k => [(0, .av (ywV y)), (1, .av (.ptr 9 (syA S))), (2, .av (t6P t)), (4, .av (rsl (hqf S t 1) (S.sp 1).length)), (27, .av (vi (S.sp 1).length)), (28, .av (vi i)), (6, .av (vi i)), (31, .av (vi i)), (32, .av (vi k))]) (fun k => fmC (ln1 S t) i k) (fun k => k ≤ i) (fun k => i - k) 0 S1 (Nat.zero_le _) (ent zS trivial) ?_
  intro k hk w Z S2
  refine wt ?_
  (refine j0a rfl ?_ ?_ <;> intro hb <;> (try simp only [zA, zB, zG, zC, zD, zN] at hb) <;> (try exact zQ))
  ·have hkl : k < i := by omega
   have hle := q1k S h.toSmS t ht (i := i) (k := k) hil zO zO
   have hbi := h.sp 1 i
   have hbk := h.sp 1 k
   by_cases he : q0B S (gt (S.sp 1) i) = q0B S (gt (S.sp 1) k)
   ·have hn : ln1 S t i k = none := if_pos he
    unfold q1h at hle
    rw [if_pos he] at hle
    rw [← Z0x hn] at S2
    refine wt ?_
    refine j0j (j0i rfl rfl) rfl ?_
    refine wt ?_
    refine j0j (j0k (us := t6L t) rfl rfl rfl rfl) rfl ?_
    refine wt ?_
    exact x0n Y (g := k) (k + 1) S2 zO zO (ent zS trivial)
   ·unfold q1h at hle
    rw [if_neg he] at hle
    obtain ⟨l1, l2, l3, l4, l5⟩ := q1j h.toSmS ht hbi hbk he
    have hh2 := y0V S h.toSmS (q0N S t (gt (S.sp 1) i) (gt (S.sp 1) k)) l1 zO
    cases hl : lwS S (q0N S t (gt (S.sp 1) i) (gt (S.sp 1) k)) 1 with
    |true =>
     have hn : ln1 S t i k = none := (if_neg he).trans (if_pos hl)
     have hct := X0U (hqf S (q0N S t (gt (S.sp 1) i) (gt (S.sp 1) k)) 1) (S.sp 1).length zO (fun j _ => l5 1 zE _ (h.sp 1 j)) hl
     rw [← Z0x hn] at S2
     refine wt ?_
     refine j0j (j0i rfl rfl) rfl ?_
     refine wt ?_
     refine j0j (j0k (us := t6L t) rfl rfl rfl rfl) rfl ?_
     refine wt ?_
     refine j0j (j0i rfl rfl) rfl ?_
     refine wt ?_
     refine j0j (j0h (us := t6L (q0N S t (gt (S.sp 1) i) (gt (S.sp 1) k))) rfl rfl rfl rfl) rfl ?_
     refine wt ?_
     refine j0A (j0O 23 hh2 rfl rfl) rfl ?_
     refine wt ?_
     refine j0z (v0m 23 rfl) ?_
     refine wt ?_
     exact x0n Y (g := k) (k + 1) S2 zO zO (ent zS trivial)
    |false =>
     have hn : ln1 S t i k = some (q0N S t (gt (S.sp 1) i) (gt (S.sp 1) k)) := (if_neg he).trans (if_neg (by rw [hl]; simp))
     have hct := w0B (hqf S (q0N S t (gt (S.sp 1) i) (gt (S.sp 1) k)) 1) (S.sp 1).length zO (fun j _ => l5 1 zE _ (h.sp 1 j)) hl
     have hy := hat i k _ hil hkl hn
     refine wt ?_
     refine j0j (j0i rfl rfl) rfl ?_
     refine wt ?_
     refine j0j (j0k (us := t6L t) rfl rfl rfl rfl) rfl ?_
     refine wt ?_
     refine j0j (j0i rfl rfl) rfl ?_
     refine wt ?_
     refine j0j (j0h (us := t6L (q0N S t (gt (S.sp 1) i) (gt (S.sp 1) k))) rfl rfl rfl rfl) rfl ?_
     refine wt ?_
     refine j0A (j0O 23 hh2 rfl rfl) rfl ?_
     refine wt ?_
     refine j0z (v0m 23 rfl) ?_
     refine wt ?_
     refine j0A (j0O 24 hct rfl rfl) rfl ?_
     refine wt ?_
     obtain ⟨u, hu⟩ : ∃ u, u = q0N S t (gt (S.sp 1) i) (gt (S.sp 1) k) := ⟨_, rfl⟩
     rw [← hu] at hy hn ⊢
     refine j0j (j0h (us := t6L u) rfl rfl rfl rfl) rfl ?_
     refine wt ?_
     refine j0z (T' := [(0, .av (ywV y)), (1, .av (.ptr 9 (syA S))), (2, .av (t6P t)), (4, .av (rsl (hqf S t 1) (S.sp 1).length)), (27, .av (vi (S.sp 1).length)), (28, .av (vi i)), (6, .av (vi i)), (31, .av (vi i)), (32, .av (vi k)), (10, .av (vi 0)), (68, .av (ywV y)), (69, .av (t6 u)), (70, .av (vi 0))]) (O' := []) (ent zS trivial) ?_
     refine x0o Y S2 hy rfl rfl rfl (fun w' Z' S3 => ?_)
     rw [← x1c hn] at S3
     refine wt ?_
     exact x0n Y (g := k) (k + 1) S3 zO zO (ent zS trivial)
  ·have hkl : k = i := by omega
   subst hkl
   rw [← J1C] at S2
   refine wt ?_
   exact x0n Y (g := k) (k + 1) S2 zO zO (ent zS trivial)
 ·have hil : i = (S.sp 1).length := by omega
  subst hil
  refine wt ?_
  rw [← hlen] at S1
  exact V0Z Y rfl S1
theorem x1W (S : Sys) (h : OkS S) (u : Nat → Rat) (q1 : ∀ i, LR 43 (u i)) (q2 : ∀ k, k < 3 → ∀ p, BT 2000 p → LR 43 (hq S u k p)) : CtrLX Tryz.prog 153 [.ptr 9 (syA S)] 6 (fun i => vR (u i)) [prT (q0F S u)] := by
 have hn2 := h.n2
 have hp2 := h.p2
 have hh := Q0G S h.toSmS u q1 zO
 have hf : ∀ i, LR 43 (hq S u 2 (gt (S.sp 2) i)) := fun i => q2 2 zE _ (h.sp 2 i)
 have hmn : ∀ k, LR 43 (Q0f (hqf S u 2) k) := fun k => by
  rcases (J0L (hqf S u 2) k).2.2 with e | ⟨i, _, e⟩
  ·rw [e]; exact hf 0
  ·rw [e]; exact hf i
 have e0 : (((S.sp 2).length : Int) == 0) = false := by rw [beq_eq_false_iff_ne]; omega
 refine Y1C _ Tryz.func153 rfl rfl Tryz.ntmps153 rfl fun y J Y w Z b ν hν hbl S0 => ?_
 refine zU ?_
 refine wt ?_
 refine j0j (j0i rfl rfl) rfl ?_
 refine wt ?_
 refine j0j (j0h (us := t6L u) rfl rfl rfl rfl) rfl ?_
 refine wt ?_
 refine j0A (j0O 22 hh rfl rfl) rfl ?_
 refine wt ?_
 rw [e0]
 refine wt ?_
 refine j0g (γ := Nat) (fun i => [(0, .av (ywV y)), (1, .av (.ptr 9 (syA S))), (2, .own 1000 0), (4, .osl 22), (32, .osl 22), (33, .av (vi (S.sp 2).length)), (34, .av (vi i)), (6, .av (vR (Q0f (hqf S u 2) i))), (5, .av (vi 0))]) (fun _ => [(22, .row 33 1 (S.sp 2).length (hgF S u 2)), (1000, .cells ((List.range 6).map fun i => .av (vR (u i))))]) (fun i => i ≤ (S.sp 2).length) (fun i => (S.sp 2).length - i) 0 zO (ent zS zT) ?_
 intro i hi
 refine wt ?_
 (refine j0a rfl ?_ ?_ <;> intro hb <;> (try simp only [zA, zB, zG, zC, zD, zN] at hb) <;> (try exact zQ))
 ·have hil : i < (S.sp 2).length := by omega
  have hc := v0Q (hqf S u 2 i) (Q0f (hqf S u 2) i) (Go.Na.LR.mono (hf i) zE) (Go.Na.LR.mono (hmn i) zE)
  refine wt ?_
  (refine j0a rfl ?_ ?_ <;> intro hb <;> (try simp only [zA, zB, zG, zC, zD, zN] at hb) <;> (try exact zQ))
  ·have e : Q0f (hqf S u 2) (i + 1) = hqf S u 2 i := if_pos (by have := x0j.1 hb; grind)
   refine wt ?_
   exact j0b (i + 1) (by omega) (by omega) (ent ⟨.refl _, .refl _, .refl _, .refl _, .refl _, .refl _, .int (by omega), (by show SLe _ (.av (vR (Q0f (hqf S u 2) (i + 1)))); rw [e]; exact .refl _), .refl _, trivial⟩ zT)
  ·have e : Q0f (hqf S u 2) (i + 1) = Q0f (hqf S u 2) i := if_neg (fun q => hb (x0j.2 (by grind)))
   refine wt ?_
   exact j0b (i + 1) (by omega) (by omega) (ent ⟨.refl _, .refl _, .refl _, .refl _, .refl _, .refl _, .int (by omega), (by show SLe _ (.av (vR (Q0f (hqf S u 2) (i + 1)))); rw [e]; exact .refl _), .refl _, trivial⟩ zT)
 ·have hil : i = (S.sp 2).length := by omega
  subst hil
  have hng := V0Q (Q0f (hqf S u 2) (S.sp 2).length) (Go.Na.LR.mono (hmn _) zE)
  have hw := z1P u (-Q0f (hqf S u 2) (S.sp 2).length) 0 q1 (Go.Na.LR.neg (hmn _)) (Go.Na.LR.mono (q0h (x := 0) zE) zE) (s := S.ax 2) (r := S.ax 2) (h.ax zE) (h.ax zE)
  rw [show vR 0 = vS [48] from congrArg vS rtx_0] at hw
  refine wt ?_
  refine j0j (j0h (us := t6L u) rfl rfl rfl rfl) rfl ?_
  refine wt ?_
  refine j0j (j0h (us := t6L (q0F S u)) rfl rfl rfl rfl) rfl ?_
  refine wt ?_
  refine K0i Y hν S0 rfl (fun q => q) hbl (fun q => by cases q) (fun w' Z' S1 => ?_)
  refine j0z (T' := [(0, .av (ywV y)), (67, .av (ywV y)), (68, .av (t6 (q0F S u))), (69, .av (vi 0))]) (O' := []) (ent zS trivial) ?_
  refine x0o Y S1 (τ := prT (q0F S u)) rfl rfl rfl rfl (fun w2 Z2 S2 => ?_)
  refine wt ?_
  exact V0Z Y rfl S2
abbrev cfn (l : List AV) : Nat → AV := fun i => l.getD i .any
abbrev cl1 (S : Sys) : Nat → AV := cfn [.ptr 9 (syA S)]
abbrev cl2 (S : Sys) (t : Nat → Rat) : Nat → AV := cfn [.ptr 9 (syA S), t6P t]
abbrev cla (a b : AV) : Nat → AV := cfn [.ptr 1 (fun _ => a), .ptr 1 (fun _ => b)]
abbrev clb (a b : AV) (t : Nat → Rat) : Nat → AV := cfn [.ptr 1 (fun _ => a), t6P t, .ptr 1 (fun _ => b)]
theorem J1A (S : Sys) (t : Nat → Rat) : CtrA Tryz.prog 89 [syV S, t6 t] (.clo 149 1 (cl1 S)) := by
 refine j0s _ Tryz.func89 rfl rfl Tryz.ntmps89 rfl fun w Z => ?_
 refine zU ?_
 refine wt ?_
 exact zV
theorem x1J (S : Sys) (t : Nat → Rat) : CtrA Tryz.prog 90 [syV S, t6 t] (.clo 151 2 (cl2 S t)) := by
 refine j0s _ Tryz.func90 rfl rfl Tryz.ntmps90 rfl fun w Z => ?_
 refine zU ?_
 refine wt ?_
 exact zV
theorem Q1O (S : Sys) (t : Nat → Rat) : CtrH Tryz.prog 91 [.av (syV S), .av (t6 t)] [] (.clo 153 [.av (.ptr 9 (syA S)), .own 7 0]) [(7, .cells ((List.range 6).map fun i => .av (vR (t i))))] := by
 refine Q0i _ Tryz.func91 rfl rfl Tryz.ntmps91 rfl rfl fun w Z ν => ?_
 refine zU ?_
 refine v0y ?_
 refine j0T ?_
 refine j0j (x0v rfl) rfl ?_
 refine j0A (q0v (us := t6L t) 7 rfl rfl) rfl ?_
 refine wt ?_
 refine j0j (W0W (caps := [.av (.ptr 9 (syA S)), .own 7 0]) rfl) rfl ?_
 refine wt ?_
 exact q0k (T' := [(4, .clo 153 [.av (.ptr 9 (syA S)), .own 7 0])]) (O' := [(7, .cells ((List.range 6).map fun i => .av (vR (t i))))]) (ent ⟨.refl _, trivial⟩ zT) (v0S rfl rfl rfl)
theorem W0G (a b : AV) (ha : One a) (hb : One b) : CtrA Tryz.prog 92 [a, b] (.clo 157 2 (cla a b)) := by
 refine j0s _ Tryz.func92 rfl rfl Tryz.ntmps92 rfl fun w Z => ?_
 refine zU ?_
 refine v0y ?_
 refine j0T ?_
 refine j0j (y1L rfl ha) rfl ?_
 refine j0j (y1L rfl hb) rfl ?_
 refine wt ?_
 exact zV
theorem Q0o (a b : AV) (t : Nat → Rat) : CtrA Tryz.prog 157 [t6 t, .ptr 1 (fun _ => a), .ptr 1 (fun _ => b)] (.clo 158 3 (clb a b t)) := by
 refine j0s _ Tryz.func157 rfl rfl Tryz.ntmps157 rfl fun w Z => ?_
 refine zU ?_
 refine wt ?_
 exact zV
abbrev gU (l : List (Nat → Rat)) (i : Nat) : Nat → Rat := l.getD i (fun _ => 0)
theorem x0L {l : List (Nat → Rat)} {i : Nat} {t0 t1 : AV} (e : (l.map prT)[i]? = some [t0, t1]) : i < l.length ∧ l[i]? = some (gU l i) ∧ t0 = t6 (gU l i) ∧ t1 = vi 0 := by
 rw [List.getElem?_map] at e
 cases h : l[i]? with
 |none => rw [h] at e; cases e
 |some u =>
  rw [h] at e
  have hu : gU l i = u := by unfold gU; rw [List.getD_eq_getElem?_getD, h]; rfl
  rw [hu]
  simp only [Option.map_some, Option.some.injEq, List.cons.injEq, and_true] at e
  exact ⟨(List.getElem?_eq_some_iff.1 h).1, rfl, e.1.symm, e.2.symm⟩
theorem J0O (l : List (Nat → Rat)) : ∀ τ ∈ l.map prT, ∃ t0 t1, τ = [t0, t1] := fun τ h => by
 obtain ⟨u, _, rfl⟩ := List.mem_map.1 h
 exact ⟨_, _, rfl⟩
abbrev bf1 (S : Sys) : AV := .bfn 89 [syV S]
abbrev bf2 (S : Sys) : AV := .bfn 90 [syV S]
abbrev bf3 (S : Sys) : AV := .bfn 91 [syV S]
theorem w1G (S : Sys) (h : OkS S) (z : Nat → Rat) : CtrL Tryz.prog 158 [.ptr 1 (fun _ => bf1 S), t6P z, .ptr 1 (fun _ => bf2 S)] (((j0J S).flatMap (second S)).map prT) := by
 have h1 := J1A S z
 have hend : flC (second S) (j0J S) ((j0J S).map prT).length = (((j0J S).flatMap (second S)).map prT).length := by rw [List.length_map, j1O, List.length_map]
 refine V1O _ Tryz.func158 rfl rfl Tryz.ntmps158 rfl fun y J Y w Z S0 => ?_
 refine zU ?_
 refine wt ?_
 refine j0j (j0k (us := t6L z) rfl rfl rfl rfl) rfl ?_
 refine wt ?_
 refine j0j (Q0y (cs := [syV S]) (τs := [t6 z]) h1 rfl rfl) rfl ?_
 refine wt ?_
 refine W0J (TL := [(3, .av (.ptr 1 (fun _ => bf2 S))), (4, .av (.ptr 1 (fun _ => ywV y))), (11, .av (.clo 149 1 (cl1 S)))]) (mOf := fun i => flC (second S) (j0J S) i) Y S0 (x1b S h) (fun i => [(5, .av (t6P (gU (j0J S) i))), (6, .av (vi 0)), (3, .av (.ptr 1 (fun _ => bf2 S))), (4, .av (.ptr 1 (fun _ => ywV y)))]) (ent zS trivial) rfl rfl rfl rfl rfl rfl (J0O _) ?_ ?_ ?_
 ·rintro i t0 t1 e l' K' Zt' W Z' S1
  obtain ⟨hi, e1, rfl, rfl⟩ := x0L e
  refine wt ?_
  exact V0V Y S1 (Ent.trans (j0F 5 10 (fun j => .val ((t6L (gU (j0J S) i)).getD j undef)) rfl rfl rfl) (ent zS trivial))
 ·rintro i t0 t1 e l' K' Zt' W Z' S1 hrec
  obtain ⟨hi, e1, rfl, rfl⟩ := x0L e
  have h2 := x1J S (gU (j0J S) i)
  have hm : gU (j0J S) i ∈ j0J S := List.mem_of_getElem? e1
  refine wt ?_
  refine j0j (j0k (us := t6L (gU (j0J S) i)) rfl rfl rfl rfl) rfl ?_
  refine wt ?_
  refine j0j (Q0y (cs := [syV S]) (τs := [t6 (gU (j0J S) i)]) h2 rfl rfl) rfl ?_
  refine wt ?_
  refine k0J (TL := [(4, .av (.ptr 1 (fun _ => ywV y))), (22, .av (.clo 151 2 (cl2 S (gU (j0J S) i))))]) (mOf := fun j => flC (second S) (j0J S) i + j) hrec Y S1 (v1q S h _ hm) (fun j => [(7, .av (t6P (gU (second S (gU (j0J S) i)) j))), (8, .av (vi 0)), (4, .av (.ptr 1 (fun _ => ywV y)))]) (ent zS trivial) rfl rfl rfl rfl rfl rfl (J0O _) ?_ ?_ ?_
  ·rintro j t0 t1 e l2 K2 Zt2 W2 Z2 S2
   obtain ⟨hj, e2, rfl, rfl⟩ := x0L e
   refine wt ?_
   exact V0V Y S2 (Ent.trans (j0F 7 10 (fun m => .val ((t6L (gU (second S (gU (j0J S) i)) j)).getD m undef)) rfl rfl rfl) (ent zS trivial))
  ·rintro j t0 t1 e l2 K2 Zt2 W2 Z2 S2 hrec2
   obtain ⟨hj, e2, rfl, rfl⟩ := x0L e
   have hy : (((j0J S).flatMap (second S)).map prT)[flC (second S) (j0J S) i + j]? = some (prT (gU (second S (gU (j0J S) i)) j)) := by
    rw [List.getElem?_map, W1h (second S) e1 e2]; rfl
   refine wt ?_
   refine j0j (j0k (us := t6L (gU (second S (gU (j0J S) i)) j)) rfl rfl rfl rfl) rfl ?_
   refine wt ?_
   refine x0o Y S2 hy rfl rfl rfl (fun w' Z' S3 => ?_)
   refine wt ?_
   exact W0a Y S3
  ·intro W2 Z2 S2
   have e9 : flC (second S) (j0J S) (i + 1) = flC (second S) (j0J S) i + ((second S (gU (j0J S) i)).map prT).length := by rw [Z0u (second S) e1, List.length_map]
   rw [← e9] at S2
   exact W0a Y S2
 ·intro D W Z2 S1 hD
  rw [hend] at S1
  exact Q0U Y rfl S1 (.inr rfl) hD
abbrev ch2 (S : Sys) : AV := .clo 157 2 (cla (bf1 S) (bf2 S))
abbrev K0N (S : Sys) : List (Nat → Rat) := (j0J S).flatMap (second S)
theorem W0E (S : Sys) : (K0N S).flatMap (fun u => [q0F S u]) = q0J S := by
 unfold q0J
 rw [List.flatMap_assoc]
 congr 1
 funext t
 rw [List.map_eq_flatMap]
theorem w1H (S : Sys) (h : OkS S) (z : Nat → Rat) : CtrL Tryz.prog 158 [.ptr 1 (fun _ => ch2 S), t6P z, .ptr 1 (fun _ => bf3 S)] ((q0J S).map prT) := by
 have h1 : CtrA Tryz.prog 157 ([t6 z] ++ (List.range 2).map (cla (bf1 S) (bf2 S))) (.clo 158 3 (clb (bf1 S) (bf2 S) z)) := Q0o (bf1 S) (bf2 S) z
 have hend : flC (fun u => [q0F S u]) (K0N S) ((K0N S).map prT).length = ((q0J S).map prT).length := by rw [List.length_map, j1O, W0E, List.length_map]
 refine V1O _ Tryz.func158 rfl rfl Tryz.ntmps158 rfl fun y J Y w Z S0 => ?_
 refine zU ?_
 refine wt ?_
 refine j0j (j0k (us := t6L z) rfl rfl rfl rfl) rfl ?_
 refine wt ?_
 refine W0J (TL := [(3, .av (.ptr 1 (fun _ => bf3 S))), (4, .av (.ptr 1 (fun _ => ywV y))), (11, .av (.clo 158 3 (clb (bf1 S) (bf2 S) z)))]) (mOf := fun i => flC (fun u => [q0F S u]) (K0N S) i) Y S0 (w1G S h z) (fun i => [(5, .av (t6P (gU (K0N S) i))), (6, .av (vi 0)), (3, .av (.ptr 1 (fun _ => bf3 S))), (4, .av (.ptr 1 (fun _ => ywV y)))]) (ent zS trivial) rfl rfl rfl rfl rfl rfl (J0O _) ?_ ?_ ?_
 ·rintro i t0 t1 e l' K' Zt' W Z' S1
  obtain ⟨hi, e1, rfl, rfl⟩ := x0L e
  refine wt ?_
  exact V0V Y S1 (Ent.trans (j0F 5 10 (fun j => .val ((t6L (gU (K0N S) i)).getD j undef)) rfl rfl rfl) (ent zS trivial))
 ·rintro i t0 t1 e l' K' Zt' W Z' S1 hrec
  obtain ⟨hi, e1, rfl, rfl⟩ := x0L e
  have h3 := Q1O S (gU (K0N S) i)
  obtain ⟨u, hu⟩ : ∃ u, u = gU (K0N S) i := ⟨_, rfl⟩
  rw [← hu] at e1 h3 ⊢
  obtain ⟨q1, q2⟩ : (∀ i, LR 43 (u i)) ∧ ∀ k, k < 3 → ∀ p, BT 2000 p → LR 43 (hq S u k p) := by
   obtain ⟨t, ht, hm⟩ := List.mem_flatMap.1 (List.mem_of_getElem? e1)
   exact v1r h.toSmS ht hm
  refine wt ?_
  refine j0j (j0k (us := t6L u) rfl rfl rfl rfl) rfl ?_
  refine wt ?_
  refine j0A (Y0M (cs := [syV S]) (τs := [t6 u]) [(7, 7)] h3 rfl rfl rfl) rfl ?_
  refine wt ?_
  refine k0K (TL := [(4, .av (.ptr 1 (fun _ => ywV y))), (22, .clo 153 [.av (.ptr 9 (syA S)), .own 7 0])]) (mOf := fun j => flC (fun u => [q0F S u]) (K0N S) i + j) (τa := [q0F S u].map prT) hrec Y S1 (x1W S h u q1 q2) (fun j => [(7, .av (t6P (gU [q0F S u] j))), (8, .av (vi 0)), (4, .av (.ptr 1 (fun _ => ywV y)))]) (ent zS zT) rfl rfl rfl rfl rfl rfl (J0O _) ?_ ?_ ?_
  ·rintro j t0 t1 e l2 K2 Zt2 W2 Z2 S2
   obtain ⟨hj, e2, rfl, rfl⟩ := x0L e
   refine wt ?_
   exact V0V Y S2 (Ent.trans (j0F 7 10 (fun m => .val ((t6L (gU [q0F S u] j)).getD m undef)) rfl rfl rfl) (ent zS trivial))
  ·rintro j t0 t1 e l2 K2 Zt2 W2 Z2 S2 hrec2
   obtain ⟨hj, e2, rfl, rfl⟩ := x0L e
   have hy : ((q0J S).map prT)[flC (fun u => [q0F S u]) (K0N S) i + j]? = some (prT (gU [q0F S u] j)) := by
    rw [List.getElem?_map, ← W0E, W1h (fun u => [q0F S u]) e1 e2]; rfl
   refine wt ?_
   refine j0j (j0k (us := t6L (gU [q0F S u] j)) rfl rfl rfl rfl) rfl ?_
   refine wt ?_
   refine x0o Y S2 hy rfl rfl rfl (fun w' Z' S3 => ?_)
   refine wt ?_
   exact W0a Y S3
  ·intro W2 Z2 S2
   have e9 : flC (fun u => [q0F S u]) (K0N S) (i + 1) = flC (fun u => [q0F S u]) (K0N S) i + ([q0F S u].map prT).length := by rw [Z0u (fun u => [q0F S u]) e1]; rfl
   rw [← e9] at S2
   exact W0a Y S2
 ·intro D W Z2 S1 hD
  rw [hend] at S1
  exact Q0U Y rfl S1 (.inr rfl) hD
def plA (S : Sys) (t : Nat → Rat) : Nat → AV
 |0 => vR (t 0)
 |1 => vR (t 1)
 |2 => vR (t 2)
 |3 => vR (t 3)
 |4 => vR (t 4)
 |5 => vR (t 5)
 |6 => idx (onS S t 0)
 |7 => idx (onS S t 1)
 |_ => idx (onS S t 2)
abbrev plV (S : Sys) (t : Nat → Rat) : AV := .agg 9 (plA S t)
abbrev Q1c : Value := .slice none 0 0
def plC (S : Sys) (t : Nat → Rat) (i : Nat) : List SV := ((t6L t).map fun u => SV.av (.val u)) ++ (List.range 3).map fun k => .av (match Nat.blt k i with | true => plA S t (6 + k) | false => .val Q1c)
theorem k1q (a b c d e f : Value) : Tryz.prog.built 40 [(0, .agg #[a, b, c, d, e, f])] = some #[a, b, c, d, e, f, Q1c, Q1c, Q1c] := by kernel_rfl
theorem Z0X (S : Sys) (h : OkS S) (t : Nat → Rat) (q1 : ∀ i, LR 43 (t i)) (q2 : ∀ k, k < 3 → ∀ p, BT 2000 p → LR 43 (hq S t k p)) (hu : ∀ k, k < 3 → lwS S t k = false) : CtrA Tryz.prog 66 [syV S, t6 t] (j0x [plV S t, vb true, vi 0]) := by
 have n0 := h.n0
 have n1 := h.n1
 have n2 := h.n2
 refine j0s _ Tryz.func66 rfl rfl Tryz.ntmps66 rfl fun w Z => ?_
 refine zU ?_
 refine wt ?_
 refine j0j (j0k (us := t6L t) rfl rfl rfl rfl) rfl ?_
 refine wt ?_
 refine j0j (j0m (t := 40) (is := [0]) (xs := [_]) (vs := [.agg (t6L t).toArray]) (k1q _ _ _ _ _ _) rfl rfl) rfl ?_
 refine wt ?_
 refine j0g (γ := Nat) (fun i => [(2, .av (.ptr 9 (syA S))), (3, .av (t6P t)), (4, .own 10 0), (5, .av (vb false)), (6, .av (vi 0)), (7, .own 11 0), (15, .av (vi i))]) (fun i => [(10, .cells ([.string ⟨#[]⟩, .string ⟨#[]⟩, .string ⟨#[]⟩, .string ⟨#[]⟩, .string ⟨#[]⟩, .string ⟨#[]⟩, Q1c, Q1c, Q1c].map fun z => .av (.val z))), (11, .cells (plC S t i))]) (fun i => i ≤ 3) (fun i => 3 - i) 0 zO (ent zS zT) ?_
 intro i hi
 match i, hi with
 |0, _ =>
  have hh := K0f S h.toSmS t q1 zO
  have hct := w0B (hqf S t 0) (S.sp 0).length zO (fun j _ => q2 0 zE _ (h.sp 0 j)) (hu 0 zE)
  refine wt ?_
  refine j0j (j0i rfl rfl) rfl ?_
  refine wt ?_
  refine j0j (j0k (us := t6L t) rfl rfl rfl rfl) rfl ?_
  refine wt ?_
  refine j0A (j0O 22 hh rfl rfl) rfl ?_
  refine wt ?_
  refine j0z (v0m 22 rfl) ?_
  refine wt ?_
  refine j0A (j0O 23 hct rfl rfl) rfl ?_
  refine wt ?_
  exact j0b 1 zO zO (Ent.trans (j0M 11 23 (6 + 0) rfl rfl rfl rfl) (ent zS zT))
 |1, _ =>
  have hh := y0V S h.toSmS t q1 zO
  have hct := w0B (hqf S t 1) (S.sp 1).length zO (fun j _ => q2 1 zE _ (h.sp 1 j)) (hu 1 zE)
  refine wt ?_
  refine j0j (j0i rfl rfl) rfl ?_
  refine wt ?_
  refine j0j (j0k (us := t6L t) rfl rfl rfl rfl) rfl ?_
  refine wt ?_
  refine j0A (j0O 22 hh rfl rfl) rfl ?_
  refine wt ?_
  refine j0z (v0m 22 rfl) ?_
  refine wt ?_
  refine j0A (j0O 23 hct rfl rfl) rfl ?_
  refine wt ?_
  exact j0b 2 zO zO (Ent.trans (j0M 11 23 (6 + 1) rfl rfl rfl rfl) (ent zS zT))
 |2, _ =>
  have hh := Q0G S h.toSmS t q1 zO
  have hct := w0B (hqf S t 2) (S.sp 2).length zO (fun j _ => q2 2 zE _ (h.sp 2 j)) (hu 2 zE)
  refine wt ?_
  refine j0j (j0i rfl rfl) rfl ?_
  refine wt ?_
  refine j0j (j0k (us := t6L t) rfl rfl rfl rfl) rfl ?_
  refine wt ?_
  refine j0A (j0O 22 hh rfl rfl) rfl ?_
  refine wt ?_
  refine j0z (v0m 22 rfl) ?_
  refine wt ?_
  refine j0A (j0O 23 hct rfl rfl) rfl ?_
  refine wt ?_
  exact j0b 3 zO zO (Ent.trans (j0M 11 23 (6 + 2) rfl rfl rfl rfl) (ent zS zT))
 |3, _ =>
  refine wt ?_
  refine j0j (j0n (f := plA S t) rfl rfl rfl) rfl ?_
  refine wt ?_
  refine q0U (j0y rfl rfl (fun i hi => by rcases (by omega : i = 0 ∨ i = 1 ∨ i = 2 ∨ i = 3 ∨ i = 4 ∨ i = 5 ∨ i = 6 ∨ i = 7 ∨ i = 8) with rfl | rfl | rfl | rfl | rfl | rfl | rfl | rfl | rfl <;> rfl) rfl rfl) ?_
  refine wt ?_
  exact j0t (rvs := [_, _, _]) (τs := [_, _, _]) rfl rfl ⟨.aggv (f := plA S t) rfl rfl rfl, .tmp rfl, .tmp rfl, trivial⟩ rfl
 |i + 4, hi => omega
end Go.Proofs.YtfggdokihnopeaaGreatDoor.H
namespace Go.Proofs.YtfggdokihnopeaaGreatDoor.H
open Go Go.Vc Go.RowKit
set_option maxHeartbeats 4000000
def V1u (i : Nat) (f : Nat → Nat → AV) (g : Nat → AV) : Nat → Nat → AV := fun a j => if a < i then f a j else if a = i then g j else f (a - 1) j
theorem x1k (n i : Nat) (f : Nat → Nat → AV) (g : Nat → AV) (hi : i ≤ n) (hn : n ≤ 100000) (h1 : ∀ a, a < n → ∀ j, j < 9 → (f a j).one = true) (hg : ∀ j, j < 9 → (g j).one = true) : CtrW Tryz.prog 95 [vi i, .vob 9 g] 40 9 n f (n + 1) (V1u i f g) true := by
 refine Z1E _ Tryz.func95 rfl rfl Tryz.ntmps95 rfl fun w Z v => ?_
 refine zU ?_
 refine J1m 0 rfl (fun hz => ?_) (fun b cap hcap => ?_)
 ·subst hz
  obtain rfl : i = 0 := by omega
  refine wt ?_
  refine j0j (J0C (l := 0) rfl rfl rfl (Nat.le_refl 0)) rfl ?_
  refine wt ?_
  refine j0j (W0V rfl) rfl ?_
  refine wt ?_
  refine j0z (V0u (k := 24) rfl) ?_
  refine j0z (v0L (dd := 23) 20 40 9 f rfl rfl) ?_
  refine j0A (q0G (m := 1) (sz := 9) (bytes := 168) (h := fun _ j => g j) rfl rfl rfl (fun _ _ j hj => hg j hj) zE zE zE) rfl ?_
  refine wt ?_
  exact w0J (r := 20) rfl rfl rfl rfl (fun a ha j hj => by
   obtain rfl : a = 0 := by omega
   rfl)
 ·refine wt ?_
  refine j0j (J0C (l := i) rfl rfl rfl hi) rfl ?_
  refine wt ?_
  refine j0j (W0V rfl) rfl ?_
  refine wt ?_
  (refine j0a rfl ?_ ?_ <;> intro hb <;> (try simp only [zA, zB, zG, zC, zD, zN] at hb) <;> (try exact zQ))
  ·have hin : i = n := by omega
   subst hin
   refine wt ?_
   refine j0z (V0u (k := 24) rfl) ?_
   refine j0z (J0u 23 0 rfl rfl) ?_
   refine j0A (q0G (m := 1) (sz := 9) (bytes := 168) (h := fun _ j => g j) rfl rfl rfl (fun _ _ j hj => hg j hj) (by decide) (by simp only [maxLen]; omega) (by omega)) rfl ?_
   refine wt ?_
   exact w0J (r := 0) rfl rfl rfl rfl (fun a ha j hj => by
    unfold w0u V1u
    by_cases c : a < i
    ·rw [if_pos c, if_pos c]
    ·rw [if_neg c, if_neg c, if_pos (by omega)])
  ·have hin : i < n := by omega
   refine wt ?_
   refine j0j (J0y rfl) rfl ?_
   refine wt ?_
   (refine j0a rfl ?_ ?_ <;> intro hb <;> (try simp only [zA, zB, zG, zC, zD, zN] at hb) <;> (try exact zQ))
   ·refine wt ?_
    refine j0j (Q0E (l := i) rfl rfl rfl zO) rfl ?_
    refine wt ?_
    refine j0A (X0Z (q := 0) (l := i) (n := n) (m := n + 1 - i) (bytes := 168) (kn := .i64) 20 rfl rfl (by omega) rfl (by omega) (by kernel_rfl) (by omega) (by omega) (by simp only [maxLen]; omega) (by omega) rfl) rfl ?_
    refine x1o 20 rfl zO (fun b2 cap2 hc2 => ?_)
    refine wt ?_
    refine j0j (v0q (l := i) rfl rfl rfl zO zO) rfl ?_
    refine wt ?_
    refine j0z (V0u (k := 44) rfl) ?_
    refine j0A ((W0U (q := 20) (lo := i) (m := 1) (k := 1) (h := fun _ j => g j) zE rfl zO rfl rfl (by show min _ _ = _; omega) zE zO (fun _ _ j hj => hg j hj)).v) rfl ?_
    refine wt ?_
    refine q0H (v0q (l := i + 1) rfl rfl zO zO zO) rfl ?_
    refine wt ?_
    refine q0H (v0q (l := i) rfl rfl rfl zO zO) rfl ?_
    refine wt ?_
    refine y0j (Q0z (q := 20) (q2 := 0) (lo := i + 1) (lo2 := i) (k := n - i) zE rfl zO rfl rfl zO rfl (by show min _ _ = _; omega) zO zO (fun a c1 c2 j hj => h1 a zO j hj)) rfl ?_
    refine wt ?_
    refine q0k (J0u 6 20 rfl rfl) ?_
    exact w0J (r := 20) rfl rfl rfl zO (fun a ha j hj => by
     unfold V1r V1u
     by_cases c : a < i
     ·rw [if_neg (by omega), if_neg (by omega), if_pos c]
      exact if_pos c
     ·by_cases c2 : a = i
      ·subst c2
       rw [if_neg (by omega), if_pos (by omega), if_neg c, if_pos rfl]
      ·rw [if_pos (by omega), if_neg c, if_neg c2]
       show f (i + (a - (i + 1))) j = _
       rw [show i + (a - (i + 1)) = a - 1 by omega])
   ·refine wt ?_
    refine j0j (Q0E (l := n + 1) rfl rfl zO zO) rfl ?_
    refine j0z (k0O 0 (n' := n + 1) (f' := fun a j => if a < n then f a j else .any) rfl (by omega) (fun a ha j hj => by by_cases c : a < n <;> simp [c])) ?_
    refine wt ?_
    refine j0j (v0q (l := i + 1) rfl rfl zO zO zO) rfl ?_
    refine wt ?_
    refine j0j (K0c (q := 0) (e := 40) (tS := 29) (tR := 4) (fn := Tryz.f160) zE zO Tryz.func160 (by kernel_rfl) (by kernel_rfl) (by kernel_rfl) (by kernel_rfl) rfl rfl rfl) rfl ?_
    refine wt ?_
    refine q0H (v0q (l := i + 1) rfl rfl zO zO zO) rfl ?_
    refine wt ?_
    refine q0H (v0q (l := i) rfl rfl rfl zO zO) rfl ?_
    refine wt ?_
    refine y0j (Q0z (q := 0) (q2 := 0) (lo := i + 1) (lo2 := i) (k := n - i) (by decide) rfl (by omega) rfl rfl (by omega) rfl (by show min _ _ = _; omega) (by omega) (by omega) (fun a c1 c2 j hj => by rw [if_pos (by omega)]; exact h1 a (by omega) j hj)) rfl ?_
    refine wt ?_
    refine j0j (v0q (l := i) rfl rfl rfl zO zO) rfl ?_
    refine wt ?_
    refine j0z (V0u (k := 81) rfl) ?_
    refine j0A ((W0U (q := 0) (lo := i) (m := 1) (k := 1) (h := fun _ j => g j) zE rfl zO rfl rfl (by show min _ _ = _; omega) zE zO (fun _ _ j hj => hg j hj)).v) rfl ?_
    refine wt ?_
    refine q0k (J0u 6 0 rfl rfl) ?_
    exact w0J (r := 0) rfl rfl rfl rfl (fun a ha j hj => by
     unfold V1r V1u
     by_cases c : a < i
     ·rw [if_neg (by omega), if_neg (by omega), if_pos c]
      exact if_pos zO
     ·by_cases c2 : a = i
      ·subst c2
       rw [if_pos (by omega), if_neg c, if_pos rfl]
      ·rw [if_neg (by omega), if_pos (by omega), if_neg c, if_neg c2]
       show (if i + (a - (i + 1)) < n then f (i + (a - (i + 1))) j else AV.any) = _
       rw [if_pos (by omega), show i + (a - (i + 1)) = a - 1 by omega])
end Go.Proofs.YtfggdokihnopeaaGreatDoor.H
namespace Go.Proofs.YtfggdokihnopeaaGreatDoor.H
open Go Go.Vc Go.RowKit
open Go.Na (rtx LR j0v v0j rsg)
set_option maxHeartbeats 4000000
theorem W1s (n : Nat) (h0 : 0 < n) (hn : n ≤ 1000) : CtrR Tryz.prog 124 [.val (.slice none 0 0), vi n] 33 1 0 (fun _ _ => .any) [] := by
 refine K0L _ Tryz.func124 rfl rfl Tryz.ntmps124 rfl fun w Z => ?_
 refine zU ?_
 refine wt ?_
 refine j0j (J0y rfl) rfl ?_
 refine wt ?_
 (refine j0a rfl ?_ ?_ <;> intro hb <;> (try simp only [zA, zB, zG, zC, zD, zN] at hb) <;> (try exact zQ))
 ·refine wt ?_
  refine j0j (J0y rfl) rfl ?_
  refine wt ?_
  refine j0j (Y0g rfl rfl) rfl ?_
  refine wt ?_
  refine j0A (k0Q (n := n) (bytes := 16) (kn := .i64) 20 rfl rfl (by omega) (by kernel_rfl) h0 (by simp only [maxLen]; omega) (by omega) rfl) rfl ?_
  refine wt ?_
  exact x0Y rfl rfl rfl rfl (fun _ _ _ _ => rfl)
def tw3 (t : Nat → Rat) : Nat → Nat → AV
 |0, _ => .sl 3 1 (fun i _ => vR (t i))
 |_, _ => .sl 3 1 (fun i _ => vR (t (3 + i)))
theorem w1Q (t : Nat → Rat) : CtrR Tryz.prog 69 [.sl 2 1 (tw3 t)] 33 1 6 (fun i _ => vR (t i)) [] := by
 have hg := W1s 6 zE zE
 refine K0L _ Tryz.func69 rfl rfl Tryz.ntmps69 rfl fun w Z => ?_
 refine zU ?_
 refine wt ?_
 refine j0g (γ := Nat) (fun i => [(0, .av (.sl 2 1 (tw3 t))), (9, .av (.sl 2 1 (tw3 t))), (10, .av (vi 2)), (11, .av (vi i)), (3, .av (vi (3 * i : Nat)))]) (fun _ => []) (fun i => i ≤ 2) (fun i => 2 - i) 0 zO (ent zS trivial) ?_
 intro i hi
 match i, hi with
 |0, _ =>
  refine wt ?_
  exact j0b 1 zO zO (ent zS trivial)
 |1, _ =>
  refine wt ?_
  exact j0b 2 zO zO (ent zS trivial)
 |2, _ =>
  refine wt ?_
  refine j0A (q0q 20 hg rfl rfl) rfl ?_
  refine wt ?_
  refine wt ?_
  refine j0g (γ := Nat) (fun i => [(0, .av (.sl 2 1 (tw3 t))), (25, .av (.sl 2 1 (tw3 t))), (26, .av (vi 2)), (27, .av (vi i)), (6, .osl 20)]) (fun i => [(20, .row 33 1 (3 * i) (fun i _ => vR (t i)))]) (fun i => i ≤ 2) (fun i => 2 - i) 0 zO (ent zS ⟨⟨_, rfl, .row rfl (fun a ha b hb => absurd ha zO)⟩, trivial⟩) ?_
  intro i hi
  match i, hi with
  |0, _ =>
   refine wt ?_
   refine j0A (q0G (h := fun i _ => vR (t i)) (m := 3) rfl rfl rfl (fun i hi j hj => rfl) (by omega) (by simp only [maxLen]; omega) (by omega)) rfl ?_
   refine wt ?_
   refine wt ?_
   exact j0b 1 zO zO (ent zS ⟨⟨_, rfl, .row rfl (fun a ha b hb => by unfold w0u; split <;> first | rfl | (congr 2; omega))⟩, trivial⟩)
  |1, _ =>
   refine wt ?_
   refine j0A (q0G (h := fun i _ => vR (t (3 + i))) (m := 3) rfl rfl rfl (fun i hi j hj => rfl) (by omega) (by simp only [maxLen]; omega) (by omega)) rfl ?_
   refine wt ?_
   refine wt ?_
   exact j0b 2 (by omega) (by omega) (ent zS ⟨⟨_, rfl, .row rfl (fun a ha b hb => by unfold w0u; split; rfl; show vR (t (3 + (a - 3 * 1))) = vR (t a); rw [show 3 + (a - 3 * 1) = a by omega])⟩, trivial⟩)
  |2, _ =>
   refine wt ?_
   exact x0Y rfl rfl rfl rfl (fun _ _ _ _ => rfl)
  |i + 3, hi => omega
 |i + 3, hi => omega
theorem Z1n (p q : Option Addr) (a b c d : Nat) (w : World) : (Instr.buildSlice 170 2 #[(0, .slice p a b), (1, .slice q c d)]).run Tryz.prog w = .ok (.slice (some ⟨w.heap.size, 0, none⟩) 2 2) (w.alloc (.cells #[.slice p a b, .slice q c d] 62)) := by kernel_rfl
theorem v1u {Z : j0q} {w : World} {n sz : Nat} {f g : Nat → Nat → AV} {v : Value} (h : (AV.sl n sz f).ok Z w v) (he : ∀ i, i < n → ∀ j, j < sz → f i j = g i j) : (AV.sl n sz g).ok Z w v := by
 obtain ⟨p, c, e1, e2, e3, e4⟩ := h
 refine ⟨p, c, e1, e2, e3, fun hn => ?_⟩
 obtain ⟨b, o, h1, h2, h3, h4⟩ := e4 hn
 exact ⟨b, o, h1, h2, h3, fun i hi j hj => let ⟨u, hu, hk⟩ := h4 i hi j hj; ⟨u, hu, by rw [← he i hi j hj]; exact hk⟩⟩
theorem Y1x (t : Nat → Rat) {f g : Nat → Nat → AV} (hf : ∀ i, i < 3 → ∀ j, j < 1 → f i j = vR (t i)) (hg : ∀ i, i < 3 → ∀ j, j < 1 → g i j = vR (t (3 + i))) : ∀ (Z : j0q) (w : World) (vs : List Value), All2 (fun τ v => AV.ok Z w τ v) [.sl 3 1 f, .sl 3 1 g] vs → ∃ cs : List Value, (Instr.buildSlice 170 2 ([0, 1].zip vs).toArray).run Tryz.prog w = .ok (.slice (some ⟨w.heap.size, 0, none⟩) 2 2) (w.alloc (.cells cs.toArray 62)) ∧ ∀ i, i < 2 → ∀ j, j < 1 → ∃ u, cs[i * 1 + j]? = some u ∧ (tw3 t i j).ok Z w u := fun Z w vs h => by
 match vs, h with
 |[u, v], ⟨hu, hv, _⟩ =>
  have hu' : AV.ok Z w (.sl 3 1 (fun i _ => vR (t i))) u := v1u hu hf
  have hv' : AV.ok Z w (.sl 3 1 (fun i _ => vR (t (3 + i)))) v := v1u hv hg
  obtain ⟨p, c, e1, hu2⟩ := id hu'
  obtain ⟨q, d, e2, hv2⟩ := id hv'
  subst e1 e2
  refine ⟨_, Z1n _ _ _ _ _ _ _, fun i hi j hj => ?_⟩
  obtain rfl : j = 0 := by omega
  rcases (by omega : i = 0 ∨ i = 1) with rfl | rfl
  ·exact ⟨_, rfl, hu'⟩
  ·exact ⟨_, rfl, hv'⟩
theorem Q0M (t : Nat → Rat) : CtrR Tryz.prog 159 [t6 t] 33 1 6 (fun i _ => vR (t i)) [] := by
 have hc := w1Q t
 refine K0L _ Tryz.func159 rfl rfl Tryz.ntmps159 rfl fun w Z => ?_
 refine zU ?_
 refine wt ?_
 refine q0H (z0n (n := 3) (m := 6) rfl zE zE zE) rfl ?_
 refine wt ?_
 refine wt ?_
 refine q0H (z0n (n := 3) (m := 3) rfl zE zE zE) rfl ?_
 refine wt ?_
 refine q0H (w0Y (is := [0, 1]) (xs := [_, _]) (τs := [.sl 3 1 _, .sl 3 1 _]) (row := tw3 t) rfl rfl (Y1x t (fun i hi _ _ => by rcases (by omega : i = 0 ∨ i = 1 ∨ i = 2) with rfl | rfl | rfl <;> rfl) (fun i hi _ _ => by rcases (by omega : i = 0 ∨ i = 1 ∨ i = 2) with rfl | rfl | rfl <;> rfl)) rfl) rfl ?_
 refine wt ?_
 refine y0k (Y0h 20 hc rfl) rfl rfl ?_
 refine wt ?_
 refine wt ?_
 exact x0Y rfl rfl rfl rfl (fun _ _ _ _ => rfl)
def cmF (t u : Nat → Rat) : Nat → Nat → Int
 |_, 0 => 0
 |i, k + 1 => if rsg (t i - u i) ≠ 0 then rsg (t i - u i) else cmF t u (i + 1) k
def cmO (t u : Nat → Rat) : Int := cmF t u 0 6
theorem Z0V (S : Sys) (t u : Nat → Rat) (ht : ∀ i, i < 6 → LR 43 (t i)) (hu : ∀ i, i < 6 → LR 43 (u i)) : CtrA Tryz.prog 94 [plV S t, plV S u] (vi (cmO t u)) := by
 have h1 := Q0M t
 have h2 := Q0M u
 refine j0s _ Tryz.func94 rfl rfl Tryz.ntmps94 rfl fun w Z => ?_
 refine zU ?_
 refine wt ?_
 refine j0j (j0k (us := t6L u) rfl rfl rfl rfl) rfl ?_
 refine wt ?_
 refine j0A (q0q 20 h2 rfl rfl) rfl ?_
 refine wt ?_
 refine wt ?_
 refine j0j (j0k (us := t6L t) rfl rfl rfl rfl) rfl ?_
 refine wt ?_
 refine j0A (q0q 21 h1 rfl rfl) rfl ?_
 refine wt ?_
 refine wt ?_
 refine j0g (γ := Nat) (fun i => [(15, .osl 21), (5, .osl 20), (16, .av (vi 6)), (17, .av (vi i))]) (fun _ => [(21, .row 33 1 6 (fun i _ => vR (t i))), (20, .row 33 1 6 (fun i _ => vR (u i)))]) (fun i => i ≤ 6 ∧ cmO t u = cmF t u i (6 - i)) (fun i => 6 - i) 0 ⟨by omega, rfl⟩ (ent zS zT) ?_
 rintro i ⟨hi, hc⟩
 refine wt ?_
 (refine j0a rfl ?_ ?_ <;> intro hb <;> (try simp only [zA, zB, zG, zC, zD, zN] at hb) <;> (try exact zQ))
 ·have h : i < 6 := by omega
  have hr := v0Q (t i) (u i) ((ht i zO).mono zE) ((hu i zO).mono zE)
  rw [show 6 - i = (6 - (i + 1)) + 1 by omega, cmF] at hc
  by_cases h0 : rsg (t i - u i) = 0
  ·rw [if_neg (by omega)] at hc
   rw [h0] at hr
   refine wt ?_
   exact j0b (i + 1) ⟨by omega, hc⟩ zO (ent zS zT)
  ·rw [if_pos h0] at hc
   rw [hc]
   refine wt ?_
   (refine j0a rfl ?_ ?_ <;> intro hb <;> (try simp only [zA, zB, zG, zC, zD, zN] at hb) <;> (try exact zQ))
   ·refine wt ?_
    exact zV
 ·obtain rfl : i = 6 := by omega
  rw [hc]
  refine wt ?_
  exact zV
end Go.Proofs.YtfggdokihnopeaaGreatDoor.H
section
namespace Go.Vc
open Go Go.RowKit
variable {P : Program} {E : Env} {T : Tab} {O : Own} {d : Option Nat} {ty : TypeId} {pos : String} {af : Array Edge} {g : Option (Nat × Bool)}
theorem W1o {xt yt : TypeId} {x y : Operand} {k k' : IntKind} {m : Int} {n : Nat} (h1 : T.ev x = .av (.val (.int k m))) (h2 : T.ev y = .av (.val (.int k' (n : Int)))) :
  GV P E ⟨d, .binOp .shr xt x y yt, ty, pos, af, g⟩ T O (.av (.val (.int k (m.fdiv (2 ^ (min n k.bits)))))) [] [] :=
 y0R h1 h2 (fun w => q0b ..) (fun w => by
  have h : ¬ ((n : Int) < 0) := by omega
  simp [binOp, Op.shift, h])
theorem W1n {xt yt : TypeId} {x y : Operand} {k k' : IntKind} {m q : Int} (h1 : T.ev x = .av (.val (.int k m))) (h2 : T.ev y = .av (.val (.int k' 1))) (hb : min 1 k.bits = 1) (hq : m.fdiv 2 = q) :
  GV P E ⟨d, .binOp .shr xt x y yt, ty, pos, af, g⟩ T O (.av (.val (.int k q))) [] [] := by
 have h := W1o (P := P) (E := E) (O := O) (d := d) (ty := ty) (pos := pos) (af := af) (g := g) (xt := xt) (yt := yt) (n := 1) h1 h2
 rw [hb] at h
 rw [← hq]
 exact h
end Go.Vc
namespace Go.Proofs.YtfggdokihnopeaaGreatDoor.H
open Go Go.Vc Go.RowKit
open Go.Na (rtx LR j0v v0j rsg)
set_option maxHeartbeats 4000000
abbrev F94 : AV := .val (.func (.func 94) #[] #[])
theorem Y1y (S : Sys) (L : Nat → Nat → Rat) (t : Nat → Rat) (n c : Nat) (hn : n ≤ 100000) (hL : ∀ a, a < n → ∀ i, i < 6 → LR 43 (L a i)) (ht : ∀ i, i < 6 → LR 43 (t i)) (hc : c ≤ n) (h : ∀ a, a < n → (cmO (L a) t < 0 ↔ a < c)) :
  CtrA Tryz.prog 93 [.sl n 9 (fun a => plA S (L a)), plV S t, F94] (j0x [vi c, vb (decide (c < n) && decide (cmO (L c) t = 0))]) := by
 refine j0s _ Tryz.func93 rfl rfl Tryz.ntmps93 rfl fun w Z => ?_
 refine zU ?_
 refine wt ?_
 refine j0g (γ := Nat × Nat) (fun g => [(0, .av (.sl n 9 (fun a => plA S (L a)))), (2, .av F94), (4, .av (.ptr 9 (plA S t))), (8, .av (vi n)), (9, .av (vi g.1)), (10, .av (vi g.2))]) (fun _ => []) (fun g => g.1 ≤ c ∧ c ≤ g.2 ∧ g.2 ≤ n) (fun g => g.2 - g.1) (0, n) ⟨by simp, hc, by simp⟩ (ent zS trivial) ?_
 rintro ⟨l, r⟩ ⟨h1, h2, h3⟩
 dsimp only at h1 h2 h3 ⊢
 refine wt ?_
 (refine j0a rfl ?_ ?_ <;> intro hb <;> (try simp only [zA, zB, zG, zC, zD, zN] at hb) <;> (try exact zQ))
 ·have hlr : l < r := by omega
  have hk : (l + r) / 2 < n := by omega
  have ho := Z0V S (L ((l + r) / 2)) t (hL _ hk) ht
  refine wt ?_
  refine j0j (j1X (k := .u64) (m := ↑l + ↑r) rfl (by show ((l : Int) + r) % 18446744073709551616 = _; omega)) rfl ?_
  refine wt ?_
  refine j0j (W1n (q := (((l + r) / 2 : Nat) : Int)) rfl rfl rfl (by rw [Int.fdiv_eq_ediv_of_nonneg _ (by decide)]; omega)) rfl ?_
  refine wt ?_
  refine q0H (j0i rfl rfl) rfl ?_
  refine wt ?_
  refine q0H (j0i rfl rfl) rfl ?_
  refine wt ?_
  (refine j0a rfl ?_ ?_ <;> intro hb <;> (try simp only [zA, zB, zG, zC, zD, zN] at hb) <;> (try exact zQ))
  ·have hlc : (l + r) / 2 < c := (h _ hk).1 zO
   refine wt ?_
   exact j0b (g := (l, r)) ((l + r) / 2 + 1, r) ⟨by dsimp only; omega, h2, h3⟩ (by dsimp only; omega) (ent ⟨.refl _, .refl _, .refl _, .refl _, .int (by dsimp only; omega), .refl _, trivial⟩ trivial)
  ·have hlc : ¬ (l + r) / 2 < c := fun k => by have := (h _ hk).2 k; omega
   refine wt ?_
   exact j0b (g := (l, r)) (l, (l + r) / 2) ⟨h1, by dsimp only; omega, by dsimp only; omega⟩ (by dsimp only; omega) (ent zS trivial)
 ·obtain rfl : l = c := by omega
  refine wt ?_
  (first | refine j0f rfl rfl ?_ ?_ | refine j0e rfl rfl ?_ ?_) <;> intro hb <;> (try simp only [zA, zB, zG, zC, zD, zN] at hb) <;> (try exact zQ)
  ·have hln : l < n := by omega
   have ho := Z0V S (L l) t (hL l hln) ht
   refine wt ?_
   refine Z0m (j0i rfl rfl) rfl rfl rfl rfl ?_
   refine wt ?_
   refine Z0m (j0i rfl rfl) rfl rfl rfl rfl ?_
   refine wt ?_
   rw [decide_eq_true (p := l < n) hln, Bool.true_and, show decide (cmO (L l) t = 0) = (cmO (L l) t == 0) by rw [Bool.eq_iff_iff]; simp]
   exact zW
  ·rw [decide_eq_false (p := l < n) (by omega), Bool.false_and]
   refine wt ?_
   exact zW
end Go.Proofs.YtfggdokihnopeaaGreatDoor.H
end
