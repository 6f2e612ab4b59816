/- A part of the proof. -/
import Derived.Test.YtgblokifbgeegaaGreatDoorBaw
set_option linter.unusedVariables false
set_option linter.unusedSimpArgs false
namespace Go.Proofs.YtgblokifbgeegaaGreatDoor.H.S
open Go Go.Vc
def MinD (l : List Tr) (m : Tr) : Prop := m ≠ tz ∧ ∀ d : Tr, d ≠ tz → wLE l m d
theorem z1b {l : List Tr} {m : Tr} (h : wdt l m = 0) (d : Tr) : wLE l m d := by
 unfold wLE
 rw [h]
 have h1 := z0P (wdt l d)
 have h2 : 0 ≤ j0c m m := by
  have a := z0P m.x; have b := z0P m.y; have c := z0P m.z
  unfold j0c; omega
 have := Int.mul_nonneg h1 h2
 omega
theorem z1d {l : List Tr} {n : Tr} {M : Int} (h0 : 0 < l.length) (h : ∀ i, i < l.length → j0c n (gt l i) = M) : wdt l n = 0 := by
 obtain ⟨p, hp, ep⟩ := w0J n h0
 obtain ⟨q, hq, eq⟩ := x0n n h0
 unfold wdt
 rw [← ep, ← eq, h p hp, h q hq]; omega
def J0c (l : List Tr) : Prop := ∃ a b c, a < l.length ∧ b < l.length ∧ c < l.length ∧ tac (gt l a) (gt l b) (gt l c) ≠ tz
theorem flat_gap {l : List Tr} (hS : ¬ Sol l) {a b c : Nat} (ha : a < l.length) (hb : b < l.length) (hc : c < l.length) (hn : tac (gt l a) (gt l b) (gt l c) ≠ tz) : ∀ d ∈ j0T (w0l l), tcr (tac (gt l a) (gt l b) (gt l c)) d = tz ∧ wdt l d = 0 := fun d hd => by
 have hall : ∀ i, i < l.length → j0c (tac (gt l a) (gt l b) (gt l c)) (gt l i) = j0c (tac (gt l a) (gt l b) (gt l c)) (gt l a) := fun i hi => by
  have h6 : six (gt l a) (gt l b) (gt l c) (gt l i) = 0 := Classical.byContradiction fun h => hS ⟨a, b, c, i, ha, hb, hc, hi, h⟩
  have e : six (gt l a) (gt l b) (gt l c) (gt l i) = j0c (tac (gt l a) (gt l b) (gt l c)) (gt l i) - j0c (tac (gt l a) (gt l b) (gt l c)) (gt l a) := by
   unfold six; simp only [j0c, j0D]; grind
  omega
 generalize tac (gt l a) (gt l b) (gt l c) = N at *
 have hgap : ∀ v ∈ w0l l, j0c N v = 0 := fun v hv => by
  obtain ⟨i, k, hi, hk, rfl⟩ := J0r.1 hv
  have e : j0c N (j0D (gt l i) (gt l k)) = j0c N (gt l i) - j0c N (gt l k) := by simp only [j0c, j0D]; grind
  rw [e, hall i hi, hall k (by omega)]; omega
 obtain ⟨i, k, hi, hk, hne, rfl⟩ := q0g.1 hd
 have h1 := hgap _ (Q0c hi)
 have h2 := hgap _ (Q0c (show k < (w0l l).length by omega))
 have hp : tcr N (tcr (gt (w0l l) i) (gt (w0l l) k)) = tz := X0M hne h1 h2 (by simp only [j0c, tcr]; grind) (by simp only [j0c, tcr]; grind)
 have hp2 : tcr N (q0R (tcr (gt (w0l l) i) (gt (w0l l) k))) = tz := q0H (x0W hne (q0H (y0y hne)) (q0H hp))
 refine ⟨hp2, z1d (M := j0c (q0R (tcr (gt (w0l l) i) (gt (w0l l) k))) (gt l a)) xO fun x hx => ?_⟩
 have h3 : j0c N (j0D (gt l x) (gt l a)) = 0 := by
  have e : j0c N (j0D (gt l x) (gt l a)) = j0c N (gt l x) - j0c N (gt l a) := by simp only [j0c, j0D]; grind
  rw [e, hall x hx]; omega
 have h4 : j0c (j0D (gt l x) (gt l a)) (q0R (tcr (gt (w0l l) i) (gt (w0l l) k))) = 0 := v1x hn hp2 (by rw [q0m]; exact h3)
 have e : j0c (j0D (gt l x) (gt l a)) (q0R (tcr (gt (w0l l) i) (gt (w0l l) k))) = j0c (q0R (tcr (gt (w0l l) i) (gt (w0l l) k))) (gt l x) - j0c (q0R (tcr (gt (w0l l) i) (gt (w0l l) k))) (gt l a) := by simp only [j0c, j0D]; grind
 omega
theorem V0H {l : List Tr} (h : J0c l) : ∃ m, w0O l (j0T (w0l l)) = some m ∧ m ∈ j0T (w0l l) ∧ MinD l m := by
 obtain ⟨a, b, c, ha, hb, hc, hn⟩ := h
 have hx : q0R (tcr (dv l a b) (dv l a c)) ∈ j0T (w0l l) := x0D ha hb ha hc hn
 obtain ⟨m, e, hm, hall⟩ := y0x (l := l) v0O (fun h => by rw [h] at hx; cases hx)
 have hm0 := v0O m hm
 refine ⟨m, e, hm, hm0, ?_⟩
 by_cases hS : Sol l
 ·exact q1M hS hm0 fun d hd => Q0K.1 (fun h => hall d hd (.inl h))
 ·exact fun d _ => z1b (flat_gap hS ha hb hc hn m hm).2 d
theorem w1X {l : List Tr} {T : Tr → Tr} {d e : Tr} {k c : Int} (hk : 0 < k) (h0 : 0 < l.length) (h : ∀ p, j0c e (T p) = k * j0c d p + c) : wdt (l.map T) e = k * wdt l d := by
 obtain ⟨p, hp, ep⟩ := w0J d h0
 obtain ⟨q, hq, eq⟩ := x0n d h0
 have gm : ∀ i, i < l.length → gt (l.map T) i = T (gt l i) := fun i hi => by unfold gt; simp [List.getD, hi]
 have e1 : loD (l.map T) e = j0c e (gt (l.map T) p) := X0E (by simpa using hp) fun i hi => by
  have hi' : i < l.length := by simpa using hi
  rw [gm p hp, gm i hi', h, h, ep]
  have := Int.mul_le_mul_of_nonneg_left (x0e d hi') (Int.le_of_lt hk)
  omega
 have e2 : hiD (l.map T) e = j0c e (gt (l.map T) q) := X0z (by simpa using hq) fun i hi => by
  have hi' : i < l.length := by simpa using hi
  rw [gm q hq, gm i hi', h, h, eq]
  have := Int.mul_le_mul_of_nonneg_left (w0I d hi') (Int.le_of_lt hk)
  omega
 unfold wdt
 rw [e1, e2, gm p hp, gm q hq, h, h, ep, eq, Int.mul_sub]
 omega
def Y0g (b p : Tr) : Tr := ⟨p.z + b.x, b.y - p.x, p.y + b.z⟩
def z0Z (d : Tr) : Tr := ⟨d.z, -d.x, d.y⟩
def Y0q (d : Tr) : Tr := ⟨-d.y, d.z, d.x⟩
theorem w1N (d : Tr) : z0Z (Y0q d) = d := by simp [z0Z, Y0q]
theorem w1O (d : Tr) : j0c (z0Z d) (z0Z d) = j0c d d := by simp only [z0Z, j0c]; grind
theorem W1F {d : Tr} (h : d ≠ tz) : z0Z d ≠ tz := fun e => h (by
 simp only [z0Z, tz, Tr.mk.injEq] at e
 exact v0e (by show d.x = 0; omega) (by show d.y = 0; omega) (by show d.z = 0; omega))
theorem Q1q {d : Tr} (h : d ≠ tz) : Y0q d ≠ tz := fun e => h (by
 simp only [Y0q, tz, Tr.mk.injEq] at e
 exact v0e (by show d.x = 0; omega) (by show d.y = 0; omega) (by show d.z = 0; omega))
theorem K0i {l : List Tr} (h0 : 0 < l.length) (b d : Tr) : wdt (l.map (Y0g b)) (z0Z d) = wdt l d := by
 have := w1X (l := l) (T := Y0g b) (d := d) (e := z0Z d) (k := 1) (c := j0c (z0Z d) b) (by decide) h0 (fun p => by simp only [z0Z, Y0g, j0c]; grind)
 omega
theorem y1v {l : List Tr} (h0 : 0 < l.length) (b : Tr) {m m' : Tr} (h : MinD l m) (h' : MinD (l.map (Y0g b)) m') : wdt l m * wdt l m * j0c m' m' = wdt (l.map (Y0g b)) m' * wdt (l.map (Y0g b)) m' * j0c m m := by
 have h1 := h.2 (Y0q m') (Q1q h'.1)
 have h2 := h'.2 (z0Z m) (W1F h.1)
 have e1 := K0i h0 b (Y0q m')
 have e2 := K0i h0 b m
 have e3 := w1O (Y0q m')
 rw [w1N] at e1 e3
 unfold wLE at h1 h2
 rw [← e1, ← e3] at h1
 rw [e2, w1O] at h2
 omega
theorem K0h {l : List Tr} (h0 : 0 < l.length) {k : Int} (hk : 0 < k) (d : Tr) : wdt (l.map fun p => j0N p k) d = k * wdt l d :=
 w1X (T := fun p => j0N p k) (c := 0) hk h0 fun p => by simp only [j0N, j0c]; grind
theorem y1u {l : List Tr} (h0 : 0 < l.length) {k : Int} (hk : 0 < k) {m m' : Tr} (h : MinD l m) (h' : MinD (l.map fun p => j0N p k) m') : k * k * (wdt l m * wdt l m) * j0c m' m' = wdt (l.map fun p => j0N p k) m' * wdt (l.map fun p => j0N p k) m' * j0c m m := by
 have h1 := h.2 m' h'.1
 have h2 := h'.2 m h.1
 have e1 := K0h h0 hk m'
 have e2 := K0h h0 hk m
 unfold wLE at h1 h2
 rw [e2] at h2
 rw [e1] at h2 ⊢
 have pk := Int.mul_pos hk hk
 have h3 := Int.mul_le_mul_of_nonneg_left h1 (Int.le_of_lt pk)
 have a1 : k * wdt l m' * (k * wdt l m') * j0c m m = k * k * (wdt l m' * wdt l m' * j0c m m) := by grind
 have a2 : k * wdt l m * (k * wdt l m) * j0c m' m' = k * k * (wdt l m * wdt l m * j0c m' m') := by grind
 have a3 : k * k * (wdt l m * wdt l m) * j0c m' m' = k * k * (wdt l m * wdt l m * j0c m' m') := by grind
 rw [a1] at h2 ⊢
 rw [a2] at h2
 rw [a3]
 omega
theorem y0m {l : List Tr} {p : Tr} {i : Nat} (h : i < l.length) : gt (l ++ [p]) i = gt l i := by unfold gt; simp [List.getD, List.getElem?_append_left h]
theorem V1d {l : List Tr} {p : Tr} : gt (l ++ [p]) l.length = p := by unfold gt; simp [List.getD]
theorem z1e {l : List Tr} (h0 : 0 < l.length) (p d : Tr) : wdt l d ≤ wdt (l ++ [p]) d := by
 obtain ⟨i, hi, ei⟩ := w0J d h0
 obtain ⟨j, hj, ej⟩ := x0n d h0
 have h1 := x0e (l := l ++ [p]) d (show i < (l ++ [p]).length by simp; omega)
 have h2 := w0I (l := l ++ [p]) d (show j < (l ++ [p]).length by simp; omega)
 rw [y0m hi] at h1
 rw [y0m hj] at h2
 unfold wdt
 omega
theorem k1d {l : List Tr} (h0 : 0 < l.length) (d : Tr) : 0 ≤ wdt l d := by
 obtain ⟨i, hi, ei⟩ := w0J d h0
 have := w0I d hi
 unfold wdt; omega
theorem k0x {l : List Tr} (h0 : 0 < l.length) {p m m' : Tr} (h : MinD l m) (h' : MinD (l ++ [p]) m') : wdt l m * wdt l m * j0c m' m' ≤ wdt (l ++ [p]) m' * wdt (l ++ [p]) m' * j0c m m := by
 have h1 := h.2 m' h'.1
 have h2 := z1e h0 p m'
 have h3 := k1d h0 m'
 unfold wLE at h1
 have h4 : wdt l m' * wdt l m' ≤ wdt (l ++ [p]) m' * wdt (l ++ [p]) m' := Int.mul_le_mul h2 h2 h3 xO
 have h5 := Int.mul_le_mul_of_nonneg_right h4 (Int.le_of_lt (q0p h.1))
 omega
theorem k1c {l : List Tr} (h0 : 0 < l.length) {p d : Tr} (h1 : loD l d ≤ j0c d p) (h2 : j0c d p ≤ hiD l d) : wdt (l ++ [p]) d = wdt l d := by
 obtain ⟨i, hi, ei⟩ := w0J d h0
 obtain ⟨j, hj, ej⟩ := x0n d h0
 have key : ∀ x, x < (l ++ [p]).length → loD l d ≤ j0c d (gt (l ++ [p]) x) ∧ j0c d (gt (l ++ [p]) x) ≤ hiD l d := fun x hx => by
  by_cases e : x < l.length
  ·rw [y0m e]; exact ⟨x0e d e, w0I d e⟩
  ·have : x = l.length := by simp at hx; omega
   subst this
   rw [V1d]; exact ⟨h1, h2⟩
 have e1 : loD (l ++ [p]) d = j0c d (gt (l ++ [p]) i) := X0E (by simp; omega) fun x hx => by rw [y0m hi, ei]; exact (key x hx).1
 have e2 : hiD (l ++ [p]) d = j0c d (gt (l ++ [p]) j) := X0z (by simp; omega) fun x hx => by rw [y0m hj, ej]; exact (key x hx).2
 unfold wdt
 rw [e1, e2, y0m hi, y0m hj, ei, ej]
theorem Y1I {l : List Tr} (h0 : 0 < l.length) {p m m' : Tr} (h : MinD l m) (h' : MinD (l ++ [p]) m') (h1 : loD l m ≤ j0c m p) (h2 : j0c m p ≤ hiD l m) : wdt l m * wdt l m * j0c m' m' = wdt (l ++ [p]) m' * wdt (l ++ [p]) m' * j0c m m := by
 have a1 := k0x h0 h h'
 have a2 := h'.2 m h.1
 unfold wLE at a2
 rw [k1c h0 h1 h2] at a2
 omega
theorem flat_mem {L : List Fc} {a b : Nat} : ∀ {V : List Nat}, b ∈ V → 2 ≤ cnt L (a : Int) (b : Int) L.length → ((a : Int), (b : Int)) ∈ V.flatMap (fun b => y1x L a b)
 |V, hb, h => by
  rw [List.mem_flatMap]
  refine ⟨b, hb, ?_⟩
  unfold y1x
  rw [if_pos h]
  simp
theorem X0O {L : List Fc} {a b : Nat} (hab : a < b) (h : 2 ≤ cnt L (a : Int) (b : Int) L.length) : ∀ {V : List Nat}, V.Pairwise (· < ·) → a ∈ V → b ∈ V → ((a : Int), (b : Int)) ∈ J1i L V
 |[], _, ha, _ => by cases ha
 |v :: V, hs, ha, hb => by
  obtain ⟨h1, h2⟩ := List.pairwise_cons.1 hs
  unfold J1i
  rcases List.mem_cons.1 ha with e | ha'
  ·subst e
   refine List.mem_append_left _ ?_
   rcases List.mem_cons.1 hb with e | hb'
   ·omega
   ·exact flat_mem hb' h
  ·refine List.mem_append_right _ ?_
   rcases List.mem_cons.1 hb with e | hb'
   ·subst e
    have := h1 a ha'
    omega
   ·exact X0O hab h h2 ha' hb'
def Q0M (l : List Tr) : List (Int × Int) := X1O (j0i l) (x0f (VL l))
theorem Z0U {l : List Tr} (s : S3 l) {u v : Nat} (E : EdgeG l u v) (h : u < v) : ((u : Int), (v : Int)) ∈ Q0M l := by
 obtain ⟨f, g, hf, hg, hne, uf, vf, ug, vg⟩ := E.two
 have hu : u ∈ VL l := s.mem.2 ⟨f, hf, (s.vx hf u).2 ⟨uf, E.vu⟩⟩
 have hv : v ∈ VL l := s.mem.2 ⟨f, hf, (s.vx hf v).2 ⟨vf, E.vv⟩⟩
 have h2 : 2 ≤ nf (j0i l) u v := (s.edge hf uf vf).2 ⟨g, hg, hne, ug, vg⟩
 unfold Q0M
 rw [V0X]
 exact X0O h (by rw [X1v]; exact h2) (x1p l) hu hv
def j1l (l : List Tr) : List Tr := (Q0M l).map fun e => dv l e.1.toNat e.2.toNat
theorem EdgeG.sym {l : List Tr} {u v : Nat} (E : EdgeG l u v) : EdgeG l v u := by
 obtain ⟨f, g, hf, hg, hne, uf, vf, ug, vg⟩ := E.two
 exact ⟨E.vv, E.vu, Ne.symm E.ne, f, g, hf, hg, hne, vf, uf, vg, ug⟩
theorem Q1K {l : List Tr} (s : S3 l) {u v : Nat} (E : EdgeG l u v) : dv l u v ∈ j1l l ∨ j0N (dv l u v) (-1) ∈ j1l l := by
 have huv : u ≠ v := fun e => E.ne (by rw [e])
 rcases Nat.lt_or_gt_of_ne huv with h | h
 ·exact .inl (List.mem_map.2 ⟨_, Z0U s E h, rfl⟩)
 ·refine .inr (List.mem_map.2 ⟨_, Z0U s E.sym h, ?_⟩)
  simp only [dv, j0D, j0N, Int.toNat_natCast, Tr.mk.injEq]
  refine ⟨?_, ?_, ?_⟩ <;> grind
theorem Z0T {l : List Tr} (s : S3 l) : ∀ v ∈ j1l l, v ∈ w0l l ∨ j0N v (-1) ∈ w0l l := fun v hv => by
 obtain ⟨x, hx, rfl⟩ := List.mem_map.1 hv
 unfold Q0M at hx
 rw [V0X] at hx
 obtain ⟨a, b, ha, hb, hab, rfl, _⟩ := W0s _ _ (x1p l) hx
 refine q1L ?_ ?_ fun h => s.place ha hb xO (W1U h).symm
 ·exact (s.vxm ha).lt
 ·exact (s.vxm hb).lt
theorem j1C {l : List Tr} (s : S3 l) : w0O l (X1G l (j1l l)) = w0O l (j0T (w0l l)) := x1v s.hS (Z0T s) (fun _ _ E => Q1K s E)
theorem k1X (o v : Int) : o ≤ mx o v := by unfold mx; split <;> omega
theorem j2E (o v : Int) : v ≤ mx o v := by unfold mx; split <;> omega
theorem y1F (l : List Tr) (a b : Nat) (o : Int) : ∀ c, o ≤ rC l a b o c
 |0 => Int.le_refl _
 |c + 1 => by have := y1F l a b o c; unfold rC mx; split <;> (try split) <;> omega
theorem Y1Y (l : List Tr) (a : Nat) (o : Int) : ∀ b, o ≤ rB l a o b
 |0 => Int.le_refl _
 |b + 1 => by
  have h1 := Y1Y l a o b
  have h2 := y1F l a b (mx (rB l a o b) 1) b
  unfold rB
  split
  ·exact h1
  ·have := k1X (rB l a o b) 1; omega
theorem K1b (l : List Tr) : ∀ a, rA l a ≤ rA l (a + 1) := fun a => by
 have h := Y1Y l a (mx (rA l a) 0) a
 show rA l a ≤ rB l a (mx (rA l a) 0) a
 have := k1X (rA l a) 0; omega
theorem Y0R (l : List Tr) {a b : Nat} (h : a ≤ b) : rA l a ≤ rA l b := by
 induction b with
 |zero => rw [Nat.le_zero.1 h]; exact Int.le_refl _
 |succ b ih =>
  by_cases e : a = b + 1
  ·rw [e]; exact Int.le_refl _
  ·have h1 := ih xO
   have h2 := K1b l b
   omega
theorem j2L {l : List Tr} (h : 0 < l.length) : 0 ≤ rA l l.length := by
 have h1 := Y0R l (show 1 ≤ l.length by omega)
 have h2 : rA l 1 = 0 := rfl
 omega
theorem v1L (l : List Tr) (a : Nat) (o : Int) {b c : Nat} (h : b ≤ c) : rB l a o b ≤ rB l a o c := by
 induction c with
 |zero => rw [Nat.le_zero.1 h]; exact Int.le_refl _
 |succ c ih =>
  by_cases e : b = c + 1
  ·rw [e]; exact Int.le_refl _
  ·have h1 := ih xO
   have h2 : rB l a o c ≤ rB l a o (c + 1) := by
    have h3 := y1F l a c (mx (rB l a o c) 1) c
    show rB l a o c ≤ (if gt l a = gt l c then rB l a o c else rC l a c (mx (rB l a o c) 1) c)
    split
    ·exact Int.le_refl _
    ·have := k1X (rB l a o c) 1; omega
   omega
theorem j2N {l : List Tr} {a b n : Nat} {o : Int} (hb : b < n) (hne : gt l a ≠ gt l b) : 1 ≤ rB l a o n := by
 have h1 := v1L l a o (show b + 1 ≤ n by omega)
 have h2 : rB l a o (b + 1) = rC l a b (mx (rB l a o b) 1) b := by
  show (if gt l a = gt l b then rB l a o b else rC l a b (mx (rB l a o b) 1) b) = _
  rw [if_neg hne]
 have h3 := y1F l a b (mx (rB l a o b) 1) b
 have := j2E (rB l a o b) 1; omega
theorem j2M {l : List Tr} {a b : Nat} (ha : a < l.length) (hb : b < l.length) (hne : gt l a ≠ gt l b) : 1 ≤ rA l l.length := by
 have key : ∀ a b, a < l.length → b < a → gt l a ≠ gt l b → 1 ≤ rA l l.length := fun a b ha hb hne => by
  have h1 := Y0R l (show a + 1 ≤ l.length by omega)
  have h2 : rA l (a + 1) = rB l a (mx (rA l a) 0) a := rfl
  have h3 := j2N (l := l) (o := mx (rA l a) 0) hb hne
  omega
 rcases Nat.lt_or_gt_of_ne (fun e : a = b => hne (by rw [e])) with h | h
 ·exact key b a hb h (Ne.symm hne)
 ·exact key a b ha h hne
theorem j2O {l : List Tr} {a b c n : Nat} {o : Int} (hc : c < n) (hne : tac (gt l a) (gt l b) (gt l c) ≠ tz) : 2 ≤ rC l a b o n := by
 have up : ∀ m, c + 1 ≤ m → rC l a b o (c + 1) ≤ rC l a b o m := by
  intro m
  induction m with
  |zero => intro h; omega
  |succ m ih =>
   intro h
   by_cases e : c + 1 = m + 1
   ·rw [e]; exact Int.le_refl _
   ·have h1 := ih xO
    have h2 : rC l a b o m ≤ rC l a b o (m + 1) := by
     show rC l a b o m ≤ (if tac (gt l a) (gt l b) (gt l m) = tz then rC l a b o m else mx (rC l a b o m) 2)
     split
     ·exact Int.le_refl _
     ·unfold mx; split <;> omega
    omega
 have h1 := up n xO
 have h2 : rC l a b o (c + 1) = mx (rC l a b o c) 2 := by
  show (if tac (gt l a) (gt l b) (gt l c) = tz then rC l a b o c else mx (rC l a b o c) 2) = _
  rw [if_neg hne]
 unfold mx at h2; split at h2 <;> omega
theorem w1B (a c : Tr) : tac a a c = tz := by simp only [tac, j0D, tcr, tz, Tr.mk.injEq]; refine ⟨?_, ?_, ?_⟩ <;> grind
theorem k1r {l : List Tr} (h : J0c l) : rA l l.length = 2 := by
 obtain ⟨a, b, c, ha, hb, hc, hn⟩ := h
 obtain ⟨i, j, k, hi, hj, hk, hn⟩ := Z0b (P := fun a b c => tac (gt l a) (gt l b) (gt l c) ≠ tz) (fun a b c h => by rw [K1n]; exact q0I h) (fun a b c h => by rw [w1A]; exact q0I h) (fun a b h => h (w1B _ _)) ha hb hc hn
 have hne : gt l i ≠ gt l j := fun e => hn (by rw [e]; exact w1B _ _)
 have h1 := Y0R l (show i + 1 ≤ l.length by omega)
 have h2 : rA l (i + 1) = rB l i (mx (rA l i) 0) i := rfl
 have h3 := v1L l i (mx (rA l i) 0) (show j + 1 ≤ i by omega)
 have h4 : rB l i (mx (rA l i) 0) (j + 1) = rC l i j (mx (rB l i (mx (rA l i) 0) j) 1) j := by
  show (if gt l i = gt l j then _ else rC l i j _ j) = _
  rw [if_neg hne]
 have h5 := j2O (l := l) (o := mx (rB l i (mx (rA l i) 0) j) 1) hk hn
 have h6 := V1N l l.length
 omega
theorem V1O {l : List Tr} (h : rA l l.length = 2) : J0c l := by
 refine Classical.byContradiction fun hno => ?_
 have hall : ∀ a b c, a < l.length → b < l.length → c < l.length → tac (gt l a) (gt l b) (gt l c) = tz := fun a b c ha hb hc => Classical.byContradiction fun h => hno ⟨a, b, c, ha, hb, hc, h⟩
 have hC : ∀ a b, a < l.length → b < l.length → ∀ (o : Int), ∀ c, c ≤ l.length → rC l a b o c = o := fun a b ha hb o c => by
  induction c with
  |zero => intro _; rfl
  |succ c ih =>
   intro hc
   show (if tac (gt l a) (gt l b) (gt l c) = tz then rC l a b o c else mx (rC l a b o c) 2) = o
   rw [if_pos (hall a b c ha hb (by omega)), ih (by omega)]
 have hB : ∀ a, a < l.length → ∀ (o : Int), o ≤ 1 → ∀ b, b ≤ l.length → rB l a o b ≤ 1 := fun a ha o ho b => by
  induction b with
  |zero => intro _; exact ho
  |succ b ih =>
   intro hb
   have := ih xO
   show (if gt l a = gt l b then rB l a o b else rC l a b (mx (rB l a o b) 1) b) ≤ 1
   split
   ·exact this
   ·rw [hC a b ha (by omega) _ b (by omega)]
    unfold mx; split <;> omega
 have hA : ∀ a, a ≤ l.length → rA l a ≤ 1 := fun a => by
  induction a with
  |zero => intro _; show (-1 : Int) ≤ 1; omega
  |succ a ih =>
   intro ha
   have := ih xO
   exact hB a xO _ (by unfold mx; split <;> omega) a xO
 have := hA l.length (Nat.le_refl _)
 omega
theorem V1C {l : List Tr} (hS : Sol l) {m : Tr} (h : MinD l m) : Two l m := Classical.byContradiction fun hno => by
 obtain ⟨e, he, hw, _⟩ := Y0H hS h.1 hno
 have := h.2 e he
 unfold wLT at hw; unfold wLE at this; omega
theorem K0v {A B x y : Int} (hx : 0 < x) (hy : 0 < y) : (A : Rat) / (x : Rat) < (B : Rat) / (y : Rat) ↔ A * y < B * x := by
 have px : (0 : Rat) < (x : Rat) := by exact_mod_cast hx
 have py : (0 : Rat) < (y : Rat) := by exact_mod_cast hy
 rw [Rat.div_lt_iff px]
 have e : (B : Rat) / (y : Rat) * (x : Rat) = ((B * x : Int) : Rat) / (y : Rat) := by
  rw [Rat.intCast_mul, Rat.div_def, Rat.div_def]; grind
 rw [e, Rat.lt_div_iff py, ← Rat.intCast_mul]
 exact Rat.intCast_lt_intCast
def Wq (l : List Tr) (d : Tr) : Rat := ((wdt l d * wdt l d : Int) : Rat) / ((j0c d d : Int) : Rat)
theorem X1g {l m : List Tr} {d e : Tr} (hd : d ≠ tz) (he : e ≠ tz) : Wq l d < Wq m e ↔ wdt l d * wdt l d * j0c e e < wdt m e * wdt m e * j0c d d := K0v (q0p hd) (q0p he)
theorem x1q {l m : List Tr} {d e : Tr} (hd : d ≠ tz) (he : e ≠ tz) : Wq l d ≤ Wq m e ↔ wdt l d * wdt l d * j0c e e ≤ wdt m e * wdt m e * j0c d d := by
 have := X1g (l := m) (m := l) he hd
 constructor
 ·intro h
  rcases (by omega : wdt l d * wdt l d * j0c e e ≤ wdt m e * wdt m e * j0c d d ∨ wdt m e * wdt m e * j0c d d < wdt l d * wdt l d * j0c e e) with q | q
  ·exact q
  ·have := this.2 q; grind
 ·intro h
  have h2 : ¬ Wq m e < Wq l d := fun q => by have := this.1 q; omega
  grind
theorem Q1k {l m : List Tr} {d e : Tr} (hd : d ≠ tz) (he : e ≠ tz) : Wq l d = Wq m e ↔ wdt l d * wdt l d * j0c e e = wdt m e * wdt m e * j0c d d := by
 have a := x1q (l := l) (m := m) hd he
 have b := x1q (l := m) (m := l) he hd
 constructor
 ·intro h
  have h1 := a.1 (by rw [h]; grind)
  have h2 := b.1 (by rw [h]; grind)
  omega
 ·intro h
  have h1 := a.2 xO
  have h2 := b.2 xO
  grind
theorem X1m {l : List Tr} {d e : Tr} (hd : d ≠ tz) (he : e ≠ tz) : bef l d e ↔ Wq l d < Wq l e ∨ (Wq l d = Wq l e ∧ y0s d e) := by
 rw [X1g hd he, Q1k hd he]
 unfold bef wLT wLE
 constructor
 ·rintro (h | ⟨h1, h2, h3⟩)
  ·exact .inl h
  ·exact .inr ⟨by omega, h3⟩
 ·rintro (h | ⟨h1, h3⟩)
  ·exact .inl h
  ·exact .inr ⟨by omega, by omega, h3⟩
theorem MinD.le {l : List Tr} {m d : Tr} (h : MinD l m) (hd : d ≠ tz) : Wq l m ≤ Wq l d := (x1q h.1 hd).2 (h.2 d hd)
theorem k1A {l : List Tr} (h0 : 0 < l.length) (b : Tr) {m m' : Tr} (h : MinD l m) (h' : MinD (l.map (Y0g b)) m') : Wq l m = Wq (l.map (Y0g b)) m' := (Q1k h.1 h'.1).2 (y1v h0 b h h')
theorem k1z {l : List Tr} (h0 : 0 < l.length) {p m m' : Tr} (h : MinD l m) (h' : MinD (l ++ [p]) m') : Wq l m ≤ Wq (l ++ [p]) m' := (x1q h.1 h'.1).2 (k0x h0 h h')
theorem j2g {l : List Tr} (h0 : 0 < l.length) {p m m' : Tr} (h : MinD l m) (h' : MinD (l ++ [p]) m') (h1 : loD l m ≤ j0c m p) (h2 : j0c m p ≤ hiD l m) : Wq l m = Wq (l ++ [p]) m' := (Q1k h.1 h'.1).2 (Y1I h0 h h' h1 h2)
theorem k1y {l : List Tr} (h0 : 0 < l.length) {k : Int} (hk : 0 < k) {m m' : Tr} (h : MinD l m) (h' : MinD (l.map fun p => j0N p k) m') : Wq (l.map fun p => j0N p k) m' = ((k * k : Int) : Rat) * Wq l m := by
 have e := y1u h0 hk h h'
 have px : (0 : Rat) < ((j0c m m : Int) : Rat) := by exact_mod_cast q0p h.1
 have py : (0 : Rat) < ((j0c m' m' : Int) : Rat) := by exact_mod_cast q0p h'.1
 unfold Wq
 have c := congrArg (fun z : Int => (z : Rat)) e
 simp only [Rat.intCast_mul] at c ⊢
 rw [Rat.div_def, Rat.div_def]
 have i1 := Rat.mul_inv_cancel _ (show ((j0c m m : Int) : Rat) ≠ 0 by grind)
 have i2 := Rat.mul_inv_cancel _ (show ((j0c m' m' : Int) : Rat) ≠ 0 by grind)
 generalize ((j0c m m : Int) : Rat) = x at *
 generalize ((j0c m' m' : Int) : Rat) = y at *
 generalize x⁻¹ = x' at *
 generalize y⁻¹ = y' at *
 grind
theorem Q1l {l : List Tr} {m : Tr} (hw : J0c l) (h : MinD l m) : Wq l m = 0 ↔ ¬ Sol l := by
 have h0 : 0 < l.length := by obtain ⟨a, _, _, ha, _⟩ := hw; omega
 have px : (0 : Rat) < ((j0c m m : Int) : Rat) := by exact_mod_cast q0p h.1
 constructor
 ·intro e hS
  have hp := w1Z hS h.1
  have h1 : (0 : Rat) < ((wdt l m * wdt l m : Int) : Rat) := by exact_mod_cast Int.mul_pos hp hp
  unfold Wq at e
  have h2 := congrArg (· * ((j0c m m : Int) : Rat)) e
  simp only [Rat.div_def, Rat.zero_mul] at h2
  rw [Rat.mul_assoc, Rat.mul_comm (((j0c m m : Int) : Rat)⁻¹), Rat.mul_inv_cancel _ (by grind), Rat.mul_one] at h2
  grind
 ·intro hS
  obtain ⟨a, b, c, ha, hb, hc, hn⟩ := hw
  have hx : q0R (tcr (dv l a b) (dv l a c)) ∈ j0T (w0l l) := x0D ha hb ha hc hn
  obtain ⟨_, hz⟩ := flat_gap hS ha hb hc hn _ hx
  have h1 := h.2 _ (v0O _ hx)
  unfold wLE at h1
  rw [hz] at h1
  have h2 := z0P (wdt l m)
  have h3 := q0p (v0O _ hx)
  have h4 : wdt l m * wdt l m = 0 := by
   rcases (by omega : wdt l m * wdt l m = 0 ∨ 0 < wdt l m * wdt l m) with q | q
   ·exact q
   ·have := Int.mul_pos q h3
    simp only [Int.zero_mul] at h1
    omega
  unfold Wq
  rw [h4]
  simp [Rat.div_def]
end Go.Proofs.YtgblokifbgeegaaGreatDoor.H.S
namespace Go.Proofs.YtgblokifbgeegaaGreatDoor.H.S
open Go Go.Vc Go.RowKit Go.Na Go.Lib
set_option maxHeartbeats 8000000
theorem vRI (n : Int) : vR ((n : Int) : Rat) = vI n := by rw [vR, Q0y]
theorem K1e (q : Rat) : decide (rtx q = [48]) = decide (q = 0) := by
 rw [Bool.eq_iff_iff, decide_eq_true_eq, decide_eq_true_eq]
 constructor
 ·intro h; exact v1Y (h.trans rtx_0.symm)
 ·intro h; rw [h, rtx_0]
theorem j2s (n p m q : Int) (hn : LI 400 n) (hp : LI 400 p) (hm : LI 400 m) (hq : LI 400 q) : CtrH Tryz.prog 89 [.own 1000 0, .av (vI n), .av (vI p), .av (vI m), .av (vI q)] [(1000, E0)] (.av (j0r [vI (n * q), vI (p * m)])) [(1000, E0)] := by
 have b := fun (x y : Int) (hx : LI 400 x) (hy : LI 400 y) => (by have h := LI.mul hx hy; exact h : LI 800 (x * y))
 have M := fun (x : Int) (h : LI 400 x) => (h.mono xE : LI 1000 x)
 have c1 := z0W n q (M _ hn) (M _ hq) ((b _ _ hn hq).mono xE)
 have c3 := z0W p m (M _ hp) (M _ hm) ((b _ _ hp hm).mono xE)
 refine z0S _ Tryz.func89 rfl rfl Tryz.ntmps89 rfl rfl fun w Z ν => ?_
 refine xU ?_
 refine wl ?_
 refine j0l (v0W rfl rfl) rfl ?_
 refine wl ?_
 refine j0u (j0h [] c1 rfl ⟨rfl, trivial⟩ rfl) rfl ?_
 refine wl ?_
 refine j0l (v0W rfl rfl) rfl ?_
 refine wl ?_
 refine j0u (j0h [] c3 rfl ⟨rfl, trivial⟩ rfl) rfl ?_
 refine wl ?_
 exact j0W (T' := [(10, .av (vI (n * q))), (11, .av (vI (p * m)))]) (O' := [(1000, E0)]) (ent xS xT) (J0z (rvs := [_, _]) (τs := [_, _]) rfl rfl rfl ⟨.tmp rfl, .tmp rfl, trivial⟩ rfl)
theorem Y1O {r : Rat} (h : r ≠ 0) : r.num ≠ 0 := fun e => h (Rat.num_eq_zero.1 e)
theorem V1Q (q r : Rat) (hq : LR 400 q) (hr : LR 400 r) (h0 : r ≠ 0) : CtrA Tryz.prog 51 [vR q, vR r] (j0r [vR (q / r), vi 0]) := by
 have hdn : (q.den : Int) * r.num ≠ 0 := Int.mul_ne_zero (by have := q.den_pos; omega) (Y1O h0)
 have h := k0v 89 q r (q.num * r.den) (q.den * r.num) (hq.mono xE) (hr.mono xE) (li4 hq.1 hr.2) (li4 hq.2 hr.1) hdn (j2s q.num q.den r.num r.den hq.1 hq.2 hr.1 hr.2)
 rw [← div_eq] at h
 have h1 := J0H q r (hq.mono xE) (hr.mono xE)
 have hz : (rtx r == [48]) = false := by rw [beq_eq_false_iff_ne]; exact fun e => h0 (v1Y (e.trans rtx_0.symm))
 refine j0n _ Tryz.func51 rfl rfl Tryz.ntmps51 rfl fun w Z => ?_
 refine xU ?_
 refine wl ?_
 refine j0l (q1K rfl rfl) rfl ?_
 refine wl ?_
 rw [hz]
 refine wl ?_
 exact xW
abbrev I64 (n : Int) : Prop := -9223372036854775808 ≤ n ∧ n ≤ 9223372036854775807
structure I64T (d : Tr) : Prop where
 x : I64 d.x
 y : I64 d.y
 z : I64 d.z
theorem I64.li {n : Int} (h : I64 n) : LI 19 n := (show n.natAbs < 10 ^ 19 by omega)
theorem LR.ofI {k : Nat} {n : Int} (h : LI k n) (hk : 0 < k) : LR k ((n : Int) : Rat) := LR.int h hk
theorem q1W (m n : Int) (hm : LI 300 m) (hn : LI 300 n) : CtrA Tryz.prog 49 [vI m, vI n] (j0r [vI (m * n), vi 0]) := by
 have h := V1R (m : Rat) (n : Rat) (LR.ofI (hm.mono xE) xE) (LR.ofI (hn.mono xE) xE)
 rw [← Rat.intCast_mul, vRI, vRI, vRI] at h
 exact h
theorem z1N (m n : Int) (hm : LI 300 m) (hn : LI 300 n) : CtrA Tryz.prog 71 [vI m, vI n] (j0r [vI (m + n), vi 0]) := by
 have h := V1P (m : Rat) (n : Rat) (LR.ofI (hm.mono xE) xE) (LR.ofI (hn.mono xE) xE)
 rw [← Rat.intCast_add, vRI, vRI, vRI] at h
 exact h
theorem Y1r (m n : Int) (hm : LI 300 m) (hn : LI 300 n) : CtrA Tryz.prog 47 [vI m, vI n] (j0r [vI (m - n), vi 0]) := by
 have h := V1S (m : Rat) (n : Rat) (LR.ofI (hm.mono xE) xE) (LR.ofI (hn.mono xE) xE)
 rw [← Rat.intCast_sub, vRI, vRI, vRI] at h
 exact h
theorem x1X {T : Tab} {O : Go.Vc.Own} {n m : Nat} {f f' : Nat → AV} (k : Nat) (hT : T.get k = .av (.ptr n f)) (hm : m ≤ n) (hf : ∀ i, i < m → f i = f' i) : Ent T O ((k, .av (.ptr m f')) :: T) O := by
 rintro E a w ⟨Z, ν, h⟩
 refine ⟨Z, ν, h.defers, h.tsize, h.cst, h.pin, h.base, h.own, fun q => ?_⟩
 by_cases hq : k = q
 ·subst hq
  rw [Tab.get_cons_eq]
  have hs := h.slot k
  rw [hT] at hs
  obtain ⟨b, o, e1, e2, e3, e4⟩ := hs
  exact ⟨b, o, e1, fun h0 => e2 (by omega), e3, fun i hi => by rw [← hf i hi]; exact e4 i (by omega)⟩
 ·rw [Tab.get_cons_ne _ _ hq]
  exact h.slot q
abbrev zA (d : Tr) (a b : Int) : AV := .val (.agg #[.int .i64 d.x, .int .i64 d.y, .int .i64 d.z, .int .i64 a, .int .i64 b])
theorem Z0u (p d : Tr) {A B : Int} (h1 : BT A p) (h2 : BT B d) (hab : A * B ≤ 1000000000000000000) : CtrA Tryz.prog 58 [tp p, tp d] (vi (j0c d p)) := by
 rw [q0m]
 refine j0n _ Tryz.func58 rfl rfl Tryz.ntmps58 rfl fun w Z => ?_
 obtain ⟨m1, n1⟩ := j0O h1.x h2.x
 obtain ⟨m2, n2⟩ := j0O h1.y h2.y
 obtain ⟨m3, n3⟩ := j0O h1.z h2.z
 refine xU ?_
 refine wt ?_
 exact xV
theorem Q1c (l : List Tr) (d : Tr) {B : Int} (hl : RT l) (h0 : 0 < l.length) (hln : l.length ≤ 1000) (hd : BT B d) (hB : 100000 * B ≤ 1000000000000000000) : CtrA Tryz.prog 69 [ts l, tp d] (zA d (loD l d) (hiD l d)) := by
 refine j0n _ Tryz.func69 rfl rfl Tryz.ntmps69 rfl fun w Z => ?_
 refine xU ?_
 have hq1 := Z0u (gt l 0) d (hl 0) hd hB
 refine wt ?_
 refine j0f (γ := Nat) (fun k => [(3, .av (bt d)), (4, .own 10 0), (5, .own 11 0), (20, .av (ts l)), (21, .av (vi l.length)), (22, .av (vi k))]) (fun k => [(10, .cells [.av (vi 0), .av (vi 0), .av (vi 0), .av (vi 0), .av (vi 0)]), (11, .cells [.av (vi d.x), .av (vi d.y), .av (vi d.z), .av (vi (loZ l d k)), .av (vi (hiZ l d k))])]) (fun k => k ≤ l.length) (fun k => l.length - k) 0 (Nat.zero_le _) (ent xS xT) ?_
 intro k hk
 refine wt ?_
 (refine j0a rfl ?_ ?_ <;> intro hb <;> (try simp only [xA, xB, xG, xC, xD, xN] at hb) <;> (try exact xQ))
 ·have hkl : k < l.length := by omega
  have hq2 := Z0u (gt l k) d (hl k) hd hB
  refine wt ?_
  exact j0b (k + 1) xO xO (ent xS xT)
 ·have hkl : k = l.length := by omega
  subst hkl
  refine wt ?_
  exact j0e rfl (.agg (us := [_, _, _, _, _]) rfl rfl rfl rfl) rfl
def zE (d : Tr) (a b : Int) : Int := if d = tz then 10 else if b < a then 9 else 0
theorem K0l (d : Tr) (a b : Int) : CtrA Tryz.prog 46 [zA d a b] (vi (zE d a b)) := by
 refine j0n _ Tryz.func46 rfl rfl Tryz.ntmps46 rfl fun w Z => ?_
 unfold zE
 refine xU ?_
 refine wt ?_
 rw [j1c]
 by_cases hz : d = tz
 ·rw [if_pos hz, decide_eq_true hz]
  refine wt ?_
  exact xV
 ·rw [if_neg hz, decide_eq_false hz]
  refine wt ?_
  (refine j0a rfl ?_ ?_ <;> intro hb <;> (try simp only [xA, xB, xG, xC, xD, xN] at hb) <;> (try exact xQ))
  ·rw [if_pos (by omega)]
   refine wt ?_
   exact xV
  ·rw [if_neg (by omega)]
   refine wt ?_
   exact xV
def W1j (f : Nat → Int) : Nat → Int
 |0 => 0
 |k + 1 => W1j f k + f k * f k
theorem Z0h {f : Nat → Int} (h : ∀ i, i < 3 → LI 19 (f i)) : ∀ k, k ≤ 3 → LI (39 + k) (W1j f k)
 |0, _ => LI.small (m := 0) xE xE
 |k + 1, hk => ((Z0h h k xO)).add (((h k xO).mul (h k xO)).mono xO)
theorem j2b : vI 0 = vS [48] := congrArg vS itoa_zero
theorem W1w (f : Nat → Int) (h : ∀ i, i < 3 → I64 (f i)) : CtrA Tryz.prog 50 [.sl 3 1 (fun i _ => vi (f i))] (j0r [vI (W1j f 3), vi 0]) := by
 have hs := Z0h (f := f) (fun i hi => (h i hi).li)
 refine j0n _ Tryz.func50 rfl rfl Tryz.ntmps50 rfl fun w Z => ?_
 refine xU ?_
 refine wt ?_
 refine j0f (γ := Nat) (fun k => [(4, .av (vI (W1j f k))), (9, .av (.sl 3 1 (fun i _ => vi (f i)))), (10, .av (vi 3)), (11, .av (vi k))]) (fun k => []) (fun k => k ≤ 3) (fun k => 3 - k) 0 (Nat.zero_le _) (ent ⟨by show SLe (.av (vS [48])) (.av (vI 0)); rw [j2b]; exact .refl _, .refl _, .refl _, .refl _, trivial⟩ trivial) ?_
 intro k hk
 refine wt ?_
 (refine j0a rfl ?_ ?_ <;> intro hb <;> (try simp only [xA, xB, xG, xC, xD, xN] at hb) <;> (try exact xQ))
 ·have hkl : k < 3 := by omega
  have hf := (h k hkl).li
  have h1 := v0A (f k) (h k hkl)
  have h2 := q1W (f k) (f k) (hf.mono xE) (hf.mono xE)
  have h3 := z1N (W1j f k) (f k * f k) ((hs k hk).mono xO) ((hf.mul hf).mono xE)
  refine wt ?_
  exact j0b (k + 1) xO xO (ent xS trivial)
 ·obtain rfl : k = 3 := by omega
  refine wt ?_
  exact xW
def trF (d : Tr) (i : Nat) : Int := if i = 0 then d.x else if i = 1 then d.y else d.z
theorem w1x (d : Tr) : W1j (trF d) 3 = j0c d d := by simp [W1j, trF, j0c]
def zQ (d : Tr) (a b : Int) : Rat := (((b - a) * (b - a) : Int) : Rat) / ((j0c d d : Int) : Rat)
def zT (d : Tr) (a b : Int) : List UInt8 := if zE d a b = 0 then rtx (zQ d a b) else []
theorem w1G {d : Tr} (h : I64T d) : LI 42 (j0c d d) := by
 have hs := Z0h (f := trF d) (fun i hi => by
  unfold trF
  split
  ·exact h.x.li
  ·split
   ·exact h.y.li
   ·exact h.z.li) 3 (Nat.le_refl _)
 rw [w1x] at hs
 exact hs
theorem nnQ {d : Tr} (h : d ≠ tz) : ((j0c d d : Int) : Rat) ≠ 0 := fun e => by
 have := q0p h
 have : j0c d d = 0 := Rat.intCast_inj.1 (by rw [e]; rfl)
 omega
theorem k0X (d : Tr) (a b : Int) (hd : I64T d) (ha : I64 a) (hb' : I64 b) : CtrA Tryz.prog 14 [zA d a b] (j0r [vS (zT d a b), vi (zE d a b)]) := by
 refine j0n _ Tryz.func14 rfl rfl Tryz.ntmps14 rfl fun w Z => ?_
 have h0 := K0l d a b
 have hT : zT d a b = if zE d a b = 0 then rtx (zQ d a b) else [] := rfl
 have hE : zE d a b = if d = tz then 10 else if b < a then 9 else 0 := rfl
 generalize zT d a b = t at hT ⊢
 generalize zE d a b = e at h0 hT hE ⊢
 refine xU ?_
 refine wt ?_
 (refine j0a rfl ?_ ?_ <;> intro hb <;> (try simp only [xA, xB, xG, xC, xD, xN] at hb) <;> (try exact xQ))
 ·rw [if_neg hb] at hT
  subst hT
  refine wt ?_
  exact xW
 ·rw [if_pos hb] at hT
  subst hT
  have hz : d ≠ tz := fun h => by rw [if_pos h] at hE; omega
  subst hb
  have l1 : LI 20 (b - a) := hb'.li.sub ha.li
  have h1 := v0A b hb'
  have h2 := v0A a ha
  have h3 := Y1r b a (hb'.li.mono xE) (ha.li.mono xE)
  have h4 := q1W (b - a) (b - a) (l1.mono xE) (l1.mono xE)
  have h5 := W1w (trF d) (fun i hi => by
   unfold trF
   split
   ·exact hd.x
   ·split
    ·exact hd.y
    ·exact hd.z)
  rw [w1x] at h5
  have h6 := V1Q (((b - a) * (b - a) : Int) : Rat) ((j0c d d : Int) : Rat) (LR.ofI ((l1.mul l1).mono xE) xE) (LR.ofI ((w1G hd).mono xE) xE) (nnQ hz)
  rw [vRI, vRI] at h6
  have hptr : ∀ i, i < 3 → (fun j => AV.val ([Go.Value.int .i64 d.x, .int .i64 d.y, .int .i64 d.z, .int .i64 a, .int .i64 b].getD (0 + j) Go.undef)) i = (fun i => vi (trF d i)) i := fun i hi => by
   rcases (by omega : i = 0 ∨ i = 1 ∨ i = 2) with rfl | rfl | rfl <;> rfl
  refine wt ?_
  refine v0Z (x1X (m := 3) 37 rfl (show 3 ≤ 5 by decide) hptr) ?_
  refine j0l (v0V (n := 3) rfl xE xE) rfl ?_
  refine wt ?_
  exact xW
end Go.Proofs.YtgblokifbgeegaaGreatDoor.H.S
