/- A part of the proof that the law returns true at every input and that the input reads behind the call as it read before; this part states nothing of its own that needs a condition of the input. -/
import Derived.Test.YtdoppiajbpmmkaaGreatKf
import Derived.Test.YtdoppiajbpmmkaaGreatGa
set_option linter.unusedVariables false
set_option linter.unusedSimpArgs false
set_option linter.unnecessarySimpa false
namespace Go.Proofs.YtdoppiajbpmmkaaGreat
open Go Go.Vc Go.RowKit
set_option maxHeartbeats 1000000
/-! Points of dimension 3: planes are turned about their points until they are facets. -/
def dv (l : List Tr) (v i : Nat) : Tr := tsub (gt l i) (gt l v)
def lc (a b : Int) (u v : Tr) : Tr := ⟨a * u.x + b * v.x, a * u.y + b * v.y, a * u.z + b * v.z⟩
theorem lc_dot (a b : Int) (u v p : Tr) : tdot (lc a b u v) p = a * tdot u p + b * tdot v p := by simp only [lc, tdot]; grind
theorem dot_lc (a b : Int) (u v p : Tr) : tdot p (lc a b u v) = a * tdot p u + b * tdot p v := by simp only [lc, tdot]; grind
theorem dv_z {l : List Tr} {v i : Nat} (h : dv l v i = tz) : gt l i = gt l v := tsub_z h
theorem dv_ne {l : List Tr} {v i : Nat} (h : gt l i ≠ gt l v) : dv l v i ≠ tz := fun e => h (dv_z e)
theorem dv_dot (n : Tr) (l : List Tr) (v i : Nat) : tdot n (dv l v i) = tdot n (gt l i) - tdot n (gt l v) := by simp only [dv, tdot, tsub]; grind
theorem sq_nn' (a : Int) : 0 ≤ a * a := by
  rcases (by omega : 0 ≤ a ∨ a ≤ 0) with h | h
  · exact Int.mul_nonneg h h
  · exact Int.mul_nonneg_of_nonpos_of_nonpos h h
theorem sq_p' {a : Int} (h : a ≠ 0) : 0 < a * a := by
  rcases (by omega : 0 < a ∨ a < 0) with h | h
  · exact Int.mul_pos h h
  · exact Int.mul_pos_of_neg_of_neg h h
theorem nn_pos {n : Tr} (h : n ≠ tz) : 0 < tdot n n := by
  have h1 := sq_nn' n.x; have h2 := sq_nn' n.y; have h3 := sq_nn' n.z
  unfold tdot
  rcases tr_ne h with h | h | h
  · have := sq_p' h; omega
  · have := sq_p' h; omega
  · have := sq_p' h; omega
theorem tdot_comm (a b : Tr) : tdot a b = tdot b a := by unfold tdot; grind
/-- What is parallel and orthogonal to a vector is 0. -/
theorem par_perp {d w : Tr} (hd : d ≠ tz) (h1 : tcr d w = tz) (h2 : tdot d w = 0) : w = tz := by
  have h3 : tdot w w = 0 := par_f hd h1 (by rw [tdot_comm]; exact h2)
  refine Classical.byContradiction fun h => ?_
  have := nn_pos h
  omega
theorem tcr_perp (d a b : Tr) (h1 : tdot d a = 0) (h2 : tdot d b = 0) : tcr d (tcr a b) = tz := by
  simp only [tdot] at h1 h2
  simp only [tcr, tz, Tr.mk.injEq]; refine ⟨?_, ?_, ?_⟩ <;> grind
theorem det_perp {d a b : Tr} (hd : d ≠ tz) (h1 : tdot d a = 0) (h2 : tdot d b = 0) (h : det d a b = 0) : tcr a b = tz := by
  refine par_perp hd (tcr_perp d a b h1 h2) ?_
  have e : tdot d (tcr a b) = det d a b := by simp only [det, tdot, tcr]; grind
  rw [e, h]
/-- Among the points behind a plane there is one by which the plane is turned least. -/
theorem wrapj {l : List Tr} {v : Nat} {n c : Tr} (hn : ∀ i, i < l.length → tdot n (dv l v i) ≤ 0) (hc : ∀ i, i < l.length → tdot n (dv l v i) = 0 → tdot c (dv l v i) ≤ 0) (hj : ∃ j, j < l.length ∧ tdot n (dv l v j) < 0) :
    ∃ j, j < l.length ∧ tdot n (dv l v j) < 0 ∧ ∀ i, i < l.length → tdot c (dv l v j) * tdot n (dv l v i) - tdot n (dv l v j) * tdot c (dv l v i) ≤ 0 := by
  obtain ⟨j, h1, h2, h3⟩ := tot_min (P := fun i => i < l.length ∧ tdot n (dv l v i) < 0) (R := fun j i => tdot c (dv l v j) * tdot n (dv l v i) - tdot n (dv l v j) * tdot c (dv l v i) ≤ 0)
    (fun i j _ _ => by
      generalize tdot n (dv l v i) = A; generalize tdot n (dv l v j) = B; generalize tdot c (dv l v i) = C; generalize tdot c (dv l v j) = D
      have : C * B - A * D = -(D * A - B * C) := by grind
      omega) (fun i j k hi hj hk h1 h2 => by
      have p1 := hi.2; have p2 := hj.2; have p3 := hk.2
      generalize tdot n (dv l v i) = A at *; generalize tdot n (dv l v j) = B at *; generalize tdot n (dv l v k) = C at *
      generalize tdot c (dv l v i) = X at *; generalize tdot c (dv l v j) = Y at *; generalize tdot c (dv l v k) = Z at *
      have e : (-B) * (-(X * C - A * Z)) = (-C) * (-(X * B - A * Y)) + (-A) * (-(Y * C - B * Z)) := by grind
      have q1 := Int.mul_nonneg (show 0 ≤ -C by omega) (show 0 ≤ -(X * B - A * Y) by omega)
      have q2 := Int.mul_nonneg (show 0 ≤ -A by omega) (show 0 ≤ -(Y * C - B * Z) by omega)
      have := le_of_mul (a := -B) (b := -(X * C - A * Z)) (by omega) (by omega)
      omega) l.length (by obtain ⟨j, a, b⟩ := hj; exact ⟨j, a, a, b⟩)
  refine ⟨j, h1, h2.2, fun i hi => ?_⟩
  rcases (by have := hn i hi; omega : tdot n (dv l v i) < 0 ∨ tdot n (dv l v i) = 0) with h | h
  · exact h3 i hi ⟨hi, h⟩
  · rw [h, Int.mul_zero]
    have a := hc i hi h
    have := Int.mul_nonneg_of_nonpos_of_nonpos (Int.le_of_lt h2.2) a
    omega
/-- A plane with all points on its inner side, and three that are not collinear on it, belongs to a facet. -/
theorem facet_of {l : List Tr} (hS : Sol l) {v p q : Nat} (hv : v < l.length) (hp : p < l.length) (hq : q < l.length) {g : Tr} (hg : ∀ i, i < l.length → tdot g (dv l v i) ≤ 0) (h0 : g ≠ tz) (gp : tdot g (dv l v p) = 0) (gq : tdot g (dv l v q) = 0) (hn : tcr (dv l v p) (dv l v q) ≠ tz) :
    ∃ f, f ∈ facetsL l ∧ v ∈ f.s ∧ (∃ a b : Int, 0 < a ∧ 0 < b ∧ ∀ z, a * tdot g z = b * tdot f.n z) := by
  obtain ⟨i, hi, hne⟩ := off_plane hS h0 (tdot g (gt l v))
  have hneg : tdot g (dv l v i) < 0 := by have := hg i hi; rw [dv_dot] at *; omega
  have main : ∀ p q, p < l.length → q < l.length → tdot g (dv l v p) = 0 → tdot g (dv l v q) = 0 → tcr (dv l v p) (dv l v q) ≠ tz → det (dv l v p) (dv l v q) (dv l v i) < 0 → ∃ f, f ∈ facetsL l ∧ v ∈ f.s ∧ (∃ a b : Int, 0 < a ∧ 0 < b ∧ ∀ z, a * tdot g z = b * tdot f.n z) := by
    intro p q hp hq gp gq hn hd
    have ht : tac (gt l v) (gt l p) (gt l q) = tcr (dv l v p) (dv l v q) := rfl
    have hn' : tac (gt l v) (gt l p) (gt l q) ≠ tz := by rw [ht]; exact hn
    obtain ⟨k, hk, hkd⟩ := tpr_dot hn'
    have hr : ∀ z, (-(det (dv l v p) (dv l v q) (dv l v i))) * tdot g z = (-(tdot g (dv l v i)) * k) * tdot (tpr (tac (gt l v) (gt l p) (gt l q))) z := fun z => by
      have e := det_f g (dv l v p) (dv l v q) z (dv l v i) gp gq
      have e2 := hkd z
      rw [show tdot (tac (gt l v) (gt l p) (gt l q)) z = det (dv l v p) (dv l v q) z from rfl] at e2
      rw [Int.mul_assoc, ← e2]
      have : tdot g z * det (dv l v p) (dv l v q) (dv l v i) = tdot g (dv l v i) * det (dv l v p) (dv l v q) z := by
        have := det_f g (dv l v p) (dv l v q) z (dv l v i) gp gq
        grind
      grind
    have hb : 0 < -(tdot g (dv l v i)) * k := Int.mul_pos (by omega) hk
    have hle : ∀ j, j < l.length → tdot (tpr (tac (gt l v) (gt l p) (gt l q))) (gt l j) ≤ tdot (tpr (tac (gt l v) (gt l p) (gt l q))) (gt l v) := fun j hj => by
      have e := hr (dv l v j)
      have h1 := Int.mul_nonpos_of_nonneg_of_nonpos (show 0 ≤ -(det (dv l v p) (dv l v q) (dv l v i)) by omega) (hg j hj)
      rw [e] at h1
      have h2 := le_of_mul (b := - tdot (tpr (tac (gt l v) (gt l p) (gt l q))) (dv l v j)) hb (by rw [Int.mul_neg]; omega)
      rw [dv_dot] at h2
      omega
    refine ⟨⟨tpr (tac (gt l v) (gt l p) (gt l q)), tdot (tpr (tac (gt l v) (gt l p) (gt l q))) (gt l v), onTo l (tpr (tac (gt l v) (gt l p) (gt l q))) (tdot (tpr (tac (gt l v) (gt l p) (gt l q))) (gt l v)) l.length⟩, (facets_iff hS _).2 ⟨⟨hle, rfl, v, hv, rfl⟩, v, p, q, ⟨hv, hp, hq, hn', rfl, hle⟩⟩, onTo_mem.2 ⟨hv, rfl⟩, _, _, ?_, hb, hr⟩
    omega
  have hd0 : det (dv l v p) (dv l v q) (dv l v i) ≠ 0 := fun e => by
    obtain ⟨j, hj, hjn⟩ := off_plane hS hn (tdot (tcr (dv l v p) (dv l v q)) (gt l v))
    have h1 := det_f g (dv l v p) (dv l v q) (dv l v i) (dv l v j) gp gq
    rw [e, Int.mul_zero] at h1
    have h2 : det (dv l v p) (dv l v q) (dv l v j) ≠ 0 := fun e2 => hjn (by
      unfold det at e2
      rw [dv_dot] at e2
      omega)
    rcases Int.mul_eq_zero.1 h1 with h | h
    · omega
    · exact h2 h
  rcases (by omega : det (dv l v p) (dv l v q) (dv l v i) < 0 ∨ 0 < det (dv l v p) (dv l v q) (dv l v i)) with h | h
  · exact main p q hp hq gp gq hn h
  · have e1 : tcr (dv l v q) (dv l v p) = tmul (tcr (dv l v p) (dv l v q)) (-1) := by
      simp only [tcr, tmul, Tr.mk.injEq]; refine ⟨?_, ?_, ?_⟩ <;> grind
    have e2 : det (dv l v q) (dv l v p) (dv l v i) = - det (dv l v p) (dv l v q) (dv l v i) := by simp only [det, tdot, tcr]; grind
    exact main q p hq hp gq gp (by rw [e1]; exact tmul_ne hn) (by omega)
end Go.Proofs.YtdoppiajbpmmkaaGreat
namespace Go.Proofs.YtdoppiajbpmmkaaGreat
open Go Go.Vc Go.RowKit
set_option maxHeartbeats 1000000
/-! The polygon of a facet: its corners and their neighbours. -/
theorem ax_at {n : Tr} (h : n ≠ tz) : gz (tl n) (axN n) ≠ 0 := by
  obtain ⟨h1, h2⟩ := ax_of h
  intro e
  unfold axI ixB at h1
  cases hf : (List.range (tl n).length).find? (fun k => decide (gz (tl n) k ≠ 0)) with
  | none => rw [hf] at h1; simp at h1
  | some j =>
    have hj := List.find?_some hf
    rw [hf] at h1
    have h1 : j = axN n := by simp only at h1; omega
    rw [h1] at hj
    simp [e] at hj
/-- The sign with which the shadow along a normal keeps turns. -/
def sgS (n : Tr) : Int := if axN n = 0 then n.x else if axN n = 1 then -n.y else n.z
theorem sgS_ne {n : Tr} (h : n ≠ tz) : sgS n ≠ 0 := by
  have h1 := ax_at h
  have h2 := (ax_of h).2
  unfold sgS
  rcases (by omega : axN n = 0 ∨ axN n = 1 ∨ axN n = 2) with e | e | e
  · rw [e] at h1 ⊢; simpa [tl, gz] using h1
  · rw [e] at h1 ⊢; simpa [tl, gz] using h1
  · rw [e] at h1 ⊢; simpa [tl, gz] using h1
theorem shp_crs {n p q r : Tr} (h : n ≠ tz) (hq : tdot n (tsub q p) = 0) (hr : tdot n (tsub r p) = 0) : crs (shp (axN n) p) (shp (axN n) q) (shp (axN n) r) * tdot n n = sgS n * det n (tsub q p) (tsub r p) := by
  have h2 := (ax_of h).2
  unfold sgS
  have e0 : ∀ u : Tr, shp 0 u = ⟨u.y, u.z⟩ := fun u => rfl
  have e1 : ∀ u : Tr, shp 1 u = ⟨u.x, u.z⟩ := fun u => rfl
  have e2 : ∀ u : Tr, shp 2 u = ⟨u.x, u.y⟩ := fun u => rfl
  rcases (by omega : axN n = 0 ∨ axN n = 1 ∨ axN n = 2) with e | e | e
  · rw [e]; simp only [e0, crs, trn, sub, tdot, det, tcr, tsub, if_true] at *; grind
  · rw [e]; simp only [e1, crs, trn, sub, tdot, det, tcr, tsub, show ¬ (1 : Nat) = 0 by decide, if_false, if_true] at *; grind
  · rw [e]; simp only [e2, crs, trn, sub, tdot, det, tcr, tsub, show ¬ (2 : Nat) = 0 by decide, show ¬ (2 : Nat) = 1 by decide, if_false] at *; grind
theorem shp_inj {n p q : Tr} (h : n ≠ tz) (hq : tdot n (tsub q p) = 0) (e : shp (axN n) p = shp (axN n) q) : p = q := by
  have h2 := (ax_of h).2
  have h3 := ax_at h
  have e0 : ∀ u : Tr, shp 0 u = ⟨u.y, u.z⟩ := fun u => rfl
  have e1 : ∀ u : Tr, shp 1 u = ⟨u.x, u.z⟩ := fun u => rfl
  have e2 : ∀ u : Tr, shp 2 u = ⟨u.x, u.y⟩ := fun u => rfl
  have key : ∀ a b : Int, a ≠ 0 → a * b = 0 → b = 0 := fun a b ha hab => mul_z ha hab
  rcases (by omega : axN n = 0 ∨ axN n = 1 ∨ axN n = 2) with e' | e' | e' <;> rw [e'] at e h3
  · simp only [e0, Pt.mk.injEq] at e
    have h3 : n.x ≠ 0 := h3
    simp only [tdot, tsub] at hq
    obtain ⟨a, b⟩ := e
    have := key n.x (q.x - p.x) h3 (by grind)
    exact tr_ext (by omega) a b
  · simp only [e1, Pt.mk.injEq] at e
    have h3 : n.y ≠ 0 := h3
    simp only [tdot, tsub] at hq
    obtain ⟨a, b⟩ := e
    have := key n.y (q.y - p.y) h3 (by grind)
    exact tr_ext a (by omega) b
  · simp only [e2, Pt.mk.injEq] at e
    have h3 : n.z ≠ 0 := h3
    simp only [tdot, tsub] at hq
    obtain ⟨a, b⟩ := e
    have := key n.z (q.z - p.z) h3 (by grind)
    exact tr_ext a b (by omega)
theorem sgn_tr {X D nn sg : Int} (h : X * nn = sg * D) (hn : 0 < nn) (hs : 0 < sg) : (0 ≤ X ↔ 0 ≤ D) ∧ (0 < X ↔ 0 < D) ∧ (X = 0 ↔ D = 0) ∧ (X ≤ 0 ↔ D ≤ 0) := by
  have key : (0 < X → 0 < D) ∧ (X < 0 → D < 0) ∧ (0 < D → 0 < X) ∧ (D < 0 → X < 0) := by
    refine ⟨fun hx => ?_, fun hx => ?_, fun hx => ?_, fun hx => ?_⟩
    · have := Int.mul_pos hx hn
      rcases (by omega : D ≤ 0 ∨ 0 < D) with h1 | h1
      · have := Int.mul_nonpos_of_nonneg_of_nonpos (Int.le_of_lt hs) h1; omega
      · exact h1
    · have := Int.mul_neg_of_neg_of_pos hx hn
      rcases (by omega : 0 ≤ D ∨ D < 0) with h1 | h1
      · have := Int.mul_nonneg (Int.le_of_lt hs) h1; omega
      · exact h1
    · have := Int.mul_pos hs hx
      rcases (by omega : X ≤ 0 ∨ 0 < X) with h1 | h1
      · have := Int.mul_nonpos_of_nonpos_of_nonneg h1 (Int.le_of_lt hn); omega
      · exact h1
    · have := Int.mul_neg_of_pos_of_neg hs hx
      rcases (by omega : 0 ≤ X ∨ X < 0) with h1 | h1
      · have := Int.mul_nonneg h1 (Int.le_of_lt hn); omega
      · exact h1
  obtain ⟨k1, k2, k3, k4⟩ := key
  have a : ∀ Y : Int, Y < 0 ∨ Y = 0 ∨ 0 < Y := fun Y => by omega
  rcases a X with hx | hx | hx
  · have := k2 hx; omega
  · rcases a D with hd | hd | hd
    · have := k4 hd; omega
    · omega
    · have := k3 hd; omega
  · have := k1 hx; omega
/-! In the plane: three corners at least. -/
theorem arr_two_vtx {l : List Pt} (h : chk l = 0) (h0 : 0 < l.length) {i j : Nat} (hi : i < l.length) (hj : j < l.length) (hne : gp l i ≠ gp l j) : 2 ≤ (arr l).length := by
  have hS := s_ok h h0
  have H := hull_ok h h0
  rcases Nat.lt_or_ge (cpt l (ordN l)).length 2 with h2 | h2
  · exfalso
    obtain ⟨x, hx, ex, _⟩ := hS.cover i hi
    obtain ⟨y, hy, ey, _⟩ := hS.cover j hj
    match hc : cpt l (ordN l), h2, hx, hy with
    | [s], _, hx, hy =>
      simp at hx hy
      subst hx; subst hy
      exact hne (ex.symm.trans ey)
    | [], _, hx, _ => simp at hx
  · obtain ⟨p0, pm, hp, hm, T⟩ := two_of hS.sm hS.inc h2
    have m0 : p0 ∈ arr l := (H.mem p0 (hS.lt _ T.mem0)).2 (hS.vtx_of T.mem0 T.sup0)
    have mm : pm ∈ arr l := (H.mem pm (hS.lt _ T.memM)).2 (hS.vtx_of T.memM T.supM)
    have hd : p0 ≠ pm := fun e => by
      match hc : cpt l (ordN l), h2, hp, hm, hS.inc with
      | a :: b :: r, _, hp, hm, hi =>
        simp at hp
        subst hp
        have : pm ∈ b :: r := by
          rw [List.getLast?_cons_cons] at hm
          exact List.mem_of_getLast? hm
        have := (List.pairwise_cons.1 hi).1 pm this
        rw [e, lf_self] at this
        omega
    match hA : arr l, m0, mm with
    | [], m0, _ => simp at m0
    | [s], m0, mm => simp at m0 mm; exact absurd (m0.trans mm.symm) hd
    | _ :: _ :: _, _, _ => simp
theorem crs_zero {a b c p q : Pt} (h : p ≠ q) (ha : crs p q a = 0) (hb : crs p q b = 0) (hc : crs p q c = 0) : crs a b c = 0 := by
  have key : q.x - p.x ≠ 0 ∨ q.y - p.y ≠ 0 := by
    by_cases hx : q.x - p.x = 0
    · right
      intro hy
      exact h (by cases p; cases q; simp only [Pt.mk.injEq] at *; omega)
    · exact .inl hx
  simp only [crs, trn, sub] at *
  rcases key with k | k
  · refine mul_z k ?_; grind
  · refine mul_z k ?_; grind
theorem arr_three {l : List Pt} (h : chk l = 0) {i j k : Nat} (hi : i < l.length) (hj : j < l.length) (hk : k < l.length) (hne : crs (gp l i) (gp l j) (gp l k) ≠ 0) : 3 ≤ (arr l).length := by
  have h0 : 0 < l.length := by omega
  have H := hull_ok h h0
  have h2 := arr_two_vtx h h0 hi hj (fun e => hne (by rw [e, crs_same]))
  rcases (by omega : (arr l).length = 2 ∨ 3 ≤ (arr l).length) with e | e
  · exfalso
    have e1 := H.edge (by omega) 0 (by omega)
    have e2 := H.edge (by omega) 1 (by omega)
    rw [e] at e1 e2
    simp only [show (0 + 1) % 2 = 1 from rfl, show (1 + 1) % 2 = 0 from rfl] at e1 e2
    have hz : ∀ p, p < l.length → crs (gp l (gi (arr l) 0)) (gp l (gi (arr l) 1)) (gp l p) = 0 := fun p hp => by
      have a := e1 p hp
      have b := e2 p hp
      rw [crs_flip] at b
      omega
    have hd : gp l (gi (arr l) 0) ≠ gp l (gi (arr l) 1) := vtx_ne (H.vtx (by omega)) (H.vtx (by omega)) (H.ne (by omega) (by omega) (by decide))
    exact hne (crs_zero hd (hz i hi) (hz j hj) (hz k hk))
  · exact e
/-! A facet and its shadow. -/
structure FX (l : List Tr) (f : Fc) : Prop where
  hl : RT l
  h6 : l.length ≤ 6
  isF : IsF l f
  n0 : f.n ≠ tz
  tri : ∃ a b c, a ∈ f.s ∧ b ∈ f.s ∧ c ∈ f.s ∧ tac (gt l a) (gt l b) (gt l c) ≠ tz
theorem FX.of {l : List Tr} (hl : RT l) (h6 : l.length ≤ 6) (hS : Sol l) {f : Fc} (hf : f ∈ facetsL l) : FX l f := by
  obtain ⟨h1, a, b, c, h2⟩ := (facets_iff hS f).1 hf
  refine ⟨hl, h6, h1, h2.nz, a, b, c, ?_, ?_, ?_, h2.ne⟩
  · rw [h1.s, onTo_mem]; refine ⟨h2.ha, ?_⟩
    obtain ⟨k, hk, e⟩ := h1.at_
    have := h1.le a h2.ha
    have := h2.le k hk
    omega
  · rw [h1.s, onTo_mem]; refine ⟨h2.hb, ?_⟩
    obtain ⟨k, hk, e⟩ := h1.at_
    have := h1.le a h2.ha
    have := h2.le k hk
    have := h2.at1
    omega
  · rw [h1.s, onTo_mem]; refine ⟨h2.hc, ?_⟩
    obtain ⟨k, hk, e⟩ := h1.at_
    have := h1.le a h2.ha
    have := h2.le k hk
    have := h2.at2
    omega
abbrev shF2 (l : List Tr) (f : Fc) : List Pt := shN (f.s.map (gt l)) f.n
def vfN (l : List Tr) (f : Fc) : List Nat := (cornF l f).map (gi f.s)
section
variable {l : List Tr} {f : Fc}
theorem FX.ms (h : FX l f) {i : Nat} : i ∈ f.s ↔ i < l.length ∧ tdot f.n (gt l i) = f.m := by rw [h.isF.s, onTo_mem]
theorem FX.d0 (h : FX l f) {v i : Nat} (hv : v ∈ f.s) (hi : i ∈ f.s) : tdot f.n (dv l v i) = 0 := by
  rw [dv_dot, (h.ms.1 hi).2, (h.ms.1 hv).2]; omega
theorem FX.le (h : FX l f) {v i : Nat} (hv : v ∈ f.s) (hi : i < l.length) : tdot f.n (dv l v i) ≤ 0 := by
  rw [dv_dot, (h.ms.1 hv).2]; have := h.isF.le i hi; omega
theorem FX.on (h : FX l f) {v i : Nat} (hv : v ∈ f.s) (hi : i < l.length) (e : tdot f.n (dv l v i) = 0) : i ∈ f.s := by
  rw [dv_dot, (h.ms.1 hv).2] at e; exact h.ms.2 ⟨hi, by omega⟩
theorem FX.sl (h : FX l f) : f.s.length ≤ 6 := by
  rw [h.isF.s]
  have := List.length_filter_le (fun i => decide (tdot f.n (gt l i) = f.m)) (List.range l.length)
  rw [List.length_range] at this
  have := h.h6
  unfold onTo; omega
theorem FX.asc (h : FX l f) : f.s.Pairwise (· < ·) := by
  rw [h.isF.s]; unfold onTo
  exact List.Pairwise.filter _ (List.pairwise_lt_range)
theorem FX.mono (h : FX l f) {a b : Nat} (ha : a < f.s.length) (hb : b < f.s.length) : gi f.s a < gi f.s b ↔ a < b := by
  have hp := List.pairwise_iff_getElem.1 h.asc
  rw [gi_eq ha, gi_eq hb]
  constructor
  · intro hlt
    rcases (by omega : a < b ∨ a = b ∨ b < a) with e | e | e
    · exact e
    · subst e; omega
    · have := hp b a hb ha e; omega
  · exact hp a b ha hb
theorem FX.pos (h : FX l f) : 0 < f.s.length := (fac_s h.isF).1
theorem FX.len (f : Fc) (l : List Tr) : (shF2 l f).length = f.s.length := by unfold shF2; rw [shN_len, List.length_map]
theorem FX.gpk (l : List Tr) {f : Fc} {k : Nat} (hk : k < f.s.length) : gp (shF2 l f) k = shp (axN f.n) (gt l (gi f.s k)) := by
  rw [gp_eq (by rw [FX.len]; exact hk)]
  unfold shF2 shN
  rw [gi_eq hk]
  simp
theorem FX.ix (h : FX l f) {i : Nat} (hi : i ∈ f.s) : ∃ k, k < f.s.length ∧ gi f.s k = i := by
  obtain ⟨k, hk, e⟩ := List.getElem_of_mem hi
  exact ⟨k, hk, by rw [gi_eq hk, e]⟩
theorem FX.chk0 (h : FX l f) : chk (shF2 l f) = 0 := by
  have := sh_err (h.hl.pick f.s) h.n0 (by rw [List.length_map]; exact h.pos) (by rw [List.length_map]; exact h.sl)
  unfold errH at this
  by_cases e : chk (shF2 l f) = 0
  · exact e
  · rw [if_pos e] at this; exact this
theorem FX.corn (h : FX l f) : cornF l f = arr (shF2 l f) := by
  unfold cornF hullN
  rw [if_pos (sh_err (h.hl.pick f.s) h.n0 (by rw [List.length_map]; exact h.pos) (by rw [List.length_map]; exact h.sl))]
theorem FX.ok (h : FX l f) : HullOk (shF2 l f) (cornF l f) := by
  rw [h.corn]; exact hull_ok h.chk0 (by rw [FX.len]; exact h.pos)
theorem FX.sm (h : FX l f) : ∀ i, SmP (gp (shF2 l f) i) := chk_sm h.chk0
theorem FX.crsk (h : FX l f) {i j k : Nat} (hi : i < f.s.length) (hj : j < f.s.length) (hk : k < f.s.length) : crs (gp (shF2 l f) i) (gp (shF2 l f) j) (gp (shF2 l f) k) * tdot f.n f.n = sgS f.n * det f.n (dv l (gi f.s i) (gi f.s j)) (dv l (gi f.s i) (gi f.s k)) := by
  rw [FX.gpk l hi, FX.gpk l hj, FX.gpk l hk]
  exact shp_crs h.n0 (h.d0 (gi_mem hi) (gi_mem hj)) (h.d0 (gi_mem hi) (gi_mem hk))
theorem FX.three (h : FX l f) : 3 ≤ (cornF l f).length := by
  obtain ⟨a, b, c, ha, hb, hc, hn⟩ := h.tri
  obtain ⟨i, hi, rfl⟩ := h.ix ha
  obtain ⟨j, hj, rfl⟩ := h.ix hb
  obtain ⟨k, hk, rfl⟩ := h.ix hc
  rw [h.corn]
  refine arr_three h.chk0 (i := i) (j := j) (k := k) (by rw [FX.len]; exact hi) (by rw [FX.len]; exact hj) (by rw [FX.len]; exact hk) fun e => hn ?_
  have hc := h.crsk hi hj hk
  rw [e, Int.zero_mul] at hc
  have hd : det f.n (dv l (gi f.s i) (gi f.s j)) (dv l (gi f.s i) (gi f.s k)) = 0 := mul_z (sgS_ne h.n0) hc.symm
  exact det_perp h.n0 (h.d0 (gi_mem hi) (gi_mem hj)) (h.d0 (gi_mem hi) (gi_mem hk)) hd
theorem mem_vfN (i : Nat) : i ∈ vfN l f ↔ ∃ k, k < (cornF l f).length ∧ gi f.s (gi (cornF l f) k) = i := by
  unfold vfN
  rw [List.mem_map]
  constructor
  · rintro ⟨x, hx, e⟩
    obtain ⟨k, hk, ek⟩ := List.getElem_of_mem hx
    exact ⟨k, hk, by rw [gi_eq hk, ek]; exact e⟩
  · rintro ⟨k, hk, e⟩
    exact ⟨_, gi_mem hk, e⟩
theorem FX.vs (h : FX l f) {i : Nat} (hi : i ∈ vfN l f) : i ∈ f.s := by
  obtain ⟨k, hk, rfl⟩ := (mem_vfN i).1 hi
  exact gi_mem (by have := h.ok.lt k hk; rwa [FX.len] at this)
/-- The two neighbours of a corner in a facet. -/
structure Nb (l : List Tr) (f : Fc) (v u w : Nat) : Prop where
  mv : v ∈ vfN l f
  mu : u ∈ vfN l f
  mw : w ∈ vfN l f
  pu : ∀ x ∈ f.s, 0 ≤ det f.n (dv l v u) (dv l v x)
  pw : ∀ x ∈ f.s, det f.n (dv l v w) (dv l v x) ≤ 0
  st : 0 < det f.n (dv l v u) (dv l v w)
  eu : ∀ x ∈ vfN l f, det f.n (dv l v u) (dv l v x) = 0 → x = v ∨ x = u
  ew : ∀ x ∈ vfN l f, det f.n (dv l v w) (dv l v x) = 0 → x = v ∨ x = w
theorem FX.nb (h : FX l f) {v : Nat} (hv : v ∈ vfN l f) : ∃ u w, Nb l f v u w := by
  have H := h.ok
  have h3 := h.three
  have sm := h.sm
  have hlt : ∀ k, k < (cornF l f).length → gi (cornF l f) k < f.s.length := fun k hk => by have := H.lt k hk; rwa [FX.len] at this
  obtain ⟨k, hk, rfl⟩ := (mem_vfN v).1 hv
  generalize hC : cornF l f = C at *
  have hK : (k + 1) % C.length < C.length := Nat.mod_lt _ (by omega)
  obtain ⟨P, hP, eP⟩ : ∃ P, P < C.length ∧ (P + 1) % C.length = k := by
    by_cases h0 : k = 0
    · exact ⟨C.length - 1, by omega, by rw [show C.length - 1 + 1 = C.length by omega, Nat.mod_self, h0]⟩
    · exact ⟨k - 1, by omega, by rw [show k - 1 + 1 = k by omega, Nat.mod_eq_of_lt hk]⟩
  have hPk : P ≠ k := fun e => by
    subst e
    by_cases hk1 : P + 1 < C.length
    · rw [Nat.mod_eq_of_lt hk1] at eP; omega
    · have : P + 1 = C.length := by omega
      rw [this, Nat.mod_self] at eP; omega
  have hPK : P ≠ (k + 1) % C.length := fun e => by
    by_cases hk1 : k + 1 < C.length
    · rw [Nat.mod_eq_of_lt hk1] at e
      subst e
      by_cases hk2 : k + 1 + 1 < C.length
      · rw [Nat.mod_eq_of_lt hk2] at eP; omega
      · have : k + 1 + 1 = C.length := by omega
        rw [this, Nat.mod_self] at eP; omega
    · have : k + 1 = C.length := by omega
      rw [this, Nat.mod_self] at e
      subst e
      rw [Nat.mod_eq_of_lt (by omega)] at eP; omega
  have mK : gi f.s (gi C ((k + 1) % C.length)) ∈ vfN l f := (mem_vfN _).2 ⟨_, by rw [hC]; exact hK, by rw [hC]⟩
  have mP : gi f.s (gi C P) ∈ vfN l f := (mem_vfN _).2 ⟨P, by rw [hC]; exact hP, by rw [hC]⟩
  have c1 := fun {x} (hx : x < f.s.length) => h.crsk (hlt k hk) (hlt _ hK) hx
  have c2 := fun {x} (hx : x < f.s.length) => h.crsk (hlt k hk) (hlt _ hP) hx
  have q1 : ∀ x, x < f.s.length → 0 ≤ crs (gp (shF2 l f) (gi C k)) (gp (shF2 l f) (gi C ((k + 1) % C.length))) (gp (shF2 l f) x) := fun x hx => H.edge (by omega) k hk x (by rw [FX.len]; exact hx)
  have q2 : ∀ x, x < f.s.length → crs (gp (shF2 l f) (gi C k)) (gp (shF2 l f) (gi C P)) (gp (shF2 l f) x) ≤ 0 := fun x hx => by
    have := H.edge (by omega) P hP x (by rw [FX.len]; exact hx)
    rw [eP, crs_flip] at this
    omega
  have q3 := H.strict sm hk hP hPk hPK (by omega)
  have q4 : ∀ j, j < C.length → crs (gp (shF2 l f) (gi C k)) (gp (shF2 l f) (gi C ((k + 1) % C.length))) (gp (shF2 l f) (gi C j)) = 0 → j = k ∨ j = (k + 1) % C.length := fun j hj e => by
    refine Classical.byContradiction fun hno => ?_
    have := H.strict sm hk hj (fun e => hno (.inl e)) (fun e => hno (.inr e)) (by omega)
    omega
  have q5 : ∀ j, j < C.length → crs (gp (shF2 l f) (gi C k)) (gp (shF2 l f) (gi C P)) (gp (shF2 l f) (gi C j)) = 0 → j = k ∨ j = P := fun j hj e => by
    refine Classical.byContradiction fun hno => ?_
    have := H.strict sm hP hj (fun e => hno (.inr e)) (fun e => hno (.inl (e.trans eP))) (by omega)
    rw [eP, crs_flip] at this
    omega
  have hnn := nn_pos h.n0
  rcases (by have := sgS_ne h.n0; omega : 0 < sgS f.n ∨ sgS f.n < 0) with hs | hs
  · refine ⟨_, _, hv, mK, mP, fun x hx => ?_, fun x hx => ?_, ?_, fun x hx e => ?_, fun x hx e => ?_⟩
    · obtain ⟨i, hi, rfl⟩ := h.ix hx
      exact (sgn_tr (c1 hi) hnn hs).1.1 (q1 i hi)
    · obtain ⟨i, hi, rfl⟩ := h.ix hx
      exact (sgn_tr (c2 hi) hnn hs).2.2.2.1 (q2 i hi)
    · exact (sgn_tr (c1 (hlt P hP)) hnn hs).2.1.1 q3
    · obtain ⟨j, hj, rfl⟩ := (mem_vfN x).1 hx
      rw [hC] at hj e ⊢
      rcases q4 j hj ((sgn_tr (c1 (hlt j hj)) hnn hs).2.2.1.2 e) with e | e
      · exact .inl (by rw [e])
      · exact .inr (by rw [e])
    · obtain ⟨j, hj, rfl⟩ := (mem_vfN x).1 hx
      rw [hC] at hj e ⊢
      rcases q5 j hj ((sgn_tr (c2 (hlt j hj)) hnn hs).2.2.1.2 e) with e | e
      · exact .inl (by rw [e])
      · exact .inr (by rw [e])
  · have neg : ∀ {X D : Int}, X * tdot f.n f.n = sgS f.n * D → (0 ≤ X ↔ 0 ≤ -D) ∧ (0 < X ↔ 0 < -D) ∧ (X = 0 ↔ -D = 0) ∧ (X ≤ 0 ↔ -D ≤ 0) := fun {X D} e => sgn_tr (sg := - sgS f.n) (by rw [e, Int.neg_mul_neg]) hnn (by omega)
    refine ⟨_, _, hv, mP, mK, fun x hx => ?_, fun x hx => ?_, ?_, fun x hx e => ?_, fun x hx e => ?_⟩
    · obtain ⟨i, hi, rfl⟩ := h.ix hx
      have := (neg (c2 hi)).2.2.2.1 (q2 i hi); omega
    · obtain ⟨i, hi, rfl⟩ := h.ix hx
      have := (neg (c1 hi)).1.1 (q1 i hi); omega
    · have := (neg (c1 (hlt P hP))).2.1.1 q3
      have e : det f.n (dv l (gi f.s (gi C k)) (gi f.s (gi C P))) (dv l (gi f.s (gi C k)) (gi f.s (gi C ((k + 1) % C.length)))) = - det f.n (dv l (gi f.s (gi C k)) (gi f.s (gi C ((k + 1) % C.length)))) (dv l (gi f.s (gi C k)) (gi f.s (gi C P))) := det_an _ _ _
      omega
    · obtain ⟨j, hj, rfl⟩ := (mem_vfN x).1 hx
      rw [hC] at hj e ⊢
      rcases q5 j hj ((neg (c2 (hlt j hj))).2.2.1.2 (by omega)) with e | e
      · exact .inl (by rw [e])
      · exact .inr (by rw [e])
    · obtain ⟨j, hj, rfl⟩ := (mem_vfN x).1 hx
      rw [hC] at hj e ⊢
      rcases q4 j hj ((neg (c1 (hlt j hj))).2.2.1.2 (by omega)) with e | e
      · exact .inl (by rw [e])
      · exact .inr (by rw [e])
end
end Go.Proofs.YtdoppiajbpmmkaaGreat
namespace Go.Proofs.YtdoppiajbpmmkaaGreat
open Go Go.Vc Go.RowKit
set_option maxHeartbeats 1000000
/-! Facets at a corner: neighbours, second facets, vertices. -/
theorem tg_tmul (a : Tr) (k : Int) : tg (tmul a k) = k.natAbs * tg a := by
  unfold tg tmul
  simp only [Int.natAbs_mul]
  rw [← Nat.gcd_mul_left, ← Nat.gcd_mul_left, ← Nat.gcd_mul_left, Nat.mul_zero]
theorem tg_tpr {v : Tr} (h : v ≠ tz) : tg (tpr v) = 1 := by
  have hg := tg_pos h
  have e : v = tmul (tpr v) (tg v) := by
    obtain ⟨d1, d2, d3⟩ := tg_dvd v
    have key : ∀ n : Int, tg v ∣ n.natAbs → n = (tg v : Int) * n.tdiv (tg v) := fun n hd => by
      have : ((tg v : Nat) : Int) ∣ n := Int.ofNat_dvd_left.2 hd
      rw [Int.mul_tdiv_cancel' this]
    unfold tpr tmul
    rw [if_neg hg]
    exact tr_ext (key _ d1) (key _ d2) (key _ d3)
  have e2 := congrArg tg e
  rw [tg_tmul, Int.natAbs_natCast] at e2
  have : tg v * tg (tpr v) = tg v * 1 := by omega
  exact Nat.eq_of_mul_eq_mul_left (by omega) this
theorem cr_dot {a b : Tr} (h : tcr a b = tz) (w : Tr) : a.x * tdot w b = b.x * tdot w a ∧ a.y * tdot w b = b.y * tdot w a ∧ a.z * tdot w b = b.z * tdot w a := by
  simp only [tcr, tz, Tr.mk.injEq] at h
  simp only [tdot]
  refine ⟨?_, ?_, ?_⟩ <;> grind
theorem tcr_anz {a b : Tr} (h : tcr a b = tz) : tcr b a = tz := by
  simp only [tcr, tz, Tr.mk.injEq] at h ⊢
  refine ⟨?_, ?_, ?_⟩ <;> grind
theorem perp2_par {e y n m : Tr} (h : tcr e y ≠ tz) (h1 : tdot n e = 0) (h2 : tdot n y = 0) (h3 : tdot m e = 0) (h4 : tdot m y = 0) : tcr n m = tz := by
  refine Classical.byContradiction fun hne => h ?_
  have a := tcr_perp e n m (by rw [tdot_comm]; exact h1) (by rw [tdot_comm]; exact h3)
  have b := tcr_perp y n m (by rw [tdot_comm]; exact h2) (by rw [tdot_comm]; exact h4)
  exact cr_par hne (tcr_anz a) (tcr_anz b)
section
variable {l : List Tr}
theorem fac_tg (hS : Sol l) {f : Fc} (hf : f ∈ facetsL l) : tg f.n = 1 := by
  obtain ⟨_, a, b, c, h⟩ := (facets_iff hS f).1 hf
  rw [h.ev]; exact tg_tpr h.ne
theorem fac_off (hl : RT l) (h6 : l.length ≤ 6) (hS : Sol l) {f : Fc} (hf : f ∈ facetsL l) {v : Nat} (hv : v ∈ f.s) : ∃ i, i < l.length ∧ tdot f.n (dv l v i) < 0 := by
  have F := FX.of hl h6 hS hf
  obtain ⟨i, hi, hne⟩ := off_plane hS F.n0 f.m
  refine ⟨i, hi, ?_⟩
  rw [dv_dot, (F.ms.1 hv).2]
  have := F.isF.le i hi
  omega
/-- Facets with parallel normals and a point in common are the same. -/
theorem fac_same (hl : RT l) (h6 : l.length ≤ 6) (hS : Sol l) {f g : Fc} (hf : f ∈ facetsL l) (hg : g ∈ facetsL l) {v : Nat} (vf : v ∈ f.s) (vg : v ∈ g.s) (h : tcr f.n g.n = tz) : f = g := by
  have F := FX.of hl h6 hS hf
  have G := FX.of hl h6 hS hg
  obtain ⟨i, hi, hn⟩ := fac_off hl h6 hS hf vf
  have hgle := G.le vg hi
  have hg0 : tdot g.n (dv l v i) ≠ 0 := fun e => by
    have hgf : tcr g.n f.n = tz := tcr_anz h
    have := par_f (F := dv l v i) G.n0 hgf (by rw [tdot_comm]; exact e)
    rw [tdot_comm] at this; omega
  obtain ⟨e1, e2, e3⟩ := cr_dot h (dv l v i)
  rw [tdot_comm (dv l v i) f.n, tdot_comm (dv l v i) g.n] at e1 e2 e3
  have t1 := fac_tg hS hf
  have t2 := fac_tg hS hg
  have eq : tmul f.n (tdot g.n (dv l v i)) = tmul g.n (tdot f.n (dv l v i)) := by
    unfold tmul
    exact tr_ext (by simp only; rw [Int.mul_comm, e1, Int.mul_comm]) (by simp only; rw [Int.mul_comm, e2, Int.mul_comm]) (by simp only; rw [Int.mul_comm, e3, Int.mul_comm])
  have e4 := congrArg tg eq
  rw [tg_tmul, tg_tmul, t1, t2] at e4
  have e5 : tdot g.n (dv l v i) = tdot f.n (dv l v i) := by omega
  rw [e5] at e1 e2 e3
  have hne : tdot f.n (dv l v i) ≠ 0 := by omega
  have en : f.n = g.n := tr_ext (Int.eq_of_mul_eq_mul_right hne e1) (Int.eq_of_mul_eq_mul_right hne e2) (Int.eq_of_mul_eq_mul_right hne e3)
  have em : f.m = g.m := by rw [← (F.ms.1 vf).2, ← (G.ms.1 vg).2, en]
  have es : f.s = g.s := by rw [F.isF.s, G.isF.s, en, em]
  cases f; cases g; simp only at en em es; subst en; subst em; subst es; rfl
/-- Beyond a side of a facet there is another facet. -/
theorem FX.over {f : Fc} (h : FX l f) (hS : Sol l) (hf : f ∈ facetsL l) {v u z : Nat} {c : Tr} (hv : v ∈ f.s) (hu : u ∈ f.s) (hne : gt l u ≠ gt l v) (hcu : tdot c (dv l v u) = 0) (hc : ∀ x ∈ f.s, tdot c (dv l v x) ≤ 0) (hz : z ∈ f.s) (hcz : tdot c (dv l v z) < 0) :
    ∃ g, g ∈ facetsL l ∧ v ∈ g.s ∧ u ∈ g.s ∧ ∀ x ∈ f.s, tdot c (dv l v x) < 0 → tdot g.n (dv l v x) < 0 := by
  obtain ⟨i0, hi0, hn0⟩ := fac_off h.hl h.h6 hS hf hv
  obtain ⟨j, hj, hnj, hall⟩ := wrapj (n := f.n) (c := c) (fun i hi => h.le hv hi) (fun i hi e => hc i (h.on hv hi e)) ⟨i0, hi0, hn0⟩
  have ev : ∀ y, tdot (lc (tdot c (dv l v j)) (-(tdot f.n (dv l v j))) f.n c) y = tdot c (dv l v j) * tdot f.n y - tdot f.n (dv l v j) * tdot c y := fun y => by rw [lc_dot, Int.neg_mul]; omega
  generalize hG : lc (tdot c (dv l v j)) (-(tdot f.n (dv l v j))) f.n c = G at ev
  have hneg : ∀ x ∈ f.s, tdot c (dv l v x) < 0 → tdot G (dv l v x) < 0 := fun x hx hcx => by
    rw [ev, h.d0 hv hx, Int.mul_zero]
    have := Int.mul_pos_of_neg_of_neg hnj hcx
    omega
  have hG0 : G ≠ tz := fun e => by
    have := hneg z hz hcz
    rw [e, tdot_tz] at this; omega
  obtain ⟨hvl, _⟩ := h.ms.1 hv
  obtain ⟨hul, _⟩ := h.ms.1 hu
  obtain ⟨g, hg, hvg, a, b, ha, hb, hab⟩ := facet_of hS hvl hul hj (g := G) (fun i hi => by rw [ev]; exact hall i hi) hG0 (by rw [ev, h.d0 hv hu, hcu]; omega) (by rw [ev, Int.mul_comm]; omega) (fun e => by
    have := par_f (F := f.n) (dv_ne hne) e (h.d0 hv hu)
    omega)
  have GX := FX.of h.hl h.h6 hS hg
  have sg := fun z => sgn_tr (X := tdot G z) (D := tdot g.n z) (nn := a) (sg := b) (by rw [Int.mul_comm]; exact hab z) ha hb
  refine ⟨g, hg, hvg, GX.on hvg hul ((sg _).2.2.1.1 (by rw [ev, h.d0 hv hu, hcu]; omega)), fun x hx hcx => ?_⟩
  have h1 := hneg x hx hcx
  have h2 := (sg (dv l v x)).1.2
  rcases (by omega : 0 ≤ tdot g.n (dv l v x) ∨ tdot g.n (dv l v x) < 0) with h3 | h3
  · have := h2 h3; omega
  · exact h3
theorem Nb.ne_u {f : Fc} {v u w : Nat} (nb : Nb l f v u w) : gt l u ≠ gt l v := fun e => by
  have := nb.st
  unfold dv at this
  rw [e, tsub_s, det_an, det_z] at this; omega
theorem Nb.ne_w {f : Fc} {v u w : Nat} (nb : Nb l f v u w) : gt l w ≠ gt l v := fun e => by
  have := nb.st
  unfold dv at this
  rw [e, tsub_s, det_z] at this; omega
theorem Nb.over_u {f : Fc} (h : FX l f) (hS : Sol l) (hf : f ∈ facetsL l) {v u w : Nat} (nb : Nb l f v u w) : ∃ g, g ∈ facetsL l ∧ v ∈ g.s ∧ u ∈ g.s ∧ tdot g.n (dv l v w) < 0 := by
  have ev : ∀ y, tdot (tmul (tcr f.n (dv l v u)) (-1)) y = - det f.n (dv l v u) y := fun y => tdot_neg _ _
  obtain ⟨g, hg, h1, h2, h3⟩ := h.over hS hf (c := tmul (tcr f.n (dv l v u)) (-1)) (h.vs nb.mv) (h.vs nb.mu) nb.ne_u (by rw [ev, det_same]; rfl) (fun x hx => by rw [ev]; have := nb.pu x hx; omega) (h.vs nb.mw) (by rw [ev]; have := nb.st; omega)
  exact ⟨g, hg, h1, h2, h3 w (h.vs nb.mw) (by rw [ev]; have := nb.st; omega)⟩
theorem Nb.over_w {f : Fc} (h : FX l f) (hS : Sol l) (hf : f ∈ facetsL l) {v u w : Nat} (nb : Nb l f v u w) : ∃ g, g ∈ facetsL l ∧ v ∈ g.s ∧ w ∈ g.s ∧ tdot g.n (dv l v u) < 0 := by
  have ev : ∀ y, tdot (tcr f.n (dv l v w)) y = det f.n (dv l v w) y := fun y => rfl
  have hu : tdot (tcr f.n (dv l v w)) (dv l v u) < 0 := by rw [ev, det_an]; have := nb.st; omega
  obtain ⟨g, hg, h1, h2, h3⟩ := h.over hS hf (c := tcr f.n (dv l v w)) (h.vs nb.mv) (h.vs nb.mw) nb.ne_w (by rw [ev, det_same]) (fun x hx => by rw [ev]; exact nb.pw x hx) (h.vs nb.mu) hu
  exact ⟨g, hg, h1, h2, h3 u (h.vs nb.mu) hu⟩
theorem cramer (n a b y m : Tr) : det n a b * tdot m y = det y a b * tdot m n + det n y b * tdot m a + det n a y * tdot m b := by
  simp only [det, tdot, tcr]; grind
/-- What lies in the plane of a facet is a combination of the ways to the two neighbours. -/
theorem Nb.comb {f : Fc} (h : FX l f) {v u w : Nat} (nb : Nb l f v u w) {y : Tr} (hy : tdot f.n y = 0) (m : Tr) : det f.n (dv l v u) (dv l v w) * tdot m y = (-det f.n (dv l v w) y) * tdot m (dv l v u) + det f.n (dv l v u) y * tdot m (dv l v w) := by
  have e := cramer f.n (dv l v u) (dv l v w) y m
  rw [det_flat h.n0 hy (h.d0 (h.vs nb.mv) (h.vs nb.mu)) (h.d0 (h.vs nb.mv) (h.vs nb.mw)), Int.zero_mul, Int.zero_add, det_an f.n y (dv l v w)] at e
  exact e
theorem Nb.ind {f : Fc} {v u w : Nat} (nb : Nb l f v u w) : tcr (dv l v u) (dv l v w) ≠ tz := fun e => by
  have := nb.st
  have e2 : det f.n (dv l v u) (dv l v w) = tdot f.n (tcr (dv l v u) (dv l v w)) := by simp only [det, tdot, tcr]; grind
  rw [e2, e, tdot_z] at this; omega
theorem nz_sum {a b x y : Int} (ha : 0 ≤ a) (hb : 0 ≤ b) (hx : x ≤ 0) (hy : y ≤ 0) (h : a * x + b * y = 0) : (a = 0 ∨ x = 0) ∧ (b = 0 ∨ y = 0) := by
  have h1 := Int.mul_nonpos_of_nonneg_of_nonpos ha hx
  have h2 := Int.mul_nonpos_of_nonneg_of_nonpos hb hy
  exact ⟨Int.mul_eq_zero.1 (by omega), Int.mul_eq_zero.1 (by omega)⟩
/-- A corner that shares a second facet with another one is its neighbour. -/
theorem Nb.only {f g : Fc} (h : FX l f) (hS : Sol l) (hf : f ∈ facetsL l) (hg : g ∈ facetsL l) (hfg : f ≠ g) {v u w x : Nat} (nb : Nb l f v u w) (hx : x ∈ vfN l f) (hxv : x ≠ v) (vg : v ∈ g.s) (xg : x ∈ g.s) : x = u ∨ x = w := by
  have G := FX.of h.hl h.h6 hS hg
  have e := nb.comb h (h.d0 (h.vs nb.mv) (h.vs hx)) g.n
  rw [G.d0 vg xg, Int.mul_zero] at e
  obtain ⟨hul, _⟩ := h.ms.1 (h.vs nb.mu)
  obtain ⟨hwl, _⟩ := h.ms.1 (h.vs nb.mw)
  obtain ⟨h1, h2⟩ := nz_sum (by have := nb.pw x (h.vs hx); omega) (nb.pu x (h.vs hx)) (G.le vg hul) (G.le vg hwl) e.symm
  by_cases a0 : det f.n (dv l v w) (dv l v x) = 0
  · rcases nb.ew x hx a0 with e | e
    · exact absurd e hxv
    · exact .inr e
  by_cases b0 : det f.n (dv l v u) (dv l v x) = 0
  · rcases nb.eu x hx b0 with e | e
    · exact absurd e hxv
    · exact .inl e
  exfalso
  have gu : tdot g.n (dv l v u) = 0 := by rcases h1 with h1 | h1 <;> omega
  have gw : tdot g.n (dv l v w) = 0 := by rcases h2 with h2 | h2 <;> omega
  exact hfg (fac_same h.hl h.h6 hS hf hg (h.vs nb.mv) vg (perp2_par nb.ind (h.d0 (h.vs nb.mv) (h.vs nb.mu)) (h.d0 (h.vs nb.mv) (h.vs nb.mw)) gu gw))
/-! Vertices: points in front of all others in some direction, the first of their place. -/
structure Vx (l : List Tr) (i : Nat) : Prop where
  lt : i < l.length
  first : ∀ k, k < i → gt l k ≠ gt l i
  ex : ∃ h : Tr, ∀ j, j < l.length → gt l j ≠ gt l i → tdot h (dv l i j) < 0
theorem boundI (f : Nat → Int) : ∀ n, ∃ M : Int, 0 ≤ M ∧ ∀ i, i < n → f i ≤ M
  | 0 => ⟨0, Int.le_refl _, fun i h => by omega⟩
  | n + 1 => by
    obtain ⟨M, h1, h2⟩ := boundI f n
    refine ⟨max M (f n), by omega, fun i hi => ?_⟩
    by_cases e : i = n
    · subst e; omega
    · have := h2 i (by omega); omega
/-- A functional that is in front on a facet is so everywhere, after a turn towards the facet. -/
theorem lift_ex {v : Nat} {n c : Tr} (hn : ∀ i, i < l.length → tdot n (dv l v i) ≤ 0) (hc : ∀ i, i < l.length → tdot n (dv l v i) = 0 → gt l i ≠ gt l v → tdot c (dv l v i) < 0) : ∃ h : Tr, ∀ j, j < l.length → gt l j ≠ gt l v → tdot h (dv l v j) < 0 := by
  obtain ⟨M, hM, hb⟩ := boundI (fun i => tdot c (dv l v i)) l.length
  refine ⟨lc (M + 1) 1 n c, fun j hj hne => ?_⟩
  rw [lc_dot, Int.one_mul]
  rcases (by have := hn j hj; omega : tdot n (dv l v j) = 0 ∨ tdot n (dv l v j) ≤ -1) with h | h
  · rw [h, Int.mul_zero]; have := hc j hj h hne; omega
  · have h1 := Int.mul_le_mul_of_nonneg_left h (show 0 ≤ M + 1 by omega)
    have := hb j hj
    have e : (M + 1) * (-1) = -(M + 1) := by omega
    omega
theorem Nb.front {f : Fc} (h : FX l f) {v u w : Nat} (nb : Nb l f v u w) {x : Nat} (hx : x ∈ f.s) (hne : gt l x ≠ gt l v) : tdot (lc (-1) 1 (tcr f.n (dv l v u)) (tcr f.n (dv l v w))) (dv l v x) < 0 := by
  rw [lc_dot]
  have e1 : tdot (tcr f.n (dv l v u)) (dv l v x) = det f.n (dv l v u) (dv l v x) := rfl
  have e2 : tdot (tcr f.n (dv l v w)) (dv l v x) = det f.n (dv l v w) (dv l v x) := rfl
  rw [e1, e2]
  have h1 := nb.pu x hx
  have h2 := nb.pw x hx
  have h3 : ¬ (det f.n (dv l v u) (dv l v x) = 0 ∧ det f.n (dv l v w) (dv l v x) = 0) := fun ⟨a, b⟩ => by
    have c1 := det_perp h.n0 (h.d0 (h.vs nb.mv) (h.vs nb.mu)) (h.d0 (h.vs nb.mv) hx) a
    have c2 := det_perp h.n0 (h.d0 (h.vs nb.mv) (h.vs nb.mw)) (h.d0 (h.vs nb.mv) hx) b
    exact nb.ind (cr_par (dv_ne hne) (tcr_anz c1) (tcr_anz c2))
  omega
theorem first_of {f : Fc} (h : FX l f) {q : Nat} (hq : q < f.s.length) : (∀ k, k < q → gp (shF2 l f) k ≠ gp (shF2 l f) q) ↔ ∀ k, k < gi f.s q → gt l k ≠ gt l (gi f.s q) := by
  constructor
  · intro hf k hk e
    have hks : k ∈ f.s := h.on (gi_mem hq) (by have := (h.ms.1 (gi_mem hq)).1; omega) (by unfold dv; rw [e, tsub_s, tdot_z])
    obtain ⟨p, hp, rfl⟩ := h.ix hks
    have := (h.mono hp hq).1 hk
    exact hf p this (by rw [FX.gpk l hp, FX.gpk l hq, e])
  · intro hf k hk e
    have hkl : k < f.s.length := by omega
    rw [FX.gpk l hkl, FX.gpk l hq] at e
    exact hf (gi f.s k) ((h.mono hkl hq).2 hk) (shp_inj h.n0 (h.d0 (gi_mem hkl) (gi_mem hq)) e)
theorem sh_lf {n p q h : Tr} (hn : n ≠ tz) (hq : tdot n (tsub q p) = 0) (hh : tdot h (tsub q p) < 0) (hneq : True) : ∃ α β : Int, (∀ a b : Tr, tdot n (tsub b a) = 0 → lf α β (shp (axN n) a) (shp (axN n) b) = (- sgn (gz (tl n) (axN n))) * gz (tl n) (axN n) * tdot h (tsub b a)) := by
  have h2 := (ax_of hn).2
  have e0 : ∀ u : Tr, shp 0 u = ⟨u.y, u.z⟩ := fun u => rfl
  have e1 : ∀ u : Tr, shp 1 u = ⟨u.x, u.z⟩ := fun u => rfl
  have e2 : ∀ u : Tr, shp 2 u = ⟨u.x, u.y⟩ := fun u => rfl
  rcases (by omega : axN n = 0 ∨ axN n = 1 ∨ axN n = 2) with e | e | e <;> rw [e]
  · generalize sgn (gz (tl n) 0) = s
    rw [show gz (tl n) 0 = n.x from rfl]
    refine ⟨-s * (n.x * h.y - h.x * n.y), -s * (n.x * h.z - h.x * n.z), fun a b hab => ?_⟩
    simp only [e0, lf, tdot, tsub] at *; grind
  · generalize sgn (gz (tl n) 1) = s
    rw [show gz (tl n) 1 = n.y from rfl]
    refine ⟨-s * (n.y * h.x - h.y * n.x), -s * (n.y * h.z - h.y * n.z), fun a b hab => ?_⟩
    simp only [e1, lf, tdot, tsub] at *; grind
  · generalize sgn (gz (tl n) 2) = s
    rw [show gz (tl n) 2 = n.z from rfl]
    refine ⟨-s * (n.z * h.x - h.z * n.x), -s * (n.z * h.y - h.z * n.y), fun a b hab => ?_⟩
    simp only [e2, lf, tdot, tsub] at *; grind
theorem sgn_abs {a : Int} (h : a ≠ 0) : 0 < sgn a * a := by
  unfold sgn
  split
  · omega
  · split <;> omega
/-- The corners of a facet are the vertices on it. -/
theorem vfN_iff' {f : Fc} (h : FX l f) (i : Nat) : i ∈ vfN l f ↔ i ∈ f.s ∧ Vx l i := by
  constructor
  · intro hi
    refine ⟨h.vs hi, (h.ms.1 (h.vs hi)).1, ?_, ?_⟩
    · obtain ⟨k, hk, rfl⟩ := (mem_vfN i).1 hi
      have hq : gi (cornF l f) k < f.s.length := by have := h.ok.lt k hk; rwa [FX.len] at this
      exact (first_of h hq).1 (vtx_iff.1 (h.ok.vtx hk)).1
    · obtain ⟨u, w, nb⟩ := h.nb hi
      exact lift_ex (n := f.n) (fun i hi' => h.le (h.vs hi) hi') (fun j hj e hne => nb.front h (h.on (h.vs hi) hj e) hne)
  · rintro ⟨his, hv⟩
    obtain ⟨q, hq, rfl⟩ := h.ix his
    have hql : q < (shF2 l f).length := by rw [FX.len]; exact hq
    have hm : q ∈ cornF l f := (h.ok.mem q hql).2 (by
      rw [vtx_iff]
      refine ⟨(first_of h hq).2 hv.first, ?_⟩
      cases hin : inH (othersOf (shF2 l f) q (shF2 l f).length) (gp (shF2 l f) q) with
      | false => rfl
      | true =>
        exfalso
        obtain ⟨g, hg⟩ := hv.ex
        have hsg := sgn_abs (ax_at h.n0)
        obtain ⟨a, b, c, ha, hb, hc, htri⟩ := h.tri
        have hx : ∃ x ∈ f.s, gt l x ≠ gt l (gi f.s q) := by
          by_cases e : gt l b = gt l (gi f.s q)
          · by_cases e2 : gt l a = gt l (gi f.s q)
            · exfalso; apply htri; unfold tac; rw [e, e2, tsub_s]; simp [tcr, tz]
            · exact ⟨a, ha, e2⟩
          · exact ⟨b, hb, e⟩
        obtain ⟨x, hx, hxne⟩ := hx
        obtain ⟨α, β, hab⟩ := sh_lf (n := f.n) (p := gt l (gi f.s q)) (q := gt l x) (h := g) h.n0 (h.d0 his hx) (hg x (h.ms.1 hx).1 hxne) trivial
        refine inH_core α β hin fun j hj => ?_
        obtain ⟨hp, hne⟩ := othersOf_mem.1 (gp_mem hj)
        obtain ⟨k, hk, e⟩ := List.getElem_of_mem hp
        rw [← gp_eq hk] at e
        rw [← e] at hne ⊢
        have hkl : k < f.s.length := by rwa [FX.len] at hk
        have hne' : gt l (gi f.s k) ≠ gt l (gi f.s q) := fun e => hne (by rw [FX.gpk l hkl, FX.gpk l hq, e])
        rw [FX.gpk l hkl, FX.gpk l hq, hab _ _ (h.d0 his (gi_mem hkl))]
        have h3 := hg _ (h.ms.1 (gi_mem hkl)).1 hne'
        have := Int.mul_pos_of_neg_of_neg (a := (- sgn (gz (tl f.n) (axN f.n))) * gz (tl f.n) (axN f.n)) (by rw [Int.neg_mul]; omega) h3
        exact this)
    obtain ⟨k, hk, e⟩ := List.getElem_of_mem hm
    exact (mem_vfN _).2 ⟨k, hk, by rw [gi_eq hk, e]⟩
theorem vfN_iff {f : Fc} (h : FX l f) (hS : Sol l) (hf : f ∈ facetsL l) (i : Nat) : i ∈ vfN l f ↔ i ∈ f.s ∧ Vx l i := vfN_iff' h i
end
end Go.Proofs.YtdoppiajbpmmkaaGreat
namespace Go.Proofs.YtdoppiajbpmmkaaGreat
open Go Go.Vc Go.RowKit
set_option maxHeartbeats 1000000
/-! Euler's law: vertices are passed from the bottom to the top in a direction in which no two are level. -/
abbrev D0 : Tr := ⟨1000000000000, 1000000, 1⟩
def lvl (l : List Tr) (i : Nat) : Int := tdot D0 (gt l i)
theorem phi_D (v : Tr) : phi v = tdot D0 v := by simp only [phi, tdot]; omega
theorem lvl_dv (l : List Tr) (v i : Nat) : tdot D0 (dv l v i) = lvl l i - lvl l v := dv_dot D0 l v i
theorem lvl_ne {l : List Tr} (hl : RT l) {a b : Nat} (h : gt l a ≠ gt l b) : lvl l a ≠ lvl l b := fun e => by
  have h1 : tdot D0 (dv l b a) = 0 := by rw [lvl_dv]; omega
  exact dv_ne h (phi_z ((hl a).sub (hl b)) (by rw [phi_D]; exact h1))
def VL (l : List Tr) : List Nat := (List.range l.length).filter fun i => (facetsL l).any fun f => (vfN l f).contains i
section
variable {l : List Tr}
structure S3 (l : List Tr) : Prop where
  hl : RT l
  h6 : l.length ≤ 6
  hS : Sol l
theorem S3.fx (s : S3 l) {f : Fc} (hf : f ∈ facetsL l) : FX l f := FX.of s.hl s.h6 s.hS hf
theorem S3.vx (s : S3 l) {f : Fc} (hf : f ∈ facetsL l) (i : Nat) : i ∈ vfN l f ↔ i ∈ f.s ∧ Vx l i := vfN_iff (s.fx hf) s.hS hf i
theorem S3.mem (s : S3 l) {i : Nat} : i ∈ VL l ↔ ∃ f ∈ facetsL l, i ∈ vfN l f := by
  unfold VL
  rw [List.mem_filter, List.mem_range, List.any_eq_true]
  constructor
  · rintro ⟨_, f, hf, h⟩; exact ⟨f, hf, by simpa using h⟩
  · rintro ⟨f, hf, h⟩; exact ⟨((s.fx hf).ms.1 ((s.fx hf).vs h)).1, f, hf, by simpa using h⟩
theorem S3.vxm (s : S3 l) {i : Nat} (h : i ∈ VL l) : Vx l i := by
  obtain ⟨f, hf, h⟩ := s.mem.1 h
  exact ((s.vx hf i).1 h).2
theorem S3.onf (s : S3 l) {i : Nat} (h : i ∈ VL l) {f : Fc} (hf : f ∈ facetsL l) : i ∈ vfN l f ↔ i ∈ f.s := by
  rw [s.vx hf]; exact ⟨And.left, fun h1 => ⟨h1, s.vxm h⟩⟩
theorem S3.place (s : S3 l) {a b : Nat} (ha : a ∈ VL l) (hb : b ∈ VL l) (h : a ≠ b) : gt l a ≠ gt l b := fun e => by
  rcases (by omega : a < b ∨ b < a) with h1 | h1
  · exact (s.vxm hb).first a h1 e
  · exact (s.vxm ha).first b h1 e.symm
/-- A vertex with three facets about it. -/
structure At (l : List Tr) (f : Fc) (v u w : Nat) (gu gw : Fc) : Prop where
  mf : f ∈ facetsL l
  nb : Nb l f v u w
  mgu : gu ∈ facetsL l
  vu : v ∈ gu.s
  uu : u ∈ gu.s
  wu : tdot gu.n (dv l v w) < 0
  mgw : gw ∈ facetsL l
  vw : v ∈ gw.s
  ww : w ∈ gw.s
  uw : tdot gw.n (dv l v u) < 0
theorem S3.at_ (s : S3 l) {f : Fc} (hf : f ∈ facetsL l) {v : Nat} (hv : v ∈ vfN l f) : ∃ u w gu gw, At l f v u w gu gw := by
  obtain ⟨u, w, nb⟩ := (s.fx hf).nb hv
  obtain ⟨gu, h1, h2, h3, h4⟩ := nb.over_u (s.fx hf) s.hS hf
  obtain ⟨gw, k1, k2, k3, k4⟩ := nb.over_w (s.fx hf) s.hS hf
  exact ⟨u, w, gu, gw, hf, nb, h1, h2, h3, h4, k1, k2, k3, k4⟩
section
variable {f gu gw : Fc} {v u w : Nat}
theorem At.vf (s : S3 l) (h : At l f v u w gu gw) : v ∈ f.s := (s.fx h.mf).vs h.nb.mv
theorem At.uf (s : S3 l) (h : At l f v u w gu gw) : u ∈ f.s := (s.fx h.mf).vs h.nb.mu
theorem At.wf (s : S3 l) (h : At l f v u w gu gw) : w ∈ f.s := (s.fx h.mf).vs h.nb.mw
theorem At.ne1 (s : S3 l) (h : At l f v u w gu gw) : f ≠ gu := fun e => by
  have h1 := h.wu
  rw [← e, (s.fx h.mf).d0 (h.vf s) (h.wf s)] at h1; omega
/-- What is level with three facets is 0. -/
theorem At.zero (s : S3 l) (h : At l f v u w gu gw) {y : Tr} (h1 : tdot f.n y = 0) (h2 : tdot gu.n y = 0) (h3 : tdot gw.n y = 0) : y = tz := by
  have F := s.fx h.mf
  have e1 := h.nb.comb F h1 gu.n
  have e2 := h.nb.comb F h1 gw.n
  rw [h2, (s.fx h.mgu).d0 h.vu h.uu, Int.mul_zero, Int.mul_zero, Int.zero_add] at e1
  rw [h3, (s.fx h.mgw).d0 h.vw h.ww, Int.mul_zero, Int.mul_zero, Int.add_zero] at e2
  have b0 : det f.n (dv l v u) y = 0 := by
    rcases Int.mul_eq_zero.1 e1.symm with e | e
    · exact e
    · have := h.wu; omega
  have a0 : det f.n (dv l v w) y = 0 := by
    rcases Int.mul_eq_zero.1 e2.symm with e | e
    · omega
    · have := h.uw; omega
  refine Classical.byContradiction fun hy => ?_
  have c1 := det_perp F.n0 (F.d0 (h.vf s) (h.uf s)) h1 b0
  have c2 := det_perp F.n0 (F.d0 (h.vf s) (h.wf s)) h1 a0
  exact h.nb.ind (cr_par hy (tcr_anz c1) (tcr_anz c2))
/-- A facet that the plane through a vertex cuts. -/
def Mixed (l : List Tr) (f : Fc) (v : Nat) : Prop := ∃ u w, Nb l f v u w ∧ ((lvl l u < lvl l v ∧ lvl l v < lvl l w) ∨ (lvl l w < lvl l v ∧ lvl l v < lvl l u))
/-- From the inside of the plane through a vertex a facet is reached in each direction. -/
theorem reach (s : S3 l) {v : Nat} {z0 t h : Tr} (hz : ∀ f ∈ facetsL l, v ∈ f.s → tdot f.n z0 < 0) (hzd : tdot D0 z0 = 0) (htd : tdot D0 t = 0) (hht : tdot h t = 0) (hhz : tdot h z0 < 0) (hv : v ∈ VL l) (hex : ∃ f ∈ facetsL l, v ∈ f.s ∧ 0 < tdot f.n t) :
    ∃ f ∈ facetsL l, 0 < tdot f.n t ∧ Mixed l f v := by
  have hex' : ∃ i, i < (facetsL l).length ∧ (i < (facetsL l).length ∧ v ∈ (gf (facetsL l) i).s ∧ 0 < tdot (gf (facetsL l) i).n t) := by
    obtain ⟨f, hf, h1, h2⟩ := hex
    obtain ⟨i, hi, rfl⟩ := gf_of_mem hf
    exact ⟨i, hi, hi, h1, h2⟩
  obtain ⟨i, hi, ⟨_, hvi, hti⟩, hmin⟩ := tot_min (P := fun i => i < (facetsL l).length ∧ v ∈ (gf (facetsL l) i).s ∧ 0 < tdot (gf (facetsL l) i).n t) (R := fun i j => 0 ≤ tdot (gf (facetsL l) i).n z0 * tdot (gf (facetsL l) j).n t - tdot (gf (facetsL l) j).n z0 * tdot (gf (facetsL l) i).n t)
    (fun i j _ _ => by
      generalize tdot (gf (facetsL l) i).n z0 = A; generalize tdot (gf (facetsL l) j).n z0 = B
      generalize tdot (gf (facetsL l) i).n t = C; generalize tdot (gf (facetsL l) j).n t = D
      omega) (fun i j k hi hj hk h1 h2 => by
      have p1 := hi.2.2; have p2 := hj.2.2; have p3 := hk.2.2
      generalize tdot (gf (facetsL l) i).n z0 = A at *; generalize tdot (gf (facetsL l) j).n z0 = B at *; generalize tdot (gf (facetsL l) k).n z0 = C at *
      generalize tdot (gf (facetsL l) i).n t = X at *; generalize tdot (gf (facetsL l) j).n t = Y at *; generalize tdot (gf (facetsL l) k).n t = Z at *
      have e : Y * (A * Z - C * X) = Z * (A * Y - B * X) + X * (B * Z - C * Y) := by grind
      have q1 := Int.mul_nonneg (Int.le_of_lt p3) h1
      have q2 := Int.mul_nonneg (Int.le_of_lt p1) h2
      exact le_of_mul p2 (by omega)) _ hex'
  have hf := gf_mem hi
  generalize gf (facetsL l) i = f at *
  have F := s.fx hf
  have hm : ∀ g ∈ facetsL l, v ∈ g.s → tdot g.n (lc (tdot f.n t) (-tdot f.n z0) z0 t) ≤ 0 := by
    intro g hg hvg
    rw [dot_lc, Int.neg_mul]
    rcases (by omega : tdot g.n t ≤ 0 ∨ 0 < tdot g.n t) with h1 | h1
    · have a1 := Int.mul_neg_of_pos_of_neg hti (hz g hg hvg)
      have a2 := Int.mul_nonneg_of_nonpos_of_nonpos (Int.le_of_lt (hz f hf hvi)) h1
      omega
    · obtain ⟨j, hj, rfl⟩ := gf_of_mem hg
      have := hmin j hj ⟨hj, hvg, h1⟩
      have e : tdot f.n t * tdot (gf (facetsL l) j).n z0 = tdot (gf (facetsL l) j).n z0 * tdot f.n t := Int.mul_comm _ _
      omega
  have hr0 : tdot f.n (lc (tdot f.n t) (-tdot f.n z0) z0 t) = 0 := by rw [dot_lc]; grind
  have hrd : tdot D0 (lc (tdot f.n t) (-tdot f.n z0) z0 t) = 0 := by rw [dot_lc, hzd, htd]; simp
  have hrh : tdot h (lc (tdot f.n t) (-tdot f.n z0) z0 t) < 0 := by
    rw [dot_lc, hht]
    have := Int.mul_neg_of_pos_of_neg hti hhz
    omega
  generalize lc (tdot f.n t) (-tdot f.n z0) z0 t = r at *
  have hvf := (s.onf hv hf).2 hvi
  obtain ⟨u, w, gu, gw, A⟩ := s.at_ hf hvf
  have hst := A.nb.st
  have e1 := A.nb.comb F hr0 gu.n
  have e2 := A.nb.comb F hr0 gw.n
  have e3 := A.nb.comb F hr0 D0
  have e4 := A.nb.comb F hr0 h
  rw [(s.fx A.mgu).d0 A.vu A.uu, Int.mul_zero, Int.zero_add] at e1
  rw [(s.fx A.mgw).d0 A.vw A.ww, Int.mul_zero, Int.add_zero] at e2
  rw [hrd, Int.mul_zero, lvl_dv, lvl_dv] at e3
  have hb : 0 ≤ det f.n (dv l v u) r := by
    have q := Int.mul_nonpos_of_nonneg_of_nonpos (Int.le_of_lt hst) (hm gu A.mgu A.vu)
    rcases (by omega : det f.n (dv l v u) r < 0 ∨ 0 ≤ det f.n (dv l v u) r) with h1 | h1
    · have := Int.mul_pos_of_neg_of_neg h1 A.wu; omega
    · exact h1
  have ha : 0 ≤ -det f.n (dv l v w) r := by
    have q := Int.mul_nonpos_of_nonneg_of_nonpos (Int.le_of_lt hst) (hm gw A.mgw A.vw)
    rcases (by omega : -det f.n (dv l v w) r < 0 ∨ 0 ≤ -det f.n (dv l v w) r) with h1 | h1
    · have := Int.mul_pos_of_neg_of_neg h1 A.uw; omega
    · exact h1
  generalize det f.n (dv l v u) r = b at *
  generalize -det f.n (dv l v w) r = a at *
  have hab : ¬ (a = 0 ∧ b = 0) := fun ⟨x, y⟩ => by
    subst x; subst y
    rw [Int.zero_mul, Int.zero_mul] at e4
    have := Int.mul_neg_of_pos_of_neg hst hrh
    omega
  have hu : u ∈ VL l := s.mem.2 ⟨f, hf, A.nb.mu⟩
  have hw : w ∈ VL l := s.mem.2 ⟨f, hf, A.nb.mw⟩
  have hlu : lvl l u ≠ lvl l v := lvl_ne s.hl A.nb.ne_u
  have hlw : lvl l w ≠ lvl l v := lvl_ne s.hl A.nb.ne_w
  refine ⟨f, hf, hti, u, w, A.nb, ?_⟩
  rcases (by omega : (lvl l u < lvl l v ∧ lvl l v < lvl l w) ∨ (lvl l w < lvl l v ∧ lvl l v < lvl l u) ∨ (lvl l u < lvl l v ∧ lvl l w < lvl l v) ∨ (lvl l v < lvl l u ∧ lvl l v < lvl l w)) with h1 | h1 | ⟨h1, h2⟩ | ⟨h1, h2⟩
  · exact .inl h1
  · exact .inr h1
  · exfalso
    obtain ⟨z1, z2⟩ := nz_sum ha hb (show lvl l u - lvl l v ≤ 0 by omega) (show lvl l w - lvl l v ≤ 0 by omega) e3.symm
    exact hab ⟨by omega, by omega⟩
  · exfalso
    obtain ⟨z1, z2⟩ := nz_sum ha hb (show -(lvl l u - lvl l v) ≤ 0 by omega) (show -(lvl l w - lvl l v) ≤ 0 by omega) (by rw [Int.mul_neg, Int.mul_neg]; omega)
    exact hab ⟨by omega, by omega⟩
end
end
end Go.Proofs.YtdoppiajbpmmkaaGreat
namespace Go.Proofs.YtdoppiajbpmmkaaGreat
open Go Go.Vc Go.RowKit
set_option maxHeartbeats 1000000
/-! The lists of vertices and edges, and Euler's law. -/
theorem gz_arr {zs : List Int} {j : Nat} (h : j < zs.length) : zs.toArray[j]! = gz zs j := by
  unfold gz
  simp [List.getD, h]
theorem gz_eq {zs : List Int} {i : Nat} (h : i < zs.length) : gz zs i = zs[i] := by unfold gz; simp [List.getD, h]
theorem cptI {zs : List Int} (hs : zs.Pairwise (fun a b => decide (a ≤ b) = true)) : ∀ m, m ≤ zs.length → (Lib.compactUpTo zs.toArray m).Pairwise (· < ·) ∧ ∀ x, x ∈ Lib.compactUpTo zs.toArray m ↔ ∃ i, i < m ∧ gz zs i = x
  | 0, _ => ⟨by simp [Lib.compactUpTo], fun x => by simp [Lib.compactUpTo]⟩
  | m + 1, hm => by
    obtain ⟨ih1, ih2⟩ := cptI hs m (by omega)
    have hle : ∀ i j, i < j → j < zs.length → gz zs i ≤ gz zs j := fun i j hij hj => by
      have := List.pairwise_iff_getElem.1 hs i j (by omega) hj hij
      rw [gz_eq (by omega), gz_eq hj]; simpa using this
    rw [Lib.compactUpTo_succ]
    split
    · rename_i hk
      unfold Lib.keeps at hk
      rw [decide_eq_true_eq, gz_arr (by omega), gz_arr (by omega)] at hk
      refine ⟨?_, fun x => ?_⟩
      · rw [List.pairwise_append]
        refine ⟨ih1, List.pairwise_singleton _ _, fun x hx y hy => ?_⟩
        rw [List.mem_singleton] at hy
        subst hy
        obtain ⟨i, hi, rfl⟩ := (ih2 x).1 hx
        rw [gz_arr (by omega)]
        have hne := hk.resolve_left (by omega)
        have h1 := hle (m - 1) m (by omega) (by omega)
        by_cases e : i = m - 1
        · subst e; omega
        · have := hle i (m - 1) (by omega) (by omega); omega
      · rw [List.mem_append, List.mem_singleton, ih2, gz_arr (by omega)]
        constructor
        · rintro (⟨i, hi, e⟩ | e)
          · exact ⟨i, by omega, e⟩
          · exact ⟨m, by omega, e.symm⟩
        · rintro ⟨i, hi, e⟩
          by_cases h : i = m
          · subst h; exact .inr e.symm
          · exact .inl ⟨i, by omega, e⟩
    · rename_i hk
      unfold Lib.keeps at hk
      rw [decide_eq_true_eq, gz_arr (by omega), gz_arr (by omega), not_or] at hk
      rw [List.append_nil]
      refine ⟨ih1, fun x => ?_⟩
      rw [ih2]
      constructor
      · rintro ⟨i, hi, e⟩; exact ⟨i, by omega, e⟩
      · rintro ⟨i, hi, e⟩
        by_cases h : i = m
        · subst h
          have : gz zs i = gz zs (i - 1) := Classical.byContradiction fun h => hk.2 h
          exact ⟨i - 1, by omega, by rw [← e, this]⟩
        · exact ⟨i, by omega, e⟩
theorem cpt_sort (zs : List Int) : (Lib.compact (sortI zs)).Pairwise (· < ·) ∧ ∀ x, x ∈ Lib.compact (sortI zs) ↔ x ∈ zs := by
  have hp : (sortI zs).Perm zs := List.mergeSort_perm _ _
  have hs : (sortI zs).Pairwise (fun a b => decide (a ≤ b) = true) := List.pairwise_mergeSort (le := fun (a b : Int) => decide (a ≤ b)) (fun a b c h1 h2 => by simp at *; omega) (fun a b => by simp; omega) _
  obtain ⟨h1, h2⟩ := cptI hs _ (Nat.le_refl _)
  refine ⟨h1, fun x => ?_⟩
  unfold Lib.compact
  rw [h2, ← hp.mem_iff]
  constructor
  · rintro ⟨i, hi, rfl⟩; rw [gz_eq hi]; exact List.getElem_mem hi
  · intro h
    obtain ⟨i, hi, e⟩ := List.getElem_of_mem h
    exact ⟨i, hi, by rw [gz_eq hi, e]⟩
theorem lt_ext : ∀ {A B : List Int}, A.Pairwise (· < ·) → B.Pairwise (· < ·) → (∀ x, x ∈ A ↔ x ∈ B) → A = B := fun {A B} hA hB h => by
  have nd : ∀ {M : List Int}, M.Pairwise (· < ·) → M.Nodup := fun hM => List.Pairwise.imp (S := (· ≠ ·)) (fun {a b} hab e => by omega) hM
  have hp : A.Perm B := (List.perm_ext_iff_of_nodup (nd hA) (nd hB)).2 h
  exact List.Perm.eq_of_pairwise (fun a b _ _ h1 h2 => by omega) hA hB hp
theorem mem_natL {x : Int} {V : List Nat} : x ∈ natL V ↔ ∃ i ∈ V, (i : Int) = x := by unfold natL; rw [List.mem_map]
theorem natL_lt {V : List Nat} (h : V.Pairwise (· < ·)) : (natL V).Pairwise (· < ·) := by
  unfold natL; rw [List.pairwise_map]; exact h.imp (fun {a b} hab => by omega)
theorem VL_lt (l : List Tr) : (VL l).Pairwise (· < ·) := List.Pairwise.filter _ (List.pairwise_lt_range)
theorem rawTo_mem (l : List Tr) (L : List Fc) (x : Int) : ∀ k, x ∈ rawTo l L k ↔ ∃ j, j < k ∧ x ∈ vf l (gf L j)
  | 0 => by simp [rawTo]
  | k + 1 => by
    unfold rawTo
    rw [List.mem_append, rawTo_mem l L x k]
    constructor
    · rintro (⟨j, hj, h⟩ | h)
      · exact ⟨j, by omega, h⟩
      · exact ⟨k, by omega, h⟩
    · rintro ⟨j, hj, h⟩
      by_cases e : j = k
      · subst e; exact .inr h
      · exact .inl ⟨j, by omega, h⟩
theorem vf_nat (l : List Tr) (f : Fc) : vf l f = natL (vfN l f) := by unfold vf natL vfN; rw [List.map_map]; rfl
section
variable {l : List Tr}
/-- What the code returns is the list of the vertices. -/
theorem S3.vert (s : S3 l) : vertV l (facetsL l) = natL (VL l) := by
  obtain ⟨h1, h2⟩ := cpt_sort (rawV l (facetsL l))
  refine lt_ext h1 (natL_lt (VL_lt l)) fun x => ?_
  refine (h2 x).trans ?_
  have d3 := (dim3_iff l).2 s.hS
  unfold rawV
  rw [d3]
  simp only [show ¬ (3 : Int) = -1 by decide, show ¬ (3 : Int) = 0 by decide, show ¬ (3 : Int) = 1 by decide, show ¬ (3 : Int) = 2 by decide, if_false]
  rw [rawTo_mem, mem_natL]
  constructor
  · rintro ⟨j, hj, h⟩
    rw [vf_nat, mem_natL] at h
    obtain ⟨i, hi, e⟩ := h
    exact ⟨i, s.mem.2 ⟨_, gf_mem hj, hi⟩, e⟩
  · rintro ⟨i, hi, e⟩
    obtain ⟨f, hf, h⟩ := s.mem.1 hi
    obtain ⟨j, hj, rfl⟩ := gf_of_mem hf
    exact ⟨j, hj, by rw [vf_nat, mem_natL]; exact ⟨i, h, e⟩⟩
end
/-! Counting. -/
def ind (b : Bool) : Nat := if b = true then 1 else 0
theorem ind_t {b : Bool} (h : b = true) : ind b = 1 := if_pos h
theorem ind_f {b : Bool} (h : b = false) : ind b = 0 := by unfold ind; rw [h]; rfl
def sm {α : Type} (A : List α) (f : α → Nat) : Nat := match A with
  | [] => 0
  | a :: r => f a + sm r f
theorem sm_congr {α : Type} {f g : α → Nat} : ∀ {A : List α}, (∀ a ∈ A, f a = g a) → sm A f = sm A g
  | [], _ => rfl
  | a :: r, h => by
    unfold sm
    rw [h a List.mem_cons_self, sm_congr (fun x hx => h x (List.mem_cons_of_mem _ hx))]
theorem sm_zero {α : Type} : ∀ A : List α, sm A (fun _ => 0) = 0
  | [] => rfl
  | a :: r => by unfold sm; rw [sm_zero r]
theorem sm_at {α : Type} [DecidableEq α] {a : α} (g : α → Nat) : ∀ {A : List α}, A.Nodup → a ∈ A → sm A (fun x => if x = a then g x else 0) = g a
  | [], _, h => by cases h
  | b :: r, hn, h => by
    obtain ⟨h1, h2⟩ := List.nodup_cons.1 hn
    show (if b = a then g b else 0) + sm r (fun x => if x = a then g x else 0) = g a
    by_cases e : b = a
    · subst e
      rw [if_pos rfl, sm_congr (g := fun _ => 0) (fun x hx => if_neg (fun e => h1 (by rw [← e]; exact hx))), sm_zero]; omega
    · rw [if_neg e, sm_at g h2 ((List.mem_cons.1 h).resolve_left (Ne.symm e)), Nat.zero_add]
/-- Those of which there are exactly so many. -/
theorem sm_is1 {α : Type} [DecidableEq α] {A : List α} {p : α → Bool} {a : α} (hn : A.Nodup) (ha : a ∈ A) (h : ∀ x ∈ A, p x = true ↔ x = a) : sm A (fun x => ind (p x)) = 1 := by
  rw [sm_congr (g := fun x => if x = a then 1 else 0) (fun x hx => by
    by_cases e : x = a
    · rw [if_pos e, ind_t ((h x hx).2 e)]
    · rw [if_neg e, ind_f (by cases hp : p x; rfl; exact absurd ((h x hx).1 hp) e)]), sm_at (fun _ => 1) hn ha]
theorem sm_ge {α : Type} [DecidableEq α] {A B : List α} {p : α → Bool} (hB : B.Nodup) (h : ∀ x ∈ B, x ∈ A ∧ p x = true) : B.length ≤ sm A (fun x => ind (p x)) := by
  have e : ∀ A : List α, sm A (fun x => ind (p x)) = (A.filter p).length := fun A => by
    induction A with
    | nil => rfl
    | cons a r ih =>
      show ind (p a) + sm r (fun x => ind (p x)) = _
      rw [ih]
      cases hp : p a with
      | true => rw [List.filter_cons_of_pos hp, List.length_cons, ind_t rfl]; omega
      | false => rw [List.filter_cons_of_neg (by rw [hp]; decide), ind_f rfl]; omega
  rw [e]
  exact hB.length_le_of_subset (fun x hx => List.mem_filter.2 (h x hx))
theorem sm_two {α : Type} [DecidableEq α] {A : List α} {p : α → Bool} (hA : A.Nodup) (h : 2 ≤ sm A (fun x => ind (p x))) : ∃ a b, a ∈ A ∧ b ∈ A ∧ a ≠ b ∧ p a = true ∧ p b = true := by
  by_cases h1 : ∃ a ∈ A, p a = true
  · obtain ⟨a, ha, hpa⟩ := h1
    by_cases h2 : ∃ b ∈ A, b ≠ a ∧ p b = true
    · obtain ⟨b, hb, hne, hpb⟩ := h2
      exact ⟨a, b, ha, hb, Ne.symm hne, hpa, hpb⟩
    · exfalso
      have := sm_is1 (p := p) hA ha (fun x hx => ⟨fun hp => Classical.byContradiction fun e => h2 ⟨x, hx, e, hp⟩, fun e => by rw [e]; exact hpa⟩)
      omega
  · exfalso
    rw [sm_congr (g := fun _ => 0) (fun x hx => ind_f (by cases hp : p x; rfl; exact absurd ⟨x, hx, hp⟩ h1)), sm_zero] at h
    omega
end Go.Proofs.YtdoppiajbpmmkaaGreat
namespace Go.Proofs.YtdoppiajbpmmkaaGreat
open Go Go.Vc Go.RowKit
set_option maxHeartbeats 1000000
/-! Euler's law. -/
theorem gz_natL {V : List Nat} {i : Nat} (h : i < V.length) : gz (natL V) i = ((gi V i : Nat) : Int) := by
  rw [gz_eq (by unfold natL; rw [List.length_map]; exact h), gi_eq h]; simp
def nf (L : List Fc) (v x : Nat) : Nat := sm L fun F => ind (decide (v ∈ F.s) && decide (x ∈ F.s))
theorem facets_nd (l : List Tr) : (facetsL l).Nodup := List.Pairwise.imp (S := (· ≠ ·)) (fun {a b} hab e => lex_ir a.n (by rw [← e] at hab; exact hab)) facets_mem.1
theorem VL_nd (l : List Tr) : (VL l).Nodup := List.Pairwise.imp (S := (· ≠ ·)) (fun {a b} hab e => by omega) (VL_lt l)
section
variable {l : List Tr}
theorem S3.edge (s : S3 l) {f : Fc} (hf : f ∈ facetsL l) {v x : Nat} (vf : v ∈ f.s) (xf : x ∈ f.s) : 2 ≤ nf (facetsL l) v x ↔ ∃ g ∈ facetsL l, f ≠ g ∧ v ∈ g.s ∧ x ∈ g.s := by
  constructor
  · intro h
    obtain ⟨a, b, ha, hb, hab, pa, pb⟩ := sm_two (facets_nd l) h
    rw [Bool.and_eq_true, decide_eq_true_eq, decide_eq_true_eq] at pa pb
    by_cases e : f = a
    · exact ⟨b, hb, by rw [e]; exact hab, pb⟩
    · exact ⟨a, ha, e, pa⟩
  · rintro ⟨g, hg, hne, h1, h2⟩
    refine sm_ge (B := [f, g]) (by simp [hne]) fun y hy => ?_
    simp only [List.mem_cons, List.not_mem_nil, or_false] at hy
    rcases hy with rfl | rfl
    · exact ⟨hf, by simp [vf, xf]⟩
    · exact ⟨hg, by simp [h1, h2]⟩
def below (l : List Tr) (v x : Nat) : Bool := decide (lvl l x < lvl l v)
section
variable {f gu gw : Fc} {v u w : Nat}
theorem At.vV (s : S3 l) (h : At l f v u w gu gw) : v ∈ VL l := s.mem.2 ⟨f, h.mf, h.nb.mv⟩
theorem At.uV (s : S3 l) (h : At l f v u w gu gw) : u ∈ VL l := s.mem.2 ⟨f, h.mf, h.nb.mu⟩
theorem At.wV (s : S3 l) (h : At l f v u w gu gw) : w ∈ VL l := s.mem.2 ⟨f, h.mf, h.nb.mw⟩
theorem Nb.uw {f : Fc} {v u w : Nat} (nb : Nb l f v u w) : u ≠ w := fun e => by
  have := nb.st
  rw [e, det_same] at this
  omega
end
end
end Go.Proofs.YtdoppiajbpmmkaaGreat
