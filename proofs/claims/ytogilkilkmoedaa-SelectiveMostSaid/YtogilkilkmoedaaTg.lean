/- A part of the proof that the law returns true at every input and that the input reads behind the call as it read before; this part states nothing of its own that needs a condition of the input. -/
import Derived.Test.YtogilkilkmoedaaM
import Derived.Test.YtogilkilkmoedaaTf
set_option linter.unusedVariables false
set_option linter.unusedSimpArgs false
namespace Go.Proofs.Ytogilkilkmoedaa
open Go Go.Vc Go.RowKit
/-! What is reached from free holes: holes, pins. -/
structure RS where
  R : List Bool
  T : List Bool
def RS.reach (s : RS) (h : Nat) : RS := ⟨s.R.set h true, s.T⟩
def RS.touch (s : RS) (p : Nat) : RS := ⟨s.R, s.T.set p true⟩
def reachL (fit : Nat → Nat → Bool) (P : List Int) (rec : Nat → RS → RS) (h : Nat) : Nat → Nat → RS → RS
  | 0, _, s => s
  | c + 1, i, s =>
    if fit h i && !gb s.T i then
      if 0 ≤ gz P i then reachL fit P rec h c (i + 1) (rec (gz P i).toNat (s.touch i)) else reachL fit P rec h c (i + 1) (s.touch i)
    else reachL fit P rec h c (i + 1) s
def reachF (fit : Nat → Nat → Bool) (P : List Int) (nP : Nat) : Nat → Nat → RS → RS
  | 0, _, s => s
  | f + 1, h, s => if gb s.R h then s else reachL fit P (reachF fit P nP f) h nP 0 (s.reach h)
structure RS.Ok (s : RS) (nH nP : Nat) : Prop where
  rl : s.R.length = nH
  tl : s.T.length = nP
/-- What holds behind a search, against what held ahead of it. -/
structure Rch (fit : Nat → Nat → Bool) (P : List Int) (nH nP : Nat) (s t : RS) : Prop where
  ok : t.Ok nH nP
  un : unseen t.R ≤ unseen s.R
  mr : ∀ x, gb s.R x = true → gb t.R x = true
  mt : ∀ p, gb s.T p = true → gb t.T p = true
  nr : ∀ x, x < nH → gb t.R x = true → gb s.R x = false → ∀ p, p < nP → fit x p = true → gb t.T p = true
  nt : ∀ p, p < nP → gb t.T p = true → gb s.T p = false → ∀ o : Nat, o < nH → gz P p = o → gb t.R o = true
/-- Sets of holes and of pins that no step leaves. -/
structure Shut (fit : Nat → Nat → Bool) (P : List Int) (nH nP : Nat) (W B : Nat → Bool) : Prop where
  hp : ∀ x p, x < nH → p < nP → W x = true → fit x p = true → B p = true
  ph : ∀ p (o : Nat), p < nP → o < nH → B p = true → gz P p = o → W o = true
def Inn (s : RS) (nH nP : Nat) (W B : Nat → Bool) : Prop := (∀ x, x < nH → gb s.R x = true → W x = true) ∧ ∀ p, p < nP → gb s.T p = true → B p = true
section
variable {fit : Nat → Nat → Bool} {P : List Int} {nH nP : Nat}
theorem gb_touch {s : RS} (hs : s.Ok nH nP) {i : Nat} (hi : i < nP) (k : Nat) : gb (s.touch i).T k = if k = i then true else gb s.T k := by
  simp only [RS.touch]; exact gb_set (by rw [hs.tl]; exact hi)
theorem gb_reach {s : RS} (hs : s.Ok nH nP) {i : Nat} (hi : i < nH) (k : Nat) : gb (s.reach i).R k = if k = i then true else gb s.R k := by
  simp only [RS.reach]; exact gb_set (by rw [hs.rl]; exact hi)
theorem RS.Ok.touch {s : RS} (h : s.Ok nH nP) (i : Nat) : (s.touch i).Ok nH nP := ⟨h.rl, by simp [RS.touch, h.tl]⟩
theorem RS.Ok.reach {s : RS} (h : s.Ok nH nP) (i : Nat) : (s.reach i).Ok nH nP := ⟨by simp [RS.reach, h.rl], h.tl⟩
theorem Rch.refl {s : RS} (h : s.Ok nH nP) : Rch fit P nH nP s s := ⟨h, Nat.le_refl _, fun _ h => h, fun _ h => h, fun x _ h1 h2 => (by rw [h1] at h2; cases h2), fun p _ h1 h2 => (by rw [h1] at h2; cases h2)⟩
theorem Rch.trans {s t u : RS} (h : Rch fit P nH nP s t) (k : Rch fit P nH nP t u) : Rch fit P nH nP s u := by
  refine ⟨k.ok, Nat.le_trans k.un h.un, fun x hx => k.mr x (h.mr x hx), fun p hp => k.mt p (h.mt p hp), fun x hx h1 h2 p hp hf => ?_, fun p hp h1 h2 o ho e => ?_⟩
  · cases hb : gb t.R x with
    | true => exact k.mt p (h.nr x hx hb h2 p hp hf)
    | false => exact k.nr x hx h1 hb p hp hf
  · cases hb : gb t.T p with
    | true => exact k.mr o (h.nt p hp hb h2 o ho e)
    | false => exact k.nt p hp h1 hb o ho e
/-- Through the pins from i on: closed but for the hole h itself. -/
theorem reachL_rch {rec : Nat → RS → RS} {h U : Nat} (hpv : ∀ i, i < nP → gz P i < nH)
    (hrec : ∀ o s, s.Ok nH nP → o < nH → unseen s.R < U → Rch fit P nH nP s (rec o s) ∧ gb (rec o s).R o = true) :
    ∀ c i s, s.Ok nH nP → i + c = nP → unseen s.R < U → Rch fit P nH nP s (reachL fit P rec h c i s) ∧ ∀ p, i ≤ p → p < nP → fit h p = true → gb (reachL fit P rec h c i s).T p = true
  | 0, i, s, hs, hi, hu => ⟨Rch.refl hs, fun p h1 h2 => by omega⟩
  | c + 1, i, s, hs, hi, hu => by
    have hil : i < nP := by omega
    unfold reachL
    split
    · rename_i hc
      simp only [Bool.and_eq_true, Bool.not_eq_true'] at hc
      have hti : gb (s.touch i).T i = true := by rw [gb_touch hs hil, if_pos rfl]
      split
      · rename_i h0
        have hp := hpv i hil
        obtain ⟨r1, r2⟩ := hrec (gz P i).toNat (s.touch i) (hs.touch i) (by omega) hu
        have ih := reachL_rch hpv hrec c (i + 1) (rec (gz P i).toNat (s.touch i)) (h := h) r1.ok (by omega) (Nat.lt_of_le_of_lt r1.un hu)
        have hs1 : Rch fit P nH nP s (rec (gz P i).toNat (s.touch i)) := by
          refine ⟨r1.ok, r1.un, fun x hx => r1.mr x hx, fun p hp => r1.mt p (by rw [gb_touch hs hil]; split <;> first | rfl | exact hp), fun x hx h1 h2 => r1.nr x hx h1 h2, fun p hp h1 h2 o ho e => ?_⟩
          by_cases ep : p = i
          · subst ep
            have : (gz P p).toNat = o := by omega
            rw [this] at r2 ⊢
            exact r2
          · exact r1.nt p hp h1 (by rw [gb_touch hs hil, if_neg ep]; exact h2) o ho e
        refine ⟨hs1.trans ih.1, fun p h1 h2 h3 => ?_⟩
        by_cases ep : p = i
        · subst ep; exact ih.1.mt p (r1.mt p hti)
        · exact ih.2 p (by omega) h2 h3
      · rename_i h0
        have ih := reachL_rch hpv hrec c (i + 1) (s.touch i) (h := h) (hs.touch i) (by omega) hu
        have hs1 : Rch fit P nH nP s (s.touch i) := by
          refine ⟨hs.touch i, Nat.le_refl _, fun x hx => hx, fun p hp => (by rw [gb_touch hs hil]; split <;> first | rfl | exact hp), fun x hx h1 h2 => (by simp only [RS.touch] at h1; rw [h1] at h2; cases h2), fun p hp h1 h2 o ho e => ?_⟩
          by_cases ep : p = i
          · subst ep; omega
          · rw [gb_touch hs hil, if_neg ep, h2] at h1; cases h1
        refine ⟨hs1.trans ih.1, fun p h1 h2 h3 => ?_⟩
        by_cases ep : p = i
        · subst ep; exact ih.1.mt p hti
        · exact ih.2 p (by omega) h2 h3
    · rename_i hc
      have ih := reachL_rch hpv hrec c (i + 1) s (h := h) hs (by omega) hu
      refine ⟨ih.1, fun p h1 h2 h3 => ?_⟩
      by_cases ep : p = i
      · subst ep
        rw [h3] at hc
        exact ih.1.mt p (by simpa using hc)
      · exact ih.2 p (by omega) h2 h3
theorem reachF_rch (hpv : ∀ i, i < nP → gz P i < nH) : ∀ f h s, s.Ok nH nP → h < nH → unseen s.R < f → Rch fit P nH nP s (reachF fit P nP f h s) ∧ gb (reachF fit P nP f h s).R h = true
  | 0, h, s, hs, hh, hu => by omega
  | f + 1, h, s, hs, hh, hu => by
    unfold reachF
    split
    · rename_i hr
      exact ⟨Rch.refl hs, hr⟩
    · rename_i hr
      have hr : gb s.R h = false := by simpa using hr
      have hun := unseen_see (S := s.R) (i := h) (by rw [hs.rl]; exact hh) hr
      have hu1 : unseen (s.reach h).R < f := by simp only [RS.reach]; omega
      obtain ⟨r1, r2⟩ := reachL_rch (fit := fit) (h := h) hpv (fun o t ht ho hu => reachF_rch hpv f o t ht ho hu) nP 0 (s.reach h) (hs.reach h) (by omega) hu1
      have hrh : gb (s.reach h).R h = true := by rw [gb_reach hs hh, if_pos rfl]
      have hle : unseen (s.reach h).R ≤ unseen s.R := by simp only [RS.reach]; omega
      refine ⟨⟨r1.ok, Nat.le_trans r1.un hle, fun x hx => r1.mr x (by rw [gb_reach hs hh]; split <;> first | rfl | exact hx), r1.mt, fun x hx h1 h2 p hp hf => ?_, r1.nt⟩, r1.mr h hrh⟩
      by_cases ex : x = h
      · subst ex; exact r2 p (Nat.zero_le _) hp hf
      · exact r1.nr x hx h1 (by rw [gb_reach hs hh, if_neg ex]; exact h2) p hp hf
theorem reachL_inn {rec : Nat → RS → RS} {h U : Nat} {W B : Nat → Bool} (hW : Shut fit P nH nP W B) (hh : h < nH) (hw : W h = true) (hpv : ∀ i, i < nP → gz P i < nH)
    (hok : ∀ o s, s.Ok nH nP → o < nH → unseen s.R < U → (rec o s).Ok nH nP ∧ unseen (rec o s).R ≤ unseen s.R)
    (hrec : ∀ o s, s.Ok nH nP → o < nH → unseen s.R < U → W o = true → Inn s nH nP W B → Inn (rec o s) nH nP W B) :
    ∀ c i s, s.Ok nH nP → i + c = nP → unseen s.R < U → Inn s nH nP W B → Inn (reachL fit P rec h c i s) nH nP W B
  | 0, i, s, hs, hi, hu, hI => hI
  | c + 1, i, s, hs, hi, hu, hI => by
    have hil : i < nP := by omega
    unfold reachL
    split
    · rename_i hc
      simp only [Bool.and_eq_true, Bool.not_eq_true'] at hc
      have hB := hW.hp h i hh hil hw hc.1
      have hI1 : Inn (s.touch i) nH nP W B := ⟨hI.1, fun p hp h1 => by
        rw [gb_touch hs hil] at h1
        split at h1
        · rename_i e; rw [e]; exact hB
        · exact hI.2 p hp h1⟩
      split
      · rename_i h0
        have hp := hpv i hil
        have ho := hok (gz P i).toNat (s.touch i) (hs.touch i) (by omega) hu
        exact reachL_inn hW hh hw hpv hok hrec c (i + 1) _ ho.1 (by omega) (Nat.lt_of_le_of_lt ho.2 hu) (hrec _ _ (hs.touch i) (by omega) hu (hW.ph i _ hil (by omega) hB (by omega)) hI1)
      · exact reachL_inn hW hh hw hpv hok hrec c (i + 1) _ (hs.touch i) (by omega) hu hI1
    · exact reachL_inn hW hh hw hpv hok hrec c (i + 1) s hs (by omega) hu hI
theorem reachF_inn {W B : Nat → Bool} (hW : Shut fit P nH nP W B) (hpv : ∀ i, i < nP → gz P i < nH) : ∀ f h s, s.Ok nH nP → h < nH → unseen s.R < f → W h = true → Inn s nH nP W B → Inn (reachF fit P nP f h s) nH nP W B
  | 0, h, s, hs, hh, hu, _, _ => by omega
  | f + 1, h, s, hs, hh, hu, hw, hI => by
    unfold reachF
    split
    · exact hI
    · rename_i hr
      have hr : gb s.R h = false := by simpa using hr
      have hun := unseen_see (S := s.R) (i := h) (by rw [hs.rl]; exact hh) hr
      refine reachL_inn (U := f) hW hh hw hpv (fun o t ht ho hu => ?_) (fun o t ht ho hu hwo hIo => reachF_inn hW hpv f o t ht ho hu hwo hIo) nP 0 (s.reach h) (hs.reach h) (by omega) (by simp only [RS.reach]; omega) ⟨fun x hx h1 => ?_, hI.2⟩
      · have := (reachF_rch (fit := fit) hpv f o t ht ho hu).1
        exact ⟨this.ok, this.un⟩
      · rw [gb_reach hs hh] at h1
        split at h1
        · rename_i e; rw [e]; exact hw
        · exact hI.1 x hx h1
end
end Go.Proofs.Ytogilkilkmoedaa
namespace Go.Proofs.Ytogilkilkmoedaa
open Go Go.Vc Go.RowKit
/-! The blocker: as many holes and pins as the most pairs. -/
def rchA (fit : Nat → Nat → Bool) (H P : List Int) (nH nP : Nat) : Nat → RS
  | 0 => ⟨List.replicate nH false, List.replicate nP false⟩
  | k + 1 => if gz H k < 0 then reachF fit P nP (nH + 1) k (rchA fit H P nH nP k) else rchA fit H P nH nP k
theorem unseen_le : ∀ S : List Bool, unseen S ≤ S.length := fun S => List.length_filter_le _ _
theorem rchA_spec {fit : Nat → Nat → Bool} {H P : List Int} {nH nP : Nat} (hpv : ∀ i, i < nP → gz P i < nH) : ∀ k, k ≤ nH → Rch fit P nH nP (rchA fit H P nH nP 0) (rchA fit H P nH nP k) ∧ ∀ x, x < k → gz H x < 0 → gb (rchA fit H P nH nP k).R x = true
  | 0, _ => ⟨Rch.refl ⟨by simp [rchA], by simp [rchA]⟩, fun x hx => by omega⟩
  | k + 1, hk => by
    obtain ⟨h1, h2⟩ := rchA_spec (fit := fit) (H := H) hpv k (by omega)
    have hu : unseen (rchA fit H P nH nP k).R < nH + 1 := by
      have := unseen_le (rchA fit H P nH nP k).R
      rw [h1.ok.rl] at this; omega
    rw [show rchA fit H P nH nP (k + 1) = if gz H k < 0 then reachF fit P nP (nH + 1) k (rchA fit H P nH nP k) else rchA fit H P nH nP k from rfl]
    split
    · rename_i hf
      obtain ⟨r1, r2⟩ := reachF_rch (fit := fit) hpv (nH + 1) k _ h1.ok (by omega) hu
      refine ⟨h1.trans r1, fun x hx hxf => ?_⟩
      by_cases e : x = k
      · subst e; exact r2
      · exact r1.mr x (h2 x (by omega) hxf)
    · rename_i hf
      refine ⟨h1, fun x hx hxf => ?_⟩
      by_cases e : x = k
      · subst e; exact absurd hxf hf
      · exact h2 x (by omega) hxf
theorem rchA_inn {fit : Nat → Nat → Bool} {H P : List Int} {nH nP : Nat} {W B : Nat → Bool} (hpv : ∀ i, i < nP → gz P i < nH) (hW : Shut fit P nH nP W B) (hf : ∀ x, x < nH → gz H x < 0 → W x = true) : ∀ k, k ≤ nH → Inn (rchA fit H P nH nP k) nH nP W B
  | 0, _ => ⟨fun x _ h => (by simp only [rchA] at h; rw [gb_rep] at h; cases h), fun x _ h => (by simp only [rchA] at h; rw [gb_rep] at h; cases h)⟩
  | k + 1, hk => by
    have ih := rchA_inn (H := H) hpv hW hf k (by omega)
    have h1 := (rchA_spec (fit := fit) (H := H) hpv k (by omega)).1
    have hu : unseen (rchA fit H P nH nP k).R < nH + 1 := by
      have := unseen_le (rchA fit H P nH nP k).R
      rw [h1.ok.rl] at this; omega
    rw [show rchA fit H P nH nP (k + 1) = if gz H k < 0 then reachF fit P nP (nH + 1) k (rchA fit H P nH nP k) else rchA fit H P nH nP k from rfl]
    split
    · rename_i h0
      exact reachF_inn hW hpv (nH + 1) k _ h1.ok (by omega) hu (hf k (by omega) h0) ih
    · exact ih
theorem cN_zero {n : Nat} {p : Nat → Bool} (h : cN n p = 0) : ∀ i, i < n → p i = false := fun i hi => by
  cases hp : p i with
  | false => rfl
  | true =>
    have : i ∈ (List.range n).filter p := mem_fr.2 ⟨hi, hp⟩
    have := List.length_pos_of_mem this
    unfold cN at h; omega
theorem block_spec (fit : Nat → Nat → Bool) (nH nP : Nat) : (rchA fit (mostN fit nH nP nH).H (mostN fit nH nP nH).P nH nP nH).Ok nH nP ∧
    (∀ x p, x < nH → p < nP → fit x p = true → gb (rchA fit (mostN fit nH nP nH).H (mostN fit nH nP nH).P nH nP nH).R x = true → gb (rchA fit (mostN fit nH nP nH).H (mostN fit nH nP nH).P nH nP nH).T p = true) ∧
    cN nH (fun x => !gb (rchA fit (mostN fit nH nP nH).H (mostN fit nH nP nH).P nH nP nH).R x) + cN nP (gb (rchA fit (mostN fit nH nP nH).H (mostN fit nH nP nH).P nH nP nH).T) = sz (mostN fit nH nP nH).H := by
  have hI := mostN_I (fit := fit) (nP := nP) nH (Nat.le_refl _)
  obtain ⟨A, B, hc, hn⟩ := hI.cov
  have hv := hI.v
  generalize mostN fit nH nP nH = m at hn hv
  have hpv := hv.ok.pv
  have hsz := hv.sz
  -- the cover is tight
  have eA := cN_split nH A (mtB m.H)
  have eM := cN_split nH (mtB m.H) A
  have eAM : cN nH (fun x => A x && mtB m.H x) = cN nH (fun x => mtB m.H x && A x) := cN_congr fun i _ => by rw [Bool.and_comm]
  let Q : Nat → Bool := fun p => decide (0 ≤ gz m.P p) && !A (gz m.P p).toNat
  have eB := cN_split nP B Q
  have hinj : cN nH (fun x => mtB m.H x && !A x) ≤ cN nP (fun p => B p && Q p) := by
    refine cN_inj (fun x => (gz m.H x).toNat) (fun x hx h => ?_) (fun x y hx hy h1 h2 e => ?_)
    · simp only [mtB, Bool.and_eq_true, decide_eq_true_eq, Bool.not_eq_true'] at h
      have hlt := hv.ok.hv x hx
      obtain ⟨k1, k2⟩ := hv.val.hh x (gz m.H x).toNat hx (by omega) (by omega)
      refine ⟨by omega, ?_⟩
      have hB := (hc x (gz m.H x).toNat hx (by omega) k2).resolve_left (by rw [h.2]; simp)
      simp only [Q, Bool.and_eq_true, decide_eq_true_eq, Bool.not_eq_true']
      refine ⟨hB, by omega, ?_⟩
      rw [k1]; exact h.2
    · simp only [mtB, Bool.and_eq_true, decide_eq_true_eq, Bool.not_eq_true'] at h1 h2
      have l1 := hv.ok.hv x hx
      have l2 := hv.ok.hv y hy
      obtain ⟨k1, _⟩ := hv.val.hh x (gz m.H x).toNat hx (by omega) (by omega)
      obtain ⟨k2, _⟩ := hv.val.hh y (gz m.H y).toNat hy (by omega) (by omega)
      have e : (gz m.H x).toNat = (gz m.H y).toNat := e
      rw [e] at k1
      omega
  have zA : cN nH (fun x => A x && !mtB m.H x) = 0 := by omega
  have zB : cN nP (fun p => B p && !Q p) = 0 := by omega
  have hA : ∀ x, x < nH → gz m.H x < 0 → A x = false := fun x hx hf => by
    have := cN_zero zA x hx
    simp only [mtB] at this
    rw [decide_eq_false (by omega)] at this
    simpa using this
  have hB : ∀ p, p < nP → B p = true → 0 ≤ gz m.P p ∧ A (gz m.P p).toNat = false := fun p hp hb => by
    have := cN_zero zB p hp
    simp only [hb, Q, Bool.true_and, Bool.not_eq_false', Bool.and_eq_true, decide_eq_true_eq, Bool.not_eq_true'] at this
    exact this
  have hW : Shut fit m.P nH nP (fun x => !A x) B := by
    refine ⟨fun x p hx hp hw hf => ?_, fun p o hp ho hb e => ?_⟩
    · exact (hc x p hx hp hf).resolve_left (by simpa using hw)
    · obtain ⟨_, h2⟩ := hB p hp hb
      have : (gz m.P p).toNat = o := by omega
      rw [this] at h2
      simp [h2]
  have hin := rchA_inn (H := m.H) hpv hW (fun x hx hf => by simp [hA x hx hf]) nH (Nat.le_refl _)
  obtain ⟨hr, hfree⟩ := rchA_spec (fit := fit) (H := m.H) hpv nH (Nat.le_refl _)
  have hr0 : ∀ x, gb (rchA fit m.H m.P nH nP 0).R x = false := fun x => gb_rep nH x
  have ht0 : ∀ x, gb (rchA fit m.H m.P nH nP 0).T x = false := fun x => gb_rep nP x
  generalize rchA fit m.H m.P nH nP nH = s at hin hr hfree
  refine ⟨hr.ok, fun x p hx hp hf hR => hr.nr x hx hR (hr0 x) p hp hf, ?_⟩
  have e1 := cN_split nH (mtB m.H) (gb s.R)
  have e2 : cN nH (fun x => !gb s.R x) = cN nH (fun x => mtB m.H x && !gb s.R x) := cN_congr fun x hx => by
    constructor
    · intro h
      have hR : gb s.R x = false := by simpa using h
      have : 0 ≤ gz m.H x := by
        rcases Int.lt_or_le (gz m.H x) 0 with h0 | h0
        · rw [hfree x hx h0] at hR; cases hR
        · exact h0
      simp only [mtB, Bool.and_eq_true, decide_eq_true_eq]
      exact ⟨this, by simp [hR]⟩
    · intro h
      simp only [Bool.and_eq_true] at h
      exact h.2
  have e3 : cN nP (gb s.T) ≤ cN nH (fun x => mtB m.H x && gb s.R x) := by
    refine cN_inj (fun p => (gz m.P p).toNat) (fun p hp h => ?_) (fun p q hp hq h1 h2 e => ?_)
    · obtain ⟨k1, _⟩ := hB p hp (hin.2 p hp h)
      have k2 := hpv p hp
      have k3 := hv.val.pp (gz m.P p).toNat p hp (by omega) (by omega)
      refine ⟨by omega, ?_⟩
      simp only [mtB, Bool.and_eq_true, decide_eq_true_eq]
      exact ⟨by omega, hr.nt p hp h (ht0 p) _ (by omega) (by omega)⟩
    · obtain ⟨k1, _⟩ := hB p hp (hin.2 p hp h1)
      obtain ⟨k2, _⟩ := hB q hq (hin.2 q hq h2)
      have l1 := hpv p hp
      have l2 := hpv q hq
      have k3 := hv.val.pp (gz m.P p).toNat p hp (by omega) (by omega)
      have k4 := hv.val.pp (gz m.P q).toNat q hq (by omega) (by omega)
      have e : (gz m.P p).toNat = (gz m.P q).toNat := e
      rw [e] at k3
      omega
  have e4 : cN nH (fun x => mtB m.H x && gb s.R x) ≤ cN nP (gb s.T) := by
    refine cN_inj (fun x => (gz m.H x).toNat) (fun x hx h => ?_) (fun x y hx hy h1 h2 e => ?_)
    · simp only [mtB, Bool.and_eq_true, decide_eq_true_eq] at h
      have hlt := hv.ok.hv x hx
      obtain ⟨k1, k2⟩ := hv.val.hh x (gz m.H x).toNat hx (by omega) (by omega)
      exact ⟨by omega, hr.nr x hx h.2 (hr0 x) _ (by omega) k2⟩
    · simp only [mtB, Bool.and_eq_true, decide_eq_true_eq] at h1 h2
      have l1 := hv.ok.hv x hx
      have l2 := hv.ok.hv y hy
      obtain ⟨k1, _⟩ := hv.val.hh x (gz m.H x).toNat hx (by omega) (by omega)
      obtain ⟨k2, _⟩ := hv.val.hh y (gz m.H y).toNat hy (by omega) (by omega)
      have e : (gz m.H x).toNat = (gz m.H y).toNat := e
      rw [e] at k1
      omega
  omega
end Go.Proofs.Ytogilkilkmoedaa
namespace Go.Proofs.Ytogilkilkmoedaa
open Go Go.Vc Go.RowKit
set_option maxHeartbeats 8000000
/-! KDQ -/
abbrev rO (F : AV) (H P : List Int) (D G : List Bool) (PP : List Int) (nH nP : Nat) (s : RS) : Go.Vc.Own := [(1000, .cells [.av F, .osl 1001, .osl 1002, .osl 1003, .osl 1004]), (1001, .row 3 1 nH (zf H)), (1002, .row 3 1 nP (zf P)), (1003, .row 4 1 D.length (bf D)), (1004, .row 4 1 G.length (bf G)), (1005, .row 4 1 nH (bf s.R)), (1006, .row 4 1 nP (bf s.T)), (1010, .cells [.own 1000 0]), (1011, .cells [.osl 1005]), (1012, .cells [.osl 1006]), (1013, .cells [.clo 61 [.own 1011 0, .av (lz PP), .own 1010 0, .own 1012 0, .own 1013 0]])]
theorem reach_c (HH PP : List Int) (lo up : Int) (H P : List Int) (D G : List Bool) (bH : ∀ i, Bi (gz HH i)) (bP : ∀ i, Bi (gz PP i)) (nH nP : Nat) (eH : HH.length = nH) (eP : PP.length = nP) (hpv : ∀ i, i < nP → gz P i < nH) (sH : nH ≤ 1000) (sP : nP ≤ 1000) :
    ∀ (f h : Nat) (s u : RS), s.Ok nH nP → h < nH → unseen s.R < f → reachF (fitN HH PP lo up) P nP f h s = u → CtrH Try.prog 61 [.av (vi h), .own 1011 0, .av (lz PP), .own 1010 0, .own 1012 0, .own 1013 0] (rO (fcl HH PP lo up) H P D G PP nH nP s) (.av .any) (rO (fcl HH PP lo up) H P D G PP nH nP u)
  | 0, h, s, u, _, _, hu, _ => by omega
  | f + 1, h, s, u, hs, hh, hu, he => by
    refine ctrH _ Try.func61 rfl rfl Try.ntmps61 rfl rfl fun w Z ν => ?_
    have hrl := hs.rl
    unfold reachF at he
    simp only [initT, List.map_cons, List.map_nil, Nat.zero_add, Nat.reduceAdd]
    refine cq_seq ?_
    refine cq_seq ?_
    refine cq_region ?_
    apply sq_g; exact g_load_own rfl rfl rfl; exact rfl
    apply sq_g; exact g_move (s := .av (.val (.int _ _))) rfl; exact rfl
    apply sq_g; exact g_index_row rfl rfl rfl rfl (by omega); exact rfl
    apply sq_g; exact g_load_oel (τ := .val _) rfl rfl (by omega) rfl rfl; exact rfl
    refine sq_nil ?_
    refine sq_then ?_
    refine cq_cond rfl (fun hb => ?_) (fun hb => ?_)
    · rw [if_pos hb] at he
      subst he
      refine cq_ret ?_
      refine sq_then_ret ?_
      exact sq_retH0 rfl rfl rfl
    · rw [if_neg (by rw [hb]; simp)] at he
      have hun := unseen_see (S := s.R) (i := h) (by omega) hb
      have hrs : ∀ n, n = s.R.length → RLe (.row 4 1 n (rowSet (bf s.R) h 0 [vb true])) (.row 4 1 n (bf (s.reach h).R)) := fun n hn => rle_b rfl hn (by omega)
      refine cq_skip ?_
      refine sq_then ?_
      refine cq_seq ?_
      refine cq_region ?_
      apply sq_g; exact g_load_own rfl rfl rfl; exact rfl
      apply sq_g; exact g_move (s := .av (.val (.int _ _))) rfl; exact rfl
      apply sq_g; exact g_index_row rfl rfl rfl rfl (by omega); exact rfl
      refine sq_s (g_store_oel rfl rfl rfl rfl (by omega) rfl) ?_
      refine sq_nil ?_
      refine sq_then ?_
      refine cq_seq ?_
      refine cq_region ?_
      apply sq_g; exact g_load rfl rfl rfl; exact rfl
      apply sq_g; exact g_len rfl; exact rfl
      apply sq_g; exact g_move (s := .av (.val (.int _ _))) rfl; exact rfl
      refine sq_nil ?_
      refine sq_then ?_
      refine cq_block ?_
      refine cq_loop (γ := Nat × RS) (fun g => [(0, .av (vi h)), (1, .own 1011 0), (2, .av (lz PP)), (3, .own 1010 0), (4, .own 1012 0), (5, .own 1013 0), (17, .av (vi nP)), (18, .av (vi g.1))]) (fun g => rO (fcl HH PP lo up) H P D G PP nH nP g.2) (fun g => g.1 ≤ nP ∧ g.2.Ok nH nP ∧ unseen g.2.R < f ∧ reachL (fitN HH PP lo up) P (reachF (fitN HH PP lo up) P nP f) h (nP - g.1) g.1 g.2 = u) (fun g => nP - g.1) (0, s.reach h) ⟨Nat.zero_le _, hs.reach h, by simp only [RS.reach]; omega, he⟩ (ent ⟨.refl _, .refl _, .refl _, .refl _, .refl _, .refl _, .int (by omega), .refl _, trivial⟩ ⟨⟨_, rfl, .refl _⟩, ⟨_, rfl, .refl _⟩, ⟨_, rfl, .refl _⟩, ⟨_, rfl, .refl _⟩, ⟨_, rfl, .refl _⟩, ⟨_, rfl, hrs _ (by omega)⟩, ⟨_, rfl, .refl _⟩, ⟨_, rfl, .refl _⟩, ⟨_, rfl, .refl _⟩, ⟨_, rfl, .refl _⟩, ⟨_, rfl, .refl _⟩, trivial⟩) ?_
      rintro ⟨i, t⟩ ⟨hi, ht, hut, hg⟩
      dsimp only at hi ht hut hg ⊢
      refine cq_seq ?_
      refine cq_region ?_
      apply sq_g; exact g_cmp rfl rfl rfl; exact rfl
      refine sq_nil ?_
      refine sq_then ?_
      refine cq_seq ?_
      refine cq_cond rfl (fun hb => ?_) (fun hb => ?_)
      · have hi' : i < nP := by simpa using hb
        have hc : nP - i = (nP - (i + 1)) + 1 := by omega
        rw [hc] at hg
        unfold reachL at hg
        have cf := fit1_c HH PP lo up bH bP h i (by omega) (by omega)
        have htl := ht.tl
        have hp := hpv i hi'
        focus
          refine cq_skip ?_
          refine sq_then ?_
          refine cq_seq ?_
          refine cq_block ?_
          refine cq_seq ?_
          refine cq_region ?_
          apply sq_g; exact g_move (s := .av (.val (.int _ _))) rfl; exact rfl
          apply sq_g; exact g_assign (s := .av (.val (.int _ _))) rfl; exact rfl
          refine sq_nil ?_
          refine sq_then ?_
          refine cq_seq ?_
          refine cq_region ?_
          apply sq_g; exact g_load_own rfl rfl rfl; exact rfl
          apply sq_g; exact g_nilCheck rfl; exact rfl
          apply sq_g; exact g_field_own rfl; exact rfl
          apply sq_g; exact g_load_own (s := .av _) rfl rfl rfl; exact rfl
          apply sq_g; exact g_move (s := .av (.val (.int _ _))) rfl; exact rfl
          apply sq_g; exact g_move (s := .av (.val (.int _ _))) rfl; exact rfl
          apply sq_g; exact  g_callc (τs := [_, _]) (n := 3) (cf := fun i => [lz HH, lz PP, blim lo up].getD i .any) cf rfl rfl; exact rfl
          apply sq_g; exact g_move (s := .av (.val (.bool _))) rfl; exact rfl
          refine sq_split rfl rfl (fun hb => ?_) (fun hb => ?_) <;> (try simp only [decide_eq_true_eq, decide_eq_false_iff_not, beq_iff_eq, beq_eq_false_iff_ne, bne_iff_ne, bne_eq_false_iff_eq, ne_eq, Bool.not_eq_true', Bool.not_eq_false', Bool.and_eq_true, Bool.or_eq_true, Bool.and_eq_false_iff, Bool.or_eq_false_iff] at hb) <;> (try (exfalso; omega))
          apply sq_on; exact g_load_own rfl rfl rfl; exact rfl; exact rfl; exact rfl
          apply sq_on; exact g_move (s := .av (.val (.int _ _))) rfl; exact rfl; exact rfl; exact rfl
          apply sq_on; exact g_index_row rfl rfl rfl rfl (by omega); exact rfl; exact rfl; exact rfl
          apply sq_on; exact g_load_oel (τ := .val _) rfl rfl (by omega) rfl rfl; exact rfl; exact rfl; exact rfl
          apply sq_on; exact g_not rfl; exact rfl; exact rfl; exact rfl
          apply sq_g; exact g_pick (s := .av (.val (.bool _))) rfl rfl; exact rfl
          refine sq_nil ?_
          refine sq_then ?_
          rotate_left
          refine sq_off rfl rfl rfl rfl ?_
          refine sq_off rfl rfl rfl rfl ?_
          refine sq_off rfl rfl rfl rfl ?_
          refine sq_off rfl rfl rfl rfl ?_
          refine sq_off rfl rfl rfl rfl ?_
          apply sq_g; exact g_pick (s := .av (.val (.bool _))) rfl rfl; exact rfl
          refine sq_nil ?_
          refine sq_then ?_
          refine cq_cond_f rfl ?_
          refine cq_skip ?_
          refine sq_then ?_
          refine cq_region ?_
          apply sq_g; exact g_arith rfl rfl rfl (by omega); exact rfl
          apply sq_g; exact g_move (s := .av (.val (.int _ _))) rfl; exact rfl
          refine sq_nil ?_
          rotate_left
        · have hfit := hb
          refine cq_cond rfl (fun hb => ?_) (fun hb => ?_)
          · have hT : gb t.T i = false := by simpa using hb
            rw [if_pos (by rw [hfit, hT]; rfl)] at hg
            have hts : ∀ n, n = t.T.length → RLe (.row 4 1 n (rowSet (bf t.T) i 0 [vb true])) (.row 4 1 n (bf (t.touch i).T)) := fun n hn => rle_b rfl hn (by omega)
            by_cases h0 : 0 ≤ gz P i
            · rw [if_pos h0] at hg
              have hpi : gz P i = (((gz P i).toNat : Nat) : Int) := by omega
              have ic := reach_c HH PP lo up H P D G bH bP nH nP eH eP hpv sH sP f (gz P i).toNat (t.touch i) _ (ht.touch i) (by omega) hut rfl
              rw [← hpi] at ic
              have hr := (reachF_rch (fit := fitN HH PP lo up) hpv f (gz P i).toNat (t.touch i) (ht.touch i) (by omega) hut).1
              have hru := hr.un
              have hrok := hr.ok
              generalize reachF (fitN HH PP lo up) P nP f (gz P i).toNat (t.touch i) = q at ic hg hru hrok
              refine cq_seq ?_
              refine cq_region ?_
              apply sq_g; exact g_load_own rfl rfl rfl; exact rfl
              apply sq_g; exact g_move (s := .av (.val (.int _ _))) rfl; exact rfl
              apply sq_g; exact g_index_row rfl rfl rfl rfl (by omega); exact rfl
              refine sq_s (g_store_oel rfl rfl rfl rfl (by omega) rfl) ?_
              refine sq_nil ?_
              refine sq_then ?_
              refine cq_seq ?_
              refine cq_region ?_
              apply sq_g; exact g_load_own rfl rfl rfl; exact rfl
              apply sq_g; exact g_nilCheck rfl; exact rfl
              apply sq_g; exact g_field_own rfl; exact rfl
              apply sq_g; exact g_load_own rfl rfl rfl; exact rfl
              apply sq_g; exact g_move (s := .av (.val (.int _ _))) rfl; exact rfl
              apply sq_g; exact g_index_row rfl rfl rfl rfl (by omega); exact rfl
              apply sq_g; exact g_load_oel (τ := .val (.int _ _)) rfl rfl (by omega) rfl rfl; exact rfl
              apply sq_g; exact g_assign (s := .av (.val (.int _ _))) rfl; exact rfl
              refine sq_nil ?_
              refine sq_then ?_
              refine cq_seq ?_
              refine cq_region ?_
              apply sq_g; exact g_move (s := .av (.val (.int _ _))) rfl; exact rfl
              apply sq_g; exact g_cmp rfl rfl rfl; exact rfl
              refine sq_nil ?_
              refine sq_then ?_
              refine cq_cond rfl (fun hb => ?_) (fun hb => ?_)
              · refine cq_region ?_
                apply sq_g; exact g_load_own rfl rfl rfl; exact rfl
                apply sq_g; exact g_move (s := .av (.val (.int _ _))) rfl; exact rfl
                refine sq_v (VStep.pre (ent_upd (upd := [(1006, .row 4 1 nP (bf (t.touch i).T))]) ⟨⟨_, rfl, hts _ (by omega)⟩, trivial⟩) (v_call_hc [] ic rfl rfl ⟨rfl, rfl, rfl, rfl, rfl, rfl, rfl, rfl, rfl, rfl, rfl, trivial⟩ rfl)) rfl ?_
                refine sq_nil ?_
                refine sq_then ?_
                refine cq_region ?_
                apply sq_g; exact g_arith rfl rfl rfl (by omega); exact rfl
                apply sq_g; exact g_move (s := .av (.val (.int _ _))) rfl; exact rfl
                refine sq_nil ?_
                exact sq_round (g := (i, t)) (i + 1, q) ⟨by dsimp only; omega, hrok, Nat.lt_of_le_of_lt hru hut, hg⟩ (by dsimp only; omega) (ent ⟨.refl _, .refl _, .refl _, .refl _, .refl _, .refl _, .refl _, .int (by dsimp only; omega), trivial⟩ ⟨⟨_, rfl, .refl _⟩, ⟨_, rfl, .refl _⟩, ⟨_, rfl, .refl _⟩, ⟨_, rfl, .refl _⟩, ⟨_, rfl, .refl _⟩, ⟨_, rfl, .refl _⟩, ⟨_, rfl, .refl _⟩, ⟨_, rfl, .refl _⟩, ⟨_, rfl, .refl _⟩, ⟨_, rfl, .refl _⟩, ⟨_, rfl, .refl _⟩, trivial⟩)
              · exact absurd h0 (by simpa using hb)
            · rw [if_neg h0] at hg
              refine cq_seq ?_
              refine cq_region ?_
              apply sq_g; exact g_load_own rfl rfl rfl; exact rfl
              apply sq_g; exact g_move (s := .av (.val (.int _ _))) rfl; exact rfl
              apply sq_g; exact g_index_row rfl rfl rfl rfl (by omega); exact rfl
              refine sq_s (g_store_oel rfl rfl rfl rfl (by omega) rfl) ?_
              refine sq_nil ?_
              refine sq_then ?_
              refine cq_seq ?_
              refine cq_region ?_
              apply sq_g; exact g_load_own rfl rfl rfl; exact rfl
              apply sq_g; exact g_nilCheck rfl; exact rfl
              apply sq_g; exact g_field_own rfl; exact rfl
              apply sq_g; exact g_load_own rfl rfl rfl; exact rfl
              apply sq_g; exact g_move (s := .av (.val (.int _ _))) rfl; exact rfl
              apply sq_g; exact g_index_row rfl rfl rfl rfl (by omega); exact rfl
              apply sq_g; exact g_load_oel (τ := .val (.int _ _)) rfl rfl (by omega) rfl rfl; exact rfl
              apply sq_g; exact g_assign (s := .av (.val (.int _ _))) rfl; exact rfl
              refine sq_nil ?_
              refine sq_then ?_
              refine cq_seq ?_
              refine cq_region ?_
              apply sq_g; exact g_move (s := .av (.val (.int _ _))) rfl; exact rfl
              apply sq_g; exact g_cmp rfl rfl rfl; exact rfl
              refine sq_nil ?_
              refine sq_then ?_
              refine cq_cond rfl (fun hb => ?_) (fun hb => ?_)
              · exact absurd (by simpa using hb) h0
              · refine cq_skip ?_
                refine sq_then ?_
                refine cq_region ?_
                apply sq_g; exact g_arith rfl rfl rfl (by omega); exact rfl
                apply sq_g; exact g_move (s := .av (.val (.int _ _))) rfl; exact rfl
                refine sq_nil ?_
                exact sq_round (g := (i, t)) (i + 1, t.touch i) ⟨by dsimp only; omega, ht.touch i, hut, hg⟩ (by dsimp only; omega) (ent ⟨.refl _, .refl _, .refl _, .refl _, .refl _, .refl _, .refl _, .int (by dsimp only; omega), trivial⟩ ⟨⟨_, rfl, .refl _⟩, ⟨_, rfl, .refl _⟩, ⟨_, rfl, .refl _⟩, ⟨_, rfl, .refl _⟩, ⟨_, rfl, .refl _⟩, ⟨_, rfl, .refl _⟩, ⟨_, rfl, hts _ (by omega)⟩, ⟨_, rfl, .refl _⟩, ⟨_, rfl, .refl _⟩, ⟨_, rfl, .refl _⟩, ⟨_, rfl, .refl _⟩, trivial⟩)
          · have hT : gb t.T i = true := by simpa using hb
            rw [if_neg (by rw [hT]; simp)] at hg
            refine cq_skip ?_
            refine sq_then ?_
            refine cq_region ?_
            apply sq_g; exact g_arith rfl rfl rfl (by omega); exact rfl
            apply sq_g; exact g_move (s := .av (.val (.int _ _))) rfl; exact rfl
            refine sq_nil ?_
            exact sq_round (g := (i, t)) (i + 1, t) ⟨by dsimp only; omega, ht, hut, hg⟩ (by dsimp only; omega) (ent ⟨.refl _, .refl _, .refl _, .refl _, .refl _, .refl _, .refl _, .int (by dsimp only; omega), trivial⟩ ⟨⟨_, rfl, .refl _⟩, ⟨_, rfl, .refl _⟩, ⟨_, rfl, .refl _⟩, ⟨_, rfl, .refl _⟩, ⟨_, rfl, .refl _⟩, ⟨_, rfl, .refl _⟩, ⟨_, rfl, .refl _⟩, ⟨_, rfl, .refl _⟩, ⟨_, rfl, .refl _⟩, ⟨_, rfl, .refl _⟩, ⟨_, rfl, .refl _⟩, trivial⟩)
        · rw [if_neg (by rw [hb]; simp)] at hg
          exact sq_round (g := (i, t)) (i + 1, t) ⟨by dsimp only; omega, ht, hut, hg⟩ (by dsimp only; omega) (ent ⟨.refl _, .refl _, .refl _, .refl _, .refl _, .refl _, .refl _, .int (by dsimp only; omega), trivial⟩ ⟨⟨_, rfl, .refl _⟩, ⟨_, rfl, .refl _⟩, ⟨_, rfl, .refl _⟩, ⟨_, rfl, .refl _⟩, ⟨_, rfl, .refl _⟩, ⟨_, rfl, .refl _⟩, ⟨_, rfl, .refl _⟩, ⟨_, rfl, .refl _⟩, ⟨_, rfl, .refl _⟩, ⟨_, rfl, .refl _⟩, ⟨_, rfl, .refl _⟩, trivial⟩)
      · have hi' : i = nP := by simp at hb; omega
        subst hi'
        rw [Nat.sub_self] at hg
        unfold reachL at hg
        subst hg
        refine cq_exit ?_
        refine sq_then_exit ?_
        refine sq_then_exit ?_
        refine sq_inBlock_exit ?_
        exact sq_retH0 rfl rfl rfl
end Go.Proofs.Ytogilkilkmoedaa
namespace Go.Proofs.Ytogilkilkmoedaa
open Go Go.Vc Go.RowKit
set_option maxHeartbeats 8000000
/-! KDQ -/
def selN (p : Nat → Bool) (k : Nat) : List Nat := (List.range k).filter p
theorem selN_succ (p : Nat → Bool) (k : Nat) : selN p (k + 1) = if p k = true then selN p k ++ [k] else selN p k := by
  unfold selN
  rw [List.range_succ, List.filter_append]
  cases h : p k <;> simp [h]
theorem selN_len (p : Nat → Bool) (k : Nat) : (selN p k).length ≤ k := Nat.le_trans (List.length_filter_le _ _) (by simp)
def intL (l : List Nat) : List Int := l.map (fun x : Nat => (x : Int))
theorem rle_xz (l : List Nat) : RLe (.row 3 1 l.length (xf l)) (.row 3 1 (intL l).length (zf (intL l))) :=
  .row (by simp [intL]) fun i hi j hj => by
    unfold xf zf gz gi intL
    simp [List.getD, hi]
abbrev bO (F : AV) (H P : List Int) (D G : List Bool) (PP : List Int) (nH nP : Nat) (s : RS) : Go.Vc.Own := [(20, .cells [.av F, .osl 21, .osl 22, .osl 23, .osl 24]), (21, .row 3 1 nH (zf H)), (22, .row 3 1 nP (zf P)), (23, .row 4 1 D.length (bf D)), (24, .row 4 1 G.length (bf G)), (25, .row 4 1 nH (bf s.R)), (26, .row 4 1 nP (bf s.T)), (10, .cells [.own 20 0]), (11, .cells [.osl 25]), (12, .cells [.osl 26]), (13, .cells [.clo 61 [.own 11 0, .av (lz PP), .own 10 0, .own 12 0, .own 13 0]])]
def blkS (HH PP : List Int) (lo up : Int) : RS := rchA (fitN HH PP lo up) (mostN (fitN HH PP lo up) HH.length PP.length HH.length).H (mostN (fitN HH PP lo up) HH.length PP.length HH.length).P HH.length PP.length HH.length
def blkH (HH PP : List Int) (lo up : Int) : List Nat := selN (fun x => !gb (blkS HH PP lo up).R x) HH.length
def blkP (HH PP : List Int) (lo up : Int) : List Nat := selN (gb (blkS HH PP lo up).T) PP.length
theorem blocker_c (HH PP : List Int) (lo up : Int) (he : errC HH PP lo up = 0) : CtrA Try.prog 34 [zs HH, zs PP, lim lo up] (tupOf [zs (intL (blkH HH PP lo up)), zs (intL (blkP HH PP lo up)), vi 0]) := by
  refine ctrA _ Try.func34 rfl rfl Try.ntmps34 rfl fun w Z => ?_
  have hchk := check_c HH PP lo up
  rw [he] at hchk
  obtain ⟨rH, rP⟩ := errC_ok he
  have bH := rH.bi
  have bP := rP.bi
  have sH := rH.len
  have sP := rP.len
  have hmost := most_c HH PP lo up bH bP (by omega) (by omega)
  have hI := mostN_I (fit := fitN HH PP lo up) (nP := PP.length) HH.length (Nat.le_refl _)
  have hv := hI.v
  have hml1 : HH.length ≤ maxLen := by simp only [maxLen]; omega
  have hml2 : PP.length ≤ maxLen := by simp only [maxLen]; omega
  unfold blkH blkP blkS
  generalize hm : mostN (fitN HH PP lo up) HH.length PP.length HH.length = m at hmost hv ⊢
  simp only [initT, List.map_cons, List.map_nil, Nat.zero_add, Nat.reduceAdd]
  refine cq_seq ?_
  refine cq_region ?_
  apply sq_g; exact g_box rfl rfl; exact rfl
  apply sq_g; exact g_box_agg rfl; exact rfl
  apply sq_g; exact g_assign (s := .av _) rfl; exact rfl
  apply sq_g; exact g_assign (s := .av _) rfl; exact rfl
  apply sq_g; exact g_assign (s := .av (.val (.int _ _))) rfl; exact rfl
  refine sq_nil ?_
  refine sq_then ?_
  refine cq_seq ?_
  refine cq_seq ?_
  refine cq_region ?_
  apply sq_g; exact g_move (s := .av _) rfl; exact rfl
  apply sq_g; exact g_load rfl rfl rfl; exact rfl
  apply sq_g; exact g_load_agg (us := [.int _ _, .int _ _]) rfl rfl rfl rfl; exact rfl
  apply sq_g; exact g_call (hchk) rfl; exact rfl
  apply sq_g; exact g_assign (s := .av (.val (.int _ _))) rfl; exact rfl
  refine sq_nil ?_
  refine sq_then ?_
  refine cq_seq ?_
  refine cq_region ?_
  apply sq_g; exact g_move (s := .av (.val (.int _ _))) rfl; exact rfl
  apply sq_g; exact g_cmp rfl rfl rfl; exact rfl
  refine sq_nil ?_
  refine sq_then ?_
  refine cq_cond_f rfl ?_
  refine cq_skip ?_
  refine sq_then ?_
  refine cq_seq ?_
  refine cq_region ?_
  apply sq_g; exact g_move (s := .av _) rfl; exact rfl
  apply sq_g; exact g_load rfl rfl rfl; exact rfl
  apply sq_g; exact g_load_agg (us := [.int _ _, .int _ _]) rfl rfl rfl rfl; exact rfl
  refine sq_v (v_call_h [(1, 20), (2, 21), (3, 22), (4, 23), (5, 24)] hmost rfl trivial rfl) rfl ?_
  refine sq_v (f_alloc 10 rfl) rfl ?_
  refine sq_s (g_store' rfl rfl rfl rfl rfl rfl) ?_
  refine sq_nil ?_
  refine sq_then ?_
  refine cq_seq ?_
  refine cq_drawn ?_
  apply dq_g; exact g_move (s := .av _) rfl; exact rfl
  apply dq_g; exact g_len rfl; exact rfl
  refine dq_v (ga_make 25 (n := HH.length) (zs := [.bool false]) rfl zi4 rfl rfl rfl rfl hml1 (by omega)) rfl rfl ?_
  apply dq_g; exact g_load rfl rfl rfl; exact rfl
  apply dq_g; exact g_len rfl; exact rfl
  refine dq_v (ga_make 26 (n := PP.length) (zs := [.bool false]) rfl zi4 rfl rfl rfl rfl hml2 (by omega)) rfl rfl ?_
  refine dq_v (ga_alloc 11) rfl rfl ?_
  refine dq_v (ga_alloc 12) rfl rfl ?_
  refine dq_s (g_store_osl rfl rfl rfl rfl rfl) ?_
  refine dq_s (g_store_osl rfl rfl rfl rfl rfl) ?_
  refine dq_nil tm (by kernel_rfl) ?_
  refine sq_then ?_
  refine cq_seq ?_
  refine cq_region ?_
  refine sq_v (f_alloc 13 rfl) rfl ?_
  refine sq_nil ?_
  refine sq_then ?_
  refine cq_seq ?_
  refine cq_region ?_
  apply sq_g; exact  g_makeFunc_s (caps := [.own 11 0, .av (lz PP), .own 10 0, .own 12 0, .own 13 0]) rfl; exact rfl
  refine sq_s (g_store' rfl rfl rfl rfl rfl rfl) ?_
  refine sq_nil ?_
  refine sq_then ?_
  refine cq_seq ?_
  refine cq_seq ?_
  refine cq_region ?_
  apply sq_g; exact g_load_own rfl rfl rfl; exact rfl
  apply sq_g; exact g_nilCheck rfl; exact rfl
  apply sq_g; exact g_field_own rfl; exact rfl
  apply sq_g; exact g_load_own rfl rfl rfl; exact rfl
  apply sq_g; exact g_len_own rfl rfl; exact rfl
  apply sq_g; exact g_move (s := .av (.val (.int _ _))) rfl; exact rfl
  refine sq_nil ?_
  refine sq_then ?_
  refine cq_block ?_
  have hHl := hv.ok.hl
  have hPl := hv.ok.pl
  have hpv := hv.ok.pv
  refine cq_loop (γ := Nat) (fun k => [(10, .own 10 0), (11, .own 11 0), (12, .own 12 0), (13, .own 13 0), (42, .osl 21), (43, .av (vi HH.length)), (44, .av (vi k))]) (fun k => bO (fcl HH PP lo up) m.H m.P m.D m.G PP HH.length PP.length (rchA (fitN HH PP lo up) m.H m.P HH.length PP.length k)) (fun k => k ≤ HH.length) (fun k => HH.length - k) 0 (Nat.zero_le _) (ent ⟨.refl _, .refl _, .refl _, .refl _, .refl _, .int (by omega), .refl _, trivial⟩ ⟨⟨_, rfl, .refl _⟩, ⟨_, rfl, .row hHl (fun _ _ _ _ => rfl)⟩, ⟨_, rfl, .row hPl (fun _ _ _ _ => rfl)⟩, ⟨_, rfl, .refl _⟩, ⟨_, rfl, .refl _⟩, ⟨_, rfl, .row rfl (bf_rep _)⟩, ⟨_, rfl, .row rfl (bf_rep _)⟩, ⟨_, rfl, .refl _⟩, ⟨_, rfl, .refl _⟩, ⟨_, rfl, .refl _⟩, ⟨_, rfl, .refl _⟩, trivial⟩) ?_
  intro k hk
  refine cq_seq ?_
  refine cq_region ?_
  apply sq_g; exact g_cmp rfl rfl rfl; exact rfl
  refine sq_nil ?_
  refine sq_then ?_
  refine cq_seq ?_
  (refine cq_cond rfl (fun hb => ?_) (fun hb => ?_) <;> (try simp only [decide_eq_true_eq, decide_eq_false_iff_not, beq_iff_eq, beq_eq_false_iff_ne, bne_iff_ne, bne_eq_false_iff_eq, ne_eq, Bool.not_eq_true', Bool.not_eq_false', Bool.and_eq_true, Bool.or_eq_true, Bool.and_eq_false_iff, Bool.or_eq_false_iff] at hb) <;> (try (exfalso; omega)))
  · have hkl : k < HH.length := by omega
    have hrs := (rchA_spec (fit := fitN HH PP lo up) (H := m.H) hpv k (by omega)).1
    have hst : rchA (fitN HH PP lo up) m.H m.P HH.length PP.length (k + 1) = if gz m.H k < 0 then reachF (fitN HH PP lo up) m.P PP.length (HH.length + 1) k (rchA (fitN HH PP lo up) m.H m.P HH.length PP.length k) else rchA (fitN HH PP lo up) m.H m.P HH.length PP.length k := rfl
    have hok := hrs.ok
    generalize rchA (fitN HH PP lo up) m.H m.P HH.length PP.length k = s at hok hst ⊢
    have hu : unseen s.R < HH.length + 1 := by
      have := unseen_le s.R
      have := hok.rl
      omega
    have ic := reach_c HH PP lo up m.H m.P m.D m.G bH bP HH.length PP.length rfl rfl hpv (by omega) (by omega) (HH.length + 1) k s _ hok hkl hu rfl
    refine cq_skip ?_
    refine sq_then ?_
    refine cq_seq ?_
    refine cq_block ?_
    refine cq_seq ?_
    refine cq_region ?_
    apply sq_g; exact g_move (s := .av (.val (.int _ _))) rfl; exact rfl
    apply sq_g; exact g_index_row rfl rfl rfl rfl (by omega); exact rfl
    apply sq_g; exact g_load_oel (τ := .val (.int _ _)) rfl rfl (by omega) rfl rfl; exact rfl
    apply sq_g; exact g_assign (s := .av (.val (.int _ _))) rfl; exact rfl
    apply sq_g; exact g_assign (s := .av (.val (.int _ _))) rfl; exact rfl
    refine sq_nil ?_
    refine sq_then ?_
    refine cq_seq ?_
    refine cq_region ?_
    apply sq_g; exact g_move (s := .av (.val (.int _ _))) rfl; exact rfl
    apply sq_g; exact g_cmp rfl rfl rfl; exact rfl
    refine sq_nil ?_
    refine sq_then ?_
    (refine cq_cond rfl (fun hb => ?_) (fun hb => ?_) <;> (try simp only [decide_eq_true_eq, decide_eq_false_iff_not, beq_iff_eq, beq_eq_false_iff_ne, bne_iff_ne, bne_eq_false_iff_eq, ne_eq, Bool.not_eq_true', Bool.not_eq_false', Bool.and_eq_true, Bool.or_eq_true, Bool.and_eq_false_iff, Bool.or_eq_false_iff] at hb) <;> (try (exfalso; omega)))
    · rw [if_pos hb] at hst
      refine cq_region ?_
      apply sq_g; exact g_load_own rfl rfl rfl; exact rfl
      apply sq_g; exact g_move (s := .av (.val (.int _ _))) rfl; exact rfl
      refine sq_v (v_call_hc [(1000, 20), (1001, 21), (1002, 22), (1003, 23), (1004, 24), (1005, 25), (1006, 26), (1010, 10), (1011, 11), (1012, 12), (1013, 13)] ic rfl rfl ⟨rfl, rfl, rfl, rfl, rfl, rfl, rfl, rfl, rfl, rfl, rfl, trivial⟩ rfl) rfl ?_
      refine sq_nil ?_
      refine sq_then ?_
      refine cq_region ?_
      apply sq_g; exact g_arith rfl rfl rfl (by omega); exact rfl
      apply sq_g; exact g_move (s := .av (.val (.int _ _))) rfl; exact rfl
      refine sq_nil ?_
      refine sq_round (k + 1) (by omega) (by omega) ?_
      rw [hst]
      exact ent ⟨.refl _, .refl _, .refl _, .refl _, .refl _, .refl _, .int (by omega), trivial⟩ ⟨⟨_, rfl, .refl _⟩, ⟨_, rfl, .refl _⟩, ⟨_, rfl, .refl _⟩, ⟨_, rfl, .refl _⟩, ⟨_, rfl, .refl _⟩, ⟨_, rfl, .refl _⟩, ⟨_, rfl, .refl _⟩, ⟨_, rfl, .refl _⟩, ⟨_, rfl, .refl _⟩, ⟨_, rfl, .refl _⟩, ⟨_, rfl, .refl _⟩, trivial⟩
    · rw [if_neg hb] at hst
      refine cq_skip ?_
      refine sq_then ?_
      refine cq_region ?_
      apply sq_g; exact g_arith rfl rfl rfl (by omega); exact rfl
      apply sq_g; exact g_move (s := .av (.val (.int _ _))) rfl; exact rfl
      refine sq_nil ?_
      refine sq_round (k + 1) (by omega) (by omega) ?_
      rw [hst]
      exact ent ⟨.refl _, .refl _, .refl _, .refl _, .refl _, .refl _, .int (by omega), trivial⟩ ⟨⟨_, rfl, .refl _⟩, ⟨_, rfl, .refl _⟩, ⟨_, rfl, .refl _⟩, ⟨_, rfl, .refl _⟩, ⟨_, rfl, .refl _⟩, ⟨_, rfl, .refl _⟩, ⟨_, rfl, .refl _⟩, ⟨_, rfl, .refl _⟩, ⟨_, rfl, .refl _⟩, ⟨_, rfl, .refl _⟩, ⟨_, rfl, .refl _⟩, trivial⟩
  · have hkl : k = HH.length := by omega
    subst hkl
    have hrs := (rchA_spec (fit := fitN HH PP lo up) (H := m.H) hpv HH.length (Nat.le_refl _)).1
    have hok := hrs.ok
    generalize rchA (fitN HH PP lo up) m.H m.P HH.length PP.length HH.length = s at hok ⊢
    refine cq_exit ?_
    refine sq_then ?_
    refine cq_seq ?_
    refine cq_region ?_
    refine sq_v (f_alloc 14 rfl) rfl ?_
    refine sq_nil ?_
    refine sq_then ?_
    refine cq_seq ?_
    refine cq_seq ?_
    refine cq_region ?_
    apply sq_g; exact g_load_own rfl rfl rfl; exact rfl
    apply sq_g; exact g_len_own rfl rfl; exact rfl
    apply sq_g; exact g_move (s := .av (.val (.int _ _))) rfl; exact rfl
    refine sq_nil ?_
    refine sq_then ?_
    refine cq_block ?_
    refine cq_loop (γ := Nat) (fun k => [(12, .own 12 0), (16, .own 14 0), (55, .osl 25), (56, .av (vi HH.length)), (57, .av (vi k))]) (fun k => [(14, .cells [.osl 50, .av (.val (.slice none 0 0))]), (50, .row 3 1 (selN (fun x => !gb s.R x) k).length (xf (selN (fun x => !gb s.R x) k))), (25, .row 4 1 HH.length (bf s.R)), (26, .row 4 1 PP.length (bf s.T)), (12, .cells [.osl 26])]) (fun k => k ≤ HH.length) (fun k => HH.length - k) 0 (Nat.zero_le _) (Ent.trans (ent_rowc 50 3 1 (xf []) (r := 14) (off := 0) rfl rfl rfl) (ent ⟨.refl _, .refl _, .refl _, .refl _, .refl _, trivial⟩ ⟨⟨_, rfl, .refl _⟩, ⟨_, rfl, .refl _⟩, ⟨_, rfl, .refl _⟩, ⟨_, rfl, .refl _⟩, ⟨_, rfl, .refl _⟩, trivial⟩)) ?_
    intro k hk
    refine cq_seq ?_
    refine cq_region ?_
    apply sq_g; exact g_cmp rfl rfl rfl; exact rfl
    refine sq_nil ?_
    refine sq_then ?_
    refine cq_seq ?_
    (refine cq_cond rfl (fun hb => ?_) (fun hb => ?_) <;> (try simp only [decide_eq_true_eq, decide_eq_false_iff_not, beq_iff_eq, beq_eq_false_iff_ne, bne_iff_ne, bne_eq_false_iff_eq, ne_eq, Bool.not_eq_true', Bool.not_eq_false', Bool.and_eq_true, Bool.or_eq_true, Bool.and_eq_false_iff, Bool.or_eq_false_iff] at hb) <;> (try (exfalso; omega)))
    · have hkl : k < HH.length := by omega
      have hst := selN_succ (fun x => !gb s.R x) k
      have hsl := selN_len (fun x => !gb s.R x) k
      refine cq_skip ?_
      refine sq_then ?_
      refine cq_seq ?_
      refine cq_block ?_
      refine cq_seq ?_
      refine cq_region ?_
      apply sq_g; exact g_move (s := .av (.val (.int _ _))) rfl; exact rfl
      apply sq_g; exact g_index_row rfl rfl rfl rfl (by omega); exact rfl
      apply sq_g; exact g_load_oel (τ := .val _) rfl rfl (by omega) rfl rfl; exact rfl
      apply sq_g; exact g_assign (s := .av (.val (.int _ _))) rfl; exact rfl
      apply sq_g; exact g_assign (s := .av (.val (.bool _))) rfl; exact rfl
      refine sq_nil ?_
      refine sq_then ?_
      refine cq_seq ?_
      refine cq_region ?_
      apply sq_g; exact g_move (s := .av (.val (.bool _))) rfl; exact rfl
      apply sq_g; exact g_not rfl; exact rfl
      refine sq_nil ?_
      refine sq_then ?_
      refine cq_cond rfl (fun hb => ?_) (fun hb => ?_)
      · rw [if_pos hb] at hst
        refine cq_region ?_
        apply sq_g; exact g_index_own rfl rfl rfl (by decide); exact rfl
        apply sq_g; exact g_load_own rfl rfl rfl; exact rfl
        apply sq_g; exact g_move (s := .av (.val (.int _ _))) rfl; exact rfl
        apply sq_g; exact g_one_ix (tq22 _) rfl rfl; exact rfl
        refine sq_v (v_push_ix rfl rfl rfl (by omega) rfl) rfl ?_
        apply sq_g; exact g_index_own rfl rfl rfl (by decide); exact rfl
        refine sq_s (g_store_osl rfl rfl rfl rfl rfl) ?_
        refine sq_nil ?_
        refine sq_then ?_
        refine cq_region ?_
        apply sq_g; exact g_arith rfl rfl rfl (by omega); exact rfl
        apply sq_g; exact g_move (s := .av (.val (.int _ _))) rfl; exact rfl
        refine sq_nil ?_
        refine sq_round (k + 1) (by omega) (by omega) ?_
        rw [hst]
        exact ent ⟨.refl _, .refl _, .refl _, .refl _, .int (by omega), trivial⟩ ⟨⟨_, rfl, .refl _⟩, ⟨_, rfl, .refl _⟩, ⟨_, rfl, .refl _⟩, ⟨_, rfl, .refl _⟩, ⟨_, rfl, .refl _⟩, trivial⟩
      · rw [if_neg (by rw [hb]; simp)] at hst
        refine cq_skip ?_
        refine sq_then ?_
        refine cq_region ?_
        apply sq_g; exact g_arith rfl rfl rfl (by omega); exact rfl
        apply sq_g; exact g_move (s := .av (.val (.int _ _))) rfl; exact rfl
        refine sq_nil ?_
        refine sq_round (k + 1) (by omega) (by omega) ?_
        rw [hst]
        exact ent ⟨.refl _, .refl _, .refl _, .refl _, .int (by omega), trivial⟩ ⟨⟨_, rfl, .refl _⟩, ⟨_, rfl, .refl _⟩, ⟨_, rfl, .refl _⟩, ⟨_, rfl, .refl _⟩, ⟨_, rfl, .refl _⟩, trivial⟩
    · have hkl : k = HH.length := by omega
      subst hkl
      have hL1 := selN_len (fun x => !gb s.R x) HH.length
      generalize selN (fun x => !gb s.R x) HH.length = L1 at hL1 ⊢
      refine cq_exit ?_
      refine sq_then ?_
      refine cq_seq ?_
      refine cq_seq ?_
      refine cq_region ?_
      apply sq_g; exact g_load_own rfl rfl rfl; exact rfl
      apply sq_g; exact g_len_own rfl rfl; exact rfl
      apply sq_g; exact g_move (s := .av (.val (.int _ _))) rfl; exact rfl
      refine sq_nil ?_
      refine sq_then ?_
      refine cq_block ?_
      refine cq_loop (γ := Nat) (fun k => [(16, .own 14 0), (71, .osl 26), (72, .av (vi PP.length)), (73, .av (vi k))]) (fun k => [(14, .cells [.osl 50, .osl 51]), (50, .row 3 1 L1.length (xf L1)), (51, .row 3 1 (selN (gb s.T) k).length (xf (selN (gb s.T) k))), (26, .row 4 1 PP.length (bf s.T))]) (fun k => k ≤ PP.length) (fun k => PP.length - k) 0 (Nat.zero_le _) (Ent.trans (ent_rowc 51 3 1 (xf []) (r := 14) (off := 1) rfl rfl rfl) (ent ⟨.refl _, .refl _, .refl _, .refl _, trivial⟩ ⟨⟨_, rfl, .refl _⟩, ⟨_, rfl, .refl _⟩, ⟨_, rfl, .refl _⟩, ⟨_, rfl, .refl _⟩, trivial⟩)) ?_
      intro k hk
      refine cq_seq ?_
      refine cq_region ?_
      apply sq_g; exact g_cmp rfl rfl rfl; exact rfl
      refine sq_nil ?_
      refine sq_then ?_
      refine cq_seq ?_
      (refine cq_cond rfl (fun hb => ?_) (fun hb => ?_) <;> (try simp only [decide_eq_true_eq, decide_eq_false_iff_not, beq_iff_eq, beq_eq_false_iff_ne, bne_iff_ne, bne_eq_false_iff_eq, ne_eq, Bool.not_eq_true', Bool.not_eq_false', Bool.and_eq_true, Bool.or_eq_true, Bool.and_eq_false_iff, Bool.or_eq_false_iff] at hb) <;> (try (exfalso; omega)))
      · have hkl : k < PP.length := by omega
        have hst := selN_succ (gb s.T) k
        have hsl := selN_len (gb s.T) k
        refine cq_skip ?_
        refine sq_then ?_
        refine cq_seq ?_
        refine cq_block ?_
        refine cq_seq ?_
        refine cq_region ?_
        apply sq_g; exact g_move (s := .av (.val (.int _ _))) rfl; exact rfl
        apply sq_g; exact g_index_row rfl rfl rfl rfl (by omega); exact rfl
        apply sq_g; exact g_load_oel (τ := .val _) rfl rfl (by omega) rfl rfl; exact rfl
        apply sq_g; exact g_assign (s := .av (.val (.int _ _))) rfl; exact rfl
        apply sq_g; exact g_assign (s := .av (.val (.bool _))) rfl; exact rfl
        refine sq_nil ?_
        refine sq_then ?_
        refine cq_seq ?_
        refine cq_region ?_
        apply sq_g; exact g_move (s := .av (.val (.bool _))) rfl; exact rfl
        refine sq_nil ?_
        refine sq_then ?_
        refine cq_cond rfl (fun hb => ?_) (fun hb => ?_)
        · rw [if_pos hb] at hst
          refine cq_region ?_
          apply sq_g; exact g_index_own rfl rfl rfl (by decide); exact rfl
          apply sq_g; exact g_load_own rfl rfl rfl; exact rfl
          apply sq_g; exact g_move (s := .av (.val (.int _ _))) rfl; exact rfl
          apply sq_g; exact g_one_ix (tq22 _) rfl rfl; exact rfl
          refine sq_v (v_push_ix rfl rfl rfl (by omega) rfl) rfl ?_
          apply sq_g; exact g_index_own rfl rfl rfl (by decide); exact rfl
          refine sq_s (g_store_osl rfl rfl rfl rfl rfl) ?_
          refine sq_nil ?_
          refine sq_then ?_
          refine cq_region ?_
          apply sq_g; exact g_arith rfl rfl rfl (by omega); exact rfl
          apply sq_g; exact g_move (s := .av (.val (.int _ _))) rfl; exact rfl
          refine sq_nil ?_
          refine sq_round (k + 1) (by omega) (by omega) ?_
          rw [hst]
          exact ent ⟨.refl _, .refl _, .refl _, .int (by omega), trivial⟩ ⟨⟨_, rfl, .refl _⟩, ⟨_, rfl, .refl _⟩, ⟨_, rfl, .refl _⟩, ⟨_, rfl, .refl _⟩, trivial⟩
        · rw [if_neg (by rw [hb]; simp)] at hst
          refine cq_skip ?_
          refine sq_then ?_
          refine cq_region ?_
          apply sq_g; exact g_arith rfl rfl rfl (by omega); exact rfl
          apply sq_g; exact g_move (s := .av (.val (.int _ _))) rfl; exact rfl
          refine sq_nil ?_
          refine sq_round (k + 1) (by omega) (by omega) ?_
          rw [hst]
          exact ent ⟨.refl _, .refl _, .refl _, .int (by omega), trivial⟩ ⟨⟨_, rfl, .refl _⟩, ⟨_, rfl, .refl _⟩, ⟨_, rfl, .refl _⟩, ⟨_, rfl, .refl _⟩, trivial⟩
      · have hkl : k = PP.length := by omega
        subst hkl
        generalize selN (gb s.T) PP.length = L2
        refine cq_exit ?_
        refine sq_then ?_
        refine cq_seq ?_
        refine cq_drawn ?_
        apply dq_g; exact g_index_own rfl rfl rfl (by decide); exact rfl
        apply dq_g; exact g_load_own rfl rfl rfl; exact rfl
        apply dq_g; exact g_index_own rfl rfl rfl (by decide); exact rfl
        apply dq_g; exact g_load_own rfl rfl rfl; exact rfl
        apply dq_g; exact g_assign (s := .osl _) rfl; exact rfl
        apply dq_g; exact g_assign (s := .osl _) rfl; exact rfl
        apply dq_g; exact g_assign (s := .av (.val (.int _ _))) rfl; exact rfl
        refine dq_nil tm (by kernel_rfl) ?_
        refine sq_then ?_
        refine cq_ret ?_
        exact sq_more (ent (T' := [(6, .osl 50), (7, .osl 51), (8, .av (vi 0))]) (O' := [(50, .row 3 1 (intL L1).length (zf (intL L1))), (51, .row 3 1 (intL L2).length (zf (intL L2)))]) ⟨.refl _, .refl _, .refl _, trivial⟩ ⟨⟨_, rfl, rle_xz L1⟩, ⟨_, rfl, rle_xz L2⟩, trivial⟩) (sq_ent (ent_freeze 50 rfl) (sq_ent (ent_freeze 51 rfl) (sq_resN (rvs := [_, _, _]) (τs := [_, _, _]) rfl rfl ⟨.tmp rfl, .tmp rfl, .tmp rfl, trivial⟩ rfl)))
end Go.Proofs.Ytogilkilkmoedaa
namespace Go.Proofs.Ytogilkilkmoedaa
open Go Go.Vc Go.RowKit
set_option maxHeartbeats 8000000
/-! KDQ -/
def intP (l : List (Nat × Nat)) : List (Int × Int) := l.map (fun x => ((x.1 : Int), (x.2 : Int)))
theorem gp_int {l : List (Nat × Nat)} {i : Nat} (h : i < l.length) : gp (intP l) i = (((gq l i).1 : Int), ((gq l i).2 : Int)) := by
  unfold gp gq intP; simp [List.getD, h]
theorem gz_int {l : List Nat} {i : Nat} (h : i < l.length) : gz (intL l) i = ((gi l i : Nat) : Int) := by
  unfold gz gi intL; simp [List.getD, h]
theorem gi_mem {l : List Nat} {i : Nat} (h : i < l.length) : gi l i ∈ l := by
  unfold gi
  rw [List.getD, List.getElem?_eq_getElem h]
  exact List.getElem_mem h
theorem gi_asc {l : List Nat} (h : l.Pairwise (fun a b => a < b)) {i j : Nat} (hij : i < j) (hj : j < l.length) : gi l i < gi l j := by
  have := (List.pairwise_iff_getElem.1 h) i j (by omega) hj hij
  simp only [gi, List.getD]
  rw [List.getElem?_eq_getElem hj, List.getElem?_eq_getElem (by omega)]
  exact this
theorem ixE_zero {l : List Nat} {n : Nat} (ha : l.Pairwise (fun a b => a < b)) (hb : ∀ x ∈ l, x < n) : ∀ c i, i + c = l.length → ixE (intL l) n c i = 0
  | 0, _, _ => rfl
  | c + 1, i, hi => by
    have hil : i < l.length := by omega
    have h1 := hb _ (gi_mem hil)
    unfold ixE
    rw [gz_int hil, if_neg (by omega)]
    rw [if_neg, ixE_zero ha hb c (i + 1) (by omega)]
    rintro ⟨h2, h3⟩
    rw [gz_int (by omega)] at h3
    have := gi_asc ha (show i - 1 < i by omega) hil
    omega
theorem idxE_zero {l : List Nat} {n : Nat} (ha : l.Pairwise (fun a b => a < b)) (hb : ∀ x ∈ l, x < n) : idxE (intL l) n = 0 := by
  unfold idxE
  rw [show (intL l).length = l.length by simp [intL]]
  exact ixE_zero ha hb _ 0 (by omega)
theorem hasZ_mem {l : List Nat} {x : Nat} (h : x ∈ l) : hasZ (intL l) x = true := by
  obtain ⟨k, hk, e⟩ := List.getElem_of_mem h
  refine any_yes (p := fun k => gz (intL l) k == (x : Int)) (k := k) (by simp [intL]; exact hk) ?_
  rw [gz_int hk]
  have : gi l k = x := by unfold gi; rw [List.getD, List.getElem?_eq_getElem hk]; exact e
  simp [this]
theorem selN_asc (p : Nat → Bool) (n : Nat) : (selN p n).Pairwise (fun a b => a < b) := List.Pairwise.filter _ List.pairwise_lt_range
theorem mem_selN {p : Nat → Bool} {n x : Nat} : x ∈ selN p n ↔ x < n ∧ p x = true := mem_fr
theorem prove_zero {HH PP : List Int} {lo up : Int} (he : errC HH PP lo up = 0) : proveZ HH PP lo up (intL (blkH HH PP lo up)) (intL (blkP HH PP lo up)) = 0 := by
  obtain ⟨_, hcov, _⟩ := block_spec (fitN HH PP lo up) HH.length PP.length
  have z1 : idxE (intL (blkH HH PP lo up)) HH.length = 0 := idxE_zero (selN_asc _ _) (fun x hx => (mem_selN.1 hx).1)
  have z2 : idxE (intL (blkP HH PP lo up)) PP.length = 0 := idxE_zero (selN_asc _ _) (fun x hx => (mem_selN.1 hx).1)
  unfold proveZ
  rw [he, if_neg (by simp), z1, if_neg (by simp), z2, if_neg (by simp), if_neg]
  rw [any_no]
  · simp
  · intro i hi
    refine any_no fun k hk => ?_
    unfold uncov
    cases hf : fitN HH PP lo up i k with
    | false => rfl
    | true =>
      cases hR : gb (blkS HH PP lo up).R i with
      | false =>
        have hm : i ∈ blkH HH PP lo up := mem_selN.2 ⟨hi, by rw [hR]; rfl⟩
        rw [hasZ_mem hm]; rfl
      | true => rw [hasZ_mem (l := blkP HH PP lo up) (mem_selN.2 ⟨hk, hcov i k hi hk hf hR⟩)]; simp
theorem block_len {HH PP : List Int} {lo up : Int} (he : errC HH PP lo up = 0) : (blkH HH PP lo up).length + (blkP HH PP lo up).length = (pairsL HH PP lo up).length := by
  obtain ⟨_, _, hn⟩ := block_spec (fitN HH PP lo up) HH.length PP.length
  have h2 := (best_spec (fitN HH PP lo up) HH.length PP.length).2.2.2
  rw [pairsL_len he]
  unfold mxP
  rw [h2, ← hn]; rfl
theorem vrE_zero {HH PP : List Int} {lo up : Int} {l : List (Nat × Nat)} (hM : MatL (fitN HH PP lo up) HH.length PP.length l) (ha : l.Pairwise (fun x y => x.1 < y.1)) : ∀ c i, i + c = l.length → vrE HH PP lo up (intP l) c i = 0
  | 0, _, _ => rfl
  | c + 1, i, hi => by
    have hil : i < l.length := by omega
    obtain ⟨h1, h2, h3⟩ := hM.ok _ (gq_mem hil)
    have hat : ∀ j, j < i → (gq l j).1 < (gq l i).1 ∧ (gq l j).2 ≠ (gq l i).2 := fun j hj => by
      have e := (List.pairwise_iff_getElem.1 ha) j i (by omega) hil hj
      have ej : gq l j = l[j] := by unfold gq; rw [List.getD, List.getElem?_eq_getElem (by omega)]; rfl
      have ei : gq l i = l[i] := by unfold gq; rw [List.getD, List.getElem?_eq_getElem hil]; rfl
      rw [← ej, ← ei] at e
      refine ⟨e, fun h => ?_⟩
      have := nodup_inj hM.n2 (gq_mem (by omega : j < l.length)) (gq_mem hil) h
      rw [this] at e
      exact Nat.lt_irrefl _ e
    unfold vrE
    rw [gp_int hil]
    dsimp only
    rw [if_neg (by omega), if_neg, if_neg, if_neg, vrE_zero hM ha c (i + 1) (by omega)]
    · simp [h3]
    · rw [Bool.not_eq_true]
      refine any_no (p := fun k => (gp (intP l) k).2 == ((gq l i).2 : Int)) fun j hj => ?_
      rw [gp_int (by omega)]
      have := (hat j hj).2
      simp only [beq_eq_false_iff_ne, ne_eq]
      omega
    · rintro ⟨h4, h5⟩
      rw [gp_int (by omega)] at h5
      have := (hat (i - 1) (by omega)).1
      dsimp only at h5
      omega
theorem ver_zero {HH PP : List Int} {lo up : Int} (he : errC HH PP lo up = 0) : verZ HH PP lo up (intP (pairsL HH PP lo up)) = 0 := by
  obtain ⟨hM, _, hG, _⟩ := best_spec (fitN HH PP lo up) HH.length PP.length
  have hl := pairsL_le HH PP lo up
  have e : pairsL HH PP lo up = bestL (fitN HH PP lo up) HH.length PP.length := by unfold pairsL; rw [if_pos he]; rfl
  unfold verZ
  have hln : (intP (pairsL HH PP lo up)).length = (pairsL HH PP lo up).length := by simp [intP]
  rw [he, if_neg (by simp), if_neg (by omega), hln]
  rw [e]
  exact vrE_zero hM hG.asc _ 0 (by omega)
theorem pairsI_c (HH PP : List Int) (lo up : Int) : CtrA Try.prog 16 [zs HH, zs PP, lim lo up] (tupOf [dfs (intP (pairsL HH PP lo up)), vi (errC HH PP lo up)]) :=
  (CtrR.told (fr' := df (intP (pairsL HH PP lo up))) (pairs_c HH PP lo up) (by simp [intP]) (fun i hi j hj => by
    unfold qf df
    rw [gp_int hi]
    match j, hj with
    | 0, _ => rfl
    | 1, _ => rfl)).roN
theorem fill63 (parts : List (Nat × Value)) : Try.prog.built 63 parts = Instr.fill (fun i => (#[(0, 2), (2, 1)] : Array (Nat × Nat))[i]?) #[.int .i64 0, .int .i64 0, .slice none 0 0] parts := by kernel_rfl
theorem tb63 (lo up : Int) (l : List (Int × Int)) : ∀ (Z : Zone) (w : World) (vs : List Value), All2 (fun τ v => AV.ok Z w τ v) [lim lo up, dfs l] vs → ∃ cs : List Value, Try.prog.built 63 ([0, 1].zip vs) = some cs.toArray ∧ cs.length = 3 ∧ ∀ i, i < 3 → ∃ u, cs[i]? = some u ∧ (prF lo up l i).ok Z w u := by
  intro Z w vs hvs
  match vs, hvs with
  | [a, s], ⟨h1, h2, _⟩ =>
    obtain rfl : a = .agg #[.int .i64 lo, .int .i64 up] := h1
    have e3 := cells_one (AV.one_cells (τ := dfs l) rfl h2)
    have e4 : (Value.agg #[Value.int .i64 lo, .int .i64 up]).cells = #[.int .i64 lo, .int .i64 up] := rfl
    refine ⟨[.int .i64 lo, .int .i64 up, s], ?_, rfl, fun i hi => ?_⟩
    · rw [fill63]; simp [Instr.fill, e3, e4]
    · match i, hi with
      | 0, _ => exact ⟨_, rfl, rfl⟩
      | 1, _ => exact ⟨_, rfl, rfl⟩
      | 2, _ => exact ⟨_, rfl, h2⟩
theorem fill26 (parts : List (Nat × Value)) : Try.prog.built 26 parts = Instr.fill (fun i => (#[(0, 2), (2, 1), (3, 1)] : Array (Nat × Nat))[i]?) #[.int .i64 0, .int .i64 0, .slice none 0 0, .slice none 0 0] parts := by kernel_rfl
theorem tb26_3 (lo up : Int) (h p : List Int) : ∀ (Z : Zone) (w : World) (vs : List Value), All2 (fun τ v => AV.ok Z w τ v) [lim lo up, zs h, zs p] vs → ∃ cs : List Value, Try.prog.built 26 ([0, 1, 2].zip vs) = some cs.toArray ∧ cs.length = 4 ∧ ∀ i, i < 4 → ∃ u, cs[i]? = some u ∧ (blkF lo up h p i).ok Z w u := by
  intro Z w vs hvs
  match vs, hvs with
  | [a, s, t], ⟨h1, h2, h3, _⟩ =>
    obtain rfl : a = .agg #[.int .i64 lo, .int .i64 up] := h1
    have e3 := cells_one (AV.one_cells (τ := zs h) rfl h2)
    have e5 := cells_one (AV.one_cells (τ := zs p) rfl h3)
    have e4 : (Value.agg #[Value.int .i64 lo, .int .i64 up]).cells = #[.int .i64 lo, .int .i64 up] := rfl
    refine ⟨[.int .i64 lo, .int .i64 up, s, t], ?_, rfl, fun i hi => ?_⟩
    · rw [fill26]; simp [Instr.fill, e3, e4, e5]
    · match i, hi with
      | 0, _ => exact ⟨_, rfl, rfl⟩
      | 1, _ => exact ⟨_, rfl, rfl⟩
      | 2, _ => exact ⟨_, rfl, h2⟩
      | 3, _ => exact ⟨_, rfl, h3⟩
theorem lmost_c (HH PP : List Int) (lo up : Int) : CtrA Try.prog 11 [zs HH, zs PP, lim lo up] (vb true) := by
  refine ctrA _ Try.func11 rfl rfl Try.ntmps11 rfl fun w Z => ?_
  have aw := awake_c
  have cr := right_c HH PP lo up
  simp only [initT, List.map_cons, List.map_nil, Nat.zero_add, Nat.reduceAdd]
  refine cq_seq ?_
  refine cq_region ?_
  apply sq_g; exact g_box_agg rfl; exact rfl
  apply sq_g; exact g_assign (s := .av (.val (.bool _))) rfl; exact rfl
  refine sq_nil ?_
  refine sq_then ?_
  refine cq_seq ?_
  refine cq_seq ?_
  refine cq_region ?_
  apply sq_g; exact g_move (s := .av _) rfl; exact rfl
  apply sq_g; exact g_move (s := .av _) rfl; exact rfl
  apply sq_g; exact g_load_agg (us := [.int _ _, .int _ _]) rfl rfl rfl rfl; exact rfl
  apply sq_g; exact g_call (cr) rfl; exact rfl
  apply sq_g; exact g_not rfl; exact rfl
  refine sq_nil ?_
  refine sq_then ?_
  refine cq_cond rfl (fun hb => ?_) (fun hb => ?_)
  · refine cq_seq ?_
    refine cq_region ?_
    apply sq_g; exact g_call (aw) rfl; exact rfl
    apply sq_g; exact g_assign (s := .av (.val (.bool _))) rfl; exact rfl
    refine sq_nil ?_
    refine sq_then ?_
    refine cq_ret ?_
    refine sq_then_ret ?_
    exact sq_res1 rfl (.tmp rfl) rfl
  · obtain ⟨n1, n2, he⟩ := rightB_iff.1 (by simpa using hb)
    have c1 := pairsI_c HH PP lo up
    have c2 := blocker_c HH PP lo up he
    have hln : (intP (pairsL HH PP lo up)).length = (pairsL HH PP lo up).length := by simp [intP]
    have hl1 : (intL (blkH HH PP lo up)).length = (blkH HH PP lo up).length := by simp [intL]
    have hl2 : (intL (blkP HH PP lo up)).length = (blkP HH PP lo up).length := by simp [intL]
    have hbl := block_len he
    have hple := pairsL_le HH PP lo up
    have c3 := verify_c HH PP lo up (intP (pairsL HH PP lo up))
    have c4 := prove_c HH PP lo up (intL (blkH HH PP lo up)) (intL (blkP HH PP lo up)) (by omega) (by omega)
    have c5 := rprove_c HH PP lo up (intL (blkH HH PP lo up)) (intL (blkP HH PP lo up)) (by omega) (by omega) (by omega) (by omega)
    have c6 := rverify_c HH PP lo up (intP (pairsL HH PP lo up)) (by omega) (by omega)
    rw [he] at c1
    rw [ver_zero he] at c3 c6
    rw [prove_zero he] at c4 c5
    rw [← hln, ← hl1, ← hl2] at hbl
    rw [← hln] at hple
    generalize intP (pairsL HH PP lo up) = A at c1 c3 c6 hbl hple
    generalize intL (blkH HH PP lo up) = X at c2 c4 c5 hbl
    generalize intL (blkP HH PP lo up) = Y at c2 c4 c5 hbl
    refine cq_skip ?_
    refine sq_then ?_
    refine cq_seq ?_
    refine cq_region ?_
    apply sq_g; exact g_move (s := .av _) rfl; exact rfl
    apply sq_g; exact g_move (s := .av _) rfl; exact rfl
    apply sq_g; exact g_load_agg (us := [.int _ _, .int _ _]) rfl rfl rfl rfl; exact rfl
    apply sq_g; exact g_call (c1) rfl; exact rfl
    apply sq_g; exact g_move (s := .av _) rfl; exact rfl
    apply sq_g; exact g_extractT rfl rfl; exact rfl
    apply sq_g; exact g_extractT rfl rfl; exact rfl
    apply sq_g; exact g_assign (s := .av _) rfl; exact rfl
    apply sq_g; exact g_assign (s := .av (.val (.int _ _))) rfl; exact rfl
    refine sq_nil ?_
    refine sq_then ?_
    refine cq_seq ?_
    refine cq_region ?_
    apply sq_g; exact g_move (s := .av _) rfl; exact rfl
    apply sq_g; exact g_move (s := .av _) rfl; exact rfl
    apply sq_g; exact g_load_agg (us := [.int _ _, .int _ _]) rfl rfl rfl rfl; exact rfl
    apply sq_g; exact g_call (c2) rfl; exact rfl
    apply sq_g; exact g_move (s := .av _) rfl; exact rfl
    apply sq_g; exact g_extractT rfl rfl; exact rfl
    apply sq_g; exact g_extractT rfl rfl; exact rfl
    apply sq_g; exact g_extractT rfl rfl; exact rfl
    apply sq_g; exact g_assign (s := .av _) rfl; exact rfl
    apply sq_g; exact g_assign (s := .av _) rfl; exact rfl
    apply sq_g; exact g_assign (s := .av (.val (.int _ _))) rfl; exact rfl
    refine sq_nil ?_
    refine sq_then ?_
    refine cq_seq ?_
    refine cq_seq ?_
    refine cq_region ?_
    apply sq_g; exact g_move (s := .av (.val (.int _ _))) rfl; exact rfl
    apply sq_g; exact g_move (s := .av (.val (.int _ _))) rfl; exact rfl
    apply sq_g; exact g_arith rfl rfl rfl (by omega); exact rfl
    apply sq_g; exact g_cmp rfl rfl rfl; exact rfl
    apply sq_g; exact g_move (s := .av (.val (.bool _))) rfl; exact rfl
    apply sq_on; exact g_move (s := .av _) rfl; exact rfl; exact rfl; exact rfl
    apply sq_on; exact g_len rfl; exact rfl; exact rfl; exact rfl
    apply sq_on; exact g_move (s := .av _) rfl; exact rfl; exact rfl; exact rfl
    apply sq_on; exact g_len rfl; exact rfl; exact rfl; exact rfl
    apply sq_on; exact g_arith rfl rfl rfl (by omega); exact rfl; exact rfl; exact rfl
    apply sq_on; exact g_move (s := .av _) rfl; exact rfl; exact rfl; exact rfl
    apply sq_on; exact g_len rfl; exact rfl; exact rfl; exact rfl
    apply sq_on; exact g_cmp rfl rfl rfl; exact rfl; exact rfl; exact rfl
    apply sq_g; exact g_pick (s := .av (.val (.bool _))) rfl rfl; exact rfl
    refine sq_nil ?_
    refine sq_then ?_
    (refine cq_cond rfl (fun hb => ?_) (fun hb => ?_) <;> (try simp only [decide_eq_true_eq, decide_eq_false_iff_not, beq_iff_eq, beq_eq_false_iff_ne, bne_iff_ne, bne_eq_false_iff_eq, ne_eq, Bool.not_eq_true', Bool.not_eq_false', Bool.and_eq_true, Bool.or_eq_true, Bool.and_eq_false_iff, Bool.or_eq_false_iff] at hb) <;> (try (exfalso; omega)))
    refine cq_skip ?_
    refine sq_then ?_
    refine cq_seq ?_
    refine cq_region ?_
    apply sq_g; exact g_move (s := .av _) rfl; exact rfl
    apply sq_g; exact g_move (s := .av _) rfl; exact rfl
    apply sq_g; exact g_load_agg (us := [.int _ _, .int _ _]) rfl rfl rfl rfl; exact rfl
    apply sq_g; exact g_move (s := .av _) rfl; exact rfl
    apply sq_g; exact  g_build_gen (is := [0, 1]) (xs := [_, _]) (τs := [lim lo up, dfs A]) (n := 3) (f := prF lo up A) rfl rfl (tb63 lo up A); exact rfl
    apply sq_g; exact g_call (c3) rfl; exact rfl
    apply sq_g; exact g_cmp rfl rfl rfl; exact rfl
    apply sq_g; exact g_move (s := .av (.val (.bool _))) rfl; exact rfl
    apply sq_on; exact g_move (s := .av _) rfl; exact rfl; exact rfl; exact rfl
    apply sq_on; exact g_move (s := .av _) rfl; exact rfl; exact rfl; exact rfl
    apply sq_on; exact g_load_agg (us := [.int _ _, .int _ _]) rfl rfl rfl rfl; exact rfl; exact rfl; exact rfl
    apply sq_on; exact g_move (s := .av _) rfl; exact rfl; exact rfl; exact rfl
    apply sq_on; exact g_move (s := .av _) rfl; exact rfl; exact rfl; exact rfl
    apply sq_on; exact  g_build_gen (is := [0, 1, 2]) (xs := [_, _, _]) (τs := [lim lo up, zs X, zs Y]) (n := 4) (f := blkF lo up X Y) rfl rfl (tb26_3 lo up X Y); exact rfl; exact rfl; exact rfl
    apply sq_on; exact g_call (c4) rfl; exact rfl; exact rfl; exact rfl
    apply sq_on; exact g_cmp rfl rfl rfl; exact rfl; exact rfl; exact rfl
    apply sq_g; exact g_pick (s := .av (.val (.bool _))) rfl rfl; exact rfl
    apply sq_g; exact g_move (s := .av (.val (.bool _))) rfl; exact rfl
    apply sq_on; exact g_move (s := .av _) rfl; exact rfl; exact rfl; exact rfl
    apply sq_on; exact g_move (s := .av _) rfl; exact rfl; exact rfl; exact rfl
    apply sq_on; exact g_load_agg (us := [.int _ _, .int _ _]) rfl rfl rfl rfl; exact rfl; exact rfl; exact rfl
    apply sq_on; exact g_move (s := .av _) rfl; exact rfl; exact rfl; exact rfl
    apply sq_on; exact g_move (s := .av _) rfl; exact rfl; exact rfl; exact rfl
    apply sq_on; exact g_call (c5) rfl; exact rfl; exact rfl; exact rfl
    apply sq_on; exact g_cmp rfl rfl rfl; exact rfl; exact rfl; exact rfl
    apply sq_g; exact g_pick (s := .av (.val (.bool _))) rfl rfl; exact rfl
    apply sq_g; exact g_move (s := .av (.val (.bool _))) rfl; exact rfl
    apply sq_on; exact g_move (s := .av _) rfl; exact rfl; exact rfl; exact rfl
    apply sq_on; exact g_move (s := .av _) rfl; exact rfl; exact rfl; exact rfl
    apply sq_on; exact g_load_agg (us := [.int _ _, .int _ _]) rfl rfl rfl rfl; exact rfl; exact rfl; exact rfl
    apply sq_on; exact g_move (s := .av _) rfl; exact rfl; exact rfl; exact rfl
    apply sq_on; exact g_call (c6) rfl; exact rfl; exact rfl; exact rfl
    apply sq_on; exact g_cmp rfl rfl rfl; exact rfl; exact rfl; exact rfl
    apply sq_g; exact g_pick (s := .av (.val (.bool _))) rfl rfl; exact rfl
    apply sq_g; exact g_move (s := .av (.val (.bool _))) rfl; exact rfl
    apply sq_on; exact g_call (aw) rfl; exact rfl; exact rfl; exact rfl
    apply sq_g; exact g_pick (s := .av (.val (.bool _))) rfl rfl; exact rfl
    apply sq_g; exact g_assign (s := .av (.val (.bool _))) rfl; exact rfl
    refine sq_nil ?_
    refine sq_then ?_
    refine cq_ret ?_
    exact sq_res1 rfl (.tmp rfl) rfl
end Go.Proofs.Ytogilkilkmoedaa
