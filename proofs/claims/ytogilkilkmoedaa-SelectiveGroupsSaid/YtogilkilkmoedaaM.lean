/- A part of the proof that the law returns true at every input and that the input reads behind the call as it read before; this part states nothing of its own that needs a condition of the input. -/
import Derived.Test.YtogilkilkmoedaaP
set_option linter.unusedVariables false
set_option linter.unusedSimpArgs false
namespace Go.Proofs.Ytogilkilkmoedaa
open Go Go.Vc Go.RowKit
/-! What a search for a free pin does to a matching. -/
structure Val (fit : Nat → Nat → Bool) (nH nP : Nat) (H P : List Int) : Prop where
  hh : ∀ h p : Nat, h < nH → p < nP → gz H h = p → gz P p = h ∧ fit h p = true
  pp : ∀ h p : Nat, p < nP → h < nH → gz P p = h → gz H h = p
structure Suc (fit : Nat → Nat → Bool) (G : List Bool) (nH nP h : Nat) (s t : MS) : Prop where
  hh : ∀ x p : Nat, x < nH → p < nP → gz t.H x = p → gz t.P p = x ∧ fit x p = true
  pp : ∀ x p : Nat, p < nP → x < nH → (p : Int) ≠ gz s.H h → gz t.P p = x → gz t.H x = p
  mh : ∀ x : Nat, x < nH → x ≠ h → (0 ≤ gz t.H x ↔ 0 ≤ gz s.H x)
  ke : ∀ p : Nat, p < nP → (gb s.S p = true ∨ gb G p = true) → gz t.P p = gz s.P p
  ho : ∃ p : Nat, p < nP ∧ gz t.H h = p ∧ gb s.S p = false ∧ gb G p = false
structure Fai (fit : Nat → Nat → Bool) (G : List Bool) (nH nP h i : Nat) (s t : MS) : Prop where
  eH : t.H = s.H
  eP : t.P = s.P
  sub : ∀ p, gb s.S p = true → gb t.S p = true
  cl : ∀ p, i ≤ p → p < nP → fit h p = true → gb t.S p = true ∨ gb G p = true
  nw : ∀ p, p < nP → gb t.S p = true → gb s.S p = false → gb G p = false ∧ ∃ o : Nat, o < nH ∧ gz s.P p = o ∧ ∀ k, k < nP → fit o k = true → gb t.S k = true ∨ gb G k = true
def Rel (fit : Nat → Nat → Bool) (G : List Bool) (nH nP h i : Nat) (s : MS) (r : Bool × MS) : Prop :=
  (r.1 = true → Suc fit G nH nP h s r.2) ∧ (r.1 = false → Fai fit G nH nP h i s r.2)
theorem gb_see {s : MS} {nH nP : Nat} (hs : s.Ok nH nP) {i : Nat} (hi : i < nP) (k : Nat) : gb (s.see i).S k = if k = i then true else gb s.S k := by
  simp only [MS.see]; exact gb_set (by rw [hs.sl]; exact hi)
/-- The pair is put, the search behind it being over. -/
theorem suc_pair {fit : Nat → Nat → Bool} {G : List Bool} {nH nP h i o : Nat} {s t : MS} (hs : s.Ok nH nP) (ht : t.Ok nH nP) (hv : Val fit nH nP s.H s.P) (hh : h < nH) (hi : i < nP) (hpre : ∀ q : Nat, q < nP → gz s.H h = q → gb s.S q = true)
    (hS : gb s.S i = false) (hG : gb G i = false) (hf : fit h i = true) (ho : o < nH) (hPi : gz s.P i = o) (hr : Suc fit G nH nP o (s.see i) t) : Suc fit G nH nP h s (t.pair h i) := by
  have hHo : gz s.H o = i := hv.pp o i hi ho hPi
  have hoh : o ≠ h := fun e => by
    subst e
    have := hpre i hi hHo
    rw [hS] at this; cases this
  have tPi : gz t.P i = o := by
    have := hr.ke i hi (.inl (by rw [gb_see hs hi, if_pos rfl]))
    simp only [MS.see] at this; rw [this, hPi]
  have tHo : gz t.H o ≠ i := by
    obtain ⟨p, hp, e1, e2, e3⟩ := hr.ho
    intro e
    have : p = i := by omega
    subst this
    rw [gb_see hs hi, if_pos rfl] at e2; cases e2
  have gH : ∀ x, gz (t.pair h i).H x = if x = h then (i : Int) else gz t.H x := fun x => by
    simp only [MS.pair]; exact gz_set (by rw [ht.hl]; exact hh)
  have gP : ∀ x, gz (t.pair h i).P x = if x = i then (h : Int) else gz t.P x := fun x => by
    simp only [MS.pair]; exact gz_set (by rw [ht.pl]; exact hi)
  have hke : ∀ p : Nat, p < nP → p ≠ i → (gb s.S p = true ∨ gb G p = true) → gz t.P p = gz s.P p := fun p hp hne hsg => by
    have := hr.ke p hp (hsg.imp (fun h1 => by rw [gb_see hs hi, if_neg hne]; exact h1) id)
    simpa only [MS.see] using this
  refine ⟨fun x p hx hp e => ?_, fun x p hp hx hne e => ?_, fun x hx hne => ?_, fun p hp hsg => ?_, ⟨i, hi, by rw [gH, if_pos rfl], hS, hG⟩⟩
  · rw [gH] at e
    rw [gP]
    split at e
    · rename_i ex
      subst ex
      have : p = i := by omega
      subst this
      exact ⟨if_pos rfl, hf⟩
    · rename_i ex
      obtain ⟨e1, e2⟩ := hr.hh x p hx hp e
      refine ⟨?_, e2⟩
      rw [if_neg, e1]
      intro epi
      subst epi
      rw [tPi] at e1
      have : x = o := by omega
      subst this
      exact tHo e
  · rw [gP] at e
    rw [gH]
    split at e
    · rename_i ex
      subst ex
      have : x = h := by omega
      subst this
      rw [if_pos rfl]
    · rename_i ex
      have e1 : gz t.H x = p := hr.pp x p hp hx (by simp only [MS.see]; rw [hHo]; omega) e
      split
      · rename_i exh
        subst exh
        exfalso
        by_cases hq : 0 ≤ gz s.H x
        · have hqn := hs.hv x hx
          have eq : gz s.H x = ((gz s.H x).toNat : Nat) := by omega
          have hsq := hpre _ (by omega) eq
          obtain ⟨f1, f2⟩ := hv.hh x _ hx (by omega) eq
          have hqi : (gz s.H x).toNat ≠ i := fun e => by rw [e, hS] at hsq; cases hsq
          have f3 := hke _ (by omega) hqi (.inl hsq)
          rw [f1] at f3
          have f4 := hr.pp x _ (by omega) hx (by simp only [MS.see]; rw [hHo]; omega) f3
          omega
        · have f5 := (hr.mh x hx (fun e => hoh e.symm)).1 (by omega)
          simp only [MS.see] at f5
          omega
      · exact e1
  · rw [gH, if_neg hne]
    by_cases exo : x = o
    · subst exo
      obtain ⟨p, hp, e1, _⟩ := hr.ho
      rw [e1, hHo]
      constructor <;> intro <;> omega
    · have := hr.mh x hx exo
      simpa only [MS.see] using this
  · rw [gP]
    have hpi : p ≠ i := fun e => by
      subst e
      rcases hsg with h1 | h1
      · rw [hS] at h1; cases h1
      · rw [hG] at h1; cases h1
    rw [if_neg hpi]
    exact hke p hp hpi hsg
/-- The pin is free. -/
theorem suc_free {fit : Nat → Nat → Bool} {G : List Bool} {nH nP h i : Nat} {s : MS} (hs : s.Ok nH nP) (hv : Val fit nH nP s.H s.P) (hh : h < nH) (hi : i < nP) (hpre : ∀ q : Nat, q < nP → gz s.H h = q → gb s.S q = true)
    (hS : gb s.S i = false) (hG : gb G i = false) (hf : fit h i = true) (hPi : gz s.P i < 0) : Suc fit G nH nP h s ((s.see i).pair h i) := by
  have gH : ∀ x, gz ((s.see i).pair h i).H x = if x = h then (i : Int) else gz s.H x := fun x => by
    simp only [MS.pair, MS.see]; exact gz_set (by rw [hs.hl]; exact hh)
  have gP : ∀ x, gz ((s.see i).pair h i).P x = if x = i then (h : Int) else gz s.P x := fun x => by
    simp only [MS.pair, MS.see]; exact gz_set (by rw [hs.pl]; exact hi)
  refine ⟨fun x p hx hp e => ?_, fun x p hp hx hne e => ?_, fun x hx hne => ?_, fun p hp hsg => ?_, ⟨i, hi, by rw [gH, if_pos rfl], hS, hG⟩⟩
  · rw [gH] at e
    rw [gP]
    split at e
    · rename_i ex
      subst ex
      have : p = i := by omega
      subst this
      exact ⟨if_pos rfl, hf⟩
    · obtain ⟨e1, e2⟩ := hv.hh x p hx hp e
      refine ⟨?_, e2⟩
      rw [if_neg, e1]
      intro epi
      subst epi
      omega
  · rw [gP] at e
    rw [gH]
    split at e
    · rename_i ex
      subst ex
      have : x = h := by omega
      subst this
      rw [if_pos rfl]
    · have e1 := hv.pp x p hp hx e
      split
      · rename_i exh
        subst exh
        omega
      · exact e1
  · rw [gH, if_neg hne]
  · rw [gP, if_neg]
    intro e
    subst e
    rcases hsg with h1 | h1
    · rw [hS] at h1; cases h1
    · rw [hG] at h1; cases h1
theorem Suc.mono {fit : Nat → Nat → Bool} {G : List Bool} {nH nP h : Nat} {s s2 t : MS} (h1 : Suc fit G nH nP h s2 t) (eH : s2.H = s.H) (eP : s2.P = s.P) (sub : ∀ p, gb s.S p = true → gb s2.S p = true) : Suc fit G nH nP h s t := by
  refine ⟨h1.hh, fun x p hp hx hne e => h1.pp x p hp hx (by rw [eH]; exact hne) e, fun x hx hne => by rw [← eH]; exact h1.mh x hx hne, fun p hp hsg => by rw [← eP]; exact h1.ke p hp (hsg.imp (sub p) id), ?_⟩
  obtain ⟨p, hp, e1, e2, e3⟩ := h1.ho
  refine ⟨p, hp, e1, ?_, e3⟩
  cases hb : gb s.S p with
  | false => rfl
  | true => rw [sub p hb] at e2; cases e2
theorem findL_rel {fit : Nat → Nat → Bool} {G : List Bool} {rec : Nat → MS → Bool × MS} {nH nP h U : Nat} (hh : h < nH)
    (haft : ∀ o s, s.Ok nH nP → o < nH → unseen s.S < U → Aft nH nP s (rec o s).2)
    (hrec : ∀ o s, s.Ok nH nP → Val fit nH nP s.H s.P → o < nH → unseen s.S < U → (∀ q : Nat, q < nP → gz s.H o = q → gb s.S q = true) → Rel fit G nH nP o 0 s (rec o s)) :
    ∀ c i s, s.Ok nH nP → Val fit nH nP s.H s.P → i + c = nP → unseen s.S ≤ U → (∀ q : Nat, q < nP → gz s.H h = q → gb s.S q = true) → Rel fit G nH nP h i s (findL fit G rec h c i s)
  | 0, i, s, hs, hv, hi, hu, hpre => ⟨fun h => by simp [findL] at h, fun _ => ⟨rfl, rfl, fun _ h => h, fun p h1 h2 _ => by omega, fun p _ h1 h2 => by simp only [findL] at h1; rw [h1] at h2; cases h2⟩⟩
  | c + 1, i, s, hs, hv, hi, hu, hpre => by
    have hil : i < nP := by omega
    unfold findL
    split
    · rename_i hc
      have ih := findL_rel hh haft hrec c (i + 1) s hs hv (by omega) hu hpre
      refine ⟨ih.1, fun hf => ?_⟩
      have ih2 := ih.2 hf
      refine ⟨ih2.eH, ih2.eP, ih2.sub, fun p h1 h2 h3 => ?_, ih2.nw⟩
      by_cases e : p = i
      · subst e
        rw [h3] at hc
        simp only [Bool.not_true, Bool.or_false, Bool.or_eq_true] at hc
        exact hc.imp (ih2.sub p) id
      · exact ih2.cl p (by omega) h2 h3
    · rename_i hc
      simp only [Bool.or_eq_true, not_or, Bool.not_eq_true, Bool.not_eq_true'] at hc
      obtain ⟨⟨hS, hG⟩, hf0⟩ := hc
      have hf : fit h i = true := by simpa using hf0
      have hun := unseen_see (S := s.S) (i := i) (by rw [hs.sl]; omega) hS
      split
      · rename_i hp
        exact ⟨fun _ => suc_free hs hv hh hil hpre hS hG hf hp, fun h => by cases h⟩
      · rename_i hp
        have hpv := hs.pv i hil
        have ho : (gz s.P i).toNat < nH := by omega
        have hPi : gz s.P i = ((gz s.P i).toNat : Nat) := by omega
        have hHo : gz s.H (gz s.P i).toNat = i := hv.pp _ i hil ho hPi
        have hu1 : unseen (s.see i).S < U := by simp only [MS.see]; omega
        have hpre1 : ∀ q : Nat, q < nP → gz (s.see i).H (gz s.P i).toNat = q → gb (s.see i).S q = true := by
          intro q hq e
          simp only [MS.see] at e
          rw [hHo] at e
          rw [gb_see hs hil, if_pos (by omega)]
        have ha := haft (gz s.P i).toNat (s.see i) (hs.see i) ho hu1
        have hr := hrec (gz s.P i).toNat (s.see i) (hs.see i) hv ho hu1 hpre1
        generalize hrr : rec (gz s.P i).toNat (s.see i) = r at ha hr
        split
        · rename_i hsuc
          exact ⟨fun _ => suc_pair hs ha.ok hv hh hil hpre hS hG hf ho hPi (hr.1 hsuc), fun h => by cases h⟩
        · rename_i hfl
          have hr2 := hr.2 (by simpa using hfl)
          have eH : r.2.H = s.H := hr2.eH
          have eP : r.2.P = s.P := hr2.eP
          have sub : ∀ p, gb s.S p = true → gb r.2.S p = true := by
            intro p h1
            refine hr2.sub p ?_
            rw [gb_see hs hil]
            split
            · rfl
            · exact h1
          have sui : gb r.2.S i = true := hr2.sub i (by rw [gb_see hs hil, if_pos rfl])
          have ih := findL_rel hh haft hrec c (i + 1) r.2 ha.ok (by rw [eH, eP]; exact hv) (by omega) (by have := ha.un; omega) (fun q hq e => sub q (hpre q hq (by rw [← eH]; exact e)))
          refine ⟨fun h1 => (ih.1 h1).mono eH eP sub, fun hf1 => ?_⟩
          have ih2 := ih.2 hf1
          refine ⟨ih2.eH.trans eH, ih2.eP.trans eP, fun p h1 => ih2.sub p (sub p h1), fun p h1 h2 h3 => ?_, fun p hp0 h1 h2 => ?_⟩
          · by_cases e : p = i
            · subst e; exact .inl (ih2.sub p sui)
            · exact ih2.cl p (by omega) h2 h3
          · cases hb : gb r.2.S p with
            | false =>
              obtain ⟨g1, o, g2, g3, g4⟩ := ih2.nw p hp0 h1 hb
              exact ⟨g1, o, g2, by rw [← eP]; exact g3, g4⟩
            | true =>
              by_cases e : p = i
              · subst e
                exact ⟨hG, _, ho, hPi, fun k hk hfk => (hr2.cl k (Nat.zero_le _) hk hfk).imp (ih2.sub k) id⟩
              · obtain ⟨g1, o, g2, g3, g4⟩ := hr2.nw p hp0 hb (by rw [gb_see hs hil, if_neg e]; exact h2)
                exact ⟨g1, o, g2, g3, fun k hk hfk => (g4 k hk hfk).imp (ih2.sub k) id⟩
theorem findF_rel {fit : Nat → Nat → Bool} {G : List Bool} {nH nP : Nat} : ∀ f h s, s.Ok nH nP → Val fit nH nP s.H s.P → h < nH → unseen s.S < f → (∀ q : Nat, q < nP → gz s.H h = q → gb s.S q = true) → Rel fit G nH nP h 0 s (findF fit G nP f h s)
  | 0, h, s, hs, _, hh, hu, _ => by omega
  | f + 1, h, s, hs, hv, hh, hu, hpre => findL_rel (U := f) hh (fun o t ht ho hu => findF_aft f o t ht ho hu) (fun o t ht hv ho hu hq => findF_rel f o t ht hv ho hu hq) nP 0 s hs hv (by omega) (by omega) hpre
end Go.Proofs.Ytogilkilkmoedaa
namespace Go.Proofs.Ytogilkilkmoedaa
open Go Go.Vc Go.RowKit
/-! Counting, covers, matchings with the most pairs. -/
theorem nodup_len {α : Type} [BEq α] [LawfulBEq α] : ∀ {l l' : List α}, l.Nodup → (∀ x ∈ l, x ∈ l') → l.length ≤ l'.length
  | [], l', _, _ => Nat.zero_le _
  | a :: l, l', hn, hs => by
    have ha : a ∈ l' := hs a (by simp)
    obtain ⟨hal, hnl⟩ := List.nodup_cons.1 hn
    have ih := nodup_len (l := l) (l' := l'.erase a) hnl (fun x hx => (List.mem_erase_of_ne (fun (e : x = a) => hal (e ▸ hx))).2 (hs x (List.mem_cons_of_mem _ hx)))
    have hl := List.length_erase_of_mem ha
    have hp : 0 < l'.length := List.length_pos_of_mem ha
    simp only [List.length_cons]; omega
def cN (n : Nat) (p : Nat → Bool) : Nat := ((List.range n).filter p).length
theorem nodup_fr (n : Nat) (p : Nat → Bool) : ((List.range n).filter p).Nodup := List.Pairwise.filter p (List.nodup_range (n := n))
theorem mem_fr {n : Nat} {p : Nat → Bool} {x : Nat} : x ∈ (List.range n).filter p ↔ x < n ∧ p x = true := by simp
theorem nodup_map_on {α β : Type} {f : α → β} : ∀ {l : List α}, l.Nodup → (∀ x ∈ l, ∀ y ∈ l, f x = f y → x = y) → (l.map f).Nodup
  | [], _, _ => List.nodup_nil
  | a :: l, hn, hi => by
    obtain ⟨hal, hnl⟩ := List.nodup_cons.1 hn
    rw [List.map_cons, List.nodup_cons]
    refine ⟨fun hm => ?_, nodup_map_on hnl fun x hx y hy e => hi x (List.mem_cons_of_mem _ hx) y (List.mem_cons_of_mem _ hy) e⟩
    obtain ⟨b, hb, e⟩ := List.mem_map.1 hm
    have := hi b (List.mem_cons_of_mem _ hb) a List.mem_cons_self e
    exact hal (this ▸ hb)
theorem cN_inj {n m : Nat} {p q : Nat → Bool} (f : Nat → Nat) (h1 : ∀ i, i < n → p i = true → f i < m ∧ q (f i) = true) (h2 : ∀ i j, i < n → j < n → p i = true → p j = true → f i = f j → i = j) : cN n p ≤ cN m q := by
  unfold cN
  have e0 : (((List.range n).filter p).map f).length = ((List.range n).filter p).length := List.length_map _
  rw [← e0]
  refine nodup_len (nodup_map_on (nodup_fr n p) fun x hx y hy e => ?_) fun x hx => ?_
  · rw [mem_fr] at hx hy
    exact h2 x y hx.1 hy.1 hx.2 hy.2 e
  · obtain ⟨y, hy, rfl⟩ := List.mem_map.1 hx
    rw [mem_fr] at hy
    rw [mem_fr]
    exact h1 y hy.1 hy.2
theorem cN_mono {n : Nat} {p q : Nat → Bool} (h : ∀ i, i < n → p i = true → q i = true) : cN n p ≤ cN n q := cN_inj id (fun i hi hp => ⟨hi, h i hi hp⟩) (fun _ _ _ _ _ _ e => e)
theorem cN_congr {n : Nat} {p q : Nat → Bool} (h : ∀ i, i < n → (p i = true ↔ q i = true)) : cN n p = cN n q := Nat.le_antisymm (cN_mono fun i hi => (h i hi).1) (cN_mono fun i hi => (h i hi).2)
theorem filter_split {α : Type} (p q : α → Bool) : ∀ l : List α, (l.filter p).length = (l.filter (fun x => p x && q x)).length + (l.filter (fun x => p x && !q x)).length
  | [] => rfl
  | a :: l => by
    have ih := filter_split p q l
    cases hp : p a <;> cases hq : q a <;> simp [List.filter_cons, hp, hq] <;> omega
theorem cN_split (n : Nat) (p q : Nat → Bool) : cN n p = cN n (fun x => p x && q x) + cN n (fun x => p x && !q x) := filter_split p q _
theorem cN_one (n k : Nat) : cN n (fun x => decide (x = k)) ≤ 1 := by
  have := nodup_len (l := (List.range n).filter (fun x => decide (x = k))) (l' := [k]) (nodup_fr _ _) (fun x hx => by rw [mem_fr] at hx; simpa using hx.2)
  simpa [cN] using this
theorem cN_or (n : Nat) (p q : Nat → Bool) : cN n (fun x => p x || q x) ≤ cN n p + cN n q := by
  rw [cN_split n (fun x => p x || q x) p]
  refine Nat.add_le_add (cN_mono fun i _ h => ?_) (cN_mono fun i _ h => ?_)
  · simp only [Bool.and_eq_true] at h; exact h.2
  · cases h1 : p i <;> simp_all
theorem cN_add {n k : Nat} {p q : Nat → Bool} (hk : k < n) (hp : p k = false) (hq : q k = true) (h : ∀ i, i < n → i ≠ k → (q i = true ↔ p i = true)) : cN n q = cN n p + 1 := by
  rw [cN_split n q (fun x => decide (x = k))]
  have e1 : cN n (fun x => q x && decide (x = k)) = 1 := by
    refine Nat.le_antisymm (Nat.le_trans (cN_mono fun i _ h => ?_) (cN_one n k)) ?_
    · simp only [Bool.and_eq_true] at h; exact h.2
    · have : k ∈ (List.range n).filter (fun x => q x && decide (x = k)) := mem_fr.2 ⟨hk, by rw [hq]; simp⟩
      exact List.length_pos_of_mem this
  have e2 : cN n (fun x => q x && !decide (x = k)) = cN n p := cN_congr fun i hi => by
    by_cases e : i = k
    · subst e; simp [hp]
    · simp [e, h i hi e]
  rw [e1, e2]; omega
/-- A matching, as a list of pairs. -/
structure MatL (fit : Nat → Nat → Bool) (nH nP : Nat) (L : List (Nat × Nat)) : Prop where
  n1 : (L.map (·.1)).Nodup
  n2 : (L.map (·.2)).Nodup
  ok : ∀ x ∈ L, x.1 < nH ∧ x.2 < nP ∧ fit x.1 x.2 = true
theorem MatL.sub {fit : Nat → Nat → Bool} {nH nP : Nat} {L L' : List (Nat × Nat)} (h : MatL fit nH nP L) (hs : L'.Sublist L) : MatL fit nH nP L' := ⟨List.Pairwise.sublist (hs.map _) h.n1, List.Pairwise.sublist (hs.map _) h.n2, fun x hx => h.ok x (hs.subset hx)⟩
/-- No matching has more pairs than a cover has holes and pins. -/
theorem cover_le {fit : Nat → Nat → Bool} {nH nP : Nat} {L : List (Nat × Nat)} {A B : Nat → Bool} (h : MatL fit nH nP L) (hc : ∀ x ∈ L, A x.1 = true ∨ B x.2 = true) : L.length ≤ cN nH A + cN nP B := by
  have e : L.length = (L.filter (fun x => A x.1)).length + (L.filter (fun x => !A x.1)).length := by
    have := filter_split (fun _ => true) (fun x : Nat × Nat => A x.1) L
    rw [List.filter_eq_self.2 (fun _ _ => rfl)] at this
    simpa using this
  have h1 := h.sub (List.filter_sublist (p := fun x => A x.1) (l := L))
  have h2 := h.sub (List.filter_sublist (p := fun x => !A x.1) (l := L))
  rw [e]
  refine Nat.add_le_add ?_ ?_
  · rw [← List.length_map (f := fun x : Nat × Nat => x.1)]
    refine nodup_len h1.n1 fun x hx => ?_
    obtain ⟨y, hy, rfl⟩ := List.mem_map.1 hx
    rw [mem_fr]
    exact ⟨(h1.ok y hy).1, (List.mem_filter.1 hy).2⟩
  · rw [← List.length_map (f := fun x : Nat × Nat => x.2)]
    refine nodup_len h2.n2 fun x hx => ?_
    obtain ⟨y, hy, rfl⟩ := List.mem_map.1 hx
    rw [mem_fr]
    obtain ⟨hyL, hyA⟩ := List.mem_filter.1 hy
    refine ⟨(h2.ok y hy).2.1, (hc y hyL).resolve_left fun h => ?_⟩
    simp [h] at hyA
def mtB (H : List Int) (x : Nat) : Bool := decide (0 ≤ gz H x)
theorem cnt_cN (l : List Int) : sz l = cN l.length (mtB l) := by
  have e : l = (List.range l.length).map (gz l) := by
    refine List.ext_getElem? fun i => ?_
    by_cases hi : i < l.length
    · simp [hi, gz, List.getD]
    · simp [hi]
  unfold sz cnt
  rw [List.take_length]
  unfold cN
  have : ((List.range l.length).map (gz l)).filter (fun n => decide (0 ≤ n)) = ((List.range l.length).filter (mtB l)).map (gz l) := by
    rw [List.filter_map]; rfl
  calc (l.filter (fun n => decide (0 ≤ n))).length = (((List.range l.length).map (gz l)).filter (fun n => decide (0 ≤ n))).length := by rw [← e]
    _ = _ := by rw [this, List.length_map]
/-- The pairs of a state. -/
def prsL (nH : Nat) (H : List Int) : List (Nat × Nat) := ((List.range nH).filter (mtB H)).map (fun h => (h, (gz H h).toNat))
theorem mem_prsL {nH : Nat} {H : List Int} {x : Nat × Nat} : x ∈ prsL nH H ↔ x.1 < nH ∧ gz H x.1 = x.2 := by
  unfold prsL
  rw [List.mem_map]
  constructor
  · rintro ⟨h, hh, rfl⟩
    rw [mem_fr] at hh
    have := hh.2
    simp only [mtB, decide_eq_true_eq] at this
    exact ⟨hh.1, by dsimp only; omega⟩
  · rintro ⟨h1, h2⟩
    exact ⟨x.1, mem_fr.2 ⟨h1, by simp only [mtB, decide_eq_true_eq]; omega⟩, Prod.ext rfl (by dsimp only; omega)⟩
theorem prsL_len (nH : Nat) (H : List Int) : (prsL nH H).length = cN nH (mtB H) := by unfold prsL; rw [List.length_map]; rfl
structure MVal (fit : Nat → Nat → Bool) (nH nP : Nat) (m : Mt) : Prop where
  ok : m.Ok nH nP
  val : Val fit nH nP m.H m.P
theorem MVal.sz {fit : Nat → Nat → Bool} {nH nP : Nat} {m : Mt} (h : MVal fit nH nP m) : sz m.H = cN nH (mtB m.H) := by rw [cnt_cN, h.ok.hl]
theorem MVal.matL {fit : Nat → Nat → Bool} {nH nP : Nat} {m : Mt} (h : MVal fit nH nP m) : MatL fit nH nP (prsL nH m.H) := by
  have hb : ∀ x ∈ prsL nH m.H, x.1 < nH ∧ x.2 < nP ∧ gz m.P x.2 = x.1 ∧ fit x.1 x.2 = true := fun x hx => by
    obtain ⟨h1, h2⟩ := mem_prsL.1 hx
    have h3 := h.ok.hv x.1 h1
    have h4 := h.val.hh x.1 x.2 h1 (by omega) h2
    exact ⟨h1, by omega, h4.1, h4.2⟩
  refine ⟨?_, ?_, fun x hx => ⟨(hb x hx).1, (hb x hx).2.1, (hb x hx).2.2.2⟩⟩
  · unfold prsL
    rw [List.map_map]
    exact nodup_map_on (nodup_fr _ _) fun x _ y _ e => e
  · unfold prsL
    rw [List.map_map]
    refine nodup_map_on (nodup_fr _ _) fun x hx y hy e => ?_
    have h1 := hb (x, (gz m.H x).toNat) (List.mem_map.2 ⟨x, hx, rfl⟩)
    have h2 := hb (y, (gz m.H y).toNat) (List.mem_map.2 ⟨y, hy, rfl⟩)
    have e : (gz m.H x).toNat = (gz m.H y).toNat := e
    have h3 := h1.2.2.1
    have h4 := h2.2.2.1
    dsimp only at h3 h4
    rw [e, h4] at h3
    omega
/-- No matching has more pairs. -/
def IsMax (fit : Nat → Nat → Bool) (nH nP n : Nat) : Prop := ∀ L, MatL fit nH nP L → L.length ≤ n
/-- A free hole's search. -/
theorem gr_rel {fit : Nat → Nat → Bool} {nH nP : Nat} {m : Mt} (hm : MVal fit nH nP m) {h : Nat} (hh : h < nH) (hf : gz m.H h < 0) : Rel fit m.G nH nP h 0 (m.s0 nP) (m.gr fit nP h) :=
  findF_rel (nP + 1) h _ hm.ok.s hm.val hh (unseen_rep nP) (fun q _ e => by simp only [Mt.s0] at e; omega)
theorem gb_rep (n i : Nat) : gb (List.replicate n false) i = false := by
  unfold gb
  rw [List.getD_eq_getElem?_getD, List.getElem?_replicate]
  split <;> simp
theorem grow_yes {fit : Nat → Nat → Bool} {nH nP : Nat} {m : Mt} (hm : MVal fit nH nP m) {h : Nat} (hh : h < nH) (hf : gz m.H h < 0) (hy : (m.gr fit nP h).1 = true) :
    MVal fit nH nP (m.grow fit nP h) ∧ sz (m.grow fit nP h).H = sz m.H + 1 ∧ (∀ p, p < nP → gb m.G p = true → gz (m.grow fit nP h).P p = gz m.P p) ∧ (∀ x, x < nH → x ≠ h → (0 ≤ gz (m.grow fit nP h).H x ↔ 0 ≤ gz m.H x)) ∧ 0 ≤ gz (m.grow fit nP h).H h := by
  have hr := (gr_rel hm hh hf).1 hy
  have hv : MVal fit nH nP (m.grow fit nP h) := ⟨hm.ok.grow hh, ⟨fun x p hx hp e => hr.hh x p hx hp e, fun x p hp hx e => hr.pp x p hp hx (by simp only [Mt.s0]; omega) e⟩⟩
  obtain ⟨p, hp, e1, _⟩ := hr.ho
  have h0 : 0 ≤ gz (m.grow fit nP h).H h := by
    have : gz (m.grow fit nP h).H h = p := e1
    omega
  refine ⟨hv, ?_, fun p hp hg => hr.ke p hp (.inr hg), fun x hx hne => hr.mh x hx hne, h0⟩
  rw [hv.sz, hm.sz]
  refine cN_add hh (by simp only [mtB, decide_eq_false_iff_not]; omega) (by simpa only [mtB, decide_eq_true_eq] using h0) fun i hi hne => ?_
  simp only [mtB, decide_eq_true_eq]
  exact hr.mh i hi hne
theorem grow_no {fit : Nat → Nat → Bool} {nH nP : Nat} {m : Mt} (hm : MVal fit nH nP m) {h : Nat} (hh : h < nH) (hf : gz m.H h < 0) (hy : (m.gr fit nP h).1 = false) : m.grow fit nP h = m ∧ Fai fit m.G nH nP h 0 (m.s0 nP) (m.gr fit nP h).2 := by
  have hr := (gr_rel hm hh hf).2 hy
  refine ⟨?_, hr⟩
  unfold Mt.grow
  rw [hr.eH, hr.eP]; rfl
/-- What most has made of the first k holes. -/
structure MostI (fit : Nat → Nat → Bool) (nH nP k : Nat) (m : Mt) : Prop where
  v : MVal fit nH nP m
  g : ∀ p, gb m.G p = false
  lt : ∀ x, x < nH → 0 ≤ gz m.H x → x < k
  cov : ∃ A B : Nat → Bool, (∀ x p, x < k → p < nP → fit x p = true → A x = true ∨ B p = true) ∧ cN nH A + cN nP B ≤ sz m.H
theorem MostI.step {fit : Nat → Nat → Bool} {nH nP k : Nat} {m : Mt} (h : MostI fit nH nP k m) (hk : k < nH) : MostI fit nH nP (k + 1) (m.grow fit nP k) := by
  obtain ⟨A, B, hc, hn⟩ := h.cov
  have hf : gz m.H k < 0 := by
    by_cases e : 0 ≤ gz m.H k
    · exact absurd (h.lt k hk e) (Nat.lt_irrefl k)
    · omega
  cases hy : (m.gr fit nP k).1 with
  | true =>
    obtain ⟨h1, h2, h3, h4, h5⟩ := grow_yes h.v hk hf hy
    refine ⟨h1, fun p => h.g p, fun x hx h0 => ?_, fun x => A x || decide (x = k), B, fun x p hx hp hfx => ?_, ?_⟩
    · by_cases e : x = k
      · omega
      · have := h.lt x hx ((h4 x hx e).1 h0); omega
    · by_cases e : x = k
      · simp [e]
      · have := hc x p (by omega) hp hfx
        simp only [Bool.or_eq_true]
        exact this.imp (fun h => .inl h) id
    · rw [h2]
      have := cN_or nH A (fun x => decide (x = k))
      have := cN_one nH k
      omega
  | false =>
    obtain ⟨h1, hr⟩ := grow_no h.v hk hf hy
    rw [h1]
    have hR : ∀ p, p < nP → gb (m.gr fit nP k).2.S p = true → ∃ o : Nat, o < nH ∧ gz m.P p = o ∧ gz m.H o = p ∧ ∀ q, q < nP → fit o q = true → gb (m.gr fit nP k).2.S q = true := fun p hp hs => by
      obtain ⟨_, o, h2, h3, h4⟩ := hr.nw p hp hs (gb_rep nP p)
      exact ⟨o, h2, h3, h.v.val.pp o p hp h2 h3, fun q hq hfq => (h4 q hq hfq).resolve_right (by rw [h.g]; simp)⟩
    generalize hS : (m.gr fit nP k).2.S = S at hR
    have hcl : ∀ p, p < nP → fit k p = true → gb S p = true := fun p hp hfp => by
      rw [← hS]; exact (hr.cl p (Nat.zero_le _) hp hfp).resolve_right (by rw [h.g]; simp)
    let W : Nat → Bool := fun x => decide (x = k) || (mtB m.H x && gb S (gz m.H x).toNat)
    refine ⟨h.v, h.g, fun x hx h0 => by have := h.lt x hx h0; omega, fun x => A x && !W x, fun p => B p || gb S p, fun x p hx hp hfx => ?_, ?_⟩
    · by_cases hw : W x = true
      · refine .inr ?_
        have : gb S p = true := by
          simp only [W, Bool.or_eq_true, decide_eq_true_eq, Bool.and_eq_true, mtB] at hw
          rcases hw with rfl | ⟨hm0, hs⟩
          · exact hcl p hp hfx
          · have hxn : x < nH := by omega
            have hv := h.v.ok.hv x hxn
            obtain ⟨o, h2, h3, h4, h5⟩ := hR _ (by omega) hs
            have e : gz m.H x = ((gz m.H x).toNat : Nat) := by omega
            obtain ⟨e1, _⟩ := h.v.val.hh x _ hxn (by omega) e
            have : o = x := by omega
            subst this
            exact h5 p hp hfx
        simp [this]
      · have hxk : x ≠ k := fun e => hw (by simp [W, e])
        have := hc x p (by omega) hp hfx
        simp only [Bool.or_eq_true, Bool.and_eq_true, Bool.not_eq_true']
        exact this.imp (fun h => ⟨h, by simpa using hw⟩) (fun h => .inl h)
    · have e1 := cN_split nH A W
      have e2 := cN_split nP (fun p => B p || gb S p) B
      have e3 : cN nP (fun x => (B x || gb S x) && B x) ≤ cN nP B := cN_mono fun i _ h => by simp only [Bool.and_eq_true] at h; exact h.2
      have e4 : cN nP (fun x => (B x || gb S x) && !B x) ≤ cN nH (fun x => A x && W x) := by
        refine cN_inj (fun p => (gz m.P p).toNat) (fun p hp hb => ?_) (fun p q hp hq hb hb2 e => ?_)
        · have hsB : gb S p = true ∧ B p = false := by cases h1 : B p <;> simp_all
          obtain ⟨o, h2, h3, h4, h5⟩ := hR p hp hsB.1
          have ho : (gz m.P p).toNat = o := by omega
          rw [ho]
          have hok := h.lt o h2 (by omega)
          have hfo := (h.v.val.hh o p h2 hp h4).2
          refine ⟨h2, ?_⟩
          have hA : A o = true := (hc o p hok hp hfo).resolve_right (by rw [hsB.2]; simp)
          have hW : W o = true := by
            simp only [W, mtB, Bool.or_eq_true, Bool.and_eq_true, decide_eq_true_eq]
            refine .inr ⟨by omega, ?_⟩
            rw [h4]; exact hsB.1
          rw [hA, hW]; rfl
        · have hs1 : gb S p = true := by cases h1 : B p <;> simp_all
          have hs2 : gb S q = true := by cases h1 : B q <;> simp_all
          obtain ⟨o, h2, h3, h4, _⟩ := hR p hp hs1
          obtain ⟨o2, k2, k3, k4, _⟩ := hR q hq hs2
          have : o = o2 := by omega
          subst this
          omega
      omega
theorem mostN_I {fit : Nat → Nat → Bool} {nH nP : Nat} : ∀ k, k ≤ nH → MostI fit nH nP k (mostN fit nH nP k)
  | 0, _ => by
    have hn : ∀ x, x < nH → gz (Mt.new nH nP).H x = -1 := fun x hx => gz_neg' hx
    have hp : ∀ x, x < nP → gz (Mt.new nH nP).P x = -1 := fun x hx => gz_neg' hx
    refine ⟨⟨Mt.new_ok nH nP, ⟨fun x p hx _ e => by have := hn x hx; simp only [mostN] at e; omega, fun x p hp0 _ e => by have := hp p hp0; simp only [mostN] at e; omega⟩⟩, fun p => gb_rep nP p, fun x hx h0 => by have := hn x hx; simp only [mostN] at h0; omega, fun _ => false, fun _ => false, fun x p hx => by omega, ?_⟩
    have : ∀ n, cN n (fun _ => false) = 0 := fun n => by simp [cN]
    rw [this, this]; exact Nat.zero_le _
  | k + 1, hk => (mostN_I k (by omega)).step (by omega)
/-- most: no matching has more pairs. -/
theorem most_max {fit : Nat → Nat → Bool} {nH nP : Nat} : IsMax fit nH nP (sz (mostN fit nH nP nH).H) := fun L hL => by
  obtain ⟨A, B, hc, hn⟩ := (mostN_I (fit := fit) (nP := nP) nH (Nat.le_refl _)).cov
  exact Nat.le_trans (cover_le hL fun x hx => by obtain ⟨h1, h2, h3⟩ := hL.ok x hx; exact hc x.1 x.2 h1 h2 h3) hn
end Go.Proofs.Ytogilkilkmoedaa
namespace Go.Proofs.Ytogilkilkmoedaa
open Go Go.Vc Go.RowKit
/-! The best pairing. -/
theorem nodup_inj {α β : Type} {f : α → β} : ∀ {l : List α}, (l.map f).Nodup → ∀ {x y : α}, x ∈ l → y ∈ l → f x = f y → x = y
  | [], _, _, _, hx, _, _ => by cases hx
  | a :: l, h, x, y, hx, hy, e => by
    rw [List.map_cons, List.nodup_cons] at h
    rcases List.mem_cons.1 hx with rfl | hx'
    · rcases List.mem_cons.1 hy with rfl | hy'
      · rfl
      · exact absurd (List.mem_map.2 ⟨y, hy', e.symm⟩) h.1
    · rcases List.mem_cons.1 hy with rfl | hy'
      · exact absurd (List.mem_map.2 ⟨x, hx', e⟩) h.1
      · exact nodup_inj h.2 hx' hy' e
/-- A matching that holds to the pairs F. -/
structure PI (fit : Nat → Nat → Bool) (nH nP : Nat) (F : List (Nat × Nat)) (m : Mt) : Prop where
  v : MVal fit nH nP m
  fx : ∀ x ∈ F, x.1 < nH ∧ x.2 < nP ∧ gz m.H x.1 = x.2
  gv : ∀ p, p < nP → (gb m.G p = true ↔ ∃ x ∈ F, x.2 = p)
theorem PI.sub {fit : Nat → Nat → Bool} {nH nP : Nat} {F : List (Nat × Nat)} {m : Mt} (h : PI fit nH nP F m) : ∀ x ∈ F, x ∈ prsL nH m.H := fun x hx => mem_prsL.2 ⟨(h.fx x hx).1, (h.fx x hx).2.2⟩
section
variable {fit : Nat → Nat → Bool} {nH nP : Nat} {F : List (Nat × Nat)} {m : Mt} {h p : Nat}
theorem put_H (hm : m.Ok nH nP) (hh : h < nH) (hp : p < nP) (x : Nat) : gz (m.put h p).H x = if x = h then (p : Int) else if 0 ≤ gz m.P p ∧ x = (gz m.P p).toNat then -1 else gz m.H x := by
  have hv := hm.pv p hp
  simp only [Mt.put]
  rw [gz_set (by rw [h1_len, hm.hl]; exact hh)]
  congr 1
  unfold Mt.h1
  split
  · rename_i h0
    rw [gz_set (by rw [hm.hl]; omega)]
    simp only [h0, true_and]
  · rename_i h0
    simp only [h0, false_and, if_false]
theorem h1_gz (hm : m.Ok nH nP) (hp : p < nP) (x : Nat) : gz (m.h1 p) x = if 0 ≤ gz m.P p ∧ x = (gz m.P p).toNat then -1 else gz m.H x := by
  have hv := hm.pv p hp
  unfold Mt.h1
  split
  · rename_i h0
    rw [gz_set (by rw [hm.hl]; omega)]
    simp only [h0, true_and]
  · rename_i h0
    simp only [h0, false_and, if_false]
theorem put_P (hm : m.Ok nH nP) (hh : h < nH) (hp : p < nP) (y : Nat) : gz (m.put h p).P y = if y = p then (h : Int) else if 0 ≤ gz (m.h1 p) h ∧ y = (gz (m.h1 p) h).toNat then -1 else gz m.P y := by
  have hv : gz (m.h1 p) h < nP := by
    rw [h1_gz hm hp]
    split
    · omega
    · exact hm.hv h hh
  simp only [Mt.put]
  rw [gz_set (by rw [p1_len, hm.pl]; exact hp)]
  congr 1
  unfold Mt.p1
  split
  · rename_i h0
    rw [gz_set (by rw [hm.pl]; omega)]
    simp only [h0, true_and]
  · rename_i h0
    simp only [h0, false_and, if_false]
theorem put_val (hm : MVal fit nH nP m) (hh : h < nH) (hp : p < nP) (hf : fit h p = true) : MVal fit nH nP (m.put h p) := by
  have hO := hm.ok
  have hV := hm.val
  refine ⟨hO.put hh hp, ⟨fun x y hx hy e => ?_, fun x y hy hx e => ?_⟩⟩
  · rw [put_H hO hh hp] at e
    rw [put_P hO hh hp]
    split at e
    · rename_i ex
      subst ex
      have : y = p := by omega
      subst this
      exact ⟨if_pos rfl, hf⟩
    · rename_i exh
      split at e
      · omega
      · rename_i exo
        obtain ⟨e1, e2⟩ := hV.hh x y hx hy e
        refine ⟨?_, e2⟩
        rw [if_neg, if_neg, e1]
        · rintro ⟨k1, k2⟩
          rw [h1_gz hO hp] at k1 k2
          split at k1
          · omega
          · rename_i k3
            rw [if_neg k3] at k2
            have hq := hO.hv h hh
            obtain ⟨f1, _⟩ := hV.hh h (gz m.H h).toNat hh (by omega) (by omega)
            rw [← k2, e1] at f1
            omega
        · intro k
          subst k
          exact exo ⟨by omega, by omega⟩
  · rw [put_P hO hh hp] at e
    rw [put_H hO hh hp]
    split at e
    · rename_i ex
      subst ex
      have : x = h := by omega
      subst this
      rw [if_pos rfl]
    · rename_i exp
      split at e
      · omega
      · rename_i exq
        have e1 := hV.pp x y hy hx e
        have hno : ¬ (0 ≤ gz m.P p ∧ x = (gz m.P p).toNat) := by
          rintro ⟨k1, k2⟩
          have k3 := hV.pp x p hp hx (by omega)
          omega
        rw [if_neg, if_neg hno, e1]
        intro k
        subst k
        refine exq ?_
        rw [h1_gz hO hp, if_neg hno]
        exact ⟨by omega, by omega⟩
theorem put_sz (hm : MVal fit nH nP m) (hh : h < nH) (hp : p < nP) (hf : fit h p = true) : sz m.H ≤ sz (m.put h p).H + 1 := by
  have hv := put_val hm hh hp hf
  rw [hv.sz, hm.sz]
  have e1 : cN nH (mtB m.H) ≤ cN nH (fun x => mtB (m.put h p).H x || decide (x = (gz m.P p).toNat)) := cN_mono fun i hi hb => by
    simp only [mtB, Bool.or_eq_true, decide_eq_true_eq] at hb ⊢
    rw [put_H hm.ok hh hp]
    by_cases e : i = (gz m.P p).toNat
    · exact .inr e
    · refine .inl ?_
      split
      · omega
      · rw [if_neg (fun k => e k.2)]; exact hb
  have e2 := cN_or nH (mtB (m.put h p).H) (fun x => decide (x = (gz m.P p).toNat))
  have e3 := cN_one nH (gz m.P p).toNat
  omega
theorem PI.put (hm : PI fit nH nP F m) (hh : h < nH) (hp : p < nP) (hf : fit h p = true) (hg : gb m.G p = false) (hn : ∀ x ∈ F, x.1 ≠ h) : PI fit nH nP (F ++ [(h, p)]) (m.put h p) := by
  refine ⟨put_val hm.v hh hp hf, fun x hx => ?_, fun q hq => ?_⟩
  · rcases List.mem_append.1 hx with hx | hx
    · obtain ⟨h1, h2, h3⟩ := hm.fx x hx
      refine ⟨h1, h2, ?_⟩
      rw [put_H hm.v.ok hh hp, if_neg (hn x hx), if_neg, h3]
      rintro ⟨k1, k2⟩
      have k3 := hm.v.val.pp x.1 p hp h1 (by omega)
      have : x.2 = p := by omega
      have := (hm.gv p hp).2 ⟨x, hx, this⟩
      rw [hg] at this; cases this
    · rw [List.mem_singleton] at hx
      subst hx
      exact ⟨hh, hp, by rw [put_H hm.v.ok hh hp, if_pos rfl]⟩
  · have e : gb (m.put h p).G q = if q = p then true else gb m.G q := by
      simp only [Mt.put]; exact gb_set (by rw [hm.v.ok.gl]; exact hp)
    rw [e]
    constructor
    · intro k
      by_cases eq : q = p
      · exact ⟨(h, p), by simp, eq.symm⟩
      · rw [if_neg eq] at k
        obtain ⟨x, hx, ex⟩ := (hm.gv q hq).1 k
        exact ⟨x, List.mem_append_left _ hx, ex⟩
    · rintro ⟨x, hx, ex⟩
      split
      · rfl
      · rename_i eq
        rcases List.mem_append.1 hx with hx | hx
        · exact (hm.gv q hq).2 ⟨x, hx, ex⟩
        · rw [List.mem_singleton] at hx
          subst hx
          exact absurd ex.symm eq
theorem PI.grow (hm : PI fit nH nP F m) (hh : h < nH) (hf : gz m.H h < 0) (hy : (m.gr fit nP h).1 = true) : PI fit nH nP F (m.grow fit nP h) ∧ sz (m.grow fit nP h).H = sz m.H + 1 := by
  obtain ⟨h1, h2, h3, h4, h5⟩ := grow_yes hm.v hh hf hy
  refine ⟨⟨h1, fun x hx => ?_, hm.gv⟩, h2⟩
  obtain ⟨k1, k2, k3⟩ := hm.fx x hx
  refine ⟨k1, k2, h1.val.pp x.1 x.2 k2 k1 ?_⟩
  rw [h3 x.2 k2 ((hm.gv x.2 k2).2 ⟨x, hx, rfl⟩)]
  exact (hm.v.val.hh x.1 x.2 k1 k2 k3).1
/-- All searches fail: no matching with the pairs F has more. -/
theorem PI.stuck (hm : PI fit nH nP F m) (hno : ∀ j, j < nH → gz m.H j < 0 → (m.gr fit nP j).1 = false) : ∀ L, MatL fit nH nP L → (∀ x ∈ F, x ∈ L) → L.length ≤ sz m.H := by
  intro L hL hFL
  let R : Nat → Bool := fun p => (List.range nH).any (fun j => decide (gz m.H j < 0) && gb (m.gr fit nP j).2.S p)
  have hR : ∀ p, R p = true ↔ ∃ j, j < nH ∧ gz m.H j < 0 ∧ gb (m.gr fit nP j).2.S p = true := fun p => by simp [R]
  have hRo : ∀ p, p < nP → R p = true → gb m.G p = false ∧ ∃ o : Nat, o < nH ∧ gz m.P p = o ∧ gz m.H o = p ∧ ∀ q, q < nP → fit o q = true → R q = true ∨ gb m.G q = true := fun p hp h => by
    obtain ⟨j, hj, hf, hs⟩ := (hR p).1 h
    obtain ⟨_, hr⟩ := grow_no hm.v hj hf (hno j hj hf)
    obtain ⟨g1, o, g2, g3, g4⟩ := hr.nw p hp hs (gb_rep nP p)
    exact ⟨g1, o, g2, g3, hm.v.val.pp o p hp g2 g3, fun q hq hfq => (g4 q hq hfq).imp (fun h => (hR q).2 ⟨j, hj, hf, h⟩) id⟩
  have hc := cover_le (A := fun x => mtB m.H x && !R (gz m.H x).toNat) (B := R) hL fun x hx => by
    obtain ⟨b1, b2, b3⟩ := hL.ok x hx
    by_cases hF : x ∈ F
    · obtain ⟨f1, f2, f3⟩ := hm.fx x hF
      refine .inl ?_
      have hg := (hm.gv x.2 f2).2 ⟨x, hF, rfl⟩
      have e : (gz m.H x.1).toNat = x.2 := by omega
      simp only [mtB, Bool.and_eq_true, decide_eq_true_eq, Bool.not_eq_true']
      refine ⟨by omega, ?_⟩
      rw [e, Bool.eq_false_iff]
      intro hr
      have := (hRo x.2 f2 hr).1
      rw [hg] at this; cases this
    · have hng : gb m.G x.2 = false := by
        rw [Bool.eq_false_iff]
        intro hg
        obtain ⟨y, hy, ey⟩ := (hm.gv x.2 b2).1 hg
        exact hF ((nodup_inj hL.n2 (hFL y hy) hx ey) ▸ hy)
      by_cases hmx : 0 ≤ gz m.H x.1
      · by_cases hr : R (gz m.H x.1).toNat = true
        · refine .inr ?_
          have hv := hm.v.ok.hv x.1 b1
          obtain ⟨_, o, g2, g3, g4, g5⟩ := hRo _ (by omega) hr
          obtain ⟨e1, _⟩ := hm.v.val.hh x.1 (gz m.H x.1).toNat b1 (by omega) (by omega)
          have : o = x.1 := by omega
          subst this
          exact (g5 x.2 b2 b3).resolve_right (by rw [hng]; simp)
        · exact .inl (by simp only [mtB, Bool.and_eq_true, decide_eq_true_eq, Bool.not_eq_true']; exact ⟨hmx, by simpa using hr⟩)
      · refine .inr ?_
        have hf : gz m.H x.1 < 0 := by omega
        obtain ⟨_, hr⟩ := grow_no hm.v b1 hf (hno x.1 b1 hf)
        exact (hR x.2).2 ⟨x.1, b1, hf, (hr.cl x.2 (Nat.zero_le _) b2 b3).resolve_right (by rw [hng]; simp)⟩
  have e1 := cN_split nH (mtB m.H) (fun x => R (gz m.H x).toNat)
  have e2 : cN nP R ≤ cN nH (fun x => mtB m.H x && R (gz m.H x).toNat) := by
    refine cN_inj (fun p => (gz m.P p).toNat) (fun p hp hr => ?_) (fun p q hp hq hr hr2 e => ?_)
    · obtain ⟨_, o, g2, g3, g4, _⟩ := hRo p hp hr
      have ho : (gz m.P p).toNat = o := by omega
      rw [ho]
      refine ⟨g2, ?_⟩
      simp only [mtB, Bool.and_eq_true, decide_eq_true_eq]
      exact ⟨by omega, by rw [g4]; exact hr⟩
    · obtain ⟨_, o, g2, g3, g4, _⟩ := hRo p hp hr
      obtain ⟨_, o2, k2, k3, k4, _⟩ := hRo q hq hr2
      have e : (gz m.P p).toNat = (gz m.P q).toNat := e
      have : o = o2 := by omega
      subst this
      omega
  have e3 : cN nH (mtB m.H) = sz m.H := hm.v.sz.symm
  have e4 : cN nH (fun x => mtB m.H x && !(fun x => R (gz m.H x).toNat) x) = cN nH (fun x => mtB m.H x && !R (gz m.H x).toNat) := rfl
  omega
theorem withL_spec {n : Nat} (hx : IsMax fit nH nP n) : ∀ c i (m : Mt), PI fit nH nP F m → i + c = nH → n ≤ sz m.H + 1 → (sz m.H ≠ n → ∀ j, j < i → gz m.H j < 0 → (m.gr fit nP j).1 = false) →
    ((withL fit nP n c i m).1 = true → PI fit nH nP F (withL fit nP n c i m).2 ∧ sz (withL fit nP n c i m).2.H = n) ∧
    ((withL fit nP n c i m).1 = false → ∀ L, MatL fit nH nP L → (∀ x ∈ F, x ∈ L) → L.length < n)
  | 0, i, m, hm, hi, hn, hno => by
    have hle : sz m.H ≤ n := by
      have := hx _ hm.v.matL
      rw [prsL_len, ← hm.v.sz] at this; exact this
    unfold withL
    refine ⟨fun h => ⟨hm, by simpa using h⟩, fun h => ?_⟩
    have hne : sz m.H ≠ n := by simpa using h
    intro L hL hF
    have := hm.stuck (fun j hj hf => hno hne j (by omega) hf) L hL hF
    omega
  | c + 1, i, m, hm, hi, hn, hno => by
    have hle : sz m.H ≤ n := by
      have := hx _ hm.v.matL
      rw [prsL_len, ← hm.v.sz] at this; exact this
    unfold withL
    split
    · rename_i e
      exact ⟨fun _ => ⟨hm, e⟩, fun h => by cases h⟩
    · rename_i hne
      split
      · rename_i hf
        cases hy : (m.gr fit nP i).1 with
        | true =>
          obtain ⟨h1, h2⟩ := hm.grow (by omega) hf hy
          exact withL_spec hx c (i + 1) _ h1 (by omega) (by omega) (fun k => absurd (by omega) k)
        | false =>
          obtain ⟨h1, _⟩ := grow_no hm.v (by omega) hf hy
          rw [h1]
          refine withL_spec hx c (i + 1) m hm (by omega) hn fun k j hj hjf => ?_
          by_cases e : j = i
          · subst e; exact hy
          · exact hno k j (by omega) hjf
      · rename_i hf
        refine withL_spec hx c (i + 1) m hm (by omega) hn fun k j hj hjf => ?_
        by_cases e : j = i
        · subst e; exact absurd hjf hf
        · exact hno k j (by omega) hjf
/-- No matching of n pairs has the pairs F and the pair (h, p). -/
def NoExt (fit : Nat → Nat → Bool) (nH nP n : Nat) (F : List (Nat × Nat)) (h p : Nat) : Prop := ∀ L, MatL fit nH nP L → (∀ x ∈ F, x ∈ L) → (h, p) ∈ L → L.length < n
theorem pinsL_spec {n : Nat} (hx : IsMax fit nH nP n) (hh : h < nH) (hnF : ∀ x ∈ F, x.1 ≠ h) (hm : PI fit nH nP F m) (hs : sz m.H = n) : ∀ c p, p + c = nP → (∀ p', p' < p → NoExt fit nH nP n F h p') →
    (∃ q, q < nP ∧ (pinsL fit nP h c p m).2 = [(h, q)] ∧ PI fit nH nP (F ++ [(h, q)]) (pinsL fit nP h c p m).1 ∧ sz (pinsL fit nP h c p m).1.H = n ∧ ∀ p', p' < q → NoExt fit nH nP n F h p') ∨
    ((pinsL fit nP h c p m).2 = [] ∧ (pinsL fit nP h c p m).1 = m ∧ ∀ p', p' < nP → NoExt fit nH nP n F h p')
  | 0, p, hp, hno => .inr ⟨rfl, rfl, fun p' h => hno p' (by omega)⟩
  | c + 1, p, hp, hno => by
    have hpl : p < nP := by omega
    have hnx : NoExt fit nH nP n F h p → ∀ p', p' < p + 1 → NoExt fit nH nP n F h p' := fun h0 p' hp' => by
      by_cases e : p' = p
      · subst e; exact h0
      · exact hno p' (by omega)
    unfold pinsL
    split
    · rename_i hc
      refine pinsL_spec hx hh hnF hm hs c (p + 1) (by omega) (hnx fun L hL hF hL2 => ?_)
      exfalso
      rcases (Bool.or_eq_true _ _).mp hc with h1 | h1
      · obtain ⟨y, hy, ey⟩ := (hm.gv p hpl).1 h1
        have := nodup_inj hL.n2 (hF y hy) hL2 ey
        exact hnF y hy (by rw [this])
      · have := (hL.ok _ hL2).2.2
        simp only at this
        rw [this] at h1; cases h1
    · rename_i hc
      simp only [Bool.or_eq_true, not_or, Bool.not_eq_true, Bool.not_eq_true'] at hc
      have hf : fit h p = true := by simpa using hc.2
      have hput := hm.put hh hpl hf hc.1 hnF
      have hsp := put_sz hm.v hh hpl hf
      have hw := withL_spec hx nH 0 (m.put h p) hput (by omega) (by omega) (fun _ j hj => by omega)
      have ew : m.with_ fit nP h p = withL fit nP n nH 0 (m.put h p) := by unfold Mt.with_; rw [hs, hm.v.ok.hl]
      rw [ew]
      split
      · rename_i hy
        obtain ⟨h1, h2⟩ := hw.1 hy
        exact .inl ⟨p, hpl, rfl, h1, h2, hno⟩
      · rename_i hy
        refine pinsL_spec hx hh hnF hm hs c (p + 1) (by omega) (hnx fun L hL hF hL2 => ?_)
        refine hw.2 (by simpa using hy) L hL fun x hx => ?_
        rcases List.mem_append.1 hx with hx | hx
        · exact hF x hx
        · rw [List.mem_singleton] at hx; rw [hx]; exact hL2
end
/-- The pairs that were chosen are the first that can be. -/
structure Grd (fit : Nat → Nat → Bool) (nH nP n : Nat) (F : List (Nat × Nat)) (k : Nat) : Prop where
  lt : ∀ x ∈ F, x.1 < k
  asc : F.Pairwise (fun x y => x.1 < y.1)
  yes : ∀ x ∈ F, ∀ p', p' < x.2 → NoExt fit nH nP n (F.filter (fun y => decide (y.1 < x.1))) x.1 p'
  no : ∀ j, j < k → (∀ x ∈ F, x.1 ≠ j) → ∀ p', p' < nP → NoExt fit nH nP n (F.filter (fun y => decide (y.1 < j))) j p'
theorem filter_all {F : List (Nat × Nat)} {k : Nat} (h : ∀ x ∈ F, x.1 < k) : F.filter (fun y => decide (y.1 < k)) = F := List.filter_eq_self.2 fun x hx => by simpa using h x hx
theorem pairsN_spec {fit : Nat → Nat → Bool} {nH nP n : Nat} (hx : IsMax fit nH nP n) (hn : sz (mostN fit nH nP nH).H = n) : ∀ k, k ≤ nH → PI fit nH nP (pairsN fit nH nP k).2 (pairsN fit nH nP k).1 ∧ sz (pairsN fit nH nP k).1.H = n ∧ Grd fit nH nP n (pairsN fit nH nP k).2 k
  | 0, _ => by
    have hI := mostN_I (fit := fit) (nP := nP) nH (Nat.le_refl _)
    refine ⟨⟨hI.v, fun x hx => (by cases hx), fun p _ => ⟨fun h => ?_, fun ⟨x, hx, _⟩ => (by cases hx)⟩⟩, hn, ⟨fun x hx => (by cases hx), List.Pairwise.nil, fun x hx => (by cases hx), fun j hj => (by omega)⟩⟩
    simp only [pairsN] at h
    rw [hI.g] at h; cases h
  | k + 1, hk => by
    obtain ⟨h1, h2, h3⟩ := pairsN_spec hx hn k (by omega)
    have hp := pinsL_spec hx (h := k) (by omega) (fun x hx => Nat.ne_of_lt (h3.lt x hx)) h1 h2 nP 0 (by omega) (fun p' h => by omega)
    unfold pairsN
    generalize (pairsN fit nH nP k).2 = F at h1 h3 hp
    generalize (pairsN fit nH nP k).1 = m at h1 h2 hp
    dsimp only
    rcases hp with ⟨q, hq, e, k1, k2, k3⟩ | ⟨e, e2, k3⟩
    · rw [e]
      refine ⟨k1, k2, ?_, ?_, ?_, ?_⟩
      · intro x hx
        rcases List.mem_append.1 hx with hx | hx
        · have := h3.lt x hx; omega
        · rw [List.mem_singleton] at hx; rw [hx]; exact Nat.lt_succ_self k
      · exact List.pairwise_append.2 ⟨h3.asc, List.pairwise_singleton _ _, fun x hx y hy => by rw [List.mem_singleton] at hy; rw [hy]; exact h3.lt x hx⟩
      · intro x hx p' hp'
        rcases List.mem_append.1 hx with hx | hx
        · have e3 : (F ++ [(k, q)]).filter (fun y => decide (y.1 < x.1)) = F.filter (fun y => decide (y.1 < x.1)) := by
            rw [List.filter_append]
            have := h3.lt x hx
            simp; omega
          rw [e3]
          exact h3.yes x hx p' hp'
        · rw [List.mem_singleton] at hx
          subst hx
          have e3 : (F ++ [(k, q)]).filter (fun y => decide (y.1 < k)) = F := by
            rw [List.filter_append, filter_all h3.lt]
            simp
          rw [e3]
          exact k3 p' hp'
      · intro j hj hne p' hp'
        have hjk : j ≠ k := fun e => hne (k, q) (by simp) e.symm
        have e3 : (F ++ [(k, q)]).filter (fun y => decide (y.1 < j)) = F.filter (fun y => decide (y.1 < j)) := by
          rw [List.filter_append]
          simp; omega
        rw [e3]
        exact h3.no j (by omega) (fun x hx => hne x (List.mem_append_left _ hx)) p' hp'
    · rw [e, e2, List.append_nil]
      refine ⟨h1, h2, ⟨fun x hx => by have := h3.lt x hx; omega, h3.asc, h3.yes, fun j hj hne p' hp' => ?_⟩⟩
      by_cases ej : j = k
      · subst ej
        rw [filter_all h3.lt]
        exact k3 p' hp'
      · exact h3.no j (by omega) hne p' hp'
theorem fst_nodup {F : List (Nat × Nat)} (h : F.Pairwise (fun x y => x.1 < y.1)) : (F.map (·.1)).Nodup := List.pairwise_map.2 (h.imp fun h => Nat.ne_of_lt h)
/-- What Pairs returns, of right sizes. -/
def bestL (fit : Nat → Nat → Bool) (nH nP : Nat) : List (Nat × Nat) := (pairsN fit nH nP nH).2
theorem best_spec (fit : Nat → Nat → Bool) (nH nP : Nat) : MatL fit nH nP (bestL fit nH nP) ∧ IsMax fit nH nP (bestL fit nH nP).length ∧ Grd fit nH nP (bestL fit nH nP).length (bestL fit nH nP) nH ∧ (bestL fit nH nP).length = sz (mostN fit nH nP nH).H := by
  have hx := most_max (fit := fit) (nH := nH) (nP := nP)
  obtain ⟨h1, h2, h3⟩ := pairsN_spec hx rfl nH (Nat.le_refl _)
  have hM : MatL fit nH nP (bestL fit nH nP) := by
    refine ⟨fst_nodup h3.asc, ?_, fun x hx => ?_⟩
    · refine nodup_map_on (List.Pairwise.imp (R := fun x y : Nat × Nat => x.1 < y.1) (fun {a b} h e => by subst e; exact Nat.lt_irrefl _ h) h3.asc) fun x hx y hy e => ?_
      exact nodup_inj h1.v.matL.n2 (h1.sub x hx) (h1.sub y hy) e
    · exact h1.v.matL.ok x (h1.sub x hx)
  have hlen : (bestL fit nH nP).length = sz (mostN fit nH nP nH).H := by
    refine Nat.le_antisymm (hx _ hM) ?_
    rw [← h2, h1.v.sz, ← prsL_len]
    refine Nat.le_trans (nodup_len (l' := (bestL fit nH nP)) ?_ fun x hx2 => ?_) (Nat.le_refl _)
    · refine List.Pairwise.imp (R := fun x y : Nat × Nat => x.1 ≠ y.1) (fun {a b} h (e : a = b) => h (by rw [e])) (List.pairwise_map.1 h1.v.matL.n1)
    · by_cases hF : ∃ y ∈ bestL fit nH nP, y.1 = x.1
      · obtain ⟨y, hy, ey⟩ := hF
        have := nodup_inj h1.v.matL.n1 (h1.sub y hy) hx2 ey
        exact this ▸ hy
      · exfalso
        obtain ⟨b1, b2, b3⟩ := h1.v.matL.ok x hx2
        have := h3.no x.1 b1 (fun y hy e => hF ⟨y, hy, e⟩) x.2 b2 _ h1.v.matL (fun y hy => h1.sub y (List.mem_filter.1 hy).1) hx2
        rw [prsL_len, ← h1.v.sz, h2] at this
        exact Nat.lt_irrefl _ this
  refine ⟨hM, ?_, ?_, hlen⟩
  · rw [hlen]; exact hx
  · rw [hlen]; exact h3
/-- No other list of as many pairs comes before it. -/
theorem best_first {fit : Nat → Nat → Bool} {nH nP : Nat} {L : List (Nat × Nat)} (hL : MatL fit nH nP L) (has : L.Pairwise (fun x y => x.1 < y.1)) (hlen : L.length = (bestL fit nH nP).length) {i : Nat} {x y : Nat × Nat} (hx : (bestL fit nH nP)[i]? = some x) (hy : L[i]? = some y) (hpre : ∀ j, j < i → (bestL fit nH nP)[j]? = L[j]?) : ¬ (y.1 < x.1 ∨ y.1 = x.1 ∧ y.2 < x.2) := by
  obtain ⟨hM, _, hG, _⟩ := best_spec fit nH nP
  generalize bestL fit nH nP = F at hM hG hx hpre hlen
  have hyL : y ∈ L := List.mem_of_getElem? hy
  have hxF : x ∈ F := List.mem_of_getElem? hx
  obtain ⟨b1, b2, b3⟩ := hL.ok y hyL
  have hlow : ∀ z ∈ F, z.1 < x.1 → ∃ j, j < i ∧ L[j]? = some z := by
    intro z hz hlt
    obtain ⟨j, hj, ej⟩ := List.getElem_of_mem hz
    obtain ⟨hi, ei⟩ := List.getElem?_eq_some_iff.1 hx
    have hji : j < i := by
      rcases Nat.lt_trichotomy j i with h | h | h
      · exact h
      · subst h; rw [ei] at ej; subst ej; omega
      · have := (List.pairwise_iff_getElem.1 hG.asc) i j hi hj h
        rw [ei, ej] at this; omega
    exact ⟨j, hji, by rw [← hpre j hji, List.getElem?_eq_getElem hj, ej]⟩
  have hlast : ∀ z, ∀ j, j < i → L[j]? = some z → z.1 < y.1 := by
    intro z j hji hz
    obtain ⟨hj, ej⟩ := List.getElem?_eq_some_iff.1 hz
    obtain ⟨hi, ei⟩ := List.getElem?_eq_some_iff.1 hy
    have := (List.pairwise_iff_getElem.1 has) j i hj hi hji
    rw [ei, ej] at this; exact this
  rintro (h | ⟨h, h2⟩)
  · have hnone : ∀ z ∈ F, z.1 ≠ y.1 := by
      intro z hz e
      obtain ⟨j, hji, hz2⟩ := hlow z hz (by omega)
      have := hlast z j hji hz2
      omega
    have := hG.no y.1 b1 hnone y.2 b2 L hL (fun z hz => by
      obtain ⟨hzF, hz1⟩ := List.mem_filter.1 hz
      simp only [decide_eq_true_eq] at hz1
      obtain ⟨j, _, hz2⟩ := hlow z hzF (by omega)
      exact List.mem_of_getElem? hz2) hyL
    omega
  · have := hG.yes x hxF y.2 h2 L hL (fun z hz => by
      obtain ⟨hzF, hz1⟩ := List.mem_filter.1 hz
      simp only [decide_eq_true_eq] at hz1
      obtain ⟨j, _, hz2⟩ := hlow z hzF hz1
      exact List.mem_of_getElem? hz2) (by rw [← h]; exact hyL)
    omega
end Go.Proofs.Ytogilkilkmoedaa
