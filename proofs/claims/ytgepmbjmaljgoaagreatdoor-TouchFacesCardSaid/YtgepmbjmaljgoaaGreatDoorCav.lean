/- A part of the proof. -/
import Derived.Test.YtgepmbjmaljgoaaGreatDoorCaq
import Derived.Test.YtgepmbjmaljgoaaGreatDoorCau
set_option linter.unusedVariables false
set_option linter.unusedSimpArgs false
namespace Go.Proofs.YtgepmbjmaljgoaaGreatDoor.H.S
open Go Go.Vc Go.RowKit
set_option maxHeartbeats 1000000
theorem tmul_neg2 (a : Tr) : tmul (tmul a (-1)) (-1) = a := by cases a; simp [tmul]
theorem tg_neg (a : Tr) : tg (tmul a (-1)) = tg a := by
 unfold tg tmul
 simp only [Int.neg_mul, Int.one_mul, Int.natAbs_neg]
theorem tpr_neg (a : Tr) : tpr (tmul a (-1)) = tmul (tpr a) (-1) := by
 unfold tpr
 rw [tg_neg]
 split
 ·rfl
 ·simp only [tmul, Int.neg_mul, Int.one_mul, Int.neg_tdiv]
theorem tmul_ne_iff {a : Tr} : tmul a (-1) = tz ↔ a = tz := by
 constructor
 ·intro h
  have := congrArg (fun v => tmul v (-1)) h
  simp only [tmul_neg2] at this
  rw [this]; rfl
 ·rintro rfl; rfl
structure OutF (l : List Tr) (a b c : Nat) (n : Tr) : Prop where
 ha : a < l.length
 hb : b < l.length
 hc : c < l.length
 ne : tac (gt l a) (gt l b) (gt l c) ≠ tz
 ev : n = tpr (tac (gt l a) (gt l b) (gt l c))
 le : ∀ i, i < l.length → tdot n (gt l i) ≤ tdot n (gt l a)
theorem tac_dot1 (a b c : Tr) : tdot (tac a b c) b = tdot (tac a b c) a := by simp only [tac, tdot, tcr, tsub]; grind
theorem tac_dot2 (a b c : Tr) : tdot (tac a b c) c = tdot (tac a b c) a := by simp only [tac, tdot, tcr, tsub]; grind
theorem tpr_dot_eq {v a b : Tr} (h : v ≠ tz) (e : tdot v a = tdot v b) : tdot (tpr v) a = tdot (tpr v) b := by
 obtain ⟨g, hg, hd⟩ := tpr_dot h
 rw [hd, hd] at e
 exact Int.eq_of_mul_eq_mul_left zO e
theorem OutF.at1 {l : List Tr} {a b c : Nat} {n : Tr} (h : OutF l a b c n) : tdot n (gt l b) = tdot n (gt l a) := by
 rw [h.ev]; exact tpr_dot_eq h.ne (tac_dot1 _ _ _)
theorem OutF.at2 {l : List Tr} {a b c : Nat} {n : Tr} (h : OutF l a b c n) : tdot n (gt l c) = tdot n (gt l a) := by
 rw [h.ev]; exact tpr_dot_eq h.ne (tac_dot2 _ _ _)
theorem OutF.nz {l : List Tr} {a b c : Nat} {n : Tr} (h : OutF l a b c n) : n ≠ tz := by rw [h.ev]; exact tpr_ne h.ne
theorem off_plane {l : List Tr} (hS : Sol l) {n : Tr} (hn : n ≠ tz) (m : Int) : ∃ i, i < l.length ∧ tdot n (gt l i) ≠ m := by
 refine Classical.byContradiction fun hno => ?_
 have hz : ∀ i, i < l.length → tdot n (gt l i) = m := fun i hi => Classical.byContradiction fun h => hno ⟨i, hi, h⟩
 obtain ⟨a, b, c, d, ha, hb, hc, hd, h⟩ := hS
 apply h
 have e : ∀ i, i < l.length → tdot n (tsub (gt l i) (gt l a)) = 0 := fun i hi => by
  have h1 := hz i hi
  have h2 := hz a ha
  simp only [tdot, tsub] at *
  grind
 exact det_flat hn (e b hb) (e c hc) (e d hd)
theorem any_t {p : Nat → Bool} {n i : Nat} (hi : i < n) (h : p i = true) : (List.range n).any p = true := List.any_eq_true.2 ⟨i, List.mem_range.2 hi, h⟩
theorem any_ff {p : Nat → Bool} {n : Nat} (h : ∀ i, i < n → p i = false) : (List.range n).any p = false := by
 rw [List.any_eq_false]
 intro i hi
 rw [h i (List.mem_range.1 hi)]
 decide
theorem mem_pK' {l : List Tr} {i j k' : Nat} (h : plB l i j k' = true) : ∀ {k}, k' < k → plF l i j k' ∈ pK l i j k
 |k + 1, hk => by
  unfold pK
  rw [List.mem_append]
  by_cases e : k' = k
  ·subst e; rw [if_pos h]; exact .inr (List.mem_singleton.2 rfl)
  ·exact .inl (mem_pK' h zO)
theorem mem_pJ' {l : List Tr} {i j' k' : Nat} (h : plB l i j' k' = true) (hk : k' < j') : ∀ {j}, j' < j → plF l i j' k' ∈ pJ l i j
 |j + 1, hj => by
  unfold pJ
  rw [List.mem_append]
  by_cases e : j' = j
  ·subst e; exact .inr (mem_pK' h hk)
  ·exact .inl (mem_pJ' h hk zO)
theorem mem_pI' {l : List Tr} {i' j' k' : Nat} (h : plB l i' j' k' = true) (hk : k' < j') (hj : j' < i') : ∀ {i}, i' < i → plF l i' j' k' ∈ pI l i
 |i + 1, hi => by
  unfold pI
  rw [List.mem_append]
  by_cases e : i' = i
  ·subst e; exact .inr (mem_pJ' h hk hj)
  ·exact .inl (mem_pI' h hk hj zO)
theorem plN_tac (l : List Tr) (i j k : Nat) : plN l i j k = tpr (tac (gt l k) (gt l i) (gt l j)) := rfl
theorem planes_out {l : List Tr} {f : Fc} (h : f ∈ planesL l) : ∃ a b c, OutF l a b c f.n := by
 have hF := planes_isF h
 obtain ⟨i, j, k, h1, h2, h3, h4, e⟩ := mem_pI h
 unfold plB at h4
 rw [Bool.and_eq_true, decide_eq_true_eq] at h4
 have hne : tac (gt l k) (gt l i) (gt l j) ≠ tz := fun e => h4.1 (by rw [plN_tac, e]; rfl)
 have hne' : tac (gt l k) (gt l j) (gt l i) ≠ tz := by rw [tac23]; exact tmul_ne hne
 have hm : ∀ n m, f.n = n → f.m = m → tdot n (gt l k) = m → ∀ q, q < l.length → tdot f.n (gt l q) ≤ tdot f.n (gt l k) := by
  rintro n m rfl rfl hk q hq
  rw [hk]; exact hF.le q hq
 unfold plF facN at e
 split at e
 ·refine ⟨k, j, i, by omega, by omega, by omega, hne', ?_, ?_⟩
  ·rw [e, tac23, tpr_neg]; rfl
  ·refine hm _ _ (by rw [e]) (by rw [e]) ?_
   rw [tdot_neg]; rfl
 ·refine ⟨k, i, j, by omega, by omega, by omega, hne, ?_, ?_⟩
  ·rw [e]; rfl
  ·exact hm (plN l i j k) (plM l i j k) (by rw [e]) (by rw [e]) rfl
theorem planes_of {l : List Tr} (hS : Sol l) {f : Fc} (hF : IsF l f) {a b c : Nat} (h : OutF l a b c f.n) : f ∈ planesL l := by
 obtain ⟨i, j, k, hi, hj, hk, hne, hpm, ei, ej, ek⟩ := sorted3 (n := l.length) (P := fun i j k => tac (gt l k) (gt l i) (gt l j) ≠ tz ∧ (tpr (tac (gt l k) (gt l i) (gt l j)) = f.n ∨ tpr (tac (gt l k) (gt l i) (gt l j)) = tmul f.n (-1)) ∧ tdot f.n (gt l i) = f.m ∧ tdot f.n (gt l j) = f.m ∧ tdot f.n (gt l k) = f.m) (fun x y z ⟨h1, h2, h3, h4, h5⟩ => ⟨by rw [tac23]; exact tmul_ne h1, by
   rw [tac23, tpr_neg]
   rcases h2 with h2 | h2
   ·exact .inr (by rw [h2])
   ·exact .inl (by rw [h2, tmul_neg2]), h4, h3, h5⟩) (fun x y z ⟨h1, h2, h3, h4, h5⟩ => by
   have e : tac (gt l y) (gt l x) (gt l z) = tmul (tac (gt l z) (gt l x) (gt l y)) (-1) := by
    simp only [tac, tcr, tsub, tmul, Tr.mk.injEq]; refine ⟨?_, ?_, ?_⟩ <;> grind
   refine ⟨by rw [e]; exact tmul_ne h1, ?_, h3, h5, h4⟩
   rw [e, tpr_neg]
   rcases h2 with h2 | h2
   ·exact .inr (by rw [h2])
   ·exact .inl (by rw [h2, tmul_neg2])) (fun x y ⟨h1, _⟩ => h1 (by
   simp only [tac, tcr, tsub, tz, Tr.mk.injEq]; refine ⟨?_, ?_, ?_⟩ <;> grind)) h.hb h.hc h.ha (by
   have hm : tdot f.n (gt l a) = f.m := by
    obtain ⟨q, hq, e⟩ := hF.at_
    have := h.le q hq
    have := hF.le a h.ha
    omega
   exact ⟨h.ne, .inl h.ev.symm, by rw [h.at1, hm], by rw [h.at2, hm], hm⟩)
 have hb : plB l i j k = true ∧ plF l i j k = f := by
  obtain ⟨q, hq, hqm⟩ := off_plane hS h.nz f.m
  have hq' := hF.le q hq
  unfold plB plF facN facB plM
  rw [plN_tac]
  rcases hpm with e | e
  ·rw [e, ek]
   have hg : anyGt l f.n f.m l.length = false := any_ff fun i hi => by
    have := hF.le i hi
    rw [decide_eq_false_iff_not]; omega
   rw [hg]
   refine ⟨by simp [h.nz], ?_⟩
   rw [if_neg (by decide), ← hF.s]
  ·rw [e, tdot_neg, ek]
   have hg : anyGt l (tmul f.n (-1)) (-f.m) l.length = true := any_t hq (by rw [decide_eq_true_eq, tdot_neg]; omega)
   have hl : anyLt l (tmul f.n (-1)) (-f.m) l.length = false := any_ff fun i hi => by
    have := hF.le i hi
    rw [decide_eq_false_iff_not, tdot_neg]; omega
   rw [hg, hl]
   refine ⟨by simp [tmul_ne_iff, h.nz], ?_⟩
   rw [if_pos rfl, tmul_neg2, Int.neg_neg, onTo_neg, ← hF.s]
 rw [← hb.2]
 exact mem_pI' hb.1 hk hj hi
theorem lex_ir (a : Tr) : ¬ lexT a a := by unfold lexT; omega
theorem lex_tr {a b c : Tr} (h1 : lexT a b) (h2 : lexT b c) : lexT a c := by unfold lexT at *; omega
theorem lex_3 {a b : Tr} (h1 : ¬ lexT a b) (h2 : ¬ lexT b a) : a = b := by
 unfold lexT at *
 exact tr_ext zO zO zO
def LexS (K : List Fc) : Prop := K.Pairwise (fun a b => lexT a.n b.n)
theorem gf_of_mem {L : List Fc} {f : Fc} (h : f ∈ L) : ∃ i, i < L.length ∧ gf L i = f := by
 obtain ⟨i, hi, e⟩ := List.getElem_of_mem h
 exact ⟨i, hi, by rw [gf_eq hi, e]⟩
theorem cpt_lex {L : List Fc} (hu : ∀ f ∈ L, ∀ g ∈ L, f.n = g.n → f = g) (hs : L.Pairwise (fun a b => leF a b = true)) : ∀ m, m ≤ L.length → LexS (cptToF L m) ∧ ∀ f, f ∈ cptToF L m ↔ ∃ i, i < m ∧ gf L i = f
 |0, _ => ⟨List.Pairwise.nil, fun f => ⟨fun h => (by cases h), fun ⟨i, hi, _⟩ => absurd hi (Nat.not_lt_zero _)⟩⟩
 |m + 1, hm => by
  obtain ⟨ih1, ih2⟩ := cpt_lex hu hs m zO
  have hle : ∀ i j, i < j → j < L.length → ¬ lexT (gf L j).n (gf L i).n := fun i j hij hj => by
   have := List.pairwise_iff_getElem.1 hs i j zO hj hij
   unfold leF at this
   rw [Bool.not_eq_true', decide_eq_false_iff_not] at this
   rw [gf_eq hj, gf_eq (by omega)]
   exact this
  rw [cptToF_succ]
  split
  ·rename_i hc
   refine ⟨?_, fun f => ?_⟩
   ·unfold LexS at *
    rw [List.pairwise_append]
    refine ⟨ih1, List.pairwise_singleton _ _, fun x hx y hy => ?_⟩
    rw [List.mem_singleton] at hy
    subst hy
    obtain ⟨i, hi, rfl⟩ := (ih2 x).1 hx
    unfold cptPF at hc
    rw [Bool.or_eq_true, decide_eq_true_eq, decide_eq_true_eq] at hc
    have hne := hc.resolve_left zO
    have h1 : lexT (gf L (m - 1)).n (gf L m).n := Classical.byContradiction fun h => hne (lex_3 (hle (m - 1) m zO zO) h)
    by_cases e : i = m - 1
    ·rw [e]; exact h1
    ·have h2 := hle i (m - 1) zO zO
     by_cases h3 : lexT (gf L i).n (gf L (m - 1)).n
     ·exact lex_tr h3 h1
     ·rw [lex_3 h3 h2]; exact h1
   ·rw [List.mem_append, List.mem_singleton, ih2]
    constructor
    ·rintro (⟨i, hi, e⟩ | e)
     ·exact ⟨i, by omega, e⟩
     ·exact ⟨m, by omega, e.symm⟩
    ·rintro ⟨i, hi, e⟩
     by_cases h : i = m
     ·subst h; exact .inr e.symm
     ·exact .inl ⟨i, by omega, e⟩
  ·rename_i hc
   refine ⟨ih1, fun f => ?_⟩
   rw [ih2]
   constructor
   ·rintro ⟨i, hi, e⟩; exact ⟨i, by omega, e⟩
   ·rintro ⟨i, hi, e⟩
    by_cases h : i = m
    ·subst h
     unfold cptPF at hc
     rw [Bool.or_eq_true, decide_eq_true_eq, decide_eq_true_eq, not_or] at hc
     have hn : (gf L i).n = (gf L (i - 1)).n := Classical.byContradiction hc.2
     exact ⟨i - 1, by omega, by rw [← e]; exact (hu _ (gf_mem (by omega)) _ (gf_mem (by omega)) hn).symm⟩
    ·exact ⟨i, by omega, e⟩
theorem facets_mem {l : List Tr} : LexS (facetsL l) ∧ ∀ f, f ∈ facetsL l ↔ f ∈ planesL l := by
 have hp := List.mergeSort_perm (planesL l) leF
 obtain ⟨h1, h2⟩ := cpt_lex (L := sortF (planesL l)) (fun f hf g hg h => isF_inj (planes_isF (hp.mem_iff.1 hf)) (planes_isF (hp.mem_iff.1 hg)) h) (List.pairwise_mergeSort leF_tr leF_to _) _ (Nat.le_refl _)
 refine ⟨h1, fun f => (h2 f).trans ?_⟩
 rw [← hp.mem_iff]
 exact ⟨fun ⟨i, hi, e⟩ => e ▸ gf_mem hi, gf_of_mem⟩
theorem facets_iff {l : List Tr} (hS : Sol l) (f : Fc) : f ∈ facetsL l ↔ IsF l f ∧ ∃ a b c, OutF l a b c f.n := by
 rw [facets_mem.2]
 exact ⟨fun h => ⟨planes_isF h, planes_out h⟩, fun ⟨h1, a, b, c, h2⟩ => planes_of hS h1 h2⟩
theorem tdot_comm (a b : Tr) : tdot a b = tdot b a := by unfold tdot; grind
theorem tcr_perp (d a b : Tr) (h1 : tdot d a = 0) (h2 : tdot d b = 0) : tcr d (tcr a b) = tz := by
 simp only [tdot] at h1 h2
 simp only [tcr, tz, Tr.mk.injEq]; refine ⟨?_, ?_, ?_⟩ <;> grind
theorem tg_tmul (a : Tr) (k : Int) : tg (tmul a k) = k.natAbs * tg a := by
 unfold tg tmul
 simp only [Int.natAbs_mul]
 rw [← Nat.gcd_mul_left, ← Nat.gcd_mul_left, ← Nat.gcd_mul_left, Nat.mul_zero]
theorem tg_tpr {v : Tr} (h : v ≠ tz) : tg (tpr v) = 1 := by
 have hg := tg_pos h
 have e : v = tmul (tpr v) (tg v) := by
  obtain ⟨d1, d2, d3⟩ := tg_dvd v
  have key : ∀ n : Int, tg v ∣ n.natAbs → n = (tg v : Int) * n.tdiv (tg v) := fun n hd => by
   have : ((tg v : Nat) : Int) ∣ n := Int.ofNat_dvd_left.2 hd
   rw [Int.mul_tdiv_cancel' this]
  unfold tpr tmul
  rw [if_neg hg]
  exact tr_ext (key _ d1) (key _ d2) (key _ d3)
 have e2 := congrArg tg e
 rw [tg_tmul, Int.natAbs_natCast] at e2
 have : tg v * tg (tpr v) = tg v * 1 := by omega
 exact Nat.eq_of_mul_eq_mul_left zO this
theorem cr_dot {a b : Tr} (h : tcr a b = tz) (w : Tr) : a.x * tdot w b = b.x * tdot w a ∧ a.y * tdot w b = b.y * tdot w a ∧ a.z * tdot w b = b.z * tdot w a := by
 simp only [tcr, tz, Tr.mk.injEq] at h
 simp only [tdot]
 refine ⟨?_, ?_, ?_⟩ <;> grind
theorem tcr_anz {a b : Tr} (h : tcr a b = tz) : tcr b a = tz := by
 simp only [tcr, tz, Tr.mk.injEq] at h ⊢
 refine ⟨?_, ?_, ?_⟩ <;> grind
theorem perp2_par {e y n m : Tr} (h : tcr e y ≠ tz) (h1 : tdot n e = 0) (h2 : tdot n y = 0) (h3 : tdot m e = 0) (h4 : tdot m y = 0) : tcr n m = tz := by
 refine Classical.byContradiction fun hne => h ?_
 have a := tcr_perp e n m (by rw [tdot_comm]; exact h1) (by rw [tdot_comm]; exact h3)
 have b := tcr_perp y n m (by rw [tdot_comm]; exact h2) (by rw [tdot_comm]; exact h4)
 exact cr_par hne (tcr_anz a) (tcr_anz b)
end Go.Proofs.YtgepmbjmaljgoaaGreatDoor.H.S
namespace Go.Proofs.YtgepmbjmaljgoaaGreatDoor.H
open Go Go.Vc Go.RowKit Go.Na
theorem trn_par {d u v : Pt} (hd : ¬ (d.x = 0 ∧ d.y = 0)) (h1 : trn d u = 0) (h2 : trn d v = 0) : trn u v = 0 := by
 unfold trn at *
 have e1 : d.x * (u.x * v.y - u.y * v.x) = 0 := by grind
 have e2 : d.y * (u.x * v.y - u.y * v.x) = 0 := by grind
 rcases Int.mul_eq_zero.1 e1 with a | a
 ·rcases Int.mul_eq_zero.1 e2 with b | b
  ·exact absurd ⟨a, b⟩ hd
  ·exact b
 ·exact a
theorem coll_all {l : List Pt} (h : collB l = true) : ∀ i, i < l.length → ∀ j, j < l.length → ∀ k, k < l.length → crs (gp l i) (gp l j) (gp l k) = 0 := by
 unfold collB at h
 split at h
 ·rename_i hf
  have hall : ∀ k, k < l.length → gp l k = gp l 0 := fun k hk => by
   have := List.find?_eq_none.1 hf k (List.mem_range.2 hk)
   simpa using this
  intro i hi j hj k hk
  rw [hall i hi, hall j hj, hall k hk]
  unfold crs trn sub; grind
 ·rename_i m hf
  have hm := List.find?_some hf
  have hne : gp l m ≠ gp l 0 := by simpa using hm
  have hall : ∀ i, i < l.length → trn (sub (gp l m) (gp l 0)) (sub (gp l i) (gp l 0)) = 0 := fun i hi => by
   have := List.all_eq_true.1 h i (List.mem_range.2 hi)
   simpa using this
  intro i hi j hj k hk
  have a1 := hall i hi
  have a2 := hall j hj
  have a3 := hall k hk
  refine trn_par (d := sub (gp l m) (gp l 0)) ?_ ?_ ?_
  ·rintro ⟨e1, e2⟩
   apply hne
   unfold sub at e1 e2
   dsimp only at e1 e2
   generalize gp l m = a at *
   generalize gp l 0 = b at *
   obtain ⟨ax, ay⟩ := a
   obtain ⟨bx, by'⟩ := b
   dsimp only at e1 e2
   rw [show ax = bx by omega, show ay = by' by omega]
  ·unfold trn sub at *; dsimp only at *; grind
  ·unfold trn sub at *; dsimp only at *; grind
theorem str_of_coll {l : List Pt} (h : collB l = true) : strB l = true := by
 have key := coll_all h
 unfold strB
 simp only [List.all_eq_true, List.mem_range, decide_eq_true_eq]
 intro i hi j hj k hk
 exact key i hi j zO k zO
theorem coll_of_str {l : List Pt} (h : strB l = true) : collB l = true := by
 unfold strB at h
 simp only [List.all_eq_true, List.mem_range, decide_eq_true_eq] at h
 unfold collB
 split
 ·rfl
 ·rename_i m hf
  have hf' := List.find?_range_eq_some.1 hf
  obtain ⟨hm, hml, hbef⟩ := hf'
  have hne : gp l m ≠ gp l 0 := by simpa using hm
  have hb : ∀ j, j < m → gp l j = gp l 0 := fun j hj => by simpa using hbef j hj
  rw [List.all_eq_true]
  intro i hi
  rw [decide_eq_true_eq]
  rcases Nat.lt_trichotomy i m with h1 | h1 | h1
  ·rw [hb i h1]; unfold trn sub; grind
  ·subst h1; unfold trn sub; grind
  ·have h0 : 0 < m := Nat.pos_of_ne_zero fun e => hne (by rw [e])
   have := h i (List.mem_range.1 hi) m h1 0 h0
   unfold crs trn sub at this
   unfold trn sub
   dsimp only at *
   grind
theorem coll_str (l : List Pt) : strB l = collB l := by
 cases h : collB l with
 |true => exact str_of_coll h
 |false =>
  cases h2 : strB l with
  |false => rfl
  |true => rw [coll_of_str h2] at h; cases h
end Go.Proofs.YtgepmbjmaljgoaaGreatDoor.H
section
namespace Go.Proofs.YtgepmbjmaljgoaaGreatDoor.H
open Go Go.Vc Go.RowKit Go.Na
section
variable (n : Nat) (U V Z : Nat → Rat)
def dv (d0 d1 d2 : Rat) (i : Nat) : Rat := d0 + (d1 * U i + d2 * V i)
def hh (A B C : Rat) (i : Nat) : Rat := Z i - (A + (B * U i + C * V i))
def Feas (A B C : Rat) : Prop := ∀ i, i < n → 0 ≤ hh U V Z A B C i
end
variable {n : Nat} {U V Z : Nat → Rat}
theorem min_ex {p : Nat → Prop} (r : Nat → Rat) : ∀ n, (∃ i, i < n ∧ p i) → ∃ i, i < n ∧ p i ∧ ∀ j, j < n → p j → r i ≤ r j
 |0, h => by obtain ⟨i, hi, _⟩ := h; omega
 |n + 1, h => by
  by_cases h1 : ∃ i, i < n ∧ p i
  ·obtain ⟨i, hi, hp, hm⟩ := min_ex r n h1
   by_cases hn : p n ∧ r n < r i
   ·refine ⟨n, by omega, hn.1, fun j hj hpj => ?_⟩
    by_cases hjn : j = n
    ·subst hjn; exact Rat.le_refl
    ·have := hm j zO hpj
     have := hn.2
     grind
   ·refine ⟨i, by omega, hp, fun j hj hpj => ?_⟩
    by_cases hjn : j = n
    ·subst hjn
     have : ¬ r j < r i := fun h => hn ⟨hpj, h⟩
     grind
    ·exact hm j zO hpj
  ·obtain ⟨i, hi, hp⟩ := h
   have : i = n := by
    by_cases e : i = n
    ·exact e
    ·exact absurd ⟨i, by omega, hp⟩ h1
   subst this
   refine ⟨i, by omega, hp, fun j hj hpj => ?_⟩
   have : j = i := by
    by_cases e : j = i
    ·exact e
    ·exact absurd ⟨j, by omega, hpj⟩ h1
   subst this
   exact Rat.le_refl
theorem hh_move (A B C t d0 d1 d2 : Rat) (i : Nat) : hh U V Z (A + t * d0) (B + t * d1) (C + t * d2) i = hh U V Z A B C i - t * dv U V d0 d1 d2 i := by
 unfold hh dv; grind
theorem step_up {A B C d0 d1 d2 : Rat} (hf : Feas n U V Z A B C) (hd : ∃ i, i < n ∧ 0 < dv U V d0 d1 d2 i) (hc : ∀ i, i < n → hh U V Z A B C i = 0 → dv U V d0 d1 d2 i ≤ 0) :
  ∃ t : Rat, 0 < t ∧ Feas n U V Z (A + t * d0) (B + t * d1) (C + t * d2) ∧ ∃ i, i < n ∧ 0 < dv U V d0 d1 d2 i ∧ hh U V Z (A + t * d0) (B + t * d1) (C + t * d2) i = 0 := by
 obtain ⟨i, hi, hp, hm⟩ := min_ex (fun i => hh U V Z A B C i / dv U V d0 d1 d2 i) n hd
 have h0 := hf i hi
 have hne : hh U V Z A B C i ≠ 0 := fun e => by have := hc i hi e; grind
 have hpos : 0 < hh U V Z A B C i := by grind
 have key : hh U V Z A B C i / dv U V d0 d1 d2 i * dv U V d0 d1 d2 i = hh U V Z A B C i := by
  rw [Rat.div_def, Rat.mul_assoc, Rat.inv_mul_cancel _ (by grind), Rat.mul_one]
 refine ⟨hh U V Z A B C i / dv U V d0 d1 d2 i, ?_, fun j hj => ?_, i, hi, hp, ?_⟩
 ·rw [Rat.lt_div_iff hp, Rat.zero_mul]; exact hpos
 ·rw [hh_move]
  have hj0 := hf j hj
  have htp : 0 < hh U V Z A B C i / dv U V d0 d1 d2 i := by
   rw [Rat.lt_div_iff hp, Rat.zero_mul]; exact hpos
  have ht : 0 ≤ hh U V Z A B C i / dv U V d0 d1 d2 i := by grind
  by_cases hdj : 0 < dv U V d0 d1 d2 j
  ·have h1 := hm j hj hdj
   have h2 : ¬ hh U V Z A B C j < hh U V Z A B C i / dv U V d0 d1 d2 i * dv U V d0 d1 d2 j := fun h => by
    rw [← Rat.div_lt_iff hdj] at h
    grind
   grind
  ·have h2 : 0 ≤ hh U V Z A B C i / dv U V d0 d1 d2 i * (- dv U V d0 d1 d2 j) := Rat.mul_nonneg ht (by grind)
   grind
 ·rw [hh_move, key]; grind
noncomputable def offN (n : Nat) (U V Z : Nat → Rat) (A B C : Rat) : Nat := ((List.range n).filter fun i => decide (hh U V Z A B C i ≠ 0)).length
theorem filter_len_lt {p q : Nat → Bool} : ∀ (l : List Nat), (∀ x ∈ l, q x = true → p x = true) → (∃ x, x ∈ l ∧ p x = true ∧ q x = false) → (l.filter q).length < (l.filter p).length
 |[], _, h => by obtain ⟨x, hx, _⟩ := h; cases hx
 |a :: l, h1, h2 => by
  have hle : ∀ l : List Nat, (∀ x ∈ l, q x = true → p x = true) → (l.filter q).length ≤ (l.filter p).length := by
   intro l
   induction l with
   |nil => intro _; simp
   |cons b l ih =>
    intro h
    have := ih (fun x hx => h x (by simp [hx]))
    simp only [List.filter_cons]
    cases hq : q b with
    |true => rw [h b (by simp) hq]; simp; omega
    |false => cases p b <;> simp <;> omega
  by_cases ha : p a = true ∧ q a = false
  ·have := hle l (fun x hx => h1 x (by simp [hx]))
   simp only [List.filter_cons, ha.1, ha.2]
   simp; omega
  ·obtain ⟨x, hx, hp, hq⟩ := h2
   have hxl : x ∈ l := by
    rcases List.mem_cons.1 hx with e | e
    ·subst e; exact absurd ⟨hp, hq⟩ ha
    ·exact e
   have := filter_len_lt l (fun x hx => h1 x (by simp [hx])) ⟨x, hxl, hp, hq⟩
   simp only [List.filter_cons]
   cases hqa : q a with
   |true => rw [h1 a (by simp) hqa]; simp; omega
   |false => cases p a <;> simp <;> omega
theorem vert {qx qy : Rat} (hq : ∀ d0 d1 d2 : Rat, 0 < d0 + (d1 * qx + d2 * qy) → ∃ i, i < n ∧ 0 < dv U V d0 d1 d2 i)
  (hnc : ∀ d0 d1 d2 : Rat, ¬ (d0 = 0 ∧ d1 = 0 ∧ d2 = 0) → ∃ i, i < n ∧ dv U V d0 d1 d2 i ≠ 0) : ∀ (m : Nat) (A B C : Rat), offN n U V Z A B C ≤ m → Feas n U V Z A B C →
  ∃ A' B' C', Feas n U V Z A' B' C' ∧ A + (B * qx + C * qy) ≤ A' + (B' * qx + C' * qy) ∧ ∀ d0 d1 d2 : Rat, (∀ i, i < n → hh U V Z A' B' C' i = 0 → dv U V d0 d1 d2 i = 0) → d0 = 0 ∧ d1 = 0 ∧ d2 = 0 := by
 intro m
 induction m with
 |zero =>
  intro A B C hm hf
  refine ⟨A, B, C, hf, Rat.le_refl, fun d0 d1 d2 hd => ?_⟩
  by_cases h0 : d0 = 0 ∧ d1 = 0 ∧ d2 = 0
  ·exact h0
  ·exfalso
   obtain ⟨i, hi, hne⟩ := hnc d0 d1 d2 h0
   apply hne
   refine hd i hi ?_
   have h1 : (List.range n).filter (fun i => decide (hh U V Z A B C i ≠ 0)) = [] := List.length_eq_zero_iff.1 (by unfold offN at hm; omega)
   have h2 := List.filter_eq_nil_iff.1 h1 i (List.mem_range.2 hi)
   simpa using h2
 |succ m ih =>
  intro A B C hm hf
  by_cases hall : ∀ d0 d1 d2 : Rat, (∀ i, i < n → hh U V Z A B C i = 0 → dv U V d0 d1 d2 i = 0) → d0 = 0 ∧ d1 = 0 ∧ d2 = 0
  ·exact ⟨A, B, C, hf, Rat.le_refl, hall⟩
  ·have hex : ∃ d0 d1 d2 : Rat, (∀ i, i < n → hh U V Z A B C i = 0 → dv U V d0 d1 d2 i = 0) ∧ ¬ (d0 = 0 ∧ d1 = 0 ∧ d2 = 0) := by
    apply Classical.byContradiction
    intro hno
    apply hall
    intro d0 d1 d2 hd
    apply Classical.byContradiction
    intro h0
    exact hno ⟨d0, d1, d2, hd, h0⟩
   have hex2 : ∃ d0 d1 d2 : Rat, (∀ i, i < n → hh U V Z A B C i = 0 → dv U V d0 d1 d2 i = 0) ∧ 0 ≤ d0 + (d1 * qx + d2 * qy) ∧ ∃ i, i < n ∧ 0 < dv U V d0 d1 d2 i := by
    obtain ⟨d0, d1, d2, hd, h0⟩ := hex
    have hneg : ∀ i, dv U V (-d0) (-d1) (-d2) i = - dv U V d0 d1 d2 i := fun i => by unfold dv; grind
    have hd' : ∀ i, i < n → hh U V Z A B C i = 0 → dv U V (-d0) (-d1) (-d2) i = 0 := fun i hi e => by rw [hneg, hd i hi e]; grind
    by_cases hp : 0 < d0 + (d1 * qx + d2 * qy)
    ·exact ⟨d0, d1, d2, hd, by grind, hq d0 d1 d2 hp⟩
    ·by_cases hn : 0 < -d0 + (-d1 * qx + -d2 * qy)
     ·exact ⟨-d0, -d1, -d2, hd', by grind, hq _ _ _ hn⟩
     ·have hz : d0 + (d1 * qx + d2 * qy) = 0 := by grind
      obtain ⟨i, hi, hne⟩ := hnc d0 d1 d2 h0
      by_cases hpi : 0 < dv U V d0 d1 d2 i
      ·exact ⟨d0, d1, d2, hd, by grind, i, hi, hpi⟩
      ·exact ⟨-d0, -d1, -d2, hd', by grind, i, hi, by rw [hneg]; grind⟩
   obtain ⟨d0, d1, d2, hd, hqd, hex3⟩ := hex2
   obtain ⟨t, ht, hf', i, hi, hdi, hz⟩ := step_up hf hex3 (fun i hi e => by rw [hd i hi e]; exact Rat.le_refl)
   have hlt : offN n U V Z (A + t * d0) (B + t * d1) (C + t * d2) < offN n U V Z A B C := by
    unfold offN
    refine filter_len_lt _ (fun x hx hqx => ?_) ⟨i, List.mem_range.2 hi, ?_, ?_⟩
    ·simp only [decide_eq_true_eq] at hqx ⊢
     intro e
     apply hqx
     rw [hh_move, e, hd x (List.mem_range.1 hx) e]; grind
    ·simp only [decide_eq_true_eq]
     intro e
     have := hd i hi e
     grind
    ·simpa using hz
   obtain ⟨A', B', C', g1, g2, g3⟩ := ih _ _ _ zO hf'
   refine ⟨A', B', C', g1, ?_, g3⟩
   have h1 : 0 ≤ t * (d0 + (d1 * qx + d2 * qy)) := Rat.mul_nonneg (by grind) hqd
   grind
end Go.Proofs.YtgepmbjmaljgoaaGreatDoor.H
end
namespace Go.Proofs.YtgepmbjmaljgoaaGreatDoor.H
open Go Go.Vc Go.RowKit
theorem cz_crs {k : Nat} (hk : k < 3) (a b c : Tr) : cz (nvP a b c) k ≠ 0 ↔ crs (plc k a) (plc k b) (plc k c) ≠ 0 := by
 rcases (by omega : k = 0 ∨ k = 1 ∨ k = 2) with rfl | rfl | rfl
 ·unfold nvP tcr tsub crs trn sub plc ou ov cz
  dsimp only
  constructor <;> intro h e <;> apply h <;> grind
 ·unfold nvP tcr tsub crs trn sub plc ou ov cz
  dsimp only
  constructor <;> intro h e <;> apply h <;> grind
 ·unfold nvP tcr tsub crs trn sub plc ou ov cz
  dsimp only
  constructor <;> intro h e <;> apply h <;> grind
theorem crs_rev (a b c : Pt) : crs c b a = - crs a b c := by unfold crs trn sub; dsimp only; grind
theorem plane_uniq {k : Nat} {A B C A' B' C' : Rat} {a b c : Tr} (hn : crs (plc k a) (plc k b) (plc k c) ≠ 0) (h1 : hgt k A B C a = 0) (h2 : hgt k A B C b = 0) (h3 : hgt k A B C c = 0) (h1' : hgt k A' B' C' a = 0) (h2' : hgt k A' B' C' b = 0) (h3' : hgt k A' B' C' c = 0) :
  A = A' ∧ B = B' ∧ C = C' := by
 have hq : ((crs (plc k a) (plc k b) (plc k c) : Int) : Rat) ≠ 0 := by exact_mod_cast hn
 unfold crs trn sub at hq
 dsimp only at hq
 simp only [Rat.intCast_sub, Rat.intCast_mul] at hq
 unfold hgt at *
 generalize ((plc k a).x : Rat) = ax at *
 generalize ((plc k a).y : Rat) = ay at *
 generalize ((plc k b).x : Rat) = bx at *
 generalize ((plc k b).y : Rat) = by' at *
 generalize ((plc k c).x : Rat) = cx at *
 generalize ((plc k c).y : Rat) = cy at *
 generalize (cz a k : Rat) = az at *
 generalize (cz b k : Rat) = bz at *
 generalize (cz c k : Rat) = czz at *
 have e1 : (B - B') * (bx - ax) + (C - C') * (by' - ay) = 0 := by grind
 have e2 : (B - B') * (cx - ax) + (C - C') * (cy - ay) = 0 := by grind
 have f1 : (B - B') * ((bx - ax) * (cy - ay) - (by' - ay) * (cx - ax)) = 0 := by grind
 have f2 : (C - C') * ((bx - ax) * (cy - ay) - (by' - ay) * (cx - ax)) = 0 := by grind
 have g1 : B - B' = 0 := by
  rcases Rat.mul_eq_zero.1 f1 with h | h
  ·exact h
  ·exact absurd h hq
 have g2 : C - C' = 0 := by
  rcases Rat.mul_eq_zero.1 f2 with h | h
  ·exact h
  ·exact absurd h hq
 have gB : B = B' := by grind
 have gC : C = C' := by grind
 subst gB gC
 refine ⟨by grind, rfl, rfl⟩
theorem thr_on {l : List Tr} {k a b c : Nat} (hk : k < 3) (hn : cz (nvP (gt l a) (gt l b) (gt l c)) k ≠ 0) : hgt k (aP l k a b c) (bP l k a b c) (cP l k a b c) (gt l a) = 0 ∧ hgt k (aP l k a b c) (bP l k a b c) (cP l k a b c) (gt l b) = 0 ∧ hgt k (aP l k a b c) (bP l k a b c) (cP l k a b c) (gt l c) = 0 := by
 have hd : ∀ p q r : Tr, tdot (nvP p q r) q = tdot (nvP p q r) p ∧ tdot (nvP p q r) r = tdot (nvP p q r) p := by
  intro p q r
  unfold nvP tdot tcr tsub
  dsimp only
  constructor <;> grind
 have hu : ∀ q, tdot (nvP (gt l a) (gt l b) (gt l c)) q = tdot (nvP (gt l a) (gt l b) (gt l c)) (gt l a) → tdot (nP l k a b c) q = tdot (nP l k a b c) (gt l a) := by
  intro q h
  unfold nP upP
  split
  ·unfold tdot at h ⊢
   dsimp only
   grind
  ·exact h
 obtain ⟨d1, d2⟩ := hd (gt l a) (gt l b) (gt l c)
 exact ⟨(hgt_sgn hk hn _).2.2 rfl, (hgt_sgn hk hn _).2.2 (hu _ d1), (hgt_sgn hk hn _).2.2 (hu _ d2)⟩
theorem onL_mem {l : List Tr} {k : Nat} {A B C : Rat} {i : Nat} : i ∈ onL l k A B C l.length ↔ i < l.length ∧ hgt k A B C (gt l i) = 0 := by
 unfold onL
 rw [List.mem_filter, List.mem_range]
 simp
theorem onL_asc {l : List Tr} {k : Nat} {A B C : Rat} {n i j : Nat} (hij : i < j) (hj : j < (onL l k A B C n).length) : gi (onL l k A B C n) i < gi (onL l k A B C n) j := by
 have h : (onL l k A B C n).Pairwise (· < ·) := List.Pairwise.filter _ List.pairwise_lt_range
 rw [gi_eq (by omega), gi_eq hj]
 exact List.pairwise_iff_getElem.1 h i j zO hj hij
theorem gp_plP {l : List Tr} {k : Nat} {s : List Nat} {i : Nat} (h : i < s.length) : gp (plP l k s) i = plc k (gt l (gi s i)) := by
 unfold gp plP gi
 simp [List.getD, h]
theorem cand_of {l : List Tr} {k : Nat} (hk : k < 3) {A B C : Rat} (hlow : lowB l k A B C l.length = false) (hs : strB (plP l k (onL l k A B C l.length)) = false) : (⟨A, B, C, onL l k A B C l.length⟩ : Pl) ∈ candP l k := by
 rw [(cand_ok l k).2]
 have hpl : (plP l k (onL l k A B C l.length)).length = (onL l k A B C l.length).length := by unfold plP; rw [List.length_map]
 unfold strB at hs
 rw [hpl] at hs
 rw [List.all_eq_false] at hs
 obtain ⟨i, hi, hs⟩ := hs
 rw [List.mem_range] at hi
 rw [Bool.not_eq_true, List.all_eq_false] at hs
 obtain ⟨j, hj, hs⟩ := hs
 rw [List.mem_range] at hj
 rw [Bool.not_eq_true, List.all_eq_false] at hs
 obtain ⟨m, hm, hs⟩ := hs
 rw [List.mem_range] at hm
 have hne : crs (gp (plP l k (onL l k A B C l.length)) i) (gp (plP l k (onL l k A B C l.length)) j) (gp (plP l k (onL l k A B C l.length)) m) ≠ 0 := by simpa using hs
 rw [gp_plP hi, gp_plP (by omega), gp_plP (by omega)] at hne
 have o1 := onL_asc (l := l) (k := k) (A := A) (B := B) (C := C) (n := l.length) hm (show j < _ by omega)
 have o2 := onL_asc (l := l) (k := k) (A := A) (B := B) (C := C) (n := l.length) hj hi
 have mem : ∀ t, t < (onL l k A B C l.length).length → gi (onL l k A B C l.length) t < l.length ∧ hgt k A B C (gt l (gi (onL l k A B C l.length) t)) = 0 := fun t ht => by
  rw [← onL_mem, gi_eq ht]; exact List.getElem_mem ht
 obtain ⟨l1, z1⟩ := mem m zO
 obtain ⟨l2, z2⟩ := mem j zO
 obtain ⟨l3, z3⟩ := mem i hi
 generalize gi (onL l k A B C l.length) m = a at *
 generalize gi (onL l k A B C l.length) j = b at *
 generalize gi (onL l k A B C l.length) i = c at *
 have hcr : crs (plc k (gt l a)) (plc k (gt l b)) (plc k (gt l c)) ≠ 0 := by rw [crs_rev] at hne; omega
 have hn := (cz_crs hk _ _ _).2 hcr
 obtain ⟨t1, t2, t3⟩ := thr_on hk hn
 obtain ⟨rfl, rfl, rfl⟩ := plane_uniq hcr z1 z2 z3 t1 t2 t3
 unfold thrs
 rw [List.mem_filterMap]
 refine ⟨(a, b, c), ?_, ?_⟩
 ·rw [tI_eq, mem_tI]; exact ⟨o1, o2, l3⟩
 ·show thr l k a b c = _
  unfold thr
  rw [if_neg hn]
  unfold mkP
  rw [if_neg (by rw [hlow]; decide)]
end Go.Proofs.YtgepmbjmaljgoaaGreatDoor.H
namespace Go.Proofs.YtgepmbjmaljgoaaGreatDoor.H.S
open Go Go.Vc
def eK (k : Nat) : Tr := match k with | 0 => ⟨1, 0, 0⟩ | 1 => ⟨0, 1, 0⟩ | _ => ⟨0, 0, 1⟩
theorem dot_eK (n : Tr) {k : Nat} (hk : k < 3) : tdot n (eK k) = cz n k := by
 rcases (by omega : k = 0 ∨ k = 1 ∨ k = 2) with rfl | rfl | rfl <;> simp [eK, tdot, cz]
theorem dot_eK' (n : Tr) {k : Nat} (hk : k < 3) : tdot (eK k) n = cz n k := by rw [tdot_comm, dot_eK n hk]
theorem dot_up (k : Nat) (n : Tr) : upP k n = if cz n k < 0 then tmul n (-1) else n := by
 unfold upP tmul
 simp only [Int.neg_mul, Int.one_mul]
theorem down_key {l : List Tr} {k a b c : Nat} (hk : k < 3) (hz : cz (nvP (gt l a) (gt l b) (gt l c)) k ≠ 0) (hle : ∀ i, i < l.length → mP l k a b c ≤ tdot (nP l k a b c) (gt l i)) (ha : a < l.length) (hb : b < l.length) (hc : c < l.length) :
  ∃ (n : Tr) (b' c' : Nat), OutF l a b' c' n ∧ cz n k < 0 ∧ ∃ g : Int, 0 < g ∧ ∀ p, tdot (nP l k a b c) p = -(g * tdot n p) := by
 have hpos : 0 < cz (nP l k a b c) k := upP_pos hz
 have e1 : tac (gt l a) (gt l b) (gt l c) = nvP (gt l a) (gt l b) (gt l c) := rfl
 have hN := dot_up k (nvP (gt l a) (gt l b) (gt l c))
 have key : ∀ b' c' : Nat, b' < l.length → c' < l.length → tac (gt l a) (gt l b') (gt l c') = tmul (nP l k a b c) (-1) → ∃ (n : Tr) (b' c' : Nat), OutF l a b' c' n ∧ cz n k < 0 ∧ ∃ g : Int, 0 < g ∧ ∀ p, tdot (nP l k a b c) p = -(g * tdot n p) := by
  intro b' c' hb' hc' e
  have hne : tac (gt l a) (gt l b') (gt l c') ≠ tz := fun h => by
   rw [h] at e
   have h2 : tdot tz (eK k) = tdot (tmul (nP l k a b c) (-1)) (eK k) := congrArg (fun v => tdot v (eK k)) e
   rw [tdot_neg, dot_eK _ hk, dot_eK _ hk] at h2
   have h3 : cz tz k = 0 := by rcases (by omega : k = 0 ∨ k = 1 ∨ k = 2) with rfl | rfl | rfl <;> rfl
   omega
  obtain ⟨g, hg, hd⟩ := tpr_dot hne
  have hrel : ∀ p, tdot (nP l k a b c) p = -(g * tdot (tpr (tac (gt l a) (gt l b') (gt l c'))) p) := fun p => by
   rw [← hd p, e, tdot_neg]; omega
  refine ⟨_, b', c', ⟨ha, hb', hc', hne, rfl, fun i hi => ?_⟩, ?_, g, hg, hrel⟩
  ·have h1 := hle i hi
   have h2 : mP l k a b c = tdot (nP l k a b c) (gt l a) := rfl
   rw [h2, hrel, hrel] at h1
   exact Int.le_of_mul_le_mul_left zO hg
  ·have h1 := hrel (eK k)
   rw [dot_eK _ hk, dot_eK _ hk] at h1
   by_cases h : cz (tpr (tac (gt l a) (gt l b') (gt l c'))) k < 0
   ·exact h
   ·have h : 0 ≤ cz (tpr (tac (gt l a) (gt l b') (gt l c'))) k := by omega
    have := Int.mul_nonneg (Int.le_of_lt hg) h
    omega
 by_cases h : cz (nvP (gt l a) (gt l b) (gt l c)) k < 0
 ·refine key b c hb hc ?_
  rw [e1]
  unfold nP
  rw [hN, if_pos h, tmul_neg2]
 ·refine key c b hc hb ?_
  rw [tac23, e1]
  unfold nP
  rw [hN, if_neg h]
theorem eq_of_neg {g x y u v : Int} (hg : 0 < g) (h1 : u = -(g * x)) (h2 : v = -(g * y)) : x = y ↔ u = v := by
 subst h1 h2
 constructor
 ·intro h; rw [h]
 ·intro h
  exact Int.eq_of_mul_eq_mul_left (Int.ne_of_gt hg) zO
theorem cand_facet {l : List Tr} (hS : Sol l) {k : Nat} (hk : k < 3) {P : Pl} (h : P ∈ candP l k) : ∃ f, f ∈ facetsL l ∧ cz f.n k < 0 ∧ f.s = P.s := by
 obtain ⟨hon, _⟩ := cand_on hk h
 obtain ⟨⟨a, b, c⟩, ht, h3⟩ := List.mem_filterMap.1 ((cand_ok l k).2 P |>.1 h)
 rw [tI_eq, mem_tI] at ht
 obtain ⟨ht1, ht2, ht3⟩ := ht
 dsimp only at ht1 ht2 ht3
 have h3' : thr l k a b c = some P := h3
 have hz : cz (nvP (gt l a) (gt l b) (gt l c)) k ≠ 0 := fun e => by rw [thr_zero e] at h3'; cases h3'
 have hle : ∀ i, i < l.length → mP l k a b c ≤ tdot (nP l k a b c) (gt l i) := fun i hi => by
  by_cases h : tdot (nP l k a b c) (gt l i) < mP l k a b c
  ·rw [thr_none hk hz hi h] at h3'; cases h3'
  ·omega
 obtain ⟨n, b', c', hO, hn, g, hg, hrel⟩ := down_key hk hz hle zO zO ht3
 refine ⟨⟨n, tdot n (gt l a), onTo l n (tdot n (gt l a)) l.length⟩, (facets_iff hS _).2 ⟨⟨hO.le, rfl, a, hO.ha, rfl⟩, a, b', c', hO⟩, hn, ?_⟩
 have hP : P.A = aP l k a b c ∧ P.B = bP l k a b c ∧ P.C = cP l k a b c := by
  unfold thr at h3'
  rw [if_neg hz] at h3'
  unfold mkP at h3'
  split at h3'
  ·cases h3'
  ·injection h3' with h3'; rw [← h3']; exact ⟨rfl, rfl, rfl⟩
 rw [hon, hP.1, hP.2.1, hP.2.2]
 unfold onTo onL
 refine List.filter_congr fun i _ => ?_
 refine decide_eq_decide.2 ?_
 rw [(hgt_sgn hk hz _).2]
 exact eq_of_neg hg (hrel _) (hrel _)
theorem facet_cand {l : List Tr} {k : Nat} (hk : k < 3) {f : Fc} (h : f ∈ facetsL l) (hn : cz f.n k < 0) : ∃ P, P ∈ candP l k ∧ P.s = f.s ∧ ∃ a b c, a ∈ f.s ∧ b ∈ f.s ∧ c ∈ f.s ∧ cz (nvP (gt l a) (gt l b) (gt l c)) k ≠ 0 := by
 have hp := facets_sub h
 have hF := planes_isF hp
 obtain ⟨i, j, q, hi, hj, hq, hB, e⟩ := mem_pI hp
 unfold plB at hB
 rw [Bool.and_eq_true, decide_eq_true_eq] at hB
 have hne : tcr (tsub (gt l i) (gt l q)) (tsub (gt l j) (gt l q)) ≠ tz := fun h0 => hB.1 (by unfold plN; rw [h0]; rfl)
 obtain ⟨g, hg, hd⟩ := tpr_dot hne
 have e2 : nvP (gt l q) (gt l j) (gt l i) = tmul (tcr (tsub (gt l i) (gt l q)) (tsub (gt l j) (gt l q))) (-1) := by
  simp only [nvP, tcr, tmul, tsub, Tr.mk.injEq]
  refine ⟨?_, ?_, ?_⟩ <;> grind
 have hfn : f.n = plN l i j q ∨ f.n = tmul (plN l i j q) (-1) := by
  rw [e]; unfold plF facN; split
  ·exact .inr rfl
  ·exact .inl rfl
 have hpl : ∀ p, tdot (tcr (tsub (gt l i) (gt l q)) (tsub (gt l j) (gt l q))) p = g * tdot (plN l i j q) p := hd
 have hz : cz (nvP (gt l q) (gt l j) (gt l i)) k ≠ 0 := fun h0 => by
  rw [e2] at h0
  have h1 : tdot (tmul (tcr (tsub (gt l i) (gt l q)) (tsub (gt l j) (gt l q))) (-1)) (eK k) = 0 := by rw [dot_eK _ hk]; exact h0
  rw [tdot_neg, hpl, dot_eK _ hk] at h1
  have h2 : cz (plN l i j q) k = 0 := by
   have : g * cz (plN l i j q) k = 0 := by omega
   rcases Int.mul_eq_zero.1 this with h | h <;> omega
  rcases hfn with hh | hh
  ·rw [hh] at hn; omega
  ·rw [hh] at hn
   have h3 := dot_eK (tmul (plN l i j q) (-1)) hk
   rw [tdot_neg, dot_eK _ hk] at h3
   omega
 have hpos : 0 < cz (nP l k q j i) k := upP_pos hz
 have hrel : ∀ p, tdot (nP l k q j i) p = -(g * tdot f.n p) := by
  have hN := dot_up k (nvP (gt l q) (gt l j) (gt l i))
  have c1 : (∀ p, tdot (nP l k q j i) p = g * tdot (plN l i j q) p) ∨ (∀ p, tdot (nP l k q j i) p = -(g * tdot (plN l i j q) p)) := by
   unfold nP
   rw [hN, e2]
   split
   ·refine .inl fun p => ?_
    rw [tmul_neg2, hpl]
   ·refine .inr fun p => ?_
    rw [tdot_neg, hpl]
  have c2 : (∀ p, tdot f.n p = tdot (plN l i j q) p) ∨ (∀ p, tdot f.n p = - tdot (plN l i j q) p) := by
   rcases hfn with hh | hh
   ·exact .inl fun p => by rw [hh]
   ·exact .inr fun p => by rw [hh, tdot_neg]
  have hk1 := dot_eK (nP l k q j i) hk
  have hk2 := dot_eK f.n hk
  rcases c1 with c1 | c1 <;> rcases c2 with c2 | c2
  ·exfalso
   rw [c1] at hk1; rw [c2] at hk2
   have : g * tdot (plN l i j q) (eK k) ≤ 0 := Int.mul_nonpos_of_nonneg_of_nonpos (Int.le_of_lt hg) zO
   omega
  ·intro p; rw [c1, c2, Int.mul_neg, Int.neg_neg]
  ·intro p; rw [c1, c2]
  ·exfalso
   rw [c1] at hk1; rw [c2] at hk2
   have : 0 ≤ g * tdot (plN l i j q) (eK k) := Int.mul_nonneg (Int.le_of_lt hg) zO
   omega
 have on3 : tdot f.n (gt l q) = f.m ∧ tdot f.n (gt l j) = f.m ∧ tdot f.n (gt l i) = f.m := by
  have d0 : tdot (plN l i j q) (gt l q) = plM l i j q := rfl
  have d1 : tdot (plN l i j q) (gt l j) = tdot (plN l i j q) (gt l q) := tpr_dot_eq hne (by simp only [tdot, tcr, tsub]; grind)
  have d2 : tdot (plN l i j q) (gt l i) = tdot (plN l i j q) (gt l q) := tpr_dot_eq hne (by simp only [tdot, tcr, tsub]; grind)
  have hm : (f.n = plN l i j q ∧ f.m = plM l i j q) ∨ (f.n = tmul (plN l i j q) (-1) ∧ f.m = -plM l i j q) := by
   rw [e]; unfold plF facN; split
   ·exact .inr ⟨rfl, rfl⟩
   ·exact .inl ⟨rfl, rfl⟩
  rcases hm with ⟨h1, h2⟩ | ⟨h1, h2⟩
  ·rw [h1, h2, ← d0]; exact ⟨rfl, d1, d2⟩
  ·rw [h1, h2, tdot_neg, tdot_neg, tdot_neg, ← d0, d1, d2]; exact ⟨rfl, rfl, rfl⟩
 have hmP : mP l k q j i = tdot (nP l k q j i) (gt l q) := rfl
 have hle : ∀ x, x < l.length → mP l k q j i ≤ tdot (nP l k q j i) (gt l x) := fun x hx => by
  rw [hmP, hrel, hrel, on3.1]
  have := Int.mul_le_mul_of_nonneg_left (hF.le x hx) (Int.le_of_lt hg)
  omega
 have hth := thr_some hk hz hle
 have hmem : ∀ x, x < l.length → tdot f.n (gt l x) = f.m → x ∈ f.s := fun x hx hh => by rw [hF.s, onTo_mem]; exact ⟨hx, hh⟩
 refine ⟨_, (cand_ok l k).2 _ |>.2 (List.mem_filterMap.2 ⟨(q, j, i), by rw [tI_eq, mem_tI]; exact ⟨hq, hj, hi⟩, hth⟩), ?_, q, j, i, hmem q (by omega) on3.1, hmem j (by omega) on3.2.1, hmem i hi on3.2.2, hz⟩
 dsimp only
 rw [hF.s]
 refine List.filter_congr fun x _ => ?_
 refine decide_eq_decide.2 ?_
 rw [← on3.1]
 exact (eq_of_neg hg (hrel _) (hrel _)).symm
theorem cz_tz {k : Nat} (hk : k < 3) : cz tz k = 0 := by rcases (by omega : k = 0 ∨ k = 1 ∨ k = 2) with rfl | rfl | rfl <;> rfl
theorem facet_tg {l : List Tr} (hS : Sol l) {f : Fc} (hf : f ∈ facetsL l) : tg f.n = 1 := by
 obtain ⟨_, a, b, c, h⟩ := (facets_iff hS f).1 hf
 rw [h.ev]; exact tg_tpr h.ne
theorem facet_inj {l : List Tr} (hS : Sol l) {k : Nat} (hk : k < 3) {f g : Fc} (hf : f ∈ facetsL l) (hg : g ∈ facetsL l) (nf : cz f.n k < 0) (ng : cz g.n k < 0) (hs : f.s = g.s) : f = g := by
 have F := planes_isF (facets_sub hf)
 have G := planes_isF (facets_sub hg)
 obtain ⟨P, _, _, a, b, c, ha, hb, hc, hz⟩ := facet_cand hk hf nf
 have onf : ∀ i, i ∈ f.s → tdot f.n (gt l i) = f.m := fun i hi => by rw [F.s, onTo_mem] at hi; exact hi.2
 have ong : ∀ i, i ∈ f.s → tdot g.n (gt l i) = g.m := fun i hi => by rw [hs, G.s, onTo_mem] at hi; exact hi.2
 have sub0 : ∀ (n : Tr) (m : Int) (i j : Nat), tdot n (gt l i) = m → tdot n (gt l j) = m → tdot n (tsub (gt l i) (gt l j)) = 0 := fun n m i j h1 h2 => by
  have : tdot n (tsub (gt l i) (gt l j)) = tdot n (gt l i) - tdot n (gt l j) := by simp only [tdot, tsub]; grind
  rw [this, h1, h2, Int.sub_self]
 have hne : tcr (tsub (gt l b) (gt l a)) (tsub (gt l c) (gt l a)) ≠ tz := fun h => hz (by
  show cz (tcr (tsub (gt l b) (gt l a)) (tsub (gt l c) (gt l a))) k = 0
  rw [h]; exact cz_tz hk)
 have hp := perp2_par hne (sub0 _ _ _ _ (onf b hb) (onf a ha)) (sub0 _ _ _ _ (onf c hc) (onf a ha)) (sub0 _ _ _ _ (ong b hb) (ong a ha)) (sub0 _ _ _ _ (ong c hc) (ong a ha))
 obtain ⟨e1, e2, e3⟩ := cr_dot hp (eK k)
 rw [dot_eK' _ hk, dot_eK' _ hk] at e1 e2 e3
 have eq : tmul f.n (cz g.n k) = tmul g.n (cz f.n k) := by
  unfold tmul
  exact tr_ext (by simp only; rw [Int.mul_comm, e1, Int.mul_comm]) (by simp only; rw [Int.mul_comm, e2, Int.mul_comm]) (by simp only; rw [Int.mul_comm, e3, Int.mul_comm])
 have e4 := congrArg tg eq
 rw [tg_tmul, tg_tmul, facet_tg hS hf, facet_tg hS hg] at e4
 have e5 : cz g.n k = cz f.n k := by omega
 rw [e5] at e1 e2 e3
 have h0 : cz f.n k ≠ 0 := by omega
 exact isF_inj F G (tr_ext (Int.eq_of_mul_eq_mul_right h0 e1) (Int.eq_of_mul_eq_mul_right h0 e2) (Int.eq_of_mul_eq_mul_right h0 e3))
theorem cand_inj {l : List Tr} {k : Nat} (hk : k < 3) {P Q : Pl} (hP : P ∈ candP l k) (hQ : Q ∈ candP l k) (hs : P.s = Q.s) : P = Q := by
 have h := (cand_ok l k).2 P |>.1 hP
 obtain ⟨onP, _⟩ := cand_on hk hP
 obtain ⟨onQ, _⟩ := cand_on hk hQ
 obtain ⟨⟨a, b, c⟩, ht, h3⟩ := List.mem_filterMap.1 h
 rw [tI_eq, mem_tI] at ht
 obtain ⟨ht1, ht2, ht3⟩ := ht
 dsimp only at ht1 ht2 ht3
 have h3' : thr l k a b c = some P := h3
 have hz : cz (nvP (gt l a) (gt l b) (gt l c)) k ≠ 0 := fun e => by rw [thr_zero e] at h3'; cases h3'
 have hE : P.A = aP l k a b c ∧ P.B = bP l k a b c ∧ P.C = cP l k a b c := by
  unfold thr at h3'
  rw [if_neg hz] at h3'
  unfold mkP at h3'
  split at h3'
  ·cases h3'
  ·injection h3' with h3'; rw [← h3']; exact ⟨rfl, rfl, rfl⟩
 obtain ⟨t1, t2, t3⟩ := thr_on hk hz
 rw [← hE.1, ← hE.2.1, ← hE.2.2] at t1 t2 t3
 have q : ∀ i, i < l.length → hgt k P.A P.B P.C (gt l i) = 0 → hgt k Q.A Q.B Q.C (gt l i) = 0 := fun i hi h0 => by
  have h1 : i ∈ P.s := by rw [onP, onL_mem]; exact ⟨hi, h0⟩
  rw [hs, onQ, onL_mem] at h1
  exact h1.2
 obtain ⟨e1, e2, e3⟩ := plane_uniq ((cz_crs hk _ _ _).1 hz) t1 t2 t3 (q a zO t1) (q b zO t2) (q c ht3 t3)
 exact thrs_uniq h ((cand_ok l k).2 Q |>.1 hQ) ⟨e1, e2, e3⟩
def downL (l : List Tr) (k : Nat) : List Fc := (facetsL l).filter fun f => decide (cz f.n k < 0)
theorem facets_nd (l : List Tr) : (facetsL l).Nodup := List.Pairwise.imp (S := (· ≠ ·)) (fun {a b} hab e => lex_ir a.n (by rw [← e] at hab; exact hab)) facets_mem.1
theorem nodup_map {α β : Type} {f : α → β} : ∀ {L : List α}, L.Nodup → (∀ a ∈ L, ∀ b ∈ L, f a = f b → a = b) → (L.map f).Nodup
 |[], _, _ => List.nodup_nil
 |a :: L, h, hi => by
  obtain ⟨h1, h2⟩ := List.nodup_cons.1 h
  rw [List.map_cons, List.nodup_cons]
  refine ⟨fun hm => ?_, nodup_map h2 fun x hx y hy => hi x (List.mem_cons_of_mem _ hx) y (List.mem_cons_of_mem _ hy)⟩
  obtain ⟨b, hb, e⟩ := List.mem_map.1 hm
  rw [← hi b (List.mem_cons_of_mem _ hb) a List.mem_cons_self e] at h1
  exact h1 hb
theorem cand_nd (l : List Tr) (k : Nat) : (candP l k).Nodup := List.Pairwise.imp (S := (· ≠ ·)) (fun {a b} hab e => ltP_irr a (by rw [← e] at hab; exact hab)) (cand_ok l k).1
theorem down_len {l : List Tr} (hS : Sol l) {k : Nat} (hk : k < 3) : (downL l k).length = (candP l k).length := by
 have m1 : ∀ f, f ∈ downL l k ↔ f ∈ facetsL l ∧ cz f.n k < 0 := fun f => by unfold downL; rw [List.mem_filter, decide_eq_true_eq]
 have n1 : ((downL l k).map Fc.s).Nodup := nodup_map (List.Pairwise.filter _ (facets_nd l)) (fun f hf g hg h => by
  obtain ⟨a1, a2⟩ := (m1 f).1 hf
  obtain ⟨b1, b2⟩ := (m1 g).1 hg
  exact facet_inj hS hk a1 b1 a2 b2 h)
 have n2 : ((candP l k).map Pl.s).Nodup := nodup_map (cand_nd l k) (fun P hP Q hQ h => cand_inj hk hP hQ h)
 have hp : ((downL l k).map Fc.s).Perm ((candP l k).map Pl.s) := (List.perm_ext_iff_of_nodup n1 n2).2 fun s => by
  rw [List.mem_map, List.mem_map]
  constructor
  ·rintro ⟨f, hf, rfl⟩
   obtain ⟨a1, a2⟩ := (m1 f).1 hf
   obtain ⟨P, hP, e, _⟩ := facet_cand hk a1 a2
   exact ⟨P, hP, e⟩
  ·rintro ⟨P, hP, rfl⟩
   obtain ⟨f, hf, hn, e⟩ := cand_facet hS hk hP
   exact ⟨f, (m1 f).2 ⟨hf, hn⟩, e⟩
 have := hp.length_eq
 rwa [List.length_map, List.length_map] at this
end Go.Proofs.YtgepmbjmaljgoaaGreatDoor.H.S
namespace Go.Proofs.YtgepmbjmaljgoaaGreatDoor.H.S
open Go Go.Vc Go.RowKit
set_option maxHeartbeats 4000000
abbrev nilA : AV := .val (.slice none 0 0)
abbrev fs (L : List Fc) : AV := .sl L.length 5 (ff L)
def few (l : List Tr) : Prop := l.length ≤ 6 ∨ 64 < l.length
theorem few.le {l : List Tr} (h : few l) (h0 : chkT l = 0) : RT l ∧ l.length ≤ 6 := by
 obtain ⟨h1, h2⟩ := RT.of h0
 refine ⟨h1, ?_⟩
 rcases h with h | h
 ·exact h
 ·omega
def solA (l : List Tr) : AV := if (spn l).dim < 3 then nilA else fs (facetsL l)
theorem sp194_0 (s : Spn) (w : World) : (Instr.field 194 (.agg #[.int .i64 s.dim, .int .i64 s.pt.x, .int .i64 s.pt.y, .int .i64 s.pt.z, .int .i64 s.way.x, .int .i64 s.way.y, .int .i64 s.way.z]) 0).run Tryz.prog w = .ok (.int .i64 s.dim) w := by kernel_rfl
theorem solid_e (l : List Tr) (h : chkT l ≠ 0) : CtrA Tryz.prog 91 [ts l] (tupOf [nilA, nilA, vi (chkT l)]) := by
 refine ctrA _ Tryz.func91 rfl rfl Tryz.ntmps91 rfl fun w Z => ?_
 have hc := scheck_c l
 generalize chkT l = e at h hc ⊢
 refine zU ?_
 have hq1 := hc
 refine wt ?_
 repeat' (first
   |(refine sq_split rfl rfl (fun hb => ?_) (fun hb => ?_) <;> (try simp only [zA, zB, zG, zC, zD, zN] at hb) <;> (try (exfalso; omega)) <;> refine wt ?_)
   |(refine dq_split rfl rfl (fun hb => ?_) (fun hb => ?_) <;> (try simp only [zA, zB, zG, zC, zD, zN] at hb) <;> (try (exfalso; omega)) <;> refine wt ?_))
 (refine cq_cond rfl ?_ ?_ <;> intro hb <;> (try simp only [zA, zB, zG, zC, zD, zN] at hb) <;> (try (exfalso; omega)))
 refine wt ?_
 exact zX
theorem solid_c (l : List Tr) (hf : few l) (h : chkT l = 0) : CtrA Tryz.prog 91 [ts l] (tupOf [ts l, solA l, vi 0]) := by
 refine ctrA _ Tryz.func91 rfl rfl Tryz.ntmps91 rfl fun w Z => ?_
 have hc := scheck_c l
 rw [h] at hc
 obtain ⟨hl, hn⟩ := hf.le h
 have hv := (vectors_c l zO).ro
 have hs := spanned_c l hl zO
 have hA : solA l = if (spn l).dim < 3 then nilA else fs (facetsL l) := rfl
 have hfa := (facets_c l hl hn).ro
 generalize spn l = s at hs hA
 refine zU ?_
 have hq2 := hc
 have hq3 := hv
 have hq4 := hs
 have hq5 := hfa
 refine wt ?_
 repeat' (first
   |(refine sq_split rfl rfl (fun hb => ?_) (fun hb => ?_) <;> (try simp only [zA, zB, zG, zC, zD, zN] at hb) <;> (try (exfalso; omega)) <;> refine wt ?_)
   |(refine dq_split rfl rfl (fun hb => ?_) (fun hb => ?_) <;> (try simp only [zA, zB, zG, zC, zD, zN] at hb) <;> (try (exfalso; omega)) <;> refine wt ?_)
   |(refine sq_g (g_fieldv (us := [_, _, _, _, _, _, _]) rfl (sp194_0 s)) rfl ?_; refine wt ?_)
   |(refine dq_g (g_fieldv (us := [_, _, _, _, _, _, _]) rfl (sp194_0 s)) rfl ?_; refine wt ?_)
   |(refine sq_on (g_fieldv (us := [_, _, _, _, _, _, _]) rfl (sp194_0 s)) rfl rfl rfl ?_; refine wt ?_)
   |(refine dq_on (g_fieldv (us := [_, _, _, _, _, _, _]) rfl (sp194_0 s)) rfl rfl rfl ?_; refine wt ?_))
 (refine cq_cond rfl ?_ ?_ <;> intro hb <;> (try simp only [zA, zB, zG, zC, zD, zN] at hb) <;> (try (exfalso; omega)))
 ·rw [if_pos hb] at hA
  rw [hA]
  refine wt ?_
  exact zX
 ·rw [if_neg hb] at hA
  rw [hA]
  have hq6 := hfa
  refine wt ?_
  repeat' (first
    |(refine sq_split rfl rfl (fun hb => ?_) (fun hb => ?_) <;> (try simp only [zA, zB, zG, zC, zD, zN] at hb) <;> (try (exfalso; omega)) <;> refine wt ?_)
    |(refine dq_split rfl rfl (fun hb => ?_) (fun hb => ?_) <;> (try simp only [zA, zB, zG, zC, zD, zN] at hb) <;> (try (exfalso; omega)) <;> refine wt ?_))
  exact zX
theorem facets_len (l : List Tr) (hn : l.length ≤ 6) : (facetsL l).length ≤ 1000 := by
 have h1 := cptF_len (sortF (planesL l))
 rw [sortF_len] at h1
 have := planes_len l hn
 unfold facetsL; omega
theorem facets_ok {l : List Tr} (hn : l.length ≤ 6) : ∀ f ∈ facetsL l, f.n ≠ tz ∧ 0 < f.s.length ∧ f.s.length ≤ 6 ∧ ∀ i ∈ f.s, i < l.length := fun f hf => by
 have hp := facets_sub hf
 have hF := planes_isF hp
 obtain ⟨h1, h2⟩ := fac_s hF
 refine ⟨planes_ne hp, h1, ?_, h2⟩
 rw [hF.s]
 have := onTo_len l f.n f.m l.length
 omega
def facQ (l : List Tr) : List Fc := if chkT l = 0 then (if (spn l).dim < 3 then [] else facetsL l) else []
def errF (l : List Tr) : Int := if chkT l = 0 then (if (spn l).dim < 3 then 14 else 0) else chkT l
theorem eg84 (x y : Operand) (a : Addr) (n c : Nat) (w : World) : (eqGuard .eql 84 x y (.slice (some a) n c) (.slice none 0 0)).run Tryz.prog w = .ok () w := by kernel_rfl
theorem ev84 (a : Addr) (n c : Nat) (w : World) : (binOp .eql 84 (.slice (some a) n c) (.slice none 0 0)).run Tryz.prog w = .ok (.bool false) w := by kernel_rfl
theorem en84 (x y : Operand) (w : World) : (eqGuard .eql 84 x y (.slice none 0 0) (.slice none 0 0)).run Tryz.prog w = .ok () w := by kernel_rfl
theorem eo84 (w : World) : (binOp .eql 84 (.slice none 0 0) (.slice none 0 0)).run Tryz.prog w = .ok (.bool true) w := by kernel_rfl
theorem facs_c (l : List Tr) (hf : few l) (hne : chkT l = 0 → ¬ (spn l).dim < 3 → 0 < (facetsL l).length) : CtrA Tryz.prog 41 [ts l] (tupOf [fs (facQ l), vi (errF l)]) := by
 by_cases h : chkT l = 0
 ·unfold facQ errF
  rw [if_pos h, if_pos h]
  have hs := solid_c l hf h
  unfold solA at hs
  by_cases hd : (spn l).dim < 3
  ·rw [if_pos hd] at hs
   rw [if_pos hd, if_pos hd]
   refine CtrA.to (τ := tupOf [nilA, vi 14]) ?_ (.tup ⟨.nil, .refl _, trivial⟩)
   refine ctrA _ Tryz.func41 rfl rfl Tryz.ntmps41 rfl fun w Z => ?_
   refine zU ?_
   have hq7 := hs
   refine wt ?_
   repeat' (first
     |(refine sq_split rfl rfl (fun hb => ?_) (fun hb => ?_) <;> (try simp only [zA, zB, zG, zC, zD, zN] at hb) <;> (try (exfalso; omega)) <;> refine wt ?_)
     |(refine dq_split rfl rfl (fun hb => ?_) (fun hb => ?_) <;> (try simp only [zA, zB, zG, zC, zD, zN] at hb) <;> (try (exfalso; omega)) <;> refine wt ?_)
     |(refine sq_g (g_bin rfl rfl (fun w => en84 _ _ w) (fun w => eo84 w)) rfl ?_; refine wt ?_)
     |(refine dq_g (g_bin rfl rfl (fun w => en84 _ _ w) (fun w => eo84 w)) rfl ?_; refine wt ?_)
     |(refine sq_on (g_bin rfl rfl (fun w => en84 _ _ w) (fun w => eo84 w)) rfl rfl rfl ?_; refine wt ?_)
     |(refine dq_on (g_bin rfl rfl (fun w => en84 _ _ w) (fun w => eo84 w)) rfl rfl rfl ?_; refine wt ?_))
   exact zW
  ·rw [if_neg hd] at hs
   rw [if_neg hd, if_neg hd]
   have h0 := hne h hd
   refine ctrA _ Tryz.func41 rfl rfl Tryz.ntmps41 rfl fun w Z => ?_
   generalize facetsL l = L at hs h0 ⊢
   refine zU ?_
   have hq8 := hs
   refine wt ?_
   repeat' (first
     |(refine sq_split rfl rfl (fun hb => ?_) (fun hb => ?_) <;> (try simp only [zA, zB, zG, zC, zD, zN] at hb) <;> (try (exfalso; omega)) <;> refine wt ?_)
     |(refine dq_split rfl rfl (fun hb => ?_) (fun hb => ?_) <;> (try simp only [zA, zB, zG, zC, zD, zN] at hb) <;> (try (exfalso; omega)) <;> refine wt ?_)
     |(refine sq_g (g_eqnil_sl (fun a n c w => eg84 _ _ a n c w) (fun a n c w => ev84 a n c w) rfl rfl h0) rfl ?_; refine wt ?_)
     |(refine dq_g (g_eqnil_sl (fun a n c w => eg84 _ _ a n c w) (fun a n c w => ev84 a n c w) rfl rfl h0) rfl ?_; refine wt ?_)
     |(refine sq_on (g_eqnil_sl (fun a n c w => eg84 _ _ a n c w) (fun a n c w => ev84 a n c w) rfl rfl h0) rfl rfl rfl ?_; refine wt ?_)
     |(refine dq_on (g_eqnil_sl (fun a n c w => eg84 _ _ a n c w) (fun a n c w => ev84 a n c w) rfl rfl h0) rfl rfl rfl ?_; refine wt ?_))
   exact zW
 ·have hs := solid_e l h
  unfold facQ errF
  rw [if_neg h, if_neg h]
  generalize chkT l = e at h hs ⊢
  refine CtrA.to (τ := tupOf [nilA, vi e]) ?_ (.tup ⟨.nil, .refl _, trivial⟩)
  refine ctrA _ Tryz.func41 rfl rfl Tryz.ntmps41 rfl fun w Z => ?_
  refine zU ?_
  have hq9 := hs
  refine wt ?_
  repeat' (first
    |(refine sq_split rfl rfl (fun hb => ?_) (fun hb => ?_) <;> (try simp only [zA, zB, zG, zC, zD, zN] at hb) <;> (try (exfalso; omega)) <;> refine wt ?_)
    |(refine dq_split rfl rfl (fun hb => ?_) (fun hb => ?_) <;> (try simp only [zA, zB, zG, zC, zD, zN] at hb) <;> (try (exfalso; omega)) <;> refine wt ?_))
  (refine cq_cond rfl ?_ ?_ <;> intro hb <;> (try simp only [zA, zB, zG, zC, zD, zN] at hb) <;> (try (exfalso; omega)))
  refine wt ?_
  exact zW
end Go.Proofs.YtgepmbjmaljgoaaGreatDoor.H.S
section
end
section
end
section
end
section
end
namespace Go.Proofs.YtgepmbjmaljgoaaGreatDoor.H
open Go Go.Vc Go.RowKit
open Go.Na (rtx LR chkR_rtx chkR rsg)
set_option maxHeartbeats 4000000
def rgtB (l : List Tr) (k : Nat) : Bool := fewB l && (decide (chkT l = 0) && !strB (plcs l k))
theorem chk_plcs {l : List Tr} (hl : RT l) (h : l.length ≤ 64) (k : Nat) : chk (plcs l k) = 0 := by
 unfold chk
 rw [if_neg (by rw [plcs_len]; omega), if_pos]
 rw [List.all_eq_true]
 intro p hp
 obtain ⟨q, hq, rfl⟩ := List.mem_map.1 hp
 obtain ⟨i, hi, rfl⟩ := List.getElem_of_mem hq
 have e : l[i] = gt l i := by simp [gt, hi, List.getD]
 rw [e]
 have h1 := (hl i).cz (ou k)
 have h2 := (hl i).cz (ov k)
 unfold rightB inB plc
 simp only [Bool.and_eq_true, decide_eq_true_eq]
 omega
theorem right_c (l : List Tr) {k : Nat} (hk : k < 3) : CtrA Tryz.prog 28 [ts l, vi (k : Int)] (vb (rgtB l k)) := by
 have h1 := fews_c l
 unfold rgtB
 cases hf : fewB l with
 |false =>
  rw [hf] at h1
  refine ctrA _ Tryz.func28 rfl rfl Tryz.ntmps28 rfl fun w Z => ?_
  refine zU ?_
  refine wt ?_
  exact zV
 |true =>
  rw [hf] at h1
  have hl : l.length ≤ 1000 := by unfold fewB at hf; simp at hf; omega
  have h2 := rscheck_c l hl
  by_cases hT : chkT l = 0
  ·rw [hT] at h2
   have h3 := rplaces_c l hk hl
   obtain ⟨hR, h64⟩ := RT.of hT
   have hst := straight_c (plcs l k) (chk_sm (chk_plcs hR h64 k)).1 (by rw [plcs_len]; exact hl)
   have e1 : decide ((k : Int) < 3) = true := decide_eq_true zO
   have e2 : decide ((0 : Int) ≤ (k : Int)) = true := decide_eq_true zO
   rw [decide_eq_true hT]
   cases hs : strB (plcs l k) with
   |false =>
    rw [hs] at hst
    refine ctrA _ Tryz.func28 rfl rfl Tryz.ntmps28 rfl fun w Z => ?_
    refine zU ?_
    refine wt ?_
    rw [e1, e2]
    refine wt ?_
    refine sq_von (f_call_row 22 h3 rfl rfl) rfl rfl rfl ?_
    refine wt ?_
    exact zV
   |true =>
    rw [hs] at hst
    refine ctrA _ Tryz.func28 rfl rfl Tryz.ntmps28 rfl fun w Z => ?_
    refine zU ?_
    refine wt ?_
    rw [e1, e2]
    refine wt ?_
    refine sq_von (f_call_row 22 h3 rfl rfl) rfl rfl rfl ?_
    refine wt ?_
    exact zV
  ·have hne : (chkT l == 0) = false := by simpa using hT
   rw [decide_eq_false hT]
   refine ctrA _ Tryz.func28 rfl rfl Tryz.ntmps28 rfl fun w Z => ?_
   refine zU ?_
   refine wt ?_
   rw [hne]
   refine wt ?_
   exact zV
end Go.Proofs.YtgepmbjmaljgoaaGreatDoor.H
namespace Go.Proofs.YtgepmbjmaljgoaaGreatDoor.H
open Go Go.Vc Go.RowKit
def fU (l : List Tr) (k : Nat) : Nat → Rat := fun i => ((plc k (gt l i)).x : Rat)
def fV (l : List Tr) (k : Nat) : Nat → Rat := fun i => ((plc k (gt l i)).y : Rat)
def fZ (l : List Tr) (k : Nat) : Nat → Rat := fun i => (cz (gt l i) k : Rat)
theorem hh_hgt (l : List Tr) (k : Nat) (A B C : Rat) (i : Nat) : hh (fU l k) (fV l k) (fZ l k) A B C i = hgt k A B C (gt l i) := rfl
theorem feas_iff {l : List Tr} {k : Nat} {A B C : Rat} : Feas l.length (fU l k) (fV l k) (fZ l k) A B C ↔ lowB l k A B C l.length = false := by
 unfold Feas lowB
 rw [List.any_eq_false]
 constructor
 ·intro h i hi
  have := h i (List.mem_range.1 hi)
  rw [hh_hgt] at this
  simp only [decide_eq_true_eq]
  grind
 ·intro h i hi
  have := h i (List.mem_range.2 hi)
  simp only [decide_eq_true_eq] at this
  rw [hh_hgt]
  grind
theorem line_of_coll {L : List Pt} (h : collB L = true) : ∃ d0 d1 d2 : Rat, ¬ (d0 = 0 ∧ d1 = 0 ∧ d2 = 0) ∧ ∀ i, i < L.length → d0 + (d1 * ((gp L i).x : Rat) + d2 * ((gp L i).y : Rat)) = 0 := by
 unfold collB at h
 split at h
 ·rename_i hf
  refine ⟨((gp L 0).x : Rat), -1, 0, fun e => by have := e.2.1; grind, fun i hi => ?_⟩
  have : gp L i = gp L 0 := by
   have := List.find?_eq_none.1 hf i (List.mem_range.2 hi)
   simpa using this
  rw [this]; grind
 ·rename_i m hf
  have hm := List.find?_some hf
  have hne : gp L m ≠ gp L 0 := by simpa using hm
  have hall : ∀ i, i < L.length → trn (sub (gp L m) (gp L 0)) (sub (gp L i) (gp L 0)) = 0 := fun i hi => by
   have := List.all_eq_true.1 h i (List.mem_range.2 hi)
   simpa using this
  generalize gp L m = b at *
  generalize gp L 0 = a at *
  refine ⟨((b.y : Rat) - a.y) * a.x - ((b.x : Rat) - a.x) * a.y, -((b.y : Rat) - a.y), (b.x : Rat) - a.x, fun e => ?_, fun i hi => ?_⟩
  ·obtain ⟨_, e1, e2⟩ := e
   apply hne
   have f1 : (b.y : Rat) = a.y := by grind
   have f2 : (b.x : Rat) = a.x := by grind
   have g1 : b.y = a.y := by exact_mod_cast f1
   have g2 : b.x = a.x := by exact_mod_cast f2
   obtain ⟨bx, by'⟩ := b
   obtain ⟨ax, ay⟩ := a
   dsimp only at g1 g2
   rw [g1, g2]
  ·have h1 := hall i hi
   unfold trn sub at h1
   dsimp only at h1
   have h2 : (((b.x - a.x) * ((gp L i).y - a.y) - (b.y - a.y) * ((gp L i).x - a.x) : Int) : Rat) = 0 := by rw [h1]; rfl
   simp only [Rat.intCast_sub, Rat.intCast_mul] at h2
   grind
theorem str_of_line {L : List Pt} {d0 d1 d2 : Rat} (hne : ¬ (d0 = 0 ∧ d1 = 0 ∧ d2 = 0)) (h : ∀ i, i < L.length → d0 + (d1 * ((gp L i).x : Rat) + d2 * ((gp L i).y : Rat)) = 0) : strB L = true := by
 unfold strB
 simp only [List.all_eq_true, List.mem_range, decide_eq_true_eq]
 intro i hi j hj m hm
 have h1 := h i hi
 have h2 := h j zO
 have h3 := h m zO
 have hc : ((crs (gp L i) (gp L j) (gp L m) : Int) : Rat) = 0 := by
  unfold crs trn sub
  dsimp only
  simp only [Rat.intCast_sub, Rat.intCast_mul]
  generalize ((gp L i).x : Rat) = ax at *
  generalize ((gp L i).y : Rat) = ay at *
  generalize ((gp L j).x : Rat) = bx at *
  generalize ((gp L j).y : Rat) = by' at *
  generalize ((gp L m).x : Rat) = cx at *
  generalize ((gp L m).y : Rat) = cy at *
  have e1 : d1 * (bx - ax) + d2 * (by' - ay) = 0 := by grind
  have e2 : d1 * (cx - ax) + d2 * (cy - ay) = 0 := by grind
  have f1 : d1 * ((bx - ax) * (cy - ay) - (by' - ay) * (cx - ax)) = 0 := by grind
  have f2 : d2 * ((bx - ax) * (cy - ay) - (by' - ay) * (cx - ax)) = 0 := by grind
  by_cases g1 : d1 = 0
  ·by_cases g2 : d2 = 0
   ·exfalso; apply hne; refine ⟨?_, g1, g2⟩; rw [g1, g2] at h1; grind
   ·rcases Rat.mul_eq_zero.1 f2 with h | h
    ·exact absurd h g2
    ·exact h
  ·rcases Rat.mul_eq_zero.1 f1 with h | h
   ·exact absurd h g1
   ·exact h
 exact_mod_cast hc
theorem cand_above {l : List Tr} {k : Nat} (hk : k < 3) (hs : strB (plcs l k) = false) {qx qy : Rat} (hq : ∀ d0 d1 d2 : Rat, 0 < d0 + (d1 * qx + d2 * qy) → ∃ i, i < l.length ∧ 0 < dv (fU l k) (fV l k) d0 d1 d2 i)
  {A B C : Rat} (hf : Feas l.length (fU l k) (fV l k) (fZ l k) A B C) : ∃ P, P ∈ candP l k ∧ A + (B * qx + C * qy) ≤ P.A + (P.B * qx + P.C * qy) := by
 have hnc : ∀ d0 d1 d2 : Rat, ¬ (d0 = 0 ∧ d1 = 0 ∧ d2 = 0) → ∃ i, i < l.length ∧ dv (fU l k) (fV l k) d0 d1 d2 i ≠ 0 := by
  intro d0 d1 d2 hne
  apply Classical.byContradiction
  intro hno
  have : strB (plcs l k) = true := str_of_line hne (fun i hi => by
   rw [plcs_len] at hi
   rw [gp_plcs hi]
   apply Classical.byContradiction
   intro h
   exact hno ⟨i, hi, h⟩)
  rw [hs] at this; cases this
 obtain ⟨A', B', C', h1, h2, h3⟩ := vert hq hnc _ A B C (Nat.le_refl _) hf
 refine ⟨⟨A', B', C', onL l k A' B' C' l.length⟩, cand_of hk (feas_iff.1 h1) ?_, h2⟩
 cases hst : strB (plP l k (onL l k A' B' C' l.length)) with
 |false => rfl
 |true =>
  exfalso
  obtain ⟨d0, d1, d2, hne, hd⟩ := line_of_coll (by rw [← coll_str]; exact hst)
  refine hne (h3 d0 d1 d2 fun i hi he => ?_)
  rw [hh_hgt] at he
  obtain ⟨j, hj, e⟩ := List.getElem_of_mem (onL_mem.2 ⟨hi, he⟩)
  have := hd j (by unfold plP; rw [List.length_map]; exact hj)
  rw [gp_plP hj, gi_eq hj, e] at this
  exact this
theorem feas_low {l : List Tr} {k : Nat} (hR : RT l) : Feas l.length (fU l k) (fV l k) (fZ l k) (-100000) 0 0 := by
 intro i hi
 have h := ((hR i).cz k).1
 have h' : ((-100000 : Int) : Rat) ≤ (cz (gt l i) k : Rat) := Rat.intCast_le_intCast.2 h
 unfold hh fZ
 have e : ((-100000 : Int) : Rat) = -100000 := by decide +kernel
 rw [e] at h'
 grind
theorem cand_some {l : List Tr} {k : Nat} (hk : k < 3) (hR : RT l) (hs : strB (plcs l k) = false) : candP l k ≠ [] := by
 have hl : 0 < l.length := by
  cases l with
  |nil => simp [strB, plcs] at hs
  |cons a l => simp
 obtain ⟨P, hP, _⟩ := cand_above hk hs (qx := fU l k 0) (qy := fV l k 0) (fun d0 d1 d2 h => ⟨0, hl, h⟩) (feas_low hR)
 exact List.ne_nil_of_mem hP
end Go.Proofs.YtgepmbjmaljgoaaGreatDoor.H
namespace Go.Proofs.YtgepmbjmaljgoaaGreatDoor.H
open Go Go.Vc Go.RowKit
open Go.Na (rtx LR chkR_rtx chkR rsg)
set_option maxHeartbeats 4000000
theorem ixB_any (f : Pl → Bool) (Ps : List Pl) : decide (0 ≤ ixB (fun i => f (gP Ps i)) Ps.length) = Ps.any f := by
 rw [Bool.eq_iff_iff, decide_eq_true_eq, List.any_eq_true]
 unfold ixB
 split
 ·rename_i k hf
  have h1 := List.find?_some hf
  have h2 := List.mem_range.1 (List.mem_of_find?_eq_some hf)
  exact ⟨fun _ => ⟨_, gP_mem h2, h1⟩, fun _ => by omega⟩
 ·rename_i hf
  constructor
  ·intro h; omega
  ·rintro ⟨P, hP, hf'⟩
   obtain ⟨i, hi, rfl⟩ := List.getElem_of_mem hP
   have := List.find?_eq_none.1 hf i (List.mem_range.2 hi)
   rw [gP_eq hi] at this
   exact absurd hf' (by simpa using this)
theorem rgtB_ok {l : List Tr} {k : Nat} (hk : k < 3) (h : rgtB l k = true) : fewB l = true ∧ chkT l = 0 ∧ strB (plcs l k) = false ∧ RT l ∧ l.length ≤ 6 ∧ candX l k = tupOf [.sl (candP l k).length 5 (pf5 k (candP l k)), vi 0] := by
 unfold rgtB at h
 simp only [Bool.and_eq_true, decide_eq_true_eq, Bool.not_eq_true'] at h
 obtain ⟨h1, h2, h3⟩ := h
 obtain ⟨hR, h64⟩ := RT.of h2
 have h6 : l.length ≤ 6 := by unfold fewB at h1; simp at h1; omega
 have hg : givE l k = 0 := by unfold givE; rw [if_neg (fun h => h h2), if_pos (by omega)]
 refine ⟨h1, h2, h3, hR, h6, ?_⟩
 unfold candX candA
 rw [if_neg (fun h => h hg), Int.toNat_natCast, if_neg (fun h => h (chk_plcs hR h64 k)), if_neg (by rw [← coll_str, h3]; decide)]
end Go.Proofs.YtgepmbjmaljgoaaGreatDoor.H
section
end
section
end
section
end
section
end
section
end
section
end
section
end
section
end
section
end
