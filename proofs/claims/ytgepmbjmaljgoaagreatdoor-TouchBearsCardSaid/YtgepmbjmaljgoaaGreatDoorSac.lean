/- A part of the proof that TouchBears returns true at every input and that the input reads behind the call as it read before; this part states nothing of its own that is claimed. -/
import Derived.Test.YtgepmbjmaljgoaaGreatDoorCai
import Derived.Test.YtgepmbjmaljgoaaGreatDoorCaj
import Derived.Test.YtgepmbjmaljgoaaGreatDoorCap
import Derived.Test.YtgepmbjmaljgoaaGreatDoorCaq
set_option linter.unusedVariables false
set_option linter.unusedSimpArgs false
section
namespace Go.Proofs.YtgepmbjmaljgoaaGreatDoor.H
open Go Go.Vc Go.RowKit
set_option maxHeartbeats 4000000
theorem btw_c (p a b : Pt) (h1 : SmP p) (h2 : SmP a) (h3 : SmP b) : CtrA Tryz.prog 73 [pp p, pp a, pp b] (vb (btw p a b)) := by
  have c1 := rleft_c a b p h2 h3 h1
  have c2 := rminus_c a p h2 h1
  have c3 := rminus_c b p h3 h1
  have c4 := rtimes_c _ _ (sub_bd h2 h1) (sub_bd h3 h1)
  refine ctrA _ Tryz.func73 rfl rfl Tryz.ntmps73 rfl fun w Z => ?_
  simp only [initT, zP, zQ, Nat.zero_add, Nat.reduceAdd]
  (refine wt ?_; repeat' (((first | refine sq_split rfl rfl (fun hb => ?_) (fun hb => ?_) | refine dq_split rfl rfl (fun hb => ?_) (fun hb => ?_)) <;> (try simp only [zA, zB, zC, zD, zE, zF, zG, zH, zI, zJ, zK, zL, zM, zN, zO] at hb) <;> (try (exfalso; omega))) <;> refine wt ?_))
  all_goals (refine sq_res1 rfl (.tmp rfl) (congrArg vb ?_); simp [btw, *])
theorem wth_c (p a b c : Pt) (h1 : SmP p) (h2 : SmP a) (h3 : SmP b) (h4 : SmP c) : CtrA Tryz.prog 74 [pp p, pp a, pp b, pp c] (vb (wth p a b c)) := by
  have c1 := rleft_c a b p h2 h3 h1
  have c2 := rleft_c b c p h3 h4 h1
  have c3 := rleft_c c a p h4 h2 h1
  have c4 := rleft_c a b c h2 h3 h4
  have s1 := rsgn_c (crs a b p)
  have s2 := rsgn_c (crs b c p)
  have s3 := rsgn_c (crs c a p)
  refine ctrA _ Tryz.func74 rfl rfl Tryz.ntmps74 rfl fun w Z => ?_
  simp only [initT, zP, zQ, Nat.zero_add, Nat.reduceAdd]
  (refine wt ?_; repeat' (((first | refine sq_split rfl rfl (fun hb => ?_) (fun hb => ?_) | refine dq_split rfl rfl (fun hb => ?_) (fun hb => ?_)) <;> (try simp only [zA, zB, zC, zD, zE, zF, zG, zH, zI, zJ, zK, zL, zM, zN, zO] at hb) <;> (try (exfalso; omega))) <;> refine wt ?_))
  all_goals (refine sq_res1 rfl (.tmp rfl) (congrArg vb ?_); simp [wth, *])
theorem inH_c (l : List Pt) (p : Pt) (hl : ∀ i, SmP (gp l i)) (hp : SmP p) (hn : l.length ≤ 64) : CtrA Tryz.prog 30 [pts l, pp p] (vb (inH l p)) := by
  refine ctrA _ Tryz.func30 rfl rfl Tryz.ntmps30 rfl fun w Z => ?_
  simp only [initT, zP, zQ, Nat.zero_add, Nat.reduceAdd]
  refine wt ?_
  refine cq_loop (γ := Nat) (fun i => [(0, .av (pts l)), (3, .av (bp p)), (5, .av (vi i))]) (fun _ => []) (fun i => i ≤ l.length ∧ ∀ i', i' < i → (decide (gp l i' = p) || (List.range i').any fun j => btw p (gp l i') (gp l j) || (List.range j).any fun k => wth p (gp l i') (gp l j) (gp l k)) = false) (fun i => l.length - i) 0 ⟨Nat.zero_le _, by intro i hi; omega⟩ (ent ⟨.refl _, .refl _, .refl _, trivial⟩ trivial) ?_
  rintro i ⟨hi, hall⟩
  refine wt ?_
  (refine cq_cond rfl (fun hb => ?_) (fun hb => ?_) <;> (try simp only [zA, zB, zC, zD, zE, zF, zG, zH, zI, zJ, zK, zL, zM, zN, zO] at hb) <;> (try (exfalso; omega)))
  · refine wt ?_
    rw [pt_beq (gp l i) p]
    (refine cq_cond rfl (fun hb => ?_) (fun hb => ?_) <;> (try simp only [zA, zB, zC, zD, zE, zF, zG, zH, zI, zJ, zK, zL, zM, zN, zO] at hb) <;> (try (exfalso; omega)))
    · refine wt ?_
      refine sq_res1 rfl (.tmp rfl) (congrArg vb ?_)
      exact (any_true_of (k := i) (by omega) (by simp [hb])).symm
    · refine wt ?_
      have hne := hb
      refine cq_loop (γ := Nat) (fun j => [(0, .av (pts l)), (3, .av (bp p)), (5, .av (vi i)), (6, .av (vi j))]) (fun _ => []) (fun j => j ≤ i ∧ ∀ j', j' < j → (btw p (gp l i) (gp l j') || (List.range j').any fun k => wth p (gp l i) (gp l j') (gp l k)) = false) (fun j => i - j) 0 ⟨Nat.zero_le _, by intro i hi; omega⟩ (ent ⟨.refl _, .refl _, .refl _, .refl _, trivial⟩ trivial) ?_
      rintro j ⟨hj, hallj⟩
      refine wt ?_
      (refine cq_cond rfl (fun hb => ?_) (fun hb => ?_) <;> (try simp only [zA, zB, zC, zD, zE, zF, zG, zH, zI, zJ, zK, zL, zM, zN, zO] at hb) <;> (try (exfalso; omega)))
      · have hbc := btw_c p (gp l i) (gp l j) hp (hl _) (hl _)
        refine wt ?_
        (refine cq_cond rfl (fun hb => ?_) (fun hb => ?_) <;> (try simp only [zA, zB, zC, zD, zE, zF, zG, zH, zI, zJ, zK, zL, zM, zN, zO] at hb) <;> (try (exfalso; omega)))
        · refine wt ?_
          refine sq_res1 rfl (.tmp rfl) (congrArg vb ?_)
          refine (any_true_of (k := i) (by omega) ?_).symm
          rw [any_true_of (k := j) (by omega) (by rw [hb]; rfl)]; simp
        · refine wt ?_
          have hbt := hb
          refine cq_loop (γ := Nat) (fun k => [(0, .av (pts l)), (3, .av (bp p)), (5, .av (vi i)), (6, .av (vi j)), (7, .av (vi k))]) (fun _ => []) (fun k => k ≤ j ∧ ∀ k', k' < k → wth p (gp l i) (gp l j) (gp l k') = false) (fun k => j - k) 0 ⟨Nat.zero_le _, by intro i hi; omega⟩ (ent ⟨.refl _, .refl _, .refl _, .refl _, .refl _, trivial⟩ trivial) ?_
          rintro k ⟨hk, hallk⟩
          refine wt ?_
          (refine cq_cond rfl (fun hb => ?_) (fun hb => ?_) <;> (try simp only [zA, zB, zC, zD, zE, zF, zG, zH, zI, zJ, zK, zL, zM, zN, zO] at hb) <;> (try (exfalso; omega)))
          · have hwc := wth_c p (gp l i) (gp l j) (gp l k) hp (hl _) (hl _) (hl _)
            refine wt ?_
            (refine cq_cond rfl (fun hb => ?_) (fun hb => ?_) <;> (try simp only [zA, zB, zC, zD, zE, zF, zG, zH, zI, zJ, zK, zL, zM, zN, zO] at hb) <;> (try (exfalso; omega)))
            · refine wt ?_
              refine sq_res1 rfl (.tmp rfl) (congrArg vb ?_)
              refine (any_true_of (k := i) (by omega) ?_).symm
              rw [any_true_of (k := j) (by omega) (by rw [any_true_of (k := k) (by omega) hb]; simp)]; simp
            · refine wt ?_
              exact sq_round (k + 1) ⟨by omega, plt_step hallk hb⟩ (by omega) (ent ⟨.refl _, .refl _, .refl _, .refl _, .int (by omega), trivial⟩ trivial)
          · refine wt ?_
            exact sq_round (j + 1) ⟨by omega, plt_step hallj (by rw [hbt, any_false_of (fun k' hk' => hallk k' (by omega))]; rfl)⟩ (by omega) (ent ⟨.refl _, .refl _, .refl _, .int (by omega), trivial⟩ trivial)
      · refine wt ?_
        exact sq_round (i + 1) ⟨by omega, plt_step hall (by rw [any_false_of (fun k' hk' => hallj k' (by omega))]; simp [hne])⟩ (by omega) (ent ⟨.refl _, .refl _, .int (by omega), trivial⟩ trivial)
  · refine wt ?_
    exact sq_res1 rfl (.tmp rfl) (congrArg vb (any_false_of (fun k' hk' => hall k' (by omega))).symm)
end Go.Proofs.YtgepmbjmaljgoaaGreatDoor.H
end
section
namespace Go.Proofs.YtgepmbjmaljgoaaGreatDoor.H
open Go Go.Vc Go.RowKit Go.Na
theorem trn_par {d u v : Pt} (hd : ¬ (d.x = 0 ∧ d.y = 0)) (h1 : trn d u = 0) (h2 : trn d v = 0) : trn u v = 0 := by
  unfold trn at *
  have e1 : d.x * (u.x * v.y - u.y * v.x) = 0 := by grind
  have e2 : d.y * (u.x * v.y - u.y * v.x) = 0 := by grind
  rcases Int.mul_eq_zero.1 e1 with a | a
  · rcases Int.mul_eq_zero.1 e2 with b | b
    · exact absurd ⟨a, b⟩ hd
    · exact b
  · exact a
theorem coll_all {l : List Pt} (h : collB l = true) : ∀ i, i < l.length → ∀ j, j < l.length → ∀ k, k < l.length → crs (gp l i) (gp l j) (gp l k) = 0 := by
  unfold collB at h
  split at h
  · rename_i hf
    have hall : ∀ k, k < l.length → gp l k = gp l 0 := fun k hk => by
      have := List.find?_eq_none.1 hf k (List.mem_range.2 hk)
      simpa using this
    intro i hi j hj k hk
    rw [hall i hi, hall j hj, hall k hk]
    unfold crs trn sub; grind
  · rename_i m hf
    have hm := List.find?_some hf
    have hne : gp l m ≠ gp l 0 := by simpa using hm
    have hall : ∀ i, i < l.length → trn (sub (gp l m) (gp l 0)) (sub (gp l i) (gp l 0)) = 0 := fun i hi => by
      have := List.all_eq_true.1 h i (List.mem_range.2 hi)
      simpa using this
    intro i hi j hj k hk
    have a1 := hall i hi
    have a2 := hall j hj
    have a3 := hall k hk
    refine trn_par (d := sub (gp l m) (gp l 0)) ?_ ?_ ?_
    · rintro ⟨e1, e2⟩
      apply hne
      unfold sub at e1 e2
      dsimp only at e1 e2
      generalize gp l m = a at *
      generalize gp l 0 = b at *
      obtain ⟨ax, ay⟩ := a
      obtain ⟨bx, by'⟩ := b
      dsimp only at e1 e2
      rw [show ax = bx by omega, show ay = by' by omega]
    · unfold trn sub at *; dsimp only at *; grind
    · unfold trn sub at *; dsimp only at *; grind
theorem str_of_coll {l : List Pt} (h : collB l = true) : strB l = true := by
  have key := coll_all h
  unfold strB
  simp only [List.all_eq_true, List.mem_range, decide_eq_true_eq]
  intro i hi j hj k hk
  exact key i hi j (by omega) k (by omega)
theorem coll_of_str {l : List Pt} (h : strB l = true) : collB l = true := by
  unfold strB at h
  simp only [List.all_eq_true, List.mem_range, decide_eq_true_eq] at h
  unfold collB
  split
  · rfl
  · rename_i m hf
    have hf' := List.find?_range_eq_some.1 hf
    obtain ⟨hm, hml, hbef⟩ := hf'
    have hne : gp l m ≠ gp l 0 := by simpa using hm
    have hb : ∀ j, j < m → gp l j = gp l 0 := fun j hj => by simpa using hbef j hj
    rw [List.all_eq_true]
    intro i hi
    rw [decide_eq_true_eq]
    rcases Nat.lt_trichotomy i m with h1 | h1 | h1
    · rw [hb i h1]; unfold trn sub; grind
    · subst h1; unfold trn sub; grind
    · have h0 : 0 < m := Nat.pos_of_ne_zero fun e => hne (by rw [e])
      have := h i (List.mem_range.1 hi) m h1 0 h0
      unfold crs trn sub at this
      unfold trn sub
      dsimp only at *
      grind
theorem coll_str (l : List Pt) : strB l = collB l := by
  cases h : collB l with
  | true => exact str_of_coll h
  | false =>
    cases h2 : strB l with
    | false => rfl
    | true => rw [coll_of_str h2] at h; cases h
theorem LR.add' {k l : Nat} {q r : Rat} (h : LR k q) (h' : LR l r) : LR (k + l + 1) (q + r) := by
  rw [add_eq]
  exact divInt_LR (by have := q.den_nz; have := r.den_nz; simp; omega) ((h.1.mul h'.2).add ((h'.1.mul h.2).mono (by omega))) ((h.2.mul h'.2).mono (by omega))
theorem LR.mul' {k l : Nat} {q r : Rat} (h : LR k q) (h' : LR l r) : LR (k + l) (q * r) := by
  rw [mul_eq]
  exact divInt_LR (by have := q.den_nz; have := r.den_nz; simp; omega) (h.1.mul h'.1) (h.2.mul h'.2)
theorem LR_small {x : Int} (hx : -100000 ≤ x ∧ x ≤ 100000) : LR 6 (x : Rat) := LR.int (k := 6) (show x.natAbs < 10 ^ 6 by omega) (by decide)
theorem LR_divInt19 {n d : Int} (hn : -9000000000000000000 ≤ n ∧ n ≤ 9000000000000000000) (hd : -9000000000000000000 ≤ d ∧ d ≤ 9000000000000000000) (h0 : d ≠ 0) : LR 19 (Rat.divInt n d) := by
  have l : ∀ x : Int, -9000000000000000000 ≤ x ∧ x ≤ 9000000000000000000 → LI 19 x := fun x hx => (show x.natAbs < 10 ^ 19 by omega)
  exact divInt_LR h0 (l _ hn) (l _ hd)
theorem thrs_at {l : List Tr} {k : Nat} {P : Pl} (h : P ∈ thrs l k) : ∃ a b c, cz (nvP (gt l a) (gt l b) (gt l c)) k ≠ 0 ∧ P.A = aP l k a b c ∧ P.B = bP l k a b c ∧ P.C = cP l k a b c := by
  obtain ⟨⟨a, b, c⟩, _, h⟩ := List.mem_filterMap.1 h
  have h' : thr l k a b c = some P := h
  unfold thr at h'
  split at h'
  · cases h'
  · rename_i hz
    unfold mkP at h'
    split at h'
    · cases h'
    · injection h' with h'
      subst h'
      exact ⟨a, b, c, hz, rfl, rfl, rfl⟩
theorem thrs_LR19 {l : List Tr} (hl : RT l) {k : Nat} {P : Pl} (h : P ∈ thrs l k) : LR 19 P.A ∧ LR 19 P.B ∧ LR 19 P.C := by
  obtain ⟨a, b, c, hz, eA, eB, eC⟩ := thrs_at h
  rw [eA, eB, eC]
  have hn := BT.np hl k a b c
  have h1 := hn.cz k
  have h2 := hn.cz (ou k)
  have h3 := hn.cz (ov k)
  have h4 : cz (nP l k a b c) k ≠ 0 := by have := upP_pos (k := k) (n := nvP (gt l a) (gt l b) (gt l c)) hz; unfold nP; omega
  refine ⟨LR_divInt19 ?_ (by omega) h4, LR_divInt19 (by omega) (by omega) h4, LR_divInt19 (by omega) (by omega) h4⟩
  unfold mP
  have hm := bt_dot hn (hl a)
  omega
theorem cand_thrs {l : List Tr} {k : Nat} {P : Pl} (h : P ∈ candP l k) : P ∈ thrs l k := ((cand_ok l k).2 P).1 h
theorem cand_up {l : List Tr} {k : Nat} {P : Pl} (h : P ∈ thrs l k) {i : Nat} (hi : i < l.length) : 0 ≤ hgt k P.A P.B P.C (gt l i) := by
  have h1 := thr_s h
  unfold mkP at h1
  split at h1
  · cases h1
  · rename_i hl
    by_cases h3 : hgt k P.A P.B P.C (gt l i) < 0
    · exfalso; apply hl
      unfold lowB
      rw [List.any_eq_true]
      exact ⟨i, List.mem_range.2 hi, by simpa using h3⟩
    · grind
theorem cand_on_iff {l : List Tr} {k : Nat} {P : Pl} (h : P ∈ thrs l k) {i : Nat} (hi : i < l.length) : i ∈ P.s ↔ hgt k P.A P.B P.C (gt l i) = 0 := by
  have h1 := thr_s h
  unfold mkP at h1
  split at h1
  · cases h1
  · injection h1 with h1
    rw [← h1]
    show i ∈ onL _ _ _ _ _ _ ↔ _
    unfold onL
    rw [List.mem_filter, List.mem_range]
    simp [hi]
end Go.Proofs.YtgepmbjmaljgoaaGreatDoor.H
end
section
namespace Go.Proofs.YtgepmbjmaljgoaaGreatDoor.H
open Go Go.Vc Go.RowKit Go.Na
section
variable (n : Nat) (U V Z : Nat → Rat)
def dv (d0 d1 d2 : Rat) (i : Nat) : Rat := d0 + (d1 * U i + d2 * V i)
def hh (A B C : Rat) (i : Nat) : Rat := Z i - (A + (B * U i + C * V i))
def Feas (A B C : Rat) : Prop := ∀ i, i < n → 0 ≤ hh U V Z A B C i
end
variable {n : Nat} {U V Z : Nat → Rat}
theorem min_ex {p : Nat → Prop} (r : Nat → Rat) : ∀ n, (∃ i, i < n ∧ p i) → ∃ i, i < n ∧ p i ∧ ∀ j, j < n → p j → r i ≤ r j
  | 0, h => by obtain ⟨i, hi, _⟩ := h; omega
  | n + 1, h => by
    by_cases h1 : ∃ i, i < n ∧ p i
    · obtain ⟨i, hi, hp, hm⟩ := min_ex r n h1
      by_cases hn : p n ∧ r n < r i
      · refine ⟨n, by omega, hn.1, fun j hj hpj => ?_⟩
        by_cases hjn : j = n
        · subst hjn; exact Rat.le_refl
        · have := hm j (by omega) hpj
          have := hn.2
          grind
      · refine ⟨i, by omega, hp, fun j hj hpj => ?_⟩
        by_cases hjn : j = n
        · subst hjn
          have : ¬ r j < r i := fun h => hn ⟨hpj, h⟩
          grind
        · exact hm j (by omega) hpj
    · obtain ⟨i, hi, hp⟩ := h
      have : i = n := by
        by_cases e : i = n
        · exact e
        · exact absurd ⟨i, by omega, hp⟩ h1
      subst this
      refine ⟨i, by omega, hp, fun j hj hpj => ?_⟩
      have : j = i := by
        by_cases e : j = i
        · exact e
        · exact absurd ⟨j, by omega, hpj⟩ h1
      subst this
      exact Rat.le_refl
theorem hh_move (A B C t d0 d1 d2 : Rat) (i : Nat) : hh U V Z (A + t * d0) (B + t * d1) (C + t * d2) i = hh U V Z A B C i - t * dv U V d0 d1 d2 i := by
  unfold hh dv; grind
theorem step_up {A B C d0 d1 d2 : Rat} (hf : Feas n U V Z A B C) (hd : ∃ i, i < n ∧ 0 < dv U V d0 d1 d2 i) (hc : ∀ i, i < n → hh U V Z A B C i = 0 → dv U V d0 d1 d2 i ≤ 0) :
    ∃ t : Rat, 0 < t ∧ Feas n U V Z (A + t * d0) (B + t * d1) (C + t * d2) ∧ ∃ i, i < n ∧ 0 < dv U V d0 d1 d2 i ∧ hh U V Z (A + t * d0) (B + t * d1) (C + t * d2) i = 0 := by
  obtain ⟨i, hi, hp, hm⟩ := min_ex (fun i => hh U V Z A B C i / dv U V d0 d1 d2 i) n hd
  have h0 := hf i hi
  have hne : hh U V Z A B C i ≠ 0 := fun e => by have := hc i hi e; grind
  have hpos : 0 < hh U V Z A B C i := by grind
  have key : hh U V Z A B C i / dv U V d0 d1 d2 i * dv U V d0 d1 d2 i = hh U V Z A B C i := by
    rw [Rat.div_def, Rat.mul_assoc, Rat.inv_mul_cancel _ (by grind), Rat.mul_one]
  refine ⟨hh U V Z A B C i / dv U V d0 d1 d2 i, ?_, fun j hj => ?_, i, hi, hp, ?_⟩
  · rw [Rat.lt_div_iff hp, Rat.zero_mul]; exact hpos
  · rw [hh_move]
    have hj0 := hf j hj
    have htp : 0 < hh U V Z A B C i / dv U V d0 d1 d2 i := by
      rw [Rat.lt_div_iff hp, Rat.zero_mul]; exact hpos
    have ht : 0 ≤ hh U V Z A B C i / dv U V d0 d1 d2 i := by grind
    by_cases hdj : 0 < dv U V d0 d1 d2 j
    · have h1 := hm j hj hdj
      have h2 : ¬ hh U V Z A B C j < hh U V Z A B C i / dv U V d0 d1 d2 i * dv U V d0 d1 d2 j := fun h => by
        rw [← Rat.div_lt_iff hdj] at h
        grind
      grind
    · have h2 : 0 ≤ hh U V Z A B C i / dv U V d0 d1 d2 i * (- dv U V d0 d1 d2 j) := Rat.mul_nonneg ht (by grind)
      grind
  · rw [hh_move, key]; grind
noncomputable def offN (n : Nat) (U V Z : Nat → Rat) (A B C : Rat) : Nat := ((List.range n).filter fun i => decide (hh U V Z A B C i ≠ 0)).length
theorem filter_len_lt {p q : Nat → Bool} : ∀ (l : List Nat), (∀ x ∈ l, q x = true → p x = true) → (∃ x, x ∈ l ∧ p x = true ∧ q x = false) → (l.filter q).length < (l.filter p).length
  | [], _, h => by obtain ⟨x, hx, _⟩ := h; cases hx
  | a :: l, h1, h2 => by
    have hle : ∀ l : List Nat, (∀ x ∈ l, q x = true → p x = true) → (l.filter q).length ≤ (l.filter p).length := by
      intro l
      induction l with
      | nil => intro _; simp
      | cons b l ih =>
        intro h
        have := ih (fun x hx => h x (by simp [hx]))
        simp only [List.filter_cons]
        cases hq : q b with
        | true => rw [h b (by simp) hq]; simp; omega
        | false => cases p b <;> simp <;> omega
    by_cases ha : p a = true ∧ q a = false
    · have := hle l (fun x hx => h1 x (by simp [hx]))
      simp only [List.filter_cons, ha.1, ha.2]
      simp; omega
    · obtain ⟨x, hx, hp, hq⟩ := h2
      have hxl : x ∈ l := by
        rcases List.mem_cons.1 hx with e | e
        · subst e; exact absurd ⟨hp, hq⟩ ha
        · exact e
      have := filter_len_lt l (fun x hx => h1 x (by simp [hx])) ⟨x, hxl, hp, hq⟩
      simp only [List.filter_cons]
      cases hqa : q a with
      | true => rw [h1 a (by simp) hqa]; simp; omega
      | false => cases p a <;> simp <;> omega
theorem vert {qx qy : Rat} (hq : ∀ d0 d1 d2 : Rat, 0 < d0 + (d1 * qx + d2 * qy) → ∃ i, i < n ∧ 0 < dv U V d0 d1 d2 i)
    (hnc : ∀ d0 d1 d2 : Rat, ¬ (d0 = 0 ∧ d1 = 0 ∧ d2 = 0) → ∃ i, i < n ∧ dv U V d0 d1 d2 i ≠ 0) : ∀ (m : Nat) (A B C : Rat), offN n U V Z A B C ≤ m → Feas n U V Z A B C →
    ∃ A' B' C', Feas n U V Z A' B' C' ∧ A + (B * qx + C * qy) ≤ A' + (B' * qx + C' * qy) ∧ ∀ d0 d1 d2 : Rat, (∀ i, i < n → hh U V Z A' B' C' i = 0 → dv U V d0 d1 d2 i = 0) → d0 = 0 ∧ d1 = 0 ∧ d2 = 0 := by
  intro m
  induction m with
  | zero =>
    intro A B C hm hf
    refine ⟨A, B, C, hf, Rat.le_refl, fun d0 d1 d2 hd => ?_⟩
    by_cases h0 : d0 = 0 ∧ d1 = 0 ∧ d2 = 0
    · exact h0
    · exfalso
      obtain ⟨i, hi, hne⟩ := hnc d0 d1 d2 h0
      apply hne
      refine hd i hi ?_
      have h1 : (List.range n).filter (fun i => decide (hh U V Z A B C i ≠ 0)) = [] := List.length_eq_zero_iff.1 (by unfold offN at hm; omega)
      have h2 := List.filter_eq_nil_iff.1 h1 i (List.mem_range.2 hi)
      simpa using h2
  | succ m ih =>
    intro A B C hm hf
    by_cases hall : ∀ d0 d1 d2 : Rat, (∀ i, i < n → hh U V Z A B C i = 0 → dv U V d0 d1 d2 i = 0) → d0 = 0 ∧ d1 = 0 ∧ d2 = 0
    · exact ⟨A, B, C, hf, Rat.le_refl, hall⟩
    · have hex : ∃ d0 d1 d2 : Rat, (∀ i, i < n → hh U V Z A B C i = 0 → dv U V d0 d1 d2 i = 0) ∧ ¬ (d0 = 0 ∧ d1 = 0 ∧ d2 = 0) := by
        apply Classical.byContradiction
        intro hno
        apply hall
        intro d0 d1 d2 hd
        apply Classical.byContradiction
        intro h0
        exact hno ⟨d0, d1, d2, hd, h0⟩
      -- the same, turned so that q does not sink and some point is ahead
      have hex2 : ∃ d0 d1 d2 : Rat, (∀ i, i < n → hh U V Z A B C i = 0 → dv U V d0 d1 d2 i = 0) ∧ 0 ≤ d0 + (d1 * qx + d2 * qy) ∧ ∃ i, i < n ∧ 0 < dv U V d0 d1 d2 i := by
        obtain ⟨d0, d1, d2, hd, h0⟩ := hex
        have hneg : ∀ i, dv U V (-d0) (-d1) (-d2) i = - dv U V d0 d1 d2 i := fun i => by unfold dv; grind
        have hd' : ∀ i, i < n → hh U V Z A B C i = 0 → dv U V (-d0) (-d1) (-d2) i = 0 := fun i hi e => by rw [hneg, hd i hi e]; grind
        by_cases hp : 0 < d0 + (d1 * qx + d2 * qy)
        · exact ⟨d0, d1, d2, hd, by grind, hq d0 d1 d2 hp⟩
        · by_cases hn : 0 < -d0 + (-d1 * qx + -d2 * qy)
          · exact ⟨-d0, -d1, -d2, hd', by grind, hq _ _ _ hn⟩
          · have hz : d0 + (d1 * qx + d2 * qy) = 0 := by grind
            obtain ⟨i, hi, hne⟩ := hnc d0 d1 d2 h0
            by_cases hpi : 0 < dv U V d0 d1 d2 i
            · exact ⟨d0, d1, d2, hd, by grind, i, hi, hpi⟩
            · exact ⟨-d0, -d1, -d2, hd', by grind, i, hi, by rw [hneg]; grind⟩
      obtain ⟨d0, d1, d2, hd, hqd, hex3⟩ := hex2
      obtain ⟨t, ht, hf', i, hi, hdi, hz⟩ := step_up hf hex3 (fun i hi e => by rw [hd i hi e]; exact Rat.le_refl)
      have hlt : offN n U V Z (A + t * d0) (B + t * d1) (C + t * d2) < offN n U V Z A B C := by
        unfold offN
        refine filter_len_lt _ (fun x hx hqx => ?_) ⟨i, List.mem_range.2 hi, ?_, ?_⟩
        · simp only [decide_eq_true_eq] at hqx ⊢
          intro e
          apply hqx
          rw [hh_move, e, hd x (List.mem_range.1 hx) e]; grind
        · simp only [decide_eq_true_eq]
          intro e
          have := hd i hi e
          grind
        · simpa using hz
      obtain ⟨A', B', C', g1, g2, g3⟩ := ih _ _ _ (by omega) hf'
      refine ⟨A', B', C', g1, ?_, g3⟩
      have h1 : 0 ≤ t * (d0 + (d1 * qx + d2 * qy)) := Rat.mul_nonneg (by grind) hqd
      grind
end Go.Proofs.YtgepmbjmaljgoaaGreatDoor.H
end
section
namespace Go.Proofs.YtgepmbjmaljgoaaGreatDoor.H
open Go Go.Vc Go.RowKit
theorem cz_crs {k : Nat} (hk : k < 3) (a b c : Tr) : cz (nvP a b c) k ≠ 0 ↔ crs (plc k a) (plc k b) (plc k c) ≠ 0 := by
  rcases (by omega : k = 0 ∨ k = 1 ∨ k = 2) with rfl | rfl | rfl
  · unfold nvP tcr tsub crs trn sub plc ou ov cz
    dsimp only
    constructor <;> intro h e <;> apply h <;> grind
  · unfold nvP tcr tsub crs trn sub plc ou ov cz
    dsimp only
    constructor <;> intro h e <;> apply h <;> grind
  · unfold nvP tcr tsub crs trn sub plc ou ov cz
    dsimp only
    constructor <;> intro h e <;> apply h <;> grind
theorem crs_rev (a b c : Pt) : crs c b a = - crs a b c := by unfold crs trn sub; dsimp only; grind
theorem plane_uniq {k : Nat} {A B C A' B' C' : Rat} {a b c : Tr} (hn : crs (plc k a) (plc k b) (plc k c) ≠ 0) (h1 : hgt k A B C a = 0) (h2 : hgt k A B C b = 0) (h3 : hgt k A B C c = 0) (h1' : hgt k A' B' C' a = 0) (h2' : hgt k A' B' C' b = 0) (h3' : hgt k A' B' C' c = 0) :
    A = A' ∧ B = B' ∧ C = C' := by
  have hq : ((crs (plc k a) (plc k b) (plc k c) : Int) : Rat) ≠ 0 := by exact_mod_cast hn
  unfold crs trn sub at hq
  dsimp only at hq
  simp only [Rat.intCast_sub, Rat.intCast_mul] at hq
  unfold hgt at *
  generalize ((plc k a).x : Rat) = ax at *
  generalize ((plc k a).y : Rat) = ay at *
  generalize ((plc k b).x : Rat) = bx at *
  generalize ((plc k b).y : Rat) = by' at *
  generalize ((plc k c).x : Rat) = cx at *
  generalize ((plc k c).y : Rat) = cy at *
  generalize (cz a k : Rat) = az at *
  generalize (cz b k : Rat) = bz at *
  generalize (cz c k : Rat) = czz at *
  have e1 : (B - B') * (bx - ax) + (C - C') * (by' - ay) = 0 := by grind
  have e2 : (B - B') * (cx - ax) + (C - C') * (cy - ay) = 0 := by grind
  have f1 : (B - B') * ((bx - ax) * (cy - ay) - (by' - ay) * (cx - ax)) = 0 := by grind
  have f2 : (C - C') * ((bx - ax) * (cy - ay) - (by' - ay) * (cx - ax)) = 0 := by grind
  have g1 : B - B' = 0 := by
    rcases Rat.mul_eq_zero.1 f1 with h | h
    · exact h
    · exact absurd h hq
  have g2 : C - C' = 0 := by
    rcases Rat.mul_eq_zero.1 f2 with h | h
    · exact h
    · exact absurd h hq
  have gB : B = B' := by grind
  have gC : C = C' := by grind
  subst gB gC
  refine ⟨by grind, rfl, rfl⟩
theorem thr_on {l : List Tr} {k a b c : Nat} (hk : k < 3) (hn : cz (nvP (gt l a) (gt l b) (gt l c)) k ≠ 0) : hgt k (aP l k a b c) (bP l k a b c) (cP l k a b c) (gt l a) = 0 ∧ hgt k (aP l k a b c) (bP l k a b c) (cP l k a b c) (gt l b) = 0 ∧ hgt k (aP l k a b c) (bP l k a b c) (cP l k a b c) (gt l c) = 0 := by
  have hd : ∀ p q r : Tr, tdot (nvP p q r) q = tdot (nvP p q r) p ∧ tdot (nvP p q r) r = tdot (nvP p q r) p := by
    intro p q r
    unfold nvP tdot tcr tsub
    dsimp only
    constructor <;> grind
  have hu : ∀ q, tdot (nvP (gt l a) (gt l b) (gt l c)) q = tdot (nvP (gt l a) (gt l b) (gt l c)) (gt l a) → tdot (nP l k a b c) q = tdot (nP l k a b c) (gt l a) := by
    intro q h
    unfold nP upP
    split
    · unfold tdot at h ⊢
      dsimp only
      grind
    · exact h
  obtain ⟨d1, d2⟩ := hd (gt l a) (gt l b) (gt l c)
  exact ⟨(hgt_sgn hk hn _).2.2 rfl, (hgt_sgn hk hn _).2.2 (hu _ d1), (hgt_sgn hk hn _).2.2 (hu _ d2)⟩
theorem onL_mem {l : List Tr} {k : Nat} {A B C : Rat} {i : Nat} : i ∈ onL l k A B C l.length ↔ i < l.length ∧ hgt k A B C (gt l i) = 0 := by
  unfold onL
  rw [List.mem_filter, List.mem_range]
  simp
theorem onL_asc {l : List Tr} {k : Nat} {A B C : Rat} {n i j : Nat} (hij : i < j) (hj : j < (onL l k A B C n).length) : gi (onL l k A B C n) i < gi (onL l k A B C n) j := by
  have h : (onL l k A B C n).Pairwise (· < ·) := List.Pairwise.filter _ List.pairwise_lt_range
  rw [gi_eq (by omega), gi_eq hj]
  exact List.pairwise_iff_getElem.1 h i j (by omega) hj hij
theorem gp_plP {l : List Tr} {k : Nat} {s : List Nat} {i : Nat} (h : i < s.length) : gp (plP l k s) i = plc k (gt l (gi s i)) := by
  unfold gp plP gi
  simp [List.getD, h]
theorem cand_of {l : List Tr} {k : Nat} (hk : k < 3) {A B C : Rat} (hlow : lowB l k A B C l.length = false) (hs : strB (plP l k (onL l k A B C l.length)) = false) : (⟨A, B, C, onL l k A B C l.length⟩ : Pl) ∈ candP l k := by
  rw [(cand_ok l k).2]
  have hpl : (plP l k (onL l k A B C l.length)).length = (onL l k A B C l.length).length := by unfold plP; rw [List.length_map]
  unfold strB at hs
  rw [hpl] at hs
  rw [List.all_eq_false] at hs
  obtain ⟨i, hi, hs⟩ := hs
  rw [List.mem_range] at hi
  rw [Bool.not_eq_true, List.all_eq_false] at hs
  obtain ⟨j, hj, hs⟩ := hs
  rw [List.mem_range] at hj
  rw [Bool.not_eq_true, List.all_eq_false] at hs
  obtain ⟨m, hm, hs⟩ := hs
  rw [List.mem_range] at hm
  have hne : crs (gp (plP l k (onL l k A B C l.length)) i) (gp (plP l k (onL l k A B C l.length)) j) (gp (plP l k (onL l k A B C l.length)) m) ≠ 0 := by simpa using hs
  rw [gp_plP hi, gp_plP (by omega), gp_plP (by omega)] at hne
  have o1 := onL_asc (l := l) (k := k) (A := A) (B := B) (C := C) (n := l.length) hm (show j < _ by omega)
  have o2 := onL_asc (l := l) (k := k) (A := A) (B := B) (C := C) (n := l.length) hj hi
  have mem : ∀ t, t < (onL l k A B C l.length).length → gi (onL l k A B C l.length) t < l.length ∧ hgt k A B C (gt l (gi (onL l k A B C l.length) t)) = 0 := fun t ht => by
    rw [← onL_mem, gi_eq ht]; exact List.getElem_mem ht
  obtain ⟨l1, z1⟩ := mem m (by omega)
  obtain ⟨l2, z2⟩ := mem j (by omega)
  obtain ⟨l3, z3⟩ := mem i hi
  generalize gi (onL l k A B C l.length) m = a at *
  generalize gi (onL l k A B C l.length) j = b at *
  generalize gi (onL l k A B C l.length) i = c at *
  have hcr : crs (plc k (gt l a)) (plc k (gt l b)) (plc k (gt l c)) ≠ 0 := by rw [crs_rev] at hne; omega
  have hn := (cz_crs hk _ _ _).2 hcr
  obtain ⟨t1, t2, t3⟩ := thr_on hk hn
  obtain ⟨rfl, rfl, rfl⟩ := plane_uniq hcr z1 z2 z3 t1 t2 t3
  unfold thrs
  rw [List.mem_filterMap]
  refine ⟨(a, b, c), ?_, ?_⟩
  · rw [tI_eq, mem_tI]; exact ⟨o1, o2, l3⟩
  · show thr l k a b c = _
    unfold thr
    rw [if_neg hn]
    unfold mkP
    rw [if_neg (by rw [hlow]; decide)]
theorem cand_str {l : List Tr} {k : Nat} (hk : k < 3) {P : Pl} (h : P ∈ candP l k) : strB (plP l k P.s) = false := by
  obtain ⟨hs, _⟩ := cand_on hk h
  obtain ⟨⟨a, b, c⟩, ht, h3⟩ := List.mem_filterMap.1 ((cand_ok l k).2 P |>.1 h)
  rw [tI_eq, mem_tI] at ht
  obtain ⟨ht1, ht2, ht3⟩ := ht
  dsimp only at ht1 ht2 ht3
  have h3' : thr l k a b c = some P := h3
  unfold thr at h3'
  split at h3'
  · cases h3'
  · rename_i hz
    have hP : P.A = aP l k a b c ∧ P.B = bP l k a b c ∧ P.C = cP l k a b c := by
      unfold mkP at h3'
      split at h3'
      · cases h3'
      · injection h3' with h3'; rw [← h3']; exact ⟨rfl, rfl, rfl⟩
    obtain ⟨t1, t2, t3⟩ := thr_on hk hz
    rw [← hP.1, ← hP.2.1, ← hP.2.2] at t1 t2 t3
    cases hst : strB (plP l k P.s) with
    | false => rfl
    | true =>
      exfalso
      have hall := coll_all (coll_of_str hst)
      have hpl : (plP l k P.s).length = P.s.length := by unfold plP; rw [List.length_map]
      rw [hpl] at hall
      have pos : ∀ x, x < l.length → hgt k P.A P.B P.C (gt l x) = 0 → ∃ i, i < P.s.length ∧ gi P.s i = x := fun x hx hz => by
        have hm : x ∈ P.s := by rw [hs, onL_mem]; exact ⟨hx, hz⟩
        obtain ⟨i, hi, e⟩ := List.getElem_of_mem hm
        exact ⟨i, hi, by rw [gi_eq hi]; exact e⟩
      obtain ⟨i, hi, ei⟩ := pos a (by omega) t1
      obtain ⟨j, hj, ej⟩ := pos b (by omega) t2
      obtain ⟨m, hm, em⟩ := pos c ht3 t3
      have := hall i hi j hj m hm
      rw [gp_plP hi, gp_plP hj, gp_plP hm, ei, ej, em] at this
      exact (cz_crs hk _ _ _).1 hz this
end Go.Proofs.YtgepmbjmaljgoaaGreatDoor.H
end
section
namespace Go.Proofs.YtgepmbjmaljgoaaGreatDoor.H
open Go Go.Vc Go.RowKit
def fU (l : List Tr) (k : Nat) : Nat → Rat := fun i => ((plc k (gt l i)).x : Rat)
def fV (l : List Tr) (k : Nat) : Nat → Rat := fun i => ((plc k (gt l i)).y : Rat)
def fZ (l : List Tr) (k : Nat) : Nat → Rat := fun i => (cz (gt l i) k : Rat)
theorem hh_hgt (l : List Tr) (k : Nat) (A B C : Rat) (i : Nat) : hh (fU l k) (fV l k) (fZ l k) A B C i = hgt k A B C (gt l i) := rfl
theorem feas_iff {l : List Tr} {k : Nat} {A B C : Rat} : Feas l.length (fU l k) (fV l k) (fZ l k) A B C ↔ lowB l k A B C l.length = false := by
  unfold Feas lowB
  rw [List.any_eq_false]
  constructor
  · intro h i hi
    have := h i (List.mem_range.1 hi)
    rw [hh_hgt] at this
    simp only [decide_eq_true_eq]
    grind
  · intro h i hi
    have := h i (List.mem_range.2 hi)
    simp only [decide_eq_true_eq] at this
    rw [hh_hgt]
    grind
theorem line_of_coll {L : List Pt} (h : collB L = true) : ∃ d0 d1 d2 : Rat, ¬ (d0 = 0 ∧ d1 = 0 ∧ d2 = 0) ∧ ∀ i, i < L.length → d0 + (d1 * ((gp L i).x : Rat) + d2 * ((gp L i).y : Rat)) = 0 := by
  unfold collB at h
  split at h
  · rename_i hf
    refine ⟨((gp L 0).x : Rat), -1, 0, fun e => by have := e.2.1; grind, fun i hi => ?_⟩
    have : gp L i = gp L 0 := by
      have := List.find?_eq_none.1 hf i (List.mem_range.2 hi)
      simpa using this
    rw [this]; grind
  · rename_i m hf
    have hm := List.find?_some hf
    have hne : gp L m ≠ gp L 0 := by simpa using hm
    have hall : ∀ i, i < L.length → trn (sub (gp L m) (gp L 0)) (sub (gp L i) (gp L 0)) = 0 := fun i hi => by
      have := List.all_eq_true.1 h i (List.mem_range.2 hi)
      simpa using this
    generalize gp L m = b at *
    generalize gp L 0 = a at *
    refine ⟨((b.y : Rat) - a.y) * a.x - ((b.x : Rat) - a.x) * a.y, -((b.y : Rat) - a.y), (b.x : Rat) - a.x, fun e => ?_, fun i hi => ?_⟩
    · obtain ⟨_, e1, e2⟩ := e
      apply hne
      have f1 : (b.y : Rat) = a.y := by grind
      have f2 : (b.x : Rat) = a.x := by grind
      have g1 : b.y = a.y := by exact_mod_cast f1
      have g2 : b.x = a.x := by exact_mod_cast f2
      obtain ⟨bx, by'⟩ := b
      obtain ⟨ax, ay⟩ := a
      dsimp only at g1 g2
      rw [g1, g2]
    · have h1 := hall i hi
      unfold trn sub at h1
      dsimp only at h1
      have h2 : (((b.x - a.x) * ((gp L i).y - a.y) - (b.y - a.y) * ((gp L i).x - a.x) : Int) : Rat) = 0 := by rw [h1]; rfl
      simp only [Rat.intCast_sub, Rat.intCast_mul] at h2
      grind
theorem str_of_line {L : List Pt} {d0 d1 d2 : Rat} (hne : ¬ (d0 = 0 ∧ d1 = 0 ∧ d2 = 0)) (h : ∀ i, i < L.length → d0 + (d1 * ((gp L i).x : Rat) + d2 * ((gp L i).y : Rat)) = 0) : strB L = true := by
  unfold strB
  simp only [List.all_eq_true, List.mem_range, decide_eq_true_eq]
  intro i hi j hj m hm
  have h1 := h i hi
  have h2 := h j (by omega)
  have h3 := h m (by omega)
  have hc : ((crs (gp L i) (gp L j) (gp L m) : Int) : Rat) = 0 := by
    unfold crs trn sub
    dsimp only
    simp only [Rat.intCast_sub, Rat.intCast_mul]
    generalize ((gp L i).x : Rat) = ax at *
    generalize ((gp L i).y : Rat) = ay at *
    generalize ((gp L j).x : Rat) = bx at *
    generalize ((gp L j).y : Rat) = by' at *
    generalize ((gp L m).x : Rat) = cx at *
    generalize ((gp L m).y : Rat) = cy at *
    have e1 : d1 * (bx - ax) + d2 * (by' - ay) = 0 := by grind
    have e2 : d1 * (cx - ax) + d2 * (cy - ay) = 0 := by grind
    have f1 : d1 * ((bx - ax) * (cy - ay) - (by' - ay) * (cx - ax)) = 0 := by grind
    have f2 : d2 * ((bx - ax) * (cy - ay) - (by' - ay) * (cx - ax)) = 0 := by grind
    by_cases g1 : d1 = 0
    · by_cases g2 : d2 = 0
      · exfalso; apply hne; refine ⟨?_, g1, g2⟩; rw [g1, g2] at h1; grind
      · rcases Rat.mul_eq_zero.1 f2 with h | h
        · exact absurd h g2
        · exact h
    · rcases Rat.mul_eq_zero.1 f1 with h | h
      · exact absurd h g1
      · exact h
  exact_mod_cast hc
theorem max_ex {α : Type} (f : α → Rat) : ∀ (L : List α), L ≠ [] → ∃ P, P ∈ L ∧ ∀ Q ∈ L, f Q ≤ f P
  | [], h => absurd rfl h
  | [a], _ => ⟨a, by simp, fun Q hQ => by have : Q = a := by simpa using hQ
                                          rw [this]; exact Rat.le_refl⟩
  | a :: b :: L, _ => by
    obtain ⟨P, hP, hm⟩ := max_ex f (b :: L) (by simp)
    by_cases h : f P < f a
    · refine ⟨a, by simp, fun Q hQ => ?_⟩
      rcases List.mem_cons.1 hQ with e | e
      · rw [e]; exact Rat.le_refl
      · have := hm Q e; grind
    · refine ⟨P, List.mem_cons_of_mem _ hP, fun Q hQ => ?_⟩
      rcases List.mem_cons.1 hQ with e | e
      · rw [e]; grind
      · exact hm Q e
theorem cand_above {l : List Tr} {k : Nat} (hk : k < 3) (hs : strB (plcs l k) = false) {qx qy : Rat} (hq : ∀ d0 d1 d2 : Rat, 0 < d0 + (d1 * qx + d2 * qy) → ∃ i, i < l.length ∧ 0 < dv (fU l k) (fV l k) d0 d1 d2 i)
    {A B C : Rat} (hf : Feas l.length (fU l k) (fV l k) (fZ l k) A B C) : ∃ P, P ∈ candP l k ∧ A + (B * qx + C * qy) ≤ P.A + (P.B * qx + P.C * qy) := by
  have hnc : ∀ d0 d1 d2 : Rat, ¬ (d0 = 0 ∧ d1 = 0 ∧ d2 = 0) → ∃ i, i < l.length ∧ dv (fU l k) (fV l k) d0 d1 d2 i ≠ 0 := by
    intro d0 d1 d2 hne
    apply Classical.byContradiction
    intro hno
    have : strB (plcs l k) = true := str_of_line hne (fun i hi => by
      rw [plcs_len] at hi
      rw [gp_plcs hi]
      apply Classical.byContradiction
      intro h
      exact hno ⟨i, hi, h⟩)
    rw [hs] at this; cases this
  obtain ⟨A', B', C', h1, h2, h3⟩ := vert hq hnc _ A B C (Nat.le_refl _) hf
  refine ⟨⟨A', B', C', onL l k A' B' C' l.length⟩, cand_of hk (feas_iff.1 h1) ?_, h2⟩
  cases hst : strB (plP l k (onL l k A' B' C' l.length)) with
  | false => rfl
  | true =>
    exfalso
    obtain ⟨d0, d1, d2, hne, hd⟩ := line_of_coll (by rw [← coll_str]; exact hst)
    refine hne (h3 d0 d1 d2 fun i hi he => ?_)
    rw [hh_hgt] at he
    obtain ⟨j, hj, e⟩ := List.getElem_of_mem (onL_mem.2 ⟨hi, he⟩)
    have := hd j (by unfold plP; rw [List.length_map]; exact hj)
    rw [gp_plP hj, gi_eq hj, e] at this
    exact this
theorem feas_low {l : List Tr} {k : Nat} (hR : RT l) : Feas l.length (fU l k) (fV l k) (fZ l k) (-100000) 0 0 := by
  intro i hi
  have h := ((hR i).cz k).1
  have h' : ((-100000 : Int) : Rat) ≤ (cz (gt l i) k : Rat) := Rat.intCast_le_intCast.2 h
  unfold hh fZ
  have e : ((-100000 : Int) : Rat) = -100000 := by decide +kernel
  rw [e] at h'
  grind
theorem bears_ex {l : List Tr} {k : Nat} (hk : k < 3) (hR : RT l) (hs : strB (plcs l k) = false) (qx qy : Rat) (hq : ∀ d0 d1 d2 : Rat, 0 < d0 + (d1 * qx + d2 * qy) → ∃ i, i < l.length ∧ 0 < dv (fU l k) (fV l k) d0 d1 d2 i) :
    ∃ P, P ∈ candP l k ∧ ∀ d0 d1 d2 : Rat, (∀ i, i ∈ P.s → dv (fU l k) (fV l k) d0 d1 d2 i ≤ 0) → d0 + (d1 * qx + d2 * qy) ≤ 0 := by
  obtain ⟨P0, hP0, _⟩ := cand_above hk hs hq (feas_low hR)
  obtain ⟨P, hP, hmax⟩ := max_ex (fun P : Pl => P.A + (P.B * qx + P.C * qy)) (candP l k) (List.ne_nil_of_mem hP0)
  refine ⟨P, hP, fun d0 d1 d2 hd => ?_⟩
  by_cases hp : 0 < d0 + (d1 * qx + d2 * qy)
  · exfalso
    have hf : Feas l.length (fU l k) (fV l k) (fZ l k) P.A P.B P.C := fun i hi => by rw [hh_hgt]; exact cand_up (cand_thrs hP) hi
    obtain ⟨t, ht, hf', _⟩ := step_up hf (hq d0 d1 d2 hp) (fun i hi e => hd i ((cand_on_iff (cand_thrs hP) hi).2 e))
    obtain ⟨P', hP', hle⟩ := cand_above hk hs hq hf'
    have := hmax P' hP'
    have h1 : 0 < t * (d0 + (d1 * qx + d2 * qy)) := Rat.mul_pos ht hp
    grind
  · grind
theorem cand_some {l : List Tr} {k : Nat} (hk : k < 3) (hR : RT l) (hs : strB (plcs l k) = false) : candP l k ≠ [] := by
  have hl : 0 < l.length := by
    cases l with
    | nil => simp [strB, plcs] at hs
    | cons a l => simp
  obtain ⟨P, hP, _⟩ := cand_above hk hs (qx := fU l k 0) (qy := fV l k 0) (fun d0 d1 d2 h => ⟨0, hl, h⟩) (feas_low hR)
  exact List.ne_nil_of_mem hP
end Go.Proofs.YtgepmbjmaljgoaaGreatDoor.H
end
section
namespace Go.Proofs.YtgepmbjmaljgoaaGreatDoor.H.G
open Go.Vc
def lf (α β : Int) (a b : Pt) : Int := α * (b.x - a.x) + β * (b.y - a.y)
theorem id3 (α β : Int) (p a b c : Pt) : crs p b c * lf α β p a + crs p c a * lf α β p b + crs p a b * lf α β p c = 0 := by
  simp only [crs, trn, sub, lf]; grind
theorem crs_swap (a b c : Pt) : crs a c b = - crs a b c := by simp only [crs, trn, sub]; grind
theorem crs_rot (a b c : Pt) : crs b c a = crs a b c := by simp only [crs, trn, sub]; grind
theorem crs_rot2 (a b c : Pt) : crs c a b = crs a b c := by simp only [crs, trn, sub]; grind
theorem crs_flip (a b c : Pt) : crs b a c = - crs a b c := by simp only [crs, trn, sub]; grind
theorem crs_sum (p a b c : Pt) : crs a b c = crs p a b + crs p b c + crs p c a := by simp only [crs, trn, sub]; grind
theorem crs_same (a b : Pt) : crs a a b = 0 := by simp only [crs, trn, sub]; grind
theorem crs_same2 (a b : Pt) : crs a b b = 0 := by simp only [crs, trn, sub]; grind
theorem crs_same3 (a b : Pt) : crs a b a = 0 := by simp only [crs, trn, sub]; grind
theorem lf_self (α β : Int) (a : Pt) : lf α β a a = 0 := by simp only [lf]; grind
theorem lf_anti (α β : Int) (a b : Pt) : lf α β b a = - lf α β a b := by simp only [lf]; grind
theorem lf_add (α β : Int) (a b c : Pt) : lf α β a c = lf α β a b + lf α β b c := by simp only [lf]; grind
theorem crs_lf (a b p : Pt) : crs a b p = lf (-(b.y - a.y)) (b.x - a.x) a p := by simp only [crs, trn, sub, lf]; grind
theorem pos_mul {a b : Int} (h : 0 < a) (k : 0 < b) : 0 < a * b := Int.mul_pos h k
theorem nn_mul {a b : Int} (h : 0 ≤ a) (k : 0 ≤ b) : 0 ≤ a * b := Int.mul_nonneg h k
theorem np_mul {a b : Int} (h : a ≤ 0) (k : 0 ≤ b) : a * b ≤ 0 := Int.mul_nonpos_of_nonpos_of_nonneg h k
theorem pn_mul {a b : Int} (h : 0 ≤ a) (k : b ≤ 0) : a * b ≤ 0 := Int.mul_nonpos_of_nonneg_of_nonpos h k
theorem nnn_mul {a b : Int} (h : a ≤ 0) (k : b ≤ 0) : 0 ≤ a * b := Int.mul_nonneg_of_nonpos_of_nonpos h k
theorem neg_mul' {a b : Int} (h : a < 0) (k : 0 < b) : a * b < 0 := Int.mul_neg_of_neg_of_pos h k
theorem mul_neg' {a b : Int} (h : 0 < a) (k : b < 0) : a * b < 0 := Int.mul_neg_of_pos_of_neg h k
theorem neg_neg' {a b : Int} (h : a < 0) (k : b < 0) : 0 < a * b := Int.mul_pos_of_neg_of_neg h k
theorem sg_nn {x y z a b c : Int} (h : x * a + y * b + z * c = 0) (ha : 0 < a) (hy : y * b ≤ 0) (hz : z * c ≤ 0) : 0 ≤ x := by
  rcases Int.lt_or_le x 0 with hx | hx
  · have := neg_mul' hx ha; omega
  · exact hx
theorem no_tri {α β : Int} {p a b c : Pt} (h0 : crs a b c ≠ 0) (hs : (0 ≤ crs a b p ∧ 0 ≤ crs b c p ∧ 0 ≤ crs c a p) ∨ (crs a b p ≤ 0 ∧ crs b c p ≤ 0 ∧ crs c a p ≤ 0))
    (ha : 0 < lf α β p a) (hb : 0 < lf α β p b) (hc : 0 < lf α β p c) : False := by
  have h := id3 α β p a b c
  have hsum := crs_sum p a b c
  rw [← crs_rot2 a b p, ← crs_rot2 b c p, ← crs_rot2 c a p] at hs
  rcases hs with ⟨h1, h2, h3⟩ | ⟨h1, h2, h3⟩
  · have e1 := nn_mul h2 (Int.le_of_lt ha)
    have e2 := nn_mul h3 (Int.le_of_lt hb)
    have e3 := nn_mul h1 (Int.le_of_lt hc)
    have z1 : crs p b c = 0 := by
      rcases Int.lt_or_le 0 (crs p b c) with hx | hx
      · have := pos_mul hx ha; omega
      · omega
    have z2 : crs p c a = 0 := by
      rcases Int.lt_or_le 0 (crs p c a) with hx | hx
      · have := pos_mul hx hb; omega
      · omega
    have z3 : crs p a b = 0 := by
      rcases Int.lt_or_le 0 (crs p a b) with hx | hx
      · have := pos_mul hx hc; omega
      · omega
    omega
  · have e1 := np_mul h2 (Int.le_of_lt ha)
    have e2 := np_mul h3 (Int.le_of_lt hb)
    have e3 := np_mul h1 (Int.le_of_lt hc)
    have z1 : crs p b c = 0 := by
      rcases Int.lt_or_le (crs p b c) 0 with hx | hx
      · have := neg_mul' hx ha; omega
      · omega
    have z2 : crs p c a = 0 := by
      rcases Int.lt_or_le (crs p c a) 0 with hx | hx
      · have := neg_mul' hx hb; omega
      · omega
    have z3 : crs p a b = 0 := by
      rcases Int.lt_or_le (crs p a b) 0 with hx | hx
      · have := neg_mul' hx hc; omega
      · omega
    omega
theorem dot_sq (a : Pt) : 0 ≤ dot a a := by
  simp only [dot]
  have h1 : 0 ≤ a.x * a.x := by rcases Int.le_total 0 a.x with h | h; exact nn_mul h h; exact nnn_mul h h
  have h2 : 0 ≤ a.y * a.y := by rcases Int.le_total 0 a.y with h | h; exact nn_mul h h; exact nnn_mul h h
  omega
theorem sq_zero {a : Int} (h : a * a ≤ 0) : a = 0 := by
  rcases Int.lt_trichotomy a 0 with h1 | h1 | h1
  · have := neg_neg' h1 h1; omega
  · exact h1
  · have := pos_mul h1 h1; omega
theorem sq_nn (a : Int) : 0 ≤ a * a := by
  rcases Int.le_total 0 a with h | h
  · exact nn_mul h h
  · exact nnn_mul h h
theorem dot_sq_zero {a : Pt} (h : dot a a ≤ 0) : a = ⟨0, 0⟩ := by
  simp only [dot] at h
  have h1 := sq_nn a.x
  have h2 := sq_nn a.y
  have h3 := sq_zero (show a.x * a.x ≤ 0 by omega)
  have h4 := sq_zero (show a.y * a.y ≤ 0 by omega)
  cases a; simp at h3 h4; simp [h3, h4]
theorem par_id (α β : Int) (a b p : Pt) (h : crs a b p = 0) : lf α β p a * dot (sub b p) (sub b p) = lf α β p b * dot (sub a p) (sub b p) := by
  have h2 : (b.x - a.x) * (p.y - a.y) - (b.y - a.y) * (p.x - a.x) = 0 := h
  simp only [lf, dot, sub]
  grind
theorem no_seg {α β : Int} {p a b : Pt} (h0 : crs a b p = 0) (hd : dot (sub a p) (sub b p) ≤ 0) (ha : 0 < lf α β p a) (hb : 0 < lf α β p b) : False := by
  have h := par_id α β a b p h0
  have h1 := pn_mul (Int.le_of_lt hb) hd
  have h2 := dot_sq (sub b p)
  have h3 : dot (sub b p) (sub b p) ≠ 0 := fun e => by
    have e2 := dot_sq_zero (a := sub b p) (by omega)
    simp only [sub, Pt.mk.injEq] at e2
    have : lf α β p b = 0 := by simp only [lf, e2.1, e2.2]; simp
    omega
  have := pos_mul ha (show 0 < dot (sub b p) (sub b p) by omega)
  omega
end Go.Proofs.YtgepmbjmaljgoaaGreatDoor.H.G
end
section
namespace Go.Proofs.YtgepmbjmaljgoaaGreatDoor.H.G
open Go.Vc
section
variable (l : List Pt) (α β : Int)
def EdgesL (P : List Nat) : List Nat → Prop
  | b :: a :: r => (∀ p ∈ P, 0 ≤ crs (gp l a) (gp l b) (gp l p)) ∧ EdgesL P (a :: r)
  | _ => True
def TurnsL : List Nat → Prop
  | c :: b :: a :: r => 0 < crs (gp l a) (gp l b) (gp l c) ∧ TurnsL (b :: a :: r)
  | _ => True
def IncL : List Nat → Prop
  | b :: a :: r => 0 < lf α β (gp l a) (gp l b) ∧ IncL (a :: r)
  | _ => True
def BotL (P : List Nat) : List Nat → Prop
  | [a] => ∀ p ∈ P, 0 ≤ lf α β (gp l a) (gp l p)
  | _ :: r => BotL P r
  | [] => True
structure Inv (P st : List Nat) : Prop where
  sub : ∀ x ∈ st, x ∈ P
  edges : EdgesL l P st
  turns : TurnsL l st
  inc : IncL l α β st
  bot : BotL l α β P st
def TopL (i : Nat) (P : List Nat) : List Nat → Prop
  | b :: _ => ∀ p ∈ P, 0 < lf α β (gp l b) (gp l p) → 0 ≤ crs (gp l b) (gp l i) (gp l p)
  | [] => True
def TurnT (i : Nat) : List Nat → Prop
  | b :: a :: _ => 0 < crs (gp l a) (gp l b) (gp l i)
  | _ => True
end
variable {l : List Pt} {α β : Int}
theorem Inv.tail {P : List Nat} {b a : Nat} {r : List Nat} (h : Inv l α β P (b :: a :: r)) : Inv l α β P (a :: r) :=
  ⟨fun x hx => h.sub x (List.mem_cons_of_mem _ hx), h.edges.2, by have := h.turns; cases r with | nil => trivial | cons c r => exact this.2, h.inc.2, h.bot⟩
theorem pop_inv (i : Nat) {P : List Nat} (hi : ∀ p ∈ P, 0 < lf α β (gp l p) (gp l i)) : ∀ (st : List Nat), 0 < st.length → Inv l α β P st → TopL l α β i P st → 
    Inv l α β P (pop l i st) ∧ TopL l α β i P (pop l i st) ∧ TurnT l i (pop l i st) ∧ 0 < (pop l i st).length
  | [], h, _, _ => by simp at h
  | [x], _, h, ht => by simp only [pop]; exact ⟨h, ht, trivial, by simp⟩
  | b :: a :: r, _, h, ht => by
    unfold pop
    split
    · rename_i hc
      refine pop_inv i hi (a :: r) (by simp) h.tail ?_
      intro p hp hap
      have e1 := h.edges.1 p hp
      have hab := h.inc.1
      have hai := hi a (h.sub a (by simp))
      have h3 := id3 α β (gp l a) (gp l b) (gp l i) (gp l p)
      have s1 := crs_swap (gp l a) (gp l b) (gp l p)
      exact sg_nn h3 hab (np_mul (by omega) (Int.le_of_lt hai)) (np_mul (by omega) (Int.le_of_lt hap))
    · rename_i hc
      exact ⟨h, ht, by show 0 < _; omega, by simp⟩
theorem left_all (i : Nat) {P : List Nat} (hi : ∀ p ∈ P, 0 < lf α β (gp l p) (gp l i)) : ∀ (st : List Nat), Inv l α β P st → TurnT l i st → EdgesL l (P ++ [i]) st
  | [], _, _ => trivial
  | [_], _, _ => trivial
  | b :: a :: r, h, ht => by
    refine ⟨fun p hp => ?_, left_all i hi (a :: r) h.tail ?_⟩
    · rcases List.mem_append.1 hp with hp | hp
      · exact h.edges.1 p hp
      · simp at hp; subst hp; exact Int.le_of_lt ht
    · cases r with
      | nil => trivial
      | cons c r =>
        show 0 < crs (gp l c) (gp l a) (gp l i)
        have t1 : 0 < crs (gp l c) (gp l a) (gp l b) := h.turns.1
        have t2 : 0 < crs (gp l a) (gp l b) (gp l i) := ht
        have i1 : 0 < lf α β (gp l a) (gp l b) := h.inc.1
        have i2 : 0 < lf α β (gp l c) (gp l a) := h.inc.2.1
        have i3 := hi a (h.sub a (by simp))
        have h3 := id3 α β (gp l a) (gp l i) (gp l c) (gp l b)
        -- crs a c b * lf a i + crs a b i * lf a c + crs a i c * lf a b = 0
        have i4 : lf α β (gp l a) (gp l c) < 0 := by rw [lf_anti]; omega
        have s1 : crs (gp l a) (gp l c) (gp l b) < 0 := by rw [crs_flip]; omega
        have s2 : crs (gp l a) (gp l i) (gp l c) = crs (gp l c) (gp l a) (gp l i) := crs_rot _ _ _
        have m1 := neg_mul' s1 i3
        have m2 := mul_neg' t2 i4
        rw [s2] at h3
        rcases Int.lt_or_le 0 (crs (gp l c) (gp l a) (gp l i)) with hx | hx
        · exact hx
        · have := np_mul hx (Int.le_of_lt i1); omega
theorem bot_push (i : Nat) {P : List Nat} (hi : ∀ p ∈ P, 0 < lf α β (gp l p) (gp l i)) : ∀ (t : Nat) (r : List Nat), BotL l α β P (t :: r) → (∀ x ∈ t :: r, x ∈ P) → BotL l α β (P ++ [i]) (t :: r)
  | t, [], hb, hs => by
    intro p hp
    rcases List.mem_append.1 hp with hp | hp
    · exact hb p hp
    · simp at hp; subst hp; exact Int.le_of_lt (hi t (hs t (by simp)))
  | t, a :: r, hb, hs => bot_push i hi a r hb (fun x hx => hs x (List.mem_cons_of_mem _ hx))
theorem push_inv (i : Nat) {P : List Nat} (hi : ∀ p ∈ P, 0 < lf α β (gp l p) (gp l i)) (hinj : ∀ p ∈ P, ∀ q ∈ P, lf α β (gp l p) (gp l q) = 0 → p = q) : ∀ (st : List Nat), 0 < st.length → Inv l α β P st → TopL l α β i P st → TurnT l i st → Inv l α β (P ++ [i]) (i :: st)
  | [], h, _, _, _ => by simp at h
  | t :: r, _, h, hT, ht => by
    have hti := hi t (h.sub t (by simp))
    refine ⟨fun x hx => ?_, ⟨fun p hp => ?_, left_all i hi _ h ht⟩, ?_, ⟨hti, h.inc⟩, ?_⟩
    · rcases List.mem_cons.1 hx with rfl | hx
      · simp
      · exact List.mem_append_left _ (h.sub x hx)
    · rcases List.mem_append.1 hp with hp | hp
      · rcases Int.lt_or_le 0 (lf α β (gp l t) (gp l p)) with hx | hx
        · exact hT p hp hx
        · cases r with
          | nil =>
            have := h.bot p hp
            have e := hinj t (h.sub t (by simp)) p hp (by omega)
            subst e
            rw [crs_same3]; exact Int.le_refl 0
          | cons a r =>
            have e1 := h.edges.1 p hp
            have e2 : 0 < crs (gp l a) (gp l t) (gp l i) := ht
            have e3 : 0 < lf α β (gp l a) (gp l t) := h.inc.1
            have h3 := id3 α β (gp l t) (gp l a) (gp l i) (gp l p)
            -- crs t i p * lf t a + crs t p a * lf t i + crs t a i * lf t p = 0
            have i4 : lf α β (gp l t) (gp l a) < 0 := by rw [lf_anti]; omega
            have s1 : crs (gp l t) (gp l p) (gp l a) = crs (gp l a) (gp l t) (gp l p) := crs_rot _ _ _
            have s2 : crs (gp l t) (gp l a) (gp l i) = - crs (gp l a) (gp l t) (gp l i) := crs_flip _ _ _
            have m1 := nn_mul e1 (Int.le_of_lt hti)
            have m2 := nnn_mul (show crs (gp l t) (gp l a) (gp l i) ≤ 0 by omega) hx
            rw [s1] at h3
            rcases Int.lt_or_le (crs (gp l t) (gp l i) (gp l p)) 0 with hy | hy
            · have := neg_neg' hy i4; omega
            · exact hy
      · simp at hp; subst hp; rw [crs_same2]; exact Int.le_refl 0
    · cases r with
      | nil => trivial
      | cons a r => exact ⟨ht, h.turns⟩
    · show BotL l α β (P ++ [i]) (t :: r)
      exact bot_push i hi t r h.bot h.sub
def UpL (l : List Pt) (α β : Int) (v : List Nat) : Prop := v.Pairwise fun i k => 0 < lf α β (gp l i) (gp l k)
theorem UpL.inj {v : List Nat} (h : UpL l α β v) : ∀ p ∈ v, ∀ q ∈ v, lf α β (gp l p) (gp l q) = 0 → p = q := by
  intro p hp q hq e
  obtain ⟨i, hi, rfl⟩ := List.getElem_of_mem hp
  obtain ⟨k, hk, rfl⟩ := List.getElem_of_mem hq
  rcases Nat.lt_trichotomy i k with h1 | h1 | h1
  · have := List.pairwise_iff_getElem.1 h i k hi hk h1; omega
  · subst h1; rfl
  · have := List.pairwise_iff_getElem.1 h k i hk hi h1
    rw [lf_anti] at e; omega
theorem stk_snoc (l : List Pt) (v : List Nat) (i : Nat) : stk l (v ++ [i]) = i :: pop l i (stk l v) := by simp [stk, List.foldl_append]
theorem stk_inv : ∀ (n : Nat) (v : List Nat), v.length = n → UpL l α β v → Inv l α β v (stk l v) ∧ (∀ x, v.getLast? = some x → (stk l v).head? = some x)
  | 0, v, hn, _ => by
    have : v = [] := List.length_eq_zero_iff.1 hn
    subst this
    exact ⟨⟨by simp [stk], trivial, trivial, trivial, trivial⟩, by simp⟩
  | n + 1, v, hn, h => by
    obtain ⟨u, i, rfl⟩ : ∃ u i, v = u ++ [i] := ⟨v.dropLast, v.getLast (by intro e; simp [e] at hn), (List.dropLast_concat_getLast _).symm⟩
    have hu : UpL l α β u := (List.pairwise_append.1 h).1
    have hi : ∀ p ∈ u, 0 < lf α β (gp l p) (gp l i) := fun p hp => (List.pairwise_append.1 h).2.2 p hp i (by simp)
    obtain ⟨ih, ih2⟩ := stk_inv n u (by simpa using hn) hu
    refine ⟨?_, fun x hx => by simp at hx; simp [stk_snoc, hx]⟩
    rw [stk_snoc]
    rcases Nat.eq_zero_or_pos u.length with h0 | h0
    · have : u = [] := List.length_eq_zero_iff.1 h0
      subst this
      simp only [stk, List.foldl_nil, pop, List.nil_append]
      exact ⟨fun x hx => hx, trivial, trivial, trivial, fun p hp => by simp at hp; subst hp; rw [lf_self]; exact Int.le_refl 0⟩
    · have hne : u ≠ [] := by intro e; simp [e] at h0
      have hhd := ih2 (u.getLast hne) (List.getLast?_eq_some_getLast hne)
      have hst : 0 < (stk l u).length := by
        cases hs : stk l u with
        | nil => rw [hs] at hhd; simp at hhd
        | cons a r => simp
      have hT : TopL l α β i u (stk l u) := by
        cases hs : stk l u with
        | nil => trivial
        | cons b r =>
          rw [hs] at hhd
          simp at hhd
          intro p hp hlt
          exfalso
          obtain ⟨k, hk, rfl⟩ := List.getElem_of_mem hp
          have hb : b = u[u.length - 1] := by rw [hhd, List.getLast_eq_getElem]
          rw [hb] at hlt
          rcases Nat.lt_or_ge k (u.length - 1) with h1 | h1
          · have := List.pairwise_iff_getElem.1 hu k (u.length - 1) hk (by omega) h1
            rw [lf_anti] at hlt; omega
          · have : k = u.length - 1 := by omega
            subst this
            rw [lf_self] at hlt; omega
      obtain ⟨p1, p2, p3, p4⟩ := pop_inv i hi (stk l u) hst ih hT
      exact push_inv i hi hu.inj _ p4 p1 p2 p3
theorem pop_last (l : List Pt) (i : Nat) : ∀ (st : List Nat), (pop l i st).getLast? = st.getLast?
  | [] => by simp [pop]
  | [x] => by simp [pop]
  | b :: a :: r => by
    unfold pop
    split
    · rw [pop_last l i (a :: r)]; simp
    · rfl
theorem stk_last (l : List Pt) : ∀ (n : Nat) (v : List Nat), v.length = n → (stk l v).getLast? = v.head?
  | 0, v, hn => by
    have : v = [] := List.length_eq_zero_iff.1 hn
    subst this; rfl
  | n + 1, v, hn => by
    obtain ⟨u, i, rfl⟩ : ∃ u i, v = u ++ [i] := ⟨v.dropLast, v.getLast (by intro e; simp [e] at hn), (List.dropLast_concat_getLast _).symm⟩
    have ih := stk_last l n u (by simpa using hn)
    rw [stk_snoc]
    cases u with
    | nil => simp [stk, pop]
    | cons a u =>
      have e : (pop l i (stk l (a :: u))).getLast? = some a := by rw [pop_last, ih]; rfl
      cases hp : pop l i (stk l (a :: u)) with
      | nil => rw [hp] at e; simp at e
      | cons b r => rw [hp] at e; simpa using e
theorem span (p : Pt) : ∀ (st : List Nat) (z t : Nat), st.head? = some t → st.getLast? = some z → 2 ≤ st.length → 0 ≤ lf α β (gp l z) p → 0 ≤ lf α β p (gp l t) →
    ∃ r1 b a r2, st = r1 ++ b :: a :: r2 ∧ 0 ≤ lf α β (gp l a) p ∧ 0 ≤ lf α β p (gp l b)
  | [], _, _, h, _, _, _, _ => by simp at h
  | [x], _, _, _, _, h, _, _ => by simp at h
  | b :: a :: r, z, t, ht, hz, _, h1, h2 => by
    simp at ht; subst ht
    rcases Int.le_total 0 (lf α β (gp l a) p) with h3 | h3
    · exact ⟨[], b, a, r, rfl, h3, h2⟩
    · cases r with
      | nil => simp at hz; subst hz; exact ⟨[], b, a, [], rfl, h1, h2⟩
      | cons c r =>
        obtain ⟨r1, b', a', r2, e, e1, e2⟩ := span p (a :: c :: r) z a rfl (by simpa using hz) (by simp) h1 (by rw [lf_anti]; omega)
        exact ⟨b :: r1, b', a', r2, by rw [e]; rfl, e1, e2⟩
theorem edges_mid {P : List Nat} : ∀ (r1 : List Nat) {b a : Nat} {r2 : List Nat}, EdgesL l P (r1 ++ b :: a :: r2) → ∀ p ∈ P, 0 ≤ crs (gp l a) (gp l b) (gp l p)
  | [], _, _, _, h => h.1
  | [x], _, _, _, h => h.2.1
  | x :: y :: r1, _, _, _, h => edges_mid (y :: r1) h.2
theorem inc_mid : ∀ (r1 : List Nat) {b a : Nat} {r2 : List Nat}, IncL l α β (r1 ++ b :: a :: r2) → 0 < lf α β (gp l a) (gp l b)
  | [], _, _, _, h => h.1
  | [x], _, _, _, h => h.2.1
  | x :: y :: r1, _, _, _, h => inc_mid (y :: r1) h.2
theorem turns_mid : ∀ (r1 : List Nat) {c b a : Nat} {r2 : List Nat}, TurnsL l (r1 ++ c :: b :: a :: r2) → 0 < crs (gp l a) (gp l b) (gp l c)
  | [], _, _, _, _, h => h.1
  | [x], _, _, _, _, h => h.2.1
  | x :: y :: r1, _, _, _, _, h => by
    cases r1 with
    | nil => exact turns_mid [y] h.2
    | cons z r1 => exact turns_mid (y :: z :: r1) h.2
theorem inc_pair : ∀ (st : List Nat), IncL l α β st → st.Pairwise fun b a => 0 < lf α β (gp l a) (gp l b)
  | [], _ => .nil
  | [x], _ => by simp
  | b :: a :: r, h => by
    have ih := inc_pair (a :: r) h.2
    refine List.pairwise_cons.2 ⟨fun x hx => ?_, ih⟩
    rcases List.mem_cons.1 hx with rfl | hx
    · exact h.1
    · have := (List.pairwise_cons.1 ih).1 x hx
      have h1 := h.1
      rw [lf_add α β (gp l x) (gp l a) (gp l b)]; omega
end Go.Proofs.YtgepmbjmaljgoaaGreatDoor.H.G
end
section
namespace Go.Proofs.YtgepmbjmaljgoaaGreatDoor.H.G
open Go.Vc
theorem inH_iff (l : List Pt) (p : Pt) : inH l p = true ↔ ∃ i, i < l.length ∧ (gp l i = p ∨ ∃ j, j < i ∧ (btw p (gp l i) (gp l j) = true ∨ ∃ k, k < j ∧ wth p (gp l i) (gp l j) (gp l k) = true)) := by
  unfold inH
  simp only [List.any_eq_true, List.mem_range, Bool.or_eq_true, decide_eq_true_eq]
theorem sgn_nn {n : Int} : 0 ≤ sgn n ↔ 0 ≤ n := by
  unfold sgn; split
  · omega
  · split <;> omega
theorem sgn_np {n : Int} : sgn n ≤ 0 ↔ n ≤ 0 := by
  unfold sgn; split
  · omega
  · split <;> omega
def Tri (p a b c : Pt) : Prop := crs a b c ≠ 0 ∧ ((0 ≤ crs a b p ∧ 0 ≤ crs b c p ∧ 0 ≤ crs c a p) ∨ (crs a b p ≤ 0 ∧ crs b c p ≤ 0 ∧ crs c a p ≤ 0))
theorem wth_iff (p a b c : Pt) : wth p a b c = true ↔ Tri p a b c := by
  unfold wth Tri
  simp only [Bool.and_eq_true, Bool.or_eq_true, decide_eq_true_eq, sgn_nn, sgn_np, bne_iff_ne, ne_eq, and_assoc]
theorem btw_iff (p a b : Pt) : btw p a b = true ↔ crs a b p = 0 ∧ dot (sub a p) (sub b p) ≤ 0 := by
  unfold btw
  simp only [Bool.and_eq_true, beq_iff_eq, decide_eq_true_eq]
theorem Tri.rot {p a b c : Pt} (h : Tri p a b c) : Tri p b c a := by
  refine ⟨by rw [crs_rot]; exact h.1, ?_⟩
  rcases h.2 with ⟨h1, h2, h3⟩ | ⟨h1, h2, h3⟩
  · exact .inl ⟨h2, h3, h1⟩
  · exact .inr ⟨h2, h3, h1⟩
theorem Tri.flip {p a b c : Pt} (h : Tri p a b c) : Tri p b a c := by
  refine ⟨by have := h.1; rw [crs_flip]; omega, ?_⟩
  rw [crs_flip a b p, crs_flip c a p, crs_flip b c p]
  rcases h.2 with ⟨h1, h2, h3⟩ | ⟨h1, h2, h3⟩
  · exact .inr ⟨by omega, by omega, by omega⟩
  · exact .inl ⟨by omega, by omega, by omega⟩
theorem btw_comm (p a b : Pt) : btw p a b = btw p b a := by
  rw [Bool.eq_iff_iff, btw_iff, btw_iff, crs_flip a b p]
  have : dot (sub b p) (sub a p) = dot (sub a p) (sub b p) := by simp only [dot]; grind
  rw [this]; omega
theorem btw_self {p a : Pt} (h : btw p a a = true) : a = p := by
  have := dot_sq_zero ((btw_iff _ _ _).1 h).2
  simp only [sub, Pt.mk.injEq] at this
  cases a; cases p; simp at this ⊢; omega
theorem inH_eq {l : List Pt} {p : Pt} {i : Nat} (hi : i < l.length) (h : gp l i = p) : inH l p = true := (inH_iff l p).2 ⟨i, hi, .inl h⟩
theorem inH_seg {l : List Pt} {p : Pt} {i j : Nat} (hi : i < l.length) (hj : j < l.length) (h : btw p (gp l i) (gp l j) = true) : inH l p = true := by
  rcases Nat.lt_trichotomy j i with h1 | h1 | h1
  · exact (inH_iff l p).2 ⟨i, hi, .inr ⟨j, h1, .inl h⟩⟩
  · subst h1; exact inH_eq hi (btw_self h)
  · exact (inH_iff l p).2 ⟨j, hj, .inr ⟨i, h1, .inl (by rw [btw_comm]; exact h)⟩⟩
theorem inH_tri {l : List Pt} {p : Pt} {i j k : Nat} (hi : i < l.length) (hj : j < l.length) (hk : k < l.length) (h : Tri p (gp l i) (gp l j) (gp l k)) : inH l p = true := by
  have n1 : i ≠ j := fun e => by subst e; exact h.1 (crs_same _ _)
  have n2 : j ≠ k := fun e => by subst e; exact h.1 (crs_same2 _ _)
  have n3 : i ≠ k := fun e => by subst e; exact h.1 (crs_same3 _ _)
  have key : ∀ i j k : Nat, i < l.length → j < i → k < j → Tri p (gp l i) (gp l j) (gp l k) → inH l p = true := fun i j k h1 h2 h3 h4 =>
    (inH_iff l p).2 ⟨i, h1, .inr ⟨j, h2, .inr ⟨k, h3, (wth_iff _ _ _ _).2 h4⟩⟩⟩
  by_cases a1 : i < j
  · by_cases a2 : j < k
    · exact key k j i hk a2 a1 h.flip.rot.rot
    · by_cases a3 : i < k
      · exact key j k i hj (by omega) a3 h.rot
      · exact key j i k hj a1 (by omega) h.flip
  · by_cases a2 : j < k
    · by_cases a3 : i < k
      · exact key k i j hk a3 (by omega) h.rot.rot
      · exact key i k j hi (by omega) a2 h.flip.rot
    · exact key i j k hi (by omega) (by omega) h
theorem inH_core {l : List Pt} {p : Pt} (α β : Int) (h : inH l p = true) (hp : ∀ i, i < l.length → 0 < lf α β p (gp l i)) : False := by
  obtain ⟨i, hi, h⟩ := (inH_iff l p).1 h
  rcases h with h | ⟨j, hj, h | ⟨k, hk, h⟩⟩
  · have := hp i hi; rw [h, lf_self] at this; omega
  · have h := (btw_iff _ _ _).1 h
    exact no_seg h.1 h.2 (hp i hi) (hp j (by omega))
  · have h := (wth_iff _ _ _ _).1 h
    exact no_tri h.1 h.2 (hp i hi) (hp j (by omega)) (hp k (by omega))
theorem four {l : List Pt} {p : Pt} {u v u' v' : Nat} (α β : Int) (hu : u < l.length) (hv : v < l.length) (hu' : u' < l.length) (hv' : v' < l.length)
    (h1 : 0 < lf α β (gp l u) p) (h2 : 0 < lf α β p (gp l v)) (h3 : 0 < lf α β (gp l u') p) (h4 : 0 < lf α β p (gp l v'))
    (hlo : 0 ≤ crs (gp l u) (gp l v) p) (hup : 0 ≤ crs (gp l v') (gp l u') p) : inH l p = true := by
  -- three points, of which one lies on the other side of p than the other two
  have key : ∀ (s : Int) (a b c : Nat), a < l.length → b < l.length → c < l.length → (s = 1 ∨ s = -1) → 0 < s * lf α β (gp l a) p → 0 < s * lf α β p (gp l b) → 0 < s * lf α β p (gp l c) →
      0 ≤ crs (gp l a) (gp l b) p → crs (gp l a) (gp l c) p ≤ 0 → inH l p = true := by
    intro s a b c ha hb hc hs e1 e2 e3 c1 c2
    have e1' : 0 < lf (s * α) (s * β) (gp l a) p := by simpa [lf, Int.mul_add, Int.mul_assoc] using e1
    have e2' : 0 < lf (s * α) (s * β) p (gp l b) := by simpa [lf, Int.mul_add, Int.mul_assoc] using e2
    have e3' : 0 < lf (s * α) (s * β) p (gp l c) := by simpa [lf, Int.mul_add, Int.mul_assoc] using e3
    generalize s * α = A at *
    generalize s * β = B at *
    have h3 := id3 A B p (gp l a) (gp l b) (gp l c)
    -- crs p b c * lf p a + crs p c a * lf p b + crs p a b * lf p c = 0
    have r1 : crs p (gp l a) (gp l b) = crs (gp l a) (gp l b) p := (crs_rot2 _ _ _)
    have r2 : crs p (gp l c) (gp l a) = - crs (gp l a) (gp l c) p := by rw [crs_rot2 (gp l c) (gp l a) p, crs_flip]
    have r3 : crs p (gp l b) (gp l c) = crs (gp l b) (gp l c) p := (crs_rot2 _ _ _)
    have hA : lf A B p (gp l a) < 0 := by rw [lf_anti]; omega
    rw [r1, r2, r3] at h3
    have m1 := nn_mul c1 (Int.le_of_lt e3')
    have m2 := nn_mul (show 0 ≤ - crs (gp l a) (gp l c) p by omega) (Int.le_of_lt e2')
    have hbc : 0 ≤ crs (gp l b) (gp l c) p := by
      rcases Int.lt_or_le (crs (gp l b) (gp l c) p) 0 with hx | hx
      · have := neg_neg' hx hA; omega
      · exact hx
    have hca : 0 ≤ crs (gp l c) (gp l a) p := by rw [crs_flip]; omega
    by_cases h0 : crs (gp l a) (gp l b) (gp l c) = 0
    · -- all in a line
      have hs := crs_sum p (gp l a) (gp l b) (gp l c)
      rw [r1, r3, crs_rot2 (gp l c) (gp l a) p, h0] at hs
      have z : crs (gp l a) (gp l b) p = 0 := by omega
      refine inH_seg ha hb ((btw_iff _ _ _).2 ⟨z, ?_⟩)
      have h5 := par_id A B (gp l a) (gp l b) p z
      have h6 := dot_sq (sub (gp l b) p)
      rcases Int.lt_or_le 0 (dot (sub (gp l a) p) (sub (gp l b) p)) with hx | hx
      · have m3 := pos_mul e2' hx
        have m4 := np_mul (Int.le_of_lt hA) h6
        omega
      · exact hx
    · exact inH_tri ha hb hc ⟨h0, .inl ⟨c1, hbc, hca⟩⟩
  -- p over or under the way from u' to v
  rcases Int.le_total (crs (gp l u') (gp l v) p) 0 with hx | hx
  · -- to the right of u' -> v: with u, v, u'
    refine key (-1) v u' u hv hu' hu (.inr rfl) (by rw [lf_anti]; omega) (by rw [lf_anti]; omega) (by rw [lf_anti]; omega) ?_ ?_
    · rw [crs_flip]; omega
    · rw [crs_flip]; omega
  · refine key 1 u' v v' hu' hv hv' (.inl rfl) (by omega) (by omega) (by omega) hx ?_
    rw [crs_flip]; omega
end Go.Proofs.YtgepmbjmaljgoaaGreatDoor.H.G
end
section
namespace Go.Proofs.YtgepmbjmaljgoaaGreatDoor.H.G
open Go.Vc
theorem bef_iff (a b : Pt) : bef a b = true ↔ a.x < b.x ∨ (a.x = b.x ∧ a.y < b.y) := by
  simp [bef]
theorem bef_trans {a b c : Pt} (h : bef a b = true) (k : bef b c = true) : bef a c = true := by
  rw [bef_iff] at *; omega
theorem bef_tri (a b : Pt) : bef a b = true ∨ a = b ∨ bef b a = true := by
  simp only [bef_iff]; cases a; cases b; simp; omega
theorem bef_irr (a : Pt) : bef a a = false := by
  cases h : bef a a with
  | false => rfl
  | true => rw [bef_iff] at h; omega
theorem ordC_lt (l : List Pt) (i k : Nat) : decide (ordC l i k < 0) = bef (gp l i) (gp l k) := by
  rw [Bool.eq_iff_iff, decide_eq_true_eq, bef_iff]
  unfold ordC cmpI
  (repeat' split) <;> omega
def lxl (l : List Pt) (i k : Nat) : Prop := bef (gp l i) (gp l k) = true ∨ (gp l i = gp l k ∧ i < k)
theorem lxl_trans {l : List Pt} {i j k : Nat} (h : lxl l i j) (h' : lxl l j k) : lxl l i k := by
  rcases h with h | ⟨h, h1⟩ <;> rcases h' with h' | ⟨h', h2⟩
  · exact .inl (bef_trans h h')
  · exact .inl (by rw [← h']; exact h)
  · exact .inl (by rw [h]; exact h')
  · exact .inr ⟨h.trans h', by omega⟩
theorem gi_mid (A : List Nat) (x : Nat) (B : List Nat) : gi (A ++ x :: B) A.length = x := by simp [gi, List.getD]
theorem gi_mid' (A : List Nat) (a x : Nat) (B : List Nat) : gi (A ++ [a] ++ x :: B) A.length = a := by simp [gi, List.getD]
theorem swp_mid (A : List Nat) (a x : Nat) (B : List Nat) : swp (A ++ [a] ++ x :: B) (A.length + 1) A.length = A ++ x :: a :: B := by
  have e1 : gi (A ++ [a] ++ x :: B) A.length = a := gi_mid' _ _ _ _
  have e2 : gi (A ++ [a] ++ x :: B) (A.length + 1) = x := by
    have := gi_mid (A ++ [a]) x B
    simpa using this
  unfold swp
  rw [e1, e2]
  simp [List.set_append]
theorem sink_ins (lt : Nat → Nat → Bool) (i : Nat) : ∀ (n : Nat) (A B : List Nat), A.length = n → ∃ A1 A2, A = A1 ++ A2 ∧ sink lt 0 (A ++ i :: B) A.length = A1 ++ i :: (A2 ++ B) ∧ (∀ b ∈ A2, lt i b = true) ∧ (∀ x, A1.getLast? = some x → lt i x = false)
  | 0, A, B, hn => by
    have : A = [] := List.length_eq_zero_iff.1 hn
    subst this
    exact ⟨[], [], rfl, rfl, by simp, by simp⟩
  | n + 1, A, B, hn => by
    obtain ⟨A', a, rfl⟩ : ∃ u i, A = u ++ [i] := ⟨A.dropLast, A.getLast (by intro e; simp [e] at hn), (List.dropLast_concat_getLast _).symm⟩
    have e1 : gi (A' ++ [a] ++ i :: B) A'.length = a := gi_mid' _ _ _ _
    have e2 : gi (A' ++ [a] ++ i :: B) (A'.length + 1) = i := by
      have := gi_mid (A' ++ [a]) i B
      simpa using this
    have e3 : (A' ++ [a]).length = A'.length + 1 := by simp
    rw [e3, sink, e1, e2]
    by_cases hlt : lt i a = true
    · rw [if_pos (by simp [hlt]), swp_mid]
      obtain ⟨A1, A2, h1, h2, h3, h4⟩ := sink_ins lt i n A' (a :: B) (by simpa using hn)
      refine ⟨A1, A2 ++ [a], by rw [h1, List.append_assoc], by rw [h2]; simp, fun b hb => ?_, h4⟩
      rcases List.mem_append.1 hb with hb | hb
      · exact h3 b hb
      · simp at hb; rw [hb]; exact hlt
    · rw [if_neg (by simp [hlt])]
      exact ⟨A' ++ [a], [], by simp, by simp, by simp, fun x hx => by simp at hx; subst hx; simpa using hlt⟩
theorem pw_last {R : Nat → Nat → Prop} {A : List Nat} (h : A.Pairwise R) {x z : Nat} (hx : x ∈ A) (hz : A.getLast? = some z) : x = z ∨ R x z := by
  obtain ⟨k, hk, rfl⟩ := List.getElem_of_mem hx
  have hz2 : z = A[A.length - 1]'(by omega) := by
    rw [List.getLast?_eq_getElem?, List.getElem?_eq_getElem (by omega)] at hz
    simpa using hz.symm
  subst hz2
  rcases Nat.lt_or_ge k (A.length - 1) with h1 | h1
  · exact .inr (List.pairwise_iff_getElem.1 h k _ hk _ h1)
  · have : k = A.length - 1 := by omega
    subst this; exact .inl rfl
theorem srtTo_ok (l : List Pt) : ∀ (k : Nat), (srtTo l k).Pairwise (lxl l) ∧ ∀ x, x ∈ srtTo l k ↔ x < k
  | 0 => by simp [srtTo]
  | k + 1 => by
    obtain ⟨ih1, ih2⟩ := srtTo_ok l k
    rw [srtTo_succ]
    have hl := srtTo_len l k
    obtain ⟨A1, A2, h1, h2, h3, h4⟩ := sink_ins (fun i k => bef (gp l i) (gp l k)) k (srtTo l k).length (srtTo l k) [] rfl
    rw [hl] at h2
    rw [h2, List.append_nil]
    constructor
    · rw [h1] at ih1
      obtain ⟨p1, p2, p3⟩ := List.pairwise_append.1 ih1
      refine List.pairwise_append.2 ⟨p1, List.pairwise_cons.2 ⟨fun b hb => .inl (h3 b hb), p2⟩, fun a ha b hb => ?_⟩
      rcases List.mem_cons.1 hb with rfl | hb
      · cases hz : A1.getLast? with
        | none => rw [List.getLast?_eq_none_iff] at hz; subst hz; simp at ha
        | some z =>
          have hzm : z ∈ A1 := List.mem_of_getLast? hz
          have hzk : z < b := (ih2 z).1 (by rw [h1]; exact List.mem_append_left _ hzm)
          have hzi : lxl l z b := by
            have h5 := h4 z hz
            rcases bef_tri (gp l z) (gp l b) with h6 | h6 | h6
            · exact .inl h6
            · exact .inr ⟨h6, hzk⟩
            · simp only [h6] at h5; cases h5
          rcases pw_last p1 ha hz with rfl | h7
          · exact hzi
          · exact lxl_trans h7 hzi
      · exact p3 a ha b hb
    · intro x
      have := ih2 x
      rw [h1, List.mem_append] at this
      rw [List.mem_append, List.mem_cons]
      constructor
      · rintro (h | rfl | h)
        · have := this.1 (.inl h); omega
        · omega
        · have := this.1 (.inr h); omega
      · intro h
        by_cases hx : x = k
        · exact .inr (.inl hx)
        · rcases this.2 (by omega) with h | h
          · exact .inl h
          · exact .inr (.inr h)
theorem gi_app_l (C B : List Nat) {k : Nat} (h : k < C.length) : gi (C ++ B) k = gi C k := by
  simp only [gi, List.getD]; rw [List.getElem?_append_left h]
theorem swp_app (C B : List Nat) {i j : Nat} (hi : i < C.length) (hj : j < C.length) : swp (C ++ B) i j = swp C i j ++ B := by
  unfold swp
  rw [gi_app_l C B hi, gi_app_l C B hj, List.set_append_left _ _ hi, List.set_append_left _ _ (by simpa using hj)]
theorem sink_app (lt : Nat → Nat → Bool) (B : List Nat) : ∀ (j : Nat) (C : List Nat), j < C.length → sink lt 0 (C ++ B) j = sink lt 0 C j ++ B
  | 0, C, _ => rfl
  | j + 1, C, h => by
    rw [sink, sink, gi_app_l C B h, gi_app_l C B (by omega)]
    split
    · rw [swp_app C B h (by omega), sink_app lt B j _ (by rw [swp_len]; omega)]
    · rfl
theorem ordI_to (l : List Pt) : ∀ (k i : Nat), i + k = l.length → isortR (fun i k => bef (gp l i) (gp l k)) 0 l.length (srtTo l i ++ List.range' i k) i = srtTo l l.length
  | 0, i, h => by
    rw [isortR_end (by omega)]
    simp at h; subst h; simp
  | k + 1, i, h => by
    rw [isortR_step (by omega), List.range'_succ]
    have e : srtTo l i ++ i :: List.range' (i + 1) k = (srtTo l i ++ [i]) ++ List.range' (i + 1) k := by simp
    rw [e, sink_app _ _ _ _ (by simp [srtTo_len]), ← srtTo_succ]
    exact ordI_to l k (i + 1) (by omega)
theorem ordI_eq (l : List Pt) : ordI l = srtTo l l.length := by
  unfold ordI
  rw [show (fun i k => decide (ordC l i k < 0)) = (fun i k => bef (gp l i) (gp l k)) from funext fun i => funext fun k => ordC_lt l i k]
  cases h : l.length with
  | zero => rfl
  | succ n =>
    have := ordI_to l n 1 (by omega)
    rw [h] at this
    rw [← this]
    congr 1
    rw [List.range_eq_range', List.range'_succ]
    simp [srtTo, sink, List.range_succ]
structure CptOk (l : List Pt) (v : List Nat) (m : Nat) : Prop where
  up : (cptTo l v m).Pairwise fun i k => bef (gp l i) (gp l k) = true
  sub : ∀ x ∈ cptTo l v m, ∃ k, k < m ∧ gi v k = x
  cover : ∀ k, k < m → ∃ x ∈ cptTo l v m, gp l x = gp l (gi v k) ∧ x ≤ gi v k
  last : ∀ m', m = m' + 1 → ∀ x ∈ cptTo l v m, bef (gp l x) (gp l (gi v m')) = true ∨ gp l x = gp l (gi v m')
theorem cpt_ok (l : List Pt) {v : List Nat} (hv : v.Pairwise (lxl l)) : ∀ (m : Nat), m ≤ v.length → CptOk l v m
  | 0, _ => ⟨by simp [cptTo], by simp [cptTo], by simp, by simp⟩
  | m + 1, hm => by
    have ih := cpt_ok l hv m (by omega)
    have hs := cptTo_succ l v m
    by_cases hp : cptP l v m = true
    · rw [if_pos hp] at hs
      refine ⟨?_, ?_, ?_, ?_⟩
      · rw [hs]
        refine List.pairwise_append.2 ⟨ih.up, by simp, fun a ha b hb => ?_⟩
        simp at hb; subst hb
        match m, hp, ih, ha, hm with
        | 0, _, _, ha, _ => simp [cptTo] at ha
        | m + 1, hp, ih, ha, hm =>
          have hne : gp l (gi v (m + 1)) ≠ gp l (gi v m) := by simpa [cptP] using hp
          have hr := List.pairwise_iff_getElem.1 hv m (m + 1) (by omega) (by omega) (by omega)
          rw [← gi_eq, ← gi_eq] at hr
          have hb2 : bef (gp l (gi v m)) (gp l (gi v (m + 1))) = true := by
            rcases hr with h | ⟨h, _⟩
            · exact h
            · exact absurd h.symm hne
          rcases ih.last m rfl a ha with h | h
          · exact bef_trans h hb2
          · rw [h]; exact hb2
      · rw [hs]; intro x hx
        rcases List.mem_append.1 hx with hx | hx
        · obtain ⟨k, hk, e⟩ := ih.sub x hx; exact ⟨k, by omega, e⟩
        · simp at hx; exact ⟨m, by omega, hx.symm⟩
      · rw [hs]; intro k hk
        by_cases e : k = m
        · subst e; exact ⟨gi v k, by simp, rfl, Nat.le_refl _⟩
        · obtain ⟨x, hx, h⟩ := ih.cover k (by omega); exact ⟨x, List.mem_append_left _ hx, h⟩
      · intro m' e x hx
        obtain rfl : m = m' := by omega
        rw [hs] at hx
        rcases List.mem_append.1 hx with hx | hx
        · match m, hp, ih, hx, hm with
          | 0, _, _, hx, _ => simp [cptTo] at hx
          | m + 1, hp, ih, hx, hm =>
            have hne : gp l (gi v (m + 1)) ≠ gp l (gi v m) := by simpa [cptP] using hp
            have hr := List.pairwise_iff_getElem.1 hv m (m + 1) (by omega) (by omega) (by omega)
            rw [← gi_eq, ← gi_eq] at hr
            have hb2 : bef (gp l (gi v m)) (gp l (gi v (m + 1))) = true := by
              rcases hr with h | ⟨h, _⟩
              · exact h
              · exact absurd h.symm hne
            rcases ih.last m rfl x hx with h | h
            · exact .inl (bef_trans h hb2)
            · rw [h]; exact .inl hb2
        · simp at hx; subst hx; exact .inr rfl
    · rw [if_neg hp] at hs
      obtain ⟨hm0, heq⟩ : m ≠ 0 ∧ gp l (gi v m) = gp l (gi v (m - 1)) := by simpa [cptP] using hp
      obtain ⟨m', rfl⟩ : ∃ m', m = m' + 1 := ⟨m - 1, by omega⟩
      rw [Nat.add_sub_cancel] at heq
      refine ⟨by rw [hs]; exact ih.up, ?_, ?_, ?_⟩
      · rw [hs]; intro x hx; obtain ⟨k, hk, e⟩ := ih.sub x hx; exact ⟨k, by omega, e⟩
      · rw [hs]; intro k hk
        by_cases e : k = m' + 1
        · subst e
          obtain ⟨x, hx, h1, h2⟩ := ih.cover m' (by omega)
          have hr := List.pairwise_iff_getElem.1 hv m' (m' + 1) (by omega) (by omega) (by omega)
          rw [← gi_eq, ← gi_eq] at hr
          refine ⟨x, hx, by rw [h1, heq], ?_⟩
          rcases hr with h | ⟨_, h⟩
          · rw [heq, bef_irr] at h; cases h
          · omega
        · exact ih.cover k (by omega)
      · intro m'' e x hx
        obtain rfl : m' + 1 = m'' := by omega
        rw [hs] at hx
        rw [heq]
        exact ih.last m' rfl x hx
end Go.Proofs.YtgepmbjmaljgoaaGreatDoor.H.G
end
section
namespace Go.Proofs.YtgepmbjmaljgoaaGreatDoor.H.G
open Go.Vc
theorem bef_lf {a b : Pt} (ha : SmP a) (hb : SmP b) : bef a b = true ↔ 0 < lf 1000000 1 a b := by
  rw [bef_iff]; simp only [SmP, Sm] at ha hb; simp only [lf]; omega
def ChainE (l : List Pt) (P : List Nat) : List Nat → Prop
  | a :: b :: r => (∀ p ∈ P, 0 ≤ crs (gp l a) (gp l b) (gp l p)) ∧ ChainE l P (b :: r)
  | _ => True
theorem chain_join {l : List Pt} {P : List Nat} : ∀ (X : List Nat) {m : Nat} {t : List Nat}, ChainE l P (X ++ [m]) → ChainE l P (m :: t) → ChainE l P (X ++ m :: t)
  | [], _, _, _, h => h
  | [x], m, t, h1, h2 => ⟨h1.1, h2⟩
  | x :: y :: X, m, t, h1, h2 => ⟨h1.1, chain_join (y :: X) h1.2 h2⟩
theorem chain_of_edges {l : List Pt} {P : List Nat} : ∀ (st : List Nat), EdgesL l P st → ChainE l P st.reverse
  | [], _ => trivial
  | [x], _ => trivial
  | b :: a :: r, h => by
    have ih := chain_of_edges (a :: r) h.2
    simp only [List.reverse_cons, List.append_assoc, List.cons_append, List.nil_append] at ih ⊢
    exact chain_join r.reverse ih ⟨h.1, trivial⟩
theorem chain_at {l : List Pt} {P : List Nat} : ∀ (L : List Nat) (k : Nat), ChainE l P L → k + 1 < L.length → ∀ p ∈ P, 0 ≤ crs (gp l (gi L k)) (gp l (gi L (k + 1))) (gp l p)
  | a :: b :: r, 0, h, _ => h.1
  | a :: b :: r, k + 1, h, hk => by
    have := chain_at (b :: r) k h.2 (by simpa using hk)
    simpa [gi] using this
  | [], _, _, hk => by simp at hk
  | [_], _, _, hk => by simp at hk
structure Two (l : List Pt) (S lo up : List Nat) (p0 pm : Nat) : Prop where
  sm : ∀ i, SmP (gp l i)
  incS : UpL l 1000000 1 S
  ilo : Inv l 1000000 1 S lo
  iup : Inv l (-1000000) (-1) S up
  loH : lo.head? = some pm
  loL : lo.getLast? = some p0
  upH : up.head? = some p0
  upL : up.getLast? = some pm
  len1 : 2 ≤ lo.length
  len2 : 2 ≤ up.length
  p0m : ∀ p ∈ S, 0 ≤ lf 1000000 1 (gp l p0) (gp l p)
  pmm : ∀ p ∈ S, 0 ≤ lf 1000000 1 (gp l p) (gp l pm)
theorem UpL.neg {l : List Pt} {v : List Nat} (h : UpL l 1000000 1 v) : UpL l (-1000000) (-1) v.reverse := by
  unfold UpL
  rw [List.pairwise_reverse]
  exact h.imp fun {a b} hab => by simp only [lf] at hab ⊢; omega
theorem inv_rev {l : List Pt} {α β : Int} {P st : List Nat} (h : Inv l α β P.reverse st) : Inv l α β P st := by
  have he : ∀ st : List Nat, EdgesL l P.reverse st → EdgesL l P st := by
    intro st
    induction st with
    | nil => intro _; trivial
    | cons b r ih =>
      cases r with
      | nil => intro _; trivial
      | cons a r => exact fun h => ⟨fun p hp => h.1 p (List.mem_reverse.2 hp), ih h.2⟩
  have hb : ∀ st : List Nat, BotL l α β P.reverse st → BotL l α β P st := by
    intro st
    induction st with
    | nil => intro _; trivial
    | cons b r ih =>
      cases r with
      | nil => exact fun h p hp => h p (List.mem_reverse.2 hp)
      | cons a r => exact fun h => ih h
  exact ⟨fun x hx => List.mem_reverse.1 (h.sub x hx), he _ h.edges, h.turns, h.inc, hb _ h.bot⟩
theorem two_of {l : List Pt} {S : List Nat} (sm : ∀ i, SmP (gp l i)) (hS : UpL l 1000000 1 S) (h2 : 2 ≤ S.length) : ∃ p0 pm, S.head? = some p0 ∧ S.getLast? = some pm ∧ Two l S (stk l S) (stk l S.reverse) p0 pm := by
  obtain ⟨i1, i2⟩ := stk_inv S.length S rfl hS
  obtain ⟨j1, j2⟩ := stk_inv S.reverse.length S.reverse rfl hS.neg
  have k1 := stk_last l S.length S rfl
  have k2 := stk_last l S.reverse.length S.reverse rfl
  match S, h2 with
  | p0 :: q :: S, _ =>
    obtain ⟨pm, hpm⟩ : ∃ pm, (p0 :: q :: S).getLast? = some pm := ⟨_, List.getLast?_eq_some_getLast (by simp)⟩
    refine ⟨p0, pm, rfl, hpm, sm, hS, i1, inv_rev j1, i2 pm hpm, k1.trans rfl, j2 p0 (by simp), ?_, stk_len l _ (by simp), stk_len l _ (by simp), ?_, ?_⟩
    · rw [k2, List.head?_reverse]; exact hpm
    · intro p hp
      rcases List.mem_cons.1 hp with rfl | hp
      · rw [lf_self]; exact Int.le_refl 0
      · exact Int.le_of_lt ((List.pairwise_cons.1 hS).1 p hp)
    · intro p hp
      rcases pw_last hS hp hpm with rfl | h
      · rw [lf_self]; exact Int.le_refl 0
      · exact Int.le_of_lt h
theorem cross_zero {b a c p : Pt} (h1 : crs b c p = 0) (h2 : crs a b p = 0) (h3 : 0 < crs a b c) : p = b := by
  have e1 := id3 1 0 b a c p
  have e2 := id3 0 1 b a c p
  have r1 : crs b p a = crs a b p := crs_rot _ _ _
  have r2 : crs b a c = - crs a b c := crs_flip _ _ _
  rw [h1, r1, h2, r2] at e1 e2
  have z1 : crs a b c * lf 1 0 b p = 0 := by have : -crs a b c * lf 1 0 b p = - (crs a b c * lf 1 0 b p) := Int.neg_mul _ _; omega
  have z2 : crs a b c * lf 0 1 b p = 0 := by have : -crs a b c * lf 0 1 b p = - (crs a b c * lf 0 1 b p) := Int.neg_mul _ _; omega
  have w1 : lf 1 0 b p = 0 := by rcases Int.mul_eq_zero.1 z1 with h | h <;> omega
  have w2 : lf 0 1 b p = 0 := by rcases Int.mul_eq_zero.1 z2 with h | h <;> omega
  simp only [lf] at w1 w2
  cases p; cases b; simp at w1 w2 ⊢; omega
theorem crs_base (a b p : Pt) : crs a b p = lf (-(b.y - a.y)) (b.x - a.x) b p := by simp only [crs, trn, sub, lf]; grind
def Sup (l : List Pt) (S : List Nat) (x : Nat) : Prop := ∃ α β, ∀ p ∈ S, p ≠ x → 0 < lf α β (gp l x) (gp l p)
theorem lf_sum (α β α' β' : Int) (a b : Pt) : lf (α + α') (β + β') a b = lf α β a b + lf α' β' a b := by simp only [lf]; grind
theorem sup_mid {l : List Pt} {α β : Int} {S st r1 r2 : List Nat} {c b a : Nat} (hI : Inv l α β S st) (hinj : ∀ p ∈ S, ∀ q ∈ S, gp l p = gp l q → p = q) (e : st = r1 ++ c :: b :: a :: r2) : Sup l S b := by
  have h1 := edges_mid (l := l) (P := S) r1 (e ▸ hI.edges)
  have h2 := edges_mid (l := l) (P := S) (r1 ++ [c]) (b := b) (a := a) (r2 := r2) (by have := hI.edges; rw [e] at this; simpa using this)
  have h3 := turns_mid r1 (e ▸ hI.turns)
  have hb : b ∈ S := hI.sub b (by rw [e]; simp)
  refine ⟨-((gp l c).y - (gp l b).y) + -((gp l b).y - (gp l a).y), ((gp l c).x - (gp l b).x) + ((gp l b).x - (gp l a).x), fun p hp hne => ?_⟩
  rw [lf_sum, ← crs_lf, ← crs_base]
  have q1 := h1 p hp
  have q2 := h2 p hp
  rcases Int.lt_or_le 0 (crs (gp l b) (gp l c) (gp l p) + crs (gp l a) (gp l b) (gp l p)) with h | h
  · exact h
  · exact absurd (hinj p hp b hb (cross_zero (by omega) (by omega) h3)) hne
theorem mem_split3 {x : Nat} : ∀ {st : List Nat}, x ∈ st → st.head? ≠ some x → st.getLast? ≠ some x → ∃ r1 c a r2, st = r1 ++ c :: x :: a :: r2
  | [], h, _, _ => by simp at h
  | [y], h, h1, _ => by simp at h; subst h; simp at h1
  | y :: z :: r, h, h1, h2 => by
    rcases List.mem_cons.1 h with rfl | h
    · simp at h1
    · by_cases hz : z = x
      · subst hz
        cases r with
        | nil => simp at h2
        | cons a r => exact ⟨[], y, a, r, rfl⟩
      · obtain ⟨r1, c, a, r2, e⟩ := mem_split3 (st := z :: r) h (by simpa using hz) (by simpa using h2)
        exact ⟨y :: r1, c, a, r2, by rw [e]; rfl⟩
section
variable {l : List Pt} {S lo up : List Nat} {p0 pm : Nat}
theorem Two.inj (h : Two l S lo up p0 pm) : ∀ p ∈ S, ∀ q ∈ S, gp l p = gp l q → p = q := fun p hp q hq e => h.incS.inj p hp q hq (by rw [e, lf_self])
theorem Two.mem0 (h : Two l S lo up p0 pm) : p0 ∈ S := h.ilo.sub _ (List.mem_of_getLast? h.loL)
theorem Two.memM (h : Two l S lo up p0 pm) : pm ∈ S := h.iup.sub _ (List.mem_of_getLast? h.upL)
theorem Two.sup0 (h : Two l S lo up p0 pm) : Sup l S p0 := ⟨1000000, 1, fun p hp hne => by
  have h1 := h.p0m p hp
  rcases Int.lt_or_le 0 (lf 1000000 1 (gp l p0) (gp l p)) with h2 | h2
  · exact h2
  · exact absurd (h.incS.inj p0 h.mem0 p hp (by omega)).symm hne⟩
theorem Two.supM (h : Two l S lo up p0 pm) : Sup l S pm := ⟨-1000000, -1, fun p hp hne => by
  have h1 := h.pmm p hp
  have e : lf (-1000000) (-1) (gp l pm) (gp l p) = lf 1000000 1 (gp l p) (gp l pm) := by simp only [lf]; omega
  rw [e]
  rcases Int.lt_or_le 0 (lf 1000000 1 (gp l p) (gp l pm)) with h2 | h2
  · exact h2
  · exact absurd (h.incS.inj p hp pm h.memM (by omega)) hne⟩
theorem Two.sup (h : Two l S lo up p0 pm) {x : Nat} (hx : x ∈ lo ∨ x ∈ up) : Sup l S x := by
  by_cases e1 : x = p0
  · subst e1; exact h.sup0
  · by_cases e2 : x = pm
    · subst e2; exact h.supM
    · rcases hx with hx | hx
      · obtain ⟨r1, c, a, r2, e⟩ := mem_split3 hx (by rw [h.loH]; simp; exact fun e => e2 e.symm) (by rw [h.loL]; simp; exact fun e => e1 e.symm)
        exact sup_mid h.ilo h.inj e
      · obtain ⟨r1, c, a, r2, e⟩ := mem_split3 hx (by rw [h.upH]; simp; exact fun e => e1 e.symm) (by rw [h.upL]; simp; exact fun e => e2 e.symm)
        exact sup_mid h.iup h.inj e
theorem Two.apart (h : Two l S lo up p0 pm) {x : Nat} (h1 : x ∈ lo) (h2 : x ∈ up) : x = p0 ∨ x = pm := by
  by_cases e1 : x = p0
  · exact .inl e1
  · by_cases e2 : x = pm
    · exact .inr e2
    · exfalso
      obtain ⟨r1, c, a, r2, e⟩ := mem_split3 h1 (by rw [h.loH]; simp; exact fun e => e2 e.symm) (by rw [h.loL]; simp; exact fun e => e1 e.symm)
      obtain ⟨q1, c', a', q2, e'⟩ := mem_split3 h2 (by rw [h.upH]; simp; exact fun e => e1 e.symm) (by rw [h.upL]; simp; exact fun e => e2 e.symm)
      have ha : a ∈ S := h.ilo.sub a (by rw [e]; simp)
      have hc : c ∈ S := h.ilo.sub c (by rw [e]; simp)
      have ha' : a' ∈ S := h.iup.sub a' (by rw [e']; simp)
      have t1 := turns_mid r1 (e ▸ h.ilo.turns)
      have g1 := edges_mid (l := l) (P := S) (r1 ++ [c]) (b := x) (a := a) (r2 := r2) (by have := h.ilo.edges; rw [e] at this; simpa using this)
      have g2 := edges_mid (l := l) (P := S) r1 (e ▸ h.ilo.edges)
      have g3 := edges_mid (l := l) (P := S) (q1 ++ [c']) (b := x) (a := a') (r2 := q2) (by have := h.iup.edges; rw [e'] at this; simpa using this)
      have k1 := inc_mid (l := l) (α := 1000000) (β := 1) (r1 ++ [c]) (b := x) (a := a) (r2 := r2) (by have := h.ilo.inc; rw [e] at this; simpa using this)
      have k2 := inc_mid (l := l) (α := -1000000) (β := -1) (q1 ++ [c']) (b := x) (a := a') (r2 := q2) (by have := h.iup.inc; rw [e'] at this; simpa using this)
      have i1 := g1 a' ha'
      have i2 := g3 a ha
      have i3 := g2 a' ha'
      have hid := id3 1000000 1 (gp l x) (gp l a) (gp l a') (gp l c)
      -- crs x a' c * K a + crs x c a * K a' + crs x a a' * K c = 0
      have s1 : crs (gp l x) (gp l a) (gp l a') = - crs (gp l a) (gp l x) (gp l a') := crs_flip _ _ _
      have s2 : crs (gp l x) (gp l a') (gp l a) = - crs (gp l a') (gp l x) (gp l a) := crs_flip _ _ _
      have s3 : crs (gp l x) (gp l a') (gp l a) = - crs (gp l x) (gp l a) (gp l a') := crs_swap _ _ _
      have z : crs (gp l x) (gp l a) (gp l a') = 0 := by omega
      have s4 : crs (gp l x) (gp l a') (gp l c) = - crs (gp l x) (gp l c) (gp l a') := crs_swap _ _ _
      have s5 : crs (gp l x) (gp l c) (gp l a) = crs (gp l a) (gp l x) (gp l c) := crs_rot _ _ _
      have ka : lf 1000000 1 (gp l x) (gp l a) < 0 := by rw [lf_anti]; omega
      have ka' : 0 < lf 1000000 1 (gp l x) (gp l a') := by simp only [lf] at k2 ⊢; omega
      rw [z, s5] at hid
      have m1 := nnn_mul (show crs (gp l x) (gp l a') (gp l c) ≤ 0 by omega) (Int.le_of_lt ka)
      have m2 := pos_mul t1 ka'
      omega
theorem Two.inside (h : Two l S lo up p0 pm) (q : Pt) (h0 : 0 ≤ lf 1000000 1 (gp l p0) q) (hm : 0 ≤ lf 1000000 1 q (gp l pm)) :
    ∃ u v u' v', u ∈ lo ∧ v ∈ lo ∧ u' ∈ up ∧ v' ∈ up ∧ 0 ≤ lf 1000000 1 (gp l u) q ∧ 0 ≤ lf 1000000 1 q (gp l v) ∧ 0 ≤ lf 1000000 1 (gp l u') q ∧ 0 ≤ lf 1000000 1 q (gp l v') ∧
      (∃ r1 r2, lo = r1 ++ v :: u :: r2) ∧ (∃ r1 r2, up = r1 ++ u' :: v' :: r2) := by
  obtain ⟨r1, v, u, r2, e, x1, x2⟩ := span (l := l) (α := 1000000) (β := 1) q lo p0 pm h.loH h.loL h.len1 h0 hm
  obtain ⟨q1, u', v', q2, e', y1, y2⟩ := span (l := l) (α := -1000000) (β := -1) q up pm p0 h.upH h.upL h.len2 (by simp only [lf] at hm ⊢; omega) (by simp only [lf] at h0 ⊢; omega)
  refine ⟨u, v, u', v', by rw [e]; simp, by rw [e]; simp, by rw [e']; simp, by rw [e']; simp, x1, x2, ?_, ?_, ⟨r1, r2, e⟩, ⟨q1, q2, e'⟩⟩
  · simp only [lf] at y2 ⊢; omega
  · simp only [lf] at y1 ⊢; omega
end
end Go.Proofs.YtgepmbjmaljgoaaGreatDoor.H.G
end
section
namespace Go.Proofs.YtgepmbjmaljgoaaGreatDoor.H.G
open Go.Vc
structure SOk (l : List Pt) (S : List Nat) : Prop where
  sm : ∀ i, SmP (gp l i)
  inc : UpL l 1000000 1 S
  lt : ∀ x ∈ S, x < l.length
  cover : ∀ i, i < l.length → ∃ x ∈ S, gp l x = gp l i ∧ x ≤ i
  head : S.head? = (srtTo l l.length).head?
theorem cpt_head (l : List Pt) (v : List Nat) : ∀ m, 0 < m → m ≤ v.length → (cptTo l v m).head? = v.head?
  | 1, _, hm => by
    have hs := cptTo_succ l v 0
    rw [if_pos (by simp [cptP])] at hs
    rw [hs]
    match v, hm with
    | x :: v, _ => simp [cptTo, gi]
  | m + 2, _, hm => by
    have ih := cpt_head l v (m + 1) (by omega) (by omega)
    rw [cptTo_succ]
    split
    · rw [List.head?_append, ih]
      match v, hm with
      | x :: v, _ => rfl
    · exact ih
theorem s_ok {l : List Pt} (h : chk l = 0) (h0 : 0 < l.length) : SOk l (cpt l (ordN l)) := by
  have sm := chk_smH h
  have ho : ordN l = srtTo l l.length := by unfold ordN; rw [if_pos h, ordI_eq]
  rw [ho]
  obtain ⟨h1, h2⟩ := srtTo_ok l l.length
  have hl := srtTo_len l l.length
  have hc := cpt_ok l h1 (srtTo l l.length).length (Nat.le_refl _)
  refine ⟨sm, ?_, fun x hx => ?_, fun i hi => ?_, cpt_head l _ _ (by omega) (Nat.le_refl _)⟩
  · exact hc.up.imp fun {a b} hab => (bef_lf (sm a) (sm b)).1 hab
  · obtain ⟨k, hk, e⟩ := hc.sub x hx
    rw [← e]; exact (h2 _).1 (by rw [gi_eq hk]; exact List.getElem_mem hk)
  · obtain ⟨k, hk, e⟩ := List.getElem_of_mem ((h2 i).2 hi)
    obtain ⟨x, hx, e1, e2⟩ := hc.cover k hk
    rw [gi_eq hk, e] at e1 e2
    exact ⟨x, hx, e1, e2⟩
section
variable {l : List Pt} {S : List Nat}
theorem SOk.inj (h : SOk l S) : ∀ p ∈ S, ∀ q ∈ S, gp l p = gp l q → p = q := fun p hp q hq e => h.inc.inj p hp q hq (by rw [e, lf_self])
theorem SOk.first (h : SOk l S) {x : Nat} (hx : x ∈ S) : ∀ k, k < x → gp l k ≠ gp l x := by
  intro k hk e
  obtain ⟨y, hy, e1, e2⟩ := h.cover k (by have := h.lt x hx; omega)
  have := h.inj y hy x hx (e1.trans e)
  omega
theorem othersOf_mem {i : Nat} {p : Pt} : p ∈ othersOf l i l.length ↔ p ∈ l ∧ p ≠ gp l i := by
  simp [othersOf]
theorem vtx_iff {i : Nat} : vtx l i = true ↔ (∀ k, k < i → gp l k ≠ gp l i) ∧ inH (othersOf l i l.length) (gp l i) = false := by
  unfold vtx
  simp only [Bool.and_eq_true, Bool.not_eq_true', List.any_eq_false, List.mem_range, decide_eq_true_eq, ne_eq]
theorem SOk.vtx_of (h : SOk l S) {x : Nat} (hx : x ∈ S) (hs : Sup l S x) : vtx l x = true := by
  rw [vtx_iff]
  refine ⟨h.first hx, ?_⟩
  cases hin : inH (othersOf l x l.length) (gp l x) with
  | false => rfl
  | true =>
    exfalso
    obtain ⟨α, β, hab⟩ := hs
    refine inH_core α β hin fun j hj => ?_
    obtain ⟨hp, hne⟩ := othersOf_mem.1 (gp_mem hj)
    obtain ⟨k, hk, e⟩ := List.getElem_of_mem hp
    obtain ⟨y, hy, e1, _⟩ := h.cover k hk
    rw [gp_eq hk, e] at e1
    rw [← e1] at hne ⊢
    exact hab y hy (fun e => hne (by rw [e]))
theorem SOk.mem_of (h : SOk l S) {i : Nat} (hi : i < l.length) (hv : vtx l i = true) : i ∈ S := by
  obtain ⟨x, hx, e1, e2⟩ := h.cover i hi
  have := (vtx_iff.1 hv).1 x
  by_cases e : x = i
  · rw [← e]; exact hx
  · exact absurd e1 (this (by omega))
theorem SOk.idx (h : SOk l S) {i : Nat} {s : Nat} (hs : s ∈ S) (hne : gp l s ≠ gp l i) : ∃ j, j < (othersOf l i l.length).length ∧ gp (othersOf l i l.length) j = gp l s := by
  have : gp l s ∈ othersOf l i l.length := othersOf_mem.2 ⟨gp_mem (h.lt s hs), hne⟩
  obtain ⟨j, hj, e⟩ := List.getElem_of_mem this
  exact ⟨j, hj, by rw [gp_eq hj, e]⟩
theorem SOk.on (h : SOk l S) {lo up : List Nat} {p0 pm : Nat} (T : Two l S lo up p0 pm) {i : Nat} (hi : i < l.length) (hv : vtx l i = true) : i ∈ lo ∨ i ∈ up := by
  have hiS := h.mem_of hi hv
  rcases Classical.em (i ∈ lo ∨ i ∈ up) with h1 | h1
  · exact h1
  · exfalso
    have hlo : i ∉ lo := fun e => h1 (.inl e)
    have hup : i ∉ up := fun e => h1 (.inr e)
    obtain ⟨u, v, u', v', hu, hv1, hu', hv', x1, x2, x3, x4, ⟨r1, r2, e⟩, ⟨q1, q2, e'⟩⟩ := T.inside (gp l i) (T.p0m i hiS) (T.pmm i hiS)
    have hne : ∀ s, s ∈ lo ∨ s ∈ up → gp l s ≠ gp l i := fun s hs es => by
      have : s = i := h.inj s (hs.elim (T.ilo.sub s) (T.iup.sub s)) i hiS es
      subst this
      exact h1 hs
    have hst : ∀ a b : Nat, a ∈ S → b ∈ S → gp l a ≠ gp l b → 0 ≤ lf 1000000 1 (gp l a) (gp l b) → 0 < lf 1000000 1 (gp l a) (gp l b) := fun a b ha hb hne hle => by
      rcases Int.lt_or_le 0 (lf 1000000 1 (gp l a) (gp l b)) with h2 | h2
      · exact h2
      · exact absurd (by rw [h.inc.inj a ha b hb (by omega)]) hne
    obtain ⟨ju, hju, eu⟩ := h.idx (i := i) (T.ilo.sub u hu) (hne u (.inl hu))
    obtain ⟨jv, hjv, ev⟩ := h.idx (i := i) (T.ilo.sub v hv1) (hne v (.inl hv1))
    obtain ⟨ju', hju', eu'⟩ := h.idx (i := i) (T.iup.sub u' hu') (hne u' (.inr hu'))
    obtain ⟨jv', hjv', ev'⟩ := h.idx (i := i) (T.iup.sub v' hv') (hne v' (.inr hv'))
    have c1 := edges_mid (l := l) (P := S) r1 (e ▸ T.ilo.edges) i hiS
    have c2 := edges_mid (l := l) (P := S) q1 (e' ▸ T.iup.edges) i hiS
    have := four (l := othersOf l i l.length) (p := gp l i) 1000000 1 hju hjv hju' hjv'
      (by rw [eu]; exact hst u i (T.ilo.sub u hu) hiS (hne u (.inl hu)) x1)
      (by rw [ev]; exact hst i v hiS (T.ilo.sub v hv1) (fun e => hne v (.inl hv1) e.symm) x2)
      (by rw [eu']; exact hst u' i (T.iup.sub u' hu') hiS (hne u' (.inr hu')) x3)
      (by rw [ev']; exact hst i v' hiS (T.iup.sub v' hv') (fun e => hne v' (.inr hv') e.symm) x4)
      (by rw [eu, ev]; exact c1) (by rw [eu', ev']; exact c2)
    rw [(vtx_iff.1 hv).2] at this
    cases this
end
structure HullOk (l : List Pt) (v : List Nat) : Prop where
  pos : 0 < v.length
  lt : ∀ k, k < v.length → gi v k < l.length
  nd : v.Nodup
  mem : ∀ i, i < l.length → (i ∈ v ↔ vtx l i = true)
  edge : 1 < v.length → ∀ k, k < v.length → ∀ p, p < l.length → 0 ≤ crs (gp l (gi v k)) (gp l (gi v ((k + 1) % v.length))) (gp l p)
  fst : (srtTo l l.length).head? = some (gi v 0)
theorem nodup_rev {v : List Nat} (h : v.Nodup) : v.reverse.Nodup := by
  unfold List.Nodup at *
  rw [List.pairwise_reverse]
  exact h.imp fun h e => h e.symm
theorem inc_nodup {l : List Pt} {α β : Int} {st : List Nat} (h : IncL l α β st) : st.Nodup := by
  refine (inc_pair st h).imp fun {a b} hab e => ?_
  subst e
  rw [lf_self] at hab; omega
theorem arr_two {l : List Pt} (h2 : 2 ≤ (cpt l (ordN l)).length) : arr l = (stk l (cpt l (ordN l))).tail.reverse ++ (stk l (cpt l (ordN l)).reverse).tail.reverse := by
  unfold arr
  split
  · generalize cpt l (ordN l) = S at *
    match S, h2 with
    | [a, b], _ => simp [stk, pop]
    | a :: b :: c :: S, _ => rename_i h; simp at h; omega
  · rfl
theorem hull_two {l : List Pt} {S lo up : List Nat} {p0 pm : Nat} (h : SOk l S) (T : Two l S lo up p0 pm) (hp0 : S.head? = some p0) : HullOk l (lo.tail.reverse ++ up.tail.reverse) := by
  obtain ⟨m1, lo', e1⟩ : ∃ a t, lo = a :: t := by
    cases hl : lo with
    | nil => have := T.len1; rw [hl] at this; simp at this
    | cons a t => exact ⟨a, t, rfl⟩
  obtain ⟨m2, up', e2⟩ : ∃ a t, up = a :: t := by
    cases hl : up with
    | nil => have := T.len2; rw [hl] at this; simp at this
    | cons a t => exact ⟨a, t, rfl⟩
  have hm1 : m1 = pm := by have := T.loH; rw [e1] at this; simpa using this
  have hm2 : m2 = p0 := by have := T.upH; rw [e2] at this; simpa using this
  subst hm1
  subst hm2
  have n1 : lo' ≠ [] := fun e => by have := T.len1; rw [e1, e] at this; simp at this
  have n2 : up' ≠ [] := fun e => by have := T.len2; rw [e2, e] at this; simp at this
  have l1 : lo'.getLast? = some m2 := by have := T.loL; rw [e1, List.getLast?_cons] at this; cases hq : lo'.getLast? with
    | none => rw [List.getLast?_eq_none_iff] at hq; exact absurd hq n1
    | some z => rw [hq] at this; simpa using this
  have l2 : up'.getLast? = some m1 := by have := T.upL; rw [e2, List.getLast?_cons] at this; cases hq : up'.getLast? with
    | none => rw [List.getLast?_eq_none_iff] at hq; exact absurd hq n2
    | some z => rw [hq] at this; simpa using this
  have f1 : lo'.reverse.head? = some m2 := by rw [List.head?_reverse]; exact l1
  have f2 : up'.reverse.head? = some m1 := by rw [List.head?_reverse]; exact l2
  have nd1 := inc_nodup T.ilo.inc
  have nd2 := inc_nodup T.iup.inc
  rw [e1] at nd1
  rw [e2] at nd2
  rw [List.nodup_cons] at nd1 nd2
  have hmem : ∀ x, x ∈ lo'.reverse ++ up'.reverse ↔ x ∈ lo ∨ x ∈ up := by
    intro x
    rw [List.mem_append, List.mem_reverse, List.mem_reverse, e1, e2, List.mem_cons, List.mem_cons]
    constructor
    · rintro (h | h)
      · exact .inl (.inr h)
      · exact .inr (.inr h)
    · rintro ((rfl | h) | (rfl | h))
      · exact .inr (List.mem_of_getLast? l2)
      · exact .inl h
      · exact .inl (List.mem_of_getLast? l1)
      · exact .inr h
  have hsub : ∀ x, x ∈ lo'.reverse ++ up'.reverse → x ∈ S := fun x hx => ((hmem x).1 hx).elim (T.ilo.sub x) (T.iup.sub x)
  rw [e1, e2, List.tail_cons, List.tail_cons]
  obtain ⟨y, t, ey⟩ : ∃ y t, lo'.reverse = y :: t := by
    cases hr : lo'.reverse with
    | nil => simp at hr; exact absurd hr n1
    | cons y t => exact ⟨y, t, rfl⟩
  have hy : y = m2 := by rw [ey] at f1; simpa using f1
  subst hy
  have hchain : ChainE l S ((lo'.reverse ++ up'.reverse) ++ [y]) := by
    have c1 := chain_of_edges lo T.ilo.edges
    have c2 := chain_of_edges up T.iup.edges
    rw [e1, List.reverse_cons] at c1
    rw [e2, List.reverse_cons] at c2
    obtain ⟨z, s, ez⟩ : ∃ z s, up'.reverse = z :: s := by
      cases hr : up'.reverse with
      | nil => simp at hr; exact absurd hr n2
      | cons y t => exact ⟨y, t, rfl⟩
    have hz : z = m1 := by rw [ez] at f2; simpa using f2
    subst hz
    rw [ez, List.cons_append] at c2
    have := chain_join lo'.reverse c1 c2
    rw [ez]; simpa using this
  refine ⟨by rw [ey]; simp, fun k hk => ?_, ?_, fun i hi => ?_, fun h1 k hk p hp => ?_, ?_⟩
  · exact h.lt _ (hsub _ (by rw [gi_eq hk]; exact List.getElem_mem hk))
  · rw [List.nodup_append]
    refine ⟨nodup_rev nd1.2, nodup_rev nd2.2, fun a ha b hb e => ?_⟩
    subst e
    have ha' : a ∈ lo' := List.mem_reverse.1 ha
    have hb' : a ∈ up' := List.mem_reverse.1 hb
    rcases T.apart (x := a) (by rw [e1]; exact List.mem_cons_of_mem _ ha') (by rw [e2]; exact List.mem_cons_of_mem _ hb') with e | e
    · subst e; exact nd2.1 hb'
    · subst e; exact nd1.1 ha'
  · rw [hmem]
    constructor
    · intro hx
      exact h.vtx_of (hx.elim (T.ilo.sub i) (T.iup.sub i)) (T.sup hx)
    · exact h.on T hi
  · obtain ⟨x, hx, e, _⟩ := h.cover p hp
    rw [← e]
    generalize hL : lo'.reverse ++ up'.reverse = L at *
    have hL0 : gi L 0 = y := by rw [← hL, ey]; rfl
    have := chain_at (L ++ [y]) k hchain (by simp; omega) x hx
    rw [gi_app, if_pos hk, gi_app] at this
    by_cases hk1 : k + 1 < L.length
    · rw [if_pos hk1] at this
      rwa [Nat.mod_eq_of_lt hk1]
    · have he : k + 1 = L.length := by omega
      rw [if_neg hk1, if_pos he] at this
      rw [he, Nat.mod_self, hL0]; exact this
  · rw [← h.head, hp0, ey]; rfl
theorem hull_one {l : List Pt} {s : Nat} (h : SOk l [s]) : HullOk l [s] := by
  refine ⟨by simp, fun k hk => ?_, by simp, fun i hi => ?_, fun h1 => by simp at h1, by rw [← h.head]; rfl⟩
  · have : k = 0 := by simpa using hk
    subst this; exact h.lt s (by simp)
  · constructor
    · intro hx
      simp at hx; subst hx
      exact h.vtx_of (by simp) ⟨0, 0, fun p hp hne => by simp at hp; exact absurd hp hne⟩
    · exact h.mem_of hi
theorem hull_ok {l : List Pt} (h : chk l = 0) (h0 : 0 < l.length) : HullOk l (arr l) := by
  have hS := s_ok h h0
  obtain ⟨x, hx, _⟩ := hS.cover 0 h0
  rcases Nat.lt_or_ge (cpt l (ordN l)).length 2 with h2 | h2
  · have e : arr l = cpt l (ordN l) := by rw [arr, if_pos (by omega)]
    rw [e]
    match hc : cpt l (ordN l), h2, hx, hS with
    | [s], _, _, hS => exact hull_one hS
    | [], _, hx, _ => simp at hx
  · obtain ⟨p0, pm, hp, _, T⟩ := two_of hS.sm hS.inc h2
    rw [arr_two h2]
    exact hull_two hS T hp
end Go.Proofs.YtgepmbjmaljgoaaGreatDoor.H.G
end
section
namespace Go.Proofs.YtgepmbjmaljgoaaGreatDoor.H.G
open Go.Vc
theorem k_inj {a b : Pt} (ha : SmP a) (hb : SmP b) (h : lf 1000000 1 a b = 0) : a = b := by
  simp only [lf] at h; simp only [SmP, Sm] at ha hb
  cases a; cases b; simp at *; omega
theorem mid_btw {a b c : Pt} (h : crs a b c = 0) (h1 : 0 < lf 1000000 1 a b) (h2 : 0 < lf 1000000 1 b c) : btw b a c = true := by
  rw [btw_iff]
  have hc : crs a c b = 0 := by rw [crs_swap]; omega
  refine ⟨hc, ?_⟩
  have h5 := par_id 1000000 1 a c b hc
  have h6 := dot_sq (sub c b)
  have h7 : lf 1000000 1 b a < 0 := by rw [lf_anti]; omega
  rcases Int.lt_or_le 0 (dot (sub a b) (sub c b)) with hx | hx
  · have m1 := pos_mul h2 hx
    have m2 := np_mul (Int.le_of_lt h7) h6
    omega
  · exact hx
theorem vtx_ne {l : List Pt} {i j : Nat} (hi : vtx l i = true) (hj : vtx l j = true) (h : i ≠ j) : gp l i ≠ gp l j := by
  intro e
  rcases Nat.lt_or_ge i j with h1 | h1
  · exact (vtx_iff.1 hj).1 i h1 e
  · exact (vtx_iff.1 hi).1 j (by omega) e.symm
theorem vtx_between {l : List Pt} {i j k : Nat} (hi : i < l.length) (hk : k < l.length) (hj : vtx l j = true) (n1 : gp l i ≠ gp l j) (n2 : gp l k ≠ gp l j) : btw (gp l j) (gp l i) (gp l k) = false := by
  cases h : btw (gp l j) (gp l i) (gp l k) with
  | false => rfl
  | true =>
    have m1 : gp l i ∈ othersOf l j l.length := othersOf_mem.2 ⟨gp_mem hi, n1⟩
    have m2 : gp l k ∈ othersOf l j l.length := othersOf_mem.2 ⟨gp_mem hk, n2⟩
    obtain ⟨a, ha, ea⟩ := List.getElem_of_mem m1
    obtain ⟨b, hb, eb⟩ := List.getElem_of_mem m2
    have := inH_seg (l := othersOf l j l.length) (p := gp l j) ha hb (by rw [gp_eq ha, gp_eq hb, ea, eb]; exact h)
    rw [(vtx_iff.1 hj).2] at this
    cases this
theorem no_col {l : List Pt} (sm : ∀ i, SmP (gp l i)) {i j k : Nat} (hi : i < l.length) (hj : j < l.length) (hk : k < l.length) (vi : vtx l i = true) (vj : vtx l j = true) (vk : vtx l k = true) (n1 : i ≠ j) (n2 : j ≠ k) (n3 : i ≠ k) : crs (gp l i) (gp l j) (gp l k) ≠ 0 := by
  intro h
  have key : ∀ a b c : Nat, a < l.length → c < l.length → vtx l a = true → vtx l b = true → vtx l c = true → a ≠ b → b ≠ c → crs (gp l a) (gp l b) (gp l c) = 0 → 0 < lf 1000000 1 (gp l a) (gp l b) → 0 < lf 1000000 1 (gp l b) (gp l c) → False := by
    intro a b c ha hc va vb vc e1 e2 hz h1 h2
    have := vtx_between ha hc vb (vtx_ne va vb e1) (vtx_ne vc vb e2.symm)
    rw [mid_btw hz h1 h2] at this
    cases this
  have q : ∀ a b : Nat, vtx l a = true → vtx l b = true → a ≠ b → lf 1000000 1 (gp l a) (gp l b) ≠ 0 := fun a b va vb e h0 => vtx_ne va vb e (k_inj (sm a) (sm b) h0)
  have a1 := q i j vi vj n1
  have a2 := q j k vj vk n2
  have a3 := q i k vi vk n3
  have c1 : crs (gp l i) (gp l k) (gp l j) = 0 := by rw [crs_swap]; omega
  have c2 : crs (gp l j) (gp l i) (gp l k) = 0 := by rw [crs_flip]; omega
  have c3 : crs (gp l j) (gp l k) (gp l i) = 0 := by rw [crs_rot]; exact h
  have c4 : crs (gp l k) (gp l i) (gp l j) = 0 := by rw [crs_rot2]; exact h
  have c5 : crs (gp l k) (gp l j) (gp l i) = 0 := by rw [crs_flip, crs_rot]; omega
  have s1 := lf_anti 1000000 1 (gp l i) (gp l j)
  have s2 := lf_anti 1000000 1 (gp l j) (gp l k)
  have s3 := lf_anti 1000000 1 (gp l i) (gp l k)
  have s4 := lf_add 1000000 1 (gp l i) (gp l j) (gp l k)
  by_cases b1 : 0 < lf 1000000 1 (gp l i) (gp l j)
  · by_cases b2 : 0 < lf 1000000 1 (gp l j) (gp l k)
    · exact key i j k hi hk vi vj vk n1 n2 h b1 b2
    · by_cases b3 : 0 < lf 1000000 1 (gp l i) (gp l k)
      · exact key i k j hi hj vi vk vj n3 n2.symm c1 b3 (by omega)
      · exact key k i j hk hj vk vi vj n3.symm n1 c4 (by omega) b1
  · by_cases b2 : 0 < lf 1000000 1 (gp l j) (gp l k)
    · by_cases b3 : 0 < lf 1000000 1 (gp l i) (gp l k)
      · exact key j i k hj hk vj vi vk n1.symm n3 c2 (by omega) b3
      · exact key j k i hj hi vj vk vi n2 n3.symm c3 b2 (by omega)
    · exact key k j i hk hi vk vj vi n2.symm n1.symm c5 (by omega) (by omega)
def vsTo (l : List Pt) (k : Nat) : List Nat := ((srtTo l l.length).take k).filter (vtx l)
def vs (l : List Pt) : List Nat := vsTo l l.length
theorem vs_eq (l : List Pt) : vs l = (srtTo l l.length).filter (vtx l) := by
  unfold vs vsTo
  rw [List.take_of_length_le (by rw [srtTo_len]; exact Nat.le_refl _)]
theorem vs_mem (l : List Pt) (i : Nat) : i ∈ vs l ↔ i < l.length ∧ vtx l i = true := by
  rw [vs_eq, List.mem_filter, (srtTo_ok l l.length).2]
section
variable {l : List Pt} {v : List Nat}
theorem HullOk.memv (h : HullOk l v) {x : Nat} : x ∈ v ↔ x ∈ vs l := by
  rw [vs_mem]
  constructor
  · intro hx
    obtain ⟨k, hk, e⟩ := List.getElem_of_mem hx
    have hl := h.lt k hk
    rw [gi_eq hk, e] at hl
    exact ⟨hl, (h.mem x hl).1 hx⟩
  · intro ⟨h1, h2⟩; exact (h.mem x h1).2 h2
theorem HullOk.vtx (h : HullOk l v) {k : Nat} (hk : k < v.length) : Go.Proofs.YtgepmbjmaljgoaaGreatDoor.H.vtx l (gi v k) = true := ((vs_mem l _).1 (h.memv.1 (by rw [gi_eq hk]; exact List.getElem_mem hk))).2
theorem HullOk.ne (h : HullOk l v) {j k : Nat} (hj : j < v.length) (hk : k < v.length) (hjk : j ≠ k) : gi v j ≠ gi v k := by
  rw [gi_eq hj, gi_eq hk]
  intro e
  exact hjk ((List.getElem_inj h.nd).1 e)
theorem HullOk.strict (h : HullOk l v) (sm : ∀ i, SmP (gp l i)) {k j : Nat} (hk : k < v.length) (hj : j < v.length) (h1 : j ≠ k) (h2 : j ≠ (k + 1) % v.length) (hlen : 1 < v.length) : 0 < crs (gp l (gi v k)) (gp l (gi v ((k + 1) % v.length))) (gp l (gi v j)) := by
  have hm : (k + 1) % v.length < v.length := Nat.mod_lt _ (by omega)
  have hne : k ≠ (k + 1) % v.length := fun e => by
    by_cases hk1 : k + 1 < v.length
    · rw [Nat.mod_eq_of_lt hk1] at e; omega
    · have : k + 1 = v.length := by omega
      rw [this, Nat.mod_self] at e; omega
  have e1 := h.edge hlen k hk (gi v j) (h.lt j hj)
  have e2 := no_col sm (h.lt k hk) (h.lt _ hm) (h.lt j hj) (h.vtx hk) (h.vtx hm) (h.vtx hj) (h.ne hk hm hne) (h.ne hm hj (fun e => h2 e.symm)) (h.ne hk hj (fun e => h1 e.symm))
  omega
end
end Go.Proofs.YtgepmbjmaljgoaaGreatDoor.H.G
end
section
namespace Go.Proofs.YtgepmbjmaljgoaaGreatDoor.H.G
open Go.Vc
def edgG (l : List Pt) (v : List Nat) (p : Pt) (k : Nat) : Int := crs (gp l (gi v k)) (gp l (gi v ((k + 1) % v.length))) p
theorem closed_edge {l : List Pt} {v : List Nat} {p : Pt} (h : ∀ k, k < v.length → 0 ≤ edgG l v p k) {X Y : List Nat} {a b : Nat} (e : v ++ [gi v 0] = X ++ a :: b :: Y) : 0 ≤ crs (gp l a) (gp l b) p := by
  have hlen := congrArg List.length e
  simp only [List.length_append, List.length_cons, List.length_nil] at hlen
  have hk : X.length < v.length := by omega
  have h1 : gi (v ++ [gi v 0]) X.length = a := by rw [e]; exact gi_mid X a _
  have h2 : gi (v ++ [gi v 0]) (X.length + 1) = b := by
    rw [e]
    have := gi_mid (X ++ [a]) b Y
    simpa using this
  have := h X.length hk
  unfold edgG at this
  rw [gi_app, if_pos hk] at h1
  rw [gi_app] at h2
  by_cases hk1 : X.length + 1 < v.length
  · rw [if_pos hk1] at h2
    rw [Nat.mod_eq_of_lt hk1, h1, h2] at this
    exact this
  · have he : X.length + 1 = v.length := by omega
    rw [if_neg hk1, if_pos he] at h2
    rw [he, Nat.mod_self, h1, h2] at this
    exact this
theorem cone {α β : Int} {o a c p : Pt} (ha : 0 ≤ lf α β o a) (hc : 0 ≤ lf α β o c) (hs : 0 < crs o a c) (h1 : 0 ≤ crs o a p) (h2 : 0 ≤ crs c o p) : 0 ≤ lf α β o p := by
  have hid := id3 α β o a c p
  -- crs o c p * lf o a + crs o p a * lf o c + crs o a c * lf o p = 0
  have s1 : crs o c p = - crs c o p := crs_flip _ _ _
  have s2 : crs o p a = - crs o a p := crs_swap _ _ _
  have m1 := np_mul (show crs o c p ≤ 0 by omega) ha
  have m2 := np_mul (show crs o p a ≤ 0 by omega) hc
  rcases Int.lt_or_le (lf α β o p) 0 with h | h
  · have := mul_neg' hs h; omega
  · exact h
theorem loc_two {l : List Pt} {S lo up : List Nat} {p0 pm : Nat} {p : Pt} (h : SOk l S) (T : Two l S lo up p0 pm) (hp0 : S.head? = some p0) {v : List Nat} (hv : v = lo.tail.reverse ++ up.tail.reverse) (h3 : 3 ≤ v.length) (sp : SmP p) (he : ∀ k, k < v.length → 0 ≤ edgG l v p k) : inH l p = true := by
  have H : HullOk l v := by rw [hv]; exact hull_two h T hp0
  have hfst : gi v 0 = p0 := by
    have := H.fst
    rw [← h.head, hp0] at this
    exact (Option.some.inj this).symm
  have sm := h.sm
  have up' : ∀ i, i < l.length → 0 ≤ lf 1000000 1 (gp l p0) (gp l i) := fun i hi => by
    obtain ⟨x, hx, e, _⟩ := h.cover i hi
    rw [← e]; exact T.p0m x hx
  have dn' : ∀ i, i < l.length → 0 ≤ lf (-1000000) (-1) (gp l pm) (gp l i) := fun i hi => by
    obtain ⟨x, hx, e, _⟩ := h.cover i hi
    have := T.pmm x hx
    rw [← e]; simp only [lf] at this ⊢; omega
  have hN : 1 < v.length := by omega
  -- the corner j
  have corner : ∀ (α β : Int) (j : Nat), j < v.length → (∀ i, i < l.length → 0 ≤ lf α β (gp l (gi v j)) (gp l i)) → 0 ≤ lf α β (gp l (gi v j)) p := by
    intro α β j hj hmin
    obtain ⟨i, hi, hij⟩ : ∃ i, i < v.length ∧ (i + 1) % v.length = j := by
      by_cases h0 : j = 0
      · exact ⟨v.length - 1, by omega, by rw [show v.length - 1 + 1 = v.length by omega, Nat.mod_self, h0]⟩
      · exact ⟨j - 1, by omega, by rw [show j - 1 + 1 = j by omega, Nat.mod_eq_of_lt hj]⟩
    have hm : (j + 1) % v.length < v.length := Nat.mod_lt _ (by omega)
    have hne1 : i ≠ j := fun e => by
      subst e
      by_cases hk : i + 1 < v.length
      · rw [Nat.mod_eq_of_lt hk] at hij; omega
      · rw [show i + 1 = v.length by omega, Nat.mod_self] at hij; omega
    have hne2 : i ≠ (j + 1) % v.length := fun e => by
      by_cases hk : j + 1 < v.length
      · rw [Nat.mod_eq_of_lt hk] at e
        by_cases hk2 : i + 1 < v.length
        · rw [Nat.mod_eq_of_lt hk2] at hij; omega
        · rw [show i + 1 = v.length by omega, Nat.mod_self] at hij; omega
      · rw [show j + 1 = v.length by omega, Nat.mod_self] at e
        rw [e, Nat.mod_eq_of_lt (by omega)] at hij; omega
    have hs := H.strict sm hj hi hne1 hne2 hN
    have e1 := he j hj
    have e2 := he i hi
    unfold edgG at e1 e2
    rw [hij] at e2
    exact cone (hmin _ (H.lt _ hm)) (hmin _ (H.lt _ hi)) hs e1 e2
  have q0 : 0 ≤ lf 1000000 1 (gp l p0) p := by
    have := corner 1000000 1 0 (by omega) (by rw [hfst]; exact up')
    rwa [hfst] at this
  have qm : 0 ≤ lf 1000000 1 p (gp l pm) := by
    have hpm : pm ∈ v := H.memv.2 ((vs_mem l pm).2 ⟨h.lt pm T.memM, h.vtx_of T.memM T.supM⟩)
    obtain ⟨j, hj, ej⟩ := List.getElem_of_mem hpm
    rw [← gi_eq hj] at ej
    have := corner (-1000000) (-1) j hj (by rw [ej]; exact dn')
    rw [ej] at this
    simp only [lf] at this ⊢; omega
  obtain ⟨a, b, a', b', ha, hb, ha', hb', x1, x2, x3, x4, ⟨r1, r2, e⟩, ⟨q1, q2, e'⟩⟩ := T.inside p q0 qm
  -- the closed way round
  obtain ⟨lo1, lot, el⟩ : ∃ x t, lo = x :: t := by
    cases hl : lo with
    | nil => have := T.len1; rw [hl] at this; simp at this
    | cons x t => exact ⟨x, t, rfl⟩
  obtain ⟨up1, upt, eu⟩ : ∃ x t, up = x :: t := by
    cases hl : up with
    | nil => have := T.len2; rw [hl] at this; simp at this
    | cons x t => exact ⟨x, t, rfl⟩
  have hup1 : up1 = p0 := by have := T.upH; rw [eu] at this; simpa using this
  have hlo1 : lo1 = pm := by have := T.loH; rw [el] at this; simpa using this
  have c1 : v ++ [gi v 0] = lo.tail.reverse ++ up.reverse := by
    rw [hv]
    rw [show gi (lo.tail.reverse ++ up.tail.reverse) 0 = p0 from by rw [← hv]; exact hfst, eu, hup1]
    simp
  have c2 : v ++ [gi v 0] = lo.reverse ++ up.reverse.tail := by
    rw [c1]
    obtain ⟨s, es⟩ : ∃ s, up.reverse = pm :: s := by
      have := T.upL
      rw [← List.head?_reverse] at this
      cases hr : up.reverse with
      | nil => rw [hr] at this; simp at this
      | cons x s => rw [hr] at this; simp at this; exact ⟨s, by rw [this]⟩
    rw [es, el, hlo1]; simp
  have d1 : 0 ≤ crs (gp l a) (gp l b) p := closed_edge he (X := r2.reverse) (Y := r1.reverse ++ up.reverse.tail) (by rw [c2, e]; simp)
  have d2 : 0 ≤ crs (gp l b') (gp l a') p := closed_edge he (X := lo.tail.reverse ++ q2.reverse) (Y := q1.reverse) (by rw [c1, e']; simp)
  have la := h.lt a (T.ilo.sub a ha)
  have lb := h.lt b (T.ilo.sub b hb)
  have la' := h.lt a' (T.iup.sub a' ha')
  have lb' := h.lt b' (T.iup.sub b' hb')
  by_cases z1 : lf 1000000 1 (gp l a) p = 0
  · exact inH_eq la (k_inj (sm a) sp z1)
  by_cases z2 : lf 1000000 1 p (gp l b) = 0
  · exact inH_eq lb (k_inj sp (sm b) z2).symm
  by_cases z3 : lf 1000000 1 (gp l a') p = 0
  · exact inH_eq la' (k_inj (sm a') sp z3)
  by_cases z4 : lf 1000000 1 p (gp l b') = 0
  · exact inH_eq lb' (k_inj sp (sm b') z4).symm
  exact four 1000000 1 la lb la' lb' (by omega) (by omega) (by omega) (by omega) d1 d2
end Go.Proofs.YtgepmbjmaljgoaaGreatDoor.H.G
end
