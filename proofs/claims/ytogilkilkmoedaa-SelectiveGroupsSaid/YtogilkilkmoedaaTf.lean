/- A part of the proof that the law returns true at every input and that the input reads behind the call as it read before; this part states nothing of its own that needs a condition of the input. -/
import Derived.Deep.Upon
import Derived.Test.YtogilkilkmoedaaM
import Derived.Test.YtogilkilkmoedaaTc
import Derived.Test.YtogilkilkmoedaaTe
set_option linter.unusedVariables false
set_option linter.unusedSimpArgs false
namespace Go.Proofs.Ytogilkilkmoedaa
open Go Go.Vc Go.RowKit
/-! All pairings, as the reference lists them. -/
def usedN (l : List (Nat × Nat)) (p : Nat) : Bool := (List.range l.length).any (fun k => (gq l k).2 == p)
def addQ (fit : Nat → Nat → Bool) (h : Nat) (X : List (Nat × Nat)) (n : Nat) : List (List (Nat × Nat)) := ((List.range n).filter (fun p => !usedN X p && fit h p)).map (fun p => X ++ [(h, p)])
def ga (A : List (List (Nat × Nat))) (i : Nat) : List (Nat × Nat) := A.getD i []
def flatQ (fit : Nat → Nat → Bool) (nP h : Nat) (A : List (List (Nat × Nat))) (i : Nat) : List (List (Nat × Nat)) := (List.range i).flatMap (fun j => addQ fit h (ga A j) nP)
def allN (fit : Nat → Nat → Bool) (nP : Nat) : Nat → List (List (Nat × Nat))
  | 0 => [[]]
  | h + 1 => allN fit nP h ++ flatQ fit nP h (allN fit nP h) (allN fit nP h).length
theorem addQ_succ (fit : Nat → Nat → Bool) (h : Nat) (X : List (Nat × Nat)) (n : Nat) : addQ fit h X (n + 1) = addQ fit h X n ++ if (!usedN X n && fit h n) = true then [X ++ [(h, n)]] else [] := by
  unfold addQ
  rw [List.range_succ, List.filter_append, List.map_append]
  congr 1
  cases hc : (!usedN X n && fit h n) <;> simp [hc]
theorem flatQ_succ (fit : Nat → Nat → Bool) (nP h : Nat) (A : List (List (Nat × Nat))) (i : Nat) : flatQ fit nP h A (i + 1) = flatQ fit nP h A i ++ addQ fit h (ga A i) nP := by
  unfold flatQ
  rw [List.range_succ, List.flatMap_append]; simp
theorem addQ_len (fit : Nat → Nat → Bool) (h : Nat) (X : List (Nat × Nat)) (n : Nat) : (addQ fit h X n).length ≤ n := by
  unfold addQ
  rw [List.length_map]
  exact Nat.le_trans (List.length_filter_le _ _) (by simp)
theorem flatQ_len (fit : Nat → Nat → Bool) (nP h : Nat) (A : List (List (Nat × Nat))) : ∀ i, (flatQ fit nP h A i).length ≤ i * nP
  | 0 => by simp [flatQ]
  | i + 1 => by
    rw [flatQ_succ, List.length_append, Nat.add_mul]
    have := flatQ_len fit nP h A i
    have := addQ_len fit h (ga A i) nP
    omega
theorem allN_len {fit : Nat → Nat → Bool} {nP : Nat} (h6 : nP ≤ 6) : ∀ h, (allN fit nP h).length ≤ 7 ^ h
  | 0 => by simp [allN]
  | h + 1 => by
    have ih := allN_len (fit := fit) h6 h
    unfold allN
    rw [List.length_append, Nat.pow_succ]
    have h1 := flatQ_len fit nP h (allN fit nP h) (allN fit nP h).length
    have h2 := Nat.mul_le_mul_left (allN fit nP h).length h6
    omega
theorem gq_mem {X : List (Nat × Nat)} {k : Nat} (h : k < X.length) : gq X k ∈ X := by
  unfold gq
  rw [List.getD, List.getElem?_eq_getElem h]
  exact List.getElem_mem h
theorem usedN_iff {X : List (Nat × Nat)} {p : Nat} : usedN X p = true ↔ ∃ x ∈ X, x.2 = p := by
  unfold usedN
  rw [List.any_eq_true]
  constructor
  · rintro ⟨k, hk, e⟩
    exact ⟨_, gq_mem (List.mem_range.1 hk), by simpa using e⟩
  · rintro ⟨x, hx, e⟩
    obtain ⟨k, hk, ek⟩ := List.getElem_of_mem hx
    refine ⟨k, List.mem_range.2 hk, ?_⟩
    unfold gq
    rw [List.getD, List.getElem?_eq_getElem hk]
    simp [ek, e]
theorem mem_addQ {fit : Nat → Nat → Bool} {h n : Nat} {X Y : List (Nat × Nat)} : Y ∈ addQ fit h X n ↔ ∃ p, p < n ∧ (∀ x ∈ X, x.2 ≠ p) ∧ fit h p = true ∧ Y = X ++ [(h, p)] := by
  unfold addQ
  rw [List.mem_map]
  constructor
  · rintro ⟨p, hp, rfl⟩
    obtain ⟨h1, h2⟩ := List.mem_filter.1 hp
    simp only [Bool.and_eq_true, Bool.not_eq_true'] at h2
    exact ⟨p, List.mem_range.1 h1, fun x hx e => (by rw [usedN_iff.2 ⟨x, hx, e⟩] at h2; exact absurd h2.1 (by simp)), h2.2, rfl⟩
  · rintro ⟨p, h1, h2, h3, rfl⟩
    refine ⟨p, List.mem_filter.2 ⟨List.mem_range.2 h1, ?_⟩, rfl⟩
    simp only [Bool.and_eq_true, Bool.not_eq_true']
    refine ⟨?_, h3⟩
    rw [Bool.eq_false_iff]
    intro hu
    obtain ⟨x, hx, e⟩ := usedN_iff.1 hu
    exact h2 x hx e
theorem ga_mem {A : List (List (Nat × Nat))} {i : Nat} (h : i < A.length) : ga A i ∈ A := by
  unfold ga
  rw [List.getD, List.getElem?_eq_getElem h]
  exact List.getElem_mem h
theorem mem_flatQ {fit : Nat → Nat → Bool} {nP h : Nat} {A : List (List (Nat × Nat))} {Y : List (Nat × Nat)} : Y ∈ flatQ fit nP h A A.length ↔ ∃ X ∈ A, Y ∈ addQ fit h X nP := by
  unfold flatQ
  rw [List.mem_flatMap]
  constructor
  · rintro ⟨j, hj, h⟩
    exact ⟨_, ga_mem (List.mem_range.1 hj), h⟩
  · rintro ⟨X, hX, h⟩
    obtain ⟨k, hk, ek⟩ := List.getElem_of_mem hX
    refine ⟨k, List.mem_range.2 hk, ?_⟩
    unfold ga
    rw [List.getD, List.getElem?_eq_getElem hk, ek]
    exact h
/-- The pairings of the first k holes, their holes rising. -/
structure Prg (fit : Nat → Nat → Bool) (nP k : Nat) (X : List (Nat × Nat)) : Prop where
  asc : X.Pairwise (fun x y => x.1 < y.1)
  n2 : (X.map (·.2)).Nodup
  ok : ∀ x ∈ X, x.1 < k ∧ x.2 < nP ∧ fit x.1 x.2 = true
theorem mem_allN {fit : Nat → Nat → Bool} {nP : Nat} : ∀ {k : Nat} {X : List (Nat × Nat)}, X ∈ allN fit nP k ↔ Prg fit nP k X
  | 0, X => by
    simp only [allN, List.mem_singleton]
    constructor
    · rintro rfl
      exact ⟨List.Pairwise.nil, List.nodup_nil, fun x hx => (by cases hx)⟩
    · intro h
      match X, h with
      | [], _ => rfl
      | x :: X, h => have := (h.ok x (by simp)).1; omega
  | k + 1, X => by
    unfold allN
    rw [List.mem_append, mem_flatQ]
    constructor
    · rintro (h | ⟨Y, hY, h⟩)
      · have h := mem_allN.1 h
        exact ⟨h.asc, h.n2, fun x hx => by obtain ⟨a, b, c⟩ := h.ok x hx; exact ⟨by omega, b, c⟩⟩
      · have hY := mem_allN.1 hY
        obtain ⟨p, hp, hu, hf, rfl⟩ := mem_addQ.1 h
        refine ⟨List.pairwise_append.2 ⟨hY.asc, List.pairwise_singleton _ _, fun x hx y hy => ?_⟩, ?_, fun x hx => ?_⟩
        · rw [List.mem_singleton] at hy; rw [hy]; exact (hY.ok x hx).1
        · rw [List.map_append]
          refine List.nodup_append.2 ⟨hY.n2, List.nodup_cons.2 ⟨List.not_mem_nil, List.nodup_nil⟩, fun a ha b hb => ?_⟩
          obtain ⟨x, hx, rfl⟩ := List.mem_map.1 ha
          simp only [List.map_cons, List.map_nil, List.mem_singleton] at hb
          rw [hb]; exact hu x hx
        · rcases List.mem_append.1 hx with hx | hx
          · obtain ⟨a, b, c⟩ := hY.ok x hx; exact ⟨by omega, b, c⟩
          · rw [List.mem_singleton] at hx; rw [hx]; exact ⟨Nat.lt_succ_self k, hp, hf⟩
    · intro h
      by_cases hk : ∃ x ∈ X, x.1 = k
      · obtain ⟨x, hx, ex⟩ := hk
        have hne : X ≠ [] := fun e => by rw [e] at hx; cases hx
        have hlast : X.dropLast ++ [X.getLast hne] = X := List.dropLast_concat_getLast hne
        have hxl : x = X.getLast hne := by
          rw [← hlast] at hx
          rcases List.mem_append.1 hx with hx2 | hx2
          · have ha := h.asc
            rw [← hlast] at ha
            have := (List.pairwise_append.1 ha).2.2 x hx2 (X.getLast hne) (by simp)
            have := (h.ok _ (List.getLast_mem hne)).1
            omega
          · simpa using hx2
        right
        refine ⟨X.dropLast, mem_allN.2 ⟨?_, ?_, fun y hy => ?_⟩, mem_addQ.2 ⟨x.2, (h.ok x hx).2.1, fun y hy e => ?_, ?_, ?_⟩⟩
        · exact List.Pairwise.sublist (List.dropLast_sublist X) h.asc
        · exact List.Pairwise.sublist ((List.dropLast_sublist X).map _) h.n2
        · obtain ⟨a, b, c⟩ := h.ok y ((List.dropLast_sublist X).subset hy)
          refine ⟨?_, b, c⟩
          have ha := h.asc
          rw [← hlast] at ha
          have := (List.pairwise_append.1 ha).2.2 y hy (X.getLast hne) (by simp)
          rw [← hxl] at this
          omega
        · have hn := h.n2
          rw [← hlast, List.map_append] at hn
          exact (List.nodup_append.1 hn).2.2 y.2 (List.mem_map.2 ⟨y, hy, rfl⟩) x.2 (by rw [← hxl]; simp) e
        · have := (h.ok x hx).2.2
          rw [ex] at this; exact this
        · rw [← hlast]
          rw [← hxl]
          have : x = (k, x.2) := Prod.ext ex rfl
          rw [← this]
          simp
      · left
        refine mem_allN.2 ⟨h.asc, h.n2, fun x hx => ?_⟩
        obtain ⟨a, b, c⟩ := h.ok x hx
        have : x.1 ≠ k := fun e => hk ⟨x, hx, e⟩
        exact ⟨by omega, b, c⟩
end Go.Proofs.Ytogilkilkmoedaa
namespace Go.Proofs.Ytogilkilkmoedaa
open Go Go.Vc Go.RowKit
/-! The best of all pairings. -/
/-- Which of two lists of pairs comes first, from i on. -/
def bfE (X Y : List (Nat × Nat)) : Nat → Nat → Bool
  | 0, _ => false
  | c + 1, i => if gq X i = gq Y i then bfE X Y c (i + 1) else decide ((gq X i).1 < (gq Y i).1) || (decide ((gq X i).1 = (gq Y i).1) && decide ((gq X i).2 < (gq Y i).2))
def lexB (a b : Nat × Nat) : Bool := decide (a.1 < b.1) || (decide (a.1 = b.1) && decide (a.2 < b.2))
theorem bfE_first {X Y : List (Nat × Nat)} {n : Nat} : ∀ c i, i + c = n → (∀ j, j < i → gq X j = gq Y j) → (∃ j, j < n ∧ gq X j ≠ gq Y j ∧ (∀ j', j' < j → gq X j' = gq Y j') ∧ bfE X Y c i = lexB (gq X j) (gq Y j)) ∨ ((∀ j, j < n → gq X j = gq Y j) ∧ bfE X Y c i = false)
  | 0, i, hi, hall => .inr ⟨fun j hj => hall j (by omega), rfl⟩
  | c + 1, i, hi, hall => by
    unfold bfE
    split
    · rename_i e
      refine bfE_first c (i + 1) (by omega) fun j hj => ?_
      by_cases h : j = i
      · rw [h]; exact e
      · exact hall j (by omega)
    · rename_i e
      exact .inl ⟨i, by omega, e, hall, rfl⟩
def betB (X Y : List (Nat × Nat)) : Bool := decide (Y.length < X.length) || (decide (X.length = Y.length) && bfE X Y X.length 0)
theorem at_gq {X : List (Nat × Nat)} {j : Nat} (h : j < X.length) : X[j]? = some (gq X j) := by
  unfold gq
  rw [List.getD, List.getElem?_eq_getElem h]; rfl
theorem ext_gq {X Y : List (Nat × Nat)} (hl : X.length = Y.length) (h : ∀ j, j < X.length → gq X j = gq Y j) : X = Y := by
  refine List.ext_getElem? fun j => ?_
  by_cases hj : j < X.length
  · rw [at_gq hj, at_gq (by omega), h j hj]
  · rw [List.getElem?_eq_none (by omega), List.getElem?_eq_none (by omega)]
theorem best_mem (fit : Nat → Nat → Bool) (nH nP : Nat) : bestL fit nH nP ∈ allN fit nP nH := by
  obtain ⟨hM, _, hG, _⟩ := best_spec fit nH nP
  exact mem_allN.2 ⟨hG.asc, hM.n2, hM.ok⟩
theorem best_best {fit : Nat → Nat → Bool} {nH nP : Nat} {X : List (Nat × Nat)} (hX : X ∈ allN fit nP nH) (hne : X ≠ bestL fit nH nP) : betB (bestL fit nH nP) X = true ∧ betB X (bestL fit nH nP) = false := by
  have hP := mem_allN.1 hX
  have hL : MatL fit nH nP X := ⟨fst_nodup hP.asc, hP.n2, hP.ok⟩
  have hle := (best_spec fit nH nP).2.1 X hL
  have hbf := fun (hl : X.length = (bestL fit nH nP).length) (i : Nat) (x y : Nat × Nat) (hx : (bestL fit nH nP)[i]? = some x) (hy : X[i]? = some y) hpre => best_first hL hP.asc hl hx hy hpre
  generalize bestL fit nH nP = F at hle hne hbf
  by_cases hl : X.length = F.length
  · have hb : ∀ j, j < F.length → gq F j ≠ gq X j → (∀ j', j' < j → gq F j' = gq X j') → lexB (gq F j) (gq X j) = true ∧ lexB (gq X j) (gq F j) = false := by
      intro j hj hd hp
      have h := hbf hl j (gq F j) (gq X j) (at_gq hj) (at_gq (by omega)) (fun j' hj' => by rw [at_gq (by omega), at_gq (by omega), hp j' hj'])
      have hd2 : (gq F j).1 ≠ (gq X j).1 ∨ (gq F j).2 ≠ (gq X j).2 := by
        by_cases e1 : (gq F j).1 = (gq X j).1
        · refine .inr fun e2 => hd (Prod.ext e1 e2)
        · exact .inl e1
      unfold lexB
      constructor
      · simp only [Bool.or_eq_true, Bool.and_eq_true, decide_eq_true_eq]; omega
      · rw [Bool.eq_false_iff]
        simp only [ne_eq, Bool.or_eq_true, Bool.and_eq_true, decide_eq_true_eq]; omega
    have hnall : ¬ ∀ j, j < F.length → gq F j = gq X j := fun h => hne (ext_gq hl fun j hj => (h j (by omega)).symm)
    unfold betB
    constructor
    · rcases bfE_first (X := F) (Y := X) (n := F.length) F.length 0 (by omega) (fun j hj => by omega) with ⟨j, h1, h2, h3, h4⟩ | ⟨h1, _⟩
      · rw [h4, (hb j h1 h2 h3).1, decide_eq_true hl.symm]; simp
      · exact absurd h1 hnall
    · rcases bfE_first (X := X) (Y := F) (n := F.length) X.length 0 (by omega) (fun j hj => by omega) with ⟨j, h1, h2, h3, h4⟩ | ⟨h1, _⟩
      · rw [h4, (hb j h1 (fun e => h2 e.symm) (fun j' hj' => (h3 j' hj').symm)).2, decide_eq_false (by omega)]; simp
      · exact absurd (fun j hj => (h1 j hj).symm) hnall
  · unfold betB
    rw [decide_eq_true (by omega : X.length < F.length), decide_eq_false (by omega : ¬ F.length < X.length), decide_eq_false hl]
    exact ⟨rfl, rfl⟩
theorem prg_len {fit : Nat → Nat → Bool} {nP k : Nat} {X : List (Nat × Nat)} (h : Prg fit nP k X) : X.length ≤ k := by
  have := nodup_len (l' := List.range k) (fst_nodup h.asc) (fun x hx => by
    obtain ⟨y, hy, rfl⟩ := List.mem_map.1 hx
    exact List.mem_range.2 (h.ok y hy).1)
  rw [List.length_map, List.length_range] at this
  exact this
end Go.Proofs.Ytogilkilkmoedaa
namespace Go.Proofs.Ytogilkilkmoedaa
open Go Go.Vc Go.RowKit
set_option maxHeartbeats 8000000
/-! KDQ -/
abbrev qs (l : List (Nat × Nat)) : AV := .sl l.length 2 (qf l)
theorem few1_c (l : List Int) : CtrA Try.prog 41 [zs l] (vb (decide (l.length ≤ 6))) := by
  refine ctrA _ Try.func41 rfl rfl Try.ntmps41 rfl fun w Z => ?_
  simp only [initT, List.map_cons, List.map_nil, Nat.zero_add, Nat.reduceAdd]
  refine cq_seq ?_
  refine cq_region ?_
  apply sq_g; exact g_assign (s := .av (.val (.bool _))) rfl; exact rfl
  refine sq_nil ?_
  refine sq_then ?_
  refine cq_seq ?_
  refine cq_region ?_
  apply sq_g; exact g_move (s := .av _) rfl; exact rfl
  apply sq_g; exact g_len rfl; exact rfl
  apply sq_g; exact g_cmp rfl rfl rfl; exact rfl
  apply sq_g; exact g_assign (s := .av (.val (.bool _))) rfl; exact rfl
  refine sq_nil ?_
  refine sq_then ?_
  refine cq_ret ?_
  exact sq_res1 rfl (.tmp rfl) (congrArg vb (by rw [Bool.eq_iff_iff, decide_eq_true_eq, decide_eq_true_eq]; omega))
def fewP (a b : Nat) : Prop := (a ≤ 6 ∧ b ≤ 6 ∧ a * b ≤ 25) ∨ (256 < a ∧ a ≤ 512 ∧ b ≤ 512) ∨ (256 < b ∧ b ≤ 512 ∧ a ≤ 512)
instance (a b : Nat) : Decidable (fewP a b) := by unfold fewP; exact inferInstance
theorem few_c (H P : List Int) : CtrA Try.prog 15 [zs H, zs P] (vb (decide (fewP H.length P.length))) := by
  refine ctrA _ Try.func15 rfl rfl Try.ntmps15 rfl fun w Z => ?_
  have c1 := few1_c H
  have c2 := few1_c P
  simp only [initT, List.map_cons, List.map_nil, Nat.zero_add, Nat.reduceAdd]
  focus
    refine cq_seq ?_
    refine cq_region ?_
    apply sq_g; exact g_assign (s := .av (.val (.bool _))) rfl; exact rfl
    refine sq_nil ?_
    refine sq_then ?_
    refine cq_seq ?_
    refine cq_region ?_
    apply sq_g; exact g_move (s := .av _) rfl; exact rfl
    apply sq_g; exact g_call (c1) rfl; exact rfl
    apply sq_g; exact g_move (s := .av (.val (.bool _))) rfl; exact rfl
    refine sq_split rfl rfl (fun hb => ?_) (fun hb => ?_) <;> (try simp only [decide_eq_true_eq, decide_eq_false_iff_not, beq_iff_eq, beq_eq_false_iff_ne, bne_iff_ne, bne_eq_false_iff_eq, ne_eq, Bool.not_eq_true', Bool.not_eq_false', Bool.and_eq_true, Bool.or_eq_true, Bool.and_eq_false_iff, Bool.or_eq_false_iff] at hb) <;> (try (exfalso; omega))
    apply sq_on; exact g_move (s := .av _) rfl; exact rfl; exact rfl; exact rfl
    apply sq_on; exact g_call (c2) rfl; exact rfl; exact rfl; exact rfl
    apply sq_g; exact g_pick (s := .av (.val (.bool _))) rfl rfl; exact rfl
    apply sq_g; exact g_move (s := .av (.val (.bool _))) rfl; exact rfl
    refine sq_split rfl rfl (fun hb => ?_) (fun hb => ?_) <;> (try simp only [decide_eq_true_eq, decide_eq_false_iff_not, beq_iff_eq, beq_eq_false_iff_ne, bne_iff_ne, bne_eq_false_iff_eq, ne_eq, Bool.not_eq_true', Bool.not_eq_false', Bool.and_eq_true, Bool.or_eq_true, Bool.and_eq_false_iff, Bool.or_eq_false_iff] at hb) <;> (try (exfalso; omega))
    apply sq_on; exact g_move (s := .av _) rfl; exact rfl; exact rfl; exact rfl
    apply sq_on; exact g_len rfl; exact rfl; exact rfl; exact rfl
    apply sq_on; exact g_move (s := .av _) rfl; exact rfl; exact rfl; exact rfl
    apply sq_on; exact g_len rfl; exact rfl; exact rfl; exact rfl
    apply sq_on; exact g_mulB rfl rfl (by omega) (by omega); exact rfl; exact rfl; exact rfl
    apply sq_on; exact g_cmp rfl rfl rfl; exact rfl; exact rfl; exact rfl
    apply sq_g; exact g_pick (s := .av (.val (.bool _))) rfl rfl; exact rfl
    apply sq_g; exact g_move (s := .av (.val (.bool _))) rfl; exact rfl
    refine sq_split rfl rfl (fun hb => ?_) (fun hb => ?_) <;> (try simp only [decide_eq_true_eq, decide_eq_false_iff_not, beq_iff_eq, beq_eq_false_iff_ne, bne_iff_ne, bne_eq_false_iff_eq, ne_eq, Bool.not_eq_true', Bool.not_eq_false', Bool.and_eq_true, Bool.or_eq_true, Bool.and_eq_false_iff, Bool.or_eq_false_iff] at hb) <;> (try (exfalso; omega))
    refine sq_off rfl rfl rfl rfl ?_
    refine sq_off rfl rfl rfl rfl ?_
    refine sq_off rfl rfl rfl rfl ?_
    refine sq_off rfl rfl rfl rfl ?_
    refine sq_offu rfl rfl rfl ?_
    refine sq_offu rfl rfl rfl ?_
    refine sq_offu rfl rfl rfl ?_
    refine sq_off rfl rfl rfl rfl ?_
    refine sq_off rfl rfl rfl rfl ?_
    refine sq_offu rfl rfl rfl ?_
    refine sq_offu rfl rfl rfl ?_
    refine sq_offu rfl rfl rfl ?_
    refine sq_off rfl rfl rfl rfl ?_
    apply sq_g; exact g_pick (s := .av (.val (.bool _))) rfl rfl; exact rfl
    apply sq_g; exact g_move (s := .av (.val (.bool _))) rfl; exact rfl
    refine sq_off rfl rfl rfl rfl ?_
    refine sq_off rfl rfl rfl rfl ?_
    refine sq_off rfl rfl rfl rfl ?_
    refine sq_off rfl rfl rfl rfl ?_
    refine sq_offu rfl rfl rfl ?_
    refine sq_offu rfl rfl rfl ?_
    refine sq_offu rfl rfl rfl ?_
    refine sq_off rfl rfl rfl rfl ?_
    refine sq_off rfl rfl rfl rfl ?_
    refine sq_offu rfl rfl rfl ?_
    refine sq_offu rfl rfl rfl ?_
    refine sq_offu rfl rfl rfl ?_
    refine sq_off rfl rfl rfl rfl ?_
    apply sq_g; exact g_pick (s := .av (.val (.bool _))) rfl rfl; exact rfl
    apply sq_g; exact g_assign (s := .av (.val (.bool _))) rfl; exact rfl
    refine sq_nil ?_
    refine sq_then ?_
    refine cq_ret ?_
    rotate_left
    apply sq_on; exact g_move (s := .av _) rfl; exact rfl; exact rfl; exact rfl
    apply sq_on; exact g_len rfl; exact rfl; exact rfl; exact rfl
    apply sq_on; exact g_cmp rfl rfl rfl; exact rfl; exact rfl; exact rfl
    apply sq_on; exact g_move (s := .av (.val (.bool _))) rfl; exact rfl; exact rfl; exact rfl
    refine sq_split rfl rfl (fun hb => ?_) (fun hb => ?_) <;> (try simp only [decide_eq_true_eq, decide_eq_false_iff_not, beq_iff_eq, beq_eq_false_iff_ne, bne_iff_ne, bne_eq_false_iff_eq, ne_eq, Bool.not_eq_true', Bool.not_eq_false', Bool.and_eq_true, Bool.or_eq_true, Bool.and_eq_false_iff, Bool.or_eq_false_iff] at hb) <;> (try (exfalso; omega))
    refine sq_off rfl rfl rfl rfl ?_
    refine sq_off rfl rfl rfl rfl ?_
    refine sq_off rfl rfl rfl rfl ?_
    apply sq_on; exact g_pick (s := .av (.val (.bool _))) rfl rfl; exact rfl; exact rfl; exact rfl
    apply sq_on; exact g_move (s := .av (.val (.bool _))) rfl; exact rfl; exact rfl; exact rfl
    refine sq_off rfl rfl rfl rfl ?_
    refine sq_off rfl rfl rfl rfl ?_
    refine sq_off rfl rfl rfl rfl ?_
    apply sq_on; exact g_pick (s := .av (.val (.bool _))) rfl rfl; exact rfl; exact rfl; exact rfl
    apply sq_g; exact g_pick (s := .av (.val (.bool _))) rfl rfl; exact rfl
    apply sq_g; exact g_move (s := .av (.val (.bool _))) rfl; exact rfl
    apply sq_on; exact g_move (s := .av _) rfl; exact rfl; exact rfl; exact rfl
    apply sq_on; exact g_len rfl; exact rfl; exact rfl; exact rfl
    apply sq_on; exact g_cmp rfl rfl rfl; exact rfl; exact rfl; exact rfl
    apply sq_on; exact g_move (s := .av (.val (.bool _))) rfl; exact rfl; exact rfl; exact rfl
    refine sq_split rfl rfl (fun hb => ?_) (fun hb => ?_) <;> (try simp only [decide_eq_true_eq, decide_eq_false_iff_not, beq_iff_eq, beq_eq_false_iff_ne, bne_iff_ne, bne_eq_false_iff_eq, ne_eq, Bool.not_eq_true', Bool.not_eq_false', Bool.and_eq_true, Bool.or_eq_true, Bool.and_eq_false_iff, Bool.or_eq_false_iff] at hb) <;> (try (exfalso; omega))
    refine sq_off rfl rfl rfl rfl ?_
    refine sq_off rfl rfl rfl rfl ?_
    refine sq_off rfl rfl rfl rfl ?_
    apply sq_on; exact g_pick (s := .av (.val (.bool _))) rfl rfl; exact rfl; exact rfl; exact rfl
    apply sq_on; exact g_move (s := .av (.val (.bool _))) rfl; exact rfl; exact rfl; exact rfl
    refine sq_off rfl rfl rfl rfl ?_
    refine sq_off rfl rfl rfl rfl ?_
    refine sq_off rfl rfl rfl rfl ?_
    apply sq_on; exact g_pick (s := .av (.val (.bool _))) rfl rfl; exact rfl; exact rfl; exact rfl
    apply sq_g; exact g_pick (s := .av (.val (.bool _))) rfl rfl; exact rfl
    apply sq_g; exact g_assign (s := .av (.val (.bool _))) rfl; exact rfl
    refine sq_nil ?_
    refine sq_then ?_
    refine cq_ret ?_
    rotate_left
    refine sq_off rfl rfl rfl rfl ?_
    refine sq_off rfl rfl rfl rfl ?_
    refine sq_off rfl rfl rfl rfl ?_
    refine sq_off rfl rfl rfl rfl ?_
    refine sq_off rfl rfl rfl rfl ?_
    refine sq_off rfl rfl rfl rfl ?_
    apply sq_g; exact g_pick (s := .av (.val (.bool _))) rfl rfl; exact rfl
    apply sq_g; exact g_move (s := .av (.val (.bool _))) rfl; exact rfl
    apply sq_on; exact g_move (s := .av _) rfl; exact rfl; exact rfl; exact rfl
    apply sq_on; exact g_len rfl; exact rfl; exact rfl; exact rfl
    apply sq_on; exact g_cmp rfl rfl rfl; exact rfl; exact rfl; exact rfl
    apply sq_on; exact g_move (s := .av (.val (.bool _))) rfl; exact rfl; exact rfl; exact rfl
    refine sq_split rfl rfl (fun hb => ?_) (fun hb => ?_) <;> (try simp only [decide_eq_true_eq, decide_eq_false_iff_not, beq_iff_eq, beq_eq_false_iff_ne, bne_iff_ne, bne_eq_false_iff_eq, ne_eq, Bool.not_eq_true', Bool.not_eq_false', Bool.and_eq_true, Bool.or_eq_true, Bool.and_eq_false_iff, Bool.or_eq_false_iff] at hb) <;> (try (exfalso; omega))
    refine sq_off rfl rfl rfl rfl ?_
    refine sq_off rfl rfl rfl rfl ?_
    refine sq_off rfl rfl rfl rfl ?_
    apply sq_on; exact g_pick (s := .av (.val (.bool _))) rfl rfl; exact rfl; exact rfl; exact rfl
    apply sq_on; exact g_move (s := .av (.val (.bool _))) rfl; exact rfl; exact rfl; exact rfl
    refine sq_off rfl rfl rfl rfl ?_
    refine sq_off rfl rfl rfl rfl ?_
    refine sq_off rfl rfl rfl rfl ?_
    apply sq_on; exact g_pick (s := .av (.val (.bool _))) rfl rfl; exact rfl; exact rfl; exact rfl
    apply sq_g; exact g_pick (s := .av (.val (.bool _))) rfl rfl; exact rfl
    apply sq_g; exact g_move (s := .av (.val (.bool _))) rfl; exact rfl
    apply sq_on; exact g_move (s := .av _) rfl; exact rfl; exact rfl; exact rfl
    apply sq_on; exact g_len rfl; exact rfl; exact rfl; exact rfl
    apply sq_on; exact g_cmp rfl rfl rfl; exact rfl; exact rfl; exact rfl
    apply sq_on; exact g_move (s := .av (.val (.bool _))) rfl; exact rfl; exact rfl; exact rfl
    refine sq_split rfl rfl (fun hb => ?_) (fun hb => ?_) <;> (try simp only [decide_eq_true_eq, decide_eq_false_iff_not, beq_iff_eq, beq_eq_false_iff_ne, bne_iff_ne, bne_eq_false_iff_eq, ne_eq, Bool.not_eq_true', Bool.not_eq_false', Bool.and_eq_true, Bool.or_eq_true, Bool.and_eq_false_iff, Bool.or_eq_false_iff] at hb) <;> (try (exfalso; omega))
    apply sq_on; exact g_move (s := .av _) rfl; exact rfl; exact rfl; exact rfl
    apply sq_on; exact g_len rfl; exact rfl; exact rfl; exact rfl
    apply sq_on; exact g_cmp rfl rfl rfl; exact rfl; exact rfl; exact rfl
    apply sq_on; exact g_pick (s := .av (.val (.bool _))) rfl rfl; exact rfl; exact rfl; exact rfl
    apply sq_on; exact g_move (s := .av (.val (.bool _))) rfl; exact rfl; exact rfl; exact rfl
    refine sq_split rfl rfl (fun hb => ?_) (fun hb => ?_) <;> (try simp only [decide_eq_true_eq, decide_eq_false_iff_not, beq_iff_eq, beq_eq_false_iff_ne, bne_iff_ne, bne_eq_false_iff_eq, ne_eq, Bool.not_eq_true', Bool.not_eq_false', Bool.and_eq_true, Bool.or_eq_true, Bool.and_eq_false_iff, Bool.or_eq_false_iff] at hb) <;> (try (exfalso; omega))
    apply sq_on; exact g_move (s := .av _) rfl; exact rfl; exact rfl; exact rfl
    apply sq_on; exact g_len rfl; exact rfl; exact rfl; exact rfl
    apply sq_on; exact g_cmp rfl rfl rfl; exact rfl; exact rfl; exact rfl
    apply sq_on; exact g_pick (s := .av (.val (.bool _))) rfl rfl; exact rfl; exact rfl; exact rfl
    apply sq_g; exact g_pick (s := .av (.val (.bool _))) rfl rfl; exact rfl
    apply sq_g; exact g_assign (s := .av (.val (.bool _))) rfl; exact rfl
    refine sq_nil ?_
    refine sq_then ?_
    refine cq_ret ?_
    rotate_left
    refine sq_off rfl rfl rfl rfl ?_
    refine sq_off rfl rfl rfl rfl ?_
    refine sq_off rfl rfl rfl rfl ?_
    apply sq_on; exact g_pick (s := .av (.val (.bool _))) rfl rfl; exact rfl; exact rfl; exact rfl
    apply sq_g; exact g_pick (s := .av (.val (.bool _))) rfl rfl; exact rfl
    apply sq_g; exact g_assign (s := .av (.val (.bool _))) rfl; exact rfl
    refine sq_nil ?_
    refine sq_then ?_
    refine cq_ret ?_
    rotate_left
    refine sq_off rfl rfl rfl rfl ?_
    refine sq_off rfl rfl rfl rfl ?_
    refine sq_off rfl rfl rfl rfl ?_
    apply sq_on; exact g_pick (s := .av (.val (.bool _))) rfl rfl; exact rfl; exact rfl; exact rfl
    apply sq_on; exact g_move (s := .av (.val (.bool _))) rfl; exact rfl; exact rfl; exact rfl
    refine sq_off rfl rfl rfl rfl ?_
    refine sq_off rfl rfl rfl rfl ?_
    refine sq_off rfl rfl rfl rfl ?_
    apply sq_on; exact g_pick (s := .av (.val (.bool _))) rfl rfl; exact rfl; exact rfl; exact rfl
    apply sq_g; exact g_pick (s := .av (.val (.bool _))) rfl rfl; exact rfl
    apply sq_g; exact g_assign (s := .av (.val (.bool _))) rfl; exact rfl
    refine sq_nil ?_
    refine sq_then ?_
    refine cq_ret ?_
    rotate_left
    refine sq_off rfl rfl rfl rfl ?_
    refine sq_off rfl rfl rfl rfl ?_
    apply sq_g; exact g_pick (s := .av (.val (.bool _))) rfl rfl; exact rfl
    apply sq_g; exact g_move (s := .av (.val (.bool _))) rfl; exact rfl
    refine sq_off rfl rfl rfl rfl ?_
    refine sq_off rfl rfl rfl rfl ?_
    refine sq_off rfl rfl rfl rfl ?_
    refine sq_off rfl rfl rfl rfl ?_
    refine sq_off rfl rfl rfl rfl ?_
    refine sq_off rfl rfl rfl rfl ?_
    apply sq_g; exact g_pick (s := .av (.val (.bool _))) rfl rfl; exact rfl
    apply sq_g; exact g_move (s := .av (.val (.bool _))) rfl; exact rfl
    apply sq_on; exact g_move (s := .av _) rfl; exact rfl; exact rfl; exact rfl
    apply sq_on; exact g_len rfl; exact rfl; exact rfl; exact rfl
    apply sq_on; exact g_cmp rfl rfl rfl; exact rfl; exact rfl; exact rfl
    apply sq_on; exact g_move (s := .av (.val (.bool _))) rfl; exact rfl; exact rfl; exact rfl
    refine sq_split rfl rfl (fun hb => ?_) (fun hb => ?_) <;> (try simp only [decide_eq_true_eq, decide_eq_false_iff_not, beq_iff_eq, beq_eq_false_iff_ne, bne_iff_ne, bne_eq_false_iff_eq, ne_eq, Bool.not_eq_true', Bool.not_eq_false', Bool.and_eq_true, Bool.or_eq_true, Bool.and_eq_false_iff, Bool.or_eq_false_iff] at hb) <;> (try (exfalso; omega))
    apply sq_on; exact g_move (s := .av _) rfl; exact rfl; exact rfl; exact rfl
    apply sq_on; exact g_len rfl; exact rfl; exact rfl; exact rfl
    apply sq_on; exact g_cmp rfl rfl rfl; exact rfl; exact rfl; exact rfl
    apply sq_on; exact g_pick (s := .av (.val (.bool _))) rfl rfl; exact rfl; exact rfl; exact rfl
    apply sq_on; exact g_move (s := .av (.val (.bool _))) rfl; exact rfl; exact rfl; exact rfl
    refine sq_split rfl rfl (fun hb => ?_) (fun hb => ?_) <;> (try simp only [decide_eq_true_eq, decide_eq_false_iff_not, beq_iff_eq, beq_eq_false_iff_ne, bne_iff_ne, bne_eq_false_iff_eq, ne_eq, Bool.not_eq_true', Bool.not_eq_false', Bool.and_eq_true, Bool.or_eq_true, Bool.and_eq_false_iff, Bool.or_eq_false_iff] at hb) <;> (try (exfalso; omega))
    apply sq_on; exact g_move (s := .av _) rfl; exact rfl; exact rfl; exact rfl
    apply sq_on; exact g_len rfl; exact rfl; exact rfl; exact rfl
    apply sq_on; exact g_cmp rfl rfl rfl; exact rfl; exact rfl; exact rfl
    apply sq_on; exact g_pick (s := .av (.val (.bool _))) rfl rfl; exact rfl; exact rfl; exact rfl
    apply sq_g; exact g_pick (s := .av (.val (.bool _))) rfl rfl; exact rfl
    apply sq_g; exact g_move (s := .av (.val (.bool _))) rfl; exact rfl
    refine sq_split rfl rfl (fun hb => ?_) (fun hb => ?_) <;> (try simp only [decide_eq_true_eq, decide_eq_false_iff_not, beq_iff_eq, beq_eq_false_iff_ne, bne_iff_ne, bne_eq_false_iff_eq, ne_eq, Bool.not_eq_true', Bool.not_eq_false', Bool.and_eq_true, Bool.or_eq_true, Bool.and_eq_false_iff, Bool.or_eq_false_iff] at hb) <;> (try (exfalso; omega))
    refine sq_off rfl rfl rfl rfl ?_
    refine sq_off rfl rfl rfl rfl ?_
    refine sq_off rfl rfl rfl rfl ?_
    refine sq_off rfl rfl rfl rfl ?_
    refine sq_offu rfl rfl rfl ?_
    refine sq_offu rfl rfl rfl ?_
    refine sq_offu rfl rfl rfl ?_
    refine sq_off rfl rfl rfl rfl ?_
    refine sq_off rfl rfl rfl rfl ?_
    refine sq_offu rfl rfl rfl ?_
    refine sq_offu rfl rfl rfl ?_
    refine sq_offu rfl rfl rfl ?_
    refine sq_off rfl rfl rfl rfl ?_
    apply sq_g; exact g_pick (s := .av (.val (.bool _))) rfl rfl; exact rfl
    apply sq_g; exact g_assign (s := .av (.val (.bool _))) rfl; exact rfl
    refine sq_nil ?_
    refine sq_then ?_
    refine cq_ret ?_
    rotate_left
    apply sq_on; exact g_move (s := .av _) rfl; exact rfl; exact rfl; exact rfl
    apply sq_on; exact g_len rfl; exact rfl; exact rfl; exact rfl
    apply sq_on; exact g_cmp rfl rfl rfl; exact rfl; exact rfl; exact rfl
    apply sq_on; exact g_move (s := .av (.val (.bool _))) rfl; exact rfl; exact rfl; exact rfl
    refine sq_split rfl rfl (fun hb => ?_) (fun hb => ?_) <;> (try simp only [decide_eq_true_eq, decide_eq_false_iff_not, beq_iff_eq, beq_eq_false_iff_ne, bne_iff_ne, bne_eq_false_iff_eq, ne_eq, Bool.not_eq_true', Bool.not_eq_false', Bool.and_eq_true, Bool.or_eq_true, Bool.and_eq_false_iff, Bool.or_eq_false_iff] at hb) <;> (try (exfalso; omega))
    apply sq_on; exact g_move (s := .av _) rfl; exact rfl; exact rfl; exact rfl
    apply sq_on; exact g_len rfl; exact rfl; exact rfl; exact rfl
    apply sq_on; exact g_cmp rfl rfl rfl; exact rfl; exact rfl; exact rfl
    apply sq_on; exact g_pick (s := .av (.val (.bool _))) rfl rfl; exact rfl; exact rfl; exact rfl
    apply sq_on; exact g_move (s := .av (.val (.bool _))) rfl; exact rfl; exact rfl; exact rfl
    refine sq_split rfl rfl (fun hb => ?_) (fun hb => ?_) <;> (try simp only [decide_eq_true_eq, decide_eq_false_iff_not, beq_iff_eq, beq_eq_false_iff_ne, bne_iff_ne, bne_eq_false_iff_eq, ne_eq, Bool.not_eq_true', Bool.not_eq_false', Bool.and_eq_true, Bool.or_eq_true, Bool.and_eq_false_iff, Bool.or_eq_false_iff] at hb) <;> (try (exfalso; omega))
    refine sq_off rfl rfl rfl rfl ?_
    refine sq_off rfl rfl rfl rfl ?_
    refine sq_off rfl rfl rfl rfl ?_
    apply sq_on; exact g_pick (s := .av (.val (.bool _))) rfl rfl; exact rfl; exact rfl; exact rfl
    apply sq_g; exact g_pick (s := .av (.val (.bool _))) rfl rfl; exact rfl
    apply sq_g; exact g_assign (s := .av (.val (.bool _))) rfl; exact rfl
    refine sq_nil ?_
    refine sq_then ?_
    refine cq_ret ?_
    rotate_left
    refine sq_off rfl rfl rfl rfl ?_
    refine sq_off rfl rfl rfl rfl ?_
    refine sq_off rfl rfl rfl rfl ?_
    apply sq_on; exact g_pick (s := .av (.val (.bool _))) rfl rfl; exact rfl; exact rfl; exact rfl
    apply sq_g; exact g_pick (s := .av (.val (.bool _))) rfl rfl; exact rfl
    apply sq_g; exact g_move (s := .av (.val (.bool _))) rfl; exact rfl
    apply sq_on; exact g_move (s := .av _) rfl; exact rfl; exact rfl; exact rfl
    apply sq_on; exact g_len rfl; exact rfl; exact rfl; exact rfl
    apply sq_on; exact g_cmp rfl rfl rfl; exact rfl; exact rfl; exact rfl
    apply sq_on; exact g_move (s := .av (.val (.bool _))) rfl; exact rfl; exact rfl; exact rfl
    refine sq_split rfl rfl (fun hb => ?_) (fun hb => ?_) <;> (try simp only [decide_eq_true_eq, decide_eq_false_iff_not, beq_iff_eq, beq_eq_false_iff_ne, bne_iff_ne, bne_eq_false_iff_eq, ne_eq, Bool.not_eq_true', Bool.not_eq_false', Bool.and_eq_true, Bool.or_eq_true, Bool.and_eq_false_iff, Bool.or_eq_false_iff] at hb) <;> (try (exfalso; omega))
    apply sq_on; exact g_move (s := .av _) rfl; exact rfl; exact rfl; exact rfl
    apply sq_on; exact g_len rfl; exact rfl; exact rfl; exact rfl
    apply sq_on; exact g_cmp rfl rfl rfl; exact rfl; exact rfl; exact rfl
    apply sq_on; exact g_pick (s := .av (.val (.bool _))) rfl rfl; exact rfl; exact rfl; exact rfl
    apply sq_on; exact g_move (s := .av (.val (.bool _))) rfl; exact rfl; exact rfl; exact rfl
    refine sq_split rfl rfl (fun hb => ?_) (fun hb => ?_) <;> (try simp only [decide_eq_true_eq, decide_eq_false_iff_not, beq_iff_eq, beq_eq_false_iff_ne, bne_iff_ne, bne_eq_false_iff_eq, ne_eq, Bool.not_eq_true', Bool.not_eq_false', Bool.and_eq_true, Bool.or_eq_true, Bool.and_eq_false_iff, Bool.or_eq_false_iff] at hb) <;> (try (exfalso; omega))
    apply sq_on; exact g_move (s := .av _) rfl; exact rfl; exact rfl; exact rfl
    apply sq_on; exact g_len rfl; exact rfl; exact rfl; exact rfl
    apply sq_on; exact g_cmp rfl rfl rfl; exact rfl; exact rfl; exact rfl
    apply sq_on; exact g_pick (s := .av (.val (.bool _))) rfl rfl; exact rfl; exact rfl; exact rfl
    apply sq_g; exact g_pick (s := .av (.val (.bool _))) rfl rfl; exact rfl
    apply sq_g; exact g_assign (s := .av (.val (.bool _))) rfl; exact rfl
    refine sq_nil ?_
    refine sq_then ?_
    refine cq_ret ?_
    rotate_left
    refine sq_off rfl rfl rfl rfl ?_
    refine sq_off rfl rfl rfl rfl ?_
    refine sq_off rfl rfl rfl rfl ?_
    apply sq_on; exact g_pick (s := .av (.val (.bool _))) rfl rfl; exact rfl; exact rfl; exact rfl
    apply sq_g; exact g_pick (s := .av (.val (.bool _))) rfl rfl; exact rfl
    apply sq_g; exact g_assign (s := .av (.val (.bool _))) rfl; exact rfl
    refine sq_nil ?_
    refine sq_then ?_
    refine cq_ret ?_
    rotate_left
    refine sq_off rfl rfl rfl rfl ?_
    refine sq_off rfl rfl rfl rfl ?_
    refine sq_off rfl rfl rfl rfl ?_
    apply sq_on; exact g_pick (s := .av (.val (.bool _))) rfl rfl; exact rfl; exact rfl; exact rfl
    apply sq_on; exact g_move (s := .av (.val (.bool _))) rfl; exact rfl; exact rfl; exact rfl
    refine sq_off rfl rfl rfl rfl ?_
    refine sq_off rfl rfl rfl rfl ?_
    refine sq_off rfl rfl rfl rfl ?_
    apply sq_on; exact g_pick (s := .av (.val (.bool _))) rfl rfl; exact rfl; exact rfl; exact rfl
    apply sq_g; exact g_pick (s := .av (.val (.bool _))) rfl rfl; exact rfl
    apply sq_g; exact g_assign (s := .av (.val (.bool _))) rfl; exact rfl
    refine sq_nil ?_
    refine sq_then ?_
    refine cq_ret ?_
    rotate_left
    refine sq_off rfl rfl rfl rfl ?_
    refine sq_off rfl rfl rfl rfl ?_
    refine sq_off rfl rfl rfl rfl ?_
    apply sq_on; exact g_pick (s := .av (.val (.bool _))) rfl rfl; exact rfl; exact rfl; exact rfl
    apply sq_on; exact g_move (s := .av (.val (.bool _))) rfl; exact rfl; exact rfl; exact rfl
    refine sq_off rfl rfl rfl rfl ?_
    refine sq_off rfl rfl rfl rfl ?_
    refine sq_off rfl rfl rfl rfl ?_
    apply sq_on; exact g_pick (s := .av (.val (.bool _))) rfl rfl; exact rfl; exact rfl; exact rfl
    apply sq_g; exact g_pick (s := .av (.val (.bool _))) rfl rfl; exact rfl
    apply sq_g; exact g_move (s := .av (.val (.bool _))) rfl; exact rfl
    apply sq_on; exact g_move (s := .av _) rfl; exact rfl; exact rfl; exact rfl
    apply sq_on; exact g_len rfl; exact rfl; exact rfl; exact rfl
    apply sq_on; exact g_cmp rfl rfl rfl; exact rfl; exact rfl; exact rfl
    apply sq_on; exact g_move (s := .av (.val (.bool _))) rfl; exact rfl; exact rfl; exact rfl
    refine sq_split rfl rfl (fun hb => ?_) (fun hb => ?_) <;> (try simp only [decide_eq_true_eq, decide_eq_false_iff_not, beq_iff_eq, beq_eq_false_iff_ne, bne_iff_ne, bne_eq_false_iff_eq, ne_eq, Bool.not_eq_true', Bool.not_eq_false', Bool.and_eq_true, Bool.or_eq_true, Bool.and_eq_false_iff, Bool.or_eq_false_iff] at hb) <;> (try (exfalso; omega))
    apply sq_on; exact g_move (s := .av _) rfl; exact rfl; exact rfl; exact rfl
    apply sq_on; exact g_len rfl; exact rfl; exact rfl; exact rfl
    apply sq_on; exact g_cmp rfl rfl rfl; exact rfl; exact rfl; exact rfl
    apply sq_on; exact g_pick (s := .av (.val (.bool _))) rfl rfl; exact rfl; exact rfl; exact rfl
    apply sq_on; exact g_move (s := .av (.val (.bool _))) rfl; exact rfl; exact rfl; exact rfl
    refine sq_split rfl rfl (fun hb => ?_) (fun hb => ?_) <;> (try simp only [decide_eq_true_eq, decide_eq_false_iff_not, beq_iff_eq, beq_eq_false_iff_ne, bne_iff_ne, bne_eq_false_iff_eq, ne_eq, Bool.not_eq_true', Bool.not_eq_false', Bool.and_eq_true, Bool.or_eq_true, Bool.and_eq_false_iff, Bool.or_eq_false_iff] at hb) <;> (try (exfalso; omega))
    apply sq_on; exact g_move (s := .av _) rfl; exact rfl; exact rfl; exact rfl
    apply sq_on; exact g_len rfl; exact rfl; exact rfl; exact rfl
    apply sq_on; exact g_cmp rfl rfl rfl; exact rfl; exact rfl; exact rfl
    apply sq_on; exact g_pick (s := .av (.val (.bool _))) rfl rfl; exact rfl; exact rfl; exact rfl
    apply sq_g; exact g_pick (s := .av (.val (.bool _))) rfl rfl; exact rfl
    apply sq_g; exact g_assign (s := .av (.val (.bool _))) rfl; exact rfl
    refine sq_nil ?_
    refine sq_then ?_
    refine cq_ret ?_
    rotate_left
    refine sq_off rfl rfl rfl rfl ?_
    refine sq_off rfl rfl rfl rfl ?_
    refine sq_off rfl rfl rfl rfl ?_
    apply sq_on; exact g_pick (s := .av (.val (.bool _))) rfl rfl; exact rfl; exact rfl; exact rfl
    apply sq_g; exact g_pick (s := .av (.val (.bool _))) rfl rfl; exact rfl
    apply sq_g; exact g_assign (s := .av (.val (.bool _))) rfl; exact rfl
    refine sq_nil ?_
    refine sq_then ?_
    refine cq_ret ?_
    rotate_left
    refine sq_off rfl rfl rfl rfl ?_
    refine sq_off rfl rfl rfl rfl ?_
    refine sq_off rfl rfl rfl rfl ?_
    apply sq_on; exact g_pick (s := .av (.val (.bool _))) rfl rfl; exact rfl; exact rfl; exact rfl
    apply sq_on; exact g_move (s := .av (.val (.bool _))) rfl; exact rfl; exact rfl; exact rfl
    refine sq_off rfl rfl rfl rfl ?_
    refine sq_off rfl rfl rfl rfl ?_
    refine sq_off rfl rfl rfl rfl ?_
    apply sq_on; exact g_pick (s := .av (.val (.bool _))) rfl rfl; exact rfl; exact rfl; exact rfl
    apply sq_g; exact g_pick (s := .av (.val (.bool _))) rfl rfl; exact rfl
    apply sq_g; exact g_assign (s := .av (.val (.bool _))) rfl; exact rfl
    refine sq_nil ?_
    refine sq_then ?_
    refine cq_ret ?_
    rotate_left
  all_goals (refine sq_res1 rfl (.tmp rfl) (congrArg vb ?_); rw [Bool.eq_iff_iff]; simp only [decide_eq_true_eq, Bool.false_eq_true, true_iff, false_iff, eq_self_iff_true]; unfold fewP; omega)
theorem used_c (l : List (Nat × Nat)) (p : Nat) (hn : l.length ≤ 1000000) : CtrA Try.prog 81 [qs l, vi p] (vb (usedN l p)) := by
  refine ctrA _ Try.func81 rfl rfl Try.ntmps81 rfl fun w Z => ?_
  simp only [initT, List.map_cons, List.map_nil, Nat.zero_add, Nat.reduceAdd]
  refine cq_seq ?_
  refine cq_region ?_
  apply sq_g; exact g_assign (s := .av (.val (.bool _))) rfl; exact rfl
  refine sq_nil ?_
  refine sq_then ?_
  refine cq_seq ?_
  refine cq_seq ?_
  refine cq_region ?_
  apply sq_g; exact g_assign (s := .av (.val (.int _ _))) rfl; exact rfl
  refine sq_nil ?_
  refine sq_then ?_
  refine cq_block ?_
  refine cq_loop (γ := Nat) (fun k => [(0, .av (qs l)), (1, .av (vi p)), (5, .av (vi k))]) (fun _ => []) (fun k => k ≤ l.length ∧ ∀ j, j < k → ((gq l j).2 == p) = false) (fun k => l.length - k) 0 ⟨Nat.zero_le _, by omega⟩ (ent ⟨.refl _, .refl _, .refl _, trivial⟩ trivial) ?_
  rintro k ⟨hk, hall⟩
  refine cq_seq ?_
  refine cq_seq ?_
  refine cq_region ?_
  apply sq_g; exact g_move (s := .av (.val (.int _ _))) rfl; exact rfl
  apply sq_g; exact g_move (s := .av _) rfl; exact rfl
  apply sq_g; exact g_len rfl; exact rfl
  apply sq_g; exact g_cmp rfl rfl rfl; exact rfl
  refine sq_nil ?_
  refine sq_then ?_
  (refine cq_cond rfl (fun hb => ?_) (fun hb => ?_) <;> (try simp only [decide_eq_true_eq, decide_eq_false_iff_not, beq_iff_eq, beq_eq_false_iff_ne, bne_iff_ne, bne_eq_false_iff_eq, ne_eq, Bool.not_eq_true', Bool.not_eq_false', Bool.and_eq_true, Bool.or_eq_true, Bool.and_eq_false_iff, Bool.or_eq_false_iff] at hb) <;> (try (exfalso; omega)))
  · have hkl : k < l.length := by omega
    refine cq_skip ?_
    refine sq_then ?_
    refine cq_seq ?_
    refine cq_block ?_
    refine cq_seq ?_
    refine cq_region ?_
    apply sq_g; exact g_move (s := .av _) rfl; exact rfl
    apply sq_g; exact g_move (s := .av (.val (.int _ _))) rfl; exact rfl
    apply sq_g; exact g_index rfl rfl rfl (by omega); exact rfl
    apply sq_g; exact g_index_arr rfl rfl rfl (by decide) rfl; exact rfl
    apply sq_g; exact g_load (τ := .val (.int _ _)) rfl rfl rfl; exact rfl
    apply sq_g; exact g_move (s := .av (.val (.int _ _))) rfl; exact rfl
    apply sq_g; exact g_cmp rfl rfl rfl; exact rfl
    refine sq_nil ?_
    refine sq_then ?_
    (refine cq_cond rfl (fun hb => ?_) (fun hb => ?_) <;> (try simp only [decide_eq_true_eq, decide_eq_false_iff_not, beq_iff_eq, beq_eq_false_iff_ne, bne_iff_ne, bne_eq_false_iff_eq, ne_eq, Bool.not_eq_true', Bool.not_eq_false', Bool.and_eq_true, Bool.or_eq_true, Bool.and_eq_false_iff, Bool.or_eq_false_iff] at hb) <;> (try (exfalso; omega)))
    · have e1 : usedN l p = true := any_yes (p := fun k => (gq l k).2 == p) hkl (beq_iff_eq.2 (by omega))
      refine cq_seq ?_
      refine cq_region ?_
      apply sq_g; exact g_assign (s := .av (.val (.bool _))) rfl; exact rfl
      refine sq_nil ?_
      refine sq_then ?_
      refine cq_ret ?_
      refine sq_inBlock_ret ?_
      refine sq_then_ret ?_
      refine sq_then_ret ?_
      refine sq_inBlock_ret ?_
      refine sq_then_ret ?_
      exact sq_res1 rfl (.tmp rfl) (by rw [e1])
    · refine cq_skip ?_
      refine sq_then ?_
      refine cq_region ?_
      apply sq_g; exact g_move (s := .av (.val (.int _ _))) rfl; exact rfl
      apply sq_g; exact g_arith rfl rfl rfl (by omega); exact rfl
      apply sq_g; exact g_assign (s := .av (.val (.int _ _))) rfl; exact rfl
      refine sq_nil ?_
      exact sq_round (k + 1) ⟨by omega, lt_step hall (beq_eq_false_iff_ne.2 (by omega))⟩ (by omega) (ent ⟨.refl _, .refl _, .int (by omega), trivial⟩ trivial)
  · have hkl : k = l.length := by omega
    subst hkl
    have e1 : usedN l p = false := any_no hall
    refine cq_exit ?_
    refine sq_then ?_
    refine cq_seq ?_
    refine cq_region ?_
    apply sq_g; exact g_assign (s := .av (.val (.bool _))) rfl; exact rfl
    refine sq_nil ?_
    refine sq_then ?_
    refine cq_ret ?_
    exact sq_res1 rfl (.tmp rfl) (by rw [e1])
theorem before_c (X Y : List (Nat × Nat)) (hn : X.length ≤ 1000000) (hl : X.length = Y.length) : CtrA Try.prog 70 [qs X, qs Y] (vb (bfE X Y X.length 0)) := by
  refine ctrA _ Try.func70 rfl rfl Try.ntmps70 rfl fun w Z => ?_
  simp only [initT, List.map_cons, List.map_nil, Nat.zero_add, Nat.reduceAdd]
  refine cq_seq ?_
  refine cq_region ?_
  apply sq_g; exact g_assign (s := .av (.val (.bool _))) rfl; exact rfl
  refine sq_nil ?_
  refine sq_then ?_
  refine cq_seq ?_
  refine cq_seq ?_
  refine cq_region ?_
  apply sq_g; exact g_assign (s := .av (.val (.int _ _))) rfl; exact rfl
  refine sq_nil ?_
  refine sq_then ?_
  refine cq_block ?_
  refine cq_loop (γ := Nat) (fun k => [(0, .av (qs X)), (1, .av (qs Y)), (5, .av (vi k))]) (fun _ => []) (fun k => k ≤ X.length ∧ bfE X Y (X.length - k) k = bfE X Y X.length 0) (fun k => X.length - k) 0 ⟨Nat.zero_le _, by rw [Nat.sub_zero]⟩ (ent ⟨.refl _, .refl _, .refl _, trivial⟩ trivial) ?_
  rintro k ⟨hk, hg⟩
  refine cq_seq ?_
  refine cq_seq ?_
  refine cq_region ?_
  apply sq_g; exact g_move (s := .av (.val (.int _ _))) rfl; exact rfl
  apply sq_g; exact g_move (s := .av _) rfl; exact rfl
  apply sq_g; exact g_len rfl; exact rfl
  apply sq_g; exact g_cmp rfl rfl rfl; exact rfl
  refine sq_nil ?_
  refine sq_then ?_
  (refine cq_cond rfl (fun hb => ?_) (fun hb => ?_) <;> (try simp only [decide_eq_true_eq, decide_eq_false_iff_not, beq_iff_eq, beq_eq_false_iff_ne, bne_iff_ne, bne_eq_false_iff_eq, ne_eq, Bool.not_eq_true', Bool.not_eq_false', Bool.and_eq_true, Bool.or_eq_true, Bool.and_eq_false_iff, Bool.or_eq_false_iff] at hb) <;> (try (exfalso; omega)))
  · have hkl : k < X.length := by omega
    have hkl2 : k < Y.length := by omega
    have hn : X.length - k = (X.length - (k + 1)) + 1 := by omega
    rw [hn] at hg
    generalize bfE X Y X.length 0 = R at hg ⊢
    unfold bfE at hg
    refine cq_skip ?_
    refine sq_then ?_
    refine cq_seq ?_
    refine cq_block ?_
    refine cq_seq ?_
    refine cq_drawn ?_
    apply dq_g; exact g_move (s := .av _) rfl; exact rfl
    apply dq_g; exact g_move (s := .av (.val (.int _ _))) rfl; exact rfl
    apply dq_g; exact g_index rfl rfl rfl (by omega); exact rfl
    apply dq_g; exact g_load_agg (us := [.int _ _, .int _ _]) rfl rfl rfl rfl; exact rfl
    apply dq_g; exact g_move (s := .av _) rfl; exact rfl
    apply dq_g; exact g_move (s := .av (.val (.int _ _))) rfl; exact rfl
    apply dq_g; exact g_index rfl rfl rfl (by omega); exact rfl
    apply dq_g; exact g_load_agg (us := [.int _ _, .int _ _]) rfl rfl rfl rfl; exact rfl
    apply dq_g; exact g_neq (xs := [_, _]) (ys := [_, _]) rfl rfl rfl rfl; exact rfl
    refine dq_nil tm (by kernel_rfl) ?_
    refine sq_then ?_
    refine cq_cond rfl (fun hb => ?_) (fun hb => ?_)
    · have hne : gq X k ≠ gq Y k := fun e => by rw [e] at hb; simp at hb
      rw [if_neg hne] at hg
      focus
        refine cq_seq ?_
        refine cq_drawn ?_
        apply dq_g; exact g_move (s := .av _) rfl; exact rfl
        apply dq_g; exact g_move (s := .av (.val (.int _ _))) rfl; exact rfl
        apply dq_g; exact g_index rfl rfl rfl (by omega); exact rfl
        apply dq_g; exact g_index_arr rfl rfl rfl (by decide) rfl; exact rfl
        apply dq_g; exact g_load (τ := .val (.int _ _)) rfl rfl rfl; exact rfl
        apply dq_g; exact g_move (s := .av _) rfl; exact rfl
        apply dq_g; exact g_move (s := .av (.val (.int _ _))) rfl; exact rfl
        apply dq_g; exact g_index rfl rfl rfl (by omega); exact rfl
        apply dq_g; exact g_index_arr rfl rfl rfl (by decide) rfl; exact rfl
        apply dq_g; exact g_load (τ := .val (.int _ _)) rfl rfl rfl; exact rfl
        apply dq_g; exact g_cmp rfl rfl rfl; exact rfl
        apply dq_g; exact g_move (s := .av (.val (.bool _))) rfl; exact rfl
        refine dq_split rfl rfl (fun hb => ?_) (fun hb => ?_) <;> (try simp only [decide_eq_true_eq, decide_eq_false_iff_not, beq_iff_eq, beq_eq_false_iff_ne, bne_iff_ne, bne_eq_false_iff_eq, ne_eq, Bool.not_eq_true', Bool.not_eq_false', Bool.and_eq_true, Bool.or_eq_true, Bool.and_eq_false_iff, Bool.or_eq_false_iff] at hb) <;> (try (exfalso; omega))
        refine dq_off nofun rfl rfl rfl rfl ?_
        refine dq_off nofun rfl rfl rfl rfl ?_
        refine dq_off nofun rfl rfl rfl rfl ?_
        refine dq_off nofun rfl rfl rfl rfl ?_
        refine dq_off nofun rfl rfl rfl rfl ?_
        refine dq_off nofun rfl rfl rfl rfl ?_
        refine dq_off nofun rfl rfl rfl rfl ?_
        refine dq_off nofun rfl rfl rfl rfl ?_
        refine dq_off nofun rfl rfl rfl rfl ?_
        refine dq_off nofun rfl rfl rfl rfl ?_
        refine dq_off nofun rfl rfl rfl rfl ?_
        refine dq_off nofun rfl rfl rfl rfl ?_
        refine dq_offu nofun rfl rfl rfl ?_
        refine dq_offu nofun rfl rfl rfl ?_
        refine dq_offu nofun rfl rfl rfl ?_
        refine dq_offu nofun rfl rfl rfl ?_
        refine dq_offu nofun rfl rfl rfl ?_
        refine dq_offu nofun rfl rfl rfl ?_
        refine dq_offu nofun rfl rfl rfl ?_
        refine dq_offu nofun rfl rfl rfl ?_
        refine dq_offu nofun rfl rfl rfl ?_
        refine dq_offu nofun rfl rfl rfl ?_
        refine dq_offu nofun rfl rfl rfl ?_
        refine dq_off nofun rfl rfl rfl rfl ?_
        apply dq_g; exact g_pick (s := .av (.val (.bool _))) rfl rfl; exact rfl
        apply dq_g; exact g_assign (s := .av (.val (.bool _))) rfl; exact rfl
        refine dq_nil tm (by kernel_rfl) ?_
        refine sq_then ?_
        refine cq_ret ?_
        refine sq_inBlock_ret ?_
        refine sq_then_ret ?_
        refine sq_then_ret ?_
        refine sq_inBlock_ret ?_
        refine sq_then_ret ?_
        rotate_left
        apply dq_on; exact g_move (s := .av _) rfl; exact rfl; exact rfl; exact rfl
        apply dq_on; exact g_move (s := .av (.val (.int _ _))) rfl; exact rfl; exact rfl; exact rfl
        apply dq_on; exact g_index rfl rfl rfl (by omega); exact rfl; exact rfl; exact rfl
        apply dq_on; exact g_index_arr rfl rfl rfl (by decide) rfl; exact rfl; exact rfl; exact rfl
        apply dq_on; exact g_load (τ := .val (.int _ _)) rfl rfl rfl; exact rfl; exact rfl; exact rfl
        apply dq_on; exact g_move (s := .av _) rfl; exact rfl; exact rfl; exact rfl
        apply dq_on; exact g_move (s := .av (.val (.int _ _))) rfl; exact rfl; exact rfl; exact rfl
        apply dq_on; exact g_index rfl rfl rfl (by omega); exact rfl; exact rfl; exact rfl
        apply dq_on; exact g_index_arr rfl rfl rfl (by decide) rfl; exact rfl; exact rfl; exact rfl
        apply dq_on; exact g_load (τ := .val (.int _ _)) rfl rfl rfl; exact rfl; exact rfl; exact rfl
        apply dq_on; exact g_cmp rfl rfl rfl; exact rfl; exact rfl; exact rfl
        apply dq_on; exact g_move (s := .av (.val (.bool _))) rfl; exact rfl; exact rfl; exact rfl
        refine dq_split rfl rfl (fun hb => ?_) (fun hb => ?_) <;> (try simp only [decide_eq_true_eq, decide_eq_false_iff_not, beq_iff_eq, beq_eq_false_iff_ne, bne_iff_ne, bne_eq_false_iff_eq, ne_eq, Bool.not_eq_true', Bool.not_eq_false', Bool.and_eq_true, Bool.or_eq_true, Bool.and_eq_false_iff, Bool.or_eq_false_iff] at hb) <;> (try (exfalso; omega))
        apply dq_on; exact g_move (s := .av _) rfl; exact rfl; exact rfl; exact rfl
        apply dq_on; exact g_move (s := .av (.val (.int _ _))) rfl; exact rfl; exact rfl; exact rfl
        apply dq_on; exact g_index rfl rfl rfl (by omega); exact rfl; exact rfl; exact rfl
        apply dq_on; exact g_index_arr rfl rfl rfl (by decide) rfl; exact rfl; exact rfl; exact rfl
        apply dq_on; exact g_load (τ := .val (.int _ _)) rfl rfl rfl; exact rfl; exact rfl; exact rfl
        apply dq_on; exact g_move (s := .av _) rfl; exact rfl; exact rfl; exact rfl
        apply dq_on; exact g_move (s := .av (.val (.int _ _))) rfl; exact rfl; exact rfl; exact rfl
        apply dq_on; exact g_index rfl rfl rfl (by omega); exact rfl; exact rfl; exact rfl
        apply dq_on; exact g_index_arr rfl rfl rfl (by decide) rfl; exact rfl; exact rfl; exact rfl
        apply dq_on; exact g_load (τ := .val (.int _ _)) rfl rfl rfl; exact rfl; exact rfl; exact rfl
        apply dq_on; exact g_cmp rfl rfl rfl; exact rfl; exact rfl; exact rfl
        apply dq_on; exact g_pick (s := .av (.val (.bool _))) rfl rfl; exact rfl; exact rfl; exact rfl
        apply dq_g; exact g_pick (s := .av (.val (.bool _))) rfl rfl; exact rfl
        apply dq_g; exact g_assign (s := .av (.val (.bool _))) rfl; exact rfl
        refine dq_nil tm (by kernel_rfl) ?_
        refine sq_then ?_
        refine cq_ret ?_
        refine sq_inBlock_ret ?_
        refine sq_then_ret ?_
        refine sq_then_ret ?_
        refine sq_inBlock_ret ?_
        refine sq_then_ret ?_
        rotate_left
        refine dq_off nofun rfl rfl rfl rfl ?_
        refine dq_off nofun rfl rfl rfl rfl ?_
        refine dq_off nofun rfl rfl rfl rfl ?_
        refine dq_off nofun rfl rfl rfl rfl ?_
        refine dq_off nofun rfl rfl rfl rfl ?_
        refine dq_off nofun rfl rfl rfl rfl ?_
        refine dq_off nofun rfl rfl rfl rfl ?_
        refine dq_off nofun rfl rfl rfl rfl ?_
        refine dq_off nofun rfl rfl rfl rfl ?_
        refine dq_off nofun rfl rfl rfl rfl ?_
        refine dq_off nofun rfl rfl rfl rfl ?_
        apply dq_on; exact g_pick (s := .av (.val (.bool _))) rfl rfl; exact rfl; exact rfl; exact rfl
        apply dq_g; exact g_pick (s := .av (.val (.bool _))) rfl rfl; exact rfl
        apply dq_g; exact g_assign (s := .av (.val (.bool _))) rfl; exact rfl
        refine dq_nil tm (by kernel_rfl) ?_
        refine sq_then ?_
        refine cq_ret ?_
        refine sq_inBlock_ret ?_
        refine sq_then_ret ?_
        refine sq_then_ret ?_
        refine sq_inBlock_ret ?_
        refine sq_then_ret ?_
        rotate_left
      all_goals (refine sq_res1 rfl (.tmp rfl) (congrArg vb ?_); rw [← hg, Bool.eq_iff_iff]; simp only [decide_eq_true_eq, Bool.or_eq_true, Bool.and_eq_true, Bool.false_eq_true, true_iff, false_iff, eq_self_iff_true]; omega)
    · have he : gq X k = gq Y k := by
        simp at hb
        exact Prod.ext (by omega) (by omega)
      rw [if_pos he] at hg
      refine cq_skip ?_
      refine sq_then ?_
      refine cq_region ?_
      apply sq_g; exact g_move (s := .av (.val (.int _ _))) rfl; exact rfl
      apply sq_g; exact g_arith rfl rfl rfl (by omega); exact rfl
      apply sq_g; exact g_assign (s := .av (.val (.int _ _))) rfl; exact rfl
      refine sq_nil ?_
      exact sq_round (k + 1) ⟨by omega, hg⟩ (by omega) (ent ⟨.refl _, .refl _, .int (by omega), trivial⟩ trivial)
  · have hkl : k = X.length := by omega
    rw [hkl, Nat.sub_self] at hg
    generalize bfE X Y X.length 0 = R at hg ⊢
    unfold bfE at hg
    refine cq_exit ?_
    refine sq_then ?_
    refine cq_seq ?_
    refine cq_region ?_
    apply sq_g; exact g_assign (s := .av (.val (.bool _))) rfl; exact rfl
    refine sq_nil ?_
    refine sq_then ?_
    refine cq_ret ?_
    exact sq_res1 rfl (.tmp rfl) (by rw [← hg])
theorem same_c (X : List (Nat × Nat)) (hn : X.length ≤ 1000000) : CtrA Try.prog 18 [qs X, qs X] (vb true) := by
  refine ctrA _ Try.func18 rfl rfl Try.ntmps18 rfl fun w Z => ?_
  simp only [initT, List.map_cons, List.map_nil, Nat.zero_add, Nat.reduceAdd]
  refine cq_seq ?_
  refine cq_region ?_
  apply sq_g; exact g_assign (s := .av (.val (.bool _))) rfl; exact rfl
  refine sq_nil ?_
  refine sq_then ?_
  refine cq_seq ?_
  refine cq_seq ?_
  refine cq_region ?_
  apply sq_g; exact g_move (s := .av _) rfl; exact rfl
  apply sq_g; exact g_len rfl; exact rfl
  apply sq_g; exact g_move (s := .av _) rfl; exact rfl
  apply sq_g; exact g_len rfl; exact rfl
  apply sq_g; exact g_cmp rfl rfl rfl; exact rfl
  refine sq_nil ?_
  refine sq_then ?_
  refine cq_cond rfl (fun hb => ?_) (fun _ => ?_)
  · simp at hb
  · refine cq_skip ?_
    refine sq_then ?_
    refine cq_seq ?_
    refine cq_seq ?_
    refine cq_region ?_
    apply sq_g; exact g_assign (s := .av (.val (.int _ _))) rfl; exact rfl
    refine sq_nil ?_
    refine sq_then ?_
    refine cq_block ?_
    refine cq_loop (γ := Nat) (fun k => [(0, .av (qs X)), (1, .av (qs X)), (5, .av (vi k))]) (fun _ => []) (fun k => k ≤ X.length) (fun k => X.length - k) 0 (Nat.zero_le _) (ent ⟨.refl _, .refl _, .refl _, trivial⟩ trivial) ?_
    intro k hk
    refine cq_seq ?_
    refine cq_seq ?_
    refine cq_region ?_
    apply sq_g; exact g_move (s := .av (.val (.int _ _))) rfl; exact rfl
    apply sq_g; exact g_move (s := .av _) rfl; exact rfl
    apply sq_g; exact g_len rfl; exact rfl
    apply sq_g; exact g_cmp rfl rfl rfl; exact rfl
    refine sq_nil ?_
    refine sq_then ?_
    (refine cq_cond rfl (fun hb => ?_) (fun hb => ?_) <;> (try simp only [decide_eq_true_eq, decide_eq_false_iff_not, beq_iff_eq, beq_eq_false_iff_ne, bne_iff_ne, bne_eq_false_iff_eq, ne_eq, Bool.not_eq_true', Bool.not_eq_false', Bool.and_eq_true, Bool.or_eq_true, Bool.and_eq_false_iff, Bool.or_eq_false_iff] at hb) <;> (try (exfalso; omega)))
    · have hkl : k < X.length := by omega
      refine cq_skip ?_
      refine sq_then ?_
      refine cq_seq ?_
      refine cq_block ?_
      refine cq_seq ?_
      refine cq_drawn ?_
      apply dq_g; exact g_move (s := .av _) rfl; exact rfl
      apply dq_g; exact g_move (s := .av (.val (.int _ _))) rfl; exact rfl
      apply dq_g; exact g_index rfl rfl rfl (by omega); exact rfl
      apply dq_g; exact g_load_agg (us := [.int _ _, .int _ _]) rfl rfl rfl rfl; exact rfl
      apply dq_g; exact g_move (s := .av _) rfl; exact rfl
      apply dq_g; exact g_move (s := .av (.val (.int _ _))) rfl; exact rfl
      apply dq_g; exact g_index rfl rfl rfl (by omega); exact rfl
      apply dq_g; exact g_load_agg (us := [.int _ _, .int _ _]) rfl rfl rfl rfl; exact rfl
      apply dq_g; exact g_neq (xs := [_, _]) (ys := [_, _]) rfl rfl rfl rfl; exact rfl
      refine dq_nil tm (by kernel_rfl) ?_
      refine sq_then ?_
      refine cq_cond rfl (fun hb => ?_) (fun _ => ?_)
      · simp at hb
      · refine cq_skip ?_
        refine sq_then ?_
        refine cq_region ?_
        apply sq_g; exact g_move (s := .av (.val (.int _ _))) rfl; exact rfl
        apply sq_g; exact g_arith rfl rfl rfl (by omega); exact rfl
        apply sq_g; exact g_assign (s := .av (.val (.int _ _))) rfl; exact rfl
        refine sq_nil ?_
        exact sq_round (k + 1) (by omega) (by omega) (ent ⟨.refl _, .refl _, .int (by omega), trivial⟩ trivial)
    · refine cq_exit ?_
      refine sq_then ?_
      refine cq_seq ?_
      refine cq_region ?_
      apply sq_g; exact g_assign (s := .av (.val (.bool _))) rfl; exact rfl
      refine sq_nil ?_
      refine sq_then ?_
      refine cq_ret ?_
      exact sq_res1 rfl (.tmp rfl) rfl
end Go.Proofs.Ytogilkilkmoedaa
namespace Go.Vc
open Go Go.RowKit
section
variable {P : Program} {E : Env} {T T' : Tab} {O O' : Own} {o : Oper} {d : Option Tmp} {ty : TypeId} {pos : String} {af : Array Edge} {g : Option (Nat × Bool)}
theorem lsq_ent {ops : Array Oper} {Q : Exit → Act → World → Prop} {l : List Oper} (h : Ent T O T' O') (hq : LSQ P E ops Q l T' O') : LSQ P E ops Q l T O := ⟨fun a w hs => hq.sq a w (h E a w hs)⟩
/-- Nothing is appended. -/
theorem g_append0 {t e : TypeId} {x y : Operand} {r n sz bytes : Nat} {f h : Nat → Nat → AV} [ht : SlTy P t e sz] [he : EltTy P e sz bytes] (hx : T.ev x = .osl r) (hr : look O r = some (.row e sz n f)) (hy : T.ev y = .av (.sl 0 sz h)) :
    GV P E ⟨d, .call ⟨.builtin .append, #[x, y], #[t, t]⟩, ty, pos, af, g⟩ T O (.osl r) [r] [] := by
  refine ⟨fun T' O' hT hO => ⟨by intro c; simp, fun Z ν a w hs => ?_⟩⟩
  have ex : T'.ev x = .osl r := by rw [ev_same (o := ⟨d, .call ⟨.builtin .append, #[x, y], #[t, t]⟩, ty, pos, af, g⟩) hT (by simp [Op.operands, Call.operands])]; exact hx
  have ey : T'.ev y = .av (.sl 0 sz h) := by rw [ev_same (o := ⟨d, .call ⟨.builtin .append, #[x, y], #[t, t]⟩, ty, pos, af, g⟩) hT (by simp [Op.operands, Call.operands])]; exact hy
  have hvx := osl_ok ex (ev_ok hs x)
  obtain ⟨p, c, hvy, hmc, hcm, hcells⟩ := sl_ok ey (ev_ok hs y)
  have hrow := hs.own.each r _ (by rw [hO r (by simp)]; exact hr)
  obtain ⟨i0, z, hi, hz, hsz, hbt, hzs, hpos⟩ := he.info
  have hsrc : Src P i0.size t (.slice p 0 c) 0 [] w := by
    cases p with
    | none => exact Src.ofNil w ht.und c
    | some q => exact Src.ofSlice w ht.und q 0 c [] (by simp) (by simp) (by simp)
  have hform : ∃ bs sl sc, ν r = .slice bs sl sc ∧ sl ≤ sc := by
    rcases hrow with ⟨h1, _⟩ | ⟨b, cap, arr, h1, _, _, _, h5, _⟩
    · exact ⟨_, _, _, h1, Nat.le_refl _⟩
    · exact ⟨_, _, _, h1, h5⟩
  obtain ⟨bs, sl, sc, hν, hle⟩ := hform
  have hrun := run_append_nothing (P := P) w t t ty e i0 ht.und hi bs sl sc hle (.slice p 0 c) hsrc
  refine wp_value (w' := w) (v := ν r) ?_ ⟨ν r, Z, ν, rfl, hs, rfl⟩
  simp only [execOp, resolve, invoke, builtin, Sem.run_bind, Sem.run_pure, Result.andThen_ok, List.map_toArray, List.map_cons, List.map_nil, hvx, hvy, hν, hrun]
/-- A row of one constant. -/
theorem v_bs1 {t e : TypeId} (f : Nat → Nat → AV) (r : Nat) {u : Value} [ht : SlTy P t e 1] (hb : ∀ w, (Instr.buildSlice t 1 #[(0, u)]).run P w = .ok (.slice (some ⟨w.heap.size, 0, none⟩) 1 1) (w.alloc (.cells #[u] e))) (hf : ∀ Z w, (f 0 0).ok Z w u) (hp : Nat.blt r 1000 = true := by first | rfl | assumption) :
    VStep P E ⟨d, .buildSlice t 1 #[(0, .const u)], ty, pos, af, g⟩ T O (T.kill r) ((r, .row e 1 1 f) :: Own.kill r O) (.osl r) := by
  refine ⟨by intro c; simp, fun Z ν a w hs => ?_⟩
  refine wp_value (w' := w.alloc (.cells #[u] e)) (v := .slice (some ⟨w.heap.size, 0, none⟩) 1 1) (by simp [execOp, Act.eval, hb])
    ⟨_, Z, updV ν r (.slice (some ⟨w.heap.size, 0, none⟩) 1 1), rfl, hs.newRes r hp _ _ _ rfl (fun _ hk hnz => .inr ⟨w.heap.size, 1, _, rfl, hk, hnz, heap_alloc_new _ _, Nat.le_refl _, by decide, by simp, fun i hi j hj => ?_⟩), (if_pos rfl : updV ν r _ r = _).symm⟩
  obtain rfl : i = 0 := by omega
  obtain rfl : j = 0 := by omega
  exact ⟨u, by simp, hf _ _⟩
theorem f_bs1 {t e : TypeId} (f : Nat → Nat → AV) (r : Nat) {u : Value} [ht : SlTy P t e 1] (hb : ∀ w, (Instr.buildSlice t 1 #[(0, u)]).run P w = .ok (.slice (some ⟨w.heap.size, 0, none⟩) 1 1) (w.alloc (.cells #[u] e))) (hu : ∀ Z w, (f 0 0).ok Z w u) (hf : freshB r T O = true) (hp : Nat.blt r 1000 = true := by first | rfl | assumption) :
    VStep P E ⟨d, .buildSlice t 1 #[(0, .const u)], ty, pos, af, g⟩ T O T ((r, .row e 1 1 f) :: O) (.osl r) := (v_bs1 f r hb hu hp).fresh hf
end
end Go.Vc
namespace Go.Proofs.Ytogilkilkmoedaa
open Go Go.Vc Go.RowKit
set_option maxHeartbeats 8000000
/-! KDQ -/
def asF (A : List (List (Nat × Nat))) : Nat → Nat → AV := fun i _ => qs (ga A i)
theorem bs105 (w : World) : (Instr.buildSlice 105 1 #[(0, .slice none 0 0)]).run Try.prog w = .ok (.slice (some ⟨w.heap.size, 0, none⟩) 1 1) (w.alloc (.cells #[.slice none 0 0] 33)) := by kernel_rfl
theorem bs33 (w : World) : (Instr.buildSlice 33 0 #[]).run Try.prog w = .ok (.slice (some ⟨w.heap.size, 0, none⟩) 0 0) (w.alloc (.cells #[] 42)) := by kernel_rfl
theorem nil_ok : ∀ (Z : Zone) (w : World), (asF [[]] 0 0).ok Z w (.slice none 0 0) := fun Z w => ⟨none, 0, rfl, Nat.le_refl _, Nat.zero_le _, fun h => absurd h (Nat.lt_irrefl 0)⟩
theorem ga_app {A B : List (List (Nat × Nat))} {i : Nat} (h : i < A.length) : ga (A ++ B) i = ga A i := by unfold ga; simp [List.getD, List.getElem?_append_left h]
theorem ga_end (A : List (List (Nat × Nat))) (X : List (Nat × Nat)) : ga (A ++ [X]) A.length = X := by unfold ga; simp [List.getD]
theorem tq105_1 (vs : List Value) (w : World) (hl : vs.length = 1) (h1 : ∀ v ∈ vs, v.oneCell' = true) : (Instr.buildSlice 105 1 (List.zip [0] vs).toArray).run Try.prog w = .ok (.slice (some ⟨w.heap.size, 0, none⟩) 1 1) (w.alloc (.cells vs.toArray 33)) :=
  match vs, hl with
  | [u], _ =>
    have e1 := cells_one (h1 u (by simp))
    have hz : Try.prog.info? 33 = some ((Try.prog.info? 33).getD default) := by kernel_rfl
    have hs : (sizeOf 33).run Try.prog w = .ok 1 w := by kernel_rfl
    have hu : Try.prog.underlying 105 = some (.slice 33) := by kernel_rfl
    have hzero : (zeroValue 33).run Try.prog w = .ok (.slice none 0 0) w := by kernel_rfl
    have hr : Array.map (fun x => (Value.slice none 0 0).cells[x % (Value.slice none 0 0).cells.size]!) (Array.range 1) = #[.slice none 0 0] := by kernel_rfl
    by simp [Instr.buildSlice, run_underlying hu, hs, hzero, hr, Instr.fill, e1, newRow]
theorem qf_one (l : List (Nat × Nat)) : ∀ i j, (qf l i j).one = true := fun i j => by unfold qf; split <;> rfl
theorem gq_app (l m : List (Nat × Nat)) (i : Nat) : gq (l ++ m) i = if i < l.length then gq l i else gq m (i - l.length) := by
  unfold gq
  by_cases h : i < l.length
  · simp [List.getD, List.getElem?_append_left h, h]
  · simp [List.getD, List.getElem?_append_right (Nat.le_of_not_lt h), h]
theorem row_two (X : List (Nat × Nat)) (q : Nat × Nat) : ∀ i, i < 0 + X.length + 1 → ∀ j, j < 2 → rowApp (0 + X.length) (rowApp 0 (qf []) (qf X)) (qf [q]) i j = qf (X ++ [q]) i j := by
  intro i hi j hj
  unfold rowApp qf
  rw [gq_app]
  by_cases h : i < X.length
  · simp [h]
  · have e : i = X.length := by omega
    subst e
    simp
theorem row_out (U : List (List (Nat × Nat))) (Y : List (Nat × Nat)) : ∀ i, i < U.length + 1 → ∀ j, j < 1 → rowApp U.length (asF U) (fun i _ => [qs Y].getD i .any) i j = asF (U ++ [Y]) i j := by
  intro i hi j hj
  unfold rowApp asF
  by_cases h : i < U.length
  · rw [if_pos h, ga_app h]
  · have e : i = U.length := by omega
    subst e
    rw [if_neg h, ga_end]
    simp
theorem all_c (H P : List Int) (lo up : Int) (hH : H.length ≤ 6) (hP : P.length ≤ 6) (bH : ∀ i, Bi (gz H i)) (bP : ∀ i, Bi (gz P i)) : CtrR Try.prog 69 [zs H, zs P, lim lo up] 33 1 (allN (fitN H P lo up) P.length H.length).length (asF (allN (fitN H P lo up) P.length H.length)) [] := by
  refine ctrR _ Try.func69 rfl rfl Try.ntmps69 rfl fun w Z => ?_
  simp only [initT, List.map_cons, List.map_nil, Nat.zero_add, Nat.reduceAdd]
  refine cq_seq ?_
  refine cq_region ?_
  apply sq_g; exact g_box_agg rfl; exact rfl
  apply sq_g; exact g_assign (s := .av _) rfl; exact rfl
  refine sq_nil ?_
  refine sq_then ?_
  refine cq_seq ?_
  refine cq_region ?_
  refine sq_v (f_bs1 (asF [[]]) 60 bs105 nil_ok rfl) rfl ?_
  apply sq_g; exact g_assign (s := .osl _) rfl; exact rfl
  refine sq_nil ?_
  refine sq_then ?_
  refine cq_seq ?_
  refine cq_seq ?_
  refine cq_region ?_
  apply sq_g; exact g_assign (s := .av (.val (.int _ _))) rfl; exact rfl
  refine sq_nil ?_
  refine sq_then ?_
  refine cq_block ?_
  refine cq_loop (γ := Nat) (fun h => [(0, .av (zs H)), (1, .av (zs P)), (5, .av (blim lo up)), (7, .osl 60), (8, .av (vi h))]) (fun h => [(60, .row 33 1 (allN (fitN H P lo up) P.length h).length (asF (allN (fitN H P lo up) P.length h)))]) (fun h => h ≤ H.length) (fun h => H.length - h) 0 (Nat.zero_le _) (ent ⟨.refl _, .refl _, .refl _, .refl _, .refl _, trivial⟩ ⟨⟨_, rfl, .refl _⟩, trivial⟩) ?_
  intro h hh
  refine cq_seq ?_
  refine cq_seq ?_
  refine cq_region ?_
  apply sq_g; exact g_move (s := .av (.val (.int _ _))) rfl; exact rfl
  apply sq_g; exact g_move (s := .av _) rfl; exact rfl
  apply sq_g; exact g_len rfl; exact rfl
  apply sq_g; exact g_cmp rfl rfl rfl; exact rfl
  refine sq_nil ?_
  refine sq_then ?_
  (refine cq_cond rfl (fun hb => ?_) (fun hb => ?_) <;> (try simp only [decide_eq_true_eq, decide_eq_false_iff_not, beq_iff_eq, beq_eq_false_iff_ne, bne_iff_ne, bne_eq_false_iff_eq, ne_eq, Bool.not_eq_true', Bool.not_eq_false', Bool.and_eq_true, Bool.or_eq_true, Bool.and_eq_false_iff, Bool.or_eq_false_iff] at hb) <;> (try (exfalso; omega)))
  · have hhl : h < H.length := by omega
    have hAl : (allN (fitN H P lo up) P.length h).length ≤ 117649 := Nat.le_trans (allN_len hP h) (Nat.le_trans (Nat.pow_le_pow_right (by decide) (by omega : h ≤ 6)) (by decide))
    have hAm : ∀ i, i < (allN (fitN H P lo up) P.length h).length → (ga (allN (fitN H P lo up) P.length h) i).length ≤ 6 := fun i hi => Nat.le_trans (prg_len (mem_allN.1 (ga_mem hi))) (by omega)
    have hA1 : allN (fitN H P lo up) P.length (h + 1) = allN (fitN H P lo up) P.length h ++ flatQ (fitN H P lo up) P.length h (allN (fitN H P lo up) P.length h) (allN (fitN H P lo up) P.length h).length := rfl
    generalize hA : allN (fitN H P lo up) P.length h = A at hAl hAm hA1 ⊢
    refine cq_skip ?_
    refine sq_then ?_
    refine cq_seq ?_
    refine cq_block ?_
    refine cq_seq ?_
    refine cq_region ?_
    apply sq_g; exact g_move (s := .osl _) rfl; exact rfl
    apply sq_g; exact g_len_own rfl rfl; exact rfl
    apply sq_g; exact g_assign (s := .av (.val (.int _ _))) rfl; exact rfl
    refine sq_nil ?_
    refine sq_then ?_
    refine cq_seq ?_
    refine cq_region ?_
    apply sq_g; exact g_assign (s := .av (.val (.int _ _))) rfl; exact rfl
    refine sq_nil ?_
    refine sq_then ?_
    refine cq_block ?_
    refine cq_loop (γ := Nat) (fun i => [(0, .av (zs H)), (1, .av (zs P)), (5, .av (blim lo up)), (7, .osl 60), (8, .av (vi h)), (9, .av (vi A.length)), (10, .av (vi i))]) (fun i => [(60, .row 33 1 (A ++ flatQ (fitN H P lo up) P.length h A i).length (asF (A ++ flatQ (fitN H P lo up) P.length h A i)))]) (fun i => i ≤ A.length) (fun i => A.length - i) 0 (Nat.zero_le _) (ent ⟨.refl _, .refl _, .refl _, .refl _, .refl _, .refl _, .refl _, trivial⟩ ⟨⟨_, rfl, .row (by simp [flatQ]) (fun _ _ _ _ => by simp [flatQ])⟩, trivial⟩) ?_
    intro i hi
    refine cq_seq ?_
    refine cq_seq ?_
    refine cq_region ?_
    apply sq_g; exact g_move (s := .av (.val (.int _ _))) rfl; exact rfl
    apply sq_g; exact g_move (s := .av (.val (.int _ _))) rfl; exact rfl
    apply sq_g; exact g_cmp rfl rfl rfl; exact rfl
    refine sq_nil ?_
    refine sq_then ?_
    (refine cq_cond rfl (fun hb => ?_) (fun hb => ?_) <;> (try simp only [decide_eq_true_eq, decide_eq_false_iff_not, beq_iff_eq, beq_eq_false_iff_ne, bne_iff_ne, bne_eq_false_iff_eq, ne_eq, Bool.not_eq_true', Bool.not_eq_false', Bool.and_eq_true, Bool.or_eq_true, Bool.and_eq_false_iff, Bool.or_eq_false_iff] at hb) <;> (try (exfalso; omega)))
    · have hil : i < A.length := by omega
      have hXl := hAm i hil
      have hfl := flatQ_len (fitN H P lo up) P.length h A i
      have hfl2 : i * P.length ≤ 117649 * 6 := Nat.mul_le_mul (by omega) hP
      have hf1 := flatQ_succ (fitN H P lo up) P.length h A i
      generalize hX : ga A i = X at hXl hf1
      generalize flatQ (fitN H P lo up) P.length h A i = B at hfl hf1 ⊢
      refine cq_skip ?_
      refine sq_then ?_
      refine cq_seq ?_
      refine cq_block ?_
      refine cq_seq ?_
      refine cq_region ?_
      apply sq_g; exact g_assign (s := .av (.val (.int _ _))) rfl; exact rfl
      refine sq_nil ?_
      refine sq_then ?_
      refine cq_block ?_
      refine cq_loop (γ := Nat) (fun p => [(0, .av (zs H)), (1, .av (zs P)), (5, .av (blim lo up)), (7, .osl 60), (8, .av (vi h)), (9, .av (vi A.length)), (10, .av (vi i)), (11, .av (vi p))]) (fun p => [(60, .row 33 1 (A ++ B ++ addQ (fitN H P lo up) h X p).length (asF (A ++ B ++ addQ (fitN H P lo up) h X p)))]) (fun p => p ≤ P.length) (fun p => P.length - p) 0 (Nat.zero_le _) (ent ⟨.refl _, .refl _, .refl _, .refl _, .refl _, .refl _, .refl _, .refl _, trivial⟩ ⟨⟨_, rfl, .row (by simp [addQ]) (fun _ _ _ _ => by simp [addQ])⟩, trivial⟩) ?_
      intro p hp
      refine cq_seq ?_
      refine cq_seq ?_
      refine cq_region ?_
      apply sq_g; exact g_move (s := .av (.val (.int _ _))) rfl; exact rfl
      apply sq_g; exact g_move (s := .av _) rfl; exact rfl
      apply sq_g; exact g_len rfl; exact rfl
      apply sq_g; exact g_cmp rfl rfl rfl; exact rfl
      refine sq_nil ?_
      refine sq_then ?_
      (refine cq_cond rfl (fun hb => ?_) (fun hb => ?_) <;> (try simp only [decide_eq_true_eq, decide_eq_false_iff_not, beq_iff_eq, beq_eq_false_iff_ne, bne_iff_ne, bne_eq_false_iff_eq, ne_eq, Bool.not_eq_true', Bool.not_eq_false', Bool.and_eq_true, Bool.or_eq_true, Bool.and_eq_false_iff, Bool.or_eq_false_iff] at hb) <;> (try (exfalso; omega)))
      · have hpl : p < P.length := by omega
        have hal := addQ_len (fitN H P lo up) h X p
        have hU1 : A ++ B ++ addQ (fitN H P lo up) h X (p + 1) = A ++ B ++ addQ (fitN H P lo up) h X p ++ if (!usedN X p && fitN H P lo up h p) = true then [X ++ [(h, p)]] else [] := by rw [addQ_succ, List.append_assoc, List.append_assoc, List.append_assoc]
        have hO : ga (A ++ B ++ addQ (fitN H P lo up) h X p) i = X := by rw [List.append_assoc, ga_app hil, hX]
        have hOl : i < (A ++ B ++ addQ (fitN H P lo up) h X p).length := by simp only [List.length_append]; omega
        have hOs : (A ++ B ++ addQ (fitN H P lo up) h X p).length ≤ 900000 := by simp only [List.length_append]; omega
        generalize A ++ B ++ addQ (fitN H P lo up) h X p = U at hO hOl hOs hU1 ⊢
        have cu := used_c X p (by omega)
        have cf : CtrA Try.prog 39 [vi (gz H h), vi (gz P p), lim lo up] (vb (fitN H P lo up h p)) := clear_c (gz H h) (gz P p) lo up (bH h) (bP p)
        have hOa : asF U i 0 = qs X := congrArg qs hO
        focus
          refine cq_skip ?_
          refine sq_then ?_
          refine cq_seq ?_
          refine cq_block ?_
          refine cq_seq ?_
          refine cq_drawn ?_
          apply dq_g; exact g_move (s := .osl _) rfl; exact rfl
          apply dq_g; exact g_move (s := .av (.val (.int _ _))) rfl; exact rfl
          apply dq_g; exact g_index_row rfl rfl rfl rfl (by omega); exact rfl
          apply dq_g; exact  g_load_oel (τ := qs X) rfl rfl hOl rfl hOa; exact rfl
          apply dq_g; exact g_move (s := .av (.val (.int _ _))) rfl; exact rfl
          apply dq_g; exact g_call (cu) rfl; exact rfl
          apply dq_g; exact g_not rfl; exact rfl
          apply dq_g; exact g_move (s := .av (.val (.bool _))) rfl; exact rfl
          refine dq_split rfl rfl (fun hb => ?_) (fun hb => ?_) <;> (try simp only [decide_eq_true_eq, decide_eq_false_iff_not, beq_iff_eq, beq_eq_false_iff_ne, bne_iff_ne, bne_eq_false_iff_eq, ne_eq, Bool.not_eq_true', Bool.not_eq_false', Bool.and_eq_true, Bool.or_eq_true, Bool.and_eq_false_iff, Bool.or_eq_false_iff] at hb) <;> (try (exfalso; omega))
          apply dq_on; exact g_move (s := .av _) rfl; exact rfl; exact rfl; exact rfl
          apply dq_on; exact g_move (s := .av (.val (.int _ _))) rfl; exact rfl; exact rfl; exact rfl
          apply dq_on; exact g_index rfl rfl rfl (by omega); exact rfl; exact rfl; exact rfl
          apply dq_on; exact g_load (τ := .val (.int _ _)) rfl rfl rfl; exact rfl; exact rfl; exact rfl
          apply dq_on; exact g_move (s := .av _) rfl; exact rfl; exact rfl; exact rfl
          apply dq_on; exact g_move (s := .av (.val (.int _ _))) rfl; exact rfl; exact rfl; exact rfl
          apply dq_on; exact g_index rfl rfl rfl (by omega); exact rfl; exact rfl; exact rfl
          apply dq_on; exact g_load (τ := .val (.int _ _)) rfl rfl rfl; exact rfl; exact rfl; exact rfl
          apply dq_on; exact g_load_agg (us := [.int _ _, .int _ _]) rfl rfl rfl rfl; exact rfl; exact rfl; exact rfl
          apply dq_on; exact g_call (cf) rfl; exact rfl; exact rfl; exact rfl
          apply dq_g; exact g_pick (s := .av (.val (.bool _))) rfl rfl; exact rfl
          refine dq_nil tm (by kernel_rfl) ?_
          refine sq_then ?_
          rotate_left
          refine dq_off nofun rfl rfl rfl rfl ?_
          refine dq_off nofun rfl rfl rfl rfl ?_
          refine dq_off nofun rfl rfl rfl rfl ?_
          refine dq_off nofun rfl rfl rfl rfl ?_
          refine dq_off nofun rfl rfl rfl rfl ?_
          refine dq_off nofun rfl rfl rfl rfl ?_
          refine dq_off nofun rfl rfl rfl rfl ?_
          refine dq_off nofun rfl rfl rfl rfl ?_
          refine dq_off nofun rfl rfl rfl rfl ?_
          refine dq_off nofun rfl rfl rfl rfl ?_
          apply dq_g; exact g_pick (s := .av (.val (.bool _))) rfl rfl; exact rfl
          refine dq_nil tm (by kernel_rfl) ?_
          refine sq_then ?_
          refine cq_cond_f rfl ?_
          refine cq_skip ?_
          refine sq_then ?_
          refine cq_region ?_
          apply sq_g; exact g_move (s := .av (.val (.int _ _))) rfl; exact rfl
          apply sq_g; exact g_arith rfl rfl rfl (by omega); exact rfl
          apply sq_g; exact g_assign (s := .av (.val (.int _ _))) rfl; exact rfl
          refine sq_nil ?_
          rotate_left
        · have hnu := hb
          refine cq_cond rfl (fun hb => ?_) (fun hb => ?_)
          · rw [if_pos (by rw [hnu, hb]; rfl)] at hU1
            have hUl : (A ++ B ++ addQ (fitN H P lo up) h X (p + 1)).length = U.length + 1 := by rw [hU1]; simp
            have hml : U.length + 1 ≤ maxLen := Nat.le_trans (by omega : U.length + 1 ≤ 1000000) (by decide)
            have hml2 : 0 + X.length + 1 ≤ maxLen := Nat.le_trans (by omega : 0 + X.length + 1 ≤ 1000000) (by decide)
            have hml3 : 0 + X.length ≤ maxLen := Nat.le_trans (by omega : 0 + X.length ≤ 1000000) (by decide)
            have hone1 : ∀ i, i < 1 → ∀ j, j < 1 → ((fun i (_ : Nat) => [qs (X ++ [(h, p)])].getD i AV.any) i j).one = true := fun i hi j hj => by
              obtain rfl : i = 0 := by omega
              rfl
            have hrow := row_two X (h, p)
            have hlen : 0 + X.length + 1 = (X ++ [(h, p)]).length := by simp
            by_cases hX0 : X = []
            · subst hX0
              refine cq_region ?_
              apply sq_g; exact g_move (s := .osl _) rfl; exact rfl
              refine sq_v (f_bs0 (qf []) 70 bs33 rfl) rfl ?_
              apply sq_g; exact g_move (s := .osl _) rfl; exact rfl
              apply sq_g; exact g_move (s := .av (.val (.int _ _))) rfl; exact rfl
              apply sq_g; exact g_index_row rfl rfl rfl rfl (by omega); exact rfl
              apply sq_g; exact  g_load_oel (τ := qs []) rfl rfl hOl rfl hOa; exact rfl
              refine sq_v (g_append0 (n := 0) (sz := 2) (h := qf []) (f := qf []) rfl rfl rfl).v rfl ?_
              apply sq_g; exact g_move (s := .av (.val (.int _ _))) rfl; exact rfl
              apply sq_g; exact g_move (s := .av (.val (.int _ _))) rfl; exact rfl
              apply sq_g; exact g_build (is := [0, 1]) (xs := [_, _]) (vs := [_, _]) (tb42 _ _) rfl rfl; exact rfl
              apply sq_g; exact g_one_pr (tq33 _ _) rfl rfl rfl; exact rfl
              refine sq_v (v_push_pr (l := []) (p := (h, p)) rfl rfl rfl (by decide) rfl) rfl ?_
              refine lsq_ent (ent_freeze (n := ([] ++ [(h, p)]).length) (f := qf ([] ++ [(h, p)])) 70 rfl) ?_
              apply sq_g; exact  g_bslice_av (is := [0]) (xs := [_]) (τs := [qs ([] ++ [(h, p)])]) (fun vs w h1 h2 => tq105_1 vs w h1 h2) rfl rfl rfl rfl rfl; exact rfl
              refine sq_v (v_append (h := fun i _ => [qs ([] ++ [(h, p)])].getD i .any) (m := 1) rfl rfl rfl hone1 (by omega) hml (by omega)) rfl ?_
              apply sq_g; exact g_assign (s := .osl _) rfl; exact rfl
              refine sq_nil ?_
              refine sq_then ?_
              refine cq_region ?_
              apply sq_g; exact g_move (s := .av (.val (.int _ _))) rfl; exact rfl
              apply sq_g; exact g_arith rfl rfl rfl (by omega); exact rfl
              apply sq_g; exact g_assign (s := .av (.val (.int _ _))) rfl; exact rfl
              refine sq_nil ?_
              exact sq_round (p + 1) (by omega) (by omega) (ent ⟨.refl _, .refl _, .refl _, .refl _, .refl _, .refl _, .refl _, .int (by omega), trivial⟩ ⟨⟨_, rfl, .row hUl.symm (fun i hi j hj => by rw [hU1]; exact row_out U _ i hi j hj)⟩, trivial⟩)
            · have hXp : 0 < X.length := List.length_pos_iff.2 hX0
              refine cq_region ?_
              apply sq_g; exact g_move (s := .osl _) rfl; exact rfl
              refine sq_v (f_bs0 (qf []) 70 bs33 rfl) rfl ?_
              apply sq_g; exact g_move (s := .osl _) rfl; exact rfl
              apply sq_g; exact g_move (s := .av (.val (.int _ _))) rfl; exact rfl
              apply sq_g; exact g_index_row rfl rfl rfl rfl (by omega); exact rfl
              apply sq_g; exact  g_load_oel (τ := qs X) rfl rfl hOl rfl hOa; exact rfl
              refine sq_v (v_append (h := qf X) (m := X.length) rfl rfl rfl (fun i _ j _ => qf_one X i j) hXp hml3 (by omega)) rfl ?_
              apply sq_g; exact g_move (s := .av (.val (.int _ _))) rfl; exact rfl
              apply sq_g; exact g_move (s := .av (.val (.int _ _))) rfl; exact rfl
              apply sq_g; exact g_build (is := [0, 1]) (xs := [_, _]) (vs := [_, _]) (tb42 _ _) rfl rfl; exact rfl
              apply sq_g; exact g_one_pr (tq33 _ _) rfl rfl rfl; exact rfl
              refine sq_v (v_append (h := qf [(h, p)]) (m := 1) rfl rfl rfl (fun i _ j _ => qf_one _ i j) (by omega) hml2 (by omega)) rfl ?_
              refine lsq_ent (Ent.trans (ent_upd (upd := [(70, .row 42 2 (X ++ [(h, p)]).length (qf (X ++ [(h, p)])))]) ⟨⟨_, rfl, .row hlen hrow⟩, trivial⟩) (ent_freeze 70 rfl)) ?_
              apply sq_g; exact  g_bslice_av (is := [0]) (xs := [_]) (τs := [qs (X ++ [(h, p)])]) (fun vs w h1 h2 => tq105_1 vs w h1 h2) rfl rfl rfl rfl rfl; exact rfl
              refine sq_v (v_append (h := fun i _ => [qs (X ++ [(h, p)])].getD i .any) (m := 1) rfl rfl rfl hone1 (by omega) hml (by omega)) rfl ?_
              apply sq_g; exact g_assign (s := .osl _) rfl; exact rfl
              refine sq_nil ?_
              refine sq_then ?_
              refine cq_region ?_
              apply sq_g; exact g_move (s := .av (.val (.int _ _))) rfl; exact rfl
              apply sq_g; exact g_arith rfl rfl rfl (by omega); exact rfl
              apply sq_g; exact g_assign (s := .av (.val (.int _ _))) rfl; exact rfl
              refine sq_nil ?_
              exact sq_round (p + 1) (by omega) (by omega) (ent ⟨.refl _, .refl _, .refl _, .refl _, .refl _, .refl _, .refl _, .int (by omega), trivial⟩ ⟨⟨_, rfl, .row hUl.symm (fun i hi j hj => by rw [hU1]; exact row_out U _ i hi j hj)⟩, trivial⟩)
          · have hnf : fitN H P lo up h p = false := by simpa using hb
            rw [if_neg (by rw [hnf]; simp), List.append_nil] at hU1
            refine cq_skip ?_
            refine sq_then ?_
            refine cq_region ?_
            apply sq_g; exact g_move (s := .av (.val (.int _ _))) rfl; exact rfl
            apply sq_g; exact g_arith rfl rfl rfl (by omega); exact rfl
            apply sq_g; exact g_assign (s := .av (.val (.int _ _))) rfl; exact rfl
            refine sq_nil ?_
            exact sq_round (p + 1) (by omega) (by omega) (ent ⟨.refl _, .refl _, .refl _, .refl _, .refl _, .refl _, .refl _, .int (by omega), trivial⟩ ⟨⟨_, rfl, .row (by rw [hU1]) (fun _ _ _ _ => by rw [hU1])⟩, trivial⟩)
        · rw [if_neg (by rw [hb]; simp), List.append_nil] at hU1
          exact sq_round (p + 1) (by omega) (by omega) (ent ⟨.refl _, .refl _, .refl _, .refl _, .refl _, .refl _, .refl _, .int (by omega), trivial⟩ ⟨⟨_, rfl, .row (by rw [hU1]) (fun _ _ _ _ => by rw [hU1])⟩, trivial⟩)
      · have hpl : p = P.length := by omega
        subst hpl
        refine cq_exit ?_
        refine sq_then ?_
        refine cq_region ?_
        apply sq_g; exact g_move (s := .av (.val (.int _ _))) rfl; exact rfl
        apply sq_g; exact g_arith rfl rfl rfl (by omega); exact rfl
        apply sq_g; exact g_assign (s := .av (.val (.int _ _))) rfl; exact rfl
        refine sq_nil ?_
        exact sq_round (i + 1) (by omega) (by omega) (ent ⟨.refl _, .refl _, .refl _, .refl _, .refl _, .refl _, .int (by omega), trivial⟩ ⟨⟨_, rfl, .row (by rw [hf1, List.append_assoc]) (fun _ _ _ _ => by rw [hf1, List.append_assoc])⟩, trivial⟩)
    · have hil : i = A.length := by omega
      subst hil
      refine cq_exit ?_
      refine sq_then ?_
      refine cq_region ?_
      apply sq_g; exact g_move (s := .av (.val (.int _ _))) rfl; exact rfl
      apply sq_g; exact g_arith rfl rfl rfl (by omega); exact rfl
      apply sq_g; exact g_assign (s := .av (.val (.int _ _))) rfl; exact rfl
      refine sq_nil ?_
      exact sq_round (h + 1) (by omega) (by omega) (ent ⟨.refl _, .refl _, .refl _, .refl _, .int (by omega), trivial⟩ ⟨⟨_, rfl, .row (by rw [hA1]) (fun _ _ _ _ => by rw [hA1])⟩, trivial⟩)
  · have hhl : h = H.length := by omega
    subst hhl
    refine cq_exit ?_
    refine sq_then ?_
    refine cq_seq ?_
    refine cq_region ?_
    apply sq_g; exact g_move (s := .osl _) rfl; exact rfl
    apply sq_g; exact g_assign (s := .osl _) rfl; exact rfl
    refine sq_nil ?_
    refine sq_then ?_
    refine cq_ret ?_
    exact sq_retR rfl rfl rfl rfl (fun _ _ _ _ => rfl)
end Go.Proofs.Ytogilkilkmoedaa
namespace Go.Proofs.Ytogilkilkmoedaa
open Go Go.Vc Go.RowKit
set_option maxHeartbeats 8000000
/-! KDQ -/
theorem best_c (H P : List Int) (lo up : Int) (hH : H.length ≤ 6) (hP : P.length ≤ 6) (bH : ∀ i, Bi (gz H i)) (bP : ∀ i, Bi (gz P i)) : CtrA Try.prog 44 [zs H, zs P, lim lo up] (qs (bestL (fitN H P lo up) H.length P.length)) := by
  refine ctrA _ Try.func44 rfl rfl Try.ntmps44 rfl fun w Z => ?_
  have ca := (all_c H P lo up hH hP bH bP).ro
  have hFm := best_mem (fitN H P lo up) H.length P.length
  have hbb := fun X (hX : X ∈ allN (fitN H P lo up) P.length H.length) hne => best_best (fit := fitN H P lo up) (nH := H.length) (nP := P.length) hX hne
  have hXl : ∀ X ∈ allN (fitN H P lo up) P.length H.length, X.length ≤ 6 := fun X hX => Nat.le_trans (prg_len (mem_allN.1 hX)) hH
  have hLl : (allN (fitN H P lo up) P.length H.length).length ≤ 117649 := Nat.le_trans (allN_len hP _) (Nat.le_trans (Nat.pow_le_pow_right (by decide) hH) (by decide))
  generalize allN (fitN H P lo up) P.length H.length = L at ca hFm hbb hXl hLl
  generalize bestL (fitN H P lo up) H.length P.length = F at hFm hbb
  have hL0 : 0 < L.length := List.length_pos_of_mem hFm
  have hat : ∃ j, j < L.length ∧ ga L j = F := by
    obtain ⟨j, hj, e⟩ := List.getElem_of_mem hFm
    exact ⟨j, hj, by unfold ga; rw [List.getD, List.getElem?_eq_getElem hj]; exact e⟩
  have h0 : asF L 0 0 = qs (ga L 0) := rfl
  simp only [initT, List.map_cons, List.map_nil, Nat.zero_add, Nat.reduceAdd]
  refine cq_seq ?_
  refine cq_region ?_
  apply sq_g; exact g_box_agg rfl; exact rfl
  apply sq_g; exact g_assign (s := .av _) rfl; exact rfl
  refine sq_nil ?_
  refine sq_then ?_
  refine cq_seq ?_
  refine cq_region ?_
  apply sq_g; exact g_move (s := .av _) rfl; exact rfl
  apply sq_g; exact g_move (s := .av _) rfl; exact rfl
  apply sq_g; exact g_load_agg (us := [.int _ _, .int _ _]) rfl rfl rfl rfl; exact rfl
  apply sq_g; exact g_call (ca) rfl; exact rfl
  apply sq_g; exact g_assign (s := .av _) rfl; exact rfl
  refine sq_nil ?_
  refine sq_then ?_
  refine cq_seq ?_
  refine cq_region ?_
  apply sq_g; exact g_move (s := .av _) rfl; exact rfl
  apply sq_g; exact g_index rfl rfl rfl (by omega); exact rfl
  apply sq_g; exact  g_load (τ := qs (ga L 0)) rfl rfl h0; exact rfl
  apply sq_g; exact g_assign (s := .av _) rfl; exact rfl
  refine sq_nil ?_
  refine sq_then ?_
  refine cq_seq ?_
  refine cq_seq ?_
  refine cq_region ?_
  apply sq_g; exact g_assign (s := .av (.val (.int _ _))) rfl; exact rfl
  refine sq_nil ?_
  refine sq_then ?_
  refine cq_block ?_
  refine cq_loop (γ := Nat × List (Nat × Nat)) (fun g => [(7, .av (.sl L.length 1 (asF L))), (8, .av (qs g.2)), (9, .av (vi g.1))]) (fun _ => []) (fun g => g.1 ≤ L.length ∧ g.2 ∈ L ∧ ∀ j, j < g.1 → ga L j = F → g.2 = F) (fun g => L.length - g.1) (0, ga L 0) ⟨Nat.zero_le _, ga_mem hL0, fun j hj => absurd hj (Nat.not_lt_zero j)⟩ (ent ⟨.refl _, .refl _, .refl _, trivial⟩ trivial) ?_
  rintro ⟨i, b⟩ ⟨hi, hb0, hg⟩
  dsimp only at hi hb0 hg ⊢
  refine cq_seq ?_
  refine cq_seq ?_
  refine cq_region ?_
  apply sq_g; exact g_move (s := .av (.val (.int _ _))) rfl; exact rfl
  apply sq_g; exact g_move (s := .av _) rfl; exact rfl
  apply sq_g; exact g_len rfl; exact rfl
  apply sq_g; exact g_cmp rfl rfl rfl; exact rfl
  refine sq_nil ?_
  refine sq_then ?_
  (refine cq_cond rfl (fun hb => ?_) (fun hb => ?_) <;> (try simp only [decide_eq_true_eq, decide_eq_false_iff_not, beq_iff_eq, beq_eq_false_iff_ne, bne_iff_ne, bne_eq_false_iff_eq, ne_eq, Bool.not_eq_true', Bool.not_eq_false', Bool.and_eq_true, Bool.or_eq_true, Bool.and_eq_false_iff, Bool.or_eq_false_iff] at hb) <;> (try (exfalso; omega)))
  · have hil : i < L.length := by omega
    have hXm := ga_mem hil
    have hx : asF L i 0 = qs (ga L i) := rfl
    have hyes : betB (ga L i) b = true → ∀ j, j < i + 1 → ga L j = F → ga L i = F := fun hB j hj e => by
      by_cases h : j = i
      · rw [← h]; exact e
      · have := hg j (by omega) e
        subst this
        by_cases hX : ga L i = b
        · exact hX
        · rw [(hbb _ hXm hX).2] at hB; cases hB
    have hno : betB (ga L i) b = false → ∀ j, j < i + 1 → ga L j = F → b = F := fun hB j hj e => by
      by_cases h : j = i
      · subst h
        by_cases hX : b = F
        · exact hX
        · rw [e, (hbb _ hb0 hX).1] at hB; cases hB
      · exact hg j (by omega) e
    have l1 := hXl _ hXm
    have l2 := hXl _ hb0
    generalize ga L i = X at hXm hx hyes hno l1
    by_cases hl : X.length = b.length
    · have cb := before_c X b (by omega) hl
      refine cq_skip ?_
      refine sq_then ?_
      refine cq_seq ?_
      refine cq_block ?_
      refine cq_seq ?_
      refine cq_region ?_
      apply sq_g; exact g_move (s := .av _) rfl; exact rfl
      apply sq_g; exact g_move (s := .av (.val (.int _ _))) rfl; exact rfl
      apply sq_g; exact g_index rfl rfl rfl (by omega); exact rfl
      apply sq_g; exact  g_load (τ := qs X) rfl rfl hx; exact rfl
      apply sq_g; exact g_len rfl; exact rfl
      apply sq_g; exact g_move (s := .av _) rfl; exact rfl
      apply sq_g; exact g_len rfl; exact rfl
      apply sq_g; exact g_cmp rfl rfl rfl; exact rfl
      apply sq_g; exact g_move (s := .av (.val (.bool _))) rfl; exact rfl
      refine sq_split rfl rfl (fun hb => ?_) (fun hb => ?_) <;> (try simp only [decide_eq_true_eq, decide_eq_false_iff_not, beq_iff_eq, beq_eq_false_iff_ne, bne_iff_ne, bne_eq_false_iff_eq, ne_eq, Bool.not_eq_true', Bool.not_eq_false', Bool.and_eq_true, Bool.or_eq_true, Bool.and_eq_false_iff, Bool.or_eq_false_iff] at hb) <;> (try (exfalso; omega))
      apply sq_on; exact g_move (s := .av _) rfl; exact rfl; exact rfl; exact rfl
      apply sq_on; exact g_move (s := .av (.val (.int _ _))) rfl; exact rfl; exact rfl; exact rfl
      apply sq_on; exact g_index rfl rfl rfl (by omega); exact rfl; exact rfl; exact rfl
      apply sq_on; exact  g_load (τ := qs X) rfl rfl hx; exact rfl; exact rfl; exact rfl
      apply sq_on; exact g_len rfl; exact rfl; exact rfl; exact rfl
      apply sq_on; exact g_move (s := .av _) rfl; exact rfl; exact rfl; exact rfl
      apply sq_on; exact g_len rfl; exact rfl; exact rfl; exact rfl
      apply sq_on; exact g_cmp rfl rfl rfl; exact rfl; exact rfl; exact rfl
      apply sq_on; exact g_move (s := .av (.val (.bool _))) rfl; exact rfl; exact rfl; exact rfl
      refine sq_split rfl rfl (fun hb => ?_) (fun hb => ?_) <;> (try simp only [decide_eq_true_eq, decide_eq_false_iff_not, beq_iff_eq, beq_eq_false_iff_ne, bne_iff_ne, bne_eq_false_iff_eq, ne_eq, Bool.not_eq_true', Bool.not_eq_false', Bool.and_eq_true, Bool.or_eq_true, Bool.and_eq_false_iff, Bool.or_eq_false_iff] at hb) <;> (try (exfalso; omega))
      apply sq_on; exact g_move (s := .av _) rfl; exact rfl; exact rfl; exact rfl
      apply sq_on; exact g_move (s := .av (.val (.int _ _))) rfl; exact rfl; exact rfl; exact rfl
      apply sq_on; exact g_index rfl rfl rfl (by omega); exact rfl; exact rfl; exact rfl
      apply sq_on; exact  g_load (τ := qs X) rfl rfl hx; exact rfl; exact rfl; exact rfl
      apply sq_on; exact g_move (s := .av _) rfl; exact rfl; exact rfl; exact rfl
      apply sq_on; exact g_call (cb) rfl; exact rfl; exact rfl; exact rfl
      apply sq_on; exact g_pick (s := .av (.val (.bool _))) rfl rfl; exact rfl; exact rfl; exact rfl
      apply sq_g; exact g_pick (s := .av (.val (.bool _))) rfl rfl; exact rfl
      refine sq_nil ?_
      refine sq_then ?_
      refine cq_cond rfl (fun hb => ?_) (fun hb => ?_)
      · have hB : betB X b = true := by unfold betB; rw [decide_eq_true hl, hb]; simp
        refine cq_region ?_
        apply sq_g; exact g_move (s := .av _) rfl; exact rfl
        apply sq_g; exact g_move (s := .av (.val (.int _ _))) rfl; exact rfl
        apply sq_g; exact g_index rfl rfl rfl (by omega); exact rfl
        apply sq_g; exact  g_load (τ := qs X) rfl rfl hx; exact rfl
        apply sq_g; exact g_assign (s := .av _) rfl; exact rfl
        refine sq_nil ?_
        refine sq_then ?_
        refine cq_region ?_
        apply sq_g; exact g_move (s := .av (.val (.int _ _))) rfl; exact rfl
        apply sq_g; exact g_arith rfl rfl rfl (by omega); exact rfl
        apply sq_g; exact g_assign (s := .av (.val (.int _ _))) rfl; exact rfl
        refine sq_nil ?_
        exact sq_round (g := (i, b)) (i + 1, X) ⟨by dsimp only; omega, hXm, hyes hB⟩ (by dsimp only; omega) (ent ⟨.refl _, .refl _, .int (by dsimp only; omega), trivial⟩ trivial)
      · have hB : betB X b = false := by unfold betB; rw [decide_eq_true hl, hb, decide_eq_false (by omega)]; rfl
        refine cq_skip ?_
        refine sq_then ?_
        refine cq_region ?_
        apply sq_g; exact g_move (s := .av (.val (.int _ _))) rfl; exact rfl
        apply sq_g; exact g_arith rfl rfl rfl (by omega); exact rfl
        apply sq_g; exact g_assign (s := .av (.val (.int _ _))) rfl; exact rfl
        refine sq_nil ?_
        exact sq_round (g := (i, b)) (i + 1, b) ⟨by dsimp only; omega, hb0, hno hB⟩ (by dsimp only; omega) (ent ⟨.refl _, .refl _, .int (by dsimp only; omega), trivial⟩ trivial)
    · focus
        refine cq_skip ?_
        refine sq_then ?_
        refine cq_seq ?_
        refine cq_block ?_
        refine cq_seq ?_
        refine cq_region ?_
        apply sq_g; exact g_move (s := .av _) rfl; exact rfl
        apply sq_g; exact g_move (s := .av (.val (.int _ _))) rfl; exact rfl
        apply sq_g; exact g_index rfl rfl rfl (by omega); exact rfl
        apply sq_g; exact  g_load (τ := qs X) rfl rfl hx; exact rfl
        apply sq_g; exact g_len rfl; exact rfl
        apply sq_g; exact g_move (s := .av _) rfl; exact rfl
        apply sq_g; exact g_len rfl; exact rfl
        apply sq_g; exact g_cmp rfl rfl rfl; exact rfl
        apply sq_g; exact g_move (s := .av (.val (.bool _))) rfl; exact rfl
        refine sq_split rfl rfl (fun hb => ?_) (fun hb => ?_) <;> (try simp only [decide_eq_true_eq, decide_eq_false_iff_not, beq_iff_eq, beq_eq_false_iff_ne, bne_iff_ne, bne_eq_false_iff_eq, ne_eq, Bool.not_eq_true', Bool.not_eq_false', Bool.and_eq_true, Bool.or_eq_true, Bool.and_eq_false_iff, Bool.or_eq_false_iff] at hb) <;> (try (exfalso; omega))
        refine sq_off rfl rfl rfl rfl ?_
        refine sq_off rfl rfl rfl rfl ?_
        refine sq_off rfl rfl rfl rfl ?_
        refine sq_off rfl rfl rfl rfl ?_
        refine sq_off rfl rfl rfl rfl ?_
        refine sq_off rfl rfl rfl rfl ?_
        refine sq_off rfl rfl rfl rfl ?_
        refine sq_off rfl rfl rfl rfl ?_
        refine sq_off rfl rfl rfl rfl ?_
        refine sq_offu rfl rfl rfl ?_
        refine sq_offu rfl rfl rfl ?_
        refine sq_offu rfl rfl rfl ?_
        refine sq_offu rfl rfl rfl ?_
        refine sq_offu rfl rfl rfl ?_
        refine sq_offu rfl rfl rfl ?_
        refine sq_off rfl rfl rfl rfl ?_
        apply sq_g; exact g_pick (s := .av (.val (.bool _))) rfl rfl; exact rfl
        refine sq_nil ?_
        refine sq_then ?_
        refine cq_cond_t rfl ?_
        refine cq_region ?_
        apply sq_g; exact g_move (s := .av _) rfl; exact rfl
        apply sq_g; exact g_move (s := .av (.val (.int _ _))) rfl; exact rfl
        apply sq_g; exact g_index rfl rfl rfl (by omega); exact rfl
        apply sq_g; exact  g_load (τ := qs X) rfl rfl hx; exact rfl
        apply sq_g; exact g_assign (s := .av _) rfl; exact rfl
        refine sq_nil ?_
        refine sq_then ?_
        refine cq_region ?_
        apply sq_g; exact g_move (s := .av (.val (.int _ _))) rfl; exact rfl
        apply sq_g; exact g_arith rfl rfl rfl (by omega); exact rfl
        apply sq_g; exact g_assign (s := .av (.val (.int _ _))) rfl; exact rfl
        refine sq_nil ?_
        rotate_left
        apply sq_on; exact g_move (s := .av _) rfl; exact rfl; exact rfl; exact rfl
        apply sq_on; exact g_move (s := .av (.val (.int _ _))) rfl; exact rfl; exact rfl; exact rfl
        apply sq_on; exact g_index rfl rfl rfl (by omega); exact rfl; exact rfl; exact rfl
        apply sq_on; exact  g_load (τ := qs X) rfl rfl hx; exact rfl; exact rfl; exact rfl
        apply sq_on; exact g_len rfl; exact rfl; exact rfl; exact rfl
        apply sq_on; exact g_move (s := .av _) rfl; exact rfl; exact rfl; exact rfl
        apply sq_on; exact g_len rfl; exact rfl; exact rfl; exact rfl
        apply sq_on; exact g_cmp rfl rfl rfl; exact rfl; exact rfl; exact rfl
        apply sq_on; exact g_move (s := .av (.val (.bool _))) rfl; exact rfl; exact rfl; exact rfl
        refine sq_split rfl rfl (fun hb => ?_) (fun hb => ?_) <;> (try simp only [decide_eq_true_eq, decide_eq_false_iff_not, beq_iff_eq, beq_eq_false_iff_ne, bne_iff_ne, bne_eq_false_iff_eq, ne_eq, Bool.not_eq_true', Bool.not_eq_false', Bool.and_eq_true, Bool.or_eq_true, Bool.and_eq_false_iff, Bool.or_eq_false_iff] at hb) <;> (try (exfalso; omega))
        refine sq_off rfl rfl rfl rfl ?_
        refine sq_off rfl rfl rfl rfl ?_
        refine sq_off rfl rfl rfl rfl ?_
        refine sq_off rfl rfl rfl rfl ?_
        refine sq_off rfl rfl rfl rfl ?_
        refine sq_off rfl rfl rfl rfl ?_
        apply sq_on; exact g_pick (s := .av (.val (.bool _))) rfl rfl; exact rfl; exact rfl; exact rfl
        apply sq_g; exact g_pick (s := .av (.val (.bool _))) rfl rfl; exact rfl
        refine sq_nil ?_
        refine sq_then ?_
        refine cq_cond_f rfl ?_
        refine cq_skip ?_
        refine sq_then ?_
        refine cq_region ?_
        apply sq_g; exact g_move (s := .av (.val (.int _ _))) rfl; exact rfl
        apply sq_g; exact g_arith rfl rfl rfl (by omega); exact rfl
        apply sq_g; exact g_assign (s := .av (.val (.int _ _))) rfl; exact rfl
        refine sq_nil ?_
        rotate_left
      · have hB : betB X b = true := by unfold betB; rw [decide_eq_true (by omega : b.length < X.length)]; rfl
        exact sq_round (g := (i, b)) (i + 1, X) ⟨by dsimp only; omega, hXm, hyes hB⟩ (by dsimp only; omega) (ent ⟨.refl _, .refl _, .int (by dsimp only; omega), trivial⟩ trivial)
      · have hB : betB X b = false := by unfold betB; rw [decide_eq_false (by omega : ¬ b.length < X.length), decide_eq_false hl]; rfl
        exact sq_round (g := (i, b)) (i + 1, b) ⟨by dsimp only; omega, hb0, hno hB⟩ (by dsimp only; omega) (ent ⟨.refl _, .refl _, .int (by dsimp only; omega), trivial⟩ trivial)
  · have hil : i = L.length := by omega
    obtain ⟨j, hj, e⟩ := hat
    have hbF := hg j (by omega) e
    subst hbF
    refine cq_exit ?_
    refine sq_then ?_
    refine cq_seq ?_
    refine cq_region ?_
    apply sq_g; exact g_move (s := .av _) rfl; exact rfl
    apply sq_g; exact g_assign (s := .av _) rfl; exact rfl
    refine sq_nil ?_
    refine sq_then ?_
    refine cq_ret ?_
    exact sq_res1 rfl (.tmp rfl) rfl
theorem rpairs_c (H P : List Int) (lo up : Int) (hf : fewP H.length P.length) : CtrA Try.prog 17 [zs H, zs P, lim lo up] (tupOf [qs (pairsL H P lo up), vi (errC H P lo up)]) := by
  refine ctrA _ Try.func17 rfl rfl Try.ntmps17 rfl fun w Z => ?_
  have hl : H.length ≤ 1000000 ∧ P.length ≤ 1000000 := by unfold fewP at hf; omega
  have hc := rcheck_c H P lo up hl.1 hl.2
  simp only [initT, List.map_cons, List.map_nil, Nat.zero_add, Nat.reduceAdd]
  refine cq_seq ?_
  refine cq_region ?_
  apply sq_g; exact g_box_agg rfl; exact rfl
  apply sq_g; exact g_assign (s := .av _) rfl; exact rfl
  apply sq_g; exact g_assign (s := .av (.val (.int _ _))) rfl; exact rfl
  refine sq_nil ?_
  refine sq_then ?_
  refine cq_seq ?_
  refine cq_seq ?_
  refine cq_region ?_
  apply sq_g; exact g_move (s := .av _) rfl; exact rfl
  apply sq_g; exact g_move (s := .av _) rfl; exact rfl
  apply sq_g; exact g_load_agg (us := [.int _ _, .int _ _]) rfl rfl rfl rfl; exact rfl
  apply sq_g; exact g_call (hc) rfl; exact rfl
  apply sq_g; exact g_assign (s := .av (.val (.int _ _))) rfl; exact rfl
  refine sq_nil ?_
  refine sq_then ?_
  refine cq_seq ?_
  refine cq_region ?_
  apply sq_g; exact g_move (s := .av (.val (.int _ _))) rfl; exact rfl
  apply sq_g; exact g_cmp rfl rfl rfl; exact rfl
  refine sq_nil ?_
  refine sq_then ?_
  (refine cq_cond rfl (fun hb => ?_) (fun hb => ?_) <;> (try simp only [decide_eq_true_eq, decide_eq_false_iff_not, beq_iff_eq, beq_eq_false_iff_ne, bne_iff_ne, bne_eq_false_iff_eq, ne_eq, Bool.not_eq_true', Bool.not_eq_false', Bool.and_eq_true, Bool.or_eq_true, Bool.and_eq_false_iff, Bool.or_eq_false_iff] at hb) <;> (try (exfalso; omega)))
  · have e1 : pairsL H P lo up = [] := by unfold pairsL; rw [if_neg hb]
    rw [e1]
    refine cq_seq ?_
    refine cq_region ?_
    apply sq_g; exact g_move (s := .av (.val (.int _ _))) rfl; exact rfl
    apply sq_g; exact g_assign (s := .av _) rfl; exact rfl
    apply sq_g; exact g_assign (s := .av (.val (.int _ _))) rfl; exact rfl
    refine sq_nil ?_
    refine sq_then ?_
    refine cq_ret ?_
    refine sq_then_ret ?_
    exact sq_ent (ent_nil 6 2 (qf []) rfl) (sq_resN (rvs := [_, _]) (τs := [_, _]) rfl rfl ⟨.tmp rfl, .tmp rfl, trivial⟩ rfl)
  · have he : errC H P lo up = 0 := by omega
    obtain ⟨rH, rP⟩ := errC_ok he
    have s1 := rH.len
    have s2 := rP.len
    have hs : H.length ≤ 6 ∧ P.length ≤ 6 := by unfold fewP at hf; omega
    have cb := best_c H P lo up hs.1 hs.2 rH.bi rP.bi
    have e1 : pairsL H P lo up = bestL (fitN H P lo up) H.length P.length := by unfold pairsL; rw [if_pos he]; rfl
    rw [e1, he]
    refine cq_skip ?_
    refine sq_then ?_
    refine cq_seq ?_
    refine cq_region ?_
    apply sq_g; exact g_move (s := .av _) rfl; exact rfl
    apply sq_g; exact g_move (s := .av _) rfl; exact rfl
    apply sq_g; exact g_load_agg (us := [.int _ _, .int _ _]) rfl rfl rfl rfl; exact rfl
    apply sq_g; exact g_call (cb) rfl; exact rfl
    apply sq_g; exact g_assign (s := .av _) rfl; exact rfl
    apply sq_g; exact g_assign (s := .av (.val (.int _ _))) rfl; exact rfl
    refine sq_nil ?_
    refine sq_then ?_
    refine cq_ret ?_
    exact sq_resN (rvs := [_, _]) (τs := [_, _]) rfl rfl ⟨.tmp rfl, .tmp rfl, trivial⟩ rfl
theorem pairsL_le (H P : List Int) (lo up : Int) : (pairsL H P lo up).length ≤ 256 := by
  unfold pairsL
  split
  · rename_i he
    have := pairsN_len (fit := fitN H P lo up) (nH := H.length) (nP := P.length) H.length
    have := (errC_ok he).1.len
    omega
  · exact Nat.zero_le _
theorem lpairs_c (H P : List Int) (lo up : Int) : CtrA Try.prog 4 [zs H, zs P, lim lo up] (vb true) := by
  refine ctrA _ Try.func4 rfl rfl Try.ntmps4 rfl fun w Z => ?_
  have aw := awake_c
  have cf := few_c H P
  simp only [initT, List.map_cons, List.map_nil, Nat.zero_add, Nat.reduceAdd]
  refine cq_seq ?_
  refine cq_region ?_
  apply sq_g; exact g_box_agg rfl; exact rfl
  apply sq_g; exact g_assign (s := .av (.val (.bool _))) rfl; exact rfl
  refine sq_nil ?_
  refine sq_then ?_
  refine cq_seq ?_
  refine cq_seq ?_
  refine cq_region ?_
  apply sq_g; exact g_move (s := .av _) rfl; exact rfl
  apply sq_g; exact g_move (s := .av _) rfl; exact rfl
  apply sq_g; exact g_call (cf) rfl; exact rfl
  apply sq_g; exact g_not rfl; exact rfl
  refine sq_nil ?_
  refine sq_then ?_
  refine cq_cond rfl (fun hb => ?_) (fun hb => ?_)
  · refine cq_seq ?_
    refine cq_region ?_
    apply sq_g; exact g_call (aw) rfl; exact rfl
    apply sq_g; exact g_assign (s := .av (.val (.bool _))) rfl; exact rfl
    refine sq_nil ?_
    refine sq_then ?_
    refine cq_ret ?_
    refine sq_then_ret ?_
    exact sq_res1 rfl (.tmp rfl) rfl
  · have hf : fewP H.length P.length := by simpa using hb
    have c1 := (pairs_c H P lo up).roN
    have c2 := rpairs_c H P lo up hf
    have hl := pairsL_le H P lo up
    generalize pairsL H P lo up = A at c1 c2 hl
    have c3 := same_c A (by omega)
    focus
      refine cq_skip ?_
      refine sq_then ?_
      refine cq_seq ?_
      refine cq_region ?_
      apply sq_g; exact g_move (s := .av _) rfl; exact rfl
      apply sq_g; exact g_move (s := .av _) rfl; exact rfl
      apply sq_g; exact g_load_agg (us := [.int _ _, .int _ _]) rfl rfl rfl rfl; exact rfl
      apply sq_g; exact g_call (c1) rfl; exact rfl
      apply sq_g; exact g_move (s := .av _) rfl; exact rfl
      apply sq_g; exact g_extractT rfl rfl; exact rfl
      apply sq_g; exact g_extractT rfl rfl; exact rfl
      apply sq_g; exact g_assign (s := .av _) rfl; exact rfl
      apply sq_g; exact g_assign (s := .av (.val (.int _ _))) rfl; exact rfl
      refine sq_nil ?_
      refine sq_then ?_
      refine cq_seq ?_
      refine cq_region ?_
      apply sq_g; exact g_move (s := .av _) rfl; exact rfl
      apply sq_g; exact g_move (s := .av _) rfl; exact rfl
      apply sq_g; exact g_load_agg (us := [.int _ _, .int _ _]) rfl rfl rfl rfl; exact rfl
      apply sq_g; exact g_call (c2) rfl; exact rfl
      apply sq_g; exact g_move (s := .av _) rfl; exact rfl
      apply sq_g; exact g_extractT rfl rfl; exact rfl
      apply sq_g; exact g_extractT rfl rfl; exact rfl
      apply sq_g; exact g_assign (s := .av _) rfl; exact rfl
      apply sq_g; exact g_assign (s := .av (.val (.int _ _))) rfl; exact rfl
      refine sq_nil ?_
      refine sq_then ?_
      refine cq_seq ?_
      refine cq_region ?_
      apply sq_g; exact g_move (s := .av _) rfl; exact rfl
      apply sq_g; exact g_move (s := .av _) rfl; exact rfl
      apply sq_g; exact g_call (c3) rfl; exact rfl
      apply sq_g; exact g_move (s := .av (.val (.bool _))) rfl; exact rfl
      apply sq_on; exact g_move (s := .av (.val (.int _ _))) rfl; exact rfl; exact rfl; exact rfl
      apply sq_on; exact g_move (s := .av (.val (.int _ _))) rfl; exact rfl; exact rfl; exact rfl
      apply sq_on; exact g_cmp rfl rfl rfl; exact rfl; exact rfl; exact rfl
      apply sq_g; exact g_pick (s := .av (.val (.bool _))) rfl rfl; exact rfl
      apply sq_g; exact g_move (s := .av (.val (.bool _))) rfl; exact rfl
      refine sq_split rfl rfl (fun hb => ?_) (fun hb => ?_) <;> (try simp only [decide_eq_true_eq, decide_eq_false_iff_not, beq_iff_eq, beq_eq_false_iff_ne, bne_iff_ne, bne_eq_false_iff_eq, ne_eq, Bool.not_eq_true', Bool.not_eq_false', Bool.and_eq_true, Bool.or_eq_true, Bool.and_eq_false_iff, Bool.or_eq_false_iff] at hb) <;> (try (exfalso; omega))
      apply sq_on; exact g_call (aw) rfl; exact rfl; exact rfl; exact rfl
      apply sq_g; exact g_pick (s := .av (.val (.bool _))) rfl rfl; exact rfl
      apply sq_g; exact g_assign (s := .av (.val (.bool _))) rfl; exact rfl
      refine sq_nil ?_
      refine sq_then ?_
      refine cq_ret ?_
      rotate_left
      refine sq_off rfl rfl rfl rfl ?_
      apply sq_g; exact g_pick (s := .av (.val (.bool _))) rfl rfl; exact rfl
      apply sq_g; exact g_assign (s := .av (.val (.bool _))) rfl; exact rfl
      refine sq_nil ?_
      refine sq_then ?_
      refine cq_ret ?_
      rotate_left
    · exact sq_res1 rfl (.tmp rfl) rfl
    · exact absurd trivial hb
end Go.Proofs.Ytogilkilkmoedaa
