/- A part of the proof. -/
import Derived.DeepKeys
import Derived.Test.YtgepmbjmaljgoaaGreatDoorRows
import Derived.ProofKit
import Derived.Deep.Slices
import Derived.Deep.Fields
import Derived.Deep.Strs
import Derived.OpenShut
import Derived.ChangeSame
import Derived.Lib.SmallJoins
import Derived.Carry
import Derived.Below
import Derived.FnData
import Derived.Shelf.Vars
import Derived.LaidLaws
import Derived.LaidHandle
import Derived.Handed
import Derived.Test.YtgepmbjmaljgoaaGreatDoorBaq
set_option linter.unusedVariables false
set_option linter.unusedSimpArgs false
namespace Go.Proofs.YtgepmbjmaljgoaaGreatDoor.H
open Go Go.Vc Go.RowKit Go.Na
set_option maxHeartbeats 4000000
theorem tb57 (a b c : ByteArray) : Tryz.prog.built 57 [(0, .string a), (1, .string b), (2, .string c)] = some #[.string a, .string b, .string c] := by kernel_rfl
theorem ti57_0 (a b c : ByteArray) (w : World) : (Instr.index 57 (.agg [.string a, .string b, .string c].toArray) (.int .i64 0)).run Tryz.prog w = .ok (.string a) w := by kernel_rfl
theorem ti57_1 (a b c : ByteArray) (w : World) : (Instr.index 57 (.agg [.string a, .string b, .string c].toArray) (.int .i64 1)).run Tryz.prog w = .ok (.string b) w := by kernel_rfl
theorem ti57_2 (a b c : ByteArray) (w : World) : (Instr.index 57 (.agg [.string a, .string b, .string c].toArray) (.int .i64 2)).run Tryz.prog w = .ok (.string c) w := by kernel_rfl
noncomputable def plE (a : Int) (A B C : List UInt8) : Int := if ¬ (0 ≤ a ∧ a ≤ 2) then 1 else if chkR A ≠ 0 then chkR A else if chkR B ≠ 0 then chkR B else chkR C
theorem plcheck_c (a : Int) (A B C : List UInt8) (s : AV) (hA : A.length ≤ 400) (hB : B.length ≤ 400) (hC : C.length ≤ 400) : CtrA Tryz.prog 56 [pA a A B C s] (vi (plE a A B C)) := by
 have hx := axes_c a
 have h1 := ratcheck_c A hA
 have h2 := ratcheck_c B hB
 have h3 := ratcheck_c C hC
 refine ctrA _ Tryz.func56 rfl rfl Tryz.ntmps56 rfl fun w Z => ?_
 refine zU ?_
 refine wt ?_
 (refine cq_cond rfl ?_ ?_ <;> intro hb <;> (try simp only [zA, zB, zG, zC, zD, zN] at hb) <;> (try (exfalso; omega)))
 ·refine wt ?_
  have ha : ¬ (0 ≤ a ∧ a ≤ 2) := fun h => by rw [if_pos h] at hb; exact hb rfl
  exact sq_res1 rfl (.tmp rfl) (congrArg vi (by unfold plE; rw [if_pos ha, if_neg ha]))
 ·have ha : 0 ≤ a ∧ a ≤ 2 := by
   by_cases h : 0 ≤ a ∧ a ≤ 2
   ·exact h
   ·rw [if_neg h] at hb; cases hb
  refine wt ?_
  refine sq_g (g_build (t := 57) (is := [0, 1, 2]) (xs := [_, _, _]) (vs := [_, _, _]) (tb57 _ _ _) rfl rfl) rfl ?_
  refine wt ?_
  refine cq_loop (γ := Nat) (fun i => [(19, .av (.val (.agg [.string (bs A), .string (bs B), .string (bs C)].toArray))), (20, .av (vi i))]) (fun _ => []) (fun i => i ≤ 3 ∧ (0 < i → chkR A = 0) ∧ (1 < i → chkR B = 0) ∧ (2 < i → chkR C = 0)) (fun i => 3 - i) 0 ⟨by omega, by omega, by omega, by omega⟩ (ent zS trivial) ?_
  rintro i ⟨hi, q1, q2, q3⟩
  match i, hi, q1, q2, q3 with
  |0, _, _, _, _ =>
   refine wt ?_
   refine sq_g (g_aindex (ti57_0 _ _ _) rfl rfl) rfl ?_
   refine wt ?_
   (refine cq_cond rfl ?_ ?_ <;> intro hb <;> (try simp only [zA, zB, zG, zC, zD, zN] at hb) <;> (try (exfalso; omega)))
   ·refine wt ?_
    exact sq_res1 rfl (.tmp rfl) (congrArg vi (by unfold plE; rw [if_neg (fun h => h ha), if_pos hb]))
   ·refine wt ?_
    exact sq_round 1 ⟨by omega, fun _ => hb, by omega, by omega⟩ zO (ent zS trivial)
  |1, _, q1, _, _ =>
   have e1 := q1 zO
   refine wt ?_
   refine sq_g (g_aindex (ti57_1 _ _ _) rfl rfl) rfl ?_
   refine wt ?_
   (refine cq_cond rfl ?_ ?_ <;> intro hb <;> (try simp only [zA, zB, zG, zC, zD, zN] at hb) <;> (try (exfalso; omega)))
   ·refine wt ?_
    exact sq_res1 rfl (.tmp rfl) (congrArg vi (by unfold plE; rw [if_neg (fun h => h ha), if_neg (fun h => h e1), if_pos hb]))
   ·refine wt ?_
    exact sq_round 2 ⟨by omega, fun _ => e1, fun _ => hb, by omega⟩ zO (ent zS trivial)
  |2, _, q1, q2, _ =>
   have e1 := q1 zO
   have e2 := q2 zO
   refine wt ?_
   refine sq_g (g_aindex (ti57_2 _ _ _) rfl rfl) rfl ?_
   refine wt ?_
   (refine cq_cond rfl ?_ ?_ <;> intro hb <;> (try simp only [zA, zB, zG, zC, zD, zN] at hb) <;> (try (exfalso; omega)))
   ·refine wt ?_
    exact sq_res1 rfl (.tmp rfl) (congrArg vi (by unfold plE; rw [if_neg (fun h => h ha), if_neg (fun h => h e1), if_neg (fun h => h e2)]))
   ·refine wt ?_
    exact sq_round 3 ⟨by omega, fun _ => e1, fun _ => e2, fun _ => hb⟩ zO (ent zS trivial)
  |3, _, q1, q2, q3 =>
   have e1 := q1 zO
   have e2 := q2 zO
   have e3 := q3 zO
   refine wt ?_
   exact sq_res1 rfl (.tmp rfl) (congrArg vi (by unfold plE; rw [if_neg (fun h => h ha), if_neg (fun h => h e1), if_neg (fun h => h e2), e3]))
  |_ + 4, h, _, _, _ => omega
end Go.Proofs.YtgepmbjmaljgoaaGreatDoor.H
section
end
namespace Go.Proofs.YtgepmbjmaljgoaaGreatDoor.H
open Go Go.Vc Go.RowKit Go.Na
set_option maxHeartbeats 4000000
abbrev sv (l : List UInt8) : Value := .string (bs l)
theorem tb59 (a b c d e f : ByteArray) : Tryz.prog.built 59 [(0, .agg #[.string a, .string b, .string c]), (1, .agg #[.string d, .string e, .string f])] = some #[.string a, .string b, .string c, .string d, .string e, .string f] := by kernel_rfl
def torC (k : Nat) (o : Int) (A B C : Rat) : List Value :=
 match k with
 |0 => [sv (rtx (o - A)), sv [48], sv [48], sv [48], sv (rtx (-C)), sv (rtx B)]
 |1 => [sv [48], sv (rtx (o - A)), sv [48], sv (rtx C), sv [48], sv (rtx (-B))]
 |_ => [sv [48], sv [48], sv (rtx (o - A)), sv (rtx (-C)), sv (rtx B), sv [48]]
abbrev torV (l : List Value) : AV := .val (.agg l.toArray)
theorem Torsor_ok (k : Nat) (hk : k < 3) (A B C : Rat) (s : AV) (o : Int) (ho : -100000 ≤ o ∧ o ≤ 100000) (hA : LR 43 A) (hB : LR 43 B) (hC : LR 43 C) (lA : (rtx A).length ≤ 400) (lB : (rtx B).length ≤ 400) (lC : (rtx C).length ≤ 400) : CtrA Tryz.prog 24 [pA k (rtx A) (rtx B) (rtx C) s, vi o] (tupOf [torV (torC k o A B C), vi 0]) := by
 have he : plE k (rtx A) (rtx B) (rtx C) = 0 := by unfold plE; rw [if_neg (fun h => h (by omega)), if_neg (fun h => h (chkR_rtx A)), if_neg (fun h => h (chkR_rtx B)), chkR_rtx]
 have hc := plcheck_c k _ _ _ s lA lB lC
 rw [he] at hc
 have l0 : LR 43 (o : Rat) := LR.int (LI.mono (k := 6) (show o.natAbs < 10 ^ 6 by omega) zE) zE
 have hw := rat_whole o zO
 have h1 := rat_sub o A (l0.mono zE) (hA.mono zE)
 have h2 := rat_neg B (hB.mono zE)
 have h3 := rat_neg C (hC.mono zE)
 rcases (by omega : k = 0 ∨ k = 1 ∨ k = 2) with rfl | rfl | rfl
 ·refine ctrA _ Tryz.func24 rfl rfl Tryz.ntmps24 rfl fun w Z => ?_
  refine zU ?_
  refine wt ?_
  refine sq_g (g_load_aggv rfl rfl) rfl ?_
  (refine wt ?_; repeat' (((first | refine sq_split rfl rfl ?_ ?_ | refine dq_split rfl rfl ?_ ?_) <;> intro hb <;> (try simp only [zA, zB, zG, zC, zD, zN] at hb) <;> (try (exfalso; omega))) <;> refine wt ?_))
  all_goals (try (refine cq_cond rfl ?_ ?_ <;> intro hb <;> (try simp only [zA, zB, zG, zC, zD, zN] at hb) <;> (try (exfalso; omega))))
  all_goals refine wt ?_
  refine sq_g (g_build (t := 57) (is := [0, 1, 2]) (xs := [_, _, _]) (vs := [sv [48], sv [48], sv [48]]) (tb57 _ _ _) rfl rfl) rfl ?_
  refine wt ?_
  refine sq_g (g_build (t := 57) (is := [0, 1, 2]) (xs := [_, _, _]) (vs := [sv [48], sv [48], sv [48]]) (tb57 _ _ _) rfl rfl) rfl ?_
  refine wt ?_
  refine sq_g (g_build (t := 59) (is := [0, 1]) (xs := [_, _]) (vs := [.agg #[sv [48], sv [48], sv [48]], .agg #[sv [48], sv [48], sv [48]]]) (tb59 _ _ _ _ _ _) rfl rfl) rfl ?_
  refine wt ?_
  refine sq_g (g_load_own_agg (us := torC 0 o A B C) rfl rfl rfl rfl) rfl ?_
  refine wt ?_
  exact sq_resN (rvs := [_, _]) (τs := [_, _]) rfl rfl ⟨.agg (us := torC 0 o A B C) rfl rfl rfl rfl, .tmp rfl, trivial⟩ rfl
 ·refine ctrA _ Tryz.func24 rfl rfl Tryz.ntmps24 rfl fun w Z => ?_
  refine zU ?_
  refine wt ?_
  refine sq_g (g_load_aggv rfl rfl) rfl ?_
  (refine wt ?_; repeat' (((first | refine sq_split rfl rfl ?_ ?_ | refine dq_split rfl rfl ?_ ?_) <;> intro hb <;> (try simp only [zA, zB, zG, zC, zD, zN] at hb) <;> (try (exfalso; omega))) <;> refine wt ?_))
  all_goals (try (refine cq_cond rfl ?_ ?_ <;> intro hb <;> (try simp only [zA, zB, zG, zC, zD, zN] at hb) <;> (try (exfalso; omega))))
  all_goals refine wt ?_
  refine sq_g (g_build (t := 57) (is := [0, 1, 2]) (xs := [_, _, _]) (vs := [sv [48], sv [48], sv [48]]) (tb57 _ _ _) rfl rfl) rfl ?_
  refine wt ?_
  refine sq_g (g_build (t := 57) (is := [0, 1, 2]) (xs := [_, _, _]) (vs := [sv [48], sv [48], sv [48]]) (tb57 _ _ _) rfl rfl) rfl ?_
  refine wt ?_
  refine sq_g (g_build (t := 59) (is := [0, 1]) (xs := [_, _]) (vs := [.agg #[sv [48], sv [48], sv [48]], .agg #[sv [48], sv [48], sv [48]]]) (tb59 _ _ _ _ _ _) rfl rfl) rfl ?_
  refine wt ?_
  refine sq_g (g_load_own_agg (us := torC 1 o A B C) rfl rfl rfl rfl) rfl ?_
  refine wt ?_
  exact sq_resN (rvs := [_, _]) (τs := [_, _]) rfl rfl ⟨.agg (us := torC 1 o A B C) rfl rfl rfl rfl, .tmp rfl, trivial⟩ rfl
 ·refine ctrA _ Tryz.func24 rfl rfl Tryz.ntmps24 rfl fun w Z => ?_
  refine zU ?_
  refine wt ?_
  refine sq_g (g_load_aggv rfl rfl) rfl ?_
  (refine wt ?_; repeat' (((first | refine sq_split rfl rfl ?_ ?_ | refine dq_split rfl rfl ?_ ?_) <;> intro hb <;> (try simp only [zA, zB, zG, zC, zD, zN] at hb) <;> (try (exfalso; omega))) <;> refine wt ?_))
  all_goals (try (refine cq_cond rfl ?_ ?_ <;> intro hb <;> (try simp only [zA, zB, zG, zC, zD, zN] at hb) <;> (try (exfalso; omega))))
  all_goals refine wt ?_
  refine sq_g (g_build (t := 57) (is := [0, 1, 2]) (xs := [_, _, _]) (vs := [sv [48], sv [48], sv [48]]) (tb57 _ _ _) rfl rfl) rfl ?_
  refine wt ?_
  refine sq_g (g_build (t := 57) (is := [0, 1, 2]) (xs := [_, _, _]) (vs := [sv [48], sv [48], sv [48]]) (tb57 _ _ _) rfl rfl) rfl ?_
  refine wt ?_
  refine sq_g (g_build (t := 59) (is := [0, 1]) (xs := [_, _]) (vs := [.agg #[sv [48], sv [48], sv [48]], .agg #[sv [48], sv [48], sv [48]]]) (tb59 _ _ _ _ _ _) rfl rfl) rfl ?_
  refine wt ?_
  refine sq_g (g_load_own_agg (us := torC 2 o A B C) rfl rfl rfl rfl) rfl ?_
  refine wt ?_
  exact sq_resN (rvs := [_, _]) (τs := [_, _]) rfl rfl ⟨.agg (us := torC 2 o A B C) rfl rfl rfl rfl, .tmp rfl, trivial⟩ rfl
end Go.Proofs.YtgepmbjmaljgoaaGreatDoor.H
namespace Go.Proofs.YtgepmbjmaljgoaaGreatDoor.H
open Go Go.Vc Go.RowKit
open Go.Na (rtx)
set_option maxHeartbeats 4000000
def plP (l : List Tr) (k : Nat) (s : List Nat) : List Pt := s.map fun i => plc k (gt l i)
def bearB (l : List Tr) (k : Nat) (p : Pt) (P : Pl) : Bool := decide (0 ≤ locN (plP l k P.s) p)
def restA (l : List Tr) (a : Int) (p : Pt) : AV :=
 if givE l a ≠ 0 then tupOf [pZ, vb false, vi (givE l a)] else if rightB p = false then tupOf [pZ, vb false, vi 2] else if cndE l a ≠ 0 then tupOf [pZ, vb false, vi (cndE l a)] else
 match (candP l a.toNat).find? (bearB l a.toNat p) with
 |some P => tupOf [pR a P, vb true, vi 0]
 |none => tupOf [pZ, vb false, vi 0]
theorem find_at {f : Pl → Bool} {L : List Pl} {i : Nat} (hi : i < L.length) (h : ∀ j, j < i → f (gP L j) = false) (hf : f (gP L i) = true) : L.find? f = some (gP L i) := by
 rw [List.find?_eq_some_iff_getElem]
 refine ⟨hf, i, hi, (gP_eq hi).symm, fun j hj => ?_⟩
 have := h j hj
 rw [gP_eq (by omega)] at this
 simp [this]
theorem find_no {f : Pl → Bool} {L : List Pl} (h : ∀ j, j < L.length → f (gP L j) = false) : L.find? f = none := by
 rw [List.find?_eq_none]
 intro P hP
 obtain ⟨j, hj, rfl⟩ := List.getElem_of_mem hP
 have := h j hj
 rw [gP_eq hj] at this
 simp [this]
theorem plP_snoc (l : List Tr) (k : Nat) (s : List Nat) {j : Nat} (h : j < s.length) : plP l k (s.take (j + 1)) = plP l k (s.take j) ++ [plc k (gt l (gi s j))] := by
 rw [List.take_succ_eq_append_getElem h, plP, List.map_append, gi_eq h]; rfl
theorem chk_plP {l : List Tr} (hl : RT l) (k : Nat) {s : List Nat} (hs : s.length ≤ 64) : chk (plP l k s) = 0 := by
 unfold chk
 rw [if_neg (by unfold plP; rw [List.length_map]; omega), if_pos]
 rw [List.all_eq_true]
 intro p hp
 obtain ⟨i, _, rfl⟩ := List.mem_map.1 hp
 have h1 := (hl i).cz (ou k)
 have h2 := (hl i).cz (ov k)
 unfold rightB inB plc
 simp only [Bool.and_eq_true, decide_eq_true_eq]
 omega
theorem cand_on {l : List Tr} {k : Nat} (hk : k < 3) {P : Pl} (h : P ∈ candP l k) : P.s = onL l k P.A P.B P.C l.length ∧ 0 < P.s.length := by
 have h1 := (cand_ok l k).2 P |>.1 h
 have h2 := thr_s h1
 obtain ⟨⟨a, b, c⟩, ht, h3⟩ := List.mem_filterMap.1 h1
 rw [tI_eq, mem_tI] at ht
 have h3' : thr l k a b c = some P := h3
 have hs : P.s = onL l k P.A P.B P.C l.length := by
  unfold mkP at h2
  split at h2
  ·cases h2
  ·injection h2 with h2
   rw [← h2]
 refine ⟨hs, ?_⟩
 unfold thr at h3'
 split at h3'
 ·cases h3'
 ·rename_i hz
  unfold mkP at h3'
  split at h3'
  ·cases h3'
  ·injection h3' with h3'
   have h0 : hgt k (aP l k a b c) (bP l k a b c) (cP l k a b c) (gt l a) = 0 := (hgt_sgn hk hz _).2.2 rfl
   have : a ∈ P.s := by
    rw [← h3']
    show a ∈ onL _ _ _ _ _ _
    unfold onL
    rw [List.mem_filter]
    exact ⟨by simp only [List.mem_range]; simp only at ht; omega, by simpa using h0⟩
   exact List.length_pos_of_mem this
theorem cand_len {l : List Tr} (k : Nat) (hn : l.length ≤ 9) : (candP l k).length ≤ 729 := by
 rw [← cpt_cand]
 have h1 : (cptPl (srtP (thrs l k))).length ≤ (srtP (thrs l k)).length := cptToF_len _ _
 have h2 := thrs_len l k
 have h3 : l.length * (l.length * l.length) ≤ 9 * (9 * 9) := Nat.mul_le_mul hn (Nat.mul_le_mul hn hn)
 rw [srtP_len] at h1
 omega
theorem onL_len' (l : List Tr) (k : Nat) (A B C : Rat) (n : Nat) : (onL l k A B C n).length ≤ n := by
 have := List.length_filter_le (fun i => decide (hgt k A B C (gt l i) = 0)) (List.range n)
 simpa [onL] using this
theorem onL_lt' {l : List Tr} {k : Nat} {A B C : Rat} {n i : Nat} (h : i ∈ onL l k A B C n) : i < n := by
 unfold onL at h
 have := (List.mem_filter.1 h).1
 simpa using this
theorem resting_c (l : List Tr) (a : Int) (p : Pt) (hf : fewB l = true) : CtrA Tryz.prog 18 [ts l, vi a, pp p] (restA l a p) := by
 have h1 := given_c l a
 have h2 := pcheck_c [p]
 rw [chk1] at h2
 refine ctrA _ Tryz.func18 rfl rfl Tryz.ntmps18 rfl fun w Z => ?_
 refine zU ?_
 refine wt ?_
 (refine cq_cond rfl ?_ ?_ <;> intro hb <;> (try simp only [zA, zB, zG, zC, zD, zN] at hb) <;> (try (exfalso; omega)))
 ·refine wt ?_
  refine sq_g (g_build (t := 42) (is := []) (xs := []) (vs := []) tb42e rfl rfl) rfl ?_
  refine wt ?_
  exact sq_resN (rvs := [_, _, _]) (τs := [_, _, _]) rfl rfl ⟨.agg (us := [_, _, _, _, _]) rfl rfl rfl rfl, .tmp rfl, .tmp rfl, trivial⟩ (by unfold restA; rw [if_pos hb])
 ·have hg := hb
  obtain ⟨hR, hn6, k, hk, rfl⟩ := few_of hf hg
  refine wt ?_
  cases hrb : rightB p with
  |false =>
   rw [if_neg (by decide)]
   refine wt ?_
   refine sq_g (g_build (t := 42) (is := []) (xs := []) (vs := []) tb42e rfl rfl) rfl ?_
   refine wt ?_
   exact sq_resN (rvs := [_, _, _]) (τs := [_, _, _]) rfl rfl ⟨.agg (us := [_, _, _, _, _]) rfl rfl rfl rfl, .tmp rfl, .tmp rfl, trivial⟩ (by unfold restA; rw [if_neg (fun h => h hg), if_pos hrb])
  |true =>
   rw [if_pos rfl]
   have hcd := cands_c l hR hk zO
   by_cases hE : cndE l k = 0
   ·have hcA : candA l k = tupOf [.sl (candP l k).length 5 (pf5 k (candP l k)), vi 0] := by
     unfold cndE at hE
     rw [if_neg (fun h => h hg), Int.toNat_natCast] at hE
     unfold candA
     split at hE
     ·rename_i h1; exact absurd hE h1
     ·rename_i h1
      rw [if_neg h1]
      split at hE
      ·cases hE
      ·rename_i h2; rw [if_neg h2]
    rw [hcA] at hcd
    have hrA : restA l k p = match (candP l k).find? (bearB l k p) with | some P => tupOf [pR k P, vb true, vi 0] | none => tupOf [pZ, vb false, vi 0] := by
     unfold restA; rw [if_neg (fun h => h hg), if_neg (by rw [hrb]; decide), if_neg (fun h => h hE), Int.toNat_natCast]
    rw [hrA]
    refine wt ?_
    refine cq_loop (γ := Nat) (fun i => [(0, .av (ts l)), (1, .av (vi (k : Int))), (5, .av (bp p)), (6, .own 10 0), (44, .av (.sl (candP l k).length 5 (pf5 k (candP l k)))), (45, .av (vi (candP l k).length)), (46, .av (vi i))])
     (fun _ => [(10, .cells [.av (vi 0), .av (vS []), .av (vS []), .av (vS []), .av (.val (.slice none 0 0))])]) (fun i => i ≤ (candP l k).length ∧ ∀ j, j < i → bearB l k p (gP (candP l k) j) = false) (fun i => (candP l k).length - i) 0 ⟨Nat.zero_le _, by omega⟩
     (ent zS zT) ?_
    have hcl := cand_len k (l := l) zO
    rintro i ⟨hi, hno⟩
    refine wt ?_
    (refine cq_cond rfl ?_ ?_ <;> intro hb <;> (try simp only [zA, zB, zG, zC, zD, zN] at hb) <;> (try (exfalso; omega)))
    ·have hil : i < (candP l k).length := by omega
     obtain ⟨hon, hpos⟩ := cand_on hk (gP_mem hil)
     have hlr := thrs_LR hR hk ((cand_ok l k).2 _ |>.1 (gP_mem hil))
     generalize hP : gP (candP l k) i = P at *
     have hsl : P.s.length ≤ 6 := by
      have := onL_len' l k P.A P.B P.C l.length
      rw [hon]; omega
     have hslt : ∀ j, j < P.s.length → gi P.s j < l.length := fun j hj => by
      have : gi P.s j ∈ onL l k P.A P.B P.C l.length := by rw [← hon]; rw [gi_eq hj]; exact List.getElem_mem hj
      exact onL_lt' this
     refine wt ?_
     have hfe : pf5 k (candP l k) i = pAf k (rtx P.A) (rtx P.B) (rtx P.C) (idx P.s) := by unfold pf5; rw [hP]
     rw [hfe]
     refine sq_g (g_load_aggv rfl rfl) rfl ?_
     refine wt ?_
     refine sq_s (g_store_aggv rfl rfl (pAf_one _ _ _ _ _) rfl rfl) ?_
     refine wt ?_
     refine cq_loop (γ := Nat) (fun j => [(0, .av (ts l)), (1, .av (vi (k : Int))), (5, .av (bp p)), (6, .own 10 0), (44, .av (.sl (candP l k).length 5 (pf5 k (candP l k)))), (45, .av (vi (candP l k).length)), (46, .av (vi i)), (14, .own 11 0), (15, .osl 20), (51, .av (idx P.s)), (52, .av (vi P.s.length)), (53, .av (vi j))])
      (fun j => [(10, .cells [.av (vi 0), .av (vS []), .av (vS []), .av (vS []), .av (.val (.slice none 0 0))]), (11, .cells ((List.range 5).map fun i => SV.av (pAf k (rtx P.A) (rtx P.B) (rtx P.C) (idx P.s) i))), (20, .row 38 2 (plP l k (P.s.take j)).length (pf (plP l k (P.s.take j))))]) (fun j => j ≤ P.s.length) (fun j => P.s.length - j) 0 (Nat.zero_le _)
      ((ent_row (dd := 15) 20 38 2 (pf []) rfl rfl).trans (ent zS zT)) ?_
     intro j hj
     have hpl : (plP l k (P.s.take j)).length ≤ 6 := by unfold plP; rw [List.length_map, List.length_take]; omega
     refine wt ?_
     (refine cq_cond rfl ?_ ?_ <;> intro hb <;> (try simp only [zA, zB, zG, zC, zD, zN] at hb) <;> (try (exfalso; omega)))
     ·have hjl : j < P.s.length := by omega
      have hb1 := hslt j hjl
      have hpc := place_c (gt l (gi P.s j)) hk
      refine wt ?_
      exact sq_round (j + 1) (by omega) (by omega) (ent zS ⟨⟨_, rfl, .refl _⟩, ⟨_, rfl, .refl _⟩, ⟨_, rfl, .row (by rw [plP_snoc l k P.s hjl]) (fun _ _ _ _ => by rw [plP_snoc l k P.s hjl])⟩, trivial⟩)
     ·have hjl : j = P.s.length := by omega
      subst hjl
      rw [List.take_length]
      have hck := chk_plP hR k (s := P.s) zO
      have hle : (plP l k P.s).length = P.s.length := by simp [plP]
      have hlo := loc_c (plP l k P.s) p (fun _ => by omega)
      have hEl : errL (plP l k P.s) p = 0 := by unfold errL; rw [if_neg (fun h => h hck), if_neg (by rw [hrb]; decide), if_neg (by omega)]
      rw [hEl] at hlo
      refine cq_more (ent_freeze 20 rfl) ?_
      refine wt ?_
      (refine cq_cond rfl ?_ ?_ <;> intro hb <;> (try simp only [zA, zB, zG, zC, zD, zN] at hb) <;> (try (exfalso; omega)))
      ·have hbe : bearB l k p P = true := by unfold bearB; exact decide_eq_true hb
       have hfi := find_at (f := bearB l k p) hil hno (by rw [hP]; exact hbe)
       rw [hfi, hP]
       refine wt ?_
       refine sq_g (g_load_own_aggv (f := pAf k (rtx P.A) (rtx P.B) (rtx P.C) (idx P.s)) rfl rfl rfl) rfl ?_
       refine wt ?_
       refine sq_s (g_store_aggv rfl rfl (pAf_one _ _ _ _ _) rfl rfl) ?_
       refine wt ?_
       exact sq_resN (rvs := [_, _, _]) (τs := [_, _, _]) rfl rfl ⟨.aggv (f := pAf k (rtx P.A) (rtx P.B) (rtx P.C) (idx P.s)) rfl rfl rfl, .tmp rfl, .tmp rfl, trivial⟩ rfl
      ·have hbe : bearB l k p P = false := by unfold bearB; rw [decide_eq_false_iff_not]; exact hb
       refine wt ?_
       exact sq_round (i + 1) ⟨by omega, fun j hj => by
        by_cases e : j = i
        ·subst e; rw [hP]; exact hbe
        ·exact hno j zO⟩ zO (ent zS zT)
    ·have hil : i = (candP l k).length := by omega
     subst hil
     rw [find_no hno]
     refine wt ?_
     refine sq_g (g_build (t := 42) (is := []) (xs := []) (vs := []) tb42e rfl rfl) rfl ?_
     refine wt ?_
     exact sq_resN (rvs := [_, _, _]) (τs := [_, _, _]) rfl rfl ⟨.agg (us := [_, _, _, _, _]) rfl rfl rfl rfl, .tmp rfl, .tmp rfl, trivial⟩ rfl
   ·have hrA : restA l k p = tupOf [pZ, vb false, vi (cndE l k)] := by
     unfold restA; rw [if_neg (fun h => h hg), if_neg (by rw [hrb]; decide), if_pos hE]
    have hcA : candA l k = tupOf [.val (.slice none 0 0), vi (cndE l k)] := by
     unfold cndE at hE ⊢
     rw [if_neg (fun h => h hg), Int.toNat_natCast] at hE
     rw [if_neg (fun h => h hg), Int.toNat_natCast]
     unfold candA
     split
     ·rfl
     ·rename_i h1
      rw [if_neg h1] at hE
      split
      ·rfl
      ·rename_i h2; rw [if_neg h2] at hE; exact absurd rfl hE
    rw [hcA] at hcd
    rw [hrA]
    refine wt ?_
    (refine cq_cond rfl ?_ ?_ <;> intro hb <;> (try simp only [zA, zB, zG, zC, zD, zN] at hb) <;> (try (exfalso; omega)))
    refine wt ?_
    refine sq_g (g_build (t := 42) (is := []) (xs := []) (vs := []) tb42e rfl rfl) rfl ?_
    refine wt ?_
    exact sq_resN (rvs := [_, _, _]) (τs := [_, _, _]) rfl rfl ⟨.agg (us := [_, _, _, _, _]) rfl rfl rfl rfl, .tmp rfl, .tmp rfl, trivial⟩ rfl
end Go.Proofs.YtgepmbjmaljgoaaGreatDoor.H
namespace Go.Proofs.YtgepmbjmaljgoaaGreatDoor.H
open Go Go.Vc Go.Na
def RkL : List Tr := [⟨0,0,0⟩, ⟨4,0,0⟩, ⟨0,4,0⟩, ⟨4,4,2⟩]
theorem rk_cand : candP RkL 2 = [⟨-2, Rat.divInt 1 2, Rat.divInt 1 2, [1, 2, 3]⟩, ⟨0, 0, 0, [0, 1, 2]⟩] := by decide +kernel
theorem rt2 : rtx (-2) = [45, 50] := by
 unfold rtx
 rw [if_pos (by decide +kernel)]
 show Lib.itoa (-2) = _
 rw [itoa_neg (by decide)]
 show 45 :: Lib.decDigits 2 = _
 rw [Lib.decDigits]; rfl
theorem rt0 : rtx 0 = [48] := by
 unfold rtx
 rw [if_pos (by decide +kernel)]
 show Lib.itoa 0 = _
 rw [itoa_pos (by decide)]
 show Lib.decDigits 0 = _
 rw [Lib.decDigits]; rfl
theorem d1 : Lib.decDigits 1 = [49] := by rw [Lib.decDigits]; rfl
theorem d2 : Lib.decDigits 2 = [50] := by rw [Lib.decDigits]; rfl
theorem rth : rtx (Rat.divInt 1 2) = [49, 47, 50] := by
 unfold rtx
 rw [if_neg (by decide +kernel)]
 have e1 : (Rat.divInt 1 2).num = 1 := by decide +kernel
 have e2 : (Rat.divInt 1 2).den = 2 := by decide +kernel
 rw [e1, e2, itoa_pos (by decide)]
 show Lib.decDigits 1 ++ 47 :: Lib.decDigits 2 = _
 rw [d1, d2]; rfl
theorem rtp2 : rtx (((0 : Int) : Rat) - (-2)) = [50] := by
 have e0 : (((0 : Int) : Rat) - (-2)) = 2 := by decide +kernel
 rw [e0]
 unfold rtx
 rw [if_pos (by decide +kernel)]
 show Lib.itoa 2 = _
 rw [itoa_pos (by decide)]
 show Lib.decDigits 2 = _
 rw [d2]
theorem rtmh : rtx (-(Rat.divInt 1 2)) = [45, 49, 47, 50] := by
 unfold rtx
 rw [if_neg (by decide +kernel)]
 have e1 : (-(Rat.divInt 1 2)).num = -1 := by decide +kernel
 have e2 : (-(Rat.divInt 1 2)).den = 2 := by decide +kernel
 rw [e1, e2, itoa_neg (by decide)]
 show 45 :: Lib.decDigits 1 ++ 47 :: Lib.decDigits 2 = _
 rw [d1, d2]; rfl
def PA : Pl := ⟨-2, Rat.divInt 1 2, Rat.divInt 1 2, [1, 2, 3]⟩
def PB : Pl := ⟨0, 0, 0, [0, 1, 2]⟩
theorem rk_33 : [PA, PB].find? (bearB RkL 2 ⟨3, 3⟩) = some PA := by decide +kernel
theorem rk_11 : [PA, PB].find? (bearB RkL 2 ⟨1, 1⟩) = some PB := by decide +kernel
theorem rk_giv : givE RkL 2 = 0 := by decide +kernel
theorem rk_chk : chk (plcs RkL 2) = 0 := by decide +kernel
theorem rk_col : collB (plcs RkL 2) = false := by decide +kernel
theorem rk_few : fewB RkL = true := by decide +kernel
end Go.Proofs.YtgepmbjmaljgoaaGreatDoor.H
namespace Go.Proofs.YtgepmbjmaljgoaaGreatDoor.H
open Go Go.Vc Go.RowKit Go.Na
set_option maxHeartbeats 4000000
def gz (L : List Int) (i : Nat) : Int := L.getD i 0
def zf (L : List Int) : Nat → Nat → AV := fun i _ => vi (gz L i)
abbrev ixs (L : List Int) : AV := .sl L.length 1 (zf L)
def eqB (f : Nat → Int) (m : Nat) (g : Nat → Int) (n : Nat) : Bool := decide (m = n) && (List.range m).all fun i => decide (f i = g i)
theorem equal_c (f g : Nat → Int) (m n : Nat) (hm : m ≤ 1000000) : CtrA Tryz.prog 43 [.sl m 1 (fun i _ => vi (f i)), .sl n 1 (fun i _ => vi (g i))] (vb (eqB f m g n)) := by
 refine ctrA _ Tryz.func43 rfl rfl Tryz.ntmps43 rfl fun w Z => ?_
 refine zU ?_
 refine wt ?_
 (refine cq_cond rfl ?_ ?_ <;> intro hb <;> (try simp only [zA, zB, zG, zC, zD, zN] at hb) <;> (try (exfalso; omega)))
 ·refine wt ?_
  exact sq_res1 rfl (.tmp rfl) (congrArg vb (by unfold eqB; rw [decide_eq_false (by omega)]; rfl))
 ·have hmn : m = n := by omega
  subst hmn
  refine wt ?_
  refine cq_loop (γ := Nat) (fun i => [(0, .av (.sl m 1 (fun i _ => vi (f i)))), (1, .av (.sl m 1 (fun i _ => vi (g i)))), (12, .av (vi m)), (13, .av (vi i))]) (fun _ => []) (fun i => i ≤ m ∧ ∀ j, j < i → f j = g j) (fun i => m - i) 0 ⟨Nat.zero_le _, by omega⟩ (ent zS trivial) ?_
  rintro i ⟨hi, he⟩
  refine wt ?_
  (refine cq_cond rfl ?_ ?_ <;> intro hb <;> (try simp only [zA, zB, zG, zC, zD, zN] at hb) <;> (try (exfalso; omega)))
  ·have hil : i < m := by omega
   refine wt ?_
   (refine cq_cond rfl ?_ ?_ <;> intro hb <;> (try simp only [zA, zB, zG, zC, zD, zN] at hb) <;> (try (exfalso; omega)))
   ·refine wt ?_
    exact sq_res1 rfl (.tmp rfl) (congrArg vb (by
     unfold eqB
     have : (List.range m).all (fun i => decide (f i = g i)) = false := by
      rw [List.all_eq_false]
      exact ⟨i, by simpa using hil, by simpa using hb⟩
     rw [this, Bool.and_false]))
   ·refine wt ?_
    exact sq_round (i + 1) ⟨by omega, fun j hj => by
     by_cases e : j = i
     ·subst e; exact hb
     ·exact he j zO⟩ zO (ent zS trivial)
  ·have hil : i = m := by omega
   subst hil
   refine wt ?_
   exact sq_res1 rfl (.tmp rfl) (congrArg vb (by
    unfold eqB
    have : (List.range i).all (fun i => decide (f i = g i)) = true := by
     rw [List.all_eq_true]
     intro j hj
     simpa using he j (by simpa using hj)
    rw [this, decide_eq_true rfl]; rfl))
end Go.Proofs.YtgepmbjmaljgoaaGreatDoor.H
namespace Go.Proofs.YtgepmbjmaljgoaaGreatDoor.H
open Go Go.Vc Go.RowKit
open Go.Na (rtx LR)
set_option maxHeartbeats 4000000
def cR : Nat → Nat → AV := fun i => match i with | 0 => pAf 2 [45, 50] [49, 47, 50] [49, 47, 50] (idx [1, 2, 3]) | 1 => pAf 2 [48] [48] [48] (idx [0, 1, 2]) | _ => pAf 2 [48] [48] [48] (idx [])
theorem cR_eq : pf5 2 [PA, PB] = cR := by
 funext i
 match i with
 |0 =>
  show pAf 2 (rtx (-2)) (rtx (Rat.divInt 1 2)) (rtx (Rat.divInt 1 2)) (idx [1, 2, 3]) = _
  rw [rt2, rth]; rfl
 |1 =>
  show pAf 2 (rtx 0) (rtx 0) (rtx 0) (idx [0, 1, 2]) = _
  rw [rt0]; rfl
 |i + 2 =>
  show pAf 2 (rtx 0) (rtx 0) (rtx 0) (idx []) = _
  rw [rt0]; rfl
theorem rk_cndL : cndL RkL 2 = [PA, PB] := by
 unfold cndL
 rw [if_neg (by rw [rk_giv]; decide), if_neg (fun h => h rk_chk), if_neg (by rw [show ((2 : Int)).toNat = 2 from rfl, rk_col]; decide)]
 exact rk_cand
theorem rk_cndE : cndE RkL 2 = 0 := by
 unfold cndE
 rw [if_neg (by rw [rk_giv]; decide), if_neg (fun h => h rk_chk), if_neg (by rw [show ((2 : Int)).toNat = 2 from rfl, rk_col]; decide)]
theorem rk_cands : CtrA Tryz.prog 13 [ts RkL, vi 2] (tupOf [.sl 2 5 cR, vi 0]) := by
 have h := candidates_c RkL 2 rk_few
 rcases candX_cases RkL 2 with ⟨h1, h2⟩ | ⟨h1, h2⟩
 ·rw [rk_cndL] at h2; cases h2
 ·rw [h1, rk_cndL, rk_cndE, cR_eq] at h
  exact h
theorem rk_rocks : CtrA Tryz.prog 15 [ts RkL, vi 2] (tupOf [vb true, vi 0]) := by
 have h := rocks_c RkL 2 rk_few
 rw [rk_cndL, rk_cndE] at h
 exact h
theorem rest_at (p : Pt) (P : Pl) (hp : rightB p = true) (h : [PA, PB].find? (bearB RkL 2 p) = some P) : CtrA Tryz.prog 18 [ts RkL, vi 2, pp p] (tupOf [pR 2 P, vb true, vi 0]) := by
 have h0 := resting_c RkL 2 p rk_few
 have e : restA RkL 2 p = tupOf [pR 2 P, vb true, vi 0] := by
  unfold restA
  rw [if_neg (fun h => h rk_giv), if_neg (by rw [hp]; decide), if_neg (fun h => h rk_cndE)]
  rw [show candP RkL (2 : Int).toNat = [PA, PB] from rk_cand, show ((2 : Int)).toNat = 2 from rfl, h]
 rw [e] at h0
 exact h0
theorem rk_rest33 : CtrA Tryz.prog 18 [ts RkL, vi 2, pp ⟨3, 3⟩] (tupOf [pA 2 [45, 50] [49, 47, 50] [49, 47, 50] (idx [1, 2, 3]), vb true, vi 0]) := by
 have h := rest_at ⟨3, 3⟩ PA zE rk_33
 rw [show pR 2 PA = pA 2 (rtx (-2)) (rtx (Rat.divInt 1 2)) (rtx (Rat.divInt 1 2)) (idx [1, 2, 3]) from rfl, rt2, rth] at h
 exact h
theorem rk_rest11 : CtrA Tryz.prog 18 [ts RkL, vi 2, pp ⟨1, 1⟩] (tupOf [pA 2 [48] [48] [48] (idx [0, 1, 2]), vb true, vi 0]) := by
 have h := rest_at ⟨1, 1⟩ PB zE rk_11
 rw [show pR 2 PB = pA 2 (rtx 0) (rtx 0) (rtx 0) (idx [0, 1, 2]) from rfl, rt0] at h
 exact h
theorem lr12 : ∀ q : Rat, q.num.natAbs < 10 → q.den < 10 → LR 43 q := fun q h1 h2 => ⟨Go.Na.LI.mono (k := 1) (show q.num.natAbs < 10 ^ 1 by omega) (by decide), Go.Na.LI.mono (k := 1) (show (q.den : Int).natAbs < 10 ^ 1 by omega) (by decide)⟩
theorem rk_tor : CtrA Tryz.prog 24 [pA 2 [45, 50] [49, 47, 50] [49, 47, 50] (idx [1, 2, 3]), vi 0] (tupOf [torV [sv [48], sv [48], sv [50], sv [45, 49, 47, 50], sv [49, 47, 50], sv [48]], vi 0]) := by
 have h := Torsor_ok 2 (by decide) (-2) (Rat.divInt 1 2) (Rat.divInt 1 2) (idx [1, 2, 3]) 0 (by decide) (lr12 _ (by decide +kernel) (by decide +kernel)) (lr12 _ (by decide +kernel) (by decide +kernel)) (lr12 _ (by decide +kernel) (by decide +kernel)) (by rw [rt2]; decide) (by rw [rth]; decide) (by rw [rth]; decide)
 rw [show torC 2 0 (-2) (Rat.divInt 1 2) (Rat.divInt 1 2) = [sv [48], sv [48], sv (rtx (((0 : Int) : Rat) - (-2))), sv (rtx (-(Rat.divInt 1 2))), sv (rtx (Rat.divInt 1 2)), sv [48]] from rfl, rt2, rth, rtp2, rtmh] at h
 exact h
theorem tq22_4 (w : World) : (Instr.buildSlice 22 4 #[(0, .agg #[.int .i64 0, .int .i64 0, .int .i64 0]), (1, .agg #[.int .i64 4, .int .i64 0, .int .i64 0]), (2, .agg #[.int .i64 0, .int .i64 4, .int .i64 0]), (3, .agg #[.int .i64 4, .int .i64 4, .int .i64 2])]).run Tryz.prog w = .ok (.slice (some ⟨w.heap.size, 0, none⟩) 4 4) (w.alloc (.cells #[.int .i64 0, .int .i64 0, .int .i64 0, .int .i64 4, .int .i64 0, .int .i64 0, .int .i64 0, .int .i64 4, .int .i64 0, .int .i64 4, .int .i64 4, .int .i64 2] 51)) := by kernel_rfl
theorem tf4_ok : ∀ i, i < 4 → ∀ j, j < 3 → ∃ u, ([.int .i64 0, .int .i64 0, .int .i64 0, .int .i64 4, .int .i64 0, .int .i64 0, .int .i64 0, .int .i64 4, .int .i64 0, .int .i64 4, .int .i64 4, .int .i64 2] : List Value)[i * 3 + j]? = some u ∧ tf RkL i j = .val u := fun i hi j hj => by
 rcases (by omega : i = 0 ∨ i = 1 ∨ i = 2 ∨ i = 3) with rfl | rfl | rfl | rfl <;> rcases (by omega : j = 0 ∨ j = 1 ∨ j = 2) with rfl | rfl | rfl <;> exact ⟨_, rfl, rfl⟩
theorem tb51_0 (a : Int) : Tryz.prog.built 51 [(0, .int .i64 a)] = some #[.int .i64 a, .int .i64 0, .int .i64 0] := by kernel_rfl
theorem tb51_1 (a : Int) : Tryz.prog.built 51 [(1, .int .i64 a)] = some #[.int .i64 0, .int .i64 a, .int .i64 0] := by kernel_rfl
theorem rocker_c : CtrA Tryz.prog 44 [] (ts RkL) := by
 refine ctrA _ Tryz.func44 rfl rfl Tryz.ntmps44 rfl fun w Z => ?_
 refine zU ?_
 refine wt ?_
 refine sq_g (g_build (t := 51) (is := [0]) (xs := [_]) (vs := [_]) (tb51_0 4) rfl rfl) rfl ?_
 refine wt ?_
 refine sq_g (g_build (t := 51) (is := [1]) (xs := [_]) (vs := [_]) (tb51_1 4) rfl rfl) rfl ?_
 refine wt ?_
 refine sq_g (g_bslice (is := [0, 1, 2, 3]) (xs := [_, _, _, _]) (vs := [_, _, _, _]) (us := [.int .i64 0, .int .i64 0, .int .i64 0, .int .i64 4, .int .i64 0, .int .i64 0, .int .i64 0, .int .i64 4, .int .i64 0, .int .i64 4, .int .i64 4, .int .i64 2]) (row := tf RkL) tq22_4 rfl rfl rfl tf4_ok) rfl ?_
 refine wt ?_
 exact zV
theorem tq40_3 (w : World) : (Instr.buildSlice 40 3 #[(0, .int .i64 1), (1, .int .i64 2), (2, .int .i64 3)]).run Tryz.prog w = .ok (.slice (some ⟨w.heap.size, 0, none⟩) 3 3) (w.alloc (.cells #[.int .i64 1, .int .i64 2, .int .i64 3] 3)) := by kernel_rfl
theorem xf3_ok : ∀ i, i < 3 → ∀ j, j < 1 → ∃ u, ([.int .i64 1, .int .i64 2, .int .i64 3] : List Value)[i * 1 + j]? = some u ∧ xf [1, 2, 3] i j = .val u := fun i hi j hj => by
 obtain rfl : j = 0 := by omega
 rcases (by omega : i = 0 ∨ i = 1 ∨ i = 2) with rfl | rfl | rfl <;> exact ⟨_, rfl, rfl⟩
theorem eq123 : CtrA Tryz.prog 43 [idx [1, 2, 3], .sl 3 1 (xf [1, 2, 3])] (vb true) := by
 have h := equal_c (fun i => ((gi [1, 2, 3] i : Nat) : Int)) (fun i => ((gi [1, 2, 3] i : Nat) : Int)) 3 3 zE
 rw [show eqB (fun i => ((gi [1, 2, 3] i : Nat) : Int)) 3 (fun i => ((gi [1, 2, 3] i : Nat) : Int)) 3 = true by decide] at h
 exact h
theorem eqg59 (x y : Operand) (xs ys : Array Value) (w : World) : (eqGuard .eql 59 x y (.agg xs) (.agg ys)).run Tryz.prog w = .ok () w := by kernel_rfl
theorem eq59c (w : World) : (binOp .eql 59 (.agg #[sv [48], sv [48], sv [50], sv [45, 49, 47, 50], sv [49, 47, 50], sv [48]]) (.agg #[sv [48], sv [48], sv [50], sv [45, 49, 47, 50], sv [49, 47, 50], sv [48]])).run Tryz.prog w = .ok (.bool true) w := by kernel_rfl
theorem awake_c : CtrA Tryz.prog 12 [] (vb true) := by
 have h1 := rocker_c
 have h2 := rk_cands
 have h3 := rk_rocks
 have h4 := rk_rest33
 have h5 := rk_rest11
 have h6 := rk_tor
 have h7 := eq123
 refine ctrA _ Tryz.func12 rfl rfl Tryz.ntmps12 rfl fun w Z => ?_
 refine zU ?_
 refine wt ?_
 refine sq_s (g_store_aggv rfl rfl (pAf_one _ _ _ _ _) rfl rfl) ?_
 refine wt ?_
 refine sq_s (g_store_aggv rfl rfl (pAf_one _ _ _ _ _) rfl rfl) ?_
 refine wt ?_
 rw [show cR (Int.toNat 0) = pAf 2 [45, 50] [49, 47, 50] [49, 47, 50] (idx [1, 2, 3]) from rfl]
 refine sq_g (g_load_aggv rfl rfl) rfl ?_
 refine wt ?_
 rw [show cR (Int.toNat 0) (4 + 0) = idx [1, 2, 3] from rfl]
 refine sq_on (g_bslice (is := [0, 1, 2]) (xs := [_, _, _]) (vs := [_, _, _]) (us := [.int .i64 1, .int .i64 2, .int .i64 3]) (row := xf [1, 2, 3]) tq40_3 rfl rfl rfl xf3_ok) rfl rfl rfl ?_
 refine wt ?_
 refine sq_on (g_load_own_agg (us := [sv [48], sv [48], sv [50], sv [45, 49, 47, 50], sv [49, 47, 50], sv [48]]) rfl rfl rfl rfl) rfl rfl rfl ?_
 refine wt ?_
 refine sq_on (g_build (t := 57) (is := [0, 1, 2]) (xs := [_, _, _]) (vs := [sv [48], sv [48], sv [50]]) (tb57 _ _ _) rfl rfl) rfl rfl rfl ?_
 refine sq_on (g_build (t := 57) (is := [0, 1, 2]) (xs := [_, _, _]) (vs := [sv [45, 49, 47, 50], sv [49, 47, 50], sv [48]]) (tb57 _ _ _) rfl rfl) rfl rfl rfl ?_
 refine sq_on (g_build (t := 59) (is := [0, 1]) (xs := [_, _]) (vs := [.agg #[sv [48], sv [48], sv [50]], .agg #[sv [45, 49, 47, 50], sv [49, 47, 50], sv [48]]]) (tb59 _ _ _ _ _ _) rfl rfl) rfl rfl rfl ?_
 refine sq_on (g_bin rfl rfl (fun w => eqg59 _ _ _ _ w) (fun w => eq59c w)) rfl rfl rfl ?_
 refine wt ?_
 exact zV
end Go.Proofs.YtgepmbjmaljgoaaGreatDoor.H
namespace Go.Proofs.YtgepmbjmaljgoaaGreatDoor.H
open Go Go.Vc Go.RowKit Go.Na
set_option maxHeartbeats 4000000
theorem tq102 (a b c : ByteArray) (w : World) : (Instr.buildSlice 102 3 #[(0, .string a), (1, .string b), (2, .string c)]).run Tryz.prog w = .ok (.slice (some ⟨w.heap.size, 0, none⟩) 3 3) (w.alloc (.cells #[.string a, .string b, .string c] 39)) := by kernel_rfl
def g3 (A B C : List UInt8) : Nat → List UInt8 := fun i => match i with | 0 => A | 1 => B | _ => C
theorem g3_ok (A B C : List UInt8) : ∀ i, i < 3 → ∀ j, j < 1 → ∃ u, ([.string (bs A), .string (bs B), .string (bs C)] : List Value)[i * 1 + j]? = some u ∧ (fun (i _ : Nat) => vS (g3 A B C i)) i j = .val u := fun i hi j hj => by
 obtain rfl : j = 0 := by omega
 rcases (by omega : i = 0 ∨ i = 1 ∨ i = 2) with rfl | rfl | rfl <;> exact ⟨_, rfl, rfl⟩
theorem above_c (k : Nat) (hk : k < 3) (A B C : Rat) (s : AV) (p : Tr) (hp : BT 100000 p) (hA : LR 43 A) (hB : LR 43 B) (hC : LR 43 C) : CtrA Tryz.prog 61 [pA k (rtx A) (rtx B) (rtx C) s, tp p] (vR (hgt k A B C p)) := by
 have hz := hp.cz k
 have hz1 := hp.cz (ou k)
 have hz2 := hp.cz (ov k)
 have hpl := rplace_c p hk
 have hco := rcoord_c p hk
 have hw := refwhole_c (cz p k) zO
 have hwx := refwhole_c (plc k p).x (by show _ ≤ cz p (ou k) ∧ cz p (ou k) ≤ _; omega)
 have hwy := refwhole_c (plc k p).y (by show _ ≤ cz p (ov k) ∧ cz p (ov k) ≤ _; omega)
 have li : ∀ x : Int, -100000 ≤ x ∧ x ≤ 100000 → LR 43 (x : Rat) := fun x hx => LR.int (LI.mono (k := 6) (show x.natAbs < 10 ^ 6 by omega) zE) zE
 have l0 := li _ hz
 have l1 : LR 43 ((plc k p).x : Rat) := li _ hz1
 have l2 : LR 43 ((plc k p).y : Rat) := li _ hz2
 have m1 := hB.mul l1
 have m2 := hC.mul l2
 have m3 := m1.add m2
 have m4 := (hA.mono (l := 173) zE).add m3
 have t1 := reftimes_c B ((plc k p).x : Rat) (hB.mono zE) (l1.mono zE)
 have t2 := reftimes_c C ((plc k p).y : Rat) (hC.mono zE) (l2.mono zE)
 have t3 := refplus_c (B * ((plc k p).x : Rat)) (C * ((plc k p).y : Rat)) (m1.mono zE) (m2.mono zE)
 have t4 := refplus_c A (B * ((plc k p).x : Rat) + C * ((plc k p).y : Rat)) (hA.mono zE) (m3.mono zE)
 have t5 := refless_c (cz p k : Rat) (A + (B * ((plc k p).x : Rat) + C * ((plc k p).y : Rat))) (l0.mono zE) (m4.mono zE)
 refine ctrA _ Tryz.func61 rfl rfl Tryz.ntmps61 rfl fun w Z => ?_
 refine zU ?_
 refine wt ?_
 exact zV
end Go.Proofs.YtgepmbjmaljgoaaGreatDoor.H
section
end
section
end
section
end
namespace Go.Proofs.YtgepmbjmaljgoaaGreatDoor
open Go Go.Vc Go.RowKit Go.ChangeShapes Go.WideShapes Go.ChangeAt Go.Joins
set_option maxRecDepth 100000
theorem laid_mem {P : Program} {w : World} : ∀ {l : List (String × DataW Unit)} {ps : List MemPlace}, DataW.LaidVars P w l ps → ∀ {n : String} {d : DataW Unit}, (n, d) ∈ l →
  ∃ g t cs fuel p, P.globalNamed n = some g ∧ (P.globals[g]?).map (·.type) = some t ∧ w.var? P n = some cs ∧ DataW.trod (fun _ => ()) P w 0 (fun _ => true) false fuel t cs.toList = some (d, p)
 |[], _, _, _, _, hm => by cases hm
 |(n', d') :: r, _, h, n, d, hm => by
  obtain ⟨g, t, cs, fuel, p, q, h1, h2, h3, h4, h5, _⟩ := h
  rcases List.mem_cons.1 hm with e | hm
  ·cases e; exact ⟨g, t, cs, fuel, p, h1, h2, h3, h4⟩
  ·exact laid_mem h5 hm
theorem ints_of {H : Type} {enc : TypeId × Value → H} {P : Program} {W : World} {base : Nat} {spare : Nat → Bool} {held : Bool} {t e : TypeId} {q : IntKind} {n fuel : Nat} {cs : List Value} {d : DataW H} {p : List MemPlace}
  (ht : P.underlying t = some (.array n e)) (he : P.underlying e = some (.int q)) (hc : P.cellsOf e = 1) (hct : P.cellsOf t = n) (h : DataW.trod enc P W base spare held fuel t cs = some (d, p)) :
  ∃ ms : List Int, cs = ms.map (Value.int q) ∧ d = .agg (ms.map fun m => .lit (.int q m)) := by
 obtain ⟨xs, m, _, ex, hl, hxl, hel⟩ := DataW.trod_array ht h
 rw [hct] at hl
 rw [hc] at hel
 have key : ∀ i, i < n → ∃ z : Int, cs[i]? = some (.int q z) ∧ xs[i]? = some (.lit (.int q z), []) := fun i hi => by
  have h0 := hel i hi
  rw [List.getElem?_eq_getElem (by omega)] at h0
  obtain ⟨z, q0, q1, _⟩ := DataW.trod_int he h0
  refine ⟨z, ?_, by rw [List.getElem?_eq_getElem (by omega), q1]⟩
  have : ((cs.drop (i * 1)).take 1)[0]? = some (.int q z) := by rw [q0]; rfl
  simpa [List.getElem?_take, List.getElem?_drop] using this
 let f : Nat → Int := fun i => if h : i < n then (key i h).choose else 0
 have hf : ∀ i, i < n → cs[i]? = some (.int q (f i)) ∧ xs[i]? = some (.lit (.int q (f i)), []) := fun i hi => by
  have := (key i hi).choose_spec
  simpa [f, hi] using this
 refine ⟨(List.range n).map f, ?_, ?_⟩
 ·apply List.ext_getElem?
  intro i
  by_cases hi : i < n
  ·rw [(hf i hi).1]; simp [hi]
  ·rw [List.getElem?_eq_none (by omega), List.getElem?_eq_none (by simp; omega)]
 ·have hx : xs.map (·.1) = ((List.range n).map f).map (fun m => DataW.lit (.int q m)) := by
   apply List.ext_getElem?
   intro i
   by_cases hi : i < n
   ·rw [List.getElem?_map, (hf i hi).2]; simp [hi]
   ·rw [List.getElem?_eq_none (by simp; omega), List.getElem?_eq_none (by simp; omega)]
  have := congrArg Prod.fst ex
  rw [hx] at this
  exact this
end Go.Proofs.YtgepmbjmaljgoaaGreatDoor
