/- A part of the proofs that the laws of touch return true at every input and that the input reads behind the call as it read before; this part states nothing of its own that is claimed. -/
import Derived.DeepKeys
import Derived.Test.YtgepmbjmaljgoaaGreatDoorRows
import Derived.ProofKit
import Derived.Deep.Slices
import Derived.Deep.Fields
import Derived.Deep.Strs
import Derived.OpenShut
import Derived.ChangeSame
import Derived.Lib.SmallJoins
import Derived.Carry
import Derived.Below
import Derived.FnData
import Derived.Shelf.Vars
import Derived.LaidLaws
import Derived.LaidHandle
import Derived.Handed
import Derived.Test.YtgepmbjmaljgoaaGreatDoorCai
import Derived.Test.YtgepmbjmaljgoaaGreatDoorCap
import Derived.Test.YtgepmbjmaljgoaaGreatDoorCaq
set_option linter.unusedVariables false
set_option linter.unusedSimpArgs false
section
namespace Go.Proofs.YtgepmbjmaljgoaaGreatDoor.H
open Go Go.Vc Go.RowKit Go.Na
set_option maxHeartbeats 4000000
def gz (L : List Int) (i : Nat) : Int := L.getD i 0
def zf (L : List Int) : Nat → Nat → AV := fun i _ => vi (gz L i)
abbrev ixs (L : List Int) : AV := .sl L.length 1 (zf L)
def eqB (f : Nat → Int) (m : Nat) (g : Nat → Int) (n : Nat) : Bool := decide (m = n) && (List.range m).all fun i => decide (f i = g i)
theorem equal_c (f g : Nat → Int) (m n : Nat) (hm : m ≤ 1000000) : CtrA Tryz.prog 43 [.sl m 1 (fun i _ => vi (f i)), .sl n 1 (fun i _ => vi (g i))] (vb (eqB f m g n)) := by
  refine ctrA _ Tryz.func43 rfl rfl Tryz.ntmps43 rfl fun w Z => ?_
  simp only [initT, zP, zQ, Nat.zero_add, Nat.reduceAdd]
  refine wt ?_
  (refine cq_cond rfl (fun hb => ?_) (fun hb => ?_) <;> (try simp only [zA, zB, zC, zD, zE, zF, zG, zH, zI, zJ, zK, zL, zM, zN, zO] at hb) <;> (try (exfalso; omega)))
  · refine wt ?_
    exact sq_res1 rfl (.tmp rfl) (congrArg vb (by unfold eqB; rw [decide_eq_false (by omega)]; rfl))
  · have hmn : m = n := by omega
    subst hmn
    refine wt ?_
    refine cq_loop (γ := Nat) (fun i => [(0, .av (.sl m 1 (fun i _ => vi (f i)))), (1, .av (.sl m 1 (fun i _ => vi (g i)))), (12, .av (vi m)), (13, .av (vi i))]) (fun _ => []) (fun i => i ≤ m ∧ ∀ j, j < i → f j = g j) (fun i => m - i) 0 ⟨Nat.zero_le _, by omega⟩ (ent ⟨.refl _, .refl _, .refl _, .refl _, trivial⟩ trivial) ?_
    rintro i ⟨hi, he⟩
    refine wt ?_
    (refine cq_cond rfl (fun hb => ?_) (fun hb => ?_) <;> (try simp only [zA, zB, zC, zD, zE, zF, zG, zH, zI, zJ, zK, zL, zM, zN, zO] at hb) <;> (try (exfalso; omega)))
    · have hil : i < m := by omega
      refine wt ?_
      (refine cq_cond rfl (fun hb => ?_) (fun hb => ?_) <;> (try simp only [zA, zB, zC, zD, zE, zF, zG, zH, zI, zJ, zK, zL, zM, zN, zO] at hb) <;> (try (exfalso; omega)))
      · refine wt ?_
        exact sq_res1 rfl (.tmp rfl) (congrArg vb (by
          unfold eqB
          have : (List.range m).all (fun i => decide (f i = g i)) = false := by
            rw [List.all_eq_false]
            exact ⟨i, by simpa using hil, by simpa using hb⟩
          rw [this, Bool.and_false]))
      · refine wt ?_
        exact sq_round (i + 1) ⟨by omega, fun j hj => by
          by_cases e : j = i
          · subst e; exact hb
          · exact he j (by omega)⟩ (by omega) (ent ⟨.refl _, .refl _, .refl _, .int (by omega), trivial⟩ trivial)
    · have hil : i = m := by omega
      subst hil
      refine wt ?_
      exact sq_res1 rfl (.tmp rfl) (congrArg vb (by
        unfold eqB
        have : (List.range i).all (fun i => decide (f i = g i)) = true := by
          rw [List.all_eq_true]
          intro j hj
          simpa using he j (by simpa using hj)
        rw [this, decide_eq_true rfl]; rfl))
end Go.Proofs.YtgepmbjmaljgoaaGreatDoor.H
end
section
namespace Go.Proofs.YtgepmbjmaljgoaaGreatDoor.H
open Go Go.Vc Go.RowKit
open Go.Na (rtx LR)
set_option maxHeartbeats 4000000
def cR : Nat → Nat → AV := fun i => match i with | 0 => pAf 2 [45, 50] [49, 47, 50] [49, 47, 50] (idx [1, 2, 3]) | 1 => pAf 2 [48] [48] [48] (idx [0, 1, 2]) | _ => pAf 2 [48] [48] [48] (idx [])
theorem cR_eq : pf5 2 [PA, PB] = cR := by
  funext i
  match i with
  | 0 =>
    show pAf 2 (rtx (-2)) (rtx (Rat.divInt 1 2)) (rtx (Rat.divInt 1 2)) (idx [1, 2, 3]) = _
    rw [rt2, rth]; rfl
  | 1 =>
    show pAf 2 (rtx 0) (rtx 0) (rtx 0) (idx [0, 1, 2]) = _
    rw [rt0]; rfl
  | i + 2 =>
    show pAf 2 (rtx 0) (rtx 0) (rtx 0) (idx []) = _
    rw [rt0]; rfl
theorem rk_cndL : cndL RkL 2 = [PA, PB] := by
  unfold cndL
  rw [if_neg (by rw [rk_giv]; decide), if_neg (fun h => h rk_chk), if_neg (by rw [show ((2 : Int)).toNat = 2 from rfl, rk_col]; decide)]
  exact rk_cand
theorem rk_cndE : cndE RkL 2 = 0 := by
  unfold cndE
  rw [if_neg (by rw [rk_giv]; decide), if_neg (fun h => h rk_chk), if_neg (by rw [show ((2 : Int)).toNat = 2 from rfl, rk_col]; decide)]
theorem rk_cands : CtrA Tryz.prog 13 [ts RkL, vi 2] (tupOf [.sl 2 5 cR, vi 0]) := by
  have h := candidates_c RkL 2 rk_few
  rcases candX_cases RkL 2 with ⟨h1, h2⟩ | ⟨h1, h2⟩
  · rw [rk_cndL] at h2; cases h2
  · rw [h1, rk_cndL, rk_cndE, cR_eq] at h
    exact h
theorem rk_rocks : CtrA Tryz.prog 15 [ts RkL, vi 2] (tupOf [vb true, vi 0]) := by
  have h := rocks_c RkL 2 rk_few
  rw [rk_cndL, rk_cndE] at h
  exact h
theorem rest_at (p : Pt) (P : Pl) (hp : rightB p = true) (h : [PA, PB].find? (bearB RkL 2 p) = some P) : CtrA Tryz.prog 18 [ts RkL, vi 2, pp p] (tupOf [pR 2 P, vb true, vi 0]) := by
  have h0 := resting_c RkL 2 p rk_few
  have e : restA RkL 2 p = tupOf [pR 2 P, vb true, vi 0] := by
    unfold restA
    rw [if_neg (fun h => h rk_giv), if_neg (by rw [hp]; decide), if_neg (fun h => h rk_cndE)]
    rw [show candP RkL (2 : Int).toNat = [PA, PB] from rk_cand, show ((2 : Int)).toNat = 2 from rfl, h]
  rw [e] at h0
  exact h0
theorem rk_rest33 : CtrA Tryz.prog 18 [ts RkL, vi 2, pp ⟨3, 3⟩] (tupOf [pA 2 [45, 50] [49, 47, 50] [49, 47, 50] (idx [1, 2, 3]), vb true, vi 0]) := by
  have h := rest_at ⟨3, 3⟩ PA (by decide) rk_33
  rw [show pR 2 PA = pA 2 (rtx (-2)) (rtx (Rat.divInt 1 2)) (rtx (Rat.divInt 1 2)) (idx [1, 2, 3]) from rfl, rt2, rth] at h
  exact h
theorem rk_rest11 : CtrA Tryz.prog 18 [ts RkL, vi 2, pp ⟨1, 1⟩] (tupOf [pA 2 [48] [48] [48] (idx [0, 1, 2]), vb true, vi 0]) := by
  have h := rest_at ⟨1, 1⟩ PB (by decide) rk_11
  rw [show pR 2 PB = pA 2 (rtx 0) (rtx 0) (rtx 0) (idx [0, 1, 2]) from rfl, rt0] at h
  exact h
theorem lr12 : ∀ q : Rat, q.num.natAbs < 10 → q.den < 10 → LR 43 q := fun q h1 h2 => ⟨Go.Na.LI.mono (k := 1) (show q.num.natAbs < 10 ^ 1 by omega) (by decide), Go.Na.LI.mono (k := 1) (show (q.den : Int).natAbs < 10 ^ 1 by omega) (by decide)⟩
theorem rk_tor : CtrA Tryz.prog 24 [pA 2 [45, 50] [49, 47, 50] [49, 47, 50] (idx [1, 2, 3]), vi 0] (tupOf [torV [sv [48], sv [48], sv [50], sv [45, 49, 47, 50], sv [49, 47, 50], sv [48]], vi 0]) := by
  have h := Torsor_ok 2 (by decide) (-2) (Rat.divInt 1 2) (Rat.divInt 1 2) (idx [1, 2, 3]) 0 (by decide) (lr12 _ (by decide +kernel) (by decide +kernel)) (lr12 _ (by decide +kernel) (by decide +kernel)) (lr12 _ (by decide +kernel) (by decide +kernel)) (by rw [rt2]; decide) (by rw [rth]; decide) (by rw [rth]; decide)
  rw [show torC 2 0 (-2) (Rat.divInt 1 2) (Rat.divInt 1 2) = [sv [48], sv [48], sv (rtx (((0 : Int) : Rat) - (-2))), sv (rtx (-(Rat.divInt 1 2))), sv (rtx (Rat.divInt 1 2)), sv [48]] from rfl, rt2, rth, rtp2, rtmh] at h
  exact h
theorem tq22_4 (w : World) : (Instr.buildSlice 22 4 #[(0, .agg #[.int .i64 0, .int .i64 0, .int .i64 0]), (1, .agg #[.int .i64 4, .int .i64 0, .int .i64 0]), (2, .agg #[.int .i64 0, .int .i64 4, .int .i64 0]), (3, .agg #[.int .i64 4, .int .i64 4, .int .i64 2])]).run Tryz.prog w = .ok (.slice (some ⟨w.heap.size, 0, none⟩) 4 4) (w.alloc (.cells #[.int .i64 0, .int .i64 0, .int .i64 0, .int .i64 4, .int .i64 0, .int .i64 0, .int .i64 0, .int .i64 4, .int .i64 0, .int .i64 4, .int .i64 4, .int .i64 2] 51)) := by kernel_rfl
theorem tf4_ok : ∀ i, i < 4 → ∀ j, j < 3 → ∃ u, ([.int .i64 0, .int .i64 0, .int .i64 0, .int .i64 4, .int .i64 0, .int .i64 0, .int .i64 0, .int .i64 4, .int .i64 0, .int .i64 4, .int .i64 4, .int .i64 2] : List Value)[i * 3 + j]? = some u ∧ tf RkL i j = .val u := fun i hi j hj => by
  rcases (by omega : i = 0 ∨ i = 1 ∨ i = 2 ∨ i = 3) with rfl | rfl | rfl | rfl <;> rcases (by omega : j = 0 ∨ j = 1 ∨ j = 2) with rfl | rfl | rfl <;> exact ⟨_, rfl, rfl⟩
theorem tb51_0 (a : Int) : Tryz.prog.built 51 [(0, .int .i64 a)] = some #[.int .i64 a, .int .i64 0, .int .i64 0] := by kernel_rfl
theorem tb51_1 (a : Int) : Tryz.prog.built 51 [(1, .int .i64 a)] = some #[.int .i64 0, .int .i64 a, .int .i64 0] := by kernel_rfl
theorem rocker_c : CtrA Tryz.prog 44 [] (ts RkL) := by
  refine ctrA _ Tryz.func44 rfl rfl Tryz.ntmps44 rfl fun w Z => ?_
  simp only [initT, zP, zQ, Nat.zero_add, Nat.reduceAdd]
  refine wt ?_
  refine sq_g (g_build (t := 51) (is := [0]) (xs := [_]) (vs := [_]) (tb51_0 4) rfl rfl) rfl ?_
  refine wt ?_
  refine sq_g (g_build (t := 51) (is := [1]) (xs := [_]) (vs := [_]) (tb51_1 4) rfl rfl) rfl ?_
  refine wt ?_
  refine sq_g (g_bslice (is := [0, 1, 2, 3]) (xs := [_, _, _, _]) (vs := [_, _, _, _]) (us := [.int .i64 0, .int .i64 0, .int .i64 0, .int .i64 4, .int .i64 0, .int .i64 0, .int .i64 0, .int .i64 4, .int .i64 0, .int .i64 4, .int .i64 4, .int .i64 2]) (row := tf RkL) tq22_4 rfl rfl rfl tf4_ok) rfl ?_
  refine wt ?_
  exact sq_res1 rfl (.tmp rfl) rfl
theorem tq40_3 (w : World) : (Instr.buildSlice 40 3 #[(0, .int .i64 1), (1, .int .i64 2), (2, .int .i64 3)]).run Tryz.prog w = .ok (.slice (some ⟨w.heap.size, 0, none⟩) 3 3) (w.alloc (.cells #[.int .i64 1, .int .i64 2, .int .i64 3] 3)) := by kernel_rfl
theorem xf3_ok : ∀ i, i < 3 → ∀ j, j < 1 → ∃ u, ([.int .i64 1, .int .i64 2, .int .i64 3] : List Value)[i * 1 + j]? = some u ∧ xf [1, 2, 3] i j = .val u := fun i hi j hj => by
  obtain rfl : j = 0 := by omega
  rcases (by omega : i = 0 ∨ i = 1 ∨ i = 2) with rfl | rfl | rfl <;> exact ⟨_, rfl, rfl⟩
theorem eq123 : CtrA Tryz.prog 43 [idx [1, 2, 3], .sl 3 1 (xf [1, 2, 3])] (vb true) := by
  have h := equal_c (fun i => ((gi [1, 2, 3] i : Nat) : Int)) (fun i => ((gi [1, 2, 3] i : Nat) : Int)) 3 3 (by decide)
  rw [show eqB (fun i => ((gi [1, 2, 3] i : Nat) : Int)) 3 (fun i => ((gi [1, 2, 3] i : Nat) : Int)) 3 = true by decide] at h
  exact h
theorem eqg59 (x y : Operand) (xs ys : Array Value) (w : World) : (eqGuard .eql 59 x y (.agg xs) (.agg ys)).run Tryz.prog w = .ok () w := by kernel_rfl
theorem eq59c (w : World) : (binOp .eql 59 (.agg #[sv [48], sv [48], sv [50], sv [45, 49, 47, 50], sv [49, 47, 50], sv [48]]) (.agg #[sv [48], sv [48], sv [50], sv [45, 49, 47, 50], sv [49, 47, 50], sv [48]])).run Tryz.prog w = .ok (.bool true) w := by kernel_rfl
theorem awake_c : CtrA Tryz.prog 12 [] (vb true) := by
  have h1 := rocker_c
  have h2 := rk_cands
  have h3 := rk_rocks
  have h4 := rk_rest33
  have h5 := rk_rest11
  have h6 := rk_tor
  have h7 := eq123
  refine ctrA _ Tryz.func12 rfl rfl Tryz.ntmps12 rfl fun w Z => ?_
  simp only [initT, zP, zQ, Nat.zero_add, Nat.reduceAdd]
  refine wt ?_
  refine sq_s (g_store_aggv rfl rfl (pAf_one _ _ _ _ _) rfl rfl) ?_
  refine wt ?_
  refine sq_s (g_store_aggv rfl rfl (pAf_one _ _ _ _ _) rfl rfl) ?_
  refine wt ?_
  rw [show cR (Int.toNat 0) = pAf 2 [45, 50] [49, 47, 50] [49, 47, 50] (idx [1, 2, 3]) from rfl]
  refine sq_g (g_load_aggv rfl rfl) rfl ?_
  refine wt ?_
  rw [show cR (Int.toNat 0) (4 + 0) = idx [1, 2, 3] from rfl]
  refine sq_on (g_bslice (is := [0, 1, 2]) (xs := [_, _, _]) (vs := [_, _, _]) (us := [.int .i64 1, .int .i64 2, .int .i64 3]) (row := xf [1, 2, 3]) tq40_3 rfl rfl rfl xf3_ok) rfl rfl rfl ?_
  refine wt ?_
  refine sq_on (g_load_own_agg (us := [sv [48], sv [48], sv [50], sv [45, 49, 47, 50], sv [49, 47, 50], sv [48]]) rfl rfl rfl rfl) rfl rfl rfl ?_
  refine wt ?_
  refine sq_on (g_build (t := 57) (is := [0, 1, 2]) (xs := [_, _, _]) (vs := [sv [48], sv [48], sv [50]]) (tb57 _ _ _) rfl rfl) rfl rfl rfl ?_
  refine sq_on (g_build (t := 57) (is := [0, 1, 2]) (xs := [_, _, _]) (vs := [sv [45, 49, 47, 50], sv [49, 47, 50], sv [48]]) (tb57 _ _ _) rfl rfl) rfl rfl rfl ?_
  refine sq_on (g_build (t := 59) (is := [0, 1]) (xs := [_, _]) (vs := [.agg #[sv [48], sv [48], sv [50]], .agg #[sv [45, 49, 47, 50], sv [49, 47, 50], sv [48]]]) (tb59 _ _ _ _ _ _) rfl rfl) rfl rfl rfl ?_
  refine sq_on (g_bin rfl rfl (fun w => eqg59 _ _ _ _ w) (fun w => eq59c w)) rfl rfl rfl ?_
  refine wt ?_
  exact sq_res1 rfl (.tmp rfl) rfl
end Go.Proofs.YtgepmbjmaljgoaaGreatDoor.H
end
section
namespace Go.Proofs.YtgepmbjmaljgoaaGreatDoor.H
open Go Go.Vc Go.RowKit Go.Na
set_option maxHeartbeats 4000000
theorem tq102 (a b c : ByteArray) (w : World) : (Instr.buildSlice 102 3 #[(0, .string a), (1, .string b), (2, .string c)]).run Tryz.prog w = .ok (.slice (some ⟨w.heap.size, 0, none⟩) 3 3) (w.alloc (.cells #[.string a, .string b, .string c] 39)) := by kernel_rfl
def g3 (A B C : List UInt8) : Nat → List UInt8 := fun i => match i with | 0 => A | 1 => B | _ => C
theorem g3_ok (A B C : List UInt8) : ∀ i, i < 3 → ∀ j, j < 1 → ∃ u, ([.string (bs A), .string (bs B), .string (bs C)] : List Value)[i * 1 + j]? = some u ∧ (fun (i _ : Nat) => vS (g3 A B C i)) i j = .val u := fun i hi j hj => by
  obtain rfl : j = 0 := by omega
  rcases (by omega : i = 0 ∨ i = 1 ∨ i = 2) with rfl | rfl | rfl <;> exact ⟨_, rfl, rfl⟩
end Go.Proofs.YtgepmbjmaljgoaaGreatDoor.H
end
section

end
section
namespace Go.Proofs.YtgepmbjmaljgoaaGreatDoor.H
open Go Go.Vc Go.RowKit Go.Na
set_option maxHeartbeats 4000000
theorem shortr_big (n : Nat) (g : Nat → List UInt8) (hn : n ≤ 1000000) (hg : ∀ i, i < n → (g i).length ≤ 9223372036854775807) : CtrA Tryz.prog 55 [.sl n 1 (fun i _ => vS (g i))] (vb (shortB g n)) := by
  refine ctrA _ Tryz.func55 rfl rfl Tryz.ntmps55 rfl fun w Z => ?_
  simp only [initT, zP, zQ, Nat.zero_add, Nat.reduceAdd]
  refine wt ?_
  refine cq_loop (γ := Nat) (fun i => [(0, .av (.sl n 1 (fun i _ => vS (g i)))), (3, .av (vi i))]) (fun _ => []) (fun i => i ≤ n ∧ ∀ j, j < i → (g j).length ≤ 24) (fun i => n - i) 0 ⟨Nat.zero_le _, fun j hj => absurd hj (Nat.not_lt_zero _)⟩ (ent ⟨.refl _, .refl _, trivial⟩ trivial) ?_
  rintro i ⟨hi, he⟩
  refine wt ?_
  (refine cq_cond rfl (fun hb => ?_) (fun hb => ?_) <;> (try simp only [zA, zB, zC, zD, zE, zF, zG, zH, zI, zJ, zK, zL, zM, zN, zO] at hb) <;> (try (exfalso; omega)))
  · refine wt ?_
    (refine cq_cond rfl (fun hb => ?_) (fun hb => ?_) <;> (try simp only [zA, zB, zC, zD, zE, zF, zG, zH, zI, zJ, zK, zL, zM, zN, zO] at hb) <;> (try (exfalso; omega)))
    · refine wt ?_
      exact sq_res1 rfl (.tmp rfl) (congrArg vb (by
        symm
        unfold shortB
        rw [Bool.and_eq_false_iff]
        right
        rw [List.all_eq_false]
        exact ⟨i, List.mem_range.2 (by omega), by simp; omega⟩))
    · refine wt ?_
      exact sq_round (i + 1) ⟨by omega, fun j hj => by
        by_cases h : j < i
        · exact he j h
        · have : j = i := by omega
          subst this
          omega⟩ (by omega) (ent ⟨.refl _, .int (by omega), trivial⟩ trivial)
  · have e : i = n := by omega
    subst e
    refine wt ?_
    exact sq_res1 rfl (.tmp rfl) (congrArg vb (by
      unfold shortB
      have : (List.range i).all (fun i => decide ((g i).length ≤ 24)) = true := List.all_eq_true.2 fun j hj => decide_eq_true (he j (List.mem_range.1 hj))
      rw [this, Bool.and_true]
      exact decide_eq_decide.2 (by omega)))
def shP (A B C : List UInt8) (n : Nat) : Bool := shortB (g3 A B C) 3 && decide (n ≤ 20)
theorem short_c (a : Int) (A B C : List UInt8) (n : Nat) (row : Nat → Nat → AV) (hn : n ≤ 9223372036854775807) (hA : A.length ≤ 9223372036854775807) (hB : B.length ≤ 9223372036854775807) (hC : C.length ≤ 9223372036854775807) : CtrA Tryz.prog 21 [pA a A B C (.sl n 1 row)] (vb (shP A B C n)) := by
  have h := shortr_big 3 (g3 A B C) (by decide) (fun i hi => by rcases (by omega : i = 0 ∨ i = 1 ∨ i = 2) with rfl | rfl | rfl <;> assumption)
  refine ctrA _ Tryz.func21 rfl rfl Tryz.ntmps21 rfl fun w Z => ?_
  simp only [initT, zP, zQ, Nat.zero_add, Nat.reduceAdd]
  refine wt ?_
  refine sq_g (g_bslice (is := [0, 1, 2]) (xs := [_, _, _]) (vs := [_, _, _]) (us := [.string (bs A), .string (bs B), .string (bs C)]) (row := fun i _ => vS (g3 A B C i)) (tq102 _ _ _) rfl rfl rfl (g3_ok A B C)) rfl ?_
  (refine wt ?_; repeat' (((first | refine sq_split rfl rfl (fun hb => ?_) (fun hb => ?_) | refine dq_split rfl rfl (fun hb => ?_) (fun hb => ?_)) <;> (try simp only [zA, zB, zC, zD, zE, zF, zG, zH, zI, zJ, zK, zL, zM, zN, zO] at hb) <;> (try (exfalso; omega))) <;> refine wt ?_))
  · exact sq_res1 rfl (.tmp rfl) (congrArg vb (by unfold shP; rw [hb, Bool.true_and, Bool.eq_iff_iff]; simp; omega))
  · exact sq_res1 rfl (.tmp rfl) (congrArg vb (by unfold shP; rw [hb]; rfl))
end Go.Proofs.YtgepmbjmaljgoaaGreatDoor.H
end
section
namespace Go.Proofs.YtgepmbjmaljgoaaGreatDoor.H
open Go Go.Vc Go.RowKit Go.Na
set_option maxHeartbeats 4000000
theorem LR_of_len {q : Rat} (h : (rtx q).length ≤ 24) : LR 43 q := by
  have h1 := spN_len (rtx q)
  have h2 := spD_len (rtx q)
  rw [spN_rtx] at h1
  rw [spD_rtx] at h2
  exact ⟨LI_itoa (by omega), LI_itoa (by omega)⟩
theorem shP_len {A B C : List UInt8} {n : Nat} (h : shP A B C n = true) : A.length ≤ 24 ∧ B.length ≤ 24 ∧ C.length ≤ 24 ∧ n ≤ 20 := by
  unfold shP shortB at h
  simp only [Bool.and_eq_true, decide_eq_true_eq, List.all_eq_true, List.mem_range] at h
  obtain ⟨⟨_, h1⟩, h2⟩ := h
  exact ⟨h1 0 (by omega), h1 1 (by omega), h1 2 (by omega), h2⟩
theorem plE_zero {a : Int} {A B C : List UInt8} (h : plE a A B C = 0) : ∃ (k : Nat) (qA qB qC : Rat), k < 3 ∧ a = k ∧ A = rtx qA ∧ B = rtx qB ∧ C = rtx qC := by
  unfold plE at h
  split at h
  · cases h
  · rename_i ha
    split at h
    · rename_i h1; exact absurd h h1
    · rename_i h1
      split at h
      · rename_i h2; exact absurd h h2
      · rename_i h2
        obtain ⟨qA, rfl⟩ := chkR_good (l := A) (by omega)
        obtain ⟨qB, rfl⟩ := chkR_good (l := B) (by omega)
        obtain ⟨qC, rfl⟩ := chkR_good (l := C) h
        exact ⟨a.toNat, qA, qB, qC, by omega, by omega, rfl, rfl, rfl⟩
end Go.Proofs.YtgepmbjmaljgoaaGreatDoor.H
end
section
namespace Go.Proofs.YtgepmbjmaljgoaaGreatDoor
open Go Go.Vc Go.RowKit Go.ChangeShapes Go.WideShapes Go.ChangeAt Go.Joins
set_option maxRecDepth 100000
theorem laid_mem {P : Program} {w : World} : ∀ {l : List (String × DataW Unit)} {ps : List MemPlace}, DataW.LaidVars P w l ps → ∀ {n : String} {d : DataW Unit}, (n, d) ∈ l →
    ∃ g t cs fuel p, P.globalNamed n = some g ∧ (P.globals[g]?).map (·.type) = some t ∧ w.var? P n = some cs ∧ DataW.trod (fun _ => ()) P w 0 (fun _ => true) false fuel t cs.toList = some (d, p)
  | [], _, _, _, _, hm => by cases hm
  | (n', d') :: r, _, h, n, d, hm => by
    obtain ⟨g, t, cs, fuel, p, q, h1, h2, h3, h4, h5, _⟩ := h
    rcases List.mem_cons.1 hm with e | hm
    · cases e; exact ⟨g, t, cs, fuel, p, h1, h2, h3, h4⟩
    · exact laid_mem h5 hm
theorem ints_of {H : Type} {enc : TypeId × Value → H} {P : Program} {W : World} {base : Nat} {spare : Nat → Bool} {held : Bool} {t e : TypeId} {q : IntKind} {n fuel : Nat} {cs : List Value} {d : DataW H} {p : List MemPlace}
    (ht : P.underlying t = some (.array n e)) (he : P.underlying e = some (.int q)) (hc : P.cellsOf e = 1) (hct : P.cellsOf t = n) (h : DataW.trod enc P W base spare held fuel t cs = some (d, p)) :
    ∃ ms : List Int, cs = ms.map (Value.int q) ∧ d = .agg (ms.map fun m => .lit (.int q m)) := by
  obtain ⟨xs, m, _, ex, hl, hxl, hel⟩ := DataW.trod_array ht h
  rw [hct] at hl
  rw [hc] at hel
  have key : ∀ i, i < n → ∃ z : Int, cs[i]? = some (.int q z) ∧ xs[i]? = some (.lit (.int q z), []) := fun i hi => by
    have h0 := hel i hi
    rw [List.getElem?_eq_getElem (by omega)] at h0
    obtain ⟨z, q0, q1, _⟩ := DataW.trod_int he h0
    refine ⟨z, ?_, by rw [List.getElem?_eq_getElem (by omega), q1]⟩
    have : ((cs.drop (i * 1)).take 1)[0]? = some (.int q z) := by rw [q0]; rfl
    simpa [List.getElem?_take, List.getElem?_drop] using this
  let f : Nat → Int := fun i => if h : i < n then (key i h).choose else 0
  have hf : ∀ i, i < n → cs[i]? = some (.int q (f i)) ∧ xs[i]? = some (.lit (.int q (f i)), []) := fun i hi => by
    have := (key i hi).choose_spec
    simpa [f, hi] using this
  refine ⟨(List.range n).map f, ?_, ?_⟩
  · apply List.ext_getElem?
    intro i
    by_cases hi : i < n
    · rw [(hf i hi).1]; simp [hi]
    · rw [List.getElem?_eq_none (by omega), List.getElem?_eq_none (by simp; omega)]
  · have hx : xs.map (·.1) = ((List.range n).map f).map (fun m => DataW.lit (.int q m)) := by
      apply List.ext_getElem?
      intro i
      by_cases hi : i < n
      · rw [List.getElem?_map, (hf i hi).2]; simp [hi]
      · rw [List.getElem?_eq_none (by simp; omega), List.getElem?_eq_none (by simp; omega)]
    have := congrArg Prod.fst ex
    rw [hx] at this
    exact this
end Go.Proofs.YtgepmbjmaljgoaaGreatDoor
end
