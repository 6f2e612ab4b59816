/- A part of the proof. -/
import Derived.Test.YtfggdokihnopeaaGreatDoorRows
import Derived.ProofKit
import Derived.Deep.Slices
import Derived.Deep.Fields
import Derived.Deep.Strs
import Derived.OpenShut
import Derived.ChangeSame
import Derived.Lib.SmallJoins
import Derived.Carry
import Derived.Below
import Derived.FnData
import Derived.Shelf.Vars
import Derived.LaidLaws
import Derived.LaidHandle
import Derived.Handed
import Derived.Test.YtfggdokihnopeaaGreatDoorBas
set_option linter.unusedVariables false
set_option linter.unusedSimpArgs false
namespace Go.Proofs.YtfggdokihnopeaaGreatDoor.H
open Go Go.Vc Go.RowKit
open Go.Na (rtx LR j0u q0T rsg)
set_option maxHeartbeats 4000000
theorem z0B {R : Syr} {k : Nat} (hk : k < 3) (h : ¬ (0 ≤ R.ax k ∧ R.ax k < 3)) : x0k R = 1 := by
 refine J0K ?_
 cases e : axB R 3 with
 |false => rfl
 |true => exact absurd ((J0D e).1 k hk) h
theorem k0Z (R : Syr) (hn : ∀ k, k < 3 → (R.sp k).length ≤ 1000) : CtrA Tryz.prog 45 [.agg 9 (srA R)] (vi (x0k R)) := by
 have k0 := Q0z (R.sp 0) (hn 0 zE)
 have k1 := Q0z (R.sp 1) (hn 1 zE)
 have k2 := Q0z (R.sp 2) (hn 2 zE)
 refine j0r _ Tryz.func45 rfl rfl Tryz.ntmps45 rfl fun w Z => ?_
 refine zU ?_
 refine wt ?_
 refine j0h (γ := Nat) (fun i => [(1, .av (.ptr 9 (srA R))), (3, .av (vi i))]) (fun _ => []) (fun i => i ≤ 3 ∧ ∀ j, j < i → 0 ≤ R.ax j ∧ R.ax j < 3) (fun i => 3 - i) 0 ⟨by omega, fun j hj => absurd hj zO⟩ (ent zS trivial) ?_
 rintro i ⟨hi, hJ⟩
 match i, hi, hJ with
 |0, _, hJ =>
  rcases (by omega : R.ax 0 < 0 ∨ 2 < R.ax 0 ∨ (0 ≤ R.ax 0 ∧ R.ax 0 < 3)) with hr | hr | hr
  ·have hc := z0B (R := R) (k := 0) zE zO
   refine wt ?_
   (first | refine j0g rfl rfl ?_ ?_ | refine j0f rfl rfl ?_ ?_) <;> intro hb <;> (try simp only [zA, zB, zG, zC, zD, zN] at hb) <;> (try exact zQ)
   ·refine wt ?_
    exact j0c rfl (.tmp rfl) (by rw [hc])
  ·have hc := z0B (R := R) (k := 0) zE zO
   refine wt ?_
   (first | refine j0g rfl rfl ?_ ?_ | refine j0f rfl rfl ?_ ?_) <;> intro hb <;> (try simp only [zA, zB, zG, zC, zD, zN] at hb) <;> (try exact zQ)
   ·refine wt ?_
    (refine j0a rfl ?_ ?_ <;> intro hb <;> (try simp only [zA, zB, zG, zC, zD, zN] at hb) <;> (try exact zQ))
    ·refine wt ?_
     exact j0c rfl (.tmp rfl) (by rw [hc])
  ·refine wt ?_
   (first | refine j0g rfl rfl ?_ ?_ | refine j0f rfl rfl ?_ ?_) <;> intro hb <;> (try simp only [zA, zB, zG, zC, zD, zN] at hb) <;> (try exact zQ)
   ·refine wt ?_
    (refine j0a rfl ?_ ?_ <;> intro hb <;> (try simp only [zA, zB, zG, zC, zD, zN] at hb) <;> (try exact zQ))
    ·refine wt ?_
     exact j0b 1 ⟨by omega, fun j hj => by
      by_cases e : j = 0
      ·subst e; exact hr
      ·exact hJ j zO⟩ zO (ent zS trivial)
 |1, _, hJ =>
  rcases (by omega : R.ax 1 < 0 ∨ 2 < R.ax 1 ∨ (0 ≤ R.ax 1 ∧ R.ax 1 < 3)) with hr | hr | hr
  ·have hc := z0B (R := R) (k := 1) zE zO
   refine wt ?_
   (first | refine j0g rfl rfl ?_ ?_ | refine j0f rfl rfl ?_ ?_) <;> intro hb <;> (try simp only [zA, zB, zG, zC, zD, zN] at hb) <;> (try exact zQ)
   ·refine wt ?_
    exact j0c rfl (.tmp rfl) (by rw [hc])
  ·have hc := z0B (R := R) (k := 1) zE zO
   refine wt ?_
   (first | refine j0g rfl rfl ?_ ?_ | refine j0f rfl rfl ?_ ?_) <;> intro hb <;> (try simp only [zA, zB, zG, zC, zD, zN] at hb) <;> (try exact zQ)
   ·refine wt ?_
    (refine j0a rfl ?_ ?_ <;> intro hb <;> (try simp only [zA, zB, zG, zC, zD, zN] at hb) <;> (try exact zQ))
    ·refine wt ?_
     exact j0c rfl (.tmp rfl) (by rw [hc])
  ·refine wt ?_
   (first | refine j0g rfl rfl ?_ ?_ | refine j0f rfl rfl ?_ ?_) <;> intro hb <;> (try simp only [zA, zB, zG, zC, zD, zN] at hb) <;> (try exact zQ)
   ·refine wt ?_
    (refine j0a rfl ?_ ?_ <;> intro hb <;> (try simp only [zA, zB, zG, zC, zD, zN] at hb) <;> (try exact zQ))
    ·refine wt ?_
     exact j0b 2 ⟨by omega, fun j hj => by
      by_cases e : j = 1
      ·subst e; exact hr
      ·exact hJ j zO⟩ zO (ent zS trivial)
 |2, _, hJ =>
  rcases (by omega : R.ax 2 < 0 ∨ 2 < R.ax 2 ∨ (0 ≤ R.ax 2 ∧ R.ax 2 < 3)) with hr | hr | hr
  ·have hc := z0B (R := R) (k := 2) zE zO
   refine wt ?_
   (first | refine j0g rfl rfl ?_ ?_ | refine j0f rfl rfl ?_ ?_) <;> intro hb <;> (try simp only [zA, zB, zG, zC, zD, zN] at hb) <;> (try exact zQ)
   ·refine wt ?_
    exact j0c rfl (.tmp rfl) (by rw [hc])
  ·have hc := z0B (R := R) (k := 2) zE zO
   refine wt ?_
   (first | refine j0g rfl rfl ?_ ?_ | refine j0f rfl rfl ?_ ?_) <;> intro hb <;> (try simp only [zA, zB, zG, zC, zD, zN] at hb) <;> (try exact zQ)
   ·refine wt ?_
    (refine j0a rfl ?_ ?_ <;> intro hb <;> (try simp only [zA, zB, zG, zC, zD, zN] at hb) <;> (try exact zQ))
    ·refine wt ?_
     exact j0c rfl (.tmp rfl) (by rw [hc])
  ·refine wt ?_
   (first | refine j0g rfl rfl ?_ ?_ | refine j0f rfl rfl ?_ ?_) <;> intro hb <;> (try simp only [zA, zB, zG, zC, zD, zN] at hb) <;> (try exact zQ)
   ·refine wt ?_
    (refine j0a rfl ?_ ?_ <;> intro hb <;> (try simp only [zA, zB, zG, zC, zD, zN] at hb) <;> (try exact zQ))
    ·refine wt ?_
     exact j0b 3 ⟨by omega, fun j hj => by
      by_cases e : j = 2
      ·subst e; exact hr
      ·exact hJ j zO⟩ zO (ent zS trivial)
 |3, _, hJ =>
  have a0 := hJ 0 zE
  have a1 := hJ 1 zE
  have a2 := hJ 2 zE
  by_cases h1 : R.ax 0 = R.ax 1
  ·have hc : x0k R = 1 := J0K (by cases e : axB R 3 with | false => rfl | true => exact absurd h1 (J0D e).2.1)
   refine wt ?_
   (first | refine j0g rfl rfl ?_ ?_ | refine j0f rfl rfl ?_ ?_) <;> intro hb <;> (try simp only [zA, zB, zG, zC, zD, zN] at hb) <;> (try exact zQ)
   ·refine wt ?_
    exact j0c rfl (.tmp rfl) (by rw [hc])
  ·by_cases h2 : R.ax 0 = R.ax 2
   ·have hc : x0k R = 1 := J0K (by cases e : axB R 3 with | false => rfl | true => exact absurd h2 (J0D e).2.2.1)
    refine wt ?_
    (first | refine j0g rfl rfl ?_ ?_ | refine j0f rfl rfl ?_ ?_) <;> intro hb <;> (try simp only [zA, zB, zG, zC, zD, zN] at hb) <;> (try exact zQ)
    ·refine wt ?_
     (first | refine j0g rfl rfl ?_ ?_ | refine j0f rfl rfl ?_ ?_) <;> intro hb <;> (try simp only [zA, zB, zG, zC, zD, zN] at hb) <;> (try exact zQ)
     ·refine wt ?_
      exact j0c rfl (.tmp rfl) (by rw [hc])
   ·by_cases h3 : R.ax 1 = R.ax 2
    ·have hc : x0k R = 1 := J0K (by cases e : axB R 3 with | false => rfl | true => exact absurd h3 (J0D e).2.2.2)
     refine wt ?_
     (first | refine j0g rfl rfl ?_ ?_ | refine j0f rfl rfl ?_ ?_) <;> intro hb <;> (try simp only [zA, zB, zG, zC, zD, zN] at hb) <;> (try exact zQ)
     ·refine wt ?_
      (first | refine j0g rfl rfl ?_ ?_ | refine j0f rfl rfl ?_ ?_) <;> intro hb <;> (try simp only [zA, zB, zG, zC, zD, zN] at hb) <;> (try exact zQ)
      ·refine wt ?_
       (refine j0a rfl ?_ ?_ <;> intro hb <;> (try simp only [zA, zB, zG, zC, zD, zN] at hb) <;> (try exact zQ))
       ·refine wt ?_
        exact j0c rfl (.tmp rfl) (by rw [hc])
    ·have hA : axB R 3 = true := W1U hJ h1 h2 h3
     refine wt ?_
     (first | refine j0g rfl rfl ?_ ?_ | refine j0f rfl rfl ?_ ?_) <;> intro hb <;> (try simp only [zA, zB, zG, zC, zD, zN] at hb) <;> (try exact zQ)
     ·refine wt ?_
      (first | refine j0g rfl rfl ?_ ?_ | refine j0f rfl rfl ?_ ?_) <;> intro hb <;> (try simp only [zA, zB, zG, zC, zD, zN] at hb) <;> (try exact zQ)
      ·refine wt ?_
       (refine j0a rfl ?_ ?_ <;> intro hb <;> (try simp only [zA, zB, zG, zC, zD, zN] at hb) <;> (try exact zQ))
       ·refine wt ?_
        refine j0h (γ := Nat) (fun i => [(1, .av (.ptr 9 (srA R))), (4, .av (vi i))]) (fun _ => []) (fun i => i ≤ 3 ∧ ∀ j, j < i → -100000 ≤ R.off j ∧ R.off j ≤ 100000) (fun i => 3 - i) 0 ⟨by omega, fun j hj => absurd hj zO⟩ (ent zS trivial) ?_
        rintro i ⟨hi, hO⟩
        match i, hi, hO with
        |0, _, hO =>
         have hb2 : ¬ (-100000 ≤ R.off 0 ∧ R.off 0 ≤ 100000) → x0k R = 2 := fun hn => V0V hA (by cases e : ofB R with | false => rfl | true => exact absurd (X0Y.1 e 0 zE) hn)
         rcases (by omega : R.off 0 < -100000 ∨ 100000 < R.off 0 ∨ (-100000 ≤ R.off 0 ∧ R.off 0 ≤ 100000)) with hr | hr | hr
         ·have hc := hb2 zO
          refine wt ?_
          (first | refine j0g rfl rfl ?_ ?_ | refine j0f rfl rfl ?_ ?_) <;> intro hb <;> (try simp only [zA, zB, zG, zC, zD, zN] at hb) <;> (try exact zQ)
          ·refine wt ?_
           exact j0c rfl (.tmp rfl) (by rw [hc])
         ·have hc := hb2 zO
          refine wt ?_
          (first | refine j0g rfl rfl ?_ ?_ | refine j0f rfl rfl ?_ ?_) <;> intro hb <;> (try simp only [zA, zB, zG, zC, zD, zN] at hb) <;> (try exact zQ)
          ·refine wt ?_
           (refine j0a rfl ?_ ?_ <;> intro hb <;> (try simp only [zA, zB, zG, zC, zD, zN] at hb) <;> (try exact zQ))
           ·refine wt ?_
            exact j0c rfl (.tmp rfl) (by rw [hc])
         ·refine wt ?_
          (first | refine j0g rfl rfl ?_ ?_ | refine j0f rfl rfl ?_ ?_) <;> intro hb <;> (try simp only [zA, zB, zG, zC, zD, zN] at hb) <;> (try exact zQ)
          ·refine wt ?_
           (refine j0a rfl ?_ ?_ <;> intro hb <;> (try simp only [zA, zB, zG, zC, zD, zN] at hb) <;> (try exact zQ))
           ·refine wt ?_
            exact j0b 1 ⟨by omega, fun j hj => by
             by_cases e : j = 0
             ·subst e; exact hr
             ·exact hO j zO⟩ zO (ent zS trivial)
        |1, _, hO =>
         have hb2 : ¬ (-100000 ≤ R.off 1 ∧ R.off 1 ≤ 100000) → x0k R = 2 := fun hn => V0V hA (by cases e : ofB R with | false => rfl | true => exact absurd (X0Y.1 e 1 zE) hn)
         rcases (by omega : R.off 1 < -100000 ∨ 100000 < R.off 1 ∨ (-100000 ≤ R.off 1 ∧ R.off 1 ≤ 100000)) with hr | hr | hr
         ·have hc := hb2 zO
          refine wt ?_
          (first | refine j0g rfl rfl ?_ ?_ | refine j0f rfl rfl ?_ ?_) <;> intro hb <;> (try simp only [zA, zB, zG, zC, zD, zN] at hb) <;> (try exact zQ)
          ·refine wt ?_
           exact j0c rfl (.tmp rfl) (by rw [hc])
         ·have hc := hb2 zO
          refine wt ?_
          (first | refine j0g rfl rfl ?_ ?_ | refine j0f rfl rfl ?_ ?_) <;> intro hb <;> (try simp only [zA, zB, zG, zC, zD, zN] at hb) <;> (try exact zQ)
          ·refine wt ?_
           (refine j0a rfl ?_ ?_ <;> intro hb <;> (try simp only [zA, zB, zG, zC, zD, zN] at hb) <;> (try exact zQ))
           ·refine wt ?_
            exact j0c rfl (.tmp rfl) (by rw [hc])
         ·refine wt ?_
          (first | refine j0g rfl rfl ?_ ?_ | refine j0f rfl rfl ?_ ?_) <;> intro hb <;> (try simp only [zA, zB, zG, zC, zD, zN] at hb) <;> (try exact zQ)
          ·refine wt ?_
           (refine j0a rfl ?_ ?_ <;> intro hb <;> (try simp only [zA, zB, zG, zC, zD, zN] at hb) <;> (try exact zQ))
           ·refine wt ?_
            exact j0b 2 ⟨by omega, fun j hj => by
             by_cases e : j = 1
             ·subst e; exact hr
             ·exact hO j zO⟩ zO (ent zS trivial)
        |2, _, hO =>
         have hb2 : ¬ (-100000 ≤ R.off 2 ∧ R.off 2 ≤ 100000) → x0k R = 2 := fun hn => V0V hA (by cases e : ofB R with | false => rfl | true => exact absurd (X0Y.1 e 2 zE) hn)
         rcases (by omega : R.off 2 < -100000 ∨ 100000 < R.off 2 ∨ (-100000 ≤ R.off 2 ∧ R.off 2 ≤ 100000)) with hr | hr | hr
         ·have hc := hb2 zO
          refine wt ?_
          (first | refine j0g rfl rfl ?_ ?_ | refine j0f rfl rfl ?_ ?_) <;> intro hb <;> (try simp only [zA, zB, zG, zC, zD, zN] at hb) <;> (try exact zQ)
          ·refine wt ?_
           exact j0c rfl (.tmp rfl) (by rw [hc])
         ·have hc := hb2 zO
          refine wt ?_
          (first | refine j0g rfl rfl ?_ ?_ | refine j0f rfl rfl ?_ ?_) <;> intro hb <;> (try simp only [zA, zB, zG, zC, zD, zN] at hb) <;> (try exact zQ)
          ·refine wt ?_
           (refine j0a rfl ?_ ?_ <;> intro hb <;> (try simp only [zA, zB, zG, zC, zD, zN] at hb) <;> (try exact zQ))
           ·refine wt ?_
            exact j0c rfl (.tmp rfl) (by rw [hc])
         ·refine wt ?_
          (first | refine j0g rfl rfl ?_ ?_ | refine j0f rfl rfl ?_ ?_) <;> intro hb <;> (try simp only [zA, zB, zG, zC, zD, zN] at hb) <;> (try exact zQ)
          ·refine wt ?_
           (refine j0a rfl ?_ ?_ <;> intro hb <;> (try simp only [zA, zB, zG, zC, zD, zN] at hb) <;> (try exact zQ))
           ·refine wt ?_
            exact j0b 3 ⟨by omega, fun j hj => by
             by_cases e : j = 2
             ·subst e; exact hr
             ·exact hO j zO⟩ zO (ent zS trivial)
        |3, _, hO =>
         have hs := q1n hA (X0Y.2 hO)
         rw [hs]
         refine wt ?_
         refine j0h (γ := Nat) (fun i => [(1, .av (.ptr 9 (srA R))), (5, .av (vi i))]) (fun _ => []) (fun i => i ≤ 3 ∧ (1 ≤ i → w0A (R.sp 0) = 0) ∧ (2 ≤ i → w0A (R.sp 1) = 0) ∧ (3 ≤ i → w0A (R.sp 2) = 0)) (fun i => 3 - i) 0 ⟨by omega, fun h => absurd h zO, fun h => absurd h zO, fun h => absurd h zO⟩ (ent zS trivial) ?_
         rintro i ⟨hi, hK⟩
         match i, hi, hK with
         |0, _, hK =>
          by_cases he : w0A (R.sp 0) = 0
          ·refine wt ?_
           (refine j0a rfl ?_ ?_ <;> intro hb <;> (try simp only [zA, zB, zG, zC, zD, zN] at hb) <;> (try exact zQ))
           ·refine wt ?_
            exact j0b 1 ⟨by omega, fun _ => he, fun h => absurd h zO, fun h => absurd h zO⟩ zO (ent zS trivial)
          ·refine wt ?_
           (refine j0a rfl ?_ ?_ <;> intro hb <;> (try simp only [zA, zB, zG, zC, zD, zN] at hb) <;> (try exact zQ))
           ·refine wt ?_
            exact j0c rfl (.tmp rfl) (by unfold spE; rw [if_pos he])
         |1, _, hK =>
          by_cases he : w0A (R.sp 1) = 0
          ·refine wt ?_
           (refine j0a rfl ?_ ?_ <;> intro hb <;> (try simp only [zA, zB, zG, zC, zD, zN] at hb) <;> (try exact zQ))
           ·refine wt ?_
            exact j0b 2 ⟨by omega, fun _ => hK.1 zO, fun _ => he, fun h => absurd h zO⟩ zO (ent zS trivial)
          ·refine wt ?_
           (refine j0a rfl ?_ ?_ <;> intro hb <;> (try simp only [zA, zB, zG, zC, zD, zN] at hb) <;> (try exact zQ))
           ·refine wt ?_
            exact j0c rfl (.tmp rfl) (by unfold spE; rw [if_neg (fun h => h (hK.1 (by omega))), if_pos he])
         |2, _, hK =>
          have hs2 : spE R = w0A (R.sp 2) := by unfold spE; rw [if_neg (fun h => h (hK.1 (by omega))), if_neg (fun h => h (hK.2.1 (by omega)))]
          by_cases he : w0A (R.sp 2) = 0
          ·refine wt ?_
           (refine j0a rfl ?_ ?_ <;> intro hb <;> (try simp only [zA, zB, zG, zC, zD, zN] at hb) <;> (try exact zQ))
           ·refine wt ?_
            exact j0b 3 ⟨by omega, fun _ => hK.1 zO, fun _ => hK.2.1 zO, fun _ => he⟩ zO (ent zS trivial)
          ·refine wt ?_
           (refine j0a rfl ?_ ?_ <;> intro hb <;> (try simp only [zA, zB, zG, zC, zD, zN] at hb) <;> (try exact zQ))
           ·refine wt ?_
            exact j0c rfl (.tmp rfl) (by rw [hs2])
         |3, _, hK =>
          have hs3 : spE R = 0 := by unfold spE; rw [if_neg (fun h => h (hK.1 (by omega))), if_neg (fun h => h (hK.2.1 (by omega)))]; exact hK.2.2 (by omega)
          refine wt ?_
          exact j0c rfl (.tmp rfl) (by rw [hs3])
         |i + 4, hi, _ => omega
        |i + 4, hi, _ => omega
 |i + 4, hi, _ => omega
theorem k1Z (l : List Tr) (k : Nat) (hk : k < 3) (hn : l.length ≤ 1000) : CtrA Tryz.prog 86 [ts l, vi (k : Int)] (vb (twB l k)) := by
 refine j0r _ Tryz.func86 rfl rfl Tryz.ntmps86 rfl fun w Z => ?_
 refine zU ?_
 refine wt ?_
 refine j0h (γ := Nat) (fun i => [(0, .av (ts l)), (1, .av (vi (k : Int))), (5, .av (vi i))]) (fun _ => []) (fun i => i ≤ l.length ∧ ∀ j, j < i → cz (gt l j) k = cz (gt l 0) k) (fun i => l.length - i) 0 ⟨by omega, fun j hj => absurd hj zO⟩ (ent zS trivial) ?_
 rintro i ⟨hi, hJ⟩
 refine wt ?_
 (refine j0a rfl ?_ ?_ <;> intro hb <;> (try simp only [zA, zB, zG, zC, zD, zN] at hb) <;> (try exact zQ))
 ·have hil : i < l.length := by omega
  have c1 := W0E (gt l i) hk
  have c2 := W0E (gt l 0) hk
  refine wt ?_
  by_cases he : cz (gt l i) k = cz (gt l 0) k
  ·(refine j0a rfl ?_ ?_ <;> intro hb <;> (try simp only [zA, zB, zG, zC, zD, zN] at hb) <;> (try exact zQ))
   ·refine wt ?_
    exact j0b (i + 1) ⟨by omega, fun j hj => by
     by_cases e : j = i
     ·subst e; exact he
     ·exact hJ j zO⟩ zO (ent zS trivial)
  ·(refine j0a rfl ?_ ?_ <;> intro hb <;> (try simp only [zA, zB, zG, zC, zD, zN] at hb) <;> (try exact zQ))
   ·refine wt ?_
    exact j0c rfl (.tmp rfl) (by rw [Y0y.2 ⟨i, hil, he⟩])
 ·obtain rfl : i = l.length := by omega
  refine wt ?_
  have hf : twB l k = false := by
   cases e : twB l k with
   |false => rfl
   |true => obtain ⟨j, h1, h2⟩ := Y0y.1 e; exact absurd (hJ j h1) h2
  exact j0c rfl (.tmp rfl) (by rw [hf])
def nrB (p : Tr) (k : Nat) : Bool := j0Z p && (decide (cz p k < -2000) || decide (2000 < cz p k))
theorem k0Q {l : List Tr} : x0A l = true ↔ ∀ i, i < l.length → ∀ k, k < 3 → nrB (gt l i) k = false := by
 unfold x0A
 rw [List.all_eq_true]
 constructor
 ·intro h i hi k hk
  have := List.all_eq_true.1 (h i (List.mem_range.2 hi)) k (List.mem_range.2 hk)
  rw [Bool.not_eq_true'] at this
  exact this
 ·intro h i hi
  rw [List.all_eq_true]
  intro k hk
  have := h i (List.mem_range.1 hi) k (List.mem_range.1 hk)
  rw [Bool.not_eq_true']
  exact this
theorem v1w (l : List Tr) (hn : l.length ≤ 1000) : CtrA Tryz.prog 61 [ts l] (vb (x0A l)) := by
 refine j0r _ Tryz.func61 rfl rfl Tryz.ntmps61 rfl fun w Z => ?_
 refine zU ?_
 refine wt ?_
 refine j0h (γ := Nat) (fun i => [(0, .av (ts l)), (3, .av (vi i))]) (fun _ => []) (fun i => i ≤ l.length ∧ ∀ j, j < i → ∀ k, k < 3 → nrB (gt l j) k = false) (fun i => l.length - i) 0 ⟨by omega, fun j hj => absurd hj zO⟩ (ent zS trivial) ?_
 rintro i ⟨hi, hJ⟩
 refine wt ?_
 (refine j0a rfl ?_ ?_ <;> intro hb <;> (try simp only [zA, zB, zG, zC, zD, zN] at hb) <;> (try exact zQ))
 ·have hil : i < l.length := by omega
  refine wt ?_
  refine j0h (γ := Nat) (fun k => [(0, .av (ts l)), (3, .av (vi i)), (4, .av (vi k))]) (fun _ => []) (fun k => k ≤ 3 ∧ ∀ j, j < k → nrB (gt l i) j = false) (fun k => 3 - k) 0 ⟨by omega, fun j hj => absurd hj zO⟩ (ent zS trivial) ?_
  rintro k ⟨hk, hK⟩
  refine wt ?_
  (refine j0a rfl ?_ ?_ <;> intro hb <;> (try simp only [zA, zB, zG, zC, zD, zN] at hb) <;> (try exact zQ))
  ·have hkl : k < 3 := by omega
   have c1 := W0E (gt l i) hkl
   have c2 := z0c (gt l i)
   cases hb : nrB (gt l i) k with
   |false =>
    have hnx : ∀ j, j < k + 1 → nrB (gt l i) j = false := fun j hj => by
     by_cases e : j = k
     ·subst e; exact hb
     ·exact hK j zO
    cases hr : j0Z (gt l i) with
    |false =>
     rw [hr] at c2
     refine wt ?_
     exact j0b (k + 1) ⟨by omega, hnx⟩ zO (ent zS trivial)
    |true =>
     rw [hr] at c2
     unfold nrB at hb
     rw [hr] at hb
     simp at hb
     refine wt ?_
     (first | refine j0g rfl rfl ?_ ?_ | refine j0f rfl rfl ?_ ?_) <;> intro hb <;> (try simp only [zA, zB, zG, zC, zD, zN] at hb) <;> (try exact zQ)
     ·refine wt ?_
      (refine j0a rfl ?_ ?_ <;> intro hb <;> (try simp only [zA, zB, zG, zC, zD, zN] at hb) <;> (try exact zQ))
      ·refine wt ?_
       exact j0b (k + 1) ⟨by omega, hnx⟩ zO (ent zS trivial)
   |true =>
    have hf : x0A l = false := by
     cases e : x0A l with
     |false => rfl
     |true => rw [k0Q.1 e i hil k hkl] at hb; cases hb
    unfold nrB at hb
    simp only [Bool.and_eq_true, Bool.or_eq_true, decide_eq_true_eq] at hb
    obtain ⟨hr, hb⟩ := hb
    rw [hr] at c2
    refine wt ?_
    (first | refine j0g rfl rfl ?_ ?_ | refine j0f rfl rfl ?_ ?_) <;> intro hb <;> (try simp only [zA, zB, zG, zC, zD, zN] at hb) <;> (try exact zQ)
    ·refine wt ?_
     exact j0c rfl (.tmp rfl) (by rw [hf])
    ·refine wt ?_
     (refine j0a rfl ?_ ?_ <;> intro hb <;> (try simp only [zA, zB, zG, zC, zD, zN] at hb) <;> (try exact zQ))
     ·refine wt ?_
      exact j0c rfl (.tmp rfl) (by rw [hf])
  ·obtain rfl : k = 3 := by omega
   refine wt ?_
   exact j0b (i + 1) ⟨by omega, fun j hj => by
    by_cases e : j = i
    ·subst e; exact fun k hk => hK k hk
    ·exact hJ j zO⟩ zO (ent zS trivial)
 ·obtain rfl : i = l.length := by omega
  refine wt ?_
  exact j0c rfl (.tmp rfl) (by rw [k0Q.2 (fun i hi k hk => hJ i hi k hk)])
theorem J1t {R : Syr} (h : x0k R = 0) : CtrA Tryz.prog 46 [syV (syO R)] (vb (j1l (syO R))) := by
 have hlen := z0P h
 have hp := W0T h
 have c1 := w1k ((syO R).sp 0) hp.1 (hlen 0 zE)
 have c2 := j1s (x0j ((syO R).sp 0) ((syO R).ax 0)) (z1L (Z0W (Y0s h 0) (by rw [w1P (by decide)]; exact (RT.of ((w0f h).2.2 0 (by decide))).2) _)).1 (by rw [x0b]; exact hlen 0 (by decide))
 have c3 := k1Z ((syO R).sp 1) ((syO R).ax 2) hp.2.2.1 (hlen 1 zE)
 obtain ⟨S, hS⟩ : ∃ S, S = syO R := ⟨_, rfl⟩
 rw [← hS] at c1 c2 c3 hlen hp ⊢
 unfold j1l
 refine j0r _ Tryz.func46 rfl rfl Tryz.ntmps46 rfl fun w Z => ?_
 refine zU ?_
 cases e1 : x0i (x0j (S.sp 0) (S.ax 0)) with
 |true =>
  rw [e1] at c2
  refine wt ?_
  refine j0C (q0u 20 c1 rfl rfl) rfl ?_
  refine wt ?_
  exact zV
 |false =>
  rw [e1] at c2
  cases e2 : twB (S.sp 1) (S.ax 2) with
  |false =>
   rw [e2] at c3
   refine wt ?_
   refine j0C (q0u 20 c1 rfl rfl) rfl ?_
   refine wt ?_
   exact zV
  |true =>
   rw [e2] at c3
   refine wt ?_
   refine j0C (q0u 20 c1 rfl rfl) rfl ?_
   refine wt ?_
   exact j0c rfl (.tmp rfl) (congrArg vb (by rw [Bool.not_false, Bool.true_and, Bool.true_and]; exact decide_eq_decide.2 (by omega)))
theorem z1Y {R : Syr} (hz : x0k R = 0) (a0 : (R.sp 0).length ≤ 100) (a1 : (R.sp 1).length ≤ 100) (a2 : (R.sp 2).length ≤ 100) : q1N R = ((((((decide (((R.sp 0).length : Int) ≤ 4) && decide (((R.sp 1).length : Int) ≤ 3)) && decide (((R.sp 2).length : Int) ≤ 2)) && x0A (R.sp 0)) && x0A (R.sp 1)) && x0A (R.sp 2)) ||
  (((!j1l (syO R) && decide (((R.sp 0).length : Int) ≤ 6)) && decide (((R.sp 1).length : Int) ≤ 6)) && decide (((R.sp 2).length : Int) ≤ 6))) := by
 have e : ∀ (n : Nat) (m : Nat) (i : Int), i = (m : Int) → decide ((n : Int) ≤ i) = decide (n ≤ m) := fun n m i h => decide_eq_decide.2 zO
 rw [e (R.sp 0).length 4 4 rfl, e (R.sp 1).length 3 3 rfl, e (R.sp 2).length 2 2 rfl, e (R.sp 0).length 6 6 rfl, e (R.sp 1).length 6 6 rfl, e (R.sp 2).length 6 6 rfl]
 unfold q1N
 simp [hz, a0, a1, a2, Bool.and_assoc]
theorem k1o (R : Syr) : CtrA Tryz.prog 15 [.agg 9 (srA R)] (vb (q1N R)) := by
 by_cases h0 : (R.sp 0).length ≤ 100 ∧ (R.sp 1).length ≤ 100 ∧ (R.sp 2).length ≤ 100
 ·have hlen : ∀ k, k < 3 → (R.sp k).length ≤ 1000 := fun k hk => by
   rcases (by omega : k = 0 ∨ k = 1 ∨ k = 2) with rfl | rfl | rfl <;> omega
  obtain ⟨a0, a1, a2⟩ := h0
  have c0 := k0Z R hlen
  have n0 := v1w (R.sp 0) zO
  have n1 := v1w (R.sp 1) zO
  have n2 := v1w (R.sp 2) zO
  by_cases hz : x0k R = 0
  ·have cp := J1t hz
   rw [show syV (syO R) = .agg 9 (srA R) by rw [W0R hz]] at cp
   rw [hz] at c0
   refine j0r _ Tryz.func15 rfl rfl Tryz.ntmps15 rfl fun w Z => ?_
   refine zU ?_
   refine wt ?_
   (first | refine j0g rfl rfl ?_ ?_ | refine j0f rfl rfl ?_ ?_) <;> intro hb <;> (try simp only [zA, zB, zG, zC, zD, zN] at hb) <;> (try exact zQ)
   ·refine wt ?_
    (first | refine j0g rfl rfl ?_ ?_ | refine j0f rfl rfl ?_ ?_) <;> intro hb <;> (try simp only [zA, zB, zG, zC, zD, zN] at hb) <;> (try exact zQ)
    ·refine wt ?_
     (refine j0a rfl ?_ ?_ <;> intro hb <;> (try simp only [zA, zB, zG, zC, zD, zN] at hb) <;> (try exact zQ))
     ·refine wt ?_
      simp only [List.append]
      refine j0j (j0d rfl rfl) rfl ?_
      refine wt ?_
      obtain ⟨x0, hx0⟩ : ∃ x0 : Bool, x0 = (decide (((R.sp 0).length : Int) ≤ 4) && decide (((R.sp 1).length : Int) ≤ 3)) := ⟨_, rfl⟩
      refine x0z 7 [(38, .av (vb x0)), (25, .av (vb false)), (1, .av (.ptr 9 (srA R)))] [] ?_ ?_
      ·simp only [List.take]
       (first | refine j0g rfl rfl ?_ ?_ | refine j0f rfl rfl ?_ ?_) <;> intro hb <;> (try simp only [zA, zB, zG, zC, zD, zN] at hb) <;> (try exact zQ)
       ·refine wt ?_
        exact q0h (ent ⟨.val (by rw [hx0]; simp [hb]), .refl _, .refl _, trivial⟩ trivial)
       ·refine wt ?_
        exact q0h (ent ⟨.val (by rw [hx0]; simp [hb]), .refl _, .refl _, trivial⟩ trivial)
      simp only [List.drop]
      obtain ⟨x1, hx1⟩ : ∃ x1 : Bool, x1 = (x0 && decide (((R.sp 2).length : Int) ≤ 2)) := ⟨_, rfl⟩
      refine x0z 7 [(45, .av (vb x1)), (25, .av (vb false)), (1, .av (.ptr 9 (srA R)))] [] ?_ ?_
      ·simp only [List.take]
       (first | refine j0g rfl rfl ?_ ?_ | refine j0f rfl rfl ?_ ?_) <;> intro hb <;> (try simp only [zA, zB, zG, zC, zD, zN] at hb) <;> (try exact zQ)
       ·refine wt ?_
        exact q0h (ent ⟨.val (by rw [hx1]; simp [hb]), .refl _, .refl _, trivial⟩ trivial)
       ·refine wt ?_
        exact q0h (ent ⟨.val (by rw [hx1]; simp [hb]), .refl _, .refl _, trivial⟩ trivial)
      simp only [List.drop]
      obtain ⟨x2, hx2⟩ : ∃ x2 : Bool, x2 = (x1 && x0A (R.sp 0)) := ⟨_, rfl⟩
      refine x0z 6 [(51, .av (vb x2)), (25, .av (vb false)), (1, .av (.ptr 9 (srA R)))] [] ?_ ?_
      ·simp only [List.take]
       (first | refine j0g rfl rfl ?_ ?_ | refine j0f rfl rfl ?_ ?_) <;> intro hb <;> (try simp only [zA, zB, zG, zC, zD, zN] at hb) <;> (try exact zQ)
       ·refine wt ?_
        exact q0h (ent ⟨.val (by rw [hx2]; simp [hb]), .refl _, .refl _, trivial⟩ trivial)
       ·refine wt ?_
        exact q0h (ent ⟨.val (by rw [hx2]; simp [hb]), .refl _, .refl _, trivial⟩ trivial)
      simp only [List.drop]
      obtain ⟨x3, hx3⟩ : ∃ x3 : Bool, x3 = (x2 && x0A (R.sp 1)) := ⟨_, rfl⟩
      refine x0z 6 [(57, .av (vb x3)), (25, .av (vb false)), (1, .av (.ptr 9 (srA R)))] [] ?_ ?_
      ·simp only [List.take]
       (first | refine j0g rfl rfl ?_ ?_ | refine j0f rfl rfl ?_ ?_) <;> intro hb <;> (try simp only [zA, zB, zG, zC, zD, zN] at hb) <;> (try exact zQ)
       ·refine wt ?_
        exact q0h (ent ⟨.val (by rw [hx3]; simp [hb]), .refl _, .refl _, trivial⟩ trivial)
       ·refine wt ?_
        exact q0h (ent ⟨.val (by rw [hx3]; simp [hb]), .refl _, .refl _, trivial⟩ trivial)
      simp only [List.drop]
      obtain ⟨x4, hx4⟩ : ∃ x4 : Bool, x4 = (x3 && x0A (R.sp 2)) := ⟨_, rfl⟩
      refine x0z 5 [(62, .av (vb x4)), (25, .av (vb false)), (1, .av (.ptr 9 (srA R)))] [] ?_ ?_
      ·simp only [List.take]
       (first | refine j0g rfl rfl ?_ ?_ | refine j0f rfl rfl ?_ ?_) <;> intro hb <;> (try simp only [zA, zB, zG, zC, zD, zN] at hb) <;> (try exact zQ)
       ·refine wt ?_
        exact q0h (ent ⟨.val (by rw [hx4]; simp [hb]), .refl _, .refl _, trivial⟩ trivial)
       ·refine wt ?_
        exact q0h (ent ⟨.val (by rw [hx4]; simp [hb]), .refl _, .refl _, trivial⟩ trivial)
      simp only [List.drop]
      refine wt ?_
      cases hx : x4 with
      |true =>
       rw [hx] at hx4
       refine wt ?_
       exact j0c rfl (.tmp rfl) (congrArg vb (by rw [z1Y hz a0 a1 a2, ← hx0, ← hx1, ← hx2, ← hx3, ← hx4]; rfl))
      |false =>
       refine wt ?_
       refine x0I (j0d rfl rfl) rfl rfl rfl ?_
       refine wt ?_
       obtain ⟨np, hnp⟩ : ∃ np : Bool, np = !j1l (syO R) := ⟨_, rfl⟩
       rw [← hnp]
       obtain ⟨y0, hy0⟩ : ∃ y0 : Bool, y0 = (np && decide (((R.sp 0).length : Int) ≤ 6)) := ⟨_, rfl⟩
       refine x0z 7 [(75, .av (vb y0)), (64, .av (vb false)), (1, .av (.ptr 9 (srA R)))] [] ?_ ?_
       ·simp only [List.take]
        (first | refine j0g rfl rfl ?_ ?_ | refine j0f rfl rfl ?_ ?_) <;> intro hb <;> (try simp only [zA, zB, zG, zC, zD, zN] at hb) <;> (try exact zQ)
        ·refine wt ?_
         exact q0h (ent ⟨.val (by rw [hy0]; simp [hb]), .refl _, .refl _, trivial⟩ trivial)
        ·refine wt ?_
         exact q0h (ent ⟨.val (by rw [hy0]; simp [hb]), .refl _, .refl _, trivial⟩ trivial)
       simp only [List.drop]
       obtain ⟨y1, hy1⟩ : ∃ y1 : Bool, y1 = (y0 && decide (((R.sp 1).length : Int) ≤ 6)) := ⟨_, rfl⟩
       refine x0z 7 [(82, .av (vb y1)), (64, .av (vb false)), (1, .av (.ptr 9 (srA R)))] [] ?_ ?_
       ·simp only [List.take]
        (first | refine j0g rfl rfl ?_ ?_ | refine j0f rfl rfl ?_ ?_) <;> intro hb <;> (try simp only [zA, zB, zG, zC, zD, zN] at hb) <;> (try exact zQ)
        ·refine wt ?_
         exact q0h (ent ⟨.val (by rw [hy1]; simp [hb]), .refl _, .refl _, trivial⟩ trivial)
        ·refine wt ?_
         exact q0h (ent ⟨.val (by rw [hy1]; simp [hb]), .refl _, .refl _, trivial⟩ trivial)
       simp only [List.drop]
       obtain ⟨y2, hy2⟩ : ∃ y2 : Bool, y2 = (y1 && decide (((R.sp 2).length : Int) ≤ 6)) := ⟨_, rfl⟩
       refine x0z 6 [(88, .av (vb y2)), (64, .av (vb false)), (1, .av (.ptr 9 (srA R)))] [] ?_ ?_
       ·simp only [List.take]
        (first | refine j0g rfl rfl ?_ ?_ | refine j0f rfl rfl ?_ ?_) <;> intro hb <;> (try simp only [zA, zB, zG, zC, zD, zN] at hb) <;> (try exact zQ)
        ·refine wt ?_
         exact q0h (ent ⟨.val (by rw [hy2]; simp [hb]), .refl _, .refl _, trivial⟩ trivial)
        ·refine wt ?_
         exact q0h (ent ⟨.val (by rw [hy2]; simp [hb]), .refl _, .refl _, trivial⟩ trivial)
       simp only [List.drop]
       refine wt ?_
       exact j0c rfl (.tmp rfl) (congrArg vb (by rw [z1Y hz a0 a1 a2, ← hx0, ← hx1, ← hx2, ← hx3, ← hx4, ← hnp, ← hy0, ← hy1, ← hy2, hx]; rfl))
  ·have hn : q1N R = true := by
    unfold q1N
    rw [decide_eq_true a0, decide_eq_true a1, decide_eq_true a2, decide_eq_true hz]
    rfl
   rw [hn]
   refine j0r _ Tryz.func15 rfl rfl Tryz.ntmps15 rfl fun w Z => ?_
   refine zU ?_
   refine wt ?_
   (first | refine j0g rfl rfl ?_ ?_ | refine j0f rfl rfl ?_ ?_) <;> intro hb <;> (try simp only [zA, zB, zG, zC, zD, zN] at hb) <;> (try exact zQ)
   ·refine wt ?_
    (first | refine j0g rfl rfl ?_ ?_ | refine j0f rfl rfl ?_ ?_) <;> intro hb <;> (try simp only [zA, zB, zG, zC, zD, zN] at hb) <;> (try exact zQ)
    ·refine wt ?_
     (refine j0a rfl ?_ ?_ <;> intro hb <;> (try simp only [zA, zB, zG, zC, zD, zN] at hb) <;> (try exact zQ))
     ·refine wt ?_
      simp only [List.append]
      refine j0j (j0d rfl rfl) rfl ?_
      refine wt ?_
      (first | refine j0g rfl rfl ?_ ?_ | refine j0f rfl rfl ?_ ?_) <;> intro hb <;> (try simp only [zA, zB, zG, zC, zD, zN] at hb) <;> (try exact zQ)
      ·refine wt ?_
       exact zV
 ·have hn : q1N R = false := by
   unfold q1N
   rw [Bool.and_eq_false_iff]
   left
   rcases (by omega : 100 < (R.sp 0).length ∨ 100 < (R.sp 1).length ∨ 100 < (R.sp 2).length) with h | h | h
   ·rw [decide_eq_false (p := (R.sp 0).length ≤ 100) (by omega)]; rfl
   ·rw [decide_eq_false (p := (R.sp 1).length ≤ 100) (by omega), Bool.false_and, Bool.and_false]
   ·rw [decide_eq_false (p := (R.sp 2).length ≤ 100) (by omega), Bool.and_false, Bool.and_false]
  rw [hn]
  refine j0r _ Tryz.func15 rfl rfl Tryz.ntmps15 rfl fun w Z => ?_
  refine zU ?_
  refine wt ?_
  (first | refine j0g rfl rfl ?_ ?_ | refine j0f rfl rfl ?_ ?_) <;> intro hb <;> (try simp only [zA, zB, zG, zC, zD, zN] at hb) <;> (try exact zQ)
  ·refine wt ?_
   exact zV
  ·refine wt ?_
   (first | refine j0g rfl rfl ?_ ?_ | refine j0f rfl rfl ?_ ?_) <;> intro hb <;> (try simp only [zA, zB, zG, zC, zD, zN] at hb) <;> (try exact zQ)
   ·refine wt ?_
    exact zV
   ·refine wt ?_
    (refine j0a rfl ?_ ?_ <;> intro hb <;> (try simp only [zA, zB, zG, zC, zD, zN] at hb) <;> (try exact zQ))
    ·refine wt ?_
     exact zV
theorem w0J (R : Syr) : CtrA Tryz.prog 22 [.agg 9 (srA R)] (vb (w0q R)) := by
 have c1 := k1o R
 have hS : ∀ i, i < 9 → (srA R i).one = true := fun i hi => by
  rcases (by omega : i = 0 ∨ i = 1 ∨ i = 2 ∨ i = 3 ∨ i = 4 ∨ i = 5 ∨ i = 6 ∨ i = 7 ∨ i = 8) with rfl | rfl | rfl | rfl | rfl | rfl | rfl | rfl | rfl <;> rfl
 cases hf : q1N R with
 |false =>
  have hv : w0q R = false := by unfold w0q; rw [hf]; rfl
  rw [hv]
  rw [hf] at c1
  refine j0r _ Tryz.func22 rfl rfl Tryz.ntmps22 rfl fun w Z => ?_
  refine zU ?_
  refine wt ?_
  refine j0j (j0d rfl rfl) rfl ?_
  refine wt ?_
  refine q0M (j0t rfl rfl hS rfl rfl) ?_
  refine wt ?_
  refine j0j (j0l (f := srA R) rfl rfl rfl) rfl ?_
  refine wt ?_
  exact zV
 |true =>
  have hlen : (R.sp 0).length ≤ 100 ∧ (R.sp 1).length ≤ 100 ∧ (R.sp 2).length ≤ 100 := by
   unfold q1N at hf
   simp only [Bool.and_eq_true, decide_eq_true_eq] at hf
   exact hf.1
  obtain ⟨a0, a1, a2⟩ := hlen
  have c2 := k0Z R (fun k hk => by
   rcases (by omega : k = 0 ∨ k = 1 ∨ k = 2) with rfl | rfl | rfl <;> omega)
  rw [hf] at c1
  by_cases hz : x0k R = 0
  ·have cp := J1t hz
   rw [show syV (syO R) = .agg 9 (srA R) by rw [W0R hz]] at cp
   rw [hz] at c2
   have hv : w0q R = (j1l (syO R) && (decide ((R.sp 0).length ≤ 4) && (decide ((R.sp 1).length ≤ 3) && decide ((R.sp 2).length ≤ 2)))) := by
    unfold w0q; rw [hf, decide_eq_true hz]; rfl
   rw [hv]
   cases hp : j1l (syO R) with
   |false =>
    rw [hp] at cp
    refine j0r _ Tryz.func22 rfl rfl Tryz.ntmps22 rfl fun w Z => ?_
    refine zU ?_
    refine wt ?_
    refine j0j (j0d rfl rfl) rfl ?_
    refine wt ?_
    refine q0M (j0t rfl rfl hS rfl rfl) ?_
    refine wt ?_
    refine j0j (j0l (f := srA R) rfl rfl rfl) rfl ?_
    refine wt ?_
    refine x0I (j0l (f := srA R) rfl rfl rfl) rfl rfl rfl ?_
    refine wt ?_
    refine x0I (j0l (f := srA R) rfl rfl rfl) rfl rfl rfl ?_
    refine wt ?_
    exact zV
   |true =>
    rw [hp] at cp
    refine j0r _ Tryz.func22 rfl rfl Tryz.ntmps22 rfl fun w Z => ?_
    refine zU ?_
    refine wt ?_
    refine j0j (j0d rfl rfl) rfl ?_
    refine wt ?_
    refine q0M (j0t rfl rfl hS rfl rfl) ?_
    refine wt ?_
    refine j0j (j0l (f := srA R) rfl rfl rfl) rfl ?_
    refine wt ?_
    refine x0I (j0l (f := srA R) rfl rfl rfl) rfl rfl rfl ?_
    refine wt ?_
    refine x0I (j0l (f := srA R) rfl rfl rfl) rfl rfl rfl ?_
    (refine wt ?_; repeat' (((first | refine j0g rfl rfl ?_ ?_ | refine j0f rfl rfl ?_ ?_) <;> intro hb <;> (try simp only [zA, zB, zG, zC, zD, zN] at hb) <;> (try exact zQ)) <;> refine wt ?_))
    all_goals (refine j0c rfl (.tmp rfl) (congrArg vb ?_))
    all_goals (rw [Bool.eq_iff_iff]; simp; try omega)
  ·have hv : w0q R = false := by unfold w0q; rw [decide_eq_false hz]; simp
   rw [hv]
   refine j0r _ Tryz.func22 rfl rfl Tryz.ntmps22 rfl fun w Z => ?_
   refine zU ?_
   refine wt ?_
   refine j0j (j0d rfl rfl) rfl ?_
   refine wt ?_
   refine q0M (j0t rfl rfl hS rfl rfl) ?_
   refine wt ?_
   refine j0j (j0l (f := srA R) rfl rfl rfl) rfl ?_
   refine wt ?_
   refine x0I (j0l (f := srA R) rfl rfl rfl) rfl rfl rfl ?_
   refine wt ?_
   (first | refine j0g rfl rfl ?_ ?_ | refine j0f rfl rfl ?_ ?_) <;> intro hb <;> (try simp only [zA, zB, zG, zC, zD, zN] at hb) <;> (try exact zQ)
   ·refine wt ?_
    exact zV
theorem Z0V (t : Nat → Rat) : CtrR Tryz.prog 25 [t6 t] 33 1 6 (fun i _ => vR (t i)) [] := by
 have hc := Z0Z t
 refine K0J _ Tryz.func25 rfl rfl Tryz.ntmps25 rfl fun w Z => ?_
 refine zU ?_
 refine wt ?_
 refine q0n (w0l (n := 3) (m := 6) rfl zE zE zE) rfl ?_
 refine wt ?_
 refine wt ?_
 refine q0n (w0l (n := 3) (m := 3) rfl zE zE zE) rfl ?_
 refine wt ?_
 refine q0n (w0h (is := [0, 1]) (xs := [_, _]) (τs := [.sl 3 1 _, .sl 3 1 _]) (row := tw3 t) rfl rfl (X1b t (fun i hi _ _ => by rcases (by omega : i = 0 ∨ i = 1 ∨ i = 2) with rfl | rfl | rfl <;> rfl) (fun i hi _ _ => by rcases (by omega : i = 0 ∨ i = 1 ∨ i = 2) with rfl | rfl | rfl <;> rfl)) rfl) rfl ?_
 refine wt ?_
 refine x0l (w0Y 20 hc rfl) rfl rfl ?_
 refine wt ?_
 refine wt ?_
 exact x0J rfl rfl rfl rfl (fun _ _ _ _ => rfl)
def eqR (f g : Nat → Rat) (n : Nat) : Bool := (List.range n).all fun i => decide (f i = g i)
theorem j1T (f g : Nat → Rat) (n : Nat) (hn : n ≤ 1000) : CtrA Tryz.prog 24 [.sl n 1 (fun i _ => vR (f i)), .sl n 1 (fun i _ => vR (g i))] (vb (eqR f g n)) := by
 refine j0r _ Tryz.func24 rfl rfl Tryz.ntmps24 rfl fun w Z => ?_
 refine zU ?_
 refine wt ?_
 rw [show (((n : Nat) : Int) != ((n : Nat) : Int)) = false from bne_self_eq_false _]
 refine wt ?_
 ·refine j0h (γ := Nat) (fun i => [(0, .av (.sl n 1 (fun i _ => vR (f i)))), (1, .av (.sl n 1 (fun i _ => vR (g i)))), (12, .av (vi n)), (13, .av (vi i))]) (fun _ => []) (fun i => i ≤ n ∧ ∀ j, j < i → f j = g j) (fun i => n - i) 0 ⟨by omega, fun j hj => absurd hj zO⟩ (ent zS trivial) ?_
  rintro i ⟨hi, hJ⟩
  refine wt ?_
  (refine j0a rfl ?_ ?_ <;> intro hb <;> (try simp only [zA, zB, zG, zC, zD, zN] at hb) <;> (try exact zQ))
  ·have hil : i < n := by omega
   refine wt ?_
   by_cases he : f i = g i
   ·rw [show (rtx (f i) == rtx (g i)) = true by rw [he]; exact beq_self_eq_true _]
    refine wt ?_
    exact j0b (i + 1) ⟨by omega, fun j hj => by
     by_cases e : j = i
     ·subst e; exact he
     ·exact hJ j zO⟩ zO (ent zS trivial)
   ·rw [show (rtx (f i) == rtx (g i)) = false from beq_eq_false_iff_ne.2 fun e => he (Go.Na.rtx_inj e)]
    refine wt ?_
    exact j0c rfl (.tmp rfl) (congrArg vb (by unfold eqR; symm; rw [List.all_eq_false]; exact ⟨i, List.mem_range.2 hil, by simpa using he⟩))
  ·obtain rfl : i = n := by omega
   refine wt ?_
   exact j0c rfl (.tmp rfl) (congrArg vb (by unfold eqR; symm; rw [List.all_eq_true]; intro j hj; exact decide_eq_true (hJ j (List.mem_range.1 hj))))
theorem V0h {L : List Tor} {a : Nat} (h : a < L.length) : gO L a ∈ L := by rw [J0Y h]; exact List.getElem_mem h
theorem q1t {S : Sys} {i : Nat} (h0 : 0 < i) (h : i < (j0M S).length) : eqR (gO (j0M S) (i - 1)).n (gO (j0M S) i).n 6 = false := by
 cases e : eqR (gO (j0M S) (i - 1)).n (gO (j0M S) i).n 6 with
 |false => rfl
 |true =>
  exfalso
  unfold eqR at e
  rw [List.all_eq_true] at e
  have he := q1I (x := gO (j0M S) (i - 1)) (y := gO (j0M S) i) (fun j hj => of_decide_eq_true (e j (List.mem_range.2 hj)))
  have ha : j1I (j0M S) := (w0t _).1
  have := List.pairwise_iff_getElem.1 ha (i - 1) i zO h zO
  rw [J0Y (by omega), J0Y h] at he
  exact X0A this he
theorem proves_c (R : Syr) (hw : CtrA Tryz.prog 16 [] (vb true)) : CtrA Tryz.prog 5 [.agg 9 (srA R)] (vb true) := by
 have hr := w0J R
 cases e : w0q R with
 |false =>
  rw [e] at hr
  refine j0r _ Tryz.func5 rfl rfl Tryz.ntmps5 rfl fun w Z => ?_
  refine zU ?_
  refine wt ?_
  refine j0j (j0d rfl rfl) rfl ?_
  refine wt ?_
  exact zV
 |true =>
  rw [e] at hr
  have h := z0b e
  have hs := W0R h.chk
  rw [hs] at hr ⊢
  have hc := w0P h
  have hlen := y0u h.ok
  obtain ⟨x, hx⟩ := K0D h.ok.pr (h.ok.rt 0) h.str h.tw
  have hpos : 0 < (j0M (syO R)).length := List.length_pos_of_mem hx
  refine j0r _ Tryz.func5 rfl rfl Tryz.ntmps5 rfl fun w Z => ?_
  refine zU ?_
  refine wt ?_
  refine j0j (j0d rfl rfl) rfl ?_
  refine wt ?_
  refine j0j (j0d rfl rfl) rfl ?_
  refine wt ?_
  (refine j0a rfl ?_ ?_ <;> intro hb <;> (try simp only [zA, zB, zG, zC, zD, zN] at hb) <;> (try exact zQ))
  ·refine wt ?_
   refine j0h (γ := Nat) (fun i => [(1, .av (.ptr 9 (syA (syO R)))), (3, .av (Y0E (syO R))), (23, .av (Y0E (syO R))), (24, .av (vi (j0M (syO R)).length)), (25, .av (vi i))]) (fun _ => []) (fun i => i ≤ (j0M (syO R)).length) (fun i => (j0M (syO R)).length - i) 0 zO (ent zS trivial) ?_
   intro i hi
   refine wt ?_
   (refine j0a rfl ?_ ?_ <;> intro hb <;> (try simp only [zA, zB, zG, zC, zD, zN] at hb) <;> (try exact zQ))
   ·have hil : i < (j0M (syO R)).length := by omega
    have hv := K0x h (V0h hil)
    refine wt ?_
    refine j0j (j0d rfl rfl) rfl ?_
    refine wt ?_
    refine q0M (j0t rfl rfl (v0G _ _) rfl rfl) ?_
    refine wt ?_
    refine j0j (j0d rfl rfl) rfl ?_
    refine wt ?_
    refine j0j (j0l (f := plA (syO R) (gO (j0M (syO R)) i).n) rfl rfl rfl) rfl ?_
    refine wt ?_
    have e0 : ((i : Int) - 1).toNat = i - 1 := by omega
    have c1 := Z0V (gO (j0M (syO R)) (i - 1)).n
    have c2 := Z0V (gO (j0M (syO R)) i).n
    have c3 := j1T (gO (j0M (syO R)) (i - 1)).n (gO (j0M (syO R)) i).n 6 zE
    (first | refine j0g rfl rfl ?_ ?_ | refine j0f rfl rfl ?_ ?_) <;> intro hb <;> (try simp only [zA, zB, zG, zC, zD, zN] at hb) <;> (try exact zQ)
    ·have h0 : 0 < i := by omega
     rw [q1t h0 hil] at c3
     refine wt ?_
     rw [e0]
     refine y0G (j0k (us := t6L (gO (j0M (syO R)) (i - 1)).n) rfl rfl rfl rfl) rfl rfl rfl rfl ?_
     refine j1j (w0Y 20 c1 rfl) rfl rfl rfl rfl ?_
     refine wt ?_
     refine y0G (j0i (us := t6L (gO (j0M (syO R)) i).n) rfl rfl rfl rfl) rfl rfl rfl rfl ?_
     refine j1j (w0Y 21 c2 rfl) rfl rfl rfl rfl ?_
     refine wt ?_
     exact j0b (i + 1) zO zO (ent zS trivial)
    ·refine wt ?_
     exact j0b (i + 1) zO zO (ent zS trivial)
   ·refine wt ?_
    exact zV
end Go.Proofs.YtfggdokihnopeaaGreatDoor.H
namespace Go.Proofs.YtfggdokihnopeaaGreatDoor.H
open Go Go.Vc Go.Na
theorem rt0 : rtx 0 = [48] := by
 unfold rtx
 rw [if_pos (by decide +kernel)]
 show Lib.itoa 0 = _
 rw [j0G (by decide)]
 show Lib.decDigits 0 = _
 rw [Lib.decDigits]; rfl
theorem d1 : Lib.decDigits 1 = [49] := by rw [Lib.decDigits]; rfl
theorem d2 : Lib.decDigits 2 = [50] := by rw [Lib.decDigits]; rfl
end Go.Proofs.YtfggdokihnopeaaGreatDoor.H
namespace Go.Proofs.YtfggdokihnopeaaGreatDoor.H
open Go Go.Vc Go.RowKit
open Go.Na (rtx LR j0u q0T rsg)
set_option maxHeartbeats 4000000
theorem q1O {R : Syr} (h : RtS R) (hpos : 0 < (j0M (syO R)).length) : CtrA Tryz.prog 18 [syV (syO R)] (j0B [plV (syO R) (gO (j0M (syO R)) 0).n, vb (decide (1 < ((j0M (syO R)).length : Int))), vi 0]) := by
 have c := w0P h
 have hlen := y0u h.ok
 refine j0r _ Tryz.func18 rfl rfl Tryz.ntmps18 rfl fun w Z => ?_
 refine zU ?_
 refine wt ?_
 refine j0j (j0d rfl rfl) rfl ?_
 refine wt ?_
 (refine j0a rfl ?_ ?_ <;> intro hb <;> (try simp only [zA, zB, zG, zC, zD, zN] at hb) <;> (try exact zQ))
 ·refine wt ?_
  refine j0j (j0d rfl rfl) rfl ?_
  refine wt ?_
  refine q0M (j0t rfl rfl (v0G _ _) rfl rfl) ?_
  refine wt ?_
  exact j0v (rvs := [_, _, _]) (τs := [_, _, _]) rfl rfl ⟨.aggv (f := plA (syO R) (gO (j0M (syO R)) 0).n) rfl rfl rfl, .tmp rfl, .tmp rfl, trivial⟩ rfl
def RB (a : Int) : Syr := ⟨fun k => match k with | 0 => 2 | 1 => 1 | _ => 0, fun _ => 0, fun k => match k with | 0 => [⟨0, 0, 1⟩, ⟨100, 0, 1⟩, ⟨0, 100, 1⟩] | 1 => [⟨0, -2, 0⟩, ⟨100, a - 2, 0⟩] | _ => [⟨3, 0, 0⟩]⟩
theorem rb0 : RtS (RB 0) := V1E (by decide +kernel) (by decide) (by decide) (by decide) (fun k hk => by rcases (by omega : k = 0 ∨ k = 1 ∨ k = 2) with rfl | rfl | rfl <;> decide +kernel) (by decide +kernel)
theorem rb1 : RtS (RB 1) := V1E (by decide +kernel) (by decide) (by decide) (by decide) (fun k hk => by rcases (by omega : k = 0 ∨ k = 1 ∨ k = 2) with rfl | rfl | rfl <;> decide +kernel) (by decide +kernel)
def w0T : Tor := ⟨-3, 2, -1, 0, 0, 0⟩
theorem J1u : j0M (syO (RB 0)) = [w0T] := by decide +kernel
theorem V1B : (j0M (syO (RB 1))).length = 1 := by decide +kernel
theorem k1G : (gO (j0M (syO (RB 1))) 0).b = 2 := by decide +kernel
theorem k1H : (gO (j0M (syO (RB 1))) 0).f = -Rat.divInt 1 100 := by decide +kernel
theorem k1D : onS (syO (RB 0)) w0T.n 0 = [0, 1, 2] := by decide +kernel
theorem k1E : onS (syO (RB 0)) w0T.n 1 = [0, 1] := by decide +kernel
theorem k1F : onS (syO (RB 0)) w0T.n 2 = [0] := by decide +kernel
theorem k1O : Tryz.prog.built 43 [(2, .int .i64 1)] = some #[.int .i64 0, .int .i64 0, .int .i64 1] := by kernel_rfl
theorem k1P : Tryz.prog.built 43 [(0, .int .i64 100), (2, .int .i64 1)] = some #[.int .i64 100, .int .i64 0, .int .i64 1] := by kernel_rfl
theorem k1Q : Tryz.prog.built 43 [(1, .int .i64 100), (2, .int .i64 1)] = some #[.int .i64 0, .int .i64 100, .int .i64 1] := by kernel_rfl
theorem k1R : Tryz.prog.built 43 [(1, .int .i64 (-2))] = some #[.int .i64 0, .int .i64 (-2), .int .i64 0] := by kernel_rfl
theorem z1i (a : Int) : Tryz.prog.built 43 [(0, .int .i64 100), (1, .int .i64 a)] = some #[.int .i64 100, .int .i64 a, .int .i64 0] := by kernel_rfl
theorem k1S : Tryz.prog.built 43 [(0, .int .i64 3)] = some #[.int .i64 3, .int .i64 0, .int .i64 0] := by kernel_rfl
theorem Z1k (a b : Tr) (w : World) : (Instr.buildSlice 23 2 #[(0, .agg #[.int .i64 a.x, .int .i64 a.y, .int .i64 a.z]), (1, .agg #[.int .i64 b.x, .int .i64 b.y, .int .i64 b.z])]).run Tryz.prog w = .ok (.slice (some ⟨w.heap.size, 0, none⟩) 2 2) (w.alloc (.cells #[.int .i64 a.x, .int .i64 a.y, .int .i64 a.z, .int .i64 b.x, .int .i64 b.y, .int .i64 b.z] 43)) := by kernel_rfl
theorem W1v (a b : Tr) : ∀ i, i < 2 → ∀ j, j < 3 → ∃ u, ([.int .i64 a.x, .int .i64 a.y, .int .i64 a.z, .int .i64 b.x, .int .i64 b.y, .int .i64 b.z] : List Value)[i * 3 + j]? = some u ∧ tf [a, b] i j = .val u := fun i hi j hj => by
 rcases (by omega : i = 0 ∨ i = 1) with rfl | rfl <;> rcases (by omega : j = 0 ∨ j = 1 ∨ j = 2) with rfl | rfl | rfl <;> exact ⟨_, rfl, rfl⟩
theorem K1W (p q r : Option Addr) (a b c d e f : Nat) : Tryz.prog.built 24 [(0, .slice p a b), (1, .slice q c d), (2, .slice r e f)] = some #[.slice p a b, .slice q c d, .slice r e f] := by kernel_rfl
theorem K1X (p q r : Option Addr) (a b c d e f : Nat) : Tryz.prog.built 26 [(0, .agg #[.int .i64 2, .int .i64 1, .int .i64 0]), (2, .agg #[.slice p a b, .slice q c d, .slice r e f])] = some #[.int .i64 2, .int .i64 1, .int .i64 0, .int .i64 0, .int .i64 0, .int .i64 0, .slice p a b, .slice q c d, .slice r e f] := by kernel_rfl
theorem K1F (l m n : List Tr) : ∀ (Z : j0s) (w : World) (vs : List Value), All2 (fun τ v => AV.ok Z w τ v) [ts l, ts m, ts n] vs → ∃ cs : List Value, Tryz.prog.built 24 ([0, 1, 2].zip vs) = some cs.toArray ∧ cs.length = 3 ∧ ∀ i, i < 3 → ∃ u, cs[i]? = some u ∧ ((fun k : Nat => match k with | 0 => ts l | 1 => ts m | _ => ts n) i).ok Z w u := fun Z w vs h => by
 match vs, h with
 |[u, v, x], ⟨hu, hv, hx, _⟩ =>
  obtain ⟨_, _, e1, _⟩ := id hu
  obtain ⟨_, _, e2, _⟩ := id hv
  obtain ⟨_, _, e3, _⟩ := id hx
  refine ⟨[u, v, x], by subst e1 e2 e3; exact K1W _ _ _ _ _ _ _ _ _, rfl, fun i hi => ?_⟩
  rcases (by omega : i = 0 ∨ i = 1 ∨ i = 2) with rfl | rfl | rfl
  ·exact ⟨u, rfl, hu⟩
  ·exact ⟨v, rfl, hv⟩
  ·exact ⟨x, rfl, hx⟩
theorem K1G (a : Int) : ∀ (Z : j0s) (w : World) (vs : List Value), All2 (fun τ v => AV.ok Z w τ v) [.val (.agg #[.int .i64 2, .int .i64 1, .int .i64 0]), .agg 3 (fun k : Nat => match k with | 0 => ts ((RB a).sp 0) | 1 => ts ((RB a).sp 1) | _ => ts ((RB a).sp 2))] vs → ∃ cs : List Value, Tryz.prog.built 26 ([0, 2].zip vs) = some cs.toArray ∧ cs.length = 9 ∧ ∀ i, i < 9 → ∃ u, cs[i]? = some u ∧ (srA (RB a) i).ok Z w u := fun Z w vs h => by
 match vs, h with
 |[_, _], ⟨rfl, ⟨ds, rfl, hl, hd⟩, _⟩ =>
  match ds, hl with
  |[u, v, x], _ =>
   obtain ⟨_, q1, hu⟩ := hd 0 zE
   obtain ⟨_, q2, hv⟩ := hd 1 zE
   obtain ⟨_, q3, hx⟩ := hd 2 zE
   cases q1; cases q2; cases q3
   obtain ⟨_, _, e1, _⟩ := id hu
   obtain ⟨_, _, e2, _⟩ := id hv
   obtain ⟨_, _, e3, _⟩ := id hx
   refine ⟨[.int .i64 2, .int .i64 1, .int .i64 0, .int .i64 0, .int .i64 0, .int .i64 0, u, v, x], by subst e1 e2 e3; exact K1X _ _ _ _ _ _ _ _ _, rfl, fun i hi => ?_⟩
   rcases (by omega : i = 0 ∨ i = 1 ∨ i = 2 ∨ i = 3 ∨ i = 4 ∨ i = 5 ∨ i = 6 ∨ i = 7 ∨ i = 8) with rfl | rfl | rfl | rfl | rfl | rfl | rfl | rfl | rfl
   ·exact ⟨_, rfl, rfl⟩
   ·exact ⟨_, rfl, rfl⟩
   ·exact ⟨_, rfl, rfl⟩
   ·exact ⟨_, rfl, rfl⟩
   ·exact ⟨_, rfl, rfl⟩
   ·exact ⟨_, rfl, rfl⟩
   ·exact ⟨u, rfl, hu⟩
   ·exact ⟨v, rfl, hv⟩
   ·exact ⟨x, rfl, hx⟩
theorem V1Q (R : Syr) : ∀ i, i < 9 → (srA R i).one = true := fun i hi => by
 rcases (by omega : i = 0 ∨ i = 1 ∨ i = 2 ∨ i = 3 ∨ i = 4 ∨ i = 5 ∨ i = 6 ∨ i = 7 ∨ i = 8) with rfl | rfl | rfl | rfl | rfl | rfl | rfl | rfl | rfl <;> rfl
theorem q1d (a : Int) (ha : -1000000 ≤ a ∧ a ≤ 1000000) : CtrA Tryz.prog 47 [vi a] (.agg 9 (srA (RB a))) := by
 refine j0r _ Tryz.func47 rfl rfl Tryz.ntmps47 rfl fun w Z => ?_
 refine zU ?_
 refine wt ?_
 refine j0j (j0n (t := 43) (is := [2]) (xs := [_]) (vs := [_]) k1O rfl rfl) rfl ?_
 refine wt ?_
 refine j0j (j0n (t := 43) (is := [0, 2]) (xs := [_, _]) (vs := [_, _]) k1P rfl rfl) rfl ?_
 refine wt ?_
 refine j0j (j0n (t := 43) (is := [1, 2]) (xs := [_, _]) (vs := [_, _]) k1Q rfl rfl) rfl ?_
 refine wt ?_
 refine j0j (j0E (row := tf [⟨0, 0, 1⟩, ⟨100, 0, 1⟩, ⟨0, 100, 1⟩]) (is := [0, 1, 2]) (xs := [_, _, _]) (vs := [_, _, _]) (us := [_, _, _, _, _, _, _, _, _]) (J1R ⟨0, 0, 1⟩ ⟨100, 0, 1⟩ ⟨0, 100, 1⟩) rfl rfl rfl (x1i ⟨0, 0, 1⟩ ⟨100, 0, 1⟩ ⟨0, 100, 1⟩)) rfl ?_
 refine wt ?_
 refine j0j (j0n (t := 43) (is := [1]) (xs := [_]) (vs := [_]) k1R rfl rfl) rfl ?_
 refine wt ?_
 refine j0j (j0n (t := 43) (is := [0, 1]) (xs := [_, _]) (vs := [_, _]) (z1i (a - 2)) rfl rfl) rfl ?_
 refine wt ?_
 refine j0j (j0E (row := tf [⟨0, -2, 0⟩, ⟨100, a - 2, 0⟩]) (is := [0, 1]) (xs := [_, _]) (vs := [_, _]) (us := [_, _, _, _, _, _]) (Z1k ⟨0, -2, 0⟩ ⟨100, a - 2, 0⟩) rfl rfl rfl (W1v ⟨0, -2, 0⟩ ⟨100, a - 2, 0⟩)) rfl ?_
 refine wt ?_
 refine j0j (j0n (t := 43) (is := [0]) (xs := [_]) (vs := [_]) k1S rfl rfl) rfl ?_
 refine wt ?_
 refine j0j (j0E (is := [0]) (xs := [_]) (vs := [_]) (us := [.int .i64 3, .int .i64 0, .int .i64 0]) (row := tf [⟨3, 0, 0⟩]) (K0u ⟨3, 0, 0⟩) rfl rfl rfl (w0v ⟨3, 0, 0⟩)) rfl ?_
 refine wt ?_
 refine j0j (w0V (t := 24) (is := [0, 1, 2]) (xs := [_, _, _]) (τs := [ts ((RB a).sp 0), ts ((RB a).sp 1), ts ((RB a).sp 2)]) rfl rfl (K1F _ _ _)) rfl ?_
 refine wt ?_
 refine j0j (w0V (t := 26) (is := [0, 2]) (xs := [_, _]) (τs := [.val (.agg #[.int .i64 2, .int .i64 1, .int .i64 0]), .agg 3 _]) rfl rfl (K1G a)) rfl ?_
 refine wt ?_
 refine q0M (j0t rfl rfl (V1Q (RB a)) rfl rfl) ?_
 refine wt ?_
 exact j0c rfl (.aggv (f := srA (RB a)) rfl rfl rfl) rfl
end Go.Proofs.YtfggdokihnopeaaGreatDoor.H
namespace Go.Proofs.YtfggdokihnopeaaGreatDoor.H
open Go Go.Vc Go.RowKit
open Go.Na (rtx LR j0u q0T rsg itoa_neg j0G)
set_option maxHeartbeats 4000000
theorem d3 : Lib.decDigits 3 = [51] := by rw [Lib.decDigits]; rfl
theorem d100 : Lib.decDigits 100 = [49, 48, 48] := by
 rw [Lib.decDigits, Lib.decDigits, Lib.decDigits]; rfl
theorem K1R : rtx (-3) = [45, 51] := by
 unfold rtx
 rw [if_pos (by decide +kernel)]
 show Lib.itoa (-3) = _
 rw [itoa_neg (by decide)]
 show 45 :: Lib.decDigits 3 = _
 rw [d3]
theorem K1Q : rtx (-1) = [45, 49] := by
 unfold rtx
 rw [if_pos (by decide +kernel)]
 show Lib.itoa (-1) = _
 rw [itoa_neg (by decide)]
 show 45 :: Lib.decDigits 1 = _
 rw [d1]
theorem Y1I : rtx 2 = [50] := by
 unfold rtx
 rw [if_pos (by decide +kernel)]
 show Lib.itoa 2 = _
 rw [j0G (by decide)]
 show Lib.decDigits 2 = _
 rw [d2]
theorem Y1H : rtx (-Rat.divInt 1 100) = [45, 49, 47, 49, 48, 48] := by
 unfold rtx
 rw [if_neg (by decide +kernel)]
 have e1 : (-(Rat.divInt 1 100)).num = -1 := by decide +kernel
 have e2 : (-(Rat.divInt 1 100)).den = 100 := by decide +kernel
 rw [e1, e2, itoa_neg (by decide)]
 show (45 :: Lib.decDigits 1) ++ 47 :: Lib.decDigits 100 = _
 rw [d1, d100]; rfl
theorem Z1m (a b c : Int) (w : World) : (Instr.buildSlice 37 3 #[(0, .int .i64 a), (1, .int .i64 b), (2, .int .i64 c)]).run Tryz.prog w = .ok (.slice (some ⟨w.heap.size, 0, none⟩) 3 3) (w.alloc (.cells #[.int .i64 a, .int .i64 b, .int .i64 c] 3)) := by kernel_rfl
theorem K1Y (p q r : Option Addr) (a b c d e f : Nat) : Tryz.prog.built 38 [(0, .slice p a b), (1, .slice q c d), (2, .slice r e f)] = some #[.slice p a b, .slice q c d, .slice r e f] := by kernel_rfl
theorem k1N (A B C D E F : ByteArray) (p q r : Option Addr) (a b c d e f : Nat) : Tryz.prog.built 40 [(0, .agg #[.string A, .string B, .string C, .string D, .string E, .string F]), (1, .agg #[.slice p a b, .slice q c d, .slice r e f])] = some #[.string A, .string B, .string C, .string D, .string E, .string F, .slice p a b, .slice q c d, .slice r e f] := by kernel_rfl
theorem K1H (l m n : List Nat) : ∀ (Z : j0s) (w : World) (vs : List Value), All2 (fun τ v => AV.ok Z w τ v) [idx l, idx m, idx n] vs → ∃ cs : List Value, Tryz.prog.built 38 ([0, 1, 2].zip vs) = some cs.toArray ∧ cs.length = 3 ∧ ∀ i, i < 3 → ∃ u, cs[i]? = some u ∧ ((fun k : Nat => match k with | 0 => idx l | 1 => idx m | _ => idx n) i).ok Z w u := fun Z w vs h => by
 match vs, h with
 |[u, v, x], ⟨hu, hv, hx, _⟩ =>
  obtain ⟨_, _, e1, _⟩ := id hu
  obtain ⟨_, _, e2, _⟩ := id hv
  obtain ⟨_, _, e3, _⟩ := id hx
  refine ⟨[u, v, x], by subst e1 e2 e3; exact K1Y _ _ _ _ _ _ _ _ _, rfl, fun i hi => ?_⟩
  rcases (by omega : i = 0 ∨ i = 1 ∨ i = 2) with rfl | rfl | rfl
  ·exact ⟨u, rfl, hu⟩
  ·exact ⟨v, rfl, hv⟩
  ·exact ⟨x, rfl, hx⟩
theorem K1I (S : Sys) (t : Nat → Rat) : ∀ (Z : j0s) (w : World) (vs : List Value), All2 (fun τ v => AV.ok Z w τ v) [.val (.agg (t6L t).toArray), .agg 3 (fun k : Nat => match k with | 0 => idx (onS S t 0) | 1 => idx (onS S t 1) | _ => idx (onS S t 2))] vs → ∃ cs : List Value, Tryz.prog.built 40 ([0, 1].zip vs) = some cs.toArray ∧ cs.length = 9 ∧ ∀ i, i < 9 → ∃ u, cs[i]? = some u ∧ (plA S t i).ok Z w u := fun Z w vs h => by
 match vs, h with
 |[_, _], ⟨rfl, ⟨ds, rfl, hl, hd⟩, _⟩ =>
  match ds, hl with
  |[u, v, x], _ =>
   obtain ⟨_, q1, hu⟩ := hd 0 zE
   obtain ⟨_, q2, hv⟩ := hd 1 zE
   obtain ⟨_, q3, hx⟩ := hd 2 zE
   cases q1; cases q2; cases q3
   obtain ⟨_, _, e1, _⟩ := id hu
   obtain ⟨_, _, e2, _⟩ := id hv
   obtain ⟨_, _, e3, _⟩ := id hx
   refine ⟨t6L t ++ [u, v, x], by subst e1 e2 e3; exact k1N _ _ _ _ _ _ _ _ _ _ _ _ _ _ _, rfl, fun i hi => ?_⟩
   rcases (by omega : i = 0 ∨ i = 1 ∨ i = 2 ∨ i = 3 ∨ i = 4 ∨ i = 5 ∨ i = 6 ∨ i = 7 ∨ i = 8) with rfl | rfl | rfl | rfl | rfl | rfl | rfl | rfl | rfl
   ·exact ⟨_, rfl, rfl⟩
   ·exact ⟨_, rfl, rfl⟩
   ·exact ⟨_, rfl, rfl⟩
   ·exact ⟨_, rfl, rfl⟩
   ·exact ⟨_, rfl, rfl⟩
   ·exact ⟨_, rfl, rfl⟩
   ·exact ⟨u, rfl, hu⟩
   ·exact ⟨v, rfl, hv⟩
   ·exact ⟨x, rfl, hx⟩
theorem K1c : t6L w0T.n = [.string ⟨#[45, 51]⟩, .string ⟨#[50]⟩, .string ⟨#[45, 49]⟩, .string ⟨#[48]⟩, .string ⟨#[48]⟩, .string ⟨#[48]⟩] := by
 show [sv (rtx (-3)), sv (rtx 2), sv (rtx (-1)), sv (rtx 0), sv (rtx 0), sv (rtx 0)] = _
 rw [K1R, Y1I, K1Q, rt0]
theorem J1e (l : List Nat) (n : Nat) (h : l.length = n) (us : List Value) (hu : us = l.map fun i => Value.int .i64 (i : Nat)) : ∀ i, i < n → ∀ j, j < 1 → ∃ u, us[i * 1 + j]? = some u ∧ xf l i j = .val u := fun i hi j hj => by
 obtain rfl : j = 0 := by omega
 subst h
 refine ⟨.int .i64 ((gi l i : Nat) : Int), ?_, rfl⟩
 rw [hu]
 simp [gi, List.getD, hi]
theorem awake_c : CtrA Tryz.prog 16 [] (vb true) := by
 have b0 := q1d 0 zE
 have b1 := q1d 1 zE
 rw [W0R rb0.chk] at b0
 rw [W0R rb1.chk] at b1
 have hm : w0T ∈ j0M (syO (RB 0)) := by rw [J1u]; exact List.mem_cons_self
 have f0 := q1O rb0 (List.length_pos_of_mem hm)
 rw [J1u] at f0
 rw [show gO [w0T] 0 = w0T from rfl, show decide ((1 : Int) < (([w0T] : List Tor).length : Int)) = false from rfl] at f0
 have c1 := w0P rb1
 have hlen := y0u rb1.ok
 have hl1 := V1B
 have hs := w1r (syO (RB 0)) w0T.n (z0P rb0.chk)
 have hv := K0x rb0 hm
 have h5 : rtx ((gO (j0M (syO (RB 1))) (Int.toNat 0)).n 5) = [45, 49, 47, 49, 48, 48] := by
  rw [show (gO (j0M (syO (RB 1))) (Int.toNat 0)).n 5 = -Rat.divInt 1 100 from k1H]
  exact Y1H
 have h1 : rtx ((gO (j0M (syO (RB 1))) (Int.toNat 0)).n 1) = [50] := by
  rw [show (gO (j0M (syO (RB 1))) (Int.toNat 0)).n 1 = 2 from k1G]
  exact Y1I
 refine j0r _ Tryz.func16 rfl rfl Tryz.ntmps16 rfl fun w Z => ?_
 refine zU ?_
 refine wt ?_
 refine q0M (j0t rfl rfl (v0G _ _) rfl rfl) ?_
 refine wt ?_
 rw [hl1]
 refine wt ?_
 refine j0j (j0n (t := 34) (is := [0, 1, 2]) (xs := [_, _, _]) (vs := [_, _, _]) (w1V _ _ _) rfl rfl) rfl ?_
 refine wt ?_
 refine j0j (j0n (t := 34) (is := [0, 1, 2]) (xs := [_, _, _]) (vs := [_, _, _]) (w1V _ _ _) rfl rfl) rfl ?_
 refine wt ?_
 refine j0j (j0n (t := 36) (is := [0, 1]) (xs := [_, _]) (vs := [_, _]) (Z1c _ _ _ _ _ _) rfl rfl) rfl ?_
 refine wt ?_
 refine j0j (j0E (is := [0, 1, 2]) (xs := [_, _, _]) (vs := [_, _, _]) (us := [.int .i64 0, .int .i64 1, .int .i64 2]) (row := xf [0, 1, 2]) (Z1m _ _ _) rfl rfl rfl (J1e [0, 1, 2] 3 rfl _ rfl)) rfl ?_
 refine wt ?_
 refine j0j (j0E (is := [0, 1]) (xs := [_, _]) (vs := [_, _]) (us := [.int .i64 0, .int .i64 1]) (row := xf [0, 1]) (J1S _ _) rfl rfl rfl (J1e [0, 1] 2 rfl _ rfl)) rfl ?_
 refine wt ?_
 refine j0j (w0V (t := 38) (is := [0, 1, 2]) (xs := [_, _, _]) (τs := [idx [0, 1, 2], idx [0, 1], idx [0]]) rfl rfl (K1H _ _ _)) rfl ?_
 refine wt ?_
 have h40 := K1I (syO (RB 0)) w0T.n
 rw [k1D, k1E, k1F, K1c] at h40
 refine j0j (w0V (t := 40) (is := [0, 1]) (xs := [_, _]) (τs := [.val _, .agg 3 _]) rfl rfl h40) rfl ?_
 refine wt ?_
 refine q0M (j0t rfl rfl (v0G _ _) rfl rfl) ?_
 refine wt ?_
 refine q0n (j0l (f := plA (syO (RB 0)) w0T.n) rfl rfl rfl) rfl ?_
 refine wt ?_
 refine q0n (j0l (f := plA (syO (RB 0)) w0T.n) rfl rfl rfl) rfl ?_
 refine wt ?_
 rw [show (rtx ((gO (j0M (syO (RB 1))) (Int.toNat 0)).n 5) == [45, 49, 47, 49, 48, 48]) = true from beq_iff_eq.2 h5]
 refine wt ?_
 rw [show (rtx ((gO (j0M (syO (RB 1))) (Int.toNat 0)).n 1) == [50]) = true from beq_iff_eq.2 h1]
 refine wt ?_
 refine y0G (j0l (f := plA (syO (RB 0)) w0T.n) rfl rfl rfl) rfl rfl rfl rfl ?_
 refine wt ?_
 exact zV
end Go.Proofs.YtfggdokihnopeaaGreatDoor.H
namespace Go.Proofs.YtfggdokihnopeaaGreatDoor.H
open Go Go.Vc Go.RowKit
open Go.Na (rtx LR j0u q0T rsg)
set_option maxHeartbeats 4000000
def ixE (s u : List Nat) : Bool := eqB (fun i => ((gi s i : Nat) : Int)) s.length (fun i => ((gi u i : Nat) : Int)) u.length
theorem z0m {s u : List Nat} : ixE s u = true ↔ s = u := by
 unfold ixE eqB
 rw [Bool.and_eq_true, decide_eq_true_eq, List.all_eq_true]
 constructor
 ·rintro ⟨h1, h2⟩
  refine List.ext_getElem h1 fun i hi hi' => ?_
  have := of_decide_eq_true (h2 i (List.mem_range.2 hi))
  dsimp only at this
  rw [y0P hi, y0P hi'] at this
  omega
 ·rintro rfl
  exact ⟨rfl, fun i _ => decide_eq_true rfl⟩
theorem Z0e (s u : List Nat) (hs : s.length ≤ 1000) : CtrA Tryz.prog 29 [idx s, idx u] (vb (ixE s u)) := q1J (fun i => ((gi s i : Nat) : Int)) (fun i => ((gi u i : Nat) : Int)) s.length u.length (by omega)
theorem k0O (g : Nat → Bool) (n : Nat) : decide (0 ≤ ixB g n) = (List.range n).any g := by
 rw [Bool.eq_iff_iff, decide_eq_true_eq, List.any_eq_true]
 unfold ixB
 split
 ·rename_i k hf
  exact ⟨fun _ => ⟨k, List.mem_of_find?_eq_some hf, List.find?_some hf⟩, fun _ => by omega⟩
 ·rename_i hf
  rw [List.find?_eq_none] at hf
  exact ⟨fun h => by omega, fun ⟨i, hi, h⟩ => absurd h (hf i hi)⟩
theorem J0q {p : Nat → Bool} {i : Nat} (hall : ∀ j, j < i → p j = false) (h : p i = false) : ∀ j, j < i + 1 → p j = false := fun j hj => by
 by_cases e : j = i
 ·subst e; exact h
 ·exact hall j zO
theorem X0r (S : Sys) (L : List Tor) (f n : Nat) (cf : Nat → AV) (g : Nat → Bool) (hn : L.length ≤ 20000) (hc : ∀ i, i < L.length → CtrA Tryz.prog f ([plV S (gO L i).n] ++ (List.range n).map cf) (vb (g i))) : CtrA Tryz.prog 41 [.sl L.length 9 (fun a => plA S (gO L a).n), .clo f n cf] (vi (ixB g L.length)) := by
 refine j0r _ Tryz.func41 rfl rfl Tryz.ntmps41 rfl fun w Z => ?_
 refine zU ?_
 refine wt ?_
 refine j0h (γ := Nat) (fun i => [(0, .av (.sl L.length 9 (fun a => plA S (gO L a).n))), (1, .av (.clo f n cf)), (7, .av (vi L.length)), (8, .av (vi i))]) (fun _ => []) (fun i => i ≤ L.length ∧ ∀ j, j < i → g j = false) (fun i => L.length - i) 0 ⟨by omega, fun j hj => absurd hj zO⟩ (ent zS trivial) ?_
 rintro i ⟨hi, hall⟩
 refine wt ?_
 (refine j0a rfl ?_ ?_ <;> intro hb <;> (try simp only [zA, zB, zG, zC, zD, zN] at hb) <;> (try exact zQ))
 ·have hil : i < L.length := by omega
  have h1 := hc i hil
  refine wt ?_
  refine j0j (j0d rfl rfl) rfl ?_
  refine wt ?_
  cases hg : g i with
  |true =>
   have e1 := Q0j (p := g) hil hall hg
   refine wt ?_
   exact j0c rfl (.tmp rfl) (by rw [e1])
  |false =>
   refine wt ?_
   exact j0b (i + 1) ⟨by omega, J0q hall hg⟩ zO (ent zS trivial)
 ·obtain rfl : i = L.length := by omega
  refine wt ?_
  exact j0c rfl (.tmp rfl) (by rw [V0u hall])
theorem q1c (S : Sys) (L : List Tor) (f n : Nat) (cf : Nat → AV) (g : Nat → Bool) (hn : L.length ≤ 20000) (hc : ∀ i, i < L.length → CtrA Tryz.prog f ([plV S (gO L i).n] ++ (List.range n).map cf) (vb (g i))) : CtrA Tryz.prog 30 [.sl L.length 9 (fun a => plA S (gO L a).n), .clo f n cf] (vb ((List.range L.length).any g)) := by
 have h := X0r S L f n cf g hn hc
 refine j0r _ Tryz.func30 rfl rfl Tryz.ntmps30 rfl fun w Z => ?_
 refine zU ?_
 refine wt ?_
 exact j0c rfl (.tmp rfl) (congrArg vb (k0O g L.length))
theorem q1g (k : Int) (L : List Pl) (f n : Nat) (cf : Nat → AV) (g : Nat → Bool) (hn : L.length ≤ 20000) (hc : ∀ i, i < L.length → CtrA Tryz.prog f ([pR k (gP L i)] ++ (List.range n).map cf) (vb (g i))) : CtrA Tryz.prog 72 [.sl L.length 5 (pf5 k L), .clo f n cf] (vi (ixB g L.length)) := by
 refine j0r _ Tryz.func72 rfl rfl Tryz.ntmps72 rfl fun w Z => ?_
 refine zU ?_
 refine wt ?_
 refine j0h (γ := Nat) (fun i => [(0, .av (.sl L.length 5 (pf5 k L))), (1, .av (.clo f n cf)), (7, .av (vi L.length)), (8, .av (vi i))]) (fun _ => []) (fun i => i ≤ L.length ∧ ∀ j, j < i → g j = false) (fun i => L.length - i) 0 ⟨by omega, fun j hj => absurd hj zO⟩ (ent zS trivial) ?_
 rintro i ⟨hi, hall⟩
 refine wt ?_
 (refine j0a rfl ?_ ?_ <;> intro hb <;> (try simp only [zA, zB, zG, zC, zD, zN] at hb) <;> (try exact zQ))
 ·have hil : i < L.length := by omega
  have h1 := hc i hil
  refine wt ?_
  refine j0j (j0d rfl rfl) rfl ?_
  refine wt ?_
  cases hg : g i with
  |true =>
   have e1 := Q0j (p := g) hil hall hg
   refine wt ?_
   exact j0c rfl (.tmp rfl) (by rw [e1])
  |false =>
   refine wt ?_
   exact j0b (i + 1) ⟨by omega, J0q hall hg⟩ zO (ent zS trivial)
 ·obtain rfl : i = L.length := by omega
  refine wt ?_
  exact j0c rfl (.tmp rfl) (by rw [V0u hall])
theorem q1b (k : Int) (L : List Pl) (f n : Nat) (cf : Nat → AV) (g : Nat → Bool) (hn : L.length ≤ 20000) (hc : ∀ i, i < L.length → CtrA Tryz.prog f ([pR k (gP L i)] ++ (List.range n).map cf) (vb (g i))) : CtrA Tryz.prog 27 [.sl L.length 5 (pf5 k L), .clo f n cf] (vb ((List.range L.length).any g)) := by
 have h := q1g k L f n cf g hn hc
 refine j0r _ Tryz.func27 rfl rfl Tryz.ntmps27 rfl fun w Z => ?_
 refine zU ?_
 refine wt ?_
 exact j0c rfl (.tmp rfl) (congrArg vb (k0O g L.length))
theorem j1E (S : Sys) (t : Nat → Rat) (k : Int) (P : Pl) (hs : P.s.length ≤ 1000) : CtrA Tryz.prog 28 [pR k P, .ptr 9 (plA S t)] (vb (ixE P.s (onS S t 0))) := by
 have h := Z0e P.s (onS S t 0) hs
 refine j0r _ Tryz.func28 rfl rfl Tryz.ntmps28 rfl fun w Z => ?_
 refine zU ?_
 refine wt ?_
 exact zV
theorem j1F (S : Sys) (t : Nat → Rat) (k : Int) (P : Pl) (hs : P.s.length ≤ 1000) : CtrA Tryz.prog 31 [plV S t, .ptr 5 (pAf k (rtx P.A) (rtx P.B) (rtx P.C) (idx P.s))] (vb (ixE P.s (onS S t 0))) := by
 have h := Z0e P.s (onS S t 0) hs
 refine j0r _ Tryz.func31 rfl rfl Tryz.ntmps31 rfl fun w Z => ?_
 refine zU ?_
 refine wt ?_
 exact zV
theorem K0U {g : Nat → Bool} {n i : Nat} (hi : i < n) (h : g i = true) : (List.range n).any g = true := List.any_eq_true.2 ⟨i, List.mem_range.2 hi, h⟩
theorem q1z {L : List Pl} {P : Pl} (h : P ∈ L) : ∃ i, i < L.length ∧ gP L i = P := by
 obtain ⟨i, hi, rfl⟩ := List.getElem_of_mem h
 exact ⟨i, hi, W0m hi⟩
theorem Z0c {L : List Tor} {x : Tor} (h : x ∈ L) : ∃ i, i < L.length ∧ gO L i = x := by
 obtain ⟨i, hi, rfl⟩ := List.getElem_of_mem h
 exact ⟨i, hi, J0Y hi⟩
theorem obeys_c (R : Syr) (hw : CtrA Tryz.prog 16 [] (vb true)) : CtrA Tryz.prog 6 [.agg 9 (srA R)] (vb true) := by
 have hr := w0J R
 cases e : w0q R with
 |false =>
  rw [e] at hr
  refine j0r _ Tryz.func6 rfl rfl Tryz.ntmps6 rfl fun w Z => ?_
  refine zU ?_
  refine wt ?_
  refine j0j (j0d rfl rfl) rfl ?_
  refine wt ?_
  exact zV
 |true =>
  rw [e] at hr
  have h := z0b e
  have hs := W0R h.chk
  rw [hs] at hr ⊢
  have hc := w0P h
  have hlen := y0u h.ok
  have hcd := z0L ((syO R).sp 0) ((syO R).ax 0 : Nat) (by unfold X1D; simp [h.ok.n0])
  rw [q1i h.ok] at hcd
  have hcl : (j0W ((syO R).sp 0) ((syO R).ax 0)).length ≤ 1000 := X0z h.ok
  have hps : ∀ P, P ∈ j0W ((syO R).sp 0) ((syO R).ax 0) → P.s.length ≤ 1000 := fun P hP => by
   obtain ⟨x, hx, he⟩ := K0g h.ok.pr h.tw hP
   rw [← he]
   have := x0h (syO R) x.n 0
   have := h.ok.n0
   omega
  obtain ⟨S, hS⟩ : ∃ S, S = syO R := ⟨_, rfl⟩
  have hpr := h.ok.pr
  have htw := h.tw
  rw [← hS] at hr hc hlen hcd hcl hps hpr htw ⊢
  refine j0r _ Tryz.func6 rfl rfl Tryz.ntmps6 rfl fun w Z => ?_
  refine zU ?_
  refine wt ?_
  refine j0j (j0d rfl rfl) rfl ?_
  refine wt ?_
  refine j0j (j0d rfl rfl) rfl ?_
  refine wt ?_
  obtain ⟨Ps, hPs⟩ : ∃ Ps, Ps = j0W (S.sp 0) (S.ax 0) := ⟨_, rfl⟩
  obtain ⟨κ, hκ⟩ : ∃ κ : Int, κ = ((S.ax 0 : Nat) : Int) := ⟨_, rfl⟩
  rw [← hPs] at hcl hps ⊢
  rw [← hκ]
  refine j0h (γ := Nat) (fun i => [(1, .av (.ptr 9 (syA S))), (3, .av (Y0E S)), (5, .av (.sl Ps.length 5 (pf5 κ Ps))), (36, .av (Y0E S)), (37, .av (vi (j0M S).length)), (38, .av (vi i))]) (fun _ => []) (fun i => i ≤ (j0M S).length) (fun i => (j0M S).length - i) 0 zO (ent zS trivial) ?_
  intro i hi
  refine wt ?_
  (refine j0a rfl ?_ ?_ <;> intro hb <;> (try simp only [zA, zB, zG, zC, zD, zN] at hb) <;> (try exact zQ))
  ·have hil : i < (j0M S).length := by omega
   obtain ⟨P, hP, hPe⟩ := q1j hpr (V0h hil)
   rw [← hPs] at hP
   obtain ⟨a, ha, hPa⟩ := q1z hP
   have hf := q1b κ Ps 28 1 (fun j => [AV.ptr 9 (plA S (gO (j0M S) i).n)].getD j .any) (fun j => ixE (gP Ps j).s (onS S (gO (j0M S) i).n 0)) zO (fun j hj => j1E S (gO (j0M S) i).n κ (gP Ps j) (hps _ (x0u hj)))
   rw [K0U ha (by rw [hPa]; exact z0m.2 hPe)] at hf
   refine wt ?_
   refine j0j (j0d rfl rfl) rfl ?_
   refine wt ?_
   refine q0M (j0t rfl rfl (v0G _ _) rfl rfl) ?_
   refine wt ?_
   refine j0x (j0A 8 10 (plA S (gO (j0M S) i).n) rfl rfl rfl) ?_
   refine wt ?_
   exact j0b (i + 1) zO zO (ent zS trivial)
  ·refine wt ?_
   refine j0h (γ := Nat) (fun i => [(3, .av (Y0E S)), (47, .av (.sl Ps.length 5 (pf5 κ Ps))), (48, .av (vi Ps.length)), (49, .av (vi i))]) (fun _ => []) (fun i => i ≤ Ps.length) (fun i => Ps.length - i) 0 zO (ent zS trivial) ?_
   intro i hi
   refine wt ?_
   (refine j0a rfl ?_ ?_ <;> intro hb <;> (try simp only [zA, zB, zG, zC, zD, zN] at hb) <;> (try exact zQ))
   ·have hil : i < Ps.length := by omega
    obtain ⟨x, hx, hxe⟩ := K0g hpr htw (P := gP Ps i) (by rw [← hPs]; exact x0u hil)
    obtain ⟨a, ha, hxa⟩ := Z0c hx
    have hf := q1c S (j0M S) 31 1 (fun j => [AV.ptr 5 (pf5 κ Ps i)].getD j .any) (fun j => ixE (gP Ps i).s (onS S (gO (j0M S) j).n 0)) zO (fun j hj => j1F S (gO (j0M S) j).n κ (gP Ps i) (hps _ (x0u hil)))
    rw [K0U ha (by rw [hxa]; exact z0m.2 hxe.symm)] at hf
    refine wt ?_
    refine j0j (j0d rfl rfl) rfl ?_
    refine wt ?_
    refine q0M (j0t rfl rfl (x0C _ _ _ _ _) rfl rfl) ?_
    refine wt ?_
    refine j0x (j0A 10 10 (pf5 κ Ps i) rfl rfl rfl) ?_
    refine wt ?_
    exact j0b (i + 1) zO zO (ent zS trivial)
   ·refine wt ?_
    exact zV
end Go.Proofs.YtfggdokihnopeaaGreatDoor.H
section
end
section
end
namespace Go.Proofs.YtfggdokihnopeaaGreatDoor.H
open Go Go.Vc Go.RowKit
open Go.Na (rtx LR j0u q0T rsg)
set_option maxHeartbeats 4000000
abbrev pcF (L : List Tor) (p : Tr) : Nat → Nat → AV := fun a j => vR (v0x (gO L a).n p j)
abbrev Z0j (S : Sys) (p : Tr) : AV := .sl (j0M S).length 3 (pcF (j0M S) p)
theorem Z0C (a b c : List UInt8) (w : World) : (Instr.buildSlice 79 1 #[(0, .agg #[sv a, sv b, sv c])]).run Tryz.prog w = .ok (.slice (some ⟨w.heap.size, 0, none⟩) 1 1) (w.alloc (.cells #[sv a, sv b, sv c] 34)) := by kernel_rfl
theorem Z0B (f : Nat → List UInt8) : ∀ i, i < 1 → ∀ j, j < 3 → ∃ u, ([sv (f 0), sv (f 1), sv (f 2)] : List Value)[i * 3 + j]? = some u ∧ (fun (_ j : Nat) => vS (f j)) i j = .val u := fun i hi j hj => by
 obtain rfl : i = 0 := by omega
 rcases (by omega : j = 0 ∨ j = 1 ∨ j = 2) with rfl | rfl | rfl <;> exact ⟨_, rfl, rfl⟩
theorem Y0u (L : List Tor) (p : Tr) (i : Nat) : ∀ a, a < i + 1 → ∀ j, q0H i (pcF L p) (fun _ j => vS (rtx (v0x (gO L i).n p j))) a j = pcF L p a j := fun a ha j => by
 unfold q0H
 split
 ·rfl
 ·obtain rfl : a = i := by omega
  rfl
theorem y0p {R : Syr} (h : RtS R) (p : Tr) (hp : j0Z p = true) : CtrA Tryz.prog 36 [syV (syO R), tp p] (j0B [Z0j (syO R) p, vi 0]) := by
 have c0 := q1m h.chk
 have c1 := x0d [p]
 rw [show w0A [p] = 0 by unfold w0A; rw [if_neg (by simp), if_pos (by simp [hp])]] at c1
 have c2 := j1P (syO R) h.ok (z0P h.chk) (Y0s h.chk 0) h.en
 have hlen := y0u h.ok
 have hpb : BT 100000 p := by
  unfold j0Z inB at hp
  simp only [Bool.and_eq_true, decide_eq_true_eq] at hp
  exact ⟨hp.1.1, hp.1.2, hp.2⟩
 have hok := h.ok
 obtain ⟨S, hS⟩ : ∃ S, S = syO R := ⟨_, rfl⟩
 rw [← hS] at c0 c2 hlen hok ⊢
 refine j0r _ Tryz.func36 rfl rfl Tryz.ntmps36 rfl fun w Z => ?_
 refine zU ?_
 refine wt ?_
 refine j0j (j0d rfl rfl) rfl ?_
 refine wt ?_
 refine j0j (j0E (is := [0]) (xs := [_]) (vs := [_]) (us := [.int .i64 p.x, .int .i64 p.y, .int .i64 p.z]) (row := tf [p]) (K0u p) rfl rfl rfl (w0v p)) rfl ?_
 refine wt ?_
 refine j0j (j0d rfl rfl) rfl ?_
 refine wt ?_
 refine j0h (γ := Nat) (fun i => [(3, .av (bt p)), (10, .osl 20), (34, .av (Y0E S)), (35, .av (vi (j0M S).length)), (36, .av (vi i))]) (fun i => [(20, .row 34 3 i (pcF (j0M S) p))]) (fun i => i ≤ (j0M S).length) (fun i => (j0M S).length - i) 0 zO ((v0F (dd := 10) 20 34 3 (pcF (j0M S) p) rfl rfl).trans (ent zS zT)) ?_
 intro i hi
 refine wt ?_
 (refine j0a rfl ?_ ?_ <;> intro hb <;> (try simp only [zA, zB, zG, zC, zD, zN] at hb) <;> (try exact zQ))
 ·have hil : i < (j0M S).length := by omega
  have hpl := v1P hok (V0h hil)
  have hap := y0h (gO (j0M S) i).n p hpb hpl.q1
  refine wt ?_
  refine j0j (j0d rfl rfl) rfl ?_
  refine wt ?_
  refine q0M (j0t rfl rfl (v0G _ _) rfl rfl) ?_
  refine wt ?_
  refine j0j (j0i (us := t6L (gO (j0M S) i).n) rfl rfl rfl rfl) rfl ?_
  refine wt ?_
  refine j0j (j0i (us := [sv (rtx (v0x (gO (j0M S) i).n p 0)), sv (rtx (v0x (gO (j0M S) i).n p 1)), sv (rtx (v0x (gO (j0M S) i).n p 2))]) rfl rfl rfl rfl) rfl ?_
  refine wt ?_
  refine j0j (j0E (is := [0]) (xs := [_]) (vs := [_]) (us := [sv (rtx (v0x (gO (j0M S) i).n p 0)), sv (rtx (v0x (gO (j0M S) i).n p 1)), sv (rtx (v0x (gO (j0M S) i).n p 2))]) (row := fun _ j => vS (rtx (v0x (gO (j0M S) i).n p j))) (Z0C _ _ _) rfl rfl rfl (Z0B (fun j => rtx (v0x (gO (j0M S) i).n p j)))) rfl ?_
  refine wt ?_
  refine j0C (q0x (h := fun _ j => vS (rtx (v0x (gO (j0M S) i).n p j))) (m := 1) rfl rfl rfl (fun _ _ _ _ => rfl) (by omega) (by simp only [maxLen]; omega) (by omega)) rfl ?_
  refine wt ?_
  exact j0b (i + 1) zO zO (ent zS ⟨⟨_, rfl, .row rfl (fun a ha j _ => Y0u _ p i a ha j)⟩, trivial⟩)
 ·obtain rfl : i = (j0M S).length := by omega
  refine wt ?_
  refine w1L (q0V 20 rfl) ?_
  exact zW
end Go.Proofs.YtfggdokihnopeaaGreatDoor.H
namespace Go.Proofs.YtfggdokihnopeaaGreatDoor.H
open Go Go.Vc
theorem V0W {S : Sys} (hS : Prm S.ax) {t u : Nat → Rat} (ht : Tch S t) (e0 : onS S t 0 = onS S u 0) (e1 : onS S t 1 = onS S u 1) (e2 : onS S t 2 = onS S u 2) : Eq6 t u := by
 obtain ⟨_, hs, ⟨i, j, hi, hj, hij⟩, m, hm⟩ := ht
 obtain ⟨a, b, c, ha, hb, hc, hn⟩ := J1z hs
 refine V0r hS hn hij (j0I.1 ha).2 (j0I.1 hb).2 (j0I.1 hc).2 (j0I.1 hi).2 (j0I.1 hj).2 (j0I.1 hm).2 ?_ ?_ ?_ ?_ ?_ ?_
 ·rw [e0] at ha; exact (j0I.1 ha).2
 ·rw [e0] at hb; exact (j0I.1 hb).2
 ·rw [e0] at hc; exact (j0I.1 hc).2
 ·rw [e1] at hi; exact (j0I.1 hi).2
 ·rw [e1] at hj; exact (j0I.1 hj).2
 ·rw [e2] at hm; exact (j0I.1 hm).2
def adP (b p : Tr) : Tr := ⟨p.x + b.x, p.y + b.y, p.z + b.z⟩
def mvS (S : Sys) (b : Tr) : Sys := ⟨S.ax, S.off, fun k => (S.sp k).map (adP b)⟩
def bkT (b : Tr) (t : Nat → Rat) : Nat → Rat := fun i => if i < 3 then t i - (mvQ t b i - t i) else t i
theorem W0z (b : Tr) (t : Nat → Rat) {k : Nat} (hk : k < 3) (p : Tr) : mvQ (bkT b t) (adP b p) k = mvQ t p k := by
 obtain ⟨m0, m1, m2⟩ := Q0T t p
 obtain ⟨b0, b1, b2⟩ := Q0T t b
 obtain ⟨n0, n1, n2⟩ := Q0T (bkT b t) (adP b p)
 rcases (by omega : k = 0 ∨ k = 1 ∨ k = 2) with rfl | rfl | rfl
 ·rw [m0, n0]; simp only [bkT, b0, b1, b2, adP]; simp [Rat.intCast_add]; grind
 ·rw [m1, n1]; simp only [bkT, b0, b1, b2, adP]; simp [Rat.intCast_add]; grind
 ·rw [m2, n2]; simp only [bkT, b0, b1, b2, adP]; simp [Rat.intCast_add]; grind
theorem x0o {l : List Tr} {i : Nat} (b : Tr) (h : i < l.length) : gt (l.map (adP b)) i = adP b (gt l i) := by unfold gt; simp [List.getD, h]
theorem W0f {S : Sys} (b : Tr) (t : Nat → Rat) {k : Nat} (hk : S.ax k < 3) (p : Tr) : hq (mvS S b) (bkT b t) k (adP b p) = hq S t k p := by
 unfold hq
 show mvQ (bkT b t) (adP b p) (S.ax k) - (S.off k : Rat) = _
 rw [W0z b t hk]
theorem z0K {S : Sys} (b : Tr) (t : Nat → Rat) {k : Nat} (hk : S.ax k < 3) : onS (mvS S b) (bkT b t) k = onS S t k := by
 unfold onS
 show (List.range ((S.sp k).map (adP b)).length).filter (fun i => decide (hq (mvS S b) (bkT b t) k (gt ((S.sp k).map (adP b)) i) = 0)) = _
 rw [List.length_map]
 refine List.filter_congr fun i hi => ?_
 rw [x0o b (List.mem_range.1 hi), W0f b t hk]
theorem z0q (b p : Tr) (k : Nat) : cz (adP b p) k = cz p k + cz b k := by
 unfold cz adP
 split <;> rfl
theorem V0Q (b p : Tr) (k : Nat) : plc k (adP b p) = ⟨(plc k p).x + (plc k b).x, (plc k p).y + (plc k b).y⟩ := by
 unfold plc
 rw [z0q, z0q]
theorem W0c {l : List Tr} {k : Nat} {s : List Nat} (b : Tr) (hs : ∀ i ∈ s, i < l.length) : x0i (plP (l.map (adP b)) k s) = x0i (plP l k s) := by
 have e : plP (l.map (adP b)) k s = (plP l k s).map fun p => ⟨p.x + (plc k b).x, p.y + (plc k b).y⟩ := by
  unfold plP
  rw [List.map_map]
  refine List.map_congr_left fun i hi => ?_
  show plc k (gt (l.map (adP b)) i) = _
  rw [x0o b (hs i hi), V0Q]
  rfl
 rw [e]
 generalize plP l k s = q
 have hc : ∀ i j m, i < q.length → j < q.length → m < q.length → crs (gp (q.map fun p => (⟨p.x + (plc k b).x, p.y + (plc k b).y⟩ : Pt)) i) (gp (q.map fun p => (⟨p.x + (plc k b).x, p.y + (plc k b).y⟩ : Pt)) j) (gp (q.map fun p => (⟨p.x + (plc k b).x, p.y + (plc k b).y⟩ : Pt)) m) = crs (gp q i) (gp q j) (gp q m) := fun i j m hi hj hm => by
  have g : ∀ i, i < q.length → gp (q.map fun p => (⟨p.x + (plc k b).x, p.y + (plc k b).y⟩ : Pt)) i = ⟨(gp q i).x + (plc k b).x, (gp q i).y + (plc k b).y⟩ := fun i hi => by unfold gp; simp [List.getD, hi]
  rw [g i hi, g j hj, g m hm]
  simp only [crs, trn, sub]; grind
 unfold x0i
 rw [Bool.eq_iff_iff]
 simp only [List.all_eq_true, List.mem_range, decide_eq_true_eq, List.length_map]
 constructor
 ·intro h i hi j hj m hm
  rw [← hc i j m hi (by omega) (by omega)]; exact h i hi j hj m hm
 ·intro h i hi j hj m hm
  rw [hc i j m hi (by omega) (by omega)]; exact h i hi j hj m hm
theorem X0g {S : Sys} (hS : Prm S.ax) (b : Tr) {t : Nat → Rat} (h : Tch S t) : Tch (mvS S b) (bkT b t) := by
 obtain ⟨h0, h1, h2, _⟩ := hS
 obtain ⟨⟨u0, u1, u2⟩, hs, ⟨i, j, hi, hj, hij⟩, m, hm⟩ := h
 have up : ∀ k, S.ax k < 3 → UpS S t k → UpS (mvS S b) (bkT b t) k := fun k hk hu i hi => by
  have hi' : i < (S.sp k).length := by simpa [mvS] using hi
  show 0 ≤ hq (mvS S b) (bkT b t) k (gt ((S.sp k).map (adP b)) i)
  rw [x0o b hi', W0f b t hk]
  exact hu i hi'
 refine ⟨⟨up 0 h0 u0, up 1 h1 u1, up 2 h2 u2⟩, ?_, ⟨i, j, by rw [z0K b t h1]; exact hi, by rw [z0K b t h1]; exact hj, ?_⟩, m, by rw [z0K b t h2]; exact hm⟩
 ·rw [z0K b t h0]
  show x0i (plP ((S.sp 0).map (adP b)) (S.ax 0) _) = false
  rw [W0c b fun i hi => (j0I.1 hi).1]
  exact hs
 ·show cz (gt ((S.sp 1).map (adP b)) i) (S.ax 2) ≠ cz (gt ((S.sp 1).map (adP b)) j) (S.ax 2)
  rw [x0o b (j0I.1 hi).1, x0o b (j0I.1 hj).1, z0q, z0q]
  omega
def ngP (b : Tr) : Tr := ⟨-b.x, -b.y, -b.z⟩
theorem V0P (S : Sys) (b : Tr) : mvS (mvS S b) (ngP b) = S := by
 unfold mvS
 simp only [List.map_map]
 have e : (adP (ngP b) ∘ adP b) = id := by
  funext p
  show (⟨p.x + b.x + -b.x, p.y + b.y + -b.y, p.z + b.z + -b.z⟩ : Tr) = p
  cases p
  simp only [Tr.mk.injEq]
  refine ⟨?_, ?_, ?_⟩ <;> omega
 rw [e]
 simp
theorem V0x (b : Tr) (t : Nat → Rat) : Eq6 (bkT (ngP b) (bkT b t)) t := by
 intro i hi
 by_cases h : i < 3
 ·obtain ⟨m0, m1, m2⟩ := Q0T t b
  obtain ⟨n0, n1, n2⟩ := Q0T (bkT b t) (ngP b)
  unfold bkT at n0 n1 n2 ⊢
  rw [if_pos h, if_pos h]
  rcases (by omega : i = 0 ∨ i = 1 ∨ i = 2) with rfl | rfl | rfl
  ·rw [n0, m0]; simp [ngP]; grind
  ·rw [n1, m1]; simp [ngP]; grind
  ·rw [n2, m2]; simp [ngP]; grind
 ·unfold bkT
  rw [if_neg h, if_neg h]
def mvO (b : Tr) (x : Tor) : Tor := mkT (bkT b x.n)
theorem W0d {b : Tr} {t u : Nat → Rat} (h : Eq6 t u) : Eq6 (bkT b t) (bkT b u) := by
 intro i hi
 unfold bkT
 rw [h.mv, h i hi]
theorem J0S {S : Sys} (hS : Prm S.ax) (h0 : 0 < (S.sp 2).length) (b : Tr) {x : Tor} (hx : x ∈ j0M S) : mvO b x ∈ j0M (mvS S b) := by
 have h0' : 0 < ((mvS S b).sp 2).length := by simpa [mvS] using h0
 rw [J0u (S := mvS S b) hS h0']
 exact (y0T _).symm.tch (X0g hS b ((J0u hS h0).1 hx))
theorem z0D (b : Tr) (x : Tor) : mvO (ngP b) (mvO b x) = x := by
 unfold mvO
 rw [← y1B x]
 refine v1r.2 fun i hi => ?_
 have h1 := W0d (b := ngP b) (y0T (bkT b x.n)) i hi
 have h2 := V0x b x.n i hi
 exact h1.trans h2
theorem x0O {S : Sys} (hS : Prm S.ax) (b : Tr) (x : Tor) {k : Nat} (hk : k < 3) : onS (mvS S b) (mvO b x).n k = onS S x.n k := by
 have h : S.ax k < 3 := by
  obtain ⟨h0, h1, h2, _⟩ := hS
  rcases (by omega : k = 0 ∨ k = 1 ∨ k = 2) with rfl | rfl | rfl <;> assumption
 rw [← z0K b x.n h]
 exact (y0T _).on k
theorem X0T (b : Tr) (x : Tor) {k : Nat} (hk : k < 3) (p : Tr) : mvQ (mvO b x).n (adP b p) k = mvQ x.n p k := by
 unfold mvO
 rw [(y0T _).mv, W0z b x.n hk]
theorem z0E {L : List Tor} (h : j1I L) : L.Nodup := List.Pairwise.imp (S := (· ≠ ·)) (fun {a b} hab => X0A hab) h
theorem X0V {S : Sys} (hS : Prm S.ax) (h0 : 0 < (S.sp 2).length) (b : Tr) : (j0M (mvS S b)).length = (j0M S).length := by
 have half : ∀ (S : Sys) (b : Tr), Prm S.ax → 0 < (S.sp 2).length → (j0M S).length ≤ (j0M (mvS S b)).length := fun S b hS h0 => by
  have hinj : ((j0M S).map (mvO b)).Nodup := by
   have hn := z0E (w0t ((q0w S).map mkT)).1
   refine List.Pairwise.map (mvO b) (fun x y hxy e => hxy ?_) hn
   rw [← z0D b x, e, z0D]
  have hsub : ∀ y ∈ (j0M S).map (mvO b), y ∈ j0M (mvS S b) := fun y hy => by
   obtain ⟨x, hx, rfl⟩ := List.mem_map.1 hy
   exact J0S hS h0 b hx
  have := List.Nodup.length_le_of_subset hinj hsub
  rwa [List.length_map] at this
 have h1 := half S b hS h0
 have h2 := half (mvS S b) (ngP b) hS (by simpa [mvS] using h0)
 rw [V0P] at h2
 omega
end Go.Proofs.YtfggdokihnopeaaGreatDoor.H
namespace Go.Proofs.YtfggdokihnopeaaGreatDoor.H
open Go Go.Vc Go.RowKit
open Go.Na (rtx LR j0u q0T rsg)
set_option maxHeartbeats 4000000
theorem z0s (q b : Tr) (hq : BT 1000000 q) (hb : BT 1000000 b) : CtrA Tryz.prog 40 [tp q, bt b] (tp (adP b q)) := by
 have h1 := hq.x; have h2 := hq.y; have h3 := hq.z
 have g1 := hb.x; have g2 := hb.y; have g3 := hb.z
 refine j0r _ Tryz.func40 rfl rfl Tryz.ntmps40 rfl fun w Z => ?_
 refine zU ?_
 refine wt ?_
 exact j0c rfl (.agg (us := [.int .i64 (q.x + b.x), .int .i64 (q.y + b.y), .int .i64 (q.z + b.z)]) rfl rfl rfl rfl) rfl
abbrev F44 : AV := .val (.func (.func 44) #[] #[])
theorem V0D (s u : List Nat) (hs : s.length ≤ 1000) : CtrA Tryz.prog 44 [idx s, idx u] (vb (ixE s u)) := by
 have h := Z0e s u hs
 refine j0r _ Tryz.func44 rfl rfl Tryz.ntmps44 rfl fun w Z => ?_
 refine zU ?_
 refine wt ?_
 exact zV
abbrev ctF (s : Nat → List Nat) : Nat → Nat → AV := fun i _ => idx (s i)
def ct3 (s u : Nat → List Nat) : Bool := ixE (s 0) (u 0) && (ixE (s 1) (u 1) && ixE (s 2) (u 2))
theorem X0o (s u : Nat → List Nat) (hs : ∀ k, k < 3 → (s k).length ≤ 1000) : CtrA Tryz.prog 43 [.sl 3 1 (ctF s), .sl 3 1 (ctF u), F44] (vb (ct3 s u)) := by
 have c0 := V0D (s 0) (u 0) (hs 0 zE)
 have c1 := V0D (s 1) (u 1) (hs 1 zE)
 have c2 := V0D (s 2) (u 2) (hs 2 zE)
 refine j0r _ Tryz.func43 rfl rfl Tryz.ntmps43 rfl fun w Z => ?_
 refine zU ?_
 refine wt ?_
 refine j0h (γ := Nat) (fun i => [(1, .av (.sl 3 1 (ctF u))), (2, .av F44), (15, .av (.sl 3 1 (ctF s))), (16, .av (vi 3)), (17, .av (vi i))]) (fun _ => []) (fun i => i ≤ 3 ∧ (1 ≤ i → ixE (s 0) (u 0) = true) ∧ (2 ≤ i → ixE (s 1) (u 1) = true) ∧ (3 ≤ i → ixE (s 2) (u 2) = true)) (fun i => 3 - i) 0 ⟨by omega, fun h => absurd h zO, fun h => absurd h zO, fun h => absurd h zO⟩ (ent zS trivial) ?_
 rintro i ⟨hi, hK⟩
 match i, hi, hK with
 |0, _, hK =>
  cases he : ixE (s 0) (u 0) with
  |true =>
   rw [he] at c0
   refine wt ?_
   exact j0b 1 ⟨by omega, fun _ => rfl, fun h => absurd h zO, fun h => absurd h zO⟩ zO (ent zS trivial)
  |false =>
   rw [he] at c0
   refine wt ?_
   exact j0c rfl (.tmp rfl) (by unfold ct3; rw [he]; rfl)
 |1, _, hK =>
  have e0 := hK.1 zO
  cases he : ixE (s 1) (u 1) with
  |true =>
   rw [he] at c1
   refine wt ?_
   exact j0b 2 ⟨by omega, fun _ => e0, fun _ => rfl, fun h => absurd h zO⟩ zO (ent zS trivial)
  |false =>
   rw [he] at c1
   refine wt ?_
   exact j0c rfl (.tmp rfl) (by unfold ct3; rw [e0, he]; rfl)
 |2, _, hK =>
  have e0 := hK.1 zO
  have e1 := hK.2.1 zO
  cases he : ixE (s 2) (u 2) with
  |true =>
   rw [he] at c2
   refine wt ?_
   exact j0b 3 ⟨by omega, fun _ => e0, fun _ => e1, fun _ => rfl⟩ zO (ent zS trivial)
  |false =>
   rw [he] at c2
   refine wt ?_
   exact j0c rfl (.tmp rfl) (by unfold ct3; rw [e0, e1, he]; rfl)
 |3, _, hK =>
  refine wt ?_
  exact j0c rfl (.tmp rfl) (by unfold ct3; rw [hK.1 (by omega), hK.2.1 (by omega), hK.2.2 (by omega)]; rfl)
 |i + 4, hi, _ => omega
theorem V0A (S T : Sys) (t u : Nat → Rat) (hn : ∀ k, k < 3 → (S.sp k).length ≤ 1000) : CtrA Tryz.prog 42 [plV T u, .ptr 9 (plA S t)] (vb (ct3 (onS S t) (onS T u))) := by
 have h := X0o (onS S t) (onS T u) (fun k hk => by have := x0h S t k; have := hn k hk; omega)
 refine j0r _ Tryz.func42 rfl rfl Tryz.ntmps42 rfl fun w Z => ?_
 have h' : CtrA Tryz.prog 43 [.sl 3 1 (fun i _ => plA S t (6 + i)), .sl 3 1 (fun i _ => plA T u (6 + i)), F44] (vb (ct3 (onS S t) (onS T u))) := CtrA.of h ⟨.sl' rfl (fun i hi j hj => by rcases (by omega : i = 0 ∨ i = 1 ∨ i = 2) with rfl | rfl | rfl <;> rfl), .sl' rfl (fun i hi j hj => by rcases (by omega : i = 0 ∨ i = 1 ∨ i = 2) with rfl | rfl | rfl <;> rfl), .refl _, trivial⟩
 refine zU ?_
 refine wt ?_
 refine q0n (q0S (n := 3) (f := fun j => plA S t (6 + j)) rfl zE zE) rfl ?_
 refine wt ?_
 refine q0n (q0S (n := 3) (f := fun j => plA T u (6 + j)) rfl zE zE) rfl ?_
 refine wt ?_
 exact zV
theorem Y0r (x y : Operand) (xs ys : Array Value) (w : World) : (eqGuard .neq 34 x y (.agg xs) (.agg ys)).run Tryz.prog w = .ok () w := by kernel_rfl
theorem Y0t (a b c : ByteArray) (w : World) : (binOp .neq 34 (.agg #[.string a, .string b, .string c]) (.agg #[.string a, .string b, .string c])).run Tryz.prog w = .ok (.bool false) w := by
 have e : (Op.equalIn 10000 34 (.agg #[.string a, .string b, .string c]) (.agg #[.string a, .string b, .string c])).run Tryz.prog w = .ok true w := k1k 9998 w a b c
 rw [run_neq_struct, e]
 rfl
def mvR (R : Syr) (b : Tr) : Syr := ⟨R.ax, R.off, fun k => (R.sp k).map (adP b)⟩
theorem Y0J (R : Syr) (b : Tr) : syO (mvR R b) = mvS (syO R) b := by
 unfold syO mvR mvS
 congr 1
 funext k
 by_cases hk : k < 3
 ·simp only [if_pos hk]
 ·simp only [if_neg hk, List.map_nil]
theorem V0i {g : Nat → Bool} {n : Nat} (h : ∃ i, i < n ∧ g i = true) : ∃ k : Nat, k < n ∧ ixB g n = (k : Int) ∧ g k = true := by
 obtain ⟨i, hi, hg⟩ := h
 unfold ixB
 cases hf : (List.range n).find? g with
 |some k => exact ⟨k, List.mem_range.1 (List.mem_of_find?_eq_some hf), rfl, List.find?_some hf⟩
 |none => rw [List.find?_eq_none] at hf; exact absurd hg (hf i (List.mem_range.2 hi))
theorem J0a {s u : Nat → List Nat} : ct3 s u = true ↔ s 0 = u 0 ∧ s 1 = u 1 ∧ s 2 = u 2 := by
 unfold ct3
 rw [Bool.and_eq_true, Bool.and_eq_true, z0m, z0m, z0m]
theorem V0q {S : Sys} (hS : Prm S.ax) (h0 : 0 < (S.sp 2).length) (b p : Tr) {i : Nat} (hi : i < (j0M S).length) :
  ∃ k : Nat, k < (j0M (mvS S b)).length ∧ ixB (fun j => ct3 (onS S (gO (j0M S) i).n) (onS (mvS S b) (gO (j0M (mvS S b)) j).n)) (j0M (mvS S b)).length = (k : Int) ∧ ∀ j, j < 3 → v0x (gO (j0M S) i).n p j = v0x (gO (j0M (mvS S b)) k).n (adP b p) j := by
 have hm := J0S hS h0 b (V0h hi)
 obtain ⟨a, ha, hae⟩ := Z0c hm
 obtain ⟨k, hk, hke, hg⟩ := V0i (g := fun j => ct3 (onS S (gO (j0M S) i).n) (onS (mvS S b) (gO (j0M (mvS S b)) j).n)) ⟨a, ha, by
  show ct3 _ _ = true
  rw [hae]
  exact J0a.2 ⟨(x0O hS b _ zE).symm, (x0O hS b _ zE).symm, (x0O hS b _ zE).symm⟩⟩
 refine ⟨k, hk, hke, fun j hj => ?_⟩
 obtain ⟨q0, q1, q2⟩ := J0a.1 hg
 have hp' : Prm (mvS S b).ax := hS
 have h0' : 0 < ((mvS S b).sp 2).length := by show 0 < ((S.sp 2).map (adP b)).length; rw [List.length_map]; exact h0
 have ht : Tch (mvS S b) (gO (j0M (mvS S b)) k).n := (J0u hp' h0').1 (V0h hk)
 have he : Eq6 (gO (j0M (mvS S b)) k).n (mvO b (gO (j0M S) i)).n := V0W hp' ht (by rw [x0O hS b _ (by decide)]; exact q0.symm) (by rw [x0O hS b _ (by decide)]; exact q1.symm) (by rw [x0O hS b _ (by decide)]; exact q2.symm)
 have h1 := X0T b (gO (j0M S) i) hj p
 show mvQ (gO (j0M S) i).n p j = mvQ (gO (j0M (mvS S b)) k).n (adP b p) j
 rw [he.mv, h1]
def mvC (S : Sys) (b : Tr) (i : Nat) : List SV := (List.range 6).map (fun j => SV.av (syA S j)) ++ (List.range 3).map fun k => .av (match Nat.blt k i with | true => ts ((S.sp k).map (adP b)) | false => syA S (6 + k))
theorem Q0r (l : List Tr) (b : Tr) : SLe (.av (.sl l.length 3 (tf (l.map (adP b))))) (.av (ts (l.map (adP b)))) := SLe.sl (List.length_map _).symm (fun _ _ _ _ => rfl)
theorem Q0h (S : Sys) (b : Tr) : All2 SLe (((mvC S b 0).set 6 (.osl 20)).set 6 (.av (.sl (S.sp 0).length 3 (tf ((S.sp 0).map (adP b)))))) (mvC S b 1) := ⟨.refl _, .refl _, .refl _, .refl _, .refl _, .refl _, Q0r _ b, .refl _, .refl _, trivial⟩
theorem Q0k (S : Sys) (b : Tr) : All2 SLe (((mvC S b 1).set 7 (.osl 20)).set 7 (.av (.sl (S.sp 1).length 3 (tf ((S.sp 1).map (adP b)))))) (mvC S b 2) := ⟨.refl _, .refl _, .refl _, .refl _, .refl _, .refl _, .refl _, Q0r _ b, .refl _, trivial⟩
theorem Q0m (S : Sys) (b : Tr) : All2 SLe (((mvC S b 2).set 8 (.osl 20)).set 8 (.av (.sl (S.sp 2).length 3 (tf ((S.sp 2).map (adP b)))))) (mvC S b 3) := ⟨.refl _, .refl _, .refl _, .refl _, .refl _, .refl _, .refl _, .refl _, Q0r _ b, trivial⟩
theorem w0N (l : List Tr) (b : Tr) {i : Nat} (h : i < l.length) : ∀ a, a < i + 1 → ∀ j, q0H i (tf (l.map (adP b))) (tf [adP b (gt l i)]) a j = tf (l.map (adP b)) a j := fun a ha j => by
 unfold q0H
 split
 ·rfl
 ·obtain rfl : a = i := by omega
  rw [Nat.sub_self]
  unfold tf
  rw [x0o b h]
  rfl
theorem X0j {p : Tr} (hp : j0Z p = true) : BT 1000000 p := by
 unfold j0Z inB at hp
 simp only [Bool.and_eq_true, decide_eq_true_eq] at hp
 obtain ⟨⟨⟨a, b⟩, c, d⟩, e, f⟩ := hp
 exact ⟨⟨by omega, by omega⟩, ⟨by omega, by omega⟩, ⟨by omega, by omega⟩⟩
theorem z0o (l : List Tr) (b : Tr) (h : 0 < l.length) : ∀ a, a < 0 + 1 → ∀ j, tf [adP b (gt l 0)] a j = tf (l.map (adP b)) a j := fun a ha j => by
 have := w0N l b h a ha j
 unfold q0H at this
 rw [if_neg (by omega), Nat.sub_zero] at this
 exact this
theorem Z0k {R : Syr} (hx : ∀ k, k < 3 → 0 ≤ R.ax k ∧ R.ax k < 3) : srA R = syA (syO R) := by
 have e : ∀ k, k < 3 → vi (R.ax k) = vi (((syO R).ax k : Nat) : Int) := fun k hk => by
  show vi (R.ax k) = vi (((R.ax k).toNat : Nat) : Int)
  rw [show (((R.ax k).toNat : Nat) : Int) = R.ax k by have := hx k hk; omega]
 funext i
 match i with
 |0 => exact e 0 zE
 |1 => exact e 1 zE
 |2 => exact e 2 zE
 |3 => rfl
 |4 => rfl
 |5 => rfl
 |6 => rfl
 |7 => rfl
 |i + 8 => rfl
theorem moves_c (R : Syr) (p b : Tr) (hw : CtrA Tryz.prog 16 [] (vb true)) : CtrA Tryz.prog 9 [.agg 9 (srA R), tp p, tp b] (vb true) := by
 have hr := w0J R
 have hp := z0c p
 have hb := z0c b
 cases e : w0q R with
 |false =>
  rw [e] at hr
  refine j0r _ Tryz.func9 rfl rfl Tryz.ntmps9 rfl fun w Z => ?_
  refine zU ?_
  refine wt ?_
  refine j0j (j0d rfl rfl) rfl ?_
  refine wt ?_
  exact zV
 |true =>
  rw [e] at hr
  have h := z0b e
  have hs := W0R h.chk
  rw [hs] at hr ⊢
  cases ep : j0Z p with
  |false =>
   rw [ep] at hp
   refine j0r _ Tryz.func9 rfl rfl Tryz.ntmps9 rfl fun w Z => ?_
   refine zU ?_
   refine wt ?_
   refine j0j (j0d rfl rfl) rfl ?_
   refine wt ?_
   exact zV
  |true =>
   rw [ep] at hp
   cases eb : j0Z b with
   |false =>
    rw [eb] at hb
    refine j0r _ Tryz.func9 rfl rfl Tryz.ntmps9 rfl fun w Z => ?_
    refine zU ?_
    refine wt ?_
    refine j0j (j0d rfl rfl) rfl ?_
    refine wt ?_
    exact zV
   |true =>
    rw [eb] at hb
    have hlen := z0P h.chk
    have hbb : BT 1000000 b := X0j eb
    have hpb : BT 1000000 p := X0j ep
    have hmv := Y0J R b
    have hr2 := w0J (mvR R b)
    rw [Z0k (R := mvR R b) (J0D (w0f h.chk).1).1, hmv] at hr2
    have hmp : CtrA Tryz.prog 40 ([tp p] ++ (List.range 1).map (fun i => [bt b].getD i .any)) (tp (adP b p)) := z0s p b hpb hbb
    have hp2 := z0c (adP b p)
    have hc1 := w0P h
    have hl1 := y0u h.ok
    have hy1 := y0p h p ep
    have hpr := h.ok.pr
    have hp0 := h.ok.p2
    have hS0 : ∀ k, k < 3 → (syO R).sp k = R.sp k := fun k hk => w1P hk
    obtain ⟨S, hS⟩ : ∃ S, S = syO R := ⟨_, rfl⟩
    have hrt : ∀ k i, BT 1000000 (gt (S.sp k) i) := fun k i => by rw [hS]; exact (Y0s h.chk k i).le (by decide)
    rw [← hS] at hr hlen hmv hS0 hr2 hc1 hl1 hy1 hpr hp0 ⊢
    refine j0r _ Tryz.func9 rfl rfl Tryz.ntmps9 rfl fun w Z => ?_
    refine zU ?_
    refine wt ?_
    refine j0j (j0d rfl rfl) rfl ?_
    refine wt ?_
    refine j0j (j0d rfl rfl) rfl ?_
    refine wt ?_
    refine q0M (j0t rfl rfl (w1O _) rfl rfl) ?_
    refine wt ?_
    refine j0j (j0d rfl rfl) rfl ?_
    refine wt ?_
    refine j0h (γ := Nat) (fun i => [(3, .av (.ptr 9 (syA S))), (4, .av (bt p)), (7, .av (.clo 40 1 (fun i => [bt b].getD i .any))), (8, .own 10 0), (41, .av (.agg 3 (fun j => syA S (6 + j)))), (42, .av (vi i))]) (fun i => [(10, .cells (mvC S b i))]) (fun i => i ≤ 3) (fun i => 3 - i) 0 zO (ent zS zT) ?_
    intro k hk
    match k, hk with
    |0, _ =>
     have hln := hlen 0 zE
     refine wt ?_
     refine j0j (q0d (k := 0) zE (x1a) rfl rfl) rfl ?_
     refine wt ?_
     refine v0p (w0g (r := 10) (off := 6 + 0) 20 43 3 (tf ((S.sp 0).map (adP b))) rfl rfl rfl) ?_
     refine j0h (γ := Nat) (fun i => [(3, .av (.ptr 9 (syA S))), (4, .av (bt p)), (7, .av (.clo 40 1 (fun i => [bt b].getD i .any))), (8, .own 10 0), (41, .av (.agg 3 (fun j => syA S (6 + j)))), (42, .av (vi 0)), (9, .av (vi 0)), (49, .av (ts (S.sp 0))), (50, .av (vi (S.sp 0).length)), (51, .av (vi i))]) (fun i => [(10, .cells ((mvC S b 0).set (6 + 0) (.osl 20))), (20, .row 43 3 i (tf ((S.sp 0).map (adP b))))]) (fun i => i ≤ (S.sp 0).length) (fun i => (S.sp 0).length - i) 0 zO (ent zS zT) ?_
     intro i hi
     refine wt ?_
     (refine j0a rfl ?_ ?_ <;> intro hb <;> (try simp only [zA, zB, zG, zC, zD, zN] at hb) <;> (try exact zQ))
     ·have hil : i < (S.sp 0).length := by omega
      have hmc : CtrA Tryz.prog 40 ([tp (gt (S.sp 0) i)] ++ (List.range 1).map (fun i => [bt b].getD i .any)) (tp (adP b (gt (S.sp 0) i))) := z0s _ b (hrt 0 i) hbb
      refine y0H 20 rfl (fun h0 => ?_) (fun b0 cap hle => ?_)
      ·refine wt ?_
       refine q0n (j0E (is := [0]) (xs := [_]) (vs := [_]) (us := [.int .i64 (adP b (gt (S.sp 0) i)).x, .int .i64 (adP b (gt (S.sp 0) i)).y, .int .i64 (adP b (gt (S.sp 0) i)).z]) (row := tf [adP b (gt (S.sp 0) i)]) (K0u (adP b (gt (S.sp 0) i))) rfl rfl rfl (w0v (adP b (gt (S.sp 0) i)))) rfl ?_
       refine wt ?_
       refine x0l (w0r (m := 1) 20 rfl rfl (fun a ha j hj => y0e _ a j) zE zE zE) rfl rfl ?_
       refine wt ?_
       subst h0
       exact j0b 1 zO zO (ent zS ⟨⟨_, rfl, .refl _⟩, ⟨_, rfl, .row rfl (fun a ha j hj => z0o _ b hil a ha j)⟩, trivial⟩)
      ·by_cases hfull : cap < i + 1
       ·refine wt ?_
        refine q0n (j0E (is := [0]) (xs := [_]) (vs := [_]) (us := [.int .i64 (adP b (gt (S.sp 0) i)).x, .int .i64 (adP b (gt (S.sp 0) i)).y, .int .i64 (adP b (gt (S.sp 0) i)).z]) (row := tf [adP b (gt (S.sp 0) i)]) (K0u (adP b (gt (S.sp 0) i))) rfl rfl rfl (w0v (adP b (gt (S.sp 0) i)))) rfl ?_
        refine wt ?_
        refine x0l (q0E (q := 20) (m := 1) 120 rfl rfl rfl (fun a ha j hj => y0e _ a j) (by decide) hfull (by simp only [maxLen]; omega) (by omega)) rfl rfl ?_
        refine wt ?_
        exact j0b (i + 1) zO zO (Ent.trans (ent (T' := [(3, .av (.ptr 9 (syA S))), (4, .av (bt p)), (7, .av (.clo 40 1 (fun i => [bt b].getD i .any))), (8, .own 10 0), (41, .av (.agg 3 (fun j => syA S (6 + j)))), (42, .av (vi 0)), (9, .av (vi 0)), (49, .av (ts (S.sp 0))), (50, .av (vi (S.sp 0).length)), (51, .av (vi ((i + 1 : Nat) : Int)))]) (O' := [(10, .cells ((mvC S b 0).set (6 + 0) (.osl 120))), (120, .row 43 3 (i + 1) (tf ((S.sp 0).map (adP b))))]) zS ⟨⟨_, rfl, .refl _⟩, ⟨_, rfl, .row rfl (fun a ha j hj => w0N _ b hil a ha j)⟩, trivial⟩) (J0W [(20, 120)] ⟨rfl, rfl, rfl, rfl, rfl, rfl, rfl, rfl, rfl, rfl, trivial⟩ ⟨rfl, rfl, trivial⟩ rfl rfl))
       ·refine wt ?_
        refine q0n (j0E (is := [0]) (xs := [_]) (vs := [_]) (us := [.int .i64 (adP b (gt (S.sp 0) i)).x, .int .i64 (adP b (gt (S.sp 0) i)).y, .int .i64 (adP b (gt (S.sp 0) i)).z]) (row := tf [adP b (gt (S.sp 0) i)]) (K0u (adP b (gt (S.sp 0) i))) rfl rfl rfl (w0v (adP b (gt (S.sp 0) i)))) rfl ?_
        refine wt ?_
        refine v0S (v0P (q := 20) (m := 1) (bytes := 24) rfl rfl rfl (fun a ha j hj => y0e _ a j) (by decide) (Nat.le_of_not_lt hfull) (by simp only [maxLen]; omega) (by omega)) rfl ?_
        refine wt ?_
        exact j0b (i + 1) zO zO (Ent.trans (v0I 20 10 (6 + 0) rfl rfl rfl rfl) (ent zS ⟨⟨_, rfl, .refl _⟩, ⟨_, rfl, .row rfl (fun a ha j hj => w0N _ b hil a ha j)⟩, trivial⟩))
     ·obtain rfl : i = (S.sp 0).length := by omega
      refine wt ?_
      exact j0b 1 zO zO (Ent.trans (j0J 10 20 (6 + 0) rfl rfl rfl rfl) (ent zS ⟨⟨_, rfl, .cells (Q0h S b)⟩, trivial⟩))
    |1, _ =>
     have hln := hlen 1 zE
     refine wt ?_
     refine j0j (q0d (k := 1) zE (x1b) rfl rfl) rfl ?_
     refine wt ?_
     refine v0p (w0g (r := 10) (off := 6 + 1) 20 43 3 (tf ((S.sp 1).map (adP b))) rfl rfl rfl) ?_
     refine j0h (γ := Nat) (fun i => [(3, .av (.ptr 9 (syA S))), (4, .av (bt p)), (7, .av (.clo 40 1 (fun i => [bt b].getD i .any))), (8, .own 10 0), (41, .av (.agg 3 (fun j => syA S (6 + j)))), (42, .av (vi 1)), (9, .av (vi 1)), (49, .av (ts (S.sp 1))), (50, .av (vi (S.sp 1).length)), (51, .av (vi i))]) (fun i => [(10, .cells ((mvC S b 1).set (6 + 1) (.osl 20))), (20, .row 43 3 i (tf ((S.sp 1).map (adP b))))]) (fun i => i ≤ (S.sp 1).length) (fun i => (S.sp 1).length - i) 0 zO (ent zS zT) ?_
     intro i hi
     refine wt ?_
     (refine j0a rfl ?_ ?_ <;> intro hb <;> (try simp only [zA, zB, zG, zC, zD, zN] at hb) <;> (try exact zQ))
     ·have hil : i < (S.sp 1).length := by omega
      have hmc : CtrA Tryz.prog 40 ([tp (gt (S.sp 1) i)] ++ (List.range 1).map (fun i => [bt b].getD i .any)) (tp (adP b (gt (S.sp 1) i))) := z0s _ b (hrt 1 i) hbb
      refine y0H 20 rfl (fun h0 => ?_) (fun b0 cap hle => ?_)
      ·refine wt ?_
       refine q0n (j0E (is := [0]) (xs := [_]) (vs := [_]) (us := [.int .i64 (adP b (gt (S.sp 1) i)).x, .int .i64 (adP b (gt (S.sp 1) i)).y, .int .i64 (adP b (gt (S.sp 1) i)).z]) (row := tf [adP b (gt (S.sp 1) i)]) (K0u (adP b (gt (S.sp 1) i))) rfl rfl rfl (w0v (adP b (gt (S.sp 1) i)))) rfl ?_
       refine wt ?_
       refine x0l (w0r (m := 1) 20 rfl rfl (fun a ha j hj => y0e _ a j) zE zE zE) rfl rfl ?_
       refine wt ?_
       subst h0
       exact j0b 1 zO zO (ent zS ⟨⟨_, rfl, .refl _⟩, ⟨_, rfl, .row rfl (fun a ha j hj => z0o _ b hil a ha j)⟩, trivial⟩)
      ·by_cases hfull : cap < i + 1
       ·refine wt ?_
        refine q0n (j0E (is := [0]) (xs := [_]) (vs := [_]) (us := [.int .i64 (adP b (gt (S.sp 1) i)).x, .int .i64 (adP b (gt (S.sp 1) i)).y, .int .i64 (adP b (gt (S.sp 1) i)).z]) (row := tf [adP b (gt (S.sp 1) i)]) (K0u (adP b (gt (S.sp 1) i))) rfl rfl rfl (w0v (adP b (gt (S.sp 1) i)))) rfl ?_
        refine wt ?_
        refine x0l (q0E (q := 20) (m := 1) 120 rfl rfl rfl (fun a ha j hj => y0e _ a j) (by decide) hfull (by simp only [maxLen]; omega) (by omega)) rfl rfl ?_
        refine wt ?_
        exact j0b (i + 1) zO zO (Ent.trans (ent (T' := [(3, .av (.ptr 9 (syA S))), (4, .av (bt p)), (7, .av (.clo 40 1 (fun i => [bt b].getD i .any))), (8, .own 10 0), (41, .av (.agg 3 (fun j => syA S (6 + j)))), (42, .av (vi 1)), (9, .av (vi 1)), (49, .av (ts (S.sp 1))), (50, .av (vi (S.sp 1).length)), (51, .av (vi ((i + 1 : Nat) : Int)))]) (O' := [(10, .cells ((mvC S b 1).set (6 + 1) (.osl 120))), (120, .row 43 3 (i + 1) (tf ((S.sp 1).map (adP b))))]) zS ⟨⟨_, rfl, .refl _⟩, ⟨_, rfl, .row rfl (fun a ha j hj => w0N _ b hil a ha j)⟩, trivial⟩) (J0W [(20, 120)] ⟨rfl, rfl, rfl, rfl, rfl, rfl, rfl, rfl, rfl, rfl, trivial⟩ ⟨rfl, rfl, trivial⟩ rfl rfl))
       ·refine wt ?_
        refine q0n (j0E (is := [0]) (xs := [_]) (vs := [_]) (us := [.int .i64 (adP b (gt (S.sp 1) i)).x, .int .i64 (adP b (gt (S.sp 1) i)).y, .int .i64 (adP b (gt (S.sp 1) i)).z]) (row := tf [adP b (gt (S.sp 1) i)]) (K0u (adP b (gt (S.sp 1) i))) rfl rfl rfl (w0v (adP b (gt (S.sp 1) i)))) rfl ?_
        refine wt ?_
        refine v0S (v0P (q := 20) (m := 1) (bytes := 24) rfl rfl rfl (fun a ha j hj => y0e _ a j) (by decide) (Nat.le_of_not_lt hfull) (by simp only [maxLen]; omega) (by omega)) rfl ?_
        refine wt ?_
        exact j0b (i + 1) zO zO (Ent.trans (v0I 20 10 (6 + 1) rfl rfl rfl rfl) (ent zS ⟨⟨_, rfl, .refl _⟩, ⟨_, rfl, .row rfl (fun a ha j hj => w0N _ b hil a ha j)⟩, trivial⟩))
     ·obtain rfl : i = (S.sp 1).length := by omega
      refine wt ?_
      exact j0b 2 zO zO (Ent.trans (j0J 10 20 (6 + 1) rfl rfl rfl rfl) (ent zS ⟨⟨_, rfl, .cells (Q0k S b)⟩, trivial⟩))
    |2, _ =>
     have hln := hlen 2 zE
     refine wt ?_
     refine j0j (q0d (k := 2) zE (x1c) rfl rfl) rfl ?_
     refine wt ?_
     refine v0p (w0g (r := 10) (off := 6 + 2) 20 43 3 (tf ((S.sp 2).map (adP b))) rfl rfl rfl) ?_
     refine j0h (γ := Nat) (fun i => [(3, .av (.ptr 9 (syA S))), (4, .av (bt p)), (7, .av (.clo 40 1 (fun i => [bt b].getD i .any))), (8, .own 10 0), (41, .av (.agg 3 (fun j => syA S (6 + j)))), (42, .av (vi 2)), (9, .av (vi 2)), (49, .av (ts (S.sp 2))), (50, .av (vi (S.sp 2).length)), (51, .av (vi i))]) (fun i => [(10, .cells ((mvC S b 2).set (6 + 2) (.osl 20))), (20, .row 43 3 i (tf ((S.sp 2).map (adP b))))]) (fun i => i ≤ (S.sp 2).length) (fun i => (S.sp 2).length - i) 0 zO (ent zS zT) ?_
     intro i hi
     refine wt ?_
     (refine j0a rfl ?_ ?_ <;> intro hb <;> (try simp only [zA, zB, zG, zC, zD, zN] at hb) <;> (try exact zQ))
     ·have hil : i < (S.sp 2).length := by omega
      have hmc : CtrA Tryz.prog 40 ([tp (gt (S.sp 2) i)] ++ (List.range 1).map (fun i => [bt b].getD i .any)) (tp (adP b (gt (S.sp 2) i))) := z0s _ b (hrt 2 i) hbb
      refine y0H 20 rfl (fun h0 => ?_) (fun b0 cap hle => ?_)
      ·refine wt ?_
       refine q0n (j0E (is := [0]) (xs := [_]) (vs := [_]) (us := [.int .i64 (adP b (gt (S.sp 2) i)).x, .int .i64 (adP b (gt (S.sp 2) i)).y, .int .i64 (adP b (gt (S.sp 2) i)).z]) (row := tf [adP b (gt (S.sp 2) i)]) (K0u (adP b (gt (S.sp 2) i))) rfl rfl rfl (w0v (adP b (gt (S.sp 2) i)))) rfl ?_
       refine wt ?_
       refine x0l (w0r (m := 1) 20 rfl rfl (fun a ha j hj => y0e _ a j) zE zE zE) rfl rfl ?_
       refine wt ?_
       subst h0
       exact j0b 1 zO zO (ent zS ⟨⟨_, rfl, .refl _⟩, ⟨_, rfl, .row rfl (fun a ha j hj => z0o _ b hil a ha j)⟩, trivial⟩)
      ·by_cases hfull : cap < i + 1
       ·refine wt ?_
        refine q0n (j0E (is := [0]) (xs := [_]) (vs := [_]) (us := [.int .i64 (adP b (gt (S.sp 2) i)).x, .int .i64 (adP b (gt (S.sp 2) i)).y, .int .i64 (adP b (gt (S.sp 2) i)).z]) (row := tf [adP b (gt (S.sp 2) i)]) (K0u (adP b (gt (S.sp 2) i))) rfl rfl rfl (w0v (adP b (gt (S.sp 2) i)))) rfl ?_
        refine wt ?_
        refine x0l (q0E (q := 20) (m := 1) 120 rfl rfl rfl (fun a ha j hj => y0e _ a j) (by decide) hfull (by simp only [maxLen]; omega) (by omega)) rfl rfl ?_
        refine wt ?_
        exact j0b (i + 1) zO zO (Ent.trans (ent (T' := [(3, .av (.ptr 9 (syA S))), (4, .av (bt p)), (7, .av (.clo 40 1 (fun i => [bt b].getD i .any))), (8, .own 10 0), (41, .av (.agg 3 (fun j => syA S (6 + j)))), (42, .av (vi 2)), (9, .av (vi 2)), (49, .av (ts (S.sp 2))), (50, .av (vi (S.sp 2).length)), (51, .av (vi ((i + 1 : Nat) : Int)))]) (O' := [(10, .cells ((mvC S b 2).set (6 + 2) (.osl 120))), (120, .row 43 3 (i + 1) (tf ((S.sp 2).map (adP b))))]) zS ⟨⟨_, rfl, .refl _⟩, ⟨_, rfl, .row rfl (fun a ha j hj => w0N _ b hil a ha j)⟩, trivial⟩) (J0W [(20, 120)] ⟨rfl, rfl, rfl, rfl, rfl, rfl, rfl, rfl, rfl, rfl, trivial⟩ ⟨rfl, rfl, trivial⟩ rfl rfl))
       ·refine wt ?_
        refine q0n (j0E (is := [0]) (xs := [_]) (vs := [_]) (us := [.int .i64 (adP b (gt (S.sp 2) i)).x, .int .i64 (adP b (gt (S.sp 2) i)).y, .int .i64 (adP b (gt (S.sp 2) i)).z]) (row := tf [adP b (gt (S.sp 2) i)]) (K0u (adP b (gt (S.sp 2) i))) rfl rfl rfl (w0v (adP b (gt (S.sp 2) i)))) rfl ?_
        refine wt ?_
        refine v0S (v0P (q := 20) (m := 1) (bytes := 24) rfl rfl rfl (fun a ha j hj => y0e _ a j) (by decide) (Nat.le_of_not_lt hfull) (by simp only [maxLen]; omega) (by omega)) rfl ?_
        refine wt ?_
        exact j0b (i + 1) zO zO (Ent.trans (v0I 20 10 (6 + 2) rfl rfl rfl rfl) (ent zS ⟨⟨_, rfl, .refl _⟩, ⟨_, rfl, .row rfl (fun a ha j hj => w0N _ b hil a ha j)⟩, trivial⟩))
     ·obtain rfl : i = (S.sp 2).length := by omega
      refine wt ?_
      exact j0b 3 zO zO (Ent.trans (j0J 10 20 (6 + 2) rfl rfl rfl rfl) (ent zS ⟨⟨_, rfl, .cells (Q0m S b)⟩, trivial⟩))
    |3, _ =>
     cases e2 : w0q (mvR R b) with
     |false =>
      rw [e2] at hr2
      refine wt ?_
      refine j0j (j0l (f := syA (mvS S b)) rfl rfl rfl) rfl ?_
      refine wt ?_
      exact zV
     |true =>
      rw [e2] at hr2
      have h2 := z0b e2
      cases em : j0Z (adP b p) with
      |false =>
       rw [em] at hp2
       refine wt ?_
       refine j0j (j0l (f := syA (mvS S b)) rfl rfl rfl) rfl ?_
       refine wt ?_
       exact zV
      |true =>
       rw [em] at hp2
       have hc2 := w0P h2
       have hy2 := y0p h2 (adP b p) em
       rw [hmv] at hc2 hy2
       have hml := X0V hpr hp0 b
       refine wt ?_
       refine j0j (j0l (f := syA (mvS S b)) rfl rfl rfl) rfl ?_
       refine wt ?_
       refine j0j (j0d rfl rfl) rfl ?_
       refine wt ?_
       refine j0j (j0l (f := syA (mvS S b)) rfl rfl rfl) rfl ?_
       refine wt ?_
       refine j0j (j0d rfl rfl) rfl ?_
       refine wt ?_
       refine q0n (j0l (f := syA (mvS S b)) rfl rfl rfl) rfl ?_
       refine wt ?_
       (first | refine j0g rfl rfl ?_ ?_ | refine j0f rfl rfl ?_ ?_) <;> intro hb <;> (try simp only [zA, zB, zG, zC, zD, zN] at hb) <;> (try exact zQ)
       ·refine wt ?_
        rw [show (((j0M S).length : Int) != ((j0M S).length : Int)) = false from bne_self_eq_false _]
        refine wt ?_
        rw [show (((j0M (mvS S b)).length : Int) != ((j0M (mvS S b)).length : Int)) = false from bne_self_eq_false _]
        ·skip
         ·refine wt ?_
          refine j0h (γ := Nat) (fun i => [(13, .av (Y0E S)), (15, .av (Y0E (mvS S b))), (17, .av (Z0j S p)), (19, .av (Z0j (mvS S b) (adP b p))), (133, .av (Y0E S)), (134, .av (vi (j0M S).length)), (135, .av (vi i))]) (fun _ => []) (fun i => i ≤ (j0M S).length) (fun i => (j0M S).length - i) 0 zO (ent zS trivial) ?_
          intro i hi
          refine wt ?_
          (refine j0a rfl ?_ ?_ <;> intro hb <;> (try simp only [zA, zB, zG, zC, zD, zN] at hb) <;> (try exact zQ))
          ·have hil : i < (j0M S).length := by omega
           obtain ⟨k, hk, hke, hkq⟩ := V0q hpr hp0 b p hil
           have hix := X0r (mvS S b) (j0M (mvS S b)) 42 1 (fun j => [AV.ptr 9 (plA S (gO (j0M S) i).n)].getD j .any) (fun j => ct3 (onS S (gO (j0M S) i).n) (onS (mvS S b) (gO (j0M (mvS S b)) j).n)) zO (fun j hj => V0A S (mvS S b) (gO (j0M S) i).n (gO (j0M (mvS S b)) j).n hlen)
           rw [hke] at hix
           refine wt ?_
           refine j0j (j0d rfl rfl) rfl ?_
           refine wt ?_
           refine q0M (j0t rfl rfl (v0G _ _) rfl rfl) ?_
           refine wt ?_
           refine j0x (j0A 22 10 (plA S (gO (j0M S) i).n) rfl rfl rfl) ?_
           refine wt ?_
           refine y0G (j0k (us := [sv (rtx (v0x (gO (j0M S) i).n p 0)), sv (rtx (v0x (gO (j0M S) i).n p 1)), sv (rtx (v0x (gO (j0M S) i).n p 2))]) rfl rfl rfl rfl) rfl rfl rfl rfl ?_
           refine wt ?_
           refine y0G (j0k (us := [sv (rtx (v0x (gO (j0M (mvS S b)) k).n (adP b p) 0)), sv (rtx (v0x (gO (j0M (mvS S b)) k).n (adP b p) 1)), sv (rtx (v0x (gO (j0M (mvS S b)) k).n (adP b p) 2))]) rfl rfl rfl rfl) rfl rfl rfl rfl ?_
           refine y0G (y0I rfl rfl (fun w => Y0r _ _ _ _ w) (fun w => by rw [hkq 0 (by decide), hkq 1 (by decide), hkq 2 (by decide)]; exact Y0t _ _ _ w)) rfl rfl rfl rfl ?_
           refine wt ?_
           exact j0b (i + 1) zO zO (ent zS trivial)
          ·refine wt ?_
           exact zV
    |k + 4, hk => omega
end Go.Proofs.YtfggdokihnopeaaGreatDoor.H
namespace Go.Proofs.YtfggdokihnopeaaGreatDoor
open Go Go.Vc Go.RowKit Go.ChangeShapes Go.WideShapes Go.ChangeAt Go.Joins
set_option maxRecDepth 100000
theorem W0u {P : Program} {w : World} : ∀ {l : List (String × DataW Unit)} {ps : List MemPlace}, DataW.LaidVars P w l ps → ∀ {n : String} {d : DataW Unit}, (n, d) ∈ l →
  ∃ g t cs fuel p, P.globalNamed n = some g ∧ (P.globals[g]?).map (·.type) = some t ∧ w.var? P n = some cs ∧ DataW.trod (fun _ => ()) P w 0 (fun _ => true) false fuel t cs.toList = some (d, p)
 |[], _, _, _, _, hm => by cases hm
 |(n', d') :: r, _, h, n, d, hm => by
  obtain ⟨g, t, cs, fuel, p, q, h1, h2, h3, h4, h5, _⟩ := h
  rcases List.mem_cons.1 hm with e | hm
  ·cases e; exact ⟨g, t, cs, fuel, p, h1, h2, h3, h4⟩
  ·exact W0u h5 hm
theorem Q0i {H : Type} {enc : TypeId × Value → H} {P : Program} {W : World} {base : Nat} {spare : Nat → Bool} {held : Bool} {t e : TypeId} {q : IntKind} {n fuel : Nat} {cs : List Value} {d : DataW H} {p : List MemPlace}
  (ht : P.underlying t = some (.array n e)) (he : P.underlying e = some (.int q)) (hc : P.cellsOf e = 1) (hct : P.cellsOf t = n) (h : DataW.trod enc P W base spare held fuel t cs = some (d, p)) :
  ∃ ms : List Int, cs = ms.map (Value.int q) ∧ d = .agg (ms.map fun m => .lit (.int q m)) := by
 obtain ⟨xs, m, _, ex, hl, hxl, hel⟩ := DataW.trod_array ht h
 rw [hct] at hl
 rw [hc] at hel
 have key : ∀ i, i < n → ∃ z : Int, cs[i]? = some (.int q z) ∧ xs[i]? = some (.lit (.int q z), []) := fun i hi => by
  have h0 := hel i hi
  rw [List.getElem?_eq_getElem (by omega)] at h0
  obtain ⟨z, q0, q1, _⟩ := DataW.trod_int he h0
  refine ⟨z, ?_, by rw [List.getElem?_eq_getElem (by omega), q1]⟩
  have : ((cs.drop (i * 1)).take 1)[0]? = some (.int q z) := by rw [q0]; rfl
  simpa [List.getElem?_take, List.getElem?_drop] using this
 let f : Nat → Int := fun i => if h : i < n then (key i h).choose else 0
 have hf : ∀ i, i < n → cs[i]? = some (.int q (f i)) ∧ xs[i]? = some (.lit (.int q (f i)), []) := fun i hi => by
  have := (key i hi).choose_spec
  simpa [f, hi] using this
 refine ⟨(List.range n).map f, ?_, ?_⟩
 ·apply List.ext_getElem?
  intro i
  by_cases hi : i < n
  ·rw [(hf i hi).1]; simp [hi]
  ·rw [List.getElem?_eq_none (by omega), List.getElem?_eq_none (by simp; omega)]
 ·have hx : xs.map (·.1) = ((List.range n).map f).map (fun m => DataW.lit (.int q m)) := by
   apply List.ext_getElem?
   intro i
   by_cases hi : i < n
   ·rw [List.getElem?_map, (hf i hi).2]; simp [hi]
   ·rw [List.getElem?_eq_none (by simp; omega), List.getElem?_eq_none (by simp; omega)]
  have := congrArg Prod.fst ex
  rw [hx] at this
  exact this
end Go.Proofs.YtfggdokihnopeaaGreatDoor
