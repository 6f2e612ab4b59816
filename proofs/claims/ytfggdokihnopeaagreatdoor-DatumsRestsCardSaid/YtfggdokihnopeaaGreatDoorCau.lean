/- A part of the proof. -/
import Derived.Test.YtfggdokihnopeaaGreatDoorRows
import Derived.ProofKit
import Derived.Deep.Slices
import Derived.Deep.Fields
import Derived.Deep.Strs
import Derived.OpenShut
import Derived.ChangeSame
import Derived.Lib.SmallJoins
import Derived.Carry
import Derived.Below
import Derived.FnData
import Derived.Shelf.Vars
import Derived.LaidLaws
import Derived.LaidHandle
import Derived.Handed
import Derived.Test.YtfggdokihnopeaaGreatDoorCat
set_option linter.unusedVariables false
set_option linter.unusedSimpArgs false
namespace Go.Proofs.YtfggdokihnopeaaGreatDoor.H
open Go Go.Vc Go.RowKit
open Go.Na (rtx LR j0v v0j rsg itoa_neg j0E)
set_option maxHeartbeats 4000000
theorem d3 : Lib.decDigits 3 = [51] := by rw [Lib.decDigits]; rfl
theorem d100 : Lib.decDigits 100 = [49, 48, 48] := by
 rw [Lib.decDigits, Lib.decDigits, Lib.decDigits]; rfl
theorem k1i : rtx (-3) = [45, 51] := by
 unfold rtx
 rw [if_pos (by decide +kernel)]
 show Lib.itoa (-3) = _
 rw [itoa_neg (by decide)]
 show 45 :: Lib.decDigits 3 = _
 rw [d3]
theorem k1h : rtx (-1) = [45, 49] := by
 unfold rtx
 rw [if_pos (by decide +kernel)]
 show Lib.itoa (-1) = _
 rw [itoa_neg (by decide)]
 show 45 :: Lib.decDigits 1 = _
 rw [d1]
theorem X1a : rtx 2 = [50] := by
 unfold rtx
 rw [if_pos (by decide +kernel)]
 show Lib.itoa 2 = _
 rw [j0E (by decide)]
 show Lib.decDigits 2 = _
 rw [d2]
theorem W1Z : rtx (-Rat.divInt 1 100) = [45, 49, 47, 49, 48, 48] := by
 unfold rtx
 rw [if_neg (by decide +kernel)]
 have e1 : (-(Rat.divInt 1 100)).num = -1 := by decide +kernel
 have e2 : (-(Rat.divInt 1 100)).den = 100 := by decide +kernel
 rw [e1, e2, itoa_neg (by decide)]
 show (45 :: Lib.decDigits 1) ++ 47 :: Lib.decDigits 100 = _
 rw [d1, d100]; rfl
theorem X1F (a b c : Int) (w : World) : (Instr.buildSlice 37 3 #[(0, .int .i64 a), (1, .int .i64 b), (2, .int .i64 c)]).run Tryz.prog w = .ok (.slice (some ⟨w.heap.size, 0, none⟩) 3 3) (w.alloc (.cells #[.int .i64 a, .int .i64 b, .int .i64 c] 3)) := by kernel_rfl
theorem k1p (p q r : Option Addr) (a b c d e f : Nat) : Tryz.prog.built 38 [(0, .slice p a b), (1, .slice q c d), (2, .slice r e f)] = some #[.slice p a b, .slice q c d, .slice r e f] := by kernel_rfl
theorem Z1e (A B C D E F : ByteArray) (p q r : Option Addr) (a b c d e f : Nat) : Tryz.prog.built 40 [(0, .agg #[.string A, .string B, .string C, .string D, .string E, .string F]), (1, .agg #[.slice p a b, .slice q c d, .slice r e f])] = some #[.string A, .string B, .string C, .string D, .string E, .string F, .slice p a b, .slice q c d, .slice r e f] := by kernel_rfl
theorem Z1Y (l m n : List Nat) : ∀ (Z : j0q) (w : World) (vs : List Value), All2 (fun τ v => AV.ok Z w τ v) [idx l, idx m, idx n] vs → ∃ cs : List Value, Tryz.prog.built 38 ([0, 1, 2].zip vs) = some cs.toArray ∧ cs.length = 3 ∧ ∀ i, i < 3 → ∃ u, cs[i]? = some u ∧ ((fun k : Nat => match k with | 0 => idx l | 1 => idx m | _ => idx n) i).ok Z w u := fun Z w vs h => by
 match vs, h with
 |[u, v, x], ⟨hu, hv, hx, _⟩ =>
  obtain ⟨_, _, e1, _⟩ := id hu
  obtain ⟨_, _, e2, _⟩ := id hv
  obtain ⟨_, _, e3, _⟩ := id hx
  refine ⟨[u, v, x], by subst e1 e2 e3; exact k1p _ _ _ _ _ _ _ _ _, rfl, fun i hi => ?_⟩
  rcases (by omega : i = 0 ∨ i = 1 ∨ i = 2) with rfl | rfl | rfl
  ·exact ⟨u, rfl, hu⟩
  ·exact ⟨v, rfl, hv⟩
  ·exact ⟨x, rfl, hx⟩
theorem Z1Z (S : Sys) (t : Nat → Rat) : ∀ (Z : j0q) (w : World) (vs : List Value), All2 (fun τ v => AV.ok Z w τ v) [.val (.agg (t6L t).toArray), .agg 3 (fun k : Nat => match k with | 0 => idx (onS S t 0) | 1 => idx (onS S t 1) | _ => idx (onS S t 2))] vs → ∃ cs : List Value, Tryz.prog.built 40 ([0, 1].zip vs) = some cs.toArray ∧ cs.length = 9 ∧ ∀ i, i < 9 → ∃ u, cs[i]? = some u ∧ (plA S t i).ok Z w u := fun Z w vs h => by
 match vs, h with
 |[_, _], ⟨rfl, ⟨ds, rfl, hl, hd⟩, _⟩ =>
  match ds, hl with
  |[u, v, x], _ =>
   obtain ⟨_, q1, hu⟩ := hd 0 zE
   obtain ⟨_, q2, hv⟩ := hd 1 zE
   obtain ⟨_, q3, hx⟩ := hd 2 zE
   cases q1; cases q2; cases q3
   obtain ⟨_, _, e1, _⟩ := id hu
   obtain ⟨_, _, e2, _⟩ := id hv
   obtain ⟨_, _, e3, _⟩ := id hx
   refine ⟨t6L t ++ [u, v, x], by subst e1 e2 e3; exact Z1e _ _ _ _ _ _ _ _ _ _ _ _ _ _ _, rfl, fun i hi => ?_⟩
   rcases (by omega : i = 0 ∨ i = 1 ∨ i = 2 ∨ i = 3 ∨ i = 4 ∨ i = 5 ∨ i = 6 ∨ i = 7 ∨ i = 8) with rfl | rfl | rfl | rfl | rfl | rfl | rfl | rfl | rfl
   ·exact ⟨_, rfl, rfl⟩
   ·exact ⟨_, rfl, rfl⟩
   ·exact ⟨_, rfl, rfl⟩
   ·exact ⟨_, rfl, rfl⟩
   ·exact ⟨_, rfl, rfl⟩
   ·exact ⟨_, rfl, rfl⟩
   ·exact ⟨u, rfl, hu⟩
   ·exact ⟨v, rfl, hv⟩
   ·exact ⟨x, rfl, hx⟩
theorem Z1u : t6L w0T.n = [.string ⟨#[45, 51]⟩, .string ⟨#[50]⟩, .string ⟨#[45, 49]⟩, .string ⟨#[48]⟩, .string ⟨#[48]⟩, .string ⟨#[48]⟩] := by
 show [sv (rtx (-3)), sv (rtx 2), sv (rtx (-1)), sv (rtx 0), sv (rtx 0), sv (rtx 0)] = _
 rw [k1i, X1a, k1h, rt0]
theorem y1O (l : List Nat) (n : Nat) (h : l.length = n) (us : List Value) (hu : us = l.map fun i => Value.int .i64 (i : Nat)) : ∀ i, i < n → ∀ j, j < 1 → ∃ u, us[i * 1 + j]? = some u ∧ xf l i j = .val u := fun i hi j hj => by
 obtain rfl : j = 0 := by omega
 subst h
 refine ⟨.int .i64 ((gi l i : Nat) : Int), ?_, rfl⟩
 rw [hu]
 simp [gi, List.getD, hi]
theorem awake_c : CtrA Tryz.prog 16 [] (vb true) := by
 have b0 := j1g 0 zE
 have b1 := j1g 1 zE
 rw [K0w rb0.chk] at b0
 rw [K0w rb1.chk] at b1
 have hm : w0T ∈ x0g (syO (RB 0)) := by rw [z1e]; exact List.mem_cons_self
 have f0 := j1N rb0 (List.length_pos_of_mem hm)
 rw [z1e] at f0
 rw [show gO [w0T] 0 = w0T from rfl, show decide ((1 : Int) < (([w0T] : List Tor).length : Int)) = false from rfl] at f0
 have c1 := V0f rb1
 have hlen := Y0w rb1.ok
 have hl1 := Q1n
 have hs := v1m (syO (RB 0)) w0T.n (Q0J rb0.chk)
 have hv := y1j rb0 hm
 have h5 : rtx ((gO (x0g (syO (RB 1))) (Int.toNat 0)).n 5) = [45, 49, 47, 49, 48, 48] := by
  rw [show (gO (x0g (syO (RB 1))) (Int.toNat 0)).n 5 = -Rat.divInt 1 100 from Y1Z]
  exact W1Z
 have h1 : rtx ((gO (x0g (syO (RB 1))) (Int.toNat 0)).n 1) = [50] := by
  rw [show (gO (x0g (syO (RB 1))) (Int.toNat 0)).n 1 = 2 from Y1Y]
  exact X1a
 refine j0s _ Tryz.func16 rfl rfl Tryz.ntmps16 rfl fun w Z => ?_
 refine zU ?_
 refine wt ?_
 refine q0U (j0y rfl rfl (x0f _ _) rfl rfl) ?_
 refine wt ?_
 rw [hl1]
 refine wt ?_
 refine j0j (j0m (t := 34) (is := [0, 1, 2]) (xs := [_, _, _]) (vs := [_, _, _]) (v1N _ _ _) rfl rfl) rfl ?_
 refine wt ?_
 refine j0j (j0m (t := 34) (is := [0, 1, 2]) (xs := [_, _, _]) (vs := [_, _, _]) (v1N _ _ _) rfl rfl) rfl ?_
 refine wt ?_
 refine j0j (j0m (t := 36) (is := [0, 1]) (xs := [_, _]) (vs := [_, _]) (X1u _ _ _ _ _ _) rfl rfl) rfl ?_
 refine wt ?_
 refine j0j (j0S (is := [0, 1, 2]) (xs := [_, _, _]) (vs := [_, _, _]) (us := [.int .i64 0, .int .i64 1, .int .i64 2]) (row := xf [0, 1, 2]) (X1F _ _ _) rfl rfl rfl (y1O [0, 1, 2] 3 rfl _ rfl)) rfl ?_
 refine wt ?_
 refine j0j (j0S (is := [0, 1]) (xs := [_, _]) (vs := [_, _]) (us := [.int .i64 0, .int .i64 1]) (row := xf [0, 1]) (z1G _ _) rfl rfl rfl (y1O [0, 1] 2 rfl _ rfl)) rfl ?_
 refine wt ?_
 refine j0j (w0D (t := 38) (is := [0, 1, 2]) (xs := [_, _, _]) (τs := [idx [0, 1, 2], idx [0, 1], idx [0]]) rfl rfl (Z1Y _ _ _)) rfl ?_
 refine wt ?_
 have h40 := Z1Z (syO (RB 0)) w0T.n
 rw [Y1V, Y1W, Y1X, Z1u] at h40
 refine j0j (w0D (t := 40) (is := [0, 1]) (xs := [_, _]) (τs := [.val _, .agg 3 _]) rfl rfl h40) rfl ?_
 refine wt ?_
 refine q0U (j0y rfl rfl (x0f _ _) rfl rfl) ?_
 refine wt ?_
 refine q0H (j0n (f := plA (syO (RB 0)) w0T.n) rfl rfl rfl) rfl ?_
 refine wt ?_
 refine q0H (j0n (f := plA (syO (RB 0)) w0T.n) rfl rfl rfl) rfl ?_
 refine wt ?_
 rw [show (rtx ((gO (x0g (syO (RB 1))) (Int.toNat 0)).n 5) == [45, 49, 47, 49, 48, 48]) = true from beq_iff_eq.2 h5]
 refine wt ?_
 rw [show (rtx ((gO (x0g (syO (RB 1))) (Int.toNat 0)).n 1) == [50]) = true from beq_iff_eq.2 h1]
 refine wt ?_
 refine Z0m (j0n (f := plA (syO (RB 0)) w0T.n) rfl rfl rfl) rfl rfl rfl rfl ?_
 refine wt ?_
 exact zV
end Go.Proofs.YtfggdokihnopeaaGreatDoor.H
section
end
namespace Go.Proofs.YtfggdokihnopeaaGreatDoor.H
open Go Go.Vc Go.RowKit Go.Na
set_option maxHeartbeats 4000000
def g3 (A B C : List UInt8) : Nat → List UInt8 := fun i => match i with | 0 => A | 1 => B | _ => C
theorem W1G (A B C : List UInt8) : K0l (g3 A B C) 0 3 = if v0j A ≠ 0 then v0j A else if v0j B ≠ 0 then v0j B else v0j C := by
 show (if v0j A ≠ 0 then v0j A else if v0j B ≠ 0 then v0j B else if v0j C ≠ 0 then v0j C else 0) = _
 by_cases h : v0j C = 0
 ·simp [h]
 ·simp [h]
end Go.Proofs.YtfggdokihnopeaaGreatDoor.H
namespace Go.Proofs.YtfggdokihnopeaaGreatDoor.H
open Go Go.Vc Go.RowKit
open Go.Na (rtx LR j0v v0j rsg itoa_neg j0E)
open Go.Lib (itoa decDigits)
set_option maxHeartbeats 4000000
theorem Y1q {k : Nat} {q : Rat} (hk : k ≤ 1000) (h : LR k q) (h0 : 0 < k) : (rtx q).length ≤ 2 * k + 3 := by
 have h1 := h.1.len h0
 have h2 := h.2.len h0
 have h3 : (itoa q.num).length ≤ k + 1 := by
  by_cases hn : q.num < 0
  ·rw [itoa_neg hn]; simp; omega
  ·rw [j0E hn]; omega
 unfold rtx
 split
 ·omega
 ·rw [List.length_append, List.length_cons]
  rw [Int.natAbs_natCast] at h2
  omega
abbrev apF (t : Nat → Rat) (p : Tr) : Nat → AV := fun j => vR (w0P t p j)
theorem V1D (S : Sys) (t : Nat → Rat) (k : Nat) (p : Tr) : w0P t p (S.ax k) = hq S t k p + (S.off k : Rat) := by
 rw [← J0e]; grind
theorem n3z (t : Nat → Rat) (p : Tr) (h : ∀ i, i < 3 → ((rtx (w0P t p i)).length ≤ 400)) : CtrA Tryz.prog 33 [.sl 3 1 (fun j _ => apF t p j)] (vi 0) := by
 have q := _root_.Go.Proofs.YtfggdokihnopeaaGreatDoor.numbers_c 3 (g3 (rtx (w0P t p 0)) (rtx (w0P t p 1)) (rtx (w0P t p 2))) zE (fun i hi => by
  rcases (by omega : i = 0 ∨ i = 1 ∨ i = 2) with rfl | rfl | rfl
  ·exact h 0 zE
  ·exact h 1 zE
  ·exact h 2 zE)
 rw [W1G, j0v, j0v, j0v] at q
 refine CtrA.of q ⟨.sl' rfl (fun i hi j hj => ?_), trivial⟩
 rcases (by omega : i = 0 ∨ i = 1 ∨ i = 2) with rfl | rfl | rfl <;> rfl
theorem v1h {q : Rat} (h : 0 ≤ q) (h0 : q ≠ 0) : rsg q = 1 := by
 have h1 : ¬ rsg q < 0 := fun e => by have := x0j.1 e; grind
 have h2 : rsg q ≠ 0 := fun e => h0 (v0g.1 e)
 unfold rsg at *
 split at h2
 ·exact absurd rfl h2
 ·rename_i h3
  rw [if_neg h3] at h1 ⊢
  split at h1
  ·exact absurd zE h1
  ·rename_i h4
   rw [if_neg h4]
theorem q1x {S : Sys} (h : OkS S) (k : Nat) : LR 900 ((S.off k : Int) : Rat) := Go.Na.LR.mono (q0h (x := S.off k) (by have := h.off k; omega)) (by decide)
theorem z1W {S : Sys} (h : OkS S) {t : Nat → Rat} (q2 : ∀ k, k < 3 → ∀ p, BT 2000 p → LR 43 (hq S t k p)) {k : Nat} (hk : k < 3) (i : Nat) : LR 87 (w0P t (gt (S.sp k) i) (S.ax k)) := by
 rw [V1D]
 exact Go.Na.LR.add (q2 k hk _ (h.sp k i)) (Go.Na.LR.mono (q0h (x := S.off k) (by have := h.off k; omega)) zE)
theorem Y1v {S : Sys} (h : OkS S) {j : Nat} (hj : j < 3) : ∃ k, k < 3 ∧ S.ax k = j := by
 obtain ⟨h0, h1, h2, h3, h4, h5⟩ := h.pr
 by_cases e0 : S.ax 0 = j
 ·exact ⟨0, by decide, e0⟩
 ·by_cases e1 : S.ax 1 = j
  ·exact ⟨1, by decide, e1⟩
  ·exact ⟨2, by decide, by omega⟩
theorem z1X {S : Sys} (h : OkS S) {t : Nat → Rat} (q2 : ∀ k, k < 3 → ∀ p, BT 2000 p → LR 43 (hq S t k p)) (i m : Nat) {j : Nat} (hj : j < 3) : (rtx (w0P t (gt (S.sp m) i) j)).length ≤ 400 := by
 obtain ⟨k, hk, rfl⟩ := Y1v h hj
 have h1 : LR 87 (w0P t (gt (S.sp m) i) (S.ax k)) := by
  rw [V1D]
  exact Go.Na.LR.add (q2 k hk _ (h.sp m i)) (Go.Na.LR.mono (q0h (x := S.off k) (by have := h.off k; omega)) zE)
 have := Y1q zE h1 zE
 omega
theorem rests_c (R : Syr) (hw : CtrA Tryz.prog 16 [] (vb true)) : CtrA Tryz.prog 7 [.agg 9 (srA R)] (vb true) := by
 have hr := K0h R
 cases e : x0M R with
 |false =>
  rw [e] at hr
  refine j0s _ Tryz.func7 rfl rfl Tryz.ntmps7 rfl fun w Z => ?_
  refine zU ?_
  refine wt ?_
  refine j0j (j0i rfl rfl) rfl ?_
  refine wt ?_
  exact zV
 |true =>
  rw [e] at hr
  have h := x1G e
  have hs := K0w h.chk
  rw [hs] at hr ⊢
  have hc := V0f h
  have hlen := Y0w h.ok
  have hlen2 := Q0J h.chk
  obtain ⟨S, hS⟩ : ∃ S, S = syO R := ⟨_, rfl⟩
  have hok := h.ok
  rw [← hS] at hr hc hlen hok hlen2 ⊢
  refine j0s _ Tryz.func7 rfl rfl Tryz.ntmps7 rfl fun w Z => ?_
  refine zU ?_
  refine wt ?_
  refine j0j (j0i rfl rfl) rfl ?_
  refine wt ?_
  refine j0j (j0i rfl rfl) rfl ?_
  refine wt ?_
  refine j0g (γ := Nat) (fun i => [(1, .av (.ptr 9 (syA S))), (25, .av (Q1i S)), (26, .av (vi (x0g S).length)), (27, .av (vi i))]) (fun _ => []) (fun i => i ≤ (x0g S).length) (fun i => (x0g S).length - i) 0 zO (ent zS trivial) ?_
  intro a ha
  refine wt ?_
  (refine j0a rfl ?_ ?_ <;> intro hb <;> (try simp only [zA, zB, zG, zC, zD, zN] at hb) <;> (try exact zQ))
  ·have hal : a < (x0g S).length := by omega
   have hp := z1c hok (W1k hal)
   refine wt ?_
   obtain ⟨x, hx⟩ : ∃ x, x = gO (x0g S) a := ⟨_, rfl⟩
   rw [← hx] at hp ⊢
   obtain ⟨t, ht⟩ : ∃ t, t = x.n := ⟨_, rfl⟩
   have hup := hp.up
   have hq1 := hp.q1
   have hq2 := hp.q2
   rw [← ht] at hup hq1 hq2 ⊢
   refine j0j (j0i rfl rfl) rfl ?_
   refine wt ?_
   refine q0U (j0y rfl rfl (x0f _ _) rfl rfl) ?_
   refine wt ?_
   refine j0z (j0F 6 10 (plA S t) rfl rfl rfl) ?_
   refine wt ?_
   refine j0j (j0i rfl rfl) rfl ?_
   refine wt ?_
   refine j0g (γ := Nat) (fun i => [(1, .av (.ptr 9 (syA S))), (25, .av (Q1i S)), (26, .av (vi (x0g S).length)), (27, .av (vi a)), (6, .av (.ptr 9 (plA S t))), (32, .av (.agg 3 (fun j => syA S (6 + j)))), (33, .av (vi i))]) (fun _ => []) (fun i => i ≤ 3) (fun i => 3 - i) 0 zO (ent zS trivial) ?_
   intro k hk
   match k, hk with
   |0, _ =>
    refine wt ?_
    refine j0j (q0p (k := 0) zE (z1y) rfl rfl) rfl ?_
    refine wt ?_
    refine j0g (γ := Nat) (fun i => [(1, .av (.ptr 9 (syA S))), (25, .av (Q1i S)), (26, .av (vi (x0g S).length)), (27, .av (vi a)), (6, .av (.ptr 9 (plA S t))), (32, .av (.agg 3 (fun j => syA S (6 + j)))), (33, .av (vi 0)), (7, .av (vi 0)), (37, .av (ts (S.sp 0))), (38, .av (vi (S.sp 0).length)), (39, .av (vi i))]) (fun _ => []) (fun i => i ≤ (S.sp 0).length) (fun i => (S.sp 0).length - i) 0 zO (ent zS trivial) ?_
    intro i hi
    refine wt ?_
    (refine j0a rfl ?_ ?_ <;> intro hb <;> (try simp only [zA, zB, zG, zC, zD, zN] at hb) <;> (try exact zQ))
    ·have hil : i < (S.sp 0).length := by omega
     have hln := hlen2 0 zE
     have hax : S.ax 0 < 3 := hok.ax zE
     have hln2 := x0I S t 0
     have hC := y0K (onS S t 0) i zO
     have hoff := hok.off 0
     have hW := z0e (S.off 0) zO
     have h87 := z1W hok hq2 (k := 0) zE i
     have h3 := fun j (hj : j < 3) => z1X hok hq2 i 0 hj
     have hN := n3z t (gt (S.sp 0) i) h3
     have hO := z0d (w0P t (gt (S.sp 0) i) (S.ax 0)) ((S.off 0 : Int) : Rat) (h87.mono zE) (q1x hok 0)
     have hap := y0J t (gt (S.sp 0) i) (hok.rt 0 i) hq1
     refine wt ?_
     refine j0j (j0k (us := t6L t) rfl rfl rfl rfl) rfl ?_
     refine wt ?_
     refine j0z (j0F 11 11 (apF t (gt (S.sp 0) i)) rfl rfl rfl) ?_
     refine j0z (j1G 11 (τ := .ptr 3 (apF t (gt (S.sp 0) i))) (τ' := .ptr 3 (apF t (gt (S.sp 0) i))) rfl (ALe.refl _)) ?_
     refine x0m (v0O (n := 3) (f := apF t (gt (S.sp 0) i)) rfl zE zE) rfl rfl rfl ?_
     refine wt ?_
     have hL := h3 (S.ax 0) hax
     have hge : 0 ≤ hq S t 0 (gt (S.sp 0) i) := x0W.1 (hup 0 zE) i hil
     rw [J0e] at hO
     have e1 : S.ax 0 = S.ax 0 * 1 + 0 := by omega
     rw [e1] at hL hO
     (refine j0a rfl ?_ ?_ <;> intro hb <;> (try simp only [zA, zB, zG, zC, zD, zN] at hb) <;> (try exact zQ))
     ·by_cases hz : hq S t 0 (gt (S.sp 0) i) = 0
      ·rw [hz, show rsg (0 : Rat) = 0 by decide +kernel] at hO
       rw [decide_eq_true (j0Z.2 ⟨hil, hz⟩)] at hC
       refine wt ?_
       exact j0b (i + 1) zO zO (ent zS trivial)
      ·rw [v1h hge hz] at hO
       rw [decide_eq_false (fun hm => hz (j0Z.1 hm).2)] at hC
       refine wt ?_
       exact j0b (i + 1) zO zO (ent zS trivial)
    ·refine wt ?_
     exact j0b 1 zO zO (ent zS trivial)
   |1, _ =>
    refine wt ?_
    refine j0j (q0p (k := 1) zE (z1z) rfl rfl) rfl ?_
    refine wt ?_
    refine j0g (γ := Nat) (fun i => [(1, .av (.ptr 9 (syA S))), (25, .av (Q1i S)), (26, .av (vi (x0g S).length)), (27, .av (vi a)), (6, .av (.ptr 9 (plA S t))), (32, .av (.agg 3 (fun j => syA S (6 + j)))), (33, .av (vi 1)), (7, .av (vi 1)), (37, .av (ts (S.sp 1))), (38, .av (vi (S.sp 1).length)), (39, .av (vi i))]) (fun _ => []) (fun i => i ≤ (S.sp 1).length) (fun i => (S.sp 1).length - i) 0 zO (ent zS trivial) ?_
    intro i hi
    refine wt ?_
    (refine j0a rfl ?_ ?_ <;> intro hb <;> (try simp only [zA, zB, zG, zC, zD, zN] at hb) <;> (try exact zQ))
    ·have hil : i < (S.sp 1).length := by omega
     have hln := hlen2 1 zE
     have hax : S.ax 1 < 3 := hok.ax zE
     have hln2 := x0I S t 1
     have hC := y0K (onS S t 1) i zO
     have hoff := hok.off 1
     have hW := z0e (S.off 1) zO
     have h87 := z1W hok hq2 (k := 1) zE i
     have h3 := fun j (hj : j < 3) => z1X hok hq2 i 1 hj
     have hN := n3z t (gt (S.sp 1) i) h3
     have hO := z0d (w0P t (gt (S.sp 1) i) (S.ax 1)) ((S.off 1 : Int) : Rat) (h87.mono zE) (q1x hok 1)
     have hap := y0J t (gt (S.sp 1) i) (hok.rt 1 i) hq1
     refine wt ?_
     refine j0j (j0k (us := t6L t) rfl rfl rfl rfl) rfl ?_
     refine wt ?_
     refine j0z (j0F 11 11 (apF t (gt (S.sp 1) i)) rfl rfl rfl) ?_
     refine j0z (j1G 11 (τ := .ptr 3 (apF t (gt (S.sp 1) i))) (τ' := .ptr 3 (apF t (gt (S.sp 1) i))) rfl (ALe.refl _)) ?_
     refine x0m (v0O (n := 3) (f := apF t (gt (S.sp 1) i)) rfl zE zE) rfl rfl rfl ?_
     refine wt ?_
     have hL := h3 (S.ax 1) hax
     have hge : 0 ≤ hq S t 1 (gt (S.sp 1) i) := x0W.1 (hup 1 zE) i hil
     rw [J0e] at hO
     have e1 : S.ax 1 = S.ax 1 * 1 + 0 := by omega
     rw [e1] at hL hO
     (refine j0a rfl ?_ ?_ <;> intro hb <;> (try simp only [zA, zB, zG, zC, zD, zN] at hb) <;> (try exact zQ))
     ·by_cases hz : hq S t 1 (gt (S.sp 1) i) = 0
      ·rw [hz, show rsg (0 : Rat) = 0 by decide +kernel] at hO
       rw [decide_eq_true (j0Z.2 ⟨hil, hz⟩)] at hC
       refine wt ?_
       exact j0b (i + 1) zO zO (ent zS trivial)
      ·rw [v1h hge hz] at hO
       rw [decide_eq_false (fun hm => hz (j0Z.1 hm).2)] at hC
       refine wt ?_
       exact j0b (i + 1) zO zO (ent zS trivial)
    ·refine wt ?_
     exact j0b 2 zO zO (ent zS trivial)
   |2, _ =>
    refine wt ?_
    refine j0j (q0p (k := 2) zE (z1A) rfl rfl) rfl ?_
    refine wt ?_
    refine j0g (γ := Nat) (fun i => [(1, .av (.ptr 9 (syA S))), (25, .av (Q1i S)), (26, .av (vi (x0g S).length)), (27, .av (vi a)), (6, .av (.ptr 9 (plA S t))), (32, .av (.agg 3 (fun j => syA S (6 + j)))), (33, .av (vi 2)), (7, .av (vi 2)), (37, .av (ts (S.sp 2))), (38, .av (vi (S.sp 2).length)), (39, .av (vi i))]) (fun _ => []) (fun i => i ≤ (S.sp 2).length) (fun i => (S.sp 2).length - i) 0 zO (ent zS trivial) ?_
    intro i hi
    refine wt ?_
    (refine j0a rfl ?_ ?_ <;> intro hb <;> (try simp only [zA, zB, zG, zC, zD, zN] at hb) <;> (try exact zQ))
    ·have hil : i < (S.sp 2).length := by omega
     have hln := hlen2 2 zE
     have hax : S.ax 2 < 3 := hok.ax zE
     have hln2 := x0I S t 2
     have hC := y0K (onS S t 2) i zO
     have hoff := hok.off 2
     have hW := z0e (S.off 2) zO
     have h87 := z1W hok hq2 (k := 2) zE i
     have h3 := fun j (hj : j < 3) => z1X hok hq2 i 2 hj
     have hN := n3z t (gt (S.sp 2) i) h3
     have hO := z0d (w0P t (gt (S.sp 2) i) (S.ax 2)) ((S.off 2 : Int) : Rat) (h87.mono zE) (q1x hok 2)
     have hap := y0J t (gt (S.sp 2) i) (hok.rt 2 i) hq1
     refine wt ?_
     refine j0j (j0k (us := t6L t) rfl rfl rfl rfl) rfl ?_
     refine wt ?_
     refine j0z (j0F 11 11 (apF t (gt (S.sp 2) i)) rfl rfl rfl) ?_
     refine j0z (j1G 11 (τ := .ptr 3 (apF t (gt (S.sp 2) i))) (τ' := .ptr 3 (apF t (gt (S.sp 2) i))) rfl (ALe.refl _)) ?_
     refine x0m (v0O (n := 3) (f := apF t (gt (S.sp 2) i)) rfl zE zE) rfl rfl rfl ?_
     refine wt ?_
     have hL := h3 (S.ax 2) hax
     have hge : 0 ≤ hq S t 2 (gt (S.sp 2) i) := x0W.1 (hup 2 zE) i hil
     rw [J0e] at hO
     have e1 : S.ax 2 = S.ax 2 * 1 + 0 := by omega
     rw [e1] at hL hO
     (refine j0a rfl ?_ ?_ <;> intro hb <;> (try simp only [zA, zB, zG, zC, zD, zN] at hb) <;> (try exact zQ))
     ·by_cases hz : hq S t 2 (gt (S.sp 2) i) = 0
      ·rw [hz, show rsg (0 : Rat) = 0 by decide +kernel] at hO
       rw [decide_eq_true (j0Z.2 ⟨hil, hz⟩)] at hC
       refine wt ?_
       exact j0b (i + 1) zO zO (ent zS trivial)
      ·rw [v1h hge hz] at hO
       rw [decide_eq_false (fun hm => hz (j0Z.1 hm).2)] at hC
       refine wt ?_
       exact j0b (i + 1) zO zO (ent zS trivial)
    ·refine wt ?_
     exact j0b 3 zO zO (ent zS trivial)
   |3, _ =>
    refine wt ?_
    exact j0b (a + 1) zO zO (ent zS trivial)
   |k + 4, hk => omega
  ·refine wt ?_
   exact zV
end Go.Proofs.YtfggdokihnopeaaGreatDoor.H
section
end
section
end
section
end
section
end
namespace Go.Proofs.YtfggdokihnopeaaGreatDoor
open Go Go.Vc Go.RowKit Go.ChangeShapes Go.WideShapes Go.ChangeAt Go.Joins
set_option maxRecDepth 100000
theorem V0F {P : Program} {w : World} : ∀ {l : List (String × DataW Unit)} {ps : List MemPlace}, DataW.LaidVars P w l ps → ∀ {n : String} {d : DataW Unit}, (n, d) ∈ l →
  ∃ g t cs fuel p, P.globalNamed n = some g ∧ (P.globals[g]?).map (·.type) = some t ∧ w.var? P n = some cs ∧ DataW.trod (fun _ => ()) P w 0 (fun _ => true) false fuel t cs.toList = some (d, p)
 |[], _, _, _, _, hm => by cases hm
 |(n', d') :: r, _, h, n, d, hm => by
  obtain ⟨g, t, cs, fuel, p, q, h1, h2, h3, h4, h5, _⟩ := h
  rcases List.mem_cons.1 hm with e | hm
  ·cases e; exact ⟨g, t, cs, fuel, p, h1, h2, h3, h4⟩
  ·exact V0F h5 hm
theorem J0G {H : Type} {enc : TypeId × Value → H} {P : Program} {W : World} {base : Nat} {spare : Nat → Bool} {held : Bool} {t e : TypeId} {q : IntKind} {n fuel : Nat} {cs : List Value} {d : DataW H} {p : List MemPlace}
  (ht : P.underlying t = some (.array n e)) (he : P.underlying e = some (.int q)) (hc : P.cellsOf e = 1) (hct : P.cellsOf t = n) (h : DataW.trod enc P W base spare held fuel t cs = some (d, p)) :
  ∃ ms : List Int, cs = ms.map (Value.int q) ∧ d = .agg (ms.map fun m => .lit (.int q m)) := by
 obtain ⟨xs, m, _, ex, hl, hxl, hel⟩ := DataW.trod_array ht h
 rw [hct] at hl
 rw [hc] at hel
 have key : ∀ i, i < n → ∃ z : Int, cs[i]? = some (.int q z) ∧ xs[i]? = some (.lit (.int q z), []) := fun i hi => by
  have h0 := hel i hi
  rw [List.getElem?_eq_getElem (by omega)] at h0
  obtain ⟨z, q0, q1, _⟩ := DataW.trod_int he h0
  refine ⟨z, ?_, by rw [List.getElem?_eq_getElem (by omega), q1]⟩
  have : ((cs.drop (i * 1)).take 1)[0]? = some (.int q z) := by rw [q0]; rfl
  simpa [List.getElem?_take, List.getElem?_drop] using this
 let f : Nat → Int := fun i => if h : i < n then (key i h).choose else 0
 have hf : ∀ i, i < n → cs[i]? = some (.int q (f i)) ∧ xs[i]? = some (.lit (.int q (f i)), []) := fun i hi => by
  have := (key i hi).choose_spec
  simpa [f, hi] using this
 refine ⟨(List.range n).map f, ?_, ?_⟩
 ·apply List.ext_getElem?
  intro i
  by_cases hi : i < n
  ·rw [(hf i hi).1]; simp [hi]
  ·rw [List.getElem?_eq_none (by omega), List.getElem?_eq_none (by simp; omega)]
 ·have hx : xs.map (·.1) = ((List.range n).map f).map (fun m => DataW.lit (.int q m)) := by
   apply List.ext_getElem?
   intro i
   by_cases hi : i < n
   ·rw [List.getElem?_map, (hf i hi).2]; simp [hi]
   ·rw [List.getElem?_eq_none (by simp; omega), List.getElem?_eq_none (by simp; omega)]
  have := congrArg Prod.fst ex
  rw [hx] at this
  exact this
end Go.Proofs.YtfggdokihnopeaaGreatDoor
