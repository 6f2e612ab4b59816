/- A part of the proof. -/
import Derived.DeepKeys
import Derived.Test.YtfggdokihnopeaaGreatDoorBar
set_option linter.unusedVariables false
set_option linter.unusedSimpArgs false
namespace Go.Proofs.YtfggdokihnopeaaGreatDoor.H
open Go Go.Vc Go.RowKit
open Go.Na (rtx LR j0u q0T rsg)
set_option maxHeartbeats 4000000
theorem W1r {k : Nat} (hk : k < 3) (o : Int) (A B C : Rat) : Z1P (z1o k o A B C) = t6 (Q0O k o A B C) := by
 rcases (by omega : k = 0 ∨ k = 1 ∨ k = 2) with rfl | rfl | rfl <;> simp [z1o, t6, Q0O, Z1P, rtx_0]
abbrev prT (t : Nat → Rat) : List AV := [t6 t, vi 0]
abbrev ywV (y : Nat) : AV := .val (.func (.yield y) #[] #[])
structure OkS (S : Sys) : Prop extends SmS S where
 n0 : (S.sp 0).length ≤ 6
 n1 : (S.sp 1).length ≤ 6
 n2 : (S.sp 2).length ≤ 6
 p2 : 0 < (S.sp 2).length
 st : w0c (x0j (S.sp 0) (S.ax 0)) = false
theorem z0n (S : Sys) : (j0K S).length = (j0W (S.sp 0) (S.ax 0)).length := by unfold j0K; rw [List.length_map]
theorem q1i {S : Sys} (h : OkS S) : x1K (S.sp 0) (S.ax 0 : Nat) = j0B [.sl (j0W (S.sp 0) (S.ax 0)).length 5 (pf5 (S.ax 0 : Nat) (j0W (S.sp 0) (S.ax 0))), vi 0] := by
 have hR := h.rt 0
 have hc : w0A (S.sp 0) = 0 := by
  unfold w0A
  rw [if_neg (by have := h.n0; omega), if_pos]
  rw [List.all_eq_true]
  intro p hp
  obtain ⟨i, hi, rfl⟩ := List.getElem_of_mem hp
  have e : (S.sp 0)[i] = gt (S.sp 0) i := by simp [gt, hi, List.getD]
  rw [e]
  have hb := hR i
  have := hb.x; have := hb.y; have := hb.z
  unfold j0Z inB; simp only [Bool.and_eq_true, decide_eq_true_eq]; omega
 have hk : S.ax 0 < 3 := h.ax zE
 have hg : x1E (S.sp 0) (S.ax 0 : Nat) = 0 := by
  unfold x1E
  rw [if_neg (by rw [hc]; simp), if_pos (by omega)]
 unfold x1K
 rw [if_neg (by rw [hg]; simp), Int.toNat_natCast]
 unfold Y0K
 rw [if_neg (by rw [Z0W hR (by have := h.n0; omega) _]; simp), if_neg (by rw [h.st]; simp)]
theorem X0z {S : Sys} (h : OkS S) : (j0W (S.sp 0) (S.ax 0)).length ≤ 1000 := by
 have := Z0S (l := S.sp 0) (S.ax 0) (by have := h.n0; omega)
 omega
theorem y1m (S : Sys) (h : OkS S) : CtrL Tryz.prog 149 [.ptr 9 (syA S)] ((j0K S).map prT) := by
 have hc := z0L (S.sp 0) (S.ax 0 : Nat) (by unfold X1D; simp [h.n0])
 rw [q1i h] at hc
 have hfl := z0n S
 have hcl : (j0W (S.sp 0) (S.ax 0)).length ≤ 1000 := X0z h
 refine K1k _ Tryz.func149 rfl rfl Tryz.ntmps149 rfl fun y J Y w Z S0 => ?_
 refine zU ?_
 refine wt ?_
 refine W0a Y (γ := Nat) (fun i => [(0, .av (ywV y)), (1, .av (.ptr 9 (syA S))), (25, .av (.sl (j0W (S.sp 0) (S.ax 0)).length 5 (pf5 (S.ax 0 : Nat) (j0W (S.sp 0) (S.ax 0))))), (26, .av (vi (j0W (S.sp 0) (S.ax 0)).length)), (27, .av (vi i))]) (fun i => i) (fun i => i ≤ (j0W (S.sp 0) (S.ax 0)).length) (fun i => (j0W (S.sp 0) (S.ax 0)).length - i) 0 S0 (Nat.zero_le _) (ent zS trivial) ?_
 intro i hi w Z S1
 refine wt ?_
 (refine j0a rfl ?_ ?_ <;> intro hb <;> (try simp only [zA, zB, zG, zC, zD, zN] at hb) <;> (try exact zQ))
 ·have hil : i < (j0W (S.sp 0) (S.ax 0)).length := by omega
  have hm : gP (j0W (S.sp 0) (S.ax 0)) i ∈ j0W (S.sp 0) (S.ax 0) := x0u hil
  obtain ⟨lA, lB, lC⟩ := w1Y (h.rt 0) (J0G hm)
  have hT : CtrA Tryz.prog 150 [.agg 5 (pf5 (S.ax 0 : Nat) (j0W (S.sp 0) (S.ax 0)) i), vi (S.off 0)] (j0B [t6 (Q0O (S.ax 0) (S.off 0) (gP (j0W (S.sp 0) (S.ax 0)) i).A (gP (j0W (S.sp 0) (S.ax 0)) i).B (gP (j0W (S.sp 0) (S.ax 0)) i).C), vi 0]) := by
   have q := j1M (S.ax 0) (h.ax zE) (gP (j0W (S.sp 0) (S.ax 0)) i).A (gP (j0W (S.sp 0) (S.ax 0)) i).B (gP (j0W (S.sp 0) (S.ax 0)) i).C (idx (gP (j0W (S.sp 0) (S.ax 0)) i).s) (S.off 0) (by have := h.off 0; omega) (Go.Na.LR.mono lA zE) (Go.Na.LR.mono lB zE) (Go.Na.LR.mono lC zE) (by have := LR.len' lA zE; omega) (by have := LR.len' lB zE; omega) (by have := LR.len' lC zE; omega)
   rw [W1r (h.ax (by decide))] at q
   exact q
  have hy : ((j0K S).map prT)[i]? = some (prT (Q0O (S.ax 0) (S.off 0) (gP (j0W (S.sp 0) (S.ax 0)) i).A (gP (j0W (S.sp 0) (S.ax 0)) i).B (gP (j0W (S.sp 0) (S.ax 0)) i).C)) := by
   unfold j0K
   rw [List.map_map, List.getElem?_map, List.getElem?_eq_getElem hil, W0m hil]
   rfl
  refine wt ?_
  refine j0j (j0d rfl rfl) rfl ?_
  refine wt ?_
  refine q0M (j0t rfl rfl (x0C _ _ _ _ _) rfl rfl) ?_
  refine wt ?_
  refine j0j (j0l (f := pf5 (S.ax 0 : Nat) (j0W (S.sp 0) (S.ax 0)) i) rfl rfl rfl) rfl ?_
  refine wt ?_
  obtain ⟨u, hu⟩ : ∃ u, u = Q0O (S.ax 0) (S.off 0) (gP (j0W (S.sp 0) (S.ax 0)) i).A (gP (j0W (S.sp 0) (S.ax 0)) i).B (gP (j0W (S.sp 0) (S.ax 0)) i).C := ⟨_, rfl⟩
  rw [← hu] at hy ⊢
  refine j0j (j0i (us := t6L u) rfl rfl rfl rfl) rfl ?_
  refine wt ?_
  refine j0x (T' := [(0, .av (ywV y)), (1, .av (.ptr 9 (syA S))), (25, .av (.sl (j0W (S.sp 0) (S.ax 0)).length 5 (pf5 (S.ax 0 : Nat) (j0W (S.sp 0) (S.ax 0))))), (26, .av (vi (j0W (S.sp 0) (S.ax 0)).length)), (27, .av (vi i)), (8, .av (vi 0)), (39, .av (ywV y)), (40, .av (t6 u)), (41, .av (vi 0))]) (O' := []) (ent zS trivial) ?_
  refine x0L Y S1 hy rfl rfl rfl (fun w' Z' S2 => ?_)
  refine wt ?_
  exact x0K Y (g := i) (i + 1) S2 zO zO (ent zS trivial)
 ·have hil : i = (j0W (S.sp 0) (S.ax 0)).length := by omega
  subst hil
  refine wt ?_
  rw [← z0n, ← List.length_map (f := prT)] at S1
  exact W0N Y rfl S1
abbrev ln1 (S : Sys) (t : Nat → Rat) : Nat → Nat → Option (Nat → Rat) := fun i k => lnS S t i k
abbrev hqf (S : Sys) (t : Nat → Rat) (k : Nat) : Nat → Rat := fun i => hq S t k (gt (S.sp k) i)
theorem w1v (S : Sys) (h : OkS S) (t : Nat → Rat) (ht : t ∈ j0K S) : CtrL Tryz.prog 151 [.ptr 9 (syA S), t6P t] ((second S t).map prT) := by
 obtain ⟨q1, q2⟩ := k0p h.toSmS ht
 have hn1 := h.n1
 have hh := z0t S h.toSmS t q1 zO
 have hlen : ((second S t).map prT).length = fmC (ln1 S t) (S.sp 1).length 0 := by rw [List.length_map, Q0C, Q1N]
 have hat : ∀ i k u, i < (S.sp 1).length → k < i → ln1 S t i k = some u → ((second S t).map prT)[fmC (ln1 S t) i k]? = some (prT u) := fun i k u hi hk e => by
  rw [List.getElem?_map, Q0C, k1p hi hk e]; rfl
 refine K1k _ Tryz.func151 rfl rfl Tryz.ntmps151 rfl fun y J Y w Z S0 => ?_
 refine zU ?_
 refine wt ?_
 refine j0j (j0d rfl rfl) rfl ?_
 refine wt ?_
 refine j0j (j0k (us := t6L t) rfl rfl rfl rfl) rfl ?_
 refine wt ?_
 refine j0C (j0R 22 hh rfl rfl) rfl ?_
 refine wt ?_
 refine W0a Y (γ := Nat) (fun i => [(0, .av (ywV y)), (1, .av (.ptr 9 (syA S))), (2, .av (t6P t)), (4, .av (rsl (hqf S t 1) (S.sp 1).length)), (27, .av (vi (S.sp 1).length)), (28, .av (vi i))]) (fun i => fmC (ln1 S t) i 0) (fun i => i ≤ (S.sp 1).length) (fun i => (S.sp 1).length - i) 0 S0 (Nat.zero_le _) (Ent.trans (q0V 22 rfl) (ent zS trivial)) ?_
 intro i hi w Z S1
 refine wt ?_
 (refine j0a rfl ?_ ?_ <;> intro hb <;> (try simp only [zA, zB, zG, zC, zD, zN] at hb) <;> (try exact zQ))
 ·have hil : i < (S.sp 1).length := by omega
  refine wt ?_
  refine W0a Y (γ := Nat) (fun k => [(0, .av (ywV y)), (1, .av (.ptr 9 (syA S))), (2, .av (t6P t)), (4, .av (rsl (hqf S t 1) (S.sp 1).length)), (27, .av (vi (S.sp 1).length)), (28, .av (vi i)), (6, .av (vi i)), (31, .av (vi i)), (32, .av (vi k))]) (fun k => fmC (ln1 S t) i k) (fun k => k ≤ i) (fun k => i - k) 0 S1 (Nat.zero_le _) (ent zS trivial) ?_
  intro k hk w Z S2
  refine wt ?_
  (refine j0a rfl ?_ ?_ <;> intro hb <;> (try simp only [zA, zB, zG, zC, zD, zN] at hb) <;> (try exact zQ))
  ·have hkl : k < i := by omega
   have hle := v1k S h.toSmS t ht (i := i) (k := k) hil zO zO
   have hbi := h.sp 1 i
   have hbk := h.sp 1 k
   by_cases he : q0g S (gt (S.sp 1) i) = q0g S (gt (S.sp 1) k)
   ·have hn : ln1 S t i k = none := if_pos he
    unfold v1h at hle
    rw [if_pos he] at hle
    rw [← k0t hn] at S2
    refine wt ?_
    refine j0j (j0d rfl rfl) rfl ?_
    refine wt ?_
    refine j0j (j0k (us := t6L t) rfl rfl rfl rfl) rfl ?_
    refine wt ?_
    exact x0K Y (g := k) (k + 1) S2 zO zO (ent zS trivial)
   ·unfold v1h at hle
    rw [if_neg he] at hle
    obtain ⟨l1, l2, l3, l4, l5⟩ := v1j h.toSmS ht hbi hbk he
    have hh2 := z0t S h.toSmS (q0N S t (gt (S.sp 1) i) (gt (S.sp 1) k)) l1 zO
    cases hl : lwS S (q0N S t (gt (S.sp 1) i) (gt (S.sp 1) k)) 1 with
    |true =>
     have hn : ln1 S t i k = none := (if_neg he).trans (if_pos hl)
     have hct := Y0O (hqf S (q0N S t (gt (S.sp 1) i) (gt (S.sp 1) k)) 1) (S.sp 1).length zO (fun j _ => l5 1 zE _ (h.sp 1 j)) hl
     rw [← k0t hn] at S2
     refine wt ?_
     refine j0j (j0d rfl rfl) rfl ?_
     refine wt ?_
     refine j0j (j0k (us := t6L t) rfl rfl rfl rfl) rfl ?_
     refine wt ?_
     refine j0j (j0d rfl rfl) rfl ?_
     refine wt ?_
     refine j0j (j0i (us := t6L (q0N S t (gt (S.sp 1) i) (gt (S.sp 1) k))) rfl rfl rfl rfl) rfl ?_
     refine wt ?_
     refine j0C (j0R 23 hh2 rfl rfl) rfl ?_
     refine wt ?_
     refine j0x (q0V 23 rfl) ?_
     refine wt ?_
     exact x0K Y (g := k) (k + 1) S2 zO zO (ent zS trivial)
    |false =>
     have hn : ln1 S t i k = some (q0N S t (gt (S.sp 1) i) (gt (S.sp 1) k)) := (if_neg he).trans (if_neg (by rw [hl]; simp))
     have hct := w0R (hqf S (q0N S t (gt (S.sp 1) i) (gt (S.sp 1) k)) 1) (S.sp 1).length zO (fun j _ => l5 1 zE _ (h.sp 1 j)) hl
     have hy := hat i k _ hil hkl hn
     refine wt ?_
     refine j0j (j0d rfl rfl) rfl ?_
     refine wt ?_
     refine j0j (j0k (us := t6L t) rfl rfl rfl rfl) rfl ?_
     refine wt ?_
     refine j0j (j0d rfl rfl) rfl ?_
     refine wt ?_
     refine j0j (j0i (us := t6L (q0N S t (gt (S.sp 1) i) (gt (S.sp 1) k))) rfl rfl rfl rfl) rfl ?_
     refine wt ?_
     refine j0C (j0R 23 hh2 rfl rfl) rfl ?_
     refine wt ?_
     refine j0x (q0V 23 rfl) ?_
     refine wt ?_
     refine j0C (j0R 24 hct rfl rfl) rfl ?_
     refine wt ?_
     obtain ⟨u, hu⟩ : ∃ u, u = q0N S t (gt (S.sp 1) i) (gt (S.sp 1) k) := ⟨_, rfl⟩
     rw [← hu] at hy hn ⊢
     refine j0j (j0i (us := t6L u) rfl rfl rfl rfl) rfl ?_
     refine wt ?_
     refine j0x (T' := [(0, .av (ywV y)), (1, .av (.ptr 9 (syA S))), (2, .av (t6P t)), (4, .av (rsl (hqf S t 1) (S.sp 1).length)), (27, .av (vi (S.sp 1).length)), (28, .av (vi i)), (6, .av (vi i)), (31, .av (vi i)), (32, .av (vi k)), (10, .av (vi 0)), (68, .av (ywV y)), (69, .av (t6 u)), (70, .av (vi 0))]) (O' := []) (ent zS trivial) ?_
     refine x0L Y S2 hy rfl rfl rfl (fun w' Z' S3 => ?_)
     rw [← y1n hn] at S3
     refine wt ?_
     exact x0K Y (g := k) (k + 1) S3 zO zO (ent zS trivial)
  ·have hkl : k = i := by omega
   subst hkl
   rw [← Q1O] at S2
   refine wt ?_
   exact x0K Y (g := k) (k + 1) S2 zO zO (ent zS trivial)
 ·have hil : i = (S.sp 1).length := by omega
  subst hil
  refine wt ?_
  rw [← hlen] at S1
  exact W0N Y rfl S1
theorem z1j (S : Sys) (h : OkS S) (u : Nat → Rat) (q1 : ∀ i, LR 43 (u i)) (q2 : ∀ k, k < 3 → ∀ p, BT 2000 p → LR 43 (hq S u k p)) : CtrLX Tryz.prog 153 [.ptr 9 (syA S)] 6 (fun i => vR (u i)) [prT (q0t S u)] := by
 have hn2 := h.n2
 have hp2 := h.p2
 have hh := V0s S h.toSmS u q1 zO
 have hf : ∀ i, LR 43 (hq S u 2 (gt (S.sp 2) i)) := fun i => q2 2 zE _ (h.sp 2 i)
 have hmn : ∀ k, LR 43 (Q0N (hqf S u 2) k) := fun k => by
  rcases (Q0q (hqf S u 2) k).2.2 with e | ⟨i, _, e⟩
  ·rw [e]; exact hf 0
  ·rw [e]; exact hf i
 have e0 : (((S.sp 2).length : Int) == 0) = false := by rw [beq_eq_false_iff_ne]; omega
 refine k1h _ Tryz.func153 rfl rfl Tryz.ntmps153 rfl fun y J Y w Z b ν hν hbl S0 => ?_
 refine zU ?_
 refine wt ?_
 refine j0j (j0d rfl rfl) rfl ?_
 refine wt ?_
 refine j0j (j0i (us := t6L u) rfl rfl rfl rfl) rfl ?_
 refine wt ?_
 refine j0C (j0R 22 hh rfl rfl) rfl ?_
 refine wt ?_
 rw [e0]
 refine wt ?_
 refine j0h (γ := Nat) (fun i => [(0, .av (ywV y)), (1, .av (.ptr 9 (syA S))), (2, .own 1000 0), (4, .osl 22), (32, .osl 22), (33, .av (vi (S.sp 2).length)), (34, .av (vi i)), (6, .av (vR (Q0N (hqf S u 2) i))), (5, .av (vi 0))]) (fun _ => [(22, .row 33 1 (S.sp 2).length (hgF S u 2)), (1000, .cells ((List.range 6).map fun i => .av (vR (u i))))]) (fun i => i ≤ (S.sp 2).length) (fun i => (S.sp 2).length - i) 0 zO (ent zS zT) ?_
 intro i hi
 refine wt ?_
 (refine j0a rfl ?_ ?_ <;> intro hb <;> (try simp only [zA, zB, zG, zC, zD, zN] at hb) <;> (try exact zQ))
 ·have hil : i < (S.sp 2).length := by omega
  have hc := v0X (hqf S u 2 i) (Q0N (hqf S u 2) i) (Go.Na.LR.mono (hf i) zE) (Go.Na.LR.mono (hmn i) zE)
  refine wt ?_
  (refine j0a rfl ?_ ?_ <;> intro hb <;> (try simp only [zA, zB, zG, zC, zD, zN] at hb) <;> (try exact zQ))
  ·have e : Q0N (hqf S u 2) (i + 1) = hqf S u 2 i := if_pos (by have := x0F.1 hb; grind)
   refine wt ?_
   exact j0b (i + 1) (by omega) (by omega) (ent ⟨.refl _, .refl _, .refl _, .refl _, .refl _, .refl _, .int (by omega), (by show SLe _ (.av (vR (Q0N (hqf S u 2) (i + 1)))); rw [e]; exact .refl _), .refl _, trivial⟩ zT)
  ·have e : Q0N (hqf S u 2) (i + 1) = Q0N (hqf S u 2) i := if_neg (fun q => hb (x0F.2 (by grind)))
   refine wt ?_
   exact j0b (i + 1) (by omega) (by omega) (ent ⟨.refl _, .refl _, .refl _, .refl _, .refl _, .refl _, .int (by omega), (by show SLe _ (.av (vR (Q0N (hqf S u 2) (i + 1)))); rw [e]; exact .refl _), .refl _, trivial⟩ zT)
 ·have hil : i = (S.sp 2).length := by omega
  subst hil
  have hng := W0D (Q0N (hqf S u 2) (S.sp 2).length) (Go.Na.LR.mono (hmn _) zE)
  have hw := Q1b u (-Q0N (hqf S u 2) (S.sp 2).length) 0 q1 (Go.Na.LR.neg (hmn _)) (Go.Na.LR.mono (q0l (x := 0) zE) zE) (s := S.ax 2) (r := S.ax 2) (h.ax zE) (h.ax zE)
  rw [show vR 0 = vS [48] from congrArg vS rtx_0] at hw
  refine wt ?_
  refine j0j (j0i (us := t6L u) rfl rfl rfl rfl) rfl ?_
  refine wt ?_
  refine j0j (j0i (us := t6L (q0t S u)) rfl rfl rfl rfl) rfl ?_
  refine wt ?_
  refine j1g Y hν S0 rfl (fun q => q) hbl (fun q => by cases q) (fun w' Z' S1 => ?_)
  refine j0x (T' := [(0, .av (ywV y)), (67, .av (ywV y)), (68, .av (t6 (q0t S u))), (69, .av (vi 0))]) (O' := []) (ent zS trivial) ?_
  refine x0L Y S1 (τ := prT (q0t S u)) rfl rfl rfl rfl (fun w2 Z2 S2 => ?_)
  refine wt ?_
  exact W0N Y rfl S2
abbrev cfn (l : List AV) : Nat → AV := fun i => l.getD i .any
abbrev cl1 (S : Sys) : Nat → AV := cfn [.ptr 9 (syA S)]
abbrev cl2 (S : Sys) (t : Nat → Rat) : Nat → AV := cfn [.ptr 9 (syA S), t6P t]
abbrev cla (a b : AV) : Nat → AV := cfn [.ptr 1 (fun _ => a), .ptr 1 (fun _ => b)]
abbrev clb (a b : AV) (t : Nat → Rat) : Nat → AV := cfn [.ptr 1 (fun _ => a), t6P t, .ptr 1 (fun _ => b)]
theorem Q1M (S : Sys) (t : Nat → Rat) : CtrA Tryz.prog 89 [syV S, t6 t] (.clo 149 1 (cl1 S)) := by
 refine j0r _ Tryz.func89 rfl rfl Tryz.ntmps89 rfl fun w Z => ?_
 refine zU ?_
 refine wt ?_
 exact zV
theorem y1W (S : Sys) (t : Nat → Rat) : CtrA Tryz.prog 90 [syV S, t6 t] (.clo 151 2 (cl2 S t)) := by
 refine j0r _ Tryz.func90 rfl rfl Tryz.ntmps90 rfl fun w Z => ?_
 refine zU ?_
 refine wt ?_
 exact zV
theorem W1d (S : Sys) (t : Nat → Rat) : CtrH Tryz.prog 91 [.av (syV S), .av (t6 t)] [] (.clo 153 [.av (.ptr 9 (syA S)), .own 7 0]) [(7, .cells ((List.range 6).map fun i => .av (vR (t i))))] := by
 refine Q0R _ Tryz.func91 rfl rfl Tryz.ntmps91 rfl rfl fun w Z ν => ?_
 refine zU ?_
 refine v0D ?_
 refine j0V ?_
 refine j0j (x0R rfl) rfl ?_
 refine j0C (q0B (us := t6L t) 7 rfl rfl) rfl ?_
 refine wt ?_
 refine j0j (X0K (caps := [.av (.ptr 9 (syA S)), .own 7 0]) rfl) rfl ?_
 refine wt ?_
 exact q0o (T' := [(4, .clo 153 [.av (.ptr 9 (syA S)), .own 7 0])]) (O' := [(7, .cells ((List.range 6).map fun i => .av (vR (t i))))]) (ent ⟨.refl _, trivial⟩ zT) (v0Z rfl rfl rfl)
theorem X0u (a b : AV) (ha : One a) (hb : One b) : CtrA Tryz.prog 92 [a, b] (.clo 157 2 (cla a b)) := by
 refine j0r _ Tryz.func92 rfl rfl Tryz.ntmps92 rfl fun w Z => ?_
 refine zU ?_
 refine v0D ?_
 refine j0V ?_
 refine j0j (J1a rfl ha) rfl ?_
 refine j0j (J1a rfl hb) rfl ?_
 refine wt ?_
 exact zV
theorem Q0Y (a b : AV) (t : Nat → Rat) : CtrA Tryz.prog 157 [t6 t, .ptr 1 (fun _ => a), .ptr 1 (fun _ => b)] (.clo 158 3 (clb a b t)) := by
 refine j0r _ Tryz.func157 rfl rfl Tryz.ntmps157 rfl fun w Z => ?_
 refine zU ?_
 refine wt ?_
 exact zV
abbrev gU (l : List (Nat → Rat)) (i : Nat) : Nat → Rat := l.getD i (fun _ => 0)
theorem y0d {l : List (Nat → Rat)} {i : Nat} {t0 t1 : AV} (e : (l.map prT)[i]? = some [t0, t1]) : i < l.length ∧ l[i]? = some (gU l i) ∧ t0 = t6 (gU l i) ∧ t1 = vi 0 := by
 rw [List.getElem?_map] at e
 cases h : l[i]? with
 |none => rw [h] at e; cases e
 |some u =>
  rw [h] at e
  have hu : gU l i = u := by unfold gU; rw [List.getD_eq_getElem?_getD, h]; rfl
  rw [hu]
  simp only [Option.map_some, Option.some.injEq, List.cons.injEq, and_true] at e
  exact ⟨(List.getElem?_eq_some_iff.1 h).1, rfl, e.1.symm, e.2.symm⟩
theorem Q0v (l : List (Nat → Rat)) : ∀ τ ∈ l.map prT, ∃ t0 t1, τ = [t0, t1] := fun τ h => by
 obtain ⟨u, _, rfl⟩ := List.mem_map.1 h
 exact ⟨_, _, rfl⟩
abbrev bf1 (S : Sys) : AV := .bfn 89 [syV S]
abbrev bf2 (S : Sys) : AV := .bfn 90 [syV S]
abbrev bf3 (S : Sys) : AV := .bfn 91 [syV S]
theorem x1R (S : Sys) (h : OkS S) (z : Nat → Rat) : CtrL Tryz.prog 158 [.ptr 1 (fun _ => bf1 S), t6P z, .ptr 1 (fun _ => bf2 S)] (((j0K S).flatMap (second S)).map prT) := by
 have h1 := Q1M S z
 have hend : flC (second S) (j0K S) ((j0K S).map prT).length = (((j0K S).flatMap (second S)).map prT).length := by rw [List.length_map, q1P, List.length_map]
 refine X1l _ Tryz.func158 rfl rfl Tryz.ntmps158 rfl fun y J Y w Z S0 => ?_
 refine zU ?_
 refine wt ?_
 refine j0j (j0k (us := t6L z) rfl rfl rfl rfl) rfl ?_
 refine wt ?_
 refine j0j (V0j (cs := [syV S]) (τs := [t6 z]) h1 rfl rfl) rfl ?_
 refine wt ?_
 refine X0x (TL := [(3, .av (.ptr 1 (fun _ => bf2 S))), (4, .av (.ptr 1 (fun _ => ywV y))), (11, .av (.clo 149 1 (cl1 S)))]) (mOf := fun i => flC (second S) (j0K S) i) Y S0 (y1m S h) (fun i => [(5, .av (t6P (gU (j0K S) i))), (6, .av (vi 0)), (3, .av (.ptr 1 (fun _ => bf2 S))), (4, .av (.ptr 1 (fun _ => ywV y)))]) (ent zS trivial) rfl rfl rfl rfl rfl rfl (Q0v _) ?_ ?_ ?_
 ·rintro i t0 t1 e l' K' Zt' W Z' S1
  obtain ⟨hi, e1, rfl, rfl⟩ := y0d e
  refine wt ?_
  exact W0J Y S1 (Ent.trans (j0A 5 10 (fun j => .val ((t6L (gU (j0K S) i)).getD j undef)) rfl rfl rfl) (ent zS trivial))
 ·rintro i t0 t1 e l' K' Zt' W Z' S1 hrec
  obtain ⟨hi, e1, rfl, rfl⟩ := y0d e
  have h2 := y1W S (gU (j0K S) i)
  have hm : gU (j0K S) i ∈ j0K S := List.mem_of_getElem? e1
  refine wt ?_
  refine j0j (j0k (us := t6L (gU (j0K S) i)) rfl rfl rfl rfl) rfl ?_
  refine wt ?_
  refine j0j (V0j (cs := [syV S]) (τs := [t6 (gU (j0K S) i)]) h2 rfl rfl) rfl ?_
  refine wt ?_
  refine K0H (TL := [(4, .av (.ptr 1 (fun _ => ywV y))), (22, .av (.clo 151 2 (cl2 S (gU (j0K S) i))))]) (mOf := fun j => flC (second S) (j0K S) i + j) hrec Y S1 (w1v S h _ hm) (fun j => [(7, .av (t6P (gU (second S (gU (j0K S) i)) j))), (8, .av (vi 0)), (4, .av (.ptr 1 (fun _ => ywV y)))]) (ent zS trivial) rfl rfl rfl rfl rfl rfl (Q0v _) ?_ ?_ ?_
  ·rintro j t0 t1 e l2 K2 Zt2 W2 Z2 S2
   obtain ⟨hj, e2, rfl, rfl⟩ := y0d e
   refine wt ?_
   exact W0J Y S2 (Ent.trans (j0A 7 10 (fun m => .val ((t6L (gU (second S (gU (j0K S) i)) j)).getD m undef)) rfl rfl rfl) (ent zS trivial))
  ·rintro j t0 t1 e l2 K2 Zt2 W2 Z2 S2 hrec2
   obtain ⟨hj, e2, rfl, rfl⟩ := y0d e
   have hy : (((j0K S).flatMap (second S)).map prT)[flC (second S) (j0K S) i + j]? = some (prT (gU (second S (gU (j0K S) i)) j)) := by
    rw [List.getElem?_map, X1G (second S) e1 e2]; rfl
   refine wt ?_
   refine j0j (j0k (us := t6L (gU (second S (gU (j0K S) i)) j)) rfl rfl rfl rfl) rfl ?_
   refine wt ?_
   refine x0L Y S2 hy rfl rfl rfl (fun w' Z' S3 => ?_)
   refine wt ?_
   exact W0O Y S3
  ·intro W2 Z2 S2
   have e9 : flC (second S) (j0K S) (i + 1) = flC (second S) (j0K S) i + ((second S (gU (j0K S) i)).map prT).length := by rw [k0q (second S) e1, List.length_map]
   rw [← e9] at S2
   exact W0O Y S2
 ·intro D W Z2 S1 hD
  rw [hend] at S1
  exact V0I Y rfl S1 (.inr rfl) hD
abbrev ch2 (S : Sys) : AV := .clo 157 2 (cla (bf1 S) (bf2 S))
abbrev j1H (S : Sys) : List (Nat → Rat) := (j0K S).flatMap (second S)
theorem X0s (S : Sys) : (j1H S).flatMap (fun u => [q0t S u]) = q0w S := by
 unfold q0w
 rw [List.flatMap_assoc]
 congr 1
 funext t
 rw [List.map_eq_flatMap]
theorem x1S (S : Sys) (h : OkS S) (z : Nat → Rat) : CtrL Tryz.prog 158 [.ptr 1 (fun _ => ch2 S), t6P z, .ptr 1 (fun _ => bf3 S)] ((q0w S).map prT) := by
 have h1 : CtrA Tryz.prog 157 ([t6 z] ++ (List.range 2).map (cla (bf1 S) (bf2 S))) (.clo 158 3 (clb (bf1 S) (bf2 S) z)) := Q0Y (bf1 S) (bf2 S) z
 have hend : flC (fun u => [q0t S u]) (j1H S) ((j1H S).map prT).length = ((q0w S).map prT).length := by rw [List.length_map, q1P, X0s, List.length_map]
 refine X1l _ Tryz.func158 rfl rfl Tryz.ntmps158 rfl fun y J Y w Z S0 => ?_
 refine zU ?_
 refine wt ?_
 refine j0j (j0k (us := t6L z) rfl rfl rfl rfl) rfl ?_
 refine wt ?_
 refine X0x (TL := [(3, .av (.ptr 1 (fun _ => bf3 S))), (4, .av (.ptr 1 (fun _ => ywV y))), (11, .av (.clo 158 3 (clb (bf1 S) (bf2 S) z)))]) (mOf := fun i => flC (fun u => [q0t S u]) (j1H S) i) Y S0 (x1R S h z) (fun i => [(5, .av (t6P (gU (j1H S) i))), (6, .av (vi 0)), (3, .av (.ptr 1 (fun _ => bf3 S))), (4, .av (.ptr 1 (fun _ => ywV y)))]) (ent zS trivial) rfl rfl rfl rfl rfl rfl (Q0v _) ?_ ?_ ?_
 ·rintro i t0 t1 e l' K' Zt' W Z' S1
  obtain ⟨hi, e1, rfl, rfl⟩ := y0d e
  refine wt ?_
  exact W0J Y S1 (Ent.trans (j0A 5 10 (fun j => .val ((t6L (gU (j1H S) i)).getD j undef)) rfl rfl rfl) (ent zS trivial))
 ·rintro i t0 t1 e l' K' Zt' W Z' S1 hrec
  obtain ⟨hi, e1, rfl, rfl⟩ := y0d e
  have h3 := W1d S (gU (j1H S) i)
  obtain ⟨u, hu⟩ : ∃ u, u = gU (j1H S) i := ⟨_, rfl⟩
  rw [← hu] at e1 h3 ⊢
  obtain ⟨q1, q2⟩ : (∀ i, LR 43 (u i)) ∧ ∀ k, k < 3 → ∀ p, BT 2000 p → LR 43 (hq S u k p) := by
   obtain ⟨t, ht, hm⟩ := List.mem_flatMap.1 (List.mem_of_getElem? e1)
   exact w1w h.toSmS ht hm
  refine wt ?_
  refine j0j (j0k (us := t6L u) rfl rfl rfl rfl) rfl ?_
  refine wt ?_
  refine j0C (Z0G (cs := [syV S]) (τs := [t6 u]) [(7, 7)] h3 rfl rfl rfl) rfl ?_
  refine wt ?_
  refine K0I (TL := [(4, .av (.ptr 1 (fun _ => ywV y))), (22, .clo 153 [.av (.ptr 9 (syA S)), .own 7 0])]) (mOf := fun j => flC (fun u => [q0t S u]) (j1H S) i + j) (τa := [q0t S u].map prT) hrec Y S1 (z1j S h u q1 q2) (fun j => [(7, .av (t6P (gU [q0t S u] j))), (8, .av (vi 0)), (4, .av (.ptr 1 (fun _ => ywV y)))]) (ent zS zT) rfl rfl rfl rfl rfl rfl (Q0v _) ?_ ?_ ?_
  ·rintro j t0 t1 e l2 K2 Zt2 W2 Z2 S2
   obtain ⟨hj, e2, rfl, rfl⟩ := y0d e
   refine wt ?_
   exact W0J Y S2 (Ent.trans (j0A 7 10 (fun m => .val ((t6L (gU [q0t S u] j)).getD m undef)) rfl rfl rfl) (ent zS trivial))
  ·rintro j t0 t1 e l2 K2 Zt2 W2 Z2 S2 hrec2
   obtain ⟨hj, e2, rfl, rfl⟩ := y0d e
   have hy : ((q0w S).map prT)[flC (fun u => [q0t S u]) (j1H S) i + j]? = some (prT (gU [q0t S u] j)) := by
    rw [List.getElem?_map, ← X0s, X1G (fun u => [q0t S u]) e1 e2]; rfl
   refine wt ?_
   refine j0j (j0k (us := t6L (gU [q0t S u] j)) rfl rfl rfl rfl) rfl ?_
   refine wt ?_
   refine x0L Y S2 hy rfl rfl rfl (fun w' Z' S3 => ?_)
   refine wt ?_
   exact W0O Y S3
  ·intro W2 Z2 S2
   have e9 : flC (fun u => [q0t S u]) (j1H S) (i + 1) = flC (fun u => [q0t S u]) (j1H S) i + ([q0t S u].map prT).length := by rw [k0q (fun u => [q0t S u]) e1]; rfl
   rw [← e9] at S2
   exact W0O Y S2
 ·intro D W Z2 S1 hD
  rw [hend] at S1
  exact V0I Y rfl S1 (.inr rfl) hD
def plA (S : Sys) (t : Nat → Rat) : Nat → AV
 |0 => vR (t 0)
 |1 => vR (t 1)
 |2 => vR (t 2)
 |3 => vR (t 3)
 |4 => vR (t 4)
 |5 => vR (t 5)
 |6 => idx (onS S t 0)
 |7 => idx (onS S t 1)
 |_ => idx (onS S t 2)
abbrev plV (S : Sys) (t : Nat → Rat) : AV := .agg 9 (plA S t)
abbrev V1q : Value := .slice none 0 0
def plC (S : Sys) (t : Nat → Rat) (i : Nat) : List SV := ((t6L t).map fun u => SV.av (.val u)) ++ (List.range 3).map fun k => .av (match Nat.blt k i with | true => plA S t (6 + k) | false => .val V1q)
theorem K1Z (a b c d e f : Value) : Tryz.prog.built 40 [(0, .agg #[a, b, c, d, e, f])] = some #[a, b, c, d, e, f, V1q, V1q, V1q] := by kernel_rfl
theorem k0V (S : Sys) (h : OkS S) (t : Nat → Rat) (q1 : ∀ i, LR 43 (t i)) (q2 : ∀ k, k < 3 → ∀ p, BT 2000 p → LR 43 (hq S t k p)) (hu : ∀ k, k < 3 → lwS S t k = false) : CtrA Tryz.prog 66 [syV S, t6 t] (j0B [plV S t, vb true, vi 0]) := by
 have n0 := h.n0
 have n1 := h.n1
 have n2 := h.n2
 refine j0r _ Tryz.func66 rfl rfl Tryz.ntmps66 rfl fun w Z => ?_
 refine zU ?_
 refine wt ?_
 refine j0j (j0k (us := t6L t) rfl rfl rfl rfl) rfl ?_
 refine wt ?_
 refine j0j (j0n (t := 40) (is := [0]) (xs := [_]) (vs := [.agg (t6L t).toArray]) (K1Z _ _ _ _ _ _) rfl rfl) rfl ?_
 refine wt ?_
 refine j0h (γ := Nat) (fun i => [(2, .av (.ptr 9 (syA S))), (3, .av (t6P t)), (4, .own 10 0), (5, .av (vb false)), (6, .av (vi 0)), (7, .own 11 0), (15, .av (vi i))]) (fun i => [(10, .cells ([.string ⟨#[]⟩, .string ⟨#[]⟩, .string ⟨#[]⟩, .string ⟨#[]⟩, .string ⟨#[]⟩, .string ⟨#[]⟩, V1q, V1q, V1q].map fun z => .av (.val z))), (11, .cells (plC S t i))]) (fun i => i ≤ 3) (fun i => 3 - i) 0 zO (ent zS zT) ?_
 intro i hi
 match i, hi with
 |0, _ =>
  have hh := j1e S h.toSmS t q1 zO
  have hct := w0R (hqf S t 0) (S.sp 0).length zO (fun j _ => q2 0 zE _ (h.sp 0 j)) (hu 0 zE)
  refine wt ?_
  refine j0j (j0d rfl rfl) rfl ?_
  refine wt ?_
  refine j0j (j0k (us := t6L t) rfl rfl rfl rfl) rfl ?_
  refine wt ?_
  refine j0C (j0R 22 hh rfl rfl) rfl ?_
  refine wt ?_
  refine j0x (q0V 22 rfl) ?_
  refine wt ?_
  refine j0C (j0R 23 hct rfl rfl) rfl ?_
  refine wt ?_
  exact j0b 1 zO zO (Ent.trans (j0J 11 23 (6 + 0) rfl rfl rfl rfl) (ent zS zT))
 |1, _ =>
  have hh := z0t S h.toSmS t q1 zO
  have hct := w0R (hqf S t 1) (S.sp 1).length zO (fun j _ => q2 1 zE _ (h.sp 1 j)) (hu 1 zE)
  refine wt ?_
  refine j0j (j0d rfl rfl) rfl ?_
  refine wt ?_
  refine j0j (j0k (us := t6L t) rfl rfl rfl rfl) rfl ?_
  refine wt ?_
  refine j0C (j0R 22 hh rfl rfl) rfl ?_
  refine wt ?_
  refine j0x (q0V 22 rfl) ?_
  refine wt ?_
  refine j0C (j0R 23 hct rfl rfl) rfl ?_
  refine wt ?_
  exact j0b 2 zO zO (Ent.trans (j0J 11 23 (6 + 1) rfl rfl rfl rfl) (ent zS zT))
 |2, _ =>
  have hh := V0s S h.toSmS t q1 zO
  have hct := w0R (hqf S t 2) (S.sp 2).length zO (fun j _ => q2 2 zE _ (h.sp 2 j)) (hu 2 zE)
  refine wt ?_
  refine j0j (j0d rfl rfl) rfl ?_
  refine wt ?_
  refine j0j (j0k (us := t6L t) rfl rfl rfl rfl) rfl ?_
  refine wt ?_
  refine j0C (j0R 22 hh rfl rfl) rfl ?_
  refine wt ?_
  refine j0x (q0V 22 rfl) ?_
  refine wt ?_
  refine j0C (j0R 23 hct rfl rfl) rfl ?_
  refine wt ?_
  exact j0b 3 zO zO (Ent.trans (j0J 11 23 (6 + 2) rfl rfl rfl rfl) (ent zS zT))
 |3, _ =>
  refine wt ?_
  refine j0j (j0l (f := plA S t) rfl rfl rfl) rfl ?_
  refine wt ?_
  refine q0M (j0t rfl rfl (fun i hi => by rcases (by omega : i = 0 ∨ i = 1 ∨ i = 2 ∨ i = 3 ∨ i = 4 ∨ i = 5 ∨ i = 6 ∨ i = 7 ∨ i = 8) with rfl | rfl | rfl | rfl | rfl | rfl | rfl | rfl | rfl <;> rfl) rfl rfl) ?_
  refine wt ?_
  exact j0v (rvs := [_, _, _]) (τs := [_, _, _]) rfl rfl ⟨.aggv (f := plA S t) rfl rfl rfl, .tmp rfl, .tmp rfl, trivial⟩ rfl
 |i + 4, hi => omega
end Go.Proofs.YtfggdokihnopeaaGreatDoor.H
namespace Go.Proofs.YtfggdokihnopeaaGreatDoor.H
open Go Go.Vc Go.RowKit
set_option maxHeartbeats 4000000
def W1J (i : Nat) (f : Nat → Nat → AV) (g : Nat → AV) : Nat → Nat → AV := fun a j => if a < i then f a j else if a = i then g j else f (a - 1) j
theorem y1v (n i : Nat) (f : Nat → Nat → AV) (g : Nat → AV) (hi : i ≤ n) (hn : n ≤ 100000) (h1 : ∀ a, a < n → ∀ j, j < 9 → (f a j).one = true) (hg : ∀ j, j < 9 → (g j).one = true) : CtrW Tryz.prog 95 [vi i, .vob 9 g] 40 9 n f (n + 1) (W1J i f g) true := by
 refine K1l _ Tryz.func95 rfl rfl Tryz.ntmps95 rfl fun w Z v => ?_
 refine zU ?_
 refine Q1z 0 rfl (fun hz => ?_) (fun b cap hcap => ?_)
 ·subst hz
  obtain rfl : i = 0 := by omega
  refine wt ?_
  refine j0j (Q0f (l := 0) rfl rfl rfl (Nat.le_refl 0)) rfl ?_
  refine wt ?_
  refine j0j (X0J rfl) rfl ?_
  refine wt ?_
  refine j0x (W0h (k := 24) rfl) ?_
  refine j0x (v0F (dd := 23) 20 40 9 f rfl rfl) ?_
  refine j0C (q0x (m := 1) (sz := 9) (bytes := 168) (h := fun _ j => g j) rfl rfl rfl (fun _ _ j hj => hg j hj) zE zE zE) rfl ?_
  refine wt ?_
  exact x0e (r := 20) rfl rfl rfl rfl (fun a ha j hj => by
   obtain rfl : a = 0 := by omega
   rfl)
 ·refine wt ?_
  refine j0j (Q0f (l := i) rfl rfl rfl hi) rfl ?_
  refine wt ?_
  refine j0j (X0J rfl) rfl ?_
  refine wt ?_
  (refine j0a rfl ?_ ?_ <;> intro hb <;> (try simp only [zA, zB, zG, zC, zD, zN] at hb) <;> (try exact zQ))
  ·have hin : i = n := by omega
   subst hin
   refine wt ?_
   refine j0x (W0h (k := 24) rfl) ?_
   refine j0x (J0V 23 0 rfl rfl) ?_
   refine j0C (q0x (m := 1) (sz := 9) (bytes := 168) (h := fun _ j => g j) rfl rfl rfl (fun _ _ j hj => hg j hj) (by decide) (by simp only [maxLen]; omega) (by omega)) rfl ?_
   refine wt ?_
   exact x0e (r := 0) rfl rfl rfl rfl (fun a ha j hj => by
    unfold q0H W1J
    by_cases c : a < i
    ·rw [if_pos c, if_pos c]
    ·rw [if_neg c, if_neg c, if_pos (by omega)])
  ·have hin : i < n := by omega
   refine wt ?_
   refine j0j (Q0b rfl) rfl ?_
   refine wt ?_
   (refine j0a rfl ?_ ?_ <;> intro hb <;> (try simp only [zA, zB, zG, zC, zD, zN] at hb) <;> (try exact zQ))
   ·refine wt ?_
    refine j0j (V0p (l := i) rfl rfl rfl zO) rfl ?_
    refine wt ?_
    refine j0C (Y0T (q := 0) (l := i) (n := n) (m := n + 1 - i) (bytes := 168) (kn := .i64) 20 rfl rfl (by omega) rfl (by omega) (by kernel_rfl) (by omega) (by omega) (by simp only [maxLen]; omega) (by omega) rfl) rfl ?_
    refine y1A 20 rfl zO (fun b2 cap2 hc2 => ?_)
    refine wt ?_
    refine j0j (v0u (l := i) rfl rfl rfl zO zO) rfl ?_
    refine wt ?_
    refine j0x (W0h (k := 44) rfl) ?_
    refine j0C ((X0I (q := 20) (lo := i) (m := 1) (k := 1) (h := fun _ j => g j) zE rfl zO rfl rfl (by show min _ _ = _; omega) zE zO (fun _ _ j hj => hg j hj)).v) rfl ?_
    refine wt ?_
    refine q0n (v0u (l := i + 1) rfl rfl zO zO zO) rfl ?_
    refine wt ?_
    refine q0n (v0u (l := i) rfl rfl rfl zO zO) rfl ?_
    refine wt ?_
    refine v0S (V0k (q := 20) (q2 := 0) (lo := i + 1) (lo2 := i) (k := n - i) zE rfl zO rfl rfl zO rfl (by show min _ _ = _; omega) zO zO (fun a c1 c2 j hj => h1 a zO j hj)) rfl ?_
    refine wt ?_
    refine q0o (J0V 6 20 rfl rfl) ?_
    exact x0e (r := 20) rfl rfl rfl zO (fun a ha j hj => by
     unfold W1G W1J
     by_cases c : a < i
     ·rw [if_neg (by omega), if_neg (by omega), if_pos c]
      exact if_pos c
     ·by_cases c2 : a = i
      ·subst c2
       rw [if_neg (by omega), if_pos (by omega), if_neg c, if_pos rfl]
      ·rw [if_pos (by omega), if_neg c, if_neg c2]
       show f (i + (a - (i + 1))) j = _
       rw [show i + (a - (i + 1)) = a - 1 by omega])
   ·refine wt ?_
    refine j0j (V0p (l := n + 1) rfl rfl zO zO) rfl ?_
    refine j0x (K0N 0 (n' := n + 1) (f' := fun a j => if a < n then f a j else .any) rfl (by omega) (fun a ha j hj => by by_cases c : a < n <;> simp [c])) ?_
    refine wt ?_
    refine j0j (v0u (l := i + 1) rfl rfl zO zO zO) rfl ?_
    refine wt ?_
    refine j0j (j1b (q := 0) (e := 40) (tS := 29) (tR := 4) (fn := Tryz.f160) zE zO Tryz.func160 (by kernel_rfl) (by kernel_rfl) (by kernel_rfl) (by kernel_rfl) rfl rfl rfl) rfl ?_
    refine wt ?_
    refine q0n (v0u (l := i + 1) rfl rfl zO zO zO) rfl ?_
    refine wt ?_
    refine q0n (v0u (l := i) rfl rfl rfl zO zO) rfl ?_
    refine wt ?_
    refine v0S (V0k (q := 0) (q2 := 0) (lo := i + 1) (lo2 := i) (k := n - i) (by decide) rfl (by omega) rfl rfl (by omega) rfl (by show min _ _ = _; omega) (by omega) (by omega) (fun a c1 c2 j hj => by rw [if_pos (by omega)]; exact h1 a (by omega) j hj)) rfl ?_
    refine wt ?_
    refine j0j (v0u (l := i) rfl rfl rfl zO zO) rfl ?_
    refine wt ?_
    refine j0x (W0h (k := 81) rfl) ?_
    refine j0C ((X0I (q := 0) (lo := i) (m := 1) (k := 1) (h := fun _ j => g j) zE rfl zO rfl rfl (by show min _ _ = _; omega) zE zO (fun _ _ j hj => hg j hj)).v) rfl ?_
    refine wt ?_
    refine q0o (J0V 6 0 rfl rfl) ?_
    exact x0e (r := 0) rfl rfl rfl rfl (fun a ha j hj => by
     unfold W1G W1J
     by_cases c : a < i
     ·rw [if_neg (by omega), if_neg (by omega), if_pos c]
      exact if_pos zO
     ·by_cases c2 : a = i
      ·subst c2
       rw [if_pos (by omega), if_neg c, if_pos rfl]
      ·rw [if_neg (by omega), if_pos (by omega), if_neg c, if_neg c2]
       show (if i + (a - (i + 1)) < n then f (i + (a - (i + 1))) j else AV.any) = _
       rw [if_pos (by omega), show i + (a - (i + 1)) = a - 1 by omega])
end Go.Proofs.YtfggdokihnopeaaGreatDoor.H
namespace Go.Proofs.YtfggdokihnopeaaGreatDoor.H
open Go Go.Vc Go.RowKit
open Go.Na (rtx LR j0u q0T rsg)
set_option maxHeartbeats 4000000
theorem X1R (n : Nat) (h0 : 0 < n) (hn : n ≤ 1000) : CtrR Tryz.prog 124 [.val (.slice none 0 0), vi n] 33 1 0 (fun _ _ => .any) [] := by
 refine K0J _ Tryz.func124 rfl rfl Tryz.ntmps124 rfl fun w Z => ?_
 refine zU ?_
 refine wt ?_
 refine j0j (Q0b rfl) rfl ?_
 refine wt ?_
 (refine j0a rfl ?_ ?_ <;> intro hb <;> (try simp only [zA, zB, zG, zC, zD, zN] at hb) <;> (try exact zQ))
 ·refine wt ?_
  refine j0j (Q0b rfl) rfl ?_
  refine wt ?_
  refine j0j (Z0a rfl rfl) rfl ?_
  refine wt ?_
  refine j0C (K0P (n := n) (bytes := 16) (kn := .i64) 20 rfl rfl (by omega) (by kernel_rfl) h0 (by simp only [maxLen]; omega) (by omega) rfl) rfl ?_
  refine wt ?_
  exact x0J rfl rfl rfl rfl (fun _ _ _ _ => rfl)
def tw3 (t : Nat → Rat) : Nat → Nat → AV
 |0, _ => .sl 3 1 (fun i _ => vR (t i))
 |_, _ => .sl 3 1 (fun i _ => vR (t (3 + i)))
theorem Z0Z (t : Nat → Rat) : CtrR Tryz.prog 69 [.sl 2 1 (tw3 t)] 33 1 6 (fun i _ => vR (t i)) [] := by
 have hg := X1R 6 zE zE
 refine K0J _ Tryz.func69 rfl rfl Tryz.ntmps69 rfl fun w Z => ?_
 refine zU ?_
 refine wt ?_
 refine j0h (γ := Nat) (fun i => [(0, .av (.sl 2 1 (tw3 t))), (9, .av (.sl 2 1 (tw3 t))), (10, .av (vi 2)), (11, .av (vi i)), (3, .av (vi (3 * i : Nat)))]) (fun _ => []) (fun i => i ≤ 2) (fun i => 2 - i) 0 zO (ent zS trivial) ?_
 intro i hi
 match i, hi with
 |0, _ =>
  refine wt ?_
  exact j0b 1 zO zO (ent zS trivial)
 |1, _ =>
  refine wt ?_
  exact j0b 2 zO zO (ent zS trivial)
 |2, _ =>
  refine wt ?_
  refine j0C (q0u 20 hg rfl rfl) rfl ?_
  refine wt ?_
  refine wt ?_
  refine j0h (γ := Nat) (fun i => [(0, .av (.sl 2 1 (tw3 t))), (25, .av (.sl 2 1 (tw3 t))), (26, .av (vi 2)), (27, .av (vi i)), (6, .osl 20)]) (fun i => [(20, .row 33 1 (3 * i) (fun i _ => vR (t i)))]) (fun i => i ≤ 2) (fun i => 2 - i) 0 zO (ent zS ⟨⟨_, rfl, .row rfl (fun a ha b hb => absurd ha zO)⟩, trivial⟩) ?_
  intro i hi
  match i, hi with
  |0, _ =>
   refine wt ?_
   refine j0C (q0x (h := fun i _ => vR (t i)) (m := 3) rfl rfl rfl (fun i hi j hj => rfl) (by omega) (by simp only [maxLen]; omega) (by omega)) rfl ?_
   refine wt ?_
   refine wt ?_
   exact j0b 1 zO zO (ent zS ⟨⟨_, rfl, .row rfl (fun a ha b hb => by unfold q0H; split <;> first | rfl | (congr 2; omega))⟩, trivial⟩)
  |1, _ =>
   refine wt ?_
   refine j0C (q0x (h := fun i _ => vR (t (3 + i))) (m := 3) rfl rfl rfl (fun i hi j hj => rfl) (by omega) (by simp only [maxLen]; omega) (by omega)) rfl ?_
   refine wt ?_
   refine wt ?_
   exact j0b 2 (by omega) (by omega) (ent zS ⟨⟨_, rfl, .row rfl (fun a ha b hb => by unfold q0H; split; rfl; show vR (t (3 + (a - 3 * 1))) = vR (t a); rw [show 3 + (a - 3 * 1) = a by omega])⟩, trivial⟩)
  |2, _ =>
   refine wt ?_
   exact x0J rfl rfl rfl rfl (fun _ _ _ _ => rfl)
  |i + 3, hi => omega
 |i + 3, hi => omega
theorem k1W (p q : Option Addr) (a b c d : Nat) (w : World) : (Instr.buildSlice 170 2 #[(0, .slice p a b), (1, .slice q c d)]).run Tryz.prog w = .ok (.slice (some ⟨w.heap.size, 0, none⟩) 2 2) (w.alloc (.cells #[.slice p a b, .slice q c d] 62)) := by kernel_rfl
theorem w1A {Z : j0s} {w : World} {n sz : Nat} {f g : Nat → Nat → AV} {v : Value} (h : (AV.sl n sz f).ok Z w v) (he : ∀ i, i < n → ∀ j, j < sz → f i j = g i j) : (AV.sl n sz g).ok Z w v := by
 obtain ⟨p, c, e1, e2, e3, e4⟩ := h
 refine ⟨p, c, e1, e2, e3, fun hn => ?_⟩
 obtain ⟨b, o, h1, h2, h3, h4⟩ := e4 hn
 exact ⟨b, o, h1, h2, h3, fun i hi j hj => let ⟨u, hu, hk⟩ := h4 i hi j hj; ⟨u, hu, by rw [← he i hi j hj]; exact hk⟩⟩
theorem X1b (t : Nat → Rat) {f g : Nat → Nat → AV} (hf : ∀ i, i < 3 → ∀ j, j < 1 → f i j = vR (t i)) (hg : ∀ i, i < 3 → ∀ j, j < 1 → g i j = vR (t (3 + i))) : ∀ (Z : j0s) (w : World) (vs : List Value), All2 (fun τ v => AV.ok Z w τ v) [.sl 3 1 f, .sl 3 1 g] vs → ∃ cs : List Value, (Instr.buildSlice 170 2 ([0, 1].zip vs).toArray).run Tryz.prog w = .ok (.slice (some ⟨w.heap.size, 0, none⟩) 2 2) (w.alloc (.cells cs.toArray 62)) ∧ ∀ i, i < 2 → ∀ j, j < 1 → ∃ u, cs[i * 1 + j]? = some u ∧ (tw3 t i j).ok Z w u := fun Z w vs h => by
 match vs, h with
 |[u, v], ⟨hu, hv, _⟩ =>
  have hu' : AV.ok Z w (.sl 3 1 (fun i _ => vR (t i))) u := w1A hu hf
  have hv' : AV.ok Z w (.sl 3 1 (fun i _ => vR (t (3 + i)))) v := w1A hv hg
  obtain ⟨p, c, e1, hu2⟩ := id hu'
  obtain ⟨q, d, e2, hv2⟩ := id hv'
  subst e1 e2
  refine ⟨_, k1W _ _ _ _ _ _ _, fun i hi j hj => ?_⟩
  obtain rfl : j = 0 := by omega
  rcases (by omega : i = 0 ∨ i = 1) with rfl | rfl
  ·exact ⟨_, rfl, hu'⟩
  ·exact ⟨_, rfl, hv'⟩
theorem V0z (t : Nat → Rat) : CtrR Tryz.prog 159 [t6 t] 33 1 6 (fun i _ => vR (t i)) [] := by
 have hc := Z0Z t
 refine K0J _ Tryz.func159 rfl rfl Tryz.ntmps159 rfl fun w Z => ?_
 refine zU ?_
 refine wt ?_
 refine q0n (w0l (n := 3) (m := 6) rfl zE zE zE) rfl ?_
 refine wt ?_
 refine wt ?_
 refine q0n (w0l (n := 3) (m := 3) rfl zE zE zE) rfl ?_
 refine wt ?_
 refine q0n (w0h (is := [0, 1]) (xs := [_, _]) (τs := [.sl 3 1 _, .sl 3 1 _]) (row := tw3 t) rfl rfl (X1b t (fun i hi _ _ => by rcases (by omega : i = 0 ∨ i = 1 ∨ i = 2) with rfl | rfl | rfl <;> rfl) (fun i hi _ _ => by rcases (by omega : i = 0 ∨ i = 1 ∨ i = 2) with rfl | rfl | rfl <;> rfl)) rfl) rfl ?_
 refine wt ?_
 refine x0l (w0Y 20 hc rfl) rfl rfl ?_
 refine wt ?_
 refine wt ?_
 exact x0J rfl rfl rfl rfl (fun _ _ _ _ => rfl)
def cmF (t u : Nat → Rat) : Nat → Nat → Int
 |_, 0 => 0
 |i, k + 1 => if rsg (t i - u i) ≠ 0 then rsg (t i - u i) else cmF t u (i + 1) k
def cmO (t u : Nat → Rat) : Int := cmF t u 0 6
theorem k0T (S : Sys) (t u : Nat → Rat) (ht : ∀ i, i < 6 → LR 43 (t i)) (hu : ∀ i, i < 6 → LR 43 (u i)) : CtrA Tryz.prog 94 [plV S t, plV S u] (vi (cmO t u)) := by
 have h1 := V0z t
 have h2 := V0z u
 refine j0r _ Tryz.func94 rfl rfl Tryz.ntmps94 rfl fun w Z => ?_
 refine zU ?_
 refine wt ?_
 refine j0j (j0k (us := t6L u) rfl rfl rfl rfl) rfl ?_
 refine wt ?_
 refine j0C (q0u 20 h2 rfl rfl) rfl ?_
 refine wt ?_
 refine wt ?_
 refine j0j (j0k (us := t6L t) rfl rfl rfl rfl) rfl ?_
 refine wt ?_
 refine j0C (q0u 21 h1 rfl rfl) rfl ?_
 refine wt ?_
 refine wt ?_
 refine j0h (γ := Nat) (fun i => [(15, .osl 21), (5, .osl 20), (16, .av (vi 6)), (17, .av (vi i))]) (fun _ => [(21, .row 33 1 6 (fun i _ => vR (t i))), (20, .row 33 1 6 (fun i _ => vR (u i)))]) (fun i => i ≤ 6 ∧ cmO t u = cmF t u i (6 - i)) (fun i => 6 - i) 0 ⟨by omega, rfl⟩ (ent zS zT) ?_
 rintro i ⟨hi, hc⟩
 refine wt ?_
 (refine j0a rfl ?_ ?_ <;> intro hb <;> (try simp only [zA, zB, zG, zC, zD, zN] at hb) <;> (try exact zQ))
 ·have h : i < 6 := by omega
  have hr := v0X (t i) (u i) ((ht i zO).mono zE) ((hu i zO).mono zE)
  rw [show 6 - i = (6 - (i + 1)) + 1 by omega, cmF] at hc
  by_cases h0 : rsg (t i - u i) = 0
  ·rw [if_neg (by omega)] at hc
   rw [h0] at hr
   refine wt ?_
   exact j0b (i + 1) ⟨by omega, hc⟩ zO (ent zS zT)
  ·rw [if_pos h0] at hc
   rw [hc]
   refine wt ?_
   (refine j0a rfl ?_ ?_ <;> intro hb <;> (try simp only [zA, zB, zG, zC, zD, zN] at hb) <;> (try exact zQ))
   ·refine wt ?_
    exact zV
 ·obtain rfl : i = 6 := by omega
  rw [hc]
  refine wt ?_
  exact zV
end Go.Proofs.YtfggdokihnopeaaGreatDoor.H
section
namespace Go.Vc
open Go Go.RowKit
variable {P : Program} {E : Env} {T : Tab} {O : Own} {d : Option Nat} {ty : TypeId} {pos : String} {af : Array Edge} {g : Option (Nat × Bool)}
theorem X1N {xt yt : TypeId} {x y : Operand} {k k' : IntKind} {m : Int} {n : Nat} (h1 : T.ev x = .av (.val (.int k m))) (h2 : T.ev y = .av (.val (.int k' (n : Int)))) :
  GV P E ⟨d, .binOp .shr xt x y yt, ty, pos, af, g⟩ T O (.av (.val (.int k (m.fdiv (2 ^ (min n k.bits)))))) [] [] :=
 y0I h1 h2 (fun w => q0f ..) (fun w => by
  have h : ¬ ((n : Int) < 0) := by omega
  simp [binOp, Op.shift, h])
theorem X1M {xt yt : TypeId} {x y : Operand} {k k' : IntKind} {m q : Int} (h1 : T.ev x = .av (.val (.int k m))) (h2 : T.ev y = .av (.val (.int k' 1))) (hb : min 1 k.bits = 1) (hq : m.fdiv 2 = q) :
  GV P E ⟨d, .binOp .shr xt x y yt, ty, pos, af, g⟩ T O (.av (.val (.int k q))) [] [] := by
 have h := X1N (P := P) (E := E) (O := O) (d := d) (ty := ty) (pos := pos) (af := af) (g := g) (xt := xt) (yt := yt) (n := 1) h1 h2
 rw [hb] at h
 rw [← hq]
 exact h
end Go.Vc
namespace Go.Proofs.YtfggdokihnopeaaGreatDoor.H
open Go Go.Vc Go.RowKit
open Go.Na (rtx LR j0u q0T rsg)
set_option maxHeartbeats 4000000
abbrev F94 : AV := .val (.func (.func 94) #[] #[])
theorem k1d (S : Sys) (L : Nat → Nat → Rat) (t : Nat → Rat) (n c : Nat) (hn : n ≤ 100000) (hL : ∀ a, a < n → ∀ i, i < 6 → LR 43 (L a i)) (ht : ∀ i, i < 6 → LR 43 (t i)) (hc : c ≤ n) (h : ∀ a, a < n → (cmO (L a) t < 0 ↔ a < c)) :
  CtrA Tryz.prog 93 [.sl n 9 (fun a => plA S (L a)), plV S t, F94] (j0B [vi c, vb (decide (c < n) && decide (cmO (L c) t = 0))]) := by
 refine j0r _ Tryz.func93 rfl rfl Tryz.ntmps93 rfl fun w Z => ?_
 refine zU ?_
 refine wt ?_
 refine j0h (γ := Nat × Nat) (fun g => [(0, .av (.sl n 9 (fun a => plA S (L a)))), (2, .av F94), (4, .av (.ptr 9 (plA S t))), (8, .av (vi n)), (9, .av (vi g.1)), (10, .av (vi g.2))]) (fun _ => []) (fun g => g.1 ≤ c ∧ c ≤ g.2 ∧ g.2 ≤ n) (fun g => g.2 - g.1) (0, n) ⟨by simp, hc, by simp⟩ (ent zS trivial) ?_
 rintro ⟨l, r⟩ ⟨h1, h2, h3⟩
 dsimp only at h1 h2 h3 ⊢
 refine wt ?_
 (refine j0a rfl ?_ ?_ <;> intro hb <;> (try simp only [zA, zB, zG, zC, zD, zN] at hb) <;> (try exact zQ))
 ·have hlr : l < r := by omega
  have hk : (l + r) / 2 < n := by omega
  have ho := k0T S (L ((l + r) / 2)) t (hL _ hk) ht
  refine wt ?_
  refine j0j (q1Y (k := .u64) (m := ↑l + ↑r) rfl (by show ((l : Int) + r) % 18446744073709551616 = _; omega)) rfl ?_
  refine wt ?_
  refine j0j (X1M (q := (((l + r) / 2 : Nat) : Int)) rfl rfl rfl (by rw [Int.fdiv_eq_ediv_of_nonneg _ (by decide)]; omega)) rfl ?_
  refine wt ?_
  refine q0n (j0d rfl rfl) rfl ?_
  refine wt ?_
  refine q0n (j0d rfl rfl) rfl ?_
  refine wt ?_
  (refine j0a rfl ?_ ?_ <;> intro hb <;> (try simp only [zA, zB, zG, zC, zD, zN] at hb) <;> (try exact zQ))
  ·have hlc : (l + r) / 2 < c := (h _ hk).1 zO
   refine wt ?_
   exact j0b (g := (l, r)) ((l + r) / 2 + 1, r) ⟨by dsimp only; omega, h2, h3⟩ (by dsimp only; omega) (ent ⟨.refl _, .refl _, .refl _, .refl _, .int (by dsimp only; omega), .refl _, trivial⟩ trivial)
  ·have hlc : ¬ (l + r) / 2 < c := fun k => by have := (h _ hk).2 k; omega
   refine wt ?_
   exact j0b (g := (l, r)) (l, (l + r) / 2) ⟨h1, by dsimp only; omega, by dsimp only; omega⟩ (by dsimp only; omega) (ent zS trivial)
 ·obtain rfl : l = c := by omega
  refine wt ?_
  (first | refine j0g rfl rfl ?_ ?_ | refine j0f rfl rfl ?_ ?_) <;> intro hb <;> (try simp only [zA, zB, zG, zC, zD, zN] at hb) <;> (try exact zQ)
  ·have hln : l < n := by omega
   have ho := k0T S (L l) t (hL l hln) ht
   refine wt ?_
   refine y0G (j0d rfl rfl) rfl rfl rfl rfl ?_
   refine wt ?_
   refine y0G (j0d rfl rfl) rfl rfl rfl rfl ?_
   refine wt ?_
   rw [decide_eq_true (p := l < n) hln, Bool.true_and, show decide (cmO (L l) t = 0) = (cmO (L l) t == 0) by rw [Bool.eq_iff_iff]; simp]
   exact zW
  ·rw [decide_eq_false (p := l < n) (by omega), Bool.false_and]
   refine wt ?_
   exact zW
end Go.Proofs.YtfggdokihnopeaaGreatDoor.H
end
namespace Go.Proofs.YtfggdokihnopeaaGreatDoor.H
open Go Go.Vc Go.RowKit
open Go.Na (rtx LR j0u q0T rsg)
set_option maxHeartbeats 4000000
theorem Z1c (a b c d e f : ByteArray) : Tryz.prog.built 36 [(0, .agg #[.string a, .string b, .string c]), (1, .agg #[.string d, .string e, .string f])] = some #[.string a, .string b, .string c, .string d, .string e, .string f] := by kernel_rfl
theorem V1j (t : Nat → Rat) : CtrA Tryz.prog 60 [t6 t] (t6 t) := by
 refine j0r _ Tryz.func60 rfl rfl Tryz.ntmps60 rfl fun w Z => ?_
 refine zU ?_
 refine wt ?_
 refine j0j (j0n (t := 34) (is := [0, 1, 2]) (xs := [_, _, _]) (vs := [sv (rtx (t 0)), sv (rtx (t 1)), sv (rtx (t 2))]) (w1V _ _ _) rfl rfl) rfl ?_
 refine wt ?_
 refine j0j (j0n (t := 34) (is := [0, 1, 2]) (xs := [_, _, _]) (vs := [sv (rtx (t 3)), sv (rtx (t 4)), sv (rtx (t 5))]) (w1V _ _ _) rfl rfl) rfl ?_
 refine wt ?_
 refine j0j (j0n (t := 36) (is := [0, 1]) (xs := [_, _]) (vs := [.agg #[sv (rtx (t 0)), sv (rtx (t 1)), sv (rtx (t 2))], .agg #[sv (rtx (t 3)), sv (rtx (t 4)), sv (rtx (t 5))]]) (Z1c _ _ _ _ _ _) rfl rfl) rfl ?_
 refine wt ?_
 exact j0c rfl (.agg (us := t6L t) rfl rfl rfl rfl) rfl
theorem Z1K : CtrA Tryz.prog 49 [] (t6 (fun _ => 0)) := by
 have hm := V1j (fun _ => 0)
 have e0 : t6 (fun _ => 0) = .val (.agg #[sv [48], sv [48], sv [48], sv [48], sv [48], sv [48]]) := by
  show AV.val (.agg #[sv (rtx 0), sv (rtx 0), sv (rtx 0), sv (rtx 0), sv (rtx 0), sv (rtx 0)]) = _
  rw [rtx_0]
 rw [e0] at hm ⊢
 refine j0r _ Tryz.func49 rfl rfl Tryz.ntmps49 rfl fun w Z => ?_
 refine zU ?_
 refine wt ?_
 refine j0j (j0n (t := 113) (is := [0, 1, 2, 3, 4, 5]) (xs := [_, _, _, _, _, _]) (vs := [sv [48], sv [48], sv [48], sv [48], sv [48], sv [48]]) (J1E _ _ _ _ _ _) rfl rfl) rfl ?_
 refine wt ?_
 exact j0c rfl (.agg (us := [sv [48], sv [48], sv [48], sv [48], sv [48], sv [48]]) rfl rfl rfl rfl) rfl
def dcl (l : List Tr) (k : Nat) : Nat → AV := fun i => [AV.ptr 1 (fun _ => vi ((k : Nat) : Int)), AV.ptr 1 (fun _ => ts l)].getD i .any
def dfB (l : List Tr) (k : Nat) (p : Tr) : Bool := cz p k != cz (gt l 0) k
theorem X1p (l : List Tr) (k : Nat) (hk : k < 3) (hl : 0 < l.length) (p : Tr) : CtrA Tryz.prog 188 [tp p, .ptr 1 (fun _ => vi ((k : Nat) : Int)), .ptr 1 (fun _ => ts l)] (vb (dfB l k p)) := by
 have h1 := x0p p hk
 have h2 := x0p (gt l 0) hk
 refine j0r _ Tryz.func188 rfl rfl Tryz.ntmps188 rfl fun w Z => ?_
 refine zU ?_
 refine wt ?_
 exact zV
theorem k1v (l : List Tr) (k : Nat) (hk : k < 3) (hn : l.length ≤ 1000) : CtrA Tryz.prog 253 [ts l, .clo 188 2 (dcl l k)] (vi (ixB (fun i => dfB l k (gt l i)) l.length)) := by
 refine j0r _ Tryz.func253 rfl rfl Tryz.ntmps253 rfl fun w Z => ?_
 refine zU ?_
 refine wt ?_
 refine j0h (γ := Nat) (fun i => [(0, .av (ts l)), (1, .av (.clo 188 2 (dcl l k))), (6, .av (ts l)), (7, .av (vi l.length)), (8, .av (vi i))]) (fun _ => []) (fun i => i ≤ l.length ∧ ∀ j, j < i → dfB l k (gt l j) = false) (fun i => l.length - i) 0 ⟨Nat.zero_le _, by omega⟩ (ent zS trivial) ?_
 rintro i ⟨hi, hall⟩
 refine wt ?_
 (refine j0a rfl ?_ ?_ <;> intro hb <;> (try simp only [zA, zB, zG, zC, zD, zN] at hb) <;> (try exact zQ))
 ·have hil : i < l.length := by omega
  have hc := X1p l k hk zO (gt l i)
  refine wt ?_
  refine j0a rfl (fun hb => ?_) (fun hb => ?_)
  ·have e1 := Q0j (p := fun i => dfB l k (gt l i)) hil hall hb
   refine wt ?_
   exact j0c rfl (.tmp rfl) (by rw [e1])
  ·refine wt ?_
   exact j0b (i + 1) ⟨by omega, k0s (p := fun i => dfB l k (gt l i)) hall hb⟩ zO (ent zS trivial)
 ·have hil : i = l.length := by omega
  subst hil
  have e1 := V0u (p := fun i => dfB l k (gt l i)) hall
  refine wt ?_
  exact j0c rfl (.tmp rfl) (by rw [e1])
def W1H (l : List Tr) (k : Nat) : Bool := decide (0 ≤ ixB (fun i => dfB l k (gt l i)) l.length)
theorem k1f (l : List Tr) (k : Nat) (hk : k < 3) (hn : l.length ≤ 1000) : CtrA Tryz.prog 187 [ts l, .clo 188 2 (dcl l k)] (vb (W1H l k)) := by
 have h := k1v l k hk hn
 refine j0r _ Tryz.func187 rfl rfl Tryz.ntmps187 rfl fun w Z => ?_
 refine zU ?_
 refine wt ?_
 exact zV
theorem y1e (l : List Tr) (k : Nat) (hk : k < 3) (hn : l.length ≤ 1000) : CtrA Tryz.prog 123 [ts l, vi (k : Int)] (vb (W1H l k)) := by
 have h := k1f l k hk hn
 refine j0r _ Tryz.func123 rfl rfl Tryz.ntmps123 rfl fun w Z => ?_
 refine zU ?_
 refine wt ?_
 exact zV
theorem Z1l (a : Int) (w : World) : (Instr.buildSlice 37 1 #[(0, .int .i64 a)]).run Tryz.prog w = .ok (.slice (some ⟨w.heap.size, 0, none⟩) 1 1) (w.alloc (.cells #[.int .i64 a] 3)) := by kernel_rfl
def wcl (k : Nat) : Nat → AV := fun i => [AV.ptr 1 (fun _ => vi ((k : Nat) : Int))].getD i .any
def wcn (k i : Nat) : Nat := if i ≤ k then i else i - 1
def wrw (p : Tr) (k j : Nat) : Int := match j with | 0 => cz p (ou k) | _ => cz p (ov k)
theorem Z1I (p : Tr) {k i : Nat} (hk : k < 3) (hi : i < 3) (h : i ≠ k) : wrw p k (wcn k i) = cz p i := by
 rcases (by omega : k = 0 ∨ k = 1 ∨ k = 2) with rfl | rfl | rfl <;> rcases (by omega : i = 0 ∨ i = 1 ∨ i = 2) with rfl | rfl | rfl <;> first | rfl | exact absurd rfl h
theorem W1C (p : Tr) (k : Nat) (hk : k < 3) : CtrA Tryz.prog 185 [tp p, .ptr 1 (fun _ => vi (k : Int))] (.val (.agg #[.int .i64 (plc k p).x, .int .i64 (plc k p).y])) := by
 refine j0r _ Tryz.func185 rfl rfl Tryz.ntmps185 rfl fun w Z => ?_
 refine zU ?_
 refine wt ?_
 refine v0p (v0F (dd := 4) 20 3 1 (fun j _ => vi (wrw p k j)) rfl rfl) ?_
 refine j0h (γ := Nat) (fun i => [(1, .av (.ptr 1 (fun _ => vi (k : Int)))), (2, .av (.ptr 3 (fun i => .val ([Value.int .i64 p.x, .int .i64 p.y, .int .i64 p.z].getD i undef)))), (3, .own 10 0), (4, .osl 20), (6, .av (vi i))]) (fun i => [(20, .row 3 1 (wcn k i) (fun j _ => vi (wrw p k j))), (10, .cells [.av (vi 0), .av (vi 0)])]) (fun i => i ≤ 3) (fun i => 3 - i) 0 zO (ent zS ⟨⟨_, rfl, .row rfl (fun a ha => absurd ha zO)⟩, ⟨_, rfl, .refl _⟩, trivial⟩) ?_
 intro i hi
 refine wt ?_
 (refine j0a rfl ?_ ?_ <;> intro hb <;> (try simp only [zA, zB, zG, zC, zD, zN] at hb) <;> (try exact zQ))
 ·have hil : i < 3 := by omega
  have h1 := x0p p hil
  refine wt ?_
  (refine j0a rfl ?_ ?_ <;> intro hb <;> (try simp only [zA, zB, zG, zC, zD, zN] at hb) <;> (try exact zQ))
  ·have hne : i ≠ k := by omega
   refine wt ?_
   refine j0j (j0E (is := [0]) (xs := [_]) (vs := [.int .i64 (cz p i)]) (us := [.int .i64 (cz p i)]) (row := fun _ _ => vi (cz p i)) (Z1l _) rfl rfl rfl (Y1E _)) rfl ?_
   refine wt ?_
   refine j0C (q0x (m := 1) (sz := 1) (bytes := 8) (h := fun _ _ => vi (cz p i)) rfl rfl rfl (fun _ _ _ _ => rfl) (by decide) (by simp only [maxLen, wcn]; split <;> omega) (by simp only [wcn]; split <;> omega)) rfl ?_
   refine wt ?_
   exact j0b (i + 1) zO zO (ent zS ⟨⟨_, rfl, .row (by unfold wcn; split <;> split <;> omega) (fun a ha b hb => Y1G ha (congrArg vi (Z1I p hk hil hne)))⟩, ⟨_, rfl, .refl _⟩, trivial⟩)
  ·obtain rfl : i = k := by omega
   refine wt ?_
   exact j0b (i + 1) zO zO (ent zS ⟨⟨_, rfl, .row (by unfold wcn; split <;> split <;> omega) (fun a ha b hb => rfl)⟩, ⟨_, rfl, .refl _⟩, trivial⟩)
 ·obtain rfl : i = 3 := by omega
  refine wt ?_
  have e3 : wcn k 3 = 2 := by unfold wcn; split <;> omega
  rw [e3]
  refine j0x (q0V 20 rfl) ?_
  refine j0j (X1L rfl zE) rfl ?_
  refine wt ?_
  exact j0c rfl (.agg (us := [.int .i64 (plc k p).x, .int .i64 (plc k p).y]) rfl rfl rfl rfl) rfl
def wcr (l : List Tr) (k i j : Nat) : Int := ((plc k (gt l i)).x - (plc k (gt l 0)).x) * ((plc k (gt l j)).y - (plc k (gt l 0)).y) - ((plc k (gt l i)).y - (plc k (gt l 0)).y) * ((plc k (gt l j)).x - (plc k (gt l 0)).x)
def lnB (l : List Tr) (k : Nat) : Bool := (List.range l.length).all fun i => (List.range i).all fun j => decide (wcr l k i j = 0)
theorem z1g {B : Int} {a b : Int} (h1 : -B ≤ a ∧ a ≤ B) (h2 : -B ≤ b ∧ b ≤ B) : -(2 * B) ≤ a - b ∧ a - b ≤ 2 * B := by omega
theorem v1L {k : Nat} {p : Tr} (h : BT 100000 p) : -100000 ≤ (plc k p).x ∧ (plc k p).x ≤ 100000 := h.cz _
theorem v1M {k : Nat} {p : Tr} (h : BT 100000 p) : -100000 ≤ (plc k p).y ∧ (plc k p).y ≤ 100000 := h.cz _
theorem K0y (l : List Tr) (k : Nat) (hk : k < 3) (hB : ∀ i, BT 100000 (gt l i)) (hn : l.length ≤ 1000) : CtrA Tryz.prog 122 [ts l, vi (k : Int)] (vb (!lnB l k)) := by
 refine j0r _ Tryz.func122 rfl rfl Tryz.ntmps122 rfl fun w Z => ?_
 refine zU ?_
 refine wt ?_
 refine j0h (γ := Nat) (fun i => [(0, .av (ts l)), (5, .av (.clo 185 1 (wcl k))), (13, .av (vi l.length)), (14, .av (vi i))]) (fun _ => []) (fun i => i ≤ l.length ∧ ∀ a, a < i → ∀ b, b < a → wcr l k a b = 0) (fun i => l.length - i) 0 ⟨Nat.zero_le _, by omega⟩ (ent zS trivial) ?_
 rintro i ⟨hi, hI⟩
 refine wt ?_
 (refine j0a rfl ?_ ?_ <;> intro hb <;> (try simp only [zA, zB, zG, zC, zD, zN] at hb) <;> (try exact zQ))
 ·have hil : i < l.length := by omega
  refine wt ?_
  refine j0h (γ := Nat) (fun j => [(0, .av (ts l)), (5, .av (.clo 185 1 (wcl k))), (13, .av (vi l.length)), (14, .av (vi i)), (6, .av (vi i)), (17, .av (vi i)), (18, .av (vi j))]) (fun _ => []) (fun j => j ≤ i ∧ ∀ b, b < j → wcr l k i b = 0) (fun j => i - j) 0 ⟨Nat.zero_le _, by omega⟩ (ent zS trivial) ?_
  rintro j ⟨hj, hJ⟩
  refine wt ?_
  (refine j0a rfl ?_ ?_ <;> intro hb <;> (try simp only [zA, zB, zG, zC, zD, zN] at hb) <;> (try exact zQ))
  ·have hji : j < i := by omega
   have c0 := W1C (gt l 0) k hk
   have c1 := W1C (gt l i) k hk
   have c2 := W1C (gt l j) k hk
   have b0 := v1L (k := k) (hB 0)
   have b1 := v1L (k := k) (hB i)
   have b2 := v1L (k := k) (hB j)
   have d0 := v1M (k := k) (hB 0)
   have d1 := v1M (k := k) (hB i)
   have d2 := v1M (k := k) (hB j)
   have m1 := q0z (z1g b1 b0) (z1g d2 d0)
   have m2 := q0z (z1g d1 d0) (z1g b2 b0)
   refine wt ?_
   (refine j0a rfl ?_ ?_ <;> intro hb <;> (try simp only [zA, zB, zG, zC, zD, zN] at hb) <;> (try exact zQ))
   ·have hw : wcr l k i j ≠ 0 := by unfold wcr; omega
    have hf : lnB l k = false := by
     unfold lnB
     rw [List.all_eq_false]
     refine ⟨i, List.mem_range.2 hil, ?_⟩
     rw [Bool.not_eq_true, List.all_eq_false]
     exact ⟨j, List.mem_range.2 hji, by simpa using hw⟩
    refine wt ?_
    exact j0c rfl (.tmp rfl) (by rw [hf]; rfl)
   ·have hw : wcr l k i j = 0 := by unfold wcr; omega
    refine wt ?_
    exact j0b (j + 1) ⟨by omega, fun b hb1 => by
     by_cases e : b = j
     ·subst e; exact hw
     ·exact hJ b zO⟩ zO (ent zS trivial)
  ·obtain rfl : j = i := by omega
   refine wt ?_
   exact j0b (j + 1) ⟨by omega, fun a ha b hb1 => by
    by_cases e : a = j
    ·subst e; exact hJ b hb1
    ·exact hI a zO b hb1⟩ zO (ent zS trivial)
 ·obtain rfl : i = l.length := by omega
  have hf : lnB l k = true := by
   unfold lnB
   rw [List.all_eq_true]
   intro a ha
   rw [List.all_eq_true]
   intro b hb1
   exact decide_eq_true (hI a (List.mem_range.1 ha) b (List.mem_range.1 hb1))
  refine wt ?_
  exact j0c rfl (.tmp rfl) (by rw [hf]; rfl)
def enB (S : Sys) : Bool := !lnB (S.sp 0) (S.ax 0) && (W1H (S.sp 1) (S.ax 2) && !decide ((S.sp 2).length = 0))
theorem k0l (S : Sys) (h0 : S.ax 0 < 3) (h2 : S.ax 2 < 3) (hB : ∀ i, BT 100000 (gt (S.sp 0) i)) (hn : ∀ k, k < 3 → (S.sp k).length ≤ 1000) : CtrA Tryz.prog 68 [syV S] (vi (if enB S then 0 else 14)) := by
 have c1 := K0y (S.sp 0) (S.ax 0) h0 hB (hn 0 zE)
 have c2 := y1e (S.sp 1) (S.ax 2) h2 (hn 1 zE)
 refine j0r _ Tryz.func68 rfl rfl Tryz.ntmps68 rfl fun w Z => ?_
 refine zU ?_
 unfold enB
 cases e1 : lnB (S.sp 0) (S.ax 0) with
 |true =>
  rw [e1] at c1
  refine wt ?_
  exact zV
 |false =>
  rw [e1] at c1
  cases e2 : W1H (S.sp 1) (S.ax 2) with
  |false =>
   rw [e2] at c2
   refine wt ?_
   exact zV
  |true =>
   rw [e2] at c2
   refine wt ?_
   (refine j0a rfl ?_ ?_ <;> intro hb <;> (try simp only [zA, zB, zG, zC, zD, zN] at hb) <;> (try exact zQ))
   ·refine wt ?_
    exact j0c rfl (.tmp rfl) (by rw [decide_eq_true (p := (S.sp 2).length = 0) (by omega)]; rfl)
   ·refine wt ?_
    exact j0c rfl (.tmp rfl) (by rw [decide_eq_false (p := (S.sp 2).length = 0) (by omega)]; rfl)
structure Syr where
 ax : Nat → Int
 off : Nat → Int
 sp : Nat → List Tr
def srA (R : Syr) : Nat → AV
 |0 => vi (R.ax 0)
 |1 => vi (R.ax 1)
 |2 => vi (R.ax 2)
 |3 => vi (R.off 0)
 |4 => vi (R.off 1)
 |5 => vi (R.off 2)
 |6 => ts (R.sp 0)
 |7 => ts (R.sp 1)
 |_ => ts (R.sp 2)
def axB (R : Syr) : Nat → Bool
 |0 => true
 |i + 1 => axB R i && (decide (0 ≤ R.ax i ∧ R.ax i < 3) && !(List.range i).any fun j => decide (R.ax j = R.ax i))
def ofB (R : Syr) : Bool := (List.range 3).all fun i => decide (-100000 ≤ R.off i ∧ R.off i ≤ 100000)
def spE (R : Syr) : Int := if w0A (R.sp 0) ≠ 0 then w0A (R.sp 0) else if w0A (R.sp 1) ≠ 0 then w0A (R.sp 1) else w0A (R.sp 2)
def x0k (R : Syr) : Int := if axB R 3 then (if ofB R then spE R else 2) else 1
def sn (R : Syr) (i : Nat) (k : Int) : Bool := (List.range i).any fun j => decide (R.ax j = k)
theorem z1a (R : Syr) (i : Nat) (k : Int) : sn R (i + 1) k = (sn R i k || decide (R.ax i = k)) := by
 unfold sn
 rw [List.range_succ, List.any_append]
 simp
theorem Q1j {R : Syr} {i : Nat} (h : axB R i = true) (h1 : 0 ≤ R.ax i ∧ R.ax i < 3) (h2 : sn R i (R.ax i) = false) : axB R (i + 1) = true := by
 unfold axB
 rw [h, decide_eq_true h1]
 unfold sn at h2
 rw [h2]
 rfl
theorem k1a {R : Syr} {i : Nat} (h : ¬ (0 ≤ R.ax i ∧ R.ax i < 3) ∨ sn R i (R.ax i) = true) : axB R (i + 1) = false := by
 unfold axB
 rcases h with h | h
 ·rw [decide_eq_false h, Bool.false_and, Bool.and_false]
 ·unfold sn at h
  rw [h, Bool.not_true, Bool.and_false, Bool.and_false]
theorem W1T {R : Syr} {i : Nat} (h : axB R i = false) : ∀ d, axB R (i + d) = false
 |0 => h
 |d + 1 => by
  show (axB R (i + d) && _) = false
  rw [W1T h d, Bool.false_and]
theorem X0v {R : Syr} {i : Nat} (hi : i < 3) (h : ¬ (0 ≤ R.ax i ∧ R.ax i < 3) ∨ sn R i (R.ax i) = true) : x0k R = 1 := by
 have := W1T (k1a h) (2 - i)
 rw [show i + 1 + (2 - i) = 3 by omega] at this
 unfold x0k
 rw [this]
 rfl
abbrev axT (R : Syr) : Tr := ⟨R.ax 0, R.ax 1, R.ax 2⟩
abbrev ofT (R : Syr) : Tr := ⟨R.off 0, R.off 1, R.off 2⟩
theorem cz3 {f : Nat → Int} {i : Nat} (hi : i < 3) : cz ⟨f 0, f 1, f 2⟩ i = f i := by
 rcases (by omega : i = 0 ∨ i = 1 ∨ i = 2) with rfl | rfl | rfl <;> rfl
theorem x1a (a b c : Value) (w : World) : (Instr.index 24 (.agg #[a, b, c]) (.int .i64 ((0 : Nat) : Int))).run Tryz.prog w = .ok a w := by kernel_rfl
theorem x1b (a b c : Value) (w : World) : (Instr.index 24 (.agg #[a, b, c]) (.int .i64 ((1 : Nat) : Int))).run Tryz.prog w = .ok b w := by kernel_rfl
theorem x1c (a b c : Value) (w : World) : (Instr.index 24 (.agg #[a, b, c]) (.int .i64 ((2 : Nat) : Int))).run Tryz.prog w = .ok c w := by kernel_rfl
theorem x1U (R : Syr) : CtrA Tryz.prog 50 [.agg 9 (srA R)] (vi (x0k R)) := by
 have k0 := x0d (R.sp 0)
 have k1 := x0d (R.sp 1)
 have k2 := x0d (R.sp 2)
 refine j0r _ Tryz.func50 rfl rfl Tryz.ntmps50 rfl fun w Z => ?_
 refine zU ?_
 refine wt ?_
 refine j0j (j0k (us := [.int .i64 (R.ax 0), .int .i64 (R.ax 1), .int .i64 (R.ax 2)]) rfl rfl rfl rfl) rfl ?_
 refine wt ?_
 refine j0h (γ := Nat) (fun i => [(1, .av (.ptr 9 (srA R))), (3, .own 10 0), (12, .av (tp (axT R))), (13, .av (vi i))]) (fun i => [(10, .cells [.av (vb (sn R i 0)), .av (vb (sn R i 1)), .av (vb (sn R i 2))])]) (fun i => i ≤ 3 ∧ axB R i = true) (fun i => 3 - i) 0 ⟨by omega, rfl⟩ (ent zS zT) ?_
 rintro i ⟨hi, hI⟩
 refine wt ?_
 (refine j0a rfl ?_ ?_ <;> intro hb <;> (try simp only [zA, zB, zG, zC, zD, zN] at hb) <;> (try exact zQ))
 ·have hil : i < 3 := by omega
  have ei := cz3 (f := R.ax) hil
  refine wt ?_
  refine j0j (q0m (W1M (axT R) hil) rfl rfl) rfl ?_
  refine wt ?_
  rw [ei]
  rcases (by omega : R.ax i < 0 ∨ 3 ≤ R.ax i ∨ R.ax i = 0 ∨ R.ax i = 1 ∨ R.ax i = 2) with h | h | h | h | h
  ·have hc := X0v (R := R) hil (.inl zO)
   (first | refine j0g rfl rfl ?_ ?_ | refine j0f rfl rfl ?_ ?_) <;> intro hb <;> (try simp only [zA, zB, zG, zC, zD, zN] at hb) <;> (try exact zQ)
   ·refine wt ?_
    exact j0c rfl (.tmp rfl) (by rw [hc])
  ·have hc := X0v (R := R) hil (.inl zO)
   (first | refine j0g rfl rfl ?_ ?_ | refine j0f rfl rfl ?_ ?_) <;> intro hb <;> (try simp only [zA, zB, zG, zC, zD, zN] at hb) <;> (try exact zQ)
   ·refine wt ?_
    (first | refine j0g rfl rfl ?_ ?_ | refine j0f rfl rfl ?_ ?_) <;> intro hb <;> (try simp only [zA, zB, zG, zC, zD, zN] at hb) <;> (try exact zQ)
    ·refine wt ?_
     exact j0c rfl (.tmp rfl) (by rw [hc])
  ·rw [h]
   cases hs : sn R i 0 with
   |true =>
    have hc := X0v (R := R) hil (.inr (by rw [h]; exact hs))
    refine wt ?_
    exact j0c rfl (.tmp rfl) (by rw [hc])
   |false =>
    have eO : ([.av (vb true), .av (vb (sn R i 1)), .av (vb (sn R i 2))] : List SV) = [.av (vb (sn R (i + 1) 0)), .av (vb (sn R (i + 1) 1)), .av (vb (sn R (i + 1) 2))] := by
     rw [z1a, z1a, z1a, h]
     simp [hs]
    refine wt ?_
    exact j0b (i + 1) ⟨by omega, Q1j hI (by omega) (by rw [h]; exact hs)⟩ (by omega) (ent zS ⟨⟨_, rfl, by rw [← eO]; exact .refl _⟩, trivial⟩)
  ·rw [h]
   cases hs : sn R i 1 with
   |true =>
    have hc := X0v (R := R) hil (.inr (by rw [h]; exact hs))
    refine wt ?_
    exact j0c rfl (.tmp rfl) (by rw [hc])
   |false =>
    have eO : ([.av (vb (sn R i 0)), .av (vb true), .av (vb (sn R i 2))] : List SV) = [.av (vb (sn R (i + 1) 0)), .av (vb (sn R (i + 1) 1)), .av (vb (sn R (i + 1) 2))] := by
     rw [z1a, z1a, z1a, h]
     simp [hs]
    refine wt ?_
    exact j0b (i + 1) ⟨by omega, Q1j hI (by omega) (by rw [h]; exact hs)⟩ (by omega) (ent zS ⟨⟨_, rfl, by rw [← eO]; exact .refl _⟩, trivial⟩)
  ·rw [h]
   cases hs : sn R i 2 with
   |true =>
    have hc := X0v (R := R) hil (.inr (by rw [h]; exact hs))
    refine wt ?_
    exact j0c rfl (.tmp rfl) (by rw [hc])
   |false =>
    have eO : ([.av (vb (sn R i 0)), .av (vb (sn R i 1)), .av (vb true)] : List SV) = [.av (vb (sn R (i + 1) 0)), .av (vb (sn R (i + 1) 1)), .av (vb (sn R (i + 1) 2))] := by
     rw [z1a, z1a, z1a, h]
     simp [hs]
    refine wt ?_
    exact j0b (i + 1) ⟨by omega, Q1j hI (by omega) (by rw [h]; exact hs)⟩ (by omega) (ent zS ⟨⟨_, rfl, by rw [← eO]; exact .refl _⟩, trivial⟩)
 ·obtain rfl : i = 3 := by omega
  refine wt ?_
  refine j0j (j0k (us := [.int .i64 (R.off 0), .int .i64 (R.off 1), .int .i64 (R.off 2)]) rfl rfl rfl rfl) rfl ?_
  refine wt ?_
  refine j0h (γ := Nat) (fun i => [(1, .av (.ptr 9 (srA R))), (31, .av (tp (ofT R))), (32, .av (vi i))]) (fun _ => []) (fun i => i ≤ 3 ∧ ∀ j, j < i → -100000 ≤ R.off j ∧ R.off j ≤ 100000) (fun i => 3 - i) 0 ⟨by omega, fun j hj => absurd hj zO⟩ (ent zS trivial) ?_
  rintro i ⟨hi, hJ⟩
  refine wt ?_
  (refine j0a rfl ?_ ?_ <;> intro hb <;> (try simp only [zA, zB, zG, zC, zD, zN] at hb) <;> (try exact zQ))
  ·have hil : i < 3 := by omega
   have ei := cz3 (f := R.off) hil
   refine wt ?_
   refine j0j (q0m (W1M (ofT R) hil) rfl rfl) rfl ?_
   refine wt ?_
   rw [ei]
   by_cases hr : -100000 ≤ R.off i ∧ R.off i ≤ 100000
   ·(first | refine j0g rfl rfl ?_ ?_ | refine j0f rfl rfl ?_ ?_) <;> intro hb <;> (try simp only [zA, zB, zG, zC, zD, zN] at hb) <;> (try exact zQ)
    ·refine wt ?_
     (refine j0a rfl ?_ ?_ <;> intro hb <;> (try simp only [zA, zB, zG, zC, zD, zN] at hb) <;> (try exact zQ))
     ·refine wt ?_
      exact j0b (i + 1) ⟨by omega, fun j hj => by
       by_cases e : j = i
       ·subst e; exact hr
       ·exact hJ j zO⟩ zO (ent zS trivial)
   ·have hc : x0k R = 2 := by
     unfold x0k
     rw [if_pos hI, if_neg]
     unfold ofB
     rw [List.all_eq_true]
     intro hall
     exact hr (by simpa using hall i (List.mem_range.2 hil))
    (first | refine j0g rfl rfl ?_ ?_ | refine j0f rfl rfl ?_ ?_) <;> intro hb <;> (try simp only [zA, zB, zG, zC, zD, zN] at hb) <;> (try exact zQ)
    ·refine wt ?_
     exact j0c rfl (.tmp rfl) (by rw [hc])
    ·refine wt ?_
     (refine j0a rfl ?_ ?_ <;> intro hb <;> (try simp only [zA, zB, zG, zC, zD, zN] at hb) <;> (try exact zQ))
     ·refine wt ?_
      exact j0c rfl (.tmp rfl) (by rw [hc])
  ·obtain rfl : i = 3 := by omega
   have hc : x0k R = spE R := by
    unfold x0k
    rw [if_pos hI, if_pos]
    unfold ofB
    rw [List.all_eq_true]
    intro j hj
    exact decide_eq_true (hJ j (List.mem_range.1 hj))
   rw [hc]
   refine wt ?_
   refine j0j (j0d rfl rfl) rfl ?_
   refine wt ?_
   refine j0h (γ := Nat) (fun i => [(1, .av (.ptr 9 (srA R))), (43, .av (.agg 3 (fun j => srA R (6 + j)))), (44, .av (vi i))]) (fun _ => []) (fun i => i ≤ 3 ∧ (1 ≤ i → w0A (R.sp 0) = 0) ∧ (2 ≤ i → w0A (R.sp 1) = 0) ∧ (3 ≤ i → w0A (R.sp 2) = 0)) (fun i => 3 - i) 0 ⟨by omega, fun h => absurd h zO, fun h => absurd h zO, fun h => absurd h zO⟩ (ent zS trivial) ?_
   rintro i ⟨hi, hK⟩
   match i, hi, hK with
   |0, _, hK =>
    refine wt ?_
    refine j0j (q0d (k := 0) zE (x1a) rfl rfl) rfl ?_
    refine wt ?_
    by_cases he : w0A (R.sp 0) = 0
    ·(refine j0a rfl ?_ ?_ <;> intro hb <;> (try simp only [zA, zB, zG, zC, zD, zN] at hb) <;> (try exact zQ))
     ·refine wt ?_
      exact j0b 1 ⟨by omega, fun _ => he, fun h => absurd h zO, fun h => absurd h zO⟩ zO (ent zS trivial)
    ·(refine j0a rfl ?_ ?_ <;> intro hb <;> (try simp only [zA, zB, zG, zC, zD, zN] at hb) <;> (try exact zQ))
     ·refine wt ?_
      exact j0c rfl (.tmp rfl) (by unfold spE; rw [if_pos he])
   |1, _, hK =>
    refine wt ?_
    refine j0j (q0d (k := 1) zE (x1b) rfl rfl) rfl ?_
    refine wt ?_
    by_cases he : w0A (R.sp 1) = 0
    ·(refine j0a rfl ?_ ?_ <;> intro hb <;> (try simp only [zA, zB, zG, zC, zD, zN] at hb) <;> (try exact zQ))
     ·refine wt ?_
      exact j0b 2 ⟨by omega, fun _ => hK.1 zO, fun _ => he, fun h => absurd h zO⟩ zO (ent zS trivial)
    ·(refine j0a rfl ?_ ?_ <;> intro hb <;> (try simp only [zA, zB, zG, zC, zD, zN] at hb) <;> (try exact zQ))
     ·refine wt ?_
      exact j0c rfl (.tmp rfl) (by unfold spE; rw [if_neg (fun h => h (hK.1 (by omega))), if_pos he])
   |2, _, hK =>
    refine wt ?_
    refine j0j (q0d (k := 2) zE (x1c) rfl rfl) rfl ?_
    refine wt ?_
    have hs : spE R = w0A (R.sp 2) := by unfold spE; rw [if_neg (fun h => h (hK.1 (by omega))), if_neg (fun h => h (hK.2.1 (by omega)))]
    by_cases he : w0A (R.sp 2) = 0
    ·(refine j0a rfl ?_ ?_ <;> intro hb <;> (try simp only [zA, zB, zG, zC, zD, zN] at hb) <;> (try exact zQ))
     ·refine wt ?_
      exact j0b 3 ⟨by omega, fun _ => hK.1 zO, fun _ => hK.2.1 zO, fun _ => he⟩ zO (ent zS trivial)
    ·(refine j0a rfl ?_ ?_ <;> intro hb <;> (try simp only [zA, zB, zG, zC, zD, zN] at hb) <;> (try exact zQ))
     ·refine wt ?_
      exact j0c rfl (.tmp rfl) (by rw [hs])
   |3, _, hK =>
    have hs : spE R = 0 := by unfold spE; rw [if_neg (fun h => h (hK.1 (by omega))), if_neg (fun h => h (hK.2.1 (by omega)))]; exact hK.2.2 (by omega)
    refine wt ?_
    exact j0c rfl (.tmp rfl) (by rw [hs])
   |i + 4, hi, _ => omega
end Go.Proofs.YtfggdokihnopeaaGreatDoor.H
namespace Go.Proofs.YtfggdokihnopeaaGreatDoor.H
open Go Go.Vc Go.RowKit
open Go.Na (rsg w1l Y0j)
theorem V0a (t u : Nat → Rat) (i k : Nat) : cmF t u i (k + 1) < 0 ↔ t i < u i ∨ t i = u i ∧ cmF t u (i + 1) k < 0 := by
 rw [show cmF t u i (k + 1) = if rsg (t i - u i) ≠ 0 then rsg (t i - u i) else cmF t u (i + 1) k from rfl]
 by_cases h : rsg (t i - u i) = 0
 ·rw [if_neg (fun c => c h)]
  have e := Y0j.1 h
  constructor
  ·intro k; exact .inr ⟨e, k⟩
  ·rintro (k | ⟨_, k⟩)
   ·rw [e] at k; exact absurd k (by grind)
   ·exact k
 ·rw [if_pos h]
  constructor
  ·intro k; exact .inl (w1l.1 k)
  ·rintro (k | ⟨k, _⟩)
   ·exact w1l.2 k
   ·exact absurd (Y0j.2 k) h
theorem Q0Z (t u : Nat → Rat) (i k : Nat) : cmF t u i (k + 1) = 0 ↔ t i = u i ∧ cmF t u (i + 1) k = 0 := by
 rw [show cmF t u i (k + 1) = if rsg (t i - u i) ≠ 0 then rsg (t i - u i) else cmF t u (i + 1) k from rfl]
 by_cases h : rsg (t i - u i) = 0
 ·rw [if_neg (fun c => c h)]
  exact ⟨fun k => ⟨Y0j.1 h, k⟩, fun k => k.2⟩
 ·rw [if_pos h]
  exact ⟨fun k => absurd k h, fun k => absurd (Y0j.2 k.1) h⟩
theorem X1h (x y : Tor) : cmO x.n y.n < 0 ↔ ltO x y := by
 unfold cmO
 rw [V0a, V0a, V0a, V0a, V0a, V0a]
 have e : ¬ cmF x.n y.n (0 + 1 + 1 + 1 + 1 + 1 + 1) 0 < 0 := by unfold cmF; decide
 unfold ltO
 constructor
 ·rintro (h | ⟨e0, h | ⟨e1, h | ⟨e2, h | ⟨e3, h | ⟨e4, h | ⟨_, h⟩⟩⟩⟩⟩⟩)
  ·exact .inl h
  ·exact .inr ⟨e0, .inl h⟩
  ·exact .inr ⟨e0, .inr ⟨e1, .inl h⟩⟩
  ·exact .inr ⟨e0, .inr ⟨e1, .inr ⟨e2, .inl h⟩⟩⟩
  ·exact .inr ⟨e0, .inr ⟨e1, .inr ⟨e2, .inr ⟨e3, .inl h⟩⟩⟩⟩
  ·exact .inr ⟨e0, .inr ⟨e1, .inr ⟨e2, .inr ⟨e3, .inr ⟨e4, h⟩⟩⟩⟩⟩
  ·exact absurd h e
 ·rintro (h | ⟨e0, h | ⟨e1, h | ⟨e2, h | ⟨e3, h | ⟨e4, h⟩⟩⟩⟩⟩)
  ·exact .inl h
  ·exact .inr ⟨e0, .inl h⟩
  ·exact .inr ⟨e0, .inr ⟨e1, .inl h⟩⟩
  ·exact .inr ⟨e0, .inr ⟨e1, .inr ⟨e2, .inl h⟩⟩⟩
  ·exact .inr ⟨e0, .inr ⟨e1, .inr ⟨e2, .inr ⟨e3, .inl h⟩⟩⟩⟩
  ·exact .inr ⟨e0, .inr ⟨e1, .inr ⟨e2, .inr ⟨e3, .inr ⟨e4, .inl h⟩⟩⟩⟩⟩
theorem X1g (x y : Tor) : cmO x.n y.n = 0 ↔ x = y := by
 unfold cmO
 rw [Q0Z, Q0Z, Q0Z, Q0Z, Q0Z, Q0Z]
 constructor
 ·rintro ⟨e0, e1, e2, e3, e4, e5, _⟩
  refine q1I fun j hj => ?_
  rcases (by omega : j = 0 ∨ j = 1 ∨ j = 2 ∨ j = 3 ∨ j = 4 ∨ j = 5) with rfl | rfl | rfl | rfl | rfl | rfl
  ·exact e0
  ·exact e1
  ·exact e2
  ·exact e3
  ·exact e4
  ·exact e5
 ·rintro rfl
  exact ⟨rfl, rfl, rfl, rfl, rfl, rfl, rfl⟩
def gO (L : List Tor) (a : Nat) : Tor := L.getD a ⟨0, 0, 0, 0, 0, 0⟩
theorem J0Y {L : List Tor} {a : Nat} (h : a < L.length) : gO L a = L[a] := by simp [gO, List.getD, h]
theorem Q1m {L : List Tor} (hL : j1I L) (p : Tor) : ∀ a, a < L.length → (cmO (gO L a).n p.n < 0 ↔ a < y0x p L) := fun a ha => by
 rw [X1h, J0Y ha]
 exact z1M hL a ha
theorem Q1n (L : List Tor) (p : Tor) : (decide (y0x p L < L.length) && decide (cmO (gO L (y0x p L)).n p.n = 0)) = decide (L[y0x p L]? = some p) := by
 rw [Bool.eq_iff_iff]
 simp only [Bool.and_eq_true, decide_eq_true_eq, X1g]
 constructor
 ·rintro ⟨h, e⟩
  rw [List.getElem?_eq_getElem h, ← J0Y h, e]
 ·intro h
  obtain ⟨h1, h2⟩ := List.getElem?_eq_some_iff.1 h
  exact ⟨h1, by rw [J0Y h1, h2]⟩
theorem v1T {L : List Tor} {p : Tor} (h : ¬ L[y0x p L]? = some p) : (Q0w p L).length = L.length + 1 := by
 rw [W0B, if_neg h]
 have := J0M p L
 simp only [List.length_append, List.length_take, List.length_cons, List.length_drop]
 omega
theorem V1y {L : List Tor} {p : Tor} (h : ¬ L[y0x p L]? = some p) (f : Tor → Nat → AV) : ∀ a, a < L.length + 1 → ∀ j, W1J (y0x p L) (fun a => f (gO L a)) (f p) a j = f (gO (Q0w p L) a) j := fun a ha j => by
 have hc := J0M p L
 have hl := v1T h
 rw [J0Y (by omega)]
 unfold W1J
 have e : Q0w p L = L.take (y0x p L) ++ p :: L.drop (y0x p L) := by rw [W0B, if_neg h]
 simp only [e]
 by_cases c1 : a < y0x p L
 ·rw [if_pos c1, J0Y (by omega), List.getElem_append_left (by simp; omega), List.getElem_take]
 ·rw [if_neg c1, List.getElem_append_right (by simp; omega)]
  by_cases c2 : a = y0x p L
  ·rw [if_pos c2]
   have e2 : a - (L.take (y0x p L)).length = 0 := by simp; omega
   simp only [e2, List.getElem_cons_zero]
  ·rw [if_neg c2, J0Y (by omega)]
   have e2 : a - (L.take (y0x p L)).length = (a - 1 - y0x p L) + 1 := by simp; omega
   simp only [e2, List.getElem_cons_succ, List.getElem_drop]
   congr 2
   omega
end Go.Proofs.YtfggdokihnopeaaGreatDoor.H
namespace Go.Proofs.YtfggdokihnopeaaGreatDoor.H
open Go Go.Vc Go.RowKit
open Go.Na (rtx LR j0u q0T rsg)
set_option maxHeartbeats 4000000
theorem k1V (A B : Array Value) (w : World) : (Instr.buildSlice 145 2 #[(0, .func (.func 90) A #[]), (1, .func (.func 91) B #[])]).run Tryz.prog w = .ok (.slice (some ⟨w.heap.size, 0, none⟩) 2 2) (w.alloc (.cells #[.func (.func 90) A #[], .func (.func 91) B #[]] 144)) := by kernel_rfl
abbrev ch3 (S : Sys) : AV := .clo 157 2 (cla (ch2 S) (bf3 S))
def fs3 (S : Sys) : Nat → AV
 |0 => bf1 S
 |1 => ch2 S
 |_ => ch3 S
theorem One.clo (k n : Nat) (f : Nat → AV) : One (AV.clo k n f) := fun Z w v h => by obtain ⟨vs, rfl, _⟩ := h; rfl
def st2 (S : Sys) : Nat → Nat → AV
 |0, _ => bf2 S
 |_, _ => bf3 S
theorem k1c (S : Sys) : ∀ (Z : j0s) (w : World) (vs : List Value), All2 (fun τ v => AV.ok Z w τ v) [bf2 S, bf3 S] vs → ∃ cs : List Value, (Instr.buildSlice 145 2 ([0, 1].zip vs).toArray).run Tryz.prog w = .ok (.slice (some ⟨w.heap.size, 0, none⟩) 2 2) (w.alloc (.cells cs.toArray 144)) ∧ ∀ i, i < 2 → ∀ j, j < 1 → ∃ u, cs[i * 1 + j]? = some u ∧ (st2 S i j).ok Z w u := fun Z w vs h => by
 match vs, h with
 |[u, v], ⟨hu, hv, _⟩ =>
  obtain ⟨A, e1, _⟩ := id hu
  obtain ⟨B, e2, _⟩ := id hv
  subst e1 e2
  refine ⟨_, k1V _ _ _, fun i hi j hj => ?_⟩
  obtain rfl : j = 0 := by omega
  rcases (by omega : i = 0 ∨ i = 1) with rfl | rfl
  ·exact ⟨_, rfl, hu⟩
  ·exact ⟨_, rfl, hv⟩
theorem v0G (S : Sys) (t : Nat → Rat) : ∀ i, i < 9 → (plA S t i).one = true := by
 intro i hi
 rcases (by omega : i = 0 ∨ i = 1 ∨ i = 2 ∨ i = 3 ∨ i = 4 ∨ i = 5 ∨ i = 6 ∨ i = 7 ∨ i = 8) with rfl | rfl | rfl | rfl | rfl | rfl | rfl | rfl | rfl <;> rfl
theorem k1X (a b c d e f g i j : Value) (w : World) : (Instr.buildSlice 29 1 #[(0, .agg #[a, b, c, d, e, f, g, i, j])]).run Tryz.prog w = .ok (.slice (some ⟨w.heap.size, 0, none⟩) 1 1) (w.alloc (.cells #[a, b, c, d, e, f, g, i, j] 40)) := by kernel_rfl
theorem j2a (cs : List Value) (w : World) (h : cs.length = 9) : (Instr.buildSlice 29 1 #[(0, .agg cs.toArray)]).run Tryz.prog w = .ok (.slice (some ⟨w.heap.size, 0, none⟩) 1 1) (w.alloc (.cells cs.toArray 40)) := by
 match cs, h with
 |[a, b, c, d, e, f, g, i, j], _ => exact k1X a b c d e f g i j w
theorem Y1v (S : Sys) (u : Nat → Rat) : plA S (mkT u).n = plA S u := by
 funext j
 unfold plA
 rw [(y0T u).on 0, (y0T u).on 1, (y0T u).on 2]
 rfl
def plS (S : Sys) (i : Nat) : List Tor := Z0z (((q0w S).take i).map mkT)
theorem q1Q {α : Type} (f : Nat → Nat → Option α) : ∀ n, 2 * (fmL f n).length + n ≤ n * n
 |0 => by simp [fmL]
 |n + 1 => by
  have h := q1Q f n
  rw [J0n, List.length_append]
  have h2 := List.length_filterMap_le (fun k => f n k) (List.range n)
  rw [List.length_range] at h2
  have h3 : (n + 1) * (n + 1) = n * n + n + n + 1 := by rw [Nat.add_mul, Nat.mul_add]; omega
  omega
theorem j1q (S : Sys) (t : Nat → Rat) (hn : (S.sp 1).length ≤ 6) : (second S t).length ≤ 15 := by
 rw [Q0C]
 have h := q1Q (fun i k => lnS S t i k) (S.sp 1).length
 rcases (by omega : (S.sp 1).length = 0 ∨ (S.sp 1).length = 1 ∨ (S.sp 1).length = 2 ∨ (S.sp 1).length = 3 ∨ (S.sp 1).length = 4 ∨ (S.sp 1).length = 5 ∨ (S.sp 1).length = 6) with e | e | e | e | e | e | e <;> rw [e] at h ⊢ <;> omega
theorem k0r {α β : Type} (g : α → List β) (m : Nat) : ∀ (l : List α), (∀ a ∈ l, (g a).length ≤ m) → (l.flatMap g).length ≤ l.length * m
 |[], _ => by simp
 |a :: l, h => by
  rw [List.flatMap_cons, List.length_append, List.length_cons, Nat.add_mul, Nat.one_mul]
  have h1 := h a (by simp)
  have h2 := k0r g m l (fun b hb => h b (by simp [hb]))
  omega
theorem q1l {S : Sys} (h : OkS S) : (q0w S).length ≤ 10935 := by
 have h1 : (j0K S).length ≤ 729 := by rw [z0n]; exact Z0S (S.ax 0) (by have := h.n0; omega)
 have h2 := k0r (fun t => (second S t).map (q0t S)) 15 (j0K S) (fun t _ => by rw [List.length_map]; exact j1q S t h.n1)
 show ((j0K S).flatMap fun t => (second S t).map (q0t S)).length ≤ 10935
 have h3 : (j0K S).length * 15 ≤ 729 * 15 := Nat.mul_le_mul_right _ h1
 omega
theorem Y0n : ∀ (L a : List Tor), (L.foldl (fun a p => Q0w p a) a).length ≤ a.length + L.length
 |[], a => by simp
 |p :: L, a => by
  have h := Y0n L (Q0w p a)
  have h2 := k0X (p := p) (L := a)
  rw [List.foldl_cons, List.length_cons]
  omega
theorem Z0q {S : Sys} (h : OkS S) (i : Nat) : (plS S i).length ≤ 10935 := by
 have h1 := Y0n (((q0w S).take i).map mkT) []
 have h2 := q1l h
 rw [List.length_map, List.length_take, List.length_nil] at h1
 unfold plS Z0z
 omega
theorem v1J (S : Sys) : plS S (q0w S).length = j0M S := by unfold plS j0M; rw [List.take_length]
theorem y0u {S : Sys} (h : OkS S) : (j0M S).length ≤ 10935 := by rw [← v1J]; exact Z0q h _
abbrev Y0E (S : Sys) : AV := .sl (j0M S).length 9 (fun a => plA S (gO (j0M S) a).n)
theorem j1P (S : Sys) (h : OkS S) (hn : ∀ k, k < 3 → (S.sp k).length ≤ 1000) (hB : ∀ i, BT 100000 (gt (S.sp 0) i)) (he : enB S = true) : CtrA Tryz.prog 51 [syV S] (j0B [Y0E S, vi 0]) := by
 have c1 := k0l S (h.ax zE) (h.ax zE) hB hn
 rw [he] at c1
 have cz := Z1K
 refine X1j _ Tryz.func51 rfl rfl Tryz.ntmps51 rfl fun w Z => ?_
 refine zU ?_
 refine wt ?_
 refine j0j (j0d rfl rfl) rfl ?_
 refine wt ?_
 refine j0j (j0d rfl rfl) rfl ?_
 refine wt ?_
 refine j0j (J0Z (cs := [syV S]) (xs := [_]) rfl) rfl ?_
 refine wt ?_
 refine j0j (j0d rfl rfl) rfl ?_
 refine wt ?_
 refine j0j (J0Z (cs := [syV S]) (xs := [_]) rfl) rfl ?_
 refine wt ?_
 refine j0j (j0d rfl rfl) rfl ?_
 refine wt ?_
 refine j0j (J0Z (cs := [syV S]) (xs := [_]) rfl) rfl ?_
 refine wt ?_
 refine j0j (w0h (is := [0, 1]) (xs := [_, _]) (τs := [bf2 S, bf3 S]) (row := st2 S) rfl rfl (k1c S) rfl) rfl ?_
 refine wt ?_
 have d1 := X0u (bf1 S) (bf2 S) (One.bfn _ _) (One.bfn _ _)
 have d2 := X0u (ch2 S) (bf3 S) (One.clo _ _ _) (One.bfn _ _)
 refine j0h (γ := Nat) (fun i => [(1, .av (.ptr 9 (syA S))), (2, .own 10 0), (3, .own 11 0), (5, .av (fs3 S i)), (27, .av (.sl 2 1 (st2 S))), (28, .av (vi 2)), (29, .av (vi i))]) (fun _ => [(10, .cells [.av (.val (.slice none 0 0))]), (11, .cells [.av (vi 0)])]) (fun i => i ≤ 2) (fun i => 2 - i) 0 zO (ent zS zT) ?_
 intro i hi
 match i, hi with
 |0, _ =>
  refine wt ?_
  exact j0b 1 zO zO (ent zS zT)
 |1, _ =>
  refine wt ?_
  exact j0b 2 zO zO (ent zS zT)
 |2, _ =>
  refine wt ?_
  have h1 : CtrA Tryz.prog 157 ([t6 (fun _ => 0)] ++ (List.range 2).map (cla (ch2 S) (bf3 S))) (.clo 158 3 (clb (ch2 S) (bf3 S) (fun _ => 0))) := Q0Y (ch2 S) (bf3 S) (fun _ => 0)
  refine j0j (q1X (τs := [t6 (fun _ => 0)]) h1 rfl rfl) rfl ?_
  refine wt ?_
  refine v0p (w0g (r := 12) (off := 0) 20 40 9 (fun a => plA S (gO (plS S 0) a).n) rfl rfl rfl) ?_
  refine q1q rfl rfl (x1S S h (fun _ => 0)) [9, 10, 11, 12, 13, 14, 15, 40, 41, 42, 43, 44, 45, 46, 47, 48, 49, 50, 51, 52, 53, 54, 55, 56, 57, 58, 59, 60, 61, 62, 63, 64, 65, 66, 67, 68, 69, 70, 71, 72] [(1, .av (.ptr 9 (syA S))), (2, .own 10 0), (3, .own 11 0), (8, .own 12 0), (39, .av (.clo 158 3 (clb (ch2 S) (bf3 S) (fun _ => 0))))] (fun i => [(12, .cells [.osl 20]), (20, .row 40 9 (plS S i).length (fun a => plA S (gO (plS S i) a).n)), (10, .cells [.av (.val (.slice none 0 0))]), (11, .cells [.av (vi 0)])]) (fun i => [(9, .av (t6P (gU (q0w S) i))), (10, .av (vi 0))]) (ent zS zT) rfl rfl rfl rfl rfl rfl rfl (fun _ => rfl) (Q0v _) ?_ ?_ ?_
  ·rintro i t0 t1 e l a0 w0 Z0 keep
   obtain ⟨hi, e1, rfl, rfl⟩ := y0d e
   refine wt ?_
   exact Y1P (Ent.trans (j0A 9 13 (fun m => .val ((t6L (gU (q0w S) i)).getD m undef)) rfl rfl rfl) (ent zS zT))
  ·rintro i t0 t1 e l a0 w0 Z0 keep
   obtain ⟨hi, e1, rfl, rfl⟩ := y0d e
   obtain ⟨u, hu⟩ : ∃ u, u = gU (q0w S) i := ⟨_, rfl⟩
   rw [← hu] at e1 ⊢
   have hp : CtrA Tryz.prog 66 [syV S, t6 u] (j0B [plV S u, vb true, vi 0]) := by
    have hm := List.mem_of_getElem? e1
    obtain ⟨q1, q2⟩ := J0f h.toSmS h.p2 hm
    have ht := (X0t h.pr h.p2 hm).1
    refine k0V S h u q1 q2 fun k hk => y0t.2 ?_
    rcases (by omega : k = 0 ∨ k = 1 ∨ k = 2) with rfl | rfl | rfl
    ·exact ht.1
    ·exact ht.2.1
    ·exact ht.2.2
   refine wt ?_
   refine j0j (j0d rfl rfl) rfl ?_
   refine wt ?_
   refine j0j (j0k (us := t6L u) rfl rfl rfl rfl) rfl ?_
   refine wt ?_
   refine q0M (j0t rfl rfl (v0G S u) rfl rfl) ?_
   refine wt ?_
   refine j0j (j0l (f := plA S u) rfl rfl rfl) rfl ?_
   refine wt ?_
   have hasc : j1I (plS S i) := (w0t _).1
   have hlen : (plS S i).length ≤ 100000 := by have := Z0q h i; omega
   have hLR : ∀ a, a < (plS S i).length → ∀ j, j < 6 → LR 43 ((gO (plS S i) a).n j) := fun a ha j hj => by
    rw [J0Y ha]
    obtain ⟨t, ht, e⟩ := List.mem_map.1 ((w0t _).2 _ |>.1 (List.getElem_mem ha))
    have e2 : (plS S i)[a] = mkT t := e.symm
    rw [e2, y0T t j hj]
    exact (J0f h.toSmS h.p2 (List.mem_of_mem_take ht)).1 j
   have hU : ∀ j, j < 6 → LR 43 (u j) := fun j _ => (J0f h.toSmS h.p2 (List.mem_of_getElem? e1)).1 j
   have hb := k1d S (fun a => (gO (plS S i) a).n) u (plS S i).length (y0x (mkT u) (plS S i)) hlen hLR hU (J0M _ _) (fun a ha => Q1m hasc (mkT u) a ha)
   have hfd : (decide (y0x (mkT u) (plS S i) < (plS S i).length) && decide (cmO (gO (plS S i) (y0x (mkT u) (plS S i))).n u = 0)) = decide ((plS S i)[y0x (mkT u) (plS S i)]? = some (mkT u)) := Q1n (plS S i) (mkT u)
   have hnx : plS S (i + 1) = Q0w (mkT u) (plS S i) := by
    unfold plS Z0z
    rw [List.take_add_one, e1, List.map_append, List.foldl_append]
    rfl
   have hl16 : (plS S (i + 1)).length ≤ 16384 := by have := Z0q h (i + 1); omega
   rw [hfd] at hb
   by_cases hf : (plS S i)[y0x (mkT u) (plS S i)]? = some (mkT u)
   ·rw [decide_eq_true hf] at hb
    have hsm : plS S (i + 1) = plS S i := by rw [hnx, W0B, if_pos hf]
    have hl : (plS S i).length ≤ 16384 := by rw [← hsm]; exact hl16
    refine j0j (X0H hb (J0m [_, _]) rfl) rfl ?_
    refine wt ?_
    (refine j0a rfl ?_ ?_ <;> intro hb <;> (try simp only [zA, zB, zG, zC, zD, zN] at hb) <;> (try exact zQ))
    refine wt ?_
    rw [hsm]
    exact W0P (ent zS zT)
   ·rw [decide_eq_false hf] at hb
    have hi1 := y1v (plS S i).length (y0x (mkT u) (plS S i)) (fun a => plA S (gO (plS S i) a).n) (plA S u) (J0M _ _) hlen (fun a _ => v0G S _) (v0G S u)
    refine j0j (X0H hb (J0m [_, _]) rfl) rfl ?_
    refine wt ?_
    refine j0j (j0l (f := plA S u) rfl rfl rfl) rfl ?_
    refine wt ?_
    refine j0j (X0G (e := 40) rfl j2a) rfl ?_
    refine wt ?_
    have hll : (plS S (i + 1)).length = (plS S i).length + 1 := by rw [hnx]; exact v1T hf
    refine j0C (Y0z hi1 rfl rfl rfl) rfl ?_
    refine wt ?_
    (refine j0a rfl ?_ ?_ <;> intro hb <;> (try simp only [zA, zB, zG, zC, zD, zN] at hb) <;> (try exact zQ))
    refine wt ?_
    exact W0P (ent zS ⟨⟨_, rfl, .refl _⟩, ⟨_, rfl, .row hll.symm (fun a ha j hj => by rw [hnx, ← Y1v S u]; exact V1y hf (fun x => plA S x.n) a ha j)⟩, ⟨_, rfl, .refl _⟩, ⟨_, rfl, .refl _⟩, trivial⟩)
  ·intro D w2 Z1 ν a hA hs
   rw [List.length_map, v1J] at hs
   refine J1x ⟨_, _, hs⟩ ?_
   refine wt ?_
   refine Y0o hA (w1L (j0J 10 20 0 rfl rfl rfl rfl) ?_)
   exact j0v (rvs := [_, _]) (τs := [_, _]) rfl rfl ⟨.cell rfl rfl rfl, .cell rfl rfl rfl, trivial⟩ rfl
 |i + 3, hi => omega
end Go.Proofs.YtfggdokihnopeaaGreatDoor.H
namespace Go.Proofs.YtfggdokihnopeaaGreatDoor.H
open Go Go.Vc Go.RowKit
theorem X1U (i : Nat) : gt [] i = ⟨0, 0, 0⟩ := by unfold gt; simp [List.getD]; rfl
theorem z1K {B : Int} (h : 0 ≤ B) (i : Nat) : BT B (gt [] i) := by rw [X1U]; exact ⟨⟨by show -B ≤ 0; omega, h⟩, ⟨by show -B ≤ 0; omega, h⟩, ⟨by show -B ≤ 0; omega, h⟩⟩
def syO (R : Syr) : Sys := ⟨fun k => (R.ax k).toNat, fun k => if k < 3 then R.off k else 0, fun k => if k < 3 then R.sp k else []⟩
theorem J0D {R : Syr} (h : axB R 3 = true) : (∀ k, k < 3 → 0 ≤ R.ax k ∧ R.ax k < 3) ∧ R.ax 0 ≠ R.ax 1 ∧ R.ax 0 ≠ R.ax 2 ∧ R.ax 1 ≠ R.ax 2 := by
 simp only [axB, List.range_succ, List.range_zero, List.nil_append, List.any_append, List.any_nil, List.any_cons, Bool.and_eq_true, Bool.not_eq_true', Bool.or_eq_false_iff, decide_eq_true_eq, decide_eq_false_iff_not, Bool.or_false, Bool.false_or, true_and] at h
 refine ⟨fun k hk => ?_, ?_, ?_, ?_⟩
 ·rcases (by omega : k = 0 ∨ k = 1 ∨ k = 2) with rfl | rfl | rfl <;> omega
 ·omega
 ·omega
 ·omega
theorem W1U {R : Syr} (h : ∀ k, k < 3 → 0 ≤ R.ax k ∧ R.ax k < 3) (h1 : R.ax 0 ≠ R.ax 1) (h2 : R.ax 0 ≠ R.ax 2) (h3 : R.ax 1 ≠ R.ax 2) : axB R 3 = true := by
 have a0 := h 0 zE
 have a1 := h 1 zE
 have a2 := h 2 zE
 simp only [axB, List.range_succ, List.range_zero, List.nil_append, List.any_append, List.any_nil, List.any_cons, Bool.and_eq_true, Bool.not_eq_true', Bool.or_eq_false_iff, decide_eq_true_eq, decide_eq_false_iff_not, Bool.or_false, Bool.false_or, true_and]
 refine ⟨⟨⟨a0, trivial⟩, a1, ?_⟩, a2, ?_, ?_⟩ <;> omega
theorem J0K {R : Syr} (h : axB R 3 = false) : x0k R = 1 := by unfold x0k; rw [h]; rfl
theorem V0V {R : Syr} (h : axB R 3 = true) (h2 : ofB R = false) : x0k R = 2 := by unfold x0k; rw [h, h2]; rfl
theorem q1n {R : Syr} (h : axB R 3 = true) (h2 : ofB R = true) : x0k R = spE R := by unfold x0k; rw [h, h2]; rfl
theorem X0Y {R : Syr} : ofB R = true ↔ ∀ k, k < 3 → -100000 ≤ R.off k ∧ R.off k ≤ 100000 := by
 unfold ofB
 rw [List.all_eq_true]
 constructor
 ·intro h k hk; simpa using h k (List.mem_range.2 hk)
 ·intro h k hk; simpa using h k (List.mem_range.1 hk)
theorem w0f {R : Syr} (h : x0k R = 0) : axB R 3 = true ∧ ofB R = true ∧ ∀ k, k < 3 → w0A (R.sp k) = 0 := by
 cases ha : axB R 3 with
 |false => rw [J0K ha] at h; omega
 |true =>
  cases ho : ofB R with
  |false => rw [V0V ha ho] at h; omega
  |true =>
   rw [q1n ha ho] at h
   refine ⟨rfl, rfl, fun k hk => ?_⟩
   unfold spE at h
   by_cases h0 : w0A (R.sp 0) = 0
   ·rw [if_neg (fun e => e h0)] at h
    by_cases h1 : w0A (R.sp 1) = 0
    ·rw [if_neg (fun e => e h1)] at h
     rcases (by omega : k = 0 ∨ k = 1 ∨ k = 2) with rfl | rfl | rfl
     ·exact h0
     ·exact h1
     ·exact h
    ·rw [if_pos h1] at h; exact absurd h h1
   ·rw [if_pos h0] at h; exact absurd h h0
theorem W0R {R : Syr} (h : x0k R = 0) : srA R = syA (syO R) := by
 obtain ⟨ha, _, _⟩ := w0f h
 have hx := (J0D ha).1
 have e : ∀ k, k < 3 → vi (R.ax k) = vi (((syO R).ax k : Nat) : Int) := fun k hk => by
  show vi (R.ax k) = vi (((R.ax k).toNat : Nat) : Int)
  rw [show (((R.ax k).toNat : Nat) : Int) = R.ax k by have := hx k hk; omega]
 funext i
 match i with
 |0 => exact e 0 zE
 |1 => exact e 1 zE
 |2 => exact e 2 zE
 |3 => rfl
 |4 => rfl
 |5 => rfl
 |6 => rfl
 |7 => rfl
 |i + 8 => rfl
theorem W0T {R : Syr} (h : x0k R = 0) : Prm (syO R).ax := by
 obtain ⟨ha, _, _⟩ := w0f h
 obtain ⟨hx, h1, h2, h3⟩ := J0D ha
 have a0 := hx 0 zE
 have a1 := hx 1 zE
 have a2 := hx 2 zE
 unfold Prm
 show (R.ax 0).toNat < 3 ∧ (R.ax 1).toNat < 3 ∧ (R.ax 2).toNat < 3 ∧ (R.ax 0).toNat ≠ (R.ax 1).toNat ∧ (R.ax 0).toNat ≠ (R.ax 2).toNat ∧ (R.ax 1).toNat ≠ (R.ax 2).toNat
 omega
theorem Y0s {R : Syr} (h : x0k R = 0) (k : Nat) : RT ((syO R).sp k) := by
 obtain ⟨_, _, hs⟩ := w0f h
 intro i
 show BT 100000 (gt (if k < 3 then R.sp k else []) i)
 by_cases hk : k < 3
 ·rw [if_pos hk]; exact (RT.of (hs k hk)).1 i
 ·rw [if_neg hk]; exact z1K (by decide) i
theorem w1P {R : Syr} {k : Nat} (hk : k < 3) : (syO R).sp k = R.sp k := if_pos hk
theorem z0P {R : Syr} (h : x0k R = 0) : ∀ k, k < 3 → ((syO R).sp k).length ≤ 1000 := fun k hk => by
 rw [w1P hk]
 have := (RT.of ((w0f h).2.2 k hk)).2
 omega
theorem V1W {R : Syr} (h : x0k R = 0) (k : Nat) : ((syO R).off k).natAbs ≤ 100000 := by
 obtain ⟨_, ho, _⟩ := w0f h
 show (if k < 3 then R.off k else 0).natAbs ≤ 100000
 by_cases hk : k < 3
 ·rw [if_pos hk]; have := X0Y.1 ho k hk; omega
 ·rw [if_neg hk]; decide
def x0A (l : List Tr) : Bool := (List.range l.length).all fun i => (List.range 3).all fun k => !(j0Z (gt l i) && (decide (cz (gt l i) k < -2000) || decide (2000 < cz (gt l i) k)))
def twB (l : List Tr) (k : Nat) : Bool := (List.range l.length).any fun i => decide (cz (gt l i) k ≠ cz (gt l 0) k)
def j1l (S : Sys) : Bool := !x0i (x0j (S.sp 0) (S.ax 0)) && (twB (S.sp 1) (S.ax 2) && decide (0 < (S.sp 2).length))
def q1N (R : Syr) : Bool := (decide ((R.sp 0).length ≤ 100) && (decide ((R.sp 1).length ≤ 100) && decide ((R.sp 2).length ≤ 100))) &&
 (decide (x0k R ≠ 0) || ((decide ((R.sp 0).length ≤ 4) && (decide ((R.sp 1).length ≤ 3) && (decide ((R.sp 2).length ≤ 2) && (x0A (R.sp 0) && (x0A (R.sp 1) && x0A (R.sp 2)))))) ||
  (!j1l (syO R) && (decide ((R.sp 0).length ≤ 6) && (decide ((R.sp 1).length ≤ 6) && decide ((R.sp 2).length ≤ 6))))))
def w0q (R : Syr) : Bool := q1N R && (decide (x0k R = 0) && (j1l (syO R) && (decide ((R.sp 0).length ≤ 4) && (decide ((R.sp 1).length ≤ 3) && decide ((R.sp 2).length ≤ 2)))))
theorem V1o {l : List Tr} (hr : RT l) (hc : l.all j0Z = true) (h : x0A l = true) : ∀ i, BT 2000 (gt l i) := by
 intro i
 by_cases hi : i < l.length
 ·unfold x0A at h
  rw [List.all_eq_true] at h
  have h1 := h i (List.mem_range.2 hi)
  rw [List.all_eq_true] at h1
  have hg : j0Z (gt l i) = true := List.all_eq_true.1 hc _ (k0B hi)
  have h2 : ∀ k, k < 3 → -2000 ≤ cz (gt l i) k ∧ cz (gt l i) k ≤ 2000 := fun k hk => by
   have := h1 k (List.mem_range.2 hk)
   rw [hg] at this
   simp at this
   omega
  exact ⟨h2 0 zE, h2 1 zE, h2 2 zE⟩
 ·have e : gt l i = default := by unfold gt; simp [List.getD, List.getElem?_eq_none (Nat.le_of_not_lt hi)]
  rw [e]
  exact ⟨⟨by decide, by decide⟩, ⟨by decide, by decide⟩, ⟨by decide, by decide⟩⟩
theorem x1W {l : List Tr} (h : w0A l = 0) : l.all j0Z = true := by
 unfold w0A at h
 split at h
 ·omega
 ·split at h
  ·assumption
  ·omega
theorem Y0y {l : List Tr} {k : Nat} : twB l k = true ↔ ∃ i, i < l.length ∧ cz (gt l i) k ≠ cz (gt l 0) k := by
 unfold twB
 rw [List.any_eq_true]
 constructor
 ·rintro ⟨i, h1, h2⟩; exact ⟨i, List.mem_range.1 h1, of_decide_eq_true h2⟩
 ·rintro ⟨i, h1, h2⟩; exact ⟨i, List.mem_range.2 h1, decide_eq_true h2⟩
theorem X1s (l : List Tr) (k : Nat) : W1H l k = twB l k := by
 unfold W1H
 cases h : twB l k with
 |true =>
  obtain ⟨i, hi, hne⟩ := Y0y.1 h
  refine decide_eq_true ?_
  unfold ixB
  cases hf : (List.range l.length).find? (fun i => dfB l k (gt l i)) with
  |some j => exact Int.natCast_nonneg j
  |none =>
   rw [List.find?_eq_none] at hf
   have := hf i (List.mem_range.2 hi)
   unfold dfB at this
   simp at this
   exact absurd this hne
 |false =>
  refine decide_eq_false ?_
  rw [V0u]
  ·omega
  ·intro j hj
   unfold dfB
   unfold twB at h
   rw [List.any_eq_false] at h
   have := h j (List.mem_range.2 hj)
   simp at this
   simp [this]
theorem Y1c (l : List Tr) (k : Nat) : lnB l k = x0i (x0j l k) := by
 cases h : lnB l k with
 |true =>
  symm
  unfold lnB at h
  unfold x0i
  rw [x0b]
  simp only [List.all_eq_true, List.mem_range, decide_eq_true_eq] at h ⊢
  intro i hi j hj m hm
  rw [y0r hi, y0r (by omega), y0r (by omega)]
  have a := h i hi j hj
  have b := h i hi m zO
  have c := h j zO m hm
  unfold wcr at a b c
  simp only [crs, trn, sub]
  grind
 |false =>
  symm
  cases hs : x0i (x0j l k) with
  |false => rfl
  |true =>
   exfalso
   have ht : lnB l k = true := by
    unfold x0i at hs
    rw [x0b] at hs
    unfold lnB
    simp only [List.all_eq_true, List.mem_range, decide_eq_true_eq] at hs ⊢
    intro i hi j hj
    unfold wcr
    by_cases h0 : 0 < j
    ·have := hs i hi j hj 0 h0
     rw [y0r hi, y0r (by omega), y0r (by omega)] at this
     simp only [crs, trn, sub] at this
     grind
    ·obtain rfl : j = 0 := by omega
     grind
   rw [ht] at h; cases h
theorem z1U (S : Sys) : enB S = j1l S := by
 unfold enB j1l
 rw [Y1c, X1s]
 have : (!decide ((S.sp 2).length = 0)) = decide (0 < (S.sp 2).length) := by
  by_cases h : (S.sp 2).length = 0
  ·rw [decide_eq_true h, decide_eq_false (by omega)]; rfl
  ·rw [decide_eq_false h, decide_eq_true (by omega)]; rfl
 rw [this]
structure RtS (R : Syr) : Prop where
 chk : x0k R = 0
 ok : OkS (syO R)
 tw : Z1R (syO R)
 en : enB (syO R) = true
 n0 : (R.sp 0).length ≤ 4
 n1 : (R.sp 1).length ≤ 3
 n2 : (R.sp 2).length ≤ 2
 str : x0i (x0j ((syO R).sp 0) ((syO R).ax 0)) = false
theorem V1E {R : Syr} (hc : x0k R = 0) (n0 : (R.sp 0).length ≤ 4) (n1 : (R.sp 1).length ≤ 3) (n2 : (R.sp 2).length ≤ 2) (hn : ∀ k, k < 3 → x0A (R.sp k) = true) (hp : j1l (syO R) = true) : RtS R := by
 have hs := (w0f hc).2.2
 have hp' := hp
 unfold j1l at hp'
 simp only [Bool.and_eq_true, Bool.not_eq_true', decide_eq_true_eq] at hp'
 obtain ⟨p0, p1, p2⟩ := hp'
 refine ⟨hc, { pr := W0T hc, off := V1W hc, sp := fun k i => ?_, n0 := ?_, n1 := ?_, n2 := ?_, p2 := p2, st := J0N p0 }, ?_, by rw [z1U]; exact hp, n0, n1, n2, p0⟩
 ·show BT 2000 (gt (if k < 3 then R.sp k else []) i)
  by_cases hk : k < 3
  ·rw [if_pos hk]; exact V1o (RT.of (hs k hk)).1 (x1W (hs k hk)) (hn k hk) i
  ·rw [if_neg hk]; exact z1K (by decide) i
 ·show (R.sp 0).length ≤ 6; omega
 ·show (R.sp 1).length ≤ 6; omega
 ·show (R.sp 2).length ≤ 6; omega
 ·obtain ⟨i, hi, hne⟩ := Y0y.1 p1
  exact ⟨i, 0, hi, by omega, hne⟩
theorem z0b {R : Syr} (h : w0q R = true) : RtS R := by
 unfold w0q at h
 simp only [Bool.and_eq_true, decide_eq_true_eq] at h
 obtain ⟨hf, hc, hp, n0, n1, n2⟩ := h
 refine V1E hc n0 n1 n2 (fun k hk => ?_) hp
 unfold q1N at hf
 rw [hp, hc] at hf
 simp only [Bool.and_eq_true, Bool.or_eq_true, decide_eq_true_eq, Bool.not_true, Bool.false_eq_true, false_and, or_false, ne_eq, not_true_eq_false, false_or] at hf
 obtain ⟨_, _, _, _, a, b, c⟩ := hf
 rcases (by omega : k = 0 ∨ k = 1 ∨ k = 2) with rfl | rfl | rfl
 ·exact a
 ·exact b
 ·exact c
end Go.Proofs.YtfggdokihnopeaaGreatDoor.H
namespace Go.Proofs.YtfggdokihnopeaaGreatDoor.H
open Go Go.Vc Go.RowKit
open Go.Na (rtx LR j0u q0T rsg)
set_option maxHeartbeats 4000000
theorem q1m {R : Syr} (h : x0k R = 0) : CtrA Tryz.prog 50 [syV (syO R)] (vi 0) := by
 have c := x1U R
 rw [W0R h, h] at c
 exact c
theorem w0P {R : Syr} (h : RtS R) : CtrA Tryz.prog 12 [syV (syO R)] (j0B [Y0E (syO R), vi 0]) := by
 have c := q1m h.chk
 have c2 := j1P (syO R) h.ok (z0P h.chk) (Y0s h.chk 0) h.en
 refine j0r _ Tryz.func12 rfl rfl Tryz.ntmps12 rfl fun w Z => ?_
 refine zU ?_
 refine wt ?_
 refine j0j (j0d rfl rfl) rfl ?_
 refine wt ?_
 refine j0j (j0d rfl rfl) rfl ?_
 refine wt ?_
 exact zW
def pkL (l : List Tr) (s : List Nat) : List Tr := s.map (gt l)
theorem y1u (l : List Tr) {s : List Nat} {i : Nat} (h : i < s.length) : gt (pkL l s) i = gt l (gi s i) := by simp [gt, pkL, gi, List.getD, h]
theorem y0e (l : List Tr) (i j : Nat) : (tf l i j).one = true := by unfold tf; split <;> rfl
theorem Y1u (l : List Tr) {s : List Nat} {i : Nat} (h : i < s.length) : ∀ a, a < i + 1 → ∀ j, q0H i (tf (pkL l s)) (tf [gt l (gi s i)]) a j = tf (pkL l s) a j := fun a ha j => by
 unfold q0H
 split
 ·rfl
 ·obtain rfl : a = i := by omega
  rw [Nat.sub_self]
  unfold tf
  rw [y1u l h]
  rfl
theorem W0v (l : List Tr) (s : List Nat) (hs : ∀ i ∈ s, i < l.length) (hn : l.length ≤ 1000) (hm : s.length ≤ 1000) : CtrR Tryz.prog 67 [ts l, idx s] 43 3 (pkL l s).length (tf (pkL l s)) [] := by
 refine K0J _ Tryz.func67 rfl rfl Tryz.ntmps67 rfl fun w Z => ?_
 refine zU ?_
 refine wt ?_
 refine j0h (γ := Nat) (fun i => [(0, .av (ts l)), (5, .osl 20), (8, .av (idx s)), (9, .av (vi s.length)), (10, .av (vi i))]) (fun i => [(20, .row 43 3 i (tf (pkL l s)))]) (fun i => i ≤ s.length) (fun i => s.length - i) 0 (Nat.zero_le _) ((v0F (dd := 5) 20 43 3 (tf (pkL l s)) rfl rfl).trans (ent zS zT)) ?_
 intro i hi
 refine wt ?_
 (refine j0a rfl ?_ ?_ <;> intro hb <;> (try simp only [zA, zB, zG, zC, zD, zN] at hb) <;> (try exact zQ))
 ·have hil : i < s.length := by omega
  have hb := hs (gi s i) (J1c hil)
  refine wt ?_
  refine j0j (j0E (is := [0]) (xs := [_]) (vs := [_]) (us := [.int .i64 (gt l (gi s i)).x, .int .i64 (gt l (gi s i)).y, .int .i64 (gt l (gi s i)).z]) (row := tf [gt l (gi s i)]) (K0u (gt l (gi s i))) rfl rfl rfl (w0v (gt l (gi s i)))) rfl ?_
  refine wt ?_
  refine j0C (q0x (h := tf [gt l (gi s i)]) (m := 1) rfl rfl rfl (fun a ha j hj => y0e _ a j) (by omega) (by simp only [maxLen]; omega) (by omega)) rfl ?_
  refine wt ?_
  exact j0b (i + 1) zO zO (ent zS ⟨⟨_, rfl, .row rfl (fun a ha j hj => Y1u l hil a ha j)⟩, trivial⟩)
 ·obtain rfl : i = s.length := by omega
  refine wt ?_
  exact x0J rfl rfl rfl (by unfold pkL; rw [List.length_map]) (fun _ _ _ _ => rfl)
theorem w1p {P : Program} {e : TypeId} (h : P.underlying e = some .string) (w : World) (cs : Array Value) (k : Nat) (v : Value) (hv : cs[k]? = some v) : (part e cs k).run P w = .ok v w := by
 simp [part, isAgg, run_underlying h, hv]
theorem V1H {P : Program} {e : TypeId} (h : P.underlying e = some .string) (D : Nat) (w : World) (a : ByteArray) : (Op.equalIn (D + 1) e (.string a) (.string a)).run P w = .ok true w := by
 rw [run_equalIn_string w D e a a h]
 simp
theorem z0U {P : Program} (D : Nat) (w : World) (e : TypeId) (hu : P.underlying e = some .string) (xs : List ByteArray) : ∀ (m k : Nat), xs.length = k + m →
  (Op.eqItems (D + 1) e 1 (xs.map Value.string).toArray (xs.map Value.string).toArray (List.range' k m)).run P w = .ok true w
 |0, k, hx => by rfl
 |m + 1, k, hx => by
  have hxk : k < xs.length := by omega
  have p1 := w1p (P := P) hu w (xs.map Value.string).toArray (k * 1) (.string xs[k]) (by simp [List.getElem?_eq_getElem hxk])
  have p3 := V1H (P := P) hu D w xs[k]
  have ih := z0U D w e hu xs m (k + 1) zO
  rw [List.range'_succ]
  simp only [Op.eqItems, Sem.run_bind, p1, Result.andThen_ok, p3, Bool.not_true, Bool.false_eq_true, if_false, ih]
theorem k1k (D : Nat) (w : World) (a b c : ByteArray) : (Op.equalIn (D + 2) 34 (.agg #[.string a, .string b, .string c]) (.agg #[.string a, .string b, .string c])).run Tryz.prog w = .ok true w := by
 have h := z0U (P := Tryz.prog) D w 33 (by kernel_rfl) [a, b, c] 3 0 rfl
 rw [run_equalIn_array w (D + 1) _ _ (by kernel_rfl : Tryz.prog.underlying 34 = some (.array 3 33)) (i := (Tryz.prog.info? 33).getD default) (by kernel_rfl)]
 rw [show Tryz.prog.cellsOf 33 = 1 by kernel_rfl, List.range_eq_range']
 exact h
theorem z0d {P : Program} (D : Nat) (w : World) (cs : Array Value) : ∀ (fs : List Field), (∀ f ∈ fs, f.name ≠ "_" ∧ ∃ v, (part f.type cs f.offset).run P w = .ok v w ∧ (Op.equalIn D f.type v v).run P w = .ok true w) →
  (Op.eqFields D cs cs fs).run P w = .ok true w
 |[], _ => by simp [Op.eqFields]
 |f :: fs, h => by
  obtain ⟨h1, v, h2, h3⟩ := h f (by simp)
  have ih := z0d D w cs fs (fun g hg => h g (by simp [hg]))
  simp only [Op.eqFields, if_pos h1, Sem.run_bind, h2, Result.andThen_ok, h3, Bool.not_true, Bool.false_eq_true, if_false, ih]
theorem k1A (a b c d e f : ByteArray) (w : World) : (part 34 #[.string a, .string b, .string c, .string d, .string e, .string f] 0).run Tryz.prog w = .ok (.agg #[.string a, .string b, .string c]) w := by kernel_rfl
theorem k1B (a b c d e f : ByteArray) (w : World) : (part 34 #[.string a, .string b, .string c, .string d, .string e, .string f] 3).run Tryz.prog w = .ok (.agg #[.string d, .string e, .string f]) w := by kernel_rfl
theorem k1m (a b c d e f : ByteArray) (w : World) : (binOp .eql 36 (.agg #[.string a, .string b, .string c, .string d, .string e, .string f]) (.agg #[.string a, .string b, .string c, .string d, .string e, .string f])).run Tryz.prog w = .ok (.bool true) w := by
 have h9 : (9997 + 2 : Nat) = 9999 := rfl
 have hfs : (Tryz.prog.fieldsOf 36).toList = [(Tryz.prog.fieldsOf 36)[0]!, (Tryz.prog.fieldsOf 36)[1]!] := by kernel_rfl
 have t0 : ((Tryz.prog.fieldsOf 36)[0]!).type = 34 := by kernel_rfl
 have t1 : ((Tryz.prog.fieldsOf 36)[1]!).type = 34 := by kernel_rfl
 have o0 : ((Tryz.prog.fieldsOf 36)[0]!).offset = 0 := by kernel_rfl
 have o1 : ((Tryz.prog.fieldsOf 36)[1]!).offset = 3 := by kernel_rfl
 have n0 : ((Tryz.prog.fieldsOf 36)[0]!).name = "T" := by kernel_rfl
 have n1 : ((Tryz.prog.fieldsOf 36)[1]!).name = "W" := by kernel_rfl
 rw [run_eql_struct, run_equalIn_agg w 9999 36 _ _ (by kernel_rfl) (by kernel_rfl), z0d]
 ·rfl
 ·rw [hfs]
  intro g hg
  simp only [List.mem_cons, List.not_mem_nil, or_false] at hg
  rcases hg with hg | hg
  ·rw [hg, t0, o0, n0]
   exact ⟨by decide, _, k1A a b c d e f w, h9 ▸ k1k 9997 w a b c⟩
  ·rw [hg, t1, o1, n1]
   exact ⟨by decide, _, k1B a b c d e f w, h9 ▸ k1k 9997 w d e f⟩
theorem k1l (x y : Operand) (xs ys : Array Value) (w : World) : (eqGuard .eql 36 x y (.agg xs) (.agg ys)).run Tryz.prog w = .ok () w := by kernel_rfl
theorem k1n (s : List Nat) (hs : s.length ≤ 1000) : CtrA Tryz.prog 29 [idx s, idx s] (vb true) := by
 have h := q1J (fun i => ((gi s i : Nat) : Int)) (fun i => ((gi s i : Nat) : Int)) s.length s.length zO
 have e : eqB (fun i => ((gi s i : Nat) : Int)) s.length (fun i => ((gi s i : Nat) : Int)) s.length = true := by unfold eqB; simp
 rw [e] at h
 exact h
theorem x0h (S : Sys) (t : Nat → Rat) (k : Nat) : (onS S t k).length ≤ (S.sp k).length := by
 unfold onS
 exact Nat.le_trans (List.length_filter_le _ _) (by rw [List.length_range]; exact Nat.le_refl _)
theorem w1r (S : Sys) (t : Nat → Rat) (hn : ∀ k, k < 3 → (S.sp k).length ≤ 1000) : CtrA Tryz.prog 62 [plV S t, plV S t] (vb true) := by
 have h0 := k1n (onS S t 0) (by have := x0h S t 0; have := hn 0 zE; omega)
 have h1 := k1n (onS S t 1) (by have := x0h S t 1; have := hn 1 zE; omega)
 have h2 := k1n (onS S t 2) (by have := x0h S t 2; have := hn 2 zE; omega)
 refine j0r _ Tryz.func62 rfl rfl Tryz.ntmps62 rfl fun w Z => ?_
 refine zU ?_
 refine wt ?_
 refine j0h (γ := Nat) (fun i => [(2, .av (.ptr 9 (plA S t))), (3, .av (.ptr 9 (plA S t))), (6, .av (vi i))]) (fun _ => []) (fun i => i ≤ 3) (fun i => 3 - i) 0 zO (ent zS trivial) ?_
 intro i hi
 match i, hi with
 |0, _ =>
  refine wt ?_
  exact j0b 1 zO zO (ent zS trivial)
 |1, _ =>
  refine wt ?_
  exact j0b 2 zO zO (ent zS trivial)
 |2, _ =>
  refine wt ?_
  exact j0b 3 zO zO (ent zS trivial)
 |3, _ =>
  refine wt ?_
  refine j0j (j0k (us := t6L t) rfl rfl rfl rfl) rfl ?_
  refine wt ?_
  refine j0j (j0k (us := t6L t) rfl rfl rfl rfl) rfl ?_
  refine wt ?_
  refine j0j (y0I rfl rfl (fun w => k1l _ _ _ _ w) (fun w => k1m _ _ _ _ _ _ w)) rfl ?_
  refine wt ?_
  exact zV
 |i + 4, hi => omega
theorem v1N {S : Sys} {x : Tor} (h : x ∈ j0M S) : ∃ u, u ∈ q0w S ∧ Eq6 u x.n := by
 unfold j0M at h
 rw [(w0t _).2] at h
 obtain ⟨u, hu, rfl⟩ := List.mem_map.1 h
 exact ⟨u, hu, (y0T u).symm⟩
theorem K1A : LR 43 0 := ⟨Go.Na.LI.small (by decide) (by decide), Go.Na.LI.small (by decide) (by decide)⟩
theorem k1U (x : Tor) (P : Rat → Prop) (h0 : P 0) (h : ∀ i, i < 6 → P (x.n i)) : ∀ i, P (x.n i) := fun i => by
 match i with
 |0 => exact h 0 zE
 |1 => exact h 1 zE
 |2 => exact h 2 zE
 |3 => exact h 3 zE
 |4 => exact h 4 zE
 |5 => exact h 5 zE
 |i + 6 => exact h0
structure PlO (S : Sys) (x : Tor) : Prop where
 q1 : ∀ i, LR 43 (x.n i)
 q2 : ∀ k, k < 3 → ∀ p, BT 2000 p → LR 43 (hq S x.n k p)
 t : Tch S x.n
 up : ∀ k, k < 3 → lwS S x.n k = false
theorem v1P {S : Sys} (h : OkS S) {x : Tor} (hx : x ∈ j0M S) : PlO S x := by
 obtain ⟨u, hu, he⟩ := v1N hx
 obtain ⟨q1, q2⟩ := J0f h.toSmS h.p2 hu
 have ht : Tch S x.n := (J0u h.pr h.p2).1 hx
 refine ⟨k1U x _ K1A fun i hi => by rw [← he i hi]; exact q1 i, fun k hk p hp => by rw [← he.hq]; exact q2 k hk p hp, ht, fun k hk => y0t.2 ?_⟩
 rcases (by omega : k = 0 ∨ k = 1 ∨ k = 2) with rfl | rfl | rfl
 ·exact ht.1.1
 ·exact ht.1.2.1
 ·exact ht.1.2.2
theorem v1E (S : Sys) (t : Nat → Rat) (k : Nat) {i : Nat} (h : i + 1 < (onS S t k).length) : gi (onS S t k) i < gi (onS S t k) (i + 1) := by
 have hp : (onS S t k).Pairwise (· < ·) := (List.pairwise_lt_range).filter _
 have := List.pairwise_iff_getElem.1 hp i (i + 1) zO h zO
 rw [y0P h, y0P (by omega)]
 exact this
theorem V1r (S : Sys) (t : Nat → Rat) (k : Nat) {i : Nat} (h : i < (onS S t k).length) : gi (onS S t k) i < (S.sp k).length := by
 have : gi (onS S t k) i ∈ onS S t k := J1c h
 exact (j0I.1 this).1
def cnS (S : Sys) (t : Nat → Rat) : Sys := ⟨S.ax, S.off, fun k => pkL (S.sp k) (onS S t k)⟩
theorem Y1t (l : List Tr) (k : Nat) (s : List Nat) : x0j (pkL l s) k = plP l k s := by
 unfold x0j pkL plP
 rw [List.map_map]
 rfl
theorem k1g {S : Sys} {t : Nat → Rat} (h : Tch S t) : enB (cnS S t) = true := by
 obtain ⟨_, h1, ⟨i, j, hi, hj, hne⟩, m, hm⟩ := h
 rw [z1U]
 unfold j1l
 show (!x0i (x0j (pkL (S.sp 0) (onS S t 0)) (S.ax 0)) && (twB (pkL (S.sp 1) (onS S t 1)) (S.ax 2) && decide (0 < (pkL (S.sp 2) (onS S t 2)).length))) = true
 rw [Y1t, h1]
 have hl : (pkL (S.sp 2) (onS S t 2)).length = (onS S t 2).length := by simp [pkL]
 rw [hl, decide_eq_true (List.length_pos_of_mem hm), Bool.and_true, Bool.not_false, Bool.true_and]
 obtain ⟨a, ha, rfl⟩ := List.getElem_of_mem hi
 obtain ⟨b, hb, rfl⟩ := List.getElem_of_mem hj
 have hl1 : (pkL (S.sp 1) (onS S t 1)).length = (onS S t 1).length := by simp [pkL]
 rw [← y0P ha, ← y0P hb, ← y1u (S.sp 1) ha, ← y1u (S.sp 1) hb] at hne
 refine Y0y.2 ?_
 by_cases h0 : cz (gt (pkL (S.sp 1) (onS S t 1)) a) (S.ax 2) = cz (gt (pkL (S.sp 1) (onS S t 1)) 0) (S.ax 2)
 ·exact ⟨b, by omega, fun e => hne (h0.trans e.symm)⟩
 ·exact ⟨a, by omega, h0⟩
def smC (S : Sys) (t : Nat → Rat) (i : Nat) : List SV := (List.range 6).map (fun j => SV.av (syA S j)) ++ (List.range 3).map fun k => .av (match Nat.blt k i with | true => ts (pkL (S.sp k) (onS S t k)) | false => syA S (6 + k))
theorem J1N (a b c : Value) (w : World) : (Instr.index 38 (.agg #[a, b, c]) (.int .i64 ((0 : Nat) : Int))).run Tryz.prog w = .ok a w := by kernel_rfl
theorem J1O (a b c : Value) (w : World) : (Instr.index 38 (.agg #[a, b, c]) (.int .i64 ((1 : Nat) : Int))).run Tryz.prog w = .ok b w := by kernel_rfl
theorem J1P (a b c : Value) (w : World) : (Instr.index 38 (.agg #[a, b, c]) (.int .i64 ((2 : Nat) : Int))).run Tryz.prog w = .ok c w := by kernel_rfl
theorem w1O (S : Sys) : ∀ i, i < 9 → (syA S i).one = true := by
 intro i hi
 rcases (by omega : i = 0 ∨ i = 1 ∨ i = 2 ∨ i = 3 ∨ i = 4 ∨ i = 5 ∨ i = 6 ∨ i = 7 ∨ i = 8) with rfl | rfl | rfl | rfl | rfl | rfl | rfl | rfl | rfl <;> rfl
theorem K0x {R : Syr} (h : RtS R) {x : Tor} (hx : x ∈ j0M (syO R)) : CtrA Tryz.prog 23 [syV (syO R), plV (syO R) x.n] (vi 0) := by
 have hp := v1P h.ok hx
 have c0 := q1m h.chk
 have c1 := K0q x.n hp.q1
 have c2 := k0V (syO R) h.ok x.n hp.q1 hp.q2 hp.up
 have c3 := w1r (syO R) x.n (z0P h.chk)
 have hlen := z0P h.chk
 have c4 := k0l (cnS (syO R) x.n) (W0T h.chk).1 (W0T h.chk).2.2.1 (fun i => by
  by_cases hi : i < (onS (syO R) x.n 0).length
  ·show BT 100000 (gt (pkL ((syO R).sp 0) (onS (syO R) x.n 0)) i)
   rw [y1u _ hi]; exact Y0s h.chk 0 _
  ·have e : gt (pkL ((syO R).sp 0) (onS (syO R) x.n 0)) i = default := by unfold gt; simp [List.getD, pkL, List.getElem?_eq_none (Nat.le_of_not_lt hi)]
   show BT 100000 (gt (pkL ((syO R).sp 0) (onS (syO R) x.n 0)) i)
   rw [e]
   exact ⟨⟨by decide, by decide⟩, ⟨by decide, by decide⟩, ⟨by decide, by decide⟩⟩) (fun k hk => by
  show (pkL ((syO R).sp k) (onS (syO R) x.n k)).length ≤ 1000
  have := x0h (syO R) x.n k
  have := hlen k hk
  simp only [pkL, List.length_map]; omega)
 rw [k1g hp.t] at c4
 obtain ⟨S, hS⟩ : ∃ S, S = syO R := ⟨_, rfl⟩
 rw [← hS] at c0 c2 c3 c4 hp hlen ⊢
 obtain ⟨t, ht⟩ : ∃ t, t = x.n := ⟨_, rfl⟩
 rw [← ht] at c1 c2 c3 c4 ⊢
 have hl0 := x0h S t 0
 have hl1 := x0h S t 1
 have hl2 := x0h S t 2
 have hs0 := hlen 0 zE
 have hs1 := hlen 1 zE
 have hs2 := hlen 2 zE
 refine j0r _ Tryz.func23 rfl rfl Tryz.ntmps23 rfl fun w Z => ?_
 refine zU ?_
 refine wt ?_
 refine j0j (j0d rfl rfl) rfl ?_
 refine wt ?_
 refine j0j (j0k (us := t6L t) rfl rfl rfl rfl) rfl ?_
 refine wt ?_
 refine j0j (j0d rfl rfl) rfl ?_
 refine wt ?_
 refine j0h (γ := Nat) (fun i => [(2, .av (.ptr 9 (syA S))), (3, .av (.ptr 9 (plA S t))), (29, .av (.agg 3 (fun j => plA S t (6 + j)))), (30, .av (vi i))]) (fun _ => []) (fun i => i ≤ 3) (fun i => 3 - i) 0 zO (ent zS trivial) ?_
 intro i hi
 match i, hi with
 |0, _ =>
  refine wt ?_
  refine j0j (q0d (k := 0) zE (J1N) rfl rfl) rfl ?_
  refine wt ?_
  refine j0h (γ := Nat) (fun k => [(2, .av (.ptr 9 (syA S))), (3, .av (.ptr 9 (plA S t))), (29, .av (.agg 3 (fun j => plA S t (6 + j)))), (30, .av (vi 0)), (7, .av (vi 0)), (8, .av (idx (onS S t 0))), (34, .av (idx (onS S t 0))), (35, .av (vi (onS S t 0).length)), (36, .av (vi k))]) (fun _ => []) (fun k => k ≤ (onS S t 0).length) (fun k => (onS S t 0).length - k) 0 zO (ent zS trivial) ?_
  intro k hk
  refine wt ?_
  (refine j0a rfl ?_ ?_ <;> intro hb <;> (try simp only [zA, zB, zG, zC, zD, zN] at hb) <;> (try exact zQ))
  ·have hkl : k < (onS S t 0).length := by omega
   have hlt := V1r S t 0 hkl
   have ha : 0 < k → gi (onS S t 0) (k - 1) < gi (onS S t 0) k := fun h0 => by
    have := v1E S t 0 (i := k - 1) zO
    rw [show k - 1 + 1 = k by omega] at this
    exact this
   have e0 : ((k : Int) - 1).toNat = k - 1 := by omega
   refine wt ?_
   (refine j0a rfl ?_ ?_ <;> intro hb <;> (try simp only [zA, zB, zG, zC, zD, zN] at hb) <;> (try exact zQ))
   ·refine wt ?_
    (first | refine j0g rfl rfl ?_ ?_ | refine j0f rfl rfl ?_ ?_) <;> intro hb <;> (try simp only [zA, zB, zG, zC, zD, zN] at hb) <;> (try exact zQ)
    ·have := ha zO
     refine wt ?_
     rw [e0]
     (refine j0a rfl ?_ ?_ <;> intro hb <;> (try simp only [zA, zB, zG, zC, zD, zN] at hb) <;> (try exact zQ))
     ·refine wt ?_
      exact j0b (k + 1) zO zO (ent zS trivial)
    ·refine wt ?_
     exact j0b (k + 1) zO zO (ent zS trivial)
  ·refine wt ?_
   exact j0b 1 zO zO (ent zS trivial)
 |1, _ =>
  refine wt ?_
  refine j0j (q0d (k := 1) zE (J1O) rfl rfl) rfl ?_
  refine wt ?_
  refine j0h (γ := Nat) (fun k => [(2, .av (.ptr 9 (syA S))), (3, .av (.ptr 9 (plA S t))), (29, .av (.agg 3 (fun j => plA S t (6 + j)))), (30, .av (vi 1)), (7, .av (vi 1)), (8, .av (idx (onS S t 1))), (34, .av (idx (onS S t 1))), (35, .av (vi (onS S t 1).length)), (36, .av (vi k))]) (fun _ => []) (fun k => k ≤ (onS S t 1).length) (fun k => (onS S t 1).length - k) 0 zO (ent zS trivial) ?_
  intro k hk
  refine wt ?_
  (refine j0a rfl ?_ ?_ <;> intro hb <;> (try simp only [zA, zB, zG, zC, zD, zN] at hb) <;> (try exact zQ))
  ·have hkl : k < (onS S t 1).length := by omega
   have hlt := V1r S t 1 hkl
   have ha : 0 < k → gi (onS S t 1) (k - 1) < gi (onS S t 1) k := fun h0 => by
    have := v1E S t 1 (i := k - 1) zO
    rw [show k - 1 + 1 = k by omega] at this
    exact this
   have e0 : ((k : Int) - 1).toNat = k - 1 := by omega
   refine wt ?_
   (refine j0a rfl ?_ ?_ <;> intro hb <;> (try simp only [zA, zB, zG, zC, zD, zN] at hb) <;> (try exact zQ))
   ·refine wt ?_
    (first | refine j0g rfl rfl ?_ ?_ | refine j0f rfl rfl ?_ ?_) <;> intro hb <;> (try simp only [zA, zB, zG, zC, zD, zN] at hb) <;> (try exact zQ)
    ·have := ha zO
     refine wt ?_
     rw [e0]
     (refine j0a rfl ?_ ?_ <;> intro hb <;> (try simp only [zA, zB, zG, zC, zD, zN] at hb) <;> (try exact zQ))
     ·refine wt ?_
      exact j0b (k + 1) zO zO (ent zS trivial)
    ·refine wt ?_
     exact j0b (k + 1) zO zO (ent zS trivial)
  ·refine wt ?_
   exact j0b 2 zO zO (ent zS trivial)
 |2, _ =>
  refine wt ?_
  refine j0j (q0d (k := 2) zE (J1P) rfl rfl) rfl ?_
  refine wt ?_
  refine j0h (γ := Nat) (fun k => [(2, .av (.ptr 9 (syA S))), (3, .av (.ptr 9 (plA S t))), (29, .av (.agg 3 (fun j => plA S t (6 + j)))), (30, .av (vi 2)), (7, .av (vi 2)), (8, .av (idx (onS S t 2))), (34, .av (idx (onS S t 2))), (35, .av (vi (onS S t 2).length)), (36, .av (vi k))]) (fun _ => []) (fun k => k ≤ (onS S t 2).length) (fun k => (onS S t 2).length - k) 0 zO (ent zS trivial) ?_
  intro k hk
  refine wt ?_
  (refine j0a rfl ?_ ?_ <;> intro hb <;> (try simp only [zA, zB, zG, zC, zD, zN] at hb) <;> (try exact zQ))
  ·have hkl : k < (onS S t 2).length := by omega
   have hlt := V1r S t 2 hkl
   have ha : 0 < k → gi (onS S t 2) (k - 1) < gi (onS S t 2) k := fun h0 => by
    have := v1E S t 2 (i := k - 1) zO
    rw [show k - 1 + 1 = k by omega] at this
    exact this
   have e0 : ((k : Int) - 1).toNat = k - 1 := by omega
   refine wt ?_
   (refine j0a rfl ?_ ?_ <;> intro hb <;> (try simp only [zA, zB, zG, zC, zD, zN] at hb) <;> (try exact zQ))
   ·refine wt ?_
    (first | refine j0g rfl rfl ?_ ?_ | refine j0f rfl rfl ?_ ?_) <;> intro hb <;> (try simp only [zA, zB, zG, zC, zD, zN] at hb) <;> (try exact zQ)
    ·have := ha zO
     refine wt ?_
     rw [e0]
     (refine j0a rfl ?_ ?_ <;> intro hb <;> (try simp only [zA, zB, zG, zC, zD, zN] at hb) <;> (try exact zQ))
     ·refine wt ?_
      exact j0b (k + 1) zO zO (ent zS trivial)
    ·refine wt ?_
     exact j0b (k + 1) zO zO (ent zS trivial)
  ·refine wt ?_
   exact j0b 3 zO zO (ent zS trivial)
 |3, _ =>
  refine wt ?_
  refine j0j (j0d rfl rfl) rfl ?_
  refine wt ?_
  refine j0j (j0k (us := t6L t) rfl rfl rfl rfl) rfl ?_
  refine wt ?_
  refine q0M (j0t rfl rfl (v0G S t) rfl rfl) ?_
  refine wt ?_
  refine x0I (j0d rfl rfl) rfl rfl rfl ?_
  refine wt ?_
  refine x0I (j0l (f := plA S t) rfl rfl rfl) rfl rfl rfl ?_
  refine wt ?_
  refine j0j (j0d rfl rfl) rfl ?_
  refine wt ?_
  refine q0M (j0t rfl rfl (w1O S) rfl rfl) ?_
  refine wt ?_
  refine j0j (j0d rfl rfl) rfl ?_
  refine wt ?_
  refine j0h (γ := Nat) (fun i => [(2, .av (.ptr 9 (syA S))), (14, .own 11 0), (88, .av (.agg 3 (fun j => plA S t (6 + j)))), (89, .av (vi i))]) (fun i => [(11, .cells (smC S t i))]) (fun i => i ≤ 3) (fun i => 3 - i) 0 zO (ent zS zT) ?_
  intro i hi
  match i, hi with
  |0, _ =>
   have hl := W0v (S.sp 0) (onS S t 0) (fun i hi => (j0I.1 hi).1) zO zO
   refine wt ?_
   refine j0j (q0d (k := 0) zE (J1N) rfl rfl) rfl ?_
   refine wt ?_
   refine j0C (q0u 22 hl rfl rfl) rfl ?_
   refine wt ?_
   exact j0b 1 zO zO (Ent.trans (j0J 11 22 (6 + 0) rfl rfl rfl rfl) (ent zS zT))
  |1, _ =>
   have hl := W0v (S.sp 1) (onS S t 1) (fun i hi => (j0I.1 hi).1) zO zO
   refine wt ?_
   refine j0j (q0d (k := 1) zE (J1O) rfl rfl) rfl ?_
   refine wt ?_
   refine j0C (q0u 22 hl rfl rfl) rfl ?_
   refine wt ?_
   exact j0b 2 zO zO (Ent.trans (j0J 11 22 (6 + 1) rfl rfl rfl rfl) (ent zS zT))
  |2, _ =>
   have hl := W0v (S.sp 2) (onS S t 2) (fun i hi => (j0I.1 hi).1) zO zO
   refine wt ?_
   refine j0j (q0d (k := 2) zE (J1P) rfl rfl) rfl ?_
   refine wt ?_
   refine j0C (q0u 22 hl rfl rfl) rfl ?_
   refine wt ?_
   exact j0b 3 zO zO (Ent.trans (j0J 11 22 (6 + 2) rfl rfl rfl rfl) (ent zS zT))
  |3, _ =>
   refine wt ?_
   refine j0j (j0l (f := syA (cnS S t)) rfl rfl rfl) rfl ?_
   refine wt ?_
   exact zV
  |i + 4, hi => omega
 |i + 4, hi => omega
end Go.Proofs.YtfggdokihnopeaaGreatDoor.H
