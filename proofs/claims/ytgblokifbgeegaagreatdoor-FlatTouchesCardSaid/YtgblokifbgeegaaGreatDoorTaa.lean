/- A part of the proof. -/
import Derived.Test.YtgblokifbgeegaaGreatDoorBbb
set_option linter.unusedVariables false
set_option linter.unusedSimpArgs false
namespace Go.Proofs.YtgblokifbgeegaaGreatDoor.H.S
open Go Go.Vc Go.RowKit Go.Na Go.Lib
set_option maxHeartbeats 8000000
theorem fewB_few {l : List Tr} (h : K1Q l = true) : few l ∧ l.length ≤ 1000 := by
 unfold K1Q at h
 simp only [Bool.or_eq_true, Bool.and_eq_true, decide_eq_true_eq] at h
 unfold few
 omega
def rgtB (l : List Tr) : Bool := K1Q l && decide (v0i l = 0) && decide (2 ≤ rkI l)
theorem right_c (l : List Tr) : CtrA Tryz.prog 25 [ts l] (vb (rgtB l)) := by
 have h0 := K1R l
 unfold rgtB
 refine j0n _ Tryz.func25 rfl rfl Tryz.ntmps25 rfl fun w Z => ?_
 by_cases hf : K1Q l = true
 ·obtain ⟨hfw, hn⟩ := fewB_few hf
  have hc := Z1e l hn
  rw [hf] at h0 ⊢
  by_cases h : v0i l = 0
  ·have hr := K1d l (RT.of h).1 (hfw.le7 h)
   rw [h] at hc ⊢
   generalize rkI l = r at hr ⊢
   refine xU ?_
   refine wt ?_
   exact xV
  ·rw [decide_eq_false h]
   have hz : (v0i l == 0) = false := by rw [beq_eq_false_iff_ne]; exact h
   generalize v0i l = e at hc h hz
   refine xU ?_
   refine wt ?_
   rw [hz]
   refine wt ?_
   exact xV
 ·rw [show K1Q l = false by cases h : K1Q l <;> simp_all] at h0 ⊢
  refine xU ?_
  refine wt ?_
  exact xV
theorem rgt_of {l : List Tr} (h : rgtB l = true) : few l ∧ l.length ≤ 7 ∧ v0i l = 0 ∧ J0c l ∧ J0R l = 0 := by
 unfold rgtB at h
 simp only [Bool.and_eq_true, decide_eq_true_eq] at h
 obtain ⟨⟨h1, h2⟩, h3⟩ := h
 have hf := (fewB_few h1).1
 refine ⟨hf, hf.le7 h2, h2, (V1V l).1 h3, ?_⟩
 unfold J0R
 rw [if_pos h2, if_neg (by have := (K1T l).1 h3; omega)]
theorem short_c (q : Rat) (h : LR 49 q) : CtrA Tryz.prog 30 [vS (rtx q)] (vb true) := by
 have hl := v1Z h xE
 have hc := V1U (rtx q) xO
 have e : k1n (rtx q) = 0 := k1o q
 rw [e] at hc
 have h5 : decide (((rtx q).length : Int) ≤ 100) = true := decide_eq_true xO
 refine j0n _ Tryz.func30 rfl rfl Tryz.ntmps30 rfl fun w Z => ?_
 refine xU ?_
 refine wt ?_
 rw [h5]
 refine wt ?_
 exact xV
end Go.Proofs.YtgblokifbgeegaaGreatDoor.H.S
namespace Go.Proofs.YtgblokifbgeegaaGreatDoor.H.S
open Go Go.Vc Go.RowKit
theorem gt_mapT {l : List Tr} {T : Tr → Tr} {i : Nat} (h : i < l.length) : gt (l.map T) i = T (gt l i) := by unfold gt; simp [List.getD, h]
theorem tac_turn (b x y z : Tr) (e : tac (Y0g b x) (Y0g b y) (Y0g b z) = tz) : tac x y z = tz := by
 simp only [tac, Y0g, tcr, j0D, tz, Tr.mk.injEq] at e ⊢
 refine ⟨?_, ?_, ?_⟩ <;> grind
theorem wide_turn {l : List Tr} (b : Tr) (h : J0c l) : J0c (l.map (Y0g b)) := by
 obtain ⟨x, y, z, hx, hy, hz, hn⟩ := h
 refine ⟨x, y, z, by simpa using hx, by simpa using hy, by simpa using hz, fun e => hn ?_⟩
 rw [gt_mapT hx, gt_mapT hy, gt_mapT hz] at e
 exact tac_turn b _ _ _ e
theorem tac_mul (k : Int) (x y z : Tr) : tac (j0N x k) (j0N y k) (j0N z k) = j0N (tac x y z) (k * k) := by
 simp only [tac, j0N, tcr, j0D, Tr.mk.injEq]
 refine ⟨?_, ?_, ?_⟩ <;> grind
theorem wide_grow {l : List Tr} {k : Int} (hk : 0 < k) (h : J0c l) : J0c (l.map fun p => j0N p k) := by
 obtain ⟨x, y, z, hx, hy, hz, hn⟩ := h
 refine ⟨x, y, z, by simpa using hx, by simpa using hy, by simpa using hz, fun e => hn ?_⟩
 rw [gt_mapT hx, gt_mapT hy, gt_mapT hz, tac_mul] at e
 have hkk : k * k ≠ 0 := by have := Int.mul_pos hk hk; omega
 simp only [j0N, tz, Tr.mk.injEq] at e
 have f : ∀ n : Int, k * k * n = 0 → n = 0 := fun n hn => by
  rcases Int.mul_eq_zero.1 hn with q | q
  ·exact absurd q hkk
  ·exact q
 exact v0e (f _ e.1) (f _ e.2.1) (f _ e.2.2)
theorem wide_more {l : List Tr} (p : Tr) (h : J0c l) : J0c (l ++ [p]) := by
 obtain ⟨x, y, z, hx, hy, hz, hn⟩ := h
 refine ⟨x, y, z, by simp; omega, by simp; omega, by simp; omega, ?_⟩
 rw [y0m hx, y0m hy, y0m hz]
 exact hn
theorem err_ok {l : List Tr} (h : v0i l = 0) (hw : J0c l) : J0R l = 0 := by
 unfold J0R
 rw [if_pos h, if_neg (by have := (Z0M l).1 hw; omega)]
theorem rk_side {l : List Tr} (h : ¬ Sol l) : rkI l = rA l l.length := by
 unfold rkI
 rw [if_neg (fun e => h ((q0T l).1 e))]
theorem rk_2 {l : List Tr} (h : J0c l) : rkI l = 2 ↔ ¬ Sol l := by
 unfold rkI
 by_cases hd : (spn l).dim = 3
 ·rw [if_pos hd]
  exact ⟨fun e => by omega, fun e => absurd ((q0T l).1 hd) e⟩
 ·rw [if_neg hd, k1r h]
  exact ⟨fun _ e => hd ((q0T l).2 e), fun _ => rfl⟩
end Go.Proofs.YtgblokifbgeegaaGreatDoor.H.S
namespace Go.Proofs.YtgblokifbgeegaaGreatDoor.H.S
open Go Go.Vc Go.RowKit Go.Na Go.Lib
set_option maxHeartbeats 8000000
theorem Wq_LR49 {l : List Tr} (hl : RT l) (h0 : 0 < l.length) {d : Tr} (hd : GD d) : LR 49 (Wq l d) := by
 obtain ⟨⟨a1, a2⟩, ⟨b1, b2⟩, hle⟩ := x1g hl h0 hd.bt
 have hw : LI 17 (wdt l d) := (show (wdt l d).natAbs < 10 ^ 17 by unfold wdt; omega)
 have hn := w1G hd.I
 have hnn := q0p hd.ne
 unfold Wq
 rw [← Rat.divInt_eq_div]
 exact q1i xO ((hw.mul hw).mono xE) (hn.mono xE)
theorem lm_GD {l : List Tr} (hl : RT l) (hw : J0c l) : GD (lm l) := ⟨(Y1E hw).1, Y1C hl hw⟩
theorem inZ_own {l : List Tr} (hc : v0i l = 0) (hl : RT l) (h0 : 0 < l.length) {d : Tr} (hd : GD d) : X1X l d (loD l d) (hiD l d) = 0 ∧ inZ l d (loD l d) (hiD l d) = true := by
 have e : X1X l d (loD l d) (hiD l d) = 0 := by unfold X1X; rw [if_pos hc, (j2e hl h0 hd).1]
 refine ⟨e, ?_⟩
 unfold inZ
 rw [if_pos e, z1n]
 intro i hi
 unfold y1n
 rw [decide_eq_true (x0e d hi), decide_eq_true (w0I d hi)]; rfl
theorem wd_0 {l : List Tr} (h : J0R l = 0) : wtx l = rtx (Wq l (lm l)) ∧ dW l = lm l ∧ aW l = loD l (lm l) ∧ bW l = hiD l (lm l) := by
 unfold wtx dW aW bW
 rw [if_pos h, if_pos h, if_pos h, if_pos h]
 exact ⟨rfl, rfl, rfl, rfl⟩
theorem zw_c (l : List Tr) (hf : few l) (h : J0R l = 0) : CtrA Tryz.prog 18 [ts l] (j0r [vS (rtx (Wq l (lm l))), zA (lm l) (loD l (lm l)) (hiD l (lm l)), vi 0]) := by
 have h1 := z0i l hf
 rw [(wd_0 h).1, (wd_0 h).2.1, (wd_0 h).2.2.1, (wd_0 h).2.2.2, h] at h1
 exact h1
theorem zin_c (l : List Tr) {m : Tr} (hl : RT l) (h0 : 0 < l.length) (hm : GD m) (k : List Tr) : CtrA Tryz.prog 35 [ts k, zA m (loD l m) (hiD l m)] (j0r [vb (inZ k m (loD l m) (hiD l m)), vi (X1X k m (loD l m) (hiD l m))]) := by
 obtain ⟨⟨a1, a2⟩, ⟨b1, b2⟩, _⟩ := x1g hl h0 hm.bt
 exact W1N k m _ _ hm.I ⟨by omega, by omega⟩ ⟨by omega, by omega⟩
theorem leasts_c (l : List Tr) (d : Tr) : CtrA Tryz.prog 9 [ts l, tp d] (vb true) := by
 have h0 := right_c l
 have h3 := k1C
 by_cases hr : rgtB l = true
 ·rw [hr] at h0
  obtain ⟨hfw, h7, hc0, hw, hE⟩ := rgt_of hr
  by_cases hz : d = tz
  ·refine j0n _ Tryz.func9 rfl rfl Tryz.ntmps9 rfl fun w Z => ?_
   refine xU ?_
   refine wt ?_
   repeat' (first
     |(refine z0Y (j0k (t := 22) (is := []) (xs := []) (vs := []) Z1B rfl rfl) rfl rfl rfl ?_; refine wt ?_))
   rw [j1c, decide_eq_true hz]
   refine wt ?_
   exact xV
  ·have hs := y1K d
   by_cases hR : q0A d = true
   ·have hl := (RT.of hc0).1
    have hl0 : 0 < l.length := by obtain ⟨a, _, _, ha, _⟩ := hw; omega
    have hG := lm_GD hl hw
    have hB := y1I hR
    have hGd : GD d := ⟨hz, hB.le xE⟩
    have h1 := zw_c l hfw hE
    have h2 := K1l l hl hl0 (lm l) hG
    have h4 := zin_c l hl hl0 hG l
    rw [(inZ_own hc0 hl hl0 hG).1, (inZ_own hc0 hl hl0 hG).2] at h4
    have h5 := x1f l d
    have hA : z1E l d = 0 := by unfold z1E; rw [if_pos hc0, if_neg hz, if_pos hR, if_neg (by omega)]
    rw [x1e hA, hA] at h5
    have h6 := K1l l hl hl0 d hGd
    have h7' := short_c _ (Wq_LR49 hl hl0 hG)
    have h8 := short_c _ (Wq_LR49 hl hl0 hGd)
    have h9 := W1Z (Wq l (lm l)) (Wq l d) ((Wq_LR49 hl hl0 hG).mono xE) ((Wq_LR49 hl hl0 hGd).mono xE)
    have hle : decide (rsg (Wq l (lm l) - Wq l d) ≤ 0) = true := by rw [Z1f]; exact decide_eq_true ((Y1E hw).le hz)
    have htz : ([d.x, d.y, d.z] == [0, 0, 0]) = false := by rw [j1c, decide_eq_false hz]
    rw [hR] at hs
    have hee : (rtx (Wq l (lm l)) == rtx (Wq l (lm l))) = true := beq_self_eq_true _
    generalize lm l = m at h1 h2 h4 h7' h9 hle hee
    refine j0n _ Tryz.func9 rfl rfl Tryz.ntmps9 rfl fun w Z => ?_
    refine xU ?_
    refine wt ?_
    repeat' (first
      |(refine z0Y (j0k (t := 22) (is := []) (xs := []) (vs := []) Z1B rfl rfl) rfl rfl rfl ?_; refine wt ?_))
    rw [htz]
    refine wt ?_
    repeat' (first
      |(refine z0Y (j0k (t := 53) (is := [0, 1, 2]) (xs := [_, _, _]) (vs := [_, _, _]) (K1X _ _ _) rfl rfl) rfl rfl rfl ?_; refine wt ?_))
    rw [hee]
    refine wt ?_
    rw [hle]
    refine wt ?_
    exact xV
   ·rw [show q0A d = false by cases h : q0A d <;> simp_all] at hs
    refine j0n _ Tryz.func9 rfl rfl Tryz.ntmps9 rfl fun w Z => ?_
    refine xU ?_
    refine wt ?_
    repeat' (first
      |(refine z0Y (j0k (t := 22) (is := []) (xs := []) (vs := []) Z1B rfl rfl) rfl rfl rfl ?_; refine wt ?_))
    rw [j1c, decide_eq_false hz]
    refine wt ?_
    repeat' (first
      |(refine z0Y (j0k (t := 53) (is := [0, 1, 2]) (xs := [_, _, _]) (vs := [_, _, _]) (K1X _ _ _) rfl rfl) rfl rfl rfl ?_; refine wt ?_))
    exact xV
 ·rw [show rgtB l = false by cases h : rgtB l <;> simp_all] at h0
  refine j0n _ Tryz.func9 rfl rfl Tryz.ntmps9 rfl fun w Z => ?_
  refine xU ?_
  refine wt ?_
  exact xV
def ptsK (l : List Tr) (L : List Nat) (k : Nat) : List Tr := (List.range k).map fun i => gt l (gi L i)
theorem ptsK_succ (l : List Tr) (L : List Nat) (k : Nat) : ptsK l L (k + 1) = ptsK l L k ++ [gt l (gi L k)] := by
 unfold ptsK
 rw [List.range_succ, List.map_append]; rfl
theorem ptsK_len (l : List Tr) (L : List Nat) (k : Nat) : (ptsK l L k).length = k := by unfold ptsK; simp
theorem ptsK_all (l : List Tr) (L : List Nat) : ptsK l L L.length = v0z l L := by
 unfold ptsK v0z
 apply List.ext_getElem
 ·simp
 ·intro i h1 h2
  have hi : i < L.length := by simpa using h1
  simp [gi, List.getD, hi]
theorem ptsOf_RT {l : List Tr} (hl : RT l) (L : List Nat) : RT (v0z l L) := fun i => by
 by_cases h : i < (v0z l L).length
 ·obtain ⟨a, _, e⟩ := y1D h
  rw [e]; exact hl a
 ·rw [show gt (v0z l L) i = tz by unfold gt; rw [List.getD, List.getElem?_eq_none (by omega)]; rfl]
  exact ⟨⟨by decide, by decide⟩, ⟨by decide, by decide⟩, ⟨by decide, by decide⟩⟩
theorem side_rank_c (l : List Tr) (L : List Nat) (hl : RT l) (hn : l.length ≤ 1000) (h7 : L.length ≤ 7) (hL : ∀ i, i < L.length → gi L i < l.length) : CtrA Tryz.prog 27 [idx L, lt l] (vi (rkI (v0z l L))) := by
 have hr := K1d (v0z l L) (ptsOf_RT hl L) (by unfold v0z; simpa using h7)
 refine j0n _ Tryz.func27 rfl rfl Tryz.ntmps27 rfl fun w Z => ?_
 refine xU ?_
 refine wt ?_
 refine j0f (γ := Nat) (fun k => [(1, .av (lt l)), (4, .osl 70), (7, .av (idx L)), (8, .av (vi L.length)), (9, .av (vi k))]) (fun k => [(70, .row 53 3 (ptsK l L k).length (tf (ptsK l L k)))]) (fun k => k ≤ L.length) (fun k => L.length - k) 0 (Nat.zero_le _) (Ent.trans (w0S (dd := 4) 70 53 3 (tf []) rfl rfl) (ent xS xT)) ?_
 intro k hk
 refine wt ?_
 (refine j0a rfl ?_ ?_ <;> intro hb <;> (try simp only [xA, xB, xG, xC, xD, xN] at hb) <;> (try exact xQ))
 ·have hkl : k < L.length := by omega
  have hg := hL k hkl
  have e1 := ptsK_succ l L k
  have hYl := ptsK_len l L k
  generalize ptsK l L k = Y at e1 hYl ⊢
  have hml : Y.length + 1 ≤ maxLen := by simp only [maxLen]; omega
  refine wt ?_
  (refine j0a rfl ?_ ?_ <;> intro hb <;> (try simp only [xA, xB, xG, xC, xD, xN] at hb) <;> (try exact xQ))
  refine wt ?_
  repeat' (first
    |(refine j0l (q0c (is := [0]) (xs := [_]) (vs := [_]) (us := [_, _, _]) (j2V _ _ _) rfl rfl rfl (J1F _)) rfl ?_; refine wt ?_))
  refine wt ?_
  repeat' (first
    |(refine j0u (v0H (h := tf [gt l (gi L k)]) (m := 1) rfl rfl rfl (fun i _ j _ => J1E _ i j) xO hml xO) rfl ?_; refine wt ?_))
  exact j0b (k + 1) (by omega) (by omega) (ent xS ⟨⟨_, rfl, .row (by rw [e1]; simp) (fun i hi j hj => by rw [e1]; exact J1D _ _ i hi j hj)⟩, trivial⟩)
 ·have hkl : k = L.length := by omega
  subst hkl
  rw [ptsK_all]
  refine wt ?_
  exact xV
theorem touches_c (l : List Tr) : CtrA Tryz.prog 6 [ts l] (vb true) := by
 have h0 := right_c l
 have h3 := k1C
 by_cases hr : rgtB l = true
 ·rw [hr] at h0
  obtain ⟨hfw, h7, hc0, hw, hE⟩ := rgt_of hr
  have hl := (RT.of hc0).1
  have hl0 : 0 < l.length := by obtain ⟨a, _, _, ha, _⟩ := hw; omega
  have hm := Y1E hw
  have h1 := Z0t l hfw
  unfold cLo cHi at h1
  rw [if_pos hE, if_pos hE, hE] at h1
  have h2 := zw_c l hfw hE
  have h4 := K1d l hl h7
  have e1 : (rtx (Wq l (lm l)) == [48]) = (rkI l == 2) := by
   rw [Bool.eq_iff_iff, beq_iff_eq, beq_iff_eq, rk_2 hw, ← Q1l hw hm]
   have := K1e (Wq l (lm l))
   rw [Bool.eq_iff_iff, decide_eq_true_eq, decide_eq_true_eq] at this
   exact this
  have f1 : ¬ Sol (v0z l (loS l (lm l))) := Z1o hm.1 (M := loD l (lm l)) fun a ha => (w0u.1 ha).2
  have f2 : ¬ Sol (v0z l (hiS l (lm l))) := Z1o hm.1 (M := hiD l (lm l)) fun a ha => (x0a.1 ha).2
  have t := touches hw hm
  rw [← rk_side f1, ← rk_side f2] at t
  have b1 := V1N (v0z l (loS l (lm l))) (v0z l (loS l (lm l))).length
  have b2 := V1N (v0z l (hiS l (lm l))) (v0z l (hiS l (lm l))).length
  rw [← rk_side f1] at b1
  rw [← rk_side f2] at b2
  have c1 : (loS l (lm l)).length ≤ 7 := Nat.le_trans (V1x l (lm l) l.length) h7
  have c2 : (hiS l (lm l)).length ≤ 7 := Nat.le_trans (V1f l (lm l) l.length) h7
  have d1 : ∀ i, i < (loS l (lm l)).length → gi (loS l (lm l)) i < l.length := fun i hi => (w0u.1 (show gi (loS l (lm l)) i ∈ loS l (lm l) by unfold gi; simp [List.getD, hi])).1
  have d2 : ∀ i, i < (hiS l (lm l)).length → gi (hiS l (lm l)) i < l.length := fun i hi => (x0a.1 (show gi (hiS l (lm l)) i ∈ hiS l (lm l) by unfold gi; simp [List.getD, hi])).1
  have h5 := side_rank_c l _ hl xO c1 d1
  have h6 := side_rank_c l _ hl xO c2 d2
  generalize rkI (v0z l (loS l (lm l))) = ra at h5 t b1
  generalize rkI (v0z l (hiS l (lm l))) = rb at h6 t b2
  generalize loS l (lm l) = A at h1 h5
  generalize hiS l (lm l) = B at h1 h6
  obtain ⟨t1, t2, t3⟩ := t
  refine j0n _ Tryz.func6 rfl rfl Tryz.ntmps6 rfl fun w Z => ?_
  refine xU ?_
  refine wt ?_
  rw [e1, beq_self_eq_true]
  refine wt ?_
  repeat' (first
    |(refine j0m rfl rfl (fun hb => ?_) (fun hb => ?_) <;> (try simp only [xA, xB, xG, xC, xD, xN] at hb) <;> (try exact xQ) <;> refine wt ?_))
  exact xV
 ·rw [show rgtB l = false by cases h : rgtB l <;> simp_all] at h0
  refine j0n _ Tryz.func6 rfl rfl Tryz.ntmps6 rfl fun w Z => ?_
  refine xU ?_
  refine wt ?_
  exact xV
end Go.Proofs.YtgblokifbgeegaaGreatDoor.H.S
