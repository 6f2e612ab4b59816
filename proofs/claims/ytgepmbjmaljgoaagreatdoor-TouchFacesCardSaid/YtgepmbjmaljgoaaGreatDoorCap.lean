/- A part of the proof. -/
import Derived.Calls
import Derived.Sort.Grow
import Derived.Test.YtgepmbjmaljgoaaGreatDoorCak
import Derived.Test.YtgepmbjmaljgoaaGreatDoorCao
set_option linter.unusedVariables false
set_option linter.unusedSimpArgs false
namespace Go.Proofs.YtgepmbjmaljgoaaGreatDoor
open Go Go.Vc Go.RowKit Go.Na Go.Lib
set_option maxHeartbeats 4000000
theorem wdivided_o (b b' : Bool) (V W : Nat) (hV : nw V ≤ 231) (hW : nw W ≤ 231) (hW0 : W ≠ 0) :
  CtrH Tryz.prog 230 [.own 1000 0, .own 1001 0] [(1000, .wi b (nw V) (wd V)), (1001, .wi b' (nw W) (wd W))] (.tupC [.own 7 0, .own 8 0]) [(7, .wi false (nw (V / W)) (wd (V / W))), (8, .wi false (nw (V % W)) (wd (V % W))), (1000, .wi b (nw V) (wd V)), (1001, .wi b' (nw W) (wd W))] := by
 have hWp : 0 < W := Nat.pos_of_ne_zero hW0
 have hnr : ∀ k, nw (V / 1000000000 ^ k % W) ≤ nw W := fun k => nw_mono (Nat.le_of_lt (Nat.mod_lt _ hWp))
 have hnq : nw (V / W) ≤ nw V := nw_mono (Nat.div_le_self _ _)
 refine ctrH _ Tryz.func230 rfl rfl Tryz.ntmps230 rfl rfl fun w Z ν => ?_
 refine zU ?_
 refine wl ?_
 refine sq_g (g_build (is := []) (xs := []) (vs := []) tb285 rfl rfl) rfl ?_
 refine sq_v (f_box_w 7 rfl rfl) rfl ?_
 refine sq_g (g_build (is := []) (xs := []) (vs := []) tb285 rfl rfl) rfl ?_
 refine sq_v (f_box_w 8 rfl rfl) rfl ?_
 refine wl ?_
 refine cq_loop (γ := Nat × Nat) (fun q => [(0, .own 1000 0), (1, .own 1001 0), (6, .own 7 0), (7, .own 8 0), (8, .av (vi ((q.1 : Int) - 1)))]) (fun q => [(7, .wi false q.2 (hiq (V / W) q.1)), (8, .wi false (nw (V / 1000000000 ^ q.1 % W)) (wd (V / 1000000000 ^ q.1 % W))), (1000, .wi b (nw V) (wd V)), (1001, .wi b' (nw W) (wd W))]) (fun q => q.1 ≤ nw V ∧ q.2 ≤ 231 ∧ (nw (V / W) ≤ q.2 ∨ q.1 = nw V ∧ 0 < nw V)) (fun q => q.1) (nw V, 0) ⟨by show _ ≤ _; omega, by show _ ≤ _; omega, by show nw (V / W) ≤ 0 ∨ nw V = nw V ∧ 0 < nw V; omega⟩ (ent ⟨.refl _, .refl _, .refl _, .refl _, .int (by show _ = _; omega), trivial⟩ ⟨⟨_, rfl, by
  rw [hiq_top hnq]; exact .refl _⟩, ⟨_, rfl, by
  rw [show V / 1000000000 ^ (nw V) % W = 0 by rw [Nat.div_eq_of_lt (lt_nw V), Nat.zero_mod], nw_zero, wd_z]
  exact .refl _⟩, ⟨_, rfl, .refl _⟩, ⟨_, rfl, .refl _⟩, trivial⟩) ?_
 rintro ⟨k, n⟩ ⟨hk, hn, hqn⟩
 dsimp only at hk hn hqn ⊢
 refine wl ?_
 (refine cq_cond rfl ?_ ?_ <;> intro hb <;> (try simp only [zA, zB, zG, zC, zD, zN] at hb) <;> (try (exfalso; omega)))
 ·obtain ⟨j, rfl⟩ : ∃ j, k = j + 1 := ⟨k - 1, by omega⟩
  have e : ((j + 1 : Nat) : Int) - 1 = j := by omega
  rw [e]
  obtain ⟨dw1, dw2, dw3⟩ := div_word (V := V) (W := W) (k := j) hW0
  have hwd : wd V j = ((V / 1000000000 ^ j % 1000000000 : Nat) : Int) := rfl
  have hd : V / 1000000000 ^ j % 1000000000 < 1000000000 := Nat.mod_lt _ zE
  have hqd : wd (V / W) j = ((V / W / 1000000000 ^ j % 1000000000 : Nat) : Int) := rfl
  have hr1 := hnr (j + 1)
  have hmr : V / 1000000000 ^ (j + 1) % W < W := Nat.mod_lt _ hWp
  rw [← dw2] at hqd
  generalize V / 1000000000 ^ (j + 1) % W = R at *
  have hup := shup_up (R := R) hd
  have hnx := nw_up (R := R) hd
  rw [← hwd] at hup
  generalize V / 1000000000 ^ j % 1000000000 = dg at *
  have ht := trimmed_c false (nw R + 1) (nw (R * 1000000000 + dg)) (wd (R * 1000000000 + dg)) hnx zO (fun i h _ => wd_out h) (by
   by_cases h0 : R * 1000000000 + dg = 0
   ·left; rw [h0, nw_zero]
   ·exact .inr (wd_top h0))
  generalize R * 1000000000 + dg = X at *
  refine wl ?_
  refine dq_g (g_slice_own (l := 1) (h := 232) rfl rfl ⟨_, _, rfl, rfl⟩ rfl zE zE zE) rfl ?_
  refine wl ?_
  refine dq_g (g_slice_own0 (h := nw R) rfl rfl rfl zO zE) rfl ?_
  refine wl ?_
  refine dq_call_h (g_copy_w (m := nw R) rfl rfl rfl zO) rfl ?_
  refine wl ?_
  refine dq_s (g_store_ww 0 rfl rfl rfl rfl zE) ?_
  refine wl ?_
  refine lsq_more (ent_w 8 (n' := ((nw R + 1 : Nat) : Int)) (f' := wd X) rfl rfl zO hup) ?_
  refine sq_v (v_call_h [(1000, 8)] ht rfl ⟨rfl, trivial⟩ rfl) rfl ?_
  refine wl ?_
  refine cq_loop (γ := Nat × Nat) (fun q => [(0, .own 1000 0), (1, .own 1001 0), (6, .own 7 0), (7, .own 8 0), (8, .av (vi j)), (9, .av (vi q.2))]) (fun q => [(7, .wi false n (hiq (V / W) (j + 1))), (8, .wi false (nw q.1) (wd q.1)), (1000, .wi b (nw V) (wd V)), (1001, .wi b' (nw W) (wd W))]) (fun q => X = q.1 + q.2 * W) (fun q => q.1) (X, 0) (by show X = X + 0 * W; omega) (ent zS zT) ?_
  rintro ⟨Y, dd⟩ hY
  dsimp only at hY ⊢
  have hYX : nw Y ≤ 232 := Nat.le_trans (nw_mono (by omega : Y ≤ X)) zO
  have hbe := beyond_c Y W false b' hYX zO
  have hb2 := bey_ge Y W
  have hdd : dd < 1000000000 := by
   refine Nat.lt_of_le_of_lt ?_ dw3
   rw [Nat.le_div_iff_mul_le hWp]; omega
  refine wl ?_
  refine sq_g (g_call_r hbe rfl ⟨.w rfl rfl, .w rfl rfl, trivial⟩ (flat_val _)) rfl ?_
  refine wl ?_
  (refine cq_cond rfl ?_ ?_ <;> intro hb <;> (try simp only [zA, zB, zG, zC, zD, zN] at hb) <;> (try (exfalso; omega)))
  ·have hes := estimate_c Y W false b' hYX zO hW0
   obtain ⟨he1, he2, he3⟩ := est_ok hW0 (hb2.1 zO)
   obtain ⟨κ, hκ⟩ : ∃ κ : Nat, est Y W = κ := ⟨(est Y W).toNat, by omega⟩
   rw [hκ] at hes he1 he2 he3
   have hle : κ * W ≤ Y := by rw [← Int.natCast_mul] at he3; omega
   have hsub : (dd + κ) * W ≤ X := by rw [Nat.add_mul]; omega
   have hdk : dd + κ < 1000000000 := by
    refine Nat.lt_of_le_of_lt ?_ dw3
    rw [Nat.le_div_iff_mul_le hWp]; exact hsub
   have hcz := carry_o false b' Y W (Y - κ * W) 0 (-(κ : Int)) hYX (by omega) (Nat.le_trans (nw_mono (Nat.sub_le _ _)) hYX) (by omega) (by rw [Int.natCast_sub hle, Int.natCast_mul]; simp; grind)
   refine wl ?_
   refine sq_g (g_call_r hes rfl ⟨.w rfl rfl, .w rfl rfl, trivial⟩ (flat_val _)) rfl ?_
   refine wl ?_
   refine sq_v (v_call_h [(1000, 8), (1001, 1001)] hcz rfl ⟨rfl, rfl, trivial⟩ rfl) rfl ?_
   refine wl ?_
   have hκ0 : 0 < κ * W := Nat.mul_pos zO hWp
   exact sq_round (g := (Y, dd)) (Y - κ * W, dd + κ) (by show X = Y - κ * W + (dd + κ) * W; rw [Nat.add_mul]; omega) (by show Y - κ * W < Y; omega) (ent ⟨.refl _, .refl _, .refl _, .refl _, .refl _, .int (by show (dd : Int) + κ = ((dd + κ : Nat) : Int); omega), trivial⟩ zT)
  ·have hlt : Y < W := by omega
   have q1 : X % W = Y := by rw [hY, Nat.add_mul_mod_self_right, Nat.mod_eq_of_lt hlt]
   have q2 : X / W = dd := by rw [hY, Nat.add_mul_div_right _ _ hWp, Nat.div_eq_of_lt hlt, Nat.zero_add]
   rw [q2] at hqd
   rw [q1] at dw1
   have hmx : ((max n (j + 1) : Nat) : Int) = if (n : Int) < (j : Int) + 1 then (j : Int) + 1 else n := by split <;> omega
   refine wl ?_
   exact sq_round (g := (j + 1, n)) (j, max n (j + 1)) ⟨by show j ≤ nw V; omega, by show max n (j + 1) ≤ 231; omega, .inl (by show nw (V / W) ≤ max n (j + 1); omega)⟩ (by show j < j + 1; omega) (ent zS ⟨⟨_, rfl, by
    dsimp only
    rw [hmx, show hiq (V / W) j = _ from (hiq_step (Q := V / W) (k := j)).symm, hqd]
    exact .refl _⟩, ⟨_, rfl, by
    dsimp only
    rw [← dw1]
    exact .refl _⟩, ⟨_, rfl, .refl _⟩, ⟨_, rfl, .refl _⟩, trivial⟩)
 ·obtain rfl : k = 0 := by omega
  rw [hiq_zero, Nat.pow_zero, Nat.div_one]
  have ht := trimmed_c false n (nw (V / W)) (wd (V / W)) zO zO (fun i h _ => wd_out h) (by
   by_cases h0 : V / W = 0
   ·left; rw [h0, nw_zero]
   ·exact .inr (wd_top h0))
  refine wl ?_
  refine sq_v (v_call_h [(1000, 7)] ht rfl ⟨rfl, trivial⟩ rfl) rfl ?_
  refine wl ?_
  exact sq_more (T' := [(4, .own 7 0), (5, .own 8 0)]) (O' := [(7, .wi false (nw (V / W)) (wd (V / W))), (8, .wi false (nw (V % W)) (wd (V % W))), (1000, .wi b (nw V) (wd V)), (1001, .wi b' (nw W) (wd W))]) (ent zS zT) (sq_retHC (c1 := .own 7 0) (c2 := .own 8 0) rfl rfl rfl rfl rfl)
theorem wd0 {V : Nat} (h : nw V ≤ 1) : wd V 0 = V := by
 have := vw_wd 1 V (Nat.lt_of_lt_of_le (lt_nw V) (Nat.pow_le_pow_right zE h))
 simpa [vw] using this
theorem wgcd_c (m n : Int) (hm : LI 1000 m) (hn : LI 1000 n) : CtrA Tryz.prog 175 [vI m, vI n] (tupOf [vI (Nat.gcd m.natAbs n.natAbs : Nat), vi 0]) := by
 have h00 := all2_c m n hm hn
 have n1 := nw_LI (j := 112) hm zE
 have n2 := nw_LI (j := 112) hn zE
 have r1 := wread_c m (Nat.le_trans (hm.len zE) zE)
 have r2 := wread_c n (Nat.le_trans (hn.len zE) zE)
 generalize m.natAbs = M at *
 generalize n.natAbs = N at *
 refine ctrA _ Tryz.func175 rfl rfl Tryz.ntmps175 rfl fun w Z => ?_
 refine zU ?_
 refine wl ?_
 refine sq_g (g_two rfl rfl) rfl ?_
 refine wl ?_
 refine sq_v (v_call_h [(7, 20)] r1 rfl trivial rfl) rfl ?_
 refine wl ?_
 refine sq_v (v_call_h [(7, 21)] r2 rfl trivial rfl) rfl ?_
 refine wl ?_
 refine cq_loop (γ := (Bool × Bool) × (Nat × Nat)) (fun q => [(7, .own 20 0), (8, .own 21 0)]) (fun q => [(20, .wi q.1.1 (nw q.2.1) (wd q.2.1)), (21, .wi q.1.2 (nw q.2.2) (wd q.2.2))]) (fun q => Nat.gcd q.2.1 q.2.2 = Nat.gcd M N ∧ nw q.2.1 ≤ 112 ∧ nw q.2.2 ≤ 112) (fun q => q.2.2) ((decide (m < 0), decide (n < 0)), (M, N)) ⟨rfl, n1, n2⟩ (ent zS zT) ?_
 rintro ⟨⟨bx, by'⟩, x, y⟩ ⟨k1, k2, k3⟩
 dsimp only at k1 k2 k3 ⊢
 have hy := nw_eq0 (V := y)
 refine wl ?_
 (refine cq_cond rfl ?_ ?_ <;> intro hb <;> (try simp only [zA, zB, zG, zC, zD, zN] at hb) <;> (try (exfalso; omega)))
 ·refine wl ?_
  by_cases hs : nw x ≤ 1 ∧ nw y ≤ 1
  ·have e1 := wd0 hs.1
   have e2 := wd0 hs.2
   have q1 := wd_rng x 0
   have q2 := wd_rng y 0
   have hB : Na.B = 1000000000 := rfl
   rw [hB, e1] at q1
   rw [hB, e2] at q2
   (first | refine sq_split rfl rfl ?_ ?_ | refine dq_split rfl rfl ?_ ?_) <;> intro hb <;> (try simp only [zA, zB, zG, zC, zD, zN] at hb) <;> (try (exfalso; omega))
   refine wl ?_
   (refine cq_cond rfl ?_ ?_ <;> intro hb <;> (try simp only [zA, zB, zG, zC, zD, zN] at hb) <;> (try (exfalso; omega)))
   refine wl ?_
   rw [e1, e2]
   refine cq_loop (γ := Nat × Nat) (fun q => [(9, .av (vi q.1)), (10, .av (vi q.2))]) (fun _ => []) (fun q => Nat.gcd q.1 q.2 = Nat.gcd M N ∧ q.1 < 1000000000 ∧ q.2 < 1000000000) (fun q => q.2) (x, y) ⟨k1, by dsimp only; omega, by dsimp only; omega⟩ (ent zS trivial) ?_
   rintro ⟨x, y⟩ ⟨k1, k2, k3⟩
   dsimp only at k1 k2 k3 ⊢
   refine wl ?_
   (refine cq_cond rfl ?_ ?_ <;> intro hb <;> (try simp only [zA, zB, zG, zC, zD, zN] at hb) <;> (try (exfalso; omega)))
   ·refine wl ?_
    exact sq_round (g := (x, y)) (y, x % y) ⟨by show Nat.gcd y (x % y) = _; rw [gcd_step x y (by omega), k1], k3, by show x % y < _; have := Nat.mod_lt x (show y > 0 by omega); omega⟩ (by show x % y < y; exact Nat.mod_lt _ (by omega)) (ent ⟨.refl _, .int (by dsimp only; omega), trivial⟩ trivial)
   ·obtain rfl : y = 0 := by omega
    rw [Nat.gcd_zero_right] at k1
    have hof := wof_c x zO
    refine wl ?_
    exact sq_resN (rvs := [_, _]) (τs := [_, _]) rfl rfl ⟨.tmp rfl, .tmp rfl, trivial⟩ (by rw [k1])
  ·(first | refine sq_split rfl rfl ?_ ?_ | refine dq_split rfl rfl ?_ ?_) <;> intro hb <;> (try simp only [zA, zB, zG, zC, zD, zN] at hb) <;> (try (exfalso; omega))
   ·refine wl ?_
    (refine cq_cond rfl ?_ ?_ <;> intro hb <;> (try simp only [zA, zB, zG, zC, zD, zN] at hb) <;> (try (exfalso; omega)))
    have hd := wdivided_o bx by' x y zO zO zO
    refine wl ?_
    refine sq_v (v_call_h [(1000, 20), (1001, 21), (7, 22), (8, 23)] hd rfl ⟨rfl, rfl, trivial⟩ rfl) rfl ?_
    refine wl ?_
    refine sq_g (g_move (s := .tupC [.own 22 0, .own 23 0]) rfl) rfl ?_
    refine wl ?_
    exact sq_round (g := ((bx, by'), x, y)) ((by', false), (y, x % y)) ⟨by show Nat.gcd y (x % y) = _; rw [gcd_step x y (by omega), k1], k3, Nat.le_trans (nw_mono (Nat.mod_le _ _)) k2⟩ (by show x % y < y; exact Nat.mod_lt _ (by omega)) (ent_ren [(20, 21), (21, 23)] ⟨rfl, rfl, trivial⟩ ⟨rfl, rfl, trivial⟩ rfl rfl)
   ·have hd := wdivided_o bx by' x y zO zO zO
    refine wl ?_
    refine sq_v (v_call_h [(1000, 20), (1001, 21), (7, 22), (8, 23)] hd rfl ⟨rfl, rfl, trivial⟩ rfl) rfl ?_
    refine wl ?_
    refine sq_g (g_move (s := .tupC [.own 22 0, .own 23 0]) rfl) rfl ?_
    refine wl ?_
    exact sq_round (g := ((bx, by'), x, y)) ((by', false), (y, x % y)) ⟨by show Nat.gcd y (x % y) = _; rw [gcd_step x y (by omega), k1], k3, Nat.le_trans (nw_mono (Nat.mod_le _ _)) k2⟩ (by show x % y < y; exact Nat.mod_lt _ (by omega)) (ent_ren [(20, 21), (21, 23)] ⟨rfl, rfl, trivial⟩ ⟨rfl, rfl, trivial⟩ rfl rfl)
 ·obtain rfl : y = 0 := by omega
  rw [Nat.gcd_zero_right] at k1
  have t1 := wtext_c false x zO
  refine wl ?_
  refine sq_g (g_call_r t1 rfl ⟨.w rfl rfl, trivial⟩ (flat_val _)) rfl ?_
  refine wl ?_
  exact sq_resN (rvs := [_, _]) (τs := [_, _]) rfl rfl ⟨.tmp rfl, .tmp rfl, trivial⟩ (by rw [← k1]; rfl)
theorem index_47 {a b : List UInt8} (h : (47 : UInt8) ∉ a) : Lib.index (a ++ 47 :: b) [47] = a.length := by
 refine Lib.index_first (by simp) (by simp [Lib.occAt]) fun j hj => ?_
 have h1 : a[j] ≠ 47 := fun e => h (e ▸ List.getElem_mem hj)
 simp only [Lib.occAt]
 rw [List.drop_append_of_le_length (by omega), List.drop_eq_getElem_cons hj]
 show ((47 == a[j]) && _) = false
 rw [beq_eq_false_iff_ne.2 (Ne.symm h1)]; rfl
theorem index_no47 {a : List UInt8} (h : (47 : UInt8) ∉ a) : Lib.index a [47] = -1 := by
 refine Lib.index_none fun j hj => ?_
 simp only [Lib.occAt]
 by_cases hl : j < a.length
 ·have h1 : a[j] ≠ 47 := fun e => h (e ▸ List.getElem_mem hl)
  rw [List.drop_eq_getElem_cons hl]
  show ((47 == a[j]) && _) = false
  rw [beq_eq_false_iff_ne.2 (Ne.symm h1)]; rfl
 ·rw [List.drop_eq_nil_of_le (by omega)]
  rfl
theorem cut_rtx (q : Rat) : Lib.cut (rtx q) [47] = if q.den = 1 then (itoa q.num, [], false) else (itoa q.num, decDigits q.den, true) := by
 unfold Lib.cut rtx
 split
 ·rw [index_no47 (no47 q.num), if_neg (by omega)]
 ·rw [index_47 (no47 q.num), if_pos (by omega)]
  simp
theorem LR.tlen {q : Rat} (h : LR 1000 q) : (rtx q).length ≤ 2003 := by
 have h1 := h.1.len zE
 have h2 := h.2.len zE
 have h3 : (itoa q.num).length ≤ 1001 := by
  by_cases hn : q.num < 0
  ·rw [itoa_neg hn]; simp; omega
  ·rw [itoa_pos hn]; omega
 unfold rtx
 split
 ·omega
 ·rw [List.length_append, List.length_cons]
  rw [Int.natAbs_natCast] at h2
  omega
theorem itoa_one : itoa 1 = [49] := by
 rw [itoa_pos (by decide)]
 show decDigits 1 = _
 rw [decDigits]; rfl
theorem cut1 (q : Rat) (h : LR 1000 q) (hd : q.den = 1) : CtrA Tryz.prog 172 [vR q] (tupOf [vI q.num, vS [49], vb false]) := by
 have h1 := cut_c (rtx q) (by have := LR.tlen h; omega)
 rw [cut_rtx, if_pos hd] at h1
 refine ctrA _ Tryz.func172 rfl rfl Tryz.ntmps172 rfl fun w Z => ?_
 refine zU ?_
 refine wl ?_
 exact zX
theorem cut2 (q : Rat) (h : LR 1000 q) (hd : q.den ≠ 1) : CtrA Tryz.prog 172 [vR q] (tupOf [vI q.num, vI q.den, vb true]) := by
 have h1 := cut_c (rtx q) (by have := LR.tlen h; omega)
 rw [cut_rtx, if_neg hd, ← itoa_nat] at h1
 refine ctrA _ Tryz.func172 rfl rfl Tryz.ntmps172 rfl fun w Z => ?_
 refine zU ?_
 refine wl ?_
 exact zX
theorem rcut_c (q : Rat) (h : LR 1000 q) : CtrA Tryz.prog 172 [vR q] (tupOf [vI q.num, vI q.den, vb (decide (q.den ≠ 1))]) := by
 by_cases hd : q.den = 1
 ·have := cut1 q h hd
  have e : vI (q.den : Int) = vS [49] := by rw [hd]; exact congrArg vS itoa_one
  rw [e, decide_eq_false (by simpa using hd)]
  exact this
 ·rw [decide_eq_true hd]
  exact cut2 q h hd
theorem rjoined_c (m e : Int) (hm : LI 1000 m) (he : LI 1000 e) : CtrA Tryz.prog 126 [vI m, vI e] (vS (if e = 1 then itoa m else itoa m ++ 47 :: itoa e)) := by
 have l1 := hm.len zE
 have l2 := he.len zE
 have hl : ∀ k : Int, (decDigits k.natAbs).length ≤ 1000 → (itoa k).length ≤ 1001 := fun k hk => by
  by_cases hn : k < 0
  ·rw [itoa_neg hn]; simp; omega
  ·rw [itoa_pos hn]; omega
 have l3 := hl m l1
 have l4 := hl e l2
 have e1 : (itoa e == [49]) = decide (e = 1) := by
  rw [← itoa_one]
  by_cases h : e = 1
  ·subst h; simp
  ·rw [decide_eq_false h, beq_eq_false_iff_ne]
   exact fun h2 => h (itoa_inj h2)
 by_cases h : e = 1
 ·rw [if_pos h]
  rw [decide_eq_true h] at e1
  refine ctrA _ Tryz.func126 rfl rfl Tryz.ntmps126 rfl fun w Z => ?_
  refine zU ?_
  refine wl ?_
  rw [e1]
  refine wl ?_
  exact zV
 ·rw [if_neg h]
  rw [decide_eq_false h] at e1
  refine ctrA _ Tryz.func126 rfl rfl Tryz.ntmps126 rfl fun w Z => ?_
  refine zU ?_
  refine wl ?_
  rw [e1]
  refine wl ?_
  refine sq_g (g_sadd (l := itoa m) (m := [47]) rfl rfl (by simp only [List.length_cons, List.length_nil]; omega)) rfl ?_
  refine wl ?_
  refine sq_g (g_sadd (l := itoa m ++ [47]) (m := itoa e) rfl rfl (by simp only [List.length_append, List.length_cons, List.length_nil]; omega)) rfl ?_
  refine wl ?_
  exact sq_res1 rfl (.tmp rfl) (by rw [List.append_assoc]; rfl)
abbrev E0 : Res := .vb [.int .i64 0]
theorem do_c (f : FuncId) (x y r : Int) (hc : CtrA Tryz.prog f [vI x, vI y] (tupOf [vI r, vi 0])) : CtrH Tryz.prog 181 [.own 1000 0, .av (.val (.func (.func f) #[] #[])), .av (vI x), .av (vI y)] [(1000, E0)] (.av (vI r)) [(1000, E0)] := by
 refine ctrH _ Tryz.func181 rfl rfl Tryz.ntmps181 rfl rfl fun w Z ν => ?_
 refine zU ?_
 refine wl ?_
 refine sq_s (g_store_vb rfl rfl rfl rfl zE rfl) ?_
 refine wl ?_
 exact sq_more (T' := [(8, .av (vI r))]) (O' := [(1000, E0)]) (ent ⟨.refl _, trivial⟩ zT) (sq_retH rfl rfl rfl)
theorem ssub_c (x y : Int) (hx : LI 1000 x) (hy : LI 1000 y) (h : LI 1000 (x - y)) : CtrH Tryz.prog 121 [.own 1000 0, .av (vI x), .av (vI y)] [(1000, E0)] (.av (vI (x - y))) [(1000, E0)] := by
 have hc := do_c 182 x y _ (wsub_c x y hx hy h)
 refine ctrH _ Tryz.func121 rfl rfl Tryz.ntmps121 rfl rfl fun w Z ν => ?_
 refine zU ?_
 refine wl ?_
 refine sq_v (v_call_h [] hc rfl ⟨rfl, trivial⟩ rfl) rfl ?_
 refine wl ?_
 exact sq_more (T' := [(6, .av (vI (x - y)))]) (O' := [(1000, E0)]) (ent ⟨.refl _, trivial⟩ zT) (sq_retH rfl rfl rfl)
def prodI (g : Nat → Int) : Nat → Int
 |0 => 1
 |i + 1 => prodI g i * g i
theorem smul_c (n : Nat) (g : Nat → Int) (hn : n ≤ 1000000) (hg : ∀ i, i < n → LI 1000 (g i)) (hp : ∀ i, i ≤ n → LI 1000 (prodI g i)) : CtrH Tryz.prog 122 [.own 1000 0, .av (.sl n 1 (fun i _ => vI (g i)))] [(1000, E0)] (.av (vI (prodI g n))) [(1000, E0)] := by
 refine ctrH _ Tryz.func122 rfl rfl Tryz.ntmps122 rfl rfl fun w Z ν => ?_
 refine zU ?_
 refine wl ?_
 refine sq_g (g_bound (caps := [.own 1000 0]) rfl) rfl ?_
 refine wl ?_
 refine sq_g (g_assign (s := .fnC 181 [.own 1000 0]) rfl) rfl ?_
 refine wl ?_
 refine cq_loop (γ := Nat) (fun i => [(5, .av (vI (prodI g i))), (6, .fnC 181 [.own 1000 0]), (11, .av (.sl n 1 (fun i _ => vI (g i)))), (12, .av (vi n)), (13, .av (vi i))]) (fun _ => [(1000, E0)]) (fun i => i ≤ n) (fun i => n - i) 0 (Nat.zero_le _) (ent ⟨by
  show SLe (.av (vS [49])) (.av (vS (itoa 1)))
  rw [itoa_one]; exact .refl _, .refl _, .refl _, .refl _, .refl _, trivial⟩ zT) ?_
 intro i hi
 refine wl ?_
 (refine cq_cond rfl ?_ ?_ <;> intro hb <;> (try simp only [zA, zB, zG, zC, zD, zN] at hb) <;> (try (exfalso; omega)))
 ·have hc := do_c 183 (prodI g i) (g i) _ (wmul_c _ _ (hp i hi) (hg i zO) (hp (i + 1) zO))
  refine wl ?_
  refine sq_g (g_move (s := .fnC 181 [.own 1000 0]) rfl) rfl ?_
  refine wl ?_
  refine sq_v (v_call_hb [] hc rfl rfl ⟨rfl, trivial⟩ rfl) rfl ?_
  refine wl ?_
  exact sq_round (i + 1) zO zO (ent zS zT)
 ·obtain rfl : i = n := by omega
  refine wl ?_
  exact sq_retH rfl rfl rfl
theorem head45 (d : Int) : decide ((itoa d).head? = some 45) = decide (d < 0) := by
 by_cases h : d < 0
 ·rw [itoa_neg h, decide_eq_true h]; rfl
 ·rw [itoa_pos h, decide_eq_false h]
  obtain ⟨b, r, e, hb⟩ := dec_cons d.natAbs
  rw [e, decide_eq_false]
  intro h2
  simp at h2
  exact dig45 hb h2
theorem vI0 : vI 0 = vS [48] := congrArg vS itoa_zero
theorem rlowest_c (n d : Int) (hn : LI 1000 n) (hdd : LI 1000 d) (hd : d ≠ 0) : CtrH Tryz.prog 180 [.own 1000 0, .av (vI n), .av (vI d)] [(1000, E0)] (.av (vR (Rat.divInt n d))) [(1000, E0)] := by
 have hg := do_c 175 n d _ (wgcd_c n d hn hdd)
 have hgp : 0 < Nat.gcd n.natAbs d.natAbs := Nat.gcd_pos_of_pos_right _ zO
 have hgle : Nat.gcd n.natAbs d.natAbs ≤ d.natAbs := Nat.le_of_dvd zO (Nat.gcd_dvd_right _ _)
 have hgl : LI 1000 ((Nat.gcd n.natAbs d.natAbs : Nat) : Int) := hdd.le zO
 have hpre := hasp_c (itoa d)
 rw [head45] at hpre
 have key : ∀ G : Int, G = (if d < 0 then -((Int.gcd n d : Nat) : Int) else ((Int.gcd n d : Nat) : Int)) → ∃ a b : Int, CtrH Tryz.prog 181 [.own 1000 0, .av (.val (.func (.func 235) #[] #[])), .av (vI n), .av (vI G)] [(1000, E0)] (.av (vI a)) [(1000, E0)] ∧ CtrH Tryz.prog 181 [.own 1000 0, .av (.val (.func (.func 235) #[] #[])), .av (vI d), .av (vI G)] [(1000, E0)] (.av (vI b)) [(1000, E0)] ∧ CtrA Tryz.prog 126 [vI a, vI b] (vR (Rat.divInt n d)) := by
  intro G hG
  have hGa : G.natAbs = Nat.gcd n.natAbs d.natAbs := by
   rw [hG]; unfold Int.gcd; split <;> omega
  have hG0 : G ≠ 0 := by omega
  have hGl : LI 1000 G := hdd.le zO
  have d1 : G ∣ n := Int.natAbs_dvd_natAbs.1 (hGa ▸ Nat.gcd_dvd_left _ _)
  have d2 : G ∣ d := Int.natAbs_dvd_natAbs.1 (hGa ▸ Nat.gcd_dvd_right _ _)
  have q1 : LI 1000 (n / G) := hn.le (by rw [Int.natAbs_ediv_of_dvd d1]; exact Nat.div_le_self _ _)
  have q2 : LI 1000 (d / G) := hdd.le (by rw [Int.natAbs_ediv_of_dvd d2]; exact Nat.div_le_self _ _)
  have w1 := wquo_c n G hn hGl hG0 (by rw [fdiv_dvd d1]; exact q1)
  have w2 := wquo_c d G hdd hGl hG0 (by rw [fdiv_dvd d2]; exact q2)
  rw [fdiv_dvd d1] at w1
  rw [fdiv_dvd d2] at w2
  have hj := rjoined_c (n / G) (d / G) q1 q2
  rw [← rtx_div hd hG] at hj
  exact ⟨n / G, d / G, do_c 235 n G _ w1, do_c 235 d G _ w2, hj⟩
 by_cases hneg : d < 0
 ·rw [decide_eq_true hneg] at hpre
  have hs := ssub_c 0 _ (LI.small (by decide) (by decide)) hgl (by rw [Int.zero_sub]; exact hgl.neg)
  rw [vI0] at hs
  obtain ⟨a, b, k1, k2, k3⟩ := key (0 - (Nat.gcd n.natAbs d.natAbs : Nat)) (by rw [if_pos hneg, Int.zero_sub]; rfl)
  refine ctrH _ Tryz.func180 rfl rfl Tryz.ntmps180 rfl rfl fun w Z ν => ?_
  refine zU ?_
  refine wl ?_
  refine sq_v (v_call_h [] hg rfl ⟨rfl, trivial⟩ rfl) rfl ?_
  refine wl ?_
  refine sq_v (v_call_h [] hs rfl ⟨rfl, trivial⟩ rfl) rfl ?_
  refine wl ?_
  refine sq_v (v_call_h [] k1 rfl ⟨rfl, trivial⟩ rfl) rfl ?_
  refine wl ?_
  refine sq_v (v_call_h [] k2 rfl ⟨rfl, trivial⟩ rfl) rfl ?_
  refine wl ?_
  exact sq_more (T' := [(6, .av (vR (Rat.divInt n d)))]) (O' := [(1000, E0)]) (ent ⟨.refl _, trivial⟩ zT) (sq_retH rfl rfl rfl)
 ·rw [decide_eq_false hneg] at hpre
  obtain ⟨a, b, k1, k2, k3⟩ := key (Nat.gcd n.natAbs d.natAbs : Nat) (by rw [if_neg hneg]; rfl)
  refine ctrH _ Tryz.func180 rfl rfl Tryz.ntmps180 rfl rfl fun w Z ν => ?_
  refine zU ?_
  refine wl ?_
  refine sq_v (v_call_h [] hg rfl ⟨rfl, trivial⟩ rfl) rfl ?_
  refine wl ?_
  refine sq_v (v_call_h [] k1 rfl ⟨rfl, trivial⟩ rfl) rfl ?_
  refine wl ?_
  refine sq_v (v_call_h [] k2 rfl ⟨rfl, trivial⟩ rfl) rfl ?_
  refine wl ?_
  exact sq_more (T' := [(6, .av (vR (Rat.divInt n d)))]) (O' := [(1000, E0)]) (ent ⟨.refl _, trivial⟩ zT) (sq_retH rfl rfl rfl)
end Go.Proofs.YtgepmbjmaljgoaaGreatDoor
section
namespace Go.Proofs.YtgepmbjmaljgoaaGreatDoor
open Go Go.Vc Go.RowKit Go.Na Go.Lib
set_option maxHeartbeats 4000000
theorem vI1 : vI 1 = vS [49] := congrArg vS itoa_one
theorem coprime_rat (q : Rat) : Nat.gcd q.num.natAbs (q.den : Int).natAbs = 1 := by
 rw [Int.natAbs_natCast]; exact q.reduced
theorem ratcheck_c (q : Rat) (h : LR 1000 q) : CtrA Tryz.prog 111 [vR q] (vi 0) := by
 have h2 := wcheck_i q.num h.1
 have h3 := wcheck_i q.den h.2
 by_cases hd : q.den = 1
 ·have h1 := cut1 q h hd
  rw [hd] at h3
  have h3 : CtrA Tryz.prog 173 [vS [49]] (vi 0) := by rw [← vI1]; exact h3
  refine ctrA _ Tryz.func111 rfl rfl Tryz.ntmps111 rfl fun w Z => ?_
  refine zU ?_
  refine wl ?_
  exact zV
 ·have h1 := cut2 q h hd
  have hpos := q.den_pos
  have h4 := wcompare_c q.den 1 h.2 (LI.small zE zE)
  have e4 : sgn ((q.den : Int) - 1) = 1 := by unfold sgn; rw [if_neg (by omega), if_neg (by omega)]
  rw [e4, vI1] at h4
  have h5 := wgcd_c q.num q.den h.1 h.2
  rw [coprime_rat] at h5
  have h5 : CtrA Tryz.prog 175 [vI q.num, vI q.den] (tupOf [vS [49], vi 0]) := by rw [← vI1]; exact h5
  refine ctrA _ Tryz.func111 rfl rfl Tryz.ntmps111 rfl fun w Z => ?_
  refine zU ?_
  refine wl ?_
  exact zV
theorem checks_c (n : Nat) (g : Nat → Rat) (hn : n ≤ 1000000) (hg : ∀ i, i < n → LR 1000 (g i)) : CtrA Tryz.prog 179 [.sl n 1 (fun i _ => vR (g i))] (vi 0) := by
 refine ctrA _ Tryz.func179 rfl rfl Tryz.ntmps179 rfl fun w Z => ?_
 refine zU ?_
 refine wl ?_
 refine cq_loop (γ := Nat) (fun i => [(6, .av (.sl n 1 (fun i _ => vR (g i)))), (7, .av (vi n)), (8, .av (vi i))]) (fun _ => []) (fun i => i ≤ n) (fun i => n - i) 0 (Nat.zero_le _) (ent zS trivial) ?_
 intro i hi
 refine wl ?_
 (refine cq_cond rfl ?_ ?_ <;> intro hb <;> (try simp only [zA, zB, zG, zC, zD, zN] at hb) <;> (try (exfalso; omega)))
 ·have hc := ratcheck_c (g i) (hg i zO)
  refine wl ?_
  exact sq_round (i + 1) zO zO (ent zS trivial)
 ·refine wl ?_
  exact zV
def twoR (a b : Rat) (i : Nat) : Rat := if i = 0 then a else b
theorem tq102_2 (a b : ByteArray) (w : World) : (Instr.buildSlice 102 2 #[(0, .string a), (1, .string b)]).run Tryz.prog w = .ok (.slice (some ⟨w.heap.size, 0, none⟩) 2 2) (w.alloc (.cells #[.string a, .string b] 39)) := by kernel_rfl
section
variable {E : Env} {T : Tab} {O : Go.Vc.Own} {d : Option Nat} {ty : TypeId} {pos : String} {af : Array Edge} {g : Option (Nat × Bool)}
theorem g_twoR {x y : Operand} {a b : Rat} (hx : T.ev x = .av (vR a)) (hy : T.ev y = .av (vR b)) : GV Tryz.prog E ⟨d, .buildSlice 102 2 #[(0, x), (1, y)], ty, pos, af, g⟩ T O (.av (.sl 2 1 (fun i _ => vR (twoR a b i)))) [] [] :=
 g_bslice (is := [0, 1]) (xs := [x, y]) (vs := [.string (bs (rtx a)), .string (bs (rtx b))]) (us := [.string (bs (rtx a)), .string (bs (rtx b))]) (tq102_2 _ _) rfl (by simp only [List.map_cons, List.map_nil, hx, hy]) rfl (fun i hi j hj => by
  obtain rfl : j = 0 := zO
  rcases (by omega : i = 0 ∨ i = 1) with rfl | rfl <;> exact ⟨_, rfl, rfl⟩)
end
theorem checks2_c (q r : Rat) (hq : LR 1000 q) (hr : LR 1000 r) : CtrA Tryz.prog 179 [.sl 2 1 (fun i _ => vR (twoR q r i))] (vi 0) :=
 checks_c 2 (twoR q r) zE (fun i hi => by rcases (by omega : i = 0 ∨ i = 1) with rfl | rfl <;> assumption)
theorem tb231e : Tryz.prog.built 231 [] = some #[.int .i64 0] := by kernel_rfl
theorem made_c (f : FuncId) (q r : Rat) (num den : Int) (hq : LR 1000 q) (hr : LR 1000 r) (hn : LI 1000 num) (hdn : LI 1000 den) (hd : den ≠ 0)
  (hf : CtrH Tryz.prog f [.own 1000 0, .av (vI q.num), .av (vI q.den), .av (vI r.num), .av (vI r.den)] [(1000, E0)] (.av (tupOf [vI num, vI den])) [(1000, E0)]) : CtrA Tryz.prog 119 [vR q, vR r, .val (.func (.func f) #[] #[])] (tupOf [vR (Rat.divInt num den), vi 0]) := by
 have h1 := checks2_c q r hq hr
 have h2 := rcut_c q hq
 have h3 := rcut_c r hr
 have h4 := rlowest_c num den hn hdn hd
 have hz := itoa_is0 den
 rw [decide_eq_false hd] at hz
 refine ctrA _ Tryz.func119 rfl rfl Tryz.ntmps119 rfl fun w Z => ?_
 refine zU ?_
 refine wl ?_
 refine sq_g (g_twoR rfl rfl) rfl ?_
 refine wl ?_
 refine sq_g (g_build (is := []) (xs := []) (vs := []) tb231e rfl rfl) rfl ?_
 refine sq_v (f_box_vb 7 rfl rfl) rfl ?_
 refine wl ?_
 refine sq_v (v_call_hv [(1000, 7)] hf rfl rfl ⟨rfl, trivial⟩ rfl) rfl ?_
 refine wl ?_
 rw [hz]
 refine wl ?_
 refine sq_v (v_call_h [(1000, 7)] h4 rfl ⟨rfl, trivial⟩ rfl) rfl ?_
 refine wl ?_
 exact zW
theorem smul2 (a b : Int) (ha : LI 1000 a) (hb : LI 1000 b) (h : LI 1000 (a * b)) : CtrH Tryz.prog 122 [.own 1000 0, .av (.sl 2 1 (fun i _ => vI (two a b i)))] [(1000, E0)] (.av (vI (a * b))) [(1000, E0)] := by
 have e1 : prodI (two a b) 1 = a := by show 1 * a = _; rw [Int.one_mul]
 have e2 : prodI (two a b) 2 = a * b := by show prodI (two a b) 1 * b = _; rw [e1]
 have := smul_c 2 (two a b) zE (fun i hi => by rcases (by omega : i = 0 ∨ i = 1) with rfl | rfl <;> assumption) (fun i hi => by
  rcases (by omega : i = 0 ∨ i = 1 ∨ i = 2) with rfl | rfl | rfl
  ·exact LI.small (show (1 : Int).natAbs < 10 by decide) zE
  ·rw [e1]; exact ha
  ·rw [e2]; exact h)
 rwa [e2] at this
theorem subc (n p m q : Int) (hn : LI 400 n) (hp : LI 400 p) (hm : LI 400 m) (hq : LI 400 q) : CtrH Tryz.prog 120 [.own 1000 0, .av (vI n), .av (vI p), .av (vI m), .av (vI q)] [(1000, E0)] (.av (tupOf [vI (n * q - m * p), vI (p * q)])) [(1000, E0)] := by
 have b := fun (x y : Int) (hx : LI 400 x) (hy : LI 400 y) => (by have h := LI.mul hx hy; exact h : LI 800 (x * y))
 have M := fun (x : Int) (h : LI 400 x) => (h.mono zE : LI 1000 x)
 have c1 := smul2 n q (M _ hn) (M _ hq) ((b _ _ hn hq).mono zE)
 have c2 := smul2 m p (M _ hm) (M _ hp) ((b _ _ hm hp).mono zE)
 have c3 := smul2 p q (M _ hp) (M _ hq) ((b _ _ hp hq).mono zE)
 have c4 := ssub_c (n * q) (m * p) ((b _ _ hn hq).mono zE) ((b _ _ hm hp).mono zE) (((b _ _ hn hq).sub (b _ _ hm hp)).mono zE)
 refine ctrH _ Tryz.func120 rfl rfl Tryz.ntmps120 rfl rfl fun w Z ν => ?_
 refine zU ?_
 refine wl ?_
 refine sq_g (g_two rfl rfl) rfl ?_
 refine wl ?_
 refine sq_v (v_call_h [] c1 rfl ⟨rfl, trivial⟩ rfl) rfl ?_
 refine wl ?_
 refine sq_g (g_two rfl rfl) rfl ?_
 refine wl ?_
 refine sq_v (v_call_h [] c2 rfl ⟨rfl, trivial⟩ rfl) rfl ?_
 refine wl ?_
 refine sq_v (v_call_h [] c4 rfl ⟨rfl, trivial⟩ rfl) rfl ?_
 refine wl ?_
 refine sq_g (g_two rfl rfl) rfl ?_
 refine wl ?_
 refine sq_v (v_call_h [] c3 rfl ⟨rfl, trivial⟩ rfl) rfl ?_
 refine wl ?_
 exact sq_more (T' := [(10, .av (vI (n * q - m * p))), (11, .av (vI (p * q)))]) (O' := [(1000, E0)]) (ent zS zT) (sq_retHN (rvs := [_, _]) (τs := [_, _]) rfl rfl rfl ⟨.tmp rfl, .tmp rfl, trivial⟩ rfl)
end Go.Proofs.YtgepmbjmaljgoaaGreatDoor
end
namespace Go.Proofs.YtgepmbjmaljgoaaGreatDoor
open Go Go.Vc Go.RowKit Go.Na Go.Lib
set_option maxHeartbeats 4000000
theorem den0 (q r : Rat) : (q.den : Int) * r.den ≠ 0 := by
 have h1 := q.den_pos
 have h2 := r.den_pos
 exact Int.mul_ne_zero zO zO
theorem li4 {x y : Int} (hx : LI 400 x) (hy : LI 400 y) : LI 1000 (x * y) := (LI.mul hx hy).mono (by decide)
theorem rat_sub (q r : Rat) (hq : LR 400 q) (hr : LR 400 r) : CtrA Tryz.prog 62 [vR q, vR r] (tupOf [vR (q - r), vi 0]) := by
 have h := made_c 120 q r (q.num * r.den - r.num * q.den) (q.den * r.den) (hq.mono zE) (hr.mono zE) ((LI.sub (LI.mul hq.1 hr.2) (LI.mul hr.1 hq.2)).mono zE) (li4 hq.2 hr.2) (den0 q r) (subc q.num q.den r.num r.den hq.1 hq.2 hr.1 hr.2)
 rw [← sub_eq] at h
 refine ctrA _ Tryz.func62 rfl rfl Tryz.ntmps62 rfl fun w Z => ?_
 refine zU ?_
 refine wl ?_
 exact zW
theorem rat_parts (q : Rat) (hq : LR 1000 q) : CtrA Tryz.prog 124 [vR q] (tupOf [vI q.num, vI q.den, vi 0]) := by
 have h1 := ratcheck_c q hq
 have h2 := rcut_c q hq
 refine ctrA _ Tryz.func124 rfl rfl Tryz.ntmps124 rfl fun w Z => ?_
 refine zU ?_
 refine wl ?_
 exact zX
theorem joined_rtx (q : Rat) : (if (q.den : Int) = 1 then itoa q.num else itoa q.num ++ 47 :: itoa (q.den : Int)) = rtx q := by
 unfold rtx
 rw [itoa_nat]
 by_cases h : q.den = 1
 ·rw [if_pos h, if_pos (by omega)]
 ·rw [if_neg h, if_neg (by omega)]
theorem rat_neg (q : Rat) (hq : LR 1000 q) : CtrA Tryz.prog 64 [vR q] (tupOf [vR (-q), vi 0]) := by
 have h1 := rat_parts q hq
 have h2 := wneg_c q.num hq.1
 have h3 := rjoined_c (-q.num) q.den hq.1.neg hq.2
 have e := joined_rtx (-q)
 rw [Rat.neg_num, Rat.neg_den] at e
 rw [e] at h3
 refine ctrA _ Tryz.func64 rfl rfl Tryz.ntmps64 rfl fun w Z => ?_
 refine zU ?_
 refine wl ?_
 exact zW
theorem rat_whole (n : Int) (h : -9223372036854775808 ≤ n ∧ n ≤ 9223372036854775807) : CtrA Tryz.prog 63 [vi n] (vI n) := by
 have h1 := wof_c n h
 refine ctrA _ Tryz.func63 rfl rfl Tryz.ntmps63 rfl fun w Z => ?_
 refine zU ?_
 refine wl ?_
 exact zV
theorem rat_compare (q r : Rat) (hq : LR 400 q) (hr : LR 400 r) : CtrA Tryz.prog 161 [vR q, vR r] (tupOf [vi (rsg (q - r)), vi 0]) := by
 have M := fun (x : Int) (h : LI 400 x) => (h.mono zE : LI 1000 x)
 have h1 := checks2_c q r (hq.mono zE) (hr.mono zE)
 have h2 := rcut_c q (hq.mono zE)
 have h3 := rcut_c r (hr.mono zE)
 have c1 := smul2 q.num r.den (M _ hq.1) (M _ hr.2) (li4 hq.1 hr.2)
 have c2 := smul2 r.num q.den (M _ hr.1) (M _ hq.2) (li4 hr.1 hq.2)
 have c3 := wcompare_c (q.num * r.den) (r.num * q.den) (li4 hq.1 hr.2) (li4 hr.1 hq.2)
 rw [sgn_sub] at c3
 refine ctrA _ Tryz.func161 rfl rfl Tryz.ntmps161 rfl fun w Z => ?_
 refine zU ?_
 refine wl ?_
 refine sq_g (g_twoR rfl rfl) rfl ?_
 refine wl ?_
 refine sq_g (g_build (is := []) (xs := []) (vs := []) tb231e rfl rfl) rfl ?_
 refine sq_v (f_box_vb 7 rfl rfl) rfl ?_
 refine wl ?_
 refine sq_g (g_two rfl rfl) rfl ?_
 refine wl ?_
 refine sq_v (v_call_h [(1000, 7)] c1 rfl ⟨rfl, trivial⟩ rfl) rfl ?_
 refine wl ?_
 refine sq_g (g_two rfl rfl) rfl ?_
 refine wl ?_
 refine sq_v (v_call_h [(1000, 7)] c2 rfl ⟨rfl, trivial⟩ rfl) rfl ?_
 refine wl ?_
 exact zW
theorem rat_make (n d : Int) (hn : LI 1000 n) (hdd : LI 1000 d) (hd : d ≠ 0) : CtrA Tryz.prog 205 [vI n, vI d] (tupOf [vR (Rat.divInt n d), vi 0]) := by
 have h4 := rlowest_c n d hn hdd hd
 have hz := itoa_is0 d
 rw [decide_eq_false hd] at hz
 refine ctrA _ Tryz.func205 rfl rfl Tryz.ntmps205 rfl fun w Z => ?_
 refine zU ?_
 refine wl ?_
 refine sq_g (g_two rfl rfl) rfl ?_
 refine wl ?_
 refine cq_loop (γ := Nat) (fun i => [(0, .av (vI n)), (1, .av (vI d)), (13, .av (.sl 2 1 (fun i _ => vI (two n d i)))), (14, .av (vi 2)), (15, .av (vi i))]) (fun _ => []) (fun i => i ≤ 2) (fun i => 2 - i) 0 (Nat.zero_le _) (ent zS trivial) ?_
 intro i hi
 refine wl ?_
 (refine cq_cond rfl ?_ ?_ <;> intro hb <;> (try simp only [zA, zB, zG, zC, zD, zN] at hb) <;> (try (exfalso; omega)))
 ·have hc := wcheck_i (two n d i) (by rcases (by omega : i = 0 ∨ i = 1) with rfl | rfl <;> assumption)
  refine wl ?_
  exact sq_round (i + 1) zO zO (ent zS trivial)
 ·refine wl ?_
  rw [hz]
  refine wl ?_
  refine sq_g (g_build (is := []) (xs := []) (vs := []) tb231e rfl rfl) rfl ?_
  refine sq_v (f_box_vb 7 rfl rfl) rfl ?_
  refine wl ?_
  refine sq_v (v_call_h [(1000, 7)] h4 rfl ⟨rfl, trivial⟩ rfl) rfl ?_
  refine wl ?_
  exact zW
end Go.Proofs.YtgepmbjmaljgoaaGreatDoor
namespace Go.Proofs.YtgepmbjmaljgoaaGreatDoor.H
open Go Go.Vc Go.RowKit
set_option maxHeartbeats 4000000
theorem coord_c (p : Tr) : CtrA Tryz.prog 105 [tp p] (tp p) := by
 refine ctrA _ Tryz.func105 rfl rfl Tryz.ntmps105 rfl fun w Z => ?_
 refine zU ?_
 refine wt ?_
 exact sq_res1 rfl (.agg (us := [_, _, _]) rfl rfl rfl rfl) rfl
theorem place0_c (p : Tr) : CtrA Tryz.prog 50 [tp p, vi 0] (pp (plc 0 p)) := by
 have h := coord_c p
 refine ctrA _ Tryz.func50 rfl rfl Tryz.ntmps50 rfl fun w Z => ?_
 refine zU ?_
 refine wt ?_
 exact sq_res1 rfl (.agg (us := [_, _]) rfl rfl rfl rfl) rfl
theorem rplace0_c (p : Tr) : CtrA Tryz.prog 70 [tp p, vi 0] (pp (plc 0 p)) := by
 refine ctrA _ Tryz.func70 rfl rfl Tryz.ntmps70 rfl fun w Z => ?_
 refine zU ?_
 refine wt ?_
 exact sq_res1 rfl (.agg (us := [_, _]) rfl rfl rfl rfl) rfl
theorem place1_c (p : Tr) : CtrA Tryz.prog 50 [tp p, vi 1] (pp (plc 1 p)) := by
 have h := coord_c p
 refine ctrA _ Tryz.func50 rfl rfl Tryz.ntmps50 rfl fun w Z => ?_
 refine zU ?_
 refine wt ?_
 exact sq_res1 rfl (.agg (us := [_, _]) rfl rfl rfl rfl) rfl
theorem rplace1_c (p : Tr) : CtrA Tryz.prog 70 [tp p, vi 1] (pp (plc 1 p)) := by
 refine ctrA _ Tryz.func70 rfl rfl Tryz.ntmps70 rfl fun w Z => ?_
 refine zU ?_
 refine wt ?_
 exact sq_res1 rfl (.agg (us := [_, _]) rfl rfl rfl rfl) rfl
theorem place2_c (p : Tr) : CtrA Tryz.prog 50 [tp p, vi 2] (pp (plc 2 p)) := by
 have h := coord_c p
 refine ctrA _ Tryz.func50 rfl rfl Tryz.ntmps50 rfl fun w Z => ?_
 refine zU ?_
 refine wt ?_
 exact sq_res1 rfl (.agg (us := [_, _]) rfl rfl rfl rfl) rfl
theorem rplace2_c (p : Tr) : CtrA Tryz.prog 70 [tp p, vi 2] (pp (plc 2 p)) := by
 refine ctrA _ Tryz.func70 rfl rfl Tryz.ntmps70 rfl fun w Z => ?_
 refine zU ?_
 refine wt ?_
 exact sq_res1 rfl (.agg (us := [_, _]) rfl rfl rfl rfl) rfl
theorem place_c (p : Tr) {k : Nat} (hk : k < 3) : CtrA Tryz.prog 50 [tp p, vi (k : Int)] (pp (plc k p)) := by
 rcases (by omega : k = 0 ∨ k = 1 ∨ k = 2) with rfl | rfl | rfl
 ·exact place0_c p
 ·exact place1_c p
 ·exact place2_c p
theorem rplace_c (p : Tr) {k : Nat} (hk : k < 3) : CtrA Tryz.prog 70 [tp p, vi (k : Int)] (pp (plc k p)) := by
 rcases (by omega : k = 0 ∨ k = 1 ∨ k = 2) with rfl | rfl | rfl
 ·exact rplace0_c p
 ·exact rplace1_c p
 ·exact rplace2_c p
def plcs (l : List Tr) (k : Nat) : List Pt := l.map (plc k)
theorem gp_plcs {l : List Tr} {k i : Nat} (h : i < l.length) : gp (plcs l k) i = plc k (gt l i) := by simp [gp, plcs, gt, h, List.getD]
theorem plcs_take {l : List Tr} {k i : Nat} (h : i < l.length) : plcs (l.take (i + 1)) k = plcs (l.take i) k ++ [plc k (gt l i)] := by rw [gt_take h, plcs, List.map_append]; rfl
theorem plcs_len (l : List Tr) (k : Nat) : (plcs l k).length = l.length := by simp [plcs]
theorem places_c (l : List Tr) {k : Nat} (hk : k < 3) (hn : l.length ≤ 1000) : CtrR Tryz.prog 93 [ts l, vi (k : Int)] 38 2 (plcs l k).length (pf (plcs l k)) [] := by
 refine ctrR _ Tryz.func93 rfl rfl Tryz.ntmps93 rfl fun w Z => ?_
 refine zU ?_
 refine wt ?_
 refine cq_loop (γ := Nat) (fun i => [(1, .av (vi (k : Int))), (5, .osl 20), (8, .av (ts l)), (9, .av (vi l.length)), (10, .av (vi i))]) (fun i => [(20, .row 38 2 (plcs (l.take i) k).length (pf (plcs (l.take i) k)))]) (fun i => i ≤ l.length) (fun i => l.length - i) 0 (Nat.zero_le _) ((ent_row (dd := 5) 20 38 2 (pf []) rfl rfl).trans (ent zS zT)) ?_
 intro i hi
 refine wt ?_
 (refine cq_cond rfl ?_ ?_ <;> intro hb <;> (try simp only [zA, zB, zG, zC, zD, zN] at hb) <;> (try (exfalso; omega)))
 ·have hil : i < l.length := by omega
  have hp := place_c (gt l i) hk
  have hl := plcs_len (l.take i) k
  rw [List.length_take] at hl
  refine wt ?_
  exact sq_round (i + 1) (by omega) (by omega) (ent zS ⟨⟨_, rfl, .row (by rw [plcs_take hil]) (fun _ _ _ _ => by rw [plcs_take hil])⟩, trivial⟩)
 ·have hil : i = l.length := by omega
  subst hil
  refine wt ?_
  exact sq_retR rfl rfl rfl (by rw [List.take_length]) (fun _ _ _ _ => by rw [List.take_length])
theorem rplaces_c (l : List Tr) {k : Nat} (hk : k < 3) (hn : l.length ≤ 1000) : CtrR Tryz.prog 31 [ts l, vi (k : Int)] 38 2 (plcs l k).length (pf (plcs l k)) [] := by
 refine ctrR _ Tryz.func31 rfl rfl Tryz.ntmps31 rfl fun w Z => ?_
 refine zU ?_
 refine wt ?_
 refine cq_loop (γ := Nat) (fun i => [(0, .av (ts l)), (1, .av (vi (k : Int))), (5, .osl 20), (6, .av (vi i))]) (fun i => [(20, .row 38 2 (plcs (l.take i) k).length (pf (plcs (l.take i) k)))]) (fun i => i ≤ l.length) (fun i => l.length - i) 0 (Nat.zero_le _) ((ent_row (dd := 5) 20 38 2 (pf []) rfl rfl).trans (ent zS zT)) ?_
 intro i hi
 refine wt ?_
 (refine cq_cond rfl ?_ ?_ <;> intro hb <;> (try simp only [zA, zB, zG, zC, zD, zN] at hb) <;> (try (exfalso; omega)))
 ·have hil : i < l.length := by omega
  have hp := rplace_c (gt l i) hk
  have hl := plcs_len (l.take i) k
  rw [List.length_take] at hl
  refine wt ?_
  exact sq_round (i + 1) (by omega) (by omega) (ent zS ⟨⟨_, rfl, .row (by rw [plcs_take hil]) (fun _ _ _ _ => by rw [plcs_take hil])⟩, trivial⟩)
 ·have hil : i = l.length := by omega
  subst hil
  refine wt ?_
  exact sq_retR rfl rfl rfl (by rw [List.take_length]) (fun _ _ _ _ => by rw [List.take_length])
theorem axes_c (a : Int) : CtrA Tryz.prog 92 [vi a] (vi (if 0 ≤ a ∧ a ≤ 2 then 0 else 1)) := by
 refine ctrA _ Tryz.func92 rfl rfl Tryz.ntmps92 rfl fun w Z => ?_
 refine zU ?_
 (refine wt ?_; repeat' (((first | refine sq_split rfl rfl ?_ ?_ | refine dq_split rfl rfl ?_ ?_) <;> intro hb <;> (try simp only [zA, zB, zG, zC, zD, zN] at hb) <;> (try (exfalso; omega))) <;> refine wt ?_))
 ·exact sq_res1 rfl (.tmp rfl) (congrArg vi (by rw [if_neg (by omega)]))
 ·(refine cq_cond rfl ?_ ?_ <;> intro hb <;> (try simp only [zA, zB, zG, zC, zD, zN] at hb) <;> (try (exfalso; omega)))
  ·refine wt ?_
   exact sq_res1 rfl (.tmp rfl) (congrArg vi (by rw [if_neg (by omega)]))
  ·refine wt ?_
   exact sq_res1 rfl (.tmp rfl) (congrArg vi (by rw [if_pos (by omega)]))
def givE (l : List Tr) (a : Int) : Int := if chkT l ≠ 0 then chkT l else if 0 ≤ a ∧ a ≤ 2 then 0 else 1
theorem given_c (l : List Tr) (a : Int) : CtrA Tryz.prog 45 [ts l, vi a] (vi (givE l a)) := by
 have h1 := scheck_c l
 have h2 := axes_c a
 refine ctrA _ Tryz.func45 rfl rfl Tryz.ntmps45 rfl fun w Z => ?_
 refine zU ?_
 refine wt ?_
 (refine cq_cond rfl ?_ ?_ <;> intro hb <;> (try simp only [zA, zB, zG, zC, zD, zN] at hb) <;> (try (exfalso; omega)))
 ·refine wt ?_
  exact sq_res1 rfl (.tmp rfl) (congrArg vi (by unfold givE; rw [if_pos hb]))
 ·refine wt ?_
  exact sq_res1 rfl (.tmp rfl) (congrArg vi (by unfold givE; rw [if_neg (c := chkT l ≠ 0) (fun h => h hb)]))
def strB (l : List Pt) : Bool := (List.range l.length).all fun i => (List.range i).all fun j => (List.range j).all fun k => decide (crs (gp l i) (gp l j) (gp l k) = 0)
theorem straight_c (l : List Pt) (sm : ∀ i, SmP (gp l i)) (hn : l.length ≤ 1000) : CtrA Tryz.prog 71 [pts l] (vb (strB l)) := by
 refine ctrA _ Tryz.func71 rfl rfl Tryz.ntmps71 rfl fun w Z => ?_
 refine zU ?_
 refine wt ?_
 refine cq_loop (γ := Nat) (fun i => [(0, .av (pts l)), (3, .av (vi i))]) (fun _ => []) (fun i => i ≤ l.length ∧ ∀ a, a < i → ∀ b, b < a → ∀ c, c < b → crs (gp l a) (gp l b) (gp l c) = 0) (fun i => l.length - i) 0 ⟨Nat.zero_le _, by omega⟩ (ent zS trivial) ?_
 rintro i ⟨hi, hI⟩
 refine wt ?_
 (refine cq_cond rfl ?_ ?_ <;> intro hb <;> (try simp only [zA, zB, zG, zC, zD, zN] at hb) <;> (try (exfalso; omega)))
 ·have hil : i < l.length := by omega
  refine wt ?_
  refine cq_loop (γ := Nat) (fun j => [(0, .av (pts l)), (3, .av (vi i)), (4, .av (vi j))]) (fun _ => []) (fun j => j ≤ i ∧ ∀ b, b < j → ∀ c, c < b → crs (gp l i) (gp l b) (gp l c) = 0) (fun j => i - j) 0 ⟨Nat.zero_le _, by omega⟩ (ent zS trivial) ?_
  rintro j ⟨hj, hJ⟩
  refine wt ?_
  (refine cq_cond rfl ?_ ?_ <;> intro hb <;> (try simp only [zA, zB, zG, zC, zD, zN] at hb) <;> (try (exfalso; omega)))
  ·have hji : j < i := by omega
   refine wt ?_
   refine cq_loop (γ := Nat) (fun k => [(0, .av (pts l)), (3, .av (vi i)), (4, .av (vi j)), (5, .av (vi k))]) (fun _ => []) (fun k => k ≤ j ∧ ∀ c, c < k → crs (gp l i) (gp l j) (gp l c) = 0) (fun k => j - k) 0 ⟨Nat.zero_le _, by omega⟩ (ent zS trivial) ?_
   rintro k ⟨hk, hK⟩
   refine wt ?_
   (refine cq_cond rfl ?_ ?_ <;> intro hb <;> (try simp only [zA, zB, zG, zC, zD, zN] at hb) <;> (try (exfalso; omega)))
   ·have hkj : k < j := by omega
    have hc := rleft_c (gp l i) (gp l j) (gp l k) (sm i) (sm j) (sm k)
    refine wt ?_
    (refine cq_cond rfl ?_ ?_ <;> intro hb <;> (try simp only [zA, zB, zG, zC, zD, zN] at hb) <;> (try (exfalso; omega)))
    ·refine wt ?_
     refine sq_res1 rfl (.tmp rfl) (congrArg vb ?_)
     symm
     unfold strB
     rw [List.all_eq_false]
     refine ⟨i, List.mem_range.2 hil, ?_⟩
     rw [Bool.not_eq_true, List.all_eq_false]
     refine ⟨j, List.mem_range.2 hji, ?_⟩
     rw [Bool.not_eq_true, List.all_eq_false]
     exact ⟨k, List.mem_range.2 hkj, by simpa using hb⟩
    ·refine wt ?_
     exact sq_round (k + 1) ⟨by omega, plt_step hK hb⟩ zO (ent zS trivial)
   ·have e : k = j := by omega
    subst e
    refine wt ?_
    exact sq_round (k + 1) ⟨by omega, plt_step hJ hK⟩ zO (ent zS trivial)
  ·have e : j = i := by omega
   subst e
   refine wt ?_
   exact sq_round (j + 1) ⟨by omega, plt_step hI hJ⟩ zO (ent zS trivial)
 ·have e : i = l.length := by omega
  subst e
  refine wt ?_
  refine sq_res1 rfl (.tmp rfl) (congrArg vb ?_)
  symm
  unfold strB
  rw [List.all_eq_true]
  intro a ha
  rw [List.all_eq_true]
  intro b hb1
  rw [List.all_eq_true]
  intro c hc
  exact decide_eq_true (hI a (List.mem_range.1 ha) b (List.mem_range.1 hb1) c (List.mem_range.1 hc))
end Go.Proofs.YtgepmbjmaljgoaaGreatDoor.H
namespace Go.Proofs.YtgepmbjmaljgoaaGreatDoor.H
open Go Go.Vc Go.Na
def onD (l : List Tr) (n : Tr) (m : Int) (k : Nat) : List Nat := (List.range k).filter fun j => decide (tdot n (gt l j) = m)
theorem onD_succ (l : List Tr) (n : Tr) (m : Int) (k : Nat) : onD l n m (k + 1) = if tdot n (gt l k) = m then onD l n m k ++ [k] else onD l n m k := by
 unfold onD
 rw [List.range_succ, List.filter_append]
 by_cases h : tdot n (gt l k) = m <;> simp [h]
theorem onD_len (l : List Tr) (n : Tr) (m : Int) (k : Nat) : (onD l n m k).length ≤ k := by
 have := List.length_filter_le (fun j => decide (tdot n (gt l j) = m)) (List.range k)
 simpa [onD] using this
theorem thr_none {l : List Tr} {k a b c : Nat} (hk : k < 3) (hn : cz (nvP (gt l a) (gt l b) (gt l c)) k ≠ 0) {i : Nat} (hi : i < l.length) (h : tdot (nP l k a b c) (gt l i) < mP l k a b c) : thr l k a b c = none := by
 unfold thr mkP
 rw [if_neg hn, if_pos]
 unfold lowB
 rw [List.any_eq_true]
 exact ⟨i, List.mem_range.2 hi, decide_eq_true ((hgt_sgn hk hn _).1.2 h)⟩
theorem thr_some {l : List Tr} {k a b c : Nat} (hk : k < 3) (hn : cz (nvP (gt l a) (gt l b) (gt l c)) k ≠ 0) (h : ∀ i, i < l.length → mP l k a b c ≤ tdot (nP l k a b c) (gt l i)) :
  thr l k a b c = some ⟨aP l k a b c, bP l k a b c, cP l k a b c, onD l (nP l k a b c) (mP l k a b c) l.length⟩ := by
 unfold thr mkP
 rw [if_neg hn, if_neg]
 ·have : onL l k (aP l k a b c) (bP l k a b c) (cP l k a b c) l.length = onD l (nP l k a b c) (mP l k a b c) l.length := by
   unfold onL onD
   exact List.filter_congr fun i _ => decide_eq_decide.2 (hgt_sgn hk hn _).2
  rw [this]
 ·unfold lowB
  rw [Bool.not_eq_true, List.any_eq_false]
  intro i hi
  have := h i (List.mem_range.1 hi)
  rw [decide_eq_true_eq, (hgt_sgn hk hn _).1]
  omega
theorem thr_zero {l : List Tr} {k a b c : Nat} (hn : cz (nvP (gt l a) (gt l b) (gt l c)) k = 0) : thr l k a b c = none := by
 unfold thr; rw [if_pos hn]
end Go.Proofs.YtgepmbjmaljgoaaGreatDoor.H
namespace Go.Proofs.YtgepmbjmaljgoaaGreatDoor.H
open Go Go.Vc Go.RowKit Go.Na Go.Lib
set_option maxHeartbeats 4000000
theorem rat_ofb (n d : Int) (hn : -9000000000000000000 ≤ n ∧ n ≤ 9000000000000000000) (hd : -9000000000000000000 ≤ d ∧ d ≤ 9000000000000000000) (h0 : d ≠ 0) : CtrA Tryz.prog 158 [vi n, vi d] (tupOf [vR (Rat.divInt n d), vi 0]) := by
 have h1 := wof_c n zO
 have h2 := wof_c d zO
 have l : ∀ x : Int, -9000000000000000000 ≤ x ∧ x ≤ 9000000000000000000 → LI 1000 x := fun x hx => LI.mono (k := 19) (show x.natAbs < 10 ^ 19 by omega) zE
 have h3 := rat_make n d (l n hn) (l d hd) h0
 refine ctrA _ Tryz.func158 rfl rfl Tryz.ntmps158 rfl fun w Z => ?_
 refine zU ?_
 refine wt ?_
 exact zW
def tpf (n : Tr) : Nat → AV := fun i => match i with | 0 => vi n.x | 1 => vi n.y | _ => vi n.z
theorem dotc_c (n p : Tr) (hn : BT 1000000000000 n) (hp : BT 100000 p) : CtrA Tryz.prog 157 [tp p, .ptr 3 (tpf n)] (vi (tdot n p)) := by
 have h := coord_c p
 obtain ⟨m1, n1⟩ := bn_mul hn.x hp.x
 obtain ⟨m2, n2⟩ := bn_mul hn.y hp.y
 obtain ⟨m3, n3⟩ := bn_mul hn.z hp.z
 refine ctrA _ Tryz.func157 rfl rfl Tryz.ntmps157 rfl fun w Z => ?_
 refine zU ?_
 refine wt ?_
 exact zV
theorem tb42e : Tryz.prog.built 42 [] = some #[.int .i64 0, .string (bs []), .string (bs []), .string (bs []), .slice none 0 0] := by kernel_rfl
theorem tb42k (k : Int) : Tryz.prog.built 42 [(0, .int .i64 k)] = some #[.int .i64 k, .string (bs []), .string (bs []), .string (bs []), .slice none 0 0] := by kernel_rfl
theorem tb202p (n : Int) (p : Option Addr) : Tryz.prog.built 202 [(0, .pointer p), (1, .int .i64 n)] = some #[.pointer p, .int .i64 n] := by kernel_rfl
theorem tq203p (n1 n2 n3 : Int) (p1 p2 p3 : Option Addr) (w : World) : (Instr.buildSlice 203 3 #[(0, .agg #[.pointer p1, .int .i64 n1]), (1, .agg #[.pointer p2, .int .i64 n2]), (2, .agg #[.pointer p3, .int .i64 n3])]).run Tryz.prog w = .ok (.slice (some ⟨w.heap.size, 0, none⟩) 3 3) (w.alloc (.cells #[.pointer p1, .int .i64 n1, .pointer p2, .int .i64 n2, .pointer p3, .int .i64 n3] 202)) := by kernel_rfl
abbrev pZ : AV := .val (.agg #[.int .i64 0, .string (bs []), .string (bs []), .string (bs []), .slice none 0 0])
def pAf (k : Int) (a b c : List UInt8) (s : AV) : Nat → AV := fun i => match i with | 0 => vi k | 1 => vS a | 2 => vS b | 3 => vS c | _ => s
abbrev pA (k : Int) (a b c : List UInt8) (s : AV) : AV := .agg 5 (pAf k a b c s)
theorem pAf_one (k : Int) (a b c : List UInt8) (l : List Nat) : ∀ i, i < 5 → (pAf k a b c (idx l) i).one = true := by
 intro i hi
 rcases (by omega : i = 0 ∨ i = 1 ∨ i = 2 ∨ i = 3 ∨ i = 4) with rfl | rfl | rfl | rfl | rfl <;> rfl
abbrev pR (k : Int) (P : Pl) : AV := pA k (rtx P.A) (rtx P.B) (rtx P.C) (idx P.s)
theorem BT.neg {A : Int} {n : Tr} (h : BT A n) : BT A ⟨-n.x, -n.y, -n.z⟩ := ⟨⟨by have := h.x; show -A ≤ -n.x; omega, by have := h.x; show -n.x ≤ A; omega⟩, ⟨by have := h.y; show -A ≤ -n.y; omega, by have := h.y; show -n.y ≤ A; omega⟩, ⟨by have := h.z; show -A ≤ -n.z; omega, by have := h.z; show -n.z ≤ A; omega⟩⟩
theorem BT.nv {a b c : Tr} (h1 : BT 100000 a) (h2 : BT 100000 b) (h3 : BT 100000 c) : BT 80000000000 (nvP a b c) := ((h2.sub h1).cr (h3.sub h1)).le (by decide)
theorem BT.np {l : List Tr} (hl : RT l) (k a b c : Nat) : BT 80000000000 (nP l k a b c) := by
 unfold nP upP
 split
 ·exact (BT.nv (hl a) (hl b) (hl c)).neg
 ·exact BT.nv (hl a) (hl b) (hl c)
abbrev at3 (a b c : Nat) : AV := .val (.agg #[.int .i64 a, .int .i64 b, .int .i64 c])
theorem BT.sq {A : Int} {n : Tr} (h : BT A n) : ((-A ≤ n.x ∧ n.x ≤ A) ∧ (-A ≤ n.y ∧ n.y ≤ A)) ∧ (-A ≤ n.z ∧ n.z ≤ A) := ⟨⟨h.x, h.y⟩, h.z⟩
def celP (k : Int) (A B C : Rat) : Nat → List SV
 |0 => [.av (vi k), .av (vS []), .av (vS []), .av (vS []), .osl 20]
 |1 => [.av (vi k), .av (vR A), .av (vS []), .av (vS []), .osl 20]
 |2 => [.av (vi k), .av (vR A), .av (vR B), .av (vS []), .osl 20]
 |_ => [.av (vi k), .av (vR A), .av (vR B), .av (vR C), .osl 20]
def thrA (k : Int) : Option Pl → AV
 |none => tupOf [pZ, vb false, vi 0]
 |some P => tupOf [pR k P, vb true, vi 0]
theorem through0_c (l : List Tr) (hl : RT l) (a b c : Nat) (ha : a < l.length) (hb' : b < l.length) (hc : c < l.length) (hn : l.length ≤ 1000) : CtrA Tryz.prog 95 [ts l, vi 0, at3 a b c] (thrA 0 (thr l 0 a b c)) := by
 have h1 := normal_c (gt l a) (gt l b) (gt l c) (hl a) (hl b) (hl c)
 refine ctrA _ Tryz.func95 rfl rfl Tryz.ntmps95 rfl fun w Z => ?_
 refine zU ?_
 refine wt ?_
 (refine cq_cond rfl ?_ ?_ <;> intro hb <;> (try simp only [zA, zB, zG, zC, zD, zN] at hb) <;> (try (exfalso; omega)))
 ·refine wt ?_
  refine sq_g (g_build (t := 42) (is := []) (xs := []) (vs := []) tb42e rfl rfl) rfl ?_
  refine wt ?_
  rw [thr_zero (k := 0) hb]
  exact sq_resN (rvs := [_, _, _]) (τs := [_, _, _]) rfl rfl ⟨.agg (us := [_, _, _, _, _]) rfl rfl rfl rfl, .tmp rfl, .tmp rfl, trivial⟩ rfl
 have hne : cz (nvP (gt l a) (gt l b) (gt l c)) 0 ≠ 0 := hb
 have hpos : 0 < cz (nP l 0 a b c) 0 := upP_pos hne
 have hT0 := @thr_none l 0 a b c zE hne
 have hT1 := @thr_some l 0 a b c zE hne
 have hnb := BT.np hl 0 a b c
 have hmb := bn_dot hnb (hl a)
 have hnP : nP l 0 a b c = upP 0 (nvP (gt l a) (gt l b) (gt l c)) := rfl
 have hm : mP l 0 a b c = tdot (nP l 0 a b c) (gt l a) := rfl
 have hA : aP l 0 a b c = Rat.divInt (mP l 0 a b c) (nP l 0 a b c).x := rfl
 have hB : bP l 0 a b c = Rat.divInt (-(nP l 0 a b c).y) (nP l 0 a b c).x := rfl
 have hC : cP l 0 a b c = Rat.divInt (-(nP l 0 a b c).z) (nP l 0 a b c).x := rfl
 have hnv := (BT.nv (hl a) (hl b) (hl c)).sq
 obtain ⟨⟨⟨_, _⟩, ⟨_, _⟩⟩, ⟨_, _⟩⟩ := hnv
 rw [hA, hB, hC] at hT1
 rw [← hm] at hmb
 generalize mP l 0 a b c = m at *
 generalize nP l 0 a b c = n at *
 refine wt ?_
 refine cq_mid [(0, .av (ts l)), (1, .av (vi 0)), (5, .av (.ptr 3 (fun i => .val ([Value.int .i64 a, .int .i64 b, .int .i64 c].getD i Go.undef)))), (6, .own 10 0), (9, .av (.ptr 3 (tpf n)))] [(10, .cells [.av (vi 0), .av (vS []), .av (vS []), .av (vS []), .av (.val (.slice none 0 0))])] ?_ ?_
 ·(refine cq_cond rfl ?_ ?_ <;> intro hb <;> (try simp only [zA, zB, zG, zC, zD, zN] at hb) <;> (try (exfalso; omega)))
  ·have e : n = ⟨-(nvP (gt l a) (gt l b) (gt l c)).x, -(nvP (gt l a) (gt l b) (gt l c)).y, -(nvP (gt l a) (gt l b) (gt l c)).z⟩ := hnP.trans (if_pos hb)
   refine wt ?_
   rw [e]
   exact sq_meet ((ent_freezec 9 11 (tpf _) rfl rfl rfl).trans (ent zS zT))
  ·have e : n = nvP (gt l a) (gt l b) (gt l c) := hnP.trans (if_neg (by simpa [cz] using hb))
   refine wt ?_
   rw [e]
   exact sq_meet ((ent_freezec 9 11 (tpf _) rfl rfl rfl).trans (ent zS zT))
 have hd0 := dotc_c n (gt l a) (hnb.le zE) (hl a)
 rw [← hm] at hd0
 refine wt ?_
 refine sq_g (g_build (t := 42) (is := [0]) (xs := [_]) (vs := [_]) (tb42k 0) rfl rfl) rfl ?_
 refine wt ?_
 refine cq_loop (γ := Nat) (fun i => [(0, .av (ts l)), (1, .av (vi 0)), (6, .own 10 0), (9, .av (.ptr 3 (tpf n))), (11, .av (.clo 157 1 (fun i => [AV.ptr 3 (tpf n)].getD i .any))), (12, .av (vi m)), (13, .own 11 0), (74, .av (ts l)), (75, .av (vi l.length)), (76, .av (vi i))])
  (fun i => [(10, .cells [.av (vi 0), .av (vS []), .av (vS []), .av (vS []), .av (.val (.slice none 0 0))]), (11, .cells [.av (vi 0), .av (vS []), .av (vS []), .av (vS []), .osl 20]), (20, .row 3 1 (onD l n m i).length (xf (onD l n m i)))]) (fun i => i ≤ l.length ∧ ∀ j, j < i → m ≤ tdot n (gt l j)) (fun i => l.length - i) 0 ⟨Nat.zero_le _, by omega⟩
  ((ent_rowc (r := 11) (off := 4) 20 3 1 (xf []) rfl rfl rfl).trans (ent zS zT)) ?_
 rintro i ⟨hi, hall⟩
 have hol := onD_len l n m i
 refine wt ?_
 (refine cq_cond rfl ?_ ?_ <;> intro hb <;> (try simp only [zA, zB, zG, zC, zD, zN] at hb) <;> (try (exfalso; omega)))
 ·have hil : i < l.length := by omega
  have hd := dotc_c n (gt l i) (hnb.le zE) (hl i)
  have hsu := onD_succ l n m i
  refine wt ?_
  (refine cq_cond rfl ?_ ?_ <;> intro hb <;> (try simp only [zA, zB, zG, zC, zD, zN] at hb) <;> (try (exfalso; omega)))
  ·rw [hT0 hil hb]
   refine wt ?_
   refine sq_g (g_build (t := 42) (is := []) (xs := []) (vs := []) tb42e rfl rfl) rfl ?_
   refine wt ?_
   exact sq_resN (rvs := [_, _, _]) (τs := [_, _, _]) rfl rfl ⟨.agg (us := [_, _, _, _, _]) rfl rfl rfl rfl, .tmp rfl, .tmp rfl, trivial⟩ rfl
  ·have hge : m ≤ tdot n (gt l i) := by omega
   refine wt ?_
   (refine cq_cond rfl ?_ ?_ <;> intro hb <;> (try simp only [zA, zB, zG, zC, zD, zN] at hb) <;> (try (exfalso; omega)))
   ·rw [if_pos hb] at hsu
    refine wt ?_
    exact sq_round (i + 1) ⟨by omega, plt_step hall hge⟩ (by omega) (ent zS ⟨⟨_, rfl, .refl _⟩, ⟨_, rfl, .refl _⟩, ⟨_, rfl, .row (by rw [hsu]) (fun _ _ _ _ => by rw [hsu])⟩, trivial⟩)
   ·rw [if_neg hb] at hsu
    refine wt ?_
    exact sq_round (i + 1) ⟨by omega, plt_step hall hge⟩ (by omega) (ent zS ⟨⟨_, rfl, .refl _⟩, ⟨_, rfl, .refl _⟩, ⟨_, rfl, .row (by rw [hsu]) (fun _ _ _ _ => by rw [hsu])⟩, trivial⟩)
 have hil : i = l.length := by omega
 subst hil
 rw [hT1 hall]
 obtain ⟨⟨⟨_, _⟩, ⟨_, _⟩⟩, ⟨_, _⟩⟩ := hnb.sq
 have hx0 : 0 < n.x := hpos
 refine wt ?_
 refine dq_g (g_build_p (tb202p _) rfl rfl) rfl ?_
 refine wt ?_
 refine dq_g (g_build_p (tb202p _) rfl rfl) rfl ?_
 refine wt ?_
 refine dq_g (g_build_p (tb202p _) rfl rfl) rfl ?_
 refine wt ?_
 refine dq_v (ga_bslice_p 30 rfl (fun p1 p2 p3 w => tq203p _ _ _ p1 p2 p3 w) rfl rfl rfl) rfl rfl ?_
 refine wt ?_
 refine dq_g (g_len_s rfl rfl) rfl ?_
 refine wt ?_
 have qA := rat_ofb m n.x zO zO zO
 have qB := rat_ofb (-n.y) n.x zO zO zO
 have qC := rat_ofb (-n.z) n.x zO zO zO
 generalize Rat.divInt m n.x = A at *
 generalize Rat.divInt (-n.y) n.x = B at *
 generalize Rat.divInt (-n.z) n.x = C at *
 refine cq_loop (γ := Nat) (fun i => [(1, .av (vi 0)), (6, .own 10 0), (9, .av (.ptr 3 (tpf n))), (13, .own 11 0), (123, .osl 30), (124, .av (vi 3)), (125, .av (vi i))])
  (fun i => [(30, .srow 202 2 3 [.own 11 1, .av (vi m), .own 11 2, .av (vi (-n.y)), .own 11 3, .av (vi (-n.z))]), (10, .cells [.av (vi 0), .av (vS []), .av (vS []), .av (vS []), .av (.val (.slice none 0 0))]), (11, .cells (celP 0 A B C i)), (20, .row 3 1 (onD l n m l.length).length (xf (onD l n m l.length)))])
  (fun i => i ≤ 3) (fun i => 3 - i) 0 (Nat.zero_le _) (ent zS zT) ?_
 intro i hi
 match i, hi with
 |0, _ =>
  refine wt ?_
  refine sq_g (g_index_s (k := 0) rfl rfl rfl rfl zO) rfl ?_
  refine wt ?_
  refine sq_g (g_load_sp rfl rfl rfl rfl) rfl ?_
  refine wt ?_
  refine sq_s (g_store_sp rfl rfl rfl rfl rfl) ?_
  refine wt ?_
  exact sq_round 1 zO zO (ent zS zT)
 |1, _ =>
  refine wt ?_
  refine sq_g (g_index_s (k := 1) rfl rfl rfl rfl zO) rfl ?_
  refine wt ?_
  refine sq_g (g_load_sp rfl rfl rfl rfl) rfl ?_
  refine wt ?_
  refine sq_s (g_store_sp rfl rfl rfl rfl rfl) ?_
  refine wt ?_
  exact sq_round 2 zO zO (ent zS zT)
 |2, _ =>
  refine wt ?_
  refine sq_g (g_index_s (k := 2) rfl rfl rfl rfl zO) rfl ?_
  refine wt ?_
  refine sq_g (g_load_sp rfl rfl rfl rfl) rfl ?_
  refine wt ?_
  refine sq_s (g_store_sp rfl rfl rfl rfl rfl) ?_
  refine wt ?_
  exact sq_round 3 zO zO (ent zS zT)
 |3, _ =>
  refine wt ?_
  refine lsq_ent (ent_freeze_in 11 20 4 rfl rfl rfl rfl) ?_
  refine sq_g (g_load_own_aggv (f := pAf 0 (rtx A) (rtx B) (rtx C) (idx (onD l n m l.length))) rfl rfl rfl) rfl ?_
  refine wt ?_
  refine sq_s (g_store_aggv rfl rfl (pAf_one _ _ _ _ _) rfl rfl) ?_
  refine wt ?_
  exact sq_resN (rvs := [_, _, _]) (τs := [_, _, _]) rfl rfl ⟨.aggv (f := pAf 0 (rtx A) (rtx B) (rtx C) (idx (onD l n m l.length))) rfl rfl rfl, .tmp rfl, .tmp rfl, trivial⟩ rfl
 |_ + 4, h => omega
def cmp3 (a b c : Int) : Int := if a ≠ 0 then a else if b ≠ 0 then b else if c ≠ 0 then c else 0
theorem tb208' (a b : ByteArray) : Tryz.prog.built 208 [(0, .string a), (1, .string b)] = some #[.string a, .string b] := by kernel_rfl
theorem tb209' (a b c d e f : ByteArray) : Tryz.prog.built 209 [(0, .agg #[.string a, .string b]), (1, .agg #[.string c, .string d]), (2, .agg #[.string e, .string f])] = some #[.string a, .string b, .string c, .string d, .string e, .string f] := by kernel_rfl
theorem ti209_0 (a b c d e f : ByteArray) (w : World) : (Instr.index 209 (.agg #[.string a, .string b, .string c, .string d, .string e, .string f]) (.int .i64 0)).run Tryz.prog w = .ok (.agg #[.string a, .string b]) w := by kernel_rfl
theorem ti209_1 (a b c d e f : ByteArray) (w : World) : (Instr.index 209 (.agg #[.string a, .string b, .string c, .string d, .string e, .string f]) (.int .i64 1)).run Tryz.prog w = .ok (.agg #[.string c, .string d]) w := by kernel_rfl
theorem ti209_2 (a b c d e f : ByteArray) (w : World) : (Instr.index 209 (.agg #[.string a, .string b, .string c, .string d, .string e, .string f]) (.int .i64 2)).run Tryz.prog w = .ok (.agg #[.string e, .string f]) w := by kernel_rfl
theorem compare_c (k1 k2 : Int) (A B C A' B' C' : Rat) (s s' : AV) (hA : LR 400 A) (hB : LR 400 B) (hC : LR 400 C) (hA' : LR 400 A') (hB' : LR 400 B') (hC' : LR 400 C') :
  CtrA Tryz.prog 97 [pA k1 (rtx A) (rtx B) (rtx C) s, pA k2 (rtx A') (rtx B') (rtx C') s'] (vi (cmp3 (rsg (A - A')) (rsg (B - B')) (rsg (C - C')))) := by
 have h1 := rat_compare A A' hA hA'
 have h2 := rat_compare B B' hB hB'
 have h3 := rat_compare C C' hC hC'
 generalize rsg (A - A') = a at *
 generalize rsg (B - B') = b at *
 generalize rsg (C - C') = c at *
 refine ctrA _ Tryz.func97 rfl rfl Tryz.ntmps97 rfl fun w Z => ?_
 refine zU ?_
 refine wt ?_
 refine sq_g (g_build (t := 208) (is := [0, 1]) (xs := [_, _]) (vs := [_, _]) (tb208' _ _) rfl rfl) rfl ?_
 refine wt ?_
 refine sq_g (g_build (t := 208) (is := [0, 1]) (xs := [_, _]) (vs := [_, _]) (tb208' _ _) rfl rfl) rfl ?_
 refine wt ?_
 refine sq_g (g_build (t := 208) (is := [0, 1]) (xs := [_, _]) (vs := [_, _]) (tb208' _ _) rfl rfl) rfl ?_
 refine wt ?_
 refine sq_g (g_build (t := 209) (is := [0, 1, 2]) (xs := [_, _, _]) (vs := [_, _, _]) (tb209' _ _ _ _ _ _) rfl rfl) rfl ?_
 refine wt ?_
 refine cq_loop (γ := Nat) (fun i => [(24, .av (.val (.agg #[.string (bs (rtx A)), .string (bs (rtx A')), .string (bs (rtx B)), .string (bs (rtx B')), .string (bs (rtx C)), .string (bs (rtx C'))]))), (25, .av (vi i))]) (fun _ => []) (fun i => i ≤ 3 ∧ (0 < i → a = 0) ∧ (1 < i → b = 0) ∧ (2 < i → c = 0)) (fun i => 3 - i) 0 ⟨by omega, by omega, by omega, by omega⟩ (ent zS trivial) ?_
 rintro i ⟨hi, q1, q2, q3⟩
 match i, hi, q1, q2, q3 with
 |0, _, q1, q2, q3 =>
  refine wt ?_
  refine sq_g (g_aindex (ti209_0 _ _ _ _ _ _) rfl rfl) rfl ?_
  refine wt ?_
  (refine cq_cond rfl ?_ ?_ <;> intro hb <;> (try simp only [zA, zB, zG, zC, zD, zN] at hb) <;> (try (exfalso; omega)))
  ·refine wt ?_
   exact sq_res1 rfl (.tmp rfl) (congrArg vi (by unfold cmp3; rw [if_pos hb]))
  ·refine wt ?_
   exact sq_round 1 ⟨by omega, fun _ => hb, fun h => by omega, fun h => by omega⟩ zO (ent zS trivial)
 |1, _, q1, q2, q3 =>
  refine wt ?_
  refine sq_g (g_aindex (ti209_1 _ _ _ _ _ _) rfl rfl) rfl ?_
  refine wt ?_
  (refine cq_cond rfl ?_ ?_ <;> intro hb <;> (try simp only [zA, zB, zG, zC, zD, zN] at hb) <;> (try (exfalso; omega)))
  ·refine wt ?_
   exact sq_res1 rfl (.tmp rfl) (congrArg vi (by unfold cmp3; rw [if_neg (fun h => h (q1 (by omega))), if_pos hb]))
  ·refine wt ?_
   exact sq_round 2 ⟨by omega, fun _ => q1 zO, fun _ => hb, fun h => by omega⟩ zO (ent zS trivial)
 |2, _, q1, q2, q3 =>
  refine wt ?_
  refine sq_g (g_aindex (ti209_2 _ _ _ _ _ _) rfl rfl) rfl ?_
  refine wt ?_
  (refine cq_cond rfl ?_ ?_ <;> intro hb <;> (try simp only [zA, zB, zG, zC, zD, zN] at hb) <;> (try (exfalso; omega)))
  ·refine wt ?_
   exact sq_res1 rfl (.tmp rfl) (congrArg vi (by unfold cmp3; rw [if_neg (fun h => h (q1 (by omega))), if_neg (fun h => h (q2 (by omega))), if_pos hb]))
  ·refine wt ?_
   exact sq_round 3 ⟨by omega, fun _ => q1 zO, fun _ => q2 zO, fun _ => hb⟩ zO (ent zS trivial)
 |3, _, q1, q2, q3 =>
  refine wt ?_
  exact sq_res1 rfl (.tmp rfl) (congrArg vi (by unfold cmp3; rw [if_neg (fun h => h (q1 (by omega))), if_neg (fun h => h (q2 (by omega))), if_neg (fun h => h (q3 (by omega)))]))
 |i + 4, hi, _, _, _ => omega
end Go.Proofs.YtgepmbjmaljgoaaGreatDoor.H
namespace Go.Vdr
open Go
def RD {α : Type} (d : Nat) : Result α → Prop
 |.ok _ w => d ≤ w.drawn
 |.halt _ w => d ≤ w.drawn
theorem RD.le {α : Type} {c d : Nat} (h : c ≤ d) : ∀ {r : Result α}, RD d r → RD c r
 |.ok _ _, k => Nat.le_trans h k
 |.halt _ _, k => Nat.le_trans h k
theorem ask_dr {α : Type} : ∀ (a : Ask α) (w : World), w.drawn ≤ (w.ask a).2.drawn
 |.done a, w => Nat.le_refl _
 |.ask what range k, w => by
  unfold World.ask
  dsimp only
  split
  ·exact ask_dr _ w
  ·exact Nat.le_trans (Nat.le_succ _) (ask_dr (k _) { w with drawn := w.drawn + 1 })
theorem sys_dr (w : World) (c : Sys) : w.drawn ≤ (w.sys c).2.drawn := by
 unfold World.sys
 have h := ask_dr (Kernel.perform c w.os) w
 generalize w.ask (Kernel.perform c w.os) = x at h
 split
 ·exact Nat.le_refl _
 ·exact h
theorem seen_dr {p : Program} {w w' : World} {at_ : Addr} {u : TypeId} {a : Addr} {v : Value} {b : Bool} {t : List Addr} (h : w.viewStore p at_ u a v b = .ok (w', t)) : w'.drawn = w.drawn := by
 unfold World.viewStore at h
 simp only [bind, Except.bind, pure, Except.pure, throw, throwThe, MonadExceptOf.throw] at h
 repeat' (split at h)
 all_goals first
  |(cases h; rfl)
  |(cases h)
  |skip
theorem far_dr {p : Program} {w w' : World} {a : Addr} {v : Value} {b : Bool} {t : List Addr} (h : w.farStore p a v b = .ok (w', t)) : w'.drawn = w.drawn := by
 unfold World.farStore at h
 split at h
 ·split at h
  ·rename_i r hr
   simp only [Except.ok.injEq] at h
   subst h
   exact seen_dr hr
  ·cases h
 ·cases h
theorem freeze_dr (w : World) (a : Addr) (n : Nat) : (w.freeze a n).drawn = w.drawn := by
 unfold World.freeze; split <;> rfl
theorem run_dr {α : Type} (p : Program) : ∀ (m : Sem α) (w : World), RD w.drawn (m.run p w)
 |.pure a, w => Nat.le_refl _
 |.load m a k, w => by
  unfold Sem.run
  split
  ·exact run_dr p _ w
  ·split
   ·exact run_dr p _ w
   ·exact Nat.le_refl _
 |.store m a v k, w => by
  cases v <;> first
   |exact Nat.le_refl _
   |(simp only [Sem.run]
     split
     · split
       · exact Nat.le_refl _
       · exact run_dr p k (w.setCell a _)
     · split
       · rename_i h
         have h1 := far_dr h
         exact RD.le (Nat.le_of_eq h1.symm) (run_dr p k _)
       · exact Nat.le_refl _)
 |.new o k, w => by
  unfold Sem.run
  exact run_dr p (k w.heap.size) { w with heap := w.heap.push o }
 |.shape r k, w => by unfold Sem.run; exact run_dr p _ w
 |.freeze a n k, w => by
  unfold Sem.run
  exact RD.le (Nat.le_of_eq (freeze_dr w a n).symm) (run_dr p k _)
 |.frozen a k, w => by unfold Sem.run; exact run_dr p _ w
 |.getObj r k, w => by
  unfold Sem.run
  split
  ·exact Nat.le_refl _
  ·exact run_dr p _ w
  ·exact Nat.le_refl _
 |.setObj r o k, w => by
  unfold Sem.run
  split
  ·exact Nat.le_refl _
  ·exact run_dr p k { w with heap := w.heap.setIfInBounds r o }
  ·exact Nat.le_refl _
 |.choose q k, w => by
  unfold Sem.run
  split
  ·exact run_dr p _ w
  ·exact RD.le (Nat.le_succ _) (run_dr p _ { w with drawn := w.drawn + 1 })
 |.sys c k, w => by
  unfold Sem.run
  exact RD.le (sys_dr w c) (run_dr p _ _)
 |.program k, w => by unfold Sem.run; exact run_dr p _ w
 |.mark m k, w => by unfold Sem.run; exact run_dr p k w
 |.halt h, w => Nat.le_refl _
theorem runT_dr {α : Type} (p : Program) : ∀ (m : Sem α) (w : World) (es : Array Event), RD w.drawn (m.runT p w es).1
 |.pure a, w, es => Nat.le_refl _
 |.load m a k, w, es => by
  unfold Sem.runT
  split
  ·exact runT_dr p _ w _
  ·split
   ·exact runT_dr p _ w _
   ·exact Nat.le_refl _
 |.store m a v k, w, es => by
  cases v <;> first
   |exact Nat.le_refl _
   |(simp only [Sem.runT]
     split
     · split
       · exact Nat.le_refl _
       · exact runT_dr p k (w.setCell a _) _
     · split
       · rename_i h
         have h1 := far_dr h
         exact RD.le (Nat.le_of_eq h1.symm) (runT_dr p k _ _)
       · exact Nat.le_refl _)
 |.new o k, w, es => by
  unfold Sem.runT
  exact runT_dr p (k w.heap.size) { w with heap := w.heap.push o } _
 |.shape r k, w, es => by unfold Sem.runT; exact runT_dr p _ w _
 |.freeze a n k, w, es => by
  unfold Sem.runT
  exact RD.le (Nat.le_of_eq (freeze_dr w a n).symm) (runT_dr p k _ _)
 |.frozen a k, w, es => by unfold Sem.runT; exact runT_dr p _ w _
 |.getObj r k, w, es => by
  unfold Sem.runT
  split
  ·exact Nat.le_refl _
  ·exact runT_dr p _ w _
  ·exact Nat.le_refl _
 |.setObj r o k, w, es => by
  unfold Sem.runT
  split
  ·exact Nat.le_refl _
  ·exact runT_dr p k { w with heap := w.heap.setIfInBounds r o } _
  ·exact Nat.le_refl _
 |.choose q k, w, es => by
  unfold Sem.runT
  split
  ·exact runT_dr p _ w _
  ·exact RD.le (Nat.le_succ _) (runT_dr p _ { w with drawn := w.drawn + 1 } _)
 |.sys c k, w, es => by
  unfold Sem.runT
  exact RD.le (sys_dr w c) (runT_dr p _ _ _)
 |.program k, w, es => by unfold Sem.runT; exact runT_dr p _ w _
 |.mark m k, w, es => by unfold Sem.runT; exact runT_dr p k w _
 |.halt h, w, es => Nat.le_refl _
def GD (d : Nat) : GStep → Prop
 |.go _ w _ => d ≤ w.drawn
 |.comm _ _ _ _ w _ => d ≤ w.drawn
 |.spawn _ _ w _ => d ≤ w.drawn
 |.count _ w _ => d ≤ w.drawn
 |.timer _ _ w _ => d ≤ w.drawn
 |.alone _ _ w _ => d ≤ w.drawn
 |.newcoro _ _ _ w _ => d ≤ w.drawn
 |.coroswitch _ _ _ w _ => d ≤ w.drawn
 |.collect _ w _ => d ≤ w.drawn
 |.watch _ w _ => d ≤ w.drawn
 |.ended _ _ _ => True
theorem GD_after {d : Nat} {es : Array Event} {s : GStep} (h : GD d s) : GD d (GStep.after es s) := by cases s <;> exact h
theorem GD.le {c d : Nat} (h : c ≤ d) {s : GStep} (k : GD d s) : GD c s := by cases s <;> first | exact Nat.le_trans h k | exact True.intro
theorem rd_ok {α : Type} {p : Program} {m : Sem α} {w w' : World} {a : α} (h : m.run p w = .ok a w') : w.drawn ≤ w'.drawn := by have := run_dr p m w; rw [h] at this; exact this
theorem rd_halt {α : Type} {p : Program} {m : Sem α} {w w' : World} {a : Halt} (h : m.run p w = .halt a w') : w.drawn ≤ w'.drawn := by have := run_dr p m w; rw [h] at this; exact this
theorem rdT_ok {α : Type} {p : Program} {m : Sem α} {w w' : World} {a : α} {es es' : Array Event} (h : m.runT p w es = (.ok a w', es')) : w.drawn ≤ w'.drawn := by have := runT_dr p m w es; rw [h] at this; exact this
theorem rdT_halt {α : Type} {p : Program} {m : Sem α} {w w' : World} {a : Halt} {es es' : Array Event} (h : m.runT p w es = (.halt a w', es')) : w.drawn ≤ w'.drawn := by have := runT_dr p m w es; rw [h] at this; exact this
theorem endWith_dr (d : Nat) (w : World) (fd : Nat) (text : ByteArray) (o : Outcome) : GD d (endWith w fd text o) := by
 unfold endWith
 dsimp only
 split <;> (try split) <;> exact True.intro
theorem endThrow_dr (fr : Frame) (m : String) (w : World) : GD w.drawn (endThrow fr m w) := Nat.le_refl _
theorem endPrinting_dr (p : Program) (fr : Frame) (v : Value) (w : World) : GD w.drawn (endPrinting p fr v w) := by
 unfold endPrinting
 dsimp only
 split
 ·exact endThrow_dr _ _ _
 ·exact True.intro
theorem endFatal_dr (p : Program) (fr : Frame) (callers : List Frame) (dying : Option Dying) (m : String) (w : World) : GD w.drawn (endFatal p fr callers dying m w) := by
 unfold endFatal
 dsimp only
 split
 ·rename_i h
  exact rd_ok h
 ·exact True.intro
 ·exact True.intro
theorem writeOn_dr (p : Program) (fr : Frame) (d : Dying) (f : Fatal) (w : World) : GD w.drawn (writeOn p fr d f w) := by
 unfold writeOn
 dsimp only
 split
 ·exact True.intro
 ·split
  ·rename_i h; exact rdT_ok h
  ·rename_i h; exact rdT_halt h
  ·exact True.intro
  ·exact True.intro
theorem die_dr (p : Program) (fr : Frame) (d : Dying) (w : World) : GD w.drawn (die p fr d w) := by
 unfold die
 split
 ·exact writeOn_dr _ _ _ _ _
 ·split
  ·split
   ·exact Nat.le_refl _
   ·exact endWith_dr _ _ _ _ _
  ·dsimp only
   split
   ·exact Nat.le_refl _
   ·split
    ·rename_i h; exact rd_ok h
    ·exact True.intro
   ·have hd := runT_dr p (invoke (.fn (.method ‹String›) #[]) #[.iface ‹TypeId› ‹Value›]) w #[]
    refine GD_after ?_
    split
    ·rename_i h; rw [h] at hd; exact hd
    ·rename_i h; rw [h] at hd; exact hd
    ·exact True.intro
    ·rename_i h; rw [h] at hd; exact GD.le hd (endPrinting_dr _ _ _ _)
    ·exact True.intro
   ·exact True.intro
theorem doReturn_dr (p : Program) (main : Bool) (fr : Frame) (callers : List Frame) (dying : Option Dying) (v : Value) (w : World) : GD w.drawn (doReturn p main fr callers dying v w) := by
 unfold doReturn
 split
 ·split <;> exact Nat.le_refl _
 ·split
  ·exact Nat.le_refl _
  ·exact True.intro
  ·split
   ·exact Nat.le_refl _
   ·split
    ·exact Nat.le_refl _
    ·exact True.intro
theorem GD_ite {c : Prop} [Decidable c] {d : Nat} {a b : GStep} (h1 : c → GD d a) (h2 : ¬ c → GD d b) : GD d (if c then a else b) := by
 split
 ·exact h1 (by assumption)
 ·exact h2 (by assumption)
theorem callDeferred_dr (p : Program) (fr : Frame) (callers : List Frame) (dying : Option Dying) (d : Deferred) (w : World) : GD w.drawn (callDeferred p fr callers dying d w) := by
 unfold callDeferred
 refine GD_ite (fun _ => True.intro) (fun _ => ?_)
 ·dsimp only
  have hd := runT_dr p (invoke d.target d.args) w #[]
  refine GD_after ?_
  split <;> (rename_i h; rw [h] at hd) <;> first
   |exact hd
   |exact True.intro
   |exact GD.le hd (endFatal_dr _ _ _ _ _ _)
   |exact GD.le hd (endThrow_dr _ _ _)
   |(split <;> exact hd)
theorem unwind_dr (p : Program) (main : Bool) (fr : Frame) (callers : List Frame) (dying : Option Dying) (w : World) : GD w.drawn (unwind p main fr callers dying w) := by
 unfold unwind
 split
 ·rename_i block ds _
  have hd := runT_dr p (Instr.takeDeferred ‹Nat›) w #[]
  dsimp only
  refine GD_after ?_
  split
  ·rename_i h; rw [h] at hd; exact hd
  ·exact True.intro
 ·exact callDeferred_dr _ _ _ _ _ _
 ·split
  ·exact True.intro
  ·split
   ·exact True.intro
   ·split
    ·exact Nat.le_refl _
    ·split
     ·split
      ·exact Nat.le_refl _
      ·split
       ·rename_i h; exact rd_ok h
       ·exact True.intro
       ·exact True.intro
     ·split
      ·exact endPrinting_dr _ _ _ _
      ·exact True.intro
  ·split
   ·exact doReturn_dr _ _ _ _ _ _ _
   ·rename_i fn _
    have hd := runT_dr p (results fn fr.tmps) w #[]
    dsimp only
    refine GD_after ?_
    split
    ·rename_i h; rw [h] at hd; exact GD.le hd (doReturn_dr _ _ _ _ _ _ _)
    ·exact True.intro
    ·exact True.intro
theorem early_dr (p : Program) (fr : Frame) (callers : List Frame) (dying : Option Dying) (g : Nat) (w : World) : GD w.drawn (early p fr callers dying g w) := by
 have ny : ∀ w' : World, w.drawn ≤ w'.drawn → GD w.drawn (match w'.heap[g]? with
  |some (.pending c elem) =>
   .go { frame := fr, callers, status := .running, dying } { w' with heap := w'.heap.setIfInBounds g (.cells c elem) }
  |_ => .ended (.stuck "early: the variable does not wait" (fr.pos p)) w') := by
  intro w' h
  split
  ·exact h
  ·exact True.intro
 unfold early
 dsimp only
 split
 ·exact ny w (Nat.le_refl _)
 ·split
  ·exact True.intro
  ·split
   ·exact ny w (Nat.le_refl _)
   ·split
    ·exact ny w (Nat.le_refl _)
    ·split
     ·exact True.intro
     ·exact Nat.le_refl _
     ·exact True.intro
     ·exact ny w (Nat.le_refl _)
     ·split
      ·exact Nat.le_refl _
      ·split
       ·exact ny w (Nat.le_refl _)
       ·split
        ·rename_i h; exact ny _ (rd_ok h)
        ·rename_i h; exact rd_ok h
        ·exact True.intro
theorem apply_dr (p : Program) (b : Bool) (fr : Frame) (callers : List Frame) (dying : Option Dying) (s : Sem Next) (w : World) : GD w.drawn (stepG.apply p b fr callers dying s w) := by
 unfold stepG.apply
 have hd1 := runT_dr p s w #[]
 have hd2 := run_dr p s w
 have hd : RD w.drawn (if b = true then s.runT p w #[] else (s.run p w, #[])).1 := by split <;> assumption
 dsimp only
 generalize (if b = true then s.runT p w #[] else (s.run p w, #[])) = x at hd
 obtain ⟨r, es⟩ := x
 refine GD_after ?_
 dsimp only at hd ⊢
 clear hd1 hd2
 cases r with
 |ok n w' =>
  cases n <;> (try dsimp only) <;> first
   |exact hd
   |(split <;> first | exact hd | exact True.intro | exact GD.le hd (endThrow_dr _ _ _))
   |(split <;> split <;> exact hd)
 |halt h w' =>
  cases h with
  |unsupported u =>
   cases u <;> (try dsimp only) <;> first
    |exact True.intro
    |exact GD.le hd (early_dr _ _ _ _ _ _)
  |fatal m => exact GD.le hd (endFatal_dr _ _ _ _ _ _)
  |throw m => exact GD.le hd (endThrow_dr _ _ _)
  |_ => first
   |exact hd
   |exact True.intro
theorem oper_dr (p : Program) (b : Bool) (fr : Frame) (callers : List Frame) (dying : Option Dying) (w : World) : GD w.drawn (stepG.oper p b fr callers dying w) := by
 unfold stepG.oper
 split
 ·exact True.intro
 ·split <;> exact apply_dr _ _ _ _ _ _ _
theorem rdT1_ok {α : Type} {p : Program} {m : Sem α} {w w' : World} {a : α} {es : Array Event} (h : (m.runT p w es).1 = .ok a w') : w.drawn ≤ w'.drawn := by have := runT_dr p m w es; rw [h] at this; exact this
theorem rdT1_halt {α : Type} {p : Program} {m : Sem α} {w w' : World} {a : Halt} {es : Array Event} (h : (m.runT p w es).1 = .halt a w') : w.drawn ≤ w'.drawn := by have := runT_dr p m w es; rw [h] at this; exact this
theorem GD_elim {α : Type} {d : Nat} {o : Option α} {a : GStep} {f : α → GStep} (h1 : GD d a) (h2 : ∀ x, GD d (f x)) : GD d (o.elim a f) := by
 cases o
 ·exact h1
 ·exact h2 _
theorem leave_dr (p : Program) (main : Bool) (fr : Frame) (callers : List Frame) (dying : Option Dying) (jump : Option Code) (w : World) (c : Prop) [Decidable c] (why : String) : GD w.drawn (match fr.roundOf with
   |none => if c then .go { frame := { fr with mode := .returning }, callers, status := .running, dying } w else .ended (.stuck why (fr.pos p)) w
   |some l =>
    let (r, es) := (Instr.endRound l jump).runT p w #[]
    GStep.after (seen p fr.fn es) <| match r with
    |.ok v w => doReturn p main fr callers dying v w
    |.halt _ w => .ended (.stuck "range over a function: no such loop" (fr.pos p)) w) := by
 split
 ·exact GD_ite (fun _ => Nat.le_refl _) (fun _ => True.intro)
 ·rename_i l _
  have hd := runT_dr p (Instr.endRound l jump) w #[]
  dsimp only
  refine GD_after ?_
  split
  ·rename_i h; rw [h] at hd; exact GD.le hd (doReturn_dr _ _ _ _ _ _ _)
  ·exact True.intro
theorem exec_dr (p : Program) (main b : Bool) (fr : Frame) (callers : List Frame) (dying : Option Dying) (w : World) : GD w.drawn (stepG.exec p main b fr callers dying w) := by
 unfold stepG.exec
 dsimp only
 split
 ·exact leave_dr _ _ _ _ _ _ _ _ _
 ·exact leave_dr _ _ _ _ _ _ _ _ _
 all_goals first
  |exact Nat.le_refl _
  |exact True.intro
  |exact apply_dr _ _ _ _ _ _ _
  |skip
 ·split
  ·exact Nat.le_refl _
  ·exact True.intro
 ·exact GD_elim (leave_dr _ _ _ _ _ _ _ _ _) (fun _ => Nat.le_refl _)
 ·exact GD_elim (leave_dr _ _ _ _ _ _ _ _ _) (fun _ => Nat.le_refl _)
 ·refine GD_after ?_
  split
  ·rename_i h
   exact GD.le (rdT1_ok h) (apply_dr _ _ _ _ _ _ _)
  ·exact True.intro
 ·refine GD_after ?_
  split
  ·rename_i h
   exact rdT1_ok h
  ·rename_i h
   exact rdT1_halt h
  ·exact True.intro
 ·exact GD_elim True.intro (fun _ => apply_dr _ _ _ _ _ _ _)
 ·refine GD_ite (fun _ => Nat.le_refl _) (fun _ => ?_)
  split
  ·rename_i h; exact rd_ok h
  ·exact True.intro
 ·exact GD_ite (fun _ => oper_dr _ _ _ _ _ _) (fun _ => Nat.le_refl _)
theorem stepG_dr (p : Program) (main b : Bool) (g : Goroutine) (w : World) : GD w.drawn (stepG p main g w b) := by
 unfold stepG
 dsimp only
 split
 ·exact die_dr _ _ _ _
 ·exact exec_dr _ _ _ _ _ _ _
 ·exact unwind_dr _ _ _ _ _ _
def SD (d : Nat) : Stepped → Prop
 |.next m => d ≤ m.world.drawn
 |.ended _ _ => True
theorem SD.le {c d : Nat} (h : c ≤ d) : ∀ {s : Stepped}, SD d s → SD c s
 |.next _, k => Nat.le_trans h k
 |.ended _ _, _ => True.intro
theorem waitingAt_dr {rest : Rest} {cases : Array CommCase} {w w' : World} (h : waitingAt rest cases w = some w') : w.drawn ≤ w'.drawn := by
 unfold waitingAt at h
 split at h
 ·split at h
  ·cases h; exact Nat.le_refl _
  ·cases h
 ·cases h; exact Nat.le_refl _
theorem SD_ite {c : Prop} [Decidable c] {d : Nat} {a b : Stepped × Array MemOp} (h1 : c → SD d a.1) (h2 : ¬ c → SD d b.1) : SD d (if c then a else b).1 := by
 split
 ·exact h1 (by assumption)
 ·exact h2 (by assumption)
theorem SD_ite' {c : Prop} [Decidable c] {d : Nat} {a b : Stepped} (h1 : c → SD d a) (h2 : ¬ c → SD d b) : SD d (if c then a else b) := by
 split
 ·exact h1 (by assumption)
 ·exact h2 (by assumption)
theorem SD_throw {d : Nat} {fr : Frame} {s : String} {w w' : World} {g : Goroutine} {es : Array Event} (h : d ≤ w.drawn) (h2 : endThrow fr s w = .go g w' es) : d ≤ w'.drawn := by
 have h3 := endThrow_dr fr s w
 rw [h2] at h3
 exact Nat.le_trans h h3
theorem communicate_dr (p : Program) (rest : Rest) (gs : Array Goroutine) (i : Nat) (g : Goroutine) (cases : Array CommCase) (blocking : Bool) (shape : CommShape) (w : World) : SD w.drawn (communicate p rest gs i g cases blocking shape w).1 := by
 unfold communicate
 dsimp only
 refine SD_ite (fun _ => True.intro) (fun _ => ?_)
 refine SD_ite (fun _ => ?_) (fun _ => ?_)
 ·refine SD_ite (fun _ => ?_) (fun _ => Nat.le_refl _)
  split
  ·rename_i h; exact waitingAt_dr h
  ·exact True.intro
 ·split
  ·exact True.intro
  ·rename_i h
   have hw := rd_ok h
   refine SD.le hw ?_
   clear h
   split
   ·split
    ·rename_i h; exact rd_halt h
    ·exact True.intro
   ·exact Nat.le_refl _
   ·exact Nat.le_refl _
   ·split
    ·exact Nat.le_refl _
    ·split
     ·rename_i h; have h2 := rd_ok h; exact h2
     ·exact True.intro
   ·exact Nat.le_refl _
   ·exact Nat.le_refl _
   ·exact True.intro
theorem look_dr (p : Program) (gs : Array Goroutine) (rest : Rest) (w : World) : SD w.drawn (look p gs rest w) := by
 unfold look
 split
 ·dsimp only
  split
  ·exact True.intro
  ·split
   ·exact True.intro
   ·split
    ·rename_i h; have h2 := rd_ok (w := w) h; exact h2
    ·exact True.intro
    ·exact True.intro
 ·exact True.intro
theorem drain_dr (w : World) (c : Nat) : (drain w c).2.drawn = w.drawn := by
 unfold drain; split <;> rfl
theorem retime_dr (m : Machine) (k : Nat) (t : Timer) (a b : Nat) : (retime m k t a b).2.world.drawn = m.world.drawn := by
 unfold retime
 dsimp only
 split
 ·exact drain_dr _ _
 ·rfl
theorem named_dr {m : Machine} {var : Addr} {f : Nat → Timer → Value × Machine} {v : Value} {m' : Machine} (hf : ∀ k t, (f k t).2.world.drawn = m.world.drawn) (h : timerOp.named m var f = .ok (v, m')) : m'.world.drawn = m.world.drawn := by
 unfold timerOp.named at h
 split at h
 ·simp only [Except.ok.injEq] at h
  have := hf ‹Nat› (m.rest.timers.getD ‹Nat› default)
  rw [h] at this
  exact this
 ·cases h
theorem opened_dr {m m' : Machine} {var : Addr} (h : timerOp.opened m var = some m') : m'.world.drawn = m.world.drawn := by
 unfold timerOp.opened at h
 split at h
 ·split at h
  ·cases h; rfl
  ·cases h
 ·cases h; rfl
theorem timerOp_dr {m m' : Machine} {op : TimerOp} {v : Value} (h : timerOp m op = .ok (v, m')) : m'.world.drawn = m.world.drawn := by
 unfold timerOp at h
 split at h
 ·split at h
  ·simp only [Except.ok.injEq, Prod.mk.injEq] at h
   rw [← h.2]; rfl
  ·split at h
   ·split at h
    ·cases h
    ·simp only [Except.ok.injEq, Prod.mk.injEq] at h
     rw [← h.2]
   ·cases h
 ·exact named_dr (fun k t => retime_dr _ _ _ _ _) h
 ·split at h
  ·rename_i h2
   have e := opened_dr h2
   exact named_dr (fun k t => (retime_dr _ _ _ _ _).trans e) h
  ·cases h
 ·simp only [Except.ok.injEq, Prod.mk.injEq] at h
  rw [← h.2]; rfl
theorem runT_step_dr (p : Program) (m : Machine) (i : Nat) (b : Bool) : SD m.world.drawn (Go.runT p m i b).1 := by
 unfold Go.runT
 dsimp only
 have hg := stepG_dr p (i == 0) b (m.gs.swapAt! i { (default : Goroutine) with status := .finished }).1 m.world
 split <;> (rename_i h; rw [h] at hg) <;> first
  |exact True.intro
  |exact hg
  |exact SD.le hg (communicate_dr _ _ _ _ _ _ _ _ _)
  |exact SD.le hg (look_dr _ _ _ _)
  |skip
 ·exact SD_ite' (fun _ => True.intro) (fun _ => hg)
 ·dsimp only
  split
  ·exact hg
  ·split
   ·rename_i h2
    exact SD_throw hg h2
   ·exact True.intro
  ·exact True.intro
 ·dsimp only
  split
  ·rename_i h2
   have h3 := timerOp_dr h2
   show m.world.drawn ≤ _
   rw [h3]; exact hg
  ·split
   ·rename_i h2
    exact SD_throw hg h2
   ·exact True.intro
  ·exact True.intro
  ·exact True.intro
theorem serve_dr (p : Program) (m : Machine) (k : Nat) : SD m.world.drawn (serve p m k) := by
 unfold serve
 split
 ·exact True.intro
 ·exact Nat.le_refl _
 ·dsimp only
  split
  ·exact True.intro
  ·exact Nat.le_refl _
def MD (d : Nat) : Move → Prop
 |.goroutine m _ => d ≤ m.world.drawn
 |.machine s _ => SD d s
theorem MD.le {c d : Nat} (h : c ≤ d) : ∀ {s : Move}, MD d s → MD c s
 |.goroutine _ _, k => Nat.le_trans h k
 |.machine _ _, k => SD.le h k
theorem pick_dr (p : Program) (m : Machine) (rs : List Nat) : MD m.world.drawn (match (choose (.sched rs.length)).run p m.world with
   |.halt _ w => .machine (.ended (.stuck "sched" "") w)
   |.ok k world =>
    if rs.length ≤ 1 then .goroutine { m with world } (rs.getD k 0) else
    match (choose (.extern "sched.slice" 65536)).run p world with
    |.halt _ w => .machine (.ended (.stuck "sched.slice" "") w)
    |.ok n world => .goroutine { m with world, rest := { m.rest with slice := if n = 0 then none else some (rs.getD k 0, n) } } (rs.getD k 0)) := by
 split
 ·exact True.intro
 ·rename_i h
  have h1 := rd_ok h
  split
  ·exact h1
  ·split
   ·exact True.intro
   ·rename_i h
    have h2 := rd_ok h
    exact Nat.le_trans h1 h2
theorem askOn_dr (p : Program) (m : Machine) : MD m.world.drawn (askOn p m) := by
 unfold askOn
 dsimp only
 split
 ·exact True.intro
 ·rename_i h
  have h1 := rd_ok h
  split
  ·exact SD.le h1 (serve_dr p _ _)
  ·split
   ·split
    ·exact h1
    ·split
     ·exact h1
     ·split <;> exact True.intro
   ·split
    ·exact MD.le h1 (pick_dr p { m with world := _ } _)
    ·split
     ·exact True.intro
     ·rename_i h
      have h2 := rd_ok h
      exact MD.le (Nat.le_trans h1 h2) (pick_dr p { m with world := _ } _)
     ·rename_i h
      have h2 := rd_ok h
      exact Nat.le_trans h1 h2
     ·rename_i h
      have h2 := rd_ok h
      exact MD.le (Nat.le_trans h1 h2) (pick_dr p (Machine.advanceTo { m with world := _ } _) _)
theorem ask_dr' (p : Program) (m : Machine) : MD m.world.drawn (ask p m) := by
 unfold Go.ask
 split
 ·split
  ·exact True.intro
  ·rename_i h
   have h1 := rd_ok h
   split
   ·rename_i h2
    have h3 := look_dr p m.gs m.rest ‹World›
    rw [h2] at h3
    exact MD.le (Nat.le_trans h1 h3) (askOn_dr p _)
   ·exact SD.le h1 (look_dr p _ _ _)
  ·rename_i h
   have h1 := rd_ok h
   exact MD.le h1 (askOn_dr p { m with world := _ })
 ·exact askOn_dr p m
theorem move_dr (p : Program) (m : Machine) : MD m.world.drawn (move p m) := by
 unfold move
 split
 ·split
  ·exact Nat.le_refl _
  ·exact True.intro
 ·split
  ·split
   ·exact Nat.le_refl _
   ·exact ask_dr' p { m with rest := _ }
  ·exact ask_dr' p m
theorem step_dr {p : Program} {m m' : Machine} (h : step p m = .next m') : m.world.drawn ≤ m'.world.drawn := by
 have h1 : SD m.world.drawn (step p m) := by
  unfold step stepT
  have hm := move_dr p m
  split
  ·rename_i h2
   rw [h2] at hm
   exact SD.le hm (runT_step_dr p _ _ _)
  ·rename_i h2
   rw [h2] at hm
   exact hm
 rw [h] at h1
 exact h1
theorem steps_dr {p : Program} {m m' : Machine} (h : Steps p m m') : m.world.drawn ≤ m'.world.drawn := by
 obtain ⟨n, hn⟩ := h
 induction n generalizing m with
 |zero => simp [runN] at hn; rw [hn]; exact Nat.le_refl _
 |succ n ih =>
  simp only [runN] at hn
  cases hs : step p m with
  |next m1 => rw [hs] at hn; exact Nat.le_trans (step_dr hs) (ih hn)
  |ended o w => rw [hs] at hn; simp at hn
theorem calls_dr {P : Program} {f : FuncId} {args : Array Value} {w : World} {R : Ending → World → Prop} (h : Calls P f args w R) (hR : ∀ e w', R e w' → e ≠ .outgrown) : Calls P f args w (fun e w' => R e w' ∧ w.drawn ≤ w'.drawn) := by
 intro cs
 obtain ⟨e, w', fr, h1, h2, h3, h4⟩ := h cs
 refine ⟨e, w', fr, ⟨h1, ?_⟩, h2, h3, h4⟩
 have : Steps P (lone (Frame.enter P f args .normal) cs w) (lone fr cs w') := by
  cases e with
  |returned v => exact h2
  |panicked c => exact h2
  |outgrown => exact absurd rfl (hR _ _ h1)
 exact steps_dr this
end Go.Vdr
namespace Go.Proofs.YtgepmbjmaljgoaaGreatDoor.H
open Go Go.Vc Go.RowKit Go.Sort Go.Na
set_option maxHeartbeats 1000000
theorem rsg_neg {q : Rat} : rsg q < 0 ↔ q < 0 := by
 have h := @Rat.num_nonneg q
 unfold rsg
 split
 ·grind
 ·split <;> grind
theorem rsg_zero {q : Rat} : rsg q = 0 ↔ q = 0 := by
 unfold rsg
 rw [← Rat.num_eq_zero]
 split
 ·simp [*]
 ·split <;> simp [*]
structure Raw where
 k : Int
 A : Rat
 B : Rat
 C : Rat
 p : Option Addr
 n : Nat
 c : Nat
 hA : LR 400 A
 hB : LR 400 B
 hC : LR 400 C
theorem LR0' : LR 400 0 := ⟨.small (by decide) (by decide), .small (by decide) (by decide)⟩
instance : Inhabited Raw := ⟨⟨0, 0, 0, 0, none, 0, 0, LR0', LR0', LR0'⟩⟩
def encR (x : Raw) : List Value := [.int .i64 x.k, .string (bs (rtx x.A)), .string (bs (rtx x.B)), .string (bs (rtx x.C)), .slice x.p x.n x.c]
def cfR (x y : Raw) : Int := cmp3 (rsg (x.A - y.A)) (rsg (x.B - y.B)) (rsg (x.C - y.C))
def lt3 (A B C A' B' C' : Rat) : Prop := A < A' ∨ A = A' ∧ (B < B' ∨ B = B' ∧ C < C')
instance (A B C A' B' C' : Rat) : Decidable (lt3 A B C A' B' C') := by unfold lt3; infer_instance
theorem cmp3_lt (A B C A' B' C' : Rat) : cmp3 (rsg (A - A')) (rsg (B - B')) (rsg (C - C')) < 0 ↔ lt3 A B C A' B' C' := by
 have a1 : rsg (A - A') < 0 ↔ A < A' := by rw [rsg_neg]; grind
 have a2 : rsg (A - A') = 0 ↔ A = A' := by rw [rsg_zero]; grind
 have b1 : rsg (B - B') < 0 ↔ B < B' := by rw [rsg_neg]; grind
 have b2 : rsg (B - B') = 0 ↔ B = B' := by rw [rsg_zero]; grind
 have c1 : rsg (C - C') < 0 ↔ C < C' := by rw [rsg_neg]; grind
 have c2 : rsg (C - C') = 0 ↔ C = C' := by rw [rsg_zero]; grind
 generalize rsg (A - A') = a at *
 generalize rsg (B - B') = b at *
 generalize rsg (C - C') = c at *
 unfold cmp3 lt3
 by_cases ha : a = 0
 ·rw [if_neg (fun h => h ha)]
  by_cases hb : b = 0
  ·rw [if_neg (fun h => h hb)]
   by_cases hc : c = 0
   ·rw [if_neg (fun h => h hc)]
    have := a2.1 ha; have := b2.1 hb; have := c2.1 hc
    subst_vars
    grind
   ·rw [if_pos hc]
    have := a2.1 ha; have := b2.1 hb
    grind
  ·rw [if_pos hb]
   have := a2.1 ha
   grind
 ·rw [if_pos ha]
  grind
theorem cmp3_eq (A B C A' B' C' : Rat) : cmp3 (rsg (A - A')) (rsg (B - B')) (rsg (C - C')) = 0 ↔ A = A' ∧ B = B' ∧ C = C' := by
 have a2 : rsg (A - A') = 0 ↔ A = A' := by rw [rsg_zero]; grind
 have b2 : rsg (B - B') = 0 ↔ B = B' := by rw [rsg_zero]; grind
 have c2 : rsg (C - C') = 0 ↔ C = C' := by rw [rsg_zero]; grind
 rw [← a2, ← b2, ← c2]
 unfold cmp3
 split
 ·omega
 ·split
  ·omega
  ·split <;> omega
theorem ltR (x y : Raw) : ltOf cfR x y = decide (lt3 x.A x.B x.C y.A y.B y.C) := by
 unfold ltOf cfR
 rw [Bool.eq_iff_iff, decide_eq_true_eq, decide_eq_true_eq]
 exact cmp3_lt _ _ _ _ _ _
theorem swoR : SWO (ltOf cfR) := ⟨fun x => by rw [ltR]; simp [lt3], fun x y z h1 h2 => by rw [ltR, decide_eq_true_eq] at *; unfold lt3 at *; grind, fun x y z h1 h2 => by rw [ltR, decide_eq_false_iff_not] at *; unfold lt3 at *; grind⟩
theorem grow_of {W w' : World} (h : Below W.heap.size W w') (hd : W.drawn ≤ w'.drawn) : ∃ q os', w' = grow (W.drewN q) os' := by
 refine ⟨w'.drawn - W.drawn, w'.heap.extract W.heap.size w'.heap.size, ?_⟩
 obtain ⟨hp, tp, dr, os, out⟩ := w'
 obtain ⟨h1, h2, h3, h4, h5⟩ := h
 dsimp only at *
 subst h1 h2 h3
 simp only [grow, World.drewN, World.mk.injEq]
 refine ⟨?_, trivial, by omega, trivial, trivial⟩
 apply Array.ext_getElem?
 intro k
 by_cases hk : k < W.heap.size
 ·rw [h5 k hk, Array.getElem?_append_left hk]
 ·rw [Array.getElem?_append_right (by omega), Array.getElem?_extract]
  by_cases h6 : k < hp.size
  ·rw [if_pos (by simp; omega), show W.heap.size + (k - W.heap.size) = k by omega]
  ·rw [if_neg (by simp; omega), Array.getElem?_eq_none (by omega)]
theorem cmp_lays (x y : Raw) {W : World} {Z : Zone} (hZ : ZOk Z W) : Calls Tryz.prog 97 #[.agg (encR x).toArray, .agg (encR y).toArray] W fun e w' => e = .returned (.int .i64 (cfR x y)) ∧ ∃ q os', w' = grow (W.drewN q) os' := by
 have hc := compare_c x.k y.k x.A x.B x.C y.A y.B y.C (.val (.slice x.p x.n x.c)) (.val (.slice y.p y.n y.c)) x.hA x.hB x.hC y.hA y.hB y.hC
 have hv : ∀ x : Raw, (pA x.k (rtx x.A) (rtx x.B) (rtx x.C) (.val (.slice x.p x.n x.c))).ok Z W (.agg (encR x).toArray) := by
  intro x
  refine ⟨encR x, rfl, rfl, fun i hi => ?_⟩
  rcases (by omega : i = 0 ∨ i = 1 ∨ i = 2 ∨ i = 3 ∨ i = 4) with rfl | rfl | rfl | rfl | rfl <;> exact ⟨_, rfl, rfl⟩
 have h := Go.Vdr.calls_dr (hc.calls W Z [.agg (encR x).toArray, .agg (encR y).toArray] hZ ⟨hv x, hv y, trivial⟩) (fun e w' ⟨v, Z', he, _⟩ => by rw [he]; simp)
 refine h.mono ?_
 rintro e w' ⟨⟨v, Z', rfl, hb, _, _, _, hr⟩, hd⟩
 exact ⟨by rw [show v = .int .i64 (cfR x y) from hr], grow_of hb hd⟩
def leP (a b : Pl) : Bool := !decide (lt3 b.A b.B b.C a.A a.B a.C)
def srtP (L : List Pl) : List Pl := L.mergeSort leP
theorem leP_tr : ∀ a b c : Pl, leP a b = true → leP b c = true → leP a c = true := fun a b c h1 h2 => by
 unfold leP at *
 rw [Bool.not_eq_true', decide_eq_false_iff_not] at *
 unfold lt3 at *
 grind
theorem leP_to : ∀ a b : Pl, (leP a b || leP b a) = true := fun a b => by
 unfold leP
 rw [Bool.or_eq_true, Bool.not_eq_true', Bool.not_eq_true', decide_eq_false_iff_not, decide_eq_false_iff_not]
 unfold lt3
 grind
theorem srtP_of {L L' : List Pl} (hu : ∀ f ∈ L, ∀ g ∈ L, eqP f g → f = g) (hp : L'.Perm L) (hs : L'.Pairwise (fun a b => leP a b = true)) : L' = srtP L := by
 refine List.Perm.eq_of_pairwise (le := fun a b => leP a b = true) (fun a b ha hb h1 h2 => ?_) hs (List.pairwise_mergeSort leP_tr leP_to L) (hp.trans (List.mergeSort_perm L _).symm)
 refine hu a (hp.mem_iff.1 ha) b ((List.mergeSort_perm L _).mem_iff.1 hb) ?_
 unfold leP at h1 h2
 rw [Bool.not_eq_true', decide_eq_false_iff_not] at h1 h2
 unfold lt3 at h1 h2
 unfold eqP
 grind
theorem all2_perm {α β : Type} {R : α → β → Prop} {xs ys : List β} (h : xs.Perm ys) : ∀ {L : List α}, All2 R L xs → ∃ L', L'.Perm L ∧ All2 R L' ys := by
 induction h with
 |nil => intro L hL; exact ⟨L, List.Perm.refl _, hL⟩
 |cons x _ ih =>
  intro L hL
  match L, hL with
  |a :: L, hL =>
   obtain ⟨L', h1, h2⟩ := ih hL.2
   exact ⟨a :: L', h1.cons a, hL.1, h2⟩
 |swap x y l =>
  intro L hL
  match L, hL with
  |a :: b :: L, hL => exact ⟨b :: a :: L, List.Perm.swap _ _ _, hL.2.1, hL.1, hL.2.2⟩
 |trans _ _ ih1 ih2 =>
  intro L hL
  obtain ⟨L1, p1, h1⟩ := ih1 hL
  obtain ⟨L2, p2, h2⟩ := ih2 h1
  exact ⟨L2, p2.trans p1, h2⟩
theorem all2_get {α β : Type} {R : α → β → Prop} : ∀ {L : List α} {xs : List β} {i : Nat} {a : α} {x : β}, All2 R L xs → L[i]? = some a → xs[i]? = some x → R a x
 |_ :: _, _ :: _, 0, _, _, h, h1, h2 => by simp at h1 h2; subst h1 h2; exact h.1
 |_ :: _, _ :: _, i + 1, _, _, h, h1, h2 => all2_get (i := i) h.2 (by simpa using h1) (by simpa using h2)
def gP (L : List Pl) (i : Nat) : Pl := L.getD i default
def pf5 (k : Int) (L : List Pl) : Nat → Nat → AV := fun i => pAf k (rtx (gP L i).A) (rtx (gP L i).B) (rtx (gP L i).C) (idx (gP L i).s)
def RF (k : Int) (Z : Zone) (w : World) (f : Pl) (x : Raw) : Prop := x.k = k ∧ x.A = f.A ∧ x.B = f.B ∧ x.C = f.C ∧ AV.ok Z w (idx f.s) (.slice x.p x.n x.c)
theorem isAgg42 (w : World) : (isAgg 42).run Tryz.prog w = .ok true w := by kernel_rfl
theorem size42 (w : World) : (Go.sizeOf 42).run Tryz.prog w = .ok 5 w := by kernel_rfl
theorem encR_cell (k : Int) (x : Raw) (f : Pl) {Z : Zone} {w : World} (h : RF k Z w f x) : ∀ j, j < 5 → (pAf k (rtx f.A) (rtx f.B) (rtx f.C) (idx f.s) j).ok Z w ((encR x)[j]!) := by
 obtain ⟨h0, h1, h2, h3, h4⟩ := h
 intro j hj
 rcases (by omega : j = 0 ∨ j = 1 ∨ j = 2 ∨ j = 3 ∨ j = 4) with rfl | rfl | rfl | rfl | rfl
 ·show Value.int .i64 x.k = .int .i64 k; rw [h0]
 ·show Value.string (bs (rtx x.A)) = _; rw [h1]
 ·show Value.string (bs (rtx x.B)) = _; rw [h2]
 ·show Value.string (bs (rtx x.C)) = _; rw [h3]
 ·exact h4
structure PLR (P : Pl) : Prop where
 a : LR 400 P.A
 b : LR 400 P.B
 c : LR 400 P.C
theorem raws_of {k : Int} {Z : Zone} {w : World} {arr : Array Value} {L : List Pl} (hL : ∀ p ∈ L, PLR p) (h : ∀ i, i < L.length → ∀ j, j < 5 → ∃ u, arr[i * 5 + j]? = some u ∧ (pf5 k L i j).ok Z w u) :
  ∃ xs : List Raw, All2 (RF k Z w) L xs ∧ ∀ i x, xs[i]? = some x → ∀ j, j < 5 → arr[i * 5 + j]? = some ((encR x)[j]!) := by
 have key : ∀ (n : Nat) (L : List Pl) (o : Nat), L.length = n → (∀ p ∈ L, PLR p) → (∀ i, i < L.length → ∀ j, j < 5 → ∃ u, arr[o + i * 5 + j]? = some u ∧ (pf5 k L i j).ok Z w u) →
   ∃ xs : List Raw, All2 (RF k Z w) L xs ∧ ∀ i x, xs[i]? = some x → ∀ j, j < 5 → arr[o + i * 5 + j]? = some ((encR x)[j]!) := by
  intro n
  induction n with
  |zero => intro L o hn _ _; rw [List.length_eq_zero_iff.1 hn]; exact ⟨[], trivial, fun i x hx => by simp at hx⟩
  |succ n ih =>
   intro L o hn hLR hL
   match L, hn with
   |f :: L, hn =>
    obtain ⟨xs, a1, a2⟩ := ih L (o + 5) (by simpa using hn) (fun p hp => hLR p (by simp [hp])) (fun i hi j hj => by
     have := hL (i + 1) (by simpa using hi) j hj
     rw [show o + (i + 1) * 5 + j = o + 5 + i * 5 + j from by omega] at this
     exact this)
    obtain ⟨u0, b0, k0⟩ := hL 0 (by simp) 0 (by omega)
    obtain ⟨u1, b1, k1⟩ := hL 0 (by simp) 1 (by omega)
    obtain ⟨u2, b2, k2⟩ := hL 0 (by simp) 2 (by omega)
    obtain ⟨u3, b3, k3⟩ := hL 0 (by simp) 3 (by omega)
    obtain ⟨u4, b4, k4⟩ := hL 0 (by simp) 4 (by omega)
    have k4' := k4
    obtain ⟨p, c, rfl, _⟩ := k4'
    obtain rfl : u0 = .int .i64 k := k0
    obtain rfl : u1 = .string (bs (rtx f.A)) := k1
    obtain rfl : u2 = .string (bs (rtx f.B)) := k2
    obtain rfl : u3 = .string (bs (rtx f.C)) := k3
    have hf := hLR f (by simp)
    refine ⟨⟨k, f.A, f.B, f.C, p, f.s.length, c, hf.a, hf.b, hf.c⟩ :: xs, ⟨⟨rfl, rfl, rfl, rfl, k4⟩, a1⟩, fun i x hx j hj => ?_⟩
    cases i with
    |zero =>
     simp only [List.getElem?_cons_zero, Option.some.injEq] at hx
     subst hx
     rcases (by omega : j = 0 ∨ j = 1 ∨ j = 2 ∨ j = 3 ∨ j = 4) with rfl | rfl | rfl | rfl | rfl
     ·exact b0
     ·exact b1
     ·exact b2
     ·exact b3
     ·exact b4
    |succ i =>
     have := a2 i x (by simpa using hx) j hj
     rw [show o + (i + 1) * 5 + j = o + 5 + i * 5 + j from by omega]
     exact this
 obtain ⟨xs, a1, a2⟩ := key L.length L 0 rfl hL (fun i hi j hj => by rw [Nat.zero_add]; exact h i hi j hj)
 exact ⟨xs, a1, fun i x hx j hj => by have := a2 i x hx j hj; rwa [Nat.zero_add] at this⟩
theorem all2_len' {α β : Type} {R : α → β → Prop} {L : List α} {xs : List β} (h : All2 R L xs) : L.length = xs.length := by
 have := h.len
 omega
theorem lk5 {i j n : Nat} (hi : i < n) (hj : j < 5) : i * 5 + j < n * 5 := by omega
theorem sort_zok {enc : Raw → List Value} {w : World} {Z : Zone} {b m : Nat} {dk : Array Raw} {os : Array Obj} (hZ : ZOk Z w) (hb : b < w.heap.size) (hnz : ¬ Z b) : ZOk Z (sortWorldK enc 5 w b 0 m dk os) := by
 have hsz : w.heap.size ≤ (sortWorldK enc 5 w b 0 m dk os).heap.size := by simp [sortWorldK, grow, putRowK, putRow, mapBlock, Sort.ahead]
 refine hZ.next (fun _ h => h) hsz (fun k hk hlt => ?_) (fun k hk => Nat.lt_of_lt_of_le (hZ.1 k hk) hsz)
 unfold sortWorldK putRowK
 rw [heap_grow_old _ _ (by simpa using hlt)]
 have : b ≠ k := fun e => hnz (by rw [e]; exact hk)
 simp [putRow, mapBlock, Sort.ahead, Array.getElem?_modify, this]
theorem sortf_c (k : Int) (L : List Pl) (hL : ∀ p ∈ L, PLR p) (hu : ∀ f ∈ L, ∀ g ∈ L, eqP f g → f = g) (hn : L.length ≤ 1000000) : CtrW Tryz.prog 96 [.val (.func (.func 97) #[] #[])] 42 5 L.length (pf5 k L) L.length (pf5 k (srtP L)) false := by
 refine ⟨entersM Tryz.func96 rfl rfl, fun w Z v vs hZ hvs hrow => ?_⟩
 match vs, hvs with
 |[fv], ⟨h1, _⟩ =>
  obtain rfl : fv = .func (.func 97) #[] #[] := h1
  by_cases h0 : L.length = 0
  ·have hl : L = [] := List.eq_nil_of_length_eq_zero h0
   subst hl
   have hv : ∃ p cap, v = .slice p 0 cap := by
    rcases hrow with ⟨e, _⟩ | ⟨b, cap, arr, e, _⟩
    ·exact ⟨none, 0, e⟩
    ·exact ⟨_, cap, e⟩
   obtain ⟨p, cap, rfl⟩ := hv
   refine (show Calls Tryz.prog 96 #[.slice p 0 cap, .func (.func 97) #[] #[]] w _ from AnyF.slices_SortFunc_none Tryz.laysSlF06_f96 p cap (.func (.func 97) #[] #[]) w).mono ?_
   rintro e w' ⟨rfl, rfl⟩
   exact ⟨_, _, Z, rfl, rfl, ⟨rfl, rfl, rfl, Nat.le_refl _, fun _ _ _ => rfl⟩, fun _ h => h, fun _ h => .inl h, hZ.1, fun b hb => .inl hb, by
    rcases hrow with ⟨e, _⟩ | ⟨b, cap, arr, e, h2, h3, h4, h5, h6, h7⟩
    ·exact .inl ⟨e, rfl⟩
    ·exact .inr ⟨b, cap, arr, e, h2, h3, h4, h5, h6, fun i hi => by simp at hi⟩⟩
  ·rcases hrow with ⟨_, e⟩ | ⟨b, cap, arr, rfl, h2, h3, h4, h5, h6, h7⟩
   ·exact absurd e h0
   ·have hb := (Array.getElem?_eq_some_iff.1 h3).1
    obtain ⟨xs, hx, hcell⟩ := raws_of hL h7
    have hxl := all2_len' hx
    have hH : HoldsK encR 5 w b 0 xs.toArray := by
     intro t ht
     have ht' : t < xs.length * 5 := by simpa using ht
     refine ⟨?_, by simp [World.frozen?, h3]⟩
     have hq : t = t / 5 * 5 + t % 5 := by omega
     have htl : t / 5 < xs.length := by omega
     have hc := hcell (t / 5) xs[t / 5] (List.getElem?_eq_getElem htl) (t % 5) (Nat.mod_lt _ zO)
     rw [get_flatK _ _ _ t (by simpa using ht'), Nat.zero_add]
     simp only [World.cell?, h3]
     rw [← hq] at hc
     have e : xs.toArray[t / 5]! = xs[t / 5] := by
      rw [getElem!_pos xs.toArray (t / 5) (by simp; omega)]
      simp
     rw [e]
     simpa using hc
    have hcmp : CmpLays Tryz.prog 97 #[] encR 5 cfR b 0 xs.toArray.size w := fun m os dk _ x y =>
     cmp_lays x y (sort_zok hZ hb h2)
    have hrun := AnyQ.slices_SortFunc (α := Raw) Tryz.laysSlF06_f96 5 isAgg42 size42 encR (fun _ => rfl) (fun x v hv => by
     simp only [encR, List.mem_cons, List.not_mem_nil, or_false] at hv
     rcases hv with rfl | rfl | rfl | rfl | rfl <;> rfl) cfR swoR 97 #[] b 0 cap xs.toArray w (entersM Tryz.func97 rfl rfl) hcmp hH hb (by simp; omega)
    rw [List.size_toArray] at hrun
    have hrun2 : Calls Tryz.prog 96 #[.slice (some ⟨b, 0, none⟩) L.length cap, .func (.func 97) #[] #[]] w fun e w' => e = .returned (.tuple #[]) ∧ ∃ d' n os, PermIn 0 xs.length xs.toArray d' ∧ SortedIn (ltOf cfR) 0 xs.length d' ∧ w' = sortWorldK encR 5 w b 0 n d' os := by
     rw [hxl]
     exact hrun
    refine Calls.mono hrun2 ?_
    rintro e w' ⟨rfl, d', n, os, hp, hs, rfl⟩
    have hsz : d'.size = xs.length := by have := hp.1; simpa using this
    have hperm : d'.toList.Perm xs := by
     have := hp.2.2
     simp [hsz] at this
     rwa [List.take_of_length_le (by simp [hsz])] at this
    obtain ⟨L', hL1, hL2⟩ := all2_perm hperm.symm hx
    have hL3 : L'.Pairwise (fun a b => leP a b = true) := by
     rw [List.pairwise_iff_getElem]
     intro i j hi hj hij
     have hl2 := all2_len' hL2
     have hjd : j < d'.size := by simp at hl2; omega
     have h := hs i j (Nat.zero_le _) hij (by rw [← hsz]; exact hjd)
     rw [getElem!_pos d' j hjd, getElem!_pos d' i (by omega), ltR, decide_eq_false_iff_not] at h
     have r1 := all2_get hL2 (List.getElem?_eq_getElem hi) (List.getElem?_eq_getElem (by simp at hl2 ⊢; omega))
     have r2 := all2_get hL2 (List.getElem?_eq_getElem hj) (List.getElem?_eq_getElem (by simp at hl2 ⊢; omega))
     simp only [Array.getElem_toList] at r1 r2
     rw [r1.2.1, r1.2.2.1, r1.2.2.2.1, r2.2.1, r2.2.2.1, r2.2.2.2.1] at h
     unfold leP
     rw [Bool.not_eq_true', decide_eq_false_iff_not]
     exact h
    have hd' := srtP_of hu hL1 hL3
    subst hd'
    have hheap : (sortWorldK encR 5 w b 0 n d' os).heap[b]? = some (.cells (putCells id 0 (flatK encR 5 d') arr) 42 (0, 0)) := by
     unfold sortWorldK putRowK
     rw [heap_grow_old _ _ (by simpa [putRow, mapBlock, Sort.ahead] using hb)]
     simp [putRow, mapBlock, Sort.ahead, Array.getElem?_modify, h3, onCells]
    have hgr : w.grownBy (sortWorldK encR 5 w b 0 n d' os) (some b) := by
     unfold sortWorldK putRowK
     refine ⟨rfl, rfl, rfl, by simp, fun k hk hne => ?_⟩
     rw [heap_grow_old _ _ (by simpa using hk)]
     have : b ≠ k := fun e => hne (by rw [e])
     simp [putRow, mapBlock, Sort.ahead, Array.getElem?_modify, this]
    refine ⟨_, _, Z, rfl, rfl, hgr, fun _ h => h, fun _ h => .inl h, fun k hk => Nat.lt_of_lt_of_le (hZ.1 k hk) hgr.size, fun b hb => .inl hb, .inr ⟨b, cap, _, rfl, h2, hheap, h4, h5, by simp [putCells, h6], fun i hi j hj => ?_⟩⟩
    have hlt := lk5 hi hj
    have hal : i * 5 + j < arr.size := by rw [h6]; have := lk5 (Nat.lt_of_lt_of_le hi h4) hj; exact this
    have hl2 := all2_len' hL2
    have hid : i < d'.size := by simp at hl2; have := hL1.length_eq; omega
    have hiL : i < (srtP L).length := by have := hL1.length_eq; omega
    have hRF := all2_get hL2 (List.getElem?_eq_getElem hiL) (List.getElem?_eq_getElem (by simpa using hid))
    have hgf : (srtP L)[i] = gP (srtP L) i := by unfold gP; simp [List.getD, hiL]
    rw [hgf, Array.getElem_toList] at hRF
    have hRF2 : RF k Z (sortWorldK encR 5 w b 0 n d' os) (gP (srtP L) i) d'[i] := ⟨hRF.1, hRF.2.1, hRF.2.2.1, hRF.2.2.2.1, AV.ok_mono (fun _ q => q) hgr.size (fun k q hk => hgr.block k hk (fun e => by cases e; exact h2 q)) _ _ hRF.2.2.2.2⟩
    refine ⟨(encR d'[i])[j]!, ?_, encR_cell _ _ _ hRF2 j hj⟩
    have hf := get_flatK encR 5 d' (i * 5 + j) zO
    have e1 : (i * 5 + j) / 5 = i := by omega
    have e2 : (i * 5 + j) % 5 = j := by omega
    rw [e1, e2, getElem!_pos d' i hid] at hf
    simp only [putCells]
    rw [Array.getElem?_mapIdx, Array.getElem?_eq_getElem hal]
    simp only [Option.map_some]
    rw [if_pos ⟨Nat.zero_le _, by simp; omega⟩]
    simpa using hf
end Go.Proofs.YtgepmbjmaljgoaaGreatDoor.H
namespace Go.Proofs.YtgepmbjmaljgoaaGreatDoor.H
open Go Go.Vc Go.RowKit Go.Na
set_option maxHeartbeats 4000000
theorem ceq (P Q : Pl) : (cmp3 (rsg (P.A - Q.A)) (rsg (P.B - Q.B)) (rsg (P.C - Q.C)) == 0) = decide (eqP P Q) := by
 rw [Bool.eq_iff_iff, decide_eq_true_eq, beq_iff_eq, cmp3_eq]
 rfl
theorem eqf_c (k1 k2 : Int) (P Q : Pl) (hP : PLR P) (hQ : PLR Q) : CtrA Tryz.prog 99 [pR k1 P, pR k2 Q] (vb (decide (eqP P Q))) := by
 have hc := compare_c k1 k2 P.A P.B P.C Q.A Q.B Q.C (idx P.s) (idx Q.s) hP.a hP.b hP.c hQ.a hQ.b hQ.c
 refine ctrA _ Tryz.func99 rfl rfl Tryz.ntmps99 rfl fun w Z => ?_
 refine zU ?_
 refine wt ?_
 refine sq_g (g_load_aggv rfl rfl) rfl ?_
 refine wt ?_
 refine sq_g (g_load_aggv rfl rfl) rfl ?_
 refine wt ?_
 exact sq_res1 rfl (.tmp rfl) (congrArg vb (ceq P Q))
abbrev eqv : AV := .val (.func (.func 99) #[] #[])
def cptPF (L : List Pl) (i : Nat) : Bool := decide (i = 0) || decide (¬ eqP (gP L i) (gP L (i - 1)))
def cptToF (L : List Pl) (m : Nat) : List Pl := ((List.range m).filter (cptPF L)).map (gP L)
def cptPl (L : List Pl) : List Pl := cptToF L L.length
theorem cptToF_succ (L : List Pl) (m : Nat) : cptToF L (m + 1) = if cptPF L m = true then cptToF L m ++ [gP L m] else cptToF L m := by
 simp only [cptToF, List.range_succ, List.filter_append, List.map_append]
 split <;> rename_i h <;> simp [List.filter, h]
theorem cptToF_len (L : List Pl) (m : Nat) : (cptToF L m).length ≤ m := by
 have := List.length_filter_le (cptPF L) (List.range m)
 simpa [cptToF] using this
theorem gP_eq {L : List Pl} {i : Nat} (h : i < L.length) : gP L i = L[i] := by simp [gP, h]
theorem gP_mem {L : List Pl} {i : Nat} (h : i < L.length) : gP L i ∈ L := by rw [gP_eq h]; exact List.getElem_mem h
theorem gP_take (L : List Pl) (m k : Nat) : gP (L.take m) k = if k < m then gP L k else default := by
 simp only [gP, List.getD, List.getElem?_take]
 split <;> rfl
theorem cptToF_all (L : List Pl) : ∀ (m : Nat), m ≤ L.length → (∀ i, i < m → cptPF L i = true) → cptToF L m = L.take m
 |0, _, _ => rfl
 |m + 1, hm, h => by
  rw [cptToF_succ, if_pos (h m (by omega)), cptToF_all L m (by omega) (fun i hi => h i (by omega)), List.take_succ_eq_append_getElem (by omega), gP_eq (by omega)]
theorem cptP_short {L : List Pl} (h : L.length < 2) : cptPl L = L := by
 rw [cptPl, cptToF_all L _ (Nat.le_refl _) (fun i hi => by simp [cptPF, show i = 0 by omega]), List.take_length]
theorem gP_set (L : List Pl) (i : Nat) (x : Pl) (k : Nat) : gP (L.set i x) k = if i = k ∧ k < L.length then x else gP L k := by
 simp only [gP, List.getD, List.getElem?_set]
 by_cases h : i = k
 ·subst h
  by_cases h2 : i < L.length
  ·simp [h2]
  ·simp [h2]
 ·simp [h]
theorem gP_app (L : List Pl) (x : Pl) (k : Nat) : gP (L ++ [x]) k = if k < L.length then gP L k else if k = L.length then x else default := by
 simp only [gP]
 by_cases h : k < L.length
 ·simp [List.getD, List.getElem?_append_left h, h]
 ·by_cases h2 : k = L.length
  ·subst h2; simp [List.getD]
  ·rw [if_neg h, if_neg h2, List.getD, List.getElem?_eq_none (by simp; omega)]; rfl
theorem lt_step {p : Nat → Bool} {n : Nat} (h : ∀ k, k < n → p k = true) (hn : p n = true) : ∀ k, k < n + 1 → p k = true := fun k hk => by
 by_cases e : k = n
 ·subst e; exact hn
 ·exact h k zO
theorem zv42 (w : World) : (zeroValue 42).run Tryz.prog w = .ok (.agg [.int .i64 0, .string (bs []), .string (bs []), .string (bs []), .slice none 0 0].toArray) w := by kernel_rfl
theorem zv42_one : ∀ v ∈ ([.int .i64 0, .string (bs []), .string (bs []), .string (bs []), .slice none 0 0] : List Value), v.oneCell' = true := fun v hv => by
 simp only [List.mem_cons, List.not_mem_nil, or_false] at hv
 rcases hv with rfl | rfl | rfl | rfl | rfl <;> rfl
theorem ff_set {κ : Int} {u : List Pl} {k : Nat} {x : Pl} (hk : k < u.length) : ∀ i, i < u.length → ∀ j, j < 5 → rowSet (pf5 κ u) k 0 ((List.range 5).map (pf5 κ [x] 0)) i j = pf5 κ (u.set k x) i j := by
 intro i hi j hj
 unfold rowSet pf5
 rw [gP_set]
 by_cases h : i = k
 ·subst h
  rw [if_pos ⟨rfl, Nat.zero_le _, by simpa using hj⟩, if_pos ⟨rfl, hk⟩]
  rcases (by omega : j = 0 ∨ j = 1 ∨ j = 2 ∨ j = 3 ∨ j = 4) with rfl | rfl | rfl | rfl | rfl <;> rfl
 ·rw [if_neg (fun e => h e.1), if_neg (fun e => h e.1.symm)]
theorem compactf_c (κ : Int) (v : List Pl) (hv : ∀ p ∈ v, PLR p) (hn : v.length ≤ 1000) :
  CtrW Tryz.prog 98 [eqv] 42 5 v.length (pf5 κ v) (cptPl v).length (pf5 κ (cptPl v)) true := by
 refine ctrW _ Tryz.func98 rfl rfl Tryz.ntmps98 rfl fun w Z v0 => ?_
 refine zU ?_
 refine wt ?_
 (refine cq_cond rfl ?_ ?_ <;> intro hb <;> (try simp only [zA, zB, zG, zC, zD, zN] at hb) <;> (try (exfalso; omega)))
 ·refine wt ?_
  exact sq_retWb rfl rfl rfl (by rw [cptP_short (by omega)]) (fun _ _ _ _ => by rw [cptP_short (by omega)])
 ·refine wt ?_
  refine cq_loop (γ := Nat) (fun k => [(0, .osl 0), (1, .av eqv), (5, .av (vi k))]) (fun _ => [(0, .row 42 5 v.length (pf5 κ v))]) (fun k => 1 ≤ k ∧ k ≤ v.length ∧ ∀ i, i < k → cptPF v i = true) (fun k => v.length - k) 1 ⟨by omega, by omega, fun i hi => by simp [cptPF, show i = 0 by omega]⟩ (ent ⟨.refl _, .refl _, .int rfl, trivial⟩ zT) ?_
  rintro k ⟨hk1, hkn, hall⟩
  obtain ⟨k', rfl⟩ : ∃ k', k = k' + 1 := ⟨k - 1, by omega⟩
  refine wt ?_
  (refine cq_cond rfl ?_ ?_ <;> intro hb <;> (try simp only [zA, zB, zG, zC, zD, zN] at hb) <;> (try (exfalso; omega)))
  ·have hq := eqf_c κ κ (gP v (k' + 1)) (gP v k') (hv _ (gP_mem zO)) (hv _ (gP_mem zO))
   refine wt ?_
   refine dq_g (g_load_oel_aggv rfl rfl zO) rfl ?_
   refine wt ?_
   refine dq_g (g_load_oel_aggv rfl rfl zO) rfl ?_
   have e0 : (((k' + 1 : Nat) : Int) - 1).toNat = k' := by omega
   rw [e0]
   refine wt ?_
   (refine cq_cond rfl ?_ ?_ <;> intro hb <;> (try simp only [zA, zB, zG, zC, zD, zN] at hb) <;> (try (exfalso; omega)))
   ·have hK : cptPF v (k' + 1) = false := by simp [cptPF, hb]
    have h1 : cptToF v (k' + 1 + 1) = v.take (k' + 1) := by
     rw [cptToF_succ, hK, if_neg (by simp), cptToF_all v _ (by omega) hall]
    refine wt ?_
    refine cq_loop (γ := List Pl × Nat) (fun g => [(0, .osl 0), (1, .av eqv), (5, .av (vi (cptToF v (k' + 1 + g.2)).length)), (6, .osx 0 5 (k' + 1) (v.length - (k' + 1))), (7, .av (vi g.2))]) (fun g => [(0, .row 42 5 v.length (pf5 κ g.1))])
     (fun g => 1 ≤ g.2 ∧ g.2 ≤ v.length - (k' + 1) ∧ g.1.length = v.length ∧ (cptToF v (k' + 1 + g.2)).length ≤ k' + g.2 ∧ (∀ i, i < (cptToF v (k' + 1 + g.2)).length → gP g.1 i = gP (cptToF v (k' + 1 + g.2)) i) ∧ ∀ i, k' + g.2 ≤ i → gP g.1 i = gP v i) (fun g => v.length - g.2) (v, 1)
     ⟨by simp, by simp; omega, rfl, by simp only [h1]; simp; omega, fun i hi => by simp only [h1] at hi ⊢; rw [gP_take]; simp at hi; rw [if_pos (by omega)], fun i hi => rfl⟩ (ent ⟨.refl _, .refl _, .int (by simp only [h1]; simp; omega), .refl _, .refl _, trivial⟩ zT) ?_
    rintro ⟨u, m⟩ ⟨hm1, hmn, hul, hcl, hu1, hu2⟩
    simp only at hm1 hmn hul hcl hu1 hu2
    obtain ⟨m', rfl⟩ : ∃ m', m = m' + 1 := ⟨m - 1, by omega⟩
    dsimp only
    refine wt ?_
    (refine cq_cond rfl ?_ ?_ <;> intro hb <;> (try simp only [zA, zB, zG, zC, zD, zN] at hb) <;> (try (exfalso; omega)))
    ·have e1 : gP u (k' + 1 + (m' + 1)) = gP v (k' + 1 + (m' + 1)) := hu2 _ zO
     have e2 : gP u (k' + 1 + m') = gP v (k' + 1 + m') := hu2 _ zO
     have e3 : k' + 1 + (m' + 1) - 1 = k' + 1 + m' := by omega
     have hS := cptToF_succ v (k' + 1 + (m' + 1))
     have hq := eqf_c κ κ (gP u (k' + 1 + (m' + 1))) (gP u (k' + 1 + m')) (by rw [e1]; exact hv _ (gP_mem (by omega))) (by rw [e2]; exact hv _ (gP_mem (by omega)))
     refine wt ?_
     refine dq_g (g_load_oel_aggv rfl rfl zO) rfl ?_
     refine wt ?_
     refine dq_g (g_index_osx (k := m') rfl rfl zO zO) rfl ?_
     refine wt ?_
     refine dq_g (g_load_oel_aggv rfl rfl zO) rfl ?_
     refine wt ?_
     (refine cq_cond rfl ?_ ?_ <;> intro hb <;> (try simp only [zA, zB, zG, zC, zD, zN] at hb) <;> (try (exfalso; omega)))
     ·have hP : cptPF v (k' + 1 + (m' + 1)) = true := by
       simp only [cptPF, e3]; rw [← e1, ← e2]; simp [hb]
      rw [hP, if_pos rfl] at hS
      refine wt ?_
      refine sq_g (g_load_oel_aggv rfl rfl zO) rfl ?_
      refine wt ?_
      refine sq_s (g_store_oel_aggv rfl rfl (pAf_one _ _ _ _ _) rfl zO) ?_
      refine wt ?_
      refine sq_round (g := (u, m' + 1)) (u.set (cptToF v (k' + 1 + (m' + 1))).length (gP u (k' + 1 + (m' + 1))), m' + 1 + 1) ⟨by simp, by simp; omega, by simp [hul], ?_, ?_, ?_⟩ (by simp; omega) (ent ⟨.refl _, .refl _, .int (by simp only; rw [show k' + 1 + (m' + 1 + 1) = k' + 1 + (m' + 1) + 1 from by omega, hS]; simp), .refl _, .int (by simp), trivial⟩ ⟨⟨_, rfl, .row rfl (fun i hi j hj => ff_set (by omega) i (by omega) j hj)⟩, trivial⟩)
      ·simp only; rw [show k' + 1 + (m' + 1 + 1) = k' + 1 + (m' + 1) + 1 from by omega, hS]; simp; omega
      ·simp only; rw [show k' + 1 + (m' + 1 + 1) = k' + 1 + (m' + 1) + 1 from by omega, hS]
       intro i hi
       rw [gP_set, gP_app]
       simp only [List.length_append, List.length_singleton] at hi
       by_cases h : i = (cptToF v (k' + 1 + (m' + 1))).length
       ·rw [if_pos ⟨h.symm, by omega⟩, if_neg (by omega), if_pos h, e1]
       ·rw [if_neg (fun e => h e.1.symm), if_pos (by omega)]; exact hu1 i (by omega)
      ·simp only
       intro i hi
       rw [gP_set, if_neg (fun e => by omega)]
       exact hu2 i zO
     ·have hP : cptPF v (k' + 1 + (m' + 1)) = false := by
       simp only [cptPF, e3]; rw [← e1, ← e2]; simp [hb]
      rw [hP, if_neg (by simp)] at hS
      refine wt ?_
      refine sq_round (g := (u, m' + 1)) (u, m' + 1 + 1) ⟨by simp, by simp; omega, hul, ?_, ?_, ?_⟩ (by simp; omega) (ent ⟨.refl _, .refl _, .int (by simp only; rw [show k' + 1 + (m' + 1 + 1) = k' + 1 + (m' + 1) + 1 from by omega, hS]), .refl _, .int (by simp), trivial⟩ zT)
      ·simp only; rw [show k' + 1 + (m' + 1 + 1) = k' + 1 + (m' + 1) + 1 from by omega, hS]; omega
      ·simp only; rw [show k' + 1 + (m' + 1 + 1) = k' + 1 + (m' + 1) + 1 from by omega, hS]; exact hu1
      ·simp only; exact fun i hi => hu2 i (by omega)
    ·have hE : k' + 1 + (m' + 1) = v.length := by omega
     have hcE : cptToF v (k' + 1 + (m' + 1)) = cptPl v := by rw [hE]; rfl
     refine wt ?_
     refine sq_s (g_clearA (lo := (cptToF v (k' + 1 + (m' + 1))).length) zv42 rfl rfl zE zv42_one rfl rfl) ?_
     refine wt ?_
     refine sq_retWb rfl rfl rfl (by rw [hcE]) (fun i hi j hj => ?_)
     simp only [rowAny]
     rw [if_neg (by omega)]
     simp only [pf5]
     rw [hu1 i (by omega), hcE]
   ·refine wt ?_
    exact sq_round (k' + 1 + 1) ⟨by omega, by omega, lt_step hall (by simp [cptPF, hb])⟩ (by omega) (ent ⟨.refl _, .refl _, .int (by simp), trivial⟩ zT)
  ·refine wt ?_
   have e : cptPl v = v := by rw [cptPl, cptToF_all v _ (Nat.le_refl _) (fun i hi => hall i (by omega)), List.take_length]
   exact sq_retWb rfl rfl rfl (by rw [e]) (fun _ _ _ _ => by rw [e])
end Go.Proofs.YtgepmbjmaljgoaaGreatDoor.H
namespace Go.Proofs.YtgepmbjmaljgoaaGreatDoor.H
open Go Go.Vc Go.Na
def tK (i j : Nat) : Nat → List (Nat × Nat × Nat)
 |0 => []
 |k + 1 => tK i j k ++ [(k, j, i)]
def tJ (i : Nat) : Nat → List (Nat × Nat × Nat)
 |0 => []
 |j + 1 => tJ i j ++ tK i j j
def tI : Nat → List (Nat × Nat × Nat)
 |0 => []
 |i + 1 => tI i ++ tJ i i
theorem tK_eq (i j : Nat) : ∀ k, (List.range k).map (fun k => (k, j, i)) = tK i j k
 |0 => rfl
 |k + 1 => by rw [List.range_succ, List.map_append, tK_eq i j k]; rfl
theorem tJ_eq (i : Nat) : ∀ n, tripJ i n = tJ i n
 |0 => rfl
 |n + 1 => by
  unfold tripJ
  rw [List.range_succ, List.flatMap_append]
  have := tJ_eq i n
  unfold tripJ at this
  rw [this, tJ]
  simp only [List.flatMap_cons, List.flatMap_nil, List.append_nil, tripI]
  rw [tK_eq]
theorem tI_eq : ∀ n, trip n = tI n
 |0 => rfl
 |n + 1 => by
  unfold trip
  rw [List.range_succ, List.flatMap_append]
  have := tI_eq n
  unfold trip at this
  rw [this, tI]
  simp only [List.flatMap_cons, List.flatMap_nil, List.append_nil]
  rw [tJ_eq]
theorem mem_tK {i j : Nat} {t : Nat × Nat × Nat} : ∀ {k}, t ∈ tK i j k ↔ t.1 < k ∧ t.2.1 = j ∧ t.2.2 = i
 |0 => by simp [tK]
 |k + 1 => by
  rw [tK, List.mem_append, mem_tK]
  obtain ⟨a, b, c⟩ := t
  simp only [List.mem_singleton, Prod.mk.injEq]
  omega
theorem mem_tJ {i : Nat} {t : Nat × Nat × Nat} : ∀ {j}, t ∈ tJ i j ↔ t.1 < t.2.1 ∧ t.2.1 < j ∧ t.2.2 = i
 |0 => by simp [tJ]
 |j + 1 => by
  rw [tJ, List.mem_append, mem_tJ, mem_tK]
  omega
theorem mem_tI {t : Nat × Nat × Nat} : ∀ {n}, t ∈ tI n ↔ t.1 < t.2.1 ∧ t.2.1 < t.2.2 ∧ t.2.2 < n
 |0 => by simp [tI]
 |n + 1 => by
  rw [tI, List.mem_append, mem_tI, mem_tJ]
  omega
theorem tK_len (i j : Nat) : ∀ k, (tK i j k).length = k
 |0 => rfl
 |k + 1 => by rw [tK, List.length_append, tK_len]; rfl
theorem tJ_len (i : Nat) : ∀ j, (tJ i j).length ≤ j * j
 |0 => Nat.le_refl _
 |j + 1 => by
  rw [tJ, List.length_append, tK_len]
  have := tJ_len i j
  rw [Nat.mul_add, Nat.add_mul]
  omega
theorem tI_len : ∀ n, (tI n).length ≤ n * (n * n)
 |0 => Nat.le_refl _
 |n + 1 => by
  rw [tI, List.length_append]
  have h1 := tI_len n
  have h2 := tJ_len n n
  have : (n + 1) * ((n + 1) * (n + 1)) = n * (n * n) + n * n + n * n + n * n + n + n + n + 1 := by
   simp only [Nat.mul_add, Nat.add_mul, Nat.mul_one, Nat.one_mul]; omega
  omega
theorem pre_mono {α : Type} {f g : Nat → List α} (h : ∀ k, f (k + 1) = f k ++ g k) {k n : Nat} (hk : k ≤ n) : f k <+: f n := by
 induction n with
 |zero => rw [Nat.le_zero.1 hk]; exact List.prefix_refl _
 |succ n ih =>
  by_cases e : k = n + 1
  ·rw [e]; exact List.prefix_refl _
  ·rw [h n]; exact (ih (by omega)).trans (List.prefix_append _ _)
theorem trip_pre {n i j k : Nat} (hi : i < n) (hj : j < i) (hk : k < j) : tI i ++ (tJ i j ++ tK i j (k + 1)) <+: tI n := by
 have h1 : tK i j (k + 1) <+: tK i j j := pre_mono (fun _ => rfl) zO
 have h2 : tJ i (j + 1) <+: tJ i i := pre_mono (fun _ => rfl) zO
 have h3 : tI (i + 1) <+: tI n := pre_mono (fun _ => rfl) zO
 have h4 : tJ i j ++ tK i j (k + 1) <+: tJ i (j + 1) := (List.prefix_append_right_inj _).2 h1
 exact ((List.prefix_append_right_inj _).2 (h4.trans h2)).trans h3
theorem pre_at {α : Type} {A L : List α} {x : α} (h : A ++ [x] <+: L) : L[A.length]? = some x := by
 obtain ⟨t, rfl⟩ := h
 simp
end Go.Proofs.YtgepmbjmaljgoaaGreatDoor.H
