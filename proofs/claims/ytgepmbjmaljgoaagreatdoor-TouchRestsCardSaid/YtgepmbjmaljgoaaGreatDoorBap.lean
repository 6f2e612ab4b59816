/- A part of the proof. -/
import Derived.Test.YtgepmbjmaljgoaaGreatDoorBan
import Derived.Test.YtgepmbjmaljgoaaGreatDoorBao
set_option linter.unusedVariables false
set_option linter.unusedSimpArgs false
namespace Go.Proofs.YtgepmbjmaljgoaaGreatDoor
open Go Go.Vc Go.RowKit Go.Na Go.Lib
set_option maxHeartbeats 4000000
theorem tb285 : Tryz.prog.built 285 [] = some (wvs 232 false 0 (fun _ => 0)).toArray := by kernel_rfl
theorem tb285b (b : Bool) : Tryz.prog.built 285 [(0, .bool b)] = some (wvs 232 b 0 (fun _ => 0)).toArray := by cases b <;> kernel_rfl
def plusR (b : Bool) (V : Nat) (b' : Bool) (W : Nat) : Bool × Nat := if b = b' then (b, V + W) else if W ≤ V then (b, V - W) else (b', W - V)
theorem wplus_c (b b' : Bool) (V W : Nat) (hV : nw V ≤ 232) (hW : nw W ≤ 232) (hR2 : nw (plusR b V b' W).2 ≤ 232) :
  CtrH Tryz.prog 284 [.own 1000 0, .av (wA b' (nw W) (wd W))] [(1000, .wi b (nw V) (wd V))] (.av .any) [(1000, .wi (plusR b V b' W).1 (nw (plusR b V b' W).2) (wd (plusR b V b' W).2))] := by
 have hbe := fun c => beyond_c V W b c hV hW
 unfold plusR at hR2 ⊢
 by_cases hbb : b = b'
 ·subst hbb
  rw [if_pos rfl] at hR2 ⊢
  dsimp only at hR2 ⊢
  have hc := carry_z b b V W (V + W) 0 1 hV (by omega) hR2 (by omega) (by simp)
  have hbq : (b == b) = true := by simp
  refine ctrH _ Tryz.func284 rfl rfl Tryz.ntmps284 rfl rfl fun w Z ν => ?_
  refine zU ?_
  refine wl ?_
  rw [hbq]
  refine wl ?_
  refine sq_v (v_call_h [] hc rfl ⟨rfl, trivial⟩ rfl) rfl ?_
  refine wl ?_
  exact sq_more (T' := []) (O' := [(1000, .wi b (nw (V + W)) (wd (V + W)))]) (ent trivial zT) (sq_retH0 rfl rfl rfl)
 ·rw [if_neg hbb] at hR2 ⊢
  have hbq : (b == b') = false := by simpa using hbb
  have hb2 := bey_ge V W
  have hbe := beyond_c V W b b' hV hW
  by_cases hle : W ≤ V
  ·rw [if_pos hle] at hR2 ⊢
   dsimp only at hR2 ⊢
   have hc := carry_z b b' V W (V - W) 0 (-1) hV (by omega) hR2 (by omega) (by simp; omega)
   refine ctrH _ Tryz.func284 rfl rfl Tryz.ntmps284 rfl rfl fun w Z ν => ?_
   refine zU ?_
   refine wl ?_
   rw [hbq]
   refine wl ?_
   refine sq_g (g_call_r hbe rfl ⟨.w rfl rfl, .av rfl, trivial⟩ (flat_val _)) rfl ?_
   refine wl ?_
   (refine cq_cond rfl ?_ ?_ <;> intro hb <;> (try simp only [zA, zB, zG, zC, zD, zN] at hb) <;> (try (exfalso; omega)))
   refine wl ?_
   refine sq_v (v_call_h [] hc rfl ⟨rfl, trivial⟩ rfl) rfl ?_
   refine wl ?_
   exact sq_more (T' := []) (O' := [(1000, .wi b (nw (V - W)) (wd (V - W)))]) (ent trivial zT) (sq_retH0 rfl rfl rfl)
  ·rw [if_neg hle] at hR2 ⊢
   dsimp only at hR2 ⊢
   have hc := carry_o b' b W V (W - V) 0 (-1) hW (by omega) hR2 (by omega) (by simp; omega)
   refine ctrH _ Tryz.func284 rfl rfl Tryz.ntmps284 rfl rfl fun w Z ν => ?_
   refine zU ?_
   refine wl ?_
   rw [hbq]
   refine wl ?_
   refine sq_g (g_call_r hbe rfl ⟨.w rfl rfl, .av rfl, trivial⟩ (flat_val _)) rfl ?_
   refine wl ?_
   (refine cq_cond rfl ?_ ?_ <;> intro hb <;> (try simp only [zA, zB, zG, zC, zD, zN] at hb) <;> (try (exfalso; omega)))
   refine wl ?_
   refine sq_g (g_load_aall rfl) rfl ?_
   refine sq_v (f_alloc_w 5 rfl) rfl ?_
   refine sq_s (g_store_wall rfl rfl rfl) ?_
   refine wl ?_
   refine sq_v (v_call_h [(1000, 5), (1001, 1000)] hc rfl ⟨rfl, rfl, trivial⟩ rfl) rfl ?_
   refine wl ?_
   refine sq_g (g_load_wall rfl rfl) rfl ?_
   refine sq_g (g_nilCheck rfl) rfl ?_
   refine sq_s (g_store_wall rfl rfl rfl) ?_
   refine wl ?_
   exact sq_more (T' := []) (O' := [(1000, .wi b' (nw (W - V)) (wd (W - V)))]) (ent trivial zT) (sq_endH0 rfl rfl rfl)
theorem wd_z : wd 0 = fun _ => 0 := by funext i; simp [wd]
theorem lown_step (W i : Nat) : W % 1000000000 ^ (i + 1) = W % 1000000000 ^ i + (wd W i).toNat * 1000000000 ^ i := by
 rw [Nat.mod_pow_succ]
 have : (wd W i).toNat = W / 1000000000 ^ i % 1000000000 := by unfold wd; exact Int.toNat_natCast _
 rw [this, Nat.mul_comm]
theorem wtimes_c (b b' : Bool) (V W : Nat) (hVW : nw V + nw W ≤ 232) :
  CtrH Tryz.prog 238 [.av (wA b (nw V) (wd V)), .av (wA b' (nw W) (wd W))] [] (.own 7 0) [(7, .wi (b != b') (nw (V * W)) (wd (V * W)))] := by
 have hbd : ∀ i, i ≤ nw W → nw (V * (W % 1000000000 ^ i)) ≤ 232 := fun i hi => by
  refine nw_le ?_
  have h1 : W % 1000000000 ^ i < 1000000000 ^ i := Nat.mod_lt _ (Nat.pow_pos zE)
  have h2 : V * (W % 1000000000 ^ i) < 1000000000 ^ (nw V) * 1000000000 ^ i := by
   refine Nat.lt_of_le_of_lt (Nat.mul_le_mul_left V (Nat.le_of_lt h1)) ?_
   exact (Nat.mul_lt_mul_right (Nat.pow_pos zE)).2 (lt_nw V)
  rw [← Nat.pow_add] at h2
  exact Nat.lt_of_lt_of_le h2 (Nat.pow_le_pow_right zE zO)
 refine ctrH _ Tryz.func238 rfl rfl Tryz.ntmps238 rfl rfl fun w Z ν => ?_
 refine zU ?_
 refine wl ?_
 refine dq_g (g_build (is := [0]) (xs := [_]) (vs := [.bool (b != b')]) (tb285b _) rfl rfl) rfl ?_
 refine dq_v (ga_box_w 7 rfl) rfl rfl ?_
 refine wl ?_
 refine cq_loop (γ := Nat) (fun i => [(0, .av (wA b (nw V) (wd V))), (1, .av (wA b' (nw W) (wd W))), (5, .own 7 0), (21, .av (vi (nw W))), (22, .av (vi i))]) (fun i => [(7, .wi (b != b') (nw (V * (W % 1000000000 ^ i))) (wd (V * (W % 1000000000 ^ i))))]) (fun i => i ≤ nw W) (fun i => nw W - i) 0 zO (ent zS ⟨⟨_, rfl, by
  rw [show V * (W % 1000000000 ^ 0) = 0 by rw [Nat.pow_zero, Nat.mod_one, Nat.mul_zero], nw_zero, wd_z]
  exact .refl _⟩, trivial⟩) ?_
 intro i hi
 refine wl ?_
 (refine cq_cond rfl ?_ ?_ <;> intro hb <;> (try simp only [zA, zB, zG, zC, zD, zN] at hb) <;> (try (exfalso; omega)))
 ·have hw := wd_rng W i
  have hB : Na.B = 1000000000 := rfl
  rw [hB] at hw
  have hc := carry_z (b != b') b (V * (W % 1000000000 ^ i)) V (V * (W % 1000000000 ^ (i + 1))) i (wd W i) (hbd i hi) zO (hbd (i + 1) zO) zO (by
   have hwc : ((wd W i).toNat : Int) = wd W i := Int.toNat_of_nonneg hw.1
   rw [lown_step, Nat.mul_add, ← pow9n i]
   generalize 1000000000 ^ i = p
   simp only [Int.natCast_add, Int.natCast_mul, hwc]
   grind)
  refine wl ?_
  refine sq_v (v_call_h [(1000, 7)] hc rfl ⟨rfl, trivial⟩ rfl) rfl ?_
  refine wl ?_
  exact sq_round (i + 1) zO zO (ent zS zT)
 ·obtain rfl : i = nw W := by omega
  refine wl ?_
  have e : W % 1000000000 ^ nw W = W := Nat.mod_eq_of_lt (lt_nw W)
  rw [e]
  exact sq_retH rfl rfl rfl
end Go.Proofs.YtgepmbjmaljgoaaGreatDoor
section
namespace Go.Na
open Go Go.Vc
theorem take_copy {b : Bool} {n : Int} {f : Nat → Int} {m : Nat} (hm : m ≤ 231) :
  (wvs 232 b n f).take 3 ++ ((wvs 232 b n f).drop 2).take m ++ (wvs 232 b n f).drop (3 + m) = wvs 232 b n (shup f m) := by
 have hl := wvs_len 232 b n f
 apply List.ext_getElem?
 intro i
 rw [List.append_assoc]
 by_cases h3 : i < 3
 ·rw [List.getElem?_append_left (by simp [hl]; omega), List.getElem?_take_of_lt h3]
  rcases (by omega : i = 0 ∨ i = 1 ∨ i = 2) with rfl | rfl | rfl
  ·rfl
  ·rfl
  ·rw [wvs_get (k := 0) rfl (by decide), wvs_get (k := 0) rfl (by decide)]
   unfold shup; rw [if_neg (by omega)]
 ·rw [List.getElem?_append_right (by simp [hl]; omega)]
  have hlt : ((wvs 232 b n f).take 3).length = 3 := by simp [hl]
  rw [hlt]
  by_cases hi : i < 3 + m
  ·rw [List.getElem?_append_left (by simp [hl]; omega), List.getElem?_take_of_lt (by omega), List.getElem?_drop]
   rw [wvs_get (k := i - 3) (by omega) (by omega), wvs_get (k := i - 2) (by omega) (by omega)]
   unfold shup; rw [if_pos (by omega)]
   congr 3
  ·have hlm : (((wvs 232 b n f).drop 2).take m).length = m := by simp [hl]; omega
   rw [List.getElem?_append_right (by rw [hlm]; omega), hlm, List.getElem?_drop]
   have e : 3 + m + (i - 3 - m) = i := by omega
   rw [e]
   by_cases h4 : i < 234
   ·rw [wvs_get (k := i - 2) (by omega) (by omega), wvs_get (k := i - 2) (by omega) (by omega)]
    unfold shup; rw [if_neg (by omega)]
   ·rw [List.getElem?_eq_none (by rw [hl]; omega), List.getElem?_eq_none (by rw [wvs_len]; omega)]
theorem shup_up {R : Nat} {d : Nat} (hd : d < 1000000000) : upd (shup (wd R) (nw R)) 0 (d : Int) = wd (R * 1000000000 + d) := by
 funext i
 rw [wd_up hd]
 cases i with
 |zero => rw [upd_same]
 |succ i =>
  rw [upd_other _ _ (by omega)]
  unfold shup
  split
  ·rfl
  ·rw [wd_out (by omega)]
   show 0 = wd R i
   rw [wd_out (by omega)]
theorem nw_up {R d : Nat} (hd : d < 1000000000) : nw (R * 1000000000 + d) ≤ nw R + 1 := by
 refine nw_le ?_
 have := lt_nw R
 rw [Nat.pow_succ]
 have h2 : (R + 1) * 1000000000 ≤ 1000000000 ^ nw R * 1000000000 := Nat.mul_le_mul_right _ this
 omega
theorem div_word' {H W d : Nat} (hW : 0 < W) (hd : d < 1000000000) : (H % W * 1000000000 + d) % W = (H * 1000000000 + d) % W ∧ (H % W * 1000000000 + d) / W = (H * 1000000000 + d) / W % 1000000000 ∧ (H % W * 1000000000 + d) / W < 1000000000 := by
 have h2 := Nat.div_add_mod H W
 have hr := Nat.mod_lt H hW
 generalize H % W = r at *
 generalize H / W = q at *
 subst h2
 have e : (W * q + r) * 1000000000 + d = (r * 1000000000 + d) + W * (q * 1000000000) := by
  rw [← Nat.mul_assoc, Nat.add_mul, Nat.add_assoc, Nat.add_comm]
 have hX : r * 1000000000 + d < 1000000000 * W := by omega
 have hq : (r * 1000000000 + d) / W < 1000000000 := (Nat.div_lt_iff_lt_mul hW).2 hX
 rw [e, Nat.add_mul_mod_self_left, Nat.add_mul_div_left _ _ hW, Nat.add_mul_mod_self_right, Nat.mod_eq_of_lt hq]
 exact ⟨rfl, rfl, hq⟩
theorem div_word {V W k : Nat} (hW : W ≠ 0) :
  (V / 1000000000 ^ (k + 1) % W * 1000000000 + V / 1000000000 ^ k % 1000000000) % W = V / 1000000000 ^ k % W ∧ (V / 1000000000 ^ (k + 1) % W * 1000000000 + V / 1000000000 ^ k % 1000000000) / W = V / W / 1000000000 ^ k % 1000000000 ∧ (V / 1000000000 ^ (k + 1) % W * 1000000000 + V / 1000000000 ^ k % 1000000000) / W < 1000000000 := by
 have h1 : V / 1000000000 ^ k = V / 1000000000 ^ (k + 1) * 1000000000 + V / 1000000000 ^ k % 1000000000 := by
  rw [Nat.pow_succ, ← Nat.div_div_eq_div_mul]
  have := Nat.div_add_mod (V / 1000000000 ^ k) 1000000000
  omega
 have h3 : V / W / 1000000000 ^ k = V / 1000000000 ^ k / W := by
  rw [Nat.div_div_eq_div_mul, Nat.div_div_eq_div_mul, Nat.mul_comm]
 rw [h3]
 have hd : V / 1000000000 ^ k % 1000000000 < 1000000000 := Nat.mod_lt _ zE
 have := div_word' (H := V / 1000000000 ^ (k + 1)) (Nat.pos_of_ne_zero hW) hd
 rw [← h1] at this
 exact this
def hiq (Q k : Nat) : Nat → Int := fun j => if k ≤ j then wd Q j else 0
theorem hiq_step {Q k : Nat} : upd (hiq Q (k + 1)) k (wd Q k) = hiq Q k := by
 funext j
 unfold upd hiq
 by_cases h : j = k
 ·subst h; rw [if_pos rfl, if_pos (Nat.le_refl _)]
 ·rw [if_neg h]
  by_cases h2 : k ≤ j
  ·rw [if_pos (by omega), if_pos h2]
  ·rw [if_neg (by omega), if_neg h2]
theorem hiq_zero (Q : Nat) : hiq Q 0 = wd Q := by funext j; unfold hiq; rw [if_pos (Nat.zero_le _)]
theorem hiq_top {Q k : Nat} (h : nw Q ≤ k) : hiq Q k = fun _ => 0 := by
 funext j
 unfold hiq
 split
 ·exact wd_out zO
 ·rfl
theorem nw_mono {V W : Nat} (h : V ≤ W) : nw V ≤ nw W := nw_le (Nat.lt_of_le_of_lt h (lt_nw W))
end Go.Na
namespace Go.Na
open Go Go.Vc
def lowq (Q n : Nat) : Nat → Int := fun j => if j < n then wd Q j else 0
theorem lowq_step {Q n : Nat} : upd (lowq Q n) n (wd Q n) = lowq Q (n + 1) := by
 funext j
 unfold upd lowq
 by_cases h : j = n
 ·subst h; rw [if_pos rfl, if_pos (by omega)]
 ·rw [if_neg h]
  by_cases h2 : j < n
  ·rw [if_pos h2, if_pos (by omega)]
  ·rw [if_neg h2, if_neg (by omega)]
theorem lowq_zero (Q : Nat) : lowq Q 0 = fun _ => 0 := by funext j; unfold lowq; rw [if_neg (by omega)]
theorem lowq_all {Q n : Nat} (h : nw Q ≤ n) : lowq Q n = wd Q := by
 funext j
 unfold lowq
 split
 ·rfl
 ·rw [wd_out (by omega)]
theorem nw_of_div {V n : Nat} (h : V / 1000000000 ^ n = 0) : nw V ≤ n := by
 refine nw_le ?_
 have := Nat.lt_mul_div_succ V (Nat.pow_pos (n := n) (show 0 < 1000000000 by decide))
 rw [h] at this
 omega
theorem read_word {l : List UInt8} {V n : Nat} (hd : ∀ b ∈ l, isD b) (h : dv l = V / 1000000000 ^ n) : dv (l.take (l.length - 9)) = V / 1000000000 ^ (n + 1) ∧ ((dv (l.drop (l.length - 9)) : Nat) : Int) = wd V n := by
 obtain ⟨h1, h2⟩ := read_step hd
 rw [h] at h1
 generalize dv (l.take (l.length - 9)) = a at *
 generalize dv (l.drop (l.length - 9)) = b at *
 unfold wd
 rw [Nat.pow_succ, ← Nat.div_div_eq_div_mul]
 generalize V / 1000000000 ^ n = q at *
 constructor
 ·omega
 ·omega
end Go.Na
end
section
namespace Go.Proofs.YtgepmbjmaljgoaaGreatDoor
open Go Go.Vc Go.RowKit Go.Na Go.Lib
set_option maxHeartbeats 4000000
section
variable {E : Env} {T : Tab} {O : Go.Vc.Own} {d : Option Nat} {ty : TypeId} {pos : String} {af : Array Edge} {g : Option (Nat × Bool)}
theorem g_copy_w {t t' e : TypeId} {x y : Operand} {r m : Nat} {b : Bool} {n : Int} {f : Nat → Int} [ht : SlTy Tryz.prog t e 1] (hx : T.ev x = .ocs r 3 231) (hy : T.ev y = .ocs r 2 m) (hr : Go.Vc.look O r = some (Res.wi b n f)) (hm : m ≤ 231) :
  GV Tryz.prog E ⟨d, .call ⟨.builtin .copy, #[x, y], #[t, t']⟩, ty, pos, af, g⟩ T O (.av (.val (.int .i64 (m : Nat)))) [r] [(r, .wi b n (shup f m))] :=
 g_copy_ocs hx hy hr hm (by rw [wvs_len]; omega) (by rw [wvs_len]; omega) wvs_one (take_copy hm)
theorem g_slice_own0 {t e : TypeId} {x z : Operand} {r off len h : Nat} {us : List Value} [ht : ArrTy Tryz.prog t len e 1] (hx : T.ev x = .own r off) (hr : Go.Vc.look O r = some (Res.vb us)) (hhi : T.ev z = .av (.val (.int .i64 h))) (hhn : h ≤ len) (hl : 0 < len) :
  GV Tryz.prog E ⟨d, .slice t x none (some z) none, ty, pos, af, g⟩ T O (.ocs r off h) [r] [] := by
 have := g_slice_own (P := Tryz.prog) (E := E) (T := T) (O := O) (d := d) (ty := ty) (pos := pos) (af := af) (g := g) (t := t) (x := x) (lo := none) (hi := some z) (r := r) (off := off) (l := 0) (h := h) (us := us) hx hr rfl ⟨_, _, hhi, rfl⟩ (Nat.zero_le _) hhn hl
 rwa [Nat.add_zero, Nat.sub_zero] at this
end
theorem wdivided_c (b b' : Bool) (V W : Nat) (hV : nw V ≤ 231) (hW : nw W ≤ 231) (hW0 : W ≠ 0) :
  CtrH Tryz.prog 230 [.av (wA b (nw V) (wd V)), .av (wA b' (nw W) (wd W))] [] (.tupC [.own 7 0, .own 8 0]) [(7, .wi false (nw (V / W)) (wd (V / W))), (8, .wi false (nw (V % W)) (wd (V % W)))] := by
 have hWp : 0 < W := Nat.pos_of_ne_zero hW0
 have hnr : ∀ k, nw (V / 1000000000 ^ k % W) ≤ nw W := fun k => nw_mono (Nat.le_of_lt (Nat.mod_lt _ hWp))
 have hnq : nw (V / W) ≤ nw V := nw_mono (Nat.div_le_self _ _)
 refine ctrH _ Tryz.func230 rfl rfl Tryz.ntmps230 rfl rfl fun w Z ν => ?_
 refine zU ?_
 refine wl ?_
 refine sq_g (g_build (is := []) (xs := []) (vs := []) tb285 rfl rfl) rfl ?_
 refine sq_v (f_box_w 7 rfl rfl) rfl ?_
 refine sq_g (g_build (is := []) (xs := []) (vs := []) tb285 rfl rfl) rfl ?_
 refine sq_v (f_box_w 8 rfl rfl) rfl ?_
 refine wl ?_
 refine cq_loop (γ := Nat × Nat) (fun q => [(0, .av (wA b (nw V) (wd V))), (1, .av (wA b' (nw W) (wd W))), (6, .own 7 0), (7, .own 8 0), (8, .av (vi ((q.1 : Int) - 1)))]) (fun q => [(7, .wi false q.2 (hiq (V / W) q.1)), (8, .wi false (nw (V / 1000000000 ^ q.1 % W)) (wd (V / 1000000000 ^ q.1 % W)))]) (fun q => q.1 ≤ nw V ∧ q.2 ≤ 231 ∧ (nw (V / W) ≤ q.2 ∨ q.1 = nw V ∧ 0 < nw V)) (fun q => q.1) (nw V, 0) ⟨by show _ ≤ _; omega, by show _ ≤ _; omega, by show nw (V / W) ≤ 0 ∨ nw V = nw V ∧ 0 < nw V; omega⟩ (ent ⟨.refl _, .refl _, .refl _, .refl _, .int (by show _ = _; omega), trivial⟩ ⟨⟨_, rfl, by
  rw [hiq_top hnq]; exact .refl _⟩, ⟨_, rfl, by
  rw [show V / 1000000000 ^ (nw V) % W = 0 by rw [Nat.div_eq_of_lt (lt_nw V), Nat.zero_mod], nw_zero, wd_z]
  exact .refl _⟩, trivial⟩) ?_
 rintro ⟨k, n⟩ ⟨hk, hn, hqn⟩
 dsimp only at hk hn hqn ⊢
 refine wl ?_
 (refine cq_cond rfl ?_ ?_ <;> intro hb <;> (try simp only [zA, zB, zG, zC, zD, zN] at hb) <;> (try (exfalso; omega)))
 ·obtain ⟨j, rfl⟩ : ∃ j, k = j + 1 := ⟨k - 1, by omega⟩
  have e : ((j + 1 : Nat) : Int) - 1 = j := by omega
  rw [e]
  obtain ⟨dw1, dw2, dw3⟩ := div_word (V := V) (W := W) (k := j) hW0
  have hwd : wd V j = ((V / 1000000000 ^ j % 1000000000 : Nat) : Int) := rfl
  have hd : V / 1000000000 ^ j % 1000000000 < 1000000000 := Nat.mod_lt _ zE
  have hqd : wd (V / W) j = ((V / W / 1000000000 ^ j % 1000000000 : Nat) : Int) := rfl
  have hr1 := hnr (j + 1)
  have hmr : V / 1000000000 ^ (j + 1) % W < W := Nat.mod_lt _ hWp
  rw [← dw2] at hqd
  generalize V / 1000000000 ^ (j + 1) % W = R at *
  have hup := shup_up (R := R) hd
  have hnx := nw_up (R := R) hd
  rw [← hwd] at hup
  generalize V / 1000000000 ^ j % 1000000000 = dg at *
  have ht := trimmed_c false (nw R + 1) (nw (R * 1000000000 + dg)) (wd (R * 1000000000 + dg)) hnx zO (fun i h _ => wd_out h) (by
   by_cases h0 : R * 1000000000 + dg = 0
   ·left; rw [h0, nw_zero]
   ·exact .inr (wd_top h0))
  generalize R * 1000000000 + dg = X at *
  refine wl ?_
  refine dq_g (g_slice_own (l := 1) (h := 232) rfl rfl ⟨_, _, rfl, rfl⟩ rfl zE zE zE) rfl ?_
  refine wl ?_
  refine dq_g (g_slice_own0 (h := nw R) rfl rfl rfl zO zE) rfl ?_
  refine wl ?_
  refine dq_call_h (g_copy_w (m := nw R) rfl rfl rfl zO) rfl ?_
  refine wl ?_
  refine dq_s (g_store_ww 0 rfl rfl rfl rfl zE) ?_
  refine wl ?_
  refine lsq_more (ent_w 8 (n' := ((nw R + 1 : Nat) : Int)) (f' := wd X) rfl rfl zO hup) ?_
  refine sq_v (v_call_h [(1000, 8)] ht rfl ⟨rfl, trivial⟩ rfl) rfl ?_
  refine wl ?_
  refine cq_loop (γ := Nat × Nat) (fun q => [(0, .av (wA b (nw V) (wd V))), (1, .av (wA b' (nw W) (wd W))), (6, .own 7 0), (7, .own 8 0), (8, .av (vi j)), (9, .av (vi q.2))]) (fun q => [(7, .wi false n (hiq (V / W) (j + 1))), (8, .wi false (nw q.1) (wd q.1))]) (fun q => X = q.1 + q.2 * W) (fun q => q.1) (X, 0) (by show X = X + 0 * W; omega) (ent zS zT) ?_
  rintro ⟨Y, dd⟩ hY
  dsimp only at hY ⊢
  have hYX : nw Y ≤ 232 := Nat.le_trans (nw_mono (by omega : Y ≤ X)) zO
  have hbe := beyond_c Y W false b' hYX zO
  have hb2 := bey_ge Y W
  have hdd : dd < 1000000000 := by
   refine Nat.lt_of_le_of_lt ?_ dw3
   rw [Nat.le_div_iff_mul_le hWp]; omega
  refine wl ?_
  refine sq_g (g_call_r hbe rfl ⟨.w rfl rfl, .av rfl, trivial⟩ (flat_val _)) rfl ?_
  refine wl ?_
  (refine cq_cond rfl ?_ ?_ <;> intro hb <;> (try simp only [zA, zB, zG, zC, zD, zN] at hb) <;> (try (exfalso; omega)))
  ·have hes := estimate_c Y W false b' hYX zO hW0
   obtain ⟨he1, he2, he3⟩ := est_ok hW0 (hb2.1 zO)
   obtain ⟨κ, hκ⟩ : ∃ κ : Nat, est Y W = κ := ⟨(est Y W).toNat, by omega⟩
   rw [hκ] at hes he1 he2 he3
   have hle : κ * W ≤ Y := by rw [← Int.natCast_mul] at he3; omega
   have hsub : (dd + κ) * W ≤ X := by rw [Nat.add_mul]; omega
   have hdk : dd + κ < 1000000000 := by
    refine Nat.lt_of_le_of_lt ?_ dw3
    rw [Nat.le_div_iff_mul_le hWp]; exact hsub
   have hcz := carry_z false b' Y W (Y - κ * W) 0 (-(κ : Int)) hYX (by omega) (Nat.le_trans (nw_mono (Nat.sub_le _ _)) hYX) (by omega) (by rw [Int.natCast_sub hle, Int.natCast_mul]; simp; grind)
   refine wl ?_
   refine sq_g (g_call_r hes rfl ⟨.w rfl rfl, .av rfl, trivial⟩ (flat_val _)) rfl ?_
   refine wl ?_
   refine sq_v (v_call_h [(1000, 8)] hcz rfl ⟨rfl, trivial⟩ rfl) rfl ?_
   refine wl ?_
   have hκ0 : 0 < κ * W := Nat.mul_pos zO hWp
   exact sq_round (g := (Y, dd)) (Y - κ * W, dd + κ) (by show X = Y - κ * W + (dd + κ) * W; rw [Nat.add_mul]; omega) (by show Y - κ * W < Y; omega) (ent ⟨.refl _, .refl _, .refl _, .refl _, .refl _, .int (by show (dd : Int) + κ = ((dd + κ : Nat) : Int); omega), trivial⟩ zT)
  ·have hlt : Y < W := by omega
   have q1 : X % W = Y := by rw [hY, Nat.add_mul_mod_self_right, Nat.mod_eq_of_lt hlt]
   have q2 : X / W = dd := by rw [hY, Nat.add_mul_div_right _ _ hWp, Nat.div_eq_of_lt hlt, Nat.zero_add]
   rw [q2] at hqd
   rw [q1] at dw1
   have hmx : ((max n (j + 1) : Nat) : Int) = if (n : Int) < (j : Int) + 1 then (j : Int) + 1 else n := by split <;> omega
   refine wl ?_
   exact sq_round (g := (j + 1, n)) (j, max n (j + 1)) ⟨by show j ≤ nw V; omega, by show max n (j + 1) ≤ 231; omega, .inl (by show nw (V / W) ≤ max n (j + 1); omega)⟩ (by show j < j + 1; omega) (ent zS ⟨⟨_, rfl, by
    dsimp only
    rw [hmx, show hiq (V / W) j = _ from (hiq_step (Q := V / W) (k := j)).symm, hqd]
    exact .refl _⟩, ⟨_, rfl, by
    dsimp only
    rw [← dw1]
    exact .refl _⟩, trivial⟩)
 ·obtain rfl : k = 0 := by omega
  rw [hiq_zero, Nat.pow_zero, Nat.div_one]
  have ht := trimmed_c false n (nw (V / W)) (wd (V / W)) zO zO (fun i h _ => wd_out h) (by
   by_cases h0 : V / W = 0
   ·left; rw [h0, nw_zero]
   ·exact .inr (wd_top h0))
  refine wl ?_
  refine sq_v (v_call_h [(1000, 7)] ht rfl ⟨rfl, trivial⟩ rfl) rfl ?_
  refine wl ?_
  exact sq_more (T' := [(4, .own 7 0), (5, .own 8 0)]) (O' := [(7, .wi false (nw (V / W)) (wd (V / W))), (8, .wi false (nw (V % W)) (wd (V % W)))]) (ent zS zT) (sq_retHC (c1 := .own 7 0) (c2 := .own 8 0) rfl rfl rfl rfl rfl)
end Go.Proofs.YtgepmbjmaljgoaaGreatDoor
end
namespace Go.Proofs.YtgepmbjmaljgoaaGreatDoor
open Go Go.Vc Go.RowKit Go.Na Go.Lib
set_option maxHeartbeats 4000000
theorem wread_c (m : Int) (hm : (decDigits m.natAbs).length ≤ 2000) : CtrH Tryz.prog 229 [.av (vI m)] [] (.own 7 0) [(7, .wi (decide (m < 0)) (nw m.natAbs) (wd m.natAbs))] := by
 obtain ⟨hb, rs, ei, hb'⟩ := itoa_hd m
 have h1 := trimp_i m
 have hdd := dec_dig m.natAbs
 have hdv := dv_dec m.natAbs
 refine ctrH _ Tryz.func229 rfl rfl Tryz.ntmps229 rfl rfl fun w Z ν => ?_
 generalize decDigits m.natAbs = D at *
 generalize hV : m.natAbs = V at *
 refine zU ?_
 refine wl ?_
 refine sq_g (g_sidx (b := hb) rfl rfl rfl (by rw [ei]; rfl)) rfl ?_
 refine wl ?_
 rw [hb']
 refine wl ?_
 refine sq_g (g_build (is := [0]) (xs := [_]) (vs := [.bool (decide (m < 0))]) (tb285b _) rfl rfl) rfl ?_
 refine sq_v (f_box_w 7 rfl rfl) rfl ?_
 refine wl ?_
 refine cq_loop (γ := List UInt8 × Nat) (fun q => [(3, .av (vS q.1)), (4, .own 7 0)]) (fun q => [(7, .wi (decide (m < 0)) q.2 (lowq V q.2))]) (fun q => (∀ b ∈ q.1, isD b) ∧ dv q.1 = V / 1000000000 ^ q.2 ∧ 9 * q.2 ≤ D.length + 8 ∧ (q.1 ≠ [] → q.1.length + 9 * q.2 ≤ D.length)) (fun q => q.1.length) (D, 0) ⟨hdd, by show dv D = V / 1000000000 ^ 0; rw [hdv, Nat.pow_zero, Nat.div_one], by show 9 * 0 ≤ _; omega, fun _ => by show D.length + 9 * 0 ≤ _; omega⟩ (ent zS ⟨⟨_, rfl, by rw [lowq_zero]; exact .refl _⟩, trivial⟩) ?_
 rintro ⟨l, n⟩ ⟨hl, hv, hn, hc⟩
 dsimp only at hl hv hn hc ⊢
 refine wl ?_
 (refine cq_cond rfl ?_ ?_ <;> intro hb <;> (try simp only [zA, zB, zG, zC, zD, zN] at hb) <;> (try (exfalso; omega)))
 ·have hne : l ≠ [] := fun e => by subst e; simp at *
  have hc := hc hne
  obtain ⟨e1, e2⟩ := read_word hl hv
  have hdr : ∀ b ∈ l.drop (l.length - 9), isD b := fun b hb => hl b (List.mem_of_mem_drop hb)
  have hat := atoi_c (l.drop (l.length - 9)) _ (by rw [List.length_drop]; omega) (atoi_dig (fun e => by
   have := congrArg List.length e
   rw [List.length_drop] at this
   simp only [List.length_nil] at this
   omega) hdr)
  rw [e2] at hat
  refine wl ?_
  refine dq_g (g_sfrom (l.length - 9) rfl rfl (by split <;> omega) zO) rfl ?_
  refine wl ?_
  refine sq_g (g_sto (l.length - 9) rfl rfl (by split <;> omega) zO) rfl ?_
  refine wl ?_
  exact sq_round (g := (l, n)) (l.take (l.length - 9), n + 1) ⟨fun b hb => hl b (List.mem_of_mem_take hb), e1, by show 9 * (n + 1) ≤ _; omega, fun hn => by
   show (l.take (l.length - 9)).length + 9 * (n + 1) ≤ D.length
   have : l.length - 9 ≠ 0 := fun e => hn (by show l.take (l.length - 9) = []; rw [e, List.take_zero])
   rw [List.length_take]; omega⟩ (by show (l.take (l.length - 9)).length < l.length; rw [List.length_take]; omega) (ent zS ⟨⟨_, rfl, by
   dsimp only
   rw [← lowq_step]
   exact .refl _⟩, trivial⟩)
 ·have hl0 : l = [] := List.eq_nil_of_length_eq_zero zO
  subst hl0
  have hnw : nw V ≤ n := nw_of_div hv.symm
  rw [lowq_all hnw]
  have ht := trimmed_c (decide (m < 0)) n (nw V) (wd V) hnw zO (fun i h _ => wd_out h) (by
   by_cases h0 : V = 0
   ·left; rw [h0, nw_zero]
   ·exact .inr (wd_top h0))
  refine wl ?_
  refine sq_v (v_call_h [(1000, 7)] ht rfl ⟨rfl, trivial⟩ rfl) rfl ?_
  refine wl ?_
  exact sq_more (T' := [(2, .own 7 0)]) (O' := [(7, .wi (decide (m < 0)) (nw V) (wd V))]) (ent ⟨.refl _, trivial⟩ zT) (sq_retH rfl rfl rfl)
def sv (b : Bool) (V : Nat) : Int := if b then -(V : Int) else V
theorem wtop {V : Nat} (h : V ≠ 0) : decDigits (wd V (nw V - 1)).toNat ++ tl (wd V) (nw V - 1) = decDigits V := by
 have e : nw V - 1 + 1 = nw V := by have := nw_pos h; omega
 have := text_eq (f := wd V) (fun i => (wd_rng V i).1) (fun i => (wd_rng V i).2) (n := nw V - 1) (wd_top h)
 rw [e, vw_wd _ _ (lt_nw V)] at this
 rw [this, Int.toNat_natCast]
theorem dec_len_nw {V : Nat} (h : nw V ≤ 232) : (decDigits V).length ≤ 2088 := by
 have key : ∀ m, nw V ≤ m → 0 < m → (decDigits V).length ≤ 9 * m := fun m hm h0 => dec_len (by
  have h1 := Nat.lt_of_lt_of_le (lt_nw V) (Nat.pow_le_pow_right zE hm)
  rw [Nat.pow_mul]; exact h1) (by omega)
 exact key 232 h zE
theorem itoa_zero : itoa 0 = [48] := by
 rw [itoa_pos (by omega)]
 show decDigits 0 = _
 rw [decDigits]; rfl
theorem sc_bs (l : List UInt8) : Lib.strCells (bs l) = Lib.byteCells l := rfl
theorem bc_append (l m : List UInt8) : Lib.byteCells (l ++ m) = Lib.byteCells l ++ Lib.byteCells m := by simp [Lib.byteCells]
theorem drop48 (n : Nat) : ([48, 48, 48, 48, 48, 48, 48, 48, 48] : List UInt8).drop n = List.replicate (9 - n) 48 := by
 show (List.replicate 9 48).drop n = _
 rw [List.drop_replicate]
theorem wtext_c (b : Bool) (V : Nat) (hV : nw V ≤ 232) : CtrA Tryz.prog 231 [wA b (nw V) (wd V)] (vI (sv b V)) := by
 have hlen := dec_len_nw hV
 refine ctrA_v _ Tryz.func231 rfl rfl Tryz.ntmps231 rfl fun w0 Z vs hZ hvs => ?_
 match vs, hvs with
 |[], h => exact h.elim
 |[v0], h =>
 obtain ⟨bx, ox, rfl, hz, hlt, hcell⟩ := h.1
 have hcl : ∀ i, i < 234 → w0.cell? ⟨bx, ox + i, none⟩ = some ((wvs 232 b (nw V) (wd V)).getD i undef) := fun i hi => by
  obtain ⟨u, h1, h2⟩ := hcell i hi
  have : u = _ := h2
  rw [h1, this]
 have cb : w0.cell? ⟨bx, ox + 0, none⟩ = some (.bool b) := hcl 0 zE
 have cn : w0.cell? ⟨bx, ox + 1, none⟩ = some (.int .i64 (nw V)) := hcl 1 zE
 have cw : ∀ k, k < 232 → w0.cell? ⟨bx, ox + 2 + k, none⟩ = some (.int .i64 (wd V k)) := fun k hk => by
  have := hcl (k + 2) zO
  rw [List.getD, wvs_get rfl hk] at this
  rw [show ox + 2 + k = ox + (k + 2) by omega]
  exact this
 have hbw := Below.refl w0.heap.size w0
 refine zU ?_
 refine wm ?_
 (refine cq_cond rfl ?_ ?_ <;> intro hb <;> (try simp only [zA, zB, zG, zC, zD, zN] at hb) <;> (try (exfalso; omega)))
 ·have h0 : V = 0 := nw_eq0.1 zO
  subst h0
  refine wm ?_
  exact sq_res1 rfl (.tmp rfl) (by rw [show sv b ((0 : Nat)) = 0 by cases b <;> rfl]; show _ = vS (itoa 0); rw [itoa_zero])
 ·have h0 : V ≠ 0 := fun e => by subst e; exact hb (by rw [nw_zero]; rfl)
  refine cq_skip ?_
  refine sq_then ?_
  refine cq_seq ?_
  refine cq_region ?_
  refine lsq_balloc (w0 := w0) hZ hbw rfl rfl fun bb w2 hb2 hge hbk => ?_
  clear hbw
  have his : Lib.IsBuilder 331 5 w0.heap.size bb (Lib.byteCells []) w2 := .inl ⟨hge, .slice none 0 0, hbk, World.ownsRow_nil _ _ _ _, by simp [Value.ownBlock]⟩
  have hfin : itoa (sv b V) = (if b then [45] else []) ++ (decDigits (wd V (nw V - 1)).toNat ++ tl (wd V) (nw V - 1)) := by
   rw [wtop h0]
   cases b with
   |true =>
    have hneg : -(V : Int) < 0 := by omega
    rw [show sv true V = -(V : Int) by rfl, itoa_neg hneg]; simp
   |false =>
    have hneg : ¬ (V : Int) < 0 := by omega
    rw [show sv false V = (V : Int) by rfl, itoa_pos hneg]; simp
  have hfl : (itoa (sv b V)).length ≤ 2089 := by
   rw [hfin, wtop h0, List.length_append]
   cases b <;> simp <;> omega
  have hd0 := wd_rng V (nw V - 1)
  have hBB : Na.B = 1000000000 := rfl
  rw [hBB] at hd0
  have hit := itoa_c (wd V (nw V - 1)) zO
  have hit0 : itoa (wd V (nw V - 1)) = decDigits (wd V (nw V - 1)).toNat := by rw [itoa_pos (by omega)]; congr 1
  have cwt := cw (nw V - 1) zO
  refine wm ?_
  (refine cq_cond rfl ?_ ?_ <;> intro hb <;> (try simp only [zA, zB, zG, zC, zD, zN] at hb) <;> (try (exfalso; omega)))
  ·subst hb
   refine wm ?_
   refine lsq_wr (w0 := w0) (vs := [.pointer (some ⟨bb, 0, none⟩), .int .u8 45]) hZ hb2 rfl (enters_of' Tryz.func276 rfl rfl) rfl (fun w1 h1 => Tryz.Builder_WriteByte w0.heap.size bb (Lib.byteCells []) 45 w1 (isB_below his h1) (by simp [Lib.byteCells]) (Nat.le_trans hb2.size h1.size)) rfl fun w3 hb3 hψ => ?_
   clear hb2 his
   have his : Lib.IsBuilder 331 5 w0.heap.size bb (Lib.byteCells [45]) w3 := .inr hψ
   have hfin : itoa (sv true V) = [45] ++ (decDigits (wd V (nw V - 1)).toNat ++ tl (wd V) (nw V - 1)) := hfin
   refine wm ?_
   refine dq_g (g_indexk (k := nw V - 1) rfl rfl zO zO) rfl ?_
   refine wm ?_
   refine dq_last tm (by kernel_rfl) (by kernel_rfl) ?_
   refine lsq_wr (w0 := w0) (vs := [.pointer (some ⟨bb, 0, none⟩), .string (bs (itoa (wd V (nw V - 1))))]) hZ hb3 rfl (enters_of' Tryz.func277 rfl rfl) rfl (fun w1 h1 => Tryz.Builder_WriteString w0.heap.size bb (Lib.byteCells [45]) (bs (itoa (wd V (nw V - 1)))) w1 (isB_below his h1) (by rw [Lib.byteCells_length]; show ([45] : List UInt8).length + (itoa (wd V (nw V - 1))).length ≤ _; rw [hit0]; have := congrArg List.length hfin; simp only [List.length_append] at this; simp only [List.length_cons, List.length_nil] at *; omega) (Nat.le_trans hb3.size h1.size)) rfl fun w4 hb4 hψ => ?_
   clear hb3 his
   have his : Lib.IsBuilder 331 5 w0.heap.size bb (Lib.byteCells ([45] ++ decDigits (wd V (nw V - 1)).toNat)) w4 := .inr (by
    have := hψ
    rw [sc_bs, ← bc_append, hit0] at this
    exact this)
   refine wm ?_
   refine cq_loopB (w0 := w0) (γ := Nat) (fun (k : Nat) => [(0, .av (.val (.pointer (some ⟨bx, ox, none⟩)))), (3, .av (.val (.pointer (some ⟨bb, 0, none⟩)))), (4, .av (vi ((k : Int) - 1)))]) (fun k w => k ≤ nw V - 1 ∧ ∃ l, Lib.IsBuilder 331 5 w0.heap.size bb (Lib.byteCells l) w ∧ l ++ tl (wd V) k = itoa (sv true V) ∧ l ≠ []) (fun k => k) (nw V - 1) hZ hb4 (fun _ => rfl) (fun w1 h1 => ⟨Nat.le_refl _, [45] ++ decDigits (wd V (nw V - 1)).toNat, isB_below his h1, by rw [hfin]; simp, by simp [dec_ne]⟩) (ent zS trivial) ?_
   clear hb4 his
   rintro k w5 hb5 ⟨hk, l, his, hl, hl0⟩
   refine wm ?_
   (refine cq_cond rfl ?_ ?_ <;> intro hb <;> (try simp only [zA, zB, zG, zC, zD, zN] at hb) <;> (try (exfalso; omega)))
   ·obtain ⟨j, rfl⟩ : ∃ j, k = j + 1 := ⟨k - 1, by omega⟩
    have e : ((j + 1 : Nat) : Int) - 1 = j := by omega
    rw [e]
    have hdj := wd_rng V j
    rw [hBB] at hdj
    have hij := itoa_c (wd V j) zO
    have hij0 : itoa (wd V j) = decDigits (wd V j).toNat := by rw [itoa_pos (by omega)]; congr 1
    have hjl : (itoa (wd V j)).length ≤ 9 := by rw [hij0]; exact dec_len (by omega) (by decide)
    have cwj := cw j zO
    refine wm ?_
    refine sq_g (g_sfrom (itoa (wd V j)).length rfl rfl rfl hjl) rfl ?_
    rw [drop48]
    refine wm ?_
    refine sq_g (g_sadd (l := List.replicate (9 - (itoa (wd V j)).length) 48) (m := itoa (wd V j)) rfl rfl (by rw [List.length_replicate]; omega)) rfl ?_
    refine wm ?_
    have hpad : List.replicate (9 - (itoa (wd V j)).length) 48 ++ itoa (wd V j) = pad (wd V j).toNat := by rw [hij0]; rfl
    rw [hpad]
    have hpl : (pad (wd V j).toNat).length = 9 := pad_len zO
    have hll : l.length ≤ 2089 := by
     have := congrArg List.length hl
     rw [List.length_append] at this
     omega
    refine lsq_wr (w0 := w0) (vs := [.pointer (some ⟨bb, 0, none⟩), .string (bs (pad (wd V j).toNat))]) hZ hb5 rfl (enters_of' Tryz.func277 rfl rfl) rfl (fun w1 h1 => Tryz.Builder_WriteString w0.heap.size bb (Lib.byteCells l) (bs (pad (wd V j).toNat)) w1 (isB_below his h1) (by rw [Lib.byteCells_length]; show l.length + (pad (wd V j).toNat).length ≤ _; omega) (Nat.le_trans hb5.size h1.size)) rfl fun w6 hb6 hψ => ?_
    have his6 : Lib.IsBuilder 331 5 w0.heap.size bb (Lib.byteCells (l ++ pad (wd V j).toNat)) w6 := .inr (by
     have := hψ
     rw [sc_bs, ← bc_append] at this
     exact this)
    clear hb5 his
    refine wm ?_
    exact sq_roundB j hZ hb6 rfl (by omega) (fun w7 h7 => ⟨by omega, l ++ pad (wd V j).toNat, isB_below his6 h7, by rw [List.append_assoc]; exact hl, by simp [hl0]⟩) (ent zS trivial)
   ·obtain rfl : k = 0 := by omega
    have hl : l = itoa (sv true V) := by rw [← hl]; simp [tl]
    subst hl
    refine wm ?_
    refine lsq_wr (w0 := w0) (vs := [.pointer (some ⟨bb, 0, none⟩)]) (u := .string (bs (itoa (sv true V)))) (ψ := fun _ => True) hZ hb5 rfl (enters_of' Tryz.func278 rfl rfl) rfl (fun w1 h1 => Calls.mono (Tryz.Builder_String w0.heap.size bb (itoa (sv true V)) w1 (isB_below his h1) hl0) fun e w2 h => ⟨h.1, trivial, h.2⟩) rfl fun w6 hb6 _ => ?_
    clear hb5 his
    refine wm ?_
    exact sq_resB hZ hb6 rfl rfl
  ·have hbf : b = false := by simpa using hb
   subst hbf
   have hfin : itoa (sv false V) = [] ++ (decDigits (wd V (nw V - 1)).toNat ++ tl (wd V) (nw V - 1)) := hfin
   refine wm ?_
   refine dq_g (g_indexk (k := nw V - 1) rfl rfl zO zO) rfl ?_
   refine wm ?_
   refine dq_last tm (by kernel_rfl) (by kernel_rfl) ?_
   refine lsq_wr (w0 := w0) (vs := [.pointer (some ⟨bb, 0, none⟩), .string (bs (itoa (wd V (nw V - 1))))]) hZ hb2 rfl (enters_of' Tryz.func277 rfl rfl) rfl (fun w1 h1 => Tryz.Builder_WriteString w0.heap.size bb (Lib.byteCells []) (bs (itoa (wd V (nw V - 1)))) w1 (isB_below his h1) (by rw [Lib.byteCells_length]; show ([] : List UInt8).length + (itoa (wd V (nw V - 1))).length ≤ _; rw [hit0]; have := congrArg List.length hfin; simp only [List.length_append] at this; simp only [List.length_cons, List.length_nil] at *; omega) (Nat.le_trans hb2.size h1.size)) rfl fun w4 hb4 hψ => ?_
   clear hb2 his
   have his : Lib.IsBuilder 331 5 w0.heap.size bb (Lib.byteCells ([] ++ decDigits (wd V (nw V - 1)).toNat)) w4 := .inr (by
    have := hψ
    rw [sc_bs, ← bc_append, hit0] at this
    exact this)
   refine wm ?_
   refine cq_loopB (w0 := w0) (γ := Nat) (fun (k : Nat) => [(0, .av (.val (.pointer (some ⟨bx, ox, none⟩)))), (3, .av (.val (.pointer (some ⟨bb, 0, none⟩)))), (4, .av (vi ((k : Int) - 1)))]) (fun k w => k ≤ nw V - 1 ∧ ∃ l, Lib.IsBuilder 331 5 w0.heap.size bb (Lib.byteCells l) w ∧ l ++ tl (wd V) k = itoa (sv false V) ∧ l ≠ []) (fun k => k) (nw V - 1) hZ hb4 (fun _ => rfl) (fun w1 h1 => ⟨Nat.le_refl _, [] ++ decDigits (wd V (nw V - 1)).toNat, isB_below his h1, by rw [hfin]; simp, by simp [dec_ne]⟩) (ent zS trivial) ?_
   clear hb4 his
   rintro k w5 hb5 ⟨hk, l, his, hl, hl0⟩
   refine wm ?_
   (refine cq_cond rfl ?_ ?_ <;> intro hb <;> (try simp only [zA, zB, zG, zC, zD, zN] at hb) <;> (try (exfalso; omega)))
   ·obtain ⟨j, rfl⟩ : ∃ j, k = j + 1 := ⟨k - 1, by omega⟩
    have e : ((j + 1 : Nat) : Int) - 1 = j := by omega
    rw [e]
    have hdj := wd_rng V j
    rw [hBB] at hdj
    have hij := itoa_c (wd V j) zO
    have hij0 : itoa (wd V j) = decDigits (wd V j).toNat := by rw [itoa_pos (by omega)]; congr 1
    have hjl : (itoa (wd V j)).length ≤ 9 := by rw [hij0]; exact dec_len (by omega) (by decide)
    have cwj := cw j zO
    refine wm ?_
    refine sq_g (g_sfrom (itoa (wd V j)).length rfl rfl rfl hjl) rfl ?_
    rw [drop48]
    refine wm ?_
    refine sq_g (g_sadd (l := List.replicate (9 - (itoa (wd V j)).length) 48) (m := itoa (wd V j)) rfl rfl (by rw [List.length_replicate]; omega)) rfl ?_
    refine wm ?_
    have hpad : List.replicate (9 - (itoa (wd V j)).length) 48 ++ itoa (wd V j) = pad (wd V j).toNat := by rw [hij0]; rfl
    rw [hpad]
    have hpl : (pad (wd V j).toNat).length = 9 := pad_len zO
    have hll : l.length ≤ 2089 := by
     have := congrArg List.length hl
     rw [List.length_append] at this
     omega
    refine lsq_wr (w0 := w0) (vs := [.pointer (some ⟨bb, 0, none⟩), .string (bs (pad (wd V j).toNat))]) hZ hb5 rfl (enters_of' Tryz.func277 rfl rfl) rfl (fun w1 h1 => Tryz.Builder_WriteString w0.heap.size bb (Lib.byteCells l) (bs (pad (wd V j).toNat)) w1 (isB_below his h1) (by rw [Lib.byteCells_length]; show l.length + (pad (wd V j).toNat).length ≤ _; omega) (Nat.le_trans hb5.size h1.size)) rfl fun w6 hb6 hψ => ?_
    have his6 : Lib.IsBuilder 331 5 w0.heap.size bb (Lib.byteCells (l ++ pad (wd V j).toNat)) w6 := .inr (by
     have := hψ
     rw [sc_bs, ← bc_append] at this
     exact this)
    clear hb5 his
    refine wm ?_
    exact sq_roundB j hZ hb6 rfl (by omega) (fun w7 h7 => ⟨by omega, l ++ pad (wd V j).toNat, isB_below his6 h7, by rw [List.append_assoc]; exact hl, by simp [hl0]⟩) (ent zS trivial)
   ·obtain rfl : k = 0 := by omega
    have hl : l = itoa (sv false V) := by rw [← hl]; simp [tl]
    subst hl
    refine wm ?_
    refine lsq_wr (w0 := w0) (vs := [.pointer (some ⟨bb, 0, none⟩)]) (u := .string (bs (itoa (sv false V)))) (ψ := fun _ => True) hZ hb5 rfl (enters_of' Tryz.func278 rfl rfl) rfl (fun w1 h1 => Calls.mono (Tryz.Builder_String w0.heap.size bb (itoa (sv false V)) w1 (isB_below his h1) hl0) fun e w2 h => ⟨h.1, trivial, h.2⟩) rfl fun w6 hb6 _ => ?_
    clear hb5 his
    refine wm ?_
    exact sq_resB hZ hb6 rfl rfl
 |_ :: _ :: _, h => exact h.2.elim
theorem ent_freeze_w {T : Tab} {O : Go.Vc.Own} (k r : Nat) {b : Bool} {n : Int} {f : Nat → Int} (hd : T.get k = .own r 0) (hr : Go.Vc.look O r = some (.wi b n f)) : Ent T O ((k, .av (wA b n f)) :: T.frz r .any) (Go.Vc.Own.drop r O) :=
 wA_eq b n f ▸ ent_freeze_vb k r hd hr
theorem sv_read (m : Int) : sv (decide (m < 0)) m.natAbs = m := by
 unfold sv
 by_cases h : m < 0
 ·rw [decide_eq_true h, if_pos rfl]; omega
 ·rw [decide_eq_false h]; simp; omega
theorem sv_abs (b : Bool) (V : Nat) : (sv b V).natAbs = V := by unfold sv; split <;> omega
theorem sv_plus (b : Bool) (V : Nat) (b' : Bool) (W : Nat) : sv (plusR b V b' W).1 (plusR b V b' W).2 = sv b V + sv b' W := by
 unfold plusR
 by_cases hb : b = b'
 ·subst hb
  rw [if_pos rfl]
  unfold sv
  cases b <;> simp <;> omega
 ·rw [if_neg hb]
  by_cases hl : W ≤ V
  ·rw [if_pos hl]
   unfold sv
   cases b <;> cases b' <;> simp at hb ⊢ <;> omega
  ·rw [if_neg hl]
   unfold sv
   cases b <;> cases b' <;> simp at hb ⊢ <;> omega
theorem nw_LI {k j : Nat} {m : Int} (h : LI k m) (hk : k ≤ 9 * j) : nw m.natAbs ≤ j := by
 refine nw_le ?_
 have h1 : m.natAbs < 10 ^ (9 * j) := Nat.lt_of_lt_of_le h (Nat.pow_le_pow_right zE hk)
 rwa [Nat.pow_mul] at h1
theorem nw_LIs {k j : Nat} {b : Bool} {V : Nat} (h : LI k (sv b V)) (hk : k ≤ 9 * j) : nw V ≤ j := by
 have := nw_LI h hk
 rwa [sv_abs] at this
theorem limited_c (b : Bool) (V : Nat) (h : LI 1000 (sv b V)) : CtrA Tryz.prog 239 [wA b (nw V) (wd V)] (tupOf [vI (sv b V), vi 0]) := by
 have h1 := wtext_c b V (Nat.le_trans (nw_LIs (j := 112) h zE) zE)
 have h2 := wcheck_i (sv b V) h
 refine ctrA _ Tryz.func239 rfl rfl Tryz.ntmps239 rfl fun w Z => ?_
 refine zU ?_
 refine wl ?_
 exact zW
def short (m : Int) : Bool := decide ((itoa m).length ≤ 9)
theorem short_b {m : Int} (h : short m = true) : -1000000000 < m ∧ m < 1000000000 := by
 have h : (itoa m).length ≤ 9 := by simpa [short] using h
 by_cases hm : m < 0
 ·rw [itoa_neg hm] at h
  have h2 : LI 9 m := LI.of_len (by simp at h; omega)
  have : m.natAbs < 10 ^ 9 := h2
  omega
 ·rw [itoa_pos hm] at h
  have h2 : LI 9 m := LI.of_len h
  have : m.natAbs < 10 ^ 9 := h2
  omega
theorem small_y (m n : Int) (hm : short m = true) (hn : short n = true) : CtrA Tryz.prog 236 [vI m, vI n] (tupOf [vi m, vi n, vb true]) := by
 have l1 : (itoa m).length ≤ 9 := by simpa [short] using hm
 have l2 : (itoa n).length ≤ 9 := by simpa [short] using hn
 have h1 := atoi_c (itoa m) m zO (atoi_itoa m)
 have h2 := atoi_c (itoa n) n zO (atoi_itoa n)
 refine ctrA _ Tryz.func236 rfl rfl Tryz.ntmps236 rfl fun w Z => ?_
 refine zU ?_
 refine wl ?_
 (first | refine sq_split rfl rfl ?_ ?_ | refine dq_split rfl rfl ?_ ?_) <;> intro hb <;> (try simp only [zA, zB, zG, zC, zD, zN] at hb) <;> (try (exfalso; omega))
 refine wl ?_
 (refine cq_cond rfl ?_ ?_ <;> intro hb <;> (try simp only [zA, zB, zG, zC, zD, zN] at hb) <;> (try (exfalso; omega)))
 refine wl ?_
 exact zX
theorem small_n (m n : Int) (h : (short m && short n) = false) : CtrA Tryz.prog 236 [vI m, vI n] (tupOf [vi 0, vi 0, vb false]) := by
 have l : ¬ ((itoa m).length ≤ 9 ∧ (itoa n).length ≤ 9) := by
  intro h2
  simp [short, h2.1, h2.2] at h
 refine ctrA _ Tryz.func236 rfl rfl Tryz.ntmps236 rfl fun w Z => ?_
 refine zU ?_
 refine wl ?_
 (first | refine sq_split rfl rfl ?_ ?_ | refine dq_split rfl rfl ?_ ?_) <;> intro hb <;> (try simp only [zA, zB, zG, zC, zD, zN] at hb) <;> (try (exfalso; omega))
 ·refine wl ?_
  exact zX
 ·refine wl ?_
  (refine cq_cond rfl ?_ ?_ <;> intro hb <;> (try simp only [zA, zB, zG, zC, zD, zN] at hb) <;> (try (exfalso; omega)))
  refine wl ?_
  exact zX
def acc (g : Nat → Int) : Nat → Bool × Nat
 |0 => (false, 0)
 |i + 1 => plusR (acc g i).1 (acc g i).2 (decide (g i < 0)) (g i).natAbs
def sumI (g : Nat → Int) : Nat → Int
 |0 => 0
 |i + 1 => sumI g i + g i
theorem acc_sum (g : Nat → Int) : ∀ n, sv (acc g n).1 (acc g n).2 = sumI g n
 |0 => rfl
 |n + 1 => by rw [acc, sv_plus, acc_sum g n, sv_read, sumI]
theorem sum_c (n : Nat) (g : Nat → Int) (hn : n ≤ 1000000) (hg : ∀ i, i < n → LI 1000 (g i)) (hs : ∀ i, i ≤ n → LI 2000 (sumI g i)) (h : LI 1000 (sumI g n)) : CtrA Tryz.prog 241 [.sl n 1 (fun i _ => vI (g i))] (tupOf [vI (sumI g n), vi 0]) := by
 have hw : ∀ i, i ≤ n → nw (acc g i).2 ≤ 232 := fun i hi => Nat.le_trans (nw_LIs (j := 223) (b := (acc g i).1) (by rw [acc_sum]; exact hs i hi) (by decide)) (by decide)
 have hli := limited_c (acc g n).1 (acc g n).2 (by rw [acc_sum]; exact h)
 rw [acc_sum] at hli
 refine ctrA _ Tryz.func241 rfl rfl Tryz.ntmps241 rfl fun w Z => ?_
 refine zU ?_
 refine wl ?_
 refine sq_g (g_build (is := []) (xs := []) (vs := []) tb285 rfl rfl) rfl ?_
 refine sq_v (f_box_w 7 rfl rfl) rfl ?_
 refine wl ?_
 refine cq_loop (γ := Nat) (fun i => [(4, .own 7 0), (9, .av (.sl n 1 (fun i _ => vI (g i)))), (10, .av (vi n)), (11, .av (vi i))]) (fun i => [(7, .wi (acc g i).1 (nw (acc g i).2) (wd (acc g i).2))]) (fun i => i ≤ n) (fun i => n - i) 0 (Nat.zero_le _) (ent zS ⟨⟨_, rfl, by
  show RLe _ (Res.wi false ((nw 0 : Nat) : Int) (wd 0))
  rw [nw_zero, wd_z]; exact .refl _⟩, trivial⟩) ?_
 intro i hi
 refine wl ?_
 (refine cq_cond rfl ?_ ?_ <;> intro hb <;> (try simp only [zA, zB, zG, zC, zD, zN] at hb) <;> (try (exfalso; omega)))
 ·have hgi := hg i zO
  have hgn := nw_LI (j := 112) hgi zE
  have hrd := wread_c (g i) (by
   have := LI.len hgi zE; omega)
  have hpl := wplus_c (acc g i).1 (decide (g i < 0)) (acc g i).2 (g i).natAbs (hw i hi) zO (hw (i + 1) zO)
  refine wl ?_
  refine sq_v (v_call_h [(7, 8)] hrd rfl trivial rfl) rfl ?_
  refine lsq_more (.trans (ent_freeze_w 17 8 rfl rfl) (ent (T' := [(15, .own 7 0), (17, .av (wA (decide (g i < 0)) (nw (g i).natAbs) (wd (g i).natAbs))), (4, .own 7 0), (9, .av (.sl n 1 (fun i _ => vI (g i)))), (10, .av (vi n)), (11, .av (vi i))]) (O' := [(7, .wi (acc g i).1 (nw (acc g i).2) (wd (acc g i).2))]) zS zT)) ?_
  refine sq_v (v_call_h [(1000, 7)] hpl rfl ⟨rfl, trivial⟩ rfl) rfl ?_
  refine wl ?_
  exact sq_round (i + 1) zO zO (ent zS zT)
 ·obtain rfl : i = n := by omega
  refine wl ?_
  refine sq_g (g_call_r hli rfl ⟨.w rfl rfl, trivial⟩ (flat_tup [_, _])) rfl ?_
  refine wl ?_
  exact zW
theorem opposite_c (m : Int) (hm : LI 1000 m) : CtrA Tryz.prog 185 [vI m] (vI (-m)) := by
 have h1 := sign_c m
 have hlen := hm.len zE
 by_cases h0 : m = 0
 ·have e : sgn m = 0 := by unfold sgn; rw [if_pos h0]
  rw [e] at h1
  refine ctrA _ Tryz.func185 rfl rfl Tryz.ntmps185 rfl fun w Z => ?_
  refine zU ?_
  refine wl ?_
  exact sq_res1 rfl (.tmp rfl) (congrArg vI zO)
 ·by_cases hn : m < 0
  ·have e : sgn m = -1 := by unfold sgn; rw [if_neg h0, if_pos hn]
   rw [e] at h1
   refine ctrA _ Tryz.func185 rfl rfl Tryz.ntmps185 rfl fun w Z => ?_
   refine zU ?_
   refine wl ?_
   refine sq_g (g_sfrom 1 rfl rfl rfl (by rw [itoa_neg hn]; simp)) rfl ?_
   refine wl ?_
   have e2 : (itoa m).drop 1 = itoa (-m) := by
    have hneg : ¬ -m < 0 := by omega
    rw [itoa_neg hn, itoa_pos hneg, Int.natAbs_neg]; rfl
   exact sq_res1 rfl (.tmp rfl) (congrArg vS e2)
  ·have e : sgn m = 1 := by unfold sgn; rw [if_neg h0, if_neg hn]
   rw [e] at h1
   refine ctrA _ Tryz.func185 rfl rfl Tryz.ntmps185 rfl fun w Z => ?_
   refine zU ?_
   refine wl ?_
   refine sq_g (g_sadd (l := [45]) (m := itoa m) rfl rfl (by rw [itoa_pos hn]; simp only [List.length_cons, List.length_nil]; omega)) rfl ?_
   refine wl ?_
   have e2 : [45] ++ itoa m = itoa (-m) := by
    have hneg : -m < 0 := by omega
    rw [itoa_pos hn, itoa_neg hneg, Int.natAbs_neg]; rfl
   exact sq_res1 rfl (.tmp rfl) (congrArg vS e2)
theorem all2_c (m n : Int) (hm : LI 1000 m) (hn : LI 1000 n) : CtrA Tryz.prog 227 [.sl 2 1 (fun i _ => vI (two m n i))] (vi 0) :=
 all_c 2 (two m n) zE (fun i hi => by rcases (by omega : i = 0 ∨ i = 1) with rfl | rfl <;> assumption)
theorem wadd_c (m n : Int) (hm : LI 1000 m) (hn : LI 1000 n) (hs : LI 1000 (m + n)) : CtrA Tryz.prog 188 [vI m, vI n] (tupOf [vI (m + n), vi 0]) := by
 have h0 := all2_c m n hm hn
 cases hsm : (short m && short n) with
 |true =>
  rw [Bool.and_eq_true] at hsm
  have h1 := small_y m n hsm.1 hsm.2
  have b1 := short_b hsm.1
  have b2 := short_b hsm.2
  have h2 := result_c (m + n) zO
  refine ctrA _ Tryz.func188 rfl rfl Tryz.ntmps188 rfl fun w Z => ?_
  refine zU ?_
  refine wl ?_
  refine sq_g (g_two rfl rfl) rfl ?_
  refine wl ?_
  exact zW
 |false =>
  have h1 := small_n m n hsm
  have e : sumI (two m n) 2 = m + n := by show 0 + m + n = _; omega
  have h2 := sum_c 2 (two m n) zE (fun i hi => by rcases (by omega : i = 0 ∨ i = 1) with rfl | rfl <;> assumption) (fun i hi => by
   rcases (by omega : i = 0 ∨ i = 1 ∨ i = 2) with rfl | rfl | rfl
   ·exact LI.small (show (0 : Int).natAbs < 10 by decide) zE
   ·have : sumI (two m n) 1 = m := by show 0 + m = _; omega
    rw [this]; exact hm.mono (by decide)
   ·rw [e]; exact hs.mono (by decide)) (by rw [e]; exact hs)
  rw [e] at h2
  refine ctrA _ Tryz.func188 rfl rfl Tryz.ntmps188 rfl fun w Z => ?_
  refine zU ?_
  refine wl ?_
  refine sq_g (g_two rfl rfl) rfl ?_
  refine wl ?_
  refine sq_g (g_two rfl rfl) rfl ?_
  refine wl ?_
  exact zW
theorem wsub_c (m n : Int) (hm : LI 1000 m) (hn : LI 1000 n) (hs : LI 1000 (m - n)) : CtrA Tryz.prog 182 [vI m, vI n] (tupOf [vI (m - n), vi 0]) := by
 have h0 := all2_c m n hm hn
 have h1 := opposite_c n hn
 have h2 := wadd_c m (-n) hm hn.neg (by rw [← Int.sub_eq_add_neg]; exact hs)
 rw [← Int.sub_eq_add_neg] at h2
 refine ctrA _ Tryz.func182 rfl rfl Tryz.ntmps182 rfl fun w Z => ?_
 refine zU ?_
 refine wl ?_
 refine sq_g (g_two rfl rfl) rfl ?_
 refine wl ?_
 exact zW
theorem wneg_c (m : Int) (hm : LI 1000 m) : CtrA Tryz.prog 125 [vI m] (tupOf [vI (-m), vi 0]) := by
 have h0 := wcheck_i m hm
 have h1 := opposite_c m hm
 refine ctrA _ Tryz.func125 rfl rfl Tryz.ntmps125 rfl fun w Z => ?_
 refine zU ?_
 refine wl ?_
 exact zW
theorem sv_mul (b b' : Bool) (V W : Nat) : sv (b != b') (V * W) = sv b V * sv b' W := by
 unfold sv
 cases b <;> cases b' <;> simp [Int.mul_neg, Int.neg_mul]
theorem wmul_c (m n : Int) (hm : LI 1000 m) (hn : LI 1000 n) (hs : LI 1000 (m * n)) : CtrA Tryz.prog 183 [vI m, vI n] (tupOf [vI (m * n), vi 0]) := by
 have h0 := all2_c m n hm hn
 cases hsm : (short m && short n) with
 |true =>
  rw [Bool.and_eq_true] at hsm
  have h1 := small_y m n hsm.1 hsm.2
  have b1 := short_b hsm.1
  have b2 := short_b hsm.2
  have hmn : -1000000000000000000 ≤ m * n ∧ m * n ≤ 1000000000000000000 := by
   have q1 : m.natAbs * n.natAbs ≤ 1000000000 * 1000000000 := Nat.mul_le_mul zO zO
   rw [← Int.natAbs_mul] at q1
   generalize m * n = p at *
   omega
  have h2 := result_c (m * n) zO
  refine ctrA _ Tryz.func183 rfl rfl Tryz.ntmps183 rfl fun w Z => ?_
  refine zU ?_
  refine wl ?_
  refine sq_g (g_two rfl rfl) rfl ?_
  refine wl ?_
  exact zW
 |false =>
  have h1 := small_n m n hsm
  have n1 := nw_LI (j := 112) hm zE
  have n2 := nw_LI (j := 112) hn zE
  have r1 := wread_c m (Nat.le_trans (hm.len zE) zE)
  have r2 := wread_c n (Nat.le_trans (hn.len zE) zE)
  have ht := wtimes_c (decide (m < 0)) (decide (n < 0)) m.natAbs n.natAbs zO
  have e := sv_mul (decide (m < 0)) (decide (n < 0)) m.natAbs n.natAbs
  rw [sv_read, sv_read] at e
  have hl := limited_c (decide (m < 0) != decide (n < 0)) (m.natAbs * n.natAbs) (by rw [e]; exact hs)
  rw [e] at hl
  refine ctrA _ Tryz.func183 rfl rfl Tryz.ntmps183 rfl fun w Z => ?_
  refine zU ?_
  refine wl ?_
  refine sq_g (g_two rfl rfl) rfl ?_
  refine wl ?_
  refine sq_v (v_call_h [(7, 8)] r1 rfl trivial rfl) rfl ?_
  refine lsq_more (.trans (ent_freeze_w 32 8 rfl rfl) (ent (T' := [(1, .av (vI n)), (32, .av (wA (decide (m < 0)) (nw m.natAbs) (wd m.natAbs)))]) (O' := []) zS trivial)) ?_
  refine wl ?_
  refine sq_v (v_call_h [(7, 9)] r2 rfl trivial rfl) rfl ?_
  refine lsq_more (.trans (ent_freeze_w 34 9 rfl rfl) (ent (T' := [(32, .av (wA (decide (m < 0)) (nw m.natAbs) (wd m.natAbs))), (34, .av (wA (decide (n < 0)) (nw n.natAbs) (wd n.natAbs)))]) (O' := []) zS trivial)) ?_
  refine sq_v (v_call_h [] ht rfl trivial rfl) rfl ?_
  refine sq_g (g_call_r hl rfl ⟨.w rfl rfl, trivial⟩ (flat_tup [_, _])) rfl ?_
  refine wl ?_
  exact zW
end Go.Proofs.YtgepmbjmaljgoaaGreatDoor
namespace Go.Na
open Go
theorem fdiv_t {m n : Int} (hn : n ≠ 0) : (m.tmod n ≠ 0 ∧ ¬ (m.tmod n < 0 ↔ n < 0) → m.fdiv n = m.tdiv n - 1 ∧ m.fmod n = m.tmod n + n) ∧ (¬ (m.tmod n ≠ 0 ∧ ¬ (m.tmod n < 0 ↔ n < 0)) → m.fdiv n = m.tdiv n ∧ m.fmod n = m.tmod n) := by
 have h1 := Int.tmod_add_mul_tdiv m n
 have h2 : (m.tmod n).natAbs < n.natAbs := by
  rw [Int.natAbs_tmod]; exact Nat.mod_lt _ (by omega)
 generalize m.tmod n = r at *
 generalize m.tdiv n = q at *
 refine ⟨fun h => fdiv_unique (by rw [← h1, Int.sub_mul, Int.mul_comm]; omega) (by omega), fun h => fdiv_unique (by rw [← h1, Int.mul_comm]; omega) (by omega)⟩
theorem tdiv_b {m n : Int} (h : -1000000000 < m ∧ m < 1000000000) : -1000000000 < m.tdiv n ∧ m.tdiv n < 1000000000 := by
 have : (m.tdiv n).natAbs ≤ m.natAbs := by rw [Int.natAbs_tdiv]; exact Nat.div_le_self _ _
 omega
theorem tmod_b {m n : Int} (h : -1000000000 < m ∧ m < 1000000000) : -1000000000 < m.tmod n ∧ m.tmod n < 1000000000 := by
 have : (m.tmod n).natAbs ≤ m.natAbs := by rw [Int.natAbs_tmod]; exact Nat.mod_le _ _
 omega
end Go.Na
namespace Go.Proofs.YtgepmbjmaljgoaaGreatDoor
open Go Go.Vc Go.RowKit Go.Na Go.Lib
set_option maxHeartbeats 4000000
theorem parted_s (m n : Int) (hm : LI 1000 m) (hn : LI 1000 n) (h0 : n ≠ 0) (hsm : short m = true ∧ short n = true) : CtrA Tryz.prog 282 [vI m, vI n] (tupOf [vI (m.fdiv n), vI (m.fmod n), vi 0]) := by
 have h00 := all2_c m n hm hn
 have hz := itoa_is0 n
 rw [decide_eq_false h0] at hz
 have h1 := small_y m n hsm.1 hsm.2
 have b1 := short_b hsm.1
 have b2 := short_b hsm.2
 have b3 := tdiv_b (n := n) b1
 have b4 := tmod_b (n := n) b1
 obtain ⟨k1, k2⟩ := fdiv_t (m := m) h0
 by_cases hc : m.tmod n ≠ 0 ∧ ¬ (m.tmod n < 0 ↔ n < 0)
 ·obtain ⟨e1, e2⟩ := k1 hc
  have w1 := wof_c (m.tdiv n - 1) zO
  have w2 := wof_c (m.tmod n + n) zO
  rw [e1, e2]
  refine ctrA _ Tryz.func282 rfl rfl Tryz.ntmps282 rfl fun w Z => ?_
  refine zU ?_
  refine wl ?_
  refine sq_g (g_two rfl rfl) rfl ?_
  refine wl ?_
  rw [hz]
  refine wl ?_
  have e3 : (!(decide (m.tmod n < 0) == decide (n < 0))) = true := by
   by_cases x1 : m.tmod n < 0 <;> by_cases x2 : n < 0 <;> simp [x1, x2] at hc ⊢
  (first | refine sq_split rfl rfl ?_ ?_ | refine dq_split rfl rfl ?_ ?_) <;> intro hb <;> (try simp only [zA, zB, zG, zC, zD, zN] at hb) <;> (try (exfalso; omega))
  refine wl ?_
  rw [e3]
  refine wl ?_
  exact zX
 ·obtain ⟨e1, e2⟩ := k2 hc
  have w1 := wof_c (m.tdiv n) zO
  have w2 := wof_c (m.tmod n) zO
  rw [e1, e2]
  refine ctrA _ Tryz.func282 rfl rfl Tryz.ntmps282 rfl fun w Z => ?_
  refine zU ?_
  refine wl ?_
  refine sq_g (g_two rfl rfl) rfl ?_
  refine wl ?_
  rw [hz]
  refine wl ?_
  by_cases hr0 : m.tmod n = 0
  ·(first | refine sq_split rfl rfl ?_ ?_ | refine dq_split rfl rfl ?_ ?_) <;> intro hb <;> (try simp only [zA, zB, zG, zC, zD, zN] at hb) <;> (try (exfalso; omega))
   refine wl ?_
   exact zX
  ·have e3 : (!(decide (m.tmod n < 0) == decide (n < 0))) = false := by
    by_cases x1 : m.tmod n < 0 <;> by_cases x2 : n < 0 <;> simp [x1, x2, hr0] at hc ⊢
   (first | refine sq_split rfl rfl ?_ ?_ | refine dq_split rfl rfl ?_ ?_) <;> intro hb <;> (try simp only [zA, zB, zG, zC, zD, zN] at hb) <;> (try (exfalso; omega))
   refine wl ?_
   rw [e3]
   refine wl ?_
   exact zX
theorem tb285t : Tryz.prog.built 285 [(0, .bool true), (1, .int .i64 1)] = some (wvs 232 true 1 (fun _ => 0)).toArray := by kernel_rfl
theorem wd_one : upd (fun _ => 0) 0 1 = wd 1 := by
 funext i
 unfold upd
 cases i with
 |zero => rfl
 |succ i =>
  rw [if_neg (by omega), wd_out]
  have : nw 1 = 1 := by rw [nw_pos (by decide), nw_eq0.2 (by decide)]
  omega
theorem nw_one : nw 1 = 1 := by rw [nw_pos (by decide), nw_eq0.2 (by decide)]
theorem parted_l (m n : Int) (hm : LI 1000 m) (hn : LI 1000 n) (h0 : n ≠ 0) (hsm : (short m && short n) = false) : CtrA Tryz.prog 282 [vI m, vI n] (tupOf [vI (m.fdiv n), vI (m.fmod n), vi 0]) := by
 have h00 := all2_c m n hm hn
 have hz := itoa_is0 n
 rw [decide_eq_false h0] at hz
 have h1 := small_n m n hsm
 have n1 := nw_LI (j := 112) hm zE
 have n2 := nw_LI (j := 112) hn zE
 have r1 := wread_c m (Nat.le_trans (hm.len zE) zE)
 have r2 := wread_c n (Nat.le_trans (hn.len zE) zE)
 have hN0 : n.natAbs ≠ 0 := by omega
 have hd := wdivided_c (decide (m < 0)) (decide (n < 0)) m.natAbs n.natAbs zO zO hN0
 have hnq : nw (m.natAbs / n.natAbs) ≤ 112 := Nat.le_trans (nw_mono (Nat.div_le_self _ _)) n1
 have hnr : nw (m.natAbs % n.natAbs) ≤ 112 := Nat.le_trans (nw_mono (Nat.mod_le _ _)) n1
 have hdm := Nat.div_add_mod m.natAbs n.natAbs
 have hrl : m.natAbs % n.natAbs < n.natAbs := Nat.mod_lt _ zO
 have hms := sv_read m
 have hns := sv_read n
 generalize m.natAbs / n.natAbs = Q at *
 generalize m.natAbs % n.natAbs = R at *
 generalize hM : m.natAbs = M at *
 generalize hNn : n.natAbs = Nn at *
 generalize decide (m < 0) = bm at *
 generalize decide (n < 0) = bn at *
 refine ctrA _ Tryz.func282 rfl rfl Tryz.ntmps282 rfl fun w Z => ?_
 refine zU ?_
 refine wl ?_
 refine sq_g (g_two rfl rfl) rfl ?_
 refine wl ?_
 rw [hz]
 refine wl ?_
 refine sq_v (v_call_h [(7, 18)] r1 rfl trivial rfl) rfl ?_
 refine lsq_more (.trans (ent_freeze_w 60 18 rfl rfl) (ent (T' := [(1, .av (vI n)), (60, .av (wA bm (nw M) (wd M)))]) (O' := []) zS trivial)) ?_
 refine wl ?_
 refine sq_v (v_call_h [(7, 19)] r2 rfl trivial rfl) rfl ?_
 refine lsq_more (.trans (ent_freeze_w 62 19 rfl rfl) (ent (T' := [(60, .av (wA bm (nw M) (wd M))), (62, .av (wA bn (nw Nn) (wd Nn)))]) (O' := []) zS trivial)) ?_
 refine wl ?_
 refine sq_v (v_call_h [] hd rfl trivial rfl) rfl ?_
 refine sq_g (g_move (s := .tupC [.own 7 0, .own 8 0]) rfl) rfl ?_
 refine wl ?_
 have hRn : 0 < nw R ↔ R ≠ 0 := by
  have := nw_eq0 (V := R)
  omega
 have hmag : m = sv bm (Nn * Q + R) := by rw [← hms, hdm]
 by_cases hc : R ≠ 0 ∧ bm ≠ bn
 ·obtain ⟨hR, hb⟩ := hc
  have e4 : (!(bm == bn)) = true := by simp [hb]
  rw [e4]
  have p1 : plusR true Q true 1 = (true, Q + 1) := by unfold plusR; rw [if_pos rfl]
  have p2 : plusR bm R bn Nn = (bn, Nn - R) := by unfold plusR; rw [if_neg hb, if_neg (by omega)]
  have nq1 : nw (Q + 1) ≤ 113 := by
   refine nw_le ?_
   have := Nat.lt_of_lt_of_le (lt_nw Q) (Nat.pow_le_pow_right (show 0 < 1000000000 by decide) hnq)
   rw [show (113 : Nat) = 112 + 1 by rfl, Nat.pow_succ]
   omega
  have nr1 : nw (Nn - R) ≤ 112 := Nat.le_trans (nw_mono (Nat.sub_le _ _)) n2
  have c1 := wplus_c true true Q 1 (by omega) (by rw [nw_one]; decide) (by rw [p1]; show nw (Q + 1) ≤ 232; omega)
  have c2 := wplus_c bm bn R Nn (by omega) (by omega) (by rw [p2]; show nw (Nn - R) ≤ 232; omega)
  rw [p1] at c1
  rw [p2] at c2
  have t1 := wtext_c true (Q + 1) zO
  have t2 := wtext_c bn (Nn - R) zO
  have hv := fdiv_unique (m := m) (n := n) (q := sv true (Q + 1)) (r := sv bn (Nn - R)) (by
   rw [hmag, ← hns]
   unfold sv
   have hcast : ((Nn - R : Nat) : Int) = Nn - R := by omega
   cases bm <;> cases bn <;> simp at hb ⊢ <;> rw [hcast] <;> grind) (by
   rw [← hns]
   unfold sv
   cases bn <;> simp <;> omega)
  obtain ⟨v1, v2⟩ := hv
  (first | refine sq_split rfl rfl ?_ ?_ | refine dq_split rfl rfl ?_ ?_) <;> intro hb <;> (try simp only [zA, zB, zG, zC, zD, zN] at hb) <;> (try (exfalso; omega))
  refine wl ?_
  rw [e4]
  refine wl ?_
  refine sq_g (g_build (is := [0, 1]) (xs := [_, _]) (vs := [.bool true, .int .i64 1]) tb285t rfl rfl) rfl ?_
  refine sq_v (f_box_w 19 rfl rfl) rfl ?_
  refine wl ?_
  refine sq_s (g_store_ww 0 rfl rfl rfl rfl zE) ?_
  refine wl ?_
  refine lsq_more (.trans (ent_w 19 (n' := ((nw 1 : Nat) : Int)) (f' := wd 1) rfl rfl (by rw [nw_one]; rfl) wd_one) (.trans (ent_freeze_w 114 19 rfl rfl) (ent (T' := [(113, .own 7 0), (114, .av (wA true (nw 1) (wd 1))), (14, .av (wA bn (nw Nn) (wd Nn))), (15, .own 7 0), (16, .own 8 0)]) (O' := [(7, .wi true (nw Q) (wd Q)), (8, .wi bm (nw R) (wd R))]) zS zT))) ?_
  refine sq_v (v_call_h [(1000, 7)] c1 rfl ⟨rfl, trivial⟩ rfl) rfl ?_
  refine wl ?_
  refine sq_v (v_call_h [(1000, 8)] c2 rfl ⟨rfl, trivial⟩ rfl) rfl ?_
  refine wl ?_
  refine sq_g (g_call_r t1 rfl ⟨.w rfl rfl, trivial⟩ (flat_val _)) rfl ?_
  refine wl ?_
  refine sq_g (g_call_r t2 rfl ⟨.w rfl rfl, trivial⟩ (flat_val _)) rfl ?_
  refine wl ?_
  exact sq_resN (rvs := [_, _, _]) (τs := [_, _, _]) rfl rfl ⟨.tmp rfl, .tmp rfl, .tmp rfl, trivial⟩ (by rw [v1, v2])
 ·have hv := fdiv_unique (m := m) (n := n) (q := sv (!(bm == bn)) Q) (r := sv bm R) (by
   rw [hmag, ← hns]
   unfold sv
   cases bm <;> cases bn <;> simp at hc ⊢ <;> grind) (by
   rw [← hns]
   unfold sv
   cases bm <;> cases bn <;> simp at hc ⊢ <;> omega)
  obtain ⟨v1, v2⟩ := hv
  have t1 := wtext_c (!(bm == bn)) Q zO
  have t2 := wtext_c bm R zO
  by_cases hR : R = 0
  ·(first | refine sq_split rfl rfl ?_ ?_ | refine dq_split rfl rfl ?_ ?_) <;> intro hb <;> (try simp only [zA, zB, zG, zC, zD, zN] at hb) <;> (try (exfalso; omega))
   refine wl ?_
   refine sq_g (g_call_r t1 rfl ⟨.w rfl rfl, trivial⟩ (flat_val _)) rfl ?_
   refine wl ?_
   refine sq_g (g_call_r t2 rfl ⟨.w rfl rfl, trivial⟩ (flat_val _)) rfl ?_
   refine wl ?_
   exact sq_resN (rvs := [_, _, _]) (τs := [_, _, _]) rfl rfl ⟨.tmp rfl, .tmp rfl, .tmp rfl, trivial⟩ (by rw [v1, v2])
  ·have e4 : (!(bm == bn)) = false := by
    simp at hc
    simp [hc hR]
   rw [e4] at t1 v1 ⊢
   (first | refine sq_split rfl rfl ?_ ?_ | refine dq_split rfl rfl ?_ ?_) <;> intro hb <;> (try simp only [zA, zB, zG, zC, zD, zN] at hb) <;> (try (exfalso; omega))
   refine wl ?_
   rw [e4]
   refine wl ?_
   refine sq_g (g_call_r t1 rfl ⟨.w rfl rfl, trivial⟩ (flat_val _)) rfl ?_
   refine wl ?_
   refine sq_g (g_call_r t2 rfl ⟨.w rfl rfl, trivial⟩ (flat_val _)) rfl ?_
   refine wl ?_
   exact sq_resN (rvs := [_, _, _]) (τs := [_, _, _]) rfl rfl ⟨.tmp rfl, .tmp rfl, .tmp rfl, trivial⟩ (by rw [v1, v2])
theorem wparted_c (m n : Int) (hm : LI 1000 m) (hn : LI 1000 n) (h0 : n ≠ 0) : CtrA Tryz.prog 282 [vI m, vI n] (tupOf [vI (m.fdiv n), vI (m.fmod n), vi 0]) := by
 cases hsm : (short m && short n) with
 |true => exact parted_s m n hm hn h0 (by rwa [Bool.and_eq_true] at hsm)
 |false => exact parted_l m n hm hn h0 hsm
theorem wquo_c (m n : Int) (hm : LI 1000 m) (hn : LI 1000 n) (h0 : n ≠ 0) (hq : LI 1000 (m.fdiv n)) : CtrA Tryz.prog 235 [vI m, vI n] (tupOf [vI (m.fdiv n), vi 0]) := by
 have h1 := wparted_c m n hm hn h0
 have h2 := wcheck_i _ hq
 refine ctrA _ Tryz.func235 rfl rfl Tryz.ntmps235 rfl fun w Z => ?_
 refine zU ?_
 refine wl ?_
 exact zW
theorem wdivided_o (b b' : Bool) (V W : Nat) (hV : nw V ≤ 231) (hW : nw W ≤ 231) (hW0 : W ≠ 0) :
  CtrH Tryz.prog 230 [.own 1000 0, .own 1001 0] [(1000, .wi b (nw V) (wd V)), (1001, .wi b' (nw W) (wd W))] (.tupC [.own 7 0, .own 8 0]) [(7, .wi false (nw (V / W)) (wd (V / W))), (8, .wi false (nw (V % W)) (wd (V % W))), (1000, .wi b (nw V) (wd V)), (1001, .wi b' (nw W) (wd W))] := by
 have hWp : 0 < W := Nat.pos_of_ne_zero hW0
 have hnr : ∀ k, nw (V / 1000000000 ^ k % W) ≤ nw W := fun k => nw_mono (Nat.le_of_lt (Nat.mod_lt _ hWp))
 have hnq : nw (V / W) ≤ nw V := nw_mono (Nat.div_le_self _ _)
 refine ctrH _ Tryz.func230 rfl rfl Tryz.ntmps230 rfl rfl fun w Z ν => ?_
 refine zU ?_
 refine wl ?_
 refine sq_g (g_build (is := []) (xs := []) (vs := []) tb285 rfl rfl) rfl ?_
 refine sq_v (f_box_w 7 rfl rfl) rfl ?_
 refine sq_g (g_build (is := []) (xs := []) (vs := []) tb285 rfl rfl) rfl ?_
 refine sq_v (f_box_w 8 rfl rfl) rfl ?_
 refine wl ?_
 refine cq_loop (γ := Nat × Nat) (fun q => [(0, .own 1000 0), (1, .own 1001 0), (6, .own 7 0), (7, .own 8 0), (8, .av (vi ((q.1 : Int) - 1)))]) (fun q => [(7, .wi false q.2 (hiq (V / W) q.1)), (8, .wi false (nw (V / 1000000000 ^ q.1 % W)) (wd (V / 1000000000 ^ q.1 % W))), (1000, .wi b (nw V) (wd V)), (1001, .wi b' (nw W) (wd W))]) (fun q => q.1 ≤ nw V ∧ q.2 ≤ 231 ∧ (nw (V / W) ≤ q.2 ∨ q.1 = nw V ∧ 0 < nw V)) (fun q => q.1) (nw V, 0) ⟨by show _ ≤ _; omega, by show _ ≤ _; omega, by show nw (V / W) ≤ 0 ∨ nw V = nw V ∧ 0 < nw V; omega⟩ (ent ⟨.refl _, .refl _, .refl _, .refl _, .int (by show _ = _; omega), trivial⟩ ⟨⟨_, rfl, by
  rw [hiq_top hnq]; exact .refl _⟩, ⟨_, rfl, by
  rw [show V / 1000000000 ^ (nw V) % W = 0 by rw [Nat.div_eq_of_lt (lt_nw V), Nat.zero_mod], nw_zero, wd_z]
  exact .refl _⟩, ⟨_, rfl, .refl _⟩, ⟨_, rfl, .refl _⟩, trivial⟩) ?_
 rintro ⟨k, n⟩ ⟨hk, hn, hqn⟩
 dsimp only at hk hn hqn ⊢
 refine wl ?_
 (refine cq_cond rfl ?_ ?_ <;> intro hb <;> (try simp only [zA, zB, zG, zC, zD, zN] at hb) <;> (try (exfalso; omega)))
 ·obtain ⟨j, rfl⟩ : ∃ j, k = j + 1 := ⟨k - 1, by omega⟩
  have e : ((j + 1 : Nat) : Int) - 1 = j := by omega
  rw [e]
  obtain ⟨dw1, dw2, dw3⟩ := div_word (V := V) (W := W) (k := j) hW0
  have hwd : wd V j = ((V / 1000000000 ^ j % 1000000000 : Nat) : Int) := rfl
  have hd : V / 1000000000 ^ j % 1000000000 < 1000000000 := Nat.mod_lt _ zE
  have hqd : wd (V / W) j = ((V / W / 1000000000 ^ j % 1000000000 : Nat) : Int) := rfl
  have hr1 := hnr (j + 1)
  have hmr : V / 1000000000 ^ (j + 1) % W < W := Nat.mod_lt _ hWp
  rw [← dw2] at hqd
  generalize V / 1000000000 ^ (j + 1) % W = R at *
  have hup := shup_up (R := R) hd
  have hnx := nw_up (R := R) hd
  rw [← hwd] at hup
  generalize V / 1000000000 ^ j % 1000000000 = dg at *
  have ht := trimmed_c false (nw R + 1) (nw (R * 1000000000 + dg)) (wd (R * 1000000000 + dg)) hnx zO (fun i h _ => wd_out h) (by
   by_cases h0 : R * 1000000000 + dg = 0
   ·left; rw [h0, nw_zero]
   ·exact .inr (wd_top h0))
  generalize R * 1000000000 + dg = X at *
  refine wl ?_
  refine dq_g (g_slice_own (l := 1) (h := 232) rfl rfl ⟨_, _, rfl, rfl⟩ rfl zE zE zE) rfl ?_
  refine wl ?_
  refine dq_g (g_slice_own0 (h := nw R) rfl rfl rfl zO zE) rfl ?_
  refine wl ?_
  refine dq_call_h (g_copy_w (m := nw R) rfl rfl rfl zO) rfl ?_
  refine wl ?_
  refine dq_s (g_store_ww 0 rfl rfl rfl rfl zE) ?_
  refine wl ?_
  refine lsq_more (ent_w 8 (n' := ((nw R + 1 : Nat) : Int)) (f' := wd X) rfl rfl zO hup) ?_
  refine sq_v (v_call_h [(1000, 8)] ht rfl ⟨rfl, trivial⟩ rfl) rfl ?_
  refine wl ?_
  refine cq_loop (γ := Nat × Nat) (fun q => [(0, .own 1000 0), (1, .own 1001 0), (6, .own 7 0), (7, .own 8 0), (8, .av (vi j)), (9, .av (vi q.2))]) (fun q => [(7, .wi false n (hiq (V / W) (j + 1))), (8, .wi false (nw q.1) (wd q.1)), (1000, .wi b (nw V) (wd V)), (1001, .wi b' (nw W) (wd W))]) (fun q => X = q.1 + q.2 * W) (fun q => q.1) (X, 0) (by show X = X + 0 * W; omega) (ent zS zT) ?_
  rintro ⟨Y, dd⟩ hY
  dsimp only at hY ⊢
  have hYX : nw Y ≤ 232 := Nat.le_trans (nw_mono (by omega : Y ≤ X)) zO
  have hbe := beyond_c Y W false b' hYX zO
  have hb2 := bey_ge Y W
  have hdd : dd < 1000000000 := by
   refine Nat.lt_of_le_of_lt ?_ dw3
   rw [Nat.le_div_iff_mul_le hWp]; omega
  refine wl ?_
  refine sq_g (g_call_r hbe rfl ⟨.w rfl rfl, .w rfl rfl, trivial⟩ (flat_val _)) rfl ?_
  refine wl ?_
  (refine cq_cond rfl ?_ ?_ <;> intro hb <;> (try simp only [zA, zB, zG, zC, zD, zN] at hb) <;> (try (exfalso; omega)))
  ·have hes := estimate_c Y W false b' hYX zO hW0
   obtain ⟨he1, he2, he3⟩ := est_ok hW0 (hb2.1 zO)
   obtain ⟨κ, hκ⟩ : ∃ κ : Nat, est Y W = κ := ⟨(est Y W).toNat, by omega⟩
   rw [hκ] at hes he1 he2 he3
   have hle : κ * W ≤ Y := by rw [← Int.natCast_mul] at he3; omega
   have hsub : (dd + κ) * W ≤ X := by rw [Nat.add_mul]; omega
   have hdk : dd + κ < 1000000000 := by
    refine Nat.lt_of_le_of_lt ?_ dw3
    rw [Nat.le_div_iff_mul_le hWp]; exact hsub
   have hcz := carry_o false b' Y W (Y - κ * W) 0 (-(κ : Int)) hYX (by omega) (Nat.le_trans (nw_mono (Nat.sub_le _ _)) hYX) (by omega) (by rw [Int.natCast_sub hle, Int.natCast_mul]; simp; grind)
   refine wl ?_
   refine sq_g (g_call_r hes rfl ⟨.w rfl rfl, .w rfl rfl, trivial⟩ (flat_val _)) rfl ?_
   refine wl ?_
   refine sq_v (v_call_h [(1000, 8), (1001, 1001)] hcz rfl ⟨rfl, rfl, trivial⟩ rfl) rfl ?_
   refine wl ?_
   have hκ0 : 0 < κ * W := Nat.mul_pos zO hWp
   exact sq_round (g := (Y, dd)) (Y - κ * W, dd + κ) (by show X = Y - κ * W + (dd + κ) * W; rw [Nat.add_mul]; omega) (by show Y - κ * W < Y; omega) (ent ⟨.refl _, .refl _, .refl _, .refl _, .refl _, .int (by show (dd : Int) + κ = ((dd + κ : Nat) : Int); omega), trivial⟩ zT)
  ·have hlt : Y < W := by omega
   have q1 : X % W = Y := by rw [hY, Nat.add_mul_mod_self_right, Nat.mod_eq_of_lt hlt]
   have q2 : X / W = dd := by rw [hY, Nat.add_mul_div_right _ _ hWp, Nat.div_eq_of_lt hlt, Nat.zero_add]
   rw [q2] at hqd
   rw [q1] at dw1
   have hmx : ((max n (j + 1) : Nat) : Int) = if (n : Int) < (j : Int) + 1 then (j : Int) + 1 else n := by split <;> omega
   refine wl ?_
   exact sq_round (g := (j + 1, n)) (j, max n (j + 1)) ⟨by show j ≤ nw V; omega, by show max n (j + 1) ≤ 231; omega, .inl (by show nw (V / W) ≤ max n (j + 1); omega)⟩ (by show j < j + 1; omega) (ent zS ⟨⟨_, rfl, by
    dsimp only
    rw [hmx, show hiq (V / W) j = _ from (hiq_step (Q := V / W) (k := j)).symm, hqd]
    exact .refl _⟩, ⟨_, rfl, by
    dsimp only
    rw [← dw1]
    exact .refl _⟩, ⟨_, rfl, .refl _⟩, ⟨_, rfl, .refl _⟩, trivial⟩)
 ·obtain rfl : k = 0 := by omega
  rw [hiq_zero, Nat.pow_zero, Nat.div_one]
  have ht := trimmed_c false n (nw (V / W)) (wd (V / W)) zO zO (fun i h _ => wd_out h) (by
   by_cases h0 : V / W = 0
   ·left; rw [h0, nw_zero]
   ·exact .inr (wd_top h0))
  refine wl ?_
  refine sq_v (v_call_h [(1000, 7)] ht rfl ⟨rfl, trivial⟩ rfl) rfl ?_
  refine wl ?_
  exact sq_more (T' := [(4, .own 7 0), (5, .own 8 0)]) (O' := [(7, .wi false (nw (V / W)) (wd (V / W))), (8, .wi false (nw (V % W)) (wd (V % W))), (1000, .wi b (nw V) (wd V)), (1001, .wi b' (nw W) (wd W))]) (ent zS zT) (sq_retHC (c1 := .own 7 0) (c2 := .own 8 0) rfl rfl rfl rfl rfl)
theorem wd0 {V : Nat} (h : nw V ≤ 1) : wd V 0 = V := by
 have := vw_wd 1 V (Nat.lt_of_lt_of_le (lt_nw V) (Nat.pow_le_pow_right zE h))
 simpa [vw] using this
theorem wgcd_c (m n : Int) (hm : LI 1000 m) (hn : LI 1000 n) : CtrA Tryz.prog 175 [vI m, vI n] (tupOf [vI (Nat.gcd m.natAbs n.natAbs : Nat), vi 0]) := by
 have h00 := all2_c m n hm hn
 have n1 := nw_LI (j := 112) hm zE
 have n2 := nw_LI (j := 112) hn zE
 have r1 := wread_c m (Nat.le_trans (hm.len zE) zE)
 have r2 := wread_c n (Nat.le_trans (hn.len zE) zE)
 generalize m.natAbs = M at *
 generalize n.natAbs = N at *
 refine ctrA _ Tryz.func175 rfl rfl Tryz.ntmps175 rfl fun w Z => ?_
 refine zU ?_
 refine wl ?_
 refine sq_g (g_two rfl rfl) rfl ?_
 refine wl ?_
 refine sq_v (v_call_h [(7, 20)] r1 rfl trivial rfl) rfl ?_
 refine wl ?_
 refine sq_v (v_call_h [(7, 21)] r2 rfl trivial rfl) rfl ?_
 refine wl ?_
 refine cq_loop (γ := (Bool × Bool) × (Nat × Nat)) (fun q => [(7, .own 20 0), (8, .own 21 0)]) (fun q => [(20, .wi q.1.1 (nw q.2.1) (wd q.2.1)), (21, .wi q.1.2 (nw q.2.2) (wd q.2.2))]) (fun q => Nat.gcd q.2.1 q.2.2 = Nat.gcd M N ∧ nw q.2.1 ≤ 112 ∧ nw q.2.2 ≤ 112) (fun q => q.2.2) ((decide (m < 0), decide (n < 0)), (M, N)) ⟨rfl, n1, n2⟩ (ent zS zT) ?_
 rintro ⟨⟨bx, by'⟩, x, y⟩ ⟨k1, k2, k3⟩
 dsimp only at k1 k2 k3 ⊢
 have hy := nw_eq0 (V := y)
 refine wl ?_
 (refine cq_cond rfl ?_ ?_ <;> intro hb <;> (try simp only [zA, zB, zG, zC, zD, zN] at hb) <;> (try (exfalso; omega)))
 ·refine wl ?_
  by_cases hs : nw x ≤ 1 ∧ nw y ≤ 1
  ·have e1 := wd0 hs.1
   have e2 := wd0 hs.2
   have q1 := wd_rng x 0
   have q2 := wd_rng y 0
   have hB : Na.B = 1000000000 := rfl
   rw [hB, e1] at q1
   rw [hB, e2] at q2
   (first | refine sq_split rfl rfl ?_ ?_ | refine dq_split rfl rfl ?_ ?_) <;> intro hb <;> (try simp only [zA, zB, zG, zC, zD, zN] at hb) <;> (try (exfalso; omega))
   refine wl ?_
   (refine cq_cond rfl ?_ ?_ <;> intro hb <;> (try simp only [zA, zB, zG, zC, zD, zN] at hb) <;> (try (exfalso; omega)))
   refine wl ?_
   rw [e1, e2]
   refine cq_loop (γ := Nat × Nat) (fun q => [(9, .av (vi q.1)), (10, .av (vi q.2))]) (fun _ => []) (fun q => Nat.gcd q.1 q.2 = Nat.gcd M N ∧ q.1 < 1000000000 ∧ q.2 < 1000000000) (fun q => q.2) (x, y) ⟨k1, by dsimp only; omega, by dsimp only; omega⟩ (ent zS trivial) ?_
   rintro ⟨x, y⟩ ⟨k1, k2, k3⟩
   dsimp only at k1 k2 k3 ⊢
   refine wl ?_
   (refine cq_cond rfl ?_ ?_ <;> intro hb <;> (try simp only [zA, zB, zG, zC, zD, zN] at hb) <;> (try (exfalso; omega)))
   ·refine wl ?_
    exact sq_round (g := (x, y)) (y, x % y) ⟨by show Nat.gcd y (x % y) = _; rw [gcd_step x y (by omega), k1], k3, by show x % y < _; have := Nat.mod_lt x (show y > 0 by omega); omega⟩ (by show x % y < y; exact Nat.mod_lt _ (by omega)) (ent ⟨.refl _, .int (by dsimp only; omega), trivial⟩ trivial)
   ·obtain rfl : y = 0 := by omega
    rw [Nat.gcd_zero_right] at k1
    have hof := wof_c x zO
    refine wl ?_
    exact sq_resN (rvs := [_, _]) (τs := [_, _]) rfl rfl ⟨.tmp rfl, .tmp rfl, trivial⟩ (by rw [k1])
  ·(first | refine sq_split rfl rfl ?_ ?_ | refine dq_split rfl rfl ?_ ?_) <;> intro hb <;> (try simp only [zA, zB, zG, zC, zD, zN] at hb) <;> (try (exfalso; omega))
   ·refine wl ?_
    (refine cq_cond rfl ?_ ?_ <;> intro hb <;> (try simp only [zA, zB, zG, zC, zD, zN] at hb) <;> (try (exfalso; omega)))
    have hd := wdivided_o bx by' x y zO zO zO
    refine wl ?_
    refine sq_v (v_call_h [(1000, 20), (1001, 21), (7, 22), (8, 23)] hd rfl ⟨rfl, rfl, trivial⟩ rfl) rfl ?_
    refine wl ?_
    refine sq_g (g_move (s := .tupC [.own 22 0, .own 23 0]) rfl) rfl ?_
    refine wl ?_
    exact sq_round (g := ((bx, by'), x, y)) ((by', false), (y, x % y)) ⟨by show Nat.gcd y (x % y) = _; rw [gcd_step x y (by omega), k1], k3, Nat.le_trans (nw_mono (Nat.mod_le _ _)) k2⟩ (by show x % y < y; exact Nat.mod_lt _ (by omega)) (ent_ren [(20, 21), (21, 23)] ⟨rfl, rfl, trivial⟩ ⟨rfl, rfl, trivial⟩ rfl rfl)
   ·have hd := wdivided_o bx by' x y zO zO zO
    refine wl ?_
    refine sq_v (v_call_h [(1000, 20), (1001, 21), (7, 22), (8, 23)] hd rfl ⟨rfl, rfl, trivial⟩ rfl) rfl ?_
    refine wl ?_
    refine sq_g (g_move (s := .tupC [.own 22 0, .own 23 0]) rfl) rfl ?_
    refine wl ?_
    exact sq_round (g := ((bx, by'), x, y)) ((by', false), (y, x % y)) ⟨by show Nat.gcd y (x % y) = _; rw [gcd_step x y (by omega), k1], k3, Nat.le_trans (nw_mono (Nat.mod_le _ _)) k2⟩ (by show x % y < y; exact Nat.mod_lt _ (by omega)) (ent_ren [(20, 21), (21, 23)] ⟨rfl, rfl, trivial⟩ ⟨rfl, rfl, trivial⟩ rfl rfl)
 ·obtain rfl : y = 0 := by omega
  rw [Nat.gcd_zero_right] at k1
  have t1 := wtext_c false x zO
  refine wl ?_
  refine sq_g (g_call_r t1 rfl ⟨.w rfl rfl, trivial⟩ (flat_val _)) rfl ?_
  refine wl ?_
  exact sq_resN (rvs := [_, _]) (τs := [_, _]) rfl rfl ⟨.tmp rfl, .tmp rfl, trivial⟩ (by rw [← k1]; rfl)
theorem index_47 {a b : List UInt8} (h : (47 : UInt8) ∉ a) : Lib.index (a ++ 47 :: b) [47] = a.length := by
 refine Lib.index_first (by simp) (by simp [Lib.occAt]) fun j hj => ?_
 have h1 : a[j] ≠ 47 := fun e => h (e ▸ List.getElem_mem hj)
 simp only [Lib.occAt]
 rw [List.drop_append_of_le_length (by omega), List.drop_eq_getElem_cons hj]
 show ((47 == a[j]) && _) = false
 rw [beq_eq_false_iff_ne.2 (Ne.symm h1)]; rfl
theorem index_no47 {a : List UInt8} (h : (47 : UInt8) ∉ a) : Lib.index a [47] = -1 := by
 refine Lib.index_none fun j hj => ?_
 simp only [Lib.occAt]
 by_cases hl : j < a.length
 ·have h1 : a[j] ≠ 47 := fun e => h (e ▸ List.getElem_mem hl)
  rw [List.drop_eq_getElem_cons hl]
  show ((47 == a[j]) && _) = false
  rw [beq_eq_false_iff_ne.2 (Ne.symm h1)]; rfl
 ·rw [List.drop_eq_nil_of_le (by omega)]
  rfl
theorem cut_rtx (q : Rat) : Lib.cut (rtx q) [47] = if q.den = 1 then (itoa q.num, [], false) else (itoa q.num, decDigits q.den, true) := by
 unfold Lib.cut rtx
 split
 ·rw [index_no47 (no47 q.num), if_neg (by omega)]
 ·rw [index_47 (no47 q.num), if_pos (by omega)]
  simp
theorem LR.tlen {q : Rat} (h : LR 1000 q) : (rtx q).length ≤ 2003 := by
 have h1 := h.1.len zE
 have h2 := h.2.len zE
 have h3 : (itoa q.num).length ≤ 1001 := by
  by_cases hn : q.num < 0
  ·rw [itoa_neg hn]; simp; omega
  ·rw [itoa_pos hn]; omega
 unfold rtx
 split
 ·omega
 ·rw [List.length_append, List.length_cons]
  rw [Int.natAbs_natCast] at h2
  omega
theorem itoa_one : itoa 1 = [49] := by
 rw [itoa_pos (by decide)]
 show decDigits 1 = _
 rw [decDigits]; rfl
theorem cut1 (q : Rat) (h : LR 1000 q) (hd : q.den = 1) : CtrA Tryz.prog 172 [vR q] (tupOf [vI q.num, vS [49], vb false]) := by
 have h1 := cut_c (rtx q) (by have := LR.tlen h; omega)
 rw [cut_rtx, if_pos hd] at h1
 refine ctrA _ Tryz.func172 rfl rfl Tryz.ntmps172 rfl fun w Z => ?_
 refine zU ?_
 refine wl ?_
 exact zX
theorem cut2 (q : Rat) (h : LR 1000 q) (hd : q.den ≠ 1) : CtrA Tryz.prog 172 [vR q] (tupOf [vI q.num, vI q.den, vb true]) := by
 have h1 := cut_c (rtx q) (by have := LR.tlen h; omega)
 rw [cut_rtx, if_neg hd, ← itoa_nat] at h1
 refine ctrA _ Tryz.func172 rfl rfl Tryz.ntmps172 rfl fun w Z => ?_
 refine zU ?_
 refine wl ?_
 exact zX
theorem rcut_c (q : Rat) (h : LR 1000 q) : CtrA Tryz.prog 172 [vR q] (tupOf [vI q.num, vI q.den, vb (decide (q.den ≠ 1))]) := by
 by_cases hd : q.den = 1
 ·have := cut1 q h hd
  have e : vI (q.den : Int) = vS [49] := by rw [hd]; exact congrArg vS itoa_one
  rw [e, decide_eq_false (by simpa using hd)]
  exact this
 ·rw [decide_eq_true hd]
  exact cut2 q h hd
theorem rjoined_c (m e : Int) (hm : LI 1000 m) (he : LI 1000 e) : CtrA Tryz.prog 126 [vI m, vI e] (vS (if e = 1 then itoa m else itoa m ++ 47 :: itoa e)) := by
 have l1 := hm.len zE
 have l2 := he.len zE
 have hl : ∀ k : Int, (decDigits k.natAbs).length ≤ 1000 → (itoa k).length ≤ 1001 := fun k hk => by
  by_cases hn : k < 0
  ·rw [itoa_neg hn]; simp; omega
  ·rw [itoa_pos hn]; omega
 have l3 := hl m l1
 have l4 := hl e l2
 have e1 : (itoa e == [49]) = decide (e = 1) := by
  rw [← itoa_one]
  by_cases h : e = 1
  ·subst h; simp
  ·rw [decide_eq_false h, beq_eq_false_iff_ne]
   exact fun h2 => h (itoa_inj h2)
 by_cases h : e = 1
 ·rw [if_pos h]
  rw [decide_eq_true h] at e1
  refine ctrA _ Tryz.func126 rfl rfl Tryz.ntmps126 rfl fun w Z => ?_
  refine zU ?_
  refine wl ?_
  rw [e1]
  refine wl ?_
  exact zV
 ·rw [if_neg h]
  rw [decide_eq_false h] at e1
  refine ctrA _ Tryz.func126 rfl rfl Tryz.ntmps126 rfl fun w Z => ?_
  refine zU ?_
  refine wl ?_
  rw [e1]
  refine wl ?_
  refine sq_g (g_sadd (l := itoa m) (m := [47]) rfl rfl (by simp only [List.length_cons, List.length_nil]; omega)) rfl ?_
  refine wl ?_
  refine sq_g (g_sadd (l := itoa m ++ [47]) (m := itoa e) rfl rfl (by simp only [List.length_append, List.length_cons, List.length_nil]; omega)) rfl ?_
  refine wl ?_
  exact sq_res1 rfl (.tmp rfl) (by rw [List.append_assoc]; rfl)
abbrev E0 : Res := .vb [.int .i64 0]
theorem do_c (f : FuncId) (x y r : Int) (hc : CtrA Tryz.prog f [vI x, vI y] (tupOf [vI r, vi 0])) : CtrH Tryz.prog 181 [.own 1000 0, .av (.val (.func (.func f) #[] #[])), .av (vI x), .av (vI y)] [(1000, E0)] (.av (vI r)) [(1000, E0)] := by
 refine ctrH _ Tryz.func181 rfl rfl Tryz.ntmps181 rfl rfl fun w Z ν => ?_
 refine zU ?_
 refine wl ?_
 refine sq_s (g_store_vb rfl rfl rfl rfl zE rfl) ?_
 refine wl ?_
 exact sq_more (T' := [(8, .av (vI r))]) (O' := [(1000, E0)]) (ent ⟨.refl _, trivial⟩ zT) (sq_retH rfl rfl rfl)
theorem ssub_c (x y : Int) (hx : LI 1000 x) (hy : LI 1000 y) (h : LI 1000 (x - y)) : CtrH Tryz.prog 121 [.own 1000 0, .av (vI x), .av (vI y)] [(1000, E0)] (.av (vI (x - y))) [(1000, E0)] := by
 have hc := do_c 182 x y _ (wsub_c x y hx hy h)
 refine ctrH _ Tryz.func121 rfl rfl Tryz.ntmps121 rfl rfl fun w Z ν => ?_
 refine zU ?_
 refine wl ?_
 refine sq_v (v_call_h [] hc rfl ⟨rfl, trivial⟩ rfl) rfl ?_
 refine wl ?_
 exact sq_more (T' := [(6, .av (vI (x - y)))]) (O' := [(1000, E0)]) (ent ⟨.refl _, trivial⟩ zT) (sq_retH rfl rfl rfl)
def prodI (g : Nat → Int) : Nat → Int
 |0 => 1
 |i + 1 => prodI g i * g i
theorem smul_c (n : Nat) (g : Nat → Int) (hn : n ≤ 1000000) (hg : ∀ i, i < n → LI 1000 (g i)) (hp : ∀ i, i ≤ n → LI 1000 (prodI g i)) : CtrH Tryz.prog 122 [.own 1000 0, .av (.sl n 1 (fun i _ => vI (g i)))] [(1000, E0)] (.av (vI (prodI g n))) [(1000, E0)] := by
 refine ctrH _ Tryz.func122 rfl rfl Tryz.ntmps122 rfl rfl fun w Z ν => ?_
 refine zU ?_
 refine wl ?_
 refine sq_g (g_bound (caps := [.own 1000 0]) rfl) rfl ?_
 refine wl ?_
 refine sq_g (g_assign (s := .fnC 181 [.own 1000 0]) rfl) rfl ?_
 refine wl ?_
 refine cq_loop (γ := Nat) (fun i => [(5, .av (vI (prodI g i))), (6, .fnC 181 [.own 1000 0]), (11, .av (.sl n 1 (fun i _ => vI (g i)))), (12, .av (vi n)), (13, .av (vi i))]) (fun _ => [(1000, E0)]) (fun i => i ≤ n) (fun i => n - i) 0 (Nat.zero_le _) (ent ⟨by
  show SLe (.av (vS [49])) (.av (vS (itoa 1)))
  rw [itoa_one]; exact .refl _, .refl _, .refl _, .refl _, .refl _, trivial⟩ zT) ?_
 intro i hi
 refine wl ?_
 (refine cq_cond rfl ?_ ?_ <;> intro hb <;> (try simp only [zA, zB, zG, zC, zD, zN] at hb) <;> (try (exfalso; omega)))
 ·have hc := do_c 183 (prodI g i) (g i) _ (wmul_c _ _ (hp i hi) (hg i zO) (hp (i + 1) zO))
  refine wl ?_
  refine sq_g (g_move (s := .fnC 181 [.own 1000 0]) rfl) rfl ?_
  refine wl ?_
  refine sq_v (v_call_hb [] hc rfl rfl ⟨rfl, trivial⟩ rfl) rfl ?_
  refine wl ?_
  exact sq_round (i + 1) zO zO (ent zS zT)
 ·obtain rfl : i = n := by omega
  refine wl ?_
  exact sq_retH rfl rfl rfl
theorem head45 (d : Int) : decide ((itoa d).head? = some 45) = decide (d < 0) := by
 by_cases h : d < 0
 ·rw [itoa_neg h, decide_eq_true h]; rfl
 ·rw [itoa_pos h, decide_eq_false h]
  obtain ⟨b, r, e, hb⟩ := dec_cons d.natAbs
  rw [e, decide_eq_false]
  intro h2
  simp at h2
  exact dig45 hb h2
theorem vI0 : vI 0 = vS [48] := congrArg vS itoa_zero
theorem rlowest_c (n d : Int) (hn : LI 1000 n) (hdd : LI 1000 d) (hd : d ≠ 0) : CtrH Tryz.prog 180 [.own 1000 0, .av (vI n), .av (vI d)] [(1000, E0)] (.av (vR (Rat.divInt n d))) [(1000, E0)] := by
 have hg := do_c 175 n d _ (wgcd_c n d hn hdd)
 have hgp : 0 < Nat.gcd n.natAbs d.natAbs := Nat.gcd_pos_of_pos_right _ zO
 have hgle : Nat.gcd n.natAbs d.natAbs ≤ d.natAbs := Nat.le_of_dvd zO (Nat.gcd_dvd_right _ _)
 have hgl : LI 1000 ((Nat.gcd n.natAbs d.natAbs : Nat) : Int) := hdd.le zO
 have hpre := hasp_c (itoa d)
 rw [head45] at hpre
 have key : ∀ G : Int, G = (if d < 0 then -((Int.gcd n d : Nat) : Int) else ((Int.gcd n d : Nat) : Int)) → ∃ a b : Int, CtrH Tryz.prog 181 [.own 1000 0, .av (.val (.func (.func 235) #[] #[])), .av (vI n), .av (vI G)] [(1000, E0)] (.av (vI a)) [(1000, E0)] ∧ CtrH Tryz.prog 181 [.own 1000 0, .av (.val (.func (.func 235) #[] #[])), .av (vI d), .av (vI G)] [(1000, E0)] (.av (vI b)) [(1000, E0)] ∧ CtrA Tryz.prog 126 [vI a, vI b] (vR (Rat.divInt n d)) := by
  intro G hG
  have hGa : G.natAbs = Nat.gcd n.natAbs d.natAbs := by
   rw [hG]; unfold Int.gcd; split <;> omega
  have hG0 : G ≠ 0 := by omega
  have hGl : LI 1000 G := hdd.le zO
  have d1 : G ∣ n := Int.natAbs_dvd_natAbs.1 (hGa ▸ Nat.gcd_dvd_left _ _)
  have d2 : G ∣ d := Int.natAbs_dvd_natAbs.1 (hGa ▸ Nat.gcd_dvd_right _ _)
  have q1 : LI 1000 (n / G) := hn.le (by rw [Int.natAbs_ediv_of_dvd d1]; exact Nat.div_le_self _ _)
  have q2 : LI 1000 (d / G) := hdd.le (by rw [Int.natAbs_ediv_of_dvd d2]; exact Nat.div_le_self _ _)
  have w1 := wquo_c n G hn hGl hG0 (by rw [fdiv_dvd d1]; exact q1)
  have w2 := wquo_c d G hdd hGl hG0 (by rw [fdiv_dvd d2]; exact q2)
  rw [fdiv_dvd d1] at w1
  rw [fdiv_dvd d2] at w2
  have hj := rjoined_c (n / G) (d / G) q1 q2
  rw [← rtx_div hd hG] at hj
  exact ⟨n / G, d / G, do_c 235 n G _ w1, do_c 235 d G _ w2, hj⟩
 by_cases hneg : d < 0
 ·rw [decide_eq_true hneg] at hpre
  have hs := ssub_c 0 _ (LI.small (by decide) (by decide)) hgl (by rw [Int.zero_sub]; exact hgl.neg)
  rw [vI0] at hs
  obtain ⟨a, b, k1, k2, k3⟩ := key (0 - (Nat.gcd n.natAbs d.natAbs : Nat)) (by rw [if_pos hneg, Int.zero_sub]; rfl)
  refine ctrH _ Tryz.func180 rfl rfl Tryz.ntmps180 rfl rfl fun w Z ν => ?_
  refine zU ?_
  refine wl ?_
  refine sq_v (v_call_h [] hg rfl ⟨rfl, trivial⟩ rfl) rfl ?_
  refine wl ?_
  refine sq_v (v_call_h [] hs rfl ⟨rfl, trivial⟩ rfl) rfl ?_
  refine wl ?_
  refine sq_v (v_call_h [] k1 rfl ⟨rfl, trivial⟩ rfl) rfl ?_
  refine wl ?_
  refine sq_v (v_call_h [] k2 rfl ⟨rfl, trivial⟩ rfl) rfl ?_
  refine wl ?_
  exact sq_more (T' := [(6, .av (vR (Rat.divInt n d)))]) (O' := [(1000, E0)]) (ent ⟨.refl _, trivial⟩ zT) (sq_retH rfl rfl rfl)
 ·rw [decide_eq_false hneg] at hpre
  obtain ⟨a, b, k1, k2, k3⟩ := key (Nat.gcd n.natAbs d.natAbs : Nat) (by rw [if_neg hneg]; rfl)
  refine ctrH _ Tryz.func180 rfl rfl Tryz.ntmps180 rfl rfl fun w Z ν => ?_
  refine zU ?_
  refine wl ?_
  refine sq_v (v_call_h [] hg rfl ⟨rfl, trivial⟩ rfl) rfl ?_
  refine wl ?_
  refine sq_v (v_call_h [] k1 rfl ⟨rfl, trivial⟩ rfl) rfl ?_
  refine wl ?_
  refine sq_v (v_call_h [] k2 rfl ⟨rfl, trivial⟩ rfl) rfl ?_
  refine wl ?_
  exact sq_more (T' := [(6, .av (vR (Rat.divInt n d)))]) (O' := [(1000, E0)]) (ent ⟨.refl _, trivial⟩ zT) (sq_retH rfl rfl rfl)
end Go.Proofs.YtgepmbjmaljgoaaGreatDoor
section
namespace Go.Proofs.YtgepmbjmaljgoaaGreatDoor
open Go Go.Vc Go.RowKit Go.Na Go.Lib
set_option maxHeartbeats 4000000
theorem vI1 : vI 1 = vS [49] := congrArg vS itoa_one
theorem coprime_rat (q : Rat) : Nat.gcd q.num.natAbs (q.den : Int).natAbs = 1 := by
 rw [Int.natAbs_natCast]; exact q.reduced
theorem ratcheck_c (q : Rat) (h : LR 1000 q) : CtrA Tryz.prog 111 [vR q] (vi 0) := by
 have h2 := wcheck_i q.num h.1
 have h3 := wcheck_i q.den h.2
 by_cases hd : q.den = 1
 ·have h1 := cut1 q h hd
  rw [hd] at h3
  have h3 : CtrA Tryz.prog 173 [vS [49]] (vi 0) := by rw [← vI1]; exact h3
  refine ctrA _ Tryz.func111 rfl rfl Tryz.ntmps111 rfl fun w Z => ?_
  refine zU ?_
  refine wl ?_
  exact zV
 ·have h1 := cut2 q h hd
  have hpos := q.den_pos
  have h4 := wcompare_c q.den 1 h.2 (LI.small zE zE)
  have e4 : sgn ((q.den : Int) - 1) = 1 := by unfold sgn; rw [if_neg (by omega), if_neg (by omega)]
  rw [e4, vI1] at h4
  have h5 := wgcd_c q.num q.den h.1 h.2
  rw [coprime_rat] at h5
  have h5 : CtrA Tryz.prog 175 [vI q.num, vI q.den] (tupOf [vS [49], vi 0]) := by rw [← vI1]; exact h5
  refine ctrA _ Tryz.func111 rfl rfl Tryz.ntmps111 rfl fun w Z => ?_
  refine zU ?_
  refine wl ?_
  exact zV
theorem checks_c (n : Nat) (g : Nat → Rat) (hn : n ≤ 1000000) (hg : ∀ i, i < n → LR 1000 (g i)) : CtrA Tryz.prog 179 [.sl n 1 (fun i _ => vR (g i))] (vi 0) := by
 refine ctrA _ Tryz.func179 rfl rfl Tryz.ntmps179 rfl fun w Z => ?_
 refine zU ?_
 refine wl ?_
 refine cq_loop (γ := Nat) (fun i => [(6, .av (.sl n 1 (fun i _ => vR (g i)))), (7, .av (vi n)), (8, .av (vi i))]) (fun _ => []) (fun i => i ≤ n) (fun i => n - i) 0 (Nat.zero_le _) (ent zS trivial) ?_
 intro i hi
 refine wl ?_
 (refine cq_cond rfl ?_ ?_ <;> intro hb <;> (try simp only [zA, zB, zG, zC, zD, zN] at hb) <;> (try (exfalso; omega)))
 ·have hc := ratcheck_c (g i) (hg i zO)
  refine wl ?_
  exact sq_round (i + 1) zO zO (ent zS trivial)
 ·refine wl ?_
  exact zV
def twoR (a b : Rat) (i : Nat) : Rat := if i = 0 then a else b
theorem tq102_2 (a b : ByteArray) (w : World) : (Instr.buildSlice 102 2 #[(0, .string a), (1, .string b)]).run Tryz.prog w = .ok (.slice (some ⟨w.heap.size, 0, none⟩) 2 2) (w.alloc (.cells #[.string a, .string b] 39)) := by kernel_rfl
section
variable {E : Env} {T : Tab} {O : Go.Vc.Own} {d : Option Nat} {ty : TypeId} {pos : String} {af : Array Edge} {g : Option (Nat × Bool)}
theorem g_twoR {x y : Operand} {a b : Rat} (hx : T.ev x = .av (vR a)) (hy : T.ev y = .av (vR b)) : GV Tryz.prog E ⟨d, .buildSlice 102 2 #[(0, x), (1, y)], ty, pos, af, g⟩ T O (.av (.sl 2 1 (fun i _ => vR (twoR a b i)))) [] [] :=
 g_bslice (is := [0, 1]) (xs := [x, y]) (vs := [.string (bs (rtx a)), .string (bs (rtx b))]) (us := [.string (bs (rtx a)), .string (bs (rtx b))]) (tq102_2 _ _) rfl (by simp only [List.map_cons, List.map_nil, hx, hy]) rfl (fun i hi j hj => by
  obtain rfl : j = 0 := zO
  rcases (by omega : i = 0 ∨ i = 1) with rfl | rfl <;> exact ⟨_, rfl, rfl⟩)
end
theorem checks2_c (q r : Rat) (hq : LR 1000 q) (hr : LR 1000 r) : CtrA Tryz.prog 179 [.sl 2 1 (fun i _ => vR (twoR q r i))] (vi 0) :=
 checks_c 2 (twoR q r) zE (fun i hi => by rcases (by omega : i = 0 ∨ i = 1) with rfl | rfl <;> assumption)
theorem tb231e : Tryz.prog.built 231 [] = some #[.int .i64 0] := by kernel_rfl
theorem made_c (f : FuncId) (q r : Rat) (num den : Int) (hq : LR 1000 q) (hr : LR 1000 r) (hn : LI 1000 num) (hdn : LI 1000 den) (hd : den ≠ 0)
  (hf : CtrH Tryz.prog f [.own 1000 0, .av (vI q.num), .av (vI q.den), .av (vI r.num), .av (vI r.den)] [(1000, E0)] (.av (tupOf [vI num, vI den])) [(1000, E0)]) : CtrA Tryz.prog 119 [vR q, vR r, .val (.func (.func f) #[] #[])] (tupOf [vR (Rat.divInt num den), vi 0]) := by
 have h1 := checks2_c q r hq hr
 have h2 := rcut_c q hq
 have h3 := rcut_c r hr
 have h4 := rlowest_c num den hn hdn hd
 have hz := itoa_is0 den
 rw [decide_eq_false hd] at hz
 refine ctrA _ Tryz.func119 rfl rfl Tryz.ntmps119 rfl fun w Z => ?_
 refine zU ?_
 refine wl ?_
 refine sq_g (g_twoR rfl rfl) rfl ?_
 refine wl ?_
 refine sq_g (g_build (is := []) (xs := []) (vs := []) tb231e rfl rfl) rfl ?_
 refine sq_v (f_box_vb 7 rfl rfl) rfl ?_
 refine wl ?_
 refine sq_v (v_call_hv [(1000, 7)] hf rfl rfl ⟨rfl, trivial⟩ rfl) rfl ?_
 refine wl ?_
 rw [hz]
 refine wl ?_
 refine sq_v (v_call_h [(1000, 7)] h4 rfl ⟨rfl, trivial⟩ rfl) rfl ?_
 refine wl ?_
 exact zW
theorem smul2 (a b : Int) (ha : LI 1000 a) (hb : LI 1000 b) (h : LI 1000 (a * b)) : CtrH Tryz.prog 122 [.own 1000 0, .av (.sl 2 1 (fun i _ => vI (two a b i)))] [(1000, E0)] (.av (vI (a * b))) [(1000, E0)] := by
 have e1 : prodI (two a b) 1 = a := by show 1 * a = _; rw [Int.one_mul]
 have e2 : prodI (two a b) 2 = a * b := by show prodI (two a b) 1 * b = _; rw [e1]
 have := smul_c 2 (two a b) zE (fun i hi => by rcases (by omega : i = 0 ∨ i = 1) with rfl | rfl <;> assumption) (fun i hi => by
  rcases (by omega : i = 0 ∨ i = 1 ∨ i = 2) with rfl | rfl | rfl
  ·exact LI.small (show (1 : Int).natAbs < 10 by decide) zE
  ·rw [e1]; exact ha
  ·rw [e2]; exact h)
 rwa [e2] at this
theorem subc (n p m q : Int) (hn : LI 400 n) (hp : LI 400 p) (hm : LI 400 m) (hq : LI 400 q) : CtrH Tryz.prog 120 [.own 1000 0, .av (vI n), .av (vI p), .av (vI m), .av (vI q)] [(1000, E0)] (.av (tupOf [vI (n * q - m * p), vI (p * q)])) [(1000, E0)] := by
 have b := fun (x y : Int) (hx : LI 400 x) (hy : LI 400 y) => (by have h := LI.mul hx hy; exact h : LI 800 (x * y))
 have M := fun (x : Int) (h : LI 400 x) => (h.mono zE : LI 1000 x)
 have c1 := smul2 n q (M _ hn) (M _ hq) ((b _ _ hn hq).mono zE)
 have c2 := smul2 m p (M _ hm) (M _ hp) ((b _ _ hm hp).mono zE)
 have c3 := smul2 p q (M _ hp) (M _ hq) ((b _ _ hp hq).mono zE)
 have c4 := ssub_c (n * q) (m * p) ((b _ _ hn hq).mono zE) ((b _ _ hm hp).mono zE) (((b _ _ hn hq).sub (b _ _ hm hp)).mono zE)
 refine ctrH _ Tryz.func120 rfl rfl Tryz.ntmps120 rfl rfl fun w Z ν => ?_
 refine zU ?_
 refine wl ?_
 refine sq_g (g_two rfl rfl) rfl ?_
 refine wl ?_
 refine sq_v (v_call_h [] c1 rfl ⟨rfl, trivial⟩ rfl) rfl ?_
 refine wl ?_
 refine sq_g (g_two rfl rfl) rfl ?_
 refine wl ?_
 refine sq_v (v_call_h [] c2 rfl ⟨rfl, trivial⟩ rfl) rfl ?_
 refine wl ?_
 refine sq_v (v_call_h [] c4 rfl ⟨rfl, trivial⟩ rfl) rfl ?_
 refine wl ?_
 refine sq_g (g_two rfl rfl) rfl ?_
 refine wl ?_
 refine sq_v (v_call_h [] c3 rfl ⟨rfl, trivial⟩ rfl) rfl ?_
 refine wl ?_
 exact sq_more (T' := [(10, .av (vI (n * q - m * p))), (11, .av (vI (p * q)))]) (O' := [(1000, E0)]) (ent zS zT) (sq_retHN (rvs := [_, _]) (τs := [_, _]) rfl rfl rfl ⟨.tmp rfl, .tmp rfl, trivial⟩ rfl)
end Go.Proofs.YtgepmbjmaljgoaaGreatDoor
end
namespace Go.Proofs.YtgepmbjmaljgoaaGreatDoor
open Go Go.Vc Go.RowKit Go.Na Go.Lib
set_option maxHeartbeats 4000000
theorem den0 (q r : Rat) : (q.den : Int) * r.den ≠ 0 := by
 have h1 := q.den_pos
 have h2 := r.den_pos
 exact Int.mul_ne_zero zO zO
theorem li4 {x y : Int} (hx : LI 400 x) (hy : LI 400 y) : LI 1000 (x * y) := (LI.mul hx hy).mono (by decide)
theorem rat_sub (q r : Rat) (hq : LR 400 q) (hr : LR 400 r) : CtrA Tryz.prog 62 [vR q, vR r] (tupOf [vR (q - r), vi 0]) := by
 have h := made_c 120 q r (q.num * r.den - r.num * q.den) (q.den * r.den) (hq.mono zE) (hr.mono zE) ((LI.sub (LI.mul hq.1 hr.2) (LI.mul hr.1 hq.2)).mono zE) (li4 hq.2 hr.2) (den0 q r) (subc q.num q.den r.num r.den hq.1 hq.2 hr.1 hr.2)
 rw [← sub_eq] at h
 refine ctrA _ Tryz.func62 rfl rfl Tryz.ntmps62 rfl fun w Z => ?_
 refine zU ?_
 refine wl ?_
 exact zW
theorem rat_parts (q : Rat) (hq : LR 1000 q) : CtrA Tryz.prog 124 [vR q] (tupOf [vI q.num, vI q.den, vi 0]) := by
 have h1 := ratcheck_c q hq
 have h2 := rcut_c q hq
 refine ctrA _ Tryz.func124 rfl rfl Tryz.ntmps124 rfl fun w Z => ?_
 refine zU ?_
 refine wl ?_
 exact zX
theorem joined_rtx (q : Rat) : (if (q.den : Int) = 1 then itoa q.num else itoa q.num ++ 47 :: itoa (q.den : Int)) = rtx q := by
 unfold rtx
 rw [itoa_nat]
 by_cases h : q.den = 1
 ·rw [if_pos h, if_pos (by omega)]
 ·rw [if_neg h, if_neg (by omega)]
theorem rat_neg (q : Rat) (hq : LR 1000 q) : CtrA Tryz.prog 64 [vR q] (tupOf [vR (-q), vi 0]) := by
 have h1 := rat_parts q hq
 have h2 := wneg_c q.num hq.1
 have h3 := rjoined_c (-q.num) q.den hq.1.neg hq.2
 have e := joined_rtx (-q)
 rw [Rat.neg_num, Rat.neg_den] at e
 rw [e] at h3
 refine ctrA _ Tryz.func64 rfl rfl Tryz.ntmps64 rfl fun w Z => ?_
 refine zU ?_
 refine wl ?_
 exact zW
theorem rat_whole (n : Int) (h : -9223372036854775808 ≤ n ∧ n ≤ 9223372036854775807) : CtrA Tryz.prog 63 [vi n] (vI n) := by
 have h1 := wof_c n h
 refine ctrA _ Tryz.func63 rfl rfl Tryz.ntmps63 rfl fun w Z => ?_
 refine zU ?_
 refine wl ?_
 exact zV
theorem rat_compare (q r : Rat) (hq : LR 400 q) (hr : LR 400 r) : CtrA Tryz.prog 161 [vR q, vR r] (tupOf [vi (rsg (q - r)), vi 0]) := by
 have M := fun (x : Int) (h : LI 400 x) => (h.mono zE : LI 1000 x)
 have h1 := checks2_c q r (hq.mono zE) (hr.mono zE)
 have h2 := rcut_c q (hq.mono zE)
 have h3 := rcut_c r (hr.mono zE)
 have c1 := smul2 q.num r.den (M _ hq.1) (M _ hr.2) (li4 hq.1 hr.2)
 have c2 := smul2 r.num q.den (M _ hr.1) (M _ hq.2) (li4 hr.1 hq.2)
 have c3 := wcompare_c (q.num * r.den) (r.num * q.den) (li4 hq.1 hr.2) (li4 hr.1 hq.2)
 rw [sgn_sub] at c3
 refine ctrA _ Tryz.func161 rfl rfl Tryz.ntmps161 rfl fun w Z => ?_
 refine zU ?_
 refine wl ?_
 refine sq_g (g_twoR rfl rfl) rfl ?_
 refine wl ?_
 refine sq_g (g_build (is := []) (xs := []) (vs := []) tb231e rfl rfl) rfl ?_
 refine sq_v (f_box_vb 7 rfl rfl) rfl ?_
 refine wl ?_
 refine sq_g (g_two rfl rfl) rfl ?_
 refine wl ?_
 refine sq_v (v_call_h [(1000, 7)] c1 rfl ⟨rfl, trivial⟩ rfl) rfl ?_
 refine wl ?_
 refine sq_g (g_two rfl rfl) rfl ?_
 refine wl ?_
 refine sq_v (v_call_h [(1000, 7)] c2 rfl ⟨rfl, trivial⟩ rfl) rfl ?_
 refine wl ?_
 exact zW
theorem rat_make (n d : Int) (hn : LI 1000 n) (hdd : LI 1000 d) (hd : d ≠ 0) : CtrA Tryz.prog 205 [vI n, vI d] (tupOf [vR (Rat.divInt n d), vi 0]) := by
 have h4 := rlowest_c n d hn hdd hd
 have hz := itoa_is0 d
 rw [decide_eq_false hd] at hz
 refine ctrA _ Tryz.func205 rfl rfl Tryz.ntmps205 rfl fun w Z => ?_
 refine zU ?_
 refine wl ?_
 refine sq_g (g_two rfl rfl) rfl ?_
 refine wl ?_
 refine cq_loop (γ := Nat) (fun i => [(0, .av (vI n)), (1, .av (vI d)), (13, .av (.sl 2 1 (fun i _ => vI (two n d i)))), (14, .av (vi 2)), (15, .av (vi i))]) (fun _ => []) (fun i => i ≤ 2) (fun i => 2 - i) 0 (Nat.zero_le _) (ent zS trivial) ?_
 intro i hi
 refine wl ?_
 (refine cq_cond rfl ?_ ?_ <;> intro hb <;> (try simp only [zA, zB, zG, zC, zD, zN] at hb) <;> (try (exfalso; omega)))
 ·have hc := wcheck_i (two n d i) (by rcases (by omega : i = 0 ∨ i = 1) with rfl | rfl <;> assumption)
  refine wl ?_
  exact sq_round (i + 1) zO zO (ent zS trivial)
 ·refine wl ?_
  rw [hz]
  refine wl ?_
  refine sq_g (g_build (is := []) (xs := []) (vs := []) tb231e rfl rfl) rfl ?_
  refine sq_v (f_box_vb 7 rfl rfl) rfl ?_
  refine wl ?_
  refine sq_v (v_call_h [(1000, 7)] h4 rfl ⟨rfl, trivial⟩ rfl) rfl ?_
  refine wl ?_
  exact zW
end Go.Proofs.YtgepmbjmaljgoaaGreatDoor
namespace Go.Proofs.YtgepmbjmaljgoaaGreatDoor.H
open Go Go.Vc Go.RowKit
set_option maxHeartbeats 4000000
theorem coord_c (p : Tr) : CtrA Tryz.prog 105 [tp p] (tp p) := by
 refine ctrA _ Tryz.func105 rfl rfl Tryz.ntmps105 rfl fun w Z => ?_
 refine zU ?_
 refine wt ?_
 exact sq_res1 rfl (.agg (us := [_, _, _]) rfl rfl rfl rfl) rfl
theorem place0_c (p : Tr) : CtrA Tryz.prog 50 [tp p, vi 0] (pp (plc 0 p)) := by
 have h := coord_c p
 refine ctrA _ Tryz.func50 rfl rfl Tryz.ntmps50 rfl fun w Z => ?_
 refine zU ?_
 refine wt ?_
 exact sq_res1 rfl (.agg (us := [_, _]) rfl rfl rfl rfl) rfl
theorem ti87_0 (a b c : Int) (w : World) : (Instr.index 87 (.agg [.int .i64 a, .int .i64 b, .int .i64 c].toArray) (.int .i64 0)).run Tryz.prog w = .ok (.int .i64 a) w := by kernel_rfl
theorem rcoord0_c (p : Tr) : CtrA Tryz.prog 118 [vi 0, tp p] (vi (cz p 0)) := by
 refine ctrA _ Tryz.func118 rfl rfl Tryz.ntmps118 rfl fun w Z => ?_
 refine zU ?_
 refine wt ?_
 refine sq_g (g_aindex (ti87_0 _ _ _) rfl rfl) rfl ?_
 refine wt ?_
 exact zV
theorem rplace0_c (p : Tr) : CtrA Tryz.prog 70 [tp p, vi 0] (pp (plc 0 p)) := by
 refine ctrA _ Tryz.func70 rfl rfl Tryz.ntmps70 rfl fun w Z => ?_
 refine zU ?_
 refine wt ?_
 exact sq_res1 rfl (.agg (us := [_, _]) rfl rfl rfl rfl) rfl
theorem place1_c (p : Tr) : CtrA Tryz.prog 50 [tp p, vi 1] (pp (plc 1 p)) := by
 have h := coord_c p
 refine ctrA _ Tryz.func50 rfl rfl Tryz.ntmps50 rfl fun w Z => ?_
 refine zU ?_
 refine wt ?_
 exact sq_res1 rfl (.agg (us := [_, _]) rfl rfl rfl rfl) rfl
theorem ti87_1 (a b c : Int) (w : World) : (Instr.index 87 (.agg [.int .i64 a, .int .i64 b, .int .i64 c].toArray) (.int .i64 1)).run Tryz.prog w = .ok (.int .i64 b) w := by kernel_rfl
theorem rcoord1_c (p : Tr) : CtrA Tryz.prog 118 [vi 1, tp p] (vi (cz p 1)) := by
 refine ctrA _ Tryz.func118 rfl rfl Tryz.ntmps118 rfl fun w Z => ?_
 refine zU ?_
 refine wt ?_
 refine sq_g (g_aindex (ti87_1 _ _ _) rfl rfl) rfl ?_
 refine wt ?_
 exact zV
theorem rplace1_c (p : Tr) : CtrA Tryz.prog 70 [tp p, vi 1] (pp (plc 1 p)) := by
 refine ctrA _ Tryz.func70 rfl rfl Tryz.ntmps70 rfl fun w Z => ?_
 refine zU ?_
 refine wt ?_
 exact sq_res1 rfl (.agg (us := [_, _]) rfl rfl rfl rfl) rfl
theorem place2_c (p : Tr) : CtrA Tryz.prog 50 [tp p, vi 2] (pp (plc 2 p)) := by
 have h := coord_c p
 refine ctrA _ Tryz.func50 rfl rfl Tryz.ntmps50 rfl fun w Z => ?_
 refine zU ?_
 refine wt ?_
 exact sq_res1 rfl (.agg (us := [_, _]) rfl rfl rfl rfl) rfl
theorem ti87_2 (a b c : Int) (w : World) : (Instr.index 87 (.agg [.int .i64 a, .int .i64 b, .int .i64 c].toArray) (.int .i64 2)).run Tryz.prog w = .ok (.int .i64 c) w := by kernel_rfl
theorem rcoord2_c (p : Tr) : CtrA Tryz.prog 118 [vi 2, tp p] (vi (cz p 2)) := by
 refine ctrA _ Tryz.func118 rfl rfl Tryz.ntmps118 rfl fun w Z => ?_
 refine zU ?_
 refine wt ?_
 refine sq_g (g_aindex (ti87_2 _ _ _) rfl rfl) rfl ?_
 refine wt ?_
 exact zV
theorem rplace2_c (p : Tr) : CtrA Tryz.prog 70 [tp p, vi 2] (pp (plc 2 p)) := by
 refine ctrA _ Tryz.func70 rfl rfl Tryz.ntmps70 rfl fun w Z => ?_
 refine zU ?_
 refine wt ?_
 exact sq_res1 rfl (.agg (us := [_, _]) rfl rfl rfl rfl) rfl
theorem place_c (p : Tr) {k : Nat} (hk : k < 3) : CtrA Tryz.prog 50 [tp p, vi (k : Int)] (pp (plc k p)) := by
 rcases (by omega : k = 0 ∨ k = 1 ∨ k = 2) with rfl | rfl | rfl
 ·exact place0_c p
 ·exact place1_c p
 ·exact place2_c p
theorem rplace_c (p : Tr) {k : Nat} (hk : k < 3) : CtrA Tryz.prog 70 [tp p, vi (k : Int)] (pp (plc k p)) := by
 rcases (by omega : k = 0 ∨ k = 1 ∨ k = 2) with rfl | rfl | rfl
 ·exact rplace0_c p
 ·exact rplace1_c p
 ·exact rplace2_c p
theorem rcoord_c (p : Tr) {k : Nat} (hk : k < 3) : CtrA Tryz.prog 118 [vi (k : Int), tp p] (vi (cz p k)) := by
 rcases (by omega : k = 0 ∨ k = 1 ∨ k = 2) with rfl | rfl | rfl
 ·exact rcoord0_c p
 ·exact rcoord1_c p
 ·exact rcoord2_c p
def plcs (l : List Tr) (k : Nat) : List Pt := l.map (plc k)
theorem gp_plcs {l : List Tr} {k i : Nat} (h : i < l.length) : gp (plcs l k) i = plc k (gt l i) := by simp [gp, plcs, gt, h, List.getD]
theorem plcs_take {l : List Tr} {k i : Nat} (h : i < l.length) : plcs (l.take (i + 1)) k = plcs (l.take i) k ++ [plc k (gt l i)] := by rw [gt_take h, plcs, List.map_append]; rfl
theorem plcs_len (l : List Tr) (k : Nat) : (plcs l k).length = l.length := by simp [plcs]
theorem places_c (l : List Tr) {k : Nat} (hk : k < 3) (hn : l.length ≤ 1000) : CtrR Tryz.prog 93 [ts l, vi (k : Int)] 38 2 (plcs l k).length (pf (plcs l k)) [] := by
 refine ctrR _ Tryz.func93 rfl rfl Tryz.ntmps93 rfl fun w Z => ?_
 refine zU ?_
 refine wt ?_
 refine cq_loop (γ := Nat) (fun i => [(1, .av (vi (k : Int))), (5, .osl 20), (8, .av (ts l)), (9, .av (vi l.length)), (10, .av (vi i))]) (fun i => [(20, .row 38 2 (plcs (l.take i) k).length (pf (plcs (l.take i) k)))]) (fun i => i ≤ l.length) (fun i => l.length - i) 0 (Nat.zero_le _) ((ent_row (dd := 5) 20 38 2 (pf []) rfl rfl).trans (ent zS zT)) ?_
 intro i hi
 refine wt ?_
 (refine cq_cond rfl ?_ ?_ <;> intro hb <;> (try simp only [zA, zB, zG, zC, zD, zN] at hb) <;> (try (exfalso; omega)))
 ·have hil : i < l.length := by omega
  have hp := place_c (gt l i) hk
  have hl := plcs_len (l.take i) k
  rw [List.length_take] at hl
  refine wt ?_
  exact sq_round (i + 1) (by omega) (by omega) (ent zS ⟨⟨_, rfl, .row (by rw [plcs_take hil]) (fun _ _ _ _ => by rw [plcs_take hil])⟩, trivial⟩)
 ·have hil : i = l.length := by omega
  subst hil
  refine wt ?_
  exact sq_retR rfl rfl rfl (by rw [List.take_length]) (fun _ _ _ _ => by rw [List.take_length])
theorem rplaces_c (l : List Tr) {k : Nat} (hk : k < 3) (hn : l.length ≤ 1000) : CtrR Tryz.prog 31 [ts l, vi (k : Int)] 38 2 (plcs l k).length (pf (plcs l k)) [] := by
 refine ctrR _ Tryz.func31 rfl rfl Tryz.ntmps31 rfl fun w Z => ?_
 refine zU ?_
 refine wt ?_
 refine cq_loop (γ := Nat) (fun i => [(0, .av (ts l)), (1, .av (vi (k : Int))), (5, .osl 20), (6, .av (vi i))]) (fun i => [(20, .row 38 2 (plcs (l.take i) k).length (pf (plcs (l.take i) k)))]) (fun i => i ≤ l.length) (fun i => l.length - i) 0 (Nat.zero_le _) ((ent_row (dd := 5) 20 38 2 (pf []) rfl rfl).trans (ent zS zT)) ?_
 intro i hi
 refine wt ?_
 (refine cq_cond rfl ?_ ?_ <;> intro hb <;> (try simp only [zA, zB, zG, zC, zD, zN] at hb) <;> (try (exfalso; omega)))
 ·have hil : i < l.length := by omega
  have hp := rplace_c (gt l i) hk
  have hl := plcs_len (l.take i) k
  rw [List.length_take] at hl
  refine wt ?_
  exact sq_round (i + 1) (by omega) (by omega) (ent zS ⟨⟨_, rfl, .row (by rw [plcs_take hil]) (fun _ _ _ _ => by rw [plcs_take hil])⟩, trivial⟩)
 ·have hil : i = l.length := by omega
  subst hil
  refine wt ?_
  exact sq_retR rfl rfl rfl (by rw [List.take_length]) (fun _ _ _ _ => by rw [List.take_length])
theorem axes_c (a : Int) : CtrA Tryz.prog 92 [vi a] (vi (if 0 ≤ a ∧ a ≤ 2 then 0 else 1)) := by
 refine ctrA _ Tryz.func92 rfl rfl Tryz.ntmps92 rfl fun w Z => ?_
 refine zU ?_
 (refine wt ?_; repeat' (((first | refine sq_split rfl rfl ?_ ?_ | refine dq_split rfl rfl ?_ ?_) <;> intro hb <;> (try simp only [zA, zB, zG, zC, zD, zN] at hb) <;> (try (exfalso; omega))) <;> refine wt ?_))
 ·exact sq_res1 rfl (.tmp rfl) (congrArg vi (by rw [if_neg (by omega)]))
 ·(refine cq_cond rfl ?_ ?_ <;> intro hb <;> (try simp only [zA, zB, zG, zC, zD, zN] at hb) <;> (try (exfalso; omega)))
  ·refine wt ?_
   exact sq_res1 rfl (.tmp rfl) (congrArg vi (by rw [if_neg (by omega)]))
  ·refine wt ?_
   exact sq_res1 rfl (.tmp rfl) (congrArg vi (by rw [if_pos (by omega)]))
def givE (l : List Tr) (a : Int) : Int := if chkT l ≠ 0 then chkT l else if 0 ≤ a ∧ a ≤ 2 then 0 else 1
theorem given_c (l : List Tr) (a : Int) : CtrA Tryz.prog 45 [ts l, vi a] (vi (givE l a)) := by
 have h1 := scheck_c l
 have h2 := axes_c a
 refine ctrA _ Tryz.func45 rfl rfl Tryz.ntmps45 rfl fun w Z => ?_
 refine zU ?_
 refine wt ?_
 (refine cq_cond rfl ?_ ?_ <;> intro hb <;> (try simp only [zA, zB, zG, zC, zD, zN] at hb) <;> (try (exfalso; omega)))
 ·refine wt ?_
  exact sq_res1 rfl (.tmp rfl) (congrArg vi (by unfold givE; rw [if_pos hb]))
 ·refine wt ?_
  exact sq_res1 rfl (.tmp rfl) (congrArg vi (by unfold givE; rw [if_neg (c := chkT l ≠ 0) (fun h => h hb)]))
theorem rpoints_c (l : List Tr) (a : Int) (hn : l.length ≤ 1000) : CtrA Tryz.prog 52 [ts l, vi a] (vi (givE l a)) := by
 have h1 := rscheck_c l hn
 refine ctrA _ Tryz.func52 rfl rfl Tryz.ntmps52 rfl fun w Z => ?_
 refine zU ?_
 refine wt ?_
 (refine cq_cond rfl ?_ ?_ <;> intro hb <;> (try simp only [zA, zB, zG, zC, zD, zN] at hb) <;> (try (exfalso; omega)))
 ·refine wt ?_
  exact sq_res1 rfl (.tmp rfl) (congrArg vi (by unfold givE; rw [if_pos hb]))
 ·have hb' := hb
  (refine wt ?_; repeat' (((first | refine sq_split rfl rfl ?_ ?_ | refine dq_split rfl rfl ?_ ?_) <;> intro hb <;> (try simp only [zA, zB, zG, zC, zD, zN] at hb) <;> (try (exfalso; omega))) <;> refine wt ?_))
  ·exact sq_res1 rfl (.tmp rfl) (congrArg vi (by unfold givE; rw [if_neg (c := chkT l ≠ 0) (fun h => h hb'), if_neg (by omega)]))
  ·(refine cq_cond rfl ?_ ?_ <;> intro hb <;> (try simp only [zA, zB, zG, zC, zD, zN] at hb) <;> (try (exfalso; omega)))
   ·refine wt ?_
    exact sq_res1 rfl (.tmp rfl) (congrArg vi (by unfold givE; rw [if_neg (c := chkT l ≠ 0) (fun h => h hb'), if_neg (by omega)]))
   ·refine wt ?_
    exact sq_res1 rfl (.tmp rfl) (congrArg vi (by unfold givE; rw [if_neg (c := chkT l ≠ 0) (fun h => h hb'), if_pos (by omega)]))
def strB (l : List Pt) : Bool := (List.range l.length).all fun i => (List.range i).all fun j => (List.range j).all fun k => decide (crs (gp l i) (gp l j) (gp l k) = 0)
theorem straight_c (l : List Pt) (sm : ∀ i, SmP (gp l i)) (hn : l.length ≤ 1000) : CtrA Tryz.prog 71 [pts l] (vb (strB l)) := by
 refine ctrA _ Tryz.func71 rfl rfl Tryz.ntmps71 rfl fun w Z => ?_
 refine zU ?_
 refine wt ?_
 refine cq_loop (γ := Nat) (fun i => [(0, .av (pts l)), (3, .av (vi i))]) (fun _ => []) (fun i => i ≤ l.length ∧ ∀ a, a < i → ∀ b, b < a → ∀ c, c < b → crs (gp l a) (gp l b) (gp l c) = 0) (fun i => l.length - i) 0 ⟨Nat.zero_le _, by omega⟩ (ent zS trivial) ?_
 rintro i ⟨hi, hI⟩
 refine wt ?_
 (refine cq_cond rfl ?_ ?_ <;> intro hb <;> (try simp only [zA, zB, zG, zC, zD, zN] at hb) <;> (try (exfalso; omega)))
 ·have hil : i < l.length := by omega
  refine wt ?_
  refine cq_loop (γ := Nat) (fun j => [(0, .av (pts l)), (3, .av (vi i)), (4, .av (vi j))]) (fun _ => []) (fun j => j ≤ i ∧ ∀ b, b < j → ∀ c, c < b → crs (gp l i) (gp l b) (gp l c) = 0) (fun j => i - j) 0 ⟨Nat.zero_le _, by omega⟩ (ent zS trivial) ?_
  rintro j ⟨hj, hJ⟩
  refine wt ?_
  (refine cq_cond rfl ?_ ?_ <;> intro hb <;> (try simp only [zA, zB, zG, zC, zD, zN] at hb) <;> (try (exfalso; omega)))
  ·have hji : j < i := by omega
   refine wt ?_
   refine cq_loop (γ := Nat) (fun k => [(0, .av (pts l)), (3, .av (vi i)), (4, .av (vi j)), (5, .av (vi k))]) (fun _ => []) (fun k => k ≤ j ∧ ∀ c, c < k → crs (gp l i) (gp l j) (gp l c) = 0) (fun k => j - k) 0 ⟨Nat.zero_le _, by omega⟩ (ent zS trivial) ?_
   rintro k ⟨hk, hK⟩
   refine wt ?_
   (refine cq_cond rfl ?_ ?_ <;> intro hb <;> (try simp only [zA, zB, zG, zC, zD, zN] at hb) <;> (try (exfalso; omega)))
   ·have hkj : k < j := by omega
    have hc := rleft_c (gp l i) (gp l j) (gp l k) (sm i) (sm j) (sm k)
    refine wt ?_
    (refine cq_cond rfl ?_ ?_ <;> intro hb <;> (try simp only [zA, zB, zG, zC, zD, zN] at hb) <;> (try (exfalso; omega)))
    ·refine wt ?_
     refine sq_res1 rfl (.tmp rfl) (congrArg vb ?_)
     symm
     unfold strB
     rw [List.all_eq_false]
     refine ⟨i, List.mem_range.2 hil, ?_⟩
     rw [Bool.not_eq_true, List.all_eq_false]
     refine ⟨j, List.mem_range.2 hji, ?_⟩
     rw [Bool.not_eq_true, List.all_eq_false]
     exact ⟨k, List.mem_range.2 hkj, by simpa using hb⟩
    ·refine wt ?_
     exact sq_round (k + 1) ⟨by omega, plt_step hK hb⟩ zO (ent zS trivial)
   ·have e : k = j := by omega
    subst e
    refine wt ?_
    exact sq_round (k + 1) ⟨by omega, plt_step hJ hK⟩ zO (ent zS trivial)
  ·have e : j = i := by omega
   subst e
   refine wt ?_
   exact sq_round (j + 1) ⟨by omega, plt_step hI hJ⟩ zO (ent zS trivial)
 ·have e : i = l.length := by omega
  subst e
  refine wt ?_
  refine sq_res1 rfl (.tmp rfl) (congrArg vb ?_)
  symm
  unfold strB
  rw [List.all_eq_true]
  intro a ha
  rw [List.all_eq_true]
  intro b hb1
  rw [List.all_eq_true]
  intro c hc
  exact decide_eq_true (hI a (List.mem_range.1 ha) b (List.mem_range.1 hb1) c (List.mem_range.1 hc))
end Go.Proofs.YtgepmbjmaljgoaaGreatDoor.H
namespace Go.Proofs.YtgepmbjmaljgoaaGreatDoor.H
open Go Go.Vc Go.Na
def onD (l : List Tr) (n : Tr) (m : Int) (k : Nat) : List Nat := (List.range k).filter fun j => decide (tdot n (gt l j) = m)
theorem onD_succ (l : List Tr) (n : Tr) (m : Int) (k : Nat) : onD l n m (k + 1) = if tdot n (gt l k) = m then onD l n m k ++ [k] else onD l n m k := by
 unfold onD
 rw [List.range_succ, List.filter_append]
 by_cases h : tdot n (gt l k) = m <;> simp [h]
theorem onD_len (l : List Tr) (n : Tr) (m : Int) (k : Nat) : (onD l n m k).length ≤ k := by
 have := List.length_filter_le (fun j => decide (tdot n (gt l j) = m)) (List.range k)
 simpa [onD] using this
theorem thr_none {l : List Tr} {k a b c : Nat} (hk : k < 3) (hn : cz (nvP (gt l a) (gt l b) (gt l c)) k ≠ 0) {i : Nat} (hi : i < l.length) (h : tdot (nP l k a b c) (gt l i) < mP l k a b c) : thr l k a b c = none := by
 unfold thr mkP
 rw [if_neg hn, if_pos]
 unfold lowB
 rw [List.any_eq_true]
 exact ⟨i, List.mem_range.2 hi, decide_eq_true ((hgt_sgn hk hn _).1.2 h)⟩
theorem thr_some {l : List Tr} {k a b c : Nat} (hk : k < 3) (hn : cz (nvP (gt l a) (gt l b) (gt l c)) k ≠ 0) (h : ∀ i, i < l.length → mP l k a b c ≤ tdot (nP l k a b c) (gt l i)) :
  thr l k a b c = some ⟨aP l k a b c, bP l k a b c, cP l k a b c, onD l (nP l k a b c) (mP l k a b c) l.length⟩ := by
 unfold thr mkP
 rw [if_neg hn, if_neg]
 ·have : onL l k (aP l k a b c) (bP l k a b c) (cP l k a b c) l.length = onD l (nP l k a b c) (mP l k a b c) l.length := by
   unfold onL onD
   exact List.filter_congr fun i _ => decide_eq_decide.2 (hgt_sgn hk hn _).2
  rw [this]
 ·unfold lowB
  rw [Bool.not_eq_true, List.any_eq_false]
  intro i hi
  have := h i (List.mem_range.1 hi)
  rw [decide_eq_true_eq, (hgt_sgn hk hn _).1]
  omega
theorem thr_zero {l : List Tr} {k a b c : Nat} (hn : cz (nvP (gt l a) (gt l b) (gt l c)) k = 0) : thr l k a b c = none := by
 unfold thr; rw [if_pos hn]
end Go.Proofs.YtgepmbjmaljgoaaGreatDoor.H
