/- A part of the proof. -/
import Derived.Test.YtgepmbjmaljgoaaGreatDoorBav
set_option linter.unusedVariables false
set_option linter.unusedSimpArgs false
namespace Go.Proofs.YtgepmbjmaljgoaaGreatDoor.H
open Go Go.Vc Go.RowKit
open Go.Na (rtx LR chkR_rtx chkR rsg Mat red piv swp nrm elm stp LM Ker red_next)
set_option maxHeartbeats 40000000
theorem tq311o (vs : List Value) (w : World) (h : vs.length = 1) (h1 : ∀ v ∈ vs, v.oneCell' = true) : (Instr.buildSlice 311 1 ([0].zip vs).toArray).run Tryz.prog w = .ok (.slice (some ⟨w.heap.size, 0, none⟩) 1 1) (w.alloc (.cells vs.toArray 102)) := by
 match vs, h with
 |[v], _ =>
  have h2 := h1 v (by simp)
  clear h1
  show (Instr.buildSlice 311 1 #[(0, v)]).run Tryz.prog w = .ok (.slice (some ⟨w.heap.size, 0, none⟩) 1 1) (w.alloc (.cells #[v] 102))
  cases v
  case agg => exact nomatch h2
  case tuple => exact nomatch h2
  all_goals (clear h2; kernel_rfl)
def rowV (M : Mat) (i : Nat) : Nat → Nat → AV := fun c _ => vR (M i c)
def mF (f : Nat → Rat) : Mat := fun i c => f (i * 4 + c)
abbrev z212 : Res := .cells [.av (vi 0), .av (vi 0), .av (.val (.slice none 0 0))]
def rdO (M : Mat) : Nat → Go.Vc.Own
 |0 => [(10, z212), (30, .srow 102 1 0 [])]
 |1 => [(10, z212), (30, .srow 102 1 1 [.osl 200]), (200, .row 39 1 4 (rowV M 0))]
 |2 => [(10, z212), (30, .srow 102 1 2 [.osl 200, .osl 201]), (200, .row 39 1 4 (rowV M 0)), (201, .row 39 1 4 (rowV M 1))]
 |_ => [(10, z212), (30, .srow 102 1 3 [.osl 200, .osl 201, .osl 202]), (200, .row 39 1 4 (rowV M 0)), (201, .row 39 1 4 (rowV M 1)), (202, .row 39 1 4 (rowV M 2))]
def ldN : Nat → Nat
 |0 => 0
 |1 => 1
 |2 => 2
 |_ => 3
def eR (B : Mat) (k i r : Nat) : Nat → Nat → AV := if r < i then rowV (Go.Na.elm B k k) r else rowV B r
theorem ld_step (k : Nat) : ∀ j, j < k + 1 → ∀ x, x < 1 → rowApp k (fun j _ => vi j) (xf [k]) j x = (fun j (_ : Nat) => vi j) j x := by
 intro j hj x _
 unfold rowApp
 split
 ·rfl
 ·have : j = k := by omega
  subst this
  rw [Nat.sub_self]; rfl
def outV (S : Mat) : Nat → Nat → AV := fun x _ => vR (S (x / 4) (x % 4))
theorem out_step (S : Mat) (i : Nat) : ∀ x, x < i * 4 + 4 → ∀ j, j < 1 → rowApp (i * 4) (outV S) (rowV S i) x j = outV S x j := by
 intro x hx j _
 unfold rowApp
 split
 ·rfl
 ·show vR (S i (x - i * 4)) = vR (S (x / 4) (x % 4))
  rw [show x / 4 = i by omega, show x % 4 = x - i * 4 by omega]
theorem rs_step (g h : Nat → Rat) (c n : Nat) : ∀ i, i < n → ∀ j, j < 1 → rowSet (fun j _ => vR (if j < c then g j else h j)) c 0 [vR (g c)] i j = (fun j (_ : Nat) => vR (if j < c + 1 then g j else h j)) i j := by
 intro i _ j hj
 have e : j = 0 := by omega
 subst e
 unfold rowSet
 by_cases h1 : i = c
 ·subst h1; simp
 ·by_cases h2 : i < c
  ·simp [h1, h2, show i < c + 1 by omega]
  ·simp [h1, h2, show ¬ i < c + 1 by omega]
theorem reduced_c (f : Nat → Rat) (hM : ∀ v, Ker (mF f) 3 4 v → (∀ c, 3 ≤ c → c < 4 → v c = 0) → ∀ c, c < 3 → v c = 0) (h1 : f 0 = 1) (hL : ∀ k, k < 3 → LM 101 (red 3 (mF f) k).1) : CtrA Tryz.prog 216 [matA 3 4 f] (tupOf [matA 3 4 (fun x => (red 3 (mF f) 4).1 (x / 4) (x % 4)), .sl 3 1 (fun j _ => vi j)]) := by
 have hrow : ∀ i : Nat, i < 3 → CtrR Tryz.prog 257 [matA 3 4 f, vi i] 39 1 4 (rowV (mF f) i) [] := fun i hi => row34_c i hi f
 refine ctrA _ Tryz.func216 rfl rfl Tryz.ntmps216 rfl fun w Z => ?_
 refine zU ?_
 refine wt ?_
 refine cq_loop (γ := Nat) (fun i => [(1, .av (.ptr 3 (matF 3 4 f))), (2, .own 10 0), (3, .av (.val (.slice none 0 0))), (4, .osl 30), (5, .av (vi i))]) (fun i => rdO (mF f) i) (fun i => i ≤ 3) (fun i => 3 - i) 0 (Nat.zero_le _) ((ent_srow (dd := 4) 30 102 1 rfl rfl).trans (ent zS zT)) ?_
 intro i hi
 match i, hi with
 |0, _ =>
  have hr := hrow 0 zE
  unfold rdO
  refine wt ?_
  refine sq_g (g_load_aggv rfl rfl) rfl ?_
  refine wt ?_
  refine sq_v (f_call_row 200 hr rfl rfl) rfl ?_
  refine wt ?_
  refine sq_v (f_one_s 31 tq311o rfl rfl zE rfl) rfl ?_
  refine wt ?_
  refine sq_v (v_append_s (bytes := 24) rfl rfl rfl rfl rfl rfl zE zE zE) rfl ?_
  refine wt ?_
  exact sq_round 1 zE zE (ent zS zT)
 |1, _ =>
  have hr := hrow 1 zE
  unfold rdO
  refine wt ?_
  refine sq_g (g_load_aggv rfl rfl) rfl ?_
  refine wt ?_
  refine sq_v (f_call_row 201 hr rfl rfl) rfl ?_
  refine wt ?_
  refine sq_v (f_one_s 31 tq311o rfl rfl zE rfl) rfl ?_
  refine wt ?_
  refine sq_v (v_append_s (bytes := 24) rfl rfl rfl rfl rfl rfl zE zE zE) rfl ?_
  refine wt ?_
  exact sq_round 2 zE zE (ent zS zT)
 |2, _ =>
  have hr := hrow 2 zE
  unfold rdO
  refine wt ?_
  refine sq_g (g_load_aggv rfl rfl) rfl ?_
  refine wt ?_
  refine sq_v (f_call_row 202 hr rfl rfl) rfl ?_
  refine wt ?_
  refine sq_v (f_one_s 31 tq311o rfl rfl zE rfl) rfl ?_
  refine wt ?_
  refine sq_v (v_append_s (bytes := 24) rfl rfl rfl rfl rfl rfl zE zE zE) rfl ?_
  refine wt ?_
  exact sq_round 3 zE zE (ent zS zT)
 |3, _ =>
  unfold rdO
  refine wt ?_
  refine cq_loop (γ := Nat) (fun k => [(1, .av (.ptr 3 (matF 3 4 f))), (2, .own 10 0), (3, .av (.val (.slice none 0 0))), (4, .osl 30), (6, .osl 40), (7, .av (vi k))]) (fun k => [(40, .row 3 1 (ldN k) (fun j _ => vi j)), (10, z212), (30, .srow 102 1 3 [.osl 200, .osl 201, .osl 202]), (200, .row 39 1 4 (rowV (red 3 (mF f) k).1 0)), (201, .row 39 1 4 (rowV (red 3 (mF f) k).1 1)), (202, .row 39 1 4 (rowV (red 3 (mF f) k).1 2))]) (fun k => k ≤ 4) (fun k => 4 - k) 0 (Nat.zero_le _) ((ent_row (dd := 6) 40 3 1 (fun j _ => vi j) rfl rfl).trans (ent zS zT)) ?_
  clear hi i hrow
  intro k hk
  match k, hk with
  |0, _ =>
   obtain ⟨p0, hp0, hp1, hp2, hp3, hnx⟩ := red_next (n := 3) (m := 4) (k := 0) zE zE hM
   have hLk := hL 0 zE
   have hun := (Go.Na.red_ok (n := 3) (m := 4) zE hM 0 zE).unit
   have hS0 : (red 3 (mF f) 0).1 0 0 = 1 := h1
   generalize (red 3 (mF f) 0).1 = S at *
   have hz0 : piv S 0 0 (3 - 0) = 0 := if_neg (by rw [hS0]; decide)
   refine wt ?_
   refine cq_loop (γ := Nat) (fun p => [(1, .av (.ptr 3 (matF 3 4 f))), (2, .own 10 0), (3, .av (.val (.slice none 0 0))), (4, .osl 30), (6, .osl 40), (7, .av (vi 0)), (8, .av (vi 0)), (9, .av (vi p))]) (fun _ => [(40, .row 3 1 0 (fun j _ => vi j)), (10, z212), (30, .srow 102 1 3 [.osl 200, .osl 201, .osl 202]), (200, .row 39 1 4 (rowV S 0)), (201, .row 39 1 4 (rowV S 1)), (202, .row 39 1 4 (rowV S 2))]) (fun p => 0 ≤ p ∧ p ≤ 3 ∧ piv S 0 0 3 = piv S 0 p (3 - p)) (fun p => 3 - p) 0 ⟨by decide, by decide, rfl⟩ (ent zS zT) ?_
   rintro p ⟨h1p, h2p, h3p⟩
   match p, h1p, h2p, h3p with
   |0, h1p, h2p, h3p =>
    have hLp := hLk 0 0 zE zE
    refine wt ?_
    (first | refine sq_split rfl rfl ?_ ?_ | refine dq_split rfl rfl ?_ ?_) <;> intro hb <;> (try simp only [zA, zB, zG, zC, zD, zN] at hb) <;> (try (exfalso; omega))
    refine wt ?_
    refine sq_on (g_index_s (k := 0) rfl rfl rfl rfl zO) rfl rfl rfl ?_
    refine wt ?_
    refine sq_on (g_load_s rfl rfl rfl) rfl rfl rfl ?_
    refine wt ?_
    (refine cq_cond rfl ?_ ?_ <;> intro hb <;> (try simp only [zA, zB, zG, zC, zD, zN] at hb) <;> (try (exfalso; omega)))
    ·have hz : S 0 0 = 0 := Go.Na.rtx_inj (hb.trans rtx_0.symm)
     have e : piv S 0 0 (3 - 0) = piv S 0 1 (3 - 1) := if_pos hz
     refine wt ?_
     exact sq_round 1 ⟨by decide, by decide, h3p.trans e⟩ zE (ent zS zT)
    ·have hz : S 0 0 ≠ 0 := fun e => hb (by show rtx (S 0 0) = [48]; rw [e, rtx_0])
     have e : piv S 0 0 (3 - 0) = 0 := if_neg hz
     have hpp : p0 = 0 := hp0.trans (h3p.trans e)
     subst hpp
     clear h3p hp0 e h1p h2p
     refine wt ?_
     refine dq_g (g_index_s (k := 0) rfl rfl rfl rfl zO) rfl ?_
     refine wt ?_
     refine dq_g (g_load_s rfl rfl rfl) rfl ?_
     refine wt ?_
     refine dq_g (g_index_s (k := 0) rfl rfl rfl rfl zO) rfl ?_
     refine wt ?_
     refine dq_g (g_load_s rfl rfl rfl) rfl ?_
     refine wt ?_
     refine dq_g (g_index_s (k := 0) rfl rfl rfl rfl zO) rfl ?_
     refine wt ?_
     refine dq_s (g_store_s (i := 0) rfl rfl rfl rfl zO) ?_
     refine wt ?_
     refine dq_g (g_index_s (k := 0) rfl rfl rfl rfl zO) rfl ?_
     refine wt ?_
     refine dq_s (g_store_s (i := 0) rfl rfl rfl rfl zO) ?_
     refine wt ?_
     refine lsq_more (ent (T' := [(1, .av (.ptr 3 (matF 3 4 f))), (2, .own 10 0), (3, .av (.val (.slice none 0 0))), (4, .osl 30), (6, .osl 40), (7, .av (vi 0)), (8, .av (vi 0)), (72, .osl 30), (73, .av (vi 0))]) (O' := [(40, .row 3 1 0 (fun j _ => vi j)), (10, z212), (30, .srow 102 1 3 [.osl 200, .osl 201, .osl 202]), (200, .row 39 1 4 (rowV (Go.Na.swp S 0 0) 0)), (201, .row 39 1 4 (rowV (Go.Na.swp S 0 0) 1)), (202, .row 39 1 4 (rowV (Go.Na.swp S 0 0) 2))]) zS zT) ?_
     have hn0 : Go.Na.swp S 0 0 0 0 ≠ 0 := hz
     have hLs := hLk.swp (t := 0) (p := 0) zE zE
     generalize Go.Na.swp S 0 0 = N at *
     refine wt ?_
     refine sq_g (g_index_s (k := 0) rfl rfl rfl rfl zO) rfl ?_
     refine wt ?_
     refine sq_g (g_load_s rfl rfl rfl) rfl ?_
     refine wt ?_
     refine cq_loop (γ := Nat) (fun c => [(1, .av (.ptr 3 (matF 3 4 f))), (2, .own 10 0), (3, .av (.val (.slice none 0 0))), (4, .osl 30), (6, .osl 40), (7, .av (vi 0)), (8, .av (vi 0)), (10, .av (vR (N 0 0))), (11, .av (vi c))]) (fun c => [(40, .row 3 1 0 (fun j _ => vi j)), (10, z212), (30, .srow 102 1 3 [.osl 200, .osl 201, .osl 202]), (200, .row 39 1 4 (fun j _ => vR (if j < c then N 0 j / N 0 0 else N 0 j))), (201, .row 39 1 4 (rowV N 1)), (202, .row 39 1 4 (rowV N 2))]) (fun c => c ≤ 4) (fun c => 4 - c) 0 (Nat.zero_le _) (ent zS zT) ?_
     intro c hc
     refine wt ?_
     (refine cq_cond rfl ?_ ?_ <;> intro hb <;> (try simp only [zA, zB, zG, zC, zD, zN] at hb) <;> (try (exfalso; omega)))
     ·have hc4 : c < 4 := by omega
      have hby : CtrA Tryz.prog 258 [vR (if c < c then N 0 c / N 0 0 else N 0 c), vR (N 0 0)] (vR (N 0 c / N 0 0)) := by rw [if_neg (Nat.lt_irrefl c)]; exact refby_c _ _ ((hLs 0 c (by decide) hc4).mono (by decide)) ((hLs 0 0 (by decide) (by decide)).mono (by decide)) hn0
      refine wt ?_
      refine dq_g (g_index_s (k := 0) rfl rfl rfl rfl zO) rfl ?_
      refine wt ?_
      refine dq_g (g_load_s rfl rfl rfl) rfl ?_
      refine wt ?_
      refine dq_g (g_index_s (k := 0) rfl rfl rfl rfl zO) rfl ?_
      refine wt ?_
      refine dq_g (g_load_s rfl rfl rfl) rfl ?_
      refine wt ?_
      exact sq_round (c + 1) zO zO (ent zS ⟨⟨_, rfl, .refl _⟩, ⟨_, rfl, .refl _⟩, ⟨_, rfl, .refl _⟩, ⟨_, rfl, .row rfl (rs_step _ _ _ _)⟩, ⟨_, rfl, .refl _⟩, ⟨_, rfl, .refl _⟩, trivial⟩)
     have hc4 : c = 4 := by omega
     subst hc4
     refine wt ?_
     refine cq_more (ent (T' := [(1, .av (.ptr 3 (matF 3 4 f))), (2, .own 10 0), (3, .av (.val (.slice none 0 0))), (4, .osl 30), (6, .osl 40), (7, .av (vi 0)), (8, .av (vi 0)), (12, .av (vi 0))]) (O' := [(40, .row 3 1 0 (fun j _ => vi j)), (10, z212), (30, .srow 102 1 3 [.osl 200, .osl 201, .osl 202]), (200, .row 39 1 4 (rowV (Go.Na.nrm N 0 0) 0)), (201, .row 39 1 4 (rowV (Go.Na.nrm N 0 0) 1)), (202, .row 39 1 4 (rowV (Go.Na.nrm N 0 0) 2))]) zS ⟨⟨_, rfl, .refl _⟩, ⟨_, rfl, .refl _⟩, ⟨_, rfl, .refl _⟩, ⟨_, rfl, .row rfl (fun j hj _ _ => congrArg vR (if_pos hj))⟩, ⟨_, rfl, .refl _⟩, ⟨_, rfl, .refl _⟩, trivial⟩) ?_
     have hLb : LM 202 (Go.Na.nrm N 0 0) := hLs.nrm (t := 0) (k := 0) zE zE hn0
     generalize Go.Na.nrm N 0 0 = B at *
     clear hLs hn0 hz hb
     refine cq_loop (γ := Nat) (fun i => [(1, .av (.ptr 3 (matF 3 4 f))), (2, .own 10 0), (3, .av (.val (.slice none 0 0))), (4, .osl 30), (6, .osl 40), (7, .av (vi 0)), (8, .av (vi 0)), (12, .av (vi i))]) (fun i => [(40, .row 3 1 0 (fun j _ => vi j)), (10, z212), (30, .srow 102 1 3 [.osl 200, .osl 201, .osl 202]), (200, .row 39 1 4 (eR B 0 i 0)), (201, .row 39 1 4 (eR B 0 i 1)), (202, .row 39 1 4 (eR B 0 i 2))]) (fun i => i ≤ 3) (fun i => 3 - i) 0 (Nat.zero_le _) (ent zS zT) ?_
     intro i hi
     match i, hi with
     |0, _ =>
      refine cq_more (ent (T' := [(1, .av (.ptr 3 (matF 3 4 f))), (2, .own 10 0), (3, .av (.val (.slice none 0 0))), (4, .osl 30), (6, .osl 40), (7, .av (vi 0)), (8, .av (vi 0)), (12, .av (vi 0))]) (O' := [(40, .row 3 1 0 (fun j _ => vi j)), (10, z212), (30, .srow 102 1 3 [.osl 200, .osl 201, .osl 202]), (200, .row 39 1 4 (rowV B 0)), (201, .row 39 1 4 (rowV B 1)), (202, .row 39 1 4 (rowV B 2))]) zS zT) ?_
      refine wt ?_
      refine sq_g (g_index_s (k := 0) rfl rfl rfl rfl zO) rfl ?_
      refine wt ?_
      refine sq_g (g_load_s rfl rfl rfl) rfl ?_
      refine wt ?_
      refine cq_loop (γ := Nat) (fun c => [(1, .av (.ptr 3 (matF 3 4 f))), (2, .own 10 0), (3, .av (.val (.slice none 0 0))), (4, .osl 30), (6, .osl 40), (7, .av (vi 0)), (8, .av (vi 0)), (12, .av (vi 0)), (13, .av (vR (B 0 0))), (14, .av (vi c))]) (fun c => [(40, .row 3 1 0 (fun j _ => vi j)), (10, z212), (30, .srow 102 1 3 [.osl 200, .osl 201, .osl 202]), (200, .row 39 1 4 (rowV B 0)), (201, .row 39 1 4 (rowV B 1)), (202, .row 39 1 4 (rowV B 2))]) (fun c => c ≤ 4) (fun c => 4 - c) 0 (Nat.zero_le _) (ent zS zT) ?_
      intro c hc
      refine wt ?_
      (first | refine sq_split rfl rfl ?_ ?_ | refine dq_split rfl rfl ?_ ?_) <;> intro hb <;> (try simp only [zA, zB, zG, zC, zD, zN] at hb) <;> (try (exfalso; omega))
      ·refine wt ?_
       exact sq_round 1 zE zE (ent zS zT)
      ·refine wt ?_
       exact sq_round 1 zE zE (ent zS zT)
     |1, _ =>
      refine cq_more (ent (T' := [(1, .av (.ptr 3 (matF 3 4 f))), (2, .own 10 0), (3, .av (.val (.slice none 0 0))), (4, .osl 30), (6, .osl 40), (7, .av (vi 0)), (8, .av (vi 0)), (12, .av (vi 1))]) (O' := [(40, .row 3 1 0 (fun j _ => vi j)), (10, z212), (30, .srow 102 1 3 [.osl 200, .osl 201, .osl 202]), (200, .row 39 1 4 (rowV (Go.Na.elm B 0 0) 0)), (201, .row 39 1 4 (rowV B 1)), (202, .row 39 1 4 (rowV B 2))]) zS zT) ?_
      refine wt ?_
      refine sq_g (g_index_s (k := 1) rfl rfl rfl rfl zO) rfl ?_
      refine wt ?_
      refine sq_g (g_load_s rfl rfl rfl) rfl ?_
      refine wt ?_
      refine cq_loop (γ := Nat) (fun c => [(1, .av (.ptr 3 (matF 3 4 f))), (2, .own 10 0), (3, .av (.val (.slice none 0 0))), (4, .osl 30), (6, .osl 40), (7, .av (vi 0)), (8, .av (vi 0)), (12, .av (vi 1)), (13, .av (vR (B 1 0))), (14, .av (vi c))]) (fun c => [(40, .row 3 1 0 (fun j _ => vi j)), (10, z212), (30, .srow 102 1 3 [.osl 200, .osl 201, .osl 202]), (200, .row 39 1 4 (rowV (Go.Na.elm B 0 0) 0)), (201, .row 39 1 4 (fun j _ => vR (if j < c then B 1 j - B 1 0 * B 0 j else B 1 j))), (202, .row 39 1 4 (rowV B 2))]) (fun c => c ≤ 4) (fun c => 4 - c) 0 (Nat.zero_le _) (ent zS zT) ?_
      intro c hc
      refine wt ?_
      (first | refine sq_split rfl rfl ?_ ?_ | refine dq_split rfl rfl ?_ ?_) <;> intro hb <;> (try simp only [zA, zB, zG, zC, zD, zN] at hb) <;> (try (exfalso; omega))
      ·have hc4 : c < 4 := by omega
       have b1 := hLb 1 0 zE zE
       have b2 := hLb 0 c zE hc4
       have htm := reftimes_c (B 1 0) (B 0 c) (b1.mono zE) (b2.mono zE)
       have hle : CtrA Tryz.prog 36 [vR (if c < c then B 1 c - B 1 0 * B 0 c else B 1 c), vR (B 1 0 * B 0 c)] (vR (B 1 c - B 1 0 * B 0 c)) := by rw [if_neg (Nat.lt_irrefl c)]; exact refless_c _ _ ((hLb 1 c (by decide) hc4).mono (by decide)) ((b1.mul b2).mono (by decide))
       refine wt ?_
       refine dq_g (g_index_s (k := 1) rfl rfl rfl rfl zO) rfl ?_
       refine wt ?_
       refine dq_g (g_load_s rfl rfl rfl) rfl ?_
       refine wt ?_
       refine dq_g (g_index_s (k := 1) rfl rfl rfl rfl zO) rfl ?_
       refine wt ?_
       refine dq_g (g_load_s rfl rfl rfl) rfl ?_
       refine wt ?_
       refine dq_g (g_index_s (k := 0) rfl rfl rfl rfl zO) rfl ?_
       refine wt ?_
       refine dq_g (g_load_s rfl rfl rfl) rfl ?_
       refine wt ?_
       exact sq_round (c + 1) zO zO (ent zS ⟨⟨_, rfl, .refl _⟩, ⟨_, rfl, .refl _⟩, ⟨_, rfl, .refl _⟩, ⟨_, rfl, .refl _⟩, ⟨_, rfl, .row rfl (rs_step (fun j => B 1 j - B 1 0 * B 0 j) _ _ _)⟩, ⟨_, rfl, .refl _⟩, trivial⟩)
      ·have hc4 : c = 4 := by omega
       subst hc4
       refine wt ?_
       exact sq_round 2 zE zE (ent zS ⟨⟨_, rfl, .refl _⟩, ⟨_, rfl, .refl _⟩, ⟨_, rfl, .refl _⟩, ⟨_, rfl, .refl _⟩, ⟨_, rfl, .row rfl (fun j hj _ _ => congrArg vR (if_pos hj))⟩, ⟨_, rfl, .refl _⟩, trivial⟩)
     |2, _ =>
      refine cq_more (ent (T' := [(1, .av (.ptr 3 (matF 3 4 f))), (2, .own 10 0), (3, .av (.val (.slice none 0 0))), (4, .osl 30), (6, .osl 40), (7, .av (vi 0)), (8, .av (vi 0)), (12, .av (vi 2))]) (O' := [(40, .row 3 1 0 (fun j _ => vi j)), (10, z212), (30, .srow 102 1 3 [.osl 200, .osl 201, .osl 202]), (200, .row 39 1 4 (rowV (Go.Na.elm B 0 0) 0)), (201, .row 39 1 4 (rowV (Go.Na.elm B 0 0) 1)), (202, .row 39 1 4 (rowV B 2))]) zS zT) ?_
      refine wt ?_
      refine sq_g (g_index_s (k := 2) rfl rfl rfl rfl zO) rfl ?_
      refine wt ?_
      refine sq_g (g_load_s rfl rfl rfl) rfl ?_
      refine wt ?_
      refine cq_loop (γ := Nat) (fun c => [(1, .av (.ptr 3 (matF 3 4 f))), (2, .own 10 0), (3, .av (.val (.slice none 0 0))), (4, .osl 30), (6, .osl 40), (7, .av (vi 0)), (8, .av (vi 0)), (12, .av (vi 2)), (13, .av (vR (B 2 0))), (14, .av (vi c))]) (fun c => [(40, .row 3 1 0 (fun j _ => vi j)), (10, z212), (30, .srow 102 1 3 [.osl 200, .osl 201, .osl 202]), (200, .row 39 1 4 (rowV (Go.Na.elm B 0 0) 0)), (201, .row 39 1 4 (rowV (Go.Na.elm B 0 0) 1)), (202, .row 39 1 4 (fun j _ => vR (if j < c then B 2 j - B 2 0 * B 0 j else B 2 j)))]) (fun c => c ≤ 4) (fun c => 4 - c) 0 (Nat.zero_le _) (ent zS zT) ?_
      intro c hc
      refine wt ?_
      (first | refine sq_split rfl rfl ?_ ?_ | refine dq_split rfl rfl ?_ ?_) <;> intro hb <;> (try simp only [zA, zB, zG, zC, zD, zN] at hb) <;> (try (exfalso; omega))
      ·have hc4 : c < 4 := by omega
       have b1 := hLb 2 0 zE zE
       have b2 := hLb 0 c zE hc4
       have htm := reftimes_c (B 2 0) (B 0 c) (b1.mono zE) (b2.mono zE)
       have hle : CtrA Tryz.prog 36 [vR (if c < c then B 2 c - B 2 0 * B 0 c else B 2 c), vR (B 2 0 * B 0 c)] (vR (B 2 c - B 2 0 * B 0 c)) := by rw [if_neg (Nat.lt_irrefl c)]; exact refless_c _ _ ((hLb 2 c (by decide) hc4).mono (by decide)) ((b1.mul b2).mono (by decide))
       refine wt ?_
       refine dq_g (g_index_s (k := 2) rfl rfl rfl rfl zO) rfl ?_
       refine wt ?_
       refine dq_g (g_load_s rfl rfl rfl) rfl ?_
       refine wt ?_
       refine dq_g (g_index_s (k := 2) rfl rfl rfl rfl zO) rfl ?_
       refine wt ?_
       refine dq_g (g_load_s rfl rfl rfl) rfl ?_
       refine wt ?_
       refine dq_g (g_index_s (k := 0) rfl rfl rfl rfl zO) rfl ?_
       refine wt ?_
       refine dq_g (g_load_s rfl rfl rfl) rfl ?_
       refine wt ?_
       exact sq_round (c + 1) zO zO (ent zS ⟨⟨_, rfl, .refl _⟩, ⟨_, rfl, .refl _⟩, ⟨_, rfl, .refl _⟩, ⟨_, rfl, .refl _⟩, ⟨_, rfl, .refl _⟩, ⟨_, rfl, .row rfl (rs_step (fun j => B 2 j - B 2 0 * B 0 j) _ _ _)⟩, trivial⟩)
      ·have hc4 : c = 4 := by omega
       subst hc4
       refine wt ?_
       exact sq_round 3 zE zE (ent zS ⟨⟨_, rfl, .refl _⟩, ⟨_, rfl, .refl _⟩, ⟨_, rfl, .refl _⟩, ⟨_, rfl, .refl _⟩, ⟨_, rfl, .refl _⟩, ⟨_, rfl, .row rfl (fun j hj _ _ => congrArg vR (if_pos hj))⟩, trivial⟩)
     |3, _ =>
      refine wt ?_
      refine sq_v (v_append (m := 1) (sz := 1) (bytes := 8) rfl rfl rfl (fun _ _ _ _ => rfl) zE zE zE) rfl ?_
      refine wt ?_
      exact sq_round 1 (by decide) (by decide) (ent zS ⟨⟨_, rfl, .row rfl (ld_step _)⟩, ⟨_, rfl, .refl _⟩, ⟨_, rfl, .refl _⟩, ⟨_, rfl, .row rfl (fun _ _ _ _ => by rw [hnx]; rfl)⟩, ⟨_, rfl, .row rfl (fun _ _ _ _ => by rw [hnx]; rfl)⟩, ⟨_, rfl, .row rfl (fun _ _ _ _ => by rw [hnx]; rfl)⟩, trivial⟩)
     |_ + 4, h => exact absurd h zO
   |1, h1p, h2p, h3p =>
    exact absurd (hz0.symm.trans h3p) (by have := Go.Na.piv_le S 0 (3 - 1) 1; omega)
   |2, h1p, h2p, h3p =>
    exact absurd (hz0.symm.trans h3p) (by have := Go.Na.piv_le S 0 (3 - 2) 2; omega)
   |3, _, _, h3p => exact absurd hp2 (by rw [hp0, h3p]; exact Nat.lt_irrefl 3)
   |_ + 4, _, h, _ => exact absurd h zO
  |1, _ =>
   obtain ⟨p0, hp0, hp1, hp2, hp3, hnx⟩ := red_next (n := 3) (m := 4) (k := 1) zE zE hM
   have hLk := hL 1 zE
   have hun := (Go.Na.red_ok (n := 3) (m := 4) zE hM 1 zE).unit
   generalize (red 3 (mF f) 1).1 = S at *
   refine wt ?_
   refine cq_loop (γ := Nat) (fun p => [(1, .av (.ptr 3 (matF 3 4 f))), (2, .own 10 0), (3, .av (.val (.slice none 0 0))), (4, .osl 30), (6, .osl 40), (7, .av (vi 1)), (8, .av (vi 1)), (9, .av (vi p))]) (fun _ => [(40, .row 3 1 1 (fun j _ => vi j)), (10, z212), (30, .srow 102 1 3 [.osl 200, .osl 201, .osl 202]), (200, .row 39 1 4 (rowV S 0)), (201, .row 39 1 4 (rowV S 1)), (202, .row 39 1 4 (rowV S 2))]) (fun p => 1 ≤ p ∧ p ≤ 3 ∧ piv S 1 1 2 = piv S 1 p (3 - p)) (fun p => 3 - p) 1 ⟨by decide, by decide, rfl⟩ (ent zS zT) ?_
   rintro p ⟨h1p, h2p, h3p⟩
   match p, h1p, h2p, h3p with
   |1, h1p, h2p, h3p =>
    have hLp := hLk 1 1 zE zE
    refine wt ?_
    (first | refine sq_split rfl rfl ?_ ?_ | refine dq_split rfl rfl ?_ ?_) <;> intro hb <;> (try simp only [zA, zB, zG, zC, zD, zN] at hb) <;> (try (exfalso; omega))
    refine wt ?_
    refine sq_on (g_index_s (k := 1) rfl rfl rfl rfl zO) rfl rfl rfl ?_
    refine wt ?_
    refine sq_on (g_load_s rfl rfl rfl) rfl rfl rfl ?_
    refine wt ?_
    (refine cq_cond rfl ?_ ?_ <;> intro hb <;> (try simp only [zA, zB, zG, zC, zD, zN] at hb) <;> (try (exfalso; omega)))
    ·have hz : S 1 1 = 0 := Go.Na.rtx_inj (hb.trans rtx_0.symm)
     have e : piv S 1 1 (3 - 1) = piv S 1 2 (3 - 2) := if_pos hz
     refine wt ?_
     exact sq_round 2 ⟨by decide, by decide, h3p.trans e⟩ zE (ent zS zT)
    ·have hz : S 1 1 ≠ 0 := fun e => hb (by show rtx (S 1 1) = [48]; rw [e, rtx_0])
     have e : piv S 1 1 (3 - 1) = 1 := if_neg hz
     have hpp : p0 = 1 := hp0.trans (h3p.trans e)
     subst hpp
     clear h3p hp0 e h1p h2p
     refine wt ?_
     refine dq_g (g_index_s (k := 1) rfl rfl rfl rfl zO) rfl ?_
     refine wt ?_
     refine dq_g (g_load_s rfl rfl rfl) rfl ?_
     refine wt ?_
     refine dq_g (g_index_s (k := 1) rfl rfl rfl rfl zO) rfl ?_
     refine wt ?_
     refine dq_g (g_load_s rfl rfl rfl) rfl ?_
     refine wt ?_
     refine dq_g (g_index_s (k := 1) rfl rfl rfl rfl zO) rfl ?_
     refine wt ?_
     refine dq_s (g_store_s (i := 1) rfl rfl rfl rfl zO) ?_
     refine wt ?_
     refine dq_g (g_index_s (k := 1) rfl rfl rfl rfl zO) rfl ?_
     refine wt ?_
     refine dq_s (g_store_s (i := 1) rfl rfl rfl rfl zO) ?_
     refine wt ?_
     refine lsq_more (ent (T' := [(1, .av (.ptr 3 (matF 3 4 f))), (2, .own 10 0), (3, .av (.val (.slice none 0 0))), (4, .osl 30), (6, .osl 40), (7, .av (vi 1)), (8, .av (vi 1)), (72, .osl 30), (73, .av (vi 1))]) (O' := [(40, .row 3 1 1 (fun j _ => vi j)), (10, z212), (30, .srow 102 1 3 [.osl 200, .osl 201, .osl 202]), (200, .row 39 1 4 (rowV (Go.Na.swp S 1 1) 0)), (201, .row 39 1 4 (rowV (Go.Na.swp S 1 1) 1)), (202, .row 39 1 4 (rowV (Go.Na.swp S 1 1) 2))]) zS zT) ?_
     have hn0 : Go.Na.swp S 1 1 1 1 ≠ 0 := hz
     have hLs := hLk.swp (t := 1) (p := 1) zE zE
     generalize Go.Na.swp S 1 1 = N at *
     refine wt ?_
     refine sq_g (g_index_s (k := 1) rfl rfl rfl rfl zO) rfl ?_
     refine wt ?_
     refine sq_g (g_load_s rfl rfl rfl) rfl ?_
     refine wt ?_
     refine cq_loop (γ := Nat) (fun c => [(1, .av (.ptr 3 (matF 3 4 f))), (2, .own 10 0), (3, .av (.val (.slice none 0 0))), (4, .osl 30), (6, .osl 40), (7, .av (vi 1)), (8, .av (vi 1)), (10, .av (vR (N 1 1))), (11, .av (vi c))]) (fun c => [(40, .row 3 1 1 (fun j _ => vi j)), (10, z212), (30, .srow 102 1 3 [.osl 200, .osl 201, .osl 202]), (200, .row 39 1 4 (rowV N 0)), (201, .row 39 1 4 (fun j _ => vR (if j < c then N 1 j / N 1 1 else N 1 j))), (202, .row 39 1 4 (rowV N 2))]) (fun c => c ≤ 4) (fun c => 4 - c) 0 (Nat.zero_le _) (ent zS zT) ?_
     intro c hc
     refine wt ?_
     (refine cq_cond rfl ?_ ?_ <;> intro hb <;> (try simp only [zA, zB, zG, zC, zD, zN] at hb) <;> (try (exfalso; omega)))
     ·have hc4 : c < 4 := by omega
      have hby : CtrA Tryz.prog 258 [vR (if c < c then N 1 c / N 1 1 else N 1 c), vR (N 1 1)] (vR (N 1 c / N 1 1)) := by rw [if_neg (Nat.lt_irrefl c)]; exact refby_c _ _ ((hLs 1 c (by decide) hc4).mono (by decide)) ((hLs 1 1 (by decide) (by decide)).mono (by decide)) hn0
      refine wt ?_
      refine dq_g (g_index_s (k := 1) rfl rfl rfl rfl zO) rfl ?_
      refine wt ?_
      refine dq_g (g_load_s rfl rfl rfl) rfl ?_
      refine wt ?_
      refine dq_g (g_index_s (k := 1) rfl rfl rfl rfl zO) rfl ?_
      refine wt ?_
      refine dq_g (g_load_s rfl rfl rfl) rfl ?_
      refine wt ?_
      exact sq_round (c + 1) zO zO (ent zS ⟨⟨_, rfl, .refl _⟩, ⟨_, rfl, .refl _⟩, ⟨_, rfl, .refl _⟩, ⟨_, rfl, .refl _⟩, ⟨_, rfl, .row rfl (rs_step _ _ _ _)⟩, ⟨_, rfl, .refl _⟩, trivial⟩)
     have hc4 : c = 4 := by omega
     subst hc4
     refine wt ?_
     refine cq_more (ent (T' := [(1, .av (.ptr 3 (matF 3 4 f))), (2, .own 10 0), (3, .av (.val (.slice none 0 0))), (4, .osl 30), (6, .osl 40), (7, .av (vi 1)), (8, .av (vi 1)), (12, .av (vi 0))]) (O' := [(40, .row 3 1 1 (fun j _ => vi j)), (10, z212), (30, .srow 102 1 3 [.osl 200, .osl 201, .osl 202]), (200, .row 39 1 4 (rowV (Go.Na.nrm N 1 1) 0)), (201, .row 39 1 4 (rowV (Go.Na.nrm N 1 1) 1)), (202, .row 39 1 4 (rowV (Go.Na.nrm N 1 1) 2))]) zS ⟨⟨_, rfl, .refl _⟩, ⟨_, rfl, .refl _⟩, ⟨_, rfl, .refl _⟩, ⟨_, rfl, .refl _⟩, ⟨_, rfl, .row rfl (fun j hj _ _ => congrArg vR (if_pos hj))⟩, ⟨_, rfl, .refl _⟩, trivial⟩) ?_
     have hLb : LM 202 (Go.Na.nrm N 1 1) := hLs.nrm (t := 1) (k := 1) zE zE hn0
     generalize Go.Na.nrm N 1 1 = B at *
     clear hLs hn0 hz hb
     refine cq_loop (γ := Nat) (fun i => [(1, .av (.ptr 3 (matF 3 4 f))), (2, .own 10 0), (3, .av (.val (.slice none 0 0))), (4, .osl 30), (6, .osl 40), (7, .av (vi 1)), (8, .av (vi 1)), (12, .av (vi i))]) (fun i => [(40, .row 3 1 1 (fun j _ => vi j)), (10, z212), (30, .srow 102 1 3 [.osl 200, .osl 201, .osl 202]), (200, .row 39 1 4 (eR B 1 i 0)), (201, .row 39 1 4 (eR B 1 i 1)), (202, .row 39 1 4 (eR B 1 i 2))]) (fun i => i ≤ 3) (fun i => 3 - i) 0 (Nat.zero_le _) (ent zS zT) ?_
     intro i hi
     match i, hi with
     |0, _ =>
      refine cq_more (ent (T' := [(1, .av (.ptr 3 (matF 3 4 f))), (2, .own 10 0), (3, .av (.val (.slice none 0 0))), (4, .osl 30), (6, .osl 40), (7, .av (vi 1)), (8, .av (vi 1)), (12, .av (vi 0))]) (O' := [(40, .row 3 1 1 (fun j _ => vi j)), (10, z212), (30, .srow 102 1 3 [.osl 200, .osl 201, .osl 202]), (200, .row 39 1 4 (rowV B 0)), (201, .row 39 1 4 (rowV B 1)), (202, .row 39 1 4 (rowV B 2))]) zS zT) ?_
      refine wt ?_
      refine sq_g (g_index_s (k := 0) rfl rfl rfl rfl zO) rfl ?_
      refine wt ?_
      refine sq_g (g_load_s rfl rfl rfl) rfl ?_
      refine wt ?_
      refine cq_loop (γ := Nat) (fun c => [(1, .av (.ptr 3 (matF 3 4 f))), (2, .own 10 0), (3, .av (.val (.slice none 0 0))), (4, .osl 30), (6, .osl 40), (7, .av (vi 1)), (8, .av (vi 1)), (12, .av (vi 0)), (13, .av (vR (B 0 1))), (14, .av (vi c))]) (fun c => [(40, .row 3 1 1 (fun j _ => vi j)), (10, z212), (30, .srow 102 1 3 [.osl 200, .osl 201, .osl 202]), (200, .row 39 1 4 (fun j _ => vR (if j < c then B 0 j - B 0 1 * B 1 j else B 0 j))), (201, .row 39 1 4 (rowV B 1)), (202, .row 39 1 4 (rowV B 2))]) (fun c => c ≤ 4) (fun c => 4 - c) 0 (Nat.zero_le _) (ent zS zT) ?_
      intro c hc
      refine wt ?_
      (first | refine sq_split rfl rfl ?_ ?_ | refine dq_split rfl rfl ?_ ?_) <;> intro hb <;> (try simp only [zA, zB, zG, zC, zD, zN] at hb) <;> (try (exfalso; omega))
      ·have hc4 : c < 4 := by omega
       have b1 := hLb 0 1 zE zE
       have b2 := hLb 1 c zE hc4
       have htm := reftimes_c (B 0 1) (B 1 c) (b1.mono zE) (b2.mono zE)
       have hle : CtrA Tryz.prog 36 [vR (if c < c then B 0 c - B 0 1 * B 1 c else B 0 c), vR (B 0 1 * B 1 c)] (vR (B 0 c - B 0 1 * B 1 c)) := by rw [if_neg (Nat.lt_irrefl c)]; exact refless_c _ _ ((hLb 0 c (by decide) hc4).mono (by decide)) ((b1.mul b2).mono (by decide))
       refine wt ?_
       refine dq_g (g_index_s (k := 0) rfl rfl rfl rfl zO) rfl ?_
       refine wt ?_
       refine dq_g (g_load_s rfl rfl rfl) rfl ?_
       refine wt ?_
       refine dq_g (g_index_s (k := 0) rfl rfl rfl rfl zO) rfl ?_
       refine wt ?_
       refine dq_g (g_load_s rfl rfl rfl) rfl ?_
       refine wt ?_
       refine dq_g (g_index_s (k := 1) rfl rfl rfl rfl zO) rfl ?_
       refine wt ?_
       refine dq_g (g_load_s rfl rfl rfl) rfl ?_
       refine wt ?_
       exact sq_round (c + 1) zO zO (ent zS ⟨⟨_, rfl, .refl _⟩, ⟨_, rfl, .refl _⟩, ⟨_, rfl, .refl _⟩, ⟨_, rfl, .row rfl (rs_step (fun j => B 0 j - B 0 1 * B 1 j) _ _ _)⟩, ⟨_, rfl, .refl _⟩, ⟨_, rfl, .refl _⟩, trivial⟩)
      ·have hc4 : c = 4 := by omega
       subst hc4
       refine wt ?_
       exact sq_round 1 zE zE (ent zS ⟨⟨_, rfl, .refl _⟩, ⟨_, rfl, .refl _⟩, ⟨_, rfl, .refl _⟩, ⟨_, rfl, .row rfl (fun j hj _ _ => congrArg vR (if_pos hj))⟩, ⟨_, rfl, .refl _⟩, ⟨_, rfl, .refl _⟩, trivial⟩)
     |1, _ =>
      refine cq_more (ent (T' := [(1, .av (.ptr 3 (matF 3 4 f))), (2, .own 10 0), (3, .av (.val (.slice none 0 0))), (4, .osl 30), (6, .osl 40), (7, .av (vi 1)), (8, .av (vi 1)), (12, .av (vi 1))]) (O' := [(40, .row 3 1 1 (fun j _ => vi j)), (10, z212), (30, .srow 102 1 3 [.osl 200, .osl 201, .osl 202]), (200, .row 39 1 4 (rowV (Go.Na.elm B 1 1) 0)), (201, .row 39 1 4 (rowV B 1)), (202, .row 39 1 4 (rowV B 2))]) zS zT) ?_
      refine wt ?_
      refine sq_g (g_index_s (k := 1) rfl rfl rfl rfl zO) rfl ?_
      refine wt ?_
      refine sq_g (g_load_s rfl rfl rfl) rfl ?_
      refine wt ?_
      refine cq_loop (γ := Nat) (fun c => [(1, .av (.ptr 3 (matF 3 4 f))), (2, .own 10 0), (3, .av (.val (.slice none 0 0))), (4, .osl 30), (6, .osl 40), (7, .av (vi 1)), (8, .av (vi 1)), (12, .av (vi 1)), (13, .av (vR (B 1 1))), (14, .av (vi c))]) (fun c => [(40, .row 3 1 1 (fun j _ => vi j)), (10, z212), (30, .srow 102 1 3 [.osl 200, .osl 201, .osl 202]), (200, .row 39 1 4 (rowV (Go.Na.elm B 1 1) 0)), (201, .row 39 1 4 (rowV B 1)), (202, .row 39 1 4 (rowV B 2))]) (fun c => c ≤ 4) (fun c => 4 - c) 0 (Nat.zero_le _) (ent zS zT) ?_
      intro c hc
      refine wt ?_
      (first | refine sq_split rfl rfl ?_ ?_ | refine dq_split rfl rfl ?_ ?_) <;> intro hb <;> (try simp only [zA, zB, zG, zC, zD, zN] at hb) <;> (try (exfalso; omega))
      ·refine wt ?_
       exact sq_round 2 zE zE (ent zS zT)
      ·refine wt ?_
       exact sq_round 2 zE zE (ent zS zT)
     |2, _ =>
      refine cq_more (ent (T' := [(1, .av (.ptr 3 (matF 3 4 f))), (2, .own 10 0), (3, .av (.val (.slice none 0 0))), (4, .osl 30), (6, .osl 40), (7, .av (vi 1)), (8, .av (vi 1)), (12, .av (vi 2))]) (O' := [(40, .row 3 1 1 (fun j _ => vi j)), (10, z212), (30, .srow 102 1 3 [.osl 200, .osl 201, .osl 202]), (200, .row 39 1 4 (rowV (Go.Na.elm B 1 1) 0)), (201, .row 39 1 4 (rowV (Go.Na.elm B 1 1) 1)), (202, .row 39 1 4 (rowV B 2))]) zS zT) ?_
      refine wt ?_
      refine sq_g (g_index_s (k := 2) rfl rfl rfl rfl zO) rfl ?_
      refine wt ?_
      refine sq_g (g_load_s rfl rfl rfl) rfl ?_
      refine wt ?_
      refine cq_loop (γ := Nat) (fun c => [(1, .av (.ptr 3 (matF 3 4 f))), (2, .own 10 0), (3, .av (.val (.slice none 0 0))), (4, .osl 30), (6, .osl 40), (7, .av (vi 1)), (8, .av (vi 1)), (12, .av (vi 2)), (13, .av (vR (B 2 1))), (14, .av (vi c))]) (fun c => [(40, .row 3 1 1 (fun j _ => vi j)), (10, z212), (30, .srow 102 1 3 [.osl 200, .osl 201, .osl 202]), (200, .row 39 1 4 (rowV (Go.Na.elm B 1 1) 0)), (201, .row 39 1 4 (rowV (Go.Na.elm B 1 1) 1)), (202, .row 39 1 4 (fun j _ => vR (if j < c then B 2 j - B 2 1 * B 1 j else B 2 j)))]) (fun c => c ≤ 4) (fun c => 4 - c) 0 (Nat.zero_le _) (ent zS zT) ?_
      intro c hc
      refine wt ?_
      (first | refine sq_split rfl rfl ?_ ?_ | refine dq_split rfl rfl ?_ ?_) <;> intro hb <;> (try simp only [zA, zB, zG, zC, zD, zN] at hb) <;> (try (exfalso; omega))
      ·have hc4 : c < 4 := by omega
       have b1 := hLb 2 1 zE zE
       have b2 := hLb 1 c zE hc4
       have htm := reftimes_c (B 2 1) (B 1 c) (b1.mono zE) (b2.mono zE)
       have hle : CtrA Tryz.prog 36 [vR (if c < c then B 2 c - B 2 1 * B 1 c else B 2 c), vR (B 2 1 * B 1 c)] (vR (B 2 c - B 2 1 * B 1 c)) := by rw [if_neg (Nat.lt_irrefl c)]; exact refless_c _ _ ((hLb 2 c (by decide) hc4).mono (by decide)) ((b1.mul b2).mono (by decide))
       refine wt ?_
       refine dq_g (g_index_s (k := 2) rfl rfl rfl rfl zO) rfl ?_
       refine wt ?_
       refine dq_g (g_load_s rfl rfl rfl) rfl ?_
       refine wt ?_
       refine dq_g (g_index_s (k := 2) rfl rfl rfl rfl zO) rfl ?_
       refine wt ?_
       refine dq_g (g_load_s rfl rfl rfl) rfl ?_
       refine wt ?_
       refine dq_g (g_index_s (k := 1) rfl rfl rfl rfl zO) rfl ?_
       refine wt ?_
       refine dq_g (g_load_s rfl rfl rfl) rfl ?_
       refine wt ?_
       exact sq_round (c + 1) zO zO (ent zS ⟨⟨_, rfl, .refl _⟩, ⟨_, rfl, .refl _⟩, ⟨_, rfl, .refl _⟩, ⟨_, rfl, .refl _⟩, ⟨_, rfl, .refl _⟩, ⟨_, rfl, .row rfl (rs_step (fun j => B 2 j - B 2 1 * B 1 j) _ _ _)⟩, trivial⟩)
      ·have hc4 : c = 4 := by omega
       subst hc4
       refine wt ?_
       exact sq_round 3 zE zE (ent zS ⟨⟨_, rfl, .refl _⟩, ⟨_, rfl, .refl _⟩, ⟨_, rfl, .refl _⟩, ⟨_, rfl, .refl _⟩, ⟨_, rfl, .refl _⟩, ⟨_, rfl, .row rfl (fun j hj _ _ => congrArg vR (if_pos hj))⟩, trivial⟩)
     |3, _ =>
      refine wt ?_
      refine sq_v (v_append (m := 1) (sz := 1) (bytes := 8) rfl rfl rfl (fun _ _ _ _ => rfl) zE zE zE) rfl ?_
      refine wt ?_
      exact sq_round 2 (by decide) (by decide) (ent zS ⟨⟨_, rfl, .row rfl (ld_step _)⟩, ⟨_, rfl, .refl _⟩, ⟨_, rfl, .refl _⟩, ⟨_, rfl, .row rfl (fun _ _ _ _ => by rw [hnx]; rfl)⟩, ⟨_, rfl, .row rfl (fun _ _ _ _ => by rw [hnx]; rfl)⟩, ⟨_, rfl, .row rfl (fun _ _ _ _ => by rw [hnx]; rfl)⟩, trivial⟩)
     |_ + 4, h => exact absurd h zO
   |2, h1p, h2p, h3p =>
    have hLp := hLk 2 1 zE zE
    refine wt ?_
    (first | refine sq_split rfl rfl ?_ ?_ | refine dq_split rfl rfl ?_ ?_) <;> intro hb <;> (try simp only [zA, zB, zG, zC, zD, zN] at hb) <;> (try (exfalso; omega))
    refine wt ?_
    refine sq_on (g_index_s (k := 2) rfl rfl rfl rfl zO) rfl rfl rfl ?_
    refine wt ?_
    refine sq_on (g_load_s rfl rfl rfl) rfl rfl rfl ?_
    refine wt ?_
    (refine cq_cond rfl ?_ ?_ <;> intro hb <;> (try simp only [zA, zB, zG, zC, zD, zN] at hb) <;> (try (exfalso; omega)))
    ·have hz : S 2 1 = 0 := Go.Na.rtx_inj (hb.trans rtx_0.symm)
     have e : piv S 1 2 (3 - 2) = piv S 1 3 (3 - 3) := if_pos hz
     refine wt ?_
     exact sq_round 3 ⟨by decide, by decide, h3p.trans e⟩ zE (ent zS zT)
    ·have hz : S 2 1 ≠ 0 := fun e => hb (by show rtx (S 2 1) = [48]; rw [e, rtx_0])
     have e : piv S 1 2 (3 - 2) = 2 := if_neg hz
     have hpp : p0 = 2 := hp0.trans (h3p.trans e)
     subst hpp
     clear h3p hp0 e h1p h2p
     refine wt ?_
     refine dq_g (g_index_s (k := 2) rfl rfl rfl rfl zO) rfl ?_
     refine wt ?_
     refine dq_g (g_load_s rfl rfl rfl) rfl ?_
     refine wt ?_
     refine dq_g (g_index_s (k := 1) rfl rfl rfl rfl zO) rfl ?_
     refine wt ?_
     refine dq_g (g_load_s rfl rfl rfl) rfl ?_
     refine wt ?_
     refine dq_g (g_index_s (k := 1) rfl rfl rfl rfl zO) rfl ?_
     refine wt ?_
     refine dq_s (g_store_s (i := 1) rfl rfl rfl rfl zO) ?_
     refine wt ?_
     refine dq_g (g_index_s (k := 2) rfl rfl rfl rfl zO) rfl ?_
     refine wt ?_
     refine dq_s (g_store_s (i := 2) rfl rfl rfl rfl zO) ?_
     refine wt ?_
     refine lsq_more (Ent.trans (ent (T' := [(1, .av (.ptr 3 (matF 3 4 f))), (2, .own 10 0), (3, .av (.val (.slice none 0 0))), (4, .osl 30), (6, .osl 40), (7, .av (vi 1)), (8, .av (vi 1)), (72, .osl 30), (73, .av (vi 1))]) (O' := [(40, .row 3 1 1 (fun j _ => vi j)), (10, z212), (30, .srow 102 1 3 [.osl 200, .osl 202, .osl 201]), (200, .row 39 1 4 (rowV (Go.Na.swp S 1 2) 0)), (202, .row 39 1 4 (rowV (Go.Na.swp S 1 2) 1)), (201, .row 39 1 4 (rowV (Go.Na.swp S 1 2) 2))]) zS zT) (ent_ren (T' := [(1, .av (.ptr 3 (matF 3 4 f))), (2, .own 10 0), (3, .av (.val (.slice none 0 0))), (4, .osl 30), (6, .osl 40), (7, .av (vi 1)), (8, .av (vi 1)), (72, .osl 30), (73, .av (vi 1))]) (O' := [(40, .row 3 1 1 (fun j _ => vi j)), (10, z212), (30, .srow 102 1 3 [.osl 200, .osl 201, .osl 202]), (200, .row 39 1 4 (rowV (Go.Na.swp S 1 2) 0)), (201, .row 39 1 4 (rowV (Go.Na.swp S 1 2) 1)), (202, .row 39 1 4 (rowV (Go.Na.swp S 1 2) 2))]) [(201, 202), (202, 201)] ⟨rfl, rfl, rfl, rfl, rfl, rfl, rfl, rfl, rfl, trivial⟩ ⟨rfl, rfl, rfl, rfl, rfl, rfl, trivial⟩ rfl rfl)) ?_
     have hn0 : Go.Na.swp S 1 2 1 1 ≠ 0 := hz
     have hLs := hLk.swp (t := 1) (p := 2) zE zE
     generalize Go.Na.swp S 1 2 = N at *
     refine wt ?_
     refine sq_g (g_index_s (k := 1) rfl rfl rfl rfl zO) rfl ?_
     refine wt ?_
     refine sq_g (g_load_s rfl rfl rfl) rfl ?_
     refine wt ?_
     refine cq_loop (γ := Nat) (fun c => [(1, .av (.ptr 3 (matF 3 4 f))), (2, .own 10 0), (3, .av (.val (.slice none 0 0))), (4, .osl 30), (6, .osl 40), (7, .av (vi 1)), (8, .av (vi 1)), (10, .av (vR (N 1 1))), (11, .av (vi c))]) (fun c => [(40, .row 3 1 1 (fun j _ => vi j)), (10, z212), (30, .srow 102 1 3 [.osl 200, .osl 201, .osl 202]), (200, .row 39 1 4 (rowV N 0)), (201, .row 39 1 4 (fun j _ => vR (if j < c then N 1 j / N 1 1 else N 1 j))), (202, .row 39 1 4 (rowV N 2))]) (fun c => c ≤ 4) (fun c => 4 - c) 0 (Nat.zero_le _) (ent zS zT) ?_
     intro c hc
     refine wt ?_
     (refine cq_cond rfl ?_ ?_ <;> intro hb <;> (try simp only [zA, zB, zG, zC, zD, zN] at hb) <;> (try (exfalso; omega)))
     ·have hc4 : c < 4 := by omega
      have hby : CtrA Tryz.prog 258 [vR (if c < c then N 1 c / N 1 1 else N 1 c), vR (N 1 1)] (vR (N 1 c / N 1 1)) := by rw [if_neg (Nat.lt_irrefl c)]; exact refby_c _ _ ((hLs 1 c (by decide) hc4).mono (by decide)) ((hLs 1 1 (by decide) (by decide)).mono (by decide)) hn0
      refine wt ?_
      refine dq_g (g_index_s (k := 1) rfl rfl rfl rfl zO) rfl ?_
      refine wt ?_
      refine dq_g (g_load_s rfl rfl rfl) rfl ?_
      refine wt ?_
      refine dq_g (g_index_s (k := 1) rfl rfl rfl rfl zO) rfl ?_
      refine wt ?_
      refine dq_g (g_load_s rfl rfl rfl) rfl ?_
      refine wt ?_
      exact sq_round (c + 1) zO zO (ent zS ⟨⟨_, rfl, .refl _⟩, ⟨_, rfl, .refl _⟩, ⟨_, rfl, .refl _⟩, ⟨_, rfl, .refl _⟩, ⟨_, rfl, .row rfl (rs_step _ _ _ _)⟩, ⟨_, rfl, .refl _⟩, trivial⟩)
     have hc4 : c = 4 := by omega
     subst hc4
     refine wt ?_
     refine cq_more (ent (T' := [(1, .av (.ptr 3 (matF 3 4 f))), (2, .own 10 0), (3, .av (.val (.slice none 0 0))), (4, .osl 30), (6, .osl 40), (7, .av (vi 1)), (8, .av (vi 1)), (12, .av (vi 0))]) (O' := [(40, .row 3 1 1 (fun j _ => vi j)), (10, z212), (30, .srow 102 1 3 [.osl 200, .osl 201, .osl 202]), (200, .row 39 1 4 (rowV (Go.Na.nrm N 1 1) 0)), (201, .row 39 1 4 (rowV (Go.Na.nrm N 1 1) 1)), (202, .row 39 1 4 (rowV (Go.Na.nrm N 1 1) 2))]) zS ⟨⟨_, rfl, .refl _⟩, ⟨_, rfl, .refl _⟩, ⟨_, rfl, .refl _⟩, ⟨_, rfl, .refl _⟩, ⟨_, rfl, .row rfl (fun j hj _ _ => congrArg vR (if_pos hj))⟩, ⟨_, rfl, .refl _⟩, trivial⟩) ?_
     have hLb : LM 202 (Go.Na.nrm N 1 1) := hLs.nrm (t := 1) (k := 1) zE zE hn0
     generalize Go.Na.nrm N 1 1 = B at *
     clear hLs hn0 hz hb
     refine cq_loop (γ := Nat) (fun i => [(1, .av (.ptr 3 (matF 3 4 f))), (2, .own 10 0), (3, .av (.val (.slice none 0 0))), (4, .osl 30), (6, .osl 40), (7, .av (vi 1)), (8, .av (vi 1)), (12, .av (vi i))]) (fun i => [(40, .row 3 1 1 (fun j _ => vi j)), (10, z212), (30, .srow 102 1 3 [.osl 200, .osl 201, .osl 202]), (200, .row 39 1 4 (eR B 1 i 0)), (201, .row 39 1 4 (eR B 1 i 1)), (202, .row 39 1 4 (eR B 1 i 2))]) (fun i => i ≤ 3) (fun i => 3 - i) 0 (Nat.zero_le _) (ent zS zT) ?_
     intro i hi
     match i, hi with
     |0, _ =>
      refine cq_more (ent (T' := [(1, .av (.ptr 3 (matF 3 4 f))), (2, .own 10 0), (3, .av (.val (.slice none 0 0))), (4, .osl 30), (6, .osl 40), (7, .av (vi 1)), (8, .av (vi 1)), (12, .av (vi 0))]) (O' := [(40, .row 3 1 1 (fun j _ => vi j)), (10, z212), (30, .srow 102 1 3 [.osl 200, .osl 201, .osl 202]), (200, .row 39 1 4 (rowV B 0)), (201, .row 39 1 4 (rowV B 1)), (202, .row 39 1 4 (rowV B 2))]) zS zT) ?_
      refine wt ?_
      refine sq_g (g_index_s (k := 0) rfl rfl rfl rfl zO) rfl ?_
      refine wt ?_
      refine sq_g (g_load_s rfl rfl rfl) rfl ?_
      refine wt ?_
      refine cq_loop (γ := Nat) (fun c => [(1, .av (.ptr 3 (matF 3 4 f))), (2, .own 10 0), (3, .av (.val (.slice none 0 0))), (4, .osl 30), (6, .osl 40), (7, .av (vi 1)), (8, .av (vi 1)), (12, .av (vi 0)), (13, .av (vR (B 0 1))), (14, .av (vi c))]) (fun c => [(40, .row 3 1 1 (fun j _ => vi j)), (10, z212), (30, .srow 102 1 3 [.osl 200, .osl 201, .osl 202]), (200, .row 39 1 4 (fun j _ => vR (if j < c then B 0 j - B 0 1 * B 1 j else B 0 j))), (201, .row 39 1 4 (rowV B 1)), (202, .row 39 1 4 (rowV B 2))]) (fun c => c ≤ 4) (fun c => 4 - c) 0 (Nat.zero_le _) (ent zS zT) ?_
      intro c hc
      refine wt ?_
      (first | refine sq_split rfl rfl ?_ ?_ | refine dq_split rfl rfl ?_ ?_) <;> intro hb <;> (try simp only [zA, zB, zG, zC, zD, zN] at hb) <;> (try (exfalso; omega))
      ·have hc4 : c < 4 := by omega
       have b1 := hLb 0 1 zE zE
       have b2 := hLb 1 c zE hc4
       have htm := reftimes_c (B 0 1) (B 1 c) (b1.mono zE) (b2.mono zE)
       have hle : CtrA Tryz.prog 36 [vR (if c < c then B 0 c - B 0 1 * B 1 c else B 0 c), vR (B 0 1 * B 1 c)] (vR (B 0 c - B 0 1 * B 1 c)) := by rw [if_neg (Nat.lt_irrefl c)]; exact refless_c _ _ ((hLb 0 c (by decide) hc4).mono (by decide)) ((b1.mul b2).mono (by decide))
       refine wt ?_
       refine dq_g (g_index_s (k := 0) rfl rfl rfl rfl zO) rfl ?_
       refine wt ?_
       refine dq_g (g_load_s rfl rfl rfl) rfl ?_
       refine wt ?_
       refine dq_g (g_index_s (k := 0) rfl rfl rfl rfl zO) rfl ?_
       refine wt ?_
       refine dq_g (g_load_s rfl rfl rfl) rfl ?_
       refine wt ?_
       refine dq_g (g_index_s (k := 1) rfl rfl rfl rfl zO) rfl ?_
       refine wt ?_
       refine dq_g (g_load_s rfl rfl rfl) rfl ?_
       refine wt ?_
       exact sq_round (c + 1) zO zO (ent zS ⟨⟨_, rfl, .refl _⟩, ⟨_, rfl, .refl _⟩, ⟨_, rfl, .refl _⟩, ⟨_, rfl, .row rfl (rs_step (fun j => B 0 j - B 0 1 * B 1 j) _ _ _)⟩, ⟨_, rfl, .refl _⟩, ⟨_, rfl, .refl _⟩, trivial⟩)
      ·have hc4 : c = 4 := by omega
       subst hc4
       refine wt ?_
       exact sq_round 1 zE zE (ent zS ⟨⟨_, rfl, .refl _⟩, ⟨_, rfl, .refl _⟩, ⟨_, rfl, .refl _⟩, ⟨_, rfl, .row rfl (fun j hj _ _ => congrArg vR (if_pos hj))⟩, ⟨_, rfl, .refl _⟩, ⟨_, rfl, .refl _⟩, trivial⟩)
     |1, _ =>
      refine cq_more (ent (T' := [(1, .av (.ptr 3 (matF 3 4 f))), (2, .own 10 0), (3, .av (.val (.slice none 0 0))), (4, .osl 30), (6, .osl 40), (7, .av (vi 1)), (8, .av (vi 1)), (12, .av (vi 1))]) (O' := [(40, .row 3 1 1 (fun j _ => vi j)), (10, z212), (30, .srow 102 1 3 [.osl 200, .osl 201, .osl 202]), (200, .row 39 1 4 (rowV (Go.Na.elm B 1 1) 0)), (201, .row 39 1 4 (rowV B 1)), (202, .row 39 1 4 (rowV B 2))]) zS zT) ?_
      refine wt ?_
      refine sq_g (g_index_s (k := 1) rfl rfl rfl rfl zO) rfl ?_
      refine wt ?_
      refine sq_g (g_load_s rfl rfl rfl) rfl ?_
      refine wt ?_
      refine cq_loop (γ := Nat) (fun c => [(1, .av (.ptr 3 (matF 3 4 f))), (2, .own 10 0), (3, .av (.val (.slice none 0 0))), (4, .osl 30), (6, .osl 40), (7, .av (vi 1)), (8, .av (vi 1)), (12, .av (vi 1)), (13, .av (vR (B 1 1))), (14, .av (vi c))]) (fun c => [(40, .row 3 1 1 (fun j _ => vi j)), (10, z212), (30, .srow 102 1 3 [.osl 200, .osl 201, .osl 202]), (200, .row 39 1 4 (rowV (Go.Na.elm B 1 1) 0)), (201, .row 39 1 4 (rowV B 1)), (202, .row 39 1 4 (rowV B 2))]) (fun c => c ≤ 4) (fun c => 4 - c) 0 (Nat.zero_le _) (ent zS zT) ?_
      intro c hc
      refine wt ?_
      (first | refine sq_split rfl rfl ?_ ?_ | refine dq_split rfl rfl ?_ ?_) <;> intro hb <;> (try simp only [zA, zB, zG, zC, zD, zN] at hb) <;> (try (exfalso; omega))
      ·refine wt ?_
       exact sq_round 2 zE zE (ent zS zT)
      ·refine wt ?_
       exact sq_round 2 zE zE (ent zS zT)
     |2, _ =>
      refine cq_more (ent (T' := [(1, .av (.ptr 3 (matF 3 4 f))), (2, .own 10 0), (3, .av (.val (.slice none 0 0))), (4, .osl 30), (6, .osl 40), (7, .av (vi 1)), (8, .av (vi 1)), (12, .av (vi 2))]) (O' := [(40, .row 3 1 1 (fun j _ => vi j)), (10, z212), (30, .srow 102 1 3 [.osl 200, .osl 201, .osl 202]), (200, .row 39 1 4 (rowV (Go.Na.elm B 1 1) 0)), (201, .row 39 1 4 (rowV (Go.Na.elm B 1 1) 1)), (202, .row 39 1 4 (rowV B 2))]) zS zT) ?_
      refine wt ?_
      refine sq_g (g_index_s (k := 2) rfl rfl rfl rfl zO) rfl ?_
      refine wt ?_
      refine sq_g (g_load_s rfl rfl rfl) rfl ?_
      refine wt ?_
      refine cq_loop (γ := Nat) (fun c => [(1, .av (.ptr 3 (matF 3 4 f))), (2, .own 10 0), (3, .av (.val (.slice none 0 0))), (4, .osl 30), (6, .osl 40), (7, .av (vi 1)), (8, .av (vi 1)), (12, .av (vi 2)), (13, .av (vR (B 2 1))), (14, .av (vi c))]) (fun c => [(40, .row 3 1 1 (fun j _ => vi j)), (10, z212), (30, .srow 102 1 3 [.osl 200, .osl 201, .osl 202]), (200, .row 39 1 4 (rowV (Go.Na.elm B 1 1) 0)), (201, .row 39 1 4 (rowV (Go.Na.elm B 1 1) 1)), (202, .row 39 1 4 (fun j _ => vR (if j < c then B 2 j - B 2 1 * B 1 j else B 2 j)))]) (fun c => c ≤ 4) (fun c => 4 - c) 0 (Nat.zero_le _) (ent zS zT) ?_
      intro c hc
      refine wt ?_
      (first | refine sq_split rfl rfl ?_ ?_ | refine dq_split rfl rfl ?_ ?_) <;> intro hb <;> (try simp only [zA, zB, zG, zC, zD, zN] at hb) <;> (try (exfalso; omega))
      ·have hc4 : c < 4 := by omega
       have b1 := hLb 2 1 zE zE
       have b2 := hLb 1 c zE hc4
       have htm := reftimes_c (B 2 1) (B 1 c) (b1.mono zE) (b2.mono zE)
       have hle : CtrA Tryz.prog 36 [vR (if c < c then B 2 c - B 2 1 * B 1 c else B 2 c), vR (B 2 1 * B 1 c)] (vR (B 2 c - B 2 1 * B 1 c)) := by rw [if_neg (Nat.lt_irrefl c)]; exact refless_c _ _ ((hLb 2 c (by decide) hc4).mono (by decide)) ((b1.mul b2).mono (by decide))
       refine wt ?_
       refine dq_g (g_index_s (k := 2) rfl rfl rfl rfl zO) rfl ?_
       refine wt ?_
       refine dq_g (g_load_s rfl rfl rfl) rfl ?_
       refine wt ?_
       refine dq_g (g_index_s (k := 2) rfl rfl rfl rfl zO) rfl ?_
       refine wt ?_
       refine dq_g (g_load_s rfl rfl rfl) rfl ?_
       refine wt ?_
       refine dq_g (g_index_s (k := 1) rfl rfl rfl rfl zO) rfl ?_
       refine wt ?_
       refine dq_g (g_load_s rfl rfl rfl) rfl ?_
       refine wt ?_
       exact sq_round (c + 1) zO zO (ent zS ⟨⟨_, rfl, .refl _⟩, ⟨_, rfl, .refl _⟩, ⟨_, rfl, .refl _⟩, ⟨_, rfl, .refl _⟩, ⟨_, rfl, .refl _⟩, ⟨_, rfl, .row rfl (rs_step (fun j => B 2 j - B 2 1 * B 1 j) _ _ _)⟩, trivial⟩)
      ·have hc4 : c = 4 := by omega
       subst hc4
       refine wt ?_
       exact sq_round 3 zE zE (ent zS ⟨⟨_, rfl, .refl _⟩, ⟨_, rfl, .refl _⟩, ⟨_, rfl, .refl _⟩, ⟨_, rfl, .refl _⟩, ⟨_, rfl, .refl _⟩, ⟨_, rfl, .row rfl (fun j hj _ _ => congrArg vR (if_pos hj))⟩, trivial⟩)
     |3, _ =>
      refine wt ?_
      refine sq_v (v_append (m := 1) (sz := 1) (bytes := 8) rfl rfl rfl (fun _ _ _ _ => rfl) zE zE zE) rfl ?_
      refine wt ?_
      exact sq_round 2 (by decide) (by decide) (ent zS ⟨⟨_, rfl, .row rfl (ld_step _)⟩, ⟨_, rfl, .refl _⟩, ⟨_, rfl, .refl _⟩, ⟨_, rfl, .row rfl (fun _ _ _ _ => by rw [hnx]; rfl)⟩, ⟨_, rfl, .row rfl (fun _ _ _ _ => by rw [hnx]; rfl)⟩, ⟨_, rfl, .row rfl (fun _ _ _ _ => by rw [hnx]; rfl)⟩, trivial⟩)
     |_ + 4, h => exact absurd h zO
   |3, _, _, h3p => exact absurd hp2 (by rw [hp0, h3p]; exact Nat.lt_irrefl 3)
   |_ + 4, _, h, _ => exact absurd h zO
   |0, h, _, _ => exact absurd h zO
  |2, _ =>
   obtain ⟨p0, hp0, hp1, hp2, hp3, hnx⟩ := red_next (n := 3) (m := 4) (k := 2) zE zE hM
   have hLk := hL 2 zE
   have hun := (Go.Na.red_ok (n := 3) (m := 4) zE hM 2 zE).unit
   generalize (red 3 (mF f) 2).1 = S at *
   refine wt ?_
   refine cq_loop (γ := Nat) (fun p => [(1, .av (.ptr 3 (matF 3 4 f))), (2, .own 10 0), (3, .av (.val (.slice none 0 0))), (4, .osl 30), (6, .osl 40), (7, .av (vi 2)), (8, .av (vi 2)), (9, .av (vi p))]) (fun _ => [(40, .row 3 1 2 (fun j _ => vi j)), (10, z212), (30, .srow 102 1 3 [.osl 200, .osl 201, .osl 202]), (200, .row 39 1 4 (rowV S 0)), (201, .row 39 1 4 (rowV S 1)), (202, .row 39 1 4 (rowV S 2))]) (fun p => 2 ≤ p ∧ p ≤ 3 ∧ piv S 2 2 1 = piv S 2 p (3 - p)) (fun p => 3 - p) 2 ⟨by decide, by decide, rfl⟩ (ent zS zT) ?_
   rintro p ⟨h1p, h2p, h3p⟩
   match p, h1p, h2p, h3p with
   |2, h1p, h2p, h3p =>
    have hLp := hLk 2 2 zE zE
    refine wt ?_
    (first | refine sq_split rfl rfl ?_ ?_ | refine dq_split rfl rfl ?_ ?_) <;> intro hb <;> (try simp only [zA, zB, zG, zC, zD, zN] at hb) <;> (try (exfalso; omega))
    refine wt ?_
    refine sq_on (g_index_s (k := 2) rfl rfl rfl rfl zO) rfl rfl rfl ?_
    refine wt ?_
    refine sq_on (g_load_s rfl rfl rfl) rfl rfl rfl ?_
    refine wt ?_
    (refine cq_cond rfl ?_ ?_ <;> intro hb <;> (try simp only [zA, zB, zG, zC, zD, zN] at hb) <;> (try (exfalso; omega)))
    ·have hz : S 2 2 = 0 := Go.Na.rtx_inj (hb.trans rtx_0.symm)
     have e : piv S 2 2 (3 - 2) = piv S 2 3 (3 - 3) := if_pos hz
     refine wt ?_
     exact sq_round 3 ⟨by decide, by decide, h3p.trans e⟩ zE (ent zS zT)
    ·have hz : S 2 2 ≠ 0 := fun e => hb (by show rtx (S 2 2) = [48]; rw [e, rtx_0])
     have e : piv S 2 2 (3 - 2) = 2 := if_neg hz
     have hpp : p0 = 2 := hp0.trans (h3p.trans e)
     subst hpp
     clear h3p hp0 e h1p h2p
     refine wt ?_
     refine dq_g (g_index_s (k := 2) rfl rfl rfl rfl zO) rfl ?_
     refine wt ?_
     refine dq_g (g_load_s rfl rfl rfl) rfl ?_
     refine wt ?_
     refine dq_g (g_index_s (k := 2) rfl rfl rfl rfl zO) rfl ?_
     refine wt ?_
     refine dq_g (g_load_s rfl rfl rfl) rfl ?_
     refine wt ?_
     refine dq_g (g_index_s (k := 2) rfl rfl rfl rfl zO) rfl ?_
     refine wt ?_
     refine dq_s (g_store_s (i := 2) rfl rfl rfl rfl zO) ?_
     refine wt ?_
     refine dq_g (g_index_s (k := 2) rfl rfl rfl rfl zO) rfl ?_
     refine wt ?_
     refine dq_s (g_store_s (i := 2) rfl rfl rfl rfl zO) ?_
     refine wt ?_
     refine lsq_more (ent (T' := [(1, .av (.ptr 3 (matF 3 4 f))), (2, .own 10 0), (3, .av (.val (.slice none 0 0))), (4, .osl 30), (6, .osl 40), (7, .av (vi 2)), (8, .av (vi 2)), (72, .osl 30), (73, .av (vi 2))]) (O' := [(40, .row 3 1 2 (fun j _ => vi j)), (10, z212), (30, .srow 102 1 3 [.osl 200, .osl 201, .osl 202]), (200, .row 39 1 4 (rowV (Go.Na.swp S 2 2) 0)), (201, .row 39 1 4 (rowV (Go.Na.swp S 2 2) 1)), (202, .row 39 1 4 (rowV (Go.Na.swp S 2 2) 2))]) zS zT) ?_
     have hn0 : Go.Na.swp S 2 2 2 2 ≠ 0 := hz
     have hLs := hLk.swp (t := 2) (p := 2) zE zE
     generalize Go.Na.swp S 2 2 = N at *
     refine wt ?_
     refine sq_g (g_index_s (k := 2) rfl rfl rfl rfl zO) rfl ?_
     refine wt ?_
     refine sq_g (g_load_s rfl rfl rfl) rfl ?_
     refine wt ?_
     refine cq_loop (γ := Nat) (fun c => [(1, .av (.ptr 3 (matF 3 4 f))), (2, .own 10 0), (3, .av (.val (.slice none 0 0))), (4, .osl 30), (6, .osl 40), (7, .av (vi 2)), (8, .av (vi 2)), (10, .av (vR (N 2 2))), (11, .av (vi c))]) (fun c => [(40, .row 3 1 2 (fun j _ => vi j)), (10, z212), (30, .srow 102 1 3 [.osl 200, .osl 201, .osl 202]), (200, .row 39 1 4 (rowV N 0)), (201, .row 39 1 4 (rowV N 1)), (202, .row 39 1 4 (fun j _ => vR (if j < c then N 2 j / N 2 2 else N 2 j)))]) (fun c => c ≤ 4) (fun c => 4 - c) 0 (Nat.zero_le _) (ent zS zT) ?_
     intro c hc
     refine wt ?_
     (refine cq_cond rfl ?_ ?_ <;> intro hb <;> (try simp only [zA, zB, zG, zC, zD, zN] at hb) <;> (try (exfalso; omega)))
     ·have hc4 : c < 4 := by omega
      have hby : CtrA Tryz.prog 258 [vR (if c < c then N 2 c / N 2 2 else N 2 c), vR (N 2 2)] (vR (N 2 c / N 2 2)) := by rw [if_neg (Nat.lt_irrefl c)]; exact refby_c _ _ ((hLs 2 c (by decide) hc4).mono (by decide)) ((hLs 2 2 (by decide) (by decide)).mono (by decide)) hn0
      refine wt ?_
      refine dq_g (g_index_s (k := 2) rfl rfl rfl rfl zO) rfl ?_
      refine wt ?_
      refine dq_g (g_load_s rfl rfl rfl) rfl ?_
      refine wt ?_
      refine dq_g (g_index_s (k := 2) rfl rfl rfl rfl zO) rfl ?_
      refine wt ?_
      refine dq_g (g_load_s rfl rfl rfl) rfl ?_
      refine wt ?_
      exact sq_round (c + 1) zO zO (ent zS ⟨⟨_, rfl, .refl _⟩, ⟨_, rfl, .refl _⟩, ⟨_, rfl, .refl _⟩, ⟨_, rfl, .refl _⟩, ⟨_, rfl, .refl _⟩, ⟨_, rfl, .row rfl (rs_step _ _ _ _)⟩, trivial⟩)
     have hc4 : c = 4 := by omega
     subst hc4
     refine wt ?_
     refine cq_more (ent (T' := [(1, .av (.ptr 3 (matF 3 4 f))), (2, .own 10 0), (3, .av (.val (.slice none 0 0))), (4, .osl 30), (6, .osl 40), (7, .av (vi 2)), (8, .av (vi 2)), (12, .av (vi 0))]) (O' := [(40, .row 3 1 2 (fun j _ => vi j)), (10, z212), (30, .srow 102 1 3 [.osl 200, .osl 201, .osl 202]), (200, .row 39 1 4 (rowV (Go.Na.nrm N 2 2) 0)), (201, .row 39 1 4 (rowV (Go.Na.nrm N 2 2) 1)), (202, .row 39 1 4 (rowV (Go.Na.nrm N 2 2) 2))]) zS ⟨⟨_, rfl, .refl _⟩, ⟨_, rfl, .refl _⟩, ⟨_, rfl, .refl _⟩, ⟨_, rfl, .refl _⟩, ⟨_, rfl, .refl _⟩, ⟨_, rfl, .row rfl (fun j hj _ _ => congrArg vR (if_pos hj))⟩, trivial⟩) ?_
     have hLb : LM 202 (Go.Na.nrm N 2 2) := hLs.nrm (t := 2) (k := 2) zE zE hn0
     generalize Go.Na.nrm N 2 2 = B at *
     clear hLs hn0 hz hb
     refine cq_loop (γ := Nat) (fun i => [(1, .av (.ptr 3 (matF 3 4 f))), (2, .own 10 0), (3, .av (.val (.slice none 0 0))), (4, .osl 30), (6, .osl 40), (7, .av (vi 2)), (8, .av (vi 2)), (12, .av (vi i))]) (fun i => [(40, .row 3 1 2 (fun j _ => vi j)), (10, z212), (30, .srow 102 1 3 [.osl 200, .osl 201, .osl 202]), (200, .row 39 1 4 (eR B 2 i 0)), (201, .row 39 1 4 (eR B 2 i 1)), (202, .row 39 1 4 (eR B 2 i 2))]) (fun i => i ≤ 3) (fun i => 3 - i) 0 (Nat.zero_le _) (ent zS zT) ?_
     intro i hi
     match i, hi with
     |0, _ =>
      refine cq_more (ent (T' := [(1, .av (.ptr 3 (matF 3 4 f))), (2, .own 10 0), (3, .av (.val (.slice none 0 0))), (4, .osl 30), (6, .osl 40), (7, .av (vi 2)), (8, .av (vi 2)), (12, .av (vi 0))]) (O' := [(40, .row 3 1 2 (fun j _ => vi j)), (10, z212), (30, .srow 102 1 3 [.osl 200, .osl 201, .osl 202]), (200, .row 39 1 4 (rowV B 0)), (201, .row 39 1 4 (rowV B 1)), (202, .row 39 1 4 (rowV B 2))]) zS zT) ?_
      refine wt ?_
      refine sq_g (g_index_s (k := 0) rfl rfl rfl rfl zO) rfl ?_
      refine wt ?_
      refine sq_g (g_load_s rfl rfl rfl) rfl ?_
      refine wt ?_
      refine cq_loop (γ := Nat) (fun c => [(1, .av (.ptr 3 (matF 3 4 f))), (2, .own 10 0), (3, .av (.val (.slice none 0 0))), (4, .osl 30), (6, .osl 40), (7, .av (vi 2)), (8, .av (vi 2)), (12, .av (vi 0)), (13, .av (vR (B 0 2))), (14, .av (vi c))]) (fun c => [(40, .row 3 1 2 (fun j _ => vi j)), (10, z212), (30, .srow 102 1 3 [.osl 200, .osl 201, .osl 202]), (200, .row 39 1 4 (fun j _ => vR (if j < c then B 0 j - B 0 2 * B 2 j else B 0 j))), (201, .row 39 1 4 (rowV B 1)), (202, .row 39 1 4 (rowV B 2))]) (fun c => c ≤ 4) (fun c => 4 - c) 0 (Nat.zero_le _) (ent zS zT) ?_
      intro c hc
      refine wt ?_
      (first | refine sq_split rfl rfl ?_ ?_ | refine dq_split rfl rfl ?_ ?_) <;> intro hb <;> (try simp only [zA, zB, zG, zC, zD, zN] at hb) <;> (try (exfalso; omega))
      ·have hc4 : c < 4 := by omega
       have b1 := hLb 0 2 zE zE
       have b2 := hLb 2 c zE hc4
       have htm := reftimes_c (B 0 2) (B 2 c) (b1.mono zE) (b2.mono zE)
       have hle : CtrA Tryz.prog 36 [vR (if c < c then B 0 c - B 0 2 * B 2 c else B 0 c), vR (B 0 2 * B 2 c)] (vR (B 0 c - B 0 2 * B 2 c)) := by rw [if_neg (Nat.lt_irrefl c)]; exact refless_c _ _ ((hLb 0 c (by decide) hc4).mono (by decide)) ((b1.mul b2).mono (by decide))
       refine wt ?_
       refine dq_g (g_index_s (k := 0) rfl rfl rfl rfl zO) rfl ?_
       refine wt ?_
       refine dq_g (g_load_s rfl rfl rfl) rfl ?_
       refine wt ?_
       refine dq_g (g_index_s (k := 0) rfl rfl rfl rfl zO) rfl ?_
       refine wt ?_
       refine dq_g (g_load_s rfl rfl rfl) rfl ?_
       refine wt ?_
       refine dq_g (g_index_s (k := 2) rfl rfl rfl rfl zO) rfl ?_
       refine wt ?_
       refine dq_g (g_load_s rfl rfl rfl) rfl ?_
       refine wt ?_
       exact sq_round (c + 1) zO zO (ent zS ⟨⟨_, rfl, .refl _⟩, ⟨_, rfl, .refl _⟩, ⟨_, rfl, .refl _⟩, ⟨_, rfl, .row rfl (rs_step (fun j => B 0 j - B 0 2 * B 2 j) _ _ _)⟩, ⟨_, rfl, .refl _⟩, ⟨_, rfl, .refl _⟩, trivial⟩)
      ·have hc4 : c = 4 := by omega
       subst hc4
       refine wt ?_
       exact sq_round 1 zE zE (ent zS ⟨⟨_, rfl, .refl _⟩, ⟨_, rfl, .refl _⟩, ⟨_, rfl, .refl _⟩, ⟨_, rfl, .row rfl (fun j hj _ _ => congrArg vR (if_pos hj))⟩, ⟨_, rfl, .refl _⟩, ⟨_, rfl, .refl _⟩, trivial⟩)
     |1, _ =>
      refine cq_more (ent (T' := [(1, .av (.ptr 3 (matF 3 4 f))), (2, .own 10 0), (3, .av (.val (.slice none 0 0))), (4, .osl 30), (6, .osl 40), (7, .av (vi 2)), (8, .av (vi 2)), (12, .av (vi 1))]) (O' := [(40, .row 3 1 2 (fun j _ => vi j)), (10, z212), (30, .srow 102 1 3 [.osl 200, .osl 201, .osl 202]), (200, .row 39 1 4 (rowV (Go.Na.elm B 2 2) 0)), (201, .row 39 1 4 (rowV B 1)), (202, .row 39 1 4 (rowV B 2))]) zS zT) ?_
      refine wt ?_
      refine sq_g (g_index_s (k := 1) rfl rfl rfl rfl zO) rfl ?_
      refine wt ?_
      refine sq_g (g_load_s rfl rfl rfl) rfl ?_
      refine wt ?_
      refine cq_loop (γ := Nat) (fun c => [(1, .av (.ptr 3 (matF 3 4 f))), (2, .own 10 0), (3, .av (.val (.slice none 0 0))), (4, .osl 30), (6, .osl 40), (7, .av (vi 2)), (8, .av (vi 2)), (12, .av (vi 1)), (13, .av (vR (B 1 2))), (14, .av (vi c))]) (fun c => [(40, .row 3 1 2 (fun j _ => vi j)), (10, z212), (30, .srow 102 1 3 [.osl 200, .osl 201, .osl 202]), (200, .row 39 1 4 (rowV (Go.Na.elm B 2 2) 0)), (201, .row 39 1 4 (fun j _ => vR (if j < c then B 1 j - B 1 2 * B 2 j else B 1 j))), (202, .row 39 1 4 (rowV B 2))]) (fun c => c ≤ 4) (fun c => 4 - c) 0 (Nat.zero_le _) (ent zS zT) ?_
      intro c hc
      refine wt ?_
      (first | refine sq_split rfl rfl ?_ ?_ | refine dq_split rfl rfl ?_ ?_) <;> intro hb <;> (try simp only [zA, zB, zG, zC, zD, zN] at hb) <;> (try (exfalso; omega))
      ·have hc4 : c < 4 := by omega
       have b1 := hLb 1 2 zE zE
       have b2 := hLb 2 c zE hc4
       have htm := reftimes_c (B 1 2) (B 2 c) (b1.mono zE) (b2.mono zE)
       have hle : CtrA Tryz.prog 36 [vR (if c < c then B 1 c - B 1 2 * B 2 c else B 1 c), vR (B 1 2 * B 2 c)] (vR (B 1 c - B 1 2 * B 2 c)) := by rw [if_neg (Nat.lt_irrefl c)]; exact refless_c _ _ ((hLb 1 c (by decide) hc4).mono (by decide)) ((b1.mul b2).mono (by decide))
       refine wt ?_
       refine dq_g (g_index_s (k := 1) rfl rfl rfl rfl zO) rfl ?_
       refine wt ?_
       refine dq_g (g_load_s rfl rfl rfl) rfl ?_
       refine wt ?_
       refine dq_g (g_index_s (k := 1) rfl rfl rfl rfl zO) rfl ?_
       refine wt ?_
       refine dq_g (g_load_s rfl rfl rfl) rfl ?_
       refine wt ?_
       refine dq_g (g_index_s (k := 2) rfl rfl rfl rfl zO) rfl ?_
       refine wt ?_
       refine dq_g (g_load_s rfl rfl rfl) rfl ?_
       refine wt ?_
       exact sq_round (c + 1) zO zO (ent zS ⟨⟨_, rfl, .refl _⟩, ⟨_, rfl, .refl _⟩, ⟨_, rfl, .refl _⟩, ⟨_, rfl, .refl _⟩, ⟨_, rfl, .row rfl (rs_step (fun j => B 1 j - B 1 2 * B 2 j) _ _ _)⟩, ⟨_, rfl, .refl _⟩, trivial⟩)
      ·have hc4 : c = 4 := by omega
       subst hc4
       refine wt ?_
       exact sq_round 2 zE zE (ent zS ⟨⟨_, rfl, .refl _⟩, ⟨_, rfl, .refl _⟩, ⟨_, rfl, .refl _⟩, ⟨_, rfl, .refl _⟩, ⟨_, rfl, .row rfl (fun j hj _ _ => congrArg vR (if_pos hj))⟩, ⟨_, rfl, .refl _⟩, trivial⟩)
     |2, _ =>
      refine cq_more (ent (T' := [(1, .av (.ptr 3 (matF 3 4 f))), (2, .own 10 0), (3, .av (.val (.slice none 0 0))), (4, .osl 30), (6, .osl 40), (7, .av (vi 2)), (8, .av (vi 2)), (12, .av (vi 2))]) (O' := [(40, .row 3 1 2 (fun j _ => vi j)), (10, z212), (30, .srow 102 1 3 [.osl 200, .osl 201, .osl 202]), (200, .row 39 1 4 (rowV (Go.Na.elm B 2 2) 0)), (201, .row 39 1 4 (rowV (Go.Na.elm B 2 2) 1)), (202, .row 39 1 4 (rowV B 2))]) zS zT) ?_
      refine wt ?_
      refine sq_g (g_index_s (k := 2) rfl rfl rfl rfl zO) rfl ?_
      refine wt ?_
      refine sq_g (g_load_s rfl rfl rfl) rfl ?_
      refine wt ?_
      refine cq_loop (γ := Nat) (fun c => [(1, .av (.ptr 3 (matF 3 4 f))), (2, .own 10 0), (3, .av (.val (.slice none 0 0))), (4, .osl 30), (6, .osl 40), (7, .av (vi 2)), (8, .av (vi 2)), (12, .av (vi 2)), (13, .av (vR (B 2 2))), (14, .av (vi c))]) (fun c => [(40, .row 3 1 2 (fun j _ => vi j)), (10, z212), (30, .srow 102 1 3 [.osl 200, .osl 201, .osl 202]), (200, .row 39 1 4 (rowV (Go.Na.elm B 2 2) 0)), (201, .row 39 1 4 (rowV (Go.Na.elm B 2 2) 1)), (202, .row 39 1 4 (rowV B 2))]) (fun c => c ≤ 4) (fun c => 4 - c) 0 (Nat.zero_le _) (ent zS zT) ?_
      intro c hc
      refine wt ?_
      (first | refine sq_split rfl rfl ?_ ?_ | refine dq_split rfl rfl ?_ ?_) <;> intro hb <;> (try simp only [zA, zB, zG, zC, zD, zN] at hb) <;> (try (exfalso; omega))
      ·refine wt ?_
       exact sq_round 3 zE zE (ent zS zT)
      ·refine wt ?_
       exact sq_round 3 zE zE (ent zS zT)
     |3, _ =>
      refine wt ?_
      refine sq_v (v_append (m := 1) (sz := 1) (bytes := 8) rfl rfl rfl (fun _ _ _ _ => rfl) zE zE zE) rfl ?_
      refine wt ?_
      exact sq_round 3 (by decide) (by decide) (ent zS ⟨⟨_, rfl, .row rfl (ld_step _)⟩, ⟨_, rfl, .refl _⟩, ⟨_, rfl, .refl _⟩, ⟨_, rfl, .row rfl (fun _ _ _ _ => by rw [hnx]; rfl)⟩, ⟨_, rfl, .row rfl (fun _ _ _ _ => by rw [hnx]; rfl)⟩, ⟨_, rfl, .row rfl (fun _ _ _ _ => by rw [hnx]; rfl)⟩, trivial⟩)
     |_ + 4, h => exact absurd h zO
   |3, _, _, h3p => exact absurd hp2 (by rw [hp0, h3p]; exact Nat.lt_irrefl 3)
   |_ + 4, _, h, _ => exact absurd h zO
   |0, h, _, _ => exact absurd h zO
   |1, h, _, _ => exact absurd h zO
  |3, _ =>
   have hst : (red 3 (mF f) 4).1 = (red 3 (mF f) 3).1 := by rw [Go.Na.red_stay (n := 3) (m := 4) (by decide) hM 1]
   refine wt ?_
   refine cq_loop (γ := Nat) (fun _ => [(1, .av (.ptr 3 (matF 3 4 f))), (2, .own 10 0), (3, .av (.val (.slice none 0 0))), (4, .osl 30), (6, .osl 40), (7, .av (vi 3)), (8, .av (vi 3)), (9, .av (vi 3))]) (fun _ => [(40, .row 3 1 3 (fun j _ => vi j)), (10, z212), (30, .srow 102 1 3 [.osl 200, .osl 201, .osl 202]), (200, .row 39 1 4 (rowV (red 3 (mF f) 3).1 0)), (201, .row 39 1 4 (rowV (red 3 (mF f) 3).1 1)), (202, .row 39 1 4 (rowV (red 3 (mF f) 3).1 2))]) (fun _ => True) (fun _ => 0) 0 trivial (ent zS zT) ?_
   intro _ _
   refine wt ?_
   exact sq_round 4 (by decide) (by decide) (ent zS ⟨⟨_, rfl, .refl _⟩, ⟨_, rfl, .refl _⟩, ⟨_, rfl, .refl _⟩, ⟨_, rfl, .row rfl (fun _ _ _ _ => by rw [hst])⟩, ⟨_, rfl, .row rfl (fun _ _ _ _ => by rw [hst])⟩, ⟨_, rfl, .row rfl (fun _ _ _ _ => by rw [hst])⟩, trivial⟩)
  |4, _ =>
   generalize (red 3 (mF f) 4).1 = S at *
   refine wt ?_
   refine sq_g (g_build (t := 212) (is := [0, 1]) (xs := [_, _]) (vs := [_, _]) (tb212k _ _) rfl rfl) rfl ?_
   refine wt ?_
   refine cq_loop (γ := Nat) (fun i => [(1, .av (.ptr 3 (matF 3 4 f))), (2, .own 10 0), (4, .osl 30), (6, .osl 40), (15, .own 11 0), (16, .av (vi i))]) (fun i => [(40, .row 3 1 3 (fun j _ => vi j)), (10, z212), (11, .cells [.av (vi 3), .av (vi 4), .osl 20]), (20, .row 39 1 (i * 4) (outV S)), (30, .srow 102 1 3 [.osl 200, .osl 201, .osl 202]), (200, .row 39 1 4 (rowV S 0)), (201, .row 39 1 4 (rowV S 1)), (202, .row 39 1 4 (rowV S 2))]) (fun i => i ≤ 3) (fun i => 3 - i) 0 (Nat.zero_le _) ((ent_rowc (r := 11) (off := 2) 20 39 1 (outV S) rfl rfl rfl).trans (ent zS zT)) ?_
   intro i hi
   match i, hi with
   |0, _ =>
    refine wt ?_
    refine dq_g (g_index_s (k := 0) rfl rfl rfl rfl zO) rfl ?_
    refine wt ?_
    refine dq_g (g_load_s rfl rfl rfl) rfl ?_
    refine wt ?_
    refine dq_tail rfl rfl ?_
    refine sq_v (v_append_o (bytes := 16) rfl rfl rfl rfl (fun _ _ _ _ => rfl) zE zE zE) rfl ?_
    refine wt ?_
    exact sq_round 1 zE zE (ent zS ⟨⟨_, rfl, .refl _⟩, ⟨_, rfl, .refl _⟩, ⟨_, rfl, .refl _⟩, ⟨_, rfl, .row rfl (out_step S 0)⟩, ⟨_, rfl, .refl _⟩, ⟨_, rfl, .refl _⟩, ⟨_, rfl, .refl _⟩, ⟨_, rfl, .refl _⟩, trivial⟩)
   |1, _ =>
    refine wt ?_
    refine dq_g (g_index_s (k := 1) rfl rfl rfl rfl zO) rfl ?_
    refine wt ?_
    refine dq_g (g_load_s rfl rfl rfl) rfl ?_
    refine wt ?_
    refine dq_tail rfl rfl ?_
    refine sq_v (v_append_o (bytes := 16) rfl rfl rfl rfl (fun _ _ _ _ => rfl) zE zE zE) rfl ?_
    refine wt ?_
    exact sq_round 2 zE zE (ent zS ⟨⟨_, rfl, .refl _⟩, ⟨_, rfl, .refl _⟩, ⟨_, rfl, .refl _⟩, ⟨_, rfl, .row rfl (out_step S 1)⟩, ⟨_, rfl, .refl _⟩, ⟨_, rfl, .refl _⟩, ⟨_, rfl, .refl _⟩, ⟨_, rfl, .refl _⟩, trivial⟩)
   |2, _ =>
    refine wt ?_
    refine dq_g (g_index_s (k := 2) rfl rfl rfl rfl zO) rfl ?_
    refine wt ?_
    refine dq_g (g_load_s rfl rfl rfl) rfl ?_
    refine wt ?_
    refine dq_tail rfl rfl ?_
    refine sq_v (v_append_o (bytes := 16) rfl rfl rfl rfl (fun _ _ _ _ => rfl) zE zE zE) rfl ?_
    refine wt ?_
    exact sq_round 3 zE zE (ent zS ⟨⟨_, rfl, .refl _⟩, ⟨_, rfl, .refl _⟩, ⟨_, rfl, .refl _⟩, ⟨_, rfl, .row rfl (out_step S 2)⟩, ⟨_, rfl, .refl _⟩, ⟨_, rfl, .refl _⟩, ⟨_, rfl, .refl _⟩, ⟨_, rfl, .refl _⟩, trivial⟩)
   |3, _ =>
    refine wt ?_
    refine lsq_ent ((ent_freeze 40 rfl).trans (ent_freeze_in 11 20 2 rfl rfl rfl rfl)) ?_
    refine sq_g (g_load_own_aggv (f := matF 3 4 (fun x => S (x / 4) (x % 4))) rfl rfl rfl) rfl ?_
    refine wt ?_
    refine sq_s (g_store_aggv rfl rfl (matF_one _ _ _) rfl rfl) ?_
    refine wt ?_
    exact sq_resN (rvs := [_, _]) (τs := [_, _]) rfl rfl ⟨.aggv (f := matF 3 4 (fun x => S (x / 4) (x % 4))) rfl rfl rfl, .tmp rfl, trivial⟩ rfl
   |_ + 4, h => exact absurd h zO
  |_ + 5, h => omega
 |_ + 4, h => omega
end Go.Proofs.YtgepmbjmaljgoaaGreatDoor.H
