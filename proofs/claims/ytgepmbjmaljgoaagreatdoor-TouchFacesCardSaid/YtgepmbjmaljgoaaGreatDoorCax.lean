/- A part of the proof. -/
import Derived.Test.YtgepmbjmaljgoaaGreatDoorCaw
set_option linter.unusedVariables false
set_option linter.unusedSimpArgs false
section
end
section
end
section
end
section
end
section
end
section
end
section
end
section
end
section
end
section
end
section
end
section
end
section
end
section
end
section
end
section
end
namespace Go.Proofs.YtgepmbjmaljgoaaGreatDoor.H.S
open Go Go.Vc Go.RowKit
open Go.Na (rtx LR chkR_rtx chkR rsg)
set_option maxHeartbeats 8000000
def eqS (P : Pl) (s : List Nat) : Bool := eqB (fun i => ((gi P.s i : Nat) : Int)) P.s.length (fun i => ((gi s i : Nat) : Int)) s.length
theorem eqS_self {P : Pl} {s : List Nat} (h : P.s = s) : eqS P s = true := by
 subst h
 unfold eqS eqB
 rw [decide_eq_true rfl, Bool.true_and, List.all_eq_true]
 intro i _
 exact decide_eq_true rfl
abbrev fptr (f : Fc) : AV := .ptr 5 (fcf f)
abbrev cfv (f : Fc) : AV := .clo 42 1 (fun i => [fptr f].getD i .any)
theorem clo42_c (k : Nat) (P : Pl) (f : Fc) (hs : P.s.length ≤ 1000) (hL : f.s.length ≤ 1000) : CtrA Tryz.prog 42 [pR (k : Int) P, fptr f] (vb (eqS P f.s)) := by
 have h := equal_c (fun i => ((gi P.s i : Nat) : Int)) (fun i => ((gi f.s i : Nat) : Int)) P.s.length f.s.length zO
 refine ctrA _ Tryz.func42 rfl rfl Tryz.ntmps42 rfl fun w Z => ?_
 refine zU ?_
 refine wt ?_
 exact zV
theorem ixp42_c (k : Nat) (Ps : List Pl) (f : Fc) (hn : Ps.length ≤ 1000) (hs : ∀ P ∈ Ps, P.s.length ≤ 1000) (hL : f.s.length ≤ 1000) :
  CtrA Tryz.prog 75 [.sl Ps.length 5 (pf5 k Ps), cfv f] (vi (ixB (fun i => eqS (gP Ps i) f.s) Ps.length)) := by
 refine ctrA _ Tryz.func75 rfl rfl Tryz.ntmps75 rfl fun w Z => ?_
 refine zU ?_
 refine wt ?_
 refine cq_loop (γ := Nat) (fun i => [(0, .av (.sl Ps.length 5 (pf5 k Ps))), (1, .av (cfv f)), (6, .av (.sl Ps.length 5 (pf5 k Ps))), (7, .av (vi Ps.length)), (8, .av (vi i))]) (fun _ => []) (fun i => i ≤ Ps.length ∧ ∀ j, j < i → eqS (gP Ps j) f.s = false) (fun i => Ps.length - i) 0 ⟨Nat.zero_le _, by omega⟩ (ent zS trivial) ?_
 rintro i ⟨hi, hall⟩
 refine wt ?_
 (refine cq_cond rfl ?_ ?_ <;> intro hb <;> (try simp only [zA, zB, zG, zC, zD, zN] at hb) <;> (try (exfalso; omega)))
 ·have hil : i < Ps.length := by omega
  have hc := clo42_c k (gP Ps i) f (hs _ (gP_mem hil)) hL
  refine wt ?_
  refine sq_g (g_load_aggv rfl rfl) rfl ?_
  refine wt ?_
  refine cq_cond rfl (fun hb => ?_) (fun hb => ?_)
  ·have e1 := ixB_hit (p := fun i => eqS (gP Ps i) f.s) hil hall hb
   refine wt ?_
   exact sq_res1 rfl (.tmp rfl) (by rw [e1])
  ·refine wt ?_
   exact sq_round (i + 1) ⟨by omega, flt_step (p := fun i => eqS (gP Ps i) f.s) hall hb⟩ zO (ent zS trivial)
 ·have hil : i = Ps.length := by omega
  subst hil
  have e1 := ixB_no (p := fun i => eqS (gP Ps i) f.s) hall
  refine wt ?_
  exact sq_res1 rfl (.tmp rfl) (by rw [e1])
theorem cfp42_c (k : Nat) (Ps : List Pl) (f : Fc) (hn : Ps.length ≤ 1000) (hs : ∀ P ∈ Ps, P.s.length ≤ 1000) (hL : f.s.length ≤ 1000) :
  CtrA Tryz.prog 32 [.sl Ps.length 5 (pf5 k Ps), cfv f] (vb (Ps.any fun P => eqS P f.s)) := by
 have h := ixp42_c k Ps f hn hs hL
 refine ctrA _ Tryz.func32 rfl rfl Tryz.ntmps32 rfl fun w Z => ?_
 refine zU ?_
 refine wt ?_
 exact sq_res1 rfl (.tmp rfl) (congrArg vb (ixB_any (fun P => eqS P f.s) Ps))
def dnC (F : List Fc) (k i : Nat) : Nat := ((F.take i).filter fun f => decide (cz f.n k < 0)).length
theorem dnC_le (F : List Fc) (k i : Nat) : dnC F k i ≤ i := by
 unfold dnC
 have h1 := List.length_filter_le (fun f => decide (cz f.n k < 0)) (F.take i)
 have h2 := List.length_take_le i F
 omega
theorem dnC_succ {F : List Fc} {k i : Nat} (h : i < F.length) : dnC F k (i + 1) = dnC F k i + if cz (gf F i).n k < 0 then 1 else 0 := by
 unfold dnC
 rw [List.take_succ_eq_append_getElem h, List.filter_append, List.length_append]
 have e : F[i] = gf F i := by unfold gf; simp [List.getD, h]
 rw [e]
 by_cases hc : cz (gf F i).n k < 0 <;> simp [hc]
theorem faces_law (l : List Tr) (a : Int) (ha : 0 ≤ a ∧ a ≤ 255) : CtrA Tryz.prog 10 [ts l, .val (.int .u8 a)] (vb true) := by
 have haw := awake_c
 obtain ⟨k, hk, hka⟩ : ∃ k : Nat, k < 3 ∧ a % 3 = k := ⟨(a % 3).toNat, by omega, by omega⟩
 have hr := right_c l hk
 cases hrg : rgtB l k with
 |false =>
  rw [hrg] at hr
  refine ctrA _ Tryz.func10 rfl rfl Tryz.ntmps10 rfl fun w Z => ?_
  refine zU ?_
  refine wt ?_
  rw [hka]
  refine wt ?_
  exact zV
 |true =>
  rw [hrg] at hr
  obtain ⟨hfw, hT, hst, hR, h6, hcx⟩ := rgtB_ok hk hrg
  by_cases hS : Sol l
  ·have hrk := rank_c l 3 hR h6 (fun _ => rfl) (fun h => absurd ((sol_iff l).1 hS) h)
   have hcd := candidates_c l k hfw
   rw [hcx] at hcd
   have hcl := cand_len k (l := l) zO
   have hne := cand_some hk hR hst
   have hF0 : 0 < (facetsL l).length := by
    obtain ⟨P, hP⟩ := List.exists_mem_of_ne_nil _ hne
    obtain ⟨f, hf, _⟩ := cand_facet hS hk hP
    exact List.length_pos_of_mem hf
   have hfc := facs_c l (.inl h6) (fun _ _ => hF0)
   have hd3 : ¬ (spn l).dim < 3 := by have := (dim3_iff l).2 hS; omega
   have e1 : facQ l = facetsL l := by unfold facQ; rw [if_pos hT, if_neg hd3]
   have e2 : errF l = 0 := by unfold errF; rw [if_pos hT, if_neg hd3]
   rw [e1, e2] at hfc
   have hFl := facets_len l h6
   have hFo := facets_ok h6
   have hsl : ∀ P ∈ candP l k, P.s.length ≤ 6 := fun P hP => by
    have h1 := onL_len' l k P.A P.B P.C l.length
    rw [(cand_on hk hP).1]; omega
   have hdl : dnC (facetsL l) k (facetsL l).length = (candP l k).length := by
    rw [← down_len hS hk]; unfold dnC downL; rw [List.take_length]
   refine ctrA _ Tryz.func10 rfl rfl Tryz.ntmps10 rfl fun w Z => ?_
   refine zU ?_
   refine wt ?_
   rw [hka]
   refine wt ?_
   refine cq_loop (γ := Nat) (fun i => [(0, .av (ts l)), (5, .av (vi (k : Int))), (6, .av (.sl (candP l k).length 5 (pf5 k (candP l k)))), (10, .av (vi (dnC (facetsL l) k i))), (43, .av (fs (facetsL l))), (44, .av (vi (facetsL l).length)), (45, .av (vi i))]) (fun _ => []) (fun i => i ≤ (facetsL l).length) (fun i => (facetsL l).length - i) 0 (Nat.zero_le _)
    (ent zS trivial) ?_
   intro i hi
   refine wt ?_
   (refine cq_cond rfl ?_ ?_ <;> intro hb <;> (try simp only [zA, zB, zG, zC, zD, zN] at hb) <;> (try (exfalso; omega)))
   ·have hil : i < (facetsL l).length := by omega
    have hm : gf (facetsL l) i ∈ facetsL l := gf_mem hil
    have hd := dnC_succ (F := facetsL l) (k := k) hil
    have hdle := dnC_le (facetsL l) k i
    obtain ⟨_, _, hs6, _⟩ := hFo _ hm
    have hcf := cfp42_c k (candP l k) (gf (facetsL l) i) zO (fun P hP => by have := hsl P hP; omega) zO
    have hyes : cz (gf (facetsL l) i).n k < 0 → ((candP l k).any fun P => eqS P (gf (facetsL l) i).s) = true := fun hn => by
     obtain ⟨P, hP, e, _⟩ := facet_cand hk hm hn
     exact List.any_eq_true.2 ⟨P, hP, eqS_self e⟩
    refine wt ?_
    refine sq_g (g_load_aggv rfl rfl) rfl ?_
    refine wt ?_
    refine sq_s (g_store_aggv rfl rfl (fcf_one _) rfl rfl) ?_
    refine wt ?_
    refine sq_g (g_load_own (s := .av (vi (cz (gf (facetsL l) i).n k))) rfl rfl (by rcases (by omega : k = 0 ∨ k = 1 ∨ k = 2) with rfl | rfl | rfl <;> rfl)) rfl ?_
    refine wt ?_
    (refine cq_cond rfl ?_ ?_ <;> intro hb <;> (try simp only [zA, zB, zG, zC, zD, zN] at hb) <;> (try (exfalso; omega)))
    ·rw [if_neg (by omega)] at hd
     refine wt ?_
     exact sq_round (i + 1) zO zO (ent zS trivial)
    ·rw [if_pos (by omega)] at hd
     rw [hyes (by omega)] at hcf
     refine wt ?_
     refine lsq_ent (ent_freezec 12 10 (fcf (gf (facetsL l) i)) rfl rfl rfl) ?_
     refine wt ?_
     exact sq_round (i + 1) zO zO (ent zS trivial)
   ·have hil : i = (facetsL l).length := by omega
    subst hil
    refine wt ?_
    have hbb : ((dnC (facetsL l) k (facetsL l).length : Int) == ((candP l k).length : Int)) = true := by rw [hdl]; simp
    rw [hbb]
    refine wt ?_
    exact zV
  ·have hns : ¬ Solid l := fun h => hS ((sol_iff l).2 h)
   have hrk := rank_c l (rA l l.length) hR h6 (fun h => absurd h hns) (fun _ => rfl)
   have hle := rA_le l l.length
   generalize rA l l.length = r at hrk hle
   refine ctrA _ Tryz.func10 rfl rfl Tryz.ntmps10 rfl fun w Z => ?_
   refine zU ?_
   refine wt ?_
   rw [hka]
   refine wt ?_
   rw [decide_eq_true (show r < 3 by omega)]
   refine wt ?_
   exact zV
end Go.Proofs.YtgepmbjmaljgoaaGreatDoor.H.S
