/- A part of the proof. -/
import Derived.DeepKeys
import Derived.Test.YtgepmbjmaljgoaaGreatDoorRows
import Derived.ProofKit
import Derived.Deep.Slices
import Derived.Deep.Fields
import Derived.Deep.Strs
import Derived.OpenShut
import Derived.ChangeSame
import Derived.Lib.SmallJoins
import Derived.Carry
import Derived.Below
import Derived.FnData
import Derived.Shelf.Vars
import Derived.LaidLaws
import Derived.LaidHandle
import Derived.Handed
import Derived.Test.YtgepmbjmaljgoaaGreatDoorCap
set_option linter.unusedVariables false
set_option linter.unusedSimpArgs false
namespace Go.Proofs.YtgepmbjmaljgoaaGreatDoor.H
open Go Go.Vc Go.RowKit
set_option maxHeartbeats 4000000
abbrev at3' (a b c : Nat) : AV := .val (.agg #[.int .i64 a, .int .i64 b, .int .i64 c])
def V3 (n : Nat) (x : Value) : Prop := ∃ a b c : Nat, a < n ∧ b < n ∧ c < n ∧ x = .agg #[.int .i64 a, .int .i64 b, .int .i64 c]
def atT (t : Nat × Nat × Nat) : AV := at3' t.1 t.2.1 t.2.2
abbrev yv (l : Nat) : AV := .val (.func (.yield l) #[] #[])
abbrev np (n : Nat) : AV := .ptr 1 (fun _ => vi n)
theorem triplesi_c (n : Nat) (hn : n ≤ 1000) : CtrM Tryz.prog 155 [np n] (V3 n) ((tI n).map atT) := by
 refine ctrM _ Tryz.func155 rfl rfl Tryz.ntmps155 rfl fun y J Y w Z S => ?_
 refine zU ?_
 refine wt ?_
 refine cq_loopM Y (γ := Nat) (fun i => [(0, .av (yv y)), (1, .av (np n)), (6, .av (vi n)), (7, .av (vi i))]) (fun i => (tI i).length) (fun i => i ≤ n) (fun i => n - i) 0 S (Nat.zero_le _) (ent zS trivial) ?_
 intro i hi w Z S
 refine wt ?_
 (refine cq_cond rfl ?_ ?_ <;> intro hb <;> (try simp only [zA, zB, zG, zC, zD, zN] at hb) <;> (try (exfalso; omega)))
 ·have hil : i < n := by omega
  refine wt ?_
  refine cq_loopM Y (γ := Nat) (fun j => [(0, .av (yv y)), (1, .av (np n)), (3, .av (vi i)), (6, .av (vi n)), (7, .av (vi i)), (10, .av (vi i)), (11, .av (vi j))]) (fun j => (tI i ++ tJ i j).length) (fun j => j ≤ i) (fun j => i - j) 0 (by rw [show tJ i 0 = [] from rfl, List.append_nil]; exact S) (Nat.zero_le _) (ent zS trivial) ?_
  intro j hj w Z S
  refine wt ?_
  (refine cq_cond rfl ?_ ?_ <;> intro hb <;> (try simp only [zA, zB, zG, zC, zD, zN] at hb) <;> (try (exfalso; omega)))
  ·have hjl : j < i := by omega
   refine wt ?_
   refine cq_loopM Y (γ := Nat) (fun k => [(0, .av (yv y)), (1, .av (np n)), (3, .av (vi i)), (4, .av (vi j)), (6, .av (vi n)), (7, .av (vi i)), (10, .av (vi i)), (11, .av (vi j)), (14, .av (vi j)), (15, .av (vi k))]) (fun k => (tI i ++ (tJ i j ++ tK i j k)).length) (fun k => k ≤ j) (fun k => j - k) 0 (by rw [show tK i j 0 = [] from rfl, List.append_nil]; exact S) (Nat.zero_le _) (ent zS trivial) ?_
   intro k hk w Z S
   refine wt ?_
   (refine cq_cond rfl ?_ ?_ <;> intro hb <;> (try simp only [zA, zB, zG, zC, zD, zN] at hb) <;> (try (exfalso; omega)))
   ·have hkl : k < j := by omega
    have hp := trip_pre hil hjl hkl
    have e0 : tK i j (k + 1) = tK i j k ++ [(k, j, i)] := rfl
    rw [e0, ← List.append_assoc, ← List.append_assoc] at hp
    have hm := pre_at hp
    rw [List.append_assoc] at hm
    refine wt ?_
    refine sq_yieldM Y S (τ := at3' k j i) (by rw [List.getElem?_map, hm]; rfl) (fun Z w v hv => ⟨k, j, i, by omega, by omega, hil, hv⟩) rfl rfl rfl (fun w' Z' S' => ?_)
    have e9 : (tI i ++ (tJ i j ++ tK i j k)).length + 1 = (tI i ++ (tJ i j ++ tK i j (k + 1))).length := by rw [e0]; simp; omega
    rw [e9] at S'
    refine wt ?_
    exact sq_roundM Y (g := k) (k + 1) S' zO zO (ent zS trivial)
   ·have hke : k = j := by omega
    subst hke
    have e1 : tJ i (k + 1) = tJ i k ++ tK i k k := rfl
    rw [← e1] at S
    refine wt ?_
    exact sq_roundM Y (g := k) (k + 1) S zO zO (ent zS trivial)
  ·have hje : j = i := by omega
   subst hje
   have e1 : tI (j + 1) = tI j ++ tJ j j := rfl
   rw [← e1] at S
   refine wt ?_
   exact sq_roundM Y (g := j) (j + 1) S zO zO (ent zS trivial)
 ·have hie : i = n := by omega
  subst hie
  have e1 : (tI i).length = ((tI i).map atT).length := by rw [List.length_map]
  rw [e1] at S
  refine wt ?_
  exact sq_retM' Y rfl S
abbrev tcl (n : Nat) : AV := .clo 155 1 (fun i => [np n].getD i .any)
theorem triples_c (n : Nat) : CtrA Tryz.prog 94 [vi n] (tcl n) := by
 refine ctrA _ Tryz.func94 rfl rfl Tryz.ntmps94 rfl fun w Z => ?_
 refine zU ?_
 refine wt ?_
 exact zV
end Go.Proofs.YtgepmbjmaljgoaaGreatDoor.H
namespace Go.Proofs.YtgepmbjmaljgoaaGreatDoor.H
open Go Go.Vc Go.RowKit Go.Na Go.Lib
set_option maxHeartbeats 4000000
theorem through1_c (l : List Tr) (hl : RT l) (a b c : Nat) (ha : a < l.length) (hb' : b < l.length) (hc : c < l.length) (hn : l.length ≤ 1000) : CtrA Tryz.prog 95 [ts l, vi 1, at3 a b c] (thrA 1 (thr l 1 a b c)) := by
 have h1 := normal_c (gt l a) (gt l b) (gt l c) (hl a) (hl b) (hl c)
 refine ctrA _ Tryz.func95 rfl rfl Tryz.ntmps95 rfl fun w Z => ?_
 refine zU ?_
 refine wt ?_
 (refine cq_cond rfl ?_ ?_ <;> intro hb <;> (try simp only [zA, zB, zG, zC, zD, zN] at hb) <;> (try (exfalso; omega)))
 ·refine wt ?_
  refine sq_g (g_build (t := 42) (is := []) (xs := []) (vs := []) tb42e rfl rfl) rfl ?_
  refine wt ?_
  rw [thr_zero (k := 1) hb]
  exact sq_resN (rvs := [_, _, _]) (τs := [_, _, _]) rfl rfl ⟨.agg (us := [_, _, _, _, _]) rfl rfl rfl rfl, .tmp rfl, .tmp rfl, trivial⟩ rfl
 have hne : cz (nvP (gt l a) (gt l b) (gt l c)) 1 ≠ 0 := hb
 have hpos : 0 < cz (nP l 1 a b c) 1 := upP_pos hne
 have hT0 := @thr_none l 1 a b c zE hne
 have hT1 := @thr_some l 1 a b c zE hne
 have hnb := BT.np hl 1 a b c
 have hmb := bn_dot hnb (hl a)
 have hnP : nP l 1 a b c = upP 1 (nvP (gt l a) (gt l b) (gt l c)) := rfl
 have hm : mP l 1 a b c = tdot (nP l 1 a b c) (gt l a) := rfl
 have hA : aP l 1 a b c = Rat.divInt (mP l 1 a b c) (nP l 1 a b c).y := rfl
 have hB : bP l 1 a b c = Rat.divInt (-(nP l 1 a b c).x) (nP l 1 a b c).y := rfl
 have hC : cP l 1 a b c = Rat.divInt (-(nP l 1 a b c).z) (nP l 1 a b c).y := rfl
 have hnv := (BT.nv (hl a) (hl b) (hl c)).sq
 obtain ⟨⟨⟨_, _⟩, ⟨_, _⟩⟩, ⟨_, _⟩⟩ := hnv
 rw [hA, hB, hC] at hT1
 rw [← hm] at hmb
 generalize mP l 1 a b c = m at *
 generalize nP l 1 a b c = n at *
 refine wt ?_
 refine cq_mid [(0, .av (ts l)), (1, .av (vi 1)), (5, .av (.ptr 3 (fun i => .val ([Value.int .i64 a, .int .i64 b, .int .i64 c].getD i Go.undef)))), (6, .own 10 0), (9, .av (.ptr 3 (tpf n)))] [(10, .cells [.av (vi 0), .av (vS []), .av (vS []), .av (vS []), .av (.val (.slice none 0 0))])] ?_ ?_
 ·(refine cq_cond rfl ?_ ?_ <;> intro hb <;> (try simp only [zA, zB, zG, zC, zD, zN] at hb) <;> (try (exfalso; omega)))
  ·have e : n = ⟨-(nvP (gt l a) (gt l b) (gt l c)).x, -(nvP (gt l a) (gt l b) (gt l c)).y, -(nvP (gt l a) (gt l b) (gt l c)).z⟩ := hnP.trans (if_pos hb)
   refine wt ?_
   rw [e]
   exact sq_meet ((ent_freezec 9 11 (tpf _) rfl rfl rfl).trans (ent zS zT))
  ·have e : n = nvP (gt l a) (gt l b) (gt l c) := hnP.trans (if_neg (by simpa [cz] using hb))
   refine wt ?_
   rw [e]
   exact sq_meet ((ent_freezec 9 11 (tpf _) rfl rfl rfl).trans (ent zS zT))
 have hd0 := dotc_c n (gt l a) (hnb.le zE) (hl a)
 rw [← hm] at hd0
 refine wt ?_
 refine sq_g (g_build (t := 42) (is := [0]) (xs := [_]) (vs := [_]) (tb42k 1) rfl rfl) rfl ?_
 refine wt ?_
 refine cq_loop (γ := Nat) (fun i => [(0, .av (ts l)), (1, .av (vi 1)), (6, .own 10 0), (9, .av (.ptr 3 (tpf n))), (11, .av (.clo 157 1 (fun i => [AV.ptr 3 (tpf n)].getD i .any))), (12, .av (vi m)), (13, .own 11 0), (74, .av (ts l)), (75, .av (vi l.length)), (76, .av (vi i))])
  (fun i => [(10, .cells [.av (vi 0), .av (vS []), .av (vS []), .av (vS []), .av (.val (.slice none 0 0))]), (11, .cells [.av (vi 1), .av (vS []), .av (vS []), .av (vS []), .osl 20]), (20, .row 3 1 (onD l n m i).length (xf (onD l n m i)))]) (fun i => i ≤ l.length ∧ ∀ j, j < i → m ≤ tdot n (gt l j)) (fun i => l.length - i) 0 ⟨Nat.zero_le _, by omega⟩
  ((ent_rowc (r := 11) (off := 4) 20 3 1 (xf []) rfl rfl rfl).trans (ent zS zT)) ?_
 rintro i ⟨hi, hall⟩
 have hol := onD_len l n m i
 refine wt ?_
 (refine cq_cond rfl ?_ ?_ <;> intro hb <;> (try simp only [zA, zB, zG, zC, zD, zN] at hb) <;> (try (exfalso; omega)))
 ·have hil : i < l.length := by omega
  have hd := dotc_c n (gt l i) (hnb.le zE) (hl i)
  have hsu := onD_succ l n m i
  refine wt ?_
  (refine cq_cond rfl ?_ ?_ <;> intro hb <;> (try simp only [zA, zB, zG, zC, zD, zN] at hb) <;> (try (exfalso; omega)))
  ·rw [hT0 hil hb]
   refine wt ?_
   refine sq_g (g_build (t := 42) (is := []) (xs := []) (vs := []) tb42e rfl rfl) rfl ?_
   refine wt ?_
   exact sq_resN (rvs := [_, _, _]) (τs := [_, _, _]) rfl rfl ⟨.agg (us := [_, _, _, _, _]) rfl rfl rfl rfl, .tmp rfl, .tmp rfl, trivial⟩ rfl
  ·have hge : m ≤ tdot n (gt l i) := by omega
   refine wt ?_
   (refine cq_cond rfl ?_ ?_ <;> intro hb <;> (try simp only [zA, zB, zG, zC, zD, zN] at hb) <;> (try (exfalso; omega)))
   ·rw [if_pos hb] at hsu
    refine wt ?_
    exact sq_round (i + 1) ⟨by omega, plt_step hall hge⟩ (by omega) (ent zS ⟨⟨_, rfl, .refl _⟩, ⟨_, rfl, .refl _⟩, ⟨_, rfl, .row (by rw [hsu]) (fun _ _ _ _ => by rw [hsu])⟩, trivial⟩)
   ·rw [if_neg hb] at hsu
    refine wt ?_
    exact sq_round (i + 1) ⟨by omega, plt_step hall hge⟩ (by omega) (ent zS ⟨⟨_, rfl, .refl _⟩, ⟨_, rfl, .refl _⟩, ⟨_, rfl, .row (by rw [hsu]) (fun _ _ _ _ => by rw [hsu])⟩, trivial⟩)
 have hil : i = l.length := by omega
 subst hil
 rw [hT1 hall]
 obtain ⟨⟨⟨_, _⟩, ⟨_, _⟩⟩, ⟨_, _⟩⟩ := hnb.sq
 have hx0 : 0 < n.y := hpos
 refine wt ?_
 refine dq_g (g_build_p (tb202p _) rfl rfl) rfl ?_
 refine wt ?_
 refine dq_g (g_build_p (tb202p _) rfl rfl) rfl ?_
 refine wt ?_
 refine dq_g (g_build_p (tb202p _) rfl rfl) rfl ?_
 refine wt ?_
 refine dq_v (ga_bslice_p 30 rfl (fun p1 p2 p3 w => tq203p _ _ _ p1 p2 p3 w) rfl rfl rfl) rfl rfl ?_
 refine wt ?_
 refine dq_g (g_len_s rfl rfl) rfl ?_
 refine wt ?_
 have qA := rat_ofb m n.y zO zO zO
 have qB := rat_ofb (-n.x) n.y zO zO zO
 have qC := rat_ofb (-n.z) n.y zO zO zO
 generalize Rat.divInt m n.y = A at *
 generalize Rat.divInt (-n.x) n.y = B at *
 generalize Rat.divInt (-n.z) n.y = C at *
 refine cq_loop (γ := Nat) (fun i => [(1, .av (vi 1)), (6, .own 10 0), (9, .av (.ptr 3 (tpf n))), (13, .own 11 0), (123, .osl 30), (124, .av (vi 3)), (125, .av (vi i))])
  (fun i => [(30, .srow 202 2 3 [.own 11 1, .av (vi m), .own 11 2, .av (vi (-n.x)), .own 11 3, .av (vi (-n.z))]), (10, .cells [.av (vi 0), .av (vS []), .av (vS []), .av (vS []), .av (.val (.slice none 0 0))]), (11, .cells (celP 1 A B C i)), (20, .row 3 1 (onD l n m l.length).length (xf (onD l n m l.length)))])
  (fun i => i ≤ 3) (fun i => 3 - i) 0 (Nat.zero_le _) (ent zS zT) ?_
 intro i hi
 match i, hi with
 |0, _ =>
  refine wt ?_
  refine sq_g (g_index_s (k := 0) rfl rfl rfl rfl zO) rfl ?_
  refine wt ?_
  refine sq_g (g_load_sp rfl rfl rfl rfl) rfl ?_
  refine wt ?_
  refine sq_s (g_store_sp rfl rfl rfl rfl rfl) ?_
  refine wt ?_
  exact sq_round 1 zO zO (ent zS zT)
 |1, _ =>
  refine wt ?_
  refine sq_g (g_index_s (k := 1) rfl rfl rfl rfl zO) rfl ?_
  refine wt ?_
  refine sq_g (g_load_sp rfl rfl rfl rfl) rfl ?_
  refine wt ?_
  refine sq_s (g_store_sp rfl rfl rfl rfl rfl) ?_
  refine wt ?_
  exact sq_round 2 zO zO (ent zS zT)
 |2, _ =>
  refine wt ?_
  refine sq_g (g_index_s (k := 2) rfl rfl rfl rfl zO) rfl ?_
  refine wt ?_
  refine sq_g (g_load_sp rfl rfl rfl rfl) rfl ?_
  refine wt ?_
  refine sq_s (g_store_sp rfl rfl rfl rfl rfl) ?_
  refine wt ?_
  exact sq_round 3 zO zO (ent zS zT)
 |3, _ =>
  refine wt ?_
  refine lsq_ent (ent_freeze_in 11 20 4 rfl rfl rfl rfl) ?_
  refine sq_g (g_load_own_aggv (f := pAf 1 (rtx A) (rtx B) (rtx C) (idx (onD l n m l.length))) rfl rfl rfl) rfl ?_
  refine wt ?_
  refine sq_s (g_store_aggv rfl rfl (pAf_one _ _ _ _ _) rfl rfl) ?_
  refine wt ?_
  exact sq_resN (rvs := [_, _, _]) (τs := [_, _, _]) rfl rfl ⟨.aggv (f := pAf 1 (rtx A) (rtx B) (rtx C) (idx (onD l n m l.length))) rfl rfl rfl, .tmp rfl, .tmp rfl, trivial⟩ rfl
 |_ + 4, h => omega
theorem through2_c (l : List Tr) (hl : RT l) (a b c : Nat) (ha : a < l.length) (hb' : b < l.length) (hc : c < l.length) (hn : l.length ≤ 1000) : CtrA Tryz.prog 95 [ts l, vi 2, at3 a b c] (thrA 2 (thr l 2 a b c)) := by
 have h1 := normal_c (gt l a) (gt l b) (gt l c) (hl a) (hl b) (hl c)
 refine ctrA _ Tryz.func95 rfl rfl Tryz.ntmps95 rfl fun w Z => ?_
 refine zU ?_
 refine wt ?_
 (refine cq_cond rfl ?_ ?_ <;> intro hb <;> (try simp only [zA, zB, zG, zC, zD, zN] at hb) <;> (try (exfalso; omega)))
 ·refine wt ?_
  refine sq_g (g_build (t := 42) (is := []) (xs := []) (vs := []) tb42e rfl rfl) rfl ?_
  refine wt ?_
  rw [thr_zero (k := 2) hb]
  exact sq_resN (rvs := [_, _, _]) (τs := [_, _, _]) rfl rfl ⟨.agg (us := [_, _, _, _, _]) rfl rfl rfl rfl, .tmp rfl, .tmp rfl, trivial⟩ rfl
 have hne : cz (nvP (gt l a) (gt l b) (gt l c)) 2 ≠ 0 := hb
 have hpos : 0 < cz (nP l 2 a b c) 2 := upP_pos hne
 have hT0 := @thr_none l 2 a b c zE hne
 have hT1 := @thr_some l 2 a b c zE hne
 have hnb := BT.np hl 2 a b c
 have hmb := bn_dot hnb (hl a)
 have hnP : nP l 2 a b c = upP 2 (nvP (gt l a) (gt l b) (gt l c)) := rfl
 have hm : mP l 2 a b c = tdot (nP l 2 a b c) (gt l a) := rfl
 have hA : aP l 2 a b c = Rat.divInt (mP l 2 a b c) (nP l 2 a b c).z := rfl
 have hB : bP l 2 a b c = Rat.divInt (-(nP l 2 a b c).x) (nP l 2 a b c).z := rfl
 have hC : cP l 2 a b c = Rat.divInt (-(nP l 2 a b c).y) (nP l 2 a b c).z := rfl
 have hnv := (BT.nv (hl a) (hl b) (hl c)).sq
 obtain ⟨⟨⟨_, _⟩, ⟨_, _⟩⟩, ⟨_, _⟩⟩ := hnv
 rw [hA, hB, hC] at hT1
 rw [← hm] at hmb
 generalize mP l 2 a b c = m at *
 generalize nP l 2 a b c = n at *
 refine wt ?_
 refine cq_mid [(0, .av (ts l)), (1, .av (vi 2)), (5, .av (.ptr 3 (fun i => .val ([Value.int .i64 a, .int .i64 b, .int .i64 c].getD i Go.undef)))), (6, .own 10 0), (9, .av (.ptr 3 (tpf n)))] [(10, .cells [.av (vi 0), .av (vS []), .av (vS []), .av (vS []), .av (.val (.slice none 0 0))])] ?_ ?_
 ·(refine cq_cond rfl ?_ ?_ <;> intro hb <;> (try simp only [zA, zB, zG, zC, zD, zN] at hb) <;> (try (exfalso; omega)))
  ·have e : n = ⟨-(nvP (gt l a) (gt l b) (gt l c)).x, -(nvP (gt l a) (gt l b) (gt l c)).y, -(nvP (gt l a) (gt l b) (gt l c)).z⟩ := hnP.trans (if_pos hb)
   refine wt ?_
   rw [e]
   exact sq_meet ((ent_freezec 9 11 (tpf _) rfl rfl rfl).trans (ent zS zT))
  ·have e : n = nvP (gt l a) (gt l b) (gt l c) := hnP.trans (if_neg (by simpa [cz] using hb))
   refine wt ?_
   rw [e]
   exact sq_meet ((ent_freezec 9 11 (tpf _) rfl rfl rfl).trans (ent zS zT))
 have hd0 := dotc_c n (gt l a) (hnb.le zE) (hl a)
 rw [← hm] at hd0
 refine wt ?_
 refine sq_g (g_build (t := 42) (is := [0]) (xs := [_]) (vs := [_]) (tb42k 2) rfl rfl) rfl ?_
 refine wt ?_
 refine cq_loop (γ := Nat) (fun i => [(0, .av (ts l)), (1, .av (vi 2)), (6, .own 10 0), (9, .av (.ptr 3 (tpf n))), (11, .av (.clo 157 1 (fun i => [AV.ptr 3 (tpf n)].getD i .any))), (12, .av (vi m)), (13, .own 11 0), (74, .av (ts l)), (75, .av (vi l.length)), (76, .av (vi i))])
  (fun i => [(10, .cells [.av (vi 0), .av (vS []), .av (vS []), .av (vS []), .av (.val (.slice none 0 0))]), (11, .cells [.av (vi 2), .av (vS []), .av (vS []), .av (vS []), .osl 20]), (20, .row 3 1 (onD l n m i).length (xf (onD l n m i)))]) (fun i => i ≤ l.length ∧ ∀ j, j < i → m ≤ tdot n (gt l j)) (fun i => l.length - i) 0 ⟨Nat.zero_le _, by omega⟩
  ((ent_rowc (r := 11) (off := 4) 20 3 1 (xf []) rfl rfl rfl).trans (ent zS zT)) ?_
 rintro i ⟨hi, hall⟩
 have hol := onD_len l n m i
 refine wt ?_
 (refine cq_cond rfl ?_ ?_ <;> intro hb <;> (try simp only [zA, zB, zG, zC, zD, zN] at hb) <;> (try (exfalso; omega)))
 ·have hil : i < l.length := by omega
  have hd := dotc_c n (gt l i) (hnb.le zE) (hl i)
  have hsu := onD_succ l n m i
  refine wt ?_
  (refine cq_cond rfl ?_ ?_ <;> intro hb <;> (try simp only [zA, zB, zG, zC, zD, zN] at hb) <;> (try (exfalso; omega)))
  ·rw [hT0 hil hb]
   refine wt ?_
   refine sq_g (g_build (t := 42) (is := []) (xs := []) (vs := []) tb42e rfl rfl) rfl ?_
   refine wt ?_
   exact sq_resN (rvs := [_, _, _]) (τs := [_, _, _]) rfl rfl ⟨.agg (us := [_, _, _, _, _]) rfl rfl rfl rfl, .tmp rfl, .tmp rfl, trivial⟩ rfl
  ·have hge : m ≤ tdot n (gt l i) := by omega
   refine wt ?_
   (refine cq_cond rfl ?_ ?_ <;> intro hb <;> (try simp only [zA, zB, zG, zC, zD, zN] at hb) <;> (try (exfalso; omega)))
   ·rw [if_pos hb] at hsu
    refine wt ?_
    exact sq_round (i + 1) ⟨by omega, plt_step hall hge⟩ (by omega) (ent zS ⟨⟨_, rfl, .refl _⟩, ⟨_, rfl, .refl _⟩, ⟨_, rfl, .row (by rw [hsu]) (fun _ _ _ _ => by rw [hsu])⟩, trivial⟩)
   ·rw [if_neg hb] at hsu
    refine wt ?_
    exact sq_round (i + 1) ⟨by omega, plt_step hall hge⟩ (by omega) (ent zS ⟨⟨_, rfl, .refl _⟩, ⟨_, rfl, .refl _⟩, ⟨_, rfl, .row (by rw [hsu]) (fun _ _ _ _ => by rw [hsu])⟩, trivial⟩)
 have hil : i = l.length := by omega
 subst hil
 rw [hT1 hall]
 obtain ⟨⟨⟨_, _⟩, ⟨_, _⟩⟩, ⟨_, _⟩⟩ := hnb.sq
 have hx0 : 0 < n.z := hpos
 refine wt ?_
 refine dq_g (g_build_p (tb202p _) rfl rfl) rfl ?_
 refine wt ?_
 refine dq_g (g_build_p (tb202p _) rfl rfl) rfl ?_
 refine wt ?_
 refine dq_g (g_build_p (tb202p _) rfl rfl) rfl ?_
 refine wt ?_
 refine dq_v (ga_bslice_p 30 rfl (fun p1 p2 p3 w => tq203p _ _ _ p1 p2 p3 w) rfl rfl rfl) rfl rfl ?_
 refine wt ?_
 refine dq_g (g_len_s rfl rfl) rfl ?_
 refine wt ?_
 have qA := rat_ofb m n.z zO zO zO
 have qB := rat_ofb (-n.x) n.z zO zO zO
 have qC := rat_ofb (-n.y) n.z zO zO zO
 generalize Rat.divInt m n.z = A at *
 generalize Rat.divInt (-n.x) n.z = B at *
 generalize Rat.divInt (-n.y) n.z = C at *
 refine cq_loop (γ := Nat) (fun i => [(1, .av (vi 2)), (6, .own 10 0), (9, .av (.ptr 3 (tpf n))), (13, .own 11 0), (123, .osl 30), (124, .av (vi 3)), (125, .av (vi i))])
  (fun i => [(30, .srow 202 2 3 [.own 11 1, .av (vi m), .own 11 2, .av (vi (-n.x)), .own 11 3, .av (vi (-n.y))]), (10, .cells [.av (vi 0), .av (vS []), .av (vS []), .av (vS []), .av (.val (.slice none 0 0))]), (11, .cells (celP 2 A B C i)), (20, .row 3 1 (onD l n m l.length).length (xf (onD l n m l.length)))])
  (fun i => i ≤ 3) (fun i => 3 - i) 0 (Nat.zero_le _) (ent zS zT) ?_
 intro i hi
 match i, hi with
 |0, _ =>
  refine wt ?_
  refine sq_g (g_index_s (k := 0) rfl rfl rfl rfl zO) rfl ?_
  refine wt ?_
  refine sq_g (g_load_sp rfl rfl rfl rfl) rfl ?_
  refine wt ?_
  refine sq_s (g_store_sp rfl rfl rfl rfl rfl) ?_
  refine wt ?_
  exact sq_round 1 zO zO (ent zS zT)
 |1, _ =>
  refine wt ?_
  refine sq_g (g_index_s (k := 1) rfl rfl rfl rfl zO) rfl ?_
  refine wt ?_
  refine sq_g (g_load_sp rfl rfl rfl rfl) rfl ?_
  refine wt ?_
  refine sq_s (g_store_sp rfl rfl rfl rfl rfl) ?_
  refine wt ?_
  exact sq_round 2 zO zO (ent zS zT)
 |2, _ =>
  refine wt ?_
  refine sq_g (g_index_s (k := 2) rfl rfl rfl rfl zO) rfl ?_
  refine wt ?_
  refine sq_g (g_load_sp rfl rfl rfl rfl) rfl ?_
  refine wt ?_
  refine sq_s (g_store_sp rfl rfl rfl rfl rfl) ?_
  refine wt ?_
  exact sq_round 3 zO zO (ent zS zT)
 |3, _ =>
  refine wt ?_
  refine lsq_ent (ent_freeze_in 11 20 4 rfl rfl rfl rfl) ?_
  refine sq_g (g_load_own_aggv (f := pAf 2 (rtx A) (rtx B) (rtx C) (idx (onD l n m l.length))) rfl rfl rfl) rfl ?_
  refine wt ?_
  refine sq_s (g_store_aggv rfl rfl (pAf_one _ _ _ _ _) rfl rfl) ?_
  refine wt ?_
  exact sq_resN (rvs := [_, _, _]) (τs := [_, _, _]) rfl rfl ⟨.aggv (f := pAf 2 (rtx A) (rtx B) (rtx C) (idx (onD l n m l.length))) rfl rfl rfl, .tmp rfl, .tmp rfl, trivial⟩ rfl
 |_ + 4, h => omega
theorem through_c (l : List Tr) (hl : RT l) {k : Nat} (hk : k < 3) (a b c : Nat) (ha : a < l.length) (hb : b < l.length) (hc : c < l.length) (hn : l.length ≤ 1000) : CtrA Tryz.prog 95 [ts l, vi (k : Int), at3 a b c] (thrA k (thr l k a b c)) := by
 rcases (by omega : k = 0 ∨ k = 1 ∨ k = 2) with rfl | rfl | rfl
 ·exact through0_c l hl a b c ha hb hc hn
 ·exact through1_c l hl a b c ha hb hc hn
 ·exact through2_c l hl a b c ha hb hc hn
end Go.Proofs.YtgepmbjmaljgoaaGreatDoor.H
namespace Go.Proofs.YtgepmbjmaljgoaaGreatDoor.H
open Go Go.Vc Go.Na
theorem leP_ltP (a b : Pl) : leP a b = true ↔ ltP a b ∨ eqP a b := by
 unfold leP
 rw [Bool.not_eq_true', decide_eq_false_iff_not]
 unfold ltP eqP lt3
 grind
theorem eqP_refl (a : Pl) : eqP a a := ⟨rfl, rfl, rfl⟩
theorem cpt_ok {L : List Pl} (hs : L.Pairwise (fun a b => leP a b = true)) (hu : ∀ p ∈ L, ∀ q ∈ L, eqP p q → p = q) :
  ∀ m, m ≤ L.length → Asc (cptToF L m) ∧ (∀ r, r ∈ cptToF L m ↔ ∃ i, i < m ∧ gP L i = r)
 |0, _ => ⟨by simp [cptToF, Asc], fun r => by simp [cptToF]⟩
 |m + 1, hm => by
  obtain ⟨h1, h2⟩ := cpt_ok hs hu m zO
  rw [cptToF_succ]
  have hle : ∀ i, i < m → leP (gP L i) (gP L m) = true := fun i hi => by
   have := List.pairwise_iff_getElem.1 hs i m zO zO hi
   rwa [gP_eq zO, gP_eq zO]
  by_cases hm0 : m = 0
  ·subst hm0
   rw [if_pos (by simp [cptPF])]
   refine ⟨by simp [cptToF, Asc], fun r => ?_⟩
   rw [List.mem_append]
   constructor
   ·rintro (h | h)
    ·simp [cptToF] at h
    ·exact ⟨0, by omega, (List.mem_singleton.1 h).symm⟩
   ·rintro ⟨i, hi, rfl⟩
    obtain rfl : i = 0 := by omega
    exact .inr (by simp)
  ·split
   ·rename_i hc
    have hne : ¬ eqP (gP L m) (gP L (m - 1)) := by simpa [cptPF, hm0] using hc
    refine ⟨List.pairwise_append.2 ⟨h1, by simp, fun a ha b hb => ?_⟩, fun r => ?_⟩
    ·obtain rfl := List.mem_singleton.1 hb
     obtain ⟨i, hi, rfl⟩ := (h2 a).1 ha
     rcases (leP_ltP _ _).1 (hle i hi) with h | h
     ·exact h
     ·exfalso
      apply hne
      have a1 : leP (gP L i) (gP L (m - 1)) = true := by
       by_cases e : i = m - 1
       ·subst e; exact (leP_ltP _ _).2 (.inr (eqP_refl _))
       ·have := List.pairwise_iff_getElem.1 hs i (m - 1) zO zO zO
        rwa [gP_eq zO, gP_eq zO]
      have a2 := hle (m - 1) zO
      rw [leP_ltP] at a1 a2
      generalize gP L i = x at *
      generalize gP L (m - 1) = y at *
      generalize gP L m = z at *
      unfold ltP eqP at *
      grind
    ·rw [List.mem_append, h2]
     constructor
     ·rintro (⟨i, hi, rfl⟩ | h)
      ·exact ⟨i, by omega, rfl⟩
      ·exact ⟨m, by omega, (List.mem_singleton.1 h).symm⟩
     ·rintro ⟨i, hi, rfl⟩
      by_cases e : i = m
      ·subst e; exact .inr (by simp)
      ·exact .inl ⟨i, by omega, rfl⟩
   ·rename_i hc
    have hne : eqP (gP L m) (gP L (m - 1)) := by simpa [cptPF, hm0] using hc
    have he : gP L m = gP L (m - 1) := hu _ (gP_mem zO) _ (gP_mem zO) hne
    refine ⟨h1, fun r => ?_⟩
    rw [h2]
    constructor
    ·rintro ⟨i, hi, rfl⟩; exact ⟨i, by omega, rfl⟩
    ·rintro ⟨i, hi, rfl⟩
     by_cases e : i = m
     ·subst e; exact ⟨i - 1, by omega, he.symm⟩
     ·exact ⟨i, by omega, rfl⟩
theorem srtP_mem {L : List Pl} {p : Pl} : p ∈ srtP L ↔ p ∈ L := (List.mergeSort_perm L leP).mem_iff
theorem cpt_cand (l : List Tr) (k : Nat) : cptPl (srtP (thrs l k)) = candP l k := by
 obtain ⟨h1, h2⟩ := cpt_ok (L := srtP (thrs l k)) (List.pairwise_mergeSort leP_tr leP_to _) (fun p hp q hq => thrs_uniq (srtP_mem.1 hp) (srtP_mem.1 hq)) _ (Nat.le_refl _)
 obtain ⟨h3, h4⟩ := cand_ok l k
 refine asc_ext h1 h3 (fun r => ?_)
 rw [h4, ← srtP_mem (L := thrs l k)]
 rw [show r ∈ cptPl (srtP (thrs l k)) ↔ _ from h2 r]
 constructor
 ·rintro ⟨i, hi, rfl⟩; exact gP_mem hi
 ·intro hr
  obtain ⟨i, hi, rfl⟩ := List.getElem_of_mem hr
  exact ⟨i, hi, gP_eq hi⟩
theorem srtP_len (L : List Pl) : (srtP L).length = L.length := List.length_mergeSort L
theorem thrs_len (l : List Tr) (k : Nat) : (thrs l k).length ≤ l.length * (l.length * l.length) := by
 unfold thrs
 have := List.length_filterMap_le (thrT l k) (trip l.length)
 have h2 : (trip l.length).length ≤ l.length * (l.length * l.length) := by rw [tI_eq]; exact tI_len _
 exact Nat.le_trans this h2
theorem LR_divInt {n d : Int} (hn : -9000000000000000000 ≤ n ∧ n ≤ 9000000000000000000) (hd : -9000000000000000000 ≤ d ∧ d ≤ 9000000000000000000) (h0 : d ≠ 0) : LR 400 (Rat.divInt n d) := by
 have l : ∀ x : Int, -9000000000000000000 ≤ x ∧ x ≤ 9000000000000000000 → LI 400 x := fun x hx => LI.mono (k := 19) (show x.natAbs < 10 ^ 19 by omega) zE
 exact divInt_LR h0 (l _ hn) (l _ hd)
theorem BT.cz {A : Int} {n : Tr} (h : BT A n) (k : Nat) : -A ≤ cz n k ∧ cz n k ≤ A := by
 match k with
 |0 => exact ⟨h.x.1, h.x.2⟩
 |1 => exact ⟨h.y.1, h.y.2⟩
 |k + 2 => exact ⟨h.z.1, h.z.2⟩
theorem bt_dot {A B : Int} {p q : Tr} (h : BT A p) (h' : BT B q) : -(3 * (A * B)) ≤ tdot p q ∧ tdot p q ≤ 3 * (A * B) := by
 have h1 := bn_mul h.x h'.x
 have h2 := bn_mul h.y h'.y
 have h3 := bn_mul h.z h'.z
 unfold tdot
 omega
theorem thrs_LR {l : List Tr} (hl : RT l) {k : Nat} (hk : k < 3) {P : Pl} (h : P ∈ thrs l k) : PLR P := by
 obtain ⟨⟨a, b, c⟩, _, h⟩ := List.mem_filterMap.1 h
 have h' : thr l k a b c = some P := h
 unfold thr at h'
 split at h'
 ·cases h'
 ·rename_i hz
  unfold mkP at h'
  split at h'
  ·cases h'
  ·injection h' with h'
   subst h'
   have hn := BT.np hl k a b c
   have h1 := hn.cz k
   have h2 := hn.cz (ou k)
   have h3 := hn.cz (ov k)
   have h4 : cz (nP l k a b c) k ≠ 0 := by have := upP_pos (k := k) (n := nvP (gt l a) (gt l b) (gt l c)) hz; unfold nP; omega
   refine ⟨LR_divInt ?_ zO h4, LR_divInt zO zO h4, LR_divInt zO zO h4⟩
   unfold mP
   have hm := bt_dot hn (hl a)
   omega
end Go.Proofs.YtgepmbjmaljgoaaGreatDoor.H
namespace Go.Proofs.YtgepmbjmaljgoaaGreatDoor.H
open Go Go.Vc Go.RowKit Go.Na
set_option maxHeartbeats 4000000
theorem ctrAM {P : Program} {fn : Func} {f : FuncId} {c : Code} {args : List AV} {res : AV} (N : Nat) (hf : P.funcs[f]? = some fn) (hb : fn.body = some c) (hname : (fn.name == "runtime.NumGoroutine") = false) (hN : fn.ntmps = N) (hlen' : Nat.ble args.length N = true)
  (h : ∀ w Z, CQ P (envA N w Z) (postM P fn (RetA w Z res)) (initT 0 (args.map SV.av)) [] c) : CtrA P f args res :=
 ⟨entersM hf hb hname, fun w Z vs hZ hvs => callsIn_wide.1 (callsIn_of_wp_marks (n := 0) hf hb trivial ((h w Z).sq _ w (init_satM hN hlen' hZ hvs)))⟩
def cellOf (x : Value) (j : Nat) : Value := match x with | .agg cs => cs.toList.getD j undef | _ => undef
def natOf (x : Value) : Nat := match x with | .int _ i => i.toNat | _ => 0
def decT (x : Value) : Nat × Nat × Nat := (natOf (cellOf x 0), natOf (cellOf x 1), natOf (cellOf x 2))
def preP (l : List Tr) (k : Nat) (pre : List Value) : List Pl := pre.filterMap fun x => thrT l k (decT x)
theorem preP_app (l : List Tr) (k : Nat) (pre : List Value) (x : Value) : preP l k (pre ++ [x]) = preP l k pre ++ (thrT l k (decT x)).toList := by
 unfold preP
 rw [List.filterMap_append]
 cases h : thrT l k (decT x) <;> simp [List.filterMap, h]
theorem preP_len (l : List Tr) (k : Nat) (pre : List Value) : (preP l k pre).length ≤ pre.length := List.length_filterMap_le _ _
theorem preP_all {l : List Tr} {k n : Nat} {xs : List Value} {Z : Zone} {w : World} (h : All2 (fun τ v => AV.ok Z w τ v) ((tI n).map atT) xs) : preP l k xs = (tI n).filterMap (thrT l k) := by
 have key : ∀ (L : List (Nat × Nat × Nat)) (xs : List Value), All2 (fun τ v => AV.ok Z w τ v) (L.map atT) xs → preP l k xs = L.filterMap (thrT l k) := by
  intro L
  induction L with
  |nil => intro xs h; match xs, h with | [], _ => rfl
  |cons t L ih =>
   intro xs h
   match xs, h with
   |x :: xs, h =>
    obtain ⟨h1, h2⟩ := h
    have e : x = .agg #[.int .i64 t.1, .int .i64 t.2.1, .int .i64 t.2.2] := h1
    have e2 : decT x = t := by rw [e]; rfl
    have := ih xs h2
    unfold preP at this ⊢
    rw [List.filterMap_cons, List.filterMap_cons, e2, this]
 exact key _ _ h
def candA (l : List Tr) (k : Nat) : AV :=
 if chk (plcs l k) ≠ 0 then tupOf [.val (.slice none 0 0), vi (chk (plcs l k))] else if collB (plcs l k) = true then tupOf [.val (.slice none 0 0), vi 14] else tupOf [.sl (candP l k).length 5 (pf5 k (candP l k)), vi 0]
theorem tq25 (a b c d e : Value) (w : World) : (Instr.buildSlice 25 1 #[(0, .agg #[a, b, c, d, e])]).run Tryz.prog w = .ok (.slice (some ⟨w.heap.size, 0, none⟩) 1 1) (w.alloc (.cells #[a, b, c, d, e] 42)) := by kernel_rfl
theorem bs25 (κ : Int) (P : Pl) : ∀ (Z : Zone) (w : World) (vs : List Value), All2 (fun τ v => AV.ok Z w τ v) [pR κ P] vs → ∃ cs : List Value, (Instr.buildSlice 25 1 ([0].zip vs).toArray).run Tryz.prog w = .ok (.slice (some ⟨w.heap.size, 0, none⟩) 1 1) (w.alloc (.cells cs.toArray 42)) ∧ ∀ i, i < 1 → ∀ j, j < 5 → ∃ u, cs[i * 5 + j]? = some u ∧ (pf5 κ [P] i j).ok Z w u := fun Z w vs h => by
 match vs, h with
 |[v], ⟨⟨cs, hv, hl, hc⟩, _⟩ =>
  match cs, hl with
  |[c0, c1, c2, c3, c4], _ =>
   subst hv
   refine ⟨_, tq25 _ _ _ _ _ _, fun i hi j hj => ?_⟩
   obtain rfl : i = 0 := by omega
   rw [Nat.zero_mul, Nat.zero_add]
   exact hc j hj
theorem pf5_app (κ : Int) (L : List Pl) (P : Pl) : ∀ i, i < L.length + 1 → ∀ j, j < 5 → rowApp L.length (pf5 κ L) (pf5 κ [P]) i j = pf5 κ (L ++ [P]) i j := by
 intro i hi j hj
 unfold rowApp pf5
 rw [gP_app]
 by_cases h : i < L.length
 ·rw [if_pos h, if_pos h]
 ·have e : i = L.length := by omega
  subst e
  rw [if_neg h, if_neg h, if_pos rfl, Nat.sub_self]
  rfl
theorem cands_c (l : List Tr) (hl : RT l) {k : Nat} (hk : k < 3) (hn : l.length ≤ 9) : CtrA Tryz.prog 46 [ts l, vi (k : Int)] (candA l k) := by
 have hp := (places_c l hk zO).ro
 have hc := coll_c (plcs l k)
 have ht := triples_c l.length
 refine ctrAM _ Tryz.func46 rfl rfl Tryz.ntmps46 rfl fun w Z => ?_
 refine zU ?_
 refine wt ?_
 (refine cq_cond rfl ?_ ?_ <;> intro hb <;> (try simp only [zA, zB, zG, zC, zD, zN] at hb) <;> (try (exfalso; omega)))
 ·refine wt ?_
  exact sq_mR (sq_resN (rvs := [_, _]) (τs := [_, _]) rfl rfl ⟨.cell rfl rfl rfl, .cell rfl rfl rfl, trivial⟩ (by unfold candA; rw [if_pos hb]))
 ·have hb0 := hb
  have hE : collE (plcs l k) = collB (plcs l k) := by unfold collE; rw [if_pos hb]
  rw [hE]
  refine wt ?_
  (refine cq_cond rfl ?_ ?_ <;> intro hb <;> (try simp only [zA, zB, zG, zC, zD, zN] at hb) <;> (try (exfalso; omega)))
  ·refine wt ?_
   exact sq_mR (sq_resN (rvs := [_, _]) (τs := [_, _]) rfl rfl ⟨.cell rfl rfl rfl, .cell rfl rfl rfl, trivial⟩ (by unfold candA; rw [if_neg (fun h => h hb0), if_pos hb]))
  ·refine wt ?_
   refine cq_more (ent_rowc (r := 12) (off := 0) 100 42 5 (pf5 k []) rfl rfl rfl) ?_
   refine cq_rangeM rfl rfl (triplesi_c l.length zO) [9, 10, 11, 12, 27, 28, 29, 30, 31, 32, 33, 34, 35, 36, 37, 38, 39, 40, 41, 42, 43, 100] [(2, .av (.ptr 1 (fun _ => ts l))), (3, .av (.ptr 1 (fun _ => vi (k : Int)))), (4, .own 10 0), (5, .own 11 0), (8, .own 12 0), (26, .av (tcl l.length))]
    (fun pre => [(100, .row 42 5 (preP l k pre).length (pf5 k (preP l k pre))), (12, .cells [.osl 100]), (11, .cells [.av (vi 0)]), (10, .cells [.av (.val (.slice none 0 0))])]) (fun x => [(9, .av (.ptr 3 (fun j => .val (cellOf x j))))])
    (ent zS zT) rfl rfl rfl rfl (fun _ => rfl) ?_ ?_ ?_
   ·rintro lp a0 w0 Z0 keep pre x ⟨a, b, c, ha, hb1, hc1, rfl⟩
    refine wt ?_
    exact sq_assM (Ent.trans (ent_freezec 9 13 (fun j => .val (cellOf (.agg #[.int .i64 a, .int .i64 b, .int .i64 c]) j)) rfl rfl rfl) (ent zS zT))
   ·rintro lp a0 w0 Z0 keep pre x ⟨a, b, c, ha, hb1, hc1, rfl⟩ hlen
    have hT := through_c l hl hk a b c ha hb1 hc1 zO
    have hpa := preP_app l k pre (.agg #[.int .i64 a, .int .i64 b, .int .i64 c])
    rw [show thrT l k (decT (.agg #[.int .i64 a, .int .i64 b, .int .i64 c])) = thr l k a b c from rfl] at hpa
    have hpl : pre.length ≤ 729 := by
     rw [List.length_map] at hlen
     have := tI_len l.length
     have : l.length * (l.length * l.length) ≤ 9 * (9 * 9) := Nat.mul_le_mul hn (Nat.mul_le_mul hn hn)
     omega
    have hpl2 := preP_len l k pre
    cases hth : thr l k a b c with
    |none =>
     rw [hth] at hT hpa
     rw [show (Option.none : Option Pl).toList = [] from rfl, List.append_nil] at hpa
     refine wt ?_
     rw [hpa]
     exact sq_rndM (ent zS zT)
    |some P =>
     rw [hth] at hT hpa
     rw [show (some P).toList = [P] from rfl] at hpa
     refine wt ?_
     refine sq_s (g_store_aggv rfl rfl (pAf_one _ _ _ _ _) rfl rfl) ?_
     refine wt ?_
     refine sq_g (g_load_own_aggv (f := pAf k (rtx P.A) (rtx P.B) (rtx P.C) (idx P.s)) rfl rfl rfl) rfl ?_
     refine wt ?_
     refine sq_g (g_bslice_gen (is := [0]) (xs := [_]) (τs := [pR k P]) (row := pf5 k [P]) rfl rfl (bs25 k P) rfl) rfl ?_
     refine wt ?_
     refine sq_v (v_append (h := pf5 k [P]) (m := 1) rfl rfl rfl (fun i hi j hj => pAf_one _ _ _ _ _ j hj) (by omega) (by simp only [maxLen]; omega) (by omega)) rfl ?_
     refine wt ?_
     rw [hpa]
     exact sq_rndM (ent zS ⟨⟨_, rfl, .row (by simp) (fun i hi j hj => pf5_app _ _ _ i (by simpa using hi) j hj)⟩, ⟨_, rfl, .refl _⟩, ⟨_, rfl, .refl _⟩, ⟨_, rfl, .refl _⟩, trivial⟩)
   ·intro D w2 xs Z1 ν a hA hR h
    have hxs : preP l k xs = thrs l k := (preP_all (l := l) (k := k) hR).trans (by unfold thrs; rw [tI_eq])
    have hlr : ∀ p ∈ thrs l k, PLR p := fun p hp => thrs_LR hl hk hp
    have htl := thrs_len l k
    have : l.length * (l.length * l.length) ≤ 9 * (9 * 9) := Nat.mul_le_mul hn (Nat.mul_le_mul hn hn)
    have hs1 := sortf_c k (thrs l k) hlr (fun f hf g hg => thrs_uniq hf hg) zO
    have hs2 := compactf_c k (srtP (thrs l k)) (fun p hp => hlr p (srtP_mem.1 hp)) (by rw [srtP_len]; omega)
    rw [srtP_len, cpt_cand] at hs2
    rw [hxs] at h
    refine sq_use ⟨_, _, h⟩ ?_
    refine wt ?_
    refine sq_v (v_call_w hs1 rfl rfl rfl) rfl ?_
    refine wt ?_
    refine sq_v (v_call_wb hs2 rfl rfl rfl) rfl ?_
    refine wt ?_
    exact sq_afterM hA (sq_ent (ent_freeze_in 10 100 0 rfl rfl rfl rfl) (sq_resN (rvs := [_, _]) (τs := [_, _]) rfl rfl ⟨.cell rfl rfl rfl, .cell rfl rfl rfl, trivial⟩ (by unfold candA; rw [if_neg (fun h => h hb0), if_neg (by rw [hb]; decide)])))
theorem cut_any (l : List UInt8) : Lib.cut l [47] = match spI l with | some i => (l.take i, l.drop (i + 1), true) | none => (l, [], false) := by
 cases hI : spI l with
 |none =>
  have h : (47 : UInt8) ∉ l := fun h => by
   have := List.findIdx?_eq_none_iff.1 hI 47 h
   simp at this
  unfold Lib.cut
  dsimp only
  rw [index_no47 h, if_neg (by omega)]
 |some i =>
  obtain ⟨h1, h2, h3⟩ := spI_at hI
  have e : Lib.cut (l.take i ++ 47 :: l.drop (i + 1)) [47] = (l.take i, l.drop (i + 1), true) := by
   generalize l.take i = a at h2
   unfold Lib.cut
   rw [index_47 h2, if_pos (by omega)]
   simp
  rw [← h1] at e
  exact e
theorem rcut_any (l : List UInt8) (hl : l.length ≤ 1000000) : CtrA Tryz.prog 172 [vS l] (tupOf [vS (spN l), vS (spD l), vb (spI l).isSome]) := by
 have h1 := cut_c l hl
 have hs1 : spN l = match spI l with | some i => l.take i | none => l := rfl
 have hs2 : spD l = match spI l with | some i => l.drop (i + 1) | none => [49] := rfl
 rw [cut_any] at h1
 cases hI : spI l with
 |none =>
  rw [hI] at h1 hs1 hs2
  dsimp only at h1 hs1 hs2
  rw [hs1, hs2]
  refine ctrA _ Tryz.func172 rfl rfl Tryz.ntmps172 rfl fun w Z => ?_
  refine zU ?_
  refine wt ?_
  exact zX
 |some i =>
  rw [hI] at h1 hs1 hs2
  dsimp only at h1 hs1 hs2
  rw [hs1, hs2]
  refine ctrA _ Tryz.func172 rfl rfl Tryz.ntmps172 rfl fun w Z => ?_
  refine zU ?_
  refine wt ?_
  exact zX
theorem vI1' : vI 1 = vS [49] := by rw [vI, itoa_1]
theorem ratcheck_c (l : List UInt8) (hl : l.length ≤ 400) : CtrA Tryz.prog 111 [vS l] (vi (chkR l)) := by
 have h1 := rcut_any l zO
 have ln := spN_len l
 have ld := spD_len l
 have c1 := wcheck_c (spN l) zO
 have c2 := wcheck_c (spD l) zO
 rcases chk_short (l := spN l) zO with e1 | e1
 case inr =>
  rw [e1] at c1
  refine ctrA _ Tryz.func111 rfl rfl Tryz.ntmps111 rfl fun w Z => ?_
  refine zU ?_
  refine wt ?_
  exact sq_res1 rfl (.tmp rfl) (congrArg vi (chkR_bad fun h => by
   obtain ⟨m, hm⟩ := (isNum_iff _).1 (isRat_parts h).1
   rw [hm, chk_num (LI_itoa (by rw [← hm]; omega))] at e1
   cases e1).symm)
 obtain ⟨m, hm⟩ := chk_good e1
 rcases chk_short (l := spD l) zO with e2 | e2
 case inr =>
  rw [e1] at c1
  rw [e2] at c2
  refine ctrA _ Tryz.func111 rfl rfl Tryz.ntmps111 rfl fun w Z => ?_
  refine zU ?_
  refine wt ?_
  exact sq_res1 rfl (.tmp rfl) (congrArg vi (chkR_bad fun h => by
   obtain ⟨m, hm⟩ := (isNum_iff _).1 (isRat_parts h).2
   rw [hm, chk_num (LI_itoa (by rw [← hm]; omega))] at e2
   cases e2).symm)
 obtain ⟨e, he⟩ := chk_good e2
 rw [e1] at c1
 rw [e2] at c2
 have hs1 : spN l = match spI l with | some i => l.take i | none => l := rfl
 have hs2 : spD l = match spI l with | some i => l.drop (i + 1) | none => [49] := rfl
 cases hI : spI l with
 |none =>
  rw [hI] at h1 hs1
  dsimp only at hs1
  refine ctrA _ Tryz.func111 rfl rfl Tryz.ntmps111 rfl fun w Z => ?_
  refine zU ?_
  refine wt ?_
  exact sq_res1 rfl (.tmp rfl) (congrArg vi (by rw [← hs1, hm]; exact (if_pos (isRat_num m)).symm))
 |some i =>
  rw [hI] at h1 hs1 hs2
  dsimp only at hs1 hs2
  obtain ⟨hl2, _, hil⟩ := spI_at hI
  rw [← hs1, ← hs2, hm, he] at hl2
  have hiff := isRat_mid m e
  rw [← hl2] at hiff
  have lm : LI 401 m := LI_itoa (by rw [← hm]; omega)
  have le : LI 401 e := LI_itoa (by rw [← he]; omega)
  rw [hm] at h1 c1
  rw [he] at h1 c2
  have ho := wcompare_c e 1 (le.mono zE) (.small zE zE)
  rw [vI1'] at ho
  have hsh := wgcd_c m e (lm.mono zE) (le.mono zE)
  have h49 := itoa_is1 ((Nat.gcd m.natAbs e.natAbs : Nat) : Int)
  by_cases h0 : 1 < e
  ·have es : Na.sgn (e - 1) = 1 := by unfold Na.sgn; rw [if_neg (by omega), if_neg (by omega)]
   rw [es] at ho
   by_cases hg : Nat.gcd m.natAbs e.natAbs = 1
   ·rw [decide_eq_true (by omega)] at h49
    refine ctrA _ Tryz.func111 rfl rfl Tryz.ntmps111 rfl fun w Z => ?_
    refine zU ?_
    refine wt ?_
    rw [h49]
    refine wt ?_
    exact sq_res1 rfl (.tmp rfl) (congrArg vi (if_pos (hiff.2 ⟨h0, hg⟩)).symm)
   ·rw [decide_eq_false (by omega)] at h49
    refine ctrA _ Tryz.func111 rfl rfl Tryz.ntmps111 rfl fun w Z => ?_
    refine zU ?_
    refine wt ?_
    rw [h49]
    refine wt ?_
    exact sq_res1 rfl (.tmp rfl) (congrArg vi (chkR_bad fun h => hg (hiff.1 h).2).symm)
  ·have hbad : chkR l = 3 := chkR_bad fun h => h0 (hiff.1 h).1
   rw [hbad]
   by_cases h1' : e = 1
   ·have es : Na.sgn (e - 1) = 0 := by unfold Na.sgn; rw [if_pos (by omega)]
    rw [es] at ho
    refine ctrA _ Tryz.func111 rfl rfl Tryz.ntmps111 rfl fun w Z => ?_
    refine zU ?_
    refine wt ?_
    exact zV
   ·have es : Na.sgn (e - 1) = -1 := by unfold Na.sgn; rw [if_neg (by omega), if_pos (by omega)]
    rw [es] at ho
    refine ctrA _ Tryz.func111 rfl rfl Tryz.ntmps111 rfl fun w Z => ?_
    refine zU ?_
    refine wt ?_
    exact zV
def candX (l : List Tr) (a : Int) : AV := if givE l a ≠ 0 then tupOf [.val (.slice none 0 0), vi (givE l a)] else candA l a.toNat
theorem few_of {l : List Tr} {a : Int} (hf : fewB l = true) (hg : givE l a = 0) : RT l ∧ l.length ≤ 6 ∧ ∃ k : Nat, k < 3 ∧ a = k := by
 unfold givE at hg
 split at hg
 ·rename_i h; exact absurd hg h
 ·rename_i h
  obtain ⟨h1, h2⟩ := RT.of (l := l) (by simpa using h)
  have h3 : l.length ≤ 6 := by unfold fewB at hf; simp at hf; omega
  split at hg
  ·rename_i h4; exact ⟨h1, h3, a.toNat, by omega, by omega⟩
  ·cases hg
theorem candidates_c (l : List Tr) (a : Int) (hf : fewB l = true) : CtrA Tryz.prog 13 [ts l, vi a] (candX l a) := by
 have h1 := given_c l a
 unfold candX
 by_cases hg : givE l a = 0
 ·obtain ⟨h2, h3, k, h4, rfl⟩ := few_of hf hg
  have h5 := cands_c l h2 h4 zO
  rw [if_neg (fun h => h hg), Int.toNat_natCast]
  rw [hg] at h1
  unfold candA at h5 ⊢
  split at h5
  ·rename_i hc
   rw [if_pos hc]
   refine ctrA _ Tryz.func13 rfl rfl Tryz.ntmps13 rfl fun w Z => ?_
   refine zU ?_
   refine wt ?_
   exact zW
  ·rename_i hc
   rw [if_neg hc]
   split at h5
   ·rename_i hd
    rw [if_pos hd]
    refine ctrA _ Tryz.func13 rfl rfl Tryz.ntmps13 rfl fun w Z => ?_
    refine zU ?_
    refine wt ?_
    exact zW
   ·rename_i hd
    rw [if_neg hd]
    refine ctrA _ Tryz.func13 rfl rfl Tryz.ntmps13 rfl fun w Z => ?_
    refine zU ?_
    refine wt ?_
    exact zW
 ·rw [if_pos hg]
  refine ctrA _ Tryz.func13 rfl rfl Tryz.ntmps13 rfl fun w Z => ?_
  refine zU ?_
  refine wt ?_
  (refine cq_cond rfl ?_ ?_ <;> intro hb <;> (try simp only [zA, zB, zG, zC, zD, zN] at hb) <;> (try (exfalso; omega)))
  ·refine wt ?_
   exact zW
def cndL (l : List Tr) (a : Int) : List Pl := if givE l a ≠ 0 then [] else if chk (plcs l a.toNat) ≠ 0 then [] else if collB (plcs l a.toNat) = true then [] else candP l a.toNat
def cndE (l : List Tr) (a : Int) : Int := if givE l a ≠ 0 then givE l a else if chk (plcs l a.toNat) ≠ 0 then chk (plcs l a.toNat) else if collB (plcs l a.toNat) = true then 14 else 0
theorem candX_cases (l : List Tr) (a : Int) : (candX l a = tupOf [.val (.slice none 0 0), vi (cndE l a)] ∧ cndL l a = []) ∨ (candX l a = tupOf [.sl (cndL l a).length 5 (pf5 a (cndL l a)), vi (cndE l a)] ∧ cndE l a = 0) := by
 by_cases h1 : givE l a = 0
 ·by_cases h2 : chk (plcs l a.toNat) = 0
  ·by_cases h3 : collB (plcs l a.toNat) = true
   ·exact .inl ⟨by simp [candX, candA, cndE, h1, h2, h3], by simp [cndL, h1, h2, h3]⟩
   ·have ha : ((a.toNat : Nat) : Int) = a := by
     unfold givE at h1
     split at h1
     ·rename_i h; exact absurd h1 h
     ·split at h1
      ·omega
      ·cases h1
    have e : cndL l a = candP l a.toNat := by simp [cndL, h1, h2, h3]
    rw [e]
    exact .inr ⟨by simp [candX, candA, cndE, h1, h2, h3, ha], by simp [cndE, h1, h2, h3]⟩
  ·exact .inl ⟨by simp [candX, candA, cndE, h1, h2], by simp [cndL, h1, h2]⟩
 ·exact .inl ⟨by simp [candX, cndE, h1], by simp [cndL, h1]⟩
theorem rocks_c (l : List Tr) (a : Int) (hf : fewB l = true) : CtrA Tryz.prog 15 [ts l, vi a] (tupOf [vb (decide (1 < (cndL l a).length)), vi (cndE l a)]) := by
 have h := candidates_c l a hf
 rcases candX_cases l a with ⟨h1, h2⟩ | ⟨h1, h2⟩
 ·rw [h1] at h
  rw [h2]
  refine ctrA _ Tryz.func15 rfl rfl Tryz.ntmps15 rfl fun w Z => ?_
  refine zU ?_
  refine wt ?_
  exact zW
 ·rw [h1] at h
  refine ctrA _ Tryz.func15 rfl rfl Tryz.ntmps15 rfl fun w Z => ?_
  refine zU ?_
  refine wt ?_
  refine sq_resN (rvs := [_, _]) (τs := [_, _]) rfl rfl ⟨.tmp rfl, .tmp rfl, trivial⟩ ?_
  refine congrArg (fun b => tupOf [vb b, vi (cndE l a)]) ?_
  rw [Bool.eq_iff_iff]; simp; omega
end Go.Proofs.YtgepmbjmaljgoaaGreatDoor.H
section
end
section
end
namespace Go.Proofs.YtgepmbjmaljgoaaGreatDoor.H
open Go Go.Vc Go.RowKit Go.Na
set_option maxHeartbeats 4000000
theorem tb57 (a b c : ByteArray) : Tryz.prog.built 57 [(0, .string a), (1, .string b), (2, .string c)] = some #[.string a, .string b, .string c] := by kernel_rfl
theorem ti57_0 (a b c : ByteArray) (w : World) : (Instr.index 57 (.agg [.string a, .string b, .string c].toArray) (.int .i64 0)).run Tryz.prog w = .ok (.string a) w := by kernel_rfl
theorem ti57_1 (a b c : ByteArray) (w : World) : (Instr.index 57 (.agg [.string a, .string b, .string c].toArray) (.int .i64 1)).run Tryz.prog w = .ok (.string b) w := by kernel_rfl
theorem ti57_2 (a b c : ByteArray) (w : World) : (Instr.index 57 (.agg [.string a, .string b, .string c].toArray) (.int .i64 2)).run Tryz.prog w = .ok (.string c) w := by kernel_rfl
noncomputable def plE (a : Int) (A B C : List UInt8) : Int := if ¬ (0 ≤ a ∧ a ≤ 2) then 1 else if chkR A ≠ 0 then chkR A else if chkR B ≠ 0 then chkR B else chkR C
theorem plcheck_c (a : Int) (A B C : List UInt8) (s : AV) (hA : A.length ≤ 400) (hB : B.length ≤ 400) (hC : C.length ≤ 400) : CtrA Tryz.prog 56 [pA a A B C s] (vi (plE a A B C)) := by
 have hx := axes_c a
 have h1 := ratcheck_c A hA
 have h2 := ratcheck_c B hB
 have h3 := ratcheck_c C hC
 refine ctrA _ Tryz.func56 rfl rfl Tryz.ntmps56 rfl fun w Z => ?_
 refine zU ?_
 refine wt ?_
 (refine cq_cond rfl ?_ ?_ <;> intro hb <;> (try simp only [zA, zB, zG, zC, zD, zN] at hb) <;> (try (exfalso; omega)))
 ·refine wt ?_
  have ha : ¬ (0 ≤ a ∧ a ≤ 2) := fun h => by rw [if_pos h] at hb; exact hb rfl
  exact sq_res1 rfl (.tmp rfl) (congrArg vi (by unfold plE; rw [if_pos ha, if_neg ha]))
 ·have ha : 0 ≤ a ∧ a ≤ 2 := by
   by_cases h : 0 ≤ a ∧ a ≤ 2
   ·exact h
   ·rw [if_neg h] at hb; cases hb
  refine wt ?_
  refine sq_g (g_build (t := 57) (is := [0, 1, 2]) (xs := [_, _, _]) (vs := [_, _, _]) (tb57 _ _ _) rfl rfl) rfl ?_
  refine wt ?_
  refine cq_loop (γ := Nat) (fun i => [(19, .av (.val (.agg [.string (bs A), .string (bs B), .string (bs C)].toArray))), (20, .av (vi i))]) (fun _ => []) (fun i => i ≤ 3 ∧ (0 < i → chkR A = 0) ∧ (1 < i → chkR B = 0) ∧ (2 < i → chkR C = 0)) (fun i => 3 - i) 0 ⟨by omega, by omega, by omega, by omega⟩ (ent zS trivial) ?_
  rintro i ⟨hi, q1, q2, q3⟩
  match i, hi, q1, q2, q3 with
  |0, _, _, _, _ =>
   refine wt ?_
   refine sq_g (g_aindex (ti57_0 _ _ _) rfl rfl) rfl ?_
   refine wt ?_
   (refine cq_cond rfl ?_ ?_ <;> intro hb <;> (try simp only [zA, zB, zG, zC, zD, zN] at hb) <;> (try (exfalso; omega)))
   ·refine wt ?_
    exact sq_res1 rfl (.tmp rfl) (congrArg vi (by unfold plE; rw [if_neg (fun h => h ha), if_pos hb]))
   ·refine wt ?_
    exact sq_round 1 ⟨by omega, fun _ => hb, by omega, by omega⟩ zO (ent zS trivial)
  |1, _, q1, _, _ =>
   have e1 := q1 zO
   refine wt ?_
   refine sq_g (g_aindex (ti57_1 _ _ _) rfl rfl) rfl ?_
   refine wt ?_
   (refine cq_cond rfl ?_ ?_ <;> intro hb <;> (try simp only [zA, zB, zG, zC, zD, zN] at hb) <;> (try (exfalso; omega)))
   ·refine wt ?_
    exact sq_res1 rfl (.tmp rfl) (congrArg vi (by unfold plE; rw [if_neg (fun h => h ha), if_neg (fun h => h e1), if_pos hb]))
   ·refine wt ?_
    exact sq_round 2 ⟨by omega, fun _ => e1, fun _ => hb, by omega⟩ zO (ent zS trivial)
  |2, _, q1, q2, _ =>
   have e1 := q1 zO
   have e2 := q2 zO
   refine wt ?_
   refine sq_g (g_aindex (ti57_2 _ _ _) rfl rfl) rfl ?_
   refine wt ?_
   (refine cq_cond rfl ?_ ?_ <;> intro hb <;> (try simp only [zA, zB, zG, zC, zD, zN] at hb) <;> (try (exfalso; omega)))
   ·refine wt ?_
    exact sq_res1 rfl (.tmp rfl) (congrArg vi (by unfold plE; rw [if_neg (fun h => h ha), if_neg (fun h => h e1), if_neg (fun h => h e2)]))
   ·refine wt ?_
    exact sq_round 3 ⟨by omega, fun _ => e1, fun _ => e2, fun _ => hb⟩ zO (ent zS trivial)
  |3, _, q1, q2, q3 =>
   have e1 := q1 zO
   have e2 := q2 zO
   have e3 := q3 zO
   refine wt ?_
   exact sq_res1 rfl (.tmp rfl) (congrArg vi (by unfold plE; rw [if_neg (fun h => h ha), if_neg (fun h => h e1), if_neg (fun h => h e2), e3]))
  |_ + 4, h, _, _, _ => omega
end Go.Proofs.YtgepmbjmaljgoaaGreatDoor.H
section
end
namespace Go.Proofs.YtgepmbjmaljgoaaGreatDoor.H
open Go Go.Vc Go.RowKit Go.Na
set_option maxHeartbeats 4000000
abbrev sv (l : List UInt8) : Value := .string (bs l)
theorem tb59 (a b c d e f : ByteArray) : Tryz.prog.built 59 [(0, .agg #[.string a, .string b, .string c]), (1, .agg #[.string d, .string e, .string f])] = some #[.string a, .string b, .string c, .string d, .string e, .string f] := by kernel_rfl
def torC (k : Nat) (o : Int) (A B C : Rat) : List Value :=
 match k with
 |0 => [sv (rtx (o - A)), sv [48], sv [48], sv [48], sv (rtx (-C)), sv (rtx B)]
 |1 => [sv [48], sv (rtx (o - A)), sv [48], sv (rtx C), sv [48], sv (rtx (-B))]
 |_ => [sv [48], sv [48], sv (rtx (o - A)), sv (rtx (-C)), sv (rtx B), sv [48]]
abbrev torV (l : List Value) : AV := .val (.agg l.toArray)
theorem Torsor_ok (k : Nat) (hk : k < 3) (A B C : Rat) (s : AV) (o : Int) (ho : -100000 ≤ o ∧ o ≤ 100000) (hA : LR 43 A) (hB : LR 43 B) (hC : LR 43 C) (lA : (rtx A).length ≤ 400) (lB : (rtx B).length ≤ 400) (lC : (rtx C).length ≤ 400) : CtrA Tryz.prog 24 [pA k (rtx A) (rtx B) (rtx C) s, vi o] (tupOf [torV (torC k o A B C), vi 0]) := by
 have he : plE k (rtx A) (rtx B) (rtx C) = 0 := by unfold plE; rw [if_neg (fun h => h (by omega)), if_neg (fun h => h (chkR_rtx A)), if_neg (fun h => h (chkR_rtx B)), chkR_rtx]
 have hc := plcheck_c k _ _ _ s lA lB lC
 rw [he] at hc
 have l0 : LR 43 (o : Rat) := LR.int (LI.mono (k := 6) (show o.natAbs < 10 ^ 6 by omega) zE) zE
 have hw := rat_whole o zO
 have h1 := rat_sub o A (l0.mono zE) (hA.mono zE)
 have h2 := rat_neg B (hB.mono zE)
 have h3 := rat_neg C (hC.mono zE)
 rcases (by omega : k = 0 ∨ k = 1 ∨ k = 2) with rfl | rfl | rfl
 ·refine ctrA _ Tryz.func24 rfl rfl Tryz.ntmps24 rfl fun w Z => ?_
  refine zU ?_
  refine wt ?_
  refine sq_g (g_load_aggv rfl rfl) rfl ?_
  (refine wt ?_; repeat' (((first | refine sq_split rfl rfl ?_ ?_ | refine dq_split rfl rfl ?_ ?_) <;> intro hb <;> (try simp only [zA, zB, zG, zC, zD, zN] at hb) <;> (try (exfalso; omega))) <;> refine wt ?_))
  all_goals (try (refine cq_cond rfl ?_ ?_ <;> intro hb <;> (try simp only [zA, zB, zG, zC, zD, zN] at hb) <;> (try (exfalso; omega))))
  all_goals refine wt ?_
  refine sq_g (g_build (t := 57) (is := [0, 1, 2]) (xs := [_, _, _]) (vs := [sv [48], sv [48], sv [48]]) (tb57 _ _ _) rfl rfl) rfl ?_
  refine wt ?_
  refine sq_g (g_build (t := 57) (is := [0, 1, 2]) (xs := [_, _, _]) (vs := [sv [48], sv [48], sv [48]]) (tb57 _ _ _) rfl rfl) rfl ?_
  refine wt ?_
  refine sq_g (g_build (t := 59) (is := [0, 1]) (xs := [_, _]) (vs := [.agg #[sv [48], sv [48], sv [48]], .agg #[sv [48], sv [48], sv [48]]]) (tb59 _ _ _ _ _ _) rfl rfl) rfl ?_
  refine wt ?_
  refine sq_g (g_load_own_agg (us := torC 0 o A B C) rfl rfl rfl rfl) rfl ?_
  refine wt ?_
  exact sq_resN (rvs := [_, _]) (τs := [_, _]) rfl rfl ⟨.agg (us := torC 0 o A B C) rfl rfl rfl rfl, .tmp rfl, trivial⟩ rfl
 ·refine ctrA _ Tryz.func24 rfl rfl Tryz.ntmps24 rfl fun w Z => ?_
  refine zU ?_
  refine wt ?_
  refine sq_g (g_load_aggv rfl rfl) rfl ?_
  (refine wt ?_; repeat' (((first | refine sq_split rfl rfl ?_ ?_ | refine dq_split rfl rfl ?_ ?_) <;> intro hb <;> (try simp only [zA, zB, zG, zC, zD, zN] at hb) <;> (try (exfalso; omega))) <;> refine wt ?_))
  all_goals (try (refine cq_cond rfl ?_ ?_ <;> intro hb <;> (try simp only [zA, zB, zG, zC, zD, zN] at hb) <;> (try (exfalso; omega))))
  all_goals refine wt ?_
  refine sq_g (g_build (t := 57) (is := [0, 1, 2]) (xs := [_, _, _]) (vs := [sv [48], sv [48], sv [48]]) (tb57 _ _ _) rfl rfl) rfl ?_
  refine wt ?_
  refine sq_g (g_build (t := 57) (is := [0, 1, 2]) (xs := [_, _, _]) (vs := [sv [48], sv [48], sv [48]]) (tb57 _ _ _) rfl rfl) rfl ?_
  refine wt ?_
  refine sq_g (g_build (t := 59) (is := [0, 1]) (xs := [_, _]) (vs := [.agg #[sv [48], sv [48], sv [48]], .agg #[sv [48], sv [48], sv [48]]]) (tb59 _ _ _ _ _ _) rfl rfl) rfl ?_
  refine wt ?_
  refine sq_g (g_load_own_agg (us := torC 1 o A B C) rfl rfl rfl rfl) rfl ?_
  refine wt ?_
  exact sq_resN (rvs := [_, _]) (τs := [_, _]) rfl rfl ⟨.agg (us := torC 1 o A B C) rfl rfl rfl rfl, .tmp rfl, trivial⟩ rfl
 ·refine ctrA _ Tryz.func24 rfl rfl Tryz.ntmps24 rfl fun w Z => ?_
  refine zU ?_
  refine wt ?_
  refine sq_g (g_load_aggv rfl rfl) rfl ?_
  (refine wt ?_; repeat' (((first | refine sq_split rfl rfl ?_ ?_ | refine dq_split rfl rfl ?_ ?_) <;> intro hb <;> (try simp only [zA, zB, zG, zC, zD, zN] at hb) <;> (try (exfalso; omega))) <;> refine wt ?_))
  all_goals (try (refine cq_cond rfl ?_ ?_ <;> intro hb <;> (try simp only [zA, zB, zG, zC, zD, zN] at hb) <;> (try (exfalso; omega))))
  all_goals refine wt ?_
  refine sq_g (g_build (t := 57) (is := [0, 1, 2]) (xs := [_, _, _]) (vs := [sv [48], sv [48], sv [48]]) (tb57 _ _ _) rfl rfl) rfl ?_
  refine wt ?_
  refine sq_g (g_build (t := 57) (is := [0, 1, 2]) (xs := [_, _, _]) (vs := [sv [48], sv [48], sv [48]]) (tb57 _ _ _) rfl rfl) rfl ?_
  refine wt ?_
  refine sq_g (g_build (t := 59) (is := [0, 1]) (xs := [_, _]) (vs := [.agg #[sv [48], sv [48], sv [48]], .agg #[sv [48], sv [48], sv [48]]]) (tb59 _ _ _ _ _ _) rfl rfl) rfl ?_
  refine wt ?_
  refine sq_g (g_load_own_agg (us := torC 2 o A B C) rfl rfl rfl rfl) rfl ?_
  refine wt ?_
  exact sq_resN (rvs := [_, _]) (τs := [_, _]) rfl rfl ⟨.agg (us := torC 2 o A B C) rfl rfl rfl rfl, .tmp rfl, trivial⟩ rfl
end Go.Proofs.YtgepmbjmaljgoaaGreatDoor.H
namespace Go.Proofs.YtgepmbjmaljgoaaGreatDoor.H
open Go Go.Vc Go.RowKit
open Go.Na (rtx)
set_option maxHeartbeats 4000000
def plP (l : List Tr) (k : Nat) (s : List Nat) : List Pt := s.map fun i => plc k (gt l i)
def bearB (l : List Tr) (k : Nat) (p : Pt) (P : Pl) : Bool := decide (0 ≤ locN (plP l k P.s) p)
def restA (l : List Tr) (a : Int) (p : Pt) : AV :=
 if givE l a ≠ 0 then tupOf [pZ, vb false, vi (givE l a)] else if rightB p = false then tupOf [pZ, vb false, vi 2] else if cndE l a ≠ 0 then tupOf [pZ, vb false, vi (cndE l a)] else
 match (candP l a.toNat).find? (bearB l a.toNat p) with
 |some P => tupOf [pR a P, vb true, vi 0]
 |none => tupOf [pZ, vb false, vi 0]
theorem find_at {f : Pl → Bool} {L : List Pl} {i : Nat} (hi : i < L.length) (h : ∀ j, j < i → f (gP L j) = false) (hf : f (gP L i) = true) : L.find? f = some (gP L i) := by
 rw [List.find?_eq_some_iff_getElem]
 refine ⟨hf, i, hi, (gP_eq hi).symm, fun j hj => ?_⟩
 have := h j hj
 rw [gP_eq (by omega)] at this
 simp [this]
theorem find_no {f : Pl → Bool} {L : List Pl} (h : ∀ j, j < L.length → f (gP L j) = false) : L.find? f = none := by
 rw [List.find?_eq_none]
 intro P hP
 obtain ⟨j, hj, rfl⟩ := List.getElem_of_mem hP
 have := h j hj
 rw [gP_eq hj] at this
 simp [this]
theorem plP_snoc (l : List Tr) (k : Nat) (s : List Nat) {j : Nat} (h : j < s.length) : plP l k (s.take (j + 1)) = plP l k (s.take j) ++ [plc k (gt l (gi s j))] := by
 rw [List.take_succ_eq_append_getElem h, plP, List.map_append, gi_eq h]; rfl
theorem chk_plP {l : List Tr} (hl : RT l) (k : Nat) {s : List Nat} (hs : s.length ≤ 64) : chk (plP l k s) = 0 := by
 unfold chk
 rw [if_neg (by unfold plP; rw [List.length_map]; omega), if_pos]
 rw [List.all_eq_true]
 intro p hp
 obtain ⟨i, _, rfl⟩ := List.mem_map.1 hp
 have h1 := (hl i).cz (ou k)
 have h2 := (hl i).cz (ov k)
 unfold rightB inB plc
 simp only [Bool.and_eq_true, decide_eq_true_eq]
 omega
theorem cand_on {l : List Tr} {k : Nat} (hk : k < 3) {P : Pl} (h : P ∈ candP l k) : P.s = onL l k P.A P.B P.C l.length ∧ 0 < P.s.length := by
 have h1 := (cand_ok l k).2 P |>.1 h
 have h2 := thr_s h1
 obtain ⟨⟨a, b, c⟩, ht, h3⟩ := List.mem_filterMap.1 h1
 rw [tI_eq, mem_tI] at ht
 have h3' : thr l k a b c = some P := h3
 have hs : P.s = onL l k P.A P.B P.C l.length := by
  unfold mkP at h2
  split at h2
  ·cases h2
  ·injection h2 with h2
   rw [← h2]
 refine ⟨hs, ?_⟩
 unfold thr at h3'
 split at h3'
 ·cases h3'
 ·rename_i hz
  unfold mkP at h3'
  split at h3'
  ·cases h3'
  ·injection h3' with h3'
   have h0 : hgt k (aP l k a b c) (bP l k a b c) (cP l k a b c) (gt l a) = 0 := (hgt_sgn hk hz _).2.2 rfl
   have : a ∈ P.s := by
    rw [← h3']
    show a ∈ onL _ _ _ _ _ _
    unfold onL
    rw [List.mem_filter]
    exact ⟨by simp only [List.mem_range]; simp only at ht; omega, by simpa using h0⟩
   exact List.length_pos_of_mem this
theorem cand_len {l : List Tr} (k : Nat) (hn : l.length ≤ 9) : (candP l k).length ≤ 729 := by
 rw [← cpt_cand]
 have h1 : (cptPl (srtP (thrs l k))).length ≤ (srtP (thrs l k)).length := cptToF_len _ _
 have h2 := thrs_len l k
 have h3 : l.length * (l.length * l.length) ≤ 9 * (9 * 9) := Nat.mul_le_mul hn (Nat.mul_le_mul hn hn)
 rw [srtP_len] at h1
 omega
theorem onL_len' (l : List Tr) (k : Nat) (A B C : Rat) (n : Nat) : (onL l k A B C n).length ≤ n := by
 have := List.length_filter_le (fun i => decide (hgt k A B C (gt l i) = 0)) (List.range n)
 simpa [onL] using this
theorem onL_lt' {l : List Tr} {k : Nat} {A B C : Rat} {n i : Nat} (h : i ∈ onL l k A B C n) : i < n := by
 unfold onL at h
 have := (List.mem_filter.1 h).1
 simpa using this
theorem resting_c (l : List Tr) (a : Int) (p : Pt) (hf : fewB l = true) : CtrA Tryz.prog 18 [ts l, vi a, pp p] (restA l a p) := by
 have h1 := given_c l a
 have h2 := pcheck_c [p]
 rw [chk1] at h2
 refine ctrA _ Tryz.func18 rfl rfl Tryz.ntmps18 rfl fun w Z => ?_
 refine zU ?_
 refine wt ?_
 (refine cq_cond rfl ?_ ?_ <;> intro hb <;> (try simp only [zA, zB, zG, zC, zD, zN] at hb) <;> (try (exfalso; omega)))
 ·refine wt ?_
  refine sq_g (g_build (t := 42) (is := []) (xs := []) (vs := []) tb42e rfl rfl) rfl ?_
  refine wt ?_
  exact sq_resN (rvs := [_, _, _]) (τs := [_, _, _]) rfl rfl ⟨.agg (us := [_, _, _, _, _]) rfl rfl rfl rfl, .tmp rfl, .tmp rfl, trivial⟩ (by unfold restA; rw [if_pos hb])
 ·have hg := hb
  obtain ⟨hR, hn6, k, hk, rfl⟩ := few_of hf hg
  refine wt ?_
  cases hrb : rightB p with
  |false =>
   rw [if_neg (by decide)]
   refine wt ?_
   refine sq_g (g_build (t := 42) (is := []) (xs := []) (vs := []) tb42e rfl rfl) rfl ?_
   refine wt ?_
   exact sq_resN (rvs := [_, _, _]) (τs := [_, _, _]) rfl rfl ⟨.agg (us := [_, _, _, _, _]) rfl rfl rfl rfl, .tmp rfl, .tmp rfl, trivial⟩ (by unfold restA; rw [if_neg (fun h => h hg), if_pos hrb])
  |true =>
   rw [if_pos rfl]
   have hcd := cands_c l hR hk zO
   by_cases hE : cndE l k = 0
   ·have hcA : candA l k = tupOf [.sl (candP l k).length 5 (pf5 k (candP l k)), vi 0] := by
     unfold cndE at hE
     rw [if_neg (fun h => h hg), Int.toNat_natCast] at hE
     unfold candA
     split at hE
     ·rename_i h1; exact absurd hE h1
     ·rename_i h1
      rw [if_neg h1]
      split at hE
      ·cases hE
      ·rename_i h2; rw [if_neg h2]
    rw [hcA] at hcd
    have hrA : restA l k p = match (candP l k).find? (bearB l k p) with | some P => tupOf [pR k P, vb true, vi 0] | none => tupOf [pZ, vb false, vi 0] := by
     unfold restA; rw [if_neg (fun h => h hg), if_neg (by rw [hrb]; decide), if_neg (fun h => h hE), Int.toNat_natCast]
    rw [hrA]
    refine wt ?_
    refine cq_loop (γ := Nat) (fun i => [(0, .av (ts l)), (1, .av (vi (k : Int))), (5, .av (bp p)), (6, .own 10 0), (44, .av (.sl (candP l k).length 5 (pf5 k (candP l k)))), (45, .av (vi (candP l k).length)), (46, .av (vi i))])
     (fun _ => [(10, .cells [.av (vi 0), .av (vS []), .av (vS []), .av (vS []), .av (.val (.slice none 0 0))])]) (fun i => i ≤ (candP l k).length ∧ ∀ j, j < i → bearB l k p (gP (candP l k) j) = false) (fun i => (candP l k).length - i) 0 ⟨Nat.zero_le _, by omega⟩
     (ent zS zT) ?_
    have hcl := cand_len k (l := l) zO
    rintro i ⟨hi, hno⟩
    refine wt ?_
    (refine cq_cond rfl ?_ ?_ <;> intro hb <;> (try simp only [zA, zB, zG, zC, zD, zN] at hb) <;> (try (exfalso; omega)))
    ·have hil : i < (candP l k).length := by omega
     obtain ⟨hon, hpos⟩ := cand_on hk (gP_mem hil)
     have hlr := thrs_LR hR hk ((cand_ok l k).2 _ |>.1 (gP_mem hil))
     generalize hP : gP (candP l k) i = P at *
     have hsl : P.s.length ≤ 6 := by
      have := onL_len' l k P.A P.B P.C l.length
      rw [hon]; omega
     have hslt : ∀ j, j < P.s.length → gi P.s j < l.length := fun j hj => by
      have : gi P.s j ∈ onL l k P.A P.B P.C l.length := by rw [← hon]; rw [gi_eq hj]; exact List.getElem_mem hj
      exact onL_lt' this
     refine wt ?_
     have hfe : pf5 k (candP l k) i = pAf k (rtx P.A) (rtx P.B) (rtx P.C) (idx P.s) := by unfold pf5; rw [hP]
     rw [hfe]
     refine sq_g (g_load_aggv rfl rfl) rfl ?_
     refine wt ?_
     refine sq_s (g_store_aggv rfl rfl (pAf_one _ _ _ _ _) rfl rfl) ?_
     refine wt ?_
     refine cq_loop (γ := Nat) (fun j => [(0, .av (ts l)), (1, .av (vi (k : Int))), (5, .av (bp p)), (6, .own 10 0), (44, .av (.sl (candP l k).length 5 (pf5 k (candP l k)))), (45, .av (vi (candP l k).length)), (46, .av (vi i)), (14, .own 11 0), (15, .osl 20), (51, .av (idx P.s)), (52, .av (vi P.s.length)), (53, .av (vi j))])
      (fun j => [(10, .cells [.av (vi 0), .av (vS []), .av (vS []), .av (vS []), .av (.val (.slice none 0 0))]), (11, .cells ((List.range 5).map fun i => SV.av (pAf k (rtx P.A) (rtx P.B) (rtx P.C) (idx P.s) i))), (20, .row 38 2 (plP l k (P.s.take j)).length (pf (plP l k (P.s.take j))))]) (fun j => j ≤ P.s.length) (fun j => P.s.length - j) 0 (Nat.zero_le _)
      ((ent_row (dd := 15) 20 38 2 (pf []) rfl rfl).trans (ent zS zT)) ?_
     intro j hj
     have hpl : (plP l k (P.s.take j)).length ≤ 6 := by unfold plP; rw [List.length_map, List.length_take]; omega
     refine wt ?_
     (refine cq_cond rfl ?_ ?_ <;> intro hb <;> (try simp only [zA, zB, zG, zC, zD, zN] at hb) <;> (try (exfalso; omega)))
     ·have hjl : j < P.s.length := by omega
      have hb1 := hslt j hjl
      have hpc := place_c (gt l (gi P.s j)) hk
      refine wt ?_
      exact sq_round (j + 1) (by omega) (by omega) (ent zS ⟨⟨_, rfl, .refl _⟩, ⟨_, rfl, .refl _⟩, ⟨_, rfl, .row (by rw [plP_snoc l k P.s hjl]) (fun _ _ _ _ => by rw [plP_snoc l k P.s hjl])⟩, trivial⟩)
     ·have hjl : j = P.s.length := by omega
      subst hjl
      rw [List.take_length]
      have hck := chk_plP hR k (s := P.s) zO
      have hle : (plP l k P.s).length = P.s.length := by simp [plP]
      have hlo := loc_c (plP l k P.s) p (fun _ => by omega)
      have hEl : errL (plP l k P.s) p = 0 := by unfold errL; rw [if_neg (fun h => h hck), if_neg (by rw [hrb]; decide), if_neg (by omega)]
      rw [hEl] at hlo
      refine cq_more (ent_freeze 20 rfl) ?_
      refine wt ?_
      (refine cq_cond rfl ?_ ?_ <;> intro hb <;> (try simp only [zA, zB, zG, zC, zD, zN] at hb) <;> (try (exfalso; omega)))
      ·have hbe : bearB l k p P = true := by unfold bearB; exact decide_eq_true hb
       have hfi := find_at (f := bearB l k p) hil hno (by rw [hP]; exact hbe)
       rw [hfi, hP]
       refine wt ?_
       refine sq_g (g_load_own_aggv (f := pAf k (rtx P.A) (rtx P.B) (rtx P.C) (idx P.s)) rfl rfl rfl) rfl ?_
       refine wt ?_
       refine sq_s (g_store_aggv rfl rfl (pAf_one _ _ _ _ _) rfl rfl) ?_
       refine wt ?_
       exact sq_resN (rvs := [_, _, _]) (τs := [_, _, _]) rfl rfl ⟨.aggv (f := pAf k (rtx P.A) (rtx P.B) (rtx P.C) (idx P.s)) rfl rfl rfl, .tmp rfl, .tmp rfl, trivial⟩ rfl
      ·have hbe : bearB l k p P = false := by unfold bearB; rw [decide_eq_false_iff_not]; exact hb
       refine wt ?_
       exact sq_round (i + 1) ⟨by omega, fun j hj => by
        by_cases e : j = i
        ·subst e; rw [hP]; exact hbe
        ·exact hno j zO⟩ zO (ent zS zT)
    ·have hil : i = (candP l k).length := by omega
     subst hil
     rw [find_no hno]
     refine wt ?_
     refine sq_g (g_build (t := 42) (is := []) (xs := []) (vs := []) tb42e rfl rfl) rfl ?_
     refine wt ?_
     exact sq_resN (rvs := [_, _, _]) (τs := [_, _, _]) rfl rfl ⟨.agg (us := [_, _, _, _, _]) rfl rfl rfl rfl, .tmp rfl, .tmp rfl, trivial⟩ rfl
   ·have hrA : restA l k p = tupOf [pZ, vb false, vi (cndE l k)] := by
     unfold restA; rw [if_neg (fun h => h hg), if_neg (by rw [hrb]; decide), if_pos hE]
    have hcA : candA l k = tupOf [.val (.slice none 0 0), vi (cndE l k)] := by
     unfold cndE at hE ⊢
     rw [if_neg (fun h => h hg), Int.toNat_natCast] at hE
     rw [if_neg (fun h => h hg), Int.toNat_natCast]
     unfold candA
     split
     ·rfl
     ·rename_i h1
      rw [if_neg h1] at hE
      split
      ·rfl
      ·rename_i h2; rw [if_neg h2] at hE; exact absurd rfl hE
    rw [hcA] at hcd
    rw [hrA]
    refine wt ?_
    (refine cq_cond rfl ?_ ?_ <;> intro hb <;> (try simp only [zA, zB, zG, zC, zD, zN] at hb) <;> (try (exfalso; omega)))
    refine wt ?_
    refine sq_g (g_build (t := 42) (is := []) (xs := []) (vs := []) tb42e rfl rfl) rfl ?_
    refine wt ?_
    exact sq_resN (rvs := [_, _, _]) (τs := [_, _, _]) rfl rfl ⟨.agg (us := [_, _, _, _, _]) rfl rfl rfl rfl, .tmp rfl, .tmp rfl, trivial⟩ rfl
end Go.Proofs.YtgepmbjmaljgoaaGreatDoor.H
namespace Go.Proofs.YtgepmbjmaljgoaaGreatDoor.H
open Go Go.Vc Go.Na
def RkL : List Tr := [⟨0,0,0⟩, ⟨4,0,0⟩, ⟨0,4,0⟩, ⟨4,4,2⟩]
theorem rk_cand : candP RkL 2 = [⟨-2, Rat.divInt 1 2, Rat.divInt 1 2, [1, 2, 3]⟩, ⟨0, 0, 0, [0, 1, 2]⟩] := by decide +kernel
theorem rt2 : rtx (-2) = [45, 50] := by
 unfold rtx
 rw [if_pos (by decide +kernel)]
 show Lib.itoa (-2) = _
 rw [itoa_neg (by decide)]
 show 45 :: Lib.decDigits 2 = _
 rw [Lib.decDigits]; rfl
theorem rt0 : rtx 0 = [48] := by
 unfold rtx
 rw [if_pos (by decide +kernel)]
 show Lib.itoa 0 = _
 rw [itoa_pos (by decide)]
 show Lib.decDigits 0 = _
 rw [Lib.decDigits]; rfl
theorem d1 : Lib.decDigits 1 = [49] := by rw [Lib.decDigits]; rfl
theorem d2 : Lib.decDigits 2 = [50] := by rw [Lib.decDigits]; rfl
theorem rth : rtx (Rat.divInt 1 2) = [49, 47, 50] := by
 unfold rtx
 rw [if_neg (by decide +kernel)]
 have e1 : (Rat.divInt 1 2).num = 1 := by decide +kernel
 have e2 : (Rat.divInt 1 2).den = 2 := by decide +kernel
 rw [e1, e2, itoa_pos (by decide)]
 show Lib.decDigits 1 ++ 47 :: Lib.decDigits 2 = _
 rw [d1, d2]; rfl
theorem rtp2 : rtx (((0 : Int) : Rat) - (-2)) = [50] := by
 have e0 : (((0 : Int) : Rat) - (-2)) = 2 := by decide +kernel
 rw [e0]
 unfold rtx
 rw [if_pos (by decide +kernel)]
 show Lib.itoa 2 = _
 rw [itoa_pos (by decide)]
 show Lib.decDigits 2 = _
 rw [d2]
theorem rtmh : rtx (-(Rat.divInt 1 2)) = [45, 49, 47, 50] := by
 unfold rtx
 rw [if_neg (by decide +kernel)]
 have e1 : (-(Rat.divInt 1 2)).num = -1 := by decide +kernel
 have e2 : (-(Rat.divInt 1 2)).den = 2 := by decide +kernel
 rw [e1, e2, itoa_neg (by decide)]
 show 45 :: Lib.decDigits 1 ++ 47 :: Lib.decDigits 2 = _
 rw [d1, d2]; rfl
def PA : Pl := ⟨-2, Rat.divInt 1 2, Rat.divInt 1 2, [1, 2, 3]⟩
def PB : Pl := ⟨0, 0, 0, [0, 1, 2]⟩
theorem rk_33 : [PA, PB].find? (bearB RkL 2 ⟨3, 3⟩) = some PA := by decide +kernel
theorem rk_11 : [PA, PB].find? (bearB RkL 2 ⟨1, 1⟩) = some PB := by decide +kernel
theorem rk_giv : givE RkL 2 = 0 := by decide +kernel
theorem rk_chk : chk (plcs RkL 2) = 0 := by decide +kernel
theorem rk_col : collB (plcs RkL 2) = false := by decide +kernel
theorem rk_few : fewB RkL = true := by decide +kernel
end Go.Proofs.YtgepmbjmaljgoaaGreatDoor.H
namespace Go.Proofs.YtgepmbjmaljgoaaGreatDoor.H
open Go Go.Vc Go.RowKit Go.Na
set_option maxHeartbeats 4000000
def eqB (f : Nat → Int) (m : Nat) (g : Nat → Int) (n : Nat) : Bool := decide (m = n) && (List.range m).all fun i => decide (f i = g i)
theorem equal_c (f g : Nat → Int) (m n : Nat) (hm : m ≤ 1000000) : CtrA Tryz.prog 43 [.sl m 1 (fun i _ => vi (f i)), .sl n 1 (fun i _ => vi (g i))] (vb (eqB f m g n)) := by
 refine ctrA _ Tryz.func43 rfl rfl Tryz.ntmps43 rfl fun w Z => ?_
 refine zU ?_
 refine wt ?_
 (refine cq_cond rfl ?_ ?_ <;> intro hb <;> (try simp only [zA, zB, zG, zC, zD, zN] at hb) <;> (try (exfalso; omega)))
 ·refine wt ?_
  exact sq_res1 rfl (.tmp rfl) (congrArg vb (by unfold eqB; rw [decide_eq_false (by omega)]; rfl))
 ·have hmn : m = n := by omega
  subst hmn
  refine wt ?_
  refine cq_loop (γ := Nat) (fun i => [(0, .av (.sl m 1 (fun i _ => vi (f i)))), (1, .av (.sl m 1 (fun i _ => vi (g i)))), (12, .av (vi m)), (13, .av (vi i))]) (fun _ => []) (fun i => i ≤ m ∧ ∀ j, j < i → f j = g j) (fun i => m - i) 0 ⟨Nat.zero_le _, by omega⟩ (ent zS trivial) ?_
  rintro i ⟨hi, he⟩
  refine wt ?_
  (refine cq_cond rfl ?_ ?_ <;> intro hb <;> (try simp only [zA, zB, zG, zC, zD, zN] at hb) <;> (try (exfalso; omega)))
  ·have hil : i < m := by omega
   refine wt ?_
   (refine cq_cond rfl ?_ ?_ <;> intro hb <;> (try simp only [zA, zB, zG, zC, zD, zN] at hb) <;> (try (exfalso; omega)))
   ·refine wt ?_
    exact sq_res1 rfl (.tmp rfl) (congrArg vb (by
     unfold eqB
     have : (List.range m).all (fun i => decide (f i = g i)) = false := by
      rw [List.all_eq_false]
      exact ⟨i, by simpa using hil, by simpa using hb⟩
     rw [this, Bool.and_false]))
   ·refine wt ?_
    exact sq_round (i + 1) ⟨by omega, fun j hj => by
     by_cases e : j = i
     ·subst e; exact hb
     ·exact he j zO⟩ zO (ent zS trivial)
  ·have hil : i = m := by omega
   subst hil
   refine wt ?_
   exact sq_res1 rfl (.tmp rfl) (congrArg vb (by
    unfold eqB
    have : (List.range i).all (fun i => decide (f i = g i)) = true := by
     rw [List.all_eq_true]
     intro j hj
     simpa using he j (by simpa using hj)
    rw [this, decide_eq_true rfl]; rfl))
end Go.Proofs.YtgepmbjmaljgoaaGreatDoor.H
namespace Go.Proofs.YtgepmbjmaljgoaaGreatDoor.H
open Go Go.Vc Go.RowKit
open Go.Na (rtx LR)
set_option maxHeartbeats 4000000
def cR : Nat → Nat → AV := fun i => match i with | 0 => pAf 2 [45, 50] [49, 47, 50] [49, 47, 50] (idx [1, 2, 3]) | 1 => pAf 2 [48] [48] [48] (idx [0, 1, 2]) | _ => pAf 2 [48] [48] [48] (idx [])
theorem cR_eq : pf5 2 [PA, PB] = cR := by
 funext i
 match i with
 |0 =>
  show pAf 2 (rtx (-2)) (rtx (Rat.divInt 1 2)) (rtx (Rat.divInt 1 2)) (idx [1, 2, 3]) = _
  rw [rt2, rth]; rfl
 |1 =>
  show pAf 2 (rtx 0) (rtx 0) (rtx 0) (idx [0, 1, 2]) = _
  rw [rt0]; rfl
 |i + 2 =>
  show pAf 2 (rtx 0) (rtx 0) (rtx 0) (idx []) = _
  rw [rt0]; rfl
theorem rk_cndL : cndL RkL 2 = [PA, PB] := by
 unfold cndL
 rw [if_neg (by rw [rk_giv]; decide), if_neg (fun h => h rk_chk), if_neg (by rw [show ((2 : Int)).toNat = 2 from rfl, rk_col]; decide)]
 exact rk_cand
theorem rk_cndE : cndE RkL 2 = 0 := by
 unfold cndE
 rw [if_neg (by rw [rk_giv]; decide), if_neg (fun h => h rk_chk), if_neg (by rw [show ((2 : Int)).toNat = 2 from rfl, rk_col]; decide)]
theorem rk_cands : CtrA Tryz.prog 13 [ts RkL, vi 2] (tupOf [.sl 2 5 cR, vi 0]) := by
 have h := candidates_c RkL 2 rk_few
 rcases candX_cases RkL 2 with ⟨h1, h2⟩ | ⟨h1, h2⟩
 ·rw [rk_cndL] at h2; cases h2
 ·rw [h1, rk_cndL, rk_cndE, cR_eq] at h
  exact h
theorem rk_rocks : CtrA Tryz.prog 15 [ts RkL, vi 2] (tupOf [vb true, vi 0]) := by
 have h := rocks_c RkL 2 rk_few
 rw [rk_cndL, rk_cndE] at h
 exact h
theorem rest_at (p : Pt) (P : Pl) (hp : rightB p = true) (h : [PA, PB].find? (bearB RkL 2 p) = some P) : CtrA Tryz.prog 18 [ts RkL, vi 2, pp p] (tupOf [pR 2 P, vb true, vi 0]) := by
 have h0 := resting_c RkL 2 p rk_few
 have e : restA RkL 2 p = tupOf [pR 2 P, vb true, vi 0] := by
  unfold restA
  rw [if_neg (fun h => h rk_giv), if_neg (by rw [hp]; decide), if_neg (fun h => h rk_cndE)]
  rw [show candP RkL (2 : Int).toNat = [PA, PB] from rk_cand, show ((2 : Int)).toNat = 2 from rfl, h]
 rw [e] at h0
 exact h0
theorem rk_rest33 : CtrA Tryz.prog 18 [ts RkL, vi 2, pp ⟨3, 3⟩] (tupOf [pA 2 [45, 50] [49, 47, 50] [49, 47, 50] (idx [1, 2, 3]), vb true, vi 0]) := by
 have h := rest_at ⟨3, 3⟩ PA zE rk_33
 rw [show pR 2 PA = pA 2 (rtx (-2)) (rtx (Rat.divInt 1 2)) (rtx (Rat.divInt 1 2)) (idx [1, 2, 3]) from rfl, rt2, rth] at h
 exact h
theorem rk_rest11 : CtrA Tryz.prog 18 [ts RkL, vi 2, pp ⟨1, 1⟩] (tupOf [pA 2 [48] [48] [48] (idx [0, 1, 2]), vb true, vi 0]) := by
 have h := rest_at ⟨1, 1⟩ PB zE rk_11
 rw [show pR 2 PB = pA 2 (rtx 0) (rtx 0) (rtx 0) (idx [0, 1, 2]) from rfl, rt0] at h
 exact h
theorem lr12 : ∀ q : Rat, q.num.natAbs < 10 → q.den < 10 → LR 43 q := fun q h1 h2 => ⟨Go.Na.LI.mono (k := 1) (show q.num.natAbs < 10 ^ 1 by omega) (by decide), Go.Na.LI.mono (k := 1) (show (q.den : Int).natAbs < 10 ^ 1 by omega) (by decide)⟩
theorem rk_tor : CtrA Tryz.prog 24 [pA 2 [45, 50] [49, 47, 50] [49, 47, 50] (idx [1, 2, 3]), vi 0] (tupOf [torV [sv [48], sv [48], sv [50], sv [45, 49, 47, 50], sv [49, 47, 50], sv [48]], vi 0]) := by
 have h := Torsor_ok 2 (by decide) (-2) (Rat.divInt 1 2) (Rat.divInt 1 2) (idx [1, 2, 3]) 0 (by decide) (lr12 _ (by decide +kernel) (by decide +kernel)) (lr12 _ (by decide +kernel) (by decide +kernel)) (lr12 _ (by decide +kernel) (by decide +kernel)) (by rw [rt2]; decide) (by rw [rth]; decide) (by rw [rth]; decide)
 rw [show torC 2 0 (-2) (Rat.divInt 1 2) (Rat.divInt 1 2) = [sv [48], sv [48], sv (rtx (((0 : Int) : Rat) - (-2))), sv (rtx (-(Rat.divInt 1 2))), sv (rtx (Rat.divInt 1 2)), sv [48]] from rfl, rt2, rth, rtp2, rtmh] at h
 exact h
theorem tq22_4 (w : World) : (Instr.buildSlice 22 4 #[(0, .agg #[.int .i64 0, .int .i64 0, .int .i64 0]), (1, .agg #[.int .i64 4, .int .i64 0, .int .i64 0]), (2, .agg #[.int .i64 0, .int .i64 4, .int .i64 0]), (3, .agg #[.int .i64 4, .int .i64 4, .int .i64 2])]).run Tryz.prog w = .ok (.slice (some ⟨w.heap.size, 0, none⟩) 4 4) (w.alloc (.cells #[.int .i64 0, .int .i64 0, .int .i64 0, .int .i64 4, .int .i64 0, .int .i64 0, .int .i64 0, .int .i64 4, .int .i64 0, .int .i64 4, .int .i64 4, .int .i64 2] 51)) := by kernel_rfl
theorem tf4_ok : ∀ i, i < 4 → ∀ j, j < 3 → ∃ u, ([.int .i64 0, .int .i64 0, .int .i64 0, .int .i64 4, .int .i64 0, .int .i64 0, .int .i64 0, .int .i64 4, .int .i64 0, .int .i64 4, .int .i64 4, .int .i64 2] : List Value)[i * 3 + j]? = some u ∧ tf RkL i j = .val u := fun i hi j hj => by
 rcases (by omega : i = 0 ∨ i = 1 ∨ i = 2 ∨ i = 3) with rfl | rfl | rfl | rfl <;> rcases (by omega : j = 0 ∨ j = 1 ∨ j = 2) with rfl | rfl | rfl <;> exact ⟨_, rfl, rfl⟩
theorem tb51_0 (a : Int) : Tryz.prog.built 51 [(0, .int .i64 a)] = some #[.int .i64 a, .int .i64 0, .int .i64 0] := by kernel_rfl
theorem tb51_1 (a : Int) : Tryz.prog.built 51 [(1, .int .i64 a)] = some #[.int .i64 0, .int .i64 a, .int .i64 0] := by kernel_rfl
theorem rocker_c : CtrA Tryz.prog 44 [] (ts RkL) := by
 refine ctrA _ Tryz.func44 rfl rfl Tryz.ntmps44 rfl fun w Z => ?_
 refine zU ?_
 refine wt ?_
 refine sq_g (g_build (t := 51) (is := [0]) (xs := [_]) (vs := [_]) (tb51_0 4) rfl rfl) rfl ?_
 refine wt ?_
 refine sq_g (g_build (t := 51) (is := [1]) (xs := [_]) (vs := [_]) (tb51_1 4) rfl rfl) rfl ?_
 refine wt ?_
 refine sq_g (g_bslice (is := [0, 1, 2, 3]) (xs := [_, _, _, _]) (vs := [_, _, _, _]) (us := [.int .i64 0, .int .i64 0, .int .i64 0, .int .i64 4, .int .i64 0, .int .i64 0, .int .i64 0, .int .i64 4, .int .i64 0, .int .i64 4, .int .i64 4, .int .i64 2]) (row := tf RkL) tq22_4 rfl rfl rfl tf4_ok) rfl ?_
 refine wt ?_
 exact zV
theorem tq40_3 (w : World) : (Instr.buildSlice 40 3 #[(0, .int .i64 1), (1, .int .i64 2), (2, .int .i64 3)]).run Tryz.prog w = .ok (.slice (some ⟨w.heap.size, 0, none⟩) 3 3) (w.alloc (.cells #[.int .i64 1, .int .i64 2, .int .i64 3] 3)) := by kernel_rfl
theorem xf3_ok : ∀ i, i < 3 → ∀ j, j < 1 → ∃ u, ([.int .i64 1, .int .i64 2, .int .i64 3] : List Value)[i * 1 + j]? = some u ∧ xf [1, 2, 3] i j = .val u := fun i hi j hj => by
 obtain rfl : j = 0 := by omega
 rcases (by omega : i = 0 ∨ i = 1 ∨ i = 2) with rfl | rfl | rfl <;> exact ⟨_, rfl, rfl⟩
theorem eq123 : CtrA Tryz.prog 43 [idx [1, 2, 3], .sl 3 1 (xf [1, 2, 3])] (vb true) := by
 have h := equal_c (fun i => ((gi [1, 2, 3] i : Nat) : Int)) (fun i => ((gi [1, 2, 3] i : Nat) : Int)) 3 3 zE
 rw [show eqB (fun i => ((gi [1, 2, 3] i : Nat) : Int)) 3 (fun i => ((gi [1, 2, 3] i : Nat) : Int)) 3 = true by decide] at h
 exact h
theorem eqg59 (x y : Operand) (xs ys : Array Value) (w : World) : (eqGuard .eql 59 x y (.agg xs) (.agg ys)).run Tryz.prog w = .ok () w := by kernel_rfl
theorem eq59c (w : World) : (binOp .eql 59 (.agg #[sv [48], sv [48], sv [50], sv [45, 49, 47, 50], sv [49, 47, 50], sv [48]]) (.agg #[sv [48], sv [48], sv [50], sv [45, 49, 47, 50], sv [49, 47, 50], sv [48]])).run Tryz.prog w = .ok (.bool true) w := by kernel_rfl
theorem awake_c : CtrA Tryz.prog 12 [] (vb true) := by
 have h1 := rocker_c
 have h2 := rk_cands
 have h3 := rk_rocks
 have h4 := rk_rest33
 have h5 := rk_rest11
 have h6 := rk_tor
 have h7 := eq123
 refine ctrA _ Tryz.func12 rfl rfl Tryz.ntmps12 rfl fun w Z => ?_
 refine zU ?_
 refine wt ?_
 refine sq_s (g_store_aggv rfl rfl (pAf_one _ _ _ _ _) rfl rfl) ?_
 refine wt ?_
 refine sq_s (g_store_aggv rfl rfl (pAf_one _ _ _ _ _) rfl rfl) ?_
 refine wt ?_
 rw [show cR (Int.toNat 0) = pAf 2 [45, 50] [49, 47, 50] [49, 47, 50] (idx [1, 2, 3]) from rfl]
 refine sq_g (g_load_aggv rfl rfl) rfl ?_
 refine wt ?_
 rw [show cR (Int.toNat 0) (4 + 0) = idx [1, 2, 3] from rfl]
 refine sq_on (g_bslice (is := [0, 1, 2]) (xs := [_, _, _]) (vs := [_, _, _]) (us := [.int .i64 1, .int .i64 2, .int .i64 3]) (row := xf [1, 2, 3]) tq40_3 rfl rfl rfl xf3_ok) rfl rfl rfl ?_
 refine wt ?_
 refine sq_on (g_load_own_agg (us := [sv [48], sv [48], sv [50], sv [45, 49, 47, 50], sv [49, 47, 50], sv [48]]) rfl rfl rfl rfl) rfl rfl rfl ?_
 refine wt ?_
 refine sq_on (g_build (t := 57) (is := [0, 1, 2]) (xs := [_, _, _]) (vs := [sv [48], sv [48], sv [50]]) (tb57 _ _ _) rfl rfl) rfl rfl rfl ?_
 refine sq_on (g_build (t := 57) (is := [0, 1, 2]) (xs := [_, _, _]) (vs := [sv [45, 49, 47, 50], sv [49, 47, 50], sv [48]]) (tb57 _ _ _) rfl rfl) rfl rfl rfl ?_
 refine sq_on (g_build (t := 59) (is := [0, 1]) (xs := [_, _]) (vs := [.agg #[sv [48], sv [48], sv [50]], .agg #[sv [45, 49, 47, 50], sv [49, 47, 50], sv [48]]]) (tb59 _ _ _ _ _ _) rfl rfl) rfl rfl rfl ?_
 refine sq_on (g_bin rfl rfl (fun w => eqg59 _ _ _ _ w) (fun w => eq59c w)) rfl rfl rfl ?_
 refine wt ?_
 exact zV
end Go.Proofs.YtgepmbjmaljgoaaGreatDoor.H
section
end
section
end
section
end
section
end
namespace Go.Proofs.YtgepmbjmaljgoaaGreatDoor
open Go Go.Vc Go.RowKit Go.ChangeShapes Go.WideShapes Go.ChangeAt Go.Joins
set_option maxRecDepth 100000
theorem laid_mem {P : Program} {w : World} : ∀ {l : List (String × DataW Unit)} {ps : List MemPlace}, DataW.LaidVars P w l ps → ∀ {n : String} {d : DataW Unit}, (n, d) ∈ l →
  ∃ g t cs fuel p, P.globalNamed n = some g ∧ (P.globals[g]?).map (·.type) = some t ∧ w.var? P n = some cs ∧ DataW.trod (fun _ => ()) P w 0 (fun _ => true) false fuel t cs.toList = some (d, p)
 |[], _, _, _, _, hm => by cases hm
 |(n', d') :: r, _, h, n, d, hm => by
  obtain ⟨g, t, cs, fuel, p, q, h1, h2, h3, h4, h5, _⟩ := h
  rcases List.mem_cons.1 hm with e | hm
  ·cases e; exact ⟨g, t, cs, fuel, p, h1, h2, h3, h4⟩
  ·exact laid_mem h5 hm
theorem ints_of {H : Type} {enc : TypeId × Value → H} {P : Program} {W : World} {base : Nat} {spare : Nat → Bool} {held : Bool} {t e : TypeId} {q : IntKind} {n fuel : Nat} {cs : List Value} {d : DataW H} {p : List MemPlace}
  (ht : P.underlying t = some (.array n e)) (he : P.underlying e = some (.int q)) (hc : P.cellsOf e = 1) (hct : P.cellsOf t = n) (h : DataW.trod enc P W base spare held fuel t cs = some (d, p)) :
  ∃ ms : List Int, cs = ms.map (Value.int q) ∧ d = .agg (ms.map fun m => .lit (.int q m)) := by
 obtain ⟨xs, m, _, ex, hl, hxl, hel⟩ := DataW.trod_array ht h
 rw [hct] at hl
 rw [hc] at hel
 have key : ∀ i, i < n → ∃ z : Int, cs[i]? = some (.int q z) ∧ xs[i]? = some (.lit (.int q z), []) := fun i hi => by
  have h0 := hel i hi
  rw [List.getElem?_eq_getElem (by omega)] at h0
  obtain ⟨z, q0, q1, _⟩ := DataW.trod_int he h0
  refine ⟨z, ?_, by rw [List.getElem?_eq_getElem (by omega), q1]⟩
  have : ((cs.drop (i * 1)).take 1)[0]? = some (.int q z) := by rw [q0]; rfl
  simpa [List.getElem?_take, List.getElem?_drop] using this
 let f : Nat → Int := fun i => if h : i < n then (key i h).choose else 0
 have hf : ∀ i, i < n → cs[i]? = some (.int q (f i)) ∧ xs[i]? = some (.lit (.int q (f i)), []) := fun i hi => by
  have := (key i hi).choose_spec
  simpa [f, hi] using this
 refine ⟨(List.range n).map f, ?_, ?_⟩
 ·apply List.ext_getElem?
  intro i
  by_cases hi : i < n
  ·rw [(hf i hi).1]; simp [hi]
  ·rw [List.getElem?_eq_none (by omega), List.getElem?_eq_none (by simp; omega)]
 ·have hx : xs.map (·.1) = ((List.range n).map f).map (fun m => DataW.lit (.int q m)) := by
   apply List.ext_getElem?
   intro i
   by_cases hi : i < n
   ·rw [List.getElem?_map, (hf i hi).2]; simp [hi]
   ·rw [List.getElem?_eq_none (by simp; omega), List.getElem?_eq_none (by simp; omega)]
  have := congrArg Prod.fst ex
  rw [hx] at this
  exact this
end Go.Proofs.YtgepmbjmaljgoaaGreatDoor
