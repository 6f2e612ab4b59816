/- A part of the proof. -/
import Derived.Test.YtgepmbjmaljgoaaGreatDoorBaj
set_option linter.unusedVariables false
set_option linter.unusedSimpArgs false
namespace Go.Proofs.YtgepmbjmaljgoaaGreatDoor.H
open Go Go.Vc Go.RowKit
set_option maxHeartbeats 4000000
theorem nan_c (n : Int) : CtrA Tryz.prog 260 [vi n] (vb false) := by
 refine ctrA _ Tryz.func260 rfl rfl Tryz.ntmps260 rfl fun w Z => ?_
 refine zU ?_
 refine wt ?_
 exact sq_res1 rfl (.tmp rfl) (congrArg vb (by simp))
theorem ccmp_c (a b : Int) : CtrA Tryz.prog 223 [vi a, vi b] (vi (cmpI a b)) := by
 refine ctrA _ Tryz.func223 rfl rfl Tryz.ntmps223 rfl fun w Z => ?_
 refine zU ?_
 have q1 := nan_c a
 have q2 := nan_c b
 refine wt ?_
 (refine cq_cond rfl ?_ ?_ <;> intro hb <;> (try simp only [zA, zB, zG, zC, zD, zN] at hb) <;> (try (exfalso; omega)))
 ·refine wt ?_
  exact sq_res1 rfl (.tmp rfl) (congrArg vi (by simp [cmpI, hb]))
 ·refine wt ?_
  (refine cq_cond rfl ?_ ?_ <;> intro hb <;> (try simp only [zA, zB, zG, zC, zD, zN] at hb) <;> (try (exfalso; omega)))
  ·refine wt ?_
   exact sq_res1 rfl (.tmp rfl) (congrArg vi (by simp [cmpI, hb]; omega))
  ·refine wt ?_
   exact sq_res1 rfl (.tmp rfl) (congrArg vi (by simp [cmpI]; omega))
def ils (a b : Int) : AV := .sl 2 1 (fun i _ => match i with | 0 => vi a | _ => vi b)
theorem tq27_2 (x0 x1 : Int) (w : World) : (Instr.buildSlice 40 2 #[(0, .int .i64 x0), (1, .int .i64 x1)]).run Tryz.prog w = .ok (.slice (some ⟨w.heap.size, 0, none⟩) 2 2) (w.alloc (.cells #[.int .i64 x0, .int .i64 x1] 3)) := by kernel_rfl
theorem ils_row (a b : Int) : ∀ (i : Nat), i < 2 → ∀ (j : Nat), j < 1 → ∃ u, ([Value.int .i64 a, .int .i64 b])[i * 1 + j]? = some u ∧ (match i with | 0 => vi a | _ => vi b) = AV.val u := by
 intro i hi j hj
 obtain rfl : j = 0 := by omega
 match i, hi with
 |0, _ => exact ⟨_, rfl, rfl⟩
 |1, _ => exact ⟨_, rfl, rfl⟩
theorem or_c (a b : Int) : CtrA Tryz.prog 222 [ils a b] (vi (if a = 0 then b else a)) := by
 refine ctrA _ Tryz.func222 rfl rfl Tryz.ntmps222 rfl fun w Z => ?_
 refine zU ?_
 refine wt ?_
 refine cq_loop (γ := Nat) (fun k => [(3, .av (vi 0)), (6, .av (ils a b)), (7, .av (vi 2)), (8, .av (vi k))]) (fun _ => []) (fun k => k ≤ 2 ∧ (0 < k → a = 0) ∧ (1 < k → b = 0)) (fun k => 2 - k) 0 ⟨by omega, by omega, by omega⟩ (ent zS trivial) ?_
 rintro k ⟨hk, h1, h2⟩
 refine wt ?_
 (refine cq_cond rfl ?_ ?_ <;> intro hb <;> (try simp only [zA, zB, zG, zC, zD, zN] at hb) <;> (try (exfalso; omega)))
 ·match k, hk, h1, h2, hb with
  |0, hk, h1, h2, hb =>
   refine wt ?_
   (refine cq_cond rfl ?_ ?_ <;> intro hb <;> (try simp only [zA, zB, zG, zC, zD, zN] at hb) <;> (try (exfalso; omega)))
   ·refine wt ?_
    exact sq_res1 rfl (.tmp rfl) (congrArg vi (by rw [if_neg hb]))
   ·refine wt ?_
    exact sq_round 1 ⟨by omega, by omega, by omega⟩ zO (ent zS trivial)
  |1, hk, h1, h2, hb =>
   refine wt ?_
   (refine cq_cond rfl ?_ ?_ <;> intro hb <;> (try simp only [zA, zB, zG, zC, zD, zN] at hb) <;> (try (exfalso; omega)))
   ·refine wt ?_
    exact sq_res1 rfl (.tmp rfl) (congrArg vi (by rw [if_pos (h1 (by omega))]))
   ·refine wt ?_
    exact sq_round 2 ⟨by omega, by omega, by omega⟩ zO (ent zS trivial)
  |k + 2, hk, h1, h2, hb => exfalso; omega
 ·refine wt ?_
  exact sq_res1 rfl (.tmp rfl) (congrArg vi (by rw [if_pos (h1 (by omega)), h2 (by omega)]))
theorem ordc_c (l : List Pt) (i k : Nat) (hi : i < l.length) (hk : k < l.length) : CtrA Tryz.prog 221 [vi i, vi k, lp l] (vi (ordC l i k)) := by
 refine ctrA _ Tryz.func221 rfl rfl Tryz.ntmps221 rfl fun w Z => ?_
 have q1 := ccmp_c (gp l i).x (gp l k).x
 have q2 := ccmp_c (gp l i).y (gp l k).y
 have q3 := or_c (cmpI (gp l i).x (gp l k).x) (cmpI (gp l i).y (gp l k).y)
 refine zU ?_
 refine wt ?_
 refine dq_g (g_bslice (is := [0, 1]) (xs := [_, _]) (vs := [_, _]) (us := [_, _]) (tq27_2 _ _) rfl rfl rfl (ils_row _ _)) rfl ?_
 refine wt ?_
 exact zV
theorem xf_swp {v : List Nat} {a b : Nat} (ha : a < v.length) (hb : b < v.length) (hab : a ≠ b) : ∀ i, i < v.length → ∀ j, j < 1 → rowSet (rowSet (xf v) a 0 [vi (gi v b)]) b 0 [vi (gi v a)] i j = xf (swp v a b) i j := by
 intro i hi j hj
 obtain rfl : j = 0 := by omega
 unfold rowSet xf
 rw [gi_swp ha hb]
 by_cases h1 : i = b
 ·simp [h1]
 ·by_cases h2 : i = a
  ·simp [h2, hab]
  ·simp [h1, h2]
abbrev ocl (l : List Pt) : AV := .clo 221 1 (fun i => [lp l].getD i .any)
theorem isort_c (l : List Pt) (v : List Nat) (a b : Nat) (hv : ∀ k, k < v.length → gi v k < l.length) (hab : a ≤ b) (hb' : b ≤ v.length) (hn : v.length ≤ 1000) :
  CtrW Tryz.prog 289 [vi a, vi b, ocl l] 3 1 v.length (xf v) v.length (xf (isortR (fun i k => decide (ordC l i k < 0)) a b v (a + 1))) false := by
 refine ctrW _ Tryz.func289 rfl rfl Tryz.ntmps289 rfl fun w Z v0 => ?_
 refine zU ?_
 refine wt ?_
 refine cq_loop (γ := List Nat × Nat) (fun g => [(0, .osl 0), (1, .av (vi a)), (2, .av (vi b)), (3, .av (ocl l)), (8, .av (vi g.2))]) (fun g => [(0, .row 3 1 g.1.length (xf g.1))])
  (fun g => g.1.length = v.length ∧ (∀ k, k < g.1.length → gi g.1 k < l.length) ∧ isortR (fun i k => decide (ordC l i k < 0)) a b g.1 g.2 = isortR (fun i k => decide (ordC l i k < 0)) a b v (a + 1) ∧ a < g.2 ∧ g.2 ≤ b + 1) (fun g => b + 1 - g.2) (v, a + 1) ⟨rfl, hv, rfl, by simp, by simp; omega⟩ (ent ⟨.refl _, .refl _, .refl _, .refl _, .int (by simp), trivial⟩ zT) ?_
 rintro ⟨u, i⟩ ⟨hl, hu, hS, hai, hib⟩
 simp only at hl hu hS hai hib
 refine wt ?_
 (refine cq_cond rfl ?_ ?_ <;> intro hb <;> (try simp only [zA, zB, zG, zC, zD, zN] at hb) <;> (try (exfalso; omega)))
 ·refine wt ?_
  refine cq_loop (γ := List Nat × Nat) (fun g => [(0, .osl 0), (1, .av (vi a)), (2, .av (vi b)), (3, .av (ocl l)), (8, .av (vi i)), (9, .av (vi g.2))]) (fun g => [(0, .row 3 1 g.1.length (xf g.1))])
   (fun g => g.1.length = v.length ∧ (∀ k, k < g.1.length → gi g.1 k < l.length) ∧ sink (fun i k => decide (ordC l i k < 0)) a g.1 g.2 = sink (fun i k => decide (ordC l i k < 0)) a u i ∧ a ≤ g.2 ∧ g.2 < v.length) (fun g => g.2) (u, i) ⟨hl, hu, rfl, by simp; omega, by simp; omega⟩ (ent zS zT) ?_
  rintro ⟨t, j⟩ ⟨htl, htu, htS, haj, hjn⟩
  simp only at htl htu htS haj hjn
  dsimp only
  match j, htS, haj, hjn with
  |0, htS, haj, hjn =>
   refine wt ?_
   exact sq_round (g := (u, i)) (t, i + 1) ⟨htl, htu, (by rw [← hS, isortR_step (v := u) (i := i) (by omega), ← htS]; rfl : isortR (fun i k => decide (ordC l i k < 0)) a b t (i + 1) = _), by simp; omega, by simp; omega⟩ (by simp; omega) (ent ⟨.refl _, .refl _, .refl _, .refl _, .int (by simp), trivial⟩ zT)
  |j + 1, htS, haj, hjn =>
   have q := ordc_c l (gi t (j + 1)) (gi t j) (htu _ zO) (htu _ zO)
   have e0 : (((j + 1 : Nat) : Int) - 1).toNat = j := by omega
   refine wt ?_
   (first | refine sq_split rfl rfl ?_ ?_ | refine dq_split rfl rfl ?_ ?_) <;> intro hb <;> (try simp only [zA, zB, zG, zC, zD, zN] at hb) <;> (try (exfalso; omega))
   ·have haj' := hb
    refine wt ?_
    rw [e0]
    refine wt ?_
    (refine cq_cond rfl ?_ ?_ <;> intro hb <;> (try simp only [zA, zB, zG, zC, zD, zN] at hb) <;> (try (exfalso; omega)))
    ·refine wt ?_
     try rw [e0]
     refine wt ?_
     have e : sink (fun i k => decide (ordC l i k < 0)) a t (j + 1) = sink (fun i k => decide (ordC l i k < 0)) a (swp t (j + 1) j) j := by
      rw [sink, if_pos (by simp [hb]; omega)]
     exact sq_round (g := (t, j + 1)) (swp t (j + 1) j, j) ⟨by rw [swp_len]; exact htl, swp_all (v := t) (i := j + 1) (j := j) (p := fun x => x < l.length) (by omega) (by omega) htu, (e.symm.trans htS), by simp; omega, by simp; omega⟩ (by simp) (ent ⟨.refl _, .refl _, .refl _, .refl _, .refl _, .int (by simp), trivial⟩ ⟨⟨_, rfl, .row (swp_len _ _ _).symm (xf_swp (by omega) (by omega) (by omega))⟩, trivial⟩)
    ·refine wt ?_
     have e : sink (fun i k => decide (ordC l i k < 0)) a t (j + 1) = t := by
      rw [sink, if_neg (by simp [hb])]
     exact sq_round (g := (u, i)) (t, i + 1) ⟨htl, htu, (by rw [← hS, isortR_step (v := u) (i := i) (by omega), ← htS, e] : isortR (fun i k => decide (ordC l i k < 0)) a b t (i + 1) = _), by simp; omega, by simp; omega⟩ (by simp; omega) (ent ⟨.refl _, .refl _, .refl _, .refl _, .int (by simp), trivial⟩ zT)
   ·have e : sink (fun i k => decide (ordC l i k < 0)) a t (j + 1) = t := by
     rw [sink, if_neg (by simp; omega)]
    refine wt ?_
    exact sq_round (g := (u, i)) (t, i + 1) ⟨htl, htu, (by rw [← hS, isortR_step (v := u) (i := i) (by omega), ← htS, e] : isortR (fun i k => decide (ordC l i k < 0)) a b t (i + 1) = _), by simp; omega, by simp; omega⟩ (by simp; omega) (ent ⟨.refl _, .refl _, .refl _, .refl _, .int (by simp), trivial⟩ zT)
 ·refine wt ?_
  exact sq_retW rfl rfl rfl hl (fun _ _ _ _ => by rw [← hS, isortR_end (by omega)])
end Go.Proofs.YtgepmbjmaljgoaaGreatDoor.H
namespace Go.Proofs.YtgepmbjmaljgoaaGreatDoor.H
open Go.Vc
def cptP (l : List Pt) (v : List Nat) (i : Nat) : Bool := decide (i = 0) || decide (gp l (gi v i) ≠ gp l (gi v (i - 1)))
def cptTo (l : List Pt) (v : List Nat) (m : Nat) : List Nat := ((List.range m).filter (cptP l v)).map (gi v)
def cpt (l : List Pt) (v : List Nat) : List Nat := cptTo l v v.length
def pop (l : List Pt) (i : Nat) : List Nat → List Nat
 |b :: a :: r => if crs (gp l a) (gp l b) (gp l i) ≤ 0 then pop l i (a :: r) else b :: a :: r
 |s => s
def stk (l : List Pt) (v : List Nat) : List Nat := v.foldl (fun st i => i :: pop l i st) []
def chain (l : List Pt) (v : List Nat) : List Nat := (stk l v).tail.reverse
theorem cptTo_succ (l : List Pt) (v : List Nat) (m : Nat) : cptTo l v (m + 1) = if cptP l v m = true then cptTo l v m ++ [gi v m] else cptTo l v m := by
 simp only [cptTo, List.range_succ, List.filter_append, List.map_append]
 split <;> rename_i h <;> simp [List.filter, h]
theorem cptTo_len (l : List Pt) (v : List Nat) (m : Nat) : (cptTo l v m).length ≤ m := by
 have := List.length_filter_le (cptP l v) (List.range m)
 simpa [cptTo] using this
theorem gi_take (v : List Nat) (m k : Nat) : gi (v.take m) k = if k < m then gi v k else 0 := by
 simp only [gi, List.getD, List.getElem?_take]
 split <;> rfl
theorem cptTo_all (l : List Pt) (v : List Nat) : ∀ (m : Nat), m ≤ v.length → (∀ i, i < m → cptP l v i = true) → cptTo l v m = v.take m
 |0, _, _ => rfl
 |m + 1, hm, h => by
  rw [cptTo_succ, if_pos (h m (by omega)), cptTo_all l v m (by omega) (fun i hi => h i (by omega)), List.take_succ_eq_append_getElem (by omega), gi_eq (by omega)]
theorem gi_rev_top (b : Nat) (r : List Nat) : gi (b :: r).reverse r.length = b := by
 simp [gi, List.getD]
theorem gi_rev_cons (b : Nat) (r : List Nat) {k : Nat} (h : k < r.length) : gi (b :: r).reverse k = gi r.reverse k := by
 simp only [gi, List.getD, List.reverse_cons]
 rw [List.getElem?_append_left (by simpa using h)]
theorem cpt_short {l : List Pt} {v : List Nat} (h : v.length < 2) : cpt l v = v := by
 rw [cpt, cptTo_all l v _ (Nat.le_refl _) (fun i hi => by simp [cptP, show i = 0 by omega]), List.take_length]
def ordN (l : List Pt) : List Nat := if chk l = 0 then ordI l else []
def arr (l : List Pt) : List Nat := if (cpt l (ordN l)).length < 3 then cpt l (ordN l) else chain l (cpt l (ordN l)) ++ chain l (cpt l (ordN l)).reverse
theorem chk_smH {l : List Pt} (h : chk l = 0) : ∀ i, SmP (gp l i) := by
 refine all_gp (q := SmP) (fun p hp => ?_) SmP_d
 unfold chk at h
 split at h
 ·cases h
 ·split at h
  ·rename_i h2
   have := List.all_eq_true.1 h2 p hp
   simp [rightB, inB] at this
   simp only [SmP, Sm]; omega
  ·cases h
theorem pop_len (l : List Pt) (i : Nat) : ∀ (st : List Nat), 0 < st.length → 0 < (pop l i st).length
 |[], h => by simp at h
 |[x], _ => by simp [pop]
 |b :: a :: r, _ => by
  unfold pop
  split
  ·exact pop_len l i (a :: r) (by simp)
  ·simp
theorem stk_len (l : List Pt) (v : List Nat) (h : 1 < v.length) : 1 < (stk l v).length := by
 match v, h with
 |x :: y :: v, _ =>
  have key : ∀ (v : List Nat) (st : List Nat), 1 < st.length → 1 < (v.foldl (fun st i => i :: pop l i st) st).length := by
   intro v
   induction v with
   |nil => intro st h; exact h
   |cons z v ih => intro st h; exact ih _ (by have := pop_len l z st (by omega); simp; omega)
  unfold stk
  simp only [List.foldl_cons]
  exact key v _ (by have := pop_len l y [x] (by simp); simp [pop])
theorem chain_pos (l : List Pt) (v : List Nat) (h : 1 < v.length) : 0 < (chain l v).length := by
 have := stk_len l v h
 simp [chain]; omega
theorem isortR_all {lt : Nat → Nat → Bool} {a b : Nat} {p : Nat → Prop} : ∀ (m : Nat) {v : List Nat} {i : Nat}, b - i = m → b ≤ v.length → (∀ k, k < v.length → p (gi v k)) → ∀ k, k < (isortR lt a b v i).length → p (gi (isortR lt a b v i) k)
 |0, v, i, hm, hb, h => by rw [isortR_end (by omega)]; exact h
 |m + 1, v, i, hm, hb, h => by
  rw [isortR_step (by omega)]
  exact isortR_all m (by omega) (by rw [sink_len]; omega) (sink_all (by omega) h)
theorem ordN_lt (l : List Pt) : ∀ k, k < (ordN l).length → gi (ordN l) k < l.length := by
 unfold ordN
 split
 ·exact isortR_all (p := fun x => x < l.length) _ rfl (by simp) (fun k hk => by simp at hk; rw [gi_range hk]; exact hk)
 ·intro k hk; simp at hk
theorem ordN_len (l : List Pt) : (ordN l).length ≤ l.length := by
 unfold ordN; split
 ·simp [ordI, isortR_len]
 ·simp
theorem cpt_p {l : List Pt} {v : List Nat} {p : Nat → Prop} (h : ∀ k, k < v.length → p (gi v k)) : ∀ m, m ≤ v.length → ∀ k, k < (cptTo l v m).length → p (gi (cptTo l v m) k)
 |0, _ => fun k hk => by simp [cptTo] at hk
 |m + 1, hm => by
  rw [cptTo_succ]
  split
  ·exact app_all (p := p) (cpt_p h m zO) (h m zO)
  ·exact cpt_p h m zO
theorem rev_p {v : List Nat} {p : Nat → Prop} (h : ∀ k, k < v.length → p (gi v k)) : ∀ k, k < v.reverse.length → p (gi v.reverse k) := by
 intro k hk
 simp at hk
 have h2 : v.length - 1 - k < v.length := by omega
 have e : gi v.reverse k = gi v (v.length - 1 - k) := by simp [gi, List.getD, hk, h2]
 rw [e]; exact h _ h2
theorem pop_le (l : List Pt) (i : Nat) : ∀ (st : List Nat), (pop l i st).length ≤ st.length
 |[] => by simp [pop]
 |[x] => by simp [pop]
 |b :: a :: r => by
  unfold pop
  split
  ·have := pop_le l i (a :: r); simp at this ⊢; omega
  ·simp
theorem stk_le (l : List Pt) (v : List Nat) : (stk l v).length ≤ v.length := by
 have key : ∀ (v : List Nat) (st : List Nat), (v.foldl (fun st i => i :: pop l i st) st).length ≤ st.length + v.length := by
  intro v
  induction v with
  |nil => intro st; simp
  |cons z v ih => intro st; have := ih (z :: pop l z st); have := pop_le l z st; simp at *; omega
 have := key v []
 simpa [stk] using this
theorem chain_le (l : List Pt) (v : List Nat) : (chain l v).length ≤ v.length := by
 have := stk_le l v
 simp [chain]; omega
end Go.Proofs.YtgepmbjmaljgoaaGreatDoor.H
namespace Go.Proofs.YtgepmbjmaljgoaaGreatDoor.H
open Go Go.Vc Go.RowKit
set_option maxHeartbeats 4000000
theorem stable_c (l : List Pt) (v : List Nat) (hv : ∀ k, k < v.length → gi v k < l.length) (hn : v.length ≤ 19) :
  CtrW Tryz.prog 259 [vi v.length, ocl l] 3 1 v.length (xf v) v.length (xf (isortR (fun i k => decide (ordC l i k < 0)) 0 v.length v 1)) false := by
 refine ctrW _ Tryz.func259 rfl rfl Tryz.ntmps259 rfl fun w Z v0 => ?_
 refine zU ?_
 refine wt ?_
 refine cq_loop (γ := Unit) (fun _ => [(0, .osl 0), (1, .av (vi v.length)), (2, .av (ocl l)), (6, .av (vi 20)), (7, .av (vi 0)), (8, .av (vi 20))]) (fun _ => [(0, .row 3 1 v.length (xf v))]) (fun _ => True) (fun _ => 0) () trivial (ent zS zT) ?_
 intro _ _
 refine wt ?_
 (refine cq_cond rfl ?_ ?_ <;> intro hb <;> (try simp only [zA, zB, zG, zC, zD, zN] at hb) <;> (try (exfalso; omega)))
 have hI := isort_c l v 0 v.length hv zO zO zO
 refine wt ?_
 refine sq_v (v_call_w hI rfl rfl rfl) rfl ?_
 refine wt ?_
 refine cq_loop (γ := Unit) (fun _ => [(0, .osl 0), (1, .av (vi v.length)), (6, .av (vi 20))]) (fun _ => [(0, .row 3 1 v.length (xf (isortR (fun i k => decide (ordC l i k < 0)) 0 v.length v 1)))]) (fun _ => True) (fun _ => 0) () trivial (ent zS zT) ?_
 intro _ _
 refine wt ?_
 (refine cq_cond rfl ?_ ?_ <;> intro hb <;> (try simp only [zA, zB, zG, zC, zD, zN] at hb) <;> (try (exfalso; omega)))
 refine wt ?_
 exact sq_retW rfl rfl rfl rfl (fun _ _ _ _ => rfl)
theorem sortStable_c (l : List Pt) (v : List Nat) (hv : ∀ k, k < v.length → gi v k < l.length) (hn : v.length ≤ 19) :
  CtrW Tryz.prog 220 [ocl l] 3 1 v.length (xf v) v.length (xf (isortR (fun i k => decide (ordC l i k < 0)) 0 v.length v 1)) false := by
 refine ctrW _ Tryz.func220 rfl rfl Tryz.ntmps220 rfl fun w Z v0 => ?_
 refine zU ?_
 refine wt ?_
 refine sq_v (v_call_w (stable_c l v hv hn) rfl rfl rfl) rfl ?_
 refine wt ?_
 exact sq_retW rfl rfl rfl rfl (fun _ _ _ _ => rfl)
theorem upTo_zero {n i j : Nat} (hi : i < n) (hj : j < 1) : AV.val ([Value.int .i64 0].getD j undef) = xf (upTo n 0) i j := by
 obtain rfl : j = 0 := by omega
 simp [xf, gi_upTo hi]
theorem zi3 : ∃ inf z, Tryz.prog.info? 3 = some inf ∧ inf.zero = some z ∧ inf.size = 1 ∧ inf.bytes = 8 ∧ z.cells = [Value.int .i64 0].toArray ∧ 0 < 1 :=
 ⟨(Tryz.prog.info? 3).getD default, ((Tryz.prog.info? 3).getD default).zero.getD undef, by kernel_rfl, by kernel_rfl, by kernel_rfl, by kernel_rfl, by kernel_rfl, by decide⟩
theorem order_c (l : List Pt) (hn : l.length ≤ 19) : CtrR Tryz.prog 167 [pts l] 3 1 (ordN l).length (xf (ordN l)) [vi (chk l)] := by
 refine ctrR _ Tryz.func167 rfl rfl Tryz.ntmps167 rfl fun w Z => ?_
 refine zU ?_
 have hpc := pcheck_c l
 refine wt ?_
 (refine cq_cond rfl ?_ ?_ <;> intro hb <;> (try simp only [zA, zB, zG, zC, zD, zN] at hb) <;> (try (exfalso; omega)))
 ·refine wt ?_
  exact sq_retRN_nil rfl rfl (by simp [ordN, hb]) (τs := [vi (chk l)]) ⟨.tmp rfl, trivial⟩ rfl
 ·have hb' : chk l = 0 := hb
  refine wt ?_
  refine sq_v (v_make 0 (n := l.length) (q := .i64) (q' := .i64) (zs := [.int .i64 0]) rfl zi3 rfl rfl rfl rfl (by simp only [maxLen]; omega) (by omega)) rfl ?_
  refine wt ?_
  refine cq_loop (γ := Nat) (fun k => [(1, .av (lp l)), (5, .osl 0), (16, .av (vi l.length)), (17, .av (vi k))]) (fun k => [(0, .row 3 1 l.length (xf (upTo l.length k)))]) (fun k => k ≤ l.length) (fun k => l.length - k) 0 zO (ent zS ⟨⟨_, rfl, .row rfl (fun i hi j hj => upTo_zero hi hj)⟩, trivial⟩) ?_
  intro k hk
  refine wt ?_
  (refine cq_cond rfl ?_ ?_ <;> intro hb <;> (try simp only [zA, zB, zG, zC, zD, zN] at hb) <;> (try (exfalso; omega)))
  ·refine wt ?_
   exact sq_round (k + 1) zO zO (ent zS ⟨⟨_, rfl, .row rfl (fun i hi j hj => by
    obtain rfl : j = 0 := by omega
    simp only [rowSet, xf, gi_upTo hi]
    by_cases h1 : i = k
    ·simp [h1]
    ·simp [h1, show (i < k + 1) = (i < k) from by apply propext; omega])⟩, trivial⟩)
  ·have hkl : k = l.length := by omega
   subst hkl
   have hs := sortStable_c l (upTo l.length l.length) (fun k hk => by rw [upTo_len] at hk; rw [gi_upTo hk]; split <;> omega) (by rw [upTo_len]; exact hn)
   rw [upTo_len] at hs
   refine wt ?_
   refine sq_v (v_call_w hs rfl rfl rfl) rfl ?_
   refine wt ?_
   exact sq_retRN rfl rfl rfl (by simp [ordN, show chk l = 0 from hb', ordI, isortR_len]) (fun _ _ _ _ => by simp [ordN, show chk l = 0 from hb', ordI, upTo_full]) (τs := [vi (chk l)]) ⟨by rw [hb']; exact .tmp rfl, trivial⟩ rfl
theorem eqc_c (l : List Pt) (i k : Nat) (hi : i < l.length) (hk : k < l.length) : CtrA Tryz.prog 169 [vi i, vi k, lp l] (vb (decide (gp l i = gp l k))) := by
 refine ctrA _ Tryz.func169 rfl rfl Tryz.ntmps169 rfl fun w Z => ?_
 refine zU ?_
 refine wt ?_
 exact sq_res1 rfl (.tmp rfl) (congrArg vb (pt_beq _ _))
theorem hleft_l (l : List Pt) (i j k : Nat) (hl : ∀ i, SmP (gp l i)) : CtrA Tryz.prog 108 [pp (gp l i), pp (gp l j), pp (gp l k)] (vi (crs (gp l i) (gp l j) (gp l k))) := hleft_c _ _ _ (hl _) (hl _) (hl _)
theorem chain_c (l : List Pt) (v : List Nat) (hl : ∀ i, SmP (gp l i)) (hv : ∀ k, k < v.length → gi v k < l.length) (h0 : 0 < v.length) (hn : v.length ≤ 1000) : CtrR Tryz.prog 170 [idx v, lp l] 3 1 (chain l v).length (xf (chain l v)) [] := by
 refine ctrR _ Tryz.func170 rfl rfl Tryz.ntmps170 rfl fun w Z => ?_
 refine zU ?_
 refine wt ?_
 refine cq_loop (γ := List Nat × Nat) (fun g => [(1, .av (lp l)), (4, .osl 0), (7, .av (idx v)), (8, .av (vi v.length)), (9, .av (vi g.2))]) (fun g => [(0, .row 3 1 g.1.reverse.length (xf g.1.reverse))])
  (fun g => g.2 ≤ v.length ∧ g.1 = stk l (v.take g.2) ∧ g.1.length ≤ g.2 ∧ (0 < g.2 → 0 < g.1.length) ∧ ∀ x ∈ g.1, x < l.length) (fun g => v.length - g.2) ([], 0) ⟨Nat.zero_le _, rfl, Nat.zero_le _, by simp, by simp⟩ ((ent_row (dd := 4) 0 3 1 (xf []) rfl rfl).trans (ent zS zT)) ?_
 rintro ⟨st, k⟩ ⟨hk, hst, hlen, hpos, hin⟩
 simp only at hk hst hlen hpos hin
 refine wt ?_
 (refine cq_cond rfl ?_ ?_ <;> intro hb <;> (try simp only [zA, zB, zG, zC, zD, zN] at hb) <;> (try (exfalso; omega)))
 ·have hkv : k < v.length := by omega
  have hx := hv k hkv
  refine wt ?_
  refine cq_loop (γ := List Nat) (fun s => [(1, .av (lp l)), (4, .osl 0), (6, .av (vi (gi v k))), (7, .av (idx v)), (8, .av (vi v.length)), (9, .av (vi k))]) (fun s => [(0, .row 3 1 s.reverse.length (xf s.reverse))])
   (fun s => pop l (gi v k) s = pop l (gi v k) st ∧ s.length ≤ k ∧ ∀ x ∈ s, x < l.length) (fun s => s.length) st ⟨rfl, hlen, hin⟩ (ent zS zT) ?_
  rintro s ⟨hs, hsl, hsin⟩
  have key : ∀ s : List Nat, pop l (gi v k) st = s → s.length ≤ k → (∀ x ∈ s, x < l.length) → (gi v k :: s) = stk l (v.take (k + 1)) ∧ (gi v k :: s).length ≤ k + 1 ∧ (0 < k + 1 → 0 < (gi v k :: s).length) ∧ ∀ x ∈ gi v k :: s, x < l.length := by
   intro s h1 h2 h3
   refine ⟨?_, by simp; omega, by simp, fun x hx' => by simp at hx'; rcases hx' with rfl | hx'; exact hx; exact h3 x hx'⟩
   rw [List.take_succ_eq_append_getElem hkv, stk, List.foldl_append, List.foldl_cons, List.foldl_nil, ← stk, ← hst, ← gi_eq hkv, h1]
  match s, hs, hsl, hsin with
  |[], hs, hsl, hsin =>
   have hL0 : ([] : List Nat).reverse.length = 0 := rfl
   refine wt ?_
   exact sq_round (g := (st, k)) (gi v k :: [], k + 1) ⟨by simp; omega, key [] hs.symm hsl hsin⟩ (by simp; omega) (ent ⟨.refl _, .refl _, .refl _, .refl _, .int (by simp), trivial⟩ zT)
  |[x], hs, hsl, hsin =>
   have hL0 : [x].reverse.length = 1 := rfl
   refine wt ?_
   exact sq_round (g := (st, k)) (gi v k :: [x], k + 1) ⟨by simp; omega, key [x] hs.symm hsl hsin⟩ (by simp; omega) (ent ⟨.refl _, .refl _, .refl _, .refl _, .int (by simp), trivial⟩ zT)
  |b :: a :: r, hs, hsl, hsin =>
   have ha := hsin a (by simp)
   have hb2 := hsin b (by simp)
   have hL : (b :: a :: r).length = r.length + 2 := rfl
   have hrl : (b :: a :: r).reverse.length = r.length + 2 := by simp
   have xa : xf (b :: a :: r).reverse r.length 0 = vi a := by
    simp only [xf]; rw [gi_rev_cons b (a :: r) (by simp), gi_rev_top]
   have xb : xf (b :: a :: r).reverse (r.length + 1) 0 = vi b := by
    simp only [xf]; rw [show r.length + 1 = (a :: r).length from rfl, gi_rev_top]
   have ga : gi (b :: a :: r).reverse ((((b :: a :: r).reverse.length : Nat) : Int) - 2).toNat = a := by
    rw [show ((((b :: a :: r).reverse.length : Nat) : Int) - 2).toNat = r.length by omega]
    have := xa; simp only [xf, AV.val.injEq, Value.int.injEq, true_and] at this; omega
   have gb : gi (b :: a :: r).reverse ((((b :: a :: r).reverse.length : Nat) : Int) - 1).toNat = b := by
    rw [show ((((b :: a :: r).reverse.length : Nat) : Int) - 1).toNat = r.length + 1 by omega]
    have := xb; simp only [xf, AV.val.injEq, Value.int.injEq, true_and] at this; omega
   have hq := hleft_l l a b (gi v k) hl
   refine wt ?_
   (first | refine sq_split rfl rfl ?_ ?_ | refine dq_split rfl rfl ?_ ?_) <;> intro hb <;> (try simp only [zA, zB, zG, zC, zD, zN] at hb) <;> (try (exfalso; omega))
   refine wt ?_
   rw [ga]
   refine wt ?_
   rw [gb]
   refine wt ?_
   (refine cq_cond rfl ?_ ?_ <;> intro hb <;> (try simp only [zA, zB, zG, zC, zD, zN] at hb) <;> (try (exfalso; omega)))
   ·refine wt ?_
    refine sq_round (a :: r) ⟨?_, by simp at hsl ⊢; omega, fun x hx' => hsin x (by simp at hx' ⊢; exact .inr hx')⟩ (by simp) (ent zS ⟨⟨_, rfl, .row (by simp only [List.length_reverse, List.length_cons]; omega) (fun i hi j hj => by simp only [xf]; rw [gi_rev_cons b (a :: r) (by simp only [List.length_cons]; omega)])⟩, trivial⟩)
    rw [← hs, pop, if_pos hb]
   ·refine wt ?_
    refine sq_round (g := (st, k)) (gi v k :: b :: a :: r, k + 1) ⟨by simp; omega, key (b :: a :: r) (by rw [← hs, pop, if_neg hb]) hsl hsin⟩ (by simp; omega) (ent ⟨.refl _, .refl _, .refl _, .refl _, .int (by simp), trivial⟩ ⟨⟨_, rfl, .row (by simp) (fun i hi j hj => by simp)⟩, trivial⟩)
 ·have hkv : k = v.length := by omega
  subst hkv
  rw [List.take_length] at hst
  match st, hst, hpos h0 with
  |x :: r, hst, _ =>
   have hL : (x :: r).reverse.length = r.length + 1 := by simp
   have hL2 : (x :: r).length = r.length + 1 := rfl
   dsimp only
   refine wt ?_
   refine sq_retR rfl rfl rfl ?_ (fun i hi j hj => ?_)
   ·show _ = (stk l v).tail.reverse.length
    rw [← hst]; simp only [List.tail_cons, List.length_reverse] at hL ⊢; omega
   ·show xf _ _ _ = xf (stk l v).tail.reverse _ _
    rw [← hst]; simp only [xf, List.tail_cons]
    rw [gi_rev_cons x r (by omega)]
theorem zv3 (w : World) : (zeroValue 3).run Tryz.prog w = .ok (.int .i64 0) w := by kernel_rfl
abbrev ecl (l : List Pt) : AV := .clo 169 1 (fun i => [lp l].getD i .any)
theorem xf_set {u : List Nat} {k y : Nat} (hk : k < u.length) : ∀ i, i < u.length → ∀ j, j < 1 → rowSet (xf u) k 0 [vi y] i j = xf (u.set k y) i j := by
 intro i hi j hj
 obtain rfl : j = 0 := by omega
 unfold rowSet xf
 rw [gi_set]
 by_cases h : i = k
 ·subst h; simp [hk]
 ·have h' : ¬ k = i := fun e => h e.symm
  simp [h, h']
theorem compact_c (l : List Pt) (v : List Nat) (hv : ∀ k, k < v.length → gi v k < l.length) (hn : v.length ≤ 1000) :
  CtrW Tryz.prog 168 [ecl l] 3 1 v.length (xf v) (cpt l v).length (xf (cpt l v)) true := by
 refine ctrW _ Tryz.func168 rfl rfl Tryz.ntmps168 rfl fun w Z v0 => ?_
 refine zU ?_
 refine wt ?_
 (refine cq_cond rfl ?_ ?_ <;> intro hb <;> (try simp only [zA, zB, zG, zC, zD, zN] at hb) <;> (try (exfalso; omega)))
 ·refine wt ?_
  exact sq_retWb rfl rfl rfl (by rw [cpt_short (by omega)]) (fun _ _ _ _ => by rw [cpt_short (by omega)])
 ·refine wt ?_
  refine cq_loop (γ := Nat) (fun k => [(0, .osl 0), (1, .av (ecl l)), (5, .av (vi k))]) (fun _ => [(0, .row 3 1 v.length (xf v))]) (fun k => 1 ≤ k ∧ k ≤ v.length ∧ ∀ i, i < k → cptP l v i = true) (fun k => v.length - k) 1 ⟨by omega, by omega, fun i hi => by simp [cptP, show i = 0 by omega]⟩ (ent ⟨.refl _, .refl _, .int rfl, trivial⟩ zT) ?_
  rintro k ⟨hk1, hkn, hall⟩
  obtain ⟨k', rfl⟩ : ∃ k', k = k' + 1 := ⟨k - 1, by omega⟩
  refine wt ?_
  (refine cq_cond rfl ?_ ?_ <;> intro hb <;> (try simp only [zA, zB, zG, zC, zD, zN] at hb) <;> (try (exfalso; omega)))
  ·have hq := eqc_c l (gi v (k' + 1)) (gi v k') (hv _ zO) (hv _ zO)
   have e0 : (((k' + 1 : Nat) : Int) - 1).toNat = k' := by omega
   refine wt ?_
   rw [e0]
   refine wt ?_
   (refine cq_cond rfl ?_ ?_ <;> intro hb <;> (try simp only [zA, zB, zG, zC, zD, zN] at hb) <;> (try (exfalso; omega)))
   ·have hK : cptP l v (k' + 1) = false := by simp [cptP, hb]
    have h1 : cptTo l v (k' + 1 + 1) = v.take (k' + 1) := by
     rw [cptTo_succ, hK, if_neg (by simp), cptTo_all l v _ (by omega) hall]
    refine wt ?_
    refine cq_loop (γ := List Nat × Nat) (fun g => [(0, .osl 0), (1, .av (ecl l)), (5, .av (vi (cptTo l v (k' + 1 + g.2)).length)), (6, .osx 0 1 (k' + 1) (v.length - (k' + 1))), (7, .av (vi g.2))]) (fun g => [(0, .row 3 1 v.length (xf g.1))])
     (fun g => 1 ≤ g.2 ∧ g.2 ≤ v.length - (k' + 1) ∧ g.1.length = v.length ∧ (cptTo l v (k' + 1 + g.2)).length ≤ k' + g.2 ∧ (∀ i, i < (cptTo l v (k' + 1 + g.2)).length → gi g.1 i = gi (cptTo l v (k' + 1 + g.2)) i) ∧ ∀ i, k' + g.2 ≤ i → gi g.1 i = gi v i) (fun g => v.length - g.2) (v, 1)
     ⟨by simp, by simp; omega, rfl, by simp only [h1]; simp; omega, fun i hi => by simp only [h1] at hi ⊢; rw [gi_take]; simp at hi; rw [if_pos (by omega)], fun i hi => rfl⟩ (ent ⟨.refl _, .refl _, .int (by simp only [h1]; simp; omega), .refl _, .refl _, trivial⟩ zT) ?_
    rintro ⟨u, m⟩ ⟨hm1, hmn, hul, hcl, hu1, hu2⟩
    simp only at hm1 hmn hul hcl hu1 hu2
    obtain ⟨m', rfl⟩ : ∃ m', m = m' + 1 := ⟨m - 1, by omega⟩
    dsimp only
    refine wt ?_
    (refine cq_cond rfl ?_ ?_ <;> intro hb <;> (try simp only [zA, zB, zG, zC, zD, zN] at hb) <;> (try (exfalso; omega)))
    ·have e1 : gi u (k' + 1 + (m' + 1)) = gi v (k' + 1 + (m' + 1)) := hu2 _ zO
     have e2 : gi u (k' + 1 + m') = gi v (k' + 1 + m') := hu2 _ zO
     have e3 : k' + 1 + (m' + 1) - 1 = k' + 1 + m' := by omega
     have b1 : gi u (k' + 1 + (m' + 1)) < l.length := by rw [e1]; exact hv _ (by omega)
     have b2 : gi u (k' + 1 + m') < l.length := by rw [e2]; exact hv _ (by omega)
     have hS := cptTo_succ l v (k' + 1 + (m' + 1))
     have hq := eqc_c l (gi u (k' + 1 + (m' + 1))) (gi u (k' + 1 + m')) b1 b2
     refine wt ?_
     refine dq_g (g_index_osx (k := m') rfl rfl zO zO) rfl ?_
     refine wt ?_
     (refine cq_cond rfl ?_ ?_ <;> intro hb <;> (try simp only [zA, zB, zG, zC, zD, zN] at hb) <;> (try (exfalso; omega)))
     ·have hP : cptP l v (k' + 1 + (m' + 1)) = true := by
       simp only [cptP, e3]; rw [← e1, ← e2]; simp [hb]
      rw [hP, if_pos rfl] at hS
      refine wt ?_
      refine sq_round (g := (u, m' + 1)) (u.set (cptTo l v (k' + 1 + (m' + 1))).length (gi u (k' + 1 + (m' + 1))), m' + 1 + 1) ⟨by simp, by simp; omega, by simp [hul], ?_, ?_, ?_⟩ (by simp; omega) (ent ⟨.refl _, .refl _, .int (by simp only; rw [show k' + 1 + (m' + 1 + 1) = k' + 1 + (m' + 1) + 1 from by omega, hS]; simp), .refl _, .int (by simp), trivial⟩ ⟨⟨_, rfl, .row rfl (fun i hi j hj => xf_set (by omega) i (by omega) j hj)⟩, trivial⟩)
      ·simp only; rw [show k' + 1 + (m' + 1 + 1) = k' + 1 + (m' + 1) + 1 from by omega, hS]; simp; omega
      ·simp only; rw [show k' + 1 + (m' + 1 + 1) = k' + 1 + (m' + 1) + 1 from by omega, hS]
       intro i hi
       rw [gi_set, gi_app]
       simp only [List.length_append, List.length_singleton] at hi
       by_cases h : i = (cptTo l v (k' + 1 + (m' + 1))).length
       ·rw [if_pos ⟨h.symm, by omega⟩, if_neg (by omega), if_pos h, e1]
       ·rw [if_neg (fun e => h e.1.symm), if_pos (by omega)]; exact hu1 i (by omega)
      ·simp only
       intro i hi
       rw [gi_set, if_neg (fun e => by omega)]
       exact hu2 i zO
     ·have hP : cptP l v (k' + 1 + (m' + 1)) = false := by
       simp only [cptP, e3]; rw [← e1, ← e2]; simp [hb]
      rw [hP, if_neg (by simp)] at hS
      refine wt ?_
      refine sq_round (g := (u, m' + 1)) (u, m' + 1 + 1) ⟨by simp, by simp; omega, hul, ?_, ?_, ?_⟩ (by simp; omega) (ent ⟨.refl _, .refl _, .int (by simp only; rw [show k' + 1 + (m' + 1 + 1) = k' + 1 + (m' + 1) + 1 from by omega, hS]), .refl _, .int (by simp), trivial⟩ zT)
      ·simp only; rw [show k' + 1 + (m' + 1 + 1) = k' + 1 + (m' + 1) + 1 from by omega, hS]; omega
      ·simp only; rw [show k' + 1 + (m' + 1 + 1) = k' + 1 + (m' + 1) + 1 from by omega, hS]; exact hu1
      ·simp only; exact fun i hi => hu2 i (by omega)
    ·have hE : k' + 1 + (m' + 1) = v.length := by omega
     have hcE : cptTo l v (k' + 1 + (m' + 1)) = cpt l v := by rw [hE]; rfl
     refine wt ?_
     refine sq_s (g_clear (lo := (cptTo l v (k' + 1 + (m' + 1))).length) zv3 rfl rfl rfl rfl) ?_
     refine wt ?_
     refine sq_retWb rfl rfl rfl (by rw [hcE]) (fun i hi j hj => ?_)
     obtain rfl : j = 0 := by omega
     simp only [rowClr]
     rw [if_neg (by omega)]
     simp only [xf]
     rw [hu1 i (by omega), hcE]
   ·refine wt ?_
    exact sq_round (k' + 1 + 1) ⟨by omega, by omega, plt_step hall (by simp [cptP, hb])⟩ (by omega) (ent ⟨.refl _, .refl _, .int (by simp), trivial⟩ zT)
  ·refine wt ?_
   have e : cpt l v = v := by rw [cpt, cptTo_all l v _ (Nat.le_refl _) (fun i hi => hall i (by omega)), List.take_length]
   exact sq_retWb rfl rfl rfl (by rw [e]) (fun _ _ _ _ => by rw [e])
theorem gi_rev {v : List Nat} {k : Nat} (h : k < v.length) : gi v.reverse k = gi v (v.length - 1 - k) := by
 have h2 : v.length - 1 - k < v.length := by omega
 simp [gi, List.getD, h, h2]
theorem reverse_c (v : List Nat) (hn : v.length ≤ 1000) (h0 : 0 < v.length) : CtrW Tryz.prog 171 [] 3 1 v.length (xf v) v.length (xf v.reverse) false := by
 refine ctrW _ Tryz.func171 rfl rfl Tryz.ntmps171 rfl fun w Z v0 => ?_
 refine zU ?_
 refine wt ?_
 refine cq_loop (γ := List Nat × Nat) (fun g => [(0, .osl 0), (2, .av (vi g.2)), (3, .av (vi ((v.length : Int) - 1 - g.2)))]) (fun g => [(0, .row 3 1 v.length (xf g.1))])
  (fun g => g.1.length = v.length ∧ 2 * g.2 ≤ v.length ∧ ∀ k, k < v.length → gi g.1 k = if k < g.2 ∨ v.length - 1 - g.2 < k then gi v (v.length - 1 - k) else gi v k) (fun g => v.length - g.2) (v, 0)
  ⟨rfl, by simp, fun k hk => by simp only; rw [if_neg (by omega)]⟩ (ent ⟨.refl _, .refl _, .int (by simp), trivial⟩ zT) ?_
 rintro ⟨u, i⟩ ⟨hul, hi2, hu⟩
 simp only at hul hi2 hu
 dsimp only
 refine wt ?_
 (refine cq_cond rfl ?_ ?_ <;> intro hb <;> (try simp only [zA, zB, zG, zC, zD, zN] at hb) <;> (try (exfalso; omega)))
 ·have e0 : ((v.length : Int) - 1 - (i : Int)).toNat = v.length - 1 - i := by omega
  refine wt ?_
  try rw [e0]
  refine wt ?_
  refine sq_round (g := (u, i)) (swp u i (v.length - 1 - i), i + 1) ⟨by simp [swp_len, hul], by simp; omega, fun k hk => ?_⟩ (by simp; omega) (ent ⟨.refl _, .int (by simp), .int (by simp; omega), trivial⟩ ⟨⟨_, rfl, .row rfl (fun a ha b hb => xf_swp (v := u) (by omega) (by omega) (by omega) a (by omega) b hb)⟩, trivial⟩)
  simp only
  rw [gi_swp (by omega) (by omega)]
  by_cases h1 : k = v.length - 1 - i
  ·rw [if_pos h1, if_pos (by omega), hu i (by omega), if_neg (by omega), h1, show v.length - 1 - (v.length - 1 - i) = i from by omega]
  ·by_cases h2 : k = i
   ·rw [if_neg h1, if_pos h2, if_pos (by omega), hu _ (by omega), if_neg (by omega), h2]
   ·rw [if_neg h1, if_neg h2, hu k hk]
    by_cases h3 : k < i ∨ v.length - 1 - i < k
    ·rw [if_pos h3, if_pos (by omega)]
    ·rw [if_neg h3, if_neg (by omega)]
 ·refine wt ?_
  refine sq_retW rfl rfl rfl rfl (fun a ha b hb => ?_)
  obtain rfl : b = 0 := by omega
  simp only [xf]
  rw [hu a ha, gi_rev ha]
  split
  ·rfl
  ·rw [show v.length - 1 - a = a from by omega]
theorem around_c (l : List Pt) (hn : l.length ≤ 19) : CtrR Tryz.prog 107 [pts l] 3 1 (arr l).length (xf (arr l)) [] := by
 refine ctrR _ Tryz.func107 rfl rfl Tryz.ntmps107 rfl fun w Z => ?_
 refine zU ?_
 refine wt ?_
 refine sq_v (v_call_rowN 0 (order_c l hn) rfl rfl) rfl ?_
 refine wt ?_
 (refine cq_cond rfl ?_ ?_ <;> intro hb <;> (try simp only [zA, zB, zG, zC, zD, zN] at hb) <;> (try (exfalso; omega)))
 ·refine wt ?_
  have e : ordN l = [] := by simp [ordN, hb]
  exact sq_retR_nil rfl rfl (by simp [arr, e, cpt, cptTo])
 ·have hcl : (cpt l (ordN l)).length ≤ (ordN l).length := cptTo_len _ _ _
  have h1 : (cpt l (ordN l)).length ≤ 1000 := by have := ordN_len l; omega
  have b1 : ∀ k, k < (cpt l (ordN l)).length → gi (cpt l (ordN l)) k < l.length := cpt_p (p := fun x => x < l.length) (ordN_lt l) _ (Nat.le_refl _)
  have b2 : ∀ k, k < (cpt l (ordN l)).reverse.length → gi (cpt l (ordN l)).reverse k < l.length := rev_p (p := fun x => x < l.length) b1
  have sm := chk_smH hb
  have h9 : (ordN l).length ≤ 1000 := by have := ordN_len l; omega
  have c2 : 0 < (cpt l (ordN l)).length → CtrR Tryz.prog 170 [.sl (cpt l (ordN l)).length 1 (xf (cpt l (ordN l)).reverse), lp l] 3 1 (chain l (cpt l (ordN l)).reverse).length (xf (chain l (cpt l (ordN l)).reverse)) [] := fun h => by
   have := chain_c l (cpt l (ordN l)).reverse sm b2 (by simpa using h) (by simpa using h1)
   rw [idx_eq, List.length_reverse] at this
   exact this
  refine wt ?_
  refine sq_v (v_call_wb (compact_c l (ordN l) (ordN_lt l) h9) rfl rfl rfl) rfl ?_
  refine wt ?_
  (refine cq_cond rfl ?_ ?_ <;> intro hb <;> (try simp only [zA, zB, zG, zC, zD, zN] at hb) <;> (try (exfalso; omega)))
  ·refine wt ?_
   exact sq_retR rfl rfl rfl (by rw [arr, if_pos (by omega)]) (fun _ _ _ _ => by rw [arr, if_pos (by omega)])
  ·refine wt ?_
   refine sq_v (v_callc_row 1 (τs := [_]) (n := 1) (cf := fun i => [lp l].getD i .any) (chain_c l (cpt l (ordN l)) sm b1 zO h1) rfl rfl (fun _ _ _ _ => ⟨_, rfl⟩)) rfl ?_
   refine wt ?_
   refine sq_v (v_call_w (reverse_c (cpt l (ordN l)) h1 zO) rfl rfl rfl) rfl ?_
   refine wt ?_
   refine sq_v (v_callc_row 2 (τs := [_]) (n := 1) (cf := fun i => [lp l].getD i .any) (c2 zO) rfl rfl (fun _ _ _ _ => ⟨_, rfl⟩)) rfl ?_
   refine wt ?_
   have q1 := chain_le l (cpt l (ordN l))
   have q2 := chain_le l (cpt l (ordN l)).reverse
   rw [List.length_reverse] at q2
   have p2 : 0 < (chain l (cpt l (ordN l)).reverse).length := chain_pos _ _ (by simp; omega)
   refine lsq_more (ent_freeze 2 rfl) ?_
   refine sq_v (v_append (h := xf (chain l (cpt l (ordN l)).reverse)) (m := (chain l (cpt l (ordN l)).reverse).length) rfl rfl rfl (fun _ _ _ _ => rfl) p2 (by simp only [maxLen]; omega) (by omega)) rfl ?_
   refine wt ?_
   have e : arr l = chain l (cpt l (ordN l)) ++ chain l (cpt l (ordN l)).reverse := by rw [arr, if_neg (by omega)]
   rw [e]
   refine sq_retR rfl rfl rfl (by rw [List.length_append]) (fun i hi j hj => ?_)
   simp only [rowApp, xf]
   split
   ·rename_i h; simp [gi, List.getD, List.getElem?_append_left h]
   ·rename_i h; simp [gi, List.getD, List.getElem?_append_right (Nat.le_of_not_lt h)]
theorem arr_ne (l : List Pt) (h : chk l = 0) (h0 : 0 < l.length) : 0 < (arr l).length := by
 have ho : 0 < (ordN l).length := by unfold ordN; rw [if_pos h, ordI, isortR_len]; simpa using h0
 unfold arr
 split
 ·unfold cpt
  match hm : (ordN l).length, ho with
  |m + 1, _ =>
   have key : ∀ m, m + 1 ≤ (ordN l).length → 0 < (cptTo l (ordN l) (m + 1)).length := by
    intro m
    induction m with
    |zero => intro _; simp [cptTo, cptP]
    |succ m ih => intro hm; rw [cptTo_succ]; split
                  · simp
                  · exact ih zO
   exact key m zO
 ·rename_i h2
  have := chain_pos l (cpt l (ordN l)) zO
  simp; omega
theorem arr_len (l : List Pt) : (arr l).length ≤ 2 * l.length := by
 have h1 := ordN_len l
 have h2 := cptTo_len l (ordN l) (ordN l).length
 have h3 := chain_le l (cpt l (ordN l))
 have h4 := chain_le l (cpt l (ordN l)).reverse
 unfold cpt at *
 unfold arr
 split
 ·unfold cpt; omega
 ·simp [cpt] at *; omega
theorem pop_sub {l : List Pt} {i y : Nat} : ∀ st : List Nat, y ∈ pop l i st → y ∈ st
 |[], h => by simp [pop] at h
 |[b], h => by simpa [pop] using h
 |b :: a :: r, h => by
  unfold pop at h
  split at h
  ·exact List.mem_cons_of_mem _ (pop_sub (a :: r) h)
  ·exact h
theorem stk_sub {l : List Pt} {y : Nat} : ∀ (v st : List Nat), y ∈ v.foldl (fun st i => i :: pop l i st) st → y ∈ st ∨ y ∈ v
 |[], st, h => .inl h
 |x :: v, st, h => by
  rw [List.foldl_cons] at h
  rcases stk_sub v _ h with h | h
  ·rcases List.mem_cons.1 h with h | h
   ·exact .inr (by simp [h])
   ·exact .inl (pop_sub st h)
  ·exact .inr (by simp [h])
theorem chain_sub {l : List Pt} {v : List Nat} {y : Nat} (h : y ∈ chain l v) : y ∈ v := by
 unfold chain at h
 rw [List.mem_reverse] at h
 rcases stk_sub v [] (List.mem_of_mem_tail h) with h | h
 ·simp at h
 ·exact h
theorem gi_mem {v : List Nat} {k : Nat} (h : k < v.length) : gi v k ∈ v := by rw [gi_eq h]; exact List.getElem_mem h
theorem arr_lt {l : List Pt} (_h : chk l = 0) : ∀ k, k < (arr l).length → gi (arr l) k < l.length := by
 have b1 : ∀ k, k < (cpt l (ordN l)).length → gi (cpt l (ordN l)) k < l.length := cpt_p (p := fun x => x < l.length) (ordN_lt l) _ (Nat.le_refl _)
 have b2 : ∀ y ∈ cpt l (ordN l), y < l.length := fun y hy => by
  obtain ⟨k, hk, rfl⟩ := List.getElem_of_mem hy
  have := b1 k hk
  rwa [gi_eq hk] at this
 intro k hk
 have hm := gi_mem hk
 revert hm
 generalize gi (arr l) k = y
 intro hm
 unfold arr at hm
 split at hm
 ·exact b2 y hm
 ·rcases List.mem_append.1 hm with h | h
  ·exact b2 y (chain_sub h)
  ·exact b2 y (by simpa using chain_sub h)
theorem chk1 (p : Pt) : chk [p] = if rightB p = true then 0 else 2 := by
 unfold chk
 rw [if_neg (by simp)]
 simp
theorem hright_c (p : Pt) : CtrA Tryz.prog 106 [pp p] (vb (rightB p)) := by
 have h1 := pcheck_c [p]
 refine ctrA _ Tryz.func106 rfl rfl Tryz.ntmps106 rfl fun w Z => ?_
 refine zU ?_
 refine wt ?_
 exact sq_res1 rfl (.tmp rfl) (congrArg vb (show (chk [p] == 0) = rightB p by rw [chk1]; cases rightB p <;> rfl))
def edg (l : List Pt) (v : List Nat) (p : Pt) (k : Nat) : Int := crs (gp l (gi v k)) (gp l (gi v ((k + 1) % v.length))) p
def loc2 (a b p : Pt) : Int := if crs a b p = 0 ∧ dot (sub a p) (sub b p) ≤ 0 then 0 else -1
def locTo (l : List Pt) (v : List Nat) (p : Pt) (m : Nat) : Int := if (List.range m).any (fun k => decide (edg l v p k = 0)) then 0 else 1
def locV (l : List Pt) (p : Pt) : Int :=
 if (arr l).length ≤ 2 then loc2 (gp l (gi (arr l) 0)) (gp l (gi (arr l) ((arr l).length - 1))) p else
 if (List.range (arr l).length).any (fun k => decide (edg l (arr l) p k < 0)) then -1 else locTo l (arr l) p (arr l).length
def errL (l : List Pt) (p : Pt) : Int := if chk l ≠ 0 then chk l else if rightB p = false then 2 else if l.length = 0 then 13 else 0
def locN (l : List Pt) (p : Pt) : Int := if errL l p = 0 then locV l p else 0
theorem locTo_succ (l : List Pt) (v : List Nat) (p : Pt) (m : Nat) : locTo l v p (m + 1) = if edg l v p m = 0 then 0 else locTo l v p m := by
 simp only [locTo, List.range_succ, List.any_append, List.any_cons, List.any_nil, Bool.or_false, Bool.or_eq_true, decide_eq_true_eq]
 split <;> split <;> simp_all
theorem right_sm {p : Pt} (h : rightB p = true) : SmP p := by
 simp [rightB, inB] at h; simp only [SmP, Sm]; omega
theorem loc_c (l : List Pt) (p : Pt) (hs : chk l = 0 → l.length ≤ 19) : CtrA Tryz.prog 51 [pts l, pp p] (tupOf [vi (locN l p), vi (errL l p)]) := by
 refine ctrA _ Tryz.func51 rfl rfl Tryz.ntmps51 rfl fun w Z => ?_
 have hk := pcheck_c l
 have hrc := hright_c p
 refine zU ?_
 refine wt ?_
 (refine cq_cond rfl ?_ ?_ <;> intro hb <;> (try simp only [zA, zB, zG, zC, zD, zN] at hb) <;> (try (exfalso; omega)))
 ·have e1 : errL l p = chk l := by simp [errL, hb]
  have e2 : locN l p = 0 := by simp [locN, e1, hb]
  refine wt ?_
  exact sq_resN (rvs := [_, _]) (τs := [_, _]) rfl rfl ⟨.tmp rfl, .tmp rfl, trivial⟩ (by rw [e1, e2])
 ·have hn1 := hs hb
  have hall := arr_lt hb
  have hn2 := arr_len l
  have hb' := hb
  have sm := chk_smH hb
  refine wt ?_
  (refine cq_cond rfl ?_ ?_ <;> intro hb <;> (try simp only [zA, zB, zG, zC, zD, zN] at hb) <;> (try (exfalso; omega)))
  ·have e1 : errL l p = 2 := by simp [errL, hb', hb]
   have e2 : locN l p = 0 := by simp [locN, e1]
   refine wt ?_
   exact sq_resN (rvs := [_, _]) (τs := [_, _]) rfl rfl ⟨.tmp rfl, .tmp rfl, trivial⟩ (by rw [e1, e2])
  ·have hr := hb
   have sp := right_sm hr
   refine wt ?_
   (refine cq_cond rfl ?_ ?_ <;> intro hb <;> (try simp only [zA, zB, zG, zC, zD, zN] at hb) <;> (try (exfalso; omega)))
   ·have e1 : errL l p = 13 := by simp [errL, hb', hr, show l.length = 0 by omega]
    have e2 : locN l p = 0 := by simp [locN, e1]
    refine wt ?_
    exact sq_resN (rvs := [_, _]) (τs := [_, _]) rfl rfl ⟨.tmp rfl, .tmp rfl, trivial⟩ (by rw [e1, e2])
   ·have e1 : errL l p = 0 := by simp [errL, hb', hr, show l.length ≠ 0 by omega]
    have e2 : locN l p = locV l p := by simp [locN, e1]
    have hne := arr_ne l hb' zO
    have har := (around_c l hn1).ro
    refine wt ?_
    generalize hv : arr l = v at *
    have h0' := hall 0 hne
    have h1' := hall (v.length - 1) zO
    (refine cq_cond rfl ?_ ?_ <;> intro hb <;> (try simp only [zA, zB, zG, zC, zD, zN] at hb) <;> (try (exfalso; omega)))
    ·have e3 : locV l p = loc2 (gp l (gi v 0)) (gp l (gi v (v.length - 1))) p := by rw [locV, hv, if_pos (by omega)]
     have hq1 := sub_bd (sm (gi v 0)) sp
     have hq2 := sub_bd (sm (gi v (v.length - 1))) sp
     have e0 : ((v.length : Int) - 1).toNat = v.length - 1 := by omega
     have c1 := hleft_c (gp l (gi v 0)) (gp l (gi v (v.length - 1))) p (sm _) (sm _) sp
     have c2 := hless_c (gp l (gi v 0)) p (sm _) sp
     have c3 := hless_c (gp l (gi v (v.length - 1))) p (sm _) sp
     have c4 := hdot_c _ _ hq1 hq2
     refine wt ?_
     rw [e0]
     refine wt ?_
     (first | refine sq_split rfl rfl ?_ ?_ | refine dq_split rfl rfl ?_ ?_) <;> intro hb <;> (try simp only [zA, zB, zG, zC, zD, zN] at hb) <;> (try (exfalso; omega))
     ·have hz := hb
      refine wt ?_
      (refine cq_cond rfl ?_ ?_ <;> intro hb <;> (try simp only [zA, zB, zG, zC, zD, zN] at hb) <;> (try (exfalso; omega)))
      ·refine wt ?_
       exact sq_resN (rvs := [_, _]) (τs := [_, _]) rfl rfl ⟨.tmp rfl, .tmp rfl, trivial⟩ (by rw [e1, e2, e3, loc2, if_pos ⟨hz, hb⟩])
      ·refine wt ?_
       exact sq_resN (rvs := [_, _]) (τs := [_, _]) rfl rfl ⟨.tmp rfl, .tmp rfl, trivial⟩ (by rw [e1, e2, e3, loc2, if_neg (fun h => hb h.2)])
     ·have hz := hb
      refine wt ?_
      exact sq_resN (rvs := [_, _]) (τs := [_, _]) rfl rfl ⟨.tmp rfl, .tmp rfl, trivial⟩ (by rw [e1, e2, e3, loc2, if_neg (fun h => hz h.1)])
    ·have hv2 : 2 < v.length := by omega
     refine wt ?_
     refine cq_loop (γ := Nat) (fun k => [(0, .av (pts l)), (3, .av (bp p)), (7, .av (idx v)), (10, .av (vi (locTo l v p k))), (62, .av (idx v)), (63, .av (vi v.length)), (64, .av (vi k))]) (fun _ => []) (fun k => k ≤ v.length ∧ ∀ k', k' < k → decide (edg l v p k' < 0) = false) (fun k => v.length - k) 0 ⟨Nat.zero_le _, by intro i hi; omega⟩ (ent zS trivial) ?_
     rintro k ⟨hk, hallk⟩
     refine wt ?_
     (refine cq_cond rfl ?_ ?_ <;> intro hb <;> (try simp only [zA, zB, zG, zC, zD, zN] at hb) <;> (try (exfalso; omega)))
     ·have hkl : k < v.length := by omega
      have hm : (k + 1) % v.length < v.length := Nat.mod_lt _ hne
      have hg1 := hall k hkl
      have hg2 := hall _ hm
      have hrem : ((k : Int) + 1) % (v.length : Int) = (((k + 1) % v.length : Nat) : Int) := by simp
      have hs := locTo_succ l v p k
      have c1 := hleft_c (gp l (gi v k)) (gp l (gi v ((k + 1) % v.length))) p (sm _) (sm _) sp
      have em : (((k : Int) + 1) % (v.length : Int)).toNat = (k + 1) % v.length := by rw [hrem]; exact Int.toNat_natCast _
      refine wt ?_
      rw [em]
      refine wt ?_
      (refine cq_cond rfl ?_ ?_ <;> intro hb <;> (try simp only [zA, zB, zG, zC, zD, zN] at hb) <;> (try (exfalso; omega)))
      ·have e3 : locV l p = -1 := by rw [locV, hv, if_neg (by omega), if_pos (any_true_of (k := k) hkl (by rw [decide_eq_true_eq]; exact hb))]
       refine wt ?_
       exact sq_resN (rvs := [_, _]) (τs := [_, _]) rfl rfl ⟨.tmp rfl, .tmp rfl, trivial⟩ (by rw [e1, e2, e3])
      ·have hlt : decide (edg l v p k < 0) = false := by rw [decide_eq_false_iff_not]; exact hb
       refine wt ?_
       (refine cq_cond rfl ?_ ?_ <;> intro hb <;> (try simp only [zA, zB, zG, zC, zD, zN] at hb) <;> (try (exfalso; omega)))
       ·have e3 : locTo l v p (k + 1) = 0 := by rw [hs, if_pos (by simpa [edg] using hb)]
        refine wt ?_
        exact sq_round (k + 1) ⟨by omega, plt_step hallk hlt⟩ zO (ent ⟨.refl _, .refl _, .refl _, .int e3.symm, .refl _, .refl _, .int zO, trivial⟩ trivial)
       ·have e3 : locTo l v p (k + 1) = locTo l v p k := by rw [hs, if_neg (by simpa [edg] using hb)]
        refine wt ?_
        exact sq_round (k + 1) ⟨by omega, plt_step hallk hlt⟩ zO (ent ⟨.refl _, .refl _, .refl _, .int e3.symm, .refl _, .refl _, .int zO, trivial⟩ trivial)
     ·have hkl : k = v.length := by omega
      subst hkl
      have e3 : locV l p = locTo l v p v.length := by rw [locV, hv, if_neg (by omega), any_false_of hallk]; simp
      refine wt ?_
      exact sq_resN (rvs := [_, _]) (τs := [_, _]) rfl rfl ⟨.tmp rfl, .tmp rfl, trivial⟩ (by rw [e1, e2, e3])
end Go.Proofs.YtgepmbjmaljgoaaGreatDoor.H
section
namespace Go.Vc
open Go Go.RowKit
section
variable {P : Program} {E : Env} {T T' : Tab} {O O' : Own} {o : Oper} {d : Option Tmp} {ty : TypeId} {pos : String} {af : Array Edge} {g : Option (Nat × Bool)}
theorem g_build_p {t : TypeId} {x y : Operand} {r off : Nat} {u : Value} (ht : ∀ p : Option Addr, P.built t [(0, .pointer p), (1, u)] = some #[.pointer p, u]) (hx : T.ev x = .own r off) (hy : T.ev y = .av (.val u)) :
  GV P E ⟨d, .build t #[(0, x), (1, y)], ty, pos, af, g⟩ T O (.agg [.own r off, .av (.val u)]) [] [] :=
 gv_pure [] fun Z ν a w h _ => by
  obtain ⟨b, hb, hax⟩ := own_ok hx (h x (by simp [Op.operands]))
  have hv := val_ok hy (h y (by simp [Op.operands]))
  have hr := run_build (P := P) w t #[(0, .pointer (some ⟨b, off, none⟩)), (1, u)] #[.pointer (some ⟨b, off, none⟩), u] (by simpa using ht _)
  exact ⟨.agg #[.pointer (some ⟨b, off, none⟩), u], by simp [execOp, hax, hv, hr], [.pointer (some ⟨b, off, none⟩), u], rfl, ⟨b, hb, rfl⟩, rfl, trivial⟩
theorem ga_bslice_p {t e : TypeId} {x y z : Operand} {r o1 o2 o3 : Nat} {u1 u2 u3 : Value} (q : Nat) (hne : Nat.beq r q = false)
  (hb : ∀ (p1 p2 p3 : Option Addr) w, (Instr.buildSlice t 3 #[(0, .agg #[.pointer p1, u1]), (1, .agg #[.pointer p2, u2]), (2, .agg #[.pointer p3, u3])]).run P w = .ok (.slice (some ⟨w.heap.size, 0, none⟩) 3 3) (w.alloc (.cells #[.pointer p1, u1, .pointer p2, u2, .pointer p3, u3] e)))
  (hx : T.ev x = .agg [.own r o1, .av (.val u1)]) (hy : T.ev y = .agg [.own r o2, .av (.val u2)]) (hz : T.ev z = .agg [.own r o3, .av (.val u3)]) (hp : Nat.blt q 1000 = true := by first | rfl | assumption) :
  GA P E ⟨d, .buildSlice t 3 #[(0, x), (1, y), (2, z)], ty, pos, af, g⟩ T O (.osl q) [] q (.srow e 2 3 [.own r o1, .av (.val u1), .own r o2, .av (.val u2), .own r o3, .av (.val u3)]) := by
 have hrq : r ≠ q := fun e => by subst e; simp at hne
 refine ⟨fun T' O' hT hO hf => VStep.freshP (r := q) ⟨by intro c; simp, fun Z ν a w hs => ?_⟩ hf, by intro c; simp⟩
 have hv : ∀ {v : Operand} {oo : Nat} {u : Value}, T.ev v = .agg [.own r oo, .av (.val u)] → v ∈ [x, y, z] → ∃ b, ν r = .pointer (some ⟨b, 0, none⟩) ∧ a.eval v = .agg #[.pointer (some ⟨b, oo, none⟩), u] := by
  intro v oo u hv hm
  have ev := ev_ok hs v
  rw [ev_same (o := ⟨d, .buildSlice t 3 #[(0, x), (1, y), (2, z)], ty, pos, af, g⟩) hT (by simp only [List.mem_cons, List.not_mem_nil, or_false] at hm; rcases hm with rfl | rfl | rfl <;> simp [Op.operands]), hv] at ev
  obtain ⟨vs, h1, h2⟩ := ev
  match vs, h2 with
  |[p, u'], ⟨⟨b, hb1, hb2⟩, h3, _⟩ => exact ⟨b, hb1, by rw [h1, hb2, show u' = u from h3]⟩
 obtain ⟨b, hb0, e1⟩ := hv hx (by simp)
 obtain ⟨b', hb1, e2⟩ := hv hy (by simp)
 obtain ⟨b'', hb2, e3⟩ := hv hz (by simp)
 rw [hb0] at hb1 hb2
 simp only [Value.pointer.injEq, Option.some.injEq, Addr.mk.injEq, and_true] at hb1 hb2
 subst hb1
 subst hb2
 have hr := hb (some ⟨b, o1, none⟩) (some ⟨b, o2, none⟩) (some ⟨b, o3, none⟩) w
 refine wp_value (w' := w.alloc (.cells #[.pointer (some ⟨b, o1, none⟩), u1, .pointer (some ⟨b, o2, none⟩), u2, .pointer (some ⟨b, o3, none⟩), u3] e)) (v := .slice (some ⟨w.heap.size, 0, none⟩) 3 3) (by simp [execOp, e1, e2, e3, hr]) ⟨_, Z, updV ν q _, rfl, hs.newRes q hp _ _ _ rfl (fun hm hk hnz => ?_), (if_pos rfl : updV ν q _ q = _).symm⟩
 have hnu : ∀ v, updV ν q v r = ν r := fun v => if_neg hrq
 refine .inr ⟨w.heap.size, 3, _, rfl, hk, hnz, heap_alloc_new _ _, Nat.le_refl _, by decide, ⟨rfl, rfl⟩, fun i s hs => ?_⟩
 match i, hs with
 |0, hs => simp at hs; subst hs; exact ⟨_, rfl, b, by rw [hnu]; exact hb0, rfl⟩
 |1, hs => simp at hs; subst hs; exact ⟨_, rfl, rfl⟩
 |2, hs => simp at hs; subst hs; exact ⟨_, rfl, b, by rw [hnu]; exact hb0, rfl⟩
 |3, hs => simp at hs; subst hs; exact ⟨_, rfl, rfl⟩
 |4, hs => simp at hs; subst hs; exact ⟨_, rfl, b, by rw [hnu]; exact hb0, rfl⟩
 |5, hs => simp at hs; subst hs; exact ⟨_, rfl, rfl⟩
 |i + 6, hs => simp at hs
theorem g_load_sp {t : TypeId} {x : Operand} {q r o1 n ety i : Nat} {cs : List SV} {u : Value} [ht : AggTy P t 2] (hx : T.ev x = .oel q 2 i 0) (hr : look O q = some (.srow ety 2 n cs)) (h0 : cs[i * 2]? = some (.own r o1)) (h1 : cs[i * 2 + 1]? = some (.av (.val u))) :
  GV P E ⟨d, .load t x, ty, pos, af, g⟩ T O (.agg [.own r o1, .av (.val u)]) [q] [] :=
 gv_pure [q] fun Z ν a w h hO => by
  have := h x (by simp [Op.operands])
  rw [hx] at this
  obtain ⟨b, m, c, hb, hax⟩ := this
  obtain ⟨v0, k0, bb, e0, rfl⟩ := srow_cell (hO q (by simp) _ hr) hb h0
  obtain ⟨v1, k1, e1⟩ := srow_cell (hO q (by simp) _ hr) hb h1
  have e1' : v1 = u := e1
  subst e1'
  have hl := run_loadCells_list (P := P) (w := w) ⟨b, i * 2, none⟩ [.pointer (some ⟨bb, o1, none⟩), v1] (fun j v hj => by
   match j, hj with
   |0, hj => simp at hj; subst hj; rw [add_addr]; exact k0
   |1, hj => simp at hj; subst hj; rw [add_addr]; exact k1
   |j + 2, hj => simp at hj)
  rw [Nat.add_zero] at hax
  exact ⟨.agg #[.pointer (some ⟨bb, o1, none⟩), v1], by simp [execOp, Instr.loadAt, hax, Instr.sureAddr, loadVar, ht.agg w, ht.size w] at hl ⊢; simp [hl], [.pointer (some ⟨bb, o1, none⟩), v1], rfl, ⟨bb, e0, rfl⟩, rfl, trivial⟩
theorem g_store_sp {t : TypeId} {x y : Operand} {r q o1 off : Nat} {cs : List SV} {u : Value} [ht : SizeTy P t 2] (hx : T.ev x = .own r off) (hy : T.ev y = .agg [.own q o1, .av (.val u)]) (h1 : u.oneCell' = true) (hr : look O r = some (.cells cs)) (hfit' : Nat.ble (off + 2) cs.length = true) :
  GV P E ⟨d, .store t x y, ty, pos, af, g⟩ T O (.av .any) [r] [(r, .cells (spl cs off [.own q o1, .av (.val u)]))] := by
 refine ⟨fun T' O' hT hO => ⟨by intro c; simp, fun Z ν a w hs => ?_⟩⟩
 have ex := ev_ok hs x
 rw [ev_same (o := ⟨d, .store t x y, ty, pos, af, g⟩) hT (by simp [Op.operands]), hx] at ex
 have ey := ev_ok hs y
 rw [ev_same (o := ⟨d, .store t x y, ty, pos, af, g⟩) hT (by simp [Op.operands]), hy] at ey
 obtain ⟨b, hb, hax⟩ := ex
 have hfit : off + 2 ≤ cs.length := Nat.le_of_ble_eq_true hfit'
 obtain ⟨vs, e1, e2⟩ := ey
 match vs, e2 with
 |[p, u'], ⟨⟨bb, hb1, hb2⟩, h3, _⟩ =>
  subst hb2
  have h3' : u' = u := h3
  subst h3'
  obtain ⟨w', hst, hsat⟩ := hs.storeOwn (P := P) (ss := [.own q o1, .av (.val u')]) (vs := [.pointer (some ⟨bb, o1, none⟩), u']) (by rw [hO r (by simp)]; exact hr) hb hfit ⟨⟨bb, hb1, rfl⟩, rfl, trivial⟩ (by simpa [Value.oneCell'] using h1)
  unfold Oper.wp
  have hrun : (execOp a.eval ⟨d, .store t x y, ty, pos, af, g⟩).run P w = .ok .skip w' := by
   simp [execOp, Instr.storeAt, hax, Instr.sureAddr, storeVar, ht.run w, e1, Value.cells, hst]
  rw [hrun]
  exact ⟨Go.undef, Z, ν, rfl, hsat, trivial⟩
theorem cq_mid {Q : Exit → Act → World → Prop} {c y : Code} (T' : Tab) (O' : Own) (h : CQ P E (Exit.then (fun a w => Sat E T' O' a w) Q) T O c) (hy : CQ P E Q T' O' y) : CQ P E (Exit.then (y.wpIn (fc E.round) 0 P Q) Q) T O c := by
 refine ⟨fun a w hs => wpIn_mono (h.sq a w hs) ?_⟩
 intro e a' w' hq
 cases e with
 |normal => exact hy.sq a' w' hq
 |exit id => exact hq
 |goto l => exact hq
 |ret => exact hq
 |panic ch => exact hq
 |outgrown => exact hq
end
end Go.Vc
end
