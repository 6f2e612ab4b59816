/- A part of the proof. -/
import Derived.Test.YtgepmbjmaljgoaaGreatDoorCaj
set_option linter.unusedVariables false
set_option linter.unusedSimpArgs false
namespace Go.Proofs.YtgepmbjmaljgoaaGreatDoor.H
open Go Go.Vc Go.RowKit
set_option maxHeartbeats 4000000
theorem arr_ne (l : List Pt) (h : chk l = 0) (h0 : 0 < l.length) : 0 < (arr l).length := by
 have ho : 0 < (ordN l).length := by unfold ordN; rw [if_pos h, ordI, isortR_len]; simpa using h0
 unfold arr
 split
 ·unfold cpt
  match hm : (ordN l).length, ho with
  |m + 1, _ =>
   have key : ∀ m, m + 1 ≤ (ordN l).length → 0 < (cptTo l (ordN l) (m + 1)).length := by
    intro m
    induction m with
    |zero => intro _; simp [cptTo, cptP]
    |succ m ih => intro hm; rw [cptTo_succ]; split
                  · simp
                  · exact ih zO
   exact key m zO
 ·rename_i h2
  have := chain_pos l (cpt l (ordN l)) zO
  simp; omega
theorem arr_len (l : List Pt) : (arr l).length ≤ 2 * l.length := by
 have h1 := ordN_len l
 have h2 := cptTo_len l (ordN l) (ordN l).length
 have h3 := chain_le l (cpt l (ordN l))
 have h4 := chain_le l (cpt l (ordN l)).reverse
 unfold cpt at *
 unfold arr
 split
 ·unfold cpt; omega
 ·simp [cpt] at *; omega
theorem pop_sub {l : List Pt} {i y : Nat} : ∀ st : List Nat, y ∈ pop l i st → y ∈ st
 |[], h => by simp [pop] at h
 |[b], h => by simpa [pop] using h
 |b :: a :: r, h => by
  unfold pop at h
  split at h
  ·exact List.mem_cons_of_mem _ (pop_sub (a :: r) h)
  ·exact h
theorem stk_sub {l : List Pt} {y : Nat} : ∀ (v st : List Nat), y ∈ v.foldl (fun st i => i :: pop l i st) st → y ∈ st ∨ y ∈ v
 |[], st, h => .inl h
 |x :: v, st, h => by
  rw [List.foldl_cons] at h
  rcases stk_sub v _ h with h | h
  ·rcases List.mem_cons.1 h with h | h
   ·exact .inr (by simp [h])
   ·exact .inl (pop_sub st h)
  ·exact .inr (by simp [h])
theorem chain_sub {l : List Pt} {v : List Nat} {y : Nat} (h : y ∈ chain l v) : y ∈ v := by
 unfold chain at h
 rw [List.mem_reverse] at h
 rcases stk_sub v [] (List.mem_of_mem_tail h) with h | h
 ·simp at h
 ·exact h
theorem gi_mem {v : List Nat} {k : Nat} (h : k < v.length) : gi v k ∈ v := by rw [gi_eq h]; exact List.getElem_mem h
theorem arr_lt {l : List Pt} (_h : chk l = 0) : ∀ k, k < (arr l).length → gi (arr l) k < l.length := by
 have b1 : ∀ k, k < (cpt l (ordN l)).length → gi (cpt l (ordN l)) k < l.length := cpt_p (p := fun x => x < l.length) (ordN_lt l) _ (Nat.le_refl _)
 have b2 : ∀ y ∈ cpt l (ordN l), y < l.length := fun y hy => by
  obtain ⟨k, hk, rfl⟩ := List.getElem_of_mem hy
  have := b1 k hk
  rwa [gi_eq hk] at this
 intro k hk
 have hm := gi_mem hk
 revert hm
 generalize gi (arr l) k = y
 intro hm
 unfold arr at hm
 split at hm
 ·exact b2 y hm
 ·rcases List.mem_append.1 hm with h | h
  ·exact b2 y (chain_sub h)
  ·exact b2 y (by simpa using chain_sub h)
theorem chk1 (p : Pt) : chk [p] = if rightB p = true then 0 else 2 := by
 unfold chk
 rw [if_neg (by simp)]
 simp
theorem hright_c (p : Pt) : CtrA Tryz.prog 106 [pp p] (vb (rightB p)) := by
 have h1 := pcheck_c [p]
 refine ctrA _ Tryz.func106 rfl rfl Tryz.ntmps106 rfl fun w Z => ?_
 refine zU ?_
 refine wt ?_
 exact sq_res1 rfl (.tmp rfl) (congrArg vb (show (chk [p] == 0) = rightB p by rw [chk1]; cases rightB p <;> rfl))
def edg (l : List Pt) (v : List Nat) (p : Pt) (k : Nat) : Int := crs (gp l (gi v k)) (gp l (gi v ((k + 1) % v.length))) p
def loc2 (a b p : Pt) : Int := if crs a b p = 0 ∧ dot (sub a p) (sub b p) ≤ 0 then 0 else -1
def locTo (l : List Pt) (v : List Nat) (p : Pt) (m : Nat) : Int := if (List.range m).any (fun k => decide (edg l v p k = 0)) then 0 else 1
def locV (l : List Pt) (p : Pt) : Int :=
 if (arr l).length ≤ 2 then loc2 (gp l (gi (arr l) 0)) (gp l (gi (arr l) ((arr l).length - 1))) p else
 if (List.range (arr l).length).any (fun k => decide (edg l (arr l) p k < 0)) then -1 else locTo l (arr l) p (arr l).length
def errL (l : List Pt) (p : Pt) : Int := if chk l ≠ 0 then chk l else if rightB p = false then 2 else if l.length = 0 then 13 else 0
def locN (l : List Pt) (p : Pt) : Int := if errL l p = 0 then locV l p else 0
theorem locTo_succ (l : List Pt) (v : List Nat) (p : Pt) (m : Nat) : locTo l v p (m + 1) = if edg l v p m = 0 then 0 else locTo l v p m := by
 simp only [locTo, List.range_succ, List.any_append, List.any_cons, List.any_nil, Bool.or_false, Bool.or_eq_true, decide_eq_true_eq]
 split <;> split <;> simp_all
theorem right_sm {p : Pt} (h : rightB p = true) : SmP p := by
 simp [rightB, inB] at h; simp only [SmP, Sm]; omega
theorem loc_c (l : List Pt) (p : Pt) (hs : chk l = 0 → l.length ≤ 19) : CtrA Tryz.prog 51 [pts l, pp p] (tupOf [vi (locN l p), vi (errL l p)]) := by
 refine ctrA _ Tryz.func51 rfl rfl Tryz.ntmps51 rfl fun w Z => ?_
 have hk := pcheck_c l
 have hrc := hright_c p
 refine zU ?_
 refine wt ?_
 (refine cq_cond rfl ?_ ?_ <;> intro hb <;> (try simp only [zA, zB, zG, zC, zD, zN] at hb) <;> (try (exfalso; omega)))
 ·have e1 : errL l p = chk l := by simp [errL, hb]
  have e2 : locN l p = 0 := by simp [locN, e1, hb]
  refine wt ?_
  exact sq_resN (rvs := [_, _]) (τs := [_, _]) rfl rfl ⟨.tmp rfl, .tmp rfl, trivial⟩ (by rw [e1, e2])
 ·have hn1 := hs hb
  have hall := arr_lt hb
  have hn2 := arr_len l
  have hb' := hb
  have sm := chk_smH hb
  refine wt ?_
  (refine cq_cond rfl ?_ ?_ <;> intro hb <;> (try simp only [zA, zB, zG, zC, zD, zN] at hb) <;> (try (exfalso; omega)))
  ·have e1 : errL l p = 2 := by simp [errL, hb', hb]
   have e2 : locN l p = 0 := by simp [locN, e1]
   refine wt ?_
   exact sq_resN (rvs := [_, _]) (τs := [_, _]) rfl rfl ⟨.tmp rfl, .tmp rfl, trivial⟩ (by rw [e1, e2])
  ·have hr := hb
   have sp := right_sm hr
   refine wt ?_
   (refine cq_cond rfl ?_ ?_ <;> intro hb <;> (try simp only [zA, zB, zG, zC, zD, zN] at hb) <;> (try (exfalso; omega)))
   ·have e1 : errL l p = 13 := by simp [errL, hb', hr, show l.length = 0 by omega]
    have e2 : locN l p = 0 := by simp [locN, e1]
    refine wt ?_
    exact sq_resN (rvs := [_, _]) (τs := [_, _]) rfl rfl ⟨.tmp rfl, .tmp rfl, trivial⟩ (by rw [e1, e2])
   ·have e1 : errL l p = 0 := by simp [errL, hb', hr, show l.length ≠ 0 by omega]
    have e2 : locN l p = locV l p := by simp [locN, e1]
    have hne := arr_ne l hb' zO
    have har := (around_c l hn1).ro
    refine wt ?_
    generalize hv : arr l = v at *
    have h0' := hall 0 hne
    have h1' := hall (v.length - 1) zO
    (refine cq_cond rfl ?_ ?_ <;> intro hb <;> (try simp only [zA, zB, zG, zC, zD, zN] at hb) <;> (try (exfalso; omega)))
    ·have e3 : locV l p = loc2 (gp l (gi v 0)) (gp l (gi v (v.length - 1))) p := by rw [locV, hv, if_pos (by omega)]
     have hq1 := sub_bd (sm (gi v 0)) sp
     have hq2 := sub_bd (sm (gi v (v.length - 1))) sp
     have e0 : ((v.length : Int) - 1).toNat = v.length - 1 := by omega
     have c1 := hleft_c (gp l (gi v 0)) (gp l (gi v (v.length - 1))) p (sm _) (sm _) sp
     have c2 := hless_c (gp l (gi v 0)) p (sm _) sp
     have c3 := hless_c (gp l (gi v (v.length - 1))) p (sm _) sp
     have c4 := hdot_c _ _ hq1 hq2
     refine wt ?_
     rw [e0]
     refine wt ?_
     (first | refine sq_split rfl rfl ?_ ?_ | refine dq_split rfl rfl ?_ ?_) <;> intro hb <;> (try simp only [zA, zB, zG, zC, zD, zN] at hb) <;> (try (exfalso; omega))
     ·have hz := hb
      refine wt ?_
      (refine cq_cond rfl ?_ ?_ <;> intro hb <;> (try simp only [zA, zB, zG, zC, zD, zN] at hb) <;> (try (exfalso; omega)))
      ·refine wt ?_
       exact sq_resN (rvs := [_, _]) (τs := [_, _]) rfl rfl ⟨.tmp rfl, .tmp rfl, trivial⟩ (by rw [e1, e2, e3, loc2, if_pos ⟨hz, hb⟩])
      ·refine wt ?_
       exact sq_resN (rvs := [_, _]) (τs := [_, _]) rfl rfl ⟨.tmp rfl, .tmp rfl, trivial⟩ (by rw [e1, e2, e3, loc2, if_neg (fun h => hb h.2)])
     ·have hz := hb
      refine wt ?_
      exact sq_resN (rvs := [_, _]) (τs := [_, _]) rfl rfl ⟨.tmp rfl, .tmp rfl, trivial⟩ (by rw [e1, e2, e3, loc2, if_neg (fun h => hz h.1)])
    ·have hv2 : 2 < v.length := by omega
     refine wt ?_
     refine cq_loop (γ := Nat) (fun k => [(0, .av (pts l)), (3, .av (bp p)), (7, .av (idx v)), (10, .av (vi (locTo l v p k))), (62, .av (idx v)), (63, .av (vi v.length)), (64, .av (vi k))]) (fun _ => []) (fun k => k ≤ v.length ∧ ∀ k', k' < k → decide (edg l v p k' < 0) = false) (fun k => v.length - k) 0 ⟨Nat.zero_le _, by intro i hi; omega⟩ (ent zS trivial) ?_
     rintro k ⟨hk, hallk⟩
     refine wt ?_
     (refine cq_cond rfl ?_ ?_ <;> intro hb <;> (try simp only [zA, zB, zG, zC, zD, zN] at hb) <;> (try (exfalso; omega)))
     ·have hkl : k < v.length := by omega
      have hm : (k + 1) % v.length < v.length := Nat.mod_lt _ hne
      have hg1 := hall k hkl
      have hg2 := hall _ hm
      have hrem : ((k : Int) + 1) % (v.length : Int) = (((k + 1) % v.length : Nat) : Int) := by simp
      have hs := locTo_succ l v p k
      have c1 := hleft_c (gp l (gi v k)) (gp l (gi v ((k + 1) % v.length))) p (sm _) (sm _) sp
      have em : (((k : Int) + 1) % (v.length : Int)).toNat = (k + 1) % v.length := by rw [hrem]; exact Int.toNat_natCast _
      refine wt ?_
      rw [em]
      refine wt ?_
      (refine cq_cond rfl ?_ ?_ <;> intro hb <;> (try simp only [zA, zB, zG, zC, zD, zN] at hb) <;> (try (exfalso; omega)))
      ·have e3 : locV l p = -1 := by rw [locV, hv, if_neg (by omega), if_pos (any_true_of (k := k) hkl (by rw [decide_eq_true_eq]; exact hb))]
       refine wt ?_
       exact sq_resN (rvs := [_, _]) (τs := [_, _]) rfl rfl ⟨.tmp rfl, .tmp rfl, trivial⟩ (by rw [e1, e2, e3])
      ·have hlt : decide (edg l v p k < 0) = false := by rw [decide_eq_false_iff_not]; exact hb
       refine wt ?_
       (refine cq_cond rfl ?_ ?_ <;> intro hb <;> (try simp only [zA, zB, zG, zC, zD, zN] at hb) <;> (try (exfalso; omega)))
       ·have e3 : locTo l v p (k + 1) = 0 := by rw [hs, if_pos (by simpa [edg] using hb)]
        refine wt ?_
        exact sq_round (k + 1) ⟨by omega, plt_step hallk hlt⟩ zO (ent ⟨.refl _, .refl _, .refl _, .int e3.symm, .refl _, .refl _, .int zO, trivial⟩ trivial)
       ·have e3 : locTo l v p (k + 1) = locTo l v p k := by rw [hs, if_neg (by simpa [edg] using hb)]
        refine wt ?_
        exact sq_round (k + 1) ⟨by omega, plt_step hallk hlt⟩ zO (ent ⟨.refl _, .refl _, .refl _, .int e3.symm, .refl _, .refl _, .int zO, trivial⟩ trivial)
     ·have hkl : k = v.length := by omega
      subst hkl
      have e3 : locV l p = locTo l v p v.length := by rw [locV, hv, if_neg (by omega), any_false_of hallk]; simp
      refine wt ?_
      exact sq_resN (rvs := [_, _]) (τs := [_, _]) rfl rfl ⟨.tmp rfl, .tmp rfl, trivial⟩ (by rw [e1, e2, e3])
end Go.Proofs.YtgepmbjmaljgoaaGreatDoor.H
section
namespace Go.Vc
open Go Go.RowKit
section
variable {P : Program} {E : Env} {T T' : Tab} {O O' : Own} {o : Oper} {d : Option Tmp} {ty : TypeId} {pos : String} {af : Array Edge} {g : Option (Nat × Bool)}
theorem g_build_p {t : TypeId} {x y : Operand} {r off : Nat} {u : Value} (ht : ∀ p : Option Addr, P.built t [(0, .pointer p), (1, u)] = some #[.pointer p, u]) (hx : T.ev x = .own r off) (hy : T.ev y = .av (.val u)) :
  GV P E ⟨d, .build t #[(0, x), (1, y)], ty, pos, af, g⟩ T O (.agg [.own r off, .av (.val u)]) [] [] :=
 gv_pure [] fun Z ν a w h _ => by
  obtain ⟨b, hb, hax⟩ := own_ok hx (h x (by simp [Op.operands]))
  have hv := val_ok hy (h y (by simp [Op.operands]))
  have hr := run_build (P := P) w t #[(0, .pointer (some ⟨b, off, none⟩)), (1, u)] #[.pointer (some ⟨b, off, none⟩), u] (by simpa using ht _)
  exact ⟨.agg #[.pointer (some ⟨b, off, none⟩), u], by simp [execOp, hax, hv, hr], [.pointer (some ⟨b, off, none⟩), u], rfl, ⟨b, hb, rfl⟩, rfl, trivial⟩
theorem ga_bslice_p {t e : TypeId} {x y z : Operand} {r o1 o2 o3 : Nat} {u1 u2 u3 : Value} (q : Nat) (hne : Nat.beq r q = false)
  (hb : ∀ (p1 p2 p3 : Option Addr) w, (Instr.buildSlice t 3 #[(0, .agg #[.pointer p1, u1]), (1, .agg #[.pointer p2, u2]), (2, .agg #[.pointer p3, u3])]).run P w = .ok (.slice (some ⟨w.heap.size, 0, none⟩) 3 3) (w.alloc (.cells #[.pointer p1, u1, .pointer p2, u2, .pointer p3, u3] e)))
  (hx : T.ev x = .agg [.own r o1, .av (.val u1)]) (hy : T.ev y = .agg [.own r o2, .av (.val u2)]) (hz : T.ev z = .agg [.own r o3, .av (.val u3)]) (hp : Nat.blt q 1000 = true := by first | rfl | assumption) :
  GA P E ⟨d, .buildSlice t 3 #[(0, x), (1, y), (2, z)], ty, pos, af, g⟩ T O (.osl q) [] q (.srow e 2 3 [.own r o1, .av (.val u1), .own r o2, .av (.val u2), .own r o3, .av (.val u3)]) := by
 have hrq : r ≠ q := fun e => by subst e; simp at hne
 refine ⟨fun T' O' hT hO hf => VStep.freshP (r := q) ⟨by intro c; simp, fun Z ν a w hs => ?_⟩ hf, by intro c; simp⟩
 have hv : ∀ {v : Operand} {oo : Nat} {u : Value}, T.ev v = .agg [.own r oo, .av (.val u)] → v ∈ [x, y, z] → ∃ b, ν r = .pointer (some ⟨b, 0, none⟩) ∧ a.eval v = .agg #[.pointer (some ⟨b, oo, none⟩), u] := by
  intro v oo u hv hm
  have ev := ev_ok hs v
  rw [ev_same (o := ⟨d, .buildSlice t 3 #[(0, x), (1, y), (2, z)], ty, pos, af, g⟩) hT (by simp only [List.mem_cons, List.not_mem_nil, or_false] at hm; rcases hm with rfl | rfl | rfl <;> simp [Op.operands]), hv] at ev
  obtain ⟨vs, h1, h2⟩ := ev
  match vs, h2 with
  |[p, u'], ⟨⟨b, hb1, hb2⟩, h3, _⟩ => exact ⟨b, hb1, by rw [h1, hb2, show u' = u from h3]⟩
 obtain ⟨b, hb0, e1⟩ := hv hx (by simp)
 obtain ⟨b', hb1, e2⟩ := hv hy (by simp)
 obtain ⟨b'', hb2, e3⟩ := hv hz (by simp)
 rw [hb0] at hb1 hb2
 simp only [Value.pointer.injEq, Option.some.injEq, Addr.mk.injEq, and_true] at hb1 hb2
 subst hb1
 subst hb2
 have hr := hb (some ⟨b, o1, none⟩) (some ⟨b, o2, none⟩) (some ⟨b, o3, none⟩) w
 refine wp_value (w' := w.alloc (.cells #[.pointer (some ⟨b, o1, none⟩), u1, .pointer (some ⟨b, o2, none⟩), u2, .pointer (some ⟨b, o3, none⟩), u3] e)) (v := .slice (some ⟨w.heap.size, 0, none⟩) 3 3) (by simp [execOp, e1, e2, e3, hr]) ⟨_, Z, updV ν q _, rfl, hs.newRes q hp _ _ _ rfl (fun hm hk hnz => ?_), (if_pos rfl : updV ν q _ q = _).symm⟩
 have hnu : ∀ v, updV ν q v r = ν r := fun v => if_neg hrq
 refine .inr ⟨w.heap.size, 3, _, rfl, hk, hnz, heap_alloc_new _ _, Nat.le_refl _, by decide, ⟨rfl, rfl⟩, fun i s hs => ?_⟩
 match i, hs with
 |0, hs => simp at hs; subst hs; exact ⟨_, rfl, b, by rw [hnu]; exact hb0, rfl⟩
 |1, hs => simp at hs; subst hs; exact ⟨_, rfl, rfl⟩
 |2, hs => simp at hs; subst hs; exact ⟨_, rfl, b, by rw [hnu]; exact hb0, rfl⟩
 |3, hs => simp at hs; subst hs; exact ⟨_, rfl, rfl⟩
 |4, hs => simp at hs; subst hs; exact ⟨_, rfl, b, by rw [hnu]; exact hb0, rfl⟩
 |5, hs => simp at hs; subst hs; exact ⟨_, rfl, rfl⟩
 |i + 6, hs => simp at hs
theorem g_load_sp {t : TypeId} {x : Operand} {q r o1 n ety i : Nat} {cs : List SV} {u : Value} [ht : AggTy P t 2] (hx : T.ev x = .oel q 2 i 0) (hr : look O q = some (.srow ety 2 n cs)) (h0 : cs[i * 2]? = some (.own r o1)) (h1 : cs[i * 2 + 1]? = some (.av (.val u))) :
  GV P E ⟨d, .load t x, ty, pos, af, g⟩ T O (.agg [.own r o1, .av (.val u)]) [q] [] :=
 gv_pure [q] fun Z ν a w h hO => by
  have := h x (by simp [Op.operands])
  rw [hx] at this
  obtain ⟨b, m, c, hb, hax⟩ := this
  obtain ⟨v0, k0, bb, e0, rfl⟩ := srow_cell (hO q (by simp) _ hr) hb h0
  obtain ⟨v1, k1, e1⟩ := srow_cell (hO q (by simp) _ hr) hb h1
  have e1' : v1 = u := e1
  subst e1'
  have hl := run_loadCells_list (P := P) (w := w) ⟨b, i * 2, none⟩ [.pointer (some ⟨bb, o1, none⟩), v1] (fun j v hj => by
   match j, hj with
   |0, hj => simp at hj; subst hj; rw [add_addr]; exact k0
   |1, hj => simp at hj; subst hj; rw [add_addr]; exact k1
   |j + 2, hj => simp at hj)
  rw [Nat.add_zero] at hax
  exact ⟨.agg #[.pointer (some ⟨bb, o1, none⟩), v1], by simp [execOp, Instr.loadAt, hax, Instr.sureAddr, loadVar, ht.agg w, ht.size w] at hl ⊢; simp [hl], [.pointer (some ⟨bb, o1, none⟩), v1], rfl, ⟨bb, e0, rfl⟩, rfl, trivial⟩
theorem g_store_sp {t : TypeId} {x y : Operand} {r q o1 off : Nat} {cs : List SV} {u : Value} [ht : SizeTy P t 2] (hx : T.ev x = .own r off) (hy : T.ev y = .agg [.own q o1, .av (.val u)]) (h1 : u.oneCell' = true) (hr : look O r = some (.cells cs)) (hfit' : Nat.ble (off + 2) cs.length = true) :
  GV P E ⟨d, .store t x y, ty, pos, af, g⟩ T O (.av .any) [r] [(r, .cells (spl cs off [.own q o1, .av (.val u)]))] := by
 refine ⟨fun T' O' hT hO => ⟨by intro c; simp, fun Z ν a w hs => ?_⟩⟩
 have ex := ev_ok hs x
 rw [ev_same (o := ⟨d, .store t x y, ty, pos, af, g⟩) hT (by simp [Op.operands]), hx] at ex
 have ey := ev_ok hs y
 rw [ev_same (o := ⟨d, .store t x y, ty, pos, af, g⟩) hT (by simp [Op.operands]), hy] at ey
 obtain ⟨b, hb, hax⟩ := ex
 have hfit : off + 2 ≤ cs.length := Nat.le_of_ble_eq_true hfit'
 obtain ⟨vs, e1, e2⟩ := ey
 match vs, e2 with
 |[p, u'], ⟨⟨bb, hb1, hb2⟩, h3, _⟩ =>
  subst hb2
  have h3' : u' = u := h3
  subst h3'
  obtain ⟨w', hst, hsat⟩ := hs.storeOwn (P := P) (ss := [.own q o1, .av (.val u')]) (vs := [.pointer (some ⟨bb, o1, none⟩), u']) (by rw [hO r (by simp)]; exact hr) hb hfit ⟨⟨bb, hb1, rfl⟩, rfl, trivial⟩ (by simpa [Value.oneCell'] using h1)
  unfold Oper.wp
  have hrun : (execOp a.eval ⟨d, .store t x y, ty, pos, af, g⟩).run P w = .ok .skip w' := by
   simp [execOp, Instr.storeAt, hax, Instr.sureAddr, storeVar, ht.run w, e1, Value.cells, hst]
  rw [hrun]
  exact ⟨Go.undef, Z, ν, rfl, hsat, trivial⟩
theorem cq_mid {Q : Exit → Act → World → Prop} {c y : Code} (T' : Tab) (O' : Own) (h : CQ P E (Exit.then (fun a w => Sat E T' O' a w) Q) T O c) (hy : CQ P E Q T' O' y) : CQ P E (Exit.then (y.wpIn (fc E.round) 0 P Q) Q) T O c := by
 refine ⟨fun a w hs => wpIn_mono (h.sq a w hs) ?_⟩
 intro e a' w' hq
 cases e with
 |normal => exact hy.sq a' w' hq
 |exit id => exact hq
 |goto l => exact hq
 |ret => exact hq
 |panic ch => exact hq
 |outgrown => exact hq
end
end Go.Vc
end
