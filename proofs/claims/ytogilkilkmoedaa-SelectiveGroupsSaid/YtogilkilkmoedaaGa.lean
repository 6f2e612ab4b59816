/- A part of the proof that the law returns true at every input and that the input reads behind the call as it read before; this part states nothing of its own that needs a condition of the input. -/
import Derived.Test.YtogilkilkmoedaaChecked
import Derived.Maps.OwnRows
import Derived.Maps.AppendAt
import Derived.Maps.OwnOps
import Derived.Maps.Views
import Derived.WalkKit
import Derived.OwnWalk
import Derived.Maps.OwnIn
import Derived.Deep.RegionLaw
import Derived.Sort.OwnSorted
import Derived.Test.YtogilkilkmoedaaX
import Derived.Test.YtogilkilkmoedaaP
import Derived.Test.YtogilkilkmoedaaSh
import Derived.Test.YtogilkilkmoedaaSa
set_option linter.unusedVariables false
set_option linter.unusedSimpArgs false
/-! The groups of sizes: the walk of the function that makes the map. -/
namespace Go.Proofs.Ytogilkilkmoedaa
open Go Go.RowKit Go.Maps
open Go.ChangeShapes (lits)
theorem law3 : Keyed Try.prog 3 := int_keyed Try.underlying3
theorem zero22 (w : World) : (zeroValue 22).run Try.prog w = .ok (.slice none 0 0) w := by kernel_rfl
theorem infz3 : (Try.prog.info? 3).map (fun i => (i.zero, i.size, i.bytes)) = some (some (.int .i64 0), 1, 8) := by kernel_rfl
/-- The indices below k of the sizes whose quotient is a. -/
def idx (l : List Int) (w : Int) (k : Nat) (a : Int) : List Int := ((List.range k).filter (fun i => gz l i / w == a)).map (fun i : Nat => (i : Int))
def dat (zs : List Int) : DataW Unit := if zs = [] then .nil else .slice (lits .i64 zs) []
def gd (l : List Int) (w : Int) : Nat → DataW Unit
  | 0 => .map []
  | k + 1 => (gd l w k).put (.int .i64 (gz l k / w)) (dat (idx l w (k + 1) (gz l k / w)))
theorem idx_succ (l : List Int) (w : Int) (k : Nat) (a : Int) : idx l w (k + 1) a = if gz l k / w = a then idx l w k a ++ [(k : Int)] else idx l w k a := by
  unfold idx
  rw [List.range_succ, List.filter_append, List.map_append]
  split
  · rename_i h; simp [h]
  · rename_i h; simp [h]
set_option maxRecDepth 100000 in
theorem grouped_none (a : Option Addr) (cap : Nat) (width : Int) (w : World) :
    Calls Try.prog 47 #[.slice a 0 cap, .int .i64 width] w fun e w' => e = .returned (.map (some w.heap.size)) ∧ w'.ownsGroups Try.prog 3 (w.heap.size + 1) 3 .i64 w.heap.size 0 (gd [] width 0) ∧ Below w.heap.size w w' := by
  have hmm := @run_makeMap Try.prog
  go_enter Try.func47, Try.ntmps47
  go_wp2
  refine wp_loop_rounds 1 ?_
  rw [rounds_succ]
  go_wp2
  go_ret
  exact ⟨rfl, World.ownsGroups_made _ _ _ _ _, (Below.refl _ _).alloc (Nat.le_refl _) _⟩
theorem lits_inj {a b : List Int} (h : (lits .i64 a : List (DataW Unit)) = lits .i64 b) : a = b := by
  induction a generalizing b with
  | nil => cases b with
    | nil => rfl
    | cons y b => simp [lits] at h
  | cons x a ih => cases b with
    | nil => simp [lits] at h
    | cons y b =>
      simp only [lits, List.map_cons, List.cons.injEq, DataW.lit.injEq, Lit.int.injEq, true_and] at h
      rw [h.1, ih h.2]
theorem gd_isMap (l : List Int) (w : Int) : ∀ k, IsMap (gd l w k)
  | 0 => isMap_empty
  | k + 1 => (gd_isMap l w k).put _ _
theorem gd_at (l : List Int) (w : Int) (a : Int) : ∀ k, (gd l w k).atKey (.int .i64 a) .nil = dat (idx l w k a)
  | 0 => rfl
  | k + 1 => by
    unfold gd
    by_cases h : gz l k / w = a
    · subst h
      exact atKey_put_same (k := .int .i64 (gz l k / w)) (gd_isMap l w k) trivial _ _
    · have e := idx_succ l w k a
      rw [if_neg h] at e
      rw [e]
      exact (atKey_put_other (k := .int .i64 (gz l k / w)) (k' := .int .i64 a) (fun e => h (by injection e with _ e; exact e.symm)) _ _).trans (gd_at l w a k)
theorem gd_has (l : List Int) (w : Int) (a : Int) : ∀ k, Maps.has (gd l w k) (.int .i64 a) = decide (∃ i, i < k ∧ gz l i / w = a)
  | 0 => by simp [gd, Maps.has]
  | k + 1 => by
    unfold gd
    by_cases h : gz l k / w = a
    · subst h
      rw [has_put_same (k := .int .i64 (gz l k / w)) (gd_isMap l w k) trivial]
      exact (decide_eq_true ⟨k, Nat.lt_succ_self k, rfl⟩).symm
    · refine (has_put_other (k := .int .i64 (gz l k / w)) (k' := .int .i64 a) (fun e => h (by injection e with _ e; exact e.symm)) _).trans ((gd_has l w a k).trans (decide_eq_decide.2 ⟨fun ⟨i, h1, h2⟩ => ⟨i, by omega, h2⟩, fun ⟨i, h1, h2⟩ => ?_⟩))
      by_cases hi : i = k
      · subst hi; exact absurd h2 h
      · exact ⟨i, by omega, h2⟩
theorem zs_eq {w0 : World} {base : Nat} {e : TypeId} {v : Value} {zs : List Int} (l : List Int) (w : Int) (k : Nat) (a : Int) (ho : w0.ownsInts base e .i64 v zs) (hat : (gd l w k).atKey (.int .i64 a) .nil = rowDatum .i64 v zs) : zs = idx l w k a := by
  rw [gd_at] at hat
  unfold dat at hat
  rcases ho.datum (H := Unit) with ⟨h1, h2⟩ | h1
  · rw [h1] at hat
    split at hat
    · rename_i h3; rw [h2, h3]
    · cases hat
  · rw [h1] at hat
    split at hat
    · cases hat
    · simp only [DataW.slice.injEq, and_true] at hat
      exact (lits_inj hat).symm
/-- The way of one round, in the fold's words. -/
theorem gd_step {w0 : World} {base : Nat} {e : TypeId} {v : Value} {zs : List Int} (l : List Int) (w : Int) (k : Nat) (ho : w0.ownsInts base e .i64 v zs) (hat : (gd l w k).atKey (.int .i64 (gz l k / w)) .nil = rowDatum .i64 v zs) :
    gd l w (k + 1) = (gd l w k).put (.int .i64 (gz l k / w)) (.slice (lits .i64 (zs ++ [(k : Int)])) []) := by
  have hz := zs_eq l w k _ ho hat
  show (gd l w k).put _ _ = _
  rw [idx_succ, if_pos rfl, ← hz]
  unfold dat
  rw [if_neg (by simp)]
end Go.Proofs.Ytogilkilkmoedaa
namespace Go.Proofs.Ytogilkilkmoedaa
open Go Go.Vc Go.RowKit Go.Maps
/-! KDQ -/
section
variable {P : Program} {E : Env} {T T' : Tab} {O O' : Go.Vc.Own} {o : Oper} {d : Option Tmp} {ty : TypeId} {pos : String} {af : Array Edge} {g : Option (Nat × Bool)}
theorem g_lookup_keep {t : TypeId} {x y : Operand} {b : Nat} {a : Int} {v : Value} (hk : E.keep b) (hv : ∀ w : World, w.heap[b]? = E.w0.heap[b]? → (Instr.lookup t (.map (some b)) (.int .i64 a) false).run P w = .ok v w) (hx : T.ev x = .av (.val (.map (some b)))) (hy : T.ev y = .av (.val (.int .i64 a))) :
    GV P E ⟨d, .lookup t x y false, ty, pos, af, g⟩ T O (.av (.val v)) [] [] := by
  refine ⟨fun T' O' hT hO => ⟨by intro c; simp, fun Z ν ac w hs => ?_⟩⟩
  have ex := ev_ok hs x
  have ey := ev_ok hs y
  rw [ev_same (o := ⟨d, .lookup t x y false, ty, pos, af, g⟩) hT (by simp [Op.operands]), hx] at ex
  rw [ev_same (o := ⟨d, .lookup t x y false, ty, pos, af, g⟩) hT (by simp [Op.operands]), hy] at ey
  have ex' : ac.eval x = .map (some b) := ex
  have ey' : ac.eval y = .int .i64 a := ey
  exact wp_value (w' := w) (v := v) (by simp [execOp, ex', ey', hv w (hs.base.kept b hk)]) ⟨_, Z, ν, rfl, hs, rfl⟩
end
theorem look_det {es : Array MapEntry} {clock : Nat} {R : Value → Option (DataW Unit × List MemPlace)} {w w' : World} {b : Nat} {key v : Value} {kl : Lit} (F : Go.WideElems.Fit Try.prog 3 R es clock) (hb : w.heap[b]? = some (.map es clock)) (hb' : w'.heap[b]? = some (.map es clock)) (hkey : keyOf Try.prog 3 key = some kl)
    (h : (Instr.lookup 84 (.map (some b)) key false).run Try.prog w = .ok v w) : (Instr.lookup 84 (.map (some b)) key false).run Try.prog w' = .ok v w' := by
  have hst := (MapKept.stamped_iff es clock).1 F.stamped
  rcases fit_look false law3 Try.underlying84 (zero22 w) hb F hkey with ⟨h1, h2, _⟩ | ⟨x, y, h1, h2, h3, _⟩
  · rcases fit_look false law3 Try.underlying84 (zero22 w') hb' F hkey with ⟨q1, q2, _⟩ | ⟨x', y', q1, q2, q3, _⟩
    · rw [h1] at h
      obtain rfl : Value.slice none 0 0 = v := by simpa using h
      exact q1
    · exact absurd q2 (h2 x' q1)
  · rcases fit_look false law3 Try.underlying84 (zero22 w') hb' F hkey with ⟨q1, q2, _⟩ | ⟨x', y', q1, q2, q3, _⟩
    · exact absurd h2 (q2 x h1)
    · rw [h3] at h
      obtain rfl : x.val = v := by simpa using h
      rw [entry_eq_of_key hst.2.2 h1 q1 (h2.trans q2.symm)]
      exact q3
def SlotsOk (Z : Zone) (ν : Vals) (w : World) (t : Array Value) : Tab → Prop
  | [] => True
  | (d, s) :: T => s.ok Z ν w (t.getD d undef) ∧ SlotsOk Z ν w t T
theorem slots_ok {Z : Zone} {ν : Vals} {w : World} {t : Array Value} : ∀ {T : Tab}, SlotsOk Z ν w t T → ∀ d, (T.get d).ok Z ν w (t.getD d undef)
  | [], _, d => trivial
  | (k, s) :: T, h, d => by
    by_cases hk : k = d
    · subst hk; rw [Tab.get_cons_eq]; exact h.1
    · rw [Tab.get_cons_ne _ _ hk]; exact slots_ok h.2 d
theorem arr30 (t : Array Value) (h : t.size = 30) : t = #[t.getD 0 undef, t.getD 1 undef, t.getD 2 undef, t.getD 3 undef, t.getD 4 undef, t.getD 5 undef, t.getD 6 undef, t.getD 7 undef, t.getD 8 undef, t.getD 9 undef, t.getD 10 undef, t.getD 11 undef, t.getD 12 undef, t.getD 13 undef, t.getD 14 undef, t.getD 15 undef, t.getD 16 undef, t.getD 17 undef, t.getD 18 undef, t.getD 19 undef, t.getD 20 undef, t.getD 21 undef, t.getD 22 undef, t.getD 23 undef, t.getD 24 undef, t.getD 25 undef, t.getD 26 undef, t.getD 27 undef, t.getD 28 undef, t.getD 29 undef] := by
  obtain ⟨l⟩ := t
  match l, h with
  | [x0, x1, x2, x3, x4, x5, x6, x7, x8, x9, x10, x11, x12, x13, x14, x15, x16, x17, x18, x19, x20, x21, x22, x23, x24, x25, x26, x27, x28, x29], _ => rfl
theorem step_append_own {P : Program} {ops : Array Oper} {o : Oper} {a : Act} {w : World} {K : Act → World → Prop} {Q : Exit → Act → World → Prop} {E : Prop} (hg : o.guard = none) (s x : Operand) (t : TypeId)
    (ho : o.op = .call { callee := .builtin .append, args := #[s, x], argTypes := #[t, t] })
    (base : Nat) (e : TypeId) (i : TypeInfo) (z : Value) (size bytes : Nat) (ht : P.underlying t = some (.slice e)) (hi : P.info? e = some i) (hz : i.zero = some z)
    (hsize : i.size = size) (hby : i.bytes = bytes) (hzs : z.cells.size = size) (hsz : 0 < size)
    (v : Value) (n : Nat) (xs : List Value) (hs : a.eval s = v) (hown : w.ownsRow base e size v n xs)
    (ad : Addr) (m c : Nat) (news : List Value) (hx : a.eval x = .slice (some ad) m c) (hl : news.length = m * size) (hnews : ∀ j u, news[j]? = some u → w.cell? (ad.add j) = some u) (h1 : ∀ u ∈ news, u.oneCell' = true)
    (h63 : n + m ≤ maxLen) (hbytes : (n + m) * bytes ≤ 140737488355328) (hbase : base ≤ w.heap.size)
    (h : ∀ v' w', w'.ownsRow base e size v' (n + m) (xs ++ news) → w.grownBy w' v.ownBlock → (v'.ownBlock = v.ownBlock ∨ v'.ownBlock = some w.heap.size) → K (a.put o.dst v') w') :
    if Region.wanted o (yielded ops a.tmps) = true then Oper.wp P o a w K Q else E := by
  have hw : Region.wanted o (yielded ops a.tmps) = true := by simp [Region.wanted, hg]
  rw [if_pos hw]
  obtain ⟨v', w', hr, h2, h3, _, h5⟩ := run_append_own_at (P := P) w base t o.type e i z size bytes ht hi hz hsize hby hzs hsz v n xs hown ad m c news hl hnews h1 h63 hbytes hbase
  unfold Oper.wp execOp
  simp only [ho, resolve, invoke, builtin, Sem.run_bind, Sem.run_pure, Result.andThen_ok, List.map_toArray, List.map_cons, List.map_nil, hs, hx, hr]
  exact h v' w' h2 h3 h5
theorem grown_push {a b : World} (ob : Obj) (h1 : b.os = a.os) (h2 : b.tape = a.tape) (h3 : b.output = a.output) (h4 : b.heap = a.heap.push ob) (row : Option Nat) : a.grownBy b row :=
  ⟨h1, h2, h3, by rw [h4]; simp, fun i hi _ => by rw [h4, Array.getElem?_push_lt hi]; simp [hi]⟩
set_option maxRecDepth 100000 in
set_option maxHeartbeats 1600000 in
theorem grouped_any (b off cap : Nat) (l : List Int) (width : Int) (w : World) (hw : 1 ≤ width ∧ width ≤ 1000000) (hb : b < w.heap.size) (hlen : l.length ≤ 1000) (hz : ∀ i, 0 ≤ gz l i ∧ gz l i ≤ 1000000)
    (hc : ∀ j, j < l.length → w.cell? ⟨b, off + j, none⟩ = some (.int .i64 (gz l j))) :
    Calls Try.prog 47 #[.slice (some ⟨b, off, none⟩) l.length cap, .int .i64 width] w fun e w' => e = .returned (.map (some w.heap.size)) ∧ w'.ownsGroups Try.prog 3 (w.heap.size + 1) 3 .i64 w.heap.size l.length (gd l width l.length) ∧ Below w.heap.size w w' := by
  have hmm := @run_makeMap Try.prog
  obtain ⟨i0, hi, hz0, hz1, hz2⟩ := info_parts infz3
  generalize hlenE : l.length = len at hlen hc ⊢
  go_enter Try.func47, Try.ntmps47
  go_wp2
  go_loopw [11] (fun i wr => ∃ k : Nat, k ≤ len ∧ i = .int .i64 k ∧ wr.ownsGroups Try.prog 3 (w.heap.size + 1) 3 .i64 w.heap.size k (gd l width k) ∧ Below w.heap.size w wr ∧ w.heap.size + 1 ≤ wr.heap.size)
    (fun i _ => len - (intOf i).toNat)
  case atStart => exact ⟨0, Nat.zero_le _, rfl, World.ownsGroups_made _ _ _ _ _, (Below.refl _ _).alloc (Nat.le_refl _) _, by simp⟩
  case round =>
    obtain ⟨k, hk, rfl, hown, hnx, hws⟩ := hrel
    have hcx : k < len → wr.cell? ⟨b, off + k, none⟩ = some (.int .i64 (gz l k)) := fun _ => (hnx.cell (by exact hb)).trans (hc k (by omega))
    have hzk := hz k
    have hbd : 0 ≤ gz l k / width ∧ gz l k / width ≤ 1000000 := ⟨Int.ediv_nonneg hzk.1 (by omega), Int.le_trans (Int.ediv_le_self width hzk.1) hzk.2⟩
    have hkey := keyOf_int_mk Try.underlying3 (q := .i64) (a := gz l k / width) (WalkArith.wf_i64 (by omega))
    obtain ⟨v, zs, hrun, hat, hoi, hzl, hback⟩ := hown.at law3 Try.underlying84 (zero22 wr) (by unfold maxLen; omega) hkey
    have hown0 := hown
    obtain ⟨es, clock, hbm, hF, _⟩ := hown
    have hdet : ∀ w' : World, w'.heap[w.heap.size]? = wr.heap[w.heap.size]? → (Instr.lookup 84 (.map (some w.heap.size)) (.int .i64 (gz l k / width)) false).run Try.prog w' = .ok v w' := fun w' h' => look_det hF hbm (h'.trans hbm) hkey hrun
    go_wp2
    · have hl1 : ∀ w' : World, w'.heap = wr.heap → (Instr.lookup 84 (.map (some w.heap.size)) (.int .i64 (gz l k / width)) false).run Try.prog w' = .ok v w' := fun w' h' => hdet w' (by rw [h'])
      have hl2 := hl1 wr.drew rfl
      have hl3 : (Instr.lookup 84 (.map (some w.heap.size)) (.int .i64 (gz l k / width)) false).run Try.prog (wr.alloc (.cells #[.int .i64 k] 3)).drew = .ok v (wr.alloc (.cells #[.int .i64 k] 3)).drew := hdet _ (by show (wr.alloc _).heap[_]? = _; exact Go.Vc.heap_old _ _ (by omega))
      have hq' : (gz l k).tdiv width = gz l k / width := Int.tdiv_eq_ediv_of_nonneg hzk.1
      have hwz : (width = 0) = False := by apply propext; constructor <;> intro h <;> first | omega | exact h.elim
      have hwz2 : width ≠ 0 := by omega
      have hin := IntWalk.i64_in (gz l k / width) (by omega)
      have hG : ∀ W : World,  W.os = wr.os → W.tape = wr.tape → W.output = wr.output → W.heap = wr.heap.push (.cells #[.int .i64 k] 3) → W.ownsRow (w.heap.size + 1) 3 1 v zs.length (zs.map (Value.int .i64)) ∧ (∀ j u, [Value.int .i64 k][j]? = some u → W.cell? ((⟨wr.heap.size, 0, none⟩ : Addr).add j) = some u) ∧ w.heap.size + 1 ≤ W.heap.size ∧
          ∀ v' w2, w2.ownsRow (w.heap.size + 1) 3 1 v' (zs.length + 1) (zs.map (Value.int .i64) ++ [.int .i64 k]) → W.grownBy w2 v.ownBlock → (v'.ownBlock = v.ownBlock ∨ v'.ownBlock = some W.heap.size) → ∃ w3, (Instr.mapUpdate 84 (.map (some w.heap.size)) (.int .i64 (gz l k / width)) v').run Try.prog w2 = .ok () w3 ∧ w3.ownsGroups Try.prog 3 (w.heap.size + 1) 3 .i64 w.heap.size (k + 1) (gd l width (k + 1)) ∧ Below w.heap.size w w3 ∧ w.heap.size + 1 ≤ w3.heap.size := by
        intro W e1 e2 e3 e4
        have g1 := grown_push _ e1 e2 e3 e4
        have hoi1 : W.ownsInts (w.heap.size + 1) 3 .i64 v zs := hoi.kept (g1 none) (by cases v.ownBlock <;> simp)
        refine ⟨hoi1.1, fun j u hj => ?_, by rw [e4]; simp; omega, fun v' w2 hown' hgrow hloc => ?_⟩
        · match j, hj with
          | 0, hj =>
            simp only [List.getElem?_cons_zero, Option.some.injEq] at hj
            subst hj
            simp [World.cell?, e4, Addr.add]
        · have hoi2 := hoi1.appended hown' (WalkArith.wf_i64 (by omega))
          have hall : wr.grownBy w2 v.ownBlock := (g1 _).trans hgrow
          obtain ⟨w3, hrun3, hown3, hgrow3⟩ := hback w2 v' (zs ++ [(k : Int)]) hall hoi2 (by simp; omega) (hloc.imp id (fun h => ⟨_, h, (g1 none).size⟩))
          have hd := hoi2.datum_pos (H := Unit) (by simp)
          rw [hd, ← gd_step l width k hoi hat] at hown3
          exact ⟨w3, hrun3, hown3, hnx.groups hoi hall hgrow3 hnx.size (Nat.le_succ _) (Nat.le_refl _), Nat.le_trans hws (Nat.le_trans hall.size hgrow3.size)⟩
      clear hback hat hoi hdet hl1
      go_region_law (refine step_append_own rfl (.tmp 24) (.tmp 26) 22 rfl (w.heap.size + 1) 3 i0 (.int .i64 0) 1 8 Try.underlying22 hi hz0 hz1 hz2 rfl (by decide) v zs.length (zs.map (Value.int .i64)) rfl (by exact And.left (hG ((wr.alloc (.cells #[.int .i64 k] 3)).drew) rfl rfl rfl rfl)) ⟨wr.heap.size, 0, none⟩ 1 1 [.int .i64 (k : Int)] rfl rfl (by exact And.left (And.right (hG ((wr.alloc (.cells #[.int .i64 k] 3)).drew) rfl rfl rfl rfl))) (ints_oneCell .i64 [(k : Int)]) (by unfold maxLen; omega) (by omega) (by exact And.left (And.right (And.right (hG ((wr.alloc (.cells #[.int .i64 k] 3)).drew) rfl rfl rfl rfl)))) ?_; intro v' w2 hown' hgrow hloc; obtain ⟨w3, hrun3, hown3, hbel3, hsz3⟩ := And.right (And.right (And.right (hG ((wr.alloc (.cells #[.int .i64 k] 3)).drew) rfl rfl rfl rfl))) v' w2 hown' hgrow hloc)
      all_goals
        go_wp2
        go_roundw
        case rel => exact ⟨k + 1, by omega, by go_num, hown3, hbel3, hsz3⟩
        case measure => simp [intOf]; omega
    · have : k = len := by omega
      subst this
      go_ret
      exact ⟨rfl, hown0, hnx⟩
end Go.Proofs.Ytogilkilkmoedaa
namespace Go.Proofs.Ytogilkilkmoedaa
open Go Go.Vc Go.RowKit Go.Maps
instance mt84 : MapTy Try.prog 84 3 22 := ⟨Try.underlying84, Try.underlying3⟩
instance mt83 : MapTy Try.prog 83 3 3 := ⟨Try.underlying83, Try.underlying3⟩
/-- The quotients, each as often as it comes. -/
def quots (l : List Int) (w : Int) : List Int := (List.range l.length).map (fun i => gz l i / w)
theorem mem_quots {l : List Int} {w a : Int} : a ∈ quots l w ↔ ∃ i, i < l.length ∧ gz l i / w = a := by
  simp [quots]
abbrev mpG (l : List Int) (w : Int) : AV := .mp Try.prog 3 (quots l w) l.length (fun a => zs (idx l w l.length a))
theorem groups_mp {l : List Int} {w : Int} {W : World} {Z : Zone} {b base : Nat} (h : W.ownsGroups Try.prog 3 base 3 .i64 b l.length (gd l w l.length)) (hl : l.length ≤ 1000) (hb : b < base) (hZ : ∀ k, b ≤ k → k < W.heap.size → Z k) (hw : ∀ a, a ∈ quots l w → (Lit.int .i64 a).wf = true) : (mpG l w).ok Z W (.map (some b)) := by
  have h0 := h
  obtain ⟨es, clock, hbm, F, hn, hD, hbb, hlen, hap⟩ := h
  have hblt : b < W.heap.size := (Array.getElem?_eq_some_iff.1 hbm).1
  have hst := (MapKept.stamped_iff es clock).1 F.stamped
  have hkeyI : ∀ x ∈ es.toList, ∃ a, x.key = .int .i64 a ∧ (Lit.int .i64 a).wf = true ∧ (WideElems.rg Try.prog 3 (rowElem W base 3 .i64) x).1 = .int .i64 a := fun x hx => by
    obtain ⟨y, hy⟩ := F.reads x hx
    obtain ⟨a, e1, e2, e3⟩ := Maps.keyOf_int_inv Try.underlying3 (WideElems.rd_key hy)
    exact ⟨a, e1, e3, by rw [WideElems.rg_of hy]; exact e2⟩
  have hhas : ∀ a, Maps.has (gd l w l.length) (.int .i64 a) = true ↔ ∃ x ∈ es.toList, x.key = .int .i64 a := by
    intro a
    generalize gd l w l.length = D at hD
    subst hD
    constructor
    · intro hkl
      obtain ⟨p, hp, hpk⟩ := List.any_eq_true.1 hkl
      obtain ⟨x, hx, rfl⟩ := List.mem_map.1 (mem_sorted.1 hp)
      obtain ⟨a', e1, _, e3⟩ := hkeyI x hx
      refine ⟨x, hx, ?_⟩
      have h3 := WideAt.sameKey_eq hpk
      rw [e3] at h3
      simp only [Lit.int.injEq, true_and] at h3
      rw [e1, h3]
    · rintro ⟨x, hx, hk⟩
      obtain ⟨a', e1, _, e3⟩ := hkeyI x hx
      rw [hk] at e1
      obtain rfl : a = a' := by simpa using e1
      exact List.any_eq_true.2 ⟨_, mem_sorted.2 (List.mem_map.2 ⟨x, hx, rfl⟩), by rw [e3]; exact WideAt.sameKey_self trivial⟩
  have hI : IMap Try.prog 3 es clock (quots l w) l.length := by
    refine ⟨⟨F.size, F.stamped, fun x hx => ?_⟩, hn, fun x hx => ?_, fun a ha => ?_⟩
    · obtain ⟨y, hy⟩ := F.reads x hx
      exact ⟨(y.1, .nil), by simp [WideElems.rd, WideElems.rd_key hy, R0]⟩
    · obtain ⟨a, e1, _, _⟩ := hkeyI x hx
      have := (hhas a).2 ⟨x, hx, e1⟩
      rw [gd_has] at this
      exact ⟨a, mem_quots.2 (of_decide_eq_true this), e1⟩
    · exact (hhas a).1 (by rw [gd_has]; exact decide_eq_true (mem_quots.1 ha))
  refine ⟨b, es, clock, rfl, hZ b (Nat.le_refl _) hblt, hblt, hbm, hI, fun x hx a ha => ?_⟩
  obtain ⟨a', e1, hwf, _⟩ := hkeyI x hx
  rw [ha] at e1
  cases e1
  obtain ⟨v, zs', hrun, hat, hoi, hzl, _⟩ := h0.at (n := l.length) law3 Try.underlying84 (zero22 W) (by unfold maxLen; omega) (keyOf_int_mk Try.underlying3 hwf)
  have hv : v = x.val := by
    rcases hI.find (t := 84) (e := 22) (zero22 W) hbm hwf with ⟨q1, q2⟩ | ⟨x0, q1, q2, q3, q4⟩
    · obtain ⟨c, hc, hk⟩ := hI.key x hx
      rw [ha] at hk
      cases hk
      exact absurd hc q2
    · rw [hrun] at q4
      have : x0 = x := entry_eq_of_key hst.2.2 q1 hx (q2.trans ha.symm)
      subst this
      simpa using q4
  subst hv
  show (zs (idx l w l.length a)).ok Z W x.val
  rw [← zs_eq l w l.length a hoi hat]
  have hrow := hoi.1
  rcases hoi.1.2 with ⟨e1, e2⟩ | ⟨g, cap, cur, e1, e2, e3, e4, e5, e6, e7⟩
  · exact ⟨none, 0, by rw [e1, e2], by omega, Nat.zero_le _, fun hp => by omega⟩
  · have hg := (Array.getElem?_eq_some_iff.1 e3).1
    refine ⟨some ⟨g, 0, none⟩, cap, e1, e4, e5, fun _ => ⟨g, 0, rfl, fun _ => hZ g (by omega) hg, hg, fun i hi j hj => ?_⟩⟩
    obtain rfl : j = 0 := by omega
    rw [e1] at hrow
    have hc := hrow.cellAt i (by omega)
    refine ⟨.int .i64 (gz zs' i), ?_, rfl⟩
    rw [show 0 + i * 1 + 0 = i by omega, hc]
    simp [gz, List.getD, hi]
theorem RightL.q {l : List Int} (h : RightL l) {w : Int} (hw : 1 ≤ w) {a : Int} (ha : a ∈ quots l w) : 0 ≤ a ∧ a ≤ 100000 := by
  obtain ⟨i, hi, rfl⟩ := mem_quots.1 ha
  have := h.at_ i
  exact ⟨Int.ediv_nonneg this.1 (by omega), Int.le_trans (Int.ediv_le_self w this.1) this.2⟩
theorem grouped_c (l : List Int) (width : Int) (hr : RightL l) (hw : 1 ≤ width ∧ width ≤ 1000000) : CtrA Try.prog 47 [zs l, vi width] (mpG l width) := by
  refine ⟨enters_of Try.func47 rfl rfl, fun w Z vs hZ hvs => ?_⟩
  match vs, hvs with
  | [sv, wv], ⟨h1, h2, _⟩ =>
    obtain rfl : wv = .int .i64 width := h2
    obtain ⟨a, c, rfl, hc1, hc2, hc3⟩ := h1
    have hlen := hr.len
    have key : ∀ e w', e = Ending.returned (.map (some w.heap.size)) ∧ w'.ownsGroups Try.prog 3 (w.heap.size + 1) 3 .i64 w.heap.size l.length (gd l width l.length) ∧ Below w.heap.size w w' →
        ∃ v Z', e = .returned v ∧ Below w.heap.size w w' ∧ (∀ k, Z k → Z' k) ∧ (∀ k, Z' k → Z k ∨ w.heap.size ≤ k) ∧ (∀ k, Z' k → k < w'.heap.size) ∧ (mpG l width).ok Z' w' v := by
      rintro e w' ⟨rfl, hown, hbel⟩
      refine ⟨_, fun k => Z k ∨ (w.heap.size ≤ k ∧ k < w'.heap.size), rfl, hbel, fun k hk => .inl hk, fun k hk => hk.imp id (·.1), fun k hk => ?_, groups_mp hown (by omega) (Nat.lt_succ_self _) (fun k h1 h2 => .inr ⟨h1, h2⟩) (fun a ha => WalkArith.wf_i64 (by have := hr.q hw.1 ha; omega))⟩
      rcases hk with hk | hk
      · exact Nat.lt_of_lt_of_le (hZ k hk) hbel.size
      · exact hk.2
    by_cases h0 : l.length = 0
    · have hl : l = [] := List.eq_nil_of_length_eq_zero h0
      subst hl
      exact (grouped_none a c width w).mono key
    · obtain ⟨b, o, rfl, hz, hb, hcell⟩ := hc3 (by omega)
      refine (grouped_any b o c l width w hw hb (by omega) (fun i => by have := hr.at_ i; omega) (fun j hj => ?_)).mono key
      obtain ⟨u, hu, hk⟩ := hcell j hj 0 (by omega)
      obtain rfl : u = .int .i64 (gz l j) := hk
      simpa using hu
end Go.Proofs.Ytogilkilkmoedaa
namespace Go.Proofs.Ytogilkilkmoedaa
open Go Go.Vc Go.RowKit Go.Maps Go.Sort
set_option maxHeartbeats 1000000
/-! The keys of a map, sorted. -/
/-- What maps.Keys hands back. -/
def keysφ (ks : List Int) (n : Nat) (f : Int → AV) : Zone → World → Value → Prop := fun Z w v =>
  ∃ B u, v = .func (.func 78) #[] #[.pointer (some ⟨B, 0, none⟩)] ∧ Z B ∧ B < w.heap.size ∧ w.cell? ⟨B, 0, none⟩ = some u ∧ mpφ Try.prog 3 ks n f Z w u
theorem keys_st (ks : List Int) (n : Nat) (f : Int → AV) : AStable (keysφ ks n f) := by
  rintro Z Z' w w' v hZ hs hk ⟨B, u, h1, h2, h3, h4, h5⟩
  exact ⟨B, u, h1, hZ B h2, Nat.lt_of_lt_of_le h3 hs, by rw [cell_of_heap (hk B h2 h3)]; exact h4, mp_st _ _ _ _ _ Z Z' w w' u hZ hs hk h5⟩
def AV.keys (ks : List Int) (n : Nat) (f : Int → AV) : AV := .ob (keysφ ks n f) (keys_st ks n f)
theorem keys_c (ks : List Int) (n : Nat) (f : Int → AV) : CtrA Try.prog 54 [.mp Try.prog 3 ks n f] (AV.keys ks n f) := by
  refine ⟨enters_of Try.func54 rfl rfl, fun w Z vs hZ hvs => ?_⟩
  match vs, hvs with
  | [v], ⟨h1, _⟩ =>
    have h1' := h1
    obtain ⟨b, es, clock, rfl, hz, hb, hh, hI, hv⟩ := h1'
    have cK : CallsIn Fence.wide 5 Try.prog 54 #[.map (some b)] w fun e w' => e = .returned (.func (.func 78) #[] #[.pointer (some ⟨w.heap.size, 0, none⟩)]) ∧ w' = w.alloc (.cells #[.map (some b)] 84) := AnyZI.keys_in Try.keys54 Fence.wide 5 trivial rfl (some b) w
    refine Calls.mono (callsIn_wide.1 cK) ?_
    rintro e w' ⟨rfl, rfl⟩
    refine ⟨_, fun k => Z k ∨ k = w.heap.size, rfl, Below.alloc (Below.refl _ _) (Nat.le_refl _) _, fun k hk => .inl hk, fun k hk => hk.imp id (fun e => by omega), fun k hk => ?_, ⟨w.heap.size, .map (some b), rfl, .inr rfl, by simp, by rw [World.cell?_alloc_new]; rfl, ?_⟩⟩
    · rcases hk with hk | hk
      · have := hZ k hk; simp; omega
      · simp; omega
    · exact mp_st _ _ _ _ _ Z _ w _ _ (fun k hk => .inl hk) (by simp) (fun k hk hlt => heap_old w _ hlt) h1
/-- Each once. -/
def dd : List Int → List Int
  | [] => []
  | a :: l => if a ∈ dd l then dd l else a :: dd l
theorem mem_dd {x : Int} : ∀ {l : List Int}, x ∈ dd l ↔ x ∈ l
  | [] => Iff.rfl
  | a :: l => by
    unfold dd
    split
    · rename_i h
      rw [mem_dd, List.mem_cons]
      exact ⟨.inr, fun h' => h'.elim (fun e => e ▸ mem_dd.1 h) id⟩
    · rw [List.mem_cons, List.mem_cons, mem_dd]
theorem nodup_dd : ∀ l : List Int, (dd l).Nodup
  | [] => List.nodup_nil
  | a :: l => by
    unfold dd
    split
    · exact nodup_dd l
    · rename_i h; exact List.nodup_cons.2 ⟨h, nodup_dd l⟩
/-- The keys, each once, rising. -/
def sortK (ks : List Int) : List Int := (dd ks).mergeSort (fun x y => decide (x ≤ y))
theorem Try.sorts53 (m : Nat) : AnyZI.SortsIn Try.prog Try.sorted53_ren Fence.wide m :=
  ⟨fun blk off cap ss W hH hblk hsz => callsIn_wide.2 (Try.slices_Sort_int blk off cap ss W hH hblk hsz), fun p cap W => callsIn_wide.2 (Try.slices_Sort_int_none p cap W)⟩
theorem intKeys_map (L : List (Lit × DataW Unit)) : intKeys (.map L) = L.map (fun p => _root_.Go.intOf p.1) := rfl
theorem sortK_of {es : Array MapEntry} {clock : Nat} {ks : List Int} {n : Nat} (hI : IMap Try.prog 3 es clock ks n) {ss : List Int} (h : ss.Perm (intKeys (.map ((es.toList.map (WideElems.rg Try.prog 3 R0)).foldr DataW.insert [])))) : ss.mergeSort (fun x y => decide (x ≤ y)) = sortK ks := by
  have hst := (MapKept.stamped_iff es clock).1 hI.fit.stamped
  have hrg : ∀ x ∈ es.toList, ∃ a ∈ ks, x.key = .int .i64 a ∧ _root_.Go.intOf (WideElems.rg Try.prog 3 R0 x).1 = a := fun x hx => by
    obtain ⟨a, ha, hk⟩ := hI.key x hx
    obtain ⟨y, hy⟩ := hI.fit.reads x hx
    obtain ⟨a', e1, e2, e3⟩ := Maps.keyOf_int_inv Try.underlying3 (WideElems.rd_key hy)
    rw [hk] at e1; cases e1
    exact ⟨a, ha, hk, by rw [WideElems.rg_of hy, e2]; rfl⟩
  have hp : (intKeys (.map ((es.toList.map (WideElems.rg Try.prog 3 R0)).foldr DataW.insert []))).Perm (es.toList.map fun x => _root_.Go.intOf (WideElems.rg Try.prog 3 R0 x).1) := by
    have := (WideShapes.sorted_perm (es.toList.map (WideElems.rg Try.prog 3 R0))).map (fun p => _root_.Go.intOf p.1)
    rw [List.map_map] at this
    simp only [Function.comp_def] at this
    rw [intKeys_map]
    exact this
  refine mergeSort_of_perm_i ((h.trans hp).trans ((List.perm_ext_iff_of_nodup ?_ (nodup_dd ks)).2 fun a => ?_))
  · refine List.pairwise_map.2 (hst.2.2.imp_of_mem fun {x y} hx hy hne e => hne ?_)
    obtain ⟨a, _, h1, h2⟩ := hrg x hx
    obtain ⟨b, _, h3, h4⟩ := hrg y hy
    rw [h1, h3, ← h2, ← h4, e]
  · rw [mem_dd]
    constructor
    · intro hm
      obtain ⟨x, hx, rfl⟩ := List.mem_map.1 hm
      obtain ⟨a, ha, _, h2⟩ := hrg x hx
      rw [h2]; exact ha
    · intro hm
      obtain ⟨x, hx, hk⟩ := hI.all a hm
      obtain ⟨b, _, h3, h4⟩ := hrg x hx
      rw [hk] at h3; cases h3
      exact List.mem_map.2 ⟨x, hx, h4⟩
theorem sorted_c (ks : List Int) (n : Nat) (f : Int → AV) (hn : n ≤ 1000000) : CtrR Try.prog 53 [AV.keys ks n f] 3 1 (sortK ks).length (zf (sortK ks)) [] := by
  refine ⟨enters_of Try.func53 rfl rfl, fun w Z vs hZ hvs => ?_⟩
  match vs, hvs with
  | [v0], ⟨h0, _⟩ =>
    obtain ⟨B, u, rfl, hzB, hB, hcell, b, es, clock, rfl, hz, hb, hh, hI, hv⟩ := h0
    have hown : w.ownsMap Try.prog 3 R0 b n (.map ((es.toList.map (WideElems.rg Try.prog 3 R0)).foldr DataW.insert [])) := ⟨es, clock, hh, hI.fit, hI.sz, rfl⟩
    have hsz : Maps.size (.map ((es.toList.map (WideElems.rg Try.prog 3 R0)).foldr DataW.insert []) : DataW Unit) ≤ n := by
      show ((es.toList.map (WideElems.rg Try.prog 3 R0)).foldr DataW.insert []).length ≤ n
      rw [length_sorted]; simpa using hI.sz
    have hseq : SeqGives Fence.wide 2 Try.prog 78 #[.pointer (some ⟨B, 0, none⟩)] encZ (fun ss => ss.Perm (intKeys (.map ((es.toList.map (WideElems.rg Try.prog 3 R0)).foldr DataW.insert [])))) (Maps.size (.map ((es.toList.map (WideElems.rg Try.prog 3 R0)).foldr DataW.insert []) : DataW Unit)) w :=
      AnyZI.keys_gives (ρ := Try.keys54_ren) { Try.keys54 with } Fence.wide _ trivial rfl (by omega) B b n _ _ hB hcell hown
    have cS := AnyZI.sorted_in Try.sorted53 Fence.wide 5 trivial trivial trivial trivial rfl (by omega) (Try.sorts53 _) (enters_of Try.func77 rfl rfl) 78 #[.pointer (some ⟨B, 0, none⟩)] trivial (enters_of Try.func78 rfl rfl) _ _ (by unfold maxLen; omega) (by omega) _ hseq
    change CallsIn _ _ Try.prog 53 _ _ _ at cS
    refine Calls.mono (callsIn_wide.1 cS) ?_
    rintro e w' ⟨v, ss, rfl, hS, hrow, hnil, hbel⟩
    have hss := sortK_of hI hS
    have hlen : ss.length = (sortK ks).length := by rw [← hss]; simp
    change w'.ownsRow w.heap.size 3 1 v ss.length _ at hrow
    rw [hss, hlen] at hrow
    refine ⟨v, v, Z, rfl, rfl, hbel, fun _ h => h, fun _ h => .inl h, fun k hk => Nat.lt_of_lt_of_le (hZ k hk) hbel.size, ?_⟩
    have hrow' := hrow
    rcases hrow.2 with ⟨e1, e2⟩ | ⟨g, cap, cur, e1, e2, e3, e4, e5, e6, e7⟩
    · exact .inl ⟨e1, e2⟩
    · refine .inr ⟨g, cap, cur, e1, e2, fun hz => by have := hZ g hz; omega, e3, e4, e5, e6, fun i hi j hj => ?_⟩
      obtain rfl : j = 0 := by omega
      rw [e1] at hrow'
      have hc := hrow'.cellAt i (by omega)
      refine ⟨.int .i64 (gz (sortK ks) i), ?_, rfl⟩
      simp only [World.cell?, e3] at hc
      rw [show i * 1 + 0 = i by omega]
      simpa [gz, List.getD, hi, encZ] using hc
end Go.Proofs.Ytogilkilkmoedaa
namespace Go.Proofs.Ytogilkilkmoedaa
open Go Go.Vc Go.RowKit Go.Maps Go.Sort
set_option maxHeartbeats 1000000
/-! Pairs of numbers, sorted by the first. -/
def gp (l : List (Int × Int)) (i : Nat) : Int × Int := l.getD i (0, 0)
def df (l : List (Int × Int)) : Nat → Nat → AV := fun i j => match j with | 0 => .val (.int .i64 (gp l i).1) | _ => .val (.int .i64 (gp l i).2)
def encP (p : Int × Int) : List Value := [.int .i64 p.1, .int .i64 p.2]
def cfP (p q : Int × Int) : Int := Lib.compareInt p.1 q.1
theorem ltP (p q : Int × Int) : ltOf cfP p q = decide (p.1 < q.1) := by
  unfold ltOf cfP Lib.compareInt
  rw [Bool.eq_iff_iff, decide_eq_true_eq, decide_eq_true_eq]
  split
  · rename_i h; exact ⟨fun _ => h, fun _ => by omega⟩
  · split <;> (constructor <;> intro h <;> omega)
theorem swoP : SWO (ltOf cfP) := ⟨fun x => by rw [ltP]; simp, fun x y z h1 h2 => by rw [ltP, decide_eq_true_eq] at *; omega, fun x y z h1 h2 => by rw [ltP, decide_eq_false_iff_not] at *; omega⟩
theorem cmp_any (a b c d : Int) (W : World) : Calls Try.prog 49 #[.agg #[.int .i64 a, .int .i64 b], .agg #[.int .i64 c, .int .i64 d]] W fun e w' => e = .returned (.int .i64 (Lib.compareInt a c)) ∧ w' = grow W #[.cells #[.int .i64 a, .int .i64 b] 42, .cells #[.int .i64 c, .int .i64 d] 42] := by
  go_enter Try.func49, Try.ntmps49
  go_wp2_with (first
    | (go_at_call 50; refine (Try.cmp_Compare_int _ _ _).mono ?_; rintro e w' ⟨rfl, rfl⟩)
    | fail)
  go_ret
  refine ⟨rfl, ?_⟩
  rw [alloc_eq_grow, alloc_eq_grow, grow_grow]
  rfl
def sortP (l : List (Int × Int)) : List (Int × Int) := l.mergeSort (fun x y => decide (x.1 ≤ y.1))
theorem sortP_of {l : List (Int × Int)} (hd : (l.map (·.1)).Nodup) {d' : Array (Int × Int)} (hp : PermIn 0 l.length l.toArray d') (hs : SortedIn (ltOf cfP) 0 l.length d') : d'.toList = sortP l := by
  have hsz : d'.size = l.length := by have := hp.1; simpa using this
  have hperm : d'.toList.Perm l := by
    have := hp.2.2
    simp [hsz] at this
    rwa [List.take_of_length_le (by simp [hsz])] at this
  have hmem : ∀ a ∈ d'.toList, a ∈ l := fun a ha => hperm.mem_iff.1 ha
  have hinj : ∀ a ∈ l, ∀ b ∈ l, a.1 = b.1 → a = b := by
    have hpw := List.pairwise_map.1 hd
    intro a ha b hb e
    obtain ⟨i, hi, rfl⟩ := List.getElem_of_mem ha
    obtain ⟨j, hj, rfl⟩ := List.getElem_of_mem hb
    rw [List.pairwise_iff_getElem] at hpw
    rcases Nat.lt_trichotomy i j with h | h | h
    · exact absurd e (hpw i j hi hj h)
    · subst h; rfl
    · exact absurd e.symm (hpw j i hj hi h)
  have tr : ∀ a b c : Int × Int, decide (a.1 ≤ b.1) = true → decide (b.1 ≤ c.1) = true → decide (a.1 ≤ c.1) = true := fun a b c h1 h2 => by simp only [decide_eq_true_eq] at *; omega
  have to : ∀ a b : Int × Int, (decide (a.1 ≤ b.1) || decide (b.1 ≤ a.1)) = true := fun a b => by simp only [Bool.or_eq_true, decide_eq_true_eq]; omega
  refine List.Perm.eq_of_pairwise (le := fun a b => decide (a.1 ≤ b.1) = true) (fun a b ha hb h1 h2 => ?_) ?_ (List.pairwise_mergeSort tr to l) (hperm.trans (List.mergeSort_perm l _).symm)
  · simp only [decide_eq_true_eq] at h1 h2
    exact hinj a (hmem a ha) b ((List.mergeSort_perm l _).mem_iff.1 hb) (by omega)
  · rw [List.pairwise_iff_getElem]
    intro i j hi hj hij
    have h := hs i j (Nat.zero_le _) hij (by simpa [hsz] using hj)
    have e1 : d'[j]! = d'.toList[j] := by rw [getElem!_pos d' j (by simpa using hj)]; simp
    have e2 : d'[i]! = d'.toList[i] := by rw [getElem!_pos d' i (by simpa using hi)]; simp
    rw [ltP, decide_eq_false_iff_not, e1, e2] at h
    simp only [decide_eq_true_eq]
    omega
theorem enc_cell (p : Int × Int) (c : Nat) (h : c < 2) : (encP p)[c]! = (match c with | 0 => .int .i64 p.1 | _ => .int .i64 p.2) := by
  match c, h with
  | 0, _ => rfl
  | 1, _ => rfl
theorem isAgg42 (w : World) : (isAgg 42).run Try.prog w = .ok true w := by kernel_rfl
theorem size42 (w : World) : (Go.sizeOf 42).run Try.prog w = .ok 2 w := by kernel_rfl
theorem lkey {i j n : Nat} (hi : i < n) (hj : j < 2) : i * 2 + j < n * 2 := by omega
theorem sortf_c (l : List (Int × Int)) (hd : (l.map (·.1)).Nodup) (hn : l.length ≤ 1000000) : CtrW Try.prog 48 [.val (.func (.func 49) #[] #[])] 42 2 l.length (df l) l.length (df (sortP l)) false := by
  refine ⟨enters_of Try.func48 rfl rfl, fun w Z v vs hZ hvs hrow => ?_⟩
  match vs, hvs with
  | [fv], ⟨h1, _⟩ =>
    obtain rfl : fv = .func (.func 49) #[] #[] := h1
    by_cases h0 : l.length = 0
    · have hl : l = [] := List.eq_nil_of_length_eq_zero h0
      subst hl
      have hv : ∃ p cap, v = .slice p 0 cap := by
        rcases hrow with ⟨e, _⟩ | ⟨b, cap, arr, e, _⟩
        · exact ⟨none, 0, e⟩
        · exact ⟨_, cap, e⟩
      obtain ⟨p, cap, rfl⟩ := hv
      refine (Try.slices_SortFunc_none (α := Int × Int) p cap (.func (.func 49) #[] #[]) w).mono ?_
      rintro e w' ⟨rfl, rfl⟩
      exact ⟨_, _, Z, rfl, rfl, ⟨rfl, rfl, rfl, Nat.le_refl _, fun _ _ _ => rfl⟩, fun _ h => h, fun _ h => .inl h, hZ, fun b hb => .inl hb, by
        rcases hrow with ⟨e, _⟩ | ⟨b, cap, arr, e, h2, h3, h4, h5, h6, h7⟩
        · exact .inl ⟨e, rfl⟩
        · exact .inr ⟨b, cap, arr, e, h2, h3, h4, h5, h6, fun i hi => by simp at hi⟩⟩
    · rcases hrow with ⟨_, e⟩ | ⟨b, cap, arr, rfl, h2, h3, h4, h5, h6, h7⟩
      · exact absurd e h0
      · have hb := (Array.getElem?_eq_some_iff.1 h3).1
        have hcell : ∀ i, i < l.length → ∀ j, j < 2 → arr[i * 2 + j]? = some ((encP (gp l i))[j]!) := fun i hi j hj => by
          obtain ⟨u, hu, hk⟩ := h7 i hi j hj
          rw [hu, enc_cell _ _ hj]
          match j, hj, hk with
          | 0, _, hk => exact congrArg some hk
          | 1, _, hk => exact congrArg some hk
        have hH : HoldsK encP 2 w b 0 l.toArray := by
          intro t ht
          have ht' : t < l.length * 2 := by simpa using ht
          refine ⟨?_, by simp [World.frozen?, h3]⟩
          have hq : t = t / 2 * 2 + t % 2 := by omega
          have hc := hcell (t / 2) (by omega) (t % 2) (Nat.mod_lt _ (by omega))
          rw [get_flatK _ _ _ t (by simpa using ht'), Nat.zero_add]
          simp only [World.cell?, h3]
          rw [← hq] at hc
          have e : l.toArray[t / 2]! = gp l (t / 2) := by
            rw [getElem!_pos l.toArray (t / 2) (by simp; omega)]
            simp [gp, List.getD, show t / 2 < l.length by omega]
          rw [e]
          simpa using hc
        have hcmp : CmpLays Try.prog 49 #[] encP 2 cfP b 0 l.toArray.size w := fun m os dk _ x y =>
          (cmp_any x.1 x.2 y.1 y.2 _).mono fun e w' ⟨he, hw⟩ => ⟨he, 0, _, hw⟩
        have hrun := Try.slices_SortFunc (α := Int × Int) 2 isAgg42 size42 encP (fun _ => rfl) (fun x v hv => by
          simp only [encP, List.mem_cons, List.not_mem_nil, or_false] at hv
          rcases hv with rfl | rfl <;> rfl) cfP swoP 49 #[] b 0 cap l.toArray w (enters_of Try.func49 rfl rfl) hcmp hH hb (by simp; omega)
        refine Calls.mono (show Calls Try.prog 48 #[.slice (some ⟨b, 0, none⟩) l.length cap, .func (.func 49) #[] #[]] w _ from hrun) ?_
        rintro e w' ⟨rfl, d', n, os, hp, hs, rfl⟩
        have hsz : d'.size = l.length := by have := hp.1; simpa using this
        have hd' := sortP_of hd (by simpa using hp) (by simpa using hs)
        have hheap : (sortWorldK encP 2 w b 0 n d' os).heap[b]? = some (.cells (putCells id 0 (flatK encP 2 d') arr) 42 (0, 0)) := by
          unfold sortWorldK putRowK
          rw [heap_grow_old _ _ (by simpa [putRow, mapBlock, Sort.ahead] using hb)]
          simp [putRow, mapBlock, Sort.ahead, Array.getElem?_modify, h3, onCells]
        have hgr : w.grownBy (sortWorldK encP 2 w b 0 n d' os) (some b) := by
          unfold sortWorldK putRowK
          refine ⟨rfl, rfl, rfl, by simp, fun k hk hne => ?_⟩
          rw [heap_grow_old _ _ (by simpa using hk)]
          have : b ≠ k := fun e => hne (by rw [e])
          simp [putRow, mapBlock, Sort.ahead, Array.getElem?_modify, this]
        refine ⟨_, _, Z, rfl, rfl, hgr, fun _ h => h, fun _ h => .inl h, fun k hk => Nat.lt_of_lt_of_le (hZ k hk) hgr.size, fun b hb => .inl hb, .inr ⟨b, cap, _, rfl, h2, hheap, h4, h5, by simp [putCells, h6], fun i hi j hj => ?_⟩⟩
        have hlt := lkey hi hj
        have hal : i * 2 + j < arr.size := by rw [h6]; have := lkey (Nat.lt_of_lt_of_le hi h4) hj; exact this
        refine ⟨(encP (gp (sortP l) i))[j]!, ?_, ?_⟩
        · have hf := get_flatK encP 2 d' (i * 2 + j) (by rw [hsz]; exact hlt)
          have e1 : (i * 2 + j) / 2 = i := by omega
          have e2 : (i * 2 + j) % 2 = j := by omega
          rw [e1, e2] at hf
          have e3 : d'[i]! = gp (sortP l) i := by
            rw [getElem!_pos d' i (by omega), ← hd']
            simp [gp, List.getD, show i < d'.size by omega]
          rw [e3] at hf
          simp only [putCells]
          rw [Array.getElem?_mapIdx, Array.getElem?_eq_getElem hal]
          simp only [Option.map_some]
          rw [if_pos ⟨Nat.zero_le _, by simp [hsz]; omega⟩]
          simpa using hf
        · rw [enc_cell _ _ hj]
          match j, hj with
          | 0, _ => rfl
          | 1, _ => rfl
end Go.Proofs.Ytogilkilkmoedaa
