/- A part of the proof that the law returns true at every input and that the input reads behind the call as it read before; this part states nothing of its own that needs a condition of the input. -/
import Derived.Lib.SliceRun
import Derived.RangeFuncNested
import Derived.RangeFuncLeaves
import Derived.Test.YtacepcnbgacipaaChecked
import Derived.KernelRfl
import Derived.Test.YtacepcnbgacipaaV
set_option linter.unusedVariables false
set_option linter.unusedSimpArgs false
namespace Go.Vc
open Go Go.RowKit
/-! ### Products that fit -/
abbrev Bd (a : Int) : Prop := -1500000000 ≤ a ∧ a ≤ 1500000000
theorem mulB {a b : Int} (h : Bd a) (k : Bd b) : -2250000000000000000 ≤ a * b ∧ a * b ≤ 2250000000000000000 := by
  have h1 : (a * b).natAbs ≤ 1500000000 * 1500000000 := by
    rw [Int.natAbs_mul]
    exact Nat.mul_le_mul (by omega) (by omega)
  omega
section
variable {P : Program} {E : Env} {T T' : Tab} {O O' : Own} {o : Oper} {d : Option Tmp} {ty : TypeId} {pos : String} {af : Array Edge} {g : Option (Nat × Bool)}
theorem g_mulB {xt yt : TypeId} {x y : Operand} {m n : Int} (h1 : T.ev x = .av (.val (.int .i64 m))) (h2 : T.ev y = .av (.val (.int .i64 n))) (hm : Bd m) (hn : Bd n) :
    GV P E ⟨d, .binOp .mul xt x y yt, ty, pos, af, g⟩ T O (.av (.val (.int .i64 (m * n)))) [] [] :=
  g_arith h1 h2 rfl (by have := mulB hm hn; omega)
theorem g_subP {xt yt : TypeId} {x y : Operand} {a b c e : Int} (h1 : T.ev x = .av (.val (.int .i64 (a * b)))) (h2 : T.ev y = .av (.val (.int .i64 (c * e)))) (ha : Bd a) (hb : Bd b) (hc : Bd c) (he : Bd e) :
    GV P E ⟨d, .binOp .sub xt x y yt, ty, pos, af, g⟩ T O (.av (.val (.int .i64 (a * b - c * e)))) [] [] :=
  g_arith h1 h2 rfl (by have := mulB ha hb; have := mulB hc he; omega)
theorem g_addP {xt yt : TypeId} {x y : Operand} {a b c e : Int} (h1 : T.ev x = .av (.val (.int .i64 (a * b)))) (h2 : T.ev y = .av (.val (.int .i64 (c * e)))) (ha : Bd a) (hb : Bd b) (hc : Bd c) (he : Bd e) :
    GV P E ⟨d, .binOp .add xt x y yt, ty, pos, af, g⟩ T O (.av (.val (.int .i64 (a * b + c * e)))) [] [] :=
  g_arith h1 h2 rfl (by have := mulB ha hb; have := mulB hc he; omega)
end
/-- A closed bound on what a comparison needs. -/
theorem max_eq (m n : Int) : (if m < n then n else m) = max m n := by rw [Int.max_def]; split <;> split <;> omega
theorem min_eq (m n : Int) : (if n < m then n else m) = min m n := by rw [Int.min_def]; split <;> split <;> omega
end Go.Vc
namespace Go.Vc
open Go Go.RowKit
theorem idx_eq (l : List Nat) : idx l = .sl l.length 1 (xf l) := rfl
section
variable {P : Program} {E : Env} {T T' : Tab} {O O' : Own} {o : Oper} {d : Option Tmp} {ty : TypeId} {pos : String} {af : Array Edge} {g : Option (Nat × Bool)}

theorem getD_app {α : Type} (l : List α) (a d : α) (i : Nat) : (l ++ [a]).getD i d = if i < l.length then l.getD i d else if i = l.length then a else d := by
  simp only [List.getD, List.getElem?_append]
  split
  · rfl
  · split
    · rename_i h; subst h; simp
    · rw [List.getElem?_singleton, if_neg (by omega)]; rfl

/-- The row of r is one more told otherwise. -/
theorem VStep.row {r e sz n n' : Nat} {f f' : Nat → Nat → AV} {s : SV} (h : VStep P E o T O T' ((r, .row e sz n f) :: O') s) (hn : n = n') (hf : ∀ i, i < n → ∀ j, j < sz → f i j = f' i j) : VStep P E o T O T' ((r, .row e sz n' f') :: O') s := by
  refine ⟨h.nd, fun Z ν a w hs => ?_⟩
  have key : ∀ {a w}, (∃ v Z' ν', a = a ∧ SatZ E Z' ν' T' ((r, .row e sz n f) :: O') a w ∧ s.ok Z' ν' w v) → True := fun _ => trivial
  have := h.run Z ν a w hs
  unfold Oper.wp at this ⊢
  revert this
  have conv : ∀ a1 w1, (∃ v Z' ν', a1 = a.put o.dst v ∧ SatZ E Z' ν' T' ((r, .row e sz n f) :: O') a w1 ∧ s.ok Z' ν' w1 v) → (∃ v Z' ν', a1 = a.put o.dst v ∧ SatZ E Z' ν' T' ((r, .row e sz n' f') :: O') a w1 ∧ s.ok Z' ν' w1 v) := by
    rintro a1 w1 ⟨v, Z', ν', h1, h2, h3⟩
    refine ⟨v, Z', ν', h1, ⟨h2.defers, h2.tsize, h2.cst, h2.base, ⟨fun k y hy => ?_, fun k k' hne e1 e2 => ?_⟩, h2.slot⟩, h3⟩
    · by_cases hk : k = r
      · subst hk
        rw [look_cons_eq] at hy
        cases hy
        exact (RLe.row hn hf).ok (h2.own.each k _ (look_cons_eq _ _ _))
      · rw [look_cons_ne _ _ (fun e => hk e.symm)] at hy
        exact h2.own.each k y (by rw [look_cons_ne _ _ (fun e => hk e.symm)]; exact hy)
    · have hh : ∀ k, look ((r, Res.row e sz n' f') :: O') k ≠ none → look ((r, Res.row e sz n f) :: O') k ≠ none := by
        intro k hk
        by_cases hkr : k = r
        · subst hkr; rw [look_cons_eq]; simp
        · rw [look_cons_ne _ _ (fun e => hkr e.symm)] at hk ⊢; exact hk
      exact h2.own.apart k k' hne (hh k e1) (hh k' e2)
  generalize (execOp a.eval o).run P w = rr
  intro this
  cases rr with
  | ok n1 w1 =>
    cases n1 <;> simp only [Oper.upon] at this ⊢ <;> first
      | exact conv _ _ this
      | exact Calls.mono this (fun e w'' he => by cases e with
          | returned v => exact conv _ _ he
          | panicked c => exact he
          | outgrown => exact he)
      | exact Rows.mono this (fun _ _ he => conv _ _ he)
  | halt x w1 => cases x <;> simp only [Oper.upon] at this ⊢

theorem v_push_pt {t e : TypeId} {x y : Operand} {r bytes : Nat} {l : List Pt} {p : Pt} [ht : SlTy P t e 2] [he : EltTy P e 2 bytes] (hx : T.ev x = .osl r) (hr : look O r = some (.row e 2 l.length (pf l))) (hy : T.ev y = .av (.sl 1 2 (pf [p])))
    (hlen : l.length ≤ 1000000) (hby : Nat.ble bytes 64 = true) :
    VStep P E ⟨d, .call ⟨.builtin .append, #[x, y], #[t, t]⟩, ty, pos, af, g⟩ T O (T.kill r) ((r, .row e 2 (l ++ [p]).length (pf (l ++ [p]))) :: Own.kill r O) (.osl r) := by
  refine (v_append hx hr hy (fun i _ j _ => by unfold pf; split <;> rfl) (by omega) (by simp only [maxLen]; omega) (by have := Nat.le_of_ble_eq_true hby; calc (l.length + 1) * bytes ≤ 1000001 * 64 := Nat.mul_le_mul (by omega) this
    _ ≤ 140737488355328 := by decide)).row (by simp) (fun i hi j hj => ?_)
  unfold rowApp pf gp
  rw [getD_app]
  split
  · rfl
  · have h1 : i = l.length := by omega
    subst h1
    simp
theorem v_push_ix {t e : TypeId} {x y : Operand} {r bytes : Nat} {l : List Nat} {p : Nat} [ht : SlTy P t e 1] [he : EltTy P e 1 bytes] (hx : T.ev x = .osl r) (hr : look O r = some (.row e 1 l.length (xf l))) (hy : T.ev y = .av (.sl 1 1 (xf [p])))
    (hlen : l.length ≤ 1000000) (hby : Nat.ble bytes 64 = true) :
    VStep P E ⟨d, .call ⟨.builtin .append, #[x, y], #[t, t]⟩, ty, pos, af, g⟩ T O (T.kill r) ((r, .row e 1 (l ++ [p]).length (xf (l ++ [p]))) :: Own.kill r O) (.osl r) := by
  refine (v_append hx hr hy (fun i _ j _ => rfl) (by omega) (by simp only [maxLen]; omega) (by have := Nat.le_of_ble_eq_true hby; calc (l.length + 1) * bytes ≤ 1000001 * 64 := Nat.mul_le_mul (by omega) this
    _ ≤ 140737488355328 := by decide)).row (by simp) (fun i hi j hj => ?_)
  unfold rowApp xf gi
  rw [getD_app]
  split
  · rfl
  · have h1 : i = l.length := by omega
    subst h1
    simp
theorem v_push_pr {t e : TypeId} {x y : Operand} {r bytes : Nat} {l : List (Nat × Nat)} {p : Nat × Nat} [ht : SlTy P t e 2] [he : EltTy P e 2 bytes] (hx : T.ev x = .osl r) (hr : look O r = some (.row e 2 l.length (qf l))) (hy : T.ev y = .av (.sl 1 2 (qf [p])))
    (hlen : l.length ≤ 1000000) (hby : Nat.ble bytes 64 = true) :
    VStep P E ⟨d, .call ⟨.builtin .append, #[x, y], #[t, t]⟩, ty, pos, af, g⟩ T O (T.kill r) ((r, .row e 2 (l ++ [p]).length (qf (l ++ [p]))) :: Own.kill r O) (.osl r) := by
  refine (v_append hx hr hy (fun i _ j _ => by unfold qf; split <;> rfl) (by omega) (by simp only [maxLen]; omega) (by have := Nat.le_of_ble_eq_true hby; calc (l.length + 1) * bytes ≤ 1000001 * 64 := Nat.mul_le_mul (by omega) this
    _ ≤ 140737488355328 := by decide)).row (by simp) (fun i hi j hj => ?_)
  unfold rowApp qf gq
  rw [getD_app]
  split
  · rfl
  · have h1 : i = l.length := by omega
    subst h1
    simp
theorem g_one_pt {t e : TypeId} {x : Operand} {p : Pt} [ht : SlTy P t e 2]
    (hb : ∀ w, (Instr.buildSlice t 1 #[(0, .agg #[.int .i64 p.x, .int .i64 p.y])]).run P w = .ok (.slice (some ⟨w.heap.size, 0, none⟩) 1 1) (w.alloc (.cells #[.int .i64 p.x, .int .i64 p.y] e)))
    (hx : T.ev x = .av (pv p.x p.y)) : GV P E ⟨d, .buildSlice t 1 #[(0, x)], ty, pos, af, g⟩ T O (.av (.sl 1 2 (pf [p]))) [] [] :=
  g_bslice (is := [0]) (xs := [x]) (vs := [_]) (us := [_, _]) hb rfl (by simp only [List.map_cons, List.map_nil, hx]) rfl (fun i hi j hj => by
    obtain rfl : i = 0 := by omega
    match j, hj with
    | 0, _ => exact ⟨_, rfl, rfl⟩
    | 1, _ => exact ⟨_, rfl, rfl⟩)
theorem g_one_ix {t e : TypeId} {x : Operand} {n : Int} {p : Nat} [ht : SlTy P t e 1]
    (hb : ∀ w, (Instr.buildSlice t 1 #[(0, .int .i64 n)]).run P w = .ok (.slice (some ⟨w.heap.size, 0, none⟩) 1 1) (w.alloc (.cells #[.int .i64 n] e)))
    (hx : T.ev x = .av (.val (.int .i64 n))) (hn : n = ↑p) : GV P E ⟨d, .buildSlice t 1 #[(0, x)], ty, pos, af, g⟩ T O (.av (.sl 1 1 (xf [p]))) [] [] :=
  g_bslice (is := [0]) (xs := [x]) (vs := [_]) (us := [_]) hb rfl (by simp only [List.map_cons, List.map_nil, hx]) rfl (fun i hi j hj => by
    obtain rfl : i = 0 := by omega
    obtain rfl : j = 0 := by omega
    subst hn
    exact ⟨_, rfl, rfl⟩)
theorem g_one_pr {t e : TypeId} {x : Operand} {m n : Int} {p q : Nat} [ht : SlTy P t e 2]
    (hb : ∀ w, (Instr.buildSlice t 1 #[(0, .agg #[.int .i64 m, .int .i64 n])]).run P w = .ok (.slice (some ⟨w.heap.size, 0, none⟩) 1 1) (w.alloc (.cells #[.int .i64 m, .int .i64 n] e)))
    (hx : T.ev x = .av (pv m n)) (hm : m = ↑p) (hn : n = ↑q) : GV P E ⟨d, .buildSlice t 1 #[(0, x)], ty, pos, af, g⟩ T O (.av (.sl 1 2 (qf [(p, q)]))) [] [] :=
  g_bslice (is := [0]) (xs := [x]) (vs := [_]) (us := [_, _]) hb rfl (by simp only [List.map_cons, List.map_nil, hx]) rfl (fun i hi j hj => by
    obtain rfl : i = 0 := by omega
    subst hm hn
    match j, hj with
    | 0, _ => exact ⟨_, rfl, rfl⟩
    | 1, _ => exact ⟨_, rfl, rfl⟩)
end
end Go.Vc
namespace Go.Vc
open Go Go.RowKit
section
variable {P : Program} {E : Env} {T T' : Tab} {O O' : Own} {o : Oper} {d : Option Tmp} {ty : TypeId} {pos : String} {af : Array Edge} {g : Option (Nat × Bool)}

/-- s[lo:] of a row of the call's own. -/
theorem g_from {t e : TypeId} {x y : Operand} {r n sz ety : Nat} {f : Nat → Nat → AV} {q : IntKind} {i : Int} {lo : Nat} [ht : SlTy P t e sz] (hx : T.ev x = .osl r) (hr : look O r = some (.row ety sz n f)) (hy : T.ev y = .av (.val (.int q i))) (hi : i = ↑lo) (hlo : lo ≤ n) (hn : 0 < n) :
    GV P E ⟨d, .slice t x (some y) none none, ty, pos, af, g⟩ T O (.osx r sz lo (n - lo)) [r] [] :=
  gv_pure [r] fun Z ν a w h hO => by
    have hv := osl_ok hx (h x (by simp [Op.operands]))
    have hvi := val_ok hy (h y (by simp [Op.operands]))
    subst hi
    rcases hO r (by simp) _ hr with ⟨_, h2⟩ | ⟨b, cap, arr, h1, _, _, _, hnc, _⟩
    · omega
    · refine ⟨.slice (if cap = lo then some ⟨b, 0, none⟩ else some ⟨b, lo * sz, none⟩) (n - lo) (cap - lo), ?_, b, n, cap, _, h1, rfl, fun hp => if_neg (by omega)⟩
      simp [execOp, Instr.sliceAt, Instr.slice, hv, h1, hvi, run_underlying ht.und, Instr.sliceBounds, Instr.sliceBound, asIntOf, ht.size w, hlo, add_addr]

theorem osx_ok {Z : Zone} {ν : Vals} {w : World} {T : Tab} {x : Operand} {a : Act} {r sz lo len : Nat} (hx : T.ev x = .osx r sz lo len) (h : (T.ev x).ok Z ν w (a.eval x)) :
    ∃ b n c p, ν r = .slice (some ⟨b, 0, none⟩) n c ∧ a.eval x = .slice p len (c - lo) ∧ (0 < len → p = some ⟨b, lo * sz, none⟩) := by
  rw [hx] at h; exact h

theorem g_len_osx {t e : TypeId} {x : Operand} {r lo len sz sz' : Nat} [ht : SlTy P t e sz'] (hx : T.ev x = .osx r sz lo len) :
    GV P E ⟨d, .call ⟨.builtin .len, #[x], #[t]⟩, ty, pos, af, g⟩ T O (.av (.val (.int .i64 len))) [] [] :=
  gv_pure [] fun Z ν a w h _ => by
    obtain ⟨b, n, c, p, _, hv, _⟩ := osx_ok hx (h x (by simp [Op.operands, Call.operands]))
    exact ⟨.int .i64 len, by simp [execOp, resolve, invoke, builtin, Builtin.len_, hv, run_underlying ht.und, goInt], rfl⟩

theorem g_index_osx {t e : TypeId} {x y : Operand} {r lo len sz : Nat} {q : IntKind} {i : Int} {k : Nat} [ht : SlTy P t e sz] (hx : T.ev x = .osx r sz lo len) (hy : T.ev y = .av (.val (.int q i)))
    (hi : i = ↑k) (hk : k < len) : GV P E ⟨d, .indexAddr t x y, ty, pos, af, g⟩ T O (.oel r sz (lo + k) 0) [] [] :=
  gv_pure [] fun Z ν a w h _ => by
    obtain ⟨b, n, c, p, hb, hv, hp⟩ := osx_ok hx (h x (by simp [Op.operands]))
    have hvi := val_ok hy (h y (by simp [Op.operands]))
    subst hi
    rw [hp (by omega)] at hv
    refine ⟨.pointer (some ⟨b, (lo + k) * sz, none⟩), ?_, b, n, c, hb, by simp⟩
    simp [execOp, Instr.indexAt, hvi, hv, asIntOf, run_underlying ht.und, ht.size w, hk, add_addr, Nat.add_mul]

/-- f with z in the place of all from lo on. -/
def rowClr (f : Nat → Nat → AV) (lo : Nat) (z : Value) : Nat → Nat → AV := fun i j => if lo ≤ i then .val z else f i j

/-- clear(s[lo:]), elements of one cell. -/
theorem g_clear {t e : TypeId} {x : Operand} {r lo n ety : Nat} {f : Nat → Nat → AV} {z : Value} [ht : SlTy P t e 1] (hv : ∀ w, (zeroValue e).run P w = .ok z w) (hz : z.cells = #[z]) (h1 : z.oneCell' = true) (hx : T.ev x = .osx r 1 lo (n - lo)) (hr : look O r = some (.row ety 1 n f)) :
    GV P E ⟨d, .call ⟨.builtin .clear, #[x], #[t]⟩, ty, pos, af, g⟩ T O (.av .any) [r] [(r, .row ety 1 n (rowClr f lo z))] := by
  refine ⟨fun T' O' hT hO => ⟨by intro c; simp, fun Z ν a w hs => ?_⟩⟩
  have ex := ev_ok hs x
  rw [ev_same (o := ⟨d, .call ⟨.builtin .clear, #[x], #[t]⟩, ty, pos, af, g⟩) hT (by simp [Op.operands, Call.operands])] at ex
  obtain ⟨b, m, c, p, hb, hax, hp⟩ := osx_ok hx ex
  have hr' : look O' r = some (.row ety 1 n f) := by rw [hO r (by simp)]; exact hr
  rcases hs.own.each r _ hr' with ⟨e1, _⟩ | ⟨b', cap, arr, e1, e2, e3, e4, e5, e6, e7, e8⟩
  · rw [hb] at e1; simp at e1
  have e1' := e1
  rw [hb] at e1
  simp only [Value.slice.injEq, Option.some.injEq, Addr.mk.injEq, and_true] at e1
  obtain ⟨rfl, rfl, rfl⟩ := e1
  by_cases hle : m ≤ lo
  · have h0 : m - lo = 0 := by omega
    rw [h0] at hax
    refine wp_value (w' := w) (v := .tuple #[]) ?_ ⟨_, Z, ν, rfl, ?_, trivial⟩
    · cases p <;> simp [execOp, resolve, invoke, builtin, hax, Builtin.clear_, run_underlying ht.und]
    · obtain ⟨Z2, ν2, h2⟩ : ∃ Z2 ν2, Z2 = Z ∧ ν2 = ν := ⟨Z, ν, rfl, rfl⟩
      refine ⟨hs.defers, hs.tsize, hs.cst, hs.base, ⟨fun k y hy => ?_, fun k k' hne q1 q2 => ?_⟩, hs.slot⟩
      · by_cases hk : k = r
        · subst hk
          simp only [List.cons_append, List.nil_append] at hy
          rw [look_cons_eq] at hy
          cases hy
          exact (RLe.row (f' := rowClr f lo z) rfl (fun i hi j hj => by unfold rowClr; rw [if_neg (by omega)])).ok (hs.own.each k _ hr')
        · simp only [List.cons_append, List.nil_append] at hy
          rw [look_cons_ne _ _ (fun e => hk e.symm)] at hy
          exact hs.own.each k y hy
      · have hh : ∀ k, look ([(r, Res.row ety 1 m (rowClr f lo z))] ++ O') k ≠ none → look O' k ≠ none := by
          intro k hk
          simp only [List.cons_append, List.nil_append] at hk
          by_cases hkr : k = r
          · subst hkr; rw [hr']; simp
          · rw [look_cons_ne _ _ (fun e => hkr e.symm)] at hk; exact hk
        exact hs.own.apart k k' hne (hh k q1) (hh k' q2)
  · have hpos : 0 < m - lo := by omega
    rw [hp hpos, Nat.mul_one] at hax
    have hst := run_storeCells_at P b lo ety (List.replicate (m - lo) z) 0 arr w e4 (by simp; omega) (by intro v hv'; rw [List.eq_of_mem_replicate hv']; exact h1)
    simp only [Nat.add_zero] at hst
    have hzc : (Builtin.zeroCells z.cells (m - lo)).toList = List.replicate (m - lo) z := by
      rw [hz]
      simp [Builtin.zeroCells]
      apply List.ext_getElem
      · simp
      · intro i h1 h2
        simp [Nat.mod_one]
    refine wp_value (w' := _) (v := .tuple #[]) ?_ ⟨_, Z, ν, rfl, hs.write hr' (b := b) (by rw [hb]; rfl) (w' := w.setRow b (arr.toList.take lo ++ List.replicate (m - lo) z ++ arr.toList.drop (lo + (List.replicate (m - lo) z).length)).toArray) rfl rfl rfl (by simp) (fun k hk => setRow_other w b k _ hk) (fun hsv => ?_), trivial⟩
    · obtain ⟨q, hq⟩ : ∃ q, m - lo = q + 1 := ⟨m - lo - 1, by omega⟩
      rw [hq] at hax hzc hst
      simp only [execOp, resolve, invoke, builtin, Sem.run_bind, Sem.run_pure, Result.andThen_ok, List.map_toArray, List.map_cons, List.map_nil, hax]
      simp [Builtin.clear_, run_underlying ht.und, hv, hzc, hst]
      rw [hq]
    · refine .inr ⟨b, c, _, e1', e2, e3, setRow_heap w b arr _ ety _ e4, e5, e6, ?_, fun i hi j hj => ?_⟩
      · rw [← e7]; simp; omega
      · obtain rfl : j = 0 := by omega
        obtain ⟨u0, hu0, hk0⟩ := e8 i hi 0 (by omega)
        simp only [Nat.mul_one, Nat.add_zero] at hu0 ⊢
        have hlt0 : i < arr.size := (Array.getElem?_eq_some_iff.1 hu0).1
        by_cases hil : lo ≤ i
        · refine ⟨z, ?_, by unfold rowClr; rw [if_pos hil]; exact rfl⟩
          simp only [List.getElem?_toArray, List.append_assoc]
          rw [List.getElem?_append_right (by simp; omega), List.getElem?_append_left (by simp; omega)]
          rw [List.getElem?_replicate, if_pos (by simp; omega)]
        · refine ⟨u0, ?_, by unfold rowClr; rw [if_neg hil]; exact hsv (.av _) _ hk0⟩
          simp only [List.getElem?_toArray, List.append_assoc]
          rw [List.getElem?_append_left (by simp; omega), List.getElem?_take_of_lt (by omega)]
          simpa using hu0
end
end Go.Vc
namespace Go.Vc
open Go Go.RowKit
section
variable {P : Program} {E : Env} {T T' : Tab} {O O' : Own} {o : Oper} {d : Option Tmp} {ty : TypeId} {pos : String} {af : Array Edge} {g : Option (Nat × Bool)}

theorem bevs_ok {Z : Zone} {ν : Vals} {a : Act} {w : World} (hs : SatZ E Z ν T O a w) : ∀ {xs : List Operand} {τs : List AV}, xs.map (bAV T O) = τs → All2 (fun τ v => AV.ok (fun k => Z k ∨ (k < w.heap.size ∧ ¬ E.keep k)) w τ v) τs (xs.map a.eval)
  | [], _, h => by subst h; exact trivial
  | x :: xs, _, h => by subst h; exact ⟨bAV_ok hs x, bevs_ok hs rfl⟩

theorem clo_args {Z : Zone} {w : World} {n : Nat} {cf : Nat → AV} {cs : List Value} (hl : cs.length = n) (hcs : ∀ i, i < n → ∃ u, cs[i]? = some u ∧ (cf i).ok Z w u) : All2 (fun τ v => AV.ok Z w τ v) ((List.range n).map cf) cs := by
  have : ∀ (m k : Nat) (cf : Nat → AV) (cs : List Value), cs.length = m → (∀ i, i < m → ∃ u, cs[i]? = some u ∧ (cf (k + i)).ok Z w u) → All2 (fun τ v => AV.ok Z w τ v) ((List.range' k m).map cf) cs := by
    intro m
    induction m with
    | zero => intro k cf cs hl _; rw [List.length_eq_zero_iff.1 hl]; trivial
    | succ m ih =>
      intro k cf cs hl h
      match cs, hl with
      | c0 :: cs, hl =>
        rw [List.range'_succ, List.map_cons]
        obtain ⟨u, hu, hk⟩ := h 0 (by omega)
        simp only [List.getElem?_cons_zero, Option.some.injEq] at hu
        subst hu
        refine ⟨hk, ih (k + 1) cf cs (by simpa using hl) (fun i hi => ?_)⟩
        obtain ⟨u, hu, hk⟩ := h (i + 1) (by omega)
        exact ⟨u, by simpa using hu, by rw [show k + 1 + i = k + (i + 1) from by omega]; exact hk⟩
  rw [List.range_eq_range']
  exact this n 0 cf cs hl (fun i hi => by rw [Nat.zero_add]; exact hcs i hi)

theorem all2_app {R : AV → Value → Prop} : ∀ {l : List AV} {m : List Value} {l' m'}, All2 R l m → All2 R l' m' → All2 R (l ++ l') (m ++ m')
  | [], [], _, _, _, h2 => h2
  | _ :: _, _ :: _, _, _, h1, h2 => ⟨h1.1, all2_app h1.2 h2⟩
  | [], _ :: _, _, _, h1, _ => h1.elim
  | _ :: _, [], _, _, h1, _ => h1.elim

/-- A closure called with own rows lent; it hands back a row of plain values. -/
theorem v_callc_row {f : FuncId} {c : Operand} {xs : List Operand} {ats : Array TypeId} {τs : List AV} {n : Nat} {cf : Nat → AV} {ety sz m : Nat} {fr : Nat → Nat → AV} (r : Nat) (hc : CtrR P f (τs ++ (List.range n).map cf) ety sz m fr []) (hf : T.ev c = .av (.clo f n cf)) (hx : xs.map (bAV T O) = τs)
    (hflat : ∀ i, i < m → ∀ j, j < sz → ∃ v, fr i j = .val v) :
    VStep P E ⟨d, .call ⟨.value c, xs.toArray, ats⟩, ty, pos, af, g⟩ T O (T.kill r) ((r, .row ety sz m fr) :: Own.kill r O) (.osl r) := by
  refine ⟨by intro c; simp, fun Z ν a w hs => ?_⟩
  have hev := bevs_ok hs hx
  have hfv := ev_ok hs c
  rw [hf] at hfv
  obtain ⟨cs, hfv, hl, hcs⟩ := hfv
  have hall := all2_app hev (clo_args hl (fun i hi => let ⟨u, hu, hk⟩ := hcs i hi; ⟨u, hu, AV.ok_mono (fun _ h => .inl h) (Nat.le_refl _) (fun _ _ _ => rfl) _ _ hk⟩))
  refine wp_enter (f := f) (args := (xs.map a.eval ++ cs).toArray) ?_ ?_
  · have hen := hc.enters (xs.map a.eval ++ cs).toArray w
    simp [execOp, resolve, Deferred.ofValue, hfv, invoke] at hen ⊢
    exact hen
  · refine Calls.mono (hc.calls w _ _ (fun k hk => by rcases hk with hk | hk; exact hs.base.zLt k hk; exact hk.1) hall) ?_
    rintro e w' ⟨v, u, Z', rfl, hr, hb, h1, h2, h3, h4⟩
    have hr' : u = v := hr
    subst hr'
    refine ⟨u, rfl, u, Z, updV ν r u, rfl, hs.calledRow hb (fun _ h => h) (fun _ h => .inl h) (fun k hk => Nat.lt_of_lt_of_le (hs.base.zLt k hk) hb.size) ?_, (if_pos rfl : updV ν r u r = u).symm⟩
    rcases h4 with h4 | ⟨b, cap, arr, e1, e2, e3, e4, e5, e6, e7, e8⟩
    · exact .inl h4
    · refine .inr ⟨b, cap, arr, e1, e2, fun hz => ?_, e4, e5, e6, e7, fun i hi j hj => ?_⟩
      · have := hs.base.zLt b hz; omega
      · obtain ⟨x, hx, hk⟩ := e8 i hi j hj
        obtain ⟨y, hy⟩ := hflat i hi j hj
        rw [hy] at hk ⊢
        exact ⟨x, hx, hk⟩
end
end Go.Vc
/-! A range over a function: the iterator's contract, the loop, the end of a function that holds one. -/
namespace Go.Vc
open Go Go.RowKit

/-! ### Blocks that hold no cells do not count -/
theorem cells_of {w : World} {b o : Nat} {u : Value} (h : w.cell? ⟨b, o, none⟩ = some u) : ∃ ob : Obj, w.heap[b]? = some ob ∧ ob.isCells = true := cells_of_cell (a := ⟨b, o, none⟩) h

theorem AV.ok_cells {Z Z' : Zone} {w w' : World} (hs : w.heap.size ≤ w'.heap.size) (hw : ∀ k ob, Z k → w.heap[k]? = some ob → ob.isCells = true → Z' k ∧ w'.heap[k]? = some ob) : ∀ (τ : AV) (v : Value), τ.ok Z w v → τ.ok Z' w' v := by
  have cl : ∀ {b o : Nat} {u : Value}, Z b → w.cell? ⟨b, o, none⟩ = some u → Z' b ∧ w'.cell? ⟨b, o, none⟩ = some u := by
    intro b o u hz hc
    obtain ⟨ob, h1, h2⟩ := cells_of hc
    obtain ⟨h3, h4⟩ := hw b ob hz h1 h2
    exact ⟨h3, by rw [cell_of_heap (h4.trans h1.symm)]; exact hc⟩
  intro τ
  induction τ with
  | any => intro v _; trivial
  | val u => intro v h; exact h
  | sl n sz row ih =>
    rintro v ⟨a, c, rfl, h1, h2, h3⟩
    refine ⟨a, c, rfl, h1, h2, fun hn => ?_⟩
    obtain ⟨b, o, rfl, hz, hb, hc⟩ := h3 hn
    refine ⟨b, o, rfl, fun hp => ?_, by omega, fun i hi j hj => ?_⟩
    · obtain ⟨u, hu, _⟩ := hc 0 hn 0 hp
      exact (cl (hz hp) hu).1
    · obtain ⟨u, hu, hk⟩ := hc i hi j hj
      exact ⟨u, (cl (hz (Nat.lt_of_le_of_lt (Nat.zero_le _) hj)) hu).2, ih i j u hk⟩
  | slc n sz row ih =>
    rintro v ⟨a, rfl, h2, h3⟩
    refine ⟨a, rfl, h2, fun hn => ?_⟩
    obtain ⟨b, o, rfl, hz, hb, hc⟩ := h3 hn
    refine ⟨b, o, rfl, fun hp => ?_, by omega, fun i hi j hj => ?_⟩
    · obtain ⟨u, hu, _⟩ := hc 0 hn 0 hp
      exact (cl (hz hp) hu).1
    · obtain ⟨u, hu, hk⟩ := hc i hi j hj
      exact ⟨u, (cl (hz (Nat.lt_of_le_of_lt (Nat.zero_le _) hj)) hu).2, ih i j u hk⟩
  | ptr n f ih =>
    rintro v ⟨b, o, rfl, hz, hb, hc⟩
    refine ⟨b, o, rfl, fun hp => ?_, by omega, fun i hi => ?_⟩
    · obtain ⟨u, hu, _⟩ := hc 0 hp
      exact (cl (hz hp) hu).1
    · obtain ⟨u, hu, hk⟩ := hc i hi
      exact ⟨u, (cl (hz (Nat.lt_of_le_of_lt (Nat.zero_le _) hi)) hu).2, ih i u hk⟩
  | agg n f ih =>
    rintro v ⟨cs, rfl, hl, hc⟩
    exact ⟨cs, rfl, hl, fun i hi => let ⟨u, hu, hk⟩ := hc i hi; ⟨u, hu, ih i u hk⟩⟩
  | tup n f ih =>
    rintro v ⟨cs, rfl, hl, hc⟩
    exact ⟨cs, rfl, hl, fun i hi => let ⟨u, hu, hk⟩ := hc i hi; ⟨u, hu, ih i u hk⟩⟩
  | clo k n f ih =>
    rintro v ⟨cs, rfl, hl, hc⟩
    exact ⟨cs, rfl, hl, fun i hi => let ⟨u, hu, hk⟩ := hc i hi; ⟨u, hu, ih i u hk⟩⟩

theorem CV.ok_av {Z Z' : Zone} {ν : Vals} {w w' : World} (h : ∀ (τ : AV) (v : Value), τ.ok Z w v → τ.ok Z' w' v) (s : CV) (v : Value) (hs : s.ok Z ν w v) : s.ok Z' ν w' v := by
  cases s with
  | av τ => exact h τ v hs
  | own r off => exact hs
  | osl r => exact hs
theorem SV.ok_av {Z Z' : Zone} {ν : Vals} {w w' : World} (h : ∀ (τ : AV) (v : Value), τ.ok Z w v → τ.ok Z' w' v) (s : SV) (v : Value) (hs : s.ok Z ν w v) : s.ok Z' ν w' v := by
  cases s with
  | av τ => exact h τ v hs
  | own r off => exact hs
  | osl r => exact hs
  | oel r sz i j => exact hs
  | osx r sz lo len => exact hs
  | clo k cs => obtain ⟨vs, h1, h2⟩ := hs; exact ⟨vs, h1, h2.mono fun c _ u hu => CV.ok_av h c u hu⟩
  | tupR r ρs => obtain ⟨us, h1, h2⟩ := hs; exact ⟨us, h1, h2.mono fun c _ u hu => h c u hu⟩

theorem Res.isCells {E : Env} {Z : Zone} {ν : Vals} {w : World} {v : Value} {x : Res} (h : x.ok E Z ν w v) {b : Nat} (hb : blkOf v = some b) : ∃ ob, w.heap[b]? = some ob ∧ ob.isCells = true ∧ ¬ Z b ∧ ¬ E.keep b := by
  cases x with
  | cells cs =>
    obtain ⟨b', ty, arr, rfl, h2, h3, h4, _⟩ := h
    simp only [blkOf, Option.some.injEq] at hb
    subst hb
    exact ⟨_, h4, rfl, h3, h2⟩
  | row ty sz n f =>
    rcases h with ⟨rfl, _⟩ | ⟨b', cap, arr, rfl, h2, h3, h4, _⟩
    · simp [blkOf] at hb
    · simp only [blkOf, Option.some.injEq] at hb
      subst hb
      exact ⟨_, h4, rfl, h3, h2⟩

/-- A row of the call's own in another world and environment in which its block lies as it lay. -/
theorem Res.ok_env {E E' : Env} {Z Z' : Zone} {ν : Vals} {w w' : World} {v : Value} {x : Res} (h : x.ok E Z ν w v) (hav : ∀ (τ : AV) (v : Value), τ.ok Z w v → τ.ok Z' w' v)
    (hb : ∀ b, blkOf v = some b → ¬ Z' b ∧ ¬ E'.keep b ∧ w'.heap[b]? = w.heap[b]?) : x.ok E' Z' ν w' v := by
  cases x with
  | cells cs =>
    obtain ⟨b', ty, arr, rfl, h2, h3, h4, h5, h6⟩ := h
    obtain ⟨q1, q2, q3⟩ := hb b' rfl
    exact ⟨b', ty, arr, rfl, q2, q1, q3.trans h4, h5, fun i s hi => let ⟨u, hu, hk⟩ := h6 i s hi; ⟨u, hu, SV.ok_av hav s u hk⟩⟩
  | row ty sz n f =>
    rcases h with h1 | ⟨b', cap, arr, rfl, h2, h3, h4, h5, h6, h7, h8⟩
    · exact .inl h1
    · obtain ⟨q1, q2, q3⟩ := hb b' rfl
      exact .inr ⟨b', cap, arr, rfl, q2, q1, q3.trans h4, h5, h6, h7, fun i hi j hj => let ⟨u, hu, hk⟩ := h8 i hi j hj; ⟨u, hu, hav _ _ hk⟩⟩

/-- From one environment, world and frame to others: what slots and rows say holds on. -/
theorem SatZ.shift {E E' : Env} {Z Z' : Zone} {ν : Vals} {T : Tab} {O : Own} {a a' : Act} {w w' : World} (h : SatZ E Z ν T O a w) (hd : a'.defers = E'.marks) (hN : a'.tmps.size = E'.N)
    (hc : ∀ d v, E'.cst d = some v → a'.tmps.getD d undef = v) (hb : Base E' Z' w') (hav : ∀ (τ : AV) (v : Value), τ.ok Z w v → τ.ok Z' w' v)
    (hown : ∀ r, look O r ≠ none → ∀ b, blkOf (ν r) = some b → ¬ Z' b ∧ ¬ E'.keep b ∧ w'.heap[b]? = w.heap[b]?)
    (hsl : ∀ d, look T d ≠ none → a'.tmps.getD d undef = a.tmps.getD d undef) : SatZ E' Z' ν T O a' w' := by
  refine ⟨hd, hN, hc, hb, ⟨fun r x hx => Res.ok_env (h.own.each r x hx) hav (hown r (by rw [hx]; simp)), h.own.apart⟩, fun d => ?_⟩
  by_cases hT : look T d = none
  · simp only [Tab.get, hT]; trivial
  · rw [hsl d hT]; exact SV.ok_av hav _ _ (h.slot d)

/-! ### The iterator's contract -/
/-- What a round keeps for the iterator: the cells of what it reads, and of what was made behind b0. -/
def KpI (ZI : Zone) (B : Option Nat) (A W : World) : Prop :=
  W.os = A.os ∧ W.tape = A.tape ∧ W.output = A.output ∧ A.heap.size ≤ W.heap.size ∧ ∀ k o, (ZI k ∨ ∃ b, B = some b ∧ b ≤ k) → A.heap[k]? = some o → o.isCells = true → W.heap[k]? = some o
theorem KpI.trans {ZI : Zone} {B : Option Nat} {A W X : World} (h : KpI ZI B A W) (k : KpI ZI B W X) : KpI ZI B A X :=
  ⟨k.1.trans h.1, k.2.1.trans h.2.1, k.2.2.1.trans h.2.2.1, Nat.le_trans h.2.2.2.1 k.2.2.2.1, fun i o hi ho hc => k.2.2.2.2 i o hi (h.2.2.2.2 i o hi ho hc) hc⟩
theorem KpI.putObj {ZI : Zone} {B : Option Nat} {W : World} {l : Nat} {o o' : Obj} (hl : W.heap[l]? = some o) (hc : o.isCells = false) : KpI ZI B W (W.putObj l o') := by
  refine ⟨rfl, rfl, rfl, by simp [World.putObj], fun k ob _ hk hcell => ?_⟩
  rw [World.putObj_heap_other (fun e => ?_)]
  · exact hk
  · subst e; rw [hl] at hk; cases hk; rw [hc] at hcell; cases hcell

def kpB (own : Bool) (n : Nat) : Option Nat := match own with | true => some n | false => none
structure CtrI (P : Program) (gf : FuncId) (caps : List AV) (V : List Value → Prop) (xs : List (List Value)) (own : Bool) : Prop where
  enters : Enters P gf
  gives : ∀ (w : World) (Z : Zone) (cs : List Value), (∀ k, Z k → k < w.heap.size) → All2 (fun τ v => AV.ok Z w τ v) caps cs →
    SeqStopsK (α := { x : List Value // V x }) (fc none) 1 P gf cs.toArray (fun x => x.1.toArray) (KpI Z (kpB own w.heap.size)) (fun ys => ys.map Subtype.val = xs)
      (fun pre => ∃ k, k < xs.length ∧ pre.map Subtype.val = xs.take (k + 1)) xs.length w

/-! ### The loop -/
def memB : List Nat → Nat → Bool
  | [], _ => false
  | x :: l, d => match Nat.beq x d with | true => true | false => memB l d
theorem memB_iff : ∀ {l : List Nat} {d : Nat}, memB l d = true ↔ d ∈ l
  | [], d => by simp [memB]
  | x :: l, d => by
    unfold memB
    by_cases h : x = d
    · subst h; simp
    · have : Nat.beq x d = false := by
        cases hb : Nat.beq x d with
        | false => rfl
        | true => exact absurd (Nat.eq_of_beq_eq_true hb) h
      simp only [this, memB_iff, List.mem_cons]
      constructor
      · exact .inr
      · rintro (e | e)
        · exact absurd e.symm h
        · exact e
def snap (ws : List Nat) (a : Act) (d : Nat) : Option Value := match memB ws d with | true => none | false => some (a.tmps.getD d undef)
/-- The environment of a round of a loop. -/
def Env.rnd (E : Env) (l : Nat) (ws : List Nat) (a : Act) (w : World) (Z : Zone) (keep : Nat → Prop) : Env :=
  { N := E.N, round := some l, cst := snap ws a, keep := keep, w0 := w, Z0 := Z }
/-- The environment behind a loop whose mark is D. -/
def Env.after (E : Env) (D : Nat) (w : World) : Env :=
  { N := E.N, round := none, cst := E.cst, keep := fun k => E.keep k ∨ k = D, w0 := w, Z0 := E.Z0, marks := { target := .collected D, args := #[] } :: E.marks }
/-- What stands in the frame and the memory when a round ends. -/
def rndPost (E : Env) (T : Tab) (O : Own) (φ : Prop) (Ox : Code → Own) (φx : Code → Prop) : Exit → Act → World → Prop
  | .normal, a, w => φ ∧ Sat E T O a w
  | .ret, a, w => φx .ret ∧ Sat E T (Ox .ret) a w
  | .exit id, a, w => φx (.exit id) ∧ Sat E T (Ox (.exit id)) a w
  | _, _, _ => False

def psT : List Nat → List Value → Tab
  | p :: ps, v :: vs => (p, .av (.val v)) :: psT ps vs
  | _, _ => []
/-- Each row of the table is held by a slot of its own. -/
def pinned (T : Tab) : Own → Bool
  | [] => true
  | p :: O => match T.any (fun q => match look T q.1 with | some (.own r 0) => Nat.beq r p.1 | _ => false) with | true => pinned T O | false => false
theorem pinned_slot {T : Tab} : ∀ {O : Own}, pinned T O = true → ∀ r, look O r ≠ none → ∃ d, T.get d = .own r 0
  | [], _, r, h => absurd rfl h
  | p :: O, hp, r, h => by
    unfold pinned at hp
    split at hp
    · rename_i h1
      by_cases hr : p.1 = r
      · subst hr
        obtain ⟨q, _, hq⟩ := List.any_eq_true.1 h1
        split at hq
        · rename_i r' h2
          have := Nat.eq_of_beq_eq_true hq
          subst this
          exact ⟨q.1, by simp only [Tab.get, h2]⟩
        · cases hq
      · exact pinned_slot hp r (by obtain ⟨k, x⟩ := p; rwa [look_cons_ne _ _ hr] at h)
    · cases hp
def onlyVals : Tab → Bool
  | [] => true
  | (_, .av (.val _)) :: T => onlyVals T
  | _ :: _ => false
theorem onlyVals_ok {Z Z' : Zone} {ν ν' : Vals} {w w' : World} {v : Value} : ∀ {T : Tab}, onlyVals T = true → ∀ d, (T.get d).ok Z ν w v → (T.get d).ok Z' ν' w' v
  | [], _, d, _ => trivial
  | (k, .av (.val u)) :: T, h, d, hv => by
    by_cases hd : k = d
    · subst hd; rw [Tab.get_cons_eq] at hv ⊢; exact hv
    · rw [Tab.get_cons_ne _ _ hd] at hv ⊢; exact onlyVals_ok (T := T) h d hv

theorem foldl_set (l : List (Nat × Value)) (t : Array Value) : (l.foldl (fun t p => t.setIfInBounds p.1 p.2) t).size = t.size := by
  induction l generalizing t with
  | nil => rfl
  | cons p l ih => rw [List.foldl_cons, ih]; simp
theorem foldl_set_other (l : List (Nat × Value)) (t : Array Value) (d : Nat) (h : ∀ p ∈ l, p.1 ≠ d) : (l.foldl (fun t p => t.setIfInBounds p.1 p.2) t).getD d undef = t.getD d undef := by
  induction l generalizing t with
  | nil => rfl
  | cons p l ih =>
    rw [List.foldl_cons, ih _ (fun q hq => h q (by simp [hq]))]
    simp [Array.getD_eq_getD_getElem?, Array.getElem?_setIfInBounds_ne (h p (by simp))]
theorem psT_look : ∀ (ps : List Nat) (vs : List Value) (t : Array Value), (∀ p ∈ ps, p < t.size) → ps.length = vs.length → ps.Nodup → ∀ d,
    (∃ v, look (psT ps vs) d = some (.av (.val v)) ∧ ((ps.zip vs).foldl (fun t p => t.setIfInBounds p.1 p.2) t).getD d undef = v) ∨
    (look (psT ps vs) d = none ∧ ((ps.zip vs).foldl (fun t p => t.setIfInBounds p.1 p.2) t).getD d undef = t.getD d undef)
  | [], [], t, _, _, _, d => .inr ⟨rfl, rfl⟩
  | p :: ps, v :: vs, t, hlt, hl, hnd, d => by
    simp only [psT, List.zip_cons_cons, List.foldl_cons]
    obtain ⟨hp, hnd'⟩ := List.nodup_cons.1 hnd
    by_cases hd : p = d
    · subst hd
      refine .inl ⟨v, look_cons_eq _ _ _, ?_⟩
      rw [foldl_set_other _ _ _ (fun q hq => fun e => hp (by
        rw [← e]
        exact (List.of_mem_zip (show (q.1, q.2) ∈ ps.zip vs from hq)).1))]
      have := hlt p (by simp)
      simp [Array.getD_eq_getD_getElem?, this]
    · rw [look_cons_ne _ _ hd]
      rcases psT_look ps vs (t.setIfInBounds p v) (fun q hq => by simpa using hlt q (by simp [hq])) (by simpa using hl) hnd' d with h | ⟨h1, h2⟩
      · exact .inl h
      · refine .inr ⟨h1, h2.trans ?_⟩
        simp [Array.getD_eq_getD_getElem?, Array.getElem?_setIfInBounds_ne hd]
  | [], _ :: _, _, _, hl, _, _ => by simp at hl
  | _ :: _, [], _, _, hl, _, _ => by simp at hl
theorem look_app {α : Type} : ∀ (l m : List (Nat × α)) (d : Nat), look (l ++ m) d = match look l d with | some s => some s | none => look m d
  | [], m, d => rfl
  | (k, s) :: l, m, d => by
    by_cases h : k = d
    · subst h; simp [look]
    · rw [List.cons_append, look_cons_ne _ _ h, look_cons_ne _ _ h, look_app l m d]

section
variable {E : Env} {T : Tab} {O : Own} {a : Act} {w W W' : World} {Z : Zone} {ν : Vals}
/-- Where a loop stands, the call's own blocks apart. -/
def ownB (O : Own) (ν : Vals) (k : Nat) : Prop := ∃ r, look O r ≠ none ∧ blkOf (ν r) = some k
/-- The loop's own environment: all that is there stays, but for the call's own blocks. -/
def Env.lp (E : Env) (O : Own) (ν : Vals) (w : World) (Z : Zone) : Env := { N := E.N, cst := fun _ => none, keep := fun k => k < w.heap.size ∧ ¬ ownB O ν k, w0 := w, Z0 := Z, marks := E.marks }
theorem own_blk (h : SatZ E Z ν T O a w) {k : Nat} (hk : ownB O ν k) : ∃ ob, w.heap[k]? = some ob ∧ ob.isCells = true ∧ ¬ Z k ∧ ¬ E.keep k := by
  obtain ⟨r, h1, h2⟩ := hk
  obtain ⟨x, hx⟩ := Option.ne_none_iff_exists'.1 h1
  exact Res.isCells (h.own.each r x hx) h2

/-- Into an environment that keeps all but the call's own. -/
theorem SatZ.rebase {E' : Env} (h : SatZ E Z ν T O a w) (hm : a.defers = E'.marks) (hN : E'.N = E.N) (hc : ∀ d v, E'.cst d = some v → a.tmps.getD d undef = v)
    (hk : ∀ k, E'.keep k → k < w.heap.size ∧ ¬ ownB O ν k) (hw : E'.w0 = w) (hZ : E'.Z0 = Z) : SatZ E' Z ν T O a w := by
  obtain ⟨EN, Ero, Ec, Ek, Ew, EZ, Em⟩ := E'
  simp only at hm hN hc hk hw hZ
  subst hw
  subst hZ
  refine h.shift hm (h.tsize.trans hN.symm) hc ⟨rfl, rfl, rfl, Nat.le_refl _, fun k q => (hk k q).1, fun _ _ => rfl, h.base.zLt, fun _ q => q, fun _ q => .inl q⟩ (fun _ _ q => q) (fun r hr b hb => ?_) (fun _ _ => rfl)
  obtain ⟨_, _, _, h3, _⟩ := own_blk h ⟨r, hr, hb⟩
  exact ⟨h3, fun q => (hk b q).2 ⟨r, hr, hb⟩, rfl⟩

/-- A block without cells that is no more what it was. -/
theorem SatZ.other (h : SatZ E Z ν T O a W) {row : Option Nat} (hg : W.grownBy W' row) (hB : ∀ k, E.keep k → k < w.heap.size) (hZ0 : ∀ k, E.Z0 k → k < w.heap.size) (hr : ∀ r, row = some r → w.heap.size ≤ r ∧ ∃ o : Obj, W.heap[r]? = some o ∧ o.isCells = false) : ∃ Z', SatZ E Z' ν T O a W' := by
  have hne : ∀ (k : Nat) (ob : Obj), W.heap[k]? = some ob → ob.isCells = true → W'.heap[k]? = W.heap[k]? := fun k ob hk hc => by
    refine hg.block k (Array.getElem?_eq_some_iff.1 hk).1 (fun e => ?_)
    obtain ⟨_, o, ho, hoc⟩ := hr k e.symm
    rw [hk] at ho; cases ho; rw [hc] at hoc; cases hoc
  refine ⟨fun k => Z k ∧ ∀ r, row = some r → k ≠ r, h.shift h.defers h.tsize h.cst ⟨hg.os.trans h.base.os, hg.tape.trans h.base.tape, hg.output.trans h.base.output, Nat.le_trans h.base.size hg.size, h.base.keepLt, fun k hk => ?_, fun k hk => Nat.lt_of_lt_of_le (h.base.zLt k hk.1) hg.size, fun k hk => ⟨h.base.z0 k hk, fun r hr' e => ?_⟩, fun k hk => h.base.zNew k hk.1⟩ ?_ (fun r hr' b hb => ?_) (fun _ _ => rfl)⟩
  · refine (hg.block k (Nat.lt_of_lt_of_le (h.base.keepLt k hk) h.base.size) (fun e => ?_)).trans (h.base.kept k hk)
    have := hB k hk
    have := (hr k e.symm).1
    omega
  · subst e
    have := hZ0 k hk
    have := (hr k hr').1
    omega
  · refine AV.ok_cells hg.size (fun k ob hz hk hc => ⟨⟨hz, fun r hr' e => ?_⟩, (hne k ob hk hc).trans hk⟩)
    subst e
    obtain ⟨_, o, ho, hoc⟩ := hr k hr'
    rw [hk] at ho; cases ho; rw [hc] at hoc; cases hoc
  · obtain ⟨ob, h1, h2, h3, h4⟩ := own_blk h ⟨r, hr', hb⟩
    exact ⟨fun q => h3 q.1, h4, hne b ob h1 h2⟩

theorem pin_eq {E' : Env} {Z' : Zone} {ν' : Vals} {O' : Own} {a : Act} (h : SatZ E Z ν T O a w) (h' : SatZ E' Z' ν' T O' a W) (hp : pinned T O' = true) : ∀ r, look O' r ≠ none → ν' r = ν r := by
  intro r hr
  obtain ⟨d, hd⟩ := pinned_slot hp r hr
  have e1 := h.slot d
  have e2 := h'.slot d
  rw [hd] at e1 e2
  obtain ⟨b, q1, q2⟩ := e1
  obtain ⟨b', q3, q4⟩ := e2
  rw [q1, q3, ← q2, ← q4]
end

section
variable {P : Program} {E : Env} {Q : Exit → Act → World → Prop} {T : Tab} {O : Own}
theorem fc_none : fc none = Fence.wide := rfl
theorem fc_in (l : Nat) : (fc none).inRound l = fc (some l) := rfl

theorem get_app_not {T1 T2 : Tab} {d : Nat} (h : look T1 d = none) : Tab.get (T1 ++ T2) d = T2.get d := by
  simp only [Tab.get, look_app, h]
theorem get_app_in {T1 T2 : Tab} {d : Nat} (h : look T1 d ≠ none) : Tab.get (T1 ++ T2) d = T1.get d := by
  obtain ⟨s, hs⟩ := Option.ne_none_iff_exists'.1 h
  simp only [Tab.get, look_app, hs]
theorem look_in {α : Type} : ∀ {T : List (Nat × α)} {d : Nat} {s : α}, look T d = some s → ∃ p ∈ T, p.1 = d
  | [], _, _, h => by simp [look] at h
  | (k, s') :: T, d, s, h => by
    by_cases hd : k = d
    · exact ⟨(k, s'), by simp, hd⟩
    · rw [look_cons_ne _ _ hd] at h
      obtain ⟨p, hp, e⟩ := look_in h
      exact ⟨p, by simp [hp], e⟩

/-- What a round's assignments leave in the slots that a round may write. -/
def AxI (E : Env) (a : Act) (ws : List Nat) (w : World) (Zw : Zone) (PB : Nat → Prop) (own : Bool) (TX : List Value → Tab) (x : List Value) (a' : Act) (W : World) : Prop :=
  a'.defers = [] ∧ a'.tmps.size = E.N ∧ (∀ d, memB ws d = false → a'.tmps.getD d undef = a.tmps.getD d undef) ∧
    ∀ d, look (TX x) d ≠ none → ((TX x).get d).ok (fun k => k < W.heap.size ∧ own = true ∧ ¬ PB k ∧ (Zw k ∨ w.heap.size ≤ k)) (fun _ => undef) W (a'.tmps.getD d undef)
/-- Slots of plain kinds only. -/
def avs : Tab → Bool
  | [] => true
  | (_, .av _) :: T => avs T
  | _ :: _ => false
theorem avs_get : ∀ {T : Tab}, avs T = true → ∀ d, ∃ τ, T.get d = .av τ
  | [], _, d => ⟨.any, rfl⟩
  | (k, .av τ) :: T, h, d => by
    by_cases hd : k = d
    · subst hd; exact ⟨τ, Tab.get_cons_eq _ _ _⟩
    · rw [Tab.get_cons_ne _ _ hd]; exact avs_get (T := T) h d

/-- Behind a loop with the mark D. -/
structure AfterOk (E : Env) (D : Nat) (w2 : World) : Prop where
  base : ∃ Z2, Base E Z2 w2
  lo : E.w0.heap.size ≤ D
  z : ¬ E.Z0 D
  heap : w2.heap[D]? = some (.deferred (some []))

theorem SatZ.sub {E : Env} {T T' : Tab} {O : Own} {a : Act} {w : World} {Z : Zone} {ν : Vals} (h : SatZ E Z ν T' O a w) (hT : ∀ d, look T d ≠ none → T.get d = T'.get d) : SatZ E Z ν T O a w := by
  refine ⟨h.defers, h.tsize, h.cst, h.base, h.own, fun d => ?_⟩
  by_cases hd : look T d = none
  · simp only [Tab.get, hd]; trivial
  · rw [hT d hd]; exact h.slot d

theorem caps_ok {Zw : Zone} {w : World} : ∀ (m k : Nat) (cf : Nat → AV) (cs : List Value), cs.length = m → (∀ i, i < m → ∃ u, cs[i]? = some u ∧ (cf (k + i)).ok Zw w u) → All2 (fun τ v => AV.ok Zw w τ v) ((List.range' k m).map cf) cs := by
  intro m
  induction m with
  | zero => intro k cf cs hl _; rw [List.length_eq_zero_iff.1 hl]; trivial
  | succ m ih =>
    intro k cf cs hl h
    match cs, hl with
    | c0 :: cs, hl =>
      rw [List.range'_succ, List.map_cons]
      obtain ⟨u, hu, hk⟩ := h 0 (by omega)
      simp only [List.getElem?_cons_zero, Option.some.injEq] at hu
      subst hu
      refine ⟨hk, ih (k + 1) cf cs (by simpa using hl) (fun i hi => ?_)⟩
      obtain ⟨u, hu, hk⟩ := h (i + 1) (by omega)
      exact ⟨u, by simpa using hu, by rw [show k + 1 + i = k + (i + 1) from by omega]; exact hk⟩

/-- What the loop rule works with. -/
structure LpOk (E : Env) (ws : List Nat) (TL : Tab) (O0 : Own) (Zw : Zone) (ν0 : Vals) (a : Act) (w : World) : Prop where
  hw : SatZ E Zw ν0 TL O0 a w
  tl : ∀ d, look TL d ≠ none → memB ws d = false
/-- The loop's own environment. -/
def Env.lpE (E : Env) (O : Own) (ν : Vals) (w : World) (Z : Zone) : Env := { N := E.N, keep := fun k => k < w.heap.size ∧ ¬ ownB O ν k, w0 := w, Z0 := Z, marks := E.marks }
section
variable {ws : List Nat} {TL : Tab} {O0 : Own} {Zw : Zone} {ν0 : Vals} {a : Act} {w : World}
theorem LpOk.keep (L : LpOk E ws TL O0 Zw ν0 a w) {k : Nat} (hk : E.keep k) : (E.lpE O0 ν0 w Zw).keep k :=
  ⟨Nat.lt_of_lt_of_le (L.hw.base.keepLt k hk) L.hw.base.size, fun ho => by obtain ⟨_, _, _, _, q⟩ := own_blk L.hw ho; exact q hk⟩
theorem LpOk.base (L : LpOk E ws TL O0 Zw ν0 a w) {Z : Zone} {W : World} (h : Base (E.lpE O0 ν0 w Zw) Z W) : Base E Z W :=
  ⟨h.os.trans L.hw.base.os, h.tape.trans L.hw.base.tape, h.output.trans L.hw.base.output, Nat.le_trans L.hw.base.size h.size, L.hw.base.keepLt, fun k hk => (h.kept k (L.keep hk)).trans (L.hw.base.kept k hk), h.zLt, fun k hk => h.z0 k (L.hw.base.z0 k hk), fun k hk => by
    rcases h.zNew k hk with q | q
    · exact L.hw.base.zNew k q
    · exact .inr fun q' => q (L.keep q')⟩
theorem LpOk.start (L : LpOk E ws TL O0 Zw ν0 a w) : SatZ (E.lpE O0 ν0 w Zw) Zw ν0 TL O0 a w := L.hw.rebase L.hw.defers rfl (fun _ _ h => by cases h) (fun k h => h) rfl rfl
theorem LpOk.pin (L : LpOk E ws TL O0 Zw ν0 a w) {O1 : Own} (hp : pinned TL O1 = true) (hk : ∀ r, look O1 r ≠ none ↔ look O0 r ≠ none) {E' : Env} {Z : Zone} {ν : Vals} {W : World} {a' : Act} {T' : Tab}
    (h : SatZ E' Z ν T' O1 a' W) (hT : ∀ d, look TL d ≠ none → TL.get d = T'.get d) (hsl : ∀ d, memB ws d = false → a'.tmps.getD d undef = a.tmps.getD d undef) : ∀ k, ownB O1 ν k ↔ ownB O0 ν0 k := by
  intro k
  have heq : ∀ r, look O1 r ≠ none → ν r = ν0 r := by
    intro r hr
    obtain ⟨d, hd⟩ := pinned_slot hp r hr
    have hdn : look TL d ≠ none := fun e => by simp [Tab.get, e] at hd
    have e1 := L.hw.slot d
    have e2 := h.slot d
    rw [← hT d hdn] at e2
    rw [hd] at e1 e2
    rw [hsl d (L.tl d hdn)] at e2
    obtain ⟨b, q1, q2⟩ := e1
    obtain ⟨b', q3, q4⟩ := e2
    rw [q1, q3, ← q2, ← q4]
  constructor
  · rintro ⟨r, h1, h2⟩; exact ⟨r, (hk r).1 h1, by rw [← heq r h1]; exact h2⟩
  · rintro ⟨r, h1, h2⟩; exact ⟨r, (hk r).2 h1, by rw [heq r ((hk r).2 h1)]; exact h2⟩
/-- The world of a round's part: what it keeps. -/
theorem LpOk.kept (L : LpOk E ws TL O0 Zw ν0 a w) {l : Nat} {W W' : World} {Z Zs Z' : Zone} {ν : Vals} {O1 : Own} {a1 : Act} (h1 : SatZ (E.lpE O0 ν0 w Zw) Z ν TL O1 a1 W)
    (hb : Base (E.rnd l ws a W Zs (fun k => k < W.heap.size ∧ ¬ ownB O1 ν k)) Z' W') {own : Bool} (hown : own = true → ∀ k, ownB O1 ν k ↔ ownB O0 ν0 k) :
    KeepsFrom w.heap.size W W' ∧ KpI Zw (kpB own w.heap.size) W W' := by
  refine ⟨⟨hb.size, fun k o _ hk hc => ?_⟩, hb.os, hb.tape, hb.output, hb.size, fun k o hk hko hc => ?_⟩
  · refine (hb.kept k ⟨(Array.getElem?_eq_some_iff.1 hk).1, fun ho => ?_⟩).trans hk
    obtain ⟨ob, e1, e2, _⟩ := own_blk h1 ho
    rw [hk] at e1; cases e1; rw [hc] at e2; cases e2
  · refine (hb.kept k ⟨(Array.getElem?_eq_some_iff.1 hko).1, fun ho => ?_⟩).trans hko
    rcases hk with hk | ⟨b, hB, hbk⟩
    · obtain ⟨_, _, _, q, _⟩ := own_blk h1 ho
      exact q (h1.base.z0 k hk)
    · cases own with
      | false => cases hB
      | true =>
        cases hB
        obtain ⟨ob, e1, _⟩ := own_blk L.hw ((hown rfl k).1 ho)
        have := (Array.getElem?_eq_some_iff.1 e1).1
        omega
/-- Back out of a round. -/
theorem LpOk.back (L : LpOk E ws TL O0 Zw ν0 a w) {l : Nat} {W W' : World} {Z Zs Z' : Zone} {ν ν' : Vals} {O1 O2 : Own} {T' : Tab} {a1 a2 : Act} (h1 : SatZ (E.lpE O0 ν0 w Zw) Z ν TL O1 a1 W)
    (hZ1 : ∀ k, Z k → Zs k) (hZ2 : ∀ k, Zs k → Z k ∨ Zw k ∨ w.heap.size ≤ k)
    (h2 : SatZ (E.rnd l ws a W Zs (fun k => k < W.heap.size ∧ ¬ ownB O1 ν k)) Z' ν' T' O2 a2 W') (hT : ∀ d, look TL d ≠ none → TL.get d = T'.get d) : SatZ (E.lpE O0 ν0 w Zw) Z' ν' TL O2 a W' := by
  have kk : ∀ k, (E.lpE O0 ν0 w Zw).keep k → (k < W.heap.size ∧ ¬ ownB O1 ν k) := fun k hk => ⟨Nat.lt_of_lt_of_le (h1.base.keepLt k hk) h1.base.size, fun ho => by
    obtain ⟨_, _, _, _, q⟩ := own_blk h1 ho; exact q hk⟩
  refine (h2.sub hT).shift L.hw.defers L.hw.tsize (fun d v hv => by cases hv) ⟨h2.base.os.trans h1.base.os, h2.base.tape.trans h1.base.tape, h2.base.output.trans h1.base.output, Nat.le_trans h1.base.size h2.base.size, h1.base.keepLt, fun k hk => (h2.base.kept k (kk k hk)).trans (h1.base.kept k hk), h2.base.zLt, fun k hk => h2.base.z0 k (hZ1 k (h1.base.z0 k hk)), fun k hk => ?_⟩ (fun _ _ q => q) (fun r hr b hb => ?_) (fun d hd => ?_)
  · rcases h2.base.zNew k hk with q | q
    · rcases hZ2 k q with q | q | q
      · exact h1.base.zNew k q
      · exact .inl q
      · exact .inr fun q' => by have := q'.1; omega
    · exact .inr fun q' => q (kk k q')
  · obtain ⟨ob, e1, e2, e3, e4⟩ := own_blk h2 ⟨r, hr, hb⟩
    exact ⟨e3, fun q => e4 (kk b q), rfl⟩
  · exact (h2.cst d _ (by show snap ws a d = _; unfold snap; rw [L.tl d hd])).symm
/-- Behind the loop. -/
theorem LpOk.done (L : LpOk E ws TL O0 Zw ν0 a w) {D : Nat} {W : World} {Z : Zone} {ν : Vals} {O1 : Own} (h : SatZ (E.lpE O0 ν0 w Zw) Z ν TL O1 a W) (hD : w.heap.size ≤ D) (hh : W.heap[D]? = some (.deferred (some []))) :
    AfterOk E D W ∧ Sat (E.after D W) TL O1 { a with defers := { target := .collected D, args := #[] } :: a.defers } W := by
  have hzD : ¬ E.Z0 D := fun q => by have := L.hw.base.zLt D (L.hw.base.z0 D q); omega
  have hDl := (Array.getElem?_eq_some_iff.1 hh).1
  refine ⟨⟨⟨Z, L.base h.base⟩, Nat.le_trans L.hw.base.size hD, hzD, hh⟩, fun k => Z k ∧ k ≠ D, ν, ?_⟩
  refine h.shift (by show _ :: a.defers = _ :: E.marks; rw [L.hw.defers]) L.hw.tsize L.hw.cst ⟨rfl, rfl, rfl, Nat.le_refl _, fun k hk => ?_, fun _ _ => rfl, fun k hk => h.base.zLt k hk.1, fun k hk => ⟨h.base.z0 k (L.hw.base.z0 k hk), fun e => hzD (e ▸ hk)⟩, fun k hk => ?_⟩ ?_ (fun r hr b hb => ?_) (fun _ _ => rfl)
  · rcases hk with hk | rfl
    · exact Nat.lt_of_lt_of_le (L.keep hk).1 h.base.size
    · exact hDl
  · rcases (L.base h.base).zNew k hk.1 with q | q
    · exact .inl q
    · exact .inr fun q' => q'.elim q hk.2
  · refine AV.ok_cells (Nat.le_refl _) (fun k ob hz hk hc => ⟨⟨hz, fun e => ?_⟩, hk⟩)
    subst e
    rw [hh] at hk; cases hk; cases hc
  · obtain ⟨ob, e1, e2, e3, e4⟩ := own_blk h ⟨r, hr, hb⟩
    refine ⟨fun q => e3 q.1, fun q => ?_, rfl⟩
    rcases q with q | q
    · exact e4 (L.keep q)
    · subst q; rw [hh] at e1; cases e1; cases e2
end

/-- A loop over an iterator. TL, OL pre: what stands between two rounds; TX x: what a round's assignments lay. -/
theorem cq_range {g : Operand} {ps : Array Tmp} {assign body : Code} {gf : FuncId} {n : Nat} {cf : Nat → AV} {V : List Value → Prop} {xs : List (List Value)} {own : Bool}
    (hro : E.round = none) (hI : CtrI P gf ((List.range n).map cf) V xs own) (ws : List Nat) (TL : Tab) (OL : List (List Value) → Own) (φ : List (List Value) → Prop) (Ox : List (List Value) → Code → Own) (φx : List (List Value) → Code → Prop)
    (TX : List Value → Tab) (h0 : Ent T O TL (OL [])) (hφ0 : φ []) (hg : TL.ev g = .av (.clo gf n cf)) (hTL : TL.all (fun p => !memB ws p.1) = true) (hps : ps.toList.all (fun p => memB ws p && Nat.blt p E.N) = true) (hnd : ps.toList.Nodup)
    (hV : ∀ x, V x → x.length = ps.size) (hTX : ∀ x, (TX x).all (fun p => memB ws p.1) = true) (havs : ∀ x, avs (TX x) = true)
    (hpin : own = true → ∀ pre, pinned TL (OL pre) = true ∧ ∀ r, look (OL pre) r ≠ none ↔ look (OL []) r ≠ none) (hval : own = false → ∀ x, onlyVals (TX x) = true)
    (hass : ∀ l a0 w0 Z0 keep pre x, V x → φ pre → CQ P (E.rnd l ws a0 w0 Z0 keep) (Exit.then (fun a w => Sat (E.rnd l ws a0 w0 Z0 keep) (TX x ++ TL) (OL pre) a w) (fun _ _ _ => False)) (psT ps.toList x ++ TL) (OL pre) assign)
    (hbody : ∀ l a0 w0 Z0 keep pre x, V x → φ pre → pre.length < xs.length → CQ P (E.rnd l ws a0 w0 Z0 keep) (rndPost (E.rnd l ws a0 w0 Z0 keep) TL (OL (pre ++ [x])) (φ (pre ++ [x])) (Ox (pre ++ [x])) (φx (pre ++ [x]))) (TX x ++ TL) (OL pre) body)
    (hdone : ∀ D w2, AfterOk E D w2 → φ xs → SQ (E.after D w2) TL (OL xs) (Q .normal))
    (hstop : ∀ D w2 k c, AfterOk E D w2 → k < xs.length → φx (xs.take (k + 1)) c → c = .ret ∧ SQ (E.after D w2) TL (Ox (xs.take (k + 1)) .ret) (Q .ret) ∨ ∃ id, c = .exit id ∧ SQ (E.after D w2) TL (Ox (xs.take (k + 1)) (.exit id)) (Q (.exit id))) :
    CQ P E Q T O (Code.rangeFunc g ps assign body) := by
  refine ⟨fun a w hsat => ?_⟩
  obtain ⟨Zw, ν0, hw⟩ := h0 E a w hsat
  rw [hro, fc_none]
  refine (wpIn_wide (n := 0)).2 ((wpIn_wide (n := 2)).1 ?_)
  have hgv := ev_ok hw g
  rw [hg] at hgv
  obtain ⟨cs, hgv, hcl, hcs⟩ := hgv
  have hcaps : All2 (fun τ v => AV.ok Zw w τ v) ((List.range n).map cf) cs := by
    rw [List.range_eq_range']
    exact caps_ok n 0 cf cs hcl (fun i hi => by rw [Nat.zero_add]; exact hcs i hi)
  have L : LpOk E ws TL (OL []) Zw ν0 a w := ⟨hw, fun d hd => by
    obtain ⟨s, hs⟩ := Option.ne_none_iff_exists'.1 hd
    obtain ⟨p, hp, rfl⟩ := look_in hs
    have := List.all_eq_true.1 hTL p hp
    simpa using this⟩
  have hTXT : ∀ x d, look TL d ≠ none → TL.get d = Tab.get (TX x ++ TL) d := fun x d hd => by
    rw [get_app_not]
    cases hl : look (TX x) d with
    | none => rfl
    | some s =>
      obtain ⟨p, hp, rfl⟩ := look_in hl
      have h1 := List.all_eq_true.1 (hTX x) p hp
      rw [L.tl p.1 hd] at h1; cases h1
  have hpsm : ∀ p ∈ ps.toList, memB ws p = true ∧ p < E.N := fun p hp => by
    have := List.all_eq_true.1 hps p hp
    simp only [Bool.and_eq_true] at this
    exact ⟨this.1, lt_of_blt this.2⟩
  have hOF : ∀ {O1 : Own} {W W' : World} {row : Option Nat}, (∃ Z ν, SatZ (E.lpE (OL []) ν0 w Zw) Z ν TL O1 a W) → W.grownBy W' row → (∀ r, row = some r → w.heap.size ≤ r ∧ ∃ o : Obj, W.heap[r]? = some o ∧ o.isCells = false) → ∃ Z ν, SatZ (E.lpE (OL []) ν0 w Zw) Z ν TL O1 a W' := by
    rintro O1 W W' row ⟨Z, ν, h⟩ hgr hr
    obtain ⟨Z', h'⟩ := h.other (w := w) hgr (fun k hk => hk.1) (fun k hk => hw.base.zLt k hk) hr
    exact ⟨Z', ν, h'⟩
  refine wpIn_rangeFunc_ownH (F := Fence.wide) (n := 2) rfl (by omega) hgv trivial hI.enters (hI.gives w Zw cs hw.base.zLt hcaps) (fun h k => KpI.trans h k) (fun W l o o' _ hl hc _ => KpI.putObj hl hc) (Below.refl _ _)
    (fun x => by simpa using hV x.1 x.2)
    (fun pre W => φ (pre.map Subtype.val) ∧ ∃ Z ν, SatZ (E.lpE (OL []) ν0 w Zw) Z ν TL (OL (pre.map Subtype.val)) a W)
    (fun c pre W => φx (pre.map Subtype.val) c ∧ ∃ Z ν, SatZ (E.lpE (OL []) ν0 w Zw) Z ν TL (Ox (pre.map Subtype.val) c) a W)
    (fun pre W W' row hs hgr hr => ⟨hs.1, hOF hs.2 hgr hr⟩) (fun c pre W W' row hs hgr hr => ⟨hs.1, hOF hs.2 hgr hr⟩) ⟨hφ0, Zw, ν0, L.start⟩
    (fun x a' W => AxI E a ws w Zw (ownB (OL []) ν0) own TX x.1 a' W) ?_ ?_ ?_ ?_ ?_
  · -- what a round lays holds on
    rintro x a' s W W' row ⟨e1, e2, e3, e4⟩ hgr hr
    refine ⟨e1, e2, e3, fun d hd => ?_⟩
    refine SV.ok_av (AV.ok_cells hgr.size (fun k ob hz hk hc => ⟨⟨Nat.lt_of_lt_of_le hz.1 hgr.size, hz.2⟩, (hgr.block k hz.1 (fun e => ?_)).trans hk⟩)) _ _ (e4 d hd)
    obtain ⟨_, o, ho, hoc⟩ := hr k e.symm
    rw [hk] at ho; cases ho; rw [hc] at hoc; cases hoc
  · -- the assignments
    rintro l pre x W K ⟨hφ, Z, ν, h1⟩ hK
    have hx := hV x.1 x.2
    have hm : ((ps.zip x.1.toArray).foldl (fun t (p, v) => t.setIfInBounds p v) a.tmps) = ((ps.toList.zip x.1).foldl (fun t p => t.setIfInBounds p.1 p.2) a.tmps) := by
      rw [← Array.foldl_toList]; simp
    have hlk := psT_look ps.toList x.1 a.tmps (fun p hp => by rw [hw.tsize]; exact (hpsm p hp).2) (by simpa using hx.symm) hnd
    have hoth : ∀ d, memB ws d = false → ((ps.toList.zip x.1).foldl (fun t p => t.setIfInBounds p.1 p.2) a.tmps).getD d undef = a.tmps.getD d undef := fun d hd =>
      foldl_set_other _ _ _ (fun q hq e => by
        have := (hpsm q.1 (List.of_mem_zip (show (q.1, q.2) ∈ ps.toList.zip x.1 from hq)).1).1
        rw [e, hd] at this; cases this)
    have hst : SatZ (E.rnd l ws a W Z (fun k => k < W.heap.size ∧ ¬ ownB (OL (pre.map Subtype.val)) ν k)) Z ν (psT ps.toList x.1 ++ TL) (OL (pre.map Subtype.val)) { tmps := (ps.zip x.1.toArray).foldl (fun t (p, v) => t.setIfInBounds p v) a.tmps, defers := [] } W := by
      rw [hm]
      have h2 : SatZ (E.rnd l ws a W Z (fun k => k < W.heap.size ∧ ¬ ownB (OL (pre.map Subtype.val)) ν k)) Z ν TL (OL (pre.map Subtype.val)) { tmps := (ps.toList.zip x.1).foldl (fun t p => t.setIfInBounds p.1 p.2) a.tmps, defers := [] } W := by
        refine h1.shift rfl ?_ (fun d v hd => ?_) ⟨rfl, rfl, rfl, Nat.le_refl _, fun k hk => hk.1, fun _ _ => rfl, h1.base.zLt, fun _ hk => hk, fun _ hk => .inl hk⟩ (fun _ _ q => q) (fun r hr b hb => ?_) (fun d hd => hoth d (L.tl d hd))
        · show Array.size _ = E.N
          rw [foldl_set, hw.tsize]
        · change snap ws a d = some v at hd
          unfold snap at hd
          split at hd
          · cases hd
          · rename_i hmb
            cases hd
            exact hoth d hmb
        · obtain ⟨_, _, _, q, _⟩ := own_blk h1 ⟨r, hr, hb⟩
          exact ⟨q, fun q' => q'.2 ⟨r, hr, hb⟩, rfl⟩
      refine ⟨h2.defers, h2.tsize, h2.cst, h2.base, h2.own, fun d => ?_⟩
      rcases hlk d with ⟨v, e1, e2⟩ | ⟨e1, e2⟩
      · rw [get_app_in (by rw [e1]; simp)]
        simp only [Tab.get, e1]
        exact e2
      · rw [get_app_not e1]; exact h2.slot d
    refine wpIn_mono ((hass l a W Z _ (pre.map Subtype.val) x.1 x.2 hφ).sq _ W ⟨Z, ν, hst⟩) ?_
    rintro e a' W' hq
    cases e with
    | normal =>
      obtain ⟨Z', ν', h2⟩ := hq
      have hsl : ∀ d, memB ws d = false → a'.tmps.getD d undef = a.tmps.getD d undef := fun d hd => h2.cst d _ (by show snap ws a d = _; unfold snap; rw [hd])
      have hown : own = true → ∀ k, ownB (OL (pre.map Subtype.val)) ν k ↔ ownB (OL []) ν0 k := fun ho => L.pin (hpin ho _).1 (hpin ho _).2 h1 (fun _ _ => rfl) (fun _ _ => rfl)
      obtain ⟨k1, k2⟩ := L.kept h1 h2.base hown
      refine hK a' W' k1 k2 ⟨hφ, Z', ν', L.back h1 (fun _ q => q) (fun _ q => .inl q) h2 (hTXT x.1)⟩ ⟨h2.defers, h2.tsize, hsl, fun d hd => ?_⟩
      have hsd := h2.slot d
      rw [get_app_in hd] at hsd
      obtain ⟨τ, hτ⟩ := avs_get (havs x.1) d
      cases ho : own with
      | false => exact onlyVals_ok (hval ho x.1) d hsd
      | true =>
        rw [hτ] at hsd ⊢
        refine AV.ok_mono (fun k hk => ⟨h2.base.zLt k hk, rfl, ?_⟩) (Nat.le_refl _) (fun _ _ _ => rfl) τ _ hsd
        have hnP : ¬ ownB (OL []) ν0 k := fun q => by
          obtain ⟨_, _, _, q2, _⟩ := own_blk h2 ((L.pin (hpin ho _).1 (hpin ho _).2 h2 (hTXT x.1) hsl k).2 q)
          exact q2 hk
        refine ⟨hnP, ?_⟩
        rcases h2.base.zNew k hk with q | q
        · rcases h1.base.zNew k q with q | q
          · exact .inl q
          · exact .inr (Nat.le_of_not_lt fun hlt => q ⟨hlt, hnP⟩)
        · refine .inr (Nat.le_of_not_lt fun hlt => q ⟨Nat.lt_of_lt_of_le hlt h1.base.size, fun q' => hnP ((hown ho k).1 q')⟩)
    | exit id => exact hq
    | goto t => exact hq
    | ret => exact hq
    | panic ch => exact hq
    | outgrown => exact hq
  · -- the body
    rintro l pre x a' W _ _ ⟨hφ, Z, ν, h1⟩ ⟨e1, e2, e3, e4⟩ hlen
    have hown : own = true → ∀ k, ownB (OL (pre.map Subtype.val)) ν k ↔ ownB (OL []) ν0 k := fun ho => L.pin (hpin ho _).1 (hpin ho _).2 h1 (fun _ _ => rfl) (fun _ _ => rfl)
    obtain ⟨Zs, hZs⟩ : ∃ Zs : Zone, Zs = fun k => Z k ∨ (k < W.heap.size ∧ own = true ∧ ¬ ownB (OL []) ν0 k ∧ (Zw k ∨ w.heap.size ≤ k)) := ⟨_, rfl⟩
    have hZ1 : ∀ k, Z k → Zs k := fun k hk => by rw [hZs]; exact .inl hk
    have hZ2 : ∀ k, Zs k → Z k ∨ Zw k ∨ w.heap.size ≤ k := fun k hk => by rw [hZs] at hk; exact hk.imp id (fun q => q.2.2.2)
    have hst : SatZ (E.rnd l ws a W Zs (fun k => k < W.heap.size ∧ ¬ ownB (OL (pre.map Subtype.val)) ν k)) Zs ν (TX x.1 ++ TL) (OL (pre.map Subtype.val)) a' W := by
      have h2 : SatZ (E.rnd l ws a W Zs (fun k => k < W.heap.size ∧ ¬ ownB (OL (pre.map Subtype.val)) ν k)) Zs ν TL (OL (pre.map Subtype.val)) a' W := by
        refine h1.shift e1 e2 (fun d v hd => ?_) ⟨rfl, rfl, rfl, Nat.le_refl _, fun k hk => hk.1, fun _ _ => rfl, fun k hk => ?_, fun _ hk => hk, fun _ hk => .inl hk⟩ (fun τ v q => AV.ok_mono hZ1 (Nat.le_refl _) (fun _ _ _ => rfl) τ v q) (fun r hr b hb => ?_) (fun d hd => e3 d (L.tl d hd))
        · change snap ws a d = some v at hd
          unfold snap at hd
          split at hd
          · cases hd
          · rename_i hmb
            cases hd
            exact e3 d hmb
        · rw [hZs] at hk
          exact hk.elim (h1.base.zLt k) (fun q => q.1)
        · obtain ⟨_, _, _, q, _⟩ := own_blk h1 ⟨r, hr, hb⟩
          refine ⟨fun q' => ?_, fun q' => q'.2 ⟨r, hr, hb⟩, rfl⟩
          rw [hZs] at q'
          rcases q' with q' | q'
          · exact q q'
          · exact q'.2.2.1 ((hown q'.2.1 b).1 ⟨r, hr, hb⟩)
      refine ⟨h2.defers, h2.tsize, h2.cst, h2.base, h2.own, fun d => ?_⟩
      by_cases hd : look (TX x.1) d = none
      · rw [get_app_not hd]; exact h2.slot d
      · rw [get_app_in hd]
        have hsd := e4 d hd
        obtain ⟨τ, hτ⟩ := avs_get (havs x.1) d
        rw [hτ] at hsd ⊢
        exact AV.ok_mono (fun k hk => by rw [hZs]; exact .inr hk) (Nat.le_refl _) (fun _ _ _ => rfl) τ _ hsd
    refine wpIn_mono ((hbody l a W Zs _ (pre.map Subtype.val) x.1 x.2 hφ (by simpa using hlen)).sq a' W ⟨Zs, ν, hst⟩) ?_
    have hmp : (pre ++ [x]).map Subtype.val = pre.map Subtype.val ++ [x.1] := by simp
    have fin : ∀ {O2 : Own} {a2 : Act} {W' : World}, Sat (E.rnd l ws a W Zs (fun k => k < W.heap.size ∧ ¬ ownB (OL (pre.map Subtype.val)) ν k)) TL O2 a2 W' → KeepsFrom w.heap.size W W' ∧ KpI Zw (kpB own w.heap.size) W W' ∧ ∃ Z ν, SatZ (E.lpE (OL []) ν0 w Zw) Z ν TL O2 a W' := by
      rintro O2 a2 W' ⟨Z', ν', h2⟩
      obtain ⟨k1, k2⟩ := L.kept h1 h2.base hown
      exact ⟨k1, k2, Z', ν', L.back h1 hZ1 hZ2 h2 (fun _ _ => rfl)⟩
    rintro e a2 W' hq
    cases e with
    | normal =>
      obtain ⟨q1, q2⟩ := hq
      obtain ⟨k1, k2, k3⟩ := fin q2
      exact ⟨k1, k2, by show _ ∧ _; rw [hmp]; exact ⟨q1, k3⟩⟩
    | ret =>
      obtain ⟨q1, q2⟩ := hq
      obtain ⟨k1, k2, k3⟩ := fin q2
      exact ⟨k1, by show _ ∧ _; rw [hmp]; exact ⟨q1, k3⟩⟩
    | exit id =>
      obtain ⟨q1, q2⟩ := hq
      obtain ⟨k1, k2, k3⟩ := fin q2
      exact ⟨k1, by show _ ∧ _; rw [hmp]; exact ⟨q1, k3⟩⟩
    | goto t => exact hq.elim
    | panic ch => exact hq.elim
    | outgrown => exact hq.elim
  · rintro D ys W hD hS ⟨hφ, Z, ν, h⟩ hh
    rw [hS] at hφ h
    obtain ⟨k1, k2⟩ := L.done h hD hh
    exact hdone D W k1 hφ _ _ k2
  · rintro D c pre W hD ⟨k, hk, hpre⟩ ⟨hφ, Z, ν, h⟩ hh
    rw [hpre] at hφ h
    obtain ⟨k1, k2⟩ := L.done h hD hh
    rcases hstop D W k c k1 hk hφ with ⟨rfl, q⟩ | ⟨id, rfl, q⟩
    · exact wpIn_ret (q _ _ k2)
    · exact wpIn_exit (q _ _ k2)
end
end Go.Vc
/-! Functions that hold a loop over an iterator; the walk of an iterator. -/
namespace Go.Vc
open Go Go.RowKit

/-! ### The end of a function with marks -/
abbrev postM (P : Program) (fn : Func) (R : Ending → World → Prop) : Exit → Act → World → Prop := bodyPostM Fence.wide 0 P fn R

theorem bodyPost_m {P : Program} {fn : Func} {R : Ending → World → Prop} {a : Act} {w : World} (h : bodyPost P fn R .ret a w) : LeavesInM Fence.wide 0 P fn a.tmps R a.defers .returning w := by
  obtain ⟨hd, h⟩ := h
  rw [hd]
  exact h

section
variable {P : Program} {fn : Func} {E : Env} {T : Tab} {O : Own} {R : Ending → World → Prop}
theorem sq_m (h : SQ E T O (bodyPost P fn R .ret)) : SQ E T O (postM P fn R .ret) := fun a w hs => bodyPost_m (h a w hs)
theorem sq_m' (h : SQ E T O (bodyPost P fn R .ret)) : SQ E T O (postM P fn R .normal) := fun a w hs => bodyPost_m (h a w hs)

theorem sat_after {D : Nat} {w2 : World} (hA : AfterOk E D w2) {a : Act} {w' : World} (h : Sat (E.after D w2) T O a w') (hm : E.marks = []) :
    a.defers = [{ target := .collected D, args := #[] }] ∧ w'.heap[D]? = some (.deferred (some [])) ∧ Sat E T O { a with defers := [] } (w'.putObj D (.deferred none)) := by
  obtain ⟨Z, ν, h⟩ := h
  obtain ⟨Z2, hb⟩ := hA.base
  have hD : w'.heap[D]? = some (.deferred (some [])) := (h.base.kept D (.inr rfl)).trans hA.heap
  have hne : ∀ k, k ≠ D → (w'.putObj D (.deferred none)).heap[k]? = w'.heap[k]? := fun k hk => World.putObj_heap_other hk
  refine ⟨h.defers.trans (by show _ :: E.marks = _; rw [hm]), hD, Z, ν, ?_⟩
  refine h.shift hm.symm h.tsize h.cst ⟨h.base.os.trans hb.os, h.base.tape.trans hb.tape, h.base.output.trans hb.output, ?_, hb.keepLt, fun k hk => ?_, fun k hk => ?_, h.base.z0, fun k hk => ?_⟩ ?_ (fun r hr b hb2 => ?_) (fun _ _ => rfl)
  · have := Nat.le_trans hb.size h.base.size
    simpa [World.putObj] using this
  · have hkD : k ≠ D := fun e => by subst e; have := hb.keepLt k hk; have := hA.lo; omega
    exact (hne k hkD).trans ((h.base.kept k (.inl hk)).trans (hb.kept k hk))
  · have := h.base.zLt k hk
    simpa [World.putObj] using this
  · rcases h.base.zNew k hk with q | q
    · exact .inl q
    · exact .inr fun q' => q (.inl q')
  · refine AV.ok_cells (by simp [World.putObj]) (fun k ob hz hk hc => ⟨hz, (hne k (fun e => ?_)).trans hk⟩)
    subst e
    rw [hD] at hk; cases hk; cases hc
  · obtain ⟨ob, e1, e2, e3, e4⟩ := own_blk h ⟨r, hr, hb2⟩
    exact ⟨e3, fun q => e4 (.inl q), hne b (fun e => e4 (.inr e))⟩

theorem sq_after {D : Nat} {w2 : World} (hA : AfterOk E D w2) (h : SQ E T O (bodyPost P fn R .ret)) (hm : E.marks = [] := by rfl) : SQ (E.after D w2) T O (postM P fn R .ret) := by
  intro a w' hs
  obtain ⟨h1, h2, h3⟩ := sat_after hA hs hm
  obtain ⟨_, q⟩ := h _ _ h3
  show LeavesInM Fence.wide 0 P fn a.tmps R a.defers .returning w'
  rw [h1]
  exact ⟨by simp, .inl ⟨D, _, rfl, run_takeDeferred h2, q⟩⟩
theorem sq_after' {D : Nat} {w2 : World} (hA : AfterOk E D w2) (h : SQ E T O (bodyPost P fn R .ret)) (hm : E.marks = [] := by rfl) : SQ (E.after D w2) T O (postM P fn R .normal) := sq_after hA h hm
end

theorem init_sat {P : Program} {fn : Func} {args : List AV} {N : Nat} {w : World} {Z : Zone} {vs : List Value} (hN : fn.ntmps = N) (hlen' : Nat.ble args.length N = true) (hZ : ∀ k, Z k → k < w.heap.size) (hvs : All2 (fun τ v => AV.ok Z w τ v) args vs) :
    Sat (envA N w Z) (initT 0 (args.map SV.av)) [] { tmps := vs.toArray ++ Array.replicate (fn.ntmps - vs.toArray.size) undef, defers := [] } w := by
  have hlen : args.length ≤ N := Nat.le_of_ble_eq_true hlen'
  have hl := hvs.len
  refine ⟨Z, fun _ => undef, rfl, ?_, (fun _ _ h => by cases h), ⟨rfl, rfl, rfl, Nat.le_refl _, fun k hk => hk, fun _ _ => rfl, hZ, fun _ hk => hk, fun _ hk => .inl hk⟩, ⟨fun r x hx => by simp [look] at hx, fun r r' _ h1 => by simp [look] at h1⟩, fun d => ?_⟩
  · simp only [Array.size_append, List.size_toArray, Array.size_replicate, hN, envA]; omega
  · rw [initT_get, if_pos (Nat.zero_le _), Nat.sub_zero]
    by_cases hd : d < args.length
    · have h1 : (args.map SV.av).getD d (.av .any) = .av args[d] := by simp [List.getD, List.getElem?_eq_getElem hd]
      rw [h1]
      obtain ⟨u, hu, hk⟩ := hvs.get d args[d] (List.getElem?_eq_getElem hd)
      have : (vs.toArray ++ Array.replicate (fn.ntmps - vs.toArray.size) undef).getD d undef = u := by
        have hlt := (List.getElem?_eq_some_iff.1 hu).1
        rw [Array.getD_eq_getD_getElem?, Array.getElem?_append_left (by simpa using hlt)]
        simp [hu]
      rw [this]; exact hk
    · have h1 : (args.map SV.av).getD d (.av .any) = .av .any := by
        rw [List.getD, List.getElem?_eq_none (by simpa using hd)]; rfl
      rw [h1]; trivial

theorem enters_of {P : Program} {f : FuncId} {fn : Func} {c : Code} (hf : P.funcs[f]? = some fn) (hb : fn.body = some c) (hname : (fn.name == "runtime.NumGoroutine") = false) : Enters P f := by
  intro vs w
  have hname' : fn.name ≠ "runtime.NumGoroutine" := by simpa using hname
  simp [callFunc, hf, hname', hb]

theorem ctrAM {P : Program} {f : FuncId} {fn : Func} {c : Code} {args : List AV} {res : AV} (N : Nat) (hf : P.funcs[f]? = some fn) (hb : fn.body = some c) (hname : (fn.name == "runtime.NumGoroutine") = false) (hN : fn.ntmps = N) (hlen' : Nat.ble args.length N = true)
    (h : ∀ w Z, CQ P (envA N w Z) (postM P fn (RetA w Z res)) (initT 0 (args.map SV.av)) [] c) : CtrA P f args res :=
  ⟨enters_of hf hb hname, fun w Z vs hZ hvs => callsIn_wide.1 (callsIn_of_wp_marks (n := 0) hf hb trivial ((h w Z).sq _ w (init_sat (P := P) hN hlen' hZ hvs)))⟩

theorem ctrRM {P : Program} {f : FuncId} {fn : Func} {c : Code} {args : List AV} {ety sz n : Nat} {fr : Nat → Nat → AV} {ρs : List AV} (N : Nat) (hf : P.funcs[f]? = some fn) (hb : fn.body = some c) (hname : (fn.name == "runtime.NumGoroutine") = false) (hN : fn.ntmps = N) (hlen' : Nat.ble args.length N = true)
    (h : ∀ w Z, CQ P (envA N w Z) (postM P fn (RetR w Z ety sz n fr ρs)) (initT 0 (args.map SV.av)) [] c) : CtrR P f args ety sz n fr ρs :=
  ⟨enters_of hf hb hname, fun w Z vs hZ hvs => callsIn_wide.1 (callsIn_of_wp_marks (n := 0) hf hb trivial ((h w Z).sq _ w (init_sat (P := P) hN hlen' hZ hvs)))⟩

/-! ### The walk of an iterator -/
/-- What an iterator may lean on: yield. -/
structure YC (P : Program) (V : List Value → Prop) (xs : List (List Value)) (l : Nat) (ZI : Zone) (b0 : Nat) (J Jx : List (List Value) → World → Prop) : Prop where
  grow : ∀ s W W', J s W → Below W.heap.size W W' → J s W'
  growx : ∀ s W W', Jx s W → Below W.heap.size W W' → Jx s W'
  yld : ∀ pre x W, J pre W → V x → pre.length < xs.length → YieldAt Fence.wide 0 P l x.toArray W fun e W' =>
    (e = .returned (.bool true) ∧ J (pre ++ [x]) W' ∧ KpI ZI (some b0) W W') ∨ (e = .returned (.bool false) ∧ Jx (pre ++ [x]) W')
/-- Where an iterator stands. -/
structure YS (J : List (List Value) → World → Prop) (ZI : Zone) (b0 : Nat) (pre : List (List Value)) (w : World) (Z : Zone) : Prop where
  j : J pre w
  zi : ∀ k, ZI k → Z k
  z : ∀ k, Z k → ZI k ∨ b0 ≤ k
  b0 : b0 ≤ w.heap.size
def RI (J Jx : List (List Value) → World → Prop) (xs : List (List Value)) (e : Ending) (w' : World) : Prop :=
  (∃ v, e = .returned v) ∧ (J xs w' ∨ ∃ k, k < xs.length ∧ Jx (xs.take (k + 1)) w')

theorem below_grown {W W' : World} (h : Below W.heap.size W W') : W.grownBy W' none := ⟨h.os, h.tape, h.output, h.size, fun k hk _ => h.block k hk⟩

theorem ctrI {P : Program} {gf : FuncId} {fn : Func} {c : Code} {caps : List AV} {V : List Value → Prop} {xs : List (List Value)} (N : Nat) (hf : P.funcs[gf]? = some fn) (hb : fn.body = some c) (hname : (fn.name == "runtime.NumGoroutine") = false) (hN : fn.ntmps = N) (hlen' : Nat.ble (caps.length + 1) N = true)
    (h : ∀ l J Jx ZI b0, YC P V xs l ZI b0 J Jx → ∀ w Z, YS J ZI b0 [] w Z → CQ P (envA N w Z) (bodyPost P fn (RI J Jx xs)) (initT 0 ((AV.val (.func (.yield l) #[] #[]) :: caps).map SV.av)) [] c) : CtrI P gf caps V xs true := by
  refine ⟨enters_of hf hb hname, fun w Z cs hZ hcs => ?_⟩
  intro l J' Jx' W hBl hJ hJx hY h0
  let J : List (List Value) → World → Prop := fun pre W => ∃ p : List { x : List Value // V x }, p.map Subtype.val = pre ∧ J' p W
  let Jx : List (List Value) → World → Prop := fun pre W => ∃ p : List { x : List Value // V x }, p.map Subtype.val = pre ∧ Jx' p W
  have Y : YC P V xs l Z w.heap.size J Jx := by
    refine ⟨fun s A B ⟨p, e, q⟩ hAB => ⟨p, e, hJ p A B none q (below_grown hAB) (fun r e => by cases e)⟩, fun s A B ⟨p, e, q⟩ hAB => ⟨p, e, hJx p A B none q (below_grown hAB) (fun r e => by cases e)⟩, ?_⟩
    rintro pre x A ⟨p, rfl, q⟩ hx hlen
    obtain ⟨fn', tmps, assign, body, hy, hR⟩ := hY p ⟨x, hx⟩ A q (by simpa using hlen)
    refine ⟨fn', tmps, assign, body, hy, hR.mono fun e W' hr => ?_⟩
    rcases hr with ⟨e1, e2, e3⟩ | ⟨e1, e2⟩
    · exact .inl ⟨e1, ⟨p ++ [⟨x, hx⟩], by simp, e2⟩, e3⟩
    · exact .inr ⟨e1, ⟨p ++ [⟨x, hx⟩], by simp, e2⟩⟩
  have hZW : ∀ k, Z k → k < W.heap.size := fun k hk => Nat.lt_of_lt_of_le (hZ k hk) hBl.size
  have hcs' : All2 (fun τ v => AV.ok Z W τ v) (AV.val (.func (.yield l) #[] #[]) :: caps) (Value.func (.yield l) #[] #[] :: cs) :=
    ⟨rfl, hcs.mono fun τ _ v hv => AV.ok_mono (fun _ q => q) hBl.size (fun k hk _ => hBl.block k (hZ k hk)) τ v hv⟩
  have key := (h l J Jx Z w.heap.size Y W Z ⟨⟨[], rfl, h0⟩, fun _ q => q, fun _ q => .inl q, hBl.size⟩).sq _ W (init_sat (P := P) hN hlen' hZW hcs')
  have hc : Calls P gf (Value.func (.yield l) #[] #[] :: cs).toArray W (RI J Jx xs) := calls_of_wp hf hb (wpIn_wide.1 key)
  have ha : #[Value.func (.yield l) #[] #[]] ++ cs.toArray = (Value.func (.yield l) #[] #[] :: cs).toArray := by simp
  rw [ha]
  refine callsIn_wide.2 (hc.mono ?_)
  rintro e W' ⟨hv, ⟨p, hp, q⟩ | ⟨k, hk, p, hp, q⟩⟩
  · exact ⟨hv, .inl ⟨p, hp, q⟩⟩
  · exact ⟨hv, .inr ⟨p, ⟨k, hk, hp⟩, q⟩⟩

/-- Only what is said of values themselves. -/
def valsT : Tab → Tab
  | [] => []
  | (k, .av (.val v)) :: T => (k, .av (.val v)) :: valsT T
  | (k, _) :: T => (k, .av .any) :: valsT T
theorem valsT_ok {Z Z' : Zone} {ν ν' : Vals} {w w' : World} {v : Value} : ∀ {T : Tab} {d : Nat}, (T.get d).ok Z ν w v → ((valsT T).get d).ok Z' ν' w' v
  | [], d, _ => trivial
  | (k, s) :: T, d, h => by
    by_cases hd : k = d
    · subst hd
      rw [Tab.get_cons_eq] at h
      cases s with
      | av τ =>
        cases τ with
        | val u => show ((Tab.get ((k, .av (.val u)) :: valsT T) k)).ok _ _ _ _; rw [Tab.get_cons_eq]; exact h
        | _ => simp only [valsT]; rw [Tab.get_cons_eq]; trivial
      | _ => simp only [valsT]; rw [Tab.get_cons_eq]; trivial
    · rw [Tab.get_cons_ne _ _ hd] at h
      have ih := valsT_ok (Z' := Z') (ν' := ν') (w' := w') (T := T) h
      cases s with
      | av τ => cases τ <;> (simp only [valsT]; rw [Tab.get_cons_ne _ _ hd]; exact ih)
      | _ => simp only [valsT]; rw [Tab.get_cons_ne _ _ hd]; exact ih

section
variable {P : Program} {V : List Value → Prop} {xs : List (List Value)} {l : Nat} {ZI : Zone} {b0 : Nat} {J Jx : List (List Value) → World → Prop} {N : Nat} {w : World} {Z : Zone} {T : Tab} {O : Own} {Q : Exit → Act → World → Prop}
theorem YS.below {a : Act} {w1 : World} {Z1 : Zone} {ν : Vals} (h : SatZ (envA N w Z) Z1 ν T O a w1) : Below w.heap.size w w1 := ⟨h.base.os, h.base.tape, h.base.output, h.base.size, h.base.kept⟩
theorem YS.now (Y : YC P V xs l ZI b0 J Jx) {pre : List (List Value)} (S : YS J ZI b0 pre w Z) {a : Act} {w1 : World} {Z1 : Zone} {ν : Vals} (h : SatZ (envA N w Z) Z1 ν T O a w1) : YS J ZI b0 pre w1 Z1 :=
  ⟨Y.grow _ _ _ S.j (YS.below h), fun k hk => h.base.z0 k (S.zi k hk), fun k hk => by
    rcases h.base.zNew k hk with q | q
    · exact S.z k q
    · exact .inr (Nat.le_trans S.b0 (Nat.le_of_not_lt q)), Nat.le_trans S.b0 h.base.size⟩
theorem rebaseA {a : Act} {w1 : World} {Z1 : Zone} {ν : Vals} (h : SatZ (envA N w Z) Z1 ν T [] a w1) : SatZ (envA N w1 Z1) Z1 ν T [] a w1 :=
  h.shift h.defers h.tsize (fun _ _ q => by cases q) ⟨rfl, rfl, rfl, Nat.le_refl _, fun _ hk => hk, fun _ _ => rfl, h.base.zLt, fun _ hk => hk, fun _ hk => .inl hk⟩ (fun _ _ q => q) (fun r hr => absurd rfl hr) (fun _ _ => rfl)

/-- A call of yield. -/
theorem sq_yield (Y : YC P V xs l ZI b0 J Jx) {pre : List (List Value)} (S : YS J ZI b0 pre w Z) (x : List Value) {d : Nat} {c : Operand} {ys : List Operand} {ats : Array TypeId} {ty : TypeId} {pos : String} {af : Array Edge} {ops : Array Oper} {l' : List Oper}
    (hx : V x) (hlen : pre.length < xs.length) (hc : T.ev c = .av (.val (.func (.yield l) #[] #[]))) (hys : ys.map T.ev = x.map (fun v => SV.av (.val v))) (hd : (envA N w Z).wr d = true)
    (ht : ∀ w' Z', YS J ZI b0 (pre ++ [x]) w' Z' → LSQ P (envA N w' Z') ops Q l' ((d, .av (.val (.bool true))) :: T) [])
    (hf : ∀ w', Jx (pre ++ [x]) w' → ∀ T', T' = valsT T → LSQ P (envA N w' (fun _ => False)) ops Q l' ((d, .av (.val (.bool false))) :: T') []) :
    LSQ P (envA N w Z) ops Q (⟨some d, .call ⟨.value c, ys.toArray, ats⟩, ty, pos, af, none⟩ :: l') T [] := by
  refine ⟨fun a w1 hsat => ?_⟩
  obtain ⟨Z1, ν, h⟩ := hsat
  have S1 := S.now Y h
  obtain ⟨fn, tmps, assign, body, hy, hR⟩ := Y.yld pre x w1 S1.j hx hlen
  have hev : ys.map a.eval = x := by
    have h2 := evs_ok h (xs := ys) (τs := x.map AV.val) (by rw [hys, List.map_map]; rfl)
    have : ∀ (l : List Value) (m : List Value), All2 (fun τ v => AV.ok Z1 w1 τ v) (l.map AV.val) m → m = l := by
      intro l
      induction l with
      | nil => intro m hm; match m, hm with | [], _ => rfl
      | cons x l ih => intro m hm; match m, hm with | y :: m, hm => rw [ih m hm.2, show y = x from hm.1]
    exact this _ _ h2
  have hfv : a.eval c = .func (.yield l) #[] #[] := by
    have := ev_ok h c
    rw [hc] at this
    exact this
  refine wpListIn_plain rfl fun K hK => ?_
  refine ⟨fun _ _ => trivial, ?_⟩
  rw [show (fc (envA N w Z).round).round = none from rfl, Oper.semAt_eq none a.eval _ (by intro c; simp)]
  have hrun : (execOp a.eval ⟨some d, .call ⟨.value c, ys.toArray, ats⟩, ty, pos, af, none⟩).run P w1 = .ok (.round l fn tmps assign body) w1 := by
    have hy' : (Instr.yield l (List.map a.eval ys).toArray).run P w1 = .ok (.round l fn tmps assign body) w1 := by rw [hev]; exact hy
    simp [execOp, resolve, Deferred.ofValue, hfv, invoke] at hy' ⊢
    exact hy'
  rw [hrun]
  refine ⟨fun h => by simp [fc, envA] at h, ?_⟩
  refine RoundIn.mono (F := Fence.wide) hR ?_
  rintro e W' (⟨rfl, hj, hk⟩ | ⟨rfl, hj⟩)
  · refine hK _ _ ((ht W' Z1 ⟨hj, S1.zi, S1.z, Nat.le_trans S1.b0 hk.2.2.2.1⟩).sq _ _ ⟨Z1, ν, ?_⟩)
    have h2 : SatZ (envA N W' Z1) Z1 ν T [] a W' := by
      refine h.shift h.defers h.tsize (fun _ _ q => by cases q) ⟨rfl, rfl, rfl, Nat.le_refl _, fun _ hk => hk, fun _ _ => rfl, fun k q => Nat.lt_of_lt_of_le (h.base.zLt k q) hk.2.2.2.1, fun _ hk => hk, fun _ hk => .inl hk⟩
        (AV.ok_cells hk.2.2.2.1 (fun k ob hz ho hc => ⟨hz, hk.2.2.2.2 k ob ?_ ho hc⟩)) (fun r hr => absurd rfl hr) (fun _ _ => rfl)
      rcases S1.z k hz with q | q
      · exact .inl q
      · exact .inr ⟨b0, rfl, q⟩
    exact h2.put (some d) _ _ hd rfl
  · refine hK _ _ ((hf W' hj _ rfl).sq _ _ ⟨fun _ => False, fun _ => undef, ?_⟩)
    have h2 : SatZ (envA N W' (fun _ => False)) (fun _ => False) (fun _ => undef) (valsT T) [] a W' :=
      ⟨h.defers, h.tsize, fun _ _ q => (by cases q), ⟨rfl, rfl, rfl, Nat.le_refl _, fun _ hk => hk, fun _ _ => rfl, fun _ q => q.elim, fun _ q => q, fun _ q => .inl q⟩, ⟨fun r x hx => by simp [look] at hx, fun r r' _ h1 => by simp [look] at h1⟩, fun k => valsT_ok (h.slot k)⟩
    exact h2.put (some d) _ _ hd rfl

def SatI (J : List (List Value) → World → Prop) (ZI : Zone) (b0 N : Nat) (pre : List (List Value)) (T : Tab) (a : Act) (w : World) : Prop := ∃ Z, YS J ZI b0 pre w Z ∧ Sat (envA N w Z) T [] a w

/-- A loop of an iterator. -/
theorem cq_loopI (Y : YC P V xs l ZI b0 J Jx) {γ : Type} {c : Code} (Tof : γ → Tab) (preOf : γ → List (List Value)) (φ : γ → Prop) (μ : γ → Nat) (g0 : γ) (S : YS J ZI b0 (preOf g0) w Z) (h0 : φ g0) (hstart : Ent T O (Tof g0) [])
    (hbody : ∀ g, φ g → ∀ w Z, YS J ZI b0 (preOf g) w Z → CQ P (envA N w Z) (Exit.then (fun a w => ∃ g', φ g' ∧ μ g' < μ g ∧ SatI J ZI b0 N (preOf g') (Tof g') a w) Q) (Tof g) [] c) : CQ P (envA N w Z) Q T O (Code.loop c) := by
  refine ⟨fun a w1 hs => ?_⟩
  obtain ⟨Z1, ν, h1⟩ := hstart _ a w1 hs
  refine wpIn_loop_ghost (fun n a w => ∃ g, μ g = n ∧ φ g ∧ SatI J ZI b0 N (preOf g) (Tof g) a w) (μ g0) ⟨g0, rfl, h0, Z1, S.now Y h1, Z1, ν, rebaseA h1⟩ ?_
  rintro n a w2 ⟨g, rfl, hg, Z2, S2, hsat⟩
  refine wpIn_mono ((hbody g hg w2 Z2 S2).sq a w2 hsat) ?_
  intro e a' w' hq
  cases e with
  | normal => obtain ⟨g', h1, h2, h3⟩ := hq; exact ⟨μ g', h2, g', rfl, h1, h3⟩
  | exit id => exact hq
  | goto l => exact hq
  | ret => exact hq
  | panic ch => exact hq
  | outgrown => exact hq

theorem sq_roundI (Y : YC P V xs l ZI b0 J Jx) {γ : Type} {Tof : γ → Tab} {preOf : γ → List (List Value)} {φ : γ → Prop} {μ : γ → Nat} {g : γ} (g' : γ) (S : YS J ZI b0 (preOf g') w Z) (h1 : φ g') (h2 : μ g' < μ g) (h3 : Ent T O (Tof g') []) :
    SQ (envA N w Z) T O (Exit.then (fun a w => ∃ g', φ g' ∧ μ g' < μ g ∧ SatI J ZI b0 N (preOf g') (Tof g') a w) Q .normal) := fun a w' hs => by
  obtain ⟨Z1, ν, hz⟩ := h3 _ a w' hs
  exact ⟨g', h1, h2, Z1, S.now Y hz, Z1, ν, rebaseA hz⟩

variable {fn : Func}
theorem sq_retI (Y : YC P V xs l ZI b0 J Jx) (hr : fn.results = #[]) (S : YS J ZI b0 xs w Z) : SQ (envA N w Z) T O (bodyPost P fn (RI J Jx xs) .ret) := by
  rintro a w' ⟨Z', ν, h⟩
  exact bodyPost_ret (results_none hr _ _ _) h.defers ⟨⟨_, rfl⟩, .inl (Y.grow _ _ _ S.j (YS.below h))⟩
theorem sq_retI' (Y : YC P V xs l ZI b0 J Jx) (hr : fn.results = #[]) (S : YS J ZI b0 xs w Z) : SQ (envA N w Z) T O (bodyPost P fn (RI J Jx xs) .normal) := sq_retI Y hr S
theorem sq_retIx (Y : YC P V xs l ZI b0 J Jx) (hr : fn.results = #[]) (k : Nat) (hk : k < xs.length) (hj : Jx (xs.take (k + 1)) w) : SQ (envA N w Z) T O (bodyPost P fn (RI J Jx xs) .ret) := by
  rintro a w' ⟨Z', ν, h⟩
  exact bodyPost_ret (results_none hr _ _ _) h.defers ⟨⟨_, rfl⟩, .inr ⟨k, hk, Y.growx _ _ _ hj (YS.below h)⟩⟩
end
end Go.Vc
/-! An iterator that has no memory of its own: a slice's values. -/
namespace Go.Vc
open Go Go.RowKit
structure YC0 (P : Program) (V : List Value → Prop) (xs : List (List Value)) (l : Nat) (ZI : Zone) (J Jx : List (List Value) → World → Prop) : Prop where
  grow : ∀ s W W', J s W → Below W.heap.size W W' → J s W'
  growx : ∀ s W W', Jx s W → Below W.heap.size W W' → Jx s W'
  yld : ∀ pre x W, J pre W → V x → pre.length < xs.length → YieldAt Fence.wide 0 P l x.toArray W fun e W' =>
    (e = .returned (.bool true) ∧ J (pre ++ [x]) W' ∧ KpI ZI none W W') ∨ (e = .returned (.bool false) ∧ Jx (pre ++ [x]) W')
structure YS0 (J : List (List Value) → World → Prop) (ZI : Zone) (W0 : World) (pre : List (List Value)) (w : World) : Prop where
  j : J pre w
  know : ∀ τ u, AV.ok ZI W0 τ u → AV.ok ZI w τ u
  z : ∀ k, ZI k → k < w.heap.size

theorem ctrI0 {P : Program} {gf : FuncId} {fn : Func} {c : Code} {n sz : Nat} {f : Nat → Nat → AV} {V : List Value → Prop} {xs : List (List Value)} (N : Nat) (hf : P.funcs[gf]? = some fn) (hb : fn.body = some c) (hname : (fn.name == "runtime.NumGoroutine") = false) (hN : fn.ntmps = N) (hlen' : Nat.ble 2 N = true)
    (h : ∀ l J Jx ZI W0 p a cp, YC0 P V xs l ZI J Jx → (AV.ptr 1 (fun _ => .val (.slice a n cp))).ok ZI W0 p → (AV.sl n sz f).ok ZI W0 (.slice a n cp) → YS0 J ZI W0 [] W0 →
      CQ P (envA N W0 ZI) (bodyPost P fn (RI J Jx xs)) (initT 0 ([AV.val (.func (.yield l) #[] #[]), AV.val p].map SV.av)) [] c) : CtrI P gf [.ptr 1 (fun _ => .sl n sz f)] V xs false := by
  refine ⟨enters_of hf hb hname, fun w Z cs hZ hcs => ?_⟩
  intro l J' Jx' W hBl hJ hJx hY h0
  let J : List (List Value) → World → Prop := fun pre W => ∃ p : List { x : List Value // V x }, p.map Subtype.val = pre ∧ J' p W
  let Jx : List (List Value) → World → Prop := fun pre W => ∃ p : List { x : List Value // V x }, p.map Subtype.val = pre ∧ Jx' p W
  have Y : YC0 P V xs l Z J Jx := by
    refine ⟨fun s A B ⟨p, e, q⟩ hAB => ⟨p, e, hJ p A B none q (below_grown hAB) (fun r e => by cases e)⟩, fun s A B ⟨p, e, q⟩ hAB => ⟨p, e, hJx p A B none q (below_grown hAB) (fun r e => by cases e)⟩, ?_⟩
    rintro pre x A ⟨p, rfl, q⟩ hx hlen
    obtain ⟨fn', tmps, assign, body, hy, hR⟩ := hY p ⟨x, hx⟩ A q (by simpa using hlen)
    refine ⟨fn', tmps, assign, body, hy, hR.mono fun e W' hr => ?_⟩
    rcases hr with ⟨e1, e2, e3⟩ | ⟨e1, e2⟩
    · exact .inl ⟨e1, ⟨p ++ [⟨x, hx⟩], by simp, e2⟩, e3⟩
    · exact .inr ⟨e1, ⟨p ++ [⟨x, hx⟩], by simp, e2⟩⟩
  have hZW : ∀ k, Z k → k < W.heap.size := fun k hk => Nat.lt_of_lt_of_le (hZ k hk) hBl.size
  have hmv : ∀ (τ : AV) v, τ.ok Z w v → τ.ok Z W v := AV.ok_mono (fun _ q => q) hBl.size (fun k hk _ => hBl.block k (hZ k hk))
  match cs, hcs with
  | [p], hcs =>
    obtain ⟨b, o, rfl, hz, hbs, hcell⟩ := hmv _ _ hcs.1
    obtain ⟨u, hu, hk⟩ := hcell 0 (by omega)
    obtain ⟨a, cp, rfl, q1⟩ := hk
    have hp : (AV.ptr 1 (fun _ => .val (.slice a n cp))).ok Z W (.pointer (some ⟨b, o, none⟩)) := ⟨b, o, rfl, hz, hbs, fun i hi => by
      obtain rfl : i = 0 := by omega
      exact ⟨_, hu, rfl⟩⟩
    have key := (h l J Jx Z W (.pointer (some ⟨b, o, none⟩)) a cp Y hp ⟨a, cp, rfl, q1⟩ ⟨⟨[], rfl, h0⟩, fun _ _ q => q, hZW⟩).sq _ W
      (init_sat (P := P) (args := [AV.val (.func (.yield l) #[] #[]), AV.val (.pointer (some ⟨b, o, none⟩))]) (vs := [.func (.yield l) #[] #[], .pointer (some ⟨b, o, none⟩)]) hN hlen' hZW ⟨rfl, rfl, trivial⟩)
    have hc : Calls P gf (Value.func (.yield l) #[] #[] :: [.pointer (some ⟨b, o, none⟩)]).toArray W (RI J Jx xs) := calls_of_wp hf hb (wpIn_wide.1 key)
    have ha : #[Value.func (.yield l) #[] #[]] ++ [Value.pointer (some ⟨b, o, none⟩)].toArray = (Value.func (.yield l) #[] #[] :: [.pointer (some ⟨b, o, none⟩)]).toArray := by simp
    rw [ha]
    refine callsIn_wide.2 (hc.mono ?_)
    rintro e W' ⟨hv, ⟨p, hp, q⟩ | ⟨k, hk, p, hp, q⟩⟩
    · exact ⟨hv, .inl ⟨p, hp, q⟩⟩
    · exact ⟨hv, .inr ⟨p, ⟨k, hk, hp⟩, q⟩⟩

section
variable {P : Program} {V : List Value → Prop} {xs : List (List Value)} {l : Nat} {ZI : Zone} {W0 : World} {J Jx : List (List Value) → World → Prop} {N : Nat} {w : World} {T : Tab} {O : Own} {Q : Exit → Act → World → Prop}
/-- What is known of a value is laid into the table. -/
theorem ent_know {u : Value} {τ : AV} (d : Nat) (hT : T.get d = .av (.val u)) (h : AV.ok ZI w τ u) (hz : ∀ k, ZI k → k < w.heap.size) : ∀ a w1, Sat (envA N w ZI) T O a w1 → Sat (envA N w ZI) ((d, .av τ) :: T) O a w1 := by
  rintro a w1 ⟨Z1, ν, hs⟩
  refine ⟨Z1, ν, hs.defers, hs.tsize, hs.cst, hs.base, hs.own, fun k => ?_⟩
  by_cases hk : d = k
  · subst hk
    rw [Tab.get_cons_eq]
    have := hs.slot d
    rw [hT] at this
    rw [show a.tmps.getD d undef = u from this]
    exact AV.ok_mono hs.base.z0 hs.base.size (fun k hk _ => hs.base.kept k (hz k hk)) τ u h
  · rw [Tab.get_cons_ne _ _ hk]; exact hs.slot k
theorem cq_know {u : Value} {τ : AV} {c : Code} (d : Nat) (hT : T.get d = .av (.val u)) (h : AV.ok ZI w τ u) (hz : ∀ k, ZI k → k < w.heap.size) (hc : CQ P (envA N w ZI) Q ((d, .av τ) :: T) O c) : CQ P (envA N w ZI) Q T O c :=
  ⟨fun a w1 hs => hc.sq a w1 (ent_know d hT h hz a w1 hs)⟩
theorem lsq_know {u : Value} {τ : AV} {ops : Array Oper} {L : List Oper} (d : Nat) (hT : T.get d = .av (.val u)) (h : AV.ok ZI w τ u) (hz : ∀ k, ZI k → k < w.heap.size) (hc : LSQ P (envA N w ZI) ops Q L ((d, .av τ) :: T) O) : LSQ P (envA N w ZI) ops Q L T O :=
  ⟨fun a w1 hs => hc.sq a w1 (ent_know d hT h hz a w1 hs)⟩
theorem YS0.now (Y : YC0 P V xs l ZI J Jx) {pre : List (List Value)} (S : YS0 J ZI W0 pre w) {a : Act} {w1 : World} {Z1 : Zone} {ν : Vals} (h : SatZ (envA N w ZI) Z1 ν T O a w1) : YS0 J ZI W0 pre w1 :=
  ⟨Y.grow _ _ _ S.j (YS.below h), fun τ u q => AV.ok_mono (fun _ q => q) h.base.size (fun k hk _ => h.base.kept k (S.z k hk)) τ u (S.know τ u q), fun k hk => Nat.lt_of_lt_of_le (S.z k hk) h.base.size⟩
theorem vals_env {Z Z' : Zone} {a : Act} {w1 : World} {Z1 : Zone} {ν : Vals} {w0 : World} (h : SatZ (envA N w0 Z) Z1 ν T O a w1) (W : World) (hz : ∀ k, Z' k → k < W.heap.size) : SatZ (envA N W Z') Z' (fun _ => undef) (valsT T) [] a W :=
  ⟨h.defers, h.tsize, fun _ _ q => (by cases q), ⟨rfl, rfl, rfl, Nat.le_refl _, fun _ hk => hk, fun _ _ => rfl, hz, fun _ q => q, fun _ q => .inl q⟩, ⟨fun r x hx => by simp [look] at hx, fun r r' _ h1 => by simp [look] at h1⟩, fun k => valsT_ok (h.slot k)⟩

theorem sq_yield0 (Y : YC0 P V xs l ZI J Jx) {pre : List (List Value)} (S : YS0 J ZI W0 pre w) (x : List Value) {d : Nat} {c : Operand} {ys : List Operand} {ats : Array TypeId} {ty : TypeId} {pos : String} {af : Array Edge} {ops : Array Oper} {l' : List Oper}
    (hx : V x) (hlen : pre.length < xs.length) (hc : T.ev c = .av (.val (.func (.yield l) #[] #[]))) (hys : ys.map T.ev = x.map (fun v => SV.av (.val v))) (hd : (envA N w ZI).wr d = true)
    (ht : ∀ w', YS0 J ZI W0 (pre ++ [x]) w' → ∀ T', T' = valsT T → LSQ P (envA N w' ZI) ops Q l' ((d, .av (.val (.bool true))) :: T') [])
    (hf : ∀ w', Jx (pre ++ [x]) w' → ∀ T', T' = valsT T → LSQ P (envA N w' (fun _ => False)) ops Q l' ((d, .av (.val (.bool false))) :: T') []) :
    LSQ P (envA N w ZI) ops Q (⟨some d, .call ⟨.value c, ys.toArray, ats⟩, ty, pos, af, none⟩ :: l') T O := by
  refine ⟨fun a w1 hsat => ?_⟩
  obtain ⟨Z1, ν, h⟩ := hsat
  have S1 := S.now Y h
  obtain ⟨fn, tmps, assign, body, hy, hR⟩ := Y.yld pre x w1 S1.j hx hlen
  have hev : ys.map a.eval = x := by
    have h2 := evs_ok h (xs := ys) (τs := x.map AV.val) (by rw [hys, List.map_map]; rfl)
    have : ∀ (l : List Value) (m : List Value), All2 (fun τ v => AV.ok Z1 w1 τ v) (l.map AV.val) m → m = l := by
      intro l
      induction l with
      | nil => intro m hm; match m, hm with | [], _ => rfl
      | cons x l ih => intro m hm; match m, hm with | y :: m, hm => rw [ih m hm.2, show y = x from hm.1]
    exact this _ _ h2
  have hfv : a.eval c = .func (.yield l) #[] #[] := by
    have := ev_ok h c
    rw [hc] at this
    exact this
  refine wpListIn_plain rfl fun K hK => ?_
  refine ⟨fun _ _ => trivial, ?_⟩
  rw [show (fc (envA N w ZI).round).round = none from rfl, Oper.semAt_eq none a.eval _ (by intro c; simp)]
  have hrun : (execOp a.eval ⟨some d, .call ⟨.value c, ys.toArray, ats⟩, ty, pos, af, none⟩).run P w1 = .ok (.round l fn tmps assign body) w1 := by
    have hy' : (Instr.yield l (List.map a.eval ys).toArray).run P w1 = .ok (.round l fn tmps assign body) w1 := by rw [hev]; exact hy
    simp [execOp, resolve, Deferred.ofValue, hfv, invoke] at hy' ⊢
    exact hy'
  rw [hrun]
  refine ⟨fun h => by simp [fc, envA] at h, ?_⟩
  refine RoundIn.mono (F := Fence.wide) hR ?_
  rintro e W' (⟨rfl, hj, hk⟩ | ⟨rfl, hj⟩)
  · have hz' : ∀ k, ZI k → k < W'.heap.size := fun k q => Nat.lt_of_lt_of_le (S1.z k q) hk.2.2.2.1
    refine hK _ _ ((ht W' ⟨hj, fun τ u q => AV.ok_cells hk.2.2.2.1 (fun k ob hz ho hc => ⟨hz, hk.2.2.2.2 k ob (.inl hz) ho hc⟩) τ u (S1.know τ u q), hz'⟩ _ rfl).sq _ _ ⟨ZI, fun _ => undef, ?_⟩)
    exact (vals_env h W' hz').put (some d) _ _ hd rfl
  · exact hK _ _ ((hf W' hj _ rfl).sq _ _ ⟨fun _ => False, fun _ => undef, (vals_env h W' (fun _ q => q.elim)).put (some d) _ _ hd rfl⟩)

/-- A loop of such an iterator: only values stand at its head. -/
theorem cq_loopI0 (Y : YC0 P V xs l ZI J Jx) {γ : Type} {c : Code} (Tof : γ → Tab) (preOf : γ → List (List Value)) (φ : γ → Prop) (μ : γ → Nat) (g0 : γ) (S : YS0 J ZI W0 (preOf g0) w) (h0 : φ g0) (hstart : Ent T O (valsT (Tof g0)) [])
    (hbody : ∀ g, φ g → ∀ w, YS0 J ZI W0 (preOf g) w → ∀ T', T' = valsT (Tof g) → CQ P (envA N w ZI) (Exit.then (fun a w => ∃ g', φ g' ∧ μ g' < μ g ∧ YS0 J ZI W0 (preOf g') w ∧ Sat (envA N w ZI) (valsT (Tof g')) [] a w) Q) T' [] c) : CQ P (envA N w ZI) Q T O (Code.loop c) := by
  have vv : ∀ T : Tab, valsT (valsT T) = valsT T := by
    intro T
    induction T with
    | nil => rfl
    | cons p T ih =>
      obtain ⟨k, s⟩ := p
      cases s with
      | av τ => cases τ <;> simp only [valsT, ih]
      | _ => simp only [valsT, ih]
  have reb : ∀ {w w1 : World} {T : Tab} {a : Act}, (∀ k, ZI k → k < w1.heap.size) → Sat (envA N w ZI) (valsT T) [] a w1 → Sat (envA N w1 ZI) (valsT T) [] a w1 := by
    rintro w w1 T a hz ⟨Z1, ν, h⟩
    have := vals_env h w1 (Z' := ZI) hz
    rw [vv] at this
    exact ⟨ZI, _, this⟩
  refine ⟨fun a w1 hs => ?_⟩
  obtain ⟨Z1, ν, h1⟩ := hstart _ a w1 hs
  have S1 := S.now Y h1
  refine wpIn_loop_ghost (fun n a w => ∃ g, μ g = n ∧ φ g ∧ YS0 J ZI W0 (preOf g) w ∧ Sat (envA N w ZI) (valsT (Tof g)) [] a w) (μ g0) ⟨g0, rfl, h0, S1, reb S1.z ⟨Z1, ν, h1⟩⟩ ?_
  rintro n a w2 ⟨g, rfl, hg, S2, hsat⟩
  refine wpIn_mono ((hbody g hg w2 S2 _ rfl).sq a w2 hsat) ?_
  intro e a' w' hq
  cases e with
  | normal => obtain ⟨g', h1, h2, h3⟩ := hq; exact ⟨μ g', h2, g', rfl, h1, h3⟩
  | exit id => exact hq
  | goto l => exact hq
  | ret => exact hq
  | panic ch => exact hq
  | outgrown => exact hq

theorem sq_roundI0 (Y : YC0 P V xs l ZI J Jx) {γ : Type} {Tof : γ → Tab} {preOf : γ → List (List Value)} {φ : γ → Prop} {μ : γ → Nat} {g : γ} (g' : γ) (S : YS0 J ZI W0 (preOf g') w) (h1 : φ g') (h2 : μ g' < μ g) (h3 : Ent T O (valsT (Tof g')) []) :
    SQ (envA N w ZI) T O (Exit.then (fun a w => ∃ g', φ g' ∧ μ g' < μ g ∧ YS0 J ZI W0 (preOf g') w ∧ Sat (envA N w ZI) (valsT (Tof g')) [] a w) Q .normal) := fun a w' hs => by
  obtain ⟨Z1, ν, hz⟩ := h3 _ a w' hs
  have S1 := S.now Y hz
  have vv : ∀ T : Tab, valsT (valsT T) = valsT T := by
    intro T
    induction T with
    | nil => rfl
    | cons p T ih =>
      obtain ⟨k, s⟩ := p
      cases s with
      | av τ => cases τ <;> simp only [valsT, ih]
      | _ => simp only [valsT, ih]
  have := vals_env hz w' (Z' := ZI) S1.z
  rw [vv] at this
  exact ⟨g', h1, h2, S1, ZI, _, this⟩
variable {fn : Func}
theorem sq_retI0 (Y : YC0 P V xs l ZI J Jx) (hr : fn.results = #[]) (S : YS0 J ZI W0 xs w) : SQ (envA N w ZI) T O (bodyPost P fn (RI J Jx xs) .ret) := by
  rintro a w' ⟨Z', ν, h⟩
  exact bodyPost_ret (results_none hr _ _ _) h.defers ⟨⟨_, rfl⟩, .inl (Y.grow _ _ _ S.j (YS.below h))⟩
theorem sq_retI0' (Y : YC0 P V xs l ZI J Jx) (hr : fn.results = #[]) (S : YS0 J ZI W0 xs w) : SQ (envA N w ZI) T O (bodyPost P fn (RI J Jx xs) .normal) := sq_retI0 Y hr S
theorem sq_retI0x (Y : YC0 P V xs l ZI J Jx) {Z : Zone} (hr : fn.results = #[]) (k : Nat) (hk : k < xs.length) (hj : Jx (xs.take (k + 1)) w) : SQ (envA N w Z) T O (bodyPost P fn (RI J Jx xs) .ret) := by
  rintro a w' ⟨Z', ν, h⟩
  exact bodyPost_ret (results_none hr _ _ _) h.defers ⟨⟨_, rfl⟩, .inr ⟨k, hk, Y.growx _ _ _ hj (YS.below h)⟩⟩
end
end Go.Vc
namespace Go.Vc
open Go Go.RowKit
theorem CtrA.any {P : Program} {f : FuncId} {args : List AV} {res : AV} (h : CtrA P f args res) : CtrA P f args .any := by
  refine ⟨h.enters, fun w Z vs hZ hvs => (h.calls w Z vs hZ hvs).mono ?_⟩
  rintro e w' ⟨v, Z', h1, h2, h3, h4, h5, _⟩
  exact ⟨v, Z', h1, h2, h3, h4, h5, trivial⟩
theorem sq_resA {P : Program} {fn : Func} {w : World} {Z : Zone} {N : Nat} {T : Tab} {O : Own} {rv : ResultVar} {τ : AV} (hr : fn.results = #[rv]) (ht : ResV P T O rv τ) : SQ (envA N w Z) T O (bodyPost P fn (RetA w Z .any) .ret) := by
  intro a w' hs
  obtain ⟨h1, v, h2, u, Z', h3, h4, h5, h6, h7, _⟩ := sq_res1 (res := τ) hr ht rfl a w' hs
  exact ⟨h1, v, h2, u, Z', h3, h4, h5, h6, h7, trivial⟩
theorem cq_cond_ct {P : Program} {E : Env} {Q : Exit → Act → World → Prop} {T : Tab} {O : Own} {x y : Code} (h : CQ P E Q T O x) : CQ P E Q T O (Code.cond (.const (.bool true)) x y) :=
  ⟨fun a w hs => wpIn_cond_true rfl (h.sq a w hs)⟩
theorem cq_cond_cf {P : Program} {E : Env} {Q : Exit → Act → World → Prop} {T : Tab} {O : Own} {x y : Code} (h : CQ P E Q T O y) : CQ P E Q T O (Code.cond (.const (.bool false)) x y) :=
  ⟨fun a w hs => wpIn_cond_false rfl (h.sq a w hs)⟩
class StrTy (P : Program) (t : TypeId) : Prop where
  und : P.underlying t = some .string
section
variable {P : Program} {E : Env} {T T' : Tab} {O O' : Own} {o : Oper} {d : Option Tmp} {ty : TypeId} {pos : String} {af : Array Edge} {g : Option (Nat × Bool)}
theorem g_sindex {t : TypeId} {x y : Operand} {s : ByteArray} {q : IntKind} {i : Int} {k : Nat} [ht : StrTy P t] (hx : T.ev x = .av (.val (.string s))) (hy : T.ev y = .av (.val (.int q i))) (hi : i = ↑k) (hk : k < s.size) :
    GV P E ⟨d, .index t x y, ty, pos, af, g⟩ T O (.av (.val (.int .u8 (s[k].toNat : Int)))) [] [] :=
  gv_pure [] fun Z ν a w h _ => by
    have e1 := val_ok hx (h x (by simp [Op.operands]))
    have e2 := val_ok hy (h y (by simp [Op.operands]))
    subst hi
    refine ⟨_, ?_, rfl⟩
    simp [execOp, Instr.index, e1, e2, asIntOf, run_underlying ht.und, hk]
/-- x[i] where what x reads as is known of the value itself. -/
theorem g_index_know {N : Nat} {w0 : World} {ZI : Zone} {t e : TypeId} {x y : Operand} {u : Value} {n sz : Nat} {row : Nat → Nat → AV} {q : IntKind} {i : Int} {k : Nat} [ht : SlTy P t e sz] (hk : AV.ok ZI w0 (.sl n sz row) u) (hz : ∀ k, ZI k → k < w0.heap.size) (hx : T.ev x = .av (.val u)) (hy : T.ev y = .av (.val (.int q i)))
    (hi : i = ↑k) (hlt : k < n) : GV P (envA N w0 ZI) ⟨d, .indexAddr t x y, ty, pos, af, g⟩ T O (.av (.ptr sz (row k))) [] [] := by
  refine ⟨fun T' O' hT _ => ⟨by intro c; simp, fun Z ν a w hs => ?_⟩⟩
  have h1 := ev_ok hs x
  rw [ev_same (o := ⟨d, .indexAddr t x y, ty, pos, af, g⟩) hT (by simp [Op.operands]), hx] at h1
  have h2 := ev_ok hs y
  rw [ev_same (o := ⟨d, .indexAddr t x y, ty, pos, af, g⟩) hT (by simp [Op.operands]), hy] at h2
  have e1 : a.eval x = u := h1
  have e2 : a.eval y = .int q i := h2
  obtain ⟨p, c, rfl, _, _, hc⟩ := AV.ok_mono hs.base.z0 hs.base.size (fun k hk _ => hs.base.kept k (hz k hk)) _ u hk
  obtain ⟨b, o, rfl, hzb, hb, hcell⟩ := hc (by omega)
  subst hi
  refine wp_value (w' := w) (v := .pointer (some ⟨b, o + k * sz, none⟩)) ?_ ⟨_, Z, ν, rfl, hs, ⟨b, o + k * sz, rfl, hzb, hb, fun j hj => hcell k hlt j hj⟩⟩
  simp [execOp, Instr.indexAt, e1, e2, asIntOf, run_underlying ht.und, ht.size w, hlt, add_addr]
end
end Go.Vc
namespace Go.Vc
open Go Go.RowKit
section
variable {P : Program} {E : Env} {T T' : Tab} {O O' : Own} {o : Oper} {d : Option Tmp} {ty : TypeId} {pos : String} {af : Array Edge} {g : Option (Nat × Bool)}
/-- A box of the call's own. -/
theorem f_box_own {t : TypeId} {x : Operand} {u : Value} (r : Nat) (hx : T.ev x = .av (.val u)) (h1 : u.oneCell' = true) (hf : freshB r T O = true) :
    VStep P E ⟨d, .box t x, ty, pos, af, g⟩ T O T ((r, .cells [.av (.val u)]) :: O) (.own r 0) := by
  refine VStep.fresh (r := r) ⟨by intro c; simp, fun Z ν a w hs => ?_⟩ hf
  have hv := ev_ok hs x
  rw [hx] at hv
  have hv' : a.eval x = u := hv
  refine wp_value (w' := w.alloc (.cells (a.eval x).cells t)) (v := .pointer (some ⟨w.heap.size, 0, none⟩)) (by simp [execOp, Instr.box, newVar, newRow]) ?_
  refine ⟨_, Z, updV ν r (.pointer (some ⟨w.heap.size, 0, none⟩)), rfl, hs.newRes r _ _ _ rfl (fun _ hk hnz => ?_), w.heap.size, by simp [updV], rfl⟩
  have hc : (a.eval x).cells = #[u] := by rw [hv', cells_one h1]
  refine ⟨w.heap.size, t, (a.eval x).cells, rfl, hk, hnz, heap_alloc_new _ _, by rw [hc]; rfl, fun i s hs => ?_⟩
  match i, hs with
  | 0, hs => simp only [List.getElem?_cons_zero, Option.some.injEq] at hs; subst hs; exact ⟨u, by rw [hc]; rfl, rfl⟩
  | i + 1, hs => simp at hs

theorem g_store_osl {t : TypeId} {x y : Operand} {r q off ety sz n : Nat} {cs : List SV} {f : Nat → Nat → AV} [ht : SizeTy P t 1] (hx : T.ev x = .own r off) (hy : T.ev y = .osl q) (hr : look O r = some (.cells cs)) (hq : look O q = some (.row ety sz n f)) (hfit' : Nat.ble (off + 1) cs.length = true) :
    GV P E ⟨d, .store t x y, ty, pos, af, g⟩ T O (.av .any) [r, q] [(r, .cells (spl cs off [.osl q]))] := by
  refine ⟨fun T' O' hT hO => ⟨by intro c; simp, fun Z ν a w hs => ?_⟩⟩
  have hfit : off + 1 ≤ cs.length := Nat.le_of_ble_eq_true hfit'
  have ex := ev_ok hs x
  rw [ev_same (o := ⟨d, .store t x y, ty, pos, af, g⟩) hT (by simp [Op.operands]), hx] at ex
  have ey := ev_ok hs y
  rw [ev_same (o := ⟨d, .store t x y, ty, pos, af, g⟩) hT (by simp [Op.operands]), hy] at ey
  obtain ⟨b, hb, hax⟩ := ex
  have hone : (a.eval y).oneCell' = true := by
    rw [show a.eval y = ν q from ey]
    rcases hs.own.each q _ (by rw [hO q (by simp)]; exact hq) with ⟨h, _⟩ | ⟨_, _, _, h, _⟩ <;> (rw [h]; rfl)
  obtain ⟨w', hst, hsat⟩ := hs.storeOwn (P := P) (ss := [.osl q]) (vs := [a.eval y]) (by rw [hO r (by simp)]; exact hr) hb hfit ⟨ey, trivial⟩ (by simpa using hone)
  unfold Oper.wp
  have hrun : (execOp a.eval ⟨d, .store t x y, ty, pos, af, g⟩).run P w = .ok .skip w' := by
    simp [execOp, Instr.storeAt, hax, Instr.sureAddr, storeVar, ht.run w, cells_one hone, hst]
  rw [hrun]
  exact ⟨Go.undef, Z, ν, rfl, hsat, trivial⟩

/-- The nil slice in a box becomes a row of the call's own. -/
theorem ent_rowc {r off : Nat} {cs : List SV} (q ety sz : Nat) (f : Nat → Nat → AV) (hr : look O r = some (.cells cs)) (hc : cs[off]? = some (.av (.val (.slice none 0 0)))) (hf : freshB q T O = true) :
    Ent T O T ((r, .cells (cs.set off (.osl q))) :: (q, .row ety sz 0 f) :: O) := by
  rintro E a w ⟨Z, ν, h⟩
  obtain ⟨f1, f2⟩ := fresh_kill hf
  have hk := h.kill q (.slice none 0 0)
  have hk' := hk.addRes q (.row ety sz 0 f) (.inl ⟨if_pos rfl, rfl⟩) (fun b hb => by rw [show updV ν q (.slice none 0 0) q = .slice none 0 0 from if_pos rfl] at hb; simp [blkOf] at hb)
  have hO : ∀ k, look ((q, Res.row ety sz 0 f) :: O) k = look ((q, Res.row ety sz 0 f) :: Own.kill q O) k := fun k => by
    by_cases hkr : q = k
    · subst hkr; rw [look_cons_eq, look_cons_eq]
    · rw [look_cons_ne _ _ hkr, look_cons_ne _ _ hkr, f2]
  have hrq : r ≠ q := by
    intro e
    subst e
    have := f2 r
    rw [Own.look_kill, if_pos rfl, hr] at this
    cases this
  have hq : updV ν q (.slice none 0 0) q = .slice none 0 0 := if_pos rfl
  have each' : ∀ k x, look ((q, Res.row ety sz 0 f) :: O) k = some x → x.ok E Z (updV ν q (.slice none 0 0)) w (updV ν q (.slice none 0 0) k) := fun k x hx => hk'.own.each k x (by rw [← hO]; exact hx)
  have key : ∀ k, look ((r, Res.cells (cs.set off (.osl q))) :: (q, Res.row ety sz 0 f) :: O) k ≠ none → look ((q, Res.row ety sz 0 f) :: O) k ≠ none := fun k hk => by
    by_cases e : r = k
    · subst e; rw [look_cons_ne _ _ (fun e => hrq e.symm), hr]; simp
    · rwa [look_cons_ne _ _ e] at hk
  refine ⟨Z, updV ν q (.slice none 0 0), hk'.defers, hk'.tsize, hk'.cst, hk'.base, ⟨fun k y hy => ?_, fun k k' hne e1 e2 => hk'.own.apart k k' hne (by rw [← hO]; exact key k e1) (by rw [← hO]; exact key k' e2)⟩, fun d => by rw [← f1]; exact hk'.slot d⟩
  by_cases e : r = k
  · subst e
    rw [look_cons_eq] at hy
    cases hy
    obtain ⟨b, ty', arr, e1, e2, e3, e4, e5, e6⟩ := each' r (.cells cs) (by rw [look_cons_ne _ _ (fun e => hrq e.symm)]; exact hr)
    refine ⟨b, ty', arr, e1, e2, e3, e4, by simpa using e5, fun i s hs => ?_⟩
    rw [List.getElem?_set] at hs
    by_cases hi : off = i
    · subst hi
      have hlt := (List.getElem?_eq_some_iff.1 hc).1
      rw [if_pos rfl, if_pos hlt] at hs
      cases hs
      obtain ⟨u, hu, hk⟩ := e6 off _ hc
      exact ⟨u, hu, by rw [show u = Value.slice none 0 0 from hk]; exact hq.symm⟩
    · rw [if_neg hi] at hs
      exact e6 i s hs
  · rw [look_cons_ne _ _ e] at hy
    exact each' k y hy
/-- An element of an array that is a value. -/
theorem g_aindex {t : TypeId} {x y : Operand} {u v r : Value} (hr : ∀ w, (Instr.index t u v).run P w = .ok r w) (hx : T.ev x = .av (.val u)) (hy : T.ev y = .av (.val v)) :
    GV P E ⟨d, .index t x y, ty, pos, af, g⟩ T O (.av (.val r)) [] [] :=
  gv_pure [] fun Z ν a w h _ => by
    have e1 := val_ok hx (h x (by simp [Op.operands]))
    have e2 := val_ok hy (h y (by simp [Op.operands]))
    refine ⟨_, ?_, rfl⟩
    simp [execOp, e1, e2, hr w]
end
theorem sq_rnd {E : Env} {T TL : Tab} {O OL : Own} {φ : Prop} {Ox : Code → Own} {φx : Code → Prop} (hφ : φ) (h : Ent T O TL OL) : SQ E T O (rndPost E TL OL φ Ox φx .normal) := fun a w hs => ⟨hφ, h E a w hs⟩
theorem sq_rnd_ret {E : Env} {T TL : Tab} {O OL : Own} {φ : Prop} {Ox : Code → Own} {φx : Code → Prop} (hφ : φx .ret) (h : Ent T O TL (Ox .ret)) : SQ E T O (rndPost E TL OL φ Ox φx .ret) := fun a w hs => ⟨hφ, h E a w hs⟩
theorem sq_ass {E : Env} {T TA : Tab} {O OA : Own} (h : Ent T O TA OA) : SQ E T O (Exit.then (fun a w => Sat E TA OA a w) (fun _ _ _ => False) .normal) := fun a w hs => h E a w hs
end Go.Vc
namespace Go.Vc
open Go Go.RowKit
/-- A box of the call's own is frozen. -/
theorem ent_freezec {T : Tab} {O : Own} (d r : Nat) {cs : List SV} (f : Nat → AV) (hd : T.get d = .own r 0) (hr : look O r = some (.cells cs)) (hcs : cs = (List.range cs.length).map (fun i => SV.av (f i))) :
    Ent T O ((d, .av (.ptr cs.length f)) :: T.frz r .any) (Own.drop r O) := by
  rintro E a w ⟨Z, ν, h⟩
  obtain ⟨b, ty, arr, e1, e2, e3, e4, e5, e6⟩ := h.own.each r _ hr
  have hlt := (Array.getElem?_eq_some_iff.1 e4).1
  have hav : ∀ (τ : AV) v, τ.ok Z w v → τ.ok (fun k => Z k ∨ k = b) w v := AV.ok_mono (fun _ h => .inl h) (Nat.le_refl _) (fun _ _ _ => rfl)
  refine ⟨fun k => Z k ∨ k = b, ν, h.defers, h.tsize, h.cst, ⟨h.base.os, h.base.tape, h.base.output, h.base.size, h.base.keepLt, h.base.kept, fun k hk => ?_, fun k hk => .inl (h.base.z0 k hk), fun k hk => ?_⟩, ⟨fun k x hx => ?_, fun k k' hne h1 h2 => ?_⟩, fun k => ?_⟩
  · rcases hk with hk | rfl
    · exact h.base.zLt k hk
    · exact hlt
  · rcases hk with hk | rfl
    · exact h.base.zNew k hk
    · exact .inr e2
  · rw [Own.look_drop] at hx
    by_cases hkr : k = r
    · rw [if_pos hkr] at hx; cases hx
    · rw [if_neg hkr] at hx
      refine Res.ok_env (h.own.each k x hx) hav (fun b' hb' => ?_)
      obtain ⟨ob, q1, q2, q3, q4⟩ := Res.isCells (h.own.each k x hx) hb'
      refine ⟨fun hz => ?_, q4, rfl⟩
      rcases hz with hz | rfl
      · exact q3 hz
      · exact h.own.apart r k (fun e => hkr e.symm) (by rw [hr]; simp) (by rw [hx]; simp) b' (by rw [e1]; rfl) hb'
  · have hh : ∀ k, look (Own.drop r O) k ≠ none → look O k ≠ none := fun k hk => by
      rw [Own.look_drop] at hk
      by_cases hkr : k = r
      · rw [if_pos hkr] at hk; exact absurd rfl hk
      · rwa [if_neg hkr] at hk
    exact h.own.apart k k' hne (hh k h1) (hh k' h2)
  · by_cases hk : d = k
    · subst hk
      rw [Tab.get_cons_eq]
      have hs := h.slot d
      rw [hd] at hs
      obtain ⟨b', q1, q2⟩ := hs
      rw [e1] at q1
      cases q1
      refine ⟨b, 0, q2, fun _ => .inr rfl, hlt, fun i hi => ?_⟩
      have hci : cs[i]? = some (.av (f i)) := by
        rw [hcs]; simp [hi]
      obtain ⟨u, hu, hok⟩ := e6 i _ hci
      exact ⟨u, by simp only [World.cell?, e4, Nat.zero_add]; exact hu, hav _ _ hok⟩
    · rw [Tab.get_cons_ne _ _ hk, Tab.get_frz]
      have hs := h.slot k
      generalize T.get k = s at hs
      have hsv := SV.ok_av (ν := ν) hav s _ hs
      cases s with
      | av σ => exact hsv
      | clo q cs' => simp only [SV.frz]; split <;> first | exact trivial | exact hsv
      | _ => simp only [SV.frz]; split <;> first | exact trivial | exact hsv
section
variable {P : Program} {V : List Value → Prop} {xs : List (List Value)} {l : Nat} {ZI : Zone} {b0 : Nat} {J Jx : List (List Value) → World → Prop} {N : Nat} {w : World} {Z : Zone} {T : Tab} {Q : Exit → Act → World → Prop}
/-- A guarded call of yield: the guard says yes. -/
theorem sq_yield_on (Y : YC P V xs l ZI b0 J Jx) {pre : List (List Value)} (S : YS J ZI b0 pre w Z) (x : List Value) {d j gd : Nat} {want : Bool} {c : Operand} {ys : List Operand} {ats : Array TypeId} {ty : TypeId} {pos : String} {af : Array Edge} {ops : Array Oper} {l' : List Oper}
    (hx : V x) (hlen : pre.length < xs.length) (hc : T.ev c = .av (.val (.func (.yield l) #[] #[]))) (hys : ys.map T.ev = x.map (fun v => SV.av (.val v))) (hj : (ops[j]?).bind (·.dst) = some gd) (hb : T.get gd = .av (.val (.bool want))) (hd : (envA N w Z).wr d = true)
    (ht : ∀ w' Z', YS J ZI b0 (pre ++ [x]) w' Z' → LSQ P (envA N w' Z') ops Q l' ((d, .av (.val (.bool true))) :: T) [])
    (hf : ∀ w', Jx (pre ++ [x]) w' → ∀ T', T' = valsT T → LSQ P (envA N w' (fun _ => False)) ops Q l' ((d, .av (.val (.bool false))) :: T') []) :
    LSQ P (envA N w Z) ops Q (⟨some d, .call ⟨.value c, ys.toArray, ats⟩, ty, pos, af, some (j, want)⟩ :: l') T [] := by
  refine ⟨fun a w1 hsat => ?_⟩
  have hsat' := hsat
  obtain ⟨Z1, ν, h⟩ := hsat'
  have hy := yielded_of hj hb h
  have key := (sq_yield Y S x (ops := ops) (ats := ats) (ty := ty) (pos := pos) (af := af) hx hlen hc hys hd ht hf).sq a w1 hsat
  unfold wpListIn at key ⊢
  rw [if_pos (by simp [Region.wanted])] at key
  show if _ then _ else _
  rw [if_pos (by simp [Region.wanted, hy])]
  exact key
end
theorem ent_drop {T : Tab} {O : Own} : Ent T O T [] := fun _ _ _ ⟨Z, ν, h⟩ => ⟨Z, ν, h.defers, h.tsize, h.cst, h.base, ⟨fun r x hx => by simp [look] at hx, fun r r' _ h1 => by simp [look] at h1⟩, h.slot⟩
end Go.Vc
namespace Go.Vc
open Go Go.RowKit
def SV.isOsl : SV → Bool | .osl _ => true | _ => false
section
variable {P : Program} {E : Env} {T T' : Tab} {O O' : Own} {o : Oper} {d : Option Tmp} {ty : TypeId} {pos : String} {af : Array Edge} {g : Option (Nat × Bool)}
theorem g_store' {t : TypeId} {x y : Operand} {r off : Nat} {cs : List SV} {s : SV} [ht : SizeTy P t 1] (hx : T.ev x = .own r off) (hy : T.ev y = s) (h1 : s.one = true) (hr : look O r = some (.cells cs)) (hfit' : Nat.ble (off + 1) cs.length = true) (hns : s.isOsl = false) :
    GV P E ⟨d, .store t x y, ty, pos, af, g⟩ T O (.av .any) [r] [(r, .cells (spl cs off [s]))] := g_store hx hy h1 hr hfit' (fun k e => by subst e; cases hns)
end
end Go.Vc
namespace Go.Vc
open Go Go.RowKit
theorem ent_nil {T : Tab} {O : Own} (d : Nat) (sz : Nat) (f : Nat → Nat → AV) (hd : T.get d = .av (.val (.slice none 0 0))) : Ent T O ((d, .av (.sl 0 sz f)) :: T) O := by
  rintro E a w ⟨Z, ν, h⟩
  refine ⟨Z, ν, h.defers, h.tsize, h.cst, h.base, h.own, fun k => ?_⟩
  by_cases hk : d = k
  · subst hk
    rw [Tab.get_cons_eq]
    have hs := h.slot d
    rw [hd] at hs
    rw [show a.tmps.getD d undef = .slice none 0 0 from hs]
    exact ⟨none, 0, rfl, Nat.le_refl _, Nat.zero_le _, fun hn => absurd hn (Nat.lt_irrefl _)⟩
  · rw [Tab.get_cons_ne _ _ hk]; exact h.slot k
theorem sq_ent {E : Env} {T T' : Tab} {O O' : Own} {φ : Act → World → Prop} (h : Ent T O T' O') (hq : SQ E T' O' φ) : SQ E T O φ := fun a w hs => hq a w (h E a w hs)
theorem rowPost_sl {w w' : World} {Z' : Zone} {ety sz n : Nat} {f : Nat → Nat → AV} {v : Value} (h : RowPost w w' Z' ety sz n f v) : (AV.sl n sz f).ok (fun k => Z' k ∨ blkOf v = some k) w' v := by
  rcases h with ⟨rfl, rfl⟩ | ⟨b, cap, arr, rfl, hge, hz, hh, hn, hm, hsz, hf⟩
  · exact ⟨none, 0, rfl, Nat.le_refl _, Nat.zero_le _, fun hn => absurd hn (Nat.lt_irrefl _)⟩
  · refine ⟨_, cap, rfl, hn, hm, fun _ => ⟨b, 0, rfl, fun _ => .inr rfl, (Array.getElem?_eq_some_iff.1 hh).1, fun i hi j hj => ?_⟩⟩
    obtain ⟨u, hu, hk⟩ := hf i hi j hj
    exact ⟨u, by rw [Nat.zero_add, cell_of_row w' b _ arr ety _ hh]; exact hu, AV.ok_mono (fun _ h => .inl h) (Nat.le_refl _) (fun _ _ _ => rfl) _ _ hk⟩
/-- For whoever only reads the row, and what comes with it. -/
theorem CtrR.roN {P : Program} {f : FuncId} {args : List AV} {ety sz n : Nat} {fr : Nat → Nat → AV} {ρ : AV} {ρs : List AV} (h : CtrR P f args ety sz n fr (ρ :: ρs)) : CtrA P f args (tupOf (.sl n sz fr :: ρ :: ρs)) := by
  refine ⟨h.enters, fun w Z vs hZ hvs => (h.calls w Z vs hZ hvs).mono ?_⟩
  rintro e w' ⟨v, r, Z', rfl, hr, hb, h1, h2, h3, h4⟩
  obtain ⟨us, rfl, hus⟩ := hr
  refine ⟨_, fun k => Z' k ∨ blkOf v = some k, rfl, hb, fun k hk => .inl (h1 k hk), fun k hk => ?_, fun k hk => ?_, ?_⟩
  · rcases hk with hk | hk
    · exact h2 k hk
    · rcases h4 with ⟨rfl, _⟩ | ⟨b, cap, arr, rfl, hge, _⟩
      · simp [blkOf] at hk
      · simp only [blkOf, Option.some.injEq] at hk; subst hk; exact .inr hge
  · rcases hk with hk | hk
    · exact h3 k hk
    · rcases h4 with ⟨rfl, _⟩ | ⟨b, cap, arr, rfl, hge, _, hh, _⟩
      · simp [blkOf] at hk
      · simp only [blkOf, Option.some.injEq] at hk; subst hk; exact (Array.getElem?_eq_some_iff.1 hh).1
  · have hall : All2 (fun τ u => AV.ok (fun k => Z' k ∨ blkOf v = some k) w' τ u) (.sl n sz fr :: ρ :: ρs) (v :: us) :=
      ⟨rowPost_sl h4, hus.mono fun τ _ u hu => AV.ok_mono (fun _ h => .inl h) (Nat.le_refl _) (fun _ _ _ => rfl) τ u hu⟩
    refine ⟨v :: us, rfl, hall.len.symm, fun i hi => ?_⟩
    obtain ⟨u, hu, hk⟩ := hall.get i _ (List.getElem?_eq_getElem hi)
    refine ⟨u, hu, ?_⟩
    simpa [List.getD, List.getElem?_eq_getElem hi] using hk
end Go.Vc
namespace Go.Vc
open Go Go.RowKit
section
variable {P : Program} {E : Env} {T T' : Tab} {O O' : Own} {o : Oper} {d : Option Tmp} {ty : TypeId} {pos : String} {af : Array Edge} {g : Option (Nat × Bool)}
theorem g_extractT {x : Operand} {i : Nat} {τs : List AV} {τ : AV} (hx : T.ev x = .av (tupOf τs)) (hi : τs[i]? = some τ) : GV P E ⟨d, .extract x i, ty, pos, af, g⟩ T O (.av τ) [] [] := by
  have hlt := (List.getElem?_eq_some_iff.1 hi).1
  have := g_extract (P := P) (E := E) (O := O) (d := d) (ty := ty) (pos := pos) (af := af) (g := g) (i := i) hx hlt
  rw [show τs.getD i .any = τ by simp [List.getD, hi]] at this
  exact this
theorem slc_ok {Z : Zone} {ν : Vals} {w : World} {T : Tab} {x : Operand} {a : Act} {n sz : Nat} {row : Nat → Nat → AV} (hx : T.ev x = .av (.slc n sz row)) (h : (T.ev x).ok Z ν w (a.eval x)) :
    ∃ p, a.eval x = .slice p n n ∧ n ≤ maxLen ∧ (0 < n → ∃ b o, p = some ⟨b, o, none⟩ ∧ (0 < sz → Z b) ∧ b < w.heap.size ∧
      ∀ i, i < n → ∀ j, j < sz → ∃ u, w.cell? ⟨b, o + i * sz + j, none⟩ = some u ∧ (row i j).ok Z w u) := by
  rw [hx] at h; exact h
/-- x[:h:h] of a slice that stands: no room behind it. -/
theorem g_cut3 {t e : TypeId} {x y z : Operand} {n sz h : Nat} {row : Nat → Nat → AV} {q q' : IntKind} {i i' : Int} [ht : SlTy P t e sz] (hx : T.ev x = .av (.sl n sz row)) (hy : T.ev y = .av (.val (.int q i))) (hz : T.ev z = .av (.val (.int q' i'))) (hi : i = ↑h) (hi' : i' = ↑h) (hh : h ≤ n) :
    GV P E ⟨d, .slice t x none (some y) (some z), ty, pos, af, g⟩ T O (.av (.slc h sz row)) [] [] :=
  gv_pure [] fun Z ν a w hs _ => by
    obtain ⟨p, c, he, hnc, hcm, hc⟩ := sl_ok hx (hs x (by simp [Op.operands]))
    have e1 := val_ok hy (hs y (by simp [Op.operands]))
    have e2 := val_ok hz (hs z (by simp [Op.operands]))
    subst hi
    subst hi'
    have hhc : h ≤ c := by omega
    refine ⟨.slice p h h, ?_, p, rfl, by omega, fun hp => ?_⟩
    · have hif : (if h = 0 then p else p.map (·.add (0 * sz))) = p := by
        split
        · rfl
        · cases p with
          | none => rfl
          | some a => simp [Addr.add]
      simp [execOp, Instr.sliceAt, Instr.slice, he, run_underlying ht.und, Instr.sliceBounds, Instr.sliceBound, asIntOf, e1, e2, ht.size w, hhc]
      try (cases p <;> simp [Addr.add])
    · obtain ⟨b, o, rfl, h1, h2, h3⟩ := hc (by omega)
      exact ⟨b, o, rfl, h1, h2, fun i hi j hj => h3 i (by omega) j hj⟩
theorem g_len_slc {t e : TypeId} {x : Operand} {n sz sz' : Nat} {row : Nat → Nat → AV} [ht : SlTy P t e sz'] (hx : T.ev x = .av (.slc n sz row)) :
    GV P E ⟨d, .call ⟨.builtin .len, #[x], #[t]⟩, ty, pos, af, g⟩ T O (.av (.val (.int .i64 n))) [] [] :=
  gv_pure [] fun Z ν a w h _ => by
    obtain ⟨p, he, _, hc⟩ := slc_ok hx (h x (by simp [Op.operands, Call.operands]))
    refine ⟨.int .i64 n, ?_, rfl⟩
    simp [execOp, resolve, invoke, builtin, Builtin.len_, he, run_underlying ht.und, goInt]
theorem g_index_slc {t e : TypeId} {x y : Operand} {n sz : Nat} {row : Nat → Nat → AV} {q : IntKind} {i : Int} {k : Nat} [ht : SlTy P t e sz] (hx : T.ev x = .av (.slc n sz row)) (hy : T.ev y = .av (.val (.int q i)))
    (hi : i = ↑k) (hk : k < n) : GV P E ⟨d, .indexAddr t x y, ty, pos, af, g⟩ T O (.av (.ptr sz (row k))) [] [] :=
  gv_pure [] fun Z ν a w h _ => by
    obtain ⟨p, he, _, hc⟩ := slc_ok hx (h x (by simp [Op.operands]))
    have hv := val_ok hy (h y (by simp [Op.operands]))
    obtain ⟨b, o, rfl, hz, hb, hcell⟩ := hc (by omega)
    subst hi
    refine ⟨.pointer (some ⟨b, o + k * sz, none⟩), ?_, ⟨b, o + k * sz, rfl, hz, hb, fun j hj => hcell k hk j hj⟩⟩
    simp [execOp, Instr.indexAt, hv, he, asIntOf, run_underlying ht.und, ht.size w, hk, add_addr]
theorem ent_slc {T : Tab} {O : Own} {n sz : Nat} {row : Nat → Nat → AV} (d : Nat) (hd : T.get d = .av (.slc n sz row)) : Ent T O ((d, .av (.sl n sz row)) :: T) O := by
  rintro E a w ⟨Z, ν, h⟩
  refine ⟨Z, ν, h.defers, h.tsize, h.cst, h.base, h.own, fun k => ?_⟩
  by_cases hk : d = k
  · subst hk
    rw [Tab.get_cons_eq]
    have hs := h.slot d
    rw [hd] at hs
    obtain ⟨p, e, h1, h2⟩ := hs
    exact ⟨p, n, e, Nat.le_refl _, h1, h2⟩
  · rw [Tab.get_cons_ne _ _ hk]; exact h.slot k

/-- The cells of a slice that stands, one behind the other. -/
theorem cells_list {Z : Zone} {w : World} {b o m sz : Nat} {h : Nat → Nat → AV} (hpos : 0 < sz) (hcell : ∀ i, i < m → ∀ j, j < sz → ∃ u, w.cell? ⟨b, o + i * sz + j, none⟩ = some u ∧ (h i j).ok Z w u) :
    ∃ news : List Value, news.length = m * sz ∧ (∀ (j : Nat) u, news[j]? = some u → w.cell? ((⟨b, o, none⟩ : Addr).add j) = some u) ∧ (∀ i, i < m → ∀ j, j < sz → ∃ u, news[i * sz + j]? = some u ∧ (h i j).ok Z w u) := by
  refine ⟨(List.range (m * sz)).map fun k => (w.cell? ⟨b, o + k, none⟩).getD undef, by simp, fun j u hj => ?_, fun i hi j hj => ?_⟩
  · simp only [List.getElem?_map, Option.map_eq_some_iff] at hj
    obtain ⟨k, hk, rfl⟩ := hj
    obtain ⟨hlt, rfl⟩ := List.getElem?_eq_some_iff.1 hk
    simp only [List.length_range] at hlt
    simp only [List.getElem_range]
    have hq : j / sz < m := Nat.div_lt_of_lt_mul (by rw [Nat.mul_comm]; exact hlt)
    obtain ⟨u, hu, _⟩ := hcell (j / sz) hq (j % sz) (Nat.mod_lt _ hpos)
    have : o + j / sz * sz + j % sz = o + j := by rw [Nat.add_assoc, Nat.mul_comm, Nat.div_add_mod]
    rw [this] at hu
    rw [add_addr, hu]; rfl
  · have hlt : i * sz + j < m * sz := by
      have : (i + 1) * sz ≤ m * sz := Nat.mul_le_mul_right _ hi
      rw [Nat.add_mul, Nat.one_mul] at this
      omega
    obtain ⟨u, hu, hk⟩ := hcell i hi j hj
    refine ⟨u, ?_, hk⟩
    simp only [List.getElem?_map, List.getElem?_range hlt, Option.map_some]
    rw [← Nat.add_assoc, hu]; rfl

/-- append onto a slice without room: a new row of the call's own. -/
theorem v_append_slc {t e : TypeId} {x y : Operand} {n m sz bytes : Nat} {f h : Nat → Nat → AV} (r : Nat) [ht : SlTy P t e sz] [he : EltTy P e sz bytes] (hx : T.ev x = .av (.slc n sz f)) (hy : T.ev y = .av (.sl m sz h))
    (hn : 0 < n) (hm : 0 < m) (hlen : n + m ≤ maxLen) (hby : (n + m) * bytes ≤ 140737488355328) (hfr : freshB r T O = true) :
    VStep P E ⟨d, .call ⟨.builtin .append, #[x, y], #[t, t]⟩, ty, pos, af, g⟩ T O T ((r, .row e sz (n + m) (rowApp n f h)) :: O) (.osl r) := by
  refine VStep.fresh (r := r) ⟨by intro c; simp, fun Z ν a w hs => ?_⟩ hfr
  obtain ⟨p, hvx, hnm, hcx⟩ := slc_ok hx (ev_ok hs x)
  obtain ⟨p', c, hvy, hmc, hcm, hcy⟩ := sl_ok hy (ev_ok hs y)
  obtain ⟨b, o, rfl, _, hb, hcell⟩ := hcx hn
  obtain ⟨b', o', rfl, _, hb', hcell'⟩ := hcy hm
  obtain ⟨i0, z, hi, hz, hsz, hbt, hzs, hpos⟩ := he.info
  obtain ⟨olds, hol, hoc, hok⟩ := cells_list hpos hcell
  obtain ⟨news, hnl, hnc, hnk⟩ := cells_list hpos hcell'
  subst hsz
  have hr := run_append_grow (P := P) w t ty e i0 z ht.und hi hz ⟨b, o, none⟩ n n olds hol hoc ⟨b', o', none⟩ m c news hnl hnc (by omega) (by simp only [maxLen] at hlen; omega) (growslice_fits (by omega) (by rw [hbt]; exact hby))
  have hge := grownCap_ge w (n + m) n e
  have hcm' := grownCap_le_maxLen w (n + m) n e hlen
  generalize hcap : grownCap w (n + m) n e = cap at *
  have hs2 : SatZ E Z ν T O a w.drew := hs.shift hs.defers hs.tsize hs.cst ⟨hs.base.os, hs.base.tape, hs.base.output, hs.base.size, hs.base.keepLt, hs.base.kept, hs.base.zLt, hs.base.z0, hs.base.zNew⟩ (AV.ok_mono (fun _ q => q) (Nat.le_refl _) (fun _ _ _ => rfl)) (fun r hr b hb => by
    obtain ⟨_, _, _, q1, q2⟩ := own_blk hs ⟨r, hr, hb⟩
    exact ⟨q1, q2, rfl⟩) (fun _ _ => rfl)
  refine wp_value (w' := w.drew.alloc (.cells (olds.toArray ++ news.toArray ++ Builtin.zeroCells z.cells (cap - (n + m))) e)) (v := .slice (some ⟨w.heap.size, 0, none⟩) (n + m) cap) ?_ ?_
  · simp only [execOp, resolve, invoke, builtin, Sem.run_bind, Sem.run_pure, Result.andThen_ok, List.map_toArray, List.map_cons, List.map_nil, hvx, hvy, hr]
  · refine ⟨_, Z, updV ν r (.slice (some ⟨w.heap.size, 0, none⟩) (n + m) cap), rfl, hs2.newRes r _ _ _ rfl (fun hsv hk hnz => ?_), (if_pos rfl : updV ν r _ r = _).symm⟩
    have hol2 : olds.length = n * i0.size := hol
    refine .inr ⟨w.heap.size, cap, _, rfl, hk, hnz, heap_alloc_new w.drew _, hge, hcm', ?_, fun i hi j hj => ?_⟩
    · simp only [Array.size_append, List.size_toArray, size_zeroCells, hzs, hol2, hnl, ← Nat.add_mul]
      congr 1
      omega
    · have hav : ∀ (τ : AV) u, τ.ok Z w u → τ.ok Z (w.drew.alloc (.cells (olds.toArray ++ news.toArray ++ Builtin.zeroCells z.cells (cap - (n + m))) e)) u := AV.ok_mono (fun _ q => q) (by simp) (fun k _ hk => heap_old w.drew _ hk)
      have key : ∀ u, (olds ++ news)[i * i0.size + j]? = some u → (olds.toArray ++ news.toArray ++ Builtin.zeroCells z.cells (cap - (n + m)))[i * i0.size + j]? = some u := by
        intro u hu
        have hlt := (List.getElem?_eq_some_iff.1 hu).1
        rw [Array.getElem?_append_left (by simpa using hlt)]
        simpa using hu
      by_cases hin : i < n
      · obtain ⟨u, hu, hk2⟩ := hok i hin j hj
        refine ⟨u, key u (by rw [List.getElem?_append_left (List.getElem?_eq_some_iff.1 hu).1]; exact hu), ?_⟩
        unfold rowApp
        rw [if_pos hin]
        exact hav _ _ hk2
      · obtain ⟨u, hu, hk2⟩ := hnk (i - n) (by omega) j hj
        refine ⟨u, key u ?_, ?_⟩
        · have e1 : i * i0.size + j = olds.length + ((i - n) * i0.size + j) := by
            rw [hol2]
            have : i = n + (i - n) := by omega
            conv => lhs; rw [this, Nat.add_mul]
            omega
          rw [e1, List.getElem?_append_right (by omega)]
          simpa using hu
        · unfold rowApp
          rw [if_neg hin]
          exact hav _ _ hk2
end
end Go.Vc
namespace Go.Proofs.Ytacepcnbgacipaa
open Go Go.Vc Go.RowKit
instance tc1 : CellTy Try.prog 1 := ⟨fun w => by kernel_rfl⟩
instance tn1 : SizeTy Try.prog 1 1 := ⟨fun w => by kernel_rfl⟩
instance tz1 : ZeroTy Try.prog 1 [.nilFunc] := ⟨.nilFunc, fun w => by kernel_rfl, rfl⟩
instance tc2 : CellTy Try.prog 2 := ⟨fun w => by kernel_rfl⟩
instance tn2 : SizeTy Try.prog 2 1 := ⟨fun w => by kernel_rfl⟩
instance tz2 : ZeroTy Try.prog 2 [.int .i64 0] := ⟨.int .i64 0, fun w => by kernel_rfl, rfl⟩
instance ti2 : IntTy Try.prog 2 .i64 := ⟨by kernel_rfl⟩
instance tc3 : CellTy Try.prog 3 := ⟨fun w => by kernel_rfl⟩
instance tn3 : SizeTy Try.prog 3 1 := ⟨fun w => by kernel_rfl⟩
instance tz3 : ZeroTy Try.prog 3 [.int .i64 0] := ⟨.int .i64 0, fun w => by kernel_rfl, rfl⟩
instance ti3 : IntTy Try.prog 3 .i64 := ⟨by kernel_rfl⟩
instance tc4 : CellTy Try.prog 4 := ⟨fun w => by kernel_rfl⟩
instance tn4 : SizeTy Try.prog 4 1 := ⟨fun w => by kernel_rfl⟩
instance tz4 : ZeroTy Try.prog 4 [.bool false] := ⟨.bool false, fun w => by kernel_rfl, rfl⟩
instance tb4 : BoolTy Try.prog 4 := ⟨by kernel_rfl⟩
instance tc5 : CellTy Try.prog 5 := ⟨fun w => by kernel_rfl⟩
instance tn5 : SizeTy Try.prog 5 1 := ⟨fun w => by kernel_rfl⟩
instance tz5 : ZeroTy Try.prog 5 [.int .u8 0] := ⟨.int .u8 0, fun w => by kernel_rfl, rfl⟩
instance ti5 : IntTy Try.prog 5 .u8 := ⟨by kernel_rfl⟩
instance tc6 : CellTy Try.prog 6 := ⟨fun w => by kernel_rfl⟩
instance tn6 : SizeTy Try.prog 6 1 := ⟨fun w => by kernel_rfl⟩
instance tz6 : ZeroTy Try.prog 6 [.int .u8 0] := ⟨.int .u8 0, fun w => by kernel_rfl, rfl⟩
instance ti6 : IntTy Try.prog 6 .u8 := ⟨by kernel_rfl⟩
instance ta7 : AggTy Try.prog 7 4 := ⟨fun w => by kernel_rfl, fun w => by kernel_rfl⟩
instance tn7 : SizeTy Try.prog 7 4 := ⟨fun w => by kernel_rfl⟩
instance tf7_0 : FldTy Try.prog 7 0 0 := ⟨fun b o w => by kernel_rfl⟩
instance tf7_1 : FldTy Try.prog 7 1 1 := ⟨fun b o w => by kernel_rfl⟩
instance tf7_2 : FldTy Try.prog 7 2 2 := ⟨fun b o w => by kernel_rfl⟩
instance tf7_3 : FldTy Try.prog 7 3 3 := ⟨fun b o w => by kernel_rfl⟩
instance tz7 : ZeroTy Try.prog 7 [.int .i64 0, .int .i64 0, .bool false, .int .u8 0] := ⟨.agg #[.int .i64 0, .int .i64 0, .bool false, .int .u8 0], fun w => by kernel_rfl, rfl⟩
instance ta8 : AggTy Try.prog 8 4 := ⟨fun w => by kernel_rfl, fun w => by kernel_rfl⟩
instance tn8 : SizeTy Try.prog 8 4 := ⟨fun w => by kernel_rfl⟩
instance tf8_0 : FldTy Try.prog 8 0 0 := ⟨fun b o w => by kernel_rfl⟩
instance tf8_1 : FldTy Try.prog 8 1 1 := ⟨fun b o w => by kernel_rfl⟩
instance tf8_2 : FldTy Try.prog 8 2 2 := ⟨fun b o w => by kernel_rfl⟩
instance tf8_3 : FldTy Try.prog 8 3 3 := ⟨fun b o w => by kernel_rfl⟩
instance tz8 : ZeroTy Try.prog 8 [.int .i64 0, .int .i64 0, .bool false, .int .u8 0] := ⟨.agg #[.int .i64 0, .int .i64 0, .bool false, .int .u8 0], fun w => by kernel_rfl, rfl⟩
instance tc9 : CellTy Try.prog 9 := ⟨fun w => by kernel_rfl⟩
instance tn9 : SizeTy Try.prog 9 1 := ⟨fun w => by kernel_rfl⟩
instance tz9 : ZeroTy Try.prog 9 [.string ⟨#[]⟩] := ⟨.string ⟨#[]⟩, fun w => by kernel_rfl, rfl⟩
instance tc10 : CellTy Try.prog 10 := ⟨fun w => by kernel_rfl⟩
instance tn10 : SizeTy Try.prog 10 1 := ⟨fun w => by kernel_rfl⟩
instance tz10 : ZeroTy Try.prog 10 [.string ⟨#[]⟩] := ⟨.string ⟨#[]⟩, fun w => by kernel_rfl, rfl⟩
instance tc11 : CellTy Try.prog 11 := ⟨fun w => by kernel_rfl⟩
instance tn11 : SizeTy Try.prog 11 1 := ⟨fun w => by kernel_rfl⟩
instance tz11 : ZeroTy Try.prog 11 [.string ⟨#[]⟩] := ⟨.string ⟨#[]⟩, fun w => by kernel_rfl, rfl⟩
instance tc12 : CellTy Try.prog 12 := ⟨fun w => by kernel_rfl⟩
instance tn12 : SizeTy Try.prog 12 1 := ⟨fun w => by kernel_rfl⟩
instance tz12 : ZeroTy Try.prog 12 [.int .u64 0] := ⟨.int .u64 0, fun w => by kernel_rfl, rfl⟩
instance ti12 : IntTy Try.prog 12 .u64 := ⟨by kernel_rfl⟩
instance ta13 : AggTy Try.prog 13 2 := ⟨fun w => by kernel_rfl, fun w => by kernel_rfl⟩
instance tn13 : SizeTy Try.prog 13 2 := ⟨fun w => by kernel_rfl⟩
instance tf13_0 : FldTy Try.prog 13 0 0 := ⟨fun b o w => by kernel_rfl⟩
instance tf13_1 : FldTy Try.prog 13 1 1 := ⟨fun b o w => by kernel_rfl⟩
instance tz13 : ZeroTy Try.prog 13 [.string ⟨#[]⟩, .int .u64 0] := ⟨.agg #[.string ⟨#[]⟩, .int .u64 0], fun w => by kernel_rfl, rfl⟩
instance ta14 : AggTy Try.prog 14 2 := ⟨fun w => by kernel_rfl, fun w => by kernel_rfl⟩
instance tn14 : SizeTy Try.prog 14 2 := ⟨fun w => by kernel_rfl⟩
instance tf14_0 : FldTy Try.prog 14 0 0 := ⟨fun b o w => by kernel_rfl⟩
instance tf14_1 : FldTy Try.prog 14 1 1 := ⟨fun b o w => by kernel_rfl⟩
instance tz14 : ZeroTy Try.prog 14 [.string ⟨#[]⟩, .int .u64 0] := ⟨.agg #[.string ⟨#[]⟩, .int .u64 0], fun w => by kernel_rfl, rfl⟩
instance tc15 : CellTy Try.prog 15 := ⟨fun w => by kernel_rfl⟩
instance tn15 : SizeTy Try.prog 15 1 := ⟨fun w => by kernel_rfl⟩
instance tz15 : ZeroTy Try.prog 15 [.pointer none] := ⟨.pointer none, fun w => by kernel_rfl, rfl⟩
instance tc16 : CellTy Try.prog 16 := ⟨fun w => by kernel_rfl⟩
instance tn16 : SizeTy Try.prog 16 1 := ⟨fun w => by kernel_rfl⟩
instance tz16 : ZeroTy Try.prog 16 [.pointer none] := ⟨.pointer none, fun w => by kernel_rfl, rfl⟩
instance tc17 : CellTy Try.prog 17 := ⟨fun w => by kernel_rfl⟩
instance tn17 : SizeTy Try.prog 17 1 := ⟨fun w => by kernel_rfl⟩
instance tz17 : ZeroTy Try.prog 17 [.pointer none] := ⟨.pointer none, fun w => by kernel_rfl, rfl⟩
instance ta18 : AggTy Try.prog 18 1 := ⟨fun w => by kernel_rfl, fun w => by kernel_rfl⟩
instance tn18 : SizeTy Try.prog 18 1 := ⟨fun w => by kernel_rfl⟩
instance tf18_0 : FldTy Try.prog 18 0 0 := ⟨fun b o w => by kernel_rfl⟩
instance tz18 : ZeroTy Try.prog 18 [.pointer none] := ⟨.agg #[.pointer none], fun w => by kernel_rfl, rfl⟩
instance ta19 : AggTy Try.prog 19 1 := ⟨fun w => by kernel_rfl, fun w => by kernel_rfl⟩
instance tn19 : SizeTy Try.prog 19 1 := ⟨fun w => by kernel_rfl⟩
instance tf19_0 : FldTy Try.prog 19 0 0 := ⟨fun b o w => by kernel_rfl⟩
instance tz19 : ZeroTy Try.prog 19 [.pointer none] := ⟨.agg #[.pointer none], fun w => by kernel_rfl, rfl⟩
instance tc20 : CellTy Try.prog 20 := ⟨fun w => by kernel_rfl⟩
instance tn20 : SizeTy Try.prog 20 1 := ⟨fun w => by kernel_rfl⟩
instance tz20 : ZeroTy Try.prog 20 [.nilIface] := ⟨.nilIface, fun w => by kernel_rfl, rfl⟩
instance tc21 : CellTy Try.prog 21 := ⟨fun w => by kernel_rfl⟩
instance tn21 : SizeTy Try.prog 21 1 := ⟨fun w => by kernel_rfl⟩
instance tz21 : ZeroTy Try.prog 21 [.int .i32 0] := ⟨.int .i32 0, fun w => by kernel_rfl, rfl⟩
instance ti21 : IntTy Try.prog 21 .i32 := ⟨by kernel_rfl⟩
instance tc22 : CellTy Try.prog 22 := ⟨fun w => by kernel_rfl⟩
instance tn22 : SizeTy Try.prog 22 1 := ⟨fun w => by kernel_rfl⟩
instance tz22 : ZeroTy Try.prog 22 [.slice none 0 0] := ⟨.slice none 0 0, fun w => by kernel_rfl, rfl⟩
theorem tq22 (x0 x1 : Int) (w : World) : (Instr.buildSlice 22 1 #[(0, .agg #[.int .i64 x0, .int .i64 x1])]).run Try.prog w = .ok (.slice (some ⟨w.heap.size, 0, none⟩) 1 1) (w.alloc (.cells #[.int .i64 x0, .int .i64 x1] 24)) := by kernel_rfl
instance ts22 : SlTy Try.prog 22 24 2 := ⟨by kernel_rfl, fun w => by kernel_rfl⟩
instance ta23 : AggTy Try.prog 23 2 := ⟨fun w => by kernel_rfl, fun w => by kernel_rfl⟩
instance tn23 : SizeTy Try.prog 23 2 := ⟨fun w => by kernel_rfl⟩
instance tf23_0 : FldTy Try.prog 23 0 0 := ⟨fun b o w => by kernel_rfl⟩
instance tf23_1 : FldTy Try.prog 23 1 1 := ⟨fun b o w => by kernel_rfl⟩
instance te23 : EqTy Try.prog 23 2 := eqTy_struct (by kernel_rfl) (by kernel_rfl) (by kernel_rfl) (by kernel_rfl) (by kernel_rfl)
theorem tb23 (x0 x1 : Int) : Try.prog.built 23 [(0, .int .i64 x0), (1, .int .i64 x1)] = some #[.int .i64 x0, .int .i64 x1] := by kernel_rfl
instance tz23 : ZeroTy Try.prog 23 [.int .i64 0, .int .i64 0] := ⟨.agg #[.int .i64 0, .int .i64 0], fun w => by kernel_rfl, rfl⟩
instance ta24 : AggTy Try.prog 24 2 := ⟨fun w => by kernel_rfl, fun w => by kernel_rfl⟩
instance tn24 : SizeTy Try.prog 24 2 := ⟨fun w => by kernel_rfl⟩
instance tf24_0 : FldTy Try.prog 24 0 0 := ⟨fun b o w => by kernel_rfl⟩
instance tf24_1 : FldTy Try.prog 24 1 1 := ⟨fun b o w => by kernel_rfl⟩
instance te24 : EqTy Try.prog 24 2 := eqTy_struct (by kernel_rfl) (by kernel_rfl) (by kernel_rfl) (by kernel_rfl) (by kernel_rfl)
theorem tb24 (x0 x1 : Int) : Try.prog.built 24 [(0, .int .i64 x0), (1, .int .i64 x1)] = some #[.int .i64 x0, .int .i64 x1] := by kernel_rfl
instance tz24 : ZeroTy Try.prog 24 [.int .i64 0, .int .i64 0] := ⟨.agg #[.int .i64 0, .int .i64 0], fun w => by kernel_rfl, rfl⟩
instance tc25 : CellTy Try.prog 25 := ⟨fun w => by kernel_rfl⟩
instance tn25 : SizeTy Try.prog 25 1 := ⟨fun w => by kernel_rfl⟩
instance tz25 : ZeroTy Try.prog 25 [.nilFunc] := ⟨.nilFunc, fun w => by kernel_rfl, rfl⟩
instance tc26 : CellTy Try.prog 26 := ⟨fun w => by kernel_rfl⟩
instance tn26 : SizeTy Try.prog 26 1 := ⟨fun w => by kernel_rfl⟩
instance tz26 : ZeroTy Try.prog 26 [.nilFunc] := ⟨.nilFunc, fun w => by kernel_rfl, rfl⟩
instance tc27 : CellTy Try.prog 27 := ⟨fun w => by kernel_rfl⟩
instance tn27 : SizeTy Try.prog 27 1 := ⟨fun w => by kernel_rfl⟩
instance tz27 : ZeroTy Try.prog 27 [.slice none 0 0] := ⟨.slice none 0 0, fun w => by kernel_rfl, rfl⟩
theorem tq27 (x0 : Int) (w : World) : (Instr.buildSlice 27 1 #[(0, .int .i64 x0)]).run Try.prog w = .ok (.slice (some ⟨w.heap.size, 0, none⟩) 1 1) (w.alloc (.cells #[.int .i64 x0] 3)) := by kernel_rfl
instance ts27 : SlTy Try.prog 27 3 1 := ⟨by kernel_rfl, fun w => by kernel_rfl⟩
instance tc28 : CellTy Try.prog 28 := ⟨fun w => by kernel_rfl⟩
instance tn28 : SizeTy Try.prog 28 1 := ⟨fun w => by kernel_rfl⟩
instance tz28 : ZeroTy Try.prog 28 [.int .i64 0] := ⟨.int .i64 0, fun w => by kernel_rfl, rfl⟩
instance ti28 : IntTy Try.prog 28 .i64 := ⟨by kernel_rfl⟩
instance tc30 : CellTy Try.prog 30 := ⟨fun w => by kernel_rfl⟩
instance tn30 : SizeTy Try.prog 30 1 := ⟨fun w => by kernel_rfl⟩
instance tz30 : ZeroTy Try.prog 30 [.nilFunc] := ⟨.nilFunc, fun w => by kernel_rfl, rfl⟩
instance tc32 : CellTy Try.prog 32 := ⟨fun w => by kernel_rfl⟩
instance tn32 : SizeTy Try.prog 32 1 := ⟨fun w => by kernel_rfl⟩
instance tz32 : ZeroTy Try.prog 32 [.nilFunc] := ⟨.nilFunc, fun w => by kernel_rfl, rfl⟩
instance tc34 : CellTy Try.prog 34 := ⟨fun w => by kernel_rfl⟩
instance tn34 : SizeTy Try.prog 34 1 := ⟨fun w => by kernel_rfl⟩
instance tz34 : ZeroTy Try.prog 34 [.nilFunc] := ⟨.nilFunc, fun w => by kernel_rfl, rfl⟩
instance tc36 : CellTy Try.prog 36 := ⟨fun w => by kernel_rfl⟩
instance tn36 : SizeTy Try.prog 36 1 := ⟨fun w => by kernel_rfl⟩
instance tz36 : ZeroTy Try.prog 36 [.nilFunc] := ⟨.nilFunc, fun w => by kernel_rfl, rfl⟩
instance tc37 : CellTy Try.prog 37 := ⟨fun w => by kernel_rfl⟩
instance tn37 : SizeTy Try.prog 37 1 := ⟨fun w => by kernel_rfl⟩
instance tz37 : ZeroTy Try.prog 37 [.nilFunc] := ⟨.nilFunc, fun w => by kernel_rfl, rfl⟩
instance tc38 : CellTy Try.prog 38 := ⟨fun w => by kernel_rfl⟩
instance tn38 : SizeTy Try.prog 38 1 := ⟨fun w => by kernel_rfl⟩
instance tz38 : ZeroTy Try.prog 38 [.nilFunc] := ⟨.nilFunc, fun w => by kernel_rfl, rfl⟩
instance tc39 : CellTy Try.prog 39 := ⟨fun w => by kernel_rfl⟩
instance tn39 : SizeTy Try.prog 39 1 := ⟨fun w => by kernel_rfl⟩
instance tz39 : ZeroTy Try.prog 39 [.nilFunc] := ⟨.nilFunc, fun w => by kernel_rfl, rfl⟩
instance tc40 : CellTy Try.prog 40 := ⟨fun w => by kernel_rfl⟩
instance tn40 : SizeTy Try.prog 40 1 := ⟨fun w => by kernel_rfl⟩
instance tz40 : ZeroTy Try.prog 40 [.nilFunc] := ⟨.nilFunc, fun w => by kernel_rfl, rfl⟩
instance tc41 : CellTy Try.prog 41 := ⟨fun w => by kernel_rfl⟩
instance tn41 : SizeTy Try.prog 41 1 := ⟨fun w => by kernel_rfl⟩
instance tz41 : ZeroTy Try.prog 41 [.slice none 0 0] := ⟨.slice none 0 0, fun w => by kernel_rfl, rfl⟩
theorem tq41 (x0 x1 : Int) (w : World) : (Instr.buildSlice 41 1 #[(0, .agg #[.int .i64 x0, .int .i64 x1])]).run Try.prog w = .ok (.slice (some ⟨w.heap.size, 0, none⟩) 1 1) (w.alloc (.cells #[.int .i64 x0, .int .i64 x1] 62)) := by kernel_rfl
instance ts41 : SlTy Try.prog 41 62 2 := ⟨by kernel_rfl, fun w => by kernel_rfl⟩
instance tc43 : CellTy Try.prog 43 := ⟨fun w => by kernel_rfl⟩
instance tn43 : SizeTy Try.prog 43 1 := ⟨fun w => by kernel_rfl⟩
instance tz43 : ZeroTy Try.prog 43 [.nilFunc] := ⟨.nilFunc, fun w => by kernel_rfl, rfl⟩
instance tc45 : CellTy Try.prog 45 := ⟨fun w => by kernel_rfl⟩
instance tn45 : SizeTy Try.prog 45 1 := ⟨fun w => by kernel_rfl⟩
instance tz45 : ZeroTy Try.prog 45 [.nilFunc] := ⟨.nilFunc, fun w => by kernel_rfl, rfl⟩
instance tc46 : CellTy Try.prog 46 := ⟨fun w => by kernel_rfl⟩
instance tn46 : SizeTy Try.prog 46 1 := ⟨fun w => by kernel_rfl⟩
instance tz46 : ZeroTy Try.prog 46 [.nilFunc] := ⟨.nilFunc, fun w => by kernel_rfl, rfl⟩
instance tc48 : CellTy Try.prog 48 := ⟨fun w => by kernel_rfl⟩
instance tn48 : SizeTy Try.prog 48 1 := ⟨fun w => by kernel_rfl⟩
instance tz48 : ZeroTy Try.prog 48 [.nilFunc] := ⟨.nilFunc, fun w => by kernel_rfl, rfl⟩
instance tc50 : CellTy Try.prog 50 := ⟨fun w => by kernel_rfl⟩
instance tn50 : SizeTy Try.prog 50 1 := ⟨fun w => by kernel_rfl⟩
instance tz50 : ZeroTy Try.prog 50 [.nilFunc] := ⟨.nilFunc, fun w => by kernel_rfl, rfl⟩
instance tc51 : CellTy Try.prog 51 := ⟨fun w => by kernel_rfl⟩
instance tn51 : SizeTy Try.prog 51 1 := ⟨fun w => by kernel_rfl⟩
instance tz51 : ZeroTy Try.prog 51 [.nilFunc] := ⟨.nilFunc, fun w => by kernel_rfl, rfl⟩
instance tc52 : CellTy Try.prog 52 := ⟨fun w => by kernel_rfl⟩
instance tn52 : SizeTy Try.prog 52 1 := ⟨fun w => by kernel_rfl⟩
instance tz52 : ZeroTy Try.prog 52 [.nilFunc] := ⟨.nilFunc, fun w => by kernel_rfl, rfl⟩
instance tc53 : CellTy Try.prog 53 := ⟨fun w => by kernel_rfl⟩
instance tn53 : SizeTy Try.prog 53 1 := ⟨fun w => by kernel_rfl⟩
instance tz53 : ZeroTy Try.prog 53 [.nilFunc] := ⟨.nilFunc, fun w => by kernel_rfl, rfl⟩
instance tc54 : CellTy Try.prog 54 := ⟨fun w => by kernel_rfl⟩
instance tn54 : SizeTy Try.prog 54 1 := ⟨fun w => by kernel_rfl⟩
instance tz54 : ZeroTy Try.prog 54 [.nilFunc] := ⟨.nilFunc, fun w => by kernel_rfl, rfl⟩
instance tc55 : CellTy Try.prog 55 := ⟨fun w => by kernel_rfl⟩
instance tn55 : SizeTy Try.prog 55 1 := ⟨fun w => by kernel_rfl⟩
instance tz55 : ZeroTy Try.prog 55 [.nilFunc] := ⟨.nilFunc, fun w => by kernel_rfl, rfl⟩
instance tc56 : CellTy Try.prog 56 := ⟨fun w => by kernel_rfl⟩
instance tn56 : SizeTy Try.prog 56 1 := ⟨fun w => by kernel_rfl⟩
instance tz56 : ZeroTy Try.prog 56 [.nilFunc] := ⟨.nilFunc, fun w => by kernel_rfl, rfl⟩
instance tc57 : CellTy Try.prog 57 := ⟨fun w => by kernel_rfl⟩
instance tn57 : SizeTy Try.prog 57 1 := ⟨fun w => by kernel_rfl⟩
instance tz57 : ZeroTy Try.prog 57 [.nilFunc] := ⟨.nilFunc, fun w => by kernel_rfl, rfl⟩
instance tc58 : CellTy Try.prog 58 := ⟨fun w => by kernel_rfl⟩
instance tn58 : SizeTy Try.prog 58 1 := ⟨fun w => by kernel_rfl⟩
instance tz58 : ZeroTy Try.prog 58 [.nilFunc] := ⟨.nilFunc, fun w => by kernel_rfl, rfl⟩
instance tc59 : CellTy Try.prog 59 := ⟨fun w => by kernel_rfl⟩
instance tn59 : SizeTy Try.prog 59 1 := ⟨fun w => by kernel_rfl⟩
instance tz59 : ZeroTy Try.prog 59 [.nilFunc] := ⟨.nilFunc, fun w => by kernel_rfl, rfl⟩
instance tc61 : CellTy Try.prog 61 := ⟨fun w => by kernel_rfl⟩
instance tn61 : SizeTy Try.prog 61 1 := ⟨fun w => by kernel_rfl⟩
instance tz61 : ZeroTy Try.prog 61 [.nilFunc] := ⟨.nilFunc, fun w => by kernel_rfl, rfl⟩
instance ta62 : AggTy Try.prog 62 2 := ⟨fun w => by kernel_rfl, fun w => by kernel_rfl⟩
instance tn62 : SizeTy Try.prog 62 2 := ⟨fun w => by kernel_rfl⟩
instance tr62 : ArrTy Try.prog 62 2 3 1 := ⟨by kernel_rfl, fun w => by kernel_rfl⟩
instance te62 : EqTy Try.prog 62 2 := eqTy_array (e := 3) (by kernel_rfl) (i := (Try.prog.info? 3).getD default) (by kernel_rfl) (by kernel_rfl) (by kernel_rfl) (by kernel_rfl)
theorem tb62 (x0 x1 : Int) : Try.prog.built 62 [(0, .int .i64 x0), (1, .int .i64 x1)] = some #[.int .i64 x0, .int .i64 x1] := by kernel_rfl
instance tz62 : ZeroTy Try.prog 62 [.int .i64 0, .int .i64 0] := ⟨.agg #[.int .i64 0, .int .i64 0], fun w => by kernel_rfl, rfl⟩
instance tc63 : CellTy Try.prog 63 := ⟨fun w => by kernel_rfl⟩
instance tn63 : SizeTy Try.prog 63 1 := ⟨fun w => by kernel_rfl⟩
instance tz63 : ZeroTy Try.prog 63 [.nilFunc] := ⟨.nilFunc, fun w => by kernel_rfl, rfl⟩
instance tc64 : CellTy Try.prog 64 := ⟨fun w => by kernel_rfl⟩
instance tn64 : SizeTy Try.prog 64 1 := ⟨fun w => by kernel_rfl⟩
instance tz64 : ZeroTy Try.prog 64 [.nilFunc] := ⟨.nilFunc, fun w => by kernel_rfl, rfl⟩
instance tc66 : CellTy Try.prog 66 := ⟨fun w => by kernel_rfl⟩
instance tn66 : SizeTy Try.prog 66 1 := ⟨fun w => by kernel_rfl⟩
instance tz66 : ZeroTy Try.prog 66 [.nilFunc] := ⟨.nilFunc, fun w => by kernel_rfl, rfl⟩
instance tc68 : CellTy Try.prog 68 := ⟨fun w => by kernel_rfl⟩
instance tn68 : SizeTy Try.prog 68 1 := ⟨fun w => by kernel_rfl⟩
instance tz68 : ZeroTy Try.prog 68 [.nilFunc] := ⟨.nilFunc, fun w => by kernel_rfl, rfl⟩
instance tc69 : CellTy Try.prog 69 := ⟨fun w => by kernel_rfl⟩
instance tn69 : SizeTy Try.prog 69 1 := ⟨fun w => by kernel_rfl⟩
instance tz69 : ZeroTy Try.prog 69 [.nilFunc] := ⟨.nilFunc, fun w => by kernel_rfl, rfl⟩
instance tc70 : CellTy Try.prog 70 := ⟨fun w => by kernel_rfl⟩
instance tn70 : SizeTy Try.prog 70 1 := ⟨fun w => by kernel_rfl⟩
instance tz70 : ZeroTy Try.prog 70 [.nilFunc] := ⟨.nilFunc, fun w => by kernel_rfl, rfl⟩
instance tc72 : CellTy Try.prog 72 := ⟨fun w => by kernel_rfl⟩
instance tn72 : SizeTy Try.prog 72 1 := ⟨fun w => by kernel_rfl⟩
instance tz72 : ZeroTy Try.prog 72 [.nilFunc] := ⟨.nilFunc, fun w => by kernel_rfl, rfl⟩
instance tc73 : CellTy Try.prog 73 := ⟨fun w => by kernel_rfl⟩
instance tn73 : SizeTy Try.prog 73 1 := ⟨fun w => by kernel_rfl⟩
instance tz73 : ZeroTy Try.prog 73 [.nilFunc] := ⟨.nilFunc, fun w => by kernel_rfl, rfl⟩
instance tc74 : CellTy Try.prog 74 := ⟨fun w => by kernel_rfl⟩
instance tn74 : SizeTy Try.prog 74 1 := ⟨fun w => by kernel_rfl⟩
instance tz74 : ZeroTy Try.prog 74 [.nilFunc] := ⟨.nilFunc, fun w => by kernel_rfl, rfl⟩
instance tc75 : CellTy Try.prog 75 := ⟨fun w => by kernel_rfl⟩
instance tn75 : SizeTy Try.prog 75 1 := ⟨fun w => by kernel_rfl⟩
instance tz75 : ZeroTy Try.prog 75 [.nilFunc] := ⟨.nilFunc, fun w => by kernel_rfl, rfl⟩
instance tc76 : CellTy Try.prog 76 := ⟨fun w => by kernel_rfl⟩
instance tn76 : SizeTy Try.prog 76 1 := ⟨fun w => by kernel_rfl⟩
instance tz76 : ZeroTy Try.prog 76 [.nilFunc] := ⟨.nilFunc, fun w => by kernel_rfl, rfl⟩
instance tc77 : CellTy Try.prog 77 := ⟨fun w => by kernel_rfl⟩
instance tn77 : SizeTy Try.prog 77 1 := ⟨fun w => by kernel_rfl⟩
instance tz77 : ZeroTy Try.prog 77 [.nilFunc] := ⟨.nilFunc, fun w => by kernel_rfl, rfl⟩
instance tc78 : CellTy Try.prog 78 := ⟨fun w => by kernel_rfl⟩
instance tn78 : SizeTy Try.prog 78 1 := ⟨fun w => by kernel_rfl⟩
instance tz78 : ZeroTy Try.prog 78 [.nilFunc] := ⟨.nilFunc, fun w => by kernel_rfl, rfl⟩
instance tc79 : CellTy Try.prog 79 := ⟨fun w => by kernel_rfl⟩
instance tn79 : SizeTy Try.prog 79 1 := ⟨fun w => by kernel_rfl⟩
instance tz79 : ZeroTy Try.prog 79 [.nilFunc] := ⟨.nilFunc, fun w => by kernel_rfl, rfl⟩
instance tc80 : CellTy Try.prog 80 := ⟨fun w => by kernel_rfl⟩
instance tn80 : SizeTy Try.prog 80 1 := ⟨fun w => by kernel_rfl⟩
instance tz80 : ZeroTy Try.prog 80 [.nilFunc] := ⟨.nilFunc, fun w => by kernel_rfl, rfl⟩
instance tc81 : CellTy Try.prog 81 := ⟨fun w => by kernel_rfl⟩
instance tn81 : SizeTy Try.prog 81 1 := ⟨fun w => by kernel_rfl⟩
instance tz81 : ZeroTy Try.prog 81 [.nilFunc] := ⟨.nilFunc, fun w => by kernel_rfl, rfl⟩
instance tc82 : CellTy Try.prog 82 := ⟨fun w => by kernel_rfl⟩
instance tn82 : SizeTy Try.prog 82 1 := ⟨fun w => by kernel_rfl⟩
instance tz82 : ZeroTy Try.prog 82 [.nilFunc] := ⟨.nilFunc, fun w => by kernel_rfl, rfl⟩
instance tc83 : CellTy Try.prog 83 := ⟨fun w => by kernel_rfl⟩
instance tn83 : SizeTy Try.prog 83 1 := ⟨fun w => by kernel_rfl⟩
instance tz83 : ZeroTy Try.prog 83 [.nilFunc] := ⟨.nilFunc, fun w => by kernel_rfl, rfl⟩
instance tc84 : CellTy Try.prog 84 := ⟨fun w => by kernel_rfl⟩
instance tn84 : SizeTy Try.prog 84 1 := ⟨fun w => by kernel_rfl⟩
instance tz84 : ZeroTy Try.prog 84 [.nilFunc] := ⟨.nilFunc, fun w => by kernel_rfl, rfl⟩
instance tc85 : CellTy Try.prog 85 := ⟨fun w => by kernel_rfl⟩
instance tn85 : SizeTy Try.prog 85 1 := ⟨fun w => by kernel_rfl⟩
instance tz85 : ZeroTy Try.prog 85 [.nilFunc] := ⟨.nilFunc, fun w => by kernel_rfl, rfl⟩
instance tc86 : CellTy Try.prog 86 := ⟨fun w => by kernel_rfl⟩
instance tn86 : SizeTy Try.prog 86 1 := ⟨fun w => by kernel_rfl⟩
instance tz86 : ZeroTy Try.prog 86 [.slice none 0 0] := ⟨.slice none 0 0, fun w => by kernel_rfl, rfl⟩
instance ts86 : SlTy Try.prog 86 22 1 := ⟨by kernel_rfl, fun w => by kernel_rfl⟩
instance tc87 : CellTy Try.prog 87 := ⟨fun w => by kernel_rfl⟩
instance tn87 : SizeTy Try.prog 87 1 := ⟨fun w => by kernel_rfl⟩
instance tz87 : ZeroTy Try.prog 87 [.nilFunc] := ⟨.nilFunc, fun w => by kernel_rfl, rfl⟩
instance tc88 : CellTy Try.prog 88 := ⟨fun w => by kernel_rfl⟩
instance tn88 : SizeTy Try.prog 88 1 := ⟨fun w => by kernel_rfl⟩
instance tz88 : ZeroTy Try.prog 88 [.nilFunc] := ⟨.nilFunc, fun w => by kernel_rfl, rfl⟩
instance tc89 : CellTy Try.prog 89 := ⟨fun w => by kernel_rfl⟩
instance tn89 : SizeTy Try.prog 89 1 := ⟨fun w => by kernel_rfl⟩
instance tz89 : ZeroTy Try.prog 89 [.nilFunc] := ⟨.nilFunc, fun w => by kernel_rfl, rfl⟩
instance tc90 : CellTy Try.prog 90 := ⟨fun w => by kernel_rfl⟩
instance tn90 : SizeTy Try.prog 90 1 := ⟨fun w => by kernel_rfl⟩
instance tz90 : ZeroTy Try.prog 90 [.nilFunc] := ⟨.nilFunc, fun w => by kernel_rfl, rfl⟩
instance tc91 : CellTy Try.prog 91 := ⟨fun w => by kernel_rfl⟩
instance tn91 : SizeTy Try.prog 91 1 := ⟨fun w => by kernel_rfl⟩
instance tz91 : ZeroTy Try.prog 91 [.nilFunc] := ⟨.nilFunc, fun w => by kernel_rfl, rfl⟩
instance tc92 : CellTy Try.prog 92 := ⟨fun w => by kernel_rfl⟩
instance tn92 : SizeTy Try.prog 92 1 := ⟨fun w => by kernel_rfl⟩
instance tz92 : ZeroTy Try.prog 92 [.nilFunc] := ⟨.nilFunc, fun w => by kernel_rfl, rfl⟩
instance tc93 : CellTy Try.prog 93 := ⟨fun w => by kernel_rfl⟩
instance tn93 : SizeTy Try.prog 93 1 := ⟨fun w => by kernel_rfl⟩
instance tz93 : ZeroTy Try.prog 93 [.nilFunc] := ⟨.nilFunc, fun w => by kernel_rfl, rfl⟩
instance tc94 : CellTy Try.prog 94 := ⟨fun w => by kernel_rfl⟩
instance tn94 : SizeTy Try.prog 94 1 := ⟨fun w => by kernel_rfl⟩
instance tz94 : ZeroTy Try.prog 94 [.nilFunc] := ⟨.nilFunc, fun w => by kernel_rfl, rfl⟩
instance tc95 : CellTy Try.prog 95 := ⟨fun w => by kernel_rfl⟩
instance tn95 : SizeTy Try.prog 95 1 := ⟨fun w => by kernel_rfl⟩
instance tz95 : ZeroTy Try.prog 95 [.nilFunc] := ⟨.nilFunc, fun w => by kernel_rfl, rfl⟩
instance tc96 : CellTy Try.prog 96 := ⟨fun w => by kernel_rfl⟩
instance tn96 : SizeTy Try.prog 96 1 := ⟨fun w => by kernel_rfl⟩
instance tz96 : ZeroTy Try.prog 96 [.nilFunc] := ⟨.nilFunc, fun w => by kernel_rfl, rfl⟩
instance tc97 : CellTy Try.prog 97 := ⟨fun w => by kernel_rfl⟩
instance tn97 : SizeTy Try.prog 97 1 := ⟨fun w => by kernel_rfl⟩
instance tz97 : ZeroTy Try.prog 97 [.nilFunc] := ⟨.nilFunc, fun w => by kernel_rfl, rfl⟩
instance tc98 : CellTy Try.prog 98 := ⟨fun w => by kernel_rfl⟩
instance tn98 : SizeTy Try.prog 98 1 := ⟨fun w => by kernel_rfl⟩
instance tz98 : ZeroTy Try.prog 98 [.nilFunc] := ⟨.nilFunc, fun w => by kernel_rfl, rfl⟩
instance tc99 : CellTy Try.prog 99 := ⟨fun w => by kernel_rfl⟩
instance tn99 : SizeTy Try.prog 99 1 := ⟨fun w => by kernel_rfl⟩
instance tz99 : ZeroTy Try.prog 99 [.nilFunc] := ⟨.nilFunc, fun w => by kernel_rfl, rfl⟩
instance tc100 : CellTy Try.prog 100 := ⟨fun w => by kernel_rfl⟩
instance tn100 : SizeTy Try.prog 100 1 := ⟨fun w => by kernel_rfl⟩
instance tz100 : ZeroTy Try.prog 100 [.nilFunc] := ⟨.nilFunc, fun w => by kernel_rfl, rfl⟩
instance tc101 : CellTy Try.prog 101 := ⟨fun w => by kernel_rfl⟩
instance tn101 : SizeTy Try.prog 101 1 := ⟨fun w => by kernel_rfl⟩
instance tz101 : ZeroTy Try.prog 101 [.nilFunc] := ⟨.nilFunc, fun w => by kernel_rfl, rfl⟩
instance tc102 : CellTy Try.prog 102 := ⟨fun w => by kernel_rfl⟩
instance tn102 : SizeTy Try.prog 102 1 := ⟨fun w => by kernel_rfl⟩
instance tz102 : ZeroTy Try.prog 102 [.nilFunc] := ⟨.nilFunc, fun w => by kernel_rfl, rfl⟩
instance tc103 : CellTy Try.prog 103 := ⟨fun w => by kernel_rfl⟩
instance tn103 : SizeTy Try.prog 103 1 := ⟨fun w => by kernel_rfl⟩
instance tz103 : ZeroTy Try.prog 103 [.nilFunc] := ⟨.nilFunc, fun w => by kernel_rfl, rfl⟩
instance tc104 : CellTy Try.prog 104 := ⟨fun w => by kernel_rfl⟩
instance tn104 : SizeTy Try.prog 104 1 := ⟨fun w => by kernel_rfl⟩
instance tz104 : ZeroTy Try.prog 104 [.nilFunc] := ⟨.nilFunc, fun w => by kernel_rfl, rfl⟩
instance tc105 : CellTy Try.prog 105 := ⟨fun w => by kernel_rfl⟩
instance tn105 : SizeTy Try.prog 105 1 := ⟨fun w => by kernel_rfl⟩
instance tz105 : ZeroTy Try.prog 105 [.nilFunc] := ⟨.nilFunc, fun w => by kernel_rfl, rfl⟩
instance ta106 : AggTy Try.prog 106 4 := ⟨fun w => by kernel_rfl, fun w => by kernel_rfl⟩
instance tn106 : SizeTy Try.prog 106 4 := ⟨fun w => by kernel_rfl⟩
instance tr106 : ArrTy Try.prog 106 2 24 2 := ⟨by kernel_rfl, fun w => by kernel_rfl⟩
instance tz106 : ZeroTy Try.prog 106 [.int .i64 0, .int .i64 0, .int .i64 0, .int .i64 0] := ⟨.agg #[.int .i64 0, .int .i64 0, .int .i64 0, .int .i64 0], fun w => by kernel_rfl, rfl⟩
instance tc107 : CellTy Try.prog 107 := ⟨fun w => by kernel_rfl⟩
instance tn107 : SizeTy Try.prog 107 1 := ⟨fun w => by kernel_rfl⟩
instance tz107 : ZeroTy Try.prog 107 [.nilFunc] := ⟨.nilFunc, fun w => by kernel_rfl, rfl⟩
instance tc108 : CellTy Try.prog 108 := ⟨fun w => by kernel_rfl⟩
instance tn108 : SizeTy Try.prog 108 1 := ⟨fun w => by kernel_rfl⟩
instance tz108 : ZeroTy Try.prog 108 [.nilFunc] := ⟨.nilFunc, fun w => by kernel_rfl, rfl⟩
instance tc109 : CellTy Try.prog 109 := ⟨fun w => by kernel_rfl⟩
instance tn109 : SizeTy Try.prog 109 1 := ⟨fun w => by kernel_rfl⟩
instance tz109 : ZeroTy Try.prog 109 [.nilFunc] := ⟨.nilFunc, fun w => by kernel_rfl, rfl⟩
instance tc110 : CellTy Try.prog 110 := ⟨fun w => by kernel_rfl⟩
instance tn110 : SizeTy Try.prog 110 1 := ⟨fun w => by kernel_rfl⟩
instance tz110 : ZeroTy Try.prog 110 [.nilFunc] := ⟨.nilFunc, fun w => by kernel_rfl, rfl⟩
instance tc111 : CellTy Try.prog 111 := ⟨fun w => by kernel_rfl⟩
instance tn111 : SizeTy Try.prog 111 1 := ⟨fun w => by kernel_rfl⟩
instance tz111 : ZeroTy Try.prog 111 [.nilFunc] := ⟨.nilFunc, fun w => by kernel_rfl, rfl⟩
instance tc112 : CellTy Try.prog 112 := ⟨fun w => by kernel_rfl⟩
instance tn112 : SizeTy Try.prog 112 1 := ⟨fun w => by kernel_rfl⟩
instance tz112 : ZeroTy Try.prog 112 [.nilFunc] := ⟨.nilFunc, fun w => by kernel_rfl, rfl⟩
instance ta113 : AggTy Try.prog 113 2 := ⟨fun w => by kernel_rfl, fun w => by kernel_rfl⟩
instance tn113 : SizeTy Try.prog 113 2 := ⟨fun w => by kernel_rfl⟩
instance tf113_0 : FldTy Try.prog 113 0 0 := ⟨fun b o w => by kernel_rfl⟩
instance tf113_1 : FldTy Try.prog 113 1 1 := ⟨fun b o w => by kernel_rfl⟩
instance te113 : EqTy Try.prog 113 2 := eqTy_struct (by kernel_rfl) (by kernel_rfl) (by kernel_rfl) (by kernel_rfl) (by kernel_rfl)
theorem tb113 (x0 x1 : Int) : Try.prog.built 113 [(0, .int .i64 x0), (1, .int .i64 x1)] = some #[.int .i64 x0, .int .i64 x1] := by kernel_rfl
instance tz113 : ZeroTy Try.prog 113 [.int .i64 0, .int .i64 0] := ⟨.agg #[.int .i64 0, .int .i64 0], fun w => by kernel_rfl, rfl⟩
instance ta114 : AggTy Try.prog 114 2 := ⟨fun w => by kernel_rfl, fun w => by kernel_rfl⟩
instance tn114 : SizeTy Try.prog 114 2 := ⟨fun w => by kernel_rfl⟩
instance tf114_0 : FldTy Try.prog 114 0 0 := ⟨fun b o w => by kernel_rfl⟩
instance tf114_1 : FldTy Try.prog 114 1 1 := ⟨fun b o w => by kernel_rfl⟩
instance te114 : EqTy Try.prog 114 2 := eqTy_struct (by kernel_rfl) (by kernel_rfl) (by kernel_rfl) (by kernel_rfl) (by kernel_rfl)
theorem tb114 (x0 x1 : Int) : Try.prog.built 114 [(0, .int .i64 x0), (1, .int .i64 x1)] = some #[.int .i64 x0, .int .i64 x1] := by kernel_rfl
instance tz114 : ZeroTy Try.prog 114 [.int .i64 0, .int .i64 0] := ⟨.agg #[.int .i64 0, .int .i64 0], fun w => by kernel_rfl, rfl⟩
instance tc115 : CellTy Try.prog 115 := ⟨fun w => by kernel_rfl⟩
instance tn115 : SizeTy Try.prog 115 1 := ⟨fun w => by kernel_rfl⟩
instance tz115 : ZeroTy Try.prog 115 [.nilFunc] := ⟨.nilFunc, fun w => by kernel_rfl, rfl⟩
instance tc116 : CellTy Try.prog 116 := ⟨fun w => by kernel_rfl⟩
instance tn116 : SizeTy Try.prog 116 1 := ⟨fun w => by kernel_rfl⟩
instance tz116 : ZeroTy Try.prog 116 [.nilFunc] := ⟨.nilFunc, fun w => by kernel_rfl, rfl⟩
instance tc117 : CellTy Try.prog 117 := ⟨fun w => by kernel_rfl⟩
instance tn117 : SizeTy Try.prog 117 1 := ⟨fun w => by kernel_rfl⟩
instance tz117 : ZeroTy Try.prog 117 [.nilFunc] := ⟨.nilFunc, fun w => by kernel_rfl, rfl⟩
instance tc118 : CellTy Try.prog 118 := ⟨fun w => by kernel_rfl⟩
instance tn118 : SizeTy Try.prog 118 1 := ⟨fun w => by kernel_rfl⟩
instance tz118 : ZeroTy Try.prog 118 [.nilFunc] := ⟨.nilFunc, fun w => by kernel_rfl, rfl⟩
instance tc119 : CellTy Try.prog 119 := ⟨fun w => by kernel_rfl⟩
instance tn119 : SizeTy Try.prog 119 1 := ⟨fun w => by kernel_rfl⟩
instance tz119 : ZeroTy Try.prog 119 [.nilFunc] := ⟨.nilFunc, fun w => by kernel_rfl, rfl⟩
instance tc120 : CellTy Try.prog 120 := ⟨fun w => by kernel_rfl⟩
instance tn120 : SizeTy Try.prog 120 1 := ⟨fun w => by kernel_rfl⟩
instance tz120 : ZeroTy Try.prog 120 [.nilFunc] := ⟨.nilFunc, fun w => by kernel_rfl, rfl⟩
instance tc121 : CellTy Try.prog 121 := ⟨fun w => by kernel_rfl⟩
instance tn121 : SizeTy Try.prog 121 1 := ⟨fun w => by kernel_rfl⟩
instance tz121 : ZeroTy Try.prog 121 [.nilFunc] := ⟨.nilFunc, fun w => by kernel_rfl, rfl⟩
instance tc122 : CellTy Try.prog 122 := ⟨fun w => by kernel_rfl⟩
instance tn122 : SizeTy Try.prog 122 1 := ⟨fun w => by kernel_rfl⟩
instance tz122 : ZeroTy Try.prog 122 [.nilFunc] := ⟨.nilFunc, fun w => by kernel_rfl, rfl⟩
instance tc123 : CellTy Try.prog 123 := ⟨fun w => by kernel_rfl⟩
instance tn123 : SizeTy Try.prog 123 1 := ⟨fun w => by kernel_rfl⟩
instance tz123 : ZeroTy Try.prog 123 [.nilFunc] := ⟨.nilFunc, fun w => by kernel_rfl, rfl⟩
instance tc124 : CellTy Try.prog 124 := ⟨fun w => by kernel_rfl⟩
instance tn124 : SizeTy Try.prog 124 1 := ⟨fun w => by kernel_rfl⟩
instance tz124 : ZeroTy Try.prog 124 [.int .u64 0] := ⟨.int .u64 0, fun w => by kernel_rfl, rfl⟩
instance ti124 : IntTy Try.prog 124 .u64 := ⟨by kernel_rfl⟩
instance tl3 : EltTy Try.prog 3 1 8 := eltTy_of (by kernel_rfl)
instance tl22 : EltTy Try.prog 22 1 24 := eltTy_of (by kernel_rfl)
instance tl24 : EltTy Try.prog 24 2 16 := eltTy_of (by kernel_rfl)
instance tl62 : EltTy Try.prog 62 2 16 := eltTy_of (by kernel_rfl)
theorem tm : Try.prog.follows .mixedOrders = true := by kernel_rfl
end Go.Proofs.Ytacepcnbgacipaa
/-! What the functions compute, in plain terms. -/
namespace Go.Proofs.Ytacepcnbgacipaa
open Go.Vc
abbrev pp (p : Pt) : AV := pv p.x p.y
theorem gp_eq {l : List Pt} {i : Nat} (h : i < l.length) : gp l i = l[i] := by simp [gp, h]
theorem gp_mem {l : List Pt} {i : Nat} (h : i < l.length) : gp l i ∈ l := by rw [gp_eq h]; exact List.getElem_mem h
theorem gi_eq {l : List Nat} {i : Nat} (h : i < l.length) : gi l i = l[i] := by simp [gi, h]
def sub (a b : Pt) : Pt := ⟨a.x - b.x, a.y - b.y⟩
def dot (a b : Pt) : Int := a.x * b.x + a.y * b.y
def trn (a b : Pt) : Int := a.x * b.y - a.y * b.x
def crs (a b c : Pt) : Int := trn (sub b a) (sub c a)
def neg (a : Pt) : Pt := ⟨-a.x, -a.y⟩
def sgn (n : Int) : Int := if n < 0 then -1 else if 0 < n then 1 else 0
def far (a b : Pt) : Int := dot (sub a b) (sub a b)
def bef (a b : Pt) : Bool := decide (a.x < b.x) || (a.x == b.x && decide (a.y < b.y))
def inB (n : Int) : Bool := decide (-100000 ≤ n) && decide (n ≤ 100000)
def rightB (p : Pt) : Bool := inB p.x && inB p.y
def chk (l : List Pt) : Int := if 64 < l.length then 5 else if l.all rightB then 0 else 2
def btw (p a b : Pt) : Bool := crs a b p == 0 && decide (dot (sub a p) (sub b p) ≤ 0)
def wth (p a b c : Pt) : Bool := crs a b c != 0 && ((decide (0 ≤ sgn (crs a b p)) && decide (0 ≤ sgn (crs b c p)) && decide (0 ≤ sgn (crs c a p))) || (decide (sgn (crs a b p) ≤ 0) && decide (sgn (crs b c p) ≤ 0) && decide (sgn (crs c a p) ≤ 0)))
def inH (l : List Pt) (p : Pt) : Bool := (List.range l.length).any fun i => decide (gp l i = p) || (List.range i).any fun j => btw p (gp l i) (gp l j) || (List.range j).any fun k => wth p (gp l i) (gp l j) (gp l k)
abbrev bp (p : Pt) : AV := .ptr 2 (fun i => .val ([Go.Value.int .i64 p.x, .int .i64 p.y].getD i Go.undef))
def othersOf (l : List Pt) (i k : Nat) : List Pt := (l.take k).filter (fun q => decide (q ≠ gp l i))
def vtx (l : List Pt) (i : Nat) : Bool := !((List.range i).any fun k => decide (gp l k = gp l i)) && !inH (othersOf l i l.length) (gp l i)
def topTo (l : List Pt) (d : Pt) (k : Nat) : Int := (List.range k).foldl (fun m i => max m (dot (gp l i) d)) (dot (gp l 0) d)
def top (l : List Pt) (d : Pt) : Int := topTo l d l.length
def topsTo (l : List Pt) (d : Pt) (k : Nat) : List Nat := (List.range k).filter (fun i => decide (dot (gp l i) d = top l d))
def tops (l : List Pt) (d : Pt) : List Nat := topsTo l d l.length
def holds (v : List Nat) (n : Nat) : Bool := (List.range v.length).any fun k => decide (gi v k = n)
def nrm (a b : Pt) : Pt := ⟨-(sub b a).y, (sub b a).x⟩
def nrn (a b : Pt) : Pt := ⟨(sub b a).y, -(sub b a).x⟩
def facing (l : List Pt) (i j : Nat) : Bool := (List.range l.length).any fun a => (List.range a).any fun b =>
  decide (gp l a ≠ gp l b) && ((holds (tops l (nrm (gp l a) (gp l b))) i && holds (tops l (nrn (gp l a) (gp l b))) j) || (holds (tops l (nrn (gp l a) (gp l b))) i && holds (tops l (nrm (gp l a) (gp l b))) j))
def follows (l : List Pt) (v : List Nat) (i j : Nat) : Bool := !((List.range v.length).any fun k => decide (crs (gp l i) (gp l j) (gp l (gi v k)) < 0)) && decide (i ≠ j)
def splits (a b : List Pt) (d : Pt) : Bool := decide (top a d < -top b (neg d))
abbrev BdP (p : Pt) : Prop := (-1500000000 ≤ p.x ∧ p.x ≤ 1500000000) ∧ (-1500000000 ≤ p.y ∧ p.y ≤ 1500000000)
def cmpI (a b : Int) : Int := if a < b then -1 else if b < a then 1 else 0
def ordC (l : List Pt) (i k : Nat) : Int := if cmpI (gp l i).x (gp l k).x = 0 then cmpI (gp l i).y (gp l k).y else cmpI (gp l i).x (gp l k).x
def swp (v : List Nat) (i j : Nat) : List Nat := (v.set i (gi v j)).set j (gi v i)
/-- What stands at j sinks to its place, above a. -/
def sink (lt : Nat → Nat → Bool) (a : Nat) (v : List Nat) : Nat → List Nat
  | 0 => v
  | j + 1 => if decide (a < j + 1) && lt (gi v (j + 1)) (gi v j) then sink lt a (swp v (j + 1) j) j else v
def isortR (lt : Nat → Nat → Bool) (a b : Nat) (v : List Nat) (i : Nat) : List Nat := (List.range' i (b - i)).foldl (fun v i => sink lt a v i) v
def srtTo (l : List Pt) (k : Nat) : List Nat := (List.range k).foldl (fun v i => sink (fun i k => bef (gp l i) (gp l k)) 0 (v ++ [i]) i) []
def ordI (l : List Pt) : List Nat := isortR (fun i k => decide (ordC l i k < 0)) 0 l.length (List.range l.length) 1
def upTo (n k : Nat) : List Nat := (List.range n).map (fun i => if i < k then i else 0)
/-- A coordinate that no sum of products of three takes out of its range. -/
abbrev Sm (x : Int) : Prop := -300000 ≤ x ∧ x ≤ 300000
abbrev SmP (p : Pt) : Prop := Sm p.x ∧ Sm p.y
theorem pt_beq (a b : Pt) : ([a.x, a.y] == [b.x, b.y]) = decide (a = b) := by
  cases a; cases b; rw [Bool.eq_iff_iff]; simp
theorem take_gp {l : List Pt} {k : Nat} (h : k < l.length) : l.take (k + 1) = l.take k ++ [gp l k] := by
  rw [List.take_succ_eq_append_getElem h, gp_eq h]
theorem others_step {l : List Pt} {i k : Nat} (h : k < l.length) : othersOf l i (k + 1) = if gp l k = gp l i then othersOf l i k else othersOf l i k ++ [gp l k] := by
  unfold othersOf
  rw [take_gp h, List.filter_append]
  by_cases hq : gp l k = gp l i
  · rw [if_pos hq]; simp [List.filter, hq]
  · rw [if_neg hq]; simp [List.filter, hq]
theorem others_len (l : List Pt) (i k : Nat) : (othersOf l i k).length ≤ l.length := by
  unfold othersOf
  exact Nat.le_trans (List.length_filter_le _ _) (by simp; omega)
theorem gp_all {l : List Pt} {q : Pt → Prop} (h : ∀ i, q (gp l i)) (hd : q default) : ∀ p ∈ l, q p := by
  intro p hp
  obtain ⟨i, hi, rfl⟩ := List.getElem_of_mem hp
  have := h i
  rwa [gp_eq hi] at this
theorem all_gp {l : List Pt} {q : Pt → Prop} (h : ∀ p ∈ l, q p) (hd : q default) : ∀ i, q (gp l i) := by
  intro i
  by_cases hi : i < l.length
  · rw [gp_eq hi]; exact h _ (List.getElem_mem hi)
  · simp only [gp, List.getD, List.getElem?_eq_none (Nat.le_of_not_lt hi)]; exact hd
theorem SmP_d : SmP default := by constructor <;> decide
theorem others_sm {l : List Pt} (h : ∀ i, SmP (gp l i)) (i k : Nat) : ∀ j, SmP (gp (othersOf l i k) j) := by
  refine all_gp (q := SmP) (fun p hp => ?_) SmP_d
  exact gp_all (q := SmP) h SmP_d p (List.mem_of_mem_take (List.mem_filter.1 hp).1)
theorem topTo_succ (l : List Pt) (d : Pt) (k : Nat) : topTo l d (k + 1) = max (topTo l d k) (dot (gp l k) d) := by
  simp [topTo, List.range_succ, List.foldl_append]
theorem topsTo_succ (l : List Pt) (d : Pt) (k : Nat) : topsTo l d (k + 1) = if dot (gp l k) d = top l d then topsTo l d k ++ [k] else topsTo l d k := by
  simp only [topsTo, List.range_succ, List.filter_append]
  split <;> rename_i h <;> simp [List.filter, h]
theorem topsTo_len (l : List Pt) (d : Pt) (k : Nat) : (topsTo l d k).length ≤ k := by
  have := List.length_filter_le (fun i => decide (dot (gp l i) d = top l d)) (List.range k)
  simpa [topsTo] using this
theorem prodB {a b : Int} (h : -1500000000 ≤ a ∧ a ≤ 1500000000) (k : -1500000000 ≤ b ∧ b ≤ 1500000000) : -2250000000000000000 ≤ a * b ∧ a * b ≤ 2250000000000000000 := by
  have h1 : (a * b).natAbs ≤ 1500000000 * 1500000000 := by
    rw [Int.natAbs_mul]
    exact Nat.mul_le_mul (by omega) (by omega)
  omega
theorem dot_bd {a b : Pt} (h : BdP a) (k : BdP b) : -4500000000000000000 ≤ dot a b ∧ dot a b ≤ 4500000000000000000 := by
  have h1 := prodB h.1 k.1
  have h2 := prodB h.2 k.2
  simp only [dot]; omega
theorem top_bd {l : List Pt} {d : Pt} (hl : ∀ i, SmP (gp l i)) (hd : BdP d) (k : Nat) : -4500000000000000000 ≤ topTo l d k ∧ topTo l d k ≤ 4500000000000000000 := by
  have hp : ∀ i, BdP (gp l i) := fun i => by have := hl i; simp only [SmP, Sm] at this; simp only [BdP]; omega
  induction k with
  | zero => exact dot_bd (hp 0) hd
  | succ k ih => rw [topTo_succ]; have := dot_bd (hp k) hd; omega
theorem SmP.bd {p : Pt} (h : SmP p) : BdP p := by simp only [SmP, Sm] at h; simp only [BdP]; omega
theorem sub_bd {a b : Pt} (h1 : SmP a) (h2 : SmP b) : BdP (sub a b) := by
  simp only [BdP, sub]; omega
theorem nrm_bd {a b : Pt} (h1 : SmP a) (h2 : SmP b) : BdP (nrm a b) := by simp only [BdP, nrm, sub]; omega
theorem nrn_bd {a b : Pt} (h1 : SmP a) (h2 : SmP b) : BdP (nrn a b) := by simp only [BdP, nrn, sub]; omega
theorem neg_bd {d : Pt} (h : BdP d) : BdP (neg d) := by simp only [BdP, neg]; omega
theorem any_false_of {n : Nat} {f : Nat → Bool} (h : ∀ i, i < n → f i = false) : (List.range n).any f = false := by
  rw [List.any_eq_false]; intro i hi; simp [h i (List.mem_range.1 hi)]
theorem any_true_of {n k : Nat} {f : Nat → Bool} (hk : k < n) (h : f k = true) : (List.range n).any f = true :=
  List.any_eq_true.2 ⟨k, List.mem_range.2 hk, h⟩
theorem lt_step {k : Nat} {p : Nat → Prop} (h : ∀ i, i < k → p i) (hk : p k) : ∀ i, i < k + 1 → p i := fun i hi => by
  rcases Nat.lt_or_ge i k with h1 | h1
  · exact h i h1
  · have : i = k := by omega
    subst this; exact hk
theorem isortR_step {lt : Nat → Nat → Bool} {a b : Nat} {v : List Nat} {i : Nat} (h : i < b) : isortR lt a b v i = isortR lt a b (sink lt a v i) (i + 1) := by
  unfold isortR
  obtain ⟨n, hn⟩ : ∃ n, b - i = n + 1 := ⟨b - i - 1, by omega⟩
  rw [hn, show b - (i + 1) = n from by omega, List.range'_succ]; rfl
theorem isortR_end {lt : Nat → Nat → Bool} {a b : Nat} {v : List Nat} {i : Nat} (h : b ≤ i) : isortR lt a b v i = v := by
  unfold isortR
  rw [show b - i = 0 from by omega]; rfl
theorem srtTo_succ (l : List Pt) (k : Nat) : srtTo l (k + 1) = sink (fun i k => bef (gp l i) (gp l k)) 0 (srtTo l k ++ [k]) k := by
  simp [srtTo, List.range_succ, List.foldl_append]
theorem swp_len (v : List Nat) (i j : Nat) : (swp v i j).length = v.length := by simp [swp]
theorem gi_set (v : List Nat) (i x k : Nat) : gi (v.set i x) k = if i = k ∧ k < v.length then x else gi v k := by
  simp only [gi, List.getD, List.getElem?_set]
  by_cases h : i = k
  · subst h
    by_cases h2 : i < v.length
    · simp [h2]
    · simp [h2]
  · simp [h]
theorem gi_swp {v : List Nat} {i j : Nat} (hi : i < v.length) (hj : j < v.length) (k : Nat) : gi (swp v i j) k = if k = j then gi v i else if k = i then gi v j else gi v k := by
  unfold swp
  rw [gi_set, gi_set]
  simp only [List.length_set]
  split <;> split <;> (try split) <;> (try split) <;> first | rfl | (exfalso; omega)
theorem swp_all {v : List Nat} {i j : Nat} {p : Nat → Prop} (hi : i < v.length) (hj : j < v.length) (h : ∀ k, k < v.length → p (gi v k)) : ∀ k, k < (swp v i j).length → p (gi (swp v i j) k) := by
  intro k hk
  rw [swp_len] at hk
  rw [gi_swp hi hj]
  split
  · exact h i hi
  · split
    · exact h j hj
    · exact h k hk
theorem sink_len (lt : Nat → Nat → Bool) (a : Nat) : ∀ (j : Nat) (v : List Nat), (sink lt a v j).length = v.length
  | 0, v => rfl
  | j + 1, v => by
    unfold sink
    split
    · rw [sink_len lt a j, swp_len]
    · rfl
theorem sink_all {lt : Nat → Nat → Bool} {a : Nat} {p : Nat → Prop} : ∀ {j : Nat} {v : List Nat}, j < v.length → (∀ k, k < v.length → p (gi v k)) → ∀ k, k < (sink lt a v j).length → p (gi (sink lt a v j) k)
  | 0, v, _, h => h
  | j + 1, v, hj, h => by
    unfold sink
    split
    · exact sink_all (by rw [swp_len]; omega) (swp_all hj (by omega) h)
    · exact h
theorem srtTo_len (l : List Pt) (k : Nat) : (srtTo l k).length = k := by
  induction k with
  | zero => rfl
  | succ k ih => rw [srtTo_succ, sink_len]; simp [ih]
theorem gi_app (v : List Nat) (x k : Nat) : gi (v ++ [x]) k = if k < v.length then gi v k else if k = v.length then x else 0 := by
  simp only [gi, getD_app]
theorem app_all {v : List Nat} {x : Nat} {p : Nat → Prop} (h : ∀ k, k < v.length → p (gi v k)) (hx : p x) : ∀ k, k < (v ++ [x]).length → p (gi (v ++ [x]) k) := by
  intro k hk
  rw [gi_app]
  split
  · exact h k (by assumption)
  · rw [if_pos (by simp at hk; omega)]; exact hx
theorem srtTo_lt (l : List Pt) (k : Nat) : ∀ j, j < (srtTo l k).length → gi (srtTo l k) j < k := by
  induction k with
  | zero => intro j hj; simp [srtTo] at hj
  | succ k ih =>
    rw [srtTo_succ]
    refine sink_all (p := fun x => x < k + 1) (by simp [srtTo_len]) (app_all (p := fun x => x < k + 1) (fun j hj => Nat.lt_succ_of_lt (ih j hj)) (Nat.lt_succ_self k))
theorem isortR_len (lt : Nat → Nat → Bool) (a b : Nat) (v : List Nat) (i : Nat) : (isortR lt a b v i).length = v.length := by
  unfold isortR
  generalize List.range' i (b - i) = xs
  induction xs generalizing v with
  | nil => rfl
  | cons x xs ih => rw [List.foldl_cons, ih, sink_len]
theorem upTo_len (n k : Nat) : (upTo n k).length = n := by simp [upTo]
theorem gi_upTo {n k i : Nat} (h : i < n) : gi (upTo n k) i = if i < k then i else 0 := by
  simp [gi, upTo, List.getD, h]
theorem upTo_full (n : Nat) : upTo n n = List.range n := by
  refine List.ext_getElem (by simp [upTo]) fun i h1 h2 => ?_
  simp [upTo] at h1 ⊢
  intro h; omega
theorem gi_range {n i : Nat} (h : i < n) : gi (List.range n) i = i := by simp [gi, List.getD, h]
end Go.Proofs.Ytacepcnbgacipaa
/-! The hull, in plain terms. -/
namespace Go.Proofs.Ytacepcnbgacipaa
open Go.Vc
def cptP (l : List Pt) (v : List Nat) (i : Nat) : Bool := decide (i = 0) || decide (gp l (gi v i) ≠ gp l (gi v (i - 1)))
def cptTo (l : List Pt) (v : List Nat) (m : Nat) : List Nat := ((List.range m).filter (cptP l v)).map (gi v)
def cpt (l : List Pt) (v : List Nat) : List Nat := cptTo l v v.length
def pop (l : List Pt) (i : Nat) : List Nat → List Nat
  | b :: a :: r => if crs (gp l a) (gp l b) (gp l i) ≤ 0 then pop l i (a :: r) else b :: a :: r
  | s => s
def stk (l : List Pt) (v : List Nat) : List Nat := v.foldl (fun st i => i :: pop l i st) []
def chain (l : List Pt) (v : List Nat) : List Nat := (stk l v).tail.reverse
theorem cptTo_succ (l : List Pt) (v : List Nat) (m : Nat) : cptTo l v (m + 1) = if cptP l v m = true then cptTo l v m ++ [gi v m] else cptTo l v m := by
  simp only [cptTo, List.range_succ, List.filter_append, List.map_append]
  split <;> rename_i h <;> simp [List.filter, h]
theorem cptTo_len (l : List Pt) (v : List Nat) (m : Nat) : (cptTo l v m).length ≤ m := by
  have := List.length_filter_le (cptP l v) (List.range m)
  simpa [cptTo] using this
theorem gi_take (v : List Nat) (m k : Nat) : gi (v.take m) k = if k < m then gi v k else 0 := by
  simp only [gi, List.getD, List.getElem?_take]
  split <;> rfl
theorem cptTo_all (l : List Pt) (v : List Nat) : ∀ (m : Nat), m ≤ v.length → (∀ i, i < m → cptP l v i = true) → cptTo l v m = v.take m
  | 0, _, _ => rfl
  | m + 1, hm, h => by
    rw [cptTo_succ, if_pos (h m (by omega)), cptTo_all l v m (by omega) (fun i hi => h i (by omega)), List.take_succ_eq_append_getElem (by omega), gi_eq (by omega)]
theorem gi_rev_top (b : Nat) (r : List Nat) : gi (b :: r).reverse r.length = b := by
  simp [gi, List.getD]
theorem gi_rev_cons (b : Nat) (r : List Nat) {k : Nat} (h : k < r.length) : gi (b :: r).reverse k = gi r.reverse k := by
  simp only [gi, List.getD, List.reverse_cons]
  rw [List.getElem?_append_left (by simpa using h)]
theorem cpt_short {l : List Pt} {v : List Nat} (h : v.length < 2) : cpt l v = v := by
  rw [cpt, cptTo_all l v _ (Nat.le_refl _) (fun i hi => by simp [cptP, show i = 0 by omega]), List.take_length]
end Go.Proofs.Ytacepcnbgacipaa
namespace Go.Proofs.Ytacepcnbgacipaa
open Go.Vc
def ordN (l : List Pt) : List Nat := if chk l = 0 then ordI l else []
def arr (l : List Pt) : List Nat := if (cpt l (ordN l)).length < 3 then cpt l (ordN l) else chain l (cpt l (ordN l)) ++ chain l (cpt l (ordN l)).reverse
theorem chk_sm {l : List Pt} (h : chk l = 0) : ∀ i, SmP (gp l i) := by
  refine all_gp (q := SmP) (fun p hp => ?_) SmP_d
  unfold chk at h
  split at h
  · cases h
  · split at h
    · rename_i h2
      have := List.all_eq_true.1 h2 p hp
      simp [rightB, inB] at this
      simp only [SmP, Sm]; omega
    · cases h
theorem pop_len (l : List Pt) (i : Nat) : ∀ (st : List Nat), 0 < st.length → 0 < (pop l i st).length
  | [], h => by simp at h
  | [x], _ => by simp [pop]
  | b :: a :: r, _ => by
    unfold pop
    split
    · exact pop_len l i (a :: r) (by simp)
    · simp
theorem stk_len (l : List Pt) (v : List Nat) (h : 1 < v.length) : 1 < (stk l v).length := by
  match v, h with
  | x :: y :: v, _ =>
    have key : ∀ (v : List Nat) (st : List Nat), 1 < st.length → 1 < (v.foldl (fun st i => i :: pop l i st) st).length := by
      intro v
      induction v with
      | nil => intro st h; exact h
      | cons z v ih => intro st h; exact ih _ (by have := pop_len l z st (by omega); simp; omega)
    unfold stk
    simp only [List.foldl_cons]
    exact key v _ (by have := pop_len l y [x] (by simp); simp [pop])
theorem chain_pos (l : List Pt) (v : List Nat) (h : 1 < v.length) : 0 < (chain l v).length := by
  have := stk_len l v h
  simp [chain]; omega
theorem isortR_all {lt : Nat → Nat → Bool} {a b : Nat} {p : Nat → Prop} : ∀ (m : Nat) {v : List Nat} {i : Nat}, b - i = m → b ≤ v.length → (∀ k, k < v.length → p (gi v k)) → ∀ k, k < (isortR lt a b v i).length → p (gi (isortR lt a b v i) k)
  | 0, v, i, hm, hb, h => by rw [isortR_end (by omega)]; exact h
  | m + 1, v, i, hm, hb, h => by
    rw [isortR_step (by omega)]
    exact isortR_all m (by omega) (by rw [sink_len]; omega) (sink_all (by omega) h)
theorem ordN_lt (l : List Pt) : ∀ k, k < (ordN l).length → gi (ordN l) k < l.length := by
  unfold ordN
  split
  · exact isortR_all (p := fun x => x < l.length) _ rfl (by simp) (fun k hk => by simp at hk; rw [gi_range hk]; exact hk)
  · intro k hk; simp at hk
theorem ordN_len (l : List Pt) : (ordN l).length ≤ l.length := by
  unfold ordN; split
  · simp [ordI, isortR_len]
  · simp
theorem cpt_p {l : List Pt} {v : List Nat} {p : Nat → Prop} (h : ∀ k, k < v.length → p (gi v k)) : ∀ m, m ≤ v.length → ∀ k, k < (cptTo l v m).length → p (gi (cptTo l v m) k)
  | 0, _ => fun k hk => by simp [cptTo] at hk
  | m + 1, hm => by
    rw [cptTo_succ]
    split
    · exact app_all (p := p) (cpt_p h m (by omega)) (h m (by omega))
    · exact cpt_p h m (by omega)
theorem rev_p {v : List Nat} {p : Nat → Prop} (h : ∀ k, k < v.length → p (gi v k)) : ∀ k, k < v.reverse.length → p (gi v.reverse k) := by
  intro k hk
  simp at hk
  have h2 : v.length - 1 - k < v.length := by omega
  have e : gi v.reverse k = gi v (v.length - 1 - k) := by simp [gi, List.getD, hk, h2]
  rw [e]; exact h _ h2
theorem pop_le (l : List Pt) (i : Nat) : ∀ (st : List Nat), (pop l i st).length ≤ st.length
  | [] => by simp [pop]
  | [x] => by simp [pop]
  | b :: a :: r => by
    unfold pop
    split
    · have := pop_le l i (a :: r); simp at this ⊢; omega
    · simp
theorem stk_le (l : List Pt) (v : List Nat) : (stk l v).length ≤ v.length := by
  have key : ∀ (v : List Nat) (st : List Nat), (v.foldl (fun st i => i :: pop l i st) st).length ≤ st.length + v.length := by
    intro v
    induction v with
    | nil => intro st; simp
    | cons z v ih => intro st; have := ih (z :: pop l z st); have := pop_le l z st; simp at *; omega
  have := key v []
  simpa [stk] using this
theorem chain_le (l : List Pt) (v : List Nat) : (chain l v).length ≤ v.length := by
  have := stk_le l v
  simp [chain]; omega
end Go.Proofs.Ytacepcnbgacipaa
