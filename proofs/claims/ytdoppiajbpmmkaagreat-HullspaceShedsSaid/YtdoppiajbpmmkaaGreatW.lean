/- A part of the proof that the law returns true at every input and that the input reads behind the call as it read before; this part states nothing of its own that needs a condition of the input. -/
import Derived.Lib.SliceRun
import Derived.Test.YtdoppiajbpmmkaaGreatChecked
import Derived.KernelRfl
import Derived.Test.YtdoppiajbpmmkaaGreatV
set_option linter.unusedVariables false
set_option linter.unusedSimpArgs false
set_option linter.unnecessarySimpa false
namespace Go.Vc
open Go Go.RowKit
/-! ### Products that fit -/
abbrev Bd (a : Int) : Prop := -1500000000 ≤ a ∧ a ≤ 1500000000
theorem mulB {a b : Int} (h : Bd a) (k : Bd b) : -2250000000000000000 ≤ a * b ∧ a * b ≤ 2250000000000000000 := by
  have h1 : (a * b).natAbs ≤ 1500000000 * 1500000000 := by
    rw [Int.natAbs_mul]
    exact Nat.mul_le_mul (by omega) (by omega)
  omega
section
variable {P : Program} {E : Env} {T T' : Tab} {O O' : Own} {o : Oper} {d : Option Tmp} {ty : TypeId} {pos : String} {af : Array Edge} {g : Option (Nat × Bool)}
theorem g_mulB {xt yt : TypeId} {x y : Operand} {m n : Int} (h1 : T.ev x = .av (.val (.int .i64 m))) (h2 : T.ev y = .av (.val (.int .i64 n))) (hm : Bd m) (hn : Bd n) :
    GV P E ⟨d, .binOp .mul xt x y yt, ty, pos, af, g⟩ T O (.av (.val (.int .i64 (m * n)))) [] [] :=
  g_arith h1 h2 rfl (by have := mulB hm hn; omega)
theorem g_subP {xt yt : TypeId} {x y : Operand} {a b c e : Int} (h1 : T.ev x = .av (.val (.int .i64 (a * b)))) (h2 : T.ev y = .av (.val (.int .i64 (c * e)))) (ha : Bd a) (hb : Bd b) (hc : Bd c) (he : Bd e) :
    GV P E ⟨d, .binOp .sub xt x y yt, ty, pos, af, g⟩ T O (.av (.val (.int .i64 (a * b - c * e)))) [] [] :=
  g_arith h1 h2 rfl (by have := mulB ha hb; have := mulB hc he; omega)
end
end Go.Vc
namespace Go.Vc
open Go Go.RowKit
theorem idx_eq (l : List Nat) : idx l = .sl l.length 1 (xf l) := rfl
section
variable {P : Program} {E : Env} {T T' : Tab} {O O' : Own} {o : Oper} {d : Option Tmp} {ty : TypeId} {pos : String} {af : Array Edge} {g : Option (Nat × Bool)}

theorem getD_app {α : Type} (l : List α) (a d : α) (i : Nat) : (l ++ [a]).getD i d = if i < l.length then l.getD i d else if i = l.length then a else d := by
  simp only [List.getD, List.getElem?_append]
  split
  · rfl
  · split
    · rename_i h; subst h; simp
    · rw [List.getElem?_singleton, if_neg (by omega)]; rfl

/-- The row of r is one more told otherwise. -/
theorem VStep.row {r e sz n n' : Nat} {f f' : Nat → Nat → AV} {s : SV} (h : VStep P E o T O T' ((r, .row e sz n f) :: O') s) (hn : n = n') (hf : ∀ i, i < n → ∀ j, j < sz → f i j = f' i j) : VStep P E o T O T' ((r, .row e sz n' f') :: O') s := by
  refine ⟨h.nd, fun Z ν a w hs => ?_⟩
  have key : ∀ {a w}, (∃ v Z' ν', a = a ∧ SatZ E Z' ν' T' ((r, .row e sz n f) :: O') a w ∧ s.ok Z' ν' w v) → True := fun _ => trivial
  have := h.run Z ν a w hs
  unfold Oper.wp at this ⊢
  revert this
  have conv : ∀ a1 w1, (∃ v Z' ν', a1 = a.put o.dst v ∧ SatZ E Z' ν' T' ((r, .row e sz n f) :: O') a w1 ∧ s.ok Z' ν' w1 v) → (∃ v Z' ν', a1 = a.put o.dst v ∧ SatZ E Z' ν' T' ((r, .row e sz n' f') :: O') a w1 ∧ s.ok Z' ν' w1 v) := by
    rintro a1 w1 ⟨v, Z', ν', h1, h2, h3⟩
    refine ⟨v, Z', ν', h1, ⟨h2.defers, h2.tsize, h2.cst, h2.pin, h2.base, ⟨fun k y hy => ?_, fun k k' hne e1 e2 => ?_⟩, h2.slot⟩, h3⟩
    · by_cases hk : k = r
      · subst hk
        rw [look_cons_eq] at hy
        cases hy
        exact (RLe.row hn hf).ok (h2.own.each k _ (look_cons_eq _ _ _))
      · rw [look_cons_ne _ _ (fun e => hk e.symm)] at hy
        exact h2.own.each k y (by rw [look_cons_ne _ _ (fun e => hk e.symm)]; exact hy)
    · have hh : ∀ k, look ((r, Res.row e sz n' f') :: O') k ≠ none → look ((r, Res.row e sz n f) :: O') k ≠ none := by
        intro k hk
        by_cases hkr : k = r
        · subst hkr; rw [look_cons_eq]; simp
        · rw [look_cons_ne _ _ (fun e => hkr e.symm)] at hk ⊢; exact hk
      exact h2.own.apart k k' hne (hh k e1) (hh k' e2)
  generalize (execOp a.eval o).run P w = rr
  intro this
  cases rr with
  | ok n1 w1 =>
    cases n1 <;> simp only [Oper.upon] at this ⊢ <;> first
      | exact conv _ _ this
      | exact Calls.mono this (fun e w'' he => by cases e with
          | returned v => exact conv _ _ he
          | panicked c => exact he
          | outgrown => exact he)
      | exact Rows.mono this (fun _ _ he => conv _ _ he)
  | halt x w1 => cases x <;> simp only [Oper.upon] at this ⊢

theorem v_push_pt {t e : TypeId} {x y : Operand} {r bytes : Nat} {l : List Pt} {p : Pt} [ht : SlTy P t e 2] [he : EltTy P e 2 bytes] (hx : T.ev x = .osl r) (hr : look O r = some (.row e 2 l.length (pf l))) (hy : T.ev y = .av (.sl 1 2 (pf [p])))
    (hlen : l.length ≤ 1000000) (hby : Nat.ble bytes 64 = true) (hp : Nat.blt r 1000 = true := by first | rfl | assumption) :
    VStep P E ⟨d, .call ⟨.builtin .append, #[x, y], #[t, t]⟩, ty, pos, af, g⟩ T O (T.kill r) ((r, .row e 2 (l ++ [p]).length (pf (l ++ [p]))) :: Own.kill r O) (.osl r) := by
  refine (v_append hx hr hy (fun i _ j _ => by unfold pf; split <;> rfl) (by omega) (by simp only [maxLen]; omega) (by have := Nat.le_of_ble_eq_true hby; calc (l.length + 1) * bytes ≤ 1000001 * 64 := Nat.mul_le_mul (by omega) this
    _ ≤ 140737488355328 := by decide)).row (by simp) (fun i hi j hj => ?_)
  unfold rowApp pf gp
  rw [getD_app]
  split
  · rfl
  · have h1 : i = l.length := by omega
    subst h1
    simp
theorem v_push_ix {t e : TypeId} {x y : Operand} {r bytes : Nat} {l : List Nat} {p : Nat} [ht : SlTy P t e 1] [he : EltTy P e 1 bytes] (hx : T.ev x = .osl r) (hr : look O r = some (.row e 1 l.length (xf l))) (hy : T.ev y = .av (.sl 1 1 (xf [p])))
    (hlen : l.length ≤ 1000000) (hby : Nat.ble bytes 64 = true) (hp : Nat.blt r 1000 = true := by first | rfl | assumption) :
    VStep P E ⟨d, .call ⟨.builtin .append, #[x, y], #[t, t]⟩, ty, pos, af, g⟩ T O (T.kill r) ((r, .row e 1 (l ++ [p]).length (xf (l ++ [p]))) :: Own.kill r O) (.osl r) := by
  refine (v_append hx hr hy (fun i _ j _ => rfl) (by omega) (by simp only [maxLen]; omega) (by have := Nat.le_of_ble_eq_true hby; calc (l.length + 1) * bytes ≤ 1000001 * 64 := Nat.mul_le_mul (by omega) this
    _ ≤ 140737488355328 := by decide)).row (by simp) (fun i hi j hj => ?_)
  unfold rowApp xf gi
  rw [getD_app]
  split
  · rfl
  · have h1 : i = l.length := by omega
    subst h1
    simp
theorem g_one_ix {t e : TypeId} {x : Operand} {n : Int} {p : Nat} [ht : SlTy P t e 1]
    (hb : ∀ w, (Instr.buildSlice t 1 #[(0, .int .i64 n)]).run P w = .ok (.slice (some ⟨w.heap.size, 0, none⟩) 1 1) (w.alloc (.cells #[.int .i64 n] e)))
    (hx : T.ev x = .av (.val (.int .i64 n))) (hn : n = ↑p) : GV P E ⟨d, .buildSlice t 1 #[(0, x)], ty, pos, af, g⟩ T O (.av (.sl 1 1 (xf [p]))) [] [] :=
  g_bslice (is := [0]) (xs := [x]) (vs := [_]) (us := [_]) hb rfl (by simp only [List.map_cons, List.map_nil, hx]) rfl (fun i hi j hj => by
    obtain rfl : i = 0 := by omega
    obtain rfl : j = 0 := by omega
    subst hn
    exact ⟨_, rfl, rfl⟩)
end
end Go.Vc
namespace Go.Vc
open Go Go.RowKit
section
variable {P : Program} {E : Env} {T T' : Tab} {O O' : Own} {o : Oper} {d : Option Tmp} {ty : TypeId} {pos : String} {af : Array Edge} {g : Option (Nat × Bool)}

/-- s[lo:] of a row of the call's own. -/
theorem g_from {t e : TypeId} {x y : Operand} {r n sz ety : Nat} {f : Nat → Nat → AV} {q : IntKind} {i : Int} {lo : Nat} [ht : SlTy P t e sz] (hx : T.ev x = .osl r) (hr : look O r = some (.row ety sz n f)) (hy : T.ev y = .av (.val (.int q i))) (hi : i = ↑lo) (hlo : lo ≤ n) (hn : 0 < n) :
    GV P E ⟨d, .slice t x (some y) none none, ty, pos, af, g⟩ T O (.osx r sz lo (n - lo)) [r] [] :=
  gv_pure [r] fun Z ν a w h hO => by
    have hv := osl_ok hx (h x (by simp [Op.operands]))
    have hvi := val_ok hy (h y (by simp [Op.operands]))
    subst hi
    rcases hO r (by simp) _ hr with ⟨_, h2⟩ | ⟨b, cap, arr, h1, _, _, _, hnc, _⟩
    · omega
    · refine ⟨.slice (if cap = lo then some ⟨b, 0, none⟩ else some ⟨b, lo * sz, none⟩) (n - lo) (cap - lo), ?_, b, n, cap, _, h1, rfl, fun hp => by
        by_cases h0 : cap = lo
        · rw [if_pos h0]
          have : lo = 0 := by omega
          subst this; simp
        · exact if_neg h0⟩
      simp [execOp, Instr.sliceAt, Instr.slice, hv, h1, hvi, run_underlying ht.und, Instr.sliceBounds, Instr.sliceBound, asIntOf, ht.size w, hlo, add_addr]

theorem osx_ok {Z : Zone} {ν : Vals} {w : World} {T : Tab} {x : Operand} {a : Act} {r sz lo len : Nat} (hx : T.ev x = .osx r sz lo len) (h : (T.ev x).ok Z ν w (a.eval x)) :
    ∃ b n c p, ν r = .slice (some ⟨b, 0, none⟩) n c ∧ a.eval x = .slice p len (c - lo) ∧ (0 < len ∨ lo = 0 → p = some ⟨b, lo * sz, none⟩) := by
  rw [hx] at h; exact h

theorem g_len_osx {t e : TypeId} {x : Operand} {r lo len sz sz' : Nat} [ht : SlTy P t e sz'] (hx : T.ev x = .osx r sz lo len) :
    GV P E ⟨d, .call ⟨.builtin .len, #[x], #[t]⟩, ty, pos, af, g⟩ T O (.av (.val (.int .i64 len))) [] [] :=
  gv_pure [] fun Z ν a w h _ => by
    obtain ⟨b, n, c, p, _, hv, _⟩ := osx_ok hx (h x (by simp [Op.operands, Call.operands]))
    exact ⟨.int .i64 len, by simp [execOp, resolve, invoke, builtin, Builtin.len_, hv, run_underlying ht.und, goInt], rfl⟩

theorem g_index_osx {t e : TypeId} {x y : Operand} {r lo len sz : Nat} {q : IntKind} {i : Int} {k : Nat} [ht : SlTy P t e sz] (hx : T.ev x = .osx r sz lo len) (hy : T.ev y = .av (.val (.int q i)))
    (hi : i = ↑k) (hk : k < len) : GV P E ⟨d, .indexAddr t x y, ty, pos, af, g⟩ T O (.oel r sz (lo + k) 0) [] [] :=
  gv_pure [] fun Z ν a w h _ => by
    obtain ⟨b, n, c, p, hb, hv, hp⟩ := osx_ok hx (h x (by simp [Op.operands]))
    have hvi := val_ok hy (h y (by simp [Op.operands]))
    subst hi
    rw [hp (.inl (by omega))] at hv
    refine ⟨.pointer (some ⟨b, (lo + k) * sz, none⟩), ?_, b, n, c, hb, by simp⟩
    simp [execOp, Instr.indexAt, hvi, hv, asIntOf, run_underlying ht.und, ht.size w, hk, add_addr, Nat.add_mul]

/-- f with z in the place of all from lo on. -/
def rowClr (f : Nat → Nat → AV) (lo : Nat) (z : Value) : Nat → Nat → AV := fun i j => if lo ≤ i then .val z else f i j

/-- clear(s[lo:]), elements of one cell. -/
theorem g_clear {t e : TypeId} {x : Operand} {r lo n ety : Nat} {f : Nat → Nat → AV} {z : Value} [ht : SlTy P t e 1] (hv : ∀ w, (zeroValue e).run P w = .ok z w) (hz : z.cells = #[z]) (h1 : z.oneCell' = true) (hx : T.ev x = .osx r 1 lo (n - lo)) (hr : look O r = some (.row ety 1 n f)) :
    GV P E ⟨d, .call ⟨.builtin .clear, #[x], #[t]⟩, ty, pos, af, g⟩ T O (.av .any) [r] [(r, .row ety 1 n (rowClr f lo z))] := by
  refine ⟨fun T' O' hT hO => ⟨by intro c; simp, fun Z ν a w hs => ?_⟩⟩
  have ex := ev_ok hs x
  rw [ev_same (o := ⟨d, .call ⟨.builtin .clear, #[x], #[t]⟩, ty, pos, af, g⟩) hT (by simp [Op.operands, Call.operands])] at ex
  obtain ⟨b, m, c, p, hb, hax, hp⟩ := osx_ok hx ex
  have hr' : look O' r = some (.row ety 1 n f) := by rw [hO r (by simp)]; exact hr
  rcases hs.own.each r _ hr' with ⟨e1, _⟩ | ⟨b', cap, arr, e1, e2, e3, e4, e5, e6, e7, e8⟩
  · rw [hb] at e1; simp at e1
  have e1' := e1
  rw [hb] at e1
  simp only [Value.slice.injEq, Option.some.injEq, Addr.mk.injEq, and_true] at e1
  obtain ⟨rfl, rfl, rfl⟩ := e1
  by_cases hle : m ≤ lo
  · have h0 : m - lo = 0 := by omega
    rw [h0] at hax
    refine wp_value (w' := w) (v := .tuple #[]) ?_ ⟨_, Z, ν, rfl, ?_, trivial⟩
    · cases p <;> simp [execOp, resolve, invoke, builtin, hax, Builtin.clear_, run_underlying ht.und]
    · obtain ⟨Z2, ν2, h2⟩ : ∃ Z2 ν2, Z2 = Z ∧ ν2 = ν := ⟨Z, ν, rfl, rfl⟩
      refine ⟨hs.defers, hs.tsize, hs.cst, hs.pin, hs.base, ⟨fun k y hy => ?_, fun k k' hne q1 q2 => ?_⟩, hs.slot⟩
      · by_cases hk : k = r
        · subst hk
          simp only [List.cons_append, List.nil_append] at hy
          rw [look_cons_eq] at hy
          cases hy
          exact (RLe.row (f' := rowClr f lo z) rfl (fun i hi j hj => by unfold rowClr; rw [if_neg (by omega)])).ok (hs.own.each k _ hr')
        · simp only [List.cons_append, List.nil_append] at hy
          rw [look_cons_ne _ _ (fun e => hk e.symm)] at hy
          exact hs.own.each k y hy
      · have hh : ∀ k, look ([(r, Res.row ety 1 m (rowClr f lo z))] ++ O') k ≠ none → look O' k ≠ none := by
          intro k hk
          simp only [List.cons_append, List.nil_append] at hk
          by_cases hkr : k = r
          · subst hkr; rw [hr']; simp
          · rw [look_cons_ne _ _ (fun e => hkr e.symm)] at hk; exact hk
        exact hs.own.apart k k' hne (hh k q1) (hh k' q2)
  · have hpos : 0 < m - lo := by omega
    rw [hp (.inl hpos), Nat.mul_one] at hax
    have hst := run_storeCells_at P b lo ety (List.replicate (m - lo) z) 0 arr w e4 (by simp; omega) (by intro v hv'; rw [List.eq_of_mem_replicate hv']; exact h1)
    simp only [Nat.add_zero] at hst
    have hzc : (Builtin.zeroCells z.cells (m - lo)).toList = List.replicate (m - lo) z := by
      rw [hz]
      simp [Builtin.zeroCells]
      apply List.ext_getElem
      · simp
      · intro i h1 h2
        simp [Nat.mod_one]
    refine wp_value (w' := _) (v := .tuple #[]) ?_ ⟨_, Z, ν, rfl, hs.write hr' (b := b) (by rw [hb]; rfl) (w' := w.setRow b (arr.toList.take lo ++ List.replicate (m - lo) z ++ arr.toList.drop (lo + (List.replicate (m - lo) z).length)).toArray) rfl rfl rfl (by simp) (fun k hk => setRow_other w b k _ hk) (fun hsv => ?_), trivial⟩
    · obtain ⟨q, hq⟩ : ∃ q, m - lo = q + 1 := ⟨m - lo - 1, by omega⟩
      rw [hq] at hax hzc hst
      simp only [execOp, resolve, invoke, builtin, Sem.run_bind, Sem.run_pure, Result.andThen_ok, List.map_toArray, List.map_cons, List.map_nil, hax]
      simp [Builtin.clear_, run_underlying ht.und, hv, hzc, hst]
      rw [hq]
    · refine .inr ⟨b, c, _, e1', e2, e3, setRow_heap w b arr _ ety _ e4, e5, e6, ?_, fun i hi j hj => ?_⟩
      · rw [← e7]; simp; omega
      · obtain rfl : j = 0 := by omega
        obtain ⟨u0, hu0, hk0⟩ := e8 i hi 0 (by omega)
        simp only [Nat.mul_one, Nat.add_zero] at hu0 ⊢
        have hlt0 : i < arr.size := (Array.getElem?_eq_some_iff.1 hu0).1
        by_cases hil : lo ≤ i
        · refine ⟨z, ?_, by unfold rowClr; rw [if_pos hil]; exact rfl⟩
          simp only [List.getElem?_toArray, List.append_assoc]
          rw [List.getElem?_append_right (by simp; omega), List.getElem?_append_left (by simp; omega)]
          rw [List.getElem?_replicate, if_pos (by simp; omega)]
        · refine ⟨u0, ?_, by unfold rowClr; rw [if_neg hil]; exact hsv (.av _) _ hk0⟩
          simp only [List.getElem?_toArray, List.append_assoc]
          rw [List.getElem?_append_left (by simp; omega), List.getElem?_take_of_lt (by omega)]
          simpa using hu0
end
end Go.Vc
namespace Go.Vc
open Go Go.RowKit
section
variable {P : Program} {E : Env} {T T' : Tab} {O O' : Own} {o : Oper} {d : Option Tmp} {ty : TypeId} {pos : String} {af : Array Edge} {g : Option (Nat × Bool)}

theorem bevs_ok {Z : Zone} {ν : Vals} {a : Act} {w : World} (hs : SatZ E Z ν T O a w) : ∀ {xs : List Operand} {τs : List AV}, xs.map (bAV T O) = τs → All2 (fun τ v => AV.ok (fun k => Z k ∨ (k < w.heap.size ∧ ¬ E.keep k)) w τ v) τs (xs.map a.eval)
  | [], _, h => by subst h; exact trivial
  | x :: xs, _, h => by subst h; exact ⟨bAV_ok hs x, bevs_ok hs rfl⟩

theorem clo_args {Z : Zone} {w : World} {n : Nat} {cf : Nat → AV} {cs : List Value} (hl : cs.length = n) (hcs : ∀ i, i < n → ∃ u, cs[i]? = some u ∧ (cf i).ok Z w u) : All2 (fun τ v => AV.ok Z w τ v) ((List.range n).map cf) cs := by
  have : ∀ (m k : Nat) (cf : Nat → AV) (cs : List Value), cs.length = m → (∀ i, i < m → ∃ u, cs[i]? = some u ∧ (cf (k + i)).ok Z w u) → All2 (fun τ v => AV.ok Z w τ v) ((List.range' k m).map cf) cs := by
    intro m
    induction m with
    | zero => intro k cf cs hl _; rw [List.length_eq_zero_iff.1 hl]; trivial
    | succ m ih =>
      intro k cf cs hl h
      match cs, hl with
      | c0 :: cs, hl =>
        rw [List.range'_succ, List.map_cons]
        obtain ⟨u, hu, hk⟩ := h 0 (by omega)
        simp only [List.getElem?_cons_zero, Option.some.injEq] at hu
        subst hu
        refine ⟨hk, ih (k + 1) cf cs (by simpa using hl) (fun i hi => ?_)⟩
        obtain ⟨u, hu, hk⟩ := h (i + 1) (by omega)
        exact ⟨u, by simpa using hu, by rw [show k + 1 + i = k + (i + 1) from by omega]; exact hk⟩
  rw [List.range_eq_range']
  exact this n 0 cf cs hl (fun i hi => by rw [Nat.zero_add]; exact hcs i hi)

theorem all2_app {R : AV → Value → Prop} : ∀ {l : List AV} {m : List Value} {l' m'}, All2 R l m → All2 R l' m' → All2 R (l ++ l') (m ++ m')
  | [], [], _, _, _, h2 => h2
  | _ :: _, _ :: _, _, _, h1, h2 => ⟨h1.1, all2_app h1.2 h2⟩
  | [], _ :: _, _, _, h1, _ => h1.elim
  | _ :: _, [], _, _, h1, _ => h1.elim

/-- A closure called with own rows lent; it hands back a row of plain values. -/
theorem v_callc_row {f : FuncId} {c : Operand} {xs : List Operand} {ats : Array TypeId} {τs : List AV} {n : Nat} {cf : Nat → AV} {ety sz m : Nat} {fr : Nat → Nat → AV} (r : Nat) (hc : CtrR P f (τs ++ (List.range n).map cf) ety sz m fr []) (hf : T.ev c = .av (.clo f n cf)) (hx : xs.map (bAV T O) = τs)
    (hflat : ∀ i, i < m → ∀ j, j < sz → ∃ v, fr i j = .val v) (hp : Nat.blt r 1000 = true := by first | rfl | assumption) :
    VStep P E ⟨d, .call ⟨.value c, xs.toArray, ats⟩, ty, pos, af, g⟩ T O (T.kill r) ((r, .row ety sz m fr) :: Own.kill r O) (.osl r) := by
  refine ⟨by intro c; simp, fun Z ν a w hs => ?_⟩
  have hev := bevs_ok hs hx
  have hfv := ev_ok hs c
  rw [hf] at hfv
  obtain ⟨cs, hfv, hl, hcs⟩ := hfv
  have hall := all2_app hev (clo_args hl (fun i hi => let ⟨u, hu, hk⟩ := hcs i hi; ⟨u, hu, AV.ok_mono (fun _ h => .inl h) (Nat.le_refl _) (fun _ _ _ => rfl) _ _ hk⟩))
  refine wp_enter (f := f) (args := (xs.map a.eval ++ cs).toArray) ?_ ?_
  · have hen := hc.enters (xs.map a.eval ++ cs).toArray w
    simp [execOp, resolve, Deferred.ofValue, hfv, invoke] at hen ⊢
    exact hen
  · refine Calls.mono (hc.calls w _ _ (fun k hk => by rcases hk with hk | hk; exact hs.base.zLt k hk; exact hk.1) hall) ?_
    rintro e w' ⟨v, u, Z', rfl, hr, hb, h1, h2, h3, h4⟩
    have hr' : u = v := hr
    subst hr'
    refine ⟨u, rfl, u, Z, updV ν r u, rfl, hs.calledRow hb (fun _ h => h) (fun _ h => .inl h) (fun k hk => Nat.lt_of_lt_of_le (hs.base.zLt k hk) hb.size) ?_ hp, (if_pos rfl : updV ν r u r = u).symm⟩
    rcases h4 with h4 | ⟨b, cap, arr, e1, e2, e3, e4, e5, e6, e7, e8⟩
    · exact .inl h4
    · refine .inr ⟨b, cap, arr, e1, e2, fun hz => ?_, e4, e5, e6, e7, fun i hi j hj => ?_⟩
      · have := hs.base.zLt b hz; omega
      · obtain ⟨x, hx, hk⟩ := e8 i hi j hj
        obtain ⟨y, hy⟩ := hflat i hi j hj
        rw [hy] at hk ⊢
        exact ⟨x, hx, hk⟩
end
end Go.Vc
namespace Go.Vc
open Go Go.RowKit
theorem CV.ok_av {Z Z' : Zone} {ν : Vals} {w w' : World} (h : ∀ (τ : AV) (v : Value), τ.ok Z w v → τ.ok Z' w' v) (s : CV) (v : Value) (hs : s.ok Z ν w v) : s.ok Z' ν w' v := by
  cases s with
  | av τ => exact h τ v hs
  | own r off => exact hs
  | osl r => exact hs
theorem SV.ok_av {Z Z' : Zone} {ν : Vals} {w w' : World} (h : ∀ (τ : AV) (v : Value), τ.ok Z w v → τ.ok Z' w' v) (s : SV) (v : Value) (hs : s.ok Z ν w v) : s.ok Z' ν w' v := by
  cases s with
  | av τ => exact h τ v hs
  | own r off => exact hs
  | osl r => exact hs
  | oel r sz i j => exact hs
  | osx r sz lo len => exact hs
  | clo k cs => obtain ⟨vs, h1, h2⟩ := hs; exact ⟨vs, h1, h2.mono fun c _ u hu => CV.ok_av h c u hu⟩
  | tupR r ρs => obtain ⟨us, h1, h2⟩ := hs; exact ⟨us, h1, h2.mono fun c _ u hu => h c u hu⟩
  | agg cs => obtain ⟨vs, h1, h2⟩ := hs; exact ⟨vs, h1, h2.mono fun c _ u hu => CV.ok_av h c u hu⟩

theorem Res.ok_env {E E' : Env} {Z Z' : Zone} {ν : Vals} {w w' : World} {v : Value} {x : Res} (h : x.ok E Z ν w v) (hav : ∀ (τ : AV) (v : Value), τ.ok Z w v → τ.ok Z' w' v)
    (hb : ∀ b, blkOf v = some b → ¬ Z' b ∧ ¬ E'.keep b ∧ w'.heap[b]? = w.heap[b]?) : x.ok E' Z' ν w' v := by
  cases x with
  | cells cs =>
    obtain ⟨b', ty, arr, rfl, h2, h3, h4, h5, h6⟩ := h
    obtain ⟨q1, q2, q3⟩ := hb b' rfl
    exact ⟨b', ty, arr, rfl, q2, q1, q3.trans h4, h5, fun i s hi => let ⟨u, hu, hk⟩ := h6 i s hi; ⟨u, hu, SV.ok_av hav s u hk⟩⟩
  | row ty sz n f =>
    rcases h with h1 | ⟨b', cap, arr, rfl, h2, h3, h4, h5, h6, h7, h8⟩
    · exact .inl h1
    · obtain ⟨q1, q2, q3⟩ := hb b' rfl
      exact .inr ⟨b', cap, arr, rfl, q2, q1, q3.trans h4, h5, h6, h7, fun i hi j hj => let ⟨u, hu, hk⟩ := h8 i hi j hj; ⟨u, hu, hav _ _ hk⟩⟩
  | obj φ hφ =>
    obtain ⟨b', ob, e1, e2, e3, e4, e5⟩ := h
    obtain ⟨q1, q2, q3⟩ := hb b' e1
    exact ⟨b', ob, e1, q2, q1, q3.trans e4, hav (hφ.av ob) _ e5⟩

def ownB (O : Own) (ν : Vals) (k : Nat) : Prop := ∃ r, look O r ≠ none ∧ blkOf (ν r) = some k
theorem SatZ.shift {E E' : Env} {Z Z' : Zone} {ν : Vals} {T : Tab} {O : Own} {a a' : Act} {w w' : World} (h : SatZ E Z ν T O a w) (hd : a'.defers = E'.marks) (hN : a'.tmps.size = E'.N)
    (hc : ∀ d v, E'.cst d = some v → a'.tmps.getD d undef = v) (hp : ∀ r v, E'.pin r = some v → ν r = v) (hb : Base E' Z' w') (hav : ∀ (τ : AV) (v : Value), τ.ok Z w v → τ.ok Z' w' v)
    (hown : ∀ r, look O r ≠ none → ∀ b, blkOf (ν r) = some b → ¬ Z' b ∧ ¬ E'.keep b ∧ w'.heap[b]? = w.heap[b]?)
    (hsl : ∀ d, look T d ≠ none → a'.tmps.getD d undef = a.tmps.getD d undef) : SatZ E' Z' ν T O a' w' := by
  refine ⟨hd, hN, hc, hp, hb, ⟨fun r x hx => Res.ok_env (h.own.each r x hx) hav (hown r (by rw [hx]; simp)), h.own.apart⟩, fun d => ?_⟩
  by_cases hT : look T d = none
  · simp only [Tab.get, hT]; trivial
  · rw [hsl d hT]; exact SV.ok_av hav _ _ (h.slot d)
end Go.Vc
namespace Go.Vc
open Go Go.RowKit
theorem CtrA.any {P : Program} {f : FuncId} {args : List AV} {res : AV} (h : CtrA P f args res) : CtrA P f args .any := by
  refine ⟨h.enters, fun w Z vs hZ hvs => (h.calls w Z vs hZ hvs).mono ?_⟩
  rintro e w' ⟨v, Z', h1, h2, h3, h4, h5, _⟩
  exact ⟨v, Z', h1, h2, h3, h4, h5, trivial⟩
class StrTy (P : Program) (t : TypeId) : Prop where
  und : P.underlying t = some .string
section
variable {P : Program} {E : Env} {T T' : Tab} {O O' : Own} {o : Oper} {d : Option Tmp} {ty : TypeId} {pos : String} {af : Array Edge} {g : Option (Nat × Bool)}
end
end Go.Vc
namespace Go.Vc
open Go Go.RowKit
section
variable {P : Program} {E : Env} {T T' : Tab} {O O' : Own} {o : Oper} {d : Option Tmp} {ty : TypeId} {pos : String} {af : Array Edge} {g : Option (Nat × Bool)}
/-- A box of the call's own. -/
theorem f_box_own {t : TypeId} {x : Operand} {u : Value} (r : Nat) (hx : T.ev x = .av (.val u)) (h1 : u.oneCell' = true) (hf : freshB r T O = true) (hp : Nat.blt r 1000 = true := by first | rfl | assumption) :
    VStep P E ⟨d, .box t x, ty, pos, af, g⟩ T O T ((r, .cells [.av (.val u)]) :: O) (.own r 0) := by
  refine VStep.fresh (r := r) ⟨by intro c; simp, fun Z ν a w hs => ?_⟩ hf
  have hv := ev_ok hs x
  rw [hx] at hv
  have hv' : a.eval x = u := hv
  refine wp_value (w' := w.alloc (.cells (a.eval x).cells t)) (v := .pointer (some ⟨w.heap.size, 0, none⟩)) (by simp [execOp, Instr.box, newVar, newRow]) ?_
  refine ⟨_, Z, updV ν r (.pointer (some ⟨w.heap.size, 0, none⟩)), rfl, hs.newRes r hp _ _ _ rfl (fun _ hk hnz => ?_), w.heap.size, by simp [updV], rfl⟩
  have hc : (a.eval x).cells = #[u] := by rw [hv', cells_one h1]
  refine ⟨w.heap.size, t, (a.eval x).cells, rfl, hk, hnz, heap_alloc_new _ _, by rw [hc]; rfl, fun i s hs => ?_⟩
  match i, hs with
  | 0, hs => simp only [List.getElem?_cons_zero, Option.some.injEq] at hs; subst hs; exact ⟨u, by rw [hc]; rfl, rfl⟩
  | i + 1, hs => simp at hs

theorem g_store_osl {t : TypeId} {x y : Operand} {r q off ety sz n : Nat} {cs : List SV} {f : Nat → Nat → AV} [ht : SizeTy P t 1] (hx : T.ev x = .own r off) (hy : T.ev y = .osl q) (hr : look O r = some (.cells cs)) (hq : look O q = some (.row ety sz n f)) (hfit' : Nat.ble (off + 1) cs.length = true) :
    GV P E ⟨d, .store t x y, ty, pos, af, g⟩ T O (.av .any) [r, q] [(r, .cells (spl cs off [.osl q]))] := by
  refine ⟨fun T' O' hT hO => ⟨by intro c; simp, fun Z ν a w hs => ?_⟩⟩
  have hfit : off + 1 ≤ cs.length := Nat.le_of_ble_eq_true hfit'
  have ex := ev_ok hs x
  rw [ev_same (o := ⟨d, .store t x y, ty, pos, af, g⟩) hT (by simp [Op.operands]), hx] at ex
  have ey := ev_ok hs y
  rw [ev_same (o := ⟨d, .store t x y, ty, pos, af, g⟩) hT (by simp [Op.operands]), hy] at ey
  obtain ⟨b, hb, hax⟩ := ex
  have hone : (a.eval y).oneCell' = true := by
    rw [show a.eval y = ν q from ey]
    rcases hs.own.each q _ (by rw [hO q (by simp)]; exact hq) with ⟨h, _⟩ | ⟨_, _, _, h, _⟩ <;> (rw [h]; rfl)
  obtain ⟨w', hst, hsat⟩ := hs.storeOwn (P := P) (ss := [.osl q]) (vs := [a.eval y]) (by rw [hO r (by simp)]; exact hr) hb hfit ⟨ey, trivial⟩ (by simpa using hone)
  unfold Oper.wp
  have hrun : (execOp a.eval ⟨d, .store t x y, ty, pos, af, g⟩).run P w = .ok .skip w' := by
    simp [execOp, Instr.storeAt, hax, Instr.sureAddr, storeVar, ht.run w, cells_one hone, hst]
  rw [hrun]
  exact ⟨Go.undef, Z, ν, rfl, hsat, trivial⟩

/-- The nil slice in a box becomes a row of the call's own. -/
theorem ent_rowc {r off : Nat} {cs : List SV} (q ety sz : Nat) (f : Nat → Nat → AV) (hr : look O r = some (.cells cs)) (hc : cs[off]? = some (.av (.val (.slice none 0 0)))) (hf : freshB q T O = true) (hp : Nat.blt q 1000 = true := by first | rfl | assumption) :
    Ent T O T ((r, .cells (cs.set off (.osl q))) :: (q, .row ety sz 0 f) :: O) := by
  rintro E a w ⟨Z, ν, h⟩
  obtain ⟨f1, f2⟩ := fresh_kill hf
  have hk := h.kill q (.slice none 0 0) hp
  have hk' := hk.addRes q (.row ety sz 0 f) (.inl ⟨if_pos rfl, rfl⟩) (fun b hb => by rw [show updV ν q (.slice none 0 0) q = .slice none 0 0 from if_pos rfl] at hb; simp [blkOf] at hb)
  have hO : ∀ k, look ((q, Res.row ety sz 0 f) :: O) k = look ((q, Res.row ety sz 0 f) :: Own.kill q O) k := fun k => by
    by_cases hkr : q = k
    · subst hkr; rw [look_cons_eq, look_cons_eq]
    · rw [look_cons_ne _ _ hkr, look_cons_ne _ _ hkr, f2]
  have hrq : r ≠ q := by
    intro e
    subst e
    have := f2 r
    rw [Own.look_kill, if_pos rfl, hr] at this
    cases this
  have hq : updV ν q (.slice none 0 0) q = .slice none 0 0 := if_pos rfl
  have each' : ∀ k x, look ((q, Res.row ety sz 0 f) :: O) k = some x → x.ok E Z (updV ν q (.slice none 0 0)) w (updV ν q (.slice none 0 0) k) := fun k x hx => hk'.own.each k x (by rw [← hO]; exact hx)
  have key : ∀ k, look ((r, Res.cells (cs.set off (.osl q))) :: (q, Res.row ety sz 0 f) :: O) k ≠ none → look ((q, Res.row ety sz 0 f) :: O) k ≠ none := fun k hk => by
    by_cases e : r = k
    · subst e; rw [look_cons_ne _ _ (fun e => hrq e.symm), hr]; simp
    · rwa [look_cons_ne _ _ e] at hk
  refine ⟨Z, updV ν q (.slice none 0 0), hk'.defers, hk'.tsize, hk'.cst, hk'.pin, hk'.base, ⟨fun k y hy => ?_, fun k k' hne e1 e2 => hk'.own.apart k k' hne (by rw [← hO]; exact key k e1) (by rw [← hO]; exact key k' e2)⟩, fun d => by rw [← f1]; exact hk'.slot d⟩
  by_cases e : r = k
  · subst e
    rw [look_cons_eq] at hy
    cases hy
    obtain ⟨b, ty', arr, e1, e2, e3, e4, e5, e6⟩ := each' r (.cells cs) (by rw [look_cons_ne _ _ (fun e => hrq e.symm)]; exact hr)
    refine ⟨b, ty', arr, e1, e2, e3, e4, by simpa using e5, fun i s hs => ?_⟩
    rw [List.getElem?_set] at hs
    by_cases hi : off = i
    · subst hi
      have hlt := (List.getElem?_eq_some_iff.1 hc).1
      rw [if_pos rfl, if_pos hlt] at hs
      cases hs
      obtain ⟨u, hu, hk⟩ := e6 off _ hc
      exact ⟨u, hu, by rw [show u = Value.slice none 0 0 from hk]; exact hq.symm⟩
    · rw [if_neg hi] at hs
      exact e6 i s hs
  · rw [look_cons_ne _ _ e] at hy
    exact each' k y hy
end
end Go.Vc
namespace Go.Vc
open Go Go.RowKit
/-- A box of the call's own is frozen. -/
theorem ent_freezec {T : Tab} {O : Own} (d r : Nat) {cs : List SV} (f : Nat → AV) (hd : T.get d = .own r 0) (hr : look O r = some (.cells cs)) (hcs : cs = (List.range cs.length).map (fun i => SV.av (f i))) :
    Ent T O ((d, .av (.ptr cs.length f)) :: T.frz r .any) (Own.drop r O) := by
  rintro E a w ⟨Z, ν, h⟩
  obtain ⟨b, ty, arr, e1, e2, e3, e4, e5, e6⟩ := h.own.each r _ hr
  have hlt := (Array.getElem?_eq_some_iff.1 e4).1
  have hav : ∀ (τ : AV) v, τ.ok Z w v → τ.ok (fun k => Z k ∨ k = b) w v := AV.ok_mono (fun _ h => .inl h) (Nat.le_refl _) (fun _ _ _ => rfl)
  refine ⟨fun k => Z k ∨ k = b, ν, h.defers, h.tsize, h.cst, h.pin, ⟨h.base.os, h.base.tape, h.base.output, h.base.size, h.base.keepLt, h.base.kept, fun k hk => ?_, fun k hk => .inl (h.base.z0 k hk), fun k hk => ?_⟩, ⟨fun k x hx => ?_, fun k k' hne h1 h2 => ?_⟩, fun k => ?_⟩
  · rcases hk with hk | rfl
    · exact h.base.zLt k hk
    · exact hlt
  · rcases hk with hk | rfl
    · exact h.base.zNew k hk
    · exact .inr e2
  · rw [Own.look_drop] at hx
    by_cases hkr : k = r
    · rw [if_pos hkr] at hx; cases hx
    · rw [if_neg hkr] at hx
      refine Res.ok_env (h.own.each k x hx) hav (fun b' hb' => ?_)
      obtain ⟨q1, q3, q4⟩ := Res.blk_lt (h.own.each k x hx) hb'
      refine ⟨fun hz => ?_, q4, rfl⟩
      rcases hz with hz | rfl
      · exact q3 hz
      · exact h.own.apart r k (fun e => hkr e.symm) (by rw [hr]; simp) (by rw [hx]; simp) b' (by rw [e1]; rfl) hb'
  · have hh : ∀ k, look (Own.drop r O) k ≠ none → look O k ≠ none := fun k hk => by
      rw [Own.look_drop] at hk
      by_cases hkr : k = r
      · rw [if_pos hkr] at hk; exact absurd rfl hk
      · rwa [if_neg hkr] at hk
    exact h.own.apart k k' hne (hh k h1) (hh k' h2)
  · by_cases hk : d = k
    · subst hk
      rw [Tab.get_cons_eq]
      have hs := h.slot d
      rw [hd] at hs
      obtain ⟨b', q1, q2⟩ := hs
      rw [e1] at q1
      cases q1
      refine ⟨b, 0, q2, fun _ => .inr rfl, hlt, fun i hi => ?_⟩
      have hci : cs[i]? = some (.av (f i)) := by
        rw [hcs]; simp [hi]
      obtain ⟨u, hu, hok⟩ := e6 i _ hci
      exact ⟨u, by simp only [World.cell?, e4, Nat.zero_add]; exact hu, hav _ _ hok⟩
    · rw [Tab.get_cons_ne _ _ hk, Tab.get_frz]
      have hs := h.slot k
      generalize T.get k = s at hs
      have hsv := SV.ok_av (ν := ν) hav s _ hs
      cases s with
      | av σ => exact hsv
      | clo q cs' => simp only [SV.frz]; split <;> first | exact trivial | exact hsv
      | _ => simp only [SV.frz]; split <;> first | exact trivial | exact hsv
theorem ent_drop {T : Tab} {O : Own} : Ent T O T [] := fun _ _ _ ⟨Z, ν, h⟩ => ⟨Z, ν, h.defers, h.tsize, h.cst, h.pin, h.base, ⟨fun r x hx => by simp [look] at hx, fun r r' _ h1 => by simp [look] at h1⟩, h.slot⟩
end Go.Vc
namespace Go.Vc
open Go Go.RowKit
def SV.isOsl : SV → Bool | .osl _ => true | _ => false
section
variable {P : Program} {E : Env} {T T' : Tab} {O O' : Own} {o : Oper} {d : Option Tmp} {ty : TypeId} {pos : String} {af : Array Edge} {g : Option (Nat × Bool)}
theorem g_store' {t : TypeId} {x y : Operand} {r off : Nat} {cs : List SV} {s : SV} [ht : SizeTy P t 1] (hx : T.ev x = .own r off) (hy : T.ev y = s) (h1 : s.one = true) (hr : look O r = some (.cells cs)) (hfit' : Nat.ble (off + 1) cs.length = true) (hns : s.isOsl = false) :
    GV P E ⟨d, .store t x y, ty, pos, af, g⟩ T O (.av .any) [r] [(r, .cells (spl cs off [s]))] := g_store hx hy h1 hr hfit' (fun k e => by subst e; cases hns)
end
end Go.Vc
namespace Go.Vc
open Go Go.RowKit
theorem sq_ent {E : Env} {T T' : Tab} {O O' : Own} {φ : Act → World → Prop} (h : Ent T O T' O') (hq : SQ E T' O' φ) : SQ E T O φ := fun a w hs => hq a w (h E a w hs)
end Go.Vc
namespace Go.Vc
open Go Go.RowKit
section
variable {P : Program} {E : Env} {T T' : Tab} {O O' : Own} {o : Oper} {d : Option Tmp} {ty : TypeId} {pos : String} {af : Array Edge} {g : Option (Nat × Bool)}
theorem g_extractT {x : Operand} {i : Nat} {τs : List AV} {τ : AV} (hx : T.ev x = .av (tupOf τs)) (hi : τs[i]? = some τ) : GV P E ⟨d, .extract x i, ty, pos, af, g⟩ T O (.av τ) [] [] := by
  have hlt := (List.getElem?_eq_some_iff.1 hi).1
  have := g_extract (P := P) (E := E) (O := O) (d := d) (ty := ty) (pos := pos) (af := af) (g := g) (i := i) hx hlt
  rw [show τs.getD i .any = τ by simp [List.getD, hi]] at this
  exact this
end
end Go.Vc
namespace Go.Vc
open Go Go.RowKit
/-! ### A drawn region whose last operations stand behind all others -/
section
variable {P : Program} {E : Env} {ops : Array Oper}
theorem draw_seq {Q : Exit → Act → World → Prop} {L : List Oper} (hops : ops = L.toArray) (hback : ∀ (j : Nat) o, L[j]? = some o → ∀ e ∈ o.after.toList, Region.binds .any e = true → e.on < j) :
    ∀ (tl L1 : List Oper) (fuel : Nat) (listed : Array Bool) (a : Act) (w : World), L = L1 ++ tl → (∀ i j : Nat, L1.length ≤ j → j < i → i < L.length → reach L 12 i j = true) → listed.size = L.length →
      (∀ j, listed.getD j false = decide (j < L1.length)) → tl.length ≤ fuel → wpListIn (fc E.round) 0 P ops Q tl a w → wpAnyIn (fc E.round) 0 P .any ops Q fuel listed a w
  | [], L1, fuel, listed, a, w, hL, _, hls, hfl, _, h => by
    have hr : Region.ready .any ops listed = [] := by
      simp only [Region.ready, List.filter_eq_nil_iff, List.mem_range, Bool.and_eq_true, not_and]
      intro i hi hni
      exfalso
      have hi2 : i < L1.length := by rw [hops] at hi; simp only [List.size_toArray, hL, List.append_nil] at hi; exact hi
      have h1 := hfl i
      have hi3 : i < listed.size := by rw [hls, hL]; simpa using hi2
      simp only [hi2, decide_true] at h1
      simp [Array.getD_eq_getD_getElem?, Array.getElem?_eq_getElem hi3] at hni h1
      rw [h1] at hni; cases hni
    cases fuel with
    | zero => exact ⟨hr, h⟩
    | succ f => exact ⟨fun _ => h, fun i hi => by rw [hr] at hi; cases hi⟩
  | o :: tl, L1, fuel, listed, a, w, hL, hre, hls, hfl, hfu, h => by
    obtain ⟨f, rfl⟩ : ∃ f, fuel = f + 1 := ⟨fuel - 1, by simp only [List.length_cons] at hfu; omega⟩
    have hlen : L.length = L1.length + (tl.length + 1) := by rw [hL]; simp
    have hk : L[L1.length]? = some o := by rw [hL]; simp
    have hko : ops[L1.length]? = some o := by rw [hops]; simpa using hk
    have hun : ∀ i, i < L.length → listed.getD i true = listed.getD i false := fun i hi => by
      simp [Array.getD_eq_getD_getElem?, Array.getElem?_eq_getElem (show i < listed.size by omega)]
    have hkr : L1.length ∈ Region.ready .any ops listed := by
      simp only [Region.ready, List.mem_filter, List.mem_range, Bool.and_eq_true]
      refine ⟨by rw [hops]; simp only [List.size_toArray]; omega, ?_, ?_⟩
      · rw [hun _ (by omega), hfl]; simp
      · rw [hko]
        simp only [Option.map_some, Option.getD_some]
        rw [Array.all_eq_true']
        intro e he
        cases hb : Region.binds .any e with
        | false => rfl
        | true =>
          have := hback _ o hk e (Array.mem_toList_iff.2 he) hb
          simp [hfl, this]
    refine ⟨fun hr => absurd (hr ▸ hkr) (by simp), fun i hi => ?_⟩
    simp only [Region.ready, List.mem_filter, List.mem_range, Bool.and_eq_true] at hi
    obtain ⟨hilt, hni, hedge⟩ := hi
    have hil : i < L.length := by rw [hops] at hilt; simpa using hilt
    have hnl : ¬ i < L1.length := by
      intro hlt
      rw [hun i hil, hfl] at hni
      simp [hlt] at hni
    have hik : i = L1.length := by
      by_cases hg : L1.length < i
      · exfalso
        obtain ⟨o', ho'⟩ : ∃ o', L[i]? = some o' := ⟨_, List.getElem?_eq_getElem hil⟩
        have hoi : ops[i]? = some o' := by rw [hops]; simpa using ho'
        have hD : ∀ j, listed.getD j false = true → ∀ o, L[j]? = some o → ∀ e ∈ o.after.toList, Region.binds .any e = true → listed.getD e.on false = true := by
          intro j hj o2 ho2 e he hb
          rw [hfl] at hj ⊢
          have := hback j o2 ho2 e he hb
          simp only [decide_eq_true_eq] at hj ⊢
          omega
        have := reach_flag (l := L) (D := fun k => listed.getD k false = true) hD 12 i L1.length o' ho' (fun e he hb => by
          rw [hoi] at hedge
          simp only [Option.map_some, Option.getD_some, Array.all_eq_true'] at hedge
          have := hedge e (Array.mem_toList_iff.1 he)
          simpa [hb] using this) (hre i L1.length (Nat.le_refl _) hg hil)
        rw [hfl] at this
        simp at this
      · omega
    subst hik
    have hrec : ∀ a' w', wpListIn (fc E.round) 0 P ops Q tl a' w' → wpAnyIn (fc E.round) 0 P .any ops Q f (listed.setIfInBounds L1.length true) a' w' := by
      intro a' w' h'
      refine draw_seq hops hback tl (L1 ++ [o]) f _ a' w' (by rw [hL]; simp) (fun i j h1 h2 h3 => hre i j (by simp at h1; omega) h2 h3) (by simp [hls]) ?_ (by simp only [List.length_cons] at hfu; omega) h'
      intro j
      by_cases hj : j = L1.length
      · subst hj
        simp [Array.getD_eq_getD_getElem?, show L1.length < listed.size by omega]
      · have h1 := hfl j
        have h2 : (listed.setIfInBounds L1.length true).getD j false = listed.getD j false := by
          simp [Array.getD_eq_getD_getElem?, Array.getElem?_setIfInBounds_ne (Ne.symm hj)]
        rw [h2, h1]
        simp only [List.length_append, List.length_cons, List.length_nil, decide_eq_decide]
        omega
    unfold wpOpIn
    simp only [hko]
    simp only [wpListIn] at h
    split
    · rename_i hw
      rw [if_pos hw] at h
      exact Oper.wpIn_mono hrec h
    · rename_i hw
      rw [if_neg hw] at h
      exact ⟨h.1, hrec _ _ h.2⟩

theorem draw_tl {Q : Exit → Act → World → Prop} {l : List (Oper × Rec)} {tl : List Oper} {T : Tab} {O : Own} (hops : ops = (l.map (·.1) ++ tl).toArray) (hdr : DR P E ops l T O) (hok : drawOk ops l = true) (hfr : freshOk l T O = true) (hne : 0 < tl.length)
    (hback : ∀ (j : Nat) o, (l.map (·.1) ++ tl)[j]? = some o → ∀ e ∈ o.after.toList, Region.binds .any e = true → e.on < j)
    (hre : ∀ i j : Nat, l.length ≤ i → j < i → i < l.length + tl.length → reach (l.map (·.1) ++ tl) 12 i j = true)
    (hQ : ∀ a w, Sat E (comp (fun _ => true) (l.map (·.2.tw)) T) (comp (fun _ => true) (l.map (·.2.upd)) O) a w → wpListIn (fc E.round) 0 P ops Q tl a w) :
    ∀ (fuel : Nat) (listed : Array Bool) (a : Act) (w : World), listed.size = l.length + tl.length →
      (∀ j, listed.getD j false = true → ∀ o, (l.map (·.1) ++ tl)[j]? = some o → ∀ e ∈ o.after.toList, Region.binds .any e = true → listed.getD e.on false = true) →
      (∀ t, t < tl.length → listed.getD (l.length + t) false = false) →
      (l.length + tl.length - fuel ≤ (listed.toList.filter id).length) →
      Sat E (comp (fun j => listed.getD j false) (l.map (·.2.tw)) T) (comp (fun j => listed.getD j false) (l.map (·.2.upd)) O) a w →
      wpAnyIn (fc E.round) 0 P .any ops Q fuel listed a w := by
  have hsz : ops.size = l.length + tl.length := by rw [hops]; simp
  have hop : ∀ i : Nat, i < l.length → ops[i]? = (l.map (·.1))[i]? := fun i hi => by rw [hops]; simp [List.getElem?_append_left, hi]
  have hcount0 : ∀ (listed : Array Bool), listed.size = l.length + tl.length → (∀ t, t < tl.length → listed.getD (l.length + t) false = false) → (listed.toList.filter id).length + tl.length ≤ l.length + tl.length := by
    intro listed hls ht
    have h1 : listed.toList = listed.toList.take l.length ++ listed.toList.drop l.length := (List.take_append_drop _ _).symm
    have h2 : (listed.toList.drop l.length).filter id = [] := by
      rw [List.filter_eq_nil_iff]
      intro b hb
      obtain ⟨t, ht', rfl⟩ := List.getElem_of_mem hb
      simp only [List.length_drop, Array.length_toList, hls] at ht'
      have h3 := ht t (by omega)
      have h4 : l.length + t < listed.size := by omega
      simp [Array.getD_eq_getD_getElem?, Array.getElem?_eq_getElem h4] at h3
      simp [h3]
    rw [h1, List.filter_append, h2, List.append_nil]
    have := List.length_filter_le id (listed.toList.take l.length)
    have h5 : (listed.toList.take l.length).length ≤ l.length := by simp; omega
    omega
  intro fuel
  induction fuel with
  | zero =>
    intro listed a w hls hcl0 htail hcount hs
    have := hcount0 listed hls htail
    omega
  | succ fuel ih =>
    intro listed a w hls hcl0 htail hcount hs
    by_cases hfull : ∀ i, i < l.length → listed.getD i false = true
    · refine draw_seq (L := l.map (·.1) ++ tl) hops hback tl (l.map (·.1)) (fuel + 1) listed a w rfl (fun i j h1 h2 h3 => hre i j (by simp at h1; omega) h2 (by simpa using h3)) (by simpa using hls) ?_ (by have := hcount0 listed hls htail; omega) ?_
      · intro j
        simp only [List.length_map]
        by_cases hj : j < l.length
        · rw [hfull j hj]; simp [hj]
        · simp only [hj, decide_false]
          by_cases hj2 : j < l.length + tl.length
          · have := htail (j - l.length) (by omega)
            rwa [show l.length + (j - l.length) = j by omega] at this
          · simp [Array.getD_eq_getD_getElem?, Array.getElem?_eq_none (show listed.size ≤ j by omega)]
      · refine hQ a w (Sat.congr (fun d => ?_) (fun r => ?_) hs)
        · unfold Tab.get
          rw [comp_congr d (l.map (·.2.tw)) (fun _ => true) (fun j => listed.getD j false) T T rfl (fun j x hx _ => (hfull j (by
            have := (List.getElem?_eq_some_iff.1 hx).1; simpa using this)).symm)]
        · exact comp_congr r (l.map (·.2.upd)) (fun _ => true) (fun j => listed.getD j false) O O rfl (fun j x hx _ => (hfull j (by
            have := (List.getElem?_eq_some_iff.1 hx).1; simpa using this)).symm)
    have hcl : ∀ j, listed.getD j false = true → ∀ o, (l.map (·.1))[j]? = some o → ∀ e ∈ o.after.toList, Region.binds .any e = true → listed.getD e.on false = true := by
      intro j hj o ho e he hb
      exact hcl0 j hj o (by rw [List.getElem?_append_left (List.getElem?_eq_some_iff.1 ho).1]; exact ho) e he hb
    refine ⟨fun hr => ?_, fun i hi => ?_⟩
    · exfalso
      refine hfull fun i => ?_
      induction i using Nat.strongRecOn with
      | _ i ih =>
        intro hi
        cases hl : listed.getD i false with
        | true => rfl
        | false =>
          exfalso
          have hmem : i ∈ Region.ready .any ops listed := by
            simp only [Region.ready, List.mem_filter, List.mem_range, Bool.and_eq_true]
            refine ⟨by omega, ?_, ?_⟩
            · have : listed.getD i true = listed.getD i false := by
                simp [Array.getD_eq_getD_getElem?, Array.getElem?_eq_getElem (show i < listed.size by omega)]
              rw [this, hl]; rfl
            · rw [hop i hi]
              obtain ⟨x, hx⟩ : ∃ x, l[i]? = some x := ⟨l[i], List.getElem?_eq_getElem hi⟩
              simp only [List.getElem?_map, hx, Option.map_some, Option.getD_some]
              rw [Array.all_eq_true']
              intro e he
              cases hb : Region.binds .any e with
              | false => rfl
              | true =>
                have hlt := hback i x.1 (by rw [List.getElem?_append_left (by simpa using hi)]; simp [hx]) e (Array.mem_toList_iff.2 he) hb
                simp [ih e.on hlt (by omega)]
          rw [hr] at hmem
          cases hmem
    simp only [Region.ready, List.mem_filter, List.mem_range, Bool.and_eq_true] at hi
    obtain ⟨hilt, hni, hedge⟩ := hi
    have hi' : i < listed.size := by omega
    have hil : i < l.length := by
      by_cases hh : i < l.length
      · exact hh
      · exfalso
        refine hfull fun j hj => ?_
        obtain ⟨o', ho'⟩ : ∃ o', (l.map (·.1) ++ tl)[i]? = some o' := ⟨_, List.getElem?_eq_getElem (by simp; omega)⟩
        have hoi : ops[i]? = some o' := by rw [hops]; simpa using ho'
        exact reach_flag (l := l.map (·.1) ++ tl) (D := fun k => listed.getD k false = true) hcl0 12 i j o' ho' (fun e he hb => by
          rw [hoi] at hedge
          simp only [Option.map_some, Option.getD_some, Array.all_eq_true'] at hedge
          have := hedge e (Array.mem_toList_iff.1 he)
          simpa [hb] using this) (hre i j (by omega) (by omega) (by omega))
    have hnf : listed.getD i false = false := by
      simp [Array.getD_eq_getD_getElem?, Array.getElem?_eq_getElem hi'] at hni ⊢
      exact hni
    obtain ⟨⟨o, x⟩, hx⟩ : ∃ x, l[i]? = some x := ⟨l[i], List.getElem?_eq_getElem hil⟩
    have hoi : ops[i]? = some o := by rw [hop i hil]; simp [hx]
    have hedges : ∀ e ∈ o.after.toList, Region.binds .any e = true → listed.getD e.on false = true := by
      intro e he hb
      rw [hoi] at hedge
      simp only [Option.map_some, Option.getD_some, Array.all_eq_true'] at hedge
      have := hedge e (Array.mem_toList_iff.1 he)
      simpa [hb] using this
    obtain ⟨hgs, hkeys⟩ := hdr.at i o x hx
    have hto : (l.map (·.1))[i]? = some o := by simp [hx]
    -- what meets operation i is listed exactly if it stands before it
    have horder : ∀ (j : Nat) (y : Oper × Rec), l[j]? = some y → j ≠ i → (meets ops (o, x) y = true → i < j → listed.getD j false = false) ∧ (meets ops y (o, x) = true → j < i → listed.getD j false = true) := by
      intro j y hy hne
      have hjl : j < l.length := (List.getElem?_eq_some_iff.1 hy).1
      refine ⟨fun hm hij => ?_, fun hm hji => ?_⟩
      · have h1 := below_of hok hjl
        simp only [Bool.and_eq_true, hy] at h1
        have h2 := below_of h1.2 hij
        rw [meetsAt_of hx hy hm] at h2
        simp only [Bool.not_true, Bool.false_or] at h2
        cases hlj : listed.getD j false with
        | false => rfl
        | true =>
          have := reach_flag (l := l.map (·.1)) (D := fun k => listed.getD k false = true) hcl 4 j i y.1 (by simp [hy]) (hcl j hlj y.1 (by simp [hy])) h2
          rw [hnf] at this
          cases this
      · have h1 := below_of hok hil
        simp only [Bool.and_eq_true, hx] at h1
        have h2 := below_of h1.2 hji
        rw [meetsAt_of hy hx hm] at h2
        simp only [Bool.not_true, Bool.false_or] at h2
        exact reach_flag (l := l.map (·.1)) (D := fun k => listed.getD k false = true) hcl 4 i j o hto hedges h2
    have hfl : ∀ (j : Nat) (y : Oper × Rec), l[j]? = some y → (meets ops (o, x) y = true ∧ meets ops y (o, x) = true) → listed.getD j false = Nat.blt j i := by
      intro j y hy hm
      by_cases hji : j = i
      · subst hji
        rw [hnf]
        exact (Bool.eq_false_iff.2 fun h => absurd (lt_of_blt h) (Nat.lt_irrefl _)).symm
      · rcases Nat.lt_or_gt_of_ne hji with h | h
        · rw [(horder j y hy hji).2 hm.2 h]
          exact (Nat.ble_eq_true_of_le h).symm
        · rw [(horder j y hy hji).1 hm.1 h]
          exact (Bool.eq_false_iff.2 fun h' => absurd (lt_of_blt h') (by omega)).symm
    have hgsT := hgs.2 (comp (fun j => listed.getD j false) (l.map (·.2.tw)) T) (comp (fun j => listed.getD j false) (l.map (·.2.upd)) O) (by
      intro d hd
      unfold Tab.get
      rw [comp_congr d (l.map (·.2.tw)) (fun j => listed.getD j false) (fun j => Nat.blt j i) T T rfl]
      intro j z hz hdz
      simp only [List.getElem?_map, Option.map_eq_some_iff] at hz
      obtain ⟨y, hy, rfl⟩ := hz
      refine hfl j y hy ?_
      have hky : keys y.2.tw = y.1.dst.toList := (hdr.at j y.1 y.2 (by simpa using hy)).2
      rw [hky] at hdz
      constructor
      · simp only [meets, Bool.or_eq_true]; exact .inl (.inl (.inl (.inr (intersects_of hdz hd))))
      · simp only [meets, Bool.or_eq_true]; exact .inl (.inl (.inl (.inl (.inl (intersects_of hdz hd)))))) (by
      intro r hr
      refine comp_congr r (l.map (·.2.upd)) (fun j => listed.getD j false) (fun j => Nat.blt j i) O O rfl ?_
      intro j z hz hdz
      simp only [List.getElem?_map, Option.map_eq_some_iff] at hz
      obtain ⟨y, hy, rfl⟩ := hz
      refine hfl j y hy ⟨?_, ?_⟩
      · simp only [meets, Bool.or_eq_true]; exact .inr (intersects_of hdz hr)
      · simp only [meets, Bool.or_eq_true]; exact .inl (.inl (.inr (intersects_of hdz hr)))) (by
      intro r hr
      have h1 := below_of hfr hil
      simp only [hx, List.all_eq_true, Bool.and_eq_true] at h1
      obtain ⟨⟨hT0, hO0⟩, hat⟩ := h1 r hr
      have hrec : ∀ (j : Nat) (y : Oper × Rec), l[j]? = some y → listed.getD j false = true → freshTB r y.2.tw = true ∧ freshOB r y.2.upd = true := by
        intro j y hy hf
        have hjl : j < l.length := (List.getElem?_eq_some_iff.1 hy).1
        have h2 := below_of hat hjl
        simp only [hy, Bool.or_eq_true, Bool.and_eq_true] at h2
        rcases h2 with (h3 | h3) | h3
        · have : j = i := Nat.eq_of_beq_eq_true h3
          subst this
          rw [hnf] at hf; cases hf
        · exact h3
        · exfalso
          have := reach_flag (l := l.map (·.1)) (D := fun k => listed.getD k false = true) hcl 4 j i y.1 (by simp [hy]) (hcl j hf y.1 (by simp [hy])) h3.2
          rw [hnf] at this; cases this
      refine ⟨fun d s hl => ?_, fun k z hl => ?_⟩
      · rcases look_comp _ _ _ hl with h3 | ⟨j, z, hz, hf, hl'⟩
        · exact freshT_of hT0 h3
        · simp only [List.getElem?_map, Option.map_eq_some_iff] at hz
          obtain ⟨y, hy, rfl⟩ := hz
          exact freshT_of (hrec j y hy hf).1 hl'
      · rcases look_comp _ _ _ hl with h3 | ⟨j, z', hz, hf, hl'⟩
        · exact freshO_of hO0 h3
        · simp only [List.getElem?_map, Option.map_eq_some_iff] at hz
          obtain ⟨y, hy, rfl⟩ := hz
          exact freshO_of (hrec j y hy hf).2 hl') a w hs
    have hnext : ∀ a' w', Sat E (x.tw ++ comp (fun j => listed.getD j false) (l.map (·.2.tw)) T) (x.upd ++ comp (fun j => listed.getD j false) (l.map (·.2.upd)) O) a' w' →
        wpAnyIn (fc E.round) 0 P .any ops Q fuel (listed.setIfInBounds i true) a' w' := by
      intro a' w' hs'
      have hget : ∀ j, (listed.setIfInBounds i true).getD j false = (listed.getD j false || Nat.beq j i) := by
        intro j
        by_cases hji : j = i
        · subst hji
          simp [Array.getD_eq_getD_getElem?, hi']
        · have hb : Nat.beq j i = false := by
            cases hb : Nat.beq j i with
            | false => rfl
            | true => exact absurd (Nat.eq_of_beq_eq_true hb) hji
          simp [Array.getD_eq_getD_getElem?, Array.getElem?_setIfInBounds_ne (Ne.symm hji), hb]
      refine ih _ a' w' (by simp [hls]) ?_ ?_ ?_ ?_
      · intro j hj o' ho' e he hb
        rw [hget] at hj ⊢
        simp only [Bool.or_eq_true] at hj
        rcases hj with hj | hj
        · rw [hcl0 j hj o' ho' e he hb]; rfl
        · have : j = i := Nat.eq_of_beq_eq_true hj
          subst this
          rw [List.getElem?_append_left (by simpa using hil), hto] at ho'
          cases ho'
          rw [hedges e he hb]; rfl
      · intro t ht
        rw [hget, htail t ht, Bool.false_or]
        exact Bool.eq_false_iff.2 fun h => by have := Nat.eq_of_beq_eq_true h; omega
      · have : ((listed.setIfInBounds i true).toList.filter id).length = (listed.toList.filter id).length + 1 := by
          rw [Array.toList_setIfInBounds]
          have hli : listed.toList[i]? = some false := by
            have h0 : listed[i]? = some false := by
              rw [Array.getElem?_eq_getElem hi']
              simp [Array.getD_eq_getD_getElem?, Array.getElem?_eq_getElem hi'] at hnf
              rw [hnf]
            simpa using h0
          exact filter_set _ _ hli
        omega
      · have hT : ∀ d, look (comp (fun j => listed.getD j false || Nat.beq j i) (l.map (·.2.tw)) T) d = look (x.tw ++ comp (fun j => listed.getD j false) (l.map (·.2.tw)) T) d := by
          intro d
          refine comp_add d (l.map (·.2.tw)) i x.tw (fun j => listed.getD j false) T (by simp [hx]) hnf ?_
          intro j z hz hij hfj k hk hkz
          simp only [List.getElem?_map, Option.map_eq_some_iff] at hz
          obtain ⟨y, hy, rfl⟩ := hz
          have hky : keys y.2.tw = y.1.dst.toList := (hdr.at j y.1 y.2 (by simpa using hy)).2
          rw [hkeys] at hk
          rw [hky] at hkz
          have hm : meets ops (o, x) y = true := by simp only [meets, Bool.or_eq_true]; exact .inl (.inl (.inl (.inl (.inr (intersects_of hk hkz)))))
          rw [(horder j y hy (by omega)).1 hm hij] at hfj
          cases hfj
        have hO : ∀ r, look (comp (fun j => listed.getD j false || Nat.beq j i) (l.map (·.2.upd)) O) r = look (x.upd ++ comp (fun j => listed.getD j false) (l.map (·.2.upd)) O) r := by
          intro r
          refine comp_add r (l.map (·.2.upd)) i x.upd (fun j => listed.getD j false) O (by simp [hx]) hnf ?_
          intro j z hz hij hfj k hk hkz
          simp only [List.getElem?_map, Option.map_eq_some_iff] at hz
          obtain ⟨y, hy, rfl⟩ := hz
          have hm : meets ops (o, x) y = true := by simp only [meets, Bool.or_eq_true]; exact .inl (.inr (intersects_of hk hkz))
          rw [(horder j y hy (by omega)).1 hm hij] at hfj
          cases hfj
        simp only [hget]
        exact Sat.congr (fun d => by unfold Tab.get; rw [hT]) hO hs'
    unfold wpOpIn
    simp only [hoi]
    split
    · rename_i hw
      rw [if_pos hw] at hgsT
      exact Oper.wp_in _ hgs.1 hgsT hnext
    · rename_i hw
      rw [if_neg hw] at hgsT
      exact ⟨fun _ _ => trivial, hnext _ _ hgsT⟩
theorem dr_region_tail {Q : Exit → Act → World → Prop} {id : Nat} {l : List (Oper × Rec)} {tl : List Oper} {T : Tab} {O : Own} (hm : P.follows .mixedOrders = true) (hops : ops = (l.map (·.1) ++ tl).toArray) (hdr : DR P E ops l T O) (hok : drawOk ops l = true) (hfr : freshOk l T O = true) (hne : 0 < tl.length)
    (hback : ∀ (j : Nat) o, (l.map (·.1) ++ tl)[j]? = some o → ∀ e ∈ o.after.toList, Region.binds .any e = true → e.on < j)
    (hre : ∀ i j : Nat, l.length ≤ i → j < i → i < l.length + tl.length → reach (l.map (·.1) ++ tl) 12 i j = true)
    (hQ : ∀ a w, Sat E (comp (fun _ => true) (l.map (·.2.tw)) T) (comp (fun _ => true) (l.map (·.2.upd)) O) a w → wpListIn (fc E.round) 0 P ops Q tl a w) : SQ E T O ((Code.region id ops true).wpIn (fc E.round) 0 P Q) := by
  intro a w hs
  refine wpIn_region_any hm ?_
  have hsz : ops.size = l.length + tl.length := by rw [hops]; simp
  have hf : ∀ j, (Array.replicate ops.size false).getD j false = false := by
    intro j
    simp [Array.getD_eq_getD_getElem?, Array.getElem?_replicate]
    split <;> simp
  refine draw_tl hops hdr hok hfr hne hback hre hQ ops.size _ a _ (by simp [hsz]) (fun j hj => ?_) (fun t _ => hf _) (by omega) ?_
  · rw [hf] at hj; cases hj
  · have c0 : ∀ {α : Type} (xs : List (List (Nat × α))) (fl : Nat → Bool), (∀ j, fl j = false) → ∀ A, comp fl xs A = A := by
      intro α xs
      induction xs with
      | nil => intro fl _ A; rfl
      | cons y ys ih => intro fl hf A; unfold comp; simp only [hf 0]; exact ih _ (fun j => hf (j + 1)) A
    rw [c0 _ _ hf, c0 _ _ hf]
    exact hs.drew
end
/-- The last operations stand behind all others. -/
def tailOk (L : List Oper) (n : Nat) : Bool :=
  (below L.length fun j => match L[j]? with | some o => o.after.toList.all fun e => !Region.binds .any e || Nat.blt e.on j | none => true) &&
  (below L.length fun i => Nat.blt i n || below i fun j => reach L 12 i j)
section
variable {P : Program} {E : Env} {id : Nat} {L l : List Oper} {Q : Exit → Act → World → Prop} {rpre : List (Oper × Rec)} {T0 T : Tab} {O0 O : Own} {o : Oper}
theorem dq_tail (hm : P.follows .mixedOrders = true) (hok : (drawOk L.toArray rpre.reverse && freshOk rpre.reverse T0 O0 && tailOk L rpre.length) = true) (h : LSQ P E L.toArray Q (o :: l) T O) : DRQ P E id L Q rpre (o :: l) T0 O0 T O := by
  refine ⟨fun hL hp => ?_⟩
  simp only [Bool.and_eq_true, tailOk] at hok
  obtain ⟨⟨h1, h2⟩, h3, h4⟩ := hok
  refine dr_region_tail (l := rpre.reverse) (tl := o :: l) hm (by rw [hL]) hp.dr h1 h2 (by simp) (fun j o' ho e he hb => ?_) (fun i j hi hj hlt => ?_) fun a w hs => h.sq a w (Sat.congr hp.tab hp.own hs)
  · rw [← hL] at ho
    have hj := (List.getElem?_eq_some_iff.1 ho).1
    have := below_of h3 hj
    simp only [ho, List.all_eq_true] at this
    have h5 := this e he
    rw [hb] at h5
    simp only [Bool.not_true, Bool.false_or] at h5
    exact lt_of_blt h5
  · rw [← hL]
    have hl : L.length = rpre.reverse.length + (o :: l).length := by rw [hL]; simp
    have h5 := below_of h4 (show i < L.length by omega)
    simp only [Bool.or_eq_true] at h5
    rcases h5 with h5 | h5
    · have := lt_of_blt h5
      simp only [List.length_reverse] at hi
      omega
    · exact below_of h5 hj
end
end Go.Vc
namespace Go.Proofs.YtdoppiajbpmmkaaGreat
open Go Go.Vc Go.RowKit
instance tc1 : CellTy Tryz.prog 1 := ⟨fun w => by kernel_rfl⟩
instance tn1 : SizeTy Tryz.prog 1 1 := ⟨fun w => by kernel_rfl⟩
instance tz1 : ZeroTy Tryz.prog 1 [.nilFunc] := ⟨.nilFunc, fun w => by kernel_rfl, rfl⟩
instance tc2 : CellTy Tryz.prog 2 := ⟨fun w => by kernel_rfl⟩
instance tn2 : SizeTy Tryz.prog 2 1 := ⟨fun w => by kernel_rfl⟩
instance tz2 : ZeroTy Tryz.prog 2 [.int .i64 0] := ⟨.int .i64 0, fun w => by kernel_rfl, rfl⟩
instance ti2 : IntTy Tryz.prog 2 .i64 := ⟨by kernel_rfl⟩
instance tc3 : CellTy Tryz.prog 3 := ⟨fun w => by kernel_rfl⟩
instance tn3 : SizeTy Tryz.prog 3 1 := ⟨fun w => by kernel_rfl⟩
instance tz3 : ZeroTy Tryz.prog 3 [.int .i64 0] := ⟨.int .i64 0, fun w => by kernel_rfl, rfl⟩
instance ti3 : IntTy Tryz.prog 3 .i64 := ⟨by kernel_rfl⟩
instance tc4 : CellTy Tryz.prog 4 := ⟨fun w => by kernel_rfl⟩
instance tn4 : SizeTy Tryz.prog 4 1 := ⟨fun w => by kernel_rfl⟩
instance tz4 : ZeroTy Tryz.prog 4 [.bool false] := ⟨.bool false, fun w => by kernel_rfl, rfl⟩
instance tb4 : BoolTy Tryz.prog 4 := ⟨by kernel_rfl⟩
instance tc5 : CellTy Tryz.prog 5 := ⟨fun w => by kernel_rfl⟩
instance tn5 : SizeTy Tryz.prog 5 1 := ⟨fun w => by kernel_rfl⟩
instance tz5 : ZeroTy Tryz.prog 5 [.int .u8 0] := ⟨.int .u8 0, fun w => by kernel_rfl, rfl⟩
instance ti5 : IntTy Tryz.prog 5 .u8 := ⟨by kernel_rfl⟩
instance tc6 : CellTy Tryz.prog 6 := ⟨fun w => by kernel_rfl⟩
instance tn6 : SizeTy Tryz.prog 6 1 := ⟨fun w => by kernel_rfl⟩
instance tz6 : ZeroTy Tryz.prog 6 [.int .u8 0] := ⟨.int .u8 0, fun w => by kernel_rfl, rfl⟩
instance ti6 : IntTy Tryz.prog 6 .u8 := ⟨by kernel_rfl⟩
instance ta7 : AggTy Tryz.prog 7 4 := ⟨fun w => by kernel_rfl, fun w => by kernel_rfl⟩
instance tn7 : SizeTy Tryz.prog 7 4 := ⟨fun w => by kernel_rfl⟩
instance tf7_0 : FldTy Tryz.prog 7 0 0 := ⟨fun b o w => by kernel_rfl⟩
instance tf7_1 : FldTy Tryz.prog 7 1 1 := ⟨fun b o w => by kernel_rfl⟩
instance tf7_2 : FldTy Tryz.prog 7 2 2 := ⟨fun b o w => by kernel_rfl⟩
instance tf7_3 : FldTy Tryz.prog 7 3 3 := ⟨fun b o w => by kernel_rfl⟩
instance tz7 : ZeroTy Tryz.prog 7 [.int .i64 0, .int .i64 0, .bool false, .int .u8 0] := ⟨.agg #[.int .i64 0, .int .i64 0, .bool false, .int .u8 0], fun w => by kernel_rfl, rfl⟩
instance ta8 : AggTy Tryz.prog 8 4 := ⟨fun w => by kernel_rfl, fun w => by kernel_rfl⟩
instance tn8 : SizeTy Tryz.prog 8 4 := ⟨fun w => by kernel_rfl⟩
instance tf8_0 : FldTy Tryz.prog 8 0 0 := ⟨fun b o w => by kernel_rfl⟩
instance tf8_1 : FldTy Tryz.prog 8 1 1 := ⟨fun b o w => by kernel_rfl⟩
instance tf8_2 : FldTy Tryz.prog 8 2 2 := ⟨fun b o w => by kernel_rfl⟩
instance tf8_3 : FldTy Tryz.prog 8 3 3 := ⟨fun b o w => by kernel_rfl⟩
instance tz8 : ZeroTy Tryz.prog 8 [.int .i64 0, .int .i64 0, .bool false, .int .u8 0] := ⟨.agg #[.int .i64 0, .int .i64 0, .bool false, .int .u8 0], fun w => by kernel_rfl, rfl⟩
instance tc9 : CellTy Tryz.prog 9 := ⟨fun w => by kernel_rfl⟩
instance tn9 : SizeTy Tryz.prog 9 1 := ⟨fun w => by kernel_rfl⟩
instance tz9 : ZeroTy Tryz.prog 9 [.string ⟨#[]⟩] := ⟨.string ⟨#[]⟩, fun w => by kernel_rfl, rfl⟩
instance tc10 : CellTy Tryz.prog 10 := ⟨fun w => by kernel_rfl⟩
instance tn10 : SizeTy Tryz.prog 10 1 := ⟨fun w => by kernel_rfl⟩
instance tz10 : ZeroTy Tryz.prog 10 [.string ⟨#[]⟩] := ⟨.string ⟨#[]⟩, fun w => by kernel_rfl, rfl⟩
instance tc11 : CellTy Tryz.prog 11 := ⟨fun w => by kernel_rfl⟩
instance tn11 : SizeTy Tryz.prog 11 1 := ⟨fun w => by kernel_rfl⟩
instance tz11 : ZeroTy Tryz.prog 11 [.string ⟨#[]⟩] := ⟨.string ⟨#[]⟩, fun w => by kernel_rfl, rfl⟩
instance tc12 : CellTy Tryz.prog 12 := ⟨fun w => by kernel_rfl⟩
instance tn12 : SizeTy Tryz.prog 12 1 := ⟨fun w => by kernel_rfl⟩
instance tz12 : ZeroTy Tryz.prog 12 [.int .u64 0] := ⟨.int .u64 0, fun w => by kernel_rfl, rfl⟩
instance ti12 : IntTy Tryz.prog 12 .u64 := ⟨by kernel_rfl⟩
instance ta13 : AggTy Tryz.prog 13 2 := ⟨fun w => by kernel_rfl, fun w => by kernel_rfl⟩
instance tn13 : SizeTy Tryz.prog 13 2 := ⟨fun w => by kernel_rfl⟩
instance tf13_0 : FldTy Tryz.prog 13 0 0 := ⟨fun b o w => by kernel_rfl⟩
instance tf13_1 : FldTy Tryz.prog 13 1 1 := ⟨fun b o w => by kernel_rfl⟩
instance tz13 : ZeroTy Tryz.prog 13 [.string ⟨#[]⟩, .int .u64 0] := ⟨.agg #[.string ⟨#[]⟩, .int .u64 0], fun w => by kernel_rfl, rfl⟩
instance ta14 : AggTy Tryz.prog 14 2 := ⟨fun w => by kernel_rfl, fun w => by kernel_rfl⟩
instance tn14 : SizeTy Tryz.prog 14 2 := ⟨fun w => by kernel_rfl⟩
instance tf14_0 : FldTy Tryz.prog 14 0 0 := ⟨fun b o w => by kernel_rfl⟩
instance tf14_1 : FldTy Tryz.prog 14 1 1 := ⟨fun b o w => by kernel_rfl⟩
instance tz14 : ZeroTy Tryz.prog 14 [.string ⟨#[]⟩, .int .u64 0] := ⟨.agg #[.string ⟨#[]⟩, .int .u64 0], fun w => by kernel_rfl, rfl⟩
instance tc15 : CellTy Tryz.prog 15 := ⟨fun w => by kernel_rfl⟩
instance tn15 : SizeTy Tryz.prog 15 1 := ⟨fun w => by kernel_rfl⟩
instance tz15 : ZeroTy Tryz.prog 15 [.pointer none] := ⟨.pointer none, fun w => by kernel_rfl, rfl⟩
instance tc16 : CellTy Tryz.prog 16 := ⟨fun w => by kernel_rfl⟩
instance tn16 : SizeTy Tryz.prog 16 1 := ⟨fun w => by kernel_rfl⟩
instance tz16 : ZeroTy Tryz.prog 16 [.pointer none] := ⟨.pointer none, fun w => by kernel_rfl, rfl⟩
instance tc17 : CellTy Tryz.prog 17 := ⟨fun w => by kernel_rfl⟩
instance tn17 : SizeTy Tryz.prog 17 1 := ⟨fun w => by kernel_rfl⟩
instance tz17 : ZeroTy Tryz.prog 17 [.pointer none] := ⟨.pointer none, fun w => by kernel_rfl, rfl⟩
instance ta18 : AggTy Tryz.prog 18 1 := ⟨fun w => by kernel_rfl, fun w => by kernel_rfl⟩
instance tn18 : SizeTy Tryz.prog 18 1 := ⟨fun w => by kernel_rfl⟩
instance tf18_0 : FldTy Tryz.prog 18 0 0 := ⟨fun b o w => by kernel_rfl⟩
instance tz18 : ZeroTy Tryz.prog 18 [.pointer none] := ⟨.agg #[.pointer none], fun w => by kernel_rfl, rfl⟩
instance ta19 : AggTy Tryz.prog 19 1 := ⟨fun w => by kernel_rfl, fun w => by kernel_rfl⟩
instance tn19 : SizeTy Tryz.prog 19 1 := ⟨fun w => by kernel_rfl⟩
instance tf19_0 : FldTy Tryz.prog 19 0 0 := ⟨fun b o w => by kernel_rfl⟩
instance tz19 : ZeroTy Tryz.prog 19 [.pointer none] := ⟨.agg #[.pointer none], fun w => by kernel_rfl, rfl⟩
instance tc20 : CellTy Tryz.prog 20 := ⟨fun w => by kernel_rfl⟩
instance tn20 : SizeTy Tryz.prog 20 1 := ⟨fun w => by kernel_rfl⟩
instance tz20 : ZeroTy Tryz.prog 20 [.nilIface] := ⟨.nilIface, fun w => by kernel_rfl, rfl⟩
instance tc21 : CellTy Tryz.prog 21 := ⟨fun w => by kernel_rfl⟩
instance tn21 : SizeTy Tryz.prog 21 1 := ⟨fun w => by kernel_rfl⟩
instance tz21 : ZeroTy Tryz.prog 21 [.int .i32 0] := ⟨.int .i32 0, fun w => by kernel_rfl, rfl⟩
instance ti21 : IntTy Tryz.prog 21 .i32 := ⟨by kernel_rfl⟩
instance tc22 : CellTy Tryz.prog 22 := ⟨fun w => by kernel_rfl⟩
instance tn22 : SizeTy Tryz.prog 22 1 := ⟨fun w => by kernel_rfl⟩
instance tz22 : ZeroTy Tryz.prog 22 [.slice none 0 0] := ⟨.slice none 0 0, fun w => by kernel_rfl, rfl⟩
theorem tq22 (x0 x1 x2 : Int) (w : World) : (Instr.buildSlice 22 1 #[(0, .agg #[.int .i64 x0, .int .i64 x1, .int .i64 x2])]).run Tryz.prog w = .ok (.slice (some ⟨w.heap.size, 0, none⟩) 1 1) (w.alloc (.cells #[.int .i64 x0, .int .i64 x1, .int .i64 x2] 67)) := by kernel_rfl
instance ts22 : SlTy Tryz.prog 22 67 3 := ⟨by kernel_rfl, fun w => by kernel_rfl⟩
instance ta23 : AggTy Tryz.prog 23 3 := ⟨fun w => by kernel_rfl, fun w => by kernel_rfl⟩
instance tn23 : SizeTy Tryz.prog 23 3 := ⟨fun w => by kernel_rfl⟩
instance tr23 : ArrTy Tryz.prog 23 3 3 1 := ⟨by kernel_rfl, fun w => by kernel_rfl⟩
instance te23 : EqTy Tryz.prog 23 3 := eqTy_array (e := 3) (by kernel_rfl) (i := (Tryz.prog.info? 3).getD default) (by kernel_rfl) (by kernel_rfl) (by kernel_rfl) (by kernel_rfl)
instance tz23 : ZeroTy Tryz.prog 23 [.int .i64 0, .int .i64 0, .int .i64 0] := ⟨.agg #[.int .i64 0, .int .i64 0, .int .i64 0], fun w => by kernel_rfl, rfl⟩
instance tc24 : CellTy Tryz.prog 24 := ⟨fun w => by kernel_rfl⟩
instance tn24 : SizeTy Tryz.prog 24 1 := ⟨fun w => by kernel_rfl⟩
instance tz24 : ZeroTy Tryz.prog 24 [.nilFunc] := ⟨.nilFunc, fun w => by kernel_rfl, rfl⟩
instance tc25 : CellTy Tryz.prog 25 := ⟨fun w => by kernel_rfl⟩
instance tn25 : SizeTy Tryz.prog 25 1 := ⟨fun w => by kernel_rfl⟩
instance tz25 : ZeroTy Tryz.prog 25 [.nilFunc] := ⟨.nilFunc, fun w => by kernel_rfl, rfl⟩
instance tc26 : CellTy Tryz.prog 26 := ⟨fun w => by kernel_rfl⟩
instance tn26 : SizeTy Tryz.prog 26 1 := ⟨fun w => by kernel_rfl⟩
instance tz26 : ZeroTy Tryz.prog 26 [.slice none 0 0] := ⟨.slice none 0 0, fun w => by kernel_rfl, rfl⟩
theorem tq26 (x0 : Int) (w : World) : (Instr.buildSlice 26 1 #[(0, .int .i64 x0)]).run Tryz.prog w = .ok (.slice (some ⟨w.heap.size, 0, none⟩) 1 1) (w.alloc (.cells #[.int .i64 x0] 3)) := by kernel_rfl
instance ts26 : SlTy Tryz.prog 26 3 1 := ⟨by kernel_rfl, fun w => by kernel_rfl⟩
instance tc27 : CellTy Tryz.prog 27 := ⟨fun w => by kernel_rfl⟩
instance tn27 : SizeTy Tryz.prog 27 1 := ⟨fun w => by kernel_rfl⟩
instance tz27 : ZeroTy Tryz.prog 27 [.int .i64 0] := ⟨.int .i64 0, fun w => by kernel_rfl, rfl⟩
instance ti27 : IntTy Tryz.prog 27 .i64 := ⟨by kernel_rfl⟩
instance tc29 : CellTy Tryz.prog 29 := ⟨fun w => by kernel_rfl⟩
instance tn29 : SizeTy Tryz.prog 29 1 := ⟨fun w => by kernel_rfl⟩
instance tz29 : ZeroTy Tryz.prog 29 [.nilFunc] := ⟨.nilFunc, fun w => by kernel_rfl, rfl⟩
instance tc31 : CellTy Tryz.prog 31 := ⟨fun w => by kernel_rfl⟩
instance tn31 : SizeTy Tryz.prog 31 1 := ⟨fun w => by kernel_rfl⟩
instance tz31 : ZeroTy Tryz.prog 31 [.nilFunc] := ⟨.nilFunc, fun w => by kernel_rfl, rfl⟩
instance tc32 : CellTy Tryz.prog 32 := ⟨fun w => by kernel_rfl⟩
instance tn32 : SizeTy Tryz.prog 32 1 := ⟨fun w => by kernel_rfl⟩
instance tz32 : ZeroTy Tryz.prog 32 [.nilFunc] := ⟨.nilFunc, fun w => by kernel_rfl, rfl⟩
instance tc33 : CellTy Tryz.prog 33 := ⟨fun w => by kernel_rfl⟩
instance tn33 : SizeTy Tryz.prog 33 1 := ⟨fun w => by kernel_rfl⟩
instance tz33 : ZeroTy Tryz.prog 33 [.nilFunc] := ⟨.nilFunc, fun w => by kernel_rfl, rfl⟩
instance tc35 : CellTy Tryz.prog 35 := ⟨fun w => by kernel_rfl⟩
instance tn35 : SizeTy Tryz.prog 35 1 := ⟨fun w => by kernel_rfl⟩
instance tz35 : ZeroTy Tryz.prog 35 [.nilFunc] := ⟨.nilFunc, fun w => by kernel_rfl, rfl⟩
instance tc37 : CellTy Tryz.prog 37 := ⟨fun w => by kernel_rfl⟩
instance tn37 : SizeTy Tryz.prog 37 1 := ⟨fun w => by kernel_rfl⟩
instance tz37 : ZeroTy Tryz.prog 37 [.nilFunc] := ⟨.nilFunc, fun w => by kernel_rfl, rfl⟩
instance tc38 : CellTy Tryz.prog 38 := ⟨fun w => by kernel_rfl⟩
instance tn38 : SizeTy Tryz.prog 38 1 := ⟨fun w => by kernel_rfl⟩
instance tz38 : ZeroTy Tryz.prog 38 [.slice none 0 0] := ⟨.slice none 0 0, fun w => by kernel_rfl, rfl⟩
theorem tq38 (x0 x1 : Int) (w : World) : (Instr.buildSlice 38 1 #[(0, .agg #[.int .i64 x0, .int .i64 x1])]).run Tryz.prog w = .ok (.slice (some ⟨w.heap.size, 0, none⟩) 1 1) (w.alloc (.cells #[.int .i64 x0, .int .i64 x1] 44)) := by kernel_rfl
instance ts38 : SlTy Tryz.prog 38 44 2 := ⟨by kernel_rfl, fun w => by kernel_rfl⟩
instance tc40 : CellTy Tryz.prog 40 := ⟨fun w => by kernel_rfl⟩
instance tn40 : SizeTy Tryz.prog 40 1 := ⟨fun w => by kernel_rfl⟩
instance tz40 : ZeroTy Tryz.prog 40 [.nilFunc] := ⟨.nilFunc, fun w => by kernel_rfl, rfl⟩
instance tc42 : CellTy Tryz.prog 42 := ⟨fun w => by kernel_rfl⟩
instance tn42 : SizeTy Tryz.prog 42 1 := ⟨fun w => by kernel_rfl⟩
instance tz42 : ZeroTy Tryz.prog 42 [.nilFunc] := ⟨.nilFunc, fun w => by kernel_rfl, rfl⟩
instance tc43 : CellTy Tryz.prog 43 := ⟨fun w => by kernel_rfl⟩
instance tn43 : SizeTy Tryz.prog 43 1 := ⟨fun w => by kernel_rfl⟩
instance tz43 : ZeroTy Tryz.prog 43 [.nilFunc] := ⟨.nilFunc, fun w => by kernel_rfl, rfl⟩
instance ta44 : AggTy Tryz.prog 44 2 := ⟨fun w => by kernel_rfl, fun w => by kernel_rfl⟩
instance tn44 : SizeTy Tryz.prog 44 2 := ⟨fun w => by kernel_rfl⟩
instance tr44 : ArrTy Tryz.prog 44 2 3 1 := ⟨by kernel_rfl, fun w => by kernel_rfl⟩
instance te44 : EqTy Tryz.prog 44 2 := eqTy_array (e := 3) (by kernel_rfl) (i := (Tryz.prog.info? 3).getD default) (by kernel_rfl) (by kernel_rfl) (by kernel_rfl) (by kernel_rfl)
theorem tb44 (x0 x1 : Int) : Tryz.prog.built 44 [(0, .int .i64 x0), (1, .int .i64 x1)] = some #[.int .i64 x0, .int .i64 x1] := by kernel_rfl
instance tz44 : ZeroTy Tryz.prog 44 [.int .i64 0, .int .i64 0] := ⟨.agg #[.int .i64 0, .int .i64 0], fun w => by kernel_rfl, rfl⟩
instance ta45 : AggTy Tryz.prog 45 5 := ⟨fun w => by kernel_rfl, fun w => by kernel_rfl⟩
instance tn45 : SizeTy Tryz.prog 45 5 := ⟨fun w => by kernel_rfl⟩
instance tf45_0 : FldTy Tryz.prog 45 0 0 := ⟨fun b o w => by kernel_rfl⟩
instance tf45_1 : FldTy Tryz.prog 45 1 3 := ⟨fun b o w => by kernel_rfl⟩
instance tf45_2 : FldTy Tryz.prog 45 2 4 := ⟨fun b o w => by kernel_rfl⟩
instance tz45 : ZeroTy Tryz.prog 45 [.int .i64 0, .int .i64 0, .int .i64 0, .int .i64 0, .slice none 0 0] := ⟨.agg #[.int .i64 0, .int .i64 0, .int .i64 0, .int .i64 0, .slice none 0 0], fun w => by kernel_rfl, rfl⟩
instance ta46 : AggTy Tryz.prog 46 5 := ⟨fun w => by kernel_rfl, fun w => by kernel_rfl⟩
instance tn46 : SizeTy Tryz.prog 46 5 := ⟨fun w => by kernel_rfl⟩
instance tf46_0 : FldTy Tryz.prog 46 0 0 := ⟨fun b o w => by kernel_rfl⟩
instance tf46_1 : FldTy Tryz.prog 46 1 3 := ⟨fun b o w => by kernel_rfl⟩
instance tf46_2 : FldTy Tryz.prog 46 2 4 := ⟨fun b o w => by kernel_rfl⟩
instance tz46 : ZeroTy Tryz.prog 46 [.int .i64 0, .int .i64 0, .int .i64 0, .int .i64 0, .slice none 0 0] := ⟨.agg #[.int .i64 0, .int .i64 0, .int .i64 0, .int .i64 0, .slice none 0 0], fun w => by kernel_rfl, rfl⟩
instance ta47 : AggTy Tryz.prog 47 10 := ⟨fun w => by kernel_rfl, fun w => by kernel_rfl⟩
instance tn47 : SizeTy Tryz.prog 47 10 := ⟨fun w => by kernel_rfl⟩
instance tr47 : ArrTy Tryz.prog 47 2 46 5 := ⟨by kernel_rfl, fun w => by kernel_rfl⟩
instance tz47 : ZeroTy Tryz.prog 47 [.int .i64 0, .int .i64 0, .int .i64 0, .int .i64 0, .slice none 0 0, .int .i64 0, .int .i64 0, .int .i64 0, .int .i64 0, .slice none 0 0] := ⟨.agg #[.int .i64 0, .int .i64 0, .int .i64 0, .int .i64 0, .slice none 0 0, .int .i64 0, .int .i64 0, .int .i64 0, .int .i64 0, .slice none 0 0], fun w => by kernel_rfl, rfl⟩
instance tc48 : CellTy Tryz.prog 48 := ⟨fun w => by kernel_rfl⟩
instance tn48 : SizeTy Tryz.prog 48 1 := ⟨fun w => by kernel_rfl⟩
instance tz48 : ZeroTy Tryz.prog 48 [.slice none 0 0] := ⟨.slice none 0 0, fun w => by kernel_rfl, rfl⟩
instance ts48 : SlTy Tryz.prog 48 46 5 := ⟨by kernel_rfl, fun w => by kernel_rfl⟩
instance tc50 : CellTy Tryz.prog 50 := ⟨fun w => by kernel_rfl⟩
instance tn50 : SizeTy Tryz.prog 50 1 := ⟨fun w => by kernel_rfl⟩
instance tz50 : ZeroTy Tryz.prog 50 [.nilFunc] := ⟨.nilFunc, fun w => by kernel_rfl, rfl⟩
instance tc51 : CellTy Tryz.prog 51 := ⟨fun w => by kernel_rfl⟩
instance tn51 : SizeTy Tryz.prog 51 1 := ⟨fun w => by kernel_rfl⟩
instance tz51 : ZeroTy Tryz.prog 51 [.slice none 0 0] := ⟨.slice none 0 0, fun w => by kernel_rfl, rfl⟩
instance ts51 : SlTy Tryz.prog 51 58 5 := ⟨by kernel_rfl, fun w => by kernel_rfl⟩
instance tc53 : CellTy Tryz.prog 53 := ⟨fun w => by kernel_rfl⟩
instance tn53 : SizeTy Tryz.prog 53 1 := ⟨fun w => by kernel_rfl⟩
instance tz53 : ZeroTy Tryz.prog 53 [.nilFunc] := ⟨.nilFunc, fun w => by kernel_rfl, rfl⟩
instance tc54 : CellTy Tryz.prog 54 := ⟨fun w => by kernel_rfl⟩
instance tn54 : SizeTy Tryz.prog 54 1 := ⟨fun w => by kernel_rfl⟩
instance tz54 : ZeroTy Tryz.prog 54 [.nilFunc] := ⟨.nilFunc, fun w => by kernel_rfl, rfl⟩
instance tc55 : CellTy Tryz.prog 55 := ⟨fun w => by kernel_rfl⟩
instance tn55 : SizeTy Tryz.prog 55 1 := ⟨fun w => by kernel_rfl⟩
instance tz55 : ZeroTy Tryz.prog 55 [.nilFunc] := ⟨.nilFunc, fun w => by kernel_rfl, rfl⟩
instance tc56 : CellTy Tryz.prog 56 := ⟨fun w => by kernel_rfl⟩
instance tn56 : SizeTy Tryz.prog 56 1 := ⟨fun w => by kernel_rfl⟩
instance tz56 : ZeroTy Tryz.prog 56 [.nilFunc] := ⟨.nilFunc, fun w => by kernel_rfl, rfl⟩
instance tc57 : CellTy Tryz.prog 57 := ⟨fun w => by kernel_rfl⟩
instance tn57 : SizeTy Tryz.prog 57 1 := ⟨fun w => by kernel_rfl⟩
instance tz57 : ZeroTy Tryz.prog 57 [.nilFunc] := ⟨.nilFunc, fun w => by kernel_rfl, rfl⟩
instance ta58 : AggTy Tryz.prog 58 5 := ⟨fun w => by kernel_rfl, fun w => by kernel_rfl⟩
instance tn58 : SizeTy Tryz.prog 58 5 := ⟨fun w => by kernel_rfl⟩
instance tf58_0 : FldTy Tryz.prog 58 0 0 := ⟨fun b o w => by kernel_rfl⟩
instance tf58_1 : FldTy Tryz.prog 58 1 3 := ⟨fun b o w => by kernel_rfl⟩
instance tf58_2 : FldTy Tryz.prog 58 2 4 := ⟨fun b o w => by kernel_rfl⟩
instance tz58 : ZeroTy Tryz.prog 58 [.int .i64 0, .int .i64 0, .int .i64 0, .int .i64 0, .slice none 0 0] := ⟨.agg #[.int .i64 0, .int .i64 0, .int .i64 0, .int .i64 0, .slice none 0 0], fun w => by kernel_rfl, rfl⟩
instance tc59 : CellTy Tryz.prog 59 := ⟨fun w => by kernel_rfl⟩
instance tn59 : SizeTy Tryz.prog 59 1 := ⟨fun w => by kernel_rfl⟩
instance tz59 : ZeroTy Tryz.prog 59 [.nilFunc] := ⟨.nilFunc, fun w => by kernel_rfl, rfl⟩
instance tc60 : CellTy Tryz.prog 60 := ⟨fun w => by kernel_rfl⟩
instance tn60 : SizeTy Tryz.prog 60 1 := ⟨fun w => by kernel_rfl⟩
instance tz60 : ZeroTy Tryz.prog 60 [.nilFunc] := ⟨.nilFunc, fun w => by kernel_rfl, rfl⟩
instance tc61 : CellTy Tryz.prog 61 := ⟨fun w => by kernel_rfl⟩
instance tn61 : SizeTy Tryz.prog 61 1 := ⟨fun w => by kernel_rfl⟩
instance tz61 : ZeroTy Tryz.prog 61 [.nilFunc] := ⟨.nilFunc, fun w => by kernel_rfl, rfl⟩
instance tc62 : CellTy Tryz.prog 62 := ⟨fun w => by kernel_rfl⟩
instance tn62 : SizeTy Tryz.prog 62 1 := ⟨fun w => by kernel_rfl⟩
instance tz62 : ZeroTy Tryz.prog 62 [.nilFunc] := ⟨.nilFunc, fun w => by kernel_rfl, rfl⟩
instance tc63 : CellTy Tryz.prog 63 := ⟨fun w => by kernel_rfl⟩
instance tn63 : SizeTy Tryz.prog 63 1 := ⟨fun w => by kernel_rfl⟩
instance tz63 : ZeroTy Tryz.prog 63 [.nilFunc] := ⟨.nilFunc, fun w => by kernel_rfl, rfl⟩
instance tc64 : CellTy Tryz.prog 64 := ⟨fun w => by kernel_rfl⟩
instance tn64 : SizeTy Tryz.prog 64 1 := ⟨fun w => by kernel_rfl⟩
instance tz64 : ZeroTy Tryz.prog 64 [.nilFunc] := ⟨.nilFunc, fun w => by kernel_rfl, rfl⟩
instance tc65 : CellTy Tryz.prog 65 := ⟨fun w => by kernel_rfl⟩
instance tn65 : SizeTy Tryz.prog 65 1 := ⟨fun w => by kernel_rfl⟩
instance tz65 : ZeroTy Tryz.prog 65 [.nilFunc] := ⟨.nilFunc, fun w => by kernel_rfl, rfl⟩
instance ta66 : AggTy Tryz.prog 66 3 := ⟨fun w => by kernel_rfl, fun w => by kernel_rfl⟩
instance tn66 : SizeTy Tryz.prog 66 3 := ⟨fun w => by kernel_rfl⟩
instance tf66_0 : FldTy Tryz.prog 66 0 0 := ⟨fun b o w => by kernel_rfl⟩
instance tf66_1 : FldTy Tryz.prog 66 1 1 := ⟨fun b o w => by kernel_rfl⟩
instance tf66_2 : FldTy Tryz.prog 66 2 2 := ⟨fun b o w => by kernel_rfl⟩
instance te66 : EqTy Tryz.prog 66 3 := eqTy_struct (by kernel_rfl) (by kernel_rfl) (by kernel_rfl) (by kernel_rfl) (by kernel_rfl)
instance tz66 : ZeroTy Tryz.prog 66 [.int .i64 0, .int .i64 0, .int .i64 0] := ⟨.agg #[.int .i64 0, .int .i64 0, .int .i64 0], fun w => by kernel_rfl, rfl⟩
instance ta67 : AggTy Tryz.prog 67 3 := ⟨fun w => by kernel_rfl, fun w => by kernel_rfl⟩
instance tn67 : SizeTy Tryz.prog 67 3 := ⟨fun w => by kernel_rfl⟩
instance tf67_0 : FldTy Tryz.prog 67 0 0 := ⟨fun b o w => by kernel_rfl⟩
instance tf67_1 : FldTy Tryz.prog 67 1 1 := ⟨fun b o w => by kernel_rfl⟩
instance tf67_2 : FldTy Tryz.prog 67 2 2 := ⟨fun b o w => by kernel_rfl⟩
instance te67 : EqTy Tryz.prog 67 3 := eqTy_struct (by kernel_rfl) (by kernel_rfl) (by kernel_rfl) (by kernel_rfl) (by kernel_rfl)
theorem tb67 (x0 x1 x2 : Int) : Tryz.prog.built 67 [(0, .int .i64 x0), (1, .int .i64 x1), (2, .int .i64 x2)] = some #[.int .i64 x0, .int .i64 x1, .int .i64 x2] := by kernel_rfl
instance tz67 : ZeroTy Tryz.prog 67 [.int .i64 0, .int .i64 0, .int .i64 0] := ⟨.agg #[.int .i64 0, .int .i64 0, .int .i64 0], fun w => by kernel_rfl, rfl⟩
instance tc68 : CellTy Tryz.prog 68 := ⟨fun w => by kernel_rfl⟩
instance tn68 : SizeTy Tryz.prog 68 1 := ⟨fun w => by kernel_rfl⟩
instance tz68 : ZeroTy Tryz.prog 68 [.nilFunc] := ⟨.nilFunc, fun w => by kernel_rfl, rfl⟩
instance tc69 : CellTy Tryz.prog 69 := ⟨fun w => by kernel_rfl⟩
instance tn69 : SizeTy Tryz.prog 69 1 := ⟨fun w => by kernel_rfl⟩
instance tz69 : ZeroTy Tryz.prog 69 [.nilFunc] := ⟨.nilFunc, fun w => by kernel_rfl, rfl⟩
instance tc70 : CellTy Tryz.prog 70 := ⟨fun w => by kernel_rfl⟩
instance tn70 : SizeTy Tryz.prog 70 1 := ⟨fun w => by kernel_rfl⟩
instance tz70 : ZeroTy Tryz.prog 70 [.nilFunc] := ⟨.nilFunc, fun w => by kernel_rfl, rfl⟩
instance tc71 : CellTy Tryz.prog 71 := ⟨fun w => by kernel_rfl⟩
instance tn71 : SizeTy Tryz.prog 71 1 := ⟨fun w => by kernel_rfl⟩
instance tz71 : ZeroTy Tryz.prog 71 [.nilFunc] := ⟨.nilFunc, fun w => by kernel_rfl, rfl⟩
instance tc73 : CellTy Tryz.prog 73 := ⟨fun w => by kernel_rfl⟩
instance tn73 : SizeTy Tryz.prog 73 1 := ⟨fun w => by kernel_rfl⟩
instance tz73 : ZeroTy Tryz.prog 73 [.nilFunc] := ⟨.nilFunc, fun w => by kernel_rfl, rfl⟩
instance tc74 : CellTy Tryz.prog 74 := ⟨fun w => by kernel_rfl⟩
instance tn74 : SizeTy Tryz.prog 74 1 := ⟨fun w => by kernel_rfl⟩
instance tz74 : ZeroTy Tryz.prog 74 [.nilFunc] := ⟨.nilFunc, fun w => by kernel_rfl, rfl⟩
instance tc75 : CellTy Tryz.prog 75 := ⟨fun w => by kernel_rfl⟩
instance tn75 : SizeTy Tryz.prog 75 1 := ⟨fun w => by kernel_rfl⟩
instance tz75 : ZeroTy Tryz.prog 75 [.nilFunc] := ⟨.nilFunc, fun w => by kernel_rfl, rfl⟩
instance tc76 : CellTy Tryz.prog 76 := ⟨fun w => by kernel_rfl⟩
instance tn76 : SizeTy Tryz.prog 76 1 := ⟨fun w => by kernel_rfl⟩
instance tz76 : ZeroTy Tryz.prog 76 [.nilFunc] := ⟨.nilFunc, fun w => by kernel_rfl, rfl⟩
instance tc78 : CellTy Tryz.prog 78 := ⟨fun w => by kernel_rfl⟩
instance tn78 : SizeTy Tryz.prog 78 1 := ⟨fun w => by kernel_rfl⟩
instance tz78 : ZeroTy Tryz.prog 78 [.nilFunc] := ⟨.nilFunc, fun w => by kernel_rfl, rfl⟩
instance tc79 : CellTy Tryz.prog 79 := ⟨fun w => by kernel_rfl⟩
instance tn79 : SizeTy Tryz.prog 79 1 := ⟨fun w => by kernel_rfl⟩
instance tz79 : ZeroTy Tryz.prog 79 [.nilFunc] := ⟨.nilFunc, fun w => by kernel_rfl, rfl⟩
instance ta80 : AggTy Tryz.prog 80 3 := ⟨fun w => by kernel_rfl, fun w => by kernel_rfl⟩
instance tn80 : SizeTy Tryz.prog 80 3 := ⟨fun w => by kernel_rfl⟩
instance tr80 : ArrTy Tryz.prog 80 3 3 1 := ⟨by kernel_rfl, fun w => by kernel_rfl⟩
instance te80 : EqTy Tryz.prog 80 3 := eqTy_array (e := 3) (by kernel_rfl) (i := (Tryz.prog.info? 3).getD default) (by kernel_rfl) (by kernel_rfl) (by kernel_rfl) (by kernel_rfl)
theorem tb80 (x0 x1 x2 : Int) : Tryz.prog.built 80 [(0, .int .i64 x0), (1, .int .i64 x1), (2, .int .i64 x2)] = some #[.int .i64 x0, .int .i64 x1, .int .i64 x2] := by kernel_rfl
instance tz80 : ZeroTy Tryz.prog 80 [.int .i64 0, .int .i64 0, .int .i64 0] := ⟨.agg #[.int .i64 0, .int .i64 0, .int .i64 0], fun w => by kernel_rfl, rfl⟩
instance tc81 : CellTy Tryz.prog 81 := ⟨fun w => by kernel_rfl⟩
instance tn81 : SizeTy Tryz.prog 81 1 := ⟨fun w => by kernel_rfl⟩
instance tz81 : ZeroTy Tryz.prog 81 [.slice none 0 0] := ⟨.slice none 0 0, fun w => by kernel_rfl, rfl⟩
theorem tq81 (x0 x1 x2 : Int) (w : World) : (Instr.buildSlice 81 1 #[(0, .agg #[.int .i64 x0, .int .i64 x1, .int .i64 x2])]).run Tryz.prog w = .ok (.slice (some ⟨w.heap.size, 0, none⟩) 1 1) (w.alloc (.cells #[.int .i64 x0, .int .i64 x1, .int .i64 x2] 80)) := by kernel_rfl
instance ts81 : SlTy Tryz.prog 81 80 3 := ⟨by kernel_rfl, fun w => by kernel_rfl⟩
instance tc82 : CellTy Tryz.prog 82 := ⟨fun w => by kernel_rfl⟩
instance tn82 : SizeTy Tryz.prog 82 1 := ⟨fun w => by kernel_rfl⟩
instance tz82 : ZeroTy Tryz.prog 82 [.nilFunc] := ⟨.nilFunc, fun w => by kernel_rfl, rfl⟩
instance tc83 : CellTy Tryz.prog 83 := ⟨fun w => by kernel_rfl⟩
instance tn83 : SizeTy Tryz.prog 83 1 := ⟨fun w => by kernel_rfl⟩
instance tz83 : ZeroTy Tryz.prog 83 [.nilFunc] := ⟨.nilFunc, fun w => by kernel_rfl, rfl⟩
instance tc84 : CellTy Tryz.prog 84 := ⟨fun w => by kernel_rfl⟩
instance tn84 : SizeTy Tryz.prog 84 1 := ⟨fun w => by kernel_rfl⟩
instance tz84 : ZeroTy Tryz.prog 84 [.nilFunc] := ⟨.nilFunc, fun w => by kernel_rfl, rfl⟩
instance tc86 : CellTy Tryz.prog 86 := ⟨fun w => by kernel_rfl⟩
instance tn86 : SizeTy Tryz.prog 86 1 := ⟨fun w => by kernel_rfl⟩
instance tz86 : ZeroTy Tryz.prog 86 [.nilFunc] := ⟨.nilFunc, fun w => by kernel_rfl, rfl⟩
instance tc88 : CellTy Tryz.prog 88 := ⟨fun w => by kernel_rfl⟩
instance tn88 : SizeTy Tryz.prog 88 1 := ⟨fun w => by kernel_rfl⟩
instance tz88 : ZeroTy Tryz.prog 88 [.nilFunc] := ⟨.nilFunc, fun w => by kernel_rfl, rfl⟩
instance tc89 : CellTy Tryz.prog 89 := ⟨fun w => by kernel_rfl⟩
instance tn89 : SizeTy Tryz.prog 89 1 := ⟨fun w => by kernel_rfl⟩
instance tz89 : ZeroTy Tryz.prog 89 [.nilFunc] := ⟨.nilFunc, fun w => by kernel_rfl, rfl⟩
instance tc90 : CellTy Tryz.prog 90 := ⟨fun w => by kernel_rfl⟩
instance tn90 : SizeTy Tryz.prog 90 1 := ⟨fun w => by kernel_rfl⟩
instance tz90 : ZeroTy Tryz.prog 90 [.nilFunc] := ⟨.nilFunc, fun w => by kernel_rfl, rfl⟩
instance tc91 : CellTy Tryz.prog 91 := ⟨fun w => by kernel_rfl⟩
instance tn91 : SizeTy Tryz.prog 91 1 := ⟨fun w => by kernel_rfl⟩
instance tz91 : ZeroTy Tryz.prog 91 [.nilFunc] := ⟨.nilFunc, fun w => by kernel_rfl, rfl⟩
instance tc92 : CellTy Tryz.prog 92 := ⟨fun w => by kernel_rfl⟩
instance tn92 : SizeTy Tryz.prog 92 1 := ⟨fun w => by kernel_rfl⟩
instance tz92 : ZeroTy Tryz.prog 92 [.nilFunc] := ⟨.nilFunc, fun w => by kernel_rfl, rfl⟩
instance tc93 : CellTy Tryz.prog 93 := ⟨fun w => by kernel_rfl⟩
instance tn93 : SizeTy Tryz.prog 93 1 := ⟨fun w => by kernel_rfl⟩
instance tz93 : ZeroTy Tryz.prog 93 [.nilFunc] := ⟨.nilFunc, fun w => by kernel_rfl, rfl⟩
instance tc94 : CellTy Tryz.prog 94 := ⟨fun w => by kernel_rfl⟩
instance tn94 : SizeTy Tryz.prog 94 1 := ⟨fun w => by kernel_rfl⟩
instance tz94 : ZeroTy Tryz.prog 94 [.nilFunc] := ⟨.nilFunc, fun w => by kernel_rfl, rfl⟩
instance tc95 : CellTy Tryz.prog 95 := ⟨fun w => by kernel_rfl⟩
instance tn95 : SizeTy Tryz.prog 95 1 := ⟨fun w => by kernel_rfl⟩
instance tz95 : ZeroTy Tryz.prog 95 [.nilFunc] := ⟨.nilFunc, fun w => by kernel_rfl, rfl⟩
instance ta96 : AggTy Tryz.prog 96 2 := ⟨fun w => by kernel_rfl, fun w => by kernel_rfl⟩
instance tn96 : SizeTy Tryz.prog 96 2 := ⟨fun w => by kernel_rfl⟩
instance tr96 : ArrTy Tryz.prog 96 2 22 1 := ⟨by kernel_rfl, fun w => by kernel_rfl⟩
instance tz96 : ZeroTy Tryz.prog 96 [.slice none 0 0, .slice none 0 0] := ⟨.agg #[.slice none 0 0, .slice none 0 0], fun w => by kernel_rfl, rfl⟩
instance tc97 : CellTy Tryz.prog 97 := ⟨fun w => by kernel_rfl⟩
instance tn97 : SizeTy Tryz.prog 97 1 := ⟨fun w => by kernel_rfl⟩
instance tz97 : ZeroTy Tryz.prog 97 [.nilFunc] := ⟨.nilFunc, fun w => by kernel_rfl, rfl⟩
instance ta98 : AggTy Tryz.prog 98 7 := ⟨fun w => by kernel_rfl, fun w => by kernel_rfl⟩
instance tn98 : SizeTy Tryz.prog 98 7 := ⟨fun w => by kernel_rfl⟩
instance tf98_0 : FldTy Tryz.prog 98 0 0 := ⟨fun b o w => by kernel_rfl⟩
instance tf98_1 : FldTy Tryz.prog 98 1 1 := ⟨fun b o w => by kernel_rfl⟩
instance tf98_2 : FldTy Tryz.prog 98 2 4 := ⟨fun b o w => by kernel_rfl⟩
instance tz98 : ZeroTy Tryz.prog 98 [.int .i64 0, .int .i64 0, .int .i64 0, .int .i64 0, .int .i64 0, .int .i64 0, .int .i64 0] := ⟨.agg #[.int .i64 0, .int .i64 0, .int .i64 0, .int .i64 0, .int .i64 0, .int .i64 0, .int .i64 0], fun w => by kernel_rfl, rfl⟩
instance ta99 : AggTy Tryz.prog 99 7 := ⟨fun w => by kernel_rfl, fun w => by kernel_rfl⟩
instance tn99 : SizeTy Tryz.prog 99 7 := ⟨fun w => by kernel_rfl⟩
instance tf99_0 : FldTy Tryz.prog 99 0 0 := ⟨fun b o w => by kernel_rfl⟩
instance tf99_1 : FldTy Tryz.prog 99 1 1 := ⟨fun b o w => by kernel_rfl⟩
instance tf99_2 : FldTy Tryz.prog 99 2 4 := ⟨fun b o w => by kernel_rfl⟩
instance tz99 : ZeroTy Tryz.prog 99 [.int .i64 0, .int .i64 0, .int .i64 0, .int .i64 0, .int .i64 0, .int .i64 0, .int .i64 0] := ⟨.agg #[.int .i64 0, .int .i64 0, .int .i64 0, .int .i64 0, .int .i64 0, .int .i64 0, .int .i64 0], fun w => by kernel_rfl, rfl⟩
instance tc100 : CellTy Tryz.prog 100 := ⟨fun w => by kernel_rfl⟩
instance tn100 : SizeTy Tryz.prog 100 1 := ⟨fun w => by kernel_rfl⟩
instance tz100 : ZeroTy Tryz.prog 100 [.nilFunc] := ⟨.nilFunc, fun w => by kernel_rfl, rfl⟩
instance tc101 : CellTy Tryz.prog 101 := ⟨fun w => by kernel_rfl⟩
instance tn101 : SizeTy Tryz.prog 101 1 := ⟨fun w => by kernel_rfl⟩
instance tz101 : ZeroTy Tryz.prog 101 [.nilFunc] := ⟨.nilFunc, fun w => by kernel_rfl, rfl⟩
instance tc102 : CellTy Tryz.prog 102 := ⟨fun w => by kernel_rfl⟩
instance tn102 : SizeTy Tryz.prog 102 1 := ⟨fun w => by kernel_rfl⟩
instance tz102 : ZeroTy Tryz.prog 102 [.nilFunc] := ⟨.nilFunc, fun w => by kernel_rfl, rfl⟩
instance tc103 : CellTy Tryz.prog 103 := ⟨fun w => by kernel_rfl⟩
instance tn103 : SizeTy Tryz.prog 103 1 := ⟨fun w => by kernel_rfl⟩
instance tz103 : ZeroTy Tryz.prog 103 [.nilFunc] := ⟨.nilFunc, fun w => by kernel_rfl, rfl⟩
instance tc104 : CellTy Tryz.prog 104 := ⟨fun w => by kernel_rfl⟩
instance tn104 : SizeTy Tryz.prog 104 1 := ⟨fun w => by kernel_rfl⟩
instance tz104 : ZeroTy Tryz.prog 104 [.slice none 0 0] := ⟨.slice none 0 0, fun w => by kernel_rfl, rfl⟩
theorem tq104 (x0 x1 : Int) (w : World) : (Instr.buildSlice 104 1 #[(0, .agg #[.int .i64 x0, .int .i64 x1])]).run Tryz.prog w = .ok (.slice (some ⟨w.heap.size, 0, none⟩) 1 1) (w.alloc (.cells #[.int .i64 x0, .int .i64 x1] 107)) := by kernel_rfl
instance ts104 : SlTy Tryz.prog 104 107 2 := ⟨by kernel_rfl, fun w => by kernel_rfl⟩
instance tc105 : CellTy Tryz.prog 105 := ⟨fun w => by kernel_rfl⟩
instance tn105 : SizeTy Tryz.prog 105 1 := ⟨fun w => by kernel_rfl⟩
instance tz105 : ZeroTy Tryz.prog 105 [.nilFunc] := ⟨.nilFunc, fun w => by kernel_rfl, rfl⟩
instance ta106 : AggTy Tryz.prog 106 2 := ⟨fun w => by kernel_rfl, fun w => by kernel_rfl⟩
instance tn106 : SizeTy Tryz.prog 106 2 := ⟨fun w => by kernel_rfl⟩
instance tf106_0 : FldTy Tryz.prog 106 0 0 := ⟨fun b o w => by kernel_rfl⟩
instance tf106_1 : FldTy Tryz.prog 106 1 1 := ⟨fun b o w => by kernel_rfl⟩
instance te106 : EqTy Tryz.prog 106 2 := eqTy_struct (by kernel_rfl) (by kernel_rfl) (by kernel_rfl) (by kernel_rfl) (by kernel_rfl)
instance tz106 : ZeroTy Tryz.prog 106 [.int .i64 0, .int .i64 0] := ⟨.agg #[.int .i64 0, .int .i64 0], fun w => by kernel_rfl, rfl⟩
instance ta107 : AggTy Tryz.prog 107 2 := ⟨fun w => by kernel_rfl, fun w => by kernel_rfl⟩
instance tn107 : SizeTy Tryz.prog 107 2 := ⟨fun w => by kernel_rfl⟩
instance tf107_0 : FldTy Tryz.prog 107 0 0 := ⟨fun b o w => by kernel_rfl⟩
instance tf107_1 : FldTy Tryz.prog 107 1 1 := ⟨fun b o w => by kernel_rfl⟩
instance te107 : EqTy Tryz.prog 107 2 := eqTy_struct (by kernel_rfl) (by kernel_rfl) (by kernel_rfl) (by kernel_rfl) (by kernel_rfl)
theorem tb107 (x0 x1 : Int) : Tryz.prog.built 107 [(0, .int .i64 x0), (1, .int .i64 x1)] = some #[.int .i64 x0, .int .i64 x1] := by kernel_rfl
instance tz107 : ZeroTy Tryz.prog 107 [.int .i64 0, .int .i64 0] := ⟨.agg #[.int .i64 0, .int .i64 0], fun w => by kernel_rfl, rfl⟩
instance tc108 : CellTy Tryz.prog 108 := ⟨fun w => by kernel_rfl⟩
instance tn108 : SizeTy Tryz.prog 108 1 := ⟨fun w => by kernel_rfl⟩
instance tz108 : ZeroTy Tryz.prog 108 [.nilFunc] := ⟨.nilFunc, fun w => by kernel_rfl, rfl⟩
instance tc109 : CellTy Tryz.prog 109 := ⟨fun w => by kernel_rfl⟩
instance tn109 : SizeTy Tryz.prog 109 1 := ⟨fun w => by kernel_rfl⟩
instance tz109 : ZeroTy Tryz.prog 109 [.nilFunc] := ⟨.nilFunc, fun w => by kernel_rfl, rfl⟩
instance tc110 : CellTy Tryz.prog 110 := ⟨fun w => by kernel_rfl⟩
instance tn110 : SizeTy Tryz.prog 110 1 := ⟨fun w => by kernel_rfl⟩
instance tz110 : ZeroTy Tryz.prog 110 [.nilFunc] := ⟨.nilFunc, fun w => by kernel_rfl, rfl⟩
instance tc111 : CellTy Tryz.prog 111 := ⟨fun w => by kernel_rfl⟩
instance tn111 : SizeTy Tryz.prog 111 1 := ⟨fun w => by kernel_rfl⟩
instance tz111 : ZeroTy Tryz.prog 111 [.nilFunc] := ⟨.nilFunc, fun w => by kernel_rfl, rfl⟩
instance tc112 : CellTy Tryz.prog 112 := ⟨fun w => by kernel_rfl⟩
instance tn112 : SizeTy Tryz.prog 112 1 := ⟨fun w => by kernel_rfl⟩
instance tz112 : ZeroTy Tryz.prog 112 [.nilFunc] := ⟨.nilFunc, fun w => by kernel_rfl, rfl⟩
instance tc113 : CellTy Tryz.prog 113 := ⟨fun w => by kernel_rfl⟩
instance tn113 : SizeTy Tryz.prog 113 1 := ⟨fun w => by kernel_rfl⟩
instance tz113 : ZeroTy Tryz.prog 113 [.nilFunc] := ⟨.nilFunc, fun w => by kernel_rfl, rfl⟩
instance tc114 : CellTy Tryz.prog 114 := ⟨fun w => by kernel_rfl⟩
instance tn114 : SizeTy Tryz.prog 114 1 := ⟨fun w => by kernel_rfl⟩
instance tz114 : ZeroTy Tryz.prog 114 [.nilFunc] := ⟨.nilFunc, fun w => by kernel_rfl, rfl⟩
instance tc115 : CellTy Tryz.prog 115 := ⟨fun w => by kernel_rfl⟩
instance tn115 : SizeTy Tryz.prog 115 1 := ⟨fun w => by kernel_rfl⟩
instance tz115 : ZeroTy Tryz.prog 115 [.nilFunc] := ⟨.nilFunc, fun w => by kernel_rfl, rfl⟩
instance tc116 : CellTy Tryz.prog 116 := ⟨fun w => by kernel_rfl⟩
instance tn116 : SizeTy Tryz.prog 116 1 := ⟨fun w => by kernel_rfl⟩
instance tz116 : ZeroTy Tryz.prog 116 [.nilFunc] := ⟨.nilFunc, fun w => by kernel_rfl, rfl⟩
instance tc117 : CellTy Tryz.prog 117 := ⟨fun w => by kernel_rfl⟩
instance tn117 : SizeTy Tryz.prog 117 1 := ⟨fun w => by kernel_rfl⟩
instance tz117 : ZeroTy Tryz.prog 117 [.nilFunc] := ⟨.nilFunc, fun w => by kernel_rfl, rfl⟩
instance tc118 : CellTy Tryz.prog 118 := ⟨fun w => by kernel_rfl⟩
instance tn118 : SizeTy Tryz.prog 118 1 := ⟨fun w => by kernel_rfl⟩
instance tz118 : ZeroTy Tryz.prog 118 [.nilFunc] := ⟨.nilFunc, fun w => by kernel_rfl, rfl⟩
instance tc119 : CellTy Tryz.prog 119 := ⟨fun w => by kernel_rfl⟩
instance tn119 : SizeTy Tryz.prog 119 1 := ⟨fun w => by kernel_rfl⟩
instance tz119 : ZeroTy Tryz.prog 119 [.nilFunc] := ⟨.nilFunc, fun w => by kernel_rfl, rfl⟩
instance tc120 : CellTy Tryz.prog 120 := ⟨fun w => by kernel_rfl⟩
instance tn120 : SizeTy Tryz.prog 120 1 := ⟨fun w => by kernel_rfl⟩
instance tz120 : ZeroTy Tryz.prog 120 [.nilFunc] := ⟨.nilFunc, fun w => by kernel_rfl, rfl⟩
instance tc121 : CellTy Tryz.prog 121 := ⟨fun w => by kernel_rfl⟩
instance tn121 : SizeTy Tryz.prog 121 1 := ⟨fun w => by kernel_rfl⟩
instance tz121 : ZeroTy Tryz.prog 121 [.nilFunc] := ⟨.nilFunc, fun w => by kernel_rfl, rfl⟩
instance tc122 : CellTy Tryz.prog 122 := ⟨fun w => by kernel_rfl⟩
instance tn122 : SizeTy Tryz.prog 122 1 := ⟨fun w => by kernel_rfl⟩
instance tz122 : ZeroTy Tryz.prog 122 [.nilFunc] := ⟨.nilFunc, fun w => by kernel_rfl, rfl⟩
instance tc123 : CellTy Tryz.prog 123 := ⟨fun w => by kernel_rfl⟩
instance tn123 : SizeTy Tryz.prog 123 1 := ⟨fun w => by kernel_rfl⟩
instance tz123 : ZeroTy Tryz.prog 123 [.nilFunc] := ⟨.nilFunc, fun w => by kernel_rfl, rfl⟩
instance tc124 : CellTy Tryz.prog 124 := ⟨fun w => by kernel_rfl⟩
instance tn124 : SizeTy Tryz.prog 124 1 := ⟨fun w => by kernel_rfl⟩
instance tz124 : ZeroTy Tryz.prog 124 [.nilFunc] := ⟨.nilFunc, fun w => by kernel_rfl, rfl⟩
instance tc125 : CellTy Tryz.prog 125 := ⟨fun w => by kernel_rfl⟩
instance tn125 : SizeTy Tryz.prog 125 1 := ⟨fun w => by kernel_rfl⟩
instance tz125 : ZeroTy Tryz.prog 125 [.nilFunc] := ⟨.nilFunc, fun w => by kernel_rfl, rfl⟩
instance tc126 : CellTy Tryz.prog 126 := ⟨fun w => by kernel_rfl⟩
instance tn126 : SizeTy Tryz.prog 126 1 := ⟨fun w => by kernel_rfl⟩
instance tz126 : ZeroTy Tryz.prog 126 [.nilFunc] := ⟨.nilFunc, fun w => by kernel_rfl, rfl⟩
instance tc127 : CellTy Tryz.prog 127 := ⟨fun w => by kernel_rfl⟩
instance tn127 : SizeTy Tryz.prog 127 1 := ⟨fun w => by kernel_rfl⟩
instance tz127 : ZeroTy Tryz.prog 127 [.nilFunc] := ⟨.nilFunc, fun w => by kernel_rfl, rfl⟩
instance tc128 : CellTy Tryz.prog 128 := ⟨fun w => by kernel_rfl⟩
instance tn128 : SizeTy Tryz.prog 128 1 := ⟨fun w => by kernel_rfl⟩
instance tz128 : ZeroTy Tryz.prog 128 [.nilFunc] := ⟨.nilFunc, fun w => by kernel_rfl, rfl⟩
instance tc129 : CellTy Tryz.prog 129 := ⟨fun w => by kernel_rfl⟩
instance tn129 : SizeTy Tryz.prog 129 1 := ⟨fun w => by kernel_rfl⟩
instance tz129 : ZeroTy Tryz.prog 129 [.nilFunc] := ⟨.nilFunc, fun w => by kernel_rfl, rfl⟩
instance tc130 : CellTy Tryz.prog 130 := ⟨fun w => by kernel_rfl⟩
instance tn130 : SizeTy Tryz.prog 130 1 := ⟨fun w => by kernel_rfl⟩
instance tz130 : ZeroTy Tryz.prog 130 [.nilFunc] := ⟨.nilFunc, fun w => by kernel_rfl, rfl⟩
instance tc131 : CellTy Tryz.prog 131 := ⟨fun w => by kernel_rfl⟩
instance tn131 : SizeTy Tryz.prog 131 1 := ⟨fun w => by kernel_rfl⟩
instance tz131 : ZeroTy Tryz.prog 131 [.nilFunc] := ⟨.nilFunc, fun w => by kernel_rfl, rfl⟩
instance tc132 : CellTy Tryz.prog 132 := ⟨fun w => by kernel_rfl⟩
instance tn132 : SizeTy Tryz.prog 132 1 := ⟨fun w => by kernel_rfl⟩
instance tz132 : ZeroTy Tryz.prog 132 [.nilFunc] := ⟨.nilFunc, fun w => by kernel_rfl, rfl⟩
instance tc133 : CellTy Tryz.prog 133 := ⟨fun w => by kernel_rfl⟩
instance tn133 : SizeTy Tryz.prog 133 1 := ⟨fun w => by kernel_rfl⟩
instance tz133 : ZeroTy Tryz.prog 133 [.nilFunc] := ⟨.nilFunc, fun w => by kernel_rfl, rfl⟩
instance tc134 : CellTy Tryz.prog 134 := ⟨fun w => by kernel_rfl⟩
instance tn134 : SizeTy Tryz.prog 134 1 := ⟨fun w => by kernel_rfl⟩
instance tz134 : ZeroTy Tryz.prog 134 [.nilFunc] := ⟨.nilFunc, fun w => by kernel_rfl, rfl⟩
instance tc135 : CellTy Tryz.prog 135 := ⟨fun w => by kernel_rfl⟩
instance tn135 : SizeTy Tryz.prog 135 1 := ⟨fun w => by kernel_rfl⟩
instance tz135 : ZeroTy Tryz.prog 135 [.nilFunc] := ⟨.nilFunc, fun w => by kernel_rfl, rfl⟩
instance tc136 : CellTy Tryz.prog 136 := ⟨fun w => by kernel_rfl⟩
instance tn136 : SizeTy Tryz.prog 136 1 := ⟨fun w => by kernel_rfl⟩
instance tz136 : ZeroTy Tryz.prog 136 [.nilFunc] := ⟨.nilFunc, fun w => by kernel_rfl, rfl⟩
instance tc137 : CellTy Tryz.prog 137 := ⟨fun w => by kernel_rfl⟩
instance tn137 : SizeTy Tryz.prog 137 1 := ⟨fun w => by kernel_rfl⟩
instance tz137 : ZeroTy Tryz.prog 137 [.nilFunc] := ⟨.nilFunc, fun w => by kernel_rfl, rfl⟩
instance tc138 : CellTy Tryz.prog 138 := ⟨fun w => by kernel_rfl⟩
instance tn138 : SizeTy Tryz.prog 138 1 := ⟨fun w => by kernel_rfl⟩
instance tz138 : ZeroTy Tryz.prog 138 [.nilFunc] := ⟨.nilFunc, fun w => by kernel_rfl, rfl⟩
instance tc139 : CellTy Tryz.prog 139 := ⟨fun w => by kernel_rfl⟩
instance tn139 : SizeTy Tryz.prog 139 1 := ⟨fun w => by kernel_rfl⟩
instance tz139 : ZeroTy Tryz.prog 139 [.int .u64 0] := ⟨.int .u64 0, fun w => by kernel_rfl, rfl⟩
instance ti139 : IntTy Tryz.prog 139 .u64 := ⟨by kernel_rfl⟩
instance tc140 : CellTy Tryz.prog 140 := ⟨fun w => by kernel_rfl⟩
instance tn140 : SizeTy Tryz.prog 140 1 := ⟨fun w => by kernel_rfl⟩
instance tz140 : ZeroTy Tryz.prog 140 [.nilFunc] := ⟨.nilFunc, fun w => by kernel_rfl, rfl⟩
instance tc141 : CellTy Tryz.prog 141 := ⟨fun w => by kernel_rfl⟩
instance tn141 : SizeTy Tryz.prog 141 1 := ⟨fun w => by kernel_rfl⟩
instance tz141 : ZeroTy Tryz.prog 141 [.nilFunc] := ⟨.nilFunc, fun w => by kernel_rfl, rfl⟩
instance tc142 : CellTy Tryz.prog 142 := ⟨fun w => by kernel_rfl⟩
instance tn142 : SizeTy Tryz.prog 142 1 := ⟨fun w => by kernel_rfl⟩
instance tz142 : ZeroTy Tryz.prog 142 [.nilFunc] := ⟨.nilFunc, fun w => by kernel_rfl, rfl⟩
instance tc143 : CellTy Tryz.prog 143 := ⟨fun w => by kernel_rfl⟩
instance tn143 : SizeTy Tryz.prog 143 1 := ⟨fun w => by kernel_rfl⟩
instance tz143 : ZeroTy Tryz.prog 143 [.nilFunc] := ⟨.nilFunc, fun w => by kernel_rfl, rfl⟩
instance tc144 : CellTy Tryz.prog 144 := ⟨fun w => by kernel_rfl⟩
instance tn144 : SizeTy Tryz.prog 144 1 := ⟨fun w => by kernel_rfl⟩
instance tz144 : ZeroTy Tryz.prog 144 [.nilFunc] := ⟨.nilFunc, fun w => by kernel_rfl, rfl⟩
instance tc145 : CellTy Tryz.prog 145 := ⟨fun w => by kernel_rfl⟩
instance tn145 : SizeTy Tryz.prog 145 1 := ⟨fun w => by kernel_rfl⟩
instance tz145 : ZeroTy Tryz.prog 145 [.nilFunc] := ⟨.nilFunc, fun w => by kernel_rfl, rfl⟩
instance tc146 : CellTy Tryz.prog 146 := ⟨fun w => by kernel_rfl⟩
instance tn146 : SizeTy Tryz.prog 146 1 := ⟨fun w => by kernel_rfl⟩
instance tz146 : ZeroTy Tryz.prog 146 [.nilFunc] := ⟨.nilFunc, fun w => by kernel_rfl, rfl⟩
instance tc147 : CellTy Tryz.prog 147 := ⟨fun w => by kernel_rfl⟩
instance tn147 : SizeTy Tryz.prog 147 1 := ⟨fun w => by kernel_rfl⟩
instance tz147 : ZeroTy Tryz.prog 147 [.nilFunc] := ⟨.nilFunc, fun w => by kernel_rfl, rfl⟩
instance tc148 : CellTy Tryz.prog 148 := ⟨fun w => by kernel_rfl⟩
instance tn148 : SizeTy Tryz.prog 148 1 := ⟨fun w => by kernel_rfl⟩
instance tz148 : ZeroTy Tryz.prog 148 [.nilFunc] := ⟨.nilFunc, fun w => by kernel_rfl, rfl⟩
instance tc149 : CellTy Tryz.prog 149 := ⟨fun w => by kernel_rfl⟩
instance tn149 : SizeTy Tryz.prog 149 1 := ⟨fun w => by kernel_rfl⟩
instance tz149 : ZeroTy Tryz.prog 149 [.nilFunc] := ⟨.nilFunc, fun w => by kernel_rfl, rfl⟩
instance tc150 : CellTy Tryz.prog 150 := ⟨fun w => by kernel_rfl⟩
instance tn150 : SizeTy Tryz.prog 150 1 := ⟨fun w => by kernel_rfl⟩
instance tz150 : ZeroTy Tryz.prog 150 [.nilFunc] := ⟨.nilFunc, fun w => by kernel_rfl, rfl⟩
instance tc151 : CellTy Tryz.prog 151 := ⟨fun w => by kernel_rfl⟩
instance tn151 : SizeTy Tryz.prog 151 1 := ⟨fun w => by kernel_rfl⟩
instance tz151 : ZeroTy Tryz.prog 151 [.nilFunc] := ⟨.nilFunc, fun w => by kernel_rfl, rfl⟩
instance tc153 : CellTy Tryz.prog 153 := ⟨fun w => by kernel_rfl⟩
instance tn153 : SizeTy Tryz.prog 153 1 := ⟨fun w => by kernel_rfl⟩
instance tz153 : ZeroTy Tryz.prog 153 [.nilFunc] := ⟨.nilFunc, fun w => by kernel_rfl, rfl⟩
instance tc154 : CellTy Tryz.prog 154 := ⟨fun w => by kernel_rfl⟩
instance tn154 : SizeTy Tryz.prog 154 1 := ⟨fun w => by kernel_rfl⟩
instance tz154 : ZeroTy Tryz.prog 154 [.nilFunc] := ⟨.nilFunc, fun w => by kernel_rfl, rfl⟩
instance tc155 : CellTy Tryz.prog 155 := ⟨fun w => by kernel_rfl⟩
instance tn155 : SizeTy Tryz.prog 155 1 := ⟨fun w => by kernel_rfl⟩
instance tz155 : ZeroTy Tryz.prog 155 [.nilFunc] := ⟨.nilFunc, fun w => by kernel_rfl, rfl⟩
instance tc156 : CellTy Tryz.prog 156 := ⟨fun w => by kernel_rfl⟩
instance tn156 : SizeTy Tryz.prog 156 1 := ⟨fun w => by kernel_rfl⟩
instance tz156 : ZeroTy Tryz.prog 156 [.int .i64 0] := ⟨.int .i64 0, fun w => by kernel_rfl, rfl⟩
instance ti156 : IntTy Tryz.prog 156 .i64 := ⟨by kernel_rfl⟩
instance tc158 : CellTy Tryz.prog 158 := ⟨fun w => by kernel_rfl⟩
instance tn158 : SizeTy Tryz.prog 158 1 := ⟨fun w => by kernel_rfl⟩
instance tz158 : ZeroTy Tryz.prog 158 [.nilFunc] := ⟨.nilFunc, fun w => by kernel_rfl, rfl⟩
instance tc159 : CellTy Tryz.prog 159 := ⟨fun w => by kernel_rfl⟩
instance tn159 : SizeTy Tryz.prog 159 1 := ⟨fun w => by kernel_rfl⟩
instance tz159 : ZeroTy Tryz.prog 159 [.nilFunc] := ⟨.nilFunc, fun w => by kernel_rfl, rfl⟩
instance tc160 : CellTy Tryz.prog 160 := ⟨fun w => by kernel_rfl⟩
instance tn160 : SizeTy Tryz.prog 160 1 := ⟨fun w => by kernel_rfl⟩
instance tz160 : ZeroTy Tryz.prog 160 [.nilFunc] := ⟨.nilFunc, fun w => by kernel_rfl, rfl⟩
instance tc162 : CellTy Tryz.prog 162 := ⟨fun w => by kernel_rfl⟩
instance tn162 : SizeTy Tryz.prog 162 1 := ⟨fun w => by kernel_rfl⟩
instance tz162 : ZeroTy Tryz.prog 162 [.nilFunc] := ⟨.nilFunc, fun w => by kernel_rfl, rfl⟩
instance tc163 : CellTy Tryz.prog 163 := ⟨fun w => by kernel_rfl⟩
instance tn163 : SizeTy Tryz.prog 163 1 := ⟨fun w => by kernel_rfl⟩
instance tz163 : ZeroTy Tryz.prog 163 [.nilFunc] := ⟨.nilFunc, fun w => by kernel_rfl, rfl⟩
instance tc164 : CellTy Tryz.prog 164 := ⟨fun w => by kernel_rfl⟩
instance tn164 : SizeTy Tryz.prog 164 1 := ⟨fun w => by kernel_rfl⟩
instance tz164 : ZeroTy Tryz.prog 164 [.int .u32 0] := ⟨.int .u32 0, fun w => by kernel_rfl, rfl⟩
instance ti164 : IntTy Tryz.prog 164 .u32 := ⟨by kernel_rfl⟩
instance tc165 : CellTy Tryz.prog 165 := ⟨fun w => by kernel_rfl⟩
instance tn165 : SizeTy Tryz.prog 165 1 := ⟨fun w => by kernel_rfl⟩
instance tz165 : ZeroTy Tryz.prog 165 [.nilFunc] := ⟨.nilFunc, fun w => by kernel_rfl, rfl⟩
instance tc166 : CellTy Tryz.prog 166 := ⟨fun w => by kernel_rfl⟩
instance tn166 : SizeTy Tryz.prog 166 1 := ⟨fun w => by kernel_rfl⟩
instance tz166 : ZeroTy Tryz.prog 166 [.int .u64 0] := ⟨.int .u64 0, fun w => by kernel_rfl, rfl⟩
instance ti166 : IntTy Tryz.prog 166 .u64 := ⟨by kernel_rfl⟩
instance tc167 : CellTy Tryz.prog 167 := ⟨fun w => by kernel_rfl⟩
instance tn167 : SizeTy Tryz.prog 167 1 := ⟨fun w => by kernel_rfl⟩
instance tz167 : ZeroTy Tryz.prog 167 [.nilFunc] := ⟨.nilFunc, fun w => by kernel_rfl, rfl⟩
instance tc168 : CellTy Tryz.prog 168 := ⟨fun w => by kernel_rfl⟩
instance tn168 : SizeTy Tryz.prog 168 1 := ⟨fun w => by kernel_rfl⟩
instance tz168 : ZeroTy Tryz.prog 168 [.nilFunc] := ⟨.nilFunc, fun w => by kernel_rfl, rfl⟩
instance tc169 : CellTy Tryz.prog 169 := ⟨fun w => by kernel_rfl⟩
instance tn169 : SizeTy Tryz.prog 169 1 := ⟨fun w => by kernel_rfl⟩
instance tz169 : ZeroTy Tryz.prog 169 [.nilFunc] := ⟨.nilFunc, fun w => by kernel_rfl, rfl⟩
instance tc170 : CellTy Tryz.prog 170 := ⟨fun w => by kernel_rfl⟩
instance tn170 : SizeTy Tryz.prog 170 1 := ⟨fun w => by kernel_rfl⟩
instance tz170 : ZeroTy Tryz.prog 170 [.nilFunc] := ⟨.nilFunc, fun w => by kernel_rfl, rfl⟩
instance tc171 : CellTy Tryz.prog 171 := ⟨fun w => by kernel_rfl⟩
instance tn171 : SizeTy Tryz.prog 171 1 := ⟨fun w => by kernel_rfl⟩
instance tz171 : ZeroTy Tryz.prog 171 [.nilFunc] := ⟨.nilFunc, fun w => by kernel_rfl, rfl⟩
instance tc172 : CellTy Tryz.prog 172 := ⟨fun w => by kernel_rfl⟩
instance tn172 : SizeTy Tryz.prog 172 1 := ⟨fun w => by kernel_rfl⟩
instance tz172 : ZeroTy Tryz.prog 172 [.nilFunc] := ⟨.nilFunc, fun w => by kernel_rfl, rfl⟩
instance tc173 : CellTy Tryz.prog 173 := ⟨fun w => by kernel_rfl⟩
instance tn173 : SizeTy Tryz.prog 173 1 := ⟨fun w => by kernel_rfl⟩
instance tz173 : ZeroTy Tryz.prog 173 [.int .u64 0] := ⟨.int .u64 0, fun w => by kernel_rfl, rfl⟩
instance ti173 : IntTy Tryz.prog 173 .u64 := ⟨by kernel_rfl⟩
instance tc174 : CellTy Tryz.prog 174 := ⟨fun w => by kernel_rfl⟩
instance tn174 : SizeTy Tryz.prog 174 1 := ⟨fun w => by kernel_rfl⟩
instance tz174 : ZeroTy Tryz.prog 174 [.nilFunc] := ⟨.nilFunc, fun w => by kernel_rfl, rfl⟩
instance tc175 : CellTy Tryz.prog 175 := ⟨fun w => by kernel_rfl⟩
instance tn175 : SizeTy Tryz.prog 175 1 := ⟨fun w => by kernel_rfl⟩
instance tz175 : ZeroTy Tryz.prog 175 [.nilFunc] := ⟨.nilFunc, fun w => by kernel_rfl, rfl⟩
instance tc176 : CellTy Tryz.prog 176 := ⟨fun w => by kernel_rfl⟩
instance tn176 : SizeTy Tryz.prog 176 1 := ⟨fun w => by kernel_rfl⟩
instance tz176 : ZeroTy Tryz.prog 176 [.nilFunc] := ⟨.nilFunc, fun w => by kernel_rfl, rfl⟩
instance tc177 : CellTy Tryz.prog 177 := ⟨fun w => by kernel_rfl⟩
instance tn177 : SizeTy Tryz.prog 177 1 := ⟨fun w => by kernel_rfl⟩
instance tz177 : ZeroTy Tryz.prog 177 [.pointer none] := ⟨.pointer none, fun w => by kernel_rfl, rfl⟩
instance tc178 : CellTy Tryz.prog 178 := ⟨fun w => by kernel_rfl⟩
instance tn178 : SizeTy Tryz.prog 178 1 := ⟨fun w => by kernel_rfl⟩
instance tz178 : ZeroTy Tryz.prog 178 [.nilFunc] := ⟨.nilFunc, fun w => by kernel_rfl, rfl⟩
instance tc179 : CellTy Tryz.prog 179 := ⟨fun w => by kernel_rfl⟩
instance tn179 : SizeTy Tryz.prog 179 1 := ⟨fun w => by kernel_rfl⟩
instance tz179 : ZeroTy Tryz.prog 179 [.nilFunc] := ⟨.nilFunc, fun w => by kernel_rfl, rfl⟩
instance tc180 : CellTy Tryz.prog 180 := ⟨fun w => by kernel_rfl⟩
instance tn180 : SizeTy Tryz.prog 180 1 := ⟨fun w => by kernel_rfl⟩
instance tz180 : ZeroTy Tryz.prog 180 [.nilFunc] := ⟨.nilFunc, fun w => by kernel_rfl, rfl⟩
instance tc181 : CellTy Tryz.prog 181 := ⟨fun w => by kernel_rfl⟩
instance tn181 : SizeTy Tryz.prog 181 1 := ⟨fun w => by kernel_rfl⟩
instance tz181 : ZeroTy Tryz.prog 181 [.nilFunc] := ⟨.nilFunc, fun w => by kernel_rfl, rfl⟩
instance tc182 : CellTy Tryz.prog 182 := ⟨fun w => by kernel_rfl⟩
instance tn182 : SizeTy Tryz.prog 182 1 := ⟨fun w => by kernel_rfl⟩
instance tz182 : ZeroTy Tryz.prog 182 [.nilFunc] := ⟨.nilFunc, fun w => by kernel_rfl, rfl⟩
instance tc183 : CellTy Tryz.prog 183 := ⟨fun w => by kernel_rfl⟩
instance tn183 : SizeTy Tryz.prog 183 1 := ⟨fun w => by kernel_rfl⟩
instance tz183 : ZeroTy Tryz.prog 183 [.nilFunc] := ⟨.nilFunc, fun w => by kernel_rfl, rfl⟩
instance tc184 : CellTy Tryz.prog 184 := ⟨fun w => by kernel_rfl⟩
instance tn184 : SizeTy Tryz.prog 184 1 := ⟨fun w => by kernel_rfl⟩
instance tz184 : ZeroTy Tryz.prog 184 [.nilFunc] := ⟨.nilFunc, fun w => by kernel_rfl, rfl⟩
instance tc185 : CellTy Tryz.prog 185 := ⟨fun w => by kernel_rfl⟩
instance tn185 : SizeTy Tryz.prog 185 1 := ⟨fun w => by kernel_rfl⟩
instance tz185 : ZeroTy Tryz.prog 185 [.nilFunc] := ⟨.nilFunc, fun w => by kernel_rfl, rfl⟩
instance tl3 : EltTy Tryz.prog 3 1 8 := eltTy_of (by kernel_rfl)
instance tl44 : EltTy Tryz.prog 44 2 16 := eltTy_of (by kernel_rfl)
instance tl46 : EltTy Tryz.prog 46 5 56 := eltTy_of (by kernel_rfl)
instance tl58 : EltTy Tryz.prog 58 5 56 := eltTy_of (by kernel_rfl)
instance tl67 : EltTy Tryz.prog 67 3 24 := eltTy_of (by kernel_rfl)
instance tl80 : EltTy Tryz.prog 80 3 24 := eltTy_of (by kernel_rfl)
instance tl107 : EltTy Tryz.prog 107 2 16 := eltTy_of (by kernel_rfl)
theorem tm : Tryz.prog.follows .mixedOrders = true := by kernel_rfl
end Go.Proofs.YtdoppiajbpmmkaaGreat
