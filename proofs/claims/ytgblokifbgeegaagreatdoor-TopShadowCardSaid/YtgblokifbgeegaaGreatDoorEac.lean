/- A part of the proof. -/
import Derived.Lib.SliceRun
import Derived.Laws.CopyRow
import Derived.Laws.IdiomCopy
import Derived.Maps.Own
import Derived.Maps.Range
import Derived.Maps.RangeRun
import Derived.WalkArith
import Derived.Laws.Cover1
import Derived.RangeFuncNested
import Derived.RangeFuncLeaves
import Derived.Test.YtgblokifbgeegaaGreatDoorEab
set_option linter.unusedVariables false
set_option linter.unusedSimpArgs false
section
namespace Go.Vc
open Go Go.RowKit
theorem idx_eq (l : List Nat) : idx l = .sl l.length 1 (xf l) := rfl
section
variable {P : Program} {E : Env} {T T' : Tab} {O O' : Own} {o : Oper} {d : Option Tmp} {ty : TypeId} {pos : String} {af : Array Edge} {g : Option (Nat × Bool)}
theorem W0r {α : Type} (l : List α) (a d : α) (i : Nat) : (l ++ [a]).getD i d = if i < l.length then l.getD i d else if i = l.length then a else d := by
 simp only [List.getD, List.getElem?_append]
 split
 ·rfl
 ·split
  ·rename_i h; subst h; simp
  ·rw [List.getElem?_singleton, if_neg (by omega)]; rfl
theorem VStep.row {r e sz n n' : Nat} {f f' : Nat → Nat → AV} {s : SV} (h : VStep P E o T O T' ((r, .row e sz n f) :: O') s) (hn : n = n') (hf : ∀ i, i < n → ∀ j, j < sz → f i j = f' i j) : VStep P E o T O T' ((r, .row e sz n' f') :: O') s := by
 refine ⟨h.nd, fun Z ν a w hs => ?_⟩
 have key : ∀ {a w}, (∃ v Z' ν', a = a ∧ SatZ E Z' ν' T' ((r, .row e sz n f) :: O') a w ∧ s.ok Z' ν' w v) → True := fun _ => trivial
 have := h.run Z ν a w hs
 unfold Oper.wp at this ⊢
 revert this
 have conv : ∀ a1 w1, (∃ v Z' ν', a1 = a.put o.dst v ∧ SatZ E Z' ν' T' ((r, .row e sz n f) :: O') a w1 ∧ s.ok Z' ν' w1 v) → (∃ v Z' ν', a1 = a.put o.dst v ∧ SatZ E Z' ν' T' ((r, .row e sz n' f') :: O') a w1 ∧ s.ok Z' ν' w1 v) := by
  rintro a1 w1 ⟨v, Z', ν', h1, h2, h3⟩
  refine ⟨v, Z', ν', h1, ⟨h2.defers, h2.tsize, h2.cst, h2.pin, h2.base, ⟨fun k y hy => ?_, fun k k' hne e1 e2 => ?_⟩, h2.slot⟩, h3⟩
  ·by_cases hk : k = r
   ·subst hk
    rw [j0g] at hy
    cases hy
    exact (RLe.row hn hf).ok (h2.own.each k _ (j0g _ _ _))
   ·rw [j0d _ _ (fun e => hk e.symm)] at hy
    exact h2.own.each k y (by rw [j0d _ _ (fun e => hk e.symm)]; exact hy)
  ·have hh : ∀ k, look ((r, Res.row e sz n' f') :: O') k ≠ none → look ((r, Res.row e sz n f) :: O') k ≠ none := by
    intro k hk
    by_cases hkr : k = r
    ·subst hkr; rw [j0g]; simp
    ·rw [j0d _ _ (fun e => hkr e.symm)] at hk ⊢; exact hk
   exact h2.own.apart k k' hne (hh k e1) (hh k' e2)
 generalize (execOp a.eval o).run P w = rr
 intro this
 cases rr with
 |ok n1 w1 =>
  cases n1 <;> simp only [Oper.upon] at this ⊢ <;> first
   |exact conv _ _ this
   |exact Calls.mono this (fun e w'' he => by cases e with
     |returned v => exact conv _ _ he
     |panicked c => exact he
     |outgrown => exact he)
   |exact Rows.mono this (fun _ _ he => conv _ _ he)
 |halt x w1 => cases x <;> simp only [Oper.upon] at this ⊢
theorem z0n {t e : TypeId} {x y : Operand} {r bytes : Nat} {l : List Pt} {p : Pt} [ht : SlTy P t e 2] [he : EltTy P e 2 bytes] (hx : T.ev x = .osl r) (hr : look O r = some (.row e 2 l.length (pf l))) (hy : T.ev y = .av (.sl 1 2 (pf [p])))
  (hlen : l.length ≤ 1000000) (hby : Nat.ble bytes 64 = true) (hp : Nat.blt r 1000 = true := by first | rfl | assumption) :
  VStep P E ⟨d, .call ⟨.builtin .append, #[x, y], #[t, t]⟩, ty, pos, af, g⟩ T O (T.kill r) ((r, .row e 2 (l ++ [p]).length (pf (l ++ [p]))) :: Own.kill r O) (.osl r) := by
 refine (v0i hx hr hy (fun i _ j _ => by unfold pf; split <;> rfl) (by omega) (by simp only [maxLen]; omega) (by have := Nat.le_of_ble_eq_true hby; calc (l.length + 1) * bytes ≤ 1000001 * 64 := Nat.mul_le_mul (by omega) this
  _ ≤ 140737488355328 := by decide)).row (by simp) (fun i hi j hj => ?_)
 unfold v0J pf gp
 rw [W0r]
 split
 ·rfl
 ·have h1 : i = l.length := by omega
  subst h1
  simp
theorem z0m {t e : TypeId} {x y : Operand} {r bytes : Nat} {l : List Nat} {p : Nat} [ht : SlTy P t e 1] [he : EltTy P e 1 bytes] (hx : T.ev x = .osl r) (hr : look O r = some (.row e 1 l.length (xf l))) (hy : T.ev y = .av (.sl 1 1 (xf [p])))
  (hlen : l.length ≤ 1000000) (hby : Nat.ble bytes 64 = true) (hp : Nat.blt r 1000 = true := by first | rfl | assumption) :
  VStep P E ⟨d, .call ⟨.builtin .append, #[x, y], #[t, t]⟩, ty, pos, af, g⟩ T O (T.kill r) ((r, .row e 1 (l ++ [p]).length (xf (l ++ [p]))) :: Own.kill r O) (.osl r) := by
 refine (v0i hx hr hy (fun i _ j _ => rfl) (by omega) (by simp only [maxLen]; omega) (by have := Nat.le_of_ble_eq_true hby; calc (l.length + 1) * bytes ≤ 1000001 * 64 := Nat.mul_le_mul (by omega) this
  _ ≤ 140737488355328 := by decide)).row (by simp) (fun i hi j hj => ?_)
 unfold v0J xf gi
 rw [W0r]
 split
 ·rfl
 ·have h1 : i = l.length := by omega
  subst h1
  simp
theorem J0p {t e : TypeId} {x : Operand} {n : Int} {p : Nat} [ht : SlTy P t e 1]
  (hb : ∀ w, (Instr.buildSlice t 1 #[(0, .int .i64 n)]).run P w = .ok (.slice (some ⟨w.heap.size, 0, none⟩) 1 1) (w.alloc (.cells #[.int .i64 n] e)))
  (hx : T.ev x = .av (.val (.int .i64 n))) (hn : n = ↑p) : GV P E ⟨d, .buildSlice t 1 #[(0, x)], ty, pos, af, g⟩ T O (.av (.sl 1 1 (xf [p]))) [] [] :=
 q0c (is := [0]) (xs := [x]) (vs := [_]) (us := [_]) hb rfl (by simp only [List.map_cons, List.map_nil, hx]) rfl (fun i hi j hj => by
  obtain rfl : i = 0 := by omega
  obtain rfl : j = 0 := by omega
  subst hn
  exact ⟨_, rfl, rfl⟩)
end
end Go.Vc
end
section
namespace Go.Vc
open Go Go.RowKit
section
variable {P : Program} {E : Env} {T T' : Tab} {O O' : Own} {o : Oper} {d : Option Tmp} {ty : TypeId} {pos : String} {af : Array Edge} {g : Option (Nat × Bool)}
theorem Q0a {t e : TypeId} {x y : Operand} {r n sz ety : Nat} {f : Nat → Nat → AV} {q : IntKind} {i : Int} {lo : Nat} [ht : SlTy P t e sz] (hx : T.ev x = .osl r) (hr : look O r = some (.row ety sz n f)) (hy : T.ev y = .av (.val (.int q i))) (hi : i = ↑lo) (hlo : lo ≤ n) (hn : 0 < n) :
  GV P E ⟨d, .slice t x (some y) none none, ty, pos, af, g⟩ T O (.osx r sz lo (n - lo)) [r] [] :=
 j0k [r] fun Z ν a w h hO => by
  have hv := z0V hx (h x (by simp [Op.operands]))
  have hvi := j0B hy (h y (by simp [Op.operands]))
  subst hi
  rcases hO r (by simp) _ hr with ⟨_, h2⟩ | ⟨b, cap, arr, h1, _, _, _, hnc, _⟩
  ·omega
  ·refine ⟨.slice (if cap = lo then some ⟨b, 0, none⟩ else some ⟨b, lo * sz, none⟩) (n - lo) (cap - lo), ?_, b, n, cap, _, h1, rfl, fun hp => by
    by_cases h0 : cap = lo
    ·rw [if_pos h0]
     have : lo = 0 := by omega
     subst this; simp
    ·exact if_neg h0⟩
   simp [execOp, Instr.sliceAt, Instr.slice, hv, h1, hvi, run_underlying ht.und, Instr.sliceBounds, Instr.sliceBound, asIntOf, ht.size w, hlo, j0Q]
theorem X0U {Z : j0q} {ν : j0W} {w : World} {T : Tab} {x : Operand} {a : Act} {r sz lo len : Nat} (hx : T.ev x = .osx r sz lo len) (h : (T.ev x).ok Z ν w (a.eval x)) :
  ∃ b n c p, ν r = .slice (some ⟨b, 0, none⟩) n c ∧ a.eval x = .slice p len (c - lo) ∧ (0 < len ∨ lo = 0 → p = some ⟨b, lo * sz, none⟩) := by
 rw [hx] at h; exact h
theorem w0H {t e : TypeId} {x : Operand} {r lo len sz sz' : Nat} [ht : SlTy P t e sz'] (hx : T.ev x = .osx r sz lo len) :
  GV P E ⟨d, .call ⟨.builtin .len, #[x], #[t]⟩, ty, pos, af, g⟩ T O (.av (.val (.int .i64 len))) [] [] :=
 j0k [] fun Z ν a w h _ => by
  obtain ⟨b, n, c, p, _, hv, _⟩ := X0U hx (h x (by simp [Op.operands, Call.operands]))
  exact ⟨.int .i64 len, by simp [execOp, resolve, invoke, builtin, Builtin.len_, hv, run_underlying ht.und, goInt], rfl⟩
theorem q0s {t e : TypeId} {x y : Operand} {r lo len sz : Nat} {q : IntKind} {i : Int} {k : Nat} [ht : SlTy P t e sz] (hx : T.ev x = .osx r sz lo len) (hy : T.ev y = .av (.val (.int q i)))
  (hi : i = ↑k) (hk : k < len) : GV P E ⟨d, .indexAddr t x y, ty, pos, af, g⟩ T O (.oel r sz (lo + k) 0) [] [] :=
 j0k [] fun Z ν a w h _ => by
  obtain ⟨b, n, c, p, hb, hv, hp⟩ := X0U hx (h x (by simp [Op.operands]))
  have hvi := j0B hy (h y (by simp [Op.operands]))
  subst hi
  rw [hp (.inl (by omega))] at hv
  refine ⟨.pointer (some ⟨b, (lo + k) * sz, none⟩), ?_, b, n, c, hb, by simp⟩
  simp [execOp, Instr.indexAt, hvi, hv, asIntOf, run_underlying ht.und, ht.size w, hk, j0Q, Nat.add_mul]
def Q0E (f : Nat → Nat → AV) (lo : Nat) (z : Value) : Nat → Nat → AV := fun i j => if lo ≤ i then .val z else f i j
theorem V1I {t e : TypeId} {x : Operand} {r lo n ety : Nat} {f : Nat → Nat → AV} {z : Value} [ht : SlTy P t e 1] (hv : ∀ w, (zeroValue e).run P w = .ok z w) (hz : z.cells = #[z]) (h1 : z.oneCell' = true) (hx : T.ev x = .osx r 1 lo (n - lo)) (hr : look O r = some (.row ety 1 n f)) :
  GV P E ⟨d, .call ⟨.builtin .clear, #[x], #[t]⟩, ty, pos, af, g⟩ T O (.av .any) [r] [(r, .row ety 1 n (Q0E f lo z))] := by
 refine ⟨fun T' O' hT hO => ⟨by intro c; simp, fun Z ν a w hs => ?_⟩⟩
 have ex := j0M hs x
 rw [j0s (o := ⟨d, .call ⟨.builtin .clear, #[x], #[t]⟩, ty, pos, af, g⟩) hT (by simp [Op.operands, Call.operands])] at ex
 obtain ⟨b, m, c, p, hb, hax, hp⟩ := X0U hx ex
 have hr' : look O' r = some (.row ety 1 n f) := by rw [hO r (by simp)]; exact hr
 rcases hs.own.each r _ hr' with ⟨e1, _⟩ | ⟨b', cap, arr, e1, e2, e3, e4, e5, e6, e7, e8⟩
 ·rw [hb] at e1; simp at e1
 have e1' := e1
 rw [hb] at e1
 simp only [Value.slice.injEq, Option.some.injEq, Addr.mk.injEq, and_true] at e1
 obtain ⟨rfl, rfl, rfl⟩ := e1
 by_cases hle : m ≤ lo
 ·have h0 : m - lo = 0 := by omega
  rw [h0] at hax
  refine j0C (w' := w) (v := .tuple #[]) ?_ ⟨_, Z, ν, rfl, ?_, trivial⟩
  ·cases p <;> simp [execOp, resolve, invoke, builtin, hax, Builtin.clear_, run_underlying ht.und]
  ·obtain ⟨Z2, ν2, h2⟩ : ∃ Z2 ν2, Z2 = Z ∧ ν2 = ν := ⟨Z, ν, rfl, rfl⟩
   refine ⟨hs.defers, hs.tsize, hs.cst, hs.pin, hs.base, ⟨fun k y hy => ?_, fun k k' hne q1 q2 => ?_⟩, hs.slot⟩
   ·by_cases hk : k = r
    ·subst hk
     simp only [List.cons_append, List.nil_append] at hy
     rw [j0g] at hy
     cases hy
     exact (RLe.row (f' := Q0E f lo z) rfl (fun i hi j hj => by unfold Q0E; rw [if_neg (by omega)])).ok (hs.own.each k _ hr')
    ·simp only [List.cons_append, List.nil_append] at hy
     rw [j0d _ _ (fun e => hk e.symm)] at hy
     exact hs.own.each k y hy
   ·have hh : ∀ k, look ([(r, Res.row ety 1 m (Q0E f lo z))] ++ O') k ≠ none → look O' k ≠ none := by
     intro k hk
     simp only [List.cons_append, List.nil_append] at hk
     by_cases hkr : k = r
     ·subst hkr; rw [hr']; simp
     ·rw [j0d _ _ (fun e => hkr e.symm)] at hk; exact hk
    exact hs.own.apart k k' hne (hh k q1) (hh k' q2)
 ·have hpos : 0 < m - lo := by omega
  rw [hp (.inl hpos), Nat.mul_one] at hax
  have hst := run_storeCells_at P b lo ety (List.replicate (m - lo) z) 0 arr w e4 (by simp; omega) (by intro v hv'; rw [List.eq_of_mem_replicate hv']; exact h1)
  simp only [Nat.add_zero] at hst
  have hzc : (Builtin.zeroCells z.cells (m - lo)).toList = List.replicate (m - lo) z := by
   rw [hz]
   simp [Builtin.zeroCells]
   apply List.ext_getElem
   ·simp
   ·intro i h1 h2
    simp [Nat.mod_one]
  refine j0C (w' := _) (v := .tuple #[]) ?_ ⟨_, Z, ν, rfl, hs.write hr' (b := b) (by rw [hb]; rfl) (w' := w.setRow b (arr.toList.take lo ++ List.replicate (m - lo) z ++ arr.toList.drop (lo + (List.replicate (m - lo) z).length)).toArray) rfl rfl rfl (by simp) (fun k hk => setRow_other w b k _ hk) (fun hsv => ?_), trivial⟩
  ·obtain ⟨q, hq⟩ : ∃ q, m - lo = q + 1 := ⟨m - lo - 1, by omega⟩
   rw [hq] at hax hzc hst
   simp only [execOp, resolve, invoke, builtin, Sem.run_bind, Sem.run_pure, Result.andThen_ok, List.map_toArray, List.map_cons, List.map_nil, hax]
   simp [Builtin.clear_, run_underlying ht.und, hv, hzc, hst]
   rw [hq]
  ·refine .inr ⟨b, c, _, e1', e2, e3, setRow_heap w b arr _ ety _ e4, e5, e6, ?_, fun i hi j hj => ?_⟩
   ·rw [← e7]; simp; omega
   ·obtain rfl : j = 0 := by omega
    obtain ⟨u0, hu0, hk0⟩ := e8 i hi 0 zO
    simp only [Nat.mul_one, Nat.add_zero] at hu0 ⊢
    have hlt0 : i < arr.size := (Array.getElem?_eq_some_iff.1 hu0).1
    by_cases hil : lo ≤ i
    ·refine ⟨z, ?_, by unfold Q0E; rw [if_pos hil]; exact rfl⟩
     simp only [List.getElem?_toArray, List.append_assoc]
     rw [List.getElem?_append_right (by simp; omega), List.getElem?_append_left (by simp; omega)]
     rw [List.getElem?_replicate, if_pos (by simp; omega)]
    ·refine ⟨u0, ?_, by unfold Q0E; rw [if_neg hil]; exact hsv (.av _) _ hk0⟩
     simp only [List.getElem?_toArray, List.append_assoc]
     rw [List.getElem?_append_left (by simp; omega), List.getElem?_take_of_lt (by omega)]
     simpa using hu0
end
end Go.Vc
end
section
namespace Go.Vc
open Go Go.RowKit
section
variable {P : Program} {E : Env} {T T' : Tab} {O O' : Own} {o : Oper} {d : Option Tmp} {ty : TypeId} {pos : String} {af : Array Edge} {g : Option (Nat × Bool)}
theorem q1m {Z : j0q} {ν : j0W} {a : Act} {w : World} (hs : SatZ E Z ν T O a w) : ∀ {xs : List Operand} {τs : List AV}, xs.map (bAV T O) = τs → All2 (fun τ v => AV.ok (fun k => Z k ∨ (k < w.heap.size ∧ ¬ E.keep k)) w τ v) τs (xs.map a.eval)
 |[], _, h => by subst h; exact trivial
 |x :: xs, _, h => by subst h; exact ⟨Y1l hs x, q1m hs rfl⟩
theorem y1t {Z : j0q} {w : World} {n : Nat} {cf : Nat → AV} {cs : List Value} (hl : cs.length = n) (hcs : ∀ i, i < n → ∃ u, cs[i]? = some u ∧ (cf i).ok Z w u) : All2 (fun τ v => AV.ok Z w τ v) ((List.range n).map cf) cs := by
 have : ∀ (m k : Nat) (cf : Nat → AV) (cs : List Value), cs.length = m → (∀ i, i < m → ∃ u, cs[i]? = some u ∧ (cf (k + i)).ok Z w u) → All2 (fun τ v => AV.ok Z w τ v) ((List.range' k m).map cf) cs := by
  intro m
  induction m with
  |zero => intro k cf cs hl _; rw [List.length_eq_zero_iff.1 hl]; trivial
  |succ m ih =>
   intro k cf cs hl h
   match cs, hl with
   |c0 :: cs, hl =>
    rw [List.range'_succ, List.map_cons]
    obtain ⟨u, hu, hk⟩ := h 0 zO
    simp only [List.getElem?_cons_zero, Option.some.injEq] at hu
    subst hu
    refine ⟨hk, ih (k + 1) cf cs (by simpa using hl) (fun i hi => ?_)⟩
    obtain ⟨u, hu, hk⟩ := h (i + 1) zO
    exact ⟨u, by simpa using hu, by rw [show k + 1 + i = k + (i + 1) from by omega]; exact hk⟩
 rw [List.range_eq_range']
 exact this n 0 cf cs hl (fun i hi => by rw [Nat.zero_add]; exact hcs i hi)
theorem Z0L {R : AV → Value → Prop} : ∀ {l : List AV} {m : List Value} {l' m'}, All2 R l m → All2 R l' m' → All2 R (l ++ l') (m ++ m')
 |[], [], _, _, _, h2 => h2
 |_ :: _, _ :: _, _, _, h1, h2 => ⟨h1.1, Z0L h1.2 h2⟩
 |[], _ :: _, _, _, h1, _ => h1.elim
 |_ :: _, [], _, _, h1, _ => h1.elim
theorem Q0Q {f : FuncId} {c : Operand} {xs : List Operand} {ats : Array TypeId} {τs : List AV} {n : Nat} {cf : Nat → AV} {ety sz m : Nat} {fr : Nat → Nat → AV} (r : Nat) (hc : CtrR P f (τs ++ (List.range n).map cf) ety sz m fr []) (hf : T.ev c = .av (.clo f n cf)) (hx : xs.map (bAV T O) = τs)
  (hflat : ∀ i, i < m → ∀ j, j < sz → ∃ v, fr i j = .val v) (hp : Nat.blt r 1000 = true := by first | rfl | assumption) :
  VStep P E ⟨d, .call ⟨.value c, xs.toArray, ats⟩, ty, pos, af, g⟩ T O (T.kill r) ((r, .row ety sz m fr) :: Own.kill r O) (.osl r) := by
 refine ⟨by intro c; simp, fun Z ν a w hs => ?_⟩
 have hev := q1m hs hx
 have hfv := j0M hs c
 rw [hf] at hfv
 obtain ⟨cs, hfv, hl, hcs⟩ := hfv
 have hall := Z0L hev (y1t hl (fun i hi => let ⟨u, hu, hk⟩ := hcs i hi; ⟨u, hu, AV.ok_mono (fun _ h => .inl h) (Nat.le_refl _) (fun _ _ _ => rfl) _ _ hk⟩))
 refine q0o (f := f) (args := (xs.map a.eval ++ cs).toArray) ?_ ?_
 ·have hen := hc.enters (xs.map a.eval ++ cs).toArray w
  simp [execOp, resolve, Deferred.ofValue, hfv, invoke] at hen ⊢
  exact hen
 ·refine Calls.mono (hc.calls w _ _ (hs.base.zok.or (fun k hk => hk.1)) hall) ?_
  rintro e w' ⟨v, u, Z', rfl, hr, hb, h1, h2, h3, h4⟩
  have hr' : u = v := hr
  subst hr'
  refine ⟨u, rfl, u, Z, v0h ν r u, rfl, hs.calledRow hb (fun _ h => h) (fun _ h => .inl h) (fun k hk => Nat.lt_of_lt_of_le (hs.base.zLt k hk) hb.size) ?_ hp, (if_pos rfl : v0h ν r u r = u).symm⟩
  rcases h4 with h4 | ⟨b, cap, arr, e1, e2, e3, e4, e5, e6, e7, e8⟩
  ·exact .inl h4
  ·refine .inr ⟨b, cap, arr, e1, e2, fun hz => ?_, e4, e5, e6, e7, fun i hi j hj => ?_⟩
   ·have := hs.base.zLt b hz; omega
   ·obtain ⟨x, hx, hk⟩ := e8 i hi j hj
    obtain ⟨y, hy⟩ := hflat i hi j hj
    rw [hy] at hk ⊢
    exact ⟨x, hx, hk⟩
end
end Go.Vc
end
namespace Go.Vc
open Go Go.RowKit
theorem CV.ok_av {Z Z' : j0q} {ν : j0W} {w w' : World} (h : ∀ (τ : AV) (v : Value), τ.ok Z w v → τ.ok Z' w' v) (s : CV) (v : Value) (hs : s.ok Z ν w v) : s.ok Z' ν w' v := by
 cases s with
 |av τ => exact h τ v hs
 |own r off => exact hs
 |osl r => exact hs
theorem SV.ok_av {Z Z' : j0q} {ν : j0W} {w w' : World} (h : ∀ (τ : AV) (v : Value), τ.ok Z w v → τ.ok Z' w' v) (s : SV) (v : Value) (hs : s.ok Z ν w v) : s.ok Z' ν w' v := by
 cases s with
 |av τ => exact h τ v hs
 |own r off => exact hs
 |osl r => exact hs
 |oel r sz i j => exact hs
 |osx r sz lo len => exact hs
 |clo k cs => obtain ⟨vs, h1, h2⟩ := hs; exact ⟨vs, h1, h2.mono fun c _ u hu => CV.ok_av h c u hu⟩
 |tupR r ρs => obtain ⟨us, h1, h2⟩ := hs; exact ⟨us, h1, h2.mono fun c _ u hu => h c u hu⟩
 |agg cs => obtain ⟨vs, h1, h2⟩ := hs; exact ⟨vs, h1, h2.mono fun c _ u hu => CV.ok_av h c u hu⟩
 |tupC cs => obtain ⟨vs, h1, h2⟩ := hs; exact ⟨vs, h1, h2.mono fun c _ u hu => CV.ok_av h c u hu⟩
 |fnC k0 cs => obtain ⟨vs, h1, h2⟩ := hs; exact ⟨vs, h1, h2.mono fun c _ u hu => CV.ok_av h c u hu⟩
 |ocs r off len => exact hs
theorem Res.ok_env {E E' : Env} {Z Z' : j0q} {ν : j0W} {w w' : World} {v : Value} {x : Res} (h : x.ok E Z ν w v) (hav : ∀ (τ : AV) (v : Value), τ.ok Z w v → τ.ok Z' w' v)
  (hb : ∀ b, j0y v = some b → ¬ Z' b ∧ ¬ E'.keep b ∧ w'.heap[b]? = w.heap[b]?) : x.ok E' Z' ν w' v := by
 cases x with
 |cells cs =>
  obtain ⟨b', ty, arr, rfl, h2, h3, h4, h5, h6⟩ := h
  obtain ⟨q1, q2, q3⟩ := hb b' rfl
  exact ⟨b', ty, arr, rfl, q2, q1, q3.trans h4, h5, fun i s hi => let ⟨u, hu, hk⟩ := h6 i s hi; ⟨u, hu, SV.ok_av hav s u hk⟩⟩
 |row ty sz n f =>
  rcases h with h1 | ⟨b', cap, arr, rfl, h2, h3, h4, h5, h6, h7, h8⟩
  ·exact .inl h1
  ·obtain ⟨q1, q2, q3⟩ := hb b' rfl
   exact .inr ⟨b', cap, arr, rfl, q2, q1, q3.trans h4, h5, h6, h7, fun i hi j hj => let ⟨u, hu, hk⟩ := h8 i hi j hj; ⟨u, hu, hav _ _ hk⟩⟩
 |obj φ hφ =>
  obtain ⟨b', ob, e1, e2, e3, e4, e5⟩ := h
  obtain ⟨q1, q2, q3⟩ := hb b' e1
  exact ⟨b', ob, e1, q2, q1, q3.trans e4, hav (hφ.av ob) _ e5⟩
 |srow ty sz n cs =>
  rcases h with h1 | ⟨b', cap, arr, rfl, h2, h3, h4, h5, h6, h7, h8⟩
  ·exact .inl h1
  ·obtain ⟨q1, q2, q3⟩ := hb b' rfl
   exact .inr ⟨b', cap, arr, rfl, q2, q1, q3.trans h4, h5, h6, h7, fun i s hi => let ⟨u, hu, hk⟩ := h8 i s hi; ⟨u, hu, SV.ok_av hav s u hk⟩⟩
def X0V (O : Own) (ν : j0W) (k : Nat) : Prop := ∃ r, look O r ≠ none ∧ j0y (ν r) = some k
theorem SatZ.shift {E E' : Env} {Z Z' : j0q} {ν : j0W} {T : Tab} {O : Own} {a a' : Act} {w w' : World} (h : SatZ E Z ν T O a w) (hd : a'.defers = E'.marks) (hN : a'.tmps.size = E'.N)
  (hc : ∀ d v, E'.cst d = some v → a'.tmps.getD d undef = v) (hp : ∀ r v, E'.pin r = some v → ν r = v) (hb : Base E' Z' w') (hav : ∀ (τ : AV) (v : Value), τ.ok Z w v → τ.ok Z' w' v)
  (hown : ∀ r, look O r ≠ none → ∀ b, j0y (ν r) = some b → ¬ Z' b ∧ ¬ E'.keep b ∧ w'.heap[b]? = w.heap[b]?)
  (hsl : ∀ d, look T d ≠ none → a'.tmps.getD d undef = a.tmps.getD d undef) : SatZ E' Z' ν T O a' w' := by
 refine ⟨hd, hN, hc, hp, hb, ⟨fun r x hx => Res.ok_env (h.own.each r x hx) hav (hown r (by rw [hx]; simp)), h.own.apart⟩, fun d => ?_⟩
 by_cases hT : look T d = none
 ·simp only [Tab.get, hT]; trivial
 ·rw [hsl d hT]; exact SV.ok_av hav _ _ (h.slot d)
end Go.Vc
section
namespace Go.Vc
open Go Go.RowKit
class StrTy (P : Program) (t : TypeId) : Prop where
 und : P.underlying t = some .string
section
variable {P : Program} {E : Env} {T T' : Tab} {O O' : Own} {o : Oper} {d : Option Tmp} {ty : TypeId} {pos : String} {af : Array Edge} {g : Option (Nat × Bool)}
end
end Go.Vc
end
section
namespace Go.Vc
open Go Go.RowKit
section
variable {P : Program} {E : Env} {T T' : Tab} {O O' : Own} {o : Oper} {d : Option Tmp} {ty : TypeId} {pos : String} {af : Array Edge} {g : Option (Nat × Bool)}
theorem v1k {t : TypeId} {x : Operand} {u : Value} (r : Nat) (hx : T.ev x = .av (.val u)) (h1 : u.oneCell' = true) (hf : q0N r T O = true) (hp : Nat.blt r 1000 = true := by first | rfl | assumption) :
  VStep P E ⟨d, .box t x, ty, pos, af, g⟩ T O T ((r, .cells [.av (.val u)]) :: O) (.own r 0) := by
 refine VStep.fresh (r := r) ⟨by intro c; simp, fun Z ν a w hs => ?_⟩ hf
 have hv := j0M hs x
 rw [hx] at hv
 have hv' : a.eval x = u := hv
 refine j0C (w' := w.alloc (.cells (a.eval x).cells t)) (v := .pointer (some ⟨w.heap.size, 0, none⟩)) (by simp [execOp, Instr.box, newVar, newRow]) ?_
 refine ⟨_, Z, v0h ν r (.pointer (some ⟨w.heap.size, 0, none⟩)), rfl, hs.newRes r hp _ _ _ rfl (fun _ hk hnz => ?_), w.heap.size, by simp [v0h], rfl⟩
 have hc : (a.eval x).cells = #[u] := by rw [hv', cells_one h1]
 refine ⟨w.heap.size, t, (a.eval x).cells, rfl, hk, hnz, heap_alloc_new _ _, by rw [hc]; rfl, fun i s hs => ?_⟩
 match i, hs with
 |0, hs => simp only [List.getElem?_cons_zero, Option.some.injEq] at hs; subst hs; exact ⟨u, by rw [hc]; rfl, rfl⟩
 |i + 1, hs => simp at hs
theorem Q0d {t : TypeId} {x y : Operand} {r q off ety sz n : Nat} {cs : List SV} {f : Nat → Nat → AV} [ht : SizeTy P t 1] (hx : T.ev x = .own r off) (hy : T.ev y = .osl q) (hr : look O r = some (.cells cs)) (hq : look O q = some (.row ety sz n f)) (hfit' : Nat.ble (off + 1) cs.length = true) :
  GV P E ⟨d, .store t x y, ty, pos, af, g⟩ T O (.av .any) [r, q] [(r, .cells (spl cs off [.osl q]))] := by
 refine ⟨fun T' O' hT hO => ⟨by intro c; simp, fun Z ν a w hs => ?_⟩⟩
 have hfit : off + 1 ≤ cs.length := Nat.le_of_ble_eq_true hfit'
 have ex := j0M hs x
 rw [j0s (o := ⟨d, .store t x y, ty, pos, af, g⟩) hT (by simp [Op.operands]), hx] at ex
 have ey := j0M hs y
 rw [j0s (o := ⟨d, .store t x y, ty, pos, af, g⟩) hT (by simp [Op.operands]), hy] at ey
 obtain ⟨b, hb, hax⟩ := ex
 have hone : (a.eval y).oneCell' = true := by
  rw [show a.eval y = ν q from ey]
  rcases hs.own.each q _ (by rw [hO q (by simp)]; exact hq) with ⟨h, _⟩ | ⟨_, _, _, h, _⟩ <;> (rw [h]; rfl)
 obtain ⟨w', hst, hsat⟩ := hs.storeOwn (P := P) (ss := [.osl q]) (vs := [a.eval y]) (by rw [hO r (by simp)]; exact hr) hb hfit ⟨ey, trivial⟩ (by simpa using hone)
 unfold Oper.wp
 have hrun : (execOp a.eval ⟨d, .store t x y, ty, pos, af, g⟩).run P w = .ok .skip w' := by
  simp [execOp, Instr.storeAt, hax, Instr.sureAddr, storeVar, ht.run w, cells_one hone, hst]
 rw [hrun]
 exact ⟨Go.undef, Z, ν, rfl, hsat, trivial⟩
theorem k0n {r off : Nat} {cs : List SV} (q ety sz : Nat) (f : Nat → Nat → AV) (hr : look O r = some (.cells cs)) (hc : cs[off]? = some (.av (.val (.slice none 0 0)))) (hf : q0N q T O = true) (hp : Nat.blt q 1000 = true := by first | rfl | assumption) :
  Ent T O T ((r, .cells (cs.set off (.osl q))) :: (q, .row ety sz 0 f) :: O) := by
 rintro E a w ⟨Z, ν, h⟩
 obtain ⟨f1, f2⟩ := w0F hf
 have hk := h.kill q (.slice none 0 0) hp
 have hk' := hk.addRes q (.row ety sz 0 f) (.inl ⟨if_pos rfl, rfl⟩) (fun b hb => by rw [show v0h ν q (.slice none 0 0) q = .slice none 0 0 from if_pos rfl] at hb; simp [j0y] at hb)
 have hO : ∀ k, look ((q, Res.row ety sz 0 f) :: O) k = look ((q, Res.row ety sz 0 f) :: Own.kill q O) k := fun k => by
  by_cases hkr : q = k
  ·subst hkr; rw [j0g, j0g]
  ·rw [j0d _ _ hkr, j0d _ _ hkr, f2]
 have hrq : r ≠ q := by
  intro e
  subst e
  have := f2 r
  rw [Own.look_kill, if_pos rfl, hr] at this
  cases this
 have hq : v0h ν q (.slice none 0 0) q = .slice none 0 0 := if_pos rfl
 have each' : ∀ k x, look ((q, Res.row ety sz 0 f) :: O) k = some x → x.ok E Z (v0h ν q (.slice none 0 0)) w (v0h ν q (.slice none 0 0) k) := fun k x hx => hk'.own.each k x (by rw [← hO]; exact hx)
 have key : ∀ k, look ((r, Res.cells (cs.set off (.osl q))) :: (q, Res.row ety sz 0 f) :: O) k ≠ none → look ((q, Res.row ety sz 0 f) :: O) k ≠ none := fun k hk => by
  by_cases e : r = k
  ·subst e; rw [j0d _ _ (fun e => hrq e.symm), hr]; simp
  ·rwa [j0d _ _ e] at hk
 refine ⟨Z, v0h ν q (.slice none 0 0), hk'.defers, hk'.tsize, hk'.cst, hk'.pin, hk'.base, ⟨fun k y hy => ?_, fun k k' hne e1 e2 => hk'.own.apart k k' hne (by rw [← hO]; exact key k e1) (by rw [← hO]; exact key k' e2)⟩, fun d => by rw [← f1]; exact hk'.slot d⟩
 by_cases e : r = k
 ·subst e
  rw [j0g] at hy
  cases hy
  obtain ⟨b, ty', arr, e1, e2, e3, e4, e5, e6⟩ := each' r (.cells cs) (by rw [j0d _ _ (fun e => hrq e.symm)]; exact hr)
  refine ⟨b, ty', arr, e1, e2, e3, e4, by simpa using e5, fun i s hs => ?_⟩
  rw [List.getElem?_set] at hs
  by_cases hi : off = i
  ·subst hi
   have hlt := (List.getElem?_eq_some_iff.1 hc).1
   rw [if_pos rfl, if_pos hlt] at hs
   cases hs
   obtain ⟨u, hu, hk⟩ := e6 off _ hc
   exact ⟨u, hu, by rw [show u = Value.slice none 0 0 from hk]; exact hq.symm⟩
  ·rw [if_neg hi] at hs
   exact e6 i s hs
 ·rw [j0d _ _ e] at hy
  exact each' k y hy
end
end Go.Vc
end
namespace Go.Vc
open Go Go.RowKit
theorem v0n {T : Tab} {O : Own} (d r : Nat) {cs : List SV} (f : Nat → AV) (hd : T.get d = .own r 0) (hr : look O r = some (.cells cs)) (hcs : cs = (List.range cs.length).map (fun i => SV.av (f i))) :
  Ent T O ((d, .av (.ptr cs.length f)) :: T.frz r .any) (Own.drop r O) := by
 rintro E a w ⟨Z, ν, h⟩
 obtain ⟨b, ty, arr, e1, e2, e3, e4, e5, e6⟩ := h.own.each r _ hr
 have hlt := (Array.getElem?_eq_some_iff.1 e4).1
 have hav : ∀ (τ : AV) v, τ.ok Z w v → τ.ok (fun k => Z k ∨ k = b) w v := AV.ok_mono (fun _ h => .inl h) (Nat.le_refl _) (fun _ _ _ => rfl)
 refine ⟨fun k => Z k ∨ k = b, ν, h.defers, h.tsize, h.cst, h.pin, ⟨h.base.os, h.base.tape, h.base.output, h.base.size, h.base.keepLt, h.base.kept, h.base.zok.or (fun k hk => hk ▸ hlt), fun k hk => .inl (h.base.z0 k hk), fun k hk => ?_⟩, ⟨fun k x hx => ?_, fun k k' hne h1 h2 => ?_⟩, fun k => ?_⟩
 ·rcases hk with hk | rfl
  ·exact h.base.zNew k hk
  ·exact .inr e2
 ·rw [Own.look_drop] at hx
  by_cases hkr : k = r
  ·rw [if_pos hkr] at hx; cases hx
  ·rw [if_neg hkr] at hx
   refine Res.ok_env (h.own.each k x hx) hav (fun b' hb' => ?_)
   obtain ⟨q1, q3, q4⟩ := Res.blk_lt (h.own.each k x hx) hb'
   refine ⟨fun hz => ?_, q4, rfl⟩
   rcases hz with hz | rfl
   ·exact q3 hz
   ·exact h.own.apart r k (fun e => hkr e.symm) (by rw [hr]; simp) (by rw [hx]; simp) b' (by rw [e1]; rfl) hb'
 ·have hh : ∀ k, look (Own.drop r O) k ≠ none → look O k ≠ none := fun k hk => by
   rw [Own.look_drop] at hk
   by_cases hkr : k = r
   ·rw [if_pos hkr] at hk; exact absurd rfl hk
   ·rwa [if_neg hkr] at hk
  exact h.own.apart k k' hne (hh k h1) (hh k' h2)
 ·by_cases hk : d = k
  ·subst hk
   rw [Tab.get_cons_eq]
   have hs := h.slot d
   rw [hd] at hs
   obtain ⟨b', q1, q2⟩ := hs
   rw [e1] at q1
   cases q1
   refine ⟨b, 0, q2, fun _ => .inr rfl, hlt, fun i hi => ?_⟩
   have hci : cs[i]? = some (.av (f i)) := by
    rw [hcs]; simp [hi]
   obtain ⟨u, hu, hok⟩ := e6 i _ hci
   exact ⟨u, by simp only [World.cell?, e4, Nat.zero_add]; exact hu, hav _ _ hok⟩
  ·rw [Tab.get_cons_ne _ _ hk, Tab.get_frz]
   have hs := h.slot k
   generalize T.get k = s at hs
   have hsv := SV.ok_av (ν := ν) hav s _ hs
   cases s with
   |av σ => exact hsv
   |clo q cs' => simp only [SV.frz]; split <;> first | exact trivial | exact hsv
   |_ => simp only [SV.frz]; split <;> first | exact trivial | exact hsv
theorem x0I {T : Tab} {O : Own} : Ent T O T [] := fun _ _ _ ⟨Z, ν, h⟩ => ⟨Z, ν, h.defers, h.tsize, h.cst, h.pin, h.base, ⟨fun r x hx => by simp [look] at hx, fun r r' _ h1 => by simp [look] at h1⟩, h.slot⟩
end Go.Vc
section
namespace Go.Vc
open Go Go.RowKit
def SV.isOsl : SV → Bool | .osl _ => true | _ => false
section
variable {P : Program} {E : Env} {T T' : Tab} {O O' : Own} {o : Oper} {d : Option Tmp} {ty : TypeId} {pos : String} {af : Array Edge} {g : Option (Nat × Bool)}
theorem w0p {t : TypeId} {x y : Operand} {r off : Nat} {cs : List SV} {s : SV} [ht : SizeTy P t 1] (hx : T.ev x = .own r off) (hy : T.ev y = s) (h1 : s.one = true) (hr : look O r = some (.cells cs)) (hfit' : Nat.ble (off + 1) cs.length = true) (hns : s.isOsl = false) :
  GV P E ⟨d, .store t x y, ty, pos, af, g⟩ T O (.av .any) [r] [(r, .cells (spl cs off [s]))] := w0b hx hy h1 hr hfit' (fun k e => by subst e; cases hns)
end
end Go.Vc
end
namespace Go.Vc
open Go Go.RowKit
theorem z0W {E : Env} {T T' : Tab} {O O' : Own} {φ : Act → World → Prop} (h : Ent T O T' O') (hq : SQ E T' O' φ) : SQ E T O φ := fun a w hs => hq a w (h E a w hs)
end Go.Vc
section
namespace Go.Vc
open Go Go.RowKit
section
variable {P : Program} {E : Env} {T T' : Tab} {O O' : Own} {o : Oper} {d : Option Tmp} {ty : TypeId} {pos : String} {af : Array Edge} {g : Option (Nat × Bool)}
theorem v0S {x : Operand} {i : Nat} {τs : List AV} {τ : AV} (hx : T.ev x = .av (j0x τs)) (hi : τs[i]? = some τ) : GV P E ⟨d, .extract x i, ty, pos, af, g⟩ T O (.av τ) [] [] := by
 have hlt := (List.getElem?_eq_some_iff.1 hi).1
 have := v0X (P := P) (E := E) (O := O) (d := d) (ty := ty) (pos := pos) (af := af) (g := g) (i := i) hx hlt
 rw [show τs.getD i .any = τ by simp [List.getD, hi]] at this
 exact this
end
end Go.Vc
end
section
namespace Go.Vc
open Go Go.RowKit
section
variable {P : Program} {E : Env} {ops : Array Oper}
theorem k0i {Q : Exit → Act → World → Prop} {L : List Oper} (hops : ops = L.toArray) (hback : ∀ (j : Nat) o, L[j]? = some o → ∀ e ∈ o.after.toList, Region.binds .any e = true → e.on < j) :
  ∀ (tl L1 : List Oper) (fuel : Nat) (listed : Array Bool) (a : Act) (w : World), L = L1 ++ tl → (∀ i j : Nat, L1.length ≤ j → j < i → i < L.length → reach L 12 i j = true) → listed.size = L.length →
   (∀ j, listed.getD j false = decide (j < L1.length)) → tl.length ≤ fuel → wpListIn (fc E.round) 0 P ops Q tl a w → wpAnyIn (fc E.round) 0 P .any ops Q fuel listed a w
 |[], L1, fuel, listed, a, w, hL, _, hls, hfl, _, h => by
  have hr : Region.ready .any ops listed = [] := by
   simp only [Region.ready, List.filter_eq_nil_iff, List.mem_range, Bool.and_eq_true, not_and]
   intro i hi hni
   exfalso
   have hi2 : i < L1.length := by rw [hops] at hi; simp only [List.size_toArray, hL, List.append_nil] at hi; exact hi
   have h1 := hfl i
   have hi3 : i < listed.size := by rw [hls, hL]; simpa using hi2
   simp only [hi2, decide_true] at h1
   simp [Array.getD_eq_getD_getElem?, Array.getElem?_eq_getElem hi3] at hni h1
   rw [h1] at hni; cases hni
  cases fuel with
  |zero => exact ⟨hr, h⟩
  |succ f => exact ⟨fun _ => h, fun i hi => by rw [hr] at hi; cases hi⟩
 |o :: tl, L1, fuel, listed, a, w, hL, hre, hls, hfl, hfu, h => by
  obtain ⟨f, rfl⟩ : ∃ f, fuel = f + 1 := ⟨fuel - 1, by simp only [List.length_cons] at hfu; omega⟩
  have hlen : L.length = L1.length + (tl.length + 1) := by rw [hL]; simp
  have hk : L[L1.length]? = some o := by rw [hL]; simp
  have hko : ops[L1.length]? = some o := by rw [hops]; simpa using hk
  have hun : ∀ i, i < L.length → listed.getD i true = listed.getD i false := fun i hi => by
   simp [Array.getD_eq_getD_getElem?, Array.getElem?_eq_getElem (show i < listed.size by omega)]
  have hkr : L1.length ∈ Region.ready .any ops listed := by
   simp only [Region.ready, List.mem_filter, List.mem_range, Bool.and_eq_true]
   refine ⟨by rw [hops]; simp only [List.size_toArray]; omega, ?_, ?_⟩
   ·rw [hun _ (by omega), hfl]; simp
   ·rw [hko]
    simp only [Option.map_some, Option.getD_some]
    rw [Array.all_eq_true']
    intro e he
    cases hb : Region.binds .any e with
    |false => rfl
    |true =>
     have := hback _ o hk e (Array.mem_toList_iff.2 he) hb
     simp [hfl, this]
  refine ⟨fun hr => absurd (hr ▸ hkr) (by simp), fun i hi => ?_⟩
  simp only [Region.ready, List.mem_filter, List.mem_range, Bool.and_eq_true] at hi
  obtain ⟨hilt, hni, hedge⟩ := hi
  have hil : i < L.length := by rw [hops] at hilt; simpa using hilt
  have hnl : ¬ i < L1.length := by
   intro hlt
   rw [hun i hil, hfl] at hni
   simp [hlt] at hni
  have hik : i = L1.length := by
   by_cases hg : L1.length < i
   ·exfalso
    obtain ⟨o', ho'⟩ : ∃ o', L[i]? = some o' := ⟨_, List.getElem?_eq_getElem hil⟩
    have hoi : ops[i]? = some o' := by rw [hops]; simpa using ho'
    have hD : ∀ j, listed.getD j false = true → ∀ o, L[j]? = some o → ∀ e ∈ o.after.toList, Region.binds .any e = true → listed.getD e.on false = true := by
     intro j hj o2 ho2 e he hb
     rw [hfl] at hj ⊢
     have := hback j o2 ho2 e he hb
     simp only [decide_eq_true_eq] at hj ⊢
     omega
    have := q0p (l := L) (D := fun k => listed.getD k false = true) hD 12 i L1.length o' ho' (fun e he hb => by
     rw [hoi] at hedge
     simp only [Option.map_some, Option.getD_some, Array.all_eq_true'] at hedge
     have := hedge e (Array.mem_toList_iff.1 he)
     simpa [hb] using this) (hre i L1.length (Nat.le_refl _) hg hil)
    rw [hfl] at this
    simp at this
   ·omega
  subst hik
  have hrec : ∀ a' w', wpListIn (fc E.round) 0 P ops Q tl a' w' → wpAnyIn (fc E.round) 0 P .any ops Q f (listed.setIfInBounds L1.length true) a' w' := by
   intro a' w' h'
   refine k0i hops hback tl (L1 ++ [o]) f _ a' w' (by rw [hL]; simp) (fun i j h1 h2 h3 => hre i j (by simp at h1; omega) h2 h3) (by simp [hls]) ?_ (by simp only [List.length_cons] at hfu; omega) h'
   intro j
   by_cases hj : j = L1.length
   ·subst hj
    simp [Array.getD_eq_getD_getElem?, show L1.length < listed.size by omega]
   ·have h1 := hfl j
    have h2 : (listed.setIfInBounds L1.length true).getD j false = listed.getD j false := by
     simp [Array.getD_eq_getD_getElem?, Array.getElem?_setIfInBounds_ne (Ne.symm hj)]
    rw [h2, h1]
    simp only [List.length_append, List.length_cons, List.length_nil, decide_eq_decide]
    omega
  unfold wpOpIn
  simp only [hko]
  simp only [wpListIn] at h
  split
  ·rename_i hw
   rw [if_pos hw] at h
   exact Oper.wpIn_mono hrec h
  ·rename_i hw
   rw [if_neg hw] at h
   exact ⟨h.1, hrec _ _ h.2⟩
theorem V1s {Q : Exit → Act → World → Prop} {l : List (Oper × Rec)} {tl : List Oper} {T : Tab} {O : Own} (hops : ops = (l.map (·.1) ++ tl).toArray) (hdr : DR P E ops l T O) (hok : J0T ops l = true) (hfr : y0k l T O = true) (hne : 0 < tl.length)
  (hback : ∀ (j : Nat) o, (l.map (·.1) ++ tl)[j]? = some o → ∀ e ∈ o.after.toList, Region.binds .any e = true → e.on < j)
  (hre : ∀ i j : Nat, l.length ≤ i → j < i → i < l.length + tl.length → reach (l.map (·.1) ++ tl) 12 i j = true)
  (hQ : ∀ a w, Sat E (comp (fun _ => true) (l.map (·.2.tw)) T) (comp (fun _ => true) (l.map (·.2.upd)) O) a w → wpListIn (fc E.round) 0 P ops Q tl a w) :
  ∀ (fuel : Nat) (listed : Array Bool) (a : Act) (w : World), listed.size = l.length + tl.length →
   (∀ j, listed.getD j false = true → ∀ o, (l.map (·.1) ++ tl)[j]? = some o → ∀ e ∈ o.after.toList, Region.binds .any e = true → listed.getD e.on false = true) →
   (∀ t, t < tl.length → listed.getD (l.length + t) false = false) →
   (l.length + tl.length - fuel ≤ (listed.toList.filter id).length) →
   Sat E (comp (fun j => listed.getD j false) (l.map (·.2.tw)) T) (comp (fun j => listed.getD j false) (l.map (·.2.upd)) O) a w →
   wpAnyIn (fc E.round) 0 P .any ops Q fuel listed a w := by
 have hsz : ops.size = l.length + tl.length := by rw [hops]; simp
 have hop : ∀ i : Nat, i < l.length → ops[i]? = (l.map (·.1))[i]? := fun i hi => by rw [hops]; simp [List.getElem?_append_left, hi]
 have hcount0 : ∀ (listed : Array Bool), listed.size = l.length + tl.length → (∀ t, t < tl.length → listed.getD (l.length + t) false = false) → (listed.toList.filter id).length + tl.length ≤ l.length + tl.length := by
  intro listed hls ht
  have h1 : listed.toList = listed.toList.take l.length ++ listed.toList.drop l.length := (List.take_append_drop _ _).symm
  have h2 : (listed.toList.drop l.length).filter id = [] := by
   rw [List.filter_eq_nil_iff]
   intro b hb
   obtain ⟨t, ht', rfl⟩ := List.getElem_of_mem hb
   simp only [List.length_drop, Array.length_toList, hls] at ht'
   have h3 := ht t zO
   have h4 : l.length + t < listed.size := by omega
   simp [Array.getD_eq_getD_getElem?, Array.getElem?_eq_getElem h4] at h3
   simp [h3]
  rw [h1, List.filter_append, h2, List.append_nil]
  have := List.length_filter_le id (listed.toList.take l.length)
  have h5 : (listed.toList.take l.length).length ≤ l.length := by simp; omega
  omega
 intro fuel
 induction fuel with
 |zero =>
  intro listed a w hls hcl0 htail hcount hs
  have := hcount0 listed hls htail
  omega
 |succ fuel ih =>
  intro listed a w hls hcl0 htail hcount hs
  by_cases hfull : ∀ i, i < l.length → listed.getD i false = true
  ·refine k0i (L := l.map (·.1) ++ tl) hops hback tl (l.map (·.1)) (fuel + 1) listed a w rfl (fun i j h1 h2 h3 => hre i j (by simp at h1; omega) h2 (by simpa using h3)) (by simpa using hls) ?_ (by have := hcount0 listed hls htail; omega) ?_
   ·intro j
    simp only [List.length_map]
    by_cases hj : j < l.length
    ·rw [hfull j hj]; simp [hj]
    ·simp only [hj, decide_false]
     by_cases hj2 : j < l.length + tl.length
     ·have := htail (j - l.length) zO
      rwa [show l.length + (j - l.length) = j by omega] at this
     ·simp [Array.getD_eq_getD_getElem?, Array.getElem?_eq_none (show listed.size ≤ j by omega)]
   ·refine hQ a w (Sat.congr (fun d => ?_) (fun r => ?_) hs)
    ·unfold Tab.get
     rw [j0Z d (l.map (·.2.tw)) (fun _ => true) (fun j => listed.getD j false) T T rfl (fun j x hx _ => (hfull j (by
      have := (List.getElem?_eq_some_iff.1 hx).1; simpa using this)).symm)]
    ·exact j0Z r (l.map (·.2.upd)) (fun _ => true) (fun j => listed.getD j false) O O rfl (fun j x hx _ => (hfull j (by
      have := (List.getElem?_eq_some_iff.1 hx).1; simpa using this)).symm)
  have hcl : ∀ j, listed.getD j false = true → ∀ o, (l.map (·.1))[j]? = some o → ∀ e ∈ o.after.toList, Region.binds .any e = true → listed.getD e.on false = true := by
   intro j hj o ho e he hb
   exact hcl0 j hj o (by rw [List.getElem?_append_left (List.getElem?_eq_some_iff.1 ho).1]; exact ho) e he hb
  refine ⟨fun hr => ?_, fun i hi => ?_⟩
  ·exfalso
   refine hfull fun i => ?_
   induction i using Nat.strongRecOn with
   |_ i ih =>
    intro hi
    cases hl : listed.getD i false with
    |true => rfl
    |false =>
     exfalso
     have hmem : i ∈ Region.ready .any ops listed := by
      simp only [Region.ready, List.mem_filter, List.mem_range, Bool.and_eq_true]
      refine ⟨by omega, ?_, ?_⟩
      ·have : listed.getD i true = listed.getD i false := by
        simp [Array.getD_eq_getD_getElem?, Array.getElem?_eq_getElem (show i < listed.size by omega)]
       rw [this, hl]; rfl
      ·rw [hop i hi]
       obtain ⟨x, hx⟩ : ∃ x, l[i]? = some x := ⟨l[i], List.getElem?_eq_getElem hi⟩
       simp only [List.getElem?_map, hx, Option.map_some, Option.getD_some]
       rw [Array.all_eq_true']
       intro e he
       cases hb : Region.binds .any e with
       |false => rfl
       |true =>
        have hlt := hback i x.1 (by rw [List.getElem?_append_left (by simpa using hi)]; simp [hx]) e (Array.mem_toList_iff.2 he) hb
        simp [ih e.on hlt (by omega)]
     rw [hr] at hmem
     cases hmem
  simp only [Region.ready, List.mem_filter, List.mem_range, Bool.and_eq_true] at hi
  obtain ⟨hilt, hni, hedge⟩ := hi
  have hi' : i < listed.size := by omega
  have hil : i < l.length := by
   by_cases hh : i < l.length
   ·exact hh
   ·exfalso
    refine hfull fun j hj => ?_
    obtain ⟨o', ho'⟩ : ∃ o', (l.map (·.1) ++ tl)[i]? = some o' := ⟨_, List.getElem?_eq_getElem (by simp; omega)⟩
    have hoi : ops[i]? = some o' := by rw [hops]; simpa using ho'
    exact q0p (l := l.map (·.1) ++ tl) (D := fun k => listed.getD k false = true) hcl0 12 i j o' ho' (fun e he hb => by
     rw [hoi] at hedge
     simp only [Option.map_some, Option.getD_some, Array.all_eq_true'] at hedge
     have := hedge e (Array.mem_toList_iff.1 he)
     simpa [hb] using this) (hre i j (by omega) (by omega) (by omega))
  have hnf : listed.getD i false = false := by
   simp [Array.getD_eq_getD_getElem?, Array.getElem?_eq_getElem hi'] at hni ⊢
   exact hni
  obtain ⟨⟨o, x⟩, hx⟩ : ∃ x, l[i]? = some x := ⟨l[i], List.getElem?_eq_getElem hil⟩
  have hoi : ops[i]? = some o := by rw [hop i hil]; simp [hx]
  have hedges : ∀ e ∈ o.after.toList, Region.binds .any e = true → listed.getD e.on false = true := by
   intro e he hb
   rw [hoi] at hedge
   simp only [Option.map_some, Option.getD_some, Array.all_eq_true'] at hedge
   have := hedge e (Array.mem_toList_iff.1 he)
   simpa [hb] using this
  obtain ⟨hgs, hkeys⟩ := hdr.at i o x hx
  have hto : (l.map (·.1))[i]? = some o := by simp [hx]
  have horder : ∀ (j : Nat) (y : Oper × Rec), l[j]? = some y → j ≠ i → (meets ops (o, x) y = true → i < j → listed.getD j false = false) ∧ (meets ops y (o, x) = true → j < i → listed.getD j false = true) := by
   intro j y hy hne
   have hjl : j < l.length := (List.getElem?_eq_some_iff.1 hy).1
   refine ⟨fun hm hij => ?_, fun hm hji => ?_⟩
   ·have h1 := q0f hok hjl
    simp only [Bool.and_eq_true, hy] at h1
    have h2 := q0f h1.2 hij
    rw [x0M hx hy hm] at h2
    simp only [Bool.not_true, Bool.false_or] at h2
    cases hlj : listed.getD j false with
    |false => rfl
    |true =>
     have := q0p (l := l.map (·.1)) (D := fun k => listed.getD k false = true) hcl 4 j i y.1 (by simp [hy]) (hcl j hlj y.1 (by simp [hy])) h2
     rw [hnf] at this
     cases this
   ·have h1 := q0f hok hil
    simp only [Bool.and_eq_true, hx] at h1
    have h2 := q0f h1.2 hji
    rw [x0M hy hx hm] at h2
    simp only [Bool.not_true, Bool.false_or] at h2
    exact q0p (l := l.map (·.1)) (D := fun k => listed.getD k false = true) hcl 4 i j o hto hedges h2
  have hfl : ∀ (j : Nat) (y : Oper × Rec), l[j]? = some y → (meets ops (o, x) y = true ∧ meets ops y (o, x) = true) → listed.getD j false = Nat.blt j i := by
   intro j y hy hm
   by_cases hji : j = i
   ·subst hji
    rw [hnf]
    exact (Bool.eq_false_iff.2 fun h => absurd (j0G h) (Nat.lt_irrefl _)).symm
   ·rcases Nat.lt_or_gt_of_ne hji with h | h
    ·rw [(horder j y hy hji).2 hm.2 h]
     exact (Nat.ble_eq_true_of_le h).symm
    ·rw [(horder j y hy hji).1 hm.1 h]
     exact (Bool.eq_false_iff.2 fun h' => absurd (j0G h') zO).symm
  have hgsT := hgs.2 (comp (fun j => listed.getD j false) (l.map (·.2.tw)) T) (comp (fun j => listed.getD j false) (l.map (·.2.upd)) O) (by
   intro d hd
   unfold Tab.get
   rw [j0Z d (l.map (·.2.tw)) (fun j => listed.getD j false) (fun j => Nat.blt j i) T T rfl]
   intro j z hz hdz
   simp only [List.getElem?_map, Option.map_eq_some_iff] at hz
   obtain ⟨y, hy, rfl⟩ := hz
   refine hfl j y hy ?_
   have hky : keys y.2.tw = y.1.dst.toList := (hdr.at j y.1 y.2 (by simpa using hy)).2
   rw [hky] at hdz
   constructor
   ·simp only [meets, Bool.or_eq_true]; exact .inl (.inl (.inl (.inr (j0D hdz hd))))
   ·simp only [meets, Bool.or_eq_true]; exact .inl (.inl (.inl (.inl (.inl (j0D hdz hd)))))) (by
   intro r hr
   refine j0Z r (l.map (·.2.upd)) (fun j => listed.getD j false) (fun j => Nat.blt j i) O O rfl ?_
   intro j z hz hdz
   simp only [List.getElem?_map, Option.map_eq_some_iff] at hz
   obtain ⟨y, hy, rfl⟩ := hz
   refine hfl j y hy ⟨?_, ?_⟩
   ·simp only [meets, Bool.or_eq_true]; exact .inr (j0D hdz hr)
   ·simp only [meets, Bool.or_eq_true]; exact .inl (.inl (.inr (j0D hdz hr)))) (by
   intro r hr
   have h1 := q0f hfr hil
   simp only [hx, List.all_eq_true, Bool.and_eq_true] at h1
   obtain ⟨⟨hT0, hO0⟩, hat⟩ := h1 r hr
   have hrec : ∀ (j : Nat) (y : Oper × Rec), l[j]? = some y → listed.getD j false = true → y0l r y.2.tw = true ∧ y0j r y.2.upd = true := by
    intro j y hy hf
    have hjl : j < l.length := (List.getElem?_eq_some_iff.1 hy).1
    have h2 := q0f hat hjl
    simp only [hy, Bool.or_eq_true, Bool.and_eq_true] at h2
    rcases h2 with (h3 | h3) | h3
    ·have : j = i := Nat.eq_of_beq_eq_true h3
     subst this
     rw [hnf] at hf; cases hf
    ·exact h3
    ·exfalso
     have := q0p (l := l.map (·.1)) (D := fun k => listed.getD k false = true) hcl 4 j i y.1 (by simp [hy]) (hcl j hf y.1 (by simp [hy])) h3.2
     rw [hnf] at this; cases this
   refine ⟨fun d s hl => ?_, fun k z hl => ?_⟩
   ·rcases x0s _ _ _ hl with h3 | ⟨j, z, hz, hf, hl'⟩
    ·exact y0Q hT0 h3
    ·simp only [List.getElem?_map, Option.map_eq_some_iff] at hz
     obtain ⟨y, hy, rfl⟩ := hz
     exact y0Q (hrec j y hy hf).1 hl'
   ·rcases x0s _ _ _ hl with h3 | ⟨j, z', hz, hf, hl'⟩
    ·exact y0P hO0 h3
    ·simp only [List.getElem?_map, Option.map_eq_some_iff] at hz
     obtain ⟨y, hy, rfl⟩ := hz
     exact y0P (hrec j y hy hf).2 hl') a w hs
  have hnext : ∀ a' w', Sat E (x.tw ++ comp (fun j => listed.getD j false) (l.map (·.2.tw)) T) (x.upd ++ comp (fun j => listed.getD j false) (l.map (·.2.upd)) O) a' w' →
    wpAnyIn (fc E.round) 0 P .any ops Q fuel (listed.setIfInBounds i true) a' w' := by
   intro a' w' hs'
   have hget : ∀ j, (listed.setIfInBounds i true).getD j false = (listed.getD j false || Nat.beq j i) := by
    intro j
    by_cases hji : j = i
    ·subst hji
     simp [Array.getD_eq_getD_getElem?, hi']
    ·have hb : Nat.beq j i = false := by
      cases hb : Nat.beq j i with
      |false => rfl
      |true => exact absurd (Nat.eq_of_beq_eq_true hb) hji
     simp [Array.getD_eq_getD_getElem?, Array.getElem?_setIfInBounds_ne (Ne.symm hji), hb]
   refine ih _ a' w' (by simp [hls]) ?_ ?_ ?_ ?_
   ·intro j hj o' ho' e he hb
    rw [hget] at hj ⊢
    simp only [Bool.or_eq_true] at hj
    rcases hj with hj | hj
    ·rw [hcl0 j hj o' ho' e he hb]; rfl
    ·have : j = i := Nat.eq_of_beq_eq_true hj
     subst this
     rw [List.getElem?_append_left (by simpa using hil), hto] at ho'
     cases ho'
     rw [hedges e he hb]; rfl
   ·intro t ht
    rw [hget, htail t ht, Bool.false_or]
    exact Bool.eq_false_iff.2 fun h => by have := Nat.eq_of_beq_eq_true h; omega
   ·have : ((listed.setIfInBounds i true).toList.filter id).length = (listed.toList.filter id).length + 1 := by
     rw [Array.toList_setIfInBounds]
     have hli : listed.toList[i]? = some false := by
      have h0 : listed[i]? = some false := by
       rw [Array.getElem?_eq_getElem hi']
       simp [Array.getD_eq_getD_getElem?, Array.getElem?_eq_getElem hi'] at hnf
       rw [hnf]
      simpa using h0
     exact z0z _ _ hli
    omega
   ·have hT : ∀ d, look (comp (fun j => listed.getD j false || Nat.beq j i) (l.map (·.2.tw)) T) d = look (x.tw ++ comp (fun j => listed.getD j false) (l.map (·.2.tw)) T) d := by
     intro d
     refine y0B d (l.map (·.2.tw)) i x.tw (fun j => listed.getD j false) T (by simp [hx]) hnf ?_
     intro j z hz hij hfj k hk hkz
     simp only [List.getElem?_map, Option.map_eq_some_iff] at hz
     obtain ⟨y, hy, rfl⟩ := hz
     have hky : keys y.2.tw = y.1.dst.toList := (hdr.at j y.1 y.2 (by simpa using hy)).2
     rw [hkeys] at hk
     rw [hky] at hkz
     have hm : meets ops (o, x) y = true := by simp only [meets, Bool.or_eq_true]; exact .inl (.inl (.inl (.inl (.inr (j0D hk hkz)))))
     rw [(horder j y hy (by omega)).1 hm hij] at hfj
     cases hfj
    have hO : ∀ r, look (comp (fun j => listed.getD j false || Nat.beq j i) (l.map (·.2.upd)) O) r = look (x.upd ++ comp (fun j => listed.getD j false) (l.map (·.2.upd)) O) r := by
     intro r
     refine y0B r (l.map (·.2.upd)) i x.upd (fun j => listed.getD j false) O (by simp [hx]) hnf ?_
     intro j z hz hij hfj k hk hkz
     simp only [List.getElem?_map, Option.map_eq_some_iff] at hz
     obtain ⟨y, hy, rfl⟩ := hz
     have hm : meets ops (o, x) y = true := by simp only [meets, Bool.or_eq_true]; exact .inl (.inr (j0D hk hkz))
     rw [(horder j y hy (by omega)).1 hm hij] at hfj
     cases hfj
    simp only [hget]
    exact Sat.congr (fun d => by unfold Tab.get; rw [hT]) hO hs'
  unfold wpOpIn
  simp only [hoi]
  split
  ·rename_i hw
   rw [if_pos hw] at hgsT
   exact Oper.wp_in _ hgs.1 hgsT hnext
  ·rename_i hw
   rw [if_neg hw] at hgsT
   exact ⟨fun _ _ => trivial, hnext _ _ hgsT⟩
theorem Q0V {Q : Exit → Act → World → Prop} {id : Nat} {l : List (Oper × Rec)} {tl : List Oper} {T : Tab} {O : Own} (hm : P.follows .mixedOrders = true) (hops : ops = (l.map (·.1) ++ tl).toArray) (hdr : DR P E ops l T O) (hok : J0T ops l = true) (hfr : y0k l T O = true) (hne : 0 < tl.length)
  (hback : ∀ (j : Nat) o, (l.map (·.1) ++ tl)[j]? = some o → ∀ e ∈ o.after.toList, Region.binds .any e = true → e.on < j)
  (hre : ∀ i j : Nat, l.length ≤ i → j < i → i < l.length + tl.length → reach (l.map (·.1) ++ tl) 12 i j = true)
  (hQ : ∀ a w, Sat E (comp (fun _ => true) (l.map (·.2.tw)) T) (comp (fun _ => true) (l.map (·.2.upd)) O) a w → wpListIn (fc E.round) 0 P ops Q tl a w) : SQ E T O ((Code.region id ops true).wpIn (fc E.round) 0 P Q) := by
 intro a w hs
 refine wpIn_region_any hm ?_
 have hsz : ops.size = l.length + tl.length := by rw [hops]; simp
 have hf : ∀ j, (Array.replicate ops.size false).getD j false = false := by
  intro j
  simp [Array.getD_eq_getD_getElem?, Array.getElem?_replicate]
  split <;> simp
 refine V1s hops hdr hok hfr hne hback hre hQ ops.size _ a _ (by simp [hsz]) (fun j hj => ?_) (fun t _ => hf _) (by omega) ?_
 ·rw [hf] at hj; cases hj
 ·have c0 : ∀ {α : Type} (xs : List (List (Nat × α))) (fl : Nat → Bool), (∀ j, fl j = false) → ∀ A, comp fl xs A = A := by
   intro α xs
   induction xs with
   |nil => intro fl _ A; rfl
   |cons y ys ih => intro fl hf A; unfold comp; simp only [hf 0]; exact ih _ (fun j => hf (j + 1)) A
  rw [c0 _ _ hf, c0 _ _ hf]
  exact hs.drew
end
def Q1m (L : List Oper) (n : Nat) : Bool :=
 (below L.length fun j => match L[j]? with | some o => o.after.toList.all fun e => !Region.binds .any e || Nat.blt e.on j | none => true) &&
 (below L.length fun i => Nat.blt i n || below i fun j => reach L 12 i j)
section
variable {P : Program} {E : Env} {id : Nat} {L l : List Oper} {Q : Exit → Act → World → Prop} {rpre : List (Oper × Rec)} {T0 T : Tab} {O0 O : Own} {o : Oper}
theorem W0d (hm : P.follows .mixedOrders = true) (hok : (J0T L.toArray rpre.reverse && y0k rpre.reverse T0 O0 && Q1m L rpre.length) = true) (h : LSQ P E L.toArray Q (o :: l) T O) : DRQ P E id L Q rpre (o :: l) T0 O0 T O := by
 refine ⟨fun hL hp => ?_⟩
 simp only [Bool.and_eq_true, Q1m] at hok
 obtain ⟨⟨h1, h2⟩, h3, h4⟩ := hok
 refine Q0V (l := rpre.reverse) (tl := o :: l) hm (by rw [hL]) hp.dr h1 h2 (by simp) (fun j o' ho e he hb => ?_) (fun i j hi hj hlt => ?_) fun a w hs => h.sq a w (Sat.congr hp.tab hp.own hs)
 ·rw [← hL] at ho
  have hj := (List.getElem?_eq_some_iff.1 ho).1
  have := q0f h3 hj
  simp only [ho, List.all_eq_true] at this
  have h5 := this e he
  rw [hb] at h5
  simp only [Bool.not_true, Bool.false_or] at h5
  exact j0G h5
 ·rw [← hL]
  have hl : L.length = rpre.reverse.length + (o :: l).length := by rw [hL]; simp
  have h5 := q0f h4 (show i < L.length by omega)
  simp only [Bool.or_eq_true] at h5
  rcases h5 with h5 | h5
  ·have := j0G h5
   simp only [List.length_reverse] at hi
   omega
  ·exact q0f h5 hj
end
end Go.Vc
end
section
namespace Go.Vc
open Go Go.RowKit
def rnm (l : List (Nat × Nat)) (r : Nat) : Nat := match look l r with | some k => k | none => r
def CV.ren (f : Nat → Nat) : CV → CV
 |.av τ => .av τ
 |.own r off => .own (f r) off
 |.osl r => .osl (f r)
def SV.ren (f : Nat → Nat) : SV → SV
 |.av τ => .av τ
 |.own r off => .own (f r) off
 |.osl r => .osl (f r)
 |.oel r sz i j => .oel (f r) sz i j
 |.osx r sz lo len => .osx (f r) sz lo len
 |.clo k cs => .clo k (cs.map (CV.ren f))
 |.tupR r ρs => .tupR (f r) ρs
 |.agg cs => .agg (cs.map (CV.ren f))
 |.tupC cs => .tupC (cs.map (CV.ren f))
 |.fnC k cs => .fnC k (cs.map (CV.ren f))
 |.ocs r off len => .ocs (f r) off len
def Res.ren (f : Nat → Nat) : Res → Res
 |.cells cs => .cells (cs.map (SV.ren f))
 |.row ty sz n g => .row ty sz n g
 |.obj φ h => .obj φ h
 |.srow ty sz n cs => .srow ty sz n (cs.map (SV.ren f))
def Own.ren (f : Nat → Nat) (O : Own) : Own := O.map fun p => (f p.1, p.2.ren f)
theorem All2.map_iff {α β γ : Type} {R : β → γ → Prop} {g : α → β} : ∀ {l : List α} {m : List γ}, All2 R (l.map g) m ↔ All2 (fun a c => R (g a) c) l m
 |[], [] => Iff.rfl
 |[], _ :: _ => Iff.rfl
 |_ :: _, [] => Iff.rfl
 |_ :: _, _ :: _ => and_congr_right fun _ => All2.map_iff
theorem CV.ren_ok {Z : j0q} {ν : j0W} {w : World} {f : Nat → Nat} (c : CV) (v : Value) : (c.ren f).ok Z ν w v ↔ c.ok Z (fun r => ν (f r)) w v := by cases c <;> exact Iff.rfl
theorem SV.ren_ok {Z : j0q} {ν : j0W} {w : World} {f : Nat → Nat} (s : SV) (v : Value) : (s.ren f).ok Z ν w v ↔ s.ok Z (fun r => ν (f r)) w v := by
 cases s with
 |clo k cs =>
  refine exists_congr fun vs => and_congr_right fun _ => ?_
  rw [All2.map_iff]
  exact ⟨fun h => h.mono fun c _ u hu => (CV.ren_ok c u).1 hu, fun h => h.mono fun c _ u hu => (CV.ren_ok c u).2 hu⟩
 |agg cs =>
  refine exists_congr fun vs => and_congr_right fun _ => ?_
  rw [All2.map_iff]
  exact ⟨fun h => h.mono fun c _ u hu => (CV.ren_ok c u).1 hu, fun h => h.mono fun c _ u hu => (CV.ren_ok c u).2 hu⟩
 |tupC cs =>
  refine exists_congr fun vs => and_congr_right fun _ => ?_
  rw [All2.map_iff]
  exact ⟨fun h => h.mono fun c _ u hu => (CV.ren_ok c u).1 hu, fun h => h.mono fun c _ u hu => (CV.ren_ok c u).2 hu⟩
 |fnC k0 cs =>
  refine exists_congr fun vs => and_congr_right fun _ => ?_
  rw [All2.map_iff]
  exact ⟨fun h => h.mono fun c _ u hu => (CV.ren_ok c u).1 hu, fun h => h.mono fun c _ u hu => (CV.ren_ok c u).2 hu⟩
 |ocs _ _ _ => exact Iff.rfl
 |av _ => exact Iff.rfl
 |own _ _ => exact Iff.rfl
 |osl _ => exact Iff.rfl
 |oel _ _ _ _ => exact Iff.rfl
 |osx _ _ _ _ => exact Iff.rfl
 |tupR _ _ => exact Iff.rfl
theorem Res.ren_ok {E : Env} {Z : j0q} {ν : j0W} {w : World} {f : Nat → Nat} (x : Res) (v : Value) : (x.ren f).ok E Z ν w v ↔ x.ok E Z (fun r => ν (f r)) w v := by
 cases x with
 |row _ _ _ _ => exact Iff.rfl
 |obj _ _ => exact Iff.rfl
 |srow ty sz n cs =>
  have key : ∀ arr : Array Value, (∀ (i : Nat) (s : SV), (cs.map (SV.ren f))[i]? = some s → ∃ u, arr[i]? = some u ∧ s.ok Z ν w u) ↔ (∀ (i : Nat) (s : SV), cs[i]? = some s → ∃ u, arr[i]? = some u ∧ s.ok Z (fun r => ν (f r)) w u) := by
   intro arr
   refine ⟨fun h i s hs => ?_, fun h i s hs => ?_⟩
   ·obtain ⟨u, hu, hk⟩ := h i (s.ren f) (by simp [hs])
    exact ⟨u, hu, (SV.ren_ok s u).1 hk⟩
   ·simp only [List.getElem?_map, Option.map_eq_some_iff] at hs
    obtain ⟨s0, hs0, rfl⟩ := hs
    obtain ⟨u, hu, hk⟩ := h i s0 hs0
    exact ⟨u, hu, (SV.ren_ok s0 u).2 hk⟩
  simp only [Res.ren, Res.ok, List.length_map]
  exact or_congr Iff.rfl (exists_congr fun b => exists_congr fun cap => exists_congr fun arr => and_congr_right fun _ => and_congr_right fun _ => and_congr_right fun _ => and_congr_right fun _ => and_congr_right fun _ => and_congr_right fun _ => and_congr_right fun _ => key arr)
 |cells cs =>
  refine exists_congr fun b => exists_congr fun ty => exists_congr fun arr => and_congr_right fun _ => and_congr_right fun _ => and_congr_right fun _ => and_congr_right fun _ => ?_
  rw [List.length_map]
  refine and_congr_right fun _ => ⟨fun h i s hs => ?_, fun h i s hs => ?_⟩
  ·obtain ⟨u, hu, hk⟩ := h i (s.ren f) (by simp [hs])
   exact ⟨u, hu, (SV.ren_ok s u).1 hk⟩
  ·simp only [List.getElem?_map, Option.map_eq_some_iff] at hs
   obtain ⟨s0, hs0, rfl⟩ := hs
   obtain ⟨u, hu, hk⟩ := h i s0 hs0
   exact ⟨u, hu, (SV.ren_ok s0 u).2 hk⟩
def J1z (O : Own) (ν : j0W) (r : Nat) : Option Value := match Nat.blt r 1000 with | true => none | false => match look O r with | some _ => some (ν r) | none => none
def X0l (N : Nat) (w : World) (Z : j0q) (O : Own) (ν : j0W) : Env := { N := N, keep := fun k => k < w.heap.size ∧ ¬ X0V O ν k, w0 := w, Z0 := Z, pin := J1z O ν, pinHi := fun r h => by unfold J1z; rw [h] }
def Q1O (w : World) (Z : j0q) (ν : j0W) (O : Own) (res : SV) (O' : Own) (e : Ending) (w' : World) : Prop :=
 ∃ u Z' ν', e = .returned u ∧ Base (X0l 0 w Z O ν) Z' w' ∧ (∀ r, look O r ≠ none → ν' r = ν r) ∧ OwnOk (X0l 0 w Z O ν) O' Z' ν' w' ∧ res.ok Z' ν' w' u
structure CtrH (P : Program) (f : FuncId) (args : List SV) (O : Own) (res : SV) (O' : Own) : Prop where
 enters : Enters P f
 keys : ∀ r, look O r ≠ none → look O' r ≠ none
 calls : ∀ (w : World) (Z : j0q) (ν : j0W) (vs : List Value), ZOk Z w → All2 (fun s v => SV.ok Z ν w s v) args vs → OwnOk (X0l 0 w Z O ν) O Z ν w → Calls P f vs.toArray w (Q1O w Z ν O res O')
theorem y0x {N M : Nat} {w : World} {Z : j0q} {O : Own} {ν : j0W} {Z' : j0q} {w' : World} (h : Base (X0l N w Z O ν) Z' w') : Base (X0l M w Z O ν) Z' w' := ⟨h.os, h.tape, h.output, h.size, h.keepLt, h.kept, h.zok, h.z0, h.zNew⟩
theorem z0d {N M : Nat} {w : World} {Z : j0q} {O : Own} {ν : j0W} {Z' : j0q} {ν' : j0W} {w' : World} {O' : Own} (h : OwnOk (X0l N w Z O ν) O' Z' ν' w') : OwnOk (X0l M w Z O ν) O' Z' ν' w' := ⟨fun r x hx => by have := h.each r x hx; cases x <;> exact this, h.apart⟩
theorem q0w {α : Type} {O : List (Nat × α)} {r : Nat} (h : look O r ≠ none) : r ∈ O.map (·.1) := by
 obtain ⟨x, hx⟩ := Option.ne_none_iff_exists'.1 h
 exact List.mem_map.2 ⟨_, v0d hx, rfl⟩
theorem Q0t {α : Type} : ∀ {O : List (Nat × α)} {r : Nat}, r ∈ O.map (·.1) → look O r ≠ none
 |[], _, h => by simp at h
 |(k, y) :: O, r, h => by
  by_cases hk : k = r
  ·subst hk; rw [j0g]; simp
  ·rw [j0d _ _ hk]
   refine Q0t ?_
   simp only [List.map_cons, List.mem_cons] at h
   exact h.resolve_left (fun e => hk e.symm)
def V0v (O : Own) : Bool := O.all fun p => match Nat.blt p.1 1000 with | true => false | false => true
def J1C (O O' : Own) : Bool := O.all fun p => (look O' p.1).isSome
theorem v1N {O O' : Own} (h : J1C O O' = true) : ∀ r, look O r ≠ none → look O' r ≠ none := by
 intro r hr
 obtain ⟨p, hp, rfl⟩ := List.mem_map.1 (q0w hr)
 have := List.all_eq_true.1 h p hp
 intro e; rw [e] at this; cases this
theorem z0o {P : Program} {f : FuncId} {fn : Func} {c : Code} {args : List SV} {O : Own} {res : SV} {O' : Own} (N : Nat) (hf : P.funcs[f]? = some fn) (hb : fn.body = some c) (hname : (fn.name == "runtime.NumGoroutine") = false) (hN : fn.ntmps = N) (hlen' : Nat.ble args.length N = true) (hk : J1C O O' = true)
  (h : ∀ w Z ν, CQ P (X0l N w Z O ν) (bodyPost P fn (Q1O w Z ν O res O')) (y0o 0 args) O c) : CtrH P f args O res O' := by
 have hlen : args.length ≤ N := Nat.le_of_ble_eq_true hlen'
 refine ⟨fun vs w => ?_, v1N hk, fun w Z ν vs hZ hvs how => ?_⟩
 ·have hname' : fn.name ≠ "runtime.NumGoroutine" := by simpa using hname
  simp [callFunc, hf, hname', hb]
 ·refine calls_of_wp hf hb ?_
  have hl := hvs.len
  refine wpIn_wide.1 ((h w Z ν).sq _ w ⟨Z, ν, rfl, ?_, (fun _ _ h => by cases h), (fun r v hr => ?_), ⟨rfl, rfl, rfl, Nat.le_refl _, fun k hk => hk.1, fun _ _ => rfl, hZ, fun _ hk => hk, fun _ hk => .inl hk⟩, z0d how, fun d => ?_⟩)
  ·simp only [Array.size_append, List.size_toArray, Array.size_replicate, hN, X0l]; omega
  ·change J1z O ν r = some v at hr
   unfold J1z at hr
   split at hr
   ·cases hr
   ·split at hr
    ·cases hr; rfl
    ·cases hr
  ·rw [w0c, if_pos (Nat.zero_le _), Nat.sub_zero]
   by_cases hd : d < args.length
   ·have h1 : args.getD d (.av .any) = args[d] := by simp [List.getD, List.getElem?_eq_getElem hd]
    rw [h1]
    obtain ⟨u, hu, hk⟩ := hvs.get d args[d] (List.getElem?_eq_getElem hd)
    have : (vs.toArray ++ Array.replicate (fn.ntmps - vs.toArray.size) undef).getD d undef = u := by
     have hlt := (List.getElem?_eq_some_iff.1 hu).1
     rw [Array.getD_eq_getD_getElem?, Array.getElem?_append_left (by simpa using hlt)]
     simp [hu]
    rw [this]; exact hk
   ·have h1 : args.getD d (.av .any) = .av .any := by
     rw [List.getD, List.getElem?_eq_none (by simpa using hd)]; rfl
    rw [h1]; trivial
section
variable {P : Program} {fn : Func} {w : World} {Z : j0q} {ν : j0W} {N : Nat} {T : Tab} {O O' : Own} {res : SV}
theorem J0x (hhi : V0v O = true) {Z' : j0q} {ν' : j0W} {a : Act} {w' : World} {T' : Tab} {O1 : Own} (h : SatZ (X0l N w Z O ν) Z' ν' T' O1 a w') : ∀ r, look O r ≠ none → ν' r = ν r := by
 intro r hr
 refine h.pin r (ν r) ?_
 show J1z O ν r = _
 obtain ⟨p, hp, rfl⟩ := List.mem_map.1 (q0w hr)
 have := List.all_eq_true.1 hhi p hp
 unfold J1z
 split
 ·rename_i hbl; rw [hbl] at this; cases this
 ·obtain ⟨x, hx⟩ := Option.ne_none_iff_exists'.1 hr
  rw [hx]
theorem q0J {t : Nat} (hr : fn.results = #[.tmp t]) (hhi : V0v O = true) (ht : T.get t = res) : SQ (X0l N w Z O ν) T O' (bodyPost P fn (Q1O w Z ν O res O') .ret) := by
 rintro a w' ⟨Z', ν', h⟩
 have hs := h.slot t
 rw [ht] at hs
 exact bodyPost_ret (results_tmp hr a.tmps P w') h.defers ⟨_, Z', ν', rfl, y0x h.base, J0x hhi h, z0d h.own, hs⟩
theorem W0M (hr : fn.results = #[]) (hhi : V0v O = true) (hres : res = .av .any) : SQ (X0l N w Z O ν) T O' (bodyPost P fn (Q1O w Z ν O res O') .ret) := by
 rintro a w' ⟨Z', ν', h⟩
 subst hres
 exact bodyPost_ret (q0I (P := P) (fn := fn) (w := w') (tmps := a.tmps) (rvs := []) (vs := []) hr trivial) h.defers ⟨_, Z', ν', rfl, y0x h.base, J0x hhi h, z0d h.own, trivial⟩
end
end Go.Vc
end
section
namespace Go.Vc
open Go Go.RowKit
theorem y0Z {f : Nat → Nat} : ∀ {L : Own} {k : Nat} {y : Res}, look (Own.ren f L) k = some y → ∃ r x, look L r = some x ∧ f r = k ∧ y = x.ren f
 |[], k, y, h => by simp [Own.ren, look] at h
 |(r, x) :: L, k, y, h => by
  change look ((f r, x.ren f) :: Own.ren f L) k = some y at h
  by_cases hk : f r = k
  ·subst hk; rw [j0g] at h; cases h; exact ⟨r, x, j0g _ _ _, rfl, rfl⟩
  ·rw [j0d _ _ hk] at h
   obtain ⟨r', x', h1, h2, h3⟩ := y0Z h
   exact ⟨r', x', by rw [j0d _ _ (fun e => hk (by rw [e]; exact h2))]; exact h1, h2, h3⟩
theorem Q0r {f : Nat → Nat} : ∀ {L : Own} {r : Nat}, look L r ≠ none → look (Own.ren f L) (f r) ≠ none
 |[], r, h => by simp [look] at h
 |(k, x) :: L, r, h => by
  change look ((f k, x.ren f) :: Own.ren f L) (f r) ≠ none
  by_cases hk : f k = f r
  ·rw [hk, j0g]; simp
  ·rw [j0d _ _ hk]
   refine Q0r ?_
   rwa [j0d _ _ (fun e => hk (by rw [e]))] at h
theorem x0r {α : Type} : ∀ {A B : List (Nat × α)} {k : Nat}, look (A ++ B) k = match look A k with | some y => some y | none => look B k
 |[], _, _ => rfl
 |(r, x) :: A, B, k => by
  by_cases hk : r = k
  ·subst hk; rw [List.cons_append, j0g, j0g]
  ·rw [List.cons_append, j0d _ _ hk, j0d _ _ hk]; exact x0r
def CV.ref : CV → List Nat
 |.av _ => []
 |.own r _ => [r]
 |.osl r => [r]
def SV.ref : SV → List Nat
 |.av _ => []
 |.own r _ => [r]
 |.osl r => [r]
 |.oel r _ _ _ => [r]
 |.osx r _ _ _ => [r]
 |.clo _ cs => cs.flatMap CV.ref
 |.tupR r _ => [r]
 |.agg cs => cs.flatMap CV.ref
 |.tupC cs => cs.flatMap CV.ref
 |.fnC k cs => cs.flatMap CV.ref
 |.ocs r _ _ => [r]
theorem CV.ref_of {r : Nat} {c : CV} (h : c.mentions r = true) : r ∈ c.ref := by
 cases c with
 |av τ => cases h
 |own s o => simp only [CV.mentions] at h; simp [CV.ref, Nat.eq_of_beq_eq_true h]
 |osl s => simp only [CV.mentions] at h; simp [CV.ref, Nat.eq_of_beq_eq_true h]
theorem SV.ref_of {r : Nat} {s : SV} (h : s.mentions r = true) : r ∈ s.ref := by
 have hc : ∀ cs : List CV, cs.any (CV.mentions r) = true → r ∈ cs.flatMap CV.ref := fun cs h => by
  obtain ⟨c, hc, hm⟩ := List.any_eq_true.1 h
  exact List.mem_flatMap.2 ⟨c, hc, CV.ref_of hm⟩
 cases s with
 |av τ => cases h
 |own s o => simp only [SV.mentions] at h; simp [SV.ref, Nat.eq_of_beq_eq_true h]
 |osl s => simp only [SV.mentions] at h; simp [SV.ref, Nat.eq_of_beq_eq_true h]
 |oel s _ _ _ => simp only [SV.mentions] at h; simp [SV.ref, Nat.eq_of_beq_eq_true h]
 |osx s _ _ _ => simp only [SV.mentions] at h; simp [SV.ref, Nat.eq_of_beq_eq_true h]
 |clo k cs => exact hc cs h
 |tupR s _ => simp only [SV.mentions] at h; simp [SV.ref, Nat.eq_of_beq_eq_true h]
 |agg cs => exact hc cs h
 |tupC cs => exact hc cs h
 |fnC k0 cs => exact hc cs h
 |ocs s _ _ => simp only [SV.mentions] at h; simp [SV.ref, Nat.eq_of_beq_eq_true h]
theorem SV.mentions_of_ref {s : SV} {k : Nat} (hq : k ∈ s.ref) : s.mentions k = true := by
 cases s with
 |av τ => cases hq
 |own s o => simp only [SV.ref, List.mem_singleton] at hq; subst hq; simp [SV.mentions]
 |osl s => simp only [SV.ref, List.mem_singleton] at hq; subst hq; simp [SV.mentions]
 |oel s _ _ _ => simp only [SV.ref, List.mem_singleton] at hq; subst hq; simp [SV.mentions]
 |osx s _ _ _ => simp only [SV.ref, List.mem_singleton] at hq; subst hq; simp [SV.mentions]
 |tupR s _ => simp only [SV.ref, List.mem_singleton] at hq; subst hq; simp [SV.mentions]
 |clo f cs =>
  obtain ⟨c, hc, hq⟩ := List.mem_flatMap.1 hq
  refine List.any_eq_true.2 ⟨c, hc, ?_⟩
  cases c with
  |av τ => cases hq
  |own s o => simp only [CV.ref, List.mem_singleton] at hq; subst hq; simp [CV.mentions]
  |osl s => simp only [CV.ref, List.mem_singleton] at hq; subst hq; simp [CV.mentions]
 |agg cs =>
  obtain ⟨c, hc, hq⟩ := List.mem_flatMap.1 hq
  refine List.any_eq_true.2 ⟨c, hc, ?_⟩
  cases c with
  |av τ => cases hq
  |own s o => simp only [CV.ref, List.mem_singleton] at hq; subst hq; simp [CV.mentions]
  |osl s => simp only [CV.ref, List.mem_singleton] at hq; subst hq; simp [CV.mentions]
 |tupC cs =>
  obtain ⟨c, hc, hq⟩ := List.mem_flatMap.1 hq
  refine List.any_eq_true.2 ⟨c, hc, ?_⟩
  cases c with
  |av τ => cases hq
  |own s o => simp only [CV.ref, List.mem_singleton] at hq; subst hq; simp [CV.mentions]
  |osl s => simp only [CV.ref, List.mem_singleton] at hq; subst hq; simp [CV.mentions]
 |fnC k0 cs =>
  obtain ⟨c, hc, hq⟩ := List.mem_flatMap.1 hq
  refine List.any_eq_true.2 ⟨c, hc, ?_⟩
  cases c with
  |av τ => cases hq
  |own s o => simp only [CV.ref, List.mem_singleton] at hq; subst hq; simp [CV.mentions]
  |osl s => simp only [CV.ref, List.mem_singleton] at hq; subst hq; simp [CV.mentions]
 |ocs s _ _ => simp only [SV.ref, List.mem_singleton] at hq; subst hq; simp [SV.mentions]
def Res.ref : Res → List Nat
 |.cells cs => cs.flatMap SV.ref
 |.row .. => []
 |.obj .. => []
 |.srow _ _ _ cs => cs.flatMap SV.ref
def OwnSub (l : List (Nat × Nat)) (O : Own) : Own → Prop
 |[] => True
 |(r, x) :: O1 => look O (rnm l r) = some (x.ren (rnm l)) ∧ OwnSub l O O1
theorem OwnSub.get {l : List (Nat × Nat)} {O : Own} : ∀ {O1 : Own}, OwnSub l O O1 → ∀ {r x}, look O1 r = some x → look O (rnm l r) = some (x.ren (rnm l))
 |[], _, r, x, h => by simp [look] at h
 |(k, y) :: O1, hs, r, x, h => by
  by_cases hk : k = r
  ·subst hk; rw [j0g] at h; cases h; exact hs.1
  ·rw [j0d _ _ hk] at h; exact hs.2.get h
def X1V : List Nat → Bool
 |[] => true
 |a :: l => l.all (fun b => match Nat.beq a b with | true => false | false => true) && X1V l
theorem J0w {f : Nat → Nat} : ∀ {L : List Nat}, X1V (L.map f) = true → ∀ {x y}, x ∈ L → y ∈ L → f x = f y → x = y
 |[], _, x, _, hx, _, _ => by cases hx
 |a :: L, h, x, y, hx, hy, e => by
  simp only [List.map_cons, X1V, Bool.and_eq_true, List.all_eq_true] at h
  have key : ∀ z ∈ L, f a ≠ f z := fun z hz e => by
   have := h.1 (f z) (List.mem_map.2 ⟨z, hz, rfl⟩)
   rw [e, Nat.beq_refl] at this; cases this
  rcases List.mem_cons.1 hx with hx' | hx'
  ·rcases List.mem_cons.1 hy with hy' | hy'
   ·rw [hx', hy']
   ·rw [hx'] at e; exact absurd e (key y hy')
  ·rcases List.mem_cons.1 hy with hy' | hy'
   ·rw [hy'] at e; exact absurd e.symm (key x hx')
   ·exact J0w h.2 hx' hy' e
def y1b (T : Tab) (O : Own) (l : List (Nat × Nat)) (Oc O' : Own) (res : SV) : Bool :=
 X1V ((O'.map (·.1)).map (rnm l)) && (O'.all fun p => (look Oc p.1).isSome || (q0N (rnm l p.1) T O && Nat.blt (rnm l p.1) 1000)) && (O'.all fun p => p.2.ref.all fun r => (look O' r).isSome) && (res.ref.all fun r => (look O' r).isSome)
def nuB (l : List (Nat × Nat)) (O' : Own) (ν ν' : j0W) : j0W := fun k => match (O'.map (·.1)).find? (fun r => decide (rnm l r = k)) with | some r => ν' r | none => ν k
section
variable {P : Program} {E : Env} {T : Tab} {O Oc O' : Own} {l : List (Nat × Nat)} {Z Z' : j0q} {ν ν' : j0W} {a : Act} {w w' : World} {res : SV} {d : Option Tmp} {ty : TypeId} {pos : String} {af : Array Edge} {g : Option (Nat × Bool)}
theorem V0w (hinj : X1V ((O'.map (·.1)).map (rnm l)) = true) {r : Nat} (hr : look O' r ≠ none) : nuB l O' ν ν' (rnm l r) = ν' r := by
 unfold nuB
 have hm := q0w hr
 cases hf : (O'.map (·.1)).find? (fun q => decide (rnm l q = rnm l r)) with
 |none =>
  rw [List.find?_eq_none] at hf
  exact absurd (decide_eq_true rfl) (hf r hm)
 |some q =>
  have h1 := List.find?_some hf
  have h2 := List.mem_of_find?_eq_some hf
  rw [J0w hinj h2 hm (of_decide_eq_true h1)]
theorem Q0v (hν : ∀ r, look Oc r ≠ none → ν' r = ν (rnm l r)) {k : Nat} (hk : ∀ r, look O' r ≠ none → look Oc r = none → rnm l r ≠ k) : nuB l O' ν ν' k = ν k := by
 unfold nuB
 cases hf : (O'.map (·.1)).find? (fun q => decide (rnm l q = k)) with
 |none => rfl
 |some q =>
  have h1 : rnm l q = k := of_decide_eq_true (List.find?_some (p := fun q => decide (rnm l q = k)) hf)
  have h2 := Q0t (List.mem_of_find?_eq_some hf)
  have h3 : look Oc q ≠ none := fun e => hk q h2 e h1
  show ν' q = ν k
  rw [hν q h3, h1]
theorem J0Y {r : Nat} (h : q0N r T O = true) : (∀ d, (T.get d).mentions r = false) ∧ look O r = none ∧ ∀ k cs, look O k = some (.cells cs) → ∀ s ∈ cs, s.mentions r = false := by
 obtain ⟨h1, h2⟩ := w0F h
 have key : ∀ s : SV, s.kill r = s → s.mentions r = false := fun s e => by rw [← e]; exact SV.kill_mentions r s
 refine ⟨fun d => key _ (by rw [← Tab.get_kill]; exact h1 d), by rw [← h2 r, Own.look_kill, if_pos rfl], fun k cs hk s hs => key s ?_⟩
 have h3 := h2 k
 rw [Own.look_kill, hk] at h3
 split at h3
 ·cases h3
 ·simp only [Option.map_some, Res.kill, Option.some.injEq, Res.cells.injEq] at h3
  obtain ⟨i, hi, rfl⟩ := List.getElem_of_mem hs
  have := congrArg (fun l => l[i]?) h3
  simpa [hi] using this
theorem K0Y {r : Nat} (h : q0N r T O = true) : ∀ k ty sz n cs, look O k = some (.srow ty sz n cs) → ∀ s ∈ cs, s.mentions r = false := by
 obtain ⟨h1, h2⟩ := w0F h
 have key : ∀ s : SV, s.kill r = s → s.mentions r = false := fun s e => by rw [← e]; exact SV.kill_mentions r s
 refine fun k ty sz n cs hk s hs => key s ?_
 have h3 := h2 k
 rw [Own.look_kill, hk] at h3
 split at h3
 ·cases h3
 ·simp only [Option.map_some, Res.kill, Option.some.injEq, Res.srow.injEq] at h3
  obtain ⟨i, hi, rfl⟩ := List.getElem_of_mem hs
  have := congrArg (fun l => l[i]?) h3.2.2.2
  simpa [hi] using this
theorem Res.ok_nu {E : Env} {Z : j0q} {ν ν' : j0W} {w : World} {x : Res} {v : Value} (h : x.ok E Z ν w v) (hr : ∀ r ∈ x.ref, ν' r = ν r) : x.ok E Z ν' w v := by
 cases x with
 |row ty sz n f => exact h
 |obj φ hφ => exact h
 |srow ty sz n cs =>
  rcases h with h1 | ⟨b, cap, arr, h1, h2, h3, h4, h5, h6, h7, h8⟩
  ·exact .inl h1
  ·refine .inr ⟨b, cap, arr, h1, h2, h3, h4, h5, h6, h7, fun i s hs => ?_⟩
   obtain ⟨u, hu, hk⟩ := h8 i s hs
   exact ⟨u, hu, SV.ok_mono (fun _ h => h) (Nat.le_refl _) (fun _ _ _ => rfl) s u (fun r hm => hr r (List.mem_flatMap.2 ⟨s, List.mem_of_getElem? hs, SV.ref_of hm⟩)) hk⟩
 |cells cs =>
  obtain ⟨b, ty, arr, h1, h2, h3, h4, h5, h6⟩ := h
  refine ⟨b, ty, arr, h1, h2, h3, h4, h5, fun i s hs => ?_⟩
  obtain ⟨u, hu, hk⟩ := h6 i s hs
  exact ⟨u, hu, SV.ok_mono (fun _ h => h) (Nat.le_refl _) (fun _ _ _ => rfl) s u (fun r hm => hr r (List.mem_flatMap.2 ⟨s, List.mem_of_getElem? hs, SV.ref_of hm⟩)) hk⟩
theorem SatZ.calledH (h : SatZ E Z ν T O a w) (hsub : OwnSub l O Oc) (hok : y1b T O l Oc O' res = true)
  (hb : Base (X0l 0 w Z Oc (fun r => ν (rnm l r))) Z' w') (hν : ∀ r, look Oc r ≠ none → ν' r = ν (rnm l r)) (ho : OwnOk (X0l 0 w Z Oc (fun r => ν (rnm l r))) O' Z' ν' w') (hkeys : ∀ r, look Oc r ≠ none → look O' r ≠ none) :
  SatZ E Z' (nuB l O' ν ν') T (Own.ren (rnm l) O' ++ O) a w' := by
 simp only [y1b, Bool.and_eq_true, List.all_eq_true, Bool.or_eq_true] at hok
 obtain ⟨⟨⟨hinj, hnew⟩, hcl⟩, _⟩ := hok
 have hown : ∀ b, X0V Oc (fun r => ν (rnm l r)) b → ∃ r, look Oc r ≠ none ∧ look O (rnm l r) ≠ none ∧ j0y (ν (rnm l r)) = some b := by
  rintro b ⟨r, h1, h2⟩
  obtain ⟨x, hx⟩ := Option.ne_none_iff_exists'.1 h1
  exact ⟨r, h1, by rw [hsub.get hx]; simp, h2⟩
 have hownB : ∀ b, X0V Oc (fun r => ν (rnm l r)) b → b < w.heap.size ∧ ¬ Z b ∧ ¬ E.keep b := by
  intro b hbb
  obtain ⟨r, _, h2, h3⟩ := hown b hbb
  obtain ⟨y, hy⟩ := Option.ne_none_iff_exists'.1 h2
  exact Res.blk_lt (h.own.each _ y hy) h3
 have hnewF : ∀ r, look O' r ≠ none → look Oc r = none → q0N (rnm l r) T O = true ∧ Nat.blt (rnm l r) 1000 = true := by
  intro r hr hc
  obtain ⟨p, hp, rfl⟩ := List.mem_map.1 (q0w hr)
  rcases hnew p hp with h1 | h1
  ·rw [hc] at h1; cases h1
  ·exact h1
 have hkeepLt : ∀ k, E.keep k → k < w.heap.size := fun k hk => Nat.lt_of_lt_of_le (h.base.keepLt k hk) h.base.size
 have hZw : ∀ k, Z k → k < w.heap.size → w'.heap[k]? = w.heap[k]? := fun k hk hlt => hb.kept k ⟨hlt, fun ho => (hownB k ho).2.1 hk⟩
 have hav : ∀ (τ : AV) v, τ.ok Z w v → τ.ok Z' w' v := AV.ok_mono hb.z0 hb.size hZw
 have hlookN : ∀ k, look (Own.ren (rnm l) O') k = none → ∀ r, look O' r ≠ none → rnm l r ≠ k := fun k hk r hr e => by
  have := Q0r (f := rnm l) hr
  rw [e] at this; exact this hk
 have hnuO : ∀ k, look (Own.ren (rnm l) O') k = none → nuB l O' ν ν' k = ν k := fun k hk => Q0v hν (fun r hr _ => hlookN k hk r hr)
 have hblkH : ∀ k b, look (Own.ren (rnm l) O') k = none → look O k ≠ none → j0y (ν k) = some b → ¬ X0V Oc (fun r => ν (rnm l r)) b := by
  intro k b hk hOk hbk hob
  obtain ⟨r, h1, h2, h3⟩ := hown b hob
  exact h.own.apart (rnm l r) k (hlookN k hk r (hkeys r h1)) h2 hOk b h3 hbk
 have hslotν : ∀ (s : SV), (∀ r, look O' r ≠ none → look Oc r = none → s.mentions (rnm l r) = false) → ∀ k, s.mentions k = true → nuB l O' ν ν' k = ν k := fun s hs k hk =>
  Q0v hν (fun r h1 h2 e => by rw [← e, hs r h1 h2] at hk; cases hk)
 refine ⟨h.defers, h.tsize, h.cst, fun r v hr => ?_, ⟨hb.os.trans h.base.os, hb.tape.trans h.base.tape, hb.output.trans h.base.output, Nat.le_trans h.base.size hb.size, h.base.keepLt, fun k hk => ?_, hb.zok, fun k hk => hb.z0 k (h.base.z0 k hk), fun k hk => ?_⟩, ⟨fun k y hy => ?_, fun k k' hne e1 e2 b hb1 => ?_⟩, fun k => ?_⟩
 ·rw [Q0v hν (fun q h1 h2 e => ?_)]
  ·exact h.pin r v hr
  ·have := (hnewF q h1 h2).2
   rw [e] at this
   rw [E.pinHi r this] at hr; cases hr
 ·rw [hb.kept k ⟨hkeepLt k hk, fun ho => (hownB k ho).2.2 hk⟩]; exact h.base.kept k hk
 ·rcases hb.zNew k hk with h1 | h1
  ·exact h.base.zNew k h1
  ·refine .inr fun hkk => h1 ⟨hkeepLt k hkk, fun ho => (hownB k ho).2.2 hkk⟩
 ·rw [x0r] at hy
  cases hl : look (Own.ren (rnm l) O') k with
  |some y' =>
   rw [hl] at hy; dsimp only at hy; cases hy
   obtain ⟨r, x, h1, h2, h3⟩ := y0Z hl
   subst h2 h3
   rw [Res.ren_ok, V0w hinj (by rw [h1]; simp)]
   have hx := ho.each r x h1
   refine Res.ok_nu (ν := ν') ?_ (fun q hq => ?_)
   ·refine Res.ok_env hx (fun _ _ h => h) (fun b hbb => ?_)
    obtain ⟨q1, q2, q3⟩ := Res.blk_lt hx hbb
    refine ⟨q2, fun hk => q3 ⟨hkeepLt b hk, fun ho => (hownB b ho).2.2 hk⟩, rfl⟩
   ·refine V0w hinj ?_
    have := hcl (r, x) (v0d h1) q hq
    intro e; rw [e] at this; cases this
  |none =>
   rw [hl] at hy; dsimp only at hy
   have hOk : look O k ≠ none := by rw [hy]; simp
   rw [hnuO k hl]
   have hx := h.own.each k y hy
   refine Res.ok_nu (ν := ν) (Res.ok_env hx hav (fun b hbb => ?_)) (fun q hq => ?_)
   ·obtain ⟨q1, q2, q3⟩ := Res.blk_lt hx hbb
    have hno := hblkH k b hl hOk hbb
    refine ⟨fun hz => ?_, q3, hb.kept b ⟨q1, hno⟩⟩
    rcases hb.zNew b hz with h1 | h1
    ·exact q2 h1
    ·exact h1 ⟨q1, hno⟩
   ·cases y with
    |row ty sz n f => cases hq
    |obj φ hφ => cases hq
    |cells cs =>
     obtain ⟨s, hs, hq⟩ := List.mem_flatMap.1 hq
     refine Q0v hν (fun r h1 h2 e => ?_)
     have hff := (J0Y (hnewF r h1 h2).1).2.2 k cs hy s hs
     have : s.mentions (rnm l r) = true := by rw [e]; exact SV.mentions_of_ref hq
     rw [hff] at this; cases this
    |srow ty sz n cs =>
     obtain ⟨s, hs, hq⟩ := List.mem_flatMap.1 hq
     refine Q0v hν (fun r h1 h2 e => ?_)
     have hff := K0Y (hnewF r h1 h2).1 k ty sz n cs hy s hs
     have : s.mentions (rnm l r) = true := by rw [e]; exact SV.mentions_of_ref hq
     rw [hff] at this; cases this
 ·rw [x0r] at e1 e2
  cases hl : look (Own.ren (rnm l) O') k with
  |some y =>
   obtain ⟨r, x, h1, h2, _⟩ := y0Z hl
   subst h2
   have hr : look O' r ≠ none := by rw [h1]; simp
   rw [V0w hinj hr] at hb1
   cases hl' : look (Own.ren (rnm l) O') k' with
   |some y' =>
    obtain ⟨r', x', h1', h2', _⟩ := y0Z hl'
    subst h2'
    rw [V0w hinj (by rw [h1']; simp)]
    exact ho.apart r r' (fun e => hne (by rw [e])) hr (by rw [h1']; simp) b hb1
   |none =>
    rw [hl'] at e2; dsimp only at e2
    rw [hnuO k' hl']
    intro hb2
    obtain ⟨y', hy'⟩ := Option.ne_none_iff_exists'.1 e2
    have q1 := (Res.blk_lt (h.own.each k' y' hy') hb2).1
    exact (Res.blk_lt (ho.each r x h1) hb1).2.2 ⟨q1, hblkH k' b hl' e2 hb2⟩
  |none =>
   rw [hl] at e1; dsimp only at e1
   rw [hnuO k hl] at hb1
   cases hl' : look (Own.ren (rnm l) O') k' with
   |some y' =>
    obtain ⟨r', x', h1', h2', _⟩ := y0Z hl'
    subst h2'
    rw [V0w hinj (by rw [h1']; simp)]
    intro hb2
    obtain ⟨y, hy⟩ := Option.ne_none_iff_exists'.1 e1
    have q1 := (Res.blk_lt (h.own.each k y hy) hb1).1
    exact (Res.blk_lt (ho.each r' x' h1') hb2).2.2 ⟨q1, hblkH k b hl e1 hb1⟩
   |none =>
    rw [hl'] at e2; dsimp only at e2
    rw [hnuO k' hl']
    exact h.own.apart k k' hne e1 e2 b hb1
 ·exact SV.ok_mono hb.z0 hb.size hZw _ _ (fun r hm => hslotν _ (fun q h1 h2 => (J0Y (hnewF q h1 h2).1).1 k) r hm) (h.slot k)
end
end Go.Vc
end
section
namespace Go.Vc
open Go Go.RowKit
def CV.sv : CV → SV
 |.av τ => .av τ
 |.own r off => .own r off
 |.osl r => .osl r
theorem CV.sv_ok {Z : j0q} {ν : j0W} {w : World} {c : CV} {v : Value} : (c.sv).ok Z ν w v ↔ c.ok Z ν w v := by cases c <;> exact Iff.rfl
section
variable {P : Program} {E : Env} {T : Tab} {O Oc O' : Own} {d : Option Tmp} {ty : TypeId} {pos : String} {af : Array Edge} {g : Option (Nat × Bool)}
theorem J0W {Z : j0q} {ν : j0W} {a : Act} {w : World} (h : SatZ E Z ν T O a w) : ∀ {xs : List Operand} {ss : List SV}, xs.map T.ev = ss → All2 (fun s v => SV.ok Z ν w s v) ss (xs.map a.eval)
 |[], [], _ => trivial
 |x :: xs, s :: ss, he => by
  simp only [List.map_cons, List.cons.injEq] at he
  refine ⟨?_, J0W h he.2⟩
  have := j0M h x
  rw [he.1] at this
  exact this
 |[], _ :: _, he => by simp at he
 |_ :: _, [], he => by simp at he
theorem W0j {Z : j0q} {ν : j0W} {w : World} {f : Nat → Nat} {ss : List SV} {vs : List Value} (h : All2 (fun s v => SV.ok Z ν w s v) (ss.map (SV.ren f)) vs) : All2 (fun s v => SV.ok Z (fun r => ν (f r)) w s v) ss vs := by
 rw [All2.map_iff] at h
 exact h.mono fun s _ v hv => (SV.ren_ok s v).1 hv
theorem All2.app {α β : Type} {R : α → β → Prop} : ∀ {l : List α} {m : List β} {l' : List α} {m' : List β}, All2 R l m → All2 R l' m' → All2 R (l ++ l') (m ++ m')
 |[], [], _, _, _, h => h
 |_ :: _, _ :: _, _, _, h, h' => ⟨h.1, All2.app h.2 h'⟩
 |[], _ :: _, _, _, h, _ => h.elim
 |_ :: _, [], _, _, h, _ => h.elim
theorem W0u {l : List (Nat × Nat)} {res : SV} (hok : y1b T O l Oc O' res = true) (hk : ∀ r, look Oc r ≠ none → look O' r ≠ none) : ∀ r r', look Oc r ≠ none → look Oc r' ≠ none → rnm l r = rnm l r' → r = r' := by
 simp only [y1b, Bool.and_eq_true] at hok
 exact fun r r' h1 h2 e => J0w hok.1.1.1 (q0w (hk r h1)) (q0w (hk r' h2)) e
theorem OwnSub.own' {l : List (Nat × Nat)} {Z : j0q} {ν : j0W} {a : Act} {w : World} (h : SatZ E Z ν T O a w) (hsub : OwnSub l O Oc) (hinj : ∀ r r', look Oc r ≠ none → look Oc r' ≠ none → rnm l r = rnm l r' → r = r') : OwnOk (X0l 0 w Z Oc (fun r => ν (rnm l r))) Oc Z (fun r => ν (rnm l r)) w := by
 refine ⟨fun r x hx => ?_, fun r r' hne h1 h2 b hb1 => ?_⟩
 ·have hx' := h.own.each _ _ (hsub.get hx)
  rw [Res.ren_ok] at hx'
  refine Res.ok_env hx' (fun _ _ h => h) (fun b hbb => ⟨(Res.blk_lt hx' hbb).2.1, fun hk => hk.2 ⟨r, by rw [hx]; simp, hbb⟩, rfl⟩)
 ·obtain ⟨x, hx⟩ := Option.ne_none_iff_exists'.1 h1
  obtain ⟨x', hx'⟩ := Option.ne_none_iff_exists'.1 h2
  exact h.own.apart _ _ (fun e => hne (hinj r r' h1 h2 e)) (by rw [hsub.get hx]; simp) (by rw [hsub.get hx']; simp) b hb1
theorem W0G {l : List (Nat × Nat)} {res : SV} {Z : j0q} {ν ν' : j0W} {w : World} {v : Value} (hok : y1b T O l Oc O' res = true) (h : res.ok Z ν' w v) : (res.ren (rnm l)).ok Z (nuB l O' ν ν') w v := by
 simp only [y1b, Bool.and_eq_true, List.all_eq_true] at hok
 rw [SV.ren_ok]
 refine SV.ok_mono (fun _ h => h) (Nat.le_refl _) (fun _ _ _ => rfl) res v (fun r hm => V0w hok.1.1.1 ?_) h
 have := hok.2 r (SV.ref_of hm)
 intro e; rw [e] at this; cases this
theorem j0h {f : FuncId} {xs : List Operand} {ats : Array TypeId} {args : List SV} {res : SV} (l : List (Nat × Nat)) (hc : CtrH P f args Oc res O') (hx : xs.map T.ev = args.map (SV.ren (rnm l))) (hsub : OwnSub l O Oc) (hok : y1b T O l Oc O' res = true) :
  VStep P E ⟨d, .call ⟨.value (.func f), xs.toArray, ats⟩, ty, pos, af, g⟩ T O T (Own.ren (rnm l) O' ++ O) (res.ren (rnm l)) := by
 refine ⟨by intro c; simp, fun Z ν a w hs => ?_⟩
 have hev := W0j (J0W hs hx)
 refine q0o (f := f) (args := (xs.map a.eval).toArray) ?_ ?_
 ·have hen := hc.enters (xs.map a.eval).toArray w
  simp [execOp, resolve, Deferred.ofValue, Act.eval, invoke] at hen ⊢
  exact hen
 ·refine Calls.mono (hc.calls w Z _ _ hs.base.zok hev (hsub.own' hs (W0u hok hc.keys))) ?_
  rintro e w' ⟨u, Z', ν', rfl, hb, hν, ho, hr⟩
  exact ⟨u, rfl, u, Z', nuB l O' ν ν', rfl, hs.calledH hsub hok hb hν ho hc.keys, W0G hok hr⟩
theorem Y0w {f : FuncId} {c : Operand} {xs : List Operand} {ats : Array TypeId} {args : List SV} {caps : List CV} {res : SV} (l : List (Nat × Nat)) (hc : CtrH P f args Oc res O') (hf : T.ev c = .clo f caps) (hx : xs.map T.ev ++ caps.map CV.sv = args.map (SV.ren (rnm l))) (hsub : OwnSub l O Oc) (hok : y1b T O l Oc O' res = true) :
  VStep P E ⟨d, .call ⟨.value c, xs.toArray, ats⟩, ty, pos, af, g⟩ T O T (Own.ren (rnm l) O' ++ O) (res.ren (rnm l)) := by
 refine ⟨by intro c; simp, fun Z ν a w hs => ?_⟩
 have hfv := j0M hs c
 rw [hf] at hfv
 obtain ⟨cs, hfv, hcs⟩ := hfv
 have hev : All2 (fun s v => SV.ok Z ν w s v) (xs.map T.ev ++ caps.map CV.sv) (xs.map a.eval ++ cs) := by
  refine All2.app (J0W hs rfl) ?_
  rw [All2.map_iff]
  exact hcs.mono fun c _ v hv => CV.sv_ok.2 hv
 rw [hx] at hev
 have hev := W0j hev
 refine q0o (f := f) (args := (xs.map a.eval ++ cs).toArray) ?_ ?_
 ·have hen := hc.enters (xs.map a.eval ++ cs).toArray w
  have : (List.map a.eval xs).toArray ++ cs.toArray = (List.map a.eval xs ++ cs).toArray := by simp
  simp [execOp, resolve, Deferred.ofValue, hfv, invoke] at hen ⊢
  exact hen
 ·refine Calls.mono (hc.calls w Z _ _ hs.base.zok hev (hsub.own' hs (W0u hok hc.keys))) ?_
  rintro e w' ⟨u, Z', ν', rfl, hb, hν, ho, hr⟩
  exact ⟨u, rfl, u, Z', nuB l O' ν ν', rfl, hs.calledH hsub hok hb hν ho hc.keys, W0G hok hr⟩
theorem z0O {f : FuncId} {xs : List Operand} {caps : List CV} (hx : xs.map T.ev = caps.map CV.sv) :
  GV P E ⟨d, .makeFunc (.func f) #[] xs.toArray, ty, pos, af, g⟩ T O (.clo f caps) [] [] := by
 refine ⟨fun T' O' hT _ => ⟨by intro c; simp, fun Z ν a w hs => ?_⟩⟩
 have hx' : xs.map T'.ev = caps.map CV.sv := by
  rw [← hx]
  refine List.map_congr_left fun x hxm => j0s (o := ⟨d, .makeFunc (.func f) #[] xs.toArray, ty, pos, af, g⟩) hT ?_
  simp [Op.operands, hxm]
 have hev := J0W hs hx'
 rw [All2.map_iff] at hev
 refine j0C (w' := w) (v := .func (.func f) #[] (xs.map a.eval).toArray) (by simp [execOp, Instr.makeFunc]) ⟨_, Z, ν, rfl, hs, ?_⟩
 exact ⟨xs.map a.eval, rfl, hev.mono fun c _ v hv => CV.sv_ok.1 hv⟩
theorem v0r {x : Operand} {r off : Nat} (hx : T.ev x = .own r off) : GV P E ⟨d, .nilCheck x, ty, pos, af, g⟩ T O (.own r off) [] [] :=
 j0k [] fun Z ν a w h _ => by
  obtain ⟨b, hb, hax⟩ := Q0x hx (h x (by simp [Op.operands]))
  exact ⟨.pointer (some ⟨b, off, none⟩), by simp [execOp, hax], b, hb, rfl⟩
end
end Go.Vc
end
section
namespace Go.Vc
open Go Go.RowKit
section
variable {P : Program} {E : Env} {T T' : Tab} {O O' : Own} {o : Oper} {d : Option Tmp} {ty : TypeId} {pos : String} {af : Array Edge} {g : Option (Nat × Bool)}
theorem SatZ.copied {Z : j0q} {ν : j0W} {a : Act} {w : World} {r n ety b cap lo : Nat} {f f' : Nat → Nat → AV} {arr : Array Value} {cs : List Value} (h : SatZ E Z ν T O a w) (hr : look O r = some (.row ety 1 n f)) (hb : ν r = .slice (some ⟨b, 0, none⟩) n cap) (ha : w.heap[b]? = some (.cells arr ety (0, 0)))
  (hc : lo + cs.length ≤ n) (hcs : ∀ i u, cs[i]? = some u → (f' (lo + i) 0).ok Z w u) (hot : ∀ i, i < n → ¬ (lo ≤ i ∧ i < lo + cs.length) → f' i 0 = f i 0) :
  SatZ E Z ν T ((r, .row ety 1 n f') :: O) a (w.setRow b (arr.toList.take lo ++ cs ++ arr.toList.drop (lo + cs.length)).toArray) := by
 have hrow := h.own.each r _ hr
 refine h.write hr (b := b) (by rw [hb]; rfl) rfl rfl rfl (by simp) (fun k hk => setRow_other w b k _ hk) (fun hsv => ?_)
 rcases hrow with ⟨e1, e2⟩ | ⟨b', cap', arr', e1, e2, e3, e4, e5, e6, e7, e8⟩
 ·rw [hb] at e1; simp at e1
 ·rw [hb] at e1
  simp only [Value.slice.injEq, Option.some.injEq, Addr.mk.injEq, and_true, true_and] at e1
  obtain ⟨rfl, rfl⟩ := e1
  rw [ha] at e4
  cases e4
  refine .inr ⟨b, cap, _, hb, e2, e3, setRow_heap w b arr _ ety _ ha, e5, e6, ?_, fun i hi j hj => ?_⟩
  ·rw [← e7]; simp; omega
  ·obtain rfl : j = 0 := by omega
   obtain ⟨u0, hu0, hk0⟩ := e8 i hi 0 zO
   simp only [Nat.mul_one, Nat.add_zero] at hu0 ⊢
   have hlt0 : i < arr.size := (Array.getElem?_eq_some_iff.1 hu0).1
   by_cases h1 : i < lo
   ·refine ⟨u0, ?_, by rw [hot i hi (by omega)]; exact hsv (.av _) _ hk0⟩
    rw [List.getElem?_toArray, List.append_assoc, List.getElem?_append_left (by simp; omega), List.getElem?_take_of_lt (by omega)]
    simpa using hu0
   ·have hl : i - (arr.toList.take lo).length = i - lo := by simp; omega
    by_cases h2 : i < lo + cs.length
    ·have h3 : i - lo < cs.length := by omega
     have := hcs (i - lo) cs[i - lo] (by simp)
     rw [show lo + (i - lo) = i by omega] at this
     refine ⟨cs[i - lo], ?_, hsv (.av _) _ this⟩
     rw [List.getElem?_toArray, List.append_assoc, List.getElem?_append_right (by simp; omega), hl, List.getElem?_append_left h3]
     simp
    ·refine ⟨u0, ?_, by rw [hot i hi (by omega)]; exact hsv (.av _) _ hk0⟩
     rw [List.getElem?_toArray, List.append_assoc, List.getElem?_append_right (by simp; omega), hl, List.getElem?_append_right (by omega), List.getElem?_drop, show lo + cs.length + (i - lo - cs.length) = i by omega]
     simpa using hu0
theorem Y0j {e : TypeId} (h : ∀ w, (sizeOf e).run P w = .ok 1 w) : (P.info? e).map (·.size) = some 1 := by
 have h := h default
 unfold sizeOf at h
 cases hq : P.info? e with
 |none => simp [typeInfo, hq] at h
 |some i =>
  simp [typeInfo, hq] at h
  simp [h]
theorem k0q {t e : TypeId} {x y : Operand} {n sz bytes : Nat} {i i' : Int} (r : Nat) [ht : SlTy P t e sz] {zs : List Value} (hzs : zs.length = sz) (he : ∃ inf z, P.info? e = some inf ∧ inf.zero = some z ∧ inf.size = sz ∧ inf.bytes = bytes ∧ z.cells = zs.toArray ∧ 0 < sz)
  (hx : T.ev x = .av (.val (.int .i64 i))) (hy : T.ev y = .av (.val (.int .i64 i'))) (hi : i = ↑n) (hi' : i' = ↑n) (hn : n ≤ maxLen) (hby : n * bytes ≤ 140737488355328) (hf : q0N r T O = true) (hp : Nat.blt r 1000 = true := by first | rfl | assumption) :
  VStep P E ⟨d, .makeSlice t x y, ty, pos, af, g⟩ T O T ((r, .row e sz n (fun _ j => .val (zs.getD j undef))) :: O) (.osl r) := (Q1z (q := .i64) (q' := .i64) r hzs he hx hy hi hi' hn hby hp).fresh hf
theorem v1f {upd : Own} (h : X1Y O upd) : Ent T O T (upd ++ O) := by
 rintro E a w ⟨Z, ν, hs⟩
 have key : ∀ (upd : Own), X1Y O upd → ∀ k y, look upd k = some y → ∃ x, look O k = some x ∧ RLe x y := by
  intro upd
  induction upd with
  |nil => intro _ k y hy; simp [look] at hy
  |cons p U ih =>
   obtain ⟨q, x⟩ := p
   intro h k y hy
   by_cases hk : q = k
   ·subst hk; rw [j0g] at hy; cases hy; exact h.1
   ·rw [j0d _ _ hk] at hy; exact ih h.2 k y hy
 have hh : ∀ k, look (upd ++ O) k ≠ none → look O k ≠ none := by
  intro k hk
  rw [x0r] at hk
  cases hl : look upd k with
  |none => rw [hl] at hk; exact hk
  |some y => obtain ⟨x, hx, _⟩ := key upd h k y hl; rw [hx]; simp
 refine ⟨Z, ν, hs.defers, hs.tsize, hs.cst, hs.pin, hs.base, ⟨fun k y hy => ?_, fun k k' hne q1 q2 => hs.own.apart k k' hne (hh k q1) (hh k' q2)⟩, hs.slot⟩
 rw [x0r] at hy
 cases hl : look upd k with
 |none => rw [hl] at hy; exact hs.own.each k y hy
 |some z =>
  rw [hl] at hy; cases hy
  obtain ⟨x, hx, hr⟩ := key upd h k _ hl
  exact hr.ok (hs.own.each k x hx)
end
end Go.Vc
end
section
namespace Go.Vc
open Go Go.RowKit
section
variable {P : Program} {E : Env} {T T' : Tab} {O O' : Own} {o : Oper} {d : Option Tmp} {ty : TypeId} {pos : String} {af : Array Edge} {g : Option (Nat × Bool)}
theorem j2w {t e sz : Nat} (f : Nat → Nat → AV) (r : Nat) [ht : SlTy P t e sz] (hb : ∀ w, (Instr.buildSlice t 0 #[]).run P w = .ok (.slice (some ⟨w.heap.size, 0, none⟩) 0 0) (w.alloc (.cells #[] e))) (hp : Nat.blt r 1000 = true := by first | rfl | assumption) :
  VStep P E ⟨d, .buildSlice t 0 #[], ty, pos, af, g⟩ T O (T.kill r) ((r, .row e sz 0 f) :: Own.kill r O) (.osl r) := by
 refine ⟨by intro c; simp, fun Z ν a w hs => ?_⟩
 refine j0C (w' := w.alloc (.cells #[] e)) (v := .slice (some ⟨w.heap.size, 0, none⟩) 0 0) (by simp [execOp, hb])
  ⟨_, Z, v0h ν r (.slice (some ⟨w.heap.size, 0, none⟩) 0 0), rfl, hs.newRes r hp _ _ _ rfl (fun _ hk hnz => .inr ⟨w.heap.size, 0, _, rfl, hk, hnz, heap_alloc_new _ _, Nat.le_refl _, Nat.zero_le _, by simp, fun i hi => by omega⟩), (if_pos rfl : v0h ν r _ r = _).symm⟩
theorem K1I {t e sz : Nat} (f : Nat → Nat → AV) (r : Nat) [ht : SlTy P t e sz] (hb : ∀ w, (Instr.buildSlice t 0 #[]).run P w = .ok (.slice (some ⟨w.heap.size, 0, none⟩) 0 0) (w.alloc (.cells #[] e))) (hf : q0N r T O = true) (hp : Nat.blt r 1000 = true := by first | rfl | assumption) :
  VStep P E ⟨d, .buildSlice t 0 #[], ty, pos, af, g⟩ T O T ((r, .row e sz 0 f) :: O) (.osl r) := (j2w f r hb hp).fresh hf
theorem z0B {t t' : TypeId} {x y : Operand} {n sz : Nat} {row : Nat → Nat → AV} (hg : ∀ (a : Addr) (n c : Nat) (w : World), (eqGuard .eql t x y (.slice (some a) n c) (.slice none 0 0)).run P w = .ok () w) (hv : ∀ (a : Addr) (n c : Nat) (w : World), (binOp .eql t (.slice (some a) n c) (.slice none 0 0)).run P w = .ok (.bool false) w) (hx : T.ev x = .av (.sl n sz row)) (hy : T.ev y = .av (.val (.slice none 0 0))) (hn : 0 < n) :
  GV P E ⟨d, .binOp .eql t x y t', ty, pos, af, g⟩ T O (.av (.val (.bool false))) [] [] :=
 j0k [] fun Z ν a w h _ => by
  obtain ⟨p, c, e1, _, _, e4⟩ := j1y hx (h x (by simp [Op.operands]))
  obtain ⟨b, o', rfl, _⟩ := e4 hn
  have e2 := j0B hy (h y (by simp [Op.operands]))
  exact ⟨.bool false, Y0i e1 e2 (hg _ _ _ _) (hv _ _ _ _), rfl⟩
def K1y (l : List (Nat × Nat)) (T : Tab) : Tab → Prop
 |[] => True
 |(d, s) :: T' => T.get d = s.ren (rnm l) ∧ K1y l T T'
theorem v1e (l : List (Nat × Nat)) (hT : K1y l T T') (hsub : OwnSub l O O') (hinj : X1V ((O'.map (·.1)).map (rnm l)) = true) (hlo : (l.all fun p => Nat.blt p.1 1000) = true) : Ent T O T' O' := by
 rintro E a w ⟨Z, ν, h⟩
 refine ⟨Z, fun r => ν (rnm l r), h.defers, h.tsize, h.cst, fun r v hr => ?_, h.base, ⟨fun r x hx => ?_, fun r r' hne h1 h2 b hb1 => ?_⟩, ?_⟩
 ·have hr1 : Nat.blt r 1000 ≠ true := fun e => by rw [E.pinHi r e] at hr; cases hr
  have : rnm l r = r := by
   unfold rnm
   cases hl : look l r with
   |none => rfl
   |some k => exact absurd (List.all_eq_true.1 hlo _ (v0d hl)) hr1
  show ν (rnm l r) = v
  rw [this]; exact h.pin r v hr
 ·have hx' := h.own.each _ _ (hsub.get hx)
  rwa [Res.ren_ok] at hx'
 ·obtain ⟨x, hx⟩ := Option.ne_none_iff_exists'.1 h1
  obtain ⟨x', hx'⟩ := Option.ne_none_iff_exists'.1 h2
  exact h.own.apart _ _ (fun e => hne (J0w hinj (q0w h1) (q0w h2) e)) (by rw [hsub.get hx]; simp) (by rw [hsub.get hx']; simp) b hb1
 ·have key : ∀ T' : Tab, K1y l T T' → ∀ d, (T'.get d).ok Z (fun r => ν (rnm l r)) w (a.tmps.getD d undef) := by
   intro T'
   induction T' with
   |nil => intro _ d; trivial
   |cons p T' ih =>
    obtain ⟨k, s⟩ := p
    intro ht d
    by_cases hk : k = d
    ·subst hk; rw [Tab.get_cons_eq, ← SV.ren_ok, ← ht.1]; exact h.slot k
    ·rw [Tab.get_cons_ne _ _ hk]; exact ih ht.2 d
  exact key T' hT
end
end Go.Vc
end
section
end
section
end
section
namespace Go.Vc
open Go Go.RowKit
section
variable {P : Program} {E : Env} {T T' : Tab} {O O' : Own} {o : Oper} {d : Option Tmp} {ty : TypeId} {pos : String} {af : Array Edge} {g : Option (Nat × Bool)}
theorem V0h {t : TypeId} {x : Operand} {n : Nat} {f : Nat → AV} (hx : T.ev x = .av (.agg n f)) : GV P E ⟨d, .box t x, ty, pos, af, g⟩ T O (.av (.ptr n f)) [] [] := by
 refine ⟨fun T' O' hT _ => ⟨by intro c; simp, fun Z ν a w hs => ?_⟩⟩
 have hv := j0M hs x
 rw [j0s (o := ⟨d, .box t x, ty, pos, af, g⟩) hT (by simp [Op.operands]), hx] at hv
 obtain ⟨cs, hv', hl, hc⟩ := hv
 refine j0C (w' := w.alloc (.cells cs.toArray t)) (v := .pointer (some ⟨w.heap.size, 0, none⟩)) (by simp [execOp, Instr.box, newVar, newRow, hv', Value.cells]) ⟨_, _, ν, rfl, hs.allocRo _, ⟨w.heap.size, 0, rfl, fun _ => .inr rfl, by simp, fun i hi => ?_⟩⟩
 obtain ⟨u, hu, hk⟩ := hc i hi
 exact ⟨u, by rw [World.cell?_alloc_new, Nat.zero_add]; simpa using hu, AV.ok_mono (fun k hk => .inl hk) (by simp) (fun k _ hk => heap_old w _ hk) _ _ hk⟩
theorem v0q {t : TypeId} {x : Operand} {n k : Nat} {f : Nat → AV} [ht : AggTy P t k] (hx : T.ev x = .av (.ptr n f)) (hn' : Nat.ble k n = true) :
  GV P E ⟨d, .load t x, ty, pos, af, g⟩ T O (.av (.agg k f)) [] [] :=
 j0k [] fun Z ν a w h _ => by
  have hn : k ≤ n := Nat.le_of_ble_eq_true hn'
  obtain ⟨b, o, he, _, _, hc⟩ := Q0C hx (h x (by simp [Op.operands]))
  have hget : ∀ i, i < k → ∃ u, w.cell? ⟨b, o + i, none⟩ = some u ∧ (f i).ok Z w u := fun i hi => hc i zO
  have hl : ((List.range k).map fun i => (w.cell? ⟨b, o + i, none⟩).getD undef).length = k := by simp
  have hcs : ∀ i u, ((List.range k).map fun i => (w.cell? ⟨b, o + i, none⟩).getD undef)[i]? = some u → w.cell? ⟨b, o + i, none⟩ = some u := by
   intro i u hu
   simp only [List.getElem?_map, Option.map_eq_some_iff] at hu
   obtain ⟨i', hi', rfl⟩ := hu
   obtain ⟨hi, rfl⟩ := List.getElem?_eq_some_iff.1 hi'
   simp only [List.getElem_range, List.length_range] at hi ⊢
   obtain ⟨u, hu, _⟩ := hget i hi
   rw [hu]; rfl
  refine ⟨.agg ((List.range k).map fun i => (w.cell? ⟨b, o + i, none⟩).getD undef).toArray, ?_, _, rfl, hl, fun i hi => ?_⟩
  ·have hr := run_loadCells_list (P := P) (w := w) ⟨b, o, none⟩ ((List.range k).map fun i => (w.cell? ⟨b, o + i, none⟩).getD undef) (fun j v hj => by rw [j0Q]; exact hcs j v hj)
   rw [hl] at hr
   simp [execOp, Instr.loadAt, he, Instr.sureAddr, loadVar, ht.agg w, ht.size w, hr]
  ·obtain ⟨u, hu, hk⟩ := hget i hi
   exact ⟨u, by simp [hi, hu], hk⟩
theorem q0d {t : TypeId} {x y : Operand} {r off k : Nat} {cs : List SV} {f : Nat → AV} [ht : SizeTy P t k] (hx : T.ev x = .own r off) (hy : T.ev y = .av (.agg k f)) (h1 : ∀ i, i < k → (f i).one = true) (hr : look O r = some (.cells cs)) (hfit' : Nat.ble (off + k) cs.length = true) :
  GV P E ⟨d, .store t x y, ty, pos, af, g⟩ T O (.av .any) [r] [(r, .cells (spl cs off ((List.range k).map fun i => .av (f i))))] := by
 refine ⟨fun T' O' hT hO => ⟨by intro c; simp, fun Z ν a w hs => ?_⟩⟩
 have ex := j0M hs x
 rw [j0s (o := ⟨d, .store t x y, ty, pos, af, g⟩) hT (by simp [Op.operands]), hx] at ex
 have ey := j0M hs y
 rw [j0s (o := ⟨d, .store t x y, ty, pos, af, g⟩) hT (by simp [Op.operands]), hy] at ey
 obtain ⟨b, hb, hax⟩ := ex
 have hfit : off + k ≤ cs.length := Nat.le_of_ble_eq_true hfit'
 obtain ⟨us, hus, hl, hc⟩ := ey
 have hall : All2 (fun s v => SV.ok Z ν w s v) ((List.range k).map fun i => SV.av (f i)) us := by
  rw [All2.map_iff]
  subst hl
  have key : ∀ (us : List Value) (j : Nat), (∀ i, i < us.length → ∃ u, us[i]? = some u ∧ (f (j + i)).ok Z w u) → All2 (fun a c => SV.ok Z ν w (.av (f a)) c) (List.range' j us.length) us := by
   intro us
   induction us with
   |nil => intro j _; trivial
   |cons u us ih =>
    intro j h
    refine ⟨?_, ih (j + 1) fun i hi => ?_⟩
    ·obtain ⟨v, h1, h2⟩ := h 0 (by simp)
     simp only [List.getElem?_cons_zero, Option.some.injEq] at h1
     subst h1; exact h2
    ·obtain ⟨v, h1, h2⟩ := h (i + 1) (by simpa using hi)
     rw [List.getElem?_cons_succ] at h1
     exact ⟨v, h1, by rw [show j + 1 + i = j + (i + 1) by omega]; exact h2⟩
  rw [List.range_eq_range']
  exact key us 0 (fun i hi => by rw [Nat.zero_add]; exact hc i hi)
 have hone : ∀ v ∈ us, v.oneCell' = true := by
  intro v hv
  obtain ⟨i, hi, rfl⟩ := List.getElem_of_mem hv
  obtain ⟨u, hu, hk⟩ := hc i zO
  rw [List.getElem?_eq_getElem hi] at hu
  cases hu
  exact AV.one_cells (h1 i zO) hk
 obtain ⟨w', hst, hsat⟩ := hs.storeOwn (P := P) (ss := (List.range k).map fun i => SV.av (f i)) (vs := us) (by rw [hO r (by simp)]; exact hr) hb (by simpa using hfit) hall hone
 unfold Oper.wp
 have hrun : (execOp a.eval ⟨d, .store t x y, ty, pos, af, g⟩).run P w = .ok .skip w' := by
  have : (a.eval y).cells = us.toArray := by rw [hus]; rfl
  simp [execOp, Instr.storeAt, hax, Instr.sureAddr, storeVar, ht.run w, hus, Value.cells, hl, hst]
 rw [hrun]
 exact ⟨Go.undef, Z, ν, rfl, hsat, trivial⟩
end
end Go.Vc
end
section
namespace Go.Vc
open Go Go.RowKit
open Go.MapKept
open Go.WideElems (Fit rd rg pl rd_key rd_val rg_of rd_mk rd_stay other_key)
open Go.Maps (Keyed int_keyed keyOf_int_mk fit_look)
open Go.ChangeMaps (setBlock heap_setBlock_same modify_eq_set)
section
variable {P : Program} {E : Env} {T T' : Tab} {O O' : Own} {o : Oper} {d : Option Tmp} {ty : TypeId} {pos : String} {af : Array Edge} {g : Option (Nat × Bool)}
theorem V0j {xt yt : TypeId} {x y : Operand} {a b q : Bool} [hb : BoolTy P xt] (h1 : T.ev x = .av (.val (.bool a))) (h2 : T.ev y = .av (.val (.bool b))) (hq : (!(a == b)) = q) :
  GV P E ⟨d, .binOp .neq xt x y yt, ty, pos, af, g⟩ T O (.av (.val (.bool q))) [] [] :=
 x0X h1 h2 (fun w => by simp [eqGuard]) (fun w => by
  have h := run_equalIn_bool' (P := P) w 9999 xt a b hb.und
  subst hq
  simp [binOp, Op.equal, Op.maxDepth, h])
end
end Go.Vc
end
namespace Go.Vc
open Go Go.RowKit
def j1I (Z : j0q) (A B : World) : j0q := fun k => Z k ∨ (A.heap.size ≤ k ∧ k < B.heap.size)
def keepZ (Z : j0q) (A B : World) : Prop := B.os = A.os ∧ B.tape = A.tape ∧ B.output = A.output ∧ A.heap.size ≤ B.heap.size ∧ ∀ k, Z k → k < A.heap.size → B.heap[k]? = A.heap[k]?
theorem keepZ.trans {Z : j0q} {A B C : World} (h : keepZ Z A B) (k : keepZ Z B C) : keepZ Z A C :=
 ⟨k.1.trans h.1, k.2.1.trans h.2.1, k.2.2.1.trans h.2.2.1, Nat.le_trans h.2.2.2.1 k.2.2.2.1, fun i hi hl => (k.2.2.2.2 i hi (Nat.lt_of_lt_of_le hl h.2.2.2.1)).trans (h.2.2.2.2 i hi hl)⟩
theorem keepZ.putObj {Z : j0q} {W : World} {l : Nat} (o' : Obj) (hl : ¬ Z l) : keepZ Z W (W.putObj l o') :=
 ⟨rfl, rfl, rfl, by simp [World.putObj], fun k hz _ => World.putObj_heap_other (fun e => hl (by rw [← e]; exact hz))⟩
def j2G (P : Program) (gf : FuncId) (lb : Array Value) (V : Value → Prop) (τs : List AV) (Z0 : j0q) (w : World) : Prop :=
 ∀ (l : Nat) (J : List Value → j0q → World → Prop) (W : World), Below w.heap.size w W → (∀ s ZP A B, J s ZP A → A.grownBy B none → J s (j1I ZP A B) B) →
  (∀ pre x ZP A, J pre ZP A → V x → pre.length < τs.length → YieldAt Fence.wide 0 P l #[x] A fun e B => e = .returned (.bool true) ∧ J (pre ++ [x]) ZP B ∧ keepZ ZP A B) → J [] Z0 W →
  CallsIn Fence.wide 1 P gf (#[.func (.yield l) #[] #[]] ++ lb) W fun e W' => (∃ v, e = .returned v) ∧ ∃ xs ZP, All2 (fun τ v => AV.ok ZP W' τ v) τs xs ∧ J xs ZP W'
def bk (w : World) (k : Nat) : Prop := k = w.heap.size ∨ k = w.heap.size + 1
def X1N (w W : World) : Prop := ∀ k, bk w k → ∃ o, W.heap[k]? = some o ∧ o.isCells = false
theorem Z0I {P : Program} {g : Operand} {p : Tmp} {assign body : Code} {Q : Exit → Act → World → Prop} {a : Act} {w : World} {gf : Nat} {lb : Array Value} {V : Value → Prop} {τs : List AV} {Z0 : j0q}
  (hg : a.eval g = .func (.func gf) #[] lb) (eg : ∀ args w, (callFunc gf args).run P w = .ok (.enter gf args) w) (hseq : j2G P gf lb V τs Z0 w) (hz : ∀ k, Z0 k → k < w.heap.size)
  (I : List Value → j0q → World → Prop) (hg1 : ∀ s ZP A B, I s ZP A → A.grownBy B none → w.heap.size + 2 ≤ A.heap.size → I s (j1I ZP A B) B)
  (hg2 : ∀ s ZP A B row, I s ZP A → A.grownBy B row → (∀ r, row = some r → bk w r ∧ X1N w A) → I s ZP B) (h0 : I [] Z0 w)
  (IA : List Value → Value → j0q → Act → World → Prop)
  (hIA : ∀ s x ZP a' A l o', IA s x ZP a' A → bk w l → X1N w A → IA s x ZP a' (A.putObj l o'))
  (hassign : ∀ (l : Nat) (pre : List Value) (x : Value) (ZP : j0q) (W : World) (K : Act → World → Prop), V x → I pre ZP W → X1N w W → (∀ a' W', (∀ k, bk w k → W'.heap[k]? = W.heap[k]?) → keepZ ZP W W' → IA pre x ZP a' W' → K a' W') →
   assign.wpIn (Fence.wide.inRound l) 0 P (Exit.then K (fun _ _ _ => False)) { tmps := a.tmps.setIfInBounds p x, defers := [] } W)
  (hbody : ∀ (l : Nat) (pre : List Value) (x : Value) (ZP : j0q) (a' : Act) (W : World), V x → IA pre x ZP a' W → pre.length < τs.length → X1N w W →
   body.wpIn (Fence.wide.inRound l) 0 P (fun e _ W' => e = .normal ∧ (∀ k, bk w k → W'.heap[k]? = W.heap[k]?) ∧ keepZ ZP W W' ∧ I (pre ++ [x]) ZP W') a' W)
  (hdone : ∀ (D : Nat) (xs : List Value) (ZP : j0q) (W : World), D = w.heap.size → All2 (fun τ v => AV.ok ZP W τ v) τs xs → I xs ZP W → W.heap[D]? = some (.deferred (some [])) → Q .normal { a with defers := { target := .collected D, args := #[] } :: a.defers } W) :
  (Code.rangeFunc g #[p] assign body).wpIn Fence.wide 2 P Q a w := by
 refine wpIn_rangeFunc fun fn hfn => ?_
 obtain ⟨rec, hrec⟩ : ∃ rec : LoopState → Option Code → Loop, rec = fun st pe => { state := st, pending := pe, fn, tmps := a.tmps, params := #[p], assign, body, defers := w.heap.size } := ⟨_, rfl⟩
 obtain ⟨W1, hW1⟩ : ∃ W1, (w.alloc (.deferred (some []))).alloc (.loop (rec .ready none)) = W1 := ⟨_, rfl⟩
 have hL1 : W1.heap[w.heap.size + 1]? = some (.loop (rec .ready none)) := by
  have := World.alloc_heap_new (w.alloc (.deferred (some []))) (.loop (rec .ready none))
  rw [← hW1]
  rwa [World.size_alloc] at this
 have hK1 : W1.heap[w.heap.size]? = some (.deferred (some [])) := by
  rw [← hW1]
  exact (Below.heap_alloc _ _ _ (by simp)).trans (World.alloc_heap_new w _)
 have hI1 : I [] Z0 W1 := by
  rw [← hW1]
  exact hg2 _ _ _ _ none (hg2 _ _ _ _ none h0 (World.grownBy_alloc w _ none) (fun r e => by cases e)) (World.grownBy_alloc _ _ none) (fun r e => by cases e)
 have hb1 : Below w.heap.size w W1 := by
  rw [← hW1]
  exact ((Below.refl _ w).alloc (Nat.le_refl _) _).alloc (by simp) _
 have hZ0 : ∀ k, w.heap.size ≤ k → ¬ Z0 k := fun k hk q => by have := hz k q; omega
 have hbk : ∀ {W : World} {r : Loop} {d : Obj}, W.heap[w.heap.size + 1]? = some (.loop r) → W.heap[w.heap.size]? = some (.deferred (some [])) → X1N w W := fun h1 h2 k hk => by
  rcases hk with rfl | rfl
  ·exact ⟨_, h2, rfl⟩
  ·exact ⟨_, h1, rfl⟩
 refine ⟨w.heap.size + 1, [{ target := .collected w.heap.size, args := #[] }], W1, { target := .fn (.func gf) lb, args := #[.func (.yield (w.heap.size + 1)) #[] #[]] }, W1, gf,
  #[.func (.yield (w.heap.size + 1)) #[] #[]] ++ lb, W1, ?_, ?_, ?_, ?_, fun h => (by cases h), ?_⟩
 ·rw [← hW1, hrec]
  exact run_enterLoop_outer _ _ _ _ _
 ·simp only [resolve, hg]
  simp [go_sem]
 ·intro f' hf'
  simp [Target.leads] at hf'
  subst hf'
  trivial
 ·simp [invoke, go_sem, eg]
 ·have hinv := hseq (w.heap.size + 1)
   (fun pre ZP W => I pre ZP W ∧ W.heap[w.heap.size + 1]? = some (.loop (rec .ready none)) ∧ W.heap[w.heap.size]? = some (.deferred (some [])) ∧ ¬ ZP w.heap.size ∧ ¬ ZP (w.heap.size + 1))
   W1 hb1 ?_ ?_ ⟨hI1, hL1, hK1, hZ0 _ (Nat.le_refl _), hZ0 _ zO⟩
  ·refine hinv.mono ?_
   rintro e W2 ⟨⟨v, rfl⟩, xs, ZP, hR, hi, hl, hk, hz1, hz2⟩
   have hend := run_endLoop (P := P) hl (by rw [hrec]; simp)
   rw [hrec] at hend
   refine ⟨none, _, hend, hdone _ xs ZP _ rfl ?_ (hg2 _ _ _ _ (some (w.heap.size + 1)) hi (grownBy_putObj' _ _ _) (fun r e => by cases e; exact ⟨.inr rfl, hbk (d := .deferred none) hl hk⟩)) ((World.putObj_heap_other zO).trans hk)⟩
   refine hR.mono fun τ _ v hv => AV.ok_mono (fun _ q => q) (by simp [World.putObj]) (fun k q _ => World.putObj_heap_other (fun e => hz2 (by rw [← e]; exact q))) τ v hv
  ·rintro s ZP A B ⟨hi, hl, hk, hz1, hz2⟩ hgr
   have hlA := (Array.getElem?_eq_some_iff.1 hl).1
   refine ⟨hg1 _ _ _ _ hi hgr (by omega), (hgr.block _ hlA (by simp)).trans hl, (hgr.block _ (by omega) (by simp)).trans hk, ?_, ?_⟩
   ·rintro (q | q)
    ·exact hz1 q
    ·omega
   ·rintro (q | q)
    ·exact hz2 q
    ·omega
  ·rintro pre x ZP A ⟨hi, hl, hk, hz1, hz2⟩ hx hlen
   have hy := run_yield (P := P) (args := #[x]) hl (by rw [hrec]; rfl)
   rw [hrec] at hy
   refine ⟨fn, _, assign, body, hy, roundIn_of_wpIn hfn ?_⟩
   have e1 : ((#[p].zip #[x]).foldl (fun tmps (t, a) => tmps.setIfInBounds t a) a.tmps) = a.tmps.setIfInBounds p x := by simp
   rw [e1]
   refine hassign _ pre x ZP A _ hx hi (hbk (d := .deferred none) hl hk) ?_
   intro a' Wa hkf hkz hia
   have hl' := (hkf _ (.inr rfl)).trans hl
   have hk' := (hkf _ (.inl rfl)).trans hk
   have hlt := (Array.getElem?_eq_some_iff.1 hl').1
   refine ⟨_, run_beginRound hl' (by rw [hrec]), ?_⟩
   obtain ⟨Wb, hWb⟩ : ∃ Wb, Wa.putObj (w.heap.size + 1) (.loop { rec .ready none with state := .busy }) = Wb := ⟨_, rfl⟩
   have hlb : Wb.heap[w.heap.size + 1]? = some (.loop { rec .ready none with state := .busy }) := by rw [← hWb]; exact World.putObj_heap_same hlt
   have hkb : Wb.heap[w.heap.size]? = some (.deferred (some [])) := by rw [← hWb]; exact (World.putObj_heap_other (by omega)).trans hk'
   have hzb : keepZ ZP Wa Wb := by rw [← hWb]; exact keepZ.putObj _ hz2
   have hib : IA pre x ZP a' Wb := by rw [← hWb]; exact hIA _ _ _ _ _ _ _ hia (.inr rfl) (hbk (d := .deferred none) hl' hk')
   rw [hWb]
   refine wpIn_mono (hbody _ pre x ZP a' _ hx hib hlen (hbk (d := .deferred none) hlb hkb)) ?_
   rintro e a3 W3 ⟨rfl, hk3, hz3, hi3⟩
   have hl3 := (hk3 _ (.inr rfl)).trans hlb
   have hd3 := (hk3 _ (.inl rfl)).trans hkb
   have hend := run_endRound (P := P) none hl3
   rw [hrec] at hend
   refine ⟨_, _, hend, rfl, ⟨hg2 _ _ _ _ (some (w.heap.size + 1)) hi3 (grownBy_putObj' _ _ _) (fun r e => by cases e; exact ⟨.inr rfl, hbk (d := .deferred none) hl3 hd3⟩), ?_, (World.putObj_heap_other zO).trans hd3, hz1, hz2⟩, ((hkz.trans hzb).trans hz3).trans (keepZ.putObj _ hz2)⟩
   rw [hrec]
   exact World.putObj_heap_same (Array.getElem?_eq_some_iff.1 hl3).1
end Go.Vc
