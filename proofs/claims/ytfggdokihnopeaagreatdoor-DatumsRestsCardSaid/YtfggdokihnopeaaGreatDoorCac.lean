/- A part of the proof. -/
import Derived.Lib.SliceRun
import Derived.Laws.CopyRow
import Derived.Laws.IdiomCopy
import Derived.Maps.Own
import Derived.Maps.Range
import Derived.Maps.RangeRun
import Derived.WalkArith
import Derived.Laws.Cover1
import Derived.RangeFuncNested
import Derived.RangeFuncLeaves
import Derived.Test.YtfggdokihnopeaaGreatDoorCab
set_option linter.unusedVariables false
set_option linter.unusedSimpArgs false
section
namespace Go.Vc
open Go Go.RowKit
section
variable {P : Program} {E : Env} {T T' : Tab} {O O' : Own} {o : Oper} {d : Option Tmp} {ty : TypeId} {pos : String} {af : Array Edge} {g : Option (Nat × Bool)}
theorem J0z {t e : TypeId} {x y : Operand} {r n sz ety : Nat} {f : Nat → Nat → AV} {q : IntKind} {i : Int} {lo : Nat} [ht : SlTy P t e sz] (hx : T.ev x = .osl r) (hr : look O r = some (.row ety sz n f)) (hy : T.ev y = .av (.val (.int q i))) (hi : i = ↑lo) (hlo : lo ≤ n) (hn : 0 < n) :
  GV P E ⟨d, .slice t x (some y) none none, ty, pos, af, g⟩ T O (.osx r sz lo (n - lo)) [r] [] :=
 j0p [r] fun Z ν a w h hO => by
  have hv := x0J hx (h x (by simp [Op.operands]))
  have hvi := j0w hy (h y (by simp [Op.operands]))
  subst hi
  rcases hO r (by simp) _ hr with ⟨_, h2⟩ | ⟨b, cap, arr, h1, _, _, _, hnc, _⟩
  ·omega
  ·refine ⟨.slice (if cap = lo then some ⟨b, 0, none⟩ else some ⟨b, lo * sz, none⟩) (n - lo) (cap - lo), ?_, b, n, cap, _, h1, rfl, fun hp => by
    by_cases h0 : cap = lo
    ·rw [if_pos h0]
     have : lo = 0 := by omega
     subst this; simp
    ·exact if_neg h0⟩
   simp [execOp, Instr.sliceAt, Instr.slice, hv, h1, hvi, run_underlying ht.und, Instr.sliceBounds, Instr.sliceBound, asIntOf, ht.size w, hlo, j0I]
theorem Z0W {Z : j0q} {ν : j0N} {w : World} {T : Tab} {x : Operand} {a : Act} {r sz lo len : Nat} (hx : T.ev x = .osx r sz lo len) (h : (T.ev x).ok Z ν w (a.eval x)) :
  ∃ b n c p, ν r = .slice (some ⟨b, 0, none⟩) n c ∧ a.eval x = .slice p len (c - lo) ∧ (0 < len ∨ lo = 0 → p = some ⟨b, lo * sz, none⟩) := by
 rw [hx] at h; exact h
theorem w0p {t e : TypeId} {x : Operand} {r lo len sz sz' : Nat} [ht : SlTy P t e sz'] (hx : T.ev x = .osx r sz lo len) :
  GV P E ⟨d, .call ⟨.builtin .len, #[x], #[t]⟩, ty, pos, af, g⟩ T O (.av (.val (.int .i64 len))) [] [] :=
 j0p [] fun Z ν a w h _ => by
  obtain ⟨b, n, c, p, _, hv, _⟩ := Z0W hx (h x (by simp [Op.operands, Call.operands]))
  exact ⟨.int .i64 len, by simp [execOp, resolve, invoke, builtin, Builtin.len_, hv, run_underlying ht.und, goInt], rfl⟩
theorem q0M {t e : TypeId} {x y : Operand} {r lo len sz : Nat} {q : IntKind} {i : Int} {k : Nat} [ht : SlTy P t e sz] (hx : T.ev x = .osx r sz lo len) (hy : T.ev y = .av (.val (.int q i)))
  (hi : i = ↑k) (hk : k < len) : GV P E ⟨d, .indexAddr t x y, ty, pos, af, g⟩ T O (.oel r sz (lo + k) 0) [] [] :=
 j0p [] fun Z ν a w h _ => by
  obtain ⟨b, n, c, p, hb, hv, hp⟩ := Z0W hx (h x (by simp [Op.operands]))
  have hvi := j0w hy (h y (by simp [Op.operands]))
  subst hi
  rw [hp (.inl (by omega))] at hv
  refine ⟨.pointer (some ⟨b, (lo + k) * sz, none⟩), ?_, b, n, c, hb, by simp⟩
  simp [execOp, Instr.indexAt, hvi, hv, asIntOf, run_underlying ht.und, ht.size w, hk, j0I, Nat.add_mul]
end
end Go.Vc
end
section
end
namespace Go.Vc
open Go Go.RowKit
theorem CV.ok_av {Z Z' : j0q} {ν : j0N} {w w' : World} (h : ∀ (τ : AV) (v : Value), τ.ok Z w v → τ.ok Z' w' v) (s : CV) (v : Value) (hs : s.ok Z ν w v) : s.ok Z' ν w' v := by
 cases s with
 |av τ => exact h τ v hs
 |own r off => exact hs
 |osl r => exact hs
theorem SV.ok_av {Z Z' : j0q} {ν : j0N} {w w' : World} (h : ∀ (τ : AV) (v : Value), τ.ok Z w v → τ.ok Z' w' v) (s : SV) (v : Value) (hs : s.ok Z ν w v) : s.ok Z' ν w' v := by
 cases s with
 |av τ => exact h τ v hs
 |own r off => exact hs
 |osl r => exact hs
 |oel r sz i j => exact hs
 |osx r sz lo len => exact hs
 |clo k cs => obtain ⟨vs, h1, h2⟩ := hs; exact ⟨vs, h1, h2.mono fun c _ u hu => CV.ok_av h c u hu⟩
 |tupR r ρs => obtain ⟨us, h1, h2⟩ := hs; exact ⟨us, h1, h2.mono fun c _ u hu => h c u hu⟩
 |agg cs => obtain ⟨vs, h1, h2⟩ := hs; exact ⟨vs, h1, h2.mono fun c _ u hu => CV.ok_av h c u hu⟩
 |tupC cs => obtain ⟨vs, h1, h2⟩ := hs; exact ⟨vs, h1, h2.mono fun c _ u hu => CV.ok_av h c u hu⟩
 |fnC k0 cs => obtain ⟨vs, h1, h2⟩ := hs; exact ⟨vs, h1, h2.mono fun c _ u hu => CV.ok_av h c u hu⟩
 |ocs r off len => exact hs
theorem Res.ok_env {E E' : Env} {Z Z' : j0q} {ν : j0N} {w w' : World} {v : Value} {x : Res} (h : x.ok E Z ν w v) (hav : ∀ (τ : AV) (v : Value), τ.ok Z w v → τ.ok Z' w' v)
  (hb : ∀ b, j0C v = some b → ¬ Z' b ∧ ¬ E'.keep b ∧ w'.heap[b]? = w.heap[b]?) : x.ok E' Z' ν w' v := by
 cases x with
 |cells cs =>
  obtain ⟨b', ty, arr, rfl, h2, h3, h4, h5, h6⟩ := h
  obtain ⟨q1, q2, q3⟩ := hb b' rfl
  exact ⟨b', ty, arr, rfl, q2, q1, q3.trans h4, h5, fun i s hi => let ⟨u, hu, hk⟩ := h6 i s hi; ⟨u, hu, SV.ok_av hav s u hk⟩⟩
 |row ty sz n f =>
  rcases h with h1 | ⟨b', cap, arr, rfl, h2, h3, h4, h5, h6, h7, h8⟩
  ·exact .inl h1
  ·obtain ⟨q1, q2, q3⟩ := hb b' rfl
   exact .inr ⟨b', cap, arr, rfl, q2, q1, q3.trans h4, h5, h6, h7, fun i hi j hj => let ⟨u, hu, hk⟩ := h8 i hi j hj; ⟨u, hu, hav _ _ hk⟩⟩
 |obj φ hφ =>
  obtain ⟨b', ob, e1, e2, e3, e4, e5⟩ := h
  obtain ⟨q1, q2, q3⟩ := hb b' e1
  exact ⟨b', ob, e1, q2, q1, q3.trans e4, hav (hφ.av ob) _ e5⟩
 |srow ty sz n cs =>
  rcases h with h1 | ⟨b', cap, arr, rfl, h2, h3, h4, h5, h6, h7, h8⟩
  ·exact .inl h1
  ·obtain ⟨q1, q2, q3⟩ := hb b' rfl
   exact .inr ⟨b', cap, arr, rfl, q2, q1, q3.trans h4, h5, h6, h7, fun i s hi => let ⟨u, hu, hk⟩ := h8 i s hi; ⟨u, hu, SV.ok_av hav s u hk⟩⟩
def y0w (O : Own) (ν : j0N) (k : Nat) : Prop := ∃ r, look O r ≠ none ∧ j0C (ν r) = some k
theorem SatZ.shift {E E' : Env} {Z Z' : j0q} {ν : j0N} {T : Tab} {O : Own} {a a' : Act} {w w' : World} (h : SatZ E Z ν T O a w) (hd : a'.defers = E'.marks) (hN : a'.tmps.size = E'.N)
  (hc : ∀ d v, E'.cst d = some v → a'.tmps.getD d undef = v) (hp : ∀ r v, E'.pin r = some v → ν r = v) (hb : Base E' Z' w') (hav : ∀ (τ : AV) (v : Value), τ.ok Z w v → τ.ok Z' w' v)
  (hown : ∀ r, look O r ≠ none → ∀ b, j0C (ν r) = some b → ¬ Z' b ∧ ¬ E'.keep b ∧ w'.heap[b]? = w.heap[b]?)
  (hsl : ∀ d, look T d ≠ none → a'.tmps.getD d undef = a.tmps.getD d undef) : SatZ E' Z' ν T O a' w' := by
 refine ⟨hd, hN, hc, hp, hb, ⟨fun r x hx => Res.ok_env (h.own.each r x hx) hav (hown r (by rw [hx]; simp)), h.own.apart⟩, fun d => ?_⟩
 by_cases hT : look T d = none
 ·simp only [Tab.get, hT]; trivial
 ·rw [hsl d hT]; exact SV.ok_av hav _ _ (h.slot d)
end Go.Vc
section
namespace Go.Vc
open Go Go.RowKit
class StrTy (P : Program) (t : TypeId) : Prop where
 und : P.underlying t = some .string
section
variable {P : Program} {E : Env} {T T' : Tab} {O O' : Own} {o : Oper} {d : Option Tmp} {ty : TypeId} {pos : String} {af : Array Edge} {g : Option (Nat × Bool)}
end
end Go.Vc
end
section
namespace Go.Vc
open Go Go.RowKit
section
variable {P : Program} {E : Env} {T T' : Tab} {O O' : Own} {o : Oper} {d : Option Tmp} {ty : TypeId} {pos : String} {af : Array Edge} {g : Option (Nat × Bool)}
theorem J0D {t : TypeId} {x y : Operand} {r q off ety sz n : Nat} {cs : List SV} {f : Nat → Nat → AV} [ht : SizeTy P t 1] (hx : T.ev x = .own r off) (hy : T.ev y = .osl q) (hr : look O r = some (.cells cs)) (hq : look O q = some (.row ety sz n f)) (hfit' : Nat.ble (off + 1) cs.length = true) :
  GV P E ⟨d, .store t x y, ty, pos, af, g⟩ T O (.av .any) [r, q] [(r, .cells (spl cs off [.osl q]))] := by
 refine ⟨fun T' O' hT hO => ⟨by intro c; simp, fun Z ν a w hs => ?_⟩⟩
 have hfit : off + 1 ≤ cs.length := Nat.le_of_ble_eq_true hfit'
 have ex := j0G hs x
 rw [j0r (o := ⟨d, .store t x y, ty, pos, af, g⟩) hT (by simp [Op.operands]), hx] at ex
 have ey := j0G hs y
 rw [j0r (o := ⟨d, .store t x y, ty, pos, af, g⟩) hT (by simp [Op.operands]), hy] at ey
 obtain ⟨b, hb, hax⟩ := ex
 have hone : (a.eval y).oneCell' = true := by
  rw [show a.eval y = ν q from ey]
  rcases hs.own.each q _ (by rw [hO q (by simp)]; exact hq) with ⟨h, _⟩ | ⟨_, _, _, h, _⟩ <;> (rw [h]; rfl)
 obtain ⟨w', hst, hsat⟩ := hs.storeOwn (P := P) (ss := [.osl q]) (vs := [a.eval y]) (by rw [hO r (by simp)]; exact hr) hb hfit ⟨ey, trivial⟩ (by simpa using hone)
 unfold Oper.wp
 have hrun : (execOp a.eval ⟨d, .store t x y, ty, pos, af, g⟩).run P w = .ok .skip w' := by
  simp [execOp, Instr.storeAt, hax, Instr.sureAddr, storeVar, ht.run w, cells_one hone, hst]
 rw [hrun]
 exact ⟨Go.undef, Z, ν, rfl, hsat, trivial⟩
theorem y0l {r off : Nat} {cs : List SV} (q ety sz : Nat) (f : Nat → Nat → AV) (hr : look O r = some (.cells cs)) (hc : cs[off]? = some (.av (.val (.slice none 0 0)))) (hf : q0Q q T O = true) (hp : Nat.blt q 1000 = true := by first | rfl | assumption) :
  Ent T O T ((r, .cells (cs.set off (.osl q))) :: (q, .row ety sz 0 f) :: O) := by
 rintro E a w ⟨Z, ν, h⟩
 obtain ⟨f1, f2⟩ := w0m hf
 have hk := h.kill q (.slice none 0 0) hp
 have hk' := hk.addRes q (.row ety sz 0 f) (.inl ⟨if_pos rfl, rfl⟩) (fun b hb => by rw [show q0V ν q (.slice none 0 0) q = .slice none 0 0 from if_pos rfl] at hb; simp [j0C] at hb)
 have hO : ∀ k, look ((q, Res.row ety sz 0 f) :: O) k = look ((q, Res.row ety sz 0 f) :: Own.kill q O) k := fun k => by
  by_cases hkr : q = k
  ·subst hkr; rw [j0l, j0l]
  ·rw [j0d _ _ hkr, j0d _ _ hkr, f2]
 have hrq : r ≠ q := by
  intro e
  subst e
  have := f2 r
  rw [Own.look_kill, if_pos rfl, hr] at this
  cases this
 have hq : q0V ν q (.slice none 0 0) q = .slice none 0 0 := if_pos rfl
 have each' : ∀ k x, look ((q, Res.row ety sz 0 f) :: O) k = some x → x.ok E Z (q0V ν q (.slice none 0 0)) w (q0V ν q (.slice none 0 0) k) := fun k x hx => hk'.own.each k x (by rw [← hO]; exact hx)
 have key : ∀ k, look ((r, Res.cells (cs.set off (.osl q))) :: (q, Res.row ety sz 0 f) :: O) k ≠ none → look ((q, Res.row ety sz 0 f) :: O) k ≠ none := fun k hk => by
  by_cases e : r = k
  ·subst e; rw [j0d _ _ (fun e => hrq e.symm), hr]; simp
  ·rwa [j0d _ _ e] at hk
 refine ⟨Z, q0V ν q (.slice none 0 0), hk'.defers, hk'.tsize, hk'.cst, hk'.pin, hk'.base, ⟨fun k y hy => ?_, fun k k' hne e1 e2 => hk'.own.apart k k' hne (by rw [← hO]; exact key k e1) (by rw [← hO]; exact key k' e2)⟩, fun d => by rw [← f1]; exact hk'.slot d⟩
 by_cases e : r = k
 ·subst e
  rw [j0l] at hy
  cases hy
  obtain ⟨b, ty', arr, e1, e2, e3, e4, e5, e6⟩ := each' r (.cells cs) (by rw [j0d _ _ (fun e => hrq e.symm)]; exact hr)
  refine ⟨b, ty', arr, e1, e2, e3, e4, by simpa using e5, fun i s hs => ?_⟩
  rw [List.getElem?_set] at hs
  by_cases hi : off = i
  ·subst hi
   have hlt := (List.getElem?_eq_some_iff.1 hc).1
   rw [if_pos rfl, if_pos hlt] at hs
   cases hs
   obtain ⟨u, hu, hk⟩ := e6 off _ hc
   exact ⟨u, hu, by rw [show u = Value.slice none 0 0 from hk]; exact hq.symm⟩
  ·rw [if_neg hi] at hs
   exact e6 i s hs
 ·rw [j0d _ _ e] at hy
  exact each' k y hy
theorem q0i {t : TypeId} {x y : Operand} {u v r : Value} (hr : ∀ w, (Instr.index t u v).run P w = .ok r w) (hx : T.ev x = .av (.val u)) (hy : T.ev y = .av (.val v)) :
  GV P E ⟨d, .index t x y, ty, pos, af, g⟩ T O (.av (.val r)) [] [] :=
 j0p [] fun Z ν a w h _ => by
  have e1 := j0w hx (h x (by simp [Op.operands]))
  have e2 := j0w hy (h y (by simp [Op.operands]))
  refine ⟨_, ?_, rfl⟩
  simp [execOp, e1, e2, hr w]
end
theorem X1h {E : Env} {T TA : Tab} {O OA : Own} (h : Ent T O TA OA) : SQ E T O (Exit.then (fun a w => Sat E TA OA a w) (fun _ _ _ => False) .normal) := fun a w hs => h E a w hs
end Go.Vc
end
namespace Go.Vc
open Go Go.RowKit
theorem j0F {T : Tab} {O : Own} (d r : Nat) {cs : List SV} (f : Nat → AV) (hd : T.get d = .own r 0) (hr : look O r = some (.cells cs)) (hcs : cs = (List.range cs.length).map (fun i => SV.av (f i))) :
  Ent T O ((d, .av (.ptr cs.length f)) :: T.frz r .any) (Own.drop r O) := by
 rintro E a w ⟨Z, ν, h⟩
 obtain ⟨b, ty, arr, e1, e2, e3, e4, e5, e6⟩ := h.own.each r _ hr
 have hlt := (Array.getElem?_eq_some_iff.1 e4).1
 have hav : ∀ (τ : AV) v, τ.ok Z w v → τ.ok (fun k => Z k ∨ k = b) w v := AV.ok_mono (fun _ h => .inl h) (Nat.le_refl _) (fun _ _ _ => rfl)
 refine ⟨fun k => Z k ∨ k = b, ν, h.defers, h.tsize, h.cst, h.pin, ⟨h.base.os, h.base.tape, h.base.output, h.base.size, h.base.keepLt, h.base.kept, h.base.zok.or (fun k hk => hk ▸ hlt), fun k hk => .inl (h.base.z0 k hk), fun k hk => ?_⟩, ⟨fun k x hx => ?_, fun k k' hne h1 h2 => ?_⟩, fun k => ?_⟩
 ·rcases hk with hk | rfl
  ·exact h.base.zNew k hk
  ·exact .inr e2
 ·rw [Own.look_drop] at hx
  by_cases hkr : k = r
  ·rw [if_pos hkr] at hx; cases hx
  ·rw [if_neg hkr] at hx
   refine Res.ok_env (h.own.each k x hx) hav (fun b' hb' => ?_)
   obtain ⟨q1, q3, q4⟩ := Res.blk_lt (h.own.each k x hx) hb'
   refine ⟨fun hz => ?_, q4, rfl⟩
   rcases hz with hz | rfl
   ·exact q3 hz
   ·exact h.own.apart r k (fun e => hkr e.symm) (by rw [hr]; simp) (by rw [hx]; simp) b' (by rw [e1]; rfl) hb'
 ·have hh : ∀ k, look (Own.drop r O) k ≠ none → look O k ≠ none := fun k hk => by
   rw [Own.look_drop] at hk
   by_cases hkr : k = r
   ·rw [if_pos hkr] at hk; exact absurd rfl hk
   ·rwa [if_neg hkr] at hk
  exact h.own.apart k k' hne (hh k h1) (hh k' h2)
 ·by_cases hk : d = k
  ·subst hk
   rw [Tab.get_cons_eq]
   have hs := h.slot d
   rw [hd] at hs
   obtain ⟨b', q1, q2⟩ := hs
   rw [e1] at q1
   cases q1
   refine ⟨b, 0, q2, fun _ => .inr rfl, hlt, fun i hi => ?_⟩
   have hci : cs[i]? = some (.av (f i)) := by
    rw [hcs]; simp [hi]
   obtain ⟨u, hu, hok⟩ := e6 i _ hci
   exact ⟨u, by simp only [World.cell?, e4, Nat.zero_add]; exact hu, hav _ _ hok⟩
  ·rw [Tab.get_cons_ne _ _ hk, Tab.get_frz]
   have hs := h.slot k
   generalize T.get k = s at hs
   have hsv := SV.ok_av (ν := ν) hav s _ hs
   cases s with
   |av σ => exact hsv
   |clo q cs' => simp only [SV.frz]; split <;> first | exact trivial | exact hsv
   |_ => simp only [SV.frz]; split <;> first | exact trivial | exact hsv
end Go.Vc
section
namespace Go.Vc
open Go Go.RowKit
def SV.isOsl : SV → Bool | .osl _ => true | _ => false
section
variable {P : Program} {E : Env} {T T' : Tab} {O O' : Own} {o : Oper} {d : Option Tmp} {ty : TypeId} {pos : String} {af : Array Edge} {g : Option (Nat × Bool)}
theorem w0a {t : TypeId} {x y : Operand} {r off : Nat} {cs : List SV} {s : SV} [ht : SizeTy P t 1] (hx : T.ev x = .own r off) (hy : T.ev y = s) (h1 : s.one = true) (hr : look O r = some (.cells cs)) (hfit' : Nat.ble (off + 1) cs.length = true) (hns : s.isOsl = false) :
  GV P E ⟨d, .store t x y, ty, pos, af, g⟩ T O (.av .any) [r] [(r, .cells (spl cs off [s]))] := w0F hx hy h1 hr hfit' (fun k e => by subst e; cases hns)
end
end Go.Vc
end
namespace Go.Vc
open Go Go.RowKit
theorem z1h {E : Env} {T T' : Tab} {O O' : Own} {φ : Act → World → Prop} (h : Ent T O T' O') (hq : SQ E T' O' φ) : SQ E T O φ := fun a w hs => hq a w (h E a w hs)
end Go.Vc
section
namespace Go.Vc
open Go Go.RowKit
section
variable {P : Program} {E : Env} {T T' : Tab} {O O' : Own} {o : Oper} {d : Option Tmp} {ty : TypeId} {pos : String} {af : Array Edge} {g : Option (Nat × Bool)}
theorem v0F {x : Operand} {i : Nat} {τs : List AV} {τ : AV} (hx : T.ev x = .av (j0x τs)) (hi : τs[i]? = some τ) : GV P E ⟨d, .extract x i, ty, pos, af, g⟩ T O (.av τ) [] [] := by
 have hlt := (List.getElem?_eq_some_iff.1 hi).1
 have := v0M (P := P) (E := E) (O := O) (d := d) (ty := ty) (pos := pos) (af := af) (g := g) (i := i) hx hlt
 rw [show τs.getD i .any = τ by simp [List.getD, hi]] at this
 exact this
end
end Go.Vc
end
section
end
section
namespace Go.Vc
open Go Go.RowKit
def rnm (l : List (Nat × Nat)) (r : Nat) : Nat := match look l r with | some k => k | none => r
def CV.ren (f : Nat → Nat) : CV → CV
 |.av τ => .av τ
 |.own r off => .own (f r) off
 |.osl r => .osl (f r)
def SV.ren (f : Nat → Nat) : SV → SV
 |.av τ => .av τ
 |.own r off => .own (f r) off
 |.osl r => .osl (f r)
 |.oel r sz i j => .oel (f r) sz i j
 |.osx r sz lo len => .osx (f r) sz lo len
 |.clo k cs => .clo k (cs.map (CV.ren f))
 |.tupR r ρs => .tupR (f r) ρs
 |.agg cs => .agg (cs.map (CV.ren f))
 |.tupC cs => .tupC (cs.map (CV.ren f))
 |.fnC k cs => .fnC k (cs.map (CV.ren f))
 |.ocs r off len => .ocs (f r) off len
def Res.ren (f : Nat → Nat) : Res → Res
 |.cells cs => .cells (cs.map (SV.ren f))
 |.row ty sz n g => .row ty sz n g
 |.obj φ h => .obj φ h
 |.srow ty sz n cs => .srow ty sz n (cs.map (SV.ren f))
def Own.ren (f : Nat → Nat) (O : Own) : Own := O.map fun p => (f p.1, p.2.ren f)
theorem All2.map_iff {α β γ : Type} {R : β → γ → Prop} {g : α → β} : ∀ {l : List α} {m : List γ}, All2 R (l.map g) m ↔ All2 (fun a c => R (g a) c) l m
 |[], [] => Iff.rfl
 |[], _ :: _ => Iff.rfl
 |_ :: _, [] => Iff.rfl
 |_ :: _, _ :: _ => and_congr_right fun _ => All2.map_iff
theorem CV.ren_ok {Z : j0q} {ν : j0N} {w : World} {f : Nat → Nat} (c : CV) (v : Value) : (c.ren f).ok Z ν w v ↔ c.ok Z (fun r => ν (f r)) w v := by cases c <;> exact Iff.rfl
theorem SV.ren_ok {Z : j0q} {ν : j0N} {w : World} {f : Nat → Nat} (s : SV) (v : Value) : (s.ren f).ok Z ν w v ↔ s.ok Z (fun r => ν (f r)) w v := by
 cases s with
 |clo k cs =>
  refine exists_congr fun vs => and_congr_right fun _ => ?_
  rw [All2.map_iff]
  exact ⟨fun h => h.mono fun c _ u hu => (CV.ren_ok c u).1 hu, fun h => h.mono fun c _ u hu => (CV.ren_ok c u).2 hu⟩
 |agg cs =>
  refine exists_congr fun vs => and_congr_right fun _ => ?_
  rw [All2.map_iff]
  exact ⟨fun h => h.mono fun c _ u hu => (CV.ren_ok c u).1 hu, fun h => h.mono fun c _ u hu => (CV.ren_ok c u).2 hu⟩
 |tupC cs =>
  refine exists_congr fun vs => and_congr_right fun _ => ?_
  rw [All2.map_iff]
  exact ⟨fun h => h.mono fun c _ u hu => (CV.ren_ok c u).1 hu, fun h => h.mono fun c _ u hu => (CV.ren_ok c u).2 hu⟩
 |fnC k0 cs =>
  refine exists_congr fun vs => and_congr_right fun _ => ?_
  rw [All2.map_iff]
  exact ⟨fun h => h.mono fun c _ u hu => (CV.ren_ok c u).1 hu, fun h => h.mono fun c _ u hu => (CV.ren_ok c u).2 hu⟩
 |ocs _ _ _ => exact Iff.rfl
 |av _ => exact Iff.rfl
 |own _ _ => exact Iff.rfl
 |osl _ => exact Iff.rfl
 |oel _ _ _ _ => exact Iff.rfl
 |osx _ _ _ _ => exact Iff.rfl
 |tupR _ _ => exact Iff.rfl
theorem Res.ren_ok {E : Env} {Z : j0q} {ν : j0N} {w : World} {f : Nat → Nat} (x : Res) (v : Value) : (x.ren f).ok E Z ν w v ↔ x.ok E Z (fun r => ν (f r)) w v := by
 cases x with
 |row _ _ _ _ => exact Iff.rfl
 |obj _ _ => exact Iff.rfl
 |srow ty sz n cs =>
  have key : ∀ arr : Array Value, (∀ (i : Nat) (s : SV), (cs.map (SV.ren f))[i]? = some s → ∃ u, arr[i]? = some u ∧ s.ok Z ν w u) ↔ (∀ (i : Nat) (s : SV), cs[i]? = some s → ∃ u, arr[i]? = some u ∧ s.ok Z (fun r => ν (f r)) w u) := by
   intro arr
   refine ⟨fun h i s hs => ?_, fun h i s hs => ?_⟩
   ·obtain ⟨u, hu, hk⟩ := h i (s.ren f) (by simp [hs])
    exact ⟨u, hu, (SV.ren_ok s u).1 hk⟩
   ·simp only [List.getElem?_map, Option.map_eq_some_iff] at hs
    obtain ⟨s0, hs0, rfl⟩ := hs
    obtain ⟨u, hu, hk⟩ := h i s0 hs0
    exact ⟨u, hu, (SV.ren_ok s0 u).2 hk⟩
  simp only [Res.ren, Res.ok, List.length_map]
  exact or_congr Iff.rfl (exists_congr fun b => exists_congr fun cap => exists_congr fun arr => and_congr_right fun _ => and_congr_right fun _ => and_congr_right fun _ => and_congr_right fun _ => and_congr_right fun _ => and_congr_right fun _ => and_congr_right fun _ => key arr)
 |cells cs =>
  refine exists_congr fun b => exists_congr fun ty => exists_congr fun arr => and_congr_right fun _ => and_congr_right fun _ => and_congr_right fun _ => and_congr_right fun _ => ?_
  rw [List.length_map]
  refine and_congr_right fun _ => ⟨fun h i s hs => ?_, fun h i s hs => ?_⟩
  ·obtain ⟨u, hu, hk⟩ := h i (s.ren f) (by simp [hs])
   exact ⟨u, hu, (SV.ren_ok s u).1 hk⟩
  ·simp only [List.getElem?_map, Option.map_eq_some_iff] at hs
   obtain ⟨s0, hs0, rfl⟩ := hs
   obtain ⟨u, hu, hk⟩ := h i s0 hs0
   exact ⟨u, hu, (SV.ren_ok s0 u).2 hk⟩
def K0M (O : Own) (ν : j0N) (r : Nat) : Option Value := match Nat.blt r 1000 with | true => none | false => match look O r with | some _ => some (ν r) | none => none
def Q0e (N : Nat) (w : World) (Z : j0q) (O : Own) (ν : j0N) : Env := { N := N, keep := fun k => k < w.heap.size ∧ ¬ y0w O ν k, w0 := w, Z0 := Z, pin := K0M O ν, pinHi := fun r h => by unfold K0M; rw [h] }
def z1S (w : World) (Z : j0q) (ν : j0N) (O : Own) (res : SV) (O' : Own) (e : Ending) (w' : World) : Prop :=
 ∃ u Z' ν', e = .returned u ∧ Base (Q0e 0 w Z O ν) Z' w' ∧ (∀ r, look O r ≠ none → ν' r = ν r) ∧ OwnOk (Q0e 0 w Z O ν) O' Z' ν' w' ∧ res.ok Z' ν' w' u
structure CtrH (P : Program) (f : FuncId) (args : List SV) (O : Own) (res : SV) (O' : Own) : Prop where
 enters : Enters P f
 keys : ∀ r, look O r ≠ none → look O' r ≠ none
 calls : ∀ (w : World) (Z : j0q) (ν : j0N) (vs : List Value), ZOk Z w → All2 (fun s v => SV.ok Z ν w s v) args vs → OwnOk (Q0e 0 w Z O ν) O Z ν w → Calls P f vs.toArray w (z1S w Z ν O res O')
theorem y0c {N M : Nat} {w : World} {Z : j0q} {O : Own} {ν : j0N} {Z' : j0q} {w' : World} (h : Base (Q0e N w Z O ν) Z' w') : Base (Q0e M w Z O ν) Z' w' := ⟨h.os, h.tape, h.output, h.size, h.keepLt, h.kept, h.zok, h.z0, h.zNew⟩
theorem y0z {N M : Nat} {w : World} {Z : j0q} {O : Own} {ν : j0N} {Z' : j0q} {ν' : j0N} {w' : World} {O' : Own} (h : OwnOk (Q0e N w Z O ν) O' Z' ν' w') : OwnOk (Q0e M w Z O ν) O' Z' ν' w' := ⟨fun r x hx => by have := h.each r x hx; cases x <;> exact this, h.apart⟩
theorem q0A {α : Type} {O : List (Nat × α)} {r : Nat} (h : look O r ≠ none) : r ∈ O.map (·.1) := by
 obtain ⟨x, hx⟩ := Option.ne_none_iff_exists'.1 h
 exact List.mem_map.2 ⟨_, q0K hx, rfl⟩
theorem J0K {α : Type} : ∀ {O : List (Nat × α)} {r : Nat}, r ∈ O.map (·.1) → look O r ≠ none
 |[], _, h => by simp at h
 |(k, y) :: O, r, h => by
  by_cases hk : k = r
  ·subst hk; rw [j0l]; simp
  ·rw [j0d _ _ hk]
   refine J0K ?_
   simp only [List.map_cons, List.mem_cons] at h
   exact h.resolve_left (fun e => hk e.symm)
def Q0I (O : Own) : Bool := O.all fun p => match Nat.blt p.1 1000 with | true => false | false => true
def y1P (O O' : Own) : Bool := O.all fun p => (look O' p.1).isSome
theorem q1e {O O' : Own} (h : y1P O O' = true) : ∀ r, look O r ≠ none → look O' r ≠ none := by
 intro r hr
 obtain ⟨p, hp, rfl⟩ := List.mem_map.1 (q0A hr)
 have := List.all_eq_true.1 h p hp
 intro e; rw [e] at this; cases this
theorem Q0i {P : Program} {f : FuncId} {fn : Func} {c : Code} {args : List SV} {O : Own} {res : SV} {O' : Own} (N : Nat) (hf : P.funcs[f]? = some fn) (hb : fn.body = some c) (hname : (fn.name == "runtime.NumGoroutine") = false) (hN : fn.ntmps = N) (hlen' : Nat.ble args.length N = true) (hk : y1P O O' = true)
  (h : ∀ w Z ν, CQ P (Q0e N w Z O ν) (bodyPost P fn (z1S w Z ν O res O')) (x0a 0 args) O c) : CtrH P f args O res O' := by
 have hlen : args.length ≤ N := Nat.le_of_ble_eq_true hlen'
 refine ⟨fun vs w => ?_, q1e hk, fun w Z ν vs hZ hvs how => ?_⟩
 ·have hname' : fn.name ≠ "runtime.NumGoroutine" := by simpa using hname
  simp [callFunc, hf, hname', hb]
 ·refine calls_of_wp hf hb ?_
  have hl := hvs.len
  refine wpIn_wide.1 ((h w Z ν).sq _ w ⟨Z, ν, rfl, ?_, (fun _ _ h => by cases h), (fun r v hr => ?_), ⟨rfl, rfl, rfl, Nat.le_refl _, fun k hk => hk.1, fun _ _ => rfl, hZ, fun _ hk => hk, fun _ hk => .inl hk⟩, y0z how, fun d => ?_⟩)
  ·simp only [Array.size_append, List.size_toArray, Array.size_replicate, hN, Q0e]; omega
  ·change K0M O ν r = some v at hr
   unfold K0M at hr
   split at hr
   ·cases hr
   ·split at hr
    ·cases hr; rfl
    ·cases hr
  ·rw [v0z, if_pos (Nat.zero_le _), Nat.sub_zero]
   by_cases hd : d < args.length
   ·have h1 : args.getD d (.av .any) = args[d] := by simp [List.getD, List.getElem?_eq_getElem hd]
    rw [h1]
    obtain ⟨u, hu, hk⟩ := hvs.get d args[d] (List.getElem?_eq_getElem hd)
    have : (vs.toArray ++ Array.replicate (fn.ntmps - vs.toArray.size) undef).getD d undef = u := by
     have hlt := (List.getElem?_eq_some_iff.1 hu).1
     rw [Array.getD_eq_getD_getElem?, Array.getElem?_append_left (by simpa using hlt)]
     simp [hu]
    rw [this]; exact hk
   ·have h1 : args.getD d (.av .any) = .av .any := by
     rw [List.getD, List.getElem?_eq_none (by simpa using hd)]; rfl
    rw [h1]; trivial
section
variable {P : Program} {fn : Func} {w : World} {Z : j0q} {ν : j0N} {N : Nat} {T : Tab} {O O' : Own} {res : SV}
theorem z0X (hhi : Q0I O = true) {Z' : j0q} {ν' : j0N} {a : Act} {w' : World} {T' : Tab} {O1 : Own} (h : SatZ (Q0e N w Z O ν) Z' ν' T' O1 a w') : ∀ r, look O r ≠ none → ν' r = ν r := by
 intro r hr
 refine h.pin r (ν r) ?_
 show K0M O ν r = _
 obtain ⟨p, hp, rfl⟩ := List.mem_map.1 (q0A hr)
 have := List.all_eq_true.1 hhi p hp
 unfold K0M
 split
 ·rename_i hbl; rw [hbl] at this; cases this
 ·obtain ⟨x, hx⟩ := Option.ne_none_iff_exists'.1 hr
  rw [hx]
theorem v0S {t : Nat} (hr : fn.results = #[.tmp t]) (hhi : Q0I O = true) (ht : T.get t = res) : SQ (Q0e N w Z O ν) T O' (bodyPost P fn (z1S w Z ν O res O') .ret) := by
 rintro a w' ⟨Z', ν', h⟩
 have hs := h.slot t
 rw [ht] at hs
 exact bodyPost_ret (results_tmp hr a.tmps P w') h.defers ⟨_, Z', ν', rfl, y0c h.base, z0X hhi h, y0z h.own, hs⟩
theorem V0Y (hr : fn.results = #[]) (hhi : Q0I O = true) (hres : res = .av .any) : SQ (Q0e N w Z O ν) T O' (bodyPost P fn (z1S w Z ν O res O') .ret) := by
 rintro a w' ⟨Z', ν', h⟩
 subst hres
 exact bodyPost_ret (v0R (P := P) (fn := fn) (w := w') (tmps := a.tmps) (rvs := []) (vs := []) hr trivial) h.defers ⟨_, Z', ν', rfl, y0c h.base, z0X hhi h, y0z h.own, trivial⟩
end
end Go.Vc
end
section
namespace Go.Vc
open Go Go.RowKit
theorem y0v {f : Nat → Nat} : ∀ {L : Own} {k : Nat} {y : Res}, look (Own.ren f L) k = some y → ∃ r x, look L r = some x ∧ f r = k ∧ y = x.ren f
 |[], k, y, h => by simp [Own.ren, look] at h
 |(r, x) :: L, k, y, h => by
  change look ((f r, x.ren f) :: Own.ren f L) k = some y at h
  by_cases hk : f r = k
  ·subst hk; rw [j0l] at h; cases h; exact ⟨r, x, j0l _ _ _, rfl, rfl⟩
  ·rw [j0d _ _ hk] at h
   obtain ⟨r', x', h1, h2, h3⟩ := y0v h
   exact ⟨r', x', by rw [j0d _ _ (fun e => hk (by rw [e]; exact h2))]; exact h1, h2, h3⟩
theorem J0I {f : Nat → Nat} : ∀ {L : Own} {r : Nat}, look L r ≠ none → look (Own.ren f L) (f r) ≠ none
 |[], r, h => by simp [look] at h
 |(k, x) :: L, r, h => by
  change look ((f k, x.ren f) :: Own.ren f L) (f r) ≠ none
  by_cases hk : f k = f r
  ·rw [hk, j0l]; simp
  ·rw [j0d _ _ hk]
   refine J0I ?_
   rwa [j0d _ _ (fun e => hk (by rw [e]))] at h
theorem x0c {α : Type} : ∀ {A B : List (Nat × α)} {k : Nat}, look (A ++ B) k = match look A k with | some y => some y | none => look B k
 |[], _, _ => rfl
 |(r, x) :: A, B, k => by
  by_cases hk : r = k
  ·subst hk; rw [List.cons_append, j0l, j0l]
  ·rw [List.cons_append, j0d _ _ hk, j0d _ _ hk]; exact x0c
def CV.ref : CV → List Nat
 |.av _ => []
 |.own r _ => [r]
 |.osl r => [r]
def SV.ref : SV → List Nat
 |.av _ => []
 |.own r _ => [r]
 |.osl r => [r]
 |.oel r _ _ _ => [r]
 |.osx r _ _ _ => [r]
 |.clo _ cs => cs.flatMap CV.ref
 |.tupR r _ => [r]
 |.agg cs => cs.flatMap CV.ref
 |.tupC cs => cs.flatMap CV.ref
 |.fnC k cs => cs.flatMap CV.ref
 |.ocs r _ _ => [r]
theorem CV.ref_of {r : Nat} {c : CV} (h : c.mentions r = true) : r ∈ c.ref := by
 cases c with
 |av τ => cases h
 |own s o => simp only [CV.mentions] at h; simp [CV.ref, Nat.eq_of_beq_eq_true h]
 |osl s => simp only [CV.mentions] at h; simp [CV.ref, Nat.eq_of_beq_eq_true h]
theorem SV.ref_of {r : Nat} {s : SV} (h : s.mentions r = true) : r ∈ s.ref := by
 have hc : ∀ cs : List CV, cs.any (CV.mentions r) = true → r ∈ cs.flatMap CV.ref := fun cs h => by
  obtain ⟨c, hc, hm⟩ := List.any_eq_true.1 h
  exact List.mem_flatMap.2 ⟨c, hc, CV.ref_of hm⟩
 cases s with
 |av τ => cases h
 |own s o => simp only [SV.mentions] at h; simp [SV.ref, Nat.eq_of_beq_eq_true h]
 |osl s => simp only [SV.mentions] at h; simp [SV.ref, Nat.eq_of_beq_eq_true h]
 |oel s _ _ _ => simp only [SV.mentions] at h; simp [SV.ref, Nat.eq_of_beq_eq_true h]
 |osx s _ _ _ => simp only [SV.mentions] at h; simp [SV.ref, Nat.eq_of_beq_eq_true h]
 |clo k cs => exact hc cs h
 |tupR s _ => simp only [SV.mentions] at h; simp [SV.ref, Nat.eq_of_beq_eq_true h]
 |agg cs => exact hc cs h
 |tupC cs => exact hc cs h
 |fnC k0 cs => exact hc cs h
 |ocs s _ _ => simp only [SV.mentions] at h; simp [SV.ref, Nat.eq_of_beq_eq_true h]
theorem SV.mentions_of_ref {s : SV} {k : Nat} (hq : k ∈ s.ref) : s.mentions k = true := by
 cases s with
 |av τ => cases hq
 |own s o => simp only [SV.ref, List.mem_singleton] at hq; subst hq; simp [SV.mentions]
 |osl s => simp only [SV.ref, List.mem_singleton] at hq; subst hq; simp [SV.mentions]
 |oel s _ _ _ => simp only [SV.ref, List.mem_singleton] at hq; subst hq; simp [SV.mentions]
 |osx s _ _ _ => simp only [SV.ref, List.mem_singleton] at hq; subst hq; simp [SV.mentions]
 |tupR s _ => simp only [SV.ref, List.mem_singleton] at hq; subst hq; simp [SV.mentions]
 |clo f cs =>
  obtain ⟨c, hc, hq⟩ := List.mem_flatMap.1 hq
  refine List.any_eq_true.2 ⟨c, hc, ?_⟩
  cases c with
  |av τ => cases hq
  |own s o => simp only [CV.ref, List.mem_singleton] at hq; subst hq; simp [CV.mentions]
  |osl s => simp only [CV.ref, List.mem_singleton] at hq; subst hq; simp [CV.mentions]
 |agg cs =>
  obtain ⟨c, hc, hq⟩ := List.mem_flatMap.1 hq
  refine List.any_eq_true.2 ⟨c, hc, ?_⟩
  cases c with
  |av τ => cases hq
  |own s o => simp only [CV.ref, List.mem_singleton] at hq; subst hq; simp [CV.mentions]
  |osl s => simp only [CV.ref, List.mem_singleton] at hq; subst hq; simp [CV.mentions]
 |tupC cs =>
  obtain ⟨c, hc, hq⟩ := List.mem_flatMap.1 hq
  refine List.any_eq_true.2 ⟨c, hc, ?_⟩
  cases c with
  |av τ => cases hq
  |own s o => simp only [CV.ref, List.mem_singleton] at hq; subst hq; simp [CV.mentions]
  |osl s => simp only [CV.ref, List.mem_singleton] at hq; subst hq; simp [CV.mentions]
 |fnC k0 cs =>
  obtain ⟨c, hc, hq⟩ := List.mem_flatMap.1 hq
  refine List.any_eq_true.2 ⟨c, hc, ?_⟩
  cases c with
  |av τ => cases hq
  |own s o => simp only [CV.ref, List.mem_singleton] at hq; subst hq; simp [CV.mentions]
  |osl s => simp only [CV.ref, List.mem_singleton] at hq; subst hq; simp [CV.mentions]
 |ocs s _ _ => simp only [SV.ref, List.mem_singleton] at hq; subst hq; simp [SV.mentions]
def Res.ref : Res → List Nat
 |.cells cs => cs.flatMap SV.ref
 |.row .. => []
 |.obj .. => []
 |.srow _ _ _ cs => cs.flatMap SV.ref
def OwnSub (l : List (Nat × Nat)) (O : Own) : Own → Prop
 |[] => True
 |(r, x) :: O1 => look O (rnm l r) = some (x.ren (rnm l)) ∧ OwnSub l O O1
theorem OwnSub.get {l : List (Nat × Nat)} {O : Own} : ∀ {O1 : Own}, OwnSub l O O1 → ∀ {r x}, look O1 r = some x → look O (rnm l r) = some (x.ren (rnm l))
 |[], _, r, x, h => by simp [look] at h
 |(k, y) :: O1, hs, r, x, h => by
  by_cases hk : k = r
  ·subst hk; rw [j0l] at h; cases h; exact hs.1
  ·rw [j0d _ _ hk] at h; exact hs.2.get h
def V1v : List Nat → Bool
 |[] => true
 |a :: l => l.all (fun b => match Nat.beq a b with | true => false | false => true) && V1v l
theorem z0V {f : Nat → Nat} : ∀ {L : List Nat}, V1v (L.map f) = true → ∀ {x y}, x ∈ L → y ∈ L → f x = f y → x = y
 |[], _, x, _, hx, _, _ => by cases hx
 |a :: L, h, x, y, hx, hy, e => by
  simp only [List.map_cons, V1v, Bool.and_eq_true, List.all_eq_true] at h
  have key : ∀ z ∈ L, f a ≠ f z := fun z hz e => by
   have := h.1 (f z) (List.mem_map.2 ⟨z, hz, rfl⟩)
   rw [e, Nat.beq_refl] at this; cases this
  rcases List.mem_cons.1 hx with hx' | hx'
  ·rcases List.mem_cons.1 hy with hy' | hy'
   ·rw [hx', hy']
   ·rw [hx'] at e; exact absurd e (key y hy')
  ·rcases List.mem_cons.1 hy with hy' | hy'
   ·rw [hy'] at e; exact absurd e.symm (key x hx')
   ·exact z0V h.2 hx' hy' e
def w1u (T : Tab) (O : Own) (l : List (Nat × Nat)) (Oc O' : Own) (res : SV) : Bool :=
 V1v ((O'.map (·.1)).map (rnm l)) && (O'.all fun p => (look Oc p.1).isSome || (q0Q (rnm l p.1) T O && Nat.blt (rnm l p.1) 1000)) && (O'.all fun p => p.2.ref.all fun r => (look O' r).isSome) && (res.ref.all fun r => (look O' r).isSome)
def nuB (l : List (Nat × Nat)) (O' : Own) (ν ν' : j0N) : j0N := fun k => match (O'.map (·.1)).find? (fun r => decide (rnm l r = k)) with | some r => ν' r | none => ν k
section
variable {P : Program} {E : Env} {T : Tab} {O Oc O' : Own} {l : List (Nat × Nat)} {Z Z' : j0q} {ν ν' : j0N} {a : Act} {w w' : World} {res : SV} {d : Option Tmp} {ty : TypeId} {pos : String} {af : Array Edge} {g : Option (Nat × Bool)}
theorem Q0L (hinj : V1v ((O'.map (·.1)).map (rnm l)) = true) {r : Nat} (hr : look O' r ≠ none) : nuB l O' ν ν' (rnm l r) = ν' r := by
 unfold nuB
 have hm := q0A hr
 cases hf : (O'.map (·.1)).find? (fun q => decide (rnm l q = rnm l r)) with
 |none =>
  rw [List.find?_eq_none] at hf
  exact absurd (decide_eq_true rfl) (hf r hm)
 |some q =>
  have h1 := List.find?_some hf
  have h2 := List.mem_of_find?_eq_some hf
  rw [z0V hinj h2 hm (of_decide_eq_true h1)]
theorem J0M (hν : ∀ r, look Oc r ≠ none → ν' r = ν (rnm l r)) {k : Nat} (hk : ∀ r, look O' r ≠ none → look Oc r = none → rnm l r ≠ k) : nuB l O' ν ν' k = ν k := by
 unfold nuB
 cases hf : (O'.map (·.1)).find? (fun q => decide (rnm l q = k)) with
 |none => rfl
 |some q =>
  have h1 : rnm l q = k := of_decide_eq_true (List.find?_some (p := fun q => decide (rnm l q = k)) hf)
  have h2 := J0K (List.mem_of_find?_eq_some hf)
  have h3 : look Oc q ≠ none := fun e => hk q h2 e h1
  show ν' q = ν k
  rw [hν q h3, h1]
theorem J0v {r : Nat} (h : q0Q r T O = true) : (∀ d, (T.get d).mentions r = false) ∧ look O r = none ∧ ∀ k cs, look O k = some (.cells cs) → ∀ s ∈ cs, s.mentions r = false := by
 obtain ⟨h1, h2⟩ := w0m h
 have key : ∀ s : SV, s.kill r = s → s.mentions r = false := fun s e => by rw [← e]; exact SV.kill_mentions r s
 refine ⟨fun d => key _ (by rw [← Tab.get_kill]; exact h1 d), by rw [← h2 r, Own.look_kill, if_pos rfl], fun k cs hk s hs => key s ?_⟩
 have h3 := h2 k
 rw [Own.look_kill, hk] at h3
 split at h3
 ·cases h3
 ·simp only [Option.map_some, Res.kill, Option.some.injEq, Res.cells.injEq] at h3
  obtain ⟨i, hi, rfl⟩ := List.getElem_of_mem hs
  have := congrArg (fun l => l[i]?) h3
  simpa [hi] using this
theorem k0R {r : Nat} (h : q0Q r T O = true) : ∀ k ty sz n cs, look O k = some (.srow ty sz n cs) → ∀ s ∈ cs, s.mentions r = false := by
 obtain ⟨h1, h2⟩ := w0m h
 have key : ∀ s : SV, s.kill r = s → s.mentions r = false := fun s e => by rw [← e]; exact SV.kill_mentions r s
 refine fun k ty sz n cs hk s hs => key s ?_
 have h3 := h2 k
 rw [Own.look_kill, hk] at h3
 split at h3
 ·cases h3
 ·simp only [Option.map_some, Res.kill, Option.some.injEq, Res.srow.injEq] at h3
  obtain ⟨i, hi, rfl⟩ := List.getElem_of_mem hs
  have := congrArg (fun l => l[i]?) h3.2.2.2
  simpa [hi] using this
theorem Res.ok_nu {E : Env} {Z : j0q} {ν ν' : j0N} {w : World} {x : Res} {v : Value} (h : x.ok E Z ν w v) (hr : ∀ r ∈ x.ref, ν' r = ν r) : x.ok E Z ν' w v := by
 cases x with
 |row ty sz n f => exact h
 |obj φ hφ => exact h
 |srow ty sz n cs =>
  rcases h with h1 | ⟨b, cap, arr, h1, h2, h3, h4, h5, h6, h7, h8⟩
  ·exact .inl h1
  ·refine .inr ⟨b, cap, arr, h1, h2, h3, h4, h5, h6, h7, fun i s hs => ?_⟩
   obtain ⟨u, hu, hk⟩ := h8 i s hs
   exact ⟨u, hu, SV.ok_mono (fun _ h => h) (Nat.le_refl _) (fun _ _ _ => rfl) s u (fun r hm => hr r (List.mem_flatMap.2 ⟨s, List.mem_of_getElem? hs, SV.ref_of hm⟩)) hk⟩
 |cells cs =>
  obtain ⟨b, ty, arr, h1, h2, h3, h4, h5, h6⟩ := h
  refine ⟨b, ty, arr, h1, h2, h3, h4, h5, fun i s hs => ?_⟩
  obtain ⟨u, hu, hk⟩ := h6 i s hs
  exact ⟨u, hu, SV.ok_mono (fun _ h => h) (Nat.le_refl _) (fun _ _ _ => rfl) s u (fun r hm => hr r (List.mem_flatMap.2 ⟨s, List.mem_of_getElem? hs, SV.ref_of hm⟩)) hk⟩
theorem SatZ.calledH (h : SatZ E Z ν T O a w) (hsub : OwnSub l O Oc) (hok : w1u T O l Oc O' res = true)
  (hb : Base (Q0e 0 w Z Oc (fun r => ν (rnm l r))) Z' w') (hν : ∀ r, look Oc r ≠ none → ν' r = ν (rnm l r)) (ho : OwnOk (Q0e 0 w Z Oc (fun r => ν (rnm l r))) O' Z' ν' w') (hkeys : ∀ r, look Oc r ≠ none → look O' r ≠ none) :
  SatZ E Z' (nuB l O' ν ν') T (Own.ren (rnm l) O' ++ O) a w' := by
 simp only [w1u, Bool.and_eq_true, List.all_eq_true, Bool.or_eq_true] at hok
 obtain ⟨⟨⟨hinj, hnew⟩, hcl⟩, _⟩ := hok
 have hown : ∀ b, y0w Oc (fun r => ν (rnm l r)) b → ∃ r, look Oc r ≠ none ∧ look O (rnm l r) ≠ none ∧ j0C (ν (rnm l r)) = some b := by
  rintro b ⟨r, h1, h2⟩
  obtain ⟨x, hx⟩ := Option.ne_none_iff_exists'.1 h1
  exact ⟨r, h1, by rw [hsub.get hx]; simp, h2⟩
 have hownB : ∀ b, y0w Oc (fun r => ν (rnm l r)) b → b < w.heap.size ∧ ¬ Z b ∧ ¬ E.keep b := by
  intro b hbb
  obtain ⟨r, _, h2, h3⟩ := hown b hbb
  obtain ⟨y, hy⟩ := Option.ne_none_iff_exists'.1 h2
  exact Res.blk_lt (h.own.each _ y hy) h3
 have hnewF : ∀ r, look O' r ≠ none → look Oc r = none → q0Q (rnm l r) T O = true ∧ Nat.blt (rnm l r) 1000 = true := by
  intro r hr hc
  obtain ⟨p, hp, rfl⟩ := List.mem_map.1 (q0A hr)
  rcases hnew p hp with h1 | h1
  ·rw [hc] at h1; cases h1
  ·exact h1
 have hkeepLt : ∀ k, E.keep k → k < w.heap.size := fun k hk => Nat.lt_of_lt_of_le (h.base.keepLt k hk) h.base.size
 have hZw : ∀ k, Z k → k < w.heap.size → w'.heap[k]? = w.heap[k]? := fun k hk hlt => hb.kept k ⟨hlt, fun ho => (hownB k ho).2.1 hk⟩
 have hav : ∀ (τ : AV) v, τ.ok Z w v → τ.ok Z' w' v := AV.ok_mono hb.z0 hb.size hZw
 have hlookN : ∀ k, look (Own.ren (rnm l) O') k = none → ∀ r, look O' r ≠ none → rnm l r ≠ k := fun k hk r hr e => by
  have := J0I (f := rnm l) hr
  rw [e] at this; exact this hk
 have hnuO : ∀ k, look (Own.ren (rnm l) O') k = none → nuB l O' ν ν' k = ν k := fun k hk => J0M hν (fun r hr _ => hlookN k hk r hr)
 have hblkH : ∀ k b, look (Own.ren (rnm l) O') k = none → look O k ≠ none → j0C (ν k) = some b → ¬ y0w Oc (fun r => ν (rnm l r)) b := by
  intro k b hk hOk hbk hob
  obtain ⟨r, h1, h2, h3⟩ := hown b hob
  exact h.own.apart (rnm l r) k (hlookN k hk r (hkeys r h1)) h2 hOk b h3 hbk
 have hslotν : ∀ (s : SV), (∀ r, look O' r ≠ none → look Oc r = none → s.mentions (rnm l r) = false) → ∀ k, s.mentions k = true → nuB l O' ν ν' k = ν k := fun s hs k hk =>
  J0M hν (fun r h1 h2 e => by rw [← e, hs r h1 h2] at hk; cases hk)
 refine ⟨h.defers, h.tsize, h.cst, fun r v hr => ?_, ⟨hb.os.trans h.base.os, hb.tape.trans h.base.tape, hb.output.trans h.base.output, Nat.le_trans h.base.size hb.size, h.base.keepLt, fun k hk => ?_, hb.zok, fun k hk => hb.z0 k (h.base.z0 k hk), fun k hk => ?_⟩, ⟨fun k y hy => ?_, fun k k' hne e1 e2 b hb1 => ?_⟩, fun k => ?_⟩
 ·rw [J0M hν (fun q h1 h2 e => ?_)]
  ·exact h.pin r v hr
  ·have := (hnewF q h1 h2).2
   rw [e] at this
   rw [E.pinHi r this] at hr; cases hr
 ·rw [hb.kept k ⟨hkeepLt k hk, fun ho => (hownB k ho).2.2 hk⟩]; exact h.base.kept k hk
 ·rcases hb.zNew k hk with h1 | h1
  ·exact h.base.zNew k h1
  ·refine .inr fun hkk => h1 ⟨hkeepLt k hkk, fun ho => (hownB k ho).2.2 hkk⟩
 ·rw [x0c] at hy
  cases hl : look (Own.ren (rnm l) O') k with
  |some y' =>
   rw [hl] at hy; dsimp only at hy; cases hy
   obtain ⟨r, x, h1, h2, h3⟩ := y0v hl
   subst h2 h3
   rw [Res.ren_ok, Q0L hinj (by rw [h1]; simp)]
   have hx := ho.each r x h1
   refine Res.ok_nu (ν := ν') ?_ (fun q hq => ?_)
   ·refine Res.ok_env hx (fun _ _ h => h) (fun b hbb => ?_)
    obtain ⟨q1, q2, q3⟩ := Res.blk_lt hx hbb
    refine ⟨q2, fun hk => q3 ⟨hkeepLt b hk, fun ho => (hownB b ho).2.2 hk⟩, rfl⟩
   ·refine Q0L hinj ?_
    have := hcl (r, x) (q0K h1) q hq
    intro e; rw [e] at this; cases this
  |none =>
   rw [hl] at hy; dsimp only at hy
   have hOk : look O k ≠ none := by rw [hy]; simp
   rw [hnuO k hl]
   have hx := h.own.each k y hy
   refine Res.ok_nu (ν := ν) (Res.ok_env hx hav (fun b hbb => ?_)) (fun q hq => ?_)
   ·obtain ⟨q1, q2, q3⟩ := Res.blk_lt hx hbb
    have hno := hblkH k b hl hOk hbb
    refine ⟨fun hz => ?_, q3, hb.kept b ⟨q1, hno⟩⟩
    rcases hb.zNew b hz with h1 | h1
    ·exact q2 h1
    ·exact h1 ⟨q1, hno⟩
   ·cases y with
    |row ty sz n f => cases hq
    |obj φ hφ => cases hq
    |cells cs =>
     obtain ⟨s, hs, hq⟩ := List.mem_flatMap.1 hq
     refine J0M hν (fun r h1 h2 e => ?_)
     have hff := (J0v (hnewF r h1 h2).1).2.2 k cs hy s hs
     have : s.mentions (rnm l r) = true := by rw [e]; exact SV.mentions_of_ref hq
     rw [hff] at this; cases this
    |srow ty sz n cs =>
     obtain ⟨s, hs, hq⟩ := List.mem_flatMap.1 hq
     refine J0M hν (fun r h1 h2 e => ?_)
     have hff := k0R (hnewF r h1 h2).1 k ty sz n cs hy s hs
     have : s.mentions (rnm l r) = true := by rw [e]; exact SV.mentions_of_ref hq
     rw [hff] at this; cases this
 ·rw [x0c] at e1 e2
  cases hl : look (Own.ren (rnm l) O') k with
  |some y =>
   obtain ⟨r, x, h1, h2, _⟩ := y0v hl
   subst h2
   have hr : look O' r ≠ none := by rw [h1]; simp
   rw [Q0L hinj hr] at hb1
   cases hl' : look (Own.ren (rnm l) O') k' with
   |some y' =>
    obtain ⟨r', x', h1', h2', _⟩ := y0v hl'
    subst h2'
    rw [Q0L hinj (by rw [h1']; simp)]
    exact ho.apart r r' (fun e => hne (by rw [e])) hr (by rw [h1']; simp) b hb1
   |none =>
    rw [hl'] at e2; dsimp only at e2
    rw [hnuO k' hl']
    intro hb2
    obtain ⟨y', hy'⟩ := Option.ne_none_iff_exists'.1 e2
    have q1 := (Res.blk_lt (h.own.each k' y' hy') hb2).1
    exact (Res.blk_lt (ho.each r x h1) hb1).2.2 ⟨q1, hblkH k' b hl' e2 hb2⟩
  |none =>
   rw [hl] at e1; dsimp only at e1
   rw [hnuO k hl] at hb1
   cases hl' : look (Own.ren (rnm l) O') k' with
   |some y' =>
    obtain ⟨r', x', h1', h2', _⟩ := y0v hl'
    subst h2'
    rw [Q0L hinj (by rw [h1']; simp)]
    intro hb2
    obtain ⟨y, hy⟩ := Option.ne_none_iff_exists'.1 e1
    have q1 := (Res.blk_lt (h.own.each k y hy) hb1).1
    exact (Res.blk_lt (ho.each r' x' h1') hb2).2.2 ⟨q1, hblkH k b hl e1 hb1⟩
   |none =>
    rw [hl'] at e2; dsimp only at e2
    rw [hnuO k' hl']
    exact h.own.apart k k' hne e1 e2 b hb1
 ·exact SV.ok_mono hb.z0 hb.size hZw _ _ (fun r hm => hslotν _ (fun q h1 h2 => (J0v (hnewF q h1 h2).1).1 k) r hm) (h.slot k)
end
end Go.Vc
end
section
namespace Go.Vc
open Go Go.RowKit
def CV.sv : CV → SV
 |.av τ => .av τ
 |.own r off => .own r off
 |.osl r => .osl r
theorem CV.sv_ok {Z : j0q} {ν : j0N} {w : World} {c : CV} {v : Value} : (c.sv).ok Z ν w v ↔ c.ok Z ν w v := by cases c <;> exact Iff.rfl
section
variable {P : Program} {E : Env} {T : Tab} {O Oc O' : Own} {d : Option Tmp} {ty : TypeId} {pos : String} {af : Array Edge} {g : Option (Nat × Bool)}
theorem Q0v {Z : j0q} {ν : j0N} {a : Act} {w : World} (h : SatZ E Z ν T O a w) : ∀ {xs : List Operand} {ss : List SV}, xs.map T.ev = ss → All2 (fun s v => SV.ok Z ν w s v) ss (xs.map a.eval)
 |[], [], _ => trivial
 |x :: xs, s :: ss, he => by
  simp only [List.map_cons, List.cons.injEq] at he
  refine ⟨?_, Q0v h he.2⟩
  have := j0G h x
  rw [he.1] at this
  exact this
 |[], _ :: _, he => by simp at he
 |_ :: _, [], he => by simp at he
theorem X0Y {Z : j0q} {ν : j0N} {w : World} {f : Nat → Nat} {ss : List SV} {vs : List Value} (h : All2 (fun s v => SV.ok Z ν w s v) (ss.map (SV.ren f)) vs) : All2 (fun s v => SV.ok Z (fun r => ν (f r)) w s v) ss vs := by
 rw [All2.map_iff] at h
 exact h.mono fun s _ v hv => (SV.ren_ok s v).1 hv
theorem All2.app {α β : Type} {R : α → β → Prop} : ∀ {l : List α} {m : List β} {l' : List α} {m' : List β}, All2 R l m → All2 R l' m' → All2 R (l ++ l') (m ++ m')
 |[], [], _, _, _, h => h
 |_ :: _, _ :: _, _, _, h, h' => ⟨h.1, All2.app h.2 h'⟩
 |[], _ :: _, _, _, h, _ => h.elim
 |_ :: _, [], _, _, h, _ => h.elim
theorem V0E {l : List (Nat × Nat)} {res : SV} (hok : w1u T O l Oc O' res = true) (hk : ∀ r, look Oc r ≠ none → look O' r ≠ none) : ∀ r r', look Oc r ≠ none → look Oc r' ≠ none → rnm l r = rnm l r' → r = r' := by
 simp only [w1u, Bool.and_eq_true] at hok
 exact fun r r' h1 h2 e => z0V hok.1.1.1 (q0A (hk r h1)) (q0A (hk r' h2)) e
theorem OwnSub.own' {l : List (Nat × Nat)} {Z : j0q} {ν : j0N} {a : Act} {w : World} (h : SatZ E Z ν T O a w) (hsub : OwnSub l O Oc) (hinj : ∀ r r', look Oc r ≠ none → look Oc r' ≠ none → rnm l r = rnm l r' → r = r') : OwnOk (Q0e 0 w Z Oc (fun r => ν (rnm l r))) Oc Z (fun r => ν (rnm l r)) w := by
 refine ⟨fun r x hx => ?_, fun r r' hne h1 h2 b hb1 => ?_⟩
 ·have hx' := h.own.each _ _ (hsub.get hx)
  rw [Res.ren_ok] at hx'
  refine Res.ok_env hx' (fun _ _ h => h) (fun b hbb => ⟨(Res.blk_lt hx' hbb).2.1, fun hk => hk.2 ⟨r, by rw [hx]; simp, hbb⟩, rfl⟩)
 ·obtain ⟨x, hx⟩ := Option.ne_none_iff_exists'.1 h1
  obtain ⟨x', hx'⟩ := Option.ne_none_iff_exists'.1 h2
  exact h.own.apart _ _ (fun e => hne (hinj r r' h1 h2 e)) (by rw [hsub.get hx]; simp) (by rw [hsub.get hx']; simp) b hb1
theorem V0S {l : List (Nat × Nat)} {res : SV} {Z : j0q} {ν ν' : j0N} {w : World} {v : Value} (hok : w1u T O l Oc O' res = true) (h : res.ok Z ν' w v) : (res.ren (rnm l)).ok Z (nuB l O' ν ν') w v := by
 simp only [w1u, Bool.and_eq_true, List.all_eq_true] at hok
 rw [SV.ren_ok]
 refine SV.ok_mono (fun _ h => h) (Nat.le_refl _) (fun _ _ _ => rfl) res v (fun r hm => Q0L hok.1.1.1 ?_) h
 have := hok.2 r (SV.ref_of hm)
 intro e; rw [e] at this; cases this
theorem j0o {f : FuncId} {xs : List Operand} {ats : Array TypeId} {args : List SV} {res : SV} (l : List (Nat × Nat)) (hc : CtrH P f args Oc res O') (hx : xs.map T.ev = args.map (SV.ren (rnm l))) (hsub : OwnSub l O Oc) (hok : w1u T O l Oc O' res = true) :
  VStep P E ⟨d, .call ⟨.value (.func f), xs.toArray, ats⟩, ty, pos, af, g⟩ T O T (Own.ren (rnm l) O' ++ O) (res.ren (rnm l)) := by
 refine ⟨by intro c; simp, fun Z ν a w hs => ?_⟩
 have hev := X0Y (Q0v hs hx)
 refine q0g (f := f) (args := (xs.map a.eval).toArray) ?_ ?_
 ·have hen := hc.enters (xs.map a.eval).toArray w
  simp [execOp, resolve, Deferred.ofValue, Act.eval, invoke] at hen ⊢
  exact hen
 ·refine Calls.mono (hc.calls w Z _ _ hs.base.zok hev (hsub.own' hs (V0E hok hc.keys))) ?_
  rintro e w' ⟨u, Z', ν', rfl, hb, hν, ho, hr⟩
  exact ⟨u, rfl, u, Z', nuB l O' ν ν', rfl, hs.calledH hsub hok hb hν ho hc.keys, V0S hok hr⟩
theorem W0W {f : FuncId} {xs : List Operand} {caps : List CV} (hx : xs.map T.ev = caps.map CV.sv) :
  GV P E ⟨d, .makeFunc (.func f) #[] xs.toArray, ty, pos, af, g⟩ T O (.clo f caps) [] [] := by
 refine ⟨fun T' O' hT _ => ⟨by intro c; simp, fun Z ν a w hs => ?_⟩⟩
 have hx' : xs.map T'.ev = caps.map CV.sv := by
  rw [← hx]
  refine List.map_congr_left fun x hxm => j0r (o := ⟨d, .makeFunc (.func f) #[] xs.toArray, ty, pos, af, g⟩) hT ?_
  simp [Op.operands, hxm]
 have hev := Q0v hs hx'
 rw [All2.map_iff] at hev
 refine j0B (w' := w) (v := .func (.func f) #[] (xs.map a.eval).toArray) (by simp [execOp, Instr.makeFunc]) ⟨_, Z, ν, rfl, hs, ?_⟩
 exact ⟨xs.map a.eval, rfl, hev.mono fun c _ v hv => CV.sv_ok.1 hv⟩
theorem v0p {x : Operand} {r off : Nat} (hx : T.ev x = .own r off) : GV P E ⟨d, .nilCheck x, ty, pos, af, g⟩ T O (.own r off) [] [] :=
 j0p [] fun Z ν a w h _ => by
  obtain ⟨b, hb, hax⟩ := z0u hx (h x (by simp [Op.operands]))
  exact ⟨.pointer (some ⟨b, off, none⟩), by simp [execOp, hax], b, hb, rfl⟩
end
end Go.Vc
end
section
namespace Go.Vc
open Go Go.RowKit
section
variable {P : Program} {E : Env} {T T' : Tab} {O O' : Own} {o : Oper} {d : Option Tmp} {ty : TypeId} {pos : String} {af : Array Edge} {g : Option (Nat × Bool)}
theorem SatZ.copied {Z : j0q} {ν : j0N} {a : Act} {w : World} {r n ety b cap lo : Nat} {f f' : Nat → Nat → AV} {arr : Array Value} {cs : List Value} (h : SatZ E Z ν T O a w) (hr : look O r = some (.row ety 1 n f)) (hb : ν r = .slice (some ⟨b, 0, none⟩) n cap) (ha : w.heap[b]? = some (.cells arr ety (0, 0)))
  (hc : lo + cs.length ≤ n) (hcs : ∀ i u, cs[i]? = some u → (f' (lo + i) 0).ok Z w u) (hot : ∀ i, i < n → ¬ (lo ≤ i ∧ i < lo + cs.length) → f' i 0 = f i 0) :
  SatZ E Z ν T ((r, .row ety 1 n f') :: O) a (w.setRow b (arr.toList.take lo ++ cs ++ arr.toList.drop (lo + cs.length)).toArray) := by
 have hrow := h.own.each r _ hr
 refine h.write hr (b := b) (by rw [hb]; rfl) rfl rfl rfl (by simp) (fun k hk => setRow_other w b k _ hk) (fun hsv => ?_)
 rcases hrow with ⟨e1, e2⟩ | ⟨b', cap', arr', e1, e2, e3, e4, e5, e6, e7, e8⟩
 ·rw [hb] at e1; simp at e1
 ·rw [hb] at e1
  simp only [Value.slice.injEq, Option.some.injEq, Addr.mk.injEq, and_true, true_and] at e1
  obtain ⟨rfl, rfl⟩ := e1
  rw [ha] at e4
  cases e4
  refine .inr ⟨b, cap, _, hb, e2, e3, setRow_heap w b arr _ ety _ ha, e5, e6, ?_, fun i hi j hj => ?_⟩
  ·rw [← e7]; simp; omega
  ·obtain rfl : j = 0 := by omega
   obtain ⟨u0, hu0, hk0⟩ := e8 i hi 0 zO
   simp only [Nat.mul_one, Nat.add_zero] at hu0 ⊢
   have hlt0 : i < arr.size := (Array.getElem?_eq_some_iff.1 hu0).1
   by_cases h1 : i < lo
   ·refine ⟨u0, ?_, by rw [hot i hi (by omega)]; exact hsv (.av _) _ hk0⟩
    rw [List.getElem?_toArray, List.append_assoc, List.getElem?_append_left (by simp; omega), List.getElem?_take_of_lt (by omega)]
    simpa using hu0
   ·have hl : i - (arr.toList.take lo).length = i - lo := by simp; omega
    by_cases h2 : i < lo + cs.length
    ·have h3 : i - lo < cs.length := by omega
     have := hcs (i - lo) cs[i - lo] (by simp)
     rw [show lo + (i - lo) = i by omega] at this
     refine ⟨cs[i - lo], ?_, hsv (.av _) _ this⟩
     rw [List.getElem?_toArray, List.append_assoc, List.getElem?_append_right (by simp; omega), hl, List.getElem?_append_left h3]
     simp
    ·refine ⟨u0, ?_, by rw [hot i hi (by omega)]; exact hsv (.av _) _ hk0⟩
     rw [List.getElem?_toArray, List.append_assoc, List.getElem?_append_right (by simp; omega), hl, List.getElem?_append_right (by omega), List.getElem?_drop, show lo + cs.length + (i - lo - cs.length) = i by omega]
     simpa using hu0
theorem X0w {e : TypeId} (h : ∀ w, (sizeOf e).run P w = .ok 1 w) : (P.info? e).map (·.size) = some 1 := by
 have h := h default
 unfold sizeOf at h
 cases hq : P.info? e with
 |none => simp [typeInfo, hq] at h
 |some i =>
  simp [typeInfo, hq] at h
  simp [h]
theorem Z0r {t e : TypeId} {x y : Operand} {n sz bytes : Nat} {i i' : Int} (r : Nat) [ht : SlTy P t e sz] {zs : List Value} (hzs : zs.length = sz) (he : ∃ inf z, P.info? e = some inf ∧ inf.zero = some z ∧ inf.size = sz ∧ inf.bytes = bytes ∧ z.cells = zs.toArray ∧ 0 < sz)
  (hx : T.ev x = .av (.val (.int .i64 i))) (hy : T.ev y = .av (.val (.int .i64 i'))) (hi : i = ↑n) (hi' : i' = ↑n) (hn : n ≤ maxLen) (hby : n * bytes ≤ 140737488355328) (hf : q0Q r T O = true) (hp : Nat.blt r 1000 = true := by first | rfl | assumption) :
  VStep P E ⟨d, .makeSlice t x y, ty, pos, af, g⟩ T O T ((r, .row e sz n (fun _ j => .val (zs.getD j undef))) :: O) (.osl r) := (X1P (q := .i64) (q' := .i64) r hzs he hx hy hi hi' hn hby hp).fresh hf
theorem J1u {upd : Own} (h : V1z O upd) : Ent T O T (upd ++ O) := by
 rintro E a w ⟨Z, ν, hs⟩
 have key : ∀ (upd : Own), V1z O upd → ∀ k y, look upd k = some y → ∃ x, look O k = some x ∧ RLe x y := by
  intro upd
  induction upd with
  |nil => intro _ k y hy; simp [look] at hy
  |cons p U ih =>
   obtain ⟨q, x⟩ := p
   intro h k y hy
   by_cases hk : q = k
   ·subst hk; rw [j0l] at hy; cases hy; exact h.1
   ·rw [j0d _ _ hk] at hy; exact ih h.2 k y hy
 have hh : ∀ k, look (upd ++ O) k ≠ none → look O k ≠ none := by
  intro k hk
  rw [x0c] at hk
  cases hl : look upd k with
  |none => rw [hl] at hk; exact hk
  |some y => obtain ⟨x, hx, _⟩ := key upd h k y hl; rw [hx]; simp
 refine ⟨Z, ν, hs.defers, hs.tsize, hs.cst, hs.pin, hs.base, ⟨fun k y hy => ?_, fun k k' hne q1 q2 => hs.own.apart k k' hne (hh k q1) (hh k' q2)⟩, hs.slot⟩
 rw [x0c] at hy
 cases hl : look upd k with
 |none => rw [hl] at hy; exact hs.own.each k y hy
 |some z =>
  rw [hl] at hy; cases hy
  obtain ⟨x, hx, hr⟩ := key upd h k _ hl
  exact hr.ok (hs.own.each k x hx)
end
end Go.Vc
end
section
namespace Go.Vc
open Go Go.RowKit
section
variable {P : Program} {E : Env} {T T' : Tab} {O O' : Own} {o : Oper} {d : Option Tmp} {ty : TypeId} {pos : String} {af : Array Edge} {g : Option (Nat × Bool)}
def Y1n (l : List (Nat × Nat)) (T : Tab) : Tab → Prop
 |[] => True
 |(d, s) :: T' => T.get d = s.ren (rnm l) ∧ Y1n l T T'
theorem j1H (l : List (Nat × Nat)) (hT : Y1n l T T') (hsub : OwnSub l O O') (hinj : V1v ((O'.map (·.1)).map (rnm l)) = true) (hlo : (l.all fun p => Nat.blt p.1 1000) = true) : Ent T O T' O' := by
 rintro E a w ⟨Z, ν, h⟩
 refine ⟨Z, fun r => ν (rnm l r), h.defers, h.tsize, h.cst, fun r v hr => ?_, h.base, ⟨fun r x hx => ?_, fun r r' hne h1 h2 b hb1 => ?_⟩, ?_⟩
 ·have hr1 : Nat.blt r 1000 ≠ true := fun e => by rw [E.pinHi r e] at hr; cases hr
  have : rnm l r = r := by
   unfold rnm
   cases hl : look l r with
   |none => rfl
   |some k => exact absurd (List.all_eq_true.1 hlo _ (q0K hl)) hr1
  show ν (rnm l r) = v
  rw [this]; exact h.pin r v hr
 ·have hx' := h.own.each _ _ (hsub.get hx)
  rwa [Res.ren_ok] at hx'
 ·obtain ⟨x, hx⟩ := Option.ne_none_iff_exists'.1 h1
  obtain ⟨x', hx'⟩ := Option.ne_none_iff_exists'.1 h2
  exact h.own.apart _ _ (fun e => hne (z0V hinj (q0A h1) (q0A h2) e)) (by rw [hsub.get hx]; simp) (by rw [hsub.get hx']; simp) b hb1
 ·have key : ∀ T' : Tab, Y1n l T T' → ∀ d, (T'.get d).ok Z (fun r => ν (rnm l r)) w (a.tmps.getD d undef) := by
   intro T'
   induction T' with
   |nil => intro _ d; trivial
   |cons p T' ih =>
    obtain ⟨k, s⟩ := p
    intro ht d
    by_cases hk : k = d
    ·subst hk; rw [Tab.get_cons_eq, ← SV.ren_ok, ← ht.1]; exact h.slot k
    ·rw [Tab.get_cons_ne _ _ hk]; exact ih ht.2 d
  exact key T' hT
end
end Go.Vc
end
section
end
section
namespace Go.Vc
open Go Go.RowKit
section
variable {P : Program} {E : Env} {T T' : Tab} {O O' : Own} {o : Oper} {d : Option Tmp} {ty : TypeId} {pos : String} {af : Array Edge} {g : Option (Nat × Bool)}
theorem SatZ.reobj {Z : j0q} {ν : j0N} {a : Act} {w : World} {r : Nat} {x y : Res} (hs : SatZ E Z ν T O a w) (hr : look O r = some x) (hy : y.ok E Z ν w (ν r)) : SatZ E Z ν T ((r, y) :: O) a w := by
 refine ⟨hs.defers, hs.tsize, hs.cst, hs.pin, hs.base, ⟨fun k z hz => ?_, fun k k' hne q1 q2 => ?_⟩, hs.slot⟩
 ·by_cases hk : k = r
  ·subst hk
   rw [j0l] at hz
   cases hz
   exact hy
  ·rw [j0d _ _ (fun e => hk e.symm)] at hz
   exact hs.own.each k z hz
 ·have hh : ∀ k, look ((r, y) :: O) k ≠ none → look O k ≠ none := by
   intro k hk
   by_cases hkr : k = r
   ·subst hkr; rw [hr]; simp
   ·rw [j0d _ _ (fun e => hkr e.symm)] at hk; exact hk
  exact hs.own.apart k k' hne (hh k q1) (hh k' q2)
end
end Go.Vc
end
section
namespace Go.Vc
open Go Go.RowKit
section
variable {P : Program} {E : Env} {T T' : Tab} {O O' : Own} {o : Oper} {d : Option Tmp} {ty : TypeId} {pos : String} {af : Array Edge} {g : Option (Nat × Bool)}
theorem w0D {t : TypeId} {is : List Nat} {xs : List Operand} {τs : List AV} {n : Nat} {f : Nat → AV} (hx : xs.map T.ev = τs.map SV.av) (hl : xs.length = is.length)
  (hb : ∀ (Z : j0q) (w : World) (vs : List Value), All2 (fun τ v => AV.ok Z w τ v) τs vs → ∃ cs : List Value, P.built t (is.zip vs) = some cs.toArray ∧ cs.length = n ∧ ∀ i, i < n → ∃ u, cs[i]? = some u ∧ (f i).ok Z w u) :
  GV P E ⟨d, .build t (is.zip xs).toArray, ty, pos, af, g⟩ T O (.av (.agg n f)) [] [] := by
 refine ⟨fun T' O' hT hO => ⟨by intro c; simp, fun Z ν a w hs => ?_⟩⟩
 have hmem : ∀ x ∈ xs, x ∈ (Op.build t (is.zip xs).toArray).operands.toList := by
  intro x hx
  simp only [Op.operands, List.map_toArray, List.mem_map]
  obtain ⟨i, hi, rfl⟩ := List.getElem_of_mem hx
  refine ⟨(is[i]'zO, xs[i]), ?_, rfl⟩
  rw [List.mem_iff_getElem]
  exact ⟨i, by simp; omega, by simp⟩
 have hx' : xs.map T'.ev = τs.map SV.av := by
  rw [← hx]
  exact List.map_congr_left fun x hxm => j0r (o := ⟨d, .build t (is.zip xs).toArray, ty, pos, af, g⟩) hT (hmem x hxm)
 obtain ⟨cs, h1, h2, h3⟩ := hb Z w _ (v0A hs hx')
 have hrun := run_build (P := P) w t (is.zip (xs.map a.eval)).toArray cs.toArray (by simpa using h1)
 have he : (is.zip xs).map (fun p => (p.1, a.eval p.2)) = is.zip (xs.map a.eval) := by
  rw [List.zip_map_right]; rfl
 refine j0B (w' := w) (v := .agg cs.toArray) ?_ ⟨_, Z, ν, rfl, hs, cs, rfl, h2, h3⟩
 simp only [execOp, List.map_toArray]
 rw [show (List.map (fun (x : Nat × Operand) => match x with | (i, x) => (i, a.eval x)) (is.zip xs)) = is.zip (xs.map a.eval) from he]
 simp [hrun]
theorem w0Y {t e : TypeId} {n sz : Nat} {is : List Nat} {xs : List Operand} {τs : List AV} {row : Nat → Nat → AV} [_ht : SlTy P t e sz] (hx : xs.map T.ev = τs.map SV.av) (hl : xs.length = is.length)
  (hb : ∀ (Z : j0q) (w : World) (vs : List Value), All2 (fun τ v => AV.ok Z w τ v) τs vs → ∃ cs : List Value, (Instr.buildSlice t n (is.zip vs).toArray).run P w = .ok (.slice (some ⟨w.heap.size, 0, none⟩) n n) (w.alloc (.cells cs.toArray e)) ∧ ∀ i, i < n → ∀ j, j < sz → ∃ u, cs[i * sz + j]? = some u ∧ (row i j).ok Z w u) (hm : Nat.ble n maxLen = true) :
  GV P E ⟨d, .buildSlice t n (is.zip xs).toArray, ty, pos, af, g⟩ T O (.av (.sl n sz row)) [] [] := by
 refine ⟨fun T' O' hT _ => ⟨by intro c; simp, fun Z ν a w hs => ?_⟩⟩
 have hx' : xs.map T'.ev = τs.map SV.av := by
  rw [← hx]
  refine List.map_congr_left fun x hxm => j0r (o := ⟨d, .buildSlice t n (is.zip xs).toArray, ty, pos, af, g⟩) hT ?_
  simp only [Op.operands, List.mem_map, Prod.exists, exists_eq_right]
  obtain ⟨k, hk, rfl⟩ := List.getElem_of_mem hxm
  exact ⟨is[k]'(by omega), List.mem_iff_getElem.2 ⟨k, by simp; omega, by simp⟩⟩
 obtain ⟨cs, hr, hc⟩ := hb Z w _ (v0A hs hx')
 have hz : (is.zip xs).map (fun p => (p.1, a.eval p.2)) = is.zip (xs.map a.eval) := by
  rw [List.zip_map_right]; rfl
 refine j0B (w' := w.alloc (.cells cs.toArray e)) (v := .slice (some ⟨w.heap.size, 0, none⟩) n n) ?_ ⟨_, _, ν, rfl, hs.allocRo _, ⟨some ⟨w.heap.size, 0, none⟩, n, rfl, Nat.le_refl _, Nat.le_of_ble_eq_true hm, fun hn => ⟨w.heap.size, 0, rfl, fun _ => .inr rfl, by simp, fun i hi j hj => ?_⟩⟩⟩
 ·simp only [execOp, List.map_toArray]
  rw [show (List.map (fun (x : Nat × Operand) => match x with | (i, x) => (i, a.eval x)) (is.zip xs)) = is.zip (xs.map a.eval) from hz]
  simp [hr]
 ·obtain ⟨u, hu, hok⟩ := hc i hi j hj
  refine ⟨u, by rw [World.cell?_alloc_new, Nat.zero_add]; simpa using hu, ?_⟩
  exact AV.ok_mono (fun k hk => .inl hk) (by simp) (fun k _ hk => w0b w _ hk) _ _ hok
theorem x0v {t : TypeId} {x : Operand} {n : Nat} {f : Nat → AV} (hx : T.ev x = .av (.agg n f)) : GV P E ⟨d, .box t x, ty, pos, af, g⟩ T O (.av (.ptr n f)) [] [] := by
 refine ⟨fun T' O' hT _ => ⟨by intro c; simp, fun Z ν a w hs => ?_⟩⟩
 have hv := j0G hs x
 rw [j0r (o := ⟨d, .box t x, ty, pos, af, g⟩) hT (by simp [Op.operands]), hx] at hv
 obtain ⟨cs, hv', hl, hc⟩ := hv
 refine j0B (w' := w.alloc (.cells cs.toArray t)) (v := .pointer (some ⟨w.heap.size, 0, none⟩)) (by simp [execOp, Instr.box, newVar, newRow, hv', Value.cells]) ⟨_, _, ν, rfl, hs.allocRo _, ⟨w.heap.size, 0, rfl, fun _ => .inr rfl, by simp, fun i hi => ?_⟩⟩
 obtain ⟨u, hu, hk⟩ := hc i hi
 exact ⟨u, by rw [World.cell?_alloc_new, Nat.zero_add]; simpa using hu, AV.ok_mono (fun k hk => .inl hk) (by simp) (fun k _ hk => w0b w _ hk) _ _ hk⟩
theorem j0i {t : TypeId} {x : Operand} {n k : Nat} {f : Nat → AV} [ht : AggTy P t k] (hx : T.ev x = .av (.ptr n f)) (hn' : Nat.ble k n = true) :
  GV P E ⟨d, .load t x, ty, pos, af, g⟩ T O (.av (.agg k f)) [] [] :=
 j0p [] fun Z ν a w h _ => by
  have hn : k ≤ n := Nat.le_of_ble_eq_true hn'
  obtain ⟨b, o, he, _, _, hc⟩ := z0v hx (h x (by simp [Op.operands]))
  have hget : ∀ i, i < k → ∃ u, w.cell? ⟨b, o + i, none⟩ = some u ∧ (f i).ok Z w u := fun i hi => hc i zO
  have hl : ((List.range k).map fun i => (w.cell? ⟨b, o + i, none⟩).getD undef).length = k := by simp
  have hcs : ∀ i u, ((List.range k).map fun i => (w.cell? ⟨b, o + i, none⟩).getD undef)[i]? = some u → w.cell? ⟨b, o + i, none⟩ = some u := by
   intro i u hu
   simp only [List.getElem?_map, Option.map_eq_some_iff] at hu
   obtain ⟨i', hi', rfl⟩ := hu
   obtain ⟨hi, rfl⟩ := List.getElem?_eq_some_iff.1 hi'
   simp only [List.getElem_range, List.length_range] at hi ⊢
   obtain ⟨u, hu, _⟩ := hget i hi
   rw [hu]; rfl
  refine ⟨.agg ((List.range k).map fun i => (w.cell? ⟨b, o + i, none⟩).getD undef).toArray, ?_, _, rfl, hl, fun i hi => ?_⟩
  ·have hr := run_loadCells_list (P := P) (w := w) ⟨b, o, none⟩ ((List.range k).map fun i => (w.cell? ⟨b, o + i, none⟩).getD undef) (fun j v hj => by rw [j0I]; exact hcs j v hj)
   rw [hl] at hr
   simp [execOp, Instr.loadAt, he, Instr.sureAddr, loadVar, ht.agg w, ht.size w, hr]
  ·obtain ⟨u, hu, hk⟩ := hget i hi
   exact ⟨u, by simp [hi, hu], hk⟩
theorem j0y {t : TypeId} {x y : Operand} {r off k : Nat} {cs : List SV} {f : Nat → AV} [ht : SizeTy P t k] (hx : T.ev x = .own r off) (hy : T.ev y = .av (.agg k f)) (h1 : ∀ i, i < k → (f i).one = true) (hr : look O r = some (.cells cs)) (hfit' : Nat.ble (off + k) cs.length = true) :
  GV P E ⟨d, .store t x y, ty, pos, af, g⟩ T O (.av .any) [r] [(r, .cells (spl cs off ((List.range k).map fun i => .av (f i))))] := by
 refine ⟨fun T' O' hT hO => ⟨by intro c; simp, fun Z ν a w hs => ?_⟩⟩
 have ex := j0G hs x
 rw [j0r (o := ⟨d, .store t x y, ty, pos, af, g⟩) hT (by simp [Op.operands]), hx] at ex
 have ey := j0G hs y
 rw [j0r (o := ⟨d, .store t x y, ty, pos, af, g⟩) hT (by simp [Op.operands]), hy] at ey
 obtain ⟨b, hb, hax⟩ := ex
 have hfit : off + k ≤ cs.length := Nat.le_of_ble_eq_true hfit'
 obtain ⟨us, hus, hl, hc⟩ := ey
 have hall : All2 (fun s v => SV.ok Z ν w s v) ((List.range k).map fun i => SV.av (f i)) us := by
  rw [All2.map_iff]
  subst hl
  have key : ∀ (us : List Value) (j : Nat), (∀ i, i < us.length → ∃ u, us[i]? = some u ∧ (f (j + i)).ok Z w u) → All2 (fun a c => SV.ok Z ν w (.av (f a)) c) (List.range' j us.length) us := by
   intro us
   induction us with
   |nil => intro j _; trivial
   |cons u us ih =>
    intro j h
    refine ⟨?_, ih (j + 1) fun i hi => ?_⟩
    ·obtain ⟨v, h1, h2⟩ := h 0 (by simp)
     simp only [List.getElem?_cons_zero, Option.some.injEq] at h1
     subst h1; exact h2
    ·obtain ⟨v, h1, h2⟩ := h (i + 1) (by simpa using hi)
     rw [List.getElem?_cons_succ] at h1
     exact ⟨v, h1, by rw [show j + 1 + i = j + (i + 1) by omega]; exact h2⟩
  rw [List.range_eq_range']
  exact key us 0 (fun i hi => by rw [Nat.zero_add]; exact hc i hi)
 have hone : ∀ v ∈ us, v.oneCell' = true := by
  intro v hv
  obtain ⟨i, hi, rfl⟩ := List.getElem_of_mem hv
  obtain ⟨u, hu, hk⟩ := hc i zO
  rw [List.getElem?_eq_getElem hi] at hu
  cases hu
  exact AV.one_cells (h1 i zO) hk
 obtain ⟨w', hst, hsat⟩ := hs.storeOwn (P := P) (ss := (List.range k).map fun i => SV.av (f i)) (vs := us) (by rw [hO r (by simp)]; exact hr) hb (by simpa using hfit) hall hone
 unfold Oper.wp
 have hrun : (execOp a.eval ⟨d, .store t x y, ty, pos, af, g⟩).run P w = .ok .skip w' := by
  have : (a.eval y).cells = us.toArray := by rw [hus]; rfl
  simp [execOp, Instr.storeAt, hax, Instr.sureAddr, storeVar, ht.run w, hus, Value.cells, hl, hst]
 rw [hrun]
 exact ⟨Go.undef, Z, ν, rfl, hsat, trivial⟩
end
end Go.Vc
end
section
namespace Go.Vc
open Go Go.RowKit
open Go.MapKept
open Go.WideElems (Fit rd rg pl rd_key rd_val rg_of rd_mk rd_stay other_key)
open Go.Maps (Keyed int_keyed keyOf_int_mk fit_look)
open Go.ChangeMaps (setBlock heap_setBlock_same modify_eq_set)
section
variable {P : Program} {E : Env} {T T' : Tab} {O O' : Own} {o : Oper} {d : Option Tmp} {ty : TypeId} {pos : String} {af : Array Edge} {g : Option (Nat × Bool)}
theorem Q0A {xt yt : TypeId} {x y : Operand} {a b q : Bool} [hb : BoolTy P xt] (h1 : T.ev x = .av (.val (.bool a))) (h2 : T.ev y = .av (.val (.bool b))) (hq : (!(a == b)) = q) :
  GV P E ⟨d, .binOp .neq xt x y yt, ty, pos, af, g⟩ T O (.av (.val (.bool q))) [] [] :=
 y0R h1 h2 (fun w => by simp [eqGuard]) (fun w => by
  have h := run_equalIn_bool' (P := P) w 9999 xt a b hb.und
  subst hq
  simp [binOp, Op.equal, Op.maxDepth, h])
end
end Go.Vc
end
namespace Go.Vc
open Go Go.RowKit
def W0t (Z : j0q) (A B : World) : j0q := fun k => Z k ∨ (A.heap.size ≤ k ∧ k < B.heap.size)
def keepZ (Z : j0q) (A B : World) : Prop := B.os = A.os ∧ B.tape = A.tape ∧ B.output = A.output ∧ A.heap.size ≤ B.heap.size ∧ ∀ k, Z k → k < A.heap.size → B.heap[k]? = A.heap[k]?
theorem keepZ.trans {Z : j0q} {A B C : World} (h : keepZ Z A B) (k : keepZ Z B C) : keepZ Z A C :=
 ⟨k.1.trans h.1, k.2.1.trans h.2.1, k.2.2.1.trans h.2.2.1, Nat.le_trans h.2.2.2.1 k.2.2.2.1, fun i hi hl => (k.2.2.2.2 i hi (Nat.lt_of_lt_of_le hl h.2.2.2.1)).trans (h.2.2.2.2 i hi hl)⟩
theorem keepZ.putObj {Z : j0q} {W : World} {l : Nat} (o' : Obj) (hl : ¬ Z l) : keepZ Z W (W.putObj l o') :=
 ⟨rfl, rfl, rfl, by simp [World.putObj], fun k hz _ => World.putObj_heap_other (fun e => hl (by rw [← e]; exact hz))⟩
def Z1z (P : Program) (gf : FuncId) (lb : Array Value) (V : Value → Prop) (τs : List AV) (Z0 : j0q) (w : World) : Prop :=
 ∀ (l : Nat) (J : List Value → j0q → World → Prop) (W : World), Below w.heap.size w W → (∀ s ZP A B, J s ZP A → A.grownBy B none → J s (W0t ZP A B) B) →
  (∀ pre x ZP A, J pre ZP A → V x → pre.length < τs.length → YieldAt Fence.wide 0 P l #[x] A fun e B => e = .returned (.bool true) ∧ J (pre ++ [x]) ZP B ∧ keepZ ZP A B) → J [] Z0 W →
  CallsIn Fence.wide 1 P gf (#[.func (.yield l) #[] #[]] ++ lb) W fun e W' => (∃ v, e = .returned v) ∧ ∃ xs ZP, All2 (fun τ v => AV.ok ZP W' τ v) τs xs ∧ J xs ZP W'
def bk (w : World) (k : Nat) : Prop := k = w.heap.size ∨ k = w.heap.size + 1
def Y0X (w W : World) : Prop := ∀ k, bk w k → ∃ o, W.heap[k]? = some o ∧ o.isCells = false
theorem Y0P {P : Program} {g : Operand} {p : Tmp} {assign body : Code} {Q : Exit → Act → World → Prop} {a : Act} {w : World} {gf : Nat} {lb : Array Value} {V : Value → Prop} {τs : List AV} {Z0 : j0q}
  (hg : a.eval g = .func (.func gf) #[] lb) (eg : ∀ args w, (callFunc gf args).run P w = .ok (.enter gf args) w) (hseq : Z1z P gf lb V τs Z0 w) (hz : ∀ k, Z0 k → k < w.heap.size)
  (I : List Value → j0q → World → Prop) (hg1 : ∀ s ZP A B, I s ZP A → A.grownBy B none → w.heap.size + 2 ≤ A.heap.size → I s (W0t ZP A B) B)
  (hg2 : ∀ s ZP A B row, I s ZP A → A.grownBy B row → (∀ r, row = some r → bk w r ∧ Y0X w A) → I s ZP B) (h0 : I [] Z0 w)
  (IA : List Value → Value → j0q → Act → World → Prop)
  (hIA : ∀ s x ZP a' A l o', IA s x ZP a' A → bk w l → Y0X w A → IA s x ZP a' (A.putObj l o'))
  (hassign : ∀ (l : Nat) (pre : List Value) (x : Value) (ZP : j0q) (W : World) (K : Act → World → Prop), V x → I pre ZP W → Y0X w W → (∀ a' W', (∀ k, bk w k → W'.heap[k]? = W.heap[k]?) → keepZ ZP W W' → IA pre x ZP a' W' → K a' W') →
   assign.wpIn (Fence.wide.inRound l) 0 P (Exit.then K (fun _ _ _ => False)) { tmps := a.tmps.setIfInBounds p x, defers := [] } W)
  (hbody : ∀ (l : Nat) (pre : List Value) (x : Value) (ZP : j0q) (a' : Act) (W : World), V x → IA pre x ZP a' W → pre.length < τs.length → Y0X w W →
   body.wpIn (Fence.wide.inRound l) 0 P (fun e _ W' => e = .normal ∧ (∀ k, bk w k → W'.heap[k]? = W.heap[k]?) ∧ keepZ ZP W W' ∧ I (pre ++ [x]) ZP W') a' W)
  (hdone : ∀ (D : Nat) (xs : List Value) (ZP : j0q) (W : World), D = w.heap.size → All2 (fun τ v => AV.ok ZP W τ v) τs xs → I xs ZP W → W.heap[D]? = some (.deferred (some [])) → Q .normal { a with defers := { target := .collected D, args := #[] } :: a.defers } W) :
  (Code.rangeFunc g #[p] assign body).wpIn Fence.wide 2 P Q a w := by
 refine wpIn_rangeFunc fun fn hfn => ?_
 obtain ⟨rec, hrec⟩ : ∃ rec : LoopState → Option Code → Loop, rec = fun st pe => { state := st, pending := pe, fn, tmps := a.tmps, params := #[p], assign, body, defers := w.heap.size } := ⟨_, rfl⟩
 obtain ⟨W1, hW1⟩ : ∃ W1, (w.alloc (.deferred (some []))).alloc (.loop (rec .ready none)) = W1 := ⟨_, rfl⟩
 have hL1 : W1.heap[w.heap.size + 1]? = some (.loop (rec .ready none)) := by
  have := World.alloc_heap_new (w.alloc (.deferred (some []))) (.loop (rec .ready none))
  rw [← hW1]
  rwa [World.size_alloc] at this
 have hK1 : W1.heap[w.heap.size]? = some (.deferred (some [])) := by
  rw [← hW1]
  exact (Below.heap_alloc _ _ _ (by simp)).trans (World.alloc_heap_new w _)
 have hI1 : I [] Z0 W1 := by
  rw [← hW1]
  exact hg2 _ _ _ _ none (hg2 _ _ _ _ none h0 (World.grownBy_alloc w _ none) (fun r e => by cases e)) (World.grownBy_alloc _ _ none) (fun r e => by cases e)
 have hb1 : Below w.heap.size w W1 := by
  rw [← hW1]
  exact ((Below.refl _ w).alloc (Nat.le_refl _) _).alloc (by simp) _
 have hZ0 : ∀ k, w.heap.size ≤ k → ¬ Z0 k := fun k hk q => by have := hz k q; omega
 have hbk : ∀ {W : World} {r : Loop} {d : Obj}, W.heap[w.heap.size + 1]? = some (.loop r) → W.heap[w.heap.size]? = some (.deferred (some [])) → Y0X w W := fun h1 h2 k hk => by
  rcases hk with rfl | rfl
  ·exact ⟨_, h2, rfl⟩
  ·exact ⟨_, h1, rfl⟩
 refine ⟨w.heap.size + 1, [{ target := .collected w.heap.size, args := #[] }], W1, { target := .fn (.func gf) lb, args := #[.func (.yield (w.heap.size + 1)) #[] #[]] }, W1, gf,
  #[.func (.yield (w.heap.size + 1)) #[] #[]] ++ lb, W1, ?_, ?_, ?_, ?_, fun h => (by cases h), ?_⟩
 ·rw [← hW1, hrec]
  exact run_enterLoop_outer _ _ _ _ _
 ·simp only [resolve, hg]
  simp [go_sem]
 ·intro f' hf'
  simp [Target.leads] at hf'
  subst hf'
  trivial
 ·simp [invoke, go_sem, eg]
 ·have hinv := hseq (w.heap.size + 1)
   (fun pre ZP W => I pre ZP W ∧ W.heap[w.heap.size + 1]? = some (.loop (rec .ready none)) ∧ W.heap[w.heap.size]? = some (.deferred (some [])) ∧ ¬ ZP w.heap.size ∧ ¬ ZP (w.heap.size + 1))
   W1 hb1 ?_ ?_ ⟨hI1, hL1, hK1, hZ0 _ (Nat.le_refl _), hZ0 _ zO⟩
  ·refine hinv.mono ?_
   rintro e W2 ⟨⟨v, rfl⟩, xs, ZP, hR, hi, hl, hk, hz1, hz2⟩
   have hend := run_endLoop (P := P) hl (by rw [hrec]; simp)
   rw [hrec] at hend
   refine ⟨none, _, hend, hdone _ xs ZP _ rfl ?_ (hg2 _ _ _ _ (some (w.heap.size + 1)) hi (grownBy_putObj' _ _ _) (fun r e => by cases e; exact ⟨.inr rfl, hbk (d := .deferred none) hl hk⟩)) ((World.putObj_heap_other zO).trans hk)⟩
   refine hR.mono fun τ _ v hv => AV.ok_mono (fun _ q => q) (by simp [World.putObj]) (fun k q _ => World.putObj_heap_other (fun e => hz2 (by rw [← e]; exact q))) τ v hv
  ·rintro s ZP A B ⟨hi, hl, hk, hz1, hz2⟩ hgr
   have hlA := (Array.getElem?_eq_some_iff.1 hl).1
   refine ⟨hg1 _ _ _ _ hi hgr (by omega), (hgr.block _ hlA (by simp)).trans hl, (hgr.block _ (by omega) (by simp)).trans hk, ?_, ?_⟩
   ·rintro (q | q)
    ·exact hz1 q
    ·omega
   ·rintro (q | q)
    ·exact hz2 q
    ·omega
  ·rintro pre x ZP A ⟨hi, hl, hk, hz1, hz2⟩ hx hlen
   have hy := run_yield (P := P) (args := #[x]) hl (by rw [hrec]; rfl)
   rw [hrec] at hy
   refine ⟨fn, _, assign, body, hy, roundIn_of_wpIn hfn ?_⟩
   have e1 : ((#[p].zip #[x]).foldl (fun tmps (t, a) => tmps.setIfInBounds t a) a.tmps) = a.tmps.setIfInBounds p x := by simp
   rw [e1]
   refine hassign _ pre x ZP A _ hx hi (hbk (d := .deferred none) hl hk) ?_
   intro a' Wa hkf hkz hia
   have hl' := (hkf _ (.inr rfl)).trans hl
   have hk' := (hkf _ (.inl rfl)).trans hk
   have hlt := (Array.getElem?_eq_some_iff.1 hl').1
   refine ⟨_, run_beginRound hl' (by rw [hrec]), ?_⟩
   obtain ⟨Wb, hWb⟩ : ∃ Wb, Wa.putObj (w.heap.size + 1) (.loop { rec .ready none with state := .busy }) = Wb := ⟨_, rfl⟩
   have hlb : Wb.heap[w.heap.size + 1]? = some (.loop { rec .ready none with state := .busy }) := by rw [← hWb]; exact World.putObj_heap_same hlt
   have hkb : Wb.heap[w.heap.size]? = some (.deferred (some [])) := by rw [← hWb]; exact (World.putObj_heap_other (by omega)).trans hk'
   have hzb : keepZ ZP Wa Wb := by rw [← hWb]; exact keepZ.putObj _ hz2
   have hib : IA pre x ZP a' Wb := by rw [← hWb]; exact hIA _ _ _ _ _ _ _ hia (.inr rfl) (hbk (d := .deferred none) hl' hk')
   rw [hWb]
   refine wpIn_mono (hbody _ pre x ZP a' _ hx hib hlen (hbk (d := .deferred none) hlb hkb)) ?_
   rintro e a3 W3 ⟨rfl, hk3, hz3, hi3⟩
   have hl3 := (hk3 _ (.inr rfl)).trans hlb
   have hd3 := (hk3 _ (.inl rfl)).trans hkb
   have hend := run_endRound (P := P) none hl3
   rw [hrec] at hend
   refine ⟨_, _, hend, rfl, ⟨hg2 _ _ _ _ (some (w.heap.size + 1)) hi3 (grownBy_putObj' _ _ _) (fun r e => by cases e; exact ⟨.inr rfl, hbk (d := .deferred none) hl3 hd3⟩), ?_, (World.putObj_heap_other zO).trans hd3, hz1, hz2⟩, ((hkz.trans hzb).trans hz3).trans (keepZ.putObj _ hz2)⟩
   rw [hrec]
   exact World.putObj_heap_same (Array.getElem?_eq_some_iff.1 hl3).1
end Go.Vc
section
namespace Go.Vc
open Go Go.RowKit
structure CtrM (P : Program) (gf : FuncId) (caps : List AV) (V : Value → Prop) (τs : List AV) : Prop where
 enters : Enters P gf
 gives : ∀ (w : World) (Z : j0q) (cs : List Value), ZOk Z w → All2 (fun τ v => AV.ok Z w τ v) caps cs → Z1z P gf cs.toArray V τs Z w
def K0k : List Nat → Nat → Bool
 |[], _ => false
 |x :: l, d => match Nat.beq x d with | true => true | false => K0k l d
def snap (ws : List Nat) (a : Act) (d : Nat) : Option Value := match K0k ws d with | true => none | false => some (a.tmps.getD d undef)
def Env.rnd (N l : Nat) (ws : List Nat) (a : Act) (w : World) (Z : j0q) (keep : Nat → Prop) : Env :=
 { N := N, round := some l, cst := snap ws a, keep := keep, w0 := w, Z0 := Z }
def Env.after (E : Env) (D : Nat) (w : World) : Env :=
 { N := E.N, round := none, cst := fun _ => none, keep := fun k => E.keep k ∨ k = D, w0 := w, Z0 := E.Z0, marks := [{ target := .collected D, args := #[] }] }
structure AfterOk (E : Env) (D : Nat) (w2 : World) : Prop where
 base : ∃ Z2, Base E Z2 w2
 lo : E.w0.heap.size ≤ D
 z : ¬ E.Z0 D
 heap : w2.heap[D]? = some (.deferred (some []))
def Res.plain : Res → Bool
 |.cells _ => true
 |.row .. => true
 |_ => false
def X0l (O : Own) : Bool := O.all fun p => p.2.plain
theorem Res.plain_cells {E : Env} {Z : j0q} {ν : j0N} {w : World} {v : Value} {x : Res} (h : x.ok E Z ν w v) (hp : x.plain = true) {b : Nat} (hb : j0C v = some b) : ∃ ob, w.heap[b]? = some ob ∧ ob.isCells = true := by
 cases x with
 |cells cs =>
  obtain ⟨b', ty, arr, rfl, h2, h3, h4, _⟩ := h
  simp only [j0C, Option.some.injEq] at hb
  subst hb
  exact ⟨_, h4, rfl⟩
 |row ty sz n f =>
  rcases h with ⟨rfl, _⟩ | ⟨b', cap, arr, rfl, h2, h3, h4, _⟩
  ·simp [j0C] at hb
  ·simp only [j0C, Option.some.injEq] at hb
   subst hb
   exact ⟨_, h4, rfl⟩
 |_ => cases hp
section
variable {E : Env} {T : Tab} {O : Own} {a : Act} {w W : World} {Z : j0q} {ν : j0N}
theorem j0R (h : SatZ E Z ν T O a w) {k : Nat} (hk : y0w O ν k) : k < w.heap.size ∧ ¬ Z k ∧ ¬ E.keep k := by
 obtain ⟨r, h1, h2⟩ := hk
 obtain ⟨x, hx⟩ := Option.ne_none_iff_exists'.1 h1
 exact Res.blk_lt (h.own.each r x hx) h2
theorem y0y (h : SatZ E Z ν T O a w) (hp : X0l O = true) {k : Nat} (hk : y0w O ν k) : ∃ ob, w.heap[k]? = some ob ∧ ob.isCells = true := by
 obtain ⟨r, h1, h2⟩ := hk
 obtain ⟨x, hx⟩ := Option.ne_none_iff_exists'.1 h1
 exact Res.plain_cells (h.own.each r x hx) (List.all_eq_true.1 hp _ (q0K hx)) h2
def Env.lp (N : Nat) (w : World) (Z : j0q) (keep : Nat → Prop) : Env := { N := N, keep := keep, w0 := w, Z0 := Z }
theorem SatZ.widen {A B : World} (h : SatZ E Z ν T O a A) (hg : A.grownBy B none) (hl : E.w0.heap.size ≤ A.heap.size) (hk : ∀ k, E.keep k → k < E.w0.heap.size) : SatZ E (W0t Z A B) ν T O a B := by
 refine h.shift h.defers h.tsize h.cst h.pin ⟨hg.os.trans h.base.os, hg.tape.trans h.base.tape, hg.output.trans h.base.output, Nat.le_trans h.base.size hg.size, h.base.keepLt, fun k q => (hg.block k (by have := hk k q; omega) (by simp)).trans (h.base.kept k q), h.base.zok.next (fun _ q => .inl q) hg.size (fun k _ hl => hg.block k hl (by simp)) (fun k q => q.elim (fun q => Nat.lt_of_lt_of_le (h.base.zLt k q) hg.size) (fun q => q.2)), fun k q => .inl (h.base.z0 k q), fun k q => ?_⟩ (AV.ok_mono (fun k q => .inl q) hg.size (fun k _ hl => hg.block k hl (by simp))) (fun r hr b hb => ?_) (fun _ _ => rfl)
 ·rcases q with q | q
  ·exact h.base.zNew k q
  ·exact .inr fun q' => by have := hk k q'; omega
 ·obtain ⟨e1, e2, e3⟩ := j0R h ⟨r, hr, hb⟩
  refine ⟨fun q => ?_, e3, hg.block b e1 (by simp)⟩
  rcases q with q | q
  ·exact e2 q
  ·omega
theorem SatZ.aside {A B : World} {row : Option Nat} (h : SatZ E Z ν T O a A) (hg : A.grownBy B row) (hr : ∀ r, row = some r → ¬ Z r ∧ ¬ y0w O ν r ∧ ¬ E.keep r) (hk : ∀ k, E.keep k → k < A.heap.size) : SatZ E Z ν T O a B := by
 have hne : ∀ k, (Z k ∨ y0w O ν k ∨ E.keep k) → k < A.heap.size → B.heap[k]? = A.heap[k]? := fun k q hl => hg.block k hl (fun e => by
  obtain ⟨h1, h2, h3⟩ := hr k e.symm
  exact q.elim h1 (fun q => q.elim h2 h3))
 refine h.shift h.defers h.tsize h.cst h.pin ⟨hg.os.trans h.base.os, hg.tape.trans h.base.tape, hg.output.trans h.base.output, Nat.le_trans h.base.size hg.size, h.base.keepLt, fun k q => (hne k (.inr (.inr q)) (hk k q)).trans (h.base.kept k q), h.base.zok.next (fun _ q => q) hg.size (fun k q hl => hne k (.inl q) hl) (fun k q => Nat.lt_of_lt_of_le (h.base.zLt k q) hg.size), h.base.z0, h.base.zNew⟩ (AV.ok_mono (fun _ q => q) hg.size (fun k q hl => hne k (.inl q) hl)) (fun r hr b hb => ?_) (fun _ _ => rfl)
 obtain ⟨e1, e2, e3⟩ := j0R h ⟨r, hr, hb⟩
 exact ⟨e2, e3, hne b (.inr (.inl ⟨r, hr, hb⟩)) e1⟩
theorem SatZ.leave {E1 : Env} {N l : Nat} {ws : List Nat} {a0 a1 a2 : Act} {W W' : World} {Z' : j0q} {ν' : j0N} {O1 O2 : Own} {T1 T2 : Tab} (hm : E1.marks = []) (hc : ∀ d, E1.cst d = none) (hpn : ∀ r, E1.pin r = none) (hN : E1.N = N) (h1 : SatZ E1 Z ν T1 O1 a1 W)
  (h2 : SatZ (Env.rnd N l ws a0 W Z (fun k => k < W.heap.size ∧ ¬ y0w O1 ν k)) Z' ν' T2 O2 a2 W') : SatZ E1 Z' ν' T2 O2 a2 W' := by
 have kk : ∀ k, E1.keep k → (k < W.heap.size ∧ ¬ y0w O1 ν k) := fun k hk => ⟨Nat.lt_of_lt_of_le (h1.base.keepLt k hk) h1.base.size, fun ho => (j0R h1 ho).2.2 hk⟩
 refine h2.shift (h2.defers.trans hm.symm) (h2.tsize.trans hN.symm) (fun d v q => by rw [hc] at q; cases q) (fun r v q => by rw [hpn] at q; cases q) ⟨h2.base.os.trans h1.base.os, h2.base.tape.trans h1.base.tape, h2.base.output.trans h1.base.output, Nat.le_trans h1.base.size h2.base.size, h1.base.keepLt, fun k hk => (h2.base.kept k (kk k hk)).trans (h1.base.kept k hk), h2.base.zok, fun k hk => h2.base.z0 k (h1.base.z0 k hk), fun k hk => ?_⟩ (fun _ _ q => q) (fun r hr b hb => ?_) (fun _ _ => rfl)
 ·rcases h2.base.zNew k hk with q | q
  ·exact h1.base.zNew k q
  ·exact .inr fun q' => q (kk k q')
 ·obtain ⟨e1, e2, e3⟩ := j0R h2 ⟨r, hr, hb⟩
  exact ⟨e2, fun q => e3 (kk b q), rfl⟩
end
theorem j0Y (t : Array Value) (p d : Nat) (x : Value) (h : p ≠ d) : (t.setIfInBounds p x).getD d undef = t.getD d undef := by
 simp [Array.getD_eq_getD_getElem?, Array.getElem?_setIfInBounds_ne h]
theorem y0W {ws : List Nat} {p d : Nat} (h1 : K0k ws p = true) (h2 : K0k ws d = false) : p ≠ d := fun e => by rw [e, h2] at h1; cases h1
theorem J0i {Zw : j0q} {w : World} : ∀ (m k : Nat) (cf : Nat → AV) (cs : List Value), cs.length = m → (∀ i, i < m → ∃ u, cs[i]? = some u ∧ (cf (k + i)).ok Zw w u) → All2 (fun τ v => AV.ok Zw w τ v) ((List.range' k m).map cf) cs := by
 intro m
 induction m with
 |zero => intro k cf cs hl _; rw [List.length_eq_zero_iff.1 hl]; trivial
 |succ m ih =>
  intro k cf cs hl h
  match cs, hl with
  |c0 :: cs, hl =>
   rw [List.range'_succ, List.map_cons]
   obtain ⟨u, hu, hk⟩ := h 0 zO
   simp only [List.getElem?_cons_zero, Option.some.injEq] at hu
   subst hu
   refine ⟨hk, ih (k + 1) cf cs (by simpa using hl) (fun i hi => ?_)⟩
   obtain ⟨u, hu, hk⟩ := h (i + 1) zO
   exact ⟨u, by simpa using hu, by rw [show k + 1 + i = k + (i + 1) from by omega]; exact hk⟩
theorem j1s {P : Program} {E : Env} {Q : Exit → Act → World → Prop} {T : Tab} {O : Own} {g : Operand} {p : Tmp} {assign body : Code} {gf : FuncId} {n : Nat} {cf : Nat → AV} {V : Value → Prop} {τs : List AV}
  (hro : E.round = none) (hm : E.marks = []) (hI : CtrM P gf ((List.range n).map cf) V τs) (ws : List Nat) (TL : Tab) (OL : List Value → Own) (TX : Value → Tab)
  (h0 : Ent T O TL (OL [])) (hg : TL.ev g = .av (.clo gf n cf)) (hTL : TL.all (fun q => !K0k ws q.1) = true) (hp : K0k ws p = true) (hpN : Nat.blt p E.N = true) (hplain : ∀ pre, X0l (OL pre) = true)
  (hass : ∀ l a0 w0 Z0 keep pre x, V x → CQ P (Env.rnd E.N l ws a0 w0 Z0 keep) (Exit.then (fun a w => Sat (Env.rnd E.N l ws a0 w0 Z0 keep) (TX x ++ TL) (OL pre) a w) (fun _ _ _ => False)) ((p, .av (.val x)) :: TL) (OL pre) assign)
  (hbody : ∀ l a0 w0 Z0 keep pre x, V x → pre.length < τs.length → CQ P (Env.rnd E.N l ws a0 w0 Z0 keep) (fun e a w => e = .normal ∧ Sat (Env.rnd E.N l ws a0 w0 Z0 keep) TL (OL (pre ++ [x])) a w) (TX x ++ TL) (OL pre) body)
  (hdone : ∀ D w2 xs Z ν a, AfterOk E D w2 → All2 (fun τ v => AV.ok Z w2 τ v) τs xs → SatZ (E.after D w2) Z ν TL (OL xs) a w2 → Q .normal a w2) :
  CQ P E Q T O (Code.rangeFunc g #[p] assign body) := by
 refine ⟨fun a w hsat => ?_⟩
 obtain ⟨Zw, ν0, hw⟩ := h0 E a w hsat
 rw [hro, show fc none = Fence.wide from rfl]
 refine (wpIn_wide (n := 0)).2 ((wpIn_wide (n := 2)).1 ?_)
 have hgv := j0G hw g
 rw [hg] at hgv
 obtain ⟨cs, hgv, hcl, hcs⟩ := hgv
 have hcaps : All2 (fun τ v => AV.ok Zw w τ v) ((List.range n).map cf) cs := by
  rw [List.range_eq_range']
  exact J0i n 0 cf cs hcl (fun i hi => by rw [Nat.zero_add]; exact hcs i hi)
 have htl : ∀ d, look TL d ≠ none → K0k ws d = false := fun d hd => by
  obtain ⟨s, hs⟩ := Option.ne_none_iff_exists'.1 hd
  have := List.all_eq_true.1 hTL _ (q0K hs)
  simpa using this
 obtain ⟨E1, hE1⟩ : ∃ E1, E1 = Env.lp E.N w Zw (fun k => k < w.heap.size ∧ ¬ y0w (OL []) ν0 k) := ⟨_, rfl⟩
 have e1m : E1.marks = [] := by rw [hE1]; rfl
 have e1c : ∀ d, E1.cst d = none := fun d => by rw [hE1]; rfl
 have e1p : ∀ r, E1.pin r = none := fun d => by rw [hE1]; rfl
 have e1N : E1.N = E.N := by rw [hE1]; rfl
 have e1w : E1.w0 = w := by rw [hE1]; rfl
 have e1k : ∀ k, E1.keep k ↔ (k < w.heap.size ∧ ¬ y0w (OL []) ν0 k) := fun k => by rw [hE1]; exact Iff.rfl
 have e1z : ∀ k, E1.Z0 k ↔ Zw k := fun k => by rw [hE1]; exact Iff.rfl
 have had : a.defers = [] := hw.defers.trans hm
 have hstart : SatZ E1 Zw ν0 TL (OL []) a w := by
  rw [hE1]
  refine hw.shift had hw.tsize (fun d v q => by cases q) (fun r v q => by cases q) ⟨rfl, rfl, rfl, Nat.le_refl _, fun k hk => hk.1, fun _ _ => rfl, hw.base.zok, fun _ q => q, fun _ q => .inl q⟩ (fun _ _ q => q) (fun r hr b hb => ?_) (fun _ _ => rfl)
  exact ⟨(j0R hw ⟨r, hr, hb⟩).2.1, fun q => q.2 ⟨r, hr, hb⟩, rfl⟩
 have hnb : ∀ {k : Nat}, bk w k → ¬ E1.keep k := fun {k} hk q => by
  have := ((e1k k).1 q).1
  rcases hk with rfl | rfl <;> omega
 have hnO : ∀ {A : World} {ν : j0N} {Z : j0q} {T' : Tab} {O' : Own} {a' : Act} {k : Nat}, SatZ E1 Z ν T' O' a' A → X0l O' = true → Y0X w A → bk w k → ¬ y0w O' ν k := fun h hpl hb hk ho => by
  obtain ⟨ob, h1, h2⟩ := y0y h hpl ho
  obtain ⟨o, h3, h4⟩ := hb _ hk
  rw [h1] at h3; cases h3; rw [h2] at h4; cases h4
 refine Y0P (P := P) hgv hI.enters (hI.gives w Zw cs hw.base.zok hcaps) hw.base.zLt
  (fun pre ZP W => ∃ Z ν, (∀ k, ZP k → Z k) ∧ (∀ k, bk w k → ¬ Z k) ∧ SatZ E1 Z ν TL (OL pre) a W) ?_ ?_ ⟨Zw, ν0, fun _ q => q, fun k hk q => by have := hw.base.zLt k q; rcases hk with rfl | rfl <;> omega, hstart⟩
  (fun pre x ZP a' W => ∃ Z ν, (∀ k, ZP k → Z k) ∧ (∀ k, bk w k → ¬ Z k) ∧ SatZ E1 Z ν (TX x ++ TL) (OL pre) a' W ∧ ∀ d, K0k ws d = false → a'.tmps.getD d undef = a.tmps.getD d undef) ?_ ?_ ?_ ?_
 ·rintro s ZP A B ⟨Z, ν, z1, z2, h⟩ hg hl
  refine ⟨W0t Z A B, ν, fun k q => q.imp (z1 k) id, fun k hk q => ?_, h.widen hg (by rw [e1w]; omega) (fun k q => by rw [e1w]; exact ((e1k k).1 q).1)⟩
  rcases q with q | q
  ·exact z2 k hk q
  ·rcases hk with rfl | rfl <;> omega
 ·rintro s ZP A B row ⟨Z, ν, z1, z2, h⟩ hg hr
  refine ⟨Z, ν, z1, z2, h.aside hg (fun r e => ?_) (fun k q => Nat.lt_of_lt_of_le ((e1k k).1 q).1 (by have := h.base.size; rwa [e1w] at this))⟩
  obtain ⟨q1, q2⟩ := hr r e
  exact ⟨z2 r q1, hnO h (hplain s) q2 q1, hnb q1⟩
 ·rintro s x ZP a' A l o' ⟨Z, ν, z1, z2, h, h3⟩ hl hb
  exact ⟨Z, ν, z1, z2, h.aside (grownBy_putObj' A l o') (fun r e => by cases e; exact ⟨z2 l hl, hnO h (hplain s) hb hl, hnb hl⟩) (fun k q => Nat.lt_of_lt_of_le ((e1k k).1 q).1 (by have := h.base.size; rwa [e1w] at this)), h3⟩
 ·rintro l pre x ZP W K hx ⟨Z, ν, z1, z2, h1⟩ hb hK
  have hpl : p < a.tmps.size := by rw [hw.tsize]; exact j0H hpN
  have hst : SatZ (Env.rnd E.N l ws a W Z (fun k => k < W.heap.size ∧ ¬ y0w (OL pre) ν k)) Z ν ((p, .av (.val x)) :: TL) (OL pre) { tmps := a.tmps.setIfInBounds p x, defers := [] } W := by
   have h2 : SatZ (Env.rnd E.N l ws a W Z (fun k => k < W.heap.size ∧ ¬ y0w (OL pre) ν k)) Z ν TL (OL pre) { tmps := a.tmps.setIfInBounds p x, defers := [] } W := by
    refine h1.shift rfl (by simp [Env.rnd, hw.tsize]) (fun d v hd => ?_) (fun r v q => by cases q) ⟨rfl, rfl, rfl, Nat.le_refl _, fun k hk => hk.1, fun _ _ => rfl, h1.base.zok, fun _ q => q, fun _ q => .inl q⟩ (fun _ _ q => q) (fun r hr b hb => ?_) (fun d hd => j0Y _ _ _ _ (y0W hp (htl d hd)))
    ·change snap ws a d = some v at hd
     unfold snap at hd
     split at hd
     ·cases hd
     ·rename_i hmb
      cases hd
      exact j0Y _ _ _ _ (y0W hp hmb)
    ·exact ⟨(j0R h1 ⟨r, hr, hb⟩).2.1, fun q => q.2 ⟨r, hr, hb⟩, rfl⟩
   refine ⟨h2.defers, h2.tsize, h2.cst, h2.pin, h2.base, h2.own, fun d => ?_⟩
   by_cases hd : p = d
   ·subst hd
    rw [Tab.get_cons_eq]
    simp [SV.ok, AV.ok, Array.getD_eq_getD_getElem?, hpl]
   ·rw [Tab.get_cons_ne _ _ hd]
    exact h2.slot d
  refine wpIn_mono ((hass l a W Z _ pre x hx).sq _ W ⟨Z, ν, hst⟩) ?_
  rintro e a' W' hq
  cases e with
  |normal =>
   obtain ⟨Z', ν', h2⟩ := hq
   have hkeep : ∀ k, (Z k ∨ (bk w k)) → k < W.heap.size → W'.heap[k]? = W.heap[k]? := fun k q hl => h2.base.kept k ⟨hl, fun ho => q.elim (j0R h1 ho).2.1 (fun q => hnO h1 (hplain pre) hb q ho)⟩
   have hbl : ∀ k, bk w k → k < W.heap.size := fun k hk => by
    obtain ⟨o, ho, _⟩ := hb k hk
    exact (Array.getElem?_eq_some_iff.1 ho).1
   refine hK a' W' (fun k hk => hkeep k (.inr hk) (hbl k hk)) ⟨h2.base.os, h2.base.tape, h2.base.output, h2.base.size, fun k hk hl => hkeep k (.inl (z1 k hk)) hl⟩ ⟨Z', ν', fun k hk => h2.base.z0 k (z1 k hk), fun k hk q => ?_, h1.leave e1m e1c e1p e1N h2, fun d hd => h2.cst d _ (by show snap ws a d = _; unfold snap; rw [hd])⟩
   rcases h2.base.zNew k q with q | q
   ·exact z2 k hk q
   ·exact q ⟨hbl k hk, hnO h1 (hplain pre) hb hk⟩
  |exit id => exact hq
  |goto t => exact hq
  |ret => exact hq
  |panic ch => exact hq
  |outgrown => exact hq
 ·rintro l pre x ZP a' W hx ⟨Z, ν, z1, z2, h1, h3⟩ hlen hb
  have hst : SatZ (Env.rnd E.N l ws a W Z (fun k => k < W.heap.size ∧ ¬ y0w (OL pre) ν k)) Z ν (TX x ++ TL) (OL pre) a' W := by
   refine h1.shift (h1.defers.trans e1m) (h1.tsize.trans e1N) (fun d v hd => ?_) (fun r v q => by cases q) ⟨rfl, rfl, rfl, Nat.le_refl _, fun k hk => hk.1, fun _ _ => rfl, h1.base.zok, fun _ q => q, fun _ q => .inl q⟩ (fun _ _ q => q) (fun r hr b hb => ?_) (fun _ _ => rfl)
   ·change snap ws a d = some v at hd
    unfold snap at hd
    split at hd
    ·cases hd
    ·rename_i hmb
     cases hd
     exact h3 d hmb
   ·exact ⟨(j0R h1 ⟨r, hr, hb⟩).2.1, fun q => q.2 ⟨r, hr, hb⟩, rfl⟩
  refine wpIn_mono ((hbody l a W Z _ pre x hx hlen).sq a' W ⟨Z, ν, hst⟩) ?_
  rintro e a2 W' ⟨rfl, Z', ν', h2⟩
  have hkeep : ∀ k, (Z k ∨ (bk w k)) → k < W.heap.size → W'.heap[k]? = W.heap[k]? := fun k q hl => h2.base.kept k ⟨hl, fun ho => q.elim (j0R h1 ho).2.1 (fun q => hnO h1 (hplain pre) hb q ho)⟩
  have hbl : ∀ k, bk w k → k < W.heap.size := fun k hk => by
   obtain ⟨o, ho, _⟩ := hb k hk
   exact (Array.getElem?_eq_some_iff.1 ho).1
  refine ⟨rfl, fun k hk => hkeep k (.inr hk) (hbl k hk), ⟨h2.base.os, h2.base.tape, h2.base.output, h2.base.size, fun k hk hl => hkeep k (.inl (z1 k hk)) hl⟩, Z', ν', fun k hk => h2.base.z0 k (z1 k hk), fun k hk q => ?_, ?_⟩
  ·rcases h2.base.zNew k q with q | q
   ·exact z2 k hk q
   ·exact q ⟨hbl k hk, hnO h1 (hplain pre) hb hk⟩
  ·have h4 := h1.leave e1m e1c e1p e1N h2
   refine h4.shift (had.trans e1m.symm) (hw.tsize.trans e1N.symm) (fun d v q => by rw [e1c] at q; cases q) (fun r v q => by rw [e1p] at q; cases q) h4.base (fun _ _ q => q) (fun r hr b hb => ?_) (fun d hd => ?_)
   ·obtain ⟨q1, q2, q3⟩ := j0R h4 ⟨r, hr, hb⟩
    exact ⟨q2, q3, rfl⟩
   ·exact (h2.cst d _ (by show snap ws a d = _; unfold snap; rw [htl d hd])).symm
 ·rintro D xs ZP W hDe hR ⟨Z, ν, z1, z2, h⟩ hh
  have hD : w.heap.size ≤ D := by omega
  have hZD : ¬ Z D := z2 D (.inl hDe)
  have hDl := (Array.getElem?_eq_some_iff.1 hh).1
  have hzd : ¬ E.Z0 D := fun q => by have := hw.base.zLt D (hw.base.z0 D q); omega
  have hnoD : ∀ k, y0w (OL xs) ν k → k ≠ D := fun k hk e => by
   subst e
   obtain ⟨ob, q1, q2⟩ := y0y h (hplain xs) hk
   rw [hh] at q1; cases q1; cases q2
  have hEk : ∀ k, E.keep k → E1.keep k := fun k hk => (e1k k).2 ⟨Nat.lt_of_lt_of_le (hw.base.keepLt k hk) hw.base.size, fun ho => (j0R hw ho).2.2 hk⟩
  have hbase : Base E Z W := ⟨h.base.os.trans (by rw [e1w]; exact hw.base.os), h.base.tape.trans (by rw [e1w]; exact hw.base.tape), h.base.output.trans (by rw [e1w]; exact hw.base.output), Nat.le_trans hw.base.size (by have := h.base.size; rwa [e1w] at this), hw.base.keepLt, fun k hk => (h.base.kept k (hEk k hk)).trans (by rw [e1w]; exact hw.base.kept k hk), h.base.zok, fun k hk => h.base.z0 k ((e1z k).2 (hw.base.z0 k hk)), fun k hk => by
   rcases h.base.zNew k hk with q | q
   ·exact hw.base.zNew k ((e1z k).1 q)
   ·exact .inr fun q' => q (hEk k q')⟩
  refine hdone D W xs Z ν _ ⟨⟨Z, hbase⟩, Nat.le_trans hw.base.size hD, hzd, hh⟩ (hR.mono fun τ _ v hv => AV.ok_mono z1 (Nat.le_refl _) (fun _ _ _ => rfl) τ v hv) ?_
  refine h.shift (by show _ :: a.defers = _; rw [had]; rfl) hw.tsize (fun d v q => by cases q) (fun r v q => by cases q) ⟨rfl, rfl, rfl, Nat.le_refl _, fun k hk => ?_, fun _ _ => rfl, h.base.zok, hbase.z0, fun k hk => ?_⟩ (fun _ _ q => q) (fun r hr b hb => ?_) (fun _ _ => rfl)
  ·rcases hk with hk | rfl
   ·exact Nat.lt_of_lt_of_le (hbase.keepLt k hk) hbase.size
   ·exact hDl
  ·rcases hbase.zNew k hk with q | q
   ·exact .inl q
   ·exact .inr fun q' => q'.elim q (fun e => hZD (e ▸ hk))
  ·obtain ⟨q1, q2, q3⟩ := j0R h ⟨r, hr, hb⟩
   refine ⟨q2, fun q => ?_, rfl⟩
   rcases q with q | q
   ·exact q3 (hEk b q)
   ·exact hnoD b ⟨r, hr, hb⟩ q
end Go.Vc
end
section
namespace Go.Vc
open Go Go.RowKit
structure YM (P : Program) (V : Value → Prop) (τs : List AV) (l : Nat) (J : List Value → j0q → World → Prop) : Prop where
 grow : ∀ s ZP A B, J s ZP A → A.grownBy B none → J s (W0t ZP A B) B
 yld : ∀ pre x ZP A, J pre ZP A → V x → pre.length < τs.length → YieldAt Fence.wide 0 P l #[x] A fun e B => e = .returned (.bool true) ∧ J (pre ++ [x]) ZP B ∧ keepZ ZP A B
structure SM (τs : List AV) (J : List Value → j0q → World → Prop) (m : Nat) (w : World) (Z : j0q) : Prop where
 ex : ∃ pre ZP, J pre ZP w ∧ (∀ k, Z k → ZP k) ∧ All2 (fun τ v => AV.ok ZP w τ v) (τs.take m) pre
def RM (τs : List AV) (J : List Value → j0q → World → Prop) (e : Ending) (w' : World) : Prop :=
 (∃ v, e = .returned v) ∧ ∃ xs ZP, All2 (fun τ v => AV.ok ZP w' τ v) τs xs ∧ J xs ZP w'
theorem All2.snoc {α β : Type} {R : α → β → Prop} {y : β} {x : α} : ∀ {l : List α} {m : List β}, All2 R l m → R x y → All2 R (l ++ [x]) (m ++ [y])
 |[], [], _, h => ⟨h, trivial⟩
 |_ :: _, _ :: _, h, h' => ⟨h.1, All2.snoc h.2 h'⟩
theorem w0X {P : Program} {f : FuncId} {fn : Func} {c : Code} (hf : P.funcs[f]? = some fn) (hb : fn.body = some c) (hname : (fn.name == "runtime.NumGoroutine") = false) : Enters P f := by
 intro vs w
 have hname' : fn.name ≠ "runtime.NumGoroutine" := by simpa using hname
 simp [callFunc, hf, hname', hb]
theorem y0t {fn : Func} {args : List AV} {N : Nat} {w : World} {Z : j0q} {vs : List Value} (hN : fn.ntmps = N) (hlen' : Nat.ble args.length N = true) (hZ : ZOk Z w) (hvs : All2 (fun τ v => AV.ok Z w τ v) args vs) :
  Sat (v0t N w Z) (x0a 0 (args.map SV.av)) [] { tmps := vs.toArray ++ Array.replicate (fn.ntmps - vs.toArray.size) undef, defers := [] } w := by
 have hlen : args.length ≤ N := Nat.le_of_ble_eq_true hlen'
 have hl := hvs.len
 refine ⟨Z, fun _ => undef, rfl, ?_, (fun _ _ h => by cases h), (fun _ _ h => by cases h), ⟨rfl, rfl, rfl, Nat.le_refl _, fun k hk => hk, fun _ _ => rfl, hZ, fun _ hk => hk, fun _ hk => .inl hk⟩, ⟨fun r x hx => by simp [look] at hx, fun r r' _ h1 => by simp [look] at h1⟩, fun d => ?_⟩
 ·simp only [Array.size_append, List.size_toArray, Array.size_replicate, hN, v0t]; omega
 ·rw [v0z, if_pos (Nat.zero_le _), Nat.sub_zero]
  by_cases hd : d < args.length
  ·have h1 : (args.map SV.av).getD d (.av .any) = .av args[d] := by simp [List.getD, List.getElem?_eq_getElem hd]
   rw [h1]
   obtain ⟨u, hu, hk⟩ := hvs.get d args[d] (List.getElem?_eq_getElem hd)
   have : (vs.toArray ++ Array.replicate (fn.ntmps - vs.toArray.size) undef).getD d undef = u := by
    have hlt := (List.getElem?_eq_some_iff.1 hu).1
    rw [Array.getD_eq_getD_getElem?, Array.getElem?_append_left (by simpa using hlt)]
    simp [hu]
   rw [this]; exact hk
  ·have h1 : (args.map SV.av).getD d (.av .any) = .av .any := by
    rw [List.getD, List.getElem?_eq_none (by simpa using hd)]; rfl
   rw [h1]; trivial
theorem k1b {P : Program} {gf : FuncId} {fn : Func} {c : Code} {caps : List AV} {V : Value → Prop} {τs : List AV} (N : Nat) (hf : P.funcs[gf]? = some fn) (hb : fn.body = some c) (hname : (fn.name == "runtime.NumGoroutine") = false) (hN : fn.ntmps = N) (hlen' : Nat.ble (caps.length + 1) N = true)
  (h : ∀ l J, YM P V τs l J → ∀ w Z, SM τs J 0 w Z → CQ P (v0t N w Z) (bodyPost P fn (RM τs J)) (x0a 0 ((AV.val (.func (.yield l) #[] #[]) :: caps).map SV.av)) [] c) : CtrM P gf caps V τs := by
 refine ⟨w0X hf hb hname, fun w Z cs hZ hcs => ?_⟩
 intro l J W hBl hJ hY h0
 have hZW : ZOk Z W := hZ.next (fun _ q => q) hBl.size (fun k _ hl => hBl.block k hl) (fun k hk => Nat.lt_of_lt_of_le (hZ.1 k hk) hBl.size)
 have hcs' : All2 (fun τ v => AV.ok Z W τ v) (AV.val (.func (.yield l) #[] #[]) :: caps) (Value.func (.yield l) #[] #[] :: cs) :=
  ⟨rfl, hcs.mono fun τ _ v hv => AV.ok_mono (fun _ q => q) hBl.size (fun k hk _ => hBl.block k (hZ.1 k hk)) τ v hv⟩
 have key := (h l J ⟨hJ, hY⟩ W Z ⟨⟨[], Z, h0, fun _ q => q, trivial⟩⟩).sq _ W (y0t hN hlen' hZW hcs')
 have hc : Calls P gf (Value.func (.yield l) #[] #[] :: cs).toArray W (RM τs J) := calls_of_wp hf hb (wpIn_wide.1 key)
 have ha : #[Value.func (.yield l) #[] #[]] ++ cs.toArray = (Value.func (.yield l) #[] #[] :: cs).toArray := by simp
 rw [ha]
 exact callsIn_wide.2 hc
section
variable {P : Program} {V : Value → Prop} {τs : List AV} {l : Nat} {J : List Value → j0q → World → Prop} {N : Nat} {w : World} {Z : j0q} {T : Tab} {O : Own} {Q : Exit → Act → World → Prop}
theorem SM.below {a : Act} {w1 : World} {Z1 : j0q} {ν : j0N} (h : SatZ (v0t N w Z) Z1 ν T O a w1) : w.grownBy w1 none := ⟨h.base.os, h.base.tape, h.base.output, h.base.size, fun k hk _ => h.base.kept k hk⟩
theorem SM.now (Y : YM P V τs l J) {m : Nat} (S : SM τs J m w Z) {a : Act} {w1 : World} {Z1 : j0q} {ν : j0N} (h : SatZ (v0t N w Z) Z1 ν T O a w1) : SM τs J m w1 Z1 := by
 obtain ⟨pre, ZP, h1, h2, h3⟩ := S.ex
 have hg := SM.below h
 refine ⟨pre, W0t ZP w w1, Y.grow _ _ _ _ h1 hg, fun k hk => ?_, h3.mono fun τ _ v hv => AV.ok_mono (fun k q => .inl q) hg.size (fun k _ hl => hg.block k hl (by simp)) τ v hv⟩
 rcases h.base.zNew k hk with q | q
 ·exact .inl (h2 k q)
 ·exact .inr ⟨Nat.le_of_not_lt q, h.base.zLt k hk⟩
theorem q1Y {a : Act} {w1 : World} {Z1 : j0q} {ν : j0N} (h : SatZ (v0t N w Z) Z1 ν T [] a w1) : SatZ (v0t N w1 Z1) Z1 ν T [] a w1 :=
 h.shift h.defers h.tsize (fun _ _ q => by cases q) (fun _ _ q => by cases q) ⟨rfl, rfl, rfl, Nat.le_refl _, fun _ hk => hk, fun _ _ => rfl, h.base.zok, fun _ hk => hk, fun _ hk => .inl hk⟩ (fun _ _ q => q) (fun r hr => absurd rfl hr) (fun _ _ => rfl)
theorem v1G (Y : YM P V τs l J) {m : Nat} (S : SM τs J m w Z) {τ : AV} {d : Nat} {c y : Operand} {ats : Array TypeId} {ty : TypeId} {pos : String} {af : Array Edge} {ops : Array Oper} {l' : List Oper}
  (hm : τs[m]? = some τ) (hx : ∀ Z w v, AV.ok Z w τ v → V v) (hc : T.ev c = .av (.val (.func (.yield l) #[] #[]))) (hy : T.ev y = .av τ) (hd : (v0t N w Z).wr d = true)
  (ht : ∀ w' Z', SM τs J (m + 1) w' Z' → LSQ P (v0t N w' Z') ops Q l' ((d, .av (.val (.bool true))) :: T) []) :
  LSQ P (v0t N w Z) ops Q (⟨some d, .call ⟨.value c, #[y], ats⟩, ty, pos, af, none⟩ :: l') T [] := by
 refine ⟨fun a w1 hsat => ?_⟩
 obtain ⟨Z1, ν, h⟩ := hsat
 obtain ⟨pre, ZP, j1, j2, j3⟩ := (S.now Y h).ex
 have hyv := j0G h y
 rw [hy] at hyv
 have hyv : AV.ok Z1 w1 τ (a.eval y) := hyv
 have hml : m < τs.length := (List.getElem?_eq_some_iff.1 hm).1
 have hpl : pre.length = m := by have := j3.len; rw [List.length_take] at this; omega
 obtain ⟨fn, tmps, assign, body, hyl, hR⟩ := Y.yld pre (a.eval y) ZP w1 j1 (hx _ _ _ hyv) zO
 have hfv : a.eval c = .func (.yield l) #[] #[] := by
  have := j0G h c
  rw [hc] at this
  exact this
 refine wpListIn_plain rfl fun K hK => ?_
 refine ⟨fun _ _ => trivial, ?_⟩
 rw [show (fc (v0t N w Z).round).round = none from rfl, Oper.semAt_eq none a.eval _ (by intro c; simp)]
 have hrun : (execOp a.eval ⟨some d, .call ⟨.value c, #[y], ats⟩, ty, pos, af, none⟩).run P w1 = .ok (.round l fn tmps assign body) w1 := by
  simp [execOp, resolve, Deferred.ofValue, hfv, invoke] at hyl ⊢
  exact hyl
 rw [hrun]
 refine ⟨fun h => by simp [fc, v0t] at h, ?_⟩
 refine RoundIn.mono (F := Fence.wide) hR ?_
 rintro e W' ⟨rfl, hj, hk⟩
 have hzk : ∀ k, Z1 k → k < w1.heap.size → W'.heap[k]? = w1.heap[k]? := fun k hz hl => hk.2.2.2.2 k (j2 k hz) hl
 have htk : τs.take (m + 1) = τs.take m ++ [τ] := by rw [List.take_add_one, hm]; rfl
 have hS : SM τs J (m + 1) W' Z1 := by
  refine ⟨pre ++ [a.eval y], ZP, hj, j2, ?_⟩
  rw [htk]
  exact (j3.mono fun τ _ v hv => AV.ok_mono (fun _ q => q) hk.2.2.2.1 (fun k q hl => hk.2.2.2.2 k q hl) τ v hv).snoc (AV.ok_mono j2 hk.2.2.2.1 hzk τ _ hyv)
 refine hK _ _ ((ht W' Z1 hS).sq _ _ ⟨Z1, ν, ?_⟩)
 have h2 : SatZ (v0t N W' Z1) Z1 ν T [] a W' :=
  h.shift h.defers h.tsize (fun _ _ q => by cases q) (fun _ _ q => by cases q) ⟨rfl, rfl, rfl, Nat.le_refl _, fun _ hk => hk, fun _ _ => rfl, h.base.zok.next (fun _ q => q) hk.2.2.2.1 hzk (fun k q => Nat.lt_of_lt_of_le (h.base.zLt k q) hk.2.2.2.1), fun _ hk => hk, fun _ hk => .inl hk⟩
   (AV.ok_mono (fun _ q => q) hk.2.2.2.1 hzk) (fun r hr => absurd rfl hr) (fun _ _ => rfl)
 exact h2.put (some d) _ _ hd rfl
def Y1s (τs : List AV) (J : List Value → j0q → World → Prop) (N m : Nat) (T : Tab) (a : Act) (w : World) : Prop := ∃ Z, SM τs J m w Z ∧ Sat (v0t N w Z) T [] a w
theorem V0o (Y : YM P V τs l J) {γ : Type} {c : Code} (Tof : γ → Tab) (mOf : γ → Nat) (φ : γ → Prop) (μ : γ → Nat) (g0 : γ) (S : SM τs J (mOf g0) w Z) (h0 : φ g0) (hstart : Ent T O (Tof g0) [])
  (hbody : ∀ g, φ g → ∀ w Z, SM τs J (mOf g) w Z → CQ P (v0t N w Z) (Exit.then (fun a w => ∃ g', φ g' ∧ μ g' < μ g ∧ Y1s τs J N (mOf g') (Tof g') a w) Q) (Tof g) [] c) : CQ P (v0t N w Z) Q T O (Code.loop c) := by
 refine ⟨fun a w1 hs => ?_⟩
 obtain ⟨Z1, ν, h1⟩ := hstart _ a w1 hs
 refine wpIn_loop_ghost (fun n a w => ∃ g, μ g = n ∧ φ g ∧ Y1s τs J N (mOf g) (Tof g) a w) (μ g0) ⟨g0, rfl, h0, Z1, S.now Y h1, Z1, ν, q1Y h1⟩ ?_
 rintro n a w2 ⟨g, rfl, hg, Z2, S2, hsat⟩
 refine wpIn_mono ((hbody g hg w2 Z2 S2).sq a w2 hsat) ?_
 intro e a' w' hq
 cases e with
 |normal => obtain ⟨g', h1, h2, h3⟩ := hq; exact ⟨μ g', h2, g', rfl, h1, h3⟩
 |exit id => exact hq
 |goto l => exact hq
 |ret => exact hq
 |panic ch => exact hq
 |outgrown => exact hq
theorem J0X (Y : YM P V τs l J) {γ : Type} {Tof : γ → Tab} {mOf : γ → Nat} {φ : γ → Prop} {μ : γ → Nat} {g : γ} (g' : γ) (S : SM τs J (mOf g') w Z) (h1 : φ g') (h2 : μ g' < μ g) (h3 : Ent T O (Tof g') []) :
  SQ (v0t N w Z) T O (Exit.then (fun a w => ∃ g', φ g' ∧ μ g' < μ g ∧ Y1s τs J N (mOf g') (Tof g') a w) Q .normal) := fun a w' hs => by
 obtain ⟨Z1, ν, hz⟩ := h3 _ a w' hs
 exact ⟨g', h1, h2, Z1, S.now Y hz, Z1, ν, q1Y hz⟩
variable {fn : Func}
theorem Q1B (Y : YM P V τs l J) (hr : fn.results = #[]) (S : SM τs J τs.length w Z) : SQ (v0t N w Z) T O (bodyPost P fn (RM τs J) .ret) := by
 rintro a w' ⟨Z', ν, h⟩
 obtain ⟨pre, ZP, h1, _, h3⟩ := (S.now Y h).ex
 rw [List.take_length] at h3
 exact bodyPost_ret (results_none hr _ _ _) h.defers ⟨⟨_, rfl⟩, pre, ZP, h3, h1⟩
theorem x1Q (Y : YM P V τs l J) (hr : fn.results = #[]) (S : SM τs J τs.length w Z) : SQ (v0t N w Z) T O (bodyPost P fn (RM τs J) .normal) := Q1B Y hr S
abbrev K0p (P : Program) (fn : Func) (R : Ending → World → Prop) : Exit → Act → World → Prop := bodyPostM Fence.wide 0 P fn R
theorem k0D {R : Ending → World → Prop} {a : Act} {w : World} (h : bodyPost P fn R .ret a w) : LeavesInM Fence.wide 0 P fn a.tmps R a.defers .returning w := by
 obtain ⟨hd, h⟩ := h
 rw [hd]
 exact h
variable {E : Env} {R : Ending → World → Prop}
theorem X1i (h : SQ E T O (bodyPost P fn R .ret)) : SQ E T O (K0p P fn R .ret) := fun a w hs => k0D (h a w hs)
theorem K0r {D : Nat} {w2 : World} (hA : AfterOk (v0t N w Z) D w2) {a : Act} {w' : World} (h : Sat ((v0t N w Z).after D w2) T O a w') :
  a.defers = [{ target := .collected D, args := #[] }] ∧ w'.heap[D]? = some (.deferred (some [])) ∧ Sat (v0t N w Z) T O { a with defers := [] } (w'.putObj D (.deferred none)) := by
 obtain ⟨Z1, ν, h⟩ := h
 obtain ⟨Z2, hb⟩ := hA.base
 have hD : w'.heap[D]? = some (.deferred (some [])) := (h.base.kept D (.inr rfl)).trans hA.heap
 have hne : ∀ k, k ≠ D → (w'.putObj D (.deferred none)).heap[k]? = w'.heap[k]? := fun k hk => World.putObj_heap_other hk
 have hsz : (w'.putObj D (.deferred none)).heap.size = w'.heap.size := by simp [World.putObj]
 have hzD : ¬ Z1 D := fun q => (h.base.zNew D q).elim hA.z (fun q => q (.inr rfl))
 refine ⟨h.defers, hD, Z1, ν, ?_⟩
 refine h.shift rfl h.tsize (fun _ _ q => by cases q) (fun _ _ q => by cases q) ⟨h.base.os.trans hb.os, h.base.tape.trans hb.tape, h.base.output.trans hb.output, ?_, hb.keepLt, fun k hk => ?_, h.base.zok.next (fun _ q => q) zO (fun k q _ => hne k (fun e => hzD (e ▸ q))) (fun k hk => by have := h.base.zLt k hk; omega), h.base.z0, fun k hk => ?_⟩ (AV.ok_mono (fun _ q => q) zO (fun k q _ => hne k (fun e => hzD (e ▸ q)))) (fun r hr b hb2 => ?_) (fun _ _ => rfl)
 ·have := Nat.le_trans hb.size h.base.size
  omega
 ·have hkD : k ≠ D := fun e => by subst e; have := hb.keepLt k hk; have := hA.lo; omega
  exact (hne k hkD).trans ((h.base.kept k (.inl hk)).trans (hb.kept k hk))
 ·rcases h.base.zNew k hk with q | q
  ·exact .inl q
  ·exact .inr fun q' => q (.inl q')
 ·obtain ⟨e1, e2, e3⟩ := j0R h ⟨r, hr, hb2⟩
  exact ⟨e2, fun q => e3 (.inl q), hne b (fun e => e3 (.inr e))⟩
theorem X0y {D : Nat} {w2 : World} (hA : AfterOk (v0t N w Z) D w2) (h : SQ (v0t N w Z) T O (bodyPost P fn R .ret)) : SQ ((v0t N w Z).after D w2) T O (K0p P fn R .ret) := by
 intro a w' hs
 obtain ⟨h1, h2, h3⟩ := K0r hA hs
 obtain ⟨_, q⟩ := h _ _ h3
 show LeavesInM Fence.wide 0 P fn a.tmps R a.defers .returning w'
 rw [h1]
 exact ⟨by simp, .inl ⟨D, _, rfl, run_takeDeferred h2, q⟩⟩
end
end Go.Vc
end
section
namespace Go.Vc
open Go Go.RowKit
section
variable {P : Program} {E : Env} {T T' : Tab} {O O' : Own} {o : Oper} {d : Option Tmp} {ty : TypeId} {pos : String} {af : Array Edge} {g : Option (Nat × Bool)}
theorem Y0n {ops : Array Oper} {Q : Exit → Act → World → Prop} {l : List Oper} (h : Ent T O T' O') (hq : LSQ P E ops Q l T' O') : LSQ P E ops Q l T O := ⟨fun a w hs => hq.sq a w (h E a w hs)⟩
theorem j0M (r q off : Nat) {ety sz n : Nat} {f : Nat → Nat → AV} {cs : List SV} (hq : look O q = some (.row ety sz n f)) (hr : look O r = some (.cells cs)) (hc : cs[off]? = some (.osl q)) (hne : Nat.beq r q = false) :
  Ent T O (T.frz q (.sl n sz f)) ((r, .cells (cs.set off (.av (.sl n sz f)))) :: Own.drop q O) := by
 rintro E a w ⟨Z, ν, h⟩
 have hrq : r ≠ q := fun e => by subst e; simp at hne
 have hrow := h.own.each q _ hq
 have h2 := h.freeze hq
 refine ⟨_, ν, h2.defers, h2.tsize, h2.cst, h2.pin, h2.base, ⟨fun k x hx => ?_, fun k k' hkk e1 e2 => ?_⟩, h2.slot⟩
 ·by_cases hk : r = k
  ·subst hk
   rw [j0l] at hx
   cases hx
   have hlk : look (Own.drop q O) r = some (.cells cs) := by rw [Own.look_drop, if_neg hrq]; exact hr
   obtain ⟨b, ty, arr, q1, q2, q3, q4, q5, q6⟩ := h2.own.each r _ hlk
   refine ⟨b, ty, arr, q1, q2, q3, q4, by rw [List.length_set]; exact q5, fun i s hi => ?_⟩
   rw [List.getElem?_set] at hi
   by_cases hio : off = i
   ·subst hio
    rw [if_pos rfl] at hi
    split at hi
    ·cases hi
     obtain ⟨u, hu, hk⟩ := q6 off _ hc
     have hu2 : u = ν q := hk
     refine ⟨u, hu, ?_⟩
     rw [hu2]
     exact J0W hrow (fun _ hz => .inl hz) (fun b hb => .inr hb)
    ·cases hi
   ·rw [if_neg hio] at hi
    exact q6 i s hi
  ·rw [j0d _ _ hk] at hx
   exact h2.own.each k x hx
 ·have key : ∀ k, look ((r, Res.cells (cs.set off (.av (.sl n sz f)))) :: Own.drop q O) k ≠ none → look (Own.drop q O) k ≠ none := fun k hk => by
   by_cases hkr : r = k
   ·subst hkr
    rw [Own.look_drop, if_neg hrq, hr]; simp
   ·rwa [j0d _ _ hkr] at hk
  exact h2.own.apart k k' hkk (key k e1) (key k' e2)
theorem j0n {t : TypeId} {x : Operand} {r off k : Nat} {cs : List SV} {f : Nat → AV} [ht : AggTy P t k] (hx : T.ev x = .own r off) (hr : look O r = some (.cells cs)) (hc : (cs.drop off).take k = (List.range k).map fun i => .av (f i)) :
  GV P E ⟨d, .load t x, ty, pos, af, g⟩ T O (.av (.agg k f)) [r] [] :=
 j0p [r] fun Z ν a w h hO => by
  obtain ⟨b, hb, hax⟩ := z0u hx (h x (by simp [Op.operands]))
  obtain ⟨us, hk, hcell, hf⟩ := W0x (P := P) (hO r (by simp) _ hr) hb hc
  subst hk
  have hl := run_loadCells_list (P := P) (w := w) ⟨b, off, none⟩ us hcell
  exact ⟨_, by simp [execOp, Instr.loadAt, hax, Instr.sureAddr, loadVar, ht.agg w, ht.size w, hl], us, rfl, rfl, hf⟩
theorem q0w {t : TypeId} {x : Operand} {r n sz ety i : Nat} {f : Nat → Nat → AV} [ht : AggTy P t sz] (hx : T.ev x = .oel r sz i 0) (hr : look O r = some (.row ety sz n f)) (hi : i < n) :
  GV P E ⟨d, .load t x, ty, pos, af, g⟩ T O (.av (.agg sz (f i))) [r] [] :=
 j0p [r] fun Z ν a w h hO => by
  have := h x (by simp [Op.operands])
  rw [hx] at this
  obtain ⟨b, m, c, hb, hax⟩ := this
  have hget : ∀ j, j < sz → ∃ u, w.cell? ⟨b, i * sz + j, none⟩ = some u ∧ (f i j).ok Z w u := fun j hj => k0f (hO r (by simp) _ hr) hb hi hj
  have hl : ((List.range sz).map fun j => (w.cell? ⟨b, i * sz + j, none⟩).getD undef).length = sz := by simp
  have hcs : ∀ j u, ((List.range sz).map fun j => (w.cell? ⟨b, i * sz + j, none⟩).getD undef)[j]? = some u → w.cell? ((⟨b, i * sz + 0, none⟩ : Addr).add j) = some u := by
   intro j u hu
   simp only [List.getElem?_map, Option.map_eq_some_iff] at hu
   obtain ⟨j', hj', rfl⟩ := hu
   obtain ⟨hj, rfl⟩ := List.getElem?_eq_some_iff.1 hj'
   simp only [List.getElem_range, List.length_range] at hj ⊢
   obtain ⟨u, hu, _⟩ := hget j hj
   rw [j0I, Nat.add_zero, hu]; rfl
  have hrun := run_loadCells_list (P := P) (w := w) ⟨b, i * sz + 0, none⟩ _ hcs
  rw [hl, Nat.add_zero] at hrun
  refine ⟨.agg ((List.range sz).map fun j => (w.cell? ⟨b, i * sz + j, none⟩).getD undef).toArray, ?_, _, rfl, hl, fun j hj => ?_⟩
  ·simp [execOp, Instr.loadAt, hax, Instr.sureAddr, loadVar, ht.agg w, ht.size w, hrun]
  ·obtain ⟨u, hu, hk⟩ := hget j hj
   exact ⟨u, by simp [hj, hu], hk⟩
end
end Go.Vc
end
section
namespace Go.Vc
open Go Go.RowKit
section
variable {P : Program} {E : Env} {T T' : Tab} {O O' : Own}
theorem Q1y {Q : Exit → Act → World → Prop} (h : Ent T O T' O') : SQ E T O (Exit.then (fun a w => Sat E T' O' a w) Q .normal) := fun a w hs => h E a w hs
theorem W0b (h : Ent T O T' O') : SQ E T O ((fun (e : Exit) a w => e = Exit.normal ∧ Sat E T' O' a w) .normal) := fun a w hs => ⟨rfl, h E a w hs⟩
theorem z1i {Q : Act → World → Prop} {a : Act} {w : World} (hs : Sat E T O a w) (h : SQ E T O Q) : Q a w := h a w hs
theorem SatZ.rerowM {Z : j0q} {ν : j0N} {a : Act} {w : World} {r n sz ety : Nat} {f f' : Nat → Nat → AV} (hs : SatZ E Z ν T O a w) (hr : look O r = some (.row ety sz n f)) (hf : ∀ i, i < n → ∀ j, j < sz → ∀ u, (f i j).ok Z w u → (f' i j).ok Z w u) : SatZ E Z ν T ((r, .row ety sz n f') :: O) a w := by
 refine ⟨hs.defers, hs.tsize, hs.cst, hs.pin, hs.base, ⟨fun k x hx => ?_, fun k k' hne h1 h2 => ?_⟩, hs.slot⟩
 ·by_cases hk : r = k
  ·subst hk
   rw [j0l] at hx
   cases hx
   rcases hs.own.each r _ hr with h | ⟨b, cap, arr, q1, q2, q3, q4, q5, q6, q7, q8⟩
   ·exact .inl h
   ·exact .inr ⟨b, cap, arr, q1, q2, q3, q4, q5, q6, q7, fun i hi j hj => let ⟨u, hu, hk⟩ := q8 i hi j hj; ⟨u, hu, hf i hi j hj u hk⟩⟩
  ·rw [j0d _ _ hk] at hx
   exact hs.own.each k x hx
 ·have key : ∀ k, look ((r, Res.row ety sz n f') :: O) k ≠ none → look O k ≠ none := fun k hk => by
   by_cases hkr : r = k
   ·subst hkr; rw [hr]; simp
   ·rwa [j0d _ _ hkr] at hk
  exact hs.own.apart k k' hne (key k h1) (key k' h2)
end
end Go.Vc
end
section
namespace Go.Vc
open Go Go.RowKit
section
variable {P : Program} {E : Env} {T T' : Tab} {O O' : Own} {o : Oper} {d : Option Tmp} {ty : TypeId} {pos : String} {af : Array Edge} {g : Option (Nat × Bool)}
theorem z0y {t : TypeId} {x y : Operand} {r n sz ety i : Nat} {f : Nat → Nat → AV} {h : Nat → AV} [ht : SizeTy P t sz] (hx : T.ev x = .oel r sz i 0) (hy : T.ev y = .av (.agg sz h)) (h1 : ∀ i, i < sz → (h i).one = true) (hr : look O r = some (.row ety sz n f)) (hi : i < n) :
  GV P E ⟨d, .store t x y, ty, pos, af, g⟩ T O (.av .any) [r] [(r, .row ety sz n (w0v f i 0 ((List.range sz).map h)))] := by
 refine ⟨fun T' O' hT hO => ⟨by intro c; simp, fun Z ν a w hs => ?_⟩⟩
 have ex := j0G hs x
 rw [j0r (o := ⟨d, .store t x y, ty, pos, af, g⟩) hT (by simp [Op.operands]), hx] at ex
 have ey := j0G hs y
 rw [j0r (o := ⟨d, .store t x y, ty, pos, af, g⟩) hT (by simp [Op.operands]), hy] at ey
 obtain ⟨b, m, c, hb, hax⟩ := ex
 obtain ⟨us, hus, hl, hc⟩ := ey
 have hall : All2 (fun s v => AV.ok Z w s v) ((List.range sz).map h) us := by
  rw [List.range_eq_range']
  exact J0i sz 0 h us hl (fun i hi => by rw [Nat.zero_add]; exact hc i hi)
 have hone : ∀ v ∈ us, v.oneCell' = true := by
  intro v hv
  obtain ⟨i, hi, rfl⟩ := List.getElem_of_mem hv
  obtain ⟨u, hu, hk⟩ := hc i zO
  rw [List.getElem?_eq_getElem hi] at hu
  cases hu
  exact AV.one_cells (h1 i zO) hk
 obtain ⟨w', hst, hsat⟩ := hs.storeRow (P := P) (j := 0) (ss := (List.range sz).map h) (vs := us) (by rw [hO r (by simp)]; exact hr) hb hi (by simp) hall hone
 unfold Oper.wp
 rw [Nat.add_zero] at hst hax
 have hrun : (execOp a.eval ⟨d, .store t x y, ty, pos, af, g⟩).run P w = .ok .skip w' := by
  simp [execOp, Instr.storeAt, hax, Instr.sureAddr, storeVar, ht.run w, hus, Value.cells, hl, hst]
 rw [hrun]
 exact ⟨Go.undef, Z, ν, rfl, hsat, trivial⟩
def X0s (f : Nat → Nat → AV) (lo : Nat) : Nat → Nat → AV := fun i j => if lo ≤ i then .any else f i j
theorem x1g {t e : TypeId} {x : Operand} {r lo n ety sz : Nat} {f : Nat → Nat → AV} {z : Value} {zs : List Value} [ht : SlTy P t e sz] (hv : ∀ w, (zeroValue e).run P w = .ok z w) (hz : z.cells = zs.toArray) (hzl : zs.length = sz) (hsz : 0 < sz) (h1 : ∀ v ∈ zs, v.oneCell' = true) (hx : T.ev x = .osx r sz lo (n - lo)) (hr : look O r = some (.row ety sz n f)) :
  GV P E ⟨d, .call ⟨.builtin .clear, #[x], #[t]⟩, ty, pos, af, g⟩ T O (.av .any) [r] [(r, .row ety sz n (X0s f lo))] := by
 refine ⟨fun T' O' hT hO => ⟨by intro c; simp, fun Z ν a w hs => ?_⟩⟩
 have ex := j0G hs x
 rw [j0r (o := ⟨d, .call ⟨.builtin .clear, #[x], #[t]⟩, ty, pos, af, g⟩) hT (by simp [Op.operands, Call.operands])] at ex
 obtain ⟨b, m, c, p, hb, hax, hp⟩ := Z0W hx ex
 have hr' : look O' r = some (.row ety sz n f) := by rw [hO r (by simp)]; exact hr
 rcases hs.own.each r _ hr' with ⟨e1, _⟩ | ⟨b', cap, arr, e1, e2, e3, e4, e5, e6, e7, e8⟩
 ·rw [hb] at e1; simp at e1
 have e1' := e1
 rw [hb] at e1
 simp only [Value.slice.injEq, Option.some.injEq, Addr.mk.injEq, and_true] at e1
 obtain ⟨rfl, rfl, rfl⟩ := e1
 by_cases hle : m ≤ lo
 ·have h0 : m - lo = 0 := by omega
  rw [h0] at hax
  refine j0B (w' := w) (v := .tuple #[]) ?_ ⟨_, Z, ν, rfl, hs.rerowM hr' (fun i hi j hj u hu => by unfold X0s; rw [if_neg (by omega)]; exact hu), trivial⟩
  cases p <;> simp [execOp, resolve, invoke, builtin, hax, Builtin.clear_, run_underlying ht.und]
 ·have hpos : 0 < m - lo := by omega
  rw [hp (.inl hpos)] at hax
  obtain ⟨zl, hzl'⟩ : ∃ zl, zl = (Builtin.zeroCells z.cells (m - lo)).toList := ⟨_, rfl⟩
  have hzlen : zl.length = (m - lo) * sz := by rw [hzl', hz]; simp [Builtin.zeroCells, hzl]
  have hzone : ∀ v ∈ zl, v.oneCell' = true := by
   intro v hv'
   rw [hzl', hz] at hv'
   simp only [Builtin.zeroCells, Array.toList_map, List.mem_map, List.size_toArray] at hv'
   obtain ⟨i, _, rfl⟩ := hv'
   have hlt : i % zs.length < zs.length := Nat.mod_lt _ zO
   rw [getElem!_pos zs.toArray (i % zs.length) (by simpa using hlt)]
   exact h1 _ (by simp)
  have hmul : lo * sz + (m - lo) * sz = m * sz := by rw [← Nat.add_mul]; congr 1; omega
  have hmc : m * sz ≤ arr.size := by rw [e7]; exact Nat.mul_le_mul_right _ e5
  have hst := run_storeCells_at P b (lo * sz) ety zl 0 arr w e4 zO hzone
  simp only [Nat.add_zero] at hst
  refine j0B (w' := _) (v := .tuple #[]) ?_ ⟨_, Z, ν, rfl, hs.write hr' (b := b) (by rw [hb]; rfl) (w' := w.setRow b (arr.toList.take (lo * sz) ++ zl ++ arr.toList.drop (lo * sz + zl.length)).toArray) rfl rfl rfl (by simp) (fun k hk => setRow_other w b k _ hk) (fun hsv => ?_), trivial⟩
  ·obtain ⟨q, hq⟩ : ∃ q, m - lo = q + 1 := ⟨m - lo - 1, by omega⟩
   rw [hq] at hax hzl'
   simp only [execOp, resolve, invoke, builtin, Sem.run_bind, Sem.run_pure, Result.andThen_ok, List.map_toArray, List.map_cons, List.map_nil, hax]
   simp [Builtin.clear_, run_underlying ht.und, hv, ← hzl', hst]
  ·refine .inr ⟨b, c, _, e1', e2, e3, setRow_heap w b arr _ ety _ e4, e5, e6, ?_, fun i hi j hj => ?_⟩
   ·rw [← e7]; simp; omega
   ·obtain ⟨u0, hu0, hk0⟩ := e8 i hi j hj
    have hlt0 : i * sz + j < arr.size := (Array.getElem?_eq_some_iff.1 hu0).1
    by_cases hil : lo ≤ i
    ·have hlen : i * sz + j < (arr.toList.take (lo * sz) ++ zl ++ arr.toList.drop (lo * sz + zl.length)).toArray.size := by simp; omega
     exact ⟨_, Array.getElem?_eq_getElem hlen, by unfold X0s; rw [if_pos hil]; trivial⟩
    ·refine ⟨u0, ?_, by unfold X0s; rw [if_neg hil]; exact hsv (.av _) _ hk0⟩
     have : (i + 1) * sz ≤ lo * sz := Nat.mul_le_mul_right _ zO
     rw [Nat.add_mul, Nat.one_mul] at this
     simp only [List.getElem?_toArray, List.append_assoc]
     rw [List.getElem?_append_left (by simp; omega), List.getElem?_take_of_lt (by omega)]
     simpa using hu0
end
end Go.Vc
end
section
namespace Go.Vc
open Go Go.RowKit
section
variable {P : Program} {E : Env} {T : Tab} {O : Own} {d : Option Tmp} {ty : TypeId} {pos : String} {af : Array Edge} {g : Option (Nat × Bool)}
theorem v0O {t e : TypeId} {x : Operand} {n : Nat} {f : Nat → AV} [ht : ArrTy P t n e 1] (hx : T.ev x = .av (.ptr n f)) (hn : 0 < n) (hm : n ≤ maxLen) :
  GV P E ⟨d, .slice t x none none none, ty, pos, af, g⟩ T O (.av (.sl n 1 (fun i _ => f i))) [] [] :=
 j0p [] fun Z ν a w hh _ => by
  obtain ⟨b, o, he, hz, hb, hc⟩ := z0v hx (hh x (by simp [Op.operands]))
  have hrun : (Instr.sliceAt t (.pointer (some ⟨b, o, none⟩)) none none none).run P w = .ok (.slice (some ⟨b, o, none⟩) n n) w := by
   have hne : n ≠ 0 := by omega
   simp [Instr.sliceAt, run_underlying ht.und, Instr.sliceBounds, ht.size w, j0I, asAddr, Instr.sureAddr]
  refine ⟨.slice (some ⟨b, o, none⟩) n n, by simp [execOp, he, hrun], some ⟨b, o, none⟩, n, rfl, Nat.le_refl _, hm, fun _ => ⟨b, o, rfl, fun _ => hz hn, hb, fun i hi j hj => ?_⟩⟩
  obtain ⟨u, hu, hk⟩ := hc i hi
  obtain rfl : j = 0 := by omega
  exact ⟨u, by simpa using hu, hk⟩
theorem J1t {n : Nat} {f f' : Nat → AV} (k : Nat) (hT : T.get k = .av (.ptr n f)) (hf : ∀ i, i < n → f i = f' i) : Ent T O ((k, .av (.ptr n f')) :: T) O := by
 rintro E a w ⟨Z, ν, h⟩
 refine ⟨Z, ν, h.defers, h.tsize, h.cst, h.pin, h.base, h.own, fun q => ?_⟩
 by_cases hq : k = q
 ·subst hq
  rw [Tab.get_cons_eq]
  have hs := h.slot k
  rw [hT] at hs
  obtain ⟨b, o, e1, e2, e3, e4⟩ := hs
  exact ⟨b, o, e1, e2, e3, fun i hi => let ⟨u, hu, hk⟩ := e4 i hi; ⟨u, hu, by rw [← hf i hi]; exact hk⟩⟩
 ·rw [Tab.get_cons_ne _ _ hq]
  exact h.slot q
end
end Go.Vc
end
section
end
section
end
