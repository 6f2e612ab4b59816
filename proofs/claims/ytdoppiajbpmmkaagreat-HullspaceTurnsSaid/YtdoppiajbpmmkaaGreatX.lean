/- A part of the proof that the law returns true at every input and that the input reads behind the call as it read before; this part states nothing of its own that needs a condition of the input. -/
import Derived.Laws.CopyRow
import Derived.Laws.IdiomCopy
import Derived.Maps.Own
import Derived.Maps.Range
import Derived.Maps.RangeRun
import Derived.WalkArith
import Derived.Laws.Cover1
import Derived.Test.YtdoppiajbpmmkaaGreatW
set_option linter.unusedVariables false
set_option linter.unusedSimpArgs false
set_option linter.unnecessarySimpa false
namespace Go.Vc
open Go Go.RowKit
/-! ### Functions that are handed things of the caller's own, and turn them -/
def rnm (l : List (Nat × Nat)) (r : Nat) : Nat := match look l r with | some k => k | none => r
def CV.ren (f : Nat → Nat) : CV → CV
  | .av τ => .av τ
  | .own r off => .own (f r) off
  | .osl r => .osl (f r)
def SV.ren (f : Nat → Nat) : SV → SV
  | .av τ => .av τ
  | .own r off => .own (f r) off
  | .osl r => .osl (f r)
  | .oel r sz i j => .oel (f r) sz i j
  | .osx r sz lo len => .osx (f r) sz lo len
  | .clo k cs => .clo k (cs.map (CV.ren f))
  | .tupR r ρs => .tupR (f r) ρs
  | .agg cs => .agg (cs.map (CV.ren f))
def Res.ren (f : Nat → Nat) : Res → Res
  | .cells cs => .cells (cs.map (SV.ren f))
  | .row ty sz n g => .row ty sz n g
  | .obj φ h => .obj φ h
def Own.ren (f : Nat → Nat) (O : Own) : Own := O.map fun p => (f p.1, p.2.ren f)
theorem All2.map_iff {α β γ : Type} {R : β → γ → Prop} {g : α → β} : ∀ {l : List α} {m : List γ}, All2 R (l.map g) m ↔ All2 (fun a c => R (g a) c) l m
  | [], [] => Iff.rfl
  | [], _ :: _ => Iff.rfl
  | _ :: _, [] => Iff.rfl
  | _ :: _, _ :: _ => and_congr_right fun _ => All2.map_iff
theorem CV.ren_ok {Z : Zone} {ν : Vals} {w : World} {f : Nat → Nat} (c : CV) (v : Value) : (c.ren f).ok Z ν w v ↔ c.ok Z (fun r => ν (f r)) w v := by cases c <;> exact Iff.rfl
theorem SV.ren_ok {Z : Zone} {ν : Vals} {w : World} {f : Nat → Nat} (s : SV) (v : Value) : (s.ren f).ok Z ν w v ↔ s.ok Z (fun r => ν (f r)) w v := by
  cases s with
  | clo k cs =>
    refine exists_congr fun vs => and_congr_right fun _ => ?_
    rw [All2.map_iff]
    exact ⟨fun h => h.mono fun c _ u hu => (CV.ren_ok c u).1 hu, fun h => h.mono fun c _ u hu => (CV.ren_ok c u).2 hu⟩
  | agg cs =>
    refine exists_congr fun vs => and_congr_right fun _ => ?_
    rw [All2.map_iff]
    exact ⟨fun h => h.mono fun c _ u hu => (CV.ren_ok c u).1 hu, fun h => h.mono fun c _ u hu => (CV.ren_ok c u).2 hu⟩
  | av _ => exact Iff.rfl
  | own _ _ => exact Iff.rfl
  | osl _ => exact Iff.rfl
  | oel _ _ _ _ => exact Iff.rfl
  | osx _ _ _ _ => exact Iff.rfl
  | tupR _ _ => exact Iff.rfl
theorem Res.ren_ok {E : Env} {Z : Zone} {ν : Vals} {w : World} {f : Nat → Nat} (x : Res) (v : Value) : (x.ren f).ok E Z ν w v ↔ x.ok E Z (fun r => ν (f r)) w v := by
  cases x with
  | row _ _ _ _ => exact Iff.rfl
  | obj _ _ => exact Iff.rfl
  | cells cs =>
    refine exists_congr fun b => exists_congr fun ty => exists_congr fun arr => and_congr_right fun _ => and_congr_right fun _ => and_congr_right fun _ => and_congr_right fun _ => ?_
    rw [List.length_map]
    refine and_congr_right fun _ => ⟨fun h i s hs => ?_, fun h i s hs => ?_⟩
    · obtain ⟨u, hu, hk⟩ := h i (s.ren f) (by simp [hs])
      exact ⟨u, hu, (SV.ren_ok s u).1 hk⟩
    · simp only [List.getElem?_map, Option.map_eq_some_iff] at hs
      obtain ⟨s0, hs0, rfl⟩ := hs
      obtain ⟨u, hu, hk⟩ := h i s0 hs0
      exact ⟨u, hu, (SV.ren_ok s0 u).2 hk⟩

def hpin (O : Own) (ν : Vals) (r : Nat) : Option Value := match Nat.blt r 1000 with | true => none | false => match look O r with | some _ => some (ν r) | none => none
/-- All that is there stays, but for what was handed in; and that stays where it is. -/
def envH (N : Nat) (w : World) (Z : Zone) (O : Own) (ν : Vals) : Env := { N := N, keep := fun k => k < w.heap.size ∧ ¬ ownB O ν k, w0 := w, Z0 := Z, pin := hpin O ν, pinHi := fun r h => by unfold hpin; rw [h] }
def RetH (w : World) (Z : Zone) (ν : Vals) (O : Own) (res : SV) (O' : Own) (e : Ending) (w' : World) : Prop :=
  ∃ u Z' ν', e = .returned u ∧ Base (envH 0 w Z O ν) Z' w' ∧ (∀ r, look O r ≠ none → ν' r = ν r) ∧ OwnOk (envH 0 w Z O ν) O' Z' ν' w' ∧ res.ok Z' ν' w' u
structure CtrH (P : Program) (f : FuncId) (args : List SV) (O : Own) (res : SV) (O' : Own) : Prop where
  enters : Enters P f
  keys : ∀ r, look O r ≠ none → look O' r ≠ none
  calls : ∀ (w : World) (Z : Zone) (ν : Vals) (vs : List Value), (∀ k, Z k → k < w.heap.size) → All2 (fun s v => SV.ok Z ν w s v) args vs → OwnOk (envH 0 w Z O ν) O Z ν w → Calls P f vs.toArray w (RetH w Z ν O res O')

theorem look_ne_mem {α : Type} {O : List (Nat × α)} {r : Nat} (h : look O r ≠ none) : r ∈ O.map (·.1) := by
  obtain ⟨x, hx⟩ := Option.ne_none_iff_exists'.1 h
  exact List.mem_map.2 ⟨_, look_mem hx, rfl⟩
section
variable {P : Program} {fn : Func} {w : World} {Z : Zone} {ν : Vals} {N : Nat} {T : Tab} {O O' : Own} {res : SV}
end
end Go.Vc
namespace Go.Vc
open Go Go.RowKit
theorem look_app2 {α : Type} : ∀ {A B : List (Nat × α)} {k : Nat}, look (A ++ B) k = match look A k with | some y => some y | none => look B k
  | [], _, _ => rfl
  | (r, x) :: A, B, k => by
    by_cases hk : r = k
    · subst hk; rw [List.cons_append, look_cons_eq, look_cons_eq]
    · rw [List.cons_append, look_cons_ne _ _ hk, look_cons_ne _ _ hk]; exact look_app2

/-- The handed things, as the caller names them. -/
def OwnSub (l : List (Nat × Nat)) (O : Own) : Own → Prop
  | [] => True
  | (r, x) :: O1 => look O (rnm l r) = some (x.ren (rnm l)) ∧ OwnSub l O O1
theorem OwnSub.get {l : List (Nat × Nat)} {O : Own} : ∀ {O1 : Own}, OwnSub l O O1 → ∀ {r x}, look O1 r = some x → look O (rnm l r) = some (x.ren (rnm l))
  | [], _, r, x, h => by simp [look] at h
  | (k, y) :: O1, hs, r, x, h => by
    by_cases hk : k = r
    · subst hk; rw [look_cons_eq] at h; cases h; exact hs.1
    · rw [look_cons_ne _ _ hk] at h; exact hs.2.get h
def nodB : List Nat → Bool
  | [] => true
  | a :: l => l.all (fun b => match Nat.beq a b with | true => false | false => true) && nodB l
theorem nodB_inj {f : Nat → Nat} : ∀ {L : List Nat}, nodB (L.map f) = true → ∀ {x y}, x ∈ L → y ∈ L → f x = f y → x = y
  | [], _, x, _, hx, _, _ => by cases hx
  | a :: L, h, x, y, hx, hy, e => by
    simp only [List.map_cons, nodB, Bool.and_eq_true, List.all_eq_true] at h
    have key : ∀ z ∈ L, f a ≠ f z := fun z hz e => by
      have := h.1 (f z) (List.mem_map.2 ⟨z, hz, rfl⟩)
      rw [e, Nat.beq_refl] at this; cases this
    rcases List.mem_cons.1 hx with hx' | hx'
    · rcases List.mem_cons.1 hy with hy' | hy'
      · rw [hx', hy']
      · rw [hx'] at e; exact absurd e (key y hy')
    · rcases List.mem_cons.1 hy with hy' | hy'
      · rw [hy'] at e; exact absurd e.symm (key x hx')
      · exact nodB_inj h.2 hx' hy' e
section
variable {P : Program} {E : Env} {T : Tab} {O Oc O' : Own} {l : List (Nat × Nat)} {Z Z' : Zone} {ν ν' : Vals} {a : Act} {w w' : World} {res : SV} {d : Option Tmp} {ty : TypeId} {pos : String} {af : Array Edge} {g : Option (Nat × Bool)}
theorem OwnSub.own (h : SatZ E Z ν T O a w) (hsub : OwnSub l O Oc) (hinj : nodB ((Oc.map (·.1)).map (rnm l)) = true) : OwnOk (envH 0 w Z Oc (fun r => ν (rnm l r))) Oc Z (fun r => ν (rnm l r)) w := by
  refine ⟨fun r x hx => ?_, fun r r' hne h1 h2 b hb1 => ?_⟩
  · have hx' := h.own.each _ _ (hsub.get hx)
    rw [Res.ren_ok] at hx'
    refine Res.ok_env hx' (fun _ _ h => h) (fun b hbb => ⟨(Res.blk_lt hx' hbb).2.1, fun hk => hk.2 ⟨r, by rw [hx]; simp, hbb⟩, rfl⟩)
  · obtain ⟨x, hx⟩ := Option.ne_none_iff_exists'.1 h1
    obtain ⟨x', hx'⟩ := Option.ne_none_iff_exists'.1 h2
    exact h.own.apart _ _ (fun e => hne (nodB_inj hinj (look_ne_mem h1) (look_ne_mem h2) e)) (by rw [hsub.get hx]; simp) (by rw [hsub.get hx']; simp) b hb1
end
end Go.Vc
namespace Go.Vc
open Go Go.RowKit
section
variable {P : Program} {E : Env} {T : Tab} {O Oc O' : Own} {d : Option Tmp} {ty : TypeId} {pos : String} {af : Array Edge} {g : Option (Nat × Bool)}
theorem All2.app {α β : Type} {R : α → β → Prop} : ∀ {l : List α} {m : List β} {l' : List α} {m' : List β}, All2 R l m → All2 R l' m' → All2 R (l ++ l') (m ++ m')
  | [], [], _, _, _, h => h
  | _ :: _, _ :: _, _, _, h, h' => ⟨h.1, All2.app h.2 h'⟩
  | [], _ :: _, _, _, h, _ => h.elim
  | _ :: _, [], _, _, h, _ => h.elim
end
end Go.Vc
namespace Go.Vc
open Go Go.RowKit
section
variable {P : Program} {E : Env} {T T' : Tab} {O O' : Own} {o : Oper} {d : Option Tmp} {ty : TypeId} {pos : String} {af : Array Edge} {g : Option (Nat × Bool)}
/-- Some rows are told otherwise. -/
theorem ent_upd {upd : Own} (h : EntO O upd) : Ent T O T (upd ++ O) := by
  rintro E a w ⟨Z, ν, hs⟩
  have key : ∀ (upd : Own), EntO O upd → ∀ k y, look upd k = some y → ∃ x, look O k = some x ∧ RLe x y := by
    intro upd
    induction upd with
    | nil => intro _ k y hy; simp [look] at hy
    | cons p U ih =>
      obtain ⟨q, x⟩ := p
      intro h k y hy
      by_cases hk : q = k
      · subst hk; rw [look_cons_eq] at hy; cases hy; exact h.1
      · rw [look_cons_ne _ _ hk] at hy; exact ih h.2 k y hy
  have hh : ∀ k, look (upd ++ O) k ≠ none → look O k ≠ none := by
    intro k hk
    rw [look_app2] at hk
    cases hl : look upd k with
    | none => rw [hl] at hk; exact hk
    | some y => obtain ⟨x, hx, _⟩ := key upd h k y hl; rw [hx]; simp
  refine ⟨Z, ν, hs.defers, hs.tsize, hs.cst, hs.pin, hs.base, ⟨fun k y hy => ?_, fun k k' hne q1 q2 => hs.own.apart k k' hne (hh k q1) (hh k' q2)⟩, hs.slot⟩
  rw [look_app2] at hy
  cases hl : look upd k with
  | none => rw [hl] at hy; exact hs.own.each k y hy
  | some z =>
    rw [hl] at hy; cases hy
    obtain ⟨x, hx, hr⟩ := key upd h k _ hl
    exact hr.ok (hs.own.each k x hx)
theorem VStep.pre {s : SV} {O1 : Own} (h : Ent T O T O1) (v : VStep P E o T O1 T' O' s) : VStep P E o T O T' O' s := by
  refine ⟨v.nd, fun Z ν a w hs => ?_⟩
  obtain ⟨Z1, ν1, h1⟩ := h E a w ⟨Z, ν, hs⟩
  exact v.run Z1 ν1 a w h1
end
end Go.Vc
namespace Go.Vc
open Go Go.RowKit
section
variable {P : Program} {E : Env} {T T' : Tab} {O O' : Own} {o : Oper} {d : Option Tmp} {ty : TypeId} {pos : String} {af : Array Edge} {g : Option (Nat × Bool)}
/-- The empty slice, built. -/
theorem v_bs0 {t e sz : Nat} (f : Nat → Nat → AV) (r : Nat) [ht : SlTy P t e sz] (hb : ∀ w, (Instr.buildSlice t 0 #[]).run P w = .ok (.slice (some ⟨w.heap.size, 0, none⟩) 0 0) (w.alloc (.cells #[] e))) (hp : Nat.blt r 1000 = true := by first | rfl | assumption) :
    VStep P E ⟨d, .buildSlice t 0 #[], ty, pos, af, g⟩ T O (T.kill r) ((r, .row e sz 0 f) :: Own.kill r O) (.osl r) := by
  refine ⟨by intro c; simp, fun Z ν a w hs => ?_⟩
  refine wp_value (w' := w.alloc (.cells #[] e)) (v := .slice (some ⟨w.heap.size, 0, none⟩) 0 0) (by simp [execOp, hb])
    ⟨_, Z, updV ν r (.slice (some ⟨w.heap.size, 0, none⟩) 0 0), rfl, hs.newRes r hp _ _ _ rfl (fun _ hk hnz => .inr ⟨w.heap.size, 0, _, rfl, hk, hnz, heap_alloc_new _ _, Nat.le_refl _, Nat.zero_le _, by simp, fun i hi => by omega⟩), (if_pos rfl : updV ν r _ r = _).symm⟩
theorem f_bs0 {t e sz : Nat} (f : Nat → Nat → AV) (r : Nat) [ht : SlTy P t e sz] (hb : ∀ w, (Instr.buildSlice t 0 #[]).run P w = .ok (.slice (some ⟨w.heap.size, 0, none⟩) 0 0) (w.alloc (.cells #[] e))) (hf : freshB r T O = true) (hp : Nat.blt r 1000 = true := by first | rfl | assumption) :
    VStep P E ⟨d, .buildSlice t 0 #[], ty, pos, af, g⟩ T O T ((r, .row e sz 0 f) :: O) (.osl r) := (v_bs0 f r hb hp).fresh hf
/-- A slice that is not empty is not nil. -/
theorem g_eqnil_sl {t t' : TypeId} {x y : Operand} {n sz : Nat} {row : Nat → Nat → AV} (hg : ∀ (a : Addr) (n c : Nat) (w : World), (eqGuard .eql t x y (.slice (some a) n c) (.slice none 0 0)).run P w = .ok () w) (hv : ∀ (a : Addr) (n c : Nat) (w : World), (binOp .eql t (.slice (some a) n c) (.slice none 0 0)).run P w = .ok (.bool false) w) (hx : T.ev x = .av (.sl n sz row)) (hy : T.ev y = .av (.val (.slice none 0 0))) (hn : 0 < n) :
    GV P E ⟨d, .binOp .eql t x y t', ty, pos, af, g⟩ T O (.av (.val (.bool false))) [] [] :=
  gv_pure [] fun Z ν a w h _ => by
    obtain ⟨p, c, e1, _, _, e4⟩ := sl_ok hx (h x (by simp [Op.operands]))
    obtain ⟨b, o', rfl, _⟩ := e4 hn
    have e2 := val_ok hy (h y (by simp [Op.operands]))
    exact ⟨.bool false, run_binOp e1 e2 (hg _ _ _ _) (hv _ _ _ _), rfl⟩

end
end Go.Vc
/-! Maps whose keys are numbers: read-only ones, the call's own, loops over them. -/
namespace Go.Vc
open Go Go.RowKit Go.MapKept
open Go.WideElems (Fit rd rg pl rd_key rd_val rg_of rd_mk rd_stay other_key)
open Go.Maps (Keyed int_keyed keyOf_int_mk fit_look)
open Go.ChangeMaps (setBlock heap_setBlock_same modify_eq_set)

class MapTy (P : Program) (t : TypeId) (k e : outParam TypeId) : Prop where
  und : P.underlying t = some (.map k e)
  key : P.underlying k = some (.int .i64)
def R0 : Value → Option (DataW Unit × List MemPlace) := fun _ => some (.nil, [])
structure IMap (P : Program) (k : TypeId) (es : Array MapEntry) (clock : Nat) (ks : List Int) (n : Nat) : Prop where
  fit : Fit P k R0 es clock
  sz : es.size ≤ n
  key : ∀ x ∈ es.toList, ∃ a ∈ ks, x.key = .int .i64 a
  all : ∀ a ∈ ks, ∃ x ∈ es.toList, x.key = .int .i64 a
def insK (a : Int) (ks : List Int) : List Int := if a ∈ ks then ks else ks ++ [a]
theorem mem_insK {a x : Int} {ks : List Int} : x ∈ insK a ks ↔ x = a ∨ x ∈ ks := by
  unfold insK
  split
  · rename_i h
    exact ⟨.inr, fun h2 => h2.elim (fun e => e ▸ h) id⟩
  · simp [or_comm]
theorem IMap.find {P : Program} {t k e : TypeId} {es : Array MapEntry} {clock : Nat} {ks : List Int} {n : Nat} (h : IMap P k es clock ks n) [ht : MapTy P t k e] {z : Value} {w : World} {b : Nat} (hz : (zeroValue e).run P w = .ok z w) (hb : w.heap[b]? = some (.map es clock)) {a : Int} (ha : (Lit.int .i64 a).wf = true) :
    ((Instr.lookup t (.map (some b)) (.int .i64 a) false).run P w = .ok z w ∧ a ∉ ks) ∨ ∃ x ∈ es.toList, x.key = .int .i64 a ∧ a ∈ ks ∧ (Instr.lookup t (.map (some b)) (.int .i64 a) false).run P w = .ok x.val w := by
  rcases fit_look false (int_keyed ht.key) ht.und hz hb h.fit (keyOf_int_mk ht.key ha) with ⟨h1, h2, _⟩ | ⟨x, y, h1, h2, h3, _⟩
  · refine .inl ⟨h1, fun hm => ?_⟩
    obtain ⟨x, hx, hk⟩ := h.all a hm
    exact h2 x hx hk
  · obtain ⟨a', ha', hk⟩ := h.key x h1
    rw [h2] at hk
    cases hk
    exact .inr ⟨x, h1, h2, ha', h3⟩
/-- m[a] = v: the new entries. -/
theorem IMap.store {P : Program} {t k e : TypeId} {es : Array MapEntry} {clock : Nat} {ks : List Int} {n : Nat} (h : IMap P k es clock ks n) [ht : MapTy P t k e] {w : World} {b : Nat} (hb : w.heap[b]? = some (.map es clock)) {a : Int} (ha : (Lit.int .i64 a).wf = true) (hroom : es.size < maxLen) (val : Value) :
    ∃ es' clock', (Instr.mapUpdate t (.map (some b)) (.int .i64 a) val).run P w = .ok () (setBlock w b (.map es' clock')) ∧ IMap P k es' clock' (insK a ks) (n + 1) ∧
      ∀ x' ∈ es'.toList, (x' ∈ es.toList ∧ x'.key ≠ .int .i64 a) ∨ (x'.key = .int .i64 a ∧ x'.val = val) := by
  have K := int_keyed ht.key
  have hkey := keyOf_int_mk ht.key ha
  have F := h.fit
  rcases K.find w hkey es.toList F.keys with ⟨h1, h2⟩ | ⟨j, e0, h1, h2, h3⟩
  · refine ⟨es.push ⟨.int .i64 a, val, clock⟩, clock + 1, ?_, ⟨⟨by simp; omega, stamped_push F.stamped h2, ?_⟩, by simp; exact h.sz, ?_, ?_⟩, ?_⟩
    · simp [Instr.mapUpdate, run_underlying ht.und, MapKept.run_getObj_map hb, K.check w false hkey, h1, MapKept.run_setObj_map _ hb, Result.andThen, setBlock]
    · intro x hx
      simp only [Array.toList_push, List.mem_append, List.mem_singleton] at hx
      rcases hx with hx | rfl
      · exact F.reads x hx
      · exact ⟨_, rd_mk hkey rfl⟩
    · intro x hx
      simp only [Array.toList_push, List.mem_append, List.mem_singleton] at hx
      rcases hx with hx | rfl
      · obtain ⟨c, hc, hk⟩ := h.key x hx
        exact ⟨c, mem_insK.2 (.inr hc), hk⟩
      · exact ⟨a, mem_insK.2 (.inl rfl), rfl⟩
    · intro c hc
      simp only [Array.toList_push, List.mem_append, List.mem_singleton]
      rcases mem_insK.1 hc with rfl | hc
      · exact ⟨_, .inr rfl, rfl⟩
      · obtain ⟨x, hx, hk⟩ := h.all c hc
        exact ⟨x, .inl hx, hk⟩
    · intro x hx
      simp only [Array.toList_push, List.mem_append, List.mem_singleton] at hx
      rcases hx with hx | rfl
      · exact .inl ⟨hx, h2 x hx⟩
      · exact .inr ⟨rfl, rfl⟩
  · have hj : es[j]? = some e0 := by simpa using h2
    have hjl : j < es.toList.length := (List.getElem?_eq_some_iff.1 h2).1
    have hkeyf : ∀ e', es[j]? = some e' → ({ e' with key := .int .i64 a, val := val } : MapEntry).key = e'.key := fun e' he' => by rw [hj] at he'; cases he'; exact h3.symm
    have hlist : (es.modify j (fun e' => { e' with key := .int .i64 a, val := val })).toList = es.toList.set j { e0 with key := .int .i64 a, val := val } := by rw [Array.toList_modify, modify_eq_set _ _ _ _ h2]
    have who : ∀ x ∈ es.toList.set j { e0 with key := .int .i64 a, val := val }, x = { e0 with key := .int .i64 a, val := val } ∨ (x ∈ es.toList ∧ x.key ≠ .int .i64 a) := by
      intro x hx
      obtain ⟨i, hi, ex⟩ := List.getElem_of_mem hx
      rw [List.getElem_set] at ex
      split at ex
      · exact Or.inl ex.symm
      · rename_i hne
        have hi' : i < es.toList.length := by simpa using hi
        refine Or.inr ⟨ex ▸ List.getElem_mem hi', ?_⟩
        rw [← h3]
        exact other_key F h2 (by rw [List.getElem?_eq_getElem hi', ex]) (fun e1 => hne e1.symm)
    have hin : ({ e0 with key := .int .i64 a, val := val } : MapEntry) ∈ es.toList.set j { e0 with key := .int .i64 a, val := val } := List.mem_iff_getElem.2 ⟨j, by simpa using hjl, by simp⟩
    refine ⟨es.modify j (fun e' => { e' with key := .int .i64 a, val := val }), clock, ?_, ⟨⟨by simpa using F.size, stamped_modify F.stamped _ _ (fun _ _ => rfl) (fun e' _ he' => hkeyf e' he'), ?_⟩, by simp; have := h.sz; omega, ?_, ?_⟩, ?_⟩
    · simp [Instr.mapUpdate, run_underlying ht.und, MapKept.run_getObj_map hb, K.check w false hkey, h1, hj, h3, K.stays w hkey, MapKept.run_setObj_map _ hb, Result.andThen, setBlock]
    · intro x hx
      rw [hlist] at hx
      rcases who x hx with rfl | ⟨hx', hne⟩
      · exact ⟨_, rd_mk hkey rfl⟩
      · exact F.reads x hx'
    · intro x hx
      rw [hlist] at hx
      rcases who x hx with rfl | ⟨hx', hne⟩
      · exact ⟨a, mem_insK.2 (.inl rfl), rfl⟩
      · obtain ⟨c, hc, hk⟩ := h.key x hx'
        exact ⟨c, mem_insK.2 (.inr hc), hk⟩
    · intro c hc
      rw [hlist]
      by_cases hca : c = a
      · exact ⟨_, hin, by rw [hca]⟩
      · have hc' : c ∈ ks := (mem_insK.1 hc).resolve_left hca
        obtain ⟨x, hx, hk⟩ := h.all c hc'
        obtain ⟨i, hi, ex⟩ := List.getElem_of_mem hx
        have hij : j ≠ i := fun e => by
          subst e
          have : es.toList[j]? = some x := by rw [List.getElem?_eq_getElem hi, ex]
          rw [h2] at this
          cases this
          rw [h3] at hk
          cases hk
          exact hca rfl
        refine ⟨x, List.mem_iff_getElem.2 ⟨i, by simpa using hi, ?_⟩, hk⟩
        rw [List.getElem_set, if_neg hij]; exact ex
    · intro x hx
      rw [hlist] at hx
      rcases who x hx with rfl | h'
      · exact .inr ⟨rfl, rfl⟩
      · exact .inl h'

section
variable {P : Program} {E : Env} {T T' : Tab} {O O' : Own} {o : Oper} {d : Option Tmp} {ty : TypeId} {pos : String} {af : Array Edge} {g : Option (Nat × Bool)}
end
end Go.Vc
namespace Go.Vc
open Go Go.RowKit
section
variable {P : Program} {E : Env} {T T' : Tab} {O O' : Own} {o : Oper} {d : Option Tmp} {ty : TypeId} {pos : String} {af : Array Edge} {g : Option (Nat × Bool)}
end
end Go.Vc
namespace Go.Vc
open Go Go.RowKit
section
variable {P : Program} {E : Env} {T T' : Tab} {O O' : Own} {o : Oper} {d : Option Tmp} {ty : TypeId} {pos : String} {af : Array Edge} {g : Option (Nat × Bool)}
/-- A struct built of parts of whatever kind. -/
theorem g_build_gen {t : TypeId} {is : List Nat} {xs : List Operand} {τs : List AV} {n : Nat} {f : Nat → AV} (hx : xs.map T.ev = τs.map SV.av) (hl : xs.length = is.length)
    (hb : ∀ (Z : Zone) (w : World) (vs : List Value), All2 (fun τ v => AV.ok Z w τ v) τs vs → ∃ cs : List Value, P.built t (is.zip vs) = some cs.toArray ∧ cs.length = n ∧ ∀ i, i < n → ∃ u, cs[i]? = some u ∧ (f i).ok Z w u) :
    GV P E ⟨d, .build t (is.zip xs).toArray, ty, pos, af, g⟩ T O (.av (.agg n f)) [] [] := by
  refine ⟨fun T' O' hT hO => ⟨by intro c; simp, fun Z ν a w hs => ?_⟩⟩
  have hmem : ∀ x ∈ xs, x ∈ (Op.build t (is.zip xs).toArray).operands.toList := by
    intro x hx
    simp only [Op.operands, List.map_toArray, List.mem_map]
    obtain ⟨i, hi, rfl⟩ := List.getElem_of_mem hx
    refine ⟨(is[i]'(by omega), xs[i]), ?_, rfl⟩
    rw [List.mem_iff_getElem]
    exact ⟨i, by simp; omega, by simp⟩
  have hx' : xs.map T'.ev = τs.map SV.av := by
    rw [← hx]
    exact List.map_congr_left fun x hxm => ev_same (o := ⟨d, .build t (is.zip xs).toArray, ty, pos, af, g⟩) hT (hmem x hxm)
  obtain ⟨cs, h1, h2, h3⟩ := hb Z w _ (evs_ok hs hx')
  have hrun := run_build (P := P) w t (is.zip (xs.map a.eval)).toArray cs.toArray (by simpa using h1)
  have he : (is.zip xs).map (fun p => (p.1, a.eval p.2)) = is.zip (xs.map a.eval) := by
    rw [List.zip_map_right]; rfl
  refine wp_value (w' := w) (v := .agg cs.toArray) ?_ ⟨_, Z, ν, rfl, hs, cs, rfl, h2, h3⟩
  simp only [execOp, List.map_toArray]
  rw [show (List.map (fun (x : Nat × Operand) => match x with | (i, x) => (i, a.eval x)) (is.zip xs)) = is.zip (xs.map a.eval) from he]
  simp [hrun]
/-- A slice built of parts of whatever kind. -/
theorem g_bslice_gen {t e : TypeId} {n sz : Nat} {is : List Nat} {xs : List Operand} {τs : List AV} {row : Nat → Nat → AV} [_ht : SlTy P t e sz] (hx : xs.map T.ev = τs.map SV.av) (hl : xs.length = is.length)
    (hb : ∀ (Z : Zone) (w : World) (vs : List Value), All2 (fun τ v => AV.ok Z w τ v) τs vs → ∃ cs : List Value, (Instr.buildSlice t n (is.zip vs).toArray).run P w = .ok (.slice (some ⟨w.heap.size, 0, none⟩) n n) (w.alloc (.cells cs.toArray e)) ∧ ∀ i, i < n → ∀ j, j < sz → ∃ u, cs[i * sz + j]? = some u ∧ (row i j).ok Z w u) (hm : Nat.ble n maxLen = true) :
    GV P E ⟨d, .buildSlice t n (is.zip xs).toArray, ty, pos, af, g⟩ T O (.av (.sl n sz row)) [] [] := by
  refine ⟨fun T' O' hT _ => ⟨by intro c; simp, fun Z ν a w hs => ?_⟩⟩
  have hx' : xs.map T'.ev = τs.map SV.av := by
    rw [← hx]
    refine List.map_congr_left fun x hxm => ev_same (o := ⟨d, .buildSlice t n (is.zip xs).toArray, ty, pos, af, g⟩) hT ?_
    simp only [Op.operands, List.mem_map, Prod.exists, exists_eq_right]
    obtain ⟨k, hk, rfl⟩ := List.getElem_of_mem hxm
    exact ⟨is[k]'(by omega), List.mem_iff_getElem.2 ⟨k, by simp; omega, by simp⟩⟩
  obtain ⟨cs, hr, hc⟩ := hb Z w _ (evs_ok hs hx')
  have hz : (is.zip xs).map (fun p => (p.1, a.eval p.2)) = is.zip (xs.map a.eval) := by
    rw [List.zip_map_right]; rfl
  refine wp_value (w' := w.alloc (.cells cs.toArray e)) (v := .slice (some ⟨w.heap.size, 0, none⟩) n n) ?_ ⟨_, _, ν, rfl, hs.allocRo _, ⟨some ⟨w.heap.size, 0, none⟩, n, rfl, Nat.le_refl _, Nat.le_of_ble_eq_true hm, fun hn => ⟨w.heap.size, 0, rfl, fun _ => .inr rfl, by simp, fun i hi j hj => ?_⟩⟩⟩
  · simp only [execOp, List.map_toArray]
    rw [show (List.map (fun (x : Nat × Operand) => match x with | (i, x) => (i, a.eval x)) (is.zip xs)) = is.zip (xs.map a.eval) from hz]
    simp [hr]
  · obtain ⟨u, hu, hok⟩ := hc i hi j hj
    refine ⟨u, by rw [World.cell?_alloc_new, Nat.zero_add]; simpa using hu, ?_⟩
    exact AV.ok_mono (fun k hk => .inl hk) (by simp) (fun k _ hk => heap_old w _ hk) _ _ hok
theorem g_box_aggv {t : TypeId} {x : Operand} {n : Nat} {f : Nat → AV} (hx : T.ev x = .av (.agg n f)) : GV P E ⟨d, .box t x, ty, pos, af, g⟩ T O (.av (.ptr n f)) [] [] := by
  refine ⟨fun T' O' hT _ => ⟨by intro c; simp, fun Z ν a w hs => ?_⟩⟩
  have hv := ev_ok hs x
  rw [ev_same (o := ⟨d, .box t x, ty, pos, af, g⟩) hT (by simp [Op.operands]), hx] at hv
  obtain ⟨cs, hv', hl, hc⟩ := hv
  refine wp_value (w' := w.alloc (.cells cs.toArray t)) (v := .pointer (some ⟨w.heap.size, 0, none⟩)) (by simp [execOp, Instr.box, newVar, newRow, hv', Value.cells]) ⟨_, _, ν, rfl, hs.allocRo _, ⟨w.heap.size, 0, rfl, fun _ => .inr rfl, by simp, fun i hi => ?_⟩⟩
  obtain ⟨u, hu, hk⟩ := hc i hi
  exact ⟨u, by rw [World.cell?_alloc_new, Nat.zero_add]; simpa using hu, AV.ok_mono (fun k hk => .inl hk) (by simp) (fun k _ hk => heap_old w _ hk) _ _ hk⟩
theorem g_load_aggv {t : TypeId} {x : Operand} {n k : Nat} {f : Nat → AV} [ht : AggTy P t k] (hx : T.ev x = .av (.ptr n f)) (hn' : Nat.ble k n = true) :
    GV P E ⟨d, .load t x, ty, pos, af, g⟩ T O (.av (.agg k f)) [] [] :=
  gv_pure [] fun Z ν a w h _ => by
    have hn : k ≤ n := Nat.le_of_ble_eq_true hn'
    obtain ⟨b, o, he, _, _, hc⟩ := ptr_ok hx (h x (by simp [Op.operands]))
    have hget : ∀ i, i < k → ∃ u, w.cell? ⟨b, o + i, none⟩ = some u ∧ (f i).ok Z w u := fun i hi => hc i (by omega)
    have hl : ((List.range k).map fun i => (w.cell? ⟨b, o + i, none⟩).getD undef).length = k := by simp
    have hcs : ∀ i u, ((List.range k).map fun i => (w.cell? ⟨b, o + i, none⟩).getD undef)[i]? = some u → w.cell? ⟨b, o + i, none⟩ = some u := by
      intro i u hu
      simp only [List.getElem?_map, Option.map_eq_some_iff] at hu
      obtain ⟨i', hi', rfl⟩ := hu
      obtain ⟨hi, rfl⟩ := List.getElem?_eq_some_iff.1 hi'
      simp only [List.getElem_range, List.length_range] at hi ⊢
      obtain ⟨u, hu, _⟩ := hget i hi
      rw [hu]; rfl
    refine ⟨.agg ((List.range k).map fun i => (w.cell? ⟨b, o + i, none⟩).getD undef).toArray, ?_, _, rfl, hl, fun i hi => ?_⟩
    · have hr := run_loadCells_list (P := P) (w := w) ⟨b, o, none⟩ ((List.range k).map fun i => (w.cell? ⟨b, o + i, none⟩).getD undef) (fun j v hj => by rw [add_addr]; exact hcs j v hj)
      rw [hl] at hr
      simp [execOp, Instr.loadAt, he, Instr.sureAddr, loadVar, ht.agg w, ht.size w, hr]
    · obtain ⟨u, hu, hk⟩ := hget i hi
      exact ⟨u, by simp [hi, hu], hk⟩
theorem g_store_aggv {t : TypeId} {x y : Operand} {r off k : Nat} {cs : List SV} {f : Nat → AV} [ht : SizeTy P t k] (hx : T.ev x = .own r off) (hy : T.ev y = .av (.agg k f)) (h1 : ∀ i, i < k → (f i).one = true) (hr : look O r = some (.cells cs)) (hfit' : Nat.ble (off + k) cs.length = true) :
    GV P E ⟨d, .store t x y, ty, pos, af, g⟩ T O (.av .any) [r] [(r, .cells (spl cs off ((List.range k).map fun i => .av (f i))))] := by
  refine ⟨fun T' O' hT hO => ⟨by intro c; simp, fun Z ν a w hs => ?_⟩⟩
  have ex := ev_ok hs x
  rw [ev_same (o := ⟨d, .store t x y, ty, pos, af, g⟩) hT (by simp [Op.operands]), hx] at ex
  have ey := ev_ok hs y
  rw [ev_same (o := ⟨d, .store t x y, ty, pos, af, g⟩) hT (by simp [Op.operands]), hy] at ey
  obtain ⟨b, hb, hax⟩ := ex
  have hfit : off + k ≤ cs.length := Nat.le_of_ble_eq_true hfit'
  obtain ⟨us, hus, hl, hc⟩ := ey
  have hall : All2 (fun s v => SV.ok Z ν w s v) ((List.range k).map fun i => SV.av (f i)) us := by
    rw [All2.map_iff]
    subst hl
    have key : ∀ (us : List Value) (j : Nat), (∀ i, i < us.length → ∃ u, us[i]? = some u ∧ (f (j + i)).ok Z w u) → All2 (fun a c => SV.ok Z ν w (.av (f a)) c) (List.range' j us.length) us := by
      intro us
      induction us with
      | nil => intro j _; trivial
      | cons u us ih =>
        intro j h
        refine ⟨?_, ih (j + 1) fun i hi => ?_⟩
        · obtain ⟨v, h1, h2⟩ := h 0 (by simp)
          simp only [List.getElem?_cons_zero, Option.some.injEq] at h1
          subst h1; exact h2
        · obtain ⟨v, h1, h2⟩ := h (i + 1) (by simpa using hi)
          rw [List.getElem?_cons_succ] at h1
          exact ⟨v, h1, by rw [show j + 1 + i = j + (i + 1) by omega]; exact h2⟩
    rw [List.range_eq_range']
    exact key us 0 (fun i hi => by rw [Nat.zero_add]; exact hc i hi)
  have hone : ∀ v ∈ us, v.oneCell' = true := by
    intro v hv
    obtain ⟨i, hi, rfl⟩ := List.getElem_of_mem hv
    obtain ⟨u, hu, hk⟩ := hc i (by omega)
    rw [List.getElem?_eq_getElem hi] at hu
    cases hu
    exact AV.one_cells (h1 i (by omega)) hk
  obtain ⟨w', hst, hsat⟩ := hs.storeOwn (P := P) (ss := (List.range k).map fun i => SV.av (f i)) (vs := us) (by rw [hO r (by simp)]; exact hr) hb (by simpa using hfit) hall hone
  unfold Oper.wp
  have hrun : (execOp a.eval ⟨d, .store t x y, ty, pos, af, g⟩).run P w = .ok .skip w' := by
    have : (a.eval y).cells = us.toArray := by rw [hus]; rfl
    simp [execOp, Instr.storeAt, hax, Instr.sureAddr, storeVar, ht.run w, hus, Value.cells, hl, hst]
  rw [hrun]
  exact ⟨Go.undef, Z, ν, rfl, hsat, trivial⟩
end
end Go.Vc
namespace Go.Vc
open Go Go.RowKit
open Go.MapKept
open Go.WideElems (Fit rd rg pl rd_key rd_val rg_of rd_mk rd_stay other_key)
open Go.Maps (Keyed int_keyed keyOf_int_mk fit_look)
open Go.ChangeMaps (setBlock heap_setBlock_same modify_eq_set)
section
variable {P : Program} {E : Env} {T T' : Tab} {O O' : Own} {o : Oper} {d : Option Tmp} {ty : TypeId} {pos : String} {af : Array Edge} {g : Option (Nat × Bool)}
end
end Go.Vc
