/- A part of the proof. -/
import Derived.ChangeKeysEq
import Derived.Laws.StructEq
import Derived.Test.YtfggdokihnopeaaGreatDoorCaa
set_option linter.unusedVariables false
set_option linter.unusedSimpArgs false
section
namespace Go.Vc
open Go Go.RowKit
def q0V (ν : j0N) (r : Nat) (v : Value) : j0N := fun k => if k = r then v else ν k
theorem SV.kill_mentions (r : Nat) (s : SV) : (s.kill r).mentions r = false := by
 unfold SV.kill
 cases h : s.mentions r with
 |true => rfl
 |false => exact h
theorem SV.kill_ok {Z : j0q} {ν : j0N} {w : World} (r : Nat) (v : Value) (s : SV) (u : Value) (h : s.ok Z ν w u) : (s.kill r).ok Z (q0V ν r v) w u := by
 by_cases hm : s.mentions r = true
 ·unfold SV.kill; rw [hm]; trivial
 ·have hm' : s.mentions r = false := by simpa using hm
  have : s.kill r = s := by unfold SV.kill; rw [hm']
  rw [this]
  refine SV.ok_mono (fun _ h => h) (Nat.le_refl _) (fun _ _ _ => rfl) s u (fun k hk => ?_) h
  unfold q0V
  rw [if_neg (fun e => by subst e; rw [hm'] at hk; cases hk)]
theorem SatZ.kill {E : Env} {Z : j0q} {ν : j0N} {T : Tab} {O : Own} {a : Act} {w : World} (h : SatZ E Z ν T O a w) (r : Nat) (v : Value) (hp : Nat.blt r 1000 = true) : SatZ E Z (q0V ν r v) (T.kill r) (Own.kill r O) a w := by
 have hne : ∀ k, k ≠ r → q0V ν r v k = ν k := fun k hk => if_neg hk
 have K0M : ∀ k u, E.pin k = some u → q0V ν r v k = u := fun k u hk => by
  rw [hne k (fun e => by subst e; rw [E.pinHi _ hp] at hk; cases hk)]; exact h.pin k u hk
 refine ⟨h.defers, h.tsize, h.cst, K0M, h.base, ⟨fun k x hx => ?_, fun k k' hkk h1 h2 b hb => ?_⟩, fun d => ?_⟩
 ·rw [Own.look_kill] at hx
  by_cases hk : k = r
  ·simp [hk] at hx
  ·rw [if_neg hk] at hx
   obtain ⟨y, hy, rfl⟩ := Option.map_eq_some_iff.1 hx
   rw [hne k hk]
   have := h.own.each k y hy
   cases y with
   |cells cs =>
    obtain ⟨b, ty, arr, h1, h2, h3, h4, h5, h6⟩ := this
    refine ⟨b, ty, arr, h1, h2, h3, h4, by simpa using h5, fun i s hs => ?_⟩
    simp only [List.getElem?_map, Option.map_eq_some_iff] at hs
    obtain ⟨s0, hs0, rfl⟩ := hs
    obtain ⟨u, hu, hk⟩ := h6 i s0 hs0
    exact ⟨u, hu, SV.kill_ok r v s0 u hk⟩
   |row ty sz n f => exact this
   |obj φ hφ => exact this
   |srow ty sz n cs =>
    rcases this with h1 | ⟨b, cap, arr, h1, h2, h3, h4, h5, h6, h7, h8⟩
    ·exact .inl ⟨h1.1, h1.2.1, by simpa using h1.2.2⟩
    ·refine .inr ⟨b, cap, arr, h1, h2, h3, h4, h5, h6, ⟨h7.1, by simpa using h7.2⟩, fun i s hs => ?_⟩
     simp only [List.getElem?_map, Option.map_eq_some_iff] at hs
     obtain ⟨s0, hs0, rfl⟩ := hs
     obtain ⟨u, hu, hk⟩ := h8 i s0 hs0
     exact ⟨u, hu, SV.kill_ok r v s0 u hk⟩
 ·rw [Own.look_kill] at h1 h2
  have hk : k ≠ r := fun e => by simp [e] at h1
  have hk' : k' ≠ r := fun e => by simp [e] at h2
  rw [if_neg hk] at h1
  rw [if_neg hk'] at h2
  rw [hne k hk] at hb
  rw [hne k' hk']
  exact h.own.apart k k' hkk (by simpa using h1) (by simpa using h2) b hb
 ·rw [Tab.get_kill]
  exact SV.kill_ok r v _ _ (h.slot d)
theorem SatZ.addRes {E : Env} {Z : j0q} {ν : j0N} {T : Tab} {O : Own} {a : Act} {w : World} (h : SatZ E Z ν T O a w) (r : Nat) (x : Res) (hx : x.ok E Z ν w (ν r))
  (hap : ∀ b, j0C (ν r) = some b → ∀ r', r' ≠ r → look O r' ≠ none → j0C (ν r') ≠ some b) : SatZ E Z ν T ((r, x) :: O) a w := by
 have hl : ∀ k, k ≠ r → look ((r, x) :: O) k = look O k := fun k hk => j0d x O (fun e => hk e.symm)
 refine ⟨h.defers, h.tsize, h.cst, h.pin, h.base, ⟨fun k y hy => ?_, fun k k' hkk h1 h2 b hb => ?_⟩, h.slot⟩
 ·by_cases hk : k = r
  ·subst hk; rw [j0l] at hy; cases hy; exact hx
  ·rw [hl k hk] at hy; exact h.own.each k y hy
 ·by_cases hk : k = r
  ·subst hk
   rw [hl k' (fun e => hkk e.symm)] at h2
   exact hap b hb k' (fun e => hkk e.symm) h2
  ·rw [hl k hk] at h1
   by_cases hk' : k' = r
   ·subst hk'
    intro hb'
    exact hap b hb' k hk h1 hb
   ·rw [hl k' hk'] at h2
    exact h.own.apart k k' hkk h1 h2 b hb
theorem Res.blk_lt {E : Env} {Z : j0q} {ν : j0N} {w : World} {v : Value} {x : Res} (h : x.ok E Z ν w v) {b : Nat} (hb : j0C v = some b) : b < w.heap.size ∧ ¬ Z b ∧ ¬ E.keep b := by
 cases x with
 |cells cs =>
  obtain ⟨b', ty, arr, rfl, h2, h3, h4, _⟩ := h
  simp only [j0C, Option.some.injEq] at hb
  subst hb
  exact ⟨(Array.getElem?_eq_some_iff.1 h4).1, h3, h2⟩
 |row ty sz n f =>
  rcases h with ⟨rfl, _⟩ | ⟨b', cap, arr, rfl, h2, h3, h4, _⟩
  ·simp [j0C] at hb
  ·simp only [j0C, Option.some.injEq] at hb
   subst hb
   exact ⟨(Array.getElem?_eq_some_iff.1 h4).1, h3, h2⟩
 |obj φ hφ =>
  obtain ⟨b', ob, h1, h2, h3, h4, h5⟩ := h
  rw [h1] at hb; cases hb
  exact ⟨(Array.getElem?_eq_some_iff.1 h4).1, h3, h2⟩
 |srow ty sz n cs =>
  rcases h with ⟨rfl, _⟩ | ⟨b', cap, arr, rfl, h2, h3, h4, _⟩
  ·simp [j0C] at hb
  ·simp only [j0C, Option.some.injEq] at hb
   subst hb
   exact ⟨(Array.getElem?_eq_some_iff.1 h4).1, h3, h2⟩
theorem SatZ.write {E : Env} {Z : j0q} {ν : j0N} {T : Tab} {O : Own} {a : Act} {w w' : World} (h : SatZ E Z ν T O a w) {r b : Nat} {x x' : Res} (hr : look O r = some x) (hb : j0C (ν r) = some b)
  (hos : w'.os = w.os) (htp : w'.tape = w.tape) (hout : w'.output = w.output) (hs : w'.heap.size = w.heap.size) (hsame : ∀ k, k ≠ b → w'.heap[k]? = w.heap[k]?)
  (hx : (∀ (s : SV) u, s.ok Z ν w u → s.ok Z ν w' u) → x'.ok E Z ν w' (ν r)) : SatZ E Z ν T ((r, x') :: O) a w' := by
 obtain ⟨hblt, hbz, hbk⟩ := Res.blk_lt (h.own.each r x hr) hb
 have hz : ∀ k, Z k → k ≠ b := fun k hk e => by subst e; exact hbz hk
 have hav : ∀ (τ : AV) v, τ.ok Z w v → τ.ok Z w' v := AV.ok_mono (fun _ h => h) zO (fun k hk _ => hsame k (hz k hk))
 have hsv : ∀ (s : SV) v, s.ok Z ν w v → s.ok Z ν w' v := fun s v hk => SV.ok_mono (fun _ h => h) zO (fun k hk _ => hsame k (hz k hk)) s v (fun _ _ => rfl) hk
 have hl : ∀ k, k ≠ r → look ((r, x') :: O) k = look O k := fun k hk => j0d x' O (fun e => hk e.symm)
 refine ⟨h.defers, h.tsize, h.cst, h.pin, ⟨hos.trans h.base.os, htp.trans h.base.tape, hout.trans h.base.output, by rw [hs]; exact h.base.size, h.base.keepLt, fun k hk => ?_, h.base.zok.next (fun _ h => h) (by rw [hs]; exact Nat.le_refl _) (fun k hk _ => hsame k (hz k hk)) (fun k hk => by rw [hs]; exact h.base.zLt k hk), h.base.z0, h.base.zNew⟩,
  ⟨fun k y hy => ?_, fun k k' hkk h1 h2 => ?_⟩, fun d => hsv _ _ (h.slot d)⟩
 ·rw [hsame k (fun e => by subst e; exact hbk hk), h.base.kept k hk]
 ·by_cases hk : k = r
  ·subst hk; rw [j0l] at hy; cases hy; exact hx hsv
  ·rw [hl k hk] at hy
   have := h.own.each k y hy
   have hne : ∀ b', j0C (ν k) = some b' → b' ≠ b := fun b' hb' e => by
    subst e
    exact h.own.apart r k (fun e => hk e.symm) (by rw [hr]; simp) (by rw [hy]; simp) b' hb hb'
   cases y with
   |cells cs =>
    obtain ⟨b', ty, arr, h1, h2, h3, h4, h5, h6⟩ := this
    exact ⟨b', ty, arr, h1, h2, h3, by rw [hsame b' (hne b' (by rw [h1]; rfl))]; exact h4, h5, fun i s hs => let ⟨u, hu, hk⟩ := h6 i s hs; ⟨u, hu, hsv _ _ hk⟩⟩
   |row ty sz n f =>
    rcases this with h1 | ⟨b', cap, arr, h1, h2, h3, h4, h5, h6, h7, h8⟩
    ·exact .inl h1
    ·exact .inr ⟨b', cap, arr, h1, h2, h3, by rw [hsame b' (hne b' (by rw [h1]; rfl))]; exact h4, h5, h6, h7, fun i hi j hj => let ⟨u, hu, hk⟩ := h8 i hi j hj; ⟨u, hu, hav _ _ hk⟩⟩
   |obj φ hφ =>
    obtain ⟨b', ob, h1, h2, h3, h4, h5⟩ := this
    exact ⟨b', ob, h1, h2, h3, by rw [hsame b' (hne b' h1)]; exact h4, hφ _ _ w _ _ _ (fun _ h => h) (by omega) (fun k hk _ => hsame k (hz k hk)) h5⟩
   |srow ty sz n cs =>
    rcases this with h1 | ⟨b', cap, arr, h1, h2, h3, h4, h5, h6, h7, h8⟩
    ·exact .inl h1
    ·exact .inr ⟨b', cap, arr, h1, h2, h3, by rw [hsame b' (hne b' (by rw [h1]; rfl))]; exact h4, h5, h6, h7, fun i s hs => let ⟨u, hu, hk⟩ := h8 i s hs; ⟨u, hu, hsv _ _ hk⟩⟩
 ·have e1 : look O k ≠ none := by
   by_cases hk : k = r
   ·subst hk; rw [hr]; simp
   ·rw [← hl k hk]; exact h1
  have e2 : look O k' ≠ none := by
   by_cases hk : k' = r
   ·subst hk; rw [hr]; simp
   ·rw [← hl k' hk]; exact h2
  exact h.own.apart k k' hkk e1 e2
section
variable {P : Program} {E : Env} {T : Tab} {O : Own} {o : Oper} {d : Option Tmp} {ty : TypeId} {pos : String} {af : Array Edge} {g : Option (Nat × Bool)}
class ZeroTy (P : Program) (t : TypeId) (zs : outParam (List Value)) : Prop where
 zero : ∃ z, (∀ w, (zeroValue t).run P w = .ok z w) ∧ z.cells = zs.toArray
theorem SatZ.newRes {Z : j0q} {ν : j0N} {a : Act} {w : World} (h : SatZ E Z ν T O a w) (r : Nat) (hp : Nat.blt r 1000 = true) (ob : Obj) (v : Value) (x : Res) (hv : j0C v = some w.heap.size)
  (hx : (∀ (s : SV) u, s.mentions r = false → s.ok Z ν w u → s.ok Z (q0V ν r v) (w.alloc ob) u) → ¬ E.keep w.heap.size → ¬ Z w.heap.size → x.ok E Z (q0V ν r v) (w.alloc ob) v) :
  SatZ E Z (q0V ν r v) (T.kill r) ((r, x) :: Own.kill r O) a (w.alloc ob) := by
 have hnk : ¬ E.keep w.heap.size := fun hk => by have := h.base.keepLt _ hk; have := h.base.size; omega
 have hnz : ¬ Z w.heap.size := fun hk => by have := h.base.zLt _ hk; omega
 have h1 := (h.kill r v hp).ext (w' := w.alloc ob) (Z' := Z) rfl rfl rfl (by simp) (fun k hk => w0b w ob hk) (fun _ h => h) (fun _ h => .inl h) (fun k hk => by have := h.base.zLt k hk; simp; omega)
 have hr : q0V ν r v r = v := if_pos rfl
 refine h1.addRes r x ?_ ?_
 ·rw [hr]
  refine hx (fun s u hm hs => ?_) hnk hnz
  refine SV.ok_mono (w := w) (w' := w.alloc ob) (fun _ h => h) (by simp) (fun k _ hk => w0b w ob hk) s u (fun k hk => ?_) hs
  unfold q0V
  rw [if_neg (fun e => by subst e; rw [hm] at hk; cases hk)]
 ·intro b hb r' hne hr'
  rw [hr, hv] at hb
  cases hb
  intro hb'
  have h2 : look (Own.kill r O) r' ≠ none := hr'
  rw [Own.look_kill, if_neg hne] at h2
  cases hl : look O r' with
  |none => rw [hl] at h2; simp at h2
  |some y =>
   have hu : q0V ν r v r' = ν r' := if_neg hne
   rw [hu] at hb'
   have := (Res.blk_lt (h.own.each r' y hl) hb').1
   omega
theorem w1b {t : TypeId} {zs : List Value} (r : Nat) [hz : ZeroTy P t zs] (hp : Nat.blt r 1000 = true := by first | rfl | assumption) : VStep P E ⟨d, .alloc t, ty, pos, af, g⟩ T O (T.kill r) ((r, .cells (zs.map fun z => .av (.val z))) :: Own.kill r O) (.own r 0) := by
 refine ⟨by intro c; simp, fun Z ν a w hs => ?_⟩
 obtain ⟨z, hz, hc⟩ := hz.zero
 refine j0B (w' := w.alloc (.cells zs.toArray t)) (v := .pointer (some ⟨w.heap.size, 0, none⟩)) (by simp [execOp, Instr.alloc, hz, newVar, newRow, hc]) ?_
 refine ⟨_, Z, q0V ν r (.pointer (some ⟨w.heap.size, 0, none⟩)), rfl, hs.newRes r hp _ _ _ rfl (fun _ hk hnz => ?_), w.heap.size, by simp [q0V], rfl⟩
 refine ⟨w.heap.size, t, zs.toArray, rfl, hk, hnz, heap_alloc_new _ _, by simp, fun i s hs => ?_⟩
 simp only [List.getElem?_map, Option.map_eq_some_iff] at hs
 obtain ⟨u, hu, rfl⟩ := hs
 exact ⟨u, by simpa using hu, rfl⟩
def q0Q (r : Nat) (T : Tab) (O : Own) : Bool := T.all (fun p => !p.2.mentions r) && O.all (fun p => !Nat.beq p.1 r && match p.2 with | .cells cs => cs.all (fun s => !s.mentions r) | .row .. => true | .obj .. => true | .srow _ _ _ cs => cs.all (fun s => !s.mentions r))
theorem SV.kill_id {r : Nat} {s : SV} (h : s.mentions r = false) : s.kill r = s := by unfold SV.kill; rw [h]
theorem w0m {r : Nat} {T : Tab} {O : Own} (h : q0Q r T O = true) : (∀ d, (T.kill r).get d = T.get d) ∧ ∀ k, look (Own.kill r O) k = look O k := by
 simp only [q0Q, Bool.and_eq_true, List.all_eq_true] at h
 refine ⟨fun d => ?_, fun k => ?_⟩
 ·rw [Tab.get_kill]
  refine SV.kill_id ?_
  unfold Tab.get
  cases hl : look T d with
  |none => rfl
  |some s => have := h.1 _ (q0K hl); simpa using this
 ·rw [Own.look_kill]
  cases hl : look O k with
  |none => simp
  |some x =>
   have := h.2 _ (q0K hl)
   have this := this
   have hne : k ≠ r := fun e => by subst e; simp at this
   rw [if_neg hne]
   cases x with
   |row ty sz n f => rfl
   |obj φ hφ => rfl
   |cells cs =>
    have h2 := this.2
    simp only [List.all_eq_true] at h2
    simp only [Option.map_some, Res.kill, Option.some.injEq, Res.cells.injEq]
    refine (List.map_congr_left (g := id) fun s hs => SV.kill_id (by simpa using h2 s hs)).trans (List.map_id _)
   |srow ty sz n cs =>
    have h2 := this.2
    simp only [List.all_eq_true] at h2
    simp only [Option.map_some, Res.kill, Option.some.injEq, Res.srow.injEq, true_and]
    exact (List.map_congr_left (g := id) fun s hs => SV.kill_id (by simpa using h2 s hs)).trans (List.map_id _)
theorem VStep.fresh {r : Nat} {x : Res} {s : SV} (h : VStep P E o T O (T.kill r) ((r, x) :: Own.kill r O) s) (hf : q0Q r T O = true) : VStep P E o T O T ((r, x) :: O) s := by
 refine ⟨h.nd, fun Z ν a w hs => ?_⟩
 refine Oper.wp_mono ?_ (h.run Z ν a w hs)
 rintro a' w' ⟨v, Z', ν', h1, h2, h3⟩
 obtain ⟨f1, f2⟩ := w0m hf
 have hO : ∀ k, look ((r, x) :: O) k = look ((r, x) :: Own.kill r O) k := fun k => by
  by_cases hk : r = k
  ·subst hk; rw [j0l, j0l]
  ·rw [j0d _ _ hk, j0d _ _ hk, f2]
 refine ⟨v, Z', ν', h1, ⟨h2.defers, h2.tsize, h2.cst, h2.pin, h2.base, ⟨fun k y hy => h2.own.each k y (by rw [← hO]; exact hy), fun k k' hne e1 e2 => h2.own.apart k k' hne (by rw [← hO]; exact e1) (by rw [← hO]; exact e2)⟩, fun d => ?_⟩, h3⟩
 rw [← f1]; exact h2.slot d
theorem Y0b {r : Nat} {T : Tab} {O : Own} (h : Y0R r T O) : (∀ d, (T.kill r).get d = T.get d) ∧ ∀ k, look (Own.kill r O) k = look O k := by
 refine ⟨fun d => ?_, fun k => ?_⟩
 ·rw [Tab.get_kill]
  refine SV.kill_id ?_
  unfold Tab.get
  cases hl : look T d with
  |none => rfl
  |some s => exact h.1 d s hl
 ·rw [Own.look_kill]
  cases hl : look O k with
  |none => simp
  |some x =>
   obtain ⟨hne, h2⟩ := h.2 k x hl
   rw [if_neg hne]
   cases x with
   |row ty sz n f => rfl
   |obj φ hφ => rfl
   |cells cs =>
    simp only [Res.fresh, List.all_eq_true] at h2
    simp only [Option.map_some, Res.kill, Option.some.injEq, Res.cells.injEq]
    refine (List.map_congr_left (g := id) fun s hs => SV.kill_id (by simpa using h2 s hs)).trans (List.map_id _)
   |srow ty sz n cs =>
    simp only [Res.fresh, List.all_eq_true] at h2
    simp only [Option.map_some, Res.kill, Option.some.injEq, Res.srow.injEq, true_and]
    exact (List.map_congr_left (g := id) fun s hs => SV.kill_id (by simpa using h2 s hs)).trans (List.map_id _)
theorem VStep.freshP {r : Nat} {x : Res} {s : SV} (h : VStep P E o T O (T.kill r) ((r, x) :: Own.kill r O) s) (hf : Y0R r T O) : VStep P E o T O T ((r, x) :: O) s := by
 refine ⟨h.nd, fun Z ν a w hs => ?_⟩
 refine Oper.wp_mono ?_ (h.run Z ν a w hs)
 rintro a' w' ⟨v, Z', ν', h1, h2, h3⟩
 obtain ⟨f1, f2⟩ := Y0b hf
 have hO : ∀ k, look ((r, x) :: O) k = look ((r, x) :: Own.kill r O) k := fun k => by
  by_cases hk : r = k
  ·subst hk; rw [j0l, j0l]
  ·rw [j0d _ _ hk, j0d _ _ hk, f2]
 refine ⟨v, Z', ν', h1, ⟨h2.defers, h2.tsize, h2.cst, h2.pin, h2.base, ⟨fun k y hy => h2.own.each k y (by rw [← hO]; exact hy), fun k k' hne e1 e2 => h2.own.apart k k' hne (by rw [← hO]; exact e1) (by rw [← hO]; exact e2)⟩, fun d => ?_⟩, h3⟩
 rw [← f1]; exact h2.slot d
theorem j0K {t : TypeId} {zs : List Value} (r : Nat) [hz : ZeroTy P t zs] (hp : Nat.blt r 1000 = true := by first | rfl | assumption) : GA P E ⟨d, .alloc t, ty, pos, af, g⟩ T O (.own r 0) [] r (.cells (zs.map fun z => .av (.val z))) :=
 ⟨fun T' O' _ _ hf => (w1b r hp).freshP hf, by intro c; simp⟩
theorem j0X {t : TypeId} {zs : List Value} (r : Nat) [hz : ZeroTy P t zs] (hf : q0Q r T O = true) (hp : Nat.blt r 1000 = true := by first | rfl | assumption) : VStep P E ⟨d, .alloc t, ty, pos, af, g⟩ T O T ((r, .cells (zs.map fun z => .av (.val z))) :: O) (.own r 0) :=
 (w1b r hp).fresh hf
def SV.one : SV → Bool
 |.av τ => τ.one
 |.tupR _ _ => false
 |.agg _ => false
 |.tupC _ => false
 |.fnC _ _ => false
 |_ => true
theorem SV.one_cells {s : SV} {Z : j0q} {ν : j0N} {w : World} {v : Value} (h : s.one = true) (hk : s.ok Z ν w v) : v.oneCell' = true ∨ ∃ r, s = .osl r := by
 cases s with
 |av τ => exact .inl (AV.one_cells h hk)
 |own r off => obtain ⟨_, _, rfl⟩ := hk; exact .inl rfl
 |osl r => exact .inr ⟨r, rfl⟩
 |oel r sz i j => obtain ⟨_, _, _, _, rfl⟩ := hk; exact .inl rfl
 |osx r sz lo len => obtain ⟨_, _, _, _, _, rfl, _⟩ := hk; exact .inl rfl
 |clo k cs => obtain ⟨_, rfl, _⟩ := hk; exact .inl rfl
 |tupR r ρs => simp [SV.one] at h
 |agg cs => simp [SV.one] at h
 |tupC cs => simp [SV.one] at h
 |fnC k0 cs => simp [SV.one] at h
 |ocs r off len => obtain ⟨_, _, _, rfl⟩ := hk; exact .inl rfl
class SizeTy (P : Program) (t : TypeId) (n : outParam Nat) : Prop where
 run : ∀ w, (sizeOf t).run P w = .ok n w
def spl (cs : List SV) (off : Nat) (ss : List SV) : List SV := cs.take off ++ ss ++ cs.drop (off + ss.length)
theorem SatZ.storeOwn {Z : j0q} {ν : j0N} {a : Act} {w : World} {r off b : Nat} {cs ss : List SV} {vs : List Value} (h : SatZ E Z ν T O a w) (hr : look O r = some (.cells cs)) (hb : ν r = .pointer (some ⟨b, 0, none⟩)) (hfit : off + ss.length ≤ cs.length)
  (hvs : All2 (fun s v => SV.ok Z ν w s v) ss vs) (h1 : ∀ v ∈ vs, v.oneCell' = true) : ∃ w', (storeCells ⟨b, off, none⟩ vs).run P w = .ok () w' ∧ SatZ E Z ν T ((r, .cells (spl cs off ss)) :: O) a w' := by
 have hx := h.own.each r _ hr
 obtain ⟨b', ty', arr, e1, e2, e3, e4, e5, e6⟩ := hx
 rw [hb] at e1
 simp only [Value.pointer.injEq, Option.some.injEq, Addr.mk.injEq, and_true] at e1
 subst e1
 have hlen := hvs.len
 have hst := run_storeCells_at P b off ty' vs 0 arr w e4 zO h1
 simp only [Nat.add_zero] at hst
 refine ⟨_, hst, ?_⟩
 refine h.write hr (b := b) (by rw [hb]; rfl) rfl rfl rfl (by simp) (fun k hk => setRow_other w b k _ hk) (fun hsv => ?_)
 refine ⟨b, ty', _, hb, e2, e3, setRow_heap w b arr _ ty' _ e4, ?_, fun i s hs => ?_⟩
 ·simp [spl]; omega
 ·unfold spl at hs
  rw [List.append_assoc] at hs
  suffices hsu : ∃ u, (arr.toList.take off ++ (vs ++ arr.toList.drop (off + vs.length)))[i]? = some u ∧ s.ok Z ν w u by
   obtain ⟨u, hu, hk⟩ := hsu
   exact ⟨u, by simpa using hu, hsv _ _ hk⟩
  by_cases h1 : i < off
  ·rw [List.getElem?_append_left (by simp; omega)] at hs
   rw [List.getElem?_append_left (by simp; omega)]
   rw [List.getElem?_take_of_lt h1] at hs ⊢
   obtain ⟨u, hu, hk⟩ := e6 i s hs
   exact ⟨u, by simpa using hu, hk⟩
  ·rw [List.getElem?_append_right (by simp; omega)] at hs
   rw [List.getElem?_append_right (by simp; omega)]
   have hmin : (cs.take off).length = off := by simp; omega
   have hmin' : (arr.toList.take off).length = off := by simp; omega
   rw [hmin] at hs
   rw [hmin']
   by_cases h2 : i - off < ss.length
   ·rw [List.getElem?_append_left h2] at hs
    rw [List.getElem?_append_left (by omega)]
    obtain ⟨u, hu, hk⟩ := hvs.get _ _ hs
    exact ⟨u, hu, hk⟩
   ·rw [List.getElem?_append_right (by omega)] at hs
    rw [List.getElem?_append_right (by omega)]
    rw [List.getElem?_drop] at hs ⊢
    have hi : off + ss.length + (i - off - ss.length) = i := by omega
    have hi' : off + vs.length + (i - off - vs.length) = i := by omega
    rw [hi] at hs
    rw [hi']
    obtain ⟨u, hu, hk⟩ := e6 i s hs
    exact ⟨u, by simpa using hu, hk⟩
theorem z0u {Z : j0q} {ν : j0N} {w : World} {T : Tab} {x : Operand} {a : Act} {r off : Nat} (hx : T.ev x = .own r off) (h : (T.ev x).ok Z ν w (a.eval x)) : ∃ b, ν r = .pointer (some ⟨b, 0, none⟩) ∧ a.eval x = .pointer (some ⟨b, off, none⟩) := by
 rw [hx] at h; exact h
theorem w0F {t : TypeId} {x y : Operand} {r off : Nat} {cs : List SV} {s : SV} [ht : SizeTy P t 1] (hx : T.ev x = .own r off) (hy : T.ev y = s) (h1 : s.one = true) (hr : look O r = some (.cells cs)) (hfit' : Nat.ble (off + 1) cs.length = true) (hns : ∀ k, s ≠ .osl k) :
  GV P E ⟨d, .store t x y, ty, pos, af, g⟩ T O (.av .any) [r] [(r, .cells (spl cs off [s]))] := by
 refine ⟨fun T' O' hT hO => ⟨by intro c; simp, fun Z ν a w hs => ?_⟩⟩
 have hfit : off + 1 ≤ cs.length := Nat.le_of_ble_eq_true hfit'
 have ex := j0G hs x
 rw [j0r (o := ⟨d, .store t x y, ty, pos, af, g⟩) hT (by simp [Op.operands]), hx] at ex
 have ey := j0G hs y
 rw [j0r (o := ⟨d, .store t x y, ty, pos, af, g⟩) hT (by simp [Op.operands]), hy] at ey
 obtain ⟨b, hb, hax⟩ := ex
 have hone : (a.eval y).oneCell' = true := by
  rcases SV.one_cells h1 ey with h | ⟨k, h⟩
  ·exact h
  ·exact absurd h (hns k)
 obtain ⟨w', hst, hsat⟩ := hs.storeOwn (P := P) (ss := [s]) (vs := [a.eval y]) (by rw [hO r (by simp)]; exact hr) hb hfit ⟨ey, trivial⟩ (by simpa using hone)
 unfold Oper.wp
 have hrun : (execOp a.eval ⟨d, .store t x y, ty, pos, af, g⟩).run P w = .ok .skip w' := by
  simp [execOp, Instr.storeAt, hax, Instr.sureAddr, storeVar, ht.run w, cells_one hone, hst]
 rw [hrun]
 exact ⟨Go.undef, Z, ν, rfl, hsat, trivial⟩
theorem q0x {t : TypeId} {x y : Operand} {r off k : Nat} {cs : List SV} {us : List Value} [ht : SizeTy P t k] (hx : T.ev x = .own r off) (hy : T.ev y = .av (.val (.agg us.toArray))) (hk : us.length = k) (h1 : us.all Value.oneCell' = true) (hr : look O r = some (.cells cs)) (hfit' : Nat.ble (off + us.length) cs.length = true) :
  GV P E ⟨d, .store t x y, ty, pos, af, g⟩ T O (.av .any) [r] [(r, .cells (spl cs off (us.map fun u => .av (.val u))))] := by
 refine ⟨fun T' O' hT hO => ⟨by intro c; simp, fun Z ν a w hs => ?_⟩⟩
 have ex := j0G hs x
 rw [j0r (o := ⟨d, .store t x y, ty, pos, af, g⟩) hT (by simp [Op.operands]), hx] at ex
 have ey := j0G hs y
 rw [j0r (o := ⟨d, .store t x y, ty, pos, af, g⟩) hT (by simp [Op.operands]), hy] at ey
 obtain ⟨b, hb, hax⟩ := ex
 subst hk
 have hfit : off + us.length ≤ cs.length := Nat.le_of_ble_eq_true hfit'
 have ey' : a.eval y = .agg us.toArray := ey
 have hall : ∀ (us : List Value), All2 (fun s v => SV.ok Z ν w s v) (us.map fun u => .av (.val u)) us := by
  intro us
  induction us with
  |nil => trivial
  |cons u us ih => exact ⟨rfl, ih⟩
 obtain ⟨w', hst, hsat⟩ := hs.storeOwn (P := P) (ss := us.map fun u => .av (.val u)) (vs := us) (by rw [hO r (by simp)]; exact hr) hb (by simpa using hfit) (hall us) (by simpa using h1)
 unfold Oper.wp
 have hrun : (execOp a.eval ⟨d, .store t x y, ty, pos, af, g⟩).run P w = .ok .skip w' := by
  simp [execOp, Instr.storeAt, hax, Instr.sureAddr, storeVar, ht.run w, ey', Value.cells, hst]
 rw [hrun]
 exact ⟨Go.undef, Z, ν, rfl, hsat, trivial⟩
theorem y0x {Z : j0q} {ν : j0N} {w : World} {r b off : Nat} {cs : List SV} {s : SV} (hx : Res.ok E Z ν w (ν r) (.cells cs)) (hb : ν r = .pointer (some ⟨b, 0, none⟩)) (hs : cs[off]? = some s) : ∃ u, w.cell? ⟨b, off, none⟩ = some u ∧ s.ok Z ν w u := by
 obtain ⟨b', ty', arr, e1, e2, e3, e4, e5, e6⟩ := hx
 rw [hb] at e1
 simp only [Value.pointer.injEq, Option.some.injEq, Addr.mk.injEq, and_true] at e1
 subst e1
 obtain ⟨u, hu, hk⟩ := e6 off s hs
 exact ⟨u, by rw [cell_of_row w b off arr ty' _ e4]; exact hu, hk⟩
theorem j0u {t : TypeId} {x : Operand} {r off : Nat} {cs : List SV} {s : SV} [ht : CellTy P t] (hx : T.ev x = .own r off) (hr : look O r = some (.cells cs)) (hc : cs[off]? = some s) :
  GV P E ⟨d, .load t x, ty, pos, af, g⟩ T O s [r] [] :=
 j0p [r] fun Z ν a w h hO => by
  obtain ⟨b, hb, hax⟩ := z0u hx (h x (by simp [Op.operands]))
  obtain ⟨u, hu, hk⟩ := y0x (hO r (by simp) _ hr) hb hc
  exact ⟨u, by simp [execOp, Instr.loadAt, hax, Instr.sureAddr, loadVar, ht.run w, hu], hk⟩
theorem j0h {t : TypeId} {x : Operand} {r off k : Nat} {cs : List SV} {us : List Value} [ht : AggTy P t k] (hx : T.ev x = .own r off) (hr : look O r = some (.cells cs)) (hk : us.length = k) (hc : (cs.drop off).take us.length = us.map fun u => .av (.val u)) :
  GV P E ⟨d, .load t x, ty, pos, af, g⟩ T O (.av (.val (.agg us.toArray))) [r] [] :=
 j0p [r] fun Z ν a w h hO => by
  subst hk
  obtain ⟨b, hb, hax⟩ := z0u hx (h x (by simp [Op.operands]))
  have hcell : ∀ (j : Nat) (v : Value), us[j]? = some v → w.cell? ((⟨b, off, none⟩ : Addr).add j) = some v := by
   intro j v hj
   have hlt := (List.getElem?_eq_some_iff.1 hj).1
   have h1 : cs[off + j]? = some (.av (.val v)) := by
    have : ((cs.drop off).take us.length)[j]? = some (.av (.val v)) := by rw [hc]; simp [hj]
    rw [List.getElem?_take_of_lt hlt, List.getElem?_drop] at this
    exact this
   obtain ⟨u, hu, hk⟩ := y0x (hO r (by simp) _ hr) hb h1
   have : u = v := hk
   rw [j0I, hu, this]
  have hl := run_loadCells_list (P := P) (w := w) ⟨b, off, none⟩ us hcell
  exact ⟨_, by simp [execOp, Instr.loadAt, hax, Instr.sureAddr, loadVar, ht.agg w, ht.size w, hl], rfl⟩
theorem v0o {s : TypeId} {x : Operand} {i off r o : Nat} [hs : FldTy P s i off] (hx : T.ev x = .own r o) : GV P E ⟨d, .fieldAddr s x i, ty, pos, af, g⟩ T O (.own r (o + off)) [] [] :=
 j0p [] fun Z ν a w h _ => by
  obtain ⟨b, hb, hax⟩ := z0u hx (h x (by simp [Op.operands]))
  exact ⟨.pointer (some ⟨b, o + off, none⟩), by simp [execOp, hax, hs.run b o w], b, hb, rfl⟩
class ArrTy (P : Program) (t : TypeId) (len : outParam Nat) (e : outParam TypeId) (sz : outParam Nat) : Prop where
 und : P.underlying t = some (.array len e)
 size : ∀ w, (sizeOf e).run P w = .ok sz w
theorem q0m {t e : TypeId} {x y : Operand} {len sz r o : Nat} {q : IntKind} {i : Int} {k : Nat} [ht : ArrTy P t len e sz] (hx : T.ev x = .own r o) (hy : T.ev y = .av (.val (.int q i))) (hi : i = ↑k) (hk : k < len) :
  GV P E ⟨d, .indexAddr t x y, ty, pos, af, g⟩ T O (.own r (o + k * sz)) [] [] :=
 j0p [] fun Z ν a w h _ => by
  obtain ⟨b, hb, hax⟩ := z0u hx (h x (by simp [Op.operands]))
  have hv := j0w hy (h y (by simp [Op.operands]))
  subst hi
  exact ⟨.pointer (some ⟨b, o + k * sz, none⟩), by simp [execOp, Instr.indexAt, hv, hax, asIntOf, run_underlying ht.und, Instr.sureAddr, ht.size w, hk, j0I], b, hb, rfl⟩
theorem q0L {t e : TypeId} {x y : Operand} {len sz n : Nat} {f : Nat → AV} {q : IntKind} {i : Int} {k : Nat} [ht : ArrTy P t len e sz] (hx : T.ev x = .av (.ptr n f)) (hy : T.ev y = .av (.val (.int q i))) (hi : i = ↑k) (hk : k < len) (hn' : Nat.ble ((k + 1) * sz) n = true) :
  GV P E ⟨d, .indexAddr t x y, ty, pos, af, g⟩ T O (.av (.ptr sz (fun j => f (k * sz + j)))) [] [] :=
 j0p [] fun Z ν a w h _ => by
  obtain ⟨b, o, he, hz, hb, hc⟩ := z0v hx (h x (by simp [Op.operands]))
  have hv := j0w hy (h y (by simp [Op.operands]))
  subst hi
  refine ⟨.pointer (some ⟨b, o + k * sz, none⟩), by simp [execOp, Instr.indexAt, hv, he, asIntOf, run_underlying ht.und, Instr.sureAddr, ht.size w, hk, j0I], b, o + k * sz, rfl, fun hp => hz (by have hn := Nat.le_of_ble_eq_true hn'; rw [Nat.add_mul, Nat.one_mul] at hn; omega), hb, fun j hj => ?_⟩
  rw [Nat.add_assoc]
  exact hc (k * sz + j) (by have hn := Nat.le_of_ble_eq_true hn'; rw [Nat.add_mul, Nat.one_mul] at hn; omega)
theorem j0m {t : TypeId} {is : List Nat} {xs : List Operand} {vs cs : List Value} (ht : P.built t (is.zip vs) = some cs.toArray) (hl : xs.length = is.length) (hx : xs.map T.ev = vs.map (fun v => SV.av (.val v))) :
  GV P E ⟨d, .build t (is.zip xs).toArray, ty, pos, af, g⟩ T O (.av (.val (.agg cs.toArray))) [] [] :=
 j0p [] fun Z ν a w h _ => by
  have hev : ∀ (is : List Nat) (xs : List Operand) (vs : List Value), xs.length = is.length → xs.map T.ev = vs.map (fun v => SV.av (.val v)) → (∀ x ∈ (is.zip xs).map (·.2), (T.ev x).ok Z ν w (a.eval x)) →
    (is.zip xs).map (fun p => (p.1, a.eval p.2)) = is.zip vs := by
   intro is
   induction is with
   |nil => intro xs vs _ _ _; simp
   |cons i is ih =>
    intro xs vs hl hx hok
    match xs, hl with
    |x :: xs, hl =>
     match vs, hx with
     |v :: vs, hx =>
      simp only [List.map_cons, List.cons.injEq] at hx
      have h0 := hok x (by simp)
      rw [hx.1] at h0
      have h0' : a.eval x = v := h0
      simp only [List.zip_cons_cons, List.map_cons, h0', ih xs vs (by simpa using hl) hx.2 (fun y hy => hok y (by simp at hy ⊢; exact .inr hy))]
  have hr := run_build (P := P) w t (is.zip vs).toArray cs.toArray (by simpa using ht)
  refine ⟨_, ?_, rfl⟩
  have he := hev is xs vs hl hx (fun x hx => h x (by simpa [Op.operands] using hx))
  simp only [execOp, List.map_toArray]
  rw [show (List.map (fun (x : Nat × Operand) => match x with | (i, x) => (i, a.eval x)) (is.zip xs)) = is.zip vs from he]
  simp [hr]
end
section
variable {P : Program} {fn : Func} {w : World} {Z : j0q} {N : Nat} {T : Tab} {O : Own} {res : AV}
inductive ResV (P : Program) (T : Tab) (O : Own) : ResultVar → AV → Prop
 |tmp {t : Nat} {τ : AV} (h : T.get t = .av τ) : ResV P T O (.tmp t) τ
 |cell {t r off : Nat} {ty : TypeId} {cs : List SV} {τ : AV} [ht : CellTy P ty] (h : T.get t = .own r off) (hr : look O r = some (.cells cs)) (hc : cs[off]? = some (.av τ)) : ResV P T O (.cell t ty) τ
 |agg {t r off k : Nat} {ty : TypeId} {cs : List SV} {us : List Value} [ht : AggTy P ty k] (h : T.get t = .own r off) (hr : look O r = some (.cells cs)) (hk : us.length = k) (hc : (cs.drop off).take us.length = us.map fun u => .av (.val u)) : ResV P T O (.cell t ty) (.val (.agg us.toArray))
 |aggv {t r off k : Nat} {ty : TypeId} {cs : List SV} {f : Nat → AV} [ht : AggTy P ty k] (h : T.get t = .own r off) (hr : look O r = some (.cells cs)) (hc : (cs.drop off).take k = (List.range k).map fun i => .av (f i)) : ResV P T O (.cell t ty) (.agg k f)
theorem W0x {P : Program} {w : World} {Z : j0q} {ν : j0N} {E : Env} {r : Nat} {cs : List SV} {b off k : Nat} {f : Nat → AV} (hrow : Res.ok E Z ν w (ν r) (.cells cs)) (hb : ν r = .pointer (some ⟨b, 0, none⟩)) (hc : (cs.drop off).take k = (List.range k).map fun i => .av (f i)) :
  ∃ us : List Value, us.length = k ∧ (∀ (j : Nat) (v : Value), us[j]? = some v → w.cell? ((⟨b, off, none⟩ : Addr).add j) = some v) ∧ ∀ i, i < k → ∃ u, us[i]? = some u ∧ (f i).ok Z w u := by
 have hget : ∀ i, i < k → ∃ u, w.cell? ⟨b, off + i, none⟩ = some u ∧ (f i).ok Z w u := fun i hi => by
  have h1 : cs[off + i]? = some (.av (f i)) := by
   have : ((cs.drop off).take k)[i]? = some (.av (f i)) := by rw [hc]; simp [hi]
   rw [List.getElem?_take_of_lt hi, List.getElem?_drop] at this
   exact this
  obtain ⟨u, hu, hk⟩ := y0x hrow hb h1
  exact ⟨u, hu, hk⟩
 refine ⟨(List.range k).map fun i => (w.cell? ⟨b, off + i, none⟩).getD undef, by simp, fun j v hj => ?_, fun i hi => ?_⟩
 ·simp only [List.getElem?_map, Option.map_eq_some_iff] at hj
  obtain ⟨i', hi', rfl⟩ := hj
  obtain ⟨hi, rfl⟩ := List.getElem?_eq_some_iff.1 hi'
  simp only [List.getElem_range, List.length_range] at hi ⊢
  obtain ⟨u, hu, _⟩ := hget j hi
  rw [j0I, hu]; rfl
 ·obtain ⟨u, hu, hk⟩ := hget i hi
  exact ⟨u, by simp [hi, hu], hk⟩
def J0R (tmps : Array Value) : ResultVar → Sem Value
 |.tmp t => pure (tmps.getD t undef)
 |.cell a t => do loadVar t (← asAddr (tmps.getD a undef))
theorem ResV.run {E : Env} {Z : j0q} {ν : j0N} {a : Act} {w : World} {rv : ResultVar} {τ : AV} (h : ResV P T O rv τ) (hs : SatZ E Z ν T O a w) :
  ∃ v, (J0R a.tmps rv).run P w = .ok v w ∧ τ.ok Z w v := by
 cases h with
 |tmp h =>
  rename_i t
  have h2 := hs.slot t
  rw [h] at h2
  exact ⟨_, rfl, h2⟩
 |cell h hr hc =>
  rename_i t r off ty cs ht
  have h2 := hs.slot t
  rw [h] at h2
  obtain ⟨b, hb, hax⟩ := h2
  obtain ⟨u, hu, hk⟩ := y0x (hs.own.each _ _ hr) hb hc
  exact ⟨u, by simp [J0R, hax, asAddr, loadVar, ht.run w, hu], hk⟩
 |agg h hr hk hc =>
  rename_i t r off k ty cs us ht
  subst hk
  have h2 := hs.slot t
  rw [h] at h2
  obtain ⟨b, hb, hax⟩ := h2
  have hcell : ∀ (j : Nat) (v : Value), us[j]? = some v → w.cell? ((⟨b, off, none⟩ : Addr).add j) = some v := by
   intro j v hj
   have hlt := (List.getElem?_eq_some_iff.1 hj).1
   have h1 : cs[off + j]? = some (.av (.val v)) := by
    have : ((cs.drop off).take us.length)[j]? = some (.av (.val v)) := by rw [hc]; simp [hj]
    rw [List.getElem?_take_of_lt hlt, List.getElem?_drop] at this
    exact this
   obtain ⟨u, hu, hk⟩ := y0x (hs.own.each _ _ hr) hb h1
   have : u = v := hk
   rw [j0I, hu, this]
  have hl := run_loadCells_list (P := P) (w := w) ⟨b, off, none⟩ us hcell
  exact ⟨_, by simp [J0R, hax, asAddr, loadVar, ht.agg w, ht.size w, hl], rfl⟩
 |aggv h hr hc =>
  rename_i t r off k ty cs f ht
  have h2 := hs.slot t
  rw [h] at h2
  obtain ⟨b, hb, hax⟩ := h2
  obtain ⟨us, hk, hcell, hf⟩ := W0x (P := P) (hs.own.each _ _ hr) hb hc
  subst hk
  have hl := run_loadCells_list (P := P) (w := w) ⟨b, off, none⟩ us hcell
  exact ⟨_, by simp [J0R, hax, asAddr, loadVar, ht.agg w, ht.size w, hl], us, rfl, rfl, hf⟩
theorem K0q (fn : Func) (tmps : Array Value) : results fn tmps = (do
  let vs ← fn.results.mapM (J0R tmps)
  pure (if h : vs.size = 1 then vs[0] else .tuple vs)) := by
 unfold results
 congr 2
theorem J0U (P : Program) (w : World) (tmps : Array Value) : ∀ (rvs : List ResultVar) (vs : List Value), All2 (fun rv v => (J0R tmps rv).run P w = Result.ok v w) rvs vs → (rvs.mapM (J0R tmps)).run P w = .ok vs w
 |[], [], _ => by simp
 |rv :: rvs, v :: vs, h => by
  rw [List.mapM_cons]
  simp only [Sem.run_bind, h.1, Result.andThen_ok, J0U P w tmps rvs vs h.2, Sem.run_pure]
 |[], _ :: _, h => h.elim
 |_ :: _, [], h => h.elim
theorem v0R {P : Program} {fn : Func} {w : World} {tmps : Array Value} {rvs : List ResultVar} {vs : List Value} (hr : fn.results = rvs.toArray) (h : All2 (fun rv v => (J0R tmps rv).run P w = Result.ok v w) rvs vs) :
  (results fn tmps).run P w = .ok (if h : vs.toArray.size = 1 then vs.toArray[0] else .tuple vs.toArray) w := by
 rw [K0q, hr]
 simp only [List.mapM_toArray, Sem.run_bind, Sem.run_map, J0U P w tmps rvs vs h, Result.andThen_ok, Sem.run_pure]
theorem j0c {rv : ResultVar} {τ : AV} (hr : fn.results = #[rv]) (ht : ResV P T O rv τ) (he : τ = res) : SQ (v0t N w Z) T O (bodyPost P fn (z1R w Z res) .ret) := by
 subst he
 rintro a w' ⟨Z', ν, h⟩
 obtain ⟨v, hv, hk⟩ := ht.run h
 have := v0R (P := P) (w := w') (tmps := a.tmps) (rvs := [rv]) (vs := [v]) hr ⟨hv, trivial⟩
 exact bodyPost_ret (v := v) this h.defers (v1a h.base hk)
theorem j0t {rvs : List ResultVar} {τs : List AV} (hr : fn.results = rvs.toArray) (hn : Nat.blt 1 rvs.length = true) (ht : All2 (ResV P T O) rvs τs) (he : j0x τs = res) : SQ (v0t N w Z) T O (bodyPost P fn (z1R w Z res) .ret) := by
 subst he
 rintro a w' ⟨Z', ν, h⟩
 have key : ∀ (rvs : List ResultVar) (τs : List AV), All2 (ResV P T O) rvs τs → ∃ vs, All2 (fun rv v => (J0R a.tmps rv).run P w' = Result.ok v w') rvs vs ∧ All2 (fun τ v => AV.ok Z' w' τ v) τs vs := by
  intro rvs
  induction rvs with
  |nil => intro τs h; match τs, h with | [], _ => exact ⟨[], trivial, trivial⟩
  |cons rv rvs ih =>
   intro τs h'
   match τs, h' with
   |τ :: τs, h' =>
    obtain ⟨v, hv, hk⟩ := h'.1.run h
    obtain ⟨vs, h1, h2⟩ := ih τs h'.2
    exact ⟨v :: vs, ⟨hv, h1⟩, ⟨hk, h2⟩⟩
 obtain ⟨vs, h1, h2⟩ := key rvs τs ht
 have hl : vs.length = rvs.length := h1.len.symm
 have hrun := v0R (P := P) (w := w') hr h1
 have hne : ¬ vs.toArray.size = 1 := by
  have := j0H hn
  simp; omega
 rw [dif_neg hne] at hrun
 refine bodyPost_ret (v := .tuple vs.toArray) hrun h.defers (v1a h.base ⟨vs, rfl, h2.len.symm, fun i hi => ?_⟩)
 have hi' : i < τs.length := hi
 obtain ⟨u, hu, hk⟩ := h2.get i τs[i] (List.getElem?_eq_getElem hi')
 exact ⟨u, hu, by simpa [List.getD, List.getElem?_eq_getElem hi'] using hk⟩
end
end Go.Vc
end
section
namespace Go.Vc
open Go Go.RowKit
section
variable {P : Program} {E : Env} {T : Tab} {O : Own} {o : Oper} {d : Option Tmp} {ty : TypeId} {pos : String} {af : Array Edge} {g : Option (Nat × Bool)}
theorem x0J {Z : j0q} {ν : j0N} {w : World} {T : Tab} {x : Operand} {a : Act} {r : Nat} (hx : T.ev x = .osl r) (h : (T.ev x).ok Z ν w (a.eval x)) : a.eval x = ν r := by
 rw [hx] at h; exact h
theorem w0q {t e : TypeId} {x : Operand} {r n sz sz' ety : Nat} {f : Nat → Nat → AV} [ht : SlTy P t e sz'] (hx : T.ev x = .osl r) (hr : look O r = some (.row ety sz n f)) :
  GV P E ⟨d, .call ⟨.builtin .len, #[x], #[t]⟩, ty, pos, af, g⟩ T O (.av (.val (.int .i64 n))) [r] [] :=
 j0p [r] fun Z ν a w h hO => by
  have hv := x0J hx (h x (by simp [Op.operands, Call.operands]))
  refine ⟨.int .i64 n, ?_, rfl⟩
  rcases hO r (by simp) _ hr with ⟨h1, h2⟩ | ⟨b, cap, arr, h1, _⟩
  ·subst h2
   simp [execOp, resolve, invoke, builtin, Builtin.len_, hv, h1, run_underlying ht.und, goInt]
  ·simp [execOp, resolve, invoke, builtin, Builtin.len_, hv, h1, run_underlying ht.und, goInt]
theorem q0n {t e : TypeId} {x y : Operand} {r n sz ety : Nat} {f : Nat → Nat → AV} {q : IntKind} {i : Int} {k : Nat} [ht : SlTy P t e sz] (hx : T.ev x = .osl r) (hr : look O r = some (.row ety sz n f)) (hy : T.ev y = .av (.val (.int q i)))
  (hi : i = ↑k) (hk : k < n) : GV P E ⟨d, .indexAddr t x y, ty, pos, af, g⟩ T O (.oel r sz k 0) [r] [] :=
 j0p [r] fun Z ν a w h hO => by
  have hv := x0J hx (h x (by simp [Op.operands]))
  have hvi := j0w hy (h y (by simp [Op.operands]))
  subst hi
  rcases hO r (by simp) _ hr with ⟨_, h2⟩ | ⟨b, cap, arr, h1, _⟩
  ·omega
  ·refine ⟨.pointer (some ⟨b, k * sz, none⟩), ?_, b, n, cap, h1, by simp⟩
   simp [execOp, Instr.indexAt, hvi, hv, h1, asIntOf, run_underlying ht.und, ht.size w, hk, j0I]
theorem k0f {Z : j0q} {ν : j0N} {w : World} {r n sz ety i j : Nat} {f : Nat → Nat → AV} {b : Nat} {m c : Nat} (hx : Res.ok E Z ν w (ν r) (.row ety sz n f)) (hb : ν r = .slice (some ⟨b, 0, none⟩) m c) (hi : i < n) (hj : j < sz) :
  ∃ u, w.cell? ⟨b, i * sz + j, none⟩ = some u ∧ (f i j).ok Z w u := by
 rcases hx with ⟨h1, _⟩ | ⟨b', cap, arr, h1, _, _, h4, _, _, _, h8⟩
 ·rw [hb] at h1; simp at h1
 ·rw [hb] at h1
  simp only [Value.slice.injEq, Option.some.injEq, Addr.mk.injEq, and_true] at h1
  obtain ⟨rfl, rfl, rfl⟩ := h1
  obtain ⟨u, hu, hk⟩ := h8 i hi j hj
  exact ⟨u, by rw [cell_of_row w b _ arr ety _ h4]; exact hu, hk⟩
theorem j0Q {t : TypeId} {x : Operand} {r n sz ety i j : Nat} {f : Nat → Nat → AV} {τ : AV} [ht : CellTy P t] (hx : T.ev x = .oel r sz i j) (hr : look O r = some (.row ety sz n f)) (hi : i < n) (hj : Nat.blt j sz = true) (hf : f i j = τ) :
  GV P E ⟨d, .load t x, ty, pos, af, g⟩ T O (.av τ) [r] [] :=
 j0p [r] fun Z ν a w h hO => by
  have := h x (by simp [Op.operands])
  rw [hx] at this
  obtain ⟨b, m, c, hb, hax⟩ := this
  obtain ⟨u, hu, hk⟩ := k0f (hO r (by simp) _ hr) hb hi (j0H hj)
  exact ⟨u, by simp [execOp, Instr.loadAt, hax, Instr.sureAddr, loadVar, ht.run w, hu], by rw [← hf]; exact hk⟩
def w0v (f : Nat → Nat → AV) (i j : Nat) (ss : List AV) : Nat → Nat → AV := fun i' j' => if i' = i ∧ j ≤ j' ∧ j' < j + ss.length then ss.getD (j' - j) .any else f i' j'
theorem SatZ.storeRow {Z : j0q} {ν : j0N} {a : Act} {w : World} {r n sz ety i j b m c : Nat} {f : Nat → Nat → AV} {ss : List AV} {vs : List Value} (h : SatZ E Z ν T O a w) (hr : look O r = some (.row ety sz n f)) (hb : ν r = .slice (some ⟨b, 0, none⟩) m c) (hi : i < n) (hfit : j + ss.length ≤ sz)
  (hvs : All2 (fun s v => AV.ok Z w s v) ss vs) (h1 : ∀ v ∈ vs, v.oneCell' = true) : ∃ w', (storeCells ⟨b, i * sz + j, none⟩ vs).run P w = .ok () w' ∧ SatZ E Z ν T ((r, .row ety sz n (w0v f i j ss)) :: O) a w' := by
 have hx := h.own.each r _ hr
 rcases hx with ⟨e1, _⟩ | ⟨b', cap, arr, e1, e2, e3, e4, e5, e6, e7, e8⟩
 ·rw [hb] at e1; simp at e1
 have e1' := e1
 rw [hb] at e1
 simp only [Value.slice.injEq, Option.some.injEq, Addr.mk.injEq, and_true] at e1
 obtain ⟨rfl, rfl, rfl⟩ := e1
 have hlen := hvs.len
 have hbound : i * sz + j + vs.length ≤ arr.size := by
  have : (i + 1) * sz ≤ c * sz := Nat.mul_le_mul_right _ zO
  rw [Nat.add_mul, Nat.one_mul] at this
  omega
 have hst := run_storeCells_at P b (i * sz + j) ety vs 0 arr w e4 zO h1
 simp only [Nat.add_zero] at hst
 refine ⟨_, hst, ?_⟩
 refine h.write hr (b := b) (by rw [hb]; rfl) rfl rfl rfl (by simp) (fun k hk => setRow_other w b k _ hk) (fun hsv => ?_)
 refine .inr ⟨b, c, _, e1', e2, e3, setRow_heap w b arr _ ety _ e4, e5, e6, ?_, fun i' hi' j' hj' => ?_⟩
 ·rw [← e7]; simp; omega
 ·have hav : ∀ (τ : AV) u, τ.ok Z w u → τ.ok Z (w.setRow b (arr.toList.take (i * sz + j) ++ vs ++ arr.toList.drop (i * sz + j + vs.length)).toArray) u := fun τ u hk => hsv (.av τ) u hk
  suffices hsu : ∃ u, (arr.toList.take (i * sz + j) ++ (vs ++ arr.toList.drop (i * sz + j + vs.length)))[i' * sz + j']? = some u ∧ (w0v f i j ss i' j').ok Z w u by
   obtain ⟨u, hu, hk⟩ := hsu
   exact ⟨u, by simpa using hu, hav _ _ hk⟩
  obtain ⟨u0, hu0, hk0⟩ := e8 i' hi' j' hj'
  have hlt0 : i' * sz + j' < arr.size := (Array.getElem?_eq_some_iff.1 hu0).1
  by_cases hin : i' = i ∧ j ≤ j' ∧ j' < j + ss.length
  ·obtain ⟨rfl, h2, h3⟩ := hin
   rw [List.getElem?_append_right (by simp; omega)]
   have hmin : (arr.toList.take (i' * sz + j)).length = i' * sz + j := by simp; omega
   rw [hmin, List.getElem?_append_left (by omega)]
   have hidx : i' * sz + j' - (i' * sz + j) = j' - j := by omega
   rw [hidx]
   have hl : j' - j < ss.length := by omega
   obtain ⟨u, hu, hk⟩ := hvs.get (j' - j) ss[j' - j] (List.getElem?_eq_getElem hl)
   refine ⟨u, hu, ?_⟩
   unfold w0v
   rw [if_pos ⟨rfl, h2, h3⟩]
   simpa [List.getD, List.getElem?_eq_getElem hl] using hk
  ·refine ⟨u0, ?_, by unfold w0v; rw [if_neg hin]; exact hk0⟩
   have hout : i' * sz + j' < i * sz + j ∨ i * sz + j + ss.length ≤ i' * sz + j' := by
    rcases Nat.lt_trichotomy i' i with h2 | h2 | h2
    ·left
     have : (i' + 1) * sz ≤ i * sz := Nat.mul_le_mul_right _ h2
     rw [Nat.add_mul, Nat.one_mul] at this
     omega
    ·subst h2; omega
    ·right
     have : (i + 1) * sz ≤ i' * sz := Nat.mul_le_mul_right _ h2
     rw [Nat.add_mul, Nat.one_mul] at this
     omega
   rcases hout with h2 | h2
   ·rw [List.getElem?_append_left (by simp; omega), List.getElem?_take_of_lt h2]
    simpa using hu0
   ·rw [List.getElem?_append_right (by simp; omega)]
    have hmin : (arr.toList.take (i * sz + j)).length = i * sz + j := by simp; omega
    rw [hmin, List.getElem?_append_right (by omega), List.getElem?_drop]
    have : i * sz + j + vs.length + (i' * sz + j' - (i * sz + j) - vs.length) = i' * sz + j' := by omega
    rw [this]
    simpa using hu0
theorem q0y {t : TypeId} {x y : Operand} {r n sz ety i j : Nat} {f : Nat → Nat → AV} {τ : AV} [ht : SizeTy P t 1] (hx : T.ev x = .oel r sz i j) (hy : T.ev y = .av τ) (h1 : τ.one = true) (hr : look O r = some (.row ety sz n f)) (hi : i < n) (hj : Nat.blt j sz = true) :
  GV P E ⟨d, .store t x y, ty, pos, af, g⟩ T O (.av .any) [r] [(r, .row ety sz n (w0v f i j [τ]))] := by
 refine ⟨fun T' O' hT hO => ⟨by intro c; simp, fun Z ν a w hs => ?_⟩⟩
 have ex := j0G hs x
 rw [j0r (o := ⟨d, .store t x y, ty, pos, af, g⟩) hT (by simp [Op.operands]), hx] at ex
 have ey := j0G hs y
 rw [j0r (o := ⟨d, .store t x y, ty, pos, af, g⟩) hT (by simp [Op.operands]), hy] at ey
 obtain ⟨b, m, c, hb, hax⟩ := ex
 have ey' : τ.ok Z w (a.eval y) := ey
 have hone := AV.one_cells h1 ey'
 obtain ⟨w', hst, hsat⟩ := hs.storeRow (P := P) (ss := [τ]) (vs := [a.eval y]) (by rw [hO r (by simp)]; exact hr) hb hi (j0H hj) ⟨ey', trivial⟩ (by simpa using hone)
 unfold Oper.wp
 have hrun : (execOp a.eval ⟨d, .store t x y, ty, pos, af, g⟩).run P w = .ok .skip w' := by
  simp [execOp, Instr.storeAt, hax, Instr.sureAddr, storeVar, ht.run w, cells_one hone, hst]
 rw [hrun]
 exact ⟨Go.undef, Z, ν, rfl, hsat, trivial⟩
def w0u (n : Nat) (f h : Nat → Nat → AV) : Nat → Nat → AV := fun i j => if i < n then f i j else h (i - n) j
theorem SatZ.reRow {Z : j0q} {ν : j0N} {a : Act} {w w' : World} {r : Nat} {x : Res} (h : SatZ E Z ν T O a w) (hr : look O r = some x) (hp : Nat.blt r 1000 = true) (v' : Value) (x' : Res) (hg : w.grownBy w' (j0C (ν r)))
  (hblk : ∀ b, j0C v' = some b → j0C (ν r) = some b ∨ w.heap.size ≤ b)
  (hx : (∀ (τ : AV) u, τ.ok Z w u → τ.ok Z w' u) → x'.ok E Z (q0V ν r v') w' v') : SatZ E Z (q0V ν r v') (T.kill r) ((r, x') :: Own.kill r O) a w' := by
 have hbz : ∀ k, Z k → some k ≠ j0C (ν r) := fun k hk e => (Res.blk_lt (h.own.each r x hr) e.symm).2.1 hk
 have hbk : ∀ k, E.keep k → some k ≠ j0C (ν r) := fun k hk e => (Res.blk_lt (h.own.each r x hr) e.symm).2.2 hk
 have hsame : ∀ k, Z k → k < w.heap.size → w'.heap[k]? = w.heap[k]? := fun k hk hlt => hg.block k hlt (hbz k hk)
 have hav : ∀ (τ : AV) v, τ.ok Z w v → τ.ok Z w' v := AV.ok_mono (fun _ h => h) hg.size hsame
 have hk := h.kill r v' hp
 have hsv : ∀ (s : SV) v, s.ok Z (q0V ν r v') w v → s.ok Z (q0V ν r v') w' v := fun s v hs => SV.ok_mono (fun _ h => h) hg.size hsame s v (fun _ _ => rfl) hs
 have hne : ∀ k, k ≠ r → q0V ν r v' k = ν k := fun k hk => if_neg hk
 have hl : ∀ k, k ≠ r → look ((r, x') :: Own.kill r O) k = look (Own.kill r O) k := fun k hk => j0d x' _ (fun e => hk e.symm)
 have hLookup : ∀ k, k ≠ r → look (Own.kill r O) k ≠ none → look O k ≠ none := by
  intro k hkr hn
  rw [Own.look_kill, if_neg hkr] at hn
  simpa using hn
 refine ⟨h.defers, h.tsize, h.cst, hk.pin, ⟨hg.os.trans h.base.os, hg.tape.trans h.base.tape, hg.output.trans h.base.output, Nat.le_trans h.base.size hg.size, h.base.keepLt, fun k hk' => ?_, h.base.zok.next (fun _ h => h) hg.size hsame (fun k hk' => Nat.lt_of_lt_of_le (h.base.zLt k hk') hg.size), h.base.z0, h.base.zNew⟩,
  ⟨fun k y hy => ?_, fun k k' hkk h1 h2 b hb => ?_⟩, fun d => hsv _ _ (hk.slot d)⟩
 ·rw [hg.block k (Nat.lt_of_lt_of_le (h.base.keepLt k hk') h.base.size) (hbk k hk'), h.base.kept k hk']
 ·by_cases hkr : k = r
  ·subst hkr
   rw [j0l] at hy
   cases hy
   rw [show q0V ν k v' k = v' from if_pos rfl]
   exact hx hav
  ·rw [hl k hkr] at hy
   have h3 := hk.own.each k y hy
   have hOk := hLookup k hkr (by rw [hy]; simp)
   have hbne : ∀ b, j0C (ν k) = some b → some b ≠ j0C (ν r) := fun b hb e => h.own.apart r k (fun e => hkr e.symm) (by rw [hr]; simp) hOk b e.symm hb
   rw [hne k hkr] at h3 ⊢
   cases y with
   |cells cs =>
    obtain ⟨b', ty', arr, e1, e2, e3, e4, e5, e6⟩ := h3
    refine ⟨b', ty', arr, e1, e2, e3, ?_, e5, fun i s hs => let ⟨u, hu, hk⟩ := e6 i s hs; ⟨u, hu, hsv _ _ hk⟩⟩
    rw [hg.block b' (Array.getElem?_eq_some_iff.1 e4).1 (hbne b' (by rw [e1]; rfl))]; exact e4
   |row ty' sz n f =>
    rcases h3 with h1 | ⟨b', cap, arr, e1, e2, e3, e4, e5, e6, e7, e8⟩
    ·exact .inl h1
    ·refine .inr ⟨b', cap, arr, e1, e2, e3, ?_, e5, e6, e7, fun i hi j hj => let ⟨u, hu, hk⟩ := e8 i hi j hj; ⟨u, hu, hav _ _ hk⟩⟩
     rw [hg.block b' (Array.getElem?_eq_some_iff.1 e4).1 (hbne b' (by rw [e1]; rfl))]; exact e4
   |obj φ hφ =>
    obtain ⟨b', ob, h1, h2, h3, h4, h5⟩ := h3
    refine ⟨b', ob, h1, h2, h3, ?_, hav (hφ.av ob) _ h5⟩
    rw [hg.block b' (Array.getElem?_eq_some_iff.1 h4).1 (hbne b' h1)]; exact h4
   |srow ty' sz n cs =>
    rcases h3 with h1 | ⟨b', cap, arr, e1, e2, e3, e4, e5, e6, e7, e8⟩
    ·exact .inl h1
    ·refine .inr ⟨b', cap, arr, e1, e2, e3, ?_, e5, e6, e7, fun i s hs => let ⟨u, hu, hk⟩ := e8 i s hs; ⟨u, hu, hsv _ _ hk⟩⟩
     rw [hg.block b' (Array.getElem?_eq_some_iff.1 e4).1 (hbne b' (by rw [e1]; rfl))]; exact e4
 ·have old : ∀ k, k ≠ r → look ((r, x') :: Own.kill r O) k ≠ none → look O k ≠ none := fun k hkr hn => hLookup k hkr (by rw [← hl k hkr]; exact hn)
  by_cases hkr : k = r
  ·subst hkr
   rw [show q0V ν k v' k = v' from if_pos rfl] at hb
   rw [hne k' (fun e => hkk e.symm)]
   intro hb'
   have hOk := old k' (fun e => hkk e.symm) h2
   rcases hblk b hb with h4 | h4
   ·exact h.own.apart k k' hkk (by rw [hr]; simp) hOk b h4 hb'
   ·obtain ⟨y, hy⟩ := Option.ne_none_iff_exists'.1 hOk
    have := (Res.blk_lt (h.own.each k' y hy) hb').1
    omega
  ·rw [hne k hkr] at hb
   have hOk := old k hkr h1
   by_cases hkr' : k' = r
   ·subst hkr'
    rw [show q0V ν k' v' k' = v' from if_pos rfl]
    intro hb'
    rcases hblk b hb' with h4 | h4
    ·exact h.own.apart k' k (fun e => hkr e.symm) (by rw [hr]; simp) hOk b h4 hb
    ·obtain ⟨y, hy⟩ := Option.ne_none_iff_exists'.1 hOk
     have := (Res.blk_lt (h.own.each k y hy) hb).1
     omega
   ·rw [hne k' hkr']
    exact h.own.apart k k' hkk hOk (old k' hkr' h2) b hb
class EltTy (P : Program) (e : TypeId) (sz bytes : outParam Nat) : Prop where
 info : ∃ i z, P.info? e = some i ∧ i.zero = some z ∧ i.size = sz ∧ i.bytes = bytes ∧ z.cells.size = sz ∧ 0 < sz
theorem K0m {Z : j0q} {ν : j0N} {w : World} {v : Value} {ety sz n : Nat} {f : Nat → Nat → AV} (h : Res.ok E Z ν w v (.row ety sz n f)) : ∃ xs : List Value, w.ownsRow 0 ety sz v n xs ∧ (∀ i, i < n → ∀ j, j < sz → ∃ u, xs[i * sz + j]? = some u ∧ (f i j).ok Z w u) := by
 rcases h with ⟨rfl, rfl⟩ | ⟨b, cap, arr, rfl, _, _, h4, h5, h6, h7, h8⟩
 ·exact ⟨[], ⟨by simp, .inl ⟨rfl, rfl⟩⟩, fun i hi => absurd hi (Nat.not_lt_zero _)⟩
 ·have hle : n * sz ≤ cap * sz := Nat.mul_le_mul_right _ h5
  refine ⟨arr.toList.take (n * sz), ⟨by simp; omega, .inr ⟨b, cap, arr, rfl, Nat.zero_le _, h4, h5, h6, h7, rfl⟩⟩, fun i hi j hj => ?_⟩
  obtain ⟨u, hu, hk⟩ := h8 i hi j hj
  refine ⟨u, ?_, hk⟩
  have : i * sz + j < n * sz := by
   have : (i + 1) * sz ≤ n * sz := Nat.mul_le_mul_right _ hi
   rw [Nat.add_mul, Nat.one_mul] at this
   omega
  rw [List.getElem?_take_of_lt this]
  simpa using hu
theorem Y0A {Z : j0q} {ν : j0N} {w : World} {v : Value} {ety sz n : Nat} {f : Nat → Nat → AV} {xs : List Value} (h : w.ownsRow 0 ety sz v n xs) (hk : ∀ b, j0C v = some b → ¬ E.keep b ∧ ¬ Z b) (hf : ∀ i, i < n → ∀ j, j < sz → ∃ u, xs[i * sz + j]? = some u ∧ (f i j).ok Z w u) :
  Res.ok E Z ν w v (.row ety sz n f) := by
 obtain ⟨hl, h | ⟨b, cap, arr, h1, _, h3, h4, h5, h6, h7⟩⟩ := h
 ·exact .inl h
 ·have := hk b (by rw [h1]; rfl)
  refine .inr ⟨b, cap, arr, h1, this.1, this.2, h3, h4, h5, h6, fun i hi j hj => ?_⟩
  obtain ⟨u, hu, hok⟩ := hf i hi j hj
  refine ⟨u, ?_, hok⟩
  rw [← h7] at hu
  have hlt : i * sz + j < n * sz := by
   have := (List.getElem?_eq_some_iff.1 hu).1
   simp at this
   omega
  rw [List.getElem?_take_of_lt hlt] at hu
  simpa using hu
theorem X0k {v : Value} (hv : v = .slice none 0 0 ∨ ∃ b m c, v = .slice (some ⟨b, 0, none⟩) m c) : v.ownBlock = j0C v := by
 rcases hv with rfl | ⟨b, m, c, rfl⟩ <;> rfl
theorem W0z {w w' : World} {v v' : Value} {n m sz : Nat} {xs news : List Value} {t tt e : TypeId} {i : TypeInfo} {z : Value} {a : Addr} {c : Nat} (ht : P.underlying t = some (.slice e)) (hi : P.info? e = some i) (hz : i.zero = some z) (hsz : i.size = sz)
  (hown : w.ownsRow 0 e sz v n xs) (hl : news.length = m * sz) (hnews : ∀ (j : Nat) u, news[j]? = some u → w.cell? (a.add j) = some u) (h1 : ∀ u ∈ news, u.oneCell' = true) (hm : 0 < m) (h63 : n + m ≤ maxLen) (hbytes : (n + m) * i.bytes ≤ 140737488355328)
  (hrun : (Builtin.append_ #[t, t] tt #[v, .slice (some a) m c]).run P w = .ok v' w') : j0C v' = j0C v ∨ j0C v' = some w.heap.size := by
 subst hsz
 have hmx : n + m ≤ 9223372036854775807 := by simp only [maxLen] at h63; omega
 rcases hown.2 with ⟨rfl, rfl⟩ | ⟨g, cap, cur, rfl, _, hg, hnc, _, hcs, htake⟩
 ·have hb2 : m * i.bytes ≤ 140737488355328 := by rwa [Nat.zero_add] at hbytes
  have hr := run_append_nil (P := P) w t tt e i z ht hi hz a m c news hl hnews hm zO zO
  rw [hr] at hrun
  cases hrun
  exact .inr rfl
 ·by_cases hroom : n + m ≤ cap
  ·have hfit : n * i.size + news.length ≤ cur.size := by rw [hl, hcs, ← Nat.add_mul]; exact Nat.mul_le_mul_right _ hroom
   have hr := run_append_room (P := P) w t tt e i ht hi g n cap cur hg a m c news hl hnews h1 hroom hfit
   rw [hr] at hrun
   cases hrun
   exact .inl rfl
  ·have holds : ∀ (j : Nat) u, xs[j]? = some u → w.cell? ((⟨g, 0, none⟩ : Addr).add j) = some u := hown.cells (g := g) rfl
   have hr := run_append_grow (P := P) w t tt e i z ht hi hz ⟨g, 0, none⟩ n cap xs hown.1 holds a m c news hl hnews zO zO (growslice_fits zO hbytes)
   rw [hr] at hrun
   cases hrun
   exact .inr rfl
theorem q0G {t e : TypeId} {x y : Operand} {r n m sz bytes : Nat} {f h : Nat → Nat → AV} [ht : SlTy P t e sz] [he : EltTy P e sz bytes] (hx : T.ev x = .osl r) (hr : look O r = some (.row e sz n f)) (hy : T.ev y = .av (.sl m sz h))
  (hone : ∀ i, i < m → ∀ j, j < sz → (h i j).one = true) (hm : 0 < m) (hlen : n + m ≤ maxLen) (hby : (n + m) * bytes ≤ 140737488355328) (hp : Nat.blt r 1000 = true := by first | rfl | assumption) :
  VStep P E ⟨d, .call ⟨.builtin .append, #[x, y], #[t, t]⟩, ty, pos, af, g⟩ T O (T.kill r) ((r, .row e sz (n + m) (w0u n f h)) :: Own.kill r O) (.osl r) := by
 refine ⟨by intro c; simp, fun Z ν a w hs => ?_⟩
 have hvx := x0J hx (j0G hs x)
 obtain ⟨p, c, hvy, hmc, hcm, hcells⟩ := K0v hy (j0G hs y)
 obtain ⟨b, o, rfl, hzb, hblt, hcell⟩ := hcells hm
 have hrow := hs.own.each r _ hr
 obtain ⟨xs, hown, hxs⟩ := K0m hrow
 obtain ⟨i0, z, hi, hz, hsz, hbt, hzs, hpos⟩ := he.info
 have hnew : ∃ news : List Value, news.length = m * sz ∧ (∀ (j : Nat) u, news[j]? = some u → w.cell? ((⟨b, o, none⟩ : Addr).add j) = some u) ∧ (∀ i, i < m → ∀ j, j < sz → ∃ u, news[i * sz + j]? = some u ∧ (h i j).ok Z w u) := by
  refine ⟨(List.range (m * sz)).map fun k => (w.cell? ⟨b, o + k, none⟩).getD undef, by simp, fun j u hj => ?_, fun i hi j hj => ?_⟩
  ·simp only [List.getElem?_map, Option.map_eq_some_iff] at hj
   obtain ⟨k, hk, rfl⟩ := hj
   obtain ⟨hlt, rfl⟩ := List.getElem?_eq_some_iff.1 hk
   simp only [List.length_range] at hlt
   simp only [List.getElem_range]
   have hq : j / sz < m := Nat.div_lt_of_lt_mul (by rw [Nat.mul_comm]; exact hlt)
   obtain ⟨u, hu, _⟩ := hcell (j / sz) hq (j % sz) (Nat.mod_lt _ hpos)
   have : o + j / sz * sz + j % sz = o + j := by rw [Nat.add_assoc, Nat.mul_comm, Nat.div_add_mod]
   rw [this] at hu
   rw [j0I, hu]; rfl
  ·have hlt : i * sz + j < m * sz := by
    have : (i + 1) * sz ≤ m * sz := Nat.mul_le_mul_right _ hi
    rw [Nat.add_mul, Nat.one_mul] at this
    omega
   obtain ⟨u, hu, hk⟩ := hcell i hi j hj
   refine ⟨u, ?_, hk⟩
   simp only [List.getElem?_map, List.getElem?_range hlt, Option.map_some]
   rw [← Nat.add_assoc, hu]; rfl
 obtain ⟨news, hnl, hnc, hnk⟩ := hnew
 have hone' : ∀ u ∈ news, u.oneCell' = true := by
  intro u hu
  obtain ⟨k, hk, rfl⟩ := List.getElem_of_mem hu
  rw [hnl] at hk
  have hq : k / sz < m := Nat.div_lt_of_lt_mul (by rw [Nat.mul_comm]; exact hk)
  obtain ⟨u, hu', hok⟩ := hnk (k / sz) hq (k % sz) (Nat.mod_lt _ hpos)
  have : k / sz * sz + k % sz = k := by rw [Nat.mul_comm, Nat.div_add_mod]
  rw [this] at hu'
  have e : news[k] = u := by rw [List.getElem?_eq_getElem (by omega)] at hu'; simpa using hu'
  rw [e]
  exact AV.one_cells (hone _ hq _ (Nat.mod_lt _ hpos)) hok
 obtain ⟨v', w', hrun, hown', hgrow, _⟩ := run_append_own (P := P) w 0 t ty e i0 z sz bytes ht.und hi hz hsz hbt hzs hpos (ν r) n xs hown ⟨b, o, none⟩ m c news hnl hnc hone' hlen hby (Nat.zero_le _)
 have hform : ν r = .slice none 0 0 ∨ ∃ b m c, ν r = .slice (some ⟨b, 0, none⟩) m c := by
  rcases hrow with ⟨h1, _⟩ | ⟨b, cap, arr, h1, _⟩
  ·exact .inl h1
  ·exact .inr ⟨b, _, cap, h1⟩
 rw [X0k hform] at hgrow
 refine j0B (w' := w') (v := v') ?_ ⟨v', Z, q0V ν r v', rfl, ?_, (if_pos rfl : q0V ν r v' r = v').symm⟩
 ·simp only [execOp, resolve, invoke, builtin, Sem.run_bind, Sem.run_pure, Result.andThen_ok, List.map_toArray, List.map_cons, List.map_nil, hvx, hvy, hrun]
 ·-- where the new row lies
  have hblk : ∀ b', j0C v' = some b' → j0C (ν r) = some b' ∨ w.heap.size ≤ b' := by
   intro b' hb'
   rcases W0z (P := P) ht.und hi hz hsz hown hnl hnc hone' hm hlen (by rw [hbt]; exact hby) hrun with h4 | h4
   ·exact .inl (h4.symm.trans hb')
   ·rw [h4] at hb'; cases hb'; exact .inr (Nat.le_refl _)
  refine hs.reRow hr hp v' _ hgrow hblk (fun hav => ?_)
  refine Y0A hown' (fun b' hb' => ?_) (fun i hi j hj => ?_)
  ·rcases hblk b' hb' with h4 | h4
   ·exact ⟨(Res.blk_lt hrow h4).2.2, (Res.blk_lt hrow h4).2.1⟩
   ·refine ⟨fun hk => ?_, fun hk => ?_⟩
    ·have := hs.base.keepLt b' hk; have := hs.base.size; omega
    ·have := hs.base.zLt b' hk; omega
  ·unfold w0u
   by_cases hin : i < n
   ·rw [if_pos hin]
    obtain ⟨u, hu, hk⟩ := hxs i hin j hj
    refine ⟨u, ?_, hav _ _ hk⟩
    rw [List.getElem?_append_left (List.getElem?_eq_some_iff.1 hu).1]
    exact hu
   ·rw [if_neg hin]
    obtain ⟨u, hu, hk⟩ := hnk (i - n) zO j hj
    refine ⟨u, ?_, hav _ _ hk⟩
    have hxl : xs.length = n * sz := hown.1
    have hidx : i * sz + j = n * sz + ((i - n) * sz + j) := by
     have : i = n + (i - n) := by omega
     conv => lhs; rw [this, Nat.add_mul]
     omega
    rw [List.getElem?_append_right (by omega), hxl, hidx, Nat.add_sub_cancel_left]
    exact hu
end
end Go.Vc
end
section
namespace Go.Vc
open Go Go.RowKit
section
variable {P : Program} {E : Env} {T T' : Tab} {O O' : Own} {o : Oper} {d : Option Tmp} {ty : TypeId} {pos : String} {af : Array Edge} {g : Option (Nat × Bool)}
theorem Ent.trans {T'' : Tab} {O'' : Own} (h : Ent T O T' O') (k : Ent T' O' T'' O'') : Ent T O T'' O'' := fun E a w hs => k E a w (h E a w hs)
theorem j0z {ops : Array Oper} {Q : Exit → Act → World → Prop} {l : List Oper} (h : Ent T O T' O') (hl : LSQ P E ops Q l T' O') : LSQ P E ops Q l T O := ⟨fun a w hs => hl.sq a w (h E a w hs)⟩
theorem q0k {φ : Act → World → Prop} (h : Ent T O T' O') (hl : SQ E T' O' φ) : SQ E T O φ := fun a w hs => hl a w (h E a w hs)
def Own.drop (r : Nat) : Own → Own
 |[] => []
 |(k, x) :: O => match Nat.beq k r with | true => Own.drop r O | false => (k, x) :: Own.drop r O
theorem Own.look_drop (r : Nat) : ∀ (O : Own) (k : Nat), look (Own.drop r O) k = if k = r then none else look O k
 |[], k => by simp [Own.drop, look]
 |(q, x) :: O, k => by
  unfold Own.drop
  by_cases hq : q = r
  ·subst hq
   simp only [Nat.beq_refl, Own.look_drop q O k]
   by_cases hk : k = q
   ·simp [hk]
   ·rw [if_neg hk, if_neg hk, j0d _ _ (fun e => hk e.symm)]
  ·have : Nat.beq q r = false := by
    cases hb : Nat.beq q r with
    |false => rfl
    |true => exact absurd (Nat.eq_of_beq_eq_true hb) hq
   simp only [this]
   by_cases hk : q = k
   ·subst hk; simp [look, hq]
   ·rw [j0d _ _ hk, j0d _ _ hk, Own.look_drop r O k]
theorem v0L {dd : Nat} (r ety sz : Nat) (f : Nat → Nat → AV) (hn : T.get dd = .av (.val (.slice none 0 0))) (hf : q0Q r T O = true) (hp : Nat.blt r 1000 = true := by first | rfl | assumption) : Ent T O ((dd, .osl r) :: T) ((r, .row ety sz 0 f) :: O) := by
 rintro E a w ⟨Z, ν, h⟩
 obtain ⟨f1, f2⟩ := w0m hf
 have hk := h.kill r (.slice none 0 0) hp
 have hk' := hk.addRes r (.row ety sz 0 f) (.inl ⟨if_pos rfl, rfl⟩) (fun b hb => by rw [show q0V ν r (.slice none 0 0) r = .slice none 0 0 from if_pos rfl] at hb; simp [j0C] at hb)
 refine ⟨Z, q0V ν r (.slice none 0 0), hk'.defers, hk'.tsize, hk'.cst, hk'.pin, hk'.base, ?_, fun d => ?_⟩
 ·have hO : ∀ k, look ((r, Res.row ety sz 0 f) :: O) k = look ((r, Res.row ety sz 0 f) :: Own.kill r O) k := fun k => by
   by_cases hkr : r = k
   ·subst hkr; rw [j0l, j0l]
   ·rw [j0d _ _ hkr, j0d _ _ hkr, f2]
  exact ⟨fun k y hy => hk'.own.each k y (by rw [← hO]; exact hy), fun k k' hne e1 e2 => hk'.own.apart k k' hne (by rw [← hO]; exact e1) (by rw [← hO]; exact e2)⟩
 ·by_cases hd : dd = d
  ·subst hd
   rw [Tab.get_cons_eq]
   have := h.slot dd
   rw [hn] at this
   have hv : a.tmps.getD dd undef = .slice none 0 0 := this
   show a.tmps.getD dd undef = q0V ν r _ r
   rw [hv]; exact (if_pos rfl).symm
  ·rw [Tab.get_cons_ne _ _ hd, ← f1]
   exact hk'.slot d
def SV.frz (r : Nat) (τ : AV) : SV → SV
 |.osl s => match Nat.beq s r with | true => .av τ | false => .osl s
 |.oel s sz i j => match Nat.beq s r with | true => .av .any | false => .oel s sz i j
 |.osx s sz lo n => match Nat.beq s r with | true => .av .any | false => .osx s sz lo n
 |.own s o => match Nat.beq s r with | true => .av .any | false => .own s o
 |.clo k cs => match cs.any (CV.mentions r) with | true => .av .any | false => .clo k cs
 |.tupR s ρs => match Nat.beq s r with | true => .av .any | false => .tupR s ρs
 |.agg cs => match cs.any (CV.mentions r) with | true => .av .any | false => .agg cs
 |.tupC cs => match cs.any (CV.mentions r) with | true => .av .any | false => .tupC cs
 |.fnC k cs => match cs.any (CV.mentions r) with | true => .av .any | false => .fnC k cs
 |.ocs s o n => match Nat.beq s r with | true => .av .any | false => .ocs s o n
 |.av σ => .av σ
def Tab.frz (r : Nat) (τ : AV) (T : Tab) : Tab := T.map fun p => (p.1, p.2.frz r τ)
theorem Tab.get_frz (T : Tab) (r : Nat) (τ : AV) (d : Nat) : (T.frz r τ).get d = (T.get d).frz r τ := by
 unfold Tab.get Tab.frz
 rw [V0I]
 cases look T d with
 |none => rfl
 |some s => rfl
theorem J0W {E : Env} {Z Z' : j0q} {ν : j0N} {w : World} {v : Value} {ety sz n : Nat} {f : Nat → Nat → AV} (h : Res.ok E Z ν w v (.row ety sz n f)) (hZ : ∀ k, Z k → Z' k) (hb : ∀ b, j0C v = some b → Z' b) : (AV.sl n sz f).ok Z' w v := by
 rcases h with ⟨rfl, rfl⟩ | ⟨b, cap, arr, rfl, _, _, h4, h5, h6, h7, h8⟩
 ·exact ⟨none, 0, rfl, Nat.le_refl _, Nat.zero_le _, fun hn => absurd hn (Nat.lt_irrefl _)⟩
 ·refine ⟨_, cap, rfl, h5, h6, fun _ => ⟨b, 0, rfl, fun _ => hb b rfl, (Array.getElem?_eq_some_iff.1 h4).1, fun i hi j hj => ?_⟩⟩
  obtain ⟨u, hu, hk⟩ := h8 i hi j hj
  exact ⟨u, by rw [Nat.zero_add, cell_of_row w b _ arr ety _ h4]; exact hu, AV.ok_mono hZ (Nat.le_refl _) (fun _ _ _ => rfl) _ _ hk⟩
theorem SatZ.freeze {Z : j0q} {ν : j0N} {a : Act} {w : World} {r ety sz n : Nat} {f : Nat → Nat → AV} (h : SatZ E Z ν T O a w) (hr : look O r = some (.row ety sz n f)) :
  SatZ E (fun k => Z k ∨ j0C (ν r) = some k) ν (T.frz r (.sl n sz f)) (Own.drop r O) a w := by
 have hrow := h.own.each r _ hr
 have hlt : ∀ b, j0C (ν r) = some b → b < w.heap.size ∧ ¬ Z b ∧ ¬ E.keep b := fun b hb => Res.blk_lt hrow hb
 have hav : ∀ (τ : AV) v, τ.ok Z w v → τ.ok (fun k => Z k ∨ j0C (ν r) = some k) w v := AV.ok_mono (fun _ h => .inl h) (Nat.le_refl _) (fun _ _ _ => rfl)
 have hsv : ∀ (s : SV) v, s.ok Z ν w v → s.ok (fun k => Z k ∨ j0C (ν r) = some k) ν w v := fun s v hs => SV.ok_mono (fun _ h => .inl h) (Nat.le_refl _) (fun _ _ _ => rfl) s v (fun _ _ => rfl) hs
 refine ⟨h.defers, h.tsize, h.cst, h.pin, ⟨h.base.os, h.base.tape, h.base.output, h.base.size, h.base.keepLt, h.base.kept, h.base.zok.or (fun k hk => (hlt k hk).1), fun k hk => .inl (h.base.z0 k hk), fun k hk => ?_⟩, ⟨fun k x hx => ?_, fun k k' hne h1 h2 => ?_⟩, fun d => ?_⟩
 ·rcases hk with hk | hk
  ·exact h.base.zNew k hk
  ·exact .inr (hlt k hk).2.2
 ·rw [Own.look_drop] at hx
  by_cases hkr : k = r
  ·rw [if_pos hkr] at hx; cases hx
  ·rw [if_neg hkr] at hx
   have h3 := h.own.each k x hx
   have hnz : ∀ b, j0C (ν k) = some b → ¬ (Z b ∨ j0C (ν r) = some b) := fun b hb hz => by
    rcases hz with hz | hz
    ·exact (Res.blk_lt h3 hb).2.1 hz
    ·exact h.own.apart r k (fun e => hkr e.symm) (by rw [hr]; simp) (by rw [hx]; simp) b hz hb
   cases x with
   |cells cs =>
    obtain ⟨b', ty', arr, e1, e2, e3, e4, e5, e6⟩ := h3
    exact ⟨b', ty', arr, e1, e2, hnz b' (by rw [e1]; rfl), e4, e5, fun i s hs => let ⟨u, hu, hk⟩ := e6 i s hs; ⟨u, hu, hsv _ _ hk⟩⟩
   |row ty' sz' n' f' =>
    rcases h3 with h4 | ⟨b', cap, arr, e1, e2, e3, e4, e5, e6, e7, e8⟩
    ·exact .inl h4
    ·exact .inr ⟨b', cap, arr, e1, e2, hnz b' (by rw [e1]; rfl), e4, e5, e6, e7, fun i hi j hj => let ⟨u, hu, hk⟩ := e8 i hi j hj; ⟨u, hu, hav _ _ hk⟩⟩
   |obj φ hφ =>
    obtain ⟨b', ob, h1, h2, h4, h5, h6⟩ := h3
    exact ⟨b', ob, h1, h2, hnz b' h1, h5, hav (hφ.av ob) _ h6⟩
   |srow ty' sz' n' cs =>
    rcases h3 with h4 | ⟨b', cap, arr, e1, e2, e3, e4, e5, e6, e7, e8⟩
    ·exact .inl h4
    ·exact .inr ⟨b', cap, arr, e1, e2, hnz b' (by rw [e1]; rfl), e4, e5, e6, e7, fun i s hs => let ⟨u, hu, hk⟩ := e8 i s hs; ⟨u, hu, hsv _ _ hk⟩⟩
 ·have e1 : look O k ≠ none := by
   rw [Own.look_drop] at h1
   by_cases hkr : k = r
   ·rw [if_pos hkr] at h1; exact absurd rfl h1
   ·rw [if_neg hkr] at h1; exact h1
  have e2 : look O k' ≠ none := by
   rw [Own.look_drop] at h2
   by_cases hkr : k' = r
   ·rw [if_pos hkr] at h2; exact absurd rfl h2
   ·rw [if_neg hkr] at h2; exact h2
  exact h.own.apart k k' hne e1 e2
 ·rw [Tab.get_frz]
  have hs := h.slot d
  generalize T.get d = s at hs
  cases s with
  |av σ => exact hav _ _ hs
  |osl k =>
   by_cases hkr : k = r
   ·subst hkr
    have : a.tmps.getD d undef = ν k := hs
    rw [show SV.frz k (.sl n sz f) (.osl k) = .av (.sl n sz f) by simp [SV.frz], this]
    exact J0W hrow (fun _ hz => .inl hz) (fun b hb => .inr hb)
   ·have hb : Nat.beq k r = false := by
     cases hb : Nat.beq k r with
     |false => rfl
     |true => exact absurd (Nat.eq_of_beq_eq_true hb) hkr
    rw [show SV.frz r (.sl n sz f) (.osl k) = .osl k by simp [SV.frz, hb]]
    exact hsv _ _ hs
  |oel k sz' i j =>
   simp only [SV.frz]
   split
   ·exact trivial
   ·exact hsv _ _ hs
  |osx k sz' lo n' =>
   simp only [SV.frz]
   split
   ·exact trivial
   ·exact hsv _ _ hs
  |own k off =>
   simp only [SV.frz]
   split
   ·exact trivial
   ·exact hsv _ _ hs
  |clo k cs =>
   simp only [SV.frz]
   split
   ·exact trivial
   ·exact hsv _ _ hs
  |tupR k ρs =>
   simp only [SV.frz]
   split
   ·exact trivial
   ·exact hsv _ _ hs
  |agg cs =>
   simp only [SV.frz]
   split
   ·exact trivial
   ·exact hsv _ _ hs
  |tupC cs =>
   simp only [SV.frz]
   split
   ·exact trivial
   ·exact hsv _ _ hs
  |fnC k0 cs =>
   simp only [SV.frz]
   split
   ·exact trivial
   ·exact hsv _ _ hs
  |ocs k off len =>
   simp only [SV.frz]
   split
   ·exact trivial
   ·exact hsv _ _ hs
theorem v0m (r : Nat) {ety sz n : Nat} {f : Nat → Nat → AV} (hr : look O r = some (.row ety sz n f)) : Ent T O (T.frz r (.sl n sz f)) (Own.drop r O) :=
 fun _ _ _ ⟨_, _, h⟩ => ⟨_, _, h.freeze hr⟩
theorem X0I {t e : TypeId} {x y : Operand} {r n sz ety h : Nat} {f : Nat → Nat → AV} {q : IntKind} {i : Int} [ht : SlTy P t e sz] (hx : T.ev x = .osl r) (hr : look O r = some (.row ety sz n f)) (hy : T.ev y = .av (.val (.int q i))) (hi : i = ↑h) (hh : h ≤ n) (hp : Nat.blt r 1000 = true := by first | rfl | assumption) :
  VStep P E ⟨d, .slice t x none (some y) none, ty, pos, af, g⟩ T O (T.kill r) ((r, .row ety sz h f) :: Own.kill r O) (.osl r) := by
 refine ⟨by intro c; simp, fun Z ν a w hs => ?_⟩
 have hvx := x0J hx (j0G hs x)
 have hvy := j0w hy (j0G hs y)
 have hrow := hs.own.each r _ hr
 subst hi
 have hgr : w.grownBy w (j0C (ν r)) := ⟨rfl, rfl, rfl, Nat.le_refl _, fun _ _ _ => rfl⟩
 rcases hrow with ⟨h1, h2⟩ | ⟨b, cap, arr, h1, h2, h3, h4, h5, h6, h7, h8⟩
 ·have h0 : h = 0 := by omega
  subst h0
  refine j0B (w' := w) (v := .slice none 0 0) ?_ ⟨_, Z, q0V ν r (.slice none 0 0), rfl, hs.reRow hr hp _ _ hgr (fun b hb => by simp [j0C] at hb) (fun _ => .inl ⟨rfl, rfl⟩), (if_pos rfl : q0V ν r _ r = _).symm⟩
  simp [execOp, Instr.sliceAt, Instr.slice, hvx, h1, hvy, run_underlying ht.und, Instr.sliceBounds, Instr.sliceBound, asIntOf, ht.size w]
 ·have hc : h ≤ cap := by omega
  refine j0B (w' := w) (v := .slice (some ⟨b, 0, none⟩) h cap) ?_ ⟨_, Z, q0V ν r (.slice (some ⟨b, 0, none⟩) h cap), rfl, hs.reRow hr hp _ _ hgr (fun b' hb => .inl (by rw [h1]; exact hb)) (fun _ => .inr ⟨b, cap, arr, rfl, h2, h3, h4, hc, h6, h7, fun i hi j hj => h8 i (by omega) j hj⟩), (if_pos rfl : q0V ν r _ r = _).symm⟩
  simp [execOp, Instr.sliceAt, Instr.slice, hvx, h1, hvy, run_underlying ht.und, Instr.sliceBounds, Instr.sliceBound, asIntOf, ht.size w, hc, j0I]
def bAV (T : Tab) (O : Own) (x : Operand) : AV :=
 match T.ev x with
 |.av τ => τ
 |.osl r => match look O r with | some (.row _ sz n f) => .sl n sz f | _ => .any
 |_ => .any
def V1G (T : Tab) (x : Operand) : List Nat := match T.ev x with | .osl r => [r] | _ => []
theorem y1s {Z : j0q} {ν : j0N} {a : Act} {w : World} (h : SatZ E Z ν T O a w) (x : Operand) : (bAV T O x).ok (fun k => Z k ∨ (k < w.heap.size ∧ ¬ E.keep k)) w (a.eval x) := by
 have hx := j0G h x
 unfold bAV
 cases hs : T.ev x with
 |av τ => rw [hs] at hx; exact AV.ok_mono (fun _ h => .inl h) (Nat.le_refl _) (fun _ _ _ => rfl) _ _ hx
 |osl r =>
  rw [hs] at hx
  have hv : a.eval x = ν r := hx
  dsimp only
  cases hl : look O r with
  |none => exact trivial
  |some y =>
   cases y with
   |cells cs => exact trivial
   |row ety sz n f =>
    dsimp only
    rw [hv]
    have hrow := h.own.each r _ hl
    exact J0W hrow (fun _ h => .inl h) (fun b hb => .inr ⟨(Res.blk_lt hrow hb).1, (Res.blk_lt hrow hb).2.2⟩)
   |obj φ hφ => exact trivial
   |srow ty sz n cs => exact trivial
 |own r off => exact trivial
 |oel r sz i j => exact trivial
 |osx r sz lo len => exact trivial
 |clo k cs => exact trivial
 |tupR r ρs => exact trivial
 |agg cs => exact trivial
 |tupC cs => exact trivial
 |fnC k0 cs => exact trivial
 |ocs r off len => exact trivial
theorem x1f {f : FuncId} {xs : List Operand} {ats : Array TypeId} {τs : List AV} {v : Value} (hc : CtrA P f τs (.val v)) (hx : xs.map (bAV T O) = τs) :
  GV P E ⟨d, .call ⟨.value (.func f), xs.toArray, ats⟩, ty, pos, af, g⟩ T O (.av (.val v)) (xs.flatMap (V1G T)) [] := by
 refine ⟨fun T' O' hT hO => ⟨by intro c; simp, fun Z ν a w hs => ?_⟩⟩
 have hx' : xs.map (bAV T' O') = τs := by
  rw [← hx]
  refine List.map_congr_left fun x hxm => ?_
  have he : T'.ev x = T.ev x := j0r (o := ⟨d, .call ⟨.value (.func f), xs.toArray, ats⟩, ty, pos, af, g⟩) hT (by simp [Op.operands, Call.operands, hxm])
  unfold bAV
  rw [he]
  cases hs : T.ev x with
  |osl r => dsimp only; rw [hO r (List.mem_flatMap.2 ⟨x, hxm, by simp [V1G, hs]⟩)]
  |_ => rfl
 have hall : All2 (fun τ v => AV.ok (fun k => Z k ∨ (k < w.heap.size ∧ ¬ E.keep k)) w τ v) τs (xs.map a.eval) := by
  rw [← hx']
  clear hx hx' hc hT hO
  induction xs with
  |nil => trivial
  |cons x xs ih => exact ⟨y1s hs x, ih⟩
 refine q0g (f := f) (args := (xs.map a.eval).toArray) ?_ ?_
 ·have hen := hc.enters (xs.map a.eval).toArray w
  simp [execOp, resolve, Deferred.ofValue, Act.eval, invoke] at hen ⊢
  exact hen
 ·refine Calls.mono (hc.calls w _ _ (hs.base.zok.or (fun k hk => hk.1)) hall) ?_
  rintro e w' ⟨u, Z', rfl, hb, _, _, _, hv⟩
  have hv' : u = v := hv
  exact ⟨u, rfl, u, Z, ν, rfl, hs.called hb (fun _ h => h) (fun _ h => .inl h) (fun k hk => Nat.lt_of_lt_of_le (hs.base.zLt k hk) hb.size), hv'⟩
def X0O (w w' : World) (Z' : j0q) (ety sz n : Nat) (f : Nat → Nat → AV) (v : Value) : Prop :=
 (v = .slice none 0 0 ∧ n = 0) ∨ ∃ b cap arr, v = .slice (some ⟨b, 0, none⟩) n cap ∧ w.heap.size ≤ b ∧ ¬ Z' b ∧ w'.heap[b]? = some (.cells arr ety (0, 0)) ∧ n ≤ cap ∧ cap ≤ maxLen ∧ arr.size = cap * sz ∧
  ∀ i, i < n → ∀ j, j < sz → ∃ u, arr[i * sz + j]? = some u ∧ (f i j).ok Z' w' u
def W1X (ρs : List AV) (Z' : j0q) (w' : World) (v r : Value) : Prop := match ρs with
 |[] => r = v
 |_ => ∃ us, r = .tuple (v :: us).toArray ∧ All2 (fun τ u => AV.ok Z' w' τ u) ρs us
def Y1e (w : World) (Z : j0q) (ety sz n : Nat) (f : Nat → Nat → AV) (ρs : List AV) (e : Ending) (w' : World) : Prop :=
 ∃ v r Z', e = .returned r ∧ W1X ρs Z' w' v r ∧ Below w.heap.size w w' ∧ (∀ k, Z k → Z' k) ∧ (∀ k, Z' k → Z k ∨ w.heap.size ≤ k) ∧ (∀ k, Z' k → k < w'.heap.size) ∧ X0O w w' Z' ety sz n f v
structure CtrR (P : Program) (f : FuncId) (args : List AV) (ety sz n : Nat) (fr : Nat → Nat → AV) (ρs : List AV) : Prop where
 enters : Enters P f
 calls : ∀ (w : World) (Z : j0q) (vs : List Value), ZOk Z w → All2 (fun τ v => AV.ok Z w τ v) args vs → Calls P f vs.toArray w (Y1e w Z ety sz n fr ρs)
theorem CtrR.ro {f : FuncId} {args : List AV} {ety sz n : Nat} {fr : Nat → Nat → AV} (h : CtrR P f args ety sz n fr []) : CtrA P f args (.sl n sz fr) := by
 refine ⟨h.enters, fun w Z vs hZ hvs => (h.calls w Z vs hZ hvs).mono ?_⟩
 rintro e w' ⟨v, r, Z', rfl, hr, hb, h1, h2, h3, h4⟩
 have hr' : r = v := hr
 subst hr'
 refine ⟨r, fun k => Z' k ∨ j0C r = some k, rfl, hb, fun k hk => .inl (h1 k hk), fun k hk => ?_, fun k hk => ?_, ?_⟩
 ·rcases hk with hk | hk
  ·exact h2 k hk
  ·rcases h4 with ⟨rfl, _⟩ | ⟨b, cap, arr, rfl, hge, _⟩
   ·simp [j0C] at hk
   ·simp only [j0C, Option.some.injEq] at hk; subst hk; exact .inr hge
 ·rcases hk with hk | hk
  ·exact h3 k hk
  ·rcases h4 with ⟨rfl, _⟩ | ⟨b, cap, arr, rfl, hge, _, hh, _⟩
   ·simp [j0C] at hk
   ·simp only [j0C, Option.some.injEq] at hk; subst hk; exact (Array.getElem?_eq_some_iff.1 hh).1
 ·rcases h4 with ⟨rfl, rfl⟩ | ⟨b, cap, arr, rfl, hge, hz, hh, hn, hm, hsz, hf⟩
  ·exact ⟨none, 0, rfl, Nat.le_refl _, Nat.zero_le _, fun hn => absurd hn (Nat.lt_irrefl _)⟩
  ·refine ⟨_, cap, rfl, hn, hm, fun _ => ⟨b, 0, rfl, fun _ => .inr rfl, (Array.getElem?_eq_some_iff.1 hh).1, fun i hi j hj => ?_⟩⟩
   obtain ⟨u, hu, hk⟩ := hf i hi j hj
   exact ⟨u, by rw [Nat.zero_add, cell_of_row w' b _ arr ety _ hh]; exact hu, AV.ok_mono (fun _ h => .inl h) (Nat.le_refl _) (fun _ _ _ => rfl) _ _ hk⟩
theorem SatZ.calledRow {Z Z' : j0q} {ν : j0N} {a : Act} {w w' : World} {r ety sz n : Nat} {f : Nat → Nat → AV} {v : Value} (h : SatZ E Z ν T O a w) (hb : Below w.heap.size w w') (h1 : ∀ k, Z k → Z' k) (h2 : ∀ k, Z' k → Z k ∨ w.heap.size ≤ k) (h3 : ∀ k, Z' k → k < w'.heap.size)
  (hrow : X0O w w' Z' ety sz n f v) (hp : Nat.blt r 1000 = true) : SatZ E Z' (q0V ν r v) (T.kill r) ((r, .row ety sz n f) :: Own.kill r O) a w' := by
 have hk := (h.kill r v hp).called hb h1 h2 h3
 have hnk : ∀ b, w.heap.size ≤ b → ¬ E.keep b := fun b hb hk => by have := h.base.keepLt _ hk; have := h.base.size; omega
 refine hk.addRes r _ ?_ (fun b hb' r' hne hl hb2 => ?_)
 ·rw [show q0V ν r v r = v from if_pos rfl]
  rcases hrow with h4 | ⟨b, cap, arr, e1, e2, e3, e4, e5, e6, e7, e8⟩
  ·exact .inl h4
  ·exact .inr ⟨b, cap, arr, e1, hnk b e2, e3, e4, e5, e6, e7, e8⟩
 ·rw [show q0V ν r v r = v from if_pos rfl] at hb'
  have hge : w.heap.size ≤ b := by
   rcases hrow with ⟨rfl, _⟩ | ⟨b', cap, arr, rfl, e2, _⟩
   ·simp [j0C] at hb'
   ·simp only [j0C, Option.some.injEq] at hb'; subst hb'; exact e2
  rw [Own.look_kill, if_neg hne] at hl
  cases hlo : look O r' with
  |none => rw [hlo] at hl; simp at hl
  |some y =>
   rw [show q0V ν r v r' = ν r' from if_neg hne] at hb2
   have := (Res.blk_lt (h.own.each r' y hlo) hb2).1
   omega
theorem Q0W {f : FuncId} {xs : List Operand} {ats : Array TypeId} {τs : List AV} {ety sz n : Nat} {fr : Nat → Nat → AV} (r : Nat) (hc : CtrR P f τs ety sz n fr []) (hx : xs.map T.ev = τs.map SV.av) (hp : Nat.blt r 1000 = true := by first | rfl | assumption) :
  VStep P E ⟨d, .call ⟨.value (.func f), xs.toArray, ats⟩, ty, pos, af, g⟩ T O (T.kill r) ((r, .row ety sz n fr) :: Own.kill r O) (.osl r) := by
 refine ⟨by intro c; simp, fun Z ν a w hs => ?_⟩
 have hev := v0A hs hx
 refine q0g (f := f) (args := (xs.map a.eval).toArray) ?_ ?_
 ·have hen := hc.enters (xs.map a.eval).toArray w
  simp [execOp, resolve, Deferred.ofValue, Act.eval, invoke] at hen ⊢
  exact hen
 ·refine Calls.mono (hc.calls w Z _ hs.base.zok hev) ?_
  rintro e w' ⟨v, u, Z', rfl, hr, hb, h1, h2, h3, h4⟩
  have hr' : u = v := hr
  subst hr'
  exact ⟨u, rfl, u, Z', q0V ν r u, rfl, hs.calledRow hb h1 h2 h3 h4 hp, (if_pos rfl : q0V ν r u r = u).symm⟩
theorem q0q {f : FuncId} {xs : List Operand} {ats : Array TypeId} {τs : List AV} {ety sz n : Nat} {fr : Nat → Nat → AV} (r : Nat) (hc : CtrR P f τs ety sz n fr []) (hx : xs.map T.ev = τs.map SV.av) (hf : q0Q r T O = true) (hp : Nat.blt r 1000 = true := by first | rfl | assumption) :
  VStep P E ⟨d, .call ⟨.value (.func f), xs.toArray, ats⟩, ty, pos, af, g⟩ T O T ((r, .row ety sz n fr) :: O) (.osl r) := (Q0W r hc hx hp).fresh hf
theorem Y0h {f : FuncId} {xs : List Operand} {ats : Array TypeId} {τs : List AV} {ety sz n : Nat} {fr : Nat → Nat → AV} (r : Nat) (hc : CtrR P f τs ety sz n fr []) (hx : xs.map T.ev = τs.map SV.av) (hp : Nat.blt r 1000 = true := by first | rfl | assumption) :
  GA P E ⟨d, .call ⟨.value (.func f), xs.toArray, ats⟩, ty, pos, af, g⟩ T O (.osl r) [] r (.row ety sz n fr) :=
 ⟨fun T' O' hT _ hf => (Q0W r hc (by
  rw [← hx]
  refine List.map_congr_left fun x hxm => j0r (o := ⟨d, .call ⟨.value (.func f), xs.toArray, ats⟩, ty, pos, af, g⟩) hT ?_
  simp [Op.operands, Call.operands, hxm]) hp).freshP hf, by intro c; simp⟩
end
section
variable {P : Program} {fn : Func} {w : World} {Z : j0q} {N : Nat} {T : Tab} {O : Own}
theorem K0L {P : Program} {f : FuncId} {fn : Func} {c : Code} {args : List AV} {ety sz n : Nat} {fr : Nat → Nat → AV} {ρs : List AV} (N : Nat) (hf : P.funcs[f]? = some fn) (hb : fn.body = some c) (hname : (fn.name == "runtime.NumGoroutine") = false) (hN : fn.ntmps = N) (hlen' : Nat.ble args.length N = true)
  (h : ∀ w Z, CQ P (v0t N w Z) (bodyPost P fn (Y1e w Z ety sz n fr ρs)) (x0a 0 (args.map SV.av)) [] c) : CtrR P f args ety sz n fr ρs := by
 have hlen : args.length ≤ N := Nat.le_of_ble_eq_true hlen'
 refine ⟨fun vs w => ?_, fun w Z vs hZ hvs => ?_⟩
 ·have hname' : fn.name ≠ "runtime.NumGoroutine" := by simpa using hname
  simp [callFunc, hf, hname', hb]
 ·refine calls_of_wp hf hb ?_
  have hl := hvs.len
  refine wpIn_wide.1 ((h w Z).sq _ w ⟨Z, fun _ => undef, rfl, ?_, (fun _ _ h => by cases h), (fun _ _ h => by cases h), ⟨rfl, rfl, rfl, Nat.le_refl _, fun k hk => hk, fun _ _ => rfl, hZ, fun _ hk => hk, fun _ hk => .inl hk⟩, ⟨fun r x hx => by simp [look] at hx, fun r r' _ h1 => by simp [look] at h1⟩, fun d => ?_⟩)
  ·simp only [Array.size_append, List.size_toArray, Array.size_replicate, hN, v0t]; omega
  ·rw [v0z, if_pos (Nat.zero_le _), Nat.sub_zero]
   by_cases hd : d < args.length
   ·have h1 : (args.map SV.av).getD d (.av .any) = .av args[d] := by simp [List.getD, List.getElem?_eq_getElem hd]
    rw [h1]
    obtain ⟨u, hu, hk⟩ := hvs.get d args[d] (List.getElem?_eq_getElem hd)
    have : (vs.toArray ++ Array.replicate (fn.ntmps - vs.toArray.size) undef).getD d undef = u := by
     have hlt := (List.getElem?_eq_some_iff.1 hu).1
     rw [Array.getD_eq_getD_getElem?, Array.getElem?_append_left (by simpa using hlt)]
     simp [hu]
    rw [this]; exact hk
   ·have h1 : (args.map SV.av).getD d (.av .any) = .av .any := by
     rw [List.getD, List.getElem?_eq_none (by simpa using hd)]; rfl
    rw [h1]; trivial
theorem Q0S {Z' : j0q} {ν : j0N} {w' : World} {v : Value} {ety sz n : Nat} {f f' : Nat → Nat → AV} (h : Res.ok (v0t N w Z) Z' ν w' v (.row ety sz n f)) (he : ∀ i, i < n → ∀ j, j < sz → f i j = f' i j) : X0O w w' Z' ety sz n f' v := by
 rcases h with h | ⟨b, cap, arr, h1, h2, h3, h4, h5, h6, h7, h8⟩
 ·exact .inl h
 ·exact .inr ⟨b, cap, arr, h1, Nat.le_of_not_lt h2, h3, h4, h5, h6, h7, fun i hi j hj => let ⟨u, hu, hk⟩ := h8 i hi j hj; ⟨u, hu, by rw [← he i hi j hj]; exact hk⟩⟩
theorem x0Y {t r ety sz n n' : Nat} {f f' : Nat → Nat → AV} (hr : fn.results = #[.tmp t]) (ht : T.get t = .osl r) (ho : look O r = some (.row ety sz n f)) (hn : n = n') (he : ∀ i, i < n → ∀ j, j < sz → f i j = f' i j) :
  SQ (v0t N w Z) T O (bodyPost P fn (Y1e w Z ety sz n' f' []) .ret) := by
 subst hn
 rintro a w' ⟨Z', ν, h⟩
 have hv := h.slot t
 rw [ht] at hv
 have hv' : a.tmps.getD t undef = ν r := hv
 refine bodyPost_ret (results_tmp hr a.tmps P w') h.defers ⟨ν r, ν r, Z', by rw [hv'], rfl, ⟨h.base.os, h.base.tape, h.base.output, h.base.size, h.base.kept⟩, h.base.z0, fun k hk => (h.base.zNew k hk).imp id (fun h => Nat.le_of_not_lt h), h.base.zLt, Q0S (h.own.each r _ ho) he⟩
end
end Go.Vc
end
namespace Go.Vc
open Go Go.RowKit
structure Pt where
 x : Int
 y : Int
deriving DecidableEq, Inhabited
abbrev pv (x y : Int) : AV := .val (.agg #[.int .i64 x, .int .i64 y])
def gp (l : List Pt) (i : Nat) : Pt := l.getD i default
def gi (v : List Nat) (i : Nat) : Nat := v.getD i 0
def pts (l : List Pt) : AV := .sl l.length 2 (fun i j => match j with | 0 => .val (.int .i64 (gp l i).x) | _ => .val (.int .i64 (gp l i).y))
def pf (l : List Pt) : Nat → Nat → AV := fun i j => match j with | 0 => .val (.int .i64 (gp l i).x) | _ => .val (.int .i64 (gp l i).y)
def xf (l : List Nat) : Nat → Nat → AV := fun i _ => .val (.int .i64 ((gi l i : Nat) : Int))
def idx (l : List Nat) : AV := .sl l.length 1 (fun i _ => .val (.int .i64 ((gi l i : Nat) : Int)))
end Go.Vc
section
namespace Go.Vc
open Go Go.RowKit
section
variable {P : Program} {E : Env} {T T' : Tab} {O O' : Own} {o : Oper} {d : Option Tmp} {ty : TypeId} {pos : String} {af : Array Edge} {g : Option (Nat × Bool)}
class EqTy (P : Program) (t : TypeId) (n : outParam Nat) : Prop where
 guard : ∀ (op : BinOp) (x y : Operand) (xs ys : Array Value) (w : World), (eqGuard op t x y (.agg xs) (.agg ys)).run P w = .ok () w
 eql : ∀ (xs ys : List Int) (w : World), xs.length = n → ys.length = n → (binOp .eql t (.agg (xs.map (Value.int .i64)).toArray) (.agg (ys.map (Value.int .i64)).toArray)).run P w = .ok (.bool (xs == ys)) w
 neq : ∀ (xs ys : List Int) (w : World), xs.length = n → ys.length = n → (binOp .neq t (.agg (xs.map (Value.int .i64)).toArray) (.agg (ys.map (Value.int .i64)).toArray)).run P w = .ok (.bool (!(xs == ys))) w
theorem V0B {xt yt : TypeId} {x y : Operand} {n : Nat} {xs ys : List Int} [he : EqTy P xt n] (h1 : T.ev x = .av (.val (.agg (xs.map (Value.int .i64)).toArray))) (h2 : T.ev y = .av (.val (.agg (ys.map (Value.int .i64)).toArray))) (hx : xs.length = n) (hy : ys.length = n) :
  GV P E ⟨d, .binOp .neq xt x y yt, ty, pos, af, g⟩ T O (.av (.val (.bool (!(xs == ys))))) [] [] :=
 y0R h1 h2 (fun w => he.guard ..) (fun w => he.neq xs ys w hx hy)
class BoolTy (P : Program) (t : TypeId) : Prop where
 und : P.underlying t = some .bool
theorem k0W {xt yt : TypeId} {x y : Operand} {a b : Bool} [hb : BoolTy P xt] (h1 : T.ev x = .av (.val (.bool a))) (h2 : T.ev y = .av (.val (.bool b))) :
  GV P E ⟨d, .binOp .eql xt x y yt, ty, pos, af, g⟩ T O (.av (.val (.bool (a == b)))) [] [] :=
 y0R h1 h2 (fun w => by simp [eqGuard]) (fun w => by simp [binOp, Op.equal, Op.maxDepth, run_equalIn_bool' w 9999 xt a b hb.und])
theorem k0Y {x y : Operand} {ats : Array TypeId} {k : IntKind} {m n : Int} (h1 : T.ev x = .av (.val (.int k m))) (h2 : T.ev y = .av (.val (.int k n))) :
  GV P E ⟨d, .call ⟨.builtin .max, #[x, y], ats⟩, ty, pos, af, g⟩ T O (.av (.val (.int k (if m < n then n else m)))) [] [] :=
 j0p [] fun Z ν a w h _ => ⟨_, by
  have e1 := j0w h1 (h x (by simp [Op.operands, Call.operands]))
  have e2 := j0w h2 (h y (by simp [Op.operands, Call.operands]))
  simp [execOp, resolve, invoke, builtin, e1, e2, run_max_int2], rfl⟩
theorem k0Z {x y : Operand} {ats : Array TypeId} {k : IntKind} {m n : Int} (h1 : T.ev x = .av (.val (.int k m))) (h2 : T.ev y = .av (.val (.int k n))) :
  GV P E ⟨d, .call ⟨.builtin .min, #[x, y], ats⟩, ty, pos, af, g⟩ T O (.av (.val (.int k (if n < m then n else m)))) [] [] :=
 j0p [] fun Z ν a w h _ => ⟨_, by
  have e1 := j0w h1 (h x (by simp [Op.operands, Call.operands]))
  have e2 := j0w h2 (h y (by simp [Op.operands, Call.operands]))
  simp [execOp, resolve, invoke, builtin, e1, e2, run_min_int2], rfl⟩
class IntTy (P : Program) (t : TypeId) (k : outParam IntKind) : Prop where
 und : P.underlying t = some (.int k)
theorem j1X {s t : TypeId} {x : Operand} {k k' : IntKind} {n : Int} {m : Int} [hs : IntTy P s k'] [ht : IntTy P t k] (h1 : T.ev x = .av (.val (.int k' n))) (hm : k.wrap n = m) :
  GV P E ⟨d, .convert s t x, ty, pos, af, g⟩ T O (.av (.val (.int k m))) [] [] :=
 j0p [] fun Z ν a w h _ => ⟨.int k m, by
  have e1 := j0w h1 (h x (by simp [Op.operands]))
  simp [execOp, convert, e1, run_underlying hs.und, run_underlying ht.und, Conv.intToInt, hm], rfl⟩
theorem j0S {t e : TypeId} {n sz : Nat} {is : List Nat} {xs : List Operand} {vs us : List Value} {row : Nat → Nat → AV} [ht : SlTy P t e sz]
  (hb : ∀ w, (Instr.buildSlice t n (is.zip vs).toArray).run P w = .ok (.slice (some ⟨w.heap.size, 0, none⟩) n n) (w.alloc (.cells us.toArray e)))
  (hl : xs.length = is.length) (hx : xs.map T.ev = vs.map (fun v => SV.av (.val v))) (hm : Nat.ble n maxLen = true) (hrow : ∀ i, i < n → ∀ j, j < sz → ∃ u, us[i * sz + j]? = some u ∧ row i j = .val u) :
  GV P E ⟨d, .buildSlice t n (is.zip xs).toArray, ty, pos, af, g⟩ T O (.av (.sl n sz row)) [] [] := by
 refine ⟨fun T' O' hT _ => ⟨by intro c; simp, fun Z ν a w hs => ?_⟩⟩
 have hev : ∀ (is : List Nat) (xs : List Operand) (vs : List Value), xs.length = is.length → xs.map T.ev = vs.map (fun v => SV.av (.val v)) → (∀ x ∈ (is.zip xs).map (·.2), (T.ev x).ok Z ν w (a.eval x)) →
   (is.zip xs).map (fun p => (p.1, a.eval p.2)) = is.zip vs := by
  intro is
  induction is with
  |nil => intro xs vs _ _ _; simp
  |cons i is ih =>
   intro xs vs hl hx hok
   match xs, hl with
   |x :: xs, hl =>
    match vs, hx with
    |v :: vs, hx =>
     simp only [List.map_cons, List.cons.injEq] at hx
     have h0 := hok x (by simp)
     rw [hx.1] at h0
     have h0' : a.eval x = v := h0
     simp only [List.zip_cons_cons, List.map_cons, h0', ih xs vs (by simpa using hl) hx.2 (fun y hy => hok y (by simp at hy ⊢; exact .inr hy))]
 have he := hev is xs vs hl hx (fun x hx => by
  rw [← j0r (o := ⟨d, .buildSlice t n (is.zip xs).toArray, ty, pos, af, g⟩) hT (by simpa [Op.operands] using hx)]
  exact j0G hs x)
 refine j0B (w' := w.alloc (.cells us.toArray e)) (v := .slice (some ⟨w.heap.size, 0, none⟩) n n) ?_ ⟨_, _, ν, rfl, hs.allocRo _, ⟨some ⟨w.heap.size, 0, none⟩, n, rfl, Nat.le_refl _, Nat.le_of_ble_eq_true hm, fun hn => ⟨w.heap.size, 0, rfl, fun _ => .inr rfl, by simp, fun i hi j hj => ?_⟩⟩⟩
 ·simp only [execOp, List.map_toArray]
  rw [show (List.map (fun (x : Nat × Operand) => match x with | (i, x) => (i, a.eval x)) (is.zip xs)) = is.zip vs from he]
  simp [hb w]
 ·obtain ⟨u, hu, hr⟩ := hrow i hi j hj
  exact ⟨u, by rw [World.cell?_alloc_new, Nat.zero_add]; simpa using hu, by rw [hr]; exact rfl⟩
theorem X1P {t e : TypeId} {x y : Operand} {n sz bytes : Nat} {q q' : IntKind} {i i' : Int} (r : Nat) [ht : SlTy P t e sz] {zs : List Value} (hzs : zs.length = sz) (he : ∃ inf z, P.info? e = some inf ∧ inf.zero = some z ∧ inf.size = sz ∧ inf.bytes = bytes ∧ z.cells = zs.toArray ∧ 0 < sz)
  (hx : T.ev x = .av (.val (.int .i64 i))) (hy : T.ev y = .av (.val (.int .i64 i'))) (hi : i = ↑n) (hi' : i' = ↑n) (hn : n ≤ maxLen) (hby : n * bytes ≤ 140737488355328) (hp : Nat.blt r 1000 = true := by first | rfl | assumption) :
  VStep P E ⟨d, .makeSlice t x y, ty, pos, af, g⟩ T O (T.kill r) ((r, .row e sz n (fun _ j => .val (zs.getD j undef))) :: Own.kill r O) (.osl r) := by
 refine ⟨by intro c; simp, fun Z ν a w hs => ?_⟩
 have hvx := j0w hx (j0G hs x)
 have hvy := j0w hy (j0G hs y)
 subst hi hi'
 obtain ⟨inf, z, h1, h2, h3, h4, h5, h6⟩ := he
 have hb : (inf.bytes : Int) * (n : Int) ≤ 281474976710656 := by
  have h : ((n * bytes : Nat) : Int) ≤ 140737488355328 := by omega
  rw [Int.natCast_mul, Int.mul_comm] at h
  rw [h4]; omega
 have hrun := run_make (P := P) w t e inf z ht.und h1 h2 .i64 .i64 n n (by omega) (Int.le_refl _) hb (by simp only [maxLen] at hn; omega)
 simp only [Int.toNat_natCast] at hrun
 refine j0B (w' := _) (v := .slice (some ⟨w.heap.size, 0, none⟩) n n) (by simp only [execOp, hvx, hvy, Sem.run_bind, hrun, Result.andThen_ok, Sem.run_pure]; rfl)
  ⟨_, Z, q0V ν r (.slice (some ⟨w.heap.size, 0, none⟩) n n), rfl, hs.newRes r hp _ _ _ rfl (fun _ hk hnz => .inr ⟨w.heap.size, n, _, rfl, hk, hnz, heap_alloc_new _ _, Nat.le_refl _, hn, by simp [madeCells, h3], fun i hi j hj => ?_⟩), (if_pos rfl : q0V ν r _ r = _).symm⟩
 have hlt : i * sz + j < n * sz := by
  have : (i + 1) * sz ≤ n * sz := Nat.mul_le_mul_right _ hi
  rw [Nat.add_mul, Nat.one_mul] at this
  omega
 refine ⟨zs.getD j undef, ?_, rfl⟩
 have hm : (i * sz + j) % zs.length = j := by rw [hzs, Nat.mul_comm, Nat.mul_add_mod, Nat.mod_eq_of_lt hj]
 have hj' : j < zs.length := by omega
 simp only [madeCells, h3, h5]
 rw [Array.getElem?_map, Array.getElem?_eq_getElem (by simpa using hlt)]
 simp only [Array.getElem_range, Option.map_some, List.size_toArray, hm, List.getD, List.getElem?_eq_getElem hj', Option.getD_some]
 rw [getElem!_pos zs.toArray j (by simpa using hj')]
 simp
theorem v0n {x : Operand} {r : Nat} {ρs : List AV} (hx : T.ev x = .tupR r ρs) : GV P E ⟨d, .extract x 0, ty, pos, af, g⟩ T O (.osl r) [] [] :=
 j0p [] fun Z ν a w h _ => by
  have := h x (by simp [Op.operands])
  rw [hx] at this
  obtain ⟨us, he, hc⟩ := this
  exact ⟨ν r, by simp [execOp, he, Instr.extract], rfl⟩
theorem v0E {x : Operand} {r i : Nat} {ρs : List AV} {τ : AV} (hx : T.ev x = .tupR r ρs) (hi : ρs[i]? = some τ) : GV P E ⟨d, .extract x (i + 1), ty, pos, af, g⟩ T O (.av τ) [] [] :=
 j0p [] fun Z ν a w h _ => by
  have := h x (by simp [Op.operands])
  rw [hx] at this
  obtain ⟨us, he, hc⟩ := this
  obtain ⟨u, hu, hk⟩ := hc.get i τ hi
  exact ⟨u, by simp [execOp, he, Instr.extract, hu], hk⟩
theorem Y0N {f : FuncId} {xs : List Operand} {ats : Array TypeId} {τs : List AV} {ety sz n : Nat} {fr : Nat → Nat → AV} {ρ : AV} {ρs : List AV} (r : Nat) (hc : CtrR P f τs ety sz n fr (ρ :: ρs)) (hx : xs.map T.ev = τs.map SV.av) (hp : Nat.blt r 1000 = true := by first | rfl | assumption) :
  VStep P E ⟨d, .call ⟨.value (.func f), xs.toArray, ats⟩, ty, pos, af, g⟩ T O (T.kill r) ((r, .row ety sz n fr) :: Own.kill r O) (.tupR r (ρ :: ρs)) := by
 refine ⟨by intro c; simp, fun Z ν a w hs => ?_⟩
 have hev := v0A hs hx
 refine q0g (f := f) (args := (xs.map a.eval).toArray) ?_ ?_
 ·have hen := hc.enters (xs.map a.eval).toArray w
  simp [execOp, resolve, Deferred.ofValue, Act.eval, invoke] at hen ⊢
  exact hen
 ·refine Calls.mono (hc.calls w Z _ hs.base.zok hev) ?_
  rintro e w' ⟨v, u, Z', rfl, ⟨us, rfl, hus⟩, hb, h1, h2, h3, h4⟩
  exact ⟨_, rfl, _, Z', q0V ν r v, rfl, hs.calledRow hb h1 h2 h3 h4 hp, us, by rw [show q0V ν r v r = v from if_pos rfl], hus⟩
theorem j0O {f : FuncId} {xs : List Operand} {ats : Array TypeId} {τs : List AV} {ety sz n : Nat} {fr : Nat → Nat → AV} {ρ : AV} {ρs : List AV} (r : Nat) (hc : CtrR P f τs ety sz n fr (ρ :: ρs)) (hx : xs.map T.ev = τs.map SV.av) (hf : q0Q r T O = true) (hp : Nat.blt r 1000 = true := by first | rfl | assumption) :
  VStep P E ⟨d, .call ⟨.value (.func f), xs.toArray, ats⟩, ty, pos, af, g⟩ T O T ((r, .row ety sz n fr) :: O) (.tupR r (ρ :: ρs)) := (Y0N r hc hx hp).fresh hf
end
end Go.Vc
end
section
namespace Go.Vc
open Go Go.RowKit
section
variable {P : Program} {E : Env} {T T' : Tab} {O O' : Own} {o : Oper} {d : Option Tmp} {ty : TypeId} {pos : String} {af : Array Edge} {g : Option (Nat × Bool)}
theorem SatZ.turned {Z Z' : j0q} {ν ν' : j0N} {T1 : Tab} {O1 : Own} {a : Act} {w w' : World} {r : Nat} {x : Res} (h : SatZ E Z ν T O a w) (hk : SatZ E Z ν' T1 O1 a w) (hr : look O r = some x) (x' : Res)
  (hO1 : ∀ k, k ≠ r → look O1 k ≠ none → look O k ≠ none) (hne : ∀ k, k ≠ r → ν' k = ν k) (hg : w.grownBy w' (j0C (ν r)))
  (h1 : ∀ k, Z k → Z' k) (h2 : ∀ k, Z' k → Z k ∨ w.heap.size ≤ k ∨ j0C (ν r) = some k) (h3 : ∀ k, Z' k → k < w'.heap.size)
  (hblk : ∀ b, j0C (ν' r) = some b → j0C (ν r) = some b ∨ w.heap.size ≤ b)
  (hx : x'.ok E Z' ν' w' (ν' r)) : SatZ E Z' ν' T1 ((r, x') :: O1) a w' := by
 have hbz : ∀ k, Z k → some k ≠ j0C (ν r) := fun k hk e => (Res.blk_lt (h.own.each r x hr) e.symm).2.1 hk
 have hbk : ∀ k, E.keep k → some k ≠ j0C (ν r) := fun k hk e => (Res.blk_lt (h.own.each r x hr) e.symm).2.2 hk
 have hsame : ∀ k, Z k → k < w.heap.size → w'.heap[k]? = w.heap[k]? := fun k hk hlt => hg.block k hlt (hbz k hk)
 have hav : ∀ (τ : AV) v, τ.ok Z w v → τ.ok Z' w' v := AV.ok_mono h1 hg.size hsame
 have hsv : ∀ (s : SV) v, s.ok Z ν' w v → s.ok Z' ν' w' v := fun s v hs => SV.ok_mono h1 hg.size hsame s v (fun _ _ => rfl) hs
 have hl : ∀ k, k ≠ r → look ((r, x') :: O1) k = look O1 k := fun k hk => j0d x' _ (fun e => hk e.symm)
 have hnz : ∀ b k, k ≠ r → look O k ≠ none → j0C (ν k) = some b → ¬ Z' b := by
  intro b k hkr hOk hb hz
  obtain ⟨y, hy⟩ := Option.ne_none_iff_exists'.1 hOk
  have hbl := Res.blk_lt (h.own.each k y hy) hb
  rcases h2 b hz with h4 | h4 | h4
  ·exact hbl.2.1 h4
  ·omega
  ·exact h.own.apart r k (fun e => hkr e.symm) (by rw [hr]; simp) hOk b h4 hb
 refine ⟨h.defers, h.tsize, h.cst, hk.pin, ⟨hg.os.trans h.base.os, hg.tape.trans h.base.tape, hg.output.trans h.base.output, Nat.le_trans h.base.size hg.size, h.base.keepLt, fun k hk' => ?_, h.base.zok.next h1 hg.size hsame h3, fun k hk => h1 k (h.base.z0 k hk), fun k hk' => ?_⟩,
  ⟨fun k y hy => ?_, fun k k' hkk e1 e2 b hb => ?_⟩, fun d => hsv _ _ (hk.slot d)⟩
 ·rw [hg.block k (Nat.lt_of_lt_of_le (h.base.keepLt k hk') h.base.size) (hbk k hk'), h.base.kept k hk']
 ·rcases h2 k hk' with h4 | h4 | h4
  ·exact h.base.zNew k h4
  ·exact .inr fun hk => by have := h.base.keepLt k hk; have := h.base.size; omega
  ·exact .inr (Res.blk_lt (h.own.each r x hr) h4).2.2
 ·by_cases hkr : k = r
  ·subst hkr
   rw [j0l] at hy
   cases hy
   exact hx
  ·rw [hl k hkr] at hy
   have h3 := hk.own.each k y hy
   have hOk := hO1 k hkr (by rw [hy]; simp)
   have hbne : ∀ b, j0C (ν k) = some b → some b ≠ j0C (ν r) := fun b hb e => h.own.apart r k (fun e => hkr e.symm) (by rw [hr]; simp) hOk b e.symm hb
   have hnz' := fun b => hnz b k hkr hOk
   rw [← hne k hkr] at hbne hnz'
   cases y with
   |cells cs =>
    obtain ⟨b', ty', arr, e1, e2, e3, e4, e5, e6⟩ := h3
    refine ⟨b', ty', arr, e1, e2, hnz' b' (by rw [e1]; rfl), ?_, e5, fun i s hs => let ⟨u, hu, hk⟩ := e6 i s hs; ⟨u, hu, hsv _ _ hk⟩⟩
    rw [hg.block b' (Array.getElem?_eq_some_iff.1 e4).1 (hbne b' (by rw [e1]; rfl))]; exact e4
   |row ty' sz n f =>
    rcases h3 with h1 | ⟨b', cap, arr, e1, e2, e3, e4, e5, e6, e7, e8⟩
    ·exact .inl h1
    ·refine .inr ⟨b', cap, arr, e1, e2, hnz' b' (by rw [e1]; rfl), ?_, e5, e6, e7, fun i hi j hj => let ⟨u, hu, hk⟩ := e8 i hi j hj; ⟨u, hu, hav _ _ hk⟩⟩
     rw [hg.block b' (Array.getElem?_eq_some_iff.1 e4).1 (hbne b' (by rw [e1]; rfl))]; exact e4
   |obj φ hφ =>
    obtain ⟨b', ob, e1, e2, e3, e4, e5⟩ := h3
    refine ⟨b', ob, e1, e2, hnz' b' e1, ?_, hav (hφ.av ob) _ e5⟩
    rw [hg.block b' (Array.getElem?_eq_some_iff.1 e4).1 (hbne b' e1)]; exact e4
   |srow ty' sz n cs =>
    rcases h3 with h1 | ⟨b', cap, arr, e1, e2, e3, e4, e5, e6, e7, e8⟩
    ·exact .inl h1
    ·refine .inr ⟨b', cap, arr, e1, e2, hnz' b' (by rw [e1]; rfl), ?_, e5, e6, e7, fun i s hs => let ⟨u, hu, hk⟩ := e8 i s hs; ⟨u, hu, hsv _ _ hk⟩⟩
     rw [hg.block b' (Array.getElem?_eq_some_iff.1 e4).1 (hbne b' (by rw [e1]; rfl))]; exact e4
 ·have old : ∀ k, k ≠ r → look ((r, x') :: O1) k ≠ none → look O k ≠ none := fun k hkr hn => hO1 k hkr (by rw [← hl k hkr]; exact hn)
  by_cases hkr : k = r
  ·subst hkr
   rw [hne k' (fun e => hkk e.symm)]
   intro hb'
   have hOk := old k' (fun e => hkk e.symm) e2
   rcases hblk b hb with h4 | h4
   ·exact h.own.apart k k' hkk (by rw [hr]; simp) hOk b h4 hb'
   ·obtain ⟨y, hy⟩ := Option.ne_none_iff_exists'.1 hOk
    have := (Res.blk_lt (h.own.each k' y hy) hb').1
    omega
  ·rw [hne k hkr] at hb
   have hOk := old k hkr e1
   by_cases hkr' : k' = r
   ·subst hkr'
    intro hb'
    rcases hblk b hb' with h4 | h4
    ·exact h.own.apart k' k (fun e => hkr e.symm) (by rw [hr]; simp) hOk b h4 hb
    ·obtain ⟨y, hy⟩ := Option.ne_none_iff_exists'.1 hOk
     have := (Res.blk_lt (h.own.each k y hy) hb).1
     omega
   ·rw [hne k' hkr']
    exact h.own.apart k k' hkk hOk (old k' hkr' e2) b hb
def RowAt (w : World) (Z : j0q) (ety sz n : Nat) (f : Nat → Nat → AV) (v : Value) : Prop :=
 (v = .slice none 0 0 ∧ n = 0) ∨ ∃ b cap arr, v = .slice (some ⟨b, 0, none⟩) n cap ∧ ¬ Z b ∧ w.heap[b]? = some (.cells arr ety (0, 0)) ∧ n ≤ cap ∧ cap ≤ maxLen ∧ arr.size = cap * sz ∧
  ∀ i, i < n → ∀ j, j < sz → ∃ u, arr[i * sz + j]? = some u ∧ (f i j).ok Z w u
def Y1r (w : World) (Z : j0q) (v : Value) (ety sz n : Nat) (f : Nat → Nat → AV) (back : Bool) (e : Ending) (w' : World) : Prop :=
 ∃ u v' Z', e = .returned u ∧ (match back with | true => u = v' | false => v' = v) ∧ w.grownBy w' (j0C v) ∧ (∀ k, Z k → Z' k) ∧ (∀ k, Z' k → Z k ∨ w.heap.size ≤ k ∨ j0C v = some k) ∧ (∀ k, Z' k → k < w'.heap.size) ∧
  (∀ b, j0C v' = some b → j0C v = some b ∨ w.heap.size ≤ b) ∧ RowAt w' Z' ety sz n f v'
structure CtrW (P : Program) (f : FuncId) (args : List AV) (ety sz n : Nat) (fr : Nat → Nat → AV) (n' : Nat) (fr' : Nat → Nat → AV) (back : Bool) : Prop where
 enters : Enters P f
 calls : ∀ (w : World) (Z : j0q) (v : Value) (vs : List Value), ZOk Z w → All2 (fun τ v => AV.ok Z w τ v) args vs → RowAt w Z ety sz n fr v → Calls P f (v :: vs).toArray w (Y1r w Z v ety sz n' fr' back)
theorem V0T {Z : j0q} {ν : j0N} {w : World} {v : Value} {ety sz n : Nat} {f : Nat → Nat → AV} (h : Res.ok E Z ν w v (.row ety sz n f)) : RowAt w Z ety sz n f v := by
 rcases h with h | ⟨b, cap, arr, h1, h2, h3, h4, h5, h6, h7, h8⟩
 ·exact .inl h
 ·exact .inr ⟨b, cap, arr, h1, h3, h4, h5, h6, h7, h8⟩
theorem V0K {Z : j0q} {ν : j0N} {w : World} {v : Value} {ety sz n : Nat} {f : Nat → Nat → AV} (h : RowAt w Z ety sz n f v) (hk : ∀ b, j0C v = some b → ¬ E.keep b) : Res.ok E Z ν w v (.row ety sz n f) := by
 rcases h with h | ⟨b, cap, arr, h1, h3, h4, h5, h6, h7, h8⟩
 ·exact .inl h
 ·exact .inr ⟨b, cap, arr, h1, hk b (by rw [h1]; rfl), h3, h4, h5, h6, h7, h8⟩
theorem y1i {f : FuncId} {x : Operand} {xs : List Operand} {ats : Array TypeId} {τs : List AV} {ety sz n n' : Nat} {fr fr' : Nat → Nat → AV} {r : Nat} (hc : CtrW P f τs ety sz n fr n' fr' false) (hx : T.ev x = .osl r) (hr : look O r = some (.row ety sz n fr)) (hxs : xs.map T.ev = τs.map SV.av) :
  VStep P E ⟨d, .call ⟨.value (.func f), (x :: xs).toArray, ats⟩, ty, pos, af, g⟩ T O T ((r, .row ety sz n' fr') :: O) (.av .any) := by
 refine ⟨by intro c; simp, fun Z ν a w hs => ?_⟩
 have hev := v0A hs hxs
 have hvx := x0J hx (j0G hs x)
 have hrow := hs.own.each r _ hr
 refine q0g (f := f) (args := (a.eval x :: xs.map a.eval).toArray) ?_ ?_
 ·have hen := hc.enters (a.eval x :: xs.map a.eval).toArray w
  simp [execOp, resolve, Deferred.ofValue, Act.eval, invoke] at hen ⊢
  exact hen
 ·refine Calls.mono (hc.calls w Z _ _ hs.base.zok hev (by rw [hvx]; exact V0T hrow)) ?_
  rintro e w' ⟨u, v', Z', rfl, hb, hg, h1, h2, h3, h4, h5⟩
  have hb' : v' = a.eval x := hb
  rw [hvx] at hb' hg h2 h4
  subst hb'
  refine ⟨u, rfl, u, Z', ν, rfl, ?_, trivial⟩
  exact hs.turned hs hr _ (fun _ _ h => h) (fun _ _ => rfl) hg h1 h2 h3 (fun _ h => .inl h) (V0K h5 (fun b hb => (Res.blk_lt hrow hb).2.2))
theorem X0H {f : FuncId} {x : Operand} {xs : List Operand} {ats : Array TypeId} {τs : List AV} {ety sz n n' : Nat} {fr fr' : Nat → Nat → AV} {r : Nat} (hc : CtrW P f τs ety sz n fr n' fr' true) (hx : T.ev x = .osl r) (hr : look O r = some (.row ety sz n fr)) (hxs : xs.map T.ev = τs.map SV.av) (hp : Nat.blt r 1000 = true := by first | rfl | assumption) :
  VStep P E ⟨d, .call ⟨.value (.func f), (x :: xs).toArray, ats⟩, ty, pos, af, g⟩ T O (T.kill r) ((r, .row ety sz n' fr') :: Own.kill r O) (.osl r) := by
 refine ⟨by intro c; simp, fun Z ν a w hs => ?_⟩
 have hev := v0A hs hxs
 have hvx := x0J hx (j0G hs x)
 have hrow := hs.own.each r _ hr
 refine q0g (f := f) (args := (a.eval x :: xs.map a.eval).toArray) ?_ ?_
 ·have hen := hc.enters (a.eval x :: xs.map a.eval).toArray w
  simp [execOp, resolve, Deferred.ofValue, Act.eval, invoke] at hen ⊢
  exact hen
 ·refine Calls.mono (hc.calls w Z _ _ hs.base.zok hev (by rw [hvx]; exact V0T hrow)) ?_
  rintro e w' ⟨u, v', Z', rfl, hb, hg, h1, h2, h3, h4, h5⟩
  have hb' : u = v' := hb
  rw [hvx] at hg h2 h4
  subst hb'
  have hu : q0V ν r u r = u := if_pos rfl
  refine ⟨u, rfl, u, Z', q0V ν r u, rfl, ?_, hu.symm⟩
  refine hs.turned (hs.kill r u hp) hr _ (fun k hk hn => ?_) (fun k hk => if_neg hk) hg h1 h2 h3 (fun b hb => h4 b (by rw [hu] at hb; exact hb)) ?_
  ·rw [Own.look_kill, if_neg hk] at hn; simpa using hn
  ·rw [hu]
   refine V0K h5 (fun b hb => ?_)
   rcases h4 b hb with h6 | h6
   ·exact (Res.blk_lt hrow h6).2.2
   ·exact fun hk => by have := hs.base.keepLt b hk; have := hs.base.size; omega
end
section
variable {P : Program} {fn : Func} {w : World} {Z : j0q} {N : Nat} {T : Tab} {O : Own}
def Y1g (N : Nat) (w : World) (Z : j0q) (v : Value) (pin : Bool) : Env :=
 { N := N, keep := fun k => k < w.heap.size ∧ j0C v ≠ some k, w0 := w, Z0 := Z, cst := match pin with | true => (fun d => match d with | 0 => some v | _ + 1 => none) | false => fun _ => none }
theorem Z1E {P : Program} {f : FuncId} {fn : Func} {c : Code} {args : List AV} {ety sz n n' : Nat} {fr fr' : Nat → Nat → AV} {back : Bool} (N : Nat) (hf : P.funcs[f]? = some fn) (hb : fn.body = some c) (hname : (fn.name == "runtime.NumGoroutine") = false) (hN : fn.ntmps = N) (hlen' : Nat.blt args.length N = true)
  (h : ∀ w Z v, CQ P (Y1g N w Z v (!back)) (bodyPost P fn (Y1r w Z v ety sz n' fr' back)) (x0a 0 (.osl 0 :: args.map SV.av)) [(0, .row ety sz n fr)] c) : CtrW P f args ety sz n fr n' fr' back := by
 have hlen : args.length < N := j0H hlen'
 refine ⟨fun vs w => ?_, fun w Z v vs hZ hvs hrow => ?_⟩
 ·have hname' : fn.name ≠ "runtime.NumGoroutine" := by simpa using hname
  simp [callFunc, hf, hname', hb]
 ·refine calls_of_wp hf hb ?_
  have hl := hvs.len
  have hbk : ∀ b, j0C v = some b → ¬ Z b := by
   intro b hb
   rcases hrow with ⟨rfl, _⟩ | ⟨b', cap, arr, rfl, h3, _⟩
   ·simp [j0C] at hb
   ·simp only [j0C, Option.some.injEq] at hb; subst hb; exact h3
  refine wpIn_wide.1 ((h w Z v).sq _ w ⟨Z, fun _ => v, rfl, ?_, fun d u hd => ?_, (fun _ _ h => by cases h), ⟨rfl, rfl, rfl, Nat.le_refl _, fun k hk => hk.1, fun _ _ => rfl, hZ, fun _ hk => hk, fun _ hk => .inl hk⟩, ⟨fun r x hx => ?_, fun r r' hne h1 h2 => ?_⟩, fun d => ?_⟩)
  ·simp only [Array.size_append, List.size_toArray, List.length_cons, Array.size_replicate, hN, Y1g]; omega
  ·cases back with
   |true => cases hd
   |false =>
    match d, hd with
    |0, hd => cases hd; rw [Array.getD_eq_getD_getElem?, Array.getElem?_append_left (by simp)]; simp
  ·by_cases hr : r = 0
   ·subst hr
    rw [j0l] at hx
    cases hx
    exact V0K hrow (fun b hb hk => hk.2 hb)
   ·rw [j0d _ _ (fun e => hr e.symm)] at hx; simp [look] at hx
  ·exfalso
   have e1 : r = 0 := by
    refine Classical.byContradiction fun hr => h1 ?_
    rw [j0d _ _ (fun e => hr e.symm)]; rfl
   have e2 : r' = 0 := by
    refine Classical.byContradiction fun hr => h2 ?_
    rw [j0d _ _ (fun e => hr e.symm)]; rfl
   exact hne (e1.trans e2.symm)
  ·rw [v0z, if_pos (Nat.zero_le _), Nat.sub_zero]
   match d with
   |0 => show _ = v; rw [Array.getD_eq_getD_getElem?, Array.getElem?_append_left (by simp)]; simp
   |d + 1 =>
    by_cases hd : d < args.length
    ·have h1 : (SV.osl 0 :: args.map SV.av).getD (d + 1) (.av .any) = .av args[d] := by simp [List.getD, List.getElem?_eq_getElem hd]
     rw [h1]
     obtain ⟨u, hu, hk⟩ := hvs.get d args[d] (List.getElem?_eq_getElem hd)
     have : ((v :: vs).toArray ++ Array.replicate (fn.ntmps - (v :: vs).toArray.size) undef).getD (d + 1) undef = u := by
      have hlt := (List.getElem?_eq_some_iff.1 hu).1
      rw [Array.getD_eq_getD_getElem?, Array.getElem?_append_left (by simpa using hlt)]
      simp [hu]
     rw [this]; exact hk
    ·have h1 : (SV.osl 0 :: args.map SV.av).getD (d + 1) (.av .any) = .av .any := by
      rw [List.getD, List.getElem?_eq_none (by simpa using hd)]; rfl
     rw [h1]; trivial
theorem grown_of {v : Value} {pin : Bool} {Z' : j0q} {w' : World} (h : Base (Y1g N w Z v pin) Z' w') : w.grownBy w' (j0C v) :=
 ⟨h.os, h.tape, h.output, h.size, fun k hk hne => h.kept k ⟨hk, fun e => hne e.symm⟩⟩
theorem RowAt.cast {w : World} {Z : j0q} {ety sz n n' : Nat} {f f' : Nat → Nat → AV} {v : Value} (h : RowAt w Z ety sz n f v) (hn : n = n') (he : ∀ i, i < n → ∀ j, j < sz → f i j = f' i j) : RowAt w Z ety sz n' f' v := by
 subst hn
 rcases h with h | ⟨b, cap, arr, h1, h3, h4, h5, h6, h7, h8⟩
 ·exact .inl h
 ·exact .inr ⟨b, cap, arr, h1, h3, h4, h5, h6, h7, fun i hi j hj => let ⟨u, hu, hk⟩ := h8 i hi j hj; ⟨u, hu, by rw [← he i hi j hj]; exact hk⟩⟩
theorem w0J {v : Value} {t r ety sz n n' : Nat} {f f' : Nat → Nat → AV} (hr : fn.results = #[.tmp t]) (ht : T.get t = .osl r) (ho : look O r = some (.row ety sz n f)) (hn : n = n') (he : ∀ i, i < n → ∀ j, j < sz → f i j = f' i j) :
  SQ (Y1g N w Z v false) T O (bodyPost P fn (Y1r w Z v ety sz n' f' true) .ret) := by
 rintro a w' ⟨Z', ν, h⟩
 have hv := h.slot t
 rw [ht] at hv
 have hv' : a.tmps.getD t undef = ν r := hv
 have hrow := V0T (h.own.each r _ ho)
 refine bodyPost_ret (results_tmp hr a.tmps P w') h.defers ⟨_, ν r, Z', rfl, hv', grown_of h.base, h.base.z0, fun k hk => ?_, h.base.zLt, fun b hb => ?_, hrow.cast hn he⟩
 ·rcases h.base.zNew k hk with h1 | h1
  ·exact .inl h1
  ·by_cases hlt : w.heap.size ≤ k
   ·exact .inr (.inl hlt)
   ·refine .inr (.inr (Classical.byContradiction fun hne => h1 ⟨by omega, hne⟩))
 ·have hk := (Res.blk_lt (h.own.each r _ ho) hb).2.2
  by_cases hlt : w.heap.size ≤ b
  ·exact .inr hlt
  ·exact .inl (Classical.byContradiction fun hne => hk ⟨by omega, hne⟩)
theorem y0E {t r ety sz n n' : Nat} {f f' : Nat → Nat → AV} {rv : ResultVar} {rvs : List ResultVar} {ρ : AV} {ρs τs : List AV} (hr : fn.results = (.tmp t :: rv :: rvs).toArray) (ht : T.get t = .osl r) (ho : look O r = some (.row ety sz n f)) (hn : n = n') (he : ∀ i, i < n → ∀ j, j < sz → f i j = f' i j)
  (hts : All2 (ResV P T O) (rv :: rvs) τs) (hρ : τs = ρ :: ρs) : SQ (v0t N w Z) T O (bodyPost P fn (Y1e w Z ety sz n' f' (ρ :: ρs)) .ret) := by
 subst hn hρ
 rintro a w' ⟨Z', ν, h⟩
 have hv := h.slot t
 rw [ht] at hv
 have hv' : a.tmps.getD t undef = ν r := hv
 have key : ∀ (rvs : List ResultVar) (τs : List AV), All2 (ResV P T O) rvs τs → ∃ vs, All2 (fun rv v => (J0R a.tmps rv).run P w' = Result.ok v w') rvs vs ∧ All2 (fun τ v => AV.ok Z' w' τ v) τs vs := by
  intro rvs
  induction rvs with
  |nil => intro τs h; match τs, h with | [], _ => exact ⟨[], trivial, trivial⟩
  |cons rv rvs ih =>
   intro τs h'
   match τs, h' with
   |τ :: τs, h' =>
    obtain ⟨v, hv, hk⟩ := h'.1.run h
    obtain ⟨vs, h1, h2⟩ := ih τs h'.2
    exact ⟨v :: vs, ⟨hv, h1⟩, ⟨hk, h2⟩⟩
 obtain ⟨vs, h1, h2⟩ := key _ _ hts
 have hrun := v0R (P := P) (w := w') (vs := ν r :: vs) hr ⟨by show Result.ok _ _ = _; rw [hv'], h1⟩
 have hl := h1.len
 have hne : ¬ (ν r :: vs).toArray.size = 1 := by simp at hl ⊢; intro e; rw [e] at hl; simp at hl
 rw [dif_neg hne] at hrun
 exact bodyPost_ret hrun h.defers ⟨ν r, _, Z', rfl, ⟨vs, rfl, h2⟩, ⟨h.base.os, h.base.tape, h.base.output, h.base.size, h.base.kept⟩, h.base.z0, fun k hk => (h.base.zNew k hk).imp id (fun h => Nat.le_of_not_lt h), h.base.zLt, Q0S (h.own.each r _ ho) he⟩
end
end Go.Vc
end
namespace Go.Vc
open Go Go.RowKit
def Y1N (P : Program) (t : TypeId) : Bool := match P.underlying t with | some (.int .i64) => true | _ => false
theorem x1l {P : Program} {t : TypeId} (h : Y1N P t = true) : P.underlying t = some (.int .i64) := by
 unfold Y1N at h
 split at h
 ·assumption
 ·cases h
theorem V0U {P : Program} {t : TypeId} (h : P.underlying t = some (.int .i64)) (w : World) : (isAgg t).run P w = .ok false w := by
 simp [isAgg, run_underlying h]
theorem z0x {P : Program} {t : TypeId} (h : P.underlying t = some (.int .i64)) (w : World) (cs : Array Value) (k : Nat) (v : Value) (hv : cs[k]? = some v) : (part t cs k).run P w = .ok v w := by
 simp [part, V0U h w, hv]
def V0v (P : Program) : List Field → Nat → Bool
 |[], _ => true
 |f :: fs, k => f.name != "_" && Nat.beq f.offset k && Y1N P f.type && V0v P fs (k + 1)
theorem x0k {P : Program} (D : Nat) (w : World) (xs ys : List Int) : ∀ (fs : List Field) (k : Nat), V0v P fs k = true → xs.length = k + fs.length → ys.length = k + fs.length →
  (Op.eqFields (D + 1) (xs.map (Value.int .i64)).toArray (ys.map (Value.int .i64)).toArray fs).run P w = .ok (xs.drop k == ys.drop k) w
 |[], k, _, hx, hy => by
  simp only [List.length_nil, Nat.add_zero] at hx hy
  rw [List.drop_of_length_le (by omega), List.drop_of_length_le (by omega)]
  rfl
 |f :: fs, k, h, hx, hy => by
  simp only [V0v, Bool.and_eq_true, bne_iff_ne, ne_eq] at h
  obtain ⟨⟨⟨h1, h2⟩, h3⟩, h4⟩ := h
  have h2 := Nat.eq_of_beq_eq_true h2
  have hu := x1l h3
  simp only [List.length_cons] at hx hy
  have hxk : k < xs.length := by omega
  have hyk : k < ys.length := by omega
  have p1 := z0x (P := P) hu w (xs.map (Value.int .i64)).toArray f.offset (.int .i64 xs[k]) (by rw [h2]; simp [List.getElem?_eq_getElem hxk])
  have p2 := z0x (P := P) hu w (ys.map (Value.int .i64)).toArray f.offset (.int .i64 ys[k]) (by rw [h2]; simp [List.getElem?_eq_getElem hyk])
  have p3 := run_equalIn_int (P := P) w D f.type .i64 .i64 xs[k] ys[k] hu
  have ih := x0k D w xs ys fs (k + 1) h4 zO zO
  rw [List.drop_eq_getElem_cons hxk, List.drop_eq_getElem_cons hyk]
  simp only [Op.eqFields, if_pos h1, Sem.run_bind, p1, Result.andThen_ok, p2, p3, List.cons_beq_cons]
  cases hb : (xs[k] == ys[k])
  ·simp
  ·simp only [Bool.not_true, Bool.false_eq_true, if_false, ih, Bool.true_and]
theorem X0X {P : Program} {t : TypeId} {n : Nat} (hu : P.underlying t = some (.struct (P.fieldsOf t))) (hp : P.stoodInHeld t = false) (hg : P.eqGuardType P.depth t = false) (hf : V0v P (P.fieldsOf t).toList 0 = true) (hn : (P.fieldsOf t).toList.length = n) : EqTy P t n := by
 refine ⟨fun op x y xs ys w => run_eqGuard_agg w op t x y xs ys hg, fun xs ys w hx hy => ?_, fun xs ys w hx hy => ?_⟩
 ·have := x0k (P := P) 9998 w xs ys _ 0 hf zO zO
  simp only [Nat.reduceAdd, List.drop_zero] at this
  rw [run_eql_struct, run_equalIn_agg w 9999 t _ _ hu hp, this]
  rfl
 ·have := x0k (P := P) 9998 w xs ys _ 0 hf zO zO
  simp only [Nat.reduceAdd, List.drop_zero] at this
  rw [run_neq_struct, run_equalIn_agg w 9999 t _ _ hu hp, this]
  rfl
def Z1H (P : Program) (e : TypeId) (sz bytes : Nat) : Bool := match P.info? e with
 |some i => match i.zero with | some z => Nat.beq i.size sz && Nat.beq i.bytes bytes && Nat.beq z.cells.size sz && Nat.blt 0 sz | none => false
 |none => false
theorem x0u {P : Program} {e : TypeId} {sz bytes : Nat} (h : Z1H P e sz bytes = true) : EltTy P e sz bytes := by
 unfold Z1H at h
 split at h
 ·rename_i i hi
  split at h
  ·rename_i z hz
   simp only [Bool.and_eq_true] at h
   exact ⟨i, z, hi, hz, Nat.eq_of_beq_eq_true h.1.1.1, Nat.eq_of_beq_eq_true h.1.1.2, Nat.eq_of_beq_eq_true h.1.2, j0H h.2⟩
  ·cases h
 ·cases h
end Go.Vc
section
namespace Go.Vc
open Go Go.RowKit
section
variable {P : Program} {E : Env} {T T' : Tab} {O O' : Own} {o : Oper} {d : Option Tmp} {ty : TypeId} {pos : String} {af : Array Edge} {g : Option (Nat × Bool)}
end
theorem max_eq (m n : Int) : (if m < n then n else m) = max m n := by rw [Int.max_def]; split <;> split <;> omega
end Go.Vc
end
section
namespace Go.Vc
open Go Go.RowKit
section
variable {P : Program} {E : Env} {T T' : Tab} {O O' : Own} {o : Oper} {d : Option Tmp} {ty : TypeId} {pos : String} {af : Array Edge} {g : Option (Nat × Bool)}
theorem Z0E {α : Type} (l : List α) (a d : α) (i : Nat) : (l ++ [a]).getD i d = if i < l.length then l.getD i d else if i = l.length then a else d := by
 simp only [List.getD, List.getElem?_append]
 split
 ·rfl
 ·split
  ·rename_i h; subst h; simp
  ·rw [List.getElem?_singleton, if_neg (by omega)]; rfl
theorem VStep.row {r e sz n n' : Nat} {f f' : Nat → Nat → AV} {s : SV} (h : VStep P E o T O T' ((r, .row e sz n f) :: O') s) (hn : n = n') (hf : ∀ i, i < n → ∀ j, j < sz → f i j = f' i j) : VStep P E o T O T' ((r, .row e sz n' f') :: O') s := by
 refine ⟨h.nd, fun Z ν a w hs => ?_⟩
 have key : ∀ {a w}, (∃ v Z' ν', a = a ∧ SatZ E Z' ν' T' ((r, .row e sz n f) :: O') a w ∧ s.ok Z' ν' w v) → True := fun _ => trivial
 have := h.run Z ν a w hs
 unfold Oper.wp at this ⊢
 revert this
 have conv : ∀ a1 w1, (∃ v Z' ν', a1 = a.put o.dst v ∧ SatZ E Z' ν' T' ((r, .row e sz n f) :: O') a w1 ∧ s.ok Z' ν' w1 v) → (∃ v Z' ν', a1 = a.put o.dst v ∧ SatZ E Z' ν' T' ((r, .row e sz n' f') :: O') a w1 ∧ s.ok Z' ν' w1 v) := by
  rintro a1 w1 ⟨v, Z', ν', h1, h2, h3⟩
  refine ⟨v, Z', ν', h1, ⟨h2.defers, h2.tsize, h2.cst, h2.pin, h2.base, ⟨fun k y hy => ?_, fun k k' hne e1 e2 => ?_⟩, h2.slot⟩, h3⟩
  ·by_cases hk : k = r
   ·subst hk
    rw [j0l] at hy
    cases hy
    exact (RLe.row hn hf).ok (h2.own.each k _ (j0l _ _ _))
   ·rw [j0d _ _ (fun e => hk e.symm)] at hy
    exact h2.own.each k y (by rw [j0d _ _ (fun e => hk e.symm)]; exact hy)
  ·have hh : ∀ k, look ((r, Res.row e sz n' f') :: O') k ≠ none → look ((r, Res.row e sz n f) :: O') k ≠ none := by
    intro k hk
    by_cases hkr : k = r
    ·subst hkr; rw [j0l]; simp
    ·rw [j0d _ _ (fun e => hkr e.symm)] at hk ⊢; exact hk
   exact h2.own.apart k k' hne (hh k e1) (hh k' e2)
 generalize (execOp a.eval o).run P w = rr
 intro this
 cases rr with
 |ok n1 w1 =>
  cases n1 <;> simp only [Oper.upon] at this ⊢ <;> first
   |exact conv _ _ this
   |exact Calls.mono this (fun e w'' he => by cases e with
     |returned v => exact conv _ _ he
     |panicked c => exact he
     |outgrown => exact he)
   |exact Rows.mono this (fun _ _ he => conv _ _ he)
 |halt x w1 => cases x <;> simp only [Oper.upon] at this ⊢
theorem y0H {t e : TypeId} {x y : Operand} {r bytes : Nat} {l : List Pt} {p : Pt} [ht : SlTy P t e 2] [he : EltTy P e 2 bytes] (hx : T.ev x = .osl r) (hr : look O r = some (.row e 2 l.length (pf l))) (hy : T.ev y = .av (.sl 1 2 (pf [p])))
  (hlen : l.length ≤ 1000000) (hby : Nat.ble bytes 64 = true) (hp : Nat.blt r 1000 = true := by first | rfl | assumption) :
  VStep P E ⟨d, .call ⟨.builtin .append, #[x, y], #[t, t]⟩, ty, pos, af, g⟩ T O (T.kill r) ((r, .row e 2 (l ++ [p]).length (pf (l ++ [p]))) :: Own.kill r O) (.osl r) := by
 refine (q0G hx hr hy (fun i _ j _ => by unfold pf; split <;> rfl) (by omega) (by simp only [maxLen]; omega) (by have := Nat.le_of_ble_eq_true hby; calc (l.length + 1) * bytes ≤ 1000001 * 64 := Nat.mul_le_mul (by omega) this
  _ ≤ 140737488355328 := by decide)).row (by simp) (fun i hi j hj => ?_)
 unfold w0u pf gp
 rw [Z0E]
 split
 ·rfl
 ·have h1 : i = l.length := by omega
  subst h1
  simp
theorem y0G {t e : TypeId} {x y : Operand} {r bytes : Nat} {l : List Nat} {p : Nat} [ht : SlTy P t e 1] [he : EltTy P e 1 bytes] (hx : T.ev x = .osl r) (hr : look O r = some (.row e 1 l.length (xf l))) (hy : T.ev y = .av (.sl 1 1 (xf [p])))
  (hlen : l.length ≤ 1000000) (hby : Nat.ble bytes 64 = true) (hp : Nat.blt r 1000 = true := by first | rfl | assumption) :
  VStep P E ⟨d, .call ⟨.builtin .append, #[x, y], #[t, t]⟩, ty, pos, af, g⟩ T O (T.kill r) ((r, .row e 1 (l ++ [p]).length (xf (l ++ [p]))) :: Own.kill r O) (.osl r) := by
 refine (q0G hx hr hy (fun i _ j _ => rfl) (by omega) (by simp only [maxLen]; omega) (by have := Nat.le_of_ble_eq_true hby; calc (l.length + 1) * bytes ≤ 1000001 * 64 := Nat.mul_le_mul (by omega) this
  _ ≤ 140737488355328 := by decide)).row (by simp) (fun i hi j hj => ?_)
 unfold w0u xf gi
 rw [Z0E]
 split
 ·rfl
 ·have h1 : i = l.length := by omega
  subst h1
  simp
theorem Z0D {t e : TypeId} {x : Operand} {p : Pt} [ht : SlTy P t e 2]
  (hb : ∀ w, (Instr.buildSlice t 1 #[(0, .agg #[.int .i64 p.x, .int .i64 p.y])]).run P w = .ok (.slice (some ⟨w.heap.size, 0, none⟩) 1 1) (w.alloc (.cells #[.int .i64 p.x, .int .i64 p.y] e)))
  (hx : T.ev x = .av (pv p.x p.y)) : GV P E ⟨d, .buildSlice t 1 #[(0, x)], ty, pos, af, g⟩ T O (.av (.sl 1 2 (pf [p]))) [] [] :=
 j0S (is := [0]) (xs := [x]) (vs := [_]) (us := [_, _]) hb rfl (by simp only [List.map_cons, List.map_nil, hx]) rfl (fun i hi j hj => by
  obtain rfl : i = 0 := by omega
  match j, hj with
  |0, _ => exact ⟨_, rfl, rfl⟩
  |1, _ => exact ⟨_, rfl, rfl⟩)
theorem z0R {t e : TypeId} {x : Operand} {n : Int} {p : Nat} [ht : SlTy P t e 1]
  (hb : ∀ w, (Instr.buildSlice t 1 #[(0, .int .i64 n)]).run P w = .ok (.slice (some ⟨w.heap.size, 0, none⟩) 1 1) (w.alloc (.cells #[.int .i64 n] e)))
  (hx : T.ev x = .av (.val (.int .i64 n))) (hn : n = ↑p) : GV P E ⟨d, .buildSlice t 1 #[(0, x)], ty, pos, af, g⟩ T O (.av (.sl 1 1 (xf [p]))) [] [] :=
 j0S (is := [0]) (xs := [x]) (vs := [_]) (us := [_]) hb rfl (by simp only [List.map_cons, List.map_nil, hx]) rfl (fun i hi j hj => by
  obtain rfl : i = 0 := by omega
  obtain rfl : j = 0 := by omega
  subst hn
  exact ⟨_, rfl, rfl⟩)
end
end Go.Vc
end
