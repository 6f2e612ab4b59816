/- A part of the proof that the law returns true at every input and that the input reads behind the call as it read before; this part states nothing of its own that needs a condition of the input. -/
import Derived.Laws.CopyRow
import Derived.Laws.IdiomCopy
import Derived.Maps.Own
import Derived.Maps.Range
import Derived.Maps.RangeRun
import Derived.WalkArith
import Derived.Laws.Cover1
import Derived.Test.YtdoppiajbpmmkaaGreatW
set_option linter.unusedVariables false
set_option linter.unusedSimpArgs false
set_option linter.unnecessarySimpa false
namespace Go.Vc
open Go Go.RowKit
/-! ### Functions that are handed things of the caller's own, and turn them -/
def rnm (l : List (Nat × Nat)) (r : Nat) : Nat := match look l r with | some k => k | none => r
def CV.ren (f : Nat → Nat) : CV → CV
  | .av τ => .av τ
  | .own r off => .own (f r) off
  | .osl r => .osl (f r)
def SV.ren (f : Nat → Nat) : SV → SV
  | .av τ => .av τ
  | .own r off => .own (f r) off
  | .osl r => .osl (f r)
  | .oel r sz i j => .oel (f r) sz i j
  | .osx r sz lo len => .osx (f r) sz lo len
  | .clo k cs => .clo k (cs.map (CV.ren f))
  | .tupR r ρs => .tupR (f r) ρs
  | .agg cs => .agg (cs.map (CV.ren f))
def Res.ren (f : Nat → Nat) : Res → Res
  | .cells cs => .cells (cs.map (SV.ren f))
  | .row ty sz n g => .row ty sz n g
  | .obj φ h => .obj φ h
def Own.ren (f : Nat → Nat) (O : Own) : Own := O.map fun p => (f p.1, p.2.ren f)
theorem All2.map_iff {α β γ : Type} {R : β → γ → Prop} {g : α → β} : ∀ {l : List α} {m : List γ}, All2 R (l.map g) m ↔ All2 (fun a c => R (g a) c) l m
  | [], [] => Iff.rfl
  | [], _ :: _ => Iff.rfl
  | _ :: _, [] => Iff.rfl
  | _ :: _, _ :: _ => and_congr_right fun _ => All2.map_iff
theorem CV.ren_ok {Z : Zone} {ν : Vals} {w : World} {f : Nat → Nat} (c : CV) (v : Value) : (c.ren f).ok Z ν w v ↔ c.ok Z (fun r => ν (f r)) w v := by cases c <;> exact Iff.rfl
theorem SV.ren_ok {Z : Zone} {ν : Vals} {w : World} {f : Nat → Nat} (s : SV) (v : Value) : (s.ren f).ok Z ν w v ↔ s.ok Z (fun r => ν (f r)) w v := by
  cases s with
  | clo k cs =>
    refine exists_congr fun vs => and_congr_right fun _ => ?_
    rw [All2.map_iff]
    exact ⟨fun h => h.mono fun c _ u hu => (CV.ren_ok c u).1 hu, fun h => h.mono fun c _ u hu => (CV.ren_ok c u).2 hu⟩
  | agg cs =>
    refine exists_congr fun vs => and_congr_right fun _ => ?_
    rw [All2.map_iff]
    exact ⟨fun h => h.mono fun c _ u hu => (CV.ren_ok c u).1 hu, fun h => h.mono fun c _ u hu => (CV.ren_ok c u).2 hu⟩
  | av _ => exact Iff.rfl
  | own _ _ => exact Iff.rfl
  | osl _ => exact Iff.rfl
  | oel _ _ _ _ => exact Iff.rfl
  | osx _ _ _ _ => exact Iff.rfl
  | tupR _ _ => exact Iff.rfl
theorem Res.ren_ok {E : Env} {Z : Zone} {ν : Vals} {w : World} {f : Nat → Nat} (x : Res) (v : Value) : (x.ren f).ok E Z ν w v ↔ x.ok E Z (fun r => ν (f r)) w v := by
  cases x with
  | row _ _ _ _ => exact Iff.rfl
  | obj _ _ => exact Iff.rfl
  | cells cs =>
    refine exists_congr fun b => exists_congr fun ty => exists_congr fun arr => and_congr_right fun _ => and_congr_right fun _ => and_congr_right fun _ => and_congr_right fun _ => ?_
    rw [List.length_map]
    refine and_congr_right fun _ => ⟨fun h i s hs => ?_, fun h i s hs => ?_⟩
    · obtain ⟨u, hu, hk⟩ := h i (s.ren f) (by simp [hs])
      exact ⟨u, hu, (SV.ren_ok s u).1 hk⟩
    · simp only [List.getElem?_map, Option.map_eq_some_iff] at hs
      obtain ⟨s0, hs0, rfl⟩ := hs
      obtain ⟨u, hu, hk⟩ := h i s0 hs0
      exact ⟨u, hu, (SV.ren_ok s0 u).2 hk⟩

def hpin (O : Own) (ν : Vals) (r : Nat) : Option Value := match Nat.blt r 1000 with | true => none | false => match look O r with | some _ => some (ν r) | none => none
/-- All that is there stays, but for what was handed in; and that stays where it is. -/
def envH (N : Nat) (w : World) (Z : Zone) (O : Own) (ν : Vals) : Env := { N := N, keep := fun k => k < w.heap.size ∧ ¬ ownB O ν k, w0 := w, Z0 := Z, pin := hpin O ν, pinHi := fun r h => by unfold hpin; rw [h] }
def RetH (w : World) (Z : Zone) (ν : Vals) (O : Own) (res : SV) (O' : Own) (e : Ending) (w' : World) : Prop :=
  ∃ u Z' ν', e = .returned u ∧ Base (envH 0 w Z O ν) Z' w' ∧ (∀ r, look O r ≠ none → ν' r = ν r) ∧ OwnOk (envH 0 w Z O ν) O' Z' ν' w' ∧ res.ok Z' ν' w' u
structure CtrH (P : Program) (f : FuncId) (args : List SV) (O : Own) (res : SV) (O' : Own) : Prop where
  enters : Enters P f
  keys : ∀ r, look O r ≠ none → look O' r ≠ none
  calls : ∀ (w : World) (Z : Zone) (ν : Vals) (vs : List Value), (∀ k, Z k → k < w.heap.size) → All2 (fun s v => SV.ok Z ν w s v) args vs → OwnOk (envH 0 w Z O ν) O Z ν w → Calls P f vs.toArray w (RetH w Z ν O res O')

theorem base_envH {N M : Nat} {w : World} {Z : Zone} {O : Own} {ν : Vals} {Z' : Zone} {w' : World} (h : Base (envH N w Z O ν) Z' w') : Base (envH M w Z O ν) Z' w' := ⟨h.os, h.tape, h.output, h.size, h.keepLt, h.kept, h.zLt, h.z0, h.zNew⟩
theorem own_envH {N M : Nat} {w : World} {Z : Zone} {O : Own} {ν : Vals} {Z' : Zone} {ν' : Vals} {w' : World} {O' : Own} (h : OwnOk (envH N w Z O ν) O' Z' ν' w') : OwnOk (envH M w Z O ν) O' Z' ν' w' := ⟨fun r x hx => by have := h.each r x hx; cases x <;> exact this, h.apart⟩
theorem look_ne_mem {α : Type} {O : List (Nat × α)} {r : Nat} (h : look O r ≠ none) : r ∈ O.map (·.1) := by
  obtain ⟨x, hx⟩ := Option.ne_none_iff_exists'.1 h
  exact List.mem_map.2 ⟨_, look_mem hx, rfl⟩
theorem mem_look_ne {α : Type} : ∀ {O : List (Nat × α)} {r : Nat}, r ∈ O.map (·.1) → look O r ≠ none
  | [], _, h => by simp at h
  | (k, y) :: O, r, h => by
    by_cases hk : k = r
    · subst hk; rw [look_cons_eq]; simp
    · rw [look_cons_ne _ _ hk]
      refine mem_look_ne ?_
      simp only [List.map_cons, List.mem_cons] at h
      exact h.resolve_left (fun e => hk e.symm)
def keysHi (O : Own) : Bool := O.all fun p => match Nat.blt p.1 1000 with | true => false | false => true
def keysIn (O O' : Own) : Bool := O.all fun p => (look O' p.1).isSome
theorem keysIn_ok {O O' : Own} (h : keysIn O O' = true) : ∀ r, look O r ≠ none → look O' r ≠ none := by
  intro r hr
  obtain ⟨p, hp, rfl⟩ := List.mem_map.1 (look_ne_mem hr)
  have := List.all_eq_true.1 h p hp
  intro e; rw [e] at this; cases this

theorem ctrH {P : Program} {f : FuncId} {fn : Func} {c : Code} {args : List SV} {O : Own} {res : SV} {O' : Own} (N : Nat) (hf : P.funcs[f]? = some fn) (hb : fn.body = some c) (hname : (fn.name == "runtime.NumGoroutine") = false) (hN : fn.ntmps = N) (hlen' : Nat.ble args.length N = true) (hk : keysIn O O' = true)
    (h : ∀ w Z ν, CQ P (envH N w Z O ν) (bodyPost P fn (RetH w Z ν O res O')) (initT 0 args) O c) : CtrH P f args O res O' := by
  have hlen : args.length ≤ N := Nat.le_of_ble_eq_true hlen'
  refine ⟨fun vs w => ?_, keysIn_ok hk, fun w Z ν vs hZ hvs how => ?_⟩
  · have hname' : fn.name ≠ "runtime.NumGoroutine" := by simpa using hname
    simp [callFunc, hf, hname', hb]
  · refine calls_of_wp hf hb ?_
    have hl := hvs.len
    refine wpIn_wide.1 ((h w Z ν).sq _ w ⟨Z, ν, rfl, ?_, (fun _ _ h => by cases h), (fun r v hr => ?_), ⟨rfl, rfl, rfl, Nat.le_refl _, fun k hk => hk.1, fun _ _ => rfl, hZ, fun _ hk => hk, fun _ hk => .inl hk⟩, own_envH how, fun d => ?_⟩)
    · simp only [Array.size_append, List.size_toArray, Array.size_replicate, hN, envH]; omega
    · change hpin O ν r = some v at hr
      unfold hpin at hr
      split at hr
      · cases hr
      · split at hr
        · cases hr; rfl
        · cases hr
    · rw [initT_get, if_pos (Nat.zero_le _), Nat.sub_zero]
      by_cases hd : d < args.length
      · have h1 : args.getD d (.av .any) = args[d] := by simp [List.getD, List.getElem?_eq_getElem hd]
        rw [h1]
        obtain ⟨u, hu, hk⟩ := hvs.get d args[d] (List.getElem?_eq_getElem hd)
        have : (vs.toArray ++ Array.replicate (fn.ntmps - vs.toArray.size) undef).getD d undef = u := by
          have hlt := (List.getElem?_eq_some_iff.1 hu).1
          rw [Array.getD_eq_getD_getElem?, Array.getElem?_append_left (by simpa using hlt)]
          simp [hu]
        rw [this]; exact hk
      · have h1 : args.getD d (.av .any) = .av .any := by
          rw [List.getD, List.getElem?_eq_none (by simpa using hd)]; rfl
        rw [h1]; trivial

section
variable {P : Program} {fn : Func} {w : World} {Z : Zone} {ν : Vals} {N : Nat} {T : Tab} {O O' : Own} {res : SV}
theorem retH_pin (hhi : keysHi O = true) {Z' : Zone} {ν' : Vals} {a : Act} {w' : World} {T' : Tab} {O1 : Own} (h : SatZ (envH N w Z O ν) Z' ν' T' O1 a w') : ∀ r, look O r ≠ none → ν' r = ν r := by
  intro r hr
  refine h.pin r (ν r) ?_
  show hpin O ν r = _
  obtain ⟨p, hp, rfl⟩ := List.mem_map.1 (look_ne_mem hr)
  have := List.all_eq_true.1 hhi p hp
  unfold hpin
  split
  · rename_i hbl; rw [hbl] at this; cases this
  · obtain ⟨x, hx⟩ := Option.ne_none_iff_exists'.1 hr
    rw [hx]
/-- The end: one result. -/
theorem sq_retH {t : Nat} (hr : fn.results = #[.tmp t]) (hhi : keysHi O = true) (ht : T.get t = res) : SQ (envH N w Z O ν) T O' (bodyPost P fn (RetH w Z ν O res O') .ret) := by
  rintro a w' ⟨Z', ν', h⟩
  have hs := h.slot t
  rw [ht] at hs
  exact bodyPost_ret (results_tmp hr a.tmps P w') h.defers ⟨_, Z', ν', rfl, base_envH h.base, retH_pin hhi h, own_envH h.own, hs⟩
end
end Go.Vc
namespace Go.Vc
open Go Go.RowKit
theorem look_ren {f : Nat → Nat} : ∀ {L : Own} {k : Nat} {y : Res}, look (Own.ren f L) k = some y → ∃ r x, look L r = some x ∧ f r = k ∧ y = x.ren f
  | [], k, y, h => by simp [Own.ren, look] at h
  | (r, x) :: L, k, y, h => by
    change look ((f r, x.ren f) :: Own.ren f L) k = some y at h
    by_cases hk : f r = k
    · subst hk; rw [look_cons_eq] at h; cases h; exact ⟨r, x, look_cons_eq _ _ _, rfl, rfl⟩
    · rw [look_cons_ne _ _ hk] at h
      obtain ⟨r', x', h1, h2, h3⟩ := look_ren h
      exact ⟨r', x', by rw [look_cons_ne _ _ (fun e => hk (by rw [e]; exact h2))]; exact h1, h2, h3⟩
theorem look_ren_ne {f : Nat → Nat} : ∀ {L : Own} {r : Nat}, look L r ≠ none → look (Own.ren f L) (f r) ≠ none
  | [], r, h => by simp [look] at h
  | (k, x) :: L, r, h => by
    change look ((f k, x.ren f) :: Own.ren f L) (f r) ≠ none
    by_cases hk : f k = f r
    · rw [hk, look_cons_eq]; simp
    · rw [look_cons_ne _ _ hk]
      refine look_ren_ne ?_
      rwa [look_cons_ne _ _ (fun e => hk (by rw [e]))] at h
theorem look_app2 {α : Type} : ∀ {A B : List (Nat × α)} {k : Nat}, look (A ++ B) k = match look A k with | some y => some y | none => look B k
  | [], _, _ => rfl
  | (r, x) :: A, B, k => by
    by_cases hk : r = k
    · subst hk; rw [List.cons_append, look_cons_eq, look_cons_eq]
    · rw [List.cons_append, look_cons_ne _ _ hk, look_cons_ne _ _ hk]; exact look_app2

def CV.ref : CV → List Nat
  | .av _ => []
  | .own r _ => [r]
  | .osl r => [r]
def SV.ref : SV → List Nat
  | .av _ => []
  | .own r _ => [r]
  | .osl r => [r]
  | .oel r _ _ _ => [r]
  | .osx r _ _ _ => [r]
  | .clo _ cs => cs.flatMap CV.ref
  | .tupR r _ => [r]
  | .agg cs => cs.flatMap CV.ref
theorem CV.ref_of {r : Nat} {c : CV} (h : c.mentions r = true) : r ∈ c.ref := by
  cases c with
  | av τ => cases h
  | own s o => simp only [CV.mentions] at h; simp [CV.ref, Nat.eq_of_beq_eq_true h]
  | osl s => simp only [CV.mentions] at h; simp [CV.ref, Nat.eq_of_beq_eq_true h]
theorem SV.ref_of {r : Nat} {s : SV} (h : s.mentions r = true) : r ∈ s.ref := by
  have hc : ∀ cs : List CV, cs.any (CV.mentions r) = true → r ∈ cs.flatMap CV.ref := fun cs h => by
    obtain ⟨c, hc, hm⟩ := List.any_eq_true.1 h
    exact List.mem_flatMap.2 ⟨c, hc, CV.ref_of hm⟩
  cases s with
  | av τ => cases h
  | own s o => simp only [SV.mentions] at h; simp [SV.ref, Nat.eq_of_beq_eq_true h]
  | osl s => simp only [SV.mentions] at h; simp [SV.ref, Nat.eq_of_beq_eq_true h]
  | oel s _ _ _ => simp only [SV.mentions] at h; simp [SV.ref, Nat.eq_of_beq_eq_true h]
  | osx s _ _ _ => simp only [SV.mentions] at h; simp [SV.ref, Nat.eq_of_beq_eq_true h]
  | clo k cs => exact hc cs h
  | tupR s _ => simp only [SV.mentions] at h; simp [SV.ref, Nat.eq_of_beq_eq_true h]
  | agg cs => exact hc cs h
def Res.ref : Res → List Nat
  | .cells cs => cs.flatMap SV.ref
  | .row .. => []
  | .obj .. => []

/-- The handed things, as the caller names them. -/
def OwnSub (l : List (Nat × Nat)) (O : Own) : Own → Prop
  | [] => True
  | (r, x) :: O1 => look O (rnm l r) = some (x.ren (rnm l)) ∧ OwnSub l O O1
theorem OwnSub.get {l : List (Nat × Nat)} {O : Own} : ∀ {O1 : Own}, OwnSub l O O1 → ∀ {r x}, look O1 r = some x → look O (rnm l r) = some (x.ren (rnm l))
  | [], _, r, x, h => by simp [look] at h
  | (k, y) :: O1, hs, r, x, h => by
    by_cases hk : k = r
    · subst hk; rw [look_cons_eq] at h; cases h; exact hs.1
    · rw [look_cons_ne _ _ hk] at h; exact hs.2.get h
def nodB : List Nat → Bool
  | [] => true
  | a :: l => l.all (fun b => match Nat.beq a b with | true => false | false => true) && nodB l
theorem nodB_inj {f : Nat → Nat} : ∀ {L : List Nat}, nodB (L.map f) = true → ∀ {x y}, x ∈ L → y ∈ L → f x = f y → x = y
  | [], _, x, _, hx, _, _ => by cases hx
  | a :: L, h, x, y, hx, hy, e => by
    simp only [List.map_cons, nodB, Bool.and_eq_true, List.all_eq_true] at h
    have key : ∀ z ∈ L, f a ≠ f z := fun z hz e => by
      have := h.1 (f z) (List.mem_map.2 ⟨z, hz, rfl⟩)
      rw [e, Nat.beq_refl] at this; cases this
    rcases List.mem_cons.1 hx with hx' | hx'
    · rcases List.mem_cons.1 hy with hy' | hy'
      · rw [hx', hy']
      · rw [hx'] at e; exact absurd e (key y hy')
    · rcases List.mem_cons.1 hy with hy' | hy'
      · rw [hy'] at e; exact absurd e.symm (key x hx')
      · exact nodB_inj h.2 hx' hy' e
/-- What a call's own renaming has to meet. -/
def hokB (T : Tab) (O : Own) (l : List (Nat × Nat)) (Oc O' : Own) (res : SV) : Bool :=
  nodB ((O'.map (·.1)).map (rnm l)) && (O'.all fun p => (look Oc p.1).isSome || (freshB (rnm l p.1) T O && Nat.blt (rnm l p.1) 1000)) && (O'.all fun p => p.2.ref.all fun r => (look O' r).isSome) && (res.ref.all fun r => (look O' r).isSome)
def nuB (l : List (Nat × Nat)) (O' : Own) (ν ν' : Vals) : Vals := fun k => match (O'.map (·.1)).find? (fun r => decide (rnm l r = k)) with | some r => ν' r | none => ν k

section
variable {P : Program} {E : Env} {T : Tab} {O Oc O' : Own} {l : List (Nat × Nat)} {Z Z' : Zone} {ν ν' : Vals} {a : Act} {w w' : World} {res : SV} {d : Option Tmp} {ty : TypeId} {pos : String} {af : Array Edge} {g : Option (Nat × Bool)}
theorem nuB_in (hinj : nodB ((O'.map (·.1)).map (rnm l)) = true) {r : Nat} (hr : look O' r ≠ none) : nuB l O' ν ν' (rnm l r) = ν' r := by
  unfold nuB
  have hm := look_ne_mem hr
  cases hf : (O'.map (·.1)).find? (fun q => decide (rnm l q = rnm l r)) with
  | none =>
    rw [List.find?_eq_none] at hf
    exact absurd (decide_eq_true rfl) (hf r hm)
  | some q =>
    have h1 := List.find?_some hf
    have h2 := List.mem_of_find?_eq_some hf
    rw [nodB_inj hinj h2 hm (of_decide_eq_true h1)]
theorem nuB_old (hν : ∀ r, look Oc r ≠ none → ν' r = ν (rnm l r)) {k : Nat} (hk : ∀ r, look O' r ≠ none → look Oc r = none → rnm l r ≠ k) : nuB l O' ν ν' k = ν k := by
  unfold nuB
  cases hf : (O'.map (·.1)).find? (fun q => decide (rnm l q = k)) with
  | none => rfl
  | some q =>
    have h1 : rnm l q = k := of_decide_eq_true (List.find?_some (p := fun q => decide (rnm l q = k)) hf)
    have h2 := mem_look_ne (List.mem_of_find?_eq_some hf)
    have h3 : look Oc q ≠ none := fun e => hk q h2 e h1
    show ν' q = ν k
    rw [hν q h3, h1]
theorem fresh_facts {r : Nat} (h : freshB r T O = true) : (∀ d, (T.get d).mentions r = false) ∧ look O r = none ∧ ∀ k cs, look O k = some (.cells cs) → ∀ s ∈ cs, s.mentions r = false := by
  obtain ⟨h1, h2⟩ := fresh_kill h
  have key : ∀ s : SV, s.kill r = s → s.mentions r = false := fun s e => by rw [← e]; exact SV.kill_mentions r s
  refine ⟨fun d => key _ (by rw [← Tab.get_kill]; exact h1 d), by rw [← h2 r, Own.look_kill, if_pos rfl], fun k cs hk s hs => key s ?_⟩
  have h3 := h2 k
  rw [Own.look_kill, hk] at h3
  split at h3
  · cases h3
  · simp only [Option.map_some, Res.kill, Option.some.injEq, Res.cells.injEq] at h3
    obtain ⟨i, hi, rfl⟩ := List.getElem_of_mem hs
    have := congrArg (fun l => l[i]?) h3
    simpa [hi] using this
theorem Res.ok_nu {E : Env} {Z : Zone} {ν ν' : Vals} {w : World} {x : Res} {v : Value} (h : x.ok E Z ν w v) (hr : ∀ r ∈ x.ref, ν' r = ν r) : x.ok E Z ν' w v := by
  cases x with
  | row ty sz n f => exact h
  | obj φ hφ => exact h
  | cells cs =>
    obtain ⟨b, ty, arr, h1, h2, h3, h4, h5, h6⟩ := h
    refine ⟨b, ty, arr, h1, h2, h3, h4, h5, fun i s hs => ?_⟩
    obtain ⟨u, hu, hk⟩ := h6 i s hs
    exact ⟨u, hu, SV.ok_mono (fun _ h => h) (Nat.le_refl _) (fun _ _ _ => rfl) s u (fun r hm => hr r (List.mem_flatMap.2 ⟨s, List.mem_of_getElem? hs, SV.ref_of hm⟩)) hk⟩

theorem SatZ.calledH (h : SatZ E Z ν T O a w) (hsub : OwnSub l O Oc) (hok : hokB T O l Oc O' res = true)
    (hb : Base (envH 0 w Z Oc (fun r => ν (rnm l r))) Z' w') (hν : ∀ r, look Oc r ≠ none → ν' r = ν (rnm l r)) (ho : OwnOk (envH 0 w Z Oc (fun r => ν (rnm l r))) O' Z' ν' w') (hkeys : ∀ r, look Oc r ≠ none → look O' r ≠ none) :
    SatZ E Z' (nuB l O' ν ν') T (Own.ren (rnm l) O' ++ O) a w' := by
  simp only [hokB, Bool.and_eq_true, List.all_eq_true, Bool.or_eq_true] at hok
  obtain ⟨⟨⟨hinj, hnew⟩, hcl⟩, _⟩ := hok
  have hown : ∀ b, ownB Oc (fun r => ν (rnm l r)) b → ∃ r, look Oc r ≠ none ∧ look O (rnm l r) ≠ none ∧ blkOf (ν (rnm l r)) = some b := by
    rintro b ⟨r, h1, h2⟩
    obtain ⟨x, hx⟩ := Option.ne_none_iff_exists'.1 h1
    exact ⟨r, h1, by rw [hsub.get hx]; simp, h2⟩
  have hownB : ∀ b, ownB Oc (fun r => ν (rnm l r)) b → b < w.heap.size ∧ ¬ Z b ∧ ¬ E.keep b := by
    intro b hbb
    obtain ⟨r, _, h2, h3⟩ := hown b hbb
    obtain ⟨y, hy⟩ := Option.ne_none_iff_exists'.1 h2
    exact Res.blk_lt (h.own.each _ y hy) h3
  have hnewF : ∀ r, look O' r ≠ none → look Oc r = none → freshB (rnm l r) T O = true ∧ Nat.blt (rnm l r) 1000 = true := by
    intro r hr hc
    obtain ⟨p, hp, rfl⟩ := List.mem_map.1 (look_ne_mem hr)
    rcases hnew p hp with h1 | h1
    · rw [hc] at h1; cases h1
    · exact h1
  have hkeepLt : ∀ k, E.keep k → k < w.heap.size := fun k hk => Nat.lt_of_lt_of_le (h.base.keepLt k hk) h.base.size
  have hZw : ∀ k, Z k → k < w.heap.size → w'.heap[k]? = w.heap[k]? := fun k hk hlt => hb.kept k ⟨hlt, fun ho => (hownB k ho).2.1 hk⟩
  have hav : ∀ (τ : AV) v, τ.ok Z w v → τ.ok Z' w' v := AV.ok_mono hb.z0 hb.size hZw
  have hlookN : ∀ k, look (Own.ren (rnm l) O') k = none → ∀ r, look O' r ≠ none → rnm l r ≠ k := fun k hk r hr e => by
    have := look_ren_ne (f := rnm l) hr
    rw [e] at this; exact this hk
  have hnuO : ∀ k, look (Own.ren (rnm l) O') k = none → nuB l O' ν ν' k = ν k := fun k hk => nuB_old hν (fun r hr _ => hlookN k hk r hr)
  have hblkH : ∀ k b, look (Own.ren (rnm l) O') k = none → look O k ≠ none → blkOf (ν k) = some b → ¬ ownB Oc (fun r => ν (rnm l r)) b := by
    intro k b hk hOk hbk hob
    obtain ⟨r, h1, h2, h3⟩ := hown b hob
    exact h.own.apart (rnm l r) k (hlookN k hk r (hkeys r h1)) h2 hOk b h3 hbk
  have hslotν : ∀ (s : SV), (∀ r, look O' r ≠ none → look Oc r = none → s.mentions (rnm l r) = false) → ∀ k, s.mentions k = true → nuB l O' ν ν' k = ν k := fun s hs k hk =>
    nuB_old hν (fun r h1 h2 e => by rw [← e, hs r h1 h2] at hk; cases hk)
  refine ⟨h.defers, h.tsize, h.cst, fun r v hr => ?_, ⟨hb.os.trans h.base.os, hb.tape.trans h.base.tape, hb.output.trans h.base.output, Nat.le_trans h.base.size hb.size, h.base.keepLt, fun k hk => ?_, hb.zLt, fun k hk => hb.z0 k (h.base.z0 k hk), fun k hk => ?_⟩, ⟨fun k y hy => ?_, fun k k' hne e1 e2 b hb1 => ?_⟩, fun k => ?_⟩
  · rw [nuB_old hν (fun q h1 h2 e => ?_)]
    · exact h.pin r v hr
    · have := (hnewF q h1 h2).2
      rw [e] at this
      rw [E.pinHi r this] at hr; cases hr
  · rw [hb.kept k ⟨hkeepLt k hk, fun ho => (hownB k ho).2.2 hk⟩]; exact h.base.kept k hk
  · rcases hb.zNew k hk with h1 | h1
    · exact h.base.zNew k h1
    · refine .inr fun hkk => h1 ⟨hkeepLt k hkk, fun ho => (hownB k ho).2.2 hkk⟩
  · rw [look_app2] at hy
    cases hl : look (Own.ren (rnm l) O') k with
    | some y' =>
      rw [hl] at hy; dsimp only at hy; cases hy
      obtain ⟨r, x, h1, h2, h3⟩ := look_ren hl
      subst h2 h3
      rw [Res.ren_ok, nuB_in hinj (by rw [h1]; simp)]
      have hx := ho.each r x h1
      refine Res.ok_nu (ν := ν') ?_ (fun q hq => ?_)
      · refine Res.ok_env hx (fun _ _ h => h) (fun b hbb => ?_)
        obtain ⟨q1, q2, q3⟩ := Res.blk_lt hx hbb
        refine ⟨q2, fun hk => q3 ⟨hkeepLt b hk, fun ho => (hownB b ho).2.2 hk⟩, rfl⟩
      · refine nuB_in hinj ?_
        have := hcl (r, x) (look_mem h1) q hq
        intro e; rw [e] at this; cases this
    | none =>
      rw [hl] at hy; dsimp only at hy
      have hOk : look O k ≠ none := by rw [hy]; simp
      rw [hnuO k hl]
      have hx := h.own.each k y hy
      refine Res.ok_nu (ν := ν) (Res.ok_env hx hav (fun b hbb => ?_)) (fun q hq => ?_)
      · obtain ⟨q1, q2, q3⟩ := Res.blk_lt hx hbb
        have hno := hblkH k b hl hOk hbb
        refine ⟨fun hz => ?_, q3, hb.kept b ⟨q1, hno⟩⟩
        rcases hb.zNew b hz with h1 | h1
        · exact q2 h1
        · exact h1 ⟨q1, hno⟩
      · cases y with
        | row ty sz n f => cases hq
        | obj φ hφ => cases hq
        | cells cs =>
          obtain ⟨s, hs, hq⟩ := List.mem_flatMap.1 hq
          refine nuB_old hν (fun r h1 h2 e => ?_)
          have hff := (fresh_facts (hnewF r h1 h2).1).2.2 k cs hy s hs
          have : s.mentions (rnm l r) = true := by
            rw [e]
            cases s with
            | av τ => cases hq
            | own s o => simp only [SV.ref, List.mem_singleton] at hq; subst hq; simp [SV.mentions]
            | osl s => simp only [SV.ref, List.mem_singleton] at hq; subst hq; simp [SV.mentions]
            | oel s _ _ _ => simp only [SV.ref, List.mem_singleton] at hq; subst hq; simp [SV.mentions]
            | osx s _ _ _ => simp only [SV.ref, List.mem_singleton] at hq; subst hq; simp [SV.mentions]
            | tupR s _ => simp only [SV.ref, List.mem_singleton] at hq; subst hq; simp [SV.mentions]
            | clo f cs =>
              obtain ⟨c, hc, hq⟩ := List.mem_flatMap.1 hq
              refine List.any_eq_true.2 ⟨c, hc, ?_⟩
              cases c with
              | av τ => cases hq
              | own s o => simp only [CV.ref, List.mem_singleton] at hq; subst hq; simp [CV.mentions]
              | osl s => simp only [CV.ref, List.mem_singleton] at hq; subst hq; simp [CV.mentions]
            | agg cs =>
              obtain ⟨c, hc, hq⟩ := List.mem_flatMap.1 hq
              refine List.any_eq_true.2 ⟨c, hc, ?_⟩
              cases c with
              | av τ => cases hq
              | own s o => simp only [CV.ref, List.mem_singleton] at hq; subst hq; simp [CV.mentions]
              | osl s => simp only [CV.ref, List.mem_singleton] at hq; subst hq; simp [CV.mentions]
          rw [hff] at this; cases this
  · rw [look_app2] at e1 e2
    cases hl : look (Own.ren (rnm l) O') k with
    | some y =>
      obtain ⟨r, x, h1, h2, _⟩ := look_ren hl
      subst h2
      have hr : look O' r ≠ none := by rw [h1]; simp
      rw [nuB_in hinj hr] at hb1
      cases hl' : look (Own.ren (rnm l) O') k' with
      | some y' =>
        obtain ⟨r', x', h1', h2', _⟩ := look_ren hl'
        subst h2'
        rw [nuB_in hinj (by rw [h1']; simp)]
        exact ho.apart r r' (fun e => hne (by rw [e])) hr (by rw [h1']; simp) b hb1
      | none =>
        rw [hl'] at e2; dsimp only at e2
        rw [hnuO k' hl']
        intro hb2
        obtain ⟨y', hy'⟩ := Option.ne_none_iff_exists'.1 e2
        have q1 := (Res.blk_lt (h.own.each k' y' hy') hb2).1
        exact (Res.blk_lt (ho.each r x h1) hb1).2.2 ⟨q1, hblkH k' b hl' e2 hb2⟩
    | none =>
      rw [hl] at e1; dsimp only at e1
      rw [hnuO k hl] at hb1
      cases hl' : look (Own.ren (rnm l) O') k' with
      | some y' =>
        obtain ⟨r', x', h1', h2', _⟩ := look_ren hl'
        subst h2'
        rw [nuB_in hinj (by rw [h1']; simp)]
        intro hb2
        obtain ⟨y, hy⟩ := Option.ne_none_iff_exists'.1 e1
        have q1 := (Res.blk_lt (h.own.each k y hy) hb1).1
        exact (Res.blk_lt (ho.each r' x' h1') hb2).2.2 ⟨q1, hblkH k b hl e1 hb1⟩
      | none =>
        rw [hl'] at e2; dsimp only at e2
        rw [hnuO k' hl']
        exact h.own.apart k k' hne e1 e2 b hb1
  · exact SV.ok_mono hb.z0 hb.size hZw _ _ (fun r hm => hslotν _ (fun q h1 h2 => (fresh_facts (hnewF q h1 h2).1).1 k) r hm) (h.slot k)

theorem OwnSub.own (h : SatZ E Z ν T O a w) (hsub : OwnSub l O Oc) (hinj : nodB ((Oc.map (·.1)).map (rnm l)) = true) : OwnOk (envH 0 w Z Oc (fun r => ν (rnm l r))) Oc Z (fun r => ν (rnm l r)) w := by
  refine ⟨fun r x hx => ?_, fun r r' hne h1 h2 b hb1 => ?_⟩
  · have hx' := h.own.each _ _ (hsub.get hx)
    rw [Res.ren_ok] at hx'
    refine Res.ok_env hx' (fun _ _ h => h) (fun b hbb => ⟨(Res.blk_lt hx' hbb).2.1, fun hk => hk.2 ⟨r, by rw [hx]; simp, hbb⟩, rfl⟩)
  · obtain ⟨x, hx⟩ := Option.ne_none_iff_exists'.1 h1
    obtain ⟨x', hx'⟩ := Option.ne_none_iff_exists'.1 h2
    exact h.own.apart _ _ (fun e => hne (nodB_inj hinj (look_ne_mem h1) (look_ne_mem h2) e)) (by rw [hsub.get hx]; simp) (by rw [hsub.get hx']; simp) b hb1
end
end Go.Vc
namespace Go.Vc
open Go Go.RowKit
section
variable {P : Program} {E : Env} {T : Tab} {O Oc O' : Own} {d : Option Tmp} {ty : TypeId} {pos : String} {af : Array Edge} {g : Option (Nat × Bool)}
theorem evs_sv {Z : Zone} {ν : Vals} {a : Act} {w : World} (h : SatZ E Z ν T O a w) : ∀ {xs : List Operand} {ss : List SV}, xs.map T.ev = ss → All2 (fun s v => SV.ok Z ν w s v) ss (xs.map a.eval)
  | [], [], _ => trivial
  | x :: xs, s :: ss, he => by
    simp only [List.map_cons, List.cons.injEq] at he
    refine ⟨?_, evs_sv h he.2⟩
    have := ev_ok h x
    rw [he.1] at this
    exact this
  | [], _ :: _, he => by simp at he
  | _ :: _, [], he => by simp at he
theorem evs_ren {Z : Zone} {ν : Vals} {w : World} {f : Nat → Nat} {ss : List SV} {vs : List Value} (h : All2 (fun s v => SV.ok Z ν w s v) (ss.map (SV.ren f)) vs) : All2 (fun s v => SV.ok Z (fun r => ν (f r)) w s v) ss vs := by
  rw [All2.map_iff] at h
  exact h.mono fun s _ v hv => (SV.ren_ok s v).1 hv
theorem All2.app {α β : Type} {R : α → β → Prop} : ∀ {l : List α} {m : List β} {l' : List α} {m' : List β}, All2 R l m → All2 R l' m' → All2 R (l ++ l') (m ++ m')
  | [], [], _, _, _, h => h
  | _ :: _, _ :: _, _, _, h, h' => ⟨h.1, All2.app h.2 h'⟩
  | [], _ :: _, _, _, h, _ => h.elim
  | _ :: _, [], _, _, h, _ => h.elim
theorem hok_inj {l : List (Nat × Nat)} {res : SV} (hok : hokB T O l Oc O' res = true) (hk : ∀ r, look Oc r ≠ none → look O' r ≠ none) : ∀ r r', look Oc r ≠ none → look Oc r' ≠ none → rnm l r = rnm l r' → r = r' := by
  simp only [hokB, Bool.and_eq_true] at hok
  exact fun r r' h1 h2 e => nodB_inj hok.1.1.1 (look_ne_mem (hk r h1)) (look_ne_mem (hk r' h2)) e
theorem OwnSub.own' {l : List (Nat × Nat)} {Z : Zone} {ν : Vals} {a : Act} {w : World} (h : SatZ E Z ν T O a w) (hsub : OwnSub l O Oc) (hinj : ∀ r r', look Oc r ≠ none → look Oc r' ≠ none → rnm l r = rnm l r' → r = r') : OwnOk (envH 0 w Z Oc (fun r => ν (rnm l r))) Oc Z (fun r => ν (rnm l r)) w := by
  refine ⟨fun r x hx => ?_, fun r r' hne h1 h2 b hb1 => ?_⟩
  · have hx' := h.own.each _ _ (hsub.get hx)
    rw [Res.ren_ok] at hx'
    refine Res.ok_env hx' (fun _ _ h => h) (fun b hbb => ⟨(Res.blk_lt hx' hbb).2.1, fun hk => hk.2 ⟨r, by rw [hx]; simp, hbb⟩, rfl⟩)
  · obtain ⟨x, hx⟩ := Option.ne_none_iff_exists'.1 h1
    obtain ⟨x', hx'⟩ := Option.ne_none_iff_exists'.1 h2
    exact h.own.apart _ _ (fun e => hne (hinj r r' h1 h2 e)) (by rw [hsub.get hx]; simp) (by rw [hsub.get hx']; simp) b hb1
theorem res_ren {l : List (Nat × Nat)} {res : SV} {Z : Zone} {ν ν' : Vals} {w : World} {v : Value} (hok : hokB T O l Oc O' res = true) (h : res.ok Z ν' w v) : (res.ren (rnm l)).ok Z (nuB l O' ν ν') w v := by
  simp only [hokB, Bool.and_eq_true, List.all_eq_true] at hok
  rw [SV.ren_ok]
  refine SV.ok_mono (fun _ h => h) (Nat.le_refl _) (fun _ _ _ => rfl) res v (fun r hm => nuB_in hok.1.1.1 ?_) h
  have := hok.2 r (SV.ref_of hm)
  intro e; rw [e] at this; cases this

/-- A call that turns things of the caller's own. -/
theorem v_call_h {f : FuncId} {xs : List Operand} {ats : Array TypeId} {args : List SV} {res : SV} (l : List (Nat × Nat)) (hc : CtrH P f args Oc res O') (hx : xs.map T.ev = args.map (SV.ren (rnm l))) (hsub : OwnSub l O Oc) (hok : hokB T O l Oc O' res = true) :
    VStep P E ⟨d, .call ⟨.value (.func f), xs.toArray, ats⟩, ty, pos, af, g⟩ T O T (Own.ren (rnm l) O' ++ O) (res.ren (rnm l)) := by
  refine ⟨by intro c; simp, fun Z ν a w hs => ?_⟩
  have hev := evs_ren (evs_sv hs hx)
  refine wp_enter (f := f) (args := (xs.map a.eval).toArray) ?_ ?_
  · have hen := hc.enters (xs.map a.eval).toArray w
    simp [execOp, resolve, Deferred.ofValue, Act.eval, invoke] at hen ⊢
    exact hen
  · refine Calls.mono (hc.calls w Z _ _ hs.base.zLt hev (hsub.own' hs (hok_inj hok hc.keys))) ?_
    rintro e w' ⟨u, Z', ν', rfl, hb, hν, ho, hr⟩
    exact ⟨u, rfl, u, Z', nuB l O' ν ν', rfl, hs.calledH hsub hok hb hν ho hc.keys, res_ren hok hr⟩
end
end Go.Vc
namespace Go.Vc
open Go Go.RowKit
section
variable {P : Program} {E : Env} {T T' : Tab} {O O' : Own} {o : Oper} {d : Option Tmp} {ty : TypeId} {pos : String} {af : Array Edge} {g : Option (Nat × Bool)}
/-- s[:k] of a row of the call's own. -/
theorem g_to {t e : TypeId} {x y : Operand} {r n sz ety : Nat} {f : Nat → Nat → AV} {q : IntKind} {i : Int} {k : Nat} [ht : SlTy P t e sz] (hx : T.ev x = .osl r) (hr : look O r = some (.row ety sz n f)) (hy : T.ev y = .av (.val (.int q i))) (hi : i = ↑k) (hk : k ≤ n) (hn : 0 < n) :
    GV P E ⟨d, .slice t x none (some y) none, ty, pos, af, g⟩ T O (.osx r sz 0 k) [r] [] :=
  gv_pure [r] fun Z ν a w h hO => by
    have hv := osl_ok hx (h x (by simp [Op.operands]))
    have hvi := val_ok hy (h y (by simp [Op.operands]))
    subst hi
    rcases hO r (by simp) _ hr with ⟨_, h2⟩ | ⟨b, cap, arr, h1, _, _, _, hnc, hcm, _⟩
    · omega
    · refine ⟨.slice (some ⟨b, 0, none⟩) k cap, ?_, b, n, cap, some ⟨b, 0, none⟩, h1, by simp, fun hp => by simp⟩
      have h4 : ¬ (cap < k) := by omega
      have h5 : k ≤ cap := by omega
      have h6 : ¬ cap = 0 := by omega
      simp [execOp, Instr.sliceAt, Instr.slice, hv, h1, hvi, run_underlying ht.und, Instr.sliceBounds, Instr.sliceBound, asIntOf, ht.size w, add_addr, h4, h5, h6]

/-- The row of r is the same, told otherwise. -/
theorem SatZ.rerow {Z : Zone} {ν : Vals} {a : Act} {w : World} {r n sz ety : Nat} {f f' : Nat → Nat → AV} (hs : SatZ E Z ν T O a w) (hr : look O r = some (.row ety sz n f)) (hf : ∀ i, i < n → ∀ j, j < sz → f i j = f' i j) : SatZ E Z ν T ((r, .row ety sz n f') :: O) a w := by
  refine ⟨hs.defers, hs.tsize, hs.cst, hs.pin, hs.base, ⟨fun k y hy => ?_, fun k k' hne q1 q2 => ?_⟩, hs.slot⟩
  · by_cases hk : k = r
    · subst hk
      rw [look_cons_eq] at hy
      cases hy
      exact (RLe.row rfl hf).ok (hs.own.each k _ hr)
    · rw [look_cons_ne _ _ (fun e => hk e.symm)] at hy
      exact hs.own.each k y hy
  · have hh : ∀ k, look ((r, Res.row ety sz n f') :: O) k ≠ none → look O k ≠ none := by
      intro k hk
      by_cases hkr : k = r
      · subst hkr; rw [hr]; simp
      · rw [look_cons_ne _ _ (fun e => hkr e.symm)] at hk; exact hk
    exact hs.own.apart k k' hne (hh k q1) (hh k' q2)
/-- Some rows are told otherwise. -/
theorem ent_upd {upd : Own} (h : EntO O upd) : Ent T O T (upd ++ O) := by
  rintro E a w ⟨Z, ν, hs⟩
  have key : ∀ (upd : Own), EntO O upd → ∀ k y, look upd k = some y → ∃ x, look O k = some x ∧ RLe x y := by
    intro upd
    induction upd with
    | nil => intro _ k y hy; simp [look] at hy
    | cons p U ih =>
      obtain ⟨q, x⟩ := p
      intro h k y hy
      by_cases hk : q = k
      · subst hk; rw [look_cons_eq] at hy; cases hy; exact h.1
      · rw [look_cons_ne _ _ hk] at hy; exact ih h.2 k y hy
  have hh : ∀ k, look (upd ++ O) k ≠ none → look O k ≠ none := by
    intro k hk
    rw [look_app2] at hk
    cases hl : look upd k with
    | none => rw [hl] at hk; exact hk
    | some y => obtain ⟨x, hx, _⟩ := key upd h k y hl; rw [hx]; simp
  refine ⟨Z, ν, hs.defers, hs.tsize, hs.cst, hs.pin, hs.base, ⟨fun k y hy => ?_, fun k k' hne q1 q2 => hs.own.apart k k' hne (hh k q1) (hh k' q2)⟩, hs.slot⟩
  rw [look_app2] at hy
  cases hl : look upd k with
  | none => rw [hl] at hy; exact hs.own.each k y hy
  | some z =>
    rw [hl] at hy; cases hy
    obtain ⟨x, hx, hr⟩ := key upd h k _ hl
    exact hr.ok (hs.own.each k x hx)
theorem VStep.pre {s : SV} {O1 : Own} (h : Ent T O T O1) (v : VStep P E o T O1 T' O' s) : VStep P E o T O T' O' s := by
  refine ⟨v.nd, fun Z ν a w hs => ?_⟩
  obtain ⟨Z1, ν1, h1⟩ := h E a w ⟨Z, ν, hs⟩
  exact v.run Z1 ν1 a w h1
end
end Go.Vc
namespace Go.Vc
open Go Go.RowKit
section
variable {P : Program} {E : Env} {T T' : Tab} {O O' : Own} {o : Oper} {d : Option Tmp} {ty : TypeId} {pos : String} {af : Array Edge} {g : Option (Nat × Bool)}
/-- The empty slice, built. -/
theorem v_bs0 {t e sz : Nat} (f : Nat → Nat → AV) (r : Nat) [ht : SlTy P t e sz] (hb : ∀ w, (Instr.buildSlice t 0 #[]).run P w = .ok (.slice (some ⟨w.heap.size, 0, none⟩) 0 0) (w.alloc (.cells #[] e))) (hp : Nat.blt r 1000 = true := by first | rfl | assumption) :
    VStep P E ⟨d, .buildSlice t 0 #[], ty, pos, af, g⟩ T O (T.kill r) ((r, .row e sz 0 f) :: Own.kill r O) (.osl r) := by
  refine ⟨by intro c; simp, fun Z ν a w hs => ?_⟩
  refine wp_value (w' := w.alloc (.cells #[] e)) (v := .slice (some ⟨w.heap.size, 0, none⟩) 0 0) (by simp [execOp, hb])
    ⟨_, Z, updV ν r (.slice (some ⟨w.heap.size, 0, none⟩) 0 0), rfl, hs.newRes r hp _ _ _ rfl (fun _ hk hnz => .inr ⟨w.heap.size, 0, _, rfl, hk, hnz, heap_alloc_new _ _, Nat.le_refl _, Nat.zero_le _, by simp, fun i hi => by omega⟩), (if_pos rfl : updV ν r _ r = _).symm⟩
theorem f_bs0 {t e sz : Nat} (f : Nat → Nat → AV) (r : Nat) [ht : SlTy P t e sz] (hb : ∀ w, (Instr.buildSlice t 0 #[]).run P w = .ok (.slice (some ⟨w.heap.size, 0, none⟩) 0 0) (w.alloc (.cells #[] e))) (hf : freshB r T O = true) (hp : Nat.blt r 1000 = true := by first | rfl | assumption) :
    VStep P E ⟨d, .buildSlice t 0 #[], ty, pos, af, g⟩ T O T ((r, .row e sz 0 f) :: O) (.osl r) := (v_bs0 f r hb hp).fresh hf
/-- A slice that is not empty is not nil. -/
theorem g_eqnil_sl {t t' : TypeId} {x y : Operand} {n sz : Nat} {row : Nat → Nat → AV} (hg : ∀ (a : Addr) (n c : Nat) (w : World), (eqGuard .eql t x y (.slice (some a) n c) (.slice none 0 0)).run P w = .ok () w) (hv : ∀ (a : Addr) (n c : Nat) (w : World), (binOp .eql t (.slice (some a) n c) (.slice none 0 0)).run P w = .ok (.bool false) w) (hx : T.ev x = .av (.sl n sz row)) (hy : T.ev y = .av (.val (.slice none 0 0))) (hn : 0 < n) :
    GV P E ⟨d, .binOp .eql t x y t', ty, pos, af, g⟩ T O (.av (.val (.bool false))) [] [] :=
  gv_pure [] fun Z ν a w h _ => by
    obtain ⟨p, c, e1, _, _, e4⟩ := sl_ok hx (h x (by simp [Op.operands]))
    obtain ⟨b, o', rfl, _⟩ := e4 hn
    have e2 := val_ok hy (h y (by simp [Op.operands]))
    exact ⟨.bool false, run_binOp e1 e2 (hg _ _ _ _) (hv _ _ _ _), rfl⟩

end
end Go.Vc
/-! Maps whose keys are numbers: read-only ones, the call's own, loops over them. -/
namespace Go.Vc
open Go Go.RowKit Go.MapKept
open Go.WideElems (Fit rd rg pl rd_key rd_val rg_of rd_mk rd_stay other_key)
open Go.Maps (Keyed int_keyed keyOf_int_mk fit_look)
open Go.ChangeMaps (setBlock heap_setBlock_same modify_eq_set)

class MapTy (P : Program) (t : TypeId) (k e : outParam TypeId) : Prop where
  und : P.underlying t = some (.map k e)
  key : P.underlying k = some (.int .i64)
def R0 : Value → Option (DataW Unit × List MemPlace) := fun _ => some (.nil, [])
structure IMap (P : Program) (k : TypeId) (es : Array MapEntry) (clock : Nat) (ks : List Int) (n : Nat) : Prop where
  fit : Fit P k R0 es clock
  sz : es.size ≤ n
  key : ∀ x ∈ es.toList, ∃ a ∈ ks, x.key = .int .i64 a
  all : ∀ a ∈ ks, ∃ x ∈ es.toList, x.key = .int .i64 a
def insK (a : Int) (ks : List Int) : List Int := if a ∈ ks then ks else ks ++ [a]
theorem mem_insK {a x : Int} {ks : List Int} : x ∈ insK a ks ↔ x = a ∨ x ∈ ks := by
  unfold insK
  split
  · rename_i h
    exact ⟨.inr, fun h2 => h2.elim (fun e => e ▸ h) id⟩
  · simp [or_comm]
theorem IMap.find {P : Program} {t k e : TypeId} {es : Array MapEntry} {clock : Nat} {ks : List Int} {n : Nat} (h : IMap P k es clock ks n) [ht : MapTy P t k e] {z : Value} {w : World} {b : Nat} (hz : (zeroValue e).run P w = .ok z w) (hb : w.heap[b]? = some (.map es clock)) {a : Int} (ha : (Lit.int .i64 a).wf = true) :
    ((Instr.lookup t (.map (some b)) (.int .i64 a) false).run P w = .ok z w ∧ a ∉ ks) ∨ ∃ x ∈ es.toList, x.key = .int .i64 a ∧ a ∈ ks ∧ (Instr.lookup t (.map (some b)) (.int .i64 a) false).run P w = .ok x.val w := by
  rcases fit_look false (int_keyed ht.key) ht.und hz hb h.fit (keyOf_int_mk ht.key ha) with ⟨h1, h2, _⟩ | ⟨x, y, h1, h2, h3, _⟩
  · refine .inl ⟨h1, fun hm => ?_⟩
    obtain ⟨x, hx, hk⟩ := h.all a hm
    exact h2 x hx hk
  · obtain ⟨a', ha', hk⟩ := h.key x h1
    rw [h2] at hk
    cases hk
    exact .inr ⟨x, h1, h2, ha', h3⟩
/-- m[a] = v: the new entries. -/
theorem IMap.store {P : Program} {t k e : TypeId} {es : Array MapEntry} {clock : Nat} {ks : List Int} {n : Nat} (h : IMap P k es clock ks n) [ht : MapTy P t k e] {w : World} {b : Nat} (hb : w.heap[b]? = some (.map es clock)) {a : Int} (ha : (Lit.int .i64 a).wf = true) (hroom : es.size < maxLen) (val : Value) :
    ∃ es' clock', (Instr.mapUpdate t (.map (some b)) (.int .i64 a) val).run P w = .ok () (setBlock w b (.map es' clock')) ∧ IMap P k es' clock' (insK a ks) (n + 1) ∧
      ∀ x' ∈ es'.toList, (x' ∈ es.toList ∧ x'.key ≠ .int .i64 a) ∨ (x'.key = .int .i64 a ∧ x'.val = val) := by
  have K := int_keyed ht.key
  have hkey := keyOf_int_mk ht.key ha
  have F := h.fit
  rcases K.find w hkey es.toList F.keys with ⟨h1, h2⟩ | ⟨j, e0, h1, h2, h3⟩
  · refine ⟨es.push ⟨.int .i64 a, val, clock⟩, clock + 1, ?_, ⟨⟨by simp; omega, stamped_push F.stamped h2, ?_⟩, by simp; exact h.sz, ?_, ?_⟩, ?_⟩
    · simp [Instr.mapUpdate, run_underlying ht.und, MapKept.run_getObj_map hb, K.check w false hkey, h1, MapKept.run_setObj_map _ hb, Result.andThen, setBlock]
    · intro x hx
      simp only [Array.toList_push, List.mem_append, List.mem_singleton] at hx
      rcases hx with hx | rfl
      · exact F.reads x hx
      · exact ⟨_, rd_mk hkey rfl⟩
    · intro x hx
      simp only [Array.toList_push, List.mem_append, List.mem_singleton] at hx
      rcases hx with hx | rfl
      · obtain ⟨c, hc, hk⟩ := h.key x hx
        exact ⟨c, mem_insK.2 (.inr hc), hk⟩
      · exact ⟨a, mem_insK.2 (.inl rfl), rfl⟩
    · intro c hc
      simp only [Array.toList_push, List.mem_append, List.mem_singleton]
      rcases mem_insK.1 hc with rfl | hc
      · exact ⟨_, .inr rfl, rfl⟩
      · obtain ⟨x, hx, hk⟩ := h.all c hc
        exact ⟨x, .inl hx, hk⟩
    · intro x hx
      simp only [Array.toList_push, List.mem_append, List.mem_singleton] at hx
      rcases hx with hx | rfl
      · exact .inl ⟨hx, h2 x hx⟩
      · exact .inr ⟨rfl, rfl⟩
  · have hj : es[j]? = some e0 := by simpa using h2
    have hjl : j < es.toList.length := (List.getElem?_eq_some_iff.1 h2).1
    have hkeyf : ∀ e', es[j]? = some e' → ({ e' with key := .int .i64 a, val := val } : MapEntry).key = e'.key := fun e' he' => by rw [hj] at he'; cases he'; exact h3.symm
    have hlist : (es.modify j (fun e' => { e' with key := .int .i64 a, val := val })).toList = es.toList.set j { e0 with key := .int .i64 a, val := val } := by rw [Array.toList_modify, modify_eq_set _ _ _ _ h2]
    have who : ∀ x ∈ es.toList.set j { e0 with key := .int .i64 a, val := val }, x = { e0 with key := .int .i64 a, val := val } ∨ (x ∈ es.toList ∧ x.key ≠ .int .i64 a) := by
      intro x hx
      obtain ⟨i, hi, ex⟩ := List.getElem_of_mem hx
      rw [List.getElem_set] at ex
      split at ex
      · exact Or.inl ex.symm
      · rename_i hne
        have hi' : i < es.toList.length := by simpa using hi
        refine Or.inr ⟨ex ▸ List.getElem_mem hi', ?_⟩
        rw [← h3]
        exact other_key F h2 (by rw [List.getElem?_eq_getElem hi', ex]) (fun e1 => hne e1.symm)
    have hin : ({ e0 with key := .int .i64 a, val := val } : MapEntry) ∈ es.toList.set j { e0 with key := .int .i64 a, val := val } := List.mem_iff_getElem.2 ⟨j, by simpa using hjl, by simp⟩
    refine ⟨es.modify j (fun e' => { e' with key := .int .i64 a, val := val }), clock, ?_, ⟨⟨by simpa using F.size, stamped_modify F.stamped _ _ (fun _ _ => rfl) (fun e' _ he' => hkeyf e' he'), ?_⟩, by simp; have := h.sz; omega, ?_, ?_⟩, ?_⟩
    · simp [Instr.mapUpdate, run_underlying ht.und, MapKept.run_getObj_map hb, K.check w false hkey, h1, hj, h3, K.stays w hkey, MapKept.run_setObj_map _ hb, Result.andThen, setBlock]
    · intro x hx
      rw [hlist] at hx
      rcases who x hx with rfl | ⟨hx', hne⟩
      · exact ⟨_, rd_mk hkey rfl⟩
      · exact F.reads x hx'
    · intro x hx
      rw [hlist] at hx
      rcases who x hx with rfl | ⟨hx', hne⟩
      · exact ⟨a, mem_insK.2 (.inl rfl), rfl⟩
      · obtain ⟨c, hc, hk⟩ := h.key x hx'
        exact ⟨c, mem_insK.2 (.inr hc), hk⟩
    · intro c hc
      rw [hlist]
      by_cases hca : c = a
      · exact ⟨_, hin, by rw [hca]⟩
      · have hc' : c ∈ ks := (mem_insK.1 hc).resolve_left hca
        obtain ⟨x, hx, hk⟩ := h.all c hc'
        obtain ⟨i, hi, ex⟩ := List.getElem_of_mem hx
        have hij : j ≠ i := fun e => by
          subst e
          have : es.toList[j]? = some x := by rw [List.getElem?_eq_getElem hi, ex]
          rw [h2] at this
          cases this
          rw [h3] at hk
          cases hk
          exact hca rfl
        refine ⟨x, List.mem_iff_getElem.2 ⟨i, by simpa using hi, ?_⟩, hk⟩
        rw [List.getElem_set, if_neg hij]; exact ex
    · intro x hx
      rw [hlist] at hx
      rcases who x hx with rfl | h'
      · exact .inr ⟨rfl, rfl⟩
      · exact .inl h'

section
variable {P : Program} {E : Env} {T T' : Tab} {O O' : Own} {o : Oper} {d : Option Tmp} {ty : TypeId} {pos : String} {af : Array Edge} {g : Option (Nat × Bool)}
end
end Go.Vc
namespace Go.Vc
open Go Go.RowKit
section
variable {P : Program} {E : Env} {T T' : Tab} {O O' : Own} {o : Oper} {d : Option Tmp} {ty : TypeId} {pos : String} {af : Array Edge} {g : Option (Nat × Bool)}
end
end Go.Vc
namespace Go.Vc
open Go Go.RowKit
section
variable {P : Program} {E : Env} {T T' : Tab} {O O' : Own} {o : Oper} {d : Option Tmp} {ty : TypeId} {pos : String} {af : Array Edge} {g : Option (Nat × Bool)}
theorem agg_ok {Z : Zone} {ν : Vals} {w : World} {T : Tab} {x : Operand} {a : Act} {n : Nat} {f : Nat → AV} (hx : T.ev x = .av (.agg n f)) (h : (T.ev x).ok Z ν w (a.eval x)) : ∃ cs : List Value, a.eval x = .agg cs.toArray ∧ cs.length = n ∧ ∀ i, i < n → ∃ u, cs[i]? = some u ∧ (f i).ok Z w u := by
  rw [hx] at h; exact h
/-- A struct built of parts of whatever kind. -/
theorem g_build_gen {t : TypeId} {is : List Nat} {xs : List Operand} {τs : List AV} {n : Nat} {f : Nat → AV} (hx : xs.map T.ev = τs.map SV.av) (hl : xs.length = is.length)
    (hb : ∀ (Z : Zone) (w : World) (vs : List Value), All2 (fun τ v => AV.ok Z w τ v) τs vs → ∃ cs : List Value, P.built t (is.zip vs) = some cs.toArray ∧ cs.length = n ∧ ∀ i, i < n → ∃ u, cs[i]? = some u ∧ (f i).ok Z w u) :
    GV P E ⟨d, .build t (is.zip xs).toArray, ty, pos, af, g⟩ T O (.av (.agg n f)) [] [] := by
  refine ⟨fun T' O' hT hO => ⟨by intro c; simp, fun Z ν a w hs => ?_⟩⟩
  have hmem : ∀ x ∈ xs, x ∈ (Op.build t (is.zip xs).toArray).operands.toList := by
    intro x hx
    simp only [Op.operands, List.map_toArray, List.mem_map]
    obtain ⟨i, hi, rfl⟩ := List.getElem_of_mem hx
    refine ⟨(is[i]'(by omega), xs[i]), ?_, rfl⟩
    rw [List.mem_iff_getElem]
    exact ⟨i, by simp; omega, by simp⟩
  have hx' : xs.map T'.ev = τs.map SV.av := by
    rw [← hx]
    exact List.map_congr_left fun x hxm => ev_same (o := ⟨d, .build t (is.zip xs).toArray, ty, pos, af, g⟩) hT (hmem x hxm)
  obtain ⟨cs, h1, h2, h3⟩ := hb Z w _ (evs_ok hs hx')
  have hrun := run_build (P := P) w t (is.zip (xs.map a.eval)).toArray cs.toArray (by simpa using h1)
  have he : (is.zip xs).map (fun p => (p.1, a.eval p.2)) = is.zip (xs.map a.eval) := by
    rw [List.zip_map_right]; rfl
  refine wp_value (w' := w) (v := .agg cs.toArray) ?_ ⟨_, Z, ν, rfl, hs, cs, rfl, h2, h3⟩
  simp only [execOp, List.map_toArray]
  rw [show (List.map (fun (x : Nat × Operand) => match x with | (i, x) => (i, a.eval x)) (is.zip xs)) = is.zip (xs.map a.eval) from he]
  simp [hrun]
theorem g_box_aggv {t : TypeId} {x : Operand} {n : Nat} {f : Nat → AV} (hx : T.ev x = .av (.agg n f)) : GV P E ⟨d, .box t x, ty, pos, af, g⟩ T O (.av (.ptr n f)) [] [] := by
  refine ⟨fun T' O' hT _ => ⟨by intro c; simp, fun Z ν a w hs => ?_⟩⟩
  have hv := ev_ok hs x
  rw [ev_same (o := ⟨d, .box t x, ty, pos, af, g⟩) hT (by simp [Op.operands]), hx] at hv
  obtain ⟨cs, hv', hl, hc⟩ := hv
  refine wp_value (w' := w.alloc (.cells cs.toArray t)) (v := .pointer (some ⟨w.heap.size, 0, none⟩)) (by simp [execOp, Instr.box, newVar, newRow, hv', Value.cells]) ⟨_, _, ν, rfl, hs.allocRo _, ⟨w.heap.size, 0, rfl, fun _ => .inr rfl, by simp, fun i hi => ?_⟩⟩
  obtain ⟨u, hu, hk⟩ := hc i hi
  exact ⟨u, by rw [World.cell?_alloc_new, Nat.zero_add]; simpa using hu, AV.ok_mono (fun k hk => .inl hk) (by simp) (fun k _ hk => heap_old w _ hk) _ _ hk⟩
theorem g_load_aggv {t : TypeId} {x : Operand} {n k : Nat} {f : Nat → AV} [ht : AggTy P t k] (hx : T.ev x = .av (.ptr n f)) (hn' : Nat.ble k n = true) :
    GV P E ⟨d, .load t x, ty, pos, af, g⟩ T O (.av (.agg k f)) [] [] :=
  gv_pure [] fun Z ν a w h _ => by
    have hn : k ≤ n := Nat.le_of_ble_eq_true hn'
    obtain ⟨b, o, he, _, _, hc⟩ := ptr_ok hx (h x (by simp [Op.operands]))
    have hget : ∀ i, i < k → ∃ u, w.cell? ⟨b, o + i, none⟩ = some u ∧ (f i).ok Z w u := fun i hi => hc i (by omega)
    have hl : ((List.range k).map fun i => (w.cell? ⟨b, o + i, none⟩).getD undef).length = k := by simp
    have hcs : ∀ i u, ((List.range k).map fun i => (w.cell? ⟨b, o + i, none⟩).getD undef)[i]? = some u → w.cell? ⟨b, o + i, none⟩ = some u := by
      intro i u hu
      simp only [List.getElem?_map, Option.map_eq_some_iff] at hu
      obtain ⟨i', hi', rfl⟩ := hu
      obtain ⟨hi, rfl⟩ := List.getElem?_eq_some_iff.1 hi'
      simp only [List.getElem_range, List.length_range] at hi ⊢
      obtain ⟨u, hu, _⟩ := hget i hi
      rw [hu]; rfl
    refine ⟨.agg ((List.range k).map fun i => (w.cell? ⟨b, o + i, none⟩).getD undef).toArray, ?_, _, rfl, hl, fun i hi => ?_⟩
    · have hr := run_loadCells_list (P := P) (w := w) ⟨b, o, none⟩ ((List.range k).map fun i => (w.cell? ⟨b, o + i, none⟩).getD undef) (fun j v hj => by rw [add_addr]; exact hcs j v hj)
      rw [hl] at hr
      simp [execOp, Instr.loadAt, he, Instr.sureAddr, loadVar, ht.agg w, ht.size w, hr]
    · obtain ⟨u, hu, hk⟩ := hget i hi
      exact ⟨u, by simp [hi, hu], hk⟩
theorem g_store_aggv {t : TypeId} {x y : Operand} {r off k : Nat} {cs : List SV} {f : Nat → AV} [ht : SizeTy P t k] (hx : T.ev x = .own r off) (hy : T.ev y = .av (.agg k f)) (h1 : ∀ i, i < k → (f i).one = true) (hr : look O r = some (.cells cs)) (hfit' : Nat.ble (off + k) cs.length = true) :
    GV P E ⟨d, .store t x y, ty, pos, af, g⟩ T O (.av .any) [r] [(r, .cells (spl cs off ((List.range k).map fun i => .av (f i))))] := by
  refine ⟨fun T' O' hT hO => ⟨by intro c; simp, fun Z ν a w hs => ?_⟩⟩
  have ex := ev_ok hs x
  rw [ev_same (o := ⟨d, .store t x y, ty, pos, af, g⟩) hT (by simp [Op.operands]), hx] at ex
  have ey := ev_ok hs y
  rw [ev_same (o := ⟨d, .store t x y, ty, pos, af, g⟩) hT (by simp [Op.operands]), hy] at ey
  obtain ⟨b, hb, hax⟩ := ex
  have hfit : off + k ≤ cs.length := Nat.le_of_ble_eq_true hfit'
  obtain ⟨us, hus, hl, hc⟩ := ey
  have hall : All2 (fun s v => SV.ok Z ν w s v) ((List.range k).map fun i => SV.av (f i)) us := by
    rw [All2.map_iff]
    subst hl
    have key : ∀ (us : List Value) (j : Nat), (∀ i, i < us.length → ∃ u, us[i]? = some u ∧ (f (j + i)).ok Z w u) → All2 (fun a c => SV.ok Z ν w (.av (f a)) c) (List.range' j us.length) us := by
      intro us
      induction us with
      | nil => intro j _; trivial
      | cons u us ih =>
        intro j h
        refine ⟨?_, ih (j + 1) fun i hi => ?_⟩
        · obtain ⟨v, h1, h2⟩ := h 0 (by simp)
          simp only [List.getElem?_cons_zero, Option.some.injEq] at h1
          subst h1; exact h2
        · obtain ⟨v, h1, h2⟩ := h (i + 1) (by simpa using hi)
          rw [List.getElem?_cons_succ] at h1
          exact ⟨v, h1, by rw [show j + 1 + i = j + (i + 1) by omega]; exact h2⟩
    rw [List.range_eq_range']
    exact key us 0 (fun i hi => by rw [Nat.zero_add]; exact hc i hi)
  have hone : ∀ v ∈ us, v.oneCell' = true := by
    intro v hv
    obtain ⟨i, hi, rfl⟩ := List.getElem_of_mem hv
    obtain ⟨u, hu, hk⟩ := hc i (by omega)
    rw [List.getElem?_eq_getElem hi] at hu
    cases hu
    exact AV.one_cells (h1 i (by omega)) hk
  obtain ⟨w', hst, hsat⟩ := hs.storeOwn (P := P) (ss := (List.range k).map fun i => SV.av (f i)) (vs := us) (by rw [hO r (by simp)]; exact hr) hb (by simpa using hfit) hall hone
  unfold Oper.wp
  have hrun : (execOp a.eval ⟨d, .store t x y, ty, pos, af, g⟩).run P w = .ok .skip w' := by
    have : (a.eval y).cells = us.toArray := by rw [hus]; rfl
    simp [execOp, Instr.storeAt, hax, Instr.sureAddr, storeVar, ht.run w, hus, Value.cells, hl, hst]
  rw [hrun]
  exact ⟨Go.undef, Z, ν, rfl, hsat, trivial⟩
end
end Go.Vc
namespace Go.Vc
open Go Go.RowKit
open Go.MapKept
open Go.WideElems (Fit rd rg pl rd_key rd_val rg_of rd_mk rd_stay other_key)
open Go.Maps (Keyed int_keyed keyOf_int_mk fit_look)
open Go.ChangeMaps (setBlock heap_setBlock_same modify_eq_set)
section
variable {P : Program} {E : Env} {T T' : Tab} {O O' : Own} {o : Oper} {d : Option Tmp} {ty : TypeId} {pos : String} {af : Array Edge} {g : Option (Nat × Bool)}
end
end Go.Vc
