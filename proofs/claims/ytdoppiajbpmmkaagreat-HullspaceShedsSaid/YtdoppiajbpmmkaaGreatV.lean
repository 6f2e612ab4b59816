/- A part of the proof that the law returns true at every input and that the input reads behind the call as it read before; this part states nothing of its own that needs a condition of the input. -/
import Derived.WalkKit
import Derived.Orders
import Derived.OrdersIn
import Derived.TacticsIn
import Derived.RangeFuncCalls
import Derived.Deep.Draws
import Derived.Sort.LoopGhostIn
import Derived.ChangeKeysEq
import Derived.Laws.StructEq
set_option linter.unusedVariables false
set_option linter.unusedSimpArgs false
set_option linter.unnecessarySimpa false
namespace Go.Vc
open Go Go.RowKit

/-! ### What a slot is known to hold -/
abbrev Zone := Nat → Prop

/-- What is said of a value over what stays. -/
def AStable (φ : Zone → World → Value → Prop) : Prop := ∀ Z Z' w w' v, (∀ k, Z k → Z' k) → w.heap.size ≤ w'.heap.size → (∀ k, Z k → k < w.heap.size → w'.heap[k]? = w.heap[k]?) → φ Z w v → φ Z' w' v
def RStable (φ : Zone → World → Value → Obj → Prop) : Prop := ∀ Z Z' w w' v ob, (∀ k, Z k → Z' k) → w.heap.size ≤ w'.heap.size → (∀ k, Z k → k < w.heap.size → w'.heap[k]? = w.heap[k]?) → φ Z w v ob → φ Z' w' v ob
inductive AV : Type where
  | any
  | val (v : Value)
  | sl (n sz : Nat) (row : Nat → Nat → AV)
  | slc (n sz : Nat) (row : Nat → Nat → AV)
  | ptr (n : Nat) (f : Nat → AV)
  | agg (n : Nat) (f : Nat → AV)
  | tup (n : Nat) (f : Nat → AV)
  | clo (k : FuncId) (n : Nat) (f : Nat → AV)
  | ob (φ : Zone → World → Value → Prop) (h : AStable φ)

def AV.ok (Z : Zone) (w : World) : AV → Value → Prop
  | .any, _ => True
  | .val u, v => v = u
  | .sl n sz row, v => ∃ a c, v = .slice a n c ∧ n ≤ c ∧ c ≤ maxLen ∧ (0 < n → ∃ b o, a = some ⟨b, o, none⟩ ∧ (0 < sz → Z b) ∧ b < w.heap.size ∧
      ∀ i, i < n → ∀ j, j < sz → ∃ u, w.cell? ⟨b, o + i * sz + j, none⟩ = some u ∧ (row i j).ok Z w u)
  | .slc n sz row, v => ∃ a, v = .slice a n n ∧ n ≤ maxLen ∧ (0 < n → ∃ b o, a = some ⟨b, o, none⟩ ∧ (0 < sz → Z b) ∧ b < w.heap.size ∧
      ∀ i, i < n → ∀ j, j < sz → ∃ u, w.cell? ⟨b, o + i * sz + j, none⟩ = some u ∧ (row i j).ok Z w u)
  | .ptr n f, v => ∃ b o, v = .pointer (some ⟨b, o, none⟩) ∧ (0 < n → Z b) ∧ b < w.heap.size ∧ ∀ i, i < n → ∃ u, w.cell? ⟨b, o + i, none⟩ = some u ∧ (f i).ok Z w u
  | .agg n f, v => ∃ cs : List Value, v = .agg cs.toArray ∧ cs.length = n ∧ ∀ i, i < n → ∃ u, cs[i]? = some u ∧ (f i).ok Z w u
  | .tup n f, v => ∃ cs : List Value, v = .tuple cs.toArray ∧ cs.length = n ∧ ∀ i, i < n → ∃ u, cs[i]? = some u ∧ (f i).ok Z w u
  | .clo k n f, v => ∃ cs : List Value, v = .func (.func k) #[] cs.toArray ∧ cs.length = n ∧ ∀ i, i < n → ∃ u, cs[i]? = some u ∧ (f i).ok Z w u
  | .ob φ _, v => φ Z w v

theorem heap_old (w : World) (o : Obj) {r : Nat} (h : r < w.heap.size) : (w.alloc o).heap[r]? = w.heap[r]? := Below.heap_alloc w o r h
theorem cell_of_heap {w w' : World} {b o : Nat} (h : w'.heap[b]? = w.heap[b]?) : w'.cell? ⟨b, o, none⟩ = w.cell? ⟨b, o, none⟩ := by
  simp [World.cell?, h]

theorem AV.ok_mono {Z Z' : Zone} {w w' : World} (hZ : ∀ k, Z k → Z' k) (hs : w.heap.size ≤ w'.heap.size)
    (hw : ∀ k, Z k → k < w.heap.size → w'.heap[k]? = w.heap[k]?) : ∀ (τ : AV) (v : Value), τ.ok Z w v → τ.ok Z' w' v := by
  intro τ
  induction τ with
  | any => intro v _; trivial
  | val u => intro v h; exact h
  | sl n sz row ih =>
    rintro v ⟨a, c, rfl, h1, h2, h3⟩
    refine ⟨a, c, rfl, h1, h2, fun hn => ?_⟩
    obtain ⟨b, o, rfl, hz, hb, hc⟩ := h3 hn
    refine ⟨b, o, rfl, fun hp => hZ b (hz hp), by omega, fun i hi j hj => ?_⟩
    obtain ⟨u, hu, hk⟩ := hc i hi j hj
    exact ⟨u, by rw [cell_of_heap (hw b (hz (Nat.lt_of_le_of_lt (Nat.zero_le _) hj)) hb)]; exact hu, ih i j u hk⟩
  | slc n sz row ih =>
    rintro v ⟨a, rfl, h2, h3⟩
    refine ⟨a, rfl, h2, fun hn => ?_⟩
    obtain ⟨b, o, rfl, hz, hb, hc⟩ := h3 hn
    refine ⟨b, o, rfl, fun hp => hZ b (hz hp), by omega, fun i hi j hj => ?_⟩
    obtain ⟨u, hu, hk⟩ := hc i hi j hj
    exact ⟨u, by rw [cell_of_heap (hw b (hz (Nat.lt_of_le_of_lt (Nat.zero_le _) hj)) hb)]; exact hu, ih i j u hk⟩
  | ptr n f ih =>
    rintro v ⟨b, o, rfl, hz, hb, hc⟩
    refine ⟨b, o, rfl, fun hp => hZ b (hz hp), by omega, fun i hi => ?_⟩
    obtain ⟨u, hu, hk⟩ := hc i hi
    exact ⟨u, by rw [cell_of_heap (hw b (hz (Nat.lt_of_le_of_lt (Nat.zero_le _) hi)) hb)]; exact hu, ih i u hk⟩
  | agg n f ih =>
    rintro v ⟨cs, rfl, hl, hc⟩
    exact ⟨cs, rfl, hl, fun i hi => let ⟨u, hu, hk⟩ := hc i hi; ⟨u, hu, ih i u hk⟩⟩
  | tup n f ih =>
    rintro v ⟨cs, rfl, hl, hc⟩
    exact ⟨cs, rfl, hl, fun i hi => let ⟨u, hu, hk⟩ := hc i hi; ⟨u, hu, ih i u hk⟩⟩
  | clo k n f ih =>
    rintro v ⟨cs, rfl, hl, hc⟩
    exact ⟨cs, rfl, hl, fun i hi => let ⟨u, hu, hk⟩ := hc i hi; ⟨u, hu, ih i u hk⟩⟩
  | ob φ h => exact fun v hv => h Z Z' w w' v hZ hs hw hv

theorem RStable.st {φ : Zone → World → Value → Obj → Prop} (h : RStable φ) (ob : Obj) : AStable (fun Z w v => φ Z w v ob) := fun Z Z' w w' v h1 h2 h3 h4 => h Z Z' w w' v ob h1 h2 h3 h4
def RStable.av {φ : Zone → World → Value → Obj → Prop} (h : RStable φ) (ob : Obj) : AV := .ob (fun Z w v => φ Z w v ob) (h.st ob)

/-- A captured value: plain, or a pointer into one of the call's own blocks. -/
inductive CV : Type where
  | av (τ : AV)
  | own (r off : Nat)
  | osl (r : Nat)

/-- What a slot holds. -/
inductive SV : Type where
  | av (τ : AV)
  | own (r off : Nat)
  | osl (r : Nat)
  | oel (r sz i j : Nat)
  | osx (r sz lo len : Nat)
  | clo (k : FuncId) (caps : List CV)
  | tupR (r : Nat) (ρs : List AV)
  | agg (cs : List CV)

def All2 {α β : Type} (R : α → β → Prop) : List α → List β → Prop
  | [], [] => True
  | a :: l, b :: m => R a b ∧ All2 R l m
  | _, _ => False

theorem All2.mono {α β : Type} {R S : α → β → Prop} : ∀ {l : List α} {m : List β}, All2 R l m → (∀ a ∈ l, ∀ b, R a b → S a b) → All2 S l m
  | [], [], _, _ => trivial
  | a :: l, b :: m, h, hs => ⟨hs a (by simp) b h.1, All2.mono h.2 (fun a' ha b' => hs a' (by simp [ha]) b')⟩
  | [], _ :: _, h, _ => h.elim
  | _ :: _, [], h, _ => h.elim

theorem All2.len {α β : Type} {R : α → β → Prop} : ∀ {l : List α} {m : List β}, All2 R l m → l.length = m.length
  | [], [], _ => rfl
  | _ :: _, _ :: _, h => by simp [All2.len h.2]
  | [], _ :: _, h => h.elim
  | _ :: _, [], h => h.elim

theorem All2.get {α β : Type} {R : α → β → Prop} : ∀ {l : List α} {m : List β}, All2 R l m → ∀ (i : Nat) (a : α), l[i]? = some a → ∃ b, m[i]? = some b ∧ R a b
  | [], [], _, i, a, h => by simp at h
  | x :: l, y :: m, h, 0, a, ha => by simp at ha; subst ha; exact ⟨y, by simp, h.1⟩
  | x :: l, y :: m, h, i + 1, a, ha => by simp at ha; simpa using All2.get h.2 i a ha
  | [], _ :: _, h, _, _, _ => h.elim
  | _ :: _, [], h, _, _, _ => h.elim

/-- Where the call's own things lie. -/
abbrev Vals := Nat → Value

def CV.ok (Z : Zone) (ν : Vals) (w : World) : CV → Value → Prop
  | .av τ, v => τ.ok Z w v
  | .own r off, v => ∃ b, ν r = .pointer (some ⟨b, 0, none⟩) ∧ v = .pointer (some ⟨b, off, none⟩)
  | .osl r, v => v = ν r

def SV.ok (Z : Zone) (ν : Vals) (w : World) : SV → Value → Prop
  | .av τ, v => τ.ok Z w v
  | .own r off, v => ∃ b, ν r = .pointer (some ⟨b, 0, none⟩) ∧ v = .pointer (some ⟨b, off, none⟩)
  | .osl r, v => v = ν r
  | .oel r sz i j, v => ∃ b n c, ν r = .slice (some ⟨b, 0, none⟩) n c ∧ v = .pointer (some ⟨b, i * sz + j, none⟩)
  | .osx r sz lo len, v => ∃ b n c p, ν r = .slice (some ⟨b, 0, none⟩) n c ∧ v = .slice p len (c - lo) ∧ (0 < len ∨ lo = 0 → p = some ⟨b, lo * sz, none⟩)
  | .clo k cs, v => ∃ vs : List Value, v = .func (.func k) #[] vs.toArray ∧ All2 (CV.ok Z ν w) cs vs
  | .tupR r ρs, v => ∃ us : List Value, v = .tuple (ν r :: us).toArray ∧ All2 (AV.ok Z w) ρs us
  | .agg cs, v => ∃ vs : List Value, v = .agg vs.toArray ∧ All2 (CV.ok Z ν w) cs vs

def CV.mentions (r : Nat) : CV → Bool
  | .av _ => false
  | .own s _ => Nat.beq s r
  | .osl s => Nat.beq s r

def SV.mentions (r : Nat) : SV → Bool
  | .av _ => false
  | .own s _ => Nat.beq s r
  | .osl s => Nat.beq s r
  | .oel s _ _ _ => Nat.beq s r
  | .osx s _ _ _ => Nat.beq s r
  | .clo _ cs => cs.any (CV.mentions r)
  | .tupR s _ => Nat.beq s r
  | .agg cs => cs.any (CV.mentions r)

def SV.kill (r : Nat) (s : SV) : SV := match s.mentions r with | true => .av .any | false => s

theorem CV.ok_mono {Z Z' : Zone} {ν ν' : Vals} {w w' : World} (hZ : ∀ k, Z k → Z' k) (hs : w.heap.size ≤ w'.heap.size)
    (hw : ∀ k, Z k → k < w.heap.size → w'.heap[k]? = w.heap[k]?) (s : CV) (v : Value) (hν : ∀ r, s.mentions r = true → ν' r = ν r) (h : s.ok Z ν w v) : s.ok Z' ν' w' v := by
  cases s with
  | av τ => exact AV.ok_mono hZ hs hw τ v h
  | own r off => obtain ⟨b, h1, h2⟩ := h; exact ⟨b, by rw [hν r (by simp [CV.mentions])]; exact h1, h2⟩
  | osl r => show v = ν' r; rw [hν r (by simp [CV.mentions])]; exact h

theorem SV.ok_mono {Z Z' : Zone} {ν ν' : Vals} {w w' : World} (hZ : ∀ k, Z k → Z' k) (hs : w.heap.size ≤ w'.heap.size)
    (hw : ∀ k, Z k → k < w.heap.size → w'.heap[k]? = w.heap[k]?) (s : SV) (v : Value) (hν : ∀ r, s.mentions r = true → ν' r = ν r) (h : s.ok Z ν w v) : s.ok Z' ν' w' v := by
  cases s with
  | av τ => exact AV.ok_mono hZ hs hw τ v h
  | own r off => obtain ⟨b, h1, h2⟩ := h; exact ⟨b, by rw [hν r (by simp [SV.mentions])]; exact h1, h2⟩
  | osl r => show v = ν' r; rw [hν r (by simp [SV.mentions])]; exact h
  | oel r sz i j => obtain ⟨b, n, c, h1, h2⟩ := h; exact ⟨b, n, c, by rw [hν r (by simp [SV.mentions])]; exact h1, h2⟩
  | osx r sz lo len => obtain ⟨b, n, c, p, h1, h2⟩ := h; exact ⟨b, n, c, p, by rw [hν r (by simp [SV.mentions])]; exact h1, h2⟩
  | clo k cs =>
    obtain ⟨vs, h1, h2⟩ := h
    refine ⟨vs, h1, h2.mono fun c hc u hu => CV.ok_mono hZ hs hw c u (fun r hr => hν r ?_) hu⟩
    simp only [SV.mentions, List.any_eq_true]
    exact ⟨c, hc, hr⟩
  | tupR r ρs =>
    obtain ⟨us, h1, h2⟩ := h
    exact ⟨us, by rw [hν r (by simp [SV.mentions])]; exact h1, h2.mono fun c _ u hu => AV.ok_mono hZ hs hw c u hu⟩
  | agg cs =>
    obtain ⟨vs, h1, h2⟩ := h
    refine ⟨vs, h1, h2.mono fun c hc u hu => CV.ok_mono hZ hs hw c u (fun r hr => hν r ?_) hu⟩
    simp only [SV.mentions, List.any_eq_true]
    exact ⟨c, hc, hr⟩

/-! ### Tables -/
def look {α : Type} : List (Nat × α) → Nat → Option α
  | [], _ => none
  | (k, s) :: t, d => match Nat.beq k d with | true => some s | false => look t d

abbrev Tab := List (Nat × SV)
def Tab.get (T : Tab) (d : Nat) : SV := match look T d with | some s => s | none => .av .any
def Tab.set (T : Tab) : Option Nat → SV → Tab
  | none, _ => T
  | some d, s => (d, s) :: T

inductive Res : Type where
  | cells (cs : List SV)
  | row (ty sz n : Nat) (f : Nat → Nat → AV)
  | obj (φ : Zone → World → Value → Obj → Prop) (h : RStable φ)

abbrev Own := List (Nat × Res)

def Res.kill (r : Nat) : Res → Res
  | .cells cs => .cells (cs.map (SV.kill r))
  | .row ty sz n f => .row ty sz n f
  | .obj φ h => .obj φ h

def Tab.kill (r : Nat) (T : Tab) : Tab := T.map fun p => (p.1, p.2.kill r)
def Own.kill (r : Nat) : Own → Own
  | [] => []
  | (k, x) :: O => match Nat.beq k r with | true => Own.kill r O | false => (k, x.kill r) :: Own.kill r O

theorem look_cons_eq {α : Type} (k : Nat) (s : α) (t : List (Nat × α)) : look ((k, s) :: t) k = some s := by simp [look]
theorem look_cons_ne {α : Type} {k d : Nat} (s : α) (t : List (Nat × α)) (h : k ≠ d) : look ((k, s) :: t) d = look t d := by
  have : Nat.beq k d = false := by
    cases hb : Nat.beq k d with
    | false => rfl
    | true => exact absurd (Nat.eq_of_beq_eq_true hb) h
  simp only [look, this]

theorem look_map {α β : Type} (f : α → β) : ∀ (t : List (Nat × α)) (d : Nat), look (t.map fun p => (p.1, f p.2)) d = (look t d).map f
  | [], d => rfl
  | (k, s) :: t, d => by
    by_cases h : k = d
    · subst h; simp [look]
    · simp only [List.map_cons]; rw [look_cons_ne _ _ h, look_cons_ne _ _ h, look_map]

theorem Tab.get_kill (T : Tab) (r d : Nat) : (T.kill r).get d = (T.get d).kill r := by
  unfold Tab.get Tab.kill
  rw [look_map]
  cases look T d with
  | none => rfl
  | some s => rfl

theorem Own.look_kill (r : Nat) : ∀ (O : Own) (k : Nat), look (Own.kill r O) k = if k = r then none else (look O k).map (Res.kill r)
  | [], k => by simp [Own.kill, look]
  | (q, x) :: O, k => by
    unfold Own.kill
    by_cases hq : q = r
    · subst hq
      simp only [Nat.beq_refl, Own.look_kill q O k]
      by_cases hk : k = q
      · simp [hk]
      · rw [if_neg hk, if_neg hk, look_cons_ne _ _ (fun e => hk e.symm)]
    · have : Nat.beq q r = false := by
        cases hb : Nat.beq q r with
        | false => rfl
        | true => exact absurd (Nat.eq_of_beq_eq_true hb) hq
      simp only [this]
      by_cases hk : q = k
      · subst hk; simp [look, hq]
      · rw [look_cons_ne _ _ hk, look_cons_ne _ _ hk, Own.look_kill r O k]

/-! ### The state -/
structure Env where
  N : Nat
  round : Option Nat := none
  cst : Nat → Option Value := fun _ => none
  keep : Nat → Prop
  w0 : World
  Z0 : Zone
  marks : List Deferred := []
  pin : Nat → Option Value := fun _ => none
  pinHi : ∀ r, Nat.blt r 1000 = true → pin r = none := by intros; rfl

def blkOf : Value → Option Nat
  | .pointer (some a) => some a.block
  | .slice (some a) _ _ => some a.block
  | .map (some b) => some b
  | _ => none

def Res.ok (E : Env) (Z : Zone) (ν : Vals) (w : World) (v : Value) : Res → Prop
  | .cells cs => ∃ b ty arr, v = .pointer (some ⟨b, 0, none⟩) ∧ ¬ E.keep b ∧ ¬ Z b ∧ w.heap[b]? = some (.cells arr ty (0, 0)) ∧ arr.size = cs.length ∧
      ∀ (i : Nat) (s : SV), cs[i]? = some s → ∃ u, arr[i]? = some u ∧ s.ok Z ν w u
  | .row ty sz n f => (v = .slice none 0 0 ∧ n = 0) ∨ ∃ b cap arr, v = .slice (some ⟨b, 0, none⟩) n cap ∧ ¬ E.keep b ∧ ¬ Z b ∧ w.heap[b]? = some (.cells arr ty (0, 0)) ∧ n ≤ cap ∧ cap ≤ maxLen ∧ arr.size = cap * sz ∧
      ∀ i, i < n → ∀ j, j < sz → ∃ u, arr[i * sz + j]? = some u ∧ (f i j).ok Z w u
  | .obj φ _ => ∃ b ob, blkOf v = some b ∧ ¬ E.keep b ∧ ¬ Z b ∧ w.heap[b]? = some ob ∧ φ Z w v ob

structure OwnOk (E : Env) (O : Own) (Z : Zone) (ν : Vals) (w : World) : Prop where
  each : ∀ r x, look O r = some x → x.ok E Z ν w (ν r)
  apart : ∀ r r', r ≠ r' → look O r ≠ none → look O r' ≠ none → ∀ b, blkOf (ν r) = some b → blkOf (ν r') ≠ some b

structure Base (E : Env) (Z : Zone) (w : World) : Prop where
  os : w.os = E.w0.os
  tape : w.tape = E.w0.tape
  output : w.output = E.w0.output
  size : E.w0.heap.size ≤ w.heap.size
  keepLt : ∀ k, E.keep k → k < E.w0.heap.size
  kept : ∀ k, E.keep k → w.heap[k]? = E.w0.heap[k]?
  zLt : ∀ k, Z k → k < w.heap.size
  z0 : ∀ k, E.Z0 k → Z k
  zNew : ∀ k, Z k → E.Z0 k ∨ ¬ E.keep k

structure SatZ (E : Env) (Z : Zone) (ν : Vals) (T : Tab) (O : Own) (a : Act) (w : World) : Prop where
  defers : a.defers = E.marks
  tsize : a.tmps.size = E.N
  cst : ∀ d v, E.cst d = some v → a.tmps.getD d undef = v
  pin : ∀ r v, E.pin r = some v → ν r = v
  base : Base E Z w
  own : OwnOk E O Z ν w
  slot : ∀ d, (T.get d).ok Z ν w (a.tmps.getD d undef)

def Sat (E : Env) (T : Tab) (O : Own) (a : Act) (w : World) : Prop := ∃ Z ν, SatZ E Z ν T O a w

theorem Sat.congr {E : Env} {T T' : Tab} {O O' : Own} {a : Act} {w : World} (hT : ∀ d, T'.get d = T.get d) (hO : ∀ r, look O' r = look O r) (h : Sat E T O a w) : Sat E T' O' a w := by
  obtain ⟨Z, ν, h⟩ := h
  refine ⟨Z, ν, h.defers, h.tsize, h.cst, h.pin, h.base, ⟨fun r x hx => h.own.each r x (by rw [← hO]; exact hx), fun r r' hne h1 h2 => h.own.apart r r' hne (by rw [← hO]; exact h1) (by rw [← hO]; exact h2)⟩, fun d => ?_⟩
  rw [hT]; exact h.slot d

theorem Sat.drew {E : Env} {T : Tab} {O : Own} {a : Act} {w : World} (h : Sat E T O a w) : Sat E T O a { w with drawn := w.drawn + 1 } := by
  obtain ⟨Z, ν, h⟩ := h
  have hav : ∀ (τ : AV) v, τ.ok Z w v → τ.ok Z { w with drawn := w.drawn + 1 } v := AV.ok_mono (fun _ h => h) (Nat.le_refl _) (fun _ _ _ => rfl)
  have hsv : ∀ (s : SV) v, s.ok Z ν w v → s.ok Z ν { w with drawn := w.drawn + 1 } v := fun s v h => SV.ok_mono (w := w) (w' := { w with drawn := w.drawn + 1 }) (fun _ h => h) (Nat.le_refl _) (fun _ _ _ => rfl) s v (fun _ _ => rfl) h
  refine ⟨Z, ν, h.defers, h.tsize, h.cst, h.pin, ⟨h.base.os, h.base.tape, h.base.output, h.base.size, h.base.keepLt, h.base.kept, h.base.zLt, h.base.z0, h.base.zNew⟩, ⟨fun r x hx => ?_, h.own.apart⟩, fun d => hsv _ _ (h.slot d)⟩
  have := h.own.each r x hx
  cases x with
  | cells cs =>
    obtain ⟨b, ty, arr, h1, h2, h3, h4, h5, h6⟩ := this
    exact ⟨b, ty, arr, h1, h2, h3, h4, h5, fun i s hs => let ⟨u, hu, hk⟩ := h6 i s hs; ⟨u, hu, hsv _ _ hk⟩⟩
  | row ty sz n f =>
    rcases this with h1 | ⟨b, cap, arr, h1, h2, h3, h4, h5, h6, h7, h8⟩
    · exact .inl h1
    · exact .inr ⟨b, cap, arr, h1, h2, h3, h4, h5, h6, h7, fun i hi j hj => let ⟨u, hu, hk⟩ := h8 i hi j hj; ⟨u, hu, hav _ _ hk⟩⟩
  | obj φ hφ =>
    obtain ⟨b, ob, h1, h2, h3, h4, h5⟩ := this
    exact ⟨b, ob, h1, h2, h3, h4, hφ _ _ w _ _ _ (fun _ h => h) (Nat.le_refl _) (fun _ _ _ => rfl) h5⟩

/-- φ holds of each frame and world that the tables describe. -/
def SQ (E : Env) (T : Tab) (O : Own) (φ : Act → World → Prop) : Prop := ∀ a w, Sat E T O a w → φ a w

/-- All functions, any depth; in a round of a loop over a function, or in none. -/
def fc (ro : Option Nat) : Fence := { fn := fun _ => True, depth := none, alive := false, round := ro }

theorem rowsIn_fc {ro : Option Nat} {P : Program} {row : String} {args : Array Value} {w : World} {R : Value → World → Prop} (h : Rows P row args w R) : RowsIn (fc ro) 0 P row args w R := by
  intro c cs _
  obtain ⟨v, w', hr, hs⟩ := h c cs
  exact ⟨v, w', hr, stepsIn_wide.2 hs⟩

theorem Oper.wp_in {P : Program} {o : Oper} {a : Act} {w : World} {K K' : Act → World → Prop} {Q : Exit → Act → World → Prop} (ro : Option Nat) (hnd : ∀ c, o.op ≠ .defer c) (h : o.wp P a w K (fun _ _ _ => False)) (hk : ∀ a w, K a w → K' a w) : o.wpIn (fc ro) 0 P a w K' Q := by
  refine ⟨fun _ _ => trivial, ?_⟩
  rw [show (fc ro).round = ro from rfl, Oper.semAt_eq ro a.eval o hnd]
  unfold Oper.wp at h
  generalize (execOp a.eval o).run P w = r at *
  cases r with
  | ok n w' =>
    cases n <;> simp only [Oper.upon, Oper.uponIn] at h ⊢ <;>
      first
        | exact hk _ _ h
        | (refine ⟨fun h => by simp [fc] at h, ?_⟩
           have h2 := (callsIn_wide (n := 0)).2 h
           exact CallsIn.mono (F := fc ro) h2 (fun e w'' he => by cases e with
            | returned v => exact hk _ _ he
            | panicked c => exact he.elim
            | outgrown => obtain ⟨_, _, x⟩ := he; exact x.elim))
        | exact ⟨fun h => by simp [fc] at h, rowsIn_fc (Rows.mono h (fun _ _ he => hk _ _ he))⟩
  | halt x w' => cases x <;> simp only [Oper.upon, Oper.uponIn] at h ⊢

end Go.Vc
namespace Go.Vc
open Go Go.RowKit

/-- May the slot be written? -/
def Env.wr (E : Env) (d : Nat) : Bool := match Nat.blt d E.N with | true => (E.cst d).isNone | false => false
def dstOk (E : Env) : Option Nat → Bool
  | none => true
  | some d => E.wr d

theorem lt_of_blt {d N : Nat} (h : Nat.blt d N = true) : d < N := by
  unfold Nat.blt at h
  exact Nat.le_of_ble_eq_true h

theorem wr_lt {E : Env} {d : Nat} (h : E.wr d = true) : d < E.N := by
  unfold Env.wr at h
  cases hb : Nat.blt d E.N with
  | true => exact lt_of_blt hb
  | false => rw [hb] at h; cases h
theorem wr_cst {E : Env} {d : Nat} (h : E.wr d = true) : E.cst d = none := by
  unfold Env.wr at h
  cases hb : Nat.blt d E.N with
  | true => rw [hb] at h; simpa using h
  | false => rw [hb] at h; cases h
theorem put_cst {E : Env} {a : Act} {d : Nat} {v : Value} (hd : E.wr d = true) (h : ∀ d v, E.cst d = some v → a.tmps.getD d undef = v) : ∀ k u, E.cst k = some u → (a.put (some d) v).tmps.getD k undef = u := by
  intro k u hk
  have hne : d ≠ k := fun e => by subst e; rw [wr_cst hd] at hk; cases hk
  have := h k u hk
  simpa [Act.put, Array.getD_eq_getD_getElem?, Array.getElem?_setIfInBounds_ne hne] using this

theorem Tab.get_cons_eq (d : Nat) (s : SV) (T : Tab) : Tab.get ((d, s) :: T) d = s := by simp [Tab.get, look_cons_eq]
theorem Tab.get_cons_ne {d k : Nat} (s : SV) (T : Tab) (h : d ≠ k) : Tab.get ((d, s) :: T) k = Tab.get T k := by simp [Tab.get, look_cons_ne s T h]

theorem SatZ.put {E : Env} {Z : Zone} {ν : Vals} {T : Tab} {O : Own} {a : Act} {w : World} (h : SatZ E Z ν T O a w) (dst : Option Nat) (s : SV) (v : Value)
    (hd : dstOk E dst = true) (hv : s.ok Z ν w v) : SatZ E Z ν (T.set dst s) O (a.put dst v) w := by
  cases dst with
  | none => exact h
  | some d =>
    have hlt : d < a.tmps.size := by rw [h.tsize]; exact wr_lt hd
    refine ⟨h.defers, by simp [Act.put, h.tsize], put_cst hd h.cst, h.pin, h.base, h.own, fun k => ?_⟩
    by_cases hk : d = k
    · subst hk
      rw [show (Tab.set T (some d) s).get d = s from Tab.get_cons_eq d s T]
      simpa [Act.put, hlt] using hv
    · rw [show (Tab.set T (some d) s).get k = T.get k from Tab.get_cons_ne s T hk]
      have := h.slot k
      simpa [Act.put, Array.getD_eq_getD_getElem?, Array.getElem?_setIfInBounds_ne hk] using this

theorem SatZ.putU {E : Env} {Z : Zone} {ν : Vals} {T : Tab} {O : Own} {a : Act} {w : World} (h : SatZ E Z ν T O a w) (dst : Option Nat) (hd : dstOk E dst = true) :
    SatZ E Z ν (T.set dst (.av (.val undef))) O (a.put dst undef) w := by
  cases dst with
  | none => exact h
  | some d =>
    refine ⟨h.defers, by simp [Act.put, h.tsize], put_cst hd h.cst, h.pin, h.base, h.own, fun k => ?_⟩
    by_cases hk : d = k
    · subst hk
      rw [show (Tab.set T (some d) (.av (.val undef))).get d = .av (.val undef) from Tab.get_cons_eq d _ T]
      show (a.put (some d) undef).tmps.getD d undef = undef
      simp only [Act.put, Array.getD_eq_getD_getElem?]
      by_cases hlt : d < a.tmps.size
      · simp [hlt]
      · rw [Array.getElem?_eq_none (by simp; omega)]; rfl
    · rw [show (Tab.set T (some d) (.av (.val undef))).get k = T.get k from Tab.get_cons_ne _ T hk]
      have := h.slot k
      simpa [Act.put, Array.getD_eq_getD_getElem?, Array.getElem?_setIfInBounds_ne hk] using this

/-- An operation yields a value; the tables turn from T, O to T', O' (the value not yet put). -/
structure VStep (P : Program) (E : Env) (o : Oper) (T : Tab) (O : Own) (T' : Tab) (O' : Own) (s : SV) : Prop where
  nd : ∀ c, o.op ≠ .defer c
  run : ∀ (Z : Zone) (ν : Vals) (a : Act) (w : World), SatZ E Z ν T O a w → o.wp P a w (fun a' w' => ∃ v Z' ν', a' = a.put o.dst v ∧ SatZ E Z' ν' T' O' a w' ∧ s.ok Z' ν' w' v) (fun _ _ _ => False)

/-- The same whatever the tables hold beside what the operation looks at. -/
structure GV (P : Program) (E : Env) (o : Oper) (T : Tab) (O : Own) (s : SV) (rr : List Nat) (upd : Own) : Prop where
  vs : ∀ (T' : Tab) (O' : Own), (∀ d ∈ o.op.operands.toList.filterMap (fun | .tmp t => some t | _ => none), T'.get d = T.get d) → (∀ r ∈ rr, look O' r = look O r) → VStep P E o T' O' T' (upd ++ O') s

theorem GV.v {P : Program} {E : Env} {o : Oper} {T : Tab} {O : Own} {s : SV} {rr : List Nat} {upd : Own} (h : GV P E o T O s rr upd) : VStep P E o T O T (upd ++ O) s :=
  h.vs T O (fun _ _ => rfl) (fun _ _ => rfl)

/-- A list of operations, one behind the other. -/
structure LSQ (P : Program) (E : Env) (ops : Array Oper) (Q : Exit → Act → World → Prop) (l : List Oper) (T : Tab) (O : Own) : Prop where
  sq : SQ E T O (fun a w => wpListIn (fc E.round) 0 P ops Q l a w)

/-- A piece of code. -/
structure CQ (P : Program) (E : Env) (Q : Exit → Act → World → Prop) (T : Tab) (O : Own) (c : Code) : Prop where
  sq : SQ E T O (c.wpIn (fc E.round) 0 P Q)

section
variable {P : Program} {E : Env} {ops : Array Oper} {Q : Exit → Act → World → Prop} {l : List Oper} {T T' : Tab} {O O' : Own} {o : Oper}

theorem sq_nil (h : SQ E T O (Q .normal)) : LSQ P E ops Q [] T O := ⟨fun a w hs => wpListIn_nil (h a w hs)⟩

theorem yielded_of {j g : Nat} {b : Bool} {a : Act} {w : World} {Z : Zone} {ν : Vals} (hd : (ops[j]?).bind (·.dst) = some g) (hT : T.get g = .av (.val (.bool b))) (h : SatZ E Z ν T O a w) :
    yielded ops a.tmps j = some b := by
  have hs := h.slot g
  rw [hT] at hs
  have hs' : a.tmps.getD g undef = .bool b := hs
  unfold yielded
  rw [hd]
  have : a.tmps[g]? = some (.bool b) := by
    rw [Array.getD_eq_getD_getElem?] at hs'
    cases hg : a.tmps[g]? with
    | none => rw [hg] at hs'; simp [undef] at hs'
    | some x => rw [hg] at hs'; simpa using hs'
  simp [this]

theorem yielded_none {j g : Nat} {a : Act} {w : World} {Z : Zone} {ν : Vals} (hd : (ops[j]?).bind (·.dst) = some g) (hT : T.get g = .av (.val undef)) (h : SatZ E Z ν T O a w) :
    yielded ops a.tmps j = none := by
  have hs := h.slot g
  rw [hT] at hs
  have hs' : a.tmps.getD g undef = undef := hs
  unfold yielded
  rw [hd]
  rw [Array.getD_eq_getD_getElem?] at hs'
  cases hg : a.tmps[g]? with
  | none => simp [hg]
  | some x =>
    rw [hg] at hs'
    have hx : x = undef := hs'
    subst hx
    simp [hg, undef]

theorem sq_vstep {s : SV} (hs : VStep P E o T O T' O' s) (hg : o.guard = none) (hd : dstOk E o.dst = true) (hr : LSQ P E ops Q l (T'.set o.dst s) O') : LSQ P E ops Q (o :: l) T O := by
  refine ⟨fun a w hsat => ?_⟩
  obtain ⟨Z, ν, h⟩ := hsat
  refine wpListIn_plain hg fun K hK => ?_
  refine Oper.wp_in _ hs.nd (hs.run Z ν a w h) ?_
  rintro a' w' ⟨v, Z', ν', rfl, h', hv⟩
  exact hK _ _ (hr.sq _ _ ⟨Z', ν', h'.put _ _ _ hd hv⟩)

theorem sq_vstep_on {j g : Nat} {want : Bool} (hg : o.guard = some (j, want)) (hj : (ops[j]?).bind (·.dst) = some g) (hb : T.get g = .av (.val (.bool want)))
    (hd : dstOk E o.dst = true) {s : SV} (hs : VStep P E o T O T' O' s) (hr : LSQ P E ops Q l (T'.set o.dst s) O') : LSQ P E ops Q (o :: l) T O := by
  refine ⟨fun a w hsat => ?_⟩
  obtain ⟨Z, ν, h⟩ := hsat
  have hy := yielded_of hj hb h
  refine wpListIn_step fun K hK => ?_
  rw [if_pos (by simp [Region.wanted, hg, hy])]
  refine Oper.wp_in _ hs.nd (hs.run Z ν a w h) ?_
  rintro a' w' ⟨v, Z', ν', rfl, h', hv⟩
  exact hK _ _ (hr.sq _ _ ⟨Z', ν', h'.put _ _ _ hd hv⟩)

theorem sq_off' {j g : Nat} {want : Bool} {b : Bool} (hg : o.guard = some (j, want)) (hj : (ops[j]?).bind (·.dst) = some g) (hb : T.get g = .av (.val (.bool b))) (hne : (b == want) = false) (hd : dstOk E o.dst = true)
    (hr : LSQ P E ops Q l (T.set o.dst (.av (.val undef))) O) : LSQ P E ops Q (o :: l) T O := by
  refine ⟨fun a w hsat => ?_⟩
  obtain ⟨Z, ν, h⟩ := hsat
  have hy := yielded_of hj hb h
  refine wpListIn_step fun K hK => ?_
  rw [if_neg (by simp only [Region.wanted, hg, hy]; intro e; cases b <;> cases want <;> simp_all)]
  exact ⟨fun _ _ => trivial, hK _ _ (hr.sq _ _ ⟨Z, ν, h.putU _ hd⟩)⟩

section
variable {d : Nat} {op : Op} {ty : TypeId} {pos : String} {af : Array Edge} {s : SV} {rr : List Nat} {r : Nat} {x : Res} {j gd : Nat} {want b : Bool}
/-- An operation that writes a slot. -/
theorem sq_g (hs : GV P E ⟨some d, op, ty, pos, af, none⟩ T O s rr []) (hd : E.wr d = true) (hr : LSQ P E ops Q l ((d, s) :: T) O) : LSQ P E ops Q (⟨some d, op, ty, pos, af, none⟩ :: l) T O :=
  sq_vstep hs.v rfl hd hr
/-- A store. -/
theorem sq_s (hs : GV P E ⟨none, op, ty, pos, af, none⟩ T O s rr [(r, x)]) (hr : LSQ P E ops Q l T ((r, x) :: O)) : LSQ P E ops Q (⟨none, op, ty, pos, af, none⟩ :: l) T O :=
  sq_vstep hs.v rfl rfl hr
/-- What makes a thing of the call's own. -/
theorem sq_v (hs : VStep P E ⟨some d, op, ty, pos, af, none⟩ T O T' O' s) (hd : E.wr d = true) (hr : LSQ P E ops Q l ((d, s) :: T') O') : LSQ P E ops Q (⟨some d, op, ty, pos, af, none⟩ :: l) T O :=
  sq_vstep hs rfl hd hr
/-- A guarded operation: the guard says yes. -/
theorem sq_on (hs : GV P E ⟨some d, op, ty, pos, af, some (j, want)⟩ T O s rr []) (hj : (ops[j]?).bind (·.dst) = some gd) (hb : T.get gd = .av (.val (.bool want)))
    (hd : E.wr d = true) (hr : LSQ P E ops Q l ((d, s) :: T) O) : LSQ P E ops Q (⟨some d, op, ty, pos, af, some (j, want)⟩ :: l) T O :=
  sq_vstep_on rfl hj hb hd hs.v hr
/-- The guard says no. -/
theorem sq_off (hj : (ops[j]?).bind (·.dst) = some gd) (hb : T.get gd = .av (.val (.bool b))) (hne : (b == want) = false) (hd : E.wr d = true)
    (hr : LSQ P E ops Q l ((d, .av (.val undef)) :: T) O) : LSQ P E ops Q (⟨some d, op, ty, pos, af, some (j, want)⟩ :: l) T O :=
  sq_off' rfl hj hb hne hd hr
/-- The guard itself was passed over. -/
theorem sq_offu (hj : (ops[j]?).bind (·.dst) = some gd) (hb : T.get gd = .av (.val undef)) (hd : E.wr d = true)
    (hr : LSQ P E ops Q l ((d, .av (.val undef)) :: T) O) : LSQ P E ops Q (⟨some d, op, ty, pos, af, some (j, want)⟩ :: l) T O := by
  refine ⟨fun a w hsat => ?_⟩
  obtain ⟨Z, ν, h⟩ := hsat
  have hy := yielded_none hj hb h
  refine wpListIn_step fun K hK => ?_
  rw [if_neg (by simp [Region.wanted, hy])]
  exact ⟨fun _ _ => trivial, hK _ _ (hr.sq _ _ ⟨Z, ν, h.putU (some d) hd⟩)⟩
end

theorem SQ.more {φ : Act → World → Prop} (hT : ∀ d, T'.get d = T.get d) (h : SQ E T' O φ) : SQ E T O φ := fun a w hs => h a w (Sat.congr hT (fun _ => rfl) hs)

theorem Tab.get_same {g : Nat} {s : SV} (h : T.get g = s) : ∀ d, Tab.get ((g, s) :: T) d = T.get d := fun d => by
  by_cases hd : g = d
  · subst hd; rw [Tab.get_cons_eq, h]
  · rw [Tab.get_cons_ne _ _ hd]

theorem SQ.split {φ : Act → World → Prop} (g : Nat) {b : Bool} (hT : T.get g = .av (.val (.bool b))) (ht : b = true → SQ E ((g, .av (.val (.bool true))) :: T) O φ)
    (hf : b = false → SQ E ((g, .av (.val (.bool false))) :: T) O φ) : SQ E T O φ := by
  cases b with
  | true => exact SQ.more (Tab.get_same hT) (ht rfl)
  | false => exact SQ.more (Tab.get_same hT) (hf rfl)

theorem sq_split {d : Option Nat} {op : Op} {ty : TypeId} {pos : String} {af : Array Edge} {j g : Nat} {want : Bool} {b : Bool} (_hj : (ops[j]?).bind (·.dst) = some g) (hT : T.get g = .av (.val (.bool b)))
    (ht : b = true → LSQ P E ops Q (⟨d, op, ty, pos, af, some (j, want)⟩ :: l) ((g, .av (.val (.bool true))) :: T) O) (hf : b = false → LSQ P E ops Q (⟨d, op, ty, pos, af, some (j, want)⟩ :: l) ((g, .av (.val (.bool false))) :: T) O) : LSQ P E ops Q (⟨d, op, ty, pos, af, some (j, want)⟩ :: l) T O :=
  ⟨SQ.split g hT (fun e => (ht e).sq) (fun e => (hf e).sq)⟩

theorem cq_region {id : Nat} {l : List Oper} (h : LSQ P E l.toArray Q l T O) : CQ P E Q T O (Code.region id l.toArray false) :=
  ⟨fun a w hs => wpIn_region_lit (h.sq a w hs)⟩

/-! ### Control -/
theorem cq_seq {x y : Code} (h : CQ P E (Exit.then (y.wpIn (fc E.round) 0 P Q) Q) T O x) : CQ P E Q T O (Code.seq x y) := ⟨fun a w hs => wpIn_seq (h.sq a w hs)⟩
theorem sq_then {y : Code} (h : CQ P E Q T O y) : SQ E T O (Exit.then (y.wpIn (fc E.round) 0 P Q) Q .normal) := h.sq
theorem sq_then_exit {next : Act → World → Prop} {id : Nat} (h : SQ E T O (Q (.exit id))) : SQ E T O (Exit.then next Q (.exit id)) := h
theorem sq_then_ret {next : Act → World → Prop} (h : SQ E T O (Q .ret)) : SQ E T O (Exit.then next Q .ret) := h
theorem cq_skip (h : SQ E T O (Q .normal)) : CQ P E Q T O Code.skip := ⟨fun a w hs => wpIn_skip (h a w hs)⟩
theorem cq_ret (h : SQ E T O (Q .ret)) : CQ P E Q T O Code.ret := ⟨fun a w hs => wpIn_ret (h a w hs)⟩
theorem cq_exit {id : Nat} (h : SQ E T O (Q (.exit id))) : CQ P E Q T O (Code.exit id) := ⟨fun a w hs => wpIn_exit (h a w hs)⟩
theorem cq_block {id : Nat} {c : Code} (h : CQ P E (Exit.inBlock id Q) T O c) : CQ P E Q T O (Code.block id c) := ⟨fun a w hs => wpIn_block (h.sq a w hs)⟩
theorem sq_inBlock {id : Nat} (h : SQ E T O (Q .normal)) : SQ E T O (Exit.inBlock id Q .normal) := h
theorem sq_inBlock_ret {id : Nat} (h : SQ E T O (Q .ret)) : SQ E T O (Exit.inBlock id Q .ret) := h
theorem sq_inBlock_exit {id : Nat} (h : SQ E T O (Q .normal)) : SQ E T O (Exit.inBlock id Q (.exit id)) := fun a w hs => by
  show if id = id then Q .normal a w else Q (.exit id) a w
  rw [if_pos rfl]; exact h a w hs
theorem cq_cond {c : Nat} {x y : Code} {b : Bool} (hT : T.get c = .av (.val (.bool b))) (ht : b = true → CQ P E Q T O x) (hf : b = false → CQ P E Q T O y) :
    CQ P E Q T O (Code.cond (.tmp c) x y) := by
  refine ⟨fun a w hsat => ?_⟩
  obtain ⟨Z, ν, h⟩ := hsat
  have hs := h.slot c
  rw [hT] at hs
  exact wpIn_cond_split (t := b) hs (fun e => (ht e).sq a w ⟨Z, ν, h⟩) (fun e => (hf e).sq a w ⟨Z, ν, h⟩)
theorem cq_cond_t {c : Nat} {x y : Code} (hT : T.get c = .av (.val (.bool true))) (ht : CQ P E Q T O x) : CQ P E Q T O (Code.cond (.tmp c) x y) :=
  cq_cond hT (fun _ => ht) (fun e => by simp at e)
theorem cq_cond_f {c : Nat} {x y : Code} (hT : T.get c = .av (.val (.bool false))) (hf : CQ P E Q T O y) : CQ P E Q T O (Code.cond (.tmp c) x y) :=
  cq_cond hT (fun e => by simp at e) (fun _ => hf)

/-- Where two ways meet: the tables are weakened to named ones. -/
def Ent (T : Tab) (O : Own) (T' : Tab) (O' : Own) : Prop := ∀ E a w, Sat E T O a w → Sat E T' O' a w
theorem cq_more {c : Code} (h : Ent T O T' O') (hc : CQ P E Q T' O' c) : CQ P E Q T O c := ⟨fun a w hs => hc.sq a w (h E a w hs)⟩

/-- A loop: the tables at its head, for each ghost. -/
theorem cq_loop {γ : Type} {c : Code} (Tof : γ → Tab) (Oof : γ → Own) (φ : γ → Prop) (μ : γ → Nat) (g0 : γ) (h0 : φ g0) (hstart : Ent T O (Tof g0) (Oof g0))
    (hbody : ∀ g, φ g → CQ P E (Exit.then (fun a w => ∃ g', φ g' ∧ μ g' < μ g ∧ Sat E (Tof g') (Oof g') a w) Q) (Tof g) (Oof g) c) : CQ P E Q T O (Code.loop c) := by
  refine ⟨fun a w hs => ?_⟩
  refine wpIn_loop_ghost (fun n a w => ∃ g, μ g = n ∧ φ g ∧ Sat E (Tof g) (Oof g) a w) (μ g0) ⟨g0, rfl, h0, hstart E a w hs⟩ ?_
  rintro n a w ⟨g, rfl, hg, hsat⟩
  refine wpIn_mono ((hbody g hg).sq a w hsat) ?_
  intro e a' w' hq
  cases e with
  | normal => obtain ⟨g', h1, h2, h3⟩ := hq; exact ⟨μ g', h2, g', rfl, h1, h3⟩
  | exit id => exact hq
  | goto l => exact hq
  | ret => exact hq
  | panic ch => exact hq
  | outgrown => exact hq

theorem sq_round {γ : Type} {Tof : γ → Tab} {Oof : γ → Own} {φ : γ → Prop} {μ : γ → Nat} {g : γ} (g' : γ) (h1 : φ g') (h2 : μ g' < μ g) (h3 : Ent T O (Tof g') (Oof g')) :
    SQ E T O (Exit.then (fun a w => ∃ g', φ g' ∧ μ g' < μ g ∧ Sat E (Tof g') (Oof g') a w) Q .normal) := fun a w hs => ⟨g', h1, h2, h3 E a w hs⟩
end

/-! ### Weakening -/
def SLe (s s' : SV) : Prop := ∀ Z ν w v, s.ok Z ν w v → s'.ok Z ν w v
theorem SLe.refl (s : SV) : SLe s s := fun _ _ _ _ h => h
theorem SLe.any (s : SV) : SLe s (.av .any) := fun _ _ _ _ _ => trivial
theorem SLe.val {u v : Value} (h : u = v) : SLe (.av (.val u)) (.av (.val v)) := by subst h; exact SLe.refl _
theorem SLe.int {k : IntKind} {m n : Int} (h : m = n) : SLe (.av (.val (.int k m))) (.av (.val (.int k n))) := by subst h; exact SLe.refl _
theorem SLe.sl {n n' sz : Nat} {f f' : Nat → Nat → AV} (hn : n = n') (h : ∀ i, i < n → ∀ j, j < sz → f i j = f' i j) : SLe (.av (.sl n sz f)) (.av (.sl n' sz f')) := by
  subst hn
  rintro Z ν w v ⟨a, c, h1, h2, h3, h4⟩
  refine ⟨a, c, h1, h2, h3, fun hp => ?_⟩
  obtain ⟨b, o, e1, e2, e3, e4⟩ := h4 hp
  exact ⟨b, o, e1, e2, e3, fun i hi j hj => let ⟨u, hu, hk⟩ := e4 i hi j hj; ⟨u, hu, by rw [← h i hi j hj]; exact hk⟩⟩

inductive RLe : Res → Res → Prop
  | refl (x : Res) : RLe x x
  | row {ty sz n n' : Nat} {f f' : Nat → Nat → AV} (hn : n = n') (h : ∀ i, i < n → ∀ j, j < sz → f i j = f' i j) : RLe (.row ty sz n f) (.row ty sz n' f')
  | cells {cs cs' : List SV} (h : All2 SLe cs cs') : RLe (.cells cs) (.cells cs')

theorem RLe.ok {x y : Res} (h : RLe x y) {E : Env} {Z : Zone} {ν : Vals} {w : World} {v : Value} (hx : x.ok E Z ν w v) : y.ok E Z ν w v := by
  cases h with
  | refl => exact hx
  | row hn h =>
    subst hn
    rcases hx with h1 | ⟨b, cap, arr, h1, h2, h3, h4, h5, h6, h7, h8⟩
    · exact .inl h1
    · exact .inr ⟨b, cap, arr, h1, h2, h3, h4, h5, h6, h7, fun i hi j hj => let ⟨u, hu, hk⟩ := h8 i hi j hj; ⟨u, hu, by rw [← h i hi j hj]; exact hk⟩⟩
  | cells h =>
    obtain ⟨b, ty, arr, h1, h2, h3, h4, h5, h6⟩ := hx
    refine ⟨b, ty, arr, h1, h2, h3, h4, h5.trans h.len, fun i s' hs' => ?_⟩
    have hl := h.len
    have hi := (List.getElem?_eq_some_iff.1 hs').1
    have hi' : i < _ := hl.symm ▸ hi
    obtain ⟨s2, hs2, hle⟩ := h.get i _ (List.getElem?_eq_getElem hi')
    rw [hs'] at hs2
    cases hs2
    obtain ⟨u, hu, hk⟩ := h6 i _ (List.getElem?_eq_getElem hi')
    exact ⟨u, hu, hle _ _ _ _ hk⟩

def EntT (T : Tab) : Tab → Prop
  | [] => True
  | (d, s) :: T' => SLe (T.get d) s ∧ EntT T T'
def EntO (O : Own) : Own → Prop
  | [] => True
  | (r, x) :: O' => (∃ y, look O r = some y ∧ RLe y x) ∧ EntO O O'

theorem ent {T : Tab} {O : Own} {T' : Tab} {O' : Own} (hT : EntT T T') (hO : EntO O O') : Ent T O T' O' := by
  rintro E a w ⟨Z, ν, h⟩
  have hTs : ∀ (T' : Tab), EntT T T' → ∀ d, (T'.get d).ok Z ν w (a.tmps.getD d undef) := by
    intro T'
    induction T' with
    | nil => intro _ d; trivial
    | cons p T' ih =>
      obtain ⟨k, s⟩ := p
      intro ht d
      by_cases hk : k = d
      · subst hk; rw [Tab.get_cons_eq]; exact ht.1 _ _ _ _ (h.slot k)
      · rw [Tab.get_cons_ne _ _ hk]; exact ih ht.2 d
  have hOs : ∀ (O' : Own), EntO O O' → ∀ r x, look O' r = some x → ∃ y, look O r = some y ∧ RLe y x := by
    intro O'
    induction O' with
    | nil => intro _ r x hx; simp [look] at hx
    | cons p O' ih =>
      obtain ⟨k, y⟩ := p
      intro ho r x hx
      by_cases hk : k = r
      · subst hk; rw [look_cons_eq] at hx; cases hx; exact ho.1
      · rw [look_cons_ne _ _ hk] at hx; exact ih ho.2 r x hx
  refine ⟨Z, ν, h.defers, h.tsize, h.cst, h.pin, h.base, ⟨fun r x hx => ?_, fun r r' hne h1 h2 b hb => ?_⟩, hTs T' hT⟩
  · obtain ⟨y, hy, hle⟩ := hOs O' hO r x hx
    exact hle.ok (h.own.each r y hy)
  · obtain ⟨x, hx⟩ := Option.ne_none_iff_exists'.1 h1
    obtain ⟨x', hx'⟩ := Option.ne_none_iff_exists'.1 h2
    obtain ⟨y, hy, _⟩ := hOs O' hO r x hx
    obtain ⟨y', hy', _⟩ := hOs O' hO r' x' hx'
    exact h.own.apart r r' hne (by rw [hy]; simp) (by rw [hy']; simp) b hb
end Go.Vc
namespace Go.Vc
open Go Go.RowKit

/-! ### A region that draws its order -/
/-- What of a list of writes is in force: those that are flagged, a later one over an earlier one. -/
def comp {α : Type} : (Nat → Bool) → List (List (Nat × α)) → List (Nat × α) → List (Nat × α)
  | _, [], A => A
  | fl, x :: xs, A => comp (fun j => fl (j + 1)) xs (if fl 0 then x ++ A else A)

def keys {α : Type} (x : List (Nat × α)) : List Nat := x.map (·.1)

theorem look_append {α : Type} (d : Nat) : ∀ (x A : List (Nat × α)), look (x ++ A) d = match look x d with | some s => some s | none => look A d
  | [], A => rfl
  | (k, s) :: x, A => by
    by_cases h : k = d
    · subst h; simp [look]
    · rw [List.cons_append, look_cons_ne _ _ h, look_cons_ne _ _ h, look_append d x A]

theorem look_none_of {α : Type} {d : Nat} : ∀ {x : List (Nat × α)}, d ∉ keys x → look x d = none
  | [], _ => rfl
  | (k, s) :: x, h => by
    simp only [keys, List.map_cons, List.mem_cons, not_or] at h
    rw [look_cons_ne _ _ (fun e => h.1 e.symm)]
    exact look_none_of h.2

theorem look_append_not {α : Type} {d : Nat} {x A : List (Nat × α)} (h : d ∉ keys x) : look (x ++ A) d = look A d := by
  rw [look_append, look_none_of h]

theorem look_append_congr {α : Type} {d : Nat} (x : List (Nat × α)) {A B : List (Nat × α)} (h : look A d = look B d) : look (x ++ A) d = look (x ++ B) d := by
  rw [look_append, look_append, h]

theorem comp_congr {α : Type} (d : Nat) : ∀ (xs : List (List (Nat × α))) (fl fl' : Nat → Bool) (A B : List (Nat × α)), look A d = look B d →
    (∀ (j : Nat) (x : List (Nat × α)), xs[j]? = some x → d ∈ keys x → fl j = fl' j) → look (comp fl xs A) d = look (comp fl' xs B) d
  | [], _, _, _, _, h, _ => h
  | x :: xs, fl, fl', A, B, h, hf => by
    unfold comp
    refine comp_congr d xs _ _ _ _ ?_ (fun j y hy hd => hf (j + 1) y (by simpa using hy) hd)
    by_cases hd : d ∈ keys x
    · rw [hf 0 x (by simp) hd]
      split
      · exact look_append_congr x h
      · exact h
    · split <;> split <;> simp only [look_append_not hd, h]

/-- A write before the flagged ones that do not write its key is a write behind them. -/
theorem comp_push {α : Type} (y : List (Nat × α)) (d : Nat) : ∀ (xs : List (List (Nat × α))) (fl : Nat → Bool) (A : List (Nat × α)),
    (∀ (j : Nat) (x : List (Nat × α)), xs[j]? = some x → fl j = true → ∀ k ∈ keys y, k ∉ keys x) → look (comp fl xs (y ++ A)) d = look (y ++ comp fl xs A) d
  | [], _, _, _ => rfl
  | x :: xs, fl, A, h => by
    unfold comp
    have hrest := comp_push y d xs (fun j => fl (j + 1))
    by_cases h0 : fl 0 = true
    · simp only [h0, if_true]
      have hx := h 0 x (by simp) h0
      have hA : look (x ++ (y ++ A)) d = look (y ++ (x ++ A)) d := by
        by_cases hd : d ∈ keys y
        · rw [look_append_not (hx d hd), look_append, look_append]
          have : look y d ≠ none := by
            intro e
            clear h hrest hx
            induction y with
            | nil => simp [keys] at hd
            | cons p y ih =>
              obtain ⟨k, s⟩ := p
              by_cases hk : k = d
              · subst hk; simp [look] at e
              · rw [look_cons_ne _ _ hk] at e
                exact ih (by simpa [keys, Ne.symm hk] using hd) e
          cases hl : look y d with
          | none => exact absurd hl this
          | some s => rfl
        · exact (look_append_congr x (look_append_not hd)).trans (look_append_not hd).symm
      calc look (comp (fun j => fl (j + 1)) xs (x ++ (y ++ A))) d = look (comp (fun j => fl (j + 1)) xs (y ++ (x ++ A))) d := comp_congr d xs _ _ _ _ hA (fun _ _ _ _ => rfl)
        _ = look (y ++ comp (fun j => fl (j + 1)) xs (x ++ A)) d := hrest (x ++ A) (fun j z hz hf k hk => h (j + 1) z (by simpa using hz) hf k hk)
    · simp only [h0]
      exact hrest A (fun j z hz hf k hk => h (j + 1) z (by simpa using hz) hf k hk)

/-- One write more. -/
theorem comp_add {α : Type} (d : Nat) : ∀ (xs : List (List (Nat × α))) (i : Nat) (x : List (Nat × α)) (fl : Nat → Bool) (A : List (Nat × α)), xs[i]? = some x → fl i = false →
    (∀ (j : Nat) (y : List (Nat × α)), xs[j]? = some y → i < j → fl j = true → ∀ k ∈ keys x, k ∉ keys y) →
    look (comp (fun j => fl j || Nat.beq j i) xs A) d = look (x ++ comp fl xs A) d
  | [], i, x, fl, A, hx, _, _ => by simp at hx
  | z :: zs, 0, x, fl, A, hx, hf, h => by
    simp only [List.getElem?_cons_zero, Option.some.injEq] at hx
    subst hx
    unfold comp
    simp only [hf, Bool.false_or, Nat.beq_refl, if_true, if_false, Bool.false_eq_true]
    rw [← comp_push z d zs _ A (fun j y hy hfl k hk => h (j + 1) y (by simpa using hy) (by omega) hfl k hk)]
    refine comp_congr d zs _ _ _ _ rfl (fun j y _ _ => ?_)
    have : Nat.beq (j + 1) 0 = false := rfl
    simp [this]
  | z :: zs, i + 1, x, fl, A, hx, hf, h => by
    unfold comp
    dsimp only
    have h0 : (fl 0 || Nat.beq 0 (i + 1)) = fl 0 := by
      have : Nat.beq 0 (i + 1) = false := rfl
      simp [this]
    simp only [h0]
    have := comp_add d zs i x (fun j => fl (j + 1)) (if fl 0 then z ++ A else A) (by simpa using hx) hf
      (fun j y hy hij hfl k hk => h (j + 1) y (by simpa using hy) (by omega) hfl k hk)
    rw [← this]
    refine comp_congr d zs _ _ _ _ rfl (fun j y _ _ => ?_)
    rfl

/-- What is told of one operation. -/
structure Rec where
  tw : Tab
  rr : List Nat
  upd : Own
  fr : List Nat := []

def Res.fresh (r : Nat) : Res → Bool
  | .cells cs => cs.all (fun s => !s.mentions r)
  | .row .. => true
  | .obj .. => true

/-- Nothing speaks of the resource r. -/
def FreshP (r : Nat) (T : Tab) (O : Own) : Prop := (∀ d s, look T d = some s → s.mentions r = false) ∧ ∀ k x, look O k = some x → k ≠ r ∧ x.fresh r = true
def freshTB (r : Nat) (T : Tab) : Bool := T.all (fun p => !p.2.mentions r)
def freshOB (r : Nat) (O : Own) : Bool := O.all (fun p => !Nat.beq p.1 r && p.2.fresh r)

theorem look_mem {α : Type} : ∀ {l : List (Nat × α)} {d : Nat} {s : α}, look l d = some s → (d, s) ∈ l
  | [], d, s, h => by simp [look] at h
  | (k, x) :: l, d, s, h => by
    by_cases hk : k = d
    · subst hk; rw [look_cons_eq] at h; cases h; simp
    · rw [look_cons_ne _ _ hk] at h; exact List.mem_cons_of_mem _ (look_mem h)

theorem freshT_of {r : Nat} {T : Tab} (h : freshTB r T = true) {d : Nat} {s : SV} (hl : look T d = some s) : s.mentions r = false := by
  simp only [freshTB, List.all_eq_true] at h
  simpa using h _ (look_mem hl)
theorem freshO_of {r : Nat} {O : Own} (h : freshOB r O = true) {k : Nat} {x : Res} (hl : look O k = some x) : k ≠ r ∧ x.fresh r = true := by
  simp only [freshOB, List.all_eq_true, Bool.and_eq_true] at h
  have := h _ (look_mem hl)
  exact ⟨fun e => by subst e; simp at this, this.2⟩

theorem look_comp {α : Type} {d : Nat} {s : α} : ∀ (xs : List (List (Nat × α))) (fl : Nat → Bool) (A : List (Nat × α)), look (comp fl xs A) d = some s → look A d = some s ∨ ∃ j y, xs[j]? = some y ∧ fl j = true ∧ look y d = some s
  | [], fl, A, h => .inl h
  | y :: xs, fl, A, h => by
    unfold comp at h
    rcases look_comp xs _ _ h with h1 | ⟨j, z, hz, hf, hl⟩
    · by_cases hf : fl 0 = true
      · rw [if_pos hf, look_append] at h1
        cases hy : look y d with
        | some t => rw [hy] at h1; cases h1; exact .inr ⟨0, y, by simp, hf, hy⟩
        | none => rw [hy] at h1; exact .inl h1
      · rw [if_neg hf] at h1; exact .inl h1
    · exact .inr ⟨j + 1, z, by simpa using hz, hf, hl⟩

def GS (P : Program) (E : Env) (ops : Array Oper) (o : Oper) (x : Rec) (T : Tab) (O : Own) : Prop :=
  (∀ c, o.op ≠ .defer c) ∧ ∀ (T' : Tab) (O' : Own), (∀ d ∈ o.looksAt ops, T'.get d = T.get d) → (∀ r ∈ x.rr, look O' r = look O r) → (∀ r ∈ x.fr, FreshP r T' O') → ∀ a w, Sat E T' O' a w →
    if Region.wanted o (yielded ops a.tmps) = true then o.wp P a w (fun a' w' => Sat E (x.tw ++ T') (x.upd ++ O') a' w') (fun _ _ _ => False) else Sat E (x.tw ++ T') (x.upd ++ O') (a.put o.dst undef) w

def DR (P : Program) (E : Env) (ops : Array Oper) : List (Oper × Rec) → Tab → Own → Prop
  | [], _, _ => True
  | (o, x) :: l, T, O => GS P E ops o x T O ∧ keys x.tw = o.dst.toList ∧ DR P E ops l (x.tw ++ T) (x.upd ++ O)

section
variable {P : Program} {E : Env} {ops : Array Oper}

theorem DR.at : ∀ {l : List (Oper × Rec)} {T : Tab} {O : Own}, DR P E ops l T O → ∀ (i : Nat) (o : Oper) (x : Rec), l[i]? = some (o, x) →
    GS P E ops o x (comp (fun j => Nat.blt j i) (l.map (·.2.tw)) T) (comp (fun j => Nat.blt j i) (l.map (·.2.upd)) O) ∧ keys x.tw = o.dst.toList
  | [], _, _, _, i, o, x, hi => by simp at hi
  | (o', x') :: l, T, O, h, 0, o, x, hi => by
    simp only [List.getElem?_cons_zero, Option.some.injEq, Prod.mk.injEq] at hi
    obtain ⟨rfl, rfl⟩ := hi
    have c0 : ∀ {α : Type} (xs : List (List (Nat × α))) (A : List (Nat × α)), comp (fun j => Nat.blt j 0) xs A = A := by
      intro α xs
      have : ∀ (fl : Nat → Bool), (∀ j, fl j = false) → ∀ A, comp fl xs A = A := by
        induction xs with
        | nil => intro fl _ A; rfl
        | cons y ys ih => intro fl hf A; unfold comp; simp only [hf 0]; exact ih _ (fun j => hf (j + 1)) A
      exact this _ (fun j => rfl)
    rw [c0, c0]
    exact ⟨h.1, h.2.1⟩
  | (o', x') :: l, T, O, h, i + 1, o, x, hi => by
    have := DR.at h.2.2 i o x (by simpa using hi)
    simp only [List.map_cons, comp]
    have hb : Nat.blt 0 (i + 1) = true := rfl
    have hsh : ∀ j, Nat.blt (j + 1) (i + 1) = Nat.blt j i := fun j => rfl
    simp only [hb, if_true, hsh]
    exact this

/-- Is i directly, or through others, ahead of j? -/
def reach (l : List Oper) : Nat → Nat → Nat → Bool
  | 0, _, _ => false
  | f + 1, j, i => match l[j]? with
    | none => false
    | some o => o.after.toList.any fun e => Region.binds .any e && (Nat.beq e.on i || reach l f e.on i)

def intersects (x y : List Nat) : Bool := x.any fun a => y.any fun b => Nat.beq a b

theorem intersects_of {x y : List Nat} {k : Nat} (hx : k ∈ x) (hy : k ∈ y) : intersects x y = true := by
  simp only [intersects, List.any_eq_true]
  exact ⟨k, hx, k, hy, by simp⟩

/-- Do two operations touch one thing, one of them writing? -/
def meets (ops : Array Oper) (a b : Oper × Rec) : Bool :=
  intersects a.1.dst.toList (b.1.looksAt ops) || intersects a.1.dst.toList b.1.dst.toList || intersects b.1.dst.toList (a.1.looksAt ops) ||
  intersects (keys a.2.upd) b.2.rr || intersects (keys a.2.upd) (keys b.2.upd) || intersects (keys b.2.upd) a.2.rr

def below (n : Nat) (p : Nat → Bool) : Bool := (List.range n).all p

theorem below_of {n : Nat} {p : Nat → Bool} (h : below n p = true) {i : Nat} (hi : i < n) : p i = true := by
  simp only [below, List.all_eq_true, List.mem_range] at h
  exact h i hi

def meetsAt (ops : Array Oper) (l : List (Oper × Rec)) (i j : Nat) : Bool :=
  match l[i]?, l[j]? with
  | some a, some b => meets ops a b
  | _, _ => false

/-- THE LOOK AT A REGION: each edge leads back; what touches one thing stands in order. -/
def drawOk (ops : Array Oper) (l : List (Oper × Rec)) : Bool :=
  below l.length fun j => (match l[j]? with | some x => x.1.after.toList.all fun e => !Region.binds .any e || Nat.blt e.on j | none => true) &&
    below j fun i => !meetsAt ops l i j || reach (l.map (·.1)) 4 j i

/-- What makes a thing: nothing spoke of it before, and what speaks of it stands behind. -/
def freshAt (l : List (Oper × Rec)) (i r : Nat) : Bool := below l.length fun j => Nat.beq j i || (match l[j]? with | some y => freshTB r y.2.tw && freshOB r y.2.upd | none => true) || (Nat.blt i j && reach (l.map (·.1)) 4 j i)
def freshOk (l : List (Oper × Rec)) (T : Tab) (O : Own) : Bool :=
  below l.length fun i => match l[i]? with | some x => x.2.fr.all fun r => freshTB r T && freshOB r O && freshAt l i r | none => true

theorem reach_flag {l : List Oper} {D : Nat → Prop} (hD : ∀ j, D j → ∀ o, l[j]? = some o → ∀ e ∈ o.after.toList, Region.binds .any e = true → D e.on) :
    ∀ (f j i : Nat) (o : Oper), l[j]? = some o → (∀ e ∈ o.after.toList, Region.binds .any e = true → D e.on) → reach l f j i = true → D i
  | 0, _, _, _, _, _, h => by simp [reach] at h
  | f + 1, j, i, o, hj, ho, h => by
    unfold reach at h
    rw [hj] at h
    simp only [List.any_eq_true, Bool.and_eq_true, Bool.or_eq_true] at h
    obtain ⟨e, he, hb, h | h⟩ := h
    · have : e.on = i := Nat.eq_of_beq_eq_true h
      rw [← this]; exact ho e he hb
    · have hde := ho e he hb
      cases hl : l[e.on]? with
      | none =>
        exfalso
        cases f with
        | zero => simp [reach] at h
        | succ f => simp [reach, hl] at h
      | some o' => exact reach_flag hD f e.on i o' hl (hD e.on hde o' hl) h

theorem filter_set : ∀ (L : List Bool) (i : Nat), L[i]? = some false → ((L.set i true).filter id).length = (L.filter id).length + 1
  | [], i, h => by simp at h
  | b :: L, 0, h => by simp at h; subst h; simp
  | b :: L, i + 1, h => by
    simp only [List.set_cons_succ, List.filter_cons]
    have := filter_set L i (by simpa using h)
    split <;> simp [this]

theorem meetsAt_of {l : List (Oper × Rec)} {i j : Nat} {a b : Oper × Rec} (hi : l[i]? = some a) (hj : l[j]? = some b) (h : meets ops a b = true) : meetsAt ops l i j = true := by
  simp [meetsAt, hi, hj, h]

/-- THE REGION, in whatever order. -/
theorem draw_any {Q : Exit → Act → World → Prop} {l : List (Oper × Rec)} {T : Tab} {O : Own} (hops : ops = (l.map (·.1)).toArray) (hdr : DR P E ops l T O) (hok : drawOk ops l = true) (hfr : freshOk l T O = true)
    (hQ : ∀ a w, Sat E (comp (fun _ => true) (l.map (·.2.tw)) T) (comp (fun _ => true) (l.map (·.2.upd)) O) a w → Q .normal a w) :
    ∀ (fuel : Nat) (listed : Array Bool) (a : Act) (w : World), listed.size = l.length →
      (∀ j, listed.getD j false = true → ∀ o, (l.map (·.1))[j]? = some o → ∀ e ∈ o.after.toList, Region.binds .any e = true → listed.getD e.on false = true) →
      (l.length - fuel ≤ (listed.toList.filter id).length) →
      Sat E (comp (fun j => listed.getD j false) (l.map (·.2.tw)) T) (comp (fun j => listed.getD j false) (l.map (·.2.upd)) O) a w →
      wpAnyIn (fc E.round) 0 P .any ops Q fuel listed a w := by
  have hsz : ops.size = l.length := by rw [hops]; simp
  have hop : ∀ i : Nat, ops[i]? = (l.map (·.1))[i]? := fun i => by rw [hops]; simp
  have hall : ∀ (listed : Array Bool) (a : Act) (w : World), listed.size = l.length → Region.ready .any ops listed = [] →
      Sat E (comp (fun j => listed.getD j false) (l.map (·.2.tw)) T) (comp (fun j => listed.getD j false) (l.map (·.2.upd)) O) a w → Q .normal a w := by
    intro listed a w hls hr hs
    have hfull : ∀ i, i < l.length → listed.getD i false = true := by
      intro i
      induction i using Nat.strongRecOn with
      | _ i ih =>
        intro hi
        cases hl : listed.getD i false with
        | true => rfl
        | false =>
          exfalso
          have hmem : i ∈ Region.ready .any ops listed := by
            simp only [Region.ready, List.mem_filter, List.mem_range, Bool.and_eq_true]
            refine ⟨by omega, ?_, ?_⟩
            · have : listed.getD i true = listed.getD i false := by
                simp [Array.getD_eq_getD_getElem?, Array.getElem?_eq_getElem (show i < listed.size by omega)]
              rw [this, hl]; rfl
            · rw [hop i]
              obtain ⟨x, hx⟩ : ∃ x, l[i]? = some x := ⟨l[i], List.getElem?_eq_getElem hi⟩
              simp only [List.getElem?_map, hx, Option.map_some, Option.getD_some]
              rw [Array.all_eq_true']
              intro e he
              have h1 := below_of hok hi
              simp only [Bool.and_eq_true, hx, List.all_eq_true] at h1
              have h2 := h1.1 e (Array.mem_toList_iff.2 he)
              cases hb : Region.binds .any e with
              | false => rfl
              | true =>
                rw [hb] at h2
                simp only [Bool.not_true, Bool.false_or] at h2
                have hlt := lt_of_blt h2
                simp [ih e.on hlt (by omega)]
          rw [hr] at hmem
          cases hmem
    refine hQ a w (Sat.congr (fun d => ?_) (fun r => ?_) hs)
    · unfold Tab.get
      rw [comp_congr d (l.map (·.2.tw)) (fun _ => true) (fun j => listed.getD j false) T T rfl (fun j x hx _ => (hfull j (by
        have := (List.getElem?_eq_some_iff.1 hx).1; simpa using this)).symm)]
    · exact comp_congr r (l.map (·.2.upd)) (fun _ => true) (fun j => listed.getD j false) O O rfl (fun j x hx _ => (hfull j (by
        have := (List.getElem?_eq_some_iff.1 hx).1; simpa using this)).symm)
  intro fuel
  induction fuel with
  | zero =>
    intro listed a w hls hcl hcount hs
    have hfull : ∀ b ∈ listed.toList, b = true := by
      have h1 : (listed.toList.filter id).length = listed.toList.length := by
        have := List.length_filter_le id listed.toList
        have h2 : listed.toList.length = l.length := by rw [Array.length_toList, hls]
        omega
      have := List.length_filter_eq_length_iff.1 h1
      exact this
    have hr : Region.ready .any ops listed = [] := by
      simp only [Region.ready, List.filter_eq_nil_iff, List.mem_range, Bool.and_eq_true, not_and]
      intro i hi hni
      exfalso
      have hi' : i < listed.size := by omega
      have : listed[i] = true := hfull _ (Array.getElem_mem_toList hi')
      simp [Array.getD_eq_getD_getElem?, Array.getElem?_eq_getElem hi', this] at hni
    exact ⟨hr, hall listed a w hls hr hs⟩
  | succ fuel ih =>
    intro listed a w hls hcl hcount hs
    refine ⟨fun hr => hall listed a w hls hr hs, fun i hi => ?_⟩
    simp only [Region.ready, List.mem_filter, List.mem_range, Bool.and_eq_true] at hi
    obtain ⟨hilt, hni, hedge⟩ := hi
    have hi' : i < listed.size := by omega
    have hil : i < l.length := by omega
    have hnf : listed.getD i false = false := by
      simp [Array.getD_eq_getD_getElem?, Array.getElem?_eq_getElem hi'] at hni ⊢
      exact hni
    obtain ⟨⟨o, x⟩, hx⟩ : ∃ x, l[i]? = some x := ⟨l[i], List.getElem?_eq_getElem hil⟩
    have hoi : ops[i]? = some o := by rw [hop i]; simp [hx]
    have hedges : ∀ e ∈ o.after.toList, Region.binds .any e = true → listed.getD e.on false = true := by
      intro e he hb
      rw [hoi] at hedge
      simp only [Option.map_some, Option.getD_some, Array.all_eq_true'] at hedge
      have := hedge e (Array.mem_toList_iff.1 he)
      simpa [hb] using this
    obtain ⟨hgs, hkeys⟩ := hdr.at i o x hx
    have hto : (l.map (·.1))[i]? = some o := by simp [hx]
    -- what meets operation i is listed exactly if it stands before it
    have horder : ∀ (j : Nat) (y : Oper × Rec), l[j]? = some y → j ≠ i → (meets ops (o, x) y = true → i < j → listed.getD j false = false) ∧ (meets ops y (o, x) = true → j < i → listed.getD j false = true) := by
      intro j y hy hne
      have hjl : j < l.length := (List.getElem?_eq_some_iff.1 hy).1
      refine ⟨fun hm hij => ?_, fun hm hji => ?_⟩
      · have h1 := below_of hok hjl
        simp only [Bool.and_eq_true, hy] at h1
        have h2 := below_of h1.2 hij
        rw [meetsAt_of hx hy hm] at h2
        simp only [Bool.not_true, Bool.false_or] at h2
        cases hlj : listed.getD j false with
        | false => rfl
        | true =>
          have := reach_flag (l := l.map (·.1)) (D := fun k => listed.getD k false = true) hcl 4 j i y.1 (by simp [hy]) (hcl j hlj y.1 (by simp [hy])) h2
          rw [hnf] at this
          cases this
      · have h1 := below_of hok hil
        simp only [Bool.and_eq_true, hx] at h1
        have h2 := below_of h1.2 hji
        rw [meetsAt_of hy hx hm] at h2
        simp only [Bool.not_true, Bool.false_or] at h2
        exact reach_flag (l := l.map (·.1)) (D := fun k => listed.getD k false = true) hcl 4 i j o hto hedges h2
    have hfl : ∀ (j : Nat) (y : Oper × Rec), l[j]? = some y → (meets ops (o, x) y = true ∧ meets ops y (o, x) = true) → listed.getD j false = Nat.blt j i := by
      intro j y hy hm
      by_cases hji : j = i
      · subst hji
        rw [hnf]
        exact (Bool.eq_false_iff.2 fun h => absurd (lt_of_blt h) (Nat.lt_irrefl _)).symm
      · rcases Nat.lt_or_gt_of_ne hji with h | h
        · rw [(horder j y hy hji).2 hm.2 h]
          exact (Nat.ble_eq_true_of_le h).symm
        · rw [(horder j y hy hji).1 hm.1 h]
          exact (Bool.eq_false_iff.2 fun h' => absurd (lt_of_blt h') (by omega)).symm
    have hgsT := hgs.2 (comp (fun j => listed.getD j false) (l.map (·.2.tw)) T) (comp (fun j => listed.getD j false) (l.map (·.2.upd)) O) (by
      intro d hd
      unfold Tab.get
      rw [comp_congr d (l.map (·.2.tw)) (fun j => listed.getD j false) (fun j => Nat.blt j i) T T rfl]
      intro j z hz hdz
      simp only [List.getElem?_map, Option.map_eq_some_iff] at hz
      obtain ⟨y, hy, rfl⟩ := hz
      refine hfl j y hy ?_
      have hky : keys y.2.tw = y.1.dst.toList := (hdr.at j y.1 y.2 (by simpa using hy)).2
      rw [hky] at hdz
      constructor
      · simp only [meets, Bool.or_eq_true]; exact .inl (.inl (.inl (.inr (intersects_of hdz hd))))
      · simp only [meets, Bool.or_eq_true]; exact .inl (.inl (.inl (.inl (.inl (intersects_of hdz hd)))))) (by
      intro r hr
      refine comp_congr r (l.map (·.2.upd)) (fun j => listed.getD j false) (fun j => Nat.blt j i) O O rfl ?_
      intro j z hz hdz
      simp only [List.getElem?_map, Option.map_eq_some_iff] at hz
      obtain ⟨y, hy, rfl⟩ := hz
      refine hfl j y hy ⟨?_, ?_⟩
      · simp only [meets, Bool.or_eq_true]; exact .inr (intersects_of hdz hr)
      · simp only [meets, Bool.or_eq_true]; exact .inl (.inl (.inr (intersects_of hdz hr)))) (by
      intro r hr
      have h1 := below_of hfr hil
      simp only [hx, List.all_eq_true, Bool.and_eq_true] at h1
      obtain ⟨⟨hT0, hO0⟩, hat⟩ := h1 r hr
      have hrec : ∀ (j : Nat) (y : Oper × Rec), l[j]? = some y → listed.getD j false = true → freshTB r y.2.tw = true ∧ freshOB r y.2.upd = true := by
        intro j y hy hf
        have hjl : j < l.length := (List.getElem?_eq_some_iff.1 hy).1
        have h2 := below_of hat hjl
        simp only [hy, Bool.or_eq_true, Bool.and_eq_true] at h2
        rcases h2 with (h3 | h3) | h3
        · have : j = i := Nat.eq_of_beq_eq_true h3
          subst this
          rw [hnf] at hf; cases hf
        · exact h3
        · exfalso
          have := reach_flag (l := l.map (·.1)) (D := fun k => listed.getD k false = true) hcl 4 j i y.1 (by simp [hy]) (hcl j hf y.1 (by simp [hy])) h3.2
          rw [hnf] at this; cases this
      refine ⟨fun d s hl => ?_, fun k z hl => ?_⟩
      · rcases look_comp _ _ _ hl with h3 | ⟨j, z, hz, hf, hl'⟩
        · exact freshT_of hT0 h3
        · simp only [List.getElem?_map, Option.map_eq_some_iff] at hz
          obtain ⟨y, hy, rfl⟩ := hz
          exact freshT_of (hrec j y hy hf).1 hl'
      · rcases look_comp _ _ _ hl with h3 | ⟨j, z', hz, hf, hl'⟩
        · exact freshO_of hO0 h3
        · simp only [List.getElem?_map, Option.map_eq_some_iff] at hz
          obtain ⟨y, hy, rfl⟩ := hz
          exact freshO_of (hrec j y hy hf).2 hl') a w hs
    have hnext : ∀ a' w', Sat E (x.tw ++ comp (fun j => listed.getD j false) (l.map (·.2.tw)) T) (x.upd ++ comp (fun j => listed.getD j false) (l.map (·.2.upd)) O) a' w' →
        wpAnyIn (fc E.round) 0 P .any ops Q fuel (listed.setIfInBounds i true) a' w' := by
      intro a' w' hs'
      have hget : ∀ j, (listed.setIfInBounds i true).getD j false = (listed.getD j false || Nat.beq j i) := by
        intro j
        by_cases hji : j = i
        · subst hji
          simp [Array.getD_eq_getD_getElem?, hi']
        · have hb : Nat.beq j i = false := by
            cases hb : Nat.beq j i with
            | false => rfl
            | true => exact absurd (Nat.eq_of_beq_eq_true hb) hji
          simp [Array.getD_eq_getD_getElem?, Array.getElem?_setIfInBounds_ne (Ne.symm hji), hb]
      refine ih _ a' w' (by simp [hls]) ?_ ?_ ?_
      · intro j hj o' ho' e he hb
        rw [hget] at hj ⊢
        simp only [Bool.or_eq_true] at hj
        rcases hj with hj | hj
        · rw [hcl j hj o' ho' e he hb]; rfl
        · have : j = i := Nat.eq_of_beq_eq_true hj
          subst this
          rw [hto] at ho'
          cases ho'
          rw [hedges e he hb]; rfl
      · have : ((listed.setIfInBounds i true).toList.filter id).length = (listed.toList.filter id).length + 1 := by
          rw [Array.toList_setIfInBounds]
          have hli : listed.toList[i]? = some false := by
            have h0 : listed[i]? = some false := by
              rw [Array.getElem?_eq_getElem hi']
              simp [Array.getD_eq_getD_getElem?, Array.getElem?_eq_getElem hi'] at hnf
              rw [hnf]
            simpa using h0
          exact filter_set _ _ hli
        omega
      · have hT : ∀ d, look (comp (fun j => listed.getD j false || Nat.beq j i) (l.map (·.2.tw)) T) d = look (x.tw ++ comp (fun j => listed.getD j false) (l.map (·.2.tw)) T) d := by
          intro d
          refine comp_add d (l.map (·.2.tw)) i x.tw (fun j => listed.getD j false) T (by simp [hx]) hnf ?_
          intro j z hz hij hfj k hk hkz
          simp only [List.getElem?_map, Option.map_eq_some_iff] at hz
          obtain ⟨y, hy, rfl⟩ := hz
          have hky : keys y.2.tw = y.1.dst.toList := (hdr.at j y.1 y.2 (by simpa using hy)).2
          rw [hkeys] at hk
          rw [hky] at hkz
          have hm : meets ops (o, x) y = true := by simp only [meets, Bool.or_eq_true]; exact .inl (.inl (.inl (.inl (.inr (intersects_of hk hkz)))))
          rw [(horder j y hy (by omega)).1 hm hij] at hfj
          cases hfj
        have hO : ∀ r, look (comp (fun j => listed.getD j false || Nat.beq j i) (l.map (·.2.upd)) O) r = look (x.upd ++ comp (fun j => listed.getD j false) (l.map (·.2.upd)) O) r := by
          intro r
          refine comp_add r (l.map (·.2.upd)) i x.upd (fun j => listed.getD j false) O (by simp [hx]) hnf ?_
          intro j z hz hij hfj k hk hkz
          simp only [List.getElem?_map, Option.map_eq_some_iff] at hz
          obtain ⟨y, hy, rfl⟩ := hz
          have hm : meets ops (o, x) y = true := by simp only [meets, Bool.or_eq_true]; exact .inl (.inr (intersects_of hk hkz))
          rw [(horder j y hy (by omega)).1 hm hij] at hfj
          cases hfj
        simp only [hget]
        exact Sat.congr (fun d => by unfold Tab.get; rw [hT]) hO hs'
    unfold wpOpIn
    simp only [hoi]
    split
    · rename_i hw
      rw [if_pos hw] at hgsT
      exact Oper.wp_in _ hgs.1 hgsT hnext
    · rename_i hw
      rw [if_neg hw] at hgsT
      exact ⟨fun _ _ => trivial, hnext _ _ hgsT⟩

theorem dr_region_raw {Q : Exit → Act → World → Prop} {id : Nat} {l : List (Oper × Rec)} {T : Tab} {O : Own} (hm : P.follows .mixedOrders = true) (hops : ops = (l.map (·.1)).toArray) (hdr : DR P E ops l T O) (hok : drawOk ops l = true) (hfr : freshOk l T O = true)
    (hQ : ∀ a w, Sat E (comp (fun _ => true) (l.map (·.2.tw)) T) (comp (fun _ => true) (l.map (·.2.upd)) O) a w → Q .normal a w) : SQ E T O ((Code.region id ops true).wpIn (fc E.round) 0 P Q) := by
  intro a w hs
  refine wpIn_region_any hm ?_
  have hsz : ops.size = l.length := by rw [hops]; simp
  have hf : ∀ j, (Array.replicate ops.size false).getD j false = false := by
    intro j
    simp [Array.getD_eq_getD_getElem?, Array.getElem?_replicate]
    split <;> simp
  refine draw_any hops hdr hok hfr hQ ops.size _ a _ (by simp [hsz]) (fun j hj => ?_) (by omega) ?_
  · rw [hf] at hj; cases hj
  · have c0 : ∀ {α : Type} (xs : List (List (Nat × α))) (fl : Nat → Bool), (∀ j, fl j = false) → ∀ A, comp fl xs A = A := by
      intro α xs
      induction xs with
      | nil => intro fl _ A; rfl
      | cons y ys ih => intro fl hf A; unfold comp; simp only [hf 0]; exact ih _ (fun j => hf (j + 1)) A
    rw [c0 _ _ hf, c0 _ _ hf]
    exact hs.drew

end
end Go.Vc
namespace Go.Vc
open Go Go.RowKit

section
variable {P : Program} {E : Env}

theorem DR.snoc {ops : Array Oper} {o : Oper} {x : Rec} : ∀ {l : List (Oper × Rec)} {T : Tab} {O : Own}, DR P E ops l T O →
    GS P E ops o x (comp (fun _ => true) (l.map (·.2.tw)) T) (comp (fun _ => true) (l.map (·.2.upd)) O) → keys x.tw = o.dst.toList → DR P E ops (l ++ [(o, x)]) T O
  | [], _, _, _, hg, hk => ⟨hg, hk, trivial⟩
  | (o', x') :: l, T, O, h, hg, hk => ⟨h.1, h.2.1, DR.snoc h.2.2 hg hk⟩

theorem comp_snoc {α : Type} (x : List (Nat × α)) : ∀ (xs : List (List (Nat × α))) (A : List (Nat × α)), comp (fun _ => true) (xs ++ [x]) A = x ++ comp (fun _ => true) xs A
  | [], A => rfl
  | y :: xs, A => comp_snoc x xs (y ++ A)

structure DPre (P : Program) (E : Env) (L : List Oper) (rpre : List (Oper × Rec)) (T0 : Tab) (O0 : Own) (T : Tab) (O : Own) : Prop where
  dr : DR P E L.toArray rpre.reverse T0 O0
  tab : ∀ d, T.get d = Tab.get (comp (fun _ => true) (rpre.reverse.map (·.2.tw)) T0) d
  own : ∀ r, look O r = look (comp (fun _ => true) (rpre.reverse.map (·.2.upd)) O0) r

/-- A region that draws its order, part of it told. -/
structure DRQ (P : Program) (E : Env) (id : Nat) (L : List Oper) (Q : Exit → Act → World → Prop) (rpre : List (Oper × Rec)) (l : List Oper) (T0 : Tab) (O0 : Own) (T : Tab) (O : Own) : Prop where
  run : L = rpre.reverse.map (·.1) ++ l → DPre P E L rpre T0 O0 T O → SQ E T0 O0 ((Code.region id L.toArray true).wpIn (fc E.round) 0 P Q)

variable {id : Nat} {L l : List Oper} {Q : Exit → Act → World → Prop} {rpre : List (Oper × Rec)} {T0 T T' : Tab} {O0 O O' : Own} {o : Oper}

theorem cq_drawn (h : DRQ P E id L Q [] L T O T O) : CQ P E Q T O (Code.region id L.toArray true) :=
  ⟨h.run (by simp) ⟨trivial, fun _ => rfl, fun _ => rfl⟩⟩

def recOf (o : Oper) (s : SV) (rr : List Nat) (upd : Own) : Rec := { tw := match o.dst with | some d => [(d, s)] | none => [], rr := rr, upd := upd }

theorem recOf_keys (o : Oper) (s : SV) (rr : List Nat) (upd : Own) : keys (recOf o s rr upd).tw = o.dst.toList := by
  unfold recOf keys
  cases o.dst <;> simp

theorem recOf_tw (o : Oper) (s : SV) (rr : List Nat) (upd : Own) (T : Tab) : (recOf o s rr upd).tw ++ T = T.set o.dst s := by
  unfold recOf Tab.set
  cases o.dst <;> simp

theorem dq_push {x : Rec} (hk : keys x.tw = o.dst.toList) (hg : GS P E L.toArray o x T O) (hr : DRQ P E id L Q ((o, x) :: rpre) l T0 O0 (x.tw ++ T) (x.upd ++ O)) : DRQ P E id L Q rpre (o :: l) T0 O0 T O := by
  refine ⟨fun hL hp => ?_⟩
  refine hr.run (by rw [hL]; simp) ⟨?_, fun d => ?_, fun r => ?_⟩
  · rw [List.reverse_cons]
    refine hp.dr.snoc ?_ hk
    refine ⟨hg.1, fun T' O' h1 h2 h3 => ?_⟩
    exact hg.2 T' O' (fun d hd => (h1 d hd).trans (hp.tab d).symm) (fun r hr => (h2 r hr).trans (hp.own r).symm) h3
  · simp only [List.reverse_cons, List.map_append, List.map_cons, List.map_nil, comp_snoc]
    unfold Tab.get
    rw [look_append, look_append]
    have := hp.tab d
    unfold Tab.get at this
    cases look x.tw d with
    | some s => rfl
    | none => exact this
  · simp only [List.reverse_cons, List.map_append, List.map_cons, List.map_nil, comp_snoc]
    exact look_append_congr _ (hp.own r)

theorem dq_g' {s : SV} {rr : List Nat} {upd : Own} (hs : GV P E o T O s rr upd) (hg : o.guard = none) (hd : dstOk E o.dst = true)
    (hr : DRQ P E id L Q ((o, recOf o s rr upd) :: rpre) l T0 O0 (T.set o.dst s) (upd ++ O)) : DRQ P E id L Q rpre (o :: l) T0 O0 T O := by
  refine dq_push (x := recOf o s rr upd) (recOf_keys _ _ _ _) ?_ (by rw [recOf_tw]; exact hr)
  refine ⟨(hs.v).nd, fun T' O' h1 h2 _ a w hsat => ?_⟩
  rw [if_pos (by simp [Region.wanted, hg])]
  obtain ⟨Z, ν, h⟩ := hsat
  refine Oper.wp_mono ?_ ((hs.vs T' O' (fun d hd => h1 d (List.mem_append.2 (.inl hd))) h2).run Z ν a w h)
  rintro a' w' ⟨v, Z', ν', rfl, h', hv⟩
  rw [recOf_tw]
  exact ⟨Z', ν', h'.put _ _ _ hd hv⟩

theorem dq_on' {s : SV} {rr : List Nat} {upd : Own} {j g : Nat} {want : Bool} (hs : GV P E o T O s rr upd) (hg : o.guard = some (j, want)) (hj : (L.toArray[j]?).bind (·.dst) = some g) (hb : T.get g = .av (.val (.bool want)))
    (hd : dstOk E o.dst = true) (hr : DRQ P E id L Q ((o, recOf o s rr upd) :: rpre) l T0 O0 (T.set o.dst s) (upd ++ O)) : DRQ P E id L Q rpre (o :: l) T0 O0 T O := by
  refine dq_push (x := recOf o s rr upd) (recOf_keys _ _ _ _) ?_ (by rw [recOf_tw]; exact hr)
  refine ⟨(hs.v).nd, fun T' O' h1 h2 _ a w hsat => ?_⟩
  obtain ⟨Z, ν, h⟩ := hsat
  have hgm : g ∈ o.looksAt L.toArray := List.mem_append.2 (.inr (by simp only [hg, hj]; simp))
  have hy := yielded_of hj ((h1 g hgm).trans hb) h
  rw [if_pos (by simp [Region.wanted, hg, hy])]
  refine Oper.wp_mono ?_ ((hs.vs T' O' (fun d hd => h1 d (List.mem_append.2 (.inl hd))) h2).run Z ν a w h)
  rintro a' w' ⟨v, Z', ν', rfl, h', hv⟩
  rw [recOf_tw]
  exact ⟨Z', ν', h'.put _ _ _ hd hv⟩

theorem dq_off' {j g : Nat} {want b : Bool} (hnd : ∀ c, o.op ≠ .defer c) (hg : o.guard = some (j, want)) (hj : (L.toArray[j]?).bind (·.dst) = some g) (hb : T.get g = .av (.val (.bool b))) (hne : (b == want) = false) (hd : dstOk E o.dst = true)
    (hr : DRQ P E id L Q ((o, recOf o (.av (.val undef)) [] []) :: rpre) l T0 O0 (T.set o.dst (.av (.val undef))) O) : DRQ P E id L Q rpre (o :: l) T0 O0 T O := by
  refine dq_push (x := recOf o (.av (.val undef)) [] []) (recOf_keys _ _ _ _) ?_ (by rw [recOf_tw]; exact hr)
  refine ⟨hnd, fun T' O' h1 h2 _ a w hsat => ?_⟩
  obtain ⟨Z, ν, h⟩ := hsat
  have hgm : g ∈ o.looksAt L.toArray := List.mem_append.2 (.inr (by simp only [hg, hj]; simp))
  have hy := yielded_of hj ((h1 g hgm).trans hb) h
  rw [if_neg (by simp only [Region.wanted, hg, hy]; intro e; cases b <;> cases want <;> simp_all)]
  rw [recOf_tw]
  exact ⟨Z, ν, h.putU _ hd⟩

theorem dq_split' {j g : Nat} {want b : Bool} (_hg : o.guard = some (j, want)) (_hj : (L.toArray[j]?).bind (·.dst) = some g) (hT : T.get g = .av (.val (.bool b)))
    (ht : b = true → DRQ P E id L Q rpre (o :: l) T0 O0 ((g, .av (.val (.bool true))) :: T) O) (hf : b = false → DRQ P E id L Q rpre (o :: l) T0 O0 ((g, .av (.val (.bool false))) :: T) O) : DRQ P E id L Q rpre (o :: l) T0 O0 T O := by
  refine ⟨fun hL hp => ?_⟩
  cases b with
  | true => exact (ht rfl).run hL ⟨hp.dr, fun d => (Tab.get_same hT d).trans (hp.tab d), hp.own⟩
  | false => exact (hf rfl).run hL ⟨hp.dr, fun d => (Tab.get_same hT d).trans (hp.tab d), hp.own⟩

theorem dq_nil (hm : P.follows .mixedOrders = true) (hok : (drawOk L.toArray rpre.reverse && freshOk rpre.reverse T0 O0) = true) (h : SQ E T O (Q .normal)) : DRQ P E id L Q rpre [] T0 O0 T O := by
  refine ⟨fun hL hp => ?_⟩
  rw [List.append_nil] at hL
  simp only [Bool.and_eq_true] at hok
  refine dr_region_raw hm (by rw [hL]) hp.dr hok.1 hok.2 fun a w hs => h a w (Sat.congr hp.tab hp.own hs)

section
variable {d : Nat} {op : Op} {ty : TypeId} {pos : String} {af : Array Edge} {s : SV} {rr : List Nat} {r : Nat} {x : Res} {j gd : Nat} {want b : Bool}
theorem dq_g (hs : GV P E ⟨some d, op, ty, pos, af, none⟩ T O s rr []) (hd : E.wr d = true) (hr : DRQ P E id L Q ((⟨some d, op, ty, pos, af, none⟩, ⟨[(d, s)], rr, [], []⟩) :: rpre) l T0 O0 ((d, s) :: T) O) :
    DRQ P E id L Q rpre (⟨some d, op, ty, pos, af, none⟩ :: l) T0 O0 T O := dq_g' hs rfl hd hr
theorem dq_s (hs : GV P E ⟨none, op, ty, pos, af, none⟩ T O s rr [(r, x)]) (hr : DRQ P E id L Q ((⟨none, op, ty, pos, af, none⟩, ⟨[], rr, [(r, x)], []⟩) :: rpre) l T0 O0 T ((r, x) :: O)) :
    DRQ P E id L Q rpre (⟨none, op, ty, pos, af, none⟩ :: l) T0 O0 T O := dq_g' hs rfl rfl hr
theorem dq_on (hs : GV P E ⟨some d, op, ty, pos, af, some (j, want)⟩ T O s rr []) (hj : (L.toArray[j]?).bind (·.dst) = some gd) (hb : T.get gd = .av (.val (.bool want)))
    (hd : E.wr d = true) (hr : DRQ P E id L Q ((⟨some d, op, ty, pos, af, some (j, want)⟩, ⟨[(d, s)], rr, [], []⟩) :: rpre) l T0 O0 ((d, s) :: T) O) :
    DRQ P E id L Q rpre (⟨some d, op, ty, pos, af, some (j, want)⟩ :: l) T0 O0 T O := dq_on' hs rfl hj hb hd hr
theorem dq_off (hnd : ∀ c, op ≠ .defer c) (hj : (L.toArray[j]?).bind (·.dst) = some gd) (hb : T.get gd = .av (.val (.bool b))) (hne : (b == want) = false) (hd : E.wr d = true)
    (hr : DRQ P E id L Q ((⟨some d, op, ty, pos, af, some (j, want)⟩, ⟨[(d, .av (.val undef))], [], [], []⟩) :: rpre) l T0 O0 ((d, .av (.val undef)) :: T) O) :
    DRQ P E id L Q rpre (⟨some d, op, ty, pos, af, some (j, want)⟩ :: l) T0 O0 T O := dq_off' hnd rfl hj hb hne hd hr
theorem dq_split {dd : Option Nat} (hj : (L.toArray[j]?).bind (·.dst) = some gd) (hT : T.get gd = .av (.val (.bool b)))
    (ht : b = true → DRQ P E id L Q rpre (⟨dd, op, ty, pos, af, some (j, want)⟩ :: l) T0 O0 ((gd, .av (.val (.bool true))) :: T) O) (hf : b = false → DRQ P E id L Q rpre (⟨dd, op, ty, pos, af, some (j, want)⟩ :: l) T0 O0 ((gd, .av (.val (.bool false))) :: T) O) :
    DRQ P E id L Q rpre (⟨dd, op, ty, pos, af, some (j, want)⟩ :: l) T0 O0 T O := dq_split' rfl hj hT ht hf
end
/-- What makes a thing, in whatever order. -/
structure GA (P : Program) (E : Env) (o : Oper) (T : Tab) (O : Own) (s : SV) (rr : List Nat) (r : Nat) (x : Res) : Prop where
  vs : ∀ (T' : Tab) (O' : Own), (∀ d ∈ o.op.operands.toList.filterMap (fun | .tmp t => some t | _ => none), T'.get d = T.get d) → (∀ r ∈ rr, look O' r = look O r) → FreshP r T' O' → VStep P E o T' O' T' ((r, x) :: O') s
  nd : ∀ c, o.op ≠ .defer c

theorem dq_v {d : Nat} {op : Op} {ty : TypeId} {pos : String} {af : Array Edge} {s : SV} {rr : List Nat} {r : Nat} {x : Res} (hs : GA P E ⟨some d, op, ty, pos, af, none⟩ T O s rr r x) (_hf : (freshTB r T && freshOB r O) = true) (hd : E.wr d = true)
    (hr : DRQ P E id L Q ((⟨some d, op, ty, pos, af, none⟩, ⟨[(d, s)], rr, [(r, x)], [r]⟩) :: rpre) l T0 O0 ((d, s) :: T) ((r, x) :: O)) :
    DRQ P E id L Q rpre (⟨some d, op, ty, pos, af, none⟩ :: l) T0 O0 T O := by
  refine dq_push (x := ⟨[(d, s)], rr, [(r, x)], [r]⟩) rfl ?_ hr
  refine ⟨hs.nd, fun T' O' h1 h2 h3 a w hsat => ?_⟩
  rw [if_pos (by simp [Region.wanted])]
  obtain ⟨Z, ν, h⟩ := hsat
  refine Oper.wp_mono ?_ ((hs.vs T' O' (fun d hd => h1 d (List.mem_append.2 (.inl hd))) h2 (h3 r (by simp))).run Z ν a w h)
  rintro a' w' ⟨v, Z', ν', rfl, h', hv⟩
  exact ⟨Z', ν', h'.put (some d) _ _ hd hv⟩
end
end Go.Vc
namespace Go.Vc
open Go Go.RowKit

section
variable {P : Program} {E : Env} {T : Tab} {O : Own} {o : Oper}

/-- What an operand is known to be. -/
def Tab.ev (T : Tab) : Operand → SV
  | .tmp x => T.get x
  | .const v => .av (.val v)
  | .func f => .av (.val (.func (.func f) #[] #[]))
  | .global g => .av (.val (.pointer (some ⟨g, 0, none⟩)))

theorem ev_ok {Z : Zone} {ν : Vals} {a : Act} {w : World} (h : SatZ E Z ν T O a w) (x : Operand) : (T.ev x).ok Z ν w (a.eval x) := by
  cases x with
  | tmp t => exact h.slot t
  | const v => exact rfl
  | func f => exact rfl
  | global g => exact rfl

theorem ev_same {T' : Tab} (h : ∀ d ∈ o.op.operands.toList.filterMap (fun | .tmp t => some t | _ => none), T'.get d = T.get d) {x : Operand} (hx : x ∈ o.op.operands.toList) : T'.ev x = T.ev x := by
  cases x with
  | tmp t => exact h t (List.mem_filterMap.2 ⟨.tmp t, hx, rfl⟩)
  | _ => rfl

/-- The run of an operation that yields a value. -/
theorem wp_value {o : Oper} {a : Act} {w w' : World} {v : Value} {K : Act → World → Prop} {Q : Exit → Act → World → Prop} (hr : (execOp a.eval o).run P w = .ok (.value v) w') (hk : K (a.put o.dst v) w') : o.wp P a w K Q := by
  unfold Oper.wp
  rw [hr]
  exact hk

/-- An operation that turns no memory. -/
theorem gv_pure {s : SV} (rr : List Nat)
    (h : ∀ (Z : Zone) (ν : Vals) (a : Act) (w : World), (∀ x ∈ o.op.operands.toList, (T.ev x).ok Z ν w (a.eval x)) → (∀ r ∈ rr, ∀ x, look O r = some x → x.ok E Z ν w (ν r)) →
      ∃ v, (execOp a.eval o).run P w = .ok (.value v) w ∧ s.ok Z ν w v) : (hnd : ∀ c, o.op ≠ .defer c := by intro c; simp) → GV P E o T O s rr [] := by
  intro hnd
  refine ⟨fun T' O' h1 h2 => ⟨hnd, fun Z ν a w hs => ?_⟩⟩
  obtain ⟨v, hr, hv⟩ := h Z ν a w (fun x hx => by rw [← ev_same h1 hx]; exact ev_ok hs x) (fun r hr x hx => hs.own.each r x (by rw [h2 r hr]; exact hx))
  exact wp_value hr ⟨v, Z, ν, rfl, hs, hv⟩

variable {d : Option Tmp} {ty : TypeId} {pos : String} {af : Array Edge} {g : Option (Nat × Bool)}

theorem g_move {x : Operand} {s : SV} (hx : T.ev x = s) : GV P E ⟨d, .move x, ty, pos, af, g⟩ T O s [] [] :=
  gv_pure [] fun Z ν a w h _ => ⟨a.eval x, rfl, by rw [← hx]; exact h x (by simp [Op.operands])⟩
theorem g_assign {x : Operand} {s : SV} (hx : T.ev x = s) : GV P E ⟨d, .assign x, ty, pos, af, g⟩ T O s [] [] :=
  gv_pure [] fun Z ν a w h _ => ⟨a.eval x, rfl, by rw [← hx]; exact h x (by simp [Op.operands])⟩

theorem val_ok {Z : Zone} {ν : Vals} {w : World} {T : Tab} {x : Operand} {a : Act} {u : Value} (hx : T.ev x = .av (.val u)) (h : (T.ev x).ok Z ν w (a.eval x)) : a.eval x = u := by
  rw [hx] at h; exact h

theorem g_pick {c x y : Operand} {b : Bool} {s : SV} (hc : T.ev c = .av (.val (.bool b))) (hs : (match b with | true => T.ev x | false => T.ev y) = s) : GV P E ⟨d, .pick c x y, ty, pos, af, g⟩ T O s [] [] :=
  gv_pure [] fun Z ν a w h _ => by
    have hb := val_ok hc (h c (by simp [Op.operands]))
    refine ⟨if b then a.eval x else a.eval y, by simp [execOp, hb, asBool], ?_⟩
    subst hs
    cases b with
    | true => exact h x (by simp [Op.operands])
    | false => exact h y (by simp [Op.operands])

/-! ### Integers -/
theorem run_binOp {op : BinOp} {xt yt : TypeId} {x y : Operand} {a : Act} {w : World} {v : Value} {u1 u2 : Value}
    (h1 : a.eval x = u1) (h2 : a.eval y = u2) (hg : (eqGuard op xt x y u1 u2).run P w = .ok () w) (hv : (binOp op xt u1 u2).run P w = .ok v w) :
    (execOp a.eval ⟨d, .binOp op xt x y yt, ty, pos, af, g⟩).run P w = .ok (.value v) w := by
  simp [execOp, h1, h2, hg, hv]

theorem run_eqGuard_int (op : BinOp) (t : TypeId) (x y : Operand) (k : IntKind) (a : Int) (u : Value) (w : World) : (eqGuard op t x y (.int k a) u).run P w = .ok () w := by
  unfold eqGuard
  cases op <;> simp

theorem g_bin {op : BinOp} {xt yt : TypeId} {x y : Operand} {u1 u2 : Value} {v : Value} (h1 : T.ev x = .av (.val u1)) (h2 : T.ev y = .av (.val u2))
    (hg : ∀ w, (eqGuard op xt x y u1 u2).run P w = .ok () w) (hv : ∀ w, (binOp op xt u1 u2).run P w = .ok v w) : GV P E ⟨d, .binOp op xt x y yt, ty, pos, af, g⟩ T O (.av (.val v)) [] [] :=
  gv_pure [] fun Z ν a w h _ => ⟨v, run_binOp (val_ok h1 (h x (by simp [Op.operands]))) (val_ok h2 (h y (by simp [Op.operands]))) (hg w) (hv w), rfl⟩

/-- Comparisons of integers. -/
def cmpB : BinOp → Int → Int → Option Bool
  | .eql, x, y => some (x == y)
  | .neq, x, y => some (x != y)
  | .lss, x, y => some (decide (x < y))
  | .leq, x, y => some (decide (x ≤ y))
  | .gtr, x, y => some (decide (y < x))
  | .geq, x, y => some (decide (y ≤ x))
  | _, _, _ => none

theorem g_cmp {op : BinOp} {xt yt : TypeId} {x y : Operand} {k : IntKind} {m n : Int} {b : Bool} (h1 : T.ev x = .av (.val (.int k m))) (h2 : T.ev y = .av (.val (.int k n))) (hb : cmpB op m n = some b) :
    GV P E ⟨d, .binOp op xt x y yt, ty, pos, af, g⟩ T O (.av (.val (.bool b))) [] [] :=
  g_bin h1 h2 (fun w => run_eqGuard_int ..) (fun w => by
    cases op <;> simp only [cmpB, Option.some.injEq, reduceCtorEq] at hb <;> subst hb <;> simp [binOp, Op.intCmp])

/-- + - * -/
def arithI : BinOp → Int → Int → Option Int
  | .add, x, y => some (x + y)
  | .sub, x, y => some (x - y)
  | .mul, x, y => some (x * y)
  | _, _, _ => none

theorem g_arith_w {op : BinOp} {xt yt : TypeId} {x y : Operand} {k : IntKind} {m n r : Int} (h1 : T.ev x = .av (.val (.int k m))) (h2 : T.ev y = .av (.val (.int k n))) (hr : arithI op m n = some r) :
    GV P E ⟨d, .binOp op xt x y yt, ty, pos, af, g⟩ T O (.av (.val (.int k (k.wrap r)))) [] [] :=
  g_bin h1 h2 (fun w => run_eqGuard_int ..) (fun w => by
    cases op <;> simp only [arithI, Option.some.injEq, reduceCtorEq] at hr <;> subst hr <;> simp [binOp, Op.intArith])

/-- The same where the sum fits an int. -/
theorem g_arith {op : BinOp} {xt yt : TypeId} {x y : Operand} {m n r : Int} (h1 : T.ev x = .av (.val (.int .i64 m))) (h2 : T.ev y = .av (.val (.int .i64 n))) (hr : arithI op m n = some r)
    (hin : -9223372036854775808 ≤ r ∧ r ≤ 9223372036854775807) :
    GV P E ⟨d, .binOp op xt x y yt, ty, pos, af, g⟩ T O (.av (.val (.int .i64 r))) [] [] := by
  have := g_arith_w (P := P) (E := E) (O := O) (d := d) (ty := ty) (pos := pos) (af := af) (g := g) (xt := xt) (yt := yt) h1 h2 hr
  rwa [IntWalk.i64_in r hin] at this

/-- x % y where neither is negative, and y is not 0. -/
theorem g_rem {xt yt : TypeId} {x y : Operand} {k : IntKind} {m n : Int} (h1 : T.ev x = .av (.val (.int k m))) (h2 : T.ev y = .av (.val (.int k n))) (hm : 0 ≤ m) (hn : 0 < n) :
    GV P E ⟨d, .binOp .rem xt x y yt, ty, pos, af, g⟩ T O (.av (.val (.int k (m % n)))) [] [] :=
  g_bin h1 h2 (fun w => run_eqGuard_int ..) (fun w => by
    have : n ≠ 0 := by omega
    simp [binOp, Op.intDiv, this, Int.tmod_eq_emod_of_nonneg hm])

theorem g_neg {xt : TypeId} {x : Operand} {m : Int} (h1 : T.ev x = .av (.val (.int .i64 m))) (hin : -9223372036854775807 ≤ m ∧ m ≤ 9223372036854775807) :
    GV P E ⟨d, .unOp .neg xt x, ty, pos, af, g⟩ T O (.av (.val (.int .i64 (-m)))) [] [] :=
  gv_pure [] fun Z ν a w h _ => ⟨.int .i64 (-m), by
    have := val_ok h1 (h x (by simp [Op.operands]))
    simp [execOp, this, Op.unary, Op.intArith, IntWalk.i64_in (-m) (by omega)], rfl⟩

theorem g_not {xt : TypeId} {x : Operand} {b : Bool} (h1 : T.ev x = .av (.val (.bool b))) : GV P E ⟨d, .unOp .not xt x, ty, pos, af, g⟩ T O (.av (.val (.bool (!b)))) [] [] :=
  gv_pure [] fun Z ν a w h _ => ⟨.bool (!b), by
    have := val_ok h1 (h x (by simp [Op.operands]))
    simp [execOp, this, Op.unary], rfl⟩

/-! ### What is asked of the program's types -/
class CellTy (P : Program) (t : TypeId) : Prop where
  run : ∀ w, (isAgg t).run P w = .ok false w
class AggTy (P : Program) (t : TypeId) (n : outParam Nat) : Prop where
  agg : ∀ w, (isAgg t).run P w = .ok true w
  size : ∀ w, (sizeOf t).run P w = .ok n w
class SlTy (P : Program) (t : TypeId) (e : outParam TypeId) (sz : outParam Nat) : Prop where
  und : P.underlying t = some (.slice e)
  size : ∀ w, (sizeOf e).run P w = .ok sz w
class FldTy (P : Program) (s : TypeId) (i : Nat) (off : outParam Nat) : Prop where
  run : ∀ (b o : Nat) (w : World), (Instr.fieldAt s (.pointer (some ⟨b, o, none⟩)) i).run P w = .ok (.pointer (some ⟨b, o + off, none⟩)) w

/-! ### Memory that stands -/
theorem ptr_ok {Z : Zone} {ν : Vals} {w : World} {T : Tab} {x : Operand} {a : Act} {n : Nat} {f : Nat → AV} (hx : T.ev x = .av (.ptr n f)) (h : (T.ev x).ok Z ν w (a.eval x)) :
    ∃ b o, a.eval x = .pointer (some ⟨b, o, none⟩) ∧ (0 < n → Z b) ∧ b < w.heap.size ∧ ∀ i, i < n → ∃ u, w.cell? ⟨b, o + i, none⟩ = some u ∧ (f i).ok Z w u := by
  rw [hx] at h; exact h

theorem g_load {t : TypeId} {x : Operand} {n : Nat} {f : Nat → AV} {τ : AV} [ht : CellTy P t] (hx : T.ev x = .av (.ptr n f)) (hn' : Nat.blt 0 n = true) (hf : f 0 = τ) :
    GV P E ⟨d, .load t x, ty, pos, af, g⟩ T O (.av τ) [] [] :=
  gv_pure [] fun Z ν a w h _ => by
    obtain ⟨b, o, he, _, _, hc⟩ := ptr_ok hx (h x (by simp [Op.operands]))
    obtain ⟨u, hu, hk⟩ := hc 0 (lt_of_blt hn')
    refine ⟨u, ?_, by rw [← hf]; exact hk⟩
    have hu' : w.cell? ⟨b, o, none⟩ = some u := hu
    simp [execOp, Instr.loadAt, he, Instr.sureAddr, loadVar, ht.run w, hu']

theorem vals_of {Z : Zone} {w : World} {b o : Nat} {f : Nat → AV} : ∀ {us : List Value} (k : Nat), (∀ (i : Nat) (h : i < us.length), f (k + i) = .val us[i]) →
    (∀ i, i < k + us.length → ∃ u, w.cell? ⟨b, o + i, none⟩ = some u ∧ (f i).ok Z w u) → ∀ (j : Nat) (v : Value), us[j]? = some v → w.cell? ⟨b, o + (k + j), none⟩ = some v := by
  intro us k hf hc j v hj
  obtain ⟨hlt, rfl⟩ := List.getElem?_eq_some_iff.1 hj
  obtain ⟨u, hu, hk⟩ := hc (k + j) (by omega)
  rw [hf j hlt] at hk
  have : u = us[j] := hk
  rw [← this]; exact hu

theorem g_load_agg {t : TypeId} {x : Operand} {n k : Nat} {f : Nat → AV} {us : List Value} [ht : AggTy P t k] (hx : T.ev x = .av (.ptr n f)) (hk : us.length = k) (hn' : Nat.ble k n = true) (hf' : (List.range k).map f = us.map AV.val) :
    GV P E ⟨d, .load t x, ty, pos, af, g⟩ T O (.av (.val (.agg us.toArray))) [] [] :=
  gv_pure [] fun Z ν a w h _ => by
    subst hk
    have hn : us.length ≤ n := Nat.le_of_ble_eq_true hn'
    have hf : ∀ (i : Nat) (h : i < us.length), f i = .val us[i] := by
      intro i hi
      have := congrArg (fun l => l[i]?) hf'
      simpa [hi] using this
    obtain ⟨b, o, he, _, _, hc⟩ := ptr_ok hx (h x (by simp [Op.operands]))
    refine ⟨_, ?_, rfl⟩
    have hcell : ∀ (j : Nat) (v : Value), us[j]? = some v → w.cell? ((⟨b, o, none⟩ : Addr).add j) = some v := by
      intro j v hj
      have := vals_of (Z := Z) (w := w) (b := b) (o := o) (f := f) (us := us) 0 (fun i hi => by rw [Nat.zero_add]; exact hf i hi) (fun i hi => hc i (by omega)) j v hj
      rw [Nat.zero_add] at this
      rw [← this]
      congr 1
      unfold Addr.add; split <;> simp_all
    have hl := run_loadCells_list (P := P) (w := w) ⟨b, o, none⟩ us hcell
    simp [execOp, Instr.loadAt, he, Instr.sureAddr, loadVar, ht.agg w, ht.size w, hl]

theorem g_field {s : TypeId} {x : Operand} {i off n : Nat} {f : Nat → AV} [hs : FldTy P s i off] (hx : T.ev x = .av (.ptr n f)) :
    GV P E ⟨d, .fieldAddr s x i, ty, pos, af, g⟩ T O (.av (.ptr (n - off) (fun j => f (off + j)))) [] [] :=
  gv_pure [] fun Z ν a w h _ => by
    obtain ⟨b, o, he, hz, hb, hc⟩ := ptr_ok hx (h x (by simp [Op.operands]))
    refine ⟨.pointer (some ⟨b, o + off, none⟩), ?_, ?_⟩
    · simp [execOp, he, hs.run b o w]
    · refine ⟨b, o + off, rfl, fun hp => hz (by omega), hb, fun j hj => ?_⟩
      rw [Nat.add_assoc]; exact hc (off + j) (by omega)

theorem sl_ok {Z : Zone} {ν : Vals} {w : World} {T : Tab} {x : Operand} {a : Act} {n sz : Nat} {row : Nat → Nat → AV} (hx : T.ev x = .av (.sl n sz row)) (h : (T.ev x).ok Z ν w (a.eval x)) :
    ∃ p c, a.eval x = .slice p n c ∧ n ≤ c ∧ c ≤ maxLen ∧ (0 < n → ∃ b o, p = some ⟨b, o, none⟩ ∧ (0 < sz → Z b) ∧ b < w.heap.size ∧
      ∀ i, i < n → ∀ j, j < sz → ∃ u, w.cell? ⟨b, o + i * sz + j, none⟩ = some u ∧ (row i j).ok Z w u) := by
  rw [hx] at h; exact h

theorem add_addr (b o k : Nat) : (⟨b, o, none⟩ : Addr).add k = ⟨b, o + k, none⟩ := by unfold Addr.add; split <;> simp_all

theorem g_index {t e : TypeId} {x y : Operand} {n sz : Nat} {row : Nat → Nat → AV} {q : IntKind} {i : Int} {k : Nat} [ht : SlTy P t e sz] (hx : T.ev x = .av (.sl n sz row)) (hy : T.ev y = .av (.val (.int q i)))
    (hi : i = ↑k) (hk : k < n) : GV P E ⟨d, .indexAddr t x y, ty, pos, af, g⟩ T O (.av (.ptr sz (row k))) [] [] :=
  gv_pure [] fun Z ν a w h _ => by
    obtain ⟨p, c, he, _, _, hc⟩ := sl_ok hx (h x (by simp [Op.operands]))
    have hv := val_ok hy (h y (by simp [Op.operands]))
    obtain ⟨b, o, rfl, hz, hb, hcell⟩ := hc (by omega)
    subst hi
    refine ⟨.pointer (some ⟨b, o + k * sz, none⟩), ?_, ⟨b, o + k * sz, rfl, hz, hb, fun j hj => hcell k hk j hj⟩⟩
    simp [execOp, Instr.indexAt, hv, he, asIntOf, run_underlying ht.und, ht.size w, hk, add_addr]

theorem g_len {t e : TypeId} {x : Operand} {n sz sz' : Nat} {row : Nat → Nat → AV} [ht : SlTy P t e sz'] (hx : T.ev x = .av (.sl n sz row)) :
    GV P E ⟨d, .call ⟨.builtin .len, #[x], #[t]⟩, ty, pos, af, g⟩ T O (.av (.val (.int .i64 n))) [] [] :=
  gv_pure [] fun Z ν a w h _ => by
    obtain ⟨p, c, he, _, _, hc⟩ := sl_ok hx (h x (by simp [Op.operands, Call.operands]))
    refine ⟨.int .i64 n, ?_, rfl⟩
    simp [execOp, resolve, invoke, builtin, Builtin.len_, he, run_underlying ht.und, goInt]

/-- x[lo:hi] of a slice that stands. -/
theorem g_slice {t e : TypeId} {x : Operand} {lo hi : Option Operand} {n sz : Nat} {row : Nat → Nat → AV} {l h : Nat} [ht : SlTy P t e sz] (hx : T.ev x = .av (.sl n sz row))
    (hlo : match lo with | none => l = 0 | some y => ∃ q i, T.ev y = .av (.val (.int q i)) ∧ i = ↑l) (hhi : match hi with | none => h = n | some y => ∃ q i, T.ev y = .av (.val (.int q i)) ∧ i = ↑h)
    (hlh : l ≤ h) (hhn : h ≤ n) : GV P E ⟨d, .slice t x lo hi none, ty, pos, af, g⟩ T O (.av (.sl (h - l) sz (fun i => row (l + i)))) [] [] :=
  gv_pure [] fun Z ν a w hh _ => by
    obtain ⟨p, c, he, hnc, hcm, hc⟩ := sl_ok hx (hh x (by simp [Op.operands]))
    have hb : (Instr.sliceBounds true n c (lo.map a.eval) (hi.map a.eval) none).run P w = .ok (l, h, c) w := by
      have h2 : (Instr.sliceBounds true n c (lo.map a.eval) (hi.map a.eval) none) = (do
          let h ← match hi.map a.eval with | some v => Instr.sliceBound v c .sliceAcap | none => pure n
          let l ← match lo.map a.eval with | some v => Instr.sliceBound v h .sliceB | none => pure 0
          pure (l, h, c)) := by
        unfold Instr.sliceBounds
        cases hi <;> cases lo <;> rfl
      rw [h2]
      cases hi with
      | none =>
        dsimp only at hhi
        subst hhi
        cases lo with
        | none => dsimp only at hlo; subst hlo; simp
        | some y =>
          obtain ⟨q, i, hy, rfl⟩ := hlo
          have hv := val_ok hy (hh y (by simp [Op.operands]))
          simp [hv, Instr.sliceBound, asIntOf, hlh]
      | some z =>
        obtain ⟨q', i', hz, rfl⟩ := hhi
        have hv' := val_ok hz (hh z (by simp [Op.operands]))
        have hhc : h ≤ c := by omega
        cases lo with
        | none => dsimp only at hlo; subst hlo; simp [hv', Instr.sliceBound, asIntOf, hhc]
        | some y =>
          obtain ⟨q, i, hy, rfl⟩ := hlo
          have hv := val_ok hy (hh y (by simp [Op.operands]))
          simp [hv, hv', Instr.sliceBound, asIntOf, hlh, hhc]
    have hsl : ∃ p', (execOp a.eval ⟨d, .slice t x lo hi none, ty, pos, af, g⟩).run P w = .ok (.value (.slice p' (h - l) (c - l))) w ∧ (l < h → p' = p.map (·.add (l * sz))) := by
      refine ⟨if c = l then p else p.map (·.add (l * sz)), ?_, fun hlt => if_neg (by omega)⟩
      simp [execOp, Instr.sliceAt, Instr.slice, he, run_underlying ht.und, hb, ht.size w]
    obtain ⟨p', hr, hp⟩ := hsl
    refine ⟨_, hr, p', c - l, rfl, by omega, by omega, fun hpos => ?_⟩
    have hlt : l < h := Nat.lt_of_sub_pos hpos
    have hn0 : 0 < n := Nat.lt_of_lt_of_le (Nat.lt_of_le_of_lt (Nat.zero_le _) hlt) hhn
    obtain ⟨b, o, rfl, hz, hbs, hcell⟩ := hc hn0
    refine ⟨b, o + l * sz, by rw [hp hlt]; simp [add_addr], hz, hbs, fun i hi j hj => ?_⟩
    have hli : l + i < n := Nat.lt_of_lt_of_le (Nat.add_lt_of_lt_sub' hi) hhn
    obtain ⟨u, hu, hk⟩ := hcell (l + i) hli j hj
    refine ⟨u, ?_, hk⟩
    rw [← hu, Nat.add_mul]
    congr 2
    omega

end
end Go.Vc
namespace Go.Vc
open Go Go.RowKit

/-- The state in a world with more blocks. -/
theorem SatZ.ext {E : Env} {Z Z' : Zone} {ν : Vals} {T : Tab} {O : Own} {a : Act} {w w' : World} (h : SatZ E Z ν T O a w)
    (hos : w'.os = w.os) (htp : w'.tape = w.tape) (hout : w'.output = w.output) (hs : w.heap.size ≤ w'.heap.size) (hsame : ∀ k, k < w.heap.size → w'.heap[k]? = w.heap[k]?)
    (hZ : ∀ k, Z k → Z' k) (hZ' : ∀ k, Z' k → Z k ∨ w.heap.size ≤ k) (hlt : ∀ k, Z' k → k < w'.heap.size) : SatZ E Z' ν T O a w' := by
  have hav : ∀ (τ : AV) v, τ.ok Z w v → τ.ok Z' w' v := AV.ok_mono hZ hs (fun k _ hk => hsame k hk)
  have hsv : ∀ (s : SV) v, s.ok Z ν w v → s.ok Z' ν w' v := fun s v hk => SV.ok_mono hZ hs (fun k _ hk => hsame k hk) s v (fun _ _ => rfl) hk
  have hnz : ∀ (b : Nat) (o : Obj), w.heap[b]? = some o → ¬ Z b → ¬ Z' b := by
    intro b o hb hz hz'
    rcases hZ' b hz' with h1 | h1
    · exact hz h1
    · have := (Array.getElem?_eq_some_iff.1 hb).1; omega
  refine ⟨h.defers, h.tsize, h.cst, h.pin, ⟨hos.trans h.base.os, htp.trans h.base.tape, hout.trans h.base.output, Nat.le_trans h.base.size hs, h.base.keepLt, fun k hk => ?_, hlt, fun k hk => hZ k (h.base.z0 k hk), fun k hk => ?_⟩,
    ⟨fun r x hx => ?_, h.own.apart⟩, fun d => hsv _ _ (h.slot d)⟩
  · rw [hsame k (Nat.lt_of_lt_of_le (h.base.keepLt k hk) h.base.size), h.base.kept k hk]
  · rcases hZ' k hk with h1 | h1
    · exact h.base.zNew k h1
    · refine .inr fun hk' => ?_
      have := h.base.keepLt k hk'
      have := h.base.size
      omega
  · have := h.own.each r x hx
    cases x with
    | cells cs =>
      obtain ⟨b, ty, arr, h1, h2, h3, h4, h5, h6⟩ := this
      exact ⟨b, ty, arr, h1, h2, hnz b _ h4 h3, by rw [hsame b (Array.getElem?_eq_some_iff.1 h4).1]; exact h4, h5, fun i s hs => let ⟨u, hu, hk⟩ := h6 i s hs; ⟨u, hu, hsv _ _ hk⟩⟩
    | row ty sz n f =>
      rcases this with h1 | ⟨b, cap, arr, h1, h2, h3, h4, h5, h6, h7, h8⟩
      · exact .inl h1
      · exact .inr ⟨b, cap, arr, h1, h2, hnz b _ h4 h3, by rw [hsame b (Array.getElem?_eq_some_iff.1 h4).1]; exact h4, h5, h6, h7, fun i hi j hj => let ⟨u, hu, hk⟩ := h8 i hi j hj; ⟨u, hu, hav _ _ hk⟩⟩
    | obj φ hφ =>
      obtain ⟨b, ob, h1, h2, h3, h4, h5⟩ := this
      exact ⟨b, ob, h1, h2, hnz b _ h4 h3, by rw [hsame b (Array.getElem?_eq_some_iff.1 h4).1]; exact h4, hav (hφ.av ob) _ h5⟩

/-- A new block that stays as it is. -/
theorem SatZ.allocRo {E : Env} {Z : Zone} {ν : Vals} {T : Tab} {O : Own} {a : Act} {w : World} (h : SatZ E Z ν T O a w) (o : Obj) :
    SatZ E (fun k => Z k ∨ k = w.heap.size) ν T O a (w.alloc o) := by
  refine h.ext rfl rfl rfl (by simp) (fun k hk => heap_old w o hk) (fun k hk => .inl hk) (fun k hk => ?_) (fun k hk => ?_)
  · rcases hk with h1 | h1
    · exact .inl h1
    · exact .inr (by omega)
  · rcases hk with h1 | h1
    · have := h.base.zLt k h1; simp; omega
    · simp; omega

section
variable {P : Program} {E : Env} {T : Tab} {O : Own} {o : Oper} {d : Option Tmp} {ty : TypeId} {pos : String} {af : Array Edge} {g : Option (Nat × Bool)}

def AV.one : AV → Bool
  | .val v => v.oneCell'
  | .sl .. => true
  | .slc .. => true
  | .ptr .. => true
  | .clo .. => true
  | _ => false

theorem cells_one {v : Value} (h : v.oneCell' = true) : v.cells = #[v] := by
  cases v <;> first | rfl | simp [Value.oneCell'] at h

theorem AV.one_cells {τ : AV} {Z : Zone} {w : World} {v : Value} (h : τ.one = true) (hk : τ.ok Z w v) : v.oneCell' = true := by
  cases τ with
  | val u => have : v = u := hk; subst this; exact h
  | sl n sz row => obtain ⟨_, _, rfl, _⟩ := hk; rfl
  | ptr n f => obtain ⟨_, _, rfl, _⟩ := hk; rfl
  | clo k n f => obtain ⟨_, rfl, _⟩ := hk; rfl
  | slc n sz row => obtain ⟨_, rfl, _⟩ := hk; rfl
  | _ => simp [AV.one] at h

theorem g_box {t : TypeId} {x : Operand} {τ : AV} (hx : T.ev x = .av τ) (h1 : τ.one = true) : GV P E ⟨d, .box t x, ty, pos, af, g⟩ T O (.av (.ptr 1 (fun _ => τ))) [] [] := by
  refine ⟨fun T' O' hT _ => ⟨by intro c; simp, fun Z ν a w hs => ?_⟩⟩
  have hv := ev_ok hs x
  rw [ev_same (o := ⟨d, .box t x, ty, pos, af, g⟩) hT (by simp [Op.operands]), hx] at hv
  have hv' : τ.ok Z w (a.eval x) := hv
  have hone := AV.one_cells h1 hv'
  refine wp_value (w' := w.alloc (.cells (a.eval x).cells t)) (v := .pointer (some ⟨w.heap.size, 0, none⟩)) (by simp [execOp, Instr.box, newVar, newRow]) ⟨_, _, ν, rfl, hs.allocRo _, ⟨w.heap.size, 0, rfl, fun _ => .inr rfl, by simp, fun i hi => ?_⟩⟩
  obtain rfl : i = 0 := by omega
  refine ⟨a.eval x, ?_, ?_⟩
  · rw [cells_one hone, World.cell?_alloc_new]; rfl
  · exact AV.ok_mono (fun k hk => .inl hk) (by simp) (fun k _ hk => heap_old w _ hk) τ _ hv'

theorem g_box_agg {t : TypeId} {x : Operand} {us : List Value} (hx : T.ev x = .av (.val (.agg us.toArray))) :
    GV P E ⟨d, .box t x, ty, pos, af, g⟩ T O (.av (.ptr us.length (fun i => .val (us.getD i undef)))) [] [] := by
  refine ⟨fun T' O' hT _ => ⟨by intro c; simp, fun Z ν a w hs => ?_⟩⟩
  have hv := ev_ok hs x
  rw [ev_same (o := ⟨d, .box t x, ty, pos, af, g⟩) hT (by simp [Op.operands]), hx] at hv
  have hv' : a.eval x = .agg us.toArray := hv
  refine wp_value (w' := w.alloc (.cells us.toArray t)) (v := .pointer (some ⟨w.heap.size, 0, none⟩)) (by simp [execOp, Instr.box, newVar, newRow, hv', Value.cells]) ⟨_, _, ν, rfl, hs.allocRo _, ⟨w.heap.size, 0, rfl, fun _ => .inr rfl, by simp, fun i hi => ?_⟩⟩
  refine ⟨us.getD i undef, ?_, rfl⟩
  rw [World.cell?_alloc_new]
  simp [List.getD, List.getElem?_eq_getElem hi]

/-! ### Calls of functions that keep what is there -/
def Enters (P : Program) (f : FuncId) : Prop := ∀ (args : Array Value) (w : World), (callFunc f args).run P w = .ok (.enter f args) w

structure CtrA (P : Program) (f : FuncId) (args : List AV) (res : AV) : Prop where
  enters : Enters P f
  calls : ∀ (w : World) (Z : Zone) (vs : List Value), (∀ k, Z k → k < w.heap.size) → All2 (fun τ v => AV.ok Z w τ v) args vs →
    Calls P f vs.toArray w (fun e w' => ∃ v Z', e = .returned v ∧ Below w.heap.size w w' ∧ (∀ k, Z k → Z' k) ∧ (∀ k, Z' k → Z k ∨ w.heap.size ≤ k) ∧ (∀ k, Z' k → k < w'.heap.size) ∧ res.ok Z' w' v)

theorem evs_ok {Z : Zone} {ν : Vals} {a : Act} {w : World} (h : SatZ E Z ν T O a w) : ∀ {xs : List Operand} {τs : List AV}, xs.map T.ev = τs.map SV.av → All2 (fun τ v => AV.ok Z w τ v) τs (xs.map a.eval)
  | [], [], _ => trivial
  | x :: xs, τ :: τs, he => by
    simp only [List.map_cons, List.cons.injEq] at he
    refine ⟨?_, evs_ok h he.2⟩
    have := ev_ok h x
    rw [he.1] at this
    exact this
  | [], _ :: _, he => by simp at he
  | _ :: _, [], he => by simp at he

theorem wp_enter {o : Oper} {a : Act} {w : World} {f : FuncId} {args : Array Value} {K : Act → World → Prop} (hr : (execOp a.eval o).run P w = .ok (.enter f args) w)
    (hc : Calls P f args w (fun e w' => ∃ v, e = .returned v ∧ K (a.put o.dst v) w')) : o.wp P a w K (fun _ _ _ => False) := by
  unfold Oper.wp
  rw [hr]
  refine Calls.mono hc ?_
  rintro e w' ⟨v, rfl, hk⟩
  exact hk

theorem SatZ.called {Z Z' : Zone} {ν : Vals} {a : Act} {w w' : World} (h : SatZ E Z ν T O a w) (hb : Below w.heap.size w w') (h1 : ∀ k, Z k → Z' k) (h2 : ∀ k, Z' k → Z k ∨ w.heap.size ≤ k) (h3 : ∀ k, Z' k → k < w'.heap.size) : SatZ E Z' ν T O a w' :=
  h.ext hb.os hb.tape hb.output hb.size hb.block h1 h2 h3

theorem g_call {f : FuncId} {xs : List Operand} {ats : Array TypeId} {τs : List AV} {res : AV} (hc : CtrA P f τs res) (hx : xs.map T.ev = τs.map SV.av) :
    GV P E ⟨d, .call ⟨.value (.func f), xs.toArray, ats⟩, ty, pos, af, g⟩ T O (.av res) [] [] := by
  refine ⟨fun T' O' hT _ => ⟨by intro c; simp, fun Z ν a w hs => ?_⟩⟩
  have hx' : xs.map T'.ev = τs.map SV.av := by
    rw [← hx]
    refine List.map_congr_left fun x hxm => ev_same (o := ⟨d, .call ⟨.value (.func f), xs.toArray, ats⟩, ty, pos, af, g⟩) hT ?_
    simp [Op.operands, Call.operands, hxm]
  have hev := evs_ok hs hx'
  refine wp_enter (f := f) (args := (xs.map a.eval).toArray) ?_ ?_
  · have hen := hc.enters (xs.map a.eval).toArray w
    simp [execOp, resolve, Deferred.ofValue, Act.eval, invoke] at hen ⊢
    exact hen
  · refine Calls.mono (hc.calls w Z _ hs.base.zLt hev) ?_
    rintro e w' ⟨v, Z', rfl, hb, h1, h2, h3, hv⟩
    exact ⟨v, rfl, v, Z', ν, rfl, hs.called hb h1 h2 h3, hv⟩

/-- A call of a function value: a plain function, a closure over things that stand. -/
theorem g_callv {f : FuncId} {c : Operand} {xs : List Operand} {ats : Array TypeId} {τs : List AV} {res : AV} (hc : CtrA P f τs res) (hf : T.ev c = .av (.val (.func (.func f) #[] #[]))) (hx : xs.map T.ev = τs.map SV.av) :
    GV P E ⟨d, .call ⟨.value c, xs.toArray, ats⟩, ty, pos, af, g⟩ T O (.av res) [] [] := by
  refine ⟨fun T' O' hT _ => ⟨by intro c; simp, fun Z ν a w hs => ?_⟩⟩
  have hmem : ∀ x ∈ c :: xs, x ∈ (Op.call ⟨.value c, xs.toArray, ats⟩).operands.toList := by intro x hx; simpa [Op.operands, Call.operands] using hx
  have hx' : xs.map T'.ev = τs.map SV.av := by
    rw [← hx]
    exact List.map_congr_left fun x hxm => ev_same (o := ⟨d, .call ⟨.value c, xs.toArray, ats⟩, ty, pos, af, g⟩) hT (hmem x (by simp [hxm]))
  have hev := evs_ok hs hx'
  have hfv : a.eval c = .func (.func f) #[] #[] := by
    have := ev_ok hs c
    rw [ev_same (o := ⟨d, .call ⟨.value c, xs.toArray, ats⟩, ty, pos, af, g⟩) hT (hmem c (by simp)), hf] at this
    exact this
  refine wp_enter (f := f) (args := (xs.map a.eval).toArray) ?_ ?_
  · have hen := hc.enters (xs.map a.eval).toArray w
    simp [execOp, resolve, Deferred.ofValue, hfv, invoke] at hen ⊢
    exact hen
  · refine Calls.mono (hc.calls w Z _ hs.base.zLt hev) ?_
    rintro e w' ⟨v, Z', rfl, hb, h1, h2, h3, hv⟩
    exact ⟨v, rfl, v, Z', ν, rfl, hs.called hb h1 h2 h3, hv⟩

theorem g_callc {f : FuncId} {c : Operand} {xs : List Operand} {ats : Array TypeId} {τs : List AV} {n : Nat} {cf : Nat → AV} {res : AV} (hc : CtrA P f (τs ++ (List.range n).map cf) res) (hf : T.ev c = .av (.clo f n cf)) (hx : xs.map T.ev = τs.map SV.av) :
    GV P E ⟨d, .call ⟨.value c, xs.toArray, ats⟩, ty, pos, af, g⟩ T O (.av res) [] [] := by
  refine ⟨fun T' O' hT _ => ⟨by intro c; simp, fun Z ν a w hs => ?_⟩⟩
  have hmem : ∀ x ∈ c :: xs, x ∈ (Op.call ⟨.value c, xs.toArray, ats⟩).operands.toList := by intro x hx; simpa [Op.operands, Call.operands] using hx
  have hx' : xs.map T'.ev = τs.map SV.av := by
    rw [← hx]
    exact List.map_congr_left fun x hxm => ev_same (o := ⟨d, .call ⟨.value c, xs.toArray, ats⟩, ty, pos, af, g⟩) hT (hmem x (by simp [hxm]))
  have hev := evs_ok hs hx'
  have hfv := ev_ok hs c
  rw [ev_same (o := ⟨d, .call ⟨.value c, xs.toArray, ats⟩, ty, pos, af, g⟩) hT (hmem c (by simp)), hf] at hfv
  obtain ⟨cs, hfv, hl, hcs⟩ := hfv
  have hall : All2 (fun τ v => AV.ok Z w τ v) (τs ++ (List.range n).map cf) (xs.map a.eval ++ cs) := by
    have h2 : All2 (fun τ v => AV.ok Z w τ v) ((List.range n).map cf) cs := by
      have : ∀ (m k : Nat) (cf : Nat → AV) (cs : List Value), cs.length = m → (∀ i, i < m → ∃ u, cs[i]? = some u ∧ (cf (k + i)).ok Z w u) → All2 (fun τ v => AV.ok Z w τ v) ((List.range' k m).map cf) cs := by
        intro m
        induction m with
        | zero => intro k cf cs hl _; rw [List.length_eq_zero_iff.1 hl]; trivial
        | succ m ih =>
          intro k cf cs hl h
          match cs, hl with
          | c0 :: cs, hl =>
            rw [List.range'_succ, List.map_cons]
            obtain ⟨u, hu, hk⟩ := h 0 (by omega)
            simp only [List.getElem?_cons_zero, Option.some.injEq] at hu
            subst hu
            refine ⟨hk, ih (k + 1) cf cs (by simpa using hl) (fun i hi => ?_)⟩
            obtain ⟨u, hu, hk⟩ := h (i + 1) (by omega)
            exact ⟨u, by simpa using hu, by rw [show k + 1 + i = k + (i + 1) from by omega]; exact hk⟩
      rw [List.range_eq_range']
      exact this n 0 cf cs hl (fun i hi => by rw [Nat.zero_add]; exact hcs i hi)
    have app : ∀ {l : List AV} {m : List Value} {l' m'}, All2 (fun τ v => AV.ok Z w τ v) l m → All2 (fun τ v => AV.ok Z w τ v) l' m' → All2 (fun τ v => AV.ok Z w τ v) (l ++ l') (m ++ m') := by
      intro l
      induction l with
      | nil => intro m l' m' h1 h2; match m, h1 with | [], _ => exact h2
      | cons x l ih => intro m l' m' h1 h2; match m, h1 with | y :: m, h1 => exact ⟨h1.1, ih h1.2 h2⟩
    exact app hev h2
  refine wp_enter (f := f) (args := (xs.map a.eval ++ cs).toArray) ?_ ?_
  · have hen := hc.enters (xs.map a.eval ++ cs).toArray w
    have : (List.map a.eval xs).toArray ++ cs.toArray = (List.map a.eval xs ++ cs).toArray := by simp
    simp [execOp, resolve, Deferred.ofValue, hfv, invoke] at hen ⊢
    exact hen
  · refine Calls.mono (hc.calls w Z _ hs.base.zLt hall) ?_
    rintro e w' ⟨v, Z', rfl, hb, h1, h2, h3, hv⟩
    exact ⟨v, rfl, v, Z', ν, rfl, hs.called hb h1 h2 h3, hv⟩

theorem g_makeFunc {f : FuncId} {xs : List Operand} {τs : List AV} (hx : xs.map T.ev = τs.map SV.av) :
    GV P E ⟨d, .makeFunc (.func f) #[] xs.toArray, ty, pos, af, g⟩ T O (.av (.clo f τs.length (fun i => τs.getD i .any))) [] [] := by
  refine ⟨fun T' O' hT _ => ⟨by intro c; simp, fun Z ν a w hs => ?_⟩⟩
  have hx' : xs.map T'.ev = τs.map SV.av := by
    rw [← hx]
    refine List.map_congr_left fun x hxm => ev_same (o := ⟨d, .makeFunc (.func f) #[] xs.toArray, ty, pos, af, g⟩) hT ?_
    simp [Op.operands, hxm]
  have hev := evs_ok hs hx'
  refine wp_value (w' := w) (v := .func (.func f) #[] (xs.map a.eval).toArray) (by simp [execOp, Instr.makeFunc]) ⟨_, Z, ν, rfl, hs, ?_⟩
  refine ⟨xs.map a.eval, rfl, hev.len.symm, fun i hi => ?_⟩
  obtain ⟨u, hu, hk⟩ := hev.get i (τs.getD i .any) (by rw [List.getD, List.getElem?_eq_getElem hi]; rfl)
  exact ⟨u, hu, hk⟩

theorem g_extract {x : Operand} {i n : Nat} {f : Nat → AV} (hx : T.ev x = .av (.tup n f)) (hi : i < n) : GV P E ⟨d, .extract x i, ty, pos, af, g⟩ T O (.av (f i)) [] [] :=
  gv_pure [] fun Z ν a w h _ => by
    have := h x (by simp [Op.operands])
    rw [hx] at this
    obtain ⟨cs, he, hl, hc⟩ := this
    obtain ⟨u, hu, hk⟩ := hc i hi
    exact ⟨u, by simp [execOp, he, Instr.extract, hu], hk⟩

end

/-! ### Entry and end of a function -/
def initT : Nat → List SV → Tab
  | _, [] => []
  | k, s :: l => (k, s) :: initT (k + 1) l

theorem initT_get : ∀ (l : List SV) (k d : Nat), (initT k l).get d = if k ≤ d then l.getD (d - k) (.av .any) else .av .any
  | [], k, d => by simp [initT, Tab.get, look]
  | s :: l, k, d => by
    unfold initT
    by_cases h : k = d
    · subst h; rw [Tab.get_cons_eq]; simp
    · rw [Tab.get_cons_ne _ _ h, initT_get l (k + 1) d]
      by_cases hk : k ≤ d
      · have h1 : k + 1 ≤ d := by omega
        obtain ⟨e, rfl⟩ : ∃ e, d = k + 1 + e := ⟨d - (k + 1), by omega⟩
        simp [h1, hk, show k + 1 + e - k = e + 1 from by omega]
      · rw [if_neg (by omega), if_neg hk]

/-- What a function that keeps what is there has to show. -/
def RetA (w : World) (Z : Zone) (res : AV) (e : Ending) (w' : World) : Prop :=
  ∃ v Z', e = .returned v ∧ Below w.heap.size w w' ∧ (∀ k, Z k → Z' k) ∧ (∀ k, Z' k → Z k ∨ w.heap.size ≤ k) ∧ (∀ k, Z' k → k < w'.heap.size) ∧ res.ok Z' w' v

def envA (N : Nat) (w : World) (Z : Zone) : Env := { N := N, keep := fun k => k < w.heap.size, w0 := w, Z0 := Z }

theorem ctrA {P : Program} {f : FuncId} {fn : Func} {c : Code} {args : List AV} {res : AV} (N : Nat) (hf : P.funcs[f]? = some fn) (hb : fn.body = some c) (hname : (fn.name == "runtime.NumGoroutine") = false) (hN : fn.ntmps = N) (hlen' : Nat.ble args.length N = true)
    (h : ∀ w Z, CQ P (envA N w Z) (bodyPost P fn (RetA w Z res)) (initT 0 (args.map SV.av)) [] c) : CtrA P f args res := by
  have hlen : args.length ≤ N := Nat.le_of_ble_eq_true hlen'
  refine ⟨fun vs w => ?_, fun w Z vs hZ hvs => ?_⟩
  · have hname' : fn.name ≠ "runtime.NumGoroutine" := by simpa using hname
    simp [callFunc, hf, hname', hb]
  · refine calls_of_wp hf hb ?_
    have hl := hvs.len
    refine wpIn_wide.1 ((h w Z).sq _ w ⟨Z, fun _ => undef, rfl, ?_, (fun _ _ h => by cases h), (fun _ _ h => by cases h), ⟨rfl, rfl, rfl, Nat.le_refl _, fun k hk => hk, fun _ _ => rfl, hZ, fun _ hk => hk, fun _ hk => .inl hk⟩, ⟨fun r x hx => by simp [look] at hx, fun r r' _ h1 => by simp [look] at h1⟩, fun d => ?_⟩)
    · simp only [Array.size_append, List.size_toArray, Array.size_replicate, hN, envA]; omega
    · rw [initT_get, if_pos (Nat.zero_le _), Nat.sub_zero]
      by_cases hd : d < args.length
      · have h1 : (args.map SV.av).getD d (.av .any) = .av args[d] := by simp [List.getD, List.getElem?_eq_getElem hd]
        rw [h1]
        obtain ⟨u, hu, hk⟩ := hvs.get d args[d] (List.getElem?_eq_getElem hd)
        have : (vs.toArray ++ Array.replicate (fn.ntmps - vs.toArray.size) undef).getD d undef = u := by
          have hlt := (List.getElem?_eq_some_iff.1 hu).1
          rw [Array.getD_eq_getD_getElem?, Array.getElem?_append_left (by simpa using hlt)]
          simp [hu]
        rw [this]; exact hk
      · have h1 : (args.map SV.av).getD d (.av .any) = .av .any := by
          rw [List.getD, List.getElem?_eq_none (by simpa using hd)]; rfl
        rw [h1]; trivial

theorem retA_of {w : World} {Z : Zone} {res : AV} {N : Nat} {Z' : Zone} {w' : World} {v : Value} (hb : Base (envA N w Z) Z' w') (hv : res.ok Z' w' v) : RetA w Z res (.returned v) w' :=
  ⟨v, Z', rfl, ⟨hb.os, hb.tape, hb.output, hb.size, hb.kept⟩, hb.z0, fun k hk => (hb.zNew k hk).imp id (fun h => Nat.le_of_not_lt h), hb.zLt, hv⟩

section
variable {P : Program} {fn : Func} {w : World} {Z : Zone} {N : Nat} {T : Tab} {O : Own} {res : AV}

def tupOf (l : List AV) : AV := .tup l.length (fun i => l.getD i .any)

end
end Go.Vc
namespace Go.Vc
open Go Go.RowKit

/-! ### The call's own memory -/
def updV (ν : Vals) (r : Nat) (v : Value) : Vals := fun k => if k = r then v else ν k

theorem SV.kill_mentions (r : Nat) (s : SV) : (s.kill r).mentions r = false := by
  unfold SV.kill
  cases h : s.mentions r with
  | true => rfl
  | false => exact h

theorem SV.kill_ok {Z : Zone} {ν : Vals} {w : World} (r : Nat) (v : Value) (s : SV) (u : Value) (h : s.ok Z ν w u) : (s.kill r).ok Z (updV ν r v) w u := by
  by_cases hm : s.mentions r = true
  · unfold SV.kill; rw [hm]; trivial
  · have hm' : s.mentions r = false := by simpa using hm
    have : s.kill r = s := by unfold SV.kill; rw [hm']
    rw [this]
    refine SV.ok_mono (fun _ h => h) (Nat.le_refl _) (fun _ _ _ => rfl) s u (fun k hk => ?_) h
    unfold updV
    rw [if_neg (fun e => by subst e; rw [hm'] at hk; cases hk)]

theorem SatZ.kill {E : Env} {Z : Zone} {ν : Vals} {T : Tab} {O : Own} {a : Act} {w : World} (h : SatZ E Z ν T O a w) (r : Nat) (v : Value) (hp : Nat.blt r 1000 = true) : SatZ E Z (updV ν r v) (T.kill r) (Own.kill r O) a w := by
  have hne : ∀ k, k ≠ r → updV ν r v k = ν k := fun k hk => if_neg hk
  have hpin : ∀ k u, E.pin k = some u → updV ν r v k = u := fun k u hk => by
    rw [hne k (fun e => by subst e; rw [E.pinHi _ hp] at hk; cases hk)]; exact h.pin k u hk
  refine ⟨h.defers, h.tsize, h.cst, hpin, h.base, ⟨fun k x hx => ?_, fun k k' hkk h1 h2 b hb => ?_⟩, fun d => ?_⟩
  · rw [Own.look_kill] at hx
    by_cases hk : k = r
    · simp [hk] at hx
    · rw [if_neg hk] at hx
      obtain ⟨y, hy, rfl⟩ := Option.map_eq_some_iff.1 hx
      rw [hne k hk]
      have := h.own.each k y hy
      cases y with
      | cells cs =>
        obtain ⟨b, ty, arr, h1, h2, h3, h4, h5, h6⟩ := this
        refine ⟨b, ty, arr, h1, h2, h3, h4, by simpa using h5, fun i s hs => ?_⟩
        simp only [List.getElem?_map, Option.map_eq_some_iff] at hs
        obtain ⟨s0, hs0, rfl⟩ := hs
        obtain ⟨u, hu, hk⟩ := h6 i s0 hs0
        exact ⟨u, hu, SV.kill_ok r v s0 u hk⟩
      | row ty sz n f => exact this
      | obj φ hφ => exact this
  · rw [Own.look_kill] at h1 h2
    have hk : k ≠ r := fun e => by simp [e] at h1
    have hk' : k' ≠ r := fun e => by simp [e] at h2
    rw [if_neg hk] at h1
    rw [if_neg hk'] at h2
    rw [hne k hk] at hb
    rw [hne k' hk']
    exact h.own.apart k k' hkk (by simpa using h1) (by simpa using h2) b hb
  · rw [Tab.get_kill]
    exact SV.kill_ok r v _ _ (h.slot d)

theorem SatZ.addRes {E : Env} {Z : Zone} {ν : Vals} {T : Tab} {O : Own} {a : Act} {w : World} (h : SatZ E Z ν T O a w) (r : Nat) (x : Res) (hx : x.ok E Z ν w (ν r))
    (hap : ∀ b, blkOf (ν r) = some b → ∀ r', r' ≠ r → look O r' ≠ none → blkOf (ν r') ≠ some b) : SatZ E Z ν T ((r, x) :: O) a w := by
  have hl : ∀ k, k ≠ r → look ((r, x) :: O) k = look O k := fun k hk => look_cons_ne x O (fun e => hk e.symm)
  refine ⟨h.defers, h.tsize, h.cst, h.pin, h.base, ⟨fun k y hy => ?_, fun k k' hkk h1 h2 b hb => ?_⟩, h.slot⟩
  · by_cases hk : k = r
    · subst hk; rw [look_cons_eq] at hy; cases hy; exact hx
    · rw [hl k hk] at hy; exact h.own.each k y hy
  · by_cases hk : k = r
    · subst hk
      rw [hl k' (fun e => hkk e.symm)] at h2
      exact hap b hb k' (fun e => hkk e.symm) h2
    · rw [hl k hk] at h1
      by_cases hk' : k' = r
      · subst hk'
        intro hb'
        exact hap b hb' k hk h1 hb
      · rw [hl k' hk'] at h2
        exact h.own.apart k k' hkk h1 h2 b hb

/-- A block of the call's own lies in the heap. -/
theorem Res.blk_lt {E : Env} {Z : Zone} {ν : Vals} {w : World} {v : Value} {x : Res} (h : x.ok E Z ν w v) {b : Nat} (hb : blkOf v = some b) : b < w.heap.size ∧ ¬ Z b ∧ ¬ E.keep b := by
  cases x with
  | cells cs =>
    obtain ⟨b', ty, arr, rfl, h2, h3, h4, _⟩ := h
    simp only [blkOf, Option.some.injEq] at hb
    subst hb
    exact ⟨(Array.getElem?_eq_some_iff.1 h4).1, h3, h2⟩
  | row ty sz n f =>
    rcases h with ⟨rfl, _⟩ | ⟨b', cap, arr, rfl, h2, h3, h4, _⟩
    · simp [blkOf] at hb
    · simp only [blkOf, Option.some.injEq] at hb
      subst hb
      exact ⟨(Array.getElem?_eq_some_iff.1 h4).1, h3, h2⟩
  | obj φ hφ =>
    obtain ⟨b', ob, h1, h2, h3, h4, h5⟩ := h
    rw [h1] at hb; cases hb
    exact ⟨(Array.getElem?_eq_some_iff.1 h4).1, h3, h2⟩

/-- A write into the block b of the resource r. -/
theorem SatZ.write {E : Env} {Z : Zone} {ν : Vals} {T : Tab} {O : Own} {a : Act} {w w' : World} (h : SatZ E Z ν T O a w) {r b : Nat} {x x' : Res} (hr : look O r = some x) (hb : blkOf (ν r) = some b)
    (hos : w'.os = w.os) (htp : w'.tape = w.tape) (hout : w'.output = w.output) (hs : w'.heap.size = w.heap.size) (hsame : ∀ k, k ≠ b → w'.heap[k]? = w.heap[k]?)
    (hx : (∀ (s : SV) u, s.ok Z ν w u → s.ok Z ν w' u) → x'.ok E Z ν w' (ν r)) : SatZ E Z ν T ((r, x') :: O) a w' := by
  obtain ⟨hblt, hbz, hbk⟩ := Res.blk_lt (h.own.each r x hr) hb
  have hz : ∀ k, Z k → k ≠ b := fun k hk e => by subst e; exact hbz hk
  have hav : ∀ (τ : AV) v, τ.ok Z w v → τ.ok Z w' v := AV.ok_mono (fun _ h => h) (by omega) (fun k hk _ => hsame k (hz k hk))
  have hsv : ∀ (s : SV) v, s.ok Z ν w v → s.ok Z ν w' v := fun s v hk => SV.ok_mono (fun _ h => h) (by omega) (fun k hk _ => hsame k (hz k hk)) s v (fun _ _ => rfl) hk
  have hl : ∀ k, k ≠ r → look ((r, x') :: O) k = look O k := fun k hk => look_cons_ne x' O (fun e => hk e.symm)
  refine ⟨h.defers, h.tsize, h.cst, h.pin, ⟨hos.trans h.base.os, htp.trans h.base.tape, hout.trans h.base.output, by rw [hs]; exact h.base.size, h.base.keepLt, fun k hk => ?_, fun k hk => by rw [hs]; exact h.base.zLt k hk, h.base.z0, h.base.zNew⟩,
    ⟨fun k y hy => ?_, fun k k' hkk h1 h2 => ?_⟩, fun d => hsv _ _ (h.slot d)⟩
  · rw [hsame k (fun e => by subst e; exact hbk hk), h.base.kept k hk]
  · by_cases hk : k = r
    · subst hk; rw [look_cons_eq] at hy; cases hy; exact hx hsv
    · rw [hl k hk] at hy
      have := h.own.each k y hy
      have hne : ∀ b', blkOf (ν k) = some b' → b' ≠ b := fun b' hb' e => by
        subst e
        exact h.own.apart r k (fun e => hk e.symm) (by rw [hr]; simp) (by rw [hy]; simp) b' hb hb'
      cases y with
      | cells cs =>
        obtain ⟨b', ty, arr, h1, h2, h3, h4, h5, h6⟩ := this
        exact ⟨b', ty, arr, h1, h2, h3, by rw [hsame b' (hne b' (by rw [h1]; rfl))]; exact h4, h5, fun i s hs => let ⟨u, hu, hk⟩ := h6 i s hs; ⟨u, hu, hsv _ _ hk⟩⟩
      | row ty sz n f =>
        rcases this with h1 | ⟨b', cap, arr, h1, h2, h3, h4, h5, h6, h7, h8⟩
        · exact .inl h1
        · exact .inr ⟨b', cap, arr, h1, h2, h3, by rw [hsame b' (hne b' (by rw [h1]; rfl))]; exact h4, h5, h6, h7, fun i hi j hj => let ⟨u, hu, hk⟩ := h8 i hi j hj; ⟨u, hu, hav _ _ hk⟩⟩
      | obj φ hφ =>
        obtain ⟨b', ob, h1, h2, h3, h4, h5⟩ := this
        exact ⟨b', ob, h1, h2, h3, by rw [hsame b' (hne b' h1)]; exact h4, hφ _ _ w _ _ _ (fun _ h => h) (by omega) (fun k hk _ => hsame k (hz k hk)) h5⟩
  · have e1 : look O k ≠ none := by
      by_cases hk : k = r
      · subst hk; rw [hr]; simp
      · rw [← hl k hk]; exact h1
    have e2 : look O k' ≠ none := by
      by_cases hk : k' = r
      · subst hk; rw [hr]; simp
      · rw [← hl k' hk]; exact h2
    exact h.own.apart k k' hkk e1 e2

section
variable {P : Program} {E : Env} {T : Tab} {O : Own} {o : Oper} {d : Option Tmp} {ty : TypeId} {pos : String} {af : Array Edge} {g : Option (Nat × Bool)}

class ZeroTy (P : Program) (t : TypeId) (zs : outParam (List Value)) : Prop where
  zero : ∃ z, (∀ w, (zeroValue t).run P w = .ok z w) ∧ z.cells = zs.toArray

theorem SatZ.newRes {Z : Zone} {ν : Vals} {a : Act} {w : World} (h : SatZ E Z ν T O a w) (r : Nat) (hp : Nat.blt r 1000 = true) (ob : Obj) (v : Value) (x : Res) (hv : blkOf v = some w.heap.size)
    (hx : (∀ (s : SV) u, s.mentions r = false → s.ok Z ν w u → s.ok Z (updV ν r v) (w.alloc ob) u) → ¬ E.keep w.heap.size → ¬ Z w.heap.size → x.ok E Z (updV ν r v) (w.alloc ob) v) :
    SatZ E Z (updV ν r v) (T.kill r) ((r, x) :: Own.kill r O) a (w.alloc ob) := by
  have hnk : ¬ E.keep w.heap.size := fun hk => by have := h.base.keepLt _ hk; have := h.base.size; omega
  have hnz : ¬ Z w.heap.size := fun hk => by have := h.base.zLt _ hk; omega
  have h1 := (h.kill r v hp).ext (w' := w.alloc ob) (Z' := Z) rfl rfl rfl (by simp) (fun k hk => heap_old w ob hk) (fun _ h => h) (fun _ h => .inl h) (fun k hk => by have := h.base.zLt k hk; simp; omega)
  have hr : updV ν r v r = v := if_pos rfl
  refine h1.addRes r x ?_ ?_
  · rw [hr]
    refine hx (fun s u hm hs => ?_) hnk hnz
    refine SV.ok_mono (w := w) (w' := w.alloc ob) (fun _ h => h) (by simp) (fun k _ hk => heap_old w ob hk) s u (fun k hk => ?_) hs
    unfold updV
    rw [if_neg (fun e => by subst e; rw [hm] at hk; cases hk)]
  · intro b hb r' hne hr'
    rw [hr, hv] at hb
    cases hb
    intro hb'
    have h2 : look (Own.kill r O) r' ≠ none := hr'
    rw [Own.look_kill, if_neg hne] at h2
    cases hl : look O r' with
    | none => rw [hl] at h2; simp at h2
    | some y =>
      have hu : updV ν r v r' = ν r' := if_neg hne
      rw [hu] at hb'
      have := (Res.blk_lt (h.own.each r' y hl) hb').1
      omega

theorem v_alloc {t : TypeId} {zs : List Value} (r : Nat) [hz : ZeroTy P t zs] (hp : Nat.blt r 1000 = true := by first | rfl | assumption) : VStep P E ⟨d, .alloc t, ty, pos, af, g⟩ T O (T.kill r) ((r, .cells (zs.map fun z => .av (.val z))) :: Own.kill r O) (.own r 0) := by
  refine ⟨by intro c; simp, fun Z ν a w hs => ?_⟩
  obtain ⟨z, hz, hc⟩ := hz.zero
  refine wp_value (w' := w.alloc (.cells zs.toArray t)) (v := .pointer (some ⟨w.heap.size, 0, none⟩)) (by simp [execOp, Instr.alloc, hz, newVar, newRow, hc]) ?_
  refine ⟨_, Z, updV ν r (.pointer (some ⟨w.heap.size, 0, none⟩)), rfl, hs.newRes r hp _ _ _ rfl (fun _ hk hnz => ?_), w.heap.size, by simp [updV], rfl⟩
  refine ⟨w.heap.size, t, zs.toArray, rfl, hk, hnz, heap_alloc_new _ _, by simp, fun i s hs => ?_⟩
  simp only [List.getElem?_map, Option.map_eq_some_iff] at hs
  obtain ⟨u, hu, rfl⟩ := hs
  exact ⟨u, by simpa using hu, rfl⟩

def freshB (r : Nat) (T : Tab) (O : Own) : Bool := T.all (fun p => !p.2.mentions r) && O.all (fun p => !Nat.beq p.1 r && match p.2 with | .cells cs => cs.all (fun s => !s.mentions r) | .row .. => true | .obj .. => true)

theorem SV.kill_id {r : Nat} {s : SV} (h : s.mentions r = false) : s.kill r = s := by unfold SV.kill; rw [h]

theorem fresh_kill {r : Nat} {T : Tab} {O : Own} (h : freshB r T O = true) : (∀ d, (T.kill r).get d = T.get d) ∧ ∀ k, look (Own.kill r O) k = look O k := by
  simp only [freshB, Bool.and_eq_true, List.all_eq_true] at h
  refine ⟨fun d => ?_, fun k => ?_⟩
  · rw [Tab.get_kill]
    refine SV.kill_id ?_
    unfold Tab.get
    cases hl : look T d with
    | none => rfl
    | some s => have := h.1 _ (look_mem hl); simpa using this
  · rw [Own.look_kill]
    cases hl : look O k with
    | none => simp
    | some x =>
      have := h.2 _ (look_mem hl)
      have this := this
      have hne : k ≠ r := fun e => by subst e; simp at this
      rw [if_neg hne]
      cases x with
      | row ty sz n f => rfl
      | obj φ hφ => rfl
      | cells cs =>
        have h2 := this.2
        simp only [List.all_eq_true] at h2
        simp only [Option.map_some, Res.kill, Option.some.injEq, Res.cells.injEq]
        refine (List.map_congr_left (g := id) fun s hs => SV.kill_id (by simpa using h2 s hs)).trans (List.map_id _)

theorem VStep.fresh {r : Nat} {x : Res} {s : SV} (h : VStep P E o T O (T.kill r) ((r, x) :: Own.kill r O) s) (hf : freshB r T O = true) : VStep P E o T O T ((r, x) :: O) s := by
  refine ⟨h.nd, fun Z ν a w hs => ?_⟩
  refine Oper.wp_mono ?_ (h.run Z ν a w hs)
  rintro a' w' ⟨v, Z', ν', h1, h2, h3⟩
  obtain ⟨f1, f2⟩ := fresh_kill hf
  have hO : ∀ k, look ((r, x) :: O) k = look ((r, x) :: Own.kill r O) k := fun k => by
    by_cases hk : r = k
    · subst hk; rw [look_cons_eq, look_cons_eq]
    · rw [look_cons_ne _ _ hk, look_cons_ne _ _ hk, f2]
  refine ⟨v, Z', ν', h1, ⟨h2.defers, h2.tsize, h2.cst, h2.pin, h2.base, ⟨fun k y hy => h2.own.each k y (by rw [← hO]; exact hy), fun k k' hne e1 e2 => h2.own.apart k k' hne (by rw [← hO]; exact e1) (by rw [← hO]; exact e2)⟩, fun d => ?_⟩, h3⟩
  rw [← f1]; exact h2.slot d

theorem freshP_kill {r : Nat} {T : Tab} {O : Own} (h : FreshP r T O) : (∀ d, (T.kill r).get d = T.get d) ∧ ∀ k, look (Own.kill r O) k = look O k := by
  refine ⟨fun d => ?_, fun k => ?_⟩
  · rw [Tab.get_kill]
    refine SV.kill_id ?_
    unfold Tab.get
    cases hl : look T d with
    | none => rfl
    | some s => exact h.1 d s hl
  · rw [Own.look_kill]
    cases hl : look O k with
    | none => simp
    | some x =>
      obtain ⟨hne, h2⟩ := h.2 k x hl
      rw [if_neg hne]
      cases x with
      | row ty sz n f => rfl
      | obj φ hφ => rfl
      | cells cs =>
        simp only [Res.fresh, List.all_eq_true] at h2
        simp only [Option.map_some, Res.kill, Option.some.injEq, Res.cells.injEq]
        refine (List.map_congr_left (g := id) fun s hs => SV.kill_id (by simpa using h2 s hs)).trans (List.map_id _)

theorem VStep.freshP {r : Nat} {x : Res} {s : SV} (h : VStep P E o T O (T.kill r) ((r, x) :: Own.kill r O) s) (hf : FreshP r T O) : VStep P E o T O T ((r, x) :: O) s := by
  refine ⟨h.nd, fun Z ν a w hs => ?_⟩
  refine Oper.wp_mono ?_ (h.run Z ν a w hs)
  rintro a' w' ⟨v, Z', ν', h1, h2, h3⟩
  obtain ⟨f1, f2⟩ := freshP_kill hf
  have hO : ∀ k, look ((r, x) :: O) k = look ((r, x) :: Own.kill r O) k := fun k => by
    by_cases hk : r = k
    · subst hk; rw [look_cons_eq, look_cons_eq]
    · rw [look_cons_ne _ _ hk, look_cons_ne _ _ hk, f2]
  refine ⟨v, Z', ν', h1, ⟨h2.defers, h2.tsize, h2.cst, h2.pin, h2.base, ⟨fun k y hy => h2.own.each k y (by rw [← hO]; exact hy), fun k k' hne e1 e2 => h2.own.apart k k' hne (by rw [← hO]; exact e1) (by rw [← hO]; exact e2)⟩, fun d => ?_⟩, h3⟩
  rw [← f1]; exact h2.slot d

theorem ga_alloc {t : TypeId} {zs : List Value} (r : Nat) [hz : ZeroTy P t zs] (hp : Nat.blt r 1000 = true := by first | rfl | assumption) : GA P E ⟨d, .alloc t, ty, pos, af, g⟩ T O (.own r 0) [] r (.cells (zs.map fun z => .av (.val z))) :=
  ⟨fun T' O' _ _ hf => (v_alloc r hp).freshP hf, by intro c; simp⟩

/-- A variable of the call's own. -/
theorem f_alloc {t : TypeId} {zs : List Value} (r : Nat) [hz : ZeroTy P t zs] (hf : freshB r T O = true) (hp : Nat.blt r 1000 = true := by first | rfl | assumption) : VStep P E ⟨d, .alloc t, ty, pos, af, g⟩ T O T ((r, .cells (zs.map fun z => .av (.val z))) :: O) (.own r 0) :=
  (v_alloc r hp).fresh hf

def SV.one : SV → Bool
  | .av τ => τ.one
  | .tupR _ _ => false
  | .agg _ => false
  | _ => true

theorem SV.one_cells {s : SV} {Z : Zone} {ν : Vals} {w : World} {v : Value} (h : s.one = true) (hk : s.ok Z ν w v) : v.oneCell' = true ∨ ∃ r, s = .osl r := by
  cases s with
  | av τ => exact .inl (AV.one_cells h hk)
  | own r off => obtain ⟨_, _, rfl⟩ := hk; exact .inl rfl
  | osl r => exact .inr ⟨r, rfl⟩
  | oel r sz i j => obtain ⟨_, _, _, _, rfl⟩ := hk; exact .inl rfl
  | osx r sz lo len => obtain ⟨_, _, _, _, _, rfl, _⟩ := hk; exact .inl rfl
  | clo k cs => obtain ⟨_, rfl, _⟩ := hk; exact .inl rfl
  | tupR r ρs => simp [SV.one] at h
  | agg cs => simp [SV.one] at h

class SizeTy (P : Program) (t : TypeId) (n : outParam Nat) : Prop where
  run : ∀ w, (sizeOf t).run P w = .ok n w

/-- cs with ss in the place of what stands from off on. -/
def spl (cs : List SV) (off : Nat) (ss : List SV) : List SV := cs.take off ++ ss ++ cs.drop (off + ss.length)

theorem SatZ.storeOwn {Z : Zone} {ν : Vals} {a : Act} {w : World} {r off b : Nat} {cs ss : List SV} {vs : List Value} (h : SatZ E Z ν T O a w) (hr : look O r = some (.cells cs)) (hb : ν r = .pointer (some ⟨b, 0, none⟩)) (hfit : off + ss.length ≤ cs.length)
    (hvs : All2 (fun s v => SV.ok Z ν w s v) ss vs) (h1 : ∀ v ∈ vs, v.oneCell' = true) : ∃ w', (storeCells ⟨b, off, none⟩ vs).run P w = .ok () w' ∧ SatZ E Z ν T ((r, .cells (spl cs off ss)) :: O) a w' := by
  have hx := h.own.each r _ hr
  obtain ⟨b', ty', arr, e1, e2, e3, e4, e5, e6⟩ := hx
  rw [hb] at e1
  simp only [Value.pointer.injEq, Option.some.injEq, Addr.mk.injEq, and_true] at e1
  subst e1
  have hlen := hvs.len
  have hst := run_storeCells_at P b off ty' vs 0 arr w e4 (by omega) h1
  simp only [Nat.add_zero] at hst
  refine ⟨_, hst, ?_⟩
  refine h.write hr (b := b) (by rw [hb]; rfl) rfl rfl rfl (by simp) (fun k hk => setRow_other w b k _ hk) (fun hsv => ?_)
  refine ⟨b, ty', _, hb, e2, e3, setRow_heap w b arr _ ty' _ e4, ?_, fun i s hs => ?_⟩
  · simp [spl]; omega
  · unfold spl at hs
    rw [List.append_assoc] at hs
    suffices hsu : ∃ u, (arr.toList.take off ++ (vs ++ arr.toList.drop (off + vs.length)))[i]? = some u ∧ s.ok Z ν w u by
      obtain ⟨u, hu, hk⟩ := hsu
      exact ⟨u, by simpa using hu, hsv _ _ hk⟩
    by_cases h1 : i < off
    · rw [List.getElem?_append_left (by simp; omega)] at hs
      rw [List.getElem?_append_left (by simp; omega)]
      rw [List.getElem?_take_of_lt h1] at hs ⊢
      obtain ⟨u, hu, hk⟩ := e6 i s hs
      exact ⟨u, by simpa using hu, hk⟩
    · rw [List.getElem?_append_right (by simp; omega)] at hs
      rw [List.getElem?_append_right (by simp; omega)]
      have hmin : (cs.take off).length = off := by simp; omega
      have hmin' : (arr.toList.take off).length = off := by simp; omega
      rw [hmin] at hs
      rw [hmin']
      by_cases h2 : i - off < ss.length
      · rw [List.getElem?_append_left h2] at hs
        rw [List.getElem?_append_left (by omega)]
        obtain ⟨u, hu, hk⟩ := hvs.get _ _ hs
        exact ⟨u, hu, hk⟩
      · rw [List.getElem?_append_right (by omega)] at hs
        rw [List.getElem?_append_right (by omega)]
        rw [List.getElem?_drop] at hs ⊢
        have hi : off + ss.length + (i - off - ss.length) = i := by omega
        have hi' : off + vs.length + (i - off - vs.length) = i := by omega
        rw [hi] at hs
        rw [hi']
        obtain ⟨u, hu, hk⟩ := e6 i s hs
        exact ⟨u, by simpa using hu, hk⟩

theorem own_ok {Z : Zone} {ν : Vals} {w : World} {T : Tab} {x : Operand} {a : Act} {r off : Nat} (hx : T.ev x = .own r off) (h : (T.ev x).ok Z ν w (a.eval x)) : ∃ b, ν r = .pointer (some ⟨b, 0, none⟩) ∧ a.eval x = .pointer (some ⟨b, off, none⟩) := by
  rw [hx] at h; exact h

theorem g_store {t : TypeId} {x y : Operand} {r off : Nat} {cs : List SV} {s : SV} [ht : SizeTy P t 1] (hx : T.ev x = .own r off) (hy : T.ev y = s) (h1 : s.one = true) (hr : look O r = some (.cells cs)) (hfit' : Nat.ble (off + 1) cs.length = true) (hns : ∀ k, s ≠ .osl k) :
    GV P E ⟨d, .store t x y, ty, pos, af, g⟩ T O (.av .any) [r] [(r, .cells (spl cs off [s]))] := by
  refine ⟨fun T' O' hT hO => ⟨by intro c; simp, fun Z ν a w hs => ?_⟩⟩
  have hfit : off + 1 ≤ cs.length := Nat.le_of_ble_eq_true hfit'
  have ex := ev_ok hs x
  rw [ev_same (o := ⟨d, .store t x y, ty, pos, af, g⟩) hT (by simp [Op.operands]), hx] at ex
  have ey := ev_ok hs y
  rw [ev_same (o := ⟨d, .store t x y, ty, pos, af, g⟩) hT (by simp [Op.operands]), hy] at ey
  obtain ⟨b, hb, hax⟩ := ex
  have hone : (a.eval y).oneCell' = true := by
    rcases SV.one_cells h1 ey with h | ⟨k, h⟩
    · exact h
    · exact absurd h (hns k)
  obtain ⟨w', hst, hsat⟩ := hs.storeOwn (P := P) (ss := [s]) (vs := [a.eval y]) (by rw [hO r (by simp)]; exact hr) hb hfit ⟨ey, trivial⟩ (by simpa using hone)
  unfold Oper.wp
  have hrun : (execOp a.eval ⟨d, .store t x y, ty, pos, af, g⟩).run P w = .ok .skip w' := by
    simp [execOp, Instr.storeAt, hax, Instr.sureAddr, storeVar, ht.run w, cells_one hone, hst]
  rw [hrun]
  exact ⟨Go.undef, Z, ν, rfl, hsat, trivial⟩

theorem g_store_agg {t : TypeId} {x y : Operand} {r off k : Nat} {cs : List SV} {us : List Value} [ht : SizeTy P t k] (hx : T.ev x = .own r off) (hy : T.ev y = .av (.val (.agg us.toArray))) (hk : us.length = k) (h1 : us.all Value.oneCell' = true) (hr : look O r = some (.cells cs)) (hfit' : Nat.ble (off + us.length) cs.length = true) :
    GV P E ⟨d, .store t x y, ty, pos, af, g⟩ T O (.av .any) [r] [(r, .cells (spl cs off (us.map fun u => .av (.val u))))] := by
  refine ⟨fun T' O' hT hO => ⟨by intro c; simp, fun Z ν a w hs => ?_⟩⟩
  have ex := ev_ok hs x
  rw [ev_same (o := ⟨d, .store t x y, ty, pos, af, g⟩) hT (by simp [Op.operands]), hx] at ex
  have ey := ev_ok hs y
  rw [ev_same (o := ⟨d, .store t x y, ty, pos, af, g⟩) hT (by simp [Op.operands]), hy] at ey
  obtain ⟨b, hb, hax⟩ := ex
  subst hk
  have hfit : off + us.length ≤ cs.length := Nat.le_of_ble_eq_true hfit'
  have ey' : a.eval y = .agg us.toArray := ey
  have hall : ∀ (us : List Value), All2 (fun s v => SV.ok Z ν w s v) (us.map fun u => .av (.val u)) us := by
    intro us
    induction us with
    | nil => trivial
    | cons u us ih => exact ⟨rfl, ih⟩
  obtain ⟨w', hst, hsat⟩ := hs.storeOwn (P := P) (ss := us.map fun u => .av (.val u)) (vs := us) (by rw [hO r (by simp)]; exact hr) hb (by simpa using hfit) (hall us) (by simpa using h1)
  unfold Oper.wp
  have hrun : (execOp a.eval ⟨d, .store t x y, ty, pos, af, g⟩).run P w = .ok .skip w' := by
    simp [execOp, Instr.storeAt, hax, Instr.sureAddr, storeVar, ht.run w, ey', Value.cells, hst]
  rw [hrun]
  exact ⟨Go.undef, Z, ν, rfl, hsat, trivial⟩

theorem own_cell {Z : Zone} {ν : Vals} {w : World} {r b off : Nat} {cs : List SV} {s : SV} (hx : Res.ok E Z ν w (ν r) (.cells cs)) (hb : ν r = .pointer (some ⟨b, 0, none⟩)) (hs : cs[off]? = some s) : ∃ u, w.cell? ⟨b, off, none⟩ = some u ∧ s.ok Z ν w u := by
  obtain ⟨b', ty', arr, e1, e2, e3, e4, e5, e6⟩ := hx
  rw [hb] at e1
  simp only [Value.pointer.injEq, Option.some.injEq, Addr.mk.injEq, and_true] at e1
  subst e1
  obtain ⟨u, hu, hk⟩ := e6 off s hs
  exact ⟨u, by rw [cell_of_row w b off arr ty' _ e4]; exact hu, hk⟩

theorem g_load_own {t : TypeId} {x : Operand} {r off : Nat} {cs : List SV} {s : SV} [ht : CellTy P t] (hx : T.ev x = .own r off) (hr : look O r = some (.cells cs)) (hc : cs[off]? = some s) :
    GV P E ⟨d, .load t x, ty, pos, af, g⟩ T O s [r] [] :=
  gv_pure [r] fun Z ν a w h hO => by
    obtain ⟨b, hb, hax⟩ := own_ok hx (h x (by simp [Op.operands]))
    obtain ⟨u, hu, hk⟩ := own_cell (hO r (by simp) _ hr) hb hc
    exact ⟨u, by simp [execOp, Instr.loadAt, hax, Instr.sureAddr, loadVar, ht.run w, hu], hk⟩

theorem g_load_own_agg {t : TypeId} {x : Operand} {r off k : Nat} {cs : List SV} {us : List Value} [ht : AggTy P t k] (hx : T.ev x = .own r off) (hr : look O r = some (.cells cs)) (hk : us.length = k) (hc : (cs.drop off).take us.length = us.map fun u => .av (.val u)) :
    GV P E ⟨d, .load t x, ty, pos, af, g⟩ T O (.av (.val (.agg us.toArray))) [r] [] :=
  gv_pure [r] fun Z ν a w h hO => by
    subst hk
    obtain ⟨b, hb, hax⟩ := own_ok hx (h x (by simp [Op.operands]))
    have hcell : ∀ (j : Nat) (v : Value), us[j]? = some v → w.cell? ((⟨b, off, none⟩ : Addr).add j) = some v := by
      intro j v hj
      have hlt := (List.getElem?_eq_some_iff.1 hj).1
      have h1 : cs[off + j]? = some (.av (.val v)) := by
        have : ((cs.drop off).take us.length)[j]? = some (.av (.val v)) := by rw [hc]; simp [hj]
        rw [List.getElem?_take_of_lt hlt, List.getElem?_drop] at this
        exact this
      obtain ⟨u, hu, hk⟩ := own_cell (hO r (by simp) _ hr) hb h1
      have : u = v := hk
      rw [add_addr, hu, this]
    have hl := run_loadCells_list (P := P) (w := w) ⟨b, off, none⟩ us hcell
    exact ⟨_, by simp [execOp, Instr.loadAt, hax, Instr.sureAddr, loadVar, ht.agg w, ht.size w, hl], rfl⟩

theorem g_field_own {s : TypeId} {x : Operand} {i off r o : Nat} [hs : FldTy P s i off] (hx : T.ev x = .own r o) : GV P E ⟨d, .fieldAddr s x i, ty, pos, af, g⟩ T O (.own r (o + off)) [] [] :=
  gv_pure [] fun Z ν a w h _ => by
    obtain ⟨b, hb, hax⟩ := own_ok hx (h x (by simp [Op.operands]))
    exact ⟨.pointer (some ⟨b, o + off, none⟩), by simp [execOp, hax, hs.run b o w], b, hb, rfl⟩

class ArrTy (P : Program) (t : TypeId) (len : outParam Nat) (e : outParam TypeId) (sz : outParam Nat) : Prop where
  und : P.underlying t = some (.array len e)
  size : ∀ w, (sizeOf e).run P w = .ok sz w

theorem g_index_own {t e : TypeId} {x y : Operand} {len sz r o : Nat} {q : IntKind} {i : Int} {k : Nat} [ht : ArrTy P t len e sz] (hx : T.ev x = .own r o) (hy : T.ev y = .av (.val (.int q i))) (hi : i = ↑k) (hk : k < len) :
    GV P E ⟨d, .indexAddr t x y, ty, pos, af, g⟩ T O (.own r (o + k * sz)) [] [] :=
  gv_pure [] fun Z ν a w h _ => by
    obtain ⟨b, hb, hax⟩ := own_ok hx (h x (by simp [Op.operands]))
    have hv := val_ok hy (h y (by simp [Op.operands]))
    subst hi
    exact ⟨.pointer (some ⟨b, o + k * sz, none⟩), by simp [execOp, Instr.indexAt, hv, hax, asIntOf, run_underlying ht.und, Instr.sureAddr, ht.size w, hk, add_addr], b, hb, rfl⟩

theorem g_index_arr {t e : TypeId} {x y : Operand} {len sz n : Nat} {f : Nat → AV} {q : IntKind} {i : Int} {k : Nat} [ht : ArrTy P t len e sz] (hx : T.ev x = .av (.ptr n f)) (hy : T.ev y = .av (.val (.int q i))) (hi : i = ↑k) (hk : k < len) (hn' : Nat.ble ((k + 1) * sz) n = true) :
    GV P E ⟨d, .indexAddr t x y, ty, pos, af, g⟩ T O (.av (.ptr sz (fun j => f (k * sz + j)))) [] [] :=
  gv_pure [] fun Z ν a w h _ => by
    obtain ⟨b, o, he, hz, hb, hc⟩ := ptr_ok hx (h x (by simp [Op.operands]))
    have hv := val_ok hy (h y (by simp [Op.operands]))
    subst hi
    refine ⟨.pointer (some ⟨b, o + k * sz, none⟩), by simp [execOp, Instr.indexAt, hv, he, asIntOf, run_underlying ht.und, Instr.sureAddr, ht.size w, hk, add_addr], b, o + k * sz, rfl, fun hp => hz (by have hn := Nat.le_of_ble_eq_true hn'; rw [Nat.add_mul, Nat.one_mul] at hn; omega), hb, fun j hj => ?_⟩
    rw [Nat.add_assoc]
    exact hc (k * sz + j) (by have hn := Nat.le_of_ble_eq_true hn'; rw [Nat.add_mul, Nat.one_mul] at hn; omega)

/-- A struct or an array out of its parts. -/
theorem g_build {t : TypeId} {is : List Nat} {xs : List Operand} {vs cs : List Value} (ht : P.built t (is.zip vs) = some cs.toArray) (hl : xs.length = is.length) (hx : xs.map T.ev = vs.map (fun v => SV.av (.val v))) :
    GV P E ⟨d, .build t (is.zip xs).toArray, ty, pos, af, g⟩ T O (.av (.val (.agg cs.toArray))) [] [] :=
  gv_pure [] fun Z ν a w h _ => by
    have hev : ∀ (is : List Nat) (xs : List Operand) (vs : List Value), xs.length = is.length → xs.map T.ev = vs.map (fun v => SV.av (.val v)) → (∀ x ∈ (is.zip xs).map (·.2), (T.ev x).ok Z ν w (a.eval x)) →
        (is.zip xs).map (fun p => (p.1, a.eval p.2)) = is.zip vs := by
      intro is
      induction is with
      | nil => intro xs vs _ _ _; simp
      | cons i is ih =>
        intro xs vs hl hx hok
        match xs, hl with
        | x :: xs, hl =>
          match vs, hx with
          | v :: vs, hx =>
            simp only [List.map_cons, List.cons.injEq] at hx
            have h0 := hok x (by simp)
            rw [hx.1] at h0
            have h0' : a.eval x = v := h0
            simp only [List.zip_cons_cons, List.map_cons, h0', ih xs vs (by simpa using hl) hx.2 (fun y hy => hok y (by simp at hy ⊢; exact .inr hy))]
    have hr := run_build (P := P) w t (is.zip vs).toArray cs.toArray (by simpa using ht)
    refine ⟨_, ?_, rfl⟩
    have he := hev is xs vs hl hx (fun x hx => h x (by simpa [Op.operands] using hx))
    simp only [execOp, List.map_toArray]
    rw [show (List.map (fun (x : Nat × Operand) => match x with | (i, x) => (i, a.eval x)) (is.zip xs)) = is.zip vs from he]
    simp [hr]

end

/-! ### Results that lie in memory -/
section
variable {P : Program} {fn : Func} {w : World} {Z : Zone} {N : Nat} {T : Tab} {O : Own} {res : AV}

/-- What a result variable holds, whatever its kind. -/
inductive ResV (P : Program) (T : Tab) (O : Own) : ResultVar → AV → Prop
  | tmp {t : Nat} {τ : AV} (h : T.get t = .av τ) : ResV P T O (.tmp t) τ
  | cell {t r off : Nat} {ty : TypeId} {cs : List SV} {τ : AV} [ht : CellTy P ty] (h : T.get t = .own r off) (hr : look O r = some (.cells cs)) (hc : cs[off]? = some (.av τ)) : ResV P T O (.cell t ty) τ
  | agg {t r off k : Nat} {ty : TypeId} {cs : List SV} {us : List Value} [ht : AggTy P ty k] (h : T.get t = .own r off) (hr : look O r = some (.cells cs)) (hk : us.length = k) (hc : (cs.drop off).take us.length = us.map fun u => .av (.val u)) : ResV P T O (.cell t ty) (.val (.agg us.toArray))
  | aggv {t r off k : Nat} {ty : TypeId} {cs : List SV} {f : Nat → AV} [ht : AggTy P ty k] (h : T.get t = .own r off) (hr : look O r = some (.cells cs)) (hc : (cs.drop off).take k = (List.range k).map fun i => .av (f i)) : ResV P T O (.cell t ty) (.agg k f)

theorem agg_cells {P : Program} {w : World} {Z : Zone} {ν : Vals} {E : Env} {r : Nat} {cs : List SV} {b off k : Nat} {f : Nat → AV} (hrow : Res.ok E Z ν w (ν r) (.cells cs)) (hb : ν r = .pointer (some ⟨b, 0, none⟩)) (hc : (cs.drop off).take k = (List.range k).map fun i => .av (f i)) :
    ∃ us : List Value, us.length = k ∧ (∀ (j : Nat) (v : Value), us[j]? = some v → w.cell? ((⟨b, off, none⟩ : Addr).add j) = some v) ∧ ∀ i, i < k → ∃ u, us[i]? = some u ∧ (f i).ok Z w u := by
  have hget : ∀ i, i < k → ∃ u, w.cell? ⟨b, off + i, none⟩ = some u ∧ (f i).ok Z w u := fun i hi => by
    have h1 : cs[off + i]? = some (.av (f i)) := by
      have : ((cs.drop off).take k)[i]? = some (.av (f i)) := by rw [hc]; simp [hi]
      rw [List.getElem?_take_of_lt hi, List.getElem?_drop] at this
      exact this
    obtain ⟨u, hu, hk⟩ := own_cell hrow hb h1
    exact ⟨u, hu, hk⟩
  refine ⟨(List.range k).map fun i => (w.cell? ⟨b, off + i, none⟩).getD undef, by simp, fun j v hj => ?_, fun i hi => ?_⟩
  · simp only [List.getElem?_map, Option.map_eq_some_iff] at hj
    obtain ⟨i', hi', rfl⟩ := hj
    obtain ⟨hi, rfl⟩ := List.getElem?_eq_some_iff.1 hi'
    simp only [List.getElem_range, List.length_range] at hi ⊢
    obtain ⟨u, hu, _⟩ := hget j hi
    rw [add_addr, hu]; rfl
  · obtain ⟨u, hu, hk⟩ := hget i hi
    exact ⟨u, by simp [hi, hu], hk⟩

def resOf (tmps : Array Value) : ResultVar → Sem Value
  | .tmp t => pure (tmps.getD t undef)
  | .cell a t => do loadVar t (← asAddr (tmps.getD a undef))

theorem ResV.run {E : Env} {Z : Zone} {ν : Vals} {a : Act} {w : World} {rv : ResultVar} {τ : AV} (h : ResV P T O rv τ) (hs : SatZ E Z ν T O a w) :
    ∃ v, (resOf a.tmps rv).run P w = .ok v w ∧ τ.ok Z w v := by
  cases h with
  | tmp h =>
    rename_i t
    have h2 := hs.slot t
    rw [h] at h2
    exact ⟨_, rfl, h2⟩
  | cell h hr hc =>
    rename_i t r off ty cs ht
    have h2 := hs.slot t
    rw [h] at h2
    obtain ⟨b, hb, hax⟩ := h2
    obtain ⟨u, hu, hk⟩ := own_cell (hs.own.each _ _ hr) hb hc
    exact ⟨u, by simp [resOf, hax, asAddr, loadVar, ht.run w, hu], hk⟩
  | agg h hr hk hc =>
    rename_i t r off k ty cs us ht
    subst hk
    have h2 := hs.slot t
    rw [h] at h2
    obtain ⟨b, hb, hax⟩ := h2
    have hcell : ∀ (j : Nat) (v : Value), us[j]? = some v → w.cell? ((⟨b, off, none⟩ : Addr).add j) = some v := by
      intro j v hj
      have hlt := (List.getElem?_eq_some_iff.1 hj).1
      have h1 : cs[off + j]? = some (.av (.val v)) := by
        have : ((cs.drop off).take us.length)[j]? = some (.av (.val v)) := by rw [hc]; simp [hj]
        rw [List.getElem?_take_of_lt hlt, List.getElem?_drop] at this
        exact this
      obtain ⟨u, hu, hk⟩ := own_cell (hs.own.each _ _ hr) hb h1
      have : u = v := hk
      rw [add_addr, hu, this]
    have hl := run_loadCells_list (P := P) (w := w) ⟨b, off, none⟩ us hcell
    exact ⟨_, by simp [resOf, hax, asAddr, loadVar, ht.agg w, ht.size w, hl], rfl⟩
  | aggv h hr hc =>
    rename_i t r off k ty cs f ht
    have h2 := hs.slot t
    rw [h] at h2
    obtain ⟨b, hb, hax⟩ := h2
    obtain ⟨us, hk, hcell, hf⟩ := agg_cells (P := P) (hs.own.each _ _ hr) hb hc
    subst hk
    have hl := run_loadCells_list (P := P) (w := w) ⟨b, off, none⟩ us hcell
    exact ⟨_, by simp [resOf, hax, asAddr, loadVar, ht.agg w, ht.size w, hl], us, rfl, rfl, hf⟩

theorem results_eq (fn : Func) (tmps : Array Value) : results fn tmps = (do
    let vs ← fn.results.mapM (resOf tmps)
    pure (if h : vs.size = 1 then vs[0] else .tuple vs)) := by
  unfold results
  congr 2

theorem run_results (P : Program) (w : World) (tmps : Array Value) : ∀ (rvs : List ResultVar) (vs : List Value), All2 (fun rv v => (resOf tmps rv).run P w = Result.ok v w) rvs vs → (rvs.mapM (resOf tmps)).run P w = .ok vs w
  | [], [], _ => by simp
  | rv :: rvs, v :: vs, h => by
    rw [List.mapM_cons]
    simp only [Sem.run_bind, h.1, Result.andThen_ok, run_results P w tmps rvs vs h.2, Sem.run_pure]
  | [], _ :: _, h => h.elim
  | _ :: _, [], h => h.elim

theorem results_all {P : Program} {fn : Func} {w : World} {tmps : Array Value} {rvs : List ResultVar} {vs : List Value} (hr : fn.results = rvs.toArray) (h : All2 (fun rv v => (resOf tmps rv).run P w = Result.ok v w) rvs vs) :
    (results fn tmps).run P w = .ok (if h : vs.toArray.size = 1 then vs.toArray[0] else .tuple vs.toArray) w := by
  rw [results_eq, hr]
  simp only [List.mapM_toArray, Sem.run_bind, Sem.run_map, run_results P w tmps rvs vs h, Result.andThen_ok, Sem.run_pure]

theorem sq_res1 {rv : ResultVar} {τ : AV} (hr : fn.results = #[rv]) (ht : ResV P T O rv τ) (he : τ = res) : SQ (envA N w Z) T O (bodyPost P fn (RetA w Z res) .ret) := by
  subst he
  rintro a w' ⟨Z', ν, h⟩
  obtain ⟨v, hv, hk⟩ := ht.run h
  have := results_all (P := P) (w := w') (tmps := a.tmps) (rvs := [rv]) (vs := [v]) hr ⟨hv, trivial⟩
  exact bodyPost_ret (v := v) this h.defers (retA_of h.base hk)

/-- Two results or more. -/
theorem sq_resN {rvs : List ResultVar} {τs : List AV} (hr : fn.results = rvs.toArray) (hn : Nat.blt 1 rvs.length = true) (ht : All2 (ResV P T O) rvs τs) (he : tupOf τs = res) : SQ (envA N w Z) T O (bodyPost P fn (RetA w Z res) .ret) := by
  subst he
  rintro a w' ⟨Z', ν, h⟩
  have key : ∀ (rvs : List ResultVar) (τs : List AV), All2 (ResV P T O) rvs τs → ∃ vs, All2 (fun rv v => (resOf a.tmps rv).run P w' = Result.ok v w') rvs vs ∧ All2 (fun τ v => AV.ok Z' w' τ v) τs vs := by
    intro rvs
    induction rvs with
    | nil => intro τs h; match τs, h with | [], _ => exact ⟨[], trivial, trivial⟩
    | cons rv rvs ih =>
      intro τs h'
      match τs, h' with
      | τ :: τs, h' =>
        obtain ⟨v, hv, hk⟩ := h'.1.run h
        obtain ⟨vs, h1, h2⟩ := ih τs h'.2
        exact ⟨v :: vs, ⟨hv, h1⟩, ⟨hk, h2⟩⟩
  obtain ⟨vs, h1, h2⟩ := key rvs τs ht
  have hl : vs.length = rvs.length := h1.len.symm
  have hrun := results_all (P := P) (w := w') hr h1
  have hne : ¬ vs.toArray.size = 1 := by
    have := lt_of_blt hn
    simp; omega
  rw [dif_neg hne] at hrun
  refine bodyPost_ret (v := .tuple vs.toArray) hrun h.defers (retA_of h.base ⟨vs, rfl, h2.len.symm, fun i hi => ?_⟩)
  have hi' : i < τs.length := hi
  obtain ⟨u, hu, hk⟩ := h2.get i τs[i] (List.getElem?_eq_getElem hi')
  exact ⟨u, hu, by simpa [List.getD, List.getElem?_eq_getElem hi'] using hk⟩
end
end Go.Vc
namespace Go.Vc
open Go Go.RowKit

/-! ### Slices of the call's own -/
section
variable {P : Program} {E : Env} {T : Tab} {O : Own} {o : Oper} {d : Option Tmp} {ty : TypeId} {pos : String} {af : Array Edge} {g : Option (Nat × Bool)}

theorem osl_ok {Z : Zone} {ν : Vals} {w : World} {T : Tab} {x : Operand} {a : Act} {r : Nat} (hx : T.ev x = .osl r) (h : (T.ev x).ok Z ν w (a.eval x)) : a.eval x = ν r := by
  rw [hx] at h; exact h

theorem g_len_own {t e : TypeId} {x : Operand} {r n sz sz' ety : Nat} {f : Nat → Nat → AV} [ht : SlTy P t e sz'] (hx : T.ev x = .osl r) (hr : look O r = some (.row ety sz n f)) :
    GV P E ⟨d, .call ⟨.builtin .len, #[x], #[t]⟩, ty, pos, af, g⟩ T O (.av (.val (.int .i64 n))) [r] [] :=
  gv_pure [r] fun Z ν a w h hO => by
    have hv := osl_ok hx (h x (by simp [Op.operands, Call.operands]))
    refine ⟨.int .i64 n, ?_, rfl⟩
    rcases hO r (by simp) _ hr with ⟨h1, h2⟩ | ⟨b, cap, arr, h1, _⟩
    · subst h2
      simp [execOp, resolve, invoke, builtin, Builtin.len_, hv, h1, run_underlying ht.und, goInt]
    · simp [execOp, resolve, invoke, builtin, Builtin.len_, hv, h1, run_underlying ht.und, goInt]

theorem g_index_row {t e : TypeId} {x y : Operand} {r n sz ety : Nat} {f : Nat → Nat → AV} {q : IntKind} {i : Int} {k : Nat} [ht : SlTy P t e sz] (hx : T.ev x = .osl r) (hr : look O r = some (.row ety sz n f)) (hy : T.ev y = .av (.val (.int q i)))
    (hi : i = ↑k) (hk : k < n) : GV P E ⟨d, .indexAddr t x y, ty, pos, af, g⟩ T O (.oel r sz k 0) [r] [] :=
  gv_pure [r] fun Z ν a w h hO => by
    have hv := osl_ok hx (h x (by simp [Op.operands]))
    have hvi := val_ok hy (h y (by simp [Op.operands]))
    subst hi
    rcases hO r (by simp) _ hr with ⟨_, h2⟩ | ⟨b, cap, arr, h1, _⟩
    · omega
    · refine ⟨.pointer (some ⟨b, k * sz, none⟩), ?_, b, n, cap, h1, by simp⟩
      simp [execOp, Instr.indexAt, hvi, hv, h1, asIntOf, run_underlying ht.und, ht.size w, hk, add_addr]

theorem row_cell {Z : Zone} {ν : Vals} {w : World} {r n sz ety i j : Nat} {f : Nat → Nat → AV} {b : Nat} {m c : Nat} (hx : Res.ok E Z ν w (ν r) (.row ety sz n f)) (hb : ν r = .slice (some ⟨b, 0, none⟩) m c) (hi : i < n) (hj : j < sz) :
    ∃ u, w.cell? ⟨b, i * sz + j, none⟩ = some u ∧ (f i j).ok Z w u := by
  rcases hx with ⟨h1, _⟩ | ⟨b', cap, arr, h1, _, _, h4, _, _, _, h8⟩
  · rw [hb] at h1; simp at h1
  · rw [hb] at h1
    simp only [Value.slice.injEq, Option.some.injEq, Addr.mk.injEq, and_true] at h1
    obtain ⟨rfl, rfl, rfl⟩ := h1
    obtain ⟨u, hu, hk⟩ := h8 i hi j hj
    exact ⟨u, by rw [cell_of_row w b _ arr ety _ h4]; exact hu, hk⟩

theorem g_load_oel {t : TypeId} {x : Operand} {r n sz ety i j : Nat} {f : Nat → Nat → AV} {τ : AV} [ht : CellTy P t] (hx : T.ev x = .oel r sz i j) (hr : look O r = some (.row ety sz n f)) (hi : i < n) (hj : Nat.blt j sz = true) (hf : f i j = τ) :
    GV P E ⟨d, .load t x, ty, pos, af, g⟩ T O (.av τ) [r] [] :=
  gv_pure [r] fun Z ν a w h hO => by
    have := h x (by simp [Op.operands])
    rw [hx] at this
    obtain ⟨b, m, c, hb, hax⟩ := this
    obtain ⟨u, hu, hk⟩ := row_cell (hO r (by simp) _ hr) hb hi (lt_of_blt hj)
    exact ⟨u, by simp [execOp, Instr.loadAt, hax, Instr.sureAddr, loadVar, ht.run w, hu], by rw [← hf]; exact hk⟩

/-- f with ss from (i, j) on. -/
def rowSet (f : Nat → Nat → AV) (i j : Nat) (ss : List AV) : Nat → Nat → AV := fun i' j' => if i' = i ∧ j ≤ j' ∧ j' < j + ss.length then ss.getD (j' - j) .any else f i' j'

theorem SatZ.storeRow {Z : Zone} {ν : Vals} {a : Act} {w : World} {r n sz ety i j b m c : Nat} {f : Nat → Nat → AV} {ss : List AV} {vs : List Value} (h : SatZ E Z ν T O a w) (hr : look O r = some (.row ety sz n f)) (hb : ν r = .slice (some ⟨b, 0, none⟩) m c) (hi : i < n) (hfit : j + ss.length ≤ sz)
    (hvs : All2 (fun s v => AV.ok Z w s v) ss vs) (h1 : ∀ v ∈ vs, v.oneCell' = true) : ∃ w', (storeCells ⟨b, i * sz + j, none⟩ vs).run P w = .ok () w' ∧ SatZ E Z ν T ((r, .row ety sz n (rowSet f i j ss)) :: O) a w' := by
  have hx := h.own.each r _ hr
  rcases hx with ⟨e1, _⟩ | ⟨b', cap, arr, e1, e2, e3, e4, e5, e6, e7, e8⟩
  · rw [hb] at e1; simp at e1
  have e1' := e1
  rw [hb] at e1
  simp only [Value.slice.injEq, Option.some.injEq, Addr.mk.injEq, and_true] at e1
  obtain ⟨rfl, rfl, rfl⟩ := e1
  have hlen := hvs.len
  have hbound : i * sz + j + vs.length ≤ arr.size := by
    have : (i + 1) * sz ≤ c * sz := Nat.mul_le_mul_right _ (by omega)
    rw [Nat.add_mul, Nat.one_mul] at this
    omega
  have hst := run_storeCells_at P b (i * sz + j) ety vs 0 arr w e4 (by omega) h1
  simp only [Nat.add_zero] at hst
  refine ⟨_, hst, ?_⟩
  refine h.write hr (b := b) (by rw [hb]; rfl) rfl rfl rfl (by simp) (fun k hk => setRow_other w b k _ hk) (fun hsv => ?_)
  refine .inr ⟨b, c, _, e1', e2, e3, setRow_heap w b arr _ ety _ e4, e5, e6, ?_, fun i' hi' j' hj' => ?_⟩
  · rw [← e7]; simp; omega
  · have hav : ∀ (τ : AV) u, τ.ok Z w u → τ.ok Z (w.setRow b (arr.toList.take (i * sz + j) ++ vs ++ arr.toList.drop (i * sz + j + vs.length)).toArray) u := fun τ u hk => hsv (.av τ) u hk
    suffices hsu : ∃ u, (arr.toList.take (i * sz + j) ++ (vs ++ arr.toList.drop (i * sz + j + vs.length)))[i' * sz + j']? = some u ∧ (rowSet f i j ss i' j').ok Z w u by
      obtain ⟨u, hu, hk⟩ := hsu
      exact ⟨u, by simpa using hu, hav _ _ hk⟩
    obtain ⟨u0, hu0, hk0⟩ := e8 i' hi' j' hj'
    have hlt0 : i' * sz + j' < arr.size := (Array.getElem?_eq_some_iff.1 hu0).1
    by_cases hin : i' = i ∧ j ≤ j' ∧ j' < j + ss.length
    · obtain ⟨rfl, h2, h3⟩ := hin
      rw [List.getElem?_append_right (by simp; omega)]
      have hmin : (arr.toList.take (i' * sz + j)).length = i' * sz + j := by simp; omega
      rw [hmin, List.getElem?_append_left (by omega)]
      have hidx : i' * sz + j' - (i' * sz + j) = j' - j := by omega
      rw [hidx]
      have hl : j' - j < ss.length := by omega
      obtain ⟨u, hu, hk⟩ := hvs.get (j' - j) ss[j' - j] (List.getElem?_eq_getElem hl)
      refine ⟨u, hu, ?_⟩
      unfold rowSet
      rw [if_pos ⟨rfl, h2, h3⟩]
      simpa [List.getD, List.getElem?_eq_getElem hl] using hk
    · refine ⟨u0, ?_, by unfold rowSet; rw [if_neg hin]; exact hk0⟩
      have hout : i' * sz + j' < i * sz + j ∨ i * sz + j + ss.length ≤ i' * sz + j' := by
        rcases Nat.lt_trichotomy i' i with h2 | h2 | h2
        · left
          have : (i' + 1) * sz ≤ i * sz := Nat.mul_le_mul_right _ h2
          rw [Nat.add_mul, Nat.one_mul] at this
          omega
        · subst h2; omega
        · right
          have : (i + 1) * sz ≤ i' * sz := Nat.mul_le_mul_right _ h2
          rw [Nat.add_mul, Nat.one_mul] at this
          omega
      rcases hout with h2 | h2
      · rw [List.getElem?_append_left (by simp; omega), List.getElem?_take_of_lt h2]
        simpa using hu0
      · rw [List.getElem?_append_right (by simp; omega)]
        have hmin : (arr.toList.take (i * sz + j)).length = i * sz + j := by simp; omega
        rw [hmin, List.getElem?_append_right (by omega), List.getElem?_drop]
        have : i * sz + j + vs.length + (i' * sz + j' - (i * sz + j) - vs.length) = i' * sz + j' := by omega
        rw [this]
        simpa using hu0

theorem g_store_oel {t : TypeId} {x y : Operand} {r n sz ety i j : Nat} {f : Nat → Nat → AV} {τ : AV} [ht : SizeTy P t 1] (hx : T.ev x = .oel r sz i j) (hy : T.ev y = .av τ) (h1 : τ.one = true) (hr : look O r = some (.row ety sz n f)) (hi : i < n) (hj : Nat.blt j sz = true) :
    GV P E ⟨d, .store t x y, ty, pos, af, g⟩ T O (.av .any) [r] [(r, .row ety sz n (rowSet f i j [τ]))] := by
  refine ⟨fun T' O' hT hO => ⟨by intro c; simp, fun Z ν a w hs => ?_⟩⟩
  have ex := ev_ok hs x
  rw [ev_same (o := ⟨d, .store t x y, ty, pos, af, g⟩) hT (by simp [Op.operands]), hx] at ex
  have ey := ev_ok hs y
  rw [ev_same (o := ⟨d, .store t x y, ty, pos, af, g⟩) hT (by simp [Op.operands]), hy] at ey
  obtain ⟨b, m, c, hb, hax⟩ := ex
  have ey' : τ.ok Z w (a.eval y) := ey
  have hone := AV.one_cells h1 ey'
  obtain ⟨w', hst, hsat⟩ := hs.storeRow (P := P) (ss := [τ]) (vs := [a.eval y]) (by rw [hO r (by simp)]; exact hr) hb hi (lt_of_blt hj) ⟨ey', trivial⟩ (by simpa using hone)
  unfold Oper.wp
  have hrun : (execOp a.eval ⟨d, .store t x y, ty, pos, af, g⟩).run P w = .ok .skip w' := by
    simp [execOp, Instr.storeAt, hax, Instr.sureAddr, storeVar, ht.run w, cells_one hone, hst]
  rw [hrun]
  exact ⟨Go.undef, Z, ν, rfl, hsat, trivial⟩

/-- What a row and more at its end hold. -/
def rowApp (n : Nat) (f h : Nat → Nat → AV) : Nat → Nat → AV := fun i j => if i < n then f i j else h (i - n) j

/-- The row of r is another one now: what spoke of the old one is forgotten. -/
theorem SatZ.reRow {Z : Zone} {ν : Vals} {a : Act} {w w' : World} {r : Nat} {x : Res} (h : SatZ E Z ν T O a w) (hr : look O r = some x) (hp : Nat.blt r 1000 = true) (v' : Value) (x' : Res) (hg : w.grownBy w' (blkOf (ν r)))
    (hblk : ∀ b, blkOf v' = some b → blkOf (ν r) = some b ∨ w.heap.size ≤ b)
    (hx : (∀ (τ : AV) u, τ.ok Z w u → τ.ok Z w' u) → x'.ok E Z (updV ν r v') w' v') : SatZ E Z (updV ν r v') (T.kill r) ((r, x') :: Own.kill r O) a w' := by
  have hbz : ∀ k, Z k → some k ≠ blkOf (ν r) := fun k hk e => (Res.blk_lt (h.own.each r x hr) e.symm).2.1 hk
  have hbk : ∀ k, E.keep k → some k ≠ blkOf (ν r) := fun k hk e => (Res.blk_lt (h.own.each r x hr) e.symm).2.2 hk
  have hsame : ∀ k, Z k → k < w.heap.size → w'.heap[k]? = w.heap[k]? := fun k hk hlt => hg.block k hlt (hbz k hk)
  have hav : ∀ (τ : AV) v, τ.ok Z w v → τ.ok Z w' v := AV.ok_mono (fun _ h => h) hg.size hsame
  have hk := h.kill r v' hp
  have hsv : ∀ (s : SV) v, s.ok Z (updV ν r v') w v → s.ok Z (updV ν r v') w' v := fun s v hs => SV.ok_mono (fun _ h => h) hg.size hsame s v (fun _ _ => rfl) hs
  have hne : ∀ k, k ≠ r → updV ν r v' k = ν k := fun k hk => if_neg hk
  have hl : ∀ k, k ≠ r → look ((r, x') :: Own.kill r O) k = look (Own.kill r O) k := fun k hk => look_cons_ne x' _ (fun e => hk e.symm)
  have hLookup : ∀ k, k ≠ r → look (Own.kill r O) k ≠ none → look O k ≠ none := by
    intro k hkr hn
    rw [Own.look_kill, if_neg hkr] at hn
    simpa using hn
  refine ⟨h.defers, h.tsize, h.cst, hk.pin, ⟨hg.os.trans h.base.os, hg.tape.trans h.base.tape, hg.output.trans h.base.output, Nat.le_trans h.base.size hg.size, h.base.keepLt, fun k hk' => ?_, fun k hk' => Nat.lt_of_lt_of_le (h.base.zLt k hk') hg.size, h.base.z0, h.base.zNew⟩,
    ⟨fun k y hy => ?_, fun k k' hkk h1 h2 b hb => ?_⟩, fun d => hsv _ _ (hk.slot d)⟩
  · rw [hg.block k (Nat.lt_of_lt_of_le (h.base.keepLt k hk') h.base.size) (hbk k hk'), h.base.kept k hk']
  · by_cases hkr : k = r
    · subst hkr
      rw [look_cons_eq] at hy
      cases hy
      rw [show updV ν k v' k = v' from if_pos rfl]
      exact hx hav
    · rw [hl k hkr] at hy
      have h3 := hk.own.each k y hy
      have hOk := hLookup k hkr (by rw [hy]; simp)
      have hbne : ∀ b, blkOf (ν k) = some b → some b ≠ blkOf (ν r) := fun b hb e => h.own.apart r k (fun e => hkr e.symm) (by rw [hr]; simp) hOk b e.symm hb
      rw [hne k hkr] at h3 ⊢
      cases y with
      | cells cs =>
        obtain ⟨b', ty', arr, e1, e2, e3, e4, e5, e6⟩ := h3
        refine ⟨b', ty', arr, e1, e2, e3, ?_, e5, fun i s hs => let ⟨u, hu, hk⟩ := e6 i s hs; ⟨u, hu, hsv _ _ hk⟩⟩
        rw [hg.block b' (Array.getElem?_eq_some_iff.1 e4).1 (hbne b' (by rw [e1]; rfl))]; exact e4
      | row ty' sz n f =>
        rcases h3 with h1 | ⟨b', cap, arr, e1, e2, e3, e4, e5, e6, e7, e8⟩
        · exact .inl h1
        · refine .inr ⟨b', cap, arr, e1, e2, e3, ?_, e5, e6, e7, fun i hi j hj => let ⟨u, hu, hk⟩ := e8 i hi j hj; ⟨u, hu, hav _ _ hk⟩⟩
          rw [hg.block b' (Array.getElem?_eq_some_iff.1 e4).1 (hbne b' (by rw [e1]; rfl))]; exact e4
      | obj φ hφ =>
        obtain ⟨b', ob, h1, h2, h3, h4, h5⟩ := h3
        refine ⟨b', ob, h1, h2, h3, ?_, hav (hφ.av ob) _ h5⟩
        rw [hg.block b' (Array.getElem?_eq_some_iff.1 h4).1 (hbne b' h1)]; exact h4
  · have old : ∀ k, k ≠ r → look ((r, x') :: Own.kill r O) k ≠ none → look O k ≠ none := fun k hkr hn => hLookup k hkr (by rw [← hl k hkr]; exact hn)
    by_cases hkr : k = r
    · subst hkr
      rw [show updV ν k v' k = v' from if_pos rfl] at hb
      rw [hne k' (fun e => hkk e.symm)]
      intro hb'
      have hOk := old k' (fun e => hkk e.symm) h2
      rcases hblk b hb with h4 | h4
      · exact h.own.apart k k' hkk (by rw [hr]; simp) hOk b h4 hb'
      · obtain ⟨y, hy⟩ := Option.ne_none_iff_exists'.1 hOk
        have := (Res.blk_lt (h.own.each k' y hy) hb').1
        omega
    · rw [hne k hkr] at hb
      have hOk := old k hkr h1
      by_cases hkr' : k' = r
      · subst hkr'
        rw [show updV ν k' v' k' = v' from if_pos rfl]
        intro hb'
        rcases hblk b hb' with h4 | h4
        · exact h.own.apart k' k (fun e => hkr e.symm) (by rw [hr]; simp) hOk b h4 hb
        · obtain ⟨y, hy⟩ := Option.ne_none_iff_exists'.1 hOk
          have := (Res.blk_lt (h.own.each k y hy) hb).1
          omega
      · rw [hne k' hkr']
        exact h.own.apart k k' hkk hOk (old k' hkr' h2) b hb

/-- An element type, as append asks for it. -/
class EltTy (P : Program) (e : TypeId) (sz bytes : outParam Nat) : Prop where
  info : ∃ i z, P.info? e = some i ∧ i.zero = some z ∧ i.size = sz ∧ i.bytes = bytes ∧ z.cells.size = sz ∧ 0 < sz

theorem ownsRow_of {Z : Zone} {ν : Vals} {w : World} {v : Value} {ety sz n : Nat} {f : Nat → Nat → AV} (h : Res.ok E Z ν w v (.row ety sz n f)) : ∃ xs : List Value, w.ownsRow 0 ety sz v n xs ∧ (∀ i, i < n → ∀ j, j < sz → ∃ u, xs[i * sz + j]? = some u ∧ (f i j).ok Z w u) := by
  rcases h with ⟨rfl, rfl⟩ | ⟨b, cap, arr, rfl, _, _, h4, h5, h6, h7, h8⟩
  · exact ⟨[], ⟨by simp, .inl ⟨rfl, rfl⟩⟩, fun i hi => absurd hi (Nat.not_lt_zero _)⟩
  · have hle : n * sz ≤ cap * sz := Nat.mul_le_mul_right _ h5
    refine ⟨arr.toList.take (n * sz), ⟨by simp; omega, .inr ⟨b, cap, arr, rfl, Nat.zero_le _, h4, h5, h6, h7, rfl⟩⟩, fun i hi j hj => ?_⟩
    obtain ⟨u, hu, hk⟩ := h8 i hi j hj
    refine ⟨u, ?_, hk⟩
    have : i * sz + j < n * sz := by
      have : (i + 1) * sz ≤ n * sz := Nat.mul_le_mul_right _ hi
      rw [Nat.add_mul, Nat.one_mul] at this
      omega
    rw [List.getElem?_take_of_lt this]
    simpa using hu

theorem row_of_owns {Z : Zone} {ν : Vals} {w : World} {v : Value} {ety sz n : Nat} {f : Nat → Nat → AV} {xs : List Value} (h : w.ownsRow 0 ety sz v n xs) (hk : ∀ b, blkOf v = some b → ¬ E.keep b ∧ ¬ Z b) (hf : ∀ i, i < n → ∀ j, j < sz → ∃ u, xs[i * sz + j]? = some u ∧ (f i j).ok Z w u) :
    Res.ok E Z ν w v (.row ety sz n f) := by
  obtain ⟨hl, h | ⟨b, cap, arr, h1, _, h3, h4, h5, h6, h7⟩⟩ := h
  · exact .inl h
  · have := hk b (by rw [h1]; rfl)
    refine .inr ⟨b, cap, arr, h1, this.1, this.2, h3, h4, h5, h6, fun i hi j hj => ?_⟩
    obtain ⟨u, hu, hok⟩ := hf i hi j hj
    refine ⟨u, ?_, hok⟩
    rw [← h7] at hu
    have hlt : i * sz + j < n * sz := by
      have := (List.getElem?_eq_some_iff.1 hu).1
      simp at this
      omega
    rw [List.getElem?_take_of_lt hlt] at hu
    simpa using hu

theorem ownBlock_blk {v : Value} (hv : v = .slice none 0 0 ∨ ∃ b m c, v = .slice (some ⟨b, 0, none⟩) m c) : v.ownBlock = blkOf v := by
  rcases hv with rfl | ⟨b, m, c, rfl⟩ <;> rfl

/-- Where the slice lies that append hands back. -/
theorem append_block {w w' : World} {v v' : Value} {n m sz : Nat} {xs news : List Value} {t tt e : TypeId} {i : TypeInfo} {z : Value} {a : Addr} {c : Nat} (ht : P.underlying t = some (.slice e)) (hi : P.info? e = some i) (hz : i.zero = some z) (hsz : i.size = sz)
    (hown : w.ownsRow 0 e sz v n xs) (hl : news.length = m * sz) (hnews : ∀ (j : Nat) u, news[j]? = some u → w.cell? (a.add j) = some u) (h1 : ∀ u ∈ news, u.oneCell' = true) (hm : 0 < m) (h63 : n + m ≤ maxLen) (hbytes : (n + m) * i.bytes ≤ 140737488355328)
    (hrun : (Builtin.append_ #[t, t] tt #[v, .slice (some a) m c]).run P w = .ok v' w') : blkOf v' = blkOf v ∨ blkOf v' = some w.heap.size := by
  subst hsz
  have hmx : n + m ≤ 9223372036854775807 := by simp only [maxLen] at h63; omega
  rcases hown.2 with ⟨rfl, rfl⟩ | ⟨g, cap, cur, rfl, _, hg, hnc, _, hcs, htake⟩
  · have hb2 : m * i.bytes ≤ 140737488355328 := by rwa [Nat.zero_add] at hbytes
    have hr := run_append_nil (P := P) w t tt e i z ht hi hz a m c news hl hnews hm (by omega) (by omega)
    rw [hr] at hrun
    cases hrun
    exact .inr rfl
  · by_cases hroom : n + m ≤ cap
    · have hfit : n * i.size + news.length ≤ cur.size := by rw [hl, hcs, ← Nat.add_mul]; exact Nat.mul_le_mul_right _ hroom
      have hr := run_append_room (P := P) w t tt e i ht hi g n cap cur hg a m c news hl hnews h1 hroom hfit
      rw [hr] at hrun
      cases hrun
      exact .inl rfl
    · have holds : ∀ (j : Nat) u, xs[j]? = some u → w.cell? ((⟨g, 0, none⟩ : Addr).add j) = some u := hown.cells (g := g) rfl
      have hr := run_append_grow (P := P) w t tt e i z ht hi hz ⟨g, 0, none⟩ n cap xs hown.1 holds a m c news hl hnews (by omega) (by omega) (growslice_fits (by omega) hbytes)
      rw [hr] at hrun
      cases hrun
      exact .inr rfl

/-- append onto a row of the call's own. -/
theorem v_append {t e : TypeId} {x y : Operand} {r n m sz bytes : Nat} {f h : Nat → Nat → AV} [ht : SlTy P t e sz] [he : EltTy P e sz bytes] (hx : T.ev x = .osl r) (hr : look O r = some (.row e sz n f)) (hy : T.ev y = .av (.sl m sz h))
    (hone : ∀ i, i < m → ∀ j, j < sz → (h i j).one = true) (hm : 0 < m) (hlen : n + m ≤ maxLen) (hby : (n + m) * bytes ≤ 140737488355328) (hp : Nat.blt r 1000 = true := by first | rfl | assumption) :
    VStep P E ⟨d, .call ⟨.builtin .append, #[x, y], #[t, t]⟩, ty, pos, af, g⟩ T O (T.kill r) ((r, .row e sz (n + m) (rowApp n f h)) :: Own.kill r O) (.osl r) := by
  refine ⟨by intro c; simp, fun Z ν a w hs => ?_⟩
  have hvx := osl_ok hx (ev_ok hs x)
  obtain ⟨p, c, hvy, hmc, hcm, hcells⟩ := sl_ok hy (ev_ok hs y)
  obtain ⟨b, o, rfl, hzb, hblt, hcell⟩ := hcells hm
  have hrow := hs.own.each r _ hr
  obtain ⟨xs, hown, hxs⟩ := ownsRow_of hrow
  obtain ⟨i0, z, hi, hz, hsz, hbt, hzs, hpos⟩ := he.info
  -- the new cells
  have hnew : ∃ news : List Value, news.length = m * sz ∧ (∀ (j : Nat) u, news[j]? = some u → w.cell? ((⟨b, o, none⟩ : Addr).add j) = some u) ∧ (∀ i, i < m → ∀ j, j < sz → ∃ u, news[i * sz + j]? = some u ∧ (h i j).ok Z w u) := by
    refine ⟨(List.range (m * sz)).map fun k => (w.cell? ⟨b, o + k, none⟩).getD undef, by simp, fun j u hj => ?_, fun i hi j hj => ?_⟩
    · simp only [List.getElem?_map, Option.map_eq_some_iff] at hj
      obtain ⟨k, hk, rfl⟩ := hj
      obtain ⟨hlt, rfl⟩ := List.getElem?_eq_some_iff.1 hk
      simp only [List.length_range] at hlt
      simp only [List.getElem_range]
      have hq : j / sz < m := Nat.div_lt_of_lt_mul (by rw [Nat.mul_comm]; exact hlt)
      obtain ⟨u, hu, _⟩ := hcell (j / sz) hq (j % sz) (Nat.mod_lt _ hpos)
      have : o + j / sz * sz + j % sz = o + j := by rw [Nat.add_assoc, Nat.mul_comm, Nat.div_add_mod]
      rw [this] at hu
      rw [add_addr, hu]; rfl
    · have hlt : i * sz + j < m * sz := by
        have : (i + 1) * sz ≤ m * sz := Nat.mul_le_mul_right _ hi
        rw [Nat.add_mul, Nat.one_mul] at this
        omega
      obtain ⟨u, hu, hk⟩ := hcell i hi j hj
      refine ⟨u, ?_, hk⟩
      simp only [List.getElem?_map, List.getElem?_range hlt, Option.map_some]
      rw [← Nat.add_assoc, hu]; rfl
  obtain ⟨news, hnl, hnc, hnk⟩ := hnew
  have hone' : ∀ u ∈ news, u.oneCell' = true := by
    intro u hu
    obtain ⟨k, hk, rfl⟩ := List.getElem_of_mem hu
    rw [hnl] at hk
    have hq : k / sz < m := Nat.div_lt_of_lt_mul (by rw [Nat.mul_comm]; exact hk)
    obtain ⟨u, hu', hok⟩ := hnk (k / sz) hq (k % sz) (Nat.mod_lt _ hpos)
    have : k / sz * sz + k % sz = k := by rw [Nat.mul_comm, Nat.div_add_mod]
    rw [this] at hu'
    have e : news[k] = u := by rw [List.getElem?_eq_getElem (by omega)] at hu'; simpa using hu'
    rw [e]
    exact AV.one_cells (hone _ hq _ (Nat.mod_lt _ hpos)) hok
  obtain ⟨v', w', hrun, hown', hgrow, _⟩ := run_append_own (P := P) w 0 t ty e i0 z sz bytes ht.und hi hz hsz hbt hzs hpos (ν r) n xs hown ⟨b, o, none⟩ m c news hnl hnc hone' hlen hby (Nat.zero_le _)
  have hform : ν r = .slice none 0 0 ∨ ∃ b m c, ν r = .slice (some ⟨b, 0, none⟩) m c := by
    rcases hrow with ⟨h1, _⟩ | ⟨b, cap, arr, h1, _⟩
    · exact .inl h1
    · exact .inr ⟨b, _, cap, h1⟩
  rw [ownBlock_blk hform] at hgrow
  refine wp_value (w' := w') (v := v') ?_ ⟨v', Z, updV ν r v', rfl, ?_, (if_pos rfl : updV ν r v' r = v').symm⟩
  · simp only [execOp, resolve, invoke, builtin, Sem.run_bind, Sem.run_pure, Result.andThen_ok, List.map_toArray, List.map_cons, List.map_nil, hvx, hvy, hrun]
  · -- where the new row lies
    have hblk : ∀ b', blkOf v' = some b' → blkOf (ν r) = some b' ∨ w.heap.size ≤ b' := by
      intro b' hb'
      rcases append_block (P := P) ht.und hi hz hsz hown hnl hnc hone' hm hlen (by rw [hbt]; exact hby) hrun with h4 | h4
      · exact .inl (h4.symm.trans hb')
      · rw [h4] at hb'; cases hb'; exact .inr (Nat.le_refl _)
    refine hs.reRow hr hp v' _ hgrow hblk (fun hav => ?_)
    refine row_of_owns hown' (fun b' hb' => ?_) (fun i hi j hj => ?_)
    · rcases hblk b' hb' with h4 | h4
      · exact ⟨(Res.blk_lt hrow h4).2.2, (Res.blk_lt hrow h4).2.1⟩
      · refine ⟨fun hk => ?_, fun hk => ?_⟩
        · have := hs.base.keepLt b' hk; have := hs.base.size; omega
        · have := hs.base.zLt b' hk; omega
    · unfold rowApp
      by_cases hin : i < n
      · rw [if_pos hin]
        obtain ⟨u, hu, hk⟩ := hxs i hin j hj
        refine ⟨u, ?_, hav _ _ hk⟩
        rw [List.getElem?_append_left (List.getElem?_eq_some_iff.1 hu).1]
        exact hu
      · rw [if_neg hin]
        obtain ⟨u, hu, hk⟩ := hnk (i - n) (by omega) j hj
        refine ⟨u, ?_, hav _ _ hk⟩
        have hxl : xs.length = n * sz := hown.1
        have hidx : i * sz + j = n * sz + ((i - n) * sz + j) := by
          have : i = n + (i - n) := by omega
          conv => lhs; rw [this, Nat.add_mul]
          omega
        rw [List.getElem?_append_right (by omega), hxl, hidx, Nat.add_sub_cancel_left]
        exact hu
end
end Go.Vc
namespace Go.Vc
open Go Go.RowKit

/-! ### Rows: more -/
section
variable {P : Program} {E : Env} {T T' : Tab} {O O' : Own} {o : Oper} {d : Option Tmp} {ty : TypeId} {pos : String} {af : Array Edge} {g : Option (Nat × Bool)}

theorem Ent.refl (T : Tab) (O : Own) : Ent T O T O := fun _ _ _ h => h
theorem Ent.trans {T'' : Tab} {O'' : Own} (h : Ent T O T' O') (k : Ent T' O' T'' O'') : Ent T O T'' O'' := fun E a w hs => k E a w (h E a w hs)
theorem lsq_more {ops : Array Oper} {Q : Exit → Act → World → Prop} {l : List Oper} (h : Ent T O T' O') (hl : LSQ P E ops Q l T' O') : LSQ P E ops Q l T O := ⟨fun a w hs => hl.sq a w (h E a w hs)⟩
/-- A resource is let go. -/
def Own.drop (r : Nat) : Own → Own
  | [] => []
  | (k, x) :: O => match Nat.beq k r with | true => Own.drop r O | false => (k, x) :: Own.drop r O

theorem Own.look_drop (r : Nat) : ∀ (O : Own) (k : Nat), look (Own.drop r O) k = if k = r then none else look O k
  | [], k => by simp [Own.drop, look]
  | (q, x) :: O, k => by
    unfold Own.drop
    by_cases hq : q = r
    · subst hq
      simp only [Nat.beq_refl, Own.look_drop q O k]
      by_cases hk : k = q
      · simp [hk]
      · rw [if_neg hk, if_neg hk, look_cons_ne _ _ (fun e => hk e.symm)]
    · have : Nat.beq q r = false := by
        cases hb : Nat.beq q r with
        | false => rfl
        | true => exact absurd (Nat.eq_of_beq_eq_true hb) hq
      simp only [this]
      by_cases hk : q = k
      · subst hk; simp [look, hq]
      · rw [look_cons_ne _ _ hk, look_cons_ne _ _ hk, Own.look_drop r O k]

/-- A nil slice variable becomes a row of the call's own. -/
theorem ent_row {dd : Nat} (r ety sz : Nat) (f : Nat → Nat → AV) (hn : T.get dd = .av (.val (.slice none 0 0))) (hf : freshB r T O = true) (hp : Nat.blt r 1000 = true := by first | rfl | assumption) : Ent T O ((dd, .osl r) :: T) ((r, .row ety sz 0 f) :: O) := by
  rintro E a w ⟨Z, ν, h⟩
  obtain ⟨f1, f2⟩ := fresh_kill hf
  have hk := h.kill r (.slice none 0 0) hp
  have hk' := hk.addRes r (.row ety sz 0 f) (.inl ⟨if_pos rfl, rfl⟩) (fun b hb => by rw [show updV ν r (.slice none 0 0) r = .slice none 0 0 from if_pos rfl] at hb; simp [blkOf] at hb)
  refine ⟨Z, updV ν r (.slice none 0 0), hk'.defers, hk'.tsize, hk'.cst, hk'.pin, hk'.base, ?_, fun d => ?_⟩
  · have hO : ∀ k, look ((r, Res.row ety sz 0 f) :: O) k = look ((r, Res.row ety sz 0 f) :: Own.kill r O) k := fun k => by
      by_cases hkr : r = k
      · subst hkr; rw [look_cons_eq, look_cons_eq]
      · rw [look_cons_ne _ _ hkr, look_cons_ne _ _ hkr, f2]
    exact ⟨fun k y hy => hk'.own.each k y (by rw [← hO]; exact hy), fun k k' hne e1 e2 => hk'.own.apart k k' hne (by rw [← hO]; exact e1) (by rw [← hO]; exact e2)⟩
  · by_cases hd : dd = d
    · subst hd
      rw [Tab.get_cons_eq]
      have := h.slot dd
      rw [hn] at this
      have hv : a.tmps.getD dd undef = .slice none 0 0 := this
      show a.tmps.getD dd undef = updV ν r _ r
      rw [hv]; exact (if_pos rfl).symm
    · rw [Tab.get_cons_ne _ _ hd, ← f1]
      exact hk'.slot d

/-- A row is frozen: from now on it is memory that stands. -/
def SV.frz (r : Nat) (τ : AV) : SV → SV
  | .osl s => match Nat.beq s r with | true => .av τ | false => .osl s
  | .oel s sz i j => match Nat.beq s r with | true => .av .any | false => .oel s sz i j
  | .osx s sz lo n => match Nat.beq s r with | true => .av .any | false => .osx s sz lo n
  | .own s o => match Nat.beq s r with | true => .av .any | false => .own s o
  | .clo k cs => match cs.any (CV.mentions r) with | true => .av .any | false => .clo k cs
  | .tupR s ρs => match Nat.beq s r with | true => .av .any | false => .tupR s ρs
  | .agg cs => match cs.any (CV.mentions r) with | true => .av .any | false => .agg cs
  | .av σ => .av σ
def Tab.frz (r : Nat) (τ : AV) (T : Tab) : Tab := T.map fun p => (p.1, p.2.frz r τ)

theorem Tab.get_frz (T : Tab) (r : Nat) (τ : AV) (d : Nat) : (T.frz r τ).get d = (T.get d).frz r τ := by
  unfold Tab.get Tab.frz
  rw [look_map]
  cases look T d with
  | none => rfl
  | some s => rfl

theorem sl_of_row {E : Env} {Z Z' : Zone} {ν : Vals} {w : World} {v : Value} {ety sz n : Nat} {f : Nat → Nat → AV} (h : Res.ok E Z ν w v (.row ety sz n f)) (hZ : ∀ k, Z k → Z' k) (hb : ∀ b, blkOf v = some b → Z' b) : (AV.sl n sz f).ok Z' w v := by
  rcases h with ⟨rfl, rfl⟩ | ⟨b, cap, arr, rfl, _, _, h4, h5, h6, h7, h8⟩
  · exact ⟨none, 0, rfl, Nat.le_refl _, Nat.zero_le _, fun hn => absurd hn (Nat.lt_irrefl _)⟩
  · refine ⟨_, cap, rfl, h5, h6, fun _ => ⟨b, 0, rfl, fun _ => hb b rfl, (Array.getElem?_eq_some_iff.1 h4).1, fun i hi j hj => ?_⟩⟩
    obtain ⟨u, hu, hk⟩ := h8 i hi j hj
    exact ⟨u, by rw [Nat.zero_add, cell_of_row w b _ arr ety _ h4]; exact hu, AV.ok_mono hZ (Nat.le_refl _) (fun _ _ _ => rfl) _ _ hk⟩

/-- The state with one of its rows frozen. -/
theorem SatZ.freeze {Z : Zone} {ν : Vals} {a : Act} {w : World} {r ety sz n : Nat} {f : Nat → Nat → AV} (h : SatZ E Z ν T O a w) (hr : look O r = some (.row ety sz n f)) :
    SatZ E (fun k => Z k ∨ blkOf (ν r) = some k) ν (T.frz r (.sl n sz f)) (Own.drop r O) a w := by
  have hrow := h.own.each r _ hr
  have hlt : ∀ b, blkOf (ν r) = some b → b < w.heap.size ∧ ¬ Z b ∧ ¬ E.keep b := fun b hb => Res.blk_lt hrow hb
  have hav : ∀ (τ : AV) v, τ.ok Z w v → τ.ok (fun k => Z k ∨ blkOf (ν r) = some k) w v := AV.ok_mono (fun _ h => .inl h) (Nat.le_refl _) (fun _ _ _ => rfl)
  have hsv : ∀ (s : SV) v, s.ok Z ν w v → s.ok (fun k => Z k ∨ blkOf (ν r) = some k) ν w v := fun s v hs => SV.ok_mono (fun _ h => .inl h) (Nat.le_refl _) (fun _ _ _ => rfl) s v (fun _ _ => rfl) hs
  refine ⟨h.defers, h.tsize, h.cst, h.pin, ⟨h.base.os, h.base.tape, h.base.output, h.base.size, h.base.keepLt, h.base.kept, fun k hk => ?_, fun k hk => .inl (h.base.z0 k hk), fun k hk => ?_⟩, ⟨fun k x hx => ?_, fun k k' hne h1 h2 => ?_⟩, fun d => ?_⟩
  · rcases hk with hk | hk
    · exact h.base.zLt k hk
    · exact (hlt k hk).1
  · rcases hk with hk | hk
    · exact h.base.zNew k hk
    · exact .inr (hlt k hk).2.2
  · rw [Own.look_drop] at hx
    by_cases hkr : k = r
    · rw [if_pos hkr] at hx; cases hx
    · rw [if_neg hkr] at hx
      have h3 := h.own.each k x hx
      have hnz : ∀ b, blkOf (ν k) = some b → ¬ (Z b ∨ blkOf (ν r) = some b) := fun b hb hz => by
        rcases hz with hz | hz
        · exact (Res.blk_lt h3 hb).2.1 hz
        · exact h.own.apart r k (fun e => hkr e.symm) (by rw [hr]; simp) (by rw [hx]; simp) b hz hb
      cases x with
      | cells cs =>
        obtain ⟨b', ty', arr, e1, e2, e3, e4, e5, e6⟩ := h3
        exact ⟨b', ty', arr, e1, e2, hnz b' (by rw [e1]; rfl), e4, e5, fun i s hs => let ⟨u, hu, hk⟩ := e6 i s hs; ⟨u, hu, hsv _ _ hk⟩⟩
      | row ty' sz' n' f' =>
        rcases h3 with h4 | ⟨b', cap, arr, e1, e2, e3, e4, e5, e6, e7, e8⟩
        · exact .inl h4
        · exact .inr ⟨b', cap, arr, e1, e2, hnz b' (by rw [e1]; rfl), e4, e5, e6, e7, fun i hi j hj => let ⟨u, hu, hk⟩ := e8 i hi j hj; ⟨u, hu, hav _ _ hk⟩⟩
      | obj φ hφ =>
        obtain ⟨b', ob, h1, h2, h4, h5, h6⟩ := h3
        exact ⟨b', ob, h1, h2, hnz b' h1, h5, hav (hφ.av ob) _ h6⟩
  · have e1 : look O k ≠ none := by
      rw [Own.look_drop] at h1
      by_cases hkr : k = r
      · rw [if_pos hkr] at h1; exact absurd rfl h1
      · rw [if_neg hkr] at h1; exact h1
    have e2 : look O k' ≠ none := by
      rw [Own.look_drop] at h2
      by_cases hkr : k' = r
      · rw [if_pos hkr] at h2; exact absurd rfl h2
      · rw [if_neg hkr] at h2; exact h2
    exact h.own.apart k k' hne e1 e2
  · rw [Tab.get_frz]
    have hs := h.slot d
    generalize T.get d = s at hs
    cases s with
    | av σ => exact hav _ _ hs
    | osl k =>
      by_cases hkr : k = r
      · subst hkr
        have : a.tmps.getD d undef = ν k := hs
        rw [show SV.frz k (.sl n sz f) (.osl k) = .av (.sl n sz f) by simp [SV.frz], this]
        exact sl_of_row hrow (fun _ hz => .inl hz) (fun b hb => .inr hb)
      · have hb : Nat.beq k r = false := by
          cases hb : Nat.beq k r with
          | false => rfl
          | true => exact absurd (Nat.eq_of_beq_eq_true hb) hkr
        rw [show SV.frz r (.sl n sz f) (.osl k) = .osl k by simp [SV.frz, hb]]
        exact hsv _ _ hs
    | oel k sz' i j =>
      simp only [SV.frz]
      split
      · exact trivial
      · exact hsv _ _ hs
    | osx k sz' lo n' =>
      simp only [SV.frz]
      split
      · exact trivial
      · exact hsv _ _ hs
    | own k off =>
      simp only [SV.frz]
      split
      · exact trivial
      · exact hsv _ _ hs
    | clo k cs =>
      simp only [SV.frz]
      split
      · exact trivial
      · exact hsv _ _ hs
    | tupR k ρs =>
      simp only [SV.frz]
      split
      · exact trivial
      · exact hsv _ _ hs
    | agg cs =>
      simp only [SV.frz]
      split
      · exact trivial
      · exact hsv _ _ hs

theorem ent_freeze (r : Nat) {ety sz n : Nat} {f : Nat → Nat → AV} (hr : look O r = some (.row ety sz n f)) : Ent T O (T.frz r (.sl n sz f)) (Own.drop r O) :=
  fun _ _ _ ⟨_, _, h⟩ => ⟨_, _, h.freeze hr⟩

/-- s[:h] of a row of the call's own. -/
theorem v_cut {t e : TypeId} {x y : Operand} {r n sz ety h : Nat} {f : Nat → Nat → AV} {q : IntKind} {i : Int} [ht : SlTy P t e sz] (hx : T.ev x = .osl r) (hr : look O r = some (.row ety sz n f)) (hy : T.ev y = .av (.val (.int q i))) (hi : i = ↑h) (hh : h ≤ n) (hp : Nat.blt r 1000 = true := by first | rfl | assumption) :
    VStep P E ⟨d, .slice t x none (some y) none, ty, pos, af, g⟩ T O (T.kill r) ((r, .row ety sz h f) :: Own.kill r O) (.osl r) := by
  refine ⟨by intro c; simp, fun Z ν a w hs => ?_⟩
  have hvx := osl_ok hx (ev_ok hs x)
  have hvy := val_ok hy (ev_ok hs y)
  have hrow := hs.own.each r _ hr
  subst hi
  have hgr : w.grownBy w (blkOf (ν r)) := ⟨rfl, rfl, rfl, Nat.le_refl _, fun _ _ _ => rfl⟩
  rcases hrow with ⟨h1, h2⟩ | ⟨b, cap, arr, h1, h2, h3, h4, h5, h6, h7, h8⟩
  · have h0 : h = 0 := by omega
    subst h0
    refine wp_value (w' := w) (v := .slice none 0 0) ?_ ⟨_, Z, updV ν r (.slice none 0 0), rfl, hs.reRow hr hp _ _ hgr (fun b hb => by simp [blkOf] at hb) (fun _ => .inl ⟨rfl, rfl⟩), (if_pos rfl : updV ν r _ r = _).symm⟩
    simp [execOp, Instr.sliceAt, Instr.slice, hvx, h1, hvy, run_underlying ht.und, Instr.sliceBounds, Instr.sliceBound, asIntOf, ht.size w]
  · have hc : h ≤ cap := by omega
    refine wp_value (w' := w) (v := .slice (some ⟨b, 0, none⟩) h cap) ?_ ⟨_, Z, updV ν r (.slice (some ⟨b, 0, none⟩) h cap), rfl, hs.reRow hr hp _ _ hgr (fun b' hb => .inl (by rw [h1]; exact hb)) (fun _ => .inr ⟨b, cap, arr, rfl, h2, h3, h4, hc, h6, h7, fun i hi j hj => h8 i (by omega) j hj⟩), (if_pos rfl : updV ν r _ r = _).symm⟩
    simp [execOp, Instr.sliceAt, Instr.slice, hvx, h1, hvy, run_underlying ht.und, Instr.sliceBounds, Instr.sliceBound, asIntOf, ht.size w, hc, add_addr]

/-! ### A row handed to a function that only reads -/
def bAV (T : Tab) (O : Own) (x : Operand) : AV :=
  match T.ev x with
  | .av τ => τ
  | .osl r => match look O r with | some (.row _ sz n f) => .sl n sz f | _ => .any
  | _ => .any

theorem bAV_ok {Z : Zone} {ν : Vals} {a : Act} {w : World} (h : SatZ E Z ν T O a w) (x : Operand) : (bAV T O x).ok (fun k => Z k ∨ (k < w.heap.size ∧ ¬ E.keep k)) w (a.eval x) := by
  have hx := ev_ok h x
  unfold bAV
  cases hs : T.ev x with
  | av τ => rw [hs] at hx; exact AV.ok_mono (fun _ h => .inl h) (Nat.le_refl _) (fun _ _ _ => rfl) _ _ hx
  | osl r =>
    rw [hs] at hx
    have hv : a.eval x = ν r := hx
    dsimp only
    cases hl : look O r with
    | none => exact trivial
    | some y =>
      cases y with
      | cells cs => exact trivial
      | row ety sz n f =>
        dsimp only
        rw [hv]
        have hrow := h.own.each r _ hl
        exact sl_of_row hrow (fun _ h => .inl h) (fun b hb => .inr ⟨(Res.blk_lt hrow hb).1, (Res.blk_lt hrow hb).2.2⟩)
      | obj φ hφ => exact trivial
  | own r off => exact trivial
  | oel r sz i j => exact trivial
  | osx r sz lo len => exact trivial
  | clo k cs => exact trivial
  | tupR r ρs => exact trivial
  | agg cs => exact trivial

/-! ### Functions that hand back a row of their own -/
def RowPost (w w' : World) (Z' : Zone) (ety sz n : Nat) (f : Nat → Nat → AV) (v : Value) : Prop :=
  (v = .slice none 0 0 ∧ n = 0) ∨ ∃ b cap arr, v = .slice (some ⟨b, 0, none⟩) n cap ∧ w.heap.size ≤ b ∧ ¬ Z' b ∧ w'.heap[b]? = some (.cells arr ety (0, 0)) ∧ n ≤ cap ∧ cap ≤ maxLen ∧ arr.size = cap * sz ∧
    ∀ i, i < n → ∀ j, j < sz → ∃ u, arr[i * sz + j]? = some u ∧ (f i j).ok Z' w' u

/-- What is handed back: a row alone, or a row and more. -/
def rowAnd (ρs : List AV) (Z' : Zone) (w' : World) (v r : Value) : Prop := match ρs with
  | [] => r = v
  | _ => ∃ us, r = .tuple (v :: us).toArray ∧ All2 (fun τ u => AV.ok Z' w' τ u) ρs us

def RetR (w : World) (Z : Zone) (ety sz n : Nat) (f : Nat → Nat → AV) (ρs : List AV) (e : Ending) (w' : World) : Prop :=
  ∃ v r Z', e = .returned r ∧ rowAnd ρs Z' w' v r ∧ Below w.heap.size w w' ∧ (∀ k, Z k → Z' k) ∧ (∀ k, Z' k → Z k ∨ w.heap.size ≤ k) ∧ (∀ k, Z' k → k < w'.heap.size) ∧ RowPost w w' Z' ety sz n f v

structure CtrR (P : Program) (f : FuncId) (args : List AV) (ety sz n : Nat) (fr : Nat → Nat → AV) (ρs : List AV) : Prop where
  enters : Enters P f
  calls : ∀ (w : World) (Z : Zone) (vs : List Value), (∀ k, Z k → k < w.heap.size) → All2 (fun τ v => AV.ok Z w τ v) args vs → Calls P f vs.toArray w (RetR w Z ety sz n fr ρs)

/-- For whoever only reads the row. -/
theorem CtrR.ro {f : FuncId} {args : List AV} {ety sz n : Nat} {fr : Nat → Nat → AV} (h : CtrR P f args ety sz n fr []) : CtrA P f args (.sl n sz fr) := by
  refine ⟨h.enters, fun w Z vs hZ hvs => (h.calls w Z vs hZ hvs).mono ?_⟩
  rintro e w' ⟨v, r, Z', rfl, hr, hb, h1, h2, h3, h4⟩
  have hr' : r = v := hr
  subst hr'
  refine ⟨r, fun k => Z' k ∨ blkOf r = some k, rfl, hb, fun k hk => .inl (h1 k hk), fun k hk => ?_, fun k hk => ?_, ?_⟩
  · rcases hk with hk | hk
    · exact h2 k hk
    · rcases h4 with ⟨rfl, _⟩ | ⟨b, cap, arr, rfl, hge, _⟩
      · simp [blkOf] at hk
      · simp only [blkOf, Option.some.injEq] at hk; subst hk; exact .inr hge
  · rcases hk with hk | hk
    · exact h3 k hk
    · rcases h4 with ⟨rfl, _⟩ | ⟨b, cap, arr, rfl, hge, _, hh, _⟩
      · simp [blkOf] at hk
      · simp only [blkOf, Option.some.injEq] at hk; subst hk; exact (Array.getElem?_eq_some_iff.1 hh).1
  · rcases h4 with ⟨rfl, rfl⟩ | ⟨b, cap, arr, rfl, hge, hz, hh, hn, hm, hsz, hf⟩
    · exact ⟨none, 0, rfl, Nat.le_refl _, Nat.zero_le _, fun hn => absurd hn (Nat.lt_irrefl _)⟩
    · refine ⟨_, cap, rfl, hn, hm, fun _ => ⟨b, 0, rfl, fun _ => .inr rfl, (Array.getElem?_eq_some_iff.1 hh).1, fun i hi j hj => ?_⟩⟩
      obtain ⟨u, hu, hk⟩ := hf i hi j hj
      exact ⟨u, by rw [Nat.zero_add, cell_of_row w' b _ arr ety _ hh]; exact hu, AV.ok_mono (fun _ h => .inl h) (Nat.le_refl _) (fun _ _ _ => rfl) _ _ hk⟩

/-- A new row of the caller's own, out of a call. -/
theorem SatZ.calledRow {Z Z' : Zone} {ν : Vals} {a : Act} {w w' : World} {r ety sz n : Nat} {f : Nat → Nat → AV} {v : Value} (h : SatZ E Z ν T O a w) (hb : Below w.heap.size w w') (h1 : ∀ k, Z k → Z' k) (h2 : ∀ k, Z' k → Z k ∨ w.heap.size ≤ k) (h3 : ∀ k, Z' k → k < w'.heap.size)
    (hrow : RowPost w w' Z' ety sz n f v) (hp : Nat.blt r 1000 = true) : SatZ E Z' (updV ν r v) (T.kill r) ((r, .row ety sz n f) :: Own.kill r O) a w' := by
  have hk := (h.kill r v hp).called hb h1 h2 h3
  have hnk : ∀ b, w.heap.size ≤ b → ¬ E.keep b := fun b hb hk => by have := h.base.keepLt _ hk; have := h.base.size; omega
  refine hk.addRes r _ ?_ (fun b hb' r' hne hl hb2 => ?_)
  · rw [show updV ν r v r = v from if_pos rfl]
    rcases hrow with h4 | ⟨b, cap, arr, e1, e2, e3, e4, e5, e6, e7, e8⟩
    · exact .inl h4
    · exact .inr ⟨b, cap, arr, e1, hnk b e2, e3, e4, e5, e6, e7, e8⟩
  · rw [show updV ν r v r = v from if_pos rfl] at hb'
    have hge : w.heap.size ≤ b := by
      rcases hrow with ⟨rfl, _⟩ | ⟨b', cap, arr, rfl, e2, _⟩
      · simp [blkOf] at hb'
      · simp only [blkOf, Option.some.injEq] at hb'; subst hb'; exact e2
    rw [Own.look_kill, if_neg hne] at hl
    cases hlo : look O r' with
    | none => rw [hlo] at hl; simp at hl
    | some y =>
      rw [show updV ν r v r' = ν r' from if_neg hne] at hb2
      have := (Res.blk_lt (h.own.each r' y hlo) hb2).1
      omega

theorem v_call_row {f : FuncId} {xs : List Operand} {ats : Array TypeId} {τs : List AV} {ety sz n : Nat} {fr : Nat → Nat → AV} (r : Nat) (hc : CtrR P f τs ety sz n fr []) (hx : xs.map T.ev = τs.map SV.av) (hp : Nat.blt r 1000 = true := by first | rfl | assumption) :
    VStep P E ⟨d, .call ⟨.value (.func f), xs.toArray, ats⟩, ty, pos, af, g⟩ T O (T.kill r) ((r, .row ety sz n fr) :: Own.kill r O) (.osl r) := by
  refine ⟨by intro c; simp, fun Z ν a w hs => ?_⟩
  have hev := evs_ok hs hx
  refine wp_enter (f := f) (args := (xs.map a.eval).toArray) ?_ ?_
  · have hen := hc.enters (xs.map a.eval).toArray w
    simp [execOp, resolve, Deferred.ofValue, Act.eval, invoke] at hen ⊢
    exact hen
  · refine Calls.mono (hc.calls w Z _ hs.base.zLt hev) ?_
    rintro e w' ⟨v, u, Z', rfl, hr, hb, h1, h2, h3, h4⟩
    have hr' : u = v := hr
    subst hr'
    exact ⟨u, rfl, u, Z', updV ν r u, rfl, hs.calledRow hb h1 h2 h3 h4 hp, (if_pos rfl : updV ν r u r = u).symm⟩

theorem f_call_row {f : FuncId} {xs : List Operand} {ats : Array TypeId} {τs : List AV} {ety sz n : Nat} {fr : Nat → Nat → AV} (r : Nat) (hc : CtrR P f τs ety sz n fr []) (hx : xs.map T.ev = τs.map SV.av) (hf : freshB r T O = true) (hp : Nat.blt r 1000 = true := by first | rfl | assumption) :
    VStep P E ⟨d, .call ⟨.value (.func f), xs.toArray, ats⟩, ty, pos, af, g⟩ T O T ((r, .row ety sz n fr) :: O) (.osl r) := (v_call_row r hc hx hp).fresh hf
theorem ga_call_row {f : FuncId} {xs : List Operand} {ats : Array TypeId} {τs : List AV} {ety sz n : Nat} {fr : Nat → Nat → AV} (r : Nat) (hc : CtrR P f τs ety sz n fr []) (hx : xs.map T.ev = τs.map SV.av) (hp : Nat.blt r 1000 = true := by first | rfl | assumption) :
    GA P E ⟨d, .call ⟨.value (.func f), xs.toArray, ats⟩, ty, pos, af, g⟩ T O (.osl r) [] r (.row ety sz n fr) :=
  ⟨fun T' O' hT _ hf => (v_call_row r hc (by
    rw [← hx]
    refine List.map_congr_left fun x hxm => ev_same (o := ⟨d, .call ⟨.value (.func f), xs.toArray, ats⟩, ty, pos, af, g⟩) hT ?_
    simp [Op.operands, Call.operands, hxm]) hp).freshP hf, by intro c; simp⟩
end

/-! ### The end of a function that hands back a row -/
section
variable {P : Program} {fn : Func} {w : World} {Z : Zone} {N : Nat} {T : Tab} {O : Own}

theorem ctrR {P : Program} {f : FuncId} {fn : Func} {c : Code} {args : List AV} {ety sz n : Nat} {fr : Nat → Nat → AV} {ρs : List AV} (N : Nat) (hf : P.funcs[f]? = some fn) (hb : fn.body = some c) (hname : (fn.name == "runtime.NumGoroutine") = false) (hN : fn.ntmps = N) (hlen' : Nat.ble args.length N = true)
    (h : ∀ w Z, CQ P (envA N w Z) (bodyPost P fn (RetR w Z ety sz n fr ρs)) (initT 0 (args.map SV.av)) [] c) : CtrR P f args ety sz n fr ρs := by
  have hlen : args.length ≤ N := Nat.le_of_ble_eq_true hlen'
  refine ⟨fun vs w => ?_, fun w Z vs hZ hvs => ?_⟩
  · have hname' : fn.name ≠ "runtime.NumGoroutine" := by simpa using hname
    simp [callFunc, hf, hname', hb]
  · refine calls_of_wp hf hb ?_
    have hl := hvs.len
    refine wpIn_wide.1 ((h w Z).sq _ w ⟨Z, fun _ => undef, rfl, ?_, (fun _ _ h => by cases h), (fun _ _ h => by cases h), ⟨rfl, rfl, rfl, Nat.le_refl _, fun k hk => hk, fun _ _ => rfl, hZ, fun _ hk => hk, fun _ hk => .inl hk⟩, ⟨fun r x hx => by simp [look] at hx, fun r r' _ h1 => by simp [look] at h1⟩, fun d => ?_⟩)
    · simp only [Array.size_append, List.size_toArray, Array.size_replicate, hN, envA]; omega
    · rw [initT_get, if_pos (Nat.zero_le _), Nat.sub_zero]
      by_cases hd : d < args.length
      · have h1 : (args.map SV.av).getD d (.av .any) = .av args[d] := by simp [List.getD, List.getElem?_eq_getElem hd]
        rw [h1]
        obtain ⟨u, hu, hk⟩ := hvs.get d args[d] (List.getElem?_eq_getElem hd)
        have : (vs.toArray ++ Array.replicate (fn.ntmps - vs.toArray.size) undef).getD d undef = u := by
          have hlt := (List.getElem?_eq_some_iff.1 hu).1
          rw [Array.getD_eq_getD_getElem?, Array.getElem?_append_left (by simpa using hlt)]
          simp [hu]
        rw [this]; exact hk
      · have h1 : (args.map SV.av).getD d (.av .any) = .av .any := by
          rw [List.getD, List.getElem?_eq_none (by simpa using hd)]; rfl
        rw [h1]; trivial

theorem rowPost_of {Z' : Zone} {ν : Vals} {w' : World} {v : Value} {ety sz n : Nat} {f f' : Nat → Nat → AV} (h : Res.ok (envA N w Z) Z' ν w' v (.row ety sz n f)) (he : ∀ i, i < n → ∀ j, j < sz → f i j = f' i j) : RowPost w w' Z' ety sz n f' v := by
  rcases h with h | ⟨b, cap, arr, h1, h2, h3, h4, h5, h6, h7, h8⟩
  · exact .inl h
  · exact .inr ⟨b, cap, arr, h1, Nat.le_of_not_lt h2, h3, h4, h5, h6, h7, fun i hi j hj => let ⟨u, hu, hk⟩ := h8 i hi j hj; ⟨u, hu, by rw [← he i hi j hj]; exact hk⟩⟩

theorem sq_retR {t r ety sz n n' : Nat} {f f' : Nat → Nat → AV} (hr : fn.results = #[.tmp t]) (ht : T.get t = .osl r) (ho : look O r = some (.row ety sz n f)) (hn : n = n') (he : ∀ i, i < n → ∀ j, j < sz → f i j = f' i j) :
    SQ (envA N w Z) T O (bodyPost P fn (RetR w Z ety sz n' f' []) .ret) := by
  subst hn
  rintro a w' ⟨Z', ν, h⟩
  have hv := h.slot t
  rw [ht] at hv
  have hv' : a.tmps.getD t undef = ν r := hv
  refine bodyPost_ret (results_tmp hr a.tmps P w') h.defers ⟨ν r, ν r, Z', by rw [hv'], rfl, ⟨h.base.os, h.base.tape, h.base.output, h.base.size, h.base.kept⟩, h.base.z0, fun k hk => (h.base.zNew k hk).imp id (fun h => Nat.le_of_not_lt h), h.base.zLt, rowPost_of (h.own.each r _ ho) he⟩

/-- A nil slice is a row, too. -/
theorem sq_retR_nil {t ety sz : Nat} {f' : Nat → Nat → AV} {n' : Nat} (hr : fn.results = #[.tmp t]) (ht : T.get t = .av (.val (.slice none 0 0))) (hn : 0 = n') :
    SQ (envA N w Z) T O (bodyPost P fn (RetR w Z ety sz n' f' []) .ret) := by
  subst hn
  rintro a w' ⟨Z', ν, h⟩
  have hv := h.slot t
  rw [ht] at hv
  have hv' : a.tmps.getD t undef = .slice none 0 0 := hv
  refine bodyPost_ret (results_tmp hr a.tmps P w') h.defers ⟨.slice none 0 0, .slice none 0 0, Z', by rw [hv'], rfl, ⟨h.base.os, h.base.tape, h.base.output, h.base.size, h.base.kept⟩, h.base.z0, fun k hk => (h.base.zNew k hk).imp id (fun h => Nat.le_of_not_lt h), h.base.zLt, .inl ⟨rfl, rfl⟩⟩
end
end Go.Vc
namespace Go.Vc
open Go Go.RowKit
/-- A point. -/
structure Pt where
  x : Int
  y : Int
  deriving DecidableEq, Inhabited
abbrev pv (x y : Int) : AV := .val (.agg #[.int .i64 x, .int .i64 y])
def gp (l : List Pt) (i : Nat) : Pt := l.getD i default
def gi (v : List Nat) (i : Nat) : Nat := v.getD i 0
def pts (l : List Pt) : AV := .sl l.length 2 (fun i j => match j with | 0 => .val (.int .i64 (gp l i).x) | _ => .val (.int .i64 (gp l i).y))
def pf (l : List Pt) : Nat → Nat → AV := fun i j => match j with | 0 => .val (.int .i64 (gp l i).x) | _ => .val (.int .i64 (gp l i).y)
def xf (l : List Nat) : Nat → Nat → AV := fun i _ => .val (.int .i64 ((gi l i : Nat) : Int))
/-- A list of pairs of indices. -/
def gq (l : List (Nat × Nat)) (i : Nat) : Nat × Nat := l.getD i (0, 0)
/-- A list of indices. -/
def idx (l : List Nat) : AV := .sl l.length 1 (fun i _ => .val (.int .i64 ((gi l i : Nat) : Int)))
abbrev vi (n : Int) : AV := .val (.int .i64 n)
abbrev vb (b : Bool) : AV := .val (.bool b)
end Go.Vc
namespace Go.Vc
open Go Go.RowKit

section
variable {P : Program} {E : Env} {T T' : Tab} {O O' : Own} {o : Oper} {d : Option Tmp} {ty : TypeId} {pos : String} {af : Array Edge} {g : Option (Nat × Bool)}

/-! ### Equality of what is no integer -/
class EqTy (P : Program) (t : TypeId) (n : outParam Nat) : Prop where
  guard : ∀ (op : BinOp) (x y : Operand) (xs ys : Array Value) (w : World), (eqGuard op t x y (.agg xs) (.agg ys)).run P w = .ok () w
  eql : ∀ (xs ys : List Int) (w : World), xs.length = n → ys.length = n → (binOp .eql t (.agg (xs.map (Value.int .i64)).toArray) (.agg (ys.map (Value.int .i64)).toArray)).run P w = .ok (.bool (xs == ys)) w
  neq : ∀ (xs ys : List Int) (w : World), xs.length = n → ys.length = n → (binOp .neq t (.agg (xs.map (Value.int .i64)).toArray) (.agg (ys.map (Value.int .i64)).toArray)).run P w = .ok (.bool (!(xs == ys))) w

theorem g_eql {xt yt : TypeId} {x y : Operand} {n : Nat} {xs ys : List Int} [he : EqTy P xt n] (h1 : T.ev x = .av (.val (.agg (xs.map (Value.int .i64)).toArray))) (h2 : T.ev y = .av (.val (.agg (ys.map (Value.int .i64)).toArray))) (hx : xs.length = n) (hy : ys.length = n) :
    GV P E ⟨d, .binOp .eql xt x y yt, ty, pos, af, g⟩ T O (.av (.val (.bool (xs == ys)))) [] [] :=
  g_bin h1 h2 (fun w => he.guard ..) (fun w => he.eql xs ys w hx hy)
theorem g_neq {xt yt : TypeId} {x y : Operand} {n : Nat} {xs ys : List Int} [he : EqTy P xt n] (h1 : T.ev x = .av (.val (.agg (xs.map (Value.int .i64)).toArray))) (h2 : T.ev y = .av (.val (.agg (ys.map (Value.int .i64)).toArray))) (hx : xs.length = n) (hy : ys.length = n) :
    GV P E ⟨d, .binOp .neq xt x y yt, ty, pos, af, g⟩ T O (.av (.val (.bool (!(xs == ys))))) [] [] :=
  g_bin h1 h2 (fun w => he.guard ..) (fun w => he.neq xs ys w hx hy)

class BoolTy (P : Program) (t : TypeId) : Prop where
  und : P.underlying t = some .bool

/-! ### max, min, conversions -/
theorem g_max {x y : Operand} {ats : Array TypeId} {k : IntKind} {m n : Int} (h1 : T.ev x = .av (.val (.int k m))) (h2 : T.ev y = .av (.val (.int k n))) :
    GV P E ⟨d, .call ⟨.builtin .max, #[x, y], ats⟩, ty, pos, af, g⟩ T O (.av (.val (.int k (if m < n then n else m)))) [] [] :=
  gv_pure [] fun Z ν a w h _ => ⟨_, by
    have e1 := val_ok h1 (h x (by simp [Op.operands, Call.operands]))
    have e2 := val_ok h2 (h y (by simp [Op.operands, Call.operands]))
    simp [execOp, resolve, invoke, builtin, e1, e2, run_max_int2], rfl⟩
class IntTy (P : Program) (t : TypeId) (k : outParam IntKind) : Prop where
  und : P.underlying t = some (.int k)

/-! ### New rows that stand -/
theorem g_bslice {t e : TypeId} {n sz : Nat} {is : List Nat} {xs : List Operand} {vs us : List Value} {row : Nat → Nat → AV} [ht : SlTy P t e sz]
    (hb : ∀ w, (Instr.buildSlice t n (is.zip vs).toArray).run P w = .ok (.slice (some ⟨w.heap.size, 0, none⟩) n n) (w.alloc (.cells us.toArray e)))
    (hl : xs.length = is.length) (hx : xs.map T.ev = vs.map (fun v => SV.av (.val v))) (hm : Nat.ble n maxLen = true) (hrow : ∀ i, i < n → ∀ j, j < sz → ∃ u, us[i * sz + j]? = some u ∧ row i j = .val u) :
    GV P E ⟨d, .buildSlice t n (is.zip xs).toArray, ty, pos, af, g⟩ T O (.av (.sl n sz row)) [] [] := by
  refine ⟨fun T' O' hT _ => ⟨by intro c; simp, fun Z ν a w hs => ?_⟩⟩
  have hev : ∀ (is : List Nat) (xs : List Operand) (vs : List Value), xs.length = is.length → xs.map T.ev = vs.map (fun v => SV.av (.val v)) → (∀ x ∈ (is.zip xs).map (·.2), (T.ev x).ok Z ν w (a.eval x)) →
      (is.zip xs).map (fun p => (p.1, a.eval p.2)) = is.zip vs := by
    intro is
    induction is with
    | nil => intro xs vs _ _ _; simp
    | cons i is ih =>
      intro xs vs hl hx hok
      match xs, hl with
      | x :: xs, hl =>
        match vs, hx with
        | v :: vs, hx =>
          simp only [List.map_cons, List.cons.injEq] at hx
          have h0 := hok x (by simp)
          rw [hx.1] at h0
          have h0' : a.eval x = v := h0
          simp only [List.zip_cons_cons, List.map_cons, h0', ih xs vs (by simpa using hl) hx.2 (fun y hy => hok y (by simp at hy ⊢; exact .inr hy))]
  have he := hev is xs vs hl hx (fun x hx => by
    rw [← ev_same (o := ⟨d, .buildSlice t n (is.zip xs).toArray, ty, pos, af, g⟩) hT (by simpa [Op.operands] using hx)]
    exact ev_ok hs x)
  refine wp_value (w' := w.alloc (.cells us.toArray e)) (v := .slice (some ⟨w.heap.size, 0, none⟩) n n) ?_ ⟨_, _, ν, rfl, hs.allocRo _, ⟨some ⟨w.heap.size, 0, none⟩, n, rfl, Nat.le_refl _, Nat.le_of_ble_eq_true hm, fun hn => ⟨w.heap.size, 0, rfl, fun _ => .inr rfl, by simp, fun i hi j hj => ?_⟩⟩⟩
  · simp only [execOp, List.map_toArray]
    rw [show (List.map (fun (x : Nat × Operand) => match x with | (i, x) => (i, a.eval x)) (is.zip xs)) = is.zip vs from he]
    simp [hb w]
  · obtain ⟨u, hu, hr⟩ := hrow i hi j hj
    exact ⟨u, by rw [World.cell?_alloc_new, Nat.zero_add]; simpa using hu, by rw [hr]; exact rfl⟩

/-! ### make -/
theorem v_make {t e : TypeId} {x y : Operand} {n sz bytes : Nat} {q q' : IntKind} {i i' : Int} (r : Nat) [ht : SlTy P t e sz] {zs : List Value} (hzs : zs.length = sz) (he : ∃ inf z, P.info? e = some inf ∧ inf.zero = some z ∧ inf.size = sz ∧ inf.bytes = bytes ∧ z.cells = zs.toArray ∧ 0 < sz)
    (hx : T.ev x = .av (.val (.int .i64 i))) (hy : T.ev y = .av (.val (.int .i64 i'))) (hi : i = ↑n) (hi' : i' = ↑n) (hn : n ≤ maxLen) (hby : n * bytes ≤ 140737488355328) (hp : Nat.blt r 1000 = true := by first | rfl | assumption) :
    VStep P E ⟨d, .makeSlice t x y, ty, pos, af, g⟩ T O (T.kill r) ((r, .row e sz n (fun _ j => .val (zs.getD j undef))) :: Own.kill r O) (.osl r) := by
  refine ⟨by intro c; simp, fun Z ν a w hs => ?_⟩
  have hvx := val_ok hx (ev_ok hs x)
  have hvy := val_ok hy (ev_ok hs y)
  subst hi hi'
  obtain ⟨inf, z, h1, h2, h3, h4, h5, h6⟩ := he
  have hb : (inf.bytes : Int) * (n : Int) ≤ 281474976710656 := by
    have h : ((n * bytes : Nat) : Int) ≤ 140737488355328 := by omega
    rw [Int.natCast_mul, Int.mul_comm] at h
    rw [h4]; omega
  have hrun := run_make (P := P) w t e inf z ht.und h1 h2 .i64 .i64 n n (by omega) (Int.le_refl _) hb (by simp only [maxLen] at hn; omega)
  simp only [Int.toNat_natCast] at hrun
  refine wp_value (w' := _) (v := .slice (some ⟨w.heap.size, 0, none⟩) n n) (by simp only [execOp, hvx, hvy, Sem.run_bind, hrun, Result.andThen_ok, Sem.run_pure]; rfl)
    ⟨_, Z, updV ν r (.slice (some ⟨w.heap.size, 0, none⟩) n n), rfl, hs.newRes r hp _ _ _ rfl (fun _ hk hnz => .inr ⟨w.heap.size, n, _, rfl, hk, hnz, heap_alloc_new _ _, Nat.le_refl _, hn, by simp [madeCells, h3], fun i hi j hj => ?_⟩), (if_pos rfl : updV ν r _ r = _).symm⟩
  have hlt : i * sz + j < n * sz := by
    have : (i + 1) * sz ≤ n * sz := Nat.mul_le_mul_right _ hi
    rw [Nat.add_mul, Nat.one_mul] at this
    omega
  refine ⟨zs.getD j undef, ?_, rfl⟩
  have hm : (i * sz + j) % zs.length = j := by rw [hzs, Nat.mul_comm, Nat.mul_add_mod, Nat.mod_eq_of_lt hj]
  have hj' : j < zs.length := by omega
  simp only [madeCells, h3, h5]
  rw [Array.getElem?_map, Array.getElem?_eq_getElem (by simpa using hlt)]
  simp only [Array.getElem_range, Option.map_some, List.size_toArray, hm, List.getD, List.getElem?_eq_getElem hj', Option.getD_some]
  rw [getElem!_pos zs.toArray j (by simpa using hj')]
  simp

/-! ### Values taken apart -/
theorem g_fieldv {s : TypeId} {x : Operand} {i : Nat} {us : List Value} {v : Value} (hx : T.ev x = .av (.val (.agg us.toArray))) (hf : ∀ w, (Instr.field s (.agg us.toArray) i).run P w = .ok v w) :
    GV P E ⟨d, .field s x i, ty, pos, af, g⟩ T O (.av (.val v)) [] [] :=
  gv_pure [] fun Z ν a w h _ => ⟨v, by
    have e1 := val_ok hx (h x (by simp [Op.operands]))
    simp [execOp, e1, hf w], rfl⟩

theorem g_indexv {t : TypeId} {x y : Operand} {us : List Value} {i v : Value} (hx : T.ev x = .av (.val (.agg us.toArray))) (hy : T.ev y = .av (.val i)) (hf : ∀ w, (Instr.index t (.agg us.toArray) i).run P w = .ok v w) :
    GV P E ⟨d, .index t x y, ty, pos, af, g⟩ T O (.av (.val v)) [] [] :=
  gv_pure [] fun Z ν a w h _ => ⟨v, by
    have e1 := val_ok hx (h x (by simp [Op.operands]))
    have e2 := val_ok hy (h y (by simp [Op.operands]))
    simp [execOp, e1, e2, hf w], rfl⟩

theorem g_extractR0 {x : Operand} {r : Nat} {ρs : List AV} (hx : T.ev x = .tupR r ρs) : GV P E ⟨d, .extract x 0, ty, pos, af, g⟩ T O (.osl r) [] [] :=
  gv_pure [] fun Z ν a w h _ => by
    have := h x (by simp [Op.operands])
    rw [hx] at this
    obtain ⟨us, he, hc⟩ := this
    exact ⟨ν r, by simp [execOp, he, Instr.extract], rfl⟩
theorem g_extractR {x : Operand} {r i : Nat} {ρs : List AV} {τ : AV} (hx : T.ev x = .tupR r ρs) (hi : ρs[i]? = some τ) : GV P E ⟨d, .extract x (i + 1), ty, pos, af, g⟩ T O (.av τ) [] [] :=
  gv_pure [] fun Z ν a w h _ => by
    have := h x (by simp [Op.operands])
    rw [hx] at this
    obtain ⟨us, he, hc⟩ := this
    obtain ⟨u, hu, hk⟩ := hc.get i τ hi
    exact ⟨u, by simp [execOp, he, Instr.extract, hu], hk⟩

theorem v_call_rowN {f : FuncId} {xs : List Operand} {ats : Array TypeId} {τs : List AV} {ety sz n : Nat} {fr : Nat → Nat → AV} {ρ : AV} {ρs : List AV} (r : Nat) (hc : CtrR P f τs ety sz n fr (ρ :: ρs)) (hx : xs.map T.ev = τs.map SV.av) (hp : Nat.blt r 1000 = true := by first | rfl | assumption) :
    VStep P E ⟨d, .call ⟨.value (.func f), xs.toArray, ats⟩, ty, pos, af, g⟩ T O (T.kill r) ((r, .row ety sz n fr) :: Own.kill r O) (.tupR r (ρ :: ρs)) := by
  refine ⟨by intro c; simp, fun Z ν a w hs => ?_⟩
  have hev := evs_ok hs hx
  refine wp_enter (f := f) (args := (xs.map a.eval).toArray) ?_ ?_
  · have hen := hc.enters (xs.map a.eval).toArray w
    simp [execOp, resolve, Deferred.ofValue, Act.eval, invoke] at hen ⊢
    exact hen
  · refine Calls.mono (hc.calls w Z _ hs.base.zLt hev) ?_
    rintro e w' ⟨v, u, Z', rfl, ⟨us, rfl, hus⟩, hb, h1, h2, h3, h4⟩
    exact ⟨_, rfl, _, Z', updV ν r v, rfl, hs.calledRow hb h1 h2 h3 h4 hp, us, by rw [show updV ν r v r = v from if_pos rfl], hus⟩

theorem f_call_rowN {f : FuncId} {xs : List Operand} {ats : Array TypeId} {τs : List AV} {ety sz n : Nat} {fr : Nat → Nat → AV} {ρ : AV} {ρs : List AV} (r : Nat) (hc : CtrR P f τs ety sz n fr (ρ :: ρs)) (hx : xs.map T.ev = τs.map SV.av) (hf : freshB r T O = true) (hp : Nat.blt r 1000 = true := by first | rfl | assumption) :
    VStep P E ⟨d, .call ⟨.value (.func f), xs.toArray, ats⟩, ty, pos, af, g⟩ T O T ((r, .row ety sz n fr) :: O) (.tupR r (ρ :: ρs)) := (v_call_rowN r hc hx hp).fresh hf
end
end Go.Vc
namespace Go.Vc
open Go Go.RowKit

section
variable {P : Program} {E : Env} {T T' : Tab} {O O' : Own} {o : Oper} {d : Option Tmp} {ty : TypeId} {pos : String} {af : Array Edge} {g : Option (Nat × Bool)}

/-- A row was turned by a call; the zone may have grown. -/
theorem SatZ.turned {Z Z' : Zone} {ν ν' : Vals} {T1 : Tab} {O1 : Own} {a : Act} {w w' : World} {r : Nat} {x : Res} (h : SatZ E Z ν T O a w) (hk : SatZ E Z ν' T1 O1 a w) (hr : look O r = some x) (x' : Res)
    (hO1 : ∀ k, k ≠ r → look O1 k ≠ none → look O k ≠ none) (hne : ∀ k, k ≠ r → ν' k = ν k) (hg : w.grownBy w' (blkOf (ν r)))
    (h1 : ∀ k, Z k → Z' k) (h2 : ∀ k, Z' k → Z k ∨ w.heap.size ≤ k ∨ blkOf (ν r) = some k) (h3 : ∀ k, Z' k → k < w'.heap.size)
    (hblk : ∀ b, blkOf (ν' r) = some b → blkOf (ν r) = some b ∨ w.heap.size ≤ b)
    (hx : x'.ok E Z' ν' w' (ν' r)) : SatZ E Z' ν' T1 ((r, x') :: O1) a w' := by
  have hbz : ∀ k, Z k → some k ≠ blkOf (ν r) := fun k hk e => (Res.blk_lt (h.own.each r x hr) e.symm).2.1 hk
  have hbk : ∀ k, E.keep k → some k ≠ blkOf (ν r) := fun k hk e => (Res.blk_lt (h.own.each r x hr) e.symm).2.2 hk
  have hsame : ∀ k, Z k → k < w.heap.size → w'.heap[k]? = w.heap[k]? := fun k hk hlt => hg.block k hlt (hbz k hk)
  have hav : ∀ (τ : AV) v, τ.ok Z w v → τ.ok Z' w' v := AV.ok_mono h1 hg.size hsame
  have hsv : ∀ (s : SV) v, s.ok Z ν' w v → s.ok Z' ν' w' v := fun s v hs => SV.ok_mono h1 hg.size hsame s v (fun _ _ => rfl) hs
  have hl : ∀ k, k ≠ r → look ((r, x') :: O1) k = look O1 k := fun k hk => look_cons_ne x' _ (fun e => hk e.symm)
  have hnz : ∀ b k, k ≠ r → look O k ≠ none → blkOf (ν k) = some b → ¬ Z' b := by
    intro b k hkr hOk hb hz
    obtain ⟨y, hy⟩ := Option.ne_none_iff_exists'.1 hOk
    have hbl := Res.blk_lt (h.own.each k y hy) hb
    rcases h2 b hz with h4 | h4 | h4
    · exact hbl.2.1 h4
    · omega
    · exact h.own.apart r k (fun e => hkr e.symm) (by rw [hr]; simp) hOk b h4 hb
  refine ⟨h.defers, h.tsize, h.cst, hk.pin, ⟨hg.os.trans h.base.os, hg.tape.trans h.base.tape, hg.output.trans h.base.output, Nat.le_trans h.base.size hg.size, h.base.keepLt, fun k hk' => ?_, h3, fun k hk => h1 k (h.base.z0 k hk), fun k hk' => ?_⟩,
    ⟨fun k y hy => ?_, fun k k' hkk e1 e2 b hb => ?_⟩, fun d => hsv _ _ (hk.slot d)⟩
  · rw [hg.block k (Nat.lt_of_lt_of_le (h.base.keepLt k hk') h.base.size) (hbk k hk'), h.base.kept k hk']
  · rcases h2 k hk' with h4 | h4 | h4
    · exact h.base.zNew k h4
    · exact .inr fun hk => by have := h.base.keepLt k hk; have := h.base.size; omega
    · exact .inr (Res.blk_lt (h.own.each r x hr) h4).2.2
  · by_cases hkr : k = r
    · subst hkr
      rw [look_cons_eq] at hy
      cases hy
      exact hx
    · rw [hl k hkr] at hy
      have h3 := hk.own.each k y hy
      have hOk := hO1 k hkr (by rw [hy]; simp)
      have hbne : ∀ b, blkOf (ν k) = some b → some b ≠ blkOf (ν r) := fun b hb e => h.own.apart r k (fun e => hkr e.symm) (by rw [hr]; simp) hOk b e.symm hb
      have hnz' := fun b => hnz b k hkr hOk
      rw [← hne k hkr] at hbne hnz'
      cases y with
      | cells cs =>
        obtain ⟨b', ty', arr, e1, e2, e3, e4, e5, e6⟩ := h3
        refine ⟨b', ty', arr, e1, e2, hnz' b' (by rw [e1]; rfl), ?_, e5, fun i s hs => let ⟨u, hu, hk⟩ := e6 i s hs; ⟨u, hu, hsv _ _ hk⟩⟩
        rw [hg.block b' (Array.getElem?_eq_some_iff.1 e4).1 (hbne b' (by rw [e1]; rfl))]; exact e4
      | row ty' sz n f =>
        rcases h3 with h1 | ⟨b', cap, arr, e1, e2, e3, e4, e5, e6, e7, e8⟩
        · exact .inl h1
        · refine .inr ⟨b', cap, arr, e1, e2, hnz' b' (by rw [e1]; rfl), ?_, e5, e6, e7, fun i hi j hj => let ⟨u, hu, hk⟩ := e8 i hi j hj; ⟨u, hu, hav _ _ hk⟩⟩
          rw [hg.block b' (Array.getElem?_eq_some_iff.1 e4).1 (hbne b' (by rw [e1]; rfl))]; exact e4
      | obj φ hφ =>
        obtain ⟨b', ob, e1, e2, e3, e4, e5⟩ := h3
        refine ⟨b', ob, e1, e2, hnz' b' e1, ?_, hav (hφ.av ob) _ e5⟩
        rw [hg.block b' (Array.getElem?_eq_some_iff.1 e4).1 (hbne b' e1)]; exact e4
  · have old : ∀ k, k ≠ r → look ((r, x') :: O1) k ≠ none → look O k ≠ none := fun k hkr hn => hO1 k hkr (by rw [← hl k hkr]; exact hn)
    by_cases hkr : k = r
    · subst hkr
      rw [hne k' (fun e => hkk e.symm)]
      intro hb'
      have hOk := old k' (fun e => hkk e.symm) e2
      rcases hblk b hb with h4 | h4
      · exact h.own.apart k k' hkk (by rw [hr]; simp) hOk b h4 hb'
      · obtain ⟨y, hy⟩ := Option.ne_none_iff_exists'.1 hOk
        have := (Res.blk_lt (h.own.each k' y hy) hb').1
        omega
    · rw [hne k hkr] at hb
      have hOk := old k hkr e1
      by_cases hkr' : k' = r
      · subst hkr'
        intro hb'
        rcases hblk b hb' with h4 | h4
        · exact h.own.apart k' k (fun e => hkr e.symm) (by rw [hr]; simp) hOk b h4 hb
        · obtain ⟨y, hy⟩ := Option.ne_none_iff_exists'.1 hOk
          have := (Res.blk_lt (h.own.each k y hy) hb).1
          omega
      · rw [hne k' hkr']
        exact h.own.apart k k' hkk hOk (old k' hkr' e2) b hb

/-! ### Functions that write a row handed to them -/
/-- A row, by itself. -/
def RowAt (w : World) (Z : Zone) (ety sz n : Nat) (f : Nat → Nat → AV) (v : Value) : Prop :=
  (v = .slice none 0 0 ∧ n = 0) ∨ ∃ b cap arr, v = .slice (some ⟨b, 0, none⟩) n cap ∧ ¬ Z b ∧ w.heap[b]? = some (.cells arr ety (0, 0)) ∧ n ≤ cap ∧ cap ≤ maxLen ∧ arr.size = cap * sz ∧
    ∀ i, i < n → ∀ j, j < sz → ∃ u, arr[i * sz + j]? = some u ∧ (f i j).ok Z w u

/-- back: the row that is handed back is the turned one; else it is turned in place. -/
def RetW (w : World) (Z : Zone) (v : Value) (ety sz n : Nat) (f : Nat → Nat → AV) (back : Bool) (e : Ending) (w' : World) : Prop :=
  ∃ u v' Z', e = .returned u ∧ (match back with | true => u = v' | false => v' = v) ∧ w.grownBy w' (blkOf v) ∧ (∀ k, Z k → Z' k) ∧ (∀ k, Z' k → Z k ∨ w.heap.size ≤ k ∨ blkOf v = some k) ∧ (∀ k, Z' k → k < w'.heap.size) ∧
    (∀ b, blkOf v' = some b → blkOf v = some b ∨ w.heap.size ≤ b) ∧ RowAt w' Z' ety sz n f v'

structure CtrW (P : Program) (f : FuncId) (args : List AV) (ety sz n : Nat) (fr : Nat → Nat → AV) (n' : Nat) (fr' : Nat → Nat → AV) (back : Bool) : Prop where
  enters : Enters P f
  calls : ∀ (w : World) (Z : Zone) (v : Value) (vs : List Value), (∀ k, Z k → k < w.heap.size) → All2 (fun τ v => AV.ok Z w τ v) args vs → RowAt w Z ety sz n fr v → Calls P f (v :: vs).toArray w (RetW w Z v ety sz n' fr' back)

theorem rowAt_of {Z : Zone} {ν : Vals} {w : World} {v : Value} {ety sz n : Nat} {f : Nat → Nat → AV} (h : Res.ok E Z ν w v (.row ety sz n f)) : RowAt w Z ety sz n f v := by
  rcases h with h | ⟨b, cap, arr, h1, h2, h3, h4, h5, h6, h7, h8⟩
  · exact .inl h
  · exact .inr ⟨b, cap, arr, h1, h3, h4, h5, h6, h7, h8⟩
theorem of_rowAt {Z : Zone} {ν : Vals} {w : World} {v : Value} {ety sz n : Nat} {f : Nat → Nat → AV} (h : RowAt w Z ety sz n f v) (hk : ∀ b, blkOf v = some b → ¬ E.keep b) : Res.ok E Z ν w v (.row ety sz n f) := by
  rcases h with h | ⟨b, cap, arr, h1, h3, h4, h5, h6, h7, h8⟩
  · exact .inl h
  · exact .inr ⟨b, cap, arr, h1, hk b (by rw [h1]; rfl), h3, h4, h5, h6, h7, h8⟩

/-- The row is turned in place. -/
theorem v_call_w {f : FuncId} {x : Operand} {xs : List Operand} {ats : Array TypeId} {τs : List AV} {ety sz n n' : Nat} {fr fr' : Nat → Nat → AV} {r : Nat} (hc : CtrW P f τs ety sz n fr n' fr' false) (hx : T.ev x = .osl r) (hr : look O r = some (.row ety sz n fr)) (hxs : xs.map T.ev = τs.map SV.av) :
    VStep P E ⟨d, .call ⟨.value (.func f), (x :: xs).toArray, ats⟩, ty, pos, af, g⟩ T O T ((r, .row ety sz n' fr') :: O) (.av .any) := by
  refine ⟨by intro c; simp, fun Z ν a w hs => ?_⟩
  have hev := evs_ok hs hxs
  have hvx := osl_ok hx (ev_ok hs x)
  have hrow := hs.own.each r _ hr
  refine wp_enter (f := f) (args := (a.eval x :: xs.map a.eval).toArray) ?_ ?_
  · have hen := hc.enters (a.eval x :: xs.map a.eval).toArray w
    simp [execOp, resolve, Deferred.ofValue, Act.eval, invoke] at hen ⊢
    exact hen
  · refine Calls.mono (hc.calls w Z _ _ hs.base.zLt hev (by rw [hvx]; exact rowAt_of hrow)) ?_
    rintro e w' ⟨u, v', Z', rfl, hb, hg, h1, h2, h3, h4, h5⟩
    have hb' : v' = a.eval x := hb
    rw [hvx] at hb' hg h2 h4
    subst hb'
    refine ⟨u, rfl, u, Z', ν, rfl, ?_, trivial⟩
    exact hs.turned hs hr _ (fun _ _ h => h) (fun _ _ => rfl) hg h1 h2 h3 (fun _ h => .inl h) (of_rowAt h5 (fun b hb => (Res.blk_lt hrow hb).2.2))

/-- The turned row is handed back. -/
theorem v_call_wb {f : FuncId} {x : Operand} {xs : List Operand} {ats : Array TypeId} {τs : List AV} {ety sz n n' : Nat} {fr fr' : Nat → Nat → AV} {r : Nat} (hc : CtrW P f τs ety sz n fr n' fr' true) (hx : T.ev x = .osl r) (hr : look O r = some (.row ety sz n fr)) (hxs : xs.map T.ev = τs.map SV.av) (hp : Nat.blt r 1000 = true := by first | rfl | assumption) :
    VStep P E ⟨d, .call ⟨.value (.func f), (x :: xs).toArray, ats⟩, ty, pos, af, g⟩ T O (T.kill r) ((r, .row ety sz n' fr') :: Own.kill r O) (.osl r) := by
  refine ⟨by intro c; simp, fun Z ν a w hs => ?_⟩
  have hev := evs_ok hs hxs
  have hvx := osl_ok hx (ev_ok hs x)
  have hrow := hs.own.each r _ hr
  refine wp_enter (f := f) (args := (a.eval x :: xs.map a.eval).toArray) ?_ ?_
  · have hen := hc.enters (a.eval x :: xs.map a.eval).toArray w
    simp [execOp, resolve, Deferred.ofValue, Act.eval, invoke] at hen ⊢
    exact hen
  · refine Calls.mono (hc.calls w Z _ _ hs.base.zLt hev (by rw [hvx]; exact rowAt_of hrow)) ?_
    rintro e w' ⟨u, v', Z', rfl, hb, hg, h1, h2, h3, h4, h5⟩
    have hb' : u = v' := hb
    rw [hvx] at hg h2 h4
    subst hb'
    have hu : updV ν r u r = u := if_pos rfl
    refine ⟨u, rfl, u, Z', updV ν r u, rfl, ?_, hu.symm⟩
    refine hs.turned (hs.kill r u hp) hr _ (fun k hk hn => ?_) (fun k hk => if_neg hk) hg h1 h2 h3 (fun b hb => h4 b (by rw [hu] at hb; exact hb)) ?_
    · rw [Own.look_kill, if_neg hk] at hn; simpa using hn
    · rw [hu]
      refine of_rowAt h5 (fun b hb => ?_)
      rcases h4 b hb with h6 | h6
      · exact (Res.blk_lt hrow h6).2.2
      · exact fun hk => by have := hs.base.keepLt b hk; have := hs.base.size; omega

end

/-! ### Entry and end of such a function -/
section
variable {P : Program} {fn : Func} {w : World} {Z : Zone} {N : Nat} {T : Tab} {O : Own}

/-- pin: slot 0 stays what it is. -/
def envW (N : Nat) (w : World) (Z : Zone) (v : Value) (pin : Bool) : Env :=
  { N := N, keep := fun k => k < w.heap.size ∧ blkOf v ≠ some k, w0 := w, Z0 := Z, cst := match pin with | true => (fun d => match d with | 0 => some v | _ + 1 => none) | false => fun _ => none }

theorem ctrW {P : Program} {f : FuncId} {fn : Func} {c : Code} {args : List AV} {ety sz n n' : Nat} {fr fr' : Nat → Nat → AV} {back : Bool} (N : Nat) (hf : P.funcs[f]? = some fn) (hb : fn.body = some c) (hname : (fn.name == "runtime.NumGoroutine") = false) (hN : fn.ntmps = N) (hlen' : Nat.blt args.length N = true)
    (h : ∀ w Z v, CQ P (envW N w Z v (!back)) (bodyPost P fn (RetW w Z v ety sz n' fr' back)) (initT 0 (.osl 0 :: args.map SV.av)) [(0, .row ety sz n fr)] c) : CtrW P f args ety sz n fr n' fr' back := by
  have hlen : args.length < N := lt_of_blt hlen'
  refine ⟨fun vs w => ?_, fun w Z v vs hZ hvs hrow => ?_⟩
  · have hname' : fn.name ≠ "runtime.NumGoroutine" := by simpa using hname
    simp [callFunc, hf, hname', hb]
  · refine calls_of_wp hf hb ?_
    have hl := hvs.len
    have hbk : ∀ b, blkOf v = some b → ¬ Z b := by
      intro b hb
      rcases hrow with ⟨rfl, _⟩ | ⟨b', cap, arr, rfl, h3, _⟩
      · simp [blkOf] at hb
      · simp only [blkOf, Option.some.injEq] at hb; subst hb; exact h3
    refine wpIn_wide.1 ((h w Z v).sq _ w ⟨Z, fun _ => v, rfl, ?_, fun d u hd => ?_, (fun _ _ h => by cases h), ⟨rfl, rfl, rfl, Nat.le_refl _, fun k hk => hk.1, fun _ _ => rfl, hZ, fun _ hk => hk, fun _ hk => .inl hk⟩, ⟨fun r x hx => ?_, fun r r' hne h1 h2 => ?_⟩, fun d => ?_⟩)
    · simp only [Array.size_append, List.size_toArray, List.length_cons, Array.size_replicate, hN, envW]; omega
    · cases back with
      | true => cases hd
      | false =>
        match d, hd with
        | 0, hd => cases hd; rw [Array.getD_eq_getD_getElem?, Array.getElem?_append_left (by simp)]; simp
    · by_cases hr : r = 0
      · subst hr
        rw [look_cons_eq] at hx
        cases hx
        exact of_rowAt hrow (fun b hb hk => hk.2 hb)
      · rw [look_cons_ne _ _ (fun e => hr e.symm)] at hx; simp [look] at hx
    · exfalso
      have e1 : r = 0 := by
        refine Classical.byContradiction fun hr => h1 ?_
        rw [look_cons_ne _ _ (fun e => hr e.symm)]; rfl
      have e2 : r' = 0 := by
        refine Classical.byContradiction fun hr => h2 ?_
        rw [look_cons_ne _ _ (fun e => hr e.symm)]; rfl
      exact hne (e1.trans e2.symm)
    · rw [initT_get, if_pos (Nat.zero_le _), Nat.sub_zero]
      match d with
      | 0 => show _ = v; rw [Array.getD_eq_getD_getElem?, Array.getElem?_append_left (by simp)]; simp
      | d + 1 =>
        by_cases hd : d < args.length
        · have h1 : (SV.osl 0 :: args.map SV.av).getD (d + 1) (.av .any) = .av args[d] := by simp [List.getD, List.getElem?_eq_getElem hd]
          rw [h1]
          obtain ⟨u, hu, hk⟩ := hvs.get d args[d] (List.getElem?_eq_getElem hd)
          have : ((v :: vs).toArray ++ Array.replicate (fn.ntmps - (v :: vs).toArray.size) undef).getD (d + 1) undef = u := by
            have hlt := (List.getElem?_eq_some_iff.1 hu).1
            rw [Array.getD_eq_getD_getElem?, Array.getElem?_append_left (by simpa using hlt)]
            simp [hu]
          rw [this]; exact hk
        · have h1 : (SV.osl 0 :: args.map SV.av).getD (d + 1) (.av .any) = .av .any := by
            rw [List.getD, List.getElem?_eq_none (by simpa using hd)]; rfl
          rw [h1]; trivial

theorem grown_of {v : Value} {pin : Bool} {Z' : Zone} {w' : World} (h : Base (envW N w Z v pin) Z' w') : w.grownBy w' (blkOf v) :=
  ⟨h.os, h.tape, h.output, h.size, fun k hk hne => h.kept k ⟨hk, fun e => hne e.symm⟩⟩

theorem RowAt.cast {w : World} {Z : Zone} {ety sz n n' : Nat} {f f' : Nat → Nat → AV} {v : Value} (h : RowAt w Z ety sz n f v) (hn : n = n') (he : ∀ i, i < n → ∀ j, j < sz → f i j = f' i j) : RowAt w Z ety sz n' f' v := by
  subst hn
  rcases h with h | ⟨b, cap, arr, h1, h3, h4, h5, h6, h7, h8⟩
  · exact .inl h
  · exact .inr ⟨b, cap, arr, h1, h3, h4, h5, h6, h7, fun i hi j hj => let ⟨u, hu, hk⟩ := h8 i hi j hj; ⟨u, hu, by rw [← he i hi j hj]; exact hk⟩⟩

/-- The end, no result: slot 0 is still the row. -/
theorem sq_retW {v : Value} {ety sz n n' : Nat} {f f' : Nat → Nat → AV} (hr : fn.results = #[]) (ht : T.get 0 = .osl 0) (ho : look O 0 = some (.row ety sz n f)) (hn : n = n') (he : ∀ i, i < n → ∀ j, j < sz → f i j = f' i j) :
    SQ (envW N w Z v true) T O (bodyPost P fn (RetW w Z v ety sz n' f' false) .ret) := by
  rintro a w' ⟨Z', ν, h⟩
  have hv := h.slot 0
  rw [ht] at hv
  have hv' : a.tmps.getD 0 undef = ν 0 := hv
  have hp : a.tmps.getD 0 undef = v := h.cst 0 v rfl
  have hrow := rowAt_of (h.own.each 0 _ ho)
  rw [← hv', hp] at hrow
  have hres := results_all (P := P) (fn := fn) (w := w') (tmps := a.tmps) (rvs := []) (vs := []) hr trivial
  refine bodyPost_ret hres h.defers ⟨_, v, Z', rfl, rfl, grown_of h.base, h.base.z0, fun k hk => ?_, h.base.zLt, fun _ h => .inl h, hrow.cast hn he⟩
  rcases h.base.zNew k hk with h1 | h1
  · exact .inl h1
  · by_cases hlt : w.heap.size ≤ k
    · exact .inr (.inl hlt)
    · refine .inr (.inr (Classical.byContradiction fun hne => h1 ⟨by omega, hne⟩))

/-- The end: the row is handed back. -/
theorem sq_retWb {v : Value} {t r ety sz n n' : Nat} {f f' : Nat → Nat → AV} (hr : fn.results = #[.tmp t]) (ht : T.get t = .osl r) (ho : look O r = some (.row ety sz n f)) (hn : n = n') (he : ∀ i, i < n → ∀ j, j < sz → f i j = f' i j) :
    SQ (envW N w Z v false) T O (bodyPost P fn (RetW w Z v ety sz n' f' true) .ret) := by
  rintro a w' ⟨Z', ν, h⟩
  have hv := h.slot t
  rw [ht] at hv
  have hv' : a.tmps.getD t undef = ν r := hv
  have hrow := rowAt_of (h.own.each r _ ho)
  refine bodyPost_ret (results_tmp hr a.tmps P w') h.defers ⟨_, ν r, Z', rfl, hv', grown_of h.base, h.base.z0, fun k hk => ?_, h.base.zLt, fun b hb => ?_, hrow.cast hn he⟩
  · rcases h.base.zNew k hk with h1 | h1
    · exact .inl h1
    · by_cases hlt : w.heap.size ≤ k
      · exact .inr (.inl hlt)
      · refine .inr (.inr (Classical.byContradiction fun hne => h1 ⟨by omega, hne⟩))
  · have hk := (Res.blk_lt (h.own.each r _ ho) hb).2.2
    by_cases hlt : w.heap.size ≤ b
    · exact .inr hlt
    · exact .inl (Classical.byContradiction fun hne => hk ⟨by omega, hne⟩)

/-- A row is handed back, and more. -/
theorem sq_retRN {t r ety sz n n' : Nat} {f f' : Nat → Nat → AV} {rv : ResultVar} {rvs : List ResultVar} {ρ : AV} {ρs τs : List AV} (hr : fn.results = (.tmp t :: rv :: rvs).toArray) (ht : T.get t = .osl r) (ho : look O r = some (.row ety sz n f)) (hn : n = n') (he : ∀ i, i < n → ∀ j, j < sz → f i j = f' i j)
    (hts : All2 (ResV P T O) (rv :: rvs) τs) (hρ : τs = ρ :: ρs) : SQ (envA N w Z) T O (bodyPost P fn (RetR w Z ety sz n' f' (ρ :: ρs)) .ret) := by
  subst hn hρ
  rintro a w' ⟨Z', ν, h⟩
  have hv := h.slot t
  rw [ht] at hv
  have hv' : a.tmps.getD t undef = ν r := hv
  have key : ∀ (rvs : List ResultVar) (τs : List AV), All2 (ResV P T O) rvs τs → ∃ vs, All2 (fun rv v => (resOf a.tmps rv).run P w' = Result.ok v w') rvs vs ∧ All2 (fun τ v => AV.ok Z' w' τ v) τs vs := by
    intro rvs
    induction rvs with
    | nil => intro τs h; match τs, h with | [], _ => exact ⟨[], trivial, trivial⟩
    | cons rv rvs ih =>
      intro τs h'
      match τs, h' with
      | τ :: τs, h' =>
        obtain ⟨v, hv, hk⟩ := h'.1.run h
        obtain ⟨vs, h1, h2⟩ := ih τs h'.2
        exact ⟨v :: vs, ⟨hv, h1⟩, ⟨hk, h2⟩⟩
  obtain ⟨vs, h1, h2⟩ := key _ _ hts
  have hrun := results_all (P := P) (w := w') (vs := ν r :: vs) hr ⟨by show Result.ok _ _ = _; rw [hv'], h1⟩
  have hl := h1.len
  have hne : ¬ (ν r :: vs).toArray.size = 1 := by simp at hl ⊢; intro e; rw [e] at hl; simp at hl
  rw [dif_neg hne] at hrun
  exact bodyPost_ret hrun h.defers ⟨ν r, _, Z', rfl, ⟨vs, rfl, h2⟩, ⟨h.base.os, h.base.tape, h.base.output, h.base.size, h.base.kept⟩, h.base.z0, fun k hk => (h.base.zNew k hk).imp id (fun h => Nat.le_of_not_lt h), h.base.zLt, rowPost_of (h.own.each r _ ho) he⟩

theorem sq_retRN_nil {t ety sz : Nat} {f' : Nat → Nat → AV} {n' : Nat} {rv : ResultVar} {rvs : List ResultVar} {ρ : AV} {ρs τs : List AV} (hr : fn.results = (.tmp t :: rv :: rvs).toArray) (ht : T.get t = .av (.val (.slice none 0 0))) (hn : 0 = n')
    (hts : All2 (ResV P T O) (rv :: rvs) τs) (hρ : τs = ρ :: ρs) : SQ (envA N w Z) T O (bodyPost P fn (RetR w Z ety sz n' f' (ρ :: ρs)) .ret) := by
  subst hn hρ
  rintro a w' ⟨Z', ν, h⟩
  have hv := h.slot t
  rw [ht] at hv
  have hv' : a.tmps.getD t undef = .slice none 0 0 := hv
  have key : ∀ (rvs : List ResultVar) (τs : List AV), All2 (ResV P T O) rvs τs → ∃ vs, All2 (fun rv v => (resOf a.tmps rv).run P w' = Result.ok v w') rvs vs ∧ All2 (fun τ v => AV.ok Z' w' τ v) τs vs := by
    intro rvs
    induction rvs with
    | nil => intro τs h; match τs, h with | [], _ => exact ⟨[], trivial, trivial⟩
    | cons rv rvs ih =>
      intro τs h'
      match τs, h' with
      | τ :: τs, h' =>
        obtain ⟨v, hv, hk⟩ := h'.1.run h
        obtain ⟨vs, h1, h2⟩ := ih τs h'.2
        exact ⟨v :: vs, ⟨hv, h1⟩, ⟨hk, h2⟩⟩
  obtain ⟨vs, h1, h2⟩ := key _ _ hts
  have hrun := results_all (P := P) (w := w') (vs := .slice none 0 0 :: vs) hr ⟨by show Result.ok _ _ = _; rw [hv'], h1⟩
  have hl := h1.len
  have hne : ¬ ((Value.slice none 0 0) :: vs).toArray.size = 1 := by simp at hl ⊢; intro e; rw [e] at hl; simp at hl
  rw [dif_neg hne] at hrun
  exact bodyPost_ret hrun h.defers ⟨.slice none 0 0, _, Z', rfl, ⟨vs, rfl, h2⟩, ⟨h.base.os, h.base.tape, h.base.output, h.base.size, h.base.kept⟩, h.base.z0, fun k hk => (h.base.zNew k hk).imp id (fun h => Nat.le_of_not_lt h), h.base.zLt, .inl ⟨rfl, rfl⟩⟩
end
end Go.Vc
namespace Go.Vc
open Go Go.RowKit

/-! ### Structs and arrays of ints compared -/
def intB (P : Program) (t : TypeId) : Bool := match P.underlying t with | some (.int .i64) => true | _ => false
theorem intB_und {P : Program} {t : TypeId} (h : intB P t = true) : P.underlying t = some (.int .i64) := by
  unfold intB at h
  split at h
  · assumption
  · cases h
theorem run_isAgg_int {P : Program} {t : TypeId} (h : P.underlying t = some (.int .i64)) (w : World) : (isAgg t).run P w = .ok false w := by
  simp [isAgg, run_underlying h]
theorem run_part_int {P : Program} {t : TypeId} (h : P.underlying t = some (.int .i64)) (w : World) (cs : Array Value) (k : Nat) (v : Value) (hv : cs[k]? = some v) : (part t cs k).run P w = .ok v w := by
  simp [part, run_isAgg_int h w, hv]

def fieldsB (P : Program) : List Field → Nat → Bool
  | [], _ => true
  | f :: fs, k => f.name != "_" && Nat.beq f.offset k && intB P f.type && fieldsB P fs (k + 1)

theorem run_eqFields {P : Program} (D : Nat) (w : World) (xs ys : List Int) : ∀ (fs : List Field) (k : Nat), fieldsB P fs k = true → xs.length = k + fs.length → ys.length = k + fs.length →
    (Op.eqFields (D + 1) (xs.map (Value.int .i64)).toArray (ys.map (Value.int .i64)).toArray fs).run P w = .ok (xs.drop k == ys.drop k) w
  | [], k, _, hx, hy => by
    simp only [List.length_nil, Nat.add_zero] at hx hy
    rw [List.drop_of_length_le (by omega), List.drop_of_length_le (by omega)]
    rfl
  | f :: fs, k, h, hx, hy => by
    simp only [fieldsB, Bool.and_eq_true, bne_iff_ne, ne_eq] at h
    obtain ⟨⟨⟨h1, h2⟩, h3⟩, h4⟩ := h
    have h2 := Nat.eq_of_beq_eq_true h2
    have hu := intB_und h3
    simp only [List.length_cons] at hx hy
    have hxk : k < xs.length := by omega
    have hyk : k < ys.length := by omega
    have p1 := run_part_int (P := P) hu w (xs.map (Value.int .i64)).toArray f.offset (.int .i64 xs[k]) (by rw [h2]; simp [List.getElem?_eq_getElem hxk])
    have p2 := run_part_int (P := P) hu w (ys.map (Value.int .i64)).toArray f.offset (.int .i64 ys[k]) (by rw [h2]; simp [List.getElem?_eq_getElem hyk])
    have p3 := run_equalIn_int (P := P) w D f.type .i64 .i64 xs[k] ys[k] hu
    have ih := run_eqFields D w xs ys fs (k + 1) h4 (by omega) (by omega)
    rw [List.drop_eq_getElem_cons hxk, List.drop_eq_getElem_cons hyk]
    simp only [Op.eqFields, if_pos h1, Sem.run_bind, p1, Result.andThen_ok, p2, p3, List.cons_beq_cons]
    cases hb : (xs[k] == ys[k])
    · simp
    · simp only [Bool.not_true, Bool.false_eq_true, if_false, ih, Bool.true_and]

theorem eqTy_struct {P : Program} {t : TypeId} {n : Nat} (hu : P.underlying t = some (.struct (P.fieldsOf t))) (hp : P.stoodInHeld t = false) (hg : P.eqGuardType P.depth t = false) (hf : fieldsB P (P.fieldsOf t).toList 0 = true) (hn : (P.fieldsOf t).toList.length = n) : EqTy P t n := by
  refine ⟨fun op x y xs ys w => run_eqGuard_agg w op t x y xs ys hg, fun xs ys w hx hy => ?_, fun xs ys w hx hy => ?_⟩
  · have := run_eqFields (P := P) 9998 w xs ys _ 0 hf (by omega) (by omega)
    simp only [Nat.reduceAdd, List.drop_zero] at this
    rw [run_eql_struct, run_equalIn_agg w 9999 t _ _ hu hp, this]
    rfl
  · have := run_eqFields (P := P) 9998 w xs ys _ 0 hf (by omega) (by omega)
    simp only [Nat.reduceAdd, List.drop_zero] at this
    rw [run_neq_struct, run_equalIn_agg w 9999 t _ _ hu hp, this]
    rfl

theorem run_eqItems {P : Program} (D : Nat) (w : World) (e : TypeId) (hu : P.underlying e = some (.int .i64)) (xs ys : List Int) : ∀ (m k : Nat), xs.length = k + m → ys.length = k + m →
    (Op.eqItems (D + 1) e 1 (xs.map (Value.int .i64)).toArray (ys.map (Value.int .i64)).toArray (List.range' k m)).run P w = .ok (xs.drop k == ys.drop k) w
  | 0, k, hx, hy => by
    rw [List.drop_of_length_le (by omega), List.drop_of_length_le (by omega)]
    rfl
  | m + 1, k, hx, hy => by
    have hxk : k < xs.length := by omega
    have hyk : k < ys.length := by omega
    have p1 := run_part_int (P := P) hu w (xs.map (Value.int .i64)).toArray (k * 1) (.int .i64 xs[k]) (by simp [List.getElem?_eq_getElem hxk])
    have p2 := run_part_int (P := P) hu w (ys.map (Value.int .i64)).toArray (k * 1) (.int .i64 ys[k]) (by simp [List.getElem?_eq_getElem hyk])
    have p3 := run_equalIn_int (P := P) w D e .i64 .i64 xs[k] ys[k] hu
    have ih := run_eqItems D w e hu xs ys m (k + 1) (by omega) (by omega)
    rw [List.drop_eq_getElem_cons hxk, List.drop_eq_getElem_cons hyk, List.range'_succ]
    simp only [Op.eqItems, Sem.run_bind, p1, Result.andThen_ok, p2, p3, List.cons_beq_cons]
    cases hb : (xs[k] == ys[k])
    · simp
    · simp only [Bool.not_true, Bool.false_eq_true, if_false, ih, Bool.true_and]

theorem eqTy_array {P : Program} {t e : TypeId} {n : Nat} {i : TypeInfo} (hu : P.underlying t = some (.array n e)) (hi : P.info? e = some i) (hc : P.cellsOf e = 1) (he : intB P e = true) (hg : P.eqGuardType P.depth t = false) : EqTy P t n := by
  have hb := intB_und he
  refine ⟨fun op x y xs ys w => run_eqGuard_agg w op t x y xs ys hg, fun xs ys w hx hy => ?_, fun xs ys w hx hy => ?_⟩
  · have := run_eqItems (P := P) 9998 w e hb xs ys n 0 (by omega) (by omega)
    simp only [Nat.reduceAdd, List.drop_zero] at this
    rw [run_eql_struct, run_equalIn_array w 9999 _ _ hu hi, hc, List.range_eq_range', this]
    rfl
  · have := run_eqItems (P := P) 9998 w e hb xs ys n 0 (by omega) (by omega)
    simp only [Nat.reduceAdd, List.drop_zero] at this
    rw [run_neq_struct, run_equalIn_array w 9999 _ _ hu hi, hc, List.range_eq_range', this]
    rfl

/-- An element type, told by checks. -/
def eltB (P : Program) (e : TypeId) (sz bytes : Nat) : Bool := match P.info? e with
  | some i => match i.zero with | some z => Nat.beq i.size sz && Nat.beq i.bytes bytes && Nat.beq z.cells.size sz && Nat.blt 0 sz | none => false
  | none => false
theorem eltTy_of {P : Program} {e : TypeId} {sz bytes : Nat} (h : eltB P e sz bytes = true) : EltTy P e sz bytes := by
  unfold eltB at h
  split at h
  · rename_i i hi
    split at h
    · rename_i z hz
      simp only [Bool.and_eq_true] at h
      exact ⟨i, z, hi, hz, Nat.eq_of_beq_eq_true h.1.1.1, Nat.eq_of_beq_eq_true h.1.1.2, Nat.eq_of_beq_eq_true h.1.2, lt_of_blt h.2⟩
    · cases h
  · cases h
end Go.Vc
