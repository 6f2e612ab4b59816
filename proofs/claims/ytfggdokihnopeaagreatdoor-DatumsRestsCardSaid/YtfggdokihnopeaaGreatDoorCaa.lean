/- A part of the proof. -/
import Derived.WalkKit
import Derived.Orders
import Derived.OrdersIn
import Derived.TacticsIn
import Derived.RangeFuncCalls
import Derived.Deep.Draws
import Derived.Lib.ItoaNum
import Derived.Sort.LoopGhostIn
set_option linter.unusedVariables false
set_option linter.unusedSimpArgs false
section
namespace Go.Vc
theorem zA {p : Prop} {_ : Decidable p} : (decide p = true ↔ p) ∧ (decide p = false ↔ ¬p) := ⟨decide_eq_true_iff, decide_eq_false_iff_not⟩
theorem zB {α : Type _} [BEq α] [LawfulBEq α] {a b : α} : ((a == b) = true ↔ a = b) ∧ ((a == b) = false ↔ a ≠ b) ∧ ((a != b) = true ↔ a ≠ b) ∧ ((a != b) = false ↔ a = b) := ⟨beq_iff_eq, beq_eq_false_iff_ne, bne_iff_ne, bne_eq_false_iff_eq⟩
theorem zG {α : Sort _} (a b : α) : (a ≠ b) = ¬a = b := ne_eq a b
theorem zC (b : Bool) : ((!b) = true) = (b = false) ∧ ((!b) = false) = (b = true) ∧ (!!b) = b := ⟨Bool.not_eq_true' b, Bool.not_eq_false' b, Bool.not_not b⟩
theorem zD {a b : Bool} : ((a && b) = true ↔ a = true ∧ b = true) ∧ ((a || b) = true ↔ a = true ∨ b = true) ∧ ((a && b) = false ↔ a = false ∨ b = false) ∧ ((a || b) = false ↔ a = false ∧ b = false) := ⟨by simp, by simp, Bool.and_eq_false_iff, Bool.or_eq_false_iff⟩
theorem zN {p : Prop} [_g : Decidable p] [_h : Decidable ¬p] : (decide ¬p) = !decide p := decide_not
theorem zS {A : Prop} (h : A := by repeat' (first | exact trivial | exact .refl _ | exact .int (by omega) | refine ⟨?_, ?_⟩)) : A := h
theorem zT {A : Prop} (h : A := by repeat' (first | exact trivial | exact ⟨_, rfl, .refl _⟩ | refine ⟨?_, ?_⟩)) : A := h
theorem zO {A : Prop} (h : A := by omega) : A := h
theorem zE {A : Prop} (h : A := by decide) : A := h
theorem zQ {A : Prop} (h : False := by omega) : A := h.elim
theorem zV {A : Prop} (h : A := by exact j0c rfl (.tmp rfl) rfl) : A := h
theorem zW {A : Prop} (h : A := by exact j0t (rvs := [_, _]) (τs := [_, _]) rfl rfl ⟨.tmp rfl, .tmp rfl, trivial⟩ rfl) : A := h
theorem zX {A : Prop} (h : A := by exact j0t (rvs := [_, _, _]) (τs := [_, _, _]) rfl rfl ⟨.tmp rfl, .tmp rfl, .tmp rfl, trivial⟩ rfl) : A := h
inductive Bz (B : Prop) : Prop where | mk : B → Bz B
theorem Bz.out {B : Prop} : Bz B → B | ⟨h⟩ => h
theorem zU {A B : Prop} (b : B) (k : Bz B → A := by intro h; simp only [x0a, List.map_cons, List.map_nil, Nat.zero_add, Nat.reduceAdd]; exact h.out) : A := k ⟨b⟩
open Go Go.RowKit
abbrev j0q := Nat → Prop
def y0I (φ : j0q → World → Value → Prop) : Prop := ∀ Z Z' w w' v, (∀ k, Z k → Z' k) → w.heap.size ≤ w'.heap.size → (∀ k, Z k → k < w.heap.size → w'.heap[k]? = w.heap[k]?) → φ Z w v → φ Z' w' v
def RStable (φ : j0q → World → Value → Obj → Prop) : Prop := ∀ Z Z' w w' v ob, (∀ k, Z k → Z' k) → w.heap.size ≤ w'.heap.size → (∀ k, Z k → k < w.heap.size → w'.heap[k]? = w.heap[k]?) → φ Z w v ob → φ Z' w' v ob
inductive AV : Type where
 |any
 |val (v : Value)
 |sl (n sz : Nat) (row : Nat → Nat → AV)
 |slc (n sz : Nat) (row : Nat → Nat → AV)
 |ptr (n : Nat) (f : Nat → AV)
 |agg (n : Nat) (f : Nat → AV)
 |tup (n : Nat) (f : Nat → AV)
 |clo (k : FuncId) (n : Nat) (f : Nat → AV)
 |ob (φ : j0q → World → Value → Prop) (h : y0I φ)
def AV.ok (Z : j0q) (w : World) : AV → Value → Prop
 |.any, _ => True
 |.val u, v => v = u
 |.sl n sz row, v => ∃ a c, v = .slice a n c ∧ n ≤ c ∧ c ≤ maxLen ∧ (0 < n → ∃ b o, a = some ⟨b, o, none⟩ ∧ (0 < sz → Z b) ∧ b < w.heap.size ∧
   ∀ i, i < n → ∀ j, j < sz → ∃ u, w.cell? ⟨b, o + i * sz + j, none⟩ = some u ∧ (row i j).ok Z w u)
 |.slc n sz row, v => ∃ a, v = .slice a n n ∧ n ≤ maxLen ∧ (0 < n → ∃ b o, a = some ⟨b, o, none⟩ ∧ (0 < sz → Z b) ∧ b < w.heap.size ∧
   ∀ i, i < n → ∀ j, j < sz → ∃ u, w.cell? ⟨b, o + i * sz + j, none⟩ = some u ∧ (row i j).ok Z w u)
 |.ptr n f, v => ∃ b o, v = .pointer (some ⟨b, o, none⟩) ∧ (0 < n → Z b) ∧ b < w.heap.size ∧ ∀ i, i < n → ∃ u, w.cell? ⟨b, o + i, none⟩ = some u ∧ (f i).ok Z w u
 |.agg n f, v => ∃ cs : List Value, v = .agg cs.toArray ∧ cs.length = n ∧ ∀ i, i < n → ∃ u, cs[i]? = some u ∧ (f i).ok Z w u
 |.tup n f, v => ∃ cs : List Value, v = .tuple cs.toArray ∧ cs.length = n ∧ ∀ i, i < n → ∃ u, cs[i]? = some u ∧ (f i).ok Z w u
 |.clo k n f, v => ∃ cs : List Value, v = .func (.func k) #[] cs.toArray ∧ cs.length = n ∧ ∀ i, i < n → ∃ u, cs[i]? = some u ∧ (f i).ok Z w u
 |.ob φ _, v => φ Z w v
theorem w0b (w : World) (o : Obj) {r : Nat} (h : r < w.heap.size) : (w.alloc o).heap[r]? = w.heap[r]? := Below.heap_alloc w o r h
theorem cell_of_heap {w w' : World} {b o : Nat} (h : w'.heap[b]? = w.heap[b]?) : w'.cell? ⟨b, o, none⟩ = w.cell? ⟨b, o, none⟩ := by
 simp [World.cell?, h]
theorem AV.ok_mono {Z Z' : j0q} {w w' : World} (hZ : ∀ k, Z k → Z' k) (hs : w.heap.size ≤ w'.heap.size)
  (hw : ∀ k, Z k → k < w.heap.size → w'.heap[k]? = w.heap[k]?) : ∀ (τ : AV) (v : Value), τ.ok Z w v → τ.ok Z' w' v := by
 intro τ
 induction τ with
 |any => intro v _; trivial
 |val u => intro v h; exact h
 |sl n sz row ih =>
  rintro v ⟨a, c, rfl, h1, h2, h3⟩
  refine ⟨a, c, rfl, h1, h2, fun hn => ?_⟩
  obtain ⟨b, o, rfl, hz, hb, hc⟩ := h3 hn
  refine ⟨b, o, rfl, fun hp => hZ b (hz hp), by omega, fun i hi j hj => ?_⟩
  obtain ⟨u, hu, hk⟩ := hc i hi j hj
  exact ⟨u, by rw [cell_of_heap (hw b (hz (Nat.lt_of_le_of_lt (Nat.zero_le _) hj)) hb)]; exact hu, ih i j u hk⟩
 |slc n sz row ih =>
  rintro v ⟨a, rfl, h2, h3⟩
  refine ⟨a, rfl, h2, fun hn => ?_⟩
  obtain ⟨b, o, rfl, hz, hb, hc⟩ := h3 hn
  refine ⟨b, o, rfl, fun hp => hZ b (hz hp), by omega, fun i hi j hj => ?_⟩
  obtain ⟨u, hu, hk⟩ := hc i hi j hj
  exact ⟨u, by rw [cell_of_heap (hw b (hz (Nat.lt_of_le_of_lt (Nat.zero_le _) hj)) hb)]; exact hu, ih i j u hk⟩
 |ptr n f ih =>
  rintro v ⟨b, o, rfl, hz, hb, hc⟩
  refine ⟨b, o, rfl, fun hp => hZ b (hz hp), by omega, fun i hi => ?_⟩
  obtain ⟨u, hu, hk⟩ := hc i hi
  exact ⟨u, by rw [cell_of_heap (hw b (hz (Nat.lt_of_le_of_lt (Nat.zero_le _) hi)) hb)]; exact hu, ih i u hk⟩
 |agg n f ih =>
  rintro v ⟨cs, rfl, hl, hc⟩
  exact ⟨cs, rfl, hl, fun i hi => let ⟨u, hu, hk⟩ := hc i hi; ⟨u, hu, ih i u hk⟩⟩
 |tup n f ih =>
  rintro v ⟨cs, rfl, hl, hc⟩
  exact ⟨cs, rfl, hl, fun i hi => let ⟨u, hu, hk⟩ := hc i hi; ⟨u, hu, ih i u hk⟩⟩
 |clo k n f ih =>
  rintro v ⟨cs, rfl, hl, hc⟩
  exact ⟨cs, rfl, hl, fun i hi => let ⟨u, hu, hk⟩ := hc i hi; ⟨u, hu, ih i u hk⟩⟩
 |ob φ h => exact fun v hv => h Z Z' w w' v hZ hs hw hv
def Y1L : j0q → World → Value → Prop := fun Z w v => ∃ b m, v = .pointer (some ⟨b, 0, none⟩) ∧ Z b ∧ b < w.heap.size ∧ w.cell? ⟨b, 0, none⟩ = some (.int .i64 m)
theorem j1R : y0I Y1L := fun Z Z' w w' v hZ hs hw ⟨b, m, h1, h2, h3, h4⟩ => ⟨b, m, h1, hZ b h2, Nat.lt_of_lt_of_le h3 hs, by rw [cell_of_heap (hw b h2 h3)]; exact h4⟩
def Y1M (arr : Array Value) : j0q → World → Value → Prop := fun Z w v => ∃ b t fr, v = .pointer (some ⟨b, 0, none⟩) ∧ Z b ∧ b < w.heap.size ∧ w.heap[b]? = some (.cells arr t fr)
theorem j1T (arr : Array Value) : y0I (Y1M arr) := fun Z Z' w w' v hZ hs hw ⟨b, t, fr, h1, h2, h3, h4⟩ => ⟨b, t, fr, h1, hZ b h2, Nat.lt_of_lt_of_le h3 hs, by rw [hw b h2 h3]; exact h4⟩
def glb : List (Nat × AV) := [(0, .ptr 6 (fun i => .val (.int .i64 ([1, 2, 0, 2, 0, 1].getD i 0)))), (1, .ob Y1L j1R), (2, .ob (Y1M (Lib.pow10Tab.map (Value.int .u64)).toArray) (j1T _))]
def GOk (Z : j0q) (w : World) : Prop := ∀ p ∈ glb, p.2.ok Z w (.pointer (some ⟨p.1, 0, none⟩))
def ZOk (Z : j0q) (w : World) : Prop := (∀ k, Z k → k < w.heap.size) ∧ GOk Z w
theorem ZOk.next {Z Z' : j0q} {w w' : World} (h : ZOk Z w) (hZ : ∀ k, Z k → Z' k) (hs : w.heap.size ≤ w'.heap.size) (hw : ∀ k, Z k → k < w.heap.size → w'.heap[k]? = w.heap[k]?) (hl : ∀ k, Z' k → k < w'.heap.size) : ZOk Z' w' :=
 ⟨hl, fun p hp => AV.ok_mono hZ hs hw p.2 _ (h.2 p hp)⟩
theorem ZOk.or {Z X : j0q} {w : World} (h : ZOk Z w) (hl : ∀ k, X k → k < w.heap.size) : ZOk (fun k => Z k ∨ X k) w :=
 h.next (fun _ h => .inl h) (Nat.le_refl _) (fun _ _ _ => rfl) (fun k hk => hk.elim (h.1 k) (hl k))
theorem RStable.st {φ : j0q → World → Value → Obj → Prop} (h : RStable φ) (ob : Obj) : y0I (fun Z w v => φ Z w v ob) := fun Z Z' w w' v h1 h2 h3 h4 => h Z Z' w w' v ob h1 h2 h3 h4
def RStable.av {φ : j0q → World → Value → Obj → Prop} (h : RStable φ) (ob : Obj) : AV := .ob (fun Z w v => φ Z w v ob) (h.st ob)
inductive CV : Type where
 |av (τ : AV)
 |own (r off : Nat)
 |osl (r : Nat)
inductive SV : Type where
 |av (τ : AV)
 |own (r off : Nat)
 |osl (r : Nat)
 |oel (r sz i j : Nat)
 |osx (r sz lo len : Nat)
 |clo (k : FuncId) (caps : List CV)
 |tupR (r : Nat) (ρs : List AV)
 |agg (cs : List CV)
 |tupC (cs : List CV)
 |fnC (k : FuncId) (cs : List CV)
 |ocs (r off len : Nat)
def All2 {α β : Type} (R : α → β → Prop) : List α → List β → Prop
 |[], [] => True
 |a :: l, b :: m => R a b ∧ All2 R l m
 |_, _ => False
theorem All2.mono {α β : Type} {R S : α → β → Prop} : ∀ {l : List α} {m : List β}, All2 R l m → (∀ a ∈ l, ∀ b, R a b → S a b) → All2 S l m
 |[], [], _, _ => trivial
 |a :: l, b :: m, h, hs => ⟨hs a (by simp) b h.1, All2.mono h.2 (fun a' ha b' => hs a' (by simp [ha]) b')⟩
 |[], _ :: _, h, _ => h.elim
 |_ :: _, [], h, _ => h.elim
theorem All2.len {α β : Type} {R : α → β → Prop} : ∀ {l : List α} {m : List β}, All2 R l m → l.length = m.length
 |[], [], _ => rfl
 |_ :: _, _ :: _, h => by simp [All2.len h.2]
 |[], _ :: _, h => h.elim
 |_ :: _, [], h => h.elim
theorem All2.get {α β : Type} {R : α → β → Prop} : ∀ {l : List α} {m : List β}, All2 R l m → ∀ (i : Nat) (a : α), l[i]? = some a → ∃ b, m[i]? = some b ∧ R a b
 |[], [], _, i, a, h => by simp at h
 |x :: l, y :: m, h, 0, a, ha => by simp at ha; subst ha; exact ⟨y, by simp, h.1⟩
 |x :: l, y :: m, h, i + 1, a, ha => by simp at ha; simpa using All2.get h.2 i a ha
 |[], _ :: _, h, _, _, _ => h.elim
 |_ :: _, [], h, _, _, _ => h.elim
abbrev j0N := Nat → Value
def CV.ok (Z : j0q) (ν : j0N) (w : World) : CV → Value → Prop
 |.av τ, v => τ.ok Z w v
 |.own r off, v => ∃ b, ν r = .pointer (some ⟨b, 0, none⟩) ∧ v = .pointer (some ⟨b, off, none⟩)
 |.osl r, v => v = ν r
def SV.ok (Z : j0q) (ν : j0N) (w : World) : SV → Value → Prop
 |.av τ, v => τ.ok Z w v
 |.own r off, v => ∃ b, ν r = .pointer (some ⟨b, 0, none⟩) ∧ v = .pointer (some ⟨b, off, none⟩)
 |.osl r, v => v = ν r
 |.oel r sz i j, v => ∃ b n c, ν r = .slice (some ⟨b, 0, none⟩) n c ∧ v = .pointer (some ⟨b, i * sz + j, none⟩)
 |.osx r sz lo len, v => ∃ b n c p, ν r = .slice (some ⟨b, 0, none⟩) n c ∧ v = .slice p len (c - lo) ∧ (0 < len ∨ lo = 0 → p = some ⟨b, lo * sz, none⟩)
 |.clo k cs, v => ∃ vs : List Value, v = .func (.func k) #[] vs.toArray ∧ All2 (CV.ok Z ν w) cs vs
 |.tupR r ρs, v => ∃ us : List Value, v = .tuple (ν r :: us).toArray ∧ All2 (AV.ok Z w) ρs us
 |.agg cs, v => ∃ vs : List Value, v = .agg vs.toArray ∧ All2 (CV.ok Z ν w) cs vs
 |.tupC cs, v => ∃ vs : List Value, v = .tuple vs.toArray ∧ All2 (CV.ok Z ν w) cs vs
 |.fnC k cs, v => ∃ vs : List Value, v = .func (.func k) vs.toArray #[] ∧ All2 (CV.ok Z ν w) cs vs
 |.ocs r off len, v => ∃ b c, ν r = .pointer (some ⟨b, 0, none⟩) ∧ v = .slice (some ⟨b, off, none⟩) len c
def CV.mentions (r : Nat) : CV → Bool
 |.av _ => false
 |.own s _ => Nat.beq s r
 |.osl s => Nat.beq s r
def SV.mentions (r : Nat) : SV → Bool
 |.av _ => false
 |.own s _ => Nat.beq s r
 |.osl s => Nat.beq s r
 |.oel s _ _ _ => Nat.beq s r
 |.osx s _ _ _ => Nat.beq s r
 |.clo _ cs => cs.any (CV.mentions r)
 |.tupR s _ => Nat.beq s r
 |.agg cs => cs.any (CV.mentions r)
 |.tupC cs => cs.any (CV.mentions r)
 |.fnC k cs => cs.any (CV.mentions r)
 |.ocs s _ _ => Nat.beq s r
def SV.kill (r : Nat) (s : SV) : SV := match s.mentions r with | true => .av .any | false => s
theorem CV.ok_mono {Z Z' : j0q} {ν ν' : j0N} {w w' : World} (hZ : ∀ k, Z k → Z' k) (hs : w.heap.size ≤ w'.heap.size)
  (hw : ∀ k, Z k → k < w.heap.size → w'.heap[k]? = w.heap[k]?) (s : CV) (v : Value) (hν : ∀ r, s.mentions r = true → ν' r = ν r) (h : s.ok Z ν w v) : s.ok Z' ν' w' v := by
 cases s with
 |av τ => exact AV.ok_mono hZ hs hw τ v h
 |own r off => obtain ⟨b, h1, h2⟩ := h; exact ⟨b, by rw [hν r (by simp [CV.mentions])]; exact h1, h2⟩
 |osl r => show v = ν' r; rw [hν r (by simp [CV.mentions])]; exact h
theorem SV.ok_mono {Z Z' : j0q} {ν ν' : j0N} {w w' : World} (hZ : ∀ k, Z k → Z' k) (hs : w.heap.size ≤ w'.heap.size)
  (hw : ∀ k, Z k → k < w.heap.size → w'.heap[k]? = w.heap[k]?) (s : SV) (v : Value) (hν : ∀ r, s.mentions r = true → ν' r = ν r) (h : s.ok Z ν w v) : s.ok Z' ν' w' v := by
 cases s with
 |av τ => exact AV.ok_mono hZ hs hw τ v h
 |own r off => obtain ⟨b, h1, h2⟩ := h; exact ⟨b, by rw [hν r (by simp [SV.mentions])]; exact h1, h2⟩
 |osl r => show v = ν' r; rw [hν r (by simp [SV.mentions])]; exact h
 |oel r sz i j => obtain ⟨b, n, c, h1, h2⟩ := h; exact ⟨b, n, c, by rw [hν r (by simp [SV.mentions])]; exact h1, h2⟩
 |osx r sz lo len => obtain ⟨b, n, c, p, h1, h2⟩ := h; exact ⟨b, n, c, p, by rw [hν r (by simp [SV.mentions])]; exact h1, h2⟩
 |clo k cs =>
  obtain ⟨vs, h1, h2⟩ := h
  refine ⟨vs, h1, h2.mono fun c hc u hu => CV.ok_mono hZ hs hw c u (fun r hr => hν r ?_) hu⟩
  simp only [SV.mentions, List.any_eq_true]
  exact ⟨c, hc, hr⟩
 |tupR r ρs =>
  obtain ⟨us, h1, h2⟩ := h
  exact ⟨us, by rw [hν r (by simp [SV.mentions])]; exact h1, h2.mono fun c _ u hu => AV.ok_mono hZ hs hw c u hu⟩
 |agg cs =>
  obtain ⟨vs, h1, h2⟩ := h
  refine ⟨vs, h1, h2.mono fun c hc u hu => CV.ok_mono hZ hs hw c u (fun r hr => hν r ?_) hu⟩
  simp only [SV.mentions, List.any_eq_true]
  exact ⟨c, hc, hr⟩
 |tupC cs =>
  obtain ⟨vs, h1, h2⟩ := h
  refine ⟨vs, h1, h2.mono fun c hc u hu => CV.ok_mono hZ hs hw c u (fun r hr => hν r ?_) hu⟩
  simp only [SV.mentions, List.any_eq_true]
  exact ⟨c, hc, hr⟩
 |fnC k0 cs =>
  obtain ⟨vs, h1, h2⟩ := h
  refine ⟨vs, h1, h2.mono fun c hc u hu => CV.ok_mono hZ hs hw c u (fun r hr => hν r ?_) hu⟩
  simp only [SV.mentions, List.any_eq_true]
  exact ⟨c, hc, hr⟩
 |ocs r off len => obtain ⟨b, c, h1, h2⟩ := h; exact ⟨b, c, by rw [hν r (by simp [SV.mentions])]; exact h1, h2⟩
def look {α : Type} : List (Nat × α) → Nat → Option α
 |[], _ => none
 |(k, s) :: t, d => match Nat.beq k d with | true => some s | false => look t d
abbrev Tab := List (Nat × SV)
def Tab.get (T : Tab) (d : Nat) : SV := match look T d with | some s => s | none => .av .any
def Tab.set (T : Tab) : Option Nat → SV → Tab
 |none, _ => T
 |some d, s => (d, s) :: T
inductive Res : Type where
 |cells (cs : List SV)
 |row (ty sz n : Nat) (f : Nat → Nat → AV)
 |obj (φ : j0q → World → Value → Obj → Prop) (h : RStable φ)
 |srow (ty : TypeId) (sz n : Nat) (cs : List SV)
abbrev Own := List (Nat × Res)
def Res.kill (r : Nat) : Res → Res
 |.cells cs => .cells (cs.map (SV.kill r))
 |.row ty sz n f => .row ty sz n f
 |.obj φ h => .obj φ h
 |.srow ty sz n cs => .srow ty sz n (cs.map (SV.kill r))
def Tab.kill (r : Nat) (T : Tab) : Tab := T.map fun p => (p.1, p.2.kill r)
def Own.kill (r : Nat) : Own → Own
 |[] => []
 |(k, x) :: O => match Nat.beq k r with | true => Own.kill r O | false => (k, x.kill r) :: Own.kill r O
theorem j0l {α : Type} (k : Nat) (s : α) (t : List (Nat × α)) : look ((k, s) :: t) k = some s := by simp [look]
theorem j0d {α : Type} {k d : Nat} (s : α) (t : List (Nat × α)) (h : k ≠ d) : look ((k, s) :: t) d = look t d := by
 have : Nat.beq k d = false := by
  cases hb : Nat.beq k d with
  |false => rfl
  |true => exact absurd (Nat.eq_of_beq_eq_true hb) h
 simp only [look, this]
theorem V0I {α β : Type} (f : α → β) : ∀ (t : List (Nat × α)) (d : Nat), look (t.map fun p => (p.1, f p.2)) d = (look t d).map f
 |[], d => rfl
 |(k, s) :: t, d => by
  by_cases h : k = d
  ·subst h; simp [look]
  ·simp only [List.map_cons]; rw [j0d _ _ h, j0d _ _ h, V0I]
theorem Tab.get_kill (T : Tab) (r d : Nat) : (T.kill r).get d = (T.get d).kill r := by
 unfold Tab.get Tab.kill
 rw [V0I]
 cases look T d with
 |none => rfl
 |some s => rfl
theorem Own.look_kill (r : Nat) : ∀ (O : Own) (k : Nat), look (Own.kill r O) k = if k = r then none else (look O k).map (Res.kill r)
 |[], k => by simp [Own.kill, look]
 |(q, x) :: O, k => by
  unfold Own.kill
  by_cases hq : q = r
  ·subst hq
   simp only [Nat.beq_refl, Own.look_kill q O k]
   by_cases hk : k = q
   ·simp [hk]
   ·rw [if_neg hk, if_neg hk, j0d _ _ (fun e => hk e.symm)]
  ·have : Nat.beq q r = false := by
    cases hb : Nat.beq q r with
    |false => rfl
    |true => exact absurd (Nat.eq_of_beq_eq_true hb) hq
   simp only [this]
   by_cases hk : q = k
   ·subst hk; simp [look, hq]
   ·rw [j0d _ _ hk, j0d _ _ hk, Own.look_kill r O k]
structure Env where
 N : Nat
 round : Option Nat := none
 cst : Nat → Option Value := fun _ => none
 keep : Nat → Prop
 w0 : World
 Z0 : j0q
 marks : List Deferred := []
 pin : Nat → Option Value := fun _ => none
 pinHi : ∀ r, Nat.blt r 1000 = true → pin r = none := by intros; rfl
def j0C : Value → Option Nat
 |.pointer (some a) => some a.block
 |.slice (some a) _ _ => some a.block
 |.map (some b) => some b
 |_ => none
def Res.ok (E : Env) (Z : j0q) (ν : j0N) (w : World) (v : Value) : Res → Prop
 |.cells cs => ∃ b ty arr, v = .pointer (some ⟨b, 0, none⟩) ∧ ¬ E.keep b ∧ ¬ Z b ∧ w.heap[b]? = some (.cells arr ty (0, 0)) ∧ arr.size = cs.length ∧
   ∀ (i : Nat) (s : SV), cs[i]? = some s → ∃ u, arr[i]? = some u ∧ s.ok Z ν w u
 |.row ty sz n f => (v = .slice none 0 0 ∧ n = 0) ∨ ∃ b cap arr, v = .slice (some ⟨b, 0, none⟩) n cap ∧ ¬ E.keep b ∧ ¬ Z b ∧ w.heap[b]? = some (.cells arr ty (0, 0)) ∧ n ≤ cap ∧ cap ≤ maxLen ∧ arr.size = cap * sz ∧
   ∀ i, i < n → ∀ j, j < sz → ∃ u, arr[i * sz + j]? = some u ∧ (f i j).ok Z w u
 |.obj φ _ => ∃ b ob, j0C v = some b ∧ ¬ E.keep b ∧ ¬ Z b ∧ w.heap[b]? = some ob ∧ φ Z w v ob
 |.srow ty sz n cs => (v = .slice none 0 0 ∧ n = 0 ∧ cs.length = 0) ∨ ∃ b cap arr, v = .slice (some ⟨b, 0, none⟩) n cap ∧ ¬ E.keep b ∧ ¬ Z b ∧ w.heap[b]? = some (.cells arr ty (0, 0)) ∧ n ≤ cap ∧ cap ≤ maxLen ∧ (arr.size = cap * sz ∧ cs.length = n * sz) ∧
   ∀ (i : Nat) (s : SV), cs[i]? = some s → ∃ u, arr[i]? = some u ∧ s.ok Z ν w u
structure OwnOk (E : Env) (O : Own) (Z : j0q) (ν : j0N) (w : World) : Prop where
 each : ∀ r x, look O r = some x → x.ok E Z ν w (ν r)
 apart : ∀ r r', r ≠ r' → look O r ≠ none → look O r' ≠ none → ∀ b, j0C (ν r) = some b → j0C (ν r') ≠ some b
structure Base (E : Env) (Z : j0q) (w : World) : Prop where
 os : w.os = E.w0.os
 tape : w.tape = E.w0.tape
 output : w.output = E.w0.output
 size : E.w0.heap.size ≤ w.heap.size
 keepLt : ∀ k, E.keep k → k < E.w0.heap.size
 kept : ∀ k, E.keep k → w.heap[k]? = E.w0.heap[k]?
 zok : ZOk Z w
 z0 : ∀ k, E.Z0 k → Z k
 zNew : ∀ k, Z k → E.Z0 k ∨ ¬ E.keep k
theorem Base.zLt {E : Env} {Z : j0q} {w : World} (h : Base E Z w) : ∀ k, Z k → k < w.heap.size := h.zok.1
structure SatZ (E : Env) (Z : j0q) (ν : j0N) (T : Tab) (O : Own) (a : Act) (w : World) : Prop where
 defers : a.defers = E.marks
 tsize : a.tmps.size = E.N
 cst : ∀ d v, E.cst d = some v → a.tmps.getD d undef = v
 pin : ∀ r v, E.pin r = some v → ν r = v
 base : Base E Z w
 own : OwnOk E O Z ν w
 slot : ∀ d, (T.get d).ok Z ν w (a.tmps.getD d undef)
def Sat (E : Env) (T : Tab) (O : Own) (a : Act) (w : World) : Prop := ∃ Z ν, SatZ E Z ν T O a w
theorem Sat.congr {E : Env} {T T' : Tab} {O O' : Own} {a : Act} {w : World} (hT : ∀ d, T'.get d = T.get d) (hO : ∀ r, look O' r = look O r) (h : Sat E T O a w) : Sat E T' O' a w := by
 obtain ⟨Z, ν, h⟩ := h
 refine ⟨Z, ν, h.defers, h.tsize, h.cst, h.pin, h.base, ⟨fun r x hx => h.own.each r x (by rw [← hO]; exact hx), fun r r' hne h1 h2 => h.own.apart r r' hne (by rw [← hO]; exact h1) (by rw [← hO]; exact h2)⟩, fun d => ?_⟩
 rw [hT]; exact h.slot d
theorem Sat.drew {E : Env} {T : Tab} {O : Own} {a : Act} {w : World} (h : Sat E T O a w) : Sat E T O a { w with drawn := w.drawn + 1 } := by
 obtain ⟨Z, ν, h⟩ := h
 have hav : ∀ (τ : AV) v, τ.ok Z w v → τ.ok Z { w with drawn := w.drawn + 1 } v := AV.ok_mono (fun _ h => h) (Nat.le_refl _) (fun _ _ _ => rfl)
 have hsv : ∀ (s : SV) v, s.ok Z ν w v → s.ok Z ν { w with drawn := w.drawn + 1 } v := fun s v h => SV.ok_mono (w := w) (w' := { w with drawn := w.drawn + 1 }) (fun _ h => h) (Nat.le_refl _) (fun _ _ _ => rfl) s v (fun _ _ => rfl) h
 refine ⟨Z, ν, h.defers, h.tsize, h.cst, h.pin, ⟨h.base.os, h.base.tape, h.base.output, h.base.size, h.base.keepLt, h.base.kept, h.base.zok.next (fun _ h => h) (Nat.le_refl _) (fun _ _ _ => rfl) h.base.zLt, h.base.z0, h.base.zNew⟩, ⟨fun r x hx => ?_, h.own.apart⟩, fun d => hsv _ _ (h.slot d)⟩
 have := h.own.each r x hx
 cases x with
 |cells cs =>
  obtain ⟨b, ty, arr, h1, h2, h3, h4, h5, h6⟩ := this
  exact ⟨b, ty, arr, h1, h2, h3, h4, h5, fun i s hs => let ⟨u, hu, hk⟩ := h6 i s hs; ⟨u, hu, hsv _ _ hk⟩⟩
 |row ty sz n f =>
  rcases this with h1 | ⟨b, cap, arr, h1, h2, h3, h4, h5, h6, h7, h8⟩
  ·exact .inl h1
  ·exact .inr ⟨b, cap, arr, h1, h2, h3, h4, h5, h6, h7, fun i hi j hj => let ⟨u, hu, hk⟩ := h8 i hi j hj; ⟨u, hu, hav _ _ hk⟩⟩
 |obj φ hφ =>
  obtain ⟨b, ob, h1, h2, h3, h4, h5⟩ := this
  exact ⟨b, ob, h1, h2, h3, h4, hφ _ _ w _ _ _ (fun _ h => h) (Nat.le_refl _) (fun _ _ _ => rfl) h5⟩
 |srow ty sz n cs =>
  rcases this with h1 | ⟨b, cap, arr, h1, h2, h3, h4, h5, h6, h7, h8⟩
  ·exact .inl h1
  ·exact .inr ⟨b, cap, arr, h1, h2, h3, h4, h5, h6, h7, fun i s hs => let ⟨u, hu, hk⟩ := h8 i s hs; ⟨u, hu, hsv _ _ hk⟩⟩
def SQ (E : Env) (T : Tab) (O : Own) (φ : Act → World → Prop) : Prop := ∀ a w, Sat E T O a w → φ a w
def fc (ro : Option Nat) : Fence := { fn := fun _ => True, depth := none, alive := false, round := ro }
theorem v1b {ro : Option Nat} {P : Program} {row : String} {args : Array Value} {w : World} {R : Value → World → Prop} (h : Rows P row args w R) : RowsIn (fc ro) 0 P row args w R := by
 intro c cs _
 obtain ⟨v, w', hr, hs⟩ := h c cs
 exact ⟨v, w', hr, stepsIn_wide.2 hs⟩
theorem Oper.wp_in {P : Program} {o : Oper} {a : Act} {w : World} {K K' : Act → World → Prop} {Q : Exit → Act → World → Prop} (ro : Option Nat) (hnd : ∀ c, o.op ≠ .defer c) (h : o.wp P a w K (fun _ _ _ => False)) (hk : ∀ a w, K a w → K' a w) : o.wpIn (fc ro) 0 P a w K' Q := by
 refine ⟨fun _ _ => trivial, ?_⟩
 rw [show (fc ro).round = ro from rfl, Oper.semAt_eq ro a.eval o hnd]
 unfold Oper.wp at h
 generalize (execOp a.eval o).run P w = r at *
 cases r with
 |ok n w' =>
  cases n <;> simp only [Oper.upon, Oper.uponIn] at h ⊢ <;>
   first
    |exact hk _ _ h
    |(refine ⟨fun h => by simp [fc] at h, ?_⟩
      have h2 := (callsIn_wide (n := 0)).2 h
      exact CallsIn.mono (F := fc ro) h2 (fun e w'' he => by cases e with
      |returned v => exact hk _ _ he
      |panicked c => exact he.elim
      |outgrown => obtain ⟨_, _, x⟩ := he; exact x.elim))
    |exact ⟨fun h => by simp [fc] at h, v1b (Rows.mono h (fun _ _ he => hk _ _ he))⟩
 |halt x w' => cases x <;> simp only [Oper.upon, Oper.uponIn] at h ⊢
end Go.Vc
end
section
namespace Go.Vc
open Go Go.RowKit
def Env.wr (E : Env) (d : Nat) : Bool := match Nat.blt d E.N with | true => (E.cst d).isNone | false => false
def W0K (E : Env) : Option Nat → Bool
 |none => true
 |some d => E.wr d
theorem j0H {d N : Nat} (h : Nat.blt d N = true) : d < N := by
 unfold Nat.blt at h
 exact Nat.le_of_ble_eq_true h
theorem Z1w {E : Env} {d : Nat} (h : E.wr d = true) : d < E.N := by
 unfold Env.wr at h
 cases hb : Nat.blt d E.N with
 |true => exact j0H hb
 |false => rw [hb] at h; cases h
theorem Y1a {E : Env} {d : Nat} (h : E.wr d = true) : E.cst d = none := by
 unfold Env.wr at h
 cases hb : Nat.blt d E.N with
 |true => rw [hb] at h; simpa using h
 |false => rw [hb] at h; cases h
theorem q1N {E : Env} {a : Act} {d : Nat} {v : Value} (hd : E.wr d = true) (h : ∀ d v, E.cst d = some v → a.tmps.getD d undef = v) : ∀ k u, E.cst k = some u → (a.put (some d) v).tmps.getD k undef = u := by
 intro k u hk
 have hne : d ≠ k := fun e => by subst e; rw [Y1a hd] at hk; cases hk
 have := h k u hk
 simpa [Act.put, Array.getD_eq_getD_getElem?, Array.getElem?_setIfInBounds_ne hne] using this
theorem Tab.get_cons_eq (d : Nat) (s : SV) (T : Tab) : Tab.get ((d, s) :: T) d = s := by simp [Tab.get, j0l]
theorem Tab.get_cons_ne {d k : Nat} (s : SV) (T : Tab) (h : d ≠ k) : Tab.get ((d, s) :: T) k = Tab.get T k := by simp [Tab.get, j0d s T h]
theorem SatZ.put {E : Env} {Z : j0q} {ν : j0N} {T : Tab} {O : Own} {a : Act} {w : World} (h : SatZ E Z ν T O a w) (dst : Option Nat) (s : SV) (v : Value)
  (hd : W0K E dst = true) (hv : s.ok Z ν w v) : SatZ E Z ν (T.set dst s) O (a.put dst v) w := by
 cases dst with
 |none => exact h
 |some d =>
  have hlt : d < a.tmps.size := by rw [h.tsize]; exact Z1w hd
  refine ⟨h.defers, by simp [Act.put, h.tsize], q1N hd h.cst, h.pin, h.base, h.own, fun k => ?_⟩
  by_cases hk : d = k
  ·subst hk
   rw [show (Tab.set T (some d) s).get d = s from Tab.get_cons_eq d s T]
   simpa [Act.put, hlt] using hv
  ·rw [show (Tab.set T (some d) s).get k = T.get k from Tab.get_cons_ne s T hk]
   have := h.slot k
   simpa [Act.put, Array.getD_eq_getD_getElem?, Array.getElem?_setIfInBounds_ne hk] using this
theorem SatZ.putU {E : Env} {Z : j0q} {ν : j0N} {T : Tab} {O : Own} {a : Act} {w : World} (h : SatZ E Z ν T O a w) (dst : Option Nat) (hd : W0K E dst = true) :
  SatZ E Z ν (T.set dst (.av (.val undef))) O (a.put dst undef) w := by
 cases dst with
 |none => exact h
 |some d =>
  refine ⟨h.defers, by simp [Act.put, h.tsize], q1N hd h.cst, h.pin, h.base, h.own, fun k => ?_⟩
  by_cases hk : d = k
  ·subst hk
   rw [show (Tab.set T (some d) (.av (.val undef))).get d = .av (.val undef) from Tab.get_cons_eq d _ T]
   show (a.put (some d) undef).tmps.getD d undef = undef
   simp only [Act.put, Array.getD_eq_getD_getElem?]
   by_cases hlt : d < a.tmps.size
   ·simp [hlt]
   ·rw [Array.getElem?_eq_none (by simp; omega)]; rfl
  ·rw [show (Tab.set T (some d) (.av (.val undef))).get k = T.get k from Tab.get_cons_ne _ T hk]
   have := h.slot k
   simpa [Act.put, Array.getD_eq_getD_getElem?, Array.getElem?_setIfInBounds_ne hk] using this
structure VStep (P : Program) (E : Env) (o : Oper) (T : Tab) (O : Own) (T' : Tab) (O' : Own) (s : SV) : Prop where
 nd : ∀ c, o.op ≠ .defer c
 run : ∀ (Z : j0q) (ν : j0N) (a : Act) (w : World), SatZ E Z ν T O a w → o.wp P a w (fun a' w' => ∃ v Z' ν', a' = a.put o.dst v ∧ SatZ E Z' ν' T' O' a w' ∧ s.ok Z' ν' w' v) (fun _ _ _ => False)
structure GV (P : Program) (E : Env) (o : Oper) (T : Tab) (O : Own) (s : SV) (rr : List Nat) (upd : Own) : Prop where
 vs : ∀ (T' : Tab) (O' : Own), (∀ d ∈ o.op.operands.toList.filterMap (fun | .tmp t => some t | _ => none), T'.get d = T.get d) → (∀ r ∈ rr, look O' r = look O r) → VStep P E o T' O' T' (upd ++ O') s
theorem GV.v {P : Program} {E : Env} {o : Oper} {T : Tab} {O : Own} {s : SV} {rr : List Nat} {upd : Own} (h : GV P E o T O s rr upd) : VStep P E o T O T (upd ++ O) s :=
 h.vs T O (fun _ _ => rfl) (fun _ _ => rfl)
structure LSQ (P : Program) (E : Env) (ops : Array Oper) (Q : Exit → Act → World → Prop) (l : List Oper) (T : Tab) (O : Own) : Prop where
 sq : SQ E T O (fun a w => wpListIn (fc E.round) 0 P ops Q l a w)
structure CQ (P : Program) (E : Env) (Q : Exit → Act → World → Prop) (T : Tab) (O : Own) (c : Code) : Prop where
 sq : SQ E T O (c.wpIn (fc E.round) 0 P Q)
section
variable {P : Program} {E : Env} {ops : Array Oper} {Q : Exit → Act → World → Prop} {l : List Oper} {T T' : Tab} {O O' : Own} {o : Oper}
theorem k0o (h : SQ E T O (Q .normal)) : LSQ P E ops Q [] T O := ⟨fun a w hs => wpListIn_nil (h a w hs)⟩
theorem x0G {j g : Nat} {b : Bool} {a : Act} {w : World} {Z : j0q} {ν : j0N} (hd : (ops[j]?).bind (·.dst) = some g) (hT : T.get g = .av (.val (.bool b))) (h : SatZ E Z ν T O a w) :
  yielded ops a.tmps j = some b := by
 have hs := h.slot g
 rw [hT] at hs
 have hs' : a.tmps.getD g undef = .bool b := hs
 unfold yielded
 rw [hd]
 have : a.tmps[g]? = some (.bool b) := by
  rw [Array.getD_eq_getD_getElem?] at hs'
  cases hg : a.tmps[g]? with
  |none => rw [hg] at hs'; simp [undef] at hs'
  |some x => rw [hg] at hs'; simpa using hs'
 simp [this]
theorem X0L {j g : Nat} {a : Act} {w : World} {Z : j0q} {ν : j0N} (hd : (ops[j]?).bind (·.dst) = some g) (hT : T.get g = .av (.val undef)) (h : SatZ E Z ν T O a w) :
  yielded ops a.tmps j = none := by
 have hs := h.slot g
 rw [hT] at hs
 have hs' : a.tmps.getD g undef = undef := hs
 unfold yielded
 rw [hd]
 rw [Array.getD_eq_getD_getElem?] at hs'
 cases hg : a.tmps[g]? with
 |none => simp [hg]
 |some x =>
  rw [hg] at hs'
  have hx : x = undef := hs'
  subst hx
  simp [hg, undef]
theorem W0c {s : SV} (hs : VStep P E o T O T' O' s) (hg : o.guard = none) (hd : W0K E o.dst = true) (hr : LSQ P E ops Q l (T'.set o.dst s) O') : LSQ P E ops Q (o :: l) T O := by
 refine ⟨fun a w hsat => ?_⟩
 obtain ⟨Z, ν, h⟩ := hsat
 refine wpListIn_plain hg fun K hK => ?_
 refine Oper.wp_in _ hs.nd (hs.run Z ν a w h) ?_
 rintro a' w' ⟨v, Z', ν', rfl, h', hv⟩
 exact hK _ _ (hr.sq _ _ ⟨Z', ν', h'.put _ _ _ hd hv⟩)
theorem Y0G {j g : Nat} {want : Bool} (hg : o.guard = some (j, want)) (hj : (ops[j]?).bind (·.dst) = some g) (hb : T.get g = .av (.val (.bool want)))
  (hd : W0K E o.dst = true) {s : SV} (hs : VStep P E o T O T' O' s) (hr : LSQ P E ops Q l (T'.set o.dst s) O') : LSQ P E ops Q (o :: l) T O := by
 refine ⟨fun a w hsat => ?_⟩
 obtain ⟨Z, ν, h⟩ := hsat
 have hy := x0G hj hb h
 refine wpListIn_step fun K hK => ?_
 rw [if_pos (by simp [Region.wanted, hg, hy])]
 refine Oper.wp_in _ hs.nd (hs.run Z ν a w h) ?_
 rintro a' w' ⟨v, Z', ν', rfl, h', hv⟩
 exact hK _ _ (hr.sq _ _ ⟨Z', ν', h'.put _ _ _ hd hv⟩)
theorem Q1z {j g : Nat} {want : Bool} {b : Bool} (hg : o.guard = some (j, want)) (hj : (ops[j]?).bind (·.dst) = some g) (hb : T.get g = .av (.val (.bool b))) (hne : (b == want) = false) (hd : W0K E o.dst = true)
  (hr : LSQ P E ops Q l (T.set o.dst (.av (.val undef))) O) : LSQ P E ops Q (o :: l) T O := by
 refine ⟨fun a w hsat => ?_⟩
 obtain ⟨Z, ν, h⟩ := hsat
 have hy := x0G hj hb h
 refine wpListIn_step fun K hK => ?_
 rw [if_neg (by simp only [Region.wanted, hg, hy]; intro e; cases b <;> cases want <;> simp_all)]
 exact ⟨fun _ _ => trivial, hK _ _ (hr.sq _ _ ⟨Z, ν, h.putU _ hd⟩)⟩
section
variable {d : Nat} {op : Op} {ty : TypeId} {pos : String} {af : Array Edge} {s : SV} {rr : List Nat} {r : Nat} {x : Res} {j gd : Nat} {want b : Bool}
theorem j0j (hs : GV P E ⟨some d, op, ty, pos, af, none⟩ T O s rr []) (hd : E.wr d = true) (hr : LSQ P E ops Q l ((d, s) :: T) O) : LSQ P E ops Q (⟨some d, op, ty, pos, af, none⟩ :: l) T O :=
 W0c hs.v rfl hd hr
theorem q0U (hs : GV P E ⟨none, op, ty, pos, af, none⟩ T O s rr [(r, x)]) (hr : LSQ P E ops Q l T ((r, x) :: O)) : LSQ P E ops Q (⟨none, op, ty, pos, af, none⟩ :: l) T O :=
 W0c hs.v rfl rfl hr
theorem j0A (hs : VStep P E ⟨some d, op, ty, pos, af, none⟩ T O T' O' s) (hd : E.wr d = true) (hr : LSQ P E ops Q l ((d, s) :: T') O') : LSQ P E ops Q (⟨some d, op, ty, pos, af, none⟩ :: l) T O :=
 W0c hs rfl hd hr
theorem x0m (hs : GV P E ⟨some d, op, ty, pos, af, some (j, want)⟩ T O s rr []) (hj : (ops[j]?).bind (·.dst) = some gd) (hb : T.get gd = .av (.val (.bool want)))
  (hd : E.wr d = true) (hr : LSQ P E ops Q l ((d, s) :: T) O) : LSQ P E ops Q (⟨some d, op, ty, pos, af, some (j, want)⟩ :: l) T O :=
 Y0G rfl hj hb hd hs.v hr
theorem k0p (hj : (ops[j]?).bind (·.dst) = some gd) (hb : T.get gd = .av (.val (.bool b))) (hne : (b == want) = false) (hd : E.wr d = true)
  (hr : LSQ P E ops Q l ((d, .av (.val undef)) :: T) O) : LSQ P E ops Q (⟨some d, op, ty, pos, af, some (j, want)⟩ :: l) T O :=
 Q1z rfl hj hb hne hd hr
theorem V0X (hj : (ops[j]?).bind (·.dst) = some gd) (hb : T.get gd = .av (.val undef)) (hd : E.wr d = true)
  (hr : LSQ P E ops Q l ((d, .av (.val undef)) :: T) O) : LSQ P E ops Q (⟨some d, op, ty, pos, af, some (j, want)⟩ :: l) T O := by
 refine ⟨fun a w hsat => ?_⟩
 obtain ⟨Z, ν, h⟩ := hsat
 have hy := X0L hj hb h
 refine wpListIn_step fun K hK => ?_
 rw [if_neg (by simp [Region.wanted, hy])]
 exact ⟨fun _ _ => trivial, hK _ _ (hr.sq _ _ ⟨Z, ν, h.putU (some d) hd⟩)⟩
end
theorem SQ.more {φ : Act → World → Prop} (hT : ∀ d, T'.get d = T.get d) (h : SQ E T' O φ) : SQ E T O φ := fun a w hs => h a w (Sat.congr hT (fun _ => rfl) hs)
theorem Tab.get_same {g : Nat} {s : SV} (h : T.get g = s) : ∀ d, Tab.get ((g, s) :: T) d = T.get d := fun d => by
 by_cases hd : g = d
 ·subst hd; rw [Tab.get_cons_eq, h]
 ·rw [Tab.get_cons_ne _ _ hd]
theorem SQ.split {φ : Act → World → Prop} (g : Nat) {b : Bool} (hT : T.get g = .av (.val (.bool b))) (ht : b = true → SQ E ((g, .av (.val (.bool true))) :: T) O φ)
  (hf : b = false → SQ E ((g, .av (.val (.bool false))) :: T) O φ) : SQ E T O φ := by
 cases b with
 |true => exact SQ.more (Tab.get_same hT) (ht rfl)
 |false => exact SQ.more (Tab.get_same hT) (hf rfl)
theorem j0f {d : Option Nat} {op : Op} {ty : TypeId} {pos : String} {af : Array Edge} {j g : Nat} {want : Bool} {b : Bool} (_hj : (ops[j]?).bind (·.dst) = some g) (hT : T.get g = .av (.val (.bool b)))
  (ht : b = true → LSQ P E ops Q (⟨d, op, ty, pos, af, some (j, want)⟩ :: l) ((g, .av (.val (.bool true))) :: T) O) (hf : b = false → LSQ P E ops Q (⟨d, op, ty, pos, af, some (j, want)⟩ :: l) ((g, .av (.val (.bool false))) :: T) O) : LSQ P E ops Q (⟨d, op, ty, pos, af, some (j, want)⟩ :: l) T O :=
 ⟨SQ.split g hT (fun e => (ht e).sq) (fun e => (hf e).sq)⟩
theorem j0T {id : Nat} {l : List Oper} (h : LSQ P E l.toArray Q l T O) : CQ P E Q T O (Code.region id l.toArray false) :=
 ⟨fun a w hs => wpIn_region_lit (h.sq a w hs)⟩
theorem v0y {x y : Code} (h : CQ P E (Exit.then (y.wpIn (fc E.round) 0 P Q) Q) T O x) : CQ P E Q T O (Code.seq x y) := ⟨fun a w hs => wpIn_seq (h.sq a w hs)⟩
theorem J0Y {y : Code} (h : CQ P E Q T O y) : SQ E T O (Exit.then (y.wpIn (fc E.round) 0 P Q) Q .normal) := h.sq
theorem w0f {next : Act → World → Prop} {id : Nat} (h : SQ E T O (Q (.exit id))) : SQ E T O (Exit.then next Q (.exit id)) := h
theorem w0K {next : Act → World → Prop} (h : SQ E T O (Q .ret)) : SQ E T O (Exit.then next Q .ret) := h
theorem J0q (h : SQ E T O (Q .normal)) : CQ P E Q T O Code.skip := ⟨fun a w hs => wpIn_skip (h a w hs)⟩
theorem Z0g (h : SQ E T O (Q .ret)) : CQ P E Q T O Code.ret := ⟨fun a w hs => wpIn_ret (h a w hs)⟩
theorem V0m {id : Nat} (h : SQ E T O (Q (.exit id))) : CQ P E Q T O (Code.exit id) := ⟨fun a w hs => wpIn_exit (h a w hs)⟩
theorem z0J {id : Nat} {c : Code} (h : CQ P E (Exit.inBlock id Q) T O c) : CQ P E Q T O (Code.block id c) := ⟨fun a w hs => wpIn_block (h.sq a w hs)⟩
theorem x0E {id : Nat} (h : SQ E T O (Q .normal)) : SQ E T O (Exit.inBlock id Q .normal) := h
theorem v0v {id : Nat} (h : SQ E T O (Q .ret)) : SQ E T O (Exit.inBlock id Q .ret) := h
theorem v0h {id : Nat} (h : SQ E T O (Q .normal)) : SQ E T O (Exit.inBlock id Q (.exit id)) := fun a w hs => by
 show if id = id then Q .normal a w else Q (.exit id) a w
 rw [if_pos rfl]; exact h a w hs
theorem j0a {c : Nat} {x y : Code} {b : Bool} (hT : T.get c = .av (.val (.bool b))) (ht : b = true → CQ P E Q T O x) (hf : b = false → CQ P E Q T O y) :
  CQ P E Q T O (Code.cond (.tmp c) x y) := by
 refine ⟨fun a w hsat => ?_⟩
 obtain ⟨Z, ν, h⟩ := hsat
 have hs := h.slot c
 rw [hT] at hs
 exact wpIn_cond_split (t := b) hs (fun e => (ht e).sq a w ⟨Z, ν, h⟩) (fun e => (hf e).sq a w ⟨Z, ν, h⟩)
theorem y0h {c : Nat} {x y : Code} (hT : T.get c = .av (.val (.bool true))) (ht : CQ P E Q T O x) : CQ P E Q T O (Code.cond (.tmp c) x y) :=
 j0a hT (fun _ => ht) (fun e => by simp at e)
theorem y0g {c : Nat} {x y : Code} (hT : T.get c = .av (.val (.bool false))) (hf : CQ P E Q T O y) : CQ P E Q T O (Code.cond (.tmp c) x y) :=
 j0a hT (fun e => by simp at e) (fun _ => hf)
def Ent (T : Tab) (O : Own) (T' : Tab) (O' : Own) : Prop := ∀ E a w, Sat E T O a w → Sat E T' O' a w
theorem q0c {T' : Tab} {O' : Own} (h : Ent T O T' O') : SQ E T O (Exit.then (fun a w => Sat E T' O' a w) Q .normal) := fun a w hs => h E a w hs
theorem w0h {c : Code} (h : Ent T O T' O') (hc : CQ P E Q T' O' c) : CQ P E Q T O c := ⟨fun a w hs => hc.sq a w (h E a w hs)⟩
theorem j0g {γ : Type} {c : Code} (Tof : γ → Tab) (Oof : γ → Own) (φ : γ → Prop) (μ : γ → Nat) (g0 : γ) (h0 : φ g0) (hstart : Ent T O (Tof g0) (Oof g0))
  (hbody : ∀ g, φ g → CQ P E (Exit.then (fun a w => ∃ g', φ g' ∧ μ g' < μ g ∧ Sat E (Tof g') (Oof g') a w) Q) (Tof g) (Oof g) c) : CQ P E Q T O (Code.loop c) := by
 refine ⟨fun a w hs => ?_⟩
 refine wpIn_loop_ghost (fun n a w => ∃ g, μ g = n ∧ φ g ∧ Sat E (Tof g) (Oof g) a w) (μ g0) ⟨g0, rfl, h0, hstart E a w hs⟩ ?_
 rintro n a w ⟨g, rfl, hg, hsat⟩
 refine wpIn_mono ((hbody g hg).sq a w hsat) ?_
 intro e a' w' hq
 cases e with
 |normal => obtain ⟨g', h1, h2, h3⟩ := hq; exact ⟨μ g', h2, g', rfl, h1, h3⟩
 |exit id => exact hq
 |goto l => exact hq
 |ret => exact hq
 |panic ch => exact hq
 |outgrown => exact hq
theorem j0b {γ : Type} {Tof : γ → Tab} {Oof : γ → Own} {φ : γ → Prop} {μ : γ → Nat} {g : γ} (g' : γ) (h1 : φ g') (h2 : μ g' < μ g) (h3 : Ent T O (Tof g') (Oof g')) :
  SQ E T O (Exit.then (fun a w => ∃ g', φ g' ∧ μ g' < μ g ∧ Sat E (Tof g') (Oof g') a w) Q .normal) := fun a w hs => ⟨g', h1, h2, h3 E a w hs⟩
end
def SLe (s s' : SV) : Prop := ∀ Z ν w v, s.ok Z ν w v → s'.ok Z ν w v
theorem SLe.refl (s : SV) : SLe s s := fun _ _ _ _ h => h
theorem SLe.of_eq {s s' : SV} (h : s = s') : SLe s s' := by subst h; exact SLe.refl s
theorem SLe.val {u v : Value} (h : u = v) : SLe (.av (.val u)) (.av (.val v)) := by subst h; exact SLe.refl _
theorem SLe.int {k : IntKind} {m n : Int} (h : m = n) : SLe (.av (.val (.int k m))) (.av (.val (.int k n))) := by subst h; exact SLe.refl _
inductive RLe : Res → Res → Prop
 |refl (x : Res) : RLe x x
 |row {ty sz n n' : Nat} {f f' : Nat → Nat → AV} (hn : n = n') (h : ∀ i, i < n → ∀ j, j < sz → f i j = f' i j) : RLe (.row ty sz n f) (.row ty sz n' f')
 |cells {cs cs' : List SV} (h : All2 SLe cs cs') : RLe (.cells cs) (.cells cs')
theorem RLe.ok {x y : Res} (h : RLe x y) {E : Env} {Z : j0q} {ν : j0N} {w : World} {v : Value} (hx : x.ok E Z ν w v) : y.ok E Z ν w v := by
 cases h with
 |refl => exact hx
 |row hn h =>
  subst hn
  rcases hx with h1 | ⟨b, cap, arr, h1, h2, h3, h4, h5, h6, h7, h8⟩
  ·exact .inl h1
  ·exact .inr ⟨b, cap, arr, h1, h2, h3, h4, h5, h6, h7, fun i hi j hj => let ⟨u, hu, hk⟩ := h8 i hi j hj; ⟨u, hu, by rw [← h i hi j hj]; exact hk⟩⟩
 |cells h =>
  obtain ⟨b, ty, arr, h1, h2, h3, h4, h5, h6⟩ := hx
  refine ⟨b, ty, arr, h1, h2, h3, h4, h5.trans h.len, fun i s' hs' => ?_⟩
  have hl := h.len
  have hi := (List.getElem?_eq_some_iff.1 hs').1
  have hi' : i < _ := hl.symm ▸ hi
  obtain ⟨s2, hs2, hle⟩ := h.get i _ (List.getElem?_eq_getElem hi')
  rw [hs'] at hs2
  cases hs2
  obtain ⟨u, hu, hk⟩ := h6 i _ (List.getElem?_eq_getElem hi')
  exact ⟨u, hu, hle _ _ _ _ hk⟩
def Y1o (T : Tab) : Tab → Prop
 |[] => True
 |(d, s) :: T' => SLe (T.get d) s ∧ Y1o T T'
def V1z (O : Own) : Own → Prop
 |[] => True
 |(r, x) :: O' => (∃ y, look O r = some y ∧ RLe y x) ∧ V1z O O'
theorem ent {T : Tab} {O : Own} {T' : Tab} {O' : Own} (hT : Y1o T T') (hO : V1z O O') : Ent T O T' O' := by
 rintro E a w ⟨Z, ν, h⟩
 have hTs : ∀ (T' : Tab), Y1o T T' → ∀ d, (T'.get d).ok Z ν w (a.tmps.getD d undef) := by
  intro T'
  induction T' with
  |nil => intro _ d; trivial
  |cons p T' ih =>
   obtain ⟨k, s⟩ := p
   intro ht d
   by_cases hk : k = d
   ·subst hk; rw [Tab.get_cons_eq]; exact ht.1 _ _ _ _ (h.slot k)
   ·rw [Tab.get_cons_ne _ _ hk]; exact ih ht.2 d
 have hOs : ∀ (O' : Own), V1z O O' → ∀ r x, look O' r = some x → ∃ y, look O r = some y ∧ RLe y x := by
  intro O'
  induction O' with
  |nil => intro _ r x hx; simp [look] at hx
  |cons p O' ih =>
   obtain ⟨k, y⟩ := p
   intro ho r x hx
   by_cases hk : k = r
   ·subst hk; rw [j0l] at hx; cases hx; exact ho.1
   ·rw [j0d _ _ hk] at hx; exact ih ho.2 r x hx
 refine ⟨Z, ν, h.defers, h.tsize, h.cst, h.pin, h.base, ⟨fun r x hx => ?_, fun r r' hne h1 h2 b hb => ?_⟩, hTs T' hT⟩
 ·obtain ⟨y, hy, hle⟩ := hOs O' hO r x hx
  exact hle.ok (h.own.each r y hy)
 ·obtain ⟨x, hx⟩ := Option.ne_none_iff_exists'.1 h1
  obtain ⟨x', hx'⟩ := Option.ne_none_iff_exists'.1 h2
  obtain ⟨y, hy, _⟩ := hOs O' hO r x hx
  obtain ⟨y', hy', _⟩ := hOs O' hO r' x' hx'
  exact h.own.apart r r' hne (by rw [hy]; simp) (by rw [hy']; simp) b hb
end Go.Vc
end
section
namespace Go.Vc
open Go Go.RowKit
def comp {α : Type} : (Nat → Bool) → List (List (Nat × α)) → List (Nat × α) → List (Nat × α)
 |_, [], A => A
 |fl, x :: xs, A => comp (fun j => fl (j + 1)) xs (if fl 0 then x ++ A else A)
def keys {α : Type} (x : List (Nat × α)) : List Nat := x.map (·.1)
theorem q0o {α : Type} (d : Nat) : ∀ (x A : List (Nat × α)), look (x ++ A) d = match look x d with | some s => some s | none => look A d
 |[], A => rfl
 |(k, s) :: x, A => by
  by_cases h : k = d
  ·subst h; simp [look]
  ·rw [List.cons_append, j0d _ _ h, j0d _ _ h, q0o d x A]
theorem z0q {α : Type} {d : Nat} : ∀ {x : List (Nat × α)}, d ∉ keys x → look x d = none
 |[], _ => rfl
 |(k, s) :: x, h => by
  simp only [keys, List.map_cons, List.mem_cons, not_or] at h
  rw [j0d _ _ (fun e => h.1 e.symm)]
  exact z0q h.2
theorem v0e {α : Type} {d : Nat} {x A : List (Nat × α)} (h : d ∉ keys x) : look (x ++ A) d = look A d := by
 rw [q0o, z0q h]
theorem v0r {α : Type} {d : Nat} (x : List (Nat × α)) {A B : List (Nat × α)} (h : look A d = look B d) : look (x ++ A) d = look (x ++ B) d := by
 rw [q0o, q0o, h]
theorem q0O {α : Type} (d : Nat) : ∀ (xs : List (List (Nat × α))) (fl fl' : Nat → Bool) (A B : List (Nat × α)), look A d = look B d →
  (∀ (j : Nat) (x : List (Nat × α)), xs[j]? = some x → d ∈ keys x → fl j = fl' j) → look (comp fl xs A) d = look (comp fl' xs B) d
 |[], _, _, _, _, h, _ => h
 |x :: xs, fl, fl', A, B, h, hf => by
  unfold comp
  refine q0O d xs _ _ _ _ ?_ (fun j y hy hd => hf (j + 1) y (by simpa using hy) hd)
  by_cases hd : d ∈ keys x
  ·rw [hf 0 x (by simp) hd]
   split
   ·exact v0r x h
   ·exact h
  ·split <;> split <;> simp only [v0e hd, h]
theorem W0I {α : Type} (y : List (Nat × α)) (d : Nat) : ∀ (xs : List (List (Nat × α))) (fl : Nat → Bool) (A : List (Nat × α)),
  (∀ (j : Nat) (x : List (Nat × α)), xs[j]? = some x → fl j = true → ∀ k ∈ keys y, k ∉ keys x) → look (comp fl xs (y ++ A)) d = look (y ++ comp fl xs A) d
 |[], _, _, _ => rfl
 |x :: xs, fl, A, h => by
  unfold comp
  have hrest := W0I y d xs (fun j => fl (j + 1))
  by_cases h0 : fl 0 = true
  ·simp only [h0, if_true]
   have hx := h 0 x (by simp) h0
   have hA : look (x ++ (y ++ A)) d = look (y ++ (x ++ A)) d := by
    by_cases hd : d ∈ keys y
    ·rw [v0e (hx d hd), q0o, q0o]
     have : look y d ≠ none := by
      intro e
      clear h hrest hx
      induction y with
      |nil => simp [keys] at hd
      |cons p y ih =>
       obtain ⟨k, s⟩ := p
       by_cases hk : k = d
       ·subst hk; simp [look] at e
       ·rw [j0d _ _ hk] at e
        exact ih (by simpa [keys, Ne.symm hk] using hd) e
     cases hl : look y d with
     |none => exact absurd hl this
     |some s => rfl
    ·exact (v0r x (v0e hd)).trans (v0e hd).symm
   calc look (comp (fun j => fl (j + 1)) xs (x ++ (y ++ A))) d = look (comp (fun j => fl (j + 1)) xs (y ++ (x ++ A))) d := q0O d xs _ _ _ _ hA (fun _ _ _ _ => rfl)
    _ = look (y ++ comp (fun j => fl (j + 1)) xs (x ++ A)) d := hrest (x ++ A) (fun j z hz hf k hk => h (j + 1) z (by simpa using hz) hf k hk)
  ·simp only [h0]
   exact hrest A (fun j z hz hf k hk => h (j + 1) z (by simpa using hz) hf k hk)
theorem V0k {α : Type} (d : Nat) : ∀ (xs : List (List (Nat × α))) (i : Nat) (x : List (Nat × α)) (fl : Nat → Bool) (A : List (Nat × α)), xs[i]? = some x → fl i = false →
  (∀ (j : Nat) (y : List (Nat × α)), xs[j]? = some y → i < j → fl j = true → ∀ k ∈ keys x, k ∉ keys y) →
  look (comp (fun j => fl j || Nat.beq j i) xs A) d = look (x ++ comp fl xs A) d
 |[], i, x, fl, A, hx, _, _ => by simp at hx
 |z :: zs, 0, x, fl, A, hx, hf, h => by
  simp only [List.getElem?_cons_zero, Option.some.injEq] at hx
  subst hx
  unfold comp
  simp only [hf, Bool.false_or, Nat.beq_refl, if_true, if_false, Bool.false_eq_true]
  rw [← W0I z d zs _ A (fun j y hy hfl k hk => h (j + 1) y (by simpa using hy) (by omega) hfl k hk)]
  refine q0O d zs _ _ _ _ rfl (fun j y _ _ => ?_)
  have : Nat.beq (j + 1) 0 = false := rfl
  simp [this]
 |z :: zs, i + 1, x, fl, A, hx, hf, h => by
  unfold comp
  dsimp only
  have h0 : (fl 0 || Nat.beq 0 (i + 1)) = fl 0 := by
   have : Nat.beq 0 (i + 1) = false := rfl
   simp [this]
  simp only [h0]
  have := V0k d zs i x (fun j => fl (j + 1)) (if fl 0 then z ++ A else A) (by simpa using hx) hf
   (fun j y hy hij hfl k hk => h (j + 1) y (by simpa using hy) (by omega) hfl k hk)
  rw [← this]
  refine q0O d zs _ _ _ _ rfl (fun j y _ _ => ?_)
  rfl
structure Rec where
 tw : Tab
 rr : List Nat
 upd : Own
 fr : List Nat := []
def Res.fresh (r : Nat) : Res → Bool
 |.cells cs => cs.all (fun s => !s.mentions r)
 |.row .. => true
 |.obj .. => true
 |.srow _ _ _ cs => cs.all (fun s => !s.mentions r)
def Y0R (r : Nat) (T : Tab) (O : Own) : Prop := (∀ d s, look T d = some s → s.mentions r = false) ∧ ∀ k x, look O k = some x → k ≠ r ∧ x.fresh r = true
def y0P (r : Nat) (T : Tab) : Bool := T.all (fun p => !p.2.mentions r)
def y0O (r : Nat) (O : Own) : Bool := O.all (fun p => !Nat.beq p.1 r && p.2.fresh r)
theorem q0K {α : Type} : ∀ {l : List (Nat × α)} {d : Nat} {s : α}, look l d = some s → (d, s) ∈ l
 |[], d, s, h => by simp [look] at h
 |(k, x) :: l, d, s, h => by
  by_cases hk : k = d
  ·subst hk; rw [j0l] at h; cases h; simp
  ·rw [j0d _ _ hk] at h; exact List.mem_cons_of_mem _ (q0K h)
theorem W0N {r : Nat} {T : Tab} (h : y0P r T = true) {d : Nat} {s : SV} (hl : look T d = some s) : s.mentions r = false := by
 simp only [y0P, List.all_eq_true] at h
 simpa using h _ (q0K hl)
theorem W0M {r : Nat} {O : Own} (h : y0O r O = true) {k : Nat} {x : Res} (hl : look O k = some x) : k ≠ r ∧ x.fresh r = true := by
 simp only [y0O, List.all_eq_true, Bool.and_eq_true] at h
 have := h _ (q0K hl)
 exact ⟨fun e => by subst e; simp at this, this.2⟩
theorem J0H {α : Type} {d : Nat} {s : α} : ∀ (xs : List (List (Nat × α))) (fl : Nat → Bool) (A : List (Nat × α)), look (comp fl xs A) d = some s → look A d = some s ∨ ∃ j y, xs[j]? = some y ∧ fl j = true ∧ look y d = some s
 |[], fl, A, h => .inl h
 |y :: xs, fl, A, h => by
  unfold comp at h
  rcases J0H xs _ _ h with h1 | ⟨j, z, hz, hf, hl⟩
  ·by_cases hf : fl 0 = true
   ·rw [if_pos hf, q0o] at h1
    cases hy : look y d with
    |some t => rw [hy] at h1; cases h1; exact .inr ⟨0, y, by simp, hf, hy⟩
    |none => rw [hy] at h1; exact .inl h1
   ·rw [if_neg hf] at h1; exact .inl h1
  ·exact .inr ⟨j + 1, z, by simpa using hz, hf, hl⟩
def GS (P : Program) (E : Env) (ops : Array Oper) (o : Oper) (x : Rec) (T : Tab) (O : Own) : Prop :=
 (∀ c, o.op ≠ .defer c) ∧ ∀ (T' : Tab) (O' : Own), (∀ d ∈ o.looksAt ops, T'.get d = T.get d) → (∀ r ∈ x.rr, look O' r = look O r) → (∀ r ∈ x.fr, Y0R r T' O') → ∀ a w, Sat E T' O' a w →
  if Region.wanted o (yielded ops a.tmps) = true then o.wp P a w (fun a' w' => Sat E (x.tw ++ T') (x.upd ++ O') a' w') (fun _ _ _ => False) else Sat E (x.tw ++ T') (x.upd ++ O') (a.put o.dst undef) w
def DR (P : Program) (E : Env) (ops : Array Oper) : List (Oper × Rec) → Tab → Own → Prop
 |[], _, _ => True
 |(o, x) :: l, T, O => GS P E ops o x T O ∧ keys x.tw = o.dst.toList ∧ DR P E ops l (x.tw ++ T) (x.upd ++ O)
section
variable {P : Program} {E : Env} {ops : Array Oper}
theorem DR.at : ∀ {l : List (Oper × Rec)} {T : Tab} {O : Own}, DR P E ops l T O → ∀ (i : Nat) (o : Oper) (x : Rec), l[i]? = some (o, x) →
  GS P E ops o x (comp (fun j => Nat.blt j i) (l.map (·.2.tw)) T) (comp (fun j => Nat.blt j i) (l.map (·.2.upd)) O) ∧ keys x.tw = o.dst.toList
 |[], _, _, _, i, o, x, hi => by simp at hi
 |(o', x') :: l, T, O, h, 0, o, x, hi => by
  simp only [List.getElem?_cons_zero, Option.some.injEq, Prod.mk.injEq] at hi
  obtain ⟨rfl, rfl⟩ := hi
  have c0 : ∀ {α : Type} (xs : List (List (Nat × α))) (A : List (Nat × α)), comp (fun j => Nat.blt j 0) xs A = A := by
   intro α xs
   have : ∀ (fl : Nat → Bool), (∀ j, fl j = false) → ∀ A, comp fl xs A = A := by
    induction xs with
    |nil => intro fl _ A; rfl
    |cons y ys ih => intro fl hf A; unfold comp; simp only [hf 0]; exact ih _ (fun j => hf (j + 1)) A
   exact this _ (fun j => rfl)
  rw [c0, c0]
  exact ⟨h.1, h.2.1⟩
 |(o', x') :: l, T, O, h, i + 1, o, x, hi => by
  have := DR.at h.2.2 i o x (by simpa using hi)
  simp only [List.map_cons, comp]
  have hb : Nat.blt 0 (i + 1) = true := rfl
  have hsh : ∀ j, Nat.blt (j + 1) (i + 1) = Nat.blt j i := fun j => rfl
  simp only [hb, if_true, hsh]
  exact this
def reach (l : List Oper) : Nat → Nat → Nat → Bool
 |0, _, _ => false
 |f + 1, j, i => match l[j]? with
  |none => false
  |some o => o.after.toList.any fun e => Region.binds .any e && (Nat.beq e.on i || reach l f e.on i)
def q0T (x y : List Nat) : Bool := x.any fun a => y.any fun b => Nat.beq a b
theorem q0E {x y : List Nat} {k : Nat} (hx : k ∈ x) (hy : k ∈ y) : q0T x y = true := by
 simp only [q0T, List.any_eq_true]
 exact ⟨k, hx, k, hy, by simp⟩
def meets (ops : Array Oper) (a b : Oper × Rec) : Bool :=
 q0T a.1.dst.toList (b.1.looksAt ops) || q0T a.1.dst.toList b.1.dst.toList || q0T b.1.dst.toList (a.1.looksAt ops) ||
 q0T (keys a.2.upd) b.2.rr || q0T (keys a.2.upd) (keys b.2.upd) || q0T (keys b.2.upd) a.2.rr
def below (n : Nat) (p : Nat → Bool) : Bool := (List.range n).all p
theorem w0x {n : Nat} {p : Nat → Bool} (h : below n p = true) {i : Nat} (hi : i < n) : p i = true := by
 simp only [below, List.all_eq_true, List.mem_range] at h
 exact h i hi
def Y0p (ops : Array Oper) (l : List (Oper × Rec)) (i j : Nat) : Bool :=
 match l[i]?, l[j]? with
 |some a, some b => meets ops a b
 |_, _ => false
def Z0n (ops : Array Oper) (l : List (Oper × Rec)) : Bool :=
 below l.length fun j => (match l[j]? with | some x => x.1.after.toList.all fun e => !Region.binds .any e || Nat.blt e.on j | none => true) &&
  below j fun i => !Y0p ops l i j || reach (l.map (·.1)) 4 j i
def J1G (l : List (Oper × Rec)) (i r : Nat) : Bool := below l.length fun j => Nat.beq j i || (match l[j]? with | some y => y0P r y.2.tw && y0O r y.2.upd | none => true) || (Nat.blt i j && reach (l.map (·.1)) 4 j i)
def V0x (l : List (Oper × Rec)) (T : Tab) (O : Own) : Bool :=
 below l.length fun i => match l[i]? with | some x => x.2.fr.all fun r => y0P r T && y0O r O && J1G l i r | none => true
theorem w0t {l : List Oper} {D : Nat → Prop} (hD : ∀ j, D j → ∀ o, l[j]? = some o → ∀ e ∈ o.after.toList, Region.binds .any e = true → D e.on) :
  ∀ (f j i : Nat) (o : Oper), l[j]? = some o → (∀ e ∈ o.after.toList, Region.binds .any e = true → D e.on) → reach l f j i = true → D i
 |0, _, _, _, _, _, h => by simp [reach] at h
 |f + 1, j, i, o, hj, ho, h => by
  unfold reach at h
  rw [hj] at h
  simp only [List.any_eq_true, Bool.and_eq_true, Bool.or_eq_true] at h
  obtain ⟨e, he, hb, h | h⟩ := h
  ·have : e.on = i := Nat.eq_of_beq_eq_true h
   rw [← this]; exact ho e he hb
  ·have hde := ho e he hb
   cases hl : l[e.on]? with
   |none =>
    exfalso
    cases f with
    |zero => simp [reach] at h
    |succ f => simp [reach, hl] at h
   |some o' => exact w0t hD f e.on i o' hl (hD e.on hde o' hl) h
theorem Q0w : ∀ (L : List Bool) (i : Nat), L[i]? = some false → ((L.set i true).filter id).length = (L.filter id).length + 1
 |[], i, h => by simp at h
 |b :: L, 0, h => by simp at h; subst h; simp
 |b :: L, i + 1, h => by
  simp only [List.set_cons_succ, List.filter_cons]
  have := Q0w L i (by simpa using h)
  split <;> simp [this]
theorem Q0K {l : List (Oper × Rec)} {i j : Nat} {a b : Oper × Rec} (hi : l[i]? = some a) (hj : l[j]? = some b) (h : meets ops a b = true) : Y0p ops l i j = true := by
 simp [Y0p, hi, hj, h]
theorem Z0o {Q : Exit → Act → World → Prop} {l : List (Oper × Rec)} {T : Tab} {O : Own} (hops : ops = (l.map (·.1)).toArray) (hdr : DR P E ops l T O) (hok : Z0n ops l = true) (hfr : V0x l T O = true)
  (hQ : ∀ a w, Sat E (comp (fun _ => true) (l.map (·.2.tw)) T) (comp (fun _ => true) (l.map (·.2.upd)) O) a w → Q .normal a w) :
  ∀ (fuel : Nat) (listed : Array Bool) (a : Act) (w : World), listed.size = l.length →
   (∀ j, listed.getD j false = true → ∀ o, (l.map (·.1))[j]? = some o → ∀ e ∈ o.after.toList, Region.binds .any e = true → listed.getD e.on false = true) →
   (l.length - fuel ≤ (listed.toList.filter id).length) →
   Sat E (comp (fun j => listed.getD j false) (l.map (·.2.tw)) T) (comp (fun j => listed.getD j false) (l.map (·.2.upd)) O) a w →
   wpAnyIn (fc E.round) 0 P .any ops Q fuel listed a w := by
 have hsz : ops.size = l.length := by rw [hops]; simp
 have hop : ∀ i : Nat, ops[i]? = (l.map (·.1))[i]? := fun i => by rw [hops]; simp
 have hall : ∀ (listed : Array Bool) (a : Act) (w : World), listed.size = l.length → Region.ready .any ops listed = [] →
   Sat E (comp (fun j => listed.getD j false) (l.map (·.2.tw)) T) (comp (fun j => listed.getD j false) (l.map (·.2.upd)) O) a w → Q .normal a w := by
  intro listed a w hls hr hs
  have hfull : ∀ i, i < l.length → listed.getD i false = true := by
   intro i
   induction i using Nat.strongRecOn with
   |_ i ih =>
    intro hi
    cases hl : listed.getD i false with
    |true => rfl
    |false =>
     exfalso
     have hmem : i ∈ Region.ready .any ops listed := by
      simp only [Region.ready, List.mem_filter, List.mem_range, Bool.and_eq_true]
      refine ⟨by omega, ?_, ?_⟩
      ·have : listed.getD i true = listed.getD i false := by
        simp [Array.getD_eq_getD_getElem?, Array.getElem?_eq_getElem (show i < listed.size by omega)]
       rw [this, hl]; rfl
      ·rw [hop i]
       obtain ⟨x, hx⟩ : ∃ x, l[i]? = some x := ⟨l[i], List.getElem?_eq_getElem hi⟩
       simp only [List.getElem?_map, hx, Option.map_some, Option.getD_some]
       rw [Array.all_eq_true']
       intro e he
       have h1 := w0x hok hi
       simp only [Bool.and_eq_true, hx, List.all_eq_true] at h1
       have h2 := h1.1 e (Array.mem_toList_iff.2 he)
       cases hb : Region.binds .any e with
       |false => rfl
       |true =>
        rw [hb] at h2
        simp only [Bool.not_true, Bool.false_or] at h2
        have hlt := j0H h2
        simp [ih e.on hlt (by omega)]
     rw [hr] at hmem
     cases hmem
  refine hQ a w (Sat.congr (fun d => ?_) (fun r => ?_) hs)
  ·unfold Tab.get
   rw [q0O d (l.map (·.2.tw)) (fun _ => true) (fun j => listed.getD j false) T T rfl (fun j x hx _ => (hfull j (by
    have := (List.getElem?_eq_some_iff.1 hx).1; simpa using this)).symm)]
  ·exact q0O r (l.map (·.2.upd)) (fun _ => true) (fun j => listed.getD j false) O O rfl (fun j x hx _ => (hfull j (by
    have := (List.getElem?_eq_some_iff.1 hx).1; simpa using this)).symm)
 intro fuel
 induction fuel with
 |zero =>
  intro listed a w hls hcl hcount hs
  have hfull : ∀ b ∈ listed.toList, b = true := by
   have h1 : (listed.toList.filter id).length = listed.toList.length := by
    have := List.length_filter_le id listed.toList
    have h2 : listed.toList.length = l.length := by rw [Array.length_toList, hls]
    omega
   have := List.length_filter_eq_length_iff.1 h1
   exact this
  have hr : Region.ready .any ops listed = [] := by
   simp only [Region.ready, List.filter_eq_nil_iff, List.mem_range, Bool.and_eq_true, not_and]
   intro i hi hni
   exfalso
   have hi' : i < listed.size := by omega
   have : listed[i] = true := hfull _ (Array.getElem_mem_toList hi')
   simp [Array.getD_eq_getD_getElem?, Array.getElem?_eq_getElem hi', this] at hni
  exact ⟨hr, hall listed a w hls hr hs⟩
 |succ fuel ih =>
  intro listed a w hls hcl hcount hs
  refine ⟨fun hr => hall listed a w hls hr hs, fun i hi => ?_⟩
  simp only [Region.ready, List.mem_filter, List.mem_range, Bool.and_eq_true] at hi
  obtain ⟨hilt, hni, hedge⟩ := hi
  have hi' : i < listed.size := by omega
  have hil : i < l.length := by omega
  have hnf : listed.getD i false = false := by
   simp [Array.getD_eq_getD_getElem?, Array.getElem?_eq_getElem hi'] at hni ⊢
   exact hni
  obtain ⟨⟨o, x⟩, hx⟩ : ∃ x, l[i]? = some x := ⟨l[i], List.getElem?_eq_getElem hil⟩
  have hoi : ops[i]? = some o := by rw [hop i]; simp [hx]
  have hedges : ∀ e ∈ o.after.toList, Region.binds .any e = true → listed.getD e.on false = true := by
   intro e he hb
   rw [hoi] at hedge
   simp only [Option.map_some, Option.getD_some, Array.all_eq_true'] at hedge
   have := hedge e (Array.mem_toList_iff.1 he)
   simpa [hb] using this
  obtain ⟨hgs, hkeys⟩ := hdr.at i o x hx
  have hto : (l.map (·.1))[i]? = some o := by simp [hx]
  have horder : ∀ (j : Nat) (y : Oper × Rec), l[j]? = some y → j ≠ i → (meets ops (o, x) y = true → i < j → listed.getD j false = false) ∧ (meets ops y (o, x) = true → j < i → listed.getD j false = true) := by
   intro j y hy hne
   have hjl : j < l.length := (List.getElem?_eq_some_iff.1 hy).1
   refine ⟨fun hm hij => ?_, fun hm hji => ?_⟩
   ·have h1 := w0x hok hjl
    simp only [Bool.and_eq_true, hy] at h1
    have h2 := w0x h1.2 hij
    rw [Q0K hx hy hm] at h2
    simp only [Bool.not_true, Bool.false_or] at h2
    cases hlj : listed.getD j false with
    |false => rfl
    |true =>
     have := w0t (l := l.map (·.1)) (D := fun k => listed.getD k false = true) hcl 4 j i y.1 (by simp [hy]) (hcl j hlj y.1 (by simp [hy])) h2
     rw [hnf] at this
     cases this
   ·have h1 := w0x hok hil
    simp only [Bool.and_eq_true, hx] at h1
    have h2 := w0x h1.2 hji
    rw [Q0K hy hx hm] at h2
    simp only [Bool.not_true, Bool.false_or] at h2
    exact w0t (l := l.map (·.1)) (D := fun k => listed.getD k false = true) hcl 4 i j o hto hedges h2
  have hfl : ∀ (j : Nat) (y : Oper × Rec), l[j]? = some y → (meets ops (o, x) y = true ∧ meets ops y (o, x) = true) → listed.getD j false = Nat.blt j i := by
   intro j y hy hm
   by_cases hji : j = i
   ·subst hji
    rw [hnf]
    exact (Bool.eq_false_iff.2 fun h => absurd (j0H h) (Nat.lt_irrefl _)).symm
   ·rcases Nat.lt_or_gt_of_ne hji with h | h
    ·rw [(horder j y hy hji).2 hm.2 h]
     exact (Nat.ble_eq_true_of_le h).symm
    ·rw [(horder j y hy hji).1 hm.1 h]
     exact (Bool.eq_false_iff.2 fun h' => absurd (j0H h') zO).symm
  have hgsT := hgs.2 (comp (fun j => listed.getD j false) (l.map (·.2.tw)) T) (comp (fun j => listed.getD j false) (l.map (·.2.upd)) O) (by
   intro d hd
   unfold Tab.get
   rw [q0O d (l.map (·.2.tw)) (fun j => listed.getD j false) (fun j => Nat.blt j i) T T rfl]
   intro j z hz hdz
   simp only [List.getElem?_map, Option.map_eq_some_iff] at hz
   obtain ⟨y, hy, rfl⟩ := hz
   refine hfl j y hy ?_
   have hky : keys y.2.tw = y.1.dst.toList := (hdr.at j y.1 y.2 (by simpa using hy)).2
   rw [hky] at hdz
   constructor
   ·simp only [meets, Bool.or_eq_true]; exact .inl (.inl (.inl (.inr (q0E hdz hd))))
   ·simp only [meets, Bool.or_eq_true]; exact .inl (.inl (.inl (.inl (.inl (q0E hdz hd)))))) (by
   intro r hr
   refine q0O r (l.map (·.2.upd)) (fun j => listed.getD j false) (fun j => Nat.blt j i) O O rfl ?_
   intro j z hz hdz
   simp only [List.getElem?_map, Option.map_eq_some_iff] at hz
   obtain ⟨y, hy, rfl⟩ := hz
   refine hfl j y hy ⟨?_, ?_⟩
   ·simp only [meets, Bool.or_eq_true]; exact .inr (q0E hdz hr)
   ·simp only [meets, Bool.or_eq_true]; exact .inl (.inl (.inr (q0E hdz hr)))) (by
   intro r hr
   have h1 := w0x hfr hil
   simp only [hx, List.all_eq_true, Bool.and_eq_true] at h1
   obtain ⟨⟨hT0, hO0⟩, hat⟩ := h1 r hr
   have hrec : ∀ (j : Nat) (y : Oper × Rec), l[j]? = some y → listed.getD j false = true → y0P r y.2.tw = true ∧ y0O r y.2.upd = true := by
    intro j y hy hf
    have hjl : j < l.length := (List.getElem?_eq_some_iff.1 hy).1
    have h2 := w0x hat hjl
    simp only [hy, Bool.or_eq_true, Bool.and_eq_true] at h2
    rcases h2 with (h3 | h3) | h3
    ·have : j = i := Nat.eq_of_beq_eq_true h3
     subst this
     rw [hnf] at hf; cases hf
    ·exact h3
    ·exfalso
     have := w0t (l := l.map (·.1)) (D := fun k => listed.getD k false = true) hcl 4 j i y.1 (by simp [hy]) (hcl j hf y.1 (by simp [hy])) h3.2
     rw [hnf] at this; cases this
   refine ⟨fun d s hl => ?_, fun k z hl => ?_⟩
   ·rcases J0H _ _ _ hl with h3 | ⟨j, z, hz, hf, hl'⟩
    ·exact W0N hT0 h3
    ·simp only [List.getElem?_map, Option.map_eq_some_iff] at hz
     obtain ⟨y, hy, rfl⟩ := hz
     exact W0N (hrec j y hy hf).1 hl'
   ·rcases J0H _ _ _ hl with h3 | ⟨j, z', hz, hf, hl'⟩
    ·exact W0M hO0 h3
    ·simp only [List.getElem?_map, Option.map_eq_some_iff] at hz
     obtain ⟨y, hy, rfl⟩ := hz
     exact W0M (hrec j y hy hf).2 hl') a w hs
  have hnext : ∀ a' w', Sat E (x.tw ++ comp (fun j => listed.getD j false) (l.map (·.2.tw)) T) (x.upd ++ comp (fun j => listed.getD j false) (l.map (·.2.upd)) O) a' w' →
    wpAnyIn (fc E.round) 0 P .any ops Q fuel (listed.setIfInBounds i true) a' w' := by
   intro a' w' hs'
   have hget : ∀ j, (listed.setIfInBounds i true).getD j false = (listed.getD j false || Nat.beq j i) := by
    intro j
    by_cases hji : j = i
    ·subst hji
     simp [Array.getD_eq_getD_getElem?, hi']
    ·have hb : Nat.beq j i = false := by
      cases hb : Nat.beq j i with
      |false => rfl
      |true => exact absurd (Nat.eq_of_beq_eq_true hb) hji
     simp [Array.getD_eq_getD_getElem?, Array.getElem?_setIfInBounds_ne (Ne.symm hji), hb]
   refine ih _ a' w' (by simp [hls]) ?_ ?_ ?_
   ·intro j hj o' ho' e he hb
    rw [hget] at hj ⊢
    simp only [Bool.or_eq_true] at hj
    rcases hj with hj | hj
    ·rw [hcl j hj o' ho' e he hb]; rfl
    ·have : j = i := Nat.eq_of_beq_eq_true hj
     subst this
     rw [hto] at ho'
     cases ho'
     rw [hedges e he hb]; rfl
   ·have : ((listed.setIfInBounds i true).toList.filter id).length = (listed.toList.filter id).length + 1 := by
     rw [Array.toList_setIfInBounds]
     have hli : listed.toList[i]? = some false := by
      have h0 : listed[i]? = some false := by
       rw [Array.getElem?_eq_getElem hi']
       simp [Array.getD_eq_getD_getElem?, Array.getElem?_eq_getElem hi'] at hnf
       rw [hnf]
      simpa using h0
     exact Q0w _ _ hli
    omega
   ·have hT : ∀ d, look (comp (fun j => listed.getD j false || Nat.beq j i) (l.map (·.2.tw)) T) d = look (x.tw ++ comp (fun j => listed.getD j false) (l.map (·.2.tw)) T) d := by
     intro d
     refine V0k d (l.map (·.2.tw)) i x.tw (fun j => listed.getD j false) T (by simp [hx]) hnf ?_
     intro j z hz hij hfj k hk hkz
     simp only [List.getElem?_map, Option.map_eq_some_iff] at hz
     obtain ⟨y, hy, rfl⟩ := hz
     have hky : keys y.2.tw = y.1.dst.toList := (hdr.at j y.1 y.2 (by simpa using hy)).2
     rw [hkeys] at hk
     rw [hky] at hkz
     have hm : meets ops (o, x) y = true := by simp only [meets, Bool.or_eq_true]; exact .inl (.inl (.inl (.inl (.inr (q0E hk hkz)))))
     rw [(horder j y hy (by omega)).1 hm hij] at hfj
     cases hfj
    have hO : ∀ r, look (comp (fun j => listed.getD j false || Nat.beq j i) (l.map (·.2.upd)) O) r = look (x.upd ++ comp (fun j => listed.getD j false) (l.map (·.2.upd)) O) r := by
     intro r
     refine V0k r (l.map (·.2.upd)) i x.upd (fun j => listed.getD j false) O (by simp [hx]) hnf ?_
     intro j z hz hij hfj k hk hkz
     simp only [List.getElem?_map, Option.map_eq_some_iff] at hz
     obtain ⟨y, hy, rfl⟩ := hz
     have hm : meets ops (o, x) y = true := by simp only [meets, Bool.or_eq_true]; exact .inl (.inr (q0E hk hkz))
     rw [(horder j y hy (by omega)).1 hm hij] at hfj
     cases hfj
    simp only [hget]
    exact Sat.congr (fun d => by unfold Tab.get; rw [hT]) hO hs'
  unfold wpOpIn
  simp only [hoi]
  split
  ·rename_i hw
   rw [if_pos hw] at hgsT
   exact Oper.wp_in _ hgs.1 hgsT hnext
  ·rename_i hw
   rw [if_neg hw] at hgsT
   exact ⟨fun _ _ => trivial, hnext _ _ hgsT⟩
theorem V0r {Q : Exit → Act → World → Prop} {id : Nat} {l : List (Oper × Rec)} {T : Tab} {O : Own} (hm : P.follows .mixedOrders = true) (hops : ops = (l.map (·.1)).toArray) (hdr : DR P E ops l T O) (hok : Z0n ops l = true) (hfr : V0x l T O = true)
  (hQ : ∀ a w, Sat E (comp (fun _ => true) (l.map (·.2.tw)) T) (comp (fun _ => true) (l.map (·.2.upd)) O) a w → Q .normal a w) : SQ E T O ((Code.region id ops true).wpIn (fc E.round) 0 P Q) := by
 intro a w hs
 refine wpIn_region_any hm ?_
 have hsz : ops.size = l.length := by rw [hops]; simp
 have hf : ∀ j, (Array.replicate ops.size false).getD j false = false := by
  intro j
  simp [Array.getD_eq_getD_getElem?, Array.getElem?_replicate]
  split <;> simp
 refine Z0o hops hdr hok hfr hQ ops.size _ a _ (by simp [hsz]) (fun j hj => ?_) (by omega) ?_
 ·rw [hf] at hj; cases hj
 ·have c0 : ∀ {α : Type} (xs : List (List (Nat × α))) (fl : Nat → Bool), (∀ j, fl j = false) → ∀ A, comp fl xs A = A := by
   intro α xs
   induction xs with
   |nil => intro fl _ A; rfl
   |cons y ys ih => intro fl hf A; unfold comp; simp only [hf 0]; exact ih _ (fun j => hf (j + 1)) A
  rw [c0 _ _ hf, c0 _ _ hf]
  exact hs.drew
end
end Go.Vc
end
section
namespace Go.Vc
open Go Go.RowKit
section
variable {P : Program} {E : Env}
theorem DR.snoc {ops : Array Oper} {o : Oper} {x : Rec} : ∀ {l : List (Oper × Rec)} {T : Tab} {O : Own}, DR P E ops l T O →
  GS P E ops o x (comp (fun _ => true) (l.map (·.2.tw)) T) (comp (fun _ => true) (l.map (·.2.upd)) O) → keys x.tw = o.dst.toList → DR P E ops (l ++ [(o, x)]) T O
 |[], _, _, _, hg, hk => ⟨hg, hk, trivial⟩
 |(o', x') :: l, T, O, h, hg, hk => ⟨h.1, h.2.1, DR.snoc h.2.2 hg hk⟩
theorem J0p {α : Type} (x : List (Nat × α)) : ∀ (xs : List (List (Nat × α))) (A : List (Nat × α)), comp (fun _ => true) (xs ++ [x]) A = x ++ comp (fun _ => true) xs A
 |[], A => rfl
 |y :: xs, A => J0p x xs (y ++ A)
structure DPre (P : Program) (E : Env) (L : List Oper) (rpre : List (Oper × Rec)) (T0 : Tab) (O0 : Own) (T : Tab) (O : Own) : Prop where
 dr : DR P E L.toArray rpre.reverse T0 O0
 tab : ∀ d, T.get d = Tab.get (comp (fun _ => true) (rpre.reverse.map (·.2.tw)) T0) d
 own : ∀ r, look O r = look (comp (fun _ => true) (rpre.reverse.map (·.2.upd)) O0) r
structure DRQ (P : Program) (E : Env) (id : Nat) (L : List Oper) (Q : Exit → Act → World → Prop) (rpre : List (Oper × Rec)) (l : List Oper) (T0 : Tab) (O0 : Own) (T : Tab) (O : Own) : Prop where
 run : L = rpre.reverse.map (·.1) ++ l → DPre P E L rpre T0 O0 T O → SQ E T0 O0 ((Code.region id L.toArray true).wpIn (fc E.round) 0 P Q)
variable {id : Nat} {L l : List Oper} {Q : Exit → Act → World → Prop} {rpre : List (Oper × Rec)} {T0 T T' : Tab} {O0 O O' : Own} {o : Oper}
theorem z0K (h : DRQ P E id L Q [] L T O T O) : CQ P E Q T O (Code.region id L.toArray true) :=
 ⟨h.run (by simp) ⟨trivial, fun _ => rfl, fun _ => rfl⟩⟩
def Q0k (o : Oper) (s : SV) (rr : List Nat) (upd : Own) : Rec := { tw := match o.dst with | some d => [(d, s)] | none => [], rr := rr, upd := upd }
theorem z0c (o : Oper) (s : SV) (rr : List Nat) (upd : Own) : keys (Q0k o s rr upd).tw = o.dst.toList := by
 unfold Q0k keys
 cases o.dst <;> simp
theorem x0C (o : Oper) (s : SV) (rr : List Nat) (upd : Own) (T : Tab) : (Q0k o s rr upd).tw ++ T = T.set o.dst s := by
 unfold Q0k Tab.set
 cases o.dst <;> simp
theorem V0q {x : Rec} (hk : keys x.tw = o.dst.toList) (hg : GS P E L.toArray o x T O) (hr : DRQ P E id L Q ((o, x) :: rpre) l T0 O0 (x.tw ++ T) (x.upd ++ O)) : DRQ P E id L Q rpre (o :: l) T0 O0 T O := by
 refine ⟨fun hL hp => ?_⟩
 refine hr.run (by rw [hL]; simp) ⟨?_, fun d => ?_, fun r => ?_⟩
 ·rw [List.reverse_cons]
  refine hp.dr.snoc ?_ hk
  refine ⟨hg.1, fun T' O' h1 h2 h3 => ?_⟩
  exact hg.2 T' O' (fun d hd => (h1 d hd).trans (hp.tab d).symm) (fun r hr => (h2 r hr).trans (hp.own r).symm) h3
 ·simp only [List.reverse_cons, List.map_append, List.map_cons, List.map_nil, J0p]
  unfold Tab.get
  rw [q0o, q0o]
  have := hp.tab d
  unfold Tab.get at this
  cases look x.tw d with
  |some s => rfl
  |none => exact this
 ·simp only [List.reverse_cons, List.map_append, List.map_cons, List.map_nil, J0p]
  exact v0r _ (hp.own r)
theorem J1r {s : SV} {rr : List Nat} {upd : Own} (hs : GV P E o T O s rr upd) (hg : o.guard = none) (hd : W0K E o.dst = true)
  (hr : DRQ P E id L Q ((o, Q0k o s rr upd) :: rpre) l T0 O0 (T.set o.dst s) (upd ++ O)) : DRQ P E id L Q rpre (o :: l) T0 O0 T O := by
 refine V0q (x := Q0k o s rr upd) (z0c _ _ _ _) ?_ (by rw [x0C]; exact hr)
 refine ⟨(hs.v).nd, fun T' O' h1 h2 _ a w hsat => ?_⟩
 rw [if_pos (by simp [Region.wanted, hg])]
 obtain ⟨Z, ν, h⟩ := hsat
 refine Oper.wp_mono ?_ ((hs.vs T' O' (fun d hd => h1 d (List.mem_append.2 (.inl hd))) h2).run Z ν a w h)
 rintro a' w' ⟨v, Z', ν', rfl, h', hv⟩
 rw [x0C]
 exact ⟨Z', ν', h'.put _ _ _ hd hv⟩
theorem Z0m {s : SV} {rr : List Nat} {upd : Own} {j g : Nat} {want : Bool} (hs : GV P E o T O s rr upd) (hg : o.guard = some (j, want)) (hj : (L.toArray[j]?).bind (·.dst) = some g) (hb : T.get g = .av (.val (.bool want)))
  (hd : W0K E o.dst = true) (hr : DRQ P E id L Q ((o, Q0k o s rr upd) :: rpre) l T0 O0 (T.set o.dst s) (upd ++ O)) : DRQ P E id L Q rpre (o :: l) T0 O0 T O := by
 refine V0q (x := Q0k o s rr upd) (z0c _ _ _ _) ?_ (by rw [x0C]; exact hr)
 refine ⟨(hs.v).nd, fun T' O' h1 h2 _ a w hsat => ?_⟩
 obtain ⟨Z, ν, h⟩ := hsat
 have hgm : g ∈ o.looksAt L.toArray := List.mem_append.2 (.inr (by simp only [hg, hj]; simp))
 have hy := x0G hj ((h1 g hgm).trans hb) h
 rw [if_pos (by simp [Region.wanted, hg, hy])]
 refine Oper.wp_mono ?_ ((hs.vs T' O' (fun d hd => h1 d (List.mem_append.2 (.inl hd))) h2).run Z ν a w h)
 rintro a' w' ⟨v, Z', ν', rfl, h', hv⟩
 rw [x0C]
 exact ⟨Z', ν', h'.put _ _ _ hd hv⟩
theorem J1s {j g : Nat} {want b : Bool} (hnd : ∀ c, o.op ≠ .defer c) (hg : o.guard = some (j, want)) (hj : (L.toArray[j]?).bind (·.dst) = some g) (hb : T.get g = .av (.val (.bool b))) (hne : (b == want) = false) (hd : W0K E o.dst = true)
  (hr : DRQ P E id L Q ((o, Q0k o (.av (.val undef)) [] []) :: rpre) l T0 O0 (T.set o.dst (.av (.val undef))) O) : DRQ P E id L Q rpre (o :: l) T0 O0 T O := by
 refine V0q (x := Q0k o (.av (.val undef)) [] []) (z0c _ _ _ _) ?_ (by rw [x0C]; exact hr)
 refine ⟨hnd, fun T' O' h1 h2 _ a w hsat => ?_⟩
 obtain ⟨Z, ν, h⟩ := hsat
 have hgm : g ∈ o.looksAt L.toArray := List.mem_append.2 (.inr (by simp only [hg, hj]; simp))
 have hy := x0G hj ((h1 g hgm).trans hb) h
 rw [if_neg (by simp only [Region.wanted, hg, hy]; intro e; cases b <;> cases want <;> simp_all)]
 rw [x0C]
 exact ⟨Z, ν, h.putU _ hd⟩
theorem j1B {j g : Nat} {want b : Bool} (_hg : o.guard = some (j, want)) (_hj : (L.toArray[j]?).bind (·.dst) = some g) (hT : T.get g = .av (.val (.bool b)))
  (ht : b = true → DRQ P E id L Q rpre (o :: l) T0 O0 ((g, .av (.val (.bool true))) :: T) O) (hf : b = false → DRQ P E id L Q rpre (o :: l) T0 O0 ((g, .av (.val (.bool false))) :: T) O) : DRQ P E id L Q rpre (o :: l) T0 O0 T O := by
 refine ⟨fun hL hp => ?_⟩
 cases b with
 |true => exact (ht rfl).run hL ⟨hp.dr, fun d => (Tab.get_same hT d).trans (hp.tab d), hp.own⟩
 |false => exact (hf rfl).run hL ⟨hp.dr, fun d => (Tab.get_same hT d).trans (hp.tab d), hp.own⟩
theorem Z0k (hm : P.follows .mixedOrders = true) (hok : (Z0n L.toArray rpre.reverse && V0x rpre.reverse T0 O0) = true) (h : SQ E T O (Q .normal)) : DRQ P E id L Q rpre [] T0 O0 T O := by
 refine ⟨fun hL hp => ?_⟩
 rw [List.append_nil] at hL
 simp only [Bool.and_eq_true] at hok
 refine V0r hm (by rw [hL]) hp.dr hok.1 hok.2 fun a w hs => h a w (Sat.congr hp.tab hp.own hs)
section
variable {d : Nat} {op : Op} {ty : TypeId} {pos : String} {af : Array Edge} {s : SV} {rr : List Nat} {r : Nat} {x : Res} {j gd : Nat} {want b : Bool}
theorem q0H (hs : GV P E ⟨some d, op, ty, pos, af, none⟩ T O s rr []) (hd : E.wr d = true) (hr : DRQ P E id L Q ((⟨some d, op, ty, pos, af, none⟩, ⟨[(d, s)], rr, [], []⟩) :: rpre) l T0 O0 ((d, s) :: T) O) :
  DRQ P E id L Q rpre (⟨some d, op, ty, pos, af, none⟩ :: l) T0 O0 T O := J1r hs rfl hd hr
theorem y0b (hs : GV P E ⟨none, op, ty, pos, af, none⟩ T O s rr [(r, x)]) (hr : DRQ P E id L Q ((⟨none, op, ty, pos, af, none⟩, ⟨[], rr, [(r, x)], []⟩) :: rpre) l T0 O0 T ((r, x) :: O)) :
  DRQ P E id L Q rpre (⟨none, op, ty, pos, af, none⟩ :: l) T0 O0 T O := J1r hs rfl rfl hr
theorem w1V (hs : GV P E ⟨some d, op, ty, pos, af, some (j, want)⟩ T O s rr []) (hj : (L.toArray[j]?).bind (·.dst) = some gd) (hb : T.get gd = .av (.val (.bool want)))
  (hd : E.wr d = true) (hr : DRQ P E id L Q ((⟨some d, op, ty, pos, af, some (j, want)⟩, ⟨[(d, s)], rr, [], []⟩) :: rpre) l T0 O0 ((d, s) :: T) O) :
  DRQ P E id L Q rpre (⟨some d, op, ty, pos, af, some (j, want)⟩ :: l) T0 O0 T O := Z0m hs rfl hj hb hd hr
theorem Z0l (hnd : ∀ c, op ≠ .defer c) (hj : (L.toArray[j]?).bind (·.dst) = some gd) (hb : T.get gd = .av (.val (.bool b))) (hne : (b == want) = false) (hd : E.wr d = true)
  (hr : DRQ P E id L Q ((⟨some d, op, ty, pos, af, some (j, want)⟩, ⟨[(d, .av (.val undef))], [], [], []⟩) :: rpre) l T0 O0 ((d, .av (.val undef)) :: T) O) :
  DRQ P E id L Q rpre (⟨some d, op, ty, pos, af, some (j, want)⟩ :: l) T0 O0 T O := J1s hnd rfl hj hb hne hd hr
theorem j0e {dd : Option Nat} (hj : (L.toArray[j]?).bind (·.dst) = some gd) (hT : T.get gd = .av (.val (.bool b)))
  (ht : b = true → DRQ P E id L Q rpre (⟨dd, op, ty, pos, af, some (j, want)⟩ :: l) T0 O0 ((gd, .av (.val (.bool true))) :: T) O) (hf : b = false → DRQ P E id L Q rpre (⟨dd, op, ty, pos, af, some (j, want)⟩ :: l) T0 O0 ((gd, .av (.val (.bool false))) :: T) O) :
  DRQ P E id L Q rpre (⟨dd, op, ty, pos, af, some (j, want)⟩ :: l) T0 O0 T O := j1B rfl hj hT ht hf
end
structure GA (P : Program) (E : Env) (o : Oper) (T : Tab) (O : Own) (s : SV) (rr : List Nat) (r : Nat) (x : Res) : Prop where
 vs : ∀ (T' : Tab) (O' : Own), (∀ d ∈ o.op.operands.toList.filterMap (fun | .tmp t => some t | _ => none), T'.get d = T.get d) → (∀ r ∈ rr, look O' r = look O r) → Y0R r T' O' → VStep P E o T' O' T' ((r, x) :: O') s
 nd : ∀ c, o.op ≠ .defer c
theorem y0k {d : Nat} {op : Op} {ty : TypeId} {pos : String} {af : Array Edge} {s : SV} {rr : List Nat} {r : Nat} {x : Res} (hs : GA P E ⟨some d, op, ty, pos, af, none⟩ T O s rr r x) (_hf : (y0P r T && y0O r O) = true) (hd : E.wr d = true)
  (hr : DRQ P E id L Q ((⟨some d, op, ty, pos, af, none⟩, ⟨[(d, s)], rr, [(r, x)], [r]⟩) :: rpre) l T0 O0 ((d, s) :: T) ((r, x) :: O)) :
  DRQ P E id L Q rpre (⟨some d, op, ty, pos, af, none⟩ :: l) T0 O0 T O := by
 refine V0q (x := ⟨[(d, s)], rr, [(r, x)], [r]⟩) rfl ?_ hr
 refine ⟨hs.nd, fun T' O' h1 h2 h3 a w hsat => ?_⟩
 rw [if_pos (by simp [Region.wanted])]
 obtain ⟨Z, ν, h⟩ := hsat
 refine Oper.wp_mono ?_ ((hs.vs T' O' (fun d hd => h1 d (List.mem_append.2 (.inl hd))) h2 (h3 r (by simp))).run Z ν a w h)
 rintro a' w' ⟨v, Z', ν', rfl, h', hv⟩
 exact ⟨Z', ν', h'.put (some d) _ _ hd hv⟩
end
end Go.Vc
end
section
namespace Go.Vc
open Go Go.RowKit
section
variable {P : Program} {E : Env} {T : Tab} {O : Own} {o : Oper}
theorem q1l {α : Type} : ∀ {l : List (Nat × α)} {k : Nat} {a : α}, look l k = some a → (k, a) ∈ l
 |(j, b) :: l, k, a, h => by
  unfold look at h
  split at h
  ·rename_i hb
   injection h with h
   rw [← h, ← Nat.eq_of_beq_eq_true hb]
   exact List.mem_cons_self
  ·exact List.mem_cons_of_mem _ (q1l h)
def Tab.ev (T : Tab) : Operand → SV
 |.tmp x => T.get x
 |.const v => .av (.val v)
 |.func f => .av (.val (.func (.func f) #[] #[]))
 |.global g => .av (match look glb g with | some τ => τ | none => .val (.pointer (some ⟨g, 0, none⟩)))
theorem j0G {Z : j0q} {ν : j0N} {a : Act} {w : World} (h : SatZ E Z ν T O a w) (x : Operand) : (T.ev x).ok Z ν w (a.eval x) := by
 cases x with
 |tmp t => exact h.slot t
 |const v => exact rfl
 |func f => exact rfl
 |global g =>
  show AV.ok Z w (match look glb g with | some τ => τ | none => .val (.pointer (some ⟨g, 0, none⟩))) (.pointer (some ⟨g, 0, none⟩))
  cases hg : look glb g with
  |none => exact rfl
  |some τ => exact h.base.zok.2 (g, τ) (q1l hg)
theorem j0r {T' : Tab} (h : ∀ d ∈ o.op.operands.toList.filterMap (fun | .tmp t => some t | _ => none), T'.get d = T.get d) {x : Operand} (hx : x ∈ o.op.operands.toList) : T'.ev x = T.ev x := by
 cases x with
 |tmp t => exact h t (List.mem_filterMap.2 ⟨.tmp t, hx, rfl⟩)
 |_ => rfl
theorem j0B {o : Oper} {a : Act} {w w' : World} {v : Value} {K : Act → World → Prop} {Q : Exit → Act → World → Prop} (hr : (execOp a.eval o).run P w = .ok (.value v) w') (hk : K (a.put o.dst v) w') : o.wp P a w K Q := by
 unfold Oper.wp
 rw [hr]
 exact hk
theorem j0p {s : SV} (rr : List Nat)
  (h : ∀ (Z : j0q) (ν : j0N) (a : Act) (w : World), (∀ x ∈ o.op.operands.toList, (T.ev x).ok Z ν w (a.eval x)) → (∀ r ∈ rr, ∀ x, look O r = some x → x.ok E Z ν w (ν r)) →
   ∃ v, (execOp a.eval o).run P w = .ok (.value v) w ∧ s.ok Z ν w v) : (hnd : ∀ c, o.op ≠ .defer c := by intro c; simp) → GV P E o T O s rr [] := by
 intro hnd
 refine ⟨fun T' O' h1 h2 => ⟨hnd, fun Z ν a w hs => ?_⟩⟩
 obtain ⟨v, hr, hv⟩ := h Z ν a w (fun x hx => by rw [← j0r h1 hx]; exact j0G hs x) (fun r hr x hx => hs.own.each r x (by rw [h2 r hr]; exact hx))
 exact j0B hr ⟨v, Z, ν, rfl, hs, hv⟩
variable {d : Option Tmp} {ty : TypeId} {pos : String} {af : Array Edge} {g : Option (Nat × Bool)}
theorem j0V {x : Operand} {s : SV} (hx : T.ev x = s) : GV P E ⟨d, .move x, ty, pos, af, g⟩ T O s [] [] :=
 j0p [] fun Z ν a w h _ => ⟨a.eval x, rfl, by rw [← hx]; exact h x (by simp [Op.operands])⟩
theorem j0D {x : Operand} {s : SV} (hx : T.ev x = s) : GV P E ⟨d, .assign x, ty, pos, af, g⟩ T O s [] [] :=
 j0p [] fun Z ν a w h _ => ⟨a.eval x, rfl, by rw [← hx]; exact h x (by simp [Op.operands])⟩
theorem j0w {Z : j0q} {ν : j0N} {w : World} {T : Tab} {x : Operand} {a : Act} {u : Value} (hx : T.ev x = .av (.val u)) (h : (T.ev x).ok Z ν w (a.eval x)) : a.eval x = u := by
 rw [hx] at h; exact h
theorem y0q {c x y : Operand} {b : Bool} {s : SV} (hc : T.ev c = .av (.val (.bool b))) (hs : (match b with | true => T.ev x | false => T.ev y) = s) : GV P E ⟨d, .pick c x y, ty, pos, af, g⟩ T O s [] [] :=
 j0p [] fun Z ν a w h _ => by
  have hb := j0w hc (h c (by simp [Op.operands]))
  refine ⟨if b then a.eval x else a.eval y, by simp [execOp, hb, asBool], ?_⟩
  subst hs
  cases b with
  |true => exact h x (by simp [Op.operands])
  |false => exact h y (by simp [Op.operands])
theorem v1j {op : BinOp} {xt yt : TypeId} {x y : Operand} {a : Act} {w : World} {v : Value} {u1 u2 : Value}
  (h1 : a.eval x = u1) (h2 : a.eval y = u2) (hg : (eqGuard op xt x y u1 u2).run P w = .ok () w) (hv : (binOp op xt u1 u2).run P w = .ok v w) :
  (execOp a.eval ⟨d, .binOp op xt x y yt, ty, pos, af, g⟩).run P w = .ok (.value v) w := by
 simp [execOp, h1, h2, hg, hv]
theorem q0b (op : BinOp) (t : TypeId) (x y : Operand) (k : IntKind) (a : Int) (u : Value) (w : World) : (eqGuard op t x y (.int k a) u).run P w = .ok () w := by
 unfold eqGuard
 cases op <;> simp
theorem y0R {op : BinOp} {xt yt : TypeId} {x y : Operand} {u1 u2 : Value} {v : Value} (h1 : T.ev x = .av (.val u1)) (h2 : T.ev y = .av (.val u2))
  (hg : ∀ w, (eqGuard op xt x y u1 u2).run P w = .ok () w) (hv : ∀ w, (binOp op xt u1 u2).run P w = .ok v w) : GV P E ⟨d, .binOp op xt x y yt, ty, pos, af, g⟩ T O (.av (.val v)) [] [] :=
 j0p [] fun Z ν a w h _ => ⟨v, v1j (j0w h1 (h x (by simp [Op.operands]))) (j0w h2 (h y (by simp [Op.operands]))) (hg w) (hv w), rfl⟩
def Z1C : BinOp → Int → Int → Option Bool
 |.eql, x, y => some (x == y)
 |.neq, x, y => some (x != y)
 |.lss, x, y => some (decide (x < y))
 |.leq, x, y => some (decide (x ≤ y))
 |.gtr, x, y => some (decide (y < x))
 |.geq, x, y => some (decide (y ≤ x))
 |_, _, _ => none
theorem k0T {op : BinOp} {xt yt : TypeId} {x y : Operand} {k : IntKind} {m n : Int} {b : Bool} (h1 : T.ev x = .av (.val (.int k m))) (h2 : T.ev y = .av (.val (.int k n))) (hb : Z1C op m n = some b) :
  GV P E ⟨d, .binOp op xt x y yt, ty, pos, af, g⟩ T O (.av (.val (.bool b))) [] [] :=
 y0R h1 h2 (fun w => q0b ..) (fun w => by
  cases op <;> simp only [Z1C, Option.some.injEq, reduceCtorEq] at hb <;> subst hb <;> simp [binOp, Op.intCmp])
def K0U : BinOp → Int → Int → Option Int
 |.add, x, y => some (x + y)
 |.sub, x, y => some (x - y)
 |.mul, x, y => some (x * y)
 |_, _, _ => none
theorem q0X {op : BinOp} {xt yt : TypeId} {x y : Operand} {k : IntKind} {m n r : Int} (h1 : T.ev x = .av (.val (.int k m))) (h2 : T.ev y = .av (.val (.int k n))) (hr : K0U op m n = some r) :
  GV P E ⟨d, .binOp op xt x y yt, ty, pos, af, g⟩ T O (.av (.val (.int k (k.wrap r)))) [] [] :=
 y0R h1 h2 (fun w => q0b ..) (fun w => by
  cases op <;> simp only [K0U, Option.some.injEq, reduceCtorEq] at hr <;> subst hr <;> simp [binOp, Op.intArith])
theorem y0Q {op : BinOp} {xt yt : TypeId} {x y : Operand} {m n r : Int} (h1 : T.ev x = .av (.val (.int .i64 m))) (h2 : T.ev y = .av (.val (.int .i64 n))) (hr : K0U op m n = some r)
  (hin : -9223372036854775808 ≤ r ∧ r ≤ 9223372036854775807) :
  GV P E ⟨d, .binOp op xt x y yt, ty, pos, af, g⟩ T O (.av (.val (.int .i64 r))) [] [] := by
 have := q0X (P := P) (E := E) (O := O) (d := d) (ty := ty) (pos := pos) (af := af) (g := g) (xt := xt) (yt := yt) h1 h2 hr
 rwa [IntWalk.i64_in r hin] at this
theorem K0e {xt yt : TypeId} {x y : Operand} {k : IntKind} {m n : Int} (h1 : T.ev x = .av (.val (.int k m))) (h2 : T.ev y = .av (.val (.int k n))) (hm : 0 ≤ m) (hn : 0 < n) :
  GV P E ⟨d, .binOp .rem xt x y yt, ty, pos, af, g⟩ T O (.av (.val (.int k (m % n)))) [] [] :=
 y0R h1 h2 (fun w => q0b ..) (fun w => by
  have : n ≠ 0 := by omega
  simp [binOp, Op.intDiv, this, Int.tmod_eq_emod_of_nonneg hm])
theorem K0d {xt yt : TypeId} {x y : Operand} {m n : Int} (h1 : T.ev x = .av (.val (.int .i64 m))) (h2 : T.ev y = .av (.val (.int .i64 n))) (hm : 0 ≤ m) (hn : 0 < n) (hmax : m ≤ 9223372036854775807) :
  GV P E ⟨d, .binOp .quo xt x y yt, ty, pos, af, g⟩ T O (.av (.val (.int .i64 (m / n)))) [] [] :=
 y0R h1 h2 (fun w => q0b ..) (fun w => by
  have hne : n ≠ 0 := by omega
  have h3 : m / n ≤ m := Int.ediv_le_self n hm
  have h4 : 0 ≤ m / n := Int.ediv_nonneg hm zO
  simp [binOp, Op.intDiv, hne, Int.tdiv_eq_ediv_of_nonneg hm, IntWalk.i64_in (m / n) (by omega)])
theorem K0a {xt : TypeId} {x : Operand} {m : Int} (h1 : T.ev x = .av (.val (.int .i64 m))) (hin : -9223372036854775807 ≤ m ∧ m ≤ 9223372036854775807) :
  GV P E ⟨d, .unOp .neg xt x, ty, pos, af, g⟩ T O (.av (.val (.int .i64 (-m)))) [] [] :=
 j0p [] fun Z ν a w h _ => ⟨.int .i64 (-m), by
  have := j0w h1 (h x (by simp [Op.operands]))
  simp [execOp, this, Op.unary, Op.intArith, IntWalk.i64_in (-m) (by omega)], rfl⟩
theorem K0b {xt : TypeId} {x : Operand} {b : Bool} (h1 : T.ev x = .av (.val (.bool b))) : GV P E ⟨d, .unOp .not xt x, ty, pos, af, g⟩ T O (.av (.val (.bool (!b)))) [] [] :=
 j0p [] fun Z ν a w h _ => ⟨.bool (!b), by
  have := j0w h1 (h x (by simp [Op.operands]))
  simp [execOp, this, Op.unary], rfl⟩
class CellTy (P : Program) (t : TypeId) : Prop where
 run : ∀ w, (isAgg t).run P w = .ok false w
class AggTy (P : Program) (t : TypeId) (n : outParam Nat) : Prop where
 agg : ∀ w, (isAgg t).run P w = .ok true w
 size : ∀ w, (sizeOf t).run P w = .ok n w
class SlTy (P : Program) (t : TypeId) (e : outParam TypeId) (sz : outParam Nat) : Prop where
 und : P.underlying t = some (.slice e)
 size : ∀ w, (sizeOf e).run P w = .ok sz w
class FldTy (P : Program) (s : TypeId) (i : Nat) (off : outParam Nat) : Prop where
 run : ∀ (b o : Nat) (w : World), (Instr.fieldAt s (.pointer (some ⟨b, o, none⟩)) i).run P w = .ok (.pointer (some ⟨b, o + off, none⟩)) w
theorem z0v {Z : j0q} {ν : j0N} {w : World} {T : Tab} {x : Operand} {a : Act} {n : Nat} {f : Nat → AV} (hx : T.ev x = .av (.ptr n f)) (h : (T.ev x).ok Z ν w (a.eval x)) :
  ∃ b o, a.eval x = .pointer (some ⟨b, o, none⟩) ∧ (0 < n → Z b) ∧ b < w.heap.size ∧ ∀ i, i < n → ∃ u, w.cell? ⟨b, o + i, none⟩ = some u ∧ (f i).ok Z w u := by
 rw [hx] at h; exact h
theorem v0N {t : TypeId} {x : Operand} {n : Nat} {f : Nat → AV} {τ : AV} [ht : CellTy P t] (hx : T.ev x = .av (.ptr n f)) (hn' : Nat.blt 0 n = true) (hf : f 0 = τ) :
  GV P E ⟨d, .load t x, ty, pos, af, g⟩ T O (.av τ) [] [] :=
 j0p [] fun Z ν a w h _ => by
  obtain ⟨b, o, he, _, _, hc⟩ := z0v hx (h x (by simp [Op.operands]))
  obtain ⟨u, hu, hk⟩ := hc 0 (j0H hn')
  refine ⟨u, ?_, by rw [← hf]; exact hk⟩
  have hu' : w.cell? ⟨b, o, none⟩ = some u := hu
  simp [execOp, Instr.loadAt, he, Instr.sureAddr, loadVar, ht.run w, hu']
theorem V1l {Z : j0q} {w : World} {b o : Nat} {f : Nat → AV} : ∀ {us : List Value} (k : Nat), (∀ (i : Nat) (h : i < us.length), f (k + i) = .val us[i]) →
  (∀ i, i < k + us.length → ∃ u, w.cell? ⟨b, o + i, none⟩ = some u ∧ (f i).ok Z w u) → ∀ (j : Nat) (v : Value), us[j]? = some v → w.cell? ⟨b, o + (k + j), none⟩ = some v := by
 intro us k hf hc j v hj
 obtain ⟨hlt, rfl⟩ := List.getElem?_eq_some_iff.1 hj
 obtain ⟨u, hu, hk⟩ := hc (k + j) zO
 rw [hf j hlt] at hk
 have : u = us[j] := hk
 rw [← this]; exact hu
theorem j0k {t : TypeId} {x : Operand} {n k : Nat} {f : Nat → AV} {us : List Value} [ht : AggTy P t k] (hx : T.ev x = .av (.ptr n f)) (hk : us.length = k) (hn' : Nat.ble k n = true) (hf' : (List.range k).map f = us.map AV.val) :
  GV P E ⟨d, .load t x, ty, pos, af, g⟩ T O (.av (.val (.agg us.toArray))) [] [] :=
 j0p [] fun Z ν a w h _ => by
  subst hk
  have hn : us.length ≤ n := Nat.le_of_ble_eq_true hn'
  have hf : ∀ (i : Nat) (h : i < us.length), f i = .val us[i] := by
   intro i hi
   have := congrArg (fun l => l[i]?) hf'
   simpa [hi] using this
  obtain ⟨b, o, he, _, _, hc⟩ := z0v hx (h x (by simp [Op.operands]))
  refine ⟨_, ?_, rfl⟩
  have hcell : ∀ (j : Nat) (v : Value), us[j]? = some v → w.cell? ((⟨b, o, none⟩ : Addr).add j) = some v := by
   intro j v hj
   have := V1l (Z := Z) (w := w) (b := b) (o := o) (f := f) (us := us) 0 (fun i hi => by rw [Nat.zero_add]; exact hf i hi) (fun i hi => hc i (by omega)) j v hj
   rw [Nat.zero_add] at this
   rw [← this]
   congr 1
   unfold Addr.add; split <;> simp_all
  have hl := run_loadCells_list (P := P) (w := w) ⟨b, o, none⟩ us hcell
  simp [execOp, Instr.loadAt, he, Instr.sureAddr, loadVar, ht.agg w, ht.size w, hl]
theorem y0T {s : TypeId} {x : Operand} {i off n : Nat} {f : Nat → AV} [hs : FldTy P s i off] (hx : T.ev x = .av (.ptr n f)) :
  GV P E ⟨d, .fieldAddr s x i, ty, pos, af, g⟩ T O (.av (.ptr (n - off) (fun j => f (off + j)))) [] [] :=
 j0p [] fun Z ν a w h _ => by
  obtain ⟨b, o, he, hz, hb, hc⟩ := z0v hx (h x (by simp [Op.operands]))
  refine ⟨.pointer (some ⟨b, o + off, none⟩), ?_, ?_⟩
  ·simp [execOp, he, hs.run b o w]
  ·refine ⟨b, o + off, rfl, fun hp => hz zO, hb, fun j hj => ?_⟩
   rw [Nat.add_assoc]; exact hc (off + j) (by omega)
theorem K0v {Z : j0q} {ν : j0N} {w : World} {T : Tab} {x : Operand} {a : Act} {n sz : Nat} {row : Nat → Nat → AV} (hx : T.ev x = .av (.sl n sz row)) (h : (T.ev x).ok Z ν w (a.eval x)) :
  ∃ p c, a.eval x = .slice p n c ∧ n ≤ c ∧ c ≤ maxLen ∧ (0 < n → ∃ b o, p = some ⟨b, o, none⟩ ∧ (0 < sz → Z b) ∧ b < w.heap.size ∧
   ∀ i, i < n → ∀ j, j < sz → ∃ u, w.cell? ⟨b, o + i * sz + j, none⟩ = some u ∧ (row i j).ok Z w u) := by
 rw [hx] at h; exact h
theorem j0I (b o k : Nat) : (⟨b, o, none⟩ : Addr).add k = ⟨b, o + k, none⟩ := by unfold Addr.add; split <;> simp_all
theorem w0E {t e : TypeId} {x y : Operand} {n sz : Nat} {row : Nat → Nat → AV} {q : IntKind} {i : Int} {k : Nat} [ht : SlTy P t e sz] (hx : T.ev x = .av (.sl n sz row)) (hy : T.ev y = .av (.val (.int q i)))
  (hi : i = ↑k) (hk : k < n) : GV P E ⟨d, .indexAddr t x y, ty, pos, af, g⟩ T O (.av (.ptr sz (row k))) [] [] :=
 j0p [] fun Z ν a w h _ => by
  obtain ⟨p, c, he, _, _, hc⟩ := K0v hx (h x (by simp [Op.operands]))
  have hv := j0w hy (h y (by simp [Op.operands]))
  obtain ⟨b, o, rfl, hz, hb, hcell⟩ := hc zO
  subst hi
  refine ⟨.pointer (some ⟨b, o + k * sz, none⟩), ?_, ⟨b, o + k * sz, rfl, hz, hb, fun j hj => hcell k hk j hj⟩⟩
  simp [execOp, Instr.indexAt, hv, he, asIntOf, run_underlying ht.und, ht.size w, hk, j0I]
theorem k0X {t e : TypeId} {x : Operand} {n sz sz' : Nat} {row : Nat → Nat → AV} [ht : SlTy P t e sz'] (hx : T.ev x = .av (.sl n sz row)) :
  GV P E ⟨d, .call ⟨.builtin .len, #[x], #[t]⟩, ty, pos, af, g⟩ T O (.av (.val (.int .i64 n))) [] [] :=
 j0p [] fun Z ν a w h _ => by
  obtain ⟨p, c, he, _, _, hc⟩ := K0v hx (h x (by simp [Op.operands, Call.operands]))
  refine ⟨.int .i64 n, ?_, rfl⟩
  simp [execOp, resolve, invoke, builtin, Builtin.len_, he, run_underlying ht.und, goInt]
theorem w0o {t e : TypeId} {x : Operand} {n c : Nat} {p : Option Addr} {sz' : Nat} [ht : SlTy P t e sz'] (hx : T.ev x = .av (.val (.slice p n c))) :
  GV P E ⟨d, .call ⟨.builtin .len, #[x], #[t]⟩, ty, pos, af, g⟩ T O (.av (.val (.int .i64 n))) [] [] :=
 j0p [] fun Z ν a w h _ => by
  have he := j0w hx (h x (by simp [Op.operands, Call.operands]))
  refine ⟨.int .i64 n, ?_, rfl⟩
  simp [execOp, resolve, invoke, builtin, Builtin.len_, he, run_underlying ht.und, goInt]
end
end Go.Vc
end
section
namespace Go.Vc
open Go Go.RowKit
theorem SatZ.ext {E : Env} {Z Z' : j0q} {ν : j0N} {T : Tab} {O : Own} {a : Act} {w w' : World} (h : SatZ E Z ν T O a w)
  (hos : w'.os = w.os) (htp : w'.tape = w.tape) (hout : w'.output = w.output) (hs : w.heap.size ≤ w'.heap.size) (hsame : ∀ k, k < w.heap.size → w'.heap[k]? = w.heap[k]?)
  (hZ : ∀ k, Z k → Z' k) (hZ' : ∀ k, Z' k → Z k ∨ w.heap.size ≤ k) (hlt : ∀ k, Z' k → k < w'.heap.size) : SatZ E Z' ν T O a w' := by
 have hav : ∀ (τ : AV) v, τ.ok Z w v → τ.ok Z' w' v := AV.ok_mono hZ hs (fun k _ hk => hsame k hk)
 have hsv : ∀ (s : SV) v, s.ok Z ν w v → s.ok Z' ν w' v := fun s v hk => SV.ok_mono hZ hs (fun k _ hk => hsame k hk) s v (fun _ _ => rfl) hk
 have hnz : ∀ (b : Nat) (o : Obj), w.heap[b]? = some o → ¬ Z b → ¬ Z' b := by
  intro b o hb hz hz'
  rcases hZ' b hz' with h1 | h1
  ·exact hz h1
  ·have := (Array.getElem?_eq_some_iff.1 hb).1; omega
 refine ⟨h.defers, h.tsize, h.cst, h.pin, ⟨hos.trans h.base.os, htp.trans h.base.tape, hout.trans h.base.output, Nat.le_trans h.base.size hs, h.base.keepLt, fun k hk => ?_, h.base.zok.next hZ hs (fun k _ hk => hsame k hk) hlt, fun k hk => hZ k (h.base.z0 k hk), fun k hk => ?_⟩,
  ⟨fun r x hx => ?_, h.own.apart⟩, fun d => hsv _ _ (h.slot d)⟩
 ·rw [hsame k (Nat.lt_of_lt_of_le (h.base.keepLt k hk) h.base.size), h.base.kept k hk]
 ·rcases hZ' k hk with h1 | h1
  ·exact h.base.zNew k h1
  ·refine .inr fun hk' => ?_
   have := h.base.keepLt k hk'
   have := h.base.size
   omega
 ·have := h.own.each r x hx
  cases x with
  |cells cs =>
   obtain ⟨b, ty, arr, h1, h2, h3, h4, h5, h6⟩ := this
   exact ⟨b, ty, arr, h1, h2, hnz b _ h4 h3, by rw [hsame b (Array.getElem?_eq_some_iff.1 h4).1]; exact h4, h5, fun i s hs => let ⟨u, hu, hk⟩ := h6 i s hs; ⟨u, hu, hsv _ _ hk⟩⟩
  |row ty sz n f =>
   rcases this with h1 | ⟨b, cap, arr, h1, h2, h3, h4, h5, h6, h7, h8⟩
   ·exact .inl h1
   ·exact .inr ⟨b, cap, arr, h1, h2, hnz b _ h4 h3, by rw [hsame b (Array.getElem?_eq_some_iff.1 h4).1]; exact h4, h5, h6, h7, fun i hi j hj => let ⟨u, hu, hk⟩ := h8 i hi j hj; ⟨u, hu, hav _ _ hk⟩⟩
  |obj φ hφ =>
   obtain ⟨b, ob, h1, h2, h3, h4, h5⟩ := this
   exact ⟨b, ob, h1, h2, hnz b _ h4 h3, by rw [hsame b (Array.getElem?_eq_some_iff.1 h4).1]; exact h4, hav (hφ.av ob) _ h5⟩
  |srow ty sz n cs =>
   rcases this with h1 | ⟨b, cap, arr, h1, h2, h3, h4, h5, h6, h7, h8⟩
   ·exact .inl h1
   ·exact .inr ⟨b, cap, arr, h1, h2, hnz b _ h4 h3, by rw [hsame b (Array.getElem?_eq_some_iff.1 h4).1]; exact h4, h5, h6, h7, fun i s hs => let ⟨u, hu, hk⟩ := h8 i s hs; ⟨u, hu, hsv _ _ hk⟩⟩
theorem SatZ.allocRo {E : Env} {Z : j0q} {ν : j0N} {T : Tab} {O : Own} {a : Act} {w : World} (h : SatZ E Z ν T O a w) (o : Obj) :
  SatZ E (fun k => Z k ∨ k = w.heap.size) ν T O a (w.alloc o) := by
 refine h.ext rfl rfl rfl (by simp) (fun k hk => w0b w o hk) (fun k hk => .inl hk) (fun k hk => ?_) (fun k hk => ?_)
 ·rcases hk with h1 | h1
  ·exact .inl h1
  ·exact .inr zO
 ·rcases hk with h1 | h1
  ·have := h.base.zLt k h1; simp; omega
  ·simp; omega
section
variable {P : Program} {E : Env} {T : Tab} {O : Own} {o : Oper} {d : Option Tmp} {ty : TypeId} {pos : String} {af : Array Edge} {g : Option (Nat × Bool)}
def AV.one : AV → Bool
 |.val v => v.oneCell'
 |.sl .. => true
 |.slc .. => true
 |.ptr .. => true
 |.clo .. => true
 |_ => false
theorem cells_one {v : Value} (h : v.oneCell' = true) : v.cells = #[v] := by
 cases v <;> first | rfl | simp [Value.oneCell'] at h
theorem AV.one_cells {τ : AV} {Z : j0q} {w : World} {v : Value} (h : τ.one = true) (hk : τ.ok Z w v) : v.oneCell' = true := by
 cases τ with
 |val u => have : v = u := hk; subst this; exact h
 |sl n sz row => obtain ⟨_, _, rfl, _⟩ := hk; rfl
 |ptr n f => obtain ⟨_, _, rfl, _⟩ := hk; rfl
 |clo k n f => obtain ⟨_, rfl, _⟩ := hk; rfl
 |slc n sz row => obtain ⟨_, rfl, _⟩ := hk; rfl
 |_ => simp [AV.one] at h
theorem k0S {t : TypeId} {x : Operand} {τ : AV} (hx : T.ev x = .av τ) (h1 : τ.one = true) : GV P E ⟨d, .box t x, ty, pos, af, g⟩ T O (.av (.ptr 1 (fun _ => τ))) [] [] := by
 refine ⟨fun T' O' hT _ => ⟨by intro c; simp, fun Z ν a w hs => ?_⟩⟩
 have hv := j0G hs x
 rw [j0r (o := ⟨d, .box t x, ty, pos, af, g⟩) hT (by simp [Op.operands]), hx] at hv
 have hv' : τ.ok Z w (a.eval x) := hv
 have hone := AV.one_cells h1 hv'
 refine j0B (w' := w.alloc (.cells (a.eval x).cells t)) (v := .pointer (some ⟨w.heap.size, 0, none⟩)) (by simp [execOp, Instr.box, newVar, newRow]) ⟨_, _, ν, rfl, hs.allocRo _, ⟨w.heap.size, 0, rfl, fun _ => .inr rfl, by simp, fun i hi => ?_⟩⟩
 obtain rfl : i = 0 := by omega
 refine ⟨a.eval x, ?_, ?_⟩
 ·rw [cells_one hone, World.cell?_alloc_new]; rfl
 ·exact AV.ok_mono (fun k hk => .inl hk) (by simp) (fun k _ hk => w0b w _ hk) τ _ hv'
theorem w0n {t : TypeId} {x : Operand} {us : List Value} (hx : T.ev x = .av (.val (.agg us.toArray))) :
  GV P E ⟨d, .box t x, ty, pos, af, g⟩ T O (.av (.ptr us.length (fun i => .val (us.getD i undef)))) [] [] := by
 refine ⟨fun T' O' hT _ => ⟨by intro c; simp, fun Z ν a w hs => ?_⟩⟩
 have hv := j0G hs x
 rw [j0r (o := ⟨d, .box t x, ty, pos, af, g⟩) hT (by simp [Op.operands]), hx] at hv
 have hv' : a.eval x = .agg us.toArray := hv
 refine j0B (w' := w.alloc (.cells us.toArray t)) (v := .pointer (some ⟨w.heap.size, 0, none⟩)) (by simp [execOp, Instr.box, newVar, newRow, hv', Value.cells]) ⟨_, _, ν, rfl, hs.allocRo _, ⟨w.heap.size, 0, rfl, fun _ => .inr rfl, by simp, fun i hi => ?_⟩⟩
 refine ⟨us.getD i undef, ?_, rfl⟩
 rw [World.cell?_alloc_new]
 simp [List.getD, List.getElem?_eq_getElem hi]
def Enters (P : Program) (f : FuncId) : Prop := ∀ (args : Array Value) (w : World), (callFunc f args).run P w = .ok (.enter f args) w
structure CtrA (P : Program) (f : FuncId) (args : List AV) (res : AV) : Prop where
 enters : Enters P f
 calls : ∀ (w : World) (Z : j0q) (vs : List Value), ZOk Z w → All2 (fun τ v => AV.ok Z w τ v) args vs →
  Calls P f vs.toArray w (fun e w' => ∃ v Z', e = .returned v ∧ Below w.heap.size w w' ∧ (∀ k, Z k → Z' k) ∧ (∀ k, Z' k → Z k ∨ w.heap.size ≤ k) ∧ (∀ k, Z' k → k < w'.heap.size) ∧ res.ok Z' w' v)
theorem v0A {Z : j0q} {ν : j0N} {a : Act} {w : World} (h : SatZ E Z ν T O a w) : ∀ {xs : List Operand} {τs : List AV}, xs.map T.ev = τs.map SV.av → All2 (fun τ v => AV.ok Z w τ v) τs (xs.map a.eval)
 |[], [], _ => trivial
 |x :: xs, τ :: τs, he => by
  simp only [List.map_cons, List.cons.injEq] at he
  refine ⟨?_, v0A h he.2⟩
  have := j0G h x
  rw [he.1] at this
  exact this
 |[], _ :: _, he => by simp at he
 |_ :: _, [], he => by simp at he
theorem q0g {o : Oper} {a : Act} {w : World} {f : FuncId} {args : Array Value} {K : Act → World → Prop} (hr : (execOp a.eval o).run P w = .ok (.enter f args) w)
  (hc : Calls P f args w (fun e w' => ∃ v, e = .returned v ∧ K (a.put o.dst v) w')) : o.wp P a w K (fun _ _ _ => False) := by
 unfold Oper.wp
 rw [hr]
 refine Calls.mono hc ?_
 rintro e w' ⟨v, rfl, hk⟩
 exact hk
theorem SatZ.called {Z Z' : j0q} {ν : j0N} {a : Act} {w w' : World} (h : SatZ E Z ν T O a w) (hb : Below w.heap.size w w') (h1 : ∀ k, Z k → Z' k) (h2 : ∀ k, Z' k → Z k ∨ w.heap.size ≤ k) (h3 : ∀ k, Z' k → k < w'.heap.size) : SatZ E Z' ν T O a w' :=
 h.ext hb.os hb.tape hb.output hb.size hb.block h1 h2 h3
theorem W1l {f : FuncId} {xs : List Operand} {ats : Array TypeId} {τs : List AV} {res : AV} (hc : CtrA P f τs res) (hx : xs.map T.ev = τs.map SV.av) :
  GV P E ⟨d, .call ⟨.value (.func f), xs.toArray, ats⟩, ty, pos, af, g⟩ T O (.av res) [] [] := by
 refine ⟨fun T' O' hT _ => ⟨by intro c; simp, fun Z ν a w hs => ?_⟩⟩
 have hx' : xs.map T'.ev = τs.map SV.av := by
  rw [← hx]
  refine List.map_congr_left fun x hxm => j0r (o := ⟨d, .call ⟨.value (.func f), xs.toArray, ats⟩, ty, pos, af, g⟩) hT ?_
  simp [Op.operands, Call.operands, hxm]
 have hev := v0A hs hx'
 refine q0g (f := f) (args := (xs.map a.eval).toArray) ?_ ?_
 ·have hen := hc.enters (xs.map a.eval).toArray w
  simp [execOp, resolve, Deferred.ofValue, Act.eval, invoke] at hen ⊢
  exact hen
 ·refine Calls.mono (hc.calls w Z _ hs.base.zok hev) ?_
  rintro e w' ⟨v, Z', rfl, hb, h1, h2, h3, hv⟩
  exact ⟨v, rfl, v, Z', ν, rfl, hs.called hb h1 h2 h3, hv⟩
theorem J1J {f : FuncId} {c : Operand} {xs : List Operand} {ats : Array TypeId} {τs : List AV} {res : AV} (hc : CtrA P f τs res) (hf : T.ev c = .av (.val (.func (.func f) #[] #[]))) (hx : xs.map T.ev = τs.map SV.av) :
  GV P E ⟨d, .call ⟨.value c, xs.toArray, ats⟩, ty, pos, af, g⟩ T O (.av res) [] [] := by
 refine ⟨fun T' O' hT _ => ⟨by intro c; simp, fun Z ν a w hs => ?_⟩⟩
 have hmem : ∀ x ∈ c :: xs, x ∈ (Op.call ⟨.value c, xs.toArray, ats⟩).operands.toList := by intro x hx; simpa [Op.operands, Call.operands] using hx
 have hx' : xs.map T'.ev = τs.map SV.av := by
  rw [← hx]
  exact List.map_congr_left fun x hxm => j0r (o := ⟨d, .call ⟨.value c, xs.toArray, ats⟩, ty, pos, af, g⟩) hT (hmem x (by simp [hxm]))
 have hev := v0A hs hx'
 have hfv : a.eval c = .func (.func f) #[] #[] := by
  have := j0G hs c
  rw [j0r (o := ⟨d, .call ⟨.value c, xs.toArray, ats⟩, ty, pos, af, g⟩) hT (hmem c (by simp)), hf] at this
  exact this
 refine q0g (f := f) (args := (xs.map a.eval).toArray) ?_ ?_
 ·have hen := hc.enters (xs.map a.eval).toArray w
  simp [execOp, resolve, Deferred.ofValue, hfv, invoke] at hen ⊢
  exact hen
 ·refine Calls.mono (hc.calls w Z _ hs.base.zok hev) ?_
  rintro e w' ⟨v, Z', rfl, hb, h1, h2, h3, hv⟩
  exact ⟨v, rfl, v, Z', ν, rfl, hs.called hb h1 h2 h3, hv⟩
theorem j1W {f : FuncId} {c : Operand} {xs : List Operand} {ats : Array TypeId} {τs : List AV} {n : Nat} {cf : Nat → AV} {res : AV} (hc : CtrA P f (τs ++ (List.range n).map cf) res) (hf : T.ev c = .av (.clo f n cf)) (hx : xs.map T.ev = τs.map SV.av) :
  GV P E ⟨d, .call ⟨.value c, xs.toArray, ats⟩, ty, pos, af, g⟩ T O (.av res) [] [] := by
 refine ⟨fun T' O' hT _ => ⟨by intro c; simp, fun Z ν a w hs => ?_⟩⟩
 have hmem : ∀ x ∈ c :: xs, x ∈ (Op.call ⟨.value c, xs.toArray, ats⟩).operands.toList := by intro x hx; simpa [Op.operands, Call.operands] using hx
 have hx' : xs.map T'.ev = τs.map SV.av := by
  rw [← hx]
  exact List.map_congr_left fun x hxm => j0r (o := ⟨d, .call ⟨.value c, xs.toArray, ats⟩, ty, pos, af, g⟩) hT (hmem x (by simp [hxm]))
 have hev := v0A hs hx'
 have hfv := j0G hs c
 rw [j0r (o := ⟨d, .call ⟨.value c, xs.toArray, ats⟩, ty, pos, af, g⟩) hT (hmem c (by simp)), hf] at hfv
 obtain ⟨cs, hfv, hl, hcs⟩ := hfv
 have hall : All2 (fun τ v => AV.ok Z w τ v) (τs ++ (List.range n).map cf) (xs.map a.eval ++ cs) := by
  have h2 : All2 (fun τ v => AV.ok Z w τ v) ((List.range n).map cf) cs := by
   have : ∀ (m k : Nat) (cf : Nat → AV) (cs : List Value), cs.length = m → (∀ i, i < m → ∃ u, cs[i]? = some u ∧ (cf (k + i)).ok Z w u) → All2 (fun τ v => AV.ok Z w τ v) ((List.range' k m).map cf) cs := by
    intro m
    induction m with
    |zero => intro k cf cs hl _; rw [List.length_eq_zero_iff.1 hl]; trivial
    |succ m ih =>
     intro k cf cs hl h
     match cs, hl with
     |c0 :: cs, hl =>
      rw [List.range'_succ, List.map_cons]
      obtain ⟨u, hu, hk⟩ := h 0 zO
      simp only [List.getElem?_cons_zero, Option.some.injEq] at hu
      subst hu
      refine ⟨hk, ih (k + 1) cf cs (by simpa using hl) (fun i hi => ?_)⟩
      obtain ⟨u, hu, hk⟩ := h (i + 1) zO
      exact ⟨u, by simpa using hu, by rw [show k + 1 + i = k + (i + 1) from by omega]; exact hk⟩
   rw [List.range_eq_range']
   exact this n 0 cf cs hl (fun i hi => by rw [Nat.zero_add]; exact hcs i hi)
  have app : ∀ {l : List AV} {m : List Value} {l' m'}, All2 (fun τ v => AV.ok Z w τ v) l m → All2 (fun τ v => AV.ok Z w τ v) l' m' → All2 (fun τ v => AV.ok Z w τ v) (l ++ l') (m ++ m') := by
   intro l
   induction l with
   |nil => intro m l' m' h1 h2; match m, h1 with | [], _ => exact h2
   |cons x l ih => intro m l' m' h1 h2; match m, h1 with | y :: m, h1 => exact ⟨h1.1, ih h1.2 h2⟩
  exact app hev h2
 refine q0g (f := f) (args := (xs.map a.eval ++ cs).toArray) ?_ ?_
 ·have hen := hc.enters (xs.map a.eval ++ cs).toArray w
  have : (List.map a.eval xs).toArray ++ cs.toArray = (List.map a.eval xs ++ cs).toArray := by simp
  simp [execOp, resolve, Deferred.ofValue, hfv, invoke] at hen ⊢
  exact hen
 ·refine Calls.mono (hc.calls w Z _ hs.base.zok hall) ?_
  rintro e w' ⟨v, Z', rfl, hb, h1, h2, h3, hv⟩
  exact ⟨v, rfl, v, Z', ν, rfl, hs.called hb h1 h2 h3, hv⟩
theorem q0d {f : FuncId} {xs : List Operand} {τs : List AV} (hx : xs.map T.ev = τs.map SV.av) :
  GV P E ⟨d, .makeFunc (.func f) #[] xs.toArray, ty, pos, af, g⟩ T O (.av (.clo f τs.length (fun i => τs.getD i .any))) [] [] := by
 refine ⟨fun T' O' hT _ => ⟨by intro c; simp, fun Z ν a w hs => ?_⟩⟩
 have hx' : xs.map T'.ev = τs.map SV.av := by
  rw [← hx]
  refine List.map_congr_left fun x hxm => j0r (o := ⟨d, .makeFunc (.func f) #[] xs.toArray, ty, pos, af, g⟩) hT ?_
  simp [Op.operands, hxm]
 have hev := v0A hs hx'
 refine j0B (w' := w) (v := .func (.func f) #[] (xs.map a.eval).toArray) (by simp [execOp, Instr.makeFunc]) ⟨_, Z, ν, rfl, hs, ?_⟩
 refine ⟨xs.map a.eval, rfl, hev.len.symm, fun i hi => ?_⟩
 obtain ⟨u, hu, hk⟩ := hev.get i (τs.getD i .any) (by rw [List.getD, List.getElem?_eq_getElem hi]; rfl)
 exact ⟨u, hu, hk⟩
theorem v0M {x : Operand} {i n : Nat} {f : Nat → AV} (hx : T.ev x = .av (.tup n f)) (hi : i < n) : GV P E ⟨d, .extract x i, ty, pos, af, g⟩ T O (.av (f i)) [] [] :=
 j0p [] fun Z ν a w h _ => by
  have := h x (by simp [Op.operands])
  rw [hx] at this
  obtain ⟨cs, he, hl, hc⟩ := this
  obtain ⟨u, hu, hk⟩ := hc i hi
  exact ⟨u, by simp [execOp, he, Instr.extract, hu], hk⟩
end
def x0a : Nat → List SV → Tab
 |_, [] => []
 |k, s :: l => (k, s) :: x0a (k + 1) l
theorem v0z : ∀ (l : List SV) (k d : Nat), (x0a k l).get d = if k ≤ d then l.getD (d - k) (.av .any) else .av .any
 |[], k, d => by simp [x0a, Tab.get, look]
 |s :: l, k, d => by
  unfold x0a
  by_cases h : k = d
  ·subst h; rw [Tab.get_cons_eq]; simp
  ·rw [Tab.get_cons_ne _ _ h, v0z l (k + 1) d]
   by_cases hk : k ≤ d
   ·have h1 : k + 1 ≤ d := by omega
    obtain ⟨e, rfl⟩ : ∃ e, d = k + 1 + e := ⟨d - (k + 1), by omega⟩
    simp [h1, hk, show k + 1 + e - k = e + 1 from by omega]
   ·rw [if_neg (by omega), if_neg hk]
def z1R (w : World) (Z : j0q) (res : AV) (e : Ending) (w' : World) : Prop :=
 ∃ v Z', e = .returned v ∧ Below w.heap.size w w' ∧ (∀ k, Z k → Z' k) ∧ (∀ k, Z' k → Z k ∨ w.heap.size ≤ k) ∧ (∀ k, Z' k → k < w'.heap.size) ∧ res.ok Z' w' v
def v0t (N : Nat) (w : World) (Z : j0q) : Env := { N := N, keep := fun k => k < w.heap.size, w0 := w, Z0 := Z }
theorem j0s {P : Program} {f : FuncId} {fn : Func} {c : Code} {args : List AV} {res : AV} (N : Nat) (hf : P.funcs[f]? = some fn) (hb : fn.body = some c) (hname : (fn.name == "runtime.NumGoroutine") = false) (hN : fn.ntmps = N) (hlen' : Nat.ble args.length N = true)
  (h : ∀ w Z, CQ P (v0t N w Z) (bodyPost P fn (z1R w Z res)) (x0a 0 (args.map SV.av)) [] c) : CtrA P f args res := by
 have hlen : args.length ≤ N := Nat.le_of_ble_eq_true hlen'
 refine ⟨fun vs w => ?_, fun w Z vs hZ hvs => ?_⟩
 ·have hname' : fn.name ≠ "runtime.NumGoroutine" := by simpa using hname
  simp [callFunc, hf, hname', hb]
 ·refine calls_of_wp hf hb ?_
  have hl := hvs.len
  refine wpIn_wide.1 ((h w Z).sq _ w ⟨Z, fun _ => undef, rfl, ?_, (fun _ _ h => by cases h), (fun _ _ h => by cases h), ⟨rfl, rfl, rfl, Nat.le_refl _, fun k hk => hk, fun _ _ => rfl, hZ, fun _ hk => hk, fun _ hk => .inl hk⟩, ⟨fun r x hx => by simp [look] at hx, fun r r' _ h1 => by simp [look] at h1⟩, fun d => ?_⟩)
  ·simp only [Array.size_append, List.size_toArray, Array.size_replicate, hN, v0t]; omega
  ·rw [v0z, if_pos (Nat.zero_le _), Nat.sub_zero]
   by_cases hd : d < args.length
   ·have h1 : (args.map SV.av).getD d (.av .any) = .av args[d] := by simp [List.getD, List.getElem?_eq_getElem hd]
    rw [h1]
    obtain ⟨u, hu, hk⟩ := hvs.get d args[d] (List.getElem?_eq_getElem hd)
    have : (vs.toArray ++ Array.replicate (fn.ntmps - vs.toArray.size) undef).getD d undef = u := by
     have hlt := (List.getElem?_eq_some_iff.1 hu).1
     rw [Array.getD_eq_getD_getElem?, Array.getElem?_append_left (by simpa using hlt)]
     simp [hu]
    rw [this]; exact hk
   ·have h1 : (args.map SV.av).getD d (.av .any) = .av .any := by
     rw [List.getD, List.getElem?_eq_none (by simpa using hd)]; rfl
    rw [h1]; trivial
theorem v1a {w : World} {Z : j0q} {res : AV} {N : Nat} {Z' : j0q} {w' : World} {v : Value} (hb : Base (v0t N w Z) Z' w') (hv : res.ok Z' w' v) : z1R w Z res (.returned v) w' :=
 ⟨v, Z', rfl, ⟨hb.os, hb.tape, hb.output, hb.size, hb.kept⟩, hb.z0, fun k hk => (hb.zNew k hk).imp id (fun h => Nat.le_of_not_lt h), hb.zLt, hv⟩
section
variable {P : Program} {fn : Func} {w : World} {Z : j0q} {N : Nat} {T : Tab} {O : Own} {res : AV}
def j0x (l : List AV) : AV := .tup l.length (fun i => l.getD i .any)
end
end Go.Vc
end
