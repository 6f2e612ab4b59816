/- A part of the proof. -/
import Derived.Laws.AppendOwn
import Derived.Laws.BytesArg
import Derived.Lib.AppendStr
import Derived.Test.YtgblokifbgeegaaGreatDoorEac
set_option linter.unusedVariables false
set_option linter.unusedSimpArgs false
section
namespace Go.Vc
open Go Go.RowKit
structure CtrM (P : Program) (gf : FuncId) (caps : List AV) (V : Value → Prop) (τs : List AV) : Prop where
 enters : Enters P gf
 gives : ∀ (w : World) (Z : j0q) (cs : List Value), ZOk Z w → All2 (fun τ v => AV.ok Z w τ v) caps cs → j2G P gf cs.toArray V τs Z w
def J1K : List Nat → Nat → Bool
 |[], _ => false
 |x :: l, d => match Nat.beq x d with | true => true | false => J1K l d
def snap (ws : List Nat) (a : Act) (d : Nat) : Option Value := match J1K ws d with | true => none | false => some (a.tmps.getD d undef)
def Env.rnd (N l : Nat) (ws : List Nat) (a : Act) (w : World) (Z : j0q) (keep : Nat → Prop) : Env :=
 { N := N, round := some l, cst := snap ws a, keep := keep, w0 := w, Z0 := Z }
def Env.after (E : Env) (D : Nat) (w : World) : Env :=
 { N := E.N, round := none, cst := fun _ => none, keep := fun k => E.keep k ∨ k = D, w0 := w, Z0 := E.Z0, marks := [{ target := .collected D, args := #[] }] }
structure AfterOk (E : Env) (D : Nat) (w2 : World) : Prop where
 base : ∃ Z2, Base E Z2 w2
 lo : E.w0.heap.size ≤ D
 z : ¬ E.Z0 D
 heap : w2.heap[D]? = some (.deferred (some []))
def Res.plain : Res → Bool
 |.cells _ => true
 |.row .. => true
 |_ => false
def w1n (O : Own) : Bool := O.all fun p => p.2.plain
theorem Res.plain_cells {E : Env} {Z : j0q} {ν : j0W} {w : World} {v : Value} {x : Res} (h : x.ok E Z ν w v) (hp : x.plain = true) {b : Nat} (hb : j0y v = some b) : ∃ ob, w.heap[b]? = some ob ∧ ob.isCells = true := by
 cases x with
 |cells cs =>
  obtain ⟨b', ty, arr, rfl, h2, h3, h4, _⟩ := h
  simp only [j0y, Option.some.injEq] at hb
  subst hb
  exact ⟨_, h4, rfl⟩
 |row ty sz n f =>
  rcases h with ⟨rfl, _⟩ | ⟨b', cap, arr, rfl, h2, h3, h4, _⟩
  ·simp [j0y] at hb
  ·simp only [j0y, Option.some.injEq] at hb
   subst hb
   exact ⟨_, h4, rfl⟩
 |_ => cases hp
section
variable {E : Env} {T : Tab} {O : Own} {a : Act} {w W : World} {Z : j0q} {ν : j0W}
theorem v0v (h : SatZ E Z ν T O a w) {k : Nat} (hk : X0V O ν k) : k < w.heap.size ∧ ¬ Z k ∧ ¬ E.keep k := by
 obtain ⟨r, h1, h2⟩ := hk
 obtain ⟨x, hx⟩ := Option.ne_none_iff_exists'.1 h1
 exact Res.blk_lt (h.own.each r x hx) h2
theorem X0X (h : SatZ E Z ν T O a w) (hp : w1n O = true) {k : Nat} (hk : X0V O ν k) : ∃ ob, w.heap[k]? = some ob ∧ ob.isCells = true := by
 obtain ⟨r, h1, h2⟩ := hk
 obtain ⟨x, hx⟩ := Option.ne_none_iff_exists'.1 h1
 exact Res.plain_cells (h.own.each r x hx) (List.all_eq_true.1 hp _ (v0d hx)) h2
def Env.lp (N : Nat) (w : World) (Z : j0q) (keep : Nat → Prop) : Env := { N := N, keep := keep, w0 := w, Z0 := Z }
theorem SatZ.widen {A B : World} (h : SatZ E Z ν T O a A) (hg : A.grownBy B none) (hl : E.w0.heap.size ≤ A.heap.size) (hk : ∀ k, E.keep k → k < E.w0.heap.size) : SatZ E (j1I Z A B) ν T O a B := by
 refine h.shift h.defers h.tsize h.cst h.pin ⟨hg.os.trans h.base.os, hg.tape.trans h.base.tape, hg.output.trans h.base.output, Nat.le_trans h.base.size hg.size, h.base.keepLt, fun k q => (hg.block k (by have := hk k q; omega) (by simp)).trans (h.base.kept k q), h.base.zok.next (fun _ q => .inl q) hg.size (fun k _ hl => hg.block k hl (by simp)) (fun k q => q.elim (fun q => Nat.lt_of_lt_of_le (h.base.zLt k q) hg.size) (fun q => q.2)), fun k q => .inl (h.base.z0 k q), fun k q => ?_⟩ (AV.ok_mono (fun k q => .inl q) hg.size (fun k _ hl => hg.block k hl (by simp))) (fun r hr b hb => ?_) (fun _ _ => rfl)
 ·rcases q with q | q
  ·exact h.base.zNew k q
  ·exact .inr fun q' => by have := hk k q'; omega
 ·obtain ⟨e1, e2, e3⟩ := v0v h ⟨r, hr, hb⟩
  refine ⟨fun q => ?_, e3, hg.block b e1 (by simp)⟩
  rcases q with q | q
  ·exact e2 q
  ·omega
theorem SatZ.aside {A B : World} {row : Option Nat} (h : SatZ E Z ν T O a A) (hg : A.grownBy B row) (hr : ∀ r, row = some r → ¬ Z r ∧ ¬ X0V O ν r ∧ ¬ E.keep r) (hk : ∀ k, E.keep k → k < A.heap.size) : SatZ E Z ν T O a B := by
 have hne : ∀ k, (Z k ∨ X0V O ν k ∨ E.keep k) → k < A.heap.size → B.heap[k]? = A.heap[k]? := fun k q hl => hg.block k hl (fun e => by
  obtain ⟨h1, h2, h3⟩ := hr k e.symm
  exact q.elim h1 (fun q => q.elim h2 h3))
 refine h.shift h.defers h.tsize h.cst h.pin ⟨hg.os.trans h.base.os, hg.tape.trans h.base.tape, hg.output.trans h.base.output, Nat.le_trans h.base.size hg.size, h.base.keepLt, fun k q => (hne k (.inr (.inr q)) (hk k q)).trans (h.base.kept k q), h.base.zok.next (fun _ q => q) hg.size (fun k q hl => hne k (.inl q) hl) (fun k q => Nat.lt_of_lt_of_le (h.base.zLt k q) hg.size), h.base.z0, h.base.zNew⟩ (AV.ok_mono (fun _ q => q) hg.size (fun k q hl => hne k (.inl q) hl)) (fun r hr b hb => ?_) (fun _ _ => rfl)
 obtain ⟨e1, e2, e3⟩ := v0v h ⟨r, hr, hb⟩
 exact ⟨e2, e3, hne b (.inr (.inl ⟨r, hr, hb⟩)) e1⟩
theorem SatZ.leave {E1 : Env} {N l : Nat} {ws : List Nat} {a0 a1 a2 : Act} {W W' : World} {Z' : j0q} {ν' : j0W} {O1 O2 : Own} {T1 T2 : Tab} (hm : E1.marks = []) (hc : ∀ d, E1.cst d = none) (hpn : ∀ r, E1.pin r = none) (hN : E1.N = N) (h1 : SatZ E1 Z ν T1 O1 a1 W)
  (h2 : SatZ (Env.rnd N l ws a0 W Z (fun k => k < W.heap.size ∧ ¬ X0V O1 ν k)) Z' ν' T2 O2 a2 W') : SatZ E1 Z' ν' T2 O2 a2 W' := by
 have kk : ∀ k, E1.keep k → (k < W.heap.size ∧ ¬ X0V O1 ν k) := fun k hk => ⟨Nat.lt_of_lt_of_le (h1.base.keepLt k hk) h1.base.size, fun ho => (v0v h1 ho).2.2 hk⟩
 refine h2.shift (h2.defers.trans hm.symm) (h2.tsize.trans hN.symm) (fun d v q => by rw [hc] at q; cases q) (fun r v q => by rw [hpn] at q; cases q) ⟨h2.base.os.trans h1.base.os, h2.base.tape.trans h1.base.tape, h2.base.output.trans h1.base.output, Nat.le_trans h1.base.size h2.base.size, h1.base.keepLt, fun k hk => (h2.base.kept k (kk k hk)).trans (h1.base.kept k hk), h2.base.zok, fun k hk => h2.base.z0 k (h1.base.z0 k hk), fun k hk => ?_⟩ (fun _ _ q => q) (fun r hr b hb => ?_) (fun _ _ => rfl)
 ·rcases h2.base.zNew k hk with q | q
  ·exact h1.base.zNew k q
  ·exact .inr fun q' => q (kk k q')
 ·obtain ⟨e1, e2, e3⟩ := v0v h2 ⟨r, hr, hb⟩
  exact ⟨e2, fun q => e3 (kk b q), rfl⟩
end
theorem y0a (t : Array Value) (p d : Nat) (x : Value) (h : p ≠ d) : (t.setIfInBounds p x).getD d undef = t.getD d undef := by
 simp [Array.getD_eq_getD_getElem?, Array.getElem?_setIfInBounds_ne h]
theorem v1Y {ws : List Nat} {p d : Nat} (h1 : J1K ws p = true) (h2 : J1K ws d = false) : p ≠ d := fun e => by rw [e, h2] at h1; cases h1
theorem q1s {Zw : j0q} {w : World} : ∀ (m k : Nat) (cf : Nat → AV) (cs : List Value), cs.length = m → (∀ i, i < m → ∃ u, cs[i]? = some u ∧ (cf (k + i)).ok Zw w u) → All2 (fun τ v => AV.ok Zw w τ v) ((List.range' k m).map cf) cs := by
 intro m
 induction m with
 |zero => intro k cf cs hl _; rw [List.length_eq_zero_iff.1 hl]; trivial
 |succ m ih =>
  intro k cf cs hl h
  match cs, hl with
  |c0 :: cs, hl =>
   rw [List.range'_succ, List.map_cons]
   obtain ⟨u, hu, hk⟩ := h 0 zO
   simp only [List.getElem?_cons_zero, Option.some.injEq] at hu
   subst hu
   refine ⟨hk, ih (k + 1) cf cs (by simpa using hl) (fun i hi => ?_)⟩
   obtain ⟨u, hu, hk⟩ := h (i + 1) zO
   exact ⟨u, by simpa using hu, by rw [show k + 1 + i = k + (i + 1) from by omega]; exact hk⟩
theorem J0N {P : Program} {E : Env} {Q : Exit → Act → World → Prop} {T : Tab} {O : Own} {g : Operand} {p : Tmp} {assign body : Code} {gf : FuncId} {n : Nat} {cf : Nat → AV} {V : Value → Prop} {τs : List AV}
  (hro : E.round = none) (hm : E.marks = []) (hI : CtrM P gf ((List.range n).map cf) V τs) (ws : List Nat) (TL : Tab) (OL : List Value → Own) (TX : Value → Tab)
  (h0 : Ent T O TL (OL [])) (hg : TL.ev g = .av (.clo gf n cf)) (hTL : TL.all (fun q => !J1K ws q.1) = true) (hp : J1K ws p = true) (hpN : Nat.blt p E.N = true) (hplain : ∀ pre, w1n (OL pre) = true)
  (hass : ∀ l a0 w0 Z0 keep pre x, V x → CQ P (Env.rnd E.N l ws a0 w0 Z0 keep) (Exit.then (fun a w => Sat (Env.rnd E.N l ws a0 w0 Z0 keep) (TX x ++ TL) (OL pre) a w) (fun _ _ _ => False)) ((p, .av (.val x)) :: TL) (OL pre) assign)
  (hbody : ∀ l a0 w0 Z0 keep pre x, V x → pre.length < τs.length → CQ P (Env.rnd E.N l ws a0 w0 Z0 keep) (fun e a w => e = .normal ∧ Sat (Env.rnd E.N l ws a0 w0 Z0 keep) TL (OL (pre ++ [x])) a w) (TX x ++ TL) (OL pre) body)
  (hdone : ∀ D w2 xs Z ν a, AfterOk E D w2 → All2 (fun τ v => AV.ok Z w2 τ v) τs xs → SatZ (E.after D w2) Z ν TL (OL xs) a w2 → Q .normal a w2) :
  CQ P E Q T O (Code.rangeFunc g #[p] assign body) := by
 refine ⟨fun a w hsat => ?_⟩
 obtain ⟨Zw, ν0, hw⟩ := h0 E a w hsat
 rw [hro, show fc none = Fence.wide from rfl]
 refine (wpIn_wide (n := 0)).2 ((wpIn_wide (n := 2)).1 ?_)
 have hgv := j0M hw g
 rw [hg] at hgv
 obtain ⟨cs, hgv, hcl, hcs⟩ := hgv
 have hcaps : All2 (fun τ v => AV.ok Zw w τ v) ((List.range n).map cf) cs := by
  rw [List.range_eq_range']
  exact q1s n 0 cf cs hcl (fun i hi => by rw [Nat.zero_add]; exact hcs i hi)
 have htl : ∀ d, look TL d ≠ none → J1K ws d = false := fun d hd => by
  obtain ⟨s, hs⟩ := Option.ne_none_iff_exists'.1 hd
  have := List.all_eq_true.1 hTL _ (v0d hs)
  simpa using this
 obtain ⟨E1, hE1⟩ : ∃ E1, E1 = Env.lp E.N w Zw (fun k => k < w.heap.size ∧ ¬ X0V (OL []) ν0 k) := ⟨_, rfl⟩
 have e1m : E1.marks = [] := by rw [hE1]; rfl
 have e1c : ∀ d, E1.cst d = none := fun d => by rw [hE1]; rfl
 have e1p : ∀ r, E1.pin r = none := fun d => by rw [hE1]; rfl
 have e1N : E1.N = E.N := by rw [hE1]; rfl
 have e1w : E1.w0 = w := by rw [hE1]; rfl
 have e1k : ∀ k, E1.keep k ↔ (k < w.heap.size ∧ ¬ X0V (OL []) ν0 k) := fun k => by rw [hE1]; exact Iff.rfl
 have e1z : ∀ k, E1.Z0 k ↔ Zw k := fun k => by rw [hE1]; exact Iff.rfl
 have had : a.defers = [] := hw.defers.trans hm
 have hstart : SatZ E1 Zw ν0 TL (OL []) a w := by
  rw [hE1]
  refine hw.shift had hw.tsize (fun d v q => by cases q) (fun r v q => by cases q) ⟨rfl, rfl, rfl, Nat.le_refl _, fun k hk => hk.1, fun _ _ => rfl, hw.base.zok, fun _ q => q, fun _ q => .inl q⟩ (fun _ _ q => q) (fun r hr b hb => ?_) (fun _ _ => rfl)
  exact ⟨(v0v hw ⟨r, hr, hb⟩).2.1, fun q => q.2 ⟨r, hr, hb⟩, rfl⟩
 have hnb : ∀ {k : Nat}, bk w k → ¬ E1.keep k := fun {k} hk q => by
  have := ((e1k k).1 q).1
  rcases hk with rfl | rfl <;> omega
 have hnO : ∀ {A : World} {ν : j0W} {Z : j0q} {T' : Tab} {O' : Own} {a' : Act} {k : Nat}, SatZ E1 Z ν T' O' a' A → w1n O' = true → X1N w A → bk w k → ¬ X0V O' ν k := fun h hpl hb hk ho => by
  obtain ⟨ob, h1, h2⟩ := X0X h hpl ho
  obtain ⟨o, h3, h4⟩ := hb _ hk
  rw [h1] at h3; cases h3; rw [h2] at h4; cases h4
 refine Z0I (P := P) hgv hI.enters (hI.gives w Zw cs hw.base.zok hcaps) hw.base.zLt
  (fun pre ZP W => ∃ Z ν, (∀ k, ZP k → Z k) ∧ (∀ k, bk w k → ¬ Z k) ∧ SatZ E1 Z ν TL (OL pre) a W) ?_ ?_ ⟨Zw, ν0, fun _ q => q, fun k hk q => by have := hw.base.zLt k q; rcases hk with rfl | rfl <;> omega, hstart⟩
  (fun pre x ZP a' W => ∃ Z ν, (∀ k, ZP k → Z k) ∧ (∀ k, bk w k → ¬ Z k) ∧ SatZ E1 Z ν (TX x ++ TL) (OL pre) a' W ∧ ∀ d, J1K ws d = false → a'.tmps.getD d undef = a.tmps.getD d undef) ?_ ?_ ?_ ?_
 ·rintro s ZP A B ⟨Z, ν, z1, z2, h⟩ hg hl
  refine ⟨j1I Z A B, ν, fun k q => q.imp (z1 k) id, fun k hk q => ?_, h.widen hg (by rw [e1w]; omega) (fun k q => by rw [e1w]; exact ((e1k k).1 q).1)⟩
  rcases q with q | q
  ·exact z2 k hk q
  ·rcases hk with rfl | rfl <;> omega
 ·rintro s ZP A B row ⟨Z, ν, z1, z2, h⟩ hg hr
  refine ⟨Z, ν, z1, z2, h.aside hg (fun r e => ?_) (fun k q => Nat.lt_of_lt_of_le ((e1k k).1 q).1 (by have := h.base.size; rwa [e1w] at this))⟩
  obtain ⟨q1, q2⟩ := hr r e
  exact ⟨z2 r q1, hnO h (hplain s) q2 q1, hnb q1⟩
 ·rintro s x ZP a' A l o' ⟨Z, ν, z1, z2, h, h3⟩ hl hb
  exact ⟨Z, ν, z1, z2, h.aside (grownBy_putObj' A l o') (fun r e => by cases e; exact ⟨z2 l hl, hnO h (hplain s) hb hl, hnb hl⟩) (fun k q => Nat.lt_of_lt_of_le ((e1k k).1 q).1 (by have := h.base.size; rwa [e1w] at this)), h3⟩
 ·rintro l pre x ZP W K hx ⟨Z, ν, z1, z2, h1⟩ hb hK
  have hpl : p < a.tmps.size := by rw [hw.tsize]; exact j0G hpN
  have hst : SatZ (Env.rnd E.N l ws a W Z (fun k => k < W.heap.size ∧ ¬ X0V (OL pre) ν k)) Z ν ((p, .av (.val x)) :: TL) (OL pre) { tmps := a.tmps.setIfInBounds p x, defers := [] } W := by
   have h2 : SatZ (Env.rnd E.N l ws a W Z (fun k => k < W.heap.size ∧ ¬ X0V (OL pre) ν k)) Z ν TL (OL pre) { tmps := a.tmps.setIfInBounds p x, defers := [] } W := by
    refine h1.shift rfl (by simp [Env.rnd, hw.tsize]) (fun d v hd => ?_) (fun r v q => by cases q) ⟨rfl, rfl, rfl, Nat.le_refl _, fun k hk => hk.1, fun _ _ => rfl, h1.base.zok, fun _ q => q, fun _ q => .inl q⟩ (fun _ _ q => q) (fun r hr b hb => ?_) (fun d hd => y0a _ _ _ _ (v1Y hp (htl d hd)))
    ·change snap ws a d = some v at hd
     unfold snap at hd
     split at hd
     ·cases hd
     ·rename_i hmb
      cases hd
      exact y0a _ _ _ _ (v1Y hp hmb)
    ·exact ⟨(v0v h1 ⟨r, hr, hb⟩).2.1, fun q => q.2 ⟨r, hr, hb⟩, rfl⟩
   refine ⟨h2.defers, h2.tsize, h2.cst, h2.pin, h2.base, h2.own, fun d => ?_⟩
   by_cases hd : p = d
   ·subst hd
    rw [Tab.get_cons_eq]
    simp [SV.ok, AV.ok, Array.getD_eq_getD_getElem?, hpl]
   ·rw [Tab.get_cons_ne _ _ hd]
    exact h2.slot d
  refine wpIn_mono ((hass l a W Z _ pre x hx).sq _ W ⟨Z, ν, hst⟩) ?_
  rintro e a' W' hq
  cases e with
  |normal =>
   obtain ⟨Z', ν', h2⟩ := hq
   have hkeep : ∀ k, (Z k ∨ (bk w k)) → k < W.heap.size → W'.heap[k]? = W.heap[k]? := fun k q hl => h2.base.kept k ⟨hl, fun ho => q.elim (v0v h1 ho).2.1 (fun q => hnO h1 (hplain pre) hb q ho)⟩
   have hbl : ∀ k, bk w k → k < W.heap.size := fun k hk => by
    obtain ⟨o, ho, _⟩ := hb k hk
    exact (Array.getElem?_eq_some_iff.1 ho).1
   refine hK a' W' (fun k hk => hkeep k (.inr hk) (hbl k hk)) ⟨h2.base.os, h2.base.tape, h2.base.output, h2.base.size, fun k hk hl => hkeep k (.inl (z1 k hk)) hl⟩ ⟨Z', ν', fun k hk => h2.base.z0 k (z1 k hk), fun k hk q => ?_, h1.leave e1m e1c e1p e1N h2, fun d hd => h2.cst d _ (by show snap ws a d = _; unfold snap; rw [hd])⟩
   rcases h2.base.zNew k q with q | q
   ·exact z2 k hk q
   ·exact q ⟨hbl k hk, hnO h1 (hplain pre) hb hk⟩
  |exit id => exact hq
  |goto t => exact hq
  |ret => exact hq
  |panic ch => exact hq
  |outgrown => exact hq
 ·rintro l pre x ZP a' W hx ⟨Z, ν, z1, z2, h1, h3⟩ hlen hb
  have hst : SatZ (Env.rnd E.N l ws a W Z (fun k => k < W.heap.size ∧ ¬ X0V (OL pre) ν k)) Z ν (TX x ++ TL) (OL pre) a' W := by
   refine h1.shift (h1.defers.trans e1m) (h1.tsize.trans e1N) (fun d v hd => ?_) (fun r v q => by cases q) ⟨rfl, rfl, rfl, Nat.le_refl _, fun k hk => hk.1, fun _ _ => rfl, h1.base.zok, fun _ q => q, fun _ q => .inl q⟩ (fun _ _ q => q) (fun r hr b hb => ?_) (fun _ _ => rfl)
   ·change snap ws a d = some v at hd
    unfold snap at hd
    split at hd
    ·cases hd
    ·rename_i hmb
     cases hd
     exact h3 d hmb
   ·exact ⟨(v0v h1 ⟨r, hr, hb⟩).2.1, fun q => q.2 ⟨r, hr, hb⟩, rfl⟩
  refine wpIn_mono ((hbody l a W Z _ pre x hx hlen).sq a' W ⟨Z, ν, hst⟩) ?_
  rintro e a2 W' ⟨rfl, Z', ν', h2⟩
  have hkeep : ∀ k, (Z k ∨ (bk w k)) → k < W.heap.size → W'.heap[k]? = W.heap[k]? := fun k q hl => h2.base.kept k ⟨hl, fun ho => q.elim (v0v h1 ho).2.1 (fun q => hnO h1 (hplain pre) hb q ho)⟩
  have hbl : ∀ k, bk w k → k < W.heap.size := fun k hk => by
   obtain ⟨o, ho, _⟩ := hb k hk
   exact (Array.getElem?_eq_some_iff.1 ho).1
  refine ⟨rfl, fun k hk => hkeep k (.inr hk) (hbl k hk), ⟨h2.base.os, h2.base.tape, h2.base.output, h2.base.size, fun k hk hl => hkeep k (.inl (z1 k hk)) hl⟩, Z', ν', fun k hk => h2.base.z0 k (z1 k hk), fun k hk q => ?_, ?_⟩
  ·rcases h2.base.zNew k q with q | q
   ·exact z2 k hk q
   ·exact q ⟨hbl k hk, hnO h1 (hplain pre) hb hk⟩
  ·have h4 := h1.leave e1m e1c e1p e1N h2
   refine h4.shift (had.trans e1m.symm) (hw.tsize.trans e1N.symm) (fun d v q => by rw [e1c] at q; cases q) (fun r v q => by rw [e1p] at q; cases q) h4.base (fun _ _ q => q) (fun r hr b hb => ?_) (fun d hd => ?_)
   ·obtain ⟨q1, q2, q3⟩ := v0v h4 ⟨r, hr, hb⟩
    exact ⟨q2, q3, rfl⟩
   ·exact (h2.cst d _ (by show snap ws a d = _; unfold snap; rw [htl d hd])).symm
 ·rintro D xs ZP W hDe hR ⟨Z, ν, z1, z2, h⟩ hh
  have hD : w.heap.size ≤ D := by omega
  have hZD : ¬ Z D := z2 D (.inl hDe)
  have hDl := (Array.getElem?_eq_some_iff.1 hh).1
  have hzd : ¬ E.Z0 D := fun q => by have := hw.base.zLt D (hw.base.z0 D q); omega
  have hnoD : ∀ k, X0V (OL xs) ν k → k ≠ D := fun k hk e => by
   subst e
   obtain ⟨ob, q1, q2⟩ := X0X h (hplain xs) hk
   rw [hh] at q1; cases q1; cases q2
  have hEk : ∀ k, E.keep k → E1.keep k := fun k hk => (e1k k).2 ⟨Nat.lt_of_lt_of_le (hw.base.keepLt k hk) hw.base.size, fun ho => (v0v hw ho).2.2 hk⟩
  have hbase : Base E Z W := ⟨h.base.os.trans (by rw [e1w]; exact hw.base.os), h.base.tape.trans (by rw [e1w]; exact hw.base.tape), h.base.output.trans (by rw [e1w]; exact hw.base.output), Nat.le_trans hw.base.size (by have := h.base.size; rwa [e1w] at this), hw.base.keepLt, fun k hk => (h.base.kept k (hEk k hk)).trans (by rw [e1w]; exact hw.base.kept k hk), h.base.zok, fun k hk => h.base.z0 k ((e1z k).2 (hw.base.z0 k hk)), fun k hk => by
   rcases h.base.zNew k hk with q | q
   ·exact hw.base.zNew k ((e1z k).1 q)
   ·exact .inr fun q' => q (hEk k q')⟩
  refine hdone D W xs Z ν _ ⟨⟨Z, hbase⟩, Nat.le_trans hw.base.size hD, hzd, hh⟩ (hR.mono fun τ _ v hv => AV.ok_mono z1 (Nat.le_refl _) (fun _ _ _ => rfl) τ v hv) ?_
  refine h.shift (by show _ :: a.defers = _; rw [had]; rfl) hw.tsize (fun d v q => by cases q) (fun r v q => by cases q) ⟨rfl, rfl, rfl, Nat.le_refl _, fun k hk => ?_, fun _ _ => rfl, h.base.zok, hbase.z0, fun k hk => ?_⟩ (fun _ _ q => q) (fun r hr b hb => ?_) (fun _ _ => rfl)
  ·rcases hk with hk | rfl
   ·exact Nat.lt_of_lt_of_le (hbase.keepLt k hk) hbase.size
   ·exact hDl
  ·rcases hbase.zNew k hk with q | q
   ·exact .inl q
   ·exact .inr fun q' => q'.elim q (fun e => hZD (e ▸ hk))
  ·obtain ⟨q1, q2, q3⟩ := v0v h ⟨r, hr, hb⟩
   refine ⟨q2, fun q => ?_, rfl⟩
   rcases q with q | q
   ·exact q3 (hEk b q)
   ·exact hnoD b ⟨r, hr, hb⟩ q
end Go.Vc
end
section
namespace Go.Vc
open Go Go.RowKit
structure YM (P : Program) (V : Value → Prop) (τs : List AV) (l : Nat) (J : List Value → j0q → World → Prop) : Prop where
 grow : ∀ s ZP A B, J s ZP A → A.grownBy B none → J s (j1I ZP A B) B
 yld : ∀ pre x ZP A, J pre ZP A → V x → pre.length < τs.length → YieldAt Fence.wide 0 P l #[x] A fun e B => e = .returned (.bool true) ∧ J (pre ++ [x]) ZP B ∧ keepZ ZP A B
structure SM (τs : List AV) (J : List Value → j0q → World → Prop) (m : Nat) (w : World) (Z : j0q) : Prop where
 ex : ∃ pre ZP, J pre ZP w ∧ (∀ k, Z k → ZP k) ∧ All2 (fun τ v => AV.ok ZP w τ v) (τs.take m) pre
def RM (τs : List AV) (J : List Value → j0q → World → Prop) (e : Ending) (w' : World) : Prop :=
 (∃ v, e = .returned v) ∧ ∃ xs ZP, All2 (fun τ v => AV.ok ZP w' τ v) τs xs ∧ J xs ZP w'
theorem All2.snoc {α β : Type} {R : α → β → Prop} {y : β} {x : α} : ∀ {l : List α} {m : List β}, All2 R l m → R x y → All2 R (l ++ [x]) (m ++ [y])
 |[], [], _, h => ⟨h, trivial⟩
 |_ :: _, _ :: _, h, h' => ⟨h.1, All2.snoc h.2 h'⟩
theorem w0W {P : Program} {f : FuncId} {fn : Func} {c : Code} (hf : P.funcs[f]? = some fn) (hb : fn.body = some c) (hname : (fn.name == "runtime.NumGoroutine") = false) : Enters P f := by
 intro vs w
 have hname' : fn.name ≠ "runtime.NumGoroutine" := by simpa using hname
 simp [callFunc, hf, hname', hb]
theorem Q0k {fn : Func} {args : List AV} {N : Nat} {w : World} {Z : j0q} {vs : List Value} (hN : fn.ntmps = N) (hlen' : Nat.ble args.length N = true) (hZ : ZOk Z w) (hvs : All2 (fun τ v => AV.ok Z w τ v) args vs) :
  Sat (q0F N w Z) (y0o 0 (args.map SV.av)) [] { tmps := vs.toArray ++ Array.replicate (fn.ntmps - vs.toArray.size) undef, defers := [] } w := by
 have hlen : args.length ≤ N := Nat.le_of_ble_eq_true hlen'
 have hl := hvs.len
 refine ⟨Z, fun _ => undef, rfl, ?_, (fun _ _ h => by cases h), (fun _ _ h => by cases h), ⟨rfl, rfl, rfl, Nat.le_refl _, fun k hk => hk, fun _ _ => rfl, hZ, fun _ hk => hk, fun _ hk => .inl hk⟩, ⟨fun r x hx => by simp [look] at hx, fun r r' _ h1 => by simp [look] at h1⟩, fun d => ?_⟩
 ·simp only [Array.size_append, List.size_toArray, Array.size_replicate, hN, q0F]; omega
 ·rw [w0c, if_pos (Nat.zero_le _), Nat.sub_zero]
  by_cases hd : d < args.length
  ·have h1 : (args.map SV.av).getD d (.av .any) = .av args[d] := by simp [List.getD, List.getElem?_eq_getElem hd]
   rw [h1]
   obtain ⟨u, hu, hk⟩ := hvs.get d args[d] (List.getElem?_eq_getElem hd)
   have : (vs.toArray ++ Array.replicate (fn.ntmps - vs.toArray.size) undef).getD d undef = u := by
    have hlt := (List.getElem?_eq_some_iff.1 hu).1
    rw [Array.getD_eq_getD_getElem?, Array.getElem?_append_left (by simpa using hlt)]
    simp [hu]
   rw [this]; exact hk
  ·have h1 : (args.map SV.av).getD d (.av .any) = .av .any := by
    rw [List.getD, List.getElem?_eq_none (by simpa using hd)]; rfl
   rw [h1]; trivial
theorem K1s {P : Program} {gf : FuncId} {fn : Func} {c : Code} {caps : List AV} {V : Value → Prop} {τs : List AV} (N : Nat) (hf : P.funcs[gf]? = some fn) (hb : fn.body = some c) (hname : (fn.name == "runtime.NumGoroutine") = false) (hN : fn.ntmps = N) (hlen' : Nat.ble (caps.length + 1) N = true)
  (h : ∀ l J, YM P V τs l J → ∀ w Z, SM τs J 0 w Z → CQ P (q0F N w Z) (bodyPost P fn (RM τs J)) (y0o 0 ((AV.val (.func (.yield l) #[] #[]) :: caps).map SV.av)) [] c) : CtrM P gf caps V τs := by
 refine ⟨w0W hf hb hname, fun w Z cs hZ hcs => ?_⟩
 intro l J W hBl hJ hY h0
 have hZW : ZOk Z W := hZ.next (fun _ q => q) hBl.size (fun k _ hl => hBl.block k hl) (fun k hk => Nat.lt_of_lt_of_le (hZ.1 k hk) hBl.size)
 have hcs' : All2 (fun τ v => AV.ok Z W τ v) (AV.val (.func (.yield l) #[] #[]) :: caps) (Value.func (.yield l) #[] #[] :: cs) :=
  ⟨rfl, hcs.mono fun τ _ v hv => AV.ok_mono (fun _ q => q) hBl.size (fun k hk _ => hBl.block k (hZ.1 k hk)) τ v hv⟩
 have key := (h l J ⟨hJ, hY⟩ W Z ⟨⟨[], Z, h0, fun _ q => q, trivial⟩⟩).sq _ W (Q0k hN hlen' hZW hcs')
 have hc : Calls P gf (Value.func (.yield l) #[] #[] :: cs).toArray W (RM τs J) := calls_of_wp hf hb (wpIn_wide.1 key)
 have ha : #[Value.func (.yield l) #[] #[]] ++ cs.toArray = (Value.func (.yield l) #[] #[] :: cs).toArray := by simp
 rw [ha]
 exact callsIn_wide.2 hc
section
variable {P : Program} {V : Value → Prop} {τs : List AV} {l : Nat} {J : List Value → j0q → World → Prop} {N : Nat} {w : World} {Z : j0q} {T : Tab} {O : Own} {Q : Exit → Act → World → Prop}
theorem SM.below {a : Act} {w1 : World} {Z1 : j0q} {ν : j0W} (h : SatZ (q0F N w Z) Z1 ν T O a w1) : w.grownBy w1 none := ⟨h.base.os, h.base.tape, h.base.output, h.base.size, fun k hk _ => h.base.kept k hk⟩
theorem SM.now (Y : YM P V τs l J) {m : Nat} (S : SM τs J m w Z) {a : Act} {w1 : World} {Z1 : j0q} {ν : j0W} (h : SatZ (q0F N w Z) Z1 ν T O a w1) : SM τs J m w1 Z1 := by
 obtain ⟨pre, ZP, h1, h2, h3⟩ := S.ex
 have hg := SM.below h
 refine ⟨pre, j1I ZP w w1, Y.grow _ _ _ _ h1 hg, fun k hk => ?_, h3.mono fun τ _ v hv => AV.ok_mono (fun k q => .inl q) hg.size (fun k _ hl => hg.block k hl (by simp)) τ v hv⟩
 rcases h.base.zNew k hk with q | q
 ·exact .inl (h2 k q)
 ·exact .inr ⟨Nat.le_of_not_lt q, h.base.zLt k hk⟩
theorem w1E {a : Act} {w1 : World} {Z1 : j0q} {ν : j0W} (h : SatZ (q0F N w Z) Z1 ν T [] a w1) : SatZ (q0F N w1 Z1) Z1 ν T [] a w1 :=
 h.shift h.defers h.tsize (fun _ _ q => by cases q) (fun _ _ q => by cases q) ⟨rfl, rfl, rfl, Nat.le_refl _, fun _ hk => hk, fun _ _ => rfl, h.base.zok, fun _ hk => hk, fun _ hk => .inl hk⟩ (fun _ _ q => q) (fun r hr => absurd rfl hr) (fun _ _ => rfl)
theorem Y0p (Y : YM P V τs l J) {m : Nat} (S : SM τs J m w Z) {τ : AV} {d : Nat} {c y : Operand} {ats : Array TypeId} {ty : TypeId} {pos : String} {af : Array Edge} {ops : Array Oper} {l' : List Oper}
  (hm : τs[m]? = some τ) (hx : ∀ Z w v, AV.ok Z w τ v → V v) (hc : T.ev c = .av (.val (.func (.yield l) #[] #[]))) (hy : T.ev y = .av τ) (hd : (q0F N w Z).wr d = true)
  (ht : ∀ w' Z', SM τs J (m + 1) w' Z' → LSQ P (q0F N w' Z') ops Q l' ((d, .av (.val (.bool true))) :: T) []) :
  LSQ P (q0F N w Z) ops Q (⟨some d, .call ⟨.value c, #[y], ats⟩, ty, pos, af, none⟩ :: l') T [] := by
 refine ⟨fun a w1 hsat => ?_⟩
 obtain ⟨Z1, ν, h⟩ := hsat
 obtain ⟨pre, ZP, j1, j2, j3⟩ := (S.now Y h).ex
 have hyv := j0M h y
 rw [hy] at hyv
 have hyv : AV.ok Z1 w1 τ (a.eval y) := hyv
 have hml : m < τs.length := (List.getElem?_eq_some_iff.1 hm).1
 have hpl : pre.length = m := by have := j3.len; rw [List.length_take] at this; omega
 obtain ⟨fn, tmps, assign, body, hyl, hR⟩ := Y.yld pre (a.eval y) ZP w1 j1 (hx _ _ _ hyv) zO
 have hfv : a.eval c = .func (.yield l) #[] #[] := by
  have := j0M h c
  rw [hc] at this
  exact this
 refine wpListIn_plain rfl fun K hK => ?_
 refine ⟨fun _ _ => trivial, ?_⟩
 rw [show (fc (q0F N w Z).round).round = none from rfl, Oper.semAt_eq none a.eval _ (by intro c; simp)]
 have hrun : (execOp a.eval ⟨some d, .call ⟨.value c, #[y], ats⟩, ty, pos, af, none⟩).run P w1 = .ok (.round l fn tmps assign body) w1 := by
  simp [execOp, resolve, Deferred.ofValue, hfv, invoke] at hyl ⊢
  exact hyl
 rw [hrun]
 refine ⟨fun h => by simp [fc, q0F] at h, ?_⟩
 refine RoundIn.mono (F := Fence.wide) hR ?_
 rintro e W' ⟨rfl, hj, hk⟩
 have hzk : ∀ k, Z1 k → k < w1.heap.size → W'.heap[k]? = w1.heap[k]? := fun k hz hl => hk.2.2.2.2 k (j2 k hz) hl
 have htk : τs.take (m + 1) = τs.take m ++ [τ] := by rw [List.take_add_one, hm]; rfl
 have hS : SM τs J (m + 1) W' Z1 := by
  refine ⟨pre ++ [a.eval y], ZP, hj, j2, ?_⟩
  rw [htk]
  exact (j3.mono fun τ _ v hv => AV.ok_mono (fun _ q => q) hk.2.2.2.1 (fun k q hl => hk.2.2.2.2 k q hl) τ v hv).snoc (AV.ok_mono j2 hk.2.2.2.1 hzk τ _ hyv)
 refine hK _ _ ((ht W' Z1 hS).sq _ _ ⟨Z1, ν, ?_⟩)
 have h2 : SatZ (q0F N W' Z1) Z1 ν T [] a W' :=
  h.shift h.defers h.tsize (fun _ _ q => by cases q) (fun _ _ q => by cases q) ⟨rfl, rfl, rfl, Nat.le_refl _, fun _ hk => hk, fun _ _ => rfl, h.base.zok.next (fun _ q => q) hk.2.2.2.1 hzk (fun k q => Nat.lt_of_lt_of_le (h.base.zLt k q) hk.2.2.2.1), fun _ hk => hk, fun _ hk => .inl hk⟩
   (AV.ok_mono (fun _ q => q) hk.2.2.2.1 hzk) (fun r hr => absurd rfl hr) (fun _ _ => rfl)
 exact h2.put (some d) _ _ hd rfl
theorem w0v (Y : YM P V τs l J) {m : Nat} (S : SM τs J m w Z) {τ : AV} {d j gd : Nat} {want : Bool} {c y : Operand} {ats : Array TypeId} {ty : TypeId} {pos : String} {af : Array Edge} {ops : Array Oper} {l' : List Oper}
  (hm : τs[m]? = some τ) (hx : ∀ Z w v, AV.ok Z w τ v → V v) (hc : T.ev c = .av (.val (.func (.yield l) #[] #[]))) (hy : T.ev y = .av τ) (hj : (ops[j]?).bind (·.dst) = some gd) (hb : T.get gd = .av (.val (.bool want))) (hd : (q0F N w Z).wr d = true)
  (ht : ∀ w' Z', SM τs J (m + 1) w' Z' → LSQ P (q0F N w' Z') ops Q l' ((d, .av (.val (.bool true))) :: T) []) :
  LSQ P (q0F N w Z) ops Q (⟨some d, .call ⟨.value c, #[y], ats⟩, ty, pos, af, some (j, want)⟩ :: l') T [] := by
 refine ⟨fun a w1 hsat => ?_⟩
 have hsat' := hsat
 obtain ⟨Z1, ν, h⟩ := hsat'
 have hyy := w0Q hj hb h
 have key := (Y0p Y S (ops := ops) (ats := ats) (ty := ty) (pos := pos) (af := af) hm hx hc hy hd ht).sq a w1 hsat
 unfold wpListIn at key ⊢
 rw [if_pos (by simp [Region.wanted])] at key
 show if _ then _ else _
 rw [if_pos (by simp [Region.wanted, hyy])]
 exact key
def K1A (τs : List AV) (J : List Value → j0q → World → Prop) (N m : Nat) (T : Tab) (a : Act) (w : World) : Prop := ∃ Z, SM τs J m w Z ∧ Sat (q0F N w Z) T [] a w
theorem v0w (Y : YM P V τs l J) {γ : Type} {c : Code} (Tof : γ → Tab) (mOf : γ → Nat) (φ : γ → Prop) (μ : γ → Nat) (g0 : γ) (S : SM τs J (mOf g0) w Z) (h0 : φ g0) (hstart : Ent T O (Tof g0) [])
  (hbody : ∀ g, φ g → ∀ w Z, SM τs J (mOf g) w Z → CQ P (q0F N w Z) (Exit.then (fun a w => ∃ g', φ g' ∧ μ g' < μ g ∧ K1A τs J N (mOf g') (Tof g') a w) Q) (Tof g) [] c) : CQ P (q0F N w Z) Q T O (Code.loop c) := by
 refine ⟨fun a w1 hs => ?_⟩
 obtain ⟨Z1, ν, h1⟩ := hstart _ a w1 hs
 refine wpIn_loop_ghost (fun n a w => ∃ g, μ g = n ∧ φ g ∧ K1A τs J N (mOf g) (Tof g) a w) (μ g0) ⟨g0, rfl, h0, Z1, S.now Y h1, Z1, ν, w1E h1⟩ ?_
 rintro n a w2 ⟨g, rfl, hg, Z2, S2, hsat⟩
 refine wpIn_mono ((hbody g hg w2 Z2 S2).sq a w2 hsat) ?_
 intro e a' w' hq
 cases e with
 |normal => obtain ⟨g', h1, h2, h3⟩ := hq; exact ⟨μ g', h2, g', rfl, h1, h3⟩
 |exit id => exact hq
 |goto l => exact hq
 |ret => exact hq
 |panic ch => exact hq
 |outgrown => exact hq
theorem q0e (Y : YM P V τs l J) {γ : Type} {Tof : γ → Tab} {mOf : γ → Nat} {φ : γ → Prop} {μ : γ → Nat} {g : γ} (g' : γ) (S : SM τs J (mOf g') w Z) (h1 : φ g') (h2 : μ g' < μ g) (h3 : Ent T O (Tof g') []) :
  SQ (q0F N w Z) T O (Exit.then (fun a w => ∃ g', φ g' ∧ μ g' < μ g ∧ K1A τs J N (mOf g') (Tof g') a w) Q .normal) := fun a w' hs => by
 obtain ⟨Z1, ν, hz⟩ := h3 _ a w' hs
 exact ⟨g', h1, h2, Z1, S.now Y hz, Z1, ν, w1E hz⟩
variable {fn : Func}
theorem x1k (Y : YM P V τs l J) (hr : fn.results = #[]) (S : SM τs J τs.length w Z) : SQ (q0F N w Z) T O (bodyPost P fn (RM τs J) .ret) := by
 rintro a w' ⟨Z', ν, h⟩
 obtain ⟨pre, ZP, h1, _, h3⟩ := (S.now Y h).ex
 rw [List.take_length] at h3
 exact bodyPost_ret (results_none hr _ _ _) h.defers ⟨⟨_, rfl⟩, pre, ZP, h3, h1⟩
theorem W0N (Y : YM P V τs l J) (hr : fn.results = #[]) (S : SM τs J τs.length w Z) : SQ (q0F N w Z) T O (bodyPost P fn (RM τs J) .normal) := x1k Y hr S
abbrev W1v (P : Program) (fn : Func) (R : Ending → World → Prop) : Exit → Act → World → Prop := bodyPostM Fence.wide 0 P fn R
variable {E : Env} {R : Ending → World → Prop}
theorem j1u {D : Nat} {w2 : World} (hA : AfterOk (q0F N w Z) D w2) {a : Act} {w' : World} (h : Sat ((q0F N w Z).after D w2) T O a w') :
  a.defers = [{ target := .collected D, args := #[] }] ∧ w'.heap[D]? = some (.deferred (some [])) ∧ Sat (q0F N w Z) T O { a with defers := [] } (w'.putObj D (.deferred none)) := by
 obtain ⟨Z1, ν, h⟩ := h
 obtain ⟨Z2, hb⟩ := hA.base
 have hD : w'.heap[D]? = some (.deferred (some [])) := (h.base.kept D (.inr rfl)).trans hA.heap
 have hne : ∀ k, k ≠ D → (w'.putObj D (.deferred none)).heap[k]? = w'.heap[k]? := fun k hk => World.putObj_heap_other hk
 have hsz : (w'.putObj D (.deferred none)).heap.size = w'.heap.size := by simp [World.putObj]
 have hzD : ¬ Z1 D := fun q => (h.base.zNew D q).elim hA.z (fun q => q (.inr rfl))
 refine ⟨h.defers, hD, Z1, ν, ?_⟩
 refine h.shift rfl h.tsize (fun _ _ q => by cases q) (fun _ _ q => by cases q) ⟨h.base.os.trans hb.os, h.base.tape.trans hb.tape, h.base.output.trans hb.output, ?_, hb.keepLt, fun k hk => ?_, h.base.zok.next (fun _ q => q) zO (fun k q _ => hne k (fun e => hzD (e ▸ q))) (fun k hk => by have := h.base.zLt k hk; omega), h.base.z0, fun k hk => ?_⟩ (AV.ok_mono (fun _ q => q) zO (fun k q _ => hne k (fun e => hzD (e ▸ q)))) (fun r hr b hb2 => ?_) (fun _ _ => rfl)
 ·have := Nat.le_trans hb.size h.base.size
  omega
 ·have hkD : k ≠ D := fun e => by subst e; have := hb.keepLt k hk; have := hA.lo; omega
  exact (hne k hkD).trans ((h.base.kept k (.inl hk)).trans (hb.kept k hk))
 ·rcases h.base.zNew k hk with q | q
  ·exact .inl q
  ·exact .inr fun q' => q (.inl q')
 ·obtain ⟨e1, e2, e3⟩ := v0v h ⟨r, hr, hb2⟩
  exact ⟨e2, fun q => e3 (.inl q), hne b (fun e => e3 (.inr e))⟩
theorem z0i {D : Nat} {w2 : World} (hA : AfterOk (q0F N w Z) D w2) (h : SQ (q0F N w Z) T O (bodyPost P fn R .ret)) : SQ ((q0F N w Z).after D w2) T O (W1v P fn R .ret) := by
 intro a w' hs
 obtain ⟨h1, h2, h3⟩ := j1u hA hs
 obtain ⟨_, q⟩ := h _ _ h3
 show LeavesInM Fence.wide 0 P fn a.tmps R a.defers .returning w'
 rw [h1]
 exact ⟨by simp, .inl ⟨D, _, rfl, run_takeDeferred h2, q⟩⟩
theorem K1D {f : FuncId} {c : Code} {args : List AV} {ety sz n : Nat} {fr : Nat → Nat → AV} {ρs : List AV} (N : Nat) (hf : P.funcs[f]? = some fn) (hb : fn.body = some c) (hname : (fn.name == "runtime.NumGoroutine") = false) (hN : fn.ntmps = N) (hlen' : Nat.ble args.length N = true)
  (h : ∀ w Z, CQ P (q0F N w Z) (W1v P fn (Q1P w Z ety sz n fr ρs)) (y0o 0 (args.map SV.av)) [] c) : CtrR P f args ety sz n fr ρs :=
 ⟨w0W hf hb hname, fun w Z vs hZ hvs => callsIn_wide.1 (callsIn_of_wp_marks (n := 0) hf hb trivial ((h w Z).sq _ w (Q0k hN hlen' hZ hvs)))⟩
end
end Go.Vc
end
section
namespace Go.Vc
open Go Go.RowKit
section
variable {P : Program} {E : Env} {T T' : Tab} {O O' : Own} {o : Oper} {d : Option Tmp} {ty : TypeId} {pos : String} {af : Array Edge} {g : Option (Nat × Bool)}
theorem v0e {ops : Array Oper} {Q : Exit → Act → World → Prop} {l : List Oper} (h : Ent T O T' O') (hq : LSQ P E ops Q l T' O') : LSQ P E ops Q l T O := ⟨fun a w hs => hq.sq a w (h E a w hs)⟩
theorem y0L (r q off : Nat) {ety sz n : Nat} {f : Nat → Nat → AV} {cs : List SV} (hq : look O q = some (.row ety sz n f)) (hr : look O r = some (.cells cs)) (hc : cs[off]? = some (.osl q)) (hne : Nat.beq r q = false) :
  Ent T O (T.frz q (.sl n sz f)) ((r, .cells (cs.set off (.av (.sl n sz f)))) :: Own.drop q O) := by
 rintro E a w ⟨Z, ν, h⟩
 have hrq : r ≠ q := fun e => by subst e; simp at hne
 have hrow := h.own.each q _ hq
 have h2 := h.freeze hq
 refine ⟨_, ν, h2.defers, h2.tsize, h2.cst, h2.pin, h2.base, ⟨fun k x hx => ?_, fun k k' hkk e1 e2 => ?_⟩, h2.slot⟩
 ·by_cases hk : r = k
  ·subst hk
   rw [j0g] at hx
   cases hx
   have hlk : look (Own.drop q O) r = some (.cells cs) := by rw [Own.look_drop, if_neg hrq]; exact hr
   obtain ⟨b, ty, arr, q1, q2, q3, q4, q5, q6⟩ := h2.own.each r _ hlk
   refine ⟨b, ty, arr, q1, q2, q3, q4, by rw [List.length_set]; exact q5, fun i s hi => ?_⟩
   rw [List.getElem?_set] at hi
   by_cases hio : off = i
   ·subst hio
    rw [if_pos rfl] at hi
    split at hi
    ·cases hi
     obtain ⟨u, hu, hk⟩ := q6 off _ hc
     have hu2 : u = ν q := hk
     refine ⟨u, hu, ?_⟩
     rw [hu2]
     exact Q0I hrow (fun _ hz => .inl hz) (fun b hb => .inr hb)
    ·cases hi
   ·rw [if_neg hio] at hi
    exact q6 i s hi
  ·rw [j0d _ _ hk] at hx
   exact h2.own.each k x hx
 ·have key : ∀ k, look ((r, Res.cells (cs.set off (.av (.sl n sz f)))) :: Own.drop q O) k ≠ none → look (Own.drop q O) k ≠ none := fun k hk => by
   by_cases hkr : r = k
   ·subst hkr
    rw [Own.look_drop, if_neg hrq, hr]; simp
   ·rwa [j0d _ _ hkr] at hk
  exact h2.own.apart k k' hkk (key k e1) (key k' e2)
theorem v0Z {t : TypeId} {x : Operand} {r off k : Nat} {cs : List SV} {f : Nat → AV} [ht : AggTy P t k] (hx : T.ev x = .own r off) (hr : look O r = some (.cells cs)) (hc : (cs.drop off).take k = (List.range k).map fun i => .av (f i)) :
  GV P E ⟨d, .load t x, ty, pos, af, g⟩ T O (.av (.agg k f)) [r] [] :=
 j0k [r] fun Z ν a w h hO => by
  obtain ⟨b, hb, hax⟩ := Q0x hx (h x (by simp [Op.operands]))
  obtain ⟨us, hk, hcell, hf⟩ := X0o (P := P) (hO r (by simp) _ hr) hb hc
  subst hk
  have hl := run_loadCells_list (P := P) (w := w) ⟨b, off, none⟩ us hcell
  exact ⟨_, by simp [execOp, Instr.loadAt, hax, Instr.sureAddr, loadVar, ht.agg w, ht.size w, hl], us, rfl, rfl, hf⟩
theorem q0t {t : TypeId} {x : Operand} {r n sz ety i : Nat} {f : Nat → Nat → AV} [ht : AggTy P t sz] (hx : T.ev x = .oel r sz i 0) (hr : look O r = some (.row ety sz n f)) (hi : i < n) :
  GV P E ⟨d, .load t x, ty, pos, af, g⟩ T O (.av (.agg sz (f i))) [r] [] :=
 j0k [r] fun Z ν a w h hO => by
  have := h x (by simp [Op.operands])
  rw [hx] at this
  obtain ⟨b, m, c, hb, hax⟩ := this
  have hget : ∀ j, j < sz → ∃ u, w.cell? ⟨b, i * sz + j, none⟩ = some u ∧ (f i j).ok Z w u := fun j hj => K0d (hO r (by simp) _ hr) hb hi hj
  have hl : ((List.range sz).map fun j => (w.cell? ⟨b, i * sz + j, none⟩).getD undef).length = sz := by simp
  have hcs : ∀ j u, ((List.range sz).map fun j => (w.cell? ⟨b, i * sz + j, none⟩).getD undef)[j]? = some u → w.cell? ((⟨b, i * sz + 0, none⟩ : Addr).add j) = some u := by
   intro j u hu
   simp only [List.getElem?_map, Option.map_eq_some_iff] at hu
   obtain ⟨j', hj', rfl⟩ := hu
   obtain ⟨hj, rfl⟩ := List.getElem?_eq_some_iff.1 hj'
   simp only [List.getElem_range, List.length_range] at hj ⊢
   obtain ⟨u, hu, _⟩ := hget j hj
   rw [j0Q, Nat.add_zero, hu]; rfl
  have hrun := run_loadCells_list (P := P) (w := w) ⟨b, i * sz + 0, none⟩ _ hcs
  rw [hl, Nat.add_zero] at hrun
  refine ⟨.agg ((List.range sz).map fun j => (w.cell? ⟨b, i * sz + j, none⟩).getD undef).toArray, ?_, _, rfl, hl, fun j hj => ?_⟩
  ·simp [execOp, Instr.loadAt, hax, Instr.sureAddr, loadVar, ht.agg w, ht.size w, hrun]
  ·obtain ⟨u, hu, hk⟩ := hget j hj
   exact ⟨u, by simp [hj, hu], hk⟩
end
end Go.Vc
end
section
namespace Go.Vc
open Go Go.RowKit
section
variable {P : Program} {E : Env} {T T' : Tab} {O O' : Own}
theorem Z0q {Q : Exit → Act → World → Prop} (h : Ent T O T' O') : SQ E T O (Exit.then (fun a w => Sat E T' O' a w) Q .normal) := fun a w hs => h E a w hs
theorem Z0s (h : Ent T O T' O') : SQ E T O ((fun (e : Exit) a w => e = Exit.normal ∧ Sat E T' O' a w) .normal) := fun a w hs => ⟨rfl, h E a w hs⟩
theorem x1l {Q : Act → World → Prop} {a : Act} {w : World} (hs : Sat E T O a w) (h : SQ E T O Q) : Q a w := h a w hs
theorem SatZ.rerowM {Z : j0q} {ν : j0W} {a : Act} {w : World} {r n sz ety : Nat} {f f' : Nat → Nat → AV} (hs : SatZ E Z ν T O a w) (hr : look O r = some (.row ety sz n f)) (hf : ∀ i, i < n → ∀ j, j < sz → ∀ u, (f i j).ok Z w u → (f' i j).ok Z w u) : SatZ E Z ν T ((r, .row ety sz n f') :: O) a w := by
 refine ⟨hs.defers, hs.tsize, hs.cst, hs.pin, hs.base, ⟨fun k x hx => ?_, fun k k' hne h1 h2 => ?_⟩, hs.slot⟩
 ·by_cases hk : r = k
  ·subst hk
   rw [j0g] at hx
   cases hx
   rcases hs.own.each r _ hr with h | ⟨b, cap, arr, q1, q2, q3, q4, q5, q6, q7, q8⟩
   ·exact .inl h
   ·exact .inr ⟨b, cap, arr, q1, q2, q3, q4, q5, q6, q7, fun i hi j hj => let ⟨u, hu, hk⟩ := q8 i hi j hj; ⟨u, hu, hf i hi j hj u hk⟩⟩
  ·rw [j0d _ _ hk] at hx
   exact hs.own.each k x hx
 ·have key : ∀ k, look ((r, Res.row ety sz n f') :: O) k ≠ none → look O k ≠ none := fun k hk => by
   by_cases hkr : r = k
   ·subst hkr; rw [hr]; simp
   ·rwa [j0d _ _ hkr] at hk
  exact hs.own.apart k k' hne (key k h1) (key k' h2)
end
end Go.Vc
end
section
namespace Go.Vc
open Go Go.RowKit
section
variable {P : Program} {E : Env} {T T' : Tab} {O O' : Own} {o : Oper} {d : Option Tmp} {ty : TypeId} {pos : String} {af : Array Edge} {g : Option (Nat × Bool)}
theorem z0Z {t : TypeId} {x y : Operand} {r n sz ety i : Nat} {f : Nat → Nat → AV} {h : Nat → AV} [ht : SizeTy P t sz] (hx : T.ev x = .oel r sz i 0) (hy : T.ev y = .av (.agg sz h)) (h1 : ∀ i, i < sz → (h i).one = true) (hr : look O r = some (.row ety sz n f)) (hi : i < n) :
  GV P E ⟨d, .store t x y, ty, pos, af, g⟩ T O (.av .any) [r] [(r, .row ety sz n (v0f f i 0 ((List.range sz).map h)))] := by
 refine ⟨fun T' O' hT hO => ⟨by intro c; simp, fun Z ν a w hs => ?_⟩⟩
 have ex := j0M hs x
 rw [j0s (o := ⟨d, .store t x y, ty, pos, af, g⟩) hT (by simp [Op.operands]), hx] at ex
 have ey := j0M hs y
 rw [j0s (o := ⟨d, .store t x y, ty, pos, af, g⟩) hT (by simp [Op.operands]), hy] at ey
 obtain ⟨b, m, c, hb, hax⟩ := ex
 obtain ⟨us, hus, hl, hc⟩ := ey
 have hall : All2 (fun s v => AV.ok Z w s v) ((List.range sz).map h) us := by
  rw [List.range_eq_range']
  exact q1s sz 0 h us hl (fun i hi => by rw [Nat.zero_add]; exact hc i hi)
 have hone : ∀ v ∈ us, v.oneCell' = true := by
  intro v hv
  obtain ⟨i, hi, rfl⟩ := List.getElem_of_mem hv
  obtain ⟨u, hu, hk⟩ := hc i zO
  rw [List.getElem?_eq_getElem hi] at hu
  cases hu
  exact AV.one_cells (h1 i zO) hk
 obtain ⟨w', hst, hsat⟩ := hs.storeRow (P := P) (j := 0) (ss := (List.range sz).map h) (vs := us) (by rw [hO r (by simp)]; exact hr) hb hi (by simp) hall hone
 unfold Oper.wp
 rw [Nat.add_zero] at hst hax
 have hrun : (execOp a.eval ⟨d, .store t x y, ty, pos, af, g⟩).run P w = .ok .skip w' := by
  simp [execOp, Instr.storeAt, hax, Instr.sureAddr, storeVar, ht.run w, hus, Value.cells, hl, hst]
 rw [hrun]
 exact ⟨Go.undef, Z, ν, rfl, hsat, trivial⟩
def Y0g (f : Nat → Nat → AV) (lo : Nat) : Nat → Nat → AV := fun i j => if lo ≤ i then .any else f i j
theorem y1S {t e : TypeId} {x : Operand} {r lo n ety sz : Nat} {f : Nat → Nat → AV} {z : Value} {zs : List Value} [ht : SlTy P t e sz] (hv : ∀ w, (zeroValue e).run P w = .ok z w) (hz : z.cells = zs.toArray) (hzl : zs.length = sz) (hsz : 0 < sz) (h1 : ∀ v ∈ zs, v.oneCell' = true) (hx : T.ev x = .osx r sz lo (n - lo)) (hr : look O r = some (.row ety sz n f)) :
  GV P E ⟨d, .call ⟨.builtin .clear, #[x], #[t]⟩, ty, pos, af, g⟩ T O (.av .any) [r] [(r, .row ety sz n (Y0g f lo))] := by
 refine ⟨fun T' O' hT hO => ⟨by intro c; simp, fun Z ν a w hs => ?_⟩⟩
 have ex := j0M hs x
 rw [j0s (o := ⟨d, .call ⟨.builtin .clear, #[x], #[t]⟩, ty, pos, af, g⟩) hT (by simp [Op.operands, Call.operands])] at ex
 obtain ⟨b, m, c, p, hb, hax, hp⟩ := X0U hx ex
 have hr' : look O' r = some (.row ety sz n f) := by rw [hO r (by simp)]; exact hr
 rcases hs.own.each r _ hr' with ⟨e1, _⟩ | ⟨b', cap, arr, e1, e2, e3, e4, e5, e6, e7, e8⟩
 ·rw [hb] at e1; simp at e1
 have e1' := e1
 rw [hb] at e1
 simp only [Value.slice.injEq, Option.some.injEq, Addr.mk.injEq, and_true] at e1
 obtain ⟨rfl, rfl, rfl⟩ := e1
 by_cases hle : m ≤ lo
 ·have h0 : m - lo = 0 := by omega
  rw [h0] at hax
  refine j0C (w' := w) (v := .tuple #[]) ?_ ⟨_, Z, ν, rfl, hs.rerowM hr' (fun i hi j hj u hu => by unfold Y0g; rw [if_neg (by omega)]; exact hu), trivial⟩
  cases p <;> simp [execOp, resolve, invoke, builtin, hax, Builtin.clear_, run_underlying ht.und]
 ·have hpos : 0 < m - lo := by omega
  rw [hp (.inl hpos)] at hax
  obtain ⟨zl, hzl'⟩ : ∃ zl, zl = (Builtin.zeroCells z.cells (m - lo)).toList := ⟨_, rfl⟩
  have hzlen : zl.length = (m - lo) * sz := by rw [hzl', hz]; simp [Builtin.zeroCells, hzl]
  have hzone : ∀ v ∈ zl, v.oneCell' = true := by
   intro v hv'
   rw [hzl', hz] at hv'
   simp only [Builtin.zeroCells, Array.toList_map, List.mem_map, List.size_toArray] at hv'
   obtain ⟨i, _, rfl⟩ := hv'
   have hlt : i % zs.length < zs.length := Nat.mod_lt _ zO
   rw [getElem!_pos zs.toArray (i % zs.length) (by simpa using hlt)]
   exact h1 _ (by simp)
  have hmul : lo * sz + (m - lo) * sz = m * sz := by rw [← Nat.add_mul]; congr 1; omega
  have hmc : m * sz ≤ arr.size := by rw [e7]; exact Nat.mul_le_mul_right _ e5
  have hst := run_storeCells_at P b (lo * sz) ety zl 0 arr w e4 zO hzone
  simp only [Nat.add_zero] at hst
  refine j0C (w' := _) (v := .tuple #[]) ?_ ⟨_, Z, ν, rfl, hs.write hr' (b := b) (by rw [hb]; rfl) (w' := w.setRow b (arr.toList.take (lo * sz) ++ zl ++ arr.toList.drop (lo * sz + zl.length)).toArray) rfl rfl rfl (by simp) (fun k hk => setRow_other w b k _ hk) (fun hsv => ?_), trivial⟩
  ·obtain ⟨q, hq⟩ : ∃ q, m - lo = q + 1 := ⟨m - lo - 1, by omega⟩
   rw [hq] at hax hzl'
   simp only [execOp, resolve, invoke, builtin, Sem.run_bind, Sem.run_pure, Result.andThen_ok, List.map_toArray, List.map_cons, List.map_nil, hax]
   simp [Builtin.clear_, run_underlying ht.und, hv, ← hzl', hst]
  ·refine .inr ⟨b, c, _, e1', e2, e3, setRow_heap w b arr _ ety _ e4, e5, e6, ?_, fun i hi j hj => ?_⟩
   ·rw [← e7]; simp; omega
   ·obtain ⟨u0, hu0, hk0⟩ := e8 i hi j hj
    have hlt0 : i * sz + j < arr.size := (Array.getElem?_eq_some_iff.1 hu0).1
    by_cases hil : lo ≤ i
    ·have hlen : i * sz + j < (arr.toList.take (lo * sz) ++ zl ++ arr.toList.drop (lo * sz + zl.length)).toArray.size := by simp; omega
     exact ⟨_, Array.getElem?_eq_getElem hlen, by unfold Y0g; rw [if_pos hil]; trivial⟩
    ·refine ⟨u0, ?_, by unfold Y0g; rw [if_neg hil]; exact hsv (.av _) _ hk0⟩
     have : (i + 1) * sz ≤ lo * sz := Nat.mul_le_mul_right _ zO
     rw [Nat.add_mul, Nat.one_mul] at this
     simp only [List.getElem?_toArray, List.append_assoc]
     rw [List.getElem?_append_left (by simp; omega), List.getElem?_take_of_lt (by omega)]
     simpa using hu0
end
end Go.Vc
end
section
namespace Go.Vc
open Go Go.RowKit
section
variable {P : Program} {E : Env} {T : Tab} {O : Own} {d : Option Tmp} {ty : TypeId} {pos : String} {af : Array Edge} {g : Option (Nat × Bool)}
theorem w0a {t e : TypeId} {x : Operand} {n : Nat} {f : Nat → AV} [ht : ArrTy P t n e 1] (hx : T.ev x = .av (.ptr n f)) (hn : 0 < n) (hm : n ≤ maxLen) :
  GV P E ⟨d, .slice t x none none none, ty, pos, af, g⟩ T O (.av (.sl n 1 (fun i _ => f i))) [] [] :=
 j0k [] fun Z ν a w hh _ => by
  obtain ⟨b, o, he, hz, hb, hc⟩ := Q0C hx (hh x (by simp [Op.operands]))
  have hrun : (Instr.sliceAt t (.pointer (some ⟨b, o, none⟩)) none none none).run P w = .ok (.slice (some ⟨b, o, none⟩) n n) w := by
   have hne : n ≠ 0 := by omega
   simp [Instr.sliceAt, run_underlying ht.und, Instr.sliceBounds, ht.size w, j0Q, asAddr, Instr.sureAddr]
  refine ⟨.slice (some ⟨b, o, none⟩) n n, by simp [execOp, he, hrun], some ⟨b, o, none⟩, n, rfl, Nat.le_refl _, hm, fun _ => ⟨b, o, rfl, fun _ => hz hn, hb, fun i hi j hj => ?_⟩⟩
  obtain ⟨u, hu, hk⟩ := hc i hi
  obtain rfl : j = 0 := by omega
  exact ⟨u, by simpa using hu, hk⟩
theorem V1y {n : Nat} {f f' : Nat → AV} (k : Nat) (hT : T.get k = .av (.ptr n f)) (hf : ∀ i, i < n → f i = f' i) : Ent T O ((k, .av (.ptr n f')) :: T) O := by
 rintro E a w ⟨Z, ν, h⟩
 refine ⟨Z, ν, h.defers, h.tsize, h.cst, h.pin, h.base, h.own, fun q => ?_⟩
 by_cases hq : k = q
 ·subst hq
  rw [Tab.get_cons_eq]
  have hs := h.slot k
  rw [hT] at hs
  obtain ⟨b, o, e1, e2, e3, e4⟩ := hs
  exact ⟨b, o, e1, e2, e3, fun i hi => let ⟨u, hu, hk⟩ := e4 i hi; ⟨u, hu, by rw [← hf i hi]; exact hk⟩⟩
 ·rw [Tab.get_cons_ne _ _ hq]
  exact h.slot q
end
end Go.Vc
end
section
namespace Go.Vc
open Go Go.RowKit
section
variable {P : Program} {E : Env} {T : Tab} {O : Own} {d : Option Tmp} {ty : TypeId} {pos : String} {af : Array Edge} {g : Option (Nat × Bool)}
theorem j2x {t e : TypeId} (f : Nat → Nat → AV) (r : Nat) {u : Value} [ht : SlTy P t e 1] (hb : ∀ w, (Instr.buildSlice t 1 #[(0, u)]).run P w = .ok (.slice (some ⟨w.heap.size, 0, none⟩) 1 1) (w.alloc (.cells #[u] e))) (hf : ∀ Z w, (f 0 0).ok Z w u) (hp : Nat.blt r 1000 = true := by first | rfl | assumption) :
  VStep P E ⟨d, .buildSlice t 1 #[(0, .const u)], ty, pos, af, g⟩ T O (T.kill r) ((r, .row e 1 1 f) :: Own.kill r O) (.osl r) := by
 refine ⟨by intro c; simp, fun Z ν a w hs => ?_⟩
 refine j0C (w' := w.alloc (.cells #[u] e)) (v := .slice (some ⟨w.heap.size, 0, none⟩) 1 1) (by simp [execOp, Act.eval, hb])
  ⟨_, Z, v0h ν r (.slice (some ⟨w.heap.size, 0, none⟩) 1 1), rfl, hs.newRes r hp _ _ _ rfl (fun _ hk hnz => .inr ⟨w.heap.size, 1, _, rfl, hk, hnz, heap_alloc_new _ _, Nat.le_refl _, by decide, by simp, fun i hi j hj => ?_⟩), (if_pos rfl : v0h ν r _ r = _).symm⟩
 obtain rfl : i = 0 := by omega
 obtain rfl : j = 0 := by omega
 exact ⟨u, by simp, hf _ _⟩
theorem K1J {t e : TypeId} (f : Nat → Nat → AV) (r : Nat) {u : Value} [ht : SlTy P t e 1] (hb : ∀ w, (Instr.buildSlice t 1 #[(0, u)]).run P w = .ok (.slice (some ⟨w.heap.size, 0, none⟩) 1 1) (w.alloc (.cells #[u] e))) (hu : ∀ Z w, (f 0 0).ok Z w u) (hf : q0N r T O = true) (hp : Nat.blt r 1000 = true := by first | rfl | assumption) :
  VStep P E ⟨d, .buildSlice t 1 #[(0, .const u)], ty, pos, af, g⟩ T O T ((r, .row e 1 1 f) :: O) (.osl r) := (j2x f r hb hu hp).fresh hf
theorem W0w {N : Nat} {W : World} {Z : j0q} {ops : Array Oper} {Q : Exit → Act → World → Prop} {l : List Oper} {t e : TypeId} {x : Operand} {q r n : Nat} {cs : List SV} {f : Nat → AV} [ht : ArrTy P t n e 1] (hx : T.ev x = .own r 0) (hr : look O r = some (.cells cs)) (hcs : cs = (List.range n).map fun i => .av (f i)) (hm : n ≤ maxLen) (hd : (q0F N W Z).wr q = true)
  (h : ∀ ety, LSQ P (q0F N W Z) ops Q l ((q, .osl r) :: T.kill r) ((r, .row ety 1 n (fun i _ => f i)) :: Own.kill r O)) (hp : Nat.blt r 1000 = true := by first | rfl | assumption) :
  LSQ P (q0F N W Z) ops Q (⟨some q, .slice t x none none none, ty, pos, af, none⟩ :: l) T O := by
 refine ⟨fun a w hsat => ?_⟩
 obtain ⟨Z1, ν, hs⟩ := hsat
 obtain ⟨b, ety, arr, h1, h2, h3, h4, h5, h6⟩ := hs.own.each r _ hr
 have hvx := j0M hs x
 rw [hx] at hvx
 obtain ⟨b', hb', hax⟩ := hvx
 rw [h1] at hb'
 simp only [Value.pointer.injEq, Option.some.injEq, Addr.mk.injEq, and_true] at hb'
 subst hb'
 have hl : cs.length = n := by rw [hcs]; simp
 have hgr : w.grownBy w (j0y (ν r)) := ⟨rfl, rfl, rfl, Nat.le_refl _, fun _ _ _ => rfl⟩
 have hsat2 := hs.reRow hr hp (.slice (some ⟨b, 0, none⟩) n n) (.row ety 1 n (fun i _ => f i)) hgr (fun b' hb => .inl (by rw [h1]; exact hb)) (fun hav => .inr ⟨b, n, arr, rfl, h2, h3, h4, Nat.le_refl _, hm, by omega, fun i hi j hj => by
  obtain rfl : j = 0 := by omega
  obtain ⟨u, hu, hk⟩ := h6 i (.av (f i)) (by rw [hcs]; simp [hi])
  exact ⟨u, by simpa using hu, hk⟩⟩)
 refine wpListIn_plain rfl fun K hK => ?_
 refine ⟨fun _ _ => trivial, ?_⟩
 rw [show (fc (q0F N W Z).round).round = none from rfl, Oper.semAt_eq none a.eval _ (by intro c; simp)]
 have hrun : (execOp a.eval ⟨some q, .slice t x none none none, ty, pos, af, none⟩).run P w = .ok (.value (.slice (some ⟨b, 0, none⟩) n n)) w := by
  simp [execOp, Instr.sliceAt, hax, run_underlying ht.und, Instr.sliceBounds, ht.size w, j0Q, Instr.sureAddr]
 rw [hrun]
 exact hK _ _ ((h ety).sq _ _ ⟨Z1, _, hsat2.put (some q) _ _ hd (if_pos rfl).symm⟩)
end
end Go.Vc
end
section
namespace Go.Vc
open Go
variable {P : Program} {E : Env} {T T' : Tab} {O O' : Own}
theorem Y1x {Q : Exit → Act → World → Prop} {c : Code} (h : Ent T O T' O') (hq : CQ P E Q T' O' c) : CQ P E Q T O c := ⟨fun a w hs => hq.sq a w (h E a w hs)⟩
end Go.Vc
end
section
namespace Go.Vc
open Go
def ALe (τ τ' : AV) : Prop := ∀ Z w v, τ.ok Z w v → τ'.ok Z w v
theorem ALe.refl (τ : AV) : ALe τ τ := fun _ _ _ h => h
theorem ALe.of_eq {τ τ' : AV} (h : τ = τ') : ALe τ τ' := by subst h; exact .refl _
theorem ALe.nil {sz : Nat} {f : Nat → Nat → AV} : ALe (.val (.slice none 0 0)) (.sl 0 sz f) := fun Z w v h => by
 have h : v = .slice none 0 0 := h
 subst h
 exact ⟨none, 0, rfl, Nat.le_refl _, Nat.zero_le _, fun hn => absurd hn (Nat.lt_irrefl _)⟩
theorem ALe.sl {n sz : Nat} {f f' : Nat → Nat → AV} (h : ∀ i, i < n → ∀ j, j < sz → ALe (f i j) (f' i j)) : ALe (.sl n sz f) (.sl n sz f') := by
 rintro Z w v ⟨a, c, h1, h2, h3, h4⟩
 refine ⟨a, c, h1, h2, h3, fun hn => ?_⟩
 obtain ⟨b, o, e1, e2, e3, e4⟩ := h4 hn
 exact ⟨b, o, e1, e2, e3, fun i hi j hj => let ⟨u, hu, hk⟩ := e4 i hi j hj; ⟨u, hu, h i hi j hj _ _ _ hk⟩⟩
theorem ALe.getD : ∀ {τs τs' : List AV}, All2 ALe τs τs' → ∀ i, ALe (τs.getD i .any) (τs'.getD i .any)
 |[], [], _, _ => .refl _
 |[], _ :: _, h, _ => h.elim
 |_ :: _, [], h, _ => h.elim
 |_ :: _, _ :: _, h, 0 => h.1
 |_ :: _, _ :: _, h, i + 1 => by simpa using ALe.getD h.2 i
theorem ALe.tup {τs τs' : List AV} (h : All2 ALe τs τs') : ALe (j0x τs) (j0x τs') := by
 rintro Z w v ⟨cs, h1, h2, h4⟩
 have hl := All2.len h
 exact ⟨cs, h1, by rw [h2, hl], fun i hi => let ⟨u, hu, hk⟩ := h4 i (by rw [hl]; exact hi); ⟨u, hu, ALe.getD h i _ _ _ hk⟩⟩
theorem CtrA.to {P : Program} {f : FuncId} {args : List AV} {τ τ' : AV} (h : CtrA P f args τ) (hle : ALe τ τ') : CtrA P f args τ' :=
 ⟨h.enters, fun w Z vs hZ hvs => (h.calls w Z vs hZ hvs).mono fun _ _ ⟨v, Z', e1, e2, e3, e4, e5, e6⟩ => ⟨v, Z', e1, e2, e3, e4, e5, hle _ _ _ e6⟩⟩
theorem All2.ale {Z : j0q} {w : World} : ∀ {a b : List AV} {vs : List Value}, All2 ALe a b → All2 (fun τ v => AV.ok Z w τ v) a vs → All2 (fun τ v => AV.ok Z w τ v) b vs
 |[], [], [], _, _ => trivial
 |_ :: _, _ :: _, _ :: _, h, hv => ⟨h.1 _ _ _ hv.1, All2.ale h.2 hv.2⟩
 |[], _ :: _, _, h, _ => h.elim
 |_ :: _, [], _, h, _ => h.elim
 |[], [], _ :: _, _, hv => hv.elim
 |_ :: _, _ :: _, [], _, hv => hv.elim
theorem CtrA.of {P : Program} {f : FuncId} {args args' : List AV} {τ : AV} (h : CtrA P f args τ) (hle : All2 ALe args' args) : CtrA P f args' τ :=
 ⟨h.enters, fun w Z vs hZ hvs => h.calls w Z vs hZ (All2.ale hle hvs)⟩
variable {T : Tab} {O : Own}
end Go.Vc
end
section
namespace Go.Vc
open Go Go.RowKit
variable {P : Program} {E : Env} {T : Tab} {O : Own} {d : Option Tmp} {ty : TypeId} {pos : String} {af : Array Edge} {g : Option (Nat × Bool)}
theorem ALe.sl' {n n' sz : Nat} {f f' : Nat → Nat → AV} (hn : n = n') (h : ∀ i, i < n → ∀ j, j < sz → f i j = f' i j) : ALe (.sl n sz f) (.sl n' sz f') := by
 subst hn
 exact ALe.sl fun i hi j hj => ALe.of_eq (h i hi j hj)
end Go.Vc
end
section
end
section
namespace Go.Vc
open Go Go.RowKit
section
variable {P : Program} {E : Env} {T : Tab} {O Oc O' : Own} {d : Option Tmp} {ty : TypeId} {pos : String} {af : Array Edge} {g : Option (Nat × Bool)}
theorem X0C {id : Nat} {L l : List Oper} {Q : Exit → Act → World → Prop} {rpre : List (Oper × Rec)} {T0 : Tab} {O0 : Own} {d : Nat} {op : Op} {s : SV} {rr : List Nat} {upd : Own} (hs : GV P E ⟨some d, op, ty, pos, af, none⟩ T O s rr upd) (hd : E.wr d = true) (hr : DRQ P E id L Q ((⟨some d, op, ty, pos, af, none⟩, ⟨[(d, s)], rr, upd, []⟩) :: rpre) l T0 O0 ((d, s) :: T) (upd ++ O)) : DRQ P E id L Q rpre (⟨some d, op, ty, pos, af, none⟩ :: l) T0 O0 T O := V1q hs rfl hd hr
end
end Go.Vc
namespace Go.Vc
open Go Go.RowKit
section
variable {P : Program} {E : Env} {T : Tab} {O : Own} {d : Option Tmp} {ty : TypeId} {pos : String} {af : Array Edge} {g : Option (Nat × Bool)}
end
end Go.Vc
end
section
namespace Go.Vc
open Go
abbrev bs (l : List UInt8) : ByteArray := ⟨l.toArray⟩
abbrev vS (l : List UInt8) : AV := .val (.string (bs l))
variable {P : Program} {E : Env} {T : Tab} {O : Own} {d : Option Nat} {ty : TypeId} {pos : String} {af : Array Edge} {g : Option (Nat × Bool)}
theorem x0x {op : BinOp} {t : TypeId} {x y : Operand} {a b : ByteArray} {w : World} : (eqGuard op t x y (.string a) (.string b)).run P w = .ok () w := by
 unfold eqGuard
 cases op <;> simp
theorem q1q (l : List UInt8) : (bs l).toList = l := by
 rw [ByteArray.toList_eq]
def j2P : BinOp → List UInt8 → List UInt8 → Option Bool
 |.eql, x, y => some (x == y)
 |.neq, x, y => some (!(x == y))
 |.lss, x, y => some (Op.bytesLess x y)
 |_, _, _ => none
theorem V0m {op : BinOp} {xt yt : TypeId} {x y : Operand} {l m : List UInt8} {b : Bool} (h1 : T.ev x = .av (vS l)) (h2 : T.ev y = .av (vS m)) (hb : j2P op l m = some b) :
  GV P E ⟨d, .binOp op xt x y yt, ty, pos, af, g⟩ T O (.av (.val (.bool b))) [] [] :=
 x0X h1 h2 (fun w => x0x) (fun w => by
  cases op <;> simp only [j2P, Option.some.injEq, reduceCtorEq] at hb <;> subst hb <;> simp [binOp, Op.stringOp, q1q])
theorem V0S (l : List UInt8) : (bs l).size = l.length := rfl
theorem V0n {t : TypeId} {x : Operand} {l : List UInt8} [ht : StrTy P t] (hx : T.ev x = .av (vS l)) :
  GV P E ⟨d, .call ⟨.builtin .len, #[x], #[t]⟩, ty, pos, af, g⟩ T O (.av (.val (.int .i64 l.length))) [] [] :=
 j0k [] fun Z ν a w h _ => by
  have hv := j0B hx (h x (by simp [Op.operands, Call.operands]))
  refine ⟨.int .i64 l.length, ?_, rfl⟩
  simp [execOp, resolve, invoke, builtin, Builtin.len_, hv, run_underlying ht.und, goInt, V0S, -ByteArray.size_data]
theorem q0Z {t : TypeId} {x y : Operand} {l : List UInt8} {q : IntKind} {i : Int} {k : Nat} {b : UInt8} [ht : StrTy P t] (hx : T.ev x = .av (vS l)) (hy : T.ev y = .av (.val (.int q i))) (hi : i = ↑k) (hk : l[k]? = some b) :
  GV P E ⟨d, .index t x y, ty, pos, af, g⟩ T O (.av (.val (.int .u8 b.toNat))) [] [] :=
 j0k [] fun Z ν a w h _ => by
  have hv := j0B hx (h x (by simp [Op.operands]))
  have hu := j0B hy (h y (by simp [Op.operands]))
  subst hi
  refine ⟨.int .u8 b.toNat, ?_, rfl⟩
  have hb : (bs l)[k]? = some b := by
   rw [List.getElem?_eq_some_iff] at hk
   obtain ⟨h1, h2⟩ := hk
   rw [getElem?_pos (bs l) k (show k < (bs l).size from h1)]
   rw [← h2]; rfl
  simp [execOp, Instr.index, hv, hu, asIntOf, run_underlying ht.und, hb]
theorem x0n {xt yt : TypeId} {x y : Operand} {l m : List UInt8} (h1 : T.ev x = .av (vS l)) (h2 : T.ev y = .av (vS m)) (hl : l.length + m.length ≤ 9223372036854775807) :
  GV P E ⟨d, .binOp .add xt x y yt, ty, pos, af, g⟩ T O (.av (vS (l ++ m))) [] [] :=
 x0X h1 h2 (fun w => x0x) (fun w => by
  have e : bs l ++ bs m = bs (l ++ m) := by apply ByteArray.ext; simp [bs]
  have hm : IntKind.i64.max = 9223372036854775807 := by decide
  have hs : ¬ (((bs l).size + (bs m).size : Nat) : Int) > IntKind.i64.max := by rw [V0S, V0S, hm]; omega
  simp only [binOp, Op.stringOp]
  rw [if_neg hs, e]; rfl)
theorem K0M (l : List UInt8) (i j : Nat) : (bs l).extract i j = bs ((l.take j).drop i) := by
 apply ByteArray.ext
 apply Array.ext'
 simp [bs, ByteArray.data_extract, List.extract_eq_take_drop, List.take_drop]
 by_cases h : i ≤ j
 ·rw [show i + (j - i) = j by omega]
 ·rw [List.drop_eq_nil_of_le (by simp; omega), List.drop_eq_nil_of_le (by simp; omega)]
theorem W0q {t : TypeId} {x : Operand} {lo hi : Option Operand} {s : List UInt8} {l h : Nat} [ht : StrTy P t] (hx : T.ev x = .av (vS s))
  (hlo : match lo with | none => l = 0 | some y => ∃ q i, T.ev y = .av (.val (.int q i)) ∧ i = ↑l) (hhi : match hi with | none => h = s.length | some y => ∃ q i, T.ev y = .av (.val (.int q i)) ∧ i = ↑h)
  (hlh : l ≤ h) (hhn : h ≤ s.length) : GV P E ⟨d, .slice t x lo hi none, ty, pos, af, g⟩ T O (.av (vS ((s.take h).drop l))) [] [] :=
 j0k [] fun Z ν a w hh _ => by
  have he := j0B hx (hh x (by simp [Op.operands]))
  have hb : (Instr.sliceBounds false (bs s).size (bs s).size (lo.map a.eval) (hi.map a.eval) none).run P w = .ok (l, h, s.length) w := by
   rw [V0S]
   have h2 : (Instr.sliceBounds false s.length s.length (lo.map a.eval) (hi.map a.eval) none) = (do
     let h ← match hi.map a.eval with | some v => Instr.sliceBound v s.length .sliceAlen | none => pure s.length
     let l ← match lo.map a.eval with | some v => Instr.sliceBound v h .sliceB | none => pure 0
     pure (l, h, s.length)) := by
    unfold Instr.sliceBounds
    cases hi <;> cases lo <;> rfl
   rw [h2]
   cases hi with
   |none =>
    dsimp only at hhi
    subst hhi
    cases lo with
    |none => dsimp only at hlo; subst hlo; simp
    |some y =>
     obtain ⟨q, i, hy, rfl⟩ := hlo
     have hv := j0B hy (hh y (by simp [Op.operands]))
     simp [hv, Instr.sliceBound, asIntOf, hlh]
   |some z =>
    obtain ⟨q', i', hz, rfl⟩ := hhi
    have hv' := j0B hz (hh z (by simp [Op.operands]))
    cases lo with
    |none => dsimp only at hlo; subst hlo; simp [hv', Instr.sliceBound, asIntOf, hhn]
    |some y =>
     obtain ⟨q, i, hy, rfl⟩ := hlo
     have hv := j0B hy (hh y (by simp [Op.operands]))
     simp [hv, hv', Instr.sliceBound, asIntOf, hlh, hhn]
  refine ⟨.string (bs ((s.take h).drop l)), ?_, rfl⟩
  simp [execOp, Instr.sliceAt, Instr.slice, he, run_underlying ht.und, hb, K0M]
end Go.Vc
end
namespace Go.Vc
open Go
def upd {α : Type} (f : Nat → α) (k : Nat) (a : α) : Nat → α := fun i => if i = k then a else f i
theorem X0c {α : Type} (f : Nat → α) (k : Nat) (a : α) : upd f k a k = a := if_pos rfl
theorem Q0O {α : Type} (f : Nat → α) {k i : Nat} (a : α) (h : i ≠ k) : upd f k a i = f i := if_neg h
end Go.Vc
section
namespace Go.Vc
open Go Go.RowKit
variable {P : Program} {E : Env} {T : Tab} {O : Own} {d : Option Nat} {ty : TypeId} {pos : String} {af : Array Edge} {g : Option (Nat × Bool)}
def bf (l : List UInt8) : Nat → Nat → AV := fun i _ => .val (.int .u8 (l.getD i 0).toNat)
class BytesTy (P : Program) (t : TypeId) : Prop where
 bytes : ∃ e, P.underlying t = some (.slice e) ∧ P.underlying e = some (.int .u8)
theorem Y0q (l : List UInt8) : strOfNums (l.map fun b => (b.toNat : Int)) = bs l := by
 apply ByteArray.ext
 apply Array.ext'
 rw [strOfNums_data, List.map_map]
 have e : ((fun n : Int => UInt8.ofNat n.toNat) ∘ fun b : UInt8 => (b.toNat : Int)) = id := funext fun b => by simp
 rw [e, List.map_id]
theorem w1P {t s : TypeId} [hs : BytesTy P s] [ht : StrTy P t] {l : List UInt8} {b o n c : Nat} {w : World} (hn : n = l.length) (h : ∀ i, i < n → w.cell? ⟨b, o + i, none⟩ = some (.int .u8 (l.getD i 0).toNat)) :
  (convert s t (.slice (some ⟨b, o, none⟩) n c)).run P w = .ok (.string (bs l)) w := by
 obtain ⟨e, h1, h2⟩ := hs.bytes
 have := run_convert_bytes_arg (P := P) w s e h1 h2 b o n c (l.map fun b => (b.toNat : Int)) (by simp [hn]) (fun i hi => by
  rw [h i hi]
  subst hn
  simp [List.getD, hi]) t ht.und
 rw [this, Y0q]
theorem J0q {s t : TypeId} {x : Operand} {l : List UInt8} {n : Nat} {f : Nat → Nat → AV} [hs : BytesTy P s] [ht : StrTy P t] (hx : T.ev x = .av (.sl n 1 f)) (hn : n = l.length) (h0 : 0 < n) (hf : ∀ i, i < n → f i 0 = bf l i 0) :
  GV P E ⟨d, .convert s t x, ty, pos, af, g⟩ T O (.av (vS l)) [] [] :=
 j0k [] fun Z ν a w h _ => by
  obtain ⟨p, c, e1, e2, e3, e4⟩ := j1y hx (h x (by simp [Op.operands]))
  obtain ⟨b, o, rfl, _, _, hc⟩ := e4 h0
  refine ⟨.string (bs l), ?_, rfl⟩
  have := w1P (P := P) (t := t) (s := s) (b := b) (o := o) (c := c) (w := w) hn (fun i hi => by
   obtain ⟨u, hu, hk⟩ := hc i hi 0 zE
   rw [hf i hi] at hk
   have hk' : u = .int .u8 (l.getD i 0).toNat := hk
   rw [← hk']; simpa using hu)
  simp [execOp, e1, this]
theorem Q0e {s t : TypeId} {x : Operand} {l : List UInt8} {r n ety : Nat} {f : Nat → Nat → AV} [hs : BytesTy P s] [ht : StrTy P t] (hx : T.ev x = .osl r) (hr : look O r = some (.row ety 1 n f)) (hn : n = l.length) (h0 : 0 < n) (hf : ∀ i, i < n → f i 0 = bf l i 0) :
  GV P E ⟨d, .convert s t x, ty, pos, af, g⟩ T O (.av (vS l)) [r] [] :=
 j0k [r] fun Z ν a w h hrr => by
  have hv := z0V (r := r) (a := a) (ν := ν) (Z := Z) (w := w) hx (h x (by simp [Op.operands]))
  rcases hrr r (by simp) _ hr with ⟨_, e2⟩ | ⟨b, cap, arr, e1, _, _, e4, e5, e6, e7, e8⟩
  ·omega
  ·refine ⟨.string (bs l), ?_, rfl⟩
   have := w1P (P := P) (t := t) (s := s) (b := b) (o := 0) (c := cap) (w := w) hn (fun i hi => by
    obtain ⟨u, hu, hk⟩ := e8 i hi 0 zE
    rw [hf i hi] at hk
    have hk' : u = .int .u8 (l.getD i 0).toNat := hk
    rw [← hk']
    simp only [World.cell?, e4, Nat.zero_add]
    simpa using hu)
   simp [execOp, hv, e1, this]
theorem Z0w (l : List UInt8) (i : Nat) (u : Value) (h : (Lib.strCells (bs l))[i]? = some u) : u = .int .u8 (l.getD i 0).toNat ∧ i < l.length := by
 have hl := Lib.strCells_length (bs l)
 have hi := (List.getElem?_eq_some_iff.1 h).1
 rw [hl] at hi
 have hi' : i < l.length := hi
 refine ⟨?_, hi'⟩
 simp [Lib.strCells] at h
 obtain ⟨a, ha, rfl⟩ := h
 simp [List.getD, ha]
theorem j1b {t t' e : TypeId} {x y : Operand} {r n lo len ety : Nat} {f : Nat → Nat → AV} {s : List UInt8} [ht : SlTy P t e 1] (hx : T.ev x = .osx r 1 lo len) (hr : look O r = some (.row ety 1 n f)) (hy : T.ev y = .av (vS s)) (hl : len = s.length) (hlo : lo + len = n) (h0 : 0 < len) :
  GV P E ⟨d, .call ⟨.builtin .copy, #[x, y], #[t, t']⟩, ty, pos, af, g⟩ T O (.av (.val (.int .i64 (len : Nat)))) [r] [(r, .row ety 1 n (fun i j => if lo ≤ i then .val (.int .u8 (s.getD (i - lo) 0).toNat) else f i j))] := by
 refine ⟨fun T' O' hT hO => ⟨by intro c; simp, fun Z ν a w hs => ?_⟩⟩
 have ex := j0M hs x
 have ey := j0M hs y
 rw [j0s (o := ⟨d, .call ⟨.builtin .copy, #[x, y], #[t, t']⟩, ty, pos, af, g⟩) hT (by simp [Op.operands, Call.operands])] at ex
 rw [j0s (o := ⟨d, .call ⟨.builtin .copy, #[x, y], #[t, t']⟩, ty, pos, af, g⟩) hT (by simp [Op.operands, Call.operands])] at ey
 obtain ⟨b0, n0, c0, p0, ex1, ex2, ex3⟩ := X0U hx ex
 have ey' : a.eval y = .string (bs s) := j0B hy ey
 have hr' : look O' r = some (.row ety 1 n f) := by rw [hO r (by simp)]; exact hr
 have hinf := Y0j ht.size
 rcases hs.own.each r _ hr' with ⟨e1, e2⟩ | ⟨b, cap, arr, e1, e2, e3, e4, e5, e6, e7, e8⟩
 ·omega
 ·have p0' := ex3 (.inl h0)
  rw [ex1] at e1
  simp only [Value.slice.injEq, Option.some.injEq, Addr.mk.injEq, and_true, true_and] at e1
  obtain ⟨rfl, rfl, rfl⟩ := e1
  subst p0'
  simp only [Nat.mul_one] at ex2
  have hsz : (bs s).size = len := hl.symm
  have hcl : (Lib.strCells (bs s)).length = len := by rw [Lib.strCells_length, hsz]
  have hst := run_storeCells_at P b0 lo ety (Lib.strCells (bs s)) 0 arr w e4 (by rw [hcl, e7]; omega) (Lib.strCells_oneCell (bs s))
  have hfc := Lib.run_firstCells_string (P := P) (w := w) 1 (bs s)
  rw [hsz] at hfc
  have hrun : (Builtin.copy_ #[t, t'] ty #[.slice (some ⟨b0, lo, none⟩) len (c0 - lo), .string (bs s)]).run P w = .ok (goInt len) (w.setRow b0 (arr.toList.take lo ++ Lib.strCells (bs s) ++ arr.toList.drop (lo + (Lib.strCells (bs s)).length)).toArray) := by
   cases hq : P.info? e with
   |none => simp [hq] at hinf
   |some i =>
    have hi : i.size = 1 := by simpa [hq] using hinf
    have hlen : (Builtin.lenOf (.string (bs s))).run P w = .ok len w := by simp [Builtin.lenOf, hsz, -ByteArray.size_data]
    simp only [Nat.add_zero] at hst
    simp [Builtin.copy_, run_underlying ht.und, hlen, sizeOf, typeInfo, hq, hi, hfc, hst, -ByteArray.size_data]
  refine j0C (w' := _) (v := .int .i64 (len : Nat)) ?_ ⟨_, Z, ν, rfl, hs.copied (lo := lo) (cs := Lib.strCells (bs s)) hr' ex1 e4 zO (fun i u hu => ?_) (fun i hi hn => ?_), rfl⟩
  ·simp only [execOp, resolve, invoke, builtin, Sem.run_bind, Sem.run_pure, Result.andThen_ok, List.map_toArray, List.map_cons, List.map_nil, ex2, ey', hrun, goInt]
  ·obtain ⟨rfl, hi⟩ := Z0w s i u hu
   rw [if_pos (by omega), show lo + i - lo = i by omega]
   rfl
  ·rw [if_neg (by rw [hcl] at hn; omega)]
theorem V0o {xt yt : TypeId} {x y : Operand} {m n : Int} (h1 : T.ev x = .av (.val (.int .u8 m))) (h2 : T.ev y = .av (.val (.int .u8 n))) (hm : n ≤ m ∧ 0 ≤ n ∧ m ≤ 255) :
  GV P E ⟨d, .binOp .sub xt x y yt, ty, pos, af, g⟩ T O (.av (.val (.int .u8 (m - n)))) [] [] := by
 have h := q0X (P := P) (E := E) (T := T) (O := O) (d := d) (op := .sub) (xt := xt) (yt := yt) (ty := ty) (pos := pos) (af := af) (g := g) h1 h2 rfl
 have e : IntKind.u8.wrap (m - n) = m - n := by
  show (m - n) % 256 = m - n
  omega
 rwa [e] at h
end Go.Vc
end
section
namespace Go.Vc
open Go Go.RowKit
variable {P : Program} {E : Env} {T : Tab} {O : Own} {d : Option Nat} {ty : TypeId} {pos : String} {af : Array Edge} {g : Option (Nat × Bool)}
def vbφ (us : List Value) : j0q → World → Value → Obj → Prop := fun _ _ v ob => ∃ b t, v = .pointer (some ⟨b, 0, none⟩) ∧ ob = .cells us.toArray t (0, 0)
theorem j2y (us : List Value) : RStable (vbφ us) := fun _ _ _ _ _ _ _ _ _ h => h
def Res.vb (us : List Value) : Res := .obj (vbφ us) (j2y us)
theorem Y0y {Z : j0q} {ν : j0W} {w : World} {v : Value} {us : List Value} (h : Res.ok E Z ν w v (.vb us)) :
  ∃ b t, v = .pointer (some ⟨b, 0, none⟩) ∧ ¬ E.keep b ∧ ¬ Z b ∧ w.heap[b]? = some (.cells us.toArray t (0, 0)) := by
 obtain ⟨b, ob, e1, e2, e3, e4, b', t, rfl, rfl⟩ := h
 simp only [j0y, Option.some.injEq] at e1
 subst e1
 exact ⟨_, t, rfl, e2, e3, e4⟩
theorem Q1B {Z : j0q} {ν : j0W} {a : Act} {w : World} {r : Nat} {us : List Value} (hs : SatZ E Z ν T O a w) (hr : look O r = some (.vb us)) :
  ∃ b t, ν r = .pointer (some ⟨b, 0, none⟩) ∧ ¬ E.keep b ∧ ¬ Z b ∧ w.heap[b]? = some (.cells us.toArray t (0, 0)) := Y0y (hs.own.each r _ hr)
theorem w0O {Z : j0q} {ν : j0W} {w : World} {T : Tab} {x : Operand} {a : Act} {r off b : Nat} (hx : T.ev x = .own r off) (h : (T.ev x).ok Z ν w (a.eval x)) (hb : ν r = .pointer (some ⟨b, 0, none⟩)) : a.eval x = .pointer (some ⟨b, off, none⟩) := by
 obtain ⟨b', h1, h2⟩ := Q0x hx h
 rw [hb] at h1
 simp only [Value.pointer.injEq, Option.some.injEq, Addr.mk.injEq, and_true] at h1
 subst h1
 exact h2
theorem q0Y {t : TypeId} {x : Operand} {r off : Nat} {us : List Value} {u : Value} [ht : CellTy P t] (hx : T.ev x = .own r off) (hr : look O r = some (.vb us)) (hc : us[off]? = some u) :
  GV P E ⟨d, .load t x, ty, pos, af, g⟩ T O (.av (.val u)) [r] [] :=
 j0k [r] fun Z ν a w h hO => by
  obtain ⟨b, t', hb, _, _, hh⟩ := Y0y (hO r (by simp) _ hr)
  have hax := w0O hx (h x (by simp [Op.operands])) hb
  have hu : w.cell? ⟨b, off, none⟩ = some u := by simp [World.cell?, hh, hc]
  exact ⟨u, by simp [execOp, Instr.loadAt, hax, Instr.sureAddr, loadVar, ht.run w, hu], rfl⟩
theorem v0L {t : TypeId} {x : Operand} {r k : Nat} {us : List Value} [ht : AggTy P t k] (hx : T.ev x = .own r 0) (hr : look O r = some (.vb us)) (hk : us.length = k) :
  GV P E ⟨d, .load t x, ty, pos, af, g⟩ T O (.av (.val (.agg us.toArray))) [r] [] :=
 j0k [r] fun Z ν a w h hO => by
  subst hk
  obtain ⟨b, t', hb, _, _, hh⟩ := Y0y (hO r (by simp) _ hr)
  have hax := w0O hx (h x (by simp [Op.operands])) hb
  have hl := run_loadCells_list (P := P) (w := w) ⟨b, 0, none⟩ us (fun j v hj => by rw [j0Q]; simp [World.cell?, hh, hj])
  exact ⟨_, by simp [execOp, Instr.loadAt, hax, Instr.sureAddr, loadVar, ht.agg w, ht.size w, hl], rfl⟩
theorem SatZ.storeVb {Z : j0q} {ν : j0W} {a : Act} {w : World} {r off b : Nat} {us vs : List Value} (h : SatZ E Z ν T O a w) (hr : look O r = some (.vb us)) (hb : ν r = .pointer (some ⟨b, 0, none⟩)) (hfit : off + vs.length ≤ us.length) (h1 : ∀ v ∈ vs, v.oneCell' = true) :
  ∃ w', (storeCells ⟨b, off, none⟩ vs).run P w = .ok () w' ∧ SatZ E Z ν T ((r, .vb (us.take off ++ vs ++ us.drop (off + vs.length))) :: O) a w' := by
 obtain ⟨b', t, e1, e2, e3, e4⟩ := Q1B h hr
 rw [hb] at e1
 simp only [Value.pointer.injEq, Option.some.injEq, Addr.mk.injEq, and_true] at e1
 subst e1
 have hst := run_storeCells_at P b off t vs 0 us.toArray w e4 (by simpa using hfit) h1
 simp only [Nat.add_zero] at hst
 refine ⟨_, hst, ?_⟩
 refine h.write hr (b := b) (by rw [hb]; rfl) rfl rfl rfl (by simp) (fun k hk => setRow_other w b k _ hk) (fun hsv => ?_)
 exact ⟨b, _, by rw [hb]; rfl, e2, e3, setRow_heap w b _ _ t _ e4, b, t, hb, rfl⟩
theorem W1M {α : Type} (us : List α) (off : Nat) (v : α) (h : off < us.length) : us.take off ++ [v] ++ us.drop (off + [v].length) = us.set off v := by
 rw [List.set_eq_take_append_cons_drop, if_pos h]; simp
theorem v0s {t : TypeId} {x y : Operand} {r off : Nat} {us vs : List Value} {v : Value} [ht : SizeTy P t 1] (hx : T.ev x = .own r off) (hy : T.ev y = .av (.val v)) (h1 : v.oneCell' = true) (hr : look O r = some (.vb us)) (hfit : off < us.length) (hvs : us.set off v = vs) :
  GV P E ⟨d, .store t x y, ty, pos, af, g⟩ T O (.av .any) [r] [(r, .vb vs)] := by
 subst hvs
 refine ⟨fun T' O' hT hO => ⟨by intro c; simp, fun Z ν a w hs => ?_⟩⟩
 have ex := j0M hs x
 rw [j0s (o := ⟨d, .store t x y, ty, pos, af, g⟩) hT (by simp [Op.operands]), hx] at ex
 have ey := j0M hs y
 rw [j0s (o := ⟨d, .store t x y, ty, pos, af, g⟩) hT (by simp [Op.operands]), hy] at ey
 obtain ⟨b, hb, hax⟩ := ex
 have ey' : a.eval y = v := ey
 obtain ⟨w', hst, hsat⟩ := hs.storeVb (P := P) (off := off) (vs := [v]) (by rw [hO r (by simp)]; exact hr) hb (by simp; omega) (by simpa using h1)
 rw [W1M us off v hfit] at hsat
 unfold Oper.wp
 have hrun : (execOp a.eval ⟨d, .store t x y, ty, pos, af, g⟩).run P w = .ok .skip w' := by
  have hcs : v.cells = #[v] := cells_one h1
  simp [execOp, Instr.storeAt, hax, Instr.sureAddr, storeVar, ht.run w, ey', hcs, hst]
 rw [hrun]
 exact ⟨Go.undef, Z, ν, rfl, hsat, trivial⟩
theorem Q0W {t : TypeId} {x y : Operand} {r k : Nat} {us vs : List Value} [ht : SizeTy P t k] (hx : T.ev x = .own r 0) (hy : T.ev y = .av (.val (.agg vs.toArray))) (hk : vs.length = k) (h1 : ∀ v ∈ vs, v.oneCell' = true) (hr : look O r = some (.vb us)) (hl : us.length = vs.length) :
  GV P E ⟨d, .store t x y, ty, pos, af, g⟩ T O (.av .any) [r] [(r, .vb vs)] := by
 refine ⟨fun T' O' hT hO => ⟨by intro c; simp, fun Z ν a w hs => ?_⟩⟩
 have ex := j0M hs x
 rw [j0s (o := ⟨d, .store t x y, ty, pos, af, g⟩) hT (by simp [Op.operands]), hx] at ex
 have ey := j0M hs y
 rw [j0s (o := ⟨d, .store t x y, ty, pos, af, g⟩) hT (by simp [Op.operands]), hy] at ey
 obtain ⟨b, hb, hax⟩ := ex
 subst hk
 have ey' : a.eval y = .agg vs.toArray := ey
 obtain ⟨w', hst, hsat⟩ := hs.storeVb (P := P) (off := 0) (vs := vs) (by rw [hO r (by simp)]; exact hr) hb (by omega) h1
 rw [List.take_zero, List.nil_append, List.drop_eq_nil_of_le (by omega), List.append_nil] at hsat
 unfold Oper.wp
 have hrun : (execOp a.eval ⟨d, .store t x y, ty, pos, af, g⟩).run P w = .ok .skip w' := by
  simp [execOp, Instr.storeAt, hax, Instr.sureAddr, storeVar, ht.run w, ey', Value.cells, hst]
 rw [hrun]
 exact ⟨Go.undef, Z, ν, rfl, hsat, trivial⟩
theorem j1C {t : TypeId} {zs us : List Value} (r : Nat) [hz : ZeroTy P t zs] (hu : zs = us) (hp : Nat.blt r 1000 = true := by first | rfl | assumption) : VStep P E ⟨d, .alloc t, ty, pos, af, g⟩ T O (T.kill r) ((r, .vb us) :: Own.kill r O) (.own r 0) := by
 subst hu
 refine ⟨by intro c; simp, fun Z ν a w hs => ?_⟩
 obtain ⟨z, hz, hc⟩ := hz.zero
 refine j0C (w' := w.alloc (.cells zs.toArray t)) (v := .pointer (some ⟨w.heap.size, 0, none⟩)) (by simp [execOp, Instr.alloc, hz, newVar, newRow, hc]) ?_
 refine ⟨_, Z, v0h ν r (.pointer (some ⟨w.heap.size, 0, none⟩)), rfl, hs.newRes r hp _ _ _ rfl (fun _ hk hnz => ?_), w.heap.size, by simp [v0h], rfl⟩
 exact ⟨w.heap.size, _, rfl, hk, hnz, heap_alloc_new _ _, w.heap.size, t, rfl, rfl⟩
theorem K0X {t : TypeId} {zs us : List Value} (r : Nat) [hz : ZeroTy P t zs] (hu : zs = us) (hf : q0N r T O = true) (hp : Nat.blt r 1000 = true := by first | rfl | assumption) : VStep P E ⟨d, .alloc t, ty, pos, af, g⟩ T O T ((r, .vb us) :: O) (.own r 0) := (j1C r hu hp).fresh hf
theorem K0B {t : TypeId} {x : Operand} {us : List Value} (r : Nat) (hx : T.ev x = .av (.val (.agg us.toArray))) (hp : Nat.blt r 1000 = true := by first | rfl | assumption) : VStep P E ⟨d, .box t x, ty, pos, af, g⟩ T O (T.kill r) ((r, .vb us) :: Own.kill r O) (.own r 0) := by
 refine ⟨by intro c; simp, fun Z ν a w hs => ?_⟩
 have hv := j0B hx (j0M hs x)
 refine j0C (w' := w.alloc (.cells us.toArray t)) (v := .pointer (some ⟨w.heap.size, 0, none⟩)) (by simp [execOp, Instr.box, newVar, newRow, hv, Value.cells]) ?_
 refine ⟨_, Z, v0h ν r (.pointer (some ⟨w.heap.size, 0, none⟩)), rfl, hs.newRes r hp _ _ _ rfl (fun _ hk hnz => ?_), w.heap.size, by simp [v0h], rfl⟩
 exact ⟨w.heap.size, _, rfl, hk, hnz, heap_alloc_new _ _, w.heap.size, t, rfl, rfl⟩
theorem y0M {t : TypeId} {x : Operand} {us : List Value} (r : Nat) (hx : T.ev x = .av (.val (.agg us.toArray))) (hf : q0N r T O = true) (hp : Nat.blt r 1000 = true := by first | rfl | assumption) : VStep P E ⟨d, .box t x, ty, pos, af, g⟩ T O T ((r, .vb us) :: O) (.own r 0) := (K0B r hx hp).fresh hf
theorem Y1V (r : Nat) {us vs : List Value} (hr : look O r = some (.vb us)) (h : us = vs) : Ent T O T ((r, .vb vs) :: O) := by
 subst h
 exact v1f (upd := [(r, .vb us)]) ⟨⟨_, hr, .refl _⟩, trivial⟩
theorem v0Q {x : Operand} {i : Nat} {cs : List CV} {c : CV} (hx : T.ev x = .tupC cs) (hi : cs[i]? = some c) : GV P E ⟨d, .extract x i, ty, pos, af, g⟩ T O c.sv [] [] :=
 j0k [] fun Z ν a w h _ => by
  have hv := h x (by simp [Op.operands])
  rw [hx] at hv
  obtain ⟨vs, e1, e2⟩ := hv
  obtain ⟨u, hu, hk⟩ := e2.get i c hi
  exact ⟨u, by simp [execOp, Instr.extract, e1, hu], CV.sv_ok.2 hk⟩
variable {fn : Func} {w : World} {Z : j0q} {ν : j0W} {N : Nat} {O' : Own} {res : SV}
theorem K0q {t u : Nat} {c1 c2 : CV} (hr : fn.results = #[.tmp t, .tmp u]) (hhi : V0v O = true) (ht : T.get t = c1.sv) (hu : T.get u = c2.sv) (hres : res = .tupC [c1, c2]) : SQ (X0l N w Z O ν) T O' (bodyPost P fn (Q1O w Z ν O res O') .ret) := by
 rintro a w' ⟨Z', ν', h⟩
 have h1 := h.slot t
 have h2 := h.slot u
 rw [ht] at h1
 rw [hu] at h2
 subst hres
 exact bodyPost_ret (results_tmp2 hr a.tmps P w') h.defers ⟨_, Z', ν', rfl, y0x h.base, J0x hhi h, z0d h.own, ⟨[a.tmps.getD t undef, a.tmps.getD u undef], rfl, CV.sv_ok.1 h1, CV.sv_ok.1 h2, trivial⟩⟩
theorem J0C {rvs : List ResultVar} {τs : List AV} (hr : fn.results = rvs.toArray) (hn : Nat.blt 1 rvs.length = true) (hhi : V0v O = true) (ht : All2 (ResV P T O') rvs τs) (hres : res = .av (j0x τs)) : SQ (X0l N w Z O ν) T O' (bodyPost P fn (Q1O w Z ν O res O') .ret) := by
 subst hres
 rintro a w' ⟨Z', ν', h⟩
 have key : ∀ (rvs : List ResultVar) (τs : List AV), All2 (ResV P T O') rvs τs → ∃ vs, All2 (fun rv v => (J0a a.tmps rv).run P w' = Result.ok v w') rvs vs ∧ All2 (fun τ v => AV.ok Z' w' τ v) τs vs := by
  intro rvs
  induction rvs with
  |nil => intro τs h; match τs, h with | [], _ => exact ⟨[], trivial, trivial⟩
  |cons rv rvs ih =>
   intro τs h'
   match τs, h' with
   |τ :: τs, h' =>
    obtain ⟨v, hv, hk⟩ := h'.1.run h
    obtain ⟨vs, h1, h2⟩ := ih τs h'.2
    exact ⟨v :: vs, ⟨hv, h1⟩, ⟨hk, h2⟩⟩
 obtain ⟨vs, h1, h2⟩ := key rvs τs ht
 have hl : vs.length = rvs.length := h1.len.symm
 have hrun := q0I (P := P) (w := w') hr h1
 have hne : ¬ vs.toArray.size = 1 := by
  have := j0G hn
  simp; omega
 rw [dif_neg hne] at hrun
 refine bodyPost_ret (v := .tuple vs.toArray) hrun h.defers ⟨_, Z', ν', rfl, y0x h.base, J0x hhi h, z0d h.own, ⟨vs, rfl, h2.len.symm, fun i hi => ?_⟩⟩
 have hi' : i < τs.length := hi
 obtain ⟨u, hu, hk⟩ := h2.get i τs[i] (List.getElem?_eq_getElem hi')
 exact ⟨u, hu, by simpa [List.getD, List.getElem?_eq_getElem hi'] using hk⟩
end Go.Vc
end
section
namespace Go.Vc
open Go Go.RowKit
def wvs (N : Nat) (b : Bool) (n : Int) (f : Nat → Int) : List Value := .bool b :: .int .i64 n :: (List.range N).map fun i => .int .i64 (f i)
theorem q0q (N : Nat) (b : Bool) (n : Int) (f : Nat → Int) : (wvs N b n f).length = N + 2 := by simp [wvs]
theorem w0h {N : Nat} {b : Bool} {n : Int} {f : Nat → Int} {k o : Nat} (ho : o = k + 2) (h : k < N) : (wvs N b n f)[o]? = some (.int .i64 (f k)) := by
 subst ho
 simp [wvs, h]
theorem X1J {N : Nat} {b : Bool} {n : Int} {f : Nat → Int} {k o : Nat} {v : Int} (ho : o = k + 2) (h : k < N) : (wvs N b n f).set o (.int .i64 v) = wvs N b n (upd f k v) := by
 subst ho
 apply List.ext_getElem?
 intro i
 by_cases hi : i < N + 2
 ·rcases i with _ | _ | i
  ·simp [wvs]
  ·simp [wvs]
  ·have hi' : i < N := by omega
   rw [w0h rfl hi']
   by_cases h2 : i = k
   ·subst h2
    rw [List.getElem?_set_self (by rw [q0q]; omega), X0c]
   ·rw [List.getElem?_set_ne (by omega), w0h rfl hi', Q0O _ _ h2]
 ·rw [List.getElem?_eq_none (by rw [List.length_set, q0q]; omega), List.getElem?_eq_none (by rw [q0q]; omega)]
theorem z1W {N : Nat} {b : Bool} {n m : Int} {f : Nat → Int} : (wvs N b n f).set 1 (.int .i64 m) = wvs N b m f := rfl
theorem z1V {N : Nat} {b c : Bool} {n : Int} {f : Nat → Int} : (wvs N b n f).set 0 (.bool c) = wvs N c n f := rfl
theorem x1V {N : Nat} {b : Bool} {n : Int} {f : Nat → Int} : ∀ v ∈ wvs N b n f, v.oneCell' = true := by
 intro v hv
 simp only [wvs, List.mem_cons, List.mem_map, List.mem_range] at hv
 rcases hv with rfl | rfl | ⟨i, _, rfl⟩ <;> rfl
def Res.wi (b : Bool) (n : Int) (f : Nat → Int) : Res := .vb (wvs 232 b n f)
variable {P : Program} {E : Env} {T : Tab} {O : Own} {d : Option Nat} {ty : TypeId} {pos : String} {af : Array Edge} {g : Option (Nat × Bool)}
variable {t : TypeId} {x y : Operand} {r off k : Nat} {b : Bool} {n : Int} {f : Nat → Int}
theorem v1r (k : Nat) [ht : CellTy P t] (hx : T.ev x = .own r off) (hr : look O r = some (.wi b n f)) (ho : off = k + 2) (hk : k < 232) :
  GV P E ⟨d, .load t x, ty, pos, af, g⟩ T O (.av (.val (.int .i64 (f k)))) [r] [] := q0Y hx hr (w0h ho hk)
theorem w0K [ht : CellTy P t] (hx : T.ev x = .own r off) (hr : look O r = some (.wi b n f)) (ho : Nat.beq off 1 = true) :
  GV P E ⟨d, .load t x, ty, pos, af, g⟩ T O (.av (.val (.int .i64 n))) [r] [] := q0Y hx hr (by rw [Nat.eq_of_beq_eq_true ho]; rfl)
theorem w0J [ht : CellTy P t] (hx : T.ev x = .own r off) (hr : look O r = some (.wi b n f)) (ho : Nat.beq off 0 = true) :
  GV P E ⟨d, .load t x, ty, pos, af, g⟩ T O (.av (.val (.bool b))) [r] [] := q0Y hx hr (by rw [Nat.eq_of_beq_eq_true ho]; rfl)
theorem x0K (k : Nat) {v : Int} [ht : SizeTy P t 1] (hx : T.ev x = .own r off) (hy : T.ev y = .av (.val (.int .i64 v))) (hr : look O r = some (.wi b n f)) (ho : off = k + 2) (hk : k < 232) :
  GV P E ⟨d, .store t x y, ty, pos, af, g⟩ T O (.av .any) [r] [(r, .wi b n (upd f k v))] := v0s hx hy rfl hr (by rw [q0q]; omega) (X1J ho hk)
theorem q0P {m : Int} [ht : SizeTy P t 1] (hx : T.ev x = .own r off) (hy : T.ev y = .av (.val (.int .i64 m))) (hr : look O r = some (.wi b n f)) (ho : Nat.beq off 1 = true) :
  GV P E ⟨d, .store t x y, ty, pos, af, g⟩ T O (.av .any) [r] [(r, .wi b m f)] := by
 have ho' := Nat.eq_of_beq_eq_true ho
 subst ho'
 exact v0s hx hy rfl hr (by rw [q0q]; omega) z1W
theorem q0O {c : Bool} [ht : SizeTy P t 1] (hx : T.ev x = .own r off) (hy : T.ev y = .av (.val (.bool c))) (hr : look O r = some (.wi b n f)) (ho : Nat.beq off 0 = true) :
  GV P E ⟨d, .store t x y, ty, pos, af, g⟩ T O (.av .any) [r] [(r, .wi c n f)] := by
 have ho' := Nat.eq_of_beq_eq_true ho
 subst ho'
 exact v0s hx hy rfl hr (by rw [q0q]; omega) z1V
theorem Y0R [ht : AggTy P t 234] (hx : T.ev x = .own r 0) (hr : look O r = some (.wi b n f)) :
  GV P E ⟨d, .load t x, ty, pos, af, g⟩ T O (.av (.val (.agg (wvs 232 b n f).toArray))) [r] [] := v0L hx hr (q0q ..)
theorem z0Q {c : Bool} {m : Int} {h : Nat → Int} [ht : SizeTy P t 234] (hx : T.ev x = .own r 0) (hy : T.ev y = .av (.val (.agg (wvs 232 c m h).toArray))) (hr : look O r = some (.wi b n f)) :
  GV P E ⟨d, .store t x y, ty, pos, af, g⟩ T O (.av .any) [r] [(r, .wi c m h)] := Q0W hx hy (q0q ..) x1V hr (by rw [q0q, q0q])
class WideTy (P : Program) (t : TypeId) : Prop where
 zero : ∃ z, (∀ w, (zeroValue t).run P w = .ok z w) ∧ z.cells = (wvs 232 false 0 (fun _ => 0)).toArray
theorem v1j (r : Nat) [hz : WideTy P t] (hf : q0N r T O = true) (hp : Nat.blt r 1000 = true := by first | rfl | assumption) : VStep P E ⟨d, .alloc t, ty, pos, af, g⟩ T O T ((r, .wi false 0 (fun _ => 0)) :: O) (.own r 0) :=
 have : ZeroTy P t (wvs 232 false 0 (fun _ => 0)) := ⟨hz.zero⟩
 K0X r rfl hf hp
theorem y0h (r : Nat) (hx : T.ev x = .av (.val (.agg (wvs 232 b n f).toArray))) (hf : q0N r T O = true) (hp : Nat.blt r 1000 = true := by first | rfl | assumption) : VStep P E ⟨d, .box t x, ty, pos, af, g⟩ T O T ((r, .wi b n f) :: O) (.own r 0) := y0M r hx hf hp
theorem V1z (r : Nat) {b' : Bool} {n' : Int} {f' : Nat → Int} (hr : look O r = some (.wi b n f)) (hb : b = b') (hn : n = n') (hf : f = f') : Ent T O T ((r, .wi b' n' f') :: O) := Y1V r hr (by rw [hb, hn, hf])
def W1S (f : Nat → Int) (k : Nat) : Nat → Int := fun i => if 1 ≤ i ∧ i ≤ k then f (i - 1) else f i
end Go.Vc
end
section
namespace Go.Vc
open Go Go.RowKit
variable {P : Program} {E : Env} {T : Tab} {O : Own} {d : Option Nat} {ty : TypeId} {pos : String} {af : Array Edge} {g : Option (Nat × Bool)}
variable {t xt yt : TypeId} {x y z : Operand} {s : List UInt8} {q q' : IntKind} {i i' : Int} {l h : Nat}
theorem y0m [ht : StrTy P t] (l : Nat) (hx : T.ev x = .av (vS s)) (hy : T.ev y = .av (.val (.int q i))) (hi : i = ↑l) (hl : l ≤ s.length) :
  GV P E ⟨d, .slice t x (some y) none none, ty, pos, af, g⟩ T O (.av (vS (s.drop l))) [] [] := by
 have := W0q (P := P) (E := E) (O := O) (d := d) (ty := ty) (pos := pos) (af := af) (g := g) (t := t) (x := x) (lo := some y) (hi := none) (l := l) (h := s.length) hx ⟨q, i, hy, hi⟩ rfl hl (Nat.le_refl _)
 rwa [List.take_length] at this
theorem Z1i [ht : StrTy P t] (h : Nat) (hx : T.ev x = .av (vS s)) (hy : T.ev y = .av (.val (.int q i))) (hi : i = ↑h) (hl : h ≤ s.length) :
  GV P E ⟨d, .slice t x none (some y) none, ty, pos, af, g⟩ T O (.av (vS (s.take h))) [] [] := by
 have := W0q (P := P) (E := E) (O := O) (d := d) (ty := ty) (pos := pos) (af := af) (g := g) (t := t) (x := x) (lo := none) (hi := some y) (l := 0) (h := h) hx rfl ⟨q, i, hy, hi⟩ (Nat.zero_le _) hl
 rwa [List.drop_zero] at this
theorem Z1h [ht : StrTy P t] (l h : Nat) (hx : T.ev x = .av (vS s)) (hy : T.ev y = .av (.val (.int q i))) (hz : T.ev z = .av (.val (.int q' i'))) (hi : i = ↑l) (hi' : i' = ↑h) (hl : l ≤ h) (hh : h ≤ s.length) :
  GV P E ⟨d, .slice t x (some y) (some z) none, ty, pos, af, g⟩ T O (.av (vS ((s.take h).drop l))) [] [] :=
 W0q hx ⟨q, i, hy, hi⟩ ⟨q', i', hz, hi'⟩ hl hh
theorem x0J {k' : IntKind} [hs : IntTy P xt k'] [ht : IntTy P yt .i64] (h1 : T.ev x = .av (.val (.int k' i))) (h : -9223372036854775808 ≤ i ∧ i ≤ 9223372036854775807) :
  GV P E ⟨d, .convert xt yt x, ty, pos, af, g⟩ T O (.av (.val (.int .i64 i))) [] [] :=
 J1v h1 (IntWalk.i64_in i zO)
theorem z0A {k' : IntKind} [hs : IntTy P xt k'] [ht : IntTy P yt .u8] (h1 : T.ev x = .av (.val (.int k' i))) (h : 0 ≤ i ∧ i ≤ 255) :
  GV P E ⟨d, .convert xt yt x, ty, pos, af, g⟩ T O (.av (.val (.int .u8 i))) [] [] :=
 J1v h1 (by show i % 256 = i; omega)
theorem V0g {m n : Int} (h1 : T.ev x = .av (.val (.int .u8 m))) (h2 : T.ev y = .av (.val (.int .u8 n))) (hm : 0 ≤ m + n ∧ m + n ≤ 255) :
  GV P E ⟨d, .binOp .add xt x y yt, ty, pos, af, g⟩ T O (.av (.val (.int .u8 (m + n)))) [] [] := by
 have h := q0X (P := P) (E := E) (T := T) (O := O) (d := d) (op := .add) (xt := xt) (yt := yt) (ty := ty) (pos := pos) (af := af) (g := g) h1 h2 rfl
 have e : IntKind.u8.wrap (m + n) = m + n := by
  show (m + n) % 256 = m + n
  omega
 rwa [e] at h
theorem Q0b {m n : Int} (h1 : T.ev x = .av (.val (.int .i64 m))) (h2 : T.ev y = .av (.val (.int .i64 n))) (hn : n ≠ 0) (hmax : -9223372036854775807 ≤ m ∧ m ≤ 9223372036854775807) :
  GV P E ⟨d, .binOp .quo xt x y yt, ty, pos, af, g⟩ T O (.av (.val (.int .i64 (m.tdiv n)))) [] [] :=
 x0X h1 h2 (fun w => j0K ..) (fun w => by
  have := Int.natAbs_tdiv_le_natAbs m n
  simp [binOp, Op.intDiv, hn, IntWalk.i64_in (m.tdiv n) (by omega)])
theorem Q0c {m n : Int} (h1 : T.ev x = .av (.val (.int .i64 m))) (h2 : T.ev y = .av (.val (.int .i64 n))) (hn : n ≠ 0) :
  GV P E ⟨d, .binOp .rem xt x y yt, ty, pos, af, g⟩ T O (.av (.val (.int .i64 (m.tmod n)))) [] [] :=
 x0X h1 h2 (fun w => j0K ..) (fun w => by
  simp [binOp, Op.intDiv, hn])
theorem z1M (b c : UInt8) : ((b.toNat : Int) = (c.toNat : Int)) ↔ b = c := by
 constructor
 ·intro h; exact UInt8.toNat_inj.1 zO
 ·rintro rfl; rfl
end Go.Vc
end
section
namespace Go.Vc
open Go Go.RowKit
variable {P : Program} {E : Env} {T : Tab} {O : Own} {d : Option Nat} {ty : TypeId} {pos : String} {af : Array Edge} {g : Option (Nat × Bool)}
def vbA (us : List Value) : AV := .ptr us.length (fun i => .val (us.getD i undef))
inductive BArg (T : Tab) (O : Own) : Operand → AV → Prop
 |av {x : Operand} {τ : AV} (h : T.ev x = .av τ) : BArg T O x τ
 |vb {x : Operand} {r : Nat} {us : List Value} (h : T.ev x = .own r 0) (hr : look O r = some (.vb us)) : BArg T O x (vbA us)
 |oc {x : Operand} {r off len : Nat} {us : List Value} (h : T.ev x = .ocs r off len) (hr : look O r = some (.vb us)) (hl : off + len ≤ us.length) : BArg T O x (.sl len 1 (fun i _ => .val (us.getD (off + i) undef)))
theorem Q1A {Z Z' : j0q} {ν : j0W} {w : World} {v : Value} {us : List Value} (h : Res.ok E Z ν w v (.vb us)) (hb : ∀ b, j0y v = some b → Z' b) : (vbA us).ok Z' w v := by
 obtain ⟨b, t, rfl, h1, h2, h3⟩ := Y0y h
 refine ⟨b, 0, rfl, fun _ => hb b rfl, (Array.getElem?_eq_some_iff.1 h3).1, fun i hi => ⟨us.getD i undef, ?_, rfl⟩⟩
 simp [World.cell?, h3, List.getD, hi]
theorem BArg.ok {Z : j0q} {ν : j0W} {a : Act} {w : World} {x : Operand} {τ : AV} (hb : BArg T O x τ) (h : SatZ E Z ν T O a w) : τ.ok (fun k => Z k ∨ (k < w.heap.size ∧ ¬ E.keep k)) w (a.eval x) := by
 have hx := j0M h x
 cases hb with
 |av he => rw [he] at hx; exact AV.ok_mono (fun _ h => .inl h) (Nat.le_refl _) (fun _ _ _ => rfl) _ _ hx
 |vb he hr =>
  have hrow := h.own.each _ _ hr
  obtain ⟨b, t, hv, _, _, _⟩ := Y0y hrow
  have hax := w0O he hx hv
  rw [← hv] at hax
  rw [hax]
  exact Q1A hrow (fun b' hb' => .inr ⟨(Res.blk_lt hrow hb').1, (Res.blk_lt hrow hb').2.2⟩)
 |oc he hr hl =>
  have hrow := h.own.each _ _ hr
  obtain ⟨b, t, hv, _, _, hh⟩ := Y0y hrow
  rw [he] at hx
  obtain ⟨b', c, h1, h2, h3, h4⟩ := hx
  rw [hv] at h1
  simp only [Value.pointer.injEq, Option.some.injEq, Addr.mk.injEq, and_true] at h1
  subst h1
  have hbl : j0y (.pointer (some ⟨b, 0, none⟩)) = some b := rfl
  rw [← hv] at hbl
  refine ⟨_, c, h2, h3, h4, fun hn => ⟨b, _, rfl, fun _ => .inr ⟨(Res.blk_lt hrow hbl).1, (Res.blk_lt hrow hbl).2.2⟩, (Array.getElem?_eq_some_iff.1 hh).1, fun i hi j hj => ?_⟩⟩
  obtain rfl : j = 0 := by omega
  refine ⟨_, ?_, rfl⟩
  rw [Nat.mul_one, Nat.add_zero]
  simp [World.cell?, hh, List.getD, show _ + i < _ from Nat.lt_of_lt_of_le (Nat.add_lt_add_left hi _) hl]
def AV.flat (res : AV) : Prop := ∀ Z w Z' w' v, res.ok Z w v → res.ok Z' w' v
theorem flat_val (v : Value) : (AV.val v).flat := fun _ _ _ _ _ h => h
theorem flat_tup (vs : List Value) : (j0x (vs.map AV.val)).flat := by
 rintro Z w Z' w' v ⟨cs, h1, h2, h3⟩
 refine ⟨cs, h1, h2, fun i hi => ?_⟩
 obtain ⟨u, hu, hk⟩ := h3 i hi
 refine ⟨u, hu, ?_⟩
 have hi' : i < vs.length := by simpa using hi
 have e : (vs.map AV.val).getD i .any = .val vs[i] := by simp [List.getD, hi']
 dsimp only at hk ⊢
 rw [e] at hk ⊢
 exact hk
theorem v1q {f : FuncId} {c : Operand} {xs : List Operand} {ats : Array TypeId} {τs : List AV} {res : AV} (rr : List Nat) (hc : CtrA P f τs res) (hfl : res.flat) (hf : T.ev c = .av (.val (.func (.func f) #[] #[])))
  (hx : ∀ (T' : Tab) (O' : Own), (∀ x ∈ xs, T'.ev x = T.ev x) → (∀ r ∈ rr, look O' r = look O r) → All2 (BArg T' O') xs τs) :
  GV P E ⟨d, .call ⟨.value c, xs.toArray, ats⟩, ty, pos, af, g⟩ T O (.av res) rr [] := by
 refine ⟨fun T' O' hT hO => ⟨by intro c; simp, fun Z ν a w hs => ?_⟩⟩
 have hsame : ∀ x ∈ xs, T'.ev x = T.ev x := fun x hxm => j0s (o := ⟨d, .call ⟨.value c, xs.toArray, ats⟩, ty, pos, af, g⟩) hT (by simp [Op.operands, Call.operands, hxm])
 have hfv : a.eval c = .func (.func f) #[] #[] := by
  have hx := j0M hs c
  rw [j0s (o := ⟨d, .call ⟨.value c, xs.toArray, ats⟩, ty, pos, af, g⟩) hT (by simp [Op.operands, Call.operands])] at hx
  exact j0B hf hx
 have hall : All2 (fun τ v => AV.ok (fun k => Z k ∨ (k < w.heap.size ∧ ¬ E.keep k)) w τ v) τs (xs.map a.eval) := by
  have hb := hx T' O' hsame hO
  clear hx hsame hc hT hO hf
  induction xs generalizing τs with
  |nil => cases τs with
   |nil => trivial
   |cons _ _ => exact hb.elim
  |cons x xs ih => cases τs with
   |nil => exact hb.elim
   |cons τ τs => exact ⟨hb.1.ok hs, ih hb.2⟩
 refine q0o (f := f) (args := (xs.map a.eval).toArray) ?_ ?_
 ·have hen := hc.enters (xs.map a.eval).toArray w
  simp [execOp, resolve, Deferred.ofValue, hfv, invoke] at hen ⊢
  exact hen
 ·refine Calls.mono (hc.calls w _ _ (hs.base.zok.or (fun k hk => hk.1)) hall) ?_
  rintro e w' ⟨u, Z', rfl, hb, _, _, _, hv⟩
  exact ⟨u, rfl, u, Z, ν, rfl, hs.called hb (fun _ h => h) (fun _ h => .inl h) (fun k hk => Nat.lt_of_lt_of_le (hs.base.zLt k hk) hb.size), hfl _ _ _ _ _ hv⟩
theorem BArg.cong {T' : Tab} {O' : Own} {x : Operand} {τ : AV} (hT : T'.ev x = T.ev x) (hO : ∀ r ∈ (match T.ev x with | .own r _ => [r] | .ocs r _ _ => [r] | _ => []), look O' r = look O r) (h : BArg T O x τ) : BArg T' O' x τ := by
 cases h with
 |av h => exact .av (hT.trans h)
 |oc h hr hl => rw [h] at hO; exact .oc (hT.trans h) ((hO _ (by simp)).trans hr) hl
 |vb h hr => rw [h] at hO; exact .vb (hT.trans h) ((hO _ (by simp)).trans hr)
def Z1S (T : Tab) (xs : List Operand) : List Nat := xs.flatMap fun x => match T.ev x with | .own r _ => [r] | .ocs r _ _ => [r] | _ => []
theorem X0p {T' : Tab} {O' : Own} : ∀ {xs : List Operand} {τs : List AV}, (∀ x ∈ xs, T'.ev x = T.ev x) → (∀ r ∈ Z1S T xs, look O' r = look O r) → All2 (BArg T O) xs τs → All2 (BArg T' O') xs τs
 |[], [], _, _, _ => trivial
 |[], _ :: _, _, _, h => h.elim
 |_ :: _, [], _, _, h => h.elim
 |x :: xs, τ :: τs, h1, h2, h => ⟨h.1.cong (h1 x (by simp)) (fun r hr => h2 r (List.mem_flatMap.2 ⟨x, by simp, hr⟩)), X0p (fun y hy => h1 y (by simp [hy])) (fun r hr => h2 r (by
   obtain ⟨y, hy, hr⟩ := List.mem_flatMap.1 hr
   exact List.mem_flatMap.2 ⟨y, by simp [hy], hr⟩)) h.2⟩
theorem q0g {f : FuncId} {c : Operand} {xs : List Operand} {ats : Array TypeId} {τs : List AV} {res : AV} (hc : CtrA P f τs res) (hf : T.ev c = .av (.val (.func (.func f) #[] #[]))) (hx : All2 (BArg T O) xs τs) (hfl : res.flat) :
  GV P E ⟨d, .call ⟨.value c, xs.toArray, ats⟩, ty, pos, af, g⟩ T O (.av res) (Z1S T xs) [] :=
 v1q _ hc hfl hf fun _ _ hT hO => X0p hT hO hx
theorem W0i (k r : Nat) {us : List Value} (hd : T.get k = .own r 0) (hr : look O r = some (.vb us)) : Ent T O ((k, .av (vbA us)) :: T.frz r .any) (Own.drop r O) := by
 rintro E a w ⟨Z, ν, h⟩
 have hrow := h.own.each r _ hr
 obtain ⟨b, t, e1, e2, e3, e4⟩ := Y0y hrow
 have hlt := (Array.getElem?_eq_some_iff.1 e4).1
 have hav : ∀ (τ : AV) v, τ.ok Z w v → τ.ok (fun k => Z k ∨ k = b) w v := AV.ok_mono (fun _ h => .inl h) (Nat.le_refl _) (fun _ _ _ => rfl)
 refine ⟨fun k => Z k ∨ k = b, ν, h.defers, h.tsize, h.cst, h.pin, ⟨h.base.os, h.base.tape, h.base.output, h.base.size, h.base.keepLt, h.base.kept, h.base.zok.or (fun k hk => hk ▸ hlt), fun k hk => .inl (h.base.z0 k hk), fun k hk => ?_⟩, ⟨fun k x hx => ?_, fun k k' hne h1 h2 => ?_⟩, fun q => ?_⟩
 ·rcases hk with hk | rfl
  ·exact h.base.zNew k hk
  ·exact .inr e2
 ·rw [Own.look_drop] at hx
  by_cases hkr : k = r
  ·rw [if_pos hkr] at hx; cases hx
  ·rw [if_neg hkr] at hx
   refine Res.ok_env (h.own.each k x hx) hav (fun b' hb' => ?_)
   obtain ⟨q1, q3, q4⟩ := Res.blk_lt (h.own.each k x hx) hb'
   refine ⟨fun hz => ?_, q4, rfl⟩
   rcases hz with hz | rfl
   ·exact q3 hz
   ·exact h.own.apart r k (fun e => hkr e.symm) (by rw [hr]; simp) (by rw [hx]; simp) b' (by rw [e1]; rfl) hb'
 ·have hh : ∀ k, look (Own.drop r O) k ≠ none → look O k ≠ none := fun k hk => by
   rw [Own.look_drop] at hk
   by_cases hkr : k = r
   ·rw [if_pos hkr] at hk; exact absurd rfl hk
   ·rwa [if_neg hkr] at hk
  exact h.own.apart k k' hne (hh k h1) (hh k' h2)
 ·by_cases hk : k = q
  ·subst hk
   rw [Tab.get_cons_eq]
   have hs := h.slot k
   rw [hd] at hs
   obtain ⟨b', q1, q2⟩ := hs
   rw [e1] at q1
   cases q1
   show (vbA us).ok _ w _
   rw [q2, ← e1]
   exact Q1A hrow (fun b' hb' => by rw [e1] at hb'; cases hb'; exact .inr rfl)
  ·rw [Tab.get_cons_ne _ _ hk, Tab.get_frz]
   have hs := h.slot q
   generalize T.get q = s at hs
   have hsv := SV.ok_av (ν := ν) hav s _ hs
   cases s with
   |av σ => exact hsv
   |clo q cs' => simp only [SV.frz]; split <;> first | exact trivial | exact hsv
   |_ => simp only [SV.frz]; split <;> first | exact trivial | exact hsv
theorem z0N {t e : TypeId} {x y : Operand} {len sz n : Nat} {f : Nat → AV} {q : IntKind} {i : Int} (k : Nat) [ht : ArrTy P t len e sz] (hx : T.ev x = .av (.ptr n f)) (hy : T.ev y = .av (.val (.int q i))) (hi : i = ↑k) (hk : k < len) (hn : (k + 1) * sz ≤ n) :
  GV P E ⟨d, .indexAddr t x y, ty, pos, af, g⟩ T O (.av (.ptr sz (fun j => f (k * sz + j)))) [] [] := q0H hx hy hi hk (by rw [Nat.ble_eq]; exact hn)
def wA (b : Bool) (n : Int) (f : Nat → Int) : AV := .ptr 234 (fun i => .val ((wvs 232 b n f).getD i undef))
theorem k1Z (b : Bool) (n : Int) (f : Nat → Int) : vbA (wvs 232 b n f) = wA b n f := by
 unfold vbA wA
 rw [q0q]
theorem K1a {b : Bool} {n : Int} {f : Nat → Int} {o k : Nat} (ho : o = k + 2) (h : k < 232) : AV.val ((wvs 232 b n f).getD o undef) = .val (.int .i64 (f k)) := by
 rw [List.getD, w0h ho h]; rfl
theorem x0a {t e : TypeId} {x : Operand} {lo hi : Option Operand} {r off len l h : Nat} {us : List Value} [ht : ArrTy P t len e 1] (hx : T.ev x = .own r off) (hr : look O r = some (.vb us))
  (hlo : match lo with | none => l = 0 | some y => ∃ q i, T.ev y = .av (.val (.int q i)) ∧ i = ↑l) (hhi : match hi with | none => h = len | some y => ∃ q i, T.ev y = .av (.val (.int q i)) ∧ i = ↑h)
  (hlh : l ≤ h) (hhn : h ≤ len) (hl0 : l < len) (hml : len ≤ maxLen := by decide) : GV P E ⟨d, .slice t x lo hi none, ty, pos, af, g⟩ T O (.ocs r (off + l) (h - l)) [r] [] :=
 j0k [r] fun Z ν a w hh hO => by
  obtain ⟨b, t', hb, _, _, hhp⟩ := Y0y (hO r (by simp) _ hr)
  have hax := w0O hx (hh x (by simp [Op.operands])) hb
  have hbd : (Instr.sliceBounds false len len (lo.map a.eval) (hi.map a.eval) none).run P w = .ok (l, h, len) w := by
   unfold Instr.sliceBounds
   cases hi with
   |none =>
    dsimp only at hhi
    subst hhi
    cases lo with
    |none => dsimp only at hlo; subst hlo; simp
    |some y =>
     obtain ⟨q, i, hy, rfl⟩ := hlo
     have hv := j0B hy (hh y (by simp [Op.operands]))
     simp [hv, Instr.sliceBound, asIntOf, hlh]
   |some z =>
    obtain ⟨q', i', hz, rfl⟩ := hhi
    have hv' := j0B hz (hh z (by simp [Op.operands]))
    cases lo with
    |none => dsimp only at hlo; subst hlo; simp [hv', Instr.sliceBound, asIntOf, hhn]
    |some y =>
     obtain ⟨q, i, hy, rfl⟩ := hlo
     have hv := j0B hy (hh y (by simp [Op.operands]))
     simp [hv, hv', Instr.sliceBound, asIntOf, hlh, hhn]
  refine ⟨.slice (some ⟨b, off + l, none⟩) (h - l) (len - l), ?_, ⟨b, len - l, hb, rfl, by omega, by omega⟩⟩
  have hne : ¬ len = l := by omega
  simp [execOp, Instr.sliceAt, hax, run_underlying ht.und, hbd, ht.size w, j0Q, asAddr, Instr.sureAddr, hne]
theorem J1S {Z : j0q} {ν : j0W} {w : World} {x : Operand} {a : Act} {r off len b : Nat} (hx : T.ev x = .ocs r off len) (h : (T.ev x).ok Z ν w (a.eval x)) (hb : ν r = .pointer (some ⟨b, 0, none⟩)) : ∃ c, a.eval x = .slice (some ⟨b, off, none⟩) len c ∧ len ≤ c ∧ c ≤ maxLen := by
 rw [hx] at h
 obtain ⟨b', c, h1, h2⟩ := h
 rw [hb] at h1
 simp only [Value.pointer.injEq, Option.some.injEq, Addr.mk.injEq, and_true] at h1
 subst h1
 exact ⟨c, h2⟩
theorem j1a {t t' e : TypeId} {x y : Operand} {r o1 l1 o2 l2 : Nat} {us vs : List Value} [ht : SlTy P t e 1] (hx : T.ev x = .ocs r o1 l1) (hy : T.ev y = .ocs r o2 l2) (hr : look O r = some (.vb us)) (hle : l2 ≤ l1) (h1 : o1 + l2 ≤ us.length) (h2 : o2 + l2 ≤ us.length) (hone : ∀ v ∈ us, v.oneCell' = true)
  (hvs : us.take o1 ++ (us.drop o2).take l2 ++ us.drop (o1 + l2) = vs) :
  GV P E ⟨d, .call ⟨.builtin .copy, #[x, y], #[t, t']⟩, ty, pos, af, g⟩ T O (.av (.val (.int .i64 (l2 : Nat)))) [r] [(r, .vb vs)] := by
 subst hvs
 refine ⟨fun T' O' hT hO => ⟨by intro c; simp, fun Z ν a w hs => ?_⟩⟩
 have ex := j0M hs x
 have ey := j0M hs y
 have e1 := j0s (o := ⟨d, .call ⟨.builtin .copy, #[x, y], #[t, t']⟩, ty, pos, af, g⟩) hT (x := x) (by simp [Op.operands, Call.operands])
 have e2 := j0s (o := ⟨d, .call ⟨.builtin .copy, #[x, y], #[t, t']⟩, ty, pos, af, g⟩) hT (x := y) (by simp [Op.operands, Call.operands])
 have hr' : look O' r = some (.vb us) := by rw [hO r (by simp)]; exact hr
 obtain ⟨b, tt, hb, hk, hz, hh⟩ := Q1B hs hr'
 obtain ⟨c1, q1, _⟩ := J1S (e1.trans hx) ex hb
 obtain ⟨c2, q2, _⟩ := J1S (e2.trans hy) ey hb
 have hinf := Y0j ht.size
 have hcl : ((us.drop o2).take l2).length = l2 := by simp; omega
 have hrun := run_copy_row (P := P) w t t' ty e b o1 l1 c1 ⟨b, o2, none⟩ l2 c2 us.toArray tt ((us.drop o2).take l2) ht.und hinf hh (by rw [hcl]; exact (Nat.min_eq_left hle).symm) (fun j v hj => by
  rw [j0Q]
  have hjl := (List.getElem?_eq_some_iff.1 hj).1
  rw [hcl] at hjl
  rw [List.getElem?_take_of_lt hjl, List.getElem?_drop] at hj
  simp [World.cell?, hh, hj]) (by rw [hcl]; simpa using h1) (fun v hv => hone v (List.mem_of_mem_drop (List.mem_of_mem_take hv)))
 rw [hcl] at hrun
 refine j0C (w' := w.setRow b (us.take o1 ++ (us.drop o2).take l2 ++ us.drop (o1 + l2)).toArray) (v := .int .i64 (l2 : Nat)) ?_ ⟨_, Z, ν, rfl, ?_, rfl⟩
 ·simp only [execOp, resolve, invoke, builtin, Sem.run_bind, Sem.run_pure, Result.andThen_ok, List.map_toArray, List.map_cons, List.map_nil, q1, q2, hrun, goInt]
 ·refine hs.write hr' (b := b) (by rw [hb]; rfl) rfl rfl rfl (by simp) (fun k hk => setRow_other w b k _ hk) (fun hsv => ?_)
  exact ⟨b, _, by rw [hb]; rfl, hk, hz, setRow_heap w b _ _ tt _ hh, b, tt, hb, rfl⟩
theorem V0k {x : Operand} {n : Nat} {f : Nat → AV} (hx : T.ev x = .av (.ptr n f)) : GV P E ⟨d, .nilCheck x, ty, pos, af, g⟩ T O (.av (.ptr n f)) [] [] :=
 j0k [] fun Z ν a w h _ => by
  have hk := h x (by simp [Op.operands])
  obtain ⟨b, o, he, _⟩ := Q0C hx hk
  refine ⟨a.eval x, by simp [execOp, he], ?_⟩
  rw [hx] at hk
  exact hk
end Go.Vc
end
