/- A part of the proof that the law returns true at every input and that the input reads behind the call as it read before; this part states nothing of its own that needs a condition of the input. -/
import Derived.RangeFuncNested
import Derived.RangeFuncLeaves
import Derived.Test.YtdoppiajbpmmkaaGreatW
import Derived.Test.YtdoppiajbpmmkaaGreatX
set_option linter.unusedVariables false
set_option linter.unusedSimpArgs false
set_option linter.unnecessarySimpa false
namespace Go.Vc
open Go Go.RowKit
section
variable {P : Program} {E : Env} {T : Tab} {O : Own} {d : Option Tmp} {ty : TypeId} {pos : String} {af : Array Edge} {g : Option (Nat × Bool)}
/-- x / y for a divisor above 0. -/
theorem g_quoT {xt yt : TypeId} {x y : Operand} {m n : Int} (h1 : T.ev x = .av (.val (.int .i64 m))) (h2 : T.ev y = .av (.val (.int .i64 n))) (hn : 0 < n) (hmax : -9223372036854775807 ≤ m ∧ m ≤ 9223372036854775807) :
    GV P E ⟨d, .binOp .quo xt x y yt, ty, pos, af, g⟩ T O (.av (.val (.int .i64 (m.tdiv n)))) [] [] :=
  g_bin h1 h2 (fun w => run_eqGuard_int ..) (fun w => by
    have hne : n ≠ 0 := by omega
    have := Int.natAbs_tdiv_le_natAbs m n
    simp [binOp, Op.intDiv, hne, IntWalk.i64_in (m.tdiv n) (by omega)])
end
end Go.Vc
namespace Go.Vc
open Go Go.RowKit
/-! A range over a function that hands out memory of its own: the contract keeps a zone of what the iterator has made. -/
def zplus (Z : Zone) (A B : World) : Zone := fun k => Z k ∨ (A.heap.size ≤ k ∧ k < B.heap.size)
/-- What a round keeps: the blocks of a zone. -/
def keepZ (Z : Zone) (A B : World) : Prop := B.os = A.os ∧ B.tape = A.tape ∧ B.output = A.output ∧ A.heap.size ≤ B.heap.size ∧ ∀ k, Z k → k < A.heap.size → B.heap[k]? = A.heap[k]?
theorem keepZ.trans {Z : Zone} {A B C : World} (h : keepZ Z A B) (k : keepZ Z B C) : keepZ Z A C :=
  ⟨k.1.trans h.1, k.2.1.trans h.2.1, k.2.2.1.trans h.2.2.1, Nat.le_trans h.2.2.2.1 k.2.2.2.1, fun i hi hl => (k.2.2.2.2 i hi (Nat.lt_of_lt_of_le hl h.2.2.2.1)).trans (h.2.2.2.2 i hi hl)⟩
theorem keepZ.putObj {Z : Zone} {W : World} {l : Nat} (o' : Obj) (hl : ¬ Z l) : keepZ Z W (W.putObj l o') :=
  ⟨rfl, rfl, rfl, by simp [World.putObj], fun k hz _ => World.putObj_heap_other (fun e => hl (by rw [← e]; exact hz))⟩
/-- The contract of an iterator that makes memory. -/
def SeqM (P : Program) (gf : FuncId) (lb : Array Value) (V : Value → Prop) (τs : List AV) (Z0 : Zone) (w : World) : Prop :=
  ∀ (l : Nat) (J : List Value → Zone → World → Prop) (W : World), Below w.heap.size w W → (∀ s ZP A B, J s ZP A → A.grownBy B none → J s (zplus ZP A B) B) →
    (∀ pre x ZP A, J pre ZP A → V x → pre.length < τs.length → YieldAt Fence.wide 0 P l #[x] A fun e B => e = .returned (.bool true) ∧ J (pre ++ [x]) ZP B ∧ keepZ ZP A B) → J [] Z0 W →
    CallsIn Fence.wide 1 P gf (#[.func (.yield l) #[] #[]] ++ lb) W fun e W' => (∃ v, e = .returned v) ∧ ∃ xs ZP, All2 (fun τ v => AV.ok ZP W' τ v) τs xs ∧ J xs ZP W'
/-- The blocks of book-keeping. -/
def bk (w : World) (k : Nat) : Prop := k = w.heap.size ∨ k = w.heap.size + 1
def bkOk (w W : World) : Prop := ∀ k, bk w k → ∃ o, W.heap[k]? = some o ∧ o.isCells = false
theorem wpIn_rangeM {P : Program} {g : Operand} {p : Tmp} {assign body : Code} {Q : Exit → Act → World → Prop} {a : Act} {w : World} {gf : Nat} {lb : Array Value} {V : Value → Prop} {τs : List AV} {Z0 : Zone}
    (hg : a.eval g = .func (.func gf) #[] lb) (eg : ∀ args w, (callFunc gf args).run P w = .ok (.enter gf args) w) (hseq : SeqM P gf lb V τs Z0 w) (hz : ∀ k, Z0 k → k < w.heap.size)
    (I : List Value → Zone → World → Prop) (hg1 : ∀ s ZP A B, I s ZP A → A.grownBy B none → w.heap.size + 2 ≤ A.heap.size → I s (zplus ZP A B) B)
    (hg2 : ∀ s ZP A B row, I s ZP A → A.grownBy B row → (∀ r, row = some r → bk w r ∧ bkOk w A) → I s ZP B) (h0 : I [] Z0 w)
    (IA : List Value → Value → Zone → Act → World → Prop)
    (hIA : ∀ s x ZP a' A l o', IA s x ZP a' A → bk w l → bkOk w A → IA s x ZP a' (A.putObj l o'))
    (hassign : ∀ (l : Nat) (pre : List Value) (x : Value) (ZP : Zone) (W : World) (K : Act → World → Prop), V x → I pre ZP W → bkOk w W → (∀ a' W', (∀ k, bk w k → W'.heap[k]? = W.heap[k]?) → keepZ ZP W W' → IA pre x ZP a' W' → K a' W') →
      assign.wpIn (Fence.wide.inRound l) 0 P (Exit.then K (fun _ _ _ => False)) { tmps := a.tmps.setIfInBounds p x, defers := [] } W)
    (hbody : ∀ (l : Nat) (pre : List Value) (x : Value) (ZP : Zone) (a' : Act) (W : World), V x → IA pre x ZP a' W → pre.length < τs.length → bkOk w W →
      body.wpIn (Fence.wide.inRound l) 0 P (fun e _ W' => e = .normal ∧ (∀ k, bk w k → W'.heap[k]? = W.heap[k]?) ∧ keepZ ZP W W' ∧ I (pre ++ [x]) ZP W') a' W)
    (hdone : ∀ (D : Nat) (xs : List Value) (ZP : Zone) (W : World), D = w.heap.size → All2 (fun τ v => AV.ok ZP W τ v) τs xs → I xs ZP W → W.heap[D]? = some (.deferred (some [])) → Q .normal { a with defers := { target := .collected D, args := #[] } :: a.defers } W) :
    (Code.rangeFunc g #[p] assign body).wpIn Fence.wide 2 P Q a w := by
  refine wpIn_rangeFunc fun fn hfn => ?_
  obtain ⟨rec, hrec⟩ : ∃ rec : LoopState → Option Code → Loop, rec = fun st pe => { state := st, pending := pe, fn, tmps := a.tmps, params := #[p], assign, body, defers := w.heap.size } := ⟨_, rfl⟩
  obtain ⟨W1, hW1⟩ : ∃ W1, (w.alloc (.deferred (some []))).alloc (.loop (rec .ready none)) = W1 := ⟨_, rfl⟩
  have hL1 : W1.heap[w.heap.size + 1]? = some (.loop (rec .ready none)) := by
    have := World.alloc_heap_new (w.alloc (.deferred (some []))) (.loop (rec .ready none))
    rw [← hW1]
    rwa [World.size_alloc] at this
  have hK1 : W1.heap[w.heap.size]? = some (.deferred (some [])) := by
    rw [← hW1]
    exact (Below.heap_alloc _ _ _ (by simp)).trans (World.alloc_heap_new w _)
  have hI1 : I [] Z0 W1 := by
    rw [← hW1]
    exact hg2 _ _ _ _ none (hg2 _ _ _ _ none h0 (World.grownBy_alloc w _ none) (fun r e => by cases e)) (World.grownBy_alloc _ _ none) (fun r e => by cases e)
  have hb1 : Below w.heap.size w W1 := by
    rw [← hW1]
    exact ((Below.refl _ w).alloc (Nat.le_refl _) _).alloc (by simp) _
  have hZ0 : ∀ k, w.heap.size ≤ k → ¬ Z0 k := fun k hk q => by have := hz k q; omega
  have hbk : ∀ {W : World} {r : Loop} {d : Obj}, W.heap[w.heap.size + 1]? = some (.loop r) → W.heap[w.heap.size]? = some (.deferred (some [])) → bkOk w W := fun h1 h2 k hk => by
    rcases hk with rfl | rfl
    · exact ⟨_, h2, rfl⟩
    · exact ⟨_, h1, rfl⟩
  refine ⟨w.heap.size + 1, [{ target := .collected w.heap.size, args := #[] }], W1, { target := .fn (.func gf) lb, args := #[.func (.yield (w.heap.size + 1)) #[] #[]] }, W1, gf,
    #[.func (.yield (w.heap.size + 1)) #[] #[]] ++ lb, W1, ?_, ?_, ?_, ?_, fun h => (by cases h), ?_⟩
  · rw [← hW1, hrec]
    exact run_enterLoop_outer _ _ _ _ _
  · simp only [resolve, hg]
    simp [go_sem]
  · intro f' hf'
    simp [Target.leads] at hf'
    subst hf'
    trivial
  · simp [invoke, go_sem, eg]
  · have hinv := hseq (w.heap.size + 1)
      (fun pre ZP W => I pre ZP W ∧ W.heap[w.heap.size + 1]? = some (.loop (rec .ready none)) ∧ W.heap[w.heap.size]? = some (.deferred (some [])) ∧ ¬ ZP w.heap.size ∧ ¬ ZP (w.heap.size + 1))
      W1 hb1 ?_ ?_ ⟨hI1, hL1, hK1, hZ0 _ (Nat.le_refl _), hZ0 _ (by omega)⟩
    · refine hinv.mono ?_
      rintro e W2 ⟨⟨v, rfl⟩, xs, ZP, hR, hi, hl, hk, hz1, hz2⟩
      have hend := run_endLoop (P := P) hl (by rw [hrec]; simp)
      rw [hrec] at hend
      refine ⟨none, _, hend, hdone _ xs ZP _ rfl ?_ (hg2 _ _ _ _ (some (w.heap.size + 1)) hi (grownBy_putObj' _ _ _) (fun r e => by cases e; exact ⟨.inr rfl, hbk (d := .deferred none) hl hk⟩)) ((World.putObj_heap_other (by omega)).trans hk)⟩
      refine hR.mono fun τ _ v hv => AV.ok_mono (fun _ q => q) (by simp [World.putObj]) (fun k q _ => World.putObj_heap_other (fun e => hz2 (by rw [← e]; exact q))) τ v hv
    · rintro s ZP A B ⟨hi, hl, hk, hz1, hz2⟩ hgr
      have hlA := (Array.getElem?_eq_some_iff.1 hl).1
      refine ⟨hg1 _ _ _ _ hi hgr (by omega), (hgr.block _ hlA (by simp)).trans hl, (hgr.block _ (by omega) (by simp)).trans hk, ?_, ?_⟩
      · rintro (q | q)
        · exact hz1 q
        · omega
      · rintro (q | q)
        · exact hz2 q
        · omega
    · rintro pre x ZP A ⟨hi, hl, hk, hz1, hz2⟩ hx hlen
      have hy := run_yield (P := P) (args := #[x]) hl (by rw [hrec]; rfl)
      rw [hrec] at hy
      refine ⟨fn, _, assign, body, hy, roundIn_of_wpIn hfn ?_⟩
      have e1 : ((#[p].zip #[x]).foldl (fun tmps (t, a) => tmps.setIfInBounds t a) a.tmps) = a.tmps.setIfInBounds p x := by simp
      rw [e1]
      refine hassign _ pre x ZP A _ hx hi (hbk (d := .deferred none) hl hk) ?_
      intro a' Wa hkf hkz hia
      have hl' := (hkf _ (.inr rfl)).trans hl
      have hk' := (hkf _ (.inl rfl)).trans hk
      have hlt := (Array.getElem?_eq_some_iff.1 hl').1
      refine ⟨_, run_beginRound hl' (by rw [hrec]), ?_⟩
      obtain ⟨Wb, hWb⟩ : ∃ Wb, Wa.putObj (w.heap.size + 1) (.loop { rec .ready none with state := .busy }) = Wb := ⟨_, rfl⟩
      have hlb : Wb.heap[w.heap.size + 1]? = some (.loop { rec .ready none with state := .busy }) := by rw [← hWb]; exact World.putObj_heap_same hlt
      have hkb : Wb.heap[w.heap.size]? = some (.deferred (some [])) := by rw [← hWb]; exact (World.putObj_heap_other (by omega)).trans hk'
      have hzb : keepZ ZP Wa Wb := by rw [← hWb]; exact keepZ.putObj _ hz2
      have hib : IA pre x ZP a' Wb := by rw [← hWb]; exact hIA _ _ _ _ _ _ _ hia (.inr rfl) (hbk (d := .deferred none) hl' hk')
      rw [hWb]
      refine wpIn_mono (hbody _ pre x ZP a' _ hx hib hlen (hbk (d := .deferred none) hlb hkb)) ?_
      rintro e a3 W3 ⟨rfl, hk3, hz3, hi3⟩
      have hl3 := (hk3 _ (.inr rfl)).trans hlb
      have hd3 := (hk3 _ (.inl rfl)).trans hkb
      have hend := run_endRound (P := P) none hl3
      rw [hrec] at hend
      refine ⟨_, _, hend, rfl, ⟨hg2 _ _ _ _ (some (w.heap.size + 1)) hi3 (grownBy_putObj' _ _ _) (fun r e => by cases e; exact ⟨.inr rfl, hbk (d := .deferred none) hl3 hd3⟩), ?_, (World.putObj_heap_other (by omega)).trans hd3, hz1, hz2⟩, ((hkz.trans hzb).trans hz3).trans (keepZ.putObj _ hz2)⟩
      rw [hrec]
      exact World.putObj_heap_same (Array.getElem?_eq_some_iff.1 hl3).1
end Go.Vc
namespace Go.Vc
open Go Go.RowKit
/-! The loop over an iterator that makes memory: the consumer. -/
structure CtrM (P : Program) (gf : FuncId) (caps : List AV) (V : Value → Prop) (τs : List AV) : Prop where
  enters : Enters P gf
  gives : ∀ (w : World) (Z : Zone) (cs : List Value), (∀ k, Z k → k < w.heap.size) → All2 (fun τ v => AV.ok Z w τ v) caps cs → SeqM P gf cs.toArray V τs Z w
def memB : List Nat → Nat → Bool
  | [], _ => false
  | x :: l, d => match Nat.beq x d with | true => true | false => memB l d
def snap (ws : List Nat) (a : Act) (d : Nat) : Option Value := match memB ws d with | true => none | false => some (a.tmps.getD d undef)
/-- The environment of a round of a loop. -/
def Env.rnd (N l : Nat) (ws : List Nat) (a : Act) (w : World) (Z : Zone) (keep : Nat → Prop) : Env :=
  { N := N, round := some l, cst := snap ws a, keep := keep, w0 := w, Z0 := Z }
/-- The environment behind a loop whose mark is D. -/
def Env.after (E : Env) (D : Nat) (w : World) : Env :=
  { N := E.N, round := none, cst := fun _ => none, keep := fun k => E.keep k ∨ k = D, w0 := w, Z0 := E.Z0, marks := [{ target := .collected D, args := #[] }] }
structure AfterOk (E : Env) (D : Nat) (w2 : World) : Prop where
  base : ∃ Z2, Base E Z2 w2
  lo : E.w0.heap.size ≤ D
  z : ¬ E.Z0 D
  heap : w2.heap[D]? = some (.deferred (some []))
def Res.plain : Res → Bool
  | .cells _ => true
  | .row .. => true
  | _ => false
def plainB (O : Own) : Bool := O.all fun p => p.2.plain
theorem Res.plain_cells {E : Env} {Z : Zone} {ν : Vals} {w : World} {v : Value} {x : Res} (h : x.ok E Z ν w v) (hp : x.plain = true) {b : Nat} (hb : blkOf v = some b) : ∃ ob, w.heap[b]? = some ob ∧ ob.isCells = true := by
  cases x with
  | cells cs =>
    obtain ⟨b', ty, arr, rfl, h2, h3, h4, _⟩ := h
    simp only [blkOf, Option.some.injEq] at hb
    subst hb
    exact ⟨_, h4, rfl⟩
  | row ty sz n f =>
    rcases h with ⟨rfl, _⟩ | ⟨b', cap, arr, rfl, h2, h3, h4, _⟩
    · simp [blkOf] at hb
    · simp only [blkOf, Option.some.injEq] at hb
      subst hb
      exact ⟨_, h4, rfl⟩
  | _ => cases hp
section
variable {E : Env} {T : Tab} {O : Own} {a : Act} {w W : World} {Z : Zone} {ν : Vals}
theorem own_blk (h : SatZ E Z ν T O a w) {k : Nat} (hk : ownB O ν k) : k < w.heap.size ∧ ¬ Z k ∧ ¬ E.keep k := by
  obtain ⟨r, h1, h2⟩ := hk
  obtain ⟨x, hx⟩ := Option.ne_none_iff_exists'.1 h1
  exact Res.blk_lt (h.own.each r x hx) h2
theorem own_cells (h : SatZ E Z ν T O a w) (hp : plainB O = true) {k : Nat} (hk : ownB O ν k) : ∃ ob, w.heap[k]? = some ob ∧ ob.isCells = true := by
  obtain ⟨r, h1, h2⟩ := hk
  obtain ⟨x, hx⟩ := Option.ne_none_iff_exists'.1 h1
  exact Res.plain_cells (h.own.each r x hx) (List.all_eq_true.1 hp _ (look_mem hx)) h2
/-- The loop's own environment. -/
def Env.lp (N : Nat) (w : World) (Z : Zone) (keep : Nat → Prop) : Env := { N := N, keep := keep, w0 := w, Z0 := Z }
theorem SatZ.widen {A B : World} (h : SatZ E Z ν T O a A) (hg : A.grownBy B none) (hl : E.w0.heap.size ≤ A.heap.size) (hk : ∀ k, E.keep k → k < E.w0.heap.size) : SatZ E (zplus Z A B) ν T O a B := by
  refine h.shift h.defers h.tsize h.cst h.pin ⟨hg.os.trans h.base.os, hg.tape.trans h.base.tape, hg.output.trans h.base.output, Nat.le_trans h.base.size hg.size, h.base.keepLt, fun k q => (hg.block k (by have := hk k q; omega) (by simp)).trans (h.base.kept k q), fun k q => ?_, fun k q => .inl (h.base.z0 k q), fun k q => ?_⟩ (AV.ok_mono (fun k q => .inl q) hg.size (fun k _ hl => hg.block k hl (by simp))) (fun r hr b hb => ?_) (fun _ _ => rfl)
  · rcases q with q | q
    · exact Nat.lt_of_lt_of_le (h.base.zLt k q) hg.size
    · exact q.2
  · rcases q with q | q
    · exact h.base.zNew k q
    · exact .inr fun q' => by have := hk k q'; omega
  · obtain ⟨e1, e2, e3⟩ := own_blk h ⟨r, hr, hb⟩
    refine ⟨fun q => ?_, e3, hg.block b e1 (by simp)⟩
    rcases q with q | q
    · exact e2 q
    · omega
/-- A change of a block that is neither read nor the call's own. -/
theorem SatZ.aside {A B : World} {row : Option Nat} (h : SatZ E Z ν T O a A) (hg : A.grownBy B row) (hr : ∀ r, row = some r → ¬ Z r ∧ ¬ ownB O ν r ∧ ¬ E.keep r) (hk : ∀ k, E.keep k → k < A.heap.size) : SatZ E Z ν T O a B := by
  have hne : ∀ k, (Z k ∨ ownB O ν k ∨ E.keep k) → k < A.heap.size → B.heap[k]? = A.heap[k]? := fun k q hl => hg.block k hl (fun e => by
    obtain ⟨h1, h2, h3⟩ := hr k e.symm
    exact q.elim h1 (fun q => q.elim h2 h3))
  refine h.shift h.defers h.tsize h.cst h.pin ⟨hg.os.trans h.base.os, hg.tape.trans h.base.tape, hg.output.trans h.base.output, Nat.le_trans h.base.size hg.size, h.base.keepLt, fun k q => (hne k (.inr (.inr q)) (hk k q)).trans (h.base.kept k q), fun k q => Nat.lt_of_lt_of_le (h.base.zLt k q) hg.size, h.base.z0, h.base.zNew⟩ (AV.ok_mono (fun _ q => q) hg.size (fun k q hl => hne k (.inl q) hl)) (fun r hr b hb => ?_) (fun _ _ => rfl)
  obtain ⟨e1, e2, e3⟩ := own_blk h ⟨r, hr, hb⟩
  exact ⟨e2, e3, hne b (.inr (.inl ⟨r, hr, hb⟩)) e1⟩
/-- Out of a round's part. -/
theorem SatZ.leave {E1 : Env} {N l : Nat} {ws : List Nat} {a0 a1 a2 : Act} {W W' : World} {Z' : Zone} {ν' : Vals} {O1 O2 : Own} {T1 T2 : Tab} (hm : E1.marks = []) (hc : ∀ d, E1.cst d = none) (hpn : ∀ r, E1.pin r = none) (hN : E1.N = N) (h1 : SatZ E1 Z ν T1 O1 a1 W)
    (h2 : SatZ (Env.rnd N l ws a0 W Z (fun k => k < W.heap.size ∧ ¬ ownB O1 ν k)) Z' ν' T2 O2 a2 W') : SatZ E1 Z' ν' T2 O2 a2 W' := by
  have kk : ∀ k, E1.keep k → (k < W.heap.size ∧ ¬ ownB O1 ν k) := fun k hk => ⟨Nat.lt_of_lt_of_le (h1.base.keepLt k hk) h1.base.size, fun ho => (own_blk h1 ho).2.2 hk⟩
  refine h2.shift (h2.defers.trans hm.symm) (h2.tsize.trans hN.symm) (fun d v q => by rw [hc] at q; cases q) (fun r v q => by rw [hpn] at q; cases q) ⟨h2.base.os.trans h1.base.os, h2.base.tape.trans h1.base.tape, h2.base.output.trans h1.base.output, Nat.le_trans h1.base.size h2.base.size, h1.base.keepLt, fun k hk => (h2.base.kept k (kk k hk)).trans (h1.base.kept k hk), h2.base.zLt, fun k hk => h2.base.z0 k (h1.base.z0 k hk), fun k hk => ?_⟩ (fun _ _ q => q) (fun r hr b hb => ?_) (fun _ _ => rfl)
  · rcases h2.base.zNew k hk with q | q
    · exact h1.base.zNew k q
    · exact .inr fun q' => q (kk k q')
  · obtain ⟨e1, e2, e3⟩ := own_blk h2 ⟨r, hr, hb⟩
    exact ⟨e2, fun q => e3 (kk b q), rfl⟩
end
theorem getD_set_other (t : Array Value) (p d : Nat) (x : Value) (h : p ≠ d) : (t.setIfInBounds p x).getD d undef = t.getD d undef := by
  simp [Array.getD_eq_getD_getElem?, Array.getElem?_setIfInBounds_ne h]
theorem memB_ne {ws : List Nat} {p d : Nat} (h1 : memB ws p = true) (h2 : memB ws d = false) : p ≠ d := fun e => by rw [e, h2] at h1; cases h1
theorem caps_ok {Zw : Zone} {w : World} : ∀ (m k : Nat) (cf : Nat → AV) (cs : List Value), cs.length = m → (∀ i, i < m → ∃ u, cs[i]? = some u ∧ (cf (k + i)).ok Zw w u) → All2 (fun τ v => AV.ok Zw w τ v) ((List.range' k m).map cf) cs := by
  intro m
  induction m with
  | zero => intro k cf cs hl _; rw [List.length_eq_zero_iff.1 hl]; trivial
  | succ m ih =>
    intro k cf cs hl h
    match cs, hl with
    | c0 :: cs, hl =>
      rw [List.range'_succ, List.map_cons]
      obtain ⟨u, hu, hk⟩ := h 0 (by omega)
      simp only [List.getElem?_cons_zero, Option.some.injEq] at hu
      subst hu
      refine ⟨hk, ih (k + 1) cf cs (by simpa using hl) (fun i hi => ?_)⟩
      obtain ⟨u, hu, hk⟩ := h (i + 1) (by omega)
      exact ⟨u, by simpa using hu, by rw [show k + 1 + i = k + (i + 1) from by omega]; exact hk⟩
/-- A loop over an iterator that makes memory, whose body always goes on. -/
theorem cq_rangeM {P : Program} {E : Env} {Q : Exit → Act → World → Prop} {T : Tab} {O : Own} {g : Operand} {p : Tmp} {assign body : Code} {gf : FuncId} {n : Nat} {cf : Nat → AV} {V : Value → Prop} {τs : List AV}
    (hro : E.round = none) (hm : E.marks = []) (hI : CtrM P gf ((List.range n).map cf) V τs) (ws : List Nat) (TL : Tab) (OL : List Value → Own) (TX : Value → Tab)
    (h0 : Ent T O TL (OL [])) (hg : TL.ev g = .av (.clo gf n cf)) (hTL : TL.all (fun q => !memB ws q.1) = true) (hp : memB ws p = true) (hpN : Nat.blt p E.N = true) (hplain : ∀ pre, plainB (OL pre) = true)
    (hass : ∀ l a0 w0 Z0 keep pre x, V x → CQ P (Env.rnd E.N l ws a0 w0 Z0 keep) (Exit.then (fun a w => Sat (Env.rnd E.N l ws a0 w0 Z0 keep) (TX x ++ TL) (OL pre) a w) (fun _ _ _ => False)) ((p, .av (.val x)) :: TL) (OL pre) assign)
    (hbody : ∀ l a0 w0 Z0 keep pre x, V x → pre.length < τs.length → CQ P (Env.rnd E.N l ws a0 w0 Z0 keep) (fun e a w => e = .normal ∧ Sat (Env.rnd E.N l ws a0 w0 Z0 keep) TL (OL (pre ++ [x])) a w) (TX x ++ TL) (OL pre) body)
    (hdone : ∀ D w2 xs Z ν a, AfterOk E D w2 → All2 (fun τ v => AV.ok Z w2 τ v) τs xs → SatZ (E.after D w2) Z ν TL (OL xs) a w2 → Q .normal a w2) :
    CQ P E Q T O (Code.rangeFunc g #[p] assign body) := by
  refine ⟨fun a w hsat => ?_⟩
  obtain ⟨Zw, ν0, hw⟩ := h0 E a w hsat
  rw [hro, show fc none = Fence.wide from rfl]
  refine (wpIn_wide (n := 0)).2 ((wpIn_wide (n := 2)).1 ?_)
  have hgv := ev_ok hw g
  rw [hg] at hgv
  obtain ⟨cs, hgv, hcl, hcs⟩ := hgv
  have hcaps : All2 (fun τ v => AV.ok Zw w τ v) ((List.range n).map cf) cs := by
    rw [List.range_eq_range']
    exact caps_ok n 0 cf cs hcl (fun i hi => by rw [Nat.zero_add]; exact hcs i hi)
  have htl : ∀ d, look TL d ≠ none → memB ws d = false := fun d hd => by
    obtain ⟨s, hs⟩ := Option.ne_none_iff_exists'.1 hd
    have := List.all_eq_true.1 hTL _ (look_mem hs)
    simpa using this
  obtain ⟨E1, hE1⟩ : ∃ E1, E1 = Env.lp E.N w Zw (fun k => k < w.heap.size ∧ ¬ ownB (OL []) ν0 k) := ⟨_, rfl⟩
  have e1m : E1.marks = [] := by rw [hE1]; rfl
  have e1c : ∀ d, E1.cst d = none := fun d => by rw [hE1]; rfl
  have e1p : ∀ r, E1.pin r = none := fun d => by rw [hE1]; rfl
  have e1N : E1.N = E.N := by rw [hE1]; rfl
  have e1w : E1.w0 = w := by rw [hE1]; rfl
  have e1k : ∀ k, E1.keep k ↔ (k < w.heap.size ∧ ¬ ownB (OL []) ν0 k) := fun k => by rw [hE1]; exact Iff.rfl
  have e1z : ∀ k, E1.Z0 k ↔ Zw k := fun k => by rw [hE1]; exact Iff.rfl
  have had : a.defers = [] := hw.defers.trans hm
  have hstart : SatZ E1 Zw ν0 TL (OL []) a w := by
    rw [hE1]
    refine hw.shift had hw.tsize (fun d v q => by cases q) (fun r v q => by cases q) ⟨rfl, rfl, rfl, Nat.le_refl _, fun k hk => hk.1, fun _ _ => rfl, hw.base.zLt, fun _ q => q, fun _ q => .inl q⟩ (fun _ _ q => q) (fun r hr b hb => ?_) (fun _ _ => rfl)
    exact ⟨(own_blk hw ⟨r, hr, hb⟩).2.1, fun q => q.2 ⟨r, hr, hb⟩, rfl⟩
  have hnb : ∀ {k : Nat}, bk w k → ¬ E1.keep k := fun {k} hk q => by
    have := ((e1k k).1 q).1
    rcases hk with rfl | rfl <;> omega
  have hnO : ∀ {A : World} {ν : Vals} {Z : Zone} {T' : Tab} {O' : Own} {a' : Act} {k : Nat}, SatZ E1 Z ν T' O' a' A → plainB O' = true → bkOk w A → bk w k → ¬ ownB O' ν k := fun h hpl hb hk ho => by
    obtain ⟨ob, h1, h2⟩ := own_cells h hpl ho
    obtain ⟨o, h3, h4⟩ := hb _ hk
    rw [h1] at h3; cases h3; rw [h2] at h4; cases h4
  refine wpIn_rangeM (P := P) hgv hI.enters (hI.gives w Zw cs hw.base.zLt hcaps) hw.base.zLt
    (fun pre ZP W => ∃ Z ν, (∀ k, ZP k → Z k) ∧ (∀ k, bk w k → ¬ Z k) ∧ SatZ E1 Z ν TL (OL pre) a W) ?_ ?_ ⟨Zw, ν0, fun _ q => q, fun k hk q => by have := hw.base.zLt k q; rcases hk with rfl | rfl <;> omega, hstart⟩
    (fun pre x ZP a' W => ∃ Z ν, (∀ k, ZP k → Z k) ∧ (∀ k, bk w k → ¬ Z k) ∧ SatZ E1 Z ν (TX x ++ TL) (OL pre) a' W ∧ ∀ d, memB ws d = false → a'.tmps.getD d undef = a.tmps.getD d undef) ?_ ?_ ?_ ?_
  · rintro s ZP A B ⟨Z, ν, z1, z2, h⟩ hg hl
    refine ⟨zplus Z A B, ν, fun k q => q.imp (z1 k) id, fun k hk q => ?_, h.widen hg (by rw [e1w]; omega) (fun k q => by rw [e1w]; exact ((e1k k).1 q).1)⟩
    rcases q with q | q
    · exact z2 k hk q
    · rcases hk with rfl | rfl <;> omega
  · rintro s ZP A B row ⟨Z, ν, z1, z2, h⟩ hg hr
    refine ⟨Z, ν, z1, z2, h.aside hg (fun r e => ?_) (fun k q => Nat.lt_of_lt_of_le ((e1k k).1 q).1 (by have := h.base.size; rwa [e1w] at this))⟩
    obtain ⟨q1, q2⟩ := hr r e
    exact ⟨z2 r q1, hnO h (hplain s) q2 q1, hnb q1⟩
  · rintro s x ZP a' A l o' ⟨Z, ν, z1, z2, h, h3⟩ hl hb
    exact ⟨Z, ν, z1, z2, h.aside (grownBy_putObj' A l o') (fun r e => by cases e; exact ⟨z2 l hl, hnO h (hplain s) hb hl, hnb hl⟩) (fun k q => Nat.lt_of_lt_of_le ((e1k k).1 q).1 (by have := h.base.size; rwa [e1w] at this)), h3⟩
  · rintro l pre x ZP W K hx ⟨Z, ν, z1, z2, h1⟩ hb hK
    have hpl : p < a.tmps.size := by rw [hw.tsize]; exact lt_of_blt hpN
    have hst : SatZ (Env.rnd E.N l ws a W Z (fun k => k < W.heap.size ∧ ¬ ownB (OL pre) ν k)) Z ν ((p, .av (.val x)) :: TL) (OL pre) { tmps := a.tmps.setIfInBounds p x, defers := [] } W := by
      have h2 : SatZ (Env.rnd E.N l ws a W Z (fun k => k < W.heap.size ∧ ¬ ownB (OL pre) ν k)) Z ν TL (OL pre) { tmps := a.tmps.setIfInBounds p x, defers := [] } W := by
        refine h1.shift rfl (by simp [Env.rnd, hw.tsize]) (fun d v hd => ?_) (fun r v q => by cases q) ⟨rfl, rfl, rfl, Nat.le_refl _, fun k hk => hk.1, fun _ _ => rfl, h1.base.zLt, fun _ q => q, fun _ q => .inl q⟩ (fun _ _ q => q) (fun r hr b hb => ?_) (fun d hd => getD_set_other _ _ _ _ (memB_ne hp (htl d hd)))
        · change snap ws a d = some v at hd
          unfold snap at hd
          split at hd
          · cases hd
          · rename_i hmb
            cases hd
            exact getD_set_other _ _ _ _ (memB_ne hp hmb)
        · exact ⟨(own_blk h1 ⟨r, hr, hb⟩).2.1, fun q => q.2 ⟨r, hr, hb⟩, rfl⟩
      refine ⟨h2.defers, h2.tsize, h2.cst, h2.pin, h2.base, h2.own, fun d => ?_⟩
      by_cases hd : p = d
      · subst hd
        rw [Tab.get_cons_eq]
        simp [SV.ok, AV.ok, Array.getD_eq_getD_getElem?, hpl]
      · rw [Tab.get_cons_ne _ _ hd]
        exact h2.slot d
    refine wpIn_mono ((hass l a W Z _ pre x hx).sq _ W ⟨Z, ν, hst⟩) ?_
    rintro e a' W' hq
    cases e with
    | normal =>
      obtain ⟨Z', ν', h2⟩ := hq
      have hkeep : ∀ k, (Z k ∨ (bk w k)) → k < W.heap.size → W'.heap[k]? = W.heap[k]? := fun k q hl => h2.base.kept k ⟨hl, fun ho => q.elim (own_blk h1 ho).2.1 (fun q => hnO h1 (hplain pre) hb q ho)⟩
      have hbl : ∀ k, bk w k → k < W.heap.size := fun k hk => by
        obtain ⟨o, ho, _⟩ := hb k hk
        exact (Array.getElem?_eq_some_iff.1 ho).1
      refine hK a' W' (fun k hk => hkeep k (.inr hk) (hbl k hk)) ⟨h2.base.os, h2.base.tape, h2.base.output, h2.base.size, fun k hk hl => hkeep k (.inl (z1 k hk)) hl⟩ ⟨Z', ν', fun k hk => h2.base.z0 k (z1 k hk), fun k hk q => ?_, h1.leave e1m e1c e1p e1N h2, fun d hd => h2.cst d _ (by show snap ws a d = _; unfold snap; rw [hd])⟩
      rcases h2.base.zNew k q with q | q
      · exact z2 k hk q
      · exact q ⟨hbl k hk, hnO h1 (hplain pre) hb hk⟩
    | exit id => exact hq
    | goto t => exact hq
    | ret => exact hq
    | panic ch => exact hq
    | outgrown => exact hq
  · rintro l pre x ZP a' W hx ⟨Z, ν, z1, z2, h1, h3⟩ hlen hb
    have hst : SatZ (Env.rnd E.N l ws a W Z (fun k => k < W.heap.size ∧ ¬ ownB (OL pre) ν k)) Z ν (TX x ++ TL) (OL pre) a' W := by
      refine h1.shift (h1.defers.trans e1m) (h1.tsize.trans e1N) (fun d v hd => ?_) (fun r v q => by cases q) ⟨rfl, rfl, rfl, Nat.le_refl _, fun k hk => hk.1, fun _ _ => rfl, h1.base.zLt, fun _ q => q, fun _ q => .inl q⟩ (fun _ _ q => q) (fun r hr b hb => ?_) (fun _ _ => rfl)
      · change snap ws a d = some v at hd
        unfold snap at hd
        split at hd
        · cases hd
        · rename_i hmb
          cases hd
          exact h3 d hmb
      · exact ⟨(own_blk h1 ⟨r, hr, hb⟩).2.1, fun q => q.2 ⟨r, hr, hb⟩, rfl⟩
    refine wpIn_mono ((hbody l a W Z _ pre x hx hlen).sq a' W ⟨Z, ν, hst⟩) ?_
    rintro e a2 W' ⟨rfl, Z', ν', h2⟩
    have hkeep : ∀ k, (Z k ∨ (bk w k)) → k < W.heap.size → W'.heap[k]? = W.heap[k]? := fun k q hl => h2.base.kept k ⟨hl, fun ho => q.elim (own_blk h1 ho).2.1 (fun q => hnO h1 (hplain pre) hb q ho)⟩
    have hbl : ∀ k, bk w k → k < W.heap.size := fun k hk => by
      obtain ⟨o, ho, _⟩ := hb k hk
      exact (Array.getElem?_eq_some_iff.1 ho).1
    refine ⟨rfl, fun k hk => hkeep k (.inr hk) (hbl k hk), ⟨h2.base.os, h2.base.tape, h2.base.output, h2.base.size, fun k hk hl => hkeep k (.inl (z1 k hk)) hl⟩, Z', ν', fun k hk => h2.base.z0 k (z1 k hk), fun k hk q => ?_, ?_⟩
    · rcases h2.base.zNew k q with q | q
      · exact z2 k hk q
      · exact q ⟨hbl k hk, hnO h1 (hplain pre) hb hk⟩
    · have h4 := h1.leave e1m e1c e1p e1N h2
      refine h4.shift (had.trans e1m.symm) (hw.tsize.trans e1N.symm) (fun d v q => by rw [e1c] at q; cases q) (fun r v q => by rw [e1p] at q; cases q) h4.base (fun _ _ q => q) (fun r hr b hb => ?_) (fun d hd => ?_)
      · obtain ⟨q1, q2, q3⟩ := own_blk h4 ⟨r, hr, hb⟩
        exact ⟨q2, q3, rfl⟩
      · exact (h2.cst d _ (by show snap ws a d = _; unfold snap; rw [htl d hd])).symm
  · rintro D xs ZP W hDe hR ⟨Z, ν, z1, z2, h⟩ hh
    have hD : w.heap.size ≤ D := by omega
    have hZD : ¬ Z D := z2 D (.inl hDe)
    have hDl := (Array.getElem?_eq_some_iff.1 hh).1
    have hzd : ¬ E.Z0 D := fun q => by have := hw.base.zLt D (hw.base.z0 D q); omega
    have hnoD : ∀ k, ownB (OL xs) ν k → k ≠ D := fun k hk e => by
      subst e
      obtain ⟨ob, q1, q2⟩ := own_cells h (hplain xs) hk
      rw [hh] at q1; cases q1; cases q2
    have hEk : ∀ k, E.keep k → E1.keep k := fun k hk => (e1k k).2 ⟨Nat.lt_of_lt_of_le (hw.base.keepLt k hk) hw.base.size, fun ho => (own_blk hw ho).2.2 hk⟩
    have hbase : Base E Z W := ⟨h.base.os.trans (by rw [e1w]; exact hw.base.os), h.base.tape.trans (by rw [e1w]; exact hw.base.tape), h.base.output.trans (by rw [e1w]; exact hw.base.output), Nat.le_trans hw.base.size (by have := h.base.size; rwa [e1w] at this), hw.base.keepLt, fun k hk => (h.base.kept k (hEk k hk)).trans (by rw [e1w]; exact hw.base.kept k hk), h.base.zLt, fun k hk => h.base.z0 k ((e1z k).2 (hw.base.z0 k hk)), fun k hk => by
      rcases h.base.zNew k hk with q | q
      · exact hw.base.zNew k ((e1z k).1 q)
      · exact .inr fun q' => q (hEk k q')⟩
    refine hdone D W xs Z ν _ ⟨⟨Z, hbase⟩, Nat.le_trans hw.base.size hD, hzd, hh⟩ (hR.mono fun τ _ v hv => AV.ok_mono z1 (Nat.le_refl _) (fun _ _ _ => rfl) τ v hv) ?_
    refine h.shift (by show _ :: a.defers = _; rw [had]; rfl) hw.tsize (fun d v q => by cases q) (fun r v q => by cases q) ⟨rfl, rfl, rfl, Nat.le_refl _, fun k hk => ?_, fun _ _ => rfl, h.base.zLt, hbase.z0, fun k hk => ?_⟩ (fun _ _ q => q) (fun r hr b hb => ?_) (fun _ _ => rfl)
    · rcases hk with hk | rfl
      · exact Nat.lt_of_lt_of_le (hbase.keepLt k hk) hbase.size
      · exact hDl
    · rcases hbase.zNew k hk with q | q
      · exact .inl q
      · exact .inr fun q' => q'.elim q (fun e => hZD (e ▸ hk))
    · obtain ⟨q1, q2, q3⟩ := own_blk h ⟨r, hr, hb⟩
      refine ⟨q2, fun q => ?_, rfl⟩
      rcases q with q | q
      · exact q3 (hEk b q)
      · exact hnoD b ⟨r, hr, hb⟩ q
end Go.Vc
namespace Go.Vc
open Go Go.RowKit
/-! The iterator that makes memory; the end of a function that holds a loop over one. -/
structure YM (P : Program) (V : Value → Prop) (τs : List AV) (l : Nat) (J : List Value → Zone → World → Prop) : Prop where
  grow : ∀ s ZP A B, J s ZP A → A.grownBy B none → J s (zplus ZP A B) B
  yld : ∀ pre x ZP A, J pre ZP A → V x → pre.length < τs.length → YieldAt Fence.wide 0 P l #[x] A fun e B => e = .returned (.bool true) ∧ J (pre ++ [x]) ZP B ∧ keepZ ZP A B
/-- m values have been handed out. -/
structure SM (τs : List AV) (J : List Value → Zone → World → Prop) (m : Nat) (w : World) (Z : Zone) : Prop where
  ex : ∃ pre ZP, J pre ZP w ∧ (∀ k, Z k → ZP k) ∧ All2 (fun τ v => AV.ok ZP w τ v) (τs.take m) pre
def RM (τs : List AV) (J : List Value → Zone → World → Prop) (e : Ending) (w' : World) : Prop :=
  (∃ v, e = .returned v) ∧ ∃ xs ZP, All2 (fun τ v => AV.ok ZP w' τ v) τs xs ∧ J xs ZP w'
theorem All2.snoc {α β : Type} {R : α → β → Prop} {y : β} {x : α} : ∀ {l : List α} {m : List β}, All2 R l m → R x y → All2 R (l ++ [x]) (m ++ [y])
  | [], [], _, h => ⟨h, trivial⟩
  | _ :: _, _ :: _, h, h' => ⟨h.1, All2.snoc h.2 h'⟩
theorem entersM {P : Program} {f : FuncId} {fn : Func} {c : Code} (hf : P.funcs[f]? = some fn) (hb : fn.body = some c) (hname : (fn.name == "runtime.NumGoroutine") = false) : Enters P f := by
  intro vs w
  have hname' : fn.name ≠ "runtime.NumGoroutine" := by simpa using hname
  simp [callFunc, hf, hname', hb]
theorem init_satM {fn : Func} {args : List AV} {N : Nat} {w : World} {Z : Zone} {vs : List Value} (hN : fn.ntmps = N) (hlen' : Nat.ble args.length N = true) (hZ : ∀ k, Z k → k < w.heap.size) (hvs : All2 (fun τ v => AV.ok Z w τ v) args vs) :
    Sat (envA N w Z) (initT 0 (args.map SV.av)) [] { tmps := vs.toArray ++ Array.replicate (fn.ntmps - vs.toArray.size) undef, defers := [] } w := by
  have hlen : args.length ≤ N := Nat.le_of_ble_eq_true hlen'
  have hl := hvs.len
  refine ⟨Z, fun _ => undef, rfl, ?_, (fun _ _ h => by cases h), (fun _ _ h => by cases h), ⟨rfl, rfl, rfl, Nat.le_refl _, fun k hk => hk, fun _ _ => rfl, hZ, fun _ hk => hk, fun _ hk => .inl hk⟩, ⟨fun r x hx => by simp [look] at hx, fun r r' _ h1 => by simp [look] at h1⟩, fun d => ?_⟩
  · simp only [Array.size_append, List.size_toArray, Array.size_replicate, hN, envA]; omega
  · rw [initT_get, if_pos (Nat.zero_le _), Nat.sub_zero]
    by_cases hd : d < args.length
    · have h1 : (args.map SV.av).getD d (.av .any) = .av args[d] := by simp [List.getD, List.getElem?_eq_getElem hd]
      rw [h1]
      obtain ⟨u, hu, hk⟩ := hvs.get d args[d] (List.getElem?_eq_getElem hd)
      have : (vs.toArray ++ Array.replicate (fn.ntmps - vs.toArray.size) undef).getD d undef = u := by
        have hlt := (List.getElem?_eq_some_iff.1 hu).1
        rw [Array.getD_eq_getD_getElem?, Array.getElem?_append_left (by simpa using hlt)]
        simp [hu]
      rw [this]; exact hk
    · have h1 : (args.map SV.av).getD d (.av .any) = .av .any := by
        rw [List.getD, List.getElem?_eq_none (by simpa using hd)]; rfl
      rw [h1]; trivial
theorem ctrM {P : Program} {gf : FuncId} {fn : Func} {c : Code} {caps : List AV} {V : Value → Prop} {τs : List AV} (N : Nat) (hf : P.funcs[gf]? = some fn) (hb : fn.body = some c) (hname : (fn.name == "runtime.NumGoroutine") = false) (hN : fn.ntmps = N) (hlen' : Nat.ble (caps.length + 1) N = true)
    (h : ∀ l J, YM P V τs l J → ∀ w Z, SM τs J 0 w Z → CQ P (envA N w Z) (bodyPost P fn (RM τs J)) (initT 0 ((AV.val (.func (.yield l) #[] #[]) :: caps).map SV.av)) [] c) : CtrM P gf caps V τs := by
  refine ⟨entersM hf hb hname, fun w Z cs hZ hcs => ?_⟩
  intro l J W hBl hJ hY h0
  have hZW : ∀ k, Z k → k < W.heap.size := fun k hk => Nat.lt_of_lt_of_le (hZ k hk) hBl.size
  have hcs' : All2 (fun τ v => AV.ok Z W τ v) (AV.val (.func (.yield l) #[] #[]) :: caps) (Value.func (.yield l) #[] #[] :: cs) :=
    ⟨rfl, hcs.mono fun τ _ v hv => AV.ok_mono (fun _ q => q) hBl.size (fun k hk _ => hBl.block k (hZ k hk)) τ v hv⟩
  have key := (h l J ⟨hJ, hY⟩ W Z ⟨⟨[], Z, h0, fun _ q => q, trivial⟩⟩).sq _ W (init_satM hN hlen' hZW hcs')
  have hc : Calls P gf (Value.func (.yield l) #[] #[] :: cs).toArray W (RM τs J) := calls_of_wp hf hb (wpIn_wide.1 key)
  have ha : #[Value.func (.yield l) #[] #[]] ++ cs.toArray = (Value.func (.yield l) #[] #[] :: cs).toArray := by simp
  rw [ha]
  exact callsIn_wide.2 hc
section
variable {P : Program} {V : Value → Prop} {τs : List AV} {l : Nat} {J : List Value → Zone → World → Prop} {N : Nat} {w : World} {Z : Zone} {T : Tab} {O : Own} {Q : Exit → Act → World → Prop}
theorem SM.below {a : Act} {w1 : World} {Z1 : Zone} {ν : Vals} (h : SatZ (envA N w Z) Z1 ν T O a w1) : w.grownBy w1 none := ⟨h.base.os, h.base.tape, h.base.output, h.base.size, fun k hk _ => h.base.kept k hk⟩
theorem SM.now (Y : YM P V τs l J) {m : Nat} (S : SM τs J m w Z) {a : Act} {w1 : World} {Z1 : Zone} {ν : Vals} (h : SatZ (envA N w Z) Z1 ν T O a w1) : SM τs J m w1 Z1 := by
  obtain ⟨pre, ZP, h1, h2, h3⟩ := S.ex
  have hg := SM.below h
  refine ⟨pre, zplus ZP w w1, Y.grow _ _ _ _ h1 hg, fun k hk => ?_, h3.mono fun τ _ v hv => AV.ok_mono (fun k q => .inl q) hg.size (fun k _ hl => hg.block k hl (by simp)) τ v hv⟩
  rcases h.base.zNew k hk with q | q
  · exact .inl (h2 k q)
  · exact .inr ⟨Nat.le_of_not_lt q, h.base.zLt k hk⟩
theorem rebaseM {a : Act} {w1 : World} {Z1 : Zone} {ν : Vals} (h : SatZ (envA N w Z) Z1 ν T [] a w1) : SatZ (envA N w1 Z1) Z1 ν T [] a w1 :=
  h.shift h.defers h.tsize (fun _ _ q => by cases q) (fun _ _ q => by cases q) ⟨rfl, rfl, rfl, Nat.le_refl _, fun _ hk => hk, fun _ _ => rfl, h.base.zLt, fun _ hk => hk, fun _ hk => .inl hk⟩ (fun _ _ q => q) (fun r hr => absurd rfl hr) (fun _ _ => rfl)
/-- A call of yield. -/
theorem sq_yieldM (Y : YM P V τs l J) {m : Nat} (S : SM τs J m w Z) {τ : AV} {d : Nat} {c y : Operand} {ats : Array TypeId} {ty : TypeId} {pos : String} {af : Array Edge} {ops : Array Oper} {l' : List Oper}
    (hm : τs[m]? = some τ) (hx : ∀ Z w v, AV.ok Z w τ v → V v) (hc : T.ev c = .av (.val (.func (.yield l) #[] #[]))) (hy : T.ev y = .av τ) (hd : (envA N w Z).wr d = true)
    (ht : ∀ w' Z', SM τs J (m + 1) w' Z' → LSQ P (envA N w' Z') ops Q l' ((d, .av (.val (.bool true))) :: T) []) :
    LSQ P (envA N w Z) ops Q (⟨some d, .call ⟨.value c, #[y], ats⟩, ty, pos, af, none⟩ :: l') T [] := by
  refine ⟨fun a w1 hsat => ?_⟩
  obtain ⟨Z1, ν, h⟩ := hsat
  obtain ⟨pre, ZP, j1, j2, j3⟩ := (S.now Y h).ex
  have hyv := ev_ok h y
  rw [hy] at hyv
  have hyv : AV.ok Z1 w1 τ (a.eval y) := hyv
  have hml : m < τs.length := (List.getElem?_eq_some_iff.1 hm).1
  have hpl : pre.length = m := by have := j3.len; rw [List.length_take] at this; omega
  obtain ⟨fn, tmps, assign, body, hyl, hR⟩ := Y.yld pre (a.eval y) ZP w1 j1 (hx _ _ _ hyv) (by omega)
  have hfv : a.eval c = .func (.yield l) #[] #[] := by
    have := ev_ok h c
    rw [hc] at this
    exact this
  refine wpListIn_plain rfl fun K hK => ?_
  refine ⟨fun _ _ => trivial, ?_⟩
  rw [show (fc (envA N w Z).round).round = none from rfl, Oper.semAt_eq none a.eval _ (by intro c; simp)]
  have hrun : (execOp a.eval ⟨some d, .call ⟨.value c, #[y], ats⟩, ty, pos, af, none⟩).run P w1 = .ok (.round l fn tmps assign body) w1 := by
    simp [execOp, resolve, Deferred.ofValue, hfv, invoke] at hyl ⊢
    exact hyl
  rw [hrun]
  refine ⟨fun h => by simp [fc, envA] at h, ?_⟩
  refine RoundIn.mono (F := Fence.wide) hR ?_
  rintro e W' ⟨rfl, hj, hk⟩
  have hzk : ∀ k, Z1 k → k < w1.heap.size → W'.heap[k]? = w1.heap[k]? := fun k hz hl => hk.2.2.2.2 k (j2 k hz) hl
  have htk : τs.take (m + 1) = τs.take m ++ [τ] := by rw [List.take_add_one, hm]; rfl
  have hS : SM τs J (m + 1) W' Z1 := by
    refine ⟨pre ++ [a.eval y], ZP, hj, j2, ?_⟩
    rw [htk]
    exact (j3.mono fun τ _ v hv => AV.ok_mono (fun _ q => q) hk.2.2.2.1 (fun k q hl => hk.2.2.2.2 k q hl) τ v hv).snoc (AV.ok_mono j2 hk.2.2.2.1 hzk τ _ hyv)
  refine hK _ _ ((ht W' Z1 hS).sq _ _ ⟨Z1, ν, ?_⟩)
  have h2 : SatZ (envA N W' Z1) Z1 ν T [] a W' :=
    h.shift h.defers h.tsize (fun _ _ q => by cases q) (fun _ _ q => by cases q) ⟨rfl, rfl, rfl, Nat.le_refl _, fun _ hk => hk, fun _ _ => rfl, fun k q => Nat.lt_of_lt_of_le (h.base.zLt k q) hk.2.2.2.1, fun _ hk => hk, fun _ hk => .inl hk⟩
      (AV.ok_mono (fun _ q => q) hk.2.2.2.1 hzk) (fun r hr => absurd rfl hr) (fun _ _ => rfl)
  exact h2.put (some d) _ _ hd rfl
/-- The same, guarded: the guard says yes. -/
theorem sq_yieldM_on (Y : YM P V τs l J) {m : Nat} (S : SM τs J m w Z) {τ : AV} {d j gd : Nat} {want : Bool} {c y : Operand} {ats : Array TypeId} {ty : TypeId} {pos : String} {af : Array Edge} {ops : Array Oper} {l' : List Oper}
    (hm : τs[m]? = some τ) (hx : ∀ Z w v, AV.ok Z w τ v → V v) (hc : T.ev c = .av (.val (.func (.yield l) #[] #[]))) (hy : T.ev y = .av τ) (hj : (ops[j]?).bind (·.dst) = some gd) (hb : T.get gd = .av (.val (.bool want))) (hd : (envA N w Z).wr d = true)
    (ht : ∀ w' Z', SM τs J (m + 1) w' Z' → LSQ P (envA N w' Z') ops Q l' ((d, .av (.val (.bool true))) :: T) []) :
    LSQ P (envA N w Z) ops Q (⟨some d, .call ⟨.value c, #[y], ats⟩, ty, pos, af, some (j, want)⟩ :: l') T [] := by
  refine ⟨fun a w1 hsat => ?_⟩
  have hsat' := hsat
  obtain ⟨Z1, ν, h⟩ := hsat'
  have hyy := yielded_of hj hb h
  have key := (sq_yieldM Y S (ops := ops) (ats := ats) (ty := ty) (pos := pos) (af := af) hm hx hc hy hd ht).sq a w1 hsat
  unfold wpListIn at key ⊢
  rw [if_pos (by simp [Region.wanted])] at key
  show if _ then _ else _
  rw [if_pos (by simp [Region.wanted, hyy])]
  exact key
def SatM (τs : List AV) (J : List Value → Zone → World → Prop) (N m : Nat) (T : Tab) (a : Act) (w : World) : Prop := ∃ Z, SM τs J m w Z ∧ Sat (envA N w Z) T [] a w
/-- A loop of an iterator. -/
theorem cq_loopM (Y : YM P V τs l J) {γ : Type} {c : Code} (Tof : γ → Tab) (mOf : γ → Nat) (φ : γ → Prop) (μ : γ → Nat) (g0 : γ) (S : SM τs J (mOf g0) w Z) (h0 : φ g0) (hstart : Ent T O (Tof g0) [])
    (hbody : ∀ g, φ g → ∀ w Z, SM τs J (mOf g) w Z → CQ P (envA N w Z) (Exit.then (fun a w => ∃ g', φ g' ∧ μ g' < μ g ∧ SatM τs J N (mOf g') (Tof g') a w) Q) (Tof g) [] c) : CQ P (envA N w Z) Q T O (Code.loop c) := by
  refine ⟨fun a w1 hs => ?_⟩
  obtain ⟨Z1, ν, h1⟩ := hstart _ a w1 hs
  refine wpIn_loop_ghost (fun n a w => ∃ g, μ g = n ∧ φ g ∧ SatM τs J N (mOf g) (Tof g) a w) (μ g0) ⟨g0, rfl, h0, Z1, S.now Y h1, Z1, ν, rebaseM h1⟩ ?_
  rintro n a w2 ⟨g, rfl, hg, Z2, S2, hsat⟩
  refine wpIn_mono ((hbody g hg w2 Z2 S2).sq a w2 hsat) ?_
  intro e a' w' hq
  cases e with
  | normal => obtain ⟨g', h1, h2, h3⟩ := hq; exact ⟨μ g', h2, g', rfl, h1, h3⟩
  | exit id => exact hq
  | goto l => exact hq
  | ret => exact hq
  | panic ch => exact hq
  | outgrown => exact hq
theorem sq_roundM (Y : YM P V τs l J) {γ : Type} {Tof : γ → Tab} {mOf : γ → Nat} {φ : γ → Prop} {μ : γ → Nat} {g : γ} (g' : γ) (S : SM τs J (mOf g') w Z) (h1 : φ g') (h2 : μ g' < μ g) (h3 : Ent T O (Tof g') []) :
    SQ (envA N w Z) T O (Exit.then (fun a w => ∃ g', φ g' ∧ μ g' < μ g ∧ SatM τs J N (mOf g') (Tof g') a w) Q .normal) := fun a w' hs => by
  obtain ⟨Z1, ν, hz⟩ := h3 _ a w' hs
  exact ⟨g', h1, h2, Z1, S.now Y hz, Z1, ν, rebaseM hz⟩
variable {fn : Func}
theorem sq_retM (Y : YM P V τs l J) (hr : fn.results = #[]) (S : SM τs J τs.length w Z) : SQ (envA N w Z) T O (bodyPost P fn (RM τs J) .ret) := by
  rintro a w' ⟨Z', ν, h⟩
  obtain ⟨pre, ZP, h1, _, h3⟩ := (S.now Y h).ex
  rw [List.take_length] at h3
  exact bodyPost_ret (results_none hr _ _ _) h.defers ⟨⟨_, rfl⟩, pre, ZP, h3, h1⟩
theorem sq_retM' (Y : YM P V τs l J) (hr : fn.results = #[]) (S : SM τs J τs.length w Z) : SQ (envA N w Z) T O (bodyPost P fn (RM τs J) .normal) := sq_retM Y hr S
/-! ### A function that holds such a loop -/
abbrev postM (P : Program) (fn : Func) (R : Ending → World → Prop) : Exit → Act → World → Prop := bodyPostM Fence.wide 0 P fn R
variable {E : Env} {R : Ending → World → Prop}
theorem sat_afterM {D : Nat} {w2 : World} (hA : AfterOk (envA N w Z) D w2) {a : Act} {w' : World} (h : Sat ((envA N w Z).after D w2) T O a w') :
    a.defers = [{ target := .collected D, args := #[] }] ∧ w'.heap[D]? = some (.deferred (some [])) ∧ Sat (envA N w Z) T O { a with defers := [] } (w'.putObj D (.deferred none)) := by
  obtain ⟨Z1, ν, h⟩ := h
  obtain ⟨Z2, hb⟩ := hA.base
  have hD : w'.heap[D]? = some (.deferred (some [])) := (h.base.kept D (.inr rfl)).trans hA.heap
  have hne : ∀ k, k ≠ D → (w'.putObj D (.deferred none)).heap[k]? = w'.heap[k]? := fun k hk => World.putObj_heap_other hk
  have hsz : (w'.putObj D (.deferred none)).heap.size = w'.heap.size := by simp [World.putObj]
  have hzD : ¬ Z1 D := fun q => (h.base.zNew D q).elim hA.z (fun q => q (.inr rfl))
  refine ⟨h.defers, hD, Z1, ν, ?_⟩
  refine h.shift rfl h.tsize (fun _ _ q => by cases q) (fun _ _ q => by cases q) ⟨h.base.os.trans hb.os, h.base.tape.trans hb.tape, h.base.output.trans hb.output, ?_, hb.keepLt, fun k hk => ?_, fun k hk => ?_, h.base.z0, fun k hk => ?_⟩ (AV.ok_mono (fun _ q => q) (by omega) (fun k q _ => hne k (fun e => hzD (e ▸ q)))) (fun r hr b hb2 => ?_) (fun _ _ => rfl)
  · have := Nat.le_trans hb.size h.base.size
    omega
  · have hkD : k ≠ D := fun e => by subst e; have := hb.keepLt k hk; have := hA.lo; omega
    exact (hne k hkD).trans ((h.base.kept k (.inl hk)).trans (hb.kept k hk))
  · have := h.base.zLt k hk
    omega
  · rcases h.base.zNew k hk with q | q
    · exact .inl q
    · exact .inr fun q' => q (.inl q')
  · obtain ⟨e1, e2, e3⟩ := own_blk h ⟨r, hr, hb2⟩
    exact ⟨e2, fun q => e3 (.inl q), hne b (fun e => e3 (.inr e))⟩
theorem sq_afterM {D : Nat} {w2 : World} (hA : AfterOk (envA N w Z) D w2) (h : SQ (envA N w Z) T O (bodyPost P fn R .ret)) : SQ ((envA N w Z).after D w2) T O (postM P fn R .ret) := by
  intro a w' hs
  obtain ⟨h1, h2, h3⟩ := sat_afterM hA hs
  obtain ⟨_, q⟩ := h _ _ h3
  show LeavesInM Fence.wide 0 P fn a.tmps R a.defers .returning w'
  rw [h1]
  exact ⟨by simp, .inl ⟨D, _, rfl, run_takeDeferred h2, q⟩⟩
theorem ctrRM {f : FuncId} {c : Code} {args : List AV} {ety sz n : Nat} {fr : Nat → Nat → AV} {ρs : List AV} (N : Nat) (hf : P.funcs[f]? = some fn) (hb : fn.body = some c) (hname : (fn.name == "runtime.NumGoroutine") = false) (hN : fn.ntmps = N) (hlen' : Nat.ble args.length N = true)
    (h : ∀ w Z, CQ P (envA N w Z) (postM P fn (RetR w Z ety sz n fr ρs)) (initT 0 (args.map SV.av)) [] c) : CtrR P f args ety sz n fr ρs :=
  ⟨entersM hf hb hname, fun w Z vs hZ hvs => callsIn_wide.1 (callsIn_of_wp_marks (n := 0) hf hb trivial ((h w Z).sq _ w (init_satM hN hlen' hZ hvs)))⟩
end
end Go.Vc
namespace Go.Vc
open Go Go.RowKit
section
variable {P : Program} {E : Env} {T T' : Tab} {O O' : Own} {o : Oper} {d : Option Tmp} {ty : TypeId} {pos : String} {af : Array Edge} {g : Option (Nat × Bool)}
theorem lsq_ent {ops : Array Oper} {Q : Exit → Act → World → Prop} {l : List Oper} (h : Ent T O T' O') (hq : LSQ P E ops Q l T' O') : LSQ P E ops Q l T O := ⟨fun a w hs => hq.sq a w (h E a w hs)⟩
/-- A row that a cell of an own block holds is frozen; the cell then says what is in it. -/
theorem ent_freeze_in (r q off : Nat) {ety sz n : Nat} {f : Nat → Nat → AV} {cs : List SV} (hq : look O q = some (.row ety sz n f)) (hr : look O r = some (.cells cs)) (hc : cs[off]? = some (.osl q)) (hne : Nat.beq r q = false) :
    Ent T O (T.frz q (.sl n sz f)) ((r, .cells (cs.set off (.av (.sl n sz f)))) :: Own.drop q O) := by
  rintro E a w ⟨Z, ν, h⟩
  have hrq : r ≠ q := fun e => by subst e; simp at hne
  have hrow := h.own.each q _ hq
  have h2 := h.freeze hq
  refine ⟨_, ν, h2.defers, h2.tsize, h2.cst, h2.pin, h2.base, ⟨fun k x hx => ?_, fun k k' hkk e1 e2 => ?_⟩, h2.slot⟩
  · by_cases hk : r = k
    · subst hk
      rw [look_cons_eq] at hx
      cases hx
      have hlk : look (Own.drop q O) r = some (.cells cs) := by rw [Own.look_drop, if_neg hrq]; exact hr
      obtain ⟨b, ty, arr, q1, q2, q3, q4, q5, q6⟩ := h2.own.each r _ hlk
      refine ⟨b, ty, arr, q1, q2, q3, q4, by rw [List.length_set]; exact q5, fun i s hi => ?_⟩
      rw [List.getElem?_set] at hi
      by_cases hio : off = i
      · subst hio
        rw [if_pos rfl] at hi
        split at hi
        · cases hi
          obtain ⟨u, hu, hk⟩ := q6 off _ hc
          have hu2 : u = ν q := hk
          refine ⟨u, hu, ?_⟩
          rw [hu2]
          exact sl_of_row hrow (fun _ hz => .inl hz) (fun b hb => .inr hb)
        · cases hi
      · rw [if_neg hio] at hi
        exact q6 i s hi
    · rw [look_cons_ne _ _ hk] at hx
      exact h2.own.each k x hx
  · have key : ∀ k, look ((r, Res.cells (cs.set off (.av (.sl n sz f)))) :: Own.drop q O) k ≠ none → look (Own.drop q O) k ≠ none := fun k hk => by
      by_cases hkr : r = k
      · subst hkr
        rw [Own.look_drop, if_neg hrq, hr]; simp
      · rwa [look_cons_ne _ _ hkr] at hk
    exact h2.own.apart k k' hkk (key k e1) (key k' e2)
/-- Cells of whatever kind, loaded together. -/
theorem g_load_own_aggv {t : TypeId} {x : Operand} {r off k : Nat} {cs : List SV} {f : Nat → AV} [ht : AggTy P t k] (hx : T.ev x = .own r off) (hr : look O r = some (.cells cs)) (hc : (cs.drop off).take k = (List.range k).map fun i => .av (f i)) :
    GV P E ⟨d, .load t x, ty, pos, af, g⟩ T O (.av (.agg k f)) [r] [] :=
  gv_pure [r] fun Z ν a w h hO => by
    obtain ⟨b, hb, hax⟩ := own_ok hx (h x (by simp [Op.operands]))
    obtain ⟨us, hk, hcell, hf⟩ := agg_cells (P := P) (hO r (by simp) _ hr) hb hc
    subst hk
    have hl := run_loadCells_list (P := P) (w := w) ⟨b, off, none⟩ us hcell
    exact ⟨_, by simp [execOp, Instr.loadAt, hax, Instr.sureAddr, loadVar, ht.agg w, ht.size w, hl], us, rfl, rfl, hf⟩
/-- An element of an own row, of whatever kind. -/
theorem g_load_oel_aggv {t : TypeId} {x : Operand} {r n sz ety i : Nat} {f : Nat → Nat → AV} [ht : AggTy P t sz] (hx : T.ev x = .oel r sz i 0) (hr : look O r = some (.row ety sz n f)) (hi : i < n) :
    GV P E ⟨d, .load t x, ty, pos, af, g⟩ T O (.av (.agg sz (f i))) [r] [] :=
  gv_pure [r] fun Z ν a w h hO => by
    have := h x (by simp [Op.operands])
    rw [hx] at this
    obtain ⟨b, m, c, hb, hax⟩ := this
    have hget : ∀ j, j < sz → ∃ u, w.cell? ⟨b, i * sz + j, none⟩ = some u ∧ (f i j).ok Z w u := fun j hj => row_cell (hO r (by simp) _ hr) hb hi hj
    have hl : ((List.range sz).map fun j => (w.cell? ⟨b, i * sz + j, none⟩).getD undef).length = sz := by simp
    have hcs : ∀ j u, ((List.range sz).map fun j => (w.cell? ⟨b, i * sz + j, none⟩).getD undef)[j]? = some u → w.cell? ((⟨b, i * sz + 0, none⟩ : Addr).add j) = some u := by
      intro j u hu
      simp only [List.getElem?_map, Option.map_eq_some_iff] at hu
      obtain ⟨j', hj', rfl⟩ := hu
      obtain ⟨hj, rfl⟩ := List.getElem?_eq_some_iff.1 hj'
      simp only [List.getElem_range, List.length_range] at hj ⊢
      obtain ⟨u, hu, _⟩ := hget j hj
      rw [add_addr, Nat.add_zero, hu]; rfl
    have hrun := run_loadCells_list (P := P) (w := w) ⟨b, i * sz + 0, none⟩ _ hcs
    rw [hl, Nat.add_zero] at hrun
    refine ⟨.agg ((List.range sz).map fun j => (w.cell? ⟨b, i * sz + j, none⟩).getD undef).toArray, ?_, _, rfl, hl, fun j hj => ?_⟩
    · simp [execOp, Instr.loadAt, hax, Instr.sureAddr, loadVar, ht.agg w, ht.size w, hrun]
    · obtain ⟨u, hu, hk⟩ := hget j hj
      exact ⟨u, by simp [hj, hu], hk⟩
end
end Go.Vc
namespace Go.Vc
open Go Go.RowKit
section
variable {P : Program} {E : Env} {T T' : Tab} {O O' : Own}
theorem sq_assM {Q : Exit → Act → World → Prop} (h : Ent T O T' O') : SQ E T O (Exit.then (fun a w => Sat E T' O' a w) Q .normal) := fun a w hs => h E a w hs
theorem sq_rndM (h : Ent T O T' O') : SQ E T O ((fun (e : Exit) a w => e = Exit.normal ∧ Sat E T' O' a w) .normal) := fun a w hs => ⟨rfl, h E a w hs⟩
theorem sq_use {Q : Act → World → Prop} {a : Act} {w : World} (hs : Sat E T O a w) (h : SQ E T O Q) : Q a w := h a w hs
/-- What a row holds, told anew. -/
theorem SatZ.rerowM {Z : Zone} {ν : Vals} {a : Act} {w : World} {r n sz ety : Nat} {f f' : Nat → Nat → AV} (hs : SatZ E Z ν T O a w) (hr : look O r = some (.row ety sz n f)) (hf : ∀ i, i < n → ∀ j, j < sz → ∀ u, (f i j).ok Z w u → (f' i j).ok Z w u) : SatZ E Z ν T ((r, .row ety sz n f') :: O) a w := by
  refine ⟨hs.defers, hs.tsize, hs.cst, hs.pin, hs.base, ⟨fun k x hx => ?_, fun k k' hne h1 h2 => ?_⟩, hs.slot⟩
  · by_cases hk : r = k
    · subst hk
      rw [look_cons_eq] at hx
      cases hx
      rcases hs.own.each r _ hr with h | ⟨b, cap, arr, q1, q2, q3, q4, q5, q6, q7, q8⟩
      · exact .inl h
      · exact .inr ⟨b, cap, arr, q1, q2, q3, q4, q5, q6, q7, fun i hi j hj => let ⟨u, hu, hk⟩ := q8 i hi j hj; ⟨u, hu, hf i hi j hj u hk⟩⟩
    · rw [look_cons_ne _ _ hk] at hx
      exact hs.own.each k x hx
  · have key : ∀ k, look ((r, Res.row ety sz n f') :: O) k ≠ none → look O k ≠ none := fun k hk => by
      by_cases hkr : r = k
      · subst hkr; rw [hr]; simp
      · rwa [look_cons_ne _ _ hkr] at hk
    exact hs.own.apart k k' hne (key k h1) (key k' h2)
end
end Go.Vc
namespace Go.Vc
open Go Go.RowKit
section
variable {P : Program} {E : Env} {T T' : Tab} {O O' : Own} {o : Oper} {d : Option Tmp} {ty : TypeId} {pos : String} {af : Array Edge} {g : Option (Nat × Bool)}
/-- A struct of whatever parts into an element of an own row. -/
theorem g_store_oel_aggv {t : TypeId} {x y : Operand} {r n sz ety i : Nat} {f : Nat → Nat → AV} {h : Nat → AV} [ht : SizeTy P t sz] (hx : T.ev x = .oel r sz i 0) (hy : T.ev y = .av (.agg sz h)) (h1 : ∀ i, i < sz → (h i).one = true) (hr : look O r = some (.row ety sz n f)) (hi : i < n) :
    GV P E ⟨d, .store t x y, ty, pos, af, g⟩ T O (.av .any) [r] [(r, .row ety sz n (rowSet f i 0 ((List.range sz).map h)))] := by
  refine ⟨fun T' O' hT hO => ⟨by intro c; simp, fun Z ν a w hs => ?_⟩⟩
  have ex := ev_ok hs x
  rw [ev_same (o := ⟨d, .store t x y, ty, pos, af, g⟩) hT (by simp [Op.operands]), hx] at ex
  have ey := ev_ok hs y
  rw [ev_same (o := ⟨d, .store t x y, ty, pos, af, g⟩) hT (by simp [Op.operands]), hy] at ey
  obtain ⟨b, m, c, hb, hax⟩ := ex
  obtain ⟨us, hus, hl, hc⟩ := ey
  have hall : All2 (fun s v => AV.ok Z w s v) ((List.range sz).map h) us := by
    rw [List.range_eq_range']
    exact caps_ok sz 0 h us hl (fun i hi => by rw [Nat.zero_add]; exact hc i hi)
  have hone : ∀ v ∈ us, v.oneCell' = true := by
    intro v hv
    obtain ⟨i, hi, rfl⟩ := List.getElem_of_mem hv
    obtain ⟨u, hu, hk⟩ := hc i (by omega)
    rw [List.getElem?_eq_getElem hi] at hu
    cases hu
    exact AV.one_cells (h1 i (by omega)) hk
  obtain ⟨w', hst, hsat⟩ := hs.storeRow (P := P) (j := 0) (ss := (List.range sz).map h) (vs := us) (by rw [hO r (by simp)]; exact hr) hb hi (by simp) hall hone
  unfold Oper.wp
  rw [Nat.add_zero] at hst hax
  have hrun : (execOp a.eval ⟨d, .store t x y, ty, pos, af, g⟩).run P w = .ok .skip w' := by
    simp [execOp, Instr.storeAt, hax, Instr.sureAddr, storeVar, ht.run w, hus, Value.cells, hl, hst]
  rw [hrun]
  exact ⟨Go.undef, Z, ν, rfl, hsat, trivial⟩
def rowAny (f : Nat → Nat → AV) (lo : Nat) : Nat → Nat → AV := fun i j => if lo ≤ i then .any else f i j
/-- clear(s[lo:]), elements of whatever size. -/
theorem g_clearA {t e : TypeId} {x : Operand} {r lo n ety sz : Nat} {f : Nat → Nat → AV} {z : Value} {zs : List Value} [ht : SlTy P t e sz] (hv : ∀ w, (zeroValue e).run P w = .ok z w) (hz : z.cells = zs.toArray) (hzl : zs.length = sz) (hsz : 0 < sz) (h1 : ∀ v ∈ zs, v.oneCell' = true) (hx : T.ev x = .osx r sz lo (n - lo)) (hr : look O r = some (.row ety sz n f)) :
    GV P E ⟨d, .call ⟨.builtin .clear, #[x], #[t]⟩, ty, pos, af, g⟩ T O (.av .any) [r] [(r, .row ety sz n (rowAny f lo))] := by
  refine ⟨fun T' O' hT hO => ⟨by intro c; simp, fun Z ν a w hs => ?_⟩⟩
  have ex := ev_ok hs x
  rw [ev_same (o := ⟨d, .call ⟨.builtin .clear, #[x], #[t]⟩, ty, pos, af, g⟩) hT (by simp [Op.operands, Call.operands])] at ex
  obtain ⟨b, m, c, p, hb, hax, hp⟩ := osx_ok hx ex
  have hr' : look O' r = some (.row ety sz n f) := by rw [hO r (by simp)]; exact hr
  rcases hs.own.each r _ hr' with ⟨e1, _⟩ | ⟨b', cap, arr, e1, e2, e3, e4, e5, e6, e7, e8⟩
  · rw [hb] at e1; simp at e1
  have e1' := e1
  rw [hb] at e1
  simp only [Value.slice.injEq, Option.some.injEq, Addr.mk.injEq, and_true] at e1
  obtain ⟨rfl, rfl, rfl⟩ := e1
  by_cases hle : m ≤ lo
  · have h0 : m - lo = 0 := by omega
    rw [h0] at hax
    refine wp_value (w' := w) (v := .tuple #[]) ?_ ⟨_, Z, ν, rfl, hs.rerowM hr' (fun i hi j hj u hu => by unfold rowAny; rw [if_neg (by omega)]; exact hu), trivial⟩
    cases p <;> simp [execOp, resolve, invoke, builtin, hax, Builtin.clear_, run_underlying ht.und]
  · have hpos : 0 < m - lo := by omega
    rw [hp (.inl hpos)] at hax
    obtain ⟨zl, hzl'⟩ : ∃ zl, zl = (Builtin.zeroCells z.cells (m - lo)).toList := ⟨_, rfl⟩
    have hzlen : zl.length = (m - lo) * sz := by rw [hzl', hz]; simp [Builtin.zeroCells, hzl]
    have hzone : ∀ v ∈ zl, v.oneCell' = true := by
      intro v hv'
      rw [hzl', hz] at hv'
      simp only [Builtin.zeroCells, Array.toList_map, List.mem_map, List.size_toArray] at hv'
      obtain ⟨i, _, rfl⟩ := hv'
      have hlt : i % zs.length < zs.length := Nat.mod_lt _ (by omega)
      rw [getElem!_pos zs.toArray (i % zs.length) (by simpa using hlt)]
      exact h1 _ (by simp)
    have hmul : lo * sz + (m - lo) * sz = m * sz := by rw [← Nat.add_mul]; congr 1; omega
    have hmc : m * sz ≤ arr.size := by rw [e7]; exact Nat.mul_le_mul_right _ e5
    have hst := run_storeCells_at P b (lo * sz) ety zl 0 arr w e4 (by omega) hzone
    simp only [Nat.add_zero] at hst
    refine wp_value (w' := _) (v := .tuple #[]) ?_ ⟨_, Z, ν, rfl, hs.write hr' (b := b) (by rw [hb]; rfl) (w' := w.setRow b (arr.toList.take (lo * sz) ++ zl ++ arr.toList.drop (lo * sz + zl.length)).toArray) rfl rfl rfl (by simp) (fun k hk => setRow_other w b k _ hk) (fun hsv => ?_), trivial⟩
    · obtain ⟨q, hq⟩ : ∃ q, m - lo = q + 1 := ⟨m - lo - 1, by omega⟩
      rw [hq] at hax hzl'
      simp only [execOp, resolve, invoke, builtin, Sem.run_bind, Sem.run_pure, Result.andThen_ok, List.map_toArray, List.map_cons, List.map_nil, hax]
      simp [Builtin.clear_, run_underlying ht.und, hv, ← hzl', hst]
    · refine .inr ⟨b, c, _, e1', e2, e3, setRow_heap w b arr _ ety _ e4, e5, e6, ?_, fun i hi j hj => ?_⟩
      · rw [← e7]; simp; omega
      · obtain ⟨u0, hu0, hk0⟩ := e8 i hi j hj
        have hlt0 : i * sz + j < arr.size := (Array.getElem?_eq_some_iff.1 hu0).1
        by_cases hil : lo ≤ i
        · have hlen : i * sz + j < (arr.toList.take (lo * sz) ++ zl ++ arr.toList.drop (lo * sz + zl.length)).toArray.size := by simp; omega
          exact ⟨_, Array.getElem?_eq_getElem hlen, by unfold rowAny; rw [if_pos hil]; trivial⟩
        · refine ⟨u0, ?_, by unfold rowAny; rw [if_neg hil]; exact hsv (.av _) _ hk0⟩
          have : (i + 1) * sz ≤ lo * sz := Nat.mul_le_mul_right _ (by omega)
          rw [Nat.add_mul, Nat.one_mul] at this
          simp only [List.getElem?_toArray, List.append_assoc]
          rw [List.getElem?_append_left (by simp; omega), List.getElem?_take_of_lt (by omega)]
          simpa using hu0
end
end Go.Vc
namespace Go.Vc
open Go Go.RowKit
section
variable {P : Program} {E : Env} {T : Tab} {O : Own} {d : Option Tmp} {ty : TypeId} {pos : String} {af : Array Edge} {g : Option (Nat × Bool)}
/-- a[:] of an array that stands. -/
theorem g_slice_arr {t e : TypeId} {x : Operand} {n : Nat} {f : Nat → AV} [ht : ArrTy P t n e 1] (hx : T.ev x = .av (.ptr n f)) (hn : 0 < n) (hm : n ≤ maxLen) :
    GV P E ⟨d, .slice t x none none none, ty, pos, af, g⟩ T O (.av (.sl n 1 (fun i _ => f i))) [] [] :=
  gv_pure [] fun Z ν a w hh _ => by
    obtain ⟨b, o, he, hz, hb, hc⟩ := ptr_ok hx (hh x (by simp [Op.operands]))
    have hrun : (Instr.sliceAt t (.pointer (some ⟨b, o, none⟩)) none none none).run P w = .ok (.slice (some ⟨b, o, none⟩) n n) w := by
      have hne : n ≠ 0 := by omega
      simp [Instr.sliceAt, run_underlying ht.und, Instr.sliceBounds, ht.size w, add_addr, asAddr, Instr.sureAddr]
    refine ⟨.slice (some ⟨b, o, none⟩) n n, by simp [execOp, he, hrun], some ⟨b, o, none⟩, n, rfl, Nat.le_refl _, hm, fun _ => ⟨b, o, rfl, fun _ => hz hn, hb, fun i hi j hj => ?_⟩⟩
    obtain ⟨u, hu, hk⟩ := hc i hi
    obtain rfl : j = 0 := by omega
    exact ⟨u, by simpa using hu, hk⟩
/-- What a pointer leads to, told anew. -/
theorem ent_ptr {n : Nat} {f f' : Nat → AV} (k : Nat) (hT : T.get k = .av (.ptr n f)) (hf : ∀ i, i < n → f i = f' i) : Ent T O ((k, .av (.ptr n f')) :: T) O := by
  rintro E a w ⟨Z, ν, h⟩
  refine ⟨Z, ν, h.defers, h.tsize, h.cst, h.pin, h.base, h.own, fun q => ?_⟩
  by_cases hq : k = q
  · subst hq
    rw [Tab.get_cons_eq]
    have hs := h.slot k
    rw [hT] at hs
    obtain ⟨b, o, e1, e2, e3, e4⟩ := hs
    exact ⟨b, o, e1, e2, e3, fun i hi => let ⟨u, hu, hk⟩ := e4 i hi; ⟨u, hu, by rw [← hf i hi]; exact hk⟩⟩
  · rw [Tab.get_cons_ne _ _ hq]
    exact h.slot q
end
end Go.Vc
namespace Go.Vc
open Go Go.RowKit
section
variable {P : Program} {E : Env} {T : Tab} {O : Own} {d : Option Tmp} {ty : TypeId} {pos : String} {af : Array Edge} {g : Option (Nat × Bool)}
/-- A row of one constant. -/
theorem v_bs1 {t e : TypeId} (f : Nat → Nat → AV) (r : Nat) {u : Value} [ht : SlTy P t e 1] (hb : ∀ w, (Instr.buildSlice t 1 #[(0, u)]).run P w = .ok (.slice (some ⟨w.heap.size, 0, none⟩) 1 1) (w.alloc (.cells #[u] e))) (hf : ∀ Z w, (f 0 0).ok Z w u) (hp : Nat.blt r 1000 = true := by first | rfl | assumption) :
    VStep P E ⟨d, .buildSlice t 1 #[(0, .const u)], ty, pos, af, g⟩ T O (T.kill r) ((r, .row e 1 1 f) :: Own.kill r O) (.osl r) := by
  refine ⟨by intro c; simp, fun Z ν a w hs => ?_⟩
  refine wp_value (w' := w.alloc (.cells #[u] e)) (v := .slice (some ⟨w.heap.size, 0, none⟩) 1 1) (by simp [execOp, Act.eval, hb])
    ⟨_, Z, updV ν r (.slice (some ⟨w.heap.size, 0, none⟩) 1 1), rfl, hs.newRes r hp _ _ _ rfl (fun _ hk hnz => .inr ⟨w.heap.size, 1, _, rfl, hk, hnz, heap_alloc_new _ _, Nat.le_refl _, by decide, by simp, fun i hi j hj => ?_⟩), (if_pos rfl : updV ν r _ r = _).symm⟩
  obtain rfl : i = 0 := by omega
  obtain rfl : j = 0 := by omega
  exact ⟨u, by simp, hf _ _⟩
theorem f_bs1 {t e : TypeId} (f : Nat → Nat → AV) (r : Nat) {u : Value} [ht : SlTy P t e 1] (hb : ∀ w, (Instr.buildSlice t 1 #[(0, u)]).run P w = .ok (.slice (some ⟨w.heap.size, 0, none⟩) 1 1) (w.alloc (.cells #[u] e))) (hu : ∀ Z w, (f 0 0).ok Z w u) (hf : freshB r T O = true) (hp : Nat.blt r 1000 = true := by first | rfl | assumption) :
    VStep P E ⟨d, .buildSlice t 1 #[(0, .const u)], ty, pos, af, g⟩ T O T ((r, .row e 1 1 f) :: O) (.osl r) := (v_bs1 f r hb hu hp).fresh hf
/-- a[:] of an array of the call's own: it is a row from now on. -/
theorem lsq_slice_box {N : Nat} {W : World} {Z : Zone} {ops : Array Oper} {Q : Exit → Act → World → Prop} {l : List Oper} {t e : TypeId} {x : Operand} {q r n : Nat} {cs : List SV} {f : Nat → AV} [ht : ArrTy P t n e 1] (hx : T.ev x = .own r 0) (hr : look O r = some (.cells cs)) (hcs : cs = (List.range n).map fun i => .av (f i)) (hm : n ≤ maxLen) (hd : (envA N W Z).wr q = true)
    (h : ∀ ety, LSQ P (envA N W Z) ops Q l ((q, .osl r) :: T.kill r) ((r, .row ety 1 n (fun i _ => f i)) :: Own.kill r O)) (hp : Nat.blt r 1000 = true := by first | rfl | assumption) :
    LSQ P (envA N W Z) ops Q (⟨some q, .slice t x none none none, ty, pos, af, none⟩ :: l) T O := by
  refine ⟨fun a w hsat => ?_⟩
  obtain ⟨Z1, ν, hs⟩ := hsat
  obtain ⟨b, ety, arr, h1, h2, h3, h4, h5, h6⟩ := hs.own.each r _ hr
  have hvx := ev_ok hs x
  rw [hx] at hvx
  obtain ⟨b', hb', hax⟩ := hvx
  rw [h1] at hb'
  simp only [Value.pointer.injEq, Option.some.injEq, Addr.mk.injEq, and_true] at hb'
  subst hb'
  have hl : cs.length = n := by rw [hcs]; simp
  have hgr : w.grownBy w (blkOf (ν r)) := ⟨rfl, rfl, rfl, Nat.le_refl _, fun _ _ _ => rfl⟩
  have hsat2 := hs.reRow hr hp (.slice (some ⟨b, 0, none⟩) n n) (.row ety 1 n (fun i _ => f i)) hgr (fun b' hb => .inl (by rw [h1]; exact hb)) (fun hav => .inr ⟨b, n, arr, rfl, h2, h3, h4, Nat.le_refl _, hm, by omega, fun i hi j hj => by
    obtain rfl : j = 0 := by omega
    obtain ⟨u, hu, hk⟩ := h6 i (.av (f i)) (by rw [hcs]; simp [hi])
    exact ⟨u, by simpa using hu, hk⟩⟩)
  refine wpListIn_plain rfl fun K hK => ?_
  refine ⟨fun _ _ => trivial, ?_⟩
  rw [show (fc (envA N W Z).round).round = none from rfl, Oper.semAt_eq none a.eval _ (by intro c; simp)]
  have hrun : (execOp a.eval ⟨some q, .slice t x none none none, ty, pos, af, none⟩).run P w = .ok (.value (.slice (some ⟨b, 0, none⟩) n n)) w := by
    simp [execOp, Instr.sliceAt, hax, run_underlying ht.und, Instr.sliceBounds, ht.size w, add_addr, Instr.sureAddr]
  rw [hrun]
  exact hK _ _ ((h ety).sq _ _ ⟨Z1, _, hsat2.put (some q) _ _ hd (if_pos rfl).symm⟩)
end
end Go.Vc
namespace Go.Vc
open Go
variable {P : Program} {E : Env} {T T' : Tab} {O O' : Own}
theorem cq_ent {Q : Exit → Act → World → Prop} {c : Code} (h : Ent T O T' O') (hq : CQ P E Q T' O' c) : CQ P E Q T O c := ⟨fun a w hs => hq.sq a w (h E a w hs)⟩
end Go.Vc
namespace Go.Vc
open Go
/-- What the one says, the other says too. -/
def ALe (τ τ' : AV) : Prop := ∀ Z w v, τ.ok Z w v → τ'.ok Z w v
theorem ALe.refl (τ : AV) : ALe τ τ := fun _ _ _ h => h
theorem ALe.nil {sz : Nat} {f : Nat → Nat → AV} : ALe (.val (.slice none 0 0)) (.sl 0 sz f) := fun Z w v h => by
  have h : v = .slice none 0 0 := h
  subst h
  exact ⟨none, 0, rfl, Nat.le_refl _, Nat.zero_le _, fun hn => absurd hn (Nat.lt_irrefl _)⟩
theorem ALe.sl {n sz : Nat} {f f' : Nat → Nat → AV} (h : ∀ i, i < n → ∀ j, j < sz → ALe (f i j) (f' i j)) : ALe (.sl n sz f) (.sl n sz f') := by
  rintro Z w v ⟨a, c, h1, h2, h3, h4⟩
  refine ⟨a, c, h1, h2, h3, fun hn => ?_⟩
  obtain ⟨b, o, e1, e2, e3, e4⟩ := h4 hn
  exact ⟨b, o, e1, e2, e3, fun i hi j hj => let ⟨u, hu, hk⟩ := e4 i hi j hj; ⟨u, hu, h i hi j hj _ _ _ hk⟩⟩
theorem ALe.agg {n : Nat} {f f' : Nat → AV} (h : ∀ i, i < n → ALe (f i) (f' i)) : ALe (.agg n f) (.agg n f') := by
  rintro Z w v ⟨cs, h1, h2, h4⟩
  exact ⟨cs, h1, h2, fun i hi => let ⟨u, hu, hk⟩ := h4 i hi; ⟨u, hu, h i hi _ _ _ hk⟩⟩
theorem ALe.getD : ∀ {τs τs' : List AV}, All2 ALe τs τs' → ∀ i, ALe (τs.getD i .any) (τs'.getD i .any)
  | [], [], _, _ => .refl _
  | [], _ :: _, h, _ => h.elim
  | _ :: _, [], h, _ => h.elim
  | _ :: _, _ :: _, h, 0 => h.1
  | _ :: _, _ :: _, h, i + 1 => by simpa using ALe.getD h.2 i
theorem ALe.tup {τs τs' : List AV} (h : All2 ALe τs τs') : ALe (tupOf τs) (tupOf τs') := by
  rintro Z w v ⟨cs, h1, h2, h4⟩
  have hl := All2.len h
  exact ⟨cs, h1, by rw [h2, hl], fun i hi => let ⟨u, hu, hk⟩ := h4 i (by rw [hl]; exact hi); ⟨u, hu, ALe.getD h i _ _ _ hk⟩⟩
theorem CtrA.to {P : Program} {f : FuncId} {args : List AV} {τ τ' : AV} (h : CtrA P f args τ) (hle : ALe τ τ') : CtrA P f args τ' :=
  ⟨h.enters, fun w Z vs hZ hvs => (h.calls w Z vs hZ hvs).mono fun _ _ ⟨v, Z', e1, e2, e3, e4, e5, e6⟩ => ⟨v, Z', e1, e2, e3, e4, e5, hle _ _ _ e6⟩⟩
theorem All2.ale {Z : Zone} {w : World} : ∀ {a b : List AV} {vs : List Value}, All2 ALe a b → All2 (fun τ v => AV.ok Z w τ v) a vs → All2 (fun τ v => AV.ok Z w τ v) b vs
  | [], [], [], _, _ => trivial
  | _ :: _, _ :: _, _ :: _, h, hv => ⟨h.1 _ _ _ hv.1, All2.ale h.2 hv.2⟩
  | [], _ :: _, _, h, _ => h.elim
  | _ :: _, [], _, h, _ => h.elim
  | [], [], _ :: _, _, hv => hv.elim
  | _ :: _, _ :: _, [], _, hv => hv.elim
theorem CtrA.of {P : Program} {f : FuncId} {args args' : List AV} {τ : AV} (h : CtrA P f args τ) (hle : All2 ALe args' args) : CtrA P f args' τ :=
  ⟨h.enters, fun w Z vs hZ hvs => h.calls w Z vs hZ (All2.ale hle hvs)⟩
variable {T : Tab} {O : Own}
end Go.Vc
