/- A part of the proof. -/
import Derived.Sort.Grow
import Derived.Test.YtfggdokihnopeaaGreatDoorCap
set_option linter.unusedVariables false
set_option linter.unusedSimpArgs false
namespace Go.Vdr
open Go
def SD (d : Nat) : Stepped → Prop
 |.next m => d ≤ m.world.drawn
 |.ended _ _ => True
theorem SD.le {c d : Nat} (h : c ≤ d) : ∀ {s : Stepped}, SD d s → SD c s
 |.next _, k => Nat.le_trans h k
 |.ended _ _, _ => True.intro
theorem X0J {rest : Rest} {cases : Array CommCase} {w w' : World} (h : waitingAt rest cases w = some w') : w.drawn ≤ w'.drawn := by
 unfold waitingAt at h
 split at h
 ·split at h
  ·cases h; exact Nat.le_refl _
  ·cases h
 ·cases h; exact Nat.le_refl _
theorem K0Q {c : Prop} [Decidable c] {d : Nat} {a b : Stepped × Array MemOp} (h1 : c → SD d a.1) (h2 : ¬ c → SD d b.1) : SD d (if c then a else b).1 := by
 split
 ·exact h1 (by assumption)
 ·exact h2 (by assumption)
theorem z1T {c : Prop} [Decidable c] {d : Nat} {a b : Stepped} (h1 : c → SD d a) (h2 : ¬ c → SD d b) : SD d (if c then a else b) := by
 split
 ·exact h1 (by assumption)
 ·exact h2 (by assumption)
theorem Y0T {d : Nat} {fr : Frame} {s : String} {w w' : World} {g : Goroutine} {es : Array Event} (h : d ≤ w.drawn) (h2 : endThrow fr s w = .go g w' es) : d ≤ w'.drawn := by
 have h3 := v0K fr s w
 rw [h2] at h3
 exact Nat.le_trans h h3
theorem Q0g (p : Program) (rest : Rest) (gs : Array Goroutine) (i : Nat) (g : Goroutine) (cases : Array CommCase) (blocking : Bool) (shape : CommShape) (w : World) : SD w.drawn (communicate p rest gs i g cases blocking shape w).1 := by
 unfold communicate
 dsimp only
 refine K0Q (fun _ => True.intro) (fun _ => ?_)
 refine K0Q (fun _ => ?_) (fun _ => ?_)
 ·refine K0Q (fun _ => ?_) (fun _ => Nat.le_refl _)
  split
  ·rename_i h; exact X0J h
  ·exact True.intro
 ·split
  ·exact True.intro
  ·rename_i h
   have hw := x0i h
   refine SD.le hw ?_
   clear h
   split
   ·split
    ·rename_i h; exact Q1o h
    ·exact True.intro
   ·exact Nat.le_refl _
   ·exact Nat.le_refl _
   ·split
    ·exact Nat.le_refl _
    ·split
     ·rename_i h; have h2 := x0i h; exact h2
     ·exact True.intro
   ·exact Nat.le_refl _
   ·exact Nat.le_refl _
   ·exact True.intro
theorem Y0m (p : Program) (gs : Array Goroutine) (rest : Rest) (w : World) : SD w.drawn (look p gs rest w) := by
 unfold look
 split
 ·dsimp only
  split
  ·exact True.intro
  ·split
   ·exact True.intro
   ·split
    ·rename_i h; have h2 := x0i (w := w) h; exact h2
    ·exact True.intro
    ·exact True.intro
 ·exact True.intro
theorem w1W (w : World) (c : Nat) : (drain w c).2.drawn = w.drawn := by
 unfold drain; split <;> rfl
theorem X0p (m : Machine) (k : Nat) (t : Timer) (a b : Nat) : (retime m k t a b).2.world.drawn = m.world.drawn := by
 unfold retime
 dsimp only
 split
 ·exact w1W _ _
 ·rfl
theorem Z0R {m : Machine} {var : Addr} {f : Nat → Timer → Value × Machine} {v : Value} {m' : Machine} (hf : ∀ k t, (f k t).2.world.drawn = m.world.drawn) (h : timerOp.named m var f = .ok (v, m')) : m'.world.drawn = m.world.drawn := by
 unfold timerOp.named at h
 split at h
 ·simp only [Except.ok.injEq] at h
  have := hf ‹Nat› (m.rest.timers.getD ‹Nat› default)
  rw [h] at this
  exact this
 ·cases h
theorem q1C {m m' : Machine} {var : Addr} (h : timerOp.opened m var = some m') : m'.world.drawn = m.world.drawn := by
 unfold timerOp.opened at h
 split at h
 ·split at h
  ·cases h; rfl
  ·cases h
 ·cases h; rfl
theorem K0D {m m' : Machine} {op : TimerOp} {v : Value} (h : timerOp m op = .ok (v, m')) : m'.world.drawn = m.world.drawn := by
 unfold timerOp at h
 split at h
 ·split at h
  ·simp only [Except.ok.injEq, Prod.mk.injEq] at h
   rw [← h.2]; rfl
  ·split at h
   ·split at h
    ·cases h
    ·simp only [Except.ok.injEq, Prod.mk.injEq] at h
     rw [← h.2]
   ·cases h
 ·exact Z0R (fun k t => X0p _ _ _ _ _) h
 ·split at h
  ·rename_i h2
   have e := q1C h2
   exact Z0R (fun k t => (X0p _ _ _ _ _).trans e) h
  ·cases h
 ·simp only [Except.ok.injEq, Prod.mk.injEq] at h
  rw [← h.2]; rfl
theorem X0u (p : Program) (m : Machine) (i : Nat) (b : Bool) : SD m.world.drawn (Go.runT p m i b).1 := by
 unfold Go.runT
 dsimp only
 have hg := x1R p (i == 0) b (m.gs.swapAt! i { (default : Goroutine) with status := .finished }).1 m.world
 split <;> (rename_i h; rw [h] at hg) <;> first
  |exact True.intro
  |exact hg
  |exact SD.le hg (Q0g _ _ _ _ _ _ _ _ _)
  |exact SD.le hg (Y0m _ _ _ _)
  |skip
 ·exact z1T (fun _ => True.intro) (fun _ => hg)
 ·dsimp only
  split
  ·exact hg
  ·split
   ·rename_i h2
    exact Y0T hg h2
   ·exact True.intro
  ·exact True.intro
 ·dsimp only
  split
  ·rename_i h2
   have h3 := K0D h2
   show m.world.drawn ≤ _
   rw [h3]; exact hg
  ·split
   ·rename_i h2
    exact Y0T hg h2
   ·exact True.intro
  ·exact True.intro
  ·exact True.intro
theorem x1K (p : Program) (m : Machine) (k : Nat) : SD m.world.drawn (serve p m k) := by
 unfold serve
 split
 ·exact True.intro
 ·exact Nat.le_refl _
 ·dsimp only
  split
  ·exact True.intro
  ·exact Nat.le_refl _
def MD (d : Nat) : Move → Prop
 |.goroutine m _ => d ≤ m.world.drawn
 |.machine s _ => SD d s
theorem MD.le {c d : Nat} (h : c ≤ d) : ∀ {s : Move}, MD d s → MD c s
 |.goroutine _ _, k => Nat.le_trans h k
 |.machine _ _, k => SD.le h k
theorem Y0u (p : Program) (m : Machine) (rs : List Nat) : MD m.world.drawn (match (choose (.sched rs.length)).run p m.world with
   |.halt _ w => .machine (.ended (.stuck "sched" "") w)
   |.ok k world =>
    if rs.length ≤ 1 then .goroutine { m with world } (rs.getD k 0) else
    match (choose (.extern "sched.slice" 65536)).run p world with
    |.halt _ w => .machine (.ended (.stuck "sched.slice" "") w)
    |.ok n world => .goroutine { m with world, rest := { m.rest with slice := if n = 0 then none else some (rs.getD k 0, n) } } (rs.getD k 0)) := by
 split
 ·exact True.intro
 ·rename_i h
  have h1 := x0i h
  split
  ·exact h1
  ·split
   ·exact True.intro
   ·rename_i h
    have h2 := x0i h
    exact Nat.le_trans h1 h2
theorem V0a (p : Program) (m : Machine) : MD m.world.drawn (askOn p m) := by
 unfold askOn
 dsimp only
 split
 ·exact True.intro
 ·rename_i h
  have h1 := x0i h
  split
  ·exact SD.le h1 (x1K p _ _)
  ·split
   ·split
    ·exact h1
    ·split
     ·exact h1
     ·split <;> exact True.intro
   ·split
    ·exact MD.le h1 (Y0u p { m with world := _ } _)
    ·split
     ·exact True.intro
     ·rename_i h
      have h2 := x0i h
      exact MD.le (Nat.le_trans h1 h2) (Y0u p { m with world := _ } _)
     ·rename_i h
      have h2 := x0i h
      exact Nat.le_trans h1 h2
     ·rename_i h
      have h2 := x0i h
      exact MD.le (Nat.le_trans h1 h2) (Y0u p (Machine.advanceTo { m with world := _ } _) _)
theorem K0Z (p : Program) (m : Machine) : MD m.world.drawn (ask p m) := by
 unfold Go.ask
 split
 ·split
  ·exact True.intro
  ·rename_i h
   have h1 := x0i h
   split
   ·rename_i h2
    have h3 := Y0m p m.gs m.rest ‹World›
    rw [h2] at h3
    exact MD.le (Nat.le_trans h1 h3) (V0a p _)
   ·exact SD.le h1 (Y0m p _ _ _)
  ·rename_i h
   have h1 := x0i h
   exact MD.le h1 (V0a p { m with world := _ })
 ·exact V0a p m
theorem J1Y (p : Program) (m : Machine) : MD m.world.drawn (move p m) := by
 unfold move
 split
 ·split
  ·exact Nat.le_refl _
  ·exact True.intro
 ·split
  ·split
   ·exact Nat.le_refl _
   ·exact K0Z p { m with rest := _ }
  ·exact K0Z p m
theorem Q1E {p : Program} {m m' : Machine} (h : step p m = .next m') : m.world.drawn ≤ m'.world.drawn := by
 have h1 : SD m.world.drawn (step p m) := by
  unfold step stepT
  have hm := J1Y p m
  split
  ·rename_i h2
   rw [h2] at hm
   exact SD.le hm (X0u p _ _ _)
  ·rename_i h2
   rw [h2] at hm
   exact hm
 rw [h] at h1
 exact h1
theorem x1S {p : Program} {m m' : Machine} (h : Steps p m m') : m.world.drawn ≤ m'.world.drawn := by
 obtain ⟨n, hn⟩ := h
 induction n generalizing m with
 |zero => simp [runN] at hn; rw [hn]; exact Nat.le_refl _
 |succ n ih =>
  simp only [runN] at hn
  cases hs : step p m with
  |next m1 => rw [hs] at hn; exact Nat.le_trans (Q1E hs) (ih hn)
  |ended o w => rw [hs] at hn; simp at hn
theorem calls_dr {P : Program} {f : FuncId} {args : Array Value} {w : World} {R : Ending → World → Prop} (h : Calls P f args w R) (hR : ∀ e w', R e w' → e ≠ .outgrown) : Calls P f args w (fun e w' => R e w' ∧ w.drawn ≤ w'.drawn) := by
 intro cs
 obtain ⟨e, w', fr, h1, h2, h3, h4⟩ := h cs
 refine ⟨e, w', fr, ⟨h1, ?_⟩, h2, h3, h4⟩
 have : Steps P (lone (Frame.enter P f args .normal) cs w) (lone fr cs w') := by
  cases e with
  |returned v => exact h2
  |panicked c => exact h2
  |outgrown => exact absurd rfl (hR _ _ h1)
 exact x1S this
end Go.Vdr
namespace Go.Proofs.YtfggdokihnopeaaGreatDoor.H
open Go Go.Vc Go.RowKit Go.Sort Go.Na
set_option maxHeartbeats 1000000
theorem x0j {q : Rat} : rsg q < 0 ↔ q < 0 := by
 have h := @Rat.num_nonneg q
 unfold rsg
 split
 ·grind
 ·split <;> grind
theorem v0g {q : Rat} : rsg q = 0 ↔ q = 0 := by
 unfold rsg
 rw [← Rat.num_eq_zero]
 split
 ·simp [*]
 ·split <;> simp [*]
structure Raw where
 k : Int
 A : Rat
 B : Rat
 C : Rat
 p : Option Addr
 n : Nat
 c : Nat
 hA : LR 400 A
 hB : LR 400 B
 hC : LR 400 C
theorem Y1p : LR 400 0 := ⟨.small (by decide) (by decide), .small (by decide) (by decide)⟩
instance : Inhabited Raw := ⟨⟨0, 0, 0, 0, none, 0, 0, Y1p, Y1p, Y1p⟩⟩
def Q0t (x : Raw) : List Value := [.int .i64 x.k, .string (bs (rtx x.A)), .string (bs (rtx x.B)), .string (bs (rtx x.C)), .slice x.p x.n x.c]
def cfR (x y : Raw) : Int := j1p (rsg (x.A - y.A)) (rsg (x.B - y.B)) (rsg (x.C - y.C))
def lt3 (A B C A' B' C' : Rat) : Prop := A < A' ∨ A = A' ∧ (B < B' ∨ B = B' ∧ C < C')
instance (A B C A' B' C' : Rat) : Decidable (lt3 A B C A' B' C') := by unfold lt3; infer_instance
theorem J1l (A B C A' B' C' : Rat) : j1p (rsg (A - A')) (rsg (B - B')) (rsg (C - C')) < 0 ↔ lt3 A B C A' B' C' := by
 have a1 : rsg (A - A') < 0 ↔ A < A' := by rw [x0j]; grind
 have a2 : rsg (A - A') = 0 ↔ A = A' := by rw [v0g]; grind
 have b1 : rsg (B - B') < 0 ↔ B < B' := by rw [x0j]; grind
 have b2 : rsg (B - B') = 0 ↔ B = B' := by rw [v0g]; grind
 have c1 : rsg (C - C') < 0 ↔ C < C' := by rw [x0j]; grind
 have c2 : rsg (C - C') = 0 ↔ C = C' := by rw [v0g]; grind
 generalize rsg (A - A') = a at *
 generalize rsg (B - B') = b at *
 generalize rsg (C - C') = c at *
 unfold j1p lt3
 by_cases ha : a = 0
 ·rw [if_neg (fun h => h ha)]
  by_cases hb : b = 0
  ·rw [if_neg (fun h => h hb)]
   by_cases hc : c = 0
   ·rw [if_neg (fun h => h hc)]
    have := a2.1 ha; have := b2.1 hb; have := c2.1 hc
    subst_vars
    grind
   ·rw [if_pos hc]
    have := a2.1 ha; have := b2.1 hb
    grind
  ·rw [if_pos hb]
   have := a2.1 ha
   grind
 ·rw [if_pos ha]
  grind
theorem J1k (A B C A' B' C' : Rat) : j1p (rsg (A - A')) (rsg (B - B')) (rsg (C - C')) = 0 ↔ A = A' ∧ B = B' ∧ C = C' := by
 have a2 : rsg (A - A') = 0 ↔ A = A' := by rw [v0g]; grind
 have b2 : rsg (B - B') = 0 ↔ B = B' := by rw [v0g]; grind
 have c2 : rsg (C - C') = 0 ↔ C = C' := by rw [v0g]; grind
 rw [← a2, ← b2, ← c2]
 unfold j1p
 split
 ·omega
 ·split
  ·omega
  ·split <;> omega
theorem ltR (x y : Raw) : ltOf cfR x y = decide (lt3 x.A x.B x.C y.A y.B y.C) := by
 unfold ltOf cfR
 rw [Bool.eq_iff_iff, decide_eq_true_eq, decide_eq_true_eq]
 exact J1l _ _ _ _ _ _
theorem k1l : SWO (ltOf cfR) := ⟨fun x => by rw [ltR]; simp [lt3], fun x y z h1 h2 => by rw [ltR, decide_eq_true_eq] at *; unfold lt3 at *; grind, fun x y z h1 h2 => by rw [ltR, decide_eq_false_iff_not] at *; unfold lt3 at *; grind⟩
theorem J1N {W w' : World} (h : Below W.heap.size W w') (hd : W.drawn ≤ w'.drawn) : ∃ q os', w' = grow (W.drewN q) os' := by
 refine ⟨w'.drawn - W.drawn, w'.heap.extract W.heap.size w'.heap.size, ?_⟩
 obtain ⟨hp, tp, dr, os, out⟩ := w'
 obtain ⟨h1, h2, h3, h4, h5⟩ := h
 dsimp only at *
 subst h1 h2 h3
 simp only [grow, World.drewN, World.mk.injEq]
 refine ⟨?_, trivial, by omega, trivial, trivial⟩
 apply Array.ext_getElem?
 intro k
 by_cases hk : k < W.heap.size
 ·rw [h5 k hk, Array.getElem?_append_left hk]
 ·rw [Array.getElem?_append_right (by omega), Array.getElem?_extract]
  by_cases h6 : k < hp.size
  ·rw [if_pos (by simp; omega), show W.heap.size + (k - W.heap.size) = k by omega]
  ·rw [if_neg (by simp; omega), Array.getElem?_eq_none (by omega)]
theorem w1M (x y : Raw) {W : World} {Z : j0q} (hZ : ZOk Z W) : Calls Tryz.prog 131 #[.agg (Q0t x).toArray, .agg (Q0t y).toArray] W fun e w' => e = .returned (.int .i64 (cfR x y)) ∧ ∃ q os', w' = grow (W.drewN q) os' := by
 have hc := y0f x.k y.k x.A x.B x.C y.A y.B y.C (.val (.slice x.p x.n x.c)) (.val (.slice y.p y.n y.c)) x.hA x.hB x.hC y.hA y.hB y.hC
 have hv : ∀ x : Raw, (pA x.k (rtx x.A) (rtx x.B) (rtx x.C) (.val (.slice x.p x.n x.c))).ok Z W (.agg (Q0t x).toArray) := by
  intro x
  refine ⟨Q0t x, rfl, rfl, fun i hi => ?_⟩
  rcases (by omega : i = 0 ∨ i = 1 ∨ i = 2 ∨ i = 3 ∨ i = 4) with rfl | rfl | rfl | rfl | rfl <;> exact ⟨_, rfl, rfl⟩
 have h := Go.Vdr.calls_dr (hc.calls W Z [.agg (Q0t x).toArray, .agg (Q0t y).toArray] hZ ⟨hv x, hv y, trivial⟩) (fun e w' ⟨v, Z', he, _⟩ => by rw [he]; simp)
 refine h.mono ?_
 rintro e w' ⟨⟨v, Z', rfl, hb, _, _, _, hr⟩, hd⟩
 exact ⟨by rw [show v = .int .i64 (cfR x y) from hr], J1N hb hd⟩
def leP (a b : Pl) : Bool := !decide (lt3 b.A b.B b.C a.A a.B a.C)
def k0r (L : List Pl) : List Pl := L.mergeSort leP
theorem y1R : ∀ a b c : Pl, leP a b = true → leP b c = true → leP a c = true := fun a b c h1 h2 => by
 unfold leP at *
 rw [Bool.not_eq_true', decide_eq_false_iff_not] at *
 unfold lt3 at *
 grind
theorem y1Q : ∀ a b : Pl, (leP a b || leP b a) = true := fun a b => by
 unfold leP
 rw [Bool.or_eq_true, Bool.not_eq_true', Bool.not_eq_true', decide_eq_false_iff_not, decide_eq_false_iff_not]
 unfold lt3
 grind
theorem Q1D {L L' : List Pl} (hu : ∀ f ∈ L, ∀ g ∈ L, eqP f g → f = g) (hp : L'.Perm L) (hs : L'.Pairwise (fun a b => leP a b = true)) : L' = k0r L := by
 refine List.Perm.eq_of_pairwise (le := fun a b => leP a b = true) (fun a b ha hb h1 h2 => ?_) hs (List.pairwise_mergeSort y1R y1Q L) (hp.trans (List.mergeSort_perm L _).symm)
 refine hu a (hp.mem_iff.1 ha) b ((List.mergeSort_perm L _).mem_iff.1 hb) ?_
 unfold leP at h1 h2
 rw [Bool.not_eq_true', decide_eq_false_iff_not] at h1 h2
 unfold lt3 at h1 h2
 unfold eqP
 grind
theorem K0T {α β : Type} {R : α → β → Prop} {xs ys : List β} (h : xs.Perm ys) : ∀ {L : List α}, All2 R L xs → ∃ L', L'.Perm L ∧ All2 R L' ys := by
 induction h with
 |nil => intro L hL; exact ⟨L, List.Perm.refl _, hL⟩
 |cons x _ ih =>
  intro L hL
  match L, hL with
  |a :: L, hL =>
   obtain ⟨L', h1, h2⟩ := ih hL.2
   exact ⟨a :: L', h1.cons a, hL.1, h2⟩
 |swap x y l =>
  intro L hL
  match L, hL with
  |a :: b :: L, hL => exact ⟨b :: a :: L, List.Perm.swap _ _ _, hL.2.1, hL.1, hL.2.2⟩
 |trans _ _ ih1 ih2 =>
  intro L hL
  obtain ⟨L1, p1, h1⟩ := ih1 hL
  obtain ⟨L2, p2, h2⟩ := ih2 h1
  exact ⟨L2, p2.trans p1, h2⟩
theorem z0D {α β : Type} {R : α → β → Prop} : ∀ {L : List α} {xs : List β} {i : Nat} {a : α} {x : β}, All2 R L xs → L[i]? = some a → xs[i]? = some x → R a x
 |_ :: _, _ :: _, 0, _, _, h, h1, h2 => by simp at h1 h2; subst h1 h2; exact h.1
 |_ :: _, _ :: _, i + 1, _, _, h, h1, h2 => z0D (i := i) h.2 (by simpa using h1) (by simpa using h2)
def gP (L : List Pl) (i : Nat) : Pl := L.getD i default
def pf5 (k : Int) (L : List Pl) : Nat → Nat → AV := fun i => pAf k (rtx (gP L i).A) (rtx (gP L i).B) (rtx (gP L i).C) (idx (gP L i).s)
def RF (k : Int) (Z : j0q) (w : World) (f : Pl) (x : Raw) : Prop := x.k = k ∧ x.A = f.A ∧ x.B = f.B ∧ x.C = f.C ∧ AV.ok Z w (idx f.s) (.slice x.p x.n x.c)
theorem isAgg42 (w : World) : (isAgg 69).run Tryz.prog w = .ok true w := by kernel_rfl
theorem X1c (w : World) : (Go.sizeOf 69).run Tryz.prog w = .ok 5 w := by kernel_rfl
theorem j1F (k : Int) (x : Raw) (f : Pl) {Z : j0q} {w : World} (h : RF k Z w f x) : ∀ j, j < 5 → (pAf k (rtx f.A) (rtx f.B) (rtx f.C) (idx f.s) j).ok Z w ((Q0t x)[j]!) := by
 obtain ⟨h0, h1, h2, h3, h4⟩ := h
 intro j hj
 rcases (by omega : j = 0 ∨ j = 1 ∨ j = 2 ∨ j = 3 ∨ j = 4) with rfl | rfl | rfl | rfl | rfl
 ·show Value.int .i64 x.k = .int .i64 k; rw [h0]
 ·show Value.string (bs (rtx x.A)) = _; rw [h1]
 ·show Value.string (bs (rtx x.B)) = _; rw [h2]
 ·show Value.string (bs (rtx x.C)) = _; rw [h3]
 ·exact h4
structure PLR (P : Pl) : Prop where
 a : LR 400 P.A
 b : LR 400 P.B
 c : LR 400 P.C
theorem Q1m {k : Int} {Z : j0q} {w : World} {arr : Array Value} {L : List Pl} (hL : ∀ p ∈ L, PLR p) (h : ∀ i, i < L.length → ∀ j, j < 5 → ∃ u, arr[i * 5 + j]? = some u ∧ (pf5 k L i j).ok Z w u) :
  ∃ xs : List Raw, All2 (RF k Z w) L xs ∧ ∀ i x, xs[i]? = some x → ∀ j, j < 5 → arr[i * 5 + j]? = some ((Q0t x)[j]!) := by
 have key : ∀ (n : Nat) (L : List Pl) (o : Nat), L.length = n → (∀ p ∈ L, PLR p) → (∀ i, i < L.length → ∀ j, j < 5 → ∃ u, arr[o + i * 5 + j]? = some u ∧ (pf5 k L i j).ok Z w u) →
   ∃ xs : List Raw, All2 (RF k Z w) L xs ∧ ∀ i x, xs[i]? = some x → ∀ j, j < 5 → arr[o + i * 5 + j]? = some ((Q0t x)[j]!) := by
  intro n
  induction n with
  |zero => intro L o hn _ _; rw [List.length_eq_zero_iff.1 hn]; exact ⟨[], trivial, fun i x hx => by simp at hx⟩
  |succ n ih =>
   intro L o hn hLR hL
   match L, hn with
   |f :: L, hn =>
    obtain ⟨xs, a1, a2⟩ := ih L (o + 5) (by simpa using hn) (fun p hp => hLR p (by simp [hp])) (fun i hi j hj => by
     have := hL (i + 1) (by simpa using hi) j hj
     rw [show o + (i + 1) * 5 + j = o + 5 + i * 5 + j from by omega] at this
     exact this)
    obtain ⟨u0, b0, k0⟩ := hL 0 (by simp) 0 (by omega)
    obtain ⟨u1, b1, k1⟩ := hL 0 (by simp) 1 (by omega)
    obtain ⟨u2, b2, k2⟩ := hL 0 (by simp) 2 (by omega)
    obtain ⟨u3, b3, k3⟩ := hL 0 (by simp) 3 (by omega)
    obtain ⟨u4, b4, k4⟩ := hL 0 (by simp) 4 (by omega)
    have k4' := k4
    obtain ⟨p, c, rfl, _⟩ := k4'
    obtain rfl : u0 = .int .i64 k := k0
    obtain rfl : u1 = .string (bs (rtx f.A)) := k1
    obtain rfl : u2 = .string (bs (rtx f.B)) := k2
    obtain rfl : u3 = .string (bs (rtx f.C)) := k3
    have hf := hLR f (by simp)
    refine ⟨⟨k, f.A, f.B, f.C, p, f.s.length, c, hf.a, hf.b, hf.c⟩ :: xs, ⟨⟨rfl, rfl, rfl, rfl, k4⟩, a1⟩, fun i x hx j hj => ?_⟩
    cases i with
    |zero =>
     simp only [List.getElem?_cons_zero, Option.some.injEq] at hx
     subst hx
     rcases (by omega : j = 0 ∨ j = 1 ∨ j = 2 ∨ j = 3 ∨ j = 4) with rfl | rfl | rfl | rfl | rfl
     ·exact b0
     ·exact b1
     ·exact b2
     ·exact b3
     ·exact b4
    |succ i =>
     have := a2 i x (by simpa using hx) j hj
     rw [show o + (i + 1) * 5 + j = o + 5 + i * 5 + j from by omega]
     exact this
 obtain ⟨xs, a1, a2⟩ := key L.length L 0 rfl hL (fun i hi j hj => by rw [Nat.zero_add]; exact h i hi j hj)
 exact ⟨xs, a1, fun i x hx j hj => by have := a2 i x hx j hj; rwa [Nat.zero_add] at this⟩
theorem J0d {α β : Type} {R : α → β → Prop} {L : List α} {xs : List β} (h : All2 R L xs) : L.length = xs.length := by
 have := h.len
 omega
theorem lk5 {i j n : Nat} (hi : i < n) (hj : j < 5) : i * 5 + j < n * 5 := by omega
theorem x1O {enc : Raw → List Value} {w : World} {Z : j0q} {b m : Nat} {dk : Array Raw} {os : Array Obj} (hZ : ZOk Z w) (hb : b < w.heap.size) (hnz : ¬ Z b) : ZOk Z (sortWorldK enc 5 w b 0 m dk os) := by
 have hsz : w.heap.size ≤ (sortWorldK enc 5 w b 0 m dk os).heap.size := by simp [sortWorldK, grow, putRowK, putRow, mapBlock, Sort.ahead]
 refine hZ.next (fun _ h => h) hsz (fun k hk hlt => ?_) (fun k hk => Nat.lt_of_lt_of_le (hZ.1 k hk) hsz)
 unfold sortWorldK putRowK
 rw [heap_grow_old _ _ (by simpa using hlt)]
 have : b ≠ k := fun e => hnz (by rw [e]; exact hk)
 simp [putRow, mapBlock, Sort.ahead, Array.getElem?_modify, this]
theorem Q1x (k : Int) (L : List Pl) (hL : ∀ p ∈ L, PLR p) (hu : ∀ f ∈ L, ∀ g ∈ L, eqP f g → f = g) (hn : L.length ≤ 1000000) : CtrW Tryz.prog 130 [.val (.func (.func 131) #[] #[])] 69 5 L.length (pf5 k L) L.length (pf5 k (k0r L)) false := by
 refine ⟨w0X Tryz.func130 rfl rfl, fun w Z v vs hZ hvs hrow => ?_⟩
 match vs, hvs with
 |[fv], ⟨h1, _⟩ =>
  obtain rfl : fv = .func (.func 131) #[] #[] := h1
  by_cases h0 : L.length = 0
  ·have hl : L = [] := List.eq_nil_of_length_eq_zero h0
   subst hl
   have hv : ∃ p cap, v = .slice p 0 cap := by
    rcases hrow with ⟨e, _⟩ | ⟨b, cap, arr, e, _⟩
    ·exact ⟨none, 0, e⟩
    ·exact ⟨_, cap, e⟩
   obtain ⟨p, cap, rfl⟩ := hv
   refine (show Calls Tryz.prog 130 #[.slice p 0 cap, .func (.func 131) #[] #[]] w _ from AnyF.slices_SortFunc_none Tryz.laysSlF06_f96 p cap (.func (.func 131) #[] #[]) w).mono ?_
   rintro e w' ⟨rfl, rfl⟩
   exact ⟨_, _, Z, rfl, rfl, ⟨rfl, rfl, rfl, Nat.le_refl _, fun _ _ _ => rfl⟩, fun _ h => h, fun _ h => .inl h, hZ.1, fun b hb => .inl hb, by
    rcases hrow with ⟨e, _⟩ | ⟨b, cap, arr, e, h2, h3, h4, h5, h6, h7⟩
    ·exact .inl ⟨e, rfl⟩
    ·exact .inr ⟨b, cap, arr, e, h2, h3, h4, h5, h6, fun i hi => by simp at hi⟩⟩
  ·rcases hrow with ⟨_, e⟩ | ⟨b, cap, arr, rfl, h2, h3, h4, h5, h6, h7⟩
   ·exact absurd e h0
   ·have hb := (Array.getElem?_eq_some_iff.1 h3).1
    obtain ⟨xs, hx, hcell⟩ := Q1m hL h7
    have hxl := J0d hx
    have hH : HoldsK Q0t 5 w b 0 xs.toArray := by
     intro t ht
     have ht' : t < xs.length * 5 := by simpa using ht
     refine ⟨?_, by simp [World.frozen?, h3]⟩
     have hq : t = t / 5 * 5 + t % 5 := by omega
     have htl : t / 5 < xs.length := by omega
     have hc := hcell (t / 5) xs[t / 5] (List.getElem?_eq_getElem htl) (t % 5) (Nat.mod_lt _ zO)
     rw [get_flatK _ _ _ t (by simpa using ht'), Nat.zero_add]
     simp only [World.cell?, h3]
     rw [← hq] at hc
     have e : xs.toArray[t / 5]! = xs[t / 5] := by
      rw [getElem!_pos xs.toArray (t / 5) (by simp; omega)]
      simp
     rw [e]
     simpa using hc
    have hcmp : CmpLays Tryz.prog 131 #[] Q0t 5 cfR b 0 xs.toArray.size w := fun m os dk _ x y =>
     w1M x y (x1O hZ hb h2)
    have hrun := AnyQ.slices_SortFunc (α := Raw) Tryz.laysSlF06_f96 5 isAgg42 X1c Q0t (fun _ => rfl) (fun x v hv => by
     simp only [Q0t, List.mem_cons, List.not_mem_nil, or_false] at hv
     rcases hv with rfl | rfl | rfl | rfl | rfl <;> rfl) cfR k1l 131 #[] b 0 cap xs.toArray w (w0X Tryz.func131 rfl rfl) hcmp hH hb (by simp; omega)
    rw [List.size_toArray] at hrun
    have hrun2 : Calls Tryz.prog 130 #[.slice (some ⟨b, 0, none⟩) L.length cap, .func (.func 131) #[] #[]] w fun e w' => e = .returned (.tuple #[]) ∧ ∃ d' n os, PermIn 0 xs.length xs.toArray d' ∧ SortedIn (ltOf cfR) 0 xs.length d' ∧ w' = sortWorldK Q0t 5 w b 0 n d' os := by
     rw [hxl]
     exact hrun
    refine Calls.mono hrun2 ?_
    rintro e w' ⟨rfl, d', n, os, hp, hs, rfl⟩
    have hsz : d'.size = xs.length := by have := hp.1; simpa using this
    have hperm : d'.toList.Perm xs := by
     have := hp.2.2
     simp [hsz] at this
     rwa [List.take_of_length_le (by simp [hsz])] at this
    obtain ⟨L', hL1, hL2⟩ := K0T hperm.symm hx
    have hL3 : L'.Pairwise (fun a b => leP a b = true) := by
     rw [List.pairwise_iff_getElem]
     intro i j hi hj hij
     have hl2 := J0d hL2
     have hjd : j < d'.size := by simp at hl2; omega
     have h := hs i j (Nat.zero_le _) hij (by rw [← hsz]; exact hjd)
     rw [getElem!_pos d' j hjd, getElem!_pos d' i (by omega), ltR, decide_eq_false_iff_not] at h
     have r1 := z0D hL2 (List.getElem?_eq_getElem hi) (List.getElem?_eq_getElem (by simp at hl2 ⊢; omega))
     have r2 := z0D hL2 (List.getElem?_eq_getElem hj) (List.getElem?_eq_getElem (by simp at hl2 ⊢; omega))
     simp only [Array.getElem_toList] at r1 r2
     rw [r1.2.1, r1.2.2.1, r1.2.2.2.1, r2.2.1, r2.2.2.1, r2.2.2.2.1] at h
     unfold leP
     rw [Bool.not_eq_true', decide_eq_false_iff_not]
     exact h
    have hd' := Q1D hu hL1 hL3
    subst hd'
    have hheap : (sortWorldK Q0t 5 w b 0 n d' os).heap[b]? = some (.cells (putCells id 0 (flatK Q0t 5 d') arr) 69 (0, 0)) := by
     unfold sortWorldK putRowK
     rw [heap_grow_old _ _ (by simpa [putRow, mapBlock, Sort.ahead] using hb)]
     simp [putRow, mapBlock, Sort.ahead, Array.getElem?_modify, h3, onCells]
    have hgr : w.grownBy (sortWorldK Q0t 5 w b 0 n d' os) (some b) := by
     unfold sortWorldK putRowK
     refine ⟨rfl, rfl, rfl, by simp, fun k hk hne => ?_⟩
     rw [heap_grow_old _ _ (by simpa using hk)]
     have : b ≠ k := fun e => hne (by rw [e])
     simp [putRow, mapBlock, Sort.ahead, Array.getElem?_modify, this]
    refine ⟨_, _, Z, rfl, rfl, hgr, fun _ h => h, fun _ h => .inl h, fun k hk => Nat.lt_of_lt_of_le (hZ.1 k hk) hgr.size, fun b hb => .inl hb, .inr ⟨b, cap, _, rfl, h2, hheap, h4, h5, by simp [putCells, h6], fun i hi j hj => ?_⟩⟩
    have hlt := lk5 hi hj
    have hal : i * 5 + j < arr.size := by rw [h6]; have := lk5 (Nat.lt_of_lt_of_le hi h4) hj; exact this
    have hl2 := J0d hL2
    have hid : i < d'.size := by simp at hl2; have := hL1.length_eq; omega
    have hiL : i < (k0r L).length := by have := hL1.length_eq; omega
    have hRF := z0D hL2 (List.getElem?_eq_getElem hiL) (List.getElem?_eq_getElem (by simpa using hid))
    have hgf : (k0r L)[i] = gP (k0r L) i := by unfold gP; simp [List.getD, hiL]
    rw [hgf, Array.getElem_toList] at hRF
    have hRF2 : RF k Z (sortWorldK Q0t 5 w b 0 n d' os) (gP (k0r L) i) d'[i] := ⟨hRF.1, hRF.2.1, hRF.2.2.1, hRF.2.2.2.1, AV.ok_mono (fun _ q => q) hgr.size (fun k q hk => hgr.block k hk (fun e => by cases e; exact h2 q)) _ _ hRF.2.2.2.2⟩
    refine ⟨(Q0t d'[i])[j]!, ?_, j1F _ _ _ hRF2 j hj⟩
    have hf := get_flatK Q0t 5 d' (i * 5 + j) zO
    have e1 : (i * 5 + j) / 5 = i := by omega
    have e2 : (i * 5 + j) % 5 = j := by omega
    rw [e1, e2, getElem!_pos d' i hid] at hf
    simp only [putCells]
    rw [Array.getElem?_mapIdx, Array.getElem?_eq_getElem hal]
    simp only [Option.map_some]
    rw [if_pos ⟨Nat.zero_le _, by simp; omega⟩]
    simpa using hf
end Go.Proofs.YtfggdokihnopeaaGreatDoor.H
namespace Go.Proofs.YtfggdokihnopeaaGreatDoor.H
open Go Go.Vc Go.RowKit Go.Na
set_option maxHeartbeats 4000000
theorem ceq (P Q : Pl) : (j1p (rsg (P.A - Q.A)) (rsg (P.B - Q.B)) (rsg (P.C - Q.C)) == 0) = decide (eqP P Q) := by
 rw [Bool.eq_iff_iff, decide_eq_true_eq, beq_iff_eq, J1k]
 rfl
theorem W1c (k1 k2 : Int) (P Q : Pl) (hP : PLR P) (hQ : PLR Q) : CtrA Tryz.prog 133 [pR k1 P, pR k2 Q] (vb (decide (eqP P Q))) := by
 have hc := y0f k1 k2 P.A P.B P.C Q.A Q.B Q.C (idx P.s) (idx Q.s) hP.a hP.b hP.c hQ.a hQ.b hQ.c
 refine j0s _ Tryz.func133 rfl rfl Tryz.ntmps133 rfl fun w Z => ?_
 refine zU ?_
 refine wt ?_
 refine j0j (j0i rfl rfl) rfl ?_
 refine wt ?_
 refine j0j (j0i rfl rfl) rfl ?_
 refine wt ?_
 exact j0c rfl (.tmp rfl) (congrArg vb (ceq P Q))
abbrev eqv : AV := .val (.func (.func 133) #[] #[])
def w0U (L : List Pl) (i : Nat) : Bool := decide (i = 0) || decide (¬ eqP (gP L i) (gP L (i - 1)))
def q0u (L : List Pl) (m : Nat) : List Pl := ((List.range m).filter (w0U L)).map (gP L)
def Q0h (L : List Pl) : List Pl := q0u L L.length
theorem w0C (L : List Pl) (m : Nat) : q0u L (m + 1) = if w0U L m = true then q0u L m ++ [gP L m] else q0u L m := by
 simp only [q0u, List.range_succ, List.filter_append, List.map_append]
 split <;> rename_i h <;> simp [List.filter, h]
theorem k0I (L : List Pl) (m : Nat) : (q0u L m).length ≤ m := by
 have := List.length_filter_le (w0U L) (List.range m)
 simpa [q0u] using this
theorem W0Q {L : List Pl} {i : Nat} (h : i < L.length) : gP L i = L[i] := by simp [gP, h]
theorem z0l {L : List Pl} {i : Nat} (h : i < L.length) : gP L i ∈ L := by rw [W0Q h]; exact List.getElem_mem h
theorem J1H (L : List Pl) (m k : Nat) : gP (L.take m) k = if k < m then gP L k else default := by
 simp only [gP, List.getD, List.getElem?_take]
 split <;> rfl
theorem x0s (L : List Pl) : ∀ (m : Nat), m ≤ L.length → (∀ i, i < m → w0U L i = true) → q0u L m = L.take m
 |0, _, _ => rfl
 |m + 1, hm, h => by
  rw [w0C, if_pos (h m (by omega)), x0s L m (by omega) (fun i hi => h i (by omega)), List.take_succ_eq_append_getElem (by omega), W0Q (by omega)]
theorem Q0r {L : List Pl} (h : L.length < 2) : Q0h L = L := by
 rw [Q0h, x0s L _ (Nat.le_refl _) (fun i hi => by simp [w0U, show i = 0 by omega]), List.take_length]
theorem j1S (L : List Pl) (i : Nat) (x : Pl) (k : Nat) : gP (L.set i x) k = if i = k ∧ k < L.length then x else gP L k := by
 simp only [gP, List.getD, List.getElem?_set]
 by_cases h : i = k
 ·subst h
  by_cases h2 : i < L.length
  ·simp [h2]
  ·simp [h2]
 ·simp [h]
theorem y1K (L : List Pl) (x : Pl) (k : Nat) : gP (L ++ [x]) k = if k < L.length then gP L k else if k = L.length then x else default := by
 simp only [gP]
 by_cases h : k < L.length
 ·simp [List.getD, List.getElem?_append_left h, h]
 ·by_cases h2 : k = L.length
  ·subst h2; simp [List.getD]
  ·rw [if_neg h, if_neg h2, List.getD, List.getElem?_eq_none (by simp; omega)]; rfl
theorem J1U {p : Nat → Bool} {n : Nat} (h : ∀ k, k < n → p k = true) (hn : p n = true) : ∀ k, k < n + 1 → p k = true := fun k hk => by
 by_cases e : k = n
 ·subst e; exact hn
 ·exact h k zO
theorem k1v (w : World) : (zeroValue 69).run Tryz.prog w = .ok (.agg [.int .i64 0, .string (bs []), .string (bs []), .string (bs []), .slice none 0 0].toArray) w := by kernel_rfl
theorem y1q : ∀ v ∈ ([.int .i64 0, .string (bs []), .string (bs []), .string (bs []), .slice none 0 0] : List Value), v.oneCell' = true := fun v hv => by
 simp only [List.mem_cons, List.not_mem_nil, or_false] at hv
 rcases hv with rfl | rfl | rfl | rfl | rfl <;> rfl
theorem W1g {κ : Int} {u : List Pl} {k : Nat} {x : Pl} (hk : k < u.length) : ∀ i, i < u.length → ∀ j, j < 5 → w0v (pf5 κ u) k 0 ((List.range 5).map (pf5 κ [x] 0)) i j = pf5 κ (u.set k x) i j := by
 intro i hi j hj
 unfold w0v pf5
 rw [j1S]
 by_cases h : i = k
 ·subst h
  rw [if_pos ⟨rfl, Nat.zero_le _, by simpa using hj⟩, if_pos ⟨rfl, hk⟩]
  rcases (by omega : j = 0 ∨ j = 1 ∨ j = 2 ∨ j = 3 ∨ j = 4) with rfl | rfl | rfl | rfl | rfl <;> rfl
 ·rw [if_neg (fun e => h e.1), if_neg (fun e => h e.1.symm)]
theorem k0H (κ : Int) (v : List Pl) (hv : ∀ p ∈ v, PLR p) (hn : v.length ≤ 1000) :
  CtrW Tryz.prog 132 [eqv] 69 5 v.length (pf5 κ v) (Q0h v).length (pf5 κ (Q0h v)) true := by
 refine Z1E _ Tryz.func132 rfl rfl Tryz.ntmps132 rfl fun w Z v0 => ?_
 refine zU ?_
 refine wt ?_
 (refine j0a rfl ?_ ?_ <;> intro hb <;> (try simp only [zA, zB, zG, zC, zD, zN] at hb) <;> (try exact zQ))
 ·refine wt ?_
  exact w0J rfl rfl rfl (by rw [Q0r (by omega)]) (fun _ _ _ _ => by rw [Q0r (by omega)])
 ·refine wt ?_
  refine j0g (γ := Nat) (fun k => [(0, .osl 0), (1, .av eqv), (5, .av (vi k))]) (fun _ => [(0, .row 69 5 v.length (pf5 κ v))]) (fun k => 1 ≤ k ∧ k ≤ v.length ∧ ∀ i, i < k → w0U v i = true) (fun k => v.length - k) 1 ⟨by omega, by omega, fun i hi => by simp [w0U, show i = 0 by omega]⟩ (ent ⟨.refl _, .refl _, .int rfl, trivial⟩ zT) ?_
  rintro k ⟨hk1, hkn, hall⟩
  obtain ⟨k', rfl⟩ : ∃ k', k = k' + 1 := ⟨k - 1, by omega⟩
  refine wt ?_
  (refine j0a rfl ?_ ?_ <;> intro hb <;> (try simp only [zA, zB, zG, zC, zD, zN] at hb) <;> (try exact zQ))
  ·have hq := W1c κ κ (gP v (k' + 1)) (gP v k') (hv _ (z0l zO)) (hv _ (z0l zO))
   refine wt ?_
   refine q0H (q0w rfl rfl zO) rfl ?_
   refine wt ?_
   refine q0H (q0w rfl rfl zO) rfl ?_
   have e0 : (((k' + 1 : Nat) : Int) - 1).toNat = k' := by omega
   rw [e0]
   refine wt ?_
   (refine j0a rfl ?_ ?_ <;> intro hb <;> (try simp only [zA, zB, zG, zC, zD, zN] at hb) <;> (try exact zQ))
   ·have hK : w0U v (k' + 1) = false := by simp [w0U, hb]
    have h1 : q0u v (k' + 1 + 1) = v.take (k' + 1) := by
     rw [w0C, hK, if_neg (by simp), x0s v _ (by omega) hall]
    refine wt ?_
    refine j0g (γ := List Pl × Nat) (fun g => [(0, .osl 0), (1, .av eqv), (5, .av (vi (q0u v (k' + 1 + g.2)).length)), (6, .osx 0 5 (k' + 1) (v.length - (k' + 1))), (7, .av (vi g.2))]) (fun g => [(0, .row 69 5 v.length (pf5 κ g.1))])
     (fun g => 1 ≤ g.2 ∧ g.2 ≤ v.length - (k' + 1) ∧ g.1.length = v.length ∧ (q0u v (k' + 1 + g.2)).length ≤ k' + g.2 ∧ (∀ i, i < (q0u v (k' + 1 + g.2)).length → gP g.1 i = gP (q0u v (k' + 1 + g.2)) i) ∧ ∀ i, k' + g.2 ≤ i → gP g.1 i = gP v i) (fun g => v.length - g.2) (v, 1)
     ⟨by simp, by simp; omega, rfl, by simp only [h1]; simp; omega, fun i hi => by simp only [h1] at hi ⊢; rw [J1H]; simp at hi; rw [if_pos (by omega)], fun i hi => rfl⟩ (ent ⟨.refl _, .refl _, .int (by simp only [h1]; simp; omega), .refl _, .refl _, trivial⟩ zT) ?_
    rintro ⟨u, m⟩ ⟨hm1, hmn, hul, hcl, hu1, hu2⟩
    simp only at hm1 hmn hul hcl hu1 hu2
    obtain ⟨m', rfl⟩ : ∃ m', m = m' + 1 := ⟨m - 1, by omega⟩
    dsimp only
    refine wt ?_
    (refine j0a rfl ?_ ?_ <;> intro hb <;> (try simp only [zA, zB, zG, zC, zD, zN] at hb) <;> (try exact zQ))
    ·have e1 : gP u (k' + 1 + (m' + 1)) = gP v (k' + 1 + (m' + 1)) := hu2 _ zO
     have e2 : gP u (k' + 1 + m') = gP v (k' + 1 + m') := hu2 _ zO
     have e3 : k' + 1 + (m' + 1) - 1 = k' + 1 + m' := by omega
     have hS := w0C v (k' + 1 + (m' + 1))
     have hq := W1c κ κ (gP u (k' + 1 + (m' + 1))) (gP u (k' + 1 + m')) (by rw [e1]; exact hv _ (z0l (by omega))) (by rw [e2]; exact hv _ (z0l (by omega)))
     refine wt ?_
     refine q0H (q0w rfl rfl zO) rfl ?_
     refine wt ?_
     refine q0H (q0M (k := m') rfl rfl zO zO) rfl ?_
     refine wt ?_
     refine q0H (q0w rfl rfl zO) rfl ?_
     refine wt ?_
     (refine j0a rfl ?_ ?_ <;> intro hb <;> (try simp only [zA, zB, zG, zC, zD, zN] at hb) <;> (try exact zQ))
     ·have hP : w0U v (k' + 1 + (m' + 1)) = true := by
       simp only [w0U, e3]; rw [← e1, ← e2]; simp [hb]
      rw [hP, if_pos rfl] at hS
      refine wt ?_
      refine j0j (q0w rfl rfl zO) rfl ?_
      refine wt ?_
      refine q0U (z0y rfl rfl (x0X _ _ _ _ _) rfl zO) ?_
      refine wt ?_
      refine j0b (g := (u, m' + 1)) (u.set (q0u v (k' + 1 + (m' + 1))).length (gP u (k' + 1 + (m' + 1))), m' + 1 + 1) ⟨by simp, by simp; omega, by simp [hul], ?_, ?_, ?_⟩ (by simp; omega) (ent ⟨.refl _, .refl _, .int (by simp only; rw [show k' + 1 + (m' + 1 + 1) = k' + 1 + (m' + 1) + 1 from by omega, hS]; simp), .refl _, .int (by simp), trivial⟩ ⟨⟨_, rfl, .row rfl (fun i hi j hj => W1g (by omega) i (by omega) j hj)⟩, trivial⟩)
      ·simp only; rw [show k' + 1 + (m' + 1 + 1) = k' + 1 + (m' + 1) + 1 from by omega, hS]; simp; omega
      ·simp only; rw [show k' + 1 + (m' + 1 + 1) = k' + 1 + (m' + 1) + 1 from by omega, hS]
       intro i hi
       rw [j1S, y1K]
       simp only [List.length_append, List.length_singleton] at hi
       by_cases h : i = (q0u v (k' + 1 + (m' + 1))).length
       ·rw [if_pos ⟨h.symm, by omega⟩, if_neg (by omega), if_pos h, e1]
       ·rw [if_neg (fun e => h e.1.symm), if_pos (by omega)]; exact hu1 i (by omega)
      ·simp only
       intro i hi
       rw [j1S, if_neg (fun e => by omega)]
       exact hu2 i zO
     ·have hP : w0U v (k' + 1 + (m' + 1)) = false := by
       simp only [w0U, e3]; rw [← e1, ← e2]; simp [hb]
      rw [hP, if_neg (by simp)] at hS
      refine wt ?_
      refine j0b (g := (u, m' + 1)) (u, m' + 1 + 1) ⟨by simp, by simp; omega, hul, ?_, ?_, ?_⟩ (by simp; omega) (ent ⟨.refl _, .refl _, .int (by simp only; rw [show k' + 1 + (m' + 1 + 1) = k' + 1 + (m' + 1) + 1 from by omega, hS]), .refl _, .int (by simp), trivial⟩ zT)
      ·simp only; rw [show k' + 1 + (m' + 1 + 1) = k' + 1 + (m' + 1) + 1 from by omega, hS]; omega
      ·simp only; rw [show k' + 1 + (m' + 1 + 1) = k' + 1 + (m' + 1) + 1 from by omega, hS]; exact hu1
      ·simp only; exact fun i hi => hu2 i (by omega)
    ·have hE : k' + 1 + (m' + 1) = v.length := by omega
     have hcE : q0u v (k' + 1 + (m' + 1)) = Q0h v := by rw [hE]; rfl
     refine wt ?_
     refine q0U (x1g (lo := (q0u v (k' + 1 + (m' + 1))).length) k1v rfl rfl zE y1q rfl rfl) ?_
     refine wt ?_
     refine w0J rfl rfl rfl (by rw [hcE]) (fun i hi j hj => ?_)
     simp only [X0s]
     rw [if_neg (by omega)]
     simp only [pf5]
     rw [hu1 i (by omega), hcE]
   ·refine wt ?_
    exact j0b (k' + 1 + 1) ⟨by omega, by omega, J1U hall (by simp [w0U, hb])⟩ (by omega) (ent ⟨.refl _, .refl _, .int (by simp), trivial⟩ zT)
  ·refine wt ?_
   have e : Q0h v = v := by rw [Q0h, x0s v _ (Nat.le_refl _) (fun i hi => hall i (by omega)), List.take_length]
   exact w0J rfl rfl rfl (by rw [e]) (fun _ _ _ _ => by rw [e])
end Go.Proofs.YtfggdokihnopeaaGreatDoor.H
namespace Go.Proofs.YtfggdokihnopeaaGreatDoor.H
open Go Go.Vc Go.Na
def tK (i j : Nat) : Nat → List (Nat × Nat × Nat)
 |0 => []
 |k + 1 => tK i j k ++ [(k, j, i)]
def tJ (i : Nat) : Nat → List (Nat × Nat × Nat)
 |0 => []
 |j + 1 => tJ i j ++ tK i j j
def tI : Nat → List (Nat × Nat × Nat)
 |0 => []
 |i + 1 => tI i ++ tJ i i
theorem X1n (i j : Nat) : ∀ k, (List.range k).map (fun k => (k, j, i)) = tK i j k
 |0 => rfl
 |k + 1 => by rw [List.range_succ, List.map_append, X1n i j k]; rfl
theorem X1m (i : Nat) : ∀ n, y1e i n = tJ i n
 |0 => rfl
 |n + 1 => by
  unfold y1e
  rw [List.range_succ, List.flatMap_append]
  have := X1m i n
  unfold y1e at this
  rw [this, tJ]
  simp only [List.flatMap_cons, List.flatMap_nil, List.append_nil, X1J]
  rw [X1n]
theorem K0y : ∀ n, V1y n = tI n
 |0 => rfl
 |n + 1 => by
  unfold V1y
  rw [List.range_succ, List.flatMap_append]
  have := K0y n
  unfold V1y at this
  rw [this, tI]
  simp only [List.flatMap_cons, List.flatMap_nil, List.append_nil]
  rw [X1m]
theorem y1X {i j : Nat} {t : Nat × Nat × Nat} : ∀ {k}, t ∈ tK i j k ↔ t.1 < k ∧ t.2.1 = j ∧ t.2.2 = i
 |0 => by simp [tK]
 |k + 1 => by
  rw [tK, List.mem_append, y1X]
  obtain ⟨a, b, c⟩ := t
  simp only [List.mem_singleton, Prod.mk.injEq]
  omega
theorem y1W {i : Nat} {t : Nat × Nat × Nat} : ∀ {j}, t ∈ tJ i j ↔ t.1 < t.2.1 ∧ t.2.1 < j ∧ t.2.2 = i
 |0 => by simp [tJ]
 |j + 1 => by
  rw [tJ, List.mem_append, y1W, y1X]
  omega
theorem Z0Q {t : Nat × Nat × Nat} : ∀ {n}, t ∈ tI n ↔ t.1 < t.2.1 ∧ t.2.1 < t.2.2 ∧ t.2.2 < n
 |0 => by simp [tI]
 |n + 1 => by
  rw [tI, List.mem_append, Z0Q, y1W]
  omega
theorem z1o (i j : Nat) : ∀ k, (tK i j k).length = k
 |0 => rfl
 |k + 1 => by rw [tK, List.length_append, z1o]; rfl
theorem z1n (i : Nat) : ∀ j, (tJ i j).length ≤ j * j
 |0 => Nat.le_refl _
 |j + 1 => by
  rw [tJ, List.length_append, z1o]
  have := z1n i j
  rw [Nat.mul_add, Nat.add_mul]
  omega
theorem v1I : ∀ n, (tI n).length ≤ n * (n * n)
 |0 => Nat.le_refl _
 |n + 1 => by
  rw [tI, List.length_append]
  have h1 := v1I n
  have h2 := z1n n n
  have : (n + 1) * ((n + 1) * (n + 1)) = n * (n * n) + n * n + n * n + n * n + n + n + n + 1 := by
   simp only [Nat.mul_add, Nat.add_mul, Nat.mul_one, Nat.one_mul]; omega
  omega
theorem V0N {α : Type} {f g : Nat → List α} (h : ∀ k, f (k + 1) = f k ++ g k) {k n : Nat} (hk : k ≤ n) : f k <+: f n := by
 induction n with
 |zero => rw [Nat.le_zero.1 hk]; exact List.prefix_refl _
 |succ n ih =>
  by_cases e : k = n + 1
  ·rw [e]; exact List.prefix_refl _
  ·rw [h n]; exact (ih (by omega)).trans (List.prefix_append _ _)
theorem y1f {n i j k : Nat} (hi : i < n) (hj : j < i) (hk : k < j) : tI i ++ (tJ i j ++ tK i j (k + 1)) <+: tI n := by
 have h1 : tK i j (k + 1) <+: tK i j j := V0N (fun _ => rfl) zO
 have h2 : tJ i (j + 1) <+: tJ i i := V0N (fun _ => rfl) zO
 have h3 : tI (i + 1) <+: tI n := V0N (fun _ => rfl) zO
 have h4 : tJ i j ++ tK i j (k + 1) <+: tJ i (j + 1) := (List.prefix_append_right_inj _).2 h1
 exact ((List.prefix_append_right_inj _).2 (h4.trans h2)).trans h3
theorem W1S {α : Type} {A L : List α} {x : α} (h : A ++ [x] <+: L) : L[A.length]? = some x := by
 obtain ⟨t, rfl⟩ := h
 simp
end Go.Proofs.YtfggdokihnopeaaGreatDoor.H
namespace Go.Proofs.YtfggdokihnopeaaGreatDoor.H
open Go Go.Vc Go.RowKit
set_option maxHeartbeats 4000000
abbrev Z1A (a b c : Nat) : AV := .val (.agg #[.int .i64 a, .int .i64 b, .int .i64 c])
def V3 (n : Nat) (x : Value) : Prop := ∃ a b c : Nat, a < n ∧ b < n ∧ c < n ∧ x = .agg #[.int .i64 a, .int .i64 b, .int .i64 c]
def atT (t : Nat × Nat × Nat) : AV := Z1A t.1 t.2.1 t.2.2
abbrev yv (l : Nat) : AV := .val (.func (.yield l) #[] #[])
abbrev np (n : Nat) : AV := .ptr 1 (fun _ => vi n)
theorem K0F (n : Nat) (hn : n ≤ 1000) : CtrM Tryz.prog 195 [np n] (V3 n) ((tI n).map atT) := by
 refine k1b _ Tryz.func195 rfl rfl Tryz.ntmps195 rfl fun y J Y w Z S => ?_
 refine zU ?_
 refine wt ?_
 refine V0o Y (γ := Nat) (fun i => [(0, .av (yv y)), (1, .av (np n)), (6, .av (vi n)), (7, .av (vi i))]) (fun i => (tI i).length) (fun i => i ≤ n) (fun i => n - i) 0 S (Nat.zero_le _) (ent zS trivial) ?_
 intro i hi w Z S
 refine wt ?_
 (refine j0a rfl ?_ ?_ <;> intro hb <;> (try simp only [zA, zB, zG, zC, zD, zN] at hb) <;> (try exact zQ))
 ·have hil : i < n := by omega
  refine wt ?_
  refine V0o Y (γ := Nat) (fun j => [(0, .av (yv y)), (1, .av (np n)), (3, .av (vi i)), (6, .av (vi n)), (7, .av (vi i)), (10, .av (vi i)), (11, .av (vi j))]) (fun j => (tI i ++ tJ i j).length) (fun j => j ≤ i) (fun j => i - j) 0 (by rw [show tJ i 0 = [] from rfl, List.append_nil]; exact S) (Nat.zero_le _) (ent zS trivial) ?_
  intro j hj w Z S
  refine wt ?_
  (refine j0a rfl ?_ ?_ <;> intro hb <;> (try simp only [zA, zB, zG, zC, zD, zN] at hb) <;> (try exact zQ))
  ·have hjl : j < i := by omega
   refine wt ?_
   refine V0o Y (γ := Nat) (fun k => [(0, .av (yv y)), (1, .av (np n)), (3, .av (vi i)), (4, .av (vi j)), (6, .av (vi n)), (7, .av (vi i)), (10, .av (vi i)), (11, .av (vi j)), (14, .av (vi j)), (15, .av (vi k))]) (fun k => (tI i ++ (tJ i j ++ tK i j k)).length) (fun k => k ≤ j) (fun k => j - k) 0 (by rw [show tK i j 0 = [] from rfl, List.append_nil]; exact S) (Nat.zero_le _) (ent zS trivial) ?_
   intro k hk w Z S
   refine wt ?_
   (refine j0a rfl ?_ ?_ <;> intro hb <;> (try simp only [zA, zB, zG, zC, zD, zN] at hb) <;> (try exact zQ))
   ·have hkl : k < j := by omega
    have hp := y1f hil hjl hkl
    have e0 : tK i j (k + 1) = tK i j k ++ [(k, j, i)] := rfl
    rw [e0, ← List.append_assoc, ← List.append_assoc] at hp
    have hm := W1S hp
    rw [List.append_assoc] at hm
    refine wt ?_
    refine v1G Y S (τ := Z1A k j i) (by rw [List.getElem?_map, hm]; rfl) (fun Z w v hv => ⟨k, j, i, by omega, by omega, hil, hv⟩) rfl rfl rfl (fun w' Z' S' => ?_)
    have e9 : (tI i ++ (tJ i j ++ tK i j k)).length + 1 = (tI i ++ (tJ i j ++ tK i j (k + 1))).length := by rw [e0]; simp; omega
    rw [e9] at S'
    refine wt ?_
    exact J0X Y (g := k) (k + 1) S' zO zO (ent zS trivial)
   ·have hke : k = j := by omega
    subst hke
    have e1 : tJ i (k + 1) = tJ i k ++ tK i k k := rfl
    rw [← e1] at S
    refine wt ?_
    exact J0X Y (g := k) (k + 1) S zO zO (ent zS trivial)
  ·have hje : j = i := by omega
   subst hje
   have e1 : tI (j + 1) = tI j ++ tJ j j := rfl
   rw [← e1] at S
   refine wt ?_
   exact J0X Y (g := j) (j + 1) S zO zO (ent zS trivial)
 ·have hie : i = n := by omega
  subst hie
  have e1 : (tI i).length = ((tI i).map atT).length := by rw [List.length_map]
  rw [e1] at S
  refine wt ?_
  exact x1Q Y rfl S
abbrev tcl (n : Nat) : AV := .clo 195 1 (fun i => [np n].getD i .any)
theorem v1W (n : Nat) : CtrA Tryz.prog 128 [vi n] (tcl n) := by
 refine j0s _ Tryz.func128 rfl rfl Tryz.ntmps128 rfl fun w Z => ?_
 refine zU ?_
 refine wt ?_
 exact zV
end Go.Proofs.YtfggdokihnopeaaGreatDoor.H
namespace Go.Proofs.YtfggdokihnopeaaGreatDoor.H
open Go Go.Vc Go.RowKit Go.Na Go.Lib
set_option maxHeartbeats 4000000
theorem K0B (l : List Tr) (hl : RT l) (a b c : Nat) (ha : a < l.length) (hb' : b < l.length) (hc : c < l.length) (hn : l.length ≤ 1000) : CtrA Tryz.prog 129 [ts l, vi 1, at3 a b c] (Y1i 1 (thr l 1 a b c)) := by
 have h1 := V0J (gt l a) (gt l b) (gt l c) (hl a) (hl b) (hl c)
 refine j0s _ Tryz.func129 rfl rfl Tryz.ntmps129 rfl fun w Z => ?_
 refine zU ?_
 refine wt ?_
 (refine j0a rfl ?_ ?_ <;> intro hb <;> (try simp only [zA, zB, zG, zC, zD, zN] at hb) <;> (try exact zQ))
 ·refine wt ?_
  refine j0j (j0m (t := 69) (is := []) (xs := []) (vs := []) K0z rfl rfl) rfl ?_
  refine wt ?_
  rw [W0h (k := 1) hb]
  exact j0t (rvs := [_, _, _]) (τs := [_, _, _]) rfl rfl ⟨.agg (us := [_, _, _, _, _]) rfl rfl rfl rfl, .tmp rfl, .tmp rfl, trivial⟩ rfl
 have hne : cz (nvP (gt l a) (gt l b) (gt l c)) 1 ≠ 0 := hb
 have hpos : 0 < cz (nP l 1 a b c) 1 := x0p hne
 have hT0 := @W0f l 1 a b c zE hne
 have hT1 := @W0g l 1 a b c zE hne
 have hnb := BT.np hl 1 a b c
 have hmb := j1h hnb (hl a)
 have hnP : nP l 1 a b c = upP 1 (nvP (gt l a) (gt l b) (gt l c)) := rfl
 have hm : mP l 1 a b c = w0k (nP l 1 a b c) (gt l a) := rfl
 have hA : aP l 1 a b c = Rat.divInt (mP l 1 a b c) (nP l 1 a b c).y := rfl
 have hB : bP l 1 a b c = Rat.divInt (-(nP l 1 a b c).x) (nP l 1 a b c).y := rfl
 have hC : cP l 1 a b c = Rat.divInt (-(nP l 1 a b c).z) (nP l 1 a b c).y := rfl
 have hnv := (BT.nv (hl a) (hl b) (hl c)).sq
 obtain ⟨⟨⟨_, _⟩, ⟨_, _⟩⟩, ⟨_, _⟩⟩ := hnv
 rw [hA, hB, hC] at hT1
 rw [← hm] at hmb
 generalize mP l 1 a b c = m at *
 generalize nP l 1 a b c = n at *
 refine wt ?_
 refine j1q [(0, .av (ts l)), (1, .av (vi 1)), (5, .av (.ptr 3 (fun i => .val ([Value.int .i64 a, .int .i64 b, .int .i64 c].getD i Go.undef)))), (6, .own 10 0), (9, .av (.ptr 3 (tpf n)))] [(10, .cells [.av (vi 0), .av (vS []), .av (vS []), .av (vS []), .av (.val (.slice none 0 0))])] ?_ ?_
 ·(refine j0a rfl ?_ ?_ <;> intro hb <;> (try simp only [zA, zB, zG, zC, zD, zN] at hb) <;> (try exact zQ))
  ·have e : n = ⟨-(nvP (gt l a) (gt l b) (gt l c)).x, -(nvP (gt l a) (gt l b) (gt l c)).y, -(nvP (gt l a) (gt l b) (gt l c)).z⟩ := hnP.trans (if_pos hb)
   refine wt ?_
   rw [e]
   exact q0c ((j0F 9 11 (tpf _) rfl rfl rfl).trans (ent zS zT))
  ·have e : n = nvP (gt l a) (gt l b) (gt l c) := hnP.trans (if_neg (by simpa [cz] using hb))
   refine wt ?_
   rw [e]
   exact q0c ((j0F 9 11 (tpf _) rfl rfl rfl).trans (ent zS zT))
 have hd0 := Q0s n (gt l a) (hnb.le zE) (hl a)
 rw [← hm] at hd0
 refine wt ?_
 refine j0j (j0m (t := 69) (is := [0]) (xs := [_]) (vs := [_]) (Q1L 1) rfl rfl) rfl ?_
 refine wt ?_
 refine j0g (γ := Nat) (fun i => [(0, .av (ts l)), (1, .av (vi 1)), (6, .own 10 0), (9, .av (.ptr 3 (tpf n))), (11, .av (.clo 197 1 (fun i => [AV.ptr 3 (tpf n)].getD i .any))), (12, .av (vi m)), (13, .own 11 0), (74, .av (ts l)), (75, .av (vi l.length)), (76, .av (vi i))])
  (fun i => [(10, .cells [.av (vi 0), .av (vS []), .av (vS []), .av (vS []), .av (.val (.slice none 0 0))]), (11, .cells [.av (vi 1), .av (vS []), .av (vS []), .av (vS []), .osl 20]), (20, .row 3 1 (onD l n m i).length (xf (onD l n m i)))]) (fun i => i ≤ l.length ∧ ∀ j, j < i → m ≤ w0k n (gt l j)) (fun i => l.length - i) 0 ⟨Nat.zero_le _, by omega⟩
  ((y0l (r := 11) (off := 4) 20 3 1 (xf []) rfl rfl rfl).trans (ent zS zT)) ?_
 rintro i ⟨hi, hall⟩
 have hol := Y0s l n m i
 refine wt ?_
 (refine j0a rfl ?_ ?_ <;> intro hb <;> (try simp only [zA, zB, zG, zC, zD, zN] at hb) <;> (try exact zQ))
 ·have hil : i < l.length := by omega
  have hd := Q0s n (gt l i) (hnb.le zE) (hl i)
  have hsu := V0L l n m i
  refine wt ?_
  (refine j0a rfl ?_ ?_ <;> intro hb <;> (try simp only [zA, zB, zG, zC, zD, zN] at hb) <;> (try exact zQ))
  ·rw [hT0 hil hb]
   refine wt ?_
   refine j0j (j0m (t := 69) (is := []) (xs := []) (vs := []) K0z rfl rfl) rfl ?_
   refine wt ?_
   exact j0t (rvs := [_, _, _]) (τs := [_, _, _]) rfl rfl ⟨.agg (us := [_, _, _, _, _]) rfl rfl rfl rfl, .tmp rfl, .tmp rfl, trivial⟩ rfl
  ·have hge : m ≤ w0k n (gt l i) := by omega
   refine wt ?_
   (refine j0a rfl ?_ ?_ <;> intro hb <;> (try simp only [zA, zB, zG, zC, zD, zN] at hb) <;> (try exact zQ))
   ·rw [if_pos hb] at hsu
    refine wt ?_
    exact j0b (i + 1) ⟨by omega, v0u hall hge⟩ (by omega) (ent zS ⟨⟨_, rfl, .refl _⟩, ⟨_, rfl, .refl _⟩, ⟨_, rfl, .row (by rw [hsu]) (fun _ _ _ _ => by rw [hsu])⟩, trivial⟩)
   ·rw [if_neg hb] at hsu
    refine wt ?_
    exact j0b (i + 1) ⟨by omega, v0u hall hge⟩ (by omega) (ent zS ⟨⟨_, rfl, .refl _⟩, ⟨_, rfl, .refl _⟩, ⟨_, rfl, .row (by rw [hsu]) (fun _ _ _ _ => by rw [hsu])⟩, trivial⟩)
 have hil : i = l.length := by omega
 subst hil
 rw [hT1 hall]
 obtain ⟨⟨⟨_, _⟩, ⟨_, _⟩⟩, ⟨_, _⟩⟩ := hnb.sq
 have hx0 : 0 < n.y := hpos
 refine wt ?_
 refine q0H (q0Y (y0F _) rfl rfl) rfl ?_
 refine wt ?_
 refine q0H (q0Y (y0F _) rfl rfl) rfl ?_
 refine wt ?_
 refine q0H (q0Y (y0F _) rfl rfl) rfl ?_
 refine wt ?_
 refine y0k (x0U 30 rfl (fun p1 p2 p3 w => v1U _ _ _ p1 p2 p3 w) rfl rfl rfl) rfl rfl ?_
 refine wt ?_
 refine q0H (Y0d rfl rfl) rfl ?_
 refine wt ?_
 have qA := w0I m n.y zO zO zO
 have qB := w0I (-n.x) n.y zO zO zO
 have qC := w0I (-n.z) n.y zO zO zO
 generalize Rat.divInt m n.y = A at *
 generalize Rat.divInt (-n.x) n.y = B at *
 generalize Rat.divInt (-n.z) n.y = C at *
 refine j0g (γ := Nat) (fun i => [(1, .av (vi 1)), (6, .own 10 0), (9, .av (.ptr 3 (tpf n))), (13, .own 11 0), (123, .osl 30), (124, .av (vi 3)), (125, .av (vi i))])
  (fun i => [(30, .srow 266 2 3 [.own 11 1, .av (vi m), .own 11 2, .av (vi (-n.x)), .own 11 3, .av (vi (-n.z))]), (10, .cells [.av (vi 0), .av (vS []), .av (vS []), .av (vS []), .av (.val (.slice none 0 0))]), (11, .cells (Y1z 1 A B C i)), (20, .row 3 1 (onD l n m l.length).length (xf (onD l n m l.length)))])
  (fun i => i ≤ 3) (fun i => 3 - i) 0 (Nat.zero_le _) (ent zS zT) ?_
 intro i hi
 match i, hi with
 |0, _ =>
  refine wt ?_
  refine j0j (q0Z (k := 0) rfl rfl rfl rfl zO) rfl ?_
  refine wt ?_
  refine j0j (v0a rfl rfl rfl rfl) rfl ?_
  refine wt ?_
  refine q0U (q0D rfl rfl rfl rfl rfl) ?_
  refine wt ?_
  exact j0b 1 zO zO (ent zS zT)
 |1, _ =>
  refine wt ?_
  refine j0j (q0Z (k := 1) rfl rfl rfl rfl zO) rfl ?_
  refine wt ?_
  refine j0j (v0a rfl rfl rfl rfl) rfl ?_
  refine wt ?_
  refine q0U (q0D rfl rfl rfl rfl rfl) ?_
  refine wt ?_
  exact j0b 2 zO zO (ent zS zT)
 |2, _ =>
  refine wt ?_
  refine j0j (q0Z (k := 2) rfl rfl rfl rfl zO) rfl ?_
  refine wt ?_
  refine j0j (v0a rfl rfl rfl rfl) rfl ?_
  refine wt ?_
  refine q0U (q0D rfl rfl rfl rfl rfl) ?_
  refine wt ?_
  exact j0b 3 zO zO (ent zS zT)
 |3, _ =>
  refine wt ?_
  refine Y0n (j0M 11 20 4 rfl rfl rfl rfl) ?_
  refine j0j (j0n (f := pAf 1 (rtx A) (rtx B) (rtx C) (idx (onD l n m l.length))) rfl rfl rfl) rfl ?_
  refine wt ?_
  refine q0U (j0y rfl rfl (x0X _ _ _ _ _) rfl rfl) ?_
  refine wt ?_
  exact j0t (rvs := [_, _, _]) (τs := [_, _, _]) rfl rfl ⟨.aggv (f := pAf 1 (rtx A) (rtx B) (rtx C) (idx (onD l n m l.length))) rfl rfl rfl, .tmp rfl, .tmp rfl, trivial⟩ rfl
 |_ + 4, h => omega
theorem K0C (l : List Tr) (hl : RT l) (a b c : Nat) (ha : a < l.length) (hb' : b < l.length) (hc : c < l.length) (hn : l.length ≤ 1000) : CtrA Tryz.prog 129 [ts l, vi 2, at3 a b c] (Y1i 2 (thr l 2 a b c)) := by
 have h1 := V0J (gt l a) (gt l b) (gt l c) (hl a) (hl b) (hl c)
 refine j0s _ Tryz.func129 rfl rfl Tryz.ntmps129 rfl fun w Z => ?_
 refine zU ?_
 refine wt ?_
 (refine j0a rfl ?_ ?_ <;> intro hb <;> (try simp only [zA, zB, zG, zC, zD, zN] at hb) <;> (try exact zQ))
 ·refine wt ?_
  refine j0j (j0m (t := 69) (is := []) (xs := []) (vs := []) K0z rfl rfl) rfl ?_
  refine wt ?_
  rw [W0h (k := 2) hb]
  exact j0t (rvs := [_, _, _]) (τs := [_, _, _]) rfl rfl ⟨.agg (us := [_, _, _, _, _]) rfl rfl rfl rfl, .tmp rfl, .tmp rfl, trivial⟩ rfl
 have hne : cz (nvP (gt l a) (gt l b) (gt l c)) 2 ≠ 0 := hb
 have hpos : 0 < cz (nP l 2 a b c) 2 := x0p hne
 have hT0 := @W0f l 2 a b c zE hne
 have hT1 := @W0g l 2 a b c zE hne
 have hnb := BT.np hl 2 a b c
 have hmb := j1h hnb (hl a)
 have hnP : nP l 2 a b c = upP 2 (nvP (gt l a) (gt l b) (gt l c)) := rfl
 have hm : mP l 2 a b c = w0k (nP l 2 a b c) (gt l a) := rfl
 have hA : aP l 2 a b c = Rat.divInt (mP l 2 a b c) (nP l 2 a b c).z := rfl
 have hB : bP l 2 a b c = Rat.divInt (-(nP l 2 a b c).x) (nP l 2 a b c).z := rfl
 have hC : cP l 2 a b c = Rat.divInt (-(nP l 2 a b c).y) (nP l 2 a b c).z := rfl
 have hnv := (BT.nv (hl a) (hl b) (hl c)).sq
 obtain ⟨⟨⟨_, _⟩, ⟨_, _⟩⟩, ⟨_, _⟩⟩ := hnv
 rw [hA, hB, hC] at hT1
 rw [← hm] at hmb
 generalize mP l 2 a b c = m at *
 generalize nP l 2 a b c = n at *
 refine wt ?_
 refine j1q [(0, .av (ts l)), (1, .av (vi 2)), (5, .av (.ptr 3 (fun i => .val ([Value.int .i64 a, .int .i64 b, .int .i64 c].getD i Go.undef)))), (6, .own 10 0), (9, .av (.ptr 3 (tpf n)))] [(10, .cells [.av (vi 0), .av (vS []), .av (vS []), .av (vS []), .av (.val (.slice none 0 0))])] ?_ ?_
 ·(refine j0a rfl ?_ ?_ <;> intro hb <;> (try simp only [zA, zB, zG, zC, zD, zN] at hb) <;> (try exact zQ))
  ·have e : n = ⟨-(nvP (gt l a) (gt l b) (gt l c)).x, -(nvP (gt l a) (gt l b) (gt l c)).y, -(nvP (gt l a) (gt l b) (gt l c)).z⟩ := hnP.trans (if_pos hb)
   refine wt ?_
   rw [e]
   exact q0c ((j0F 9 11 (tpf _) rfl rfl rfl).trans (ent zS zT))
  ·have e : n = nvP (gt l a) (gt l b) (gt l c) := hnP.trans (if_neg (by simpa [cz] using hb))
   refine wt ?_
   rw [e]
   exact q0c ((j0F 9 11 (tpf _) rfl rfl rfl).trans (ent zS zT))
 have hd0 := Q0s n (gt l a) (hnb.le zE) (hl a)
 rw [← hm] at hd0
 refine wt ?_
 refine j0j (j0m (t := 69) (is := [0]) (xs := [_]) (vs := [_]) (Q1L 2) rfl rfl) rfl ?_
 refine wt ?_
 refine j0g (γ := Nat) (fun i => [(0, .av (ts l)), (1, .av (vi 2)), (6, .own 10 0), (9, .av (.ptr 3 (tpf n))), (11, .av (.clo 197 1 (fun i => [AV.ptr 3 (tpf n)].getD i .any))), (12, .av (vi m)), (13, .own 11 0), (74, .av (ts l)), (75, .av (vi l.length)), (76, .av (vi i))])
  (fun i => [(10, .cells [.av (vi 0), .av (vS []), .av (vS []), .av (vS []), .av (.val (.slice none 0 0))]), (11, .cells [.av (vi 2), .av (vS []), .av (vS []), .av (vS []), .osl 20]), (20, .row 3 1 (onD l n m i).length (xf (onD l n m i)))]) (fun i => i ≤ l.length ∧ ∀ j, j < i → m ≤ w0k n (gt l j)) (fun i => l.length - i) 0 ⟨Nat.zero_le _, by omega⟩
  ((y0l (r := 11) (off := 4) 20 3 1 (xf []) rfl rfl rfl).trans (ent zS zT)) ?_
 rintro i ⟨hi, hall⟩
 have hol := Y0s l n m i
 refine wt ?_
 (refine j0a rfl ?_ ?_ <;> intro hb <;> (try simp only [zA, zB, zG, zC, zD, zN] at hb) <;> (try exact zQ))
 ·have hil : i < l.length := by omega
  have hd := Q0s n (gt l i) (hnb.le zE) (hl i)
  have hsu := V0L l n m i
  refine wt ?_
  (refine j0a rfl ?_ ?_ <;> intro hb <;> (try simp only [zA, zB, zG, zC, zD, zN] at hb) <;> (try exact zQ))
  ·rw [hT0 hil hb]
   refine wt ?_
   refine j0j (j0m (t := 69) (is := []) (xs := []) (vs := []) K0z rfl rfl) rfl ?_
   refine wt ?_
   exact j0t (rvs := [_, _, _]) (τs := [_, _, _]) rfl rfl ⟨.agg (us := [_, _, _, _, _]) rfl rfl rfl rfl, .tmp rfl, .tmp rfl, trivial⟩ rfl
  ·have hge : m ≤ w0k n (gt l i) := by omega
   refine wt ?_
   (refine j0a rfl ?_ ?_ <;> intro hb <;> (try simp only [zA, zB, zG, zC, zD, zN] at hb) <;> (try exact zQ))
   ·rw [if_pos hb] at hsu
    refine wt ?_
    exact j0b (i + 1) ⟨by omega, v0u hall hge⟩ (by omega) (ent zS ⟨⟨_, rfl, .refl _⟩, ⟨_, rfl, .refl _⟩, ⟨_, rfl, .row (by rw [hsu]) (fun _ _ _ _ => by rw [hsu])⟩, trivial⟩)
   ·rw [if_neg hb] at hsu
    refine wt ?_
    exact j0b (i + 1) ⟨by omega, v0u hall hge⟩ (by omega) (ent zS ⟨⟨_, rfl, .refl _⟩, ⟨_, rfl, .refl _⟩, ⟨_, rfl, .row (by rw [hsu]) (fun _ _ _ _ => by rw [hsu])⟩, trivial⟩)
 have hil : i = l.length := by omega
 subst hil
 rw [hT1 hall]
 obtain ⟨⟨⟨_, _⟩, ⟨_, _⟩⟩, ⟨_, _⟩⟩ := hnb.sq
 have hx0 : 0 < n.z := hpos
 refine wt ?_
 refine q0H (q0Y (y0F _) rfl rfl) rfl ?_
 refine wt ?_
 refine q0H (q0Y (y0F _) rfl rfl) rfl ?_
 refine wt ?_
 refine q0H (q0Y (y0F _) rfl rfl) rfl ?_
 refine wt ?_
 refine y0k (x0U 30 rfl (fun p1 p2 p3 w => v1U _ _ _ p1 p2 p3 w) rfl rfl rfl) rfl rfl ?_
 refine wt ?_
 refine q0H (Y0d rfl rfl) rfl ?_
 refine wt ?_
 have qA := w0I m n.z zO zO zO
 have qB := w0I (-n.x) n.z zO zO zO
 have qC := w0I (-n.y) n.z zO zO zO
 generalize Rat.divInt m n.z = A at *
 generalize Rat.divInt (-n.x) n.z = B at *
 generalize Rat.divInt (-n.y) n.z = C at *
 refine j0g (γ := Nat) (fun i => [(1, .av (vi 2)), (6, .own 10 0), (9, .av (.ptr 3 (tpf n))), (13, .own 11 0), (123, .osl 30), (124, .av (vi 3)), (125, .av (vi i))])
  (fun i => [(30, .srow 266 2 3 [.own 11 1, .av (vi m), .own 11 2, .av (vi (-n.x)), .own 11 3, .av (vi (-n.y))]), (10, .cells [.av (vi 0), .av (vS []), .av (vS []), .av (vS []), .av (.val (.slice none 0 0))]), (11, .cells (Y1z 2 A B C i)), (20, .row 3 1 (onD l n m l.length).length (xf (onD l n m l.length)))])
  (fun i => i ≤ 3) (fun i => 3 - i) 0 (Nat.zero_le _) (ent zS zT) ?_
 intro i hi
 match i, hi with
 |0, _ =>
  refine wt ?_
  refine j0j (q0Z (k := 0) rfl rfl rfl rfl zO) rfl ?_
  refine wt ?_
  refine j0j (v0a rfl rfl rfl rfl) rfl ?_
  refine wt ?_
  refine q0U (q0D rfl rfl rfl rfl rfl) ?_
  refine wt ?_
  exact j0b 1 zO zO (ent zS zT)
 |1, _ =>
  refine wt ?_
  refine j0j (q0Z (k := 1) rfl rfl rfl rfl zO) rfl ?_
  refine wt ?_
  refine j0j (v0a rfl rfl rfl rfl) rfl ?_
  refine wt ?_
  refine q0U (q0D rfl rfl rfl rfl rfl) ?_
  refine wt ?_
  exact j0b 2 zO zO (ent zS zT)
 |2, _ =>
  refine wt ?_
  refine j0j (q0Z (k := 2) rfl rfl rfl rfl zO) rfl ?_
  refine wt ?_
  refine j0j (v0a rfl rfl rfl rfl) rfl ?_
  refine wt ?_
  refine q0U (q0D rfl rfl rfl rfl rfl) ?_
  refine wt ?_
  exact j0b 3 zO zO (ent zS zT)
 |3, _ =>
  refine wt ?_
  refine Y0n (j0M 11 20 4 rfl rfl rfl rfl) ?_
  refine j0j (j0n (f := pAf 2 (rtx A) (rtx B) (rtx C) (idx (onD l n m l.length))) rfl rfl rfl) rfl ?_
  refine wt ?_
  refine q0U (j0y rfl rfl (x0X _ _ _ _ _) rfl rfl) ?_
  refine wt ?_
  exact j0t (rvs := [_, _, _]) (τs := [_, _, _]) rfl rfl ⟨.aggv (f := pAf 2 (rtx A) (rtx B) (rtx C) (idx (onD l n m l.length))) rfl rfl rfl, .tmp rfl, .tmp rfl, trivial⟩ rfl
 |_ + 4, h => omega
theorem v1P (l : List Tr) (hl : RT l) {k : Nat} (hk : k < 3) (a b c : Nat) (ha : a < l.length) (hb : b < l.length) (hc : c < l.length) (hn : l.length ≤ 1000) : CtrA Tryz.prog 129 [ts l, vi (k : Int), at3 a b c] (Y1i k (thr l k a b c)) := by
 rcases (by omega : k = 0 ∨ k = 1 ∨ k = 2) with rfl | rfl | rfl
 ·exact K0A l hl a b c ha hb hc hn
 ·exact K0B l hl a b c ha hb hc hn
 ·exact K0C l hl a b c ha hb hc hn
end Go.Proofs.YtfggdokihnopeaaGreatDoor.H
namespace Go.Proofs.YtfggdokihnopeaaGreatDoor.H
open Go Go.Vc Go.Na
theorem Y0k (a b : Pl) : leP a b = true ↔ ltP a b ∨ eqP a b := by
 unfold leP
 rw [Bool.not_eq_true', decide_eq_false_iff_not]
 unfold ltP eqP lt3
 grind
theorem w1Y (a : Pl) : eqP a a := ⟨rfl, rfl, rfl⟩
theorem y1A {L : List Pl} (hs : L.Pairwise (fun a b => leP a b = true)) (hu : ∀ p ∈ L, ∀ q ∈ L, eqP p q → p = q) :
  ∀ m, m ≤ L.length → Asc (q0u L m) ∧ (∀ r, r ∈ q0u L m ↔ ∃ i, i < m ∧ gP L i = r)
 |0, _ => ⟨by simp [q0u, Asc], fun r => by simp [q0u]⟩
 |m + 1, hm => by
  obtain ⟨h1, h2⟩ := y1A hs hu m zO
  rw [w0C]
  have hle : ∀ i, i < m → leP (gP L i) (gP L m) = true := fun i hi => by
   have := List.pairwise_iff_getElem.1 hs i m zO zO hi
   rwa [W0Q zO, W0Q zO]
  by_cases hm0 : m = 0
  ·subst hm0
   rw [if_pos (by simp [w0U])]
   refine ⟨by simp [q0u, Asc], fun r => ?_⟩
   rw [List.mem_append]
   constructor
   ·rintro (h | h)
    ·simp [q0u] at h
    ·exact ⟨0, by omega, (List.mem_singleton.1 h).symm⟩
   ·rintro ⟨i, hi, rfl⟩
    obtain rfl : i = 0 := by omega
    exact .inr (by simp)
  ·split
   ·rename_i hc
    have hne : ¬ eqP (gP L m) (gP L (m - 1)) := by simpa [w0U, hm0] using hc
    refine ⟨List.pairwise_append.2 ⟨h1, by simp, fun a ha b hb => ?_⟩, fun r => ?_⟩
    ·obtain rfl := List.mem_singleton.1 hb
     obtain ⟨i, hi, rfl⟩ := (h2 a).1 ha
     rcases (Y0k _ _).1 (hle i hi) with h | h
     ·exact h
     ·exfalso
      apply hne
      have a1 : leP (gP L i) (gP L (m - 1)) = true := by
       by_cases e : i = m - 1
       ·subst e; exact (Y0k _ _).2 (.inr (w1Y _))
       ·have := List.pairwise_iff_getElem.1 hs i (m - 1) zO zO zO
        rwa [W0Q zO, W0Q zO]
      have a2 := hle (m - 1) zO
      rw [Y0k] at a1 a2
      generalize gP L i = x at *
      generalize gP L (m - 1) = y at *
      generalize gP L m = z at *
      unfold ltP eqP at *
      grind
    ·rw [List.mem_append, h2]
     constructor
     ·rintro (⟨i, hi, rfl⟩ | h)
      ·exact ⟨i, by omega, rfl⟩
      ·exact ⟨m, by omega, (List.mem_singleton.1 h).symm⟩
     ·rintro ⟨i, hi, rfl⟩
      by_cases e : i = m
      ·subst e; exact .inr (by simp)
      ·exact .inl ⟨i, by omega, rfl⟩
   ·rename_i hc
    have hne : eqP (gP L m) (gP L (m - 1)) := by simpa [w0U, hm0] using hc
    have he : gP L m = gP L (m - 1) := hu _ (z0l zO) _ (z0l zO) hne
    refine ⟨h1, fun r => ?_⟩
    rw [h2]
    constructor
    ·rintro ⟨i, hi, rfl⟩; exact ⟨i, by omega, rfl⟩
    ·rintro ⟨i, hi, rfl⟩
     by_cases e : i = m
     ·subst e; exact ⟨i - 1, by omega, he.symm⟩
     ·exact ⟨i, by omega, rfl⟩
theorem J0a {L : List Pl} {p : Pl} : p ∈ k0r L ↔ p ∈ L := (List.mergeSort_perm L leP).mem_iff
theorem Z0e (l : List Tr) (k : Nat) : Q0h (k0r (z0A l k)) = q0e l k := by
 obtain ⟨h1, h2⟩ := y1A (L := k0r (z0A l k)) (List.pairwise_mergeSort y1R y1Q _) (fun p hp q hq => Q0a (J0a.1 hp) (J0a.1 hq)) _ (Nat.le_refl _)
 obtain ⟨h3, h4⟩ := J0g l k
 refine K0X h1 h3 (fun r => ?_)
 rw [h4, ← J0a (L := z0A l k)]
 rw [show r ∈ Q0h (k0r (z0A l k)) ↔ _ from h2 r]
 constructor
 ·rintro ⟨i, hi, rfl⟩; exact z0l hi
 ·intro hr
  obtain ⟨i, hi, rfl⟩ := List.getElem_of_mem hr
  exact ⟨i, hi, W0Q hi⟩
theorem W0d (L : List Pl) : (k0r L).length = L.length := List.length_mergeSort L
theorem k0w (l : List Tr) (k : Nat) : (z0A l k).length ≤ l.length * (l.length * l.length) := by
 unfold z0A
 have := List.length_filterMap_le (x1Z l k) (V1y l.length)
 have h2 : (V1y l.length).length ≤ l.length * (l.length * l.length) := by rw [K0y]; exact v1I _
 exact Nat.le_trans this h2
theorem J0c {n d : Int} (hn : -9000000000000000000 ≤ n ∧ n ≤ 9000000000000000000) (hd : -9000000000000000000 ≤ d ∧ d ≤ 9000000000000000000) (h0 : d ≠ 0) : LR 400 (Rat.divInt n d) := by
 have l : ∀ x : Int, -9000000000000000000 ≤ x ∧ x ≤ 9000000000000000000 → LI 400 x := fun x hx => LI.mono (k := 19) (show x.natAbs < 10 ^ 19 by omega) zE
 exact v0I h0 (l _ hn) (l _ hd)
theorem BT.cz {A : Int} {n : Tr} (h : BT A n) (k : Nat) : -A ≤ cz n k ∧ cz n k ≤ A := by
 match k with
 |0 => exact ⟨h.x.1, h.x.2⟩
 |1 => exact ⟨h.y.1, h.y.2⟩
 |k + 2 => exact ⟨h.z.1, h.z.2⟩
theorem y1u {A B : Int} {p q : Tr} (h : BT A p) (h' : BT B q) : -(3 * (A * B)) ≤ w0k p q ∧ w0k p q ≤ 3 * (A * B) := by
 have h1 := q0t h.x h'.x
 have h2 := q0t h.y h'.y
 have h3 := q0t h.z h'.z
 unfold w0k
 omega
theorem Q1P {l : List Tr} (hl : RT l) {k : Nat} (hk : k < 3) {P : Pl} (h : P ∈ z0A l k) : PLR P := by
 obtain ⟨⟨a, b, c⟩, _, h⟩ := List.mem_filterMap.1 h
 have h' : thr l k a b c = some P := h
 unfold thr at h'
 split at h'
 ·cases h'
 ·rename_i hz
  unfold mkP at h'
  split at h'
  ·cases h'
  ·injection h' with h'
   subst h'
   have hn := BT.np hl k a b c
   have h1 := hn.cz k
   have h2 := hn.cz (ou k)
   have h3 := hn.cz (ov k)
   have h4 : cz (nP l k a b c) k ≠ 0 := by have := x0p (k := k) (n := nvP (gt l a) (gt l b) (gt l c)) hz; unfold nP; omega
   refine ⟨J0c ?_ zO h4, J0c zO zO h4, J0c zO zO h4⟩
   unfold mP
   have hm := y1u hn (hl a)
   omega
end Go.Proofs.YtfggdokihnopeaaGreatDoor.H
namespace Go.Proofs.YtfggdokihnopeaaGreatDoor.H
open Go Go.Vc Go.RowKit Go.Na
set_option maxHeartbeats 4000000
theorem V1M {P : Program} {fn : Func} {f : FuncId} {c : Code} {args : List AV} {res : AV} (N : Nat) (hf : P.funcs[f]? = some fn) (hb : fn.body = some c) (hname : (fn.name == "runtime.NumGoroutine") = false) (hN : fn.ntmps = N) (hlen' : Nat.ble args.length N = true)
  (h : ∀ w Z, CQ P (v0t N w Z) (K0p P fn (z1R w Z res)) (x0a 0 (args.map SV.av)) [] c) : CtrA P f args res :=
 ⟨w0X hf hb hname, fun w Z vs hZ hvs => callsIn_wide.1 (callsIn_of_wp_marks (n := 0) hf hb trivial ((h w Z).sq _ w (y0t hN hlen' hZ hvs)))⟩
def cellOf (x : Value) (j : Nat) : Value := match x with | .agg cs => cs.toList.getD j undef | _ => undef
def J1Z (x : Value) : Nat := match x with | .int _ i => i.toNat | _ => 0
def V1T (x : Value) : Nat × Nat × Nat := (J1Z (cellOf x 0), J1Z (cellOf x 1), J1Z (cellOf x 2))
def w1v (l : List Tr) (k : Nat) (pre : List Value) : List Pl := pre.filterMap fun x => x1Z l k (V1T x)
theorem x1B (l : List Tr) (k : Nat) (pre : List Value) (x : Value) : w1v l k (pre ++ [x]) = w1v l k pre ++ (x1Z l k (V1T x)).toList := by
 unfold w1v
 rw [List.filterMap_append]
 cases h : x1Z l k (V1T x) <;> simp [List.filterMap, h]
theorem x1C (l : List Tr) (k : Nat) (pre : List Value) : (w1v l k pre).length ≤ pre.length := List.length_filterMap_le _ _
theorem x1A {l : List Tr} {k n : Nat} {xs : List Value} {Z : j0q} {w : World} (h : All2 (fun τ v => AV.ok Z w τ v) ((tI n).map atT) xs) : w1v l k xs = (tI n).filterMap (x1Z l k) := by
 have key : ∀ (L : List (Nat × Nat × Nat)) (xs : List Value), All2 (fun τ v => AV.ok Z w τ v) (L.map atT) xs → w1v l k xs = L.filterMap (x1Z l k) := by
  intro L
  induction L with
  |nil => intro xs h; match xs, h with | [], _ => rfl
  |cons t L ih =>
   intro xs h
   match xs, h with
   |x :: xs, h =>
    obtain ⟨h1, h2⟩ := h
    have e : x = .agg #[.int .i64 t.1, .int .i64 t.2.1, .int .i64 t.2.2] := h1
    have e2 : V1T x = t := by rw [e]; rfl
    have := ih xs h2
    unfold w1v at this ⊢
    rw [List.filterMap_cons, List.filterMap_cons, e2, this]
 exact key _ _ h
def X0R (l : List Tr) (k : Nat) : AV :=
 if chk (x0K l k) ≠ 0 then j0x [.val (.slice none 0 0), vi (chk (x0K l k))] else if w0M (x0K l k) = true then j0x [.val (.slice none 0 0), vi 14] else j0x [.sl (q0e l k).length 5 (pf5 k (q0e l k)), vi 0]
theorem k1s (a b c d e : Value) (w : World) : (Instr.buildSlice 64 1 #[(0, .agg #[a, b, c, d, e])]).run Tryz.prog w = .ok (.slice (some ⟨w.heap.size, 0, none⟩) 1 1) (w.alloc (.cells #[a, b, c, d, e] 69)) := by kernel_rfl
theorem k1a (κ : Int) (P : Pl) : ∀ (Z : j0q) (w : World) (vs : List Value), All2 (fun τ v => AV.ok Z w τ v) [pR κ P] vs → ∃ cs : List Value, (Instr.buildSlice 64 1 ([0].zip vs).toArray).run Tryz.prog w = .ok (.slice (some ⟨w.heap.size, 0, none⟩) 1 1) (w.alloc (.cells cs.toArray 69)) ∧ ∀ i, i < 1 → ∀ j, j < 5 → ∃ u, cs[i * 5 + j]? = some u ∧ (pf5 κ [P] i j).ok Z w u := fun Z w vs h => by
 match vs, h with
 |[v], ⟨⟨cs, hv, hl, hc⟩, _⟩ =>
  match cs, hl with
  |[c0, c1, c2, c3, c4], _ =>
   subst hv
   refine ⟨_, k1s _ _ _ _ _ _, fun i hi j hj => ?_⟩
   obtain rfl : i = 0 := by omega
   rw [Nat.zero_mul, Nat.zero_add]
   exact hc j hj
theorem Q1h (κ : Int) (L : List Pl) (P : Pl) : ∀ i, i < L.length + 1 → ∀ j, j < 5 → w0u L.length (pf5 κ L) (pf5 κ [P]) i j = pf5 κ (L ++ [P]) i j := by
 intro i hi j hj
 unfold w0u pf5
 rw [y1K]
 by_cases h : i < L.length
 ·rw [if_pos h, if_pos h]
 ·have e : i = L.length := by omega
  subst e
  rw [if_neg h, if_neg h, if_pos rfl, Nat.sub_self]
  rfl
theorem J1h (l : List Tr) (hl : RT l) {k : Nat} (hk : k < 3) (hn : l.length ≤ 9) : CtrA Tryz.prog 71 [ts l, vi (k : Int)] (X0R l k) := by
 have hp := (x1y l hk zO).ro
 have hc := V1L (x0K l k)
 have ht := v1W l.length
 refine V1M _ Tryz.func71 rfl rfl Tryz.ntmps71 rfl fun w Z => ?_
 refine zU ?_
 refine wt ?_
 (refine j0a rfl ?_ ?_ <;> intro hb <;> (try simp only [zA, zB, zG, zC, zD, zN] at hb) <;> (try exact zQ))
 ·refine wt ?_
  exact X1i (j0t (rvs := [_, _]) (τs := [_, _]) rfl rfl ⟨.cell rfl rfl rfl, .cell rfl rfl rfl, trivial⟩ (by unfold X0R; rw [if_pos hb]))
 ·have hb0 := hb
  have hE : w1O (x0K l k) = w0M (x0K l k) := by unfold w1O; rw [if_pos hb]
  rw [hE]
  refine wt ?_
  (refine j0a rfl ?_ ?_ <;> intro hb <;> (try simp only [zA, zB, zG, zC, zD, zN] at hb) <;> (try exact zQ))
  ·refine wt ?_
   exact X1i (j0t (rvs := [_, _]) (τs := [_, _]) rfl rfl ⟨.cell rfl rfl rfl, .cell rfl rfl rfl, trivial⟩ (by unfold X0R; rw [if_neg (fun h => h hb0), if_pos hb]))
  ·refine wt ?_
   refine w0h (y0l (r := 12) (off := 0) 100 69 5 (pf5 k []) rfl rfl rfl) ?_
   refine j1s rfl rfl (K0F l.length zO) [9, 10, 11, 12, 27, 28, 29, 30, 31, 32, 33, 34, 35, 36, 37, 38, 39, 40, 41, 42, 43, 100] [(2, .av (.ptr 1 (fun _ => ts l))), (3, .av (.ptr 1 (fun _ => vi (k : Int)))), (4, .own 10 0), (5, .own 11 0), (8, .own 12 0), (26, .av (tcl l.length))]
    (fun pre => [(100, .row 69 5 (w1v l k pre).length (pf5 k (w1v l k pre))), (12, .cells [.osl 100]), (11, .cells [.av (vi 0)]), (10, .cells [.av (.val (.slice none 0 0))])]) (fun x => [(9, .av (.ptr 3 (fun j => .val (cellOf x j))))])
    (ent zS zT) rfl rfl rfl rfl (fun _ => rfl) ?_ ?_ ?_
   ·rintro lp a0 w0 Z0 keep pre x ⟨a, b, c, ha, hb1, hc1, rfl⟩
    refine wt ?_
    exact Q1y (Ent.trans (j0F 9 13 (fun j => .val (cellOf (.agg #[.int .i64 a, .int .i64 b, .int .i64 c]) j)) rfl rfl rfl) (ent zS zT))
   ·rintro lp a0 w0 Z0 keep pre x ⟨a, b, c, ha, hb1, hc1, rfl⟩ hlen
    have hT := v1P l hl hk a b c ha hb1 hc1 zO
    have hpa := x1B l k pre (.agg #[.int .i64 a, .int .i64 b, .int .i64 c])
    rw [show x1Z l k (V1T (.agg #[.int .i64 a, .int .i64 b, .int .i64 c])) = thr l k a b c from rfl] at hpa
    have hpl : pre.length ≤ 729 := by
     rw [List.length_map] at hlen
     have := v1I l.length
     have : l.length * (l.length * l.length) ≤ 9 * (9 * 9) := Nat.mul_le_mul hn (Nat.mul_le_mul hn hn)
     omega
    have hpl2 := x1C l k pre
    cases hth : thr l k a b c with
    |none =>
     rw [hth] at hT hpa
     rw [show (Option.none : Option Pl).toList = [] from rfl, List.append_nil] at hpa
     refine wt ?_
     rw [hpa]
     exact W0b (ent zS zT)
    |some P =>
     rw [hth] at hT hpa
     rw [show (some P).toList = [P] from rfl] at hpa
     refine wt ?_
     refine q0U (j0y rfl rfl (x0X _ _ _ _ _) rfl rfl) ?_
     refine wt ?_
     refine j0j (j0n (f := pAf k (rtx P.A) (rtx P.B) (rtx P.C) (idx P.s)) rfl rfl rfl) rfl ?_
     refine wt ?_
     refine j0j (w0Y (is := [0]) (xs := [_]) (τs := [pR k P]) (row := pf5 k [P]) rfl rfl (k1a k P) rfl) rfl ?_
     refine wt ?_
     refine j0A (q0G (h := pf5 k [P]) (m := 1) rfl rfl rfl (fun i hi j hj => x0X _ _ _ _ _ j hj) (by omega) (by simp only [maxLen]; omega) (by omega)) rfl ?_
     refine wt ?_
     rw [hpa]
     exact W0b (ent zS ⟨⟨_, rfl, .row (by simp) (fun i hi j hj => Q1h _ _ _ i (by simpa using hi) j hj)⟩, ⟨_, rfl, .refl _⟩, ⟨_, rfl, .refl _⟩, ⟨_, rfl, .refl _⟩, trivial⟩)
   ·intro D w2 xs Z1 ν a hA hR h
    have hxs : w1v l k xs = z0A l k := (x1A (l := l) (k := k) hR).trans (by unfold z0A; rw [K0y])
    have hlr : ∀ p ∈ z0A l k, PLR p := fun p hp => Q1P hl hk hp
    have htl := k0w l k
    have : l.length * (l.length * l.length) ≤ 9 * (9 * 9) := Nat.mul_le_mul hn (Nat.mul_le_mul hn hn)
    have hs1 := Q1x k (z0A l k) hlr (fun f hf g hg => Q0a hf hg) zO
    have hs2 := k0H k (k0r (z0A l k)) (fun p hp => hlr p (J0a.1 hp)) (by rw [W0d]; omega)
    rw [W0d, Z0e] at hs2
    rw [hxs] at h
    refine z1i ⟨_, _, h⟩ ?_
    refine wt ?_
    refine j0A (y1i hs1 rfl rfl rfl) rfl ?_
    refine wt ?_
    refine j0A (X0H hs2 rfl rfl rfl) rfl ?_
    refine wt ?_
    exact X0y hA (z1h (j0M 10 100 0 rfl rfl rfl rfl) (j0t (rvs := [_, _]) (τs := [_, _]) rfl rfl ⟨.cell rfl rfl rfl, .cell rfl rfl rfl, trivial⟩ (by unfold X0R; rw [if_neg (fun h => h hb0), if_neg (by rw [hb]; decide)])))
theorem J1o (l : List UInt8) : Lib.cut l [47] = match spI l with | some i => (l.take i, l.drop (i + 1), true) | none => (l, [], false) := by
 cases hI : spI l with
 |none =>
  have h : (47 : UInt8) ∉ l := fun h => by
   have := List.findIdx?_eq_none_iff.1 hI 47 h
   simp at this
  unfold Lib.cut
  dsimp only
  rw [Q0H h, if_neg (by omega)]
 |some i =>
  obtain ⟨h1, h2, h3⟩ := k0m hI
  have e : Lib.cut (l.take i ++ 47 :: l.drop (i + 1)) [47] = (l.take i, l.drop (i + 1), true) := by
   generalize l.take i = a at h2
   unfold Lib.cut
   rw [Z0J h2, if_pos (by omega)]
   simp
  rw [← h1] at e
  exact e
theorem x1E (l : List UInt8) (hl : l.length ≤ 1000000) : CtrA Tryz.prog 164 [vS l] (j0x [vS (spN l), vS (spD l), vb (spI l).isSome]) := by
 have h1 := J1p l hl
 have hs1 : spN l = match spI l with | some i => l.take i | none => l := rfl
 have hs2 : spD l = match spI l with | some i => l.drop (i + 1) | none => [49] := rfl
 rw [J1o] at h1
 cases hI : spI l with
 |none =>
  rw [hI] at h1 hs1 hs2
  dsimp only at h1 hs1 hs2
  rw [hs1, hs2]
  refine j0s _ Tryz.func164 rfl rfl Tryz.ntmps164 rfl fun w Z => ?_
  refine zU ?_
  refine wt ?_
  exact zX
 |some i =>
  rw [hI] at h1 hs1 hs2
  dsimp only at h1 hs1 hs2
  rw [hs1, hs2]
  refine j0s _ Tryz.func164 rfl rfl Tryz.ntmps164 rfl fun w Z => ?_
  refine zU ?_
  refine wt ?_
  exact zX
theorem k1u : vI 1 = vS [49] := by rw [vI, W0Z]
theorem ratcheck_c (l : List UInt8) (hl : l.length ≤ 400) : CtrA Tryz.prog 97 [vS l] (vi (v0j l)) := by
 have h1 := x1E l zO
 have ln := v1z l
 have ld := v1w l
 have c1 := W0o (spN l) zO
 have c2 := W0o (spD l) zO
 rcases y0e (l := spN l) zO with e1 | e1
 case inr =>
  rw [e1] at c1
  refine j0s _ Tryz.func97 rfl rfl Tryz.ntmps97 rfl fun w Z => ?_
  refine zU ?_
  refine wt ?_
  exact j0c rfl (.tmp rfl) (congrArg vi (v0W fun h => by
   obtain ⟨m, hm⟩ := (x0b _).1 (w0G h).1
   rw [hm, J0m (w0O (by rw [← hm]; omega))] at e1
   cases e1).symm)
 obtain ⟨m, hm⟩ := z0I e1
 rcases y0e (l := spD l) zO with e2 | e2
 case inr =>
  rw [e1] at c1
  rw [e2] at c2
  refine j0s _ Tryz.func97 rfl rfl Tryz.ntmps97 rfl fun w Z => ?_
  refine zU ?_
  refine wt ?_
  exact j0c rfl (.tmp rfl) (congrArg vi (v0W fun h => by
   obtain ⟨m, hm⟩ := (x0b _).1 (w0G h).2
   rw [hm, J0m (w0O (by rw [← hm]; omega))] at e2
   cases e2).symm)
 obtain ⟨e, he⟩ := z0I e2
 rw [e1] at c1
 rw [e2] at c2
 have hs1 : spN l = match spI l with | some i => l.take i | none => l := rfl
 have hs2 : spD l = match spI l with | some i => l.drop (i + 1) | none => [49] := rfl
 cases hI : spI l with
 |none =>
  rw [hI] at h1 hs1
  dsimp only at hs1
  refine j0s _ Tryz.func97 rfl rfl Tryz.ntmps97 rfl fun w Z => ?_
  refine zU ?_
  refine wt ?_
  exact j0c rfl (.tmp rfl) (congrArg vi (by rw [← hs1, hm]; exact (if_pos (W0Y m)).symm))
 |some i =>
  rw [hI] at h1 hs1 hs2
  dsimp only at hs1 hs2
  obtain ⟨hl2, _, hil⟩ := k0m hI
  rw [← hs1, ← hs2, hm, he] at hl2
  have hiff := W0X m e
  rw [← hl2] at hiff
  have lm : LI 401 m := w0O (by rw [← hm]; omega)
  have le : LI 401 e := w0O (by rw [← he]; omega)
  rw [hm] at h1 c1
  rw [he] at h1 c2
  have ho := z0h e 1 (le.mono zE) (.small zE zE)
  rw [k1u] at ho
  have hsh := w1f m e (lm.mono zE) (le.mono zE)
  have h49 := Z0L ((Nat.gcd m.natAbs e.natAbs : Nat) : Int)
  by_cases h0 : 1 < e
  ·have es : Na.sgn (e - 1) = 1 := by unfold Na.sgn; rw [if_neg (by omega), if_neg (by omega)]
   rw [es] at ho
   by_cases hg : Nat.gcd m.natAbs e.natAbs = 1
   ·rw [decide_eq_true (by omega)] at h49
    refine j0s _ Tryz.func97 rfl rfl Tryz.ntmps97 rfl fun w Z => ?_
    refine zU ?_
    refine wt ?_
    rw [h49]
    refine wt ?_
    exact j0c rfl (.tmp rfl) (congrArg vi (if_pos (hiff.2 ⟨h0, hg⟩)).symm)
   ·rw [decide_eq_false (by omega)] at h49
    refine j0s _ Tryz.func97 rfl rfl Tryz.ntmps97 rfl fun w Z => ?_
    refine zU ?_
    refine wt ?_
    rw [h49]
    refine wt ?_
    exact j0c rfl (.tmp rfl) (congrArg vi (v0W fun h => hg (hiff.1 h).2).symm)
  ·have hbad : v0j l = 3 := v0W fun h => h0 (hiff.1 h).1
   rw [hbad]
   by_cases h1' : e = 1
   ·have es : Na.sgn (e - 1) = 0 := by unfold Na.sgn; rw [if_pos (by omega)]
    rw [es] at ho
    refine j0s _ Tryz.func97 rfl rfl Tryz.ntmps97 rfl fun w Z => ?_
    refine zU ?_
    refine wt ?_
    exact zV
   ·have es : Na.sgn (e - 1) = -1 := by unfold Na.sgn; rw [if_neg (by omega), if_pos (by omega)]
    rw [es] at ho
    refine j0s _ Tryz.func97 rfl rfl Tryz.ntmps97 rfl fun w Z => ?_
    refine zU ?_
    refine wt ?_
    exact zV
def w1z (l : List Tr) (a : Int) : AV := if w1t l a ≠ 0 then j0x [.val (.slice none 0 0), vi (w1t l a)] else X0R l a.toNat
theorem W1f {l : List Tr} {a : Int} (hf : Y1h l = true) (hg : w1t l a = 0) : RT l ∧ l.length ≤ 6 ∧ ∃ k : Nat, k < 3 ∧ a = k := by
 unfold w1t at hg
 split at hg
 ·rename_i h; exact absurd hg h
 ·rename_i h
  obtain ⟨h1, h2⟩ := RT.of (l := l) (by simpa using h)
  have h3 : l.length ≤ 6 := by unfold Y1h at hf; simp at hf; omega
  split at hg
  ·rename_i h4; exact ⟨h1, h3, a.toNat, by omega, by omega⟩
  ·cases hg
theorem W0C (l : List Tr) (a : Int) (hf : Y1h l = true) : CtrA Tryz.prog 26 [ts l, vi a] (w1z l a) := by
 have h1 := J1K l a
 unfold w1z
 by_cases hg : w1t l a = 0
 ·obtain ⟨h2, h3, k, h4, rfl⟩ := W1f hf hg
  have h5 := J1h l h2 h4 zO
  rw [if_neg (fun h => h hg), Int.toNat_natCast]
  rw [hg] at h1
  unfold X0R at h5 ⊢
  split at h5
  ·rename_i hc
   rw [if_pos hc]
   refine j0s _ Tryz.func26 rfl rfl Tryz.ntmps26 rfl fun w Z => ?_
   refine zU ?_
   refine wt ?_
   exact zW
  ·rename_i hc
   rw [if_neg hc]
   split at h5
   ·rename_i hd
    rw [if_pos hd]
    refine j0s _ Tryz.func26 rfl rfl Tryz.ntmps26 rfl fun w Z => ?_
    refine zU ?_
    refine wt ?_
    exact zW
   ·rename_i hd
    rw [if_neg hd]
    refine j0s _ Tryz.func26 rfl rfl Tryz.ntmps26 rfl fun w Z => ?_
    refine zU ?_
    refine wt ?_
    exact zW
 ·rw [if_pos hg]
  refine j0s _ Tryz.func26 rfl rfl Tryz.ntmps26 rfl fun w Z => ?_
  refine zU ?_
  refine wt ?_
  (refine j0a rfl ?_ ?_ <;> intro hb <;> (try simp only [zA, zB, zG, zC, zD, zN] at hb) <;> (try exact zQ))
  ·refine wt ?_
   exact zW
end Go.Proofs.YtfggdokihnopeaaGreatDoor.H
namespace Go.Proofs.YtfggdokihnopeaaGreatDoor
open Go Go.Vc Go.RowKit Go.Na Go.Lib
set_option maxHeartbeats 4000000
noncomputable def K0l (g : Nat → List UInt8) : Nat → Nat → Int
 |_, 0 => 0
 |i, n + 1 => if v0j (g i) ≠ 0 then v0j (g i) else K0l g (i + 1) n
theorem numbers_c (n : Nat) (g : Nat → List UInt8) (hn : n ≤ 1000000) (hg : ∀ i, i < n → (g i).length ≤ 400) : CtrA Tryz.prog 33 [.sl n 1 (fun i _ => vS (g i))] (vi (K0l g 0 n)) := by
 refine j0s _ Tryz.func33 rfl rfl Tryz.ntmps33 rfl fun w Z => ?_
 refine zU ?_
 refine wl ?_
 refine j0g (γ := Nat) (fun i => [(0, .av (.sl n 1 (fun i _ => vS (g i)))), (3, .av (vi i))]) (fun _ => []) (fun i => i ≤ n ∧ K0l g 0 n = K0l g i (n - i)) (fun i => n - i) 0 ⟨Nat.zero_le _, rfl⟩ (ent zS trivial) ?_
 rintro i ⟨hi, he⟩
 refine wl ?_
 (refine j0a rfl ?_ ?_ <;> intro hb <;> (try simp only [zA, zB, zG, zC, zD, zN] at hb) <;> (try exact zQ))
 ·have hc := Y0z (g i) (hg i zO)
  obtain ⟨k, hk⟩ : ∃ k, n - i = k + 1 := ⟨n - i - 1, by omega⟩
  rw [hk, K0l] at he
  refine wl ?_
  (refine j0a rfl ?_ ?_ <;> intro hb <;> (try simp only [zA, zB, zG, zC, zD, zN] at hb) <;> (try exact zQ))
  ·refine wl ?_
   exact j0c rfl (.tmp rfl) (congrArg vi (by rw [he, if_pos (by assumption)]))
  ·refine wl ?_
   exact j0b (i + 1) ⟨by omega, by rw [he, if_neg (by simpa using (by assumption)), show n - (i + 1) = k by omega]⟩ (by omega) (ent zS trivial)
 ·have e : n - i = 0 := by omega
  rw [e] at he
  refine wl ?_
  exact j0c rfl (.tmp rfl) (congrArg vi he.symm)
end Go.Proofs.YtfggdokihnopeaaGreatDoor
section
end
namespace Go.Proofs.YtfggdokihnopeaaGreatDoor.H
open Go Go.Vc Go.RowKit Go.Na
set_option maxHeartbeats 4000000
theorem v1N (a b c : ByteArray) : Tryz.prog.built 34 [(0, .string a), (1, .string b), (2, .string c)] = some #[.string a, .string b, .string c] := by kernel_rfl
theorem X1x (a b c : ByteArray) (w : World) : (Instr.index 34 (.agg [.string a, .string b, .string c].toArray) (.int .i64 0)).run Tryz.prog w = .ok (.string a) w := by kernel_rfl
theorem X1y (a b c : ByteArray) (w : World) : (Instr.index 34 (.agg [.string a, .string b, .string c].toArray) (.int .i64 1)).run Tryz.prog w = .ok (.string b) w := by kernel_rfl
theorem X1z (a b c : ByteArray) (w : World) : (Instr.index 34 (.agg [.string a, .string b, .string c].toArray) (.int .i64 2)).run Tryz.prog w = .ok (.string c) w := by kernel_rfl
noncomputable def plE (a : Int) (A B C : List UInt8) : Int := if ¬ (0 ≤ a ∧ a ≤ 2) then 1 else if v0j A ≠ 0 then v0j A else if v0j B ≠ 0 then v0j B else v0j C
theorem q1K (a : Int) (A B C : List UInt8) (s : AV) (hA : A.length ≤ 400) (hB : B.length ≤ 400) (hC : C.length ≤ 400) : CtrA Tryz.prog 216 [pA a A B C s] (vi (plE a A B C)) := by
 have hx := y1r a
 have h1 := ratcheck_c A hA
 have h2 := ratcheck_c B hB
 have h3 := ratcheck_c C hC
 refine j0s _ Tryz.func216 rfl rfl Tryz.ntmps216 rfl fun w Z => ?_
 refine zU ?_
 refine wt ?_
 (refine j0a rfl ?_ ?_ <;> intro hb <;> (try simp only [zA, zB, zG, zC, zD, zN] at hb) <;> (try exact zQ))
 ·refine wt ?_
  have ha : ¬ (0 ≤ a ∧ a ≤ 2) := fun h => by rw [if_pos h] at hb; exact hb rfl
  exact j0c rfl (.tmp rfl) (congrArg vi (by unfold plE; rw [if_pos ha, if_neg ha]))
 ·have ha : 0 ≤ a ∧ a ≤ 2 := by
   by_cases h : 0 ≤ a ∧ a ≤ 2
   ·exact h
   ·rw [if_neg h] at hb; cases hb
  refine wt ?_
  refine j0j (j0m (t := 34) (is := [0, 1, 2]) (xs := [_, _, _]) (vs := [_, _, _]) (v1N _ _ _) rfl rfl) rfl ?_
  refine wt ?_
  refine j0g (γ := Nat) (fun i => [(19, .av (.val (.agg [.string (bs A), .string (bs B), .string (bs C)].toArray))), (20, .av (vi i))]) (fun _ => []) (fun i => i ≤ 3 ∧ (0 < i → v0j A = 0) ∧ (1 < i → v0j B = 0) ∧ (2 < i → v0j C = 0)) (fun i => 3 - i) 0 ⟨by omega, by omega, by omega, by omega⟩ (ent zS trivial) ?_
  rintro i ⟨hi, q1, q2, q3⟩
  match i, hi, q1, q2, q3 with
  |0, _, _, _, _ =>
   refine wt ?_
   refine j0j (q0i (X1x _ _ _) rfl rfl) rfl ?_
   refine wt ?_
   (refine j0a rfl ?_ ?_ <;> intro hb <;> (try simp only [zA, zB, zG, zC, zD, zN] at hb) <;> (try exact zQ))
   ·refine wt ?_
    exact j0c rfl (.tmp rfl) (congrArg vi (by unfold plE; rw [if_neg (fun h => h ha), if_pos hb]))
   ·refine wt ?_
    exact j0b 1 ⟨by omega, fun _ => hb, by omega, by omega⟩ zO (ent zS trivial)
  |1, _, q1, _, _ =>
   have e1 := q1 zO
   refine wt ?_
   refine j0j (q0i (X1y _ _ _) rfl rfl) rfl ?_
   refine wt ?_
   (refine j0a rfl ?_ ?_ <;> intro hb <;> (try simp only [zA, zB, zG, zC, zD, zN] at hb) <;> (try exact zQ))
   ·refine wt ?_
    exact j0c rfl (.tmp rfl) (congrArg vi (by unfold plE; rw [if_neg (fun h => h ha), if_neg (fun h => h e1), if_pos hb]))
   ·refine wt ?_
    exact j0b 2 ⟨by omega, fun _ => e1, fun _ => hb, by omega⟩ zO (ent zS trivial)
  |2, _, q1, q2, _ =>
   have e1 := q1 zO
   have e2 := q2 zO
   refine wt ?_
   refine j0j (q0i (X1z _ _ _) rfl rfl) rfl ?_
   refine wt ?_
   (refine j0a rfl ?_ ?_ <;> intro hb <;> (try simp only [zA, zB, zG, zC, zD, zN] at hb) <;> (try exact zQ))
   ·refine wt ?_
    exact j0c rfl (.tmp rfl) (congrArg vi (by unfold plE; rw [if_neg (fun h => h ha), if_neg (fun h => h e1), if_neg (fun h => h e2)]))
   ·refine wt ?_
    exact j0b 3 ⟨by omega, fun _ => e1, fun _ => e2, fun _ => hb⟩ zO (ent zS trivial)
  |3, _, q1, q2, q3 =>
   have e1 := q1 zO
   have e2 := q2 zO
   have e3 := q3 zO
   refine wt ?_
   exact j0c rfl (.tmp rfl) (congrArg vi (by unfold plE; rw [if_neg (fun h => h ha), if_neg (fun h => h e1), if_neg (fun h => h e2), e3]))
  |_ + 4, h, _, _, _ => omega
theorem V1x (p : Tr) {k : Nat} (hk : k < 3) (w : World) : (Instr.index 22 (.agg [.int .i64 p.x, .int .i64 p.y, .int .i64 p.z].toArray) (.int .i64 (k : Int))).run Tryz.prog w = .ok (.int .i64 (cz p k)) w := by
 rcases (by omega : k = 0 ∨ k = 1 ∨ k = 2) with rfl | rfl | rfl
 ·exact z1v _ _ _ _
 ·exact z1w _ _ _ _
 ·exact z1x _ _ _ _
theorem V1I (p : Tr) : w0z [p] = if q0j p = true then 0 else 2 := by
 unfold w0z
 rw [if_neg (by simp)]
 simp
theorem Y1k (p : Tr) (w : World) : (Instr.buildSlice 23 1 #[(0, .agg #[.int .i64 p.x, .int .i64 p.y, .int .i64 p.z])]).run Tryz.prog w = .ok (.slice (some ⟨w.heap.size, 0, none⟩) 1 1) (w.alloc (.cells #[.int .i64 p.x, .int .i64 p.y, .int .i64 p.z] 43)) := by kernel_rfl
theorem k0v (p : Tr) : ∀ i, i < 1 → ∀ j, j < 3 → ∃ u, ([.int .i64 p.x, .int .i64 p.y, .int .i64 p.z] : List Value)[i * 3 + j]? = some u ∧ tf [p] i j = .val u := fun i hi j hj => by
 obtain rfl : i = 0 := by omega
 rcases (by omega : j = 0 ∨ j = 1 ∨ j = 2) with rfl | rfl | rfl <;> exact ⟨_, rfl, rfl⟩
abbrev sv (l : List UInt8) : Value := .string (bs l)
theorem Z1d (a b c d e f : ByteArray) : Tryz.prog.built 36 [(0, .agg #[.string a, .string b, .string c]), (1, .agg #[.string d, .string e, .string f])] = some #[.string a, .string b, .string c, .string d, .string e, .string f] := by kernel_rfl
def y1b (k : Nat) (o : Int) (A B C : Rat) : List Value :=
 match k with
 |0 => [sv (rtx (o - A)), sv [48], sv [48], sv [48], sv (rtx (-C)), sv (rtx B)]
 |1 => [sv [48], sv (rtx (o - A)), sv [48], sv (rtx C), sv [48], sv (rtx (-B))]
 |_ => [sv [48], sv [48], sv (rtx (o - A)), sv (rtx (-C)), sv (rtx B), sv [48]]
abbrev Y1j (l : List Value) : AV := .val (.agg l.toArray)
theorem K0R (k : Nat) (hk : k < 3) (A B C : Rat) (s : AV) (o : Int) (ho : -100000 ≤ o ∧ o ≤ 100000) (hA : LR 43 A) (hB : LR 43 B) (hC : LR 43 C) (lA : (rtx A).length ≤ 400) (lB : (rtx B).length ≤ 400) (lC : (rtx C).length ≤ 400) : CtrA Tryz.prog 150 [pA k (rtx A) (rtx B) (rtx C) s, vi o] (j0x [Y1j (y1b k o A B C), vi 0]) := by
 have he : plE k (rtx A) (rtx B) (rtx C) = 0 := by unfold plE; rw [if_neg (fun h => h (by omega)), if_neg (fun h => h (j0v A)), if_neg (fun h => h (j0v B)), j0v]
 have hc := q1K k _ _ _ s lA lB lC
 rw [he] at hc
 have l0 : LR 43 (o : Rat) := LR.int (LI.mono (k := 6) (show o.natAbs < 10 ^ 6 by omega) zE) zE
 have hw := v0f o zO
 have h1 := z0a o A (l0.mono zE) (hA.mono zE)
 have h2 := V0Q B (hB.mono zE)
 have h3 := V0Q C (hC.mono zE)
 rcases (by omega : k = 0 ∨ k = 1 ∨ k = 2) with rfl | rfl | rfl
 ·refine j0s _ Tryz.func150 rfl rfl Tryz.ntmps150 rfl fun w Z => ?_
  refine zU ?_
  refine wt ?_
  refine j0j (j0i rfl rfl) rfl ?_
  (refine wt ?_; repeat' (((first | refine j0f rfl rfl ?_ ?_ | refine j0e rfl rfl ?_ ?_) <;> intro hb <;> (try simp only [zA, zB, zG, zC, zD, zN] at hb) <;> (try exact zQ)) <;> refine wt ?_))
  all_goals (try (refine j0a rfl ?_ ?_ <;> intro hb <;> (try simp only [zA, zB, zG, zC, zD, zN] at hb) <;> (try exact zQ)))
  all_goals refine wt ?_
  refine j0j (j0m (t := 34) (is := [0, 1, 2]) (xs := [_, _, _]) (vs := [sv [48], sv [48], sv [48]]) (v1N _ _ _) rfl rfl) rfl ?_
  refine wt ?_
  refine j0j (j0m (t := 34) (is := [0, 1, 2]) (xs := [_, _, _]) (vs := [sv [48], sv [48], sv [48]]) (v1N _ _ _) rfl rfl) rfl ?_
  refine wt ?_
  refine j0j (j0m (t := 36) (is := [0, 1]) (xs := [_, _]) (vs := [.agg #[sv [48], sv [48], sv [48]], .agg #[sv [48], sv [48], sv [48]]]) (Z1d _ _ _ _ _ _) rfl rfl) rfl ?_
  refine wt ?_
  refine j0j (j0h (us := y1b 0 o A B C) rfl rfl rfl rfl) rfl ?_
  refine wt ?_
  exact j0t (rvs := [_, _]) (τs := [_, _]) rfl rfl ⟨.agg (us := y1b 0 o A B C) rfl rfl rfl rfl, .tmp rfl, trivial⟩ rfl
 ·refine j0s _ Tryz.func150 rfl rfl Tryz.ntmps150 rfl fun w Z => ?_
  refine zU ?_
  refine wt ?_
  refine j0j (j0i rfl rfl) rfl ?_
  (refine wt ?_; repeat' (((first | refine j0f rfl rfl ?_ ?_ | refine j0e rfl rfl ?_ ?_) <;> intro hb <;> (try simp only [zA, zB, zG, zC, zD, zN] at hb) <;> (try exact zQ)) <;> refine wt ?_))
  all_goals (try (refine j0a rfl ?_ ?_ <;> intro hb <;> (try simp only [zA, zB, zG, zC, zD, zN] at hb) <;> (try exact zQ)))
  all_goals refine wt ?_
  refine j0j (j0m (t := 34) (is := [0, 1, 2]) (xs := [_, _, _]) (vs := [sv [48], sv [48], sv [48]]) (v1N _ _ _) rfl rfl) rfl ?_
  refine wt ?_
  refine j0j (j0m (t := 34) (is := [0, 1, 2]) (xs := [_, _, _]) (vs := [sv [48], sv [48], sv [48]]) (v1N _ _ _) rfl rfl) rfl ?_
  refine wt ?_
  refine j0j (j0m (t := 36) (is := [0, 1]) (xs := [_, _]) (vs := [.agg #[sv [48], sv [48], sv [48]], .agg #[sv [48], sv [48], sv [48]]]) (Z1d _ _ _ _ _ _) rfl rfl) rfl ?_
  refine wt ?_
  refine j0j (j0h (us := y1b 1 o A B C) rfl rfl rfl rfl) rfl ?_
  refine wt ?_
  exact j0t (rvs := [_, _]) (τs := [_, _]) rfl rfl ⟨.agg (us := y1b 1 o A B C) rfl rfl rfl rfl, .tmp rfl, trivial⟩ rfl
 ·refine j0s _ Tryz.func150 rfl rfl Tryz.ntmps150 rfl fun w Z => ?_
  refine zU ?_
  refine wt ?_
  refine j0j (j0i rfl rfl) rfl ?_
  (refine wt ?_; repeat' (((first | refine j0f rfl rfl ?_ ?_ | refine j0e rfl rfl ?_ ?_) <;> intro hb <;> (try simp only [zA, zB, zG, zC, zD, zN] at hb) <;> (try exact zQ)) <;> refine wt ?_))
  all_goals (try (refine j0a rfl ?_ ?_ <;> intro hb <;> (try simp only [zA, zB, zG, zC, zD, zN] at hb) <;> (try exact zQ)))
  all_goals refine wt ?_
  refine j0j (j0m (t := 34) (is := [0, 1, 2]) (xs := [_, _, _]) (vs := [sv [48], sv [48], sv [48]]) (v1N _ _ _) rfl rfl) rfl ?_
  refine wt ?_
  refine j0j (j0m (t := 34) (is := [0, 1, 2]) (xs := [_, _, _]) (vs := [sv [48], sv [48], sv [48]]) (v1N _ _ _) rfl rfl) rfl ?_
  refine wt ?_
  refine j0j (j0m (t := 36) (is := [0, 1]) (xs := [_, _]) (vs := [.agg #[sv [48], sv [48], sv [48]], .agg #[sv [48], sv [48], sv [48]]]) (Z1d _ _ _ _ _ _) rfl rfl) rfl ?_
  refine wt ?_
  refine j0j (j0h (us := y1b 2 o A B C) rfl rfl rfl rfl) rfl ?_
  refine wt ?_
  exact j0t (rvs := [_, _]) (τs := [_, _]) rfl rfl ⟨.agg (us := y1b 2 o A B C) rfl rfl rfl rfl, .tmp rfl, trivial⟩ rfl
def eqB (f : Nat → Int) (m : Nat) (g : Nat → Int) (n : Nat) : Bool := decide (m = n) && (List.range m).all fun i => decide (f i = g i)
theorem J1y (f g : Nat → Int) (m n : Nat) (hm : m ≤ 1000000) : CtrA Tryz.prog 29 [.sl m 1 (fun i _ => vi (f i)), .sl n 1 (fun i _ => vi (g i))] (vb (eqB f m g n)) := by
 refine j0s _ Tryz.func29 rfl rfl Tryz.ntmps29 rfl fun w Z => ?_
 refine zU ?_
 refine wt ?_
 (refine j0a rfl ?_ ?_ <;> intro hb <;> (try simp only [zA, zB, zG, zC, zD, zN] at hb) <;> (try exact zQ))
 ·refine wt ?_
  exact j0c rfl (.tmp rfl) (congrArg vb (by unfold eqB; rw [decide_eq_false (by omega)]; rfl))
 ·have hmn : m = n := by omega
  subst hmn
  refine wt ?_
  refine j0g (γ := Nat) (fun i => [(0, .av (.sl m 1 (fun i _ => vi (f i)))), (1, .av (.sl m 1 (fun i _ => vi (g i)))), (12, .av (vi m)), (13, .av (vi i))]) (fun _ => []) (fun i => i ≤ m ∧ ∀ j, j < i → f j = g j) (fun i => m - i) 0 ⟨Nat.zero_le _, by omega⟩ (ent zS trivial) ?_
  rintro i ⟨hi, he⟩
  refine wt ?_
  (refine j0a rfl ?_ ?_ <;> intro hb <;> (try simp only [zA, zB, zG, zC, zD, zN] at hb) <;> (try exact zQ))
  ·have hil : i < m := by omega
   refine wt ?_
   (refine j0a rfl ?_ ?_ <;> intro hb <;> (try simp only [zA, zB, zG, zC, zD, zN] at hb) <;> (try exact zQ))
   ·refine wt ?_
    exact j0c rfl (.tmp rfl) (congrArg vb (by
     unfold eqB
     have : (List.range m).all (fun i => decide (f i = g i)) = false := by
      rw [List.all_eq_false]
      exact ⟨i, by simpa using hil, by simpa using hb⟩
     rw [this, Bool.and_false]))
   ·refine wt ?_
    exact j0b (i + 1) ⟨by omega, fun j hj => by
     by_cases e : j = i
     ·subst e; exact hb
     ·exact he j zO⟩ zO (ent zS trivial)
  ·have hil : i = m := by omega
   subst hil
   refine wt ?_
   exact j0c rfl (.tmp rfl) (congrArg vb (by
    unfold eqB
    have : (List.range i).all (fun i => decide (f i = g i)) = true := by
     rw [List.all_eq_true]
     intro j hj
     simpa using he j (by simpa using hj)
    rw [this, decide_eq_true rfl]; rfl))
end Go.Proofs.YtfggdokihnopeaaGreatDoor.H
namespace Go.Vc
open Go Go.RowKit
def okL (Z : j0q) (w : World) (τ : List AV) (v : List Value) : Prop := All2 (fun τ v => AV.ok Z w τ v) τ v
abbrev Zone2 := j0q × j0q
def Zone2.all (Z : Zone2) : j0q := fun k => Z.1 k ∨ Z.2 k
structure grow2 (Z Z' : Zone2) (A B : World) : Prop where
 gr : A.grownBy B none
 a1 : ∀ k, Z.1 k → Z'.1 k
 a2 : ∀ k, Z.2 k → Z'.2 k
 b1 : ∀ k, Z'.1 k → W0t Z.1 A B k
 b2 : ∀ k, Z'.2 k → W0t Z.2 A B k
 dj : ∀ k, Z'.1 k → Z'.2 k → False
theorem q1p {Z Z' : Zone2} {A B : World} (h : grow2 Z Z' A B) (hl : ∀ k, Z.all k → k < A.heap.size) (k : Nat) (hk : Z'.all k) : k < B.heap.size := by
 have hs := h.gr.size
 rcases hk with q | q
 ·rcases h.b1 k q with q | q
  ·have := hl k (.inl q); omega
  ·exact q.2
 ·rcases h.b2 k q with q | q
  ·have := hl k (.inr q); omega
  ·exact q.2
def V1A (P : Program) (gf : FuncId) (lb : Array Value) (τs : List (List AV)) (Z0 X : j0q) (w : World) : Prop :=
 ∀ (l : Nat) (J : List (List Value) → Zone2 → World → Prop) (W : World), Below w.heap.size w W → (∀ s ZP ZP' A B, J s ZP A → grow2 ZP ZP' A B → J s ZP' B) →
  (∀ s ZP A B r, J s ZP A → ZP.2 r → A.grownBy B (some r) → J s ZP B) → (∀ s ZP A, J s ZP A → (∀ k, ZP.1 k → ZP.2 k → False) ∧ ∀ k, ZP.all k → k < A.heap.size) →
  (∀ pre x ZP A τ, J pre ZP A → τs[pre.length]? = some τ → okL ZP.1 A τ x → YieldAt Fence.wide 0 P l x.toArray A fun e B => e = .returned (.bool true) ∧ J (pre ++ [x]) ZP B ∧ keepZ ZP.all A B) → J [] (Z0, X) W →
  CallsIn Fence.wide 1 P gf (#[.func (.yield l) #[] #[]] ++ lb) W fun e W' => (∃ v, e = .returned v) ∧ ∃ xs ZP, All2 (okL ZP.1 W') τs xs ∧ J xs ZP W'
theorem okL.mono {Z Z' : j0q} {A B : World} (hz : ∀ k, Z k → Z' k) (hs : A.heap.size ≤ B.heap.size) (hk : ∀ k, Z k → k < A.heap.size → B.heap[k]? = A.heap[k]?) {τ : List AV} {v : List Value} (h : okL Z A τ v) : okL Z' B τ v :=
 All2.mono h fun τ _ v hv => AV.ok_mono hz hs hk τ v hv
theorem Q0d {P : Program} {g : Operand} {ps : List Tmp} {assign body : Code} {Q : Exit → Act → World → Prop} {a : Act} {w : World} {gf : Nat} {lb : Array Value} {τs : List (List AV)} {Z0 X : j0q}
  (hg : a.eval g = .func (.func gf) #[] lb) (eg : ∀ args w, (callFunc gf args).run P w = .ok (.enter gf args) w) (hseq : V1A P gf lb τs Z0 X w) (hz : ∀ k, Z0 k → k < w.heap.size) (hX : ∀ k, X k → k < w.heap.size ∧ ¬ Z0 k) (hV : ∀ τ ∈ τs, τ.length = ps.length)
  (I : List (List Value) → Zone2 → World → Prop) (hg1 : ∀ s ZP ZP' A B, I s ZP A → grow2 ZP ZP' A B → w.heap.size + 2 ≤ A.heap.size → I s ZP' B)
  (hg2 : ∀ s ZP A B row, I s ZP A → A.grownBy B row → (∀ r, row = some r → bk w r ∧ Y0X w A) → I s ZP B)
  (hg3 : ∀ s ZP A B r, I s ZP A → ZP.2 r → A.grownBy B (some r) → w.heap.size + 2 ≤ A.heap.size → I s ZP B) (h0 : I [] (Z0, X) w)
  (IA : List (List Value) → List Value → Zone2 → Act → World → Prop)
  (hIA : ∀ s x ZP a' A l o', IA s x ZP a' A → bk w l → Y0X w A → IA s x ZP a' (A.putObj l o'))
  (hassign : ∀ (l : Nat) (pre : List (List Value)) (x : List Value) (ZP : Zone2) (W : World) (τ : List AV) (K : Act → World → Prop), τs[pre.length]? = some τ → okL ZP.1 W τ x → I pre ZP W → Y0X w W → (∀ a' W', (∀ k, bk w k → W'.heap[k]? = W.heap[k]?) → keepZ ZP.all W W' → IA pre x ZP a' W' → K a' W') →
   assign.wpIn (Fence.wide.inRound l) 0 P (Exit.then K (fun _ _ _ => False)) { tmps := (ps.toArray.zip x.toArray).foldl (fun t (p, v) => t.setIfInBounds p v) a.tmps, defers := [] } W)
  (hbody : ∀ (l : Nat) (pre : List (List Value)) (x : List Value) (ZP : Zone2) (a' : Act) (W : World) (τ : List AV), τs[pre.length]? = some τ → okL ZP.1 W τ x → IA pre x ZP a' W → Y0X w W → bk w l → (∃ r, W.heap[l]? = some (.loop r)) →
   body.wpIn (Fence.wide.inRound l) 0 P (fun e _ W' => e = .normal ∧ (∀ k, bk w k → W'.heap[k]? = W.heap[k]?) ∧ keepZ ZP.all W W' ∧ I (pre ++ [x]) ZP W') a' W)
  (hdone : ∀ (D : Nat) (xs : List (List Value)) (ZP : Zone2) (W : World), D = w.heap.size → All2 (okL ZP.1 W) τs xs → I xs ZP W → W.heap[D]? = some (.deferred (some [])) → Q .normal { a with defers := { target := .collected D, args := #[] } :: a.defers } W) :
  (Code.rangeFunc g ps.toArray assign body).wpIn Fence.wide 2 P Q a w := by
 refine wpIn_rangeFunc fun fn hfn => ?_
 obtain ⟨rec, hrec⟩ : ∃ rec : LoopState → Option Code → Loop, rec = fun st pe => { state := st, pending := pe, fn, tmps := a.tmps, params := ps.toArray, assign, body, defers := w.heap.size } := ⟨_, rfl⟩
 obtain ⟨W1, hW1⟩ : ∃ W1, (w.alloc (.deferred (some []))).alloc (.loop (rec .ready none)) = W1 := ⟨_, rfl⟩
 have hL1 : W1.heap[w.heap.size + 1]? = some (.loop (rec .ready none)) := by
  have := World.alloc_heap_new (w.alloc (.deferred (some []))) (.loop (rec .ready none))
  rw [← hW1]
  rwa [World.size_alloc] at this
 have hK1 : W1.heap[w.heap.size]? = some (.deferred (some [])) := by
  rw [← hW1]
  exact (Below.heap_alloc _ _ _ (by simp)).trans (World.alloc_heap_new w _)
 have hI1 : I [] (Z0, X) W1 := by
  rw [← hW1]
  exact hg2 _ _ _ _ none (hg2 _ _ _ _ none h0 (World.grownBy_alloc w _ none) (fun r e => by cases e)) (World.grownBy_alloc _ _ none) (fun r e => by cases e)
 have hb1 : Below w.heap.size w W1 := by
  rw [← hW1]
  exact ((Below.refl _ w).alloc (Nat.le_refl _) _).alloc (by simp) _
 have hZ0 : ∀ k, w.heap.size ≤ k → ¬ Z0 k := fun k hk q => by have := hz k q; omega
 have hbk : ∀ {W : World} {r : Loop} {d : Obj}, W.heap[w.heap.size + 1]? = some (.loop r) → W.heap[w.heap.size]? = some (.deferred (some [])) → Y0X w W := fun h1 h2 k hk => by
  rcases hk with rfl | rfl
  ·exact ⟨_, h2, rfl⟩
  ·exact ⟨_, h1, rfl⟩
 refine ⟨w.heap.size + 1, [{ target := .collected w.heap.size, args := #[] }], W1, { target := .fn (.func gf) lb, args := #[.func (.yield (w.heap.size + 1)) #[] #[]] }, W1, gf,
  #[.func (.yield (w.heap.size + 1)) #[] #[]] ++ lb, W1, ?_, ?_, ?_, ?_, fun h => (by cases h), ?_⟩
 ·rw [← hW1, hrec]
  exact run_enterLoop_outer _ _ _ _ _
 ·simp only [resolve, hg]
  simp [go_sem]
 ·intro f' hf'
  simp [Target.leads] at hf'
  subst hf'
  trivial
 ·simp [invoke, go_sem, eg]
 ·have hinv := hseq (w.heap.size + 1)
   (fun pre ZP W => I pre ZP W ∧ W.heap[w.heap.size + 1]? = some (.loop (rec .ready none)) ∧ W.heap[w.heap.size]? = some (.deferred (some [])) ∧ ¬ ZP.all w.heap.size ∧ ¬ ZP.all (w.heap.size + 1) ∧ (∀ k, ZP.1 k → ZP.2 k → False) ∧ ∀ k, ZP.all k → k < W.heap.size)
   W1 hb1 ?_ ?_ (fun s ZP A h => h.2.2.2.2.2) ?_ ⟨hI1, hL1, hK1, fun q => q.elim (hZ0 _ (Nat.le_refl _)) (fun q => by have := (hX _ q).1; omega), fun q => q.elim (hZ0 _ zO) (fun q => by have := (hX _ q).1; omega), fun k q1 q2 => (hX k q2).2 q1, fun k q => q.elim (fun q => Nat.lt_of_lt_of_le (hz k q) hb1.size) (fun q => Nat.lt_of_lt_of_le (hX k q).1 hb1.size)⟩
  ·refine hinv.mono ?_
   rintro e W2 ⟨⟨v, rfl⟩, xs, ZP, hR, hi, hl, hk, hz1, hz2, _⟩
   have hend := run_endLoop (P := P) hl (by rw [hrec]; simp)
   rw [hrec] at hend
   refine ⟨none, _, hend, hdone _ xs ZP _ rfl ?_ (hg2 _ _ _ _ (some (w.heap.size + 1)) hi (grownBy_putObj' _ _ _) (fun r e => by cases e; exact ⟨.inr rfl, hbk (d := .deferred none) hl hk⟩)) ((World.putObj_heap_other zO).trans hk)⟩
   refine hR.mono fun τ _ v hv => okL.mono (fun _ q => q) (by simp [World.putObj]) (fun k q _ => World.putObj_heap_other (fun e => hz2 (by rw [← e]; exact .inl q))) hv
  ·rintro s ZP ZP' A B ⟨hi, hl, hk, hz1, hz2, hdj, hlt⟩ hgr
   have hlA := (Array.getElem?_eq_some_iff.1 hl).1
   have hnew : ∀ k, k < A.heap.size → ¬ ZP.all k → ¬ ZP'.all k := fun k hk hn q => by
    rcases q with q | q
    ·rcases hgr.b1 k q with q | q
     ·exact hn (.inl q)
     ·omega
    ·rcases hgr.b2 k q with q | q
     ·exact hn (.inr q)
     ·omega
   exact ⟨hg1 _ _ _ _ _ hi hgr (by omega), (hgr.gr.block _ hlA (by simp)).trans hl, (hgr.gr.block _ (by omega) (by simp)).trans hk, hnew _ (by omega) hz1, hnew _ hlA hz2, hgr.dj, fun k q => q1p hgr hlt k q⟩
  ·rintro s ZP A B r ⟨hi, hl, hk, hz1, hz2, hdj, hlt⟩ hr ht
   have n1 : r ≠ w.heap.size := fun e => hz1 (by rw [← e]; exact .inr hr)
   have n2 : r ≠ w.heap.size + 1 := fun e => hz2 (by rw [← e]; exact .inr hr)
   have hlA := (Array.getElem?_eq_some_iff.1 hl).1
   exact ⟨hg3 _ _ _ _ r hi hr ht (by omega), (ht.block _ hlA (by simpa using fun e => n2 e.symm)).trans hl, (ht.block _ (by omega) (by simpa using fun e => n1 e.symm)).trans hk, hz1, hz2, hdj, fun k q => Nat.lt_of_lt_of_le (hlt k q) ht.size⟩
  ·rintro pre x ZP A τ ⟨hi, hl, hk, hz1, hz2, hdj, hlt⟩ hτ hx
   have hy := run_yield (P := P) (args := x.toArray) hl (by rw [hrec]; simp [← hx.len, hV τ (List.mem_of_getElem? hτ)])
   rw [hrec] at hy
   refine ⟨fn, _, assign, body, hy, roundIn_of_wpIn hfn ?_⟩
   refine hassign _ pre x ZP A τ _ hτ hx hi (hbk (d := .deferred none) hl hk) ?_
   intro a' Wa hkf hkz hia
   have hl' := (hkf _ (.inr rfl)).trans hl
   have hk' := (hkf _ (.inl rfl)).trans hk
   have hllt := (Array.getElem?_eq_some_iff.1 hl').1
   refine ⟨_, run_beginRound hl' (by rw [hrec]), ?_⟩
   obtain ⟨Wb, hWb⟩ : ∃ Wb, Wa.putObj (w.heap.size + 1) (.loop { rec .ready none with state := .busy }) = Wb := ⟨_, rfl⟩
   have hlb : Wb.heap[w.heap.size + 1]? = some (.loop { rec .ready none with state := .busy }) := by rw [← hWb]; exact World.putObj_heap_same hllt
   have hkb : Wb.heap[w.heap.size]? = some (.deferred (some [])) := by rw [← hWb]; exact (World.putObj_heap_other (by omega)).trans hk'
   have hzb : keepZ ZP.all Wa Wb := by rw [← hWb]; exact keepZ.putObj _ hz2
   have hib : IA pre x ZP a' Wb := by rw [← hWb]; exact hIA _ _ _ _ _ _ _ hia (.inr rfl) (hbk (d := .deferred none) hl' hk')
   rw [hWb]
   refine wpIn_mono (hbody _ pre x ZP a' _ τ hτ (okL.mono (fun _ q => q) (hkz.trans hzb).2.2.2.1 (fun k q hl => (hkz.trans hzb).2.2.2.2 k (.inl q) hl) hx) hib (hbk (d := .deferred none) hlb hkb) (.inr rfl) ⟨_, hlb⟩) ?_
   rintro e a3 W3 ⟨rfl, hk3, hz3, hi3⟩
   have hl3 := (hk3 _ (.inr rfl)).trans hlb
   have hd3 := (hk3 _ (.inl rfl)).trans hkb
   have hend := run_endRound (P := P) none hl3
   rw [hrec] at hend
   refine ⟨_, _, hend, rfl, ⟨hg2 _ _ _ _ (some (w.heap.size + 1)) hi3 (grownBy_putObj' _ _ _) (fun r e => by cases e; exact ⟨.inr rfl, hbk (d := .deferred none) hl3 hd3⟩), ?_, (World.putObj_heap_other zO).trans hd3, hz1, hz2, hdj, fun k q => Nat.lt_of_lt_of_le (hlt k q) (((hkz.trans hzb).trans hz3).trans (keepZ.putObj _ hz2)).2.2.2.1⟩, ((hkz.trans hzb).trans hz3).trans (keepZ.putObj _ hz2)⟩
   rw [hrec]
   exact World.putObj_heap_same (Array.getElem?_eq_some_iff.1 hl3).1
theorem k0F {F : Fence} {n : Nat} {P : Program} {f : FuncId} {args : Array Value} {w : World} {R : Ending → World → Prop} (l : Nat) (h : CallsIn F n P f args w R) : CallsIn (F.inRound l) n P f args w R := h
def rk (w : World) (k : Nat) : Prop := k = w.heap.size
def V1w (w W : World) : Prop := ∀ k, rk w k → ∃ o, W.heap[k]? = some o ∧ o.isCells = false
theorem X0K {P : Program} {g : Operand} {ps : List Tmp} {assign body : Code} {Q : Exit → Act → World → Prop} {a : Act} {w : World} {gf : Nat} {lb : Array Value} {τs : List (List AV)} {Z0 X : j0q} {l0 : Nat} {r0 : Loop} (hl0 : w.heap[l0]? = some (.loop r0))
  (hg : a.eval g = .func (.func gf) #[] lb) (eg : ∀ args w, (callFunc gf args).run P w = .ok (.enter gf args) w) (hseq : V1A P gf lb τs Z0 X w) (hz : ∀ k, Z0 k → k < w.heap.size) (hX : ∀ k, X k → k < w.heap.size ∧ ¬ Z0 k) (hV : ∀ τ ∈ τs, τ.length = ps.length)
  (I : List (List Value) → Zone2 → World → Prop) (hg1 : ∀ s ZP ZP' A B, I s ZP A → grow2 ZP ZP' A B → w.heap.size + 1 ≤ A.heap.size → I s ZP' B)
  (hg2 : ∀ s ZP A B row, I s ZP A → A.grownBy B row → (∀ r, row = some r → rk w r ∧ V1w w A) → I s ZP B)
  (hg3 : ∀ s ZP A B r, I s ZP A → ZP.2 r → A.grownBy B (some r) → w.heap.size + 1 ≤ A.heap.size → I s ZP B) (h0 : I [] (Z0, X) w)
  (IA : List (List Value) → List Value → Zone2 → Act → World → Prop)
  (hIA : ∀ s x ZP a' A l o', IA s x ZP a' A → rk w l → V1w w A → IA s x ZP a' (A.putObj l o'))
  (hassign : ∀ (l : Nat) (pre : List (List Value)) (x : List Value) (ZP : Zone2) (W : World) (τ : List AV) (K : Act → World → Prop), τs[pre.length]? = some τ → okL ZP.1 W τ x → I pre ZP W → V1w w W → (∀ a' W', (∀ k, rk w k → W'.heap[k]? = W.heap[k]?) → keepZ ZP.all W W' → IA pre x ZP a' W' → K a' W') →
   assign.wpIn (Fence.wide.inRound l) 0 P (Exit.then K (fun _ _ _ => False)) { tmps := (ps.toArray.zip x.toArray).foldl (fun t (p, v) => t.setIfInBounds p v) a.tmps, defers := [] } W)
  (hbody : ∀ (l : Nat) (pre : List (List Value)) (x : List Value) (ZP : Zone2) (a' : Act) (W : World) (τ : List AV), τs[pre.length]? = some τ → okL ZP.1 W τ x → IA pre x ZP a' W → V1w w W → rk w l → (∃ r, W.heap[l]? = some (.loop r)) →
   body.wpIn (Fence.wide.inRound l) 0 P (fun e _ W' => e = .normal ∧ (∀ k, rk w k → W'.heap[k]? = W.heap[k]?) ∧ keepZ ZP.all W W' ∧ I (pre ++ [x]) ZP W') a' W)
  (hdone : ∀ (xs : List (List Value)) (ZP : Zone2) (W : World), All2 (okL ZP.1 W) τs xs → I xs ZP W → Q .normal a W) :
  (Code.rangeFunc g ps.toArray assign body).wpIn (Fence.wide.inRound l0) 0 P Q a w := by
 refine wpIn_rangeFunc fun fn hfn => ?_
 obtain ⟨rec, hrec⟩ : ∃ rec : LoopState → Option Code → Loop, rec = fun st pe => { state := st, pending := pe, fn, tmps := a.tmps, params := ps.toArray, assign, body, defers := r0.defers } := ⟨_, rfl⟩
 obtain ⟨W1, hW1⟩ : ∃ W1, w.alloc (.loop (rec .ready none)) = W1 := ⟨_, rfl⟩
 have hL1 : W1.heap[w.heap.size]? = some (.loop (rec .ready none)) := by
  rw [← hW1]; exact World.alloc_heap_new w _
 have hI1 : I [] (Z0, X) W1 := by
  rw [← hW1]
  exact hg2 _ _ _ _ none h0 (World.grownBy_alloc w _ none) (fun r e => by cases e)
 have hb1 : Below w.heap.size w W1 := by
  rw [← hW1]
  exact (Below.refl _ w).alloc (Nat.le_refl _) _
 have hZ0 : ∀ k, w.heap.size ≤ k → ¬ Z0 k := fun k hk q => by have := hz k q; omega
 have hbk : ∀ {W : World} {r : Loop}, W.heap[w.heap.size]? = some (.loop r) → V1w w W := fun h1 k hk => by
  obtain rfl : k = w.heap.size := hk
  exact ⟨_, h1, rfl⟩
 refine ⟨w.heap.size, [], W1, { target := .fn (.func gf) lb, args := #[.func (.yield w.heap.size) #[] #[]] }, W1, gf,
  #[.func (.yield w.heap.size) #[] #[]] ++ lb, W1, ?_, ?_, ?_, ?_, fun h => (by cases h), ?_⟩
 ·rw [← hW1, hrec]
  exact run_enterLoop_inner hl0 _ _ _ _ _
 ·simp only [resolve, hg]
  simp [go_sem]
 ·intro f' hf'
  simp [Target.leads] at hf'
  subst hf'
  trivial
 ·simp [invoke, go_sem, eg]
 ·have hinv := hseq w.heap.size
   (fun pre ZP W => I pre ZP W ∧ W.heap[w.heap.size]? = some (.loop (rec .ready none)) ∧ ¬ ZP.all w.heap.size ∧ (∀ k, ZP.1 k → ZP.2 k → False) ∧ ∀ k, ZP.all k → k < W.heap.size)
   W1 hb1 ?_ ?_ (fun s ZP A h => h.2.2.2) ?_ ⟨hI1, hL1, fun q => q.elim (hZ0 _ (Nat.le_refl _)) (fun q => by have := (hX _ q).1; omega), fun k q1 q2 => (hX k q2).2 q1, fun k q => q.elim (fun q => Nat.lt_of_lt_of_le (hz k q) hb1.size) (fun q => Nat.lt_of_lt_of_le (hX k q).1 hb1.size)⟩
  ·refine (k0F l0 (callsIn_wide (n := 0 - 1) |>.2 (callsIn_wide.1 hinv))).mono ?_
   rintro e W2 ⟨⟨v, rfl⟩, xs, ZP, hR, hi, hl, hz1, _⟩
   have hend := run_endLoop (P := P) hl (by rw [hrec]; simp)
   rw [hrec] at hend
   refine ⟨none, _, hend, hdone xs ZP _ ?_ (hg2 _ _ _ _ (some w.heap.size) hi (grownBy_putObj' _ _ _) (fun r e => by cases e; exact ⟨rfl, hbk hl⟩))⟩
   refine hR.mono fun τ _ v hv => okL.mono (fun _ q => q) (by simp [World.putObj]) (fun k q _ => World.putObj_heap_other (fun e => hz1 (by rw [← e]; exact .inl q))) hv
  ·rintro s ZP ZP' A B ⟨hi, hl, hz1, hdj, hlt⟩ hgr
   have hlA := (Array.getElem?_eq_some_iff.1 hl).1
   refine ⟨hg1 _ _ _ _ _ hi hgr (by omega), (hgr.gr.block _ hlA (by simp)).trans hl, ?_, hgr.dj, fun k q => q1p hgr hlt k q⟩
   rintro (q | q)
   ·rcases hgr.b1 _ q with q | q
    ·exact hz1 (.inl q)
    ·omega
   ·rcases hgr.b2 _ q with q | q
    ·exact hz1 (.inr q)
    ·omega
  ·rintro s ZP A B r ⟨hi, hl, hz1, hdj, hlt⟩ hr ht
   have n1 : r ≠ w.heap.size := fun e => hz1 (by rw [← e]; exact .inr hr)
   have hlA := (Array.getElem?_eq_some_iff.1 hl).1
   exact ⟨hg3 _ _ _ _ r hi hr ht (by omega), (ht.block _ hlA (by simpa using fun e => n1 e.symm)).trans hl, hz1, hdj, fun k q => Nat.lt_of_lt_of_le (hlt k q) ht.size⟩
  ·rintro pre x ZP A τ ⟨hi, hl, hz1, hdj, hlt⟩ hτ hx
   have hy := run_yield (P := P) (args := x.toArray) hl (by rw [hrec]; simp [← hx.len, hV τ (List.mem_of_getElem? hτ)])
   rw [hrec] at hy
   refine ⟨fn, _, assign, body, hy, roundIn_of_wpIn hfn ?_⟩
   refine hassign _ pre x ZP A τ _ hτ hx hi (hbk hl) ?_
   intro a' Wa hkf hkz hia
   have hl' := (hkf _ rfl).trans hl
   have hllt := (Array.getElem?_eq_some_iff.1 hl').1
   refine ⟨_, run_beginRound hl' (by rw [hrec]), ?_⟩
   obtain ⟨Wb, hWb⟩ : ∃ Wb, Wa.putObj w.heap.size (.loop { rec .ready none with state := .busy }) = Wb := ⟨_, rfl⟩
   have hlb : Wb.heap[w.heap.size]? = some (.loop { rec .ready none with state := .busy }) := by rw [← hWb]; exact World.putObj_heap_same hllt
   have hzb : keepZ ZP.all Wa Wb := by rw [← hWb]; exact keepZ.putObj _ hz1
   have hib : IA pre x ZP a' Wb := by rw [← hWb]; exact hIA _ _ _ _ _ _ _ hia rfl (hbk hl')
   rw [hWb]
   refine wpIn_mono (hbody _ pre x ZP a' _ τ hτ (okL.mono (fun _ q => q) (hkz.trans hzb).2.2.2.1 (fun k q hl => (hkz.trans hzb).2.2.2.2 k (.inl q) hl) hx) hib (hbk hlb) rfl ⟨_, hlb⟩) ?_
   rintro e a3 W3 ⟨rfl, hk3, hz3, hi3⟩
   have hl3 := (hk3 _ rfl).trans hlb
   have hend := run_endRound (P := P) none hl3
   rw [hrec] at hend
   refine ⟨_, _, hend, rfl, ⟨hg2 _ _ _ _ (some w.heap.size) hi3 (grownBy_putObj' _ _ _) (fun r e => by cases e; exact ⟨rfl, hbk hl3⟩), ?_, hz1, hdj, fun k q => Nat.lt_of_lt_of_le (hlt k q) (((hkz.trans hzb).trans hz3).trans (keepZ.putObj _ hz1)).2.2.2.1⟩, ((hkz.trans hzb).trans hz3).trans (keepZ.putObj _ hz1)⟩
   rw [hrec]
   exact World.putObj_heap_same (Array.getElem?_eq_some_iff.1 hl3).1
end Go.Vc
