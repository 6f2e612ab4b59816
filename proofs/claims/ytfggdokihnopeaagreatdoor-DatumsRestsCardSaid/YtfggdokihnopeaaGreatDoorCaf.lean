/- A part of the proof. -/
import Derived.Test.YtfggdokihnopeaaGreatDoorCae
set_option linter.unusedVariables false
set_option linter.unusedSimpArgs false
section
namespace Go.Vc
open Go Go.RowKit
variable {P : Program} {E : Env} {T : Tab} {O : Own} {d : Option Nat} {ty : TypeId} {pos : String} {af : Array Edge} {g : Option (Nat × Bool)}
variable {t : TypeId} {x y : Operand} {b : Bool} {n : Int} {f : Nat → Int} {m : Nat}
theorem y0n [ht : CellTy P t] (hx : T.ev x = .av (.ptr m (fun j => .val ((wvs 232 b n f).getD (1 + j) undef)))) (hm : Nat.blt 0 m = true) : GV P E ⟨d, .load t x, ty, pos, af, g⟩ T O (.av (.val (.int .i64 n))) [] [] := v0N hx hm rfl
theorem y0m [ht : CellTy P t] (hx : T.ev x = .av (.ptr m (fun j => .val ((wvs 232 b n f).getD (0 + j) undef)))) (hm : Nat.blt 0 m = true) : GV P E ⟨d, .load t x, ty, pos, af, g⟩ T O (.av (.val (.bool b))) [] [] := v0N hx hm rfl
theorem y0o {k : Nat} [ht : CellTy P t] (hx : T.ev x = .av (.ptr m (fun j => .val ((wvs 232 b n f).getD (2 + (k * 1 + j)) undef)))) (hm : Nat.blt 0 m = true) (hk : k < 232) : GV P E ⟨d, .load t x, ty, pos, af, g⟩ T O (.av (.val (.int .i64 (f k)))) [] [] :=
 v0N hx hm (X1U zO hk)
theorem v0Y {t e : TypeId} {x y : Operand} {len sz n : Nat} {f : Nat → AV} {q : IntKind} {i : Int} [ht : ArrTy P t len e sz] (hx : T.ev x = .av (.ptr n f)) (hy : T.ev y = .av (.val (.int q i))) (hi : 0 ≤ i) (hk : i < len) (hn : len * sz ≤ n) :
  GV P E ⟨d, .indexAddr t x y, ty, pos, af, g⟩ T O (.av (.ptr sz (fun j => f (i.toNat * sz + j)))) [] [] := z0m i.toNat hx hy zO zO (by
   have : (i.toNat + 1) * sz ≤ len * sz := Nat.mul_le_mul_right _ zO
   omega)
theorem v0X {t e : TypeId} {x y : Operand} {len sz n : Nat} {f : Nat → AV} {q : IntKind} {i : Int} {k : Nat} [ht : ArrTy P t len e sz] (hx : T.ev x = .av (.ptr n f)) (hy : T.ev y = .av (.val (.int q i))) (hi : i = ↑k) (hk : k < len) (hn : len * sz ≤ n) :
  GV P E ⟨d, .indexAddr t x y, ty, pos, af, g⟩ T O (.av (.ptr sz (fun j => f (k * sz + j)))) [] [] := z0m k hx hy hi hk (Nat.le_trans (Nat.mul_le_mul_right _ hk) hn)
theorem v0Z {t e : TypeId} {x y : Operand} {len sz r o : Nat} {q : IntKind} {i : Int} [ht : ArrTy P t len e sz] (hx : T.ev x = .own r o) (hy : T.ev y = .av (.val (.int q i))) (hi : 0 ≤ i) (hk : i < len) :
  GV P E ⟨d, .indexAddr t x y, ty, pos, af, g⟩ T O (.own r (o + i.toNat * sz)) [] [] := q0m (k := i.toNat) hx hy zO zO
theorem y0p {r o k : Nat} [ht : CellTy P t] (hx : T.ev x = .own r (o + k * 1)) (hr : look O r = some (.wi b n f)) (ho : Nat.beq o 2 = true) (hk : k < 232) :
  GV P E ⟨d, .load t x, ty, pos, af, g⟩ T O (.av (.val (.int .i64 (f k)))) [r] [] := j1Y k hx hr (by rw [Nat.eq_of_beq_eq_true ho]; omega) hk
theorem v0G {r o k : Nat} {v : Int} [ht : SizeTy P t 1] (hx : T.ev x = .own r (o + k * 1)) (hy : T.ev y = .av (.val (.int .i64 v))) (hr : look O r = some (.wi b n f)) (ho : Nat.beq o 2 = true) (hk : k < 232) :
  GV P E ⟨d, .store t x y, ty, pos, af, g⟩ T O (.av .any) [r] [(r, .wi b n (upd f k v))] := x0y k hx hy hr (by rw [Nat.eq_of_beq_eq_true ho]; omega) hk
theorem Y0e [ht : AggTy P t 234] (hx : T.ev x = .av (wA b n f)) : GV P E ⟨d, .load t x, ty, pos, af, g⟩ T O (.av (.val (.agg (wvs 232 b n f).toArray))) [] [] := by
 refine j0k hx (q0r ..) rfl ?_
 apply List.ext_getElem?
 intro i
 by_cases hi : i < 234
 ·have hl : i < (wvs 232 b n f).length := by rw [q0r]; exact hi
  simp [hi, List.getD, hl]
 ·simp [hi, q0r]
theorem x1h (r : Nat) (hx : T.ev x = .av (.val (.agg (wvs 232 b n f).toArray))) (hp : Nat.blt r 1000 = true := by first | rfl | assumption) : GA P E ⟨d, .box t x, ty, pos, af, g⟩ T O (.own r 0) [] r (.wi b n f) :=
 ⟨fun T' O' hT _ hf => (k0A r ((j0r hT (by simp [Op.operands])).trans hx) hp).freshP hf, by intro c; simp⟩
theorem BArg.w {r : Nat} (h : T.ev x = .own r 0) (hr : look O r = some (.wi b n f)) : BArg T O x (wA b n f) := X1T b n f ▸ BArg.vb h hr
section
variable {fn : Func} {w : World} {Z : j0q} {ν : j0N} {N : Nat} {O' : Own} {res : SV}
theorem V0W (hr : fn.results = #[]) (hhi : Q0I O = true) (hres : res = .av .any) : SQ (Q0e N w Z O ν) T O' (bodyPost P fn (z1S w Z ν O res O') .normal) := V0Y hr hhi hres
end
end Go.Vc
end
section
namespace Go.Vc
open Go Go.RowKit
theorem Oper.wpIn_mono2 {F : Fence} {n : Nat} {P : Program} {Q Q' : Exit → Act → World → Prop} {o : Oper} {a : Act} {w : World} {K K' : Act → World → Prop} (h : ∀ a w, K a w → K' a w) (hQ : ∀ e a w, e ≠ .normal → Q e a w → Q' e a w) (hL : LetsOut Q → LetsOut Q')
  (hh : o.wpIn F n P a w K Q) : o.wpIn F n P a w K' Q' := by
 unfold Oper.wpIn at *
 refine ⟨hh.1, ?_⟩
 have hh := hh.2
 generalize (o.semAt F.round a.eval).run P w = r at *
 cases r with
 |ok x w' =>
  cases x <;> simp only [Oper.uponIn] at hh ⊢ <;>
   first
    |exact h _ _ hh
    |exact hQ _ _ _ (by simp) hh
    |exact ⟨hh.1, CallsIn.mono hh.2 (fun e w'' he => by cases e <;> first | exact h _ _ he | exact hQ _ _ _ (by simp) he | exact hL he)⟩
    |exact ⟨hh.1, RowsIn.mono hh.2 (fun _ _ he => h _ _ he)⟩
    |exact ⟨hh.1, RoundIn.mono hh.2 (fun e w'' he => by cases e <;> first | exact h _ _ he | exact hQ _ _ _ (by simp) he | exact hL he)⟩
 |halt x w' => cases x <;> simp only [Oper.uponIn] at hh ⊢ <;> first | exact hh | exact hQ _ _ _ (by simp) hh
section
variable {F : Fence} {n : Nat} {P : Program} {Q Q' : Exit → Act → World → Prop} {o : Oper} {L1 : List Oper}
def K0O (L1 : List Oper) (D : Nat → Prop) : Prop := ∀ j, D j → ∀ x, L1[j]? = some x → ∀ e ∈ x.after.toList, Region.binds .any e = true → D e.on
def q1f (L1 : List Oper) (o : Oper) : Bool :=
 (List.range L1.length).all (fun j => match L1[j]? with | some x => x.guard.isNone && x.after.toList.all (fun e => !Region.binds .any e || Nat.blt e.on j) | none => true) &&
 (o.guard.isNone && o.after.toList.all (fun e => !Region.binds .any e || Nat.blt e.on L1.length)) &&
 (List.range L1.length).all (fun j => reach (L1 ++ [o]) (L1.length + 1) L1.length j)
structure LastOk (L1 : List Oper) (o : Oper) : Prop where
 g : ∀ (j : Nat) (x : Oper), L1[j]? = some x → x.guard = none
 lt : ∀ (j : Nat) (x : Oper), L1[j]? = some x → ∀ e ∈ x.after.toList, Region.binds .any e = true → e.on < j
 go : o.guard = none
 lo : ∀ e ∈ o.after.toList, Region.binds .any e = true → e.on < L1.length
 cov : ∀ D : Nat → Prop, K0O L1 D → (∀ e ∈ o.after.toList, Region.binds .any e = true → D e.on) → ∀ j, j < L1.length → D j
theorem q1g (h : q1f L1 o = true) : LastOk L1 o := by
 simp only [q1f, Bool.and_eq_true, List.all_eq_true, List.mem_range] at h
 obtain ⟨⟨h1, h2, h3⟩, h4⟩ := h
 have hL : ∀ (j : Nat) (x : Oper), L1[j]? = some x → x.guard.isNone = true ∧ ∀ e ∈ x.after.toList, (!Region.binds .any e || Nat.blt e.on j) = true := fun j x hx => by
  have := h1 j (List.getElem?_eq_some_iff.1 hx).1
  rw [hx] at this
  simpa only [Bool.and_eq_true, List.all_eq_true] using this
 refine ⟨fun j x hx => by simpa using (hL j x hx).1, fun j x hx e he hb => ?_, by simpa using h2, fun e he hb => ?_, fun D hD ho j hj => ?_⟩
 ·have := (hL j x hx).2 e he
  rw [hb] at this
  exact j0H (by simpa using this)
 ·have := h3 e he
  rw [hb] at this
  exact j0H (by simpa using this)
 ·have hlt : ∀ (j : Nat) (x : Oper), L1[j]? = some x → ∀ e ∈ x.after.toList, Region.binds .any e = true → e.on < j := fun j x hx e he hb => by
   have := (hL j x hx).2 e he
   rw [hb] at this
   exact j0H (by simpa using this)
  refine w0t (l := L1 ++ [o]) (D := fun k => k < L1.length ∧ D k) ?_ (L1.length + 1) L1.length j o (by simp) (fun e he hb => ⟨?_, ho e he hb⟩) (h4 j hj) |>.2
  ·rintro k ⟨hk, hDk⟩ x hx e he hb
   rw [List.getElem?_append_left hk] at hx
   exact ⟨Nat.lt_trans (hlt k x hx e he hb) hk, hD k hDk x hx e he hb⟩
  ·have := h3 e he
   rw [hb] at this
   exact j0H (by simpa using this)
theorem mem_ready {ops : Array Oper} {listed : Array Bool} {i : Nat} : i ∈ Region.ready .any ops listed ↔ i < ops.size ∧ listed.getD i true = false ∧ ∃ x, ops[i]? = some x ∧ ∀ e ∈ x.after.toList, Region.binds .any e = true → listed.getD e.on false = true := by
 simp only [Region.ready, List.mem_filter, List.mem_range, Bool.and_eq_true, Bool.not_eq_true']
 refine and_congr_right fun hi => and_congr_right fun _ => ?_
 rw [Array.getElem?_eq_getElem hi]
 simp only [Option.map_some, Option.getD_some, Array.all_eq_true']
 constructor
 ·intro h
  refine ⟨_, rfl, fun e he hb => ?_⟩
  have := h e (Array.mem_toList_iff.1 he)
  rw [hb] at this
  simpa using this
 ·rintro ⟨x, rfl_, h⟩ e he
  cases rfl_
  cases hb : Region.binds .any e with
  |false => rfl
  |true => rw [h e (Array.mem_toList_iff.2 he) hb]; rfl
theorem x0h {l : Array Bool} {b : Bool} {j : Nat} (h : j < l.size) : (l.push b).getD j false = l.getD j false := by
 simp [Array.getD_eq_getD_getElem?, Array.getElem?_push, Nat.ne_of_lt h]
theorem y0Z {l : Array Bool} {b : Bool} {j : Nat} (h : j < l.size) : (l.push b).getD j true = l.getD j true := by
 simp [Array.getD_eq_getD_getElem?, Array.getElem?_push, Nat.ne_of_lt h]
theorem V0D {l : Array Bool} {j : Nat} (h : j < l.size) : l.getD j true = l.getD j false := by
 simp [Array.getD_eq_getD_getElem?, Array.getElem?_eq_getElem h]
theorem k0h {l : Array Bool} {i j : Nat} (hi : i < l.size) : (l.setIfInBounds i true).getD j false = (l.getD j false || Nat.beq j i) := by
 by_cases hji : j = i
 ·subst hji
  simp [Array.getD_eq_getD_getElem?, hi]
 ·have hb : Nat.beq j i = false := by
   cases hb : Nat.beq j i with
   |false => rfl
   |true => exact absurd (Nat.eq_of_beq_eq_true hb) hji
  simp [Array.getD_eq_getD_getElem?, Array.getElem?_setIfInBounds_ne (Ne.symm hji), hb]
theorem w1y (H : LastOk L1 o) (hQ' : ∀ a w, Q' .normal a w → o.wpIn F n P a w (fun a w => Q .normal a w) Q) (hQe : ∀ e a w, e ≠ .normal → Q' e a w → Q e a w) (hL : LetsOut Q' → LetsOut Q) :
  ∀ (fuel : Nat) (listed : Array Bool) (a : Act) (w : World), listed.size = L1.length → K0O L1 (fun j => listed.getD j false = true) → wpAnyIn F n P .any L1.toArray Q' fuel listed a w →
   wpAnyIn F n P .any (L1 ++ [o]).toArray Q (fuel + 1) (listed.push false) a w := by
 have hsz : (L1 ++ [o]).toArray.size = L1.length + 1 := by simp
 have hget1 : ∀ {j : Nat}, j < L1.length → (L1 ++ [o]).toArray[j]? = L1.toArray[j]? := fun hj => by simp [List.getElem?_append_left hj]
 have hgetn : (L1 ++ [o]).toArray[L1.length]? = some o := by simp
 have hfin : ∀ (listed : Array Bool), listed.size = L1.length → K0O L1 (fun j => listed.getD j false = true) → (∀ e ∈ o.after.toList, Region.binds .any e = true → listed.getD e.on false = true) → ∀ j, j < L1.length → listed.getD j false = true :=
  fun listed hs hc he j hj => H.cov _ hc he j hj
 have hnil : ∀ (listed : Array Bool), listed.size = L1.length → Region.ready .any L1.toArray listed = [] → ∀ j, j < L1.length → listed.getD j false = true := by
  intro listed hs hr j
  induction j using Nat.strongRecOn with
  |_ j ih =>
   intro hj
   cases hl : listed.getD j false with
   |true => rfl
   |false =>
    exfalso
    have : j ∈ Region.ready .any L1.toArray listed := mem_ready.2 ⟨by simpa using hj, by rw [V0D (by omega)]; exact hl, L1[j], by simp [hj], fun e he hb => ih e.on (H.lt j _ (by simp [hj]) e he hb) (Nat.lt_trans (H.lt j _ (by simp [hj]) e he hb) hj)⟩
    rw [hr] at this
    cases this
 have hr2 : ∀ (listed : Array Bool), listed.size = L1.length → Region.ready .any (L1 ++ [o]).toArray (listed.push false) ≠ [] := by
  intro listed hs hr
  by_cases hr1 : Region.ready .any L1.toArray listed = []
  ·have hall := hnil listed hs hr1
   have : L1.length ∈ Region.ready .any (L1 ++ [o]).toArray (listed.push false) := mem_ready.2 ⟨by rw [hsz]; omega, by simp [Array.getD_eq_getD_getElem?, ← hs], o, hgetn, fun e he hb => by
    have hlo := H.lo e he hb
    rw [x0h (by omega)]; exact hall _ hlo⟩
   rw [hr] at this; cases this
  ·obtain ⟨i, hi⟩ := List.exists_mem_of_ne_nil _ hr1
   obtain ⟨q1, q2, x, q3, q4⟩ := mem_ready.1 hi
   have q1' : i < L1.length := by simpa using q1
   have : i ∈ Region.ready .any (L1 ++ [o]).toArray (listed.push false) := mem_ready.2 ⟨by rw [hsz]; omega, by rw [y0Z (by omega)]; exact q2, x, by rw [hget1 q1']; exact q3, fun e he hb => by
    have := H.lt i x (by simpa using q3) e he hb
    rw [x0h (by omega)]; exact q4 e he hb⟩
   rw [hr] at this; cases this
 have hlast : ∀ (fuel : Nat) (listed : Array Bool) (a : Act) (w : World), listed.size = L1.length → (∀ j, j < L1.length → listed.getD j false = true) → Q' .normal a w → wpOpIn F n P (L1 ++ [o]).toArray Q L1.length (wpAnyIn F n P .any (L1 ++ [o]).toArray Q fuel ((listed.push false).setIfInBounds L1.length true)) a w := by
  intro fuel listed a w hs hall hq
  have hr : Region.ready .any (L1 ++ [o]).toArray ((listed.push false).setIfInBounds L1.length true) = [] := by
   rw [List.eq_nil_iff_forall_not_mem]
   intro i hi
   obtain ⟨q1, q2, _⟩ := mem_ready.1 hi
   rw [hsz] at q1
   rw [V0D (by simp [hs]; omega), k0h (by simp [hs])] at q2
   by_cases hin : i = L1.length
   ·subst hin
    simp at q2
   ·rw [x0h (by omega), hall i (by omega)] at q2
    cases q2
  unfold wpOpIn
  rw [hgetn]
  dsimp only
  rw [if_pos (by simp [Region.wanted, H.go])]
  refine Oper.wpIn_mono (fun a' w' hq' => ?_) (hQ' a w hq)
  cases fuel with
  |zero => exact ⟨hr, hq'⟩
  |succ fuel => exact ⟨fun _ => hq', fun i hi => by rw [hr] at hi; cases hi⟩
 intro fuel
 induction fuel with
 |zero =>
  intro listed a w hs hc h
  refine ⟨fun hr => absurd hr (hr2 listed hs), fun i hi => ?_⟩
  obtain ⟨q1, q2, x, q3, q4⟩ := mem_ready.1 hi
  rw [hsz] at q1
  have hall := hnil listed hs h.1
  by_cases hin : i = L1.length
  ·subst hin
   exact hlast 0 listed a w hs hall h.2
  ·rw [y0Z (by omega), V0D (by omega), hall i (by omega)] at q2
   cases q2
 |succ fuel ih =>
  intro listed a w hs hc h
  refine ⟨fun hr => absurd hr (hr2 listed hs), fun i hi => ?_⟩
  obtain ⟨q1, q2, x, q3, q4⟩ := mem_ready.1 hi
  rw [hsz] at q1
  by_cases hin : i = L1.length
  ·subst hin
   rw [hgetn] at q3
   cases q3
   have hall := hfin listed hs hc (fun e he hb => by
    have hlo := H.lo e he hb
    have := q4 e he hb
    rwa [x0h zO] at this)
   have hr1 : Region.ready .any L1.toArray listed = [] := by
    rw [List.eq_nil_iff_forall_not_mem]
    intro j hj
    obtain ⟨p1, p2, _⟩ := mem_ready.1 hj
    have p1' : j < L1.length := by simpa using p1
    rw [V0D (by omega), hall j p1'] at p2
    cases p2
   exact hlast (fuel + 1) listed a w hs hall (h.1 hr1)
  ·have hil : i < L1.length := by omega
   rw [hget1 hil] at q3
   have hx : L1[i]? = some x := by simpa using q3
   have hedges : ∀ e ∈ x.after.toList, Region.binds .any e = true → listed.getD e.on false = true := fun e he hb => by
    have := H.lt i x hx e he hb
    have h4 := q4 e he hb
    rwa [x0h zO] at h4
   have hmem : i ∈ Region.ready .any L1.toArray listed := mem_ready.2 ⟨by simpa using hil, by rw [y0Z (by omega)] at q2; exact q2, x, q3, hedges⟩
   have h1 := h.2 i hmem
   unfold wpOpIn at h1 ⊢
   rw [q3] at h1
   rw [hget1 hil, q3]
   dsimp only at h1 ⊢
   rw [if_pos (by simp [Region.wanted, H.g i x hx])] at h1 ⊢
   refine Oper.wpIn_mono2 (fun a' w' hk => ?_) hQe hL h1
   have hset : (listed.push false).setIfInBounds i true = (listed.setIfInBounds i true).push false := by
    apply Array.ext_getElem?
    intro j
    have his : i < listed.size := by omega
    by_cases hji : i = j
    ·subst hji
     have hne : i ≠ listed.size := by omega
     simp [Array.getElem?_push, Array.getElem?_setIfInBounds_self, his, hne]
     omega
    ·rw [Array.getElem?_setIfInBounds_ne hji, Array.getElem?_push, Array.getElem?_push, Array.getElem?_setIfInBounds_ne hji, Array.size_setIfInBounds]
   rw [hset]
   refine ih _ a' w' (by simp [hs]) ?_ hk
   intro j hj y hy e he hb
   rw [k0h (by omega)] at hj ⊢
   simp only [Bool.or_eq_true] at hj ⊢
   rcases hj with hj | hj
   ·exact .inl (hc j hj y hy e he hb)
   ·have := Nat.eq_of_beq_eq_true hj
    subst this
    rw [hx] at hy
    cases hy
    exact .inl (hedges e he hb)
end
theorem W1t {P : Program} {E : Env} {ops ops' : Array Oper} {o : Oper} {x : Rec} {T : Tab} {O : Own} (hg : o.guard = none) (h : GS P E ops o x T O) : GS P E ops' o x T O := by
 refine ⟨h.1, fun T' O' h1 h2 h3 a w hs => ?_⟩
 have h4 := h.2 T' O' (fun d hd => h1 d (by
  unfold Oper.looksAt at hd ⊢
  rw [hg] at hd ⊢
  exact hd)) h2 h3 a w hs
 rw [if_pos (by simp [Region.wanted, hg])] at h4 ⊢
 exact h4
theorem y1C {P : Program} {E : Env} {ops ops' : Array Oper} : ∀ {l : List (Oper × Rec)} {T : Tab} {O : Own}, (∀ y ∈ l, y.1.guard = none) → DR P E ops l T O → DR P E ops' l T O
 |[], _, _, _, _ => trivial
 |(o, x) :: l, _, _, hg, h => ⟨W1t (hg (o, x) (by simp)) h.1, h.2.1, y1C (fun y hy => hg y (by simp [hy])) h.2.2⟩
theorem j1A {P : Program} {E : Env} {id : Nat} {L : List Oper} {Q : Exit → Act → World → Prop} {rpre : List (Oper × Rec)} {T0 T : Tab} {O0 O : Own} {o : Oper} (hm : P.follows .mixedOrders = true)
  (hok : (Z0n (rpre.reverse.map (·.1)).toArray rpre.reverse && V0x rpre.reverse T0 O0) = true) (hlast : q1f (rpre.reverse.map (·.1)) o = true) (h : LSQ P E L.toArray Q [o] T O) : DRQ P E id L Q rpre [o] T0 O0 T O := by
 refine ⟨fun hL hp => ?_⟩
 have H := q1g hlast
 simp only [Bool.and_eq_true] at hok
 have hdr : DR P E (rpre.reverse.map (·.1)).toArray rpre.reverse T0 O0 := y1C (fun y hy => by
  obtain ⟨j, hj, rfl⟩ := List.getElem_of_mem hy
  exact H.g j _ (by rw [List.getElem?_map, List.getElem?_eq_getElem hj]; rfl)) hp.dr
 intro a w hs
 refine wpIn_region_any hm ?_
 subst hL
 generalize hl1 : rpre.reverse.map (·.1) = L1 at *
 have hlen : L1.length = rpre.reverse.length := by rw [← hl1, List.length_map]
 have hsz : (L1 ++ [o]).toArray.size = L1.length + 1 := by simp
 rw [hsz]
 have hrep : Array.replicate (L1.length + 1) false = (Array.replicate L1.length false).push false := by
  rw [Array.replicate_succ]
 rw [hrep]
 have hf : ∀ j, (Array.replicate L1.length false).getD j false = false := by
  intro j
  simp [Array.getD_eq_getD_getElem?, Array.getElem?_replicate]
  split <;> simp
 refine w1y (Q' := fun e a w => match e with | .normal => o.wpIn (fc E.round) 0 P a w (fun a w => Q .normal a w) Q | e => Q e a w) H (fun a w hq => hq) (fun e a w hne hq => by cases e <;> first | exact absurd rfl hne | exact hq) (fun hq => hq) L1.length _ a _ (by simp) (fun j hj => by dsimp only at hj; rw [hf] at hj; cases hj) ?_
 refine Z0o (by rw [hl1]) hdr hok.1 hok.2 (fun a w hs => ?_) L1.length _ a _ (by simp [hlen]) (fun j hj => by rw [hf] at hj; cases hj) (by omega) ?_
 ·have h1 := h.sq a w (Sat.congr hp.tab hp.own hs)
  have h2 : wpListIn (fc E.round) 0 P (L1 ++ [o]).toArray Q [o] a w := h1
  unfold wpListIn at h2
  rw [if_pos (by simp [Region.wanted, H.go])] at h2
  exact Oper.wpIn_mono (fun a' w' hk => hk) h2
 ·have c0 : ∀ {α : Type} (xs : List (List (Nat × α))) (fl : Nat → Bool), (∀ j, fl j = false) → ∀ A, comp fl xs A = A := by
   intro α xs
   induction xs with
   |nil => intro fl _ A; rfl
   |cons y ys ih => intro fl hf A; unfold comp; simp only [hf 0]; exact ih _ (fun j => hf (j + 1)) A
  rw [c0 _ _ hf, c0 _ _ hf]
  exact hs.drew
end Go.Vc
end
section
namespace Go.Vc
open Go Go.RowKit
section
variable {P : Program} {E : Env} {T : Tab} {O Oc O' : Own} {d : Option Tmp} {ty : TypeId} {pos : String} {af : Array Edge} {g : Option (Nat × Bool)}
theorem J1I {f : FuncId} {xs : List Operand} {caps : List CV} (hx : xs.map T.ev = caps.map CV.sv) :
  GV P E ⟨d, .makeFunc (.func f) xs.toArray #[], ty, pos, af, g⟩ T O (.fnC f caps) [] [] := by
 refine ⟨fun T' O' hT _ => ⟨by intro c; simp, fun Z ν a w hs => ?_⟩⟩
 have hx' : xs.map T'.ev = caps.map CV.sv := by
  rw [← hx]
  refine List.map_congr_left fun x hxm => j0r (o := ⟨d, .makeFunc (.func f) xs.toArray #[], ty, pos, af, g⟩) hT ?_
  simp [Op.operands, hxm]
 have hev := Q0v hs hx'
 rw [All2.map_iff] at hev
 refine j0B (w' := w) (v := .func (.func f) (xs.map a.eval).toArray #[]) (by simp [execOp, Instr.makeFunc]) ⟨_, Z, ν, rfl, hs, ?_⟩
 exact ⟨xs.map a.eval, rfl, hev.mono fun c _ v hv => CV.sv_ok.1 hv⟩
theorem w1d {f : FuncId} {c : Operand} {xs : List Operand} {ats : Array TypeId} {args : List SV} {res : SV} (l : List (Nat × Nat)) (hc : CtrH P f args Oc res O') (hf : T.ev c = .av (.val (.func (.func f) #[] #[]))) (hx : xs.map T.ev = args.map (SV.ren (rnm l))) (hsub : OwnSub l O Oc) (hok : w1u T O l Oc O' res = true) :
  VStep P E ⟨d, .call ⟨.value c, xs.toArray, ats⟩, ty, pos, af, g⟩ T O T (Own.ren (rnm l) O' ++ O) (res.ren (rnm l)) := by
 refine ⟨by intro c; simp, fun Z ν a w hs => ?_⟩
 have hfv : a.eval c = .func (.func f) #[] #[] := j0w hf (j0G hs c)
 have hev := X0Y (Q0v hs hx)
 refine q0g (f := f) (args := (xs.map a.eval).toArray) ?_ ?_
 ·have hen := hc.enters (xs.map a.eval).toArray w
  simp [execOp, resolve, Deferred.ofValue, hfv, invoke] at hen ⊢
  exact hen
 ·refine Calls.mono (hc.calls w Z _ _ hs.base.zok hev (hsub.own' hs (V0E hok hc.keys))) ?_
  rintro e w' ⟨u, Z', ν', rfl, hb, hν, ho, hr⟩
  exact ⟨u, rfl, u, Z', nuB l O' ν ν', rfl, hs.calledH hsub hok hb hν ho hc.keys, V0S hok hr⟩
theorem w1c {f : FuncId} {c : Operand} {xs : List Operand} {ats : Array TypeId} {args : List SV} {caps : List CV} {res : SV} (l : List (Nat × Nat)) (hc : CtrH P f args Oc res O') (hf : T.ev c = .fnC f caps) (hx : caps.map CV.sv ++ xs.map T.ev = args.map (SV.ren (rnm l))) (hsub : OwnSub l O Oc) (hok : w1u T O l Oc O' res = true) :
  VStep P E ⟨d, .call ⟨.value c, xs.toArray, ats⟩, ty, pos, af, g⟩ T O T (Own.ren (rnm l) O' ++ O) (res.ren (rnm l)) := by
 refine ⟨by intro c; simp, fun Z ν a w hs => ?_⟩
 have hfv := j0G hs c
 rw [hf] at hfv
 obtain ⟨cs, hfv, hcs⟩ := hfv
 have hev : All2 (fun s v => SV.ok Z ν w s v) (caps.map CV.sv ++ xs.map T.ev) (cs ++ xs.map a.eval) := by
  refine All2.app ?_ (Q0v hs rfl)
  rw [All2.map_iff]
  exact hcs.mono fun c _ v hv => CV.sv_ok.2 hv
 rw [hx] at hev
 have hev := X0Y hev
 refine q0g (f := f) (args := (cs ++ xs.map a.eval).toArray) ?_ ?_
 ·have hen := hc.enters (cs ++ xs.map a.eval).toArray w
  have : cs.toArray ++ (List.map a.eval xs).toArray = (cs ++ List.map a.eval xs).toArray := by simp
  simp [execOp, resolve, Deferred.ofValue, hfv, invoke] at hen ⊢
  exact hen
 ·refine Calls.mono (hc.calls w Z _ _ hs.base.zok hev (hsub.own' hs (V0E hok hc.keys))) ?_
  rintro e w' ⟨u, Z', ν', rfl, hb, hν, ho, hr⟩
  exact ⟨u, rfl, u, Z', nuB l O' ν ν', rfl, hs.calledH hsub hok hb hν ho hc.keys, V0S hok hr⟩
end
end Go.Vc
end
section
namespace Go.Vc
open Go Go.RowKit
section
variable {P : Program} {E : Env} {T T' : Tab} {O O' : Own} {o : Oper} {d : Option Tmp} {ty : TypeId} {pos : String} {af : Array Edge} {g : Option (Nat × Bool)}
theorem Y0d {t e : TypeId} {x : Operand} {r sz sz' n ety : Nat} {cs : List SV} [ht : SlTy P t e sz'] (hx : T.ev x = .osl r) (hr : look O r = some (.srow ety sz n cs)) :
  GV P E ⟨d, .call ⟨.builtin .len, #[x], #[t]⟩, ty, pos, af, g⟩ T O (.av (.val (.int .i64 n))) [r] [] :=
 j0p [r] fun Z ν a w h hO => by
  have hv := x0J hx (h x (by simp [Op.operands, Call.operands]))
  refine ⟨.int .i64 n, ?_, rfl⟩
  rcases hO r (by simp) _ hr with ⟨h1, h2, _⟩ | ⟨b, cap, arr, h1, _⟩
  ·simp [execOp, resolve, invoke, builtin, Builtin.len_, hv, h1, h2, run_underlying ht.und, goInt]
  ·simp [execOp, resolve, invoke, builtin, Builtin.len_, hv, h1, run_underlying ht.und, goInt]
theorem q0Z {t e : TypeId} {x y : Operand} {r sz n ety : Nat} {cs : List SV} {q : IntKind} {i : Int} {k : Nat} [ht : SlTy P t e sz] (hx : T.ev x = .osl r) (hr : look O r = some (.srow ety sz n cs)) (hy : T.ev y = .av (.val (.int q i)))
  (hi : i = ↑k) (hk : k < n) : GV P E ⟨d, .indexAddr t x y, ty, pos, af, g⟩ T O (.oel r sz k 0) [r] [] :=
 j0p [r] fun Z ν a w h hO => by
  have hv := x0J hx (h x (by simp [Op.operands]))
  have hvi := j0w hy (h y (by simp [Op.operands]))
  subst hi
  rcases hO r (by simp) _ hr with ⟨_, h2, _⟩ | ⟨b, cap, arr, h1, _⟩
  ·omega
  ·refine ⟨.pointer (some ⟨b, k * sz, none⟩), ?_, b, n, cap, h1, by simp⟩
   simp [execOp, Instr.indexAt, hvi, hv, h1, asIntOf, run_underlying ht.und, ht.size w, hk, j0I]
theorem X0A {Z : j0q} {ν : j0N} {w : World} {r ety sz n i : Nat} {cs : List SV} {s : SV} {b : Nat} {m c : Nat} (hx : Res.ok E Z ν w (ν r) (.srow ety sz n cs)) (hb : ν r = .slice (some ⟨b, 0, none⟩) m c) (hs : cs[i]? = some s) :
  ∃ u, w.cell? ⟨b, i, none⟩ = some u ∧ s.ok Z ν w u := by
 rcases hx with ⟨h1, _⟩ | ⟨b', cap, arr, h1, _, _, h4, _, _, _, h8⟩
 ·rw [hb] at h1; simp at h1
 ·rw [hb] at h1
  simp only [Value.slice.injEq, Option.some.injEq, Addr.mk.injEq, and_true] at h1
  obtain ⟨rfl, rfl, rfl⟩ := h1
  obtain ⟨u, hu, hk⟩ := h8 i s hs
  exact ⟨u, by rw [cell_of_row w b i arr ety _ h4]; exact hu, hk⟩
theorem W0R {f : FuncId} {x : Operand} {u : Value} (hx : T.ev x = .av (.val u)) :
  GV P E ⟨d, .makeFunc (.func f) #[x] #[], ty, pos, af, g⟩ T O (.av (.val (.func (.func f) #[u] #[]))) [] [] :=
 j0p [] fun Z ν a w h _ => by
  have hv := j0w hx (h x (by simp [Op.operands]))
  exact ⟨.func (.func f) #[u] #[], by simp [execOp, Instr.makeFunc, hv], rfl⟩
theorem j1V {f : FuncId} {c : Operand} {xs : List Operand} {ats : Array TypeId} {τs : List AV} {u : Value} {res : AV} (hc : CtrA P f (.val u :: τs) res) (hf : T.ev c = .av (.val (.func (.func f) #[u] #[]))) (hx : xs.map T.ev = τs.map SV.av) :
  GV P E ⟨d, .call ⟨.value c, xs.toArray, ats⟩, ty, pos, af, g⟩ T O (.av res) [] [] := by
 refine ⟨fun T' O' hT _ => ⟨by intro c; simp, fun Z ν a w hs => ?_⟩⟩
 have hmem : ∀ x ∈ c :: xs, x ∈ (Op.call ⟨.value c, xs.toArray, ats⟩).operands.toList := by intro x hx; simpa [Op.operands, Call.operands] using hx
 have hx' : xs.map T'.ev = τs.map SV.av := by
  rw [← hx]
  exact List.map_congr_left fun x hxm => j0r (o := ⟨d, .call ⟨.value c, xs.toArray, ats⟩, ty, pos, af, g⟩) hT (hmem x (by simp [hxm]))
 have hev := v0A hs hx'
 have hfv : a.eval c = .func (.func f) #[u] #[] := by
  have := j0G hs c
  rw [j0r (o := ⟨d, .call ⟨.value c, xs.toArray, ats⟩, ty, pos, af, g⟩) hT (hmem c (by simp)), hf] at this
  exact this
 have hev' : All2 (fun τ v => AV.ok Z w τ v) (.val u :: τs) (u :: xs.map a.eval) := ⟨rfl, hev⟩
 refine q0g (f := f) (args := (u :: xs.map a.eval).toArray) ?_ ?_
 ·have hen := hc.enters (u :: xs.map a.eval).toArray w
  have : #[u] ++ (List.map a.eval xs).toArray = (u :: List.map a.eval xs).toArray := by simp
  simp [execOp, resolve, Deferred.ofValue, hfv, invoke] at hen ⊢
  exact hen
 ·refine Calls.mono (hc.calls w Z _ hs.base.zok hev') ?_
  rintro e w' ⟨v, Z', rfl, hb, h1, h2, h3, hv⟩
  exact ⟨v, rfl, v, Z', ν, rfl, hs.called hb h1 h2 h3, hv⟩
theorem Z0A {f : FuncId} {c : Operand} {xs : List Operand} {ats : Array TypeId} {u : Value} {res : AV} (hf : T.ev c = .av (.val (.func (.func f) #[u] #[]))) (hx : ((xs.map T.ev).all SV.isAv) = true) (hc : CtrA P f (.val u :: (xs.map T.ev).map SV.toAV) res) :
  GV P E ⟨d, .call ⟨.value c, xs.toArray, ats⟩, ty, pos, af, g⟩ T O (.av res) [] [] := j1V hc hf (Q0b _ hx)
end
end Go.Vc
end
