/- A part of the proof. -/
import Derived.Test.YtgepmbjmaljgoaaGreatDoorBae
set_option linter.unusedVariables false
set_option linter.unusedSimpArgs false
section
namespace Go.Vc
open Go Go.RowKit
variable {P : Program} {E : Env} {T : Tab} {O : Own} {d : Option Nat} {ty : TypeId} {pos : String} {af : Array Edge} {g : Option (Nat × Bool)}
variable {t : TypeId} {x y : Operand} {b : Bool} {n : Int} {f : Nat → Int} {m : Nat}
theorem g_load_an [ht : CellTy P t] (hx : T.ev x = .av (.ptr m (fun j => .val ((wvs 232 b n f).getD (1 + j) undef)))) (hm : Nat.blt 0 m = true) : GV P E ⟨d, .load t x, ty, pos, af, g⟩ T O (.av (.val (.int .i64 n))) [] [] := g_load hx hm rfl
theorem g_load_ab [ht : CellTy P t] (hx : T.ev x = .av (.ptr m (fun j => .val ((wvs 232 b n f).getD (0 + j) undef)))) (hm : Nat.blt 0 m = true) : GV P E ⟨d, .load t x, ty, pos, af, g⟩ T O (.av (.val (.bool b))) [] [] := g_load hx hm rfl
theorem g_load_aw {k : Nat} [ht : CellTy P t] (hx : T.ev x = .av (.ptr m (fun j => .val ((wvs 232 b n f).getD (2 + (k * 1 + j)) undef)))) (hm : Nat.blt 0 m = true) (hk : k < 232) : GV P E ⟨d, .load t x, ty, pos, af, g⟩ T O (.av (.val (.int .i64 (f k)))) [] [] :=
 g_load hx hm (wA_get zO hk)
theorem g_index_arrZ {t e : TypeId} {x y : Operand} {len sz n : Nat} {f : Nat → AV} {q : IntKind} {i : Int} [ht : ArrTy P t len e sz] (hx : T.ev x = .av (.ptr n f)) (hy : T.ev y = .av (.val (.int q i))) (hi : 0 ≤ i) (hk : i < len) (hn : len * sz ≤ n) :
  GV P E ⟨d, .indexAddr t x y, ty, pos, af, g⟩ T O (.av (.ptr sz (fun j => f (i.toNat * sz + j)))) [] [] := g_index_arr' i.toNat hx hy zO zO (by
   have : (i.toNat + 1) * sz ≤ len * sz := Nat.mul_le_mul_right _ zO
   omega)
theorem g_index_arrN {t e : TypeId} {x y : Operand} {len sz n : Nat} {f : Nat → AV} {q : IntKind} {i : Int} {k : Nat} [ht : ArrTy P t len e sz] (hx : T.ev x = .av (.ptr n f)) (hy : T.ev y = .av (.val (.int q i))) (hi : i = ↑k) (hk : k < len) (hn : len * sz ≤ n) :
  GV P E ⟨d, .indexAddr t x y, ty, pos, af, g⟩ T O (.av (.ptr sz (fun j => f (k * sz + j)))) [] [] := g_index_arr' k hx hy hi hk (Nat.le_trans (Nat.mul_le_mul_right _ hk) hn)
theorem g_index_ownZ {t e : TypeId} {x y : Operand} {len sz r o : Nat} {q : IntKind} {i : Int} [ht : ArrTy P t len e sz] (hx : T.ev x = .own r o) (hy : T.ev y = .av (.val (.int q i))) (hi : 0 ≤ i) (hk : i < len) :
  GV P E ⟨d, .indexAddr t x y, ty, pos, af, g⟩ T O (.own r (o + i.toNat * sz)) [] [] := g_index_own (k := i.toNat) hx hy zO zO
theorem g_load_wx {r o k : Nat} [ht : CellTy P t] (hx : T.ev x = .own r (o + k * 1)) (hr : look O r = some (.wi b n f)) (ho : Nat.beq o 2 = true) (hk : k < 232) :
  GV P E ⟨d, .load t x, ty, pos, af, g⟩ T O (.av (.val (.int .i64 (f k)))) [r] [] := g_load_ww k hx hr (by rw [Nat.eq_of_beq_eq_true ho]; omega) hk
theorem g_store_wx {r o k : Nat} {v : Int} [ht : SizeTy P t 1] (hx : T.ev x = .own r (o + k * 1)) (hy : T.ev y = .av (.val (.int .i64 v))) (hr : look O r = some (.wi b n f)) (ho : Nat.beq o 2 = true) (hk : k < 232) :
  GV P E ⟨d, .store t x y, ty, pos, af, g⟩ T O (.av .any) [r] [(r, .wi b n (upd f k v))] := g_store_ww k hx hy hr (by rw [Nat.eq_of_beq_eq_true ho]; omega) hk
theorem g_load_aall [ht : AggTy P t 234] (hx : T.ev x = .av (wA b n f)) : GV P E ⟨d, .load t x, ty, pos, af, g⟩ T O (.av (.val (.agg (wvs 232 b n f).toArray))) [] [] := by
 refine g_load_agg hx (wvs_len ..) rfl ?_
 apply List.ext_getElem?
 intro i
 by_cases hi : i < 234
 ·have hl : i < (wvs 232 b n f).length := by rw [wvs_len]; exact hi
  simp [hi, List.getD, hl]
 ·simp [hi, wvs_len]
theorem ga_box_w (r : Nat) (hx : T.ev x = .av (.val (.agg (wvs 232 b n f).toArray))) (hp : Nat.blt r 1000 = true := by first | rfl | assumption) : GA P E ⟨d, .box t x, ty, pos, af, g⟩ T O (.own r 0) [] r (.wi b n f) :=
 ⟨fun T' O' hT _ hf => (v_box_vb r ((ev_same hT (by simp [Op.operands])).trans hx) hp).freshP hf, by intro c; simp⟩
theorem BArg.w {r : Nat} (h : T.ev x = .own r 0) (hr : look O r = some (.wi b n f)) : BArg T O x (wA b n f) := wA_eq b n f ▸ BArg.vb h hr
section
variable {fn : Func} {w : World} {Z : Zone} {ν : Vals} {N : Nat} {O' : Own} {res : SV}
theorem sq_endH0 (hr : fn.results = #[]) (hhi : keysHi O = true) (hres : res = .av .any) : SQ (envH N w Z O ν) T O' (bodyPost P fn (RetH w Z ν O res O') .normal) := sq_retH0 hr hhi hres
end
end Go.Vc
end
section
namespace Go.Vc
open Go Go.RowKit
theorem Oper.wpIn_mono2 {F : Fence} {n : Nat} {P : Program} {Q Q' : Exit → Act → World → Prop} {o : Oper} {a : Act} {w : World} {K K' : Act → World → Prop} (h : ∀ a w, K a w → K' a w) (hQ : ∀ e a w, e ≠ .normal → Q e a w → Q' e a w) (hL : LetsOut Q → LetsOut Q')
  (hh : o.wpIn F n P a w K Q) : o.wpIn F n P a w K' Q' := by
 unfold Oper.wpIn at *
 refine ⟨hh.1, ?_⟩
 have hh := hh.2
 generalize (o.semAt F.round a.eval).run P w = r at *
 cases r with
 |ok x w' =>
  cases x <;> simp only [Oper.uponIn] at hh ⊢ <;>
   first
    |exact h _ _ hh
    |exact hQ _ _ _ (by simp) hh
    |exact ⟨hh.1, CallsIn.mono hh.2 (fun e w'' he => by cases e <;> first | exact h _ _ he | exact hQ _ _ _ (by simp) he | exact hL he)⟩
    |exact ⟨hh.1, RowsIn.mono hh.2 (fun _ _ he => h _ _ he)⟩
    |exact ⟨hh.1, RoundIn.mono hh.2 (fun e w'' he => by cases e <;> first | exact h _ _ he | exact hQ _ _ _ (by simp) he | exact hL he)⟩
 |halt x w' => cases x <;> simp only [Oper.uponIn] at hh ⊢ <;> first | exact hh | exact hQ _ _ _ (by simp) hh
section
variable {F : Fence} {n : Nat} {P : Program} {Q Q' : Exit → Act → World → Prop} {o : Oper} {L1 : List Oper}
def Closed (L1 : List Oper) (D : Nat → Prop) : Prop := ∀ j, D j → ∀ x, L1[j]? = some x → ∀ e ∈ x.after.toList, Region.binds .any e = true → D e.on
def lastOk (L1 : List Oper) (o : Oper) : Bool :=
 (List.range L1.length).all (fun j => match L1[j]? with | some x => x.guard.isNone && x.after.toList.all (fun e => !Region.binds .any e || Nat.blt e.on j) | none => true) &&
 (o.guard.isNone && o.after.toList.all (fun e => !Region.binds .any e || Nat.blt e.on L1.length)) &&
 (List.range L1.length).all (fun j => reach (L1 ++ [o]) (L1.length + 1) L1.length j)
structure LastOk (L1 : List Oper) (o : Oper) : Prop where
 g : ∀ (j : Nat) (x : Oper), L1[j]? = some x → x.guard = none
 lt : ∀ (j : Nat) (x : Oper), L1[j]? = some x → ∀ e ∈ x.after.toList, Region.binds .any e = true → e.on < j
 go : o.guard = none
 lo : ∀ e ∈ o.after.toList, Region.binds .any e = true → e.on < L1.length
 cov : ∀ D : Nat → Prop, Closed L1 D → (∀ e ∈ o.after.toList, Region.binds .any e = true → D e.on) → ∀ j, j < L1.length → D j
theorem lastOk_ok (h : lastOk L1 o = true) : LastOk L1 o := by
 simp only [lastOk, Bool.and_eq_true, List.all_eq_true, List.mem_range] at h
 obtain ⟨⟨h1, h2, h3⟩, h4⟩ := h
 have hL : ∀ (j : Nat) (x : Oper), L1[j]? = some x → x.guard.isNone = true ∧ ∀ e ∈ x.after.toList, (!Region.binds .any e || Nat.blt e.on j) = true := fun j x hx => by
  have := h1 j (List.getElem?_eq_some_iff.1 hx).1
  rw [hx] at this
  simpa only [Bool.and_eq_true, List.all_eq_true] using this
 refine ⟨fun j x hx => by simpa using (hL j x hx).1, fun j x hx e he hb => ?_, by simpa using h2, fun e he hb => ?_, fun D hD ho j hj => ?_⟩
 ·have := (hL j x hx).2 e he
  rw [hb] at this
  exact lt_of_blt (by simpa using this)
 ·have := h3 e he
  rw [hb] at this
  exact lt_of_blt (by simpa using this)
 ·have hlt : ∀ (j : Nat) (x : Oper), L1[j]? = some x → ∀ e ∈ x.after.toList, Region.binds .any e = true → e.on < j := fun j x hx e he hb => by
   have := (hL j x hx).2 e he
   rw [hb] at this
   exact lt_of_blt (by simpa using this)
  refine reach_flag (l := L1 ++ [o]) (D := fun k => k < L1.length ∧ D k) ?_ (L1.length + 1) L1.length j o (by simp) (fun e he hb => ⟨?_, ho e he hb⟩) (h4 j hj) |>.2
  ·rintro k ⟨hk, hDk⟩ x hx e he hb
   rw [List.getElem?_append_left hk] at hx
   exact ⟨Nat.lt_trans (hlt k x hx e he hb) hk, hD k hDk x hx e he hb⟩
  ·have := h3 e he
   rw [hb] at this
   exact lt_of_blt (by simpa using this)
theorem mem_ready {ops : Array Oper} {listed : Array Bool} {i : Nat} : i ∈ Region.ready .any ops listed ↔ i < ops.size ∧ listed.getD i true = false ∧ ∃ x, ops[i]? = some x ∧ ∀ e ∈ x.after.toList, Region.binds .any e = true → listed.getD e.on false = true := by
 simp only [Region.ready, List.mem_filter, List.mem_range, Bool.and_eq_true, Bool.not_eq_true']
 refine and_congr_right fun hi => and_congr_right fun _ => ?_
 rw [Array.getElem?_eq_getElem hi]
 simp only [Option.map_some, Option.getD_some, Array.all_eq_true']
 constructor
 ·intro h
  refine ⟨_, rfl, fun e he hb => ?_⟩
  have := h e (Array.mem_toList_iff.1 he)
  rw [hb] at this
  simpa using this
 ·rintro ⟨x, rfl_, h⟩ e he
  cases rfl_
  cases hb : Region.binds .any e with
  |false => rfl
  |true => rw [h e (Array.mem_toList_iff.2 he) hb]; rfl
theorem push_getD {l : Array Bool} {b : Bool} {j : Nat} (h : j < l.size) : (l.push b).getD j false = l.getD j false := by
 simp [Array.getD_eq_getD_getElem?, Array.getElem?_push, Nat.ne_of_lt h]
theorem push_getDt {l : Array Bool} {b : Bool} {j : Nat} (h : j < l.size) : (l.push b).getD j true = l.getD j true := by
 simp [Array.getD_eq_getD_getElem?, Array.getElem?_push, Nat.ne_of_lt h]
theorem getD_ft {l : Array Bool} {j : Nat} (h : j < l.size) : l.getD j true = l.getD j false := by
 simp [Array.getD_eq_getD_getElem?, Array.getElem?_eq_getElem h]
theorem set_getD {l : Array Bool} {i j : Nat} (hi : i < l.size) : (l.setIfInBounds i true).getD j false = (l.getD j false || Nat.beq j i) := by
 by_cases hji : j = i
 ·subst hji
  simp [Array.getD_eq_getD_getElem?, hi]
 ·have hb : Nat.beq j i = false := by
   cases hb : Nat.beq j i with
   |false => rfl
   |true => exact absurd (Nat.eq_of_beq_eq_true hb) hji
  simp [Array.getD_eq_getD_getElem?, Array.getElem?_setIfInBounds_ne (Ne.symm hji), hb]
theorem any_last (H : LastOk L1 o) (hQ' : ∀ a w, Q' .normal a w → o.wpIn F n P a w (fun a w => Q .normal a w) Q) (hQe : ∀ e a w, e ≠ .normal → Q' e a w → Q e a w) (hL : LetsOut Q' → LetsOut Q) :
  ∀ (fuel : Nat) (listed : Array Bool) (a : Act) (w : World), listed.size = L1.length → Closed L1 (fun j => listed.getD j false = true) → wpAnyIn F n P .any L1.toArray Q' fuel listed a w →
   wpAnyIn F n P .any (L1 ++ [o]).toArray Q (fuel + 1) (listed.push false) a w := by
 have hsz : (L1 ++ [o]).toArray.size = L1.length + 1 := by simp
 have hget1 : ∀ {j : Nat}, j < L1.length → (L1 ++ [o]).toArray[j]? = L1.toArray[j]? := fun hj => by simp [List.getElem?_append_left hj]
 have hgetn : (L1 ++ [o]).toArray[L1.length]? = some o := by simp
 have hfin : ∀ (listed : Array Bool), listed.size = L1.length → Closed L1 (fun j => listed.getD j false = true) → (∀ e ∈ o.after.toList, Region.binds .any e = true → listed.getD e.on false = true) → ∀ j, j < L1.length → listed.getD j false = true :=
  fun listed hs hc he j hj => H.cov _ hc he j hj
 have hnil : ∀ (listed : Array Bool), listed.size = L1.length → Region.ready .any L1.toArray listed = [] → ∀ j, j < L1.length → listed.getD j false = true := by
  intro listed hs hr j
  induction j using Nat.strongRecOn with
  |_ j ih =>
   intro hj
   cases hl : listed.getD j false with
   |true => rfl
   |false =>
    exfalso
    have : j ∈ Region.ready .any L1.toArray listed := mem_ready.2 ⟨by simpa using hj, by rw [getD_ft (by omega)]; exact hl, L1[j], by simp [hj], fun e he hb => ih e.on (H.lt j _ (by simp [hj]) e he hb) (Nat.lt_trans (H.lt j _ (by simp [hj]) e he hb) hj)⟩
    rw [hr] at this
    cases this
 have hr2 : ∀ (listed : Array Bool), listed.size = L1.length → Region.ready .any (L1 ++ [o]).toArray (listed.push false) ≠ [] := by
  intro listed hs hr
  by_cases hr1 : Region.ready .any L1.toArray listed = []
  ·have hall := hnil listed hs hr1
   have : L1.length ∈ Region.ready .any (L1 ++ [o]).toArray (listed.push false) := mem_ready.2 ⟨by rw [hsz]; omega, by simp [Array.getD_eq_getD_getElem?, ← hs], o, hgetn, fun e he hb => by
    have hlo := H.lo e he hb
    rw [push_getD (by omega)]; exact hall _ hlo⟩
   rw [hr] at this; cases this
  ·obtain ⟨i, hi⟩ := List.exists_mem_of_ne_nil _ hr1
   obtain ⟨q1, q2, x, q3, q4⟩ := mem_ready.1 hi
   have q1' : i < L1.length := by simpa using q1
   have : i ∈ Region.ready .any (L1 ++ [o]).toArray (listed.push false) := mem_ready.2 ⟨by rw [hsz]; omega, by rw [push_getDt (by omega)]; exact q2, x, by rw [hget1 q1']; exact q3, fun e he hb => by
    have := H.lt i x (by simpa using q3) e he hb
    rw [push_getD (by omega)]; exact q4 e he hb⟩
   rw [hr] at this; cases this
 have hlast : ∀ (fuel : Nat) (listed : Array Bool) (a : Act) (w : World), listed.size = L1.length → (∀ j, j < L1.length → listed.getD j false = true) → Q' .normal a w → wpOpIn F n P (L1 ++ [o]).toArray Q L1.length (wpAnyIn F n P .any (L1 ++ [o]).toArray Q fuel ((listed.push false).setIfInBounds L1.length true)) a w := by
  intro fuel listed a w hs hall hq
  have hr : Region.ready .any (L1 ++ [o]).toArray ((listed.push false).setIfInBounds L1.length true) = [] := by
   rw [List.eq_nil_iff_forall_not_mem]
   intro i hi
   obtain ⟨q1, q2, _⟩ := mem_ready.1 hi
   rw [hsz] at q1
   rw [getD_ft (by simp [hs]; omega), set_getD (by simp [hs])] at q2
   by_cases hin : i = L1.length
   ·subst hin
    simp at q2
   ·rw [push_getD (by omega), hall i (by omega)] at q2
    cases q2
  unfold wpOpIn
  rw [hgetn]
  dsimp only
  rw [if_pos (by simp [Region.wanted, H.go])]
  refine Oper.wpIn_mono (fun a' w' hq' => ?_) (hQ' a w hq)
  cases fuel with
  |zero => exact ⟨hr, hq'⟩
  |succ fuel => exact ⟨fun _ => hq', fun i hi => by rw [hr] at hi; cases hi⟩
 intro fuel
 induction fuel with
 |zero =>
  intro listed a w hs hc h
  refine ⟨fun hr => absurd hr (hr2 listed hs), fun i hi => ?_⟩
  obtain ⟨q1, q2, x, q3, q4⟩ := mem_ready.1 hi
  rw [hsz] at q1
  have hall := hnil listed hs h.1
  by_cases hin : i = L1.length
  ·subst hin
   exact hlast 0 listed a w hs hall h.2
  ·rw [push_getDt (by omega), getD_ft (by omega), hall i (by omega)] at q2
   cases q2
 |succ fuel ih =>
  intro listed a w hs hc h
  refine ⟨fun hr => absurd hr (hr2 listed hs), fun i hi => ?_⟩
  obtain ⟨q1, q2, x, q3, q4⟩ := mem_ready.1 hi
  rw [hsz] at q1
  by_cases hin : i = L1.length
  ·subst hin
   rw [hgetn] at q3
   cases q3
   have hall := hfin listed hs hc (fun e he hb => by
    have hlo := H.lo e he hb
    have := q4 e he hb
    rwa [push_getD zO] at this)
   have hr1 : Region.ready .any L1.toArray listed = [] := by
    rw [List.eq_nil_iff_forall_not_mem]
    intro j hj
    obtain ⟨p1, p2, _⟩ := mem_ready.1 hj
    have p1' : j < L1.length := by simpa using p1
    rw [getD_ft (by omega), hall j p1'] at p2
    cases p2
   exact hlast (fuel + 1) listed a w hs hall (h.1 hr1)
  ·have hil : i < L1.length := by omega
   rw [hget1 hil] at q3
   have hx : L1[i]? = some x := by simpa using q3
   have hedges : ∀ e ∈ x.after.toList, Region.binds .any e = true → listed.getD e.on false = true := fun e he hb => by
    have := H.lt i x hx e he hb
    have h4 := q4 e he hb
    rwa [push_getD zO] at h4
   have hmem : i ∈ Region.ready .any L1.toArray listed := mem_ready.2 ⟨by simpa using hil, by rw [push_getDt (by omega)] at q2; exact q2, x, q3, hedges⟩
   have h1 := h.2 i hmem
   unfold wpOpIn at h1 ⊢
   rw [q3] at h1
   rw [hget1 hil, q3]
   dsimp only at h1 ⊢
   rw [if_pos (by simp [Region.wanted, H.g i x hx])] at h1 ⊢
   refine Oper.wpIn_mono2 (fun a' w' hk => ?_) hQe hL h1
   have hset : (listed.push false).setIfInBounds i true = (listed.setIfInBounds i true).push false := by
    apply Array.ext_getElem?
    intro j
    have his : i < listed.size := by omega
    by_cases hji : i = j
    ·subst hji
     have hne : i ≠ listed.size := by omega
     simp [Array.getElem?_push, Array.getElem?_setIfInBounds_self, his, hne]
     omega
    ·rw [Array.getElem?_setIfInBounds_ne hji, Array.getElem?_push, Array.getElem?_push, Array.getElem?_setIfInBounds_ne hji, Array.size_setIfInBounds]
   rw [hset]
   refine ih _ a' w' (by simp [hs]) ?_ hk
   intro j hj y hy e he hb
   rw [set_getD (by omega)] at hj ⊢
   simp only [Bool.or_eq_true] at hj ⊢
   rcases hj with hj | hj
   ·exact .inl (hc j hj y hy e he hb)
   ·have := Nat.eq_of_beq_eq_true hj
    subst this
    rw [hx] at hy
    cases hy
    exact .inl (hedges e he hb)
end
theorem gs_ops {P : Program} {E : Env} {ops ops' : Array Oper} {o : Oper} {x : Rec} {T : Tab} {O : Own} (hg : o.guard = none) (h : GS P E ops o x T O) : GS P E ops' o x T O := by
 refine ⟨h.1, fun T' O' h1 h2 h3 a w hs => ?_⟩
 have h4 := h.2 T' O' (fun d hd => h1 d (by
  unfold Oper.looksAt at hd ⊢
  rw [hg] at hd ⊢
  exact hd)) h2 h3 a w hs
 rw [if_pos (by simp [Region.wanted, hg])] at h4 ⊢
 exact h4
theorem dr_ops {P : Program} {E : Env} {ops ops' : Array Oper} : ∀ {l : List (Oper × Rec)} {T : Tab} {O : Own}, (∀ y ∈ l, y.1.guard = none) → DR P E ops l T O → DR P E ops' l T O
 |[], _, _, _, _ => trivial
 |(o, x) :: l, _, _, hg, h => ⟨gs_ops (hg (o, x) (by simp)) h.1, h.2.1, dr_ops (fun y hy => hg y (by simp [hy])) h.2.2⟩
theorem dq_last {P : Program} {E : Env} {id : Nat} {L : List Oper} {Q : Exit → Act → World → Prop} {rpre : List (Oper × Rec)} {T0 T : Tab} {O0 O : Own} {o : Oper} (hm : P.follows .mixedOrders = true)
  (hok : (drawOk (rpre.reverse.map (·.1)).toArray rpre.reverse && freshOk rpre.reverse T0 O0) = true) (hlast : lastOk (rpre.reverse.map (·.1)) o = true) (h : LSQ P E L.toArray Q [o] T O) : DRQ P E id L Q rpre [o] T0 O0 T O := by
 refine ⟨fun hL hp => ?_⟩
 have H := lastOk_ok hlast
 simp only [Bool.and_eq_true] at hok
 have hdr : DR P E (rpre.reverse.map (·.1)).toArray rpre.reverse T0 O0 := dr_ops (fun y hy => by
  obtain ⟨j, hj, rfl⟩ := List.getElem_of_mem hy
  exact H.g j _ (by rw [List.getElem?_map, List.getElem?_eq_getElem hj]; rfl)) hp.dr
 intro a w hs
 refine wpIn_region_any hm ?_
 subst hL
 generalize hl1 : rpre.reverse.map (·.1) = L1 at *
 have hlen : L1.length = rpre.reverse.length := by rw [← hl1, List.length_map]
 have hsz : (L1 ++ [o]).toArray.size = L1.length + 1 := by simp
 rw [hsz]
 have hrep : Array.replicate (L1.length + 1) false = (Array.replicate L1.length false).push false := by
  rw [Array.replicate_succ]
 rw [hrep]
 have hf : ∀ j, (Array.replicate L1.length false).getD j false = false := by
  intro j
  simp [Array.getD_eq_getD_getElem?, Array.getElem?_replicate]
  split <;> simp
 refine any_last (Q' := fun e a w => match e with | .normal => o.wpIn (fc E.round) 0 P a w (fun a w => Q .normal a w) Q | e => Q e a w) H (fun a w hq => hq) (fun e a w hne hq => by cases e <;> first | exact absurd rfl hne | exact hq) (fun hq => hq) L1.length _ a _ (by simp) (fun j hj => by dsimp only at hj; rw [hf] at hj; cases hj) ?_
 refine draw_any (by rw [hl1]) hdr hok.1 hok.2 (fun a w hs => ?_) L1.length _ a _ (by simp [hlen]) (fun j hj => by rw [hf] at hj; cases hj) (by omega) ?_
 ·have h1 := h.sq a w (Sat.congr hp.tab hp.own hs)
  have h2 : wpListIn (fc E.round) 0 P (L1 ++ [o]).toArray Q [o] a w := h1
  unfold wpListIn at h2
  rw [if_pos (by simp [Region.wanted, H.go])] at h2
  exact Oper.wpIn_mono (fun a' w' hk => hk) h2
 ·have c0 : ∀ {α : Type} (xs : List (List (Nat × α))) (fl : Nat → Bool), (∀ j, fl j = false) → ∀ A, comp fl xs A = A := by
   intro α xs
   induction xs with
   |nil => intro fl _ A; rfl
   |cons y ys ih => intro fl hf A; unfold comp; simp only [hf 0]; exact ih _ (fun j => hf (j + 1)) A
  rw [c0 _ _ hf, c0 _ _ hf]
  exact hs.drew
end Go.Vc
end
section
namespace Go.Vc
open Go Go.RowKit
section
variable {P : Program} {E : Env} {T : Tab} {O Oc O' : Own} {d : Option Tmp} {ty : TypeId} {pos : String} {af : Array Edge} {g : Option (Nat × Bool)}
theorem g_bound {f : FuncId} {xs : List Operand} {caps : List CV} (hx : xs.map T.ev = caps.map CV.sv) :
  GV P E ⟨d, .makeFunc (.func f) xs.toArray #[], ty, pos, af, g⟩ T O (.fnC f caps) [] [] := by
 refine ⟨fun T' O' hT _ => ⟨by intro c; simp, fun Z ν a w hs => ?_⟩⟩
 have hx' : xs.map T'.ev = caps.map CV.sv := by
  rw [← hx]
  refine List.map_congr_left fun x hxm => ev_same (o := ⟨d, .makeFunc (.func f) xs.toArray #[], ty, pos, af, g⟩) hT ?_
  simp [Op.operands, hxm]
 have hev := evs_sv hs hx'
 rw [All2.map_iff] at hev
 refine wp_value (w' := w) (v := .func (.func f) (xs.map a.eval).toArray #[]) (by simp [execOp, Instr.makeFunc]) ⟨_, Z, ν, rfl, hs, ?_⟩
 exact ⟨xs.map a.eval, rfl, hev.mono fun c _ v hv => CV.sv_ok.1 hv⟩
theorem v_call_hv {f : FuncId} {c : Operand} {xs : List Operand} {ats : Array TypeId} {args : List SV} {res : SV} (l : List (Nat × Nat)) (hc : CtrH P f args Oc res O') (hf : T.ev c = .av (.val (.func (.func f) #[] #[]))) (hx : xs.map T.ev = args.map (SV.ren (rnm l))) (hsub : OwnSub l O Oc) (hok : hokB T O l Oc O' res = true) :
  VStep P E ⟨d, .call ⟨.value c, xs.toArray, ats⟩, ty, pos, af, g⟩ T O T (Own.ren (rnm l) O' ++ O) (res.ren (rnm l)) := by
 refine ⟨by intro c; simp, fun Z ν a w hs => ?_⟩
 have hfv : a.eval c = .func (.func f) #[] #[] := val_ok hf (ev_ok hs c)
 have hev := evs_ren (evs_sv hs hx)
 refine wp_enter (f := f) (args := (xs.map a.eval).toArray) ?_ ?_
 ·have hen := hc.enters (xs.map a.eval).toArray w
  simp [execOp, resolve, Deferred.ofValue, hfv, invoke] at hen ⊢
  exact hen
 ·refine Calls.mono (hc.calls w Z _ _ hs.base.zok hev (hsub.own' hs (hok_inj hok hc.keys))) ?_
  rintro e w' ⟨u, Z', ν', rfl, hb, hν, ho, hr⟩
  exact ⟨u, rfl, u, Z', nuB l O' ν ν', rfl, hs.calledH hsub hok hb hν ho hc.keys, res_ren hok hr⟩
theorem v_call_hb {f : FuncId} {c : Operand} {xs : List Operand} {ats : Array TypeId} {args : List SV} {caps : List CV} {res : SV} (l : List (Nat × Nat)) (hc : CtrH P f args Oc res O') (hf : T.ev c = .fnC f caps) (hx : caps.map CV.sv ++ xs.map T.ev = args.map (SV.ren (rnm l))) (hsub : OwnSub l O Oc) (hok : hokB T O l Oc O' res = true) :
  VStep P E ⟨d, .call ⟨.value c, xs.toArray, ats⟩, ty, pos, af, g⟩ T O T (Own.ren (rnm l) O' ++ O) (res.ren (rnm l)) := by
 refine ⟨by intro c; simp, fun Z ν a w hs => ?_⟩
 have hfv := ev_ok hs c
 rw [hf] at hfv
 obtain ⟨cs, hfv, hcs⟩ := hfv
 have hev : All2 (fun s v => SV.ok Z ν w s v) (caps.map CV.sv ++ xs.map T.ev) (cs ++ xs.map a.eval) := by
  refine All2.app ?_ (evs_sv hs rfl)
  rw [All2.map_iff]
  exact hcs.mono fun c _ v hv => CV.sv_ok.2 hv
 rw [hx] at hev
 have hev := evs_ren hev
 refine wp_enter (f := f) (args := (cs ++ xs.map a.eval).toArray) ?_ ?_
 ·have hen := hc.enters (cs ++ xs.map a.eval).toArray w
  have : cs.toArray ++ (List.map a.eval xs).toArray = (cs ++ List.map a.eval xs).toArray := by simp
  simp [execOp, resolve, Deferred.ofValue, hfv, invoke] at hen ⊢
  exact hen
 ·refine Calls.mono (hc.calls w Z _ _ hs.base.zok hev (hsub.own' hs (hok_inj hok hc.keys))) ?_
  rintro e w' ⟨u, Z', ν', rfl, hb, hν, ho, hr⟩
  exact ⟨u, rfl, u, Z', nuB l O' ν ν', rfl, hs.calledH hsub hok hb hν ho hc.keys, res_ren hok hr⟩
end
end Go.Vc
end
section
namespace Go.Vc
open Go Go.RowKit
section
variable {P : Program} {E : Env} {T T' : Tab} {O O' : Own} {o : Oper} {d : Option Tmp} {ty : TypeId} {pos : String} {af : Array Edge} {g : Option (Nat × Bool)}
theorem srow_form {Z : Zone} {ν : Vals} {w : World} {v : Value} {e : TypeId} {sz n : Nat} {cs : List SV} (h : Res.ok E Z ν w v (.srow e sz n cs)) : v = .slice none 0 0 ∨ ∃ b m c, v = .slice (some ⟨b, 0, none⟩) m c := by
 rcases h with ⟨h1, _⟩ | ⟨b, cap, arr, h1, _⟩
 ·exact .inl h1
 ·exact .inr ⟨b, _, cap, h1⟩
theorem ownsRow_of_s {Z : Zone} {ν : Vals} {w : World} {v : Value} {e : TypeId} {n : Nat} {cs : List SV} (h : Res.ok E Z ν w v (.srow e 1 n cs)) : cs.length = n ∧ ∃ xs : List Value, w.ownsRow 0 e 1 v n xs ∧ (∀ (i : Nat) (s : SV), cs[i]? = some s → ∃ u, xs[i]? = some u ∧ s.ok Z ν w u) := by
 rcases h with ⟨rfl, h1, h2⟩ | ⟨b, cap, arr, rfl, _, _, h4, h5, h6, h7, h8⟩
 ·refine ⟨by omega, [], ⟨by simp [h1], .inl ⟨rfl, h1⟩⟩, fun i s hs => ?_⟩
  have := (List.getElem?_eq_some_iff.1 hs).1
  omega
 ·refine ⟨by omega, arr.toList.take (n * 1), ⟨by simp; omega, .inr ⟨b, cap, arr, rfl, Nat.zero_le _, h4, h5, h6, h7.1, rfl⟩⟩, fun i s hs => ?_⟩
  obtain ⟨u, hu, hk⟩ := h8 i s hs
  have := (List.getElem?_eq_some_iff.1 hs).1
  refine ⟨u, ?_, hk⟩
  rw [List.getElem?_take_of_lt (by omega)]
  simpa using hu
theorem srow_of_owns {Z : Zone} {ν : Vals} {w : World} {v : Value} {e : TypeId} {n : Nat} {cs : List SV} {xs : List Value} (h : w.ownsRow 0 e 1 v n xs) (hcs : cs.length = n) (hk : ∀ b, blkOf v = some b → ¬ E.keep b ∧ ¬ Z b) (hf : ∀ (i : Nat) (s : SV), cs[i]? = some s → ∃ u, xs[i]? = some u ∧ s.ok Z ν w u) :
  Res.ok E Z ν w v (.srow e 1 n cs) := by
 obtain ⟨hl, ⟨h, h0⟩ | ⟨b, cap, arr, h1, _, h3, h4, h5, h6, h7⟩⟩ := h
 ·exact .inl ⟨h, h0, by omega⟩
 ·have := hk b (by rw [h1]; rfl)
  refine .inr ⟨b, cap, arr, h1, this.1, this.2, h3, h4, h5, ⟨h6, by omega⟩, fun i s hs => ?_⟩
  obtain ⟨u, hu, hok⟩ := hf i s hs
  have hlt := (List.getElem?_eq_some_iff.1 hs).1
  refine ⟨u, ?_, hok⟩
  rw [← h7, List.getElem?_take_of_lt (by omega)] at hu
  simpa using hu
theorem g_len_s {t e : TypeId} {x : Operand} {r sz sz' n ety : Nat} {cs : List SV} [ht : SlTy P t e sz'] (hx : T.ev x = .osl r) (hr : look O r = some (.srow ety sz n cs)) :
  GV P E ⟨d, .call ⟨.builtin .len, #[x], #[t]⟩, ty, pos, af, g⟩ T O (.av (.val (.int .i64 n))) [r] [] :=
 gv_pure [r] fun Z ν a w h hO => by
  have hv := osl_ok hx (h x (by simp [Op.operands, Call.operands]))
  refine ⟨.int .i64 n, ?_, rfl⟩
  rcases hO r (by simp) _ hr with ⟨h1, h2, _⟩ | ⟨b, cap, arr, h1, _⟩
  ·simp [execOp, resolve, invoke, builtin, Builtin.len_, hv, h1, h2, run_underlying ht.und, goInt]
  ·simp [execOp, resolve, invoke, builtin, Builtin.len_, hv, h1, run_underlying ht.und, goInt]
theorem g_index_s {t e : TypeId} {x y : Operand} {r sz n ety : Nat} {cs : List SV} {q : IntKind} {i : Int} {k : Nat} [ht : SlTy P t e sz] (hx : T.ev x = .osl r) (hr : look O r = some (.srow ety sz n cs)) (hy : T.ev y = .av (.val (.int q i)))
  (hi : i = ↑k) (hk : k < n) : GV P E ⟨d, .indexAddr t x y, ty, pos, af, g⟩ T O (.oel r sz k 0) [r] [] :=
 gv_pure [r] fun Z ν a w h hO => by
  have hv := osl_ok hx (h x (by simp [Op.operands]))
  have hvi := val_ok hy (h y (by simp [Op.operands]))
  subst hi
  rcases hO r (by simp) _ hr with ⟨_, h2, _⟩ | ⟨b, cap, arr, h1, _⟩
  ·omega
  ·refine ⟨.pointer (some ⟨b, k * sz, none⟩), ?_, b, n, cap, h1, by simp⟩
   simp [execOp, Instr.indexAt, hvi, hv, h1, asIntOf, run_underlying ht.und, ht.size w, hk, add_addr]
theorem srow_cell {Z : Zone} {ν : Vals} {w : World} {r ety sz n i : Nat} {cs : List SV} {s : SV} {b : Nat} {m c : Nat} (hx : Res.ok E Z ν w (ν r) (.srow ety sz n cs)) (hb : ν r = .slice (some ⟨b, 0, none⟩) m c) (hs : cs[i]? = some s) :
  ∃ u, w.cell? ⟨b, i, none⟩ = some u ∧ s.ok Z ν w u := by
 rcases hx with ⟨h1, _⟩ | ⟨b', cap, arr, h1, _, _, h4, _, _, _, h8⟩
 ·rw [hb] at h1; simp at h1
 ·rw [hb] at h1
  simp only [Value.slice.injEq, Option.some.injEq, Addr.mk.injEq, and_true] at h1
  obtain ⟨rfl, rfl, rfl⟩ := h1
  obtain ⟨u, hu, hk⟩ := h8 i s hs
  exact ⟨u, by rw [cell_of_row w b i arr ety _ h4]; exact hu, hk⟩
theorem g_load_s {t : TypeId} {x : Operand} {r ety sz n i j : Nat} {cs : List SV} {s : SV} [ht : CellTy P t] (hx : T.ev x = .oel r sz i j) (hr : look O r = some (.srow ety sz n cs)) (hs : cs[i * sz + j]? = some s) :
  GV P E ⟨d, .load t x, ty, pos, af, g⟩ T O s [r] [] :=
 gv_pure [r] fun Z ν a w h hO => by
  have := h x (by simp [Op.operands])
  rw [hx] at this
  obtain ⟨b, m, c, hb, hax⟩ := this
  obtain ⟨u, hu, hk⟩ := srow_cell (hO r (by simp) _ hr) hb hs
  exact ⟨u, by simp [execOp, Instr.loadAt, hax, Instr.sureAddr, loadVar, ht.run w, hu], hk⟩
theorem SatZ.storeS {Z : Zone} {ν : Vals} {a : Act} {w : World} {r ety n i b m c : Nat} {cs : List SV} {s : SV} {v : Value} (h : SatZ E Z ν T O a w) (hr : look O r = some (.srow ety 1 n cs)) (hb : ν r = .slice (some ⟨b, 0, none⟩) m c) (hi : i < n)
  (hv : s.ok Z ν w v) (h1 : v.oneCell' = true) : ∃ w', (storeCells ⟨b, i, none⟩ [v]).run P w = .ok () w' ∧ SatZ E Z ν T ((r, .srow ety 1 n (cs.set i s)) :: O) a w' := by
 have hx := h.own.each r _ hr
 rcases hx with ⟨e1, _⟩ | ⟨b', cap, arr, e1, e2, e3, e4, e5, e6, ⟨e7, e9⟩, e8⟩
 ·rw [hb] at e1; simp at e1
 have e1' := e1
 rw [hb] at e1
 simp only [Value.slice.injEq, Option.some.injEq, Addr.mk.injEq, and_true] at e1
 obtain ⟨rfl, rfl, rfl⟩ := e1
 have hst := run_storeCells_at P b i ety [v] 0 arr w e4 (by simp; omega) (by simpa using h1)
 simp only [Nat.add_zero] at hst
 refine ⟨_, hst, ?_⟩
 refine h.write hr (b := b) (by rw [hb]; rfl) rfl rfl rfl (by simp) (fun k hk => setRow_other w b k _ hk) (fun hsv => ?_)
 refine .inr ⟨b, c, _, e1', e2, e3, setRow_heap w b arr _ ety _ e4, e5, e6, ⟨?_, by simpa using e9⟩, fun i' s' hs' => ?_⟩
 ·rw [← e7]; simp; omega
 ·suffices hsu : ∃ u, (arr.toList.take i ++ ([v] ++ arr.toList.drop (i + [v].length)))[i']? = some u ∧ s'.ok Z ν w u by
   obtain ⟨u, hu, hk⟩ := hsu
   exact ⟨u, by simpa using hu, hsv _ _ hk⟩
  rw [List.getElem?_set] at hs'
  by_cases he : i = i'
  ·subst he
   rw [if_pos rfl, if_pos (by omega)] at hs'
   cases hs'
   refine ⟨v, ?_, hv⟩
   rw [List.getElem?_append_right (by simp; omega)]
   have hmin : (arr.toList.take i).length = i := by simp; omega
   rw [hmin, Nat.sub_self]; rfl
  ·rw [if_neg he] at hs'
   obtain ⟨u0, hu0, hk0⟩ := e8 i' s' hs'
   refine ⟨u0, ?_, hk0⟩
   have hmin : (arr.toList.take i).length = i := by simp; omega
   rcases Nat.lt_or_gt_of_ne he with h2 | h2
   ·rw [List.getElem?_append_right (by omega), hmin, List.getElem?_append_right (by simp; omega), List.getElem?_drop]
    have : i + [v].length + (i' - i - [v].length) = i' := by simp; omega
    rw [this]
    simpa using hu0
   ·rw [List.getElem?_append_left (by omega), List.getElem?_take_of_lt h2]
    simpa using hu0
theorem g_store_s {t : TypeId} {x y : Operand} {r q ety ety' sz n m i : Nat} {cs : List SV} {f : Nat → Nat → AV} [ht : SizeTy P t 1] (hx : T.ev x = .oel r 1 i 0) (hy : T.ev y = .osl q) (hr : look O r = some (.srow ety 1 m cs)) (hq : look O q = some (.row ety' sz n f)) (hi : i < m) :
  GV P E ⟨d, .store t x y, ty, pos, af, g⟩ T O (.av .any) [r, q] [(r, .srow ety 1 m (cs.set i (.osl q)))] := by
 refine ⟨fun T' O' hT hO => ⟨by intro c; simp, fun Z ν a w hs => ?_⟩⟩
 have ex := ev_ok hs x
 rw [ev_same (o := ⟨d, .store t x y, ty, pos, af, g⟩) hT (by simp [Op.operands]), hx] at ex
 have ey := ev_ok hs y
 rw [ev_same (o := ⟨d, .store t x y, ty, pos, af, g⟩) hT (by simp [Op.operands]), hy] at ey
 obtain ⟨b, m, c, hb, hax⟩ := ex
 rw [Nat.mul_one, Nat.add_zero] at hax
 have hone : (a.eval y).oneCell' = true := by
  rw [show a.eval y = ν q from ey]
  rcases hs.own.each q _ (by rw [hO q (by simp)]; exact hq) with ⟨h, _⟩ | ⟨_, _, _, h, _⟩ <;> (rw [h]; rfl)
 obtain ⟨w', hst, hsat⟩ := hs.storeS (P := P) (s := .osl q) (v := a.eval y) (by rw [hO r (by simp)]; exact hr) hb hi ey hone
 unfold Oper.wp
 have hrun : (execOp a.eval ⟨d, .store t x y, ty, pos, af, g⟩).run P w = .ok .skip w' := by
  simp [execOp, Instr.storeAt, hax, Instr.sureAddr, storeVar, ht.run w, cells_one hone, hst]
 rw [hrun]
 exact ⟨Go.undef, Z, ν, rfl, hsat, trivial⟩
theorem f_one_s {t e : TypeId} {x : Operand} {q ety sz n : Nat} {f : Nat → Nat → AV} (r : Nat) [ht : SlTy P t e 1]
  (hb : ∀ (vs : List Value) w, vs.length = 1 → (∀ v ∈ vs, v.oneCell' = true) → (Instr.buildSlice t 1 ([0].zip vs).toArray).run P w = .ok (.slice (some ⟨w.heap.size, 0, none⟩) 1 1) (w.alloc (.cells vs.toArray e)))
  (hx : T.ev x = .osl q) (hq : look O q = some (.row ety sz n f)) (hqr : q ≠ r) (hf : freshB r T O = true) (hp : Nat.blt r 1000 = true := by first | rfl | assumption) :
  VStep P E ⟨d, .buildSlice t 1 ([0].zip [x]).toArray, ty, pos, af, g⟩ T O T ((r, .srow e 1 1 [.osl q]) :: O) (.osl r) := by
 refine VStep.fresh (r := r) ⟨by intro c; simp, fun Z ν a w hs => ?_⟩ hf
 have hv := osl_ok hx (ev_ok hs x)
 have hone : (a.eval x).oneCell' = true := by
  rw [hv]
  rcases hs.own.each q _ hq with ⟨h, _⟩ | ⟨_, _, _, h, _⟩ <;> (rw [h]; rfl)
 have hr := hb [a.eval x] w rfl (by simpa using hone)
 refine wp_value (w' := w.alloc (.cells #[a.eval x] e)) (v := .slice (some ⟨w.heap.size, 0, none⟩) 1 1) ?_ ⟨_, Z, updV ν r _, rfl, hs.newRes r hp _ _ _ rfl (fun hm hk hnz => ?_), (if_pos rfl : updV ν r _ r = _).symm⟩
 ·simp only [execOp, List.map_toArray]
  have : (List.map (fun (x : Nat × Operand) => match x with | (i, x) => (i, a.eval x)) ([0].zip [x])) = [0].zip [a.eval x] := rfl
  rw [this]
  have hr' : Sem.run P (Instr.buildSlice t 1 #[(0, a.eval x)]) w = Result.ok (Value.slice (some { block := w.heap.size, off := 0 }) 1 1) (w.alloc (Obj.cells #[a.eval x] e)) := hr
  simp [hr']
 ·refine .inr ⟨w.heap.size, 1, #[a.eval x], rfl, hk, hnz, heap_alloc_new _ _, Nat.le_refl _, by decide, ⟨rfl, rfl⟩, fun i s hs => ?_⟩
  match i, hs with
  |0, hs =>
   simp only [List.getElem?_cons_zero, Option.some.injEq] at hs
   subst hs
   refine ⟨a.eval x, rfl, ?_⟩
   show a.eval x = updV ν r _ q
   rw [show updV ν r (.slice (some ⟨w.heap.size, 0, none⟩) 1 1) q = ν q from if_neg hqr]
   exact hv
  |i + 1, hs => simp at hs
theorem v_append_s {t e : TypeId} {x y : Operand} {r q p bytes : Nat} {cs : List SV} {ety sz n m : Nat} {f : Nat → Nat → AV} [ht : SlTy P t e 1] [he : EltTy P e 1 bytes] (hx : T.ev x = .osl r) (hr : look O r = some (.srow e 1 m cs)) (hy : T.ev y = .osl q) (hq : look O q = some (.srow e 1 1 [.osl p])) (hpp : look O p = some (.row ety sz n f))
  (hm : cs.all (fun s => !s.mentions r) = true) (hpr : p ≠ r) (hlen : m + 1 ≤ maxLen) (hby : (m + 1) * bytes ≤ 140737488355328) (hp : Nat.blt r 1000 = true := by first | rfl | assumption) :
  VStep P E ⟨d, .call ⟨.builtin .append, #[x, y], #[t, t]⟩, ty, pos, af, g⟩ T O (T.kill r) ((r, .srow e 1 (m + 1) (cs ++ [.osl p])) :: Own.kill r O) (.osl r) := by
 refine ⟨by intro c; simp, fun Z ν a w hs => ?_⟩
 have hvx := osl_ok hx (ev_ok hs x)
 have hvy := osl_ok hy (ev_ok hs y)
 have hrow := hs.own.each r _ hr
 obtain ⟨hcl, xs, hown, hxs⟩ := ownsRow_of_s hrow
 obtain ⟨i0, z, hi, hz, hsz, hbt, hzs, hpos⟩ := he.info
 have hqr := hs.own.each q _ hq
 rcases hqr with ⟨_, h0, _⟩ | ⟨b, c, arr, e1, _, _, e4, _, _, e7, e8⟩
 ·omega
 obtain ⟨u, hu, hku⟩ := e8 0 _ rfl
 have huv : u = ν p := hku
 subst huv
 have hone : (ν p).oneCell' = true := by
  rcases hs.own.each p _ hpp with ⟨h, _⟩ | ⟨_, _, _, h, _⟩ <;> (rw [h]; rfl)
 have hnc : ∀ (j : Nat) u, [ν p][j]? = some u → w.cell? ((⟨b, 0, none⟩ : Addr).add j) = some u := by
  intro j u hj
  match j, hj with
  |0, hj => rw [add_addr, cell_of_row w b _ arr e _ e4]; simp only [List.getElem?_cons_zero, Option.some.injEq] at hj; subst hj; simpa using hu
  |j + 1, hj => simp at hj
 have hone' : ∀ u ∈ [ν p], u.oneCell' = true := by simpa using hone
 obtain ⟨v', w', hrun, hown', hgrow, _⟩ := run_append_own (P := P) w 0 t ty e i0 z 1 bytes ht.und hi hz hsz hbt hzs hpos (ν r) m xs hown ⟨b, 0, none⟩ 1 c [ν p] rfl hnc hone' hlen hby (Nat.zero_le _)
 rw [ownBlock_blk (srow_form hrow)] at hgrow
 refine wp_value (w' := w') (v := v') ?_ ⟨v', Z, updV ν r v', rfl, ?_, (if_pos rfl : updV ν r v' r = v').symm⟩
 ·simp only [execOp, resolve, invoke, builtin, Sem.run_bind, Sem.run_pure, Result.andThen_ok, List.map_toArray, List.map_cons, List.map_nil, hvx, hvy, e1, hrun]
 ·have hblk : ∀ b', blkOf v' = some b' → blkOf (ν r) = some b' ∨ w.heap.size ≤ b' := by
   intro b' hb'
   rcases append_block (P := P) (m := 1) (n := m) ht.und hi hz hsz hown rfl hnc hone' Nat.one_pos hlen (by rw [hbt]; exact hby) hrun with h4 | h4
   ·exact .inl (h4.symm.trans hb')
   ·rw [h4] at hb'; cases hb'; exact .inr (Nat.le_refl _)
  have hbz : ∀ k, Z k → some k ≠ blkOf (ν r) := fun k hk e => (Res.blk_lt hrow e.symm).2.1 hk
  have hsv : ∀ (s : SV) u, s.mentions r = false → s.ok Z ν w u → s.ok Z (updV ν r v') w' u := fun s u hm hs => by
   refine SV.ok_mono (fun _ h => h) hgrow.size (fun k hk hlt => hgrow.block k hlt (hbz k hk)) s u (fun k hk => ?_) hs
   exact if_neg (fun e => by subst e; rw [hm] at hk; cases hk)
  refine hs.reRow hr hp v' _ hgrow hblk (fun hav => ?_)
  refine srow_of_owns (xs := xs ++ [ν p]) hown' (by simp [hcl]) (fun b' hb' => ?_) (fun i s hs' => ?_)
  ·rcases hblk b' hb' with h4 | h4
   ·exact ⟨(Res.blk_lt hrow h4).2.2, (Res.blk_lt hrow h4).2.1⟩
   ·refine ⟨fun hk => ?_, fun hk => ?_⟩
    ·have := hs.base.keepLt b' hk; have := hs.base.size; omega
    ·have := hs.base.zLt b' hk; omega
  ·have hxl : xs.length = m * 1 := hown.1
   by_cases hin : i < cs.length
   ·rw [List.getElem?_append_left hin] at hs'
    obtain ⟨u, hu, hk⟩ := hxs i s hs'
    refine ⟨u, by rw [List.getElem?_append_left (by omega)]; exact hu, hsv s u ?_ hk⟩
    have := List.all_eq_true.1 hm s (List.mem_of_getElem? hs')
    simpa using this
   ·rw [List.getElem?_append_right (by omega)] at hs'
    have h0 : i - cs.length = 0 := by
     have := (List.getElem?_eq_some_iff.1 hs').1
     simp at this; omega
    rw [h0] at hs'
    simp only [List.getElem?_cons_zero, Option.some.injEq] at hs'
    subst hs'
    refine ⟨ν p, by rw [List.getElem?_append_right (by omega), show i - xs.length = 0 by omega]; rfl, ?_⟩
    show ν p = updV ν r v' p
    rw [show updV ν r v' p = ν p from if_neg hpr]
theorem ent_srow {dd : Nat} (r ety sz : Nat) (hn : T.get dd = .av (.val (.slice none 0 0))) (hf : freshB r T O = true) (hp : Nat.blt r 1000 = true := by first | rfl | assumption) : Ent T O ((dd, .osl r) :: T) ((r, .srow ety sz 0 []) :: O) := by
 rintro E a w ⟨Z, ν, h⟩
 obtain ⟨f1, f2⟩ := fresh_kill hf
 have hk := h.kill r (.slice none 0 0) hp
 have hk' := hk.addRes r (.srow ety sz 0 []) (.inl ⟨if_pos rfl, rfl, rfl⟩) (fun b hb => by rw [show updV ν r (.slice none 0 0) r = .slice none 0 0 from if_pos rfl] at hb; simp [blkOf] at hb)
 refine ⟨Z, updV ν r (.slice none 0 0), hk'.defers, hk'.tsize, hk'.cst, hk'.pin, hk'.base, ?_, fun d => ?_⟩
 ·have hO : ∀ k, look ((r, Res.srow ety sz 0 []) :: O) k = look ((r, Res.srow ety sz 0 []) :: Own.kill r O) k := fun k => by
   by_cases hkr : r = k
   ·subst hkr; rw [look_cons_eq, look_cons_eq]
   ·rw [look_cons_ne _ _ hkr, look_cons_ne _ _ hkr, f2]
  exact ⟨fun k y hy => hk'.own.each k y (by rw [← hO]; exact hy), fun k k' hne e1 e2 => hk'.own.apart k k' hne (by rw [← hO]; exact e1) (by rw [← hO]; exact e2)⟩
 ·by_cases hd : dd = d
  ·subst hd
   rw [Tab.get_cons_eq]
   have := h.slot dd
   rw [hn] at this
   have hv : a.tmps.getD dd undef = .slice none 0 0 := this
   show a.tmps.getD dd undef = updV ν r _ r
   rw [hv]; exact (if_pos rfl).symm
  ·rw [Tab.get_cons_ne _ _ hd, ← f1]
   exact hk'.slot d
theorem v_append_o {t e : TypeId} {x y : Operand} {r q n m sz bytes : Nat} {f h : Nat → Nat → AV} [ht : SlTy P t e sz] [he : EltTy P e sz bytes] (hx : T.ev x = .osl r) (hr : look O r = some (.row e sz n f)) (hy : T.ev y = .osl q) (hq : look O q = some (.row e sz m h))
  (hone : ∀ i, i < m → ∀ j, j < sz → (h i j).one = true) (hm : 0 < m) (hlen : n + m ≤ maxLen) (hby : (n + m) * bytes ≤ 140737488355328) (hp : Nat.blt r 1000 = true := by first | rfl | assumption) :
  VStep P E ⟨d, .call ⟨.builtin .append, #[x, y], #[t, t]⟩, ty, pos, af, g⟩ T O (T.kill r) ((r, .row e sz (n + m) (rowApp n f h)) :: Own.kill r O) (.osl r) := by
 refine ⟨by intro c; simp, fun Z ν a w hs => ?_⟩
 have hvx := osl_ok hx (ev_ok hs x)
 have hvy0 := osl_ok hy (ev_ok hs y)
 have hrow := hs.own.each r _ hr
 obtain ⟨xs, hown, hxs⟩ := ownsRow_of hrow
 obtain ⟨i0, z, hi, hz, hsz, hbt, hzs, hpos⟩ := he.info
 rcases hs.own.each q _ hq with ⟨_, h0⟩ | ⟨b, c, arr, e1, _, _, e4, hmc, hcm, e7, e8⟩
 ·omega
 have hvy : a.eval y = .slice (some ⟨b, 0, none⟩) m c := hvy0.trans e1
 have hcell : ∀ i, i < m → ∀ j, j < sz → ∃ u, w.cell? ⟨b, 0 + i * sz + j, none⟩ = some u ∧ (h i j).ok Z w u := fun i hi j hj => by
  obtain ⟨u, hu, hk⟩ := e8 i hi j hj
  exact ⟨u, by rw [Nat.zero_add, cell_of_row w b _ arr e _ e4]; exact hu, hk⟩
 have hnew : ∃ news : List Value, news.length = m * sz ∧ (∀ (j : Nat) u, news[j]? = some u → w.cell? ((⟨b, 0, none⟩ : Addr).add j) = some u) ∧ (∀ i, i < m → ∀ j, j < sz → ∃ u, news[i * sz + j]? = some u ∧ (h i j).ok Z w u) := by
  refine ⟨(List.range (m * sz)).map fun k => (w.cell? ⟨b, 0 + k, none⟩).getD undef, by simp, fun j u hj => ?_, fun i hi j hj => ?_⟩
  ·simp only [List.getElem?_map, Option.map_eq_some_iff] at hj
   obtain ⟨k, hk, rfl⟩ := hj
   obtain ⟨hlt, rfl⟩ := List.getElem?_eq_some_iff.1 hk
   simp only [List.length_range] at hlt
   simp only [List.getElem_range]
   have hq : j / sz < m := Nat.div_lt_of_lt_mul (by rw [Nat.mul_comm]; exact hlt)
   obtain ⟨u, hu, _⟩ := hcell (j / sz) hq (j % sz) (Nat.mod_lt _ hpos)
   have : 0 + j / sz * sz + j % sz = 0 + j := by rw [Nat.add_assoc, Nat.mul_comm, Nat.div_add_mod]
   rw [this] at hu
   rw [add_addr, hu]; rfl
  ·have hlt : i * sz + j < m * sz := by
    have : (i + 1) * sz ≤ m * sz := Nat.mul_le_mul_right _ hi
    rw [Nat.add_mul, Nat.one_mul] at this
    omega
   obtain ⟨u, hu, hk⟩ := hcell i hi j hj
   refine ⟨u, ?_, hk⟩
   simp only [List.getElem?_map, List.getElem?_range hlt, Option.map_some]
   rw [← Nat.add_assoc, hu]; rfl
 obtain ⟨news, hnl, hnc, hnk⟩ := hnew
 have hone' : ∀ u ∈ news, u.oneCell' = true := by
  intro u hu
  obtain ⟨k, hk, rfl⟩ := List.getElem_of_mem hu
  rw [hnl] at hk
  have hq : k / sz < m := Nat.div_lt_of_lt_mul (by rw [Nat.mul_comm]; exact hk)
  obtain ⟨u, hu', hok⟩ := hnk (k / sz) hq (k % sz) (Nat.mod_lt _ hpos)
  have : k / sz * sz + k % sz = k := by rw [Nat.mul_comm, Nat.div_add_mod]
  rw [this] at hu'
  have e : news[k] = u := by rw [List.getElem?_eq_getElem (by omega)] at hu'; simpa using hu'
  rw [e]
  exact AV.one_cells (hone _ hq _ (Nat.mod_lt _ hpos)) hok
 obtain ⟨v', w', hrun, hown', hgrow, _⟩ := run_append_own (P := P) w 0 t ty e i0 z sz bytes ht.und hi hz hsz hbt hzs hpos (ν r) n xs hown ⟨b, 0, none⟩ m c news hnl hnc hone' hlen hby (Nat.zero_le _)
 have hform : ν r = .slice none 0 0 ∨ ∃ b m c, ν r = .slice (some ⟨b, 0, none⟩) m c := by
  rcases hrow with ⟨h1, _⟩ | ⟨b, cap, arr, h1, _⟩
  ·exact .inl h1
  ·exact .inr ⟨b, _, cap, h1⟩
 rw [ownBlock_blk hform] at hgrow
 refine wp_value (w' := w') (v := v') ?_ ⟨v', Z, updV ν r v', rfl, ?_, (if_pos rfl : updV ν r v' r = v').symm⟩
 ·simp only [execOp, resolve, invoke, builtin, Sem.run_bind, Sem.run_pure, Result.andThen_ok, List.map_toArray, List.map_cons, List.map_nil, hvx, hvy, hrun]
 ·have hblk : ∀ b', blkOf v' = some b' → blkOf (ν r) = some b' ∨ w.heap.size ≤ b' := by
   intro b' hb'
   rcases append_block (P := P) ht.und hi hz hsz hown hnl hnc hone' hm hlen (by rw [hbt]; exact hby) hrun with h4 | h4
   ·exact .inl (h4.symm.trans hb')
   ·rw [h4] at hb'; cases hb'; exact .inr (Nat.le_refl _)
  refine hs.reRow hr hp v' _ hgrow hblk (fun hav => ?_)
  refine row_of_owns hown' (fun b' hb' => ?_) (fun i hi j hj => ?_)
  ·rcases hblk b' hb' with h4 | h4
   ·exact ⟨(Res.blk_lt hrow h4).2.2, (Res.blk_lt hrow h4).2.1⟩
   ·refine ⟨fun hk => ?_, fun hk => ?_⟩
    ·have := hs.base.keepLt b' hk; have := hs.base.size; omega
    ·have := hs.base.zLt b' hk; omega
  ·unfold rowApp
   by_cases hin : i < n
   ·rw [if_pos hin]
    obtain ⟨u, hu, hk⟩ := hxs i hin j hj
    refine ⟨u, ?_, hav _ _ hk⟩
    rw [List.getElem?_append_left (List.getElem?_eq_some_iff.1 hu).1]
    exact hu
   ·rw [if_neg hin]
    obtain ⟨u, hu, hk⟩ := hnk (i - n) zO j hj
    refine ⟨u, ?_, hav _ _ hk⟩
    have hxl : xs.length = n * sz := hown.1
    have hidx : i * sz + j = n * sz + ((i - n) * sz + j) := by
     have : i = n + (i - n) := by omega
     conv => lhs; rw [this, Nat.add_mul]
     omega
    rw [List.getElem?_append_right (by omega), hxl, hidx, Nat.add_sub_cancel_left]
    exact hu
theorem g_bound_v {f : FuncId} {x : Operand} {u : Value} (hx : T.ev x = .av (.val u)) :
  GV P E ⟨d, .makeFunc (.func f) #[x] #[], ty, pos, af, g⟩ T O (.av (.val (.func (.func f) #[u] #[]))) [] [] :=
 gv_pure [] fun Z ν a w h _ => by
  have hv := val_ok hx (h x (by simp [Op.operands]))
  exact ⟨.func (.func f) #[u] #[], by simp [execOp, Instr.makeFunc, hv], rfl⟩
theorem g_call_fv {f : FuncId} {c : Operand} {xs : List Operand} {ats : Array TypeId} {τs : List AV} {u : Value} {res : AV} (hc : CtrA P f (.val u :: τs) res) (hf : T.ev c = .av (.val (.func (.func f) #[u] #[]))) (hx : xs.map T.ev = τs.map SV.av) :
  GV P E ⟨d, .call ⟨.value c, xs.toArray, ats⟩, ty, pos, af, g⟩ T O (.av res) [] [] := by
 refine ⟨fun T' O' hT _ => ⟨by intro c; simp, fun Z ν a w hs => ?_⟩⟩
 have hmem : ∀ x ∈ c :: xs, x ∈ (Op.call ⟨.value c, xs.toArray, ats⟩).operands.toList := by intro x hx; simpa [Op.operands, Call.operands] using hx
 have hx' : xs.map T'.ev = τs.map SV.av := by
  rw [← hx]
  exact List.map_congr_left fun x hxm => ev_same (o := ⟨d, .call ⟨.value c, xs.toArray, ats⟩, ty, pos, af, g⟩) hT (hmem x (by simp [hxm]))
 have hev := evs_ok hs hx'
 have hfv : a.eval c = .func (.func f) #[u] #[] := by
  have := ev_ok hs c
  rw [ev_same (o := ⟨d, .call ⟨.value c, xs.toArray, ats⟩, ty, pos, af, g⟩) hT (hmem c (by simp)), hf] at this
  exact this
 have hev' : All2 (fun τ v => AV.ok Z w τ v) (.val u :: τs) (u :: xs.map a.eval) := ⟨rfl, hev⟩
 refine wp_enter (f := f) (args := (u :: xs.map a.eval).toArray) ?_ ?_
 ·have hen := hc.enters (u :: xs.map a.eval).toArray w
  have : #[u] ++ (List.map a.eval xs).toArray = (u :: List.map a.eval xs).toArray := by simp
  simp [execOp, resolve, Deferred.ofValue, hfv, invoke] at hen ⊢
  exact hen
 ·refine Calls.mono (hc.calls w Z _ hs.base.zok hev') ?_
  rintro e w' ⟨v, Z', rfl, hb, h1, h2, h3, hv⟩
  exact ⟨v, rfl, v, Z', ν, rfl, hs.called hb h1 h2 h3, hv⟩
theorem g_callfx {f : FuncId} {c : Operand} {xs : List Operand} {ats : Array TypeId} {u : Value} {res : AV} (hf : T.ev c = .av (.val (.func (.func f) #[u] #[]))) (hx : ((xs.map T.ev).all SV.isAv) = true) (hc : CtrA P f (.val u :: (xs.map T.ev).map SV.toAV) res) :
  GV P E ⟨d, .call ⟨.value c, xs.toArray, ats⟩, ty, pos, af, g⟩ T O (.av res) [] [] := g_call_fv hc hf (toAV_of _ hx)
end
end Go.Vc
end
