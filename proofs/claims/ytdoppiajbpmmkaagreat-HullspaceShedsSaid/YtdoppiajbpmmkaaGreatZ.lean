/- A part of the proof that the law returns true at every input and that the input reads behind the call as it read before; this part states nothing of its own that needs a condition of the input. -/
import Derived.Laws.AppendOwn
import Derived.Test.YtdoppiajbpmmkaaGreatX
import Derived.Test.YtdoppiajbpmmkaaGreatKe
set_option linter.unusedVariables false
set_option linter.unusedSimpArgs false
set_option linter.unnecessarySimpa false
namespace Go.Vc
open Go Go.RowKit
/-! Windows of a row of the call's own: an append within the row, a slice of a slice, what is left when the rest is forgotten. -/
section
variable {P : Program} {E : Env} {T : Tab} {O : Own} {d : Option Tmp} {ty : TypeId} {pos : String} {af : Array Edge} {g : Option (Nat × Bool)}
/-- The bounds of s[lo:hi:max] alone. -/
theorem g_slice3 {t e : TypeId} {x y y2 y3 : Operand} {r n sz ety lo hi : Nat} {f : Nat → Nat → AV} {q q2 q3 : IntKind} {i i2 i3 : Int} [ht : SlTy P t e sz] (hx : T.ev x = .osl r) (hr : look O r = some (.row ety sz n f)) (hy : T.ev y = .av (.val (.int q i))) (hy2 : T.ev y2 = .av (.val (.int q2 i2))) (hy3 : T.ev y3 = .av (.val (.int q3 i3))) (e1 : i = ↑lo) (e2 : i2 = ↑hi) (e3 : i3 = ↑n) (h1 : lo ≤ hi) (h2 : hi ≤ n) (hn : 0 < n) :
    GV P E ⟨d, .slice t x (some y) (some y2) (some y3), ty, pos, af, g⟩ T O (.av .any) [r] [] :=
  gv_pure [r] fun Z ν a w h hO => by
    have hv := osl_ok hx (h x (by simp [Op.operands]))
    have k1 := val_ok hy (h y (by simp [Op.operands]))
    have k2 := val_ok hy2 (h y2 (by simp [Op.operands]))
    have k3 := val_ok hy3 (h y3 (by simp [Op.operands]))
    subst e1; subst e2; subst e3
    rcases hO r (by simp) _ hr with ⟨_, h3⟩ | ⟨b, cap, arr, h3, _, _, _, hnc, _⟩
    · omega
    · refine ⟨.slice (if n = lo then some ⟨b, 0, none⟩ else some ⟨b, lo * sz, none⟩) (hi - lo) (n - lo), ?_, trivial⟩
      simp [execOp, Instr.sliceAt, Instr.slice, hv, h3, k1, k2, k3, run_underlying ht.und, Instr.sliceBounds, Instr.sliceBound, asIntOf, ht.size w, add_addr, h1, h2, hnc]
/-- A window behind a window's end. -/
theorem g_win {t e : TypeId} {x y y2 : Operand} {r n sz ety len lo hi : Nat} {f : Nat → Nat → AV} {q q2 : IntKind} {i i2 : Int} [ht : SlTy P t e sz] (hx : T.ev x = .osx r sz 0 len) (hr : look O r = some (.row ety sz n f)) (hy : T.ev y = .av (.val (.int q i))) (hy2 : T.ev y2 = .av (.val (.int q2 i2))) (e1 : i = ↑lo) (e2 : i2 = ↑hi) (h1 : lo ≤ hi) (h2 : hi ≤ n) (hn : 0 < n) :
    GV P E ⟨d, .slice t x (some y) (some y2) none, ty, pos, af, g⟩ T O (.osx r sz lo (hi - lo)) [r] [] :=
  gv_pure [r] fun Z ν a w h hO => by
    obtain ⟨b0, n0, c0, p0, q1, q2', q3⟩ := osx_ok hx (h x (by simp [Op.operands]))
    have k1 := val_ok hy (h y (by simp [Op.operands]))
    have k2 := val_ok hy2 (h y2 (by simp [Op.operands]))
    subst e1; subst e2
    rcases hO r (by simp) _ hr with ⟨_, h3⟩ | ⟨b, cap, arr, h3, _, _, _, hnc, _⟩
    · omega
    · rw [q1] at h3
      simp only [Value.slice.injEq, Option.some.injEq, Addr.mk.injEq, and_true] at h3
      obtain ⟨rfl, rfl, rfl⟩ := h3
      have p0' := q3 (.inr rfl)
      subst p0'
      refine ⟨.slice (if c0 = lo then some ⟨b0, 0, none⟩ else some ⟨b0, lo * sz, none⟩) (hi - lo) (c0 - lo), ?_, b0, n0, c0, _, q1, rfl, fun hp => ?_⟩
      · simp only [Nat.zero_mul, Nat.sub_zero] at q2'
        have h5 : hi ≤ c0 := by omega
        simp [execOp, Instr.sliceAt, Instr.slice, q2', k1, k2, run_underlying ht.und, Instr.sliceBounds, Instr.sliceBound, asIntOf, ht.size w, add_addr, h1, h5]
      · by_cases h0 : c0 = lo
        · rw [if_pos h0]
          have : lo = 0 := by omega
          subst this; simp
        · exact if_neg h0
/-- A row with elements moved to the left. -/
def rowMv (f : Nat → Nat → AV) (i lo m : Nat) : Nat → Nat → AV := fun a j => if a < i then f a j else if a < i + m then f (lo + (a - i)) j else f a j
/-- append(s[:i], s[lo:lo+m]..) within the row. -/
theorem g_app_win {t e : TypeId} {x y : Operand} {r n sz bytes i lo m : Nat} {f : Nat → Nat → AV} [ht : SlTy P t e sz] [he : EltTy P e sz bytes] (hx : T.ev x = .osx r sz 0 i) (hr : look O r = some (.row e sz n f)) (hy : T.ev y = .osx r sz lo m) (him : i + m ≤ n) (hlo : lo + m ≤ n) (h1 : ∀ a, a < n → ∀ j, j < sz → (f a j).one = true) (hn : 0 < n) :
    GV P E ⟨d, .call ⟨.builtin .append, #[x, y], #[t, t]⟩, ty, pos, af, g⟩ T O (.osx r sz 0 (i + m)) [r] [(r, .row e sz n (rowMv f i lo m))] := by
  refine ⟨fun T' O' hT hO => ⟨by intro c; simp, fun Z ν a w hs => ?_⟩⟩
  have ex := ev_ok hs x
  have ey := ev_ok hs y
  rw [ev_same (o := ⟨d, .call ⟨.builtin .append, #[x, y], #[t, t]⟩, ty, pos, af, g⟩) hT (by simp [Op.operands, Call.operands])] at ex
  rw [ev_same (o := ⟨d, .call ⟨.builtin .append, #[x, y], #[t, t]⟩, ty, pos, af, g⟩) hT (by simp [Op.operands, Call.operands])] at ey
  obtain ⟨b0, n0, c0, p0, ex1, ex2, ex3⟩ := osx_ok hx ex
  obtain ⟨b1, n1, c1, p1, ey1, ey2, ey3⟩ := osx_ok hy ey
  have hr' : look O' r = some (.row e sz n f) := by rw [hO r (by simp)]; exact hr
  obtain ⟨inf, z, hi, hz, hsz, hbt, hzs, hpos⟩ := he.info
  rcases hs.own.each r _ hr' with ⟨e1, e2⟩ | ⟨b, cap, arr, e1, e2, e3, e4, e5, e6, e7, e8⟩
  · omega
  rw [ex1] at ey1
  have e1' := e1
  rw [ex1] at e1
  simp only [Value.slice.injEq, Option.some.injEq, Addr.mk.injEq, and_true, true_and] at e1 ey1
  obtain ⟨rfl, rfl, rfl⟩ := e1
  obtain ⟨rfl, rfl, rfl⟩ := ey1
  have p0' := ex3 (.inr rfl)
  subst p0'
  simp only [Nat.zero_mul, Nat.sub_zero] at ex2
  rcases Nat.eq_zero_or_pos m with hm | hm
  · subst hm
    refine wp_value (w' := w) (v := .slice (some ⟨b0, 0, none⟩) i c0) ?_ ⟨_, Z, ν, rfl, hs.rerow hr' (fun a ha j hj => ?_), b0, n0, c0, some ⟨b0, 0, none⟩, ex1, by simp, fun _ => by simp⟩
    · simp only [execOp, resolve, invoke, builtin, Sem.run_bind, Sem.run_pure, Result.andThen_ok, List.map_toArray, List.map_cons, List.map_nil, ex2, ey2, run_append0 w (some ⟨b0, 0, none⟩) p1 i c0 (c0 - lo) (by omega)]
    · unfold rowMv
      split
      · rfl
      · rw [if_neg (by omega)]
  have p1' := ey3 (.inl hm)
  subst p1'
  have hnw : n0 * sz ≤ arr.size := by rw [e7]; exact Nat.mul_le_mul_right _ e5
  have hlm : lo * sz + m * sz ≤ n0 * sz := by rw [← Nat.add_mul]; exact Nat.mul_le_mul_right _ hlo
  have him' : i * sz + m * sz ≤ n0 * sz := by rw [← Nat.add_mul]; exact Nat.mul_le_mul_right _ him
  obtain ⟨news, hnews⟩ : ∃ news, news = (arr.toList.drop (lo * sz)).take (m * sz) := ⟨_, rfl⟩
  have hnl : news.length = m * sz := by rw [hnews]; simp; omega
  have hget : ∀ k, k < m * sz → news[k]? = arr[lo * sz + k]? := fun k hk => by
    rw [hnews, List.getElem?_take_of_lt hk, List.getElem?_drop]; simp
  have hnc : ∀ (k : Nat) u, news[k]? = some u → w.cell? ((⟨b0, lo * sz, none⟩ : Addr).add k) = some u := fun k u hk => by
    have hlt := (List.getElem?_eq_some_iff.1 hk).1
    rw [hnl] at hlt
    rw [hget k hlt] at hk
    rw [add_addr]
    simp [World.cell?, e4, hk]
  have hone : ∀ u ∈ news, u.oneCell' = true := by
    intro u hu
    obtain ⟨k, hk, rfl⟩ := List.getElem_of_mem hu
    have hk' : k < m * sz := by omega
    have hq : k / sz < m := Nat.div_lt_of_lt_mul (by rw [Nat.mul_comm]; exact hk')
    obtain ⟨u, hu', hok⟩ := e8 (lo + k / sz) (by omega) (k % sz) (Nat.mod_lt _ hpos)
    have e : (lo + k / sz) * sz + k % sz = lo * sz + k := by
      have := Nat.div_add_mod k sz
      rw [Nat.add_mul, Nat.mul_comm (k / sz)]; omega
    rw [e] at hu'
    have h2 := hget k hk'
    rw [List.getElem?_eq_getElem (by omega), hu'] at h2
    have h3 : news[k] = u := by simpa using h2
    rw [h3]
    exact AV.one_cells (h1 _ (by omega) _ (Nat.mod_lt _ hpos)) hok
  have hrun := run_append_room (P := P) w t ty e inf ht.und hi b0 i c0 arr e4 ⟨b0, lo * sz, none⟩ m (c0 - lo) news (by rw [hsz]; exact hnl) hnc hone (by omega) (by rw [hsz]; omega)
  rw [hsz] at hrun
  refine wp_value (w' := _) (v := .slice (some ⟨b0, 0, none⟩) (i + m) c0) ?_ ⟨_, Z, ν, rfl, hs.write hr' (b := b0) (by rw [ex1]; rfl) (w' := w.setRow b0 (arr.toList.take (i * sz) ++ news ++ arr.toList.drop (i * sz + news.length)).toArray) rfl rfl rfl (by simp) (fun k hk => setRow_other w b0 k _ hk) (fun hsv => ?_), b0, n0, c0, some ⟨b0, 0, none⟩, ex1, by simp, fun _ => by simp⟩
  · simp only [execOp, resolve, invoke, builtin, Sem.run_bind, Sem.run_pure, Result.andThen_ok, List.map_toArray, List.map_cons, List.map_nil, ex2, ey2, hrun]
  · refine .inr ⟨b0, c0, _, e1', e2, e3, setRow_heap w b0 arr _ e _ e4, e5, e6, ?_, fun a ha j hj => ?_⟩
    · rw [← e7]; simp; omega
    · have ha1 : (a + 1) * sz ≤ n0 * sz := Nat.mul_le_mul_right _ ha
      rw [Nat.add_mul, Nat.one_mul] at ha1
      unfold rowMv
      by_cases c1 : a < i
      · obtain ⟨u, hu, hk⟩ := e8 a ha j hj
        refine ⟨u, ?_, by rw [if_pos c1]; exact hsv (.av _) _ hk⟩
        have : (a + 1) * sz ≤ i * sz := Nat.mul_le_mul_right _ c1
        rw [Nat.add_mul, Nat.one_mul] at this
        simp only [List.getElem?_toArray, List.append_assoc]
        rw [List.getElem?_append_left (by simp; omega), List.getElem?_take_of_lt (by omega)]
        simpa using hu
      · by_cases c2 : a < i + m
        · obtain ⟨u, hu, hk⟩ := e8 (lo + (a - i)) (by omega) j hj
          refine ⟨u, ?_, by rw [if_neg c1, if_pos c2]; exact hsv (.av _) _ hk⟩
          have s1 : i * sz ≤ a * sz := Nat.mul_le_mul_right _ (by omega)
          have s2 : (a + 1) * sz ≤ (i + m) * sz := Nat.mul_le_mul_right _ c2
          rw [Nat.add_mul, Nat.one_mul, Nat.add_mul] at s2
          have s3 : (lo + (a - i)) * sz + j = lo * sz + (a * sz + j - i * sz) := by rw [Nat.add_mul, Nat.mul_sub_right_distrib]; omega
          simp only [List.getElem?_toArray, List.append_assoc]
          have hl1 : (arr.toList.take (i * sz)).length = i * sz := by simp; omega
          rw [List.getElem?_append_right (by omega), hl1, List.getElem?_append_left (by omega), hget _ (by omega), ← s3]
          exact hu
        · obtain ⟨u, hu, hk⟩ := e8 a ha j hj
          refine ⟨u, ?_, by rw [if_neg c1, if_neg c2]; exact hsv (.av _) _ hk⟩
          have s1 : (i + m) * sz ≤ a * sz := Nat.mul_le_mul_right _ (by omega)
          rw [Nat.add_mul] at s1
          simp only [List.getElem?_toArray]
          have hl1 : (arr.toList.take (i * sz) ++ news).length = i * sz + m * sz := by simp; omega
          rw [List.getElem?_append_right (by omega), hl1, hnl, List.getElem?_drop]
          have : i * sz + m * sz + (a * sz + j - (i * sz + m * sz)) = a * sz + j := by omega
          rw [this]; simpa using hu
end
end Go.Vc
namespace Go.Vc
open Go Go.RowKit
/-! A call that turns things of the caller's own, in whatever order. -/
section
variable {P : Program} {E : Env} {T : Tab} {O Oc O' : Own} {d : Option Tmp} {ty : TypeId} {pos : String} {af : Array Edge} {g : Option (Nat × Bool)}
theorem OwnSub.congr {l : List (Nat × Nat)} {O O2 : Own} : ∀ {O1 : Own}, OwnSub l O O1 → (∀ r ∈ O1.map (fun p => rnm l p.1), look O2 r = look O r) → OwnSub l O2 O1
  | [], _, _ => trivial
  | (r, x) :: O1, h, he => ⟨by rw [he _ (by simp)]; exact h.1, h.2.congr fun r hr => he r (by simp at hr ⊢; exact .inr hr)⟩
theorem hokB_any {T T' : Tab} {O O2 : Own} {l : List (Nat × Nat)} {res : SV} (hk : (O'.all fun p => (look Oc p.1).isSome) = true) (h : hokB T O l Oc O' res = true) : hokB T' O2 l Oc O' res = true := by
  simp only [hokB, Bool.and_eq_true] at h ⊢
  obtain ⟨⟨⟨h1, _⟩, h3⟩, h4⟩ := h
  refine ⟨⟨⟨h1, ?_⟩, h3⟩, h4⟩
  rw [List.all_eq_true] at hk ⊢
  intro p hp
  rw [hk p hp]; rfl
theorem g_call_h {f : FuncId} {xs : List Operand} {ats : Array TypeId} {args : List SV} {res : SV} (l : List (Nat × Nat)) (hc : CtrH P f args Oc res O') (hx : xs.map T.ev = args.map (SV.ren (rnm l))) (hsub : OwnSub l O Oc) (hk : (O'.all fun p => (look Oc p.1).isSome) = true) (hok : hokB [] [] l Oc O' res = true) :
    GV P E ⟨d, .call ⟨.value (.func f), xs.toArray, ats⟩, ty, pos, af, g⟩ T O (res.ren (rnm l)) (Oc.map fun p => rnm l p.1) (Own.ren (rnm l) O') := by
  refine ⟨fun T' O2 hT hO => ?_⟩
  have hmem : ∀ x ∈ xs, x ∈ (Op.call ⟨.value (.func f), xs.toArray, ats⟩).operands.toList := by intro x hx; simpa [Op.operands, Call.operands] using Or.inr hx
  have hx' : xs.map T'.ev = args.map (SV.ren (rnm l)) := by
    rw [← hx]
    exact List.map_congr_left fun x hxm => ev_same (o := ⟨d, .call ⟨.value (.func f), xs.toArray, ats⟩, ty, pos, af, g⟩) hT (hmem x hxm)
  exact v_call_h l hc hx' (hsub.congr hO) (hokB_any hk hok)
/-- In a drawn region. -/
theorem dq_call_h {id : Nat} {L l : List Oper} {Q : Exit → Act → World → Prop} {rpre : List (Oper × Rec)} {T0 : Tab} {O0 : Own} {d : Nat} {op : Op} {s : SV} {rr : List Nat} {upd : Own} (hs : GV P E ⟨some d, op, ty, pos, af, none⟩ T O s rr upd) (hd : E.wr d = true) (hr : DRQ P E id L Q ((⟨some d, op, ty, pos, af, none⟩, ⟨[(d, s)], rr, upd, []⟩) :: rpre) l T0 O0 ((d, s) :: T) (upd ++ O)) : DRQ P E id L Q rpre (⟨some d, op, ty, pos, af, none⟩ :: l) T0 O0 T O := dq_g' hs rfl hd hr
end
end Go.Vc
namespace Go.Vc
open Go Go.RowKit
section
variable {P : Program} {E : Env} {T : Tab} {O : Own} {d : Option Tmp} {ty : TypeId} {pos : String} {af : Array Edge} {g : Option (Nat × Bool)}
/-- A window of a row of the call's own, lent to a reader of two scalars' result. -/
theorem g_call_w2 {f : FuncId} {x y : Operand} {ats : Array TypeId} {r ety sz n k : Nat} {fr' fr : Nat → Nat → AV} {τ : AV} {v1 v2 : Value} (hc : CtrA P f [.sl k sz fr, τ] (tupOf [.val v1, .val v2])) (hx : T.ev x = .osx r sz 0 k) (hr : look O r = some (.row ety sz n fr')) (hk : k ≤ n) (hn : 0 < n) (hf : ∀ a, a < k → ∀ j, fr' a j = fr a j) (hy : T.ev y = .av τ) :
    GV P E ⟨d, .call ⟨.value (.func f), #[x, y], ats⟩, ty, pos, af, g⟩ T O (.av (tupOf [.val v1, .val v2])) [r] [] := by
  refine ⟨fun T' O' hT hO => ⟨by intro c; simp, fun Z ν a w hs => ?_⟩⟩
  have ex := ev_ok hs x
  have ey := ev_ok hs y
  rw [ev_same (o := ⟨d, .call ⟨.value (.func f), #[x, y], ats⟩, ty, pos, af, g⟩) hT (by simp [Op.operands, Call.operands]), hx] at ex
  rw [ev_same (o := ⟨d, .call ⟨.value (.func f), #[x, y], ats⟩, ty, pos, af, g⟩) hT (by simp [Op.operands, Call.operands]), hy] at ey
  obtain ⟨b0, n0, c0, p0, q1, q2, q3⟩ := ex
  have p0' := q3 (.inr rfl)
  subst p0'
  have hr' : look O' r = some (.row ety sz n fr') := by rw [hO r (by simp)]; exact hr
  have hrow := hs.own.each r _ hr'
  have hall : All2 (fun τ v => AV.ok (fun k => Z k ∨ (k < w.heap.size ∧ ¬ E.keep k)) w τ v) [.sl k sz fr, τ] [a.eval x, a.eval y] := by
    refine ⟨?_, AV.ok_mono (fun _ h => .inl h) (Nat.le_refl _) (fun _ _ _ => rfl) _ _ ey, trivial⟩
    rcases hrow with ⟨_, h2⟩ | ⟨b, cap, arr, h1, h2, h3, h4, h5, h6, h7, h8⟩
    · omega
    rw [q1] at h1
    simp only [Value.slice.injEq, Option.some.injEq, Addr.mk.injEq, and_true, true_and] at h1
    obtain ⟨rfl, rfl, rfl⟩ := h1
    refine ⟨_, c0, q2, by omega, h6, fun _ => ⟨b0, 0, by simp, fun _ => .inr ⟨(Array.getElem?_eq_some_iff.1 h4).1, h2⟩, (Array.getElem?_eq_some_iff.1 h4).1, fun i hi j hj => ?_⟩⟩
    obtain ⟨u, hu, hok⟩ := h8 i (by omega) j hj
    refine ⟨u, by simp [World.cell?, h4, hu], ?_⟩
    rw [hf i hi j] at hok
    exact AV.ok_mono (fun _ h => .inl h) (Nat.le_refl _) (fun _ _ _ => rfl) _ _ hok
  refine wp_enter (f := f) (args := #[a.eval x, a.eval y]) ?_ ?_
  · have hen := hc.enters #[a.eval x, a.eval y] w
    simp [execOp, resolve, Deferred.ofValue, Act.eval, invoke] at hen ⊢
    exact hen
  · refine Calls.mono (hc.calls w _ [a.eval x, a.eval y] (fun k hk => by rcases hk with hk | hk; exact hs.base.zLt k hk; exact hk.1) hall) ?_
    rintro e w' ⟨u, Z', rfl, hb, _, _, _, hv⟩
    refine ⟨u, rfl, u, Z, ν, rfl, hs.called hb (fun _ h => h) (fun _ h => .inl h) (fun k hk => Nat.lt_of_lt_of_le (hs.base.zLt k hk) hb.size), ?_⟩
    obtain ⟨cs, e1, e2, e3⟩ := hv
    refine ⟨cs, e1, e2, fun i hi => ?_⟩
    obtain ⟨z, z1, z2⟩ := e3 i hi
    refine ⟨z, z1, ?_⟩
    match i, hi with
    | 0, _ => exact z2
    | 1, _ => exact z2
end
end Go.Vc
