/- A part of the proof. -/
import Derived.Test.YtfggdokihnopeaaGreatDoorCaq
set_option linter.unusedVariables false
set_option linter.unusedSimpArgs false
section
namespace Go.Vc
open Go Go.RowKit
structure CtrL (P : Program) (gf : FuncId) (caps : List AV) (τs : List (List AV)) : Prop where
 enters : Enters P gf
 gives : ∀ (w : World) (Z : j0q) (cs : List Value), ZOk Z w → All2 (fun τ v => AV.ok Z w τ v) caps cs → V1A P gf cs.toArray τs Z (fun _ => False) w
structure YL (P : Program) (τs : List (List AV)) (l : Nat) (J : List (List Value) → Zone2 → World → Prop) : Prop where
 grow : ∀ s ZP ZP' A B, J s ZP A → grow2 ZP ZP' A B → J s ZP' B
 turn : ∀ s ZP A B r, J s ZP A → ZP.2 r → A.grownBy B (some r) → J s ZP B
 dj : ∀ s ZP A, J s ZP A → ∀ k, ZP.1 k → ZP.2 k → False
 lt : ∀ s ZP A, J s ZP A → ∀ k, ZP.all k → k < A.heap.size
 yld : ∀ pre x ZP A τ, J pre ZP A → τs[pre.length]? = some τ → okL ZP.1 A τ x → YieldAt Fence.wide 0 P l x.toArray A fun e B => e = .returned (.bool true) ∧ J (pre ++ [x]) ZP B ∧ keepZ ZP.all A B
structure SL (τs : List (List AV)) (J : List (List Value) → Zone2 → World → Prop) (K Zt : j0q) (W0 : World) (m : Nat) (w : World) (Z : j0q) : Prop where
 ex : ∃ pre ZP, J pre ZP w ∧ (∀ k, Z k → ZP.1 k) ∧ (∀ k, K k → ZP.2 k) ∧ (∀ k, Zt k → K k ∨ ZP.1 k) ∧ (∀ k, Zt k → k < W0.heap.size) ∧ keepZ Zt W0 w ∧ All2 (okL ZP.1 w) (τs.take m) pre
def RL (τs : List (List AV)) (J : List (List Value) → Zone2 → World → Prop) (e : Ending) (w' : World) : Prop :=
 (∃ v, e = .returned v) ∧ ∃ xs ZP, All2 (okL ZP.1 w') τs xs ∧ J xs ZP w'
def w0i (N : Nat) (ro : Option Nat) (w : World) (Z : j0q) : Env := { N := N, round := ro, keep := fun k => k < w.heap.size, w0 := w, Z0 := Z }
section
variable {P : Program} {τs : List (List AV)} {l : Nat} {J : List (List Value) → Zone2 → World → Prop} {N : Nat} {ro : Option Nat} {w W0 : World} {Z K Zt : j0q} {T : Tab} {O : Own} {Q : Exit → Act → World → Prop}
theorem SL.below {a : Act} {w1 : World} {Z1 : j0q} {ν : j0N} (h : SatZ (w0i N ro w Z) Z1 ν T O a w1) : w.grownBy w1 none := ⟨h.base.os, h.base.tape, h.base.output, h.base.size, fun k hk _ => h.base.kept k hk⟩
theorem SL.nowB (Y : YL P τs l J) {m : Nat} (S : SL τs J K Zt W0 m w Z) {w1 : World} {Z1 : j0q} (hg : w.grownBy w1 none) (hn : ∀ k, Z1 k → Z k ∨ w.heap.size ≤ k) (hl : ∀ k, Z1 k → k < w1.heap.size) : SL τs J K Zt W0 m w1 Z1 := by
 obtain ⟨pre, ZP, h1, h2, h3, h4, h5, h6, h7⟩ := S.ex
 have hlt := Y.lt _ _ _ h1
 refine ⟨pre, (W0t ZP.1 w w1, ZP.2), Y.grow _ _ _ _ _ h1 ⟨hg, fun k q => .inl q, fun k q => q, fun k q => q, fun k q => .inl q, fun k q1 q2 => ?_⟩, fun k hk => ?_, h3, fun k q => (h4 k q).imp id .inl, h5, ?_, h7.mono fun τ _ v hv => okL.mono (fun k q => .inl q) hg.size (fun k _ hl => hg.block k hl (by simp)) hv⟩
 ·rcases q1 with q | q
  ·exact Y.dj _ _ _ h1 k q q2
  ·have := hlt k (.inr q2); omega
 ·rcases hn k hk with q | q
  ·exact .inl (h2 k q)
  ·exact .inr ⟨q, hl k hk⟩
 ·exact h6.trans ⟨hg.os, hg.tape, hg.output, hg.size, fun k q hl => hg.block k hl (by simp)⟩
theorem SL.now (Y : YL P τs l J) {m : Nat} (S : SL τs J K Zt W0 m w Z) {a : Act} {w1 : World} {Z1 : j0q} {ν : j0N} (h : SatZ (w0i N ro w Z) Z1 ν T O a w1) : SL τs J K Zt W0 m w1 Z1 :=
 S.nowB Y (SL.below h) (fun k hk => (h.base.zNew k hk).imp id Nat.le_of_not_lt) h.base.zLt
theorem SL.self {m : Nat} (S : SL τs J K Zt W0 m w Z) : SL τs J K Zt w m w Z := by
 obtain ⟨pre, ZP, h1, h2, h3, h4, h5, h6, h7⟩ := S.ex
 exact ⟨pre, ZP, h1, h2, h3, h4, fun k q => Nat.lt_of_lt_of_le (h5 k q) h6.2.2.2.1, ⟨rfl, rfl, rfl, Nat.le_refl _, fun _ _ _ => rfl⟩, h7⟩
theorem k0g {ro' : Option Nat} {a : Act} {w1 : World} (h : Sat (w0i N ro w Z) T O a w1) : Sat (w0i N ro' w Z) T O a w1 := by
 obtain ⟨Z1, ν, h⟩ := h
 exact ⟨Z1, ν, h.shift h.defers h.tsize (fun _ _ q => by cases q) (fun _ _ q => by cases q) ⟨h.base.os, h.base.tape, h.base.output, h.base.size, h.base.keepLt, h.base.kept, h.base.zok, h.base.z0, h.base.zNew⟩ (fun _ _ q => q) (fun r hr b hb => let ⟨_, e2, e3⟩ := j0R h ⟨r, hr, hb⟩; ⟨e2, e3, rfl⟩) (fun _ _ => rfl)⟩
theorem J0Q {a : Act} {w1 : World} {Z1 : j0q} {ν : j0N} (h : SatZ (w0i N ro w Z) Z1 ν T [] a w1) : SatZ (w0i N ro w1 Z1) Z1 ν T [] a w1 :=
 h.shift h.defers h.tsize (fun _ _ q => by cases q) (fun _ _ q => by cases q) ⟨rfl, rfl, rfl, Nat.le_refl _, fun _ hk => hk, fun _ _ => rfl, h.base.zok, fun _ hk => hk, fun _ hk => .inl hk⟩ (fun _ _ q => q) (fun r hr => absurd rfl hr) (fun _ _ => rfl)
theorem x0o (Y : YL P τs l J) {m : Nat} (S : SL τs J K Zt W0 m w Z) {τ : List AV} {d : Nat} {c : Operand} {ys : List Operand} {ats : Array TypeId} {ty : TypeId} {pos : String} {af : Array Edge} {ops : Array Oper} {l' : List Oper}
  (hm : τs[m]? = some τ) (hc : T.ev c = .av (.val (.func (.yield l) #[] #[]))) (hy : ys.map T.ev = τ.map SV.av) (hd : (w0i N ro w Z).wr d = true)
  (ht : ∀ w' Z', SL τs J K Zt W0 (m + 1) w' Z' → LSQ P (w0i N ro w' Z') ops Q l' ((d, .av (.val (.bool true))) :: T) []) :
  LSQ P (w0i N ro w Z) ops Q (⟨some d, .call ⟨.value c, ys.toArray, ats⟩, ty, pos, af, none⟩ :: l') T [] := by
 refine ⟨fun a w1 hsat => ?_⟩
 obtain ⟨Z1, ν, h⟩ := hsat
 obtain ⟨pre, ZP, j1, j2, jk, jt, jl, jz, j3⟩ := (S.now Y h).ex
 have hyv : okL Z1 w1 τ (ys.map a.eval) := by
  clear hm ht
  induction ys generalizing τ with
  |nil =>
   cases τ with
   |nil => trivial
   |cons _ _ => cases hy
  |cons y ys ih =>
   cases τ with
   |nil => cases hy
   |cons t τ =>
    simp only [List.map_cons, List.cons.injEq] at hy
    have := j0G h y
    rw [hy.1] at this
    exact ⟨this, ih hy.2⟩
 have hml : m < τs.length := (List.getElem?_eq_some_iff.1 hm).1
 have hpl : pre.length = m := by have := j3.len; rw [List.length_take] at this; omega
 obtain ⟨fn, tmps, assign, body, hyl, hR⟩ := Y.yld pre (ys.map a.eval) ZP w1 τ j1 (by rw [hpl]; exact hm) (okL.mono j2 (Nat.le_refl _) (fun _ _ _ => rfl) hyv)
 have hfv : a.eval c = .func (.yield l) #[] #[] := by
  have := j0G h c
  rw [hc] at this
  exact this
 refine wpListIn_plain rfl fun K' hK => ?_
 refine ⟨fun _ _ => trivial, ?_⟩
 rw [Oper.semAt_eq _ a.eval _ (by intro c; simp)]
 have hrun : (execOp a.eval ⟨some d, .call ⟨.value c, ys.toArray, ats⟩, ty, pos, af, none⟩).run P w1 = .ok (.round l fn tmps assign body) w1 := by
  have e : ys.toArray.map a.eval = (ys.map a.eval).toArray := by simp
  simp [execOp, resolve, Deferred.ofValue, hfv, invoke, e] at hyl ⊢
  exact hyl
 rw [hrun]
 refine ⟨fun h => by simp [fc, w0i] at h, ?_⟩
 refine RoundIn.mono (F := Fence.wide) hR ?_
 rintro e W' ⟨rfl, hj, hk⟩
 have hzk : ∀ k, Z1 k → k < w1.heap.size → W'.heap[k]? = w1.heap[k]? := fun k hz hl => hk.2.2.2.2 k (.inl (j2 k hz)) hl
 have htk : τs.take (m + 1) = τs.take m ++ [τ] := by rw [List.take_add_one, hm]; rfl
 have hS : SL τs J K Zt W0 (m + 1) W' Z1 := by
  refine ⟨pre ++ [ys.map a.eval], ZP, hj, j2, jk, jt, jl, jz.trans ⟨hk.1, hk.2.1, hk.2.2.1, hk.2.2.2.1, fun k q hl => hk.2.2.2.2 k ((jt k q).elim (fun q => .inr (jk k q)) .inl) hl⟩, ?_⟩
  rw [htk]
  exact (j3.mono fun τ _ v hv => okL.mono (fun _ q => q) hk.2.2.2.1 (fun k q hl => hk.2.2.2.2 k (.inl q) hl) hv).snoc (okL.mono j2 hk.2.2.2.1 hzk hyv)
 refine hK _ _ ((ht W' Z1 hS).sq _ _ ⟨Z1, ν, ?_⟩)
 have h2 : SatZ (w0i N ro W' Z1) Z1 ν T [] a W' :=
  h.shift h.defers h.tsize (fun _ _ q => by cases q) (fun _ _ q => by cases q) ⟨rfl, rfl, rfl, Nat.le_refl _, fun _ hk => hk, fun _ _ => rfl, h.base.zok.next (fun _ q => q) hk.2.2.2.1 hzk (fun k q => Nat.lt_of_lt_of_le (h.base.zLt k q) hk.2.2.2.1), fun _ hk => hk, fun _ hk => .inl hk⟩
   (AV.ok_mono (fun _ q => q) hk.2.2.2.1 hzk) (fun r hr => absurd rfl hr) (fun _ _ => rfl)
 exact h2.put (some d) _ _ hd rfl
def w1s (τs : List (List AV)) (J : List (List Value) → Zone2 → World → Prop) (K Zt : j0q) (W0 : World) (N : Nat) (ro : Option Nat) (m : Nat) (T : Tab) (a : Act) (w : World) : Prop := ∃ Z, SL τs J K Zt W0 m w Z ∧ Sat (w0i N ro w Z) T [] a w
theorem V0n (Y : YL P τs l J) {γ : Type} {c : Code} (Tof : γ → Tab) (mOf : γ → Nat) (φ : γ → Prop) (μ : γ → Nat) (g0 : γ) (S : SL τs J K Zt W0 (mOf g0) w Z) (h0 : φ g0) (hstart : Ent T O (Tof g0) [])
  (hbody : ∀ g, φ g → ∀ w Z, SL τs J K Zt W0 (mOf g) w Z → CQ P (w0i N ro w Z) (Exit.then (fun a w => ∃ g', φ g' ∧ μ g' < μ g ∧ w1s τs J K Zt W0 N ro (mOf g') (Tof g') a w) Q) (Tof g) [] c) : CQ P (w0i N ro w Z) Q T O (Code.loop c) := by
 refine ⟨fun a w1 hs => ?_⟩
 obtain ⟨Z1, ν, h1⟩ := hstart _ a w1 hs
 refine wpIn_loop_ghost (fun n a w => ∃ g, μ g = n ∧ φ g ∧ w1s τs J K Zt W0 N ro (mOf g) (Tof g) a w) (μ g0) ⟨g0, rfl, h0, Z1, S.now Y h1, Z1, ν, J0Q h1⟩ ?_
 rintro n a w2 ⟨g, rfl, hg, Z2, S2, hsat⟩
 refine wpIn_mono ((hbody g hg w2 Z2 S2).sq a w2 hsat) ?_
 intro e a' w' hq
 cases e with
 |normal => obtain ⟨g', h1, h2, h3⟩ := hq; exact ⟨μ g', h2, g', rfl, h1, h3⟩
 |exit id => exact hq
 |goto l => exact hq
 |ret => exact hq
 |panic ch => exact hq
 |outgrown => exact hq
theorem x0n (Y : YL P τs l J) {γ : Type} {Tof : γ → Tab} {mOf : γ → Nat} {φ : γ → Prop} {μ : γ → Nat} {g : γ} (g' : γ) (S : SL τs J K Zt W0 (mOf g') w Z) (h1 : φ g') (h2 : μ g' < μ g) (h3 : Ent T O (Tof g') []) :
  SQ (w0i N ro w Z) T O (Exit.then (fun a w => ∃ g', φ g' ∧ μ g' < μ g ∧ w1s τs J K Zt W0 N ro (mOf g') (Tof g') a w) Q .normal) := fun a w' hs => by
 obtain ⟨Z1, ν, hz⟩ := h3 _ a w' hs
 exact ⟨g', h1, h2, Z1, S.now Y hz, Z1, ν, J0Q hz⟩
variable {fn : Func}
theorem Q1A (Y : YL P τs l J) (hr : fn.results = #[]) (S : SL τs J K Zt W0 τs.length w Z) : SQ (w0i N none w Z) T O (bodyPost P fn (RL τs J) .ret) := by
 rintro a w' ⟨Z', ν, h⟩
 obtain ⟨pre, ZP, h1, _, _, _, _, _, h3⟩ := (S.now Y h).ex
 rw [List.take_length] at h3
 exact bodyPost_ret (results_none hr _ _ _) h.defers ⟨⟨_, rfl⟩, pre, ZP, h3, h1⟩
theorem V0Z (Y : YL P τs l J) (hr : fn.results = #[]) (S : SL τs J K Zt W0 τs.length w Z) : SQ (w0i N none w Z) T O (bodyPost P fn (RL τs J) .normal) := Q1A Y hr S
end
theorem Z1D {P : Program} {gf : FuncId} {fn : Func} {c : Code} {caps : List AV} {τs : List (List AV)} (N : Nat) (hf : P.funcs[gf]? = some fn) (hb : fn.body = some c) (hname : (fn.name == "runtime.NumGoroutine") = false) (hN : fn.ntmps = N) (hlen' : Nat.ble (caps.length + 1) N = true)
  (h : ∀ l J, YL P τs l J → ∀ w Z, SL τs J (fun _ => False) (fun _ => False) w 0 w Z → CQ P (w0i N none w Z) (bodyPost P fn (RL τs J)) (x0a 0 ((AV.val (.func (.yield l) #[] #[]) :: caps).map SV.av)) [] c) : CtrL P gf caps τs := by
 refine ⟨w0X hf hb hname, fun w Z cs hZ hcs => ?_⟩
 intro l J W hBl hJ hT hD hY h0
 have hZW : ZOk Z W := hZ.next (fun _ q => q) hBl.size (fun k _ hl => hBl.block k hl) (fun k hk => Nat.lt_of_lt_of_le (hZ.1 k hk) hBl.size)
 have hcs' : All2 (fun τ v => AV.ok Z W τ v) (AV.val (.func (.yield l) #[] #[]) :: caps) (Value.func (.yield l) #[] #[] :: cs) :=
  ⟨rfl, hcs.mono fun τ _ v hv => AV.ok_mono (fun _ q => q) hBl.size (fun k hk _ => hBl.block k (hZ.1 k hk)) τ v hv⟩
 have key := (h l J ⟨hJ, hT, fun s ZP A q => (hD s ZP A q).1, fun s ZP A q => (hD s ZP A q).2, hY⟩ W Z ⟨⟨[], (Z, fun _ => False), h0, fun _ q => q, fun _ q => q.elim, fun _ q => q.elim, fun _ q => q.elim, ⟨rfl, rfl, rfl, Nat.le_refl _, fun _ q => q.elim⟩, trivial⟩⟩).sq _ W (y0t hN hlen' hZW hcs')
 have hc : Calls P gf (Value.func (.yield l) #[] #[] :: cs).toArray W (RL τs J) := calls_of_wp hf hb (wpIn_wide.1 key)
 have ha : #[Value.func (.yield l) #[] #[]] ++ cs.toArray = (Value.func (.yield l) #[] #[] :: cs).toArray := by simp
 rw [ha]
 exact callsIn_wide.2 hc
theorem V1O {P : Program} {gf : FuncId} {fn : Func} {c : Code} {caps : List AV} {τs : List (List AV)} (N : Nat) (hf : P.funcs[gf]? = some fn) (hb : fn.body = some c) (hname : (fn.name == "runtime.NumGoroutine") = false) (hN : fn.ntmps = N) (hlen' : Nat.ble (caps.length + 1) N = true)
  (h : ∀ l J, YL P τs l J → ∀ w Z, SL τs J (fun _ => False) (fun _ => False) w 0 w Z → CQ P (w0i N none w Z) (K0p P fn (RL τs J)) (x0a 0 ((AV.val (.func (.yield l) #[] #[]) :: caps).map SV.av)) [] c) : CtrL P gf caps τs := by
 refine ⟨w0X hf hb hname, fun w Z cs hZ hcs => ?_⟩
 intro l J W hBl hJ hT hD hY h0
 have hZW : ZOk Z W := hZ.next (fun _ q => q) hBl.size (fun k _ hl => hBl.block k hl) (fun k hk => Nat.lt_of_lt_of_le (hZ.1 k hk) hBl.size)
 have hcs' : All2 (fun τ v => AV.ok Z W τ v) (AV.val (.func (.yield l) #[] #[]) :: caps) (Value.func (.yield l) #[] #[] :: cs) :=
  ⟨rfl, hcs.mono fun τ _ v hv => AV.ok_mono (fun _ q => q) hBl.size (fun k hk _ => hBl.block k (hZ.1 k hk)) τ v hv⟩
 have key := (h l J ⟨hJ, hT, fun s ZP A q => (hD s ZP A q).1, fun s ZP A q => (hD s ZP A q).2, hY⟩ W Z ⟨⟨[], (Z, fun _ => False), h0, fun _ q => q, fun _ q => q.elim, fun _ q => q.elim, fun _ q => q.elim, ⟨rfl, rfl, rfl, Nat.le_refl _, fun _ q => q.elim⟩, trivial⟩⟩).sq _ W (y0t hN hlen' hZW hcs')
 have ha : #[Value.func (.yield l) #[] #[]] ++ cs.toArray = (Value.func (.yield l) #[] #[] :: cs).toArray := by simp
 rw [ha]
 exact callsIn_wide.2 (callsIn_wide.1 (callsIn_of_wp_marks (n := 0) hf hb trivial key))
def Y1E (N D : Nat) (w : World) (Z : j0q) : Env := { N := N, round := none, keep := fun k => k < w.heap.size, w0 := w, Z0 := Z, marks := [{ target := .collected D, args := #[] }] }
theorem v1E {P : Program} {fn : Func} {τs : List (List AV)} {l : Nat} {J : List (List Value) → Zone2 → World → Prop} {N D : Nat} {w W0 : World} {Z K : j0q} {T : Tab} {O : Own}
  (Y : YL P τs l J) (hr : fn.results = #[]) (S : SL τs J K (fun _ => False) W0 τs.length w Z) (hK : K D) (hD : w.heap[D]? = some (.deferred (some []))) : SQ (Y1E N D w Z) T O (K0p P fn (RL τs J) .ret) := by
 rintro a w' ⟨Z1, ν, h⟩
 have hDl := (Array.getElem?_eq_some_iff.1 hD).1
 have hD' : w'.heap[D]? = some (.deferred (some [])) := (h.base.kept D hDl).trans hD
 have S' := S.nowB Y (w1 := w') (Z1 := Z1) ⟨h.base.os, h.base.tape, h.base.output, h.base.size, fun k hk _ => h.base.kept k hk⟩ (fun k hk => (h.base.zNew k hk).imp id Nat.le_of_not_lt) h.base.zLt
 obtain ⟨pre, ZP, h1, _, h3, _, _, _, h7⟩ := S'.ex
 have hg : w'.grownBy (w'.putObj D (.deferred none)) (some D) := grownBy_putObj' _ _ _
 have hz : ∀ k, ZP.1 k → k ≠ D := fun k q e => Y.dj _ _ _ h1 k q (by rw [e]; exact h3 D hK)
 have q : bodyPost P fn (RL τs J) .ret { a with defers := [] } (w'.putObj D (.deferred none)) := by
  refine bodyPost_ret (results_none hr _ _ _) rfl ⟨⟨_, rfl⟩, pre, ZP, ?_, Y.turn _ _ _ _ D h1 (h3 D hK) hg⟩
  rw [List.take_length] at h7
  exact h7.mono fun τ _ v hv => okL.mono (fun _ q => q) hg.size (fun k q _ => World.putObj_heap_other (hz k q)) hv
 show LeavesInM Fence.wide 0 P fn a.tmps (RL τs J) a.defers .returning w'
 rw [h.defers]
 exact ⟨by simp, .inl ⟨D, _, rfl, run_takeDeferred hD', q.2⟩⟩
theorem Q0U {P : Program} {fn : Func} {τs : List (List AV)} {l : Nat} {J : List (List Value) → Zone2 → World → Prop} {N D : Nat} {w W0 : World} {Z K : j0q} {T : Tab} {O : Own}
  (Y : YL P τs l J) (hr : fn.results = #[]) (S : SL τs J K (fun _ => False) W0 τs.length w Z) (hK : K D) (hD : w.heap[D]? = some (.deferred (some []))) : SQ (Y1E N D w Z) T O (K0p P fn (RL τs J) .normal) := v1E Y hr S hK hD
end Go.Vc
end
section
namespace Go.Vc
open Go Go.RowKit
structure IY (τs : List (List AV)) (J : List (List Value) → Zone2 → World → Prop) (K Zt : j0q) (W0 : World) (mOf : Nat → Nat) (Z : j0q) (w : World) (bkb : Nat → Prop) (pre : List (List Value)) (ZP : Zone2) (W : World) (preO : List (List Value)) (ZPO : Zone2) : Prop where
 j : J preO ZPO W
 z : ∀ k, Z k → ZPO.1 k
 k : ∀ k, K k → ZPO.2 k
 t : ∀ k, Zt k → K k ∨ ZPO.1 k
 tl : ∀ k, Zt k → k < W0.heap.size
 tk : keepZ Zt W0 W
 ok : All2 (okL ZPO.1 W) (τs.take (mOf pre.length)) preO
 zk : keepZ Z w W
 p1 : ∀ k, ZP.1 k → ZPO.1 k
 p2 : ∀ k, ZP.2 k → ZPO.2 k
 pl : ∀ k, ZP.2 k → ¬ Zt k
 b : ∀ k, bkb k → k < W.heap.size → ZPO.2 k
def IYx (τs : List (List AV)) (J : List (List Value) → Zone2 → World → Prop) (K Zt : j0q) (W0 : World) (mOf : Nat → Nat) (Z : j0q) (w : World) (bkb : Nat → Prop) (pre : List (List Value)) (ZP : Zone2) (W : World) : Prop := ∃ preO ZPO, IY τs J K Zt W0 mOf Z w bkb pre ZP W preO ZPO
theorem keepZ.row {Z : j0q} {A B : World} {r : Option Nat} (h : A.grownBy B r) (hr : ∀ k, r = some k → ¬ Z k) : keepZ Z A B :=
 ⟨h.os, h.tape, h.output, h.size, fun k q hl => h.block k hl (fun e => hr k e.symm q)⟩
section
variable {P : Program} {τs : List (List AV)} {l : Nat} {J : List (List Value) → Zone2 → World → Prop} {K Zt Z : j0q} {W0 w A B : World} {mOf : Nat → Nat} {bkb : Nat → Prop} {pre : List (List Value)} {ZP ZP' : Zone2}
theorem IYx.grow (Y : YL P τs l J) (h : IYx τs J K Zt W0 mOf Z w bkb pre ZP A) (hg : grow2 ZP ZP' A B) (hb : ∀ k, bkb k → A.heap.size ≤ k → ZP'.1 k → False) (hw : W0.heap.size ≤ A.heap.size) : IYx τs J K Zt W0 mOf Z w bkb pre ZP' B := by
 obtain ⟨preO, ZPO, h⟩ := h
 have hlt := Y.lt _ _ _ h.j
 have hdj := Y.dj _ _ _ h.j
 have n1 : ∀ k, ZP'.1 k → ZPO.1 k ∨ A.heap.size ≤ k ∧ k < B.heap.size := fun k q => (hg.b1 k q).imp (h.p1 k) id
 have n2 : ∀ k, ZP'.2 k → ZPO.2 k ∨ A.heap.size ≤ k ∧ k < B.heap.size := fun k q => (hg.b2 k q).imp (h.p2 k) id
 refine ⟨preO, (fun k => ZPO.1 k ∨ ZP'.1 k, fun k => (ZPO.2 k ∨ ZP'.2 k) ∨ (bkb k ∧ A.heap.size ≤ k ∧ k < B.heap.size)), ⟨Y.grow _ _ _ _ _ h.j ⟨hg.gr, fun k q => .inl q, fun k q => .inl (.inl q), fun k q => ?_, fun k q => ?_, fun k q1 q2 => ?_⟩, fun k q => .inl (h.z k q), fun k q => .inl (.inl (h.k k q)), fun k q => (h.t k q).imp id .inl, h.tl, h.tk.trans (keepZ.row hg.gr (by simp)), ?_, h.zk.trans (keepZ.row hg.gr (by simp)), fun k q => .inr q, fun k q => .inl (.inr q), fun k q => ?_, fun k q hl => ?_⟩⟩
 ·rcases q with q | q
  ·exact .inl q
  ·exact n1 k q
 ·rcases q with (q | q) | q
  ·exact .inl q
  ·exact n2 k q
  ·exact .inr q.2
 ·rcases q1 with q1 | q1 <;> rcases q2 with (q2 | q2) | q2
  ·exact hdj k q1 q2
  ·rcases n2 k q2 with q | q
   ·exact hdj k q1 q
   ·have := hlt k (.inl q1); omega
  ·have := hlt k (.inl q1); omega
  ·rcases n1 k q1 with q | q
   ·exact hdj k q q2
   ·have := hlt k (.inr q2); omega
  ·exact hg.dj k q1 q2
  ·exact hb k q2.1 q2.2.1 q1
 ·exact h.ok.mono fun τ _ v hv => okL.mono (fun k q => .inl q) hg.gr.size (fun k _ hl => hg.gr.block k hl (by simp)) hv
 ·rcases hg.b2 k q with q | q
  ·exact h.pl k q
  ·exact fun q' => by have := h.tl k q'; omega
 ·by_cases hA : k < A.heap.size
  ·exact .inl (.inl (h.b k q hA))
  ·exact .inr ⟨q, by omega, hl⟩
theorem IYx.turn (Y : YL P τs l J) (h : IYx τs J K Zt W0 mOf Z w bkb pre ZP A) {r : Nat} (hr : ¬ Zt r) (hrz : ∀ preO ZPO, IY τs J K Zt W0 mOf Z w bkb pre ZP A preO ZPO → ZPO.2 r) (hg : A.grownBy B (some r)) (hb : ∀ k, bkb k → k < A.heap.size) : IYx τs J K Zt W0 mOf Z w bkb pre ZP B := by
 obtain ⟨preO, ZPO, h⟩ := h
 have hr2 := hrz _ _ h
 have hdj := Y.dj _ _ _ h.j
 refine ⟨preO, ZPO, ⟨Y.turn _ _ _ _ r h.j hr2 hg, h.z, h.k, h.t, h.tl, h.tk.trans (keepZ.row hg fun k e q => ?_), ?_, h.zk.trans (keepZ.row hg fun k e q => ?_), h.p1, h.p2, h.pl, fun k q hl => h.b k q (hb k q)⟩⟩
 ·cases e; exact hr q
 ·exact h.ok.mono fun τ _ v hv => okL.mono (fun k q => q) hg.size (fun k q hl => hg.block k hl (fun e => by cases e; exact hdj r q hr2)) hv
 ·cases e; exact hdj r (h.z r q) hr2
theorem SL.not (Y : YL P τs l J) {m : Nat} (S : SL τs J K Zt W0 m A Z) {r : Nat} (hr : K r) : ¬ Z r := fun q => by
 obtain ⟨pre, ZP, h1, h2, h3, _⟩ := S.ex
 exact Y.dj _ _ _ h1 r (h2 r q) (h3 r hr)
theorem SL.turnS (Y : YL P τs l J) {m : Nat} (S : SL τs J K Zt A m A Z) {r : Nat} (hr : K r) (hg : A.grownBy B (some r)) : SL τs J K Zt B m B Z := by
 obtain ⟨pre, ZP, h1, h2, h3, h4, h5, h6, h7⟩ := S.ex
 have hdj := Y.dj _ _ _ h1
 exact ⟨pre, ZP, Y.turn _ _ _ _ r h1 (h3 r hr) hg, h2, h3, h4, fun k q => Nat.lt_of_lt_of_le (h5 k q) hg.size, ⟨rfl, rfl, rfl, Nat.le_refl _, fun _ _ _ => rfl⟩, h7.mono fun τ _ v hv => okL.mono (fun k q => q) hg.size (fun k q hl => hg.block k hl (fun e => by cases e; exact hdj r q (h3 r hr))) hv⟩
variable {N : Nat} {ro : Option Nat} {T : Tab} {a : Act}
theorem v1o {r : Nat} (h : Sat (w0i N ro A Z) T [] a A) (hg : A.grownBy B (some r)) (hr : ¬ Z r) : Sat (w0i N ro B Z) T [] a B := by
 obtain ⟨Z1, ν, h⟩ := h
 have hz : ∀ k, Z1 k → Z k ∨ A.heap.size ≤ k := fun k hk => (h.base.zNew k hk).imp id fun q => Nat.le_of_not_lt q
 have hzl : ∀ k, Z1 k → k < A.heap.size := h.base.zLt
 have hzk : ∀ k, Z1 k → k < A.heap.size → B.heap[k]? = A.heap[k]? := fun k hk hl => hg.block k hl (fun e => by
  cases e
  rcases hz r hk with q | q
  ·exact hr q
  ·omega)
 refine ⟨Z1, ν, h.shift h.defers h.tsize (fun _ _ q => by cases q) (fun _ _ q => by cases q) ⟨rfl, rfl, rfl, Nat.le_refl _, fun _ hk => hk, fun _ _ => rfl, h.base.zok.next (fun _ q => q) hg.size hzk (fun k q => Nat.lt_of_lt_of_le (h.base.zLt k q) hg.size), h.base.z0, fun k hk => ?_⟩ (AV.ok_mono (fun _ q => q) hg.size hzk) (fun r hr => absurd rfl hr) (fun _ _ => rfl)⟩
 exact .inl ((hz k hk).elim id fun q => by have := hzl k hk; omega)
end
end Go.Vc
end
section
namespace Go.Vc
open Go Go.RowKit
abbrev Kb (K : j0q) (bkb : Nat → Prop) (ZP : Zone2) : j0q := fun k => K k ∨ bkb k ∨ ZP.2 k
abbrev Ztb (Zt Z : j0q) (bkb : Nat → Prop) (ZP : Zone2) : j0q := fun k => Zt k ∨ Z k ∨ ZP.all k ∨ bkb k
theorem W0k (t : Array Value) (p q : Nat) (v0 v1 : Value) : ([p, q].toArray.zip [v0, v1].toArray).foldl (fun t (p, v) => t.setIfInBounds p v) t = (t.setIfInBounds p v0).setIfInBounds q v1 := by simp [Array.zip_eq_zipWith, ← Array.foldl_toList]
structure IR (K Zt : j0q) (W0 : World) (Z : j0q) (w : World) (bkb : Nat → Prop) (ZP : Zone2) (A : World) : Prop where
 tk : keepZ Zt W0 A
 zk : keepZ Z w A
 pl : ∀ k, ZP.2 k → ¬ Zt k
 dj : ∀ k, Z k ∨ ZP.1 k → ¬ Kb K bkb ZP k
section
variable {P : Program} {τs : List (List AV)} {l : Nat} {J : List (List Value) → Zone2 → World → Prop} {K Zt Z : j0q} {W0 w A B : World} {mOf : Nat → Nat} {bkb : Nat → Prop} {pre : List (List Value)} {ZP : Zone2} {N : Nat} {ro : Option Nat} {T : Tab} {a : Act}
theorem IYx.lt (Y : YL P τs l J) (h : IYx τs J K Zt W0 mOf Z w bkb pre ZP A) (k : Nat) (q : ZP.1 k) : k < A.heap.size := by
 obtain ⟨preO, ZPO, h⟩ := h
 exact Y.lt _ _ _ h.j k (.inl (h.p1 k q))
theorem IYx.start {X : j0q} (Y : YL P τs l J) (S : SL τs J K Zt W0 (mOf 0) w Z) (hX : ∀ k, X k → K k ∧ ¬ Zt k) (hb : ∀ k, bkb k → w.heap.size ≤ k) : IYx τs J K Zt W0 mOf Z w bkb [] (Z, X) w := by
 obtain ⟨pre, ZP, h1, h2, h3, h4, h5, h6, h7⟩ := S.ex
 exact ⟨pre, ZP, ⟨h1, h2, h3, h4, h5, h6, h7, ⟨rfl, rfl, rfl, Nat.le_refl _, fun _ _ _ => rfl⟩, h2, fun k q => h3 k (hX k q).1, fun k q => (hX k q).2, fun k q hl => by have := hb k q; omega⟩⟩
theorem IYx.opn (Y : YL P τs l J) (h : IYx τs J K Zt W0 mOf Z w bkb pre ZP A) (hb : ∀ k, bkb k → k < A.heap.size) (hzw : ∀ k, Z k → k < w.heap.size) : IR K Zt W0 Z w bkb ZP A ∧ SL τs J (Kb K bkb ZP) (Ztb Zt Z bkb ZP) A (mOf pre.length) A (fun k => Z k ∨ ZP.1 k) := by
 obtain ⟨preO, ZPO, h⟩ := h
 have hdj := Y.dj _ _ _ h.j
 have hlt := Y.lt _ _ _ h.j
 have h1 : ∀ k, Z k ∨ ZP.1 k → ZPO.1 k := fun k q => q.elim (h.z k) (h.p1 k)
 have h2 : ∀ k, Kb K bkb ZP k → ZPO.2 k := fun k q => q.elim (h.k k) (fun q => q.elim (fun q => h.b k q (hb k q)) (h.p2 k))
 refine ⟨⟨h.tk, h.zk, h.pl, fun k q1 q2 => hdj k (h1 k q1) (h2 k q2)⟩, ⟨preO, ZPO, h.j, h1, h2, fun k q => ?_, fun k q => ?_, ⟨rfl, rfl, rfl, Nat.le_refl _, fun _ _ _ => rfl⟩, h.ok⟩⟩
 ·rcases q with q | q | (q | q) | q
  ·exact (h.t k q).imp .inl id
  ·exact .inr (h.z k q)
  ·exact .inr (h.p1 k q)
  ·exact .inl (.inr (.inr q))
  ·exact .inl (.inr (.inl q))
 ·rcases q with q | q | (q | q) | q
  ·exact Nat.lt_of_lt_of_le (h.tl k q) h.tk.2.2.2.1
  ·exact Nat.lt_of_lt_of_le (hzw k q) h.zk.2.2.2.1
  ·exact hlt k (.inl (h.p1 k q))
  ·exact hlt k (.inr (h.p2 k q))
  ·exact hb k q
theorem IR.back (Y : YL P τs l J) {x : List Value} {Z2 : j0q} (h : IR K Zt W0 Z w bkb ZP A) (htl : ∀ k, Zt k → k < W0.heap.size) (hW0 : W0.heap.size ≤ w.heap.size) (hbl : ∀ k, bkb k → w.heap.size ≤ k) (hb : ∀ k, bkb k → k < A.heap.size) (S : SL τs J (Kb K bkb ZP) (Ztb Zt Z bkb ZP) A (mOf (pre.length + 1)) B Z2) :
  IYx τs J K Zt W0 mOf Z w bkb (pre ++ [x]) ZP B ∧ keepZ ZP.all A B ∧ ∀ k, bkb k → B.heap[k]? = A.heap[k]? := by
 obtain ⟨preO, ZPO, h1, h2, h3, h4, h5, h6, h7⟩ := S.ex
 have hk : ∀ (X : j0q), (∀ k, X k → Ztb Zt Z bkb ZP k) → keepZ X A B := fun X q => ⟨h6.1, h6.2.1, h6.2.2.1, h6.2.2.2.1, fun k e hl => h6.2.2.2.2 k (q k e) hl⟩
 have hin : ∀ k, Z k ∨ ZP.1 k → ZPO.1 k := fun k q => (h4 k (q.elim (fun q => .inr (.inl q)) (fun q => .inr (.inr (.inl (.inl q)))))).elim (fun e => absurd e (h.dj k q)) id
 refine ⟨⟨preO, ZPO, ⟨h1, fun k q => hin k (.inl q), fun k q => h3 k (.inl q), fun k q => ?_, htl, h.tk.trans (hk _ fun k q => .inl q), ?_, h.zk.trans (hk _ fun k q => .inr (.inl q)), fun k q => hin k (.inr q), fun k q => h3 k (.inr (.inr q)), h.pl, fun k q _ => h3 k (.inr (.inl q))⟩⟩, hk _ fun k q => .inr (.inr (.inl q)), fun k q => h6.2.2.2.2 k (.inr (.inr (.inr q))) (hb k q)⟩
 ·rcases h4 k (.inl q) with e | e
  ·rcases e with e | e | e
   ·exact .inl e
   ·have := htl k q; have := hbl k e; omega
   ·exact absurd q (h.pl k e)
  ·exact .inr e
 ·rw [List.length_append]; exact h7
theorem IR.put {r : Nat} (h : IR K Zt W0 Z w bkb ZP A) (hg : A.grownBy B (some r)) (hr : w.heap.size ≤ r) (htl : ∀ k, Zt k → k < W0.heap.size) (hW0 : W0.heap.size ≤ w.heap.size) (hzw : ∀ k, Z k → k < w.heap.size) : IR K Zt W0 Z w bkb ZP B :=
 ⟨h.tk.trans (keepZ.row hg fun k e q => by cases e; have := htl r q; omega), h.zk.trans (keepZ.row hg fun k e q => by cases e; have := hzw r q; omega), h.pl, h.dj⟩
end
section
variable {P : Program} {τs : List (List AV)} {l : Nat} {J : List (List Value) → Zone2 → World → Prop} {K Zt Z : j0q} {W0 w : World} {N l0 : Nat} {T TL : Tab} {O : Own} {Q : Exit → Act → World → Prop}
theorem v1p {ro ro' : Option Nat} {W : World} {Z1 Z' : j0q} {ν : j0N} {a : Act} {w1 : World} {p q : Nat} {x y : Value} {τ σ : AV} (h : SatZ (w0i N ro w Z) Z1 ν TL [] a w1) (hZ : ∀ k, Z1 k → Z' k) (hk : keepZ Z1 w1 W) (hl : ∀ k, Z' k → k < W.heap.size)
  (hp : p < N) (hq : q < N) (hpq : p ≠ q) (hx : AV.ok Z' W τ x) (hy : AV.ok Z' W σ y) (hTp : look TL p = none) (hTq : look TL q = none) :
  Sat (w0i N ro' W Z') ((p, .av τ) :: (q, .av σ) :: TL) [] { tmps := (a.tmps.setIfInBounds p x).setIfInBounds q y, defers := [] } W := by
 have hn : ∀ d, d ≠ p → d ≠ q → ((a.tmps.setIfInBounds p x).setIfInBounds q y).getD d undef = a.tmps.getD d undef := fun d h1 h2 => by
  rw [j0Y _ _ _ _ (fun e => h2 e.symm), j0Y _ _ _ _ (fun e => h1 e.symm)]
 have hts : a.tmps.size = N := h.tsize
 have ep : ((a.tmps.setIfInBounds p x).setIfInBounds q y).getD p undef = x := by
  rw [j0Y _ _ _ _ (fun e => hpq e.symm)]
  simp [Array.getD_eq_getD_getElem?, hts, hp]
 have eq : ((a.tmps.setIfInBounds p x).setIfInBounds q y).getD q undef = y := by
  simp [Array.getD_eq_getD_getElem?, hts, hq]
 refine ⟨Z', ν, rfl, by simp [hts, w0i], (fun _ _ h => by cases h), (fun _ _ h => by cases h), ⟨rfl, rfl, rfl, Nat.le_refl _, fun k hk => hk, fun _ _ => rfl, h.base.zok.next hZ hk.2.2.2.1 hk.2.2.2.2 hl, fun _ hk => hk, fun _ hk => .inl hk⟩, ⟨fun r x hx => by simp [look] at hx, fun r r' _ h1 => by simp [look] at h1⟩, fun d => ?_⟩
 by_cases h1 : p = d
 ·subst h1
  rw [Tab.get_cons_eq]
  show AV.ok Z' W τ (((a.tmps.setIfInBounds p x).setIfInBounds q y).getD p undef)
  rw [ep]; exact hx
 ·rw [Tab.get_cons_ne _ _ h1]
  by_cases h2 : q = d
  ·subst h2
   rw [Tab.get_cons_eq]
   show AV.ok Z' W σ (((a.tmps.setIfInBounds p x).setIfInBounds q y).getD q undef)
   rw [eq]; exact hy
  ·rw [Tab.get_cons_ne _ _ h2]
   have hs := h.slot d
   have hm := SV.ok_mono (ν' := ν) hZ hk.2.2.2.1 hk.2.2.2.2 _ _ (fun r _ => rfl) hs
   have e := hn d (fun e => h1 e.symm) (fun e => h2 e.symm)
   show SV.ok Z' ν W (TL.get d) (((a.tmps.setIfInBounds p x).setIfInBounds q y).getD d undef)
   rw [e]
   exact hm
theorem W0J {g : Operand} {p q : Tmp} {assign body : Code} {gf : FuncId} {n : Nat} {cf : Nat → AV} {τa : List (List AV)} {mOf : Nat → Nat}
  (Y : YL P τs l J) (S : SL τs J K Zt W0 (mOf 0) w Z) (hI : CtrL P gf ((List.range n).map cf) τa) (TX : Nat → Tab) (h0 : Ent T O TL []) (hg : TL.ev g = .av (.clo gf n cf))
  (hTp : look TL p = none) (hTq : look TL q = none) (hpq : Nat.beq p q = false) (hpN : Nat.blt p N = true) (hqN : Nat.blt q N = true) (h2 : ∀ τ ∈ τa, ∃ t0 t1, τ = [t0, t1])
  (hass : ∀ i t0 t1, τa[i]? = some [t0, t1] → ∀ l' K' Zt' W Z', SL τs J K' Zt' W (mOf i) W Z' → CQ P (w0i N (some l') W Z') (Exit.then (fun a w => w1s τs J K' Zt' W N (some l') (mOf i) (TX i) a w) (fun _ _ _ => False)) ((p, .av t0) :: (q, .av t1) :: TL) [] assign)
  (hbody : ∀ i t0 t1, τa[i]? = some [t0, t1] → ∀ l' K' Zt' W Z', SL τs J K' Zt' W (mOf i) W Z' → (∃ r, W.heap[l']? = some (.loop r)) → CQ P (w0i N (some l') W Z') (fun e _ w => e = .normal ∧ ∃ Z2, SL τs J K' Zt' W (mOf (i + 1)) w Z2) (TX i) [] body)
  (hdone : ∀ D W Z2, SL τs J (fun k => K k ∨ k = D) Zt W0 (mOf τa.length) W Z2 → W.heap[D]? = some (.deferred (some [])) → SQ (Y1E N D W Z2) TL [] (Q .normal)) :
  CQ P (w0i N none w Z) Q T O (Code.rangeFunc g #[p, q] assign body) := by
 refine ⟨fun a w1 hsat => ?_⟩
 obtain ⟨Z1, ν, h1⟩ := h0 _ a w1 hsat
 have S1 := S.now Y h1
 have hE := J0Q h1
 refine (wpIn_wide (n := 0)).2 ((wpIn_wide (n := 2)).1 ?_)
 have hgv := j0G h1 g
 rw [hg] at hgv
 obtain ⟨cs, hgv, hcl, hcs⟩ := hgv
 have hcaps : All2 (fun τ v => AV.ok Z1 w1 τ v) ((List.range n).map cf) cs := by
  rw [List.range_eq_range']
  exact J0i n 0 cf cs hcl (fun i hi => by rw [Nat.zero_add]; exact hcs i hi)
 have had : a.defers = [] := h1.defers
 have htl : ∀ k, Zt k → k < W0.heap.size := by obtain ⟨_, _, _, _, _, _, h5, _⟩ := S1.ex; exact h5
 have hW0 : W0.heap.size ≤ w1.heap.size := by obtain ⟨_, _, _, _, _, _, _, h6, _⟩ := S1.ex; exact h6.2.2.2.1
 have hzw : ∀ k, Z1 k → k < w1.heap.size := h1.base.zLt
 have hbl : ∀ k, bk w1 k → w1.heap.size ≤ k := fun k e => by rcases e with rfl | rfl <;> omega
 have hbo : ∀ {W : World}, Y0X w1 W → ∀ k, bk w1 k → k < W.heap.size := fun hb k hk => by
  obtain ⟨o, ho, _⟩ := hb k hk
  exact (Array.getElem?_eq_some_iff.1 ho).1
 have hl2 : ∀ {ZP : Zone2} {W : World} {τ : List AV} {x : List Value} {i : Nat}, τa[i]? = some τ → okL ZP.1 W τ x → ∃ t0 t1 v0 v1, τ = [t0, t1] ∧ x = [v0, v1] ∧ AV.ok ZP.1 W t0 v0 ∧ AV.ok ZP.1 W t1 v1 := by
  intro ZP W τ x i hτ hx
  obtain ⟨t0, t1, rfl⟩ := h2 _ (List.mem_of_getElem? hτ)
  match x, hx with
  |[v0, v1], hx => exact ⟨t0, t1, v0, v1, rfl, rfl, hx.1, hx.2.1⟩
 refine Q0d (P := P) (ps := [p, q]) hgv hI.enters (hI.gives w1 Z1 cs h1.base.zok hcaps) hzw (fun _ q => q.elim) (fun τ hτ => by obtain ⟨t0, t1, rfl⟩ := h2 τ hτ; rfl)
  (IYx τs J K Zt W0 mOf Z1 w1 (bk w1)) (fun s ZP ZP' A B hi hgr hsz => hi.grow Y hgr (fun k hk hl _ => by rcases hk with rfl | rfl <;> omega) zO) ?_
  (fun s ZP A B r hi hr hgr hsz => hi.turn Y (by obtain ⟨_, _, hi⟩ := hi; exact hi.pl r hr) (fun _ _ hi => hi.p2 r hr) hgr (fun k hk => by rcases hk with rfl | rfl <;> omega)) (IYx.start Y S1 (fun _ q => q.elim) hbl)
  (fun pre x ZP a' W => IR K Zt W0 Z1 w1 (bk w1) ZP W ∧ w1s τs J (Kb K (bk w1) ZP) (Ztb Zt Z1 (bk w1) ZP) W N none (mOf pre.length) (TX pre.length) a' W) ?_ ?_ ?_ ?_
 ·rintro s ZP A B row hi hgr hro
  cases row with
  |none => exact hi.grow Y ⟨hgr, fun _ q => q, fun _ q => q, fun _ q => .inl q, fun _ q => .inl q, by obtain ⟨_, _, hi⟩ := hi; exact fun k q1 q2 => Y.dj _ _ _ hi.j k (hi.p1 k q1) (hi.p2 k q2)⟩ (fun k _ hl q => by have := hi.lt Y k q; omega) (by obtain ⟨_, _, hi⟩ := hi; exact hi.tk.2.2.2.1)
  |some r =>
   obtain ⟨q1, q2⟩ := hro r rfl
   exact hi.turn Y (fun e => by have := htl r e; have := hbl r q1; omega) (fun _ _ hi => hi.b r q1 (hbo q2 r q1)) hgr (hbo q2)
 ·rintro s x ZP a' A l o' ⟨hr, Z2, h3, h4⟩ hl hb
  exact ⟨hr.put (grownBy_putObj' A l o') (hbl l hl) htl hW0 hzw, Z2, h3.turnS Y (.inr (.inl hl)) (grownBy_putObj' A l o'), v1o h4 (grownBy_putObj' A l o') (h3.not Y (.inr (.inl hl)))⟩
 ·rintro l pre x ZP W τ K' hτ hx hi hb hK
  obtain ⟨t0, t1, v0, v1, rfl, rfl, hx0, hx1⟩ := hl2 hτ hx
  obtain ⟨hr, S2⟩ := hi.opn Y (hbo hb) hzw
  have hlt : ∀ k, Z1 k ∨ ZP.1 k → k < W.heap.size := fun k e => e.elim (fun e => Nat.lt_of_lt_of_le (hzw k e) hr.zk.2.2.2.1) (hi.lt Y k)
  have hst := v1p (ro' := some l) (p := p) (q := q) hE (fun k e => Or.inl (b := ZP.1 k) e) hr.zk hlt (j0H hpN) (j0H hqN) (fun e => by rw [e, Nat.beq_refl] at hpq; cases hpq)
   (AV.ok_mono (fun _ e => .inr e) (Nat.le_refl _) (fun _ _ _ => rfl) t0 v0 hx0) (AV.ok_mono (fun _ e => .inr e) (Nat.le_refl _) (fun _ _ _ => rfl) t1 v1 hx1) hTp hTq
  rw [W0k]
  refine wpIn_mono ((hass pre.length t0 t1 hτ l _ _ W _ S2).sq _ W hst) ?_
  rintro e a' W' hq
  cases e with
  |normal =>
   obtain ⟨Z3, S3, h3⟩ := hq
   have hkp : keepZ (Ztb Zt Z1 (bk w1) ZP) W W' := by obtain ⟨_, _, _, _, _, _, _, h6, _⟩ := S3.ex; exact h6
   have hk : ∀ (X : j0q), (∀ k, X k → Ztb Zt Z1 (bk w1) ZP k) → keepZ X W W' := fun X q => ⟨hkp.1, hkp.2.1, hkp.2.2.1, hkp.2.2.2.1, fun k e hl => hkp.2.2.2.2 k (q k e) hl⟩
   exact hK a' W' (fun k e => hkp.2.2.2.2 k (.inr (.inr (.inr e))) (hbo hb k e)) (hk _ fun k e => .inr (.inr (.inl e))) ⟨⟨hr.tk.trans (hk _ fun k e => .inl e), hr.zk.trans (hk _ fun k e => .inr (.inl e)), hr.pl, hr.dj⟩, Z3, S3.self, k0g h3⟩
  |exit id => exact hq
  |goto t => exact hq
  |ret => exact hq
  |panic ch => exact hq
  |outgrown => exact hq
 ·rintro l pre x ZP a' W τ hτ hx ⟨hr, Z2, h3, h4⟩ hb hl hrec
  obtain ⟨t0, t1, v0, v1, rfl, rfl, hx0, hx1⟩ := hl2 hτ hx
  refine wpIn_mono ((hbody pre.length t0 t1 hτ l _ _ W _ h3 hrec).sq a' W (k0g h4)) ?_
  rintro e a2 W' ⟨rfl, Z3, S3⟩
  obtain ⟨q1, q2, q3⟩ := hr.back Y htl hW0 hbl (hbo hb) S3
  exact ⟨rfl, q3, q2, q1⟩
 ·rintro D xs ZP W rfl hR hi hD
  have hDl := (Array.getElem?_eq_some_iff.1 hD).1
  obtain ⟨preO, ZPO, hi⟩ := hi
  have hn : mOf xs.length = mOf τa.length := by rw [hR.len]
  have S2 : SL τs J (fun k => K k ∨ k = w1.heap.size) Zt W0 (mOf τa.length) W Z1 := ⟨preO, ZPO, hi.j, hi.z, fun k e => e.elim (hi.k k) (fun e => by rw [e]; exact hi.b _ (.inl rfl) hDl), fun k e => (hi.t k e).imp .inl id, hi.tl, hi.tk, by rw [← hn]; exact hi.ok⟩
  refine hdone w1.heap.size W Z1 S2 hD _ W ⟨Z1, ν, ?_⟩
  exact h1.shift (by show _ :: a.defers = _; rw [had]; rfl) h1.tsize (fun _ _ q => by cases q) (fun _ _ q => by cases q) ⟨rfl, rfl, rfl, Nat.le_refl _, fun _ hk => hk, fun _ _ => rfl, h1.base.zok.next (fun _ q => q) hi.zk.2.2.2.1 (fun k q hl => hi.zk.2.2.2.2 k q hl) (fun k q => Nat.lt_of_lt_of_le (hzw k q) hi.zk.2.2.2.1), fun _ hk => hk, fun _ hk => .inl hk⟩
   (AV.ok_mono (fun _ q => q) hi.zk.2.2.2.1 (fun k q hl => hi.zk.2.2.2.2 k q hl)) (fun r hr => absurd rfl hr) (fun _ _ => rfl)
theorem Q0Q {g : Operand} {p q : Tmp} {assign body : Code} {gf : FuncId} {lb : Array Value} {τa : List (List AV)} {mOf : Nat → Nat} {X Z1 : j0q} {w1 : World} {a : Act} {ν : j0N} {r0 : Loop} (hl1 : w1.heap[l0]? = some (.loop r0))
  (Y : YL P τs l J) (S1 : SL τs J K Zt W0 (mOf 0) w1 Z1) (h1 : SatZ (w0i N (some l0) w1 Z1) Z1 ν TL [] a w1) (hX : ∀ k, X k → K k ∧ ¬ Zt k) (hgv : a.eval g = .func (.func gf) #[] lb) (eg : Enters P gf) (hseq : V1A P gf lb τa Z1 X w1) (TX : Nat → Tab)
  (hTp : look TL p = none) (hTq : look TL q = none) (hpq : Nat.beq p q = false) (hpN : Nat.blt p N = true) (hqN : Nat.blt q N = true) (h2 : ∀ τ ∈ τa, ∃ t0 t1, τ = [t0, t1])
  (hass : ∀ i t0 t1, τa[i]? = some [t0, t1] → ∀ l' K' Zt' W Z', SL τs J K' Zt' W (mOf i) W Z' → CQ P (w0i N (some l') W Z') (Exit.then (fun a w => w1s τs J K' Zt' W N (some l') (mOf i) (TX i) a w) (fun _ _ _ => False)) ((p, .av t0) :: (q, .av t1) :: TL) [] assign)
  (hbody : ∀ i t0 t1, τa[i]? = some [t0, t1] → ∀ l' K' Zt' W Z', SL τs J K' Zt' W (mOf i) W Z' → (∃ r, W.heap[l']? = some (.loop r)) → CQ P (w0i N (some l') W Z') (fun e _ w => e = .normal ∧ ∃ Z2, SL τs J K' Zt' W (mOf (i + 1)) w Z2) (TX i) [] body)
  (hdone : ∀ W Z2, SL τs J K Zt W0 (mOf τa.length) W Z2 → SQ (w0i N (some l0) W Z2) TL [] (Q .normal)) :
  (Code.rangeFunc g [p, q].toArray assign body).wpIn (Fence.wide.inRound l0) 0 P Q a w1 := by
 have hE := h1
 have hX' : ∀ k, X k → k < w1.heap.size ∧ ¬ Z1 k := fun k e => by
  obtain ⟨pre, ZP, j1, j2, j3, _⟩ := S1.ex
  exact ⟨Y.lt _ _ _ j1 k (.inr (j3 k (hX k e).1)), fun e' => Y.dj _ _ _ j1 k (j2 k e') (j3 k (hX k e).1)⟩
 have htl : ∀ k, Zt k → k < W0.heap.size := by obtain ⟨_, _, _, _, _, _, h5, _⟩ := S1.ex; exact h5
 have hW0 : W0.heap.size ≤ w1.heap.size := by obtain ⟨_, _, _, _, _, _, _, h6, _⟩ := S1.ex; exact h6.2.2.2.1
 have hzw : ∀ k, Z1 k → k < w1.heap.size := h1.base.zLt
 have hbl : ∀ k, rk w1 k → w1.heap.size ≤ k := fun k e => by cases e; exact Nat.le_refl _
 have hbo : ∀ {W : World}, V1w w1 W → ∀ k, rk w1 k → k < W.heap.size := fun hb k hk => by
  obtain ⟨o, ho, _⟩ := hb k hk
  exact (Array.getElem?_eq_some_iff.1 ho).1
 have hl2 : ∀ {ZP : Zone2} {W : World} {τ : List AV} {x : List Value} {i : Nat}, τa[i]? = some τ → okL ZP.1 W τ x → ∃ t0 t1 v0 v1, τ = [t0, t1] ∧ x = [v0, v1] ∧ AV.ok ZP.1 W t0 v0 ∧ AV.ok ZP.1 W t1 v1 := by
  intro ZP W τ x i hτ hx
  obtain ⟨t0, t1, rfl⟩ := h2 _ (List.mem_of_getElem? hτ)
  match x, hx with
  |[v0, v1], hx => exact ⟨t0, t1, v0, v1, rfl, rfl, hx.1, hx.2.1⟩
 refine X0K (P := P) (ps := [p, q]) hl1 hgv eg hseq hzw hX' (fun τ hτ => by obtain ⟨t0, t1, rfl⟩ := h2 τ hτ; rfl)
  (IYx τs J K Zt W0 mOf Z1 w1 (rk w1)) (fun s ZP ZP' A B hi hgr hsz => hi.grow Y hgr (fun k hk hl _ => by cases hk; omega) zO) ?_
  (fun s ZP A B r hi hr hgr hsz => hi.turn Y (by obtain ⟨_, _, hi⟩ := hi; exact hi.pl r hr) (fun _ _ hi => hi.p2 r hr) hgr (fun k hk => by cases hk; omega)) (IYx.start Y S1 hX hbl)
  (fun pre x ZP a' W => IR K Zt W0 Z1 w1 (rk w1) ZP W ∧ w1s τs J (Kb K (rk w1) ZP) (Ztb Zt Z1 (rk w1) ZP) W N none (mOf pre.length) (TX pre.length) a' W) ?_ ?_ ?_ ?_
 ·rintro s ZP A B row hi hgr hro
  cases row with
  |none => exact hi.grow Y ⟨hgr, fun _ q => q, fun _ q => q, fun _ q => .inl q, fun _ q => .inl q, by obtain ⟨_, _, hi⟩ := hi; exact fun k q1 q2 => Y.dj _ _ _ hi.j k (hi.p1 k q1) (hi.p2 k q2)⟩ (fun k _ hl q => by have := hi.lt Y k q; omega) (by obtain ⟨_, _, hi⟩ := hi; exact hi.tk.2.2.2.1)
  |some r =>
   obtain ⟨q1, q2⟩ := hro r rfl
   exact hi.turn Y (fun e => by have := htl r e; have := hbl r q1; omega) (fun _ _ hi => hi.b r q1 (hbo q2 r q1)) hgr (hbo q2)
 ·rintro s x ZP a' A l o' ⟨hr, Z2, h3, h4⟩ hl hb
  exact ⟨hr.put (grownBy_putObj' A l o') (hbl l hl) htl hW0 hzw, Z2, h3.turnS Y (.inr (.inl hl)) (grownBy_putObj' A l o'), v1o h4 (grownBy_putObj' A l o') (h3.not Y (.inr (.inl hl)))⟩
 ·rintro l pre x ZP W τ K' hτ hx hi hb hK
  obtain ⟨t0, t1, v0, v1, rfl, rfl, hx0, hx1⟩ := hl2 hτ hx
  obtain ⟨hr, S2⟩ := hi.opn Y (hbo hb) hzw
  have hlt : ∀ k, Z1 k ∨ ZP.1 k → k < W.heap.size := fun k e => e.elim (fun e => Nat.lt_of_lt_of_le (hzw k e) hr.zk.2.2.2.1) (hi.lt Y k)
  have hst := v1p (ro' := some l) (p := p) (q := q) hE (fun k e => Or.inl (b := ZP.1 k) e) hr.zk hlt (j0H hpN) (j0H hqN) (fun e => by rw [e, Nat.beq_refl] at hpq; cases hpq)
   (AV.ok_mono (fun _ e => .inr e) (Nat.le_refl _) (fun _ _ _ => rfl) t0 v0 hx0) (AV.ok_mono (fun _ e => .inr e) (Nat.le_refl _) (fun _ _ _ => rfl) t1 v1 hx1) hTp hTq
  rw [W0k]
  refine wpIn_mono ((hass pre.length t0 t1 hτ l _ _ W _ S2).sq _ W hst) ?_
  rintro e a' W' hq
  cases e with
  |normal =>
   obtain ⟨Z3, S3, h3⟩ := hq
   have hkp : keepZ (Ztb Zt Z1 (rk w1) ZP) W W' := by obtain ⟨_, _, _, _, _, _, _, h6, _⟩ := S3.ex; exact h6
   have hk : ∀ (X : j0q), (∀ k, X k → Ztb Zt Z1 (rk w1) ZP k) → keepZ X W W' := fun X q => ⟨hkp.1, hkp.2.1, hkp.2.2.1, hkp.2.2.2.1, fun k e hl => hkp.2.2.2.2 k (q k e) hl⟩
   exact hK a' W' (fun k e => hkp.2.2.2.2 k (.inr (.inr (.inr e))) (hbo hb k e)) (hk _ fun k e => .inr (.inr (.inl e))) ⟨⟨hr.tk.trans (hk _ fun k e => .inl e), hr.zk.trans (hk _ fun k e => .inr (.inl e)), hr.pl, hr.dj⟩, Z3, S3.self, k0g h3⟩
  |exit id => exact hq
  |goto t => exact hq
  |ret => exact hq
  |panic ch => exact hq
  |outgrown => exact hq
 ·rintro l pre x ZP a' W τ hτ hx ⟨hr, Z2, h3, h4⟩ hb hl hrec
  obtain ⟨t0, t1, v0, v1, rfl, rfl, hx0, hx1⟩ := hl2 hτ hx
  refine wpIn_mono ((hbody pre.length t0 t1 hτ l _ _ W _ h3 hrec).sq a' W (k0g h4)) ?_
  rintro e a2 W' ⟨rfl, Z3, S3⟩
  obtain ⟨q1, q2, q3⟩ := hr.back Y htl hW0 hbl (hbo hb) S3
  exact ⟨rfl, q3, q2, q1⟩
 ·rintro xs ZP W hR hi
  obtain ⟨preO, ZPO, hi⟩ := hi
  have hn : mOf xs.length = mOf τa.length := by rw [hR.len]
  have S2 : SL τs J K Zt W0 (mOf τa.length) W Z1 := ⟨preO, ZPO, hi.j, hi.z, hi.k, hi.t, hi.tl, hi.tk, by rw [← hn]; exact hi.ok⟩
  refine hdone W Z1 S2 a W ⟨Z1, ν, ?_⟩
  exact h1.shift h1.defers h1.tsize (fun _ _ q => by cases q) (fun _ _ q => by cases q) ⟨rfl, rfl, rfl, Nat.le_refl _, fun _ hk => hk, fun _ _ => rfl, h1.base.zok.next (fun _ q => q) hi.zk.2.2.2.1 (fun k q hl => hi.zk.2.2.2.2 k q hl) (fun k q => Nat.lt_of_lt_of_le (hzw k q) hi.zk.2.2.2.1), fun _ hk => hk, fun _ hk => .inl hk⟩
   (AV.ok_mono (fun _ q => q) hi.zk.2.2.2.1 (fun k q hl => hi.zk.2.2.2.2 k q hl)) (fun r hr => absurd rfl hr) (fun _ _ => rfl)
theorem k0J {g : Operand} {p q : Tmp} {assign body : Code} {gf : FuncId} {n : Nat} {cf : Nat → AV} {τa : List (List AV)} {mOf : Nat → Nat} (hl0 : ∃ r, w.heap[l0]? = some (.loop r))
  (Y : YL P τs l J) (S : SL τs J K Zt W0 (mOf 0) w Z) (hI : CtrL P gf ((List.range n).map cf) τa) (TX : Nat → Tab) (h0 : Ent T O TL []) (hg : TL.ev g = .av (.clo gf n cf))
  (hTp : look TL p = none) (hTq : look TL q = none) (hpq : Nat.beq p q = false) (hpN : Nat.blt p N = true) (hqN : Nat.blt q N = true) (h2 : ∀ τ ∈ τa, ∃ t0 t1, τ = [t0, t1])
  (hass : ∀ i t0 t1, τa[i]? = some [t0, t1] → ∀ l' K' Zt' W Z', SL τs J K' Zt' W (mOf i) W Z' → CQ P (w0i N (some l') W Z') (Exit.then (fun a w => w1s τs J K' Zt' W N (some l') (mOf i) (TX i) a w) (fun _ _ _ => False)) ((p, .av t0) :: (q, .av t1) :: TL) [] assign)
  (hbody : ∀ i t0 t1, τa[i]? = some [t0, t1] → ∀ l' K' Zt' W Z', SL τs J K' Zt' W (mOf i) W Z' → (∃ r, W.heap[l']? = some (.loop r)) → CQ P (w0i N (some l') W Z') (fun e _ w => e = .normal ∧ ∃ Z2, SL τs J K' Zt' W (mOf (i + 1)) w Z2) (TX i) [] body)
  (hdone : ∀ W Z2, SL τs J K Zt W0 (mOf τa.length) W Z2 → SQ (w0i N (some l0) W Z2) TL [] (Q .normal)) :
  CQ P (w0i N (some l0) w Z) Q T O (Code.rangeFunc g #[p, q] assign body) := by
 refine ⟨fun a w1 hsat => ?_⟩
 obtain ⟨Z1, ν, h1⟩ := h0 _ a w1 hsat
 have S1 := S.now Y h1
 obtain ⟨r0, hl0⟩ := hl0
 have hl1 : w1.heap[l0]? = some (.loop r0) := (h1.base.kept l0 (Array.getElem?_eq_some_iff.1 hl0).1).trans hl0
 have hgv := j0G h1 g
 rw [hg] at hgv
 obtain ⟨cs, hgv, hcl, hcs⟩ := hgv
 have hcaps : All2 (fun τ v => AV.ok Z1 w1 τ v) ((List.range n).map cf) cs := by
  rw [List.range_eq_range']
  exact J0i n 0 cf cs hcl (fun i hi => by rw [Nat.zero_add]; exact hcs i hi)
 show (Code.rangeFunc g [p, q].toArray assign body).wpIn (Fence.wide.inRound l0) 0 P Q a w1
 exact Q0Q hl1 Y S1 (J0Q h1) (fun _ q => q.elim) hgv hI.enters (hI.gives w1 Z1 cs h1.base.zok hcaps) TX hTp hTq hpq hpN hqN h2 hass hbody hdone
theorem V0V {TX : Tab} {m : Nat} (Y : YL P τs l J) {ro : Option Nat} (S : SL τs J K Zt W0 m w Z) (h : Ent T O TX []) :
  SQ (w0i N ro w Z) T O (Exit.then (fun a w => w1s τs J K Zt W0 N ro m TX a w) (fun _ _ _ => False) .normal) := fun a w' hs => by
 obtain ⟨Z1, ν, hz⟩ := h _ a w' hs
 exact ⟨Z1, S.now Y hz, Z1, ν, J0Q hz⟩
theorem W0a {m : Nat} (Y : YL P τs l J) {ro : Option Nat} (S : SL τs J K Zt W0 m w Z) :
  SQ (w0i N ro w Z) T O (fun _ w' => Exit.normal = .normal ∧ ∃ Z2, SL τs J K Zt W0 m w' Z2) := fun a w' hs => by
 obtain ⟨Z1, ν, hz⟩ := hs
 exact ⟨rfl, Z1, S.now Y hz⟩
end
end Go.Vc
end
namespace Go.Vc
open Go Go.RowKit
structure CR (E1 : Env) (w : World) (T : Tab) (O : Own) (a : Act) (ZP : Zone2) (W : World) (Z : j0q) (ν : j0N) : Prop where
 z1 : ∀ k, ZP.1 k → Z k
 z2 : ∀ k, bk w k → ¬ Z k
 n : ∀ k, ZP.2 k → ¬ Z k ∧ ¬ y0w O ν k ∧ w.heap.size ≤ k ∧ k < W.heap.size
 s : SatZ E1 Z ν T O a W
theorem CR.up {E1 : Env} {w : World} {T : Tab} {O : Own} {a : Act} {ZP ZP' : Zone2} {A B : World} {Z : j0q} {ν : j0N} (h : CR E1 w T O a ZP A Z ν) (hg : grow2 ZP ZP' A B) (hs : w.heap.size + 2 ≤ A.heap.size) (hE : E1.w0.heap.size ≤ w.heap.size) (hk : ∀ k, E1.keep k → k < E1.w0.heap.size) :
  CR E1 w T O a ZP' B (fun k => Z k ∨ ZP'.1 k) ν := by
 have hgr := hg.gr
 have hzn : ∀ k, ZP'.1 k → Z k ∨ A.heap.size ≤ k ∧ k < B.heap.size := fun k q => (hg.b1 k q).imp (h.z1 k) id
 have hsz := hgr.size
 refine ⟨fun k q => .inr q, fun k hk q => ?_, fun k q => ?_, ?_⟩
 ·rcases q with q | q
  ·exact h.z2 k hk q
  ·rcases hzn k q with q | q
   ·exact h.z2 k hk q
   ·rcases hk with rfl | rfl <;> omega
 ·rcases hg.b2 k q with q2 | q2
  ·obtain ⟨e1, e2, e3, e4⟩ := h.n k q2
   exact ⟨fun e => e.elim e1 (fun e => hg.dj k e q), e2, e3, by omega⟩
  ·refine ⟨fun e => e.elim (fun e => by have := h.s.base.zLt k e; omega) (fun e => hg.dj k e q), fun e => by have := (j0R h.s e).1; omega, by omega, q2.2⟩
 ·have h := h.s
  refine h.shift h.defers h.tsize h.cst h.pin ⟨hgr.os.trans h.base.os, hgr.tape.trans h.base.tape, hgr.output.trans h.base.output, Nat.le_trans h.base.size hgr.size, h.base.keepLt, fun k q => (hgr.block k (by have := hk k q; omega) (by simp)).trans (h.base.kept k q), h.base.zok.next (fun _ q => .inl q) hgr.size (fun k _ hl => hgr.block k hl (by simp)) (fun k q => ?_), fun k q => .inl (h.base.z0 k q), fun k q => ?_⟩ (AV.ok_mono (fun k q => .inl q) hgr.size (fun k _ hl => hgr.block k hl (by simp))) (fun r hr b hb => ?_) (fun _ _ => rfl)
  ·rcases q with q | q
   ·exact Nat.lt_of_lt_of_le (h.base.zLt k q) hgr.size
   ·rcases hzn k q with q | q
    ·exact Nat.lt_of_lt_of_le (h.base.zLt k q) hgr.size
    ·exact q.2
  ·rcases q with q | q
   ·exact h.base.zNew k q
   ·rcases hzn k q with q | q
    ·exact h.base.zNew k q
    ·exact .inr fun q' => by have := hk k q'; omega
  ·obtain ⟨e1, e2, e3⟩ := j0R h ⟨r, hr, hb⟩
   refine ⟨fun q => ?_, e3, hgr.block b e1 (by simp)⟩
   rcases q with q | q
   ·exact e2 q
   ·rcases hzn b q with q | q
    ·exact e2 q
    ·omega
theorem j1r {P : Program} {E : Env} {Q : Exit → Act → World → Prop} {T : Tab} {O : Own} {g : Operand} {p q : Tmp} {assign body : Code} {gf : FuncId} {n : Nat} {cf : Nat → AV} {τa : List (List AV)}
  (hro : E.round = none) (hm : E.marks = []) (hI : CtrL P gf ((List.range n).map cf) τa) (ws : List Nat) (TL : Tab) (OL : Nat → Own) (TX : Nat → Tab)
  (h0 : Ent T O TL (OL 0)) (hg : TL.ev g = .av (.clo gf n cf)) (hTL : TL.all (fun q => !K0k ws q.1) = true) (hp : K0k ws p = true) (hq : K0k ws q = true) (hpq : Nat.beq p q = false) (hpN : Nat.blt p E.N = true) (hqN : Nat.blt q E.N = true) (hplain : ∀ i, X0l (OL i) = true)
  (h2 : ∀ τ ∈ τa, ∃ t0 t1, τ = [t0, t1])
  (hass : ∀ i t0 t1, τa[i]? = some [t0, t1] → ∀ l a0 w0 Z0 keep, CQ P (Env.rnd E.N l ws a0 w0 Z0 keep) (Exit.then (fun a w => Sat (Env.rnd E.N l ws a0 w0 Z0 keep) (TX i ++ TL) (OL i) a w) (fun _ _ _ => False)) ((p, .av t0) :: (q, .av t1) :: TL) (OL i) assign)
  (hbody : ∀ i t0 t1, τa[i]? = some [t0, t1] → ∀ l a0 w0 Z0 keep, CQ P (Env.rnd E.N l ws a0 w0 Z0 keep) (fun e a w => e = .normal ∧ Sat (Env.rnd E.N l ws a0 w0 Z0 keep) TL (OL (i + 1)) a w) (TX i ++ TL) (OL i) body)
  (hdone : ∀ D w2 Z ν a, AfterOk E D w2 → SatZ (E.after D w2) Z ν TL (OL τa.length) a w2 → Q .normal a w2) :
  CQ P E Q T O (Code.rangeFunc g #[p, q] assign body) := by
 refine ⟨fun a w hsat => ?_⟩
 obtain ⟨Zw, ν0, hw⟩ := h0 E a w hsat
 rw [hro, show fc none = Fence.wide from rfl]
 refine (wpIn_wide (n := 0)).2 ((wpIn_wide (n := 2)).1 ?_)
 have hgv := j0G hw g
 rw [hg] at hgv
 obtain ⟨cs, hgv, hcl, hcs⟩ := hgv
 have hcaps : All2 (fun τ v => AV.ok Zw w τ v) ((List.range n).map cf) cs := by
  rw [List.range_eq_range']
  exact J0i n 0 cf cs hcl (fun i hi => by rw [Nat.zero_add]; exact hcs i hi)
 have htl : ∀ d, look TL d ≠ none → K0k ws d = false := fun d hd => by
  obtain ⟨s, hs⟩ := Option.ne_none_iff_exists'.1 hd
  have := List.all_eq_true.1 hTL _ (q0K hs)
  simpa using this
 obtain ⟨E1, hE1⟩ : ∃ E1, E1 = Env.lp E.N w Zw (fun k => k < w.heap.size ∧ ¬ y0w (OL 0) ν0 k) := ⟨_, rfl⟩
 have e1m : E1.marks = [] := by rw [hE1]; rfl
 have e1c : ∀ d, E1.cst d = none := fun d => by rw [hE1]; rfl
 have e1p : ∀ r, E1.pin r = none := fun d => by rw [hE1]; rfl
 have e1N : E1.N = E.N := by rw [hE1]; rfl
 have e1w : E1.w0 = w := by rw [hE1]; rfl
 have e1k : ∀ k, E1.keep k ↔ (k < w.heap.size ∧ ¬ y0w (OL 0) ν0 k) := fun k => by rw [hE1]; exact Iff.rfl
 have e1z : ∀ k, E1.Z0 k ↔ Zw k := fun k => by rw [hE1]; exact Iff.rfl
 have had : a.defers = [] := hw.defers.trans hm
 have hstart : SatZ E1 Zw ν0 TL (OL 0) a w := by
  rw [hE1]
  refine hw.shift had hw.tsize (fun d v q => by cases q) (fun r v q => by cases q) ⟨rfl, rfl, rfl, Nat.le_refl _, fun k hk => hk.1, fun _ _ => rfl, hw.base.zok, fun _ q => q, fun _ q => .inl q⟩ (fun _ _ q => q) (fun r hr b hb => ?_) (fun _ _ => rfl)
  exact ⟨(j0R hw ⟨r, hr, hb⟩).2.1, fun q => q.2 ⟨r, hr, hb⟩, rfl⟩
 have hnb : ∀ {k : Nat}, bk w k → ¬ E1.keep k := fun {k} hk q => by
  have := ((e1k k).1 q).1
  rcases hk with rfl | rfl <;> omega
 have hnO : ∀ {A : World} {ν : j0N} {Z : j0q} {T' : Tab} {O' : Own} {a' : Act} {k : Nat}, SatZ E1 Z ν T' O' a' A → X0l O' = true → Y0X w A → bk w k → ¬ y0w O' ν k := fun h hpl hb hk ho => by
  obtain ⟨ob, h1, h2⟩ := y0y h hpl ho
  obtain ⟨o, h3, h4⟩ := hb _ hk
  rw [h1] at h3; cases h3; rw [h2] at h4; cases h4
 have hkl : ∀ {A : World} {ν : j0N} {Z : j0q} {T' : Tab} {O' : Own} {a' : Act}, SatZ E1 Z ν T' O' a' A → ∀ k, E1.keep k → k < A.heap.size := fun h k q => Nat.lt_of_lt_of_le ((e1k k).1 q).1 (by have := h.base.size; rwa [e1w] at this)
 have hbo : ∀ {W : World}, Y0X w W → ∀ k, bk w k → k < W.heap.size := fun hb k hk => by
  obtain ⟨o, ho, _⟩ := hb k hk
  exact (Array.getElem?_eq_some_iff.1 ho).1
 have hl2 : ∀ {ZP : Zone2} {W : World} {τ : List AV} {x : List Value} {i : Nat}, τa[i]? = some τ → okL ZP.1 W τ x → ∃ t0 t1 v0 v1, τ = [t0, t1] ∧ x = [v0, v1] ∧ AV.ok ZP.1 W t0 v0 ∧ AV.ok ZP.1 W t1 v1 := by
  intro ZP W τ x i hτ hx
  obtain ⟨t0, t1, rfl⟩ := h2 _ (List.mem_of_getElem? hτ)
  match x, hx with
  |[v0, v1], hx => exact ⟨t0, t1, v0, v1, rfl, rfl, hx.1, hx.2.1⟩
 refine Q0d (P := P) (ps := [p, q]) hgv hI.enters (hI.gives w Zw cs hw.base.zok hcaps) hw.base.zLt (fun _ q => q.elim) (fun τ hτ => by obtain ⟨t0, t1, rfl⟩ := h2 τ hτ; rfl)
  (fun pre ZP W => ∃ Z ν, CR E1 w TL (OL pre.length) a ZP W Z ν) ?_ ?_ ?_ ⟨Zw, ν0, fun _ q => q, fun k hk q => by have := hw.base.zLt k q; rcases hk with rfl | rfl <;> omega, fun _ q => q.elim, hstart⟩
  (fun pre x ZP a' W => ∃ Z ν, CR E1 w (TX pre.length ++ TL) (OL pre.length) a' ZP W Z ν ∧ ∀ d, K0k ws d = false → a'.tmps.getD d undef = a.tmps.getD d undef) ?_ ?_ ?_ ?_
 ·rintro s ZP ZP' A B ⟨Z, ν, h⟩ hg hl
  exact ⟨_, ν, h.up hg hl (by rw [e1w]; exact Nat.le_refl _) (fun k q => by rw [e1w]; exact ((e1k k).1 q).1)⟩
 ·rintro s ZP A B row ⟨Z, ν, h⟩ hg hr
  refine ⟨Z, ν, h.z1, h.z2, fun k q => let ⟨q1, q2, q3, q4⟩ := h.n k q; ⟨q1, q2, q3, Nat.lt_of_lt_of_le q4 hg.size⟩, h.s.aside hg (fun r e => ?_) (hkl h.s)⟩
  obtain ⟨q1, q2⟩ := hr r e
  exact ⟨h.z2 r q1, hnO h.s (hplain _) q2 q1, hnb q1⟩
 ·rintro s ZP A B r ⟨Z, ν, h⟩ hr hg hsz
  obtain ⟨n1, n2, n3, n4⟩ := h.n r hr
  exact ⟨Z, ν, h.z1, h.z2, fun k q => let ⟨q1, q2, q3, q4⟩ := h.n k q; ⟨q1, q2, q3, Nat.lt_of_lt_of_le q4 hg.size⟩, h.s.aside hg (fun r' e => by cases e; exact ⟨n1, n2, fun e => by have := ((e1k r).1 e).1; omega⟩) (hkl h.s)⟩
 ·rintro s x ZP a' A l o' ⟨Z, ν, h, h3⟩ hl hb
  exact ⟨Z, ν, ⟨h.z1, h.z2, fun k q => let ⟨q1, q2, q3, q4⟩ := h.n k q; ⟨q1, q2, q3, by simpa [World.putObj] using q4⟩, h.s.aside (grownBy_putObj' A l o') (fun r e => by cases e; exact ⟨h.z2 l hl, hnO h.s (hplain _) hb hl, hnb hl⟩) (hkl h.s)⟩, h3⟩
 ·rintro l pre x ZP W τ K hτ hx ⟨Z, ν, h⟩ hb hK
  obtain ⟨t0, t1, v0, v1, rfl, rfl, hx0, hx1⟩ := hl2 hτ hx
  have h1 := h.s
  have hpl : p < a.tmps.size := by rw [hw.tsize]; exact j0H hpN
  have hql : q < a.tmps.size := by rw [hw.tsize]; exact j0H hqN
  have hne : p ≠ q := fun e => by rw [e, Nat.beq_refl] at hpq; cases hpq
  have hoth : ∀ d, p ≠ d → q ≠ d → ((a.tmps.setIfInBounds p v0).setIfInBounds q v1).getD d undef = a.tmps.getD d undef := fun d e1 e2 => by
   rw [j0Y _ _ _ _ e2, j0Y _ _ _ _ e1]
  have hst : SatZ (Env.rnd E.N l ws a W Z (fun k => k < W.heap.size ∧ ¬ y0w (OL pre.length) ν k)) Z ν ((p, .av t0) :: (q, .av t1) :: TL) (OL pre.length) { tmps := (a.tmps.setIfInBounds p v0).setIfInBounds q v1, defers := [] } W := by
   have h2 : SatZ (Env.rnd E.N l ws a W Z (fun k => k < W.heap.size ∧ ¬ y0w (OL pre.length) ν k)) Z ν TL (OL pre.length) { tmps := (a.tmps.setIfInBounds p v0).setIfInBounds q v1, defers := [] } W := by
    refine h1.shift rfl (by simp [Env.rnd, hw.tsize]) (fun d v hd => ?_) (fun r v q => by cases q) ⟨rfl, rfl, rfl, Nat.le_refl _, fun k hk => hk.1, fun _ _ => rfl, h1.base.zok, fun _ q => q, fun _ q => .inl q⟩ (fun _ _ q => q) (fun r hr b hb => ?_) (fun d hd => hoth d (y0W hp (htl d hd)) (y0W hq (htl d hd)))
    ·change snap ws a d = some v at hd
     unfold snap at hd
     split at hd
     ·cases hd
     ·rename_i hmb
      cases hd
      exact hoth d (y0W hp hmb) (y0W hq hmb)
    ·exact ⟨(j0R h1 ⟨r, hr, hb⟩).2.1, fun q => q.2 ⟨r, hr, hb⟩, rfl⟩
   refine ⟨h2.defers, h2.tsize, h2.cst, h2.pin, h2.base, h2.own, fun d => ?_⟩
   by_cases hd : p = d
   ·subst hd
    rw [Tab.get_cons_eq]
    show AV.ok Z W t0 (((a.tmps.setIfInBounds p v0).setIfInBounds q v1).getD p undef)
    rw [j0Y _ _ _ _ (fun e => hne e.symm)]
    have : (a.tmps.setIfInBounds p v0).getD p undef = v0 := by simp [Array.getD_eq_getD_getElem?, hpl]
    rw [this]
    exact AV.ok_mono h.z1 (Nat.le_refl _) (fun _ _ _ => rfl) _ _ hx0
   ·rw [Tab.get_cons_ne _ _ hd]
    by_cases hd2 : q = d
    ·subst hd2
     rw [Tab.get_cons_eq]
     show AV.ok Z W t1 (((a.tmps.setIfInBounds p v0).setIfInBounds q v1).getD q undef)
     have : ((a.tmps.setIfInBounds p v0).setIfInBounds q v1).getD q undef = v1 := by simp [Array.getD_eq_getD_getElem?, hql]
     rw [this]
     exact AV.ok_mono h.z1 (Nat.le_refl _) (fun _ _ _ => rfl) _ _ hx1
    ·rw [Tab.get_cons_ne _ _ hd2]
     exact h2.slot d
  rw [W0k]
  refine wpIn_mono ((hass pre.length t0 t1 hτ l a W Z _).sq _ W ⟨Z, ν, hst⟩) ?_
  rintro e a' W' hq
  cases e with
  |normal =>
   obtain ⟨Z', ν', h2⟩ := hq
   have hkeep : ∀ k, (Z k ∨ bk w k ∨ ZP.2 k) → k < W.heap.size → W'.heap[k]? = W.heap[k]? := fun k q hl => h2.base.kept k ⟨hl, fun ho => q.elim (j0R h1 ho).2.1 (fun q => q.elim (fun q => hnO h1 (hplain _) hb q ho) (fun q => (h.n k q).2.1 ho))⟩
   have hcast : ∀ k, ZP.2 k → k < W.heap.size ∧ ¬ y0w (OL pre.length) ν k := fun k q => ⟨(h.n k q).2.2.2, (h.n k q).2.1⟩
   refine hK a' W' (fun k hk => hkeep k (.inr (.inl hk)) (hbo hb k hk)) ⟨h2.base.os, h2.base.tape, h2.base.output, h2.base.size, fun k hk hl => hkeep k (hk.elim (fun q => .inl (h.z1 k q)) (fun q => .inr (.inr q))) hl⟩ ⟨Z', ν', ⟨fun k hk => h2.base.z0 k (h.z1 k hk), fun k hk q => ?_, fun k q => ⟨fun e => ?_, fun e => (j0R h2 e).2.2 (hcast k q), (h.n k q).2.2.1, Nat.lt_of_lt_of_le (h.n k q).2.2.2 h2.base.size⟩, h1.leave e1m e1c e1p e1N h2⟩, fun d hd => h2.cst d _ (by show snap ws a d = _; unfold snap; rw [hd])⟩
   ·rcases h2.base.zNew k q with q | q
    ·exact h.z2 k hk q
    ·exact q ⟨hbo hb k hk, hnO h1 (hplain _) hb hk⟩
   ·rcases h2.base.zNew k e with e | e
    ·exact (h.n k q).1 e
    ·exact e (hcast k q)
  |exit id => exact hq
  |goto t => exact hq
  |ret => exact hq
  |panic ch => exact hq
  |outgrown => exact hq
 ·rintro l pre x ZP a' W τ hτ hx ⟨Z, ν, h, h3⟩ hb hl hrec
  obtain ⟨t0, t1, v0, v1, rfl, rfl, hx0, hx1⟩ := hl2 hτ hx
  have h1 := h.s
  have hst : SatZ (Env.rnd E.N l ws a W Z (fun k => k < W.heap.size ∧ ¬ y0w (OL pre.length) ν k)) Z ν (TX pre.length ++ TL) (OL pre.length) a' W := by
   refine h1.shift (h1.defers.trans e1m) (h1.tsize.trans e1N) (fun d v hd => ?_) (fun r v q => by cases q) ⟨rfl, rfl, rfl, Nat.le_refl _, fun k hk => hk.1, fun _ _ => rfl, h1.base.zok, fun _ q => q, fun _ q => .inl q⟩ (fun _ _ q => q) (fun r hr b hb => ?_) (fun _ _ => rfl)
   ·change snap ws a d = some v at hd
    unfold snap at hd
    split at hd
    ·cases hd
    ·rename_i hmb
     cases hd
     exact h3 d hmb
   ·exact ⟨(j0R h1 ⟨r, hr, hb⟩).2.1, fun q => q.2 ⟨r, hr, hb⟩, rfl⟩
  refine wpIn_mono ((hbody pre.length t0 t1 hτ l a W Z _).sq a' W ⟨Z, ν, hst⟩) ?_
  rintro e a2 W' ⟨rfl, Z', ν', h2⟩
  have hkeep : ∀ k, (Z k ∨ bk w k ∨ ZP.2 k) → k < W.heap.size → W'.heap[k]? = W.heap[k]? := fun k q hl => h2.base.kept k ⟨hl, fun ho => q.elim (j0R h1 ho).2.1 (fun q => q.elim (fun q => hnO h1 (hplain _) hb q ho) (fun q => (h.n k q).2.1 ho))⟩
  have hcast : ∀ k, ZP.2 k → k < W.heap.size ∧ ¬ y0w (OL pre.length) ν k := fun k q => ⟨(h.n k q).2.2.2, (h.n k q).2.1⟩
  have hlen : (pre ++ [[v0, v1]]).length = pre.length + 1 := by simp
  refine ⟨rfl, fun k hk => hkeep k (.inr (.inl hk)) (hbo hb k hk), ⟨h2.base.os, h2.base.tape, h2.base.output, h2.base.size, fun k hk hl => hkeep k (hk.elim (fun q => .inl (h.z1 k q)) (fun q => .inr (.inr q))) hl⟩, Z', ν', ?_⟩
  rw [hlen]
  refine ⟨fun k hk => h2.base.z0 k (h.z1 k hk), fun k hk q => ?_, fun k q => ⟨fun e => ?_, fun e => (j0R h2 e).2.2 (hcast k q), (h.n k q).2.2.1, Nat.lt_of_lt_of_le (h.n k q).2.2.2 h2.base.size⟩, ?_⟩
  ·rcases h2.base.zNew k q with q | q
   ·exact h.z2 k hk q
   ·exact q ⟨hbo hb k hk, hnO h1 (hplain _) hb hk⟩
  ·rcases h2.base.zNew k e with e | e
   ·exact (h.n k q).1 e
   ·exact e (hcast k q)
  ·have h4 := h1.leave e1m e1c e1p e1N h2
   refine h4.shift (had.trans e1m.symm) (hw.tsize.trans e1N.symm) (fun d v q => by rw [e1c] at q; cases q) (fun r v q => by rw [e1p] at q; cases q) h4.base (fun _ _ q => q) (fun r hr b hb => ?_) (fun d hd => ?_)
   ·obtain ⟨q1, q2, q3⟩ := j0R h4 ⟨r, hr, hb⟩
    exact ⟨q2, q3, rfl⟩
   ·exact (h2.cst d _ (by show snap ws a d = _; unfold snap; rw [htl d hd])).symm
 ·rintro D xs ZP W hDe hR ⟨Z, ν, hC⟩ hh
  have hn : xs.length = τa.length := hR.len.symm
  rw [hn] at hC
  have h := hC.s
  have hD : w.heap.size ≤ D := by omega
  have hZD : ¬ Z D := hC.z2 D (.inl hDe)
  have hDl := (Array.getElem?_eq_some_iff.1 hh).1
  have hzd : ¬ E.Z0 D := fun q => by have := hw.base.zLt D (hw.base.z0 D q); omega
  have hnoD : ∀ k, y0w (OL τa.length) ν k → k ≠ D := fun k hk e => by
   subst e
   obtain ⟨ob, q1, q2⟩ := y0y h (hplain _) hk
   rw [hh] at q1; cases q1; cases q2
  have hEk : ∀ k, E.keep k → E1.keep k := fun k hk => (e1k k).2 ⟨Nat.lt_of_lt_of_le (hw.base.keepLt k hk) hw.base.size, fun ho => (j0R hw ho).2.2 hk⟩
  have hbase : Base E Z W := ⟨h.base.os.trans (by rw [e1w]; exact hw.base.os), h.base.tape.trans (by rw [e1w]; exact hw.base.tape), h.base.output.trans (by rw [e1w]; exact hw.base.output), Nat.le_trans hw.base.size (by have := h.base.size; rwa [e1w] at this), hw.base.keepLt, fun k hk => (h.base.kept k (hEk k hk)).trans (by rw [e1w]; exact hw.base.kept k hk), h.base.zok, fun k hk => h.base.z0 k ((e1z k).2 (hw.base.z0 k hk)), fun k hk => by
   rcases h.base.zNew k hk with q | q
   ·exact hw.base.zNew k ((e1z k).1 q)
   ·exact .inr fun q' => q (hEk k q')⟩
  refine hdone D W Z ν _ ⟨⟨Z, hbase⟩, Nat.le_trans hw.base.size hD, hzd, hh⟩ ?_
  refine h.shift (by show _ :: a.defers = _; rw [had]; rfl) hw.tsize (fun d v q => by cases q) (fun r v q => by cases q) ⟨rfl, rfl, rfl, Nat.le_refl _, fun k hk => ?_, fun _ _ => rfl, h.base.zok, hbase.z0, fun k hk => ?_⟩ (fun _ _ q => q) (fun r hr b hb => ?_) (fun _ _ => rfl)
  ·rcases hk with hk | rfl
   ·exact Nat.lt_of_lt_of_le (hbase.keepLt k hk) hbase.size
   ·exact hDl
  ·rcases hbase.zNew k hk with q | q
   ·exact .inl q
   ·exact .inr fun q' => q'.elim q (fun e => hZD (e ▸ hk))
  ·obtain ⟨q1, q2, q3⟩ := j0R h ⟨r, hr, hb⟩
   refine ⟨q2, fun q => ?_, rfl⟩
   rcases q with q | q
   ·exact q3 (hEk b q)
   ·exact hnoD b ⟨r, hr, hb⟩ q
end Go.Vc
section
namespace Go.Vc
open Go Go.RowKit
structure CtrLX (P : Program) (gf : FuncId) (caps : List AV) (n : Nat) (f : Nat → AV) (τs : List (List AV)) : Prop where
 enters : Enters P gf
 gives : ∀ (w : World) (Z : j0q) (cs : List Value) (b : Nat) (arr : Array Value) (ty : TypeId), ZOk Z w → All2 (fun τ v => AV.ok Z w τ v) caps cs → ¬ Z b → w.heap[b]? = some (.cells arr ty (0, 0)) → arr.size = n →
  (∀ i, i < n → ∃ u, arr[i]? = some u ∧ (f i).ok Z w u) → V1A P gf (cs ++ [Value.pointer (some ⟨b, 0, none⟩)]).toArray τs Z (fun k => k = b) w
abbrev OX (cs : List SV) : Own := [(1000, .cells cs)]
section
variable {P : Program} {τs : List (List AV)} {l : Nat} {J : List (List Value) → Zone2 → World → Prop} {K Zt Z : j0q} {W0 w : World} {N : Nat} {T : Tab} {O : Own} {Q : Exit → Act → World → Prop}
theorem SL.nowX (Y : YL P τs l J) {m : Nat} (S : SL τs J K Zt W0 m w Z) {w1 : World} {Z1 X : j0q} (hg : w.grownBy w1 none) (hn : ∀ k, Z1 k → Z k ∨ w.heap.size ≤ k) (hl : ∀ k, Z1 k → k < w1.heap.size) (hX : ∀ k, X k → w.heap.size ≤ k ∧ k < w1.heap.size ∧ ¬ Z1 k) : SL τs J (fun k => K k ∨ X k) Zt W0 m w1 Z1 := by
 obtain ⟨pre, ZP, h1, h2, h3, h4, h5, h6, h7⟩ := S.ex
 have hlt := Y.lt _ _ _ h1
 refine ⟨pre, (fun k => ZP.1 k ∨ Z1 k, fun k => ZP.2 k ∨ X k), Y.grow _ _ _ _ _ h1 ⟨hg, fun k q => .inl q, fun k q => .inl q, fun k q => ?_, fun k q => ?_, fun k q1 q2 => ?_⟩, fun k hk => .inr hk, fun k q => q.imp (h3 k) id, fun k q => (h4 k q).elim (fun q => .inl (.inl q)) (fun q => .inr (.inl q)), h5, ?_, h7.mono fun τ _ v hv => okL.mono (fun k q => .inl q) hg.size (fun k _ hl => hg.block k hl (by simp)) hv⟩
 ·rcases q with q | q
  ·exact .inl q
  ·rcases hn k q with q' | q'
   ·exact .inl (h2 k q')
   ·exact .inr ⟨q', hl k q⟩
 ·rcases q with q | q
  ·exact .inl q
  ·exact .inr ⟨(hX k q).1, (hX k q).2.1⟩
 ·rcases q1 with q1 | q1 <;> rcases q2 with q2 | q2
  ·exact Y.dj _ _ _ h1 k q1 q2
  ·have := hlt k (.inl q1); have := (hX k q2).1; omega
  ·rcases hn k q1 with q' | q'
   ·exact Y.dj _ _ _ h1 k (h2 k q') q2
   ·have := hlt k (.inr q2); omega
  ·exact (hX k q2).2.2 q1
 ·exact h6.trans ⟨hg.os, hg.tape, hg.output, hg.size, fun k q hl => hg.block k hl (by simp)⟩
theorem SL.less {K' : j0q} {m : Nat} (S : SL τs J K' Zt W0 m w Z) (hK : ∀ k, K k → K' k) (ht : ∀ k, K' k → Zt k → K k) : SL τs J K Zt W0 m w Z := by
 obtain ⟨pre, ZP, h1, h2, h3, h4, h5, h6, h7⟩ := S.ex
 exact ⟨pre, ZP, h1, h2, fun k q => h3 k (hK k q), fun k q => (h4 k q).imp (fun e => ht k e q) id, h5, h6, h7⟩
theorem SL.afterX (Y : YL P τs l J) {m b : Nat} (S : SL τs J K Zt W0 m w Z) (hK : K b) (hb : ¬ Zt b) (hbl : b < w.heap.size) {w1 : World} {Z1 : j0q} (hg : w.grownBy w1 (some b)) (hn : ∀ k, Z1 k → Z k ∨ w.heap.size ≤ k) (hl : ∀ k, Z1 k → k < w1.heap.size) : SL τs J K Zt W0 m w1 Z1 := by
 obtain ⟨ob, hob⟩ : ∃ ob, w.heap[b]? = some ob := ⟨_, Array.getElem?_eq_getElem hbl⟩
 have hsz := hg.size
 have g1 : w.grownBy (w1.putObj b ob) none := ⟨hg.os, hg.tape, hg.output, by simpa [World.putObj] using hsz, fun k hk _ => by
  by_cases e : k = b
  ·subst e
   rw [World.putObj_heap_same (by omega)]; exact hob.symm
  ·rw [World.putObj_heap_other e]; exact hg.block k hk (by simpa using e)⟩
 have g2 : (w1.putObj b ob).grownBy w1 (some b) := ⟨rfl, rfl, rfl, by simp [World.putObj], fun k hk e => (World.putObj_heap_other (by simpa using e)).symm⟩
 have S1 := S.nowB Y g1 hn (by simpa [World.putObj] using hl)
 obtain ⟨pre, ZP, h1, h2, h3, h4, h5, h6, h7⟩ := S1.ex
 exact ⟨pre, ZP, Y.turn _ _ _ _ b h1 (h3 b hK) g2, h2, h3, h4, h5, h6.trans (keepZ.row g2 fun k e q => by cases e; exact hb q), h7.mono fun τ _ v hv => okL.mono (fun _ q => q) g2.size (fun k q hl => g2.block k hl (fun e => by cases e; exact Y.dj _ _ _ h1 b q (h3 b hK))) hv⟩
theorem K0i (Y : YL P τs l J) {m b : Nat} {cs : List SV} {ν0 : j0N} (hν : ν0 1000 = .pointer (some ⟨b, 0, none⟩)) (S : SL τs J K Zt W0 m w Z) (hK : K b) (hb : ¬ Zt b) (hbl : b < w.heap.size) (hO : look O 1000 ≠ none) {ops : Array Oper} {l' : List Oper}
  (h : ∀ w' Z', SL τs J K Zt W0 m w' Z' → LSQ P (w0i N none w' Z') ops Q l' T []) : LSQ P (Q0e N w Z (OX cs) ν0) ops Q l' T O := by
 have hown : ∀ k, y0w (OX cs) ν0 k → k = b := fun k ⟨r, h1, h2⟩ => by
  by_cases e : r = 1000
  ·subst e; rw [hν] at h2; simpa [j0C] using h2.symm
  ·exact absurd (j0d (k := 1000) (d := r) (Res.cells cs) [] (fun q => e q.symm)) (fun q => h1 (by rw [show OX cs = (1000, Res.cells cs) :: [] from rfl, q]; rfl))
 refine ⟨fun a w1 hsat => ?_⟩
 obtain ⟨Z1, ν, hs⟩ := hsat
 have K0M : ν 1000 = .pointer (some ⟨b, 0, none⟩) := (hs.pin 1000 (ν0 1000) rfl).trans hν
 have hbz : ¬ Z1 b := (j0R hs ⟨1000, hO, by rw [K0M]; rfl⟩).2.1
 have hg : w.grownBy w1 (some b) := ⟨hs.base.os, hs.base.tape, hs.base.output, hs.base.size, fun k hk e => hs.base.kept k ⟨hk, fun q => e (by rw [hown k q])⟩⟩
 have hn : ∀ k, Z1 k → Z k ∨ w.heap.size ≤ k := fun k hk => by
  rcases hs.base.zNew k hk with q | q
  ·exact .inl q
  ·exact .inr (Nat.le_of_not_lt fun q' => q ⟨q', fun e => hbz (by rw [← hown k e]; exact hk)⟩)
 exact (h w1 Z1 (S.afterX Y hK hb hbl hg hn hs.base.zLt)).sq a w1 ⟨Z1, ν, hs.defers, hs.tsize, (fun _ _ q => by cases q), (fun _ _ q => by cases q), ⟨rfl, rfl, rfl, Nat.le_refl _, fun _ hk => hk, fun _ _ => rfl, hs.base.zok, fun _ hk => hk, fun _ hk => .inl hk⟩, ⟨fun r x hx => by simp [look] at hx, fun r r' _ h1 => by simp [look] at h1⟩, hs.slot⟩
end
theorem Y1C {P : Program} {gf : FuncId} {fn : Func} {c : Code} {caps : List AV} {n : Nat} {f : Nat → AV} {τs : List (List AV)} (N : Nat) (hf : P.funcs[gf]? = some fn) (hb : fn.body = some c) (hname : (fn.name == "runtime.NumGoroutine") = false) (hN : fn.ntmps = N) (hlen' : Nat.ble (caps.length + 2) N = true)
  (h : ∀ l J, YL P τs l J → ∀ w Z b (ν : j0N), ν 1000 = .pointer (some ⟨b, 0, none⟩) → b < w.heap.size → SL τs J (fun k => k = b) (fun _ => False) w 0 w Z →
   CQ P (Q0e N w Z (OX ((List.range n).map fun i => .av (f i))) ν) (bodyPost P fn (RL τs J)) (x0a 0 ((AV.val (.func (.yield l) #[] #[]) :: caps).map SV.av ++ [.own 1000 0])) (OX ((List.range n).map fun i => .av (f i))) c) : CtrLX P gf caps n f τs := by
 refine ⟨w0X hf hb hname, fun w Z cs b arr ty hZ hcs hbz hob has hfa => ?_⟩
 intro l J W hBl hJ hT hD hY h0
 have hbl : b < w.heap.size := (Array.getElem?_eq_some_iff.1 hob).1
 have hbW : W.heap[b]? = some (.cells arr ty (0, 0)) := (hBl.block b hbl).trans hob
 have hZW : ZOk Z W := hZ.next (fun _ q => q) hBl.size (fun k _ hl => hBl.block k hl) (fun k hk => Nat.lt_of_lt_of_le (hZ.1 k hk) hBl.size)
 have hmono : ∀ (τ : AV) v, AV.ok Z w τ v → AV.ok Z W τ v := AV.ok_mono (fun _ q => q) hBl.size (fun k hk _ => hBl.block k (hZ.1 k hk))
 obtain ⟨ν, hν⟩ : ∃ ν : j0N, ν = fun _ => .pointer (some ⟨b, 0, none⟩) := ⟨_, rfl⟩
 have hν0 : ν 1000 = .pointer (some ⟨b, 0, none⟩) := by rw [hν]
 obtain ⟨O0, hO0⟩ : ∃ O0, O0 = OX ((List.range n).map fun i => .av (f i)) := ⟨_, rfl⟩
 have hlook : ∀ r x, look O0 r = some x → r = 1000 ∧ x = .cells ((List.range n).map fun i => .av (f i)) := fun r x hx => by
  rw [hO0] at hx
  by_cases e : (1000 : Nat) = r
  ·subst e; rw [j0l] at hx; cases hx; exact ⟨rfl, rfl⟩
  ·rw [j0d _ _ e] at hx; simp [look] at hx
 have hownb : ∀ k, y0w O0 ν k → k = b := fun k ⟨r, h1, h2⟩ => by rw [hν] at h2; simpa [j0C] using h2.symm
 have hvs : All2 (fun (s : SV) v => SV.ok Z ν W s v) ((AV.val (.func (.yield l) #[] #[]) :: caps).map SV.av ++ [.own 1000 0]) (Value.func (.yield l) #[] #[] :: (cs ++ [.pointer (some ⟨b, 0, none⟩)])) := by
  have key : ∀ (ts : List AV) (us : List Value), All2 (fun τ v => AV.ok Z w τ v) ts us → All2 (fun (s : SV) v => SV.ok Z ν W s v) (ts.map SV.av ++ [.own 1000 0]) (us ++ [.pointer (some ⟨b, 0, none⟩)]) := by
   intro ts
   induction ts with
   |nil => intro us hu; match us, hu with | [], _ => exact ⟨⟨b, hν0, rfl⟩, trivial⟩
   |cons t ts ih => intro us hu; match us, hu with | u :: us, hu => exact ⟨hmono t u hu.1, ih us hu.2⟩
  exact ⟨rfl, key caps cs hcs⟩
 have hlen : caps.length + 2 ≤ N := Nat.le_of_ble_eq_true hlen'
 have hl := hvs.len
 simp only [List.length_append, List.length_map, List.length_cons, List.length_nil] at hl
 have hsat : Sat (Q0e N W Z O0 ν) (x0a 0 ((AV.val (.func (.yield l) #[] #[]) :: caps).map SV.av ++ [.own 1000 0])) O0 { tmps := (Value.func (.yield l) #[] #[] :: (cs ++ [.pointer (some ⟨b, 0, none⟩)])).toArray ++ Array.replicate (fn.ntmps - (Value.func (.yield l) #[] #[] :: (cs ++ [Value.pointer (some ⟨b, 0, none⟩)])).toArray.size) undef, defers := [] } W := by
  refine ⟨Z, ν, rfl, ?_, (fun _ _ h => by cases h), (fun r v hr => ?_), ⟨rfl, rfl, rfl, Nat.le_refl _, fun k hk => hk.1, fun _ _ => rfl, hZW, fun _ hk => hk, fun _ hk => .inl hk⟩, ⟨fun r x hx => ?_, fun r r' hne h1 h2 => ?_⟩, fun d => ?_⟩
  ·simp only [Array.size_append, List.size_toArray, Array.size_replicate, hN, Q0e, List.length_cons, List.length_append, List.length_nil]; omega
  ·change K0M O0 ν r = some v at hr
   unfold K0M at hr
   split at hr
   ·cases hr
   ·split at hr
    ·cases hr; rfl
    ·cases hr
  ·obtain ⟨rfl, rfl⟩ := hlook r x hx
   refine ⟨b, ty, arr, hν0, fun q => q.2 ⟨1000, by rw [hx]; simp, by rw [hν0]; rfl⟩, hbz, hbW, by simp [has], fun i s hs => ?_⟩
   simp only [List.getElem?_map, Option.map_eq_some_iff] at hs
   obtain ⟨i', hi', rfl⟩ := hs
   obtain ⟨hi, rfl⟩ := List.getElem?_eq_some_iff.1 hi'
   simp only [List.length_range] at hi
   obtain ⟨u, hu, hk⟩ := hfa i hi
   exact ⟨u, hu, hmono _ _ (by simpa using hk)⟩
  ·obtain ⟨x, hx⟩ := Option.ne_none_iff_exists'.1 h1
   obtain ⟨x', hx'⟩ := Option.ne_none_iff_exists'.1 h2
   exact absurd ((hlook r x hx).1.trans (hlook r' x' hx').1.symm) hne
  ·rw [v0z, if_pos (Nat.zero_le _), Nat.sub_zero]
   by_cases hd : d < ((AV.val (.func (.yield l) #[] #[]) :: caps).map SV.av ++ [SV.own 1000 0]).length
   ·rw [List.getD, List.getElem?_eq_getElem hd]
    obtain ⟨u, hu, hk⟩ := hvs.get d _ (List.getElem?_eq_getElem hd)
    have : ((Value.func (.yield l) #[] #[] :: (cs ++ [.pointer (some ⟨b, 0, none⟩)])).toArray ++ Array.replicate (fn.ntmps - (Value.func (.yield l) #[] #[] :: (cs ++ [Value.pointer (some ⟨b, 0, none⟩)])).toArray.size) undef).getD d undef = u := by
     have hlt := (List.getElem?_eq_some_iff.1 hu).1
     rw [Array.getD_eq_getD_getElem?, Array.getElem?_append_left (by simpa using hlt), List.getElem?_toArray, hu]
     rfl
    rw [this]; exact hk
   ·rw [List.getD, List.getElem?_eq_none (by omega)]; trivial
 have key := (h l J ⟨hJ, hT, fun s ZP A q => (hD s ZP A q).1, fun s ZP A q => (hD s ZP A q).2, hY⟩ W Z b ν hν0 (Nat.lt_of_lt_of_le hbl hBl.size) ⟨⟨[], (Z, fun k => k = b), h0, fun _ q => q, fun _ q => q, fun _ q => q.elim, fun _ q => q.elim, ⟨rfl, rfl, rfl, Nat.le_refl _, fun _ q => q.elim⟩, trivial⟩⟩).sq _ W (by rw [← hO0]; exact hsat)
 have hc : Calls P gf (Value.func (.yield l) #[] #[] :: (cs ++ [.pointer (some ⟨b, 0, none⟩)])).toArray W (RL τs J) := calls_of_wp hf hb (wpIn_wide.1 key)
 have ha : #[Value.func (.yield l) #[] #[]] ++ (cs ++ [Value.pointer (some ⟨b, 0, none⟩)]).toArray = (Value.func (.yield l) #[] #[] :: (cs ++ [.pointer (some ⟨b, 0, none⟩)])).toArray := by simp
 rw [ha]
 exact callsIn_wide.2 hc
section
variable {P : Program} {τs : List (List AV)} {l : Nat} {J : List (List Value) → Zone2 → World → Prop} {K Zt Z : j0q} {W0 w : World} {N l0 : Nat} {T TL : Tab} {O : Own} {Q : Exit → Act → World → Prop}
theorem k0K {g : Operand} {p q : Tmp} {assign body : Code} {gf : FuncId} {caps : List AV} {n r : Nat} {f : Nat → AV} {τa : List (List AV)} {mOf : Nat → Nat} (hl0 : ∃ r, w.heap[l0]? = some (.loop r))
  (Y : YL P τs l J) (S : SL τs J K Zt W0 (mOf 0) w Z) (hI : CtrLX P gf caps n f τa) (TX : Nat → Tab) (h0 : Ent T O TL [(r, .cells ((List.range n).map fun i => .av (f i)))]) (hg : TL.ev g = .clo gf (caps.map CV.av ++ [.own r 0]))
  (hTp : look TL p = none) (hTq : look TL q = none) (hpq : Nat.beq p q = false) (hpN : Nat.blt p N = true) (hqN : Nat.blt q N = true) (h2 : ∀ τ ∈ τa, ∃ t0 t1, τ = [t0, t1])
  (hass : ∀ i t0 t1, τa[i]? = some [t0, t1] → ∀ l' K' Zt' W Z', SL τs J K' Zt' W (mOf i) W Z' → CQ P (w0i N (some l') W Z') (Exit.then (fun a w => w1s τs J K' Zt' W N (some l') (mOf i) (TX i) a w) (fun _ _ _ => False)) ((p, .av t0) :: (q, .av t1) :: TL) [] assign)
  (hbody : ∀ i t0 t1, τa[i]? = some [t0, t1] → ∀ l' K' Zt' W Z', SL τs J K' Zt' W (mOf i) W Z' → (∃ r, W.heap[l']? = some (.loop r)) → CQ P (w0i N (some l') W Z') (fun e _ w => e = .normal ∧ ∃ Z2, SL τs J K' Zt' W (mOf (i + 1)) w Z2) (TX i) [] body)
  (hdone : ∀ W Z2, SL τs J K Zt W0 (mOf τa.length) W Z2 → SQ (w0i N (some l0) W Z2) TL [] (Q .normal)) :
  CQ P (w0i N (some l0) w Z) Q T O (Code.rangeFunc g #[p, q] assign body) := by
 refine ⟨fun a w1 hsat => ?_⟩
 obtain ⟨Z1, ν, h1⟩ := h0 _ a w1 hsat
 obtain ⟨r0, hl0⟩ := hl0
 have hl1 : w1.heap[l0]? = some (.loop r0) := (h1.base.kept l0 (Array.getElem?_eq_some_iff.1 hl0).1).trans hl0
 have hgv := j0G h1 g
 rw [hg] at hgv
 obtain ⟨vs, hgv, hcv⟩ := hgv
 obtain ⟨b, ty, arr, hb1, hb2, hb3, hb4, hb5, hb6⟩ := h1.own.each r _ (j0l r _ [])
 have hbl : b < w1.heap.size := (Array.getElem?_eq_some_iff.1 hb4).1
 have hbw : w.heap.size ≤ b := Nat.le_of_not_lt hb2
 have hsplit : ∀ (cs : List AV) (us : List Value), All2 (CV.ok Z1 ν w1) (cs.map CV.av ++ [.own r 0]) us → ∃ us', us = us' ++ [.pointer (some ⟨b, 0, none⟩)] ∧ All2 (fun τ v => AV.ok Z1 w1 τ v) cs us' := by
  intro cs
  induction cs with
  |nil =>
   intro us hu
   match us, hu with
   |[u], hu =>
    obtain ⟨b', e1, e2⟩ := hu.1
    rw [hb1] at e1
    simp only [Value.pointer.injEq, Option.some.injEq, Addr.mk.injEq, and_true] at e1
    subst e1
    exact ⟨[], by rw [e2]; rfl, trivial⟩
  |cons c cs ih =>
   intro us hu
   match us, hu with
   |u :: us, hu =>
    obtain ⟨us', rfl, hk⟩ := ih us hu.2
    exact ⟨u :: us', rfl, hu.1, hk⟩
 obtain ⟨us, rfl, hus⟩ := hsplit caps vs hcv
 have htl : ∀ k, Zt k → k < W0.heap.size := by obtain ⟨_, _, _, _, _, _, h5, _⟩ := S.ex; exact h5
 have hW0 : W0.heap.size ≤ w.heap.size := by obtain ⟨_, _, _, _, _, _, _, h6, _⟩ := S.ex; exact h6.2.2.2.1
 have hbt : ¬ Zt b := fun e => by have := htl b e; omega
 have S1 := S.nowX Y (X := fun k => k = b) (SL.below h1) (fun k hk => (h1.base.zNew k hk).imp id Nat.le_of_not_lt) h1.base.zLt (fun k e => by cases e; exact ⟨hbw, hbl, hb3⟩)
 have hE : SatZ (w0i N (some l0) w1 Z1) Z1 ν TL [] a w1 := ⟨h1.defers, h1.tsize, (fun _ _ q => by cases q), (fun _ _ q => by cases q), ⟨rfl, rfl, rfl, Nat.le_refl _, fun _ hk => hk, fun _ _ => rfl, h1.base.zok, fun _ hk => hk, fun _ hk => .inl hk⟩, ⟨fun r x hx => by simp [look] at hx, fun r r' _ h1 => by simp [look] at h1⟩, h1.slot⟩
 have hseq := hI.gives w1 Z1 us b arr ty h1.base.zok hus hb3 hb4 (by rw [hb5]; simp) (fun i hi => by
  obtain ⟨u, hu, hk⟩ := hb6 i (.av (f i)) (by simp [hi])
  exact ⟨u, hu, hk⟩)
 show (Code.rangeFunc g [p, q].toArray assign body).wpIn (Fence.wide.inRound l0) 0 P Q a w1
 exact Q0Q hl1 Y S1 hE (fun k e => by cases e; exact ⟨.inr rfl, hbt⟩) hgv hI.enters hseq TX hTp hTq hpq hpN hqN h2 hass hbody (fun W Z2 S2 => hdone W Z2 (S2.less (fun _ e => .inl e) (fun k e e' => e.elim id (fun e => by cases e; exact absurd e' hbt))))
end
end Go.Vc
end
section
namespace Go.Vc
open Go Go.RowKit
def Z1B (k : FuncId) (cs : List AV) : j0q → World → Value → Prop := fun Z w v => ∃ vs : List Value, v = .func (.func k) vs.toArray #[] ∧ All2 (fun τ u => AV.ok Z w τ u) cs vs
theorem V1H (k : FuncId) (cs : List AV) : y0I (Z1B k cs) := fun Z Z' w w' v hZ hs hw ⟨vs, h1, h2⟩ => ⟨vs, h1, h2.mono fun τ _ u hu => AV.ok_mono hZ hs hw τ u hu⟩
abbrev AV.bfn (k : FuncId) (cs : List AV) : AV := .ob (Z1B k cs) (V1H k cs)
def One (τ : AV) : Prop := ∀ Z w v, AV.ok Z w τ v → v.oneCell' = true
theorem One.bfn (k : FuncId) (cs : List AV) : One (AV.bfn k cs) := fun Z w v h => by obtain ⟨vs, rfl, _⟩ := h; rfl
section
variable {P : Program} {E : Env} {T : Tab} {O O' Oc : Own} {d : Option Tmp} {ty : TypeId} {pos : String} {af : Array Edge} {g : Option (Nat × Bool)}
theorem y1L {t : TypeId} {x : Operand} {τ : AV} (hx : T.ev x = .av τ) (h1 : One τ) : GV P E ⟨d, .box t x, ty, pos, af, g⟩ T O (.av (.ptr 1 (fun _ => τ))) [] [] := by
 refine ⟨fun T' O' hT _ => ⟨by intro c; simp, fun Z ν a w hs => ?_⟩⟩
 have hv := j0G hs x
 rw [j0r (o := ⟨d, .box t x, ty, pos, af, g⟩) hT (by simp [Op.operands]), hx] at hv
 have hv' : τ.ok Z w (a.eval x) := hv
 have hone := h1 _ _ _ hv'
 refine j0B (w' := w.alloc (.cells (a.eval x).cells t)) (v := .pointer (some ⟨w.heap.size, 0, none⟩)) (by simp [execOp, Instr.box, newVar, newRow]) ⟨_, _, ν, rfl, hs.allocRo _, ⟨w.heap.size, 0, rfl, fun _ => .inr rfl, by simp, fun i hi => ?_⟩⟩
 obtain rfl : i = 0 := by omega
 refine ⟨a.eval x, ?_, ?_⟩
 ·rw [cells_one hone, World.cell?_alloc_new]; rfl
 ·exact AV.ok_mono (fun k hk => .inl hk) (by simp) (fun k _ hk => w0b w _ hk) τ _ hv'
theorem J0w {f : FuncId} {xs : List Operand} {cs : List AV} (hx : xs.map T.ev = cs.map SV.av) :
  GV P E ⟨d, .makeFunc (.func f) xs.toArray #[], ty, pos, af, g⟩ T O (.av (.bfn f cs)) [] [] := by
 refine ⟨fun T' O' hT _ => ⟨by intro c; simp, fun Z ν a w hs => ?_⟩⟩
 have hx' : xs.map T'.ev = cs.map SV.av := by
  rw [← hx]
  refine List.map_congr_left fun x hxm => j0r (o := ⟨d, .makeFunc (.func f) xs.toArray #[], ty, pos, af, g⟩) hT ?_
  simp [Op.operands, hxm]
 exact j0B (w' := w) (v := .func (.func f) (xs.map a.eval).toArray #[]) (by simp [execOp, Instr.makeFunc]) ⟨_, Z, ν, rfl, hs, ⟨xs.map a.eval, rfl, v0A hs hx'⟩⟩
theorem Q0Z {R : AV → Value → Prop} : ∀ {l : List AV} {m : List Value} {l' m'}, All2 R l m → All2 R l' m' → All2 R (l ++ l') (m ++ m')
 |[], [], _, _, _, h2 => h2
 |_ :: _, _ :: _, _, _, h1, h2 => ⟨h1.1, Q0Z h1.2 h2⟩
theorem Q0y {f : FuncId} {c : Operand} {xs : List Operand} {ats : Array TypeId} {cs τs : List AV} {res : AV} (hc : CtrA P f (cs ++ τs) res) (hf : T.ev c = .av (.bfn f cs)) (hx : xs.map T.ev = τs.map SV.av) :
  GV P E ⟨d, .call ⟨.value c, xs.toArray, ats⟩, ty, pos, af, g⟩ T O (.av res) [] [] := by
 refine ⟨fun T' O' hT _ => ⟨by intro c; simp, fun Z ν a w hs => ?_⟩⟩
 have hmem : ∀ x ∈ c :: xs, x ∈ (Op.call ⟨.value c, xs.toArray, ats⟩).operands.toList := by intro x hx; simpa [Op.operands, Call.operands] using hx
 have hx' : xs.map T'.ev = τs.map SV.av := by
  rw [← hx]
  exact List.map_congr_left fun x hxm => j0r (o := ⟨d, .call ⟨.value c, xs.toArray, ats⟩, ty, pos, af, g⟩) hT (hmem x (by simp [hxm]))
 have hev := v0A hs hx'
 have hfv := j0G hs c
 rw [j0r (o := ⟨d, .call ⟨.value c, xs.toArray, ats⟩, ty, pos, af, g⟩) hT (hmem c (by simp)), hf] at hfv
 obtain ⟨vs, hfv, hcs⟩ := hfv
 have hall := Q0Z hcs hev
 refine q0g (f := f) (args := (vs ++ xs.map a.eval).toArray) ?_ ?_
 ·have hen := hc.enters (vs ++ xs.map a.eval).toArray w
  have : vs.toArray ++ (List.map a.eval xs).toArray = (vs ++ List.map a.eval xs).toArray := by simp
  simp [execOp, resolve, Deferred.ofValue, hfv, invoke] at hen ⊢
  exact hen
 ·refine Calls.mono (hc.calls w Z _ hs.base.zok hall) ?_
  rintro e w' ⟨u, Z', rfl, hb, h1, h2, h3, hv⟩
  exact ⟨u, rfl, u, Z', ν, rfl, hs.called hb h1 h2 h3, hv⟩
theorem Y0M {f : FuncId} {c : Operand} {xs : List Operand} {ats : Array TypeId} {cs τs : List AV} {res : SV} (l : List (Nat × Nat)) (hc : CtrH P f ((cs ++ τs).map SV.av) [] res O') (hf : T.ev c = .av (.bfn f cs)) (hx : xs.map T.ev = τs.map SV.av) (hok : w1u T O l [] O' res = true) :
  VStep P E ⟨d, .call ⟨.value c, xs.toArray, ats⟩, ty, pos, af, g⟩ T O T (Own.ren (rnm l) O' ++ O) (res.ren (rnm l)) := by
 refine ⟨by intro c; simp, fun Z ν a w hs => ?_⟩
 have hfv := j0G hs c
 rw [hf] at hfv
 obtain ⟨vs, hfv, hcs⟩ := hfv
 have hall := Q0Z hcs (v0A hs hx)
 have hev : ∀ (ts : List AV) (us : List Value) (ν' : j0N), All2 (fun τ v => AV.ok Z w τ v) ts us → All2 (fun s v => SV.ok Z ν' w s v) (ts.map SV.av) us := by
  intro ts
  induction ts with
  |nil => intro us ν' h; match us, h with | [], _ => trivial
  |cons t ts ih => intro us ν' h; match us, h with | u :: us, h => exact ⟨h.1, ih us ν' h.2⟩
 refine q0g (f := f) (args := (vs ++ xs.map a.eval).toArray) ?_ ?_
 ·have hen := hc.enters (vs ++ xs.map a.eval).toArray w
  have : vs.toArray ++ (List.map a.eval xs).toArray = (vs ++ List.map a.eval xs).toArray := by simp
  simp [execOp, resolve, Deferred.ofValue, hfv, invoke] at hen ⊢
  exact hen
 ·refine Calls.mono (hc.calls w Z _ _ hs.base.zok (hev _ _ _ hall) ((show OwnSub l O [] from trivial).own' hs (V0E hok hc.keys))) ?_
  rintro e w' ⟨u, Z', ν', rfl, hb, hν, ho, hr⟩
  exact ⟨u, rfl, u, Z', nuB l O' ν ν', rfl, hs.calledH (show OwnSub l O [] from trivial) hok hb hν ho hc.keys, V0S hok hr⟩
theorem q0v {t : TypeId} {x : Operand} {us : List Value} (r : Nat) (hx : T.ev x = .av (.val (.agg us.toArray))) (hf : q0Q r T O = true) (hp : Nat.blt r 1000 = true := by first | rfl | assumption) :
  VStep P E ⟨d, .box t x, ty, pos, af, g⟩ T O T ((r, .cells (us.map fun u => .av (.val u))) :: O) (.own r 0) := by
 refine VStep.fresh (r := r) ⟨by intro c; simp, fun Z ν a w hs => ?_⟩ hf
 have hv' : a.eval x = .agg us.toArray := j0w hx (j0G hs x)
 refine j0B (w' := w.alloc (.cells us.toArray t)) (v := .pointer (some ⟨w.heap.size, 0, none⟩)) (by simp [execOp, Instr.box, newVar, newRow, hv', Value.cells]) ?_
 refine ⟨_, Z, q0V ν r (.pointer (some ⟨w.heap.size, 0, none⟩)), rfl, hs.newRes r hp _ _ _ rfl (fun _ hk hnz => ?_), w.heap.size, by simp [q0V], rfl⟩
 refine ⟨w.heap.size, t, us.toArray, rfl, hk, hnz, heap_alloc_new _ _, by simp, fun i s hs => ?_⟩
 simp only [List.getElem?_map, Option.map_eq_some_iff] at hs
 obtain ⟨u, hu, rfl⟩ := hs
 exact ⟨u, by simpa using hu, rfl⟩
end
end Go.Vc
end
namespace Go.Proofs.YtfggdokihnopeaaGreatDoor.H
open Go Go.Vc Go.RowKit Go.Na
theorem V1f {d u v : Pt} (hd : ¬ (d.x = 0 ∧ d.y = 0)) (h1 : trn d u = 0) (h2 : trn d v = 0) : trn u v = 0 := by
 unfold trn at *
 have e1 : d.x * (u.x * v.y - u.y * v.x) = 0 := by grind
 have e2 : d.y * (u.x * v.y - u.y * v.x) = 0 := by grind
 rcases Int.mul_eq_zero.1 e1 with a | a
 ·rcases Int.mul_eq_zero.1 e2 with b | b
  ·exact absurd ⟨a, b⟩ hd
  ·exact b
 ·exact a
theorem Z0c {l : List Pt} (h : w0M l = true) : ∀ i, i < l.length → ∀ j, j < l.length → ∀ k, k < l.length → crs (gp l i) (gp l j) (gp l k) = 0 := by
 unfold w0M at h
 split at h
 ·rename_i hf
  have hall : ∀ k, k < l.length → gp l k = gp l 0 := fun k hk => by
   have := List.find?_eq_none.1 hf k (List.mem_range.2 hk)
   simpa using this
  intro i hi j hj k hk
  rw [hall i hi, hall j hj, hall k hk]
  unfold crs trn sub; grind
 ·rename_i m hf
  have hm := List.find?_some hf
  have hne : gp l m ≠ gp l 0 := by simpa using hm
  have hall : ∀ i, i < l.length → trn (sub (gp l m) (gp l 0)) (sub (gp l i) (gp l 0)) = 0 := fun i hi => by
   have := List.all_eq_true.1 h i (List.mem_range.2 hi)
   simpa using this
  intro i hi j hj k hk
  have a1 := hall i hi
  have a2 := hall j hj
  have a3 := hall k hk
  refine V1f (d := sub (gp l m) (gp l 0)) ?_ ?_ ?_
  ·rintro ⟨e1, e2⟩
   apply hne
   unfold sub at e1 e2
   dsimp only at e1 e2
   generalize gp l m = a at *
   generalize gp l 0 = b at *
   obtain ⟨ax, ay⟩ := a
   obtain ⟨bx, by'⟩ := b
   dsimp only at e1 e2
   rw [show ax = bx by omega, show ay = by' by omega]
  ·unfold trn sub at *; dsimp only at *; grind
  ·unfold trn sub at *; dsimp only at *; grind
theorem Y0I {l : List Pt} (h : w0M l = true) : J0b l = true := by
 have key := Z0c h
 unfold J0b
 simp only [List.all_eq_true, List.mem_range, decide_eq_true_eq]
 intro i hi j hj k hk
 exact key i hi j zO k zO
theorem X0T {l : List Pt} (h : J0b l = true) : w0M l = true := by
 unfold J0b at h
 simp only [List.all_eq_true, List.mem_range, decide_eq_true_eq] at h
 unfold w0M
 split
 ·rfl
 ·rename_i m hf
  have hf' := List.find?_range_eq_some.1 hf
  obtain ⟨hm, hml, hbef⟩ := hf'
  have hne : gp l m ≠ gp l 0 := by simpa using hm
  have hb : ∀ j, j < m → gp l j = gp l 0 := fun j hj => by simpa using hbef j hj
  rw [List.all_eq_true]
  intro i hi
  rw [decide_eq_true_eq]
  rcases Nat.lt_trichotomy i m with h1 | h1 | h1
  ·rw [hb i h1]; unfold trn sub; grind
  ·subst h1; unfold trn sub; grind
  ·have h0 : 0 < m := Nat.pos_of_ne_zero fun e => hne (by rw [e])
   have := h i (List.mem_range.1 hi) m h1 0 h0
   unfold crs trn sub at this
   unfold trn sub
   dsimp only at *
   grind
theorem J0o {l : List Pt} (h : J0b l = false) : w0M l = false := by
 cases hc : w0M l with
 |false => rfl
 |true => rw [Y0I hc] at h; cases h
theorem LR.add' {k l : Nat} {q r : Rat} (h : LR k q) (h' : LR l r) : LR (k + l + 1) (q + r) := by
 rw [add_eq]
 exact v0I (by have := q.den_nz; have := r.den_nz; simp; omega) ((h.1.mul h'.2).add ((h'.1.mul h.2).mono (by omega))) ((h.2.mul h'.2).mono (by omega))
theorem LR.mul' {k l : Nat} {q r : Rat} (h : LR k q) (h' : LR l r) : LR (k + l) (q * r) := by
 rw [mul_eq]
 exact v0I (by have := q.den_nz; have := r.den_nz; simp; omega) (h.1.mul h'.1) (h.2.mul h'.2)
theorem q0h {x : Int} (hx : -100000 ≤ x ∧ x ≤ 100000) : LR 6 (x : Rat) := LR.int (k := 6) (show x.natAbs < 10 ^ 6 by omega) (by decide)
theorem x0O {n d : Int} (hn : -9000000000000000000 ≤ n ∧ n ≤ 9000000000000000000) (hd : -9000000000000000000 ≤ d ∧ d ≤ 9000000000000000000) (h0 : d ≠ 0) : LR 19 (Rat.divInt n d) := by
 have l : ∀ x : Int, -9000000000000000000 ≤ x ∧ x ≤ 9000000000000000000 → LI 19 x := fun x hx => (show x.natAbs < 10 ^ 19 by omega)
 exact v0I h0 (l _ hn) (l _ hd)
theorem v1R {l : List Tr} {k : Nat} {P : Pl} (h : P ∈ z0A l k) : ∃ a b c, cz (nvP (gt l a) (gt l b) (gt l c)) k ≠ 0 ∧ P.A = aP l k a b c ∧ P.B = bP l k a b c ∧ P.C = cP l k a b c := by
 obtain ⟨⟨a, b, c⟩, _, h⟩ := List.mem_filterMap.1 h
 have h' : thr l k a b c = some P := h
 unfold thr at h'
 split at h'
 ·cases h'
 ·rename_i hz
  unfold mkP at h'
  split at h'
  ·cases h'
  ·injection h' with h'
   subst h'
   exact ⟨a, b, c, hz, rfl, rfl, rfl⟩
theorem v1Q {l : List Tr} (hl : RT l) {k : Nat} {P : Pl} (h : P ∈ z0A l k) : LR 19 P.A ∧ LR 19 P.B ∧ LR 19 P.C := by
 obtain ⟨a, b, c, hz, eA, eB, eC⟩ := v1R h
 rw [eA, eB, eC]
 have hn := BT.np hl k a b c
 have h1 := hn.cz k
 have h2 := hn.cz (ou k)
 have h3 := hn.cz (ov k)
 have h4 : cz (nP l k a b c) k ≠ 0 := by have := x0p (k := k) (n := nvP (gt l a) (gt l b) (gt l c)) hz; unfold nP; omega
 refine ⟨x0O ?_ zO h4, x0O zO zO h4, x0O zO zO h4⟩
 unfold mP
 have hm := y1u hn (hl a)
 omega
theorem J0h {l : List Tr} {k : Nat} {P : Pl} (h : P ∈ q0e l k) : P ∈ z0A l k := ((J0g l k).2 P).1 h
theorem J1g {l : List Tr} {k : Nat} {P : Pl} (h : P ∈ z0A l k) {i : Nat} (hi : i < l.length) : 0 ≤ hgt k P.A P.B P.C (gt l i) := by
 have h1 := y1a h
 unfold mkP at h1
 split at h1
 ·cases h1
 ·rename_i hl
  by_cases h3 : hgt k P.A P.B P.C (gt l i) < 0
  ·exfalso; apply hl
   unfold J1R
   rw [List.any_eq_true]
   exact ⟨i, List.mem_range.2 hi, by simpa using h3⟩
  ·grind
def X0F (c : Nat → Int) (t : Nat → Rat) : Nat → Rat
 |0 => 0
 |i + 1 => X0F c t i + (c i : Rat) * t i
def frm (k : Nat) (p : Tr) : Nat → Int := match k with
 |0 => fun i => match i with | 0 => 1 | 4 => p.z | 5 => -p.y | _ => 0
 |1 => fun i => match i with | 1 => 1 | 3 => -p.z | 5 => p.x | _ => 0
 |_ => fun i => match i with | 2 => 1 | 3 => p.y | 4 => -p.x | _ => 0
def Q0V (k : Nat) (o : Int) (A B C : Rat) : Nat → Rat := match k with
 |0 => fun i => match i with | 0 => o - A | 4 => -C | 5 => B | _ => 0
 |1 => fun i => match i with | 1 => o - A | 3 => C | 5 => -B | _ => 0
 |_ => fun i => match i with | 2 => o - A | 3 => -C | 4 => B | _ => 0
theorem x1q {k : Nat} (hk : k < 3) (o : Int) (A B C : Rat) (p : Tr) : (cz p k : Rat) + X0F (frm k p) (Q0V k o A B C) 6 = (o : Rat) + hgt k A B C p := by
 rcases (by omega : k = 0 ∨ k = 1 ∨ k = 2) with rfl | rfl | rfl
 ·simp only [X0F, frm, Q0V, hgt, cz, plc, ou, ov]
  simp only [Rat.intCast_neg]
  grind
 ·simp only [X0F, frm, Q0V, hgt, cz, plc, ou, ov]
  simp only [Rat.intCast_neg]
  grind
 ·simp only [X0F, frm, Q0V, hgt, cz, plc, ou, ov]
  simp only [Rat.intCast_neg]
  grind
theorem W0O (k : Nat) {p : Tr} (hp : BT 100000 p) (i : Nat) : -100000 ≤ frm k p i ∧ frm k p i ≤ 100000 := by
 have h1 := hp.x
 have h2 := hp.y
 have h3 := hp.z
 unfold frm
 split <;> dsimp only <;> split <;> omega
theorem z0g {c : Nat → Int} {t : Nat → Rat} (hc : ∀ i, -100000 ≤ c i ∧ c i ≤ 100000) (ht : ∀ i, LR 43 (t i)) : ∀ i, LR (50 * i + 1) (X0F c t i)
 |0 => by have := LR.int (k := 1) (m := 0) (show (0 : Int).natAbs < 10 ^ 1 by decide) (by decide); simpa [X0F] using this
 |i + 1 => LR.mono (LR.add' (z0g hc ht i) (LR.mul' (q0h (hc i)) (ht i))) zO
end Go.Proofs.YtfggdokihnopeaaGreatDoor.H
namespace Go.Proofs.YtfggdokihnopeaaGreatDoor.H
open Go Go.Vc Go.RowKit Go.Na Go.Lib
set_option maxHeartbeats 4000000
abbrev c6 (c : Nat → Int) : AV := .val (.agg #[.int .i64 (c 0), .int .i64 (c 1), .int .i64 (c 2), .int .i64 (c 3), .int .i64 (c 4), .int .i64 (c 5)])
abbrev t6 (t : Nat → Rat) : AV := Y1j [sv (rtx (t 0)), sv (rtx (t 1)), sv (rtx (t 2)), sv (rtx (t 3)), sv (rtx (t 4)), sv (rtx (t 5))]
theorem LR.len' {k : Nat} {q : Rat} (h : LR k q) (hk : 0 < k) : (rtx q).length ≤ 2 * k + 2 := by
 have h1 := h.1.len hk
 have h2 := h.2.len hk
 have h3 : (itoa q.num).length ≤ k + 1 := by
  by_cases hn : q.num < 0
  ·rw [itoa_neg hn]; simp; omega
  ·rw [j0E hn]; omega
 unfold rtx
 split
 ·omega
 ·rw [List.length_append, List.length_cons]
  rw [Int.natAbs_natCast] at h2
  omega
theorem k0u (p : Tr) : CtrA Tryz.prog 57 [tp p] (tp p) := by
 refine j0s _ Tryz.func57 rfl rfl Tryz.ntmps57 rfl fun w Z => ?_
 refine zU ?_
 refine wt ?_
 exact j0c rfl (.agg (us := [_, _, _]) rfl rfl rfl rfl) rfl
theorem Z0y (p : Tr) {k : Nat} (hk : k < 3) (hp : BT 100000 p) : CtrA Tryz.prog 54 [vi (k : Int), tp p] (c6 (frm k p)) := by
 have h := k0u p
 have h1 := hp.x
 have h2 := hp.y
 have h3 := hp.z
 rcases (by omega : k = 0 ∨ k = 1 ∨ k = 2) with rfl | rfl | rfl
 ·refine j0s _ Tryz.func54 rfl rfl Tryz.ntmps54 rfl fun w Z => ?_
  refine zU ?_
  refine wt ?_
  refine j0j (j0h (us := [.int .i64 (frm 0 p 0), .int .i64 (frm 0 p 1), .int .i64 (frm 0 p 2), .int .i64 (frm 0 p 3), .int .i64 (frm 0 p 4), .int .i64 (frm 0 p 5)]) rfl rfl rfl rfl) rfl ?_
  refine wt ?_
  exact j0c rfl (.agg (us := [.int .i64 (frm 0 p 0), .int .i64 (frm 0 p 1), .int .i64 (frm 0 p 2), .int .i64 (frm 0 p 3), .int .i64 (frm 0 p 4), .int .i64 (frm 0 p 5)]) rfl rfl rfl rfl) rfl
 ·refine j0s _ Tryz.func54 rfl rfl Tryz.ntmps54 rfl fun w Z => ?_
  refine zU ?_
  refine wt ?_
  refine j0j (j0h (us := [.int .i64 (frm 1 p 0), .int .i64 (frm 1 p 1), .int .i64 (frm 1 p 2), .int .i64 (frm 1 p 3), .int .i64 (frm 1 p 4), .int .i64 (frm 1 p 5)]) rfl rfl rfl rfl) rfl ?_
  refine wt ?_
  exact j0c rfl (.agg (us := [.int .i64 (frm 1 p 0), .int .i64 (frm 1 p 1), .int .i64 (frm 1 p 2), .int .i64 (frm 1 p 3), .int .i64 (frm 1 p 4), .int .i64 (frm 1 p 5)]) rfl rfl rfl rfl) rfl
 ·refine j0s _ Tryz.func54 rfl rfl Tryz.ntmps54 rfl fun w Z => ?_
  refine zU ?_
  refine wt ?_
  refine j0j (j0h (us := [.int .i64 (frm 2 p 0), .int .i64 (frm 2 p 1), .int .i64 (frm 2 p 2), .int .i64 (frm 2 p 3), .int .i64 (frm 2 p 4), .int .i64 (frm 2 p 5)]) rfl rfl rfl rfl) rfl ?_
  refine wt ?_
  exact j0c rfl (.agg (us := [.int .i64 (frm 2 p 0), .int .i64 (frm 2 p 1), .int .i64 (frm 2 p 2), .int .i64 (frm 2 p 3), .int .i64 (frm 2 p 4), .int .i64 (frm 2 p 5)]) rfl rfl rfl rfl) rfl
theorem Q1Q (a b c d e f : Int) (w : World) : (Instr.index 101 (.agg #[.int .i64 a, .int .i64 b, .int .i64 c, .int .i64 d, .int .i64 e, .int .i64 f]) (.int .i64 0)).run Tryz.prog w = .ok (.int .i64 a) w := by kernel_rfl
theorem Q1R (a b c d e f : Int) (w : World) : (Instr.index 101 (.agg #[.int .i64 a, .int .i64 b, .int .i64 c, .int .i64 d, .int .i64 e, .int .i64 f]) (.int .i64 1)).run Tryz.prog w = .ok (.int .i64 b) w := by kernel_rfl
theorem Q1S (a b c d e f : Int) (w : World) : (Instr.index 101 (.agg #[.int .i64 a, .int .i64 b, .int .i64 c, .int .i64 d, .int .i64 e, .int .i64 f]) (.int .i64 2)).run Tryz.prog w = .ok (.int .i64 c) w := by kernel_rfl
theorem Q1T (a b c d e f : Int) (w : World) : (Instr.index 101 (.agg #[.int .i64 a, .int .i64 b, .int .i64 c, .int .i64 d, .int .i64 e, .int .i64 f]) (.int .i64 3)).run Tryz.prog w = .ok (.int .i64 d) w := by kernel_rfl
theorem Q1U (a b c d e f : Int) (w : World) : (Instr.index 101 (.agg #[.int .i64 a, .int .i64 b, .int .i64 c, .int .i64 d, .int .i64 e, .int .i64 f]) (.int .i64 4)).run Tryz.prog w = .ok (.int .i64 e) w := by kernel_rfl
theorem Q1V (a b c d e f : Int) (w : World) : (Instr.index 101 (.agg #[.int .i64 a, .int .i64 b, .int .i64 c, .int .i64 d, .int .i64 e, .int .i64 f]) (.int .i64 5)).run Tryz.prog w = .ok (.int .i64 f) w := by kernel_rfl
theorem Z1k (c : Nat → Int) {i : Nat} (hi : i < 6) (w : World) : (Instr.index 101 (.agg #[.int .i64 (c 0), .int .i64 (c 1), .int .i64 (c 2), .int .i64 (c 3), .int .i64 (c 4), .int .i64 (c 5)]) (.int .i64 (i : Int))).run Tryz.prog w = .ok (.int .i64 (c i)) w := by
 rcases (by omega : i = 0 ∨ i = 1 ∨ i = 2 ∨ i = 3 ∨ i = 4 ∨ i = 5) with rfl | rfl | rfl | rfl | rfl | rfl
 ·exact Q1Q _ _ _ _ _ _ _
 ·exact Q1R _ _ _ _ _ _ _
 ·exact Q1S _ _ _ _ _ _ _
 ·exact Q1T _ _ _ _ _ _ _
 ·exact Q1U _ _ _ _ _ _ _
 ·exact Q1V _ _ _ _ _ _ _
theorem z1p (a b c d e f : ByteArray) : Tryz.prog.built 113 [(0, .string a), (1, .string b), (2, .string c), (3, .string d), (4, .string e), (5, .string f)] = some #[.string a, .string b, .string c, .string d, .string e, .string f] := by kernel_rfl
theorem numbers_c (t : Nat → Rat) : CtrA Tryz.prog 75 [t6 t] (t6 t) := by
 refine j0s _ Tryz.func75 rfl rfl Tryz.ntmps75 rfl fun w Z => ?_
 refine zU ?_
 refine wt ?_
 refine j0j (j0m (t := 113) (is := [0, 1, 2, 3, 4, 5]) (xs := [_, _, _, _, _, _]) (vs := [sv (rtx (t 0)), sv (rtx (t 1)), sv (rtx (t 2)), sv (rtx (t 3)), sv (rtx (t 4)), sv (rtx (t 5))]) (z1p _ _ _ _ _ _) rfl rfl) rfl ?_
 refine wt ?_
 exact j0c rfl (.agg (us := [sv (rtx (t 0)), sv (rtx (t 1)), sv (rtx (t 2)), sv (rtx (t 3)), sv (rtx (t 4)), sv (rtx (t 5))]) rfl rfl rfl rfl) rfl
theorem X0S (t : Nat → Rat) (ht : ∀ i, LR 43 (t i)) : CtrA Tryz.prog 119 [.sl 6 1 (fun i _ => vR (t i))] (vi 0) := by
 refine j0s _ Tryz.func119 rfl rfl Tryz.ntmps119 rfl fun w Z => ?_
 refine zU ?_
 refine wt ?_
 refine j0g (γ := Nat) (fun i => [(6, .av (.sl 6 1 (fun i _ => vR (t i)))), (7, .av (vi 6)), (8, .av (vi i))]) (fun _ => []) (fun i => i ≤ 6) (fun i => 6 - i) 0 zO (ent zS trivial) ?_
 intro i hi
 refine wt ?_
 (refine j0a rfl ?_ ?_ <;> intro hb <;> (try simp only [zA, zB, zG, zC, zD, zN] at hb) <;> (try exact zQ))
 ·have hil : i < 6 := by omega
  have hc := Go.Proofs.YtfggdokihnopeaaGreatDoor.ratcheck_c (t i) ((ht i).mono zE)
  refine wt ?_
  exact j0b (i + 1) zO zO (ent zS trivial)
 ·refine wt ?_
  exact zV
theorem k0t (t : Nat → Rat) (ht : ∀ i, LR 43 (t i)) : CtrA Tryz.prog 65 [t6 t] (vi 0) := by
 have h1 := numbers_c t
 have h2 := X0S t ht
 refine j0s _ Tryz.func65 rfl rfl Tryz.ntmps65 rfl fun w Z => ?_
 refine zU ?_
 refine wt ?_
 refine j0j (j0k (us := [sv (rtx (t 0)), sv (rtx (t 1)), sv (rtx (t 2)), sv (rtx (t 3)), sv (rtx (t 4)), sv (rtx (t 5))]) rfl rfl rfl rfl) rfl ?_
 refine wt ?_
 refine j0z (j0F 3 10 (fun i => vR (t i)) rfl rfl rfl) ?_
 refine j0j (v0O (n := 6) (f := fun i => vR (t i)) rfl zE zE) rfl ?_
 refine wt ?_
 exact zV
theorem w0j (c : Nat → Int) (t : Nat → Rat) (hc : ∀ i, -100000 ≤ c i ∧ c i ≤ 100000) (ht : ∀ i, LR 43 (t i)) : CtrA Tryz.prog 74 [c6 c, t6 t] (j0x [vR (X0F c t 6), vi 0]) := by
 refine j0s _ Tryz.func74 rfl rfl Tryz.ntmps74 rfl fun w Z => ?_
 refine zU ?_
 refine wt ?_
 refine j0j (j0k (us := [.int .i64 (c 0), .int .i64 (c 1), .int .i64 (c 2), .int .i64 (c 3), .int .i64 (c 4), .int .i64 (c 5)]) rfl rfl rfl rfl) rfl ?_
 refine wt ?_
 refine w0h (J1t 3 (f' := fun i => vR (t i)) rfl (fun i hi => by
  have hi : i < 6 := hi
  rcases (by omega : i = 0 ∨ i = 1 ∨ i = 2 ∨ i = 3 ∨ i = 4 ∨ i = 5) with rfl | rfl | rfl | rfl | rfl | rfl <;> rfl)) ?_
 refine j0g (γ := Nat) (fun i => [(3, .av (.ptr 6 (fun i => vR (t i)))), (6, .av (vR (X0F c t i))), (11, .av (c6 c)), (12, .av (vi i))]) (fun _ => []) (fun i => i ≤ 6) (fun i => 6 - i) 0 (by omega) (ent ⟨.refl _, by show SLe (.av (.val (.string ⟨#[48]⟩))) (.av (vS (rtx 0))); rw [rtx_0]; exact .refl _, .refl _, .refl _, trivial⟩ trivial) ?_
 intro i hi
 refine wt ?_
 (refine j0a rfl ?_ ?_ <;> intro hb <;> (try simp only [zA, zB, zG, zC, zD, zN] at hb) <;> (try exact zQ))
 ·have hil : i < 6 := by omega
  have l1 := q0h (hc i)
  have l2 := ht i
  have l3 := z0g hc ht i
  have l4 := LR.mul' l1 l2
  have q1 := v0f (c i) (by have := hc i; omega)
  have q2 := q1P (c i : Rat) (t i) (l1.mono zE) (l2.mono zE)
  have q3 := q0a (X0F c t i) ((c i : Rat) * t i) (LR.mono l3 zO) (LR.mono l4 zE)
  refine wt ?_
  refine j0j (q0i (Z1k c hil) rfl rfl) rfl ?_
  refine wt ?_
  rw [show i * 1 + 0 = i by omega]
  refine wt ?_
  exact j0b (i + 1) zO zO (ent zS trivial)
 ·have hil : i = 6 := by omega
  subst hil
  refine wt ?_
  exact zW
end Go.Proofs.YtfggdokihnopeaaGreatDoor.H
section
end
section
end
section
end
section
end
section
end
section
end
section
end
section
end
section
end
namespace Go.Proofs.YtfggdokihnopeaaGreatDoor.H
open Go Go.Vc Go.RowKit
set_option maxHeartbeats 4000000
theorem y1N {v : List Nat} {k : Nat} (h : k < v.length) : gi v k ∈ v := by rw [J0F h]; exact List.getElem_mem h
end Go.Proofs.YtfggdokihnopeaaGreatDoor.H
namespace Go.Proofs.YtfggdokihnopeaaGreatDoor.H
open Go Go.Vc Go.RowKit
open Go.Na (rtx)
set_option maxHeartbeats 4000000
def plP (l : List Tr) (k : Nat) (s : List Nat) : List Pt := s.map fun i => plc k (gt l i)
theorem j1k {l : List Tr} {k : Nat} (hk : k < 3) {P : Pl} (h : P ∈ q0e l k) : P.s = onL l k P.A P.B P.C l.length ∧ 0 < P.s.length := by
 have h1 := (J0g l k).2 P |>.1 h
 have h2 := y1a h1
 obtain ⟨⟨a, b, c⟩, ht, h3⟩ := List.mem_filterMap.1 h1
 rw [K0y, Z0Q] at ht
 have h3' : thr l k a b c = some P := h3
 have hs : P.s = onL l k P.A P.B P.C l.length := by
  unfold mkP at h2
  split at h2
  ·cases h2
  ·injection h2 with h2
   rw [← h2]
 refine ⟨hs, ?_⟩
 unfold thr at h3'
 split at h3'
 ·cases h3'
 ·rename_i hz
  unfold mkP at h3'
  split at h3'
  ·cases h3'
  ·injection h3' with h3'
   have h0 : hgt k (aP l k a b c) (bP l k a b c) (cP l k a b c) (gt l a) = 0 := (x0V hk hz _).2.2 rfl
   have : a ∈ P.s := by
    rw [← h3']
    show a ∈ onL _ _ _ _ _ _
    unfold onL
    rw [List.mem_filter]
    exact ⟨by simp only [List.mem_range]; simp only at ht; omega, by simpa using h0⟩
   exact List.length_pos_of_mem this
theorem Y0Y {l : List Tr} (k : Nat) (hn : l.length ≤ 9) : (q0e l k).length ≤ 729 := by
 rw [← Z0e]
 have h1 : (Q0h (k0r (z0A l k))).length ≤ (k0r (z0A l k)).length := k0I _ _
 have h2 := k0w l k
 have h3 : l.length * (l.length * l.length) ≤ 9 * (9 * 9) := Nat.mul_le_mul hn (Nat.mul_le_mul hn hn)
 rw [W0d] at h1
 omega
end Go.Proofs.YtfggdokihnopeaaGreatDoor.H
namespace Go.Proofs.YtfggdokihnopeaaGreatDoor.H
open Go Go.Vc Go.RowKit
open Go.Na (rtx LR j0v v0j rsg)
set_option maxHeartbeats 4000000
def w0P (t : Nat → Rat) (p : Tr) (k : Nat) : Rat := (cz p k : Rat) + X0F (frm k p) t 6
abbrev Z1T (t : Nat → Rat) (p : Tr) : AV := .val (.agg #[sv (rtx (w0P t p 0)), sv (rtx (w0P t p 1)), sv (rtx (w0P t p 2))])
theorem X0P {t : Nat → Rat} {p : Tr} (hp : BT 100000 p) (ht : ∀ i, LR 43 (t i)) (k : Nat) : LR 400 (w0P t p k) := by
 have h1 := q0h (hp.cz k)
 have h2 := z0g (c := frm k p) (t := t) (W0O k hp) ht 6
 exact Go.Na.LR.mono (LR.add' h1 h2) zE
def Z1U (t : Nat → Rat) (p : Tr) : Nat → List SV
 |0 => [.av (vS []), .av (vS []), .av (vS [])]
 |1 => [.av (vR (w0P t p 0)), .av (vS []), .av (vS [])]
 |2 => [.av (vR (w0P t p 0)), .av (vR (w0P t p 1)), .av (vS [])]
 |_ => [.av (vR (w0P t p 0)), .av (vR (w0P t p 1)), .av (vR (w0P t p 2))]
theorem y0J (t : Nat → Rat) (p : Tr) (hp : BT 100000 p) (ht : ∀ i, LR 43 (t i)) : CtrA Tryz.prog 32 [t6 t, tp p] (j0x [Z1T t p, vi 0]) := by
 have h1 := k0t t ht
 have h2 := x0D [p]
 have hr : q0j p = true := by
  have := hp.x; have := hp.y; have := hp.z
  unfold q0j inB; simp only [Bool.and_eq_true, decide_eq_true_eq]; omega
 rw [V1I, if_pos hr] at h2
 have h3 := k0u p
 have h4 := numbers_c t
 refine j0s _ Tryz.func32 rfl rfl Tryz.ntmps32 rfl fun w Z => ?_
 refine zU ?_
 refine wt ?_
 refine j0j (j0k (us := [sv (rtx (t 0)), sv (rtx (t 1)), sv (rtx (t 2)), sv (rtx (t 3)), sv (rtx (t 4)), sv (rtx (t 5))]) rfl rfl rfl rfl) rfl ?_
 refine wt ?_
 refine j0j (j0S (is := [0]) (xs := [_]) (vs := [_]) (us := [.int .i64 p.x, .int .i64 p.y, .int .i64 p.z]) (row := tf [p]) (Y1k p) rfl rfl rfl (k0v p)) rfl ?_
 refine wt ?_
 refine j0g (γ := Nat) (fun i => [(2, .av (.ptr 6 (fun i => .val (([sv (rtx (t 0)), sv (rtx (t 1)), sv (rtx (t 2)), sv (rtx (t 3)), sv (rtx (t 4)), sv (rtx (t 5))] : List Value).getD i undef)))), (3, .av (.ptr 3 (fun i => .val (([.int .i64 p.x, .int .i64 p.y, .int .i64 p.z] : List Value).getD i undef)))), (4, .own 10 0), (5, .av (vi 0)), (8, .own 11 0), (27, .av (tp p)), (28, .av (vi i))])
  (fun i => [(10, .cells [.av (vS []), .av (vS []), .av (vS [])]), (11, .cells (Z1U t p i))]) (fun i => i ≤ 3) (fun i => 3 - i) 0 zO
  (ent zS zT) ?_
 rintro i hi
 match i, hi with
 |0, _ =>
  have hf := Z0y p (k := 0) zE hp
  have hz := hp.cz 0
  have hw := v0f (cz p 0) zO
  have hsm := W0O 0 hp
  have htm := w0j (frm 0 p) t hsm ht
  have hts := z0g hsm ht 6
  have had := q0a (cz p 0 : Rat) (X0F (frm 0 p) t 6) (Go.Na.LR.mono (q0h hz) zE) (Go.Na.LR.mono hts zE)
  refine wt ?_
  refine j0j (q0i (V1x p (k := 0) zE) rfl rfl) rfl ?_
  refine wt ?_
  refine q0H (j0k (us := [sv (rtx (t 0)), sv (rtx (t 1)), sv (rtx (t 2)), sv (rtx (t 3)), sv (rtx (t 4)), sv (rtx (t 5))]) rfl rfl rfl rfl) rfl ?_
  refine wt ?_
  exact j0b 1 zO zO (ent zS zT)
 |1, _ =>
  have hf := Z0y p (k := 1) zE hp
  have hz := hp.cz 1
  have hw := v0f (cz p 1) zO
  have hsm := W0O 1 hp
  have htm := w0j (frm 1 p) t hsm ht
  have hts := z0g hsm ht 6
  have had := q0a (cz p 1 : Rat) (X0F (frm 1 p) t 6) (Go.Na.LR.mono (q0h hz) zE) (Go.Na.LR.mono hts zE)
  refine wt ?_
  refine j0j (q0i (V1x p (k := 1) zE) rfl rfl) rfl ?_
  refine wt ?_
  refine q0H (j0k (us := [sv (rtx (t 0)), sv (rtx (t 1)), sv (rtx (t 2)), sv (rtx (t 3)), sv (rtx (t 4)), sv (rtx (t 5))]) rfl rfl rfl rfl) rfl ?_
  refine wt ?_
  exact j0b 2 zO zO (ent zS zT)
 |2, _ =>
  have hf := Z0y p (k := 2) zE hp
  have hz := hp.cz 2
  have hw := v0f (cz p 2) zO
  have hsm := W0O 2 hp
  have htm := w0j (frm 2 p) t hsm ht
  have hts := z0g hsm ht 6
  have had := q0a (cz p 2 : Rat) (X0F (frm 2 p) t 6) (Go.Na.LR.mono (q0h hz) zE) (Go.Na.LR.mono hts zE)
  refine wt ?_
  refine j0j (q0i (V1x p (k := 2) zE) rfl rfl) rfl ?_
  refine wt ?_
  refine q0H (j0k (us := [sv (rtx (t 0)), sv (rtx (t 1)), sv (rtx (t 2)), sv (rtx (t 3)), sv (rtx (t 4)), sv (rtx (t 5))]) rfl rfl rfl rfl) rfl ?_
  refine wt ?_
  exact j0b 3 zO zO (ent zS zT)
 |3, _ =>
  refine wt ?_
  refine j0j (j0h (us := [sv (rtx (w0P t p 0)), sv (rtx (w0P t p 1)), sv (rtx (w0P t p 2))]) rfl rfl rfl rfl) rfl ?_
  refine wt ?_
  exact j0t (rvs := [_, _]) (τs := [_, _]) rfl rfl ⟨.agg (us := [sv (rtx (w0P t p 0)), sv (rtx (w0P t p 1)), sv (rtx (w0P t p 2))]) rfl rfl rfl rfl, .tmp rfl, trivial⟩ rfl
 |i + 4, hi => omega
theorem Z0b {l : List Tr} (hl : RT l) (h : l.length ≤ 64) (k : Nat) : chk (x0K l k) = 0 := by
 unfold chk
 rw [if_neg (by rw [x0B]; omega), if_pos]
 rw [List.all_eq_true]
 intro p hp
 obtain ⟨q, hq, rfl⟩ := List.mem_map.1 hp
 obtain ⟨i, hi, rfl⟩ := List.getElem_of_mem hq
 have e : l[i] = gt l i := by simp [gt, hi, List.getD]
 rw [e]
 have h1 := (hl i).cz (ou k)
 have h2 := (hl i).cz (ov k)
 unfold y0C inB plc
 simp only [Bool.and_eq_true, decide_eq_true_eq]
 omega
theorem J1O (v : List Nat) (n : Nat) (hn : v.length ≤ 10000) : CtrA Tryz.prog 80 [idx v, vi (n : Int)] (vi (ixB (fun k => decide (n = gi v k)) v.length)) := by
 refine j0s _ Tryz.func80 rfl rfl Tryz.ntmps80 rfl fun w Z => ?_
 refine zU ?_
 refine wt ?_
 refine j0g (γ := Nat) (fun k => [(0, .av (idx v)), (1, .av (vi (n : Int))), (6, .av (idx v)), (7, .av (vi v.length)), (8, .av (vi k))]) (fun _ => []) (fun k => k ≤ v.length ∧ ∀ j, j < k → decide (n = gi v j) = false) (fun k => v.length - k) 0 ⟨Nat.zero_le _, by omega⟩ (ent zS trivial) ?_
 rintro k ⟨hk, hall⟩
 refine wt ?_
 (refine j0a rfl ?_ ?_ <;> intro hb <;> (try simp only [zA, zB, zG, zC, zD, zN] at hb) <;> (try exact zQ))
 ·have hkl : k < v.length := by omega
  refine wt ?_
  (refine j0a rfl ?_ ?_ <;> intro hb <;> (try simp only [zA, zB, zG, zC, zD, zN] at hb) <;> (try exact zQ))
  ·have e1 := Y0j (p := fun k => decide (n = gi v k)) hkl hall (decide_eq_true zO)
   refine wt ?_
   exact j0c rfl (.tmp rfl) (by rw [e1])
  ·refine wt ?_
   exact j0b (k + 1) ⟨by omega, fun j hj => by
    by_cases e : j = k
    ·subst e; exact decide_eq_false zO
    ·exact hall j zO⟩ zO (ent zS trivial)
 ·have hkl : k = v.length := by omega
  subst hkl
  have e1 := Z0M (p := fun k => decide (n = gi v k)) hall
  refine wt ?_
  exact j0c rfl (.tmp rfl) (by rw [e1])
theorem J1P (v : List Nat) (n : Nat) : decide (0 ≤ ixB (fun k => decide (n = gi v k)) v.length) = decide (n ∈ v) := by
 rw [Bool.eq_iff_iff, decide_eq_true_eq, decide_eq_true_eq]
 unfold ixB
 split
 ·rename_i k hf
  have h1 := List.find?_some hf
  have h2 := List.mem_range.1 (List.mem_of_find?_eq_some hf)
  simp only [decide_eq_true_eq] at h1
  constructor
  ·intro _; rw [h1, J0F h2]; exact List.getElem_mem h2
  ·intro _; omega
 ·rename_i hf
  constructor
  ·intro h; omega
  ·intro h
   obtain ⟨k, hk, e⟩ := List.getElem_of_mem h
   have := List.find?_eq_none.1 hf k (List.mem_range.2 hk)
   simp only [decide_eq_true_eq] at this
   exact absurd (by rw [J0F hk]; exact e.symm) this
theorem y0K (v : List Nat) (n : Nat) (hn : v.length ≤ 10000) : CtrA Tryz.prog 35 [idx v, vi (n : Int)] (vb (decide (n ∈ v))) := by
 have h := J1O v n hn
 refine j0s _ Tryz.func35 rfl rfl Tryz.ntmps35 rfl fun w Z => ?_
 refine zU ?_
 refine wt ?_
 exact j0c rfl (.tmp rfl) (congrArg vb (J1P v n))
end Go.Proofs.YtfggdokihnopeaaGreatDoor.H
section
namespace Go.Proofs.YtfggdokihnopeaaGreatDoor.H
open Go Go.Vc Go.RowKit Go.Na
section
variable (n : Nat) (U V Z : Nat → Rat)
def hh (A B C : Rat) (i : Nat) : Rat := Z i - (A + (B * U i + C * V i))
def Z1y (A B C : Rat) : Prop := ∀ i, i < n → 0 ≤ hh U V Z A B C i
end
variable {n : Nat} {U V Z : Nat → Rat}
end Go.Proofs.YtfggdokihnopeaaGreatDoor.H
end
namespace Go.Proofs.YtfggdokihnopeaaGreatDoor.H
open Go Go.Vc Go.RowKit
theorem y1B {k : Nat} (hk : k < 3) (a b c : Tr) : cz (nvP a b c) k ≠ 0 ↔ crs (plc k a) (plc k b) (plc k c) ≠ 0 := by
 rcases (by omega : k = 0 ∨ k = 1 ∨ k = 2) with rfl | rfl | rfl
 ·unfold nvP tcr v1Y crs trn sub plc ou ov cz
  dsimp only
  constructor <;> intro h e <;> apply h <;> grind
 ·unfold nvP tcr v1Y crs trn sub plc ou ov cz
  dsimp only
  constructor <;> intro h e <;> apply h <;> grind
 ·unfold nvP tcr v1Y crs trn sub plc ou ov cz
  dsimp only
  constructor <;> intro h e <;> apply h <;> grind
theorem J1n (a b c : Pt) : crs c b a = - crs a b c := by unfold crs trn sub; dsimp only; grind
theorem Q0P {k : Nat} {A B C A' B' C' : Rat} {a b c : Tr} (hn : crs (plc k a) (plc k b) (plc k c) ≠ 0) (h1 : hgt k A B C a = 0) (h2 : hgt k A B C b = 0) (h3 : hgt k A B C c = 0) (h1' : hgt k A' B' C' a = 0) (h2' : hgt k A' B' C' b = 0) (h3' : hgt k A' B' C' c = 0) :
  A = A' ∧ B = B' ∧ C = C' := by
 have hq : ((crs (plc k a) (plc k b) (plc k c) : Int) : Rat) ≠ 0 := by exact_mod_cast hn
 unfold crs trn sub at hq
 dsimp only at hq
 simp only [Rat.intCast_sub, Rat.intCast_mul] at hq
 unfold hgt at *
 generalize ((plc k a).x : Rat) = ax at *
 generalize ((plc k a).y : Rat) = ay at *
 generalize ((plc k b).x : Rat) = bx at *
 generalize ((plc k b).y : Rat) = by' at *
 generalize ((plc k c).x : Rat) = cx at *
 generalize ((plc k c).y : Rat) = cy at *
 generalize (cz a k : Rat) = az at *
 generalize (cz b k : Rat) = bz at *
 generalize (cz c k : Rat) = czz at *
 have e1 : (B - B') * (bx - ax) + (C - C') * (by' - ay) = 0 := by grind
 have e2 : (B - B') * (cx - ax) + (C - C') * (cy - ay) = 0 := by grind
 have f1 : (B - B') * ((bx - ax) * (cy - ay) - (by' - ay) * (cx - ax)) = 0 := by grind
 have f2 : (C - C') * ((bx - ax) * (cy - ay) - (by' - ay) * (cx - ax)) = 0 := by grind
 have g1 : B - B' = 0 := by
  rcases Rat.mul_eq_zero.1 f1 with h | h
  ·exact h
  ·exact absurd h hq
 have g2 : C - C' = 0 := by
  rcases Rat.mul_eq_zero.1 f2 with h | h
  ·exact h
  ·exact absurd h hq
 have gB : B = B' := by grind
 have gC : C = C' := by grind
 subst gB gC
 refine ⟨by grind, rfl, rfl⟩
theorem z1u {l : List Tr} {k a b c : Nat} (hk : k < 3) (hn : cz (nvP (gt l a) (gt l b) (gt l c)) k ≠ 0) : hgt k (aP l k a b c) (bP l k a b c) (cP l k a b c) (gt l a) = 0 ∧ hgt k (aP l k a b c) (bP l k a b c) (cP l k a b c) (gt l b) = 0 ∧ hgt k (aP l k a b c) (bP l k a b c) (cP l k a b c) (gt l c) = 0 := by
 have hd : ∀ p q r : Tr, w0k (nvP p q r) q = w0k (nvP p q r) p ∧ w0k (nvP p q r) r = w0k (nvP p q r) p := by
  intro p q r
  unfold nvP w0k tcr v1Y
  dsimp only
  constructor <;> grind
 have hu : ∀ q, w0k (nvP (gt l a) (gt l b) (gt l c)) q = w0k (nvP (gt l a) (gt l b) (gt l c)) (gt l a) → w0k (nP l k a b c) q = w0k (nP l k a b c) (gt l a) := by
  intro q h
  unfold nP upP
  split
  ·unfold w0k at h ⊢
   dsimp only
   grind
  ·exact h
 obtain ⟨d1, d2⟩ := hd (gt l a) (gt l b) (gt l c)
 exact ⟨(x0V hk hn _).2.2 rfl, (x0V hk hn _).2.2 (hu _ d1), (x0V hk hn _).2.2 (hu _ d2)⟩
theorem q1A {l : List Tr} {k : Nat} {A B C : Rat} {i : Nat} : i ∈ onL l k A B C l.length ↔ i < l.length ∧ hgt k A B C (gt l i) = 0 := by
 unfold onL
 rw [List.mem_filter, List.mem_range]
 simp
theorem q1z {l : List Tr} {k : Nat} {A B C : Rat} {n i j : Nat} (hij : i < j) (hj : j < (onL l k A B C n).length) : gi (onL l k A B C n) i < gi (onL l k A B C n) j := by
 have h : (onL l k A B C n).Pairwise (· < ·) := List.Pairwise.filter _ List.pairwise_lt_range
 rw [J0F (by omega), J0F hj]
 exact List.pairwise_iff_getElem.1 h i j zO hj hij
theorem y0s {l : List Tr} {k : Nat} {s : List Nat} {i : Nat} (h : i < s.length) : gp (plP l k s) i = plc k (gt l (gi s i)) := by
 unfold gp plP gi
 simp [List.getD, h]
theorem J1e {l : List Tr} {k : Nat} (hk : k < 3) {A B C : Rat} (hlow : J1R l k A B C l.length = false) (hs : J0b (plP l k (onL l k A B C l.length)) = false) : (⟨A, B, C, onL l k A B C l.length⟩ : Pl) ∈ q0e l k := by
 rw [(J0g l k).2]
 have hpl : (plP l k (onL l k A B C l.length)).length = (onL l k A B C l.length).length := by unfold plP; rw [List.length_map]
 unfold J0b at hs
 rw [hpl] at hs
 rw [List.all_eq_false] at hs
 obtain ⟨i, hi, hs⟩ := hs
 rw [List.mem_range] at hi
 rw [Bool.not_eq_true, List.all_eq_false] at hs
 obtain ⟨j, hj, hs⟩ := hs
 rw [List.mem_range] at hj
 rw [Bool.not_eq_true, List.all_eq_false] at hs
 obtain ⟨m, hm, hs⟩ := hs
 rw [List.mem_range] at hm
 have hne : crs (gp (plP l k (onL l k A B C l.length)) i) (gp (plP l k (onL l k A B C l.length)) j) (gp (plP l k (onL l k A B C l.length)) m) ≠ 0 := by simpa using hs
 rw [y0s hi, y0s (by omega), y0s (by omega)] at hne
 have o1 := q1z (l := l) (k := k) (A := A) (B := B) (C := C) (n := l.length) hm (show j < _ by omega)
 have o2 := q1z (l := l) (k := k) (A := A) (B := B) (C := C) (n := l.length) hj hi
 have mem : ∀ t, t < (onL l k A B C l.length).length → gi (onL l k A B C l.length) t < l.length ∧ hgt k A B C (gt l (gi (onL l k A B C l.length) t)) = 0 := fun t ht => by
  rw [← q1A, J0F ht]; exact List.getElem_mem ht
 obtain ⟨l1, z1⟩ := mem m zO
 obtain ⟨l2, z2⟩ := mem j zO
 obtain ⟨l3, z3⟩ := mem i hi
 generalize gi (onL l k A B C l.length) m = a at *
 generalize gi (onL l k A B C l.length) j = b at *
 generalize gi (onL l k A B C l.length) i = c at *
 have hcr : crs (plc k (gt l a)) (plc k (gt l b)) (plc k (gt l c)) ≠ 0 := by rw [J1n] at hne; omega
 have hn := (y1B hk _ _ _).2 hcr
 obtain ⟨t1, t2, t3⟩ := z1u hk hn
 obtain ⟨rfl, rfl, rfl⟩ := Q0P hcr z1 z2 z3 t1 t2 t3
 unfold z0A
 rw [List.mem_filterMap]
 refine ⟨(a, b, c), ?_, ?_⟩
 ·rw [K0y, Z0Q]; exact ⟨o1, o2, l3⟩
 ·show thr l k a b c = _
  unfold thr
  rw [if_neg hn]
  unfold mkP
  rw [if_neg (by rw [hlow]; decide)]
theorem w1A {l : List Tr} {k : Nat} (hk : k < 3) {P : Pl} (h : P ∈ q0e l k) : J0b (plP l k P.s) = false := by
 obtain ⟨hs, _⟩ := j1k hk h
 obtain ⟨⟨a, b, c⟩, ht, h3⟩ := List.mem_filterMap.1 ((J0g l k).2 P |>.1 h)
 rw [K0y, Z0Q] at ht
 obtain ⟨ht1, ht2, ht3⟩ := ht
 dsimp only at ht1 ht2 ht3
 have h3' : thr l k a b c = some P := h3
 unfold thr at h3'
 split at h3'
 ·cases h3'
 ·rename_i hz
  have hP : P.A = aP l k a b c ∧ P.B = bP l k a b c ∧ P.C = cP l k a b c := by
   unfold mkP at h3'
   split at h3'
   ·cases h3'
   ·injection h3' with h3'; rw [← h3']; exact ⟨rfl, rfl, rfl⟩
  obtain ⟨t1, t2, t3⟩ := z1u hk hz
  rw [← hP.1, ← hP.2.1, ← hP.2.2] at t1 t2 t3
  cases hst : J0b (plP l k P.s) with
  |false => rfl
  |true =>
   exfalso
   have hall := Z0c (X0T hst)
   have hpl : (plP l k P.s).length = P.s.length := by unfold plP; rw [List.length_map]
   rw [hpl] at hall
   have pos : ∀ x, x < l.length → hgt k P.A P.B P.C (gt l x) = 0 → ∃ i, i < P.s.length ∧ gi P.s i = x := fun x hx hz => by
    have hm : x ∈ P.s := by rw [hs, q1A]; exact ⟨hx, hz⟩
    obtain ⟨i, hi, e⟩ := List.getElem_of_mem hm
    exact ⟨i, hi, by rw [J0F hi]; exact e⟩
   obtain ⟨i, hi, ei⟩ := pos a zO t1
   obtain ⟨j, hj, ej⟩ := pos b zO t2
   obtain ⟨m, hm, em⟩ := pos c ht3 t3
   have := hall i hi j hj m hm
   rw [y0s hi, y0s hj, y0s hm, ei, ej, em] at this
   exact (y1B hk _ _ _).1 hz this
def fU (l : List Tr) (k : Nat) : Nat → Rat := fun i => ((plc k (gt l i)).x : Rat)
def fV (l : List Tr) (k : Nat) : Nat → Rat := fun i => ((plc k (gt l i)).y : Rat)
def fZ (l : List Tr) (k : Nat) : Nat → Rat := fun i => (cz (gt l i) k : Rat)
theorem q1b (l : List Tr) (k : Nat) (A B C : Rat) (i : Nat) : hh (fU l k) (fV l k) (fZ l k) A B C i = hgt k A B C (gt l i) := rfl
theorem x1a {l : List Tr} {k : Nat} {A B C : Rat} : Z1y l.length (fU l k) (fV l k) (fZ l k) A B C ↔ J1R l k A B C l.length = false := by
 unfold Z1y J1R
 rw [List.any_eq_false]
 constructor
 ·intro h i hi
  have := h i (List.mem_range.1 hi)
  rw [q1b] at this
  simp only [decide_eq_true_eq]
  grind
 ·intro h i hi
  have := h i (List.mem_range.2 hi)
  simp only [decide_eq_true_eq] at this
  rw [q1b]
  grind
end Go.Proofs.YtfggdokihnopeaaGreatDoor.H
