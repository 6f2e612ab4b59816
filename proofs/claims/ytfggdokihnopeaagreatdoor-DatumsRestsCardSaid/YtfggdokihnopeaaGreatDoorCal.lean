/- A part of the proof. -/
import Derived.Test.YtfggdokihnopeaaGreatDoorCaf
import Derived.Test.YtfggdokihnopeaaGreatDoorCak
set_option linter.unusedVariables false
set_option linter.unusedSimpArgs false
section
namespace Go.Vc
open Go Go.RowKit
section
theorem V1N {P : Program} {f : FuncId} {fn : Func} {c : Code} {args : List AV} {res : AV} (N : Nat) (hf : P.funcs[f]? = some fn) (hb : fn.body = some c) (hname : (fn.name == "runtime.NumGoroutine") = false) (hN : fn.ntmps = N) (hlen' : Nat.ble args.length N = true)
  (h : ∀ w Z vs, ZOk Z w → All2 (fun τ v => AV.ok Z w τ v) args vs → CQ P (v0t N w Z) (bodyPost P fn (z1R w Z res)) (x0a 0 (vs.map fun v => SV.av (.val v))) [] c) : CtrA P f args res := by
 have hlen : args.length ≤ N := Nat.le_of_ble_eq_true hlen'
 refine ⟨fun vs w => ?_, fun w Z vs hZ hvs => ?_⟩
 ·have hname' : fn.name ≠ "runtime.NumGoroutine" := by simpa using hname
  simp [callFunc, hf, hname', hb]
 ·refine calls_of_wp hf hb ?_
  have hl := hvs.len
  refine wpIn_wide.1 ((h w Z vs hZ hvs).sq _ w ⟨Z, fun _ => undef, rfl, ?_, (fun _ _ h => by cases h), (fun _ _ h => by cases h), ⟨rfl, rfl, rfl, Nat.le_refl _, fun k hk => hk, fun _ _ => rfl, hZ, fun _ hk => hk, fun _ hk => .inl hk⟩, ⟨fun r x hx => by simp [look] at hx, fun r r' _ h1 => by simp [look] at h1⟩, fun d => ?_⟩)
  ·simp only [Array.size_append, List.size_toArray, Array.size_replicate, hN, v0t]; omega
  ·rw [v0z, if_pos (Nat.zero_le _), Nat.sub_zero]
   by_cases hd : d < vs.length
   ·have h1 : (vs.map fun v => SV.av (.val v)).getD d (.av .any) = .av (.val vs[d]) := by simp [List.getD, List.getElem?_eq_getElem hd]
    rw [h1]
    have : (vs.toArray ++ Array.replicate (fn.ntmps - vs.toArray.size) undef).getD d undef = vs[d] := by
     rw [Array.getD_eq_getD_getElem?, Array.getElem?_append_left (by simpa using hd)]
     simp [hd]
    rw [this]; exact rfl
   ·have h1 : (vs.map fun v => SV.av (.val v)).getD d (.av .any) = .av .any := by
     rw [List.getD, List.getElem?_eq_none (by simpa using hd)]; rfl
    rw [h1]; trivial
def J0N (T : Tab) : Bool := T.all fun p => match p.2 with | .av (.val _) => true | _ => false
theorem q1G {T : Tab} (h : J0N T = true) (d : Nat) : T.get d = .av .any ∨ ∃ v, T.get d = .av (.val v) := by
 unfold Tab.get
 cases hl : look T d with
 |none => exact .inl rfl
 |some s =>
  right
  have := List.all_eq_true.1 h _ (q0K hl)
  cases s with
  |av τ => cases τ with
   |val v => exact ⟨v, rfl⟩
   |_ => cases this
  |_ => cases this
variable {P : Program} {N : Nat} {w0 w w1 w2 : World} {Z Z1 : j0q} {ν : j0N} {T : Tab} {a : Act} {Q : Exit → Act → World → Prop} {ops : Array Oper} {l : List Oper}
theorem v0x {O : Own} (h : SatZ (v0t N w Z) Z1 ν T O a w1) : Below w.heap.size w w1 := ⟨h.base.os, h.base.tape, h.base.output, h.base.size, h.base.kept⟩
theorem Y0y (hpl : J0N T = true) (hZ : ZOk Z w0) (hb : Below w0.heap.size w0 w2) (h : SatZ (v0t N w Z) Z1 ν T [] a w1) : SatZ (v0t N w2 Z) Z ν T [] a w2 := by
 refine ⟨h.defers, h.tsize, (fun _ _ q => by cases q), (fun _ _ q => by cases q), ⟨rfl, rfl, rfl, Nat.le_refl _, fun _ hk => hk, fun _ _ => rfl, hZ.next (fun _ q => q) hb.size (fun k _ hl => hb.block k hl) (fun k hk => Nat.lt_of_lt_of_le (hZ.1 k hk) hb.size), fun _ hk => hk, fun _ hk => .inl hk⟩, ⟨fun r x hx => by simp [look] at hx, fun r r' _ h1 => by simp [look] at h1⟩, fun d => ?_⟩
 have hs := h.slot d
 rcases q1G hpl d with e | ⟨v, e⟩
 ·rw [e]; trivial
 ·rw [e] at hs ⊢; exact hs
theorem w0Q {Tb e : TypeId} {B b : Nat} {p : Value} {bs : List Value} (h : Lib.BuilderAt Tb e B b p bs w) (hb : Below w.heap.size w w1) : Lib.BuilderAt Tb e B b p bs w1 := by
 have hlt := h.lt
 obtain ⟨h1, v, h2, h3, h4⟩ := h
 refine ⟨h1, v, (hb.block b hlt).trans h2, h3.kept (row := none) ⟨hb.os, hb.tape, hb.output, hb.size, fun k hk _ => hb.block k hk⟩ ?_, h4⟩
 by_cases hn : v.ownBlock = none
 ·exact .inl hn
 ·exact .inr hn
theorem q0z {Tb e : TypeId} {B b : Nat} {bs : List Value} (h : Lib.IsBuilder Tb e B b bs w) (hb : Below w.heap.size w w1) : Lib.IsBuilder Tb e B b bs w1 :=
 h.imp (fun h => w0Q h hb) (fun h => w0Q h hb)
variable {d : Nat} {ty : TypeId} {pos : String} {af : Array Edge}
theorem J0J {f : FuncId} {xs : List Operand} {vs : List Value} {ats : Array TypeId} {u : Value} {ψ : World → Prop} (hZ : ZOk Z w0) (hbw : Below w0.heap.size w0 w) (hpl : J0N T = true)
  (he : Enters P f) (hx : xs.map T.ev = vs.map (fun v => SV.av (.val v)))
  (hc : ∀ w1, Below w.heap.size w w1 → Calls P f vs.toArray w1 (fun e w2 => e = .returned u ∧ ψ w2 ∧ Below w0.heap.size w1 w2))
  (hd : (v0t N w Z).wr d = true) (hk : ∀ w2, Below w0.heap.size w0 w2 → ψ w2 → LSQ P (v0t N w2 Z) ops Q l ((d, .av (.val u)) :: T) []) :
  LSQ P (v0t N w Z) ops Q (⟨some d, .call ⟨.value (.func f), xs.toArray, ats⟩, ty, pos, af, none⟩ :: l) T [] := by
 refine ⟨fun a w1 hsat => ?_⟩
 obtain ⟨Z1, ν, h⟩ := hsat
 have hb1 := v0x h
 have hev : xs.map a.eval = vs := by
  have h2 := v0A h (τs := vs.map AV.val) (by rw [hx, List.map_map]; rfl)
  clear hx hc hk he
  generalize xs.map a.eval = us at h2
  induction us generalizing vs with
  |nil => cases vs with
   |nil => rfl
   |cons _ _ => exact h2.elim
  |cons u us ih => cases vs with
   |nil => exact h2.elim
   |cons v vs =>
    have h3 : u = v := h2.1
    rw [h3, ih h2.2]
 refine wpListIn_plain rfl fun K hK => ?_
 refine Oper.wp_in (K := fun a' w' => a' = a.put (some d) u ∧ ψ w' ∧ Below w0.heap.size w1 w') _ (by intro c; simp) ?_ ?_
 ·refine q0g (f := f) (args := (xs.map a.eval).toArray) ?_ ?_
  ·have hen := he (xs.map a.eval).toArray w1
   simp [execOp, resolve, Deferred.ofValue, Act.eval, invoke] at hen ⊢
   exact hen
  ·rw [hev]
   refine Calls.mono (hc w1 hb1) ?_
   rintro e w2 ⟨rfl, h1, h2⟩
   exact ⟨u, rfl, rfl, h1, h2⟩
 ·rintro a' w' ⟨rfl, h1, h2⟩
  have hb2 : Below w0.heap.size w0 w' := (hbw.trans (hb1.mono hbw.size)).trans h2
  exact hK _ _ ((hk w' hb2 h1).sq _ _ ⟨Z, ν, (Y0y hpl hZ hb2 h).put (some d) _ _ hd rfl⟩)
theorem K0j {t : TypeId} {zs : List Value} [hz : ZeroTy P t zs] (hZ : ZOk Z w0) (hbw : Below w0.heap.size w0 w) (hpl : J0N T = true) (hd : (v0t N w Z).wr d = true)
  (hk : ∀ b w2, Below w0.heap.size w0 w2 → w0.heap.size ≤ b → w2.heap[b]? = some (.cells zs.toArray t (0, 0)) → LSQ P (v0t N w2 Z) ops Q l ((d, .av (.val (.pointer (some ⟨b, 0, none⟩)))) :: T) []) :
  LSQ P (v0t N w Z) ops Q (⟨some d, .alloc t, ty, pos, af, none⟩ :: l) T [] := by
 refine ⟨fun a w1 hsat => ?_⟩
 obtain ⟨Z1, ν, h⟩ := hsat
 have hb1 := v0x h
 obtain ⟨z, hz, hc⟩ := hz.zero
 refine wpListIn_plain rfl fun K hK => ?_
 refine Oper.wp_in (K := fun a' w' => a' = a.put (some d) (.pointer (some ⟨w1.heap.size, 0, none⟩)) ∧ w' = w1.alloc (.cells zs.toArray t)) _ (by intro c; simp) ?_ ?_
 ·exact j0B (w' := w1.alloc (.cells zs.toArray t)) (v := .pointer (some ⟨w1.heap.size, 0, none⟩)) (by simp [execOp, Instr.alloc, hz, newVar, newRow, hc]) ⟨rfl, rfl⟩
 ·rintro a' w' ⟨rfl, rfl⟩
  have hle : w0.heap.size ≤ w1.heap.size := Nat.le_trans hbw.size hb1.size
  have hb2 : Below w0.heap.size w0 (w1.alloc (.cells zs.toArray t)) := (hbw.trans (hb1.mono hbw.size)).alloc hle _
  exact hK _ _ ((hk _ _ hb2 hle (heap_alloc_new _ _)).sq _ _ ⟨Z, ν, (Y0y hpl hZ hb2 h).put (some d) _ _ hd rfl⟩)
end
section
variable {P : Program} {E : Env} {T : Tab} {O : Own} {d : Option Nat} {ty : TypeId} {pos : String} {af : Array Edge} {g : Option (Nat × Bool)} {t e : TypeId} {x y : Operand} {b o : Nat}
theorem y1M (hx : T.ev x = .av (.val (.pointer (some ⟨b, o, none⟩)))) : GV P E ⟨d, .nilCheck x, ty, pos, af, g⟩ T O (.av (.val (.pointer (some ⟨b, o, none⟩)))) [] [] :=
 j0p [] fun Z ν a w h _ => ⟨_, by
  have := j0w hx (h x (by simp [Op.operands]))
  simp [execOp, this], rfl⟩
theorem Z0C {i off : Nat} [hs : FldTy P t i off] (hx : T.ev x = .av (.val (.pointer (some ⟨b, o, none⟩)))) : GV P E ⟨d, .fieldAddr t x i, ty, pos, af, g⟩ T O (.av (.val (.pointer (some ⟨b, o + off, none⟩)))) [] [] :=
 j0p [] fun Z ν a w h _ => ⟨_, by
  have := j0w hx (h x (by simp [Op.operands]))
  simp [execOp, this, hs.run b o w], rfl⟩
theorem z0Q {len k : Nat} {q : IntKind} {i : Int} [ht : ArrTy P t len e 1] (hx : T.ev x = .av (.val (.pointer (some ⟨b, o, none⟩)))) (hy : T.ev y = .av (.val (.int q i))) (hi : i = ↑k) (hk : k < len) :
  GV P E ⟨d, .indexAddr t x y, ty, pos, af, g⟩ T O (.av (.val (.pointer (some ⟨b, o + k, none⟩)))) [] [] :=
 j0p [] fun Z ν a w h _ => ⟨_, by
  have hax := j0w hx (h x (by simp [Op.operands]))
  have hv := j0w hy (h y (by simp [Op.operands]))
  subst hi
  simp [execOp, Instr.indexAt, hv, hax, asIntOf, run_underlying ht.und, ht.size w, hk, j0I, Instr.sureAddr], rfl⟩
theorem Q0n {w0 w : World} {B : Nat} (h : Below B w0 w) (hb : b < B) : w.cell? ⟨b, o, none⟩ = w0.cell? ⟨b, o, none⟩ := by
 simp only [World.cell?, h.block b hb]
theorem j1Z {N : Nat} {w0 w : World} {Z : j0q} {v : Value} [ht : CellTy P t] (hx : T.ev x = .av (.val (.pointer (some ⟨b, o, none⟩)))) (hbw : Below w0.heap.size w0 w) (hlt : b < w0.heap.size) (hc : w0.cell? ⟨b, o, none⟩ = some v) :
  GV P (v0t N w Z) ⟨d, .load t x, ty, pos, af, g⟩ T O (.av (.val v)) [] [] := by
 refine ⟨fun T' O' hT hO => ⟨by intro c; simp, fun Z1 ν a w1 hs => ?_⟩⟩
 have hev := j0G hs x
 rw [j0r (o := ⟨d, .load t x, ty, pos, af, g⟩) hT (by simp [Op.operands]), hx] at hev
 have hax : a.eval x = .pointer (some ⟨b, o, none⟩) := hev
 have h1 : w1.cell? ⟨b, o, none⟩ = some v := by
  rw [Q0n (v0x hs) (Nat.lt_of_lt_of_le hlt hbw.size), Q0n hbw hlt, hc]
 refine j0B (w' := w1) (v := v) ?_ ⟨_, Z1, ν, rfl, hs, rfl⟩
 simp [execOp, Instr.loadAt, hax, Instr.sureAddr, loadVar, ht.run w1, h1]
end
section
variable {P : Program} {N : Nat} {w0 w : World} {Z : j0q} {T : Tab} {Q : Exit → Act → World → Prop} {γ : Type} {Tof : γ → Tab} {φ : γ → World → Prop} {μ : γ → Nat}
def Y1f (N : Nat) (w0 : World) (Z : j0q) (Tof : γ → Tab) (φ : γ → World → Prop) (g : γ) (a : Act) (w : World) : Prop := φ g w ∧ Below w0.heap.size w0 w ∧ Sat (v0t N w Z) (Tof g) [] a w
theorem v1n (hZ : ZOk Z w0) (hbw : Below w0.heap.size w0 w) (g : γ) (hpl : J0N (Tof g) = true) (h0 : ∀ w1, Below w.heap.size w w1 → φ g w1) (hst : Ent T [] (Tof g) []) {a : Act} {w1 : World} (hs : Sat (v0t N w Z) T [] a w1) : Y1f N w0 Z Tof φ g a w1 := by
 obtain ⟨Z1, ν, h⟩ := hst _ a w1 hs
 have hb1 := v0x h
 have hb2 := hbw.trans (hb1.mono hbw.size)
 exact ⟨h0 w1 hb1, hb2, Z, ν, Y0y hpl hZ hb2 h⟩
theorem Z0f {c : Code} (Tof : γ → Tab) (φ : γ → World → Prop) (μ : γ → Nat) (g0 : γ) (hZ : ZOk Z w0) (hbw : Below w0.heap.size w0 w) (hpl : ∀ g, J0N (Tof g) = true) (h0 : ∀ w1, Below w.heap.size w w1 → φ g0 w1) (hst : Ent T [] (Tof g0) [])
  (hbody : ∀ g w, Below w0.heap.size w0 w → φ g w → CQ P (v0t N w Z) (Exit.then (fun a w' => ∃ g', μ g' < μ g ∧ Y1f N w0 Z Tof φ g' a w') Q) (Tof g) [] c) : CQ P (v0t N w Z) Q T [] (Code.loop c) := by
 refine ⟨fun a w1 hs => ?_⟩
 refine wpIn_loop_ghost (fun n a w => ∃ g, μ g = n ∧ Y1f N w0 Z Tof φ g a w) (μ g0) ⟨g0, rfl, v1n hZ hbw g0 (hpl g0) h0 hst hs⟩ ?_
 rintro n a w2 ⟨g, rfl, hg, hb2, hsat⟩
 refine wpIn_mono ((hbody g w2 hb2 hg).sq a w2 hsat) ?_
 intro e a' w' hq
 cases e with
 |normal => obtain ⟨g', h1, h2⟩ := hq; exact ⟨μ g', h1, g', rfl, h2⟩
 |exit id => exact hq
 |goto l => exact hq
 |ret => exact hq
 |panic ch => exact hq
 |outgrown => exact hq
theorem X0z {g : γ} (g' : γ) (hZ : ZOk Z w0) (hbw : Below w0.heap.size w0 w) (hpl : J0N (Tof g') = true) (hμ : μ g' < μ g) (h0 : ∀ w1, Below w.heap.size w w1 → φ g' w1) (hst : Ent T [] (Tof g') []) :
  SQ (v0t N w Z) T [] (Exit.then (fun a w' => ∃ g', μ g' < μ g ∧ Y1f N w0 Z Tof φ g' a w') Q .normal) := fun _ _ hs => ⟨g', hμ, v1n hZ hbw g' hpl h0 hst hs⟩
theorem v1F {fn : Func} {t : Nat} {v : Value} (hZ : ZOk Z w0) (hbw : Below w0.heap.size w0 w) (hr : fn.results = #[.tmp t]) (ht : T.get t = .av (.val v)) : SQ (v0t N w Z) T [] (bodyPost P fn (z1R w0 Z (.val v)) .ret) := by
 rintro a w' ⟨Z', ν, h⟩
 have hs := h.slot t
 rw [ht] at hs
 have hb2 := hbw.trans ((v0x h).mono hbw.size)
 exact bodyPost_ret (results_tmp hr a.tmps P w') h.defers ⟨_, Z, rfl, hb2, fun _ q => q, fun k q => .inl q, fun k q => Nat.lt_of_lt_of_le (hZ.1 k q) hb2.size, hs⟩
end
end Go.Vc
end
