/- A part of the proof. -/
import Derived.Test.YtgblokifbgeegaaGreatDoorCam
set_option linter.unusedVariables false
set_option linter.unusedSimpArgs false
section
namespace Go.Vc
open Go Go.RowKit
variable {P : Program} {E : Env} {T : Tab} {O : Own} {d : Option Nat} {ty : TypeId} {pos : String} {af : Array Edge} {g : Option (Nat × Bool)}
theorem y0L {t e : TypeId} {x : Operand} {r off len : Nat} {cs : List SV} [ht : ArrTy P t len e 1] (hx : T.ev x = .own r off) (hr : look O r = some (.cells cs)) (h0 : 0 < len) (hml : len ≤ maxLen := by decide) :
  GV P E ⟨d, .slice t x none none none, ty, pos, af, g⟩ T O (.ocs r off len) [r] [] :=
 j0j [r] fun Z ν a w hh hO => by
  obtain ⟨b, t', arr, hb, _⟩ := hO r (by simp) _ hr
  have hax := w0I hx (hh x (by simp [Op.operands])) hb
  have hbd : (Instr.sliceBounds false len len none none none).run P w = .ok (0, len, len) w := by
   unfold Instr.sliceBounds
   simp
  refine ⟨.slice (some ⟨b, off, none⟩) len len, ?_, ⟨b, len, hb, rfl, Nat.le_refl _, hml⟩⟩
  have hne : ¬ len = 0 := by omega
  simp [execOp, Instr.sliceAt, hax, run_underlying ht.und, hbd, ht.size w, j0Q, asAddr, Instr.sureAddr, hne]
theorem X0p {f : FuncId} {x y : Operand} {ats : Array TypeId} {τ : AV} {r off len : Nat} {cs : List SV} {h : Nat → AV} {v : Value} (hc : CtrA P f [τ, .sl len 1 (fun i _ => h i)] (.val v))
  (hx : T.ev x = .av τ) (hy : T.ev y = .ocs r off len) (hr : look O r = some (.cells cs)) (hcs : (cs.drop off).take len = (List.range len).map fun i => .av (h i)) :
  GV P E ⟨d, .call ⟨.value (.func f), #[x, y], ats⟩, ty, pos, af, g⟩ T O (.av (.val v)) [r] [] := by
 refine ⟨fun T' O' hT hO => ⟨by intro c; simp, fun Z ν a w hs => ?_⟩⟩
 have e1 := j0r (o := ⟨d, .call ⟨.value (.func f), #[x, y], ats⟩, ty, pos, af, g⟩) hT (x := x) (by simp [Op.operands, Call.operands])
 have e2 := j0r (o := ⟨d, .call ⟨.value (.func f), #[x, y], ats⟩, ty, pos, af, g⟩) hT (x := y) (by simp [Op.operands, Call.operands])
 have hr' : look O' r = some (.cells cs) := by rw [hO r (by simp)]; exact hr
 have hxv := j0L hs x
 rw [e1, hx] at hxv
 have hyv := j0L hs y
 rw [e2, hy] at hyv
 have hrow := hs.own.each r _ hr'
 obtain ⟨b, t', arr, hb, k1, k2, k3, k4, k5⟩ := id hrow
 obtain ⟨b', c, h1, h2, h3, h4⟩ := hyv
 rw [hb] at h1
 simp only [Value.pointer.injEq, Option.some.injEq, Addr.mk.injEq, and_true] at h1
 subst h1
 have hlt := (Array.getElem?_eq_some_iff.1 k3).1
 have hall : All2 (fun τ v => AV.ok (fun k => Z k ∨ (k < w.heap.size ∧ ¬ E.keep k)) w τ v) [τ, .sl len 1 (fun i _ => h i)] ([x, y].map a.eval) := by
  refine ⟨AV.ok_mono (fun _ h => .inl h) (Nat.le_refl _) (fun _ _ _ => rfl) _ _ hxv, ?_, trivial⟩
  refine ⟨_, c, h2, h3, h4, fun hn => ⟨b, off, rfl, fun _ => .inr ⟨hlt, k1⟩, hlt, fun i hi j hj => ?_⟩⟩
  obtain rfl : j = 0 := by omega
  have hs1 : cs[off + i]? = some (.av (h i)) := by
   have : ((cs.drop off).take len)[i]? = some (.av (h i)) := by rw [hcs]; simp [hi]
   rw [List.getElem?_take_of_lt hi, List.getElem?_drop] at this
   exact this
  obtain ⟨u, hu, hk⟩ := x0F hrow hb hs1
  refine ⟨u, by rw [Nat.mul_one, Nat.add_zero]; exact hu, ?_⟩
  exact AV.ok_mono (fun _ h => .inl h) (Nat.le_refl _) (fun _ _ _ => rfl) _ _ hk
 refine q0m (f := f) (args := ([x, y].map a.eval).toArray) ?_ ?_
 ·have hen := hc.enters ([x, y].map a.eval).toArray w
  simp [execOp, resolve, Deferred.ofValue, Act.eval, invoke] at hen ⊢
  exact hen
 ·refine Calls.mono (hc.calls w _ _ (hs.base.zok.or (fun k hk => hk.1)) hall) ?_
  rintro e w' ⟨u, Z', rfl, hb, _, _, _, hv⟩
  exact ⟨u, rfl, u, Z, ν, rfl, hs.called hb (fun _ h => h) (fun _ h => .inl h) (fun k hk => Nat.lt_of_lt_of_le (hs.base.zLt k hk) hb.size), hv⟩
theorem k1j {fn : Func} {f : FuncId} {c : Code} {args : List AV} {res : AV} (N : Nat) (hf : P.funcs[f]? = some fn) (hb : fn.body = some c) (hname : (fn.name == "runtime.NumGoroutine") = false) (hN : fn.ntmps = N) (hlen' : Nat.ble args.length N = true)
  (h : ∀ w Z, CQ P (q0F N w Z) (V1j P fn (J1N w Z res)) (y0g 0 (args.map SV.av)) [] c) : CtrA P f args res :=
 ⟨w0O hf hb hname, fun w Z vs hZ hvs => callsIn_wide.1 (callsIn_of_wp_marks (n := 0) hf hb trivial ((h w Z).sq _ w (Q0b hN hlen' hZ hvs)))⟩
end Go.Vc
end
namespace Go.Proofs.YtgblokifbgeegaaGreatDoor
open Go Go.Vc Go.RowKit
set_option maxHeartbeats 1000000
theorem j2f (D : Nat) (w : World) (a b c a' b' c' : Int) : (Op.equalIn (D + 2) 22 (.agg #[.int .i64 a, .int .i64 b, .int .i64 c]) (.agg #[.int .i64 a', .int .i64 b', .int .i64 c'])).run Tryz.prog w = .ok ([a, b, c] == [a', b', c']) w := by
 have h := w0X (P := Tryz.prog) D w 3 (by kernel_rfl) [a, b, c] [a', b', c'] 3 0 rfl rfl
 rw [run_equalIn_array w (D + 1) _ _ (by kernel_rfl : Tryz.prog.underlying 22 = some (.array 3 3)) (i := (Tryz.prog.info? 3).getD default) (by kernel_rfl)]
 rw [show Tryz.prog.cellsOf 3 = 1 by kernel_rfl, List.range_eq_range']
 exact h
theorem k1E (a b c d e : Int) (w : World) : (part 22 #[.int .i64 a, .int .i64 b, .int .i64 c, .int .i64 d, .int .i64 e] 0).run Tryz.prog w = .ok (.agg #[.int .i64 a, .int .i64 b, .int .i64 c]) w := by kernel_rfl
theorem eqz (D : Nat) (w : World) (a b c d e a' b' c' d' e' : Int) (f0 f1 f2 : Field) (n0 : f0.name ≠ "_") (n1 : f1.name ≠ "_") (n2 : f2.name ≠ "_") (t0 : f0.type = 22) (t1 : f1.type = 3) (t2 : f2.type = 3) (o0 : f0.offset = 0) (o1 : f1.offset = 3) (o2 : f2.offset = 4) :
  (Op.eqFields (D + 2) #[.int .i64 a, .int .i64 b, .int .i64 c, .int .i64 d, .int .i64 e] #[.int .i64 a', .int .i64 b', .int .i64 c', .int .i64 d', .int .i64 e'] [f0, f1, f2]).run Tryz.prog w = .ok ([a, b, c, d, e] == [a', b', c', d', e']) w := by
 have hu : Tryz.prog.underlying 3 = some (.int .i64) := by kernel_rfl
 have x1 := q0h (P := Tryz.prog) hu w #[.int .i64 a, .int .i64 b, .int .i64 c, .int .i64 d, .int .i64 e] 3 (.int .i64 d) rfl
 have x2 := q0h (P := Tryz.prog) hu w #[.int .i64 a, .int .i64 b, .int .i64 c, .int .i64 d, .int .i64 e] 4 (.int .i64 e) rfl
 have y1 := q0h (P := Tryz.prog) hu w #[.int .i64 a', .int .i64 b', .int .i64 c', .int .i64 d', .int .i64 e'] 3 (.int .i64 d') rfl
 have y2 := q0h (P := Tryz.prog) hu w #[.int .i64 a', .int .i64 b', .int .i64 c', .int .i64 d', .int .i64 e'] 4 (.int .i64 e') rfl
 have z1 := run_equalIn_int (P := Tryz.prog) w (D + 1) 3 .i64 .i64 d d' hu
 have z2 := run_equalIn_int (P := Tryz.prog) w (D + 1) 3 .i64 .i64 e e' hu
 have z0 := j2f D w a b c a' b' c'
 simp only [Op.eqFields, if_pos n0, if_pos n1, if_pos n2, t0, t1, t2, o0, o1, o2, Sem.run_bind, k1E, x1, x2, y1, y2, Result.andThen_ok, z0, z1, z2]
 have e0 : ([a, b, c, d, e] == [a', b', c', d', e']) = (([a, b, c] == [a', b', c']) && ((d == d') && (e == e'))) := by
  rw [Bool.eq_iff_iff]; simp only [beq_iff_eq, Bool.and_eq_true, List.cons.injEq, and_true, and_assoc]
 rw [e0]
 cases hb : ([a, b, c] == [a', b', c'])
 ·simp
 ·cases hd : (d == d')
  ·simp [Sem.run_bind, x1, y1, Result.andThen_ok, z1, hd]
  ·cases he : (e == e') <;> simp [Sem.run_bind, x1, y1, x2, y2, Result.andThen_ok, z1, z2, hd, he]
theorem x1T {xs : List Int} (h : xs.length = 5) : ∃ a b c d e, xs = [a, b, c, d, e] := by
 match xs, h with
 |[a, b, c, d, e], _ => exact ⟨a, b, c, d, e, rfl⟩
theorem Q0G (t : Nat) (h : t = 24 ∨ t = 31) : (Tryz.prog.fieldsOf t).toList = [(Tryz.prog.fieldsOf t)[0]!, (Tryz.prog.fieldsOf t)[1]!, (Tryz.prog.fieldsOf t)[2]!] := by
 rcases h with rfl | rfl <;> kernel_rfl
theorem Y0f (t : Nat) (h : t = 24 ∨ t = 31) (hu : Tryz.prog.underlying t = some (.struct (Tryz.prog.fieldsOf t))) (hp : Tryz.prog.stoodInHeld t = false) (hg : Tryz.prog.eqGuardType Tryz.prog.depth t = false)
  (hf : ∀ i : Nat, i < 3 → ((Tryz.prog.fieldsOf t)[i]!).name ≠ "_") (t0 : ((Tryz.prog.fieldsOf t)[0]!).type = 22) (t1 : ((Tryz.prog.fieldsOf t)[1]!).type = 3) (t2 : ((Tryz.prog.fieldsOf t)[2]!).type = 3)
  (o0 : ((Tryz.prog.fieldsOf t)[0]!).offset = 0) (o1 : ((Tryz.prog.fieldsOf t)[1]!).offset = 3) (o2 : ((Tryz.prog.fieldsOf t)[2]!).offset = 4) : EqTy Tryz.prog t 5 := by
 refine ⟨fun op x y xs ys w => run_eqGuard_agg w op t x y xs ys hg, fun xs ys w hx hy => ?_, fun xs ys w hx hy => ?_⟩
 ·obtain ⟨a, b, c, d, e, rfl⟩ := x1T hx
  obtain ⟨a', b', c', d', e', rfl⟩ := x1T hy
  have hz := eqz 9997 w a b c d e a' b' c' d' e' _ _ _ (hf 0 zO) (hf 1 zO) (hf 2 zO) t0 t1 t2 o0 o1 o2
  rw [← Q0G t h] at hz
  rw [run_eql_struct, run_equalIn_agg w 9999 t _ _ hu hp]
  have hz' := hz
  simp only [Nat.reduceAdd] at hz'
  simp only [List.map_cons, List.map_nil]
  rw [hz']; rfl
 ·obtain ⟨a, b, c, d, e, rfl⟩ := x1T hx
  obtain ⟨a', b', c', d', e', rfl⟩ := x1T hy
  have hz := eqz 9997 w a b c d e a' b' c' d' e' _ _ _ (hf 0 zO) (hf 1 zO) (hf 2 zO) t0 t1 t2 o0 o1 o2
  rw [← Q0G t h] at hz
  rw [run_neq_struct, run_equalIn_agg w 9999 t _ _ hu hp]
  have hz' := hz
  simp only [Nat.reduceAdd] at hz'
  simp only [List.map_cons, List.map_nil]
  rw [hz']; rfl
instance te24 : EqTy Tryz.prog 24 5 := Y0f 24 (.inl rfl) (by kernel_rfl) (by kernel_rfl) (by kernel_rfl) (fun i hi => by
 rcases (by omega : i = 0 ∨ i = 1 ∨ i = 2) with rfl | rfl | rfl
 ·rw [show ((Tryz.prog.fieldsOf 24)[0]!).name = "Direction" by kernel_rfl]; decide
 ·rw [show ((Tryz.prog.fieldsOf 24)[1]!).name = "Low" by kernel_rfl]; decide
 ·rw [show ((Tryz.prog.fieldsOf 24)[2]!).name = "High" by kernel_rfl]; decide) (by kernel_rfl) (by kernel_rfl) (by kernel_rfl) (by kernel_rfl) (by kernel_rfl) (by kernel_rfl)
instance te31 : EqTy Tryz.prog 31 5 := Y0f 31 (.inr rfl) (by kernel_rfl) (by kernel_rfl) (by kernel_rfl) (fun i hi => by
 rcases (by omega : i = 0 ∨ i = 1 ∨ i = 2) with rfl | rfl | rfl
 ·rw [show ((Tryz.prog.fieldsOf 31)[0]!).name = "Direction" by kernel_rfl]; decide
 ·rw [show ((Tryz.prog.fieldsOf 31)[1]!).name = "Low" by kernel_rfl]; decide
 ·rw [show ((Tryz.prog.fieldsOf 31)[2]!).name = "High" by kernel_rfl]; decide) (by kernel_rfl) (by kernel_rfl) (by kernel_rfl) (by kernel_rfl) (by kernel_rfl) (by kernel_rfl)
end Go.Proofs.YtgblokifbgeegaaGreatDoor
