/- A part of the proof. -/
import Derived.Test.YtgblokifbgeegaaGreatDoorEar
set_option linter.unusedVariables false
set_option linter.unusedSimpArgs false
section
namespace Go.Vc
open Go Go.RowKit
variable {P : Program} {E : Env} {T : Tab} {O : Own} {d : Option Nat} {ty : TypeId} {pos : String} {af : Array Edge} {g : Option (Nat × Bool)}
theorem y0W {t e : TypeId} {x : Operand} {r off len : Nat} {cs : List SV} [ht : ArrTy P t len e 1] (hx : T.ev x = .own r off) (hr : look O r = some (.cells cs)) (h0 : 0 < len) (hml : len ≤ maxLen := by decide) :
  GV P E ⟨d, .slice t x none none none, ty, pos, af, g⟩ T O (.ocs r off len) [r] [] :=
 j0k [r] fun Z ν a w hh hO => by
  obtain ⟨b, t', arr, hb, _⟩ := hO r (by simp) _ hr
  have hax := w0O hx (hh x (by simp [Op.operands])) hb
  have hbd : (Instr.sliceBounds false len len none none none).run P w = .ok (0, len, len) w := by
   unfold Instr.sliceBounds
   simp
  refine ⟨.slice (some ⟨b, off, none⟩) len len, ?_, ⟨b, len, hb, rfl, Nat.le_refl _, hml⟩⟩
  have hne : ¬ len = 0 := by omega
  simp [execOp, Instr.sliceAt, hax, run_underlying ht.und, hbd, ht.size w, j0Q, asAddr, Instr.sureAddr, hne]
theorem X0H {f : FuncId} {x y : Operand} {ats : Array TypeId} {τ : AV} {r off len : Nat} {cs : List SV} {h : Nat → AV} {v : Value} (hc : CtrA P f [τ, .sl len 1 (fun i _ => h i)] (.val v))
  (hx : T.ev x = .av τ) (hy : T.ev y = .ocs r off len) (hr : look O r = some (.cells cs)) (hcs : (cs.drop off).take len = (List.range len).map fun i => .av (h i)) :
  GV P E ⟨d, .call ⟨.value (.func f), #[x, y], ats⟩, ty, pos, af, g⟩ T O (.av (.val v)) [r] [] := by
 refine ⟨fun T' O' hT hO => ⟨by intro c; simp, fun Z ν a w hs => ?_⟩⟩
 have e1 := j0s (o := ⟨d, .call ⟨.value (.func f), #[x, y], ats⟩, ty, pos, af, g⟩) hT (x := x) (by simp [Op.operands, Call.operands])
 have e2 := j0s (o := ⟨d, .call ⟨.value (.func f), #[x, y], ats⟩, ty, pos, af, g⟩) hT (x := y) (by simp [Op.operands, Call.operands])
 have hr' : look O' r = some (.cells cs) := by rw [hO r (by simp)]; exact hr
 have hxv := j0M hs x
 rw [e1, hx] at hxv
 have hyv := j0M hs y
 rw [e2, hy] at hyv
 have hrow := hs.own.each r _ hr'
 obtain ⟨b, t', arr, hb, k1, k2, k3, k4, k5⟩ := id hrow
 obtain ⟨b', c, h1, h2, h3, h4⟩ := hyv
 rw [hb] at h1
 simp only [Value.pointer.injEq, Option.some.injEq, Addr.mk.injEq, and_true] at h1
 subst h1
 have hlt := (Array.getElem?_eq_some_iff.1 k3).1
 have hall : All2 (fun τ v => AV.ok (fun k => Z k ∨ (k < w.heap.size ∧ ¬ E.keep k)) w τ v) [τ, .sl len 1 (fun i _ => h i)] ([x, y].map a.eval) := by
  refine ⟨AV.ok_mono (fun _ h => .inl h) (Nat.le_refl _) (fun _ _ _ => rfl) _ _ hxv, ?_, trivial⟩
  refine ⟨_, c, h2, h3, h4, fun hn => ⟨b, off, rfl, fun _ => .inr ⟨hlt, k1⟩, hlt, fun i hi j hj => ?_⟩⟩
  obtain rfl : j = 0 := by omega
  have hs1 : cs[off + i]? = some (.av (h i)) := by
   have : ((cs.drop off).take len)[i]? = some (.av (h i)) := by rw [hcs]; simp [hi]
   rw [List.getElem?_take_of_lt hi, List.getElem?_drop] at this
   exact this
  obtain ⟨u, hu, hk⟩ := x0N hrow hb hs1
  refine ⟨u, by rw [Nat.mul_one, Nat.add_zero]; exact hu, ?_⟩
  exact AV.ok_mono (fun _ h => .inl h) (Nat.le_refl _) (fun _ _ _ => rfl) _ _ hk
 refine q0o (f := f) (args := ([x, y].map a.eval).toArray) ?_ ?_
 ·have hen := hc.enters ([x, y].map a.eval).toArray w
  simp [execOp, resolve, Deferred.ofValue, Act.eval, invoke] at hen ⊢
  exact hen
 ·refine Calls.mono (hc.calls w _ _ (hs.base.zok.or (fun k hk => hk.1)) hall) ?_
  rintro e w' ⟨u, Z', rfl, hb, _, _, _, hv⟩
  exact ⟨u, rfl, u, Z, ν, rfl, hs.called hb (fun _ h => h) (fun _ h => .inl h) (fun k hk => Nat.lt_of_lt_of_le (hs.base.zLt k hk) hb.size), hv⟩
theorem Y1A {fn : Func} {f : FuncId} {c : Code} {args : List AV} {res : AV} (N : Nat) (hf : P.funcs[f]? = some fn) (hb : fn.body = some c) (hname : (fn.name == "runtime.NumGoroutine") = false) (hN : fn.ntmps = N) (hlen' : Nat.ble args.length N = true)
  (h : ∀ w Z, CQ P (q0F N w Z) (W1v P fn (Q1N w Z res)) (y0o 0 (args.map SV.av)) [] c) : CtrA P f args res :=
 ⟨w0W hf hb hname, fun w Z vs hZ hvs => callsIn_wide.1 (callsIn_of_wp_marks (n := 0) hf hb trivial ((h w Z).sq _ w (Q0k hN hlen' hZ hvs)))⟩
end Go.Vc
end
section
end
section
end
section
end
namespace Go.Proofs.YtgblokifbgeegaaGreatDoor.H
open Go Go.Vc Go.RowKit Go.Na Go.Lib
set_option maxHeartbeats 4000000
theorem W1H (n d : Int) (hn : -9000000000000000000 ≤ n ∧ n ≤ 9000000000000000000) (hd : -9000000000000000000 ≤ d ∧ d ≤ 9000000000000000000) (h0 : d ≠ 0) : CtrA Tryz.prog 186 [vi n, vi d] (j0x [vR (Rat.divInt n d), vi 0]) := by
 have h1 := X0j n zO
 have h2 := X0j d zO
 have l : ∀ x : Int, -9000000000000000000 ≤ x ∧ x ≤ 9000000000000000000 → LI 1000 x := fun x hx => LI.mono (k := 19) (show x.natAbs < 10 ^ 19 by omega) zE
 have h3 := z1t n d (l n hn) (l d hd) h0
 refine j0p _ Tryz.func186 rfl rfl Tryz.ntmps186 rfl fun w Z => ?_
 refine zU ?_
 refine wt ?_
 exact zW
end Go.Proofs.YtgblokifbgeegaaGreatDoor.H
section
end
section
namespace Go.Vc
open Go
variable {P : Program} {E : Env} {T : Tab} {O : Own} {d : Option Nat} {ty : TypeId} {pos : String} {af : Array Edge} {g : Option (Nat × Bool)}
theorem K1N {xt yt : TypeId} {x y : Operand} {k k' : IntKind} {m : Int} {n : Nat} (h1 : T.ev x = .av (.val (.int k m))) (h2 : T.ev y = .av (.val (.int k' (n : Int)))) :
  GV P E ⟨d, .binOp .shr xt x y yt, ty, pos, af, g⟩ T O (.av (.val (.int k (m.fdiv (2 ^ (min n k.bits)))))) [] [] :=
 x0X h1 h2 (fun w => j0K ..) (fun w => by
  have h : ¬ ((n : Int) < 0) := by omega
  simp [binOp, Op.shift, h])
theorem K1M {xt yt : TypeId} {x y : Operand} {k : IntKind} {m n : Int} (h1 : T.ev x = .av (.val (.int k m))) (h2 : T.ev y = .av (.val (.int k n))) :
  GV P E ⟨d, .binOp .and xt x y yt, ty, pos, af, g⟩ T O (.av (.val (.int k (k.wrap ((BitVec.ofInt k.bits m &&& BitVec.ofInt k.bits n).toNat))))) [] [] :=
 x0X h1 h2 (fun w => j0K ..) (fun w => by simp [binOp, Op.intBits])
end Go.Vc
end
