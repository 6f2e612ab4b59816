/- A part of the proof. -/
import Derived.Laws.BytesArg
import Derived.Lib.AppendStr
import Derived.Test.YtfggdokihnopeaaGreatDoorBac
set_option linter.unusedVariables false
set_option linter.unusedSimpArgs false
section
namespace Go.Vc
open Go
abbrev bs (l : List UInt8) : ByteArray := ⟨l.toArray⟩
abbrev vS (l : List UInt8) : AV := .val (.string (bs l))
variable {P : Program} {E : Env} {T : Tab} {O : Own} {d : Option Nat} {ty : TypeId} {pos : String} {af : Array Edge} {g : Option (Nat × Bool)}
theorem x0H {op : BinOp} {t : TypeId} {x y : Operand} {a b : ByteArray} {w : World} : (eqGuard op t x y (.string a) (.string b)).run P w = .ok () w := by
 unfold eqGuard
 cases op <;> simp
theorem q1f (l : List UInt8) : (bs l).toList = l := by
 rw [ByteArray.toList_eq]
def K1s : BinOp → List UInt8 → List UInt8 → Option Bool
 |.eql, x, y => some (x == y)
 |.neq, x, y => some (!(x == y))
 |.lss, x, y => some (Op.bytesLess x y)
 |_, _, _ => none
theorem V0n {op : BinOp} {xt yt : TypeId} {x y : Operand} {l m : List UInt8} {b : Bool} (h1 : T.ev x = .av (vS l)) (h2 : T.ev y = .av (vS m)) (hb : K1s op l m = some b) :
  GV P E ⟨d, .binOp op xt x y yt, ty, pos, af, g⟩ T O (.av (.val (.bool b))) [] [] :=
 y0I h1 h2 (fun w => x0H) (fun w => by
  cases op <;> simp only [K1s, Option.some.injEq, reduceCtorEq] at hb <;> subst hb <;> simp [binOp, Op.stringOp, q1f])
theorem V0R (l : List UInt8) : (bs l).size = l.length := rfl
theorem V0o {t : TypeId} {x : Operand} {l : List UInt8} [ht : StrTy P t] (hx : T.ev x = .av (vS l)) :
  GV P E ⟨d, .call ⟨.builtin .len, #[x], #[t]⟩, ty, pos, af, g⟩ T O (.av (.val (.int .i64 l.length))) [] [] :=
 j0p [] fun Z ν a w h _ => by
  have hv := j0y hx (h x (by simp [Op.operands, Call.operands]))
  refine ⟨.int .i64 l.length, ?_, rfl⟩
  simp [execOp, resolve, invoke, builtin, Builtin.len_, hv, run_underlying ht.und, goInt, V0R, -ByteArray.size_data]
theorem v0h {t : TypeId} {x y : Operand} {l : List UInt8} {q : IntKind} {i : Int} {k : Nat} {b : UInt8} [ht : StrTy P t] (hx : T.ev x = .av (vS l)) (hy : T.ev y = .av (.val (.int q i))) (hi : i = ↑k) (hk : l[k]? = some b) :
  GV P E ⟨d, .index t x y, ty, pos, af, g⟩ T O (.av (.val (.int .u8 b.toNat))) [] [] :=
 j0p [] fun Z ν a w h _ => by
  have hv := j0y hx (h x (by simp [Op.operands]))
  have hu := j0y hy (h y (by simp [Op.operands]))
  subst hi
  refine ⟨.int .u8 b.toNat, ?_, rfl⟩
  have hb : (bs l)[k]? = some b := by
   rw [List.getElem?_eq_some_iff] at hk
   obtain ⟨h1, h2⟩ := hk
   rw [getElem?_pos (bs l) k (show k < (bs l).size from h1)]
   rw [← h2]; rfl
  simp [execOp, Instr.index, hv, hu, asIntOf, run_underlying ht.und, hb]
theorem x0v {xt yt : TypeId} {x y : Operand} {l m : List UInt8} (h1 : T.ev x = .av (vS l)) (h2 : T.ev y = .av (vS m)) (hl : l.length + m.length ≤ 9223372036854775807) :
  GV P E ⟨d, .binOp .add xt x y yt, ty, pos, af, g⟩ T O (.av (vS (l ++ m))) [] [] :=
 y0I h1 h2 (fun w => x0H) (fun w => by
  have e : bs l ++ bs m = bs (l ++ m) := by apply ByteArray.ext; simp [bs]
  have hm : IntKind.i64.max = 9223372036854775807 := by decide
  have hs : ¬ (((bs l).size + (bs m).size : Nat) : Int) > IntKind.i64.max := by rw [V0R, V0R, hm]; omega
  simp only [binOp, Op.stringOp]
  rw [if_neg hs, e]; rfl)
theorem K0B (l : List UInt8) (i j : Nat) : (bs l).extract i j = bs ((l.take j).drop i) := by
 apply ByteArray.ext
 apply Array.ext'
 simp [bs, ByteArray.data_extract, List.extract_eq_take_drop, List.take_drop]
 by_cases h : i ≤ j
 ·rw [show i + (j - i) = j by omega]
 ·rw [List.drop_eq_nil_of_le (by simp; omega), List.drop_eq_nil_of_le (by simp; omega)]
theorem W0r {t : TypeId} {x : Operand} {lo hi : Option Operand} {s : List UInt8} {l h : Nat} [ht : StrTy P t] (hx : T.ev x = .av (vS s))
  (hlo : match lo with | none => l = 0 | some y => ∃ q i, T.ev y = .av (.val (.int q i)) ∧ i = ↑l) (hhi : match hi with | none => h = s.length | some y => ∃ q i, T.ev y = .av (.val (.int q i)) ∧ i = ↑h)
  (hlh : l ≤ h) (hhn : h ≤ s.length) : GV P E ⟨d, .slice t x lo hi none, ty, pos, af, g⟩ T O (.av (vS ((s.take h).drop l))) [] [] :=
 j0p [] fun Z ν a w hh _ => by
  have he := j0y hx (hh x (by simp [Op.operands]))
  have hb : (Instr.sliceBounds false (bs s).size (bs s).size (lo.map a.eval) (hi.map a.eval) none).run P w = .ok (l, h, s.length) w := by
   rw [V0R]
   have h2 : (Instr.sliceBounds false s.length s.length (lo.map a.eval) (hi.map a.eval) none) = (do
     let h ← match hi.map a.eval with | some v => Instr.sliceBound v s.length .sliceAlen | none => pure s.length
     let l ← match lo.map a.eval with | some v => Instr.sliceBound v h .sliceB | none => pure 0
     pure (l, h, s.length)) := by
    unfold Instr.sliceBounds
    cases hi <;> cases lo <;> rfl
   rw [h2]
   cases hi with
   |none =>
    dsimp only at hhi
    subst hhi
    cases lo with
    |none => dsimp only at hlo; subst hlo; simp
    |some y =>
     obtain ⟨q, i, hy, rfl⟩ := hlo
     have hv := j0y hy (hh y (by simp [Op.operands]))
     simp [hv, Instr.sliceBound, asIntOf, hlh]
   |some z =>
    obtain ⟨q', i', hz, rfl⟩ := hhi
    have hv' := j0y hz (hh z (by simp [Op.operands]))
    cases lo with
    |none => dsimp only at hlo; subst hlo; simp [hv', Instr.sliceBound, asIntOf, hhn]
    |some y =>
     obtain ⟨q, i, hy, rfl⟩ := hlo
     have hv := j0y hy (hh y (by simp [Op.operands]))
     simp [hv, hv', Instr.sliceBound, asIntOf, hlh, hhn]
  refine ⟨.string (bs ((s.take h).drop l)), ?_, rfl⟩
  simp [execOp, Instr.sliceAt, Instr.slice, he, run_underlying ht.und, hb, K0B]
end Go.Vc
end
namespace Go.Vc
open Go
def upd {α : Type} (f : Nat → α) (k : Nat) (a : α) : Nat → α := fun i => if i = k then a else f i
theorem X0a {α : Type} (f : Nat → α) (k : Nat) (a : α) : upd f k a k = a := if_pos rfl
theorem Q0K {α : Type} (f : Nat → α) {k i : Nat} (a : α) (h : i ≠ k) : upd f k a i = f i := if_neg h
end Go.Vc
section
end
section
namespace Go.Vc
open Go Go.RowKit
variable {P : Program} {E : Env} {T : Tab} {O : Own} {d : Option Nat} {ty : TypeId} {pos : String} {af : Array Edge} {g : Option (Nat × Bool)}
def vbφ (us : List Value) : j0s → World → Value → Obj → Prop := fun _ _ v ob => ∃ b t, v = .pointer (some ⟨b, 0, none⟩) ∧ ob = .cells us.toArray t (0, 0)
theorem K1b (us : List Value) : RStable (vbφ us) := fun _ _ _ _ _ _ _ _ _ h => h
def Res.vb (us : List Value) : Res := .obj (vbφ us) (K1b us)
theorem Z0I {Z : j0s} {ν : j0Q} {w : World} {v : Value} {us : List Value} (h : Res.ok E Z ν w v (.vb us)) :
  ∃ b t, v = .pointer (some ⟨b, 0, none⟩) ∧ ¬ E.keep b ∧ ¬ Z b ∧ w.heap[b]? = some (.cells us.toArray t (0, 0)) := by
 obtain ⟨b, ob, e1, e2, e3, e4, b', t, rfl, rfl⟩ := h
 simp only [j0D, Option.some.injEq] at e1
 subst e1
 exact ⟨_, t, rfl, e2, e3, e4⟩
theorem J1X {Z : j0s} {ν : j0Q} {a : Act} {w : World} {r : Nat} {us : List Value} (hs : SatZ E Z ν T O a w) (hr : look O r = some (.vb us)) :
  ∃ b t, ν r = .pointer (some ⟨b, 0, none⟩) ∧ ¬ E.keep b ∧ ¬ Z b ∧ w.heap[b]? = some (.cells us.toArray t (0, 0)) := Z0I (hs.own.each r _ hr)
theorem x0W {Z : j0s} {ν : j0Q} {w : World} {T : Tab} {x : Operand} {a : Act} {r off b : Nat} (hx : T.ev x = .own r off) (h : (T.ev x).ok Z ν w (a.eval x)) (hb : ν r = .pointer (some ⟨b, 0, none⟩)) : a.eval x = .pointer (some ⟨b, off, none⟩) := by
 obtain ⟨b', h1, h2⟩ := z0S hx h
 rw [hb] at h1
 simp only [Value.pointer.injEq, Option.some.injEq, Addr.mk.injEq, and_true] at h1
 subst h1
 exact h2
theorem v0g {t : TypeId} {x : Operand} {r off : Nat} {us : List Value} {u : Value} [ht : CellTy P t] (hx : T.ev x = .own r off) (hr : look O r = some (.vb us)) (hc : us[off]? = some u) :
  GV P E ⟨d, .load t x, ty, pos, af, g⟩ T O (.av (.val u)) [r] [] :=
 j0p [r] fun Z ν a w h hO => by
  obtain ⟨b, t', hb, _, _, hh⟩ := Z0I (hO r (by simp) _ hr)
  have hax := x0W hx (h x (by simp [Op.operands])) hb
  have hu : w.cell? ⟨b, off, none⟩ = some u := by simp [World.cell?, hh, hc]
  exact ⟨u, by simp [execOp, Instr.loadAt, hax, Instr.sureAddr, loadVar, ht.run w, hu], rfl⟩
theorem W0p {t : TypeId} {x : Operand} {r k : Nat} {us : List Value} [ht : AggTy P t k] (hx : T.ev x = .own r 0) (hr : look O r = some (.vb us)) (hk : us.length = k) :
  GV P E ⟨d, .load t x, ty, pos, af, g⟩ T O (.av (.val (.agg us.toArray))) [r] [] :=
 j0p [r] fun Z ν a w h hO => by
  subst hk
  obtain ⟨b, t', hb, _, _, hh⟩ := Z0I (hO r (by simp) _ hr)
  have hax := x0W hx (h x (by simp [Op.operands])) hb
  have hl := run_loadCells_list (P := P) (w := w) ⟨b, 0, none⟩ us (fun j v hj => by rw [j0N]; simp [World.cell?, hh, hj])
  exact ⟨_, by simp [execOp, Instr.loadAt, hax, Instr.sureAddr, loadVar, ht.agg w, ht.size w, hl], rfl⟩
theorem SatZ.storeVb {Z : j0s} {ν : j0Q} {a : Act} {w : World} {r off b : Nat} {us vs : List Value} (h : SatZ E Z ν T O a w) (hr : look O r = some (.vb us)) (hb : ν r = .pointer (some ⟨b, 0, none⟩)) (hfit : off + vs.length ≤ us.length) (h1 : ∀ v ∈ vs, v.oneCell' = true) :
  ∃ w', (storeCells ⟨b, off, none⟩ vs).run P w = .ok () w' ∧ SatZ E Z ν T ((r, .vb (us.take off ++ vs ++ us.drop (off + vs.length))) :: O) a w' := by
 obtain ⟨b', t, e1, e2, e3, e4⟩ := J1X h hr
 rw [hb] at e1
 simp only [Value.pointer.injEq, Option.some.injEq, Addr.mk.injEq, and_true] at e1
 subst e1
 have hst := run_storeCells_at P b off t vs 0 us.toArray w e4 (by simpa using hfit) h1
 simp only [Nat.add_zero] at hst
 refine ⟨_, hst, ?_⟩
 refine h.write hr (b := b) (by rw [hb]; rfl) rfl rfl rfl (by simp) (fun k hk => setRow_other w b k _ hk) (fun hsv => ?_)
 exact ⟨b, _, by rw [hb]; rfl, e2, e3, setRow_heap w b _ _ t _ e4, b, t, hb, rfl⟩
theorem V1J {α : Type} (us : List α) (off : Nat) (v : α) (h : off < us.length) : us.take off ++ [v] ++ us.drop (off + [v].length) = us.set off v := by
 rw [List.set_eq_take_append_cons_drop, if_pos h]; simp
theorem x0T {t : TypeId} {x y : Operand} {r off : Nat} {us vs : List Value} {v : Value} [ht : SizeTy P t 1] (hx : T.ev x = .own r off) (hy : T.ev y = .av (.val v)) (h1 : v.oneCell' = true) (hr : look O r = some (.vb us)) (hfit : off < us.length) (hvs : us.set off v = vs) :
  GV P E ⟨d, .store t x y, ty, pos, af, g⟩ T O (.av .any) [r] [(r, .vb vs)] := by
 subst hvs
 refine ⟨fun T' O' hT hO => ⟨by intro c; simp, fun Z ν a w hs => ?_⟩⟩
 have ex := j0H hs x
 rw [j0q (o := ⟨d, .store t x y, ty, pos, af, g⟩) hT (by simp [Op.operands]), hx] at ex
 have ey := j0H hs y
 rw [j0q (o := ⟨d, .store t x y, ty, pos, af, g⟩) hT (by simp [Op.operands]), hy] at ey
 obtain ⟨b, hb, hax⟩ := ex
 have ey' : a.eval y = v := ey
 obtain ⟨w', hst, hsat⟩ := hs.storeVb (P := P) (off := off) (vs := [v]) (by rw [hO r (by simp)]; exact hr) hb (by simp; omega) (by simpa using h1)
 rw [V1J us off v hfit] at hsat
 unfold Oper.wp
 have hrun : (execOp a.eval ⟨d, .store t x y, ty, pos, af, g⟩).run P w = .ok .skip w' := by
  have hcs : v.cells = #[v] := cells_one h1
  simp [execOp, Instr.storeAt, hax, Instr.sureAddr, storeVar, ht.run w, ey', hcs, hst]
 rw [hrun]
 exact ⟨Go.undef, Z, ν, rfl, hsat, trivial⟩
theorem Q0S {t : TypeId} {x y : Operand} {r k : Nat} {us vs : List Value} [ht : SizeTy P t k] (hx : T.ev x = .own r 0) (hy : T.ev y = .av (.val (.agg vs.toArray))) (hk : vs.length = k) (h1 : ∀ v ∈ vs, v.oneCell' = true) (hr : look O r = some (.vb us)) (hl : us.length = vs.length) :
  GV P E ⟨d, .store t x y, ty, pos, af, g⟩ T O (.av .any) [r] [(r, .vb vs)] := by
 refine ⟨fun T' O' hT hO => ⟨by intro c; simp, fun Z ν a w hs => ?_⟩⟩
 have ex := j0H hs x
 rw [j0q (o := ⟨d, .store t x y, ty, pos, af, g⟩) hT (by simp [Op.operands]), hx] at ex
 have ey := j0H hs y
 rw [j0q (o := ⟨d, .store t x y, ty, pos, af, g⟩) hT (by simp [Op.operands]), hy] at ey
 obtain ⟨b, hb, hax⟩ := ex
 subst hk
 have ey' : a.eval y = .agg vs.toArray := ey
 obtain ⟨w', hst, hsat⟩ := hs.storeVb (P := P) (off := 0) (vs := vs) (by rw [hO r (by simp)]; exact hr) hb (by omega) h1
 rw [List.take_zero, List.nil_append, List.drop_eq_nil_of_le (by omega), List.append_nil] at hsat
 unfold Oper.wp
 have hrun : (execOp a.eval ⟨d, .store t x y, ty, pos, af, g⟩).run P w = .ok .skip w' := by
  simp [execOp, Instr.storeAt, hax, Instr.sureAddr, storeVar, ht.run w, ey', Value.cells, hst]
 rw [hrun]
 exact ⟨Go.undef, Z, ν, rfl, hsat, trivial⟩
theorem j1B {t : TypeId} {zs us : List Value} (r : Nat) [hz : ZeroTy P t zs] (hu : zs = us) (hp : Nat.blt r 1000 = true := by first | rfl | assumption) : VStep P E ⟨d, .alloc t, ty, pos, af, g⟩ T O (T.kill r) ((r, .vb us) :: Own.kill r O) (.own r 0) := by
 subst hu
 refine ⟨by intro c; simp, fun Z ν a w hs => ?_⟩
 obtain ⟨z, hz, hc⟩ := hz.zero
 refine j0z (w' := w.alloc (.cells zs.toArray t)) (v := .pointer (some ⟨w.heap.size, 0, none⟩)) (by simp [execOp, Instr.alloc, hz, newVar, newRow, hc]) ?_
 refine ⟨_, Z, q0O ν r (.pointer (some ⟨w.heap.size, 0, none⟩)), rfl, hs.newRes r hp _ _ _ rfl (fun _ hk hnz => ?_), w.heap.size, by simp [q0O], rfl⟩
 exact ⟨w.heap.size, _, rfl, hk, hnz, heap_alloc_new _ _, w.heap.size, t, rfl, rfl⟩
theorem K0O {t : TypeId} {zs us : List Value} (r : Nat) [hz : ZeroTy P t zs] (hu : zs = us) (hf : q0X r T O = true) (hp : Nat.blt r 1000 = true := by first | rfl | assumption) : VStep P E ⟨d, .alloc t, ty, pos, af, g⟩ T O T ((r, .vb us) :: O) (.own r 0) := (j1B r hu hp).fresh hf
theorem K0w {t : TypeId} {x : Operand} {us : List Value} (r : Nat) (hx : T.ev x = .av (.val (.agg us.toArray))) (hp : Nat.blt r 1000 = true := by first | rfl | assumption) : VStep P E ⟨d, .box t x, ty, pos, af, g⟩ T O (T.kill r) ((r, .vb us) :: Own.kill r O) (.own r 0) := by
 refine ⟨by intro c; simp, fun Z ν a w hs => ?_⟩
 have hv := j0y hx (j0H hs x)
 refine j0z (w' := w.alloc (.cells us.toArray t)) (v := .pointer (some ⟨w.heap.size, 0, none⟩)) (by simp [execOp, Instr.box, newVar, newRow, hv, Value.cells]) ?_
 refine ⟨_, Z, q0O ν r (.pointer (some ⟨w.heap.size, 0, none⟩)), rfl, hs.newRes r hp _ _ _ rfl (fun _ hk hnz => ?_), w.heap.size, by simp [q0O], rfl⟩
 exact ⟨w.heap.size, _, rfl, hk, hnz, heap_alloc_new _ _, w.heap.size, t, rfl, rfl⟩
theorem J0k {t : TypeId} {x : Operand} {us : List Value} (r : Nat) (hx : T.ev x = .av (.val (.agg us.toArray))) (hf : q0X r T O = true) (hp : Nat.blt r 1000 = true := by first | rfl | assumption) : VStep P E ⟨d, .box t x, ty, pos, af, g⟩ T O T ((r, .vb us) :: O) (.own r 0) := (K0w r hx hp).fresh hf
theorem X1z (r : Nat) {us vs : List Value} (hr : look O r = some (.vb us)) (h : us = vs) : Ent T O T ((r, .vb vs) :: O) := by
 subst h
 exact Q1H (upd := [(r, .vb us)]) ⟨⟨_, hr, .refl _⟩, trivial⟩
theorem v0K {x : Operand} {i : Nat} {cs : List CV} {c : CV} (hx : T.ev x = .tupC cs) (hi : cs[i]? = some c) : GV P E ⟨d, .extract x i, ty, pos, af, g⟩ T O c.sv [] [] :=
 j0p [] fun Z ν a w h _ => by
  have hv := h x (by simp [Op.operands])
  rw [hx] at hv
  obtain ⟨vs, e1, e2⟩ := hv
  obtain ⟨u, hu, hk⟩ := e2.get i c hi
  exact ⟨u, by simp [execOp, Instr.extract, e1, hu], CV.sv_ok.2 hk⟩
variable {fn : Func} {w : World} {Z : j0s} {ν : j0Q} {N : Nat} {O' : Own} {res : SV}
theorem K0n {t u : Nat} {c1 c2 : CV} (hr : fn.results = #[.tmp t, .tmp u]) (hhi : V0v O = true) (ht : T.get t = c1.sv) (hu : T.get u = c2.sv) (hres : res = .tupC [c1, c2]) : SQ (Q0M N w Z O ν) T O' (bodyPost P fn (Q1e w Z ν O res O') .ret) := by
 rintro a w' ⟨Z', ν', h⟩
 have h1 := h.slot t
 have h2 := h.slot u
 rw [ht] at h1
 rw [hu] at h2
 subst hres
 exact bodyPost_ret (results_tmp2 hr a.tmps P w') h.defers ⟨_, Z', ν', rfl, y0z h.base, J0x hhi h, y0X h.own, ⟨[a.tmps.getD t undef, a.tmps.getD u undef], rfl, CV.sv_ok.1 h1, CV.sv_ok.1 h2, trivial⟩⟩
theorem J0y {rvs : List ResultVar} {τs : List AV} (hr : fn.results = rvs.toArray) (hn : Nat.blt 1 rvs.length = true) (hhi : V0v O = true) (ht : All2 (ResV P T O') rvs τs) (hres : res = .av (j0B τs)) : SQ (Q0M N w Z O ν) T O' (bodyPost P fn (Q1e w Z ν O res O') .ret) := by
 subst hres
 rintro a w' ⟨Z', ν', h⟩
 have key : ∀ (rvs : List ResultVar) (τs : List AV), All2 (ResV P T O') rvs τs → ∃ vs, All2 (fun rv v => (Q0y a.tmps rv).run P w' = Result.ok v w') rvs vs ∧ All2 (fun τ v => AV.ok Z' w' τ v) τs vs := by
  intro rvs
  induction rvs with
  |nil => intro τs h; match τs, h with | [], _ => exact ⟨[], trivial, trivial⟩
  |cons rv rvs ih =>
   intro τs h'
   match τs, h' with
   |τ :: τs, h' =>
    obtain ⟨v, hv, hk⟩ := h'.1.run h
    obtain ⟨vs, h1, h2⟩ := ih τs h'.2
    exact ⟨v :: vs, ⟨hv, h1⟩, ⟨hk, h2⟩⟩
 obtain ⟨vs, h1, h2⟩ := key rvs τs ht
 have hl : vs.length = rvs.length := h1.len.symm
 have hrun := v0Y (P := P) (w := w') hr h1
 have hne : ¬ vs.toArray.size = 1 := by
  have := j0L hn
  simp; omega
 rw [dif_neg hne] at hrun
 refine bodyPost_ret (v := .tuple vs.toArray) hrun h.defers ⟨_, Z', ν', rfl, y0z h.base, J0x hhi h, y0X h.own, ⟨vs, rfl, h2.len.symm, fun i hi => ?_⟩⟩
 have hi' : i < τs.length := hi
 obtain ⟨u, hu, hk⟩ := h2.get i τs[i] (List.getElem?_eq_getElem hi')
 exact ⟨u, hu, by simpa [List.getD, List.getElem?_eq_getElem hi'] using hk⟩
end Go.Vc
end
section
namespace Go.Vc
open Go Go.RowKit
def wvs (N : Nat) (b : Bool) (n : Int) (f : Nat → Int) : List Value := .bool b :: .int .i64 n :: (List.range N).map fun i => .int .i64 (f i)
theorem q0v (N : Nat) (b : Bool) (n : Int) (f : Nat → Int) : (wvs N b n f).length = N + 2 := by simp [wvs]
theorem w0b {N : Nat} {b : Bool} {n : Int} {f : Nat → Int} {k o : Nat} (ho : o = k + 2) (h : k < N) : (wvs N b n f)[o]? = some (.int .i64 (f k)) := by
 subst ho
 simp [wvs, h]
theorem W1F {N : Nat} {b : Bool} {n : Int} {f : Nat → Int} {k o : Nat} {v : Int} (ho : o = k + 2) (h : k < N) : (wvs N b n f).set o (.int .i64 v) = wvs N b n (upd f k v) := by
 subst ho
 apply List.ext_getElem?
 intro i
 by_cases hi : i < N + 2
 ·rcases i with _ | _ | i
  ·simp [wvs]
  ·simp [wvs]
  ·have hi' : i < N := by omega
   rw [w0b rfl hi']
   by_cases h2 : i = k
   ·subst h2
    rw [List.getElem?_set_self (by rw [q0v]; omega), X0a]
   ·rw [List.getElem?_set_ne (by omega), w0b rfl hi', Q0K _ _ h2]
 ·rw [List.getElem?_eq_none (by rw [List.length_set, q0v]; omega), List.getElem?_eq_none (by rw [q0v]; omega)]
theorem z1C {N : Nat} {b : Bool} {n m : Int} {f : Nat → Int} : (wvs N b n f).set 1 (.int .i64 m) = wvs N b m f := rfl
theorem z1B {N : Nat} {b c : Bool} {n : Int} {f : Nat → Int} : (wvs N b n f).set 0 (.bool c) = wvs N c n f := rfl
theorem x1C {N : Nat} {b : Bool} {n : Int} {f : Nat → Int} : ∀ v ∈ wvs N b n f, v.oneCell' = true := by
 intro v hv
 simp only [wvs, List.mem_cons, List.mem_map, List.mem_range] at hv
 rcases hv with rfl | rfl | ⟨i, _, rfl⟩ <;> rfl
def Res.wi (b : Bool) (n : Int) (f : Nat → Int) : Res := .vb (wvs 232 b n f)
variable {P : Program} {E : Env} {T : Tab} {O : Own} {d : Option Nat} {ty : TypeId} {pos : String} {af : Array Edge} {g : Option (Nat × Bool)}
variable {t : TypeId} {x y : Operand} {r off k : Nat} {b : Bool} {n : Int} {f : Nat → Int}
theorem q1Z (k : Nat) [ht : CellTy P t] (hx : T.ev x = .own r off) (hr : look O r = some (.wi b n f)) (ho : off = k + 2) (hk : k < 232) :
  GV P E ⟨d, .load t x, ty, pos, af, g⟩ T O (.av (.val (.int .i64 (f k)))) [r] [] := v0g hx hr (w0b ho hk)
theorem w0I [ht : CellTy P t] (hx : T.ev x = .own r off) (hr : look O r = some (.wi b n f)) (ho : Nat.beq off 1 = true) :
  GV P E ⟨d, .load t x, ty, pos, af, g⟩ T O (.av (.val (.int .i64 n))) [r] [] := v0g hx hr (by rw [Nat.eq_of_beq_eq_true ho]; rfl)
theorem w0H [ht : CellTy P t] (hx : T.ev x = .own r off) (hr : look O r = some (.wi b n f)) (ho : Nat.beq off 0 = true) :
  GV P E ⟨d, .load t x, ty, pos, af, g⟩ T O (.av (.val (.bool b))) [r] [] := v0g hx hr (by rw [Nat.eq_of_beq_eq_true ho]; rfl)
theorem x0U (k : Nat) {v : Int} [ht : SizeTy P t 1] (hx : T.ev x = .own r off) (hy : T.ev y = .av (.val (.int .i64 v))) (hr : look O r = some (.wi b n f)) (ho : off = k + 2) (hk : k < 232) :
  GV P E ⟨d, .store t x y, ty, pos, af, g⟩ T O (.av .any) [r] [(r, .wi b n (upd f k v))] := x0T hx hy rfl hr (by rw [q0v]; omega) (W1F ho hk)
theorem q0Z {m : Int} [ht : SizeTy P t 1] (hx : T.ev x = .own r off) (hy : T.ev y = .av (.val (.int .i64 m))) (hr : look O r = some (.wi b n f)) (ho : Nat.beq off 1 = true) :
  GV P E ⟨d, .store t x y, ty, pos, af, g⟩ T O (.av .any) [r] [(r, .wi b m f)] := by
 have ho' := Nat.eq_of_beq_eq_true ho
 subst ho'
 exact x0T hx hy rfl hr (by rw [q0v]; omega) z1C
theorem q0Y {c : Bool} [ht : SizeTy P t 1] (hx : T.ev x = .own r off) (hy : T.ev y = .av (.val (.bool c))) (hr : look O r = some (.wi b n f)) (ho : Nat.beq off 0 = true) :
  GV P E ⟨d, .store t x y, ty, pos, af, g⟩ T O (.av .any) [r] [(r, .wi c n f)] := by
 have ho' := Nat.eq_of_beq_eq_true ho
 subst ho'
 exact x0T hx hy rfl hr (by rw [q0v]; omega) z1B
theorem Y0Z [ht : AggTy P t 234] (hx : T.ev x = .own r 0) (hr : look O r = some (.wi b n f)) :
  GV P E ⟨d, .load t x, ty, pos, af, g⟩ T O (.av (.val (.agg (wvs 232 b n f).toArray))) [r] [] := W0p hx hr (q0v ..)
theorem z0O {c : Bool} {m : Int} {h : Nat → Int} [ht : SizeTy P t 234] (hx : T.ev x = .own r 0) (hy : T.ev y = .av (.val (.agg (wvs 232 c m h).toArray))) (hr : look O r = some (.wi b n f)) :
  GV P E ⟨d, .store t x y, ty, pos, af, g⟩ T O (.av .any) [r] [(r, .wi c m h)] := Q0S hx hy (q0v ..) x1C hr (by rw [q0v, q0v])
class WideTy (P : Program) (t : TypeId) : Prop where
 zero : ∃ z, (∀ w, (zeroValue t).run P w = .ok z w) ∧ z.cells = (wvs 232 false 0 (fun _ => 0)).toArray
theorem q1K (r : Nat) [hz : WideTy P t] (hf : q0X r T O = true) (hp : Nat.blt r 1000 = true := by first | rfl | assumption) : VStep P E ⟨d, .alloc t, ty, pos, af, g⟩ T O T ((r, .wi false 0 (fun _ => 0)) :: O) (.own r 0) :=
 have : ZeroTy P t (wvs 232 false 0 (fun _ => 0)) := ⟨hz.zero⟩
 K0O r rfl hf hp
theorem y0k (r : Nat) (hx : T.ev x = .av (.val (.agg (wvs 232 b n f).toArray))) (hf : q0X r T O = true) (hp : Nat.blt r 1000 = true := by first | rfl | assumption) : VStep P E ⟨d, .box t x, ty, pos, af, g⟩ T O T ((r, .wi b n f) :: O) (.own r 0) := J0k r hx hf hp
theorem Q1I (r : Nat) {b' : Bool} {n' : Int} {f' : Nat → Int} (hr : look O r = some (.wi b n f)) (hb : b = b') (hn : n = n') (hf : f = f') : Ent T O T ((r, .wi b' n' f') :: O) := X1z r hr (by rw [hb, hn, hf])
def V1K (f : Nat → Int) (k : Nat) : Nat → Int := fun i => if 1 ≤ i ∧ i ≤ k then f (i - 1) else f i
end Go.Vc
end
section
namespace Go.Vc
open Go Go.RowKit
variable {P : Program} {E : Env} {T : Tab} {O : Own} {d : Option Nat} {ty : TypeId} {pos : String} {af : Array Edge} {g : Option (Nat × Bool)}
variable {t xt yt : TypeId} {x y z : Operand} {s : List UInt8} {q q' : IntKind} {i i' : Int} {l h : Nat}
theorem y0n [ht : StrTy P t] (l : Nat) (hx : T.ev x = .av (vS s)) (hy : T.ev y = .av (.val (.int q i))) (hi : i = ↑l) (hl : l ≤ s.length) :
  GV P E ⟨d, .slice t x (some y) none none, ty, pos, af, g⟩ T O (.av (vS (s.drop l))) [] [] := by
 have := W0r (P := P) (E := E) (O := O) (d := d) (ty := ty) (pos := pos) (af := af) (g := g) (t := t) (x := x) (lo := some y) (hi := none) (l := l) (h := s.length) hx ⟨q, i, hy, hi⟩ rfl hl (Nat.le_refl _)
 rwa [List.take_length] at this
theorem X1P [ht : StrTy P t] (h : Nat) (hx : T.ev x = .av (vS s)) (hy : T.ev y = .av (.val (.int q i))) (hi : i = ↑h) (hl : h ≤ s.length) :
  GV P E ⟨d, .slice t x none (some y) none, ty, pos, af, g⟩ T O (.av (vS (s.take h))) [] [] := by
 have := W0r (P := P) (E := E) (O := O) (d := d) (ty := ty) (pos := pos) (af := af) (g := g) (t := t) (x := x) (lo := none) (hi := some y) (l := 0) (h := h) hx rfl ⟨q, i, hy, hi⟩ (Nat.zero_le _) hl
 rwa [List.drop_zero] at this
theorem x0S {k' : IntKind} [hs : IntTy P xt k'] [ht : IntTy P yt .i64] (h1 : T.ev x = .av (.val (.int k' i))) (h : -9223372036854775808 ≤ i ∧ i ≤ 9223372036854775807) :
  GV P E ⟨d, .convert xt yt x, ty, pos, af, g⟩ T O (.av (.val (.int .i64 i))) [] [] :=
 q1Y h1 (IntWalk.i64_in i zO)
theorem Q0d {m n : Int} (h1 : T.ev x = .av (.val (.int .i64 m))) (h2 : T.ev y = .av (.val (.int .i64 n))) (hn : n ≠ 0) (hmax : -9223372036854775807 ≤ m ∧ m ≤ 9223372036854775807) :
  GV P E ⟨d, .binOp .quo xt x y yt, ty, pos, af, g⟩ T O (.av (.val (.int .i64 (m.tdiv n)))) [] [] :=
 y0I h1 h2 (fun w => q0f ..) (fun w => by
  have := Int.natAbs_tdiv_le_natAbs m n
  simp [binOp, Op.intDiv, hn, IntWalk.i64_in (m.tdiv n) (by omega)])
theorem Q0e {m n : Int} (h1 : T.ev x = .av (.val (.int .i64 m))) (h2 : T.ev y = .av (.val (.int .i64 n))) (hn : n ≠ 0) :
  GV P E ⟨d, .binOp .rem xt x y yt, ty, pos, af, g⟩ T O (.av (.val (.int .i64 (m.tmod n)))) [] [] :=
 y0I h1 h2 (fun w => q0f ..) (fun w => by
  simp [binOp, Op.intDiv, hn])
theorem z1u (b c : UInt8) : ((b.toNat : Int) = (c.toNat : Int)) ↔ b = c := by
 constructor
 ·intro h; exact UInt8.toNat_inj.1 zO
 ·rintro rfl; rfl
end Go.Vc
end
section
namespace Go.Vc
open Go Go.RowKit
variable {P : Program} {E : Env} {T : Tab} {O : Own} {d : Option Nat} {ty : TypeId} {pos : String} {af : Array Edge} {g : Option (Nat × Bool)}
def vbA (us : List Value) : AV := .ptr us.length (fun i => .val (us.getD i undef))
inductive BArg (T : Tab) (O : Own) : Operand → AV → Prop
 |av {x : Operand} {τ : AV} (h : T.ev x = .av τ) : BArg T O x τ
 |vb {x : Operand} {r : Nat} {us : List Value} (h : T.ev x = .own r 0) (hr : look O r = some (.vb us)) : BArg T O x (vbA us)
theorem J1W {Z Z' : j0s} {ν : j0Q} {w : World} {v : Value} {us : List Value} (h : Res.ok E Z ν w v (.vb us)) (hb : ∀ b, j0D v = some b → Z' b) : (vbA us).ok Z' w v := by
 obtain ⟨b, t, rfl, h1, h2, h3⟩ := Z0I h
 refine ⟨b, 0, rfl, fun _ => hb b rfl, (Array.getElem?_eq_some_iff.1 h3).1, fun i hi => ⟨us.getD i undef, ?_, rfl⟩⟩
 simp [World.cell?, h3, List.getD, hi]
theorem BArg.ok {Z : j0s} {ν : j0Q} {a : Act} {w : World} {x : Operand} {τ : AV} (hb : BArg T O x τ) (h : SatZ E Z ν T O a w) : τ.ok (fun k => Z k ∨ (k < w.heap.size ∧ ¬ E.keep k)) w (a.eval x) := by
 have hx := j0H h x
 cases hb with
 |av he => rw [he] at hx; exact AV.ok_mono (fun _ h => .inl h) (Nat.le_refl _) (fun _ _ _ => rfl) _ _ hx
 |vb he hr =>
  have hrow := h.own.each _ _ hr
  obtain ⟨b, t, hv, _, _, _⟩ := Z0I hrow
  have hax := x0W he hx hv
  rw [← hv] at hax
  rw [hax]
  exact J1W hrow (fun b' hb' => .inr ⟨(Res.blk_lt hrow hb').1, (Res.blk_lt hrow hb').2.2⟩)
def AV.flat (res : AV) : Prop := ∀ Z w Z' w' v, res.ok Z w v → res.ok Z' w' v
theorem q0I (v : Value) : (AV.val v).flat := fun _ _ _ _ _ h => h
theorem J0m (vs : List Value) : (j0B (vs.map AV.val)).flat := by
 rintro Z w Z' w' v ⟨cs, h1, h2, h3⟩
 refine ⟨cs, h1, h2, fun i hi => ?_⟩
 obtain ⟨u, hu, hk⟩ := h3 i hi
 refine ⟨u, hu, ?_⟩
 have hi' : i < vs.length := by simpa using hi
 have e : (vs.map AV.val).getD i .any = .val vs[i] := by simp [List.getD, hi']
 dsimp only at hk ⊢
 rw [e] at hk ⊢
 exact hk
theorem q1V {f : FuncId} {c : Operand} {xs : List Operand} {ats : Array TypeId} {τs : List AV} {res : AV} (rr : List Nat) (hc : CtrA P f τs res) (hfl : res.flat) (hf : T.ev c = .av (.val (.func (.func f) #[] #[])))
  (hx : ∀ (T' : Tab) (O' : Own), (∀ x ∈ xs, T'.ev x = T.ev x) → (∀ r ∈ rr, look O' r = look O r) → All2 (BArg T' O') xs τs) :
  GV P E ⟨d, .call ⟨.value c, xs.toArray, ats⟩, ty, pos, af, g⟩ T O (.av res) rr [] := by
 refine ⟨fun T' O' hT hO => ⟨by intro c; simp, fun Z ν a w hs => ?_⟩⟩
 have hsame : ∀ x ∈ xs, T'.ev x = T.ev x := fun x hxm => j0q (o := ⟨d, .call ⟨.value c, xs.toArray, ats⟩, ty, pos, af, g⟩) hT (by simp [Op.operands, Call.operands, hxm])
 have hfv : a.eval c = .func (.func f) #[] #[] := by
  have hx := j0H hs c
  rw [j0q (o := ⟨d, .call ⟨.value c, xs.toArray, ats⟩, ty, pos, af, g⟩) hT (by simp [Op.operands, Call.operands])] at hx
  exact j0y hf hx
 have hall : All2 (fun τ v => AV.ok (fun k => Z k ∨ (k < w.heap.size ∧ ¬ E.keep k)) w τ v) τs (xs.map a.eval) := by
  have hb := hx T' O' hsame hO
  clear hx hsame hc hT hO hf
  induction xs generalizing τs with
  |nil => cases τs with
   |nil => trivial
   |cons _ _ => exact hb.elim
  |cons x xs ih => cases τs with
   |nil => exact hb.elim
   |cons τ τs => exact ⟨hb.1.ok hs, ih hb.2⟩
 refine q0k (f := f) (args := (xs.map a.eval).toArray) ?_ ?_
 ·have hen := hc.enters (xs.map a.eval).toArray w
  simp [execOp, resolve, Deferred.ofValue, hfv, invoke] at hen ⊢
  exact hen
 ·refine Calls.mono (hc.calls w _ _ (hs.base.zok.or (fun k hk => hk.1)) hall) ?_
  rintro e w' ⟨u, Z', rfl, hb, _, _, _, hv⟩
  exact ⟨u, rfl, u, Z, ν, rfl, hs.called hb (fun _ h => h) (fun _ h => .inl h) (fun k hk => Nat.lt_of_lt_of_le (hs.base.zLt k hk) hb.size), hfl _ _ _ _ _ hv⟩
theorem BArg.cong {T' : Tab} {O' : Own} {x : Operand} {τ : AV} (hT : T'.ev x = T.ev x) (hO : ∀ r ∈ (match T.ev x with | .own r _ => [r] | _ => []), look O' r = look O r) (h : BArg T O x τ) : BArg T' O' x τ := by
 cases h with
 |av h => exact .av (hT.trans h)
 |vb h hr => rw [h] at hO; exact .vb (hT.trans h) ((hO _ (by simp)).trans hr)
def Y1q (T : Tab) (xs : List Operand) : List Nat := xs.flatMap fun x => match T.ev x with | .own r _ => [r] | _ => []
theorem X0n {T' : Tab} {O' : Own} : ∀ {xs : List Operand} {τs : List AV}, (∀ x ∈ xs, T'.ev x = T.ev x) → (∀ r ∈ Y1q T xs, look O' r = look O r) → All2 (BArg T O) xs τs → All2 (BArg T' O') xs τs
 |[], [], _, _, _ => trivial
 |[], _ :: _, _, _, h => h.elim
 |_ :: _, [], _, _, h => h.elim
 |x :: xs, τ :: τs, h1, h2, h => ⟨h.1.cong (h1 x (by simp)) (fun r hr => h2 r (List.mem_flatMap.2 ⟨x, by simp, hr⟩)), X0n (fun y hy => h1 y (by simp [hy])) (fun r hr => h2 r (by
   obtain ⟨y, hy, hr⟩ := List.mem_flatMap.1 hr
   exact List.mem_flatMap.2 ⟨y, by simp [hy], hr⟩)) h.2⟩
theorem q0p {f : FuncId} {c : Operand} {xs : List Operand} {ats : Array TypeId} {τs : List AV} {res : AV} (hc : CtrA P f τs res) (hf : T.ev c = .av (.val (.func (.func f) #[] #[]))) (hx : All2 (BArg T O) xs τs) (hfl : res.flat) :
  GV P E ⟨d, .call ⟨.value c, xs.toArray, ats⟩, ty, pos, af, g⟩ T O (.av res) (Y1q T xs) [] :=
 q1V _ hc hfl hf fun _ _ hT hO => X0n hT hO hx
theorem W0g (k r : Nat) {us : List Value} (hd : T.get k = .own r 0) (hr : look O r = some (.vb us)) : Ent T O ((k, .av (vbA us)) :: T.frz r .any) (Own.drop r O) := by
 rintro E a w ⟨Z, ν, h⟩
 have hrow := h.own.each r _ hr
 obtain ⟨b, t, e1, e2, e3, e4⟩ := Z0I hrow
 have hlt := (Array.getElem?_eq_some_iff.1 e4).1
 have hav : ∀ (τ : AV) v, τ.ok Z w v → τ.ok (fun k => Z k ∨ k = b) w v := AV.ok_mono (fun _ h => .inl h) (Nat.le_refl _) (fun _ _ _ => rfl)
 refine ⟨fun k => Z k ∨ k = b, ν, h.defers, h.tsize, h.cst, h.pin, ⟨h.base.os, h.base.tape, h.base.output, h.base.size, h.base.keepLt, h.base.kept, h.base.zok.or (fun k hk => hk ▸ hlt), fun k hk => .inl (h.base.z0 k hk), fun k hk => ?_⟩, ⟨fun k x hx => ?_, fun k k' hne h1 h2 => ?_⟩, fun q => ?_⟩
 ·rcases hk with hk | rfl
  ·exact h.base.zNew k hk
  ·exact .inr e2
 ·rw [Own.look_drop] at hx
  by_cases hkr : k = r
  ·rw [if_pos hkr] at hx; cases hx
  ·rw [if_neg hkr] at hx
   refine Res.ok_env (h.own.each k x hx) hav (fun b' hb' => ?_)
   obtain ⟨q1, q3, q4⟩ := Res.blk_lt (h.own.each k x hx) hb'
   refine ⟨fun hz => ?_, q4, rfl⟩
   rcases hz with hz | rfl
   ·exact q3 hz
   ·exact h.own.apart r k (fun e => hkr e.symm) (by rw [hr]; simp) (by rw [hx]; simp) b' (by rw [e1]; rfl) hb'
 ·have hh : ∀ k, look (Own.drop r O) k ≠ none → look O k ≠ none := fun k hk => by
   rw [Own.look_drop] at hk
   by_cases hkr : k = r
   ·rw [if_pos hkr] at hk; exact absurd rfl hk
   ·rwa [if_neg hkr] at hk
  exact h.own.apart k k' hne (hh k h1) (hh k' h2)
 ·by_cases hk : k = q
  ·subst hk
   rw [Tab.get_cons_eq]
   have hs := h.slot k
   rw [hd] at hs
   obtain ⟨b', q1, q2⟩ := hs
   rw [e1] at q1
   cases q1
   show (vbA us).ok _ w _
   rw [q2, ← e1]
   exact J1W hrow (fun b' hb' => by rw [e1] at hb'; cases hb'; exact .inr rfl)
  ·rw [Tab.get_cons_ne _ _ hk, Tab.get_frz]
   have hs := h.slot q
   generalize T.get q = s at hs
   have hsv := SV.ok_av (ν := ν) hav s _ hs
   cases s with
   |av σ => exact hsv
   |clo q cs' => simp only [SV.frz]; split <;> first | exact trivial | exact hsv
   |_ => simp only [SV.frz]; split <;> first | exact trivial | exact hsv
theorem z0M {t e : TypeId} {x y : Operand} {len sz n : Nat} {f : Nat → AV} {q : IntKind} {i : Int} (k : Nat) [ht : ArrTy P t len e sz] (hx : T.ev x = .av (.ptr n f)) (hy : T.ev y = .av (.val (.int q i))) (hi : i = ↑k) (hk : k < len) (hn : (k + 1) * sz ≤ n) :
  GV P E ⟨d, .indexAddr t x y, ty, pos, af, g⟩ T O (.av (.ptr sz (fun j => f (k * sz + j)))) [] [] := q0Q hx hy hi hk (by rw [Nat.ble_eq]; exact hn)
def wA (b : Bool) (n : Int) (f : Nat → Int) : AV := .ptr 234 (fun i => .val ((wvs 232 b n f).getD i undef))
theorem Z1A (b : Bool) (n : Int) (f : Nat → Int) : vbA (wvs 232 b n f) = wA b n f := by
 unfold vbA wA
 rw [q0v]
theorem Z1B {b : Bool} {n : Int} {f : Nat → Int} {o k : Nat} (ho : o = k + 2) (h : k < 232) : AV.val ((wvs 232 b n f).getD o undef) = .val (.int .i64 (f k)) := by
 rw [List.getD, w0b ho h]; rfl
theorem y0o {t e : TypeId} {x : Operand} {lo hi : Option Operand} {r off len l h : Nat} {us : List Value} [ht : ArrTy P t len e 1] (hx : T.ev x = .own r off) (hr : look O r = some (.vb us))
  (hlo : match lo with | none => l = 0 | some y => ∃ q i, T.ev y = .av (.val (.int q i)) ∧ i = ↑l) (hhi : match hi with | none => h = len | some y => ∃ q i, T.ev y = .av (.val (.int q i)) ∧ i = ↑h)
  (hlh : l ≤ h) (hhn : h ≤ len) (hl0 : l < len) : GV P E ⟨d, .slice t x lo hi none, ty, pos, af, g⟩ T O (.ocs r (off + l) (h - l)) [r] [] :=
 j0p [r] fun Z ν a w hh hO => by
  obtain ⟨b, t', hb, _, _, hhp⟩ := Z0I (hO r (by simp) _ hr)
  have hax := x0W hx (hh x (by simp [Op.operands])) hb
  have hbd : (Instr.sliceBounds false len len (lo.map a.eval) (hi.map a.eval) none).run P w = .ok (l, h, len) w := by
   unfold Instr.sliceBounds
   cases hi with
   |none =>
    dsimp only at hhi
    subst hhi
    cases lo with
    |none => dsimp only at hlo; subst hlo; simp
    |some y =>
     obtain ⟨q, i, hy, rfl⟩ := hlo
     have hv := j0y hy (hh y (by simp [Op.operands]))
     simp [hv, Instr.sliceBound, asIntOf, hlh]
   |some z =>
    obtain ⟨q', i', hz, rfl⟩ := hhi
    have hv' := j0y hz (hh z (by simp [Op.operands]))
    cases lo with
    |none => dsimp only at hlo; subst hlo; simp [hv', Instr.sliceBound, asIntOf, hhn]
    |some y =>
     obtain ⟨q, i, hy, rfl⟩ := hlo
     have hv := j0y hy (hh y (by simp [Op.operands]))
     simp [hv, hv', Instr.sliceBound, asIntOf, hlh, hhn]
  refine ⟨.slice (some ⟨b, off + l, none⟩) (h - l) (len - l), ?_, ⟨b, len - l, hb, rfl⟩⟩
  have hne : ¬ len = l := by omega
  simp [execOp, Instr.sliceAt, hax, run_underlying ht.und, hbd, ht.size w, j0N, asAddr, Instr.sureAddr, hne]
theorem J1s {Z : j0s} {ν : j0Q} {w : World} {x : Operand} {a : Act} {r off len b : Nat} (hx : T.ev x = .ocs r off len) (h : (T.ev x).ok Z ν w (a.eval x)) (hb : ν r = .pointer (some ⟨b, 0, none⟩)) : ∃ c, a.eval x = .slice (some ⟨b, off, none⟩) len c := by
 rw [hx] at h
 obtain ⟨b', c, h1, h2⟩ := h
 rw [hb] at h1
 simp only [Value.pointer.injEq, Option.some.injEq, Addr.mk.injEq, and_true] at h1
 subst h1
 exact ⟨c, h2⟩
theorem K0T {t t' e : TypeId} {x y : Operand} {r o1 l1 o2 l2 : Nat} {us vs : List Value} [ht : SlTy P t e 1] (hx : T.ev x = .ocs r o1 l1) (hy : T.ev y = .ocs r o2 l2) (hr : look O r = some (.vb us)) (hle : l2 ≤ l1) (h1 : o1 + l2 ≤ us.length) (h2 : o2 + l2 ≤ us.length) (hone : ∀ v ∈ us, v.oneCell' = true)
  (hvs : us.take o1 ++ (us.drop o2).take l2 ++ us.drop (o1 + l2) = vs) :
  GV P E ⟨d, .call ⟨.builtin .copy, #[x, y], #[t, t']⟩, ty, pos, af, g⟩ T O (.av (.val (.int .i64 (l2 : Nat)))) [r] [(r, .vb vs)] := by
 subst hvs
 refine ⟨fun T' O' hT hO => ⟨by intro c; simp, fun Z ν a w hs => ?_⟩⟩
 have ex := j0H hs x
 have ey := j0H hs y
 have e1 := j0q (o := ⟨d, .call ⟨.builtin .copy, #[x, y], #[t, t']⟩, ty, pos, af, g⟩) hT (x := x) (by simp [Op.operands, Call.operands])
 have e2 := j0q (o := ⟨d, .call ⟨.builtin .copy, #[x, y], #[t, t']⟩, ty, pos, af, g⟩) hT (x := y) (by simp [Op.operands, Call.operands])
 have hr' : look O' r = some (.vb us) := by rw [hO r (by simp)]; exact hr
 obtain ⟨b, tt, hb, hk, hz, hh⟩ := J1X hs hr'
 obtain ⟨c1, q1⟩ := J1s (e1.trans hx) ex hb
 obtain ⟨c2, q2⟩ := J1s (e2.trans hy) ey hb
 have hinf := Y0m ht.size
 have hcl : ((us.drop o2).take l2).length = l2 := by simp; omega
 have hrun := run_copy_row (P := P) w t t' ty e b o1 l1 c1 ⟨b, o2, none⟩ l2 c2 us.toArray tt ((us.drop o2).take l2) ht.und hinf hh (by rw [hcl]; exact (Nat.min_eq_left hle).symm) (fun j v hj => by
  rw [j0N]
  have hjl := (List.getElem?_eq_some_iff.1 hj).1
  rw [hcl] at hjl
  rw [List.getElem?_take_of_lt hjl, List.getElem?_drop] at hj
  simp [World.cell?, hh, hj]) (by rw [hcl]; simpa using h1) (fun v hv => hone v (List.mem_of_mem_drop (List.mem_of_mem_take hv)))
 rw [hcl] at hrun
 refine j0z (w' := w.setRow b (us.take o1 ++ (us.drop o2).take l2 ++ us.drop (o1 + l2)).toArray) (v := .int .i64 (l2 : Nat)) ?_ ⟨_, Z, ν, rfl, ?_, rfl⟩
 ·simp only [execOp, resolve, invoke, builtin, Sem.run_bind, Sem.run_pure, Result.andThen_ok, List.map_toArray, List.map_cons, List.map_nil, q1, q2, hrun, goInt]
 ·refine hs.write hr' (b := b) (by rw [hb]; rfl) rfl rfl rfl (by simp) (fun k hk => setRow_other w b k _ hk) (fun hsv => ?_)
  exact ⟨b, _, by rw [hb]; rfl, hk, hz, setRow_heap w b _ _ tt _ hh, b, tt, hb, rfl⟩
theorem V0m {x : Operand} {n : Nat} {f : Nat → AV} (hx : T.ev x = .av (.ptr n f)) : GV P E ⟨d, .nilCheck x, ty, pos, af, g⟩ T O (.av (.ptr n f)) [] [] :=
 j0p [] fun Z ν a w h _ => by
  have hk := h x (by simp [Op.operands])
  obtain ⟨b, o, he, _⟩ := z0T hx hk
  refine ⟨a.eval x, by simp [execOp, he], ?_⟩
  rw [hx] at hk
  exact hk
end Go.Vc
end
