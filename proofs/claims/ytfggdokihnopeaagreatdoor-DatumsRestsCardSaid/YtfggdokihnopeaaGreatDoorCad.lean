/- A part of the proof. -/
import Derived.Laws.AppendOwn
import Derived.Laws.BytesArg
import Derived.Lib.AppendStr
import Derived.Test.YtfggdokihnopeaaGreatDoorCac
set_option linter.unusedVariables false
set_option linter.unusedSimpArgs false
section
namespace Go.Vc
open Go
def ALe (τ τ' : AV) : Prop := ∀ Z w v, τ.ok Z w v → τ'.ok Z w v
theorem ALe.refl (τ : AV) : ALe τ τ := fun _ _ _ h => h
theorem ALe.of_eq {τ τ' : AV} (h : τ = τ') : ALe τ τ' := by subst h; exact .refl _
theorem ALe.sl {n sz : Nat} {f f' : Nat → Nat → AV} (h : ∀ i, i < n → ∀ j, j < sz → ALe (f i j) (f' i j)) : ALe (.sl n sz f) (.sl n sz f') := by
 rintro Z w v ⟨a, c, h1, h2, h3, h4⟩
 refine ⟨a, c, h1, h2, h3, fun hn => ?_⟩
 obtain ⟨b, o, e1, e2, e3, e4⟩ := h4 hn
 exact ⟨b, o, e1, e2, e3, fun i hi j hj => let ⟨u, hu, hk⟩ := e4 i hi j hj; ⟨u, hu, h i hi j hj _ _ _ hk⟩⟩
theorem All2.ale {Z : j0q} {w : World} : ∀ {a b : List AV} {vs : List Value}, All2 ALe a b → All2 (fun τ v => AV.ok Z w τ v) a vs → All2 (fun τ v => AV.ok Z w τ v) b vs
 |[], [], [], _, _ => trivial
 |_ :: _, _ :: _, _ :: _, h, hv => ⟨h.1 _ _ _ hv.1, All2.ale h.2 hv.2⟩
 |[], _ :: _, _, h, _ => h.elim
 |_ :: _, [], _, h, _ => h.elim
 |[], [], _ :: _, _, hv => hv.elim
 |_ :: _, _ :: _, [], _, hv => hv.elim
theorem CtrA.of {P : Program} {f : FuncId} {args args' : List AV} {τ : AV} (h : CtrA P f args τ) (hle : All2 ALe args' args) : CtrA P f args' τ :=
 ⟨h.enters, fun w Z vs hZ hvs => h.calls w Z vs hZ (All2.ale hle hvs)⟩
variable {T : Tab} {O : Own}
theorem j1G (k : Nat) {τ τ' : AV} (hT : T.get k = .av τ) (hle : ALe τ τ') : Ent T O ((k, .av τ') :: T) O := by
 rintro E a w ⟨Z, ν, h⟩
 refine ⟨Z, ν, h.defers, h.tsize, h.cst, h.pin, h.base, h.own, fun q => ?_⟩
 by_cases hq : k = q
 ·subst hq
  rw [Tab.get_cons_eq]
  have hs := h.slot k
  rw [hT] at hs
  exact hle _ _ _ hs
 ·rw [Tab.get_cons_ne _ _ hq]
  exact h.slot q
end Go.Vc
end
section
namespace Go.Vc
open Go Go.RowKit
variable {P : Program} {E : Env} {T : Tab} {O : Own} {d : Option Tmp} {ty : TypeId} {pos : String} {af : Array Edge} {g : Option (Nat × Bool)}
theorem ALe.sl' {n n' sz : Nat} {f f' : Nat → Nat → AV} (hn : n = n') (h : ∀ i, i < n → ∀ j, j < sz → f i j = f' i j) : ALe (.sl n sz f) (.sl n' sz f') := by
 subst hn
 exact ALe.sl fun i hi j hj => ALe.of_eq (h i hi j hj)
end Go.Vc
end
section
end
section
namespace Go.Vc
open Go Go.RowKit
section
variable {P : Program} {E : Env} {T : Tab} {O Oc O' : Own} {d : Option Tmp} {ty : TypeId} {pos : String} {af : Array Edge} {g : Option (Nat × Bool)}
theorem y0j {id : Nat} {L l : List Oper} {Q : Exit → Act → World → Prop} {rpre : List (Oper × Rec)} {T0 : Tab} {O0 : Own} {d : Nat} {op : Op} {s : SV} {rr : List Nat} {upd : Own} (hs : GV P E ⟨some d, op, ty, pos, af, none⟩ T O s rr upd) (hd : E.wr d = true) (hr : DRQ P E id L Q ((⟨some d, op, ty, pos, af, none⟩, ⟨[(d, s)], rr, upd, []⟩) :: rpre) l T0 O0 ((d, s) :: T) (upd ++ O)) : DRQ P E id L Q rpre (⟨some d, op, ty, pos, af, none⟩ :: l) T0 O0 T O := J1r hs rfl hd hr
end
end Go.Vc
namespace Go.Vc
open Go Go.RowKit
section
variable {P : Program} {E : Env} {T : Tab} {O : Own} {d : Option Tmp} {ty : TypeId} {pos : String} {af : Array Edge} {g : Option (Nat × Bool)}
end
end Go.Vc
end
section
namespace Go.Vc
open Go
abbrev bs (l : List UInt8) : ByteArray := ⟨l.toArray⟩
abbrev vS (l : List UInt8) : AV := .val (.string (bs l))
variable {P : Program} {E : Env} {T : Tab} {O : Own} {d : Option Nat} {ty : TypeId} {pos : String} {af : Array Edge} {g : Option (Nat × Bool)}
theorem x0l {op : BinOp} {t : TypeId} {x y : Operand} {a b : ByteArray} {w : World} : (eqGuard op t x y (.string a) (.string b)).run P w = .ok () w := by
 unfold eqGuard
 cases op <;> simp
theorem j1i (l : List UInt8) : (bs l).toList = l := by
 rw [ByteArray.toList_eq]
def Z1L : BinOp → List UInt8 → List UInt8 → Option Bool
 |.eql, x, y => some (x == y)
 |.neq, x, y => some (!(x == y))
 |.lss, x, y => some (Op.bytesLess x y)
 |_, _, _ => none
theorem Q0C {op : BinOp} {xt yt : TypeId} {x y : Operand} {l m : List UInt8} {b : Bool} (h1 : T.ev x = .av (vS l)) (h2 : T.ev y = .av (vS m)) (hb : Z1L op l m = some b) :
  GV P E ⟨d, .binOp op xt x y yt, ty, pos, af, g⟩ T O (.av (.val (.bool b))) [] [] :=
 y0R h1 h2 (fun w => x0l) (fun w => by
  cases op <;> simp only [Z1L, Option.some.injEq, reduceCtorEq] at hb <;> subst hb <;> simp [binOp, Op.stringOp, j1i])
theorem V0d (l : List UInt8) : (bs l).size = l.length := rfl
theorem Q0D {t : TypeId} {x : Operand} {l : List UInt8} [ht : StrTy P t] (hx : T.ev x = .av (vS l)) :
  GV P E ⟨d, .call ⟨.builtin .len, #[x], #[t]⟩, ty, pos, af, g⟩ T O (.av (.val (.int .i64 l.length))) [] [] :=
 j0p [] fun Z ν a w h _ => by
  have hv := j0w hx (h x (by simp [Op.operands, Call.operands]))
  refine ⟨.int .i64 l.length, ?_, rfl⟩
  simp [execOp, resolve, invoke, builtin, Builtin.len_, hv, run_underlying ht.und, goInt, V0d, -ByteArray.size_data]
theorem v0c {t : TypeId} {x y : Operand} {l : List UInt8} {q : IntKind} {i : Int} {k : Nat} {b : UInt8} [ht : StrTy P t] (hx : T.ev x = .av (vS l)) (hy : T.ev y = .av (.val (.int q i))) (hi : i = ↑k) (hk : l[k]? = some b) :
  GV P E ⟨d, .index t x y, ty, pos, af, g⟩ T O (.av (.val (.int .u8 b.toNat))) [] [] :=
 j0p [] fun Z ν a w h _ => by
  have hv := j0w hx (h x (by simp [Op.operands]))
  have hu := j0w hy (h y (by simp [Op.operands]))
  subst hi
  refine ⟨.int .u8 b.toNat, ?_, rfl⟩
  have hb : (bs l)[k]? = some b := by
   rw [List.getElem?_eq_some_iff] at hk
   obtain ⟨h1, h2⟩ := hk
   rw [getElem?_pos (bs l) k (show k < (bs l).size from h1)]
   rw [← h2]; rfl
  simp [execOp, Instr.index, hv, hu, asIntOf, run_underlying ht.und, hb]
theorem w0Z {xt yt : TypeId} {x y : Operand} {l m : List UInt8} (h1 : T.ev x = .av (vS l)) (h2 : T.ev y = .av (vS m)) (hl : l.length + m.length ≤ 9223372036854775807) :
  GV P E ⟨d, .binOp .add xt x y yt, ty, pos, af, g⟩ T O (.av (vS (l ++ m))) [] [] :=
 y0R h1 h2 (fun w => x0l) (fun w => by
  have e : bs l ++ bs m = bs (l ++ m) := by apply ByteArray.ext; simp [bs]
  have hm : IntKind.i64.max = 9223372036854775807 := by decide
  have hs : ¬ (((bs l).size + (bs m).size : Nat) : Int) > IntKind.i64.max := by rw [V0d, V0d, hm]; omega
  simp only [binOp, Op.stringOp]
  rw [if_neg hs, e]; rfl)
theorem k0E (l : List UInt8) (i j : Nat) : (bs l).extract i j = bs ((l.take j).drop i) := by
 apply ByteArray.ext
 apply Array.ext'
 simp [bs, ByteArray.data_extract, List.extract_eq_take_drop, List.take_drop]
 by_cases h : i ≤ j
 ·rw [show i + (j - i) = j by omega]
 ·rw [List.drop_eq_nil_of_le (by simp; omega), List.drop_eq_nil_of_le (by simp; omega)]
theorem V0C {t : TypeId} {x : Operand} {lo hi : Option Operand} {s : List UInt8} {l h : Nat} [ht : StrTy P t] (hx : T.ev x = .av (vS s))
  (hlo : match lo with | none => l = 0 | some y => ∃ q i, T.ev y = .av (.val (.int q i)) ∧ i = ↑l) (hhi : match hi with | none => h = s.length | some y => ∃ q i, T.ev y = .av (.val (.int q i)) ∧ i = ↑h)
  (hlh : l ≤ h) (hhn : h ≤ s.length) : GV P E ⟨d, .slice t x lo hi none, ty, pos, af, g⟩ T O (.av (vS ((s.take h).drop l))) [] [] :=
 j0p [] fun Z ν a w hh _ => by
  have he := j0w hx (hh x (by simp [Op.operands]))
  have hb : (Instr.sliceBounds false (bs s).size (bs s).size (lo.map a.eval) (hi.map a.eval) none).run P w = .ok (l, h, s.length) w := by
   rw [V0d]
   have h2 : (Instr.sliceBounds false s.length s.length (lo.map a.eval) (hi.map a.eval) none) = (do
     let h ← match hi.map a.eval with | some v => Instr.sliceBound v s.length .sliceAlen | none => pure s.length
     let l ← match lo.map a.eval with | some v => Instr.sliceBound v h .sliceB | none => pure 0
     pure (l, h, s.length)) := by
    unfold Instr.sliceBounds
    cases hi <;> cases lo <;> rfl
   rw [h2]
   cases hi with
   |none =>
    dsimp only at hhi
    subst hhi
    cases lo with
    |none => dsimp only at hlo; subst hlo; simp
    |some y =>
     obtain ⟨q, i, hy, rfl⟩ := hlo
     have hv := j0w hy (hh y (by simp [Op.operands]))
     simp [hv, Instr.sliceBound, asIntOf, hlh]
   |some z =>
    obtain ⟨q', i', hz, rfl⟩ := hhi
    have hv' := j0w hz (hh z (by simp [Op.operands]))
    cases lo with
    |none => dsimp only at hlo; subst hlo; simp [hv', Instr.sliceBound, asIntOf, hhn]
    |some y =>
     obtain ⟨q, i, hy, rfl⟩ := hlo
     have hv := j0w hy (hh y (by simp [Op.operands]))
     simp [hv, hv', Instr.sliceBound, asIntOf, hlh, hhn]
  refine ⟨.string (bs ((s.take h).drop l)), ?_, rfl⟩
  simp [execOp, Instr.sliceAt, Instr.slice, he, run_underlying ht.und, hb, k0E]
end Go.Vc
end
namespace Go.Vc
open Go
def upd {α : Type} (f : Nat → α) (k : Nat) (a : α) : Nat → α := fun i => if i = k then a else f i
theorem W0l {α : Type} (f : Nat → α) (k : Nat) (a : α) : upd f k a k = a := if_pos rfl
theorem Q0c {α : Type} (f : Nat → α) {k i : Nat} (a : α) (h : i ≠ k) : upd f k a i = f i := if_neg h
end Go.Vc
section
namespace Go.Vc
open Go Go.RowKit
variable {P : Program} {E : Env} {T : Tab} {O : Own} {d : Option Nat} {ty : TypeId} {pos : String} {af : Array Edge} {g : Option (Nat × Bool)}
def bf (l : List UInt8) : Nat → Nat → AV := fun i _ => .val (.int .u8 (l.getD i 0).toNat)
class BytesTy (P : Program) (t : TypeId) : Prop where
 bytes : ∃ e, P.underlying t = some (.slice e) ∧ P.underlying e = some (.int .u8)
theorem X0B (l : List UInt8) : strOfNums (l.map fun b => (b.toNat : Int)) = bs l := by
 apply ByteArray.ext
 apply Array.ext'
 rw [strOfNums_data, List.map_map]
 have e : ((fun n : Int => UInt8.ofNat n.toNat) ∘ fun b : UInt8 => (b.toNat : Int)) = id := funext fun b => by simp
 rw [e, List.map_id]
theorem v1l {t s : TypeId} [hs : BytesTy P s] [ht : StrTy P t] {l : List UInt8} {b o n c : Nat} {w : World} (hn : n = l.length) (h : ∀ i, i < n → w.cell? ⟨b, o + i, none⟩ = some (.int .u8 (l.getD i 0).toNat)) :
  (convert s t (.slice (some ⟨b, o, none⟩) n c)).run P w = .ok (.string (bs l)) w := by
 obtain ⟨e, h1, h2⟩ := hs.bytes
 have := run_convert_bytes_arg (P := P) w s e h1 h2 b o n c (l.map fun b => (b.toNat : Int)) (by simp [hn]) (fun i hi => by
  rw [h i hi]
  subst hn
  simp [List.getD, hi]) t ht.und
 rw [this, X0B]
theorem z0S {s t : TypeId} {x : Operand} {l : List UInt8} {n : Nat} {f : Nat → Nat → AV} [hs : BytesTy P s] [ht : StrTy P t] (hx : T.ev x = .av (.sl n 1 f)) (hn : n = l.length) (h0 : 0 < n) (hf : ∀ i, i < n → f i 0 = bf l i 0) :
  GV P E ⟨d, .convert s t x, ty, pos, af, g⟩ T O (.av (vS l)) [] [] :=
 j0p [] fun Z ν a w h _ => by
  obtain ⟨p, c, e1, e2, e3, e4⟩ := K0v hx (h x (by simp [Op.operands]))
  obtain ⟨b, o, rfl, _, _, hc⟩ := e4 h0
  refine ⟨.string (bs l), ?_, rfl⟩
  have := v1l (P := P) (t := t) (s := s) (b := b) (o := o) (c := c) (w := w) hn (fun i hi => by
   obtain ⟨u, hu, hk⟩ := hc i hi 0 zE
   rw [hf i hi] at hk
   have hk' : u = .int .u8 (l.getD i 0).toNat := hk
   rw [← hk']; simpa using hu)
  simp [execOp, e1, this]
theorem J0E {s t : TypeId} {x : Operand} {l : List UInt8} {r n ety : Nat} {f : Nat → Nat → AV} [hs : BytesTy P s] [ht : StrTy P t] (hx : T.ev x = .osl r) (hr : look O r = some (.row ety 1 n f)) (hn : n = l.length) (h0 : 0 < n) (hf : ∀ i, i < n → f i 0 = bf l i 0) :
  GV P E ⟨d, .convert s t x, ty, pos, af, g⟩ T O (.av (vS l)) [r] [] :=
 j0p [r] fun Z ν a w h hrr => by
  have hv := x0J (r := r) (a := a) (ν := ν) (Z := Z) (w := w) hx (h x (by simp [Op.operands]))
  rcases hrr r (by simp) _ hr with ⟨_, e2⟩ | ⟨b, cap, arr, e1, _, _, e4, e5, e6, e7, e8⟩
  ·omega
  ·refine ⟨.string (bs l), ?_, rfl⟩
   have := v1l (P := P) (t := t) (s := s) (b := b) (o := 0) (c := cap) (w := w) hn (fun i hi => by
    obtain ⟨u, hu, hk⟩ := e8 i hi 0 zE
    rw [hf i hi] at hk
    have hk' : u = .int .u8 (l.getD i 0).toNat := hk
    rw [← hk']
    simp only [World.cell?, e4, Nat.zero_add]
    simpa using hu)
   simp [execOp, hv, e1, this]
theorem Y0H (l : List UInt8) (i : Nat) (u : Value) (h : (Lib.strCells (bs l))[i]? = some u) : u = .int .u8 (l.getD i 0).toNat ∧ i < l.length := by
 have hl := Lib.strCells_length (bs l)
 have hi := (List.getElem?_eq_some_iff.1 h).1
 rw [hl] at hi
 have hi' : i < l.length := hi
 refine ⟨?_, hi'⟩
 simp [Lib.strCells] at h
 obtain ⟨a, ha, rfl⟩ := h
 simp [List.getD, ha]
theorem k0V {t t' e : TypeId} {x y : Operand} {r n lo len ety : Nat} {f : Nat → Nat → AV} {s : List UInt8} [ht : SlTy P t e 1] (hx : T.ev x = .osx r 1 lo len) (hr : look O r = some (.row ety 1 n f)) (hy : T.ev y = .av (vS s)) (hl : len = s.length) (hlo : lo + len = n) (h0 : 0 < len) :
  GV P E ⟨d, .call ⟨.builtin .copy, #[x, y], #[t, t']⟩, ty, pos, af, g⟩ T O (.av (.val (.int .i64 (len : Nat)))) [r] [(r, .row ety 1 n (fun i j => if lo ≤ i then .val (.int .u8 (s.getD (i - lo) 0).toNat) else f i j))] := by
 refine ⟨fun T' O' hT hO => ⟨by intro c; simp, fun Z ν a w hs => ?_⟩⟩
 have ex := j0G hs x
 have ey := j0G hs y
 rw [j0r (o := ⟨d, .call ⟨.builtin .copy, #[x, y], #[t, t']⟩, ty, pos, af, g⟩) hT (by simp [Op.operands, Call.operands])] at ex
 rw [j0r (o := ⟨d, .call ⟨.builtin .copy, #[x, y], #[t, t']⟩, ty, pos, af, g⟩) hT (by simp [Op.operands, Call.operands])] at ey
 obtain ⟨b0, n0, c0, p0, ex1, ex2, ex3⟩ := Z0W hx ex
 have ey' : a.eval y = .string (bs s) := j0w hy ey
 have hr' : look O' r = some (.row ety 1 n f) := by rw [hO r (by simp)]; exact hr
 have hinf := X0w ht.size
 rcases hs.own.each r _ hr' with ⟨e1, e2⟩ | ⟨b, cap, arr, e1, e2, e3, e4, e5, e6, e7, e8⟩
 ·omega
 ·have p0' := ex3 (.inl h0)
  rw [ex1] at e1
  simp only [Value.slice.injEq, Option.some.injEq, Addr.mk.injEq, and_true, true_and] at e1
  obtain ⟨rfl, rfl, rfl⟩ := e1
  subst p0'
  simp only [Nat.mul_one] at ex2
  have hsz : (bs s).size = len := hl.symm
  have hcl : (Lib.strCells (bs s)).length = len := by rw [Lib.strCells_length, hsz]
  have hst := run_storeCells_at P b0 lo ety (Lib.strCells (bs s)) 0 arr w e4 (by rw [hcl, e7]; omega) (Lib.strCells_oneCell (bs s))
  have hfc := Lib.run_firstCells_string (P := P) (w := w) 1 (bs s)
  rw [hsz] at hfc
  have hrun : (Builtin.copy_ #[t, t'] ty #[.slice (some ⟨b0, lo, none⟩) len (c0 - lo), .string (bs s)]).run P w = .ok (goInt len) (w.setRow b0 (arr.toList.take lo ++ Lib.strCells (bs s) ++ arr.toList.drop (lo + (Lib.strCells (bs s)).length)).toArray) := by
   cases hq : P.info? e with
   |none => simp [hq] at hinf
   |some i =>
    have hi : i.size = 1 := by simpa [hq] using hinf
    have hlen : (Builtin.lenOf (.string (bs s))).run P w = .ok len w := by simp [Builtin.lenOf, hsz, -ByteArray.size_data]
    simp only [Nat.add_zero] at hst
    simp [Builtin.copy_, run_underlying ht.und, hlen, sizeOf, typeInfo, hq, hi, hfc, hst, -ByteArray.size_data]
  refine j0B (w' := _) (v := .int .i64 (len : Nat)) ?_ ⟨_, Z, ν, rfl, hs.copied (lo := lo) (cs := Lib.strCells (bs s)) hr' ex1 e4 zO (fun i u hu => ?_) (fun i hi hn => ?_), rfl⟩
  ·simp only [execOp, resolve, invoke, builtin, Sem.run_bind, Sem.run_pure, Result.andThen_ok, List.map_toArray, List.map_cons, List.map_nil, ex2, ey', hrun, goInt]
  ·obtain ⟨rfl, hi⟩ := Y0H s i u hu
   rw [if_pos (by omega), show lo + i - lo = i by omega]
   rfl
  ·rw [if_neg (by rw [hcl] at hn; omega)]
theorem Q0F {xt yt : TypeId} {x y : Operand} {m n : Int} (h1 : T.ev x = .av (.val (.int .u8 m))) (h2 : T.ev y = .av (.val (.int .u8 n))) (hm : n ≤ m ∧ 0 ≤ n ∧ m ≤ 255) :
  GV P E ⟨d, .binOp .sub xt x y yt, ty, pos, af, g⟩ T O (.av (.val (.int .u8 (m - n)))) [] [] := by
 have h := q0X (P := P) (E := E) (T := T) (O := O) (d := d) (op := .sub) (xt := xt) (yt := yt) (ty := ty) (pos := pos) (af := af) (g := g) h1 h2 rfl
 have e : IntKind.u8.wrap (m - n) = m - n := by
  show (m - n) % 256 = m - n
  omega
 rwa [e] at h
end Go.Vc
end
section
namespace Go.Vc
open Go Go.RowKit
variable {P : Program} {E : Env} {T : Tab} {O : Own} {d : Option Nat} {ty : TypeId} {pos : String} {af : Array Edge} {g : Option (Nat × Bool)}
def vbφ (us : List Value) : j0q → World → Value → Obj → Prop := fun _ _ v ob => ∃ b t, v = .pointer (some ⟨b, 0, none⟩) ∧ ob = .cells us.toArray t (0, 0)
theorem Z1t (us : List Value) : RStable (vbφ us) := fun _ _ _ _ _ _ _ _ _ h => h
def Res.vb (us : List Value) : Res := .obj (vbφ us) (Z1t us)
theorem Y0O {Z : j0q} {ν : j0N} {w : World} {v : Value} {us : List Value} (h : Res.ok E Z ν w v (.vb us)) :
  ∃ b t, v = .pointer (some ⟨b, 0, none⟩) ∧ ¬ E.keep b ∧ ¬ Z b ∧ w.heap[b]? = some (.cells us.toArray t (0, 0)) := by
 obtain ⟨b, ob, e1, e2, e3, e4, b', t, rfl, rfl⟩ := h
 simp only [j0C, Option.some.injEq] at e1
 subst e1
 exact ⟨_, t, rfl, e2, e3, e4⟩
theorem z1L {Z : j0q} {ν : j0N} {a : Act} {w : World} {r : Nat} {us : List Value} (hs : SatZ E Z ν T O a w) (hr : look O r = some (.vb us)) :
  ∃ b t, ν r = .pointer (some ⟨b, 0, none⟩) ∧ ¬ E.keep b ∧ ¬ Z b ∧ w.heap[b]? = some (.cells us.toArray t (0, 0)) := Y0O (hs.own.each r _ hr)
theorem x0A {Z : j0q} {ν : j0N} {w : World} {T : Tab} {x : Operand} {a : Act} {r off b : Nat} (hx : T.ev x = .own r off) (h : (T.ev x).ok Z ν w (a.eval x)) (hb : ν r = .pointer (some ⟨b, 0, none⟩)) : a.eval x = .pointer (some ⟨b, off, none⟩) := by
 obtain ⟨b', h1, h2⟩ := z0u hx h
 rw [hb] at h1
 simp only [Value.pointer.injEq, Option.some.injEq, Addr.mk.injEq, and_true] at h1
 subst h1
 exact h2
theorem v0b {t : TypeId} {x : Operand} {r off : Nat} {us : List Value} {u : Value} [ht : CellTy P t] (hx : T.ev x = .own r off) (hr : look O r = some (.vb us)) (hc : us[off]? = some u) :
  GV P E ⟨d, .load t x, ty, pos, af, g⟩ T O (.av (.val u)) [r] [] :=
 j0p [r] fun Z ν a w h hO => by
  obtain ⟨b, t', hb, _, _, hh⟩ := Y0O (hO r (by simp) _ hr)
  have hax := x0A hx (h x (by simp [Op.operands])) hb
  have hu : w.cell? ⟨b, off, none⟩ = some u := by simp [World.cell?, hh, hc]
  exact ⟨u, by simp [execOp, Instr.loadAt, hax, Instr.sureAddr, loadVar, ht.run w, hu], rfl⟩
theorem V0A {t : TypeId} {x : Operand} {r k : Nat} {us : List Value} [ht : AggTy P t k] (hx : T.ev x = .own r 0) (hr : look O r = some (.vb us)) (hk : us.length = k) :
  GV P E ⟨d, .load t x, ty, pos, af, g⟩ T O (.av (.val (.agg us.toArray))) [r] [] :=
 j0p [r] fun Z ν a w h hO => by
  subst hk
  obtain ⟨b, t', hb, _, _, hh⟩ := Y0O (hO r (by simp) _ hr)
  have hax := x0A hx (h x (by simp [Op.operands])) hb
  have hl := run_loadCells_list (P := P) (w := w) ⟨b, 0, none⟩ us (fun j v hj => by rw [j0I]; simp [World.cell?, hh, hj])
  exact ⟨_, by simp [execOp, Instr.loadAt, hax, Instr.sureAddr, loadVar, ht.agg w, ht.size w, hl], rfl⟩
theorem SatZ.storeVb {Z : j0q} {ν : j0N} {a : Act} {w : World} {r off b : Nat} {us vs : List Value} (h : SatZ E Z ν T O a w) (hr : look O r = some (.vb us)) (hb : ν r = .pointer (some ⟨b, 0, none⟩)) (hfit : off + vs.length ≤ us.length) (h1 : ∀ v ∈ vs, v.oneCell' = true) :
  ∃ w', (storeCells ⟨b, off, none⟩ vs).run P w = .ok () w' ∧ SatZ E Z ν T ((r, .vb (us.take off ++ vs ++ us.drop (off + vs.length))) :: O) a w' := by
 obtain ⟨b', t, e1, e2, e3, e4⟩ := z1L h hr
 rw [hb] at e1
 simp only [Value.pointer.injEq, Option.some.injEq, Addr.mk.injEq, and_true] at e1
 subst e1
 have hst := run_storeCells_at P b off t vs 0 us.toArray w e4 (by simpa using hfit) h1
 simp only [Nat.add_zero] at hst
 refine ⟨_, hst, ?_⟩
 refine h.write hr (b := b) (by rw [hb]; rfl) rfl rfl rfl (by simp) (fun k hk => setRow_other w b k _ hk) (fun hsv => ?_)
 exact ⟨b, _, by rw [hb]; rfl, e2, e3, setRow_heap w b _ _ t _ e4, b, t, hb, rfl⟩
theorem Q1v {α : Type} (us : List α) (off : Nat) (v : α) (h : off < us.length) : us.take off ++ [v] ++ us.drop (off + [v].length) = us.set off v := by
 rw [List.set_eq_take_append_cons_drop, if_pos h]; simp
theorem x0x {t : TypeId} {x y : Operand} {r off : Nat} {us vs : List Value} {v : Value} [ht : SizeTy P t 1] (hx : T.ev x = .own r off) (hy : T.ev y = .av (.val v)) (h1 : v.oneCell' = true) (hr : look O r = some (.vb us)) (hfit : off < us.length) (hvs : us.set off v = vs) :
  GV P E ⟨d, .store t x y, ty, pos, af, g⟩ T O (.av .any) [r] [(r, .vb vs)] := by
 subst hvs
 refine ⟨fun T' O' hT hO => ⟨by intro c; simp, fun Z ν a w hs => ?_⟩⟩
 have ex := j0G hs x
 rw [j0r (o := ⟨d, .store t x y, ty, pos, af, g⟩) hT (by simp [Op.operands]), hx] at ex
 have ey := j0G hs y
 rw [j0r (o := ⟨d, .store t x y, ty, pos, af, g⟩) hT (by simp [Op.operands]), hy] at ey
 obtain ⟨b, hb, hax⟩ := ex
 have ey' : a.eval y = v := ey
 obtain ⟨w', hst, hsat⟩ := hs.storeVb (P := P) (off := off) (vs := [v]) (by rw [hO r (by simp)]; exact hr) hb (by simp; omega) (by simpa using h1)
 rw [Q1v us off v hfit] at hsat
 unfold Oper.wp
 have hrun : (execOp a.eval ⟨d, .store t x y, ty, pos, af, g⟩).run P w = .ok .skip w' := by
  have hcs : v.cells = #[v] := cells_one h1
  simp [execOp, Instr.storeAt, hax, Instr.sureAddr, storeVar, ht.run w, ey', hcs, hst]
 rw [hrun]
 exact ⟨Go.undef, Z, ν, rfl, hsat, trivial⟩
theorem Q0j {t : TypeId} {x y : Operand} {r k : Nat} {us vs : List Value} [ht : SizeTy P t k] (hx : T.ev x = .own r 0) (hy : T.ev y = .av (.val (.agg vs.toArray))) (hk : vs.length = k) (h1 : ∀ v ∈ vs, v.oneCell' = true) (hr : look O r = some (.vb us)) (hl : us.length = vs.length) :
  GV P E ⟨d, .store t x y, ty, pos, af, g⟩ T O (.av .any) [r] [(r, .vb vs)] := by
 refine ⟨fun T' O' hT hO => ⟨by intro c; simp, fun Z ν a w hs => ?_⟩⟩
 have ex := j0G hs x
 rw [j0r (o := ⟨d, .store t x y, ty, pos, af, g⟩) hT (by simp [Op.operands]), hx] at ex
 have ey := j0G hs y
 rw [j0r (o := ⟨d, .store t x y, ty, pos, af, g⟩) hT (by simp [Op.operands]), hy] at ey
 obtain ⟨b, hb, hax⟩ := ex
 subst hk
 have ey' : a.eval y = .agg vs.toArray := ey
 obtain ⟨w', hst, hsat⟩ := hs.storeVb (P := P) (off := 0) (vs := vs) (by rw [hO r (by simp)]; exact hr) hb (by omega) h1
 rw [List.take_zero, List.nil_append, List.drop_eq_nil_of_le (by omega), List.append_nil] at hsat
 unfold Oper.wp
 have hrun : (execOp a.eval ⟨d, .store t x y, ty, pos, af, g⟩).run P w = .ok .skip w' := by
  simp [execOp, Instr.storeAt, hax, Instr.sureAddr, storeVar, ht.run w, ey', Value.cells, hst]
 rw [hrun]
 exact ⟨Go.undef, Z, ν, rfl, hsat, trivial⟩
theorem K0G {t : TypeId} {zs us : List Value} (r : Nat) [hz : ZeroTy P t zs] (hu : zs = us) (hp : Nat.blt r 1000 = true := by first | rfl | assumption) : VStep P E ⟨d, .alloc t, ty, pos, af, g⟩ T O (T.kill r) ((r, .vb us) :: Own.kill r O) (.own r 0) := by
 subst hu
 refine ⟨by intro c; simp, fun Z ν a w hs => ?_⟩
 obtain ⟨z, hz, hc⟩ := hz.zero
 refine j0B (w' := w.alloc (.cells zs.toArray t)) (v := .pointer (some ⟨w.heap.size, 0, none⟩)) (by simp [execOp, Instr.alloc, hz, newVar, newRow, hc]) ?_
 refine ⟨_, Z, q0V ν r (.pointer (some ⟨w.heap.size, 0, none⟩)), rfl, hs.newRes r hp _ _ _ rfl (fun _ hk hnz => ?_), w.heap.size, by simp [q0V], rfl⟩
 exact ⟨w.heap.size, _, rfl, hk, hnz, heap_alloc_new _ _, w.heap.size, t, rfl, rfl⟩
theorem k0P {t : TypeId} {zs us : List Value} (r : Nat) [hz : ZeroTy P t zs] (hu : zs = us) (hf : q0Q r T O = true) (hp : Nat.blt r 1000 = true := by first | rfl | assumption) : VStep P E ⟨d, .alloc t, ty, pos, af, g⟩ T O T ((r, .vb us) :: O) (.own r 0) := (K0G r hu hp).fresh hf
theorem k0A {t : TypeId} {x : Operand} {us : List Value} (r : Nat) (hx : T.ev x = .av (.val (.agg us.toArray))) (hp : Nat.blt r 1000 = true := by first | rfl | assumption) : VStep P E ⟨d, .box t x, ty, pos, af, g⟩ T O (T.kill r) ((r, .vb us) :: Own.kill r O) (.own r 0) := by
 refine ⟨by intro c; simp, fun Z ν a w hs => ?_⟩
 have hv := j0w hx (j0G hs x)
 refine j0B (w' := w.alloc (.cells us.toArray t)) (v := .pointer (some ⟨w.heap.size, 0, none⟩)) (by simp [execOp, Instr.box, newVar, newRow, hv, Value.cells]) ?_
 refine ⟨_, Z, q0V ν r (.pointer (some ⟨w.heap.size, 0, none⟩)), rfl, hs.newRes r hp _ _ _ rfl (fun _ hk hnz => ?_), w.heap.size, by simp [q0V], rfl⟩
 exact ⟨w.heap.size, _, rfl, hk, hnz, heap_alloc_new _ _, w.heap.size, t, rfl, rfl⟩
theorem z0M {t : TypeId} {x : Operand} {us : List Value} (r : Nat) (hx : T.ev x = .av (.val (.agg us.toArray))) (hf : q0Q r T O = true) (hp : Nat.blt r 1000 = true := by first | rfl | assumption) : VStep P E ⟨d, .box t x, ty, pos, af, g⟩ T O T ((r, .vb us) :: O) (.own r 0) := (k0A r hx hp).fresh hf
theorem W1b (r : Nat) {us vs : List Value} (hr : look O r = some (.vb us)) (h : us = vs) : Ent T O T ((r, .vb vs) :: O) := by
 subst h
 exact J1u (upd := [(r, .vb us)]) ⟨⟨_, hr, .refl _⟩, trivial⟩
theorem v0D {x : Operand} {i : Nat} {cs : List CV} {c : CV} (hx : T.ev x = .tupC cs) (hi : cs[i]? = some c) : GV P E ⟨d, .extract x i, ty, pos, af, g⟩ T O c.sv [] [] :=
 j0p [] fun Z ν a w h _ => by
  have hv := h x (by simp [Op.operands])
  rw [hx] at hv
  obtain ⟨vs, e1, e2⟩ := hv
  obtain ⟨u, hu, hk⟩ := e2.get i c hi
  exact ⟨u, by simp [execOp, Instr.extract, e1, hu], CV.sv_ok.2 hk⟩
variable {fn : Func} {w : World} {Z : j0q} {ν : j0N} {N : Nat} {O' : Own} {res : SV}
theorem k0q {t u : Nat} {c1 c2 : CV} (hr : fn.results = #[.tmp t, .tmp u]) (hhi : Q0I O = true) (ht : T.get t = c1.sv) (hu : T.get u = c2.sv) (hres : res = .tupC [c1, c2]) : SQ (Q0e N w Z O ν) T O' (bodyPost P fn (z1S w Z ν O res O') .ret) := by
 rintro a w' ⟨Z', ν', h⟩
 have h1 := h.slot t
 have h2 := h.slot u
 rw [ht] at h1
 rw [hu] at h2
 subst hres
 exact bodyPost_ret (results_tmp2 hr a.tmps P w') h.defers ⟨_, Z', ν', rfl, y0c h.base, z0X hhi h, y0z h.own, ⟨[a.tmps.getD t undef, a.tmps.getD u undef], rfl, CV.sv_ok.1 h1, CV.sv_ok.1 h2, trivial⟩⟩
theorem z0Z {rvs : List ResultVar} {τs : List AV} (hr : fn.results = rvs.toArray) (hn : Nat.blt 1 rvs.length = true) (hhi : Q0I O = true) (ht : All2 (ResV P T O') rvs τs) (hres : res = .av (j0x τs)) : SQ (Q0e N w Z O ν) T O' (bodyPost P fn (z1S w Z ν O res O') .ret) := by
 subst hres
 rintro a w' ⟨Z', ν', h⟩
 have key : ∀ (rvs : List ResultVar) (τs : List AV), All2 (ResV P T O') rvs τs → ∃ vs, All2 (fun rv v => (J0R a.tmps rv).run P w' = Result.ok v w') rvs vs ∧ All2 (fun τ v => AV.ok Z' w' τ v) τs vs := by
  intro rvs
  induction rvs with
  |nil => intro τs h; match τs, h with | [], _ => exact ⟨[], trivial, trivial⟩
  |cons rv rvs ih =>
   intro τs h'
   match τs, h' with
   |τ :: τs, h' =>
    obtain ⟨v, hv, hk⟩ := h'.1.run h
    obtain ⟨vs, h1, h2⟩ := ih τs h'.2
    exact ⟨v :: vs, ⟨hv, h1⟩, ⟨hk, h2⟩⟩
 obtain ⟨vs, h1, h2⟩ := key rvs τs ht
 have hl : vs.length = rvs.length := h1.len.symm
 have hrun := v0R (P := P) (w := w') hr h1
 have hne : ¬ vs.toArray.size = 1 := by
  have := j0H hn
  simp; omega
 rw [dif_neg hne] at hrun
 refine bodyPost_ret (v := .tuple vs.toArray) hrun h.defers ⟨_, Z', ν', rfl, y0c h.base, z0X hhi h, y0z h.own, ⟨vs, rfl, h2.len.symm, fun i hi => ?_⟩⟩
 have hi' : i < τs.length := hi
 obtain ⟨u, hu, hk⟩ := h2.get i τs[i] (List.getElem?_eq_getElem hi')
 exact ⟨u, hu, by simpa [List.getD, List.getElem?_eq_getElem hi'] using hk⟩
end Go.Vc
end
section
namespace Go.Vc
open Go Go.RowKit
def wvs (N : Nat) (b : Bool) (n : Int) (f : Nat → Int) : List Value := .bool b :: .int .i64 n :: (List.range N).map fun i => .int .i64 (f i)
theorem q0r (N : Nat) (b : Bool) (n : Int) (f : Nat → Int) : (wvs N b n f).length = N + 2 := by simp [wvs]
theorem v0U {N : Nat} {b : Bool} {n : Int} {f : Nat → Int} {k o : Nat} (ho : o = k + 2) (h : k < N) : (wvs N b n f)[o]? = some (.int .i64 (f k)) := by
 subst ho
 simp [wvs, h]
theorem V1q {N : Nat} {b : Bool} {n : Int} {f : Nat → Int} {k o : Nat} {v : Int} (ho : o = k + 2) (h : k < N) : (wvs N b n f).set o (.int .i64 v) = wvs N b n (upd f k v) := by
 subst ho
 apply List.ext_getElem?
 intro i
 by_cases hi : i < N + 2
 ·rcases i with _ | _ | i
  ·simp [wvs]
  ·simp [wvs]
  ·have hi' : i < N := by omega
   rw [v0U rfl hi']
   by_cases h2 : i = k
   ·subst h2
    rw [List.getElem?_set_self (by rw [q0r]; omega), W0l]
   ·rw [List.getElem?_set_ne (by omega), v0U rfl hi', Q0c _ _ h2]
 ·rw [List.getElem?_eq_none (by rw [List.length_set, q0r]; omega), List.getElem?_eq_none (by rw [q0r]; omega)]
theorem y1p {N : Nat} {b : Bool} {n m : Int} {f : Nat → Int} : (wvs N b n f).set 1 (.int .i64 m) = wvs N b m f := rfl
theorem y1o {N : Nat} {b c : Bool} {n : Int} {f : Nat → Int} : (wvs N b n f).set 0 (.bool c) = wvs N c n f := rfl
theorem w1r {N : Nat} {b : Bool} {n : Int} {f : Nat → Int} : ∀ v ∈ wvs N b n f, v.oneCell' = true := by
 intro v hv
 simp only [wvs, List.mem_cons, List.mem_map, List.mem_range] at hv
 rcases hv with rfl | rfl | ⟨i, _, rfl⟩ <;> rfl
def Res.wi (b : Bool) (n : Int) (f : Nat → Int) : Res := .vb (wvs 232 b n f)
variable {P : Program} {E : Env} {T : Tab} {O : Own} {d : Option Nat} {ty : TypeId} {pos : String} {af : Array Edge} {g : Option (Nat × Bool)}
variable {t : TypeId} {x y : Operand} {r off k : Nat} {b : Bool} {n : Int} {f : Nat → Int}
theorem j1Y (k : Nat) [ht : CellTy P t] (hx : T.ev x = .own r off) (hr : look O r = some (.wi b n f)) (ho : off = k + 2) (hk : k < 232) :
  GV P E ⟨d, .load t x, ty, pos, af, g⟩ T O (.av (.val (.int .i64 (f k)))) [r] [] := v0b hx hr (v0U ho hk)
theorem w0s [ht : CellTy P t] (hx : T.ev x = .own r off) (hr : look O r = some (.wi b n f)) (ho : Nat.beq off 1 = true) :
  GV P E ⟨d, .load t x, ty, pos, af, g⟩ T O (.av (.val (.int .i64 n))) [r] [] := v0b hx hr (by rw [Nat.eq_of_beq_eq_true ho]; rfl)
theorem w0r [ht : CellTy P t] (hx : T.ev x = .own r off) (hr : look O r = some (.wi b n f)) (ho : Nat.beq off 0 = true) :
  GV P E ⟨d, .load t x, ty, pos, af, g⟩ T O (.av (.val (.bool b))) [r] [] := v0b hx hr (by rw [Nat.eq_of_beq_eq_true ho]; rfl)
theorem x0y (k : Nat) {v : Int} [ht : SizeTy P t 1] (hx : T.ev x = .own r off) (hy : T.ev y = .av (.val (.int .i64 v))) (hr : look O r = some (.wi b n f)) (ho : off = k + 2) (hk : k < 232) :
  GV P E ⟨d, .store t x y, ty, pos, af, g⟩ T O (.av .any) [r] [(r, .wi b n (upd f k v))] := x0x hx hy rfl hr (by rw [q0r]; omega) (V1q ho hk)
theorem q0S {m : Int} [ht : SizeTy P t 1] (hx : T.ev x = .own r off) (hy : T.ev y = .av (.val (.int .i64 m))) (hr : look O r = some (.wi b n f)) (ho : Nat.beq off 1 = true) :
  GV P E ⟨d, .store t x y, ty, pos, af, g⟩ T O (.av .any) [r] [(r, .wi b m f)] := by
 have ho' := Nat.eq_of_beq_eq_true ho
 subst ho'
 exact x0x hx hy rfl hr (by rw [q0r]; omega) y1p
theorem q0R {c : Bool} [ht : SizeTy P t 1] (hx : T.ev x = .own r off) (hy : T.ev y = .av (.val (.bool c))) (hr : look O r = some (.wi b n f)) (ho : Nat.beq off 0 = true) :
  GV P E ⟨d, .store t x y, ty, pos, af, g⟩ T O (.av .any) [r] [(r, .wi c n f)] := by
 have ho' := Nat.eq_of_beq_eq_true ho
 subst ho'
 exact x0x hx hy rfl hr (by rw [q0r]; omega) y1o
theorem Y0f [ht : AggTy P t 234] (hx : T.ev x = .own r 0) (hr : look O r = some (.wi b n f)) :
  GV P E ⟨d, .load t x, ty, pos, af, g⟩ T O (.av (.val (.agg (wvs 232 b n f).toArray))) [r] [] := V0A hx hr (q0r ..)
theorem z0p {c : Bool} {m : Int} {h : Nat → Int} [ht : SizeTy P t 234] (hx : T.ev x = .own r 0) (hy : T.ev y = .av (.val (.agg (wvs 232 c m h).toArray))) (hr : look O r = some (.wi b n f)) :
  GV P E ⟨d, .store t x y, ty, pos, af, g⟩ T O (.av .any) [r] [(r, .wi c m h)] := Q0j hx hy (q0r ..) w1r hr (by rw [q0r, q0r])
class WideTy (P : Program) (t : TypeId) : Prop where
 zero : ∃ z, (∀ w, (zeroValue t).run P w = .ok z w) ∧ z.cells = (wvs 232 false 0 (fun _ => 0)).toArray
theorem j1I (r : Nat) [hz : WideTy P t] (hf : q0Q r T O = true) (hp : Nat.blt r 1000 = true := by first | rfl | assumption) : VStep P E ⟨d, .alloc t, ty, pos, af, g⟩ T O T ((r, .wi false 0 (fun _ => 0)) :: O) (.own r 0) :=
 have : ZeroTy P t (wvs 232 false 0 (fun _ => 0)) := ⟨hz.zero⟩
 k0P r rfl hf hp
theorem x0R (r : Nat) (hx : T.ev x = .av (.val (.agg (wvs 232 b n f).toArray))) (hf : q0Q r T O = true) (hp : Nat.blt r 1000 = true := by first | rfl | assumption) : VStep P E ⟨d, .box t x, ty, pos, af, g⟩ T O T ((r, .wi b n f) :: O) (.own r 0) := z0M r hx hf hp
theorem J1v (r : Nat) {b' : Bool} {n' : Int} {f' : Nat → Int} (hr : look O r = some (.wi b n f)) (hb : b = b') (hn : n = n') (hf : f = f') : Ent T O T ((r, .wi b' n' f') :: O) := W1b r hr (by rw [hb, hn, hf])
def Q1w (f : Nat → Int) (k : Nat) : Nat → Int := fun i => if 1 ≤ i ∧ i ≤ k then f (i - 1) else f i
end Go.Vc
end
section
namespace Go.Vc
open Go Go.RowKit
variable {P : Program} {E : Env} {T : Tab} {O : Own} {d : Option Nat} {ty : TypeId} {pos : String} {af : Array Edge} {g : Option (Nat × Bool)}
variable {t xt yt : TypeId} {x y z : Operand} {s : List UInt8} {q q' : IntKind} {i i' : Int} {l h : Nat}
theorem x0S [ht : StrTy P t] (l : Nat) (hx : T.ev x = .av (vS s)) (hy : T.ev y = .av (.val (.int q i))) (hi : i = ↑l) (hl : l ≤ s.length) :
  GV P E ⟨d, .slice t x (some y) none none, ty, pos, af, g⟩ T O (.av (vS (s.drop l))) [] [] := by
 have := V0C (P := P) (E := E) (O := O) (d := d) (ty := ty) (pos := pos) (af := af) (g := g) (t := t) (x := x) (lo := some y) (hi := none) (l := l) (h := s.length) hx ⟨q, i, hy, hi⟩ rfl hl (Nat.le_refl _)
 rwa [List.take_length] at this
theorem W1q [ht : StrTy P t] (h : Nat) (hx : T.ev x = .av (vS s)) (hy : T.ev y = .av (.val (.int q i))) (hi : i = ↑h) (hl : h ≤ s.length) :
  GV P E ⟨d, .slice t x none (some y) none, ty, pos, af, g⟩ T O (.av (vS (s.take h))) [] [] := by
 have := V0C (P := P) (E := E) (O := O) (d := d) (ty := ty) (pos := pos) (af := af) (g := g) (t := t) (x := x) (lo := none) (hi := some y) (l := 0) (h := h) hx rfl ⟨q, i, hy, hi⟩ (Nat.zero_le _) hl
 rwa [List.drop_zero] at this
theorem W1p [ht : StrTy P t] (l h : Nat) (hx : T.ev x = .av (vS s)) (hy : T.ev y = .av (.val (.int q i))) (hz : T.ev z = .av (.val (.int q' i'))) (hi : i = ↑l) (hi' : i' = ↑h) (hl : l ≤ h) (hh : h ≤ s.length) :
  GV P E ⟨d, .slice t x (some y) (some z) none, ty, pos, af, g⟩ T O (.av (vS ((s.take h).drop l))) [] [] :=
 V0C hx ⟨q, i, hy, hi⟩ ⟨q', i', hz, hi'⟩ hl hh
theorem x0w {k' : IntKind} [hs : IntTy P xt k'] [ht : IntTy P yt .i64] (h1 : T.ev x = .av (.val (.int k' i))) (h : -9223372036854775808 ≤ i ∧ i ≤ 9223372036854775807) :
  GV P E ⟨d, .convert xt yt x, ty, pos, af, g⟩ T O (.av (.val (.int .i64 i))) [] [] :=
 j1X h1 (IntWalk.i64_in i zO)
theorem y0S {k' : IntKind} [hs : IntTy P xt k'] [ht : IntTy P yt .u8] (h1 : T.ev x = .av (.val (.int k' i))) (h : 0 ≤ i ∧ i ≤ 255) :
  GV P E ⟨d, .convert xt yt x, ty, pos, af, g⟩ T O (.av (.val (.int .u8 i))) [] [] :=
 j1X h1 (by show i % 256 = i; omega)
theorem Q0x {m n : Int} (h1 : T.ev x = .av (.val (.int .u8 m))) (h2 : T.ev y = .av (.val (.int .u8 n))) (hm : 0 ≤ m + n ∧ m + n ≤ 255) :
  GV P E ⟨d, .binOp .add xt x y yt, ty, pos, af, g⟩ T O (.av (.val (.int .u8 (m + n)))) [] [] := by
 have h := q0X (P := P) (E := E) (T := T) (O := O) (d := d) (op := .add) (xt := xt) (yt := yt) (ty := ty) (pos := pos) (af := af) (g := g) h1 h2 rfl
 have e : IntKind.u8.wrap (m + n) = m + n := by
  show (m + n) % 256 = m + n
  omega
 rwa [e] at h
theorem J0A {m n : Int} (h1 : T.ev x = .av (.val (.int .i64 m))) (h2 : T.ev y = .av (.val (.int .i64 n))) (hn : n ≠ 0) (hmax : -9223372036854775807 ≤ m ∧ m ≤ 9223372036854775807) :
  GV P E ⟨d, .binOp .quo xt x y yt, ty, pos, af, g⟩ T O (.av (.val (.int .i64 (m.tdiv n)))) [] [] :=
 y0R h1 h2 (fun w => q0b ..) (fun w => by
  have := Int.natAbs_tdiv_le_natAbs m n
  simp [binOp, Op.intDiv, hn, IntWalk.i64_in (m.tdiv n) (by omega)])
theorem J0B {m n : Int} (h1 : T.ev x = .av (.val (.int .i64 m))) (h2 : T.ev y = .av (.val (.int .i64 n))) (hn : n ≠ 0) :
  GV P E ⟨d, .binOp .rem xt x y yt, ty, pos, af, g⟩ T O (.av (.val (.int .i64 (m.tmod n)))) [] [] :=
 y0R h1 h2 (fun w => q0b ..) (fun w => by
  simp [binOp, Op.intDiv, hn])
theorem y1g (b c : UInt8) : ((b.toNat : Int) = (c.toNat : Int)) ↔ b = c := by
 constructor
 ·intro h; exact UInt8.toNat_inj.1 zO
 ·rintro rfl; rfl
end Go.Vc
end
section
namespace Go.Vc
open Go Go.RowKit
variable {P : Program} {E : Env} {T : Tab} {O : Own} {d : Option Nat} {ty : TypeId} {pos : String} {af : Array Edge} {g : Option (Nat × Bool)}
def vbA (us : List Value) : AV := .ptr us.length (fun i => .val (us.getD i undef))
inductive BArg (T : Tab) (O : Own) : Operand → AV → Prop
 |av {x : Operand} {τ : AV} (h : T.ev x = .av τ) : BArg T O x τ
 |vb {x : Operand} {r : Nat} {us : List Value} (h : T.ev x = .own r 0) (hr : look O r = some (.vb us)) : BArg T O x (vbA us)
theorem z1K {Z Z' : j0q} {ν : j0N} {w : World} {v : Value} {us : List Value} (h : Res.ok E Z ν w v (.vb us)) (hb : ∀ b, j0C v = some b → Z' b) : (vbA us).ok Z' w v := by
 obtain ⟨b, t, rfl, h1, h2, h3⟩ := Y0O h
 refine ⟨b, 0, rfl, fun _ => hb b rfl, (Array.getElem?_eq_some_iff.1 h3).1, fun i hi => ⟨us.getD i undef, ?_, rfl⟩⟩
 simp [World.cell?, h3, List.getD, hi]
theorem BArg.ok {Z : j0q} {ν : j0N} {a : Act} {w : World} {x : Operand} {τ : AV} (hb : BArg T O x τ) (h : SatZ E Z ν T O a w) : τ.ok (fun k => Z k ∨ (k < w.heap.size ∧ ¬ E.keep k)) w (a.eval x) := by
 have hx := j0G h x
 cases hb with
 |av he => rw [he] at hx; exact AV.ok_mono (fun _ h => .inl h) (Nat.le_refl _) (fun _ _ _ => rfl) _ _ hx
 |vb he hr =>
  have hrow := h.own.each _ _ hr
  obtain ⟨b, t, hv, _, _, _⟩ := Y0O hrow
  have hax := x0A he hx hv
  rw [← hv] at hax
  rw [hax]
  exact z1K hrow (fun b' hb' => .inr ⟨(Res.blk_lt hrow hb').1, (Res.blk_lt hrow hb').2.2⟩)
def AV.flat (res : AV) : Prop := ∀ Z w Z' w' v, res.ok Z w v → res.ok Z' w' v
theorem q0C (v : Value) : (AV.val v).flat := fun _ _ _ _ _ h => h
theorem z0O (vs : List Value) : (j0x (vs.map AV.val)).flat := by
 rintro Z w Z' w' v ⟨cs, h1, h2, h3⟩
 refine ⟨cs, h1, h2, fun i hi => ?_⟩
 obtain ⟨u, hu, hk⟩ := h3 i hi
 refine ⟨u, hu, ?_⟩
 have hi' : i < vs.length := by simpa using hi
 have e : (vs.map AV.val).getD i .any = .val vs[i] := by simp [List.getD, hi']
 dsimp only at hk ⊢
 rw [e] at hk ⊢
 exact hk
theorem j1U {f : FuncId} {c : Operand} {xs : List Operand} {ats : Array TypeId} {τs : List AV} {res : AV} (rr : List Nat) (hc : CtrA P f τs res) (hfl : res.flat) (hf : T.ev c = .av (.val (.func (.func f) #[] #[])))
  (hx : ∀ (T' : Tab) (O' : Own), (∀ x ∈ xs, T'.ev x = T.ev x) → (∀ r ∈ rr, look O' r = look O r) → All2 (BArg T' O') xs τs) :
  GV P E ⟨d, .call ⟨.value c, xs.toArray, ats⟩, ty, pos, af, g⟩ T O (.av res) rr [] := by
 refine ⟨fun T' O' hT hO => ⟨by intro c; simp, fun Z ν a w hs => ?_⟩⟩
 have hsame : ∀ x ∈ xs, T'.ev x = T.ev x := fun x hxm => j0r (o := ⟨d, .call ⟨.value c, xs.toArray, ats⟩, ty, pos, af, g⟩) hT (by simp [Op.operands, Call.operands, hxm])
 have hfv : a.eval c = .func (.func f) #[] #[] := by
  have hx := j0G hs c
  rw [j0r (o := ⟨d, .call ⟨.value c, xs.toArray, ats⟩, ty, pos, af, g⟩) hT (by simp [Op.operands, Call.operands])] at hx
  exact j0w hf hx
 have hall : All2 (fun τ v => AV.ok (fun k => Z k ∨ (k < w.heap.size ∧ ¬ E.keep k)) w τ v) τs (xs.map a.eval) := by
  have hb := hx T' O' hsame hO
  clear hx hsame hc hT hO hf
  induction xs generalizing τs with
  |nil => cases τs with
   |nil => trivial
   |cons _ _ => exact hb.elim
  |cons x xs ih => cases τs with
   |nil => exact hb.elim
   |cons τ τs => exact ⟨hb.1.ok hs, ih hb.2⟩
 refine q0g (f := f) (args := (xs.map a.eval).toArray) ?_ ?_
 ·have hen := hc.enters (xs.map a.eval).toArray w
  simp [execOp, resolve, Deferred.ofValue, hfv, invoke] at hen ⊢
  exact hen
 ·refine Calls.mono (hc.calls w _ _ (hs.base.zok.or (fun k hk => hk.1)) hall) ?_
  rintro e w' ⟨u, Z', rfl, hb, _, _, _, hv⟩
  exact ⟨u, rfl, u, Z, ν, rfl, hs.called hb (fun _ h => h) (fun _ h => .inl h) (fun k hk => Nat.lt_of_lt_of_le (hs.base.zLt k hk) hb.size), hfl _ _ _ _ _ hv⟩
theorem BArg.cong {T' : Tab} {O' : Own} {x : Operand} {τ : AV} (hT : T'.ev x = T.ev x) (hO : ∀ r ∈ (match T.ev x with | .own r _ => [r] | _ => []), look O' r = look O r) (h : BArg T O x τ) : BArg T' O' x τ := by
 cases h with
 |av h => exact .av (hT.trans h)
 |vb h hr => rw [h] at hO; exact .vb (hT.trans h) ((hO _ (by simp)).trans hr)
def W1K (T : Tab) (xs : List Operand) : List Nat := xs.flatMap fun x => match T.ev x with | .own r _ => [r] | _ => []
theorem W0y {T' : Tab} {O' : Own} : ∀ {xs : List Operand} {τs : List AV}, (∀ x ∈ xs, T'.ev x = T.ev x) → (∀ r ∈ W1K T xs, look O' r = look O r) → All2 (BArg T O) xs τs → All2 (BArg T' O') xs τs
 |[], [], _, _, _ => trivial
 |[], _ :: _, _, _, h => h.elim
 |_ :: _, [], _, _, h => h.elim
 |x :: xs, τ :: τs, h1, h2, h => ⟨h.1.cong (h1 x (by simp)) (fun r hr => h2 r (List.mem_flatMap.2 ⟨x, by simp, hr⟩)), W0y (fun y hy => h1 y (by simp [hy])) (fun r hr => h2 r (by
   obtain ⟨y, hy, hr⟩ := List.mem_flatMap.1 hr
   exact List.mem_flatMap.2 ⟨y, by simp [hy], hr⟩)) h.2⟩
theorem q0l {f : FuncId} {c : Operand} {xs : List Operand} {ats : Array TypeId} {τs : List AV} {res : AV} (hc : CtrA P f τs res) (hf : T.ev c = .av (.val (.func (.func f) #[] #[]))) (hx : All2 (BArg T O) xs τs) (hfl : res.flat) :
  GV P E ⟨d, .call ⟨.value c, xs.toArray, ats⟩, ty, pos, af, g⟩ T O (.av res) (W1K T xs) [] :=
 j1U _ hc hfl hf fun _ _ hT hO => W0y hT hO hx
theorem V0t (k r : Nat) {us : List Value} (hd : T.get k = .own r 0) (hr : look O r = some (.vb us)) : Ent T O ((k, .av (vbA us)) :: T.frz r .any) (Own.drop r O) := by
 rintro E a w ⟨Z, ν, h⟩
 have hrow := h.own.each r _ hr
 obtain ⟨b, t, e1, e2, e3, e4⟩ := Y0O hrow
 have hlt := (Array.getElem?_eq_some_iff.1 e4).1
 have hav : ∀ (τ : AV) v, τ.ok Z w v → τ.ok (fun k => Z k ∨ k = b) w v := AV.ok_mono (fun _ h => .inl h) (Nat.le_refl _) (fun _ _ _ => rfl)
 refine ⟨fun k => Z k ∨ k = b, ν, h.defers, h.tsize, h.cst, h.pin, ⟨h.base.os, h.base.tape, h.base.output, h.base.size, h.base.keepLt, h.base.kept, h.base.zok.or (fun k hk => hk ▸ hlt), fun k hk => .inl (h.base.z0 k hk), fun k hk => ?_⟩, ⟨fun k x hx => ?_, fun k k' hne h1 h2 => ?_⟩, fun q => ?_⟩
 ·rcases hk with hk | rfl
  ·exact h.base.zNew k hk
  ·exact .inr e2
 ·rw [Own.look_drop] at hx
  by_cases hkr : k = r
  ·rw [if_pos hkr] at hx; cases hx
  ·rw [if_neg hkr] at hx
   refine Res.ok_env (h.own.each k x hx) hav (fun b' hb' => ?_)
   obtain ⟨q1, q3, q4⟩ := Res.blk_lt (h.own.each k x hx) hb'
   refine ⟨fun hz => ?_, q4, rfl⟩
   rcases hz with hz | rfl
   ·exact q3 hz
   ·exact h.own.apart r k (fun e => hkr e.symm) (by rw [hr]; simp) (by rw [hx]; simp) b' (by rw [e1]; rfl) hb'
 ·have hh : ∀ k, look (Own.drop r O) k ≠ none → look O k ≠ none := fun k hk => by
   rw [Own.look_drop] at hk
   by_cases hkr : k = r
   ·rw [if_pos hkr] at hk; exact absurd rfl hk
   ·rwa [if_neg hkr] at hk
  exact h.own.apart k k' hne (hh k h1) (hh k' h2)
 ·by_cases hk : k = q
  ·subst hk
   rw [Tab.get_cons_eq]
   have hs := h.slot k
   rw [hd] at hs
   obtain ⟨b', q1, q2⟩ := hs
   rw [e1] at q1
   cases q1
   show (vbA us).ok _ w _
   rw [q2, ← e1]
   exact z1K hrow (fun b' hb' => by rw [e1] at hb'; cases hb'; exact .inr rfl)
  ·rw [Tab.get_cons_ne _ _ hk, Tab.get_frz]
   have hs := h.slot q
   generalize T.get q = s at hs
   have hsv := SV.ok_av (ν := ν) hav s _ hs
   cases s with
   |av σ => exact hsv
   |clo q cs' => simp only [SV.frz]; split <;> first | exact trivial | exact hsv
   |_ => simp only [SV.frz]; split <;> first | exact trivial | exact hsv
theorem z0m {t e : TypeId} {x y : Operand} {len sz n : Nat} {f : Nat → AV} {q : IntKind} {i : Int} (k : Nat) [ht : ArrTy P t len e sz] (hx : T.ev x = .av (.ptr n f)) (hy : T.ev y = .av (.val (.int q i))) (hi : i = ↑k) (hk : k < len) (hn : (k + 1) * sz ≤ n) :
  GV P E ⟨d, .indexAddr t x y, ty, pos, af, g⟩ T O (.av (.ptr sz (fun j => f (k * sz + j)))) [] [] := q0L hx hy hi hk (by rw [Nat.ble_eq]; exact hn)
def wA (b : Bool) (n : Int) (f : Nat → Int) : AV := .ptr 234 (fun i => .val ((wvs 232 b n f).getD i undef))
theorem X1T (b : Bool) (n : Int) (f : Nat → Int) : vbA (wvs 232 b n f) = wA b n f := by
 unfold vbA wA
 rw [q0r]
theorem X1U {b : Bool} {n : Int} {f : Nat → Int} {o k : Nat} (ho : o = k + 2) (h : k < 232) : AV.val ((wvs 232 b n f).getD o undef) = .val (.int .i64 (f k)) := by
 rw [List.getD, v0U ho h]; rfl
theorem x0T {t e : TypeId} {x : Operand} {lo hi : Option Operand} {r off len l h : Nat} {us : List Value} [ht : ArrTy P t len e 1] (hx : T.ev x = .own r off) (hr : look O r = some (.vb us))
  (hlo : match lo with | none => l = 0 | some y => ∃ q i, T.ev y = .av (.val (.int q i)) ∧ i = ↑l) (hhi : match hi with | none => h = len | some y => ∃ q i, T.ev y = .av (.val (.int q i)) ∧ i = ↑h)
  (hlh : l ≤ h) (hhn : h ≤ len) (hl0 : l < len) : GV P E ⟨d, .slice t x lo hi none, ty, pos, af, g⟩ T O (.ocs r (off + l) (h - l)) [r] [] :=
 j0p [r] fun Z ν a w hh hO => by
  obtain ⟨b, t', hb, _, _, hhp⟩ := Y0O (hO r (by simp) _ hr)
  have hax := x0A hx (hh x (by simp [Op.operands])) hb
  have hbd : (Instr.sliceBounds false len len (lo.map a.eval) (hi.map a.eval) none).run P w = .ok (l, h, len) w := by
   unfold Instr.sliceBounds
   cases hi with
   |none =>
    dsimp only at hhi
    subst hhi
    cases lo with
    |none => dsimp only at hlo; subst hlo; simp
    |some y =>
     obtain ⟨q, i, hy, rfl⟩ := hlo
     have hv := j0w hy (hh y (by simp [Op.operands]))
     simp [hv, Instr.sliceBound, asIntOf, hlh]
   |some z =>
    obtain ⟨q', i', hz, rfl⟩ := hhi
    have hv' := j0w hz (hh z (by simp [Op.operands]))
    cases lo with
    |none => dsimp only at hlo; subst hlo; simp [hv', Instr.sliceBound, asIntOf, hhn]
    |some y =>
     obtain ⟨q, i, hy, rfl⟩ := hlo
     have hv := j0w hy (hh y (by simp [Op.operands]))
     simp [hv, hv', Instr.sliceBound, asIntOf, hlh, hhn]
  refine ⟨.slice (some ⟨b, off + l, none⟩) (h - l) (len - l), ?_, ⟨b, len - l, hb, rfl⟩⟩
  have hne : ¬ len = l := by omega
  simp [execOp, Instr.sliceAt, hax, run_underlying ht.und, hbd, ht.size w, j0I, asAddr, Instr.sureAddr, hne]
theorem z1b {Z : j0q} {ν : j0N} {w : World} {x : Operand} {a : Act} {r off len b : Nat} (hx : T.ev x = .ocs r off len) (h : (T.ev x).ok Z ν w (a.eval x)) (hb : ν r = .pointer (some ⟨b, 0, none⟩)) : ∃ c, a.eval x = .slice (some ⟨b, off, none⟩) len c := by
 rw [hx] at h
 obtain ⟨b', c, h1, h2⟩ := h
 rw [hb] at h1
 simp only [Value.pointer.injEq, Option.some.injEq, Addr.mk.injEq, and_true] at h1
 subst h1
 exact ⟨c, h2⟩
theorem k0U {t t' e : TypeId} {x y : Operand} {r o1 l1 o2 l2 : Nat} {us vs : List Value} [ht : SlTy P t e 1] (hx : T.ev x = .ocs r o1 l1) (hy : T.ev y = .ocs r o2 l2) (hr : look O r = some (.vb us)) (hle : l2 ≤ l1) (h1 : o1 + l2 ≤ us.length) (h2 : o2 + l2 ≤ us.length) (hone : ∀ v ∈ us, v.oneCell' = true)
  (hvs : us.take o1 ++ (us.drop o2).take l2 ++ us.drop (o1 + l2) = vs) :
  GV P E ⟨d, .call ⟨.builtin .copy, #[x, y], #[t, t']⟩, ty, pos, af, g⟩ T O (.av (.val (.int .i64 (l2 : Nat)))) [r] [(r, .vb vs)] := by
 subst hvs
 refine ⟨fun T' O' hT hO => ⟨by intro c; simp, fun Z ν a w hs => ?_⟩⟩
 have ex := j0G hs x
 have ey := j0G hs y
 have e1 := j0r (o := ⟨d, .call ⟨.builtin .copy, #[x, y], #[t, t']⟩, ty, pos, af, g⟩) hT (x := x) (by simp [Op.operands, Call.operands])
 have e2 := j0r (o := ⟨d, .call ⟨.builtin .copy, #[x, y], #[t, t']⟩, ty, pos, af, g⟩) hT (x := y) (by simp [Op.operands, Call.operands])
 have hr' : look O' r = some (.vb us) := by rw [hO r (by simp)]; exact hr
 obtain ⟨b, tt, hb, hk, hz, hh⟩ := z1L hs hr'
 obtain ⟨c1, q1⟩ := z1b (e1.trans hx) ex hb
 obtain ⟨c2, q2⟩ := z1b (e2.trans hy) ey hb
 have hinf := X0w ht.size
 have hcl : ((us.drop o2).take l2).length = l2 := by simp; omega
 have hrun := run_copy_row (P := P) w t t' ty e b o1 l1 c1 ⟨b, o2, none⟩ l2 c2 us.toArray tt ((us.drop o2).take l2) ht.und hinf hh (by rw [hcl]; exact (Nat.min_eq_left hle).symm) (fun j v hj => by
  rw [j0I]
  have hjl := (List.getElem?_eq_some_iff.1 hj).1
  rw [hcl] at hjl
  rw [List.getElem?_take_of_lt hjl, List.getElem?_drop] at hj
  simp [World.cell?, hh, hj]) (by rw [hcl]; simpa using h1) (fun v hv => hone v (List.mem_of_mem_drop (List.mem_of_mem_take hv)))
 rw [hcl] at hrun
 refine j0B (w' := w.setRow b (us.take o1 ++ (us.drop o2).take l2 ++ us.drop (o1 + l2)).toArray) (v := .int .i64 (l2 : Nat)) ?_ ⟨_, Z, ν, rfl, ?_, rfl⟩
 ·simp only [execOp, resolve, invoke, builtin, Sem.run_bind, Sem.run_pure, Result.andThen_ok, List.map_toArray, List.map_cons, List.map_nil, q1, q2, hrun, goInt]
 ·refine hs.write hr' (b := b) (by rw [hb]; rfl) rfl rfl rfl (by simp) (fun k hk => setRow_other w b k _ hk) (fun hsv => ?_)
  exact ⟨b, _, by rw [hb]; rfl, hk, hz, setRow_heap w b _ _ tt _ hh, b, tt, hb, rfl⟩
theorem Q0B {x : Operand} {n : Nat} {f : Nat → AV} (hx : T.ev x = .av (.ptr n f)) : GV P E ⟨d, .nilCheck x, ty, pos, af, g⟩ T O (.av (.ptr n f)) [] [] :=
 j0p [] fun Z ν a w h _ => by
  have hk := h x (by simp [Op.operands])
  obtain ⟨b, o, he, _⟩ := z0v hx hk
  refine ⟨a.eval x, by simp [execOp, he], ?_⟩
  rw [hx] at hk
  exact hk
end Go.Vc
end
