/- A part of the proof. -/
import Derived.Test.YtgblokifbgeegaaGreatDoorRows
import Derived.ProofKit
import Derived.Deep.Slices
import Derived.Deep.Fields
import Derived.Deep.Strs
import Derived.OpenShut
import Derived.ChangeSame
import Derived.Lib.SmallJoins
import Derived.Carry
import Derived.Below
import Derived.FnData
import Derived.Shelf.Vars
import Derived.LaidLaws
import Derived.LaidHandle
import Derived.Handed
import Derived.Test.YtgblokifbgeegaaGreatDoorEah
import Derived.Test.YtgblokifbgeegaaGreatDoorEai
set_option linter.unusedVariables false
set_option linter.unusedSimpArgs false
namespace Go.Proofs.YtgblokifbgeegaaGreatDoor
open Go Go.Vc Go.RowKit Go.Na Go.Lib
set_option maxHeartbeats 4000000
theorem j0L {P : Program} {f : FuncId} {fn : Func} {c : Code} (hf : P.funcs[f]? = some fn) (hb : fn.body = some c) (hname : (fn.name == "runtime.NumGoroutine") = false) : Enters P f := w0W hf hb hname
theorem z0L {P : Program} {f : FuncId} {us : List Value} {v : Value} {res : AV} (he : Enters P f) (h : ∀ Z w, ZOk Z w → Calls P f us.toArray w fun e w' => e = .returned v ∧ Below w.heap.size w w') (hv : ∀ Z w, res.ok Z w v) : CtrA P f (us.map AV.val) res := by
 refine ⟨he, fun w Z vs hZ hvs => ?_⟩
 have : vs = us := by
  clear h he
  induction us generalizing vs with
  |nil => cases vs with
   |nil => rfl
   |cons _ _ => exact hvs.elim
  |cons u us ih => cases vs with
   |nil => exact hvs.elim
   |cons v vs => obtain ⟨h1, h2⟩ := hvs; rw [ih vs h2]; rw [show v = u from h1]
 subst this
 refine (h Z w hZ).mono ?_
 rintro e w' ⟨rfl, hb⟩
 exact ⟨v, Z, rfl, hb, fun _ h => h, fun _ h => .inl h, fun k hk => Nat.lt_of_lt_of_le (hZ.1 k hk) hb.size, hv Z _⟩
theorem X1z {u v : Value} (Z : j0q) (w : World) : (j0x [.val u, .val v]).ok Z w (.tuple #[u, v]) := by
 refine ⟨[u, v], rfl, rfl, fun i hi => ?_⟩
 have hi' : i < 2 := hi
 rcases (by omega : i = 0 ∨ i = 1) with rfl | rfl <;> exact ⟨_, rfl, rfl⟩
theorem X1A {u v x : Value} (Z : j0q) (w : World) : (j0x [.val u, .val v, .val x]).ok Z w (.tuple #[u, v, x]) := by
 refine ⟨[u, v, x], rfl, rfl, fun i hi => ?_⟩
 have hi' : i < 3 := hi
 rcases (by omega : i = 0 ∨ i = 1 ∨ i = 2) with rfl | rfl | rfl <;> exact ⟨_, rfl, rfl⟩
theorem Below.drewN' {B : Nat} {w : World} (n : Nat) : Below B w (w.drewN n) := ⟨rfl, rfl, rfl, Nat.le_refl _, fun _ _ => rfl⟩
theorem Below.grow' {w : World} (os : Array Obj) : Below w.heap.size w (Go.Sort.grow w os) := by
 refine ⟨rfl, rfl, rfl, by simp [Go.Sort.grow], fun k hk => ?_⟩
 simp [Go.Sort.grow, Array.getElem?_append_left hk]
theorem z1G (l : List UInt8) : Lib.trimPrefix l [45] = Na.szL l := by
 cases l with
 |nil => rfl
 |cons b r =>
  by_cases hb : b = 45
  ·subst hb
   rw [Na.szL, if_pos rfl]
   unfold Lib.trimPrefix Lib.hasPrefix
   simp [List.isPrefixOf]
  ·rw [Na.szL, if_neg hb]
   unfold Lib.trimPrefix Lib.hasPrefix
   rw [if_neg]
   simp [List.isPrefixOf, Ne.symm hb]
theorem x1I (l : List UInt8) : CtrA Tryz.prog 145 [vS l, vS [45]] (vS (Na.szL l)) := by
 refine z0L (us := [.string (bs l), .string (bs [45])]) (j0L Tryz.func145 rfl rfl) (fun Z w _ => (Tryz.strings_TrimPrefix (bs l) (bs [45]) w).mono ?_) (fun Z w => rfl)
 rintro e w' ⟨rfl, rfl⟩
 exact ⟨by rw [← z1G], Below.refl _ _⟩
theorem Z1n (l : List UInt8) : CtrA Tryz.prog 155 [vS l, vS [45]] (vb (decide (l.head? = some 45))) := by
 refine z0L (us := [.string (bs l), .string (bs [45])]) (j0L Tryz.func155 rfl rfl) (fun Z w _ => (Tryz.strings_HasPrefix (bs l) (bs [45]) w).mono ?_) (fun Z w => rfl)
 rintro e w' ⟨rfl, rfl⟩
 refine ⟨?_, Below.refl _ _⟩
 congr 2
 show Lib.hasPrefix l [45] = _
 cases l with
 |nil => rfl
 |cons b r =>
  unfold Lib.hasPrefix
  by_cases h : b = 45
  ·subst h; simp [List.isPrefixOf]
  ·have h' : (45 : UInt8) ≠ b := fun e => h e.symm
   simp [List.isPrefixOf, h, h']
theorem q1F (a b : List UInt8) : CtrA Tryz.prog 182 [vS a, vS b] (vi (Lib.compareBytes a b)) := by
 refine z0L (us := [.string (bs a), .string (bs b)]) (j0L Tryz.func182 rfl rfl) (fun Z w _ => (Tryz.strings_Compare (bs a) (bs b) w).mono ?_) (fun Z w => rfl)
 rintro e w' ⟨rfl, rfl⟩
 exact ⟨rfl, Below.refl _ _⟩
theorem V1L {Z : j0q} {w : World} (h : ZOk Z w) : Lib.TabIs Tryz.prog w "internal/strconv.uint64pow10" .u64 Lib.pow10Tab := by
 obtain ⟨b, t, fr, h1, _, _, h4⟩ := h.2 (1, .ob (K1L (Lib.pow10Tab.map (Value.int .u64)).toArray) (v1p _)) (by simp [glb])
 simp only [Value.pointer.injEq, Option.some.injEq, Addr.mk.injEq, and_true] at h1
 subst h1
 have hg : Tryz.prog.globalNamed "internal/strconv.uint64pow10" = some 1 := by kernel_rfl
 unfold Lib.TabIs World.var?
 rw [hg]
 simp only [Option.bind_some, h4]
theorem k0J (n : Int) (h : -9223372036854775808 ≤ n ∧ n ≤ 9223372036854775807) : CtrA Tryz.prog 125 [vi n] (vI n) := by
 refine z0L (us := [.int .i64 n]) (j0L Tryz.func125 rfl rfl) (fun Z w hZ => (Tryz.strconv_Itoa n h.1 h.2 w (V1L hZ)).mono ?_) (fun Z w => rfl)
 rintro e w' ⟨rfl, k, os, rfl⟩
 exact ⟨rfl, (Below.drewN' k).trans (Below.grow' (w := w.drewN k) os)⟩
theorem z0u : ∀ (l : List UInt8) (a : Nat), (∀ b ∈ l, isD b) → Lib.decFrom a l = some (dvA a l)
 |[], _, _ => rfl
 |b :: l, a, h => by
  have hb := h b (by simp)
  have : Lib.digitVal b = some (b.toNat - 48) := if_pos hb
  simp only [Lib.decFrom, this]
  rw [z0u l _ fun c hc => h c (by simp [hc])]
  rfl
theorem Z0M {l : List UInt8} (hne : l ≠ []) (h : ∀ b ∈ l, isD b) : Lib.atoi l = some ((dv l : Nat) : Int) := by
 cases l with
 |nil => exact absurd rfl hne
 |cons b r =>
  have hb := h b (by simp)
  have h1 : (b == 45) = false := by simp; exact q1Q hb
  have h2 : (b == 43) = false := by simp; rintro rfl; exact absurd hb (by decide)
  have h3 : Lib.decNat (b :: r) = some (dv (b :: r)) := by
   unfold Lib.decNat
   rw [if_neg (by simp)]
   exact z0u _ 0 h
  simp [Lib.atoi, h1, h2, h3]
theorem X0r (m : Int) : Lib.atoi (itoa m) = some m := by
 by_cases h : m < 0
 ·rw [itoa_neg h]
  have h3 : Lib.decNat (decDigits m.natAbs) = some m.natAbs := by
   unfold Lib.decNat
   rw [if_neg (by simp [w0l]), z0u _ 0 (j0I _)]
   exact congrArg some (q0b _)
  simp [Lib.atoi, h3]; omega
 ·rw [itoa_pos h, Z0M (w0l _) (j0I _), q0b]
  congr 1; omega
abbrev q2q : AV := .val .nilIface
theorem q1c (l : List UInt8) (n : Int) (hl : l.length ≤ 18) (h : Lib.atoi l = some n) : CtrA Tryz.prog 192 [vS l] (j0x [vi n, q2q]) := by
 refine z0L (us := [.string (bs l)]) (j0L Tryz.func192 rfl rfl) (fun Z w _ => (Tryz.strconv_Atoi (bs l) n hl h w).mono ?_) (fun Z w => X1z Z w)
 rintro e w' ⟨rfl, t, rfl⟩
 exact ⟨rfl, rfl, rfl, rfl, by rw [Lib.bytesWorld_size]; omega, fun k hk => Lib.bytesWorld_at_old w 5 t k hk⟩
abbrev ten : List UInt8 := [48, 49, 50, 51, 52, 53, 54, 55, 56, 57]
theorem Z0B (b : UInt8) : ten.contains b = true ↔ isD b := by
 constructor
 ·intro h
  simp [ten] at h
  rcases h with rfl | rfl | rfl | rfl | rfl | rfl | rfl | rfl | rfl | rfl <;> decide
 ·intro h
  rw [← ofd h]
  have := h.1; have := h.2
  rcases (by omega : b.toNat - 48 = 0 ∨ b.toNat - 48 = 1 ∨ b.toNat - 48 = 2 ∨ b.toNat - 48 = 3 ∨ b.toNat - 48 = 4 ∨ b.toNat - 48 = 5 ∨ b.toNat - 48 = 6 ∨ b.toNat - 48 = 7 ∨ b.toNat - 48 = 8 ∨ b.toNat - 48 = 9) with e | e | e | e | e | e | e | e | e | e <;> rw [e] <;> decide
theorem q1X {l : List UInt8} : l.dropWhile (ten.contains ·) = [] ↔ ∀ b ∈ l, isD b := by
 induction l with
 |nil => simp
 |cons b l ih =>
  rw [List.dropWhile_cons]
  by_cases h : ten.contains b = true
  ·rw [if_pos h, ih]
   simp [(Z0B b).1 h]
  ·rw [if_neg h]
   constructor
   ·intro e; cases e
   ·intro e; exact absurd ((Z0B b).2 (e b (by simp))) h
theorem Y0u {l : List UInt8} : Lib.trimS l ten = [] ↔ ∀ b ∈ l, isD b := by
 unfold Lib.trimS Lib.trimLeftS Lib.trimRightS
 rw [q1X]
 constructor
 ·intro h
  have h1 : ∀ b ∈ l.reverse.dropWhile (ten.contains ·), isD b := fun b hb => h b (List.mem_reverse.2 hb)
  intro b hb
  have hs := List.takeWhile_append_dropWhile (p := (ten.contains ·)) (l := l.reverse)
  have hb' : b ∈ l.reverse := by simp [hb]
  rw [← hs] at hb'
  rcases List.mem_append.1 hb' with h2 | h2
  ·exact (Z0B b).1 (List.all_eq_true.1 (List.all_takeWhile) b h2)
  ·exact h1 b h2
 ·intro h b hb
  have : b ∈ l.reverse.dropWhile (ten.contains ·) := List.mem_reverse.1 hb
  exact h b (by simpa using (List.dropWhile_sublist _).subset this)
theorem k1U (l : List UInt8) (hl : l.length ≤ 1000000) : CtrA Tryz.prog 196 [vS l, vS ten] (vS (Lib.trimS l ten)) := by
 refine z0L (us := [.string (bs l), .string (bs ten)]) (j0L Tryz.func196 rfl rfl) (fun Z w _ => (Any.strings_Trim_laid Tryz.lays160 (by kernel_rfl) (bs l) (bs ten) w (by show l.length ≤ _; omega) zE (ascii_of_all zE)).mono ?_) (fun Z w => rfl)
 rintro e w' ⟨rfl, hb⟩
 exact ⟨rfl, hb⟩
theorem Y1C (l : List UInt8) (hl : l.length ≤ 1000000) : CtrA Tryz.prog 141 [vS l, vS [47]] (j0x [vS (Lib.cut l [47]).1, vS (Lib.cut l [47]).2.1, vb (Lib.cut l [47]).2.2]) := by
 refine z0L (us := [.string (bs l), .string (bs [47])]) (j0L Tryz.func141 rfl rfl) (fun Z w hZ => ?_) (fun Z w => X1A Z w)
 obtain ⟨b, m, h1, _, _, h4⟩ := hZ.2 (0, .ob K1K v1o) (by simp [glb])
 simp only [Value.pointer.injEq, Option.some.injEq, Addr.mk.injEq, and_true] at h1
 subst h1
 refine (Tryz.strings_Cut (bs l) (bs [47]) m w (by show l.length < _; omega) h4).mono ?_
 rintro e w' ⟨rfl, n, rfl⟩
 exact ⟨rfl, Below.drewN' n⟩
end Go.Proofs.YtgblokifbgeegaaGreatDoor
namespace Go.Proofs.YtgblokifbgeegaaGreatDoor
open Go Go.Vc Go.RowKit Go.ChangeShapes Go.WideShapes Go.ChangeAt Go.Joins
set_option maxRecDepth 100000
theorem k0K {P : Program} {w : World} : ∀ {l : List (String × DataW Unit)} {ps : List MemPlace}, DataW.LaidVars P w l ps → ∀ {n : String} {d : DataW Unit}, (n, d) ∈ l →
  ∃ g t cs fuel p, P.globalNamed n = some g ∧ (P.globals[g]?).map (·.type) = some t ∧ w.var? P n = some cs ∧ DataW.trod (fun _ => ()) P w 0 (fun _ => true) false fuel t cs.toList = some (d, p)
 |[], _, _, _, _, hm => by cases hm
 |(n', d') :: r, _, h, n, d, hm => by
  obtain ⟨g, t, cs, fuel, p, q, h1, h2, h3, h4, h5, _⟩ := h
  rcases List.mem_cons.1 hm with e | hm
  ·cases e; exact ⟨g, t, cs, fuel, p, h1, h2, h3, h4⟩
  ·exact k0K h5 hm
theorem V1U {H : Type} {enc : TypeId × Value → H} {P : Program} {W : World} {base : Nat} {spare : Nat → Bool} {held : Bool} {t e : TypeId} {q : IntKind} {n fuel : Nat} {cs : List Value} {d : DataW H} {p : List MemPlace}
  (ht : P.underlying t = some (.array n e)) (he : P.underlying e = some (.int q)) (hc : P.cellsOf e = 1) (hct : P.cellsOf t = n) (h : DataW.trod enc P W base spare held fuel t cs = some (d, p)) :
  ∃ ms : List Int, cs = ms.map (Value.int q) ∧ d = .agg (ms.map fun m => .lit (.int q m)) := by
 obtain ⟨xs, m, _, ex, hl, hxl, hel⟩ := DataW.trod_array ht h
 rw [hct] at hl
 rw [hc] at hel
 have key : ∀ i, i < n → ∃ z : Int, cs[i]? = some (.int q z) ∧ xs[i]? = some (.lit (.int q z), []) := fun i hi => by
  have h0 := hel i hi
  rw [List.getElem?_eq_getElem (by omega)] at h0
  obtain ⟨z, q0, q1, _⟩ := DataW.trod_int he h0
  refine ⟨z, ?_, by rw [List.getElem?_eq_getElem (by omega), q1]⟩
  have : ((cs.drop (i * 1)).take 1)[0]? = some (.int q z) := by rw [q0]; rfl
  simpa [List.getElem?_take, List.getElem?_drop] using this
 let f : Nat → Int := fun i => if h : i < n then (key i h).choose else 0
 have hf : ∀ i, i < n → cs[i]? = some (.int q (f i)) ∧ xs[i]? = some (.lit (.int q (f i)), []) := fun i hi => by
  have := (key i hi).choose_spec
  simpa [f, hi] using this
 refine ⟨(List.range n).map f, ?_, ?_⟩
 ·apply List.ext_getElem?
  intro i
  by_cases hi : i < n
  ·rw [(hf i hi).1]; simp [hi]
  ·rw [List.getElem?_eq_none (by omega), List.getElem?_eq_none (by simp; omega)]
 ·have hx : xs.map (·.1) = ((List.range n).map f).map (fun m => DataW.lit (.int q m)) := by
   apply List.ext_getElem?
   intro i
   by_cases hi : i < n
   ·rw [List.getElem?_map, (hf i hi).2]; simp [hi]
   ·rw [List.getElem?_eq_none (by simp; omega), List.getElem?_eq_none (by simp; omega)]
  have := congrArg Prod.fst ex
  rw [hx] at this
  exact this
end Go.Proofs.YtgblokifbgeegaaGreatDoor
