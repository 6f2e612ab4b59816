/- A part of the proof. -/
import Derived.Test.YtfggdokihnopeaaGreatDoorCam
import Derived.Test.YtfggdokihnopeaaGreatDoorCan
set_option linter.unusedVariables false
set_option linter.unusedSimpArgs false
namespace Go.Proofs.YtfggdokihnopeaaGreatDoor
open Go Go.Vc Go.RowKit Go.Na Go.Lib
set_option maxHeartbeats 4000000
theorem Z0L (m : Int) : (itoa m == [49]) = decide (m = 1) := by
 by_cases h : m = 1
 ·rw [h, W0Z]; rfl
 ·rw [decide_eq_false h, beq_eq_false_iff_ne, ← W0Z]
  exact fun e => h (w0H e)
theorem v1z (l : List UInt8) : (spN l).length ≤ l.length := by
 unfold spN; split
 ·simp; omega
 ·exact Nat.le_refl _
theorem v1w (l : List UInt8) : (spD l).length ≤ l.length + 1 := by
 unfold spD; split
 ·simp; omega
 ·simp
theorem w0O {m : Int} {k : Nat} (h : (itoa m).length ≤ k) : LI k m := .of_len (by
 by_cases hm : m < 0
 ·rw [itoa_neg hm] at h; simp at h; omega
 ·rw [j0E hm] at h; exact h)
theorem Y0z (l : List UInt8) (hl : l.length ≤ 400) : CtrA Tryz.prog 77 [vS l] (vi (v0j l)) := by
 have h1 := v1C l zO
 have h2 := v1v l zO
 have ln := v1z l
 have ld := v1w l
 have c1 := Q0R (spN l) zO
 have c2 := Q0R (spD l) zO
 rcases y0e (l := spN l) zO with e1 | e1
 case inr =>
  rw [e1] at c1
  refine j0s _ Tryz.func77 rfl rfl Tryz.ntmps77 rfl fun w Z => ?_
  refine zU ?_
  refine wk ?_
  exact j0c rfl (.tmp rfl) (congrArg vi (v0W fun h => by
   obtain ⟨m, hm⟩ := (x0b _).1 (w0G h).1
   rw [hm, J0m (w0O (by rw [← hm]; omega))] at e1
   cases e1).symm)
 obtain ⟨m, hm⟩ := z0I e1
 rcases y0e (l := spD l) zO with e2 | e2
 case inr =>
  rw [e1] at c1
  rw [e2] at c2
  refine j0s _ Tryz.func77 rfl rfl Tryz.ntmps77 rfl fun w Z => ?_
  refine zU ?_
  refine wk ?_
  exact j0c rfl (.tmp rfl) (congrArg vi (v0W fun h => by
   obtain ⟨m, hm⟩ := (x0b _).1 (w0G h).2
   rw [hm, J0m (w0O (by rw [← hm]; omega))] at e2
   cases e2).symm)
 obtain ⟨e, he⟩ := z0I e2
 rw [e1] at c1
 rw [e2] at c2
 have hs1 : spN l = match spI l with | some i => l.take i | none => l := rfl
 have hs2 : spD l = match spI l with | some i => l.drop (i + 1) | none => [49] := rfl
 unfold spZ at h2
 cases hI : spI l with
 |none =>
  rw [hI] at h2 hs1
  dsimp only at h2 hs1
  refine j0s _ Tryz.func77 rfl rfl Tryz.ntmps77 rfl fun w Z => ?_
  refine zU ?_
  refine wk ?_
  exact j0c rfl (.tmp rfl) (congrArg vi (by rw [← hs1, hm]; exact (if_pos (W0Y m)).symm))
 |some i =>
  rw [hI] at h2 hs1 hs2
  dsimp only at h2 hs1 hs2
  obtain ⟨hl2, _, hil⟩ := k0m hI
  rw [← hs1, ← hs2, hm, he] at hl2
  have hiff := W0X m e
  rw [← hl2] at hiff
  rw [hm] at h1 c1
  rw [he] at h1 c2
  have lm : LI 401 m := w0O (by rw [← hm]; omega)
  have le : LI 401 e := w0O (by rw [← he]; omega)
  have ho := q1D e 1 (le.mono zE) (.small zE zE)
  rw [show vI 1 = vS [49] by rw [vI, W0Z]] at ho
  have hsh := x1L m e (lm.mono zE) (le.mono zE)
  have h49 := Z0L ((Int.gcd m e : Nat) : Int)
  by_cases h0 : 1 < e
  ·have es : sgn (e - 1) = 1 := by unfold sgn; rw [if_neg (by omega), if_neg (by omega)]
   rw [es] at ho
   by_cases hg : Int.gcd m e = 1
   ·rw [decide_eq_true (by omega)] at h49
    refine j0s _ Tryz.func77 rfl rfl Tryz.ntmps77 rfl fun w Z => ?_
    refine zU ?_
    refine wk ?_
    rw [h49]
    refine wk ?_
    exact j0c rfl (.tmp rfl) (congrArg vi (if_pos (hiff.2 ⟨h0, hg⟩)).symm)
   ·rw [decide_eq_false (by omega)] at h49
    refine j0s _ Tryz.func77 rfl rfl Tryz.ntmps77 rfl fun w Z => ?_
    refine zU ?_
    refine wk ?_
    rw [h49]
    refine wk ?_
    exact j0c rfl (.tmp rfl) (congrArg vi (v0W fun h => hg (hiff.1 h).2).symm)
  ·have hbad : v0j l = 3 := v0W fun h => h0 (hiff.1 h).1
   rw [hbad]
   by_cases h1' : e = 1
   ·have es : sgn (e - 1) = 0 := by unfold sgn; rw [if_pos (by omega)]
    rw [es] at ho
    refine j0s _ Tryz.func77 rfl rfl Tryz.ntmps77 rfl fun w Z => ?_
    refine zU ?_
    refine wk ?_
    exact zV
   ·have es : sgn (e - 1) = -1 := by unfold sgn; rw [if_neg (by omega), if_pos (by omega)]
    rw [es] at ho
    refine j0s _ Tryz.func77 rfl rfl Tryz.ntmps77 rfl fun w Z => ?_
    refine zU ?_
    refine wk ?_
    exact zV
theorem j0U {P : Program} {f : FuncId} {fn : Func} {c : Code} (hf : P.funcs[f]? = some fn) (hb : fn.body = some c) (hname : (fn.name == "runtime.NumGoroutine") = false) : Enters P f := w0X hf hb hname
theorem J0r {P : Program} {f : FuncId} {us : List Value} {v : Value} {res : AV} (he : Enters P f) (h : ∀ Z w, ZOk Z w → Calls P f us.toArray w fun e w' => e = .returned v ∧ Below w.heap.size w w') (hv : ∀ Z w, res.ok Z w v) : CtrA P f (us.map AV.val) res := by
 refine ⟨he, fun w Z vs hZ hvs => ?_⟩
 have : vs = us := by
  clear h he
  induction us generalizing vs with
  |nil => cases vs with
   |nil => rfl
   |cons _ _ => exact hvs.elim
  |cons u us ih => cases vs with
   |nil => exact hvs.elim
   |cons v vs => obtain ⟨h1, h2⟩ := hvs; rw [ih vs h2]; rw [show v = u from h1]
 subst this
 refine (h Z w hZ).mono ?_
 rintro e w' ⟨rfl, hb⟩
 exact ⟨v, Z, rfl, hb, fun _ h => h, fun _ h => .inl h, fun k hk => Nat.lt_of_lt_of_le (hZ.1 k hk) hb.size, hv Z _⟩
theorem V1i {u v : Value} (Z : j0q) (w : World) : (j0x [.val u, .val v]).ok Z w (.tuple #[u, v]) := by
 refine ⟨[u, v], rfl, rfl, fun i hi => ?_⟩
 have hi' : i < 2 := hi
 rcases (by omega : i = 0 ∨ i = 1) with rfl | rfl <;> exact ⟨_, rfl, rfl⟩
theorem V1j {u v x : Value} (Z : j0q) (w : World) : (j0x [.val u, .val v, .val x]).ok Z w (.tuple #[u, v, x]) := by
 refine ⟨[u, v, x], rfl, rfl, fun i hi => ?_⟩
 have hi' : i < 3 := hi
 rcases (by omega : i = 0 ∨ i = 1 ∨ i = 2) with rfl | rfl | rfl <;> exact ⟨_, rfl, rfl⟩
theorem Below.drewN' {B : Nat} {w : World} (n : Nat) : Below B w (w.drewN n) := ⟨rfl, rfl, rfl, Nat.le_refl _, fun _ _ => rfl⟩
theorem Below.grow' {w : World} (os : Array Obj) : Below w.heap.size w (Go.Sort.grow w os) := by
 refine ⟨rfl, rfl, rfl, by simp [Go.Sort.grow], fun k hk => ?_⟩
 simp [Go.Sort.grow, Array.getElem?_append_left hk]
theorem x1U (l : List UInt8) : Lib.trimPrefix l [45] = Na.szL l := by
 cases l with
 |nil => rfl
 |cons b r =>
  by_cases hb : b = 45
  ·subst hb
   rw [Na.szL, if_pos rfl]
   unfold Lib.trimPrefix Lib.hasPrefix
   simp [List.isPrefixOf]
  ·rw [Na.szL, if_neg hb]
   unfold Lib.trimPrefix Lib.hasPrefix
   rw [if_neg]
   simp [List.isPrefixOf, Ne.symm hb]
theorem v1V (l : List UInt8) : CtrA Tryz.prog 224 [vS l, vS [45]] (vS (Na.szL l)) := by
 refine J0r (us := [.string (bs l), .string (bs [45])]) (j0U Tryz.func224 rfl rfl) (fun Z w _ => (Tryz.strings_TrimPrefix (bs l) (bs [45]) w).mono ?_) (fun Z w => rfl)
 rintro e w' ⟨rfl, rfl⟩
 exact ⟨by rw [← x1U], Below.refl _ _⟩
theorem W1w (l : List UInt8) : CtrA Tryz.prog 232 [vS l, vS [45]] (vb (decide (l.head? = some 45))) := by
 refine J0r (us := [.string (bs l), .string (bs [45])]) (j0U Tryz.func232 rfl rfl) (fun Z w _ => (Tryz.strings_HasPrefix (bs l) (bs [45]) w).mono ?_) (fun Z w => rfl)
 rintro e w' ⟨rfl, rfl⟩
 refine ⟨?_, Below.refl _ _⟩
 congr 2
 show Lib.hasPrefix l [45] = _
 cases l with
 |nil => rfl
 |cons b r =>
  unfold Lib.hasPrefix
  by_cases h : b = 45
  ·subst h; simp [List.isPrefixOf]
  ·have h' : (45 : UInt8) ≠ b := fun e => h e.symm
   simp [List.isPrefixOf, h, h']
theorem y0f (a b : List UInt8) : CtrA Tryz.prog 289 [vS a, vS b] (vi (Lib.compareBytes a b)) := by
 refine J0r (us := [.string (bs a), .string (bs b)]) (j0U Tryz.func289 rfl rfl) (fun Z w _ => (Tryz.strings_Compare (bs a) (bs b) w).mono ?_) (fun Z w => rfl)
 rintro e w' ⟨rfl, rfl⟩
 exact ⟨rfl, Below.refl _ _⟩
theorem J1L {Z : j0q} {w : World} (h : ZOk Z w) : Lib.TabIs Tryz.prog w "internal/strconv.uint64pow10" .u64 Lib.pow10Tab := by
 obtain ⟨b, t, fr, h1, _, _, h4⟩ := h.2 (2, .ob (Y1M (Lib.pow10Tab.map (Value.int .u64)).toArray) (j1T _)) (by simp [glb])
 simp only [Value.pointer.injEq, Option.some.injEq, Addr.mk.injEq, and_true] at h1
 subst h1
 have hg : Tryz.prog.globalNamed "internal/strconv.uint64pow10" = some 2 := by kernel_rfl
 unfold Lib.TabIs World.var?
 rw [hg]
 simp only [Option.bind_some, h4]
theorem Z0K (n : Int) (h : -9223372036854775808 ≤ n ∧ n ≤ 9223372036854775807) : CtrA Tryz.prog 173 [vi n] (vI n) := by
 refine J0r (us := [.int .i64 n]) (j0U Tryz.func173 rfl rfl) (fun Z w hZ => (Tryz.strconv_Itoa n h.1 h.2 w (J1L hZ)).mono ?_) (fun Z w => rfl)
 rintro e w' ⟨rfl, k, os, rfl⟩
 exact ⟨rfl, (Below.drewN' k).trans (Below.grow' (w := w.drewN k) os)⟩
theorem y0L : ∀ (l : List UInt8) (a : Nat), (∀ b ∈ l, isD b) → Lib.decFrom a l = some (dvA a l)
 |[], _, _ => rfl
 |b :: l, a, h => by
  have hb := h b (by simp)
  have : Lib.digitVal b = some (b.toNat - 48) := if_pos hb
  simp only [Lib.decFrom, this]
  rw [y0L l _ fun c hc => h c (by simp [hc])]
  rfl
theorem Y0V {l : List UInt8} (hne : l ≠ []) (h : ∀ b ∈ l, isD b) : Lib.atoi l = some ((dv l : Nat) : Int) := by
 cases l with
 |nil => exact absurd rfl hne
 |cons b r =>
  have hb := h b (by simp)
  have h1 : (b == 45) = false := by simp; exact j1x hb
  have h2 : (b == 43) = false := by simp; rintro rfl; exact absurd hb (by decide)
  have h3 : Lib.decNat (b :: r) = some (dv (b :: r)) := by
   unfold Lib.decNat
   rw [if_neg (by simp)]
   exact y0L _ 0 h
  simp [Lib.atoi, h1, h2, h3]
theorem W0A (m : Int) : Lib.atoi (itoa m) = some m := by
 by_cases h : m < 0
 ·rw [itoa_neg h]
  have h3 : Lib.decNat (decDigits m.natAbs) = some m.natAbs := by
   unfold Lib.decNat
   rw [if_neg (by simp [w0l]), y0L _ 0 (j0L _)]
   exact congrArg some (q0f _)
  simp [Lib.atoi, h3]; omega
 ·rw [j0E h, Y0V (w0l _) (j0L _), q0f]
  congr 1; omega
abbrev k1f : AV := .val .nilIface
theorem j1a (l : List UInt8) (n : Int) (hl : l.length ≤ 18) (h : Lib.atoi l = some n) : CtrA Tryz.prog 290 [vS l] (j0x [vi n, k1f]) := by
 refine J0r (us := [.string (bs l)]) (j0U Tryz.func290 rfl rfl) (fun Z w _ => (Tryz.strconv_Atoi (bs l) n hl h w).mono ?_) (fun Z w => V1i Z w)
 rintro e w' ⟨rfl, t, rfl⟩
 exact ⟨rfl, rfl, rfl, rfl, by rw [Lib.bytesWorld_size]; omega, fun k hk => Lib.bytesWorld_at_old w 5 t k hk⟩
abbrev ten : List UInt8 := [48, 49, 50, 51, 52, 53, 54, 55, 56, 57]
theorem Y0K (b : UInt8) : ten.contains b = true ↔ isD b := by
 constructor
 ·intro h
  simp [ten] at h
  rcases h with rfl | rfl | rfl | rfl | rfl | rfl | rfl | rfl | rfl | rfl <;> decide
 ·intro h
  rw [← ofd h]
  have := h.1; have := h.2
  rcases (by omega : b.toNat - 48 = 0 ∨ b.toNat - 48 = 1 ∨ b.toNat - 48 = 2 ∨ b.toNat - 48 = 3 ∨ b.toNat - 48 = 4 ∨ b.toNat - 48 = 5 ∨ b.toNat - 48 = 6 ∨ b.toNat - 48 = 7 ∨ b.toNat - 48 = 8 ∨ b.toNat - 48 = 9) with e | e | e | e | e | e | e | e | e | e <;> rw [e] <;> decide
theorem j1C {l : List UInt8} : l.dropWhile (ten.contains ·) = [] ↔ ∀ b ∈ l, isD b := by
 induction l with
 |nil => simp
 |cons b l ih =>
  rw [List.dropWhile_cons]
  by_cases h : ten.contains b = true
  ·rw [if_pos h, ih]
   simp [(Y0K b).1 h]
  ·rw [if_neg h]
   constructor
   ·intro e; cases e
   ·intro e; exact absurd ((Y0K b).2 (e b (by simp))) h
theorem X0E {l : List UInt8} : Lib.trimS l ten = [] ↔ ∀ b ∈ l, isD b := by
 unfold Lib.trimS Lib.trimLeftS Lib.trimRightS
 rw [j1C]
 constructor
 ·intro h
  have h1 : ∀ b ∈ l.reverse.dropWhile (ten.contains ·), isD b := fun b hb => h b (List.mem_reverse.2 hb)
  intro b hb
  have hs := List.takeWhile_append_dropWhile (p := (ten.contains ·)) (l := l.reverse)
  have hb' : b ∈ l.reverse := by simp [hb]
  rw [← hs] at hb'
  rcases List.mem_append.1 hb' with h2 | h2
  ·exact (Y0K b).1 (List.all_eq_true.1 (List.all_takeWhile) b h2)
  ·exact h1 b h2
 ·intro h b hb
  have : b ∈ l.reverse.dropWhile (ten.contains ·) := List.mem_reverse.1 hb
  exact h b (by simpa using (List.dropWhile_sublist _).subset this)
theorem X1I (l : List UInt8) (hl : l.length ≤ 1000000) : CtrA Tryz.prog 225 [vS l, vS ten] (vS (Lib.trimS l ten)) := by
 refine J0r (us := [.string (bs l), .string (bs ten)]) (j0U Tryz.func225 rfl rfl) (fun Z w _ => (Any.strings_Trim_laid Tryz.lays160 (by kernel_rfl) (bs l) (bs ten) w (by show l.length ≤ _; omega) zE (ascii_of_all zE)).mono ?_) (fun Z w => rfl)
 rintro e w' ⟨rfl, hb⟩
 exact ⟨rfl, hb⟩
theorem J1p (l : List UInt8) (hl : l.length ≤ 1000000) : CtrA Tryz.prog 223 [vS l, vS [47]] (j0x [vS (Lib.cut l [47]).1, vS (Lib.cut l [47]).2.1, vb (Lib.cut l [47]).2.2]) := by
 refine J0r (us := [.string (bs l), .string (bs [47])]) (j0U Tryz.func223 rfl rfl) (fun Z w hZ => ?_) (fun Z w => V1j Z w)
 obtain ⟨b, m, h1, _, _, h4⟩ := hZ.2 (1, .ob Y1L j1R) (by simp [glb])
 simp only [Value.pointer.injEq, Option.some.injEq, Addr.mk.injEq, and_true] at h1
 subst h1
 refine (Tryz.strings_Cut (bs l) (bs [47]) m w (by show l.length < _; omega) h4).mono ?_
 rintro e w' ⟨rfl, n, rfl⟩
 exact ⟨rfl, Below.drewN' n⟩
end Go.Proofs.YtfggdokihnopeaaGreatDoor
section
namespace Go.Proofs.YtfggdokihnopeaaGreatDoor
open Go Go.Vc Go.RowKit Go.Na Go.Lib
set_option maxHeartbeats 4000000
theorem W0o (l : List UInt8) (hl : l.length ≤ 1000000) : CtrA Tryz.prog 165 [vS l] (vi (chk l)) := by
 have h1 := v1V l
 have hsl := Y0J l
 cases hs : Na.szL l with
 |nil =>
  rw [hs] at h1
  refine j0s _ Tryz.func165 rfl rfl Tryz.ntmps165 rfl fun w Z => ?_
  refine zU ?_
  refine wk ?_
  exact j0c rfl (.tmp rfl) (congrArg vi (x0P fun h => h.ne hs).symm)
 |cons b r =>
  rw [hs] at h1 hsl
  have h2 := X1I (b :: r) zO
  by_cases ht : Lib.trimS (b :: r) ten = []
  ·rw [ht] at h2
   have hd := X0E.1 ht
   by_cases hb : b = 48
   ·by_cases hl1 : l = [48]
    ·have hn : IsNum l := ⟨by rw [hs]; simp, fun _ => hl1, fun y hy => hd y (by rw [← hs]; exact hy)⟩
     have e0 : (l == [48]) = true := by rw [hl1]; rfl
     have hr : r = [] := by
      rw [hl1] at hs
      have : Na.szL [48] = [48] := rfl
      rw [this] at hs
      injection hs with _ hs
      exact hs.symm
     subst hb hr
     have hc : chk l = 0 := by unfold chk; rw [if_pos hn, hs]; rfl
     rw [hc]
     refine j0s _ Tryz.func165 rfl rfl Tryz.ntmps165 rfl fun w Z => ?_
     refine zU ?_
     refine wk ?_
     rw [e0]
     refine wk ?_
     exact zV
    ·have e0 : (l == [48]) = false := by rw [beq_eq_false_iff_ne]; exact hl1
     subst hb
     have hc : chk l = 3 := x0P fun h => hl1 (h.hd (by rw [hs]; rfl))
     rw [hc]
     refine j0s _ Tryz.func165 rfl rfl Tryz.ntmps165 rfl fun w Z => ?_
     refine zU ?_
     refine wk ?_
     rw [e0]
     refine wk ?_
     exact zV
   ·have hn : IsNum l := ⟨by rw [hs]; simp, fun h => by rw [hs] at h; simp at h; exact absurd h hb, fun y hy => hd y (by rw [← hs]; exact hy)⟩
    have e1 : ((b.toNat : Int) == 48) = false := by
     rw [beq_eq_false_iff_ne]; exact fun e => hb ((y1g b 48).1 e)
    refine j0s _ Tryz.func165 rfl rfl Tryz.ntmps165 rfl fun w Z => ?_
    refine zU ?_
    refine wk ?_
    rw [e1]
    refine wk ?_
    (refine j0a rfl ?_ ?_ <;> intro hb <;> (try simp only [zA, zB, zG, zC, zD, zN] at hb) <;> (try exact zQ))
    all_goals
     refine wk ?_
     first
      |exact j0c rfl (.tmp rfl) (congrArg vi (by unfold chk; rw [if_pos hn, if_pos (by rw [hs]; omega)]))
      |exact j0c rfl (.tmp rfl) (congrArg vi (by unfold chk; rw [if_pos hn, if_neg (by rw [hs]; omega)]))
  ·have hc : chk l = 3 := x0P fun h => ht (X0E.2 fun y hy => h.dig y (by rw [hs]; exact hy))
   rw [hc]
   have e1 : (Lib.trimS (b :: r) ten == []) = false := by
    rw [beq_eq_false_iff_ne]; exact ht
   generalize Lib.trimS (b :: r) ten = X at *
   refine j0s _ Tryz.func165 rfl rfl Tryz.ntmps165 rfl fun w Z => ?_
   refine zU ?_
   refine wk ?_
   rw [e1]
   refine wk ?_
   exact zV
theorem w0g (m : Int) (h : LI 1000 m) : CtrA Tryz.prog 165 [vI m] (vi 0) := by
 have := W0o (itoa m) (by
  have := h.len zE
  by_cases hm : m < 0
  ·rw [itoa_neg hm]; simp; omega
  ·rw [j0E hm]; omega)
 rwa [J0m h] at this
theorem V1B (n : Nat) (g : Nat → Int) (hn : n ≤ 1000000) (hg : ∀ i, i < n → LI 1000 (g i)) : CtrA Tryz.prog 226 [.sl n 1 (fun i _ => vI (g i))] (vi 0) := by
 refine j0s _ Tryz.func226 rfl rfl Tryz.ntmps226 rfl fun w Z => ?_
 refine zU ?_
 refine wk ?_
 refine j0g (γ := Nat) (fun i => [(6, .av (.sl n 1 (fun i _ => vI (g i)))), (7, .av (vi n)), (8, .av (vi i))]) (fun _ => []) (fun i => i ≤ n) (fun i => n - i) 0 (Nat.zero_le _) (ent zS trivial) ?_
 intro i hi
 refine wk ?_
 (refine j0a rfl ?_ ?_ <;> intro hb <;> (try simp only [zA, zB, zG, zC, zD, zN] at hb) <;> (try exact zQ))
 ·have hc := w0g (g i) (hg i zO)
  refine wk ?_
  exact j0b (i + 1) zO zO (ent zS trivial)
 ·refine wk ?_
  exact zV
def two (a b : Int) (i : Nat) : Int := if i = 0 then a else b
theorem V1d (a b : ByteArray) (w : World) : (Instr.buildSlice 128 2 #[(0, .string a), (1, .string b)]).run Tryz.prog w = .ok (.slice (some ⟨w.heap.size, 0, none⟩) 2 2) (w.alloc (.cells #[.string a, .string b] 98)) := by kernel_rfl
section
variable {E : Env} {T : Tab} {O : Go.Vc.Own} {d : Option Nat} {ty : TypeId} {pos : String} {af : Array Edge} {g : Option (Nat × Bool)}
theorem v0C {x y : Operand} {a b : Int} (hx : T.ev x = .av (vI a)) (hy : T.ev y = .av (vI b)) : GV Tryz.prog E ⟨d, .buildSlice 128 2 #[(0, x), (1, y)], ty, pos, af, g⟩ T O (.av (.sl 2 1 (fun i _ => vI (two a b i)))) [] [] :=
 j0S (is := [0, 1]) (xs := [x, y]) (vs := [.string (bs (itoa a)), .string (bs (itoa b))]) (us := [.string (bs (itoa a)), .string (bs (itoa b))]) (V1d _ _) rfl (by simp only [List.map_cons, List.map_nil, hx, hy]) rfl (fun i hi j hj => by
  obtain rfl : j = 0 := zO
  rcases (by omega : i = 0 ∨ i = 1) with rfl | rfl <;> exact ⟨_, rfl, rfl⟩)
end
theorem W0s (n : Int) (h : -9223372036854775808 ≤ n ∧ n ≤ 9223372036854775807) : CtrA Tryz.prog 102 [vi n] (vI n) := by
 have h1 := Z0K n h
 refine j0s _ Tryz.func102 rfl rfl Tryz.ntmps102 rfl fun w Z => ?_
 refine zU ?_
 refine wk ?_
 exact zV
theorem k0c (n : Int) (h : -9223372036854775808 ≤ n ∧ n ≤ 9223372036854775807) : CtrA Tryz.prog 236 [vi n] (j0x [vI n, vi 0]) := by
 have h1 := W0s n h
 refine j0s _ Tryz.func236 rfl rfl Tryz.ntmps236 rfl fun w Z => ?_
 refine zU ?_
 refine wk ?_
 exact zW
theorem q1d (m : Int) : ∃ b r, itoa m = b :: r ∧ ((b.toNat : Int) == 45) = decide (m < 0) := by
 by_cases h : m < 0
 ·exact ⟨45, _, itoa_neg h, by rw [decide_eq_true h]; rfl⟩
 ·obtain ⟨b, r, e, hd⟩ := z0L m.natAbs
  refine ⟨b, r, by rw [j0E h, e], ?_⟩
  rw [decide_eq_false h, beq_eq_false_iff_ne]
  exact fun e => j1x hd ((y1g b 45).1 e)
theorem k0i (m : Int) : CtrA Tryz.prog 227 [vI m] (vi (sgn m)) := by
 have h0 := w0c m
 obtain ⟨b, r, e, hb⟩ := q1d m
 by_cases hz : m = 0
 ·rw [decide_eq_true hz] at h0
  refine j0s _ Tryz.func227 rfl rfl Tryz.ntmps227 rfl fun w Z => ?_
  refine zU ?_
  refine wk ?_
  rw [h0]
  refine wk ?_
  exact j0c rfl (.tmp rfl) (congrArg vi (by unfold sgn; rw [if_pos hz]))
 ·rw [decide_eq_false hz] at h0
  by_cases hn : m < 0
  ·rw [decide_eq_true hn] at hb
   refine j0s _ Tryz.func227 rfl rfl Tryz.ntmps227 rfl fun w Z => ?_
   refine zU ?_
   refine wk ?_
   rw [h0]
   refine wk ?_
   refine j0j (v0c (b := b) rfl rfl rfl (by rw [e]; rfl)) rfl ?_
   refine wk ?_
   rw [hb]
   refine wk ?_
   exact j0c rfl (.tmp rfl) (congrArg vi (by unfold sgn; rw [if_neg hz, if_pos hn]))
  ·rw [decide_eq_false hn] at hb
   refine j0s _ Tryz.func227 rfl rfl Tryz.ntmps227 rfl fun w Z => ?_
   refine zU ?_
   refine wk ?_
   rw [h0]
   refine wk ?_
   refine j0j (v0c (b := b) rfl rfl rfl (by rw [e]; rfl)) rfl ?_
   refine wk ?_
   rw [hb]
   refine wk ?_
   exact j0c rfl (.tmp rfl) (congrArg vi (by unfold sgn; rw [if_neg hz, if_neg hn]))
theorem V1p (m : Int) (hm : LI 1000 m) : CtrA Tryz.prog 252 [vI m] (j0x [vi (sgn m), vi 0]) := by
 have h1 := w0g m hm
 have h2 := k0i m
 refine j0s _ Tryz.func252 rfl rfl Tryz.ntmps252 rfl fun w Z => ?_
 refine zU ?_
 refine wk ?_
 exact zW
theorem Z0d : ∀ {a b : List UInt8}, a.length = b.length → (∀ x ∈ a, isD x) → (∀ x ∈ b, isD x) → Lib.compareBytes a b = sgn ((dv a : Int) - dv b)
 |[], [], _, _, _ => rfl
 |x :: a, y :: b, hl, ha, hb => by
  have hl' : a.length = b.length := by simpa using hl
  have ih := Z0d hl' (fun z hz => ha z (by simp [hz])) (fun z hz => hb z (by simp [hz]))
  have h1 := dgI (ha x (by simp))
  have h2 := dgI (hb y (by simp))
  have l1 := w0W a fun z hz => ha z (by simp [hz])
  have l2 := w0W b fun z hz => hb z (by simp [hz])
  rw [← hl'] at l2
  rw [w0V, w0V, ← hl']
  unfold Lib.compareBytes
  generalize hp : 10 ^ a.length = p at l1 l2 ⊢
  rcases Nat.lt_trichotomy x.toNat y.toNat with h | h | h
  ·have h3 : (x.toNat - 48 + 1) * p ≤ (y.toNat - 48) * p := Nat.mul_le_mul_right _ zO
   rw [Nat.add_mul] at h3
   have hx : x < y := h
   rw [if_pos hx]
   unfold sgn
   rw [if_neg (by omega), if_pos (by omega)]
  ·have : x = y := UInt8.toNat_inj.1 h
   subst this
   have hx : ¬ x < x := Nat.lt_irrefl _
   rw [if_neg hx, if_neg hx, ih]
   congr 1; omega
  ·have h3 : (y.toNat - 48 + 1) * p ≤ (x.toNat - 48) * p := Nat.mul_le_mul_right _ zO
   rw [Nat.add_mul] at h3
   have hx : ¬ x < y := Nat.not_lt.2 (Nat.le_of_lt h)
   have hy : y < x := h
   rw [if_neg hx, if_pos hy]
   unfold sgn
   rw [if_neg (by omega), if_neg (by omega)]
theorem y1m (u v : Nat) : CtrA Tryz.prog 228 [vS (decDigits u), vS (decDigits v)] (vi (sgn ((u : Int) - v))) := by
 have h1 := y0f (decDigits u) (decDigits v)
 by_cases hl : (decDigits u).length = (decDigits v).length
 ·rw [Z0d hl (j0L u) (j0L v), q0f, q0f] at h1
  refine j0s _ Tryz.func228 rfl rfl Tryz.ntmps228 rfl fun w Z => ?_
  refine zU ?_
  refine wk ?_
  (refine j0a rfl ?_ ?_ <;> intro hb <;> (try simp only [zA, zB, zG, zC, zD, zN] at hb) <;> (try exact zQ))
  refine wk ?_
  exact zV
 ·refine j0s _ Tryz.func228 rfl rfl Tryz.ntmps228 rfl fun w Z => ?_
  refine zU ?_
  refine wk ?_
  (refine j0a rfl ?_ ?_ <;> intro hb <;> (try simp only [zA, zB, zG, zC, zD, zN] at hb) <;> (try exact zQ))
  refine wk ?_
  (refine j0a rfl ?_ ?_ <;> intro hb <;> (try simp only [zA, zB, zG, zC, zD, zN] at hb) <;> (try exact zQ))
  ·refine wk ?_
   have := x0t (u := u) (v := v) zO
   exact j0c rfl (.tmp rfl) (congrArg vi (by unfold sgn; rw [if_neg (by omega), if_pos (by omega)]))
  ·refine wk ?_
   have := x0t (u := v) (v := u) zO
   exact j0c rfl (.tmp rfl) (congrArg vi (by unfold sgn; rw [if_neg (by omega), if_neg (by omega)]))
theorem Y0L (m : Int) : CtrA Tryz.prog 224 [vI m, vS [45]] (vS (decDigits m.natAbs)) := by
 have := v1V (itoa m)
 rwa [x0F] at this
theorem Y0C {m n : Int} (h : sgn m = sgn n) : sgn m * sgn ((m.natAbs : Int) - n.natAbs) = sgn (m - n) := by
 unfold sgn at *
 split at h
 ·split at h
  ·simp_all
  ·split at h <;> simp at h
 ·split at h
  ·split at h
   ·simp at h
   ·split at h
    ·rw [if_neg (by assumption), if_pos (by assumption)]
     by_cases e : m = n
     ·rw [if_pos (by omega), if_pos (by omega)]; rfl
     ·by_cases l : m < n
      ·rw [if_neg (by omega), if_neg (by omega), if_neg (by omega), if_pos (by omega)]; rfl
      ·rw [if_neg (by omega), if_pos (by omega), if_neg (by omega), if_neg (by omega)]; rfl
    ·simp at h
  ·split at h
   ·simp at h
   ·split at h
    ·simp at h
    ·rw [if_neg (by assumption), if_neg (by assumption)]
     by_cases e : m = n
     ·rw [if_pos (by omega), if_pos (by omega)]; rfl
     ·by_cases l : m < n
      ·rw [if_neg (by omega), if_pos (by omega), if_neg (by omega), if_pos (by omega)]; rfl
      ·rw [if_neg (by omega), if_neg (by omega), if_neg (by omega), if_neg (by omega)]; rfl
theorem z0h (m n : Int) (hm : LI 1000 m) (hn : LI 1000 n) : CtrA Tryz.prog 166 [vI m, vI n] (j0x [vi (sgn (m - n)), vi 0]) := by
 have h0 := V1B 2 (two m n) zE (fun i hi => by rcases (by omega : i = 0 ∨ i = 1) with rfl | rfl <;> assumption)
 have h1 := k0i m
 have h2 := k0i n
 have h3 := Y0L m
 have h4 := Y0L n
 have h5 := y1m m.natAbs n.natAbs
 have s3 : ∀ k : Int, sgn k = 0 ∨ sgn k = 1 ∨ sgn k = -1 := fun k => by unfold sgn; split; exact .inl rfl; split; exact .inr (.inr rfl); exact .inr (.inl rfl)
 have r1 := s3 m
 have r2 := s3 n
 have r3 := s3 ((m.natAbs : Int) - n.natAbs)
 have hlt : sgn m < sgn n → sgn (m - n) = -1 := fun h => by
  unfold sgn at *
  split at h <;> split at h <;> (try split at h) <;> (try split at h) <;> (try omega) <;> rw [if_neg (by omega), if_pos (by omega)]
 have hgt : sgn n < sgn m → sgn (m - n) = 1 := fun h => by
  unfold sgn at *
  split at h <;> split at h <;> (try split at h) <;> (try split at h) <;> (try omega) <;> rw [if_neg (by omega), if_neg (by omega)]
 have heq := Y0C (m := m) (n := n)
 have hmul : -1 ≤ sgn m * sgn ((m.natAbs : Int) - n.natAbs) ∧ sgn m * sgn ((m.natAbs : Int) - n.natAbs) ≤ 1 := by
  rcases r1 with e | e | e <;> rcases r3 with e' | e' | e' <;> rw [e, e'] <;> decide
 refine j0s _ Tryz.func166 rfl rfl Tryz.ntmps166 rfl fun w Z => ?_
 refine zU ?_
 refine wk ?_
 refine j0j (v0C rfl rfl) rfl ?_
 refine wk ?_
 generalize sgn m = s at *
 generalize sgn n = t at *
 generalize sgn ((m.natAbs : Int) - n.natAbs) = q at *
 (refine j0a rfl ?_ ?_ <;> intro hb <;> (try simp only [zA, zB, zG, zC, zD, zN] at hb) <;> (try exact zQ))
 ·refine wk ?_
  exact j0t (rvs := [_, _]) (τs := [_, _]) rfl rfl ⟨.tmp rfl, .tmp rfl, trivial⟩ (by rw [hlt (by omega)])
 ·refine wk ?_
  (refine j0a rfl ?_ ?_ <;> intro hb <;> (try simp only [zA, zB, zG, zC, zD, zN] at hb) <;> (try exact zQ))
  ·refine wk ?_
   exact j0t (rvs := [_, _]) (τs := [_, _]) rfl rfl ⟨.tmp rfl, .tmp rfl, trivial⟩ (by rw [hgt (by omega)])
  ·refine wk ?_
   exact j0t (rvs := [_, _]) (τs := [_, _]) rfl rfl ⟨.tmp rfl, .tmp rfl, trivial⟩ (by rw [heq (by omega)])
end Go.Proofs.YtfggdokihnopeaaGreatDoor
end
namespace Go.Na
open Go.Lib
def wd (V : Nat) (i : Nat) : Int := ((V / 1000000000 ^ i % 1000000000 : Nat) : Int)
def nw (V : Nat) : Nat := if h : V = 0 then 0 else nw (V / 1000000000) + 1
termination_by V
decreasing_by omega
theorem q0I : nw 0 = 0 := by rw [nw]; simp
theorem z0s {V : Nat} (h : V ≠ 0) : nw V = nw (V / 1000000000) + 1 := by rw [nw, dif_neg h]
theorem q0s (V i : Nat) : 0 ≤ wd V i ∧ wd V i < B := by
 unfold wd
 have := Nat.mod_lt (V / 1000000000 ^ i) (show 1000000000 > 0 by decide)
 show 0 ≤ ((V / 1000000000 ^ i % 1000000000 : Nat) : Int) ∧ ((V / 1000000000 ^ i % 1000000000 : Nat) : Int) < 1000000000
 omega
theorem W0p (V i : Nat) : wd V (i + 1) = wd (V / 1000000000) i := by
 unfold wd
 rw [Nat.pow_succ, Nat.mul_comm, ← Nat.div_div_eq_div_mul]
theorem W0q (V : Nat) : wd V 0 = ((V % 1000000000 : Nat) : Int) := by simp [wd]
theorem v0P : ∀ V : Nat, V < 1000000000 ^ nw V := by
 intro V
 induction V using Nat.strongRecOn with
 |_ V ih =>
  by_cases h : V = 0
  ·subst h; exact Nat.pow_pos (by decide)
  ·rw [z0s h, Nat.pow_succ]
   have := ih (V / 1000000000) (by omega)
   omega
theorem Y0r {V : Nat} : ∀ {n : Nat}, V < 1000000000 ^ n → nw V ≤ n := by
 induction V using Nat.strongRecOn with
 |_ V ih =>
  intro n hn
  by_cases h : V = 0
  ·subst h; rw [q0I]; omega
  ·rw [z0s h]
   cases n with
   |zero => simp at hn; exact absurd hn h
   |succ n =>
    rw [Nat.pow_succ] at hn
    have := ih (V / 1000000000) (by omega) (n := n) (by omega)
    omega
theorem Q0N {V : Nat} : nw V = 0 ↔ V = 0 := by
 constructor
 ·intro h
  have := v0P V
  rw [h] at this; simpa using this
 ·rintro rfl; exact q0I
theorem v0i {V i : Nat} (h : nw V ≤ i) : wd V i = 0 := by
 have h1 := v0P V
 have h2 : V < 1000000000 ^ i := Nat.lt_of_lt_of_le h1 (Nat.pow_le_pow_right (by decide) h)
 unfold wd
 rw [Nat.div_eq_of_lt h2]; rfl
theorem x0N : ∀ {V : Nat}, V ≠ 0 → wd V (nw V - 1) ≠ 0 := by
 intro V
 induction V using Nat.strongRecOn with
 |_ V ih =>
  intro h
  rw [z0s h]
  by_cases h1 : V / 1000000000 = 0
  ·rw [h1, q0I]
   show wd V 0 ≠ 0
   rw [W0q]
   omega
  ·have := ih (V / 1000000000) (by omega) h1
   have h2 : nw (V / 1000000000) ≠ 0 := fun e => h1 (Q0N.1 e)
   rw [show nw (V / 1000000000) + 1 - 1 = (nw (V / 1000000000) - 1) + 1 by omega, W0p]
   exact this
theorem z0B : ∀ (n V : Nat), V < 1000000000 ^ n → vw (wd V) n = V
 |0, V, h => by simp at h; subst h; rfl
 |n + 1, V, h => by
  have hs : vw (wd V) (n + 1) = vw (wd (V / 1000000000)) n * B + wd V 0 := W0n (fun i => W0p V i) n
  rw [hs, z0B n (V / 1000000000) (by rw [Nat.pow_succ] at h; omega), W0q]
  show ((V / 1000000000 : Nat) : Int) * 1000000000 + _ = _
  omega
theorem X1W {f : Nat → Int} : ∀ {n V : Nat}, (∀ i, 0 ≤ f i) → (∀ i, f i < B) → vw f n = V → ∀ i, i < n → f i = wd V i
 |0, _, _, _, _, i, hi => by omega
 |n + 1, V, h0, h1, hv, i, hi => by
  have hs : vw f (n + 1) = vw (fun i => f (i + 1)) n * B + f 0 := W0n (fun i => rfl) n
  rw [hs] at hv
  have a0 := h0 0
  have a1 : f 0 < 1000000000 := h1 0
  have hv' : vw (fun i => f (i + 1)) n * 1000000000 + f 0 = V := hv
  have hn := x0q (f := fun i => f (i + 1)) (fun i => h0 (i + 1)) n
  generalize hw : vw (fun i => f (i + 1)) n = W at hv' hn
  have hq : W = ((V / 1000000000 : Nat) : Int) := by omega
  cases i with
  |zero => rw [W0q]; omega
  |succ i =>
   rw [W0p]
   exact X1W (f := fun i => f (i + 1)) (fun i => h0 (i + 1)) (fun i => h1 (i + 1)) (by rw [hw, hq]) i (by omega)
theorem W1Q (n : Nat) : ((1000000000 ^ n : Nat) : Int) = B ^ n := by simp
theorem Z1v {V d : Nat} (h : d < 1000000000) (i : Nat) : wd (V * 1000000000 + d) i = match i with | 0 => (d : Int) | i + 1 => wd V i := by
 cases i with
 |zero => rw [W0q]; show ((_ : Nat) : Int) = (d : Int); omega
 |succ i =>
  rw [W0p]
  show wd _ _ = wd _ _
  congr 1; omega
end Go.Na
namespace Go.Na
open Go
theorem X1V {V W : Nat} (hn : nw V = nw W) (h : ∀ i, i < nw V → wd V i = wd W i) : V = W := by
 have h1 := z0B (nw V) V (v0P V)
 have h2 := z0B (nw W) W (v0P W)
 rw [← hn, ← W0m h] at h2
 omega
theorem k0x (f g : Nat → Int) : ∀ n, (∀ i, i < n → f i = g i) ∨ ∃ j, j < n ∧ f j ≠ g j ∧ ∀ k, j < k → k < n → f k = g k
 |0 => .inl (fun i h => absurd h (Nat.not_lt_zero i))
 |n + 1 => by
  by_cases he : f n = g n
  ·rcases k0x f g n with h | ⟨j, h1, h2, h3⟩
   ·exact .inl fun i hi => by
     rcases Nat.lt_succ_iff_lt_or_eq.1 hi with h' | rfl
     ·exact h i h'
     ·exact he
   ·exact .inr ⟨j, by omega, h2, fun k h4 h5 => by
     rcases Nat.lt_succ_iff_lt_or_eq.1 h5 with h' | rfl
     ·exact h3 k h4 h'
     ·exact he⟩
  ·exact .inr ⟨n, by omega, he, fun k h4 h5 => by omega⟩
theorem X0e {V W j : Nat} (hn : nw V = nw W) (hj : j < nw V) (hlt : wd V j < wd W j) (h : ∀ k, j < k → k < nw V → wd V k = wd W k) : V < W := by
 have h0 := z1M (f := wd V) (g := wd W) (fun i => (q0s V i).1) (fun i => (q0s V i).2) (fun i => (q0s W i).1) hlt hj h
 rw [z0B _ _ (v0P V), hn, z0B _ _ (v0P W)] at h0
 omega
theorem Z0N {V W : Nat} (h : nw V < nw W) : V < W := by
 apply Nat.lt_of_not_le
 intro hle
 have := Y0r (V := W) (n := nw V) (Nat.lt_of_le_of_lt hle (v0P V))
 omega
def w1w (f g : Nat → Int) : Nat → Int
 |0 => 0
 |n + 1 => if f n ≠ g n then f n - g n else w1w f g n
def bey (V W : Nat) : Int := if (nw V : Int) ≠ nw W then nw V - nw W else w1w (wd V) (wd W) (nw V)
theorem V1a {f g : Nat → Int} {n : Nat} (h : ∀ i, i < n → f i = g i) : w1w f g n = 0 := by
 induction n with
 |zero => rfl
 |succ n ih =>
  unfold w1w
  rw [if_neg (by simp [h n (by omega)])]
  exact ih fun i hi => h i (by omega)
theorem V1b {f g : Nat → Int} {n j : Nat} (hj : j < n) (hne : f j ≠ g j) (h : ∀ k, j < k → k < n → f k = g k) : w1w f g n = f j - g j := by
 induction n with
 |zero => omega
 |succ n ih =>
  unfold w1w
  by_cases e : n = j
  ·subst e; rw [if_pos hne]
  ·rw [if_neg (by simp [h n (by omega) (by omega)])]
   exact ih (by omega) fun k h1 h2 => h k h1 (by omega)
theorem j1e (V W : Nat) : 0 ≤ bey V W ↔ W ≤ V := by
 unfold bey
 by_cases hn : nw V = nw W
 ·rw [if_neg (by omega)]
  rcases k0x (wd V) (wd W) (nw V) with h | ⟨j, h1, h2, h3⟩
  ·rw [V1a h, X1V hn h]; simp
  ·rw [V1b h1 h2 h3]
   rcases Int.lt_or_gt_of_ne h2 with h | h
   ·have := X0e hn h1 h h3
    omega
   ·have := X0e hn.symm (by omega) h (fun k h4 h5 => (h3 k h4 (by omega)).symm)
    omega
 ·rw [if_pos (by omega)]
  rcases Nat.lt_or_gt_of_ne hn with h | h
  ·have := Z0N h; omega
  ·have := Z0N h; omega
def W0v (V : Nat) (i : Nat) : Int := if i < nw V then wd V i else 0
theorem W0j (V i : Nat) : 0 ≤ W0v V i ∧ W0v V i ≤ 999999999 := by
 have r1 := q0s V i
 have : Na.B = 1000000000 := rfl
 unfold W0v; split <;> omega
theorem W0i (V i : Nat) : W0v V i = wd V i := by
 unfold W0v; split
 ·rfl
 ·rw [v0i (by omega)]
def w1Z (W : Nat) : Int := if 1 < nw W then W0v W (nw W - 1) + 1 else W0v W (nw W - 1)
def y1H (V W : Nat) : Int := (W0v V (nw W) * 1000000000 + W0v V (nw W - 1)) / w1Z W
def est (V W : Nat) : Int := if 0 < y1H V W then (if 999999999 < y1H V W then 999999999 else y1H V W) else 1
theorem Z0q {W : Nat} (h : W ≠ 0) : 0 < w1Z W := by
 have h1 := x0N h
 have h2 := q0s W (nw W - 1)
 unfold w1Z
 rw [W0i]
 split <;> omega
theorem y1G {V W : Nat} (hW : W ≠ 0) (hle : W ≤ V) : 1 ≤ est V W ∧ est V W ≤ 999999999 ∧ est V W * W ≤ V := by
 have hb := Z0q hW
 have hn := z0s hW
 have hV : V < 1000000000 ^ (nw V + nw W + 2) := Nat.lt_of_lt_of_le (v0P V) (Nat.pow_le_pow_right (by decide) (by omega))
 have e1 := z0B _ _ hV
 have e2 : vw (wd W) (nw W - 1 + 1) = W := by
  have : nw W - 1 + 1 = nw W := by omega
  rw [this]; exact z0B _ _ (v0P W)
 have hB : w1Z W = if nw W - 1 = 0 then wd W (nw W - 1) else wd W (nw W - 1) + 1 := by
  unfold w1Z
  rw [W0i]
  by_cases h : 1 < nw W
  ·rw [if_pos h, if_neg (by omega)]
  ·rw [if_neg h, if_pos (by omega)]
 have key := fun k h0 h1 => W1d (f := wd V) (g := wd W) (n := nw W - 1) (N := nw V + nw W + 2) (b := w1Z W) (k := k) (fun i => (q0s V i).1) (fun i => (q0s W i).1) (fun i => (q0s W i).2) (by omega) hB hb h0 h1
 have ew : nw W - 1 + 1 = nw W := by omega
 rw [e1, e2, ew, ← W0i, ← W0i] at key
 change ∀ k, 0 ≤ k → k ≤ y1H V W → k * W ≤ V at key
 unfold est
 split
 ·split
  ·exact ⟨by omega, by omega, key _ (by omega) (by omega)⟩
  ·exact ⟨by omega, by omega, key _ (by omega) (by omega)⟩
 ·refine ⟨by omega, by omega, by omega⟩
end Go.Na
namespace Go.Proofs.YtfggdokihnopeaaGreatDoor
open Go Go.Vc Go.RowKit Go.Na Go.Lib
set_option maxHeartbeats 4000000
theorem z0F (V W : Nat) (b c : Bool) (hV : nw V ≤ 232) (hW : nw W ≤ 232) : CtrA Tryz.prog 292 [wA b (nw V) (wd V), wA c (nw W) (wd W)] (vi (bey V W)) := by
 refine j0s _ Tryz.func292 rfl rfl Tryz.ntmps292 rfl fun w Z => ?_
 refine zU ?_
 refine wl ?_
 (refine j0a rfl ?_ ?_ <;> intro hb <;> (try simp only [zA, zB, zG, zC, zD, zN] at hb) <;> (try exact zQ))
 ·refine wl ?_
  exact j0c rfl (.tmp rfl) (congrArg vi (by unfold bey; rw [if_pos (by omega)]))
 ·refine wl ?_
  refine j0g (γ := Nat) (fun (i : Nat) => [(0, .av (wA b (nw V) (wd V))), (1, .av (wA c (nw W) (wd W))), (4, .av (vi 0)), (5, .av (vi ((i : Int) - 1)))]) (fun _ => []) (fun i => i ≤ nw V ∧ w1w (wd V) (wd W) (nw V) = w1w (wd V) (wd W) i) (fun i => i) (nw V) ⟨by omega, rfl⟩ (ent zS trivial) ?_
  rintro i ⟨hi, ht⟩
  refine wl ?_
  (refine j0a rfl ?_ ?_ <;> intro hb <;> (try simp only [zA, zB, zG, zC, zD, zN] at hb) <;> (try exact zQ))
  ·obtain ⟨k, rfl⟩ : ∃ k, i = k + 1 := ⟨i - 1, by omega⟩
   have r1 := q0s V k
   have r2 := q0s W k
   have : Na.B = 1000000000 := rfl
   have e : ((k + 1 : Nat) : Int) - 1 = k := by omega
   rw [e]
   refine wl ?_
   (refine j0a rfl ?_ ?_ <;> intro hb <;> (try simp only [zA, zB, zG, zC, zD, zN] at hb) <;> (try exact zQ))
   ·refine wl ?_
    exact j0c rfl (.tmp rfl) (congrArg vi (by unfold bey; rw [if_neg (by omega), ht, w1w, if_pos (by assumption)]))
   ·refine wl ?_
    exact j0b k ⟨by omega, by rw [ht, w1w, if_neg (by omega)]⟩ (by omega) (ent zS trivial)
  ·obtain rfl : i = 0 := by omega
   refine wl ?_
   exact j0c rfl (.tmp rfl) (congrArg vi (by unfold bey; rw [if_neg (by omega), ht]; rfl))
theorem v1T (V : Nat) (b : Bool) (hV : nw V ≤ 232) (i : Int) (k : Nat) (hi : i = k) : CtrA Tryz.prog 322 [wA b (nw V) (wd V), vi i] (vi (W0v V k)) := by
 subst hi
 have r1 := q0s V k
 refine j0s _ Tryz.func322 rfl rfl Tryz.ntmps322 rfl fun w Z => ?_
 refine zU ?_
 refine wl ?_
 (refine j0a rfl ?_ ?_ <;> intro hb <;> (try simp only [zA, zB, zG, zC, zD, zN] at hb) <;> (try exact zQ))
 ·refine wl ?_
  exact j0c rfl (.tmp rfl) (congrArg vi (by unfold W0v; rw [if_neg (by omega)]))
 ·refine wl ?_
  exact j0c rfl (.tmp rfl) (congrArg vi (by unfold W0v; rw [if_pos (by omega)]))
theorem Q0u (V W : Nat) (b c : Bool) (hV : nw V ≤ 232) (hW : nw W ≤ 232) (h0 : W ≠ 0) : CtrA Tryz.prog 293 [wA b (nw V) (wd V), wA c (nw W) (wd W)] (vi (est V W)) := by
 have hn := z0s h0
 have h1 := v1T V b hV (nw W) (nw W) rfl
 have h2 := v1T V b hV (nw W - 1) (nw W - 1) zO
 have h3 := v1T W c hW (nw W - 1) (nw W - 1) zO
 have r1 := W0j V (nw W)
 have r2 := W0j V (nw W - 1)
 have r3 := W0j W (nw W - 1)
 have hpos := Z0q h0
 refine j0s _ Tryz.func293 rfl rfl Tryz.ntmps293 rfl fun w Z => ?_
 refine zU ?_
 refine wl ?_
 (refine j0a rfl ?_ ?_ <;> intro hb <;> (try simp only [zA, zB, zG, zC, zD, zN] at hb) <;> (try exact zQ))
 ·have he : y1H V W = (W0v V (nw W) * 1000000000 + W0v V (nw W - 1)) / (W0v W (nw W - 1) + 1) := by unfold y1H w1Z; rw [if_pos (by omega)]
  refine wl ?_
  rw [← he]
  (refine j0a rfl ?_ ?_ <;> intro hb <;> (try simp only [zA, zB, zG, zC, zD, zN] at hb) <;> (try exact zQ))
  ·refine wl ?_
   exact j0c rfl (.tmp rfl) (congrArg vi (by unfold est; rw [he]; exact (if_pos (by omega)).symm))
  ·refine wl ?_
   exact j0c rfl (.tmp rfl) (congrArg vi (by unfold est; rw [he]; exact (if_neg (by omega)).symm))
 ·have he : y1H V W = (W0v V (nw W) * 1000000000 + W0v V (nw W - 1)) / W0v W (nw W - 1) := by unfold y1H w1Z; rw [if_neg (by omega)]
  unfold w1Z at hpos
  rw [if_neg (by omega)] at hpos
  refine wl ?_
  rw [← he]
  (refine j0a rfl ?_ ?_ <;> intro hb <;> (try simp only [zA, zB, zG, zC, zD, zN] at hb) <;> (try exact zQ))
  ·refine wl ?_
   exact j0c rfl (.tmp rfl) (congrArg vi (by unfold est; rw [he]; exact (if_pos (by omega)).symm))
  ·refine wl ?_
   exact j0c rfl (.tmp rfl) (congrArg vi (by unfold est; rw [he]; exact (if_neg (by omega)).symm))
end Go.Proofs.YtfggdokihnopeaaGreatDoor
namespace Go.Na
open Go Go.Vc
structure CI (V W u : Nat) (c : Int) (i : Nat) (r : Int) (n : Nat) (f : Nat → Int) : Prop where
 lo : ∀ k, 0 ≤ f k
 hi : ∀ k, f k < B
 out : ∀ k, n ≤ k → f k = 0
 nle : n ≤ 232
 val : vw f 232 + r * B ^ (i + u) = V + c * vw (wd W) i * B ^ u
 rest : -B ≤ r ∧ r ≤ B
 iu : i + u ≤ 232
theorem CI.zero {V W u : Nat} {c : Int} (hV : nw V ≤ 232) (hu : u ≤ 232) : CI V W u c 0 0 (nw V) (wd V) :=
 ⟨fun k => (q0s V k).1, fun k => (q0s V k).2, fun k hk => v0i hk, hV, by
  rw [z0B 232 V (Nat.lt_of_lt_of_le (v0P V) (Nat.pow_le_pow_right (by decide) hV))]
  simp [vw], by decide, by omega⟩
theorem CI.step {V W u : Nat} {c : Int} {i : Nat} {r : Int} {n : Nat} {f : Nat → Int} (h : CI V W u c i r n f) (hlt : i + u < 232) (hc : -999999999 ≤ c ∧ c ≤ 999999999) {s t r' : Int} (hs : s = f (i + u) + r + c * wd W i) (ht : t + r' * 1000000000 = s) (h0 : 0 ≤ t) (h1 : t < 1000000000) (n' : Nat) (hn1 : i + u + 1 ≤ n') (hn2 : n ≤ n') (hn3 : n' ≤ 232) :
  CI V W u c (i + 1) r' n' (upd f (i + u) t) := by
 have hw := q0s W i
 have hl := h.lo (i + u)
 have hh := h.hi (i + u)
 have hr := h.rest
 have hB : B = 1000000000 := rfl
 rw [hB] at hw hh hr
 have p1 : -(999999999 * 999999999) ≤ c * wd W i ∧ c * wd W i ≤ 999999999 * 999999999 := by
  have a1 : c * wd W i ≤ 999999999 * wd W i := Int.mul_le_mul_of_nonneg_right hc.2 hw.1
  have a2 : -999999999 * wd W i ≤ c * wd W i := Int.mul_le_mul_of_nonneg_right hc.1 hw.1
  omega
 refine ⟨fun k => ?_, fun k => ?_, fun k hk => ?_, hn3, ?_, by rw [hB]; omega, by omega⟩
 ·unfold upd; split
  ·exact h0
  ·exact h.lo k
 ·unfold upd; split
  ·rw [hB]; exact h1
  ·exact h.hi k
 ·unfold upd; rw [if_neg (by omega)]; exact h.out k (by omega)
 ·exact k0G hlt h.val hs (by rw [W0l, hB]; exact ht) (fun k hk => Q0c _ _ hk)
theorem CI.end0 {V W u : Nat} {c : Int} {i : Nat} {r : Int} {n : Nat} {f : Nat → Int} (h : CI V W u c i r n f) (hi : nw W ≤ i) {R : Nat} (hR : (R : Int) = V + c * W * B ^ u) (hR2 : nw R ≤ 232) (he : i + u = 232) : r = 0 := by
 have hw : vw (wd W) i = W := z0B i W (Nat.lt_of_lt_of_le (v0P W) (Nat.pow_le_pow_right zE hi))
 have hv := h.val
 rw [hw, ← hR, he] at hv
 have hlt : (R : Int) < B ^ 232 := by
  have := Nat.lt_of_lt_of_le (v0P R) (Nat.pow_le_pow_right zE hR2)
  rw [← W1Q]
  exact Int.ofNat_lt.2 this
 exact q1Z (j := 232) (m := 232) (n := 232) h.lo h.hi (fun k hk => h.out k (by have := h.nle; omega)) (Nat.le_refl _) zO hlt (Nat.le_refl _) hv
theorem CI.fin {V W u : Nat} {c : Int} {i : Nat} {n : Nat} {f : Nat → Int} (h : CI V W u c i 0 n f) (hi : nw W ≤ i) {R : Nat} (hR : (R : Int) = V + c * W * B ^ u) (hR2 : nw R ≤ 232) : f = wd R ∧ nw R ≤ n := by
 have hw : vw (wd W) i = W := z0B i W (Nat.lt_of_lt_of_le (v0P W) (Nat.pow_le_pow_right zE hi))
 have hv := h.val
 rw [hw, ← hR, Int.zero_mul, Int.add_zero] at hv
 have e : f = wd R := by
  funext k
  by_cases hk : k < 232
  ·exact X1W h.lo h.hi hv k hk
  ·rw [h.out k (by have := h.nle; omega), v0i (by omega)]
 refine ⟨e, ?_⟩
 apply Nat.le_of_not_lt
 intro hlt
 have hR0 : R ≠ 0 := fun e => by rw [e, q0I] at hlt; omega
 have := x0N hR0
 rw [← e, h.out _ (by omega)] at this
 exact this rfl
end Go.Na
namespace Go.Proofs.YtfggdokihnopeaaGreatDoor
open Go Go.Vc Go.RowKit Go.Na Go.Lib
set_option maxHeartbeats 4000000
theorem v0T (b : Bool) (n m : Nat) (f : Nat → Int) (hmn : m ≤ n) (hn : n ≤ 232) (hz : ∀ i, m ≤ i → i < n → f i = 0) (ht : m = 0 ∨ f (m - 1) ≠ 0) : CtrH Tryz.prog 291 [.own 1000 0] [(1000, .wi b n f)] (.own 1000 0) [(1000, .wi b m f)] := by
 refine Q0i _ Tryz.func291 rfl rfl Tryz.ntmps291 rfl rfl fun w Z ν => ?_
 refine zU ?_
 refine wl ?_
 refine j0g (γ := Nat) (fun (i : Nat) => [(0, .own 1000 0)]) (fun (i : Nat) => [(1000, .wi b i f)]) (fun i => m ≤ i ∧ i ≤ n) (fun i => i) n ⟨by omega, by omega⟩ (ent ⟨.refl _, trivial⟩ zT) ?_
 rintro i ⟨h1, h2⟩
 refine wl ?_
 (first | refine j0f rfl rfl ?_ ?_ | refine j0e rfl rfl ?_ ?_) <;> intro hb <;> (try simp only [zA, zB, zG, zC, zD, zN] at hb) <;> (try exact zQ)
 ·refine wl ?_
  have e : ((i : Int) - 1).toNat = i - 1 := by omega
  rw [e]
  refine wl ?_
  (refine j0a rfl ?_ ?_ <;> intro hb <;> (try simp only [zA, zB, zG, zC, zD, zN] at hb) <;> (try exact zQ))
  ·refine wl ?_
   exact j0b (i - 1) ⟨by by_cases h : i = m
                         · subst h; exact absurd hb (by rcases ht with h | h; exact absurd h zO; exact h)
                         · omega, by omega⟩ (by omega) (ent ⟨.refl _, trivial⟩ ⟨⟨_, rfl, by rw [show ((i - 1 : Nat) : Int) = (i : Int) - 1 by omega]; exact .refl _⟩, trivial⟩)
  ·obtain rfl : i = m := (by
    apply Classical.byContradiction
    intro hne
    exact hb (hz _ zO zO))
   refine wl ?_
   exact v0S rfl rfl rfl
 ·obtain rfl : i = m := zO
  refine wl ?_
  exact v0S rfl rfl rfl
theorem j1l (b b' : Bool) (V W R u : Nat) (c : Int) (hV : nw V ≤ 232) (hW : nw W + u ≤ 232) (hR2 : nw R ≤ 232) (hc : -999999999 ≤ c ∧ c ≤ 999999999) (hR : (R : Int) = V + c * W * Na.B ^ u) :
  CtrH Tryz.prog 294 [.own 1000 0, .own 1001 0, .av (vi c), .av (vi u)] [(1000, .wi b (nw V) (wd V)), (1001, .wi b' (nw W) (wd W))] (.av .any) [(1000, .wi b (nw R) (wd R)), (1001, .wi b' (nw W) (wd W))] := by
 refine Q0i _ Tryz.func294 rfl rfl Tryz.ntmps294 rfl rfl fun w Z ν => ?_
 refine zU ?_
 refine wl ?_
 refine j0g (γ := Nat × Int × Nat × (Nat → Int)) (fun q => [(0, .own 1000 0), (1, .own 1001 0), (2, .av (vi c)), (3, .av (vi u)), (8, .av (vi q.2.1)), (9, .av (vi q.1))]) (fun q => [(1000, .wi b q.2.2.1 q.2.2.2), (1001, .wi b' (nw W) (wd W))]) (fun q => CI V W u c q.1 q.2.1 q.2.2.1 q.2.2.2) (fun q => 232 - q.1) (0, 0, nw V, wd V) (CI.zero hV zO) (ent zS zT) ?_
 rintro ⟨i, r, n, f⟩ h
 dsimp only at h
 have hiu := h.iu
 have hl := h.lo (i + u)
 have hh := h.hi (i + u)
 have hr := h.rest
 have hn := h.nle
 have hw := q0s W i
 have hB : Na.B = 1000000000 := rfl
 rw [hB] at hh hr hw
 have p1 : -(999999999 * 999999999) ≤ c * wd W i ∧ c * wd W i ≤ 999999999 * 999999999 := by
  have a1 : c * wd W i ≤ 999999999 * wd W i := Int.mul_le_mul_of_nonneg_right hc.2 hw.1
  have a2 : -999999999 * wd W i ≤ c * wd W i := Int.mul_le_mul_of_nonneg_right hc.1 hw.1
  omega
 have hmx : ((max n (i + u + 1) : Nat) : Int) = if (n : Int) < (i : Int) + u + 1 then (i : Int) + u + 1 else n := by split <;> omega
 dsimp only
 refine wl ?_
 (first | refine j0f rfl rfl ?_ ?_ | refine j0e rfl rfl ?_ ?_) <;> intro hb <;> (try simp only [zA, zB, zG, zC, zD, zN] at hb) <;> (try exact zQ)
 ·have hlt : i + u < 232 := by omega
  have hq := w0y (f (i + u) + r + c * wd W i)
  dsimp only at hq
  rw [hB] at hq
  refine wl ?_
  (refine j0a rfl ?_ ?_ <;> intro hb <;> (try simp only [zA, zB, zG, zC, zD, zN] at hb) <;> (try exact zQ))
  refine wl ?_
  (refine j0a rfl ?_ ?_ <;> intro hb <;> (try simp only [zA, zB, zG, zC, zD, zN] at hb) <;> (try exact zQ))
  ·refine wl ?_
   exact j0b (g := (i, r, n, f)) (i + 1, (f (i + u) + r + c * wd W i).tdiv 1000000000 - 1, max n (i + u + 1), upd f (i + u) (f (i + u) + r + c * wd W i - (f (i + u) + r + c * wd W i).tdiv 1000000000 * 1000000000 + 1000000000)) (CI.step h hlt hc (s := f (i + u) + r + c * wd W i) (t := f (i + u) + r + c * wd W i - (f (i + u) + r + c * wd W i).tdiv 1000000000 * 1000000000 + 1000000000) (r' := (f (i + u) + r + c * wd W i).tdiv 1000000000 - 1) rfl (by omega) (by omega) (by omega) (max n (i + u + 1)) (by omega) (by omega) (by omega)) (by show 232 - (i + 1) < 232 - i; omega) (ent ⟨.refl _, .refl _, .refl _, .refl _, .refl _, .int (by show (i : Int) + 1 = ((i + 1 : Nat) : Int); omega), trivial⟩ ⟨⟨_, rfl, by rw [hmx]; exact .refl _⟩, ⟨_, rfl, .refl _⟩, trivial⟩)
  ·refine wl ?_
   exact j0b (g := (i, r, n, f)) (i + 1, (f (i + u) + r + c * wd W i).tdiv 1000000000, max n (i + u + 1), upd f (i + u) (f (i + u) + r + c * wd W i - (f (i + u) + r + c * wd W i).tdiv 1000000000 * 1000000000)) (CI.step h hlt hc (s := f (i + u) + r + c * wd W i) (t := f (i + u) + r + c * wd W i - (f (i + u) + r + c * wd W i).tdiv 1000000000 * 1000000000) (r' := (f (i + u) + r + c * wd W i).tdiv 1000000000) rfl (by omega) (by omega) (by omega) (max n (i + u + 1)) (by omega) (by omega) (by omega)) (by show 232 - (i + 1) < 232 - i; omega) (ent ⟨.refl _, .refl _, .refl _, .refl _, .refl _, .int (by show (i : Int) + 1 = ((i + 1 : Nat) : Int); omega), trivial⟩ ⟨⟨_, rfl, by rw [hmx]; exact .refl _⟩, ⟨_, rfl, .refl _⟩, trivial⟩)
 ·refine wl ?_
  (refine j0a rfl ?_ ?_ <;> intro hb <;> (try simp only [zA, zB, zG, zC, zD, zN] at hb) <;> (try exact zQ))
  ·have hlt : i + u < 232 := (by
    apply Classical.byContradiction
    intro hge
    exact hb (h.end0 zO hR hR2 zO))
   have hq := w0y (f (i + u) + r)
   dsimp only at hq
   rw [hB] at hq
   refine wl ?_
   (refine j0a rfl ?_ ?_ <;> intro hb <;> (try simp only [zA, zB, zG, zC, zD, zN] at hb) <;> (try exact zQ))
   refine wl ?_
   (refine j0a rfl ?_ ?_ <;> intro hb <;> (try simp only [zA, zB, zG, zC, zD, zN] at hb) <;> (try exact zQ))
   ·refine wl ?_
    exact j0b (g := (i, r, n, f)) (i + 1, (f (i + u) + r).tdiv 1000000000 - 1, max n (i + u + 1), upd f (i + u) (f (i + u) + r - (f (i + u) + r).tdiv 1000000000 * 1000000000 + 1000000000)) (CI.step h hlt hc (s := f (i + u) + r) (t := f (i + u) + r - (f (i + u) + r).tdiv 1000000000 * 1000000000 + 1000000000) (r' := (f (i + u) + r).tdiv 1000000000 - 1) (by rw [v0i (V := W) (i := i) (by omega), Int.mul_zero, Int.add_zero]) (by omega) (by omega) (by omega) (max n (i + u + 1)) (by omega) (by omega) (by omega)) (by show 232 - (i + 1) < 232 - i; omega) (ent ⟨.refl _, .refl _, .refl _, .refl _, .refl _, .int (by show (i : Int) + 1 = ((i + 1 : Nat) : Int); omega), trivial⟩ ⟨⟨_, rfl, by rw [hmx]; exact .refl _⟩, ⟨_, rfl, .refl _⟩, trivial⟩)
   ·refine wl ?_
    exact j0b (g := (i, r, n, f)) (i + 1, (f (i + u) + r).tdiv 1000000000, max n (i + u + 1), upd f (i + u) (f (i + u) + r - (f (i + u) + r).tdiv 1000000000 * 1000000000)) (CI.step h hlt hc (s := f (i + u) + r) (t := f (i + u) + r - (f (i + u) + r).tdiv 1000000000 * 1000000000) (r' := (f (i + u) + r).tdiv 1000000000) (by rw [v0i (V := W) (i := i) (by omega), Int.mul_zero, Int.add_zero]) (by omega) (by omega) (by omega) (max n (i + u + 1)) (by omega) (by omega) (by omega)) (by show 232 - (i + 1) < 232 - i; omega) (ent ⟨.refl _, .refl _, .refl _, .refl _, .refl _, .int (by show (i : Int) + 1 = ((i + 1 : Nat) : Int); omega), trivial⟩ ⟨⟨_, rfl, by rw [hmx]; exact .refl _⟩, ⟨_, rfl, .refl _⟩, trivial⟩)
  ·refine wl ?_
   subst hb
   obtain ⟨rfl, hle⟩ := h.fin zO hR hR2
   have ht := v0T b n (nw R) (wd R) hle hn (fun i h _ => v0i h) (by
    by_cases h0 : R = 0
    ·left; rw [h0, q0I]
    ·exact .inr (x0N h0))
   refine j0A (j0o [] ht rfl ⟨rfl, trivial⟩ rfl) rfl ?_
   refine wl ?_
   exact q0k (T' := []) (O' := [(1000, .wi b (nw R) (wd R)), (1001, .wi b' (nw W) (wd W))]) (ent trivial zT) (V0W rfl rfl rfl)
theorem V0g (b b' : Bool) (V W R u : Nat) (c : Int) (hV : nw V ≤ 232) (hW : nw W + u ≤ 232) (hR2 : nw R ≤ 232) (hc : -999999999 ≤ c ∧ c ≤ 999999999) (hR : (R : Int) = V + c * W * Na.B ^ u) :
  CtrH Tryz.prog 294 [.own 1000 0, .av (wA b' (nw W) (wd W)), .av (vi c), .av (vi u)] [(1000, .wi b (nw V) (wd V))] (.av .any) [(1000, .wi b (nw R) (wd R))] := by
 refine Q0i _ Tryz.func294 rfl rfl Tryz.ntmps294 rfl rfl fun w Z ν => ?_
 refine zU ?_
 refine wl ?_
 refine j0g (γ := Nat × Int × Nat × (Nat → Int)) (fun q => [(0, .own 1000 0), (1, .av (wA b' (nw W) (wd W))), (2, .av (vi c)), (3, .av (vi u)), (8, .av (vi q.2.1)), (9, .av (vi q.1))]) (fun q => [(1000, .wi b q.2.2.1 q.2.2.2)]) (fun q => CI V W u c q.1 q.2.1 q.2.2.1 q.2.2.2) (fun q => 232 - q.1) (0, 0, nw V, wd V) (CI.zero hV zO) (ent zS zT) ?_
 rintro ⟨i, r, n, f⟩ h
 dsimp only at h
 have hiu := h.iu
 have hl := h.lo (i + u)
 have hh := h.hi (i + u)
 have hr := h.rest
 have hn := h.nle
 have hw := q0s W i
 have hB : Na.B = 1000000000 := rfl
 rw [hB] at hh hr hw
 have p1 : -(999999999 * 999999999) ≤ c * wd W i ∧ c * wd W i ≤ 999999999 * 999999999 := by
  have a1 : c * wd W i ≤ 999999999 * wd W i := Int.mul_le_mul_of_nonneg_right hc.2 hw.1
  have a2 : -999999999 * wd W i ≤ c * wd W i := Int.mul_le_mul_of_nonneg_right hc.1 hw.1
  omega
 have hmx : ((max n (i + u + 1) : Nat) : Int) = if (n : Int) < (i : Int) + u + 1 then (i : Int) + u + 1 else n := by split <;> omega
 dsimp only
 refine wl ?_
 (first | refine j0f rfl rfl ?_ ?_ | refine j0e rfl rfl ?_ ?_) <;> intro hb <;> (try simp only [zA, zB, zG, zC, zD, zN] at hb) <;> (try exact zQ)
 ·have hlt : i + u < 232 := by omega
  have hq := w0y (f (i + u) + r + c * wd W i)
  dsimp only at hq
  rw [hB] at hq
  refine wl ?_
  (refine j0a rfl ?_ ?_ <;> intro hb <;> (try simp only [zA, zB, zG, zC, zD, zN] at hb) <;> (try exact zQ))
  refine wl ?_
  (refine j0a rfl ?_ ?_ <;> intro hb <;> (try simp only [zA, zB, zG, zC, zD, zN] at hb) <;> (try exact zQ))
  ·refine wl ?_
   exact j0b (g := (i, r, n, f)) (i + 1, (f (i + u) + r + c * wd W i).tdiv 1000000000 - 1, max n (i + u + 1), upd f (i + u) (f (i + u) + r + c * wd W i - (f (i + u) + r + c * wd W i).tdiv 1000000000 * 1000000000 + 1000000000)) (CI.step h hlt hc (s := f (i + u) + r + c * wd W i) (t := f (i + u) + r + c * wd W i - (f (i + u) + r + c * wd W i).tdiv 1000000000 * 1000000000 + 1000000000) (r' := (f (i + u) + r + c * wd W i).tdiv 1000000000 - 1) rfl (by omega) (by omega) (by omega) (max n (i + u + 1)) (by omega) (by omega) (by omega)) (by show 232 - (i + 1) < 232 - i; omega) (ent ⟨.refl _, .refl _, .refl _, .refl _, .refl _, .int (by show (i : Int) + 1 = ((i + 1 : Nat) : Int); omega), trivial⟩ ⟨⟨_, rfl, by rw [hmx]; exact .refl _⟩, trivial⟩)
  ·refine wl ?_
   exact j0b (g := (i, r, n, f)) (i + 1, (f (i + u) + r + c * wd W i).tdiv 1000000000, max n (i + u + 1), upd f (i + u) (f (i + u) + r + c * wd W i - (f (i + u) + r + c * wd W i).tdiv 1000000000 * 1000000000)) (CI.step h hlt hc (s := f (i + u) + r + c * wd W i) (t := f (i + u) + r + c * wd W i - (f (i + u) + r + c * wd W i).tdiv 1000000000 * 1000000000) (r' := (f (i + u) + r + c * wd W i).tdiv 1000000000) rfl (by omega) (by omega) (by omega) (max n (i + u + 1)) (by omega) (by omega) (by omega)) (by show 232 - (i + 1) < 232 - i; omega) (ent ⟨.refl _, .refl _, .refl _, .refl _, .refl _, .int (by show (i : Int) + 1 = ((i + 1 : Nat) : Int); omega), trivial⟩ ⟨⟨_, rfl, by rw [hmx]; exact .refl _⟩, trivial⟩)
 ·refine wl ?_
  (refine j0a rfl ?_ ?_ <;> intro hb <;> (try simp only [zA, zB, zG, zC, zD, zN] at hb) <;> (try exact zQ))
  ·have hlt : i + u < 232 := (by
    apply Classical.byContradiction
    intro hge
    exact hb (h.end0 zO hR hR2 zO))
   have hq := w0y (f (i + u) + r)
   dsimp only at hq
   rw [hB] at hq
   refine wl ?_
   (refine j0a rfl ?_ ?_ <;> intro hb <;> (try simp only [zA, zB, zG, zC, zD, zN] at hb) <;> (try exact zQ))
   refine wl ?_
   (refine j0a rfl ?_ ?_ <;> intro hb <;> (try simp only [zA, zB, zG, zC, zD, zN] at hb) <;> (try exact zQ))
   ·refine wl ?_
    exact j0b (g := (i, r, n, f)) (i + 1, (f (i + u) + r).tdiv 1000000000 - 1, max n (i + u + 1), upd f (i + u) (f (i + u) + r - (f (i + u) + r).tdiv 1000000000 * 1000000000 + 1000000000)) (CI.step h hlt hc (s := f (i + u) + r) (t := f (i + u) + r - (f (i + u) + r).tdiv 1000000000 * 1000000000 + 1000000000) (r' := (f (i + u) + r).tdiv 1000000000 - 1) (by rw [v0i (V := W) (i := i) (by omega), Int.mul_zero, Int.add_zero]) (by omega) (by omega) (by omega) (max n (i + u + 1)) (by omega) (by omega) (by omega)) (by show 232 - (i + 1) < 232 - i; omega) (ent ⟨.refl _, .refl _, .refl _, .refl _, .refl _, .int (by show (i : Int) + 1 = ((i + 1 : Nat) : Int); omega), trivial⟩ ⟨⟨_, rfl, by rw [hmx]; exact .refl _⟩, trivial⟩)
   ·refine wl ?_
    exact j0b (g := (i, r, n, f)) (i + 1, (f (i + u) + r).tdiv 1000000000, max n (i + u + 1), upd f (i + u) (f (i + u) + r - (f (i + u) + r).tdiv 1000000000 * 1000000000)) (CI.step h hlt hc (s := f (i + u) + r) (t := f (i + u) + r - (f (i + u) + r).tdiv 1000000000 * 1000000000) (r' := (f (i + u) + r).tdiv 1000000000) (by rw [v0i (V := W) (i := i) (by omega), Int.mul_zero, Int.add_zero]) (by omega) (by omega) (by omega) (max n (i + u + 1)) (by omega) (by omega) (by omega)) (by show 232 - (i + 1) < 232 - i; omega) (ent ⟨.refl _, .refl _, .refl _, .refl _, .refl _, .int (by show (i : Int) + 1 = ((i + 1 : Nat) : Int); omega), trivial⟩ ⟨⟨_, rfl, by rw [hmx]; exact .refl _⟩, trivial⟩)
  ·refine wl ?_
   subst hb
   obtain ⟨rfl, hle⟩ := h.fin zO hR hR2
   have ht := v0T b n (nw R) (wd R) hle hn (fun i h _ => v0i h) (by
    by_cases h0 : R = 0
    ·left; rw [h0, q0I]
    ·exact .inr (x0N h0))
   refine j0A (j0o [] ht rfl ⟨rfl, trivial⟩ rfl) rfl ?_
   refine wl ?_
   exact q0k (T' := []) (O' := [(1000, .wi b (nw R) (wd R))]) (ent trivial zT) (V0W rfl rfl rfl)
theorem v1M : Tryz.prog.built 297 [] = some (wvs 232 false 0 (fun _ => 0)).toArray := by kernel_rfl
theorem z1s (b : Bool) : Tryz.prog.built 297 [(0, .bool b)] = some (wvs 232 b 0 (fun _ => 0)).toArray := by cases b <;> kernel_rfl
def y0Y (b : Bool) (V : Nat) (b' : Bool) (W : Nat) : Bool × Nat := if b = b' then (b, V + W) else if W ≤ V then (b, V - W) else (b', W - V)
theorem Y0Q (b b' : Bool) (V W : Nat) (hV : nw V ≤ 232) (hW : nw W ≤ 232) (hR2 : nw (y0Y b V b' W).2 ≤ 232) :
  CtrH Tryz.prog 311 [.own 1000 0, .av (wA b' (nw W) (wd W))] [(1000, .wi b (nw V) (wd V))] (.av .any) [(1000, .wi (y0Y b V b' W).1 (nw (y0Y b V b' W).2) (wd (y0Y b V b' W).2))] := by
 have hbe := fun c => z0F V W b c hV hW
 unfold y0Y at hR2 ⊢
 by_cases hbb : b = b'
 ·subst hbb
  rw [if_pos rfl] at hR2 ⊢
  dsimp only at hR2 ⊢
  have hc := V0g b b V W (V + W) 0 1 hV (by omega) hR2 (by omega) (by simp)
  have hbq : (b == b) = true := by simp
  refine Q0i _ Tryz.func311 rfl rfl Tryz.ntmps311 rfl rfl fun w Z ν => ?_
  refine zU ?_
  refine wl ?_
  rw [hbq]
  refine wl ?_
  refine j0A (j0o [] hc rfl ⟨rfl, trivial⟩ rfl) rfl ?_
  refine wl ?_
  exact q0k (T' := []) (O' := [(1000, .wi b (nw (V + W)) (wd (V + W)))]) (ent trivial zT) (V0Y rfl rfl rfl)
 ·rw [if_neg hbb] at hR2 ⊢
  have hbq : (b == b') = false := by simpa using hbb
  have hb2 := j1e V W
  have hbe := z0F V W b b' hV hW
  by_cases hle : W ≤ V
  ·rw [if_pos hle] at hR2 ⊢
   dsimp only at hR2 ⊢
   have hc := V0g b b' V W (V - W) 0 (-1) hV (by omega) hR2 (by omega) (by simp; omega)
   refine Q0i _ Tryz.func311 rfl rfl Tryz.ntmps311 rfl rfl fun w Z ν => ?_
   refine zU ?_
   refine wl ?_
   rw [hbq]
   refine wl ?_
   refine j0j (q0l hbe rfl ⟨.w rfl rfl, .av rfl, trivial⟩ (q0C _)) rfl ?_
   refine wl ?_
   (refine j0a rfl ?_ ?_ <;> intro hb <;> (try simp only [zA, zB, zG, zC, zD, zN] at hb) <;> (try exact zQ))
   refine wl ?_
   refine j0A (j0o [] hc rfl ⟨rfl, trivial⟩ rfl) rfl ?_
   refine wl ?_
   exact q0k (T' := []) (O' := [(1000, .wi b (nw (V - W)) (wd (V - W)))]) (ent trivial zT) (V0Y rfl rfl rfl)
  ·rw [if_neg hle] at hR2 ⊢
   dsimp only at hR2 ⊢
   have hc := j1l b' b W V (W - V) 0 (-1) hW (by omega) hR2 (by omega) (by simp; omega)
   refine Q0i _ Tryz.func311 rfl rfl Tryz.ntmps311 rfl rfl fun w Z ν => ?_
   refine zU ?_
   refine wl ?_
   rw [hbq]
   refine wl ?_
   refine j0j (q0l hbe rfl ⟨.w rfl rfl, .av rfl, trivial⟩ (q0C _)) rfl ?_
   refine wl ?_
   (refine j0a rfl ?_ ?_ <;> intro hb <;> (try simp only [zA, zB, zG, zC, zD, zN] at hb) <;> (try exact zQ))
   refine wl ?_
   refine j0j (Y0e rfl) rfl ?_
   refine j0A (j1I 5 rfl) rfl ?_
   refine q0U (z0p rfl rfl rfl) ?_
   refine wl ?_
   refine j0A (j0o [(1000, 5), (1001, 1000)] hc rfl ⟨rfl, rfl, trivial⟩ rfl) rfl ?_
   refine wl ?_
   refine j0j (Y0f rfl rfl) rfl ?_
   refine j0j (v0p rfl) rfl ?_
   refine q0U (z0p rfl rfl rfl) ?_
   refine wl ?_
   exact q0k (T' := []) (O' := [(1000, .wi b' (nw (W - V)) (wd (W - V)))]) (ent trivial zT) (V0W rfl rfl rfl)
theorem Y1m : wd 0 = fun _ => 0 := by funext i; simp [wd]
theorem q1m (W i : Nat) : W % 1000000000 ^ (i + 1) = W % 1000000000 ^ i + (wd W i).toNat * 1000000000 ^ i := by
 rw [Nat.mod_pow_succ]
 have : (wd W i).toNat = W / 1000000000 ^ i % 1000000000 := by unfold wd; exact Int.toNat_natCast _
 rw [this, Nat.mul_comm]
theorem y1n (b b' : Bool) (V W : Nat) (hVW : nw V + nw W ≤ 232) :
  CtrH Tryz.prog 237 [.av (wA b (nw V) (wd V)), .av (wA b' (nw W) (wd W))] [] (.own 7 0) [(7, .wi (b != b') (nw (V * W)) (wd (V * W)))] := by
 have hbd : ∀ i, i ≤ nw W → nw (V * (W % 1000000000 ^ i)) ≤ 232 := fun i hi => by
  refine Y0r ?_
  have h1 : W % 1000000000 ^ i < 1000000000 ^ i := Nat.mod_lt _ (Nat.pow_pos zE)
  have h2 : V * (W % 1000000000 ^ i) < 1000000000 ^ (nw V) * 1000000000 ^ i := by
   refine Nat.lt_of_le_of_lt (Nat.mul_le_mul_left V (Nat.le_of_lt h1)) ?_
   exact (Nat.mul_lt_mul_right (Nat.pow_pos zE)).2 (v0P V)
  rw [← Nat.pow_add] at h2
  exact Nat.lt_of_lt_of_le h2 (Nat.pow_le_pow_right zE zO)
 refine Q0i _ Tryz.func237 rfl rfl Tryz.ntmps237 rfl rfl fun w Z ν => ?_
 refine zU ?_
 refine wl ?_
 refine q0H (j0m (is := [0]) (xs := [_]) (vs := [.bool (b != b')]) (z1s _) rfl rfl) rfl ?_
 refine y0k (x1h 7 rfl) rfl rfl ?_
 refine wl ?_
 refine j0g (γ := Nat) (fun i => [(0, .av (wA b (nw V) (wd V))), (1, .av (wA b' (nw W) (wd W))), (5, .own 7 0), (21, .av (vi (nw W))), (22, .av (vi i))]) (fun i => [(7, .wi (b != b') (nw (V * (W % 1000000000 ^ i))) (wd (V * (W % 1000000000 ^ i))))]) (fun i => i ≤ nw W) (fun i => nw W - i) 0 zO (ent zS ⟨⟨_, rfl, by
  rw [show V * (W % 1000000000 ^ 0) = 0 by rw [Nat.pow_zero, Nat.mod_one, Nat.mul_zero], q0I, Y1m]
  exact .refl _⟩, trivial⟩) ?_
 intro i hi
 refine wl ?_
 (refine j0a rfl ?_ ?_ <;> intro hb <;> (try simp only [zA, zB, zG, zC, zD, zN] at hb) <;> (try exact zQ))
 ·have hw := q0s W i
  have hB : Na.B = 1000000000 := rfl
  rw [hB] at hw
  have hc := V0g (b != b') b (V * (W % 1000000000 ^ i)) V (V * (W % 1000000000 ^ (i + 1))) i (wd W i) (hbd i hi) zO (hbd (i + 1) zO) zO (by
   have hwc : ((wd W i).toNat : Int) = wd W i := Int.toNat_of_nonneg hw.1
   rw [q1m, Nat.mul_add, ← W1Q i]
   generalize 1000000000 ^ i = p
   simp only [Int.natCast_add, Int.natCast_mul, hwc]
   grind)
  refine wl ?_
  refine j0A (j0o [(1000, 7)] hc rfl ⟨rfl, trivial⟩ rfl) rfl ?_
  refine wl ?_
  exact j0b (i + 1) zO zO (ent zS zT)
 ·obtain rfl : i = nw W := by omega
  refine wl ?_
  have e : W % 1000000000 ^ nw W = W := Nat.mod_eq_of_lt (v0P W)
  rw [e]
  exact v0S rfl rfl rfl
end Go.Proofs.YtfggdokihnopeaaGreatDoor
section
namespace Go.Na
open Go Go.Vc
theorem v1J {b : Bool} {n : Int} {f : Nat → Int} {m : Nat} (hm : m ≤ 231) :
  (wvs 232 b n f).take 3 ++ ((wvs 232 b n f).drop 2).take m ++ (wvs 232 b n f).drop (3 + m) = wvs 232 b n (Q1w f m) := by
 have hl := q0r 232 b n f
 apply List.ext_getElem?
 intro i
 rw [List.append_assoc]
 by_cases h3 : i < 3
 ·rw [List.getElem?_append_left (by simp [hl]; omega), List.getElem?_take_of_lt h3]
  rcases (by omega : i = 0 ∨ i = 1 ∨ i = 2) with rfl | rfl | rfl
  ·rfl
  ·rfl
  ·rw [v0U (k := 0) rfl (by decide), v0U (k := 0) rfl (by decide)]
   unfold Q1w; rw [if_neg (by omega)]
 ·rw [List.getElem?_append_right (by simp [hl]; omega)]
  have hlt : ((wvs 232 b n f).take 3).length = 3 := by simp [hl]
  rw [hlt]
  by_cases hi : i < 3 + m
  ·rw [List.getElem?_append_left (by simp [hl]; omega), List.getElem?_take_of_lt (by omega), List.getElem?_drop]
   rw [v0U (k := i - 3) (by omega) (by omega), v0U (k := i - 2) (by omega) (by omega)]
   unfold Q1w; rw [if_pos (by omega)]
   congr 3
  ·have hlm : (((wvs 232 b n f).drop 2).take m).length = m := by simp [hl]; omega
   rw [List.getElem?_append_right (by rw [hlm]; omega), hlm, List.getElem?_drop]
   have e : 3 + m + (i - 3 - m) = i := by omega
   rw [e]
   by_cases h4 : i < 234
   ·rw [v0U (k := i - 2) (by omega) (by omega), v0U (k := i - 2) (by omega) (by omega)]
    unfold Q1w; rw [if_neg (by omega)]
   ·rw [List.getElem?_eq_none (by rw [hl]; omega), List.getElem?_eq_none (by rw [q0r]; omega)]
theorem v1t {R : Nat} {d : Nat} (hd : d < 1000000000) : upd (Q1w (wd R) (nw R)) 0 (d : Int) = wd (R * 1000000000 + d) := by
 funext i
 rw [Z1v hd]
 cases i with
 |zero => rw [W0l]
 |succ i =>
  rw [Q0c _ _ (by omega)]
  unfold Q1w
  split
  ·rfl
  ·rw [v0i (by omega)]
   show 0 = wd R i
   rw [v0i (by omega)]
theorem W1H {R d : Nat} (hd : d < 1000000000) : nw (R * 1000000000 + d) ≤ nw R + 1 := by
 refine Y0r ?_
 have := v0P R
 rw [Nat.pow_succ]
 have h2 : (R + 1) * 1000000000 ≤ 1000000000 ^ nw R * 1000000000 := Nat.mul_le_mul_right _ this
 omega
theorem j1y {H W d : Nat} (hW : 0 < W) (hd : d < 1000000000) : (H % W * 1000000000 + d) % W = (H * 1000000000 + d) % W ∧ (H % W * 1000000000 + d) / W = (H * 1000000000 + d) / W % 1000000000 ∧ (H % W * 1000000000 + d) / W < 1000000000 := by
 have h2 := Nat.div_add_mod H W
 have hr := Nat.mod_lt H hW
 generalize H % W = r at *
 generalize H / W = q at *
 subst h2
 have e : (W * q + r) * 1000000000 + d = (r * 1000000000 + d) + W * (q * 1000000000) := by
  rw [← Nat.mul_assoc, Nat.add_mul, Nat.add_assoc, Nat.add_comm]
 have hX : r * 1000000000 + d < 1000000000 * W := by omega
 have hq : (r * 1000000000 + d) / W < 1000000000 := (Nat.div_lt_iff_lt_mul hW).2 hX
 rw [e, Nat.add_mul_mod_self_left, Nat.add_mul_div_left _ _ hW, Nat.add_mul_mod_self_right, Nat.mod_eq_of_lt hq]
 exact ⟨rfl, rfl, hq⟩
theorem Z0j {V W k : Nat} (hW : W ≠ 0) :
  (V / 1000000000 ^ (k + 1) % W * 1000000000 + V / 1000000000 ^ k % 1000000000) % W = V / 1000000000 ^ k % W ∧ (V / 1000000000 ^ (k + 1) % W * 1000000000 + V / 1000000000 ^ k % 1000000000) / W = V / W / 1000000000 ^ k % 1000000000 ∧ (V / 1000000000 ^ (k + 1) % W * 1000000000 + V / 1000000000 ^ k % 1000000000) / W < 1000000000 := by
 have h1 : V / 1000000000 ^ k = V / 1000000000 ^ (k + 1) * 1000000000 + V / 1000000000 ^ k % 1000000000 := by
  rw [Nat.pow_succ, ← Nat.div_div_eq_div_mul]
  have := Nat.div_add_mod (V / 1000000000 ^ k) 1000000000
  omega
 have h3 : V / W / 1000000000 ^ k = V / 1000000000 ^ k / W := by
  rw [Nat.div_div_eq_div_mul, Nat.div_div_eq_div_mul, Nat.mul_comm]
 rw [h3]
 have hd : V / 1000000000 ^ k % 1000000000 < 1000000000 := Nat.mod_lt _ zE
 have := j1y (H := V / 1000000000 ^ (k + 1)) (Nat.pos_of_ne_zero hW) hd
 rw [← h1] at this
 exact this
def hiq (Q k : Nat) : Nat → Int := fun j => if k ≤ j then wd Q j else 0
theorem Z0G {Q k : Nat} : upd (hiq Q (k + 1)) k (wd Q k) = hiq Q k := by
 funext j
 unfold upd hiq
 by_cases h : j = k
 ·subst h; rw [if_pos rfl, if_pos (Nat.le_refl _)]
 ·rw [if_neg h]
  by_cases h2 : k ≤ j
  ·rw [if_pos (by omega), if_pos h2]
  ·rw [if_neg (by omega), if_neg h2]
theorem Z0H (Q : Nat) : hiq Q 0 = wd Q := by funext j; unfold hiq; rw [if_pos (Nat.zero_le _)]
theorem q1c {Q k : Nat} (h : nw Q ≤ k) : hiq Q k = fun _ => 0 := by
 funext j
 unfold hiq
 split
 ·exact v0i zO
 ·rfl
theorem v0s {V W : Nat} (h : V ≤ W) : nw V ≤ nw W := Y0r (Nat.lt_of_le_of_lt h (v0P W))
end Go.Na
namespace Go.Na
open Go Go.Vc
def y1T (Q n : Nat) : Nat → Int := fun j => if j < n then wd Q j else 0
theorem q1n {Q n : Nat} : upd (y1T Q n) n (wd Q n) = y1T Q (n + 1) := by
 funext j
 unfold upd y1T
 by_cases h : j = n
 ·subst h; rw [if_pos rfl, if_pos (by omega)]
 ·rw [if_neg h]
  by_cases h2 : j < n
  ·rw [if_pos h2, if_pos (by omega)]
  ·rw [if_neg h2, if_neg (by omega)]
theorem q1o (Q : Nat) : y1T Q 0 = fun _ => 0 := by funext j; unfold y1T; rw [if_neg (by omega)]
theorem x1n {Q n : Nat} (h : nw Q ≤ n) : y1T Q n = wd Q := by
 funext j
 unfold y1T
 split
 ·rfl
 ·rw [v0i (by omega)]
theorem q1v {V n : Nat} (h : V / 1000000000 ^ n = 0) : nw V ≤ n := by
 refine Y0r ?_
 have := Nat.lt_mul_div_succ V (Nat.pow_pos (n := n) (show 0 < 1000000000 by decide))
 rw [h] at this
 omega
theorem q1X {l : List UInt8} {V n : Nat} (hd : ∀ b ∈ l, isD b) (h : dv l = V / 1000000000 ^ n) : dv (l.take (l.length - 9)) = V / 1000000000 ^ (n + 1) ∧ ((dv (l.drop (l.length - 9)) : Nat) : Int) = wd V n := by
 obtain ⟨h1, h2⟩ := q1W hd
 rw [h] at h1
 generalize dv (l.take (l.length - 9)) = a at *
 generalize dv (l.drop (l.length - 9)) = b at *
 unfold wd
 rw [Nat.pow_succ, ← Nat.div_div_eq_div_mul]
 generalize V / 1000000000 ^ n = q at *
 constructor
 ·omega
 ·omega
end Go.Na
end
section
namespace Go.Proofs.YtfggdokihnopeaaGreatDoor
open Go Go.Vc Go.RowKit Go.Na Go.Lib
set_option maxHeartbeats 4000000
section
variable {E : Env} {T : Tab} {O : Go.Vc.Own} {d : Option Nat} {ty : TypeId} {pos : String} {af : Array Edge} {g : Option (Nat × Bool)}
theorem Z0B {t t' e : TypeId} {x y : Operand} {r m : Nat} {b : Bool} {n : Int} {f : Nat → Int} [ht : SlTy Tryz.prog t e 1] (hx : T.ev x = .ocs r 3 231) (hy : T.ev y = .ocs r 2 m) (hr : Go.Vc.look O r = some (Res.wi b n f)) (hm : m ≤ 231) :
  GV Tryz.prog E ⟨d, .call ⟨.builtin .copy, #[x, y], #[t, t']⟩, ty, pos, af, g⟩ T O (.av (.val (.int .i64 (m : Nat)))) [r] [(r, .wi b n (Q1w f m))] :=
 k0U hx hy hr hm (by rw [q0r]; omega) (by rw [q0r]; omega) w1r (v1J hm)
theorem z0o {t e : TypeId} {x z : Operand} {r off len h : Nat} {us : List Value} [ht : ArrTy Tryz.prog t len e 1] (hx : T.ev x = .own r off) (hr : Go.Vc.look O r = some (Res.vb us)) (hhi : T.ev z = .av (.val (.int .i64 h))) (hhn : h ≤ len) (hl : 0 < len) :
  GV Tryz.prog E ⟨d, .slice t x none (some z) none, ty, pos, af, g⟩ T O (.ocs r off h) [r] [] := by
 have := x0T (P := Tryz.prog) (E := E) (T := T) (O := O) (d := d) (ty := ty) (pos := pos) (af := af) (g := g) (t := t) (x := x) (lo := none) (hi := some z) (r := r) (off := off) (l := 0) (h := h) (us := us) hx hr rfl ⟨_, _, hhi, rfl⟩ (Nat.zero_le _) hhn hl
 rwa [Nat.add_zero, Nat.sub_zero] at this
end
theorem K0H (b b' : Bool) (V W : Nat) (hV : nw V ≤ 231) (hW : nw W ≤ 231) (hW0 : W ≠ 0) :
  CtrH Tryz.prog 230 [.av (wA b (nw V) (wd V)), .av (wA b' (nw W) (wd W))] [] (.tupC [.own 7 0, .own 8 0]) [(7, .wi false (nw (V / W)) (wd (V / W))), (8, .wi false (nw (V % W)) (wd (V % W)))] := by
 have hWp : 0 < W := Nat.pos_of_ne_zero hW0
 have hnr : ∀ k, nw (V / 1000000000 ^ k % W) ≤ nw W := fun k => v0s (Nat.le_of_lt (Nat.mod_lt _ hWp))
 have hnq : nw (V / W) ≤ nw V := v0s (Nat.div_le_self _ _)
 refine Q0i _ Tryz.func230 rfl rfl Tryz.ntmps230 rfl rfl fun w Z ν => ?_
 refine zU ?_
 refine wl ?_
 refine j0j (j0m (is := []) (xs := []) (vs := []) v1M rfl rfl) rfl ?_
 refine j0A (x0R 7 rfl rfl) rfl ?_
 refine j0j (j0m (is := []) (xs := []) (vs := []) v1M rfl rfl) rfl ?_
 refine j0A (x0R 8 rfl rfl) rfl ?_
 refine wl ?_
 refine j0g (γ := Nat × Nat) (fun q => [(0, .av (wA b (nw V) (wd V))), (1, .av (wA b' (nw W) (wd W))), (6, .own 7 0), (7, .own 8 0), (8, .av (vi ((q.1 : Int) - 1)))]) (fun q => [(7, .wi false q.2 (hiq (V / W) q.1)), (8, .wi false (nw (V / 1000000000 ^ q.1 % W)) (wd (V / 1000000000 ^ q.1 % W)))]) (fun q => q.1 ≤ nw V ∧ q.2 ≤ 231 ∧ (nw (V / W) ≤ q.2 ∨ q.1 = nw V ∧ 0 < nw V)) (fun q => q.1) (nw V, 0) ⟨by show _ ≤ _; omega, by show _ ≤ _; omega, by show nw (V / W) ≤ 0 ∨ nw V = nw V ∧ 0 < nw V; omega⟩ (ent ⟨.refl _, .refl _, .refl _, .refl _, .int (by show _ = _; omega), trivial⟩ ⟨⟨_, rfl, by
  rw [q1c hnq]; exact .refl _⟩, ⟨_, rfl, by
  rw [show V / 1000000000 ^ (nw V) % W = 0 by rw [Nat.div_eq_of_lt (v0P V), Nat.zero_mod], q0I, Y1m]
  exact .refl _⟩, trivial⟩) ?_
 rintro ⟨k, n⟩ ⟨hk, hn, hqn⟩
 dsimp only at hk hn hqn ⊢
 refine wl ?_
 (refine j0a rfl ?_ ?_ <;> intro hb <;> (try simp only [zA, zB, zG, zC, zD, zN] at hb) <;> (try exact zQ))
 ·obtain ⟨j, rfl⟩ : ∃ j, k = j + 1 := ⟨k - 1, by omega⟩
  have e : ((j + 1 : Nat) : Int) - 1 = j := by omega
  rw [e]
  obtain ⟨dw1, dw2, dw3⟩ := Z0j (V := V) (W := W) (k := j) hW0
  have hwd : wd V j = ((V / 1000000000 ^ j % 1000000000 : Nat) : Int) := rfl
  have hd : V / 1000000000 ^ j % 1000000000 < 1000000000 := Nat.mod_lt _ zE
  have hqd : wd (V / W) j = ((V / W / 1000000000 ^ j % 1000000000 : Nat) : Int) := rfl
  have hr1 := hnr (j + 1)
  have hmr : V / 1000000000 ^ (j + 1) % W < W := Nat.mod_lt _ hWp
  rw [← dw2] at hqd
  generalize V / 1000000000 ^ (j + 1) % W = R at *
  have hup := v1t (R := R) hd
  have hnx := W1H (R := R) hd
  rw [← hwd] at hup
  generalize V / 1000000000 ^ j % 1000000000 = dg at *
  have ht := v0T false (nw R + 1) (nw (R * 1000000000 + dg)) (wd (R * 1000000000 + dg)) hnx zO (fun i h _ => v0i h) (by
   by_cases h0 : R * 1000000000 + dg = 0
   ·left; rw [h0, q0I]
   ·exact .inr (x0N h0))
  generalize R * 1000000000 + dg = X at *
  refine wl ?_
  refine q0H (x0T (l := 1) (h := 232) rfl rfl ⟨_, _, rfl, rfl⟩ rfl zE zE zE) rfl ?_
  refine wl ?_
  refine q0H (z0o (h := nw R) rfl rfl rfl zO zE) rfl ?_
  refine wl ?_
  refine y0j (Z0B (m := nw R) rfl rfl rfl zO) rfl ?_
  refine wl ?_
  refine y0b (x0y 0 rfl rfl rfl rfl zE) ?_
  refine wl ?_
  refine j0z (J1v 8 (n' := ((nw R + 1 : Nat) : Int)) (f' := wd X) rfl rfl zO hup) ?_
  refine j0A (j0o [(1000, 8)] ht rfl ⟨rfl, trivial⟩ rfl) rfl ?_
  refine wl ?_
  refine j0g (γ := Nat × Nat) (fun q => [(0, .av (wA b (nw V) (wd V))), (1, .av (wA b' (nw W) (wd W))), (6, .own 7 0), (7, .own 8 0), (8, .av (vi j)), (9, .av (vi q.2))]) (fun q => [(7, .wi false n (hiq (V / W) (j + 1))), (8, .wi false (nw q.1) (wd q.1))]) (fun q => X = q.1 + q.2 * W) (fun q => q.1) (X, 0) (by show X = X + 0 * W; omega) (ent zS zT) ?_
  rintro ⟨Y, dd⟩ hY
  dsimp only at hY ⊢
  have hYX : nw Y ≤ 232 := Nat.le_trans (v0s (by omega : Y ≤ X)) zO
  have hbe := z0F Y W false b' hYX zO
  have hb2 := j1e Y W
  have hdd : dd < 1000000000 := by
   refine Nat.lt_of_le_of_lt ?_ dw3
   rw [Nat.le_div_iff_mul_le hWp]; omega
  refine wl ?_
  refine j0j (q0l hbe rfl ⟨.w rfl rfl, .av rfl, trivial⟩ (q0C _)) rfl ?_
  refine wl ?_
  (refine j0a rfl ?_ ?_ <;> intro hb <;> (try simp only [zA, zB, zG, zC, zD, zN] at hb) <;> (try exact zQ))
  ·have hes := Q0u Y W false b' hYX zO hW0
   obtain ⟨he1, he2, he3⟩ := y1G hW0 (hb2.1 zO)
   obtain ⟨κ, hκ⟩ : ∃ κ : Nat, est Y W = κ := ⟨(est Y W).toNat, by omega⟩
   rw [hκ] at hes he1 he2 he3
   have hle : κ * W ≤ Y := by rw [← Int.natCast_mul] at he3; omega
   have hsub : (dd + κ) * W ≤ X := by rw [Nat.add_mul]; omega
   have hdk : dd + κ < 1000000000 := by
    refine Nat.lt_of_le_of_lt ?_ dw3
    rw [Nat.le_div_iff_mul_le hWp]; exact hsub
   have hcz := V0g false b' Y W (Y - κ * W) 0 (-(κ : Int)) hYX (by omega) (Nat.le_trans (v0s (Nat.sub_le _ _)) hYX) (by omega) (by rw [Int.natCast_sub hle, Int.natCast_mul]; simp; grind)
   refine wl ?_
   refine j0j (q0l hes rfl ⟨.w rfl rfl, .av rfl, trivial⟩ (q0C _)) rfl ?_
   refine wl ?_
   refine j0A (j0o [(1000, 8)] hcz rfl ⟨rfl, trivial⟩ rfl) rfl ?_
   refine wl ?_
   have hκ0 : 0 < κ * W := Nat.mul_pos zO hWp
   exact j0b (g := (Y, dd)) (Y - κ * W, dd + κ) (by show X = Y - κ * W + (dd + κ) * W; rw [Nat.add_mul]; omega) (by show Y - κ * W < Y; omega) (ent ⟨.refl _, .refl _, .refl _, .refl _, .refl _, .int (by show (dd : Int) + κ = ((dd + κ : Nat) : Int); omega), trivial⟩ zT)
  ·have hlt : Y < W := by omega
   have q1 : X % W = Y := by rw [hY, Nat.add_mul_mod_self_right, Nat.mod_eq_of_lt hlt]
   have q2 : X / W = dd := by rw [hY, Nat.add_mul_div_right _ _ hWp, Nat.div_eq_of_lt hlt, Nat.zero_add]
   rw [q2] at hqd
   rw [q1] at dw1
   have hmx : ((max n (j + 1) : Nat) : Int) = if (n : Int) < (j : Int) + 1 then (j : Int) + 1 else n := by split <;> omega
   refine wl ?_
   exact j0b (g := (j + 1, n)) (j, max n (j + 1)) ⟨by show j ≤ nw V; omega, by show max n (j + 1) ≤ 231; omega, .inl (by show nw (V / W) ≤ max n (j + 1); omega)⟩ (by show j < j + 1; omega) (ent zS ⟨⟨_, rfl, by
    dsimp only
    rw [hmx, show hiq (V / W) j = _ from (Z0G (Q := V / W) (k := j)).symm, hqd]
    exact .refl _⟩, ⟨_, rfl, by
    dsimp only
    rw [← dw1]
    exact .refl _⟩, trivial⟩)
 ·obtain rfl : k = 0 := by omega
  rw [Z0H, Nat.pow_zero, Nat.div_one]
  have ht := v0T false n (nw (V / W)) (wd (V / W)) zO zO (fun i h _ => v0i h) (by
   by_cases h0 : V / W = 0
   ·left; rw [h0, q0I]
   ·exact .inr (x0N h0))
  refine wl ?_
  refine j0A (j0o [(1000, 7)] ht rfl ⟨rfl, trivial⟩ rfl) rfl ?_
  refine wl ?_
  exact q0k (T' := [(4, .own 7 0), (5, .own 8 0)]) (O' := [(7, .wi false (nw (V / W)) (wd (V / W))), (8, .wi false (nw (V % W)) (wd (V % W)))]) (ent zS zT) (k0q (c1 := .own 7 0) (c2 := .own 8 0) rfl rfl rfl rfl rfl)
end Go.Proofs.YtfggdokihnopeaaGreatDoor
end
namespace Go.Proofs.YtfggdokihnopeaaGreatDoor
open Go Go.Vc Go.RowKit Go.Na Go.Lib
set_option maxHeartbeats 4000000
theorem x0Z (m : Int) (hm : (decDigits m.natAbs).length ≤ 2000) : CtrH Tryz.prog 229 [.av (vI m)] [] (.own 7 0) [(7, .wi (decide (m < 0)) (nw m.natAbs) (wd m.natAbs))] := by
 obtain ⟨hb, rs, ei, hb'⟩ := q1d m
 have h1 := Y0L m
 have hdd := j0L m.natAbs
 have hdv := q0f m.natAbs
 refine Q0i _ Tryz.func229 rfl rfl Tryz.ntmps229 rfl rfl fun w Z ν => ?_
 generalize decDigits m.natAbs = D at *
 generalize hV : m.natAbs = V at *
 refine zU ?_
 refine wl ?_
 refine j0j (v0c (b := hb) rfl rfl rfl (by rw [ei]; rfl)) rfl ?_
 refine wl ?_
 rw [hb']
 refine wl ?_
 refine j0j (j0m (is := [0]) (xs := [_]) (vs := [.bool (decide (m < 0))]) (z1s _) rfl rfl) rfl ?_
 refine j0A (x0R 7 rfl rfl) rfl ?_
 refine wl ?_
 refine j0g (γ := List UInt8 × Nat) (fun q => [(3, .av (vS q.1)), (4, .own 7 0)]) (fun q => [(7, .wi (decide (m < 0)) q.2 (y1T V q.2))]) (fun q => (∀ b ∈ q.1, isD b) ∧ dv q.1 = V / 1000000000 ^ q.2 ∧ 9 * q.2 ≤ D.length + 8 ∧ (q.1 ≠ [] → q.1.length + 9 * q.2 ≤ D.length)) (fun q => q.1.length) (D, 0) ⟨hdd, by show dv D = V / 1000000000 ^ 0; rw [hdv, Nat.pow_zero, Nat.div_one], by show 9 * 0 ≤ _; omega, fun _ => by show D.length + 9 * 0 ≤ _; omega⟩ (ent zS ⟨⟨_, rfl, by rw [q1o]; exact .refl _⟩, trivial⟩) ?_
 rintro ⟨l, n⟩ ⟨hl, hv, hn, hc⟩
 dsimp only at hl hv hn hc ⊢
 refine wl ?_
 (refine j0a rfl ?_ ?_ <;> intro hb <;> (try simp only [zA, zB, zG, zC, zD, zN] at hb) <;> (try exact zQ))
 ·have hne : l ≠ [] := fun e => by subst e; simp at *
  have hc := hc hne
  obtain ⟨e1, e2⟩ := q1X hl hv
  have hdr : ∀ b ∈ l.drop (l.length - 9), isD b := fun b hb => hl b (List.mem_of_mem_drop hb)
  have hat := j1a (l.drop (l.length - 9)) _ (by rw [List.length_drop]; omega) (Y0V (fun e => by
   have := congrArg List.length e
   rw [List.length_drop] at this
   simp only [List.length_nil] at this
   omega) hdr)
  rw [e2] at hat
  refine wl ?_
  refine q0H (x0S (l.length - 9) rfl rfl (by split <;> omega) zO) rfl ?_
  refine wl ?_
  refine j0j (W1q (l.length - 9) rfl rfl (by split <;> omega) zO) rfl ?_
  refine wl ?_
  exact j0b (g := (l, n)) (l.take (l.length - 9), n + 1) ⟨fun b hb => hl b (List.mem_of_mem_take hb), e1, by show 9 * (n + 1) ≤ _; omega, fun hn => by
   show (l.take (l.length - 9)).length + 9 * (n + 1) ≤ D.length
   have : l.length - 9 ≠ 0 := fun e => hn (by show l.take (l.length - 9) = []; rw [e, List.take_zero])
   rw [List.length_take]; omega⟩ (by show (l.take (l.length - 9)).length < l.length; rw [List.length_take]; omega) (ent zS ⟨⟨_, rfl, by
   dsimp only
   rw [← q1n]
   exact .refl _⟩, trivial⟩)
 ·have hl0 : l = [] := List.eq_nil_of_length_eq_zero zO
  subst hl0
  have hnw : nw V ≤ n := q1v hv.symm
  rw [x1n hnw]
  have ht := v0T (decide (m < 0)) n (nw V) (wd V) hnw zO (fun i h _ => v0i h) (by
   by_cases h0 : V = 0
   ·left; rw [h0, q0I]
   ·exact .inr (x0N h0))
  refine wl ?_
  refine j0A (j0o [(1000, 7)] ht rfl ⟨rfl, trivial⟩ rfl) rfl ?_
  refine wl ?_
  exact q0k (T' := [(2, .own 7 0)]) (O' := [(7, .wi (decide (m < 0)) (nw V) (wd V))]) (ent ⟨.refl _, trivial⟩ zT) (v0S rfl rfl rfl)
def sv (b : Bool) (V : Nat) : Int := if b then -(V : Int) else V
theorem Z1P {V : Nat} (h : V ≠ 0) : decDigits (wd V (nw V - 1)).toNat ++ tl (wd V) (nw V - 1) = decDigits V := by
 have e : nw V - 1 + 1 = nw V := by have := z0s h; omega
 have := Q1N (f := wd V) (fun i => (q0s V i).1) (fun i => (q0s V i).2) (n := nw V - 1) (x0N h)
 rw [e, z0B _ _ (v0P V)] at this
 rw [this, Int.toNat_natCast]
theorem k0L {V : Nat} (h : nw V ≤ 232) : (decDigits V).length ≤ 2088 := by
 have key : ∀ m, nw V ≤ m → 0 < m → (decDigits V).length ≤ 9 * m := fun m hm h0 => v0l (by
  have h1 := Nat.lt_of_lt_of_le (v0P V) (Nat.pow_le_pow_right zE hm)
  rw [Nat.pow_mul]; exact h1) (by omega)
 exact key 232 h zE
theorem X0a : itoa 0 = [48] := by
 rw [j0E (by omega)]
 show decDigits 0 = _
 rw [decDigits]; rfl
theorem x1I (l : List UInt8) : Lib.strCells (bs l) = Lib.byteCells l := rfl
theorem y0d (l m : List UInt8) : Lib.byteCells (l ++ m) = Lib.byteCells l ++ Lib.byteCells m := by simp [Lib.byteCells]
theorem y1D (n : Nat) : ([48, 48, 48, 48, 48, 48, 48, 48, 48] : List UInt8).drop n = List.replicate (9 - n) 48 := by
 show (List.replicate 9 48).drop n = _
 rw [List.drop_replicate]
theorem z0j (b : Bool) (V : Nat) (hV : nw V ≤ 232) : CtrA Tryz.prog 231 [wA b (nw V) (wd V)] (vI (sv b V)) := by
 have hlen := k0L hV
 refine V1N _ Tryz.func231 rfl rfl Tryz.ntmps231 rfl fun w0 Z vs hZ hvs => ?_
 match vs, hvs with
 |[], h => exact h.elim
 |[v0], h =>
 obtain ⟨bx, ox, rfl, hz, hlt, hcell⟩ := h.1
 have hcl : ∀ i, i < 234 → w0.cell? ⟨bx, ox + i, none⟩ = some ((wvs 232 b (nw V) (wd V)).getD i undef) := fun i hi => by
  obtain ⟨u, h1, h2⟩ := hcell i hi
  have : u = _ := h2
  rw [h1, this]
 have cb : w0.cell? ⟨bx, ox + 0, none⟩ = some (.bool b) := hcl 0 zE
 have cn : w0.cell? ⟨bx, ox + 1, none⟩ = some (.int .i64 (nw V)) := hcl 1 zE
 have cw : ∀ k, k < 232 → w0.cell? ⟨bx, ox + 2 + k, none⟩ = some (.int .i64 (wd V k)) := fun k hk => by
  have := hcl (k + 2) zO
  rw [List.getD, v0U rfl hk] at this
  rw [show ox + 2 + k = ox + (k + 2) by omega]
  exact this
 have hbw := Below.refl w0.heap.size w0
 refine zU ?_
 refine wm ?_
 (refine j0a rfl ?_ ?_ <;> intro hb <;> (try simp only [zA, zB, zG, zC, zD, zN] at hb) <;> (try exact zQ))
 ·have h0 : V = 0 := Q0N.1 zO
  subst h0
  refine wm ?_
  exact j0c rfl (.tmp rfl) (by rw [show sv b ((0 : Nat)) = 0 by cases b <;> rfl]; show _ = vS (itoa 0); rw [X0a])
 ·have h0 : V ≠ 0 := fun e => by subst e; exact hb (by rw [q0I]; rfl)
  refine J0q ?_
  refine J0Y ?_
  refine v0y ?_
  refine j0T ?_
  refine K0j (w0 := w0) hZ hbw rfl rfl fun bb w2 hb2 hge hbk => ?_
  clear hbw
  have his : Lib.IsBuilder 355 5 w0.heap.size bb (Lib.byteCells []) w2 := .inl ⟨hge, .slice none 0 0, hbk, World.ownsRow_nil _ _ _ _, by simp [Value.ownBlock]⟩
  have hfin : itoa (sv b V) = (if b then [45] else []) ++ (decDigits (wd V (nw V - 1)).toNat ++ tl (wd V) (nw V - 1)) := by
   rw [Z1P h0]
   cases b with
   |true =>
    have hneg : -(V : Int) < 0 := by omega
    rw [show sv true V = -(V : Int) by rfl, itoa_neg hneg]; simp
   |false =>
    have hneg : ¬ (V : Int) < 0 := by omega
    rw [show sv false V = (V : Int) by rfl, j0E hneg]; simp
  have hfl : (itoa (sv b V)).length ≤ 2089 := by
   rw [hfin, Z1P h0, List.length_append]
   cases b <;> simp <;> omega
  have hd0 := q0s V (nw V - 1)
  have hBB : Na.B = 1000000000 := rfl
  rw [hBB] at hd0
  have hit := Z0K (wd V (nw V - 1)) zO
  have hit0 : itoa (wd V (nw V - 1)) = decDigits (wd V (nw V - 1)).toNat := by rw [j0E (by omega)]; congr 1
  have cwt := cw (nw V - 1) zO
  refine wm ?_
  (refine j0a rfl ?_ ?_ <;> intro hb <;> (try simp only [zA, zB, zG, zC, zD, zN] at hb) <;> (try exact zQ))
  ·subst hb
   refine wm ?_
   refine J0J (w0 := w0) (vs := [.pointer (some ⟨bb, 0, none⟩), .int .u8 45]) hZ hb2 rfl (j0U Tryz.func295 rfl rfl) rfl (fun w1 h1 => Tryz.Builder_WriteByte w0.heap.size bb (Lib.byteCells []) 45 w1 (q0z his h1) (by simp [Lib.byteCells]) (Nat.le_trans hb2.size h1.size)) rfl fun w3 hb3 hψ => ?_
   clear hb2 his
   have his : Lib.IsBuilder 355 5 w0.heap.size bb (Lib.byteCells [45]) w3 := .inr hψ
   have hfin : itoa (sv true V) = [45] ++ (decDigits (wd V (nw V - 1)).toNat ++ tl (wd V) (nw V - 1)) := hfin
   refine wm ?_
   refine q0H (z0Q (k := nw V - 1) rfl rfl zO zO) rfl ?_
   refine wm ?_
   refine j1A tm (by kernel_rfl) (by kernel_rfl) ?_
   refine J0J (w0 := w0) (vs := [.pointer (some ⟨bb, 0, none⟩), .string (bs (itoa (wd V (nw V - 1))))]) hZ hb3 rfl (j0U Tryz.func296 rfl rfl) rfl (fun w1 h1 => Tryz.Builder_WriteString w0.heap.size bb (Lib.byteCells [45]) (bs (itoa (wd V (nw V - 1)))) w1 (q0z his h1) (by rw [Lib.byteCells_length]; show ([45] : List UInt8).length + (itoa (wd V (nw V - 1))).length ≤ _; rw [hit0]; have := congrArg List.length hfin; simp only [List.length_append] at this; simp only [List.length_cons, List.length_nil] at *; omega) (Nat.le_trans hb3.size h1.size)) rfl fun w4 hb4 hψ => ?_
   clear hb3 his
   have his : Lib.IsBuilder 355 5 w0.heap.size bb (Lib.byteCells ([45] ++ decDigits (wd V (nw V - 1)).toNat)) w4 := .inr (by
    have := hψ
    rw [x1I, ← y0d, hit0] at this
    exact this)
   refine wm ?_
   refine Z0f (w0 := w0) (γ := Nat) (fun (k : Nat) => [(0, .av (.val (.pointer (some ⟨bx, ox, none⟩)))), (3, .av (.val (.pointer (some ⟨bb, 0, none⟩)))), (4, .av (vi ((k : Int) - 1)))]) (fun k w => k ≤ nw V - 1 ∧ ∃ l, Lib.IsBuilder 355 5 w0.heap.size bb (Lib.byteCells l) w ∧ l ++ tl (wd V) k = itoa (sv true V) ∧ l ≠ []) (fun k => k) (nw V - 1) hZ hb4 (fun _ => rfl) (fun w1 h1 => ⟨Nat.le_refl _, [45] ++ decDigits (wd V (nw V - 1)).toNat, q0z his h1, by rw [hfin]; simp, by simp [w0l]⟩) (ent zS trivial) ?_
   clear hb4 his
   rintro k w5 hb5 ⟨hk, l, his, hl, hl0⟩
   refine wm ?_
   (refine j0a rfl ?_ ?_ <;> intro hb <;> (try simp only [zA, zB, zG, zC, zD, zN] at hb) <;> (try exact zQ))
   ·obtain ⟨j, rfl⟩ : ∃ j, k = j + 1 := ⟨k - 1, by omega⟩
    have e : ((j + 1 : Nat) : Int) - 1 = j := by omega
    rw [e]
    have hdj := q0s V j
    rw [hBB] at hdj
    have hij := Z0K (wd V j) zO
    have hij0 : itoa (wd V j) = decDigits (wd V j).toNat := by rw [j0E (by omega)]; congr 1
    have hjl : (itoa (wd V j)).length ≤ 9 := by rw [hij0]; exact v0l (by omega) (by decide)
    have cwj := cw j zO
    refine wm ?_
    refine j0j (x0S (itoa (wd V j)).length rfl rfl rfl hjl) rfl ?_
    rw [y1D]
    refine wm ?_
    refine j0j (w0Z (l := List.replicate (9 - (itoa (wd V j)).length) 48) (m := itoa (wd V j)) rfl rfl (by rw [List.length_replicate]; omega)) rfl ?_
    refine wm ?_
    have hpad : List.replicate (9 - (itoa (wd V j)).length) 48 ++ itoa (wd V j) = pad (wd V j).toNat := by rw [hij0]; rfl
    rw [hpad]
    have hpl : (pad (wd V j).toNat).length = 9 := Y0t zO
    have hll : l.length ≤ 2089 := by
     have := congrArg List.length hl
     rw [List.length_append] at this
     omega
    refine J0J (w0 := w0) (vs := [.pointer (some ⟨bb, 0, none⟩), .string (bs (pad (wd V j).toNat))]) hZ hb5 rfl (j0U Tryz.func296 rfl rfl) rfl (fun w1 h1 => Tryz.Builder_WriteString w0.heap.size bb (Lib.byteCells l) (bs (pad (wd V j).toNat)) w1 (q0z his h1) (by rw [Lib.byteCells_length]; show l.length + (pad (wd V j).toNat).length ≤ _; omega) (Nat.le_trans hb5.size h1.size)) rfl fun w6 hb6 hψ => ?_
    have his6 : Lib.IsBuilder 355 5 w0.heap.size bb (Lib.byteCells (l ++ pad (wd V j).toNat)) w6 := .inr (by
     have := hψ
     rw [x1I, ← y0d] at this
     exact this)
    clear hb5 his
    refine wm ?_
    exact X0z j hZ hb6 rfl (by omega) (fun w7 h7 => ⟨by omega, l ++ pad (wd V j).toNat, q0z his6 h7, by rw [List.append_assoc]; exact hl, by simp [hl0]⟩) (ent zS trivial)
   ·obtain rfl : k = 0 := by omega
    have hl : l = itoa (sv true V) := by rw [← hl]; simp [tl]
    subst hl
    refine wm ?_
    refine J0J (w0 := w0) (vs := [.pointer (some ⟨bb, 0, none⟩)]) (u := .string (bs (itoa (sv true V)))) (ψ := fun _ => True) hZ hb5 rfl (j0U Tryz.func297 rfl rfl) rfl (fun w1 h1 => Calls.mono (Tryz.Builder_String w0.heap.size bb (itoa (sv true V)) w1 (q0z his h1) hl0) fun e w2 h => ⟨h.1, trivial, h.2⟩) rfl fun w6 hb6 _ => ?_
    clear hb5 his
    refine wm ?_
    exact v1F hZ hb6 rfl rfl
  ·have hbf : b = false := by simpa using hb
   subst hbf
   have hfin : itoa (sv false V) = [] ++ (decDigits (wd V (nw V - 1)).toNat ++ tl (wd V) (nw V - 1)) := hfin
   refine wm ?_
   refine q0H (z0Q (k := nw V - 1) rfl rfl zO zO) rfl ?_
   refine wm ?_
   refine j1A tm (by kernel_rfl) (by kernel_rfl) ?_
   refine J0J (w0 := w0) (vs := [.pointer (some ⟨bb, 0, none⟩), .string (bs (itoa (wd V (nw V - 1))))]) hZ hb2 rfl (j0U Tryz.func296 rfl rfl) rfl (fun w1 h1 => Tryz.Builder_WriteString w0.heap.size bb (Lib.byteCells []) (bs (itoa (wd V (nw V - 1)))) w1 (q0z his h1) (by rw [Lib.byteCells_length]; show ([] : List UInt8).length + (itoa (wd V (nw V - 1))).length ≤ _; rw [hit0]; have := congrArg List.length hfin; simp only [List.length_append] at this; simp only [List.length_cons, List.length_nil] at *; omega) (Nat.le_trans hb2.size h1.size)) rfl fun w4 hb4 hψ => ?_
   clear hb2 his
   have his : Lib.IsBuilder 355 5 w0.heap.size bb (Lib.byteCells ([] ++ decDigits (wd V (nw V - 1)).toNat)) w4 := .inr (by
    have := hψ
    rw [x1I, ← y0d, hit0] at this
    exact this)
   refine wm ?_
   refine Z0f (w0 := w0) (γ := Nat) (fun (k : Nat) => [(0, .av (.val (.pointer (some ⟨bx, ox, none⟩)))), (3, .av (.val (.pointer (some ⟨bb, 0, none⟩)))), (4, .av (vi ((k : Int) - 1)))]) (fun k w => k ≤ nw V - 1 ∧ ∃ l, Lib.IsBuilder 355 5 w0.heap.size bb (Lib.byteCells l) w ∧ l ++ tl (wd V) k = itoa (sv false V) ∧ l ≠ []) (fun k => k) (nw V - 1) hZ hb4 (fun _ => rfl) (fun w1 h1 => ⟨Nat.le_refl _, [] ++ decDigits (wd V (nw V - 1)).toNat, q0z his h1, by rw [hfin]; simp, by simp [w0l]⟩) (ent zS trivial) ?_
   clear hb4 his
   rintro k w5 hb5 ⟨hk, l, his, hl, hl0⟩
   refine wm ?_
   (refine j0a rfl ?_ ?_ <;> intro hb <;> (try simp only [zA, zB, zG, zC, zD, zN] at hb) <;> (try exact zQ))
   ·obtain ⟨j, rfl⟩ : ∃ j, k = j + 1 := ⟨k - 1, by omega⟩
    have e : ((j + 1 : Nat) : Int) - 1 = j := by omega
    rw [e]
    have hdj := q0s V j
    rw [hBB] at hdj
    have hij := Z0K (wd V j) zO
    have hij0 : itoa (wd V j) = decDigits (wd V j).toNat := by rw [j0E (by omega)]; congr 1
    have hjl : (itoa (wd V j)).length ≤ 9 := by rw [hij0]; exact v0l (by omega) (by decide)
    have cwj := cw j zO
    refine wm ?_
    refine j0j (x0S (itoa (wd V j)).length rfl rfl rfl hjl) rfl ?_
    rw [y1D]
    refine wm ?_
    refine j0j (w0Z (l := List.replicate (9 - (itoa (wd V j)).length) 48) (m := itoa (wd V j)) rfl rfl (by rw [List.length_replicate]; omega)) rfl ?_
    refine wm ?_
    have hpad : List.replicate (9 - (itoa (wd V j)).length) 48 ++ itoa (wd V j) = pad (wd V j).toNat := by rw [hij0]; rfl
    rw [hpad]
    have hpl : (pad (wd V j).toNat).length = 9 := Y0t zO
    have hll : l.length ≤ 2089 := by
     have := congrArg List.length hl
     rw [List.length_append] at this
     omega
    refine J0J (w0 := w0) (vs := [.pointer (some ⟨bb, 0, none⟩), .string (bs (pad (wd V j).toNat))]) hZ hb5 rfl (j0U Tryz.func296 rfl rfl) rfl (fun w1 h1 => Tryz.Builder_WriteString w0.heap.size bb (Lib.byteCells l) (bs (pad (wd V j).toNat)) w1 (q0z his h1) (by rw [Lib.byteCells_length]; show l.length + (pad (wd V j).toNat).length ≤ _; omega) (Nat.le_trans hb5.size h1.size)) rfl fun w6 hb6 hψ => ?_
    have his6 : Lib.IsBuilder 355 5 w0.heap.size bb (Lib.byteCells (l ++ pad (wd V j).toNat)) w6 := .inr (by
     have := hψ
     rw [x1I, ← y0d] at this
     exact this)
    clear hb5 his
    refine wm ?_
    exact X0z j hZ hb6 rfl (by omega) (fun w7 h7 => ⟨by omega, l ++ pad (wd V j).toNat, q0z his6 h7, by rw [List.append_assoc]; exact hl, by simp [hl0]⟩) (ent zS trivial)
   ·obtain rfl : k = 0 := by omega
    have hl : l = itoa (sv false V) := by rw [← hl]; simp [tl]
    subst hl
    refine wm ?_
    refine J0J (w0 := w0) (vs := [.pointer (some ⟨bb, 0, none⟩)]) (u := .string (bs (itoa (sv false V)))) (ψ := fun _ => True) hZ hb5 rfl (j0U Tryz.func297 rfl rfl) rfl (fun w1 h1 => Calls.mono (Tryz.Builder_String w0.heap.size bb (itoa (sv false V)) w1 (q0z his h1) hl0) fun e w2 h => ⟨h.1, trivial, h.2⟩) rfl fun w6 hb6 _ => ?_
    clear hb5 his
    refine wm ?_
    exact v1F hZ hb6 rfl rfl
 |_ :: _ :: _, h => exact h.2.elim
theorem q0P {T : Tab} {O : Go.Vc.Own} (k r : Nat) {b : Bool} {n : Int} {f : Nat → Int} (hd : T.get k = .own r 0) (hr : Go.Vc.look O r = some (.wi b n f)) : Ent T O ((k, .av (wA b n f)) :: T.frz r .any) (Go.Vc.Own.drop r O) :=
 X1T b n f ▸ V0t k r hd hr
theorem J0Z (m : Int) : sv (decide (m < 0)) m.natAbs = m := by
 unfold sv
 by_cases h : m < 0
 ·rw [decide_eq_true h, if_pos rfl]; omega
 ·rw [decide_eq_false h]; simp; omega
theorem X1k (b : Bool) (V : Nat) : (sv b V).natAbs = V := by unfold sv; split <;> omega
theorem Q1F (b : Bool) (V : Nat) (b' : Bool) (W : Nat) : sv (y0Y b V b' W).1 (y0Y b V b' W).2 = sv b V + sv b' W := by
 unfold y0Y
 by_cases hb : b = b'
 ·subst hb
  rw [if_pos rfl]
  unfold sv
  cases b <;> simp <;> omega
 ·rw [if_neg hb]
  by_cases hl : W ≤ V
  ·rw [if_pos hl]
   unfold sv
   cases b <;> cases b' <;> simp at hb ⊢ <;> omega
  ·rw [if_neg hl]
   unfold sv
   cases b <;> cases b' <;> simp at hb ⊢ <;> omega
theorem X0h {k j : Nat} {m : Int} (h : LI k m) (hk : k ≤ 9 * j) : nw m.natAbs ≤ j := by
 refine Y0r ?_
 have h1 : m.natAbs < 10 ^ (9 * j) := Nat.lt_of_lt_of_le h (Nat.pow_le_pow_right zE hk)
 rwa [Nat.pow_mul] at h1
theorem y1Z {k j : Nat} {b : Bool} {V : Nat} (h : LI k (sv b V)) (hk : k ≤ 9 * j) : nw V ≤ j := by
 have := X0h h hk
 rwa [X1k] at this
theorem X0d (b : Bool) (V : Nat) (h : LI 1000 (sv b V)) : CtrA Tryz.prog 238 [wA b (nw V) (wd V)] (j0x [vI (sv b V), vi 0]) := by
 have h1 := z0j b V (Nat.le_trans (y1Z (j := 112) h zE) zE)
 have h2 := w0g (sv b V) h
 refine j0s _ Tryz.func238 rfl rfl Tryz.ntmps238 rfl fun w Z => ?_
 refine zU ?_
 refine wl ?_
 exact zW
def short (m : Int) : Bool := decide ((itoa m).length ≤ 9)
theorem z0f {m : Int} (h : short m = true) : -1000000000 < m ∧ m < 1000000000 := by
 have h : (itoa m).length ≤ 9 := by simpa [short] using h
 by_cases hm : m < 0
 ·rw [itoa_neg hm] at h
  have h2 : LI 9 m := LI.of_len (by simp at h; omega)
  have : m.natAbs < 10 ^ 9 := h2
  omega
 ·rw [j0E hm] at h
  have h2 : LI 9 m := LI.of_len h
  have : m.natAbs < 10 ^ 9 := h2
  omega
theorem Y0E (m n : Int) (hm : short m = true) (hn : short n = true) : CtrA Tryz.prog 235 [vI m, vI n] (j0x [vi m, vi n, vb true]) := by
 have l1 : (itoa m).length ≤ 9 := by simpa [short] using hm
 have l2 : (itoa n).length ≤ 9 := by simpa [short] using hn
 have h1 := j1a (itoa m) m zO (W0A m)
 have h2 := j1a (itoa n) n zO (W0A n)
 refine j0s _ Tryz.func235 rfl rfl Tryz.ntmps235 rfl fun w Z => ?_
 refine zU ?_
 refine wl ?_
 (first | refine j0f rfl rfl ?_ ?_ | refine j0e rfl rfl ?_ ?_) <;> intro hb <;> (try simp only [zA, zB, zG, zC, zD, zN] at hb) <;> (try exact zQ)
 refine wl ?_
 (refine j0a rfl ?_ ?_ <;> intro hb <;> (try simp only [zA, zB, zG, zC, zD, zN] at hb) <;> (try exact zQ))
 refine wl ?_
 exact zX
theorem Y0D (m n : Int) (h : (short m && short n) = false) : CtrA Tryz.prog 235 [vI m, vI n] (j0x [vi 0, vi 0, vb false]) := by
 have l : ¬ ((itoa m).length ≤ 9 ∧ (itoa n).length ≤ 9) := by
  intro h2
  simp [short, h2.1, h2.2] at h
 refine j0s _ Tryz.func235 rfl rfl Tryz.ntmps235 rfl fun w Z => ?_
 refine zU ?_
 refine wl ?_
 (first | refine j0f rfl rfl ?_ ?_ | refine j0e rfl rfl ?_ ?_) <;> intro hb <;> (try simp only [zA, zB, zG, zC, zD, zN] at hb) <;> (try exact zQ)
 ·refine wl ?_
  exact zX
 ·refine wl ?_
  (refine j0a rfl ?_ ?_ <;> intro hb <;> (try simp only [zA, zB, zG, zC, zD, zN] at hb) <;> (try exact zQ))
  refine wl ?_
  exact zX
def acc (g : Nat → Int) : Nat → Bool × Nat
 |0 => (false, 0)
 |i + 1 => y0Y (acc g i).1 (acc g i).2 (decide (g i < 0)) (g i).natAbs
def z1k (g : Nat → Int) : Nat → Int
 |0 => 0
 |i + 1 => z1k g i + g i
theorem Q0Y (g : Nat → Int) : ∀ n, sv (acc g n).1 (acc g n).2 = z1k g n
 |0 => rfl
 |n + 1 => by rw [acc, Q1F, Q0Y g n, J0Z, z1k]
theorem Z1b (n : Nat) (g : Nat → Int) (hn : n ≤ 1000000) (hg : ∀ i, i < n → LI 1000 (g i)) (hs : ∀ i, i ≤ n → LI 2000 (z1k g i)) (h : LI 1000 (z1k g n)) : CtrA Tryz.prog 268 [.sl n 1 (fun i _ => vI (g i))] (j0x [vI (z1k g n), vi 0]) := by
 have hw : ∀ i, i ≤ n → nw (acc g i).2 ≤ 232 := fun i hi => Nat.le_trans (y1Z (j := 223) (b := (acc g i).1) (by rw [Q0Y]; exact hs i hi) (by decide)) (by decide)
 have hli := X0d (acc g n).1 (acc g n).2 (by rw [Q0Y]; exact h)
 rw [Q0Y] at hli
 refine j0s _ Tryz.func268 rfl rfl Tryz.ntmps268 rfl fun w Z => ?_
 refine zU ?_
 refine wl ?_
 refine j0j (j0m (is := []) (xs := []) (vs := []) v1M rfl rfl) rfl ?_
 refine j0A (x0R 7 rfl rfl) rfl ?_
 refine wl ?_
 refine j0g (γ := Nat) (fun i => [(4, .own 7 0), (9, .av (.sl n 1 (fun i _ => vI (g i)))), (10, .av (vi n)), (11, .av (vi i))]) (fun i => [(7, .wi (acc g i).1 (nw (acc g i).2) (wd (acc g i).2))]) (fun i => i ≤ n) (fun i => n - i) 0 (Nat.zero_le _) (ent zS ⟨⟨_, rfl, by
  show RLe _ (Res.wi false ((nw 0 : Nat) : Int) (wd 0))
  rw [q0I, Y1m]; exact .refl _⟩, trivial⟩) ?_
 intro i hi
 refine wl ?_
 (refine j0a rfl ?_ ?_ <;> intro hb <;> (try simp only [zA, zB, zG, zC, zD, zN] at hb) <;> (try exact zQ))
 ·have hgi := hg i zO
  have hgn := X0h (j := 112) hgi zE
  have hrd := x0Z (g i) (by
   have := LI.len hgi zE; omega)
  have hpl := Y0Q (acc g i).1 (decide (g i < 0)) (acc g i).2 (g i).natAbs (hw i hi) zO (hw (i + 1) zO)
  refine wl ?_
  refine j0A (j0o [(7, 8)] hrd rfl trivial rfl) rfl ?_
  refine j0z (.trans (q0P 17 8 rfl rfl) (ent (T' := [(15, .own 7 0), (17, .av (wA (decide (g i < 0)) (nw (g i).natAbs) (wd (g i).natAbs))), (4, .own 7 0), (9, .av (.sl n 1 (fun i _ => vI (g i)))), (10, .av (vi n)), (11, .av (vi i))]) (O' := [(7, .wi (acc g i).1 (nw (acc g i).2) (wd (acc g i).2))]) zS zT)) ?_
  refine j0A (j0o [(1000, 7)] hpl rfl ⟨rfl, trivial⟩ rfl) rfl ?_
  refine wl ?_
  exact j0b (i + 1) zO zO (ent zS zT)
 ·obtain rfl : i = n := by omega
  refine wl ?_
  refine j0j (q0l hli rfl ⟨.w rfl rfl, trivial⟩ (z0O [_, _])) rfl ?_
  refine wl ?_
  exact zW
theorem Q0O (m : Int) (hm : LI 1000 m) : CtrA Tryz.prog 234 [vI m] (vI (-m)) := by
 have h1 := k0i m
 have hlen := hm.len zE
 by_cases h0 : m = 0
 ·have e : sgn m = 0 := by unfold sgn; rw [if_pos h0]
  rw [e] at h1
  refine j0s _ Tryz.func234 rfl rfl Tryz.ntmps234 rfl fun w Z => ?_
  refine zU ?_
  refine wl ?_
  exact j0c rfl (.tmp rfl) (congrArg vI zO)
 ·by_cases hn : m < 0
  ·have e : sgn m = -1 := by unfold sgn; rw [if_neg h0, if_pos hn]
   rw [e] at h1
   refine j0s _ Tryz.func234 rfl rfl Tryz.ntmps234 rfl fun w Z => ?_
   refine zU ?_
   refine wl ?_
   refine j0j (x0S 1 rfl rfl rfl (by rw [itoa_neg hn]; simp)) rfl ?_
   refine wl ?_
   have e2 : (itoa m).drop 1 = itoa (-m) := by
    have hneg : ¬ -m < 0 := by omega
    rw [itoa_neg hn, j0E hneg, Int.natAbs_neg]; rfl
   exact j0c rfl (.tmp rfl) (congrArg vS e2)
  ·have e : sgn m = 1 := by unfold sgn; rw [if_neg h0, if_neg hn]
   rw [e] at h1
   refine j0s _ Tryz.func234 rfl rfl Tryz.ntmps234 rfl fun w Z => ?_
   refine zU ?_
   refine wl ?_
   refine j0j (w0Z (l := [45]) (m := itoa m) rfl rfl (by rw [j0E hn]; simp only [List.length_cons, List.length_nil]; omega)) rfl ?_
   refine wl ?_
   have e2 : [45] ++ itoa m = itoa (-m) := by
    have hneg : -m < 0 := by omega
    rw [j0E hn, itoa_neg hneg, Int.natAbs_neg]; rfl
   exact j0c rfl (.tmp rfl) (congrArg vS e2)
theorem Q0l (m n : Int) (hm : LI 1000 m) (hn : LI 1000 n) : CtrA Tryz.prog 226 [.sl 2 1 (fun i _ => vI (two m n i))] (vi 0) :=
 V1B 2 (two m n) zE (fun i hi => by rcases (by omega : i = 0 ∨ i = 1) with rfl | rfl <;> assumption)
theorem z1O (m n : Int) (hm : LI 1000 m) (hn : LI 1000 n) (hs : LI 1000 (m + n)) : CtrA Tryz.prog 205 [vI m, vI n] (j0x [vI (m + n), vi 0]) := by
 have h0 := Q0l m n hm hn
 cases hsm : (short m && short n) with
 |true =>
  rw [Bool.and_eq_true] at hsm
  have h1 := Y0E m n hsm.1 hsm.2
  have b1 := z0f hsm.1
  have b2 := z0f hsm.2
  have h2 := k0c (m + n) zO
  refine j0s _ Tryz.func205 rfl rfl Tryz.ntmps205 rfl fun w Z => ?_
  refine zU ?_
  refine wl ?_
  refine j0j (v0C rfl rfl) rfl ?_
  refine wl ?_
  exact zW
 |false =>
  have h1 := Y0D m n hsm
  have e : z1k (two m n) 2 = m + n := by show 0 + m + n = _; omega
  have h2 := Z1b 2 (two m n) zE (fun i hi => by rcases (by omega : i = 0 ∨ i = 1) with rfl | rfl <;> assumption) (fun i hi => by
   rcases (by omega : i = 0 ∨ i = 1 ∨ i = 2) with rfl | rfl | rfl
   ·exact LI.small (show (0 : Int).natAbs < 10 by decide) zE
   ·have : z1k (two m n) 1 = m := by show 0 + m = _; omega
    rw [this]; exact hm.mono (by decide)
   ·rw [e]; exact hs.mono (by decide)) (by rw [e]; exact hs)
  rw [e] at h2
  refine j0s _ Tryz.func205 rfl rfl Tryz.ntmps205 rfl fun w Z => ?_
  refine zU ?_
  refine wl ?_
  refine j0j (v0C rfl rfl) rfl ?_
  refine wl ?_
  refine j0j (v0C rfl rfl) rfl ?_
  refine wl ?_
  exact zW
theorem Y1c (m n : Int) (hm : LI 1000 m) (hn : LI 1000 n) (hs : LI 1000 (m - n)) : CtrA Tryz.prog 171 [vI m, vI n] (j0x [vI (m - n), vi 0]) := by
 have h0 := Q0l m n hm hn
 have h1 := Q0O n hn
 have h2 := z1O m (-n) hm hn.neg (by rw [← Int.sub_eq_add_neg]; exact hs)
 rw [← Int.sub_eq_add_neg] at h2
 refine j0s _ Tryz.func171 rfl rfl Tryz.ntmps171 rfl fun w Z => ?_
 refine zU ?_
 refine wl ?_
 refine j0j (v0C rfl rfl) rfl ?_
 refine wl ?_
 exact zW
theorem X1Z (m : Int) (hm : LI 1000 m) : CtrA Tryz.prog 220 [vI m] (j0x [vI (-m), vi 0]) := by
 have h0 := w0g m hm
 have h1 := Q0O m hm
 refine j0s _ Tryz.func220 rfl rfl Tryz.ntmps220 rfl fun w Z => ?_
 refine zU ?_
 refine wl ?_
 exact zW
theorem X1l (b b' : Bool) (V W : Nat) : sv (b != b') (V * W) = sv b V * sv b' W := by
 unfold sv
 cases b <;> cases b' <;> simp [Int.mul_neg, Int.neg_mul]
theorem X1Y (m n : Int) (hm : LI 1000 m) (hn : LI 1000 n) (hs : LI 1000 (m * n)) : CtrA Tryz.prog 172 [vI m, vI n] (j0x [vI (m * n), vi 0]) := by
 have h0 := Q0l m n hm hn
 cases hsm : (short m && short n) with
 |true =>
  rw [Bool.and_eq_true] at hsm
  have h1 := Y0E m n hsm.1 hsm.2
  have b1 := z0f hsm.1
  have b2 := z0f hsm.2
  have hmn : -1000000000000000000 ≤ m * n ∧ m * n ≤ 1000000000000000000 := by
   have q1 : m.natAbs * n.natAbs ≤ 1000000000 * 1000000000 := Nat.mul_le_mul zO zO
   rw [← Int.natAbs_mul] at q1
   generalize m * n = p at *
   omega
  have h2 := k0c (m * n) zO
  refine j0s _ Tryz.func172 rfl rfl Tryz.ntmps172 rfl fun w Z => ?_
  refine zU ?_
  refine wl ?_
  refine j0j (v0C rfl rfl) rfl ?_
  refine wl ?_
  exact zW
 |false =>
  have h1 := Y0D m n hsm
  have n1 := X0h (j := 112) hm zE
  have n2 := X0h (j := 112) hn zE
  have r1 := x0Z m (Nat.le_trans (hm.len zE) zE)
  have r2 := x0Z n (Nat.le_trans (hn.len zE) zE)
  have ht := y1n (decide (m < 0)) (decide (n < 0)) m.natAbs n.natAbs zO
  have e := X1l (decide (m < 0)) (decide (n < 0)) m.natAbs n.natAbs
  rw [J0Z, J0Z] at e
  have hl := X0d (decide (m < 0) != decide (n < 0)) (m.natAbs * n.natAbs) (by rw [e]; exact hs)
  rw [e] at hl
  refine j0s _ Tryz.func172 rfl rfl Tryz.ntmps172 rfl fun w Z => ?_
  refine zU ?_
  refine wl ?_
  refine j0j (v0C rfl rfl) rfl ?_
  refine wl ?_
  refine j0A (j0o [(7, 8)] r1 rfl trivial rfl) rfl ?_
  refine j0z (.trans (q0P 32 8 rfl rfl) (ent (T' := [(1, .av (vI n)), (32, .av (wA (decide (m < 0)) (nw m.natAbs) (wd m.natAbs)))]) (O' := []) zS trivial)) ?_
  refine wl ?_
  refine j0A (j0o [(7, 9)] r2 rfl trivial rfl) rfl ?_
  refine j0z (.trans (q0P 34 9 rfl rfl) (ent (T' := [(32, .av (wA (decide (m < 0)) (nw m.natAbs) (wd m.natAbs))), (34, .av (wA (decide (n < 0)) (nw n.natAbs) (wd n.natAbs)))]) (O' := []) zS trivial)) ?_
  refine j0A (j0o [] ht rfl trivial rfl) rfl ?_
  refine j0j (q0l hl rfl ⟨.w rfl rfl, trivial⟩ (z0O [_, _])) rfl ?_
  refine wl ?_
  exact zW
end Go.Proofs.YtfggdokihnopeaaGreatDoor
namespace Go.Na
open Go
theorem W1e {m n : Int} (hn : n ≠ 0) : (m.tmod n ≠ 0 ∧ ¬ (m.tmod n < 0 ↔ n < 0) → m.fdiv n = m.tdiv n - 1 ∧ m.fmod n = m.tmod n + n) ∧ (¬ (m.tmod n ≠ 0 ∧ ¬ (m.tmod n < 0 ↔ n < 0)) → m.fdiv n = m.tdiv n ∧ m.fmod n = m.tmod n) := by
 have h1 := Int.tmod_add_mul_tdiv m n
 have h2 : (m.tmod n).natAbs < n.natAbs := by
  rw [Int.natAbs_tmod]; exact Nat.mod_lt _ (by omega)
 generalize m.tmod n = r at *
 generalize m.tdiv n = q at *
 refine ⟨fun h => j0P (by rw [← h1, Int.sub_mul, Int.mul_comm]; omega) (by omega), fun h => j0P (by rw [← h1, Int.mul_comm]; omega) (by omega)⟩
theorem X1v {m n : Int} (h : -1000000000 < m ∧ m < 1000000000) : -1000000000 < m.tdiv n ∧ m.tdiv n < 1000000000 := by
 have : (m.tdiv n).natAbs ≤ m.natAbs := by rw [Int.natAbs_tdiv]; exact Nat.div_le_self _ _
 omega
theorem X1A {m n : Int} (h : -1000000000 < m ∧ m < 1000000000) : -1000000000 < m.tmod n ∧ m.tmod n < 1000000000 := by
 have : (m.tmod n).natAbs ≤ m.natAbs := by rw [Int.natAbs_tmod]; exact Nat.mod_le _ _
 omega
end Go.Na
namespace Go.Proofs.YtfggdokihnopeaaGreatDoor
open Go Go.Vc Go.RowKit Go.Na Go.Lib
set_option maxHeartbeats 4000000
theorem x1t (m n : Int) (hm : LI 1000 m) (hn : LI 1000 n) (h0 : n ≠ 0) (hsm : short m = true ∧ short n = true) : CtrA Tryz.prog 299 [vI m, vI n] (j0x [vI (m.fdiv n), vI (m.fmod n), vi 0]) := by
 have h00 := Q0l m n hm hn
 have hz := w0c n
 rw [decide_eq_false h0] at hz
 have h1 := Y0E m n hsm.1 hsm.2
 have b1 := z0f hsm.1
 have b2 := z0f hsm.2
 have b3 := X1v (n := n) b1
 have b4 := X1A (n := n) b1
 obtain ⟨k1, k2⟩ := W1e (m := m) h0
 by_cases hc : m.tmod n ≠ 0 ∧ ¬ (m.tmod n < 0 ↔ n < 0)
 ·obtain ⟨e1, e2⟩ := k1 hc
  have w1 := W0s (m.tdiv n - 1) zO
  have w2 := W0s (m.tmod n + n) zO
  rw [e1, e2]
  refine j0s _ Tryz.func299 rfl rfl Tryz.ntmps299 rfl fun w Z => ?_
  refine zU ?_
  refine wl ?_
  refine j0j (v0C rfl rfl) rfl ?_
  refine wl ?_
  rw [hz]
  refine wl ?_
  have e3 : (!(decide (m.tmod n < 0) == decide (n < 0))) = true := by
   by_cases x1 : m.tmod n < 0 <;> by_cases x2 : n < 0 <;> simp [x1, x2] at hc ⊢
  (first | refine j0f rfl rfl ?_ ?_ | refine j0e rfl rfl ?_ ?_) <;> intro hb <;> (try simp only [zA, zB, zG, zC, zD, zN] at hb) <;> (try exact zQ)
  refine wl ?_
  rw [e3]
  refine wl ?_
  exact zX
 ·obtain ⟨e1, e2⟩ := k2 hc
  have w1 := W0s (m.tdiv n) zO
  have w2 := W0s (m.tmod n) zO
  rw [e1, e2]
  refine j0s _ Tryz.func299 rfl rfl Tryz.ntmps299 rfl fun w Z => ?_
  refine zU ?_
  refine wl ?_
  refine j0j (v0C rfl rfl) rfl ?_
  refine wl ?_
  rw [hz]
  refine wl ?_
  by_cases hr0 : m.tmod n = 0
  ·(first | refine j0f rfl rfl ?_ ?_ | refine j0e rfl rfl ?_ ?_) <;> intro hb <;> (try simp only [zA, zB, zG, zC, zD, zN] at hb) <;> (try exact zQ)
   refine wl ?_
   exact zX
  ·have e3 : (!(decide (m.tmod n < 0) == decide (n < 0))) = false := by
    by_cases x1 : m.tmod n < 0 <;> by_cases x2 : n < 0 <;> simp [x1, x2, hr0] at hc ⊢
   (first | refine j0f rfl rfl ?_ ?_ | refine j0e rfl rfl ?_ ?_) <;> intro hb <;> (try simp only [zA, zB, zG, zC, zD, zN] at hb) <;> (try exact zQ)
   refine wl ?_
   rw [e3]
   refine wl ?_
   exact zX
theorem X1s : Tryz.prog.built 297 [(0, .bool true), (1, .int .i64 1)] = some (wvs 232 true 1 (fun _ => 0)).toArray := by kernel_rfl
theorem X1X : upd (fun _ => 0) 0 1 = wd 1 := by
 funext i
 unfold upd
 cases i with
 |zero => rfl
 |succ i =>
  rw [if_neg (by omega), v0i]
  have : nw 1 = 1 := by rw [z0s (by decide), Q0N.2 (by decide)]
  omega
theorem z1a : nw 1 = 1 := by rw [z0s (by decide), Q0N.2 (by decide)]
theorem x1s (m n : Int) (hm : LI 1000 m) (hn : LI 1000 n) (h0 : n ≠ 0) (hsm : (short m && short n) = false) : CtrA Tryz.prog 299 [vI m, vI n] (j0x [vI (m.fdiv n), vI (m.fmod n), vi 0]) := by
 have h00 := Q0l m n hm hn
 have hz := w0c n
 rw [decide_eq_false h0] at hz
 have h1 := Y0D m n hsm
 have n1 := X0h (j := 112) hm zE
 have n2 := X0h (j := 112) hn zE
 have r1 := x0Z m (Nat.le_trans (hm.len zE) zE)
 have r2 := x0Z n (Nat.le_trans (hn.len zE) zE)
 have hN0 : n.natAbs ≠ 0 := by omega
 have hd := K0H (decide (m < 0)) (decide (n < 0)) m.natAbs n.natAbs zO zO hN0
 have hnq : nw (m.natAbs / n.natAbs) ≤ 112 := Nat.le_trans (v0s (Nat.div_le_self _ _)) n1
 have hnr : nw (m.natAbs % n.natAbs) ≤ 112 := Nat.le_trans (v0s (Nat.mod_le _ _)) n1
 have hdm := Nat.div_add_mod m.natAbs n.natAbs
 have hrl : m.natAbs % n.natAbs < n.natAbs := Nat.mod_lt _ zO
 have hms := J0Z m
 have hns := J0Z n
 generalize m.natAbs / n.natAbs = Q at *
 generalize m.natAbs % n.natAbs = R at *
 generalize hM : m.natAbs = M at *
 generalize hNn : n.natAbs = Nn at *
 generalize decide (m < 0) = bm at *
 generalize decide (n < 0) = bn at *
 refine j0s _ Tryz.func299 rfl rfl Tryz.ntmps299 rfl fun w Z => ?_
 refine zU ?_
 refine wl ?_
 refine j0j (v0C rfl rfl) rfl ?_
 refine wl ?_
 rw [hz]
 refine wl ?_
 refine j0A (j0o [(7, 18)] r1 rfl trivial rfl) rfl ?_
 refine j0z (.trans (q0P 60 18 rfl rfl) (ent (T' := [(1, .av (vI n)), (60, .av (wA bm (nw M) (wd M)))]) (O' := []) zS trivial)) ?_
 refine wl ?_
 refine j0A (j0o [(7, 19)] r2 rfl trivial rfl) rfl ?_
 refine j0z (.trans (q0P 62 19 rfl rfl) (ent (T' := [(60, .av (wA bm (nw M) (wd M))), (62, .av (wA bn (nw Nn) (wd Nn)))]) (O' := []) zS trivial)) ?_
 refine wl ?_
 refine j0A (j0o [] hd rfl trivial rfl) rfl ?_
 refine j0j (j0V (s := .tupC [.own 7 0, .own 8 0]) rfl) rfl ?_
 refine wl ?_
 have hRn : 0 < nw R ↔ R ≠ 0 := by
  have := Q0N (V := R)
  omega
 have hmag : m = sv bm (Nn * Q + R) := by rw [← hms, hdm]
 by_cases hc : R ≠ 0 ∧ bm ≠ bn
 ·obtain ⟨hR, hb⟩ := hc
  have e4 : (!(bm == bn)) = true := by simp [hb]
  rw [e4]
  have p1 : y0Y true Q true 1 = (true, Q + 1) := by unfold y0Y; rw [if_pos rfl]
  have p2 : y0Y bm R bn Nn = (bn, Nn - R) := by unfold y0Y; rw [if_neg hb, if_neg (by omega)]
  have nq1 : nw (Q + 1) ≤ 113 := by
   refine Y0r ?_
   have := Nat.lt_of_lt_of_le (v0P Q) (Nat.pow_le_pow_right (show 0 < 1000000000 by decide) hnq)
   rw [show (113 : Nat) = 112 + 1 by rfl, Nat.pow_succ]
   omega
  have nr1 : nw (Nn - R) ≤ 112 := Nat.le_trans (v0s (Nat.sub_le _ _)) n2
  have c1 := Y0Q true true Q 1 (by omega) (by rw [z1a]; decide) (by rw [p1]; show nw (Q + 1) ≤ 232; omega)
  have c2 := Y0Q bm bn R Nn (by omega) (by omega) (by rw [p2]; show nw (Nn - R) ≤ 232; omega)
  rw [p1] at c1
  rw [p2] at c2
  have t1 := z0j true (Q + 1) zO
  have t2 := z0j bn (Nn - R) zO
  have hv := j0P (m := m) (n := n) (q := sv true (Q + 1)) (r := sv bn (Nn - R)) (by
   rw [hmag, ← hns]
   unfold sv
   have hcast : ((Nn - R : Nat) : Int) = Nn - R := by omega
   cases bm <;> cases bn <;> simp at hb ⊢ <;> rw [hcast] <;> grind) (by
   rw [← hns]
   unfold sv
   cases bn <;> simp <;> omega)
  obtain ⟨v1, v2⟩ := hv
  (first | refine j0f rfl rfl ?_ ?_ | refine j0e rfl rfl ?_ ?_) <;> intro hb <;> (try simp only [zA, zB, zG, zC, zD, zN] at hb) <;> (try exact zQ)
  refine wl ?_
  rw [e4]
  refine wl ?_
  refine j0j (j0m (is := [0, 1]) (xs := [_, _]) (vs := [.bool true, .int .i64 1]) X1s rfl rfl) rfl ?_
  refine j0A (x0R 19 rfl rfl) rfl ?_
  refine wl ?_
  refine q0U (x0y 0 rfl rfl rfl rfl zE) ?_
  refine wl ?_
  refine j0z (.trans (J1v 19 (n' := ((nw 1 : Nat) : Int)) (f' := wd 1) rfl rfl (by rw [z1a]; rfl) X1X) (.trans (q0P 114 19 rfl rfl) (ent (T' := [(113, .own 7 0), (114, .av (wA true (nw 1) (wd 1))), (14, .av (wA bn (nw Nn) (wd Nn))), (15, .own 7 0), (16, .own 8 0)]) (O' := [(7, .wi true (nw Q) (wd Q)), (8, .wi bm (nw R) (wd R))]) zS zT))) ?_
  refine j0A (j0o [(1000, 7)] c1 rfl ⟨rfl, trivial⟩ rfl) rfl ?_
  refine wl ?_
  refine j0A (j0o [(1000, 8)] c2 rfl ⟨rfl, trivial⟩ rfl) rfl ?_
  refine wl ?_
  refine j0j (q0l t1 rfl ⟨.w rfl rfl, trivial⟩ (q0C _)) rfl ?_
  refine wl ?_
  refine j0j (q0l t2 rfl ⟨.w rfl rfl, trivial⟩ (q0C _)) rfl ?_
  refine wl ?_
  exact j0t (rvs := [_, _, _]) (τs := [_, _, _]) rfl rfl ⟨.tmp rfl, .tmp rfl, .tmp rfl, trivial⟩ (by rw [v1, v2])
 ·have hv := j0P (m := m) (n := n) (q := sv (!(bm == bn)) Q) (r := sv bm R) (by
   rw [hmag, ← hns]
   unfold sv
   cases bm <;> cases bn <;> simp at hc ⊢ <;> grind) (by
   rw [← hns]
   unfold sv
   cases bm <;> cases bn <;> simp at hc ⊢ <;> omega)
  obtain ⟨v1, v2⟩ := hv
  have t1 := z0j (!(bm == bn)) Q zO
  have t2 := z0j bm R zO
  by_cases hR : R = 0
  ·(first | refine j0f rfl rfl ?_ ?_ | refine j0e rfl rfl ?_ ?_) <;> intro hb <;> (try simp only [zA, zB, zG, zC, zD, zN] at hb) <;> (try exact zQ)
   refine wl ?_
   refine j0j (q0l t1 rfl ⟨.w rfl rfl, trivial⟩ (q0C _)) rfl ?_
   refine wl ?_
   refine j0j (q0l t2 rfl ⟨.w rfl rfl, trivial⟩ (q0C _)) rfl ?_
   refine wl ?_
   exact j0t (rvs := [_, _, _]) (τs := [_, _, _]) rfl rfl ⟨.tmp rfl, .tmp rfl, .tmp rfl, trivial⟩ (by rw [v1, v2])
  ·have e4 : (!(bm == bn)) = false := by
    simp at hc
    simp [hc hR]
   rw [e4] at t1 v1 ⊢
   (first | refine j0f rfl rfl ?_ ?_ | refine j0e rfl rfl ?_ ?_) <;> intro hb <;> (try simp only [zA, zB, zG, zC, zD, zN] at hb) <;> (try exact zQ)
   refine wl ?_
   rw [e4]
   refine wl ?_
   refine j0j (q0l t1 rfl ⟨.w rfl rfl, trivial⟩ (q0C _)) rfl ?_
   refine wl ?_
   refine j0j (q0l t2 rfl ⟨.w rfl rfl, trivial⟩ (q0C _)) rfl ?_
   refine wl ?_
   exact j0t (rvs := [_, _, _]) (τs := [_, _, _]) rfl rfl ⟨.tmp rfl, .tmp rfl, .tmp rfl, trivial⟩ (by rw [v1, v2])
theorem w1q (m n : Int) (hm : LI 1000 m) (hn : LI 1000 n) (h0 : n ≠ 0) : CtrA Tryz.prog 299 [vI m, vI n] (j0x [vI (m.fdiv n), vI (m.fmod n), vi 0]) := by
 cases hsm : (short m && short n) with
 |true => exact x1t m n hm hn h0 (by rwa [Bool.and_eq_true] at hsm)
 |false => exact x1s m n hm hn h0 hsm
theorem z1Q (m n : Int) (hm : LI 1000 m) (hn : LI 1000 n) (h0 : n ≠ 0) (hq : LI 1000 (m.fdiv n)) : CtrA Tryz.prog 233 [vI m, vI n] (j0x [vI (m.fdiv n), vi 0]) := by
 have h1 := w1q m n hm hn h0
 have h2 := w0g _ hq
 refine j0s _ Tryz.func233 rfl rfl Tryz.ntmps233 rfl fun w Z => ?_
 refine zU ?_
 refine wl ?_
 exact zW
end Go.Proofs.YtfggdokihnopeaaGreatDoor
