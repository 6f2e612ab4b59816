/- A part of the proof. -/
import Derived.Calls
import Derived.Sort.Grow
import Derived.Test.YtfggdokihnopeaaGreatDoorBaj
import Derived.Test.YtfggdokihnopeaaGreatDoorBao
set_option linter.unusedVariables false
set_option linter.unusedSimpArgs false
namespace Go.Proofs.YtfggdokihnopeaaGreatDoor.H
open Go Go.Vc Go.Na
def onD (l : List Tr) (n : Tr) (m : Int) (k : Nat) : List Nat := (List.range k).filter fun j => decide (w0z n (gt l j) = m)
theorem W0y (l : List Tr) (n : Tr) (m : Int) (k : Nat) : onD l n m (k + 1) = if w0z n (gt l k) = m then onD l n m k ++ [k] else onD l n m k := by
 unfold onD
 rw [List.range_succ, List.filter_append]
 by_cases h : w0z n (gt l k) = m <;> simp [h]
theorem Z0m (l : List Tr) (n : Tr) (m : Int) (k : Nat) : (onD l n m k).length ≤ k := by
 have := List.length_filter_le (fun j => decide (w0z n (gt l j) = m)) (List.range k)
 simpa [onD] using this
theorem W0U {l : List Tr} {k a b c : Nat} (hk : k < 3) (hn : cz (nvP (gt l a) (gt l b) (gt l c)) k ≠ 0) {i : Nat} (hi : i < l.length) (h : w0z (nP l k a b c) (gt l i) < mP l k a b c) : thr l k a b c = none := by
 unfold thr mkP
 rw [if_neg hn, if_pos]
 unfold V1e
 rw [List.any_eq_true]
 exact ⟨i, List.mem_range.2 hi, decide_eq_true ((y0s hk hn _).1.2 h)⟩
theorem W0V {l : List Tr} {k a b c : Nat} (hk : k < 3) (hn : cz (nvP (gt l a) (gt l b) (gt l c)) k ≠ 0) (h : ∀ i, i < l.length → mP l k a b c ≤ w0z (nP l k a b c) (gt l i)) :
  thr l k a b c = some ⟨aP l k a b c, bP l k a b c, cP l k a b c, onD l (nP l k a b c) (mP l k a b c) l.length⟩ := by
 unfold thr mkP
 rw [if_neg hn, if_neg]
 ·have : onL l k (aP l k a b c) (bP l k a b c) (cP l k a b c) l.length = onD l (nP l k a b c) (mP l k a b c) l.length := by
   unfold onL onD
   exact List.filter_congr fun i _ => decide_eq_decide.2 (y0s hk hn _).2
  rw [this]
 ·unfold V1e
  rw [Bool.not_eq_true, List.any_eq_false]
  intro i hi
  have := h i (List.mem_range.1 hi)
  rw [decide_eq_true_eq, (y0s hk hn _).1]
  omega
theorem W0W {l : List Tr} {k a b c : Nat} (hn : cz (nvP (gt l a) (gt l b) (gt l c)) k = 0) : thr l k a b c = none := by
 unfold thr; rw [if_pos hn]
end Go.Proofs.YtfggdokihnopeaaGreatDoor.H
namespace Go.Proofs.YtfggdokihnopeaaGreatDoor.H
open Go Go.Vc Go.RowKit Go.Na Go.Lib
set_option maxHeartbeats 4000000
theorem x0c (n d : Int) (hn : -9000000000000000000 ≤ n ∧ n ≤ 9000000000000000000) (hd : -9000000000000000000 ≤ d ∧ d ≤ 9000000000000000000) (h0 : d ≠ 0) : CtrA Tryz.prog 199 [vi n, vi d] (j0B [vR (Rat.divInt n d), vi 0]) := by
 have h1 := X0h n zO
 have h2 := X0h d zO
 have l : ∀ x : Int, -9000000000000000000 ≤ x ∧ x ≤ 9000000000000000000 → LI 1000 x := fun x hx => LI.mono (k := 19) (show x.natAbs < 10 ^ 19 by omega) zE
 have h3 := y1R n d (l n hn) (l d hd) h0
 refine j0r _ Tryz.func199 rfl rfl Tryz.ntmps199 rfl fun w Z => ?_
 refine zU ?_
 refine wt ?_
 exact zW
def tpf (n : Tr) : Nat → AV := fun i => match i with | 0 => vi n.x | 1 => vi n.y | _ => vi n.z
theorem V0c (n p : Tr) (hn : BT 1000000000000 n) (hp : BT 100000 p) : CtrA Tryz.prog 197 [tp p, .ptr 3 (tpf n)] (vi (w0z n p)) := by
 have h := V0Y p
 obtain ⟨m1, n1⟩ := q0z hn.x hp.x
 obtain ⟨m2, n2⟩ := q0z hn.y hp.y
 obtain ⟨m3, n3⟩ := q0z hn.z hp.z
 refine j0r _ Tryz.func197 rfl rfl Tryz.ntmps197 rfl fun w Z => ?_
 refine zU ?_
 refine wt ?_
 exact zV
theorem j1u : Tryz.prog.built 69 [] = some #[.int .i64 0, .string (bs []), .string (bs []), .string (bs []), .slice none 0 0] := by kernel_rfl
theorem W1a (k : Int) : Tryz.prog.built 69 [(0, .int .i64 k)] = some #[.int .i64 k, .string (bs []), .string (bs []), .string (bs []), .slice none 0 0] := by kernel_rfl
theorem z0f (n : Int) (p : Option Addr) : Tryz.prog.built 266 [(0, .pointer p), (1, .int .i64 n)] = some #[.pointer p, .int .i64 n] := by kernel_rfl
theorem x1f (n1 n2 n3 : Int) (p1 p2 p3 : Option Addr) (w : World) : (Instr.buildSlice 267 3 #[(0, .agg #[.pointer p1, .int .i64 n1]), (1, .agg #[.pointer p2, .int .i64 n2]), (2, .agg #[.pointer p3, .int .i64 n3])]).run Tryz.prog w = .ok (.slice (some ⟨w.heap.size, 0, none⟩) 3 3) (w.alloc (.cells #[.pointer p1, .int .i64 n1, .pointer p2, .int .i64 n2, .pointer p3, .int .i64 n3] 266)) := by kernel_rfl
abbrev pZ : AV := .val (.agg #[.int .i64 0, .string (bs []), .string (bs []), .string (bs []), .slice none 0 0])
def pAf (k : Int) (a b c : List UInt8) (s : AV) : Nat → AV := fun i => match i with | 0 => vi k | 1 => vS a | 2 => vS b | 3 => vS c | _ => s
abbrev pA (k : Int) (a b c : List UInt8) (s : AV) : AV := .agg 5 (pAf k a b c s)
theorem x0C (k : Int) (a b c : List UInt8) (l : List Nat) : ∀ i, i < 5 → (pAf k a b c (idx l) i).one = true := by
 intro i hi
 rcases (by omega : i = 0 ∨ i = 1 ∨ i = 2 ∨ i = 3 ∨ i = 4) with rfl | rfl | rfl | rfl | rfl <;> rfl
abbrev pR (k : Int) (P : Pl) : AV := pA k (rtx P.A) (rtx P.B) (rtx P.C) (idx P.s)
theorem BT.neg {A : Int} {n : Tr} (h : BT A n) : BT A ⟨-n.x, -n.y, -n.z⟩ := ⟨⟨by have := h.x; show -A ≤ -n.x; omega, by have := h.x; show -n.x ≤ A; omega⟩, ⟨by have := h.y; show -A ≤ -n.y; omega, by have := h.y; show -n.y ≤ A; omega⟩, ⟨by have := h.z; show -A ≤ -n.z; omega, by have := h.z; show -n.z ≤ A; omega⟩⟩
theorem BT.nv {a b c : Tr} (h1 : BT 100000 a) (h2 : BT 100000 b) (h3 : BT 100000 c) : BT 80000000000 (nvP a b c) := ((h2.sub h1).cr (h3.sub h1)).le (by decide)
theorem BT.np {l : List Tr} (hl : RT l) (k a b c : Nat) : BT 80000000000 (nP l k a b c) := by
 unfold nP upP
 split
 ·exact (BT.nv (hl a) (hl b) (hl c)).neg
 ·exact BT.nv (hl a) (hl b) (hl c)
abbrev at3 (a b c : Nat) : AV := .val (.agg #[.int .i64 a, .int .i64 b, .int .i64 c])
theorem BT.sq {A : Int} {n : Tr} (h : BT A n) : ((-A ≤ n.x ∧ n.x ≤ A) ∧ (-A ≤ n.y ∧ n.y ≤ A)) ∧ (-A ≤ n.z ∧ n.z ≤ A) := ⟨⟨h.x, h.y⟩, h.z⟩
def k1e (k : Int) (A B C : Rat) : Nat → List SV
 |0 => [.av (vi k), .av (vS []), .av (vS []), .av (vS []), .osl 20]
 |1 => [.av (vi k), .av (vR A), .av (vS []), .av (vS []), .osl 20]
 |2 => [.av (vi k), .av (vR A), .av (vR B), .av (vS []), .osl 20]
 |_ => [.av (vi k), .av (vR A), .av (vR B), .av (vR C), .osl 20]
def Z1O (k : Int) : Option Pl → AV
 |none => j0B [pZ, vb false, vi 0]
 |some P => j0B [pR k P, vb true, vi 0]
theorem j1v (l : List Tr) (hl : RT l) (a b c : Nat) (ha : a < l.length) (hb' : b < l.length) (hc : c < l.length) (hn : l.length ≤ 1000) : CtrA Tryz.prog 129 [ts l, vi 0, at3 a b c] (Z1O 0 (thr l 0 a b c)) := by
 have h1 := W0w (gt l a) (gt l b) (gt l c) (hl a) (hl b) (hl c)
 refine j0r _ Tryz.func129 rfl rfl Tryz.ntmps129 rfl fun w Z => ?_
 refine zU ?_
 refine wt ?_
 (refine j0a rfl ?_ ?_ <;> intro hb <;> (try simp only [zA, zB, zG, zC, zD, zN] at hb) <;> (try exact zQ))
 ·refine wt ?_
  refine j0j (j0n (t := 69) (is := []) (xs := []) (vs := []) j1u rfl rfl) rfl ?_
  refine wt ?_
  rw [W0W (k := 0) hb]
  exact j0v (rvs := [_, _, _]) (τs := [_, _, _]) rfl rfl ⟨.agg (us := [_, _, _, _, _]) rfl rfl rfl rfl, .tmp rfl, .tmp rfl, trivial⟩ rfl
 have hne : cz (nvP (gt l a) (gt l b) (gt l c)) 0 ≠ 0 := hb
 have hpos : 0 < cz (nP l 0 a b c) 0 := x0M hne
 have hT0 := @W0U l 0 a b c zE hne
 have hT1 := @W0V l 0 a b c zE hne
 have hnb := BT.np hl 0 a b c
 have hmb := q1e hnb (hl a)
 have hnP : nP l 0 a b c = upP 0 (nvP (gt l a) (gt l b) (gt l c)) := rfl
 have hm : mP l 0 a b c = w0z (nP l 0 a b c) (gt l a) := rfl
 have hA : aP l 0 a b c = Rat.divInt (mP l 0 a b c) (nP l 0 a b c).x := rfl
 have hB : bP l 0 a b c = Rat.divInt (-(nP l 0 a b c).y) (nP l 0 a b c).x := rfl
 have hC : cP l 0 a b c = Rat.divInt (-(nP l 0 a b c).z) (nP l 0 a b c).x := rfl
 have hnv := (BT.nv (hl a) (hl b) (hl c)).sq
 obtain ⟨⟨⟨_, _⟩, ⟨_, _⟩⟩, ⟨_, _⟩⟩ := hnv
 rw [hA, hB, hC] at hT1
 rw [← hm] at hmb
 generalize mP l 0 a b c = m at *
 generalize nP l 0 a b c = n at *
 refine wt ?_
 refine q1p [(0, .av (ts l)), (1, .av (vi 0)), (5, .av (.ptr 3 (fun i => .val ([Value.int .i64 a, .int .i64 b, .int .i64 c].getD i Go.undef)))), (6, .own 10 0), (9, .av (.ptr 3 (tpf n)))] [(10, .cells [.av (vi 0), .av (vS []), .av (vS []), .av (vS []), .av (.val (.slice none 0 0))])] ?_ ?_
 ·(refine j0a rfl ?_ ?_ <;> intro hb <;> (try simp only [zA, zB, zG, zC, zD, zN] at hb) <;> (try exact zQ))
  ·have e : n = ⟨-(nvP (gt l a) (gt l b) (gt l c)).x, -(nvP (gt l a) (gt l b) (gt l c)).y, -(nvP (gt l a) (gt l b) (gt l c)).z⟩ := hnP.trans (if_pos hb)
   refine wt ?_
   rw [e]
   exact q0h ((j0A 9 11 (tpf _) rfl rfl rfl).trans (ent zS zT))
  ·have e : n = nvP (gt l a) (gt l b) (gt l c) := hnP.trans (if_neg (by simpa [cz] using hb))
   refine wt ?_
   rw [e]
   exact q0h ((j0A 9 11 (tpf _) rfl rfl rfl).trans (ent zS zT))
 have hd0 := V0c n (gt l a) (hnb.le zE) (hl a)
 rw [← hm] at hd0
 refine wt ?_
 refine j0j (j0n (t := 69) (is := [0]) (xs := [_]) (vs := [_]) (W1a 0) rfl rfl) rfl ?_
 refine wt ?_
 refine j0h (γ := Nat) (fun i => [(0, .av (ts l)), (1, .av (vi 0)), (6, .own 10 0), (9, .av (.ptr 3 (tpf n))), (11, .av (.clo 197 1 (fun i => [AV.ptr 3 (tpf n)].getD i .any))), (12, .av (vi m)), (13, .own 11 0), (74, .av (ts l)), (75, .av (vi l.length)), (76, .av (vi i))])
  (fun i => [(10, .cells [.av (vi 0), .av (vS []), .av (vS []), .av (vS []), .av (.val (.slice none 0 0))]), (11, .cells [.av (vi 0), .av (vS []), .av (vS []), .av (vS []), .osl 20]), (20, .row 3 1 (onD l n m i).length (xf (onD l n m i)))]) (fun i => i ≤ l.length ∧ ∀ j, j < i → m ≤ w0z n (gt l j)) (fun i => l.length - i) 0 ⟨Nat.zero_le _, by omega⟩
  ((w0g (r := 11) (off := 4) 20 3 1 (xf []) rfl rfl rfl).trans (ent zS zT)) ?_
 rintro i ⟨hi, hall⟩
 have hol := Z0m l n m i
 refine wt ?_
 (refine j0a rfl ?_ ?_ <;> intro hb <;> (try simp only [zA, zB, zG, zC, zD, zN] at hb) <;> (try exact zQ))
 ·have hil : i < l.length := by omega
  have hd := V0c n (gt l i) (hnb.le zE) (hl i)
  have hsu := W0y l n m i
  refine wt ?_
  (refine j0a rfl ?_ ?_ <;> intro hb <;> (try simp only [zA, zB, zG, zC, zD, zN] at hb) <;> (try exact zQ))
  ·rw [hT0 hil hb]
   refine wt ?_
   refine j0j (j0n (t := 69) (is := []) (xs := []) (vs := []) j1u rfl rfl) rfl ?_
   refine wt ?_
   exact j0v (rvs := [_, _, _]) (τs := [_, _, _]) rfl rfl ⟨.agg (us := [_, _, _, _, _]) rfl rfl rfl rfl, .tmp rfl, .tmp rfl, trivial⟩ rfl
  ·have hge : m ≤ w0z n (gt l i) := by omega
   refine wt ?_
   (refine j0a rfl ?_ ?_ <;> intro hb <;> (try simp only [zA, zB, zG, zC, zD, zN] at hb) <;> (try exact zQ))
   ·rw [if_pos hb] at hsu
    refine wt ?_
    exact j0b (i + 1) ⟨by omega, v0z hall hge⟩ (by omega) (ent zS ⟨⟨_, rfl, .refl _⟩, ⟨_, rfl, .refl _⟩, ⟨_, rfl, .row (by rw [hsu]) (fun _ _ _ _ => by rw [hsu])⟩, trivial⟩)
   ·rw [if_neg hb] at hsu
    refine wt ?_
    exact j0b (i + 1) ⟨by omega, v0z hall hge⟩ (by omega) (ent zS ⟨⟨_, rfl, .refl _⟩, ⟨_, rfl, .refl _⟩, ⟨_, rfl, .row (by rw [hsu]) (fun _ _ _ _ => by rw [hsu])⟩, trivial⟩)
 have hil : i = l.length := by omega
 subst hil
 rw [hT1 hall]
 obtain ⟨⟨⟨_, _⟩, ⟨_, _⟩⟩, ⟨_, _⟩⟩ := hnb.sq
 have hx0 : 0 < n.x := hpos
 refine wt ?_
 refine q0n (v0d (z0f _) rfl rfl) rfl ?_
 refine wt ?_
 refine q0n (v0d (z0f _) rfl rfl) rfl ?_
 refine wt ?_
 refine q0n (v0d (z0f _) rfl rfl) rfl ?_
 refine wt ?_
 refine x0l (y0q 30 rfl (fun p1 p2 p3 w => x1f _ _ _ p1 p2 p3 w) rfl rfl rfl) rfl rfl ?_
 refine wt ?_
 refine q0n (Y0X rfl rfl) rfl ?_
 refine wt ?_
 have qA := x0c m n.x zO zO zO
 have qB := x0c (-n.y) n.x zO zO zO
 have qC := x0c (-n.z) n.x zO zO zO
 generalize Rat.divInt m n.x = A at *
 generalize Rat.divInt (-n.y) n.x = B at *
 generalize Rat.divInt (-n.z) n.x = C at *
 refine j0h (γ := Nat) (fun i => [(1, .av (vi 0)), (6, .own 10 0), (9, .av (.ptr 3 (tpf n))), (13, .own 11 0), (123, .osl 30), (124, .av (vi 3)), (125, .av (vi i))])
  (fun i => [(30, .srow 266 2 3 [.own 11 1, .av (vi m), .own 11 2, .av (vi (-n.y)), .own 11 3, .av (vi (-n.z))]), (10, .cells [.av (vi 0), .av (vS []), .av (vS []), .av (vS []), .av (.val (.slice none 0 0))]), (11, .cells (k1e 0 A B C i)), (20, .row 3 1 (onD l n m l.length).length (xf (onD l n m l.length)))])
  (fun i => i ≤ 3) (fun i => 3 - i) 0 (Nat.zero_le _) (ent zS zT) ?_
 intro i hi
 match i, hi with
 |0, _ =>
  refine wt ?_
  refine j0j (v0e (k := 0) rfl rfl rfl rfl zO) rfl ?_
  refine wt ?_
  refine j0j (v0f rfl rfl rfl rfl) rfl ?_
  refine wt ?_
  refine q0M (q0J rfl rfl rfl rfl rfl) ?_
  refine wt ?_
  exact j0b 1 zO zO (ent zS zT)
 |1, _ =>
  refine wt ?_
  refine j0j (v0e (k := 1) rfl rfl rfl rfl zO) rfl ?_
  refine wt ?_
  refine j0j (v0f rfl rfl rfl rfl) rfl ?_
  refine wt ?_
  refine q0M (q0J rfl rfl rfl rfl rfl) ?_
  refine wt ?_
  exact j0b 2 zO zO (ent zS zT)
 |2, _ =>
  refine wt ?_
  refine j0j (v0e (k := 2) rfl rfl rfl rfl zO) rfl ?_
  refine wt ?_
  refine j0j (v0f rfl rfl rfl rfl) rfl ?_
  refine wt ?_
  refine q0M (q0J rfl rfl rfl rfl rfl) ?_
  refine wt ?_
  exact j0b 3 zO zO (ent zS zT)
 |3, _ =>
  refine wt ?_
  refine Z0g (j0J 11 20 4 rfl rfl rfl rfl) ?_
  refine j0j (j0l (f := pAf 0 (rtx A) (rtx B) (rtx C) (idx (onD l n m l.length))) rfl rfl rfl) rfl ?_
  refine wt ?_
  refine q0M (j0t rfl rfl (x0C _ _ _ _ _) rfl rfl) ?_
  refine wt ?_
  exact j0v (rvs := [_, _, _]) (τs := [_, _, _]) rfl rfl ⟨.aggv (f := pAf 0 (rtx A) (rtx B) (rtx C) (idx (onD l n m l.length))) rfl rfl rfl, .tmp rfl, .tmp rfl, trivial⟩ rfl
 |_ + 4, h => omega
def q1o (a b c : Int) : Int := if a ≠ 0 then a else if b ≠ 0 then b else if c ≠ 0 then c else 0
theorem w1T (a b : ByteArray) : Tryz.prog.built 271 [(0, .string a), (1, .string b)] = some #[.string a, .string b] := by kernel_rfl
theorem Y1Z (a b c d e f : ByteArray) : Tryz.prog.built 272 [(0, .agg #[.string a, .string b]), (1, .agg #[.string c, .string d]), (2, .agg #[.string e, .string f])] = some #[.string a, .string b, .string c, .string d, .string e, .string f] := by kernel_rfl
theorem W1l (a b c d e f : ByteArray) (w : World) : (Instr.index 272 (.agg #[.string a, .string b, .string c, .string d, .string e, .string f]) (.int .i64 0)).run Tryz.prog w = .ok (.agg #[.string a, .string b]) w := by kernel_rfl
theorem W1m (a b c d e f : ByteArray) (w : World) : (Instr.index 272 (.agg #[.string a, .string b, .string c, .string d, .string e, .string f]) (.int .i64 1)).run Tryz.prog w = .ok (.agg #[.string c, .string d]) w := by kernel_rfl
theorem W1n (a b c d e f : ByteArray) (w : World) : (Instr.index 272 (.agg #[.string a, .string b, .string c, .string d, .string e, .string f]) (.int .i64 2)).run Tryz.prog w = .ok (.agg #[.string e, .string f]) w := by kernel_rfl
theorem y0C (k1 k2 : Int) (A B C A' B' C' : Rat) (s s' : AV) (hA : LR 400 A) (hB : LR 400 B) (hC : LR 400 C) (hA' : LR 400 A') (hB' : LR 400 B') (hC' : LR 400 C') :
  CtrA Tryz.prog 131 [pA k1 (rtx A) (rtx B) (rtx C) s, pA k2 (rtx A') (rtx B') (rtx C') s'] (vi (q1o (rsg (A - A')) (rsg (B - B')) (rsg (C - C')))) := by
 have h1 := v0X A A' hA hA'
 have h2 := v0X B B' hB hB'
 have h3 := v0X C C' hC hC'
 generalize rsg (A - A') = a at *
 generalize rsg (B - B') = b at *
 generalize rsg (C - C') = c at *
 refine j0r _ Tryz.func131 rfl rfl Tryz.ntmps131 rfl fun w Z => ?_
 refine zU ?_
 refine wt ?_
 refine j0j (j0n (t := 271) (is := [0, 1]) (xs := [_, _]) (vs := [_, _]) (w1T _ _) rfl rfl) rfl ?_
 refine wt ?_
 refine j0j (j0n (t := 271) (is := [0, 1]) (xs := [_, _]) (vs := [_, _]) (w1T _ _) rfl rfl) rfl ?_
 refine wt ?_
 refine j0j (j0n (t := 271) (is := [0, 1]) (xs := [_, _]) (vs := [_, _]) (w1T _ _) rfl rfl) rfl ?_
 refine wt ?_
 refine j0j (j0n (t := 272) (is := [0, 1, 2]) (xs := [_, _, _]) (vs := [_, _, _]) (Y1Z _ _ _ _ _ _) rfl rfl) rfl ?_
 refine wt ?_
 refine j0h (γ := Nat) (fun i => [(24, .av (.val (.agg #[.string (bs (rtx A)), .string (bs (rtx A')), .string (bs (rtx B)), .string (bs (rtx B')), .string (bs (rtx C)), .string (bs (rtx C'))]))), (25, .av (vi i))]) (fun _ => []) (fun i => i ≤ 3 ∧ (0 < i → a = 0) ∧ (1 < i → b = 0) ∧ (2 < i → c = 0)) (fun i => 3 - i) 0 ⟨by omega, by omega, by omega, by omega⟩ (ent zS trivial) ?_
 rintro i ⟨hi, q1, q2, q3⟩
 match i, hi, q1, q2, q3 with
 |0, _, q1, q2, q3 =>
  refine wt ?_
  refine j0j (q0m (W1l _ _ _ _ _ _) rfl rfl) rfl ?_
  refine wt ?_
  (refine j0a rfl ?_ ?_ <;> intro hb <;> (try simp only [zA, zB, zG, zC, zD, zN] at hb) <;> (try exact zQ))
  ·refine wt ?_
   exact j0c rfl (.tmp rfl) (congrArg vi (by unfold q1o; rw [if_pos hb]))
  ·refine wt ?_
   exact j0b 1 ⟨by omega, fun _ => hb, fun h => by omega, fun h => by omega⟩ zO (ent zS trivial)
 |1, _, q1, q2, q3 =>
  refine wt ?_
  refine j0j (q0m (W1m _ _ _ _ _ _) rfl rfl) rfl ?_
  refine wt ?_
  (refine j0a rfl ?_ ?_ <;> intro hb <;> (try simp only [zA, zB, zG, zC, zD, zN] at hb) <;> (try exact zQ))
  ·refine wt ?_
   exact j0c rfl (.tmp rfl) (congrArg vi (by unfold q1o; rw [if_neg (fun h => h (q1 (by omega))), if_pos hb]))
  ·refine wt ?_
   exact j0b 2 ⟨by omega, fun _ => q1 zO, fun _ => hb, fun h => by omega⟩ zO (ent zS trivial)
 |2, _, q1, q2, q3 =>
  refine wt ?_
  refine j0j (q0m (W1n _ _ _ _ _ _) rfl rfl) rfl ?_
  refine wt ?_
  (refine j0a rfl ?_ ?_ <;> intro hb <;> (try simp only [zA, zB, zG, zC, zD, zN] at hb) <;> (try exact zQ))
  ·refine wt ?_
   exact j0c rfl (.tmp rfl) (congrArg vi (by unfold q1o; rw [if_neg (fun h => h (q1 (by omega))), if_neg (fun h => h (q2 (by omega))), if_pos hb]))
  ·refine wt ?_
   exact j0b 3 ⟨by omega, fun _ => q1 zO, fun _ => q2 zO, fun _ => hb⟩ zO (ent zS trivial)
 |3, _, q1, q2, q3 =>
  refine wt ?_
  exact j0c rfl (.tmp rfl) (congrArg vi (by unfold q1o; rw [if_neg (fun h => h (q1 (by omega))), if_neg (fun h => h (q2 (by omega))), if_neg (fun h => h (q3 (by omega)))]))
 |i + 4, hi, _, _, _ => omega
end Go.Proofs.YtfggdokihnopeaaGreatDoor.H
namespace Go.Vdr
open Go
def RD {α : Type} (d : Nat) : Result α → Prop
 |.ok _ w => d ≤ w.drawn
 |.halt _ w => d ≤ w.drawn
theorem RD.le {α : Type} {c d : Nat} (h : c ≤ d) : ∀ {r : Result α}, RD d r → RD c r
 |.ok _ _, k => Nat.le_trans h k
 |.halt _ _, k => Nat.le_trans h k
theorem j1U {α : Type} : ∀ (a : Ask α) (w : World), w.drawn ≤ (w.ask a).2.drawn
 |.done a, w => Nat.le_refl _
 |.ask what range k, w => by
  unfold World.ask
  dsimp only
  split
  ·exact j1U _ w
  ·exact Nat.le_trans (Nat.le_succ _) (j1U (k _) { w with drawn := w.drawn + 1 })
theorem J1B (w : World) (c : Sys) : w.drawn ≤ (w.sys c).2.drawn := by
 unfold World.sys
 have h := j1U (Kernel.perform c w.os) w
 generalize w.ask (Kernel.perform c w.os) = x at h
 split
 ·exact Nat.le_refl _
 ·exact h
theorem V1I {p : Program} {w w' : World} {at_ : Addr} {u : TypeId} {a : Addr} {v : Value} {b : Bool} {t : List Addr} (h : w.viewStore p at_ u a v b = .ok (w', t)) : w'.drawn = w.drawn := by
 unfold World.viewStore at h
 simp only [bind, Except.bind, pure, Except.pure, throw, throwThe, MonadExceptOf.throw] at h
 repeat' (split at h)
 all_goals first
  |(cases h; rfl)
  |(cases h)
  |skip
theorem z1X {p : Program} {w w' : World} {a : Addr} {v : Value} {b : Bool} {t : List Addr} (h : w.farStore p a v b = .ok (w', t)) : w'.drawn = w.drawn := by
 unfold World.farStore at h
 split at h
 ·split at h
  ·rename_i r hr
   simp only [Except.ok.injEq] at h
   subst h
   exact V1I hr
  ·cases h
 ·cases h
theorem X0B (w : World) (a : Addr) (n : Nat) : (w.freeze a n).drawn = w.drawn := by
 unfold World.freeze; split <;> rfl
theorem v0o {α : Type} (p : Program) : ∀ (m : Sem α) (w : World), RD w.drawn (m.run p w)
 |.pure a, w => Nat.le_refl _
 |.load m a k, w => by
  unfold Sem.run
  split
  ·exact v0o p _ w
  ·split
   ·exact v0o p _ w
   ·exact Nat.le_refl _
 |.store m a v k, w => by
  cases v <;> first
   |exact Nat.le_refl _
   |(simp only [Sem.run]
     split
     · split
       · exact Nat.le_refl _
       · exact v0o p k (w.setCell a _)
     · split
       · rename_i h
         have h1 := z1X h
         exact RD.le (Nat.le_of_eq h1.symm) (v0o p k _)
       · exact Nat.le_refl _)
 |.new o k, w => by
  unfold Sem.run
  exact v0o p (k w.heap.size) { w with heap := w.heap.push o }
 |.shape r k, w => by unfold Sem.run; exact v0o p _ w
 |.freeze a n k, w => by
  unfold Sem.run
  exact RD.le (Nat.le_of_eq (X0B w a n).symm) (v0o p k _)
 |.frozen a k, w => by unfold Sem.run; exact v0o p _ w
 |.getObj r k, w => by
  unfold Sem.run
  split
  ·exact Nat.le_refl _
  ·exact v0o p _ w
  ·exact Nat.le_refl _
 |.setObj r o k, w => by
  unfold Sem.run
  split
  ·exact Nat.le_refl _
  ·exact v0o p k { w with heap := w.heap.setIfInBounds r o }
  ·exact Nat.le_refl _
 |.choose q k, w => by
  unfold Sem.run
  split
  ·exact v0o p _ w
  ·exact RD.le (Nat.le_succ _) (v0o p _ { w with drawn := w.drawn + 1 })
 |.sys c k, w => by
  unfold Sem.run
  exact RD.le (J1B w c) (v0o p _ _)
 |.program k, w => by unfold Sem.run; exact v0o p _ w
 |.mark m k, w => by unfold Sem.run; exact v0o p k w
 |.halt h, w => Nat.le_refl _
theorem q0a {α : Type} (p : Program) : ∀ (m : Sem α) (w : World) (es : Array Event), RD w.drawn (m.runT p w es).1
 |.pure a, w, es => Nat.le_refl _
 |.load m a k, w, es => by
  unfold Sem.runT
  split
  ·exact q0a p _ w _
  ·split
   ·exact q0a p _ w _
   ·exact Nat.le_refl _
 |.store m a v k, w, es => by
  cases v <;> first
   |exact Nat.le_refl _
   |(simp only [Sem.runT]
     split
     · split
       · exact Nat.le_refl _
       · exact q0a p k (w.setCell a _) _
     · split
       · rename_i h
         have h1 := z1X h
         exact RD.le (Nat.le_of_eq h1.symm) (q0a p k _ _)
       · exact Nat.le_refl _)
 |.new o k, w, es => by
  unfold Sem.runT
  exact q0a p (k w.heap.size) { w with heap := w.heap.push o } _
 |.shape r k, w, es => by unfold Sem.runT; exact q0a p _ w _
 |.freeze a n k, w, es => by
  unfold Sem.runT
  exact RD.le (Nat.le_of_eq (X0B w a n).symm) (q0a p k _ _)
 |.frozen a k, w, es => by unfold Sem.runT; exact q0a p _ w _
 |.getObj r k, w, es => by
  unfold Sem.runT
  split
  ·exact Nat.le_refl _
  ·exact q0a p _ w _
  ·exact Nat.le_refl _
 |.setObj r o k, w, es => by
  unfold Sem.runT
  split
  ·exact Nat.le_refl _
  ·exact q0a p k { w with heap := w.heap.setIfInBounds r o } _
  ·exact Nat.le_refl _
 |.choose q k, w, es => by
  unfold Sem.runT
  split
  ·exact q0a p _ w _
  ·exact RD.le (Nat.le_succ _) (q0a p _ { w with drawn := w.drawn + 1 } _)
 |.sys c k, w, es => by
  unfold Sem.runT
  exact RD.le (J1B w c) (q0a p _ _ _)
 |.program k, w, es => by unfold Sem.runT; exact q0a p _ w _
 |.mark m k, w, es => by unfold Sem.runT; exact q0a p k w _
 |.halt h, w, es => Nat.le_refl _
def GD (d : Nat) : GStep → Prop
 |.go _ w _ => d ≤ w.drawn
 |.comm _ _ _ _ w _ => d ≤ w.drawn
 |.spawn _ _ w _ => d ≤ w.drawn
 |.count _ w _ => d ≤ w.drawn
 |.timer _ _ w _ => d ≤ w.drawn
 |.alone _ _ w _ => d ≤ w.drawn
 |.newcoro _ _ _ w _ => d ≤ w.drawn
 |.coroswitch _ _ _ w _ => d ≤ w.drawn
 |.collect _ w _ => d ≤ w.drawn
 |.watch _ w _ => d ≤ w.drawn
 |.ended _ _ _ => True
theorem w0d {d : Nat} {es : Array Event} {s : GStep} (h : GD d s) : GD d (GStep.after es s) := by cases s <;> exact h
theorem GD.le {c d : Nat} (h : c ≤ d) {s : GStep} (k : GD d s) : GD c s := by cases s <;> first | exact Nat.le_trans h k | exact True.intro
theorem x0E {α : Type} {p : Program} {m : Sem α} {w w' : World} {a : α} (h : m.run p w = .ok a w') : w.drawn ≤ w'.drawn := by have := v0o p m w; rw [h] at this; exact this
theorem V1C {α : Type} {p : Program} {m : Sem α} {w w' : World} {a : Halt} (h : m.run p w = .halt a w') : w.drawn ≤ w'.drawn := by have := v0o p m w; rw [h] at this; exact this
theorem Y1D {α : Type} {p : Program} {m : Sem α} {w w' : World} {a : α} {es es' : Array Event} (h : m.runT p w es = (.ok a w', es')) : w.drawn ≤ w'.drawn := by have := q0a p m w es; rw [h] at this; exact this
theorem y1T {α : Type} {p : Program} {m : Sem α} {w w' : World} {a : Halt} {es es' : Array Event} (h : m.runT p w es = (.halt a w', es')) : w.drawn ≤ w'.drawn := by have := q0a p m w es; rw [h] at this; exact this
theorem K0M (d : Nat) (w : World) (fd : Nat) (text : ByteArray) (o : Outcome) : GD d (endWith w fd text o) := by
 unfold endWith
 dsimp only
 split <;> (try split) <;> exact True.intro
theorem v0T (fr : Frame) (m : String) (w : World) : GD w.drawn (endThrow fr m w) := Nat.le_refl _
theorem y0a (p : Program) (fr : Frame) (v : Value) (w : World) : GD w.drawn (endPrinting p fr v w) := by
 unfold endPrinting
 dsimp only
 split
 ·exact v0T _ _ _
 ·exact True.intro
theorem J0U (p : Program) (fr : Frame) (callers : List Frame) (dying : Option Dying) (m : String) (w : World) : GD w.drawn (endFatal p fr callers dying m w) := by
 unfold endFatal
 dsimp only
 split
 ·rename_i h
  exact x0E h
 ·exact True.intro
 ·exact True.intro
theorem j1D (p : Program) (fr : Frame) (d : Dying) (f : Fatal) (w : World) : GD w.drawn (writeOn p fr d f w) := by
 unfold writeOn
 dsimp only
 split
 ·exact True.intro
 ·split
  ·rename_i h; exact Y1D h
  ·rename_i h; exact y1T h
  ·exact True.intro
  ·exact True.intro
theorem X1r (p : Program) (fr : Frame) (d : Dying) (w : World) : GD w.drawn (die p fr d w) := by
 unfold die
 split
 ·exact j1D _ _ _ _ _
 ·split
  ·split
   ·exact Nat.le_refl _
   ·exact K0M _ _ _ _ _
  ·dsimp only
   split
   ·exact Nat.le_refl _
   ·split
    ·rename_i h; exact x0E h
    ·exact True.intro
   ·have hd := q0a p (invoke (.fn (.method ‹String›) #[]) #[.iface ‹TypeId› ‹Value›]) w #[]
    refine w0d ?_
    split
    ·rename_i h; rw [h] at hd; exact hd
    ·rename_i h; rw [h] at hd; exact hd
    ·exact True.intro
    ·rename_i h; rw [h] at hd; exact GD.le hd (y0a _ _ _ _)
    ·exact True.intro
   ·exact True.intro
theorem y0j (p : Program) (main : Bool) (fr : Frame) (callers : List Frame) (dying : Option Dying) (v : Value) (w : World) : GD w.drawn (doReturn p main fr callers dying v w) := by
 unfold doReturn
 split
 ·split <;> exact Nat.le_refl _
 ·split
  ·exact Nat.le_refl _
  ·exact True.intro
  ·split
   ·exact Nat.le_refl _
   ·split
    ·exact Nat.le_refl _
    ·exact True.intro
theorem Z0M {c : Prop} [Decidable c] {d : Nat} {a b : GStep} (h1 : c → GD d a) (h2 : ¬ c → GD d b) : GD d (if c then a else b) := by
 split
 ·exact h1 (by assumption)
 ·exact h2 (by assumption)
theorem J0E (p : Program) (fr : Frame) (callers : List Frame) (dying : Option Dying) (d : Deferred) (w : World) : GD w.drawn (callDeferred p fr callers dying d w) := by
 unfold callDeferred
 refine Z0M (fun _ => True.intro) (fun _ => ?_)
 ·dsimp only
  have hd := q0a p (invoke d.target d.args) w #[]
  refine w0d ?_
  split <;> (rename_i h; rw [h] at hd) <;> first
   |exact hd
   |exact True.intro
   |exact GD.le hd (J0U _ _ _ _ _ _)
   |exact GD.le hd (v0T _ _ _)
   |(split <;> exact hd)
theorem x1l (p : Program) (main : Bool) (fr : Frame) (callers : List Frame) (dying : Option Dying) (w : World) : GD w.drawn (unwind p main fr callers dying w) := by
 unfold unwind
 split
 ·rename_i block ds _
  have hd := q0a p (Instr.takeDeferred ‹Nat›) w #[]
  dsimp only
  refine w0d ?_
  split
  ·rename_i h; rw [h] at hd; exact hd
  ·exact True.intro
 ·exact J0E _ _ _ _ _ _
 ·split
  ·exact True.intro
  ·split
   ·exact True.intro
   ·split
    ·exact Nat.le_refl _
    ·split
     ·split
      ·exact Nat.le_refl _
      ·split
       ·rename_i h; exact x0E h
       ·exact True.intro
       ·exact True.intro
     ·split
      ·exact y0a _ _ _ _
      ·exact True.intro
  ·split
   ·exact y0j _ _ _ _ _ _ _
   ·rename_i fn _
    have hd := q0a p (results fn fr.tmps) w #[]
    dsimp only
    refine w0d ?_
    split
    ·rename_i h; rw [h] at hd; exact GD.le hd (y0j _ _ _ _ _ _ _)
    ·exact True.intro
    ·exact True.intro
theorem y1i (p : Program) (fr : Frame) (callers : List Frame) (dying : Option Dying) (g : Nat) (w : World) : GD w.drawn (early p fr callers dying g w) := by
 have ny : ∀ w' : World, w.drawn ≤ w'.drawn → GD w.drawn (match w'.heap[g]? with
  |some (.pending c elem) =>
   .go { frame := fr, callers, status := .running, dying } { w' with heap := w'.heap.setIfInBounds g (.cells c elem) }
  |_ => .ended (.stuck "early: the variable does not wait" (fr.pos p)) w') := by
  intro w' h
  split
  ·exact h
  ·exact True.intro
 unfold early
 dsimp only
 split
 ·exact ny w (Nat.le_refl _)
 ·split
  ·exact True.intro
  ·split
   ·exact ny w (Nat.le_refl _)
   ·split
    ·exact ny w (Nat.le_refl _)
    ·split
     ·exact True.intro
     ·exact Nat.le_refl _
     ·exact True.intro
     ·exact ny w (Nat.le_refl _)
     ·split
      ·exact Nat.le_refl _
      ·split
       ·exact ny w (Nat.le_refl _)
       ·split
        ·rename_i h; exact ny _ (x0E h)
        ·rename_i h; exact x0E h
        ·exact True.intro
theorem J0c (p : Program) (b : Bool) (fr : Frame) (callers : List Frame) (dying : Option Dying) (s : Sem Next) (w : World) : GD w.drawn (stepG.apply p b fr callers dying s w) := by
 unfold stepG.apply
 have hd1 := q0a p s w #[]
 have hd2 := v0o p s w
 have hd : RD w.drawn (if b = true then s.runT p w #[] else (s.run p w, #[])).1 := by split <;> assumption
 dsimp only
 generalize (if b = true then s.runT p w #[] else (s.run p w, #[])) = x at hd
 obtain ⟨r, es⟩ := x
 refine w0d ?_
 dsimp only at hd ⊢
 clear hd1 hd2
 cases r with
 |ok n w' =>
  cases n <;> (try dsimp only) <;> first
   |exact hd
   |(split <;> first | exact hd | exact True.intro | exact GD.le hd (v0T _ _ _))
   |(split <;> split <;> exact hd)
 |halt h w' =>
  cases h with
  |unsupported u =>
   cases u <;> (try dsimp only) <;> first
    |exact True.intro
    |exact GD.le hd (y1i _ _ _ _ _ _)
  |fatal m => exact GD.le hd (J0U _ _ _ _ _ _)
  |throw m => exact GD.le hd (v0T _ _ _)
  |_ => first
   |exact hd
   |exact True.intro
theorem V1s (p : Program) (b : Bool) (fr : Frame) (callers : List Frame) (dying : Option Dying) (w : World) : GD w.drawn (stepG.oper p b fr callers dying w) := by
 unfold stepG.oper
 split
 ·exact True.intro
 ·split <;> exact J0c _ _ _ _ _ _ _
theorem v1Z {α : Type} {p : Program} {m : Sem α} {w w' : World} {a : α} {es : Array Event} (h : (m.runT p w es).1 = .ok a w') : w.drawn ≤ w'.drawn := by have := q0a p m w es; rw [h] at this; exact this
theorem v1Y {α : Type} {p : Program} {m : Sem α} {w w' : World} {a : Halt} {es : Array Event} (h : (m.runT p w es).1 = .halt a w') : w.drawn ≤ w'.drawn := by have := q0a p m w es; rw [h] at this; exact this
theorem Y0F {α : Type} {d : Nat} {o : Option α} {a : GStep} {f : α → GStep} (h1 : GD d a) (h2 : ∀ x, GD d (f x)) : GD d (o.elim a f) := by
 cases o
 ·exact h1
 ·exact h2 _
theorem J0s (p : Program) (main : Bool) (fr : Frame) (callers : List Frame) (dying : Option Dying) (jump : Option Code) (w : World) (c : Prop) [Decidable c] (why : String) : GD w.drawn (match fr.roundOf with
   |none => if c then .go { frame := { fr with mode := .returning }, callers, status := .running, dying } w else .ended (.stuck why (fr.pos p)) w
   |some l =>
    let (r, es) := (Instr.endRound l jump).runT p w #[]
    GStep.after (seen p fr.fn es) <| match r with
    |.ok v w => doReturn p main fr callers dying v w
    |.halt _ w => .ended (.stuck "range over a function: no such loop" (fr.pos p)) w) := by
 split
 ·exact Z0M (fun _ => Nat.le_refl _) (fun _ => True.intro)
 ·rename_i l _
  have hd := q0a p (Instr.endRound l jump) w #[]
  dsimp only
  refine w0d ?_
  split
  ·rename_i h; rw [h] at hd; exact GD.le hd (y0j _ _ _ _ _ _ _)
  ·exact True.intro
theorem Q1K (p : Program) (main b : Bool) (fr : Frame) (callers : List Frame) (dying : Option Dying) (w : World) : GD w.drawn (stepG.exec p main b fr callers dying w) := by
 unfold stepG.exec
 dsimp only
 split
 ·exact J0s _ _ _ _ _ _ _ _ _
 ·exact J0s _ _ _ _ _ _ _ _ _
 all_goals first
  |exact Nat.le_refl _
  |exact True.intro
  |exact J0c _ _ _ _ _ _ _
  |skip
 ·split
  ·exact Nat.le_refl _
  ·exact True.intro
 ·exact Y0F (J0s _ _ _ _ _ _ _ _ _) (fun _ => Nat.le_refl _)
 ·exact Y0F (J0s _ _ _ _ _ _ _ _ _) (fun _ => Nat.le_refl _)
 ·refine w0d ?_
  split
  ·rename_i h
   exact GD.le (v1Z h) (J0c _ _ _ _ _ _ _)
  ·exact True.intro
 ·refine w0d ?_
  split
  ·rename_i h
   exact v1Z h
  ·rename_i h
   exact v1Y h
  ·exact True.intro
 ·exact Y0F True.intro (fun _ => J0c _ _ _ _ _ _ _)
 ·refine Z0M (fun _ => Nat.le_refl _) (fun _ => ?_)
  split
  ·rename_i h; exact x0E h
  ·exact True.intro
 ·exact Z0M (fun _ => V1s _ _ _ _ _ _) (fun _ => Nat.le_refl _)
theorem z1e (p : Program) (main b : Bool) (g : Goroutine) (w : World) : GD w.drawn (stepG p main g w b) := by
 unfold stepG
 dsimp only
 split
 ·exact X1r _ _ _ _
 ·exact Q1K _ _ _ _ _ _ _
 ·exact x1l _ _ _ _ _ _
def SD (d : Nat) : Stepped → Prop
 |.next m => d ≤ m.world.drawn
 |.ended _ _ => True
theorem SD.le {c d : Nat} (h : c ≤ d) : ∀ {s : Stepped}, SD d s → SD c s
 |.next _, k => Nat.le_trans h k
 |.ended _ _, _ => True.intro
theorem Y0B {rest : Rest} {cases : Array CommCase} {w w' : World} (h : waitingAt rest cases w = some w') : w.drawn ≤ w'.drawn := by
 unfold waitingAt at h
 split at h
 ·split at h
  ·cases h; exact Nat.le_refl _
  ·cases h
 ·cases h; exact Nat.le_refl _
theorem j1L {c : Prop} [Decidable c] {d : Nat} {a b : Stepped × Array MemOp} (h1 : c → SD d a.1) (h2 : ¬ c → SD d b.1) : SD d (if c then a else b).1 := by
 split
 ·exact h1 (by assumption)
 ·exact h2 (by assumption)
theorem Q1f {c : Prop} [Decidable c] {d : Nat} {a b : Stepped} (h1 : c → SD d a) (h2 : ¬ c → SD d b) : SD d (if c then a else b) := by
 split
 ·exact h1 (by assumption)
 ·exact h2 (by assumption)
theorem Z0N {d : Nat} {fr : Frame} {s : String} {w w' : World} {g : Goroutine} {es : Array Event} (h : d ≤ w.drawn) (h2 : endThrow fr s w = .go g w' es) : d ≤ w'.drawn := by
 have h3 := v0T fr s w
 rw [h2] at h3
 exact Nat.le_trans h h3
theorem Q0P (p : Program) (rest : Rest) (gs : Array Goroutine) (i : Nat) (g : Goroutine) (cases : Array CommCase) (blocking : Bool) (shape : CommShape) (w : World) : SD w.drawn (communicate p rest gs i g cases blocking shape w).1 := by
 unfold communicate
 dsimp only
 refine j1L (fun _ => True.intro) (fun _ => ?_)
 refine j1L (fun _ => ?_) (fun _ => ?_)
 ·refine j1L (fun _ => ?_) (fun _ => Nat.le_refl _)
  split
  ·rename_i h; exact Y0B h
  ·exact True.intro
 ·split
  ·exact True.intro
  ·rename_i h
   have hw := x0E h
   refine SD.le hw ?_
   clear h
   split
   ·split
    ·rename_i h; exact V1C h
    ·exact True.intro
   ·exact Nat.le_refl _
   ·exact Nat.le_refl _
   ·split
    ·exact Nat.le_refl _
    ·split
     ·rename_i h; have h2 := x0E h; exact h2
     ·exact True.intro
   ·exact Nat.le_refl _
   ·exact Nat.le_refl _
   ·exact True.intro
theorem Z0f (p : Program) (gs : Array Goroutine) (rest : Rest) (w : World) : SD w.drawn (look p gs rest w) := by
 unfold look
 split
 ·dsimp only
  split
  ·exact True.intro
  ·split
   ·exact True.intro
   ·split
    ·rename_i h; have h2 := x0E (w := w) h; exact h2
    ·exact True.intro
    ·exact True.intro
 ·exact True.intro
theorem y1h (w : World) (c : Nat) : (drain w c).2.drawn = w.drawn := by
 unfold drain; split <;> rfl
theorem Y0f (m : Machine) (k : Nat) (t : Timer) (a b : Nat) : (retime m k t a b).2.world.drawn = m.world.drawn := by
 unfold retime
 dsimp only
 split
 ·exact y1h _ _
 ·rfl
theorem k0P {m : Machine} {var : Addr} {f : Nat → Timer → Value × Machine} {v : Value} {m' : Machine} (hf : ∀ k t, (f k t).2.world.drawn = m.world.drawn) (h : timerOp.named m var f = .ok (v, m')) : m'.world.drawn = m.world.drawn := by
 unfold timerOp.named at h
 split at h
 ·simp only [Except.ok.injEq] at h
  have := hf ‹Nat› (m.rest.timers.getD ‹Nat› default)
  rw [h] at this
  exact this
 ·cases h
theorem v1F {m m' : Machine} {var : Addr} (h : timerOp.opened m var = some m') : m'.world.drawn = m.world.drawn := by
 unfold timerOp.opened at h
 split at h
 ·split at h
  ·cases h; rfl
  ·cases h
 ·cases h; rfl
theorem j1y {m m' : Machine} {op : TimerOp} {v : Value} (h : timerOp m op = .ok (v, m')) : m'.world.drawn = m.world.drawn := by
 unfold timerOp at h
 split at h
 ·split at h
  ·simp only [Except.ok.injEq, Prod.mk.injEq] at h
   rw [← h.2]; rfl
  ·split at h
   ·split at h
    ·cases h
    ·simp only [Except.ok.injEq, Prod.mk.injEq] at h
     rw [← h.2]
   ·cases h
 ·exact k0P (fun k t => Y0f _ _ _ _ _) h
 ·split at h
  ·rename_i h2
   have e := v1F h2
   exact k0P (fun k t => (Y0f _ _ _ _ _).trans e) h
  ·cases h
 ·simp only [Except.ok.injEq, Prod.mk.injEq] at h
  rw [← h.2]; rfl
theorem Y0k (p : Program) (m : Machine) (i : Nat) (b : Bool) : SD m.world.drawn (Go.runT p m i b).1 := by
 unfold Go.runT
 dsimp only
 have hg := z1e p (i == 0) b (m.gs.swapAt! i { (default : Goroutine) with status := .finished }).1 m.world
 split <;> (rename_i h; rw [h] at hg) <;> first
  |exact True.intro
  |exact hg
  |exact SD.le hg (Q0P _ _ _ _ _ _ _ _ _)
  |exact SD.le hg (Z0f _ _ _ _)
  |skip
 ·exact Q1f (fun _ => True.intro) (fun _ => hg)
 ·dsimp only
  split
  ·exact hg
  ·split
   ·rename_i h2
    exact Z0N hg h2
   ·exact True.intro
  ·exact True.intro
 ·dsimp only
  split
  ·rename_i h2
   have h3 := j1y h2
   show m.world.drawn ≤ _
   rw [h3]; exact hg
  ·split
   ·rename_i h2
    exact Z0N hg h2
   ·exact True.intro
  ·exact True.intro
  ·exact True.intro
theorem y1X (p : Program) (m : Machine) (k : Nat) : SD m.world.drawn (serve p m k) := by
 unfold serve
 split
 ·exact True.intro
 ·exact Nat.le_refl _
 ·dsimp only
  split
  ·exact True.intro
  ·exact Nat.le_refl _
def MD (d : Nat) : Move → Prop
 |.goroutine m _ => d ≤ m.world.drawn
 |.machine s _ => SD d s
theorem MD.le {c d : Nat} (h : c ≤ d) : ∀ {s : Move}, MD d s → MD c s
 |.goroutine _ _, k => Nat.le_trans h k
 |.machine _ _, k => SD.le h k
theorem Z0p (p : Program) (m : Machine) (rs : List Nat) : MD m.world.drawn (match (choose (.sched rs.length)).run p m.world with
   |.halt _ w => .machine (.ended (.stuck "sched" "") w)
   |.ok k world =>
    if rs.length ≤ 1 then .goroutine { m with world } (rs.getD k 0) else
    match (choose (.extern "sched.slice" 65536)).run p world with
    |.halt _ w => .machine (.ended (.stuck "sched.slice" "") w)
    |.ok n world => .goroutine { m with world, rest := { m.rest with slice := if n = 0 then none else some (rs.getD k 0, n) } } (rs.getD k 0)) := by
 split
 ·exact True.intro
 ·rename_i h
  have h1 := x0E h
  split
  ·exact h1
  ·split
   ·exact True.intro
   ·rename_i h
    have h2 := x0E h
    exact Nat.le_trans h1 h2
theorem V0O (p : Program) (m : Machine) : MD m.world.drawn (askOn p m) := by
 unfold askOn
 dsimp only
 split
 ·exact True.intro
 ·rename_i h
  have h1 := x0E h
  split
  ·exact SD.le h1 (y1X p _ _)
  ·split
   ·split
    ·exact h1
    ·split
     ·exact h1
     ·split <;> exact True.intro
   ·split
    ·exact MD.le h1 (Z0p p { m with world := _ } _)
    ·split
     ·exact True.intro
     ·rename_i h
      have h2 := x0E h
      exact MD.le (Nat.le_trans h1 h2) (Z0p p { m with world := _ } _)
     ·rename_i h
      have h2 := x0E h
      exact Nat.le_trans h1 h2
     ·rename_i h
      have h2 := x0E h
      exact MD.le (Nat.le_trans h1 h2) (Z0p p (Machine.advanceTo { m with world := _ } _) _)
theorem j1V (p : Program) (m : Machine) : MD m.world.drawn (ask p m) := by
 unfold Go.ask
 split
 ·split
  ·exact True.intro
  ·rename_i h
   have h1 := x0E h
   split
   ·rename_i h2
    have h3 := Z0f p m.gs m.rest ‹World›
    rw [h2] at h3
    exact MD.le (Nat.le_trans h1 h3) (V0O p _)
   ·exact SD.le h1 (Z0f p _ _ _)
  ·rename_i h
   have h1 := x0E h
   exact MD.le h1 (V0O p { m with world := _ })
 ·exact V0O p m
theorem V1l (p : Program) (m : Machine) : MD m.world.drawn (move p m) := by
 unfold move
 split
 ·split
  ·exact Nat.le_refl _
  ·exact True.intro
 ·split
  ·split
   ·exact Nat.le_refl _
   ·exact j1V p { m with rest := _ }
  ·exact j1V p m
theorem V1S {p : Program} {m m' : Machine} (h : step p m = .next m') : m.world.drawn ≤ m'.world.drawn := by
 have h1 : SD m.world.drawn (step p m) := by
  unfold step stepT
  have hm := V1l p m
  split
  ·rename_i h2
   rw [h2] at hm
   exact SD.le hm (Y0k p _ _ _)
  ·rename_i h2
   rw [h2] at hm
   exact hm
 rw [h] at h1
 exact h1
theorem z1f {p : Program} {m m' : Machine} (h : Steps p m m') : m.world.drawn ≤ m'.world.drawn := by
 obtain ⟨n, hn⟩ := h
 induction n generalizing m with
 |zero => simp [runN] at hn; rw [hn]; exact Nat.le_refl _
 |succ n ih =>
  simp only [runN] at hn
  cases hs : step p m with
  |next m1 => rw [hs] at hn; exact Nat.le_trans (V1S hs) (ih hn)
  |ended o w => rw [hs] at hn; simp at hn
theorem calls_dr {P : Program} {f : FuncId} {args : Array Value} {w : World} {R : Ending → World → Prop} (h : Calls P f args w R) (hR : ∀ e w', R e w' → e ≠ .outgrown) : Calls P f args w (fun e w' => R e w' ∧ w.drawn ≤ w'.drawn) := by
 intro cs
 obtain ⟨e, w', fr, h1, h2, h3, h4⟩ := h cs
 refine ⟨e, w', fr, ⟨h1, ?_⟩, h2, h3, h4⟩
 have : Steps P (lone (Frame.enter P f args .normal) cs w) (lone fr cs w') := by
  cases e with
  |returned v => exact h2
  |panicked c => exact h2
  |outgrown => exact absurd rfl (hR _ _ h1)
 exact z1f this
end Go.Vdr
namespace Go.Proofs.YtfggdokihnopeaaGreatDoor.H
open Go Go.Vc Go.RowKit Go.Sort Go.Na
set_option maxHeartbeats 1000000
theorem x0F {q : Rat} : rsg q < 0 ↔ q < 0 := by
 have h := @Rat.num_nonneg q
 unfold rsg
 split
 ·grind
 ·split <;> grind
theorem v0l {q : Rat} : rsg q = 0 ↔ q = 0 := by
 unfold rsg
 rw [← Rat.num_eq_zero]
 split
 ·simp [*]
 ·split <;> simp [*]
structure Raw where
 k : Int
 A : Rat
 B : Rat
 C : Rat
 p : Option Addr
 n : Nat
 c : Nat
 hA : LR 400 A
 hB : LR 400 B
 hC : LR 400 C
theorem Z1V : LR 400 0 := ⟨.small (by decide) (by decide), .small (by decide) (by decide)⟩
instance : Inhabited Raw := ⟨⟨0, 0, 0, 0, none, 0, 0, Z1V, Z1V, Z1V⟩⟩
def V0d (x : Raw) : List Value := [.int .i64 x.k, .string (bs (rtx x.A)), .string (bs (rtx x.B)), .string (bs (rtx x.C)), .slice x.p x.n x.c]
def cfR (x y : Raw) : Int := q1o (rsg (x.A - y.A)) (rsg (x.B - y.B)) (rsg (x.C - y.C))
def lt3 (A B C A' B' C' : Rat) : Prop := A < A' ∨ A = A' ∧ (B < B' ∨ B = B' ∧ C < C')
instance (A B C A' B' C' : Rat) : Decidable (lt3 A B C A' B' C') := by unfold lt3; infer_instance
theorem Q1y (A B C A' B' C' : Rat) : q1o (rsg (A - A')) (rsg (B - B')) (rsg (C - C')) < 0 ↔ lt3 A B C A' B' C' := by
 have a1 : rsg (A - A') < 0 ↔ A < A' := by rw [x0F]; grind
 have a2 : rsg (A - A') = 0 ↔ A = A' := by rw [v0l]; grind
 have b1 : rsg (B - B') < 0 ↔ B < B' := by rw [x0F]; grind
 have b2 : rsg (B - B') = 0 ↔ B = B' := by rw [v0l]; grind
 have c1 : rsg (C - C') < 0 ↔ C < C' := by rw [x0F]; grind
 have c2 : rsg (C - C') = 0 ↔ C = C' := by rw [v0l]; grind
 generalize rsg (A - A') = a at *
 generalize rsg (B - B') = b at *
 generalize rsg (C - C') = c at *
 unfold q1o lt3
 by_cases ha : a = 0
 ·rw [if_neg (fun h => h ha)]
  by_cases hb : b = 0
  ·rw [if_neg (fun h => h hb)]
   by_cases hc : c = 0
   ·rw [if_neg (fun h => h hc)]
    have := a2.1 ha; have := b2.1 hb; have := c2.1 hc
    subst_vars
    grind
   ·rw [if_pos hc]
    have := a2.1 ha; have := b2.1 hb
    grind
  ·rw [if_pos hb]
   have := a2.1 ha
   grind
 ·rw [if_pos ha]
  grind
theorem Q1x (A B C A' B' C' : Rat) : q1o (rsg (A - A')) (rsg (B - B')) (rsg (C - C')) = 0 ↔ A = A' ∧ B = B' ∧ C = C' := by
 have a2 : rsg (A - A') = 0 ↔ A = A' := by rw [v0l]; grind
 have b2 : rsg (B - B') = 0 ↔ B = B' := by rw [v0l]; grind
 have c2 : rsg (C - C') = 0 ↔ C = C' := by rw [v0l]; grind
 rw [← a2, ← b2, ← c2]
 unfold q1o
 split
 ·omega
 ·split
  ·omega
  ·split <;> omega
theorem ltR (x y : Raw) : ltOf cfR x y = decide (lt3 x.A x.B x.C y.A y.B y.C) := by
 unfold ltOf cfR
 rw [Bool.eq_iff_iff, decide_eq_true_eq, decide_eq_true_eq]
 exact Q1y _ _ _ _ _ _
theorem K1U : SWO (ltOf cfR) := ⟨fun x => by rw [ltR]; simp [lt3], fun x y z h1 h2 => by rw [ltR, decide_eq_true_eq] at *; unfold lt3 at *; grind, fun x y z h1 h2 => by rw [ltR, decide_eq_false_iff_not] at *; unfold lt3 at *; grind⟩
theorem Q1Z {W w' : World} (h : Below W.heap.size W w') (hd : W.drawn ≤ w'.drawn) : ∃ q os', w' = grow (W.drewN q) os' := by
 refine ⟨w'.drawn - W.drawn, w'.heap.extract W.heap.size w'.heap.size, ?_⟩
 obtain ⟨hp, tp, dr, os, out⟩ := w'
 obtain ⟨h1, h2, h3, h4, h5⟩ := h
 dsimp only at *
 subst h1 h2 h3
 simp only [grow, World.drewN, World.mk.injEq]
 refine ⟨?_, trivial, by omega, trivial, trivial⟩
 apply Array.ext_getElem?
 intro k
 by_cases hk : k < W.heap.size
 ·rw [h5 k hk, Array.getElem?_append_left hk]
 ·rw [Array.getElem?_append_right (by omega), Array.getElem?_extract]
  by_cases h6 : k < hp.size
  ·rw [if_pos (by simp; omega), show W.heap.size + (k - W.heap.size) = k by omega]
  ·rw [if_neg (by simp; omega), Array.getElem?_eq_none (by omega)]
theorem x1X (x y : Raw) {W : World} {Z : j0s} (hZ : ZOk Z W) : Calls Tryz.prog 131 #[.agg (V0d x).toArray, .agg (V0d y).toArray] W fun e w' => e = .returned (.int .i64 (cfR x y)) ∧ ∃ q os', w' = grow (W.drewN q) os' := by
 have hc := y0C x.k y.k x.A x.B x.C y.A y.B y.C (.val (.slice x.p x.n x.c)) (.val (.slice y.p y.n y.c)) x.hA x.hB x.hC y.hA y.hB y.hC
 have hv : ∀ x : Raw, (pA x.k (rtx x.A) (rtx x.B) (rtx x.C) (.val (.slice x.p x.n x.c))).ok Z W (.agg (V0d x).toArray) := by
  intro x
  refine ⟨V0d x, rfl, rfl, fun i hi => ?_⟩
  rcases (by omega : i = 0 ∨ i = 1 ∨ i = 2 ∨ i = 3 ∨ i = 4) with rfl | rfl | rfl | rfl | rfl <;> exact ⟨_, rfl, rfl⟩
 have h := Go.Vdr.calls_dr (hc.calls W Z [.agg (V0d x).toArray, .agg (V0d y).toArray] hZ ⟨hv x, hv y, trivial⟩) (fun e w' ⟨v, Z', he, _⟩ => by rw [he]; simp)
 refine h.mono ?_
 rintro e w' ⟨⟨v, Z', rfl, hb, _, _, _, hr⟩, hd⟩
 exact ⟨by rw [show v = .int .i64 (cfR x y) from hr], Q1Z hb hd⟩
def leP (a b : Pl) : Bool := !decide (lt3 b.A b.B b.C a.A a.B a.C)
def K0o (L : List Pl) : List Pl := L.mergeSort leP
theorem J1h : ∀ a b c : Pl, leP a b = true → leP b c = true → leP a c = true := fun a b c h1 h2 => by
 unfold leP at *
 rw [Bool.not_eq_true', decide_eq_false_iff_not] at *
 unfold lt3 at *
 grind
theorem J1g : ∀ a b : Pl, (leP a b || leP b a) = true := fun a b => by
 unfold leP
 rw [Bool.or_eq_true, Bool.not_eq_true', Bool.not_eq_true', decide_eq_false_iff_not, decide_eq_false_iff_not]
 unfold lt3
 grind
theorem V1R {L L' : List Pl} (hu : ∀ f ∈ L, ∀ g ∈ L, eqP f g → f = g) (hp : L'.Perm L) (hs : L'.Pairwise (fun a b => leP a b = true)) : L' = K0o L := by
 refine List.Perm.eq_of_pairwise (le := fun a b => leP a b = true) (fun a b ha hb h1 h2 => ?_) hs (List.pairwise_mergeSort J1h J1g L) (hp.trans (List.mergeSort_perm L _).symm)
 refine hu a (hp.mem_iff.1 ha) b ((List.mergeSort_perm L _).mem_iff.1 hb) ?_
 unfold leP at h1 h2
 rw [Bool.not_eq_true', decide_eq_false_iff_not] at h1 h2
 unfold lt3 at h1 h2
 unfold eqP
 grind
theorem j1O {α β : Type} {R : α → β → Prop} {xs ys : List β} (h : xs.Perm ys) : ∀ {L : List α}, All2 R L xs → ∃ L', L'.Perm L ∧ All2 R L' ys := by
 induction h with
 |nil => intro L hL; exact ⟨L, List.Perm.refl _, hL⟩
 |cons x _ ih =>
  intro L hL
  match L, hL with
  |a :: L, hL =>
   obtain ⟨L', h1, h2⟩ := ih hL.2
   exact ⟨a :: L', h1.cons a, hL.1, h2⟩
 |swap x y l =>
  intro L hL
  match L, hL with
  |a :: b :: L, hL => exact ⟨b :: a :: L, List.Perm.swap _ _ _, hL.2.1, hL.1, hL.2.2⟩
 |trans _ _ ih1 ih2 =>
  intro L hL
  obtain ⟨L1, p1, h1⟩ := ih1 hL
  obtain ⟨L2, p2, h2⟩ := ih2 h1
  exact ⟨L2, p2.trans p1, h2⟩
theorem J0b {α β : Type} {R : α → β → Prop} : ∀ {L : List α} {xs : List β} {i : Nat} {a : α} {x : β}, All2 R L xs → L[i]? = some a → xs[i]? = some x → R a x
 |_ :: _, _ :: _, 0, _, _, h, h1, h2 => by simp at h1 h2; subst h1 h2; exact h.1
 |_ :: _, _ :: _, i + 1, _, _, h, h1, h2 => J0b (i := i) h.2 (by simpa using h1) (by simpa using h2)
def gP (L : List Pl) (i : Nat) : Pl := L.getD i default
def pf5 (k : Int) (L : List Pl) : Nat → Nat → AV := fun i => pAf k (rtx (gP L i).A) (rtx (gP L i).B) (rtx (gP L i).C) (idx (gP L i).s)
def RF (k : Int) (Z : j0s) (w : World) (f : Pl) (x : Raw) : Prop := x.k = k ∧ x.A = f.A ∧ x.B = f.B ∧ x.C = f.C ∧ AV.ok Z w (idx f.s) (.slice x.p x.n x.c)
theorem isAgg42 (w : World) : (isAgg 69).run Tryz.prog w = .ok true w := by kernel_rfl
theorem Y1K (w : World) : (Go.sizeOf 69).run Tryz.prog w = .ok 5 w := by kernel_rfl
theorem q1F (k : Int) (x : Raw) (f : Pl) {Z : j0s} {w : World} (h : RF k Z w f x) : ∀ j, j < 5 → (pAf k (rtx f.A) (rtx f.B) (rtx f.C) (idx f.s) j).ok Z w ((V0d x)[j]!) := by
 obtain ⟨h0, h1, h2, h3, h4⟩ := h
 intro j hj
 rcases (by omega : j = 0 ∨ j = 1 ∨ j = 2 ∨ j = 3 ∨ j = 4) with rfl | rfl | rfl | rfl | rfl
 ·show Value.int .i64 x.k = .int .i64 k; rw [h0]
 ·show Value.string (bs (rtx x.A)) = _; rw [h1]
 ·show Value.string (bs (rtx x.B)) = _; rw [h2]
 ·show Value.string (bs (rtx x.C)) = _; rw [h3]
 ·exact h4
structure PLR (P : Pl) : Prop where
 a : LR 400 P.A
 b : LR 400 P.B
 c : LR 400 P.C
theorem V1A {k : Int} {Z : j0s} {w : World} {arr : Array Value} {L : List Pl} (hL : ∀ p ∈ L, PLR p) (h : ∀ i, i < L.length → ∀ j, j < 5 → ∃ u, arr[i * 5 + j]? = some u ∧ (pf5 k L i j).ok Z w u) :
  ∃ xs : List Raw, All2 (RF k Z w) L xs ∧ ∀ i x, xs[i]? = some x → ∀ j, j < 5 → arr[i * 5 + j]? = some ((V0d x)[j]!) := by
 have key : ∀ (n : Nat) (L : List Pl) (o : Nat), L.length = n → (∀ p ∈ L, PLR p) → (∀ i, i < L.length → ∀ j, j < 5 → ∃ u, arr[o + i * 5 + j]? = some u ∧ (pf5 k L i j).ok Z w u) →
   ∃ xs : List Raw, All2 (RF k Z w) L xs ∧ ∀ i x, xs[i]? = some x → ∀ j, j < 5 → arr[o + i * 5 + j]? = some ((V0d x)[j]!) := by
  intro n
  induction n with
  |zero => intro L o hn _ _; rw [List.length_eq_zero_iff.1 hn]; exact ⟨[], trivial, fun i x hx => by simp at hx⟩
  |succ n ih =>
   intro L o hn hLR hL
   match L, hn with
   |f :: L, hn =>
    obtain ⟨xs, a1, a2⟩ := ih L (o + 5) (by simpa using hn) (fun p hp => hLR p (by simp [hp])) (fun i hi j hj => by
     have := hL (i + 1) (by simpa using hi) j hj
     rw [show o + (i + 1) * 5 + j = o + 5 + i * 5 + j from by omega] at this
     exact this)
    obtain ⟨u0, b0, k0⟩ := hL 0 (by simp) 0 (by omega)
    obtain ⟨u1, b1, k1⟩ := hL 0 (by simp) 1 (by omega)
    obtain ⟨u2, b2, k2⟩ := hL 0 (by simp) 2 (by omega)
    obtain ⟨u3, b3, k3⟩ := hL 0 (by simp) 3 (by omega)
    obtain ⟨u4, b4, k4⟩ := hL 0 (by simp) 4 (by omega)
    have k4' := k4
    obtain ⟨p, c, rfl, _⟩ := k4'
    obtain rfl : u0 = .int .i64 k := k0
    obtain rfl : u1 = .string (bs (rtx f.A)) := k1
    obtain rfl : u2 = .string (bs (rtx f.B)) := k2
    obtain rfl : u3 = .string (bs (rtx f.C)) := k3
    have hf := hLR f (by simp)
    refine ⟨⟨k, f.A, f.B, f.C, p, f.s.length, c, hf.a, hf.b, hf.c⟩ :: xs, ⟨⟨rfl, rfl, rfl, rfl, k4⟩, a1⟩, fun i x hx j hj => ?_⟩
    cases i with
    |zero =>
     simp only [List.getElem?_cons_zero, Option.some.injEq] at hx
     subst hx
     rcases (by omega : j = 0 ∨ j = 1 ∨ j = 2 ∨ j = 3 ∨ j = 4) with rfl | rfl | rfl | rfl | rfl
     ·exact b0
     ·exact b1
     ·exact b2
     ·exact b3
     ·exact b4
    |succ i =>
     have := a2 i x (by simpa using hx) j hj
     rw [show o + (i + 1) * 5 + j = o + 5 + i * 5 + j from by omega]
     exact this
 obtain ⟨xs, a1, a2⟩ := key L.length L 0 rfl hL (fun i hi j hj => by rw [Nat.zero_add]; exact h i hi j hj)
 exact ⟨xs, a1, fun i x hx j hj => by have := a2 i x hx j hj; rwa [Nat.zero_add] at this⟩
theorem J0B {α β : Type} {R : α → β → Prop} {L : List α} {xs : List β} (h : All2 R L xs) : L.length = xs.length := by
 have := h.len
 omega
theorem lk5 {i j n : Nat} (hi : i < n) (hj : j < 5) : i * 5 + j < n * 5 := by omega
theorem z1b {enc : Raw → List Value} {w : World} {Z : j0s} {b m : Nat} {dk : Array Raw} {os : Array Obj} (hZ : ZOk Z w) (hb : b < w.heap.size) (hnz : ¬ Z b) : ZOk Z (sortWorldK enc 5 w b 0 m dk os) := by
 have hsz : w.heap.size ≤ (sortWorldK enc 5 w b 0 m dk os).heap.size := by simp [sortWorldK, grow, putRowK, putRow, mapBlock, Sort.ahead]
 refine hZ.next (fun _ h => h) hsz (fun k hk hlt => ?_) (fun k hk => Nat.lt_of_lt_of_le (hZ.1 k hk) hsz)
 unfold sortWorldK putRowK
 rw [heap_grow_old _ _ (by simpa using hlt)]
 have : b ≠ k := fun e => hnz (by rw [e]; exact hk)
 simp [putRow, mapBlock, Sort.ahead, Array.getElem?_modify, this]
theorem V1L (k : Int) (L : List Pl) (hL : ∀ p ∈ L, PLR p) (hu : ∀ f ∈ L, ∀ g ∈ L, eqP f g → f = g) (hn : L.length ≤ 1000000) : CtrW Tryz.prog 130 [.val (.func (.func 131) #[] #[])] 69 5 L.length (pf5 k L) L.length (pf5 k (K0o L)) false := by
 refine ⟨x0t Tryz.func130 rfl rfl, fun w Z v vs hZ hvs hrow => ?_⟩
 match vs, hvs with
 |[fv], ⟨h1, _⟩ =>
  obtain rfl : fv = .func (.func 131) #[] #[] := h1
  by_cases h0 : L.length = 0
  ·have hl : L = [] := List.eq_nil_of_length_eq_zero h0
   subst hl
   have hv : ∃ p cap, v = .slice p 0 cap := by
    rcases hrow with ⟨e, _⟩ | ⟨b, cap, arr, e, _⟩
    ·exact ⟨none, 0, e⟩
    ·exact ⟨_, cap, e⟩
   obtain ⟨p, cap, rfl⟩ := hv
   refine (show Calls Tryz.prog 130 #[.slice p 0 cap, .func (.func 131) #[] #[]] w _ from AnyF.slices_SortFunc_none Tryz.laysSlF06_f96 p cap (.func (.func 131) #[] #[]) w).mono ?_
   rintro e w' ⟨rfl, rfl⟩
   exact ⟨_, _, Z, rfl, rfl, ⟨rfl, rfl, rfl, Nat.le_refl _, fun _ _ _ => rfl⟩, fun _ h => h, fun _ h => .inl h, hZ.1, fun b hb => .inl hb, by
    rcases hrow with ⟨e, _⟩ | ⟨b, cap, arr, e, h2, h3, h4, h5, h6, h7⟩
    ·exact .inl ⟨e, rfl⟩
    ·exact .inr ⟨b, cap, arr, e, h2, h3, h4, h5, h6, fun i hi => by simp at hi⟩⟩
  ·rcases hrow with ⟨_, e⟩ | ⟨b, cap, arr, rfl, h2, h3, h4, h5, h6, h7⟩
   ·exact absurd e h0
   ·have hb := (Array.getElem?_eq_some_iff.1 h3).1
    obtain ⟨xs, hx, hcell⟩ := V1A hL h7
    have hxl := J0B hx
    have hH : HoldsK V0d 5 w b 0 xs.toArray := by
     intro t ht
     have ht' : t < xs.length * 5 := by simpa using ht
     refine ⟨?_, by simp [World.frozen?, h3]⟩
     have hq : t = t / 5 * 5 + t % 5 := by omega
     have htl : t / 5 < xs.length := by omega
     have hc := hcell (t / 5) xs[t / 5] (List.getElem?_eq_getElem htl) (t % 5) (Nat.mod_lt _ zO)
     rw [get_flatK _ _ _ t (by simpa using ht'), Nat.zero_add]
     simp only [World.cell?, h3]
     rw [← hq] at hc
     have e : xs.toArray[t / 5]! = xs[t / 5] := by
      rw [getElem!_pos xs.toArray (t / 5) (by simp; omega)]
      simp
     rw [e]
     simpa using hc
    have hcmp : CmpLays Tryz.prog 131 #[] V0d 5 cfR b 0 xs.toArray.size w := fun m os dk _ x y =>
     x1X x y (z1b hZ hb h2)
    have hrun := AnyQ.slices_SortFunc (α := Raw) Tryz.laysSlF06_f96 5 isAgg42 Y1K V0d (fun _ => rfl) (fun x v hv => by
     simp only [V0d, List.mem_cons, List.not_mem_nil, or_false] at hv
     rcases hv with rfl | rfl | rfl | rfl | rfl <;> rfl) cfR K1U 131 #[] b 0 cap xs.toArray w (x0t Tryz.func131 rfl rfl) hcmp hH hb (by simp; omega)
    rw [List.size_toArray] at hrun
    have hrun2 : Calls Tryz.prog 130 #[.slice (some ⟨b, 0, none⟩) L.length cap, .func (.func 131) #[] #[]] w fun e w' => e = .returned (.tuple #[]) ∧ ∃ d' n os, PermIn 0 xs.length xs.toArray d' ∧ SortedIn (ltOf cfR) 0 xs.length d' ∧ w' = sortWorldK V0d 5 w b 0 n d' os := by
     rw [hxl]
     exact hrun
    refine Calls.mono hrun2 ?_
    rintro e w' ⟨rfl, d', n, os, hp, hs, rfl⟩
    have hsz : d'.size = xs.length := by have := hp.1; simpa using this
    have hperm : d'.toList.Perm xs := by
     have := hp.2.2
     simp [hsz] at this
     rwa [List.take_of_length_le (by simp [hsz])] at this
    obtain ⟨L', hL1, hL2⟩ := j1O hperm.symm hx
    have hL3 : L'.Pairwise (fun a b => leP a b = true) := by
     rw [List.pairwise_iff_getElem]
     intro i j hi hj hij
     have hl2 := J0B hL2
     have hjd : j < d'.size := by simp at hl2; omega
     have h := hs i j (Nat.zero_le _) hij (by rw [← hsz]; exact hjd)
     rw [getElem!_pos d' j hjd, getElem!_pos d' i (by omega), ltR, decide_eq_false_iff_not] at h
     have r1 := J0b hL2 (List.getElem?_eq_getElem hi) (List.getElem?_eq_getElem (by simp at hl2 ⊢; omega))
     have r2 := J0b hL2 (List.getElem?_eq_getElem hj) (List.getElem?_eq_getElem (by simp at hl2 ⊢; omega))
     simp only [Array.getElem_toList] at r1 r2
     rw [r1.2.1, r1.2.2.1, r1.2.2.2.1, r2.2.1, r2.2.2.1, r2.2.2.2.1] at h
     unfold leP
     rw [Bool.not_eq_true', decide_eq_false_iff_not]
     exact h
    have hd' := V1R hu hL1 hL3
    subst hd'
    have hheap : (sortWorldK V0d 5 w b 0 n d' os).heap[b]? = some (.cells (putCells id 0 (flatK V0d 5 d') arr) 69 (0, 0)) := by
     unfold sortWorldK putRowK
     rw [heap_grow_old _ _ (by simpa [putRow, mapBlock, Sort.ahead] using hb)]
     simp [putRow, mapBlock, Sort.ahead, Array.getElem?_modify, h3, onCells]
    have hgr : w.grownBy (sortWorldK V0d 5 w b 0 n d' os) (some b) := by
     unfold sortWorldK putRowK
     refine ⟨rfl, rfl, rfl, by simp, fun k hk hne => ?_⟩
     rw [heap_grow_old _ _ (by simpa using hk)]
     have : b ≠ k := fun e => hne (by rw [e])
     simp [putRow, mapBlock, Sort.ahead, Array.getElem?_modify, this]
    refine ⟨_, _, Z, rfl, rfl, hgr, fun _ h => h, fun _ h => .inl h, fun k hk => Nat.lt_of_lt_of_le (hZ.1 k hk) hgr.size, fun b hb => .inl hb, .inr ⟨b, cap, _, rfl, h2, hheap, h4, h5, by simp [putCells, h6], fun i hi j hj => ?_⟩⟩
    have hlt := lk5 hi hj
    have hal : i * 5 + j < arr.size := by rw [h6]; have := lk5 (Nat.lt_of_lt_of_le hi h4) hj; exact this
    have hl2 := J0B hL2
    have hid : i < d'.size := by simp at hl2; have := hL1.length_eq; omega
    have hiL : i < (K0o L).length := by have := hL1.length_eq; omega
    have hRF := J0b hL2 (List.getElem?_eq_getElem hiL) (List.getElem?_eq_getElem (by simpa using hid))
    have hgf : (K0o L)[i] = gP (K0o L) i := by unfold gP; simp [List.getD, hiL]
    rw [hgf, Array.getElem_toList] at hRF
    have hRF2 : RF k Z (sortWorldK V0d 5 w b 0 n d' os) (gP (K0o L) i) d'[i] := ⟨hRF.1, hRF.2.1, hRF.2.2.1, hRF.2.2.2.1, AV.ok_mono (fun _ q => q) hgr.size (fun k q hk => hgr.block k hk (fun e => by cases e; exact h2 q)) _ _ hRF.2.2.2.2⟩
    refine ⟨(V0d d'[i])[j]!, ?_, q1F _ _ _ hRF2 j hj⟩
    have hf := get_flatK V0d 5 d' (i * 5 + j) zO
    have e1 : (i * 5 + j) / 5 = i := by omega
    have e2 : (i * 5 + j) % 5 = j := by omega
    rw [e1, e2, getElem!_pos d' i hid] at hf
    simp only [putCells]
    rw [Array.getElem?_mapIdx, Array.getElem?_eq_getElem hal]
    simp only [Option.map_some]
    rw [if_pos ⟨Nat.zero_le _, by simp; omega⟩]
    simpa using hf
end Go.Proofs.YtfggdokihnopeaaGreatDoor.H
namespace Go.Proofs.YtfggdokihnopeaaGreatDoor.H
open Go Go.Vc Go.RowKit Go.Na
set_option maxHeartbeats 4000000
theorem ceq (P Q : Pl) : (q1o (rsg (P.A - Q.A)) (rsg (P.B - Q.B)) (rsg (P.C - Q.C)) == 0) = decide (eqP P Q) := by
 rw [Bool.eq_iff_iff, decide_eq_true_eq, beq_iff_eq, Q1x]
 rfl
theorem X1A (k1 k2 : Int) (P Q : Pl) (hP : PLR P) (hQ : PLR Q) : CtrA Tryz.prog 133 [pR k1 P, pR k2 Q] (vb (decide (eqP P Q))) := by
 have hc := y0C k1 k2 P.A P.B P.C Q.A Q.B Q.C (idx P.s) (idx Q.s) hP.a hP.b hP.c hQ.a hQ.b hQ.c
 refine j0r _ Tryz.func133 rfl rfl Tryz.ntmps133 rfl fun w Z => ?_
 refine zU ?_
 refine wt ?_
 refine j0j (j0d rfl rfl) rfl ?_
 refine wt ?_
 refine j0j (j0d rfl rfl) rfl ?_
 refine wt ?_
 exact j0c rfl (.tmp rfl) (congrArg vb (ceq P Q))
abbrev eqv : AV := .val (.func (.func 133) #[] #[])
def x0q (L : List Pl) (i : Nat) : Bool := decide (i = 0) || decide (¬ eqP (gP L i) (gP L (i - 1)))
def q0A (L : List Pl) (m : Nat) : List Pl := ((List.range m).filter (x0q L)).map (gP L)
def Q0Q (L : List Pl) : List Pl := q0A L L.length
theorem w0S (L : List Pl) (m : Nat) : q0A L (m + 1) = if x0q L m = true then q0A L m ++ [gP L m] else q0A L m := by
 simp only [q0A, List.range_succ, List.filter_append, List.map_append]
 split <;> rename_i h <;> simp [List.filter, h]
theorem K0G (L : List Pl) (m : Nat) : (q0A L m).length ≤ m := by
 have := List.length_filter_le (x0q L) (List.range m)
 simpa [q0A] using this
theorem W0m {L : List Pl} {i : Nat} (h : i < L.length) : gP L i = L[i] := by simp [gP, h]
theorem x0u {L : List Pl} {i : Nat} (h : i < L.length) : gP L i ∈ L := by rw [W0m h]; exact List.getElem_mem h
theorem Q1T (L : List Pl) (m k : Nat) : gP (L.take m) k = if k < m then gP L k else default := by
 simp only [gP, List.getD, List.getElem?_take]
 split <;> rfl
theorem x0P (L : List Pl) : ∀ (m : Nat), m ≤ L.length → (∀ i, i < m → x0q L i = true) → q0A L m = L.take m
 |0, _, _ => rfl
 |m + 1, hm, h => by
  rw [w0S, if_pos (h m (by omega)), x0P L m (by omega) (fun i hi => h i (by omega)), List.take_succ_eq_append_getElem (by omega), W0m (by omega)]
theorem V0b {L : List Pl} (h : L.length < 2) : Q0Q L = L := by
 rw [Q0Q, x0P L _ (Nat.le_refl _) (fun i hi => by simp [x0q, show i = 0 by omega]), List.take_length]
theorem q1T (L : List Pl) (i : Nat) (x : Pl) (k : Nat) : gP (L.set i x) k = if i = k ∧ k < L.length then x else gP L k := by
 simp only [gP, List.getD, List.getElem?_set]
 by_cases h : i = k
 ·subst h
  by_cases h2 : i < L.length
  ·simp [h2]
  ·simp [h2]
 ·simp [h]
theorem z1Z (L : List Pl) (x : Pl) (k : Nat) : gP (L ++ [x]) k = if k < L.length then gP L k else if k = L.length then x else default := by
 simp only [gP]
 by_cases h : k < L.length
 ·simp [List.getD, List.getElem?_append_left h, h]
 ·by_cases h2 : k = L.length
  ·subst h2; simp [List.getD]
  ·rw [if_neg h, if_neg h2, List.getD, List.getElem?_eq_none (by simp; omega)]; rfl
theorem V1i {p : Nat → Bool} {n : Nat} (h : ∀ k, k < n → p k = true) (hn : p n = true) : ∀ k, k < n + 1 → p k = true := fun k hk => by
 by_cases e : k = n
 ·subst e; exact hn
 ·exact h k zO
theorem j2f (w : World) : (zeroValue 69).run Tryz.prog w = .ok (.agg [.int .i64 0, .string (bs []), .string (bs []), .string (bs []), .slice none 0 0].toArray) w := by kernel_rfl
theorem z1D : ∀ v ∈ ([.int .i64 0, .string (bs []), .string (bs []), .string (bs []), .slice none 0 0] : List Value), v.oneCell' = true := fun v hv => by
 simp only [List.mem_cons, List.not_mem_nil, or_false] at hv
 rcases hv with rfl | rfl | rfl | rfl | rfl <;> rfl
theorem X1F {κ : Int} {u : List Pl} {k : Nat} {x : Pl} (hk : k < u.length) : ∀ i, i < u.length → ∀ j, j < 5 → w0L (pf5 κ u) k 0 ((List.range 5).map (pf5 κ [x] 0)) i j = pf5 κ (u.set k x) i j := by
 intro i hi j hj
 unfold w0L pf5
 rw [q1T]
 by_cases h : i = k
 ·subst h
  rw [if_pos ⟨rfl, Nat.zero_le _, by simpa using hj⟩, if_pos ⟨rfl, hk⟩]
  rcases (by omega : j = 0 ∨ j = 1 ∨ j = 2 ∨ j = 3 ∨ j = 4) with rfl | rfl | rfl | rfl | rfl <;> rfl
 ·rw [if_neg (fun e => h e.1), if_neg (fun e => h e.1.symm)]
theorem K0F (κ : Int) (v : List Pl) (hv : ∀ p ∈ v, PLR p) (hn : v.length ≤ 1000) :
  CtrW Tryz.prog 132 [eqv] 69 5 v.length (pf5 κ v) (Q0Q v).length (pf5 κ (Q0Q v)) true := by
 refine K1l _ Tryz.func132 rfl rfl Tryz.ntmps132 rfl fun w Z v0 => ?_
 refine zU ?_
 refine wt ?_
 (refine j0a rfl ?_ ?_ <;> intro hb <;> (try simp only [zA, zB, zG, zC, zD, zN] at hb) <;> (try exact zQ))
 ·refine wt ?_
  exact x0e rfl rfl rfl (by rw [V0b (by omega)]) (fun _ _ _ _ => by rw [V0b (by omega)])
 ·refine wt ?_
  refine j0h (γ := Nat) (fun k => [(0, .osl 0), (1, .av eqv), (5, .av (vi k))]) (fun _ => [(0, .row 69 5 v.length (pf5 κ v))]) (fun k => 1 ≤ k ∧ k ≤ v.length ∧ ∀ i, i < k → x0q v i = true) (fun k => v.length - k) 1 ⟨by omega, by omega, fun i hi => by simp [x0q, show i = 0 by omega]⟩ (ent ⟨.refl _, .refl _, .int rfl, trivial⟩ zT) ?_
  rintro k ⟨hk1, hkn, hall⟩
  obtain ⟨k', rfl⟩ : ∃ k', k = k' + 1 := ⟨k - 1, by omega⟩
  refine wt ?_
  (refine j0a rfl ?_ ?_ <;> intro hb <;> (try simp only [zA, zB, zG, zC, zD, zN] at hb) <;> (try exact zQ))
  ·have hq := X1A κ κ (gP v (k' + 1)) (gP v k') (hv _ (x0u zO)) (hv _ (x0u zO))
   refine wt ?_
   refine q0n (q0C rfl rfl zO) rfl ?_
   refine wt ?_
   refine q0n (q0C rfl rfl zO) rfl ?_
   have e0 : (((k' + 1 : Nat) : Int) - 1).toNat = k' := by omega
   rw [e0]
   refine wt ?_
   (refine j0a rfl ?_ ?_ <;> intro hb <;> (try simp only [zA, zB, zG, zC, zD, zN] at hb) <;> (try exact zQ))
   ·have hK : x0q v (k' + 1) = false := by simp [x0q, hb]
    have h1 : q0A v (k' + 1 + 1) = v.take (k' + 1) := by
     rw [w0S, hK, if_neg (by simp), x0P v _ (by omega) hall]
    refine wt ?_
    refine j0h (γ := List Pl × Nat) (fun g => [(0, .osl 0), (1, .av eqv), (5, .av (vi (q0A v (k' + 1 + g.2)).length)), (6, .osx 0 5 (k' + 1) (v.length - (k' + 1))), (7, .av (vi g.2))]) (fun g => [(0, .row 69 5 v.length (pf5 κ g.1))])
     (fun g => 1 ≤ g.2 ∧ g.2 ≤ v.length - (k' + 1) ∧ g.1.length = v.length ∧ (q0A v (k' + 1 + g.2)).length ≤ k' + g.2 ∧ (∀ i, i < (q0A v (k' + 1 + g.2)).length → gP g.1 i = gP (q0A v (k' + 1 + g.2)) i) ∧ ∀ i, k' + g.2 ≤ i → gP g.1 i = gP v i) (fun g => v.length - g.2) (v, 1)
     ⟨by simp, by simp; omega, rfl, by simp only [h1]; simp; omega, fun i hi => by simp only [h1] at hi ⊢; rw [Q1T]; simp at hi; rw [if_pos (by omega)], fun i hi => rfl⟩ (ent ⟨.refl _, .refl _, .int (by simp only [h1]; simp; omega), .refl _, .refl _, trivial⟩ zT) ?_
    rintro ⟨u, m⟩ ⟨hm1, hmn, hul, hcl, hu1, hu2⟩
    simp only at hm1 hmn hul hcl hu1 hu2
    obtain ⟨m', rfl⟩ : ∃ m', m = m' + 1 := ⟨m - 1, by omega⟩
    dsimp only
    refine wt ?_
    (refine j0a rfl ?_ ?_ <;> intro hb <;> (try simp only [zA, zB, zG, zC, zD, zN] at hb) <;> (try exact zQ))
    ·have e1 : gP u (k' + 1 + (m' + 1)) = gP v (k' + 1 + (m' + 1)) := hu2 _ zO
     have e2 : gP u (k' + 1 + m') = gP v (k' + 1 + m') := hu2 _ zO
     have e3 : k' + 1 + (m' + 1) - 1 = k' + 1 + m' := by omega
     have hS := w0S v (k' + 1 + (m' + 1))
     have hq := X1A κ κ (gP u (k' + 1 + (m' + 1))) (gP u (k' + 1 + m')) (by rw [e1]; exact hv _ (x0u (by omega))) (by rw [e2]; exact hv _ (x0u (by omega)))
     refine wt ?_
     refine q0n (q0C rfl rfl zO) rfl ?_
     refine wt ?_
     refine q0n (q0R (k := m') rfl rfl zO zO) rfl ?_
     refine wt ?_
     refine q0n (q0C rfl rfl zO) rfl ?_
     refine wt ?_
     (refine j0a rfl ?_ ?_ <;> intro hb <;> (try simp only [zA, zB, zG, zC, zD, zN] at hb) <;> (try exact zQ))
     ·have hP : x0q v (k' + 1 + (m' + 1)) = true := by
       simp only [x0q, e3]; rw [← e1, ← e2]; simp [hb]
      rw [hP, if_pos rfl] at hS
      refine wt ?_
      refine j0j (q0C rfl rfl zO) rfl ?_
      refine wt ?_
      refine q0M (z0W rfl rfl (x0C _ _ _ _ _) rfl zO) ?_
      refine wt ?_
      refine j0b (g := (u, m' + 1)) (u.set (q0A v (k' + 1 + (m' + 1))).length (gP u (k' + 1 + (m' + 1))), m' + 1 + 1) ⟨by simp, by simp; omega, by simp [hul], ?_, ?_, ?_⟩ (by simp; omega) (ent ⟨.refl _, .refl _, .int (by simp only; rw [show k' + 1 + (m' + 1 + 1) = k' + 1 + (m' + 1) + 1 from by omega, hS]; simp), .refl _, .int (by simp), trivial⟩ ⟨⟨_, rfl, .row rfl (fun i hi j hj => X1F (by omega) i (by omega) j hj)⟩, trivial⟩)
      ·simp only; rw [show k' + 1 + (m' + 1 + 1) = k' + 1 + (m' + 1) + 1 from by omega, hS]; simp; omega
      ·simp only; rw [show k' + 1 + (m' + 1 + 1) = k' + 1 + (m' + 1) + 1 from by omega, hS]
       intro i hi
       rw [q1T, z1Z]
       simp only [List.length_append, List.length_singleton] at hi
       by_cases h : i = (q0A v (k' + 1 + (m' + 1))).length
       ·rw [if_pos ⟨h.symm, by omega⟩, if_neg (by omega), if_pos h, e1]
       ·rw [if_neg (fun e => h e.1.symm), if_pos (by omega)]; exact hu1 i (by omega)
      ·simp only
       intro i hi
       rw [q1T, if_neg (fun e => by omega)]
       exact hu2 i zO
     ·have hP : x0q v (k' + 1 + (m' + 1)) = false := by
       simp only [x0q, e3]; rw [← e1, ← e2]; simp [hb]
      rw [hP, if_neg (by simp)] at hS
      refine wt ?_
      refine j0b (g := (u, m' + 1)) (u, m' + 1 + 1) ⟨by simp, by simp; omega, hul, ?_, ?_, ?_⟩ (by simp; omega) (ent ⟨.refl _, .refl _, .int (by simp only; rw [show k' + 1 + (m' + 1 + 1) = k' + 1 + (m' + 1) + 1 from by omega, hS]), .refl _, .int (by simp), trivial⟩ zT)
      ·simp only; rw [show k' + 1 + (m' + 1 + 1) = k' + 1 + (m' + 1) + 1 from by omega, hS]; omega
      ·simp only; rw [show k' + 1 + (m' + 1 + 1) = k' + 1 + (m' + 1) + 1 from by omega, hS]; exact hu1
      ·simp only; exact fun i hi => hu2 i (by omega)
    ·have hE : k' + 1 + (m' + 1) = v.length := by omega
     have hcE : q0A v (k' + 1 + (m' + 1)) = Q0Q v := by rw [hE]; rfl
     refine wt ?_
     refine q0M (y1r (lo := (q0A v (k' + 1 + (m' + 1))).length) j2f rfl rfl zE z1D rfl rfl) ?_
     refine wt ?_
     refine x0e rfl rfl rfl (by rw [hcE]) (fun i hi j hj => ?_)
     simp only [Y0i]
     rw [if_neg (by omega)]
     simp only [pf5]
     rw [hu1 i (by omega), hcE]
   ·refine wt ?_
    exact j0b (k' + 1 + 1) ⟨by omega, by omega, V1i hall (by simp [x0q, hb])⟩ (by omega) (ent ⟨.refl _, .refl _, .int (by simp), trivial⟩ zT)
  ·refine wt ?_
   have e : Q0Q v = v := by rw [Q0Q, x0P v _ (Nat.le_refl _) (fun i hi => hall i (by omega)), List.take_length]
   exact x0e rfl rfl rfl (by rw [e]) (fun _ _ _ _ => by rw [e])
end Go.Proofs.YtfggdokihnopeaaGreatDoor.H
namespace Go.Proofs.YtfggdokihnopeaaGreatDoor.H
open Go Go.Vc Go.Na
def tK (i j : Nat) : Nat → List (Nat × Nat × Nat)
 |0 => []
 |k + 1 => tK i j k ++ [(k, j, i)]
def tJ (i : Nat) : Nat → List (Nat × Nat × Nat)
 |0 => []
 |j + 1 => tJ i j ++ tK i j j
def tI : Nat → List (Nat × Nat × Nat)
 |0 => []
 |i + 1 => tI i ++ tJ i i
theorem Y1V (i j : Nat) : ∀ k, (List.range k).map (fun k => (k, j, i)) = tK i j k
 |0 => rfl
 |k + 1 => by rw [List.range_succ, List.map_append, Y1V i j k]; rfl
theorem Y1U (i : Nat) : ∀ n, z1s i n = tJ i n
 |0 => rfl
 |n + 1 => by
  unfold z1s
  rw [List.range_succ, List.flatMap_append]
  have := Y1U i n
  unfold z1s at this
  rw [this, tJ]
  simp only [List.flatMap_cons, List.flatMap_nil, List.append_nil, Z1q]
  rw [Y1V]
theorem j1t : ∀ n, W1N n = tI n
 |0 => rfl
 |n + 1 => by
  unfold W1N
  rw [List.range_succ, List.flatMap_append]
  have := j1t n
  unfold W1N at this
  rw [this, tI]
  simp only [List.flatMap_cons, List.flatMap_nil, List.append_nil]
  rw [Y1U]
theorem J1p {i j : Nat} {t : Nat × Nat × Nat} : ∀ {k}, t ∈ tK i j k ↔ t.1 < k ∧ t.2.1 = j ∧ t.2.2 = i
 |0 => by simp [tK]
 |k + 1 => by
  rw [tK, List.mem_append, J1p]
  obtain ⟨a, b, c⟩ := t
  simp only [List.mem_singleton, Prod.mk.injEq]
  omega
theorem J1o {i : Nat} {t : Nat × Nat × Nat} : ∀ {j}, t ∈ tJ i j ↔ t.1 < t.2.1 ∧ t.2.1 < j ∧ t.2.2 = i
 |0 => by simp [tJ]
 |j + 1 => by
  rw [tJ, List.mem_append, J1o, J1p]
  omega
theorem k0M {t : Nat × Nat × Nat} : ∀ {n}, t ∈ tI n ↔ t.1 < t.2.1 ∧ t.2.1 < t.2.2 ∧ t.2.2 < n
 |0 => by simp [tI]
 |n + 1 => by
  rw [tI, List.mem_append, k0M, J1o]
  omega
theorem J1D (i j : Nat) : ∀ k, (tK i j k).length = k
 |0 => rfl
 |k + 1 => by rw [tK, List.length_append, J1D]; rfl
theorem J1C (i : Nat) : ∀ j, (tJ i j).length ≤ j * j
 |0 => Nat.le_refl _
 |j + 1 => by
  rw [tJ, List.length_append, J1D]
  have := J1C i j
  rw [Nat.mul_add, Nat.add_mul]
  omega
theorem w1Q : ∀ n, (tI n).length ≤ n * (n * n)
 |0 => Nat.le_refl _
 |n + 1 => by
  rw [tI, List.length_append]
  have h1 := w1Q n
  have h2 := J1C n n
  have : (n + 1) * ((n + 1) * (n + 1)) = n * (n * n) + n * n + n * n + n * n + n + n + n + 1 := by
   simp only [Nat.mul_add, Nat.add_mul, Nat.mul_one, Nat.one_mul]; omega
  omega
theorem W0A {α : Type} {f g : Nat → List α} (h : ∀ k, f (k + 1) = f k ++ g k) {k n : Nat} (hk : k ≤ n) : f k <+: f n := by
 induction n with
 |zero => rw [Nat.le_zero.1 hk]; exact List.prefix_refl _
 |succ n ih =>
  by_cases e : k = n + 1
  ·rw [e]; exact List.prefix_refl _
  ·rw [h n]; exact (ih (by omega)).trans (List.prefix_append _ _)
theorem z1t {n i j k : Nat} (hi : i < n) (hj : j < i) (hk : k < j) : tI i ++ (tJ i j ++ tK i j (k + 1)) <+: tI n := by
 have h1 : tK i j (k + 1) <+: tK i j j := W0A (fun _ => rfl) zO
 have h2 : tJ i (j + 1) <+: tJ i i := W0A (fun _ => rfl) zO
 have h3 : tI (i + 1) <+: tI n := W0A (fun _ => rfl) zO
 have h4 : tJ i j ++ tK i j (k + 1) <+: tJ i (j + 1) := (List.prefix_append_right_inj _).2 h1
 exact ((List.prefix_append_right_inj _).2 (h4.trans h2)).trans h3
theorem Y1A {α : Type} {A L : List α} {x : α} (h : A ++ [x] <+: L) : L[A.length]? = some x := by
 obtain ⟨t, rfl⟩ := h
 simp
end Go.Proofs.YtfggdokihnopeaaGreatDoor.H
namespace Go.Proofs.YtfggdokihnopeaaGreatDoor.H
open Go Go.Vc Go.RowKit
set_option maxHeartbeats 4000000
abbrev K1h (a b c : Nat) : AV := .val (.agg #[.int .i64 a, .int .i64 b, .int .i64 c])
def V3 (n : Nat) (x : Value) : Prop := ∃ a b c : Nat, a < n ∧ b < n ∧ c < n ∧ x = .agg #[.int .i64 a, .int .i64 b, .int .i64 c]
def atT (t : Nat × Nat × Nat) : AV := K1h t.1 t.2.1 t.2.2
abbrev yv (l : Nat) : AV := .val (.func (.yield l) #[] #[])
abbrev np (n : Nat) : AV := .ptr 1 (fun _ => vi n)
theorem j1A (n : Nat) (hn : n ≤ 1000) : CtrM Tryz.prog 195 [np n] (V3 n) ((tI n).map atT) := by
 refine K1K _ Tryz.func195 rfl rfl Tryz.ntmps195 rfl fun y J Y w Z S => ?_
 refine zU ?_
 refine wt ?_
 refine W0b Y (γ := Nat) (fun i => [(0, .av (yv y)), (1, .av (np n)), (6, .av (vi n)), (7, .av (vi i))]) (fun i => (tI i).length) (fun i => i ≤ n) (fun i => n - i) 0 S (Nat.zero_le _) (ent zS trivial) ?_
 intro i hi w Z S
 refine wt ?_
 (refine j0a rfl ?_ ?_ <;> intro hb <;> (try simp only [zA, zB, zG, zC, zD, zN] at hb) <;> (try exact zQ))
 ·have hil : i < n := by omega
  refine wt ?_
  refine W0b Y (γ := Nat) (fun j => [(0, .av (yv y)), (1, .av (np n)), (3, .av (vi i)), (6, .av (vi n)), (7, .av (vi i)), (10, .av (vi i)), (11, .av (vi j))]) (fun j => (tI i ++ tJ i j).length) (fun j => j ≤ i) (fun j => i - j) 0 (by rw [show tJ i 0 = [] from rfl, List.append_nil]; exact S) (Nat.zero_le _) (ent zS trivial) ?_
  intro j hj w Z S
  refine wt ?_
  (refine j0a rfl ?_ ?_ <;> intro hb <;> (try simp only [zA, zB, zG, zC, zD, zN] at hb) <;> (try exact zQ))
  ·have hjl : j < i := by omega
   refine wt ?_
   refine W0b Y (γ := Nat) (fun k => [(0, .av (yv y)), (1, .av (np n)), (3, .av (vi i)), (4, .av (vi j)), (6, .av (vi n)), (7, .av (vi i)), (10, .av (vi i)), (11, .av (vi j)), (14, .av (vi j)), (15, .av (vi k))]) (fun k => (tI i ++ (tJ i j ++ tK i j k)).length) (fun k => k ≤ j) (fun k => j - k) 0 (by rw [show tK i j 0 = [] from rfl, List.append_nil]; exact S) (Nat.zero_le _) (ent zS trivial) ?_
   intro k hk w Z S
   refine wt ?_
   (refine j0a rfl ?_ ?_ <;> intro hb <;> (try simp only [zA, zB, zG, zC, zD, zN] at hb) <;> (try exact zQ))
   ·have hkl : k < j := by omega
    have hp := z1t hil hjl hkl
    have e0 : tK i j (k + 1) = tK i j k ++ [(k, j, i)] := rfl
    rw [e0, ← List.append_assoc, ← List.append_assoc] at hp
    have hm := Y1A hp
    rw [List.append_assoc] at hm
    refine wt ?_
    refine w1N Y S (τ := K1h k j i) (by rw [List.getElem?_map, hm]; rfl) (fun Z w v hv => ⟨k, j, i, by omega, by omega, hil, hv⟩) rfl rfl rfl (fun w' Z' S' => ?_)
    have e9 : (tI i ++ (tJ i j ++ tK i j k)).length + 1 = (tI i ++ (tJ i j ++ tK i j (k + 1))).length := by rw [e0]; simp; omega
    rw [e9] at S'
    refine wt ?_
    exact Q0E Y (g := k) (k + 1) S' zO zO (ent zS trivial)
   ·have hke : k = j := by omega
    subst hke
    have e1 : tJ i (k + 1) = tJ i k ++ tK i k k := rfl
    rw [← e1] at S
    refine wt ?_
    exact Q0E Y (g := k) (k + 1) S zO zO (ent zS trivial)
  ·have hje : j = i := by omega
   subst hje
   have e1 : tI (j + 1) = tI j ++ tJ j j := rfl
   rw [← e1] at S
   refine wt ?_
   exact Q0E Y (g := j) (j + 1) S zO zO (ent zS trivial)
 ·have hie : i = n := by omega
  subst hie
  have e1 : (tI i).length = ((tI i).map atT).length := by rw [List.length_map]
  rw [e1] at S
  refine wt ?_
  exact z1d Y rfl S
abbrev tcl (n : Nat) : AV := .clo 195 1 (fun i => [np n].getD i .any)
theorem x1h (n : Nat) : CtrA Tryz.prog 128 [vi n] (tcl n) := by
 refine j0r _ Tryz.func128 rfl rfl Tryz.ntmps128 rfl fun w Z => ?_
 refine zU ?_
 refine wt ?_
 exact zV
end Go.Proofs.YtfggdokihnopeaaGreatDoor.H
namespace Go.Proofs.YtfggdokihnopeaaGreatDoor.H
open Go Go.Vc Go.RowKit Go.Na Go.Lib
set_option maxHeartbeats 4000000
theorem j1w (l : List Tr) (hl : RT l) (a b c : Nat) (ha : a < l.length) (hb' : b < l.length) (hc : c < l.length) (hn : l.length ≤ 1000) : CtrA Tryz.prog 129 [ts l, vi 1, at3 a b c] (Z1O 1 (thr l 1 a b c)) := by
 have h1 := W0w (gt l a) (gt l b) (gt l c) (hl a) (hl b) (hl c)
 refine j0r _ Tryz.func129 rfl rfl Tryz.ntmps129 rfl fun w Z => ?_
 refine zU ?_
 refine wt ?_
 (refine j0a rfl ?_ ?_ <;> intro hb <;> (try simp only [zA, zB, zG, zC, zD, zN] at hb) <;> (try exact zQ))
 ·refine wt ?_
  refine j0j (j0n (t := 69) (is := []) (xs := []) (vs := []) j1u rfl rfl) rfl ?_
  refine wt ?_
  rw [W0W (k := 1) hb]
  exact j0v (rvs := [_, _, _]) (τs := [_, _, _]) rfl rfl ⟨.agg (us := [_, _, _, _, _]) rfl rfl rfl rfl, .tmp rfl, .tmp rfl, trivial⟩ rfl
 have hne : cz (nvP (gt l a) (gt l b) (gt l c)) 1 ≠ 0 := hb
 have hpos : 0 < cz (nP l 1 a b c) 1 := x0M hne
 have hT0 := @W0U l 1 a b c zE hne
 have hT1 := @W0V l 1 a b c zE hne
 have hnb := BT.np hl 1 a b c
 have hmb := q1e hnb (hl a)
 have hnP : nP l 1 a b c = upP 1 (nvP (gt l a) (gt l b) (gt l c)) := rfl
 have hm : mP l 1 a b c = w0z (nP l 1 a b c) (gt l a) := rfl
 have hA : aP l 1 a b c = Rat.divInt (mP l 1 a b c) (nP l 1 a b c).y := rfl
 have hB : bP l 1 a b c = Rat.divInt (-(nP l 1 a b c).x) (nP l 1 a b c).y := rfl
 have hC : cP l 1 a b c = Rat.divInt (-(nP l 1 a b c).z) (nP l 1 a b c).y := rfl
 have hnv := (BT.nv (hl a) (hl b) (hl c)).sq
 obtain ⟨⟨⟨_, _⟩, ⟨_, _⟩⟩, ⟨_, _⟩⟩ := hnv
 rw [hA, hB, hC] at hT1
 rw [← hm] at hmb
 generalize mP l 1 a b c = m at *
 generalize nP l 1 a b c = n at *
 refine wt ?_
 refine q1p [(0, .av (ts l)), (1, .av (vi 1)), (5, .av (.ptr 3 (fun i => .val ([Value.int .i64 a, .int .i64 b, .int .i64 c].getD i Go.undef)))), (6, .own 10 0), (9, .av (.ptr 3 (tpf n)))] [(10, .cells [.av (vi 0), .av (vS []), .av (vS []), .av (vS []), .av (.val (.slice none 0 0))])] ?_ ?_
 ·(refine j0a rfl ?_ ?_ <;> intro hb <;> (try simp only [zA, zB, zG, zC, zD, zN] at hb) <;> (try exact zQ))
  ·have e : n = ⟨-(nvP (gt l a) (gt l b) (gt l c)).x, -(nvP (gt l a) (gt l b) (gt l c)).y, -(nvP (gt l a) (gt l b) (gt l c)).z⟩ := hnP.trans (if_pos hb)
   refine wt ?_
   rw [e]
   exact q0h ((j0A 9 11 (tpf _) rfl rfl rfl).trans (ent zS zT))
  ·have e : n = nvP (gt l a) (gt l b) (gt l c) := hnP.trans (if_neg (by simpa [cz] using hb))
   refine wt ?_
   rw [e]
   exact q0h ((j0A 9 11 (tpf _) rfl rfl rfl).trans (ent zS zT))
 have hd0 := V0c n (gt l a) (hnb.le zE) (hl a)
 rw [← hm] at hd0
 refine wt ?_
 refine j0j (j0n (t := 69) (is := [0]) (xs := [_]) (vs := [_]) (W1a 1) rfl rfl) rfl ?_
 refine wt ?_
 refine j0h (γ := Nat) (fun i => [(0, .av (ts l)), (1, .av (vi 1)), (6, .own 10 0), (9, .av (.ptr 3 (tpf n))), (11, .av (.clo 197 1 (fun i => [AV.ptr 3 (tpf n)].getD i .any))), (12, .av (vi m)), (13, .own 11 0), (74, .av (ts l)), (75, .av (vi l.length)), (76, .av (vi i))])
  (fun i => [(10, .cells [.av (vi 0), .av (vS []), .av (vS []), .av (vS []), .av (.val (.slice none 0 0))]), (11, .cells [.av (vi 1), .av (vS []), .av (vS []), .av (vS []), .osl 20]), (20, .row 3 1 (onD l n m i).length (xf (onD l n m i)))]) (fun i => i ≤ l.length ∧ ∀ j, j < i → m ≤ w0z n (gt l j)) (fun i => l.length - i) 0 ⟨Nat.zero_le _, by omega⟩
  ((w0g (r := 11) (off := 4) 20 3 1 (xf []) rfl rfl rfl).trans (ent zS zT)) ?_
 rintro i ⟨hi, hall⟩
 have hol := Z0m l n m i
 refine wt ?_
 (refine j0a rfl ?_ ?_ <;> intro hb <;> (try simp only [zA, zB, zG, zC, zD, zN] at hb) <;> (try exact zQ))
 ·have hil : i < l.length := by omega
  have hd := V0c n (gt l i) (hnb.le zE) (hl i)
  have hsu := W0y l n m i
  refine wt ?_
  (refine j0a rfl ?_ ?_ <;> intro hb <;> (try simp only [zA, zB, zG, zC, zD, zN] at hb) <;> (try exact zQ))
  ·rw [hT0 hil hb]
   refine wt ?_
   refine j0j (j0n (t := 69) (is := []) (xs := []) (vs := []) j1u rfl rfl) rfl ?_
   refine wt ?_
   exact j0v (rvs := [_, _, _]) (τs := [_, _, _]) rfl rfl ⟨.agg (us := [_, _, _, _, _]) rfl rfl rfl rfl, .tmp rfl, .tmp rfl, trivial⟩ rfl
  ·have hge : m ≤ w0z n (gt l i) := by omega
   refine wt ?_
   (refine j0a rfl ?_ ?_ <;> intro hb <;> (try simp only [zA, zB, zG, zC, zD, zN] at hb) <;> (try exact zQ))
   ·rw [if_pos hb] at hsu
    refine wt ?_
    exact j0b (i + 1) ⟨by omega, v0z hall hge⟩ (by omega) (ent zS ⟨⟨_, rfl, .refl _⟩, ⟨_, rfl, .refl _⟩, ⟨_, rfl, .row (by rw [hsu]) (fun _ _ _ _ => by rw [hsu])⟩, trivial⟩)
   ·rw [if_neg hb] at hsu
    refine wt ?_
    exact j0b (i + 1) ⟨by omega, v0z hall hge⟩ (by omega) (ent zS ⟨⟨_, rfl, .refl _⟩, ⟨_, rfl, .refl _⟩, ⟨_, rfl, .row (by rw [hsu]) (fun _ _ _ _ => by rw [hsu])⟩, trivial⟩)
 have hil : i = l.length := by omega
 subst hil
 rw [hT1 hall]
 obtain ⟨⟨⟨_, _⟩, ⟨_, _⟩⟩, ⟨_, _⟩⟩ := hnb.sq
 have hx0 : 0 < n.y := hpos
 refine wt ?_
 refine q0n (v0d (z0f _) rfl rfl) rfl ?_
 refine wt ?_
 refine q0n (v0d (z0f _) rfl rfl) rfl ?_
 refine wt ?_
 refine q0n (v0d (z0f _) rfl rfl) rfl ?_
 refine wt ?_
 refine x0l (y0q 30 rfl (fun p1 p2 p3 w => x1f _ _ _ p1 p2 p3 w) rfl rfl rfl) rfl rfl ?_
 refine wt ?_
 refine q0n (Y0X rfl rfl) rfl ?_
 refine wt ?_
 have qA := x0c m n.y zO zO zO
 have qB := x0c (-n.x) n.y zO zO zO
 have qC := x0c (-n.z) n.y zO zO zO
 generalize Rat.divInt m n.y = A at *
 generalize Rat.divInt (-n.x) n.y = B at *
 generalize Rat.divInt (-n.z) n.y = C at *
 refine j0h (γ := Nat) (fun i => [(1, .av (vi 1)), (6, .own 10 0), (9, .av (.ptr 3 (tpf n))), (13, .own 11 0), (123, .osl 30), (124, .av (vi 3)), (125, .av (vi i))])
  (fun i => [(30, .srow 266 2 3 [.own 11 1, .av (vi m), .own 11 2, .av (vi (-n.x)), .own 11 3, .av (vi (-n.z))]), (10, .cells [.av (vi 0), .av (vS []), .av (vS []), .av (vS []), .av (.val (.slice none 0 0))]), (11, .cells (k1e 1 A B C i)), (20, .row 3 1 (onD l n m l.length).length (xf (onD l n m l.length)))])
  (fun i => i ≤ 3) (fun i => 3 - i) 0 (Nat.zero_le _) (ent zS zT) ?_
 intro i hi
 match i, hi with
 |0, _ =>
  refine wt ?_
  refine j0j (v0e (k := 0) rfl rfl rfl rfl zO) rfl ?_
  refine wt ?_
  refine j0j (v0f rfl rfl rfl rfl) rfl ?_
  refine wt ?_
  refine q0M (q0J rfl rfl rfl rfl rfl) ?_
  refine wt ?_
  exact j0b 1 zO zO (ent zS zT)
 |1, _ =>
  refine wt ?_
  refine j0j (v0e (k := 1) rfl rfl rfl rfl zO) rfl ?_
  refine wt ?_
  refine j0j (v0f rfl rfl rfl rfl) rfl ?_
  refine wt ?_
  refine q0M (q0J rfl rfl rfl rfl rfl) ?_
  refine wt ?_
  exact j0b 2 zO zO (ent zS zT)
 |2, _ =>
  refine wt ?_
  refine j0j (v0e (k := 2) rfl rfl rfl rfl zO) rfl ?_
  refine wt ?_
  refine j0j (v0f rfl rfl rfl rfl) rfl ?_
  refine wt ?_
  refine q0M (q0J rfl rfl rfl rfl rfl) ?_
  refine wt ?_
  exact j0b 3 zO zO (ent zS zT)
 |3, _ =>
  refine wt ?_
  refine Z0g (j0J 11 20 4 rfl rfl rfl rfl) ?_
  refine j0j (j0l (f := pAf 1 (rtx A) (rtx B) (rtx C) (idx (onD l n m l.length))) rfl rfl rfl) rfl ?_
  refine wt ?_
  refine q0M (j0t rfl rfl (x0C _ _ _ _ _) rfl rfl) ?_
  refine wt ?_
  exact j0v (rvs := [_, _, _]) (τs := [_, _, _]) rfl rfl ⟨.aggv (f := pAf 1 (rtx A) (rtx B) (rtx C) (idx (onD l n m l.length))) rfl rfl rfl, .tmp rfl, .tmp rfl, trivial⟩ rfl
 |_ + 4, h => omega
theorem j1x (l : List Tr) (hl : RT l) (a b c : Nat) (ha : a < l.length) (hb' : b < l.length) (hc : c < l.length) (hn : l.length ≤ 1000) : CtrA Tryz.prog 129 [ts l, vi 2, at3 a b c] (Z1O 2 (thr l 2 a b c)) := by
 have h1 := W0w (gt l a) (gt l b) (gt l c) (hl a) (hl b) (hl c)
 refine j0r _ Tryz.func129 rfl rfl Tryz.ntmps129 rfl fun w Z => ?_
 refine zU ?_
 refine wt ?_
 (refine j0a rfl ?_ ?_ <;> intro hb <;> (try simp only [zA, zB, zG, zC, zD, zN] at hb) <;> (try exact zQ))
 ·refine wt ?_
  refine j0j (j0n (t := 69) (is := []) (xs := []) (vs := []) j1u rfl rfl) rfl ?_
  refine wt ?_
  rw [W0W (k := 2) hb]
  exact j0v (rvs := [_, _, _]) (τs := [_, _, _]) rfl rfl ⟨.agg (us := [_, _, _, _, _]) rfl rfl rfl rfl, .tmp rfl, .tmp rfl, trivial⟩ rfl
 have hne : cz (nvP (gt l a) (gt l b) (gt l c)) 2 ≠ 0 := hb
 have hpos : 0 < cz (nP l 2 a b c) 2 := x0M hne
 have hT0 := @W0U l 2 a b c zE hne
 have hT1 := @W0V l 2 a b c zE hne
 have hnb := BT.np hl 2 a b c
 have hmb := q1e hnb (hl a)
 have hnP : nP l 2 a b c = upP 2 (nvP (gt l a) (gt l b) (gt l c)) := rfl
 have hm : mP l 2 a b c = w0z (nP l 2 a b c) (gt l a) := rfl
 have hA : aP l 2 a b c = Rat.divInt (mP l 2 a b c) (nP l 2 a b c).z := rfl
 have hB : bP l 2 a b c = Rat.divInt (-(nP l 2 a b c).x) (nP l 2 a b c).z := rfl
 have hC : cP l 2 a b c = Rat.divInt (-(nP l 2 a b c).y) (nP l 2 a b c).z := rfl
 have hnv := (BT.nv (hl a) (hl b) (hl c)).sq
 obtain ⟨⟨⟨_, _⟩, ⟨_, _⟩⟩, ⟨_, _⟩⟩ := hnv
 rw [hA, hB, hC] at hT1
 rw [← hm] at hmb
 generalize mP l 2 a b c = m at *
 generalize nP l 2 a b c = n at *
 refine wt ?_
 refine q1p [(0, .av (ts l)), (1, .av (vi 2)), (5, .av (.ptr 3 (fun i => .val ([Value.int .i64 a, .int .i64 b, .int .i64 c].getD i Go.undef)))), (6, .own 10 0), (9, .av (.ptr 3 (tpf n)))] [(10, .cells [.av (vi 0), .av (vS []), .av (vS []), .av (vS []), .av (.val (.slice none 0 0))])] ?_ ?_
 ·(refine j0a rfl ?_ ?_ <;> intro hb <;> (try simp only [zA, zB, zG, zC, zD, zN] at hb) <;> (try exact zQ))
  ·have e : n = ⟨-(nvP (gt l a) (gt l b) (gt l c)).x, -(nvP (gt l a) (gt l b) (gt l c)).y, -(nvP (gt l a) (gt l b) (gt l c)).z⟩ := hnP.trans (if_pos hb)
   refine wt ?_
   rw [e]
   exact q0h ((j0A 9 11 (tpf _) rfl rfl rfl).trans (ent zS zT))
  ·have e : n = nvP (gt l a) (gt l b) (gt l c) := hnP.trans (if_neg (by simpa [cz] using hb))
   refine wt ?_
   rw [e]
   exact q0h ((j0A 9 11 (tpf _) rfl rfl rfl).trans (ent zS zT))
 have hd0 := V0c n (gt l a) (hnb.le zE) (hl a)
 rw [← hm] at hd0
 refine wt ?_
 refine j0j (j0n (t := 69) (is := [0]) (xs := [_]) (vs := [_]) (W1a 2) rfl rfl) rfl ?_
 refine wt ?_
 refine j0h (γ := Nat) (fun i => [(0, .av (ts l)), (1, .av (vi 2)), (6, .own 10 0), (9, .av (.ptr 3 (tpf n))), (11, .av (.clo 197 1 (fun i => [AV.ptr 3 (tpf n)].getD i .any))), (12, .av (vi m)), (13, .own 11 0), (74, .av (ts l)), (75, .av (vi l.length)), (76, .av (vi i))])
  (fun i => [(10, .cells [.av (vi 0), .av (vS []), .av (vS []), .av (vS []), .av (.val (.slice none 0 0))]), (11, .cells [.av (vi 2), .av (vS []), .av (vS []), .av (vS []), .osl 20]), (20, .row 3 1 (onD l n m i).length (xf (onD l n m i)))]) (fun i => i ≤ l.length ∧ ∀ j, j < i → m ≤ w0z n (gt l j)) (fun i => l.length - i) 0 ⟨Nat.zero_le _, by omega⟩
  ((w0g (r := 11) (off := 4) 20 3 1 (xf []) rfl rfl rfl).trans (ent zS zT)) ?_
 rintro i ⟨hi, hall⟩
 have hol := Z0m l n m i
 refine wt ?_
 (refine j0a rfl ?_ ?_ <;> intro hb <;> (try simp only [zA, zB, zG, zC, zD, zN] at hb) <;> (try exact zQ))
 ·have hil : i < l.length := by omega
  have hd := V0c n (gt l i) (hnb.le zE) (hl i)
  have hsu := W0y l n m i
  refine wt ?_
  (refine j0a rfl ?_ ?_ <;> intro hb <;> (try simp only [zA, zB, zG, zC, zD, zN] at hb) <;> (try exact zQ))
  ·rw [hT0 hil hb]
   refine wt ?_
   refine j0j (j0n (t := 69) (is := []) (xs := []) (vs := []) j1u rfl rfl) rfl ?_
   refine wt ?_
   exact j0v (rvs := [_, _, _]) (τs := [_, _, _]) rfl rfl ⟨.agg (us := [_, _, _, _, _]) rfl rfl rfl rfl, .tmp rfl, .tmp rfl, trivial⟩ rfl
  ·have hge : m ≤ w0z n (gt l i) := by omega
   refine wt ?_
   (refine j0a rfl ?_ ?_ <;> intro hb <;> (try simp only [zA, zB, zG, zC, zD, zN] at hb) <;> (try exact zQ))
   ·rw [if_pos hb] at hsu
    refine wt ?_
    exact j0b (i + 1) ⟨by omega, v0z hall hge⟩ (by omega) (ent zS ⟨⟨_, rfl, .refl _⟩, ⟨_, rfl, .refl _⟩, ⟨_, rfl, .row (by rw [hsu]) (fun _ _ _ _ => by rw [hsu])⟩, trivial⟩)
   ·rw [if_neg hb] at hsu
    refine wt ?_
    exact j0b (i + 1) ⟨by omega, v0z hall hge⟩ (by omega) (ent zS ⟨⟨_, rfl, .refl _⟩, ⟨_, rfl, .refl _⟩, ⟨_, rfl, .row (by rw [hsu]) (fun _ _ _ _ => by rw [hsu])⟩, trivial⟩)
 have hil : i = l.length := by omega
 subst hil
 rw [hT1 hall]
 obtain ⟨⟨⟨_, _⟩, ⟨_, _⟩⟩, ⟨_, _⟩⟩ := hnb.sq
 have hx0 : 0 < n.z := hpos
 refine wt ?_
 refine q0n (v0d (z0f _) rfl rfl) rfl ?_
 refine wt ?_
 refine q0n (v0d (z0f _) rfl rfl) rfl ?_
 refine wt ?_
 refine q0n (v0d (z0f _) rfl rfl) rfl ?_
 refine wt ?_
 refine x0l (y0q 30 rfl (fun p1 p2 p3 w => x1f _ _ _ p1 p2 p3 w) rfl rfl rfl) rfl rfl ?_
 refine wt ?_
 refine q0n (Y0X rfl rfl) rfl ?_
 refine wt ?_
 have qA := x0c m n.z zO zO zO
 have qB := x0c (-n.x) n.z zO zO zO
 have qC := x0c (-n.y) n.z zO zO zO
 generalize Rat.divInt m n.z = A at *
 generalize Rat.divInt (-n.x) n.z = B at *
 generalize Rat.divInt (-n.y) n.z = C at *
 refine j0h (γ := Nat) (fun i => [(1, .av (vi 2)), (6, .own 10 0), (9, .av (.ptr 3 (tpf n))), (13, .own 11 0), (123, .osl 30), (124, .av (vi 3)), (125, .av (vi i))])
  (fun i => [(30, .srow 266 2 3 [.own 11 1, .av (vi m), .own 11 2, .av (vi (-n.x)), .own 11 3, .av (vi (-n.y))]), (10, .cells [.av (vi 0), .av (vS []), .av (vS []), .av (vS []), .av (.val (.slice none 0 0))]), (11, .cells (k1e 2 A B C i)), (20, .row 3 1 (onD l n m l.length).length (xf (onD l n m l.length)))])
  (fun i => i ≤ 3) (fun i => 3 - i) 0 (Nat.zero_le _) (ent zS zT) ?_
 intro i hi
 match i, hi with
 |0, _ =>
  refine wt ?_
  refine j0j (v0e (k := 0) rfl rfl rfl rfl zO) rfl ?_
  refine wt ?_
  refine j0j (v0f rfl rfl rfl rfl) rfl ?_
  refine wt ?_
  refine q0M (q0J rfl rfl rfl rfl rfl) ?_
  refine wt ?_
  exact j0b 1 zO zO (ent zS zT)
 |1, _ =>
  refine wt ?_
  refine j0j (v0e (k := 1) rfl rfl rfl rfl zO) rfl ?_
  refine wt ?_
  refine j0j (v0f rfl rfl rfl rfl) rfl ?_
  refine wt ?_
  refine q0M (q0J rfl rfl rfl rfl rfl) ?_
  refine wt ?_
  exact j0b 2 zO zO (ent zS zT)
 |2, _ =>
  refine wt ?_
  refine j0j (v0e (k := 2) rfl rfl rfl rfl zO) rfl ?_
  refine wt ?_
  refine j0j (v0f rfl rfl rfl rfl) rfl ?_
  refine wt ?_
  refine q0M (q0J rfl rfl rfl rfl rfl) ?_
  refine wt ?_
  exact j0b 3 zO zO (ent zS zT)
 |3, _ =>
  refine wt ?_
  refine Z0g (j0J 11 20 4 rfl rfl rfl rfl) ?_
  refine j0j (j0l (f := pAf 2 (rtx A) (rtx B) (rtx C) (idx (onD l n m l.length))) rfl rfl rfl) rfl ?_
  refine wt ?_
  refine q0M (j0t rfl rfl (x0C _ _ _ _ _) rfl rfl) ?_
  refine wt ?_
  exact j0v (rvs := [_, _, _]) (τs := [_, _, _]) rfl rfl ⟨.aggv (f := pAf 2 (rtx A) (rtx B) (rtx C) (idx (onD l n m l.length))) rfl rfl rfl, .tmp rfl, .tmp rfl, trivial⟩ rfl
 |_ + 4, h => omega
theorem w1X (l : List Tr) (hl : RT l) {k : Nat} (hk : k < 3) (a b c : Nat) (ha : a < l.length) (hb : b < l.length) (hc : c < l.length) (hn : l.length ≤ 1000) : CtrA Tryz.prog 129 [ts l, vi (k : Int), at3 a b c] (Z1O k (thr l k a b c)) := by
 rcases (by omega : k = 0 ∨ k = 1 ∨ k = 2) with rfl | rfl | rfl
 ·exact j1v l hl a b c ha hb hc hn
 ·exact j1w l hl a b c ha hb hc hn
 ·exact j1x l hl a b c ha hb hc hn
end Go.Proofs.YtfggdokihnopeaaGreatDoor.H
namespace Go.Proofs.YtfggdokihnopeaaGreatDoor.H
open Go Go.Vc Go.Na
theorem Z0d (a b : Pl) : leP a b = true ↔ ltP a b ∨ eqP a b := by
 unfold leP
 rw [Bool.not_eq_true', decide_eq_false_iff_not]
 unfold ltP eqP lt3
 grind
theorem y1j (a : Pl) : eqP a a := ⟨rfl, rfl, rfl⟩
theorem z1O {L : List Pl} (hs : L.Pairwise (fun a b => leP a b = true)) (hu : ∀ p ∈ L, ∀ q ∈ L, eqP p q → p = q) :
  ∀ m, m ≤ L.length → Asc (q0A L m) ∧ (∀ r, r ∈ q0A L m ↔ ∃ i, i < m ∧ gP L i = r)
 |0, _ => ⟨by simp [q0A, Asc], fun r => by simp [q0A]⟩
 |m + 1, hm => by
  obtain ⟨h1, h2⟩ := z1O hs hu m zO
  rw [w0S]
  have hle : ∀ i, i < m → leP (gP L i) (gP L m) = true := fun i hi => by
   have := List.pairwise_iff_getElem.1 hs i m zO zO hi
   rwa [W0m zO, W0m zO]
  by_cases hm0 : m = 0
  ·subst hm0
   rw [if_pos (by simp [x0q])]
   refine ⟨by simp [q0A, Asc], fun r => ?_⟩
   rw [List.mem_append]
   constructor
   ·rintro (h | h)
    ·simp [q0A] at h
    ·exact ⟨0, by omega, (List.mem_singleton.1 h).symm⟩
   ·rintro ⟨i, hi, rfl⟩
    obtain rfl : i = 0 := by omega
    exact .inr (by simp)
  ·split
   ·rename_i hc
    have hne : ¬ eqP (gP L m) (gP L (m - 1)) := by simpa [x0q, hm0] using hc
    refine ⟨List.pairwise_append.2 ⟨h1, by simp, fun a ha b hb => ?_⟩, fun r => ?_⟩
    ·obtain rfl := List.mem_singleton.1 hb
     obtain ⟨i, hi, rfl⟩ := (h2 a).1 ha
     rcases (Z0d _ _).1 (hle i hi) with h | h
     ·exact h
     ·exfalso
      apply hne
      have a1 : leP (gP L i) (gP L (m - 1)) = true := by
       by_cases e : i = m - 1
       ·subst e; exact (Z0d _ _).2 (.inr (y1j _))
       ·have := List.pairwise_iff_getElem.1 hs i (m - 1) zO zO zO
        rwa [W0m zO, W0m zO]
      have a2 := hle (m - 1) zO
      rw [Z0d] at a1 a2
      generalize gP L i = x at *
      generalize gP L (m - 1) = y at *
      generalize gP L m = z at *
      unfold ltP eqP at *
      grind
    ·rw [List.mem_append, h2]
     constructor
     ·rintro (⟨i, hi, rfl⟩ | h)
      ·exact ⟨i, by omega, rfl⟩
      ·exact ⟨m, by omega, (List.mem_singleton.1 h).symm⟩
     ·rintro ⟨i, hi, rfl⟩
      by_cases e : i = m
      ·subst e; exact .inr (by simp)
      ·exact .inl ⟨i, by omega, rfl⟩
   ·rename_i hc
    have hne : eqP (gP L m) (gP L (m - 1)) := by simpa [x0q, hm0] using hc
    have he : gP L m = gP L (m - 1) := hu _ (x0u zO) _ (x0u zO) hne
    refine ⟨h1, fun r => ?_⟩
    rw [h2]
    constructor
    ·rintro ⟨i, hi, rfl⟩; exact ⟨i, by omega, rfl⟩
    ·rintro ⟨i, hi, rfl⟩
     by_cases e : i = m
     ·subst e; exact ⟨i - 1, by omega, he.symm⟩
     ·exact ⟨i, by omega, rfl⟩
theorem J0z {L : List Pl} {p : Pl} : p ∈ K0o L ↔ p ∈ L := (List.mergeSort_perm L leP).mem_iff
theorem k0a (l : List Tr) (k : Nat) : Q0Q (K0o (z0Y l k)) = j0W l k := by
 obtain ⟨h1, h2⟩ := z1O (L := K0o (z0Y l k)) (List.pairwise_mergeSort J1h J1g _) (fun p hp q hq => Q0I (J0z.1 hp) (J0z.1 hq)) _ (Nat.le_refl _)
 obtain ⟨h3, h4⟩ := J0F l k
 refine j1S h1 h3 (fun r => ?_)
 rw [h4, ← J0z (L := z0Y l k)]
 rw [show r ∈ Q0Q (K0o (z0Y l k)) ↔ _ from h2 r]
 constructor
 ·rintro ⟨i, hi, rfl⟩; exact x0u hi
 ·intro hr
  obtain ⟨i, hi, rfl⟩ := List.getElem_of_mem hr
  exact ⟨i, hi, W0m hi⟩
theorem W0S (L : List Pl) : (K0o L).length = L.length := List.length_mergeSort L
theorem K0s (l : List Tr) (k : Nat) : (z0Y l k).length ≤ l.length * (l.length * l.length) := by
 unfold z0Y
 have := List.length_filterMap_le (z1m l k) (W1N l.length)
 have h2 : (W1N l.length).length ≤ l.length * (l.length * l.length) := by rw [j1t]; exact w1Q _
 exact Nat.le_trans this h2
theorem J0A {n d : Int} (hn : -9000000000000000000 ≤ n ∧ n ≤ 9000000000000000000) (hd : -9000000000000000000 ≤ d ∧ d ≤ 9000000000000000000) (h0 : d ≠ 0) : LR 400 (Rat.divInt n d) := by
 have l : ∀ x : Int, -9000000000000000000 ≤ x ∧ x ≤ 9000000000000000000 → LI 400 x := fun x hx => LI.mono (k := 19) (show x.natAbs < 10 ^ 19 by omega) zE
 exact v0Q h0 (l _ hn) (l _ hd)
theorem BT.cz {A : Int} {n : Tr} (h : BT A n) (k : Nat) : -A ≤ cz n k ∧ cz n k ≤ A := by
 match k with
 |0 => exact ⟨h.x.1, h.x.2⟩
 |1 => exact ⟨h.y.1, h.y.2⟩
 |k + 2 => exact ⟨h.z.1, h.z.2⟩
theorem z1J {A B : Int} {p q : Tr} (h : BT A p) (h' : BT B q) : -(3 * (A * B)) ≤ w0z p q ∧ w0z p q ≤ 3 * (A * B) := by
 have h1 := q0z h.x h'.x
 have h2 := q0z h.y h'.y
 have h3 := q0z h.z h'.z
 unfold w0z
 omega
theorem W1e {l : List Tr} (hl : RT l) {k : Nat} (hk : k < 3) {P : Pl} (h : P ∈ z0Y l k) : PLR P := by
 obtain ⟨⟨a, b, c⟩, _, h⟩ := List.mem_filterMap.1 h
 have h' : thr l k a b c = some P := h
 unfold thr at h'
 split at h'
 ·cases h'
 ·rename_i hz
  unfold mkP at h'
  split at h'
  ·cases h'
  ·injection h' with h'
   subst h'
   have hn := BT.np hl k a b c
   have h1 := hn.cz k
   have h2 := hn.cz (ou k)
   have h3 := hn.cz (ov k)
   have h4 : cz (nP l k a b c) k ≠ 0 := by have := x0M (k := k) (n := nvP (gt l a) (gt l b) (gt l c)) hz; unfold nP; omega
   refine ⟨J0A ?_ zO h4, J0A zO zO h4, J0A zO zO h4⟩
   unfold mP
   have hm := z1J hn (hl a)
   omega
end Go.Proofs.YtfggdokihnopeaaGreatDoor.H
namespace Go.Proofs.YtfggdokihnopeaaGreatDoor.H
open Go Go.Vc Go.RowKit Go.Na
set_option maxHeartbeats 4000000
theorem X1j {P : Program} {fn : Func} {f : FuncId} {c : Code} {args : List AV} {res : AV} (N : Nat) (hf : P.funcs[f]? = some fn) (hb : fn.body = some c) (hname : (fn.name == "runtime.NumGoroutine") = false) (hN : fn.ntmps = N) (hlen' : Nat.ble args.length N = true)
  (h : ∀ w Z, CQ P (v0y N w Z) (j1m P fn (Q1d w Z res)) (x0w 0 (args.map SV.av)) [] c) : CtrA P f args res :=
 ⟨x0t hf hb hname, fun w Z vs hZ hvs => callsIn_wide.1 (callsIn_of_wp_marks (n := 0) hf hb trivial ((h w Z).sq _ w (y0Q hN hlen' hZ hvs)))⟩
def cellOf (x : Value) (j : Nat) : Value := match x with | .agg cs => cs.toList.getD j undef | _ => undef
def V1n (x : Value) : Nat := match x with | .int _ i => i.toNat | _ => 0
def X1q (x : Value) : Nat × Nat × Nat := (V1n (cellOf x 0), V1n (cellOf x 1), V1n (cellOf x 2))
def x1G (l : List Tr) (k : Nat) (pre : List Value) : List Pl := pre.filterMap fun x => z1m l k (X1q x)
theorem y1P (l : List Tr) (k : Nat) (pre : List Value) (x : Value) : x1G l k (pre ++ [x]) = x1G l k pre ++ (z1m l k (X1q x)).toList := by
 unfold x1G
 rw [List.filterMap_append]
 cases h : z1m l k (X1q x) <;> simp [List.filterMap, h]
theorem y1Q (l : List Tr) (k : Nat) (pre : List Value) : (x1G l k pre).length ≤ pre.length := List.length_filterMap_le _ _
theorem y1O {l : List Tr} {k n : Nat} {xs : List Value} {Z : j0s} {w : World} (h : All2 (fun τ v => AV.ok Z w τ v) ((tI n).map atT) xs) : x1G l k xs = (tI n).filterMap (z1m l k) := by
 have key : ∀ (L : List (Nat × Nat × Nat)) (xs : List Value), All2 (fun τ v => AV.ok Z w τ v) (L.map atT) xs → x1G l k xs = L.filterMap (z1m l k) := by
  intro L
  induction L with
  |nil => intro xs h; match xs, h with | [], _ => rfl
  |cons t L ih =>
   intro xs h
   match xs, h with
   |x :: xs, h =>
    obtain ⟨h1, h2⟩ := h
    have e : x = .agg #[.int .i64 t.1, .int .i64 t.2.1, .int .i64 t.2.2] := h1
    have e2 : X1q x = t := by rw [e]; rfl
    have := ih xs h2
    unfold x1G at this ⊢
    rw [List.filterMap_cons, List.filterMap_cons, e2, this]
 exact key _ _ h
def Y0K (l : List Tr) (k : Nat) : AV :=
 if chk (x0j l k) ≠ 0 then j0B [.val (.slice none 0 0), vi (chk (x0j l k))] else if w0c (x0j l k) = true then j0B [.val (.slice none 0 0), vi 14] else j0B [.sl (j0W l k).length 5 (pf5 k (j0W l k)), vi 0]
theorem j2b (a b c d e : Value) (w : World) : (Instr.buildSlice 64 1 #[(0, .agg #[a, b, c, d, e])]).run Tryz.prog w = .ok (.slice (some ⟨w.heap.size, 0, none⟩) 1 1) (w.alloc (.cells #[a, b, c, d, e] 69)) := by kernel_rfl
theorem K1J (κ : Int) (P : Pl) : ∀ (Z : j0s) (w : World) (vs : List Value), All2 (fun τ v => AV.ok Z w τ v) [pR κ P] vs → ∃ cs : List Value, (Instr.buildSlice 64 1 ([0].zip vs).toArray).run Tryz.prog w = .ok (.slice (some ⟨w.heap.size, 0, none⟩) 1 1) (w.alloc (.cells cs.toArray 69)) ∧ ∀ i, i < 1 → ∀ j, j < 5 → ∃ u, cs[i * 5 + j]? = some u ∧ (pf5 κ [P] i j).ok Z w u := fun Z w vs h => by
 match vs, h with
 |[v], ⟨⟨cs, hv, hl, hc⟩, _⟩ =>
  match cs, hl with
  |[c0, c1, c2, c3, c4], _ =>
   subst hv
   refine ⟨_, j2b _ _ _ _ _ _, fun i hi j hj => ?_⟩
   obtain rfl : i = 0 := by omega
   rw [Nat.zero_mul, Nat.zero_add]
   exact hc j hj
theorem V1u (κ : Int) (L : List Pl) (P : Pl) : ∀ i, i < L.length + 1 → ∀ j, j < 5 → q0H L.length (pf5 κ L) (pf5 κ [P]) i j = pf5 κ (L ++ [P]) i j := by
 intro i hi j hj
 unfold q0H pf5
 rw [z1Z]
 by_cases h : i < L.length
 ·rw [if_pos h, if_pos h]
 ·have e : i = L.length := by omega
  subst e
  rw [if_neg h, if_neg h, if_pos rfl, Nat.sub_self]
  rfl
theorem Q1r (l : List Tr) (hl : RT l) {k : Nat} (hk : k < 3) (hn : l.length ≤ 9) : CtrA Tryz.prog 71 [ts l, vi (k : Int)] (Y0K l k) := by
 have hp := (y1L l hk zO).ro
 have hc := X1i (x0j l k)
 have ht := x1h l.length
 refine X1j _ Tryz.func71 rfl rfl Tryz.ntmps71 rfl fun w Z => ?_
 refine zU ?_
 refine wt ?_
 (refine j0a rfl ?_ ?_ <;> intro hb <;> (try simp only [zA, zB, zG, zC, zD, zN] at hb) <;> (try exact zQ))
 ·refine wt ?_
  exact Y1Q (j0v (rvs := [_, _]) (τs := [_, _]) rfl rfl ⟨.cell rfl rfl rfl, .cell rfl rfl rfl, trivial⟩ (by unfold Y0K; rw [if_pos hb]))
 ·have hb0 := hb
  have hE : x1Z (x0j l k) = w0c (x0j l k) := by unfold x1Z; rw [if_pos hb]
  rw [hE]
  refine wt ?_
  (refine j0a rfl ?_ ?_ <;> intro hb <;> (try simp only [zA, zB, zG, zC, zD, zN] at hb) <;> (try exact zQ))
  ·refine wt ?_
   exact Y1Q (j0v (rvs := [_, _]) (τs := [_, _]) rfl rfl ⟨.cell rfl rfl rfl, .cell rfl rfl rfl, trivial⟩ (by unfold Y0K; rw [if_neg (fun h => h hb0), if_pos hb]))
  ·refine wt ?_
   refine v0p (w0g (r := 12) (off := 0) 100 69 5 (pf5 k []) rfl rfl rfl) ?_
   refine q1r rfl rfl (j1A l.length zO) [9, 10, 11, 12, 27, 28, 29, 30, 31, 32, 33, 34, 35, 36, 37, 38, 39, 40, 41, 42, 43, 100] [(2, .av (.ptr 1 (fun _ => ts l))), (3, .av (.ptr 1 (fun _ => vi (k : Int)))), (4, .own 10 0), (5, .own 11 0), (8, .own 12 0), (26, .av (tcl l.length))]
    (fun pre => [(100, .row 69 5 (x1G l k pre).length (pf5 k (x1G l k pre))), (12, .cells [.osl 100]), (11, .cells [.av (vi 0)]), (10, .cells [.av (.val (.slice none 0 0))])]) (fun x => [(9, .av (.ptr 3 (fun j => .val (cellOf x j))))])
    (ent zS zT) rfl rfl rfl rfl (fun _ => rfl) ?_ ?_ ?_
   ·rintro lp a0 w0 Z0 keep pre x ⟨a, b, c, ha, hb1, hc1, rfl⟩
    refine wt ?_
    exact V1M (Ent.trans (j0A 9 13 (fun j => .val (cellOf (.agg #[.int .i64 a, .int .i64 b, .int .i64 c]) j)) rfl rfl rfl) (ent zS zT))
   ·rintro lp a0 w0 Z0 keep pre x ⟨a, b, c, ha, hb1, hc1, rfl⟩ hlen
    have hT := w1X l hl hk a b c ha hb1 hc1 zO
    have hpa := y1P l k pre (.agg #[.int .i64 a, .int .i64 b, .int .i64 c])
    rw [show z1m l k (X1q (.agg #[.int .i64 a, .int .i64 b, .int .i64 c])) = thr l k a b c from rfl] at hpa
    have hpl : pre.length ≤ 729 := by
     rw [List.length_map] at hlen
     have := w1Q l.length
     have : l.length * (l.length * l.length) ≤ 9 * (9 * 9) := Nat.mul_le_mul hn (Nat.mul_le_mul hn hn)
     omega
    have hpl2 := y1Q l k pre
    cases hth : thr l k a b c with
    |none =>
     rw [hth] at hT hpa
     rw [show (Option.none : Option Pl).toList = [] from rfl, List.append_nil] at hpa
     refine wt ?_
     rw [hpa]
     exact W0P (ent zS zT)
    |some P =>
     rw [hth] at hT hpa
     rw [show (some P).toList = [P] from rfl] at hpa
     refine wt ?_
     refine q0M (j0t rfl rfl (x0C _ _ _ _ _) rfl rfl) ?_
     refine wt ?_
     refine j0j (j0l (f := pAf k (rtx P.A) (rtx P.B) (rtx P.C) (idx P.s)) rfl rfl rfl) rfl ?_
     refine wt ?_
     refine j0j (w0h (is := [0]) (xs := [_]) (τs := [pR k P]) (row := pf5 k [P]) rfl rfl (K1J k P) rfl) rfl ?_
     refine wt ?_
     refine j0C (q0x (h := pf5 k [P]) (m := 1) rfl rfl rfl (fun i hi j hj => x0C _ _ _ _ _ j hj) (by omega) (by simp only [maxLen]; omega) (by omega)) rfl ?_
     refine wt ?_
     rw [hpa]
     exact W0P (ent zS ⟨⟨_, rfl, .row (by simp) (fun i hi j hj => V1u _ _ _ i (by simpa using hi) j hj)⟩, ⟨_, rfl, .refl _⟩, ⟨_, rfl, .refl _⟩, ⟨_, rfl, .refl _⟩, trivial⟩)
   ·intro D w2 xs Z1 ν a hA hR h
    have hxs : x1G l k xs = z0Y l k := (y1O (l := l) (k := k) hR).trans (by unfold z0Y; rw [j1t])
    have hlr : ∀ p ∈ z0Y l k, PLR p := fun p hp => W1e hl hk hp
    have htl := K0s l k
    have : l.length * (l.length * l.length) ≤ 9 * (9 * 9) := Nat.mul_le_mul hn (Nat.mul_le_mul hn hn)
    have hs1 := V1L k (z0Y l k) hlr (fun f hf g hg => Q0I hf hg) zO
    have hs2 := K0F k (K0o (z0Y l k)) (fun p hp => hlr p (J0z.1 hp)) (by rw [W0S]; omega)
    rw [W0S, k0a] at hs2
    rw [hxs] at h
    refine J1x ⟨_, _, h⟩ ?_
    refine wt ?_
    refine j0C (z1w hs1 rfl rfl rfl) rfl ?_
    refine wt ?_
    refine j0C (Y0z hs2 rfl rfl rfl) rfl ?_
    refine wt ?_
    exact Y0o hA (w1L (j0J 10 100 0 rfl rfl rfl rfl) (j0v (rvs := [_, _]) (τs := [_, _]) rfl rfl ⟨.cell rfl rfl rfl, .cell rfl rfl rfl, trivial⟩ (by unfold Y0K; rw [if_neg (fun h => h hb0), if_neg (by rw [hb]; decide)])))
theorem Q1B (l : List UInt8) : Lib.cut l [47] = match spI l with | some i => (l.take i, l.drop (i + 1), true) | none => (l, [], false) := by
 cases hI : spI l with
 |none =>
  have h : (47 : UInt8) ∉ l := fun h => by
   have := List.findIdx?_eq_none_iff.1 hI 47 h
   simp at this
  unfold Lib.cut
  dsimp only
  rw [V0t h, if_neg (by omega)]
 |some i =>
  obtain ⟨h1, h2, h3⟩ := K0j hI
  have e : Lib.cut (l.take i ++ 47 :: l.drop (i + 1)) [47] = (l.take i, l.drop (i + 1), true) := by
   generalize l.take i = a at h2
   unfold Lib.cut
   rw [k0F h2, if_pos (by omega)]
   simp
  rw [← h1] at e
  exact e
theorem y1S (l : List UInt8) (hl : l.length ≤ 1000000) : CtrA Tryz.prog 164 [vS l] (j0B [vS (spN l), vS (spD l), vb (spI l).isSome]) := by
 have h1 := Q1C l hl
 have hs1 : spN l = match spI l with | some i => l.take i | none => l := rfl
 have hs2 : spD l = match spI l with | some i => l.drop (i + 1) | none => [49] := rfl
 rw [Q1B] at h1
 cases hI : spI l with
 |none =>
  rw [hI] at h1 hs1 hs2
  dsimp only at h1 hs1 hs2
  rw [hs1, hs2]
  refine j0r _ Tryz.func164 rfl rfl Tryz.ntmps164 rfl fun w Z => ?_
  refine zU ?_
  refine wt ?_
  exact zX
 |some i =>
  rw [hI] at h1 hs1 hs2
  dsimp only at h1 hs1 hs2
  rw [hs1, hs2]
  refine j0r _ Tryz.func164 rfl rfl Tryz.ntmps164 rfl fun w Z => ?_
  refine zU ?_
  refine wt ?_
  exact zX
theorem j2d : vI 1 = vS [49] := by rw [vI, X0O]
theorem ratcheck_c (l : List UInt8) (hl : l.length ≤ 400) : CtrA Tryz.prog 97 [vS l] (vi (q0T l)) := by
 have h1 := y1S l zO
 have ln := w1F l
 have ld := w1C l
 have c1 := X0d (spN l) zO
 have c2 := X0d (spD l) zO
 rcases y0B (l := spN l) zO with e1 | e1
 case inr =>
  rw [e1] at c1
  refine j0r _ Tryz.func97 rfl rfl Tryz.ntmps97 rfl fun w Z => ?_
  refine zU ?_
  refine wt ?_
  exact j0c rfl (.tmp rfl) (congrArg vi (w0e fun h => by
   obtain ⟨m, hm⟩ := (x0x _).1 (w0Z h).1
   rw [hm, J0L (x0m (by rw [← hm]; omega))] at e1
   cases e1).symm)
 obtain ⟨m, hm⟩ := J0g e1
 rcases y0B (l := spD l) zO with e2 | e2
 case inr =>
  rw [e1] at c1
  rw [e2] at c2
  refine j0r _ Tryz.func97 rfl rfl Tryz.ntmps97 rfl fun w Z => ?_
  refine zU ?_
  refine wt ?_
  exact j0c rfl (.tmp rfl) (congrArg vi (w0e fun h => by
   obtain ⟨m, hm⟩ := (x0x _).1 (w0Z h).2
   rw [hm, J0L (x0m (by rw [← hm]; omega))] at e2
   cases e2).symm)
 obtain ⟨e, he⟩ := J0g e2
 rw [e1] at c1
 rw [e2] at c2
 have hs1 : spN l = match spI l with | some i => l.take i | none => l := rfl
 have hs2 : spD l = match spI l with | some i => l.drop (i + 1) | none => [49] := rfl
 cases hI : spI l with
 |none =>
  rw [hI] at h1 hs1
  dsimp only at hs1
  refine j0r _ Tryz.func97 rfl rfl Tryz.ntmps97 rfl fun w Z => ?_
  refine zU ?_
  refine wt ?_
  exact j0c rfl (.tmp rfl) (congrArg vi (by rw [← hs1, hm]; exact (if_pos (X0N m)).symm))
 |some i =>
  rw [hI] at h1 hs1 hs2
  dsimp only at hs1 hs2
  obtain ⟨hl2, _, hil⟩ := K0j hI
  rw [← hs1, ← hs2, hm, he] at hl2
  have hiff := X0M m e
  rw [← hl2] at hiff
  have lm : LI 401 m := x0m (by rw [← hm]; omega)
  have le : LI 401 e := x0m (by rw [← he]; omega)
  rw [hm] at h1 c1
  rw [he] at h1 c2
  have ho := z0H e 1 (le.mono zE) (.small zE zE)
  rw [j2d] at ho
  have hsh := x1q m e (lm.mono zE) (le.mono zE)
  have h49 := k0H ((Nat.gcd m.natAbs e.natAbs : Nat) : Int)
  by_cases h0 : 1 < e
  ·have es : Na.sgn (e - 1) = 1 := by unfold Na.sgn; rw [if_neg (by omega), if_neg (by omega)]
   rw [es] at ho
   by_cases hg : Nat.gcd m.natAbs e.natAbs = 1
   ·rw [decide_eq_true (by omega)] at h49
    refine j0r _ Tryz.func97 rfl rfl Tryz.ntmps97 rfl fun w Z => ?_
    refine zU ?_
    refine wt ?_
    rw [h49]
    refine wt ?_
    exact j0c rfl (.tmp rfl) (congrArg vi (if_pos (hiff.2 ⟨h0, hg⟩)).symm)
   ·rw [decide_eq_false (by omega)] at h49
    refine j0r _ Tryz.func97 rfl rfl Tryz.ntmps97 rfl fun w Z => ?_
    refine zU ?_
    refine wt ?_
    rw [h49]
    refine wt ?_
    exact j0c rfl (.tmp rfl) (congrArg vi (w0e fun h => hg (hiff.1 h).2).symm)
  ·have hbad : q0T l = 3 := w0e fun h => h0 (hiff.1 h).1
   rw [hbad]
   by_cases h1' : e = 1
   ·have es : Na.sgn (e - 1) = 0 := by unfold Na.sgn; rw [if_pos (by omega)]
    rw [es] at ho
    refine j0r _ Tryz.func97 rfl rfl Tryz.ntmps97 rfl fun w Z => ?_
    refine zU ?_
    refine wt ?_
    exact zV
   ·have es : Na.sgn (e - 1) = -1 := by unfold Na.sgn; rw [if_neg (by omega), if_pos (by omega)]
    rw [es] at ho
    refine j0r _ Tryz.func97 rfl rfl Tryz.ntmps97 rfl fun w Z => ?_
    refine zU ?_
    refine wt ?_
    exact zV
def x1K (l : List Tr) (a : Int) : AV := if x1E l a ≠ 0 then j0B [.val (.slice none 0 0), vi (x1E l a)] else Y0K l a.toNat
theorem X1E {l : List Tr} {a : Int} (hf : X1D l = true) (hg : x1E l a = 0) : RT l ∧ l.length ≤ 6 ∧ ∃ k : Nat, k < 3 ∧ a = k := by
 unfold x1E at hg
 split at hg
 ·rename_i h; exact absurd hg h
 ·rename_i h
  obtain ⟨h1, h2⟩ := RT.of (l := l) (by simpa using h)
  have h3 : l.length ≤ 6 := by unfold X1D at hf; simp at hf; omega
  split at hg
  ·rename_i h4; exact ⟨h1, h3, a.toNat, by omega, by omega⟩
  ·cases hg
theorem z0L (l : List Tr) (a : Int) (hf : X1D l = true) : CtrA Tryz.prog 26 [ts l, vi a] (x1K l a) := by
 have h1 := Q1W l a
 unfold x1K
 by_cases hg : x1E l a = 0
 ·obtain ⟨h2, h3, k, h4, rfl⟩ := X1E hf hg
  have h5 := Q1r l h2 h4 zO
  rw [if_neg (fun h => h hg), Int.toNat_natCast]
  rw [hg] at h1
  unfold Y0K at h5 ⊢
  split at h5
  ·rename_i hc
   rw [if_pos hc]
   refine j0r _ Tryz.func26 rfl rfl Tryz.ntmps26 rfl fun w Z => ?_
   refine zU ?_
   refine wt ?_
   exact zW
  ·rename_i hc
   rw [if_neg hc]
   split at h5
   ·rename_i hd
    rw [if_pos hd]
    refine j0r _ Tryz.func26 rfl rfl Tryz.ntmps26 rfl fun w Z => ?_
    refine zU ?_
    refine wt ?_
    exact zW
   ·rename_i hd
    rw [if_neg hd]
    refine j0r _ Tryz.func26 rfl rfl Tryz.ntmps26 rfl fun w Z => ?_
    refine zU ?_
    refine wt ?_
    exact zW
 ·rw [if_pos hg]
  refine j0r _ Tryz.func26 rfl rfl Tryz.ntmps26 rfl fun w Z => ?_
  refine zU ?_
  refine wt ?_
  (refine j0a rfl ?_ ?_ <;> intro hb <;> (try simp only [zA, zB, zG, zC, zD, zN] at hb) <;> (try exact zQ))
  ·refine wt ?_
   exact zW
end Go.Proofs.YtfggdokihnopeaaGreatDoor.H
section
end
section
end
namespace Go.Proofs.YtfggdokihnopeaaGreatDoor.H
open Go Go.Vc Go.RowKit Go.Na
set_option maxHeartbeats 4000000
theorem w1V (a b c : ByteArray) : Tryz.prog.built 34 [(0, .string a), (1, .string b), (2, .string c)] = some #[.string a, .string b, .string c] := by kernel_rfl
theorem Z1e (a b c : ByteArray) (w : World) : (Instr.index 34 (.agg [.string a, .string b, .string c].toArray) (.int .i64 0)).run Tryz.prog w = .ok (.string a) w := by kernel_rfl
theorem Z1f (a b c : ByteArray) (w : World) : (Instr.index 34 (.agg [.string a, .string b, .string c].toArray) (.int .i64 1)).run Tryz.prog w = .ok (.string b) w := by kernel_rfl
theorem Z1g (a b c : ByteArray) (w : World) : (Instr.index 34 (.agg [.string a, .string b, .string c].toArray) (.int .i64 2)).run Tryz.prog w = .ok (.string c) w := by kernel_rfl
noncomputable def plE (a : Int) (A B C : List UInt8) : Int := if ¬ (0 ≤ a ∧ a ≤ 2) then 1 else if q0T A ≠ 0 then q0T A else if q0T B ≠ 0 then q0T B else q0T C
theorem v1O (a : Int) (A B C : List UInt8) (s : AV) (hA : A.length ≤ 400) (hB : B.length ≤ 400) (hC : C.length ≤ 400) : CtrA Tryz.prog 216 [pA a A B C s] (vi (plE a A B C)) := by
 have hx := z1G a
 have h1 := ratcheck_c A hA
 have h2 := ratcheck_c B hB
 have h3 := ratcheck_c C hC
 refine j0r _ Tryz.func216 rfl rfl Tryz.ntmps216 rfl fun w Z => ?_
 refine zU ?_
 refine wt ?_
 (refine j0a rfl ?_ ?_ <;> intro hb <;> (try simp only [zA, zB, zG, zC, zD, zN] at hb) <;> (try exact zQ))
 ·refine wt ?_
  have ha : ¬ (0 ≤ a ∧ a ≤ 2) := fun h => by rw [if_pos h] at hb; exact hb rfl
  exact j0c rfl (.tmp rfl) (congrArg vi (by unfold plE; rw [if_pos ha, if_neg ha]))
 ·have ha : 0 ≤ a ∧ a ≤ 2 := by
   by_cases h : 0 ≤ a ∧ a ≤ 2
   ·exact h
   ·rw [if_neg h] at hb; cases hb
  refine wt ?_
  refine j0j (j0n (t := 34) (is := [0, 1, 2]) (xs := [_, _, _]) (vs := [_, _, _]) (w1V _ _ _) rfl rfl) rfl ?_
  refine wt ?_
  refine j0h (γ := Nat) (fun i => [(19, .av (.val (.agg [.string (bs A), .string (bs B), .string (bs C)].toArray))), (20, .av (vi i))]) (fun _ => []) (fun i => i ≤ 3 ∧ (0 < i → q0T A = 0) ∧ (1 < i → q0T B = 0) ∧ (2 < i → q0T C = 0)) (fun i => 3 - i) 0 ⟨by omega, by omega, by omega, by omega⟩ (ent zS trivial) ?_
  rintro i ⟨hi, q1, q2, q3⟩
  match i, hi, q1, q2, q3 with
  |0, _, _, _, _ =>
   refine wt ?_
   refine j0j (q0m (Z1e _ _ _) rfl rfl) rfl ?_
   refine wt ?_
   (refine j0a rfl ?_ ?_ <;> intro hb <;> (try simp only [zA, zB, zG, zC, zD, zN] at hb) <;> (try exact zQ))
   ·refine wt ?_
    exact j0c rfl (.tmp rfl) (congrArg vi (by unfold plE; rw [if_neg (fun h => h ha), if_pos hb]))
   ·refine wt ?_
    exact j0b 1 ⟨by omega, fun _ => hb, by omega, by omega⟩ zO (ent zS trivial)
  |1, _, q1, _, _ =>
   have e1 := q1 zO
   refine wt ?_
   refine j0j (q0m (Z1f _ _ _) rfl rfl) rfl ?_
   refine wt ?_
   (refine j0a rfl ?_ ?_ <;> intro hb <;> (try simp only [zA, zB, zG, zC, zD, zN] at hb) <;> (try exact zQ))
   ·refine wt ?_
    exact j0c rfl (.tmp rfl) (congrArg vi (by unfold plE; rw [if_neg (fun h => h ha), if_neg (fun h => h e1), if_pos hb]))
   ·refine wt ?_
    exact j0b 2 ⟨by omega, fun _ => e1, fun _ => hb, by omega⟩ zO (ent zS trivial)
  |2, _, q1, q2, _ =>
   have e1 := q1 zO
   have e2 := q2 zO
   refine wt ?_
   refine j0j (q0m (Z1g _ _ _) rfl rfl) rfl ?_
   refine wt ?_
   (refine j0a rfl ?_ ?_ <;> intro hb <;> (try simp only [zA, zB, zG, zC, zD, zN] at hb) <;> (try exact zQ))
   ·refine wt ?_
    exact j0c rfl (.tmp rfl) (congrArg vi (by unfold plE; rw [if_neg (fun h => h ha), if_neg (fun h => h e1), if_neg (fun h => h e2)]))
   ·refine wt ?_
    exact j0b 3 ⟨by omega, fun _ => e1, fun _ => e2, fun _ => hb⟩ zO (ent zS trivial)
  |3, _, q1, q2, q3 =>
   have e1 := q1 zO
   have e2 := q2 zO
   have e3 := q3 zO
   refine wt ?_
   exact j0c rfl (.tmp rfl) (congrArg vi (by unfold plE; rw [if_neg (fun h => h ha), if_neg (fun h => h e1), if_neg (fun h => h e2), e3]))
  |_ + 4, h, _, _, _ => omega
theorem W1M (p : Tr) {k : Nat} (hk : k < 3) (w : World) : (Instr.index 22 (.agg [.int .i64 p.x, .int .i64 p.y, .int .i64 p.z].toArray) (.int .i64 (k : Int))).run Tryz.prog w = .ok (.int .i64 (cz p k)) w := by
 rcases (by omega : k = 0 ∨ k = 1 ∨ k = 2) with rfl | rfl | rfl
 ·exact J1K _ _ _ _
 ·exact J1L _ _ _ _
 ·exact J1M _ _ _ _
theorem X1f (p : Tr) : w0A [p] = if j0Z p = true then 0 else 2 := by
 unfold w0A
 rw [if_neg (by simp)]
 simp
theorem K0u (p : Tr) (w : World) : (Instr.buildSlice 23 1 #[(0, .agg #[.int .i64 p.x, .int .i64 p.y, .int .i64 p.z])]).run Tryz.prog w = .ok (.slice (some ⟨w.heap.size, 0, none⟩) 1 1) (w.alloc (.cells #[.int .i64 p.x, .int .i64 p.y, .int .i64 p.z] 43)) := by kernel_rfl
theorem w0v (p : Tr) : ∀ i, i < 1 → ∀ j, j < 3 → ∃ u, ([.int .i64 p.x, .int .i64 p.y, .int .i64 p.z] : List Value)[i * 3 + j]? = some u ∧ tf [p] i j = .val u := fun i hi j hj => by
 obtain rfl : i = 0 := by omega
 rcases (by omega : j = 0 ∨ j = 1 ∨ j = 2) with rfl | rfl | rfl <;> exact ⟨_, rfl, rfl⟩
end Go.Proofs.YtfggdokihnopeaaGreatDoor.H
