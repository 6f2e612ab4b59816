/- A part of the proof. -/
import Derived.DeepKeys
import Derived.Test.YtfggdokihnopeaaGreatDoorCas
set_option linter.unusedVariables false
set_option linter.unusedSimpArgs false
namespace Go.Proofs.YtfggdokihnopeaaGreatDoor.H
open Go Go.Vc Go.RowKit
open Go.Na (rtx LR j0v v0j rsg)
set_option maxHeartbeats 4000000
theorem X1u (a b c d e f : ByteArray) : Tryz.prog.built 36 [(0, .agg #[.string a, .string b, .string c]), (1, .agg #[.string d, .string e, .string f])] = some #[.string a, .string b, .string c, .string d, .string e, .string f] := by kernel_rfl
theorem J1V (t : Nat → Rat) : CtrA Tryz.prog 60 [t6 t] (t6 t) := by
 refine j0s _ Tryz.func60 rfl rfl Tryz.ntmps60 rfl fun w Z => ?_
 refine zU ?_
 refine wt ?_
 refine j0j (j0m (t := 34) (is := [0, 1, 2]) (xs := [_, _, _]) (vs := [sv (rtx (t 0)), sv (rtx (t 1)), sv (rtx (t 2))]) (v1N _ _ _) rfl rfl) rfl ?_
 refine wt ?_
 refine j0j (j0m (t := 34) (is := [0, 1, 2]) (xs := [_, _, _]) (vs := [sv (rtx (t 3)), sv (rtx (t 4)), sv (rtx (t 5))]) (v1N _ _ _) rfl rfl) rfl ?_
 refine wt ?_
 refine j0j (j0m (t := 36) (is := [0, 1]) (xs := [_, _]) (vs := [.agg #[sv (rtx (t 0)), sv (rtx (t 1)), sv (rtx (t 2))], .agg #[sv (rtx (t 3)), sv (rtx (t 4)), sv (rtx (t 5))]]) (X1u _ _ _ _ _ _) rfl rfl) rfl ?_
 refine wt ?_
 exact j0c rfl (.agg (us := t6L t) rfl rfl rfl rfl) rfl
theorem Y1d : CtrA Tryz.prog 49 [] (t6 (fun _ => 0)) := by
 have hm := J1V (fun _ => 0)
 have e0 : t6 (fun _ => 0) = .val (.agg #[sv [48], sv [48], sv [48], sv [48], sv [48], sv [48]]) := by
  show AV.val (.agg #[sv (rtx 0), sv (rtx 0), sv (rtx 0), sv (rtx 0), sv (rtx 0), sv (rtx 0)]) = _
  rw [rtx_0]
 rw [e0] at hm ⊢
 refine j0s _ Tryz.func49 rfl rfl Tryz.ntmps49 rfl fun w Z => ?_
 refine zU ?_
 refine wt ?_
 refine j0j (j0m (t := 113) (is := [0, 1, 2, 3, 4, 5]) (xs := [_, _, _, _, _, _]) (vs := [sv [48], sv [48], sv [48], sv [48], sv [48], sv [48]]) (z1p _ _ _ _ _ _) rfl rfl) rfl ?_
 refine wt ?_
 exact j0c rfl (.agg (us := [sv [48], sv [48], sv [48], sv [48], sv [48], sv [48]]) rfl rfl rfl rfl) rfl
def dcl (l : List Tr) (k : Nat) : Nat → AV := fun i => [AV.ptr 1 (fun _ => vi ((k : Nat) : Int)), AV.ptr 1 (fun _ => ts l)].getD i .any
def dfB (l : List Tr) (k : Nat) (p : Tr) : Bool := cz p k != cz (gt l 0) k
theorem V1S (l : List Tr) (k : Nat) (hk : k < 3) (hl : 0 < l.length) (p : Tr) : CtrA Tryz.prog 188 [tp p, .ptr 1 (fun _ => vi ((k : Nat) : Int)), .ptr 1 (fun _ => ts l)] (vb (dfB l k p)) := by
 have h1 := w0S p hk
 have h2 := w0S (gt l 0) hk
 refine j0s _ Tryz.func188 rfl rfl Tryz.ntmps188 rfl fun w Z => ?_
 refine zU ?_
 refine wt ?_
 exact zV
theorem Y1O (l : List Tr) (k : Nat) (hk : k < 3) (hn : l.length ≤ 1000) : CtrA Tryz.prog 253 [ts l, .clo 188 2 (dcl l k)] (vi (ixB (fun i => dfB l k (gt l i)) l.length)) := by
 refine j0s _ Tryz.func253 rfl rfl Tryz.ntmps253 rfl fun w Z => ?_
 refine zU ?_
 refine wt ?_
 refine j0g (γ := Nat) (fun i => [(0, .av (ts l)), (1, .av (.clo 188 2 (dcl l k))), (6, .av (ts l)), (7, .av (vi l.length)), (8, .av (vi i))]) (fun _ => []) (fun i => i ≤ l.length ∧ ∀ j, j < i → dfB l k (gt l j) = false) (fun i => l.length - i) 0 ⟨Nat.zero_le _, by omega⟩ (ent zS trivial) ?_
 rintro i ⟨hi, hall⟩
 refine wt ?_
 (refine j0a rfl ?_ ?_ <;> intro hb <;> (try simp only [zA, zB, zG, zC, zD, zN] at hb) <;> (try exact zQ))
 ·have hil : i < l.length := by omega
  have hc := V1S l k hk zO (gt l i)
  refine wt ?_
  refine j0a rfl (fun hb => ?_) (fun hb => ?_)
  ·have e1 := Y0j (p := fun i => dfB l k (gt l i)) hil hall hb
   refine wt ?_
   exact j0c rfl (.tmp rfl) (by rw [e1])
  ·refine wt ?_
   exact j0b (i + 1) ⟨by omega, Z0w (p := fun i => dfB l k (gt l i)) hall hb⟩ zO (ent zS trivial)
 ·have hil : i = l.length := by omega
  subst hil
  have e1 := Z0M (p := fun i => dfB l k (gt l i)) hall
  refine wt ?_
  exact j0c rfl (.tmp rfl) (by rw [e1])
def V1s (l : List Tr) (k : Nat) : Bool := decide (0 ≤ ixB (fun i => dfB l k (gt l i)) l.length)
theorem Y1A (l : List Tr) (k : Nat) (hk : k < 3) (hn : l.length ≤ 1000) : CtrA Tryz.prog 187 [ts l, .clo 188 2 (dcl l k)] (vb (V1s l k)) := by
 have h := Y1O l k hk hn
 refine j0s _ Tryz.func187 rfl rfl Tryz.ntmps187 rfl fun w Z => ?_
 refine zU ?_
 refine wt ?_
 exact zV
theorem w1T (l : List Tr) (k : Nat) (hk : k < 3) (hn : l.length ≤ 1000) : CtrA Tryz.prog 123 [ts l, vi (k : Int)] (vb (V1s l k)) := by
 have h := Y1A l k hk hn
 refine j0s _ Tryz.func123 rfl rfl Tryz.ntmps123 rfl fun w Z => ?_
 refine zU ?_
 refine wt ?_
 exact zV
theorem X1E (a : Int) (w : World) : (Instr.buildSlice 37 1 #[(0, .int .i64 a)]).run Tryz.prog w = .ok (.slice (some ⟨w.heap.size, 0, none⟩) 1 1) (w.alloc (.cells #[.int .i64 a] 3)) := by kernel_rfl
def wcl (k : Nat) : Nat → AV := fun i => [AV.ptr 1 (fun _ => vi ((k : Nat) : Int))].getD i .any
def wcn (k i : Nat) : Nat := if i ≤ k then i else i - 1
def wrw (p : Tr) (k j : Nat) : Int := match j with | 0 => cz p (ou k) | _ => cz p (ov k)
theorem Y1b (p : Tr) {k i : Nat} (hk : k < 3) (hi : i < 3) (h : i ≠ k) : wrw p k (wcn k i) = cz p i := by
 rcases (by omega : k = 0 ∨ k = 1 ∨ k = 2) with rfl | rfl | rfl <;> rcases (by omega : i = 0 ∨ i = 1 ∨ i = 2) with rfl | rfl | rfl <;> first | rfl | exact absurd rfl h
theorem V1n (p : Tr) (k : Nat) (hk : k < 3) : CtrA Tryz.prog 185 [tp p, .ptr 1 (fun _ => vi (k : Int))] (.val (.agg #[.int .i64 (plc k p).x, .int .i64 (plc k p).y])) := by
 refine j0s _ Tryz.func185 rfl rfl Tryz.ntmps185 rfl fun w Z => ?_
 refine zU ?_
 refine wt ?_
 refine w0h (v0L (dd := 4) 20 3 1 (fun j _ => vi (wrw p k j)) rfl rfl) ?_
 refine j0g (γ := Nat) (fun i => [(1, .av (.ptr 1 (fun _ => vi (k : Int)))), (2, .av (.ptr 3 (fun i => .val ([Value.int .i64 p.x, .int .i64 p.y, .int .i64 p.z].getD i undef)))), (3, .own 10 0), (4, .osl 20), (6, .av (vi i))]) (fun i => [(20, .row 3 1 (wcn k i) (fun j _ => vi (wrw p k j))), (10, .cells [.av (vi 0), .av (vi 0)])]) (fun i => i ≤ 3) (fun i => 3 - i) 0 zO (ent zS ⟨⟨_, rfl, .row rfl (fun a ha => absurd ha zO)⟩, ⟨_, rfl, .refl _⟩, trivial⟩) ?_
 intro i hi
 refine wt ?_
 (refine j0a rfl ?_ ?_ <;> intro hb <;> (try simp only [zA, zB, zG, zC, zD, zN] at hb) <;> (try exact zQ))
 ·have hil : i < 3 := by omega
  have h1 := w0S p hil
  refine wt ?_
  (refine j0a rfl ?_ ?_ <;> intro hb <;> (try simp only [zA, zB, zG, zC, zD, zN] at hb) <;> (try exact zQ))
  ·have hne : i ≠ k := by omega
   refine wt ?_
   refine j0j (j0S (is := [0]) (xs := [_]) (vs := [.int .i64 (cz p i)]) (us := [.int .i64 (cz p i)]) (row := fun _ _ => vi (cz p i)) (X1E _) rfl rfl rfl (W1W _)) rfl ?_
   refine wt ?_
   refine j0A (q0G (m := 1) (sz := 1) (bytes := 8) (h := fun _ _ => vi (cz p i)) rfl rfl rfl (fun _ _ _ _ => rfl) (by decide) (by simp only [maxLen, wcn]; split <;> omega) (by simp only [wcn]; split <;> omega)) rfl ?_
   refine wt ?_
   exact j0b (i + 1) zO zO (ent zS ⟨⟨_, rfl, .row (by unfold wcn; split <;> split <;> omega) (fun a ha b hb => W1Y ha (congrArg vi (Y1b p hk hil hne)))⟩, ⟨_, rfl, .refl _⟩, trivial⟩)
  ·obtain rfl : i = k := by omega
   refine wt ?_
   exact j0b (i + 1) zO zO (ent zS ⟨⟨_, rfl, .row (by unfold wcn; split <;> split <;> omega) (fun a ha b hb => rfl)⟩, ⟨_, rfl, .refl _⟩, trivial⟩)
 ·obtain rfl : i = 3 := by omega
  refine wt ?_
  have e3 : wcn k 3 = 2 := by unfold wcn; split <;> omega
  rw [e3]
  refine j0z (v0m 20 rfl) ?_
  refine j0j (W1m rfl zE) rfl ?_
  refine wt ?_
  exact j0c rfl (.agg (us := [.int .i64 (plc k p).x, .int .i64 (plc k p).y]) rfl rfl rfl rfl) rfl
def wcr (l : List Tr) (k i j : Nat) : Int := ((plc k (gt l i)).x - (plc k (gt l 0)).x) * ((plc k (gt l j)).y - (plc k (gt l 0)).y) - ((plc k (gt l i)).y - (plc k (gt l 0)).y) * ((plc k (gt l j)).x - (plc k (gt l 0)).x)
def lnB (l : List Tr) (k : Nat) : Bool := (List.range l.length).all fun i => (List.range i).all fun j => decide (wcr l k i j = 0)
theorem x1T {B : Int} {a b : Int} (h1 : -B ≤ a ∧ a ≤ B) (h2 : -B ≤ b ∧ b ≤ B) : -(2 * B) ≤ a - b ∧ a - b ≤ 2 * B := by omega
theorem q1H {k : Nat} {p : Tr} (h : BT 100000 p) : -100000 ≤ (plc k p).x ∧ (plc k p).x ≤ 100000 := h.cz _
theorem q1I {k : Nat} {p : Tr} (h : BT 100000 p) : -100000 ≤ (plc k p).y ∧ (plc k p).y ≤ 100000 := h.cz _
theorem k0B (l : List Tr) (k : Nat) (hk : k < 3) (hB : ∀ i, BT 100000 (gt l i)) (hn : l.length ≤ 1000) : CtrA Tryz.prog 122 [ts l, vi (k : Int)] (vb (!lnB l k)) := by
 refine j0s _ Tryz.func122 rfl rfl Tryz.ntmps122 rfl fun w Z => ?_
 refine zU ?_
 refine wt ?_
 refine j0g (γ := Nat) (fun i => [(0, .av (ts l)), (5, .av (.clo 185 1 (wcl k))), (13, .av (vi l.length)), (14, .av (vi i))]) (fun _ => []) (fun i => i ≤ l.length ∧ ∀ a, a < i → ∀ b, b < a → wcr l k a b = 0) (fun i => l.length - i) 0 ⟨Nat.zero_le _, by omega⟩ (ent zS trivial) ?_
 rintro i ⟨hi, hI⟩
 refine wt ?_
 (refine j0a rfl ?_ ?_ <;> intro hb <;> (try simp only [zA, zB, zG, zC, zD, zN] at hb) <;> (try exact zQ))
 ·have hil : i < l.length := by omega
  refine wt ?_
  refine j0g (γ := Nat) (fun j => [(0, .av (ts l)), (5, .av (.clo 185 1 (wcl k))), (13, .av (vi l.length)), (14, .av (vi i)), (6, .av (vi i)), (17, .av (vi i)), (18, .av (vi j))]) (fun _ => []) (fun j => j ≤ i ∧ ∀ b, b < j → wcr l k i b = 0) (fun j => i - j) 0 ⟨Nat.zero_le _, by omega⟩ (ent zS trivial) ?_
  rintro j ⟨hj, hJ⟩
  refine wt ?_
  (refine j0a rfl ?_ ?_ <;> intro hb <;> (try simp only [zA, zB, zG, zC, zD, zN] at hb) <;> (try exact zQ))
  ·have hji : j < i := by omega
   have c0 := V1n (gt l 0) k hk
   have c1 := V1n (gt l i) k hk
   have c2 := V1n (gt l j) k hk
   have b0 := q1H (k := k) (hB 0)
   have b1 := q1H (k := k) (hB i)
   have b2 := q1H (k := k) (hB j)
   have d0 := q1I (k := k) (hB 0)
   have d1 := q1I (k := k) (hB i)
   have d2 := q1I (k := k) (hB j)
   have m1 := q0t (x1T b1 b0) (x1T d2 d0)
   have m2 := q0t (x1T d1 d0) (x1T b2 b0)
   refine wt ?_
   (refine j0a rfl ?_ ?_ <;> intro hb <;> (try simp only [zA, zB, zG, zC, zD, zN] at hb) <;> (try exact zQ))
   ·have hw : wcr l k i j ≠ 0 := by unfold wcr; omega
    have hf : lnB l k = false := by
     unfold lnB
     rw [List.all_eq_false]
     refine ⟨i, List.mem_range.2 hil, ?_⟩
     rw [Bool.not_eq_true, List.all_eq_false]
     exact ⟨j, List.mem_range.2 hji, by simpa using hw⟩
    refine wt ?_
    exact j0c rfl (.tmp rfl) (by rw [hf]; rfl)
   ·have hw : wcr l k i j = 0 := by unfold wcr; omega
    refine wt ?_
    exact j0b (j + 1) ⟨by omega, fun b hb1 => by
     by_cases e : b = j
     ·subst e; exact hw
     ·exact hJ b zO⟩ zO (ent zS trivial)
  ·obtain rfl : j = i := by omega
   refine wt ?_
   exact j0b (j + 1) ⟨by omega, fun a ha b hb1 => by
    by_cases e : a = j
    ·subst e; exact hJ b hb1
    ·exact hI a zO b hb1⟩ zO (ent zS trivial)
 ·obtain rfl : i = l.length := by omega
  have hf : lnB l k = true := by
   unfold lnB
   rw [List.all_eq_true]
   intro a ha
   rw [List.all_eq_true]
   intro b hb1
   exact decide_eq_true (hI a (List.mem_range.1 ha) b (List.mem_range.1 hb1))
  refine wt ?_
  exact j0c rfl (.tmp rfl) (by rw [hf]; rfl)
def enB (S : Sys) : Bool := !lnB (S.sp 0) (S.ax 0) && (V1s (S.sp 1) (S.ax 2) && !decide ((S.sp 2).length = 0))
theorem Z0p (S : Sys) (h0 : S.ax 0 < 3) (h2 : S.ax 2 < 3) (hB : ∀ i, BT 100000 (gt (S.sp 0) i)) (hn : ∀ k, k < 3 → (S.sp k).length ≤ 1000) : CtrA Tryz.prog 68 [syV S] (vi (if enB S then 0 else 14)) := by
 have c1 := k0B (S.sp 0) (S.ax 0) h0 hB (hn 0 zE)
 have c2 := w1T (S.sp 1) (S.ax 2) h2 (hn 1 zE)
 refine j0s _ Tryz.func68 rfl rfl Tryz.ntmps68 rfl fun w Z => ?_
 refine zU ?_
 unfold enB
 cases e1 : lnB (S.sp 0) (S.ax 0) with
 |true =>
  rw [e1] at c1
  refine wt ?_
  exact zV
 |false =>
  rw [e1] at c1
  cases e2 : V1s (S.sp 1) (S.ax 2) with
  |false =>
   rw [e2] at c2
   refine wt ?_
   exact zV
  |true =>
   rw [e2] at c2
   refine wt ?_
   (refine j0a rfl ?_ ?_ <;> intro hb <;> (try simp only [zA, zB, zG, zC, zD, zN] at hb) <;> (try exact zQ))
   ·refine wt ?_
    exact j0c rfl (.tmp rfl) (by rw [decide_eq_true (p := (S.sp 2).length = 0) (by omega)]; rfl)
   ·refine wt ?_
    exact j0c rfl (.tmp rfl) (by rw [decide_eq_false (p := (S.sp 2).length = 0) (by omega)]; rfl)
structure Syr where
 ax : Nat → Int
 off : Nat → Int
 sp : Nat → List Tr
def srA (R : Syr) : Nat → AV
 |0 => vi (R.ax 0)
 |1 => vi (R.ax 1)
 |2 => vi (R.ax 2)
 |3 => vi (R.off 0)
 |4 => vi (R.off 1)
 |5 => vi (R.off 2)
 |6 => ts (R.sp 0)
 |7 => ts (R.sp 1)
 |_ => ts (R.sp 2)
def axB (R : Syr) : Nat → Bool
 |0 => true
 |i + 1 => axB R i && (decide (0 ≤ R.ax i ∧ R.ax i < 3) && !(List.range i).any fun j => decide (R.ax j = R.ax i))
def ofB (R : Syr) : Bool := (List.range 3).all fun i => decide (-100000 ≤ R.off i ∧ R.off i ≤ 100000)
def spE (R : Syr) : Int := if w0z (R.sp 0) ≠ 0 then w0z (R.sp 0) else if w0z (R.sp 1) ≠ 0 then w0z (R.sp 1) else w0z (R.sp 2)
def w0N (R : Syr) : Int := if axB R 3 then (if ofB R then spE R else 2) else 1
def sn (R : Syr) (i : Nat) (k : Int) : Bool := (List.range i).any fun j => decide (R.ax j = k)
theorem x1N (R : Syr) (i : Nat) (k : Int) : sn R (i + 1) k = (sn R i k || decide (R.ax i = k)) := by
 unfold sn
 rw [List.range_succ, List.any_append]
 simp
theorem z1Y {R : Syr} {i : Nat} (h : axB R i = true) (h1 : 0 ≤ R.ax i ∧ R.ax i < 3) (h2 : sn R i (R.ax i) = false) : axB R (i + 1) = true := by
 unfold axB
 rw [h, decide_eq_true h1]
 unfold sn at h2
 rw [h2]
 rfl
theorem Y1u {R : Syr} {i : Nat} (h : ¬ (0 ≤ R.ax i ∧ R.ax i < 3) ∨ sn R i (R.ax i) = true) : axB R (i + 1) = false := by
 unfold axB
 rcases h with h | h
 ·rw [decide_eq_false h, Bool.false_and, Bool.and_false]
 ·unfold sn at h
  rw [h, Bool.not_true, Bool.and_false, Bool.and_false]
theorem V1E {R : Syr} {i : Nat} (h : axB R i = false) : ∀ d, axB R (i + d) = false
 |0 => h
 |d + 1 => by
  show (axB R (i + d) && _) = false
  rw [V1E h d, Bool.false_and]
theorem W0H {R : Syr} {i : Nat} (hi : i < 3) (h : ¬ (0 ≤ R.ax i ∧ R.ax i < 3) ∨ sn R i (R.ax i) = true) : w0N R = 1 := by
 have := V1E (Y1u h) (2 - i)
 rw [show i + 1 + (2 - i) = 3 by omega] at this
 unfold w0N
 rw [this]
 rfl
abbrev axT (R : Syr) : Tr := ⟨R.ax 0, R.ax 1, R.ax 2⟩
abbrev ofT (R : Syr) : Tr := ⟨R.off 0, R.off 1, R.off 2⟩
theorem cz3 {f : Nat → Int} {i : Nat} (hi : i < 3) : cz ⟨f 0, f 1, f 2⟩ i = f i := by
 rcases (by omega : i = 0 ∨ i = 1 ∨ i = 2) with rfl | rfl | rfl <;> rfl
theorem z1y (a b c : Value) (w : World) : (Instr.index 24 (.agg #[a, b, c]) (.int .i64 ((0 : Nat) : Int))).run Tryz.prog w = .ok a w := by kernel_rfl
theorem z1z (a b c : Value) (w : World) : (Instr.index 24 (.agg #[a, b, c]) (.int .i64 ((1 : Nat) : Int))).run Tryz.prog w = .ok b w := by kernel_rfl
theorem z1A (a b c : Value) (w : World) : (Instr.index 24 (.agg #[a, b, c]) (.int .i64 ((2 : Nat) : Int))).run Tryz.prog w = .ok c w := by kernel_rfl
theorem w1J (R : Syr) : CtrA Tryz.prog 50 [.agg 9 (srA R)] (vi (w0N R)) := by
 have k0 := x0D (R.sp 0)
 have k1 := x0D (R.sp 1)
 have k2 := x0D (R.sp 2)
 refine j0s _ Tryz.func50 rfl rfl Tryz.ntmps50 rfl fun w Z => ?_
 refine zU ?_
 refine wt ?_
 refine j0j (j0k (us := [.int .i64 (R.ax 0), .int .i64 (R.ax 1), .int .i64 (R.ax 2)]) rfl rfl rfl rfl) rfl ?_
 refine wt ?_
 refine j0g (γ := Nat) (fun i => [(1, .av (.ptr 9 (srA R))), (3, .own 10 0), (12, .av (tp (axT R))), (13, .av (vi i))]) (fun i => [(10, .cells [.av (vb (sn R i 0)), .av (vb (sn R i 1)), .av (vb (sn R i 2))])]) (fun i => i ≤ 3 ∧ axB R i = true) (fun i => 3 - i) 0 ⟨by omega, rfl⟩ (ent zS zT) ?_
 rintro i ⟨hi, hI⟩
 refine wt ?_
 (refine j0a rfl ?_ ?_ <;> intro hb <;> (try simp only [zA, zB, zG, zC, zD, zN] at hb) <;> (try exact zQ))
 ·have hil : i < 3 := by omega
  have ei := cz3 (f := R.ax) hil
  refine wt ?_
  refine j0j (q0i (V1x (axT R) hil) rfl rfl) rfl ?_
  refine wt ?_
  rw [ei]
  rcases (by omega : R.ax i < 0 ∨ 3 ≤ R.ax i ∨ R.ax i = 0 ∨ R.ax i = 1 ∨ R.ax i = 2) with h | h | h | h | h
  ·have hc := W0H (R := R) hil (.inl zO)
   (first | refine j0f rfl rfl ?_ ?_ | refine j0e rfl rfl ?_ ?_) <;> intro hb <;> (try simp only [zA, zB, zG, zC, zD, zN] at hb) <;> (try exact zQ)
   ·refine wt ?_
    exact j0c rfl (.tmp rfl) (by rw [hc])
  ·have hc := W0H (R := R) hil (.inl zO)
   (first | refine j0f rfl rfl ?_ ?_ | refine j0e rfl rfl ?_ ?_) <;> intro hb <;> (try simp only [zA, zB, zG, zC, zD, zN] at hb) <;> (try exact zQ)
   ·refine wt ?_
    (first | refine j0f rfl rfl ?_ ?_ | refine j0e rfl rfl ?_ ?_) <;> intro hb <;> (try simp only [zA, zB, zG, zC, zD, zN] at hb) <;> (try exact zQ)
    ·refine wt ?_
     exact j0c rfl (.tmp rfl) (by rw [hc])
  ·rw [h]
   cases hs : sn R i 0 with
   |true =>
    have hc := W0H (R := R) hil (.inr (by rw [h]; exact hs))
    refine wt ?_
    exact j0c rfl (.tmp rfl) (by rw [hc])
   |false =>
    have eO : ([.av (vb true), .av (vb (sn R i 1)), .av (vb (sn R i 2))] : List SV) = [.av (vb (sn R (i + 1) 0)), .av (vb (sn R (i + 1) 1)), .av (vb (sn R (i + 1) 2))] := by
     rw [x1N, x1N, x1N, h]
     simp [hs]
    refine wt ?_
    exact j0b (i + 1) ⟨by omega, z1Y hI (by omega) (by rw [h]; exact hs)⟩ (by omega) (ent zS ⟨⟨_, rfl, by rw [← eO]; exact .refl _⟩, trivial⟩)
  ·rw [h]
   cases hs : sn R i 1 with
   |true =>
    have hc := W0H (R := R) hil (.inr (by rw [h]; exact hs))
    refine wt ?_
    exact j0c rfl (.tmp rfl) (by rw [hc])
   |false =>
    have eO : ([.av (vb (sn R i 0)), .av (vb true), .av (vb (sn R i 2))] : List SV) = [.av (vb (sn R (i + 1) 0)), .av (vb (sn R (i + 1) 1)), .av (vb (sn R (i + 1) 2))] := by
     rw [x1N, x1N, x1N, h]
     simp [hs]
    refine wt ?_
    exact j0b (i + 1) ⟨by omega, z1Y hI (by omega) (by rw [h]; exact hs)⟩ (by omega) (ent zS ⟨⟨_, rfl, by rw [← eO]; exact .refl _⟩, trivial⟩)
  ·rw [h]
   cases hs : sn R i 2 with
   |true =>
    have hc := W0H (R := R) hil (.inr (by rw [h]; exact hs))
    refine wt ?_
    exact j0c rfl (.tmp rfl) (by rw [hc])
   |false =>
    have eO : ([.av (vb (sn R i 0)), .av (vb (sn R i 1)), .av (vb true)] : List SV) = [.av (vb (sn R (i + 1) 0)), .av (vb (sn R (i + 1) 1)), .av (vb (sn R (i + 1) 2))] := by
     rw [x1N, x1N, x1N, h]
     simp [hs]
    refine wt ?_
    exact j0b (i + 1) ⟨by omega, z1Y hI (by omega) (by rw [h]; exact hs)⟩ (by omega) (ent zS ⟨⟨_, rfl, by rw [← eO]; exact .refl _⟩, trivial⟩)
 ·obtain rfl : i = 3 := by omega
  refine wt ?_
  refine j0j (j0k (us := [.int .i64 (R.off 0), .int .i64 (R.off 1), .int .i64 (R.off 2)]) rfl rfl rfl rfl) rfl ?_
  refine wt ?_
  refine j0g (γ := Nat) (fun i => [(1, .av (.ptr 9 (srA R))), (31, .av (tp (ofT R))), (32, .av (vi i))]) (fun _ => []) (fun i => i ≤ 3 ∧ ∀ j, j < i → -100000 ≤ R.off j ∧ R.off j ≤ 100000) (fun i => 3 - i) 0 ⟨by omega, fun j hj => absurd hj zO⟩ (ent zS trivial) ?_
  rintro i ⟨hi, hJ⟩
  refine wt ?_
  (refine j0a rfl ?_ ?_ <;> intro hb <;> (try simp only [zA, zB, zG, zC, zD, zN] at hb) <;> (try exact zQ))
  ·have hil : i < 3 := by omega
   have ei := cz3 (f := R.off) hil
   refine wt ?_
   refine j0j (q0i (V1x (ofT R) hil) rfl rfl) rfl ?_
   refine wt ?_
   rw [ei]
   by_cases hr : -100000 ≤ R.off i ∧ R.off i ≤ 100000
   ·(first | refine j0f rfl rfl ?_ ?_ | refine j0e rfl rfl ?_ ?_) <;> intro hb <;> (try simp only [zA, zB, zG, zC, zD, zN] at hb) <;> (try exact zQ)
    ·refine wt ?_
     (refine j0a rfl ?_ ?_ <;> intro hb <;> (try simp only [zA, zB, zG, zC, zD, zN] at hb) <;> (try exact zQ))
     ·refine wt ?_
      exact j0b (i + 1) ⟨by omega, fun j hj => by
       by_cases e : j = i
       ·subst e; exact hr
       ·exact hJ j zO⟩ zO (ent zS trivial)
   ·have hc : w0N R = 2 := by
     unfold w0N
     rw [if_pos hI, if_neg]
     unfold ofB
     rw [List.all_eq_true]
     intro hall
     exact hr (by simpa using hall i (List.mem_range.2 hil))
    (first | refine j0f rfl rfl ?_ ?_ | refine j0e rfl rfl ?_ ?_) <;> intro hb <;> (try simp only [zA, zB, zG, zC, zD, zN] at hb) <;> (try exact zQ)
    ·refine wt ?_
     exact j0c rfl (.tmp rfl) (by rw [hc])
    ·refine wt ?_
     (refine j0a rfl ?_ ?_ <;> intro hb <;> (try simp only [zA, zB, zG, zC, zD, zN] at hb) <;> (try exact zQ))
     ·refine wt ?_
      exact j0c rfl (.tmp rfl) (by rw [hc])
  ·obtain rfl : i = 3 := by omega
   have hc : w0N R = spE R := by
    unfold w0N
    rw [if_pos hI, if_pos]
    unfold ofB
    rw [List.all_eq_true]
    intro j hj
    exact decide_eq_true (hJ j (List.mem_range.1 hj))
   rw [hc]
   refine wt ?_
   refine j0j (j0i rfl rfl) rfl ?_
   refine wt ?_
   refine j0g (γ := Nat) (fun i => [(1, .av (.ptr 9 (srA R))), (43, .av (.agg 3 (fun j => srA R (6 + j)))), (44, .av (vi i))]) (fun _ => []) (fun i => i ≤ 3 ∧ (1 ≤ i → w0z (R.sp 0) = 0) ∧ (2 ≤ i → w0z (R.sp 1) = 0) ∧ (3 ≤ i → w0z (R.sp 2) = 0)) (fun i => 3 - i) 0 ⟨by omega, fun h => absurd h zO, fun h => absurd h zO, fun h => absurd h zO⟩ (ent zS trivial) ?_
   rintro i ⟨hi, hK⟩
   match i, hi, hK with
   |0, _, hK =>
    refine wt ?_
    refine j0j (q0p (k := 0) zE (z1y) rfl rfl) rfl ?_
    refine wt ?_
    by_cases he : w0z (R.sp 0) = 0
    ·(refine j0a rfl ?_ ?_ <;> intro hb <;> (try simp only [zA, zB, zG, zC, zD, zN] at hb) <;> (try exact zQ))
     ·refine wt ?_
      exact j0b 1 ⟨by omega, fun _ => he, fun h => absurd h zO, fun h => absurd h zO⟩ zO (ent zS trivial)
    ·(refine j0a rfl ?_ ?_ <;> intro hb <;> (try simp only [zA, zB, zG, zC, zD, zN] at hb) <;> (try exact zQ))
     ·refine wt ?_
      exact j0c rfl (.tmp rfl) (by unfold spE; rw [if_pos he])
   |1, _, hK =>
    refine wt ?_
    refine j0j (q0p (k := 1) zE (z1z) rfl rfl) rfl ?_
    refine wt ?_
    by_cases he : w0z (R.sp 1) = 0
    ·(refine j0a rfl ?_ ?_ <;> intro hb <;> (try simp only [zA, zB, zG, zC, zD, zN] at hb) <;> (try exact zQ))
     ·refine wt ?_
      exact j0b 2 ⟨by omega, fun _ => hK.1 zO, fun _ => he, fun h => absurd h zO⟩ zO (ent zS trivial)
    ·(refine j0a rfl ?_ ?_ <;> intro hb <;> (try simp only [zA, zB, zG, zC, zD, zN] at hb) <;> (try exact zQ))
     ·refine wt ?_
      exact j0c rfl (.tmp rfl) (by unfold spE; rw [if_neg (fun h => h (hK.1 (by omega))), if_pos he])
   |2, _, hK =>
    refine wt ?_
    refine j0j (q0p (k := 2) zE (z1A) rfl rfl) rfl ?_
    refine wt ?_
    have hs : spE R = w0z (R.sp 2) := by unfold spE; rw [if_neg (fun h => h (hK.1 (by omega))), if_neg (fun h => h (hK.2.1 (by omega)))]
    by_cases he : w0z (R.sp 2) = 0
    ·(refine j0a rfl ?_ ?_ <;> intro hb <;> (try simp only [zA, zB, zG, zC, zD, zN] at hb) <;> (try exact zQ))
     ·refine wt ?_
      exact j0b 3 ⟨by omega, fun _ => hK.1 zO, fun _ => hK.2.1 zO, fun _ => he⟩ zO (ent zS trivial)
    ·(refine j0a rfl ?_ ?_ <;> intro hb <;> (try simp only [zA, zB, zG, zC, zD, zN] at hb) <;> (try exact zQ))
     ·refine wt ?_
      exact j0c rfl (.tmp rfl) (by rw [hs])
   |3, _, hK =>
    have hs : spE R = 0 := by unfold spE; rw [if_neg (fun h => h (hK.1 (by omega))), if_neg (fun h => h (hK.2.1 (by omega)))]; exact hK.2.2 (by omega)
    refine wt ?_
    exact j0c rfl (.tmp rfl) (by rw [hs])
   |i + 4, hi, _ => omega
end Go.Proofs.YtfggdokihnopeaaGreatDoor.H
namespace Go.Proofs.YtfggdokihnopeaaGreatDoor.H
open Go Go.Vc Go.RowKit
open Go.Na (rsg v1g X0t)
theorem Q0q (t u : Nat → Rat) (i k : Nat) : cmF t u i (k + 1) < 0 ↔ t i < u i ∨ t i = u i ∧ cmF t u (i + 1) k < 0 := by
 rw [show cmF t u i (k + 1) = if rsg (t i - u i) ≠ 0 then rsg (t i - u i) else cmF t u (i + 1) k from rfl]
 by_cases h : rsg (t i - u i) = 0
 ·rw [if_neg (fun c => c h)]
  have e := X0t.1 h
  constructor
  ·intro k; exact .inr ⟨e, k⟩
  ·rintro (k | ⟨_, k⟩)
   ·rw [e] at k; exact absurd k (by grind)
   ·exact k
 ·rw [if_pos h]
  constructor
  ·intro k; exact .inl (v1g.1 k)
  ·rintro (k | ⟨k, _⟩)
   ·exact v1g.2 k
   ·exact absurd (X0t.2 k) h
theorem Q0p (t u : Nat → Rat) (i k : Nat) : cmF t u i (k + 1) = 0 ↔ t i = u i ∧ cmF t u (i + 1) k = 0 := by
 rw [show cmF t u i (k + 1) = if rsg (t i - u i) ≠ 0 then rsg (t i - u i) else cmF t u (i + 1) k from rfl]
 by_cases h : rsg (t i - u i) = 0
 ·rw [if_neg (fun c => c h)]
  exact ⟨fun k => ⟨X0t.1 h, k⟩, fun k => k.2⟩
 ·rw [if_pos h]
  exact ⟨fun k => absurd k h, fun k => absurd (X0t.2 k.1) h⟩
theorem V1K (x y : Tor) : cmO x.n y.n < 0 ↔ ltO x y := by
 unfold cmO
 rw [Q0q, Q0q, Q0q, Q0q, Q0q, Q0q]
 have e : ¬ cmF x.n y.n (0 + 1 + 1 + 1 + 1 + 1 + 1) 0 < 0 := by unfold cmF; decide
 unfold ltO
 constructor
 ·rintro (h | ⟨e0, h | ⟨e1, h | ⟨e2, h | ⟨e3, h | ⟨e4, h | ⟨_, h⟩⟩⟩⟩⟩⟩)
  ·exact .inl h
  ·exact .inr ⟨e0, .inl h⟩
  ·exact .inr ⟨e0, .inr ⟨e1, .inl h⟩⟩
  ·exact .inr ⟨e0, .inr ⟨e1, .inr ⟨e2, .inl h⟩⟩⟩
  ·exact .inr ⟨e0, .inr ⟨e1, .inr ⟨e2, .inr ⟨e3, .inl h⟩⟩⟩⟩
  ·exact .inr ⟨e0, .inr ⟨e1, .inr ⟨e2, .inr ⟨e3, .inr ⟨e4, h⟩⟩⟩⟩⟩
  ·exact absurd h e
 ·rintro (h | ⟨e0, h | ⟨e1, h | ⟨e2, h | ⟨e3, h | ⟨e4, h⟩⟩⟩⟩⟩)
  ·exact .inl h
  ·exact .inr ⟨e0, .inl h⟩
  ·exact .inr ⟨e0, .inr ⟨e1, .inl h⟩⟩
  ·exact .inr ⟨e0, .inr ⟨e1, .inr ⟨e2, .inl h⟩⟩⟩
  ·exact .inr ⟨e0, .inr ⟨e1, .inr ⟨e2, .inr ⟨e3, .inl h⟩⟩⟩⟩
  ·exact .inr ⟨e0, .inr ⟨e1, .inr ⟨e2, .inr ⟨e3, .inr ⟨e4, .inl h⟩⟩⟩⟩⟩
theorem V1J (x y : Tor) : cmO x.n y.n = 0 ↔ x = y := by
 unfold cmO
 rw [Q0p, Q0p, Q0p, Q0p, Q0p, Q0p]
 constructor
 ·rintro ⟨e0, e1, e2, e3, e4, e5, _⟩
  refine J1x fun j hj => ?_
  rcases (by omega : j = 0 ∨ j = 1 ∨ j = 2 ∨ j = 3 ∨ j = 4 ∨ j = 5) with rfl | rfl | rfl | rfl | rfl | rfl
  ·exact e0
  ·exact e1
  ·exact e2
  ·exact e3
  ·exact e4
  ·exact e5
 ·rintro rfl
  exact ⟨rfl, rfl, rfl, rfl, rfl, rfl, rfl⟩
def gO (L : List Tor) (a : Nat) : Tor := L.getD a ⟨0, 0, 0, 0, 0, 0⟩
theorem W0P {L : List Tor} {a : Nat} (h : a < L.length) : gO L a = L[a] := by simp [gO, List.getD, h]
theorem J1a {L : List Tor} (hL : w1x L) (p : Tor) : ∀ a, a < L.length → (cmO (gO L a).n p.n < 0 ↔ a < y0a p L) := fun a ha => by
 rw [V1K, W0P ha]
 exact y1y hL a ha
theorem J1b (L : List Tor) (p : Tor) : (decide (y0a p L < L.length) && decide (cmO (gO L (y0a p L)).n p.n = 0)) = decide (L[y0a p L]? = some p) := by
 rw [Bool.eq_iff_iff]
 simp only [Bool.and_eq_true, decide_eq_true_eq, V1J]
 constructor
 ·rintro ⟨h, e⟩
  rw [List.getElem?_eq_getElem h, ← W0P h, e]
 ·intro h
  obtain ⟨h1, h2⟩ := List.getElem?_eq_some_iff.1 h
  exact ⟨h1, by rw [W0P h1, h2]⟩
theorem q1O {L : List Tor} {p : Tor} (h : ¬ L[y0a p L]? = some p) : (J0P p L).length = L.length + 1 := by
 rw [V0O, if_neg h]
 have := J0n p L
 simp only [List.length_append, List.length_take, List.length_cons, List.length_drop]
 omega
theorem Q1k {L : List Tor} {p : Tor} (h : ¬ L[y0a p L]? = some p) (f : Tor → Nat → AV) : ∀ a, a < L.length + 1 → ∀ j, V1u (y0a p L) (fun a => f (gO L a)) (f p) a j = f (gO (J0P p L) a) j := fun a ha j => by
 have hc := J0n p L
 have hl := q1O h
 rw [W0P (by omega)]
 unfold V1u
 have e : J0P p L = L.take (y0a p L) ++ p :: L.drop (y0a p L) := by rw [V0O, if_neg h]
 simp only [e]
 by_cases c1 : a < y0a p L
 ·rw [if_pos c1, W0P (by omega), List.getElem_append_left (by simp; omega), List.getElem_take]
 ·rw [if_neg c1, List.getElem_append_right (by simp; omega)]
  by_cases c2 : a = y0a p L
  ·rw [if_pos c2]
   have e2 : a - (L.take (y0a p L)).length = 0 := by simp; omega
   simp only [e2, List.getElem_cons_zero]
  ·rw [if_neg c2, W0P (by omega)]
   have e2 : a - (L.take (y0a p L)).length = (a - 1 - y0a p L) + 1 := by simp; omega
   simp only [e2, List.getElem_cons_succ, List.getElem_drop]
   congr 2
   omega
end Go.Proofs.YtfggdokihnopeaaGreatDoor.H
namespace Go.Proofs.YtfggdokihnopeaaGreatDoor.H
open Go Go.Vc Go.RowKit
open Go.Na (rtx LR j0v v0j rsg)
set_option maxHeartbeats 4000000
theorem Z1m (A B : Array Value) (w : World) : (Instr.buildSlice 145 2 #[(0, .func (.func 90) A #[]), (1, .func (.func 91) B #[])]).run Tryz.prog w = .ok (.slice (some ⟨w.heap.size, 0, none⟩) 2 2) (w.alloc (.cells #[.func (.func 90) A #[], .func (.func 91) B #[]] 144)) := by kernel_rfl
abbrev ch3 (S : Sys) : AV := .clo 157 2 (cla (ch2 S) (bf3 S))
def fs3 (S : Sys) : Nat → AV
 |0 => bf1 S
 |1 => ch2 S
 |_ => ch3 S
theorem One.clo (k n : Nat) (f : Nat → AV) : One (AV.clo k n f) := fun Z w v h => by obtain ⟨vs, rfl, _⟩ := h; rfl
def st2 (S : Sys) : Nat → Nat → AV
 |0, _ => bf2 S
 |_, _ => bf3 S
theorem Y1w (S : Sys) : ∀ (Z : j0q) (w : World) (vs : List Value), All2 (fun τ v => AV.ok Z w τ v) [bf2 S, bf3 S] vs → ∃ cs : List Value, (Instr.buildSlice 145 2 ([0, 1].zip vs).toArray).run Tryz.prog w = .ok (.slice (some ⟨w.heap.size, 0, none⟩) 2 2) (w.alloc (.cells cs.toArray 144)) ∧ ∀ i, i < 2 → ∀ j, j < 1 → ∃ u, cs[i * 1 + j]? = some u ∧ (st2 S i j).ok Z w u := fun Z w vs h => by
 match vs, h with
 |[u, v], ⟨hu, hv, _⟩ =>
  obtain ⟨A, e1, _⟩ := id hu
  obtain ⟨B, e2, _⟩ := id hv
  subst e1 e2
  refine ⟨_, Z1m _ _ _, fun i hi j hj => ?_⟩
  obtain rfl : j = 0 := by omega
  rcases (by omega : i = 0 ∨ i = 1) with rfl | rfl
  ·exact ⟨_, rfl, hu⟩
  ·exact ⟨_, rfl, hv⟩
theorem x0f (S : Sys) (t : Nat → Rat) : ∀ i, i < 9 → (plA S t i).one = true := by
 intro i hi
 rcases (by omega : i = 0 ∨ i = 1 ∨ i = 2 ∨ i = 3 ∨ i = 4 ∨ i = 5 ∨ i = 6 ∨ i = 7 ∨ i = 8) with rfl | rfl | rfl | rfl | rfl | rfl | rfl | rfl | rfl <;> rfl
theorem Z1o (a b c d e f g i j : Value) (w : World) : (Instr.buildSlice 29 1 #[(0, .agg #[a, b, c, d, e, f, g, i, j])]).run Tryz.prog w = .ok (.slice (some ⟨w.heap.size, 0, none⟩) 1 1) (w.alloc (.cells #[a, b, c, d, e, f, g, i, j] 40)) := by kernel_rfl
theorem k1r (cs : List Value) (w : World) (h : cs.length = 9) : (Instr.buildSlice 29 1 #[(0, .agg cs.toArray)]).run Tryz.prog w = .ok (.slice (some ⟨w.heap.size, 0, none⟩) 1 1) (w.alloc (.cells cs.toArray 40)) := by
 match cs, h with
 |[a, b, c, d, e, f, g, i, j], _ => exact Z1o a b c d e f g i j w
theorem W1O (S : Sys) (u : Nat → Rat) : plA S (mkT u).n = plA S u := by
 funext j
 unfold plA
 rw [(X0g u).on 0, (X0g u).on 1, (X0g u).on 2]
 rfl
def plS (S : Sys) (i : Nat) : List Tor := Y0F (((q0J S).take i).map mkT)
theorem j1P {α : Type} (f : Nat → Nat → Option α) : ∀ n, 2 * (fmL f n).length + n ≤ n * n
 |0 => by simp [fmL]
 |n + 1 => by
  have h := j1P f n
  rw [z0P, List.length_append]
  have h2 := List.length_filterMap_le (fun k => f n k) (List.range n)
  rw [List.length_range] at h2
  have h3 : (n + 1) * (n + 1) = n * n + n + n + 1 := by rw [Nat.add_mul, Nat.mul_add]; omega
  omega
theorem K0t (S : Sys) (t : Nat → Rat) (hn : (S.sp 1).length ≤ 6) : (second S t).length ≤ 15 := by
 rw [J0V]
 have h := j1P (fun i k => lnS S t i k) (S.sp 1).length
 rcases (by omega : (S.sp 1).length = 0 ∨ (S.sp 1).length = 1 ∨ (S.sp 1).length = 2 ∨ (S.sp 1).length = 3 ∨ (S.sp 1).length = 4 ∨ (S.sp 1).length = 5 ∨ (S.sp 1).length = 6) with e | e | e | e | e | e | e <;> rw [e] at h ⊢ <;> omega
theorem Z0v {α β : Type} (g : α → List β) (m : Nat) : ∀ (l : List α), (∀ a ∈ l, (g a).length ≤ m) → (l.flatMap g).length ≤ l.length * m
 |[], _ => by simp
 |a :: l, h => by
  rw [List.flatMap_cons, List.length_append, List.length_cons, Nat.add_mul, Nat.one_mul]
  have h1 := h a (by simp)
  have h2 := Z0v g m l (fun b hb => h b (by simp [hb]))
  omega
theorem j1n {S : Sys} (h : OkS S) : (q0J S).length ≤ 10935 := by
 have h1 : (j0J S).length ≤ 729 := by rw [y0N]; exact Y0Y (S.ax 0) (by have := h.n0; omega)
 have h2 := Z0v (fun t => (second S t).map (q0F S)) 15 (j0J S) (fun t _ => by rw [List.length_map]; exact K0t S t h.n1)
 show ((j0J S).flatMap fun t => (second S t).map (q0F S)).length ≤ 10935
 have h3 : (j0J S).length * 15 ≤ 729 * 15 := Nat.mul_le_mul_right _ h1
 omega
theorem X0x : ∀ (L a : List Tor), (L.foldl (fun a p => J0P p a) a).length ≤ a.length + L.length
 |[], a => by simp
 |p :: L, a => by
  have h := X0x L (J0P p a)
  have h2 := Z0Z (p := p) (L := a)
  rw [List.foldl_cons, List.length_cons]
  omega
theorem Y0v {S : Sys} (h : OkS S) (i : Nat) : (plS S i).length ≤ 10935 := by
 have h1 := X0x (((q0J S).take i).map mkT) []
 have h2 := j1n h
 rw [List.length_map, List.length_take, List.length_nil] at h1
 unfold plS Y0F
 omega
theorem q1F (S : Sys) : plS S (q0J S).length = x0g S := by unfold plS x0g; rw [List.take_length]
theorem Y0w {S : Sys} (h : OkS S) : (x0g S).length ≤ 10935 := by rw [← q1F]; exact Y0v h _
abbrev Q1i (S : Sys) : AV := .sl (x0g S).length 9 (fun a => plA S (gO (x0g S) a).n)
theorem z1V (S : Sys) (h : OkS S) (hn : ∀ k, k < 3 → (S.sp k).length ≤ 1000) (hB : ∀ i, BT 100000 (gt (S.sp 0) i)) (he : enB S = true) : CtrA Tryz.prog 51 [syV S] (j0x [Q1i S, vi 0]) := by
 have c1 := Z0p S (h.ax zE) (h.ax zE) hB hn
 rw [he] at c1
 have cz := Y1d
 refine V1M _ Tryz.func51 rfl rfl Tryz.ntmps51 rfl fun w Z => ?_
 refine zU ?_
 refine wt ?_
 refine j0j (j0i rfl rfl) rfl ?_
 refine wt ?_
 refine j0j (j0i rfl rfl) rfl ?_
 refine wt ?_
 refine j0j (J0w (cs := [syV S]) (xs := [_]) rfl) rfl ?_
 refine wt ?_
 refine j0j (j0i rfl rfl) rfl ?_
 refine wt ?_
 refine j0j (J0w (cs := [syV S]) (xs := [_]) rfl) rfl ?_
 refine wt ?_
 refine j0j (j0i rfl rfl) rfl ?_
 refine wt ?_
 refine j0j (J0w (cs := [syV S]) (xs := [_]) rfl) rfl ?_
 refine wt ?_
 refine j0j (w0Y (is := [0, 1]) (xs := [_, _]) (τs := [bf2 S, bf3 S]) (row := st2 S) rfl rfl (Y1w S) rfl) rfl ?_
 refine wt ?_
 have d1 := W0G (bf1 S) (bf2 S) (One.bfn _ _) (One.bfn _ _)
 have d2 := W0G (ch2 S) (bf3 S) (One.clo _ _ _) (One.bfn _ _)
 refine j0g (γ := Nat) (fun i => [(1, .av (.ptr 9 (syA S))), (2, .own 10 0), (3, .own 11 0), (5, .av (fs3 S i)), (27, .av (.sl 2 1 (st2 S))), (28, .av (vi 2)), (29, .av (vi i))]) (fun _ => [(10, .cells [.av (.val (.slice none 0 0))]), (11, .cells [.av (vi 0)])]) (fun i => i ≤ 2) (fun i => 2 - i) 0 zO (ent zS zT) ?_
 intro i hi
 match i, hi with
 |0, _ =>
  refine wt ?_
  exact j0b 1 zO zO (ent zS zT)
 |1, _ =>
  refine wt ?_
  exact j0b 2 zO zO (ent zS zT)
 |2, _ =>
  refine wt ?_
  have h1 : CtrA Tryz.prog 157 ([t6 (fun _ => 0)] ++ (List.range 2).map (cla (ch2 S) (bf3 S))) (.clo 158 3 (clb (ch2 S) (bf3 S) (fun _ => 0))) := Q0o (ch2 S) (bf3 S) (fun _ => 0)
  refine j0j (j1W (τs := [t6 (fun _ => 0)]) h1 rfl rfl) rfl ?_
  refine wt ?_
  refine w0h (y0l (r := 12) (off := 0) 20 40 9 (fun a => plA S (gO (plS S 0) a).n) rfl rfl rfl) ?_
  refine j1r rfl rfl (w1H S h (fun _ => 0)) [9, 10, 11, 12, 13, 14, 15, 40, 41, 42, 43, 44, 45, 46, 47, 48, 49, 50, 51, 52, 53, 54, 55, 56, 57, 58, 59, 60, 61, 62, 63, 64, 65, 66, 67, 68, 69, 70, 71, 72] [(1, .av (.ptr 9 (syA S))), (2, .own 10 0), (3, .own 11 0), (8, .own 12 0), (39, .av (.clo 158 3 (clb (ch2 S) (bf3 S) (fun _ => 0))))] (fun i => [(12, .cells [.osl 20]), (20, .row 40 9 (plS S i).length (fun a => plA S (gO (plS S i) a).n)), (10, .cells [.av (.val (.slice none 0 0))]), (11, .cells [.av (vi 0)])]) (fun i => [(9, .av (t6P (gU (q0J S) i))), (10, .av (vi 0))]) (ent zS zT) rfl rfl rfl rfl rfl rfl rfl (fun _ => rfl) (J0O _) ?_ ?_ ?_
  ·rintro i t0 t1 e l a0 w0 Z0 keep
   obtain ⟨hi, e1, rfl, rfl⟩ := x0L e
   refine wt ?_
   exact X1h (Ent.trans (j0F 9 13 (fun m => .val ((t6L (gU (q0J S) i)).getD m undef)) rfl rfl rfl) (ent zS zT))
  ·rintro i t0 t1 e l a0 w0 Z0 keep
   obtain ⟨hi, e1, rfl, rfl⟩ := x0L e
   obtain ⟨u, hu⟩ : ∃ u, u = gU (q0J S) i := ⟨_, rfl⟩
   rw [← hu] at e1 ⊢
   have hp : CtrA Tryz.prog 66 [syV S, t6 u] (j0x [plV S u, vb true, vi 0]) := by
    have hm := List.mem_of_getElem? e1
    obtain ⟨q1, q2⟩ := z0H h.toSmS h.p2 hm
    have ht := (W0F h.pr h.p2 hm).1
    refine Z0X S h u q1 q2 fun k hk => x0W.2 ?_
    rcases (by omega : k = 0 ∨ k = 1 ∨ k = 2) with rfl | rfl | rfl
    ·exact ht.1
    ·exact ht.2.1
    ·exact ht.2.2
   refine wt ?_
   refine j0j (j0i rfl rfl) rfl ?_
   refine wt ?_
   refine j0j (j0k (us := t6L u) rfl rfl rfl rfl) rfl ?_
   refine wt ?_
   refine q0U (j0y rfl rfl (x0f S u) rfl rfl) ?_
   refine wt ?_
   refine j0j (j0n (f := plA S u) rfl rfl rfl) rfl ?_
   refine wt ?_
   have hasc : w1x (plS S i) := (z0Y _).1
   have hlen : (plS S i).length ≤ 100000 := by have := Y0v h i; omega
   have hLR : ∀ a, a < (plS S i).length → ∀ j, j < 6 → LR 43 ((gO (plS S i) a).n j) := fun a ha j hj => by
    rw [W0P ha]
    obtain ⟨t, ht, e⟩ := List.mem_map.1 ((z0Y _).2 _ |>.1 (List.getElem_mem ha))
    have e2 : (plS S i)[a] = mkT t := e.symm
    rw [e2, X0g t j hj]
    exact (z0H h.toSmS h.p2 (List.mem_of_mem_take ht)).1 j
   have hU : ∀ j, j < 6 → LR 43 (u j) := fun j _ => (z0H h.toSmS h.p2 (List.mem_of_getElem? e1)).1 j
   have hb := Y1y S (fun a => (gO (plS S i) a).n) u (plS S i).length (y0a (mkT u) (plS S i)) hlen hLR hU (J0n _ _) (fun a ha => J1a hasc (mkT u) a ha)
   have hfd : (decide (y0a (mkT u) (plS S i) < (plS S i).length) && decide (cmO (gO (plS S i) (y0a (mkT u) (plS S i))).n u = 0)) = decide ((plS S i)[y0a (mkT u) (plS S i)]? = some (mkT u)) := J1b (plS S i) (mkT u)
   have hnx : plS S (i + 1) = J0P (mkT u) (plS S i) := by
    unfold plS Y0F
    rw [List.take_add_one, e1, List.map_append, List.foldl_append]
    rfl
   have hl16 : (plS S (i + 1)).length ≤ 16384 := by have := Y0v h (i + 1); omega
   rw [hfd] at hb
   by_cases hf : (plS S i)[y0a (mkT u) (plS S i)]? = some (mkT u)
   ·rw [decide_eq_true hf] at hb
    have hsm : plS S (i + 1) = plS S i := by rw [hnx, V0O, if_pos hf]
    have hl : (plS S i).length ≤ 16384 := by rw [← hsm]; exact hl16
    refine j0j (W0T hb (z0O [_, _]) rfl) rfl ?_
    refine wt ?_
    (refine j0a rfl ?_ ?_ <;> intro hb <;> (try simp only [zA, zB, zG, zC, zD, zN] at hb) <;> (try exact zQ))
    refine wt ?_
    rw [hsm]
    exact W0b (ent zS zT)
   ·rw [decide_eq_false hf] at hb
    have hi1 := x1k (plS S i).length (y0a (mkT u) (plS S i)) (fun a => plA S (gO (plS S i) a).n) (plA S u) (J0n _ _) hlen (fun a _ => x0f S _) (x0f S u)
    refine j0j (W0T hb (z0O [_, _]) rfl) rfl ?_
    refine wt ?_
    refine j0j (j0n (f := plA S u) rfl rfl rfl) rfl ?_
    refine wt ?_
    refine j0j (W0S (e := 40) rfl k1r) rfl ?_
    refine wt ?_
    have hll : (plS S (i + 1)).length = (plS S i).length + 1 := by rw [hnx]; exact q1O hf
    refine j0A (X0H hi1 rfl rfl rfl) rfl ?_
    refine wt ?_
    (refine j0a rfl ?_ ?_ <;> intro hb <;> (try simp only [zA, zB, zG, zC, zD, zN] at hb) <;> (try exact zQ))
    refine wt ?_
    exact W0b (ent zS ⟨⟨_, rfl, .refl _⟩, ⟨_, rfl, .row hll.symm (fun a ha j hj => by rw [hnx, ← W1O S u]; exact Q1k hf (fun x => plA S x.n) a ha j)⟩, ⟨_, rfl, .refl _⟩, ⟨_, rfl, .refl _⟩, trivial⟩)
  ·intro D w2 Z1 ν a hA hs
   rw [List.length_map, q1F] at hs
   refine z1i ⟨_, _, hs⟩ ?_
   refine wt ?_
   refine X0y hA (z1h (j0M 10 20 0 rfl rfl rfl rfl) ?_)
   exact j0t (rvs := [_, _]) (τs := [_, _]) rfl rfl ⟨.cell rfl rfl rfl, .cell rfl rfl rfl, trivial⟩ rfl
 |i + 3, hi => omega
end Go.Proofs.YtfggdokihnopeaaGreatDoor.H
namespace Go.Proofs.YtfggdokihnopeaaGreatDoor.H
open Go Go.Vc Go.RowKit
theorem W1v (i : Nat) : gt [] i = ⟨0, 0, 0⟩ := by unfold gt; simp [List.getD]; rfl
theorem y1v {B : Int} (h : 0 ≤ B) (i : Nat) : BT B (gt [] i) := by rw [W1v]; exact ⟨⟨by show -B ≤ 0; omega, h⟩, ⟨by show -B ≤ 0; omega, h⟩, ⟨by show -B ≤ 0; omega, h⟩⟩
def syO (R : Syr) : Sys := ⟨fun k => (R.ax k).toNat, fun k => if k < 3 then R.off k else 0, fun k => if k < 3 then R.sp k else []⟩
theorem Q0m {R : Syr} (h : axB R 3 = true) : (∀ k, k < 3 → 0 ≤ R.ax k ∧ R.ax k < 3) ∧ R.ax 0 ≠ R.ax 1 ∧ R.ax 0 ≠ R.ax 2 ∧ R.ax 1 ≠ R.ax 2 := by
 simp only [axB, List.range_succ, List.range_zero, List.nil_append, List.any_append, List.any_nil, List.any_cons, Bool.and_eq_true, Bool.not_eq_true', Bool.or_eq_false_iff, decide_eq_true_eq, decide_eq_false_iff_not, Bool.or_false, Bool.false_or, true_and] at h
 refine ⟨fun k hk => ?_, ?_, ?_, ?_⟩
 ·rcases (by omega : k = 0 ∨ k = 1 ∨ k = 2) with rfl | rfl | rfl <;> omega
 ·omega
 ·omega
 ·omega
theorem V1F {R : Syr} (h : ∀ k, k < 3 → 0 ≤ R.ax k ∧ R.ax k < 3) (h1 : R.ax 0 ≠ R.ax 1) (h2 : R.ax 0 ≠ R.ax 2) (h3 : R.ax 1 ≠ R.ax 2) : axB R 3 = true := by
 have a0 := h 0 zE
 have a1 := h 1 zE
 have a2 := h 2 zE
 simp only [axB, List.range_succ, List.range_zero, List.nil_append, List.any_append, List.any_nil, List.any_cons, Bool.and_eq_true, Bool.not_eq_true', Bool.or_eq_false_iff, decide_eq_true_eq, decide_eq_false_iff_not, Bool.or_false, Bool.false_or, true_and]
 refine ⟨⟨⟨a0, trivial⟩, a1, ?_⟩, a2, ?_, ?_⟩ <;> omega
theorem J0l {R : Syr} (h : axB R 3 = false) : w0N R = 1 := by unfold w0N; rw [h]; rfl
theorem V0i {R : Syr} (h : axB R 3 = true) (h2 : ofB R = false) : w0N R = 2 := by unfold w0N; rw [h, h2]; rfl
theorem j1o {R : Syr} (h : axB R 3 = true) (h2 : ofB R = true) : w0N R = spE R := by unfold w0N; rw [h, h2]; rfl
theorem X0i {R : Syr} : ofB R = true ↔ ∀ k, k < 3 → -100000 ≤ R.off k ∧ R.off k ≤ 100000 := by
 unfold ofB
 rw [List.all_eq_true]
 constructor
 ·intro h k hk; simpa using h k (List.mem_range.2 hk)
 ·intro h k hk; simpa using h k (List.mem_range.1 hk)
theorem w0A {R : Syr} (h : w0N R = 0) : axB R 3 = true ∧ ofB R = true ∧ ∀ k, k < 3 → w0z (R.sp k) = 0 := by
 cases ha : axB R 3 with
 |false => rw [J0l ha] at h; omega
 |true =>
  cases ho : ofB R with
  |false => rw [V0i ha ho] at h; omega
  |true =>
   rw [j1o ha ho] at h
   refine ⟨rfl, rfl, fun k hk => ?_⟩
   unfold spE at h
   by_cases h0 : w0z (R.sp 0) = 0
   ·rw [if_neg (fun e => e h0)] at h
    by_cases h1 : w0z (R.sp 1) = 0
    ·rw [if_neg (fun e => e h1)] at h
     rcases (by omega : k = 0 ∨ k = 1 ∨ k = 2) with rfl | rfl | rfl
     ·exact h0
     ·exact h1
     ·exact h
    ·rw [if_pos h1] at h; exact absurd h h1
   ·rw [if_pos h0] at h; exact absurd h h0
theorem K0w {R : Syr} (h : w0N R = 0) : srA R = syA (syO R) := by
 obtain ⟨ha, _, _⟩ := w0A h
 have hx := (Q0m ha).1
 have e : ∀ k, k < 3 → vi (R.ax k) = vi (((syO R).ax k : Nat) : Int) := fun k hk => by
  show vi (R.ax k) = vi (((R.ax k).toNat : Nat) : Int)
  rw [show (((R.ax k).toNat : Nat) : Int) = R.ax k by have := hx k hk; omega]
 funext i
 match i with
 |0 => exact e 0 zE
 |1 => exact e 1 zE
 |2 => exact e 2 zE
 |3 => rfl
 |4 => rfl
 |5 => rfl
 |6 => rfl
 |7 => rfl
 |i + 8 => rfl
theorem W0e {R : Syr} (h : w0N R = 0) : Prm (syO R).ax := by
 obtain ⟨ha, _, _⟩ := w0A h
 obtain ⟨hx, h1, h2, h3⟩ := Q0m ha
 have a0 := hx 0 zE
 have a1 := hx 1 zE
 have a2 := hx 2 zE
 unfold Prm
 show (R.ax 0).toNat < 3 ∧ (R.ax 1).toNat < 3 ∧ (R.ax 2).toNat < 3 ∧ (R.ax 0).toNat ≠ (R.ax 1).toNat ∧ (R.ax 0).toNat ≠ (R.ax 2).toNat ∧ (R.ax 1).toNat ≠ (R.ax 2).toNat
 omega
theorem v1H {R : Syr} (h : w0N R = 0) (k : Nat) : RT ((syO R).sp k) := by
 obtain ⟨_, _, hs⟩ := w0A h
 intro i
 show BT 100000 (gt (if k < 3 then R.sp k else []) i)
 by_cases hk : k < 3
 ·rw [if_pos hk]; exact (RT.of (hs k hk)).1 i
 ·rw [if_neg hk]; exact y1v (by decide) i
theorem z1l {R : Syr} {k : Nat} (hk : k < 3) : (syO R).sp k = R.sp k := if_pos hk
theorem Q0J {R : Syr} (h : w0N R = 0) : ∀ k, k < 3 → ((syO R).sp k).length ≤ 1000 := fun k hk => by
 rw [z1l hk]
 have := (RT.of ((w0A h).2.2 k hk)).2
 omega
theorem Q1H {R : Syr} (h : w0N R = 0) (k : Nat) : ((syO R).off k).natAbs ≤ 100000 := by
 obtain ⟨_, ho, _⟩ := w0A h
 show (if k < 3 then R.off k else 0).natAbs ≤ 100000
 by_cases hk : k < 3
 ·rw [if_pos hk]; have := X0i.1 ho k hk; omega
 ·rw [if_neg hk]; decide
def x0e (l : List Tr) : Bool := (List.range l.length).all fun i => (List.range 3).all fun k => !(q0j (gt l i) && (decide (cz (gt l i) k < -2000) || decide (2000 < cz (gt l i) k)))
def twB (l : List Tr) (k : Nat) : Bool := (List.range l.length).any fun i => decide (cz (gt l i) k ≠ cz (gt l 0) k)
def K0o (S : Sys) : Bool := !J0b (x0K (S.sp 0) (S.ax 0)) && (twB (S.sp 1) (S.ax 2) && decide (0 < (S.sp 2).length))
def j1L (R : Syr) : Bool := (decide ((R.sp 0).length ≤ 100) && (decide ((R.sp 1).length ≤ 100) && decide ((R.sp 2).length ≤ 100))) &&
 (decide (w0N R ≠ 0) || ((decide ((R.sp 0).length ≤ 4) && (decide ((R.sp 1).length ≤ 3) && (decide ((R.sp 2).length ≤ 2) && (x0e (R.sp 0) && (x0e (R.sp 1) && x0e (R.sp 2)))))) ||
  (!K0o (syO R) && (decide ((R.sp 0).length ≤ 6) && (decide ((R.sp 1).length ≤ 6) && decide ((R.sp 2).length ≤ 6))))))
def x0M (R : Syr) : Bool := j1L R && (decide (w0N R = 0) && (K0o (syO R) && (decide ((R.sp 0).length ≤ 4) && (decide ((R.sp 1).length ≤ 3) && decide ((R.sp 2).length ≤ 2)))))
theorem Q1a {l : List Tr} (hr : RT l) (hc : l.all q0j = true) (h : x0e l = true) : ∀ i, BT 2000 (gt l i) := by
 intro i
 by_cases hi : i < l.length
 ·unfold x0e at h
  rw [List.all_eq_true] at h
  have h1 := h i (List.mem_range.2 hi)
  rw [List.all_eq_true] at h1
  have hg : q0j (gt l i) = true := List.all_eq_true.1 hc _ (Z0F hi)
  have h2 : ∀ k, k < 3 → -2000 ≤ cz (gt l i) k ∧ cz (gt l i) k ≤ 2000 := fun k hk => by
   have := h1 k (List.mem_range.2 hk)
   rw [hg] at this
   simp at this
   omega
  exact ⟨h2 0 zE, h2 1 zE, h2 2 zE⟩
 ·have e : gt l i = default := by unfold gt; simp [List.getD, List.getElem?_eq_none (Nat.le_of_not_lt hi)]
  rw [e]
  exact ⟨⟨by decide, by decide⟩, ⟨by decide, by decide⟩, ⟨by decide, by decide⟩⟩
theorem w1L {l : List Tr} (h : w0z l = 0) : l.all q0j = true := by
 unfold w0z at h
 split at h
 ·omega
 ·split at h
  ·assumption
  ·omega
theorem X0G {l : List Tr} {k : Nat} : twB l k = true ↔ ∃ i, i < l.length ∧ cz (gt l i) k ≠ cz (gt l 0) k := by
 unfold twB
 rw [List.any_eq_true]
 constructor
 ·rintro ⟨i, h1, h2⟩; exact ⟨i, List.mem_range.1 h1, of_decide_eq_true h2⟩
 ·rintro ⟨i, h1, h2⟩; exact ⟨i, List.mem_range.2 h1, decide_eq_true h2⟩
theorem V1V (l : List Tr) (k : Nat) : V1s l k = twB l k := by
 unfold V1s
 cases h : twB l k with
 |true =>
  obtain ⟨i, hi, hne⟩ := X0G.1 h
  refine decide_eq_true ?_
  unfold ixB
  cases hf : (List.range l.length).find? (fun i => dfB l k (gt l i)) with
  |some j => exact Int.natCast_nonneg j
  |none =>
   rw [List.find?_eq_none] at hf
   have := hf i (List.mem_range.2 hi)
   unfold dfB at this
   simp at this
   exact absurd this hne
 |false =>
  refine decide_eq_false ?_
  rw [Z0M]
  ·omega
  ·intro j hj
   unfold dfB
   unfold twB at h
   rw [List.any_eq_false] at h
   have := h j (List.mem_range.2 hj)
   simp at this
   simp [this]
theorem W1C (l : List Tr) (k : Nat) : lnB l k = J0b (x0K l k) := by
 cases h : lnB l k with
 |true =>
  symm
  unfold lnB at h
  unfold J0b
  rw [x0B]
  simp only [List.all_eq_true, List.mem_range, decide_eq_true_eq] at h ⊢
  intro i hi j hj m hm
  rw [y0U hi, y0U (by omega), y0U (by omega)]
  have a := h i hi j hj
  have b := h i hi m zO
  have c := h j zO m hm
  unfold wcr at a b c
  simp only [crs, trn, sub]
  grind
 |false =>
  symm
  cases hs : J0b (x0K l k) with
  |false => rfl
  |true =>
   exfalso
   have ht : lnB l k = true := by
    unfold J0b at hs
    rw [x0B] at hs
    unfold lnB
    simp only [List.all_eq_true, List.mem_range, decide_eq_true_eq] at hs ⊢
    intro i hi j hj
    unfold wcr
    by_cases h0 : 0 < j
    ·have := hs i hi j hj 0 h0
     rw [y0U hi, y0U (by omega), y0U (by omega)] at this
     simp only [crs, trn, sub] at this
     grind
    ·obtain rfl : j = 0 := by omega
     grind
   rw [ht] at h; cases h
theorem y1F (S : Sys) : enB S = K0o S := by
 unfold enB K0o
 rw [W1C, V1V]
 have : (!decide ((S.sp 2).length = 0)) = decide (0 < (S.sp 2).length) := by
  by_cases h : (S.sp 2).length = 0
  ·rw [decide_eq_true h, decide_eq_false (by omega)]; rfl
  ·rw [decide_eq_false h, decide_eq_true (by omega)]; rfl
 rw [this]
structure RtS (R : Syr) : Prop where
 chk : w0N R = 0
 ok : OkS (syO R)
 tw : k1t (syO R)
 en : enB (syO R) = true
 n0 : (R.sp 0).length ≤ 4
 n1 : (R.sp 1).length ≤ 3
 n2 : (R.sp 2).length ≤ 2
 str : J0b (x0K ((syO R).sp 0) ((syO R).ax 0)) = false
theorem Q1q {R : Syr} (hc : w0N R = 0) (n0 : (R.sp 0).length ≤ 4) (n1 : (R.sp 1).length ≤ 3) (n2 : (R.sp 2).length ≤ 2) (hn : ∀ k, k < 3 → x0e (R.sp k) = true) (hp : K0o (syO R) = true) : RtS R := by
 have hs := (w0A hc).2.2
 have hp' := hp
 unfold K0o at hp'
 simp only [Bool.and_eq_true, Bool.not_eq_true', decide_eq_true_eq] at hp'
 obtain ⟨p0, p1, p2⟩ := hp'
 refine ⟨hc, { pr := W0e hc, off := Q1H hc, sp := fun k i => ?_, n0 := ?_, n1 := ?_, n2 := ?_, p2 := p2, st := J0o p0 }, ?_, by rw [y1F]; exact hp, n0, n1, n2, p0⟩
 ·show BT 2000 (gt (if k < 3 then R.sp k else []) i)
  by_cases hk : k < 3
  ·rw [if_pos hk]; exact Q1a (RT.of (hs k hk)).1 (w1L (hs k hk)) (hn k hk) i
  ·rw [if_neg hk]; exact y1v (by decide) i
 ·show (R.sp 0).length ≤ 6; omega
 ·show (R.sp 1).length ≤ 6; omega
 ·show (R.sp 2).length ≤ 6; omega
 ·obtain ⟨i, hi, hne⟩ := X0G.1 p1
  exact ⟨i, 0, hi, by omega, hne⟩
theorem x1G {R : Syr} (h : x0M R = true) : RtS R := by
 unfold x0M at h
 simp only [Bool.and_eq_true, decide_eq_true_eq] at h
 obtain ⟨hf, hc, hp, n0, n1, n2⟩ := h
 refine Q1q hc n0 n1 n2 (fun k hk => ?_) hp
 unfold j1L at hf
 rw [hp, hc] at hf
 simp only [Bool.and_eq_true, Bool.or_eq_true, decide_eq_true_eq, Bool.not_true, Bool.false_eq_true, false_and, or_false, ne_eq, not_true_eq_false, false_or] at hf
 obtain ⟨_, _, _, _, a, b, c⟩ := hf
 rcases (by omega : k = 0 ∨ k = 1 ∨ k = 2) with rfl | rfl | rfl
 ·exact a
 ·exact b
 ·exact c
end Go.Proofs.YtfggdokihnopeaaGreatDoor.H
namespace Go.Proofs.YtfggdokihnopeaaGreatDoor.H
open Go Go.Vc Go.RowKit
open Go.Na (rtx LR j0v v0j rsg)
set_option maxHeartbeats 4000000
theorem y1w {R : Syr} (h : w0N R = 0) : CtrA Tryz.prog 50 [syV (syO R)] (vi 0) := by
 have c := w1J R
 rw [K0w h, h] at c
 exact c
theorem V0f {R : Syr} (h : RtS R) : CtrA Tryz.prog 12 [syV (syO R)] (j0x [Q1i (syO R), vi 0]) := by
 have c := y1w h.chk
 have c2 := z1V (syO R) h.ok (Q0J h.chk) (v1H h.chk 0) h.en
 refine j0s _ Tryz.func12 rfl rfl Tryz.ntmps12 rfl fun w Z => ?_
 refine zU ?_
 refine wt ?_
 refine j0j (j0i rfl rfl) rfl ?_
 refine wt ?_
 refine j0j (j0i rfl rfl) rfl ?_
 refine wt ?_
 exact zW
def pkL (l : List Tr) (s : List Nat) : List Tr := s.map (gt l)
theorem x1j (l : List Tr) {s : List Nat} {i : Nat} (h : i < s.length) : gt (pkL l s) i = gt l (gi s i) := by simp [gt, pkL, gi, List.getD, h]
theorem X1w (l : List Tr) (i j : Nat) : (tf l i j).one = true := by unfold tf; split <;> rfl
theorem W1N (l : List Tr) {s : List Nat} {i : Nat} (h : i < s.length) : ∀ a, a < i + 1 → ∀ j, w0u i (tf (pkL l s)) (tf [gt l (gi s i)]) a j = tf (pkL l s) a j := fun a ha j => by
 unfold w0u
 split
 ·rfl
 ·obtain rfl : a = i := by omega
  rw [Nat.sub_self]
  unfold tf
  rw [x1j l h]
  rfl
theorem V0H (l : List Tr) (s : List Nat) (hs : ∀ i ∈ s, i < l.length) (hn : l.length ≤ 1000) (hm : s.length ≤ 1000) : CtrR Tryz.prog 67 [ts l, idx s] 43 3 (pkL l s).length (tf (pkL l s)) [] := by
 refine K0L _ Tryz.func67 rfl rfl Tryz.ntmps67 rfl fun w Z => ?_
 refine zU ?_
 refine wt ?_
 refine j0g (γ := Nat) (fun i => [(0, .av (ts l)), (5, .osl 20), (8, .av (idx s)), (9, .av (vi s.length)), (10, .av (vi i))]) (fun i => [(20, .row 43 3 i (tf (pkL l s)))]) (fun i => i ≤ s.length) (fun i => s.length - i) 0 (Nat.zero_le _) ((v0L (dd := 5) 20 43 3 (tf (pkL l s)) rfl rfl).trans (ent zS zT)) ?_
 intro i hi
 refine wt ?_
 (refine j0a rfl ?_ ?_ <;> intro hb <;> (try simp only [zA, zB, zG, zC, zD, zN] at hb) <;> (try exact zQ))
 ·have hil : i < s.length := by omega
  have hb := hs (gi s i) (y1N hil)
  refine wt ?_
  refine j0j (j0S (is := [0]) (xs := [_]) (vs := [_]) (us := [.int .i64 (gt l (gi s i)).x, .int .i64 (gt l (gi s i)).y, .int .i64 (gt l (gi s i)).z]) (row := tf [gt l (gi s i)]) (Y1k (gt l (gi s i))) rfl rfl rfl (k0v (gt l (gi s i)))) rfl ?_
  refine wt ?_
  refine j0A (q0G (h := tf [gt l (gi s i)]) (m := 1) rfl rfl rfl (fun a ha j hj => X1w _ a j) (by omega) (by simp only [maxLen]; omega) (by omega)) rfl ?_
  refine wt ?_
  exact j0b (i + 1) zO zO (ent zS ⟨⟨_, rfl, .row rfl (fun a ha j hj => W1N l hil a ha j)⟩, trivial⟩)
 ·obtain rfl : i = s.length := by omega
  refine wt ?_
  exact x0Y rfl rfl rfl (by unfold pkL; rw [List.length_map]) (fun _ _ _ _ => rfl)
theorem v1k {P : Program} {e : TypeId} (h : P.underlying e = some .string) (w : World) (cs : Array Value) (k : Nat) (v : Value) (hv : cs[k]? = some v) : (part e cs k).run P w = .ok v w := by
 simp [part, isAgg, run_underlying h, hv]
theorem Q1t {P : Program} {e : TypeId} (h : P.underlying e = some .string) (D : Nat) (w : World) (a : ByteArray) : (Op.equalIn (D + 1) e (.string a) (.string a)).run P w = .ok true w := by
 rw [run_equalIn_string w D e a a h]
 simp
theorem z0w {P : Program} (D : Nat) (w : World) (e : TypeId) (hu : P.underlying e = some .string) (xs : List ByteArray) : ∀ (m k : Nat), xs.length = k + m →
  (Op.eqItems (D + 1) e 1 (xs.map Value.string).toArray (xs.map Value.string).toArray (List.range' k m)).run P w = .ok true w
 |0, k, hx => by rfl
 |m + 1, k, hx => by
  have hxk : k < xs.length := by omega
  have p1 := v1k (P := P) hu w (xs.map Value.string).toArray (k * 1) (.string xs[k]) (by simp [List.getElem?_eq_getElem hxk])
  have p3 := Q1t (P := P) hu D w xs[k]
  have ih := z0w D w e hu xs m (k + 1) zO
  rw [List.range'_succ]
  simp only [Op.eqItems, Sem.run_bind, p1, Result.andThen_ok, p3, Bool.not_true, Bool.false_eq_true, if_false, ih]
theorem Z1I (D : Nat) (w : World) (a b c : ByteArray) : (Op.equalIn (D + 2) 34 (.agg #[.string a, .string b, .string c]) (.agg #[.string a, .string b, .string c])).run Tryz.prog w = .ok true w := by
 have h := z0w (P := Tryz.prog) D w 33 (by kernel_rfl) [a, b, c] 3 0 rfl
 rw [run_equalIn_array w (D + 1) _ _ (by kernel_rfl : Tryz.prog.underlying 34 = some (.array 3 33)) (i := (Tryz.prog.info? 33).getD default) (by kernel_rfl)]
 rw [show Tryz.prog.cellsOf 33 = 1 by kernel_rfl, List.range_eq_range']
 exact h
theorem y0D {P : Program} (D : Nat) (w : World) (cs : Array Value) : ∀ (fs : List Field), (∀ f ∈ fs, f.name ≠ "_" ∧ ∃ v, (part f.type cs f.offset).run P w = .ok v w ∧ (Op.equalIn D f.type v v).run P w = .ok true w) →
  (Op.eqFields D cs cs fs).run P w = .ok true w
 |[], _ => by simp [Op.eqFields]
 |f :: fs, h => by
  obtain ⟨h1, v, h2, h3⟩ := h f (by simp)
  have ih := y0D D w cs fs (fun g hg => h g (by simp [hg]))
  simp only [Op.eqFields, if_pos h1, Sem.run_bind, h2, Result.andThen_ok, h3, Bool.not_true, Bool.false_eq_true, if_false, ih]
theorem Y1T (a b c d e f : ByteArray) (w : World) : (part 34 #[.string a, .string b, .string c, .string d, .string e, .string f] 0).run Tryz.prog w = .ok (.agg #[.string a, .string b, .string c]) w := by kernel_rfl
theorem Y1U (a b c d e f : ByteArray) (w : World) : (part 34 #[.string a, .string b, .string c, .string d, .string e, .string f] 3).run Tryz.prog w = .ok (.agg #[.string d, .string e, .string f]) w := by kernel_rfl
theorem Y1G (a b c d e f : ByteArray) (w : World) : (binOp .eql 36 (.agg #[.string a, .string b, .string c, .string d, .string e, .string f]) (.agg #[.string a, .string b, .string c, .string d, .string e, .string f])).run Tryz.prog w = .ok (.bool true) w := by
 have h9 : (9997 + 2 : Nat) = 9999 := rfl
 have hfs : (Tryz.prog.fieldsOf 36).toList = [(Tryz.prog.fieldsOf 36)[0]!, (Tryz.prog.fieldsOf 36)[1]!] := by kernel_rfl
 have t0 : ((Tryz.prog.fieldsOf 36)[0]!).type = 34 := by kernel_rfl
 have t1 : ((Tryz.prog.fieldsOf 36)[1]!).type = 34 := by kernel_rfl
 have o0 : ((Tryz.prog.fieldsOf 36)[0]!).offset = 0 := by kernel_rfl
 have o1 : ((Tryz.prog.fieldsOf 36)[1]!).offset = 3 := by kernel_rfl
 have n0 : ((Tryz.prog.fieldsOf 36)[0]!).name = "T" := by kernel_rfl
 have n1 : ((Tryz.prog.fieldsOf 36)[1]!).name = "W" := by kernel_rfl
 rw [run_eql_struct, run_equalIn_agg w 9999 36 _ _ (by kernel_rfl) (by kernel_rfl), y0D]
 ·rfl
 ·rw [hfs]
  intro g hg
  simp only [List.mem_cons, List.not_mem_nil, or_false] at hg
  rcases hg with hg | hg
  ·rw [hg, t0, o0, n0]
   exact ⟨by decide, _, Y1T a b c d e f w, h9 ▸ Z1I 9997 w a b c⟩
  ·rw [hg, t1, o1, n1]
   exact ⟨by decide, _, Y1U a b c d e f w, h9 ▸ Z1I 9997 w d e f⟩
theorem Y1F (x y : Operand) (xs ys : Array Value) (w : World) : (eqGuard .eql 36 x y (.agg xs) (.agg ys)).run Tryz.prog w = .ok () w := by kernel_rfl
theorem Y1H (s : List Nat) (hs : s.length ≤ 1000) : CtrA Tryz.prog 29 [idx s, idx s] (vb true) := by
 have h := J1y (fun i => ((gi s i : Nat) : Int)) (fun i => ((gi s i : Nat) : Int)) s.length s.length zO
 have e : eqB (fun i => ((gi s i : Nat) : Int)) s.length (fun i => ((gi s i : Nat) : Int)) s.length = true := by unfold eqB; simp
 rw [e] at h
 exact h
theorem x0I (S : Sys) (t : Nat → Rat) (k : Nat) : (onS S t k).length ≤ (S.sp k).length := by
 unfold onS
 exact Nat.le_trans (List.length_filter_le _ _) (by rw [List.length_range]; exact Nat.le_refl _)
theorem v1m (S : Sys) (t : Nat → Rat) (hn : ∀ k, k < 3 → (S.sp k).length ≤ 1000) : CtrA Tryz.prog 62 [plV S t, plV S t] (vb true) := by
 have h0 := Y1H (onS S t 0) (by have := x0I S t 0; have := hn 0 zE; omega)
 have h1 := Y1H (onS S t 1) (by have := x0I S t 1; have := hn 1 zE; omega)
 have h2 := Y1H (onS S t 2) (by have := x0I S t 2; have := hn 2 zE; omega)
 refine j0s _ Tryz.func62 rfl rfl Tryz.ntmps62 rfl fun w Z => ?_
 refine zU ?_
 refine wt ?_
 refine j0g (γ := Nat) (fun i => [(2, .av (.ptr 9 (plA S t))), (3, .av (.ptr 9 (plA S t))), (6, .av (vi i))]) (fun _ => []) (fun i => i ≤ 3) (fun i => 3 - i) 0 zO (ent zS trivial) ?_
 intro i hi
 match i, hi with
 |0, _ =>
  refine wt ?_
  exact j0b 1 zO zO (ent zS trivial)
 |1, _ =>
  refine wt ?_
  exact j0b 2 zO zO (ent zS trivial)
 |2, _ =>
  refine wt ?_
  exact j0b 3 zO zO (ent zS trivial)
 |3, _ =>
  refine wt ?_
  refine j0j (j0k (us := t6L t) rfl rfl rfl rfl) rfl ?_
  refine wt ?_
  refine j0j (j0k (us := t6L t) rfl rfl rfl rfl) rfl ?_
  refine wt ?_
  refine j0j (y0R rfl rfl (fun w => Y1F _ _ _ _ w) (fun w => Y1G _ _ _ _ _ _ w)) rfl ?_
  refine wt ?_
  exact zV
 |i + 4, hi => omega
theorem q1J {S : Sys} {x : Tor} (h : x ∈ x0g S) : ∃ u, u ∈ q0J S ∧ Eq6 u x.n := by
 unfold x0g at h
 rw [(z0Y _).2] at h
 obtain ⟨u, hu, rfl⟩ := List.mem_map.1 h
 exact ⟨u, hu, (X0g u).symm⟩
theorem Z1R : LR 43 0 := ⟨Go.Na.LI.small (by decide) (by decide), Go.Na.LI.small (by decide) (by decide)⟩
theorem Z1l (x : Tor) (P : Rat → Prop) (h0 : P 0) (h : ∀ i, i < 6 → P (x.n i)) : ∀ i, P (x.n i) := fun i => by
 match i with
 |0 => exact h 0 zE
 |1 => exact h 1 zE
 |2 => exact h 2 zE
 |3 => exact h 3 zE
 |4 => exact h 4 zE
 |5 => exact h 5 zE
 |i + 6 => exact h0
structure PlO (S : Sys) (x : Tor) : Prop where
 q1 : ∀ i, LR 43 (x.n i)
 q2 : ∀ k, k < 3 → ∀ p, BT 2000 p → LR 43 (hq S x.n k p)
 t : Tch S x.n
 up : ∀ k, k < 3 → lwS S x.n k = false
theorem z1c {S : Sys} (h : OkS S) {x : Tor} (hx : x ∈ x0g S) : PlO S x := by
 obtain ⟨u, hu, he⟩ := q1J hx
 obtain ⟨q1, q2⟩ := z0H h.toSmS h.p2 hu
 have ht : Tch S x.n := (x1p h.pr h.p2).1 hx
 refine ⟨Z1l x _ Z1R fun i hi => by rw [← he i hi]; exact q1 i, fun k hk p hp => by rw [← he.hq]; exact q2 k hk p hp, ht, fun k hk => x0W.2 ?_⟩
 rcases (by omega : k = 0 ∨ k = 1 ∨ k = 2) with rfl | rfl | rfl
 ·exact ht.1.1
 ·exact ht.1.2.1
 ·exact ht.1.2.2
theorem q1B (S : Sys) (t : Nat → Rat) (k : Nat) {i : Nat} (h : i + 1 < (onS S t k).length) : gi (onS S t k) i < gi (onS S t k) (i + 1) := by
 have hp : (onS S t k).Pairwise (· < ·) := (List.pairwise_lt_range).filter _
 have := List.pairwise_iff_getElem.1 hp i (i + 1) zO h zO
 rw [J0F h, J0F (by omega)]
 exact this
theorem Q1d (S : Sys) (t : Nat → Rat) (k : Nat) {i : Nat} (h : i < (onS S t k).length) : gi (onS S t k) i < (S.sp k).length := by
 have : gi (onS S t k) i ∈ onS S t k := y1N h
 exact (j0Z.1 this).1
def cnS (S : Sys) (t : Nat → Rat) : Sys := ⟨S.ax, S.off, fun k => pkL (S.sp k) (onS S t k)⟩
theorem W1M (l : List Tr) (k : Nat) (s : List Nat) : x0K (pkL l s) k = plP l k s := by
 unfold x0K pkL plP
 rw [List.map_map]
 rfl
theorem Y1B {S : Sys} {t : Nat → Rat} (h : Tch S t) : enB (cnS S t) = true := by
 obtain ⟨_, h1, ⟨i, j, hi, hj, hne⟩, m, hm⟩ := h
 rw [y1F]
 unfold K0o
 show (!J0b (x0K (pkL (S.sp 0) (onS S t 0)) (S.ax 0)) && (twB (pkL (S.sp 1) (onS S t 1)) (S.ax 2) && decide (0 < (pkL (S.sp 2) (onS S t 2)).length))) = true
 rw [W1M, h1]
 have hl : (pkL (S.sp 2) (onS S t 2)).length = (onS S t 2).length := by simp [pkL]
 rw [hl, decide_eq_true (List.length_pos_of_mem hm), Bool.and_true, Bool.not_false, Bool.true_and]
 obtain ⟨a, ha, rfl⟩ := List.getElem_of_mem hi
 obtain ⟨b, hb, rfl⟩ := List.getElem_of_mem hj
 have hl1 : (pkL (S.sp 1) (onS S t 1)).length = (onS S t 1).length := by simp [pkL]
 rw [← J0F ha, ← J0F hb, ← x1j (S.sp 1) ha, ← x1j (S.sp 1) hb] at hne
 refine X0G.2 ?_
 by_cases h0 : cz (gt (pkL (S.sp 1) (onS S t 1)) a) (S.ax 2) = cz (gt (pkL (S.sp 1) (onS S t 1)) 0) (S.ax 2)
 ·exact ⟨b, by omega, fun e => hne (h0.trans e.symm)⟩
 ·exact ⟨a, by omega, h0⟩
def smC (S : Sys) (t : Nat → Rat) (i : Nat) : List SV := (List.range 6).map (fun j => SV.av (syA S j)) ++ (List.range 3).map fun k => .av (match Nat.blt k i with | true => ts (pkL (S.sp k) (onS S t k)) | false => syA S (6 + k))
theorem z1B (a b c : Value) (w : World) : (Instr.index 38 (.agg #[a, b, c]) (.int .i64 ((0 : Nat) : Int))).run Tryz.prog w = .ok a w := by kernel_rfl
theorem z1C (a b c : Value) (w : World) : (Instr.index 38 (.agg #[a, b, c]) (.int .i64 ((1 : Nat) : Int))).run Tryz.prog w = .ok b w := by kernel_rfl
theorem z1D (a b c : Value) (w : World) : (Instr.index 38 (.agg #[a, b, c]) (.int .i64 ((2 : Nat) : Int))).run Tryz.prog w = .ok c w := by kernel_rfl
theorem Q1G (S : Sys) : ∀ i, i < 9 → (syA S i).one = true := by
 intro i hi
 rcases (by omega : i = 0 ∨ i = 1 ∨ i = 2 ∨ i = 3 ∨ i = 4 ∨ i = 5 ∨ i = 6 ∨ i = 7 ∨ i = 8) with rfl | rfl | rfl | rfl | rfl | rfl | rfl | rfl | rfl <;> rfl
theorem y1j {R : Syr} (h : RtS R) {x : Tor} (hx : x ∈ x0g (syO R)) : CtrA Tryz.prog 23 [syV (syO R), plV (syO R) x.n] (vi 0) := by
 have hp := z1c h.ok hx
 have c0 := y1w h.chk
 have c1 := k0t x.n hp.q1
 have c2 := Z0X (syO R) h.ok x.n hp.q1 hp.q2 hp.up
 have c3 := v1m (syO R) x.n (Q0J h.chk)
 have hlen := Q0J h.chk
 have c4 := Z0p (cnS (syO R) x.n) (W0e h.chk).1 (W0e h.chk).2.2.1 (fun i => by
  by_cases hi : i < (onS (syO R) x.n 0).length
  ·show BT 100000 (gt (pkL ((syO R).sp 0) (onS (syO R) x.n 0)) i)
   rw [x1j _ hi]; exact v1H h.chk 0 _
  ·have e : gt (pkL ((syO R).sp 0) (onS (syO R) x.n 0)) i = default := by unfold gt; simp [List.getD, pkL, List.getElem?_eq_none (Nat.le_of_not_lt hi)]
   show BT 100000 (gt (pkL ((syO R).sp 0) (onS (syO R) x.n 0)) i)
   rw [e]
   exact ⟨⟨by decide, by decide⟩, ⟨by decide, by decide⟩, ⟨by decide, by decide⟩⟩) (fun k hk => by
  show (pkL ((syO R).sp k) (onS (syO R) x.n k)).length ≤ 1000
  have := x0I (syO R) x.n k
  have := hlen k hk
  simp only [pkL, List.length_map]; omega)
 rw [Y1B hp.t] at c4
 obtain ⟨S, hS⟩ : ∃ S, S = syO R := ⟨_, rfl⟩
 rw [← hS] at c0 c2 c3 c4 hp hlen ⊢
 obtain ⟨t, ht⟩ : ∃ t, t = x.n := ⟨_, rfl⟩
 rw [← ht] at c1 c2 c3 c4 ⊢
 have hl0 := x0I S t 0
 have hl1 := x0I S t 1
 have hl2 := x0I S t 2
 have hs0 := hlen 0 zE
 have hs1 := hlen 1 zE
 have hs2 := hlen 2 zE
 refine j0s _ Tryz.func23 rfl rfl Tryz.ntmps23 rfl fun w Z => ?_
 refine zU ?_
 refine wt ?_
 refine j0j (j0i rfl rfl) rfl ?_
 refine wt ?_
 refine j0j (j0k (us := t6L t) rfl rfl rfl rfl) rfl ?_
 refine wt ?_
 refine j0j (j0i rfl rfl) rfl ?_
 refine wt ?_
 refine j0g (γ := Nat) (fun i => [(2, .av (.ptr 9 (syA S))), (3, .av (.ptr 9 (plA S t))), (29, .av (.agg 3 (fun j => plA S t (6 + j)))), (30, .av (vi i))]) (fun _ => []) (fun i => i ≤ 3) (fun i => 3 - i) 0 zO (ent zS trivial) ?_
 intro i hi
 match i, hi with
 |0, _ =>
  refine wt ?_
  refine j0j (q0p (k := 0) zE (z1B) rfl rfl) rfl ?_
  refine wt ?_
  refine j0g (γ := Nat) (fun k => [(2, .av (.ptr 9 (syA S))), (3, .av (.ptr 9 (plA S t))), (29, .av (.agg 3 (fun j => plA S t (6 + j)))), (30, .av (vi 0)), (7, .av (vi 0)), (8, .av (idx (onS S t 0))), (34, .av (idx (onS S t 0))), (35, .av (vi (onS S t 0).length)), (36, .av (vi k))]) (fun _ => []) (fun k => k ≤ (onS S t 0).length) (fun k => (onS S t 0).length - k) 0 zO (ent zS trivial) ?_
  intro k hk
  refine wt ?_
  (refine j0a rfl ?_ ?_ <;> intro hb <;> (try simp only [zA, zB, zG, zC, zD, zN] at hb) <;> (try exact zQ))
  ·have hkl : k < (onS S t 0).length := by omega
   have hlt := Q1d S t 0 hkl
   have ha : 0 < k → gi (onS S t 0) (k - 1) < gi (onS S t 0) k := fun h0 => by
    have := q1B S t 0 (i := k - 1) zO
    rw [show k - 1 + 1 = k by omega] at this
    exact this
   have e0 : ((k : Int) - 1).toNat = k - 1 := by omega
   refine wt ?_
   (refine j0a rfl ?_ ?_ <;> intro hb <;> (try simp only [zA, zB, zG, zC, zD, zN] at hb) <;> (try exact zQ))
   ·refine wt ?_
    (first | refine j0f rfl rfl ?_ ?_ | refine j0e rfl rfl ?_ ?_) <;> intro hb <;> (try simp only [zA, zB, zG, zC, zD, zN] at hb) <;> (try exact zQ)
    ·have := ha zO
     refine wt ?_
     rw [e0]
     (refine j0a rfl ?_ ?_ <;> intro hb <;> (try simp only [zA, zB, zG, zC, zD, zN] at hb) <;> (try exact zQ))
     ·refine wt ?_
      exact j0b (k + 1) zO zO (ent zS trivial)
    ·refine wt ?_
     exact j0b (k + 1) zO zO (ent zS trivial)
  ·refine wt ?_
   exact j0b 1 zO zO (ent zS trivial)
 |1, _ =>
  refine wt ?_
  refine j0j (q0p (k := 1) zE (z1C) rfl rfl) rfl ?_
  refine wt ?_
  refine j0g (γ := Nat) (fun k => [(2, .av (.ptr 9 (syA S))), (3, .av (.ptr 9 (plA S t))), (29, .av (.agg 3 (fun j => plA S t (6 + j)))), (30, .av (vi 1)), (7, .av (vi 1)), (8, .av (idx (onS S t 1))), (34, .av (idx (onS S t 1))), (35, .av (vi (onS S t 1).length)), (36, .av (vi k))]) (fun _ => []) (fun k => k ≤ (onS S t 1).length) (fun k => (onS S t 1).length - k) 0 zO (ent zS trivial) ?_
  intro k hk
  refine wt ?_
  (refine j0a rfl ?_ ?_ <;> intro hb <;> (try simp only [zA, zB, zG, zC, zD, zN] at hb) <;> (try exact zQ))
  ·have hkl : k < (onS S t 1).length := by omega
   have hlt := Q1d S t 1 hkl
   have ha : 0 < k → gi (onS S t 1) (k - 1) < gi (onS S t 1) k := fun h0 => by
    have := q1B S t 1 (i := k - 1) zO
    rw [show k - 1 + 1 = k by omega] at this
    exact this
   have e0 : ((k : Int) - 1).toNat = k - 1 := by omega
   refine wt ?_
   (refine j0a rfl ?_ ?_ <;> intro hb <;> (try simp only [zA, zB, zG, zC, zD, zN] at hb) <;> (try exact zQ))
   ·refine wt ?_
    (first | refine j0f rfl rfl ?_ ?_ | refine j0e rfl rfl ?_ ?_) <;> intro hb <;> (try simp only [zA, zB, zG, zC, zD, zN] at hb) <;> (try exact zQ)
    ·have := ha zO
     refine wt ?_
     rw [e0]
     (refine j0a rfl ?_ ?_ <;> intro hb <;> (try simp only [zA, zB, zG, zC, zD, zN] at hb) <;> (try exact zQ))
     ·refine wt ?_
      exact j0b (k + 1) zO zO (ent zS trivial)
    ·refine wt ?_
     exact j0b (k + 1) zO zO (ent zS trivial)
  ·refine wt ?_
   exact j0b 2 zO zO (ent zS trivial)
 |2, _ =>
  refine wt ?_
  refine j0j (q0p (k := 2) zE (z1D) rfl rfl) rfl ?_
  refine wt ?_
  refine j0g (γ := Nat) (fun k => [(2, .av (.ptr 9 (syA S))), (3, .av (.ptr 9 (plA S t))), (29, .av (.agg 3 (fun j => plA S t (6 + j)))), (30, .av (vi 2)), (7, .av (vi 2)), (8, .av (idx (onS S t 2))), (34, .av (idx (onS S t 2))), (35, .av (vi (onS S t 2).length)), (36, .av (vi k))]) (fun _ => []) (fun k => k ≤ (onS S t 2).length) (fun k => (onS S t 2).length - k) 0 zO (ent zS trivial) ?_
  intro k hk
  refine wt ?_
  (refine j0a rfl ?_ ?_ <;> intro hb <;> (try simp only [zA, zB, zG, zC, zD, zN] at hb) <;> (try exact zQ))
  ·have hkl : k < (onS S t 2).length := by omega
   have hlt := Q1d S t 2 hkl
   have ha : 0 < k → gi (onS S t 2) (k - 1) < gi (onS S t 2) k := fun h0 => by
    have := q1B S t 2 (i := k - 1) zO
    rw [show k - 1 + 1 = k by omega] at this
    exact this
   have e0 : ((k : Int) - 1).toNat = k - 1 := by omega
   refine wt ?_
   (refine j0a rfl ?_ ?_ <;> intro hb <;> (try simp only [zA, zB, zG, zC, zD, zN] at hb) <;> (try exact zQ))
   ·refine wt ?_
    (first | refine j0f rfl rfl ?_ ?_ | refine j0e rfl rfl ?_ ?_) <;> intro hb <;> (try simp only [zA, zB, zG, zC, zD, zN] at hb) <;> (try exact zQ)
    ·have := ha zO
     refine wt ?_
     rw [e0]
     (refine j0a rfl ?_ ?_ <;> intro hb <;> (try simp only [zA, zB, zG, zC, zD, zN] at hb) <;> (try exact zQ))
     ·refine wt ?_
      exact j0b (k + 1) zO zO (ent zS trivial)
    ·refine wt ?_
     exact j0b (k + 1) zO zO (ent zS trivial)
  ·refine wt ?_
   exact j0b 3 zO zO (ent zS trivial)
 |3, _ =>
  refine wt ?_
  refine j0j (j0i rfl rfl) rfl ?_
  refine wt ?_
  refine j0j (j0k (us := t6L t) rfl rfl rfl rfl) rfl ?_
  refine wt ?_
  refine q0U (j0y rfl rfl (x0f S t) rfl rfl) ?_
  refine wt ?_
  refine x0m (j0i rfl rfl) rfl rfl rfl ?_
  refine wt ?_
  refine x0m (j0n (f := plA S t) rfl rfl rfl) rfl rfl rfl ?_
  refine wt ?_
  refine j0j (j0i rfl rfl) rfl ?_
  refine wt ?_
  refine q0U (j0y rfl rfl (Q1G S) rfl rfl) ?_
  refine wt ?_
  refine j0j (j0i rfl rfl) rfl ?_
  refine wt ?_
  refine j0g (γ := Nat) (fun i => [(2, .av (.ptr 9 (syA S))), (14, .own 11 0), (88, .av (.agg 3 (fun j => plA S t (6 + j)))), (89, .av (vi i))]) (fun i => [(11, .cells (smC S t i))]) (fun i => i ≤ 3) (fun i => 3 - i) 0 zO (ent zS zT) ?_
  intro i hi
  match i, hi with
  |0, _ =>
   have hl := V0H (S.sp 0) (onS S t 0) (fun i hi => (j0Z.1 hi).1) zO zO
   refine wt ?_
   refine j0j (q0p (k := 0) zE (z1B) rfl rfl) rfl ?_
   refine wt ?_
   refine j0A (q0q 22 hl rfl rfl) rfl ?_
   refine wt ?_
   exact j0b 1 zO zO (Ent.trans (j0M 11 22 (6 + 0) rfl rfl rfl rfl) (ent zS zT))
  |1, _ =>
   have hl := V0H (S.sp 1) (onS S t 1) (fun i hi => (j0Z.1 hi).1) zO zO
   refine wt ?_
   refine j0j (q0p (k := 1) zE (z1C) rfl rfl) rfl ?_
   refine wt ?_
   refine j0A (q0q 22 hl rfl rfl) rfl ?_
   refine wt ?_
   exact j0b 2 zO zO (Ent.trans (j0M 11 22 (6 + 1) rfl rfl rfl rfl) (ent zS zT))
  |2, _ =>
   have hl := V0H (S.sp 2) (onS S t 2) (fun i hi => (j0Z.1 hi).1) zO zO
   refine wt ?_
   refine j0j (q0p (k := 2) zE (z1D) rfl rfl) rfl ?_
   refine wt ?_
   refine j0A (q0q 22 hl rfl rfl) rfl ?_
   refine wt ?_
   exact j0b 3 zO zO (Ent.trans (j0M 11 22 (6 + 2) rfl rfl rfl rfl) (ent zS zT))
  |3, _ =>
   refine wt ?_
   refine j0j (j0n (f := syA (cnS S t)) rfl rfl rfl) rfl ?_
   refine wt ?_
   exact zV
  |i + 4, hi => omega
 |i + 4, hi => omega
theorem z0b {R : Syr} {k : Nat} (hk : k < 3) (h : ¬ (0 ≤ R.ax k ∧ R.ax k < 3)) : w0N R = 1 := by
 refine J0l ?_
 cases e : axB R 3 with
 |false => rfl
 |true => exact absurd ((Q0m e).1 k hk) h
theorem k0b (R : Syr) (hn : ∀ k, k < 3 → (R.sp k).length ≤ 1000) : CtrA Tryz.prog 45 [.agg 9 (srA R)] (vi (w0N R)) := by
 have k0 := J0S (R.sp 0) (hn 0 zE)
 have k1 := J0S (R.sp 1) (hn 1 zE)
 have k2 := J0S (R.sp 2) (hn 2 zE)
 refine j0s _ Tryz.func45 rfl rfl Tryz.ntmps45 rfl fun w Z => ?_
 refine zU ?_
 refine wt ?_
 refine j0g (γ := Nat) (fun i => [(1, .av (.ptr 9 (srA R))), (3, .av (vi i))]) (fun _ => []) (fun i => i ≤ 3 ∧ ∀ j, j < i → 0 ≤ R.ax j ∧ R.ax j < 3) (fun i => 3 - i) 0 ⟨by omega, fun j hj => absurd hj zO⟩ (ent zS trivial) ?_
 rintro i ⟨hi, hJ⟩
 match i, hi, hJ with
 |0, _, hJ =>
  rcases (by omega : R.ax 0 < 0 ∨ 2 < R.ax 0 ∨ (0 ≤ R.ax 0 ∧ R.ax 0 < 3)) with hr | hr | hr
  ·have hc := z0b (R := R) (k := 0) zE zO
   refine wt ?_
   (first | refine j0f rfl rfl ?_ ?_ | refine j0e rfl rfl ?_ ?_) <;> intro hb <;> (try simp only [zA, zB, zG, zC, zD, zN] at hb) <;> (try exact zQ)
   ·refine wt ?_
    exact j0c rfl (.tmp rfl) (by rw [hc])
  ·have hc := z0b (R := R) (k := 0) zE zO
   refine wt ?_
   (first | refine j0f rfl rfl ?_ ?_ | refine j0e rfl rfl ?_ ?_) <;> intro hb <;> (try simp only [zA, zB, zG, zC, zD, zN] at hb) <;> (try exact zQ)
   ·refine wt ?_
    (refine j0a rfl ?_ ?_ <;> intro hb <;> (try simp only [zA, zB, zG, zC, zD, zN] at hb) <;> (try exact zQ))
    ·refine wt ?_
     exact j0c rfl (.tmp rfl) (by rw [hc])
  ·refine wt ?_
   (first | refine j0f rfl rfl ?_ ?_ | refine j0e rfl rfl ?_ ?_) <;> intro hb <;> (try simp only [zA, zB, zG, zC, zD, zN] at hb) <;> (try exact zQ)
   ·refine wt ?_
    (refine j0a rfl ?_ ?_ <;> intro hb <;> (try simp only [zA, zB, zG, zC, zD, zN] at hb) <;> (try exact zQ))
    ·refine wt ?_
     exact j0b 1 ⟨by omega, fun j hj => by
      by_cases e : j = 0
      ·subst e; exact hr
      ·exact hJ j zO⟩ zO (ent zS trivial)
 |1, _, hJ =>
  rcases (by omega : R.ax 1 < 0 ∨ 2 < R.ax 1 ∨ (0 ≤ R.ax 1 ∧ R.ax 1 < 3)) with hr | hr | hr
  ·have hc := z0b (R := R) (k := 1) zE zO
   refine wt ?_
   (first | refine j0f rfl rfl ?_ ?_ | refine j0e rfl rfl ?_ ?_) <;> intro hb <;> (try simp only [zA, zB, zG, zC, zD, zN] at hb) <;> (try exact zQ)
   ·refine wt ?_
    exact j0c rfl (.tmp rfl) (by rw [hc])
  ·have hc := z0b (R := R) (k := 1) zE zO
   refine wt ?_
   (first | refine j0f rfl rfl ?_ ?_ | refine j0e rfl rfl ?_ ?_) <;> intro hb <;> (try simp only [zA, zB, zG, zC, zD, zN] at hb) <;> (try exact zQ)
   ·refine wt ?_
    (refine j0a rfl ?_ ?_ <;> intro hb <;> (try simp only [zA, zB, zG, zC, zD, zN] at hb) <;> (try exact zQ))
    ·refine wt ?_
     exact j0c rfl (.tmp rfl) (by rw [hc])
  ·refine wt ?_
   (first | refine j0f rfl rfl ?_ ?_ | refine j0e rfl rfl ?_ ?_) <;> intro hb <;> (try simp only [zA, zB, zG, zC, zD, zN] at hb) <;> (try exact zQ)
   ·refine wt ?_
    (refine j0a rfl ?_ ?_ <;> intro hb <;> (try simp only [zA, zB, zG, zC, zD, zN] at hb) <;> (try exact zQ))
    ·refine wt ?_
     exact j0b 2 ⟨by omega, fun j hj => by
      by_cases e : j = 1
      ·subst e; exact hr
      ·exact hJ j zO⟩ zO (ent zS trivial)
 |2, _, hJ =>
  rcases (by omega : R.ax 2 < 0 ∨ 2 < R.ax 2 ∨ (0 ≤ R.ax 2 ∧ R.ax 2 < 3)) with hr | hr | hr
  ·have hc := z0b (R := R) (k := 2) zE zO
   refine wt ?_
   (first | refine j0f rfl rfl ?_ ?_ | refine j0e rfl rfl ?_ ?_) <;> intro hb <;> (try simp only [zA, zB, zG, zC, zD, zN] at hb) <;> (try exact zQ)
   ·refine wt ?_
    exact j0c rfl (.tmp rfl) (by rw [hc])
  ·have hc := z0b (R := R) (k := 2) zE zO
   refine wt ?_
   (first | refine j0f rfl rfl ?_ ?_ | refine j0e rfl rfl ?_ ?_) <;> intro hb <;> (try simp only [zA, zB, zG, zC, zD, zN] at hb) <;> (try exact zQ)
   ·refine wt ?_
    (refine j0a rfl ?_ ?_ <;> intro hb <;> (try simp only [zA, zB, zG, zC, zD, zN] at hb) <;> (try exact zQ))
    ·refine wt ?_
     exact j0c rfl (.tmp rfl) (by rw [hc])
  ·refine wt ?_
   (first | refine j0f rfl rfl ?_ ?_ | refine j0e rfl rfl ?_ ?_) <;> intro hb <;> (try simp only [zA, zB, zG, zC, zD, zN] at hb) <;> (try exact zQ)
   ·refine wt ?_
    (refine j0a rfl ?_ ?_ <;> intro hb <;> (try simp only [zA, zB, zG, zC, zD, zN] at hb) <;> (try exact zQ))
    ·refine wt ?_
     exact j0b 3 ⟨by omega, fun j hj => by
      by_cases e : j = 2
      ·subst e; exact hr
      ·exact hJ j zO⟩ zO (ent zS trivial)
 |3, _, hJ =>
  have a0 := hJ 0 zE
  have a1 := hJ 1 zE
  have a2 := hJ 2 zE
  by_cases h1 : R.ax 0 = R.ax 1
  ·have hc : w0N R = 1 := J0l (by cases e : axB R 3 with | false => rfl | true => exact absurd h1 (Q0m e).2.1)
   refine wt ?_
   (first | refine j0f rfl rfl ?_ ?_ | refine j0e rfl rfl ?_ ?_) <;> intro hb <;> (try simp only [zA, zB, zG, zC, zD, zN] at hb) <;> (try exact zQ)
   ·refine wt ?_
    exact j0c rfl (.tmp rfl) (by rw [hc])
  ·by_cases h2 : R.ax 0 = R.ax 2
   ·have hc : w0N R = 1 := J0l (by cases e : axB R 3 with | false => rfl | true => exact absurd h2 (Q0m e).2.2.1)
    refine wt ?_
    (first | refine j0f rfl rfl ?_ ?_ | refine j0e rfl rfl ?_ ?_) <;> intro hb <;> (try simp only [zA, zB, zG, zC, zD, zN] at hb) <;> (try exact zQ)
    ·refine wt ?_
     (first | refine j0f rfl rfl ?_ ?_ | refine j0e rfl rfl ?_ ?_) <;> intro hb <;> (try simp only [zA, zB, zG, zC, zD, zN] at hb) <;> (try exact zQ)
     ·refine wt ?_
      exact j0c rfl (.tmp rfl) (by rw [hc])
   ·by_cases h3 : R.ax 1 = R.ax 2
    ·have hc : w0N R = 1 := J0l (by cases e : axB R 3 with | false => rfl | true => exact absurd h3 (Q0m e).2.2.2)
     refine wt ?_
     (first | refine j0f rfl rfl ?_ ?_ | refine j0e rfl rfl ?_ ?_) <;> intro hb <;> (try simp only [zA, zB, zG, zC, zD, zN] at hb) <;> (try exact zQ)
     ·refine wt ?_
      (first | refine j0f rfl rfl ?_ ?_ | refine j0e rfl rfl ?_ ?_) <;> intro hb <;> (try simp only [zA, zB, zG, zC, zD, zN] at hb) <;> (try exact zQ)
      ·refine wt ?_
       (refine j0a rfl ?_ ?_ <;> intro hb <;> (try simp only [zA, zB, zG, zC, zD, zN] at hb) <;> (try exact zQ))
       ·refine wt ?_
        exact j0c rfl (.tmp rfl) (by rw [hc])
    ·have hA : axB R 3 = true := V1F hJ h1 h2 h3
     refine wt ?_
     (first | refine j0f rfl rfl ?_ ?_ | refine j0e rfl rfl ?_ ?_) <;> intro hb <;> (try simp only [zA, zB, zG, zC, zD, zN] at hb) <;> (try exact zQ)
     ·refine wt ?_
      (first | refine j0f rfl rfl ?_ ?_ | refine j0e rfl rfl ?_ ?_) <;> intro hb <;> (try simp only [zA, zB, zG, zC, zD, zN] at hb) <;> (try exact zQ)
      ·refine wt ?_
       (refine j0a rfl ?_ ?_ <;> intro hb <;> (try simp only [zA, zB, zG, zC, zD, zN] at hb) <;> (try exact zQ))
       ·refine wt ?_
        refine j0g (γ := Nat) (fun i => [(1, .av (.ptr 9 (srA R))), (4, .av (vi i))]) (fun _ => []) (fun i => i ≤ 3 ∧ ∀ j, j < i → -100000 ≤ R.off j ∧ R.off j ≤ 100000) (fun i => 3 - i) 0 ⟨by omega, fun j hj => absurd hj zO⟩ (ent zS trivial) ?_
        rintro i ⟨hi, hO⟩
        match i, hi, hO with
        |0, _, hO =>
         have hb2 : ¬ (-100000 ≤ R.off 0 ∧ R.off 0 ≤ 100000) → w0N R = 2 := fun hn => V0i hA (by cases e : ofB R with | false => rfl | true => exact absurd (X0i.1 e 0 zE) hn)
         rcases (by omega : R.off 0 < -100000 ∨ 100000 < R.off 0 ∨ (-100000 ≤ R.off 0 ∧ R.off 0 ≤ 100000)) with hr | hr | hr
         ·have hc := hb2 zO
          refine wt ?_
          (first | refine j0f rfl rfl ?_ ?_ | refine j0e rfl rfl ?_ ?_) <;> intro hb <;> (try simp only [zA, zB, zG, zC, zD, zN] at hb) <;> (try exact zQ)
          ·refine wt ?_
           exact j0c rfl (.tmp rfl) (by rw [hc])
         ·have hc := hb2 zO
          refine wt ?_
          (first | refine j0f rfl rfl ?_ ?_ | refine j0e rfl rfl ?_ ?_) <;> intro hb <;> (try simp only [zA, zB, zG, zC, zD, zN] at hb) <;> (try exact zQ)
          ·refine wt ?_
           (refine j0a rfl ?_ ?_ <;> intro hb <;> (try simp only [zA, zB, zG, zC, zD, zN] at hb) <;> (try exact zQ))
           ·refine wt ?_
            exact j0c rfl (.tmp rfl) (by rw [hc])
         ·refine wt ?_
          (first | refine j0f rfl rfl ?_ ?_ | refine j0e rfl rfl ?_ ?_) <;> intro hb <;> (try simp only [zA, zB, zG, zC, zD, zN] at hb) <;> (try exact zQ)
          ·refine wt ?_
           (refine j0a rfl ?_ ?_ <;> intro hb <;> (try simp only [zA, zB, zG, zC, zD, zN] at hb) <;> (try exact zQ))
           ·refine wt ?_
            exact j0b 1 ⟨by omega, fun j hj => by
             by_cases e : j = 0
             ·subst e; exact hr
             ·exact hO j zO⟩ zO (ent zS trivial)
        |1, _, hO =>
         have hb2 : ¬ (-100000 ≤ R.off 1 ∧ R.off 1 ≤ 100000) → w0N R = 2 := fun hn => V0i hA (by cases e : ofB R with | false => rfl | true => exact absurd (X0i.1 e 1 zE) hn)
         rcases (by omega : R.off 1 < -100000 ∨ 100000 < R.off 1 ∨ (-100000 ≤ R.off 1 ∧ R.off 1 ≤ 100000)) with hr | hr | hr
         ·have hc := hb2 zO
          refine wt ?_
          (first | refine j0f rfl rfl ?_ ?_ | refine j0e rfl rfl ?_ ?_) <;> intro hb <;> (try simp only [zA, zB, zG, zC, zD, zN] at hb) <;> (try exact zQ)
          ·refine wt ?_
           exact j0c rfl (.tmp rfl) (by rw [hc])
         ·have hc := hb2 zO
          refine wt ?_
          (first | refine j0f rfl rfl ?_ ?_ | refine j0e rfl rfl ?_ ?_) <;> intro hb <;> (try simp only [zA, zB, zG, zC, zD, zN] at hb) <;> (try exact zQ)
          ·refine wt ?_
           (refine j0a rfl ?_ ?_ <;> intro hb <;> (try simp only [zA, zB, zG, zC, zD, zN] at hb) <;> (try exact zQ))
           ·refine wt ?_
            exact j0c rfl (.tmp rfl) (by rw [hc])
         ·refine wt ?_
          (first | refine j0f rfl rfl ?_ ?_ | refine j0e rfl rfl ?_ ?_) <;> intro hb <;> (try simp only [zA, zB, zG, zC, zD, zN] at hb) <;> (try exact zQ)
          ·refine wt ?_
           (refine j0a rfl ?_ ?_ <;> intro hb <;> (try simp only [zA, zB, zG, zC, zD, zN] at hb) <;> (try exact zQ))
           ·refine wt ?_
            exact j0b 2 ⟨by omega, fun j hj => by
             by_cases e : j = 1
             ·subst e; exact hr
             ·exact hO j zO⟩ zO (ent zS trivial)
        |2, _, hO =>
         have hb2 : ¬ (-100000 ≤ R.off 2 ∧ R.off 2 ≤ 100000) → w0N R = 2 := fun hn => V0i hA (by cases e : ofB R with | false => rfl | true => exact absurd (X0i.1 e 2 zE) hn)
         rcases (by omega : R.off 2 < -100000 ∨ 100000 < R.off 2 ∨ (-100000 ≤ R.off 2 ∧ R.off 2 ≤ 100000)) with hr | hr | hr
         ·have hc := hb2 zO
          refine wt ?_
          (first | refine j0f rfl rfl ?_ ?_ | refine j0e rfl rfl ?_ ?_) <;> intro hb <;> (try simp only [zA, zB, zG, zC, zD, zN] at hb) <;> (try exact zQ)
          ·refine wt ?_
           exact j0c rfl (.tmp rfl) (by rw [hc])
         ·have hc := hb2 zO
          refine wt ?_
          (first | refine j0f rfl rfl ?_ ?_ | refine j0e rfl rfl ?_ ?_) <;> intro hb <;> (try simp only [zA, zB, zG, zC, zD, zN] at hb) <;> (try exact zQ)
          ·refine wt ?_
           (refine j0a rfl ?_ ?_ <;> intro hb <;> (try simp only [zA, zB, zG, zC, zD, zN] at hb) <;> (try exact zQ))
           ·refine wt ?_
            exact j0c rfl (.tmp rfl) (by rw [hc])
         ·refine wt ?_
          (first | refine j0f rfl rfl ?_ ?_ | refine j0e rfl rfl ?_ ?_) <;> intro hb <;> (try simp only [zA, zB, zG, zC, zD, zN] at hb) <;> (try exact zQ)
          ·refine wt ?_
           (refine j0a rfl ?_ ?_ <;> intro hb <;> (try simp only [zA, zB, zG, zC, zD, zN] at hb) <;> (try exact zQ))
           ·refine wt ?_
            exact j0b 3 ⟨by omega, fun j hj => by
             by_cases e : j = 2
             ·subst e; exact hr
             ·exact hO j zO⟩ zO (ent zS trivial)
        |3, _, hO =>
         have hs := j1o hA (X0i.2 hO)
         rw [hs]
         refine wt ?_
         refine j0g (γ := Nat) (fun i => [(1, .av (.ptr 9 (srA R))), (5, .av (vi i))]) (fun _ => []) (fun i => i ≤ 3 ∧ (1 ≤ i → w0z (R.sp 0) = 0) ∧ (2 ≤ i → w0z (R.sp 1) = 0) ∧ (3 ≤ i → w0z (R.sp 2) = 0)) (fun i => 3 - i) 0 ⟨by omega, fun h => absurd h zO, fun h => absurd h zO, fun h => absurd h zO⟩ (ent zS trivial) ?_
         rintro i ⟨hi, hK⟩
         match i, hi, hK with
         |0, _, hK =>
          by_cases he : w0z (R.sp 0) = 0
          ·refine wt ?_
           (refine j0a rfl ?_ ?_ <;> intro hb <;> (try simp only [zA, zB, zG, zC, zD, zN] at hb) <;> (try exact zQ))
           ·refine wt ?_
            exact j0b 1 ⟨by omega, fun _ => he, fun h => absurd h zO, fun h => absurd h zO⟩ zO (ent zS trivial)
          ·refine wt ?_
           (refine j0a rfl ?_ ?_ <;> intro hb <;> (try simp only [zA, zB, zG, zC, zD, zN] at hb) <;> (try exact zQ))
           ·refine wt ?_
            exact j0c rfl (.tmp rfl) (by unfold spE; rw [if_pos he])
         |1, _, hK =>
          by_cases he : w0z (R.sp 1) = 0
          ·refine wt ?_
           (refine j0a rfl ?_ ?_ <;> intro hb <;> (try simp only [zA, zB, zG, zC, zD, zN] at hb) <;> (try exact zQ))
           ·refine wt ?_
            exact j0b 2 ⟨by omega, fun _ => hK.1 zO, fun _ => he, fun h => absurd h zO⟩ zO (ent zS trivial)
          ·refine wt ?_
           (refine j0a rfl ?_ ?_ <;> intro hb <;> (try simp only [zA, zB, zG, zC, zD, zN] at hb) <;> (try exact zQ))
           ·refine wt ?_
            exact j0c rfl (.tmp rfl) (by unfold spE; rw [if_neg (fun h => h (hK.1 (by omega))), if_pos he])
         |2, _, hK =>
          have hs2 : spE R = w0z (R.sp 2) := by unfold spE; rw [if_neg (fun h => h (hK.1 (by omega))), if_neg (fun h => h (hK.2.1 (by omega)))]
          by_cases he : w0z (R.sp 2) = 0
          ·refine wt ?_
           (refine j0a rfl ?_ ?_ <;> intro hb <;> (try simp only [zA, zB, zG, zC, zD, zN] at hb) <;> (try exact zQ))
           ·refine wt ?_
            exact j0b 3 ⟨by omega, fun _ => hK.1 zO, fun _ => hK.2.1 zO, fun _ => he⟩ zO (ent zS trivial)
          ·refine wt ?_
           (refine j0a rfl ?_ ?_ <;> intro hb <;> (try simp only [zA, zB, zG, zC, zD, zN] at hb) <;> (try exact zQ))
           ·refine wt ?_
            exact j0c rfl (.tmp rfl) (by rw [hs2])
         |3, _, hK =>
          have hs3 : spE R = 0 := by unfold spE; rw [if_neg (fun h => h (hK.1 (by omega))), if_neg (fun h => h (hK.2.1 (by omega)))]; exact hK.2.2 (by omega)
          refine wt ?_
          exact j0c rfl (.tmp rfl) (by rw [hs3])
         |i + 4, hi, _ => omega
        |i + 4, hi, _ => omega
 |i + 4, hi, _ => omega
theorem Z1q (l : List Tr) (k : Nat) (hk : k < 3) (hn : l.length ≤ 1000) : CtrA Tryz.prog 86 [ts l, vi (k : Int)] (vb (twB l k)) := by
 refine j0s _ Tryz.func86 rfl rfl Tryz.ntmps86 rfl fun w Z => ?_
 refine zU ?_
 refine wt ?_
 refine j0g (γ := Nat) (fun i => [(0, .av (ts l)), (1, .av (vi (k : Int))), (5, .av (vi i))]) (fun _ => []) (fun i => i ≤ l.length ∧ ∀ j, j < i → cz (gt l j) k = cz (gt l 0) k) (fun i => l.length - i) 0 ⟨by omega, fun j hj => absurd hj zO⟩ (ent zS trivial) ?_
 rintro i ⟨hi, hJ⟩
 refine wt ?_
 (refine j0a rfl ?_ ?_ <;> intro hb <;> (try simp only [zA, zB, zG, zC, zD, zN] at hb) <;> (try exact zQ))
 ·have hil : i < l.length := by omega
  have c1 := V0R (gt l i) hk
  have c2 := V0R (gt l 0) hk
  refine wt ?_
  by_cases he : cz (gt l i) k = cz (gt l 0) k
  ·(refine j0a rfl ?_ ?_ <;> intro hb <;> (try simp only [zA, zB, zG, zC, zD, zN] at hb) <;> (try exact zQ))
   ·refine wt ?_
    exact j0b (i + 1) ⟨by omega, fun j hj => by
     by_cases e : j = i
     ·subst e; exact he
     ·exact hJ j zO⟩ zO (ent zS trivial)
  ·(refine j0a rfl ?_ ?_ <;> intro hb <;> (try simp only [zA, zB, zG, zC, zD, zN] at hb) <;> (try exact zQ))
   ·refine wt ?_
    exact j0c rfl (.tmp rfl) (by rw [X0G.2 ⟨i, hil, he⟩])
 ·obtain rfl : i = l.length := by omega
  refine wt ?_
  have hf : twB l k = false := by
   cases e : twB l k with
   |false => rfl
   |true => obtain ⟨j, h1, h2⟩ := X0G.1 e; exact absurd (hJ j h1) h2
  exact j0c rfl (.tmp rfl) (by rw [hf])
def nrB (p : Tr) (k : Nat) : Bool := q0j p && (decide (cz p k < -2000) || decide (2000 < cz p k))
theorem Z0S {l : List Tr} : x0e l = true ↔ ∀ i, i < l.length → ∀ k, k < 3 → nrB (gt l i) k = false := by
 unfold x0e
 rw [List.all_eq_true]
 constructor
 ·intro h i hi k hk
  have := List.all_eq_true.1 (h i (List.mem_range.2 hi)) k (List.mem_range.2 hk)
  rw [Bool.not_eq_true'] at this
  exact this
 ·intro h i hi
  rw [List.all_eq_true]
  intro k hk
  have := h i (List.mem_range.1 hi) k (List.mem_range.1 hk)
  rw [Bool.not_eq_true']
  exact this
theorem q1s (l : List Tr) (hn : l.length ≤ 1000) : CtrA Tryz.prog 61 [ts l] (vb (x0e l)) := by
 refine j0s _ Tryz.func61 rfl rfl Tryz.ntmps61 rfl fun w Z => ?_
 refine zU ?_
 refine wt ?_
 refine j0g (γ := Nat) (fun i => [(0, .av (ts l)), (3, .av (vi i))]) (fun _ => []) (fun i => i ≤ l.length ∧ ∀ j, j < i → ∀ k, k < 3 → nrB (gt l j) k = false) (fun i => l.length - i) 0 ⟨by omega, fun j hj => absurd hj zO⟩ (ent zS trivial) ?_
 rintro i ⟨hi, hJ⟩
 refine wt ?_
 (refine j0a rfl ?_ ?_ <;> intro hb <;> (try simp only [zA, zB, zG, zC, zD, zN] at hb) <;> (try exact zQ))
 ·have hil : i < l.length := by omega
  refine wt ?_
  refine j0g (γ := Nat) (fun k => [(0, .av (ts l)), (3, .av (vi i)), (4, .av (vi k))]) (fun _ => []) (fun k => k ≤ 3 ∧ ∀ j, j < k → nrB (gt l i) j = false) (fun k => 3 - k) 0 ⟨by omega, fun j hj => absurd hj zO⟩ (ent zS trivial) ?_
  rintro k ⟨hk, hK⟩
  refine wt ?_
  (refine j0a rfl ?_ ?_ <;> intro hb <;> (try simp only [zA, zB, zG, zC, zD, zN] at hb) <;> (try exact zQ))
  ·have hkl : k < 3 := by omega
   have c1 := V0R (gt l i) hkl
   have c2 := k0d (gt l i)
   cases hb : nrB (gt l i) k with
   |false =>
    have hnx : ∀ j, j < k + 1 → nrB (gt l i) j = false := fun j hj => by
     by_cases e : j = k
     ·subst e; exact hb
     ·exact hK j zO
    cases hr : q0j (gt l i) with
    |false =>
     rw [hr] at c2
     refine wt ?_
     exact j0b (k + 1) ⟨by omega, hnx⟩ zO (ent zS trivial)
    |true =>
     rw [hr] at c2
     unfold nrB at hb
     rw [hr] at hb
     simp at hb
     refine wt ?_
     (first | refine j0f rfl rfl ?_ ?_ | refine j0e rfl rfl ?_ ?_) <;> intro hb <;> (try simp only [zA, zB, zG, zC, zD, zN] at hb) <;> (try exact zQ)
     ·refine wt ?_
      (refine j0a rfl ?_ ?_ <;> intro hb <;> (try simp only [zA, zB, zG, zC, zD, zN] at hb) <;> (try exact zQ))
      ·refine wt ?_
       exact j0b (k + 1) ⟨by omega, hnx⟩ zO (ent zS trivial)
   |true =>
    have hf : x0e l = false := by
     cases e : x0e l with
     |false => rfl
     |true => rw [Z0S.1 e i hil k hkl] at hb; cases hb
    unfold nrB at hb
    simp only [Bool.and_eq_true, Bool.or_eq_true, decide_eq_true_eq] at hb
    obtain ⟨hr, hb⟩ := hb
    rw [hr] at c2
    refine wt ?_
    (first | refine j0f rfl rfl ?_ ?_ | refine j0e rfl rfl ?_ ?_) <;> intro hb <;> (try simp only [zA, zB, zG, zC, zD, zN] at hb) <;> (try exact zQ)
    ·refine wt ?_
     exact j0c rfl (.tmp rfl) (by rw [hf])
    ·refine wt ?_
     (refine j0a rfl ?_ ?_ <;> intro hb <;> (try simp only [zA, zB, zG, zC, zD, zN] at hb) <;> (try exact zQ))
     ·refine wt ?_
      exact j0c rfl (.tmp rfl) (by rw [hf])
  ·obtain rfl : k = 3 := by omega
   refine wt ?_
   exact j0b (i + 1) ⟨by omega, fun j hj => by
    by_cases e : j = i
    ·subst e; exact fun k hk => hK k hk
    ·exact hJ j zO⟩ zO (ent zS trivial)
 ·obtain rfl : i = l.length := by omega
  refine wt ?_
  exact j0c rfl (.tmp rfl) (by rw [Z0S.2 (fun i hi k hk => hJ i hi k hk)])
theorem z1d {R : Syr} (h : w0N R = 0) : CtrA Tryz.prog 46 [syV (syO R)] (vb (K0o (syO R))) := by
 have hlen := Q0J h
 have hp := W0e h
 have c1 := v1f ((syO R).sp 0) hp.1 (hlen 0 zE)
 have c2 := K0x (x0K ((syO R).sp 0) ((syO R).ax 0)) (y1x (Z0b (v1H h 0) (by rw [z1l (by decide)]; exact (RT.of ((w0A h).2.2 0 (by decide))).2) _)).1 (by rw [x0B]; exact hlen 0 (by decide))
 have c3 := Z1q ((syO R).sp 1) ((syO R).ax 2) hp.2.2.1 (hlen 1 zE)
 obtain ⟨S, hS⟩ : ∃ S, S = syO R := ⟨_, rfl⟩
 rw [← hS] at c1 c2 c3 hlen hp ⊢
 unfold K0o
 refine j0s _ Tryz.func46 rfl rfl Tryz.ntmps46 rfl fun w Z => ?_
 refine zU ?_
 cases e1 : J0b (x0K (S.sp 0) (S.ax 0)) with
 |true =>
  rw [e1] at c2
  refine wt ?_
  refine j0A (q0q 20 c1 rfl rfl) rfl ?_
  refine wt ?_
  exact zV
 |false =>
  rw [e1] at c2
  cases e2 : twB (S.sp 1) (S.ax 2) with
  |false =>
   rw [e2] at c3
   refine wt ?_
   refine j0A (q0q 20 c1 rfl rfl) rfl ?_
   refine wt ?_
   exact zV
  |true =>
   rw [e2] at c3
   refine wt ?_
   refine j0A (q0q 20 c1 rfl rfl) rfl ?_
   refine wt ?_
   exact j0c rfl (.tmp rfl) (congrArg vb (by rw [Bool.not_false, Bool.true_and, Bool.true_and]; exact decide_eq_decide.2 (by omega)))
theorem y1J {R : Syr} (hz : w0N R = 0) (a0 : (R.sp 0).length ≤ 100) (a1 : (R.sp 1).length ≤ 100) (a2 : (R.sp 2).length ≤ 100) : j1L R = ((((((decide (((R.sp 0).length : Int) ≤ 4) && decide (((R.sp 1).length : Int) ≤ 3)) && decide (((R.sp 2).length : Int) ≤ 2)) && x0e (R.sp 0)) && x0e (R.sp 1)) && x0e (R.sp 2)) ||
  (((!K0o (syO R) && decide (((R.sp 0).length : Int) ≤ 6)) && decide (((R.sp 1).length : Int) ≤ 6)) && decide (((R.sp 2).length : Int) ≤ 6))) := by
 have e : ∀ (n : Nat) (m : Nat) (i : Int), i = (m : Int) → decide ((n : Int) ≤ i) = decide (n ≤ m) := fun n m i h => decide_eq_decide.2 zO
 rw [e (R.sp 0).length 4 4 rfl, e (R.sp 1).length 3 3 rfl, e (R.sp 2).length 2 2 rfl, e (R.sp 0).length 6 6 rfl, e (R.sp 1).length 6 6 rfl, e (R.sp 2).length 6 6 rfl]
 unfold j1L
 simp [hz, a0, a1, a2, Bool.and_assoc]
theorem Y1I (R : Syr) : CtrA Tryz.prog 15 [.agg 9 (srA R)] (vb (j1L R)) := by
 by_cases h0 : (R.sp 0).length ≤ 100 ∧ (R.sp 1).length ≤ 100 ∧ (R.sp 2).length ≤ 100
 ·have hlen : ∀ k, k < 3 → (R.sp k).length ≤ 1000 := fun k hk => by
   rcases (by omega : k = 0 ∨ k = 1 ∨ k = 2) with rfl | rfl | rfl <;> omega
  obtain ⟨a0, a1, a2⟩ := h0
  have c0 := k0b R hlen
  have n0 := q1s (R.sp 0) zO
  have n1 := q1s (R.sp 1) zO
  have n2 := q1s (R.sp 2) zO
  by_cases hz : w0N R = 0
  ·have cp := z1d hz
   rw [show syV (syO R) = .agg 9 (srA R) by rw [K0w hz]] at cp
   rw [hz] at c0
   refine j0s _ Tryz.func15 rfl rfl Tryz.ntmps15 rfl fun w Z => ?_
   refine zU ?_
   refine wt ?_
   (first | refine j0f rfl rfl ?_ ?_ | refine j0e rfl rfl ?_ ?_) <;> intro hb <;> (try simp only [zA, zB, zG, zC, zD, zN] at hb) <;> (try exact zQ)
   ·refine wt ?_
    (first | refine j0f rfl rfl ?_ ?_ | refine j0e rfl rfl ?_ ?_) <;> intro hb <;> (try simp only [zA, zB, zG, zC, zD, zN] at hb) <;> (try exact zQ)
    ·refine wt ?_
     (refine j0a rfl ?_ ?_ <;> intro hb <;> (try simp only [zA, zB, zG, zC, zD, zN] at hb) <;> (try exact zQ))
     ·refine wt ?_
      simp only [List.append]
      refine j0j (j0i rfl rfl) rfl ?_
      refine wt ?_
      obtain ⟨x0, hx0⟩ : ∃ x0 : Bool, x0 = (decide (((R.sp 0).length : Int) ≤ 4) && decide (((R.sp 1).length : Int) ≤ 3)) := ⟨_, rfl⟩
      refine x0d 7 [(38, .av (vb x0)), (25, .av (vb false)), (1, .av (.ptr 9 (srA R)))] [] ?_ ?_
      ·simp only [List.take]
       (first | refine j0f rfl rfl ?_ ?_ | refine j0e rfl rfl ?_ ?_) <;> intro hb <;> (try simp only [zA, zB, zG, zC, zD, zN] at hb) <;> (try exact zQ)
       ·refine wt ?_
        exact q0c (ent ⟨.val (by rw [hx0]; simp [hb]), .refl _, .refl _, trivial⟩ trivial)
       ·refine wt ?_
        exact q0c (ent ⟨.val (by rw [hx0]; simp [hb]), .refl _, .refl _, trivial⟩ trivial)
      simp only [List.drop]
      obtain ⟨x1, hx1⟩ : ∃ x1 : Bool, x1 = (x0 && decide (((R.sp 2).length : Int) ≤ 2)) := ⟨_, rfl⟩
      refine x0d 7 [(45, .av (vb x1)), (25, .av (vb false)), (1, .av (.ptr 9 (srA R)))] [] ?_ ?_
      ·simp only [List.take]
       (first | refine j0f rfl rfl ?_ ?_ | refine j0e rfl rfl ?_ ?_) <;> intro hb <;> (try simp only [zA, zB, zG, zC, zD, zN] at hb) <;> (try exact zQ)
       ·refine wt ?_
        exact q0c (ent ⟨.val (by rw [hx1]; simp [hb]), .refl _, .refl _, trivial⟩ trivial)
       ·refine wt ?_
        exact q0c (ent ⟨.val (by rw [hx1]; simp [hb]), .refl _, .refl _, trivial⟩ trivial)
      simp only [List.drop]
      obtain ⟨x2, hx2⟩ : ∃ x2 : Bool, x2 = (x1 && x0e (R.sp 0)) := ⟨_, rfl⟩
      refine x0d 6 [(51, .av (vb x2)), (25, .av (vb false)), (1, .av (.ptr 9 (srA R)))] [] ?_ ?_
      ·simp only [List.take]
       (first | refine j0f rfl rfl ?_ ?_ | refine j0e rfl rfl ?_ ?_) <;> intro hb <;> (try simp only [zA, zB, zG, zC, zD, zN] at hb) <;> (try exact zQ)
       ·refine wt ?_
        exact q0c (ent ⟨.val (by rw [hx2]; simp [hb]), .refl _, .refl _, trivial⟩ trivial)
       ·refine wt ?_
        exact q0c (ent ⟨.val (by rw [hx2]; simp [hb]), .refl _, .refl _, trivial⟩ trivial)
      simp only [List.drop]
      obtain ⟨x3, hx3⟩ : ∃ x3 : Bool, x3 = (x2 && x0e (R.sp 1)) := ⟨_, rfl⟩
      refine x0d 6 [(57, .av (vb x3)), (25, .av (vb false)), (1, .av (.ptr 9 (srA R)))] [] ?_ ?_
      ·simp only [List.take]
       (first | refine j0f rfl rfl ?_ ?_ | refine j0e rfl rfl ?_ ?_) <;> intro hb <;> (try simp only [zA, zB, zG, zC, zD, zN] at hb) <;> (try exact zQ)
       ·refine wt ?_
        exact q0c (ent ⟨.val (by rw [hx3]; simp [hb]), .refl _, .refl _, trivial⟩ trivial)
       ·refine wt ?_
        exact q0c (ent ⟨.val (by rw [hx3]; simp [hb]), .refl _, .refl _, trivial⟩ trivial)
      simp only [List.drop]
      obtain ⟨x4, hx4⟩ : ∃ x4 : Bool, x4 = (x3 && x0e (R.sp 2)) := ⟨_, rfl⟩
      refine x0d 5 [(62, .av (vb x4)), (25, .av (vb false)), (1, .av (.ptr 9 (srA R)))] [] ?_ ?_
      ·simp only [List.take]
       (first | refine j0f rfl rfl ?_ ?_ | refine j0e rfl rfl ?_ ?_) <;> intro hb <;> (try simp only [zA, zB, zG, zC, zD, zN] at hb) <;> (try exact zQ)
       ·refine wt ?_
        exact q0c (ent ⟨.val (by rw [hx4]; simp [hb]), .refl _, .refl _, trivial⟩ trivial)
       ·refine wt ?_
        exact q0c (ent ⟨.val (by rw [hx4]; simp [hb]), .refl _, .refl _, trivial⟩ trivial)
      simp only [List.drop]
      refine wt ?_
      cases hx : x4 with
      |true =>
       rw [hx] at hx4
       refine wt ?_
       exact j0c rfl (.tmp rfl) (congrArg vb (by rw [y1J hz a0 a1 a2, ← hx0, ← hx1, ← hx2, ← hx3, ← hx4]; rfl))
      |false =>
       refine wt ?_
       refine x0m (j0i rfl rfl) rfl rfl rfl ?_
       refine wt ?_
       obtain ⟨np, hnp⟩ : ∃ np : Bool, np = !K0o (syO R) := ⟨_, rfl⟩
       rw [← hnp]
       obtain ⟨y0, hy0⟩ : ∃ y0 : Bool, y0 = (np && decide (((R.sp 0).length : Int) ≤ 6)) := ⟨_, rfl⟩
       refine x0d 7 [(75, .av (vb y0)), (64, .av (vb false)), (1, .av (.ptr 9 (srA R)))] [] ?_ ?_
       ·simp only [List.take]
        (first | refine j0f rfl rfl ?_ ?_ | refine j0e rfl rfl ?_ ?_) <;> intro hb <;> (try simp only [zA, zB, zG, zC, zD, zN] at hb) <;> (try exact zQ)
        ·refine wt ?_
         exact q0c (ent ⟨.val (by rw [hy0]; simp [hb]), .refl _, .refl _, trivial⟩ trivial)
        ·refine wt ?_
         exact q0c (ent ⟨.val (by rw [hy0]; simp [hb]), .refl _, .refl _, trivial⟩ trivial)
       simp only [List.drop]
       obtain ⟨y1, hy1⟩ : ∃ y1 : Bool, y1 = (y0 && decide (((R.sp 1).length : Int) ≤ 6)) := ⟨_, rfl⟩
       refine x0d 7 [(82, .av (vb y1)), (64, .av (vb false)), (1, .av (.ptr 9 (srA R)))] [] ?_ ?_
       ·simp only [List.take]
        (first | refine j0f rfl rfl ?_ ?_ | refine j0e rfl rfl ?_ ?_) <;> intro hb <;> (try simp only [zA, zB, zG, zC, zD, zN] at hb) <;> (try exact zQ)
        ·refine wt ?_
         exact q0c (ent ⟨.val (by rw [hy1]; simp [hb]), .refl _, .refl _, trivial⟩ trivial)
        ·refine wt ?_
         exact q0c (ent ⟨.val (by rw [hy1]; simp [hb]), .refl _, .refl _, trivial⟩ trivial)
       simp only [List.drop]
       obtain ⟨y2, hy2⟩ : ∃ y2 : Bool, y2 = (y1 && decide (((R.sp 2).length : Int) ≤ 6)) := ⟨_, rfl⟩
       refine x0d 6 [(88, .av (vb y2)), (64, .av (vb false)), (1, .av (.ptr 9 (srA R)))] [] ?_ ?_
       ·simp only [List.take]
        (first | refine j0f rfl rfl ?_ ?_ | refine j0e rfl rfl ?_ ?_) <;> intro hb <;> (try simp only [zA, zB, zG, zC, zD, zN] at hb) <;> (try exact zQ)
        ·refine wt ?_
         exact q0c (ent ⟨.val (by rw [hy2]; simp [hb]), .refl _, .refl _, trivial⟩ trivial)
        ·refine wt ?_
         exact q0c (ent ⟨.val (by rw [hy2]; simp [hb]), .refl _, .refl _, trivial⟩ trivial)
       simp only [List.drop]
       refine wt ?_
       exact j0c rfl (.tmp rfl) (congrArg vb (by rw [y1J hz a0 a1 a2, ← hx0, ← hx1, ← hx2, ← hx3, ← hx4, ← hnp, ← hy0, ← hy1, ← hy2, hx]; rfl))
  ·have hn : j1L R = true := by
    unfold j1L
    rw [decide_eq_true a0, decide_eq_true a1, decide_eq_true a2, decide_eq_true hz]
    rfl
   rw [hn]
   refine j0s _ Tryz.func15 rfl rfl Tryz.ntmps15 rfl fun w Z => ?_
   refine zU ?_
   refine wt ?_
   (first | refine j0f rfl rfl ?_ ?_ | refine j0e rfl rfl ?_ ?_) <;> intro hb <;> (try simp only [zA, zB, zG, zC, zD, zN] at hb) <;> (try exact zQ)
   ·refine wt ?_
    (first | refine j0f rfl rfl ?_ ?_ | refine j0e rfl rfl ?_ ?_) <;> intro hb <;> (try simp only [zA, zB, zG, zC, zD, zN] at hb) <;> (try exact zQ)
    ·refine wt ?_
     (refine j0a rfl ?_ ?_ <;> intro hb <;> (try simp only [zA, zB, zG, zC, zD, zN] at hb) <;> (try exact zQ))
     ·refine wt ?_
      simp only [List.append]
      refine j0j (j0i rfl rfl) rfl ?_
      refine wt ?_
      (first | refine j0f rfl rfl ?_ ?_ | refine j0e rfl rfl ?_ ?_) <;> intro hb <;> (try simp only [zA, zB, zG, zC, zD, zN] at hb) <;> (try exact zQ)
      ·refine wt ?_
       exact zV
 ·have hn : j1L R = false := by
   unfold j1L
   rw [Bool.and_eq_false_iff]
   left
   rcases (by omega : 100 < (R.sp 0).length ∨ 100 < (R.sp 1).length ∨ 100 < (R.sp 2).length) with h | h | h
   ·rw [decide_eq_false (p := (R.sp 0).length ≤ 100) (by omega)]; rfl
   ·rw [decide_eq_false (p := (R.sp 1).length ≤ 100) (by omega), Bool.false_and, Bool.and_false]
   ·rw [decide_eq_false (p := (R.sp 2).length ≤ 100) (by omega), Bool.and_false, Bool.and_false]
  rw [hn]
  refine j0s _ Tryz.func15 rfl rfl Tryz.ntmps15 rfl fun w Z => ?_
  refine zU ?_
  refine wt ?_
  (first | refine j0f rfl rfl ?_ ?_ | refine j0e rfl rfl ?_ ?_) <;> intro hb <;> (try simp only [zA, zB, zG, zC, zD, zN] at hb) <;> (try exact zQ)
  ·refine wt ?_
   exact zV
  ·refine wt ?_
   (first | refine j0f rfl rfl ?_ ?_ | refine j0e rfl rfl ?_ ?_) <;> intro hb <;> (try simp only [zA, zB, zG, zC, zD, zN] at hb) <;> (try exact zQ)
   ·refine wt ?_
    exact zV
   ·refine wt ?_
    (refine j0a rfl ?_ ?_ <;> intro hb <;> (try simp only [zA, zB, zG, zC, zD, zN] at hb) <;> (try exact zQ))
    ·refine wt ?_
     exact zV
theorem K0h (R : Syr) : CtrA Tryz.prog 22 [.agg 9 (srA R)] (vb (x0M R)) := by
 have c1 := Y1I R
 have hS : ∀ i, i < 9 → (srA R i).one = true := fun i hi => by
  rcases (by omega : i = 0 ∨ i = 1 ∨ i = 2 ∨ i = 3 ∨ i = 4 ∨ i = 5 ∨ i = 6 ∨ i = 7 ∨ i = 8) with rfl | rfl | rfl | rfl | rfl | rfl | rfl | rfl | rfl <;> rfl
 cases hf : j1L R with
 |false =>
  have hv : x0M R = false := by unfold x0M; rw [hf]; rfl
  rw [hv]
  rw [hf] at c1
  refine j0s _ Tryz.func22 rfl rfl Tryz.ntmps22 rfl fun w Z => ?_
  refine zU ?_
  refine wt ?_
  refine j0j (j0i rfl rfl) rfl ?_
  refine wt ?_
  refine q0U (j0y rfl rfl hS rfl rfl) ?_
  refine wt ?_
  refine j0j (j0n (f := srA R) rfl rfl rfl) rfl ?_
  refine wt ?_
  exact zV
 |true =>
  have hlen : (R.sp 0).length ≤ 100 ∧ (R.sp 1).length ≤ 100 ∧ (R.sp 2).length ≤ 100 := by
   unfold j1L at hf
   simp only [Bool.and_eq_true, decide_eq_true_eq] at hf
   exact hf.1
  obtain ⟨a0, a1, a2⟩ := hlen
  have c2 := k0b R (fun k hk => by
   rcases (by omega : k = 0 ∨ k = 1 ∨ k = 2) with rfl | rfl | rfl <;> omega)
  rw [hf] at c1
  by_cases hz : w0N R = 0
  ·have cp := z1d hz
   rw [show syV (syO R) = .agg 9 (srA R) by rw [K0w hz]] at cp
   rw [hz] at c2
   have hv : x0M R = (K0o (syO R) && (decide ((R.sp 0).length ≤ 4) && (decide ((R.sp 1).length ≤ 3) && decide ((R.sp 2).length ≤ 2)))) := by
    unfold x0M; rw [hf, decide_eq_true hz]; rfl
   rw [hv]
   cases hp : K0o (syO R) with
   |false =>
    rw [hp] at cp
    refine j0s _ Tryz.func22 rfl rfl Tryz.ntmps22 rfl fun w Z => ?_
    refine zU ?_
    refine wt ?_
    refine j0j (j0i rfl rfl) rfl ?_
    refine wt ?_
    refine q0U (j0y rfl rfl hS rfl rfl) ?_
    refine wt ?_
    refine j0j (j0n (f := srA R) rfl rfl rfl) rfl ?_
    refine wt ?_
    refine x0m (j0n (f := srA R) rfl rfl rfl) rfl rfl rfl ?_
    refine wt ?_
    refine x0m (j0n (f := srA R) rfl rfl rfl) rfl rfl rfl ?_
    refine wt ?_
    exact zV
   |true =>
    rw [hp] at cp
    refine j0s _ Tryz.func22 rfl rfl Tryz.ntmps22 rfl fun w Z => ?_
    refine zU ?_
    refine wt ?_
    refine j0j (j0i rfl rfl) rfl ?_
    refine wt ?_
    refine q0U (j0y rfl rfl hS rfl rfl) ?_
    refine wt ?_
    refine j0j (j0n (f := srA R) rfl rfl rfl) rfl ?_
    refine wt ?_
    refine x0m (j0n (f := srA R) rfl rfl rfl) rfl rfl rfl ?_
    refine wt ?_
    refine x0m (j0n (f := srA R) rfl rfl rfl) rfl rfl rfl ?_
    (refine wt ?_; repeat' (((first | refine j0f rfl rfl ?_ ?_ | refine j0e rfl rfl ?_ ?_) <;> intro hb <;> (try simp only [zA, zB, zG, zC, zD, zN] at hb) <;> (try exact zQ)) <;> refine wt ?_))
    all_goals (refine j0c rfl (.tmp rfl) (congrArg vb ?_))
    all_goals (rw [Bool.eq_iff_iff]; simp; try omega)
  ·have hv : x0M R = false := by unfold x0M; rw [decide_eq_false hz]; simp
   rw [hv]
   refine j0s _ Tryz.func22 rfl rfl Tryz.ntmps22 rfl fun w Z => ?_
   refine zU ?_
   refine wt ?_
   refine j0j (j0i rfl rfl) rfl ?_
   refine wt ?_
   refine q0U (j0y rfl rfl hS rfl rfl) ?_
   refine wt ?_
   refine j0j (j0n (f := srA R) rfl rfl rfl) rfl ?_
   refine wt ?_
   refine x0m (j0n (f := srA R) rfl rfl rfl) rfl rfl rfl ?_
   refine wt ?_
   (first | refine j0f rfl rfl ?_ ?_ | refine j0e rfl rfl ?_ ?_) <;> intro hb <;> (try simp only [zA, zB, zG, zC, zD, zN] at hb) <;> (try exact zQ)
   ·refine wt ?_
    exact zV
theorem W1k {L : List Tor} {a : Nat} (h : a < L.length) : gO L a ∈ L := by rw [W0P h]; exact List.getElem_mem h
end Go.Proofs.YtfggdokihnopeaaGreatDoor.H
namespace Go.Proofs.YtfggdokihnopeaaGreatDoor.H
open Go Go.Vc Go.Na
theorem rt0 : rtx 0 = [48] := by
 unfold rtx
 rw [if_pos (by decide +kernel)]
 show Lib.itoa 0 = _
 rw [j0E (by decide)]
 show Lib.decDigits 0 = _
 rw [Lib.decDigits]; rfl
theorem d1 : Lib.decDigits 1 = [49] := by rw [Lib.decDigits]; rfl
theorem d2 : Lib.decDigits 2 = [50] := by rw [Lib.decDigits]; rfl
end Go.Proofs.YtfggdokihnopeaaGreatDoor.H
namespace Go.Proofs.YtfggdokihnopeaaGreatDoor.H
open Go Go.Vc Go.RowKit
open Go.Na (rtx LR j0v v0j rsg)
set_option maxHeartbeats 4000000
theorem j1N {R : Syr} (h : RtS R) (hpos : 0 < (x0g (syO R)).length) : CtrA Tryz.prog 18 [syV (syO R)] (j0x [plV (syO R) (gO (x0g (syO R)) 0).n, vb (decide (1 < ((x0g (syO R)).length : Int))), vi 0]) := by
 have c := V0f h
 have hlen := Y0w h.ok
 refine j0s _ Tryz.func18 rfl rfl Tryz.ntmps18 rfl fun w Z => ?_
 refine zU ?_
 refine wt ?_
 refine j0j (j0i rfl rfl) rfl ?_
 refine wt ?_
 (refine j0a rfl ?_ ?_ <;> intro hb <;> (try simp only [zA, zB, zG, zC, zD, zN] at hb) <;> (try exact zQ))
 ·refine wt ?_
  refine j0j (j0i rfl rfl) rfl ?_
  refine wt ?_
  refine q0U (j0y rfl rfl (x0f _ _) rfl rfl) ?_
  refine wt ?_
  exact j0t (rvs := [_, _, _]) (τs := [_, _, _]) rfl rfl ⟨.aggv (f := plA (syO R) (gO (x0g (syO R)) 0).n) rfl rfl rfl, .tmp rfl, .tmp rfl, trivial⟩ rfl
def RB (a : Int) : Syr := ⟨fun k => match k with | 0 => 2 | 1 => 1 | _ => 0, fun _ => 0, fun k => match k with | 0 => [⟨0, 0, 1⟩, ⟨100, 0, 1⟩, ⟨0, 100, 1⟩] | 1 => [⟨0, -2, 0⟩, ⟨100, a - 2, 0⟩] | _ => [⟨3, 0, 0⟩]⟩
theorem rb0 : RtS (RB 0) := Q1q (by decide +kernel) (by decide) (by decide) (by decide) (fun k hk => by rcases (by omega : k = 0 ∨ k = 1 ∨ k = 2) with rfl | rfl | rfl <;> decide +kernel) (by decide +kernel)
theorem rb1 : RtS (RB 1) := Q1q (by decide +kernel) (by decide) (by decide) (by decide) (fun k hk => by rcases (by omega : k = 0 ∨ k = 1 ∨ k = 2) with rfl | rfl | rfl <;> decide +kernel) (by decide +kernel)
def w0T : Tor := ⟨-3, 2, -1, 0, 0, 0⟩
theorem z1e : x0g (syO (RB 0)) = [w0T] := by decide +kernel
theorem Q1n : (x0g (syO (RB 1))).length = 1 := by decide +kernel
theorem Y1Y : (gO (x0g (syO (RB 1))) 0).b = 2 := by decide +kernel
theorem Y1Z : (gO (x0g (syO (RB 1))) 0).f = -Rat.divInt 1 100 := by decide +kernel
theorem Y1V : onS (syO (RB 0)) w0T.n 0 = [0, 1, 2] := by decide +kernel
theorem Y1W : onS (syO (RB 0)) w0T.n 1 = [0, 1] := by decide +kernel
theorem Y1X : onS (syO (RB 0)) w0T.n 2 = [0] := by decide +kernel
theorem Z1f : Tryz.prog.built 43 [(2, .int .i64 1)] = some #[.int .i64 0, .int .i64 0, .int .i64 1] := by kernel_rfl
theorem Z1g : Tryz.prog.built 43 [(0, .int .i64 100), (2, .int .i64 1)] = some #[.int .i64 100, .int .i64 0, .int .i64 1] := by kernel_rfl
theorem Z1h : Tryz.prog.built 43 [(1, .int .i64 100), (2, .int .i64 1)] = some #[.int .i64 0, .int .i64 100, .int .i64 1] := by kernel_rfl
theorem Z1i : Tryz.prog.built 43 [(1, .int .i64 (-2))] = some #[.int .i64 0, .int .i64 (-2), .int .i64 0] := by kernel_rfl
theorem x1V (a : Int) : Tryz.prog.built 43 [(0, .int .i64 100), (1, .int .i64 a)] = some #[.int .i64 100, .int .i64 a, .int .i64 0] := by kernel_rfl
theorem Z1j : Tryz.prog.built 43 [(0, .int .i64 3)] = some #[.int .i64 3, .int .i64 0, .int .i64 0] := by kernel_rfl
theorem X1D (a b : Tr) (w : World) : (Instr.buildSlice 23 2 #[(0, .agg #[.int .i64 a.x, .int .i64 a.y, .int .i64 a.z]), (1, .agg #[.int .i64 b.x, .int .i64 b.y, .int .i64 b.z])]).run Tryz.prog w = .ok (.slice (some ⟨w.heap.size, 0, none⟩) 2 2) (w.alloc (.cells #[.int .i64 a.x, .int .i64 a.y, .int .i64 a.z, .int .i64 b.x, .int .i64 b.y, .int .i64 b.z] 43)) := by kernel_rfl
theorem V1g (a b : Tr) : ∀ i, i < 2 → ∀ j, j < 3 → ∃ u, ([.int .i64 a.x, .int .i64 a.y, .int .i64 a.z, .int .i64 b.x, .int .i64 b.y, .int .i64 b.z] : List Value)[i * 3 + j]? = some u ∧ tf [a, b] i j = .val u := fun i hi j hj => by
 rcases (by omega : i = 0 ∨ i = 1) with rfl | rfl <;> rcases (by omega : j = 0 ∨ j = 1 ∨ j = 2) with rfl | rfl | rfl <;> exact ⟨_, rfl, rfl⟩
theorem k1n (p q r : Option Addr) (a b c d e f : Nat) : Tryz.prog.built 24 [(0, .slice p a b), (1, .slice q c d), (2, .slice r e f)] = some #[.slice p a b, .slice q c d, .slice r e f] := by kernel_rfl
theorem k1o (p q r : Option Addr) (a b c d e f : Nat) : Tryz.prog.built 26 [(0, .agg #[.int .i64 2, .int .i64 1, .int .i64 0]), (2, .agg #[.slice p a b, .slice q c d, .slice r e f])] = some #[.int .i64 2, .int .i64 1, .int .i64 0, .int .i64 0, .int .i64 0, .int .i64 0, .slice p a b, .slice q c d, .slice r e f] := by kernel_rfl
theorem Z1W (l m n : List Tr) : ∀ (Z : j0q) (w : World) (vs : List Value), All2 (fun τ v => AV.ok Z w τ v) [ts l, ts m, ts n] vs → ∃ cs : List Value, Tryz.prog.built 24 ([0, 1, 2].zip vs) = some cs.toArray ∧ cs.length = 3 ∧ ∀ i, i < 3 → ∃ u, cs[i]? = some u ∧ ((fun k : Nat => match k with | 0 => ts l | 1 => ts m | _ => ts n) i).ok Z w u := fun Z w vs h => by
 match vs, h with
 |[u, v, x], ⟨hu, hv, hx, _⟩ =>
  obtain ⟨_, _, e1, _⟩ := id hu
  obtain ⟨_, _, e2, _⟩ := id hv
  obtain ⟨_, _, e3, _⟩ := id hx
  refine ⟨[u, v, x], by subst e1 e2 e3; exact k1n _ _ _ _ _ _ _ _ _, rfl, fun i hi => ?_⟩
  rcases (by omega : i = 0 ∨ i = 1 ∨ i = 2) with rfl | rfl | rfl
  ·exact ⟨u, rfl, hu⟩
  ·exact ⟨v, rfl, hv⟩
  ·exact ⟨x, rfl, hx⟩
theorem Z1X (a : Int) : ∀ (Z : j0q) (w : World) (vs : List Value), All2 (fun τ v => AV.ok Z w τ v) [.val (.agg #[.int .i64 2, .int .i64 1, .int .i64 0]), .agg 3 (fun k : Nat => match k with | 0 => ts ((RB a).sp 0) | 1 => ts ((RB a).sp 1) | _ => ts ((RB a).sp 2))] vs → ∃ cs : List Value, Tryz.prog.built 26 ([0, 2].zip vs) = some cs.toArray ∧ cs.length = 9 ∧ ∀ i, i < 9 → ∃ u, cs[i]? = some u ∧ (srA (RB a) i).ok Z w u := fun Z w vs h => by
 match vs, h with
 |[_, _], ⟨rfl, ⟨ds, rfl, hl, hd⟩, _⟩ =>
  match ds, hl with
  |[u, v, x], _ =>
   obtain ⟨_, q1, hu⟩ := hd 0 zE
   obtain ⟨_, q2, hv⟩ := hd 1 zE
   obtain ⟨_, q3, hx⟩ := hd 2 zE
   cases q1; cases q2; cases q3
   obtain ⟨_, _, e1, _⟩ := id hu
   obtain ⟨_, _, e2, _⟩ := id hv
   obtain ⟨_, _, e3, _⟩ := id hx
   refine ⟨[.int .i64 2, .int .i64 1, .int .i64 0, .int .i64 0, .int .i64 0, .int .i64 0, u, v, x], by subst e1 e2 e3; exact k1o _ _ _ _ _ _ _ _ _, rfl, fun i hi => ?_⟩
   rcases (by omega : i = 0 ∨ i = 1 ∨ i = 2 ∨ i = 3 ∨ i = 4 ∨ i = 5 ∨ i = 6 ∨ i = 7 ∨ i = 8) with rfl | rfl | rfl | rfl | rfl | rfl | rfl | rfl | rfl
   ·exact ⟨_, rfl, rfl⟩
   ·exact ⟨_, rfl, rfl⟩
   ·exact ⟨_, rfl, rfl⟩
   ·exact ⟨_, rfl, rfl⟩
   ·exact ⟨_, rfl, rfl⟩
   ·exact ⟨_, rfl, rfl⟩
   ·exact ⟨u, rfl, hu⟩
   ·exact ⟨v, rfl, hv⟩
   ·exact ⟨x, rfl, hx⟩
theorem Q1C (R : Syr) : ∀ i, i < 9 → (srA R i).one = true := fun i hi => by
 rcases (by omega : i = 0 ∨ i = 1 ∨ i = 2 ∨ i = 3 ∨ i = 4 ∨ i = 5 ∨ i = 6 ∨ i = 7 ∨ i = 8) with rfl | rfl | rfl | rfl | rfl | rfl | rfl | rfl | rfl <;> rfl
theorem j1g (a : Int) (ha : -1000000 ≤ a ∧ a ≤ 1000000) : CtrA Tryz.prog 47 [vi a] (.agg 9 (srA (RB a))) := by
 refine j0s _ Tryz.func47 rfl rfl Tryz.ntmps47 rfl fun w Z => ?_
 refine zU ?_
 refine wt ?_
 refine j0j (j0m (t := 43) (is := [2]) (xs := [_]) (vs := [_]) Z1f rfl rfl) rfl ?_
 refine wt ?_
 refine j0j (j0m (t := 43) (is := [0, 2]) (xs := [_, _]) (vs := [_, _]) Z1g rfl rfl) rfl ?_
 refine wt ?_
 refine j0j (j0m (t := 43) (is := [1, 2]) (xs := [_, _]) (vs := [_, _]) Z1h rfl rfl) rfl ?_
 refine wt ?_
 refine j0j (j0S (row := tf [⟨0, 0, 1⟩, ⟨100, 0, 1⟩, ⟨0, 100, 1⟩]) (is := [0, 1, 2]) (xs := [_, _, _]) (vs := [_, _, _]) (us := [_, _, _, _, _, _, _, _, _]) (z1F ⟨0, 0, 1⟩ ⟨100, 0, 1⟩ ⟨0, 100, 1⟩) rfl rfl rfl (v1X ⟨0, 0, 1⟩ ⟨100, 0, 1⟩ ⟨0, 100, 1⟩)) rfl ?_
 refine wt ?_
 refine j0j (j0m (t := 43) (is := [1]) (xs := [_]) (vs := [_]) Z1i rfl rfl) rfl ?_
 refine wt ?_
 refine j0j (j0m (t := 43) (is := [0, 1]) (xs := [_, _]) (vs := [_, _]) (x1V (a - 2)) rfl rfl) rfl ?_
 refine wt ?_
 refine j0j (j0S (row := tf [⟨0, -2, 0⟩, ⟨100, a - 2, 0⟩]) (is := [0, 1]) (xs := [_, _]) (vs := [_, _]) (us := [_, _, _, _, _, _]) (X1D ⟨0, -2, 0⟩ ⟨100, a - 2, 0⟩) rfl rfl rfl (V1g ⟨0, -2, 0⟩ ⟨100, a - 2, 0⟩)) rfl ?_
 refine wt ?_
 refine j0j (j0m (t := 43) (is := [0]) (xs := [_]) (vs := [_]) Z1j rfl rfl) rfl ?_
 refine wt ?_
 refine j0j (j0S (is := [0]) (xs := [_]) (vs := [_]) (us := [.int .i64 3, .int .i64 0, .int .i64 0]) (row := tf [⟨3, 0, 0⟩]) (Y1k ⟨3, 0, 0⟩) rfl rfl rfl (k0v ⟨3, 0, 0⟩)) rfl ?_
 refine wt ?_
 refine j0j (w0D (t := 24) (is := [0, 1, 2]) (xs := [_, _, _]) (τs := [ts ((RB a).sp 0), ts ((RB a).sp 1), ts ((RB a).sp 2)]) rfl rfl (Z1W _ _ _)) rfl ?_
 refine wt ?_
 refine j0j (w0D (t := 26) (is := [0, 2]) (xs := [_, _]) (τs := [.val (.agg #[.int .i64 2, .int .i64 1, .int .i64 0]), .agg 3 _]) rfl rfl (Z1X a)) rfl ?_
 refine wt ?_
 refine q0U (j0y rfl rfl (Q1C (RB a)) rfl rfl) ?_
 refine wt ?_
 exact j0c rfl (.aggv (f := srA (RB a)) rfl rfl rfl) rfl
end Go.Proofs.YtfggdokihnopeaaGreatDoor.H
