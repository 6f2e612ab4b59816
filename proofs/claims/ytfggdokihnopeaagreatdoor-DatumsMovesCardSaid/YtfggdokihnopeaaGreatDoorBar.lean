/- A part of the proof. -/
import Derived.Test.YtfggdokihnopeaaGreatDoorBaq
set_option linter.unusedVariables false
set_option linter.unusedSimpArgs false
namespace Go.Proofs.YtfggdokihnopeaaGreatDoor.H
open Go Go.Vc Go.RowKit Go.Na Go.Lib
set_option maxHeartbeats 4000000
abbrev c6 (c : Nat → Int) : AV := .val (.agg #[.int .i64 (c 0), .int .i64 (c 1), .int .i64 (c 2), .int .i64 (c 3), .int .i64 (c 4), .int .i64 (c 5)])
abbrev t6 (t : Nat → Rat) : AV := Z1P [sv (rtx (t 0)), sv (rtx (t 1)), sv (rtx (t 2)), sv (rtx (t 3)), sv (rtx (t 4)), sv (rtx (t 5))]
theorem LR.len' {k : Nat} {q : Rat} (h : LR k q) (hk : 0 < k) : (rtx q).length ≤ 2 * k + 2 := by
 have h1 := h.1.len hk
 have h2 := h.2.len hk
 have h3 : (itoa q.num).length ≤ k + 1 := by
  by_cases hn : q.num < 0
  ·rw [itoa_neg hn]; simp; omega
  ·rw [j0G hn]; omega
 unfold rtx
 split
 ·omega
 ·rw [List.length_append, List.length_cons]
  rw [Int.natAbs_natCast] at h2
  omega
theorem K0r (p : Tr) : CtrA Tryz.prog 57 [tp p] (tp p) := by
 refine j0r _ Tryz.func57 rfl rfl Tryz.ntmps57 rfl fun w Z => ?_
 refine zU ?_
 refine wt ?_
 exact j0c rfl (.agg (us := [_, _, _]) rfl rfl rfl rfl) rfl
theorem k0u (p : Tr) {k : Nat} (hk : k < 3) (hp : BT 100000 p) : CtrA Tryz.prog 54 [vi (k : Int), tp p] (c6 (frm k p)) := by
 have h := K0r p
 have h1 := hp.x
 have h2 := hp.y
 have h3 := hp.z
 rcases (by omega : k = 0 ∨ k = 1 ∨ k = 2) with rfl | rfl | rfl
 ·refine j0r _ Tryz.func54 rfl rfl Tryz.ntmps54 rfl fun w Z => ?_
  refine zU ?_
  refine wt ?_
  refine j0j (j0i (us := [.int .i64 (frm 0 p 0), .int .i64 (frm 0 p 1), .int .i64 (frm 0 p 2), .int .i64 (frm 0 p 3), .int .i64 (frm 0 p 4), .int .i64 (frm 0 p 5)]) rfl rfl rfl rfl) rfl ?_
  refine wt ?_
  exact j0c rfl (.agg (us := [.int .i64 (frm 0 p 0), .int .i64 (frm 0 p 1), .int .i64 (frm 0 p 2), .int .i64 (frm 0 p 3), .int .i64 (frm 0 p 4), .int .i64 (frm 0 p 5)]) rfl rfl rfl rfl) rfl
 ·refine j0r _ Tryz.func54 rfl rfl Tryz.ntmps54 rfl fun w Z => ?_
  refine zU ?_
  refine wt ?_
  refine j0j (j0i (us := [.int .i64 (frm 1 p 0), .int .i64 (frm 1 p 1), .int .i64 (frm 1 p 2), .int .i64 (frm 1 p 3), .int .i64 (frm 1 p 4), .int .i64 (frm 1 p 5)]) rfl rfl rfl rfl) rfl ?_
  refine wt ?_
  exact j0c rfl (.agg (us := [.int .i64 (frm 1 p 0), .int .i64 (frm 1 p 1), .int .i64 (frm 1 p 2), .int .i64 (frm 1 p 3), .int .i64 (frm 1 p 4), .int .i64 (frm 1 p 5)]) rfl rfl rfl rfl) rfl
 ·refine j0r _ Tryz.func54 rfl rfl Tryz.ntmps54 rfl fun w Z => ?_
  refine zU ?_
  refine wt ?_
  refine j0j (j0i (us := [.int .i64 (frm 2 p 0), .int .i64 (frm 2 p 1), .int .i64 (frm 2 p 2), .int .i64 (frm 2 p 3), .int .i64 (frm 2 p 4), .int .i64 (frm 2 p 5)]) rfl rfl rfl rfl) rfl ?_
  refine wt ?_
  exact j0c rfl (.agg (us := [.int .i64 (frm 2 p 0), .int .i64 (frm 2 p 1), .int .i64 (frm 2 p 2), .int .i64 (frm 2 p 3), .int .i64 (frm 2 p 4), .int .i64 (frm 2 p 5)]) rfl rfl rfl rfl) rfl
theorem W1f (a b c d e f : Int) (w : World) : (Instr.index 101 (.agg #[.int .i64 a, .int .i64 b, .int .i64 c, .int .i64 d, .int .i64 e, .int .i64 f]) (.int .i64 0)).run Tryz.prog w = .ok (.int .i64 a) w := by kernel_rfl
theorem W1g (a b c d e f : Int) (w : World) : (Instr.index 101 (.agg #[.int .i64 a, .int .i64 b, .int .i64 c, .int .i64 d, .int .i64 e, .int .i64 f]) (.int .i64 1)).run Tryz.prog w = .ok (.int .i64 b) w := by kernel_rfl
theorem W1h (a b c d e f : Int) (w : World) : (Instr.index 101 (.agg #[.int .i64 a, .int .i64 b, .int .i64 c, .int .i64 d, .int .i64 e, .int .i64 f]) (.int .i64 2)).run Tryz.prog w = .ok (.int .i64 c) w := by kernel_rfl
theorem W1i (a b c d e f : Int) (w : World) : (Instr.index 101 (.agg #[.int .i64 a, .int .i64 b, .int .i64 c, .int .i64 d, .int .i64 e, .int .i64 f]) (.int .i64 3)).run Tryz.prog w = .ok (.int .i64 d) w := by kernel_rfl
theorem W1j (a b c d e f : Int) (w : World) : (Instr.index 101 (.agg #[.int .i64 a, .int .i64 b, .int .i64 c, .int .i64 d, .int .i64 e, .int .i64 f]) (.int .i64 4)).run Tryz.prog w = .ok (.int .i64 e) w := by kernel_rfl
theorem W1k (a b c d e f : Int) (w : World) : (Instr.index 101 (.agg #[.int .i64 a, .int .i64 b, .int .i64 c, .int .i64 d, .int .i64 e, .int .i64 f]) (.int .i64 5)).run Tryz.prog w = .ok (.int .i64 f) w := by kernel_rfl
theorem k1T (c : Nat → Int) {i : Nat} (hi : i < 6) (w : World) : (Instr.index 101 (.agg #[.int .i64 (c 0), .int .i64 (c 1), .int .i64 (c 2), .int .i64 (c 3), .int .i64 (c 4), .int .i64 (c 5)]) (.int .i64 (i : Int))).run Tryz.prog w = .ok (.int .i64 (c i)) w := by
 rcases (by omega : i = 0 ∨ i = 1 ∨ i = 2 ∨ i = 3 ∨ i = 4 ∨ i = 5) with rfl | rfl | rfl | rfl | rfl | rfl
 ·exact W1f _ _ _ _ _ _ _
 ·exact W1g _ _ _ _ _ _ _
 ·exact W1h _ _ _ _ _ _ _
 ·exact W1i _ _ _ _ _ _ _
 ·exact W1j _ _ _ _ _ _ _
 ·exact W1k _ _ _ _ _ _ _
theorem J1E (a b c d e f : ByteArray) : Tryz.prog.built 113 [(0, .string a), (1, .string b), (2, .string c), (3, .string d), (4, .string e), (5, .string f)] = some #[.string a, .string b, .string c, .string d, .string e, .string f] := by kernel_rfl
theorem numbers_c (t : Nat → Rat) : CtrA Tryz.prog 75 [t6 t] (t6 t) := by
 refine j0r _ Tryz.func75 rfl rfl Tryz.ntmps75 rfl fun w Z => ?_
 refine zU ?_
 refine wt ?_
 refine j0j (j0n (t := 113) (is := [0, 1, 2, 3, 4, 5]) (xs := [_, _, _, _, _, _]) (vs := [sv (rtx (t 0)), sv (rtx (t 1)), sv (rtx (t 2)), sv (rtx (t 3)), sv (rtx (t 4)), sv (rtx (t 5))]) (J1E _ _ _ _ _ _) rfl rfl) rfl ?_
 refine wt ?_
 exact j0c rfl (.agg (us := [sv (rtx (t 0)), sv (rtx (t 1)), sv (rtx (t 2)), sv (rtx (t 3)), sv (rtx (t 4)), sv (rtx (t 5))]) rfl rfl rfl rfl) rfl
theorem Y0M (t : Nat → Rat) (ht : ∀ i, LR 43 (t i)) : CtrA Tryz.prog 119 [.sl 6 1 (fun i _ => vR (t i))] (vi 0) := by
 refine j0r _ Tryz.func119 rfl rfl Tryz.ntmps119 rfl fun w Z => ?_
 refine zU ?_
 refine wt ?_
 refine j0h (γ := Nat) (fun i => [(6, .av (.sl 6 1 (fun i _ => vR (t i)))), (7, .av (vi 6)), (8, .av (vi i))]) (fun _ => []) (fun i => i ≤ 6) (fun i => 6 - i) 0 zO (ent zS trivial) ?_
 intro i hi
 refine wt ?_
 (refine j0a rfl ?_ ?_ <;> intro hb <;> (try simp only [zA, zB, zG, zC, zD, zN] at hb) <;> (try exact zQ))
 ·have hil : i < 6 := by omega
  have hc := Go.Proofs.YtfggdokihnopeaaGreatDoor.ratcheck_c (t i) ((ht i).mono zE)
  refine wt ?_
  exact j0b (i + 1) zO zO (ent zS trivial)
 ·refine wt ?_
  exact zV
theorem K0q (t : Nat → Rat) (ht : ∀ i, LR 43 (t i)) : CtrA Tryz.prog 65 [t6 t] (vi 0) := by
 have h1 := numbers_c t
 have h2 := Y0M t ht
 refine j0r _ Tryz.func65 rfl rfl Tryz.ntmps65 rfl fun w Z => ?_
 refine zU ?_
 refine wt ?_
 refine j0j (j0k (us := [sv (rtx (t 0)), sv (rtx (t 1)), sv (rtx (t 2)), sv (rtx (t 3)), sv (rtx (t 4)), sv (rtx (t 5))]) rfl rfl rfl rfl) rfl ?_
 refine wt ?_
 refine j0x (j0A 3 10 (fun i => vR (t i)) rfl rfl rfl) ?_
 refine j0j (q0S (n := 6) (f := fun i => vR (t i)) rfl zE zE) rfl ?_
 refine wt ?_
 exact zV
theorem w0y (c : Nat → Int) (t : Nat → Rat) (hc : ∀ i, -100000 ≤ c i ∧ c i ≤ 100000) (ht : ∀ i, LR 43 (t i)) : CtrA Tryz.prog 74 [c6 c, t6 t] (j0B [vR (Y0x c t 6), vi 0]) := by
 refine j0r _ Tryz.func74 rfl rfl Tryz.ntmps74 rfl fun w Z => ?_
 refine zU ?_
 refine wt ?_
 refine j0j (j0k (us := [.int .i64 (c 0), .int .i64 (c 1), .int .i64 (c 2), .int .i64 (c 3), .int .i64 (c 4), .int .i64 (c 5)]) rfl rfl rfl rfl) rfl ?_
 refine wt ?_
 refine v0p (Q1G 3 (f' := fun i => vR (t i)) rfl (fun i hi => by
  have hi : i < 6 := hi
  rcases (by omega : i = 0 ∨ i = 1 ∨ i = 2 ∨ i = 3 ∨ i = 4 ∨ i = 5) with rfl | rfl | rfl | rfl | rfl | rfl <;> rfl)) ?_
 refine j0h (γ := Nat) (fun i => [(3, .av (.ptr 6 (fun i => vR (t i)))), (6, .av (vR (Y0x c t i))), (11, .av (c6 c)), (12, .av (vi i))]) (fun _ => []) (fun i => i ≤ 6) (fun i => 6 - i) 0 (by omega) (ent ⟨.refl _, by show SLe (.av (.val (.string ⟨#[48]⟩))) (.av (vS (rtx 0))); rw [rtx_0]; exact .refl _, .refl _, .refl _, trivial⟩ trivial) ?_
 intro i hi
 refine wt ?_
 (refine j0a rfl ?_ ?_ <;> intro hb <;> (try simp only [zA, zB, zG, zC, zD, zN] at hb) <;> (try exact zQ))
 ·have hil : i < 6 := by omega
  have l1 := q0l (hc i)
  have l2 := ht i
  have l3 := z0G hc ht i
  have l4 := LR.mul' l1 l2
  have q1 := v0k (c i) (by have := hc i; omega)
  have q2 := v1U (c i : Rat) (t i) (l1.mono zE) (l2.mono zE)
  have q3 := q0e (Y0x c t i) ((c i : Rat) * t i) (LR.mono l3 zO) (LR.mono l4 zE)
  refine wt ?_
  refine j0j (q0m (k1T c hil) rfl rfl) rfl ?_
  refine wt ?_
  rw [show i * 1 + 0 = i by omega]
  refine wt ?_
  exact j0b (i + 1) zO zO (ent zS trivial)
 ·have hil : i = 6 := by omega
  subst hil
  refine wt ?_
  exact zW
end Go.Proofs.YtfggdokihnopeaaGreatDoor.H
section
end
section
end
section
end
section
end
section
end
section
end
section
end
section
end
section
end
namespace Go.Proofs.YtfggdokihnopeaaGreatDoor.H
open Go Go.Vc Go.RowKit
set_option maxHeartbeats 4000000
theorem J1c {v : List Nat} {k : Nat} (h : k < v.length) : gi v k ∈ v := by rw [y0P h]; exact List.getElem_mem h
end Go.Proofs.YtfggdokihnopeaaGreatDoor.H
namespace Go.Proofs.YtfggdokihnopeaaGreatDoor.H
open Go Go.Vc Go.RowKit
open Go.Na (rtx)
set_option maxHeartbeats 4000000
def plP (l : List Tr) (k : Nat) (s : List Nat) : List Pt := s.map fun i => plc k (gt l i)
theorem Y0L {l : List Tr} {k : Nat} (hk : k < 3) {P : Pl} (h : P ∈ j0W l k) : P.s = onL l k P.A P.B P.C l.length ∧ 0 < P.s.length := by
 have h1 := (J0F l k).2 P |>.1 h
 have h2 := z1n h1
 obtain ⟨⟨a, b, c⟩, ht, h3⟩ := List.mem_filterMap.1 h1
 rw [j1t, k0M] at ht
 have h3' : thr l k a b c = some P := h3
 have hs : P.s = onL l k P.A P.B P.C l.length := by
  unfold mkP at h2
  split at h2
  ·cases h2
  ·injection h2 with h2
   rw [← h2]
 refine ⟨hs, ?_⟩
 unfold thr at h3'
 split at h3'
 ·cases h3'
 ·rename_i hz
  unfold mkP at h3'
  split at h3'
  ·cases h3'
  ·injection h3' with h3'
   have h0 : hgt k (aP l k a b c) (bP l k a b c) (cP l k a b c) (gt l a) = 0 := (y0s hk hz _).2.2 rfl
   have : a ∈ P.s := by
    rw [← h3']
    show a ∈ onL _ _ _ _ _ _
    unfold onL
    rw [List.mem_filter]
    exact ⟨by simp only [List.mem_range]; simp only at ht; omega, by simpa using h0⟩
   exact List.length_pos_of_mem this
theorem Z0S {l : List Tr} (k : Nat) (hn : l.length ≤ 9) : (j0W l k).length ≤ 729 := by
 rw [← k0a]
 have h1 : (Q0Q (K0o (z0Y l k))).length ≤ (K0o (z0Y l k)).length := K0G _ _
 have h2 := K0s l k
 have h3 : l.length * (l.length * l.length) ≤ 9 * (9 * 9) := Nat.mul_le_mul hn (Nat.mul_le_mul hn hn)
 rw [W0S] at h1
 omega
end Go.Proofs.YtfggdokihnopeaaGreatDoor.H
namespace Go.Proofs.YtfggdokihnopeaaGreatDoor.H
open Go Go.Vc Go.RowKit
open Go.Na (rtx LR j0u q0T rsg)
set_option maxHeartbeats 4000000
def v0x (t : Nat → Rat) (p : Tr) (k : Nat) : Rat := (cz p k : Rat) + Y0x (frm k p) t 6
abbrev K1C (t : Nat → Rat) (p : Tr) : AV := .val (.agg #[sv (rtx (v0x t p 0)), sv (rtx (v0x t p 1)), sv (rtx (v0x t p 2))])
theorem Y0H {t : Nat → Rat} {p : Tr} (hp : BT 100000 p) (ht : ∀ i, LR 43 (t i)) (k : Nat) : LR 400 (v0x t p k) := by
 have h1 := q0l (hp.cz k)
 have h2 := z0G (c := frm k p) (t := t) (X0E k hp) ht 6
 exact Go.Na.LR.mono (LR.add' h1 h2) zE
def K1D (t : Nat → Rat) (p : Tr) : Nat → List SV
 |0 => [.av (vS []), .av (vS []), .av (vS [])]
 |1 => [.av (vR (v0x t p 0)), .av (vS []), .av (vS [])]
 |2 => [.av (vR (v0x t p 0)), .av (vR (v0x t p 1)), .av (vS [])]
 |_ => [.av (vR (v0x t p 0)), .av (vR (v0x t p 1)), .av (vR (v0x t p 2))]
theorem y0h (t : Nat → Rat) (p : Tr) (hp : BT 100000 p) (ht : ∀ i, LR 43 (t i)) : CtrA Tryz.prog 32 [t6 t, tp p] (j0B [K1C t p, vi 0]) := by
 have h1 := K0q t ht
 have h2 := x0d [p]
 have hr : j0Z p = true := by
  have := hp.x; have := hp.y; have := hp.z
  unfold j0Z inB; simp only [Bool.and_eq_true, decide_eq_true_eq]; omega
 rw [X1f, if_pos hr] at h2
 have h3 := K0r p
 have h4 := numbers_c t
 refine j0r _ Tryz.func32 rfl rfl Tryz.ntmps32 rfl fun w Z => ?_
 refine zU ?_
 refine wt ?_
 refine j0j (j0k (us := [sv (rtx (t 0)), sv (rtx (t 1)), sv (rtx (t 2)), sv (rtx (t 3)), sv (rtx (t 4)), sv (rtx (t 5))]) rfl rfl rfl rfl) rfl ?_
 refine wt ?_
 refine j0j (j0E (is := [0]) (xs := [_]) (vs := [_]) (us := [.int .i64 p.x, .int .i64 p.y, .int .i64 p.z]) (row := tf [p]) (K0u p) rfl rfl rfl (w0v p)) rfl ?_
 refine wt ?_
 refine j0h (γ := Nat) (fun i => [(2, .av (.ptr 6 (fun i => .val (([sv (rtx (t 0)), sv (rtx (t 1)), sv (rtx (t 2)), sv (rtx (t 3)), sv (rtx (t 4)), sv (rtx (t 5))] : List Value).getD i undef)))), (3, .av (.ptr 3 (fun i => .val (([.int .i64 p.x, .int .i64 p.y, .int .i64 p.z] : List Value).getD i undef)))), (4, .own 10 0), (5, .av (vi 0)), (8, .own 11 0), (27, .av (tp p)), (28, .av (vi i))])
  (fun i => [(10, .cells [.av (vS []), .av (vS []), .av (vS [])]), (11, .cells (K1D t p i))]) (fun i => i ≤ 3) (fun i => 3 - i) 0 zO
  (ent zS zT) ?_
 rintro i hi
 match i, hi with
 |0, _ =>
  have hf := k0u p (k := 0) zE hp
  have hz := hp.cz 0
  have hw := v0k (cz p 0) zO
  have hsm := X0E 0 hp
  have htm := w0y (frm 0 p) t hsm ht
  have hts := z0G hsm ht 6
  have had := q0e (cz p 0 : Rat) (Y0x (frm 0 p) t 6) (Go.Na.LR.mono (q0l hz) zE) (Go.Na.LR.mono hts zE)
  refine wt ?_
  refine j0j (q0m (W1M p (k := 0) zE) rfl rfl) rfl ?_
  refine wt ?_
  refine q0n (j0k (us := [sv (rtx (t 0)), sv (rtx (t 1)), sv (rtx (t 2)), sv (rtx (t 3)), sv (rtx (t 4)), sv (rtx (t 5))]) rfl rfl rfl rfl) rfl ?_
  refine wt ?_
  exact j0b 1 zO zO (ent zS zT)
 |1, _ =>
  have hf := k0u p (k := 1) zE hp
  have hz := hp.cz 1
  have hw := v0k (cz p 1) zO
  have hsm := X0E 1 hp
  have htm := w0y (frm 1 p) t hsm ht
  have hts := z0G hsm ht 6
  have had := q0e (cz p 1 : Rat) (Y0x (frm 1 p) t 6) (Go.Na.LR.mono (q0l hz) zE) (Go.Na.LR.mono hts zE)
  refine wt ?_
  refine j0j (q0m (W1M p (k := 1) zE) rfl rfl) rfl ?_
  refine wt ?_
  refine q0n (j0k (us := [sv (rtx (t 0)), sv (rtx (t 1)), sv (rtx (t 2)), sv (rtx (t 3)), sv (rtx (t 4)), sv (rtx (t 5))]) rfl rfl rfl rfl) rfl ?_
  refine wt ?_
  exact j0b 2 zO zO (ent zS zT)
 |2, _ =>
  have hf := k0u p (k := 2) zE hp
  have hz := hp.cz 2
  have hw := v0k (cz p 2) zO
  have hsm := X0E 2 hp
  have htm := w0y (frm 2 p) t hsm ht
  have hts := z0G hsm ht 6
  have had := q0e (cz p 2 : Rat) (Y0x (frm 2 p) t 6) (Go.Na.LR.mono (q0l hz) zE) (Go.Na.LR.mono hts zE)
  refine wt ?_
  refine j0j (q0m (W1M p (k := 2) zE) rfl rfl) rfl ?_
  refine wt ?_
  refine q0n (j0k (us := [sv (rtx (t 0)), sv (rtx (t 1)), sv (rtx (t 2)), sv (rtx (t 3)), sv (rtx (t 4)), sv (rtx (t 5))]) rfl rfl rfl rfl) rfl ?_
  refine wt ?_
  exact j0b 3 zO zO (ent zS zT)
 |3, _ =>
  refine wt ?_
  refine j0j (j0i (us := [sv (rtx (v0x t p 0)), sv (rtx (v0x t p 1)), sv (rtx (v0x t p 2))]) rfl rfl rfl rfl) rfl ?_
  refine wt ?_
  exact j0v (rvs := [_, _]) (τs := [_, _]) rfl rfl ⟨.agg (us := [sv (rtx (v0x t p 0)), sv (rtx (v0x t p 1)), sv (rtx (v0x t p 2))]) rfl rfl rfl rfl, .tmp rfl, trivial⟩ rfl
 |i + 4, hi => omega
theorem Z0W {l : List Tr} (hl : RT l) (h : l.length ≤ 64) (k : Nat) : chk (x0j l k) = 0 := by
 unfold chk
 rw [if_neg (by rw [x0b]; omega), if_pos]
 rw [List.all_eq_true]
 intro p hp
 obtain ⟨q, hq, rfl⟩ := List.mem_map.1 hp
 obtain ⟨i, hi, rfl⟩ := List.getElem_of_mem hq
 have e : l[i] = gt l i := by simp [gt, hi, List.getD]
 rw [e]
 have h1 := (hl i).cz (ou k)
 have h2 := (hl i).cz (ov k)
 unfold z0a inB plc
 simp only [Bool.and_eq_true, decide_eq_true_eq]
 omega
end Go.Proofs.YtfggdokihnopeaaGreatDoor.H
section
namespace Go.Proofs.YtfggdokihnopeaaGreatDoor.H
open Go Go.Vc Go.RowKit Go.Na
section
variable (n : Nat) (U V Z : Nat → Rat)
def dv (d0 d1 d2 : Rat) (i : Nat) : Rat := d0 + (d1 * U i + d2 * V i)
def hh (A B C : Rat) (i : Nat) : Rat := Z i - (A + (B * U i + C * V i))
def z1E (A B C : Rat) : Prop := ∀ i, i < n → 0 ≤ hh U V Z A B C i
end
variable {n : Nat} {U V Z : Nat → Rat}
theorem k0f {p : Nat → Prop} (r : Nat → Rat) : ∀ n, (∃ i, i < n ∧ p i) → ∃ i, i < n ∧ p i ∧ ∀ j, j < n → p j → r i ≤ r j
 |0, h => by obtain ⟨i, hi, _⟩ := h; omega
 |n + 1, h => by
  by_cases h1 : ∃ i, i < n ∧ p i
  ·obtain ⟨i, hi, hp, hm⟩ := k0f r n h1
   by_cases hn : p n ∧ r n < r i
   ·refine ⟨n, by omega, hn.1, fun j hj hpj => ?_⟩
    by_cases hjn : j = n
    ·subst hjn; exact Rat.le_refl
    ·have := hm j zO hpj
     have := hn.2
     grind
   ·refine ⟨i, by omega, hp, fun j hj hpj => ?_⟩
    by_cases hjn : j = n
    ·subst hjn
     have : ¬ r j < r i := fun h => hn ⟨hpj, h⟩
     grind
    ·exact hm j zO hpj
  ·obtain ⟨i, hi, hp⟩ := h
   have : i = n := by
    by_cases e : i = n
    ·exact e
    ·exact absurd ⟨i, by omega, hp⟩ h1
   subst this
   refine ⟨i, by omega, hp, fun j hj hpj => ?_⟩
   have : j = i := by
    by_cases e : j = i
    ·exact e
    ·exact absurd ⟨j, by omega, hpj⟩ h1
   subst this
   exact Rat.le_refl
theorem k0n (A B C t d0 d1 d2 : Rat) (i : Nat) : hh U V Z (A + t * d0) (B + t * d1) (C + t * d2) i = hh U V Z A B C i - t * dv U V d0 d1 d2 i := by
 unfold hh dv; grind
theorem j1Z {A B C d0 d1 d2 : Rat} (hf : z1E n U V Z A B C) (hd : ∃ i, i < n ∧ 0 < dv U V d0 d1 d2 i) (hc : ∀ i, i < n → hh U V Z A B C i = 0 → dv U V d0 d1 d2 i ≤ 0) :
  ∃ t : Rat, 0 < t ∧ z1E n U V Z (A + t * d0) (B + t * d1) (C + t * d2) ∧ ∃ i, i < n ∧ 0 < dv U V d0 d1 d2 i ∧ hh U V Z (A + t * d0) (B + t * d1) (C + t * d2) i = 0 := by
 obtain ⟨i, hi, hp, hm⟩ := k0f (fun i => hh U V Z A B C i / dv U V d0 d1 d2 i) n hd
 have h0 := hf i hi
 have hne : hh U V Z A B C i ≠ 0 := fun e => by have := hc i hi e; grind
 have hpos : 0 < hh U V Z A B C i := by grind
 have key : hh U V Z A B C i / dv U V d0 d1 d2 i * dv U V d0 d1 d2 i = hh U V Z A B C i := by
  rw [Rat.div_def, Rat.mul_assoc, Rat.inv_mul_cancel _ (by grind), Rat.mul_one]
 refine ⟨hh U V Z A B C i / dv U V d0 d1 d2 i, ?_, fun j hj => ?_, i, hi, hp, ?_⟩
 ·rw [Rat.lt_div_iff hp, Rat.zero_mul]; exact hpos
 ·rw [k0n]
  have hj0 := hf j hj
  have htp : 0 < hh U V Z A B C i / dv U V d0 d1 d2 i := by
   rw [Rat.lt_div_iff hp, Rat.zero_mul]; exact hpos
  have ht : 0 ≤ hh U V Z A B C i / dv U V d0 d1 d2 i := by grind
  by_cases hdj : 0 < dv U V d0 d1 d2 j
  ·have h1 := hm j hj hdj
   have h2 : ¬ hh U V Z A B C j < hh U V Z A B C i / dv U V d0 d1 d2 i * dv U V d0 d1 d2 j := fun h => by
    rw [← Rat.div_lt_iff hdj] at h
    grind
   grind
  ·have h2 : 0 ≤ hh U V Z A B C i / dv U V d0 d1 d2 i * (- dv U V d0 d1 d2 j) := Rat.mul_nonneg ht (by grind)
   grind
 ·rw [k0n, key]; grind
noncomputable def q1s (n : Nat) (U V Z : Nat → Rat) (A B C : Rat) : Nat := ((List.range n).filter fun i => decide (hh U V Z A B C i ≠ 0)).length
theorem Z0Q {p q : Nat → Bool} : ∀ (l : List Nat), (∀ x ∈ l, q x = true → p x = true) → (∃ x, x ∈ l ∧ p x = true ∧ q x = false) → (l.filter q).length < (l.filter p).length
 |[], _, h => by obtain ⟨x, hx, _⟩ := h; cases hx
 |a :: l, h1, h2 => by
  have hle : ∀ l : List Nat, (∀ x ∈ l, q x = true → p x = true) → (l.filter q).length ≤ (l.filter p).length := by
   intro l
   induction l with
   |nil => intro _; simp
   |cons b l ih =>
    intro h
    have := ih (fun x hx => h x (by simp [hx]))
    simp only [List.filter_cons]
    cases hq : q b with
    |true => rw [h b (by simp) hq]; simp; omega
    |false => cases p b <;> simp <;> omega
  by_cases ha : p a = true ∧ q a = false
  ·have := hle l (fun x hx => h1 x (by simp [hx]))
   simp only [List.filter_cons, ha.1, ha.2]
   simp; omega
  ·obtain ⟨x, hx, hp, hq⟩ := h2
   have hxl : x ∈ l := by
    rcases List.mem_cons.1 hx with e | e
    ·subst e; exact absurd ⟨hp, hq⟩ ha
    ·exact e
   have := Z0Q l (fun x hx => h1 x (by simp [hx])) ⟨x, hxl, hp, hq⟩
   simp only [List.filter_cons]
   cases hqa : q a with
   |true => rw [h1 a (by simp) hqa]; simp; omega
   |false => cases p a <;> simp <;> omega
theorem q1D {qx qy : Rat} (hq : ∀ d0 d1 d2 : Rat, 0 < d0 + (d1 * qx + d2 * qy) → ∃ i, i < n ∧ 0 < dv U V d0 d1 d2 i)
  (hnc : ∀ d0 d1 d2 : Rat, ¬ (d0 = 0 ∧ d1 = 0 ∧ d2 = 0) → ∃ i, i < n ∧ dv U V d0 d1 d2 i ≠ 0) : ∀ (m : Nat) (A B C : Rat), q1s n U V Z A B C ≤ m → z1E n U V Z A B C →
  ∃ A' B' C', z1E n U V Z A' B' C' ∧ A + (B * qx + C * qy) ≤ A' + (B' * qx + C' * qy) ∧ ∀ d0 d1 d2 : Rat, (∀ i, i < n → hh U V Z A' B' C' i = 0 → dv U V d0 d1 d2 i = 0) → d0 = 0 ∧ d1 = 0 ∧ d2 = 0 := by
 intro m
 induction m with
 |zero =>
  intro A B C hm hf
  refine ⟨A, B, C, hf, Rat.le_refl, fun d0 d1 d2 hd => ?_⟩
  by_cases h0 : d0 = 0 ∧ d1 = 0 ∧ d2 = 0
  ·exact h0
  ·exfalso
   obtain ⟨i, hi, hne⟩ := hnc d0 d1 d2 h0
   apply hne
   refine hd i hi ?_
   have h1 : (List.range n).filter (fun i => decide (hh U V Z A B C i ≠ 0)) = [] := List.length_eq_zero_iff.1 (by unfold q1s at hm; omega)
   have h2 := List.filter_eq_nil_iff.1 h1 i (List.mem_range.2 hi)
   simpa using h2
 |succ m ih =>
  intro A B C hm hf
  by_cases hall : ∀ d0 d1 d2 : Rat, (∀ i, i < n → hh U V Z A B C i = 0 → dv U V d0 d1 d2 i = 0) → d0 = 0 ∧ d1 = 0 ∧ d2 = 0
  ·exact ⟨A, B, C, hf, Rat.le_refl, hall⟩
  ·have hex : ∃ d0 d1 d2 : Rat, (∀ i, i < n → hh U V Z A B C i = 0 → dv U V d0 d1 d2 i = 0) ∧ ¬ (d0 = 0 ∧ d1 = 0 ∧ d2 = 0) := by
    apply Classical.byContradiction
    intro hno
    apply hall
    intro d0 d1 d2 hd
    apply Classical.byContradiction
    intro h0
    exact hno ⟨d0, d1, d2, hd, h0⟩
   have hex2 : ∃ d0 d1 d2 : Rat, (∀ i, i < n → hh U V Z A B C i = 0 → dv U V d0 d1 d2 i = 0) ∧ 0 ≤ d0 + (d1 * qx + d2 * qy) ∧ ∃ i, i < n ∧ 0 < dv U V d0 d1 d2 i := by
    obtain ⟨d0, d1, d2, hd, h0⟩ := hex
    have hneg : ∀ i, dv U V (-d0) (-d1) (-d2) i = - dv U V d0 d1 d2 i := fun i => by unfold dv; grind
    have hd' : ∀ i, i < n → hh U V Z A B C i = 0 → dv U V (-d0) (-d1) (-d2) i = 0 := fun i hi e => by rw [hneg, hd i hi e]; grind
    by_cases hp : 0 < d0 + (d1 * qx + d2 * qy)
    ·exact ⟨d0, d1, d2, hd, by grind, hq d0 d1 d2 hp⟩
    ·by_cases hn : 0 < -d0 + (-d1 * qx + -d2 * qy)
     ·exact ⟨-d0, -d1, -d2, hd', by grind, hq _ _ _ hn⟩
     ·have hz : d0 + (d1 * qx + d2 * qy) = 0 := by grind
      obtain ⟨i, hi, hne⟩ := hnc d0 d1 d2 h0
      by_cases hpi : 0 < dv U V d0 d1 d2 i
      ·exact ⟨d0, d1, d2, hd, by grind, i, hi, hpi⟩
      ·exact ⟨-d0, -d1, -d2, hd', by grind, i, hi, by rw [hneg]; grind⟩
   obtain ⟨d0, d1, d2, hd, hqd, hex3⟩ := hex2
   obtain ⟨t, ht, hf', i, hi, hdi, hz⟩ := j1Z hf hex3 (fun i hi e => by rw [hd i hi e]; exact Rat.le_refl)
   have hlt : q1s n U V Z (A + t * d0) (B + t * d1) (C + t * d2) < q1s n U V Z A B C := by
    unfold q1s
    refine Z0Q _ (fun x hx hqx => ?_) ⟨i, List.mem_range.2 hi, ?_, ?_⟩
    ·simp only [decide_eq_true_eq] at hqx ⊢
     intro e
     apply hqx
     rw [k0n, e, hd x (List.mem_range.1 hx) e]; grind
    ·simp only [decide_eq_true_eq]
     intro e
     have := hd i hi e
     grind
    ·simpa using hz
   obtain ⟨A', B', C', g1, g2, g3⟩ := ih _ _ _ zO hf'
   refine ⟨A', B', C', g1, ?_, g3⟩
   have h1 : 0 ≤ t * (d0 + (d1 * qx + d2 * qy)) := Rat.mul_nonneg (by grind) hqd
   grind
end Go.Proofs.YtfggdokihnopeaaGreatDoor.H
end
namespace Go.Proofs.YtfggdokihnopeaaGreatDoor.H
open Go Go.Vc Go.RowKit
theorem z1P {k : Nat} (hk : k < 3) (a b c : Tr) : cz (nvP a b c) k ≠ 0 ↔ crs (plc k a) (plc k b) (plc k c) ≠ 0 := by
 rcases (by omega : k = 0 ∨ k = 1 ∨ k = 2) with rfl | rfl | rfl
 ·unfold nvP tcr x1j crs trn sub plc ou ov cz
  dsimp only
  constructor <;> intro h e <;> apply h <;> grind
 ·unfold nvP tcr x1j crs trn sub plc ou ov cz
  dsimp only
  constructor <;> intro h e <;> apply h <;> grind
 ·unfold nvP tcr x1j crs trn sub plc ou ov cz
  dsimp only
  constructor <;> intro h e <;> apply h <;> grind
theorem Q1A (a b c : Pt) : crs c b a = - crs a b c := by unfold crs trn sub; dsimp only; grind
theorem z0x {k : Nat} {A B C A' B' C' : Rat} {a b c : Tr} (hn : crs (plc k a) (plc k b) (plc k c) ≠ 0) (h1 : hgt k A B C a = 0) (h2 : hgt k A B C b = 0) (h3 : hgt k A B C c = 0) (h1' : hgt k A' B' C' a = 0) (h2' : hgt k A' B' C' b = 0) (h3' : hgt k A' B' C' c = 0) :
  A = A' ∧ B = B' ∧ C = C' := by
 have hq : ((crs (plc k a) (plc k b) (plc k c) : Int) : Rat) ≠ 0 := by exact_mod_cast hn
 unfold crs trn sub at hq
 dsimp only at hq
 simp only [Rat.intCast_sub, Rat.intCast_mul] at hq
 unfold hgt at *
 generalize ((plc k a).x : Rat) = ax at *
 generalize ((plc k a).y : Rat) = ay at *
 generalize ((plc k b).x : Rat) = bx at *
 generalize ((plc k b).y : Rat) = by' at *
 generalize ((plc k c).x : Rat) = cx at *
 generalize ((plc k c).y : Rat) = cy at *
 generalize (cz a k : Rat) = az at *
 generalize (cz b k : Rat) = bz at *
 generalize (cz c k : Rat) = czz at *
 have e1 : (B - B') * (bx - ax) + (C - C') * (by' - ay) = 0 := by grind
 have e2 : (B - B') * (cx - ax) + (C - C') * (cy - ay) = 0 := by grind
 have f1 : (B - B') * ((bx - ax) * (cy - ay) - (by' - ay) * (cx - ax)) = 0 := by grind
 have f2 : (C - C') * ((bx - ax) * (cy - ay) - (by' - ay) * (cx - ax)) = 0 := by grind
 have g1 : B - B' = 0 := by
  rcases Rat.mul_eq_zero.1 f1 with h | h
  ·exact h
  ·exact absurd h hq
 have g2 : C - C' = 0 := by
  rcases Rat.mul_eq_zero.1 f2 with h | h
  ·exact h
  ·exact absurd h hq
 have gB : B = B' := by grind
 have gC : C = C' := by grind
 subst gB gC
 refine ⟨by grind, rfl, rfl⟩
theorem J1J {l : List Tr} {k a b c : Nat} (hk : k < 3) (hn : cz (nvP (gt l a) (gt l b) (gt l c)) k ≠ 0) : hgt k (aP l k a b c) (bP l k a b c) (cP l k a b c) (gt l a) = 0 ∧ hgt k (aP l k a b c) (bP l k a b c) (cP l k a b c) (gt l b) = 0 ∧ hgt k (aP l k a b c) (bP l k a b c) (cP l k a b c) (gt l c) = 0 := by
 have hd : ∀ p q r : Tr, w0z (nvP p q r) q = w0z (nvP p q r) p ∧ w0z (nvP p q r) r = w0z (nvP p q r) p := by
  intro p q r
  unfold nvP w0z tcr x1j
  dsimp only
  constructor <;> grind
 have hu : ∀ q, w0z (nvP (gt l a) (gt l b) (gt l c)) q = w0z (nvP (gt l a) (gt l b) (gt l c)) (gt l a) → w0z (nP l k a b c) q = w0z (nP l k a b c) (gt l a) := by
  intro q h
  unfold nP upP
  split
  ·unfold w0z at h ⊢
   dsimp only
   grind
  ·exact h
 obtain ⟨d1, d2⟩ := hd (gt l a) (gt l b) (gt l c)
 exact ⟨(y0s hk hn _).2.2 rfl, (y0s hk hn _).2.2 (hu _ d1), (y0s hk hn _).2.2 (hu _ d2)⟩
theorem Z0n {l : List Tr} {k : Nat} {A B C : Rat} {i : Nat} : i ∈ onL l k A B C l.length ↔ i < l.length ∧ hgt k A B C (gt l i) = 0 := by
 unfold onL
 rw [List.mem_filter, List.mem_range]
 simp
theorem v1D {l : List Tr} {k : Nat} {A B C : Rat} {n i j : Nat} (hij : i < j) (hj : j < (onL l k A B C n).length) : gi (onL l k A B C n) i < gi (onL l k A B C n) j := by
 have h : (onL l k A B C n).Pairwise (· < ·) := List.Pairwise.filter _ List.pairwise_lt_range
 rw [y0P (by omega), y0P hj]
 exact List.pairwise_iff_getElem.1 h i j zO hj hij
theorem y0b {l : List Tr} {k : Nat} {s : List Nat} {i : Nat} (h : i < s.length) : gp (plP l k s) i = plc k (gt l (gi s i)) := by
 unfold gp plP gi
 simp [List.getD, h]
theorem q1h {l : List Tr} {k : Nat} (hk : k < 3) {A B C : Rat} (hlow : V1e l k A B C l.length = false) (hs : x0i (plP l k (onL l k A B C l.length)) = false) : (⟨A, B, C, onL l k A B C l.length⟩ : Pl) ∈ j0W l k := by
 rw [(J0F l k).2]
 have hpl : (plP l k (onL l k A B C l.length)).length = (onL l k A B C l.length).length := by unfold plP; rw [List.length_map]
 unfold x0i at hs
 rw [hpl] at hs
 rw [List.all_eq_false] at hs
 obtain ⟨i, hi, hs⟩ := hs
 rw [List.mem_range] at hi
 rw [Bool.not_eq_true, List.all_eq_false] at hs
 obtain ⟨j, hj, hs⟩ := hs
 rw [List.mem_range] at hj
 rw [Bool.not_eq_true, List.all_eq_false] at hs
 obtain ⟨m, hm, hs⟩ := hs
 rw [List.mem_range] at hm
 have hne : crs (gp (plP l k (onL l k A B C l.length)) i) (gp (plP l k (onL l k A B C l.length)) j) (gp (plP l k (onL l k A B C l.length)) m) ≠ 0 := by simpa using hs
 rw [y0b hi, y0b (by omega), y0b (by omega)] at hne
 have o1 := v1D (l := l) (k := k) (A := A) (B := B) (C := C) (n := l.length) hm (show j < _ by omega)
 have o2 := v1D (l := l) (k := k) (A := A) (B := B) (C := C) (n := l.length) hj hi
 have mem : ∀ t, t < (onL l k A B C l.length).length → gi (onL l k A B C l.length) t < l.length ∧ hgt k A B C (gt l (gi (onL l k A B C l.length) t)) = 0 := fun t ht => by
  rw [← Z0n, y0P ht]; exact List.getElem_mem ht
 obtain ⟨l1, z1⟩ := mem m zO
 obtain ⟨l2, z2⟩ := mem j zO
 obtain ⟨l3, z3⟩ := mem i hi
 generalize gi (onL l k A B C l.length) m = a at *
 generalize gi (onL l k A B C l.length) j = b at *
 generalize gi (onL l k A B C l.length) i = c at *
 have hcr : crs (plc k (gt l a)) (plc k (gt l b)) (plc k (gt l c)) ≠ 0 := by rw [Q1A] at hne; omega
 have hn := (z1P hk _ _ _).2 hcr
 obtain ⟨t1, t2, t3⟩ := J1J hk hn
 obtain ⟨rfl, rfl, rfl⟩ := z0x hcr z1 z2 z3 t1 t2 t3
 unfold z0Y
 rw [List.mem_filterMap]
 refine ⟨(a, b, c), ?_, ?_⟩
 ·rw [j1t, k0M]; exact ⟨o1, o2, l3⟩
 ·show thr l k a b c = _
  unfold thr
  rw [if_neg hn]
  unfold mkP
  rw [if_neg (by rw [hlow]; decide)]
theorem x1L {l : List Tr} {k : Nat} (hk : k < 3) {P : Pl} (h : P ∈ j0W l k) : x0i (plP l k P.s) = false := by
 obtain ⟨hs, _⟩ := Y0L hk h
 obtain ⟨⟨a, b, c⟩, ht, h3⟩ := List.mem_filterMap.1 ((J0F l k).2 P |>.1 h)
 rw [j1t, k0M] at ht
 obtain ⟨ht1, ht2, ht3⟩ := ht
 dsimp only at ht1 ht2 ht3
 have h3' : thr l k a b c = some P := h3
 unfold thr at h3'
 split at h3'
 ·cases h3'
 ·rename_i hz
  have hP : P.A = aP l k a b c ∧ P.B = bP l k a b c ∧ P.C = cP l k a b c := by
   unfold mkP at h3'
   split at h3'
   ·cases h3'
   ·injection h3' with h3'; rw [← h3']; exact ⟨rfl, rfl, rfl⟩
  obtain ⟨t1, t2, t3⟩ := J1J hk hz
  rw [← hP.1, ← hP.2.1, ← hP.2.2] at t1 t2 t3
  cases hst : x0i (plP l k P.s) with
  |false => rfl
  |true =>
   exfalso
   have hall := Z0X (J0O hst)
   have hpl : (plP l k P.s).length = P.s.length := by unfold plP; rw [List.length_map]
   rw [hpl] at hall
   have pos : ∀ x, x < l.length → hgt k P.A P.B P.C (gt l x) = 0 → ∃ i, i < P.s.length ∧ gi P.s i = x := fun x hx hz => by
    have hm : x ∈ P.s := by rw [hs, Z0n]; exact ⟨hx, hz⟩
    obtain ⟨i, hi, e⟩ := List.getElem_of_mem hm
    exact ⟨i, hi, by rw [y0P hi]; exact e⟩
   obtain ⟨i, hi, ei⟩ := pos a zO t1
   obtain ⟨j, hj, ej⟩ := pos b zO t2
   obtain ⟨m, hm, em⟩ := pos c ht3 t3
   have := hall i hi j hj m hm
   rw [y0b hi, y0b hj, y0b hm, ei, ej, em] at this
   exact (z1P hk _ _ _).1 hz this
def fU (l : List Tr) (k : Nat) : Nat → Rat := fun i => ((plc k (gt l i)).x : Rat)
def fV (l : List Tr) (k : Nat) : Nat → Rat := fun i => ((plc k (gt l i)).y : Rat)
def fZ (l : List Tr) (k : Nat) : Nat → Rat := fun i => (cz (gt l i) k : Rat)
theorem k0C (l : List Tr) (k : Nat) (A B C : Rat) (i : Nat) : hh (fU l k) (fV l k) (fZ l k) A B C i = hgt k A B C (gt l i) := rfl
theorem k0o {l : List Tr} {k : Nat} {A B C : Rat} : z1E l.length (fU l k) (fV l k) (fZ l k) A B C ↔ V1e l k A B C l.length = false := by
 unfold z1E V1e
 rw [List.any_eq_false]
 constructor
 ·intro h i hi
  have := h i (List.mem_range.1 hi)
  rw [k0C] at this
  simp only [decide_eq_true_eq]
  grind
 ·intro h i hi
  have := h i (List.mem_range.2 hi)
  simp only [decide_eq_true_eq] at this
  rw [k0C]
  grind
theorem k0d {L : List Pt} (h : w0c L = true) : ∃ d0 d1 d2 : Rat, ¬ (d0 = 0 ∧ d1 = 0 ∧ d2 = 0) ∧ ∀ i, i < L.length → d0 + (d1 * ((gp L i).x : Rat) + d2 * ((gp L i).y : Rat)) = 0 := by
 unfold w0c at h
 split at h
 ·rename_i hf
  refine ⟨((gp L 0).x : Rat), -1, 0, fun e => by have := e.2.1; grind, fun i hi => ?_⟩
  have : gp L i = gp L 0 := by
   have := List.find?_eq_none.1 hf i (List.mem_range.2 hi)
   simpa using this
  rw [this]; grind
 ·rename_i m hf
  have hm := List.find?_some hf
  have hne : gp L m ≠ gp L 0 := by simpa using hm
  have hall : ∀ i, i < L.length → trn (sub (gp L m) (gp L 0)) (sub (gp L i) (gp L 0)) = 0 := fun i hi => by
   have := List.all_eq_true.1 h i (List.mem_range.2 hi)
   simpa using this
  generalize gp L m = b at *
  generalize gp L 0 = a at *
  refine ⟨((b.y : Rat) - a.y) * a.x - ((b.x : Rat) - a.x) * a.y, -((b.y : Rat) - a.y), (b.x : Rat) - a.x, fun e => ?_, fun i hi => ?_⟩
  ·obtain ⟨_, e1, e2⟩ := e
   apply hne
   have f1 : (b.y : Rat) = a.y := by grind
   have f2 : (b.x : Rat) = a.x := by grind
   have g1 : b.y = a.y := by exact_mod_cast f1
   have g2 : b.x = a.x := by exact_mod_cast f2
   obtain ⟨bx, by'⟩ := b
   obtain ⟨ax, ay⟩ := a
   dsimp only at g1 g2
   rw [g1, g2]
  ·have h1 := hall i hi
   unfold trn sub at h1
   dsimp only at h1
   have h2 : (((b.x - a.x) * ((gp L i).y - a.y) - (b.y - a.y) * ((gp L i).x - a.x) : Int) : Rat) = 0 := by rw [h1]; rfl
   simp only [Rat.intCast_sub, Rat.intCast_mul] at h2
   grind
theorem k0I {L : List Pt} {d0 d1 d2 : Rat} (hne : ¬ (d0 = 0 ∧ d1 = 0 ∧ d2 = 0)) (h : ∀ i, i < L.length → d0 + (d1 * ((gp L i).x : Rat) + d2 * ((gp L i).y : Rat)) = 0) : x0i L = true := by
 unfold x0i
 simp only [List.all_eq_true, List.mem_range, decide_eq_true_eq]
 intro i hi j hj m hm
 have h1 := h i hi
 have h2 := h j zO
 have h3 := h m zO
 have hc : ((crs (gp L i) (gp L j) (gp L m) : Int) : Rat) = 0 := by
  unfold crs trn sub
  dsimp only
  simp only [Rat.intCast_sub, Rat.intCast_mul]
  generalize ((gp L i).x : Rat) = ax at *
  generalize ((gp L i).y : Rat) = ay at *
  generalize ((gp L j).x : Rat) = bx at *
  generalize ((gp L j).y : Rat) = by' at *
  generalize ((gp L m).x : Rat) = cx at *
  generalize ((gp L m).y : Rat) = cy at *
  have e1 : d1 * (bx - ax) + d2 * (by' - ay) = 0 := by grind
  have e2 : d1 * (cx - ax) + d2 * (cy - ay) = 0 := by grind
  have f1 : d1 * ((bx - ax) * (cy - ay) - (by' - ay) * (cx - ax)) = 0 := by grind
  have f2 : d2 * ((bx - ax) * (cy - ay) - (by' - ay) * (cx - ax)) = 0 := by grind
  by_cases g1 : d1 = 0
  ·by_cases g2 : d2 = 0
   ·exfalso; apply hne; refine ⟨?_, g1, g2⟩; rw [g1, g2] at h1; grind
   ·rcases Rat.mul_eq_zero.1 f2 with h | h
    ·exact absurd h g2
    ·exact h
  ·rcases Rat.mul_eq_zero.1 f1 with h | h
   ·exact absurd h g1
   ·exact h
 exact_mod_cast hc
theorem k0R {l : List Tr} {k : Nat} (hk : k < 3) (hs : x0i (x0j l k) = false) {qx qy : Rat} (hq : ∀ d0 d1 d2 : Rat, 0 < d0 + (d1 * qx + d2 * qy) → ∃ i, i < l.length ∧ 0 < dv (fU l k) (fV l k) d0 d1 d2 i)
  {A B C : Rat} (hf : z1E l.length (fU l k) (fV l k) (fZ l k) A B C) : ∃ P, P ∈ j0W l k ∧ A + (B * qx + C * qy) ≤ P.A + (P.B * qx + P.C * qy) := by
 have hnc : ∀ d0 d1 d2 : Rat, ¬ (d0 = 0 ∧ d1 = 0 ∧ d2 = 0) → ∃ i, i < l.length ∧ dv (fU l k) (fV l k) d0 d1 d2 i ≠ 0 := by
  intro d0 d1 d2 hne
  apply Classical.byContradiction
  intro hno
  have : x0i (x0j l k) = true := k0I hne (fun i hi => by
   rw [x0b] at hi
   rw [y0r hi]
   apply Classical.byContradiction
   intro h
   exact hno ⟨i, hi, h⟩)
  rw [hs] at this; cases this
 obtain ⟨A', B', C', h1, h2, h3⟩ := q1D hq hnc _ A B C (Nat.le_refl _) hf
 refine ⟨⟨A', B', C', onL l k A' B' C' l.length⟩, q1h hk (k0o.1 h1) ?_, h2⟩
 cases hst : x0i (plP l k (onL l k A' B' C' l.length)) with
 |false => rfl
 |true =>
  exfalso
  obtain ⟨d0, d1, d2, hne, hd⟩ := k0d (by rw [← K0v]; exact hst)
  refine hne (h3 d0 d1 d2 fun i hi he => ?_)
  rw [k0C] at he
  obtain ⟨j, hj, e⟩ := List.getElem_of_mem (Z0n.2 ⟨hi, he⟩)
  have := hd j (by unfold plP; rw [List.length_map]; exact hj)
  rw [y0b hj, y0P hj, e] at this
  exact this
theorem K0z {l : List Tr} {k : Nat} (hR : RT l) : z1E l.length (fU l k) (fV l k) (fZ l k) (-100000) 0 0 := by
 intro i hi
 have h := ((hR i).cz k).1
 have h' : ((-100000 : Int) : Rat) ≤ (cz (gt l i) k : Rat) := Rat.intCast_le_intCast.2 h
 unfold hh fZ
 have e : ((-100000 : Int) : Rat) = -100000 := by decide +kernel
 rw [e] at h'
 grind
theorem k0S {l : List Tr} {k : Nat} (hk : k < 3) (hR : RT l) (hs : x0i (x0j l k) = false) : j0W l k ≠ [] := by
 have hl : 0 < l.length := by
  cases l with
  |nil => simp [x0i, x0j] at hs
  |cons a l => simp
 obtain ⟨P, hP, _⟩ := k0R hk hs (qx := fU l k 0) (qy := fV l k 0) (fun d0 d1 d2 h => ⟨0, hl, h⟩) (K0z hR)
 exact List.ne_nil_of_mem hP
end Go.Proofs.YtfggdokihnopeaaGreatDoor.H
namespace Go.Proofs.YtfggdokihnopeaaGreatDoor.H
open Go Go.Vc
structure Sys where
 ax : Nat → Nat
 off : Nat → Int
 sp : Nat → List Tr
def Prm (a : Nat → Nat) : Prop := a 0 < 3 ∧ a 1 < 3 ∧ a 2 < 3 ∧ a 0 ≠ a 1 ∧ a 0 ≠ a 2 ∧ a 1 ≠ a 2
def mvQ (t : Nat → Rat) (p : Tr) (k : Nat) : Rat := (cz p k : Rat) + Y0x (frm k p) t 6
def sgA (a : Nat → Nat) : Rat := if (a 0 + 1) % 3 = a 1 then 1 else -1
theorem y0Z {a : Nat → Nat} (h : Prm a) : (a 0 = 0 ∧ a 1 = 1 ∧ a 2 = 2 ∧ sgA a = 1) ∨ (a 0 = 1 ∧ a 1 = 2 ∧ a 2 = 0 ∧ sgA a = 1) ∨ (a 0 = 2 ∧ a 1 = 0 ∧ a 2 = 1 ∧ sgA a = 1) ∨ (a 0 = 0 ∧ a 1 = 2 ∧ a 2 = 1 ∧ sgA a = -1) ∨ (a 0 = 2 ∧ a 1 = 1 ∧ a 2 = 0 ∧ sgA a = -1) ∨ (a 0 = 1 ∧ a 1 = 0 ∧ a 2 = 2 ∧ sgA a = -1) := by
 unfold Prm at h
 unfold sgA
 obtain ⟨h0, h1, h2, h3, h4, h5⟩ := h
 generalize a 0 = x at *
 generalize a 1 = y at *
 generalize a 2 = z at *
 rcases (by omega : x = 0 ∨ x = 1 ∨ x = 2) with rfl | rfl | rfl <;> rcases (by omega : y = 0 ∨ y = 1 ∨ y = 2) with rfl | rfl | rfl <;> rcases (by omega : z = 0 ∨ z = 1 ∨ z = 2) with rfl | rfl | rfl <;> first | omega | simp
theorem Q0T (t : Nat → Rat) (p : Tr) : mvQ t p 0 = (p.x : Rat) + t 0 + (t 4 * (p.z : Rat) - t 5 * (p.y : Rat)) ∧ mvQ t p 1 = (p.y : Rat) + t 1 + (t 5 * (p.x : Rat) - t 3 * (p.z : Rat)) ∧ mvQ t p 2 = (p.z : Rat) + t 2 + (t 3 * (p.y : Rat) - t 4 * (p.x : Rat)) := by
 refine ⟨?_, ?_, ?_⟩ <;> simp only [mvQ, Y0x, frm, cz, Rat.intCast_neg] <;> grind
theorem w0p {a : Nat → Nat} (h : Prm a) (t : Nat → Rat) (p : Tr) :
  mvQ t p (a 0) = (cz p (a 0) : Rat) + t (a 0) + sgA a * (t (3 + a 1) * (cz p (a 2) : Rat) - t (3 + a 2) * (cz p (a 1) : Rat)) ∧
  mvQ t p (a 1) = (cz p (a 1) : Rat) + t (a 1) + sgA a * (t (3 + a 2) * (cz p (a 0) : Rat) - t (3 + a 0) * (cz p (a 2) : Rat)) ∧
  mvQ t p (a 2) = (cz p (a 2) : Rat) + t (a 2) + sgA a * (t (3 + a 0) * (cz p (a 1) : Rat) - t (3 + a 1) * (cz p (a 0) : Rat)) := by
 obtain ⟨m0, m1, m2⟩ := Q0T t p
 rcases y0Z h with ⟨e0, e1, e2, e3⟩ | ⟨e0, e1, e2, e3⟩ | ⟨e0, e1, e2, e3⟩ | ⟨e0, e1, e2, e3⟩ | ⟨e0, e1, e2, e3⟩ | ⟨e0, e1, e2, e3⟩ <;> rw [e0, e1, e2, e3, m0, m1, m2] <;> simp only [cz, Nat.reduceAdd] <;> refine ⟨?_, ?_, ?_⟩ <;> grind
def hq (S : Sys) (t : Nat → Rat) (k : Nat) (p : Tr) : Rat := mvQ t p (S.ax k) - (S.off k : Rat)
def onS (S : Sys) (t : Nat → Rat) (k : Nat) : List Nat := (List.range (S.sp k).length).filter fun i => decide (hq S t k (gt (S.sp k) i) = 0)
theorem j0I {S : Sys} {t : Nat → Rat} {k i : Nat} : i ∈ onS S t k ↔ i < (S.sp k).length ∧ hq S t k (gt (S.sp k) i) = 0 := by
 unfold onS; rw [List.mem_filter, List.mem_range, decide_eq_true_eq]
def UpS (S : Sys) (t : Nat → Rat) (k : Nat) : Prop := ∀ i, i < (S.sp k).length → 0 ≤ hq S t k (gt (S.sp k) i)
def Tch (S : Sys) (t : Nat → Rat) : Prop := (UpS S t 0 ∧ UpS S t 1 ∧ UpS S t 2) ∧ x0i (plP (S.sp 0) (S.ax 0) (onS S t 0)) = false ∧ (∃ i j, i ∈ onS S t 1 ∧ j ∈ onS S t 1 ∧ cz (gt (S.sp 1) i) (S.ax 2) ≠ cz (gt (S.sp 1) j) (S.ax 2)) ∧ ∃ i, i ∈ onS S t 2
def Eq6 (t u : Nat → Rat) : Prop := ∀ i, i < 6 → t i = u i
theorem Eq6.mv {t u : Nat → Rat} (h : Eq6 t u) (p : Tr) (k : Nat) : mvQ t p k = mvQ u p k := by
 unfold mvQ
 simp only [Y0x]
 rw [h 0 (by omega), h 1 (by omega), h 2 (by omega), h 3 (by omega), h 4 (by omega), h 5 (by omega)]
theorem Eq6.hq {S : Sys} {t u : Nat → Rat} (h : Eq6 t u) (k : Nat) (p : Tr) : hq S t k p = hq S u k p := by
 show mvQ _ _ _ - _ = mvQ _ _ _ - _
 rw [h.mv]
theorem Eq6.on {S : Sys} {t u : Nat → Rat} (h : Eq6 t u) (k : Nat) : onS S t k = onS S u k := by
 show (List.range _).filter (fun i => decide (H.hq S t k (gt (S.sp k) i) = 0)) = (List.range _).filter (fun i => decide (H.hq S u k (gt (S.sp k) i) = 0))
 congr 1
 funext i
 rw [h.hq]
theorem Eq6.tch {S : Sys} {t u : Nat → Rat} (h : Eq6 t u) (ht : Tch S t) : Tch S u := by
 unfold Tch UpS at *
 rw [h.on 0, h.on 1, h.on 2] at ht
 obtain ⟨⟨h1, h2, h3⟩, h4⟩ := ht
 exact ⟨⟨fun i hi => by rw [← h.hq]; exact h1 i hi, fun i hi => by rw [← h.hq]; exact h2 i hi, fun i hi => by rw [← h.hq]; exact h3 i hi⟩, h4⟩
theorem Eq6.symm {t u : Nat → Rat} (h : Eq6 t u) : Eq6 u t := fun i hi => (h i hi).symm
theorem q1H {a : Nat → Nat} (h : Prm a) {t u : Nat → Rat} (h0 : t (a 0) = u (a 0)) (h1 : t (a 1) = u (a 1)) (h2 : t (a 2) = u (a 2)) (h3 : t (3 + a 0) = u (3 + a 0)) (h4 : t (3 + a 1) = u (3 + a 1)) (h5 : t (3 + a 2) = u (3 + a 2)) : Eq6 t u := by
 intro i hi
 rcases y0Z h with ⟨e0, e1, e2, _⟩ | ⟨e0, e1, e2, _⟩ | ⟨e0, e1, e2, _⟩ | ⟨e0, e1, e2, _⟩ | ⟨e0, e1, e2, _⟩ | ⟨e0, e1, e2, _⟩ <;> rw [e0] at h0 h3 <;> rw [e1] at h1 h4 <;> rw [e2] at h2 h5 <;> rcases (by omega : i = 0 ∨ i = 1 ∨ i = 2 ∨ i = 3 ∨ i = 4 ∨ i = 5) with rfl | rfl | rfl | rfl | rfl | rfl <;> assumption
def pB (k : Nat) (t : Nat → Rat) : Rat := match k with | 0 => t 5 | 1 => -t 5 | _ => t 4
def pC (k : Nat) (t : Nat → Rat) : Rat := match k with | 0 => -t 4 | 1 => t 3 | _ => -t 3
theorem X0L {S : Sys} {k : Nat} (hk : S.ax k < 3) (t : Nat → Rat) (p : Tr) : hq S t k p = hgt (S.ax k) ((S.off k : Rat) - t (S.ax k)) (pB (S.ax k) t) (pC (S.ax k) t) p := by
 unfold hq
 obtain ⟨m0, m1, m2⟩ := Q0T t p
 generalize S.ax k = a at *
 rcases (by omega : a = 0 ∨ a = 1 ∨ a = 2) with rfl | rfl | rfl
 ·rw [m0]; simp only [hgt, cz, plc, ou, ov, pB, pC]; grind
 ·rw [m1]; simp only [hgt, cz, plc, ou, ov, pB, pC]; grind
 ·rw [m2]; simp only [hgt, cz, plc, ou, ov, pB, pC]; grind
theorem v1I {a : Nat → Nat} (h : Prm a) {t u : Nat → Rat} (hB : pB (a 0) t = pB (a 0) u) (hC : pC (a 0) t = pC (a 0) u) : t (3 + a 1) = u (3 + a 1) ∧ t (3 + a 2) = u (3 + a 2) := by
 rcases y0Z h with ⟨e0, e1, e2, _⟩ | ⟨e0, e1, e2, _⟩ | ⟨e0, e1, e2, _⟩ | ⟨e0, e1, e2, _⟩ | ⟨e0, e1, e2, _⟩ | ⟨e0, e1, e2, _⟩ <;> rw [e0] at hB hC <;> rw [e1, e2] <;> simp only [pB, pC, Nat.reduceAdd] at * <;> constructor <;> grind
theorem V0r {S : Sys} (hS : Prm S.ax) {t u : Nat → Rat} {a b c i j m : Tr} (hn : crs (plc (S.ax 0) a) (plc (S.ax 0) b) (plc (S.ax 0) c) ≠ 0) (hij : cz i (S.ax 2) ≠ cz j (S.ax 2))
  (ta : hq S t 0 a = 0) (tb : hq S t 0 b = 0) (tc : hq S t 0 c = 0) (ti : hq S t 1 i = 0) (tj : hq S t 1 j = 0) (tm : hq S t 2 m = 0)
  (ua : hq S u 0 a = 0) (ub : hq S u 0 b = 0) (uc : hq S u 0 c = 0) (ui : hq S u 1 i = 0) (uj : hq S u 1 j = 0) (um : hq S u 2 m = 0) : Eq6 t u := by
 have hk := hS.1
 rw [X0L hk] at ta tb tc ua ub uc
 obtain ⟨eA, eB, eC⟩ := z0x hn ta tb tc ua ub uc
 obtain ⟨w1, w2⟩ := v1I hS eB eC
 have s0 : sgA S.ax ≠ 0 := by unfold sgA; split <;> grind
 obtain ⟨_, mi, _⟩ := w0p hS t i
 obtain ⟨_, mj, _⟩ := w0p hS t j
 obtain ⟨_, ni, _⟩ := w0p hS u i
 obtain ⟨_, nj, _⟩ := w0p hS u j
 obtain ⟨_, _, mm⟩ := w0p hS t m
 obtain ⟨_, _, nm⟩ := w0p hS u m
 unfold hq at ti tj tm ui uj um
 rw [mi] at ti
 rw [mj] at tj
 rw [ni] at ui
 rw [nj] at uj
 rw [mm] at tm
 rw [nm] at um
 have cij : ((cz i (S.ax 2) : Int) : Rat) - (cz j (S.ax 2) : Rat) ≠ 0 := fun e => by
  have e2 : ((cz i (S.ax 2) : Int) : Rat) = (cz j (S.ax 2) : Rat) := by grind
  exact hij (by exact_mod_cast e2)
 have w0 : t (3 + S.ax 0) = u (3 + S.ax 0) := by
  have e : sgA S.ax * ((t (3 + S.ax 0) - u (3 + S.ax 0)) * ((cz i (S.ax 2) : Rat) - (cz j (S.ax 2) : Rat))) = 0 := by rw [w2] at ti tj; grind
  rcases Rat.mul_eq_zero.1 e with q | q
  ·exact absurd q s0
  ·rcases Rat.mul_eq_zero.1 q with q | q
   ·grind
   ·exact absurd q cij
 have t0 : t (S.ax 0) = u (S.ax 0) := by grind
 have t1 : t (S.ax 1) = u (S.ax 1) := by rw [w2, w0] at ti; grind
 have t2 : t (S.ax 2) = u (S.ax 2) := by rw [w0, w1] at tm; grind
 exact q1H hS t0 t1 t2 w0 w1 w2
theorem z1p {S : Sys} (hS : Prm S.ax) {t u : Nat → Rat} {a b c i j : Tr} (hn : crs (plc (S.ax 0) a) (plc (S.ax 0) b) (plc (S.ax 0) c) ≠ 0) (hij : cz i (S.ax 2) ≠ cz j (S.ax 2))
  (ta : hq S t 0 a = 0) (tb : hq S t 0 b = 0) (tc : hq S t 0 c = 0) (ti : hq S t 1 i = 0) (tj : hq S t 1 j = 0)
  (ua : hq S u 0 a = 0) (ub : hq S u 0 b = 0) (uc : hq S u 0 c = 0) (ui : hq S u 1 i = 0) (uj : hq S u 1 j = 0) : t (S.ax 0) = u (S.ax 0) ∧ t (S.ax 1) = u (S.ax 1) ∧ t (3 + S.ax 0) = u (3 + S.ax 0) ∧ t (3 + S.ax 1) = u (3 + S.ax 1) ∧ t (3 + S.ax 2) = u (3 + S.ax 2) := by
 have hk := hS.1
 rw [X0L hk] at ta tb tc ua ub uc
 obtain ⟨eA, eB, eC⟩ := z0x hn ta tb tc ua ub uc
 obtain ⟨w1, w2⟩ := v1I hS eB eC
 have s0 : sgA S.ax ≠ 0 := by unfold sgA; split <;> grind
 obtain ⟨_, mi, _⟩ := w0p hS t i
 obtain ⟨_, mj, _⟩ := w0p hS t j
 obtain ⟨_, ni, _⟩ := w0p hS u i
 obtain ⟨_, nj, _⟩ := w0p hS u j
 unfold hq at ti tj ui uj
 rw [mi] at ti
 rw [mj] at tj
 rw [ni] at ui
 rw [nj] at uj
 have cij : ((cz i (S.ax 2) : Int) : Rat) - (cz j (S.ax 2) : Rat) ≠ 0 := fun e => by
  have e2 : ((cz i (S.ax 2) : Int) : Rat) = (cz j (S.ax 2) : Rat) := by grind
  exact hij (by exact_mod_cast e2)
 have w0 : t (3 + S.ax 0) = u (3 + S.ax 0) := by
  have e : sgA S.ax * ((t (3 + S.ax 0) - u (3 + S.ax 0)) * ((cz i (S.ax 2) : Rat) - (cz j (S.ax 2) : Rat))) = 0 := by rw [w2] at ti tj; grind
  rcases Rat.mul_eq_zero.1 e with q | q
  ·exact absurd q s0
  ·rcases Rat.mul_eq_zero.1 q with q | q
   ·grind
   ·exact absurd q cij
 exact ⟨by grind, by rw [w2, w0] at ti; grind, w0, w1, w2⟩
def x0g (t : Nat → Rat) (s : Nat) (x : Rat) (r : Nat) (y : Rat) : Nat → Rat := fun i => if i = s then t i + x else if i = 3 + r then t i + y else t i
theorem X0W (t : Nat → Rat) {s r k : Nat} (x y : Rat) (hs : s < 3) (hr : r < 3) (hk : k < 3) (p : Tr) : mvQ (x0g t s x r y) p k = mvQ t p k + (if s = k then x else 0) + (frm k p (3 + r) : Rat) * y := by
 obtain ⟨m0, m1, m2⟩ := Q0T t p
 obtain ⟨n0, n1, n2⟩ := Q0T (x0g t s x r y) p
 rcases (by omega : k = 0 ∨ k = 1 ∨ k = 2) with rfl | rfl | rfl
 ·rw [m0, n0]
  rcases (by omega : s = 0 ∨ s = 1 ∨ s = 2) with rfl | rfl | rfl <;> rcases (by omega : r = 0 ∨ r = 1 ∨ r = 2) with rfl | rfl | rfl <;> simp [x0g, frm] <;> grind
 ·rw [m1, n1]
  rcases (by omega : s = 0 ∨ s = 1 ∨ s = 2) with rfl | rfl | rfl <;> rcases (by omega : r = 0 ∨ r = 1 ∨ r = 2) with rfl | rfl | rfl <;> simp [x0g, frm] <;> grind
 ·rw [m2, n2]
  rcases (by omega : s = 0 ∨ s = 1 ∨ s = 2) with rfl | rfl | rfl <;> rcases (by omega : r = 0 ∨ r = 1 ∨ r = 2) with rfl | rfl | rfl <;> simp [x0g, frm] <;> grind
theorem y1p {k : Nat} (hk : k < 3) (p : Tr) : frm k p (3 + k) = 0 := by
 rcases (by omega : k = 0 ∨ k = 1 ∨ k = 2) with rfl | rfl | rfl <;> rfl
def q0g (S : Sys) (p : Tr) : Int := frm (S.ax 1) p (3 + S.ax 0)
theorem j1R {S : Sys} (hS : Prm S.ax) (p : Tr) : (q0g S p : Rat) = -(sgA S.ax) * (cz p (S.ax 2) : Rat) := by
 unfold q0g
 rcases y0Z hS with ⟨e0, e1, e2, e3⟩ | ⟨e0, e1, e2, e3⟩ | ⟨e0, e1, e2, e3⟩ | ⟨e0, e1, e2, e3⟩ | ⟨e0, e1, e2, e3⟩ | ⟨e0, e1, e2, e3⟩ <;> rw [e0, e1, e2, e3] <;> simp [frm, cz] <;> grind
theorem Y0I {S : Sys} (hS : Prm S.ax) (p q : Tr) : q0g S p = q0g S q ↔ cz p (S.ax 2) = cz q (S.ax 2) := by
 have h1 := j1R hS p
 have h2 := j1R hS q
 have s0 : sgA S.ax = 1 ∨ sgA S.ax = -1 := by unfold sgA; split <;> simp
 constructor
 ·intro e
  rw [e] at h1
  have : (cz p (S.ax 2) : Rat) = (cz q (S.ax 2) : Rat) := by rcases s0 with s | s <;> rw [s] at h1 h2 <;> grind
  exact_mod_cast this
 ·intro e
  rw [e] at h1
  have : (q0g S p : Rat) = (q0g S q : Rat) := by grind
  exact_mod_cast this
def V0N (S : Sys) (t : Nat → Rat) (p q : Tr) : Rat := (hq S t 1 q - hq S t 1 p) / ((q0g S p : Rat) - (q0g S q : Rat))
def J1j (S : Sys) (t : Nat → Rat) (p q : Tr) : Rat := -((q0g S p : Rat) * V0N S t p q + hq S t 1 p)
def q0N (S : Sys) (t : Nat → Rat) (p q : Tr) : Nat → Rat := x0g t (S.ax 1) (J1j S t p q) (S.ax 0) (V0N S t p q)
theorem z0u {S : Sys} (hS : Prm S.ax) (t : Nat → Rat) (p q x : Tr) : hq S (q0N S t p q) 0 x = hq S t 0 x ∧ hq S (q0N S t p q) 1 x = hq S t 1 x + J1j S t p q + (q0g S x : Rat) * V0N S t p q := by
 obtain ⟨h0, h1, h2, h3, h4, h5⟩ := hS
 unfold hq q0N
 constructor
 ·rw [X0W t _ _ h1 h0 h0, if_neg (fun e => h3 e.symm), y1p h0]
  grind
 ·rw [X0W t _ _ h1 h0 h1, if_pos rfl]
  show _ + _ + (q0g S x : Rat) * _ - _ = _
  grind
theorem X0Q {S : Sys} (hS : Prm S.ax) (t : Nat → Rat) {p q : Tr} (h : q0g S p ≠ q0g S q) : hq S (q0N S t p q) 1 p = 0 ∧ hq S (q0N S t p q) 1 q = 0 := by
 rw [(z0u hS t p q p).2, (z0u hS t p q q).2]
 have hd : ((q0g S p : Int) : Rat) - (q0g S q : Rat) ≠ 0 := fun e => by
  have e2 : ((q0g S p : Int) : Rat) = (q0g S q : Rat) := by grind
  exact h (by exact_mod_cast e2)
 have ha : V0N S t p q * ((q0g S p : Rat) - (q0g S q : Rat)) = hq S t 1 q - hq S t 1 p := by
  unfold V0N
  rw [Rat.div_def, Rat.mul_assoc, Rat.inv_mul_cancel _ hd, Rat.mul_one]
 unfold J1j
 constructor <;> grind
def W1o (S : Sys) (t : Nat → Rat) (m : Rat) : Nat → Rat := x0g t (S.ax 2) (-m) (S.ax 2) 0
theorem Y0v {S : Sys} (hS : Prm S.ax) (t : Nat → Rat) (m : Rat) (x : Tr) : hq S (W1o S t m) 0 x = hq S t 0 x ∧ hq S (W1o S t m) 1 x = hq S t 1 x ∧ hq S (W1o S t m) 2 x = hq S t 2 x - m := by
 obtain ⟨h0, h1, h2, h3, h4, h5⟩ := hS
 unfold hq W1o
 refine ⟨?_, ?_, ?_⟩
 ·rw [X0W t _ _ h2 h2 h0, if_neg (fun e => h4 e.symm)]; grind
 ·rw [X0W t _ _ h2 h2 h1, if_neg (fun e => h5 e.symm)]; grind
 ·rw [X0W t _ _ h2 h2 h2, if_pos rfl]; grind
def Q0N (f : Nat → Rat) : Nat → Rat
 |0 => f 0
 |k + 1 => if f k < Q0N f k then f k else Q0N f k
theorem Q0q (f : Nat → Rat) : ∀ k, (∀ i, i < k → Q0N f k ≤ f i) ∧ Q0N f k ≤ f 0 ∧ (Q0N f k = f 0 ∨ ∃ i, i < k ∧ Q0N f k = f i)
 |0 => ⟨fun i hi => absurd hi (Nat.not_lt_zero i), Rat.le_refl, .inl rfl⟩
 |k + 1 => by
  obtain ⟨h1, h2, h3⟩ := Q0q f k
  unfold Q0N
  split
  ·rename_i h
   refine ⟨fun i hi => ?_, by grind, .inr ⟨k, by omega, rfl⟩⟩
   by_cases e : i = k
   ·subst e; exact Rat.le_refl
   ·have := h1 i zO; grind
  ·rename_i h
   refine ⟨fun i hi => ?_, h2, ?_⟩
   ·by_cases e : i = k
    ·subst e; grind
    ·exact h1 i zO
   ·rcases h3 with e | ⟨i, hi, e⟩
    ·exact .inl e
    ·exact .inr ⟨i, by omega, e⟩
def lwS (S : Sys) (t : Nat → Rat) (k : Nat) : Bool := (List.range (S.sp k).length).any fun i => decide (hq S t k (gt (S.sp k) i) < 0)
theorem y0t {S : Sys} {t : Nat → Rat} {k : Nat} : lwS S t k = false ↔ UpS S t k := by
 unfold lwS UpS
 rw [List.any_eq_false]
 constructor
 ·intro h i hi
  have := h i (List.mem_range.2 hi)
  simp only [decide_eq_true_eq] at this
  grind
 ·intro h i hi
  have := h i (List.mem_range.1 hi)
  simp only [decide_eq_true_eq]
  grind
def lnS (S : Sys) (t : Nat → Rat) (i k : Nat) : Option (Nat → Rat) := if q0g S (gt (S.sp 1) i) = q0g S (gt (S.sp 1) k) then none else if lwS S (q0N S t (gt (S.sp 1) i) (gt (S.sp 1) k)) 1 = true then none else some (q0N S t (gt (S.sp 1) i) (gt (S.sp 1) k))
def second (S : Sys) (t : Nat → Rat) : List (Nat → Rat) := (List.range (S.sp 1).length).flatMap fun i => (List.range i).filterMap fun k => lnS S t i k
def q0t (S : Sys) (t : Nat → Rat) : Nat → Rat := W1o S t (Q0N (fun i => hq S t 2 (gt (S.sp 2) i)) (S.sp 2).length)
def j0K (S : Sys) : List (Nat → Rat) := (j0W (S.sp 0) (S.ax 0)).map fun P => Q0O (S.ax 0) (S.off 0) P.A P.B P.C
def q0w (S : Sys) : List (Nat → Rat) := (j0K S).flatMap fun t => (second S t).map (q0t S)
theorem v0O {S : Sys} {t u : Nat → Rat} : u ∈ second S t ↔ ∃ i k, i < (S.sp 1).length ∧ k < i ∧ q0g S (gt (S.sp 1) i) ≠ q0g S (gt (S.sp 1) k) ∧ UpS S (q0N S t (gt (S.sp 1) i) (gt (S.sp 1) k)) 1 ∧ u = q0N S t (gt (S.sp 1) i) (gt (S.sp 1) k) := by
 unfold second
 simp only [List.mem_flatMap, List.mem_range, List.mem_filterMap]
 constructor
 ·rintro ⟨i, hi, k, hk, h⟩
  unfold lnS at h
  split at h
  ·cases h
  ·rename_i ha
   split at h
   ·cases h
   ·rename_i hl
    injection h with h
    exact ⟨i, k, hi, hk, ha, y0t.1 (by simpa using hl), h.symm⟩
 ·rintro ⟨i, k, hi, hk, ha, hl, h⟩
  refine ⟨i, hi, k, hk, ?_⟩
  unfold lnS
  rw [if_neg ha, if_neg (by rw [y0t.2 hl]; decide), h]
theorem z1l {S : Sys} (hS : Prm S.ax) (h0 : 0 < (S.sp 2).length) (t : Nat → Rat) : UpS S (q0t S t) 2 ∧ ∃ i, i ∈ onS S (q0t S t) 2 := by
 obtain ⟨h1, h2, h3⟩ := Q0q (fun i => hq S t 2 (gt (S.sp 2) i)) (S.sp 2).length
 unfold q0t
 refine ⟨fun i hi => ?_, ?_⟩
 ·rw [(Y0v hS _ _ _).2.2]
  have := h1 i hi
  grind
 ·obtain ⟨i, hi, e⟩ : ∃ i, i < (S.sp 2).length ∧ Q0N (fun i => hq S t 2 (gt (S.sp 2) i)) (S.sp 2).length = hq S t 2 (gt (S.sp 2) i) := by
   rcases h3 with e | ⟨i, hi, e⟩
   ·exact ⟨0, h0, e⟩
   ·exact ⟨i, hi, e⟩
  refine ⟨i, j0I.2 ⟨hi, ?_⟩⟩
  rw [(Y0v hS _ _ _).2.2, e]
  grind
theorem Y1p {S : Sys} {k : Nat} (hk : S.ax k < 3) (t : Nat → Rat) : onS S t k = onL (S.sp k) (S.ax k) ((S.off k : Rat) - t (S.ax k)) (pB (S.ax k) t) (pC (S.ax k) t) (S.sp k).length := by
 unfold onS onL
 congr 1
 funext i
 rw [X0L hk]
theorem W0k {S : Sys} (hk : S.ax 0 < 3) (A B C : Rat) (p : Tr) : hq S (Q0O (S.ax 0) (S.off 0) A B C) 0 p = hgt (S.ax 0) A B C p := by
 unfold hq mvQ
 rw [y1D hk]
 grind
theorem X0t {S : Sys} (hS : Prm S.ax) (h0 : 0 < (S.sp 2).length) {t : Nat → Rat} (h : t ∈ q0w S) : Tch S t := by
 unfold q0w j0K at h
 simp only [List.mem_flatMap, List.mem_map] at h
 obtain ⟨_, ⟨P, hP, rfl⟩, u, hu, rfl⟩ := h
 obtain ⟨i, k, hi, hk, ha, hl, rfl⟩ := v0O.1 hu
 have hk0 := hS.1
 obtain ⟨u2, o2⟩ := z1l hS h0 (q0N S (Q0O (S.ax 0) (S.off 0) P.A P.B P.C) (gt (S.sp 1) i) (gt (S.sp 1) k))
 have e0 : ∀ x, hq S (q0t S (q0N S (Q0O (S.ax 0) (S.off 0) P.A P.B P.C) (gt (S.sp 1) i) (gt (S.sp 1) k))) 0 x = hgt (S.ax 0) P.A P.B P.C x := fun x => by
  unfold q0t
  rw [(Y0v hS _ _ _).1, (z0u hS _ _ _ _).1, W0k hk0]
 have e1 : ∀ x, hq S (q0t S (q0N S (Q0O (S.ax 0) (S.off 0) P.A P.B P.C) (gt (S.sp 1) i) (gt (S.sp 1) k))) 1 x = hq S (q0N S (Q0O (S.ax 0) (S.off 0) P.A P.B P.C) (gt (S.sp 1) i) (gt (S.sp 1) k)) 1 x := fun x => by
  unfold q0t
  rw [(Y0v hS _ _ _).2.1]
 obtain ⟨z1, z2⟩ := X0Q hS (Q0O (S.ax 0) (S.off 0) P.A P.B P.C) ha
 refine ⟨⟨fun j hj => ?_, fun j hj => ?_, u2⟩, ?_, ⟨i, k, j0I.2 ⟨hi, ?_⟩, j0I.2 ⟨by omega, ?_⟩, fun e => ha ((Y0I hS _ _).2 e)⟩, o2⟩
 ·rw [e0]; exact Q1q (J0G hP) hj
 ·rw [e1]; exact hl j hj
 ·have e : onS S (q0t S (q0N S (Q0O (S.ax 0) (S.off 0) P.A P.B P.C) (gt (S.sp 1) i) (gt (S.sp 1) k))) 0 = P.s := by
   rw [(Y0L hk0 hP).1]
   unfold onS onL
   congr 1
   funext j
   rw [e0]
  rw [e]
  exact x1L hk0 hP
 ·rw [e1]; exact z1
 ·rw [e1]; exact z2
theorem J1z {l : List Tr} {k : Nat} {s : List Nat} (h : x0i (plP l k s) = false) : ∃ a b c, a ∈ s ∧ b ∈ s ∧ c ∈ s ∧ crs (plc k (gt l a)) (plc k (gt l b)) (plc k (gt l c)) ≠ 0 := by
 have hlen : (plP l k s).length = s.length := by unfold plP; rw [List.length_map]
 refine Classical.byContradiction fun hno => ?_
 have : x0i (plP l k s) = true := by
  unfold x0i
  simp only [List.all_eq_true, List.mem_range, decide_eq_true_eq]
  intro i hi j hj m hm
  rw [y0b (by omega), y0b (by omega), y0b (by omega)]
  have mem : ∀ x, x < s.length → gi s x ∈ s := fun x hx => by
   have : gi s x = s[x] := by unfold gi; simp [List.getD, hx]
   rw [this]; exact List.getElem_mem hx
  refine Classical.byContradiction fun hc => hno ⟨_, _, _, mem i zO, mem j zO, mem m zO, hc⟩
 rw [this] at h
 cases h
theorem w1W {S : Sys} (hS : Prm S.ax) {t : Nat → Rat} (h : Tch S t) : ∃ u, u ∈ q0w S ∧ Eq6 u t := by
 obtain ⟨⟨h0, h1, h2⟩, hs, ⟨i, k, hi, hk, hik⟩, m, hm⟩ := h
 have hk0 := hS.1
 have hP := q1h (l := S.sp 0) hk0 (A := (S.off 0 : Rat) - t (S.ax 0)) (B := pB (S.ax 0) t) (C := pC (S.ax 0) t) (k0o.1 fun j hj => by
  rw [k0C, ← X0L hk0]; exact h0 j hj) (by rw [← Y1p hk0]; exact hs)
 obtain ⟨a, b, c, ha, hb, hc, hn⟩ := J1z hs
 have key : ∀ i k, i ∈ onS S t 1 → k ∈ onS S t 1 → cz (gt (S.sp 1) i) (S.ax 2) ≠ cz (gt (S.sp 1) k) (S.ax 2) → k < i → ∃ u, u ∈ q0w S ∧ Eq6 u t := fun i k hi hk hik hlt => by
  have harm : q0g S (gt (S.sp 1) i) ≠ q0g S (gt (S.sp 1) k) := fun e => hik ((Y0I hS _ _).1 e)
  generalize hT1 : Q0O (S.ax 0) (S.off 0) ((S.off 0 : Rat) - t (S.ax 0)) (pB (S.ax 0) t) (pC (S.ax 0) t) = T1
  have q0 : ∀ x, hq S T1 0 x = hq S t 0 x := fun x => by rw [← hT1, W0k hk0, ← X0L hk0]
  obtain ⟨z1, z2⟩ := X0Q hS T1 harm
  have r0 : ∀ x, hq S (q0N S T1 (gt (S.sp 1) i) (gt (S.sp 1) k)) 0 x = hq S t 0 x := fun x => by rw [(z0u hS _ _ _ _).1, q0]
  obtain ⟨f0, f1, f2, f3, f4⟩ := z1p hS (t := q0N S T1 (gt (S.sp 1) i) (gt (S.sp 1) k)) (u := t) hn hik (by rw [r0]; exact (j0I.1 ha).2) (by rw [r0]; exact (j0I.1 hb).2) (by rw [r0]; exact (j0I.1 hc).2) z1 z2 (j0I.1 ha).2 (j0I.1 hb).2 (j0I.1 hc).2 (j0I.1 hi).2 (j0I.1 hk).2
  generalize hL : q0N S T1 (gt (S.sp 1) i) (gt (S.sp 1) k) = L at *
  have r1 : ∀ x, hq S L 1 x = hq S t 1 x := fun x => by
   unfold hq
   rw [(w0p hS L x).2.1, (w0p hS t x).2.1, f1, f2, f4]
  have r2 : ∀ x, hq S L 2 x = hq S t 2 x + (L (S.ax 2) - t (S.ax 2)) := fun x => by
   unfold hq
   rw [(w0p hS L x).2.2, (w0p hS t x).2.2, f2, f3]
   grind
  have hmin : Q0N (fun i => hq S L 2 (gt (S.sp 2) i)) (S.sp 2).length = L (S.ax 2) - t (S.ax 2) := by
   obtain ⟨m1, m2, m3⟩ := Q0q (fun i => hq S L 2 (gt (S.sp 2) i)) (S.sp 2).length
   obtain ⟨hml, hmz⟩ := j0I.1 hm
   have g1 := m1 m hml
   rw [r2, hmz] at g1
   obtain ⟨j, hj, e⟩ : ∃ j, j < (S.sp 2).length ∧ Q0N (fun i => hq S L 2 (gt (S.sp 2) i)) (S.sp 2).length = hq S L 2 (gt (S.sp 2) j) := by
    rcases m3 with e | ⟨j, hj, e⟩
    ·exact ⟨0, by omega, e⟩
    ·exact ⟨j, hj, e⟩
   have g2 := h2 j hj
   rw [r2] at e
   grind
  refine ⟨q0t S L, ?_, ?_⟩
  ·unfold q0w j0K
   simp only [List.mem_flatMap, List.mem_map]
   refine ⟨T1, ⟨_, hP, hT1⟩, L, v0O.2 ⟨i, k, (j0I.1 hi).1, hlt, harm, ?_, hL.symm⟩, rfl⟩
   rw [hL]
   intro j hj
   rw [r1]; exact h1 j hj
  ·unfold q0t W1o
   rw [hmin]
   obtain ⟨p0, p1, p2, p3, p4, p5⟩ := hS
   refine q1H ⟨p0, p1, p2, p3, p4, p5⟩ ?_ ?_ ?_ ?_ ?_ ?_ <;> unfold x0g
   ·rw [if_neg p4, if_neg (by omega)]; exact f0
   ·rw [if_neg p5, if_neg (by omega)]; exact f1
   ·rw [if_pos rfl]; grind
   ·rw [if_neg (by omega), if_neg (by omega)]; exact f2
   ·rw [if_neg (by omega), if_neg (by omega)]; exact f3
   ·rw [if_neg (by omega), if_pos rfl, f4]; grind
 rcases (by omega : k < i ∨ i < k ∨ i = k) with q | q | q
 ·exact key i k hi hk hik q
 ·exact key k i hk hi (fun e => hik e.symm) q
 ·exact absurd (by rw [q]) hik
structure Tor where
 a : Rat
 b : Rat
 c : Rat
 d : Rat
 e : Rat
 f : Rat
deriving DecidableEq
def Tor.n (x : Tor) : Nat → Rat
 |0 => x.a
 |1 => x.b
 |2 => x.c
 |3 => x.d
 |4 => x.e
 |5 => x.f
 |_ => 0
def mkT (t : Nat → Rat) : Tor := ⟨t 0, t 1, t 2, t 3, t 4, t 5⟩
theorem y1B (x : Tor) : mkT x.n = x := rfl
theorem y0T (t : Nat → Rat) : Eq6 (mkT t).n t := fun i hi => by
 rcases (by omega : i = 0 ∨ i = 1 ∨ i = 2 ∨ i = 3 ∨ i = 4 ∨ i = 5) with rfl | rfl | rfl | rfl | rfl | rfl <;> rfl
theorem v1r {t u : Nat → Rat} : mkT t = mkT u ↔ Eq6 t u := by
 constructor
 ·intro h i hi
  rw [← y0T t i hi, ← y0T u i hi, h]
 ·intro h
  unfold mkT
  rw [h 0 (by omega), h 1 (by omega), h 2 (by omega), h 3 (by omega), h 4 (by omega), h 5 (by omega)]
def ltO (x y : Tor) : Prop := x.a < y.a ∨ x.a = y.a ∧ (x.b < y.b ∨ x.b = y.b ∧ (x.c < y.c ∨ x.c = y.c ∧ (x.d < y.d ∨ x.d = y.d ∧ (x.e < y.e ∨ x.e = y.e ∧ x.f < y.f))))
instance (x y : Tor) : Decidable (ltO x y) := by unfold ltO; infer_instance
theorem V0F (x : Tor) : ¬ ltO x x := by unfold ltO; grind
theorem X0R {a b c : Rat} {P Q R : Prop} (f : P → Q → R) (h : a < b ∨ a = b ∧ P) (k : b < c ∨ b = c ∧ Q) : a < c ∨ a = c ∧ R := by
 rcases h with h | ⟨e, p⟩ <;> rcases k with k | ⟨e', q⟩
 ·left; grind
 ·left; grind
 ·left; grind
 ·exact .inr ⟨e.trans e', f p q⟩
theorem J1m {x y z : Tor} (h : ltO x y) (k : ltO y z) : ltO x z := X0R (fun h k => X0R (fun h k => X0R (fun h k => X0R (fun h k => X0R (fun h k => by grind) h k) h k) h k) h k) h k
theorem V1g (x y : Tor) : ltO x y ∨ x = y ∨ ltO y x := by
 cases x; cases y
 simp only [ltO, Tor.mk.injEq]
 grind
theorem X0A {x y : Tor} (h : ltO x y) : x ≠ y := fun e => V0F y (by rw [e] at h; exact h)
theorem q1I {x y : Tor} (h : ∀ j, j < 6 → x.n j = y.n j) : x = y := by
 rw [← y1B x, ← y1B y]
 exact v1r.2 h
def Q0w (p : Tor) : List Tor → List Tor
 |[] => [p]
 |q :: L => if ltO q p then q :: Q0w p L else if q = p then q :: L else p :: q :: L
def j1I (L : List Tor) : Prop := L.Pairwise ltO
theorem W0C {p r : Tor} : ∀ {L : List Tor}, r ∈ Q0w p L ↔ r = p ∨ r ∈ L
 |[] => by simp [Q0w]
 |q :: L => by
  unfold Q0w
  split
  ·rw [List.mem_cons, W0C, List.mem_cons]; grind
  ·split
   ·rename_i e; subst e; simp
   ·simp
theorem k0W {p : Tor} : ∀ {L : List Tor}, j1I L → j1I (Q0w p L)
 |[], _ => by simp [Q0w, j1I]
 |q :: L, h => by
  obtain ⟨h1, h2⟩ := List.pairwise_cons.1 h
  unfold Q0w
  split
  ·rename_i hq
   refine List.pairwise_cons.2 ⟨fun r hr => ?_, k0W h2⟩
   rcases W0C.1 hr with e | e
   ·subst e; exact hq
   ·exact h1 r e
  ·split
   ·exact h
   ·rename_i hq he
    have hpq : ltO p q := by
     rcases V1g p q with e | e | e
     ·exact e
     ·exact absurd e.symm he
     ·exact absurd e hq
    refine List.pairwise_cons.2 ⟨fun r hr => ?_, h⟩
    rcases List.mem_cons.1 hr with e | e
    ·subst e; exact hpq
    ·exact J1m hpq (h1 r e)
def Z0z (L : List Tor) : List Tor := L.foldl (fun a p => Q0w p a) []
theorem K0h : ∀ {L a : List Tor}, j1I a → j1I (L.foldl (fun a p => Q0w p a) a) ∧ ∀ r, r ∈ L.foldl (fun a p => Q0w p a) a ↔ r ∈ L ∨ r ∈ a
 |[], a, ha => ⟨ha, fun r => by simp⟩
 |p :: L, a, ha => by
  obtain ⟨h1, h2⟩ := K0h (L := L) (a := Q0w p a) (k0W ha)
  refine ⟨h1, fun r => ?_⟩
  rw [List.foldl_cons, h2, W0C, List.mem_cons]
  grind
theorem w0t (L : List Tor) : j1I (Z0z L) ∧ ∀ r, r ∈ Z0z L ↔ r ∈ L := by
 obtain ⟨h1, h2⟩ := K0h (L := L) (a := []) List.Pairwise.nil
 exact ⟨h1, fun r => by unfold Z0z; rw [h2]; simp⟩
theorem k0X {p : Tor} : ∀ {L : List Tor}, (Q0w p L).length ≤ L.length + 1
 |[] => by simp [Q0w]
 |q :: L => by
  unfold Q0w
  split
  ·have := k0X (p := p) (L := L); simp only [List.length_cons]; omega
  ·split <;> simp
def y0x (p : Tor) : List Tor → Nat
 |[] => 0
 |q :: L => if ltO q p then y0x p L + 1 else 0
theorem J0M (p : Tor) : ∀ L : List Tor, y0x p L ≤ L.length
 |[] => Nat.le_refl _
 |q :: L => by
  have := J0M p L
  unfold y0x
  split <;> simp only [List.length_cons] <;> omega
theorem W0B {p : Tor} : ∀ {L : List Tor}, Q0w p L = if L[y0x p L]? = some p then L else L.take (y0x p L) ++ p :: L.drop (y0x p L)
 |[] => by simp [Q0w, y0x]
 |q :: L => by
  unfold Q0w y0x
  split
  ·rw [W0B (L := L)]
   simp only [List.getElem?_cons_succ, List.take_succ_cons, List.drop_succ_cons]
   split <;> simp
  ·simp only [List.getElem?_cons_zero, List.take_zero, List.drop_zero, List.nil_append, Option.some.injEq]
theorem z1M {p : Tor} : ∀ {L : List Tor}, j1I L → ∀ i (h : i < L.length), ltO L[i] p ↔ i < y0x p L
 |[], _, i, h => absurd h (Nat.not_lt_zero i)
 |q :: L, hL, i, h => by
  obtain ⟨h1, h2⟩ := List.pairwise_cons.1 hL
  unfold y0x
  split
  ·rename_i hq
   match i, h with
   |0, _ => simp [hq]
   |i + 1, h =>
    have := z1M (p := p) h2 i (by simpa using h)
    simp only [List.getElem_cons_succ]
    rw [this]; omega
  ·rename_i hq
   match i, h with
   |0, _ => simp [hq]
   |i + 1, h =>
    simp only [List.getElem_cons_succ]
    constructor
    ·intro hlt
     exact absurd (J1m (h1 _ (List.getElem_mem _)) hlt) hq
    ·omega
def j0M (S : Sys) : List Tor := Z0z ((q0w S).map mkT)
theorem J0u {S : Sys} (hS : Prm S.ax) (h0 : 0 < (S.sp 2).length) {x : Tor} : x ∈ j0M S ↔ Tch S x.n := by
 unfold j0M
 rw [(w0t _).2, List.mem_map]
 constructor
 ·rintro ⟨t, ht, rfl⟩
  exact (y0T t).symm.tch (X0t hS h0 ht)
 ·intro h
  obtain ⟨u, hu, e⟩ := w1W hS h
  exact ⟨u, hu, (v1r.2 e).trans (y1B x)⟩
theorem j1Y (x y : Nat → Rat) (n : Nat) (h : ∃ i j, i < n ∧ j < n ∧ x i ≠ x j) : ∃ i k, i < n ∧ k < n ∧ x i ≠ x k ∧ ∀ j, j < n → 0 ≤ (y j - y i) * ((x k - x i) * (x k - x i)) - (y k - y i) * ((x j - x i) * (x k - x i)) := by
 obtain ⟨a, b, ha, hb, hab⟩ := h
 obtain ⟨i0, h0, _, hx⟩ := k0f (p := fun _ => True) x n ⟨a, ha, trivial⟩
 obtain ⟨i, hi, hxi, hy⟩ := k0f (p := fun j => x j = x i0) y n ⟨i0, h0, rfl⟩
 have hxm : ∀ j, j < n → x i ≤ x j := fun j hj => by rw [hxi]; exact hx j hj trivial
 have hex : ∃ k, k < n ∧ x i < x k := by
  by_cases e : x a = x i
  ·refine ⟨b, hb, ?_⟩
   have := hxm b hb
   grind
  ·refine ⟨a, ha, ?_⟩
   have := hxm a ha
   grind
 obtain ⟨k, hk, hxk, hs⟩ := k0f (p := fun j => x i < x j) (fun j => (y j - y i) / (x j - x i)) n hex
 refine ⟨i, k, hi, hk, by grind, fun j hj => ?_⟩
 have hd : 0 < x k - x i := by grind
 rcases (by have := hxm j hj; grind : x j = x i ∨ x i < x j) with q | q
 ·have h1 := hy j hj (q.trans hxi)
  rw [q]
  have h2 : 0 ≤ y j - y i := by grind
  have h3 := Rat.mul_nonneg h2 (Rat.mul_nonneg (Rat.le_of_lt hd) (Rat.le_of_lt hd))
  grind
 ·have h1 := hs j hj q
  have hdj : 0 < x j - x i := by grind
  have e1 : (y k - y i) / (x k - x i) * (x k - x i) = y k - y i := by rw [Rat.div_def, Rat.mul_assoc, Rat.inv_mul_cancel _ (by grind), Rat.mul_one]
  have e2 : (y j - y i) / (x j - x i) * (x j - x i) = y j - y i := by rw [Rat.div_def, Rat.mul_assoc, Rat.inv_mul_cancel _ (by grind), Rat.mul_one]
  have hp : 0 ≤ (x j - x i) * (x k - x i) := Rat.mul_nonneg (Rat.le_of_lt hdj) (Rat.le_of_lt hd)
  have h2 := Rat.mul_le_mul_of_nonneg_right h1 hp
  have h3 := Rat.mul_le_mul_of_nonneg_right h2 (Rat.le_of_lt hd)
  generalize (y k - y i) / (x k - x i) = u at *
  generalize (y j - y i) / (x j - x i) = v at *
  have g1 : u * ((x j - x i) * (x k - x i)) * (x k - x i) = (y k - y i) * ((x j - x i) * (x k - x i)) := by rw [← e1]; grind
  have g2 : v * ((x j - x i) * (x k - x i)) * (x k - x i) = (y j - y i) * ((x k - x i) * (x k - x i)) := by rw [← e2]; grind
  rw [g1, g2] at h3
  grind
def Z1R (S : Sys) : Prop := ∃ i j, i < (S.sp 1).length ∧ j < (S.sp 1).length ∧ cz (gt (S.sp 1) i) (S.ax 2) ≠ cz (gt (S.sp 1) j) (S.ax 2)
theorem k0v {S : Sys} (hS : Prm S.ax) (h : Z1R S) (t : Nat → Rat) : ∃ u, u ∈ second S t := by
 obtain ⟨i, j, hi, hj, hij⟩ := h
 obtain ⟨i, k, hi, hk, hne, hall⟩ := j1Y (fun i => (q0g S (gt (S.sp 1) i) : Rat)) (fun i => hq S t 1 (gt (S.sp 1) i)) (S.sp 1).length ⟨i, j, hi, hj, fun e => hij ((Y0I hS _ _).1 (by exact_mod_cast e))⟩
 have harm : q0g S (gt (S.sp 1) i) ≠ q0g S (gt (S.sp 1) k) := fun e => hne (by show ((q0g S (gt (S.sp 1) i) : Int) : Rat) = _; rw [e])
 have up : ∀ i k, q0g S (gt (S.sp 1) i) ≠ q0g S (gt (S.sp 1) k) → (∀ j, j < (S.sp 1).length → 0 ≤ (hq S t 1 (gt (S.sp 1) j) - hq S t 1 (gt (S.sp 1) i)) * (((q0g S (gt (S.sp 1) k) : Rat) - (q0g S (gt (S.sp 1) i) : Rat)) * ((q0g S (gt (S.sp 1) k) : Rat) - (q0g S (gt (S.sp 1) i) : Rat))) - (hq S t 1 (gt (S.sp 1) k) - hq S t 1 (gt (S.sp 1) i)) * (((q0g S (gt (S.sp 1) j) : Rat) - (q0g S (gt (S.sp 1) i) : Rat)) * ((q0g S (gt (S.sp 1) k) : Rat) - (q0g S (gt (S.sp 1) i) : Rat)))) → UpS S (q0N S t (gt (S.sp 1) i) (gt (S.sp 1) k)) 1 := fun i k ha hl j hj => by
  rw [(z0u hS _ _ _ _).2]
  have g := hl j hj
  have hd : ((q0g S (gt (S.sp 1) i) : Int) : Rat) - (q0g S (gt (S.sp 1) k) : Rat) ≠ 0 := fun e => by
   have e2 : ((q0g S (gt (S.sp 1) i) : Int) : Rat) = (q0g S (gt (S.sp 1) k) : Rat) := by grind
   exact ha (by exact_mod_cast e2)
  have hA : V0N S t (gt (S.sp 1) i) (gt (S.sp 1) k) * ((q0g S (gt (S.sp 1) i) : Rat) - (q0g S (gt (S.sp 1) k) : Rat)) = hq S t 1 (gt (S.sp 1) k) - hq S t 1 (gt (S.sp 1) i) := by
   unfold V0N
   rw [Rat.div_def, Rat.mul_assoc, Rat.inv_mul_cancel _ hd, Rat.mul_one]
  unfold J1j
  generalize V0N S t (gt (S.sp 1) i) (gt (S.sp 1) k) = w at *
  generalize hq S t 1 (gt (S.sp 1) j) = yj at *
  generalize hq S t 1 (gt (S.sp 1) i) = yi at *
  generalize hq S t 1 (gt (S.sp 1) k) = yk at *
  generalize ((q0g S (gt (S.sp 1) i) : Int) : Rat) = xi at *
  generalize ((q0g S (gt (S.sp 1) k) : Int) : Rat) = xk at *
  generalize ((q0g S (gt (S.sp 1) j) : Int) : Rat) = xj at *
  have hpos : 0 < (xk - xi) * (xk - xi) := by
   rcases (by grind : 0 < xk - xi ∨ 0 < xi - xk) with q | q
   ·exact Rat.mul_pos q q
   ·have := Rat.mul_pos q q; grind
  refine Rat.not_lt.1 fun hlt => ?_
  have h1 : (yj + -(xi * w + yi) + xj * w) * ((xk - xi) * (xk - xi)) < 0 := by
   have := Rat.mul_lt_mul_of_pos_right hlt hpos
   grind
  have e : (yj + -(xi * w + yi) + xj * w) * ((xk - xi) * (xk - xi)) = (yj - yi) * ((xk - xi) * (xk - xi)) - (yk - yi) * ((xj - xi) * (xk - xi)) := by
   rw [← hA]; grind
  grind
 rcases (by omega : k < i ∨ i < k ∨ i = k) with q | q | q
 ·exact ⟨_, v0O.2 ⟨i, k, hi, q, harm, up i k harm hall, rfl⟩⟩
 ·refine ⟨_, v0O.2 ⟨k, i, hk, q, fun e => harm e.symm, up k i (fun e => harm e.symm) fun j hj => ?_, rfl⟩⟩
  have := hall j hj
  grind
 ·exact absurd (by rw [q]) harm
theorem k0N {S : Sys} (hS : Prm S.ax) {P : Pl} (hP : P ∈ j0W (S.sp 0) (S.ax 0)) {u : Nat → Rat} (hu : u ∈ second S (Q0O (S.ax 0) (S.off 0) P.A P.B P.C)) : onS S (q0t S u) 0 = P.s := by
 obtain ⟨i, k, _, _, _, _, rfl⟩ := v0O.1 hu
 rw [(Y0L hS.1 hP).1]
 unfold onS onL
 congr 1
 funext j
 unfold q0t
 rw [(Y0v hS _ _ _).1, (z0u hS _ _ _ _).1, W0k hS.1]
theorem q1j {S : Sys} (hS : Prm S.ax) {x : Tor} (hx : x ∈ j0M S) : ∃ P, P ∈ j0W (S.sp 0) (S.ax 0) ∧ P.s = onS S x.n 0 := by
 unfold j0M at hx
 rw [(w0t _).2, List.mem_map] at hx
 obtain ⟨t, ht, rfl⟩ := hx
 unfold q0w j0K at ht
 simp only [List.mem_flatMap, List.mem_map] at ht
 obtain ⟨_, ⟨P, hP, rfl⟩, u, hu, rfl⟩ := ht
 exact ⟨P, hP, by rw [(y0T _).on, k0N hS hP hu]⟩
theorem K0g {S : Sys} (hS : Prm S.ax) (h2 : Z1R S) {P : Pl} (hP : P ∈ j0W (S.sp 0) (S.ax 0)) : ∃ x, x ∈ j0M S ∧ onS S x.n 0 = P.s := by
 obtain ⟨u, hu⟩ := k0v hS h2 (Q0O (S.ax 0) (S.off 0) P.A P.B P.C)
 refine ⟨mkT (q0t S u), ?_, by rw [(y0T _).on, k0N hS hP hu]⟩
 unfold j0M
 rw [(w0t _).2, List.mem_map]
 refine ⟨q0t S u, ?_, rfl⟩
 unfold q0w j0K
 simp only [List.mem_flatMap, List.mem_map]
 exact ⟨_, ⟨P, hP, rfl⟩, u, hu, rfl⟩
theorem K0D {S : Sys} (hS : Prm S.ax) (hR : RT (S.sp 0)) (hs : x0i (x0j (S.sp 0) (S.ax 0)) = false) (h2 : Z1R S) : ∃ x, x ∈ j0M S := by
 have h := k0S hS.1 hR hs
 obtain ⟨P, hP⟩ := List.exists_mem_of_ne_nil _ h
 obtain ⟨x, hx, _⟩ := K0g hS h2 hP
 exact ⟨x, hx⟩
end Go.Proofs.YtfggdokihnopeaaGreatDoor.H
namespace Go.Proofs.YtfggdokihnopeaaGreatDoor.H
open Go Go.Vc Go.RowKit Go.Na
def CD (d : Int) (X : Nat) (q : Rat) : Prop := ∃ x : Int, q * (d : Rat) = (x : Rat) ∧ x.natAbs ≤ X
theorem Q1s {d : Int} (h : d ≠ 0) : (d : Rat) ≠ 0 := fun e => h (by exact Rat.intCast_inj.1 (e.trans Rat.intCast_zero.symm))
theorem CD.lr {d : Int} {X : Nat} {q : Rat} {k : Nat} (h : CD d X q) (h0 : d ≠ 0) (hX : X < 10 ^ k) (hd : d.natAbs < 10 ^ k) : LR k q := by
 obtain ⟨x, e, h1⟩ := h
 have hd' := Q1s h0
 have e2 : q = Rat.divInt x d := by
  rw [v0R, ← e]
  grind
 rw [e2]
 exact v0Q h0 (show x.natAbs < 10 ^ k from Nat.lt_of_le_of_lt h1 hX) hd
theorem CD.mono {d : Int} {X Y : Nat} {q : Rat} (h : CD d X q) (hl : X ≤ Y) : CD d Y q := by
 obtain ⟨x, e, h1⟩ := h
 exact ⟨x, e, Nat.le_trans h1 hl⟩
theorem CD.add {d : Int} {X Y : Nat} {q r : Rat} (h : CD d X q) (h' : CD d Y r) : CD d (X + Y) (q + r) := by
 obtain ⟨x, e, h1⟩ := h
 obtain ⟨y, e', h2⟩ := h'
 exact ⟨x + y, by rw [Rat.intCast_add]; grind, Nat.le_trans (Int.natAbs_add_le x y) (Nat.add_le_add h1 h2)⟩
theorem CD.neg {d : Int} {X : Nat} {q : Rat} (h : CD d X q) : CD d X (-q) := by
 obtain ⟨x, e, h1⟩ := h
 exact ⟨-x, by rw [Rat.intCast_neg]; grind, by omega⟩
theorem CD.sub {d : Int} {X Y : Nat} {q r : Rat} (h : CD d X q) (h' : CD d Y r) : CD d (X + Y) (q - r) := by
 rw [Rat.sub_eq_add_neg]
 exact h.add h'.neg
theorem CD.mulI {d : Int} {X C : Nat} {q : Rat} (h : CD d X q) {c : Int} (hc : c.natAbs ≤ C) : CD d (C * X) ((c : Rat) * q) := by
 obtain ⟨x, e, h1⟩ := h
 exact ⟨c * x, by rw [Rat.intCast_mul]; grind, by rw [Int.natAbs_mul]; exact Nat.mul_le_mul hc h1⟩
theorem CD.int {d : Int} {D C : Nat} (hd : d.natAbs ≤ D) {c : Int} (hc : c.natAbs ≤ C) : CD d (C * D) (c : Rat) :=
 ⟨c * d, by rw [Rat.intCast_mul], by rw [Int.natAbs_mul]; exact Nat.mul_le_mul hc hd⟩
theorem CD.scale {d : Int} {X M : Nat} {q : Rat} (h : CD d X q) {m : Int} (hm : m.natAbs ≤ M) : CD (d * m) (X * M) q := by
 obtain ⟨x, e, h1⟩ := h
 exact ⟨x * m, by rw [Rat.intCast_mul, Rat.intCast_mul]; grind, by rw [Int.natAbs_mul]; exact Nat.mul_le_mul h1 hm⟩
theorem CD.div {d : Int} {X : Nat} {q : Rat} (h : CD d X q) {m : Int} (hm : m ≠ 0) : CD (d * m) X (q / (m : Rat)) := by
 obtain ⟨x, e, h1⟩ := h
 have hm' := Q1s hm
 exact ⟨x, by rw [Rat.intCast_mul, ← e]; grind, h1⟩
def CT (d : Int) (X : Nat) (t : Nat → Rat) : Prop := ∀ i, CD d X (t i)
theorem CT.mv {d : Int} {X D : Nat} {t : Nat → Rat} (h : CT d X t) (hd : d.natAbs ≤ D) {p : Tr} (hp : BT 2000 p) {k : Nat} (hk : k < 3) : CD d (2000 * D + 4001 * X) (mvQ t p k) := by
 have hx := hp.x
 have hy := hp.y
 have hz := hp.z
 have e := Q0T t p
 have key : ∀ (c a b : Int) (i j m : Nat), -2000 ≤ c → c ≤ 2000 → -2000 ≤ a → a ≤ 2000 → -2000 ≤ b → b ≤ 2000 → CD d (2000 * D + 4001 * X) ((c : Rat) + t i + (t j * (a : Rat) - t m * (b : Rat))) := fun c a b i j m h1 h2 h3 h4 h5 h6 => by
  have q1 := (CD.int (C := 2000) hd (c := c) zO).add (h i)
  have q2 := ((h j).mulI (C := 2000) (c := a) zO).sub ((h m).mulI (C := 2000) (c := b) zO)
  rw [Rat.mul_comm (t j), Rat.mul_comm (t m)]
  exact (q1.add q2).mono zO
 rcases (by omega : k = 0 ∨ k = 1 ∨ k = 2) with rfl | rfl | rfl
 ·rw [e.1]; exact key _ _ _ _ _ _ hx.1 hx.2 hz.1 hz.2 hy.1 hy.2
 ·rw [e.2.1]; exact key _ _ _ _ _ _ hy.1 hy.2 hx.1 hx.2 hz.1 hz.2
 ·rw [e.2.2]; exact key _ _ _ _ _ _ hz.1 hz.2 hy.1 hy.2 hx.1 hx.2
structure SmS (S : Sys) : Prop where
 pr : Prm S.ax
 off : ∀ k, (S.off k).natAbs ≤ 100000
 sp : ∀ k i, BT 2000 (gt (S.sp k) i)
theorem SmS.ax {S : Sys} (h : SmS S) {k : Nat} (hk : k < 3) : S.ax k < 3 := by
 obtain ⟨h0, h1, h2, _⟩ := h.pr
 rcases (by omega : k = 0 ∨ k = 1 ∨ k = 2) with rfl | rfl | rfl <;> assumption
theorem CT.hq {S : Sys} (hS : SmS S) {d : Int} {X D : Nat} {t : Nat → Rat} (h : CT d X t) (hd : d.natAbs ≤ D) {p : Tr} (hp : BT 2000 p) {k : Nat} (hk : k < 3) : CD d (102000 * D + 4001 * X) (hq S t k p) := by
 unfold H.hq
 exact ((h.mv hd hp (hS.ax hk)).sub (CD.int hd (hS.off k))).mono zO
theorem SmS.rt {S : Sys} (hS : SmS S) (k : Nat) : RT (S.sp k) := fun i => let h := hS.sp k i; ⟨⟨by have := h.x; omega, by have := h.x; omega⟩, ⟨by have := h.y; omega, by have := h.y; omega⟩, ⟨by have := h.z; omega, by have := h.z; omega⟩⟩
theorem J0I {n d : Int} (h0 : d ≠ 0) {X : Nat} (hn : n.natAbs ≤ X) : CD d X (Rat.divInt n d) := by
 refine ⟨n, ?_, hn⟩
 rw [v0R]
 have := Q1s h0
 grind
theorem j1z {k : Nat} {o : Int} {A B C : Rat} (Q : Rat → Prop) (h0 : Q 0) (h1 : Q ((o : Rat) - A)) (h2 : Q B) (h3 : Q (-B)) (h4 : Q C) (h5 : Q (-C)) (i : Nat) : Q (Q0O k o A B C i) := by
 unfold Q0O
 split <;> (dsimp only; split <;> assumption)
theorem W0j {S : Sys} (hS : SmS S) {t : Nat → Rat} (h : t ∈ j0K S) : ∃ d : Int, d ≠ 0 ∧ d.natAbs ≤ 80000000000 ∧ CT d 10000000000000000 t := by
 obtain ⟨P, hP, rfl⟩ := List.mem_map.1 h
 obtain ⟨a, b, c, hz, eA, eB, eC⟩ := w1Z (J0G hP)
 have hn := BT.np (hS.rt 0) (S.ax 0) a b c
 have h4 : cz (nP (S.sp 0) (S.ax 0) a b c) (S.ax 0) ≠ 0 := by have := x0M (k := S.ax 0) (n := nvP (gt (S.sp 0) a) (gt (S.sp 0) b) (gt (S.sp 0) c)) hz; unfold nP; omega
 have n0 := hn.cz (S.ax 0)
 have n1 := hn.cz (ou (S.ax 0))
 have n2 := hn.cz (ov (S.ax 0))
 have ho := hS.off 0
 refine ⟨cz (nP (S.sp 0) (S.ax 0) a b c) (S.ax 0), h4, by omega, fun i => ?_⟩
 have hm : (mP (S.sp 0) (S.ax 0) a b c).natAbs ≤ 480000000000000 := by
  have hp := hS.sp 0 a
  have := hn.x; have := hn.y; have := hn.z; have := hp.x; have := hp.y; have := hp.z
  unfold mP w0z
  generalize nP (S.sp 0) (S.ax 0) a b c = n at *
  generalize gt (S.sp 0) a = p at *
  have key : ∀ x y : Int, -80000000000 ≤ x → x ≤ 80000000000 → -2000 ≤ y → y ≤ 2000 → (x * y).natAbs ≤ 160000000000000 := fun x y h1 h2 h3 h4 => by
   rw [Int.natAbs_mul]
   exact Nat.le_trans (Nat.mul_le_mul (show x.natAbs ≤ 80000000000 by omega) (show y.natAbs ≤ 2000 by omega)) zE
  have k1 := key n.x p.x zO zO zO zO
  have k2 := key n.y p.y zO zO zO zO
  have k3 := key n.z p.z zO zO zO zO
  omega
 obtain ⟨d, hd⟩ : ∃ d, d = cz (nP (S.sp 0) (S.ax 0) a b c) (S.ax 0) := ⟨_, rfl⟩
 rw [← hd] at h4 n0 ⊢
 have cA : CD d 480000000000000 P.A := by rw [eA]; unfold aP; rw [← hd]; exact J0I h4 hm
 have cB : CD d 80000000000 P.B := by rw [eB]; unfold bP; rw [← hd]; exact J0I h4 (by omega)
 have cC : CD d 80000000000 P.C := by rw [eC]; unfold cP; rw [← hd]; exact J0I h4 (by omega)
 have cO := CD.int (C := 100000) (D := 80000000000) (d := d) zO ho
 exact j1z (CD d 10000000000000000) (by rw [← Rat.intCast_zero]; exact (CD.int (C := 0) (D := 80000000000) (by omega) (by decide)).mono (by decide)) ((cO.sub cA).mono (by decide)) (cB.mono (by decide)) (cB.neg.mono (by decide)) (cC.mono (by decide)) (cC.neg.mono (by decide)) i
theorem Z0O {S : Sys} (hS : SmS S) {p : Tr} (hp : BT 2000 p) : (q0g S p).natAbs ≤ 2000 := by
 have h1 := j1R hS.pr p
 have h2 := hp.cz (S.ax 2)
 unfold sgA at h1
 split at h1
 ·have : q0g S p = -cz p (S.ax 2) := Rat.intCast_inj.1 (by rw [h1, Rat.intCast_neg]; grind)
  omega
 ·have : q0g S p = cz p (S.ax 2) := Rat.intCast_inj.1 (by rw [h1]; grind)
  omega
theorem j1N {d : Int} {X Y : Nat} {t : Nat → Rat} (h : CT d X t) {s r : Nat} {x y : Rat} (hx : CD d Y x) (hy : CD d Y y) : CT d (X + Y) (x0g t s x r y) := fun i => by
 unfold x0g
 split
 ·exact (h i).add hx
 ·split
  ·exact (h i).add hy
  ·exact (h i).mono zO
structure SCD (S : Sys) (t : Nat → Rat) (p q : Tr) (d : Int) : Prop where
 ang : CD d 100000000000000000000 (V0N S t p q)
 arm : CD d 200000000000000000000000 ((q0g S p : Rat) * V0N S t p q)
 lft : CD d 400000000000000000000000 (J1j S t p q)
 tor : CT d 500000000000000000000000 (q0N S t p q)
theorem v1i {S : Sys} (hS : SmS S) {d : Int} {t : Nat → Rat} (h : CT d 10000000000000000 t) (hd0 : d ≠ 0) (hd : d.natAbs ≤ 80000000000) {p q : Tr} (hp : BT 2000 p) (hq : BT 2000 q) (hne : q0g S p ≠ q0g S q) :
  ∃ d' : Int, d' ≠ 0 ∧ d'.natAbs ≤ 320000000000000 ∧ SCD S t p q d' := by
 have a1 := Z0O hS hp
 have a2 := Z0O hS hq
 have hm : (q0g S p - q0g S q).natAbs ≤ 4000 := by omega
 have hm0 : q0g S p - q0g S q ≠ 0 := by omega
 have h1 := h.hq hS hd hp (k := 1) zE
 have h2 := h.hq hS hd hq (k := 1) zE
 have c1 : CD (d * (q0g S p - q0g S q)) 100000000000000000000 (V0N S t p q) := by
  unfold V0N
  rw [← Rat.intCast_sub]
  exact ((h2.sub h1).div hm0).mono zE
 have c2 := c1.mulI a1
 have c3 := (c2.add (h1.scale hm)).neg
 have c4 : CD (d * (q0g S p - q0g S q)) 400000000000000000000000 (J1j S t p q) := c3.mono zE
 refine ⟨d * (q0g S p - q0g S q), Int.mul_ne_zero hd0 hm0, ?_, c1, c2.mono zE, c4, ?_⟩
 ·rw [Int.natAbs_mul]
  exact Nat.le_trans (Nat.mul_le_mul hd hm) zE
 ·intro i
  exact (j1N (fun i => (h i).scale hm) c4 (c1.mono zE) i).mono zE
theorem Y0l {S : Sys} (hS : SmS S) {t u : Nat → Rat} (ht : t ∈ j0K S) (hu : u ∈ second S t) : ∃ d : Int, d ≠ 0 ∧ d.natAbs ≤ 320000000000000 ∧ CT d 500000000000000000000000 u := by
 obtain ⟨d, h1, h2, h3⟩ := W0j hS ht
 obtain ⟨i, k, hi, hk, hne, _, rfl⟩ := v0O.1 hu
 obtain ⟨d', q1, q2, q3⟩ := v1i hS h3 h1 h2 (hS.sp 1 i) (hS.sp 1 k) hne
 exact ⟨d', q1, q2, q3.tor⟩
theorem V1k (f : Nat → Rat) (n : Nat) (h : 0 < n) : ∃ i, i < n ∧ Q0N f n = f i := by
 rcases (Q0q f n).2.2 with e | ⟨i, hi, e⟩
 ·exact ⟨0, h, e⟩
 ·exact ⟨i, hi, e⟩
theorem z1k {S : Sys} (hS : SmS S) (h0 : 0 < (S.sp 2).length) {d : Int} {u : Nat → Rat} (hd : d.natAbs ≤ 320000000000000) (h : CT d 500000000000000000000000 u) : CT d 10000000000000000000000000000 (q0t S u) := by
 obtain ⟨i, hi, e⟩ := V1k (fun i => hq S u 2 (gt (S.sp 2) i)) (S.sp 2).length h0
 have h1 := h.hq hS hd (hS.sp 2 i) (k := 2) zE
 intro j
 unfold q0t W1o
 rw [e]
 refine (j1N h h1.neg ?_ j).mono zE
 rw [← Rat.intCast_zero]
 exact (CD.int (C := 0) hd (c := 0) (Nat.le_refl 0)).mono (by rw [Nat.zero_mul]; exact Nat.zero_le _)
theorem x1T {S : Sys} (hS : SmS S) (h0 : 0 < (S.sp 2).length) {t : Nat → Rat} (h : t ∈ q0w S) : ∃ d : Int, d ≠ 0 ∧ d.natAbs ≤ 320000000000000 ∧ CT d 10000000000000000000000000000 t := by
 obtain ⟨a, ha, h⟩ := List.mem_flatMap.1 h
 obtain ⟨u, hu, rfl⟩ := List.mem_map.1 h
 obtain ⟨d, h1, h2, h3⟩ := Y0l hS ha hu
 exact ⟨d, h1, h2, z1k hS h0 h2 h3⟩
theorem CT.lr {d : Int} {X : Nat} {t : Nat → Rat} (h : CT d X t) (h0 : d ≠ 0) (hd : d.natAbs < 10 ^ 43) (hX : X < 10 ^ 43) (i : Nat) : LR 43 (t i) := (h i).lr h0 hX hd
theorem k0p {S : Sys} (hS : SmS S) {t : Nat → Rat} (h : t ∈ j0K S) : (∀ i, LR 43 (t i)) ∧ ∀ k, k < 3 → ∀ p, BT 2000 p → LR 43 (hq S t k p) := by
 obtain ⟨d, h1, h2, h3⟩ := W0j hS h
 exact ⟨h3.lr h1 zO zE, fun k hk p hp => (h3.hq hS h2 hp hk).lr h1 zE zO⟩
theorem w1w {S : Sys} (hS : SmS S) {t u : Nat → Rat} (ht : t ∈ j0K S) (hu : u ∈ second S t) : (∀ i, LR 43 (u i)) ∧ ∀ k, k < 3 → ∀ p, BT 2000 p → LR 43 (hq S u k p) := by
 obtain ⟨d, h1, h2, h3⟩ := Y0l hS ht hu
 exact ⟨h3.lr h1 zO zE, fun k hk p hp => (h3.hq hS h2 hp hk).lr h1 zE zO⟩
theorem J0f {S : Sys} (hS : SmS S) (h0 : 0 < (S.sp 2).length) {t : Nat → Rat} (h : t ∈ q0w S) : (∀ i, LR 43 (t i)) ∧ ∀ k, k < 3 → ∀ p, BT 2000 p → LR 43 (hq S t k p) := by
 obtain ⟨d, h1, h2, h3⟩ := x1T hS h0 h
 exact ⟨h3.lr h1 zO zE, fun k hk p hp => (h3.hq hS h2 hp hk).lr h1 zE zO⟩
theorem v1j {S : Sys} (hS : SmS S) {t : Nat → Rat} (ht : t ∈ j0K S) {p q : Tr} (hp : BT 2000 p) (hq' : BT 2000 q) (hne : q0g S p ≠ q0g S q) :
  (∀ i, LR 43 (q0N S t p q i)) ∧ LR 43 (V0N S t p q) ∧ LR 43 ((q0g S p : Rat) * V0N S t p q) ∧ LR 43 (J1j S t p q) ∧ ∀ k, k < 3 → ∀ x, BT 2000 x → LR 43 (hq S (q0N S t p q) k x) := by
 obtain ⟨d, h1, h2, h3⟩ := W0j hS ht
 obtain ⟨d', q1, q2, q3⟩ := v1i hS h3 h1 h2 hp hq' hne
 exact ⟨q3.tor.lr q1 zO zE, q3.ang.lr q1 zE zO, q3.arm.lr q1 zE zO, q3.lft.lr q1 zE zO, fun k hk x hx => (q3.tor.hq hS q2 hx hk).lr q1 zE zO⟩
def fmL {α : Type} (f : Nat → Nat → Option α) (n : Nat) : List α := (List.range n).flatMap fun i => (List.range i).filterMap fun k => f i k
def fmC {α : Type} (f : Nat → Nat → Option α) (i k : Nat) : Nat := (fmL f i).length + ((List.range k).filterMap fun k => f i k).length
theorem J0n {α : Type} (f : Nat → Nat → Option α) (n : Nat) : fmL f (n + 1) = fmL f n ++ (List.range n).filterMap fun k => f n k := by
 unfold fmL
 rw [List.range_succ, List.flatMap_append]
 simp
theorem Q1P {α : Type} (f : Nat → Nat → Option α) {i n : Nat} (h : i ≤ n) : ∃ r, fmL f n = fmL f i ++ r := by
 obtain ⟨d, rfl⟩ := Nat.exists_eq_add_of_le h
 clear h
 induction d with
 |zero => exact ⟨[], by simp⟩
 |succ d ih =>
  obtain ⟨r, e⟩ := ih
  exact ⟨r ++ (List.range (i + d)).filterMap fun k => f (i + d) k, by rw [show i + (d + 1) = (i + d) + 1 by omega, J0n, e, List.append_assoc]⟩
theorem X1I {α : Type} (g : Nat → Option α) {k n : Nat} (h : k ≤ n) : ∃ r, (List.range n).filterMap g = (List.range k).filterMap g ++ r := by
 obtain ⟨d, rfl⟩ := Nat.exists_eq_add_of_le h
 exact ⟨((List.range d).map (k + ·)).filterMap g, by rw [List.range_add, List.filterMap_append]⟩
theorem Y0U {α : Type} (g : Nat → Option α) (k : Nat) : (List.range (k + 1)).filterMap g = (List.range k).filterMap g ++ (g k).toList := by
 rw [List.range_succ, List.filterMap_append]
 cases h : g k <;> simp [h]
theorem k0t {α : Type} {f : Nat → Nat → Option α} {i k : Nat} (h : f i k = none) : fmC f i (k + 1) = fmC f i k := by
 unfold fmC; rw [Y0U, h]; simp
theorem y1n {α : Type} {f : Nat → Nat → Option α} {i k : Nat} {u : α} (h : f i k = some u) : fmC f i (k + 1) = fmC f i k + 1 := by
 unfold fmC; rw [Y0U, h]; simp; omega
theorem Q1O {α : Type} (f : Nat → Nat → Option α) (i : Nat) : fmC f (i + 1) 0 = fmC f i i := by
 unfold fmC; rw [J0n]; simp
theorem Q1N {α : Type} (f : Nat → Nat → Option α) (n : Nat) : fmC f n 0 = (fmL f n).length := by
 unfold fmC; simp
theorem k1p {α : Type} {f : Nat → Nat → Option α} {n i k : Nat} (hi : i < n) (hk : k < i) {u : α} (h : f i k = some u) : (fmL f n)[fmC f i k]? = some u := by
 obtain ⟨r, e⟩ := Q1P f (i := i + 1) (n := n) zO
 obtain ⟨r2, e2⟩ := X1I (fun k => f i k) (k := k + 1) (n := i) zO
 rw [e, J0n, e2, Y0U, h]
 unfold fmC
 rw [List.append_assoc, List.append_assoc, List.append_assoc, List.getElem?_append_right (by omega), Nat.add_sub_cancel_left, List.getElem?_append_right (by simp)]
 simp
theorem Q0C (S : Sys) (t : Nat → Rat) : second S t = fmL (fun i k => lnS S t i k) (S.sp 1).length := rfl
def flC {α β : Type} (g : α → List β) (l : List α) (i : Nat) : Nat := ((l.take i).flatMap g).length
theorem k0q {α β : Type} (g : α → List β) {l : List α} {i : Nat} {a : α} (h : l[i]? = some a) : flC g l (i + 1) = flC g l i + (g a).length := by
 unfold flC
 rw [List.take_add_one, h]
 simp
theorem q1P {α β : Type} (g : α → List β) (l : List α) : flC g l l.length = (l.flatMap g).length := by
 unfold flC; rw [List.take_length]
theorem X1G {α β : Type} (g : α → List β) {l : List α} {i j : Nat} {a : α} {b : β} (h : l[i]? = some a) (hb : (g a)[j]? = some b) : (l.flatMap g)[flC g l i + j]? = some b := by
 obtain ⟨hl, rfl⟩ := List.getElem?_eq_some_iff.1 h
 have e : l = l.take i ++ l[i] :: l.drop (i + 1) := by rw [List.getElem_cons_drop, List.take_append_drop]
 have hj := (List.getElem?_eq_some_iff.1 hb).1
 have e2 : l.flatMap g = (l.take i).flatMap g ++ (g l[i] ++ (l.drop (i + 1)).flatMap g) := by
  conv => lhs; rw [e]
  rw [List.flatMap_append, List.flatMap_cons]
 unfold flC
 rw [e2, List.getElem?_append_right (by omega), Nat.add_sub_cancel_left, List.getElem?_append_left hj]
 exact hb
end Go.Proofs.YtfggdokihnopeaaGreatDoor.H
namespace Go.Proofs.YtfggdokihnopeaaGreatDoor.H
open Go Go.Vc Go.RowKit
open Go.Na (rtx LR j0u q0T rsg)
set_option maxHeartbeats 4000000
def syA (S : Sys) : Nat → AV
 |0 => vi ((S.ax 0 : Nat) : Int)
 |1 => vi ((S.ax 1 : Nat) : Int)
 |2 => vi ((S.ax 2 : Nat) : Int)
 |3 => vi (S.off 0)
 |4 => vi (S.off 1)
 |5 => vi (S.off 2)
 |6 => ts (S.sp 0)
 |7 => ts (S.sp 1)
 |_ => ts (S.sp 2)
abbrev syV (S : Sys) : AV := .agg 9 (syA S)
abbrev hgF (S : Sys) (t : Nat → Rat) (k : Nat) : Nat → Nat → AV := fun i _ => vR (hq S t k (gt (S.sp k) i))
theorem x0p (p : Tr) {k : Nat} (hk : k < 3) : CtrA Tryz.prog 186 [tp p, vi (k : Int)] (vi (cz p k)) := by
 refine j0r _ Tryz.func186 rfl rfl Tryz.ntmps186 rfl fun w Z => ?_
 refine zU ?_
 refine wt ?_
 refine j0j (q0m (W1M p hk) rfl rfl) rfl ?_
 refine wt ?_
 exact zV
abbrev t6L (t : Nat → Rat) : List Value := [sv (rtx (t 0)), sv (rtx (t 1)), sv (rtx (t 2)), sv (rtx (t 3)), sv (rtx (t 4)), sv (rtx (t 5))]
abbrev t6P (t : Nat → Rat) : AV := .ptr 6 (fun i => .val ((t6L t).getD i undef))
theorem J0C (S : Sys) (t : Nat → Rat) (k : Nat) (p : Tr) : v0x t p (S.ax k) - (S.off k : Rat) = hq S t k p := rfl
theorem z1r (x : List UInt8) (w : World) : (Instr.buildSlice 62 1 #[(0, sv x)]).run Tryz.prog w = .ok (.slice (some ⟨w.heap.size, 0, none⟩) 1 1) (w.alloc (.cells #[sv x] 33)) := by kernel_rfl
theorem Y1E (u : Value) : ∀ i, i < 1 → ∀ j, j < 1 → ∃ v, [u][i * 1 + j]? = some v ∧ (fun (_ _ : Nat) => AV.val u) i j = .val v := fun i hi j hj => by
 obtain rfl : i = 0 := by omega
 obtain rfl : j = 0 := by omega
 exact ⟨u, rfl, rfl⟩
theorem Y1G {n i j : Nat} {f : Nat → Nat → AV} {τ : AV} (hi : i < n + 1) (h : f n j = τ) : q0H n f (fun _ _ => τ) i j = f i j := by
 unfold q0H
 split
 ·rfl
 ·rw [show i = n by omega]; exact h.symm
theorem k1z (f : Nat → AV) {a : Nat} (ha : a < 3) {cs : List SV} (h : cs = [.av (f 0), .av (f 1), .av (f 2)]) : cs[0 + a * 1]? = some (.av (f a)) := by
 subst h
 rcases (by omega : a = 0 ∨ a = 1 ∨ a = 2) with rfl | rfl | rfl <;> rfl
theorem j1e (S : Sys) (hS : SmS S) (t : Nat → Rat) (ht : ∀ i, LR 43 (t i)) (hn : (S.sp 0).length ≤ 1000) : CtrR Tryz.prog 120 [syV S, vi 0, t6 t] 33 1 (S.sp 0).length (hgF S t 0) [vi 0] := by
 refine K0J _ Tryz.func120 rfl rfl Tryz.ntmps120 rfl fun w Z => ?_
 have hax : S.ax 0 < 3 := hS.ax zE
 have hof := hS.off 0
 have hwh := v0k (S.off 0) zO
 refine zU ?_
 refine wt ?_
 refine v0p (v0F (dd := 8) 20 33 1 (hgF S t 0) rfl rfl) ?_
 refine j0h (γ := Nat) (fun i => [(1, .av (vi 0)), (3, .av (.ptr 9 (syA S))), (5, .av (t6P t)), (17, .av (ts (S.sp 0))), (18, .av (vi (S.sp 0).length)), (19, .av (vi i)), (8, .osl 20)]) (fun i => [(20, .row 33 1 i (hgF S t 0))]) (fun i => i ≤ (S.sp 0).length) (fun i => (S.sp 0).length - i) 0 zO (ent zS zT) ?_
 intro i hi
 refine wt ?_
 (refine j0a rfl ?_ ?_ <;> intro hb <;> (try simp only [zA, zB, zG, zC, zD, zN] at hb) <;> (try exact zQ))
 ·have hil : i < (S.sp 0).length := by omega
  have hb2 := hS.sp 0 i
  have hb5 : BT 100000 (gt (S.sp 0) i) := hS.rt 0 i
  have hap := y0h t (gt (S.sp 0) i) hb5 ht
  have hsu := z0A (v0x t (gt (S.sp 0) i) (S.ax 0)) (S.off 0 : Rat) (Y0H hb5 ht _) (Go.Na.LR.mono (q0l (x := S.off 0) zO) zE)
  rw [J0C] at hsu
  refine wt ?_
  refine j0j (j0k (us := t6L t) rfl rfl rfl rfl) rfl ?_
  refine wt ?_
  refine q0n (j0w rfl rfl (k1z (fun j => vR (v0x t (gt (S.sp 0) i) j)) hax rfl)) rfl ?_
  refine wt ?_
  refine j0j (j0E (is := [0]) (xs := [_]) (vs := [sv (rtx (hq S t 0 (gt (S.sp 0) i)))]) (us := [sv (rtx (hq S t 0 (gt (S.sp 0) i)))]) (row := fun _ _ => vR (hq S t 0 (gt (S.sp 0) i))) (z1r _) rfl rfl rfl (Y1E _)) rfl ?_
  refine wt ?_
  refine j0C (q0x (m := 1) (sz := 1) (bytes := 16) (h := fun _ _ => vR (hq S t 0 (gt (S.sp 0) i))) rfl rfl rfl (fun _ _ _ _ => rfl) (by decide) (by simp only [maxLen]; omega) (by omega)) rfl ?_
  refine wt ?_
  exact j0b (i + 1) zO zO (ent zS ⟨⟨_, rfl, .row rfl (fun a ha b hb => Y1G ha rfl)⟩, trivial⟩)
 ·have hil : i = (S.sp 0).length := by omega
  subst hil
  refine wt ?_
  exact z0e (rvs := []) (τs := [vi 0]) rfl rfl rfl rfl (fun _ _ _ _ => rfl) ⟨.tmp rfl, trivial⟩ rfl
theorem z0t (S : Sys) (hS : SmS S) (t : Nat → Rat) (ht : ∀ i, LR 43 (t i)) (hn : (S.sp 1).length ≤ 1000) : CtrR Tryz.prog 120 [syV S, vi 1, t6 t] 33 1 (S.sp 1).length (hgF S t 1) [vi 0] := by
 refine K0J _ Tryz.func120 rfl rfl Tryz.ntmps120 rfl fun w Z => ?_
 have hax : S.ax 1 < 3 := hS.ax zE
 have hof := hS.off 1
 have hwh := v0k (S.off 1) zO
 refine zU ?_
 refine wt ?_
 refine v0p (v0F (dd := 8) 20 33 1 (hgF S t 1) rfl rfl) ?_
 refine j0h (γ := Nat) (fun i => [(1, .av (vi 1)), (3, .av (.ptr 9 (syA S))), (5, .av (t6P t)), (17, .av (ts (S.sp 1))), (18, .av (vi (S.sp 1).length)), (19, .av (vi i)), (8, .osl 20)]) (fun i => [(20, .row 33 1 i (hgF S t 1))]) (fun i => i ≤ (S.sp 1).length) (fun i => (S.sp 1).length - i) 0 zO (ent zS zT) ?_
 intro i hi
 refine wt ?_
 (refine j0a rfl ?_ ?_ <;> intro hb <;> (try simp only [zA, zB, zG, zC, zD, zN] at hb) <;> (try exact zQ))
 ·have hil : i < (S.sp 1).length := by omega
  have hb2 := hS.sp 1 i
  have hb5 : BT 100000 (gt (S.sp 1) i) := hS.rt 1 i
  have hap := y0h t (gt (S.sp 1) i) hb5 ht
  have hsu := z0A (v0x t (gt (S.sp 1) i) (S.ax 1)) (S.off 1 : Rat) (Y0H hb5 ht _) (Go.Na.LR.mono (q0l (x := S.off 1) zO) zE)
  rw [J0C] at hsu
  refine wt ?_
  refine j0j (j0k (us := t6L t) rfl rfl rfl rfl) rfl ?_
  refine wt ?_
  refine q0n (j0w rfl rfl (k1z (fun j => vR (v0x t (gt (S.sp 1) i) j)) hax rfl)) rfl ?_
  refine wt ?_
  refine j0j (j0E (is := [0]) (xs := [_]) (vs := [sv (rtx (hq S t 1 (gt (S.sp 1) i)))]) (us := [sv (rtx (hq S t 1 (gt (S.sp 1) i)))]) (row := fun _ _ => vR (hq S t 1 (gt (S.sp 1) i))) (z1r _) rfl rfl rfl (Y1E _)) rfl ?_
  refine wt ?_
  refine j0C (q0x (m := 1) (sz := 1) (bytes := 16) (h := fun _ _ => vR (hq S t 1 (gt (S.sp 1) i))) rfl rfl rfl (fun _ _ _ _ => rfl) (by decide) (by simp only [maxLen]; omega) (by omega)) rfl ?_
  refine wt ?_
  exact j0b (i + 1) zO zO (ent zS ⟨⟨_, rfl, .row rfl (fun a ha b hb => Y1G ha rfl)⟩, trivial⟩)
 ·have hil : i = (S.sp 1).length := by omega
  subst hil
  refine wt ?_
  exact z0e (rvs := []) (τs := [vi 0]) rfl rfl rfl rfl (fun _ _ _ _ => rfl) ⟨.tmp rfl, trivial⟩ rfl
theorem V0s (S : Sys) (hS : SmS S) (t : Nat → Rat) (ht : ∀ i, LR 43 (t i)) (hn : (S.sp 2).length ≤ 1000) : CtrR Tryz.prog 120 [syV S, vi 2, t6 t] 33 1 (S.sp 2).length (hgF S t 2) [vi 0] := by
 refine K0J _ Tryz.func120 rfl rfl Tryz.ntmps120 rfl fun w Z => ?_
 have hax : S.ax 2 < 3 := hS.ax zE
 have hof := hS.off 2
 have hwh := v0k (S.off 2) zO
 refine zU ?_
 refine wt ?_
 refine v0p (v0F (dd := 8) 20 33 1 (hgF S t 2) rfl rfl) ?_
 refine j0h (γ := Nat) (fun i => [(1, .av (vi 2)), (3, .av (.ptr 9 (syA S))), (5, .av (t6P t)), (17, .av (ts (S.sp 2))), (18, .av (vi (S.sp 2).length)), (19, .av (vi i)), (8, .osl 20)]) (fun i => [(20, .row 33 1 i (hgF S t 2))]) (fun i => i ≤ (S.sp 2).length) (fun i => (S.sp 2).length - i) 0 zO (ent zS zT) ?_
 intro i hi
 refine wt ?_
 (refine j0a rfl ?_ ?_ <;> intro hb <;> (try simp only [zA, zB, zG, zC, zD, zN] at hb) <;> (try exact zQ))
 ·have hil : i < (S.sp 2).length := by omega
  have hb2 := hS.sp 2 i
  have hb5 : BT 100000 (gt (S.sp 2) i) := hS.rt 2 i
  have hap := y0h t (gt (S.sp 2) i) hb5 ht
  have hsu := z0A (v0x t (gt (S.sp 2) i) (S.ax 2)) (S.off 2 : Rat) (Y0H hb5 ht _) (Go.Na.LR.mono (q0l (x := S.off 2) zO) zE)
  rw [J0C] at hsu
  refine wt ?_
  refine j0j (j0k (us := t6L t) rfl rfl rfl rfl) rfl ?_
  refine wt ?_
  refine q0n (j0w rfl rfl (k1z (fun j => vR (v0x t (gt (S.sp 2) i) j)) hax rfl)) rfl ?_
  refine wt ?_
  refine j0j (j0E (is := [0]) (xs := [_]) (vs := [sv (rtx (hq S t 2 (gt (S.sp 2) i)))]) (us := [sv (rtx (hq S t 2 (gt (S.sp 2) i)))]) (row := fun _ _ => vR (hq S t 2 (gt (S.sp 2) i))) (z1r _) rfl rfl rfl (Y1E _)) rfl ?_
  refine wt ?_
  refine j0C (q0x (m := 1) (sz := 1) (bytes := 16) (h := fun _ _ => vR (hq S t 2 (gt (S.sp 2) i))) rfl rfl rfl (fun _ _ _ _ => rfl) (by decide) (by simp only [maxLen]; omega) (by omega)) rfl ?_
  refine wt ?_
  exact j0b (i + 1) zO zO (ent zS ⟨⟨_, rfl, .row rfl (fun a ha b hb => Y1G ha rfl)⟩, trivial⟩)
 ·have hil : i = (S.sp 2).length := by omega
  subst hil
  refine wt ?_
  exact z0e (rvs := []) (τs := [vi 0]) rfl rfl rfl rfl (fun _ _ _ _ => rfl) ⟨.tmp rfl, trivial⟩ rfl
def onF (f : Nat → Rat) (n : Nat) : List Nat := (List.range n).filter fun i => decide (f i = 0)
theorem J0w (f : Nat → Rat) (n : Nat) : onF f (n + 1) = if f n = 0 then onF f n ++ [n] else onF f n := by
 unfold onF
 rw [List.range_succ, List.filter_append]
 by_cases h : f n = 0 <;> simp [h]
def lwF (f : Nat → Rat) (n : Nat) : Bool := (List.range n).any fun i => decide (f i < 0)
theorem k0K (f : Nat → Rat) (n : Nat) : lwF f (n + 1) = (lwF f n || decide (f n < 0)) := by
 unfold lwF
 rw [List.range_succ, List.any_append]
 simp
theorem v1C (f : Nat → Rat) (n : Nat) : (onF f n).length ≤ n := by
 have := List.length_filter_le (fun i => decide (f i = 0)) (List.range n)
 unfold onF; simpa using this
abbrev rsl (f : Nat → Rat) (n : Nat) : AV := .sl n 1 (fun i _ => vR (f i))
theorem w0R (f : Nat → Rat) (n : Nat) (hn : n ≤ 1000) (hf : ∀ i, i < n → LR 43 (f i)) (hlow : lwF f n = false) : CtrR Tryz.prog 121 [rsl f n] 3 1 (onF f n).length (xf (onF f n)) [vb true] := by
 refine K0J _ Tryz.func121 rfl rfl Tryz.ntmps121 rfl fun w Z => ?_
 refine zU ?_
 refine wt ?_
 refine v0p (v0F (dd := 4) 20 3 1 (xf (onF f 0)) rfl rfl) ?_
 refine j0h (γ := Nat) (fun i => [(9, .av (rsl f n)), (10, .av (vi n)), (11, .av (vi i)), (4, .osl 20)]) (fun i => [(20, .row 3 1 (onF f i).length (xf (onF f i)))]) (fun i => i ≤ n ∧ lwF f i = false) (fun i => n - i) 0 ⟨by omega, rfl⟩ (ent zS zT) ?_
 rintro i ⟨hi, hlo⟩
 have hol := v1C f i
 refine wt ?_
 (refine j0a rfl ?_ ?_ <;> intro hb <;> (try simp only [zA, zB, zG, zC, zD, zN] at hb) <;> (try exact zQ))
 ·have hil : i < n := by omega
  have hs := k0Y (f i) (Go.Na.LR.mono (hf i hil) zE)
  have hnn : ¬ f i < 0 := fun h => by
   have := List.any_eq_false.1 hlow i (List.mem_range.2 hil)
   simp [h] at this
  have hl1 : lwF f (i + 1) = false := by rw [k0K, hlo]; simp [hnn]
  refine wt ?_
  (refine j0a rfl ?_ ?_ <;> intro hb <;> (try simp only [zA, zB, zG, zC, zD, zN] at hb) <;> (try exact zQ))
  ·exact absurd (x0F.1 hb) hnn
  ·refine wt ?_
   (refine j0a rfl ?_ ?_ <;> intro hb <;> (try simp only [zA, zB, zG, zC, zD, zN] at hb) <;> (try exact zQ))
   ·have hz : f i = 0 := v0l.1 hb
    have hon : onF f (i + 1) = onF f i ++ [i] := by rw [J0w, if_pos hz]
    refine wt ?_
    exact j0b (i + 1) ⟨by omega, hl1⟩ (by omega) (ent zS ⟨⟨_, rfl, .row (by rw [hon]) (fun _ _ _ _ => by rw [hon])⟩, trivial⟩)
   ·have hz : ¬ f i = 0 := fun h => hb (v0l.2 h)
    have hon : onF f (i + 1) = onF f i := by rw [J0w, if_neg hz]
    refine wt ?_
    exact j0b (i + 1) ⟨by omega, hl1⟩ (by omega) (ent zS ⟨⟨_, rfl, .row (by rw [hon]) (fun _ _ _ _ => by rw [hon])⟩, trivial⟩)
 ·have hil : i = n := by omega
  subst hil
  refine wt ?_
  exact z0e (rvs := []) (τs := [vb true]) rfl rfl rfl rfl (fun _ _ _ _ => rfl) ⟨.tmp rfl, trivial⟩ rfl
theorem Y0O (f : Nat → Rat) (n : Nat) (hn : n ≤ 1000) (hf : ∀ i, i < n → LR 43 (f i)) (hlow : lwF f n = true) : CtrA Tryz.prog 121 [rsl f n] (j0B [.val (.slice none 0 0), vb false]) := by
 refine j0r _ Tryz.func121 rfl rfl Tryz.ntmps121 rfl fun w Z => ?_
 refine zU ?_
 refine wt ?_
 refine v0p (v0F (dd := 4) 20 3 1 (xf (onF f 0)) rfl rfl) ?_
 refine j0h (γ := Nat) (fun i => [(9, .av (rsl f n)), (10, .av (vi n)), (11, .av (vi i)), (4, .osl 20)]) (fun i => [(20, .row 3 1 (onF f i).length (xf (onF f i)))]) (fun i => i ≤ n ∧ lwF f i = false) (fun i => n - i) 0 ⟨by omega, rfl⟩ (ent zS zT) ?_
 rintro i ⟨hi, hlo⟩
 have hol := v1C f i
 refine wt ?_
 (refine j0a rfl ?_ ?_ <;> intro hb <;> (try simp only [zA, zB, zG, zC, zD, zN] at hb) <;> (try exact zQ))
 ·have hil : i < n := by omega
  have hs := k0Y (f i) (Go.Na.LR.mono (hf i hil) zE)
  refine wt ?_
  (refine j0a rfl ?_ ?_ <;> intro hb <;> (try simp only [zA, zB, zG, zC, zD, zN] at hb) <;> (try exact zQ))
  ·refine wt ?_
   exact zW
  ·have hnn : ¬ f i < 0 := fun h => hb (x0F.2 h)
   have hl1 : lwF f (i + 1) = false := by rw [k0K, hlo]; simp [hnn]
   refine wt ?_
   (refine j0a rfl ?_ ?_ <;> intro hb <;> (try simp only [zA, zB, zG, zC, zD, zN] at hb) <;> (try exact zQ))
   ·have hz : f i = 0 := v0l.1 hb
    have hon : onF f (i + 1) = onF f i ++ [i] := by rw [J0w, if_pos hz]
    refine wt ?_
    exact j0b (i + 1) ⟨by omega, hl1⟩ (by omega) (ent zS ⟨⟨_, rfl, .row (by rw [hon]) (fun _ _ _ _ => by rw [hon])⟩, trivial⟩)
   ·have hz : ¬ f i = 0 := fun h => hb (v0l.2 h)
    have hon : onF f (i + 1) = onF f i := by rw [J0w, if_neg hz]
    refine wt ?_
    exact j0b (i + 1) ⟨by omega, hl1⟩ (by omega) (ent zS ⟨⟨_, rfl, .row (by rw [hon]) (fun _ _ _ _ => by rw [hon])⟩, trivial⟩)
 ·have hil : i = n := by omega
  subst hil
  rw [hlo] at hlow
  cases hlow
theorem x1s (t : Nat → Rat) (x y : Rat) (ht : ∀ i, LR 43 (t i)) (hx : LR 43 x) (hy : LR 43 y) : CtrA Tryz.prog 156 [t6 t, vi 0, vR x, vi 0, vR y] (j0B [t6 (x0g t 0 x 0 y), vi 0]) := by
 have h1 := q0e (t 0) x (Go.Na.LR.mono (ht _) zE) (Go.Na.LR.mono hx zE)
 have h2 := q0e (t (3 + 0)) y (Go.Na.LR.mono (ht _) zE) (Go.Na.LR.mono hy zE)
 refine j0r _ Tryz.func156 rfl rfl Tryz.ntmps156 rfl fun w Z => ?_
 refine zU ?_
 refine v0D ?_
 refine j0V ?_
 refine j0C (q0B (us := t6L t) 5 rfl rfl) rfl ?_
 refine wt ?_
 refine j0j (j0i (us := t6L (x0g t 0 x 0 y)) rfl rfl rfl rfl) rfl ?_
 refine wt ?_
 exact j0v (rvs := [_, _]) (τs := [_, _]) rfl rfl ⟨.agg (us := t6L (x0g t 0 x 0 y)) rfl rfl rfl rfl, .tmp rfl, trivial⟩ rfl
theorem x1t (t : Nat → Rat) (x y : Rat) (ht : ∀ i, LR 43 (t i)) (hx : LR 43 x) (hy : LR 43 y) : CtrA Tryz.prog 156 [t6 t, vi 0, vR x, vi 1, vR y] (j0B [t6 (x0g t 0 x 1 y), vi 0]) := by
 have h1 := q0e (t 0) x (Go.Na.LR.mono (ht _) zE) (Go.Na.LR.mono hx zE)
 have h2 := q0e (t (3 + 1)) y (Go.Na.LR.mono (ht _) zE) (Go.Na.LR.mono hy zE)
 refine j0r _ Tryz.func156 rfl rfl Tryz.ntmps156 rfl fun w Z => ?_
 refine zU ?_
 refine v0D ?_
 refine j0V ?_
 refine j0C (q0B (us := t6L t) 5 rfl rfl) rfl ?_
 refine wt ?_
 refine j0j (j0i (us := t6L (x0g t 0 x 1 y)) rfl rfl rfl rfl) rfl ?_
 refine wt ?_
 exact j0v (rvs := [_, _]) (τs := [_, _]) rfl rfl ⟨.agg (us := t6L (x0g t 0 x 1 y)) rfl rfl rfl rfl, .tmp rfl, trivial⟩ rfl
theorem x1u (t : Nat → Rat) (x y : Rat) (ht : ∀ i, LR 43 (t i)) (hx : LR 43 x) (hy : LR 43 y) : CtrA Tryz.prog 156 [t6 t, vi 0, vR x, vi 2, vR y] (j0B [t6 (x0g t 0 x 2 y), vi 0]) := by
 have h1 := q0e (t 0) x (Go.Na.LR.mono (ht _) zE) (Go.Na.LR.mono hx zE)
 have h2 := q0e (t (3 + 2)) y (Go.Na.LR.mono (ht _) zE) (Go.Na.LR.mono hy zE)
 refine j0r _ Tryz.func156 rfl rfl Tryz.ntmps156 rfl fun w Z => ?_
 refine zU ?_
 refine v0D ?_
 refine j0V ?_
 refine j0C (q0B (us := t6L t) 5 rfl rfl) rfl ?_
 refine wt ?_
 refine j0j (j0i (us := t6L (x0g t 0 x 2 y)) rfl rfl rfl rfl) rfl ?_
 refine wt ?_
 exact j0v (rvs := [_, _]) (τs := [_, _]) rfl rfl ⟨.agg (us := t6L (x0g t 0 x 2 y)) rfl rfl rfl rfl, .tmp rfl, trivial⟩ rfl
theorem x1v (t : Nat → Rat) (x y : Rat) (ht : ∀ i, LR 43 (t i)) (hx : LR 43 x) (hy : LR 43 y) : CtrA Tryz.prog 156 [t6 t, vi 1, vR x, vi 0, vR y] (j0B [t6 (x0g t 1 x 0 y), vi 0]) := by
 have h1 := q0e (t 1) x (Go.Na.LR.mono (ht _) zE) (Go.Na.LR.mono hx zE)
 have h2 := q0e (t (3 + 0)) y (Go.Na.LR.mono (ht _) zE) (Go.Na.LR.mono hy zE)
 refine j0r _ Tryz.func156 rfl rfl Tryz.ntmps156 rfl fun w Z => ?_
 refine zU ?_
 refine v0D ?_
 refine j0V ?_
 refine j0C (q0B (us := t6L t) 5 rfl rfl) rfl ?_
 refine wt ?_
 refine j0j (j0i (us := t6L (x0g t 1 x 0 y)) rfl rfl rfl rfl) rfl ?_
 refine wt ?_
 exact j0v (rvs := [_, _]) (τs := [_, _]) rfl rfl ⟨.agg (us := t6L (x0g t 1 x 0 y)) rfl rfl rfl rfl, .tmp rfl, trivial⟩ rfl
theorem x1w (t : Nat → Rat) (x y : Rat) (ht : ∀ i, LR 43 (t i)) (hx : LR 43 x) (hy : LR 43 y) : CtrA Tryz.prog 156 [t6 t, vi 1, vR x, vi 1, vR y] (j0B [t6 (x0g t 1 x 1 y), vi 0]) := by
 have h1 := q0e (t 1) x (Go.Na.LR.mono (ht _) zE) (Go.Na.LR.mono hx zE)
 have h2 := q0e (t (3 + 1)) y (Go.Na.LR.mono (ht _) zE) (Go.Na.LR.mono hy zE)
 refine j0r _ Tryz.func156 rfl rfl Tryz.ntmps156 rfl fun w Z => ?_
 refine zU ?_
 refine v0D ?_
 refine j0V ?_
 refine j0C (q0B (us := t6L t) 5 rfl rfl) rfl ?_
 refine wt ?_
 refine j0j (j0i (us := t6L (x0g t 1 x 1 y)) rfl rfl rfl rfl) rfl ?_
 refine wt ?_
 exact j0v (rvs := [_, _]) (τs := [_, _]) rfl rfl ⟨.agg (us := t6L (x0g t 1 x 1 y)) rfl rfl rfl rfl, .tmp rfl, trivial⟩ rfl
theorem x1x (t : Nat → Rat) (x y : Rat) (ht : ∀ i, LR 43 (t i)) (hx : LR 43 x) (hy : LR 43 y) : CtrA Tryz.prog 156 [t6 t, vi 1, vR x, vi 2, vR y] (j0B [t6 (x0g t 1 x 2 y), vi 0]) := by
 have h1 := q0e (t 1) x (Go.Na.LR.mono (ht _) zE) (Go.Na.LR.mono hx zE)
 have h2 := q0e (t (3 + 2)) y (Go.Na.LR.mono (ht _) zE) (Go.Na.LR.mono hy zE)
 refine j0r _ Tryz.func156 rfl rfl Tryz.ntmps156 rfl fun w Z => ?_
 refine zU ?_
 refine v0D ?_
 refine j0V ?_
 refine j0C (q0B (us := t6L t) 5 rfl rfl) rfl ?_
 refine wt ?_
 refine j0j (j0i (us := t6L (x0g t 1 x 2 y)) rfl rfl rfl rfl) rfl ?_
 refine wt ?_
 exact j0v (rvs := [_, _]) (τs := [_, _]) rfl rfl ⟨.agg (us := t6L (x0g t 1 x 2 y)) rfl rfl rfl rfl, .tmp rfl, trivial⟩ rfl
theorem x1y (t : Nat → Rat) (x y : Rat) (ht : ∀ i, LR 43 (t i)) (hx : LR 43 x) (hy : LR 43 y) : CtrA Tryz.prog 156 [t6 t, vi 2, vR x, vi 0, vR y] (j0B [t6 (x0g t 2 x 0 y), vi 0]) := by
 have h1 := q0e (t 2) x (Go.Na.LR.mono (ht _) zE) (Go.Na.LR.mono hx zE)
 have h2 := q0e (t (3 + 0)) y (Go.Na.LR.mono (ht _) zE) (Go.Na.LR.mono hy zE)
 refine j0r _ Tryz.func156 rfl rfl Tryz.ntmps156 rfl fun w Z => ?_
 refine zU ?_
 refine v0D ?_
 refine j0V ?_
 refine j0C (q0B (us := t6L t) 5 rfl rfl) rfl ?_
 refine wt ?_
 refine j0j (j0i (us := t6L (x0g t 2 x 0 y)) rfl rfl rfl rfl) rfl ?_
 refine wt ?_
 exact j0v (rvs := [_, _]) (τs := [_, _]) rfl rfl ⟨.agg (us := t6L (x0g t 2 x 0 y)) rfl rfl rfl rfl, .tmp rfl, trivial⟩ rfl
theorem x1z (t : Nat → Rat) (x y : Rat) (ht : ∀ i, LR 43 (t i)) (hx : LR 43 x) (hy : LR 43 y) : CtrA Tryz.prog 156 [t6 t, vi 2, vR x, vi 1, vR y] (j0B [t6 (x0g t 2 x 1 y), vi 0]) := by
 have h1 := q0e (t 2) x (Go.Na.LR.mono (ht _) zE) (Go.Na.LR.mono hx zE)
 have h2 := q0e (t (3 + 1)) y (Go.Na.LR.mono (ht _) zE) (Go.Na.LR.mono hy zE)
 refine j0r _ Tryz.func156 rfl rfl Tryz.ntmps156 rfl fun w Z => ?_
 refine zU ?_
 refine v0D ?_
 refine j0V ?_
 refine j0C (q0B (us := t6L t) 5 rfl rfl) rfl ?_
 refine wt ?_
 refine j0j (j0i (us := t6L (x0g t 2 x 1 y)) rfl rfl rfl rfl) rfl ?_
 refine wt ?_
 exact j0v (rvs := [_, _]) (τs := [_, _]) rfl rfl ⟨.agg (us := t6L (x0g t 2 x 1 y)) rfl rfl rfl rfl, .tmp rfl, trivial⟩ rfl
theorem x1A (t : Nat → Rat) (x y : Rat) (ht : ∀ i, LR 43 (t i)) (hx : LR 43 x) (hy : LR 43 y) : CtrA Tryz.prog 156 [t6 t, vi 2, vR x, vi 2, vR y] (j0B [t6 (x0g t 2 x 2 y), vi 0]) := by
 have h1 := q0e (t 2) x (Go.Na.LR.mono (ht _) zE) (Go.Na.LR.mono hx zE)
 have h2 := q0e (t (3 + 2)) y (Go.Na.LR.mono (ht _) zE) (Go.Na.LR.mono hy zE)
 refine j0r _ Tryz.func156 rfl rfl Tryz.ntmps156 rfl fun w Z => ?_
 refine zU ?_
 refine v0D ?_
 refine j0V ?_
 refine j0C (q0B (us := t6L t) 5 rfl rfl) rfl ?_
 refine wt ?_
 refine j0j (j0i (us := t6L (x0g t 2 x 2 y)) rfl rfl rfl rfl) rfl ?_
 refine wt ?_
 exact j0v (rvs := [_, _]) (τs := [_, _]) rfl rfl ⟨.agg (us := t6L (x0g t 2 x 2 y)) rfl rfl rfl rfl, .tmp rfl, trivial⟩ rfl
theorem Q1b (t : Nat → Rat) (x y : Rat) (ht : ∀ i, LR 43 (t i)) (hx : LR 43 x) (hy : LR 43 y) {s r : Nat} (hs : s < 3) (hr : r < 3) : CtrA Tryz.prog 156 [t6 t, vi (s : Int), vR x, vi (r : Int), vR y] (j0B [t6 (x0g t s x r y), vi 0]) := by
 rcases (by omega : s = 0 ∨ s = 1 ∨ s = 2) with rfl | rfl | rfl <;> rcases (by omega : r = 0 ∨ r = 1 ∨ r = 2) with rfl | rfl | rfl
 ·exact x1s t x y ht hx hy
 ·exact x1t t x y ht hx hy
 ·exact x1u t x y ht hx hy
 ·exact x1v t x y ht hx hy
 ·exact x1w t x y ht hx hy
 ·exact x1x t x y ht hx hy
 ·exact x1y t x y ht hx hy
 ·exact x1z t x y ht hx hy
 ·exact x1A t x y ht hx hy
end Go.Proofs.YtfggdokihnopeaaGreatDoor.H
namespace Go.Proofs.YtfggdokihnopeaaGreatDoor.H
open Go Go.Vc Go.RowKit Go.Na Go.Lib
set_option maxHeartbeats 8000000
theorem K1L (n p m q : Int) (hn : LI 400 n) (hp : LI 400 p) (hm : LI 400 m) (hq : LI 400 q) : CtrH Tryz.prog 278 [.own 1000 0, .av (vI n), .av (vI p), .av (vI m), .av (vI q)] [(1000, E0)] (.av (j0B [vI (n * q), vI (p * m)])) [(1000, E0)] := by
 have b := fun (x y : Int) (hx : LI 400 x) (hy : LI 400 y) => (by have h := LI.mul hx hy; exact h : LI 800 (x * y))
 have M := fun (x : Int) (h : LI 400 x) => (h.mono zE : LI 1000 x)
 have c1 := z0X n q (M _ hn) (M _ hq) ((b _ _ hn hq).mono zE)
 have c3 := z0X p m (M _ hp) (M _ hm) ((b _ _ hp hm).mono zE)
 refine Q0R _ Tryz.func278 rfl rfl Tryz.ntmps278 rfl rfl fun w Z ν => ?_
 refine zU ?_
 refine wl ?_
 refine j0j (v0J rfl rfl) rfl ?_
 refine wl ?_
 refine j0C (j0o [] c1 rfl ⟨rfl, trivial⟩ rfl) rfl ?_
 refine wl ?_
 refine j0j (v0J rfl rfl) rfl ?_
 refine wl ?_
 refine j0C (j0o [] c3 rfl ⟨rfl, trivial⟩ rfl) rfl ?_
 refine wl ?_
 exact q0o (T' := [(10, .av (vI (n * q))), (11, .av (vI (p * m)))]) (O' := [(1000, E0)]) (ent zS zT) (J0y (rvs := [_, _]) (τs := [_, _]) rfl rfl rfl ⟨.tmp rfl, .tmp rfl, trivial⟩ rfl)
theorem Y1j {r : Rat} (h : r ≠ 0) : r.num ≠ 0 := fun e => h (Rat.num_eq_zero.1 e)
theorem V1z (q r : Rat) (hq : LR 400 q) (hr : LR 400 r) (h0 : r ≠ 0) : CtrA Tryz.prog 218 [vR q, vR r] (j0B [vR (q / r), vi 0]) := by
 have hdn : (q.den : Int) * r.num ≠ 0 := Int.mul_ne_zero (by have := q.den_pos; omega) (Y1j h0)
 have h := k0L 278 q r (q.num * r.den) (q.den * r.num) (hq.mono zE) (hr.mono zE) (li4 hq.1 hr.2) (li4 hq.2 hr.1) hdn (K1L q.num q.den r.num r.den hq.1 hq.2 hr.1 hr.2)
 rw [← div_eq] at h
 have h1 := J0J q r (hq.mono zE) (hr.mono zE)
 have hz : (rtx r == [48]) = false := by rw [beq_eq_false_iff_ne]; exact fun e => h0 (rtx_inj (e.trans rtx_0.symm))
 refine j0r _ Tryz.func218 rfl rfl Tryz.ntmps218 rfl fun w Z => ?_
 refine zU ?_
 refine wl ?_
 refine j0j (v1b rfl rfl) rfl ?_
 refine wl ?_
 rw [hz]
 refine wl ?_
 exact zW
end Go.Proofs.YtfggdokihnopeaaGreatDoor.H
namespace Go.Proofs.YtfggdokihnopeaaGreatDoor.H
open Go Go.Vc Go.RowKit
open Go.Na (rtx LR j0u q0T rsg)
set_option maxHeartbeats 4000000
theorem j1X {k : Nat} (hk : k < 3) (p : Tr) (hp : BT 100000 p) : CtrA Tryz.prog 276 [vi (k : Int), tp p] (vi 0) := by
 have h2 := x0d [p]
 have hr : j0Z p = true := by
  have := hp.x; have := hp.y; have := hp.z
  unfold j0Z inB; simp only [Bool.and_eq_true, decide_eq_true_eq]; omega
 rw [X1f, if_pos hr] at h2
 have e1 : decide ((k : Int) < 0) = false := decide_eq_false zO
 have e2 : decide ((3 : Int) ≤ (k : Int)) = false := decide_eq_false zO
 refine j0r _ Tryz.func276 rfl rfl Tryz.ntmps276 rfl fun w Z => ?_
 refine zU ?_
 refine wt ?_
 rw [e2]
 refine wt ?_
 refine j0j (j0E (is := [0]) (xs := [_]) (vs := [_]) (us := [.int .i64 p.x, .int .i64 p.y, .int .i64 p.z]) (row := tf [p]) (K0u p) rfl rfl rfl (w0v p)) rfl ?_
 refine wt ?_
 exact zV
abbrev c6P (c : Nat → Int) : AV := .sl 6 1 (fun i _ => vi (c i))
theorem z1y (c : Nat → Int) (hc : ∀ i, -100000 ≤ c i ∧ c i ≤ 100000) : CtrR Tryz.prog 277 [c6P c] 33 1 6 (fun i _ => vR ((c i : Int) : Rat)) [] := by
 refine K0J _ Tryz.func277 rfl rfl Tryz.ntmps277 rfl fun w Z => ?_
 refine zU ?_
 refine wt ?_
 refine v0p (v0F (dd := 3) 20 33 1 (fun i _ => vR ((c i : Int) : Rat)) rfl rfl) ?_
 refine j0h (γ := Nat) (fun i => [(6, .av (c6P c)), (7, .av (vi 6)), (8, .av (vi i)), (3, .osl 20)]) (fun i => [(20, .row 33 1 i (fun i _ => vR ((c i : Int) : Rat)))]) (fun i => i ≤ 6) (fun i => 6 - i) 0 zO (ent zS zT) ?_
 intro i hi
 refine wt ?_
 (refine j0a rfl ?_ ?_ <;> intro hb <;> (try simp only [zA, zB, zG, zC, zD, zN] at hb) <;> (try exact zQ))
 ·have hil : i < 6 := by omega
  have hw := v0k (c i) (by have := hc i; omega)
  refine wt ?_
  refine j0j (j0E (is := [0]) (xs := [_]) (vs := [sv (rtx ((c i : Int) : Rat))]) (us := [sv (rtx ((c i : Int) : Rat))]) (row := fun _ _ => vR ((c i : Int) : Rat)) (z1r _) rfl rfl rfl (Y1E _)) rfl ?_
  refine wt ?_
  refine j0C (q0x (m := 1) (sz := 1) (bytes := 16) (h := fun _ _ => vR ((c i : Int) : Rat)) rfl rfl rfl (fun _ _ _ _ => rfl) (by decide) (by simp only [maxLen]; omega) (by omega)) rfl ?_
  refine wt ?_
  exact j0b (i + 1) zO zO (ent zS ⟨⟨_, rfl, .row rfl (fun a ha b hb => Y1G ha rfl)⟩, trivial⟩)
 ·have hil : i = 6 := by omega
  subst hil
  refine wt ?_
  exact x0J rfl rfl rfl rfl (fun _ _ _ _ => rfl)
theorem q1R {k : Nat} (hk : k < 3) (p : Tr) (hp : BT 100000 p) : CtrR Tryz.prog 217 [vi (k : Int), tp p] 33 1 6 (fun i _ => vR ((frm k p i : Int) : Rat)) [vi 0] := by
 have h1 := j1X hk p hp
 have h2 := k0u p hk hp
 have h3 := z1y (frm k p) (X0E k hp)
 refine K0J _ Tryz.func217 rfl rfl Tryz.ntmps217 rfl fun w Z => ?_
 refine zU ?_
 refine wt ?_
 refine j0x (j0A 7 10 (fun i => vi (frm k p i)) rfl rfl rfl) ?_
 refine j0j (q0S (n := 6) (f := fun i => vi (frm k p i)) rfl zE zE) rfl ?_
 refine wt ?_
 refine j0C (q0u 22 h3 rfl rfl) rfl ?_
 refine wt ?_
 exact z0e (rvs := []) (τs := [vi 0]) rfl rfl rfl rfl (fun _ _ _ _ => rfl) ⟨.tmp rfl, trivial⟩ rfl
theorem J1S (a b : Int) (w : World) : (Instr.buildSlice 37 2 #[(0, .int .i64 a), (1, .int .i64 b)]).run Tryz.prog w = .ok (.slice (some ⟨w.heap.size, 0, none⟩) 2 2) (w.alloc (.cells #[.int .i64 a, .int .i64 b] 3)) := by kernel_rfl
def pr2 (i k : Nat) : Nat → Nat → AV := fun n _ => .val (.int .i64 (([(i : Int), (k : Int)] : List Int).getD n 0))
theorem Y1z (i k : Nat) : ∀ n, n < 2 → ∀ j, j < 1 → ∃ u, [Value.int .i64 (i : Int), .int .i64 (k : Int)][n * 1 + j]? = some u ∧ pr2 i k n j = .val u := fun n hn j hj => by
 obtain rfl : j = 0 := by omega
 rcases (by omega : n = 0 ∨ n = 1) with rfl | rfl <;> exact ⟨_, rfl, rfl⟩
def K1E (a b : Rat) : Nat → List SV
 |0 => [.av (vS []), .av (vS [])]
 |1 => [.av (vR a), .av (vS [])]
 |_ => [.av (vR a), .av (vR b)]
def v1h (S : Sys) (t : Nat → Rat) (p q : Tr) : AV := if q0g S p = q0g S q then j0B [t6 t, vb false, vi 0] else j0B [t6 (q0N S t p q), vb true, vi 0]
theorem v1k (S : Sys) (hS : SmS S) (t : Nat → Rat) (ht : t ∈ j0K S) {i k : Nat} (hi : i < (S.sp 1).length) (hk : k < (S.sp 1).length) (hn : (S.sp 1).length ≤ 1000) :
  CtrA Tryz.prog 152 [syV S, t6 t, rsl (fun i => hq S t 1 (gt (S.sp 1) i)) (S.sp 1).length, vi i, vi k] (v1h S t (gt (S.sp 1) i) (gt (S.sp 1) k)) := by
 have h0 : S.ax 0 < 3 := hS.ax zE
 have h1 : S.ax 1 < 3 := hS.ax zE
 have hF0 := q1R h1 (gt (S.sp 1) i) (hS.rt 1 i)
 have hF1 := q1R h1 (gt (S.sp 1) k) (hS.rt 1 k)
 have e3 : ((3 : Int) + ((S.ax 0 : Nat) : Int)).toNat = 3 + S.ax 0 := by omega
 have hbi := hS.sp 1 i
 have hbk := hS.sp 1 k
 refine j0r _ Tryz.func152 rfl rfl Tryz.ntmps152 rfl fun w Z => ?_
 refine zU ?_
 refine v0D ?_
 refine j0V ?_
 refine j0j (x0R rfl) rfl ?_
 refine j0C (q0B (us := t6L t) 6 rfl rfl) rfl ?_
 refine wt ?_
 refine j0j (j0E (is := [0, 1]) (xs := [_, _]) (vs := [.int .i64 (i : Int), .int .i64 (k : Int)]) (us := [.int .i64 (i : Int), .int .i64 (k : Int)]) (row := pr2 i k) (J1S _ _) rfl rfl rfl (Y1z i k)) rfl ?_
 refine wt ?_
 refine j0h (γ := Nat) (fun n => [(2, .av (rsl (fun i => hq S t 1 (gt (S.sp 1) i)) (S.sp 1).length)), (3, .av (vi i)), (4, .av (vi k)), (5, .av (.ptr 9 (syA S))), (6, .own 6 0), (10, .own 10 0), (11, .av (vb false)), (12, .av (vi 0)), (13, .av (vi (S.ax 0 : Nat))), (14, .av (vi (S.ax 1 : Nat))), (15, .own 11 0), (33, .av (.sl 2 1 (pr2 i k))), (34, .av (vi 2)), (35, .av (vi n))])
  (fun n => [(6, .cells ((t6L t).map fun u => .av (.val u))), (10, .cells [.av (vS []), .av (vS []), .av (vS []), .av (vS []), .av (vS []), .av (vS [])]), (11, .cells (K1E (q0g S (gt (S.sp 1) i) : Rat) (q0g S (gt (S.sp 1) k) : Rat) n))]) (fun n => n ≤ 2) (fun n => 2 - n) 0 zO
  (ent zS zT) ?_
 intro n hn2
 match n, hn2 with
 |0, _ =>
  refine wt ?_
  refine j0C (j0R 22 hF0 rfl rfl) rfl ?_
  refine wt ?_
  rw [e3]
  exact j0b 1 zO zO (ent zS zT)
 |1, _ =>
  refine wt ?_
  refine j0C (j0R 22 hF1 rfl rfl) rfl ?_
  refine wt ?_
  rw [e3]
  exact j0b 2 zO zO (ent zS zT)
 |2, _ =>
  refine wt ?_
  by_cases he : q0g S (gt (S.sp 1) i) = q0g S (gt (S.sp 1) k)
  ·rw [show (rtx ((q0g S (gt (S.sp 1) i) : Int) : Rat) == rtx ((q0g S (gt (S.sp 1) k) : Int) : Rat)) = true by rw [he]; exact beq_self_eq_true _]
   refine wt ?_
   refine j0j (j0i (us := t6L t) rfl rfl rfl rfl) rfl ?_
   refine wt ?_
   exact j0v (rvs := [_, _, _]) (τs := [_, _, _]) rfl rfl ⟨.agg (us := t6L t) rfl rfl rfl rfl, .tmp rfl, .tmp rfl, trivial⟩ (by unfold v1h; rw [if_pos he])
  ·rw [show (rtx ((q0g S (gt (S.sp 1) i) : Int) : Rat) == rtx ((q0g S (gt (S.sp 1) k) : Int) : Rat)) = false from beq_eq_false_iff_ne.2 fun e => he (Rat.intCast_inj.1 (Go.Na.rtx_inj e))]
   have hne : ((q0g S (gt (S.sp 1) i) : Int) : Rat) - ((q0g S (gt (S.sp 1) k) : Int) : Rat) ≠ 0 := fun e => he (Rat.intCast_inj.1 (by grind))
   obtain ⟨l1, l2, l3, l4, l5⟩ := v1j hS ht hbi hbk he
   obtain ⟨m1, m2⟩ := k0p hS ht
   have ma := Z0O hS hbi
   have mb := Z0O hS hbk
   have n1 : LR 400 ((q0g S (gt (S.sp 1) i) : Int) : Rat) := Go.Na.LR.mono (q0l (x := q0g S (gt (S.sp 1) i)) zO) zE
   have n2 : LR 400 ((q0g S (gt (S.sp 1) k) : Int) : Rat) := Go.Na.LR.mono (q0l (x := q0g S (gt (S.sp 1) k)) zO) zE
   have u := fun {q : Rat} (h : LR 43 q) => Go.Na.LR.mono h (show 43 ≤ 400 by decide)
   have c1 := z0A (hq S t 1 (gt (S.sp 1) k)) (hq S t 1 (gt (S.sp 1) i)) (u (m2 1 zE _ hbk)) (u (m2 1 zE _ hbi))
   have c2 := z0A _ _ n1 n2
   have c3 := V1z (hq S t 1 (gt (S.sp 1) k) - hq S t 1 (gt (S.sp 1) i)) (((q0g S (gt (S.sp 1) i) : Int) : Rat) - ((q0g S (gt (S.sp 1) k) : Int) : Rat)) (Go.Na.LR.mono (Go.Na.LR.sub (m2 1 (by decide) _ hbk) (m2 1 (by decide) _ hbi)) (by decide)) (by rw [← Rat.intCast_sub]; exact Go.Na.LR.mono (q0l (x := q0g S (gt (S.sp 1) i) - q0g S (gt (S.sp 1) k)) (by omega)) (by decide)) hne
   have c4 := v1U ((q0g S (gt (S.sp 1) i) : Int) : Rat) (V0N S t (gt (S.sp 1) i) (gt (S.sp 1) k)) n1 (u l2)
   have c5 := q0e (((q0g S (gt (S.sp 1) i) : Int) : Rat) * V0N S t (gt (S.sp 1) i) (gt (S.sp 1) k)) (hq S t 1 (gt (S.sp 1) i)) (u l3) (u (m2 1 zE _ hbi))
   have c6 := W0D (((q0g S (gt (S.sp 1) i) : Int) : Rat) * V0N S t (gt (S.sp 1) i) (gt (S.sp 1) k) + hq S t 1 (gt (S.sp 1) i)) (by have := Go.Na.LR.neg l4; unfold J1j at this; rw [Rat.neg_neg] at this; exact Go.Na.LR.mono this (by decide))
   have c7 := Q1b t (-(((q0g S (gt (S.sp 1) i) : Int) : Rat) * V0N S t (gt (S.sp 1) i) (gt (S.sp 1) k) + hq S t 1 (gt (S.sp 1) i))) (V0N S t (gt (S.sp 1) i) (gt (S.sp 1) k)) m1 l4 l2 h1 h0
   refine wt ?_
   refine j0j (j0i (us := t6L t) rfl rfl rfl rfl) rfl ?_
   refine wt ?_
   refine j0j (j0i (us := t6L (q0N S t (gt (S.sp 1) i) (gt (S.sp 1) k))) rfl rfl rfl rfl) rfl ?_
   refine wt ?_
   exact j0v (rvs := [_, _, _]) (τs := [_, _, _]) rfl rfl ⟨.agg (us := t6L (q0N S t (gt (S.sp 1) i) (gt (S.sp 1) k))) rfl rfl rfl rfl, .tmp rfl, .tmp rfl, trivial⟩ (by unfold v1h; rw [if_neg he])
 |n + 3, hn2 => omega
end Go.Proofs.YtfggdokihnopeaaGreatDoor.H
