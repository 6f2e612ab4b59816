/- A part of the proof. -/
import Derived.Calls
import Derived.Sort.Grow
import Derived.Test.YtgepmbjmaljgoaaGreatDoorBak
import Derived.Test.YtgepmbjmaljgoaaGreatDoorBap
set_option linter.unusedVariables false
set_option linter.unusedSimpArgs false
namespace Go.Proofs.YtgepmbjmaljgoaaGreatDoor.H
open Go Go.Vc Go.RowKit Go.Na Go.Lib
set_option maxHeartbeats 4000000
theorem rat_ofb (n d : Int) (hn : -9000000000000000000 ≤ n ∧ n ≤ 9000000000000000000) (hd : -9000000000000000000 ≤ d ∧ d ≤ 9000000000000000000) (h0 : d ≠ 0) : CtrA Tryz.prog 158 [vi n, vi d] (tupOf [vR (Rat.divInt n d), vi 0]) := by
 have h1 := wof_c n zO
 have h2 := wof_c d zO
 have l : ∀ x : Int, -9000000000000000000 ≤ x ∧ x ≤ 9000000000000000000 → LI 1000 x := fun x hx => LI.mono (k := 19) (show x.natAbs < 10 ^ 19 by omega) zE
 have h3 := rat_make n d (l n hn) (l d hd) h0
 refine ctrA _ Tryz.func158 rfl rfl Tryz.ntmps158 rfl fun w Z => ?_
 refine zU ?_
 refine wt ?_
 exact zW
def tpf (n : Tr) : Nat → AV := fun i => match i with | 0 => vi n.x | 1 => vi n.y | _ => vi n.z
theorem dotc_c (n p : Tr) (hn : BT 1000000000000 n) (hp : BT 100000 p) : CtrA Tryz.prog 157 [tp p, .ptr 3 (tpf n)] (vi (tdot n p)) := by
 have h := coord_c p
 obtain ⟨m1, n1⟩ := bn_mul hn.x hp.x
 obtain ⟨m2, n2⟩ := bn_mul hn.y hp.y
 obtain ⟨m3, n3⟩ := bn_mul hn.z hp.z
 refine ctrA _ Tryz.func157 rfl rfl Tryz.ntmps157 rfl fun w Z => ?_
 refine zU ?_
 refine wt ?_
 exact zV
theorem tb42e : Tryz.prog.built 42 [] = some #[.int .i64 0, .string (bs []), .string (bs []), .string (bs []), .slice none 0 0] := by kernel_rfl
theorem tb42k (k : Int) : Tryz.prog.built 42 [(0, .int .i64 k)] = some #[.int .i64 k, .string (bs []), .string (bs []), .string (bs []), .slice none 0 0] := by kernel_rfl
theorem tb202p (n : Int) (p : Option Addr) : Tryz.prog.built 202 [(0, .pointer p), (1, .int .i64 n)] = some #[.pointer p, .int .i64 n] := by kernel_rfl
theorem tq203p (n1 n2 n3 : Int) (p1 p2 p3 : Option Addr) (w : World) : (Instr.buildSlice 203 3 #[(0, .agg #[.pointer p1, .int .i64 n1]), (1, .agg #[.pointer p2, .int .i64 n2]), (2, .agg #[.pointer p3, .int .i64 n3])]).run Tryz.prog w = .ok (.slice (some ⟨w.heap.size, 0, none⟩) 3 3) (w.alloc (.cells #[.pointer p1, .int .i64 n1, .pointer p2, .int .i64 n2, .pointer p3, .int .i64 n3] 202)) := by kernel_rfl
abbrev pZ : AV := .val (.agg #[.int .i64 0, .string (bs []), .string (bs []), .string (bs []), .slice none 0 0])
def pAf (k : Int) (a b c : List UInt8) (s : AV) : Nat → AV := fun i => match i with | 0 => vi k | 1 => vS a | 2 => vS b | 3 => vS c | _ => s
abbrev pA (k : Int) (a b c : List UInt8) (s : AV) : AV := .agg 5 (pAf k a b c s)
theorem pAf_one (k : Int) (a b c : List UInt8) (l : List Nat) : ∀ i, i < 5 → (pAf k a b c (idx l) i).one = true := by
 intro i hi
 rcases (by omega : i = 0 ∨ i = 1 ∨ i = 2 ∨ i = 3 ∨ i = 4) with rfl | rfl | rfl | rfl | rfl <;> rfl
abbrev pR (k : Int) (P : Pl) : AV := pA k (rtx P.A) (rtx P.B) (rtx P.C) (idx P.s)
theorem BT.neg {A : Int} {n : Tr} (h : BT A n) : BT A ⟨-n.x, -n.y, -n.z⟩ := ⟨⟨by have := h.x; show -A ≤ -n.x; omega, by have := h.x; show -n.x ≤ A; omega⟩, ⟨by have := h.y; show -A ≤ -n.y; omega, by have := h.y; show -n.y ≤ A; omega⟩, ⟨by have := h.z; show -A ≤ -n.z; omega, by have := h.z; show -n.z ≤ A; omega⟩⟩
theorem BT.nv {a b c : Tr} (h1 : BT 100000 a) (h2 : BT 100000 b) (h3 : BT 100000 c) : BT 80000000000 (nvP a b c) := ((h2.sub h1).cr (h3.sub h1)).le (by decide)
theorem BT.np {l : List Tr} (hl : RT l) (k a b c : Nat) : BT 80000000000 (nP l k a b c) := by
 unfold nP upP
 split
 ·exact (BT.nv (hl a) (hl b) (hl c)).neg
 ·exact BT.nv (hl a) (hl b) (hl c)
abbrev at3 (a b c : Nat) : AV := .val (.agg #[.int .i64 a, .int .i64 b, .int .i64 c])
theorem BT.sq {A : Int} {n : Tr} (h : BT A n) : ((-A ≤ n.x ∧ n.x ≤ A) ∧ (-A ≤ n.y ∧ n.y ≤ A)) ∧ (-A ≤ n.z ∧ n.z ≤ A) := ⟨⟨h.x, h.y⟩, h.z⟩
def celP (k : Int) (A B C : Rat) : Nat → List SV
 |0 => [.av (vi k), .av (vS []), .av (vS []), .av (vS []), .osl 20]
 |1 => [.av (vi k), .av (vR A), .av (vS []), .av (vS []), .osl 20]
 |2 => [.av (vi k), .av (vR A), .av (vR B), .av (vS []), .osl 20]
 |_ => [.av (vi k), .av (vR A), .av (vR B), .av (vR C), .osl 20]
def thrA (k : Int) : Option Pl → AV
 |none => tupOf [pZ, vb false, vi 0]
 |some P => tupOf [pR k P, vb true, vi 0]
theorem through0_c (l : List Tr) (hl : RT l) (a b c : Nat) (ha : a < l.length) (hb' : b < l.length) (hc : c < l.length) (hn : l.length ≤ 1000) : CtrA Tryz.prog 95 [ts l, vi 0, at3 a b c] (thrA 0 (thr l 0 a b c)) := by
 have h1 := normal_c (gt l a) (gt l b) (gt l c) (hl a) (hl b) (hl c)
 refine ctrA _ Tryz.func95 rfl rfl Tryz.ntmps95 rfl fun w Z => ?_
 refine zU ?_
 refine wt ?_
 (refine cq_cond rfl ?_ ?_ <;> intro hb <;> (try simp only [zA, zB, zG, zC, zD, zN] at hb) <;> (try (exfalso; omega)))
 ·refine wt ?_
  refine sq_g (g_build (t := 42) (is := []) (xs := []) (vs := []) tb42e rfl rfl) rfl ?_
  refine wt ?_
  rw [thr_zero (k := 0) hb]
  exact sq_resN (rvs := [_, _, _]) (τs := [_, _, _]) rfl rfl ⟨.agg (us := [_, _, _, _, _]) rfl rfl rfl rfl, .tmp rfl, .tmp rfl, trivial⟩ rfl
 have hne : cz (nvP (gt l a) (gt l b) (gt l c)) 0 ≠ 0 := hb
 have hpos : 0 < cz (nP l 0 a b c) 0 := upP_pos hne
 have hT0 := @thr_none l 0 a b c zE hne
 have hT1 := @thr_some l 0 a b c zE hne
 have hnb := BT.np hl 0 a b c
 have hmb := bn_dot hnb (hl a)
 have hnP : nP l 0 a b c = upP 0 (nvP (gt l a) (gt l b) (gt l c)) := rfl
 have hm : mP l 0 a b c = tdot (nP l 0 a b c) (gt l a) := rfl
 have hA : aP l 0 a b c = Rat.divInt (mP l 0 a b c) (nP l 0 a b c).x := rfl
 have hB : bP l 0 a b c = Rat.divInt (-(nP l 0 a b c).y) (nP l 0 a b c).x := rfl
 have hC : cP l 0 a b c = Rat.divInt (-(nP l 0 a b c).z) (nP l 0 a b c).x := rfl
 have hnv := (BT.nv (hl a) (hl b) (hl c)).sq
 obtain ⟨⟨⟨_, _⟩, ⟨_, _⟩⟩, ⟨_, _⟩⟩ := hnv
 rw [hA, hB, hC] at hT1
 rw [← hm] at hmb
 generalize mP l 0 a b c = m at *
 generalize nP l 0 a b c = n at *
 refine wt ?_
 refine cq_mid [(0, .av (ts l)), (1, .av (vi 0)), (5, .av (.ptr 3 (fun i => .val ([Value.int .i64 a, .int .i64 b, .int .i64 c].getD i Go.undef)))), (6, .own 10 0), (9, .av (.ptr 3 (tpf n)))] [(10, .cells [.av (vi 0), .av (vS []), .av (vS []), .av (vS []), .av (.val (.slice none 0 0))])] ?_ ?_
 ·(refine cq_cond rfl ?_ ?_ <;> intro hb <;> (try simp only [zA, zB, zG, zC, zD, zN] at hb) <;> (try (exfalso; omega)))
  ·have e : n = ⟨-(nvP (gt l a) (gt l b) (gt l c)).x, -(nvP (gt l a) (gt l b) (gt l c)).y, -(nvP (gt l a) (gt l b) (gt l c)).z⟩ := hnP.trans (if_pos hb)
   refine wt ?_
   rw [e]
   exact sq_meet ((ent_freezec 9 11 (tpf _) rfl rfl rfl).trans (ent zS zT))
  ·have e : n = nvP (gt l a) (gt l b) (gt l c) := hnP.trans (if_neg (by simpa [cz] using hb))
   refine wt ?_
   rw [e]
   exact sq_meet ((ent_freezec 9 11 (tpf _) rfl rfl rfl).trans (ent zS zT))
 have hd0 := dotc_c n (gt l a) (hnb.le zE) (hl a)
 rw [← hm] at hd0
 refine wt ?_
 refine sq_g (g_build (t := 42) (is := [0]) (xs := [_]) (vs := [_]) (tb42k 0) rfl rfl) rfl ?_
 refine wt ?_
 refine cq_loop (γ := Nat) (fun i => [(0, .av (ts l)), (1, .av (vi 0)), (6, .own 10 0), (9, .av (.ptr 3 (tpf n))), (11, .av (.clo 157 1 (fun i => [AV.ptr 3 (tpf n)].getD i .any))), (12, .av (vi m)), (13, .own 11 0), (74, .av (ts l)), (75, .av (vi l.length)), (76, .av (vi i))])
  (fun i => [(10, .cells [.av (vi 0), .av (vS []), .av (vS []), .av (vS []), .av (.val (.slice none 0 0))]), (11, .cells [.av (vi 0), .av (vS []), .av (vS []), .av (vS []), .osl 20]), (20, .row 3 1 (onD l n m i).length (xf (onD l n m i)))]) (fun i => i ≤ l.length ∧ ∀ j, j < i → m ≤ tdot n (gt l j)) (fun i => l.length - i) 0 ⟨Nat.zero_le _, by omega⟩
  ((ent_rowc (r := 11) (off := 4) 20 3 1 (xf []) rfl rfl rfl).trans (ent zS zT)) ?_
 rintro i ⟨hi, hall⟩
 have hol := onD_len l n m i
 refine wt ?_
 (refine cq_cond rfl ?_ ?_ <;> intro hb <;> (try simp only [zA, zB, zG, zC, zD, zN] at hb) <;> (try (exfalso; omega)))
 ·have hil : i < l.length := by omega
  have hd := dotc_c n (gt l i) (hnb.le zE) (hl i)
  have hsu := onD_succ l n m i
  refine wt ?_
  (refine cq_cond rfl ?_ ?_ <;> intro hb <;> (try simp only [zA, zB, zG, zC, zD, zN] at hb) <;> (try (exfalso; omega)))
  ·rw [hT0 hil hb]
   refine wt ?_
   refine sq_g (g_build (t := 42) (is := []) (xs := []) (vs := []) tb42e rfl rfl) rfl ?_
   refine wt ?_
   exact sq_resN (rvs := [_, _, _]) (τs := [_, _, _]) rfl rfl ⟨.agg (us := [_, _, _, _, _]) rfl rfl rfl rfl, .tmp rfl, .tmp rfl, trivial⟩ rfl
  ·have hge : m ≤ tdot n (gt l i) := by omega
   refine wt ?_
   (refine cq_cond rfl ?_ ?_ <;> intro hb <;> (try simp only [zA, zB, zG, zC, zD, zN] at hb) <;> (try (exfalso; omega)))
   ·rw [if_pos hb] at hsu
    refine wt ?_
    exact sq_round (i + 1) ⟨by omega, plt_step hall hge⟩ (by omega) (ent zS ⟨⟨_, rfl, .refl _⟩, ⟨_, rfl, .refl _⟩, ⟨_, rfl, .row (by rw [hsu]) (fun _ _ _ _ => by rw [hsu])⟩, trivial⟩)
   ·rw [if_neg hb] at hsu
    refine wt ?_
    exact sq_round (i + 1) ⟨by omega, plt_step hall hge⟩ (by omega) (ent zS ⟨⟨_, rfl, .refl _⟩, ⟨_, rfl, .refl _⟩, ⟨_, rfl, .row (by rw [hsu]) (fun _ _ _ _ => by rw [hsu])⟩, trivial⟩)
 have hil : i = l.length := by omega
 subst hil
 rw [hT1 hall]
 obtain ⟨⟨⟨_, _⟩, ⟨_, _⟩⟩, ⟨_, _⟩⟩ := hnb.sq
 have hx0 : 0 < n.x := hpos
 refine wt ?_
 refine dq_g (g_build_p (tb202p _) rfl rfl) rfl ?_
 refine wt ?_
 refine dq_g (g_build_p (tb202p _) rfl rfl) rfl ?_
 refine wt ?_
 refine dq_g (g_build_p (tb202p _) rfl rfl) rfl ?_
 refine wt ?_
 refine dq_v (ga_bslice_p 30 rfl (fun p1 p2 p3 w => tq203p _ _ _ p1 p2 p3 w) rfl rfl rfl) rfl rfl ?_
 refine wt ?_
 refine dq_g (g_len_s rfl rfl) rfl ?_
 refine wt ?_
 have qA := rat_ofb m n.x zO zO zO
 have qB := rat_ofb (-n.y) n.x zO zO zO
 have qC := rat_ofb (-n.z) n.x zO zO zO
 generalize Rat.divInt m n.x = A at *
 generalize Rat.divInt (-n.y) n.x = B at *
 generalize Rat.divInt (-n.z) n.x = C at *
 refine cq_loop (γ := Nat) (fun i => [(1, .av (vi 0)), (6, .own 10 0), (9, .av (.ptr 3 (tpf n))), (13, .own 11 0), (123, .osl 30), (124, .av (vi 3)), (125, .av (vi i))])
  (fun i => [(30, .srow 202 2 3 [.own 11 1, .av (vi m), .own 11 2, .av (vi (-n.y)), .own 11 3, .av (vi (-n.z))]), (10, .cells [.av (vi 0), .av (vS []), .av (vS []), .av (vS []), .av (.val (.slice none 0 0))]), (11, .cells (celP 0 A B C i)), (20, .row 3 1 (onD l n m l.length).length (xf (onD l n m l.length)))])
  (fun i => i ≤ 3) (fun i => 3 - i) 0 (Nat.zero_le _) (ent zS zT) ?_
 intro i hi
 match i, hi with
 |0, _ =>
  refine wt ?_
  refine sq_g (g_index_s (k := 0) rfl rfl rfl rfl zO) rfl ?_
  refine wt ?_
  refine sq_g (g_load_sp rfl rfl rfl rfl) rfl ?_
  refine wt ?_
  refine sq_s (g_store_sp rfl rfl rfl rfl rfl) ?_
  refine wt ?_
  exact sq_round 1 zO zO (ent zS zT)
 |1, _ =>
  refine wt ?_
  refine sq_g (g_index_s (k := 1) rfl rfl rfl rfl zO) rfl ?_
  refine wt ?_
  refine sq_g (g_load_sp rfl rfl rfl rfl) rfl ?_
  refine wt ?_
  refine sq_s (g_store_sp rfl rfl rfl rfl rfl) ?_
  refine wt ?_
  exact sq_round 2 zO zO (ent zS zT)
 |2, _ =>
  refine wt ?_
  refine sq_g (g_index_s (k := 2) rfl rfl rfl rfl zO) rfl ?_
  refine wt ?_
  refine sq_g (g_load_sp rfl rfl rfl rfl) rfl ?_
  refine wt ?_
  refine sq_s (g_store_sp rfl rfl rfl rfl rfl) ?_
  refine wt ?_
  exact sq_round 3 zO zO (ent zS zT)
 |3, _ =>
  refine wt ?_
  refine lsq_ent (ent_freeze_in 11 20 4 rfl rfl rfl rfl) ?_
  refine sq_g (g_load_own_aggv (f := pAf 0 (rtx A) (rtx B) (rtx C) (idx (onD l n m l.length))) rfl rfl rfl) rfl ?_
  refine wt ?_
  refine sq_s (g_store_aggv rfl rfl (pAf_one _ _ _ _ _) rfl rfl) ?_
  refine wt ?_
  exact sq_resN (rvs := [_, _, _]) (τs := [_, _, _]) rfl rfl ⟨.aggv (f := pAf 0 (rtx A) (rtx B) (rtx C) (idx (onD l n m l.length))) rfl rfl rfl, .tmp rfl, .tmp rfl, trivial⟩ rfl
 |_ + 4, h => omega
def cmp3 (a b c : Int) : Int := if a ≠ 0 then a else if b ≠ 0 then b else if c ≠ 0 then c else 0
theorem tb208' (a b : ByteArray) : Tryz.prog.built 208 [(0, .string a), (1, .string b)] = some #[.string a, .string b] := by kernel_rfl
theorem tb209' (a b c d e f : ByteArray) : Tryz.prog.built 209 [(0, .agg #[.string a, .string b]), (1, .agg #[.string c, .string d]), (2, .agg #[.string e, .string f])] = some #[.string a, .string b, .string c, .string d, .string e, .string f] := by kernel_rfl
theorem ti209_0 (a b c d e f : ByteArray) (w : World) : (Instr.index 209 (.agg #[.string a, .string b, .string c, .string d, .string e, .string f]) (.int .i64 0)).run Tryz.prog w = .ok (.agg #[.string a, .string b]) w := by kernel_rfl
theorem ti209_1 (a b c d e f : ByteArray) (w : World) : (Instr.index 209 (.agg #[.string a, .string b, .string c, .string d, .string e, .string f]) (.int .i64 1)).run Tryz.prog w = .ok (.agg #[.string c, .string d]) w := by kernel_rfl
theorem ti209_2 (a b c d e f : ByteArray) (w : World) : (Instr.index 209 (.agg #[.string a, .string b, .string c, .string d, .string e, .string f]) (.int .i64 2)).run Tryz.prog w = .ok (.agg #[.string e, .string f]) w := by kernel_rfl
theorem compare_c (k1 k2 : Int) (A B C A' B' C' : Rat) (s s' : AV) (hA : LR 400 A) (hB : LR 400 B) (hC : LR 400 C) (hA' : LR 400 A') (hB' : LR 400 B') (hC' : LR 400 C') :
  CtrA Tryz.prog 97 [pA k1 (rtx A) (rtx B) (rtx C) s, pA k2 (rtx A') (rtx B') (rtx C') s'] (vi (cmp3 (rsg (A - A')) (rsg (B - B')) (rsg (C - C')))) := by
 have h1 := rat_compare A A' hA hA'
 have h2 := rat_compare B B' hB hB'
 have h3 := rat_compare C C' hC hC'
 generalize rsg (A - A') = a at *
 generalize rsg (B - B') = b at *
 generalize rsg (C - C') = c at *
 refine ctrA _ Tryz.func97 rfl rfl Tryz.ntmps97 rfl fun w Z => ?_
 refine zU ?_
 refine wt ?_
 refine sq_g (g_build (t := 208) (is := [0, 1]) (xs := [_, _]) (vs := [_, _]) (tb208' _ _) rfl rfl) rfl ?_
 refine wt ?_
 refine sq_g (g_build (t := 208) (is := [0, 1]) (xs := [_, _]) (vs := [_, _]) (tb208' _ _) rfl rfl) rfl ?_
 refine wt ?_
 refine sq_g (g_build (t := 208) (is := [0, 1]) (xs := [_, _]) (vs := [_, _]) (tb208' _ _) rfl rfl) rfl ?_
 refine wt ?_
 refine sq_g (g_build (t := 209) (is := [0, 1, 2]) (xs := [_, _, _]) (vs := [_, _, _]) (tb209' _ _ _ _ _ _) rfl rfl) rfl ?_
 refine wt ?_
 refine cq_loop (γ := Nat) (fun i => [(24, .av (.val (.agg #[.string (bs (rtx A)), .string (bs (rtx A')), .string (bs (rtx B)), .string (bs (rtx B')), .string (bs (rtx C)), .string (bs (rtx C'))]))), (25, .av (vi i))]) (fun _ => []) (fun i => i ≤ 3 ∧ (0 < i → a = 0) ∧ (1 < i → b = 0) ∧ (2 < i → c = 0)) (fun i => 3 - i) 0 ⟨by omega, by omega, by omega, by omega⟩ (ent zS trivial) ?_
 rintro i ⟨hi, q1, q2, q3⟩
 match i, hi, q1, q2, q3 with
 |0, _, q1, q2, q3 =>
  refine wt ?_
  refine sq_g (g_aindex (ti209_0 _ _ _ _ _ _) rfl rfl) rfl ?_
  refine wt ?_
  (refine cq_cond rfl ?_ ?_ <;> intro hb <;> (try simp only [zA, zB, zG, zC, zD, zN] at hb) <;> (try (exfalso; omega)))
  ·refine wt ?_
   exact sq_res1 rfl (.tmp rfl) (congrArg vi (by unfold cmp3; rw [if_pos hb]))
  ·refine wt ?_
   exact sq_round 1 ⟨by omega, fun _ => hb, fun h => by omega, fun h => by omega⟩ zO (ent zS trivial)
 |1, _, q1, q2, q3 =>
  refine wt ?_
  refine sq_g (g_aindex (ti209_1 _ _ _ _ _ _) rfl rfl) rfl ?_
  refine wt ?_
  (refine cq_cond rfl ?_ ?_ <;> intro hb <;> (try simp only [zA, zB, zG, zC, zD, zN] at hb) <;> (try (exfalso; omega)))
  ·refine wt ?_
   exact sq_res1 rfl (.tmp rfl) (congrArg vi (by unfold cmp3; rw [if_neg (fun h => h (q1 (by omega))), if_pos hb]))
  ·refine wt ?_
   exact sq_round 2 ⟨by omega, fun _ => q1 zO, fun _ => hb, fun h => by omega⟩ zO (ent zS trivial)
 |2, _, q1, q2, q3 =>
  refine wt ?_
  refine sq_g (g_aindex (ti209_2 _ _ _ _ _ _) rfl rfl) rfl ?_
  refine wt ?_
  (refine cq_cond rfl ?_ ?_ <;> intro hb <;> (try simp only [zA, zB, zG, zC, zD, zN] at hb) <;> (try (exfalso; omega)))
  ·refine wt ?_
   exact sq_res1 rfl (.tmp rfl) (congrArg vi (by unfold cmp3; rw [if_neg (fun h => h (q1 (by omega))), if_neg (fun h => h (q2 (by omega))), if_pos hb]))
  ·refine wt ?_
   exact sq_round 3 ⟨by omega, fun _ => q1 zO, fun _ => q2 zO, fun _ => hb⟩ zO (ent zS trivial)
 |3, _, q1, q2, q3 =>
  refine wt ?_
  exact sq_res1 rfl (.tmp rfl) (congrArg vi (by unfold cmp3; rw [if_neg (fun h => h (q1 (by omega))), if_neg (fun h => h (q2 (by omega))), if_neg (fun h => h (q3 (by omega)))]))
 |i + 4, hi, _, _, _ => omega
end Go.Proofs.YtgepmbjmaljgoaaGreatDoor.H
namespace Go.Vdr
open Go
def RD {α : Type} (d : Nat) : Result α → Prop
 |.ok _ w => d ≤ w.drawn
 |.halt _ w => d ≤ w.drawn
theorem RD.le {α : Type} {c d : Nat} (h : c ≤ d) : ∀ {r : Result α}, RD d r → RD c r
 |.ok _ _, k => Nat.le_trans h k
 |.halt _ _, k => Nat.le_trans h k
theorem ask_dr {α : Type} : ∀ (a : Ask α) (w : World), w.drawn ≤ (w.ask a).2.drawn
 |.done a, w => Nat.le_refl _
 |.ask what range k, w => by
  unfold World.ask
  dsimp only
  split
  ·exact ask_dr _ w
  ·exact Nat.le_trans (Nat.le_succ _) (ask_dr (k _) { w with drawn := w.drawn + 1 })
theorem sys_dr (w : World) (c : Sys) : w.drawn ≤ (w.sys c).2.drawn := by
 unfold World.sys
 have h := ask_dr (Kernel.perform c w.os) w
 generalize w.ask (Kernel.perform c w.os) = x at h
 split
 ·exact Nat.le_refl _
 ·exact h
theorem seen_dr {p : Program} {w w' : World} {at_ : Addr} {u : TypeId} {a : Addr} {v : Value} {b : Bool} {t : List Addr} (h : w.viewStore p at_ u a v b = .ok (w', t)) : w'.drawn = w.drawn := by
 unfold World.viewStore at h
 simp only [bind, Except.bind, pure, Except.pure, throw, throwThe, MonadExceptOf.throw] at h
 repeat' (split at h)
 all_goals first
  |(cases h; rfl)
  |(cases h)
  |skip
theorem far_dr {p : Program} {w w' : World} {a : Addr} {v : Value} {b : Bool} {t : List Addr} (h : w.farStore p a v b = .ok (w', t)) : w'.drawn = w.drawn := by
 unfold World.farStore at h
 split at h
 ·split at h
  ·rename_i r hr
   simp only [Except.ok.injEq] at h
   subst h
   exact seen_dr hr
  ·cases h
 ·cases h
theorem freeze_dr (w : World) (a : Addr) (n : Nat) : (w.freeze a n).drawn = w.drawn := by
 unfold World.freeze; split <;> rfl
theorem run_dr {α : Type} (p : Program) : ∀ (m : Sem α) (w : World), RD w.drawn (m.run p w)
 |.pure a, w => Nat.le_refl _
 |.load m a k, w => by
  unfold Sem.run
  split
  ·exact run_dr p _ w
  ·split
   ·exact run_dr p _ w
   ·exact Nat.le_refl _
 |.store m a v k, w => by
  cases v <;> first
   |exact Nat.le_refl _
   |(simp only [Sem.run]
     split
     · split
       · exact Nat.le_refl _
       · exact run_dr p k (w.setCell a _)
     · split
       · rename_i h
         have h1 := far_dr h
         exact RD.le (Nat.le_of_eq h1.symm) (run_dr p k _)
       · exact Nat.le_refl _)
 |.new o k, w => by
  unfold Sem.run
  exact run_dr p (k w.heap.size) { w with heap := w.heap.push o }
 |.shape r k, w => by unfold Sem.run; exact run_dr p _ w
 |.freeze a n k, w => by
  unfold Sem.run
  exact RD.le (Nat.le_of_eq (freeze_dr w a n).symm) (run_dr p k _)
 |.frozen a k, w => by unfold Sem.run; exact run_dr p _ w
 |.getObj r k, w => by
  unfold Sem.run
  split
  ·exact Nat.le_refl _
  ·exact run_dr p _ w
  ·exact Nat.le_refl _
 |.setObj r o k, w => by
  unfold Sem.run
  split
  ·exact Nat.le_refl _
  ·exact run_dr p k { w with heap := w.heap.setIfInBounds r o }
  ·exact Nat.le_refl _
 |.choose q k, w => by
  unfold Sem.run
  split
  ·exact run_dr p _ w
  ·exact RD.le (Nat.le_succ _) (run_dr p _ { w with drawn := w.drawn + 1 })
 |.sys c k, w => by
  unfold Sem.run
  exact RD.le (sys_dr w c) (run_dr p _ _)
 |.program k, w => by unfold Sem.run; exact run_dr p _ w
 |.mark m k, w => by unfold Sem.run; exact run_dr p k w
 |.halt h, w => Nat.le_refl _
theorem runT_dr {α : Type} (p : Program) : ∀ (m : Sem α) (w : World) (es : Array Event), RD w.drawn (m.runT p w es).1
 |.pure a, w, es => Nat.le_refl _
 |.load m a k, w, es => by
  unfold Sem.runT
  split
  ·exact runT_dr p _ w _
  ·split
   ·exact runT_dr p _ w _
   ·exact Nat.le_refl _
 |.store m a v k, w, es => by
  cases v <;> first
   |exact Nat.le_refl _
   |(simp only [Sem.runT]
     split
     · split
       · exact Nat.le_refl _
       · exact runT_dr p k (w.setCell a _) _
     · split
       · rename_i h
         have h1 := far_dr h
         exact RD.le (Nat.le_of_eq h1.symm) (runT_dr p k _ _)
       · exact Nat.le_refl _)
 |.new o k, w, es => by
  unfold Sem.runT
  exact runT_dr p (k w.heap.size) { w with heap := w.heap.push o } _
 |.shape r k, w, es => by unfold Sem.runT; exact runT_dr p _ w _
 |.freeze a n k, w, es => by
  unfold Sem.runT
  exact RD.le (Nat.le_of_eq (freeze_dr w a n).symm) (runT_dr p k _ _)
 |.frozen a k, w, es => by unfold Sem.runT; exact runT_dr p _ w _
 |.getObj r k, w, es => by
  unfold Sem.runT
  split
  ·exact Nat.le_refl _
  ·exact runT_dr p _ w _
  ·exact Nat.le_refl _
 |.setObj r o k, w, es => by
  unfold Sem.runT
  split
  ·exact Nat.le_refl _
  ·exact runT_dr p k { w with heap := w.heap.setIfInBounds r o } _
  ·exact Nat.le_refl _
 |.choose q k, w, es => by
  unfold Sem.runT
  split
  ·exact runT_dr p _ w _
  ·exact RD.le (Nat.le_succ _) (runT_dr p _ { w with drawn := w.drawn + 1 } _)
 |.sys c k, w, es => by
  unfold Sem.runT
  exact RD.le (sys_dr w c) (runT_dr p _ _ _)
 |.program k, w, es => by unfold Sem.runT; exact runT_dr p _ w _
 |.mark m k, w, es => by unfold Sem.runT; exact runT_dr p k w _
 |.halt h, w, es => Nat.le_refl _
def GD (d : Nat) : GStep → Prop
 |.go _ w _ => d ≤ w.drawn
 |.comm _ _ _ _ w _ => d ≤ w.drawn
 |.spawn _ _ w _ => d ≤ w.drawn
 |.count _ w _ => d ≤ w.drawn
 |.timer _ _ w _ => d ≤ w.drawn
 |.alone _ _ w _ => d ≤ w.drawn
 |.newcoro _ _ _ w _ => d ≤ w.drawn
 |.coroswitch _ _ _ w _ => d ≤ w.drawn
 |.collect _ w _ => d ≤ w.drawn
 |.watch _ w _ => d ≤ w.drawn
 |.ended _ _ _ => True
theorem GD_after {d : Nat} {es : Array Event} {s : GStep} (h : GD d s) : GD d (GStep.after es s) := by cases s <;> exact h
theorem GD.le {c d : Nat} (h : c ≤ d) {s : GStep} (k : GD d s) : GD c s := by cases s <;> first | exact Nat.le_trans h k | exact True.intro
theorem rd_ok {α : Type} {p : Program} {m : Sem α} {w w' : World} {a : α} (h : m.run p w = .ok a w') : w.drawn ≤ w'.drawn := by have := run_dr p m w; rw [h] at this; exact this
theorem rd_halt {α : Type} {p : Program} {m : Sem α} {w w' : World} {a : Halt} (h : m.run p w = .halt a w') : w.drawn ≤ w'.drawn := by have := run_dr p m w; rw [h] at this; exact this
theorem rdT_ok {α : Type} {p : Program} {m : Sem α} {w w' : World} {a : α} {es es' : Array Event} (h : m.runT p w es = (.ok a w', es')) : w.drawn ≤ w'.drawn := by have := runT_dr p m w es; rw [h] at this; exact this
theorem rdT_halt {α : Type} {p : Program} {m : Sem α} {w w' : World} {a : Halt} {es es' : Array Event} (h : m.runT p w es = (.halt a w', es')) : w.drawn ≤ w'.drawn := by have := runT_dr p m w es; rw [h] at this; exact this
theorem endWith_dr (d : Nat) (w : World) (fd : Nat) (text : ByteArray) (o : Outcome) : GD d (endWith w fd text o) := by
 unfold endWith
 dsimp only
 split <;> (try split) <;> exact True.intro
theorem endThrow_dr (fr : Frame) (m : String) (w : World) : GD w.drawn (endThrow fr m w) := Nat.le_refl _
theorem endPrinting_dr (p : Program) (fr : Frame) (v : Value) (w : World) : GD w.drawn (endPrinting p fr v w) := by
 unfold endPrinting
 dsimp only
 split
 ·exact endThrow_dr _ _ _
 ·exact True.intro
theorem endFatal_dr (p : Program) (fr : Frame) (callers : List Frame) (dying : Option Dying) (m : String) (w : World) : GD w.drawn (endFatal p fr callers dying m w) := by
 unfold endFatal
 dsimp only
 split
 ·rename_i h
  exact rd_ok h
 ·exact True.intro
 ·exact True.intro
theorem writeOn_dr (p : Program) (fr : Frame) (d : Dying) (f : Fatal) (w : World) : GD w.drawn (writeOn p fr d f w) := by
 unfold writeOn
 dsimp only
 split
 ·exact True.intro
 ·split
  ·rename_i h; exact rdT_ok h
  ·rename_i h; exact rdT_halt h
  ·exact True.intro
  ·exact True.intro
theorem die_dr (p : Program) (fr : Frame) (d : Dying) (w : World) : GD w.drawn (die p fr d w) := by
 unfold die
 split
 ·exact writeOn_dr _ _ _ _ _
 ·split
  ·split
   ·exact Nat.le_refl _
   ·exact endWith_dr _ _ _ _ _
  ·dsimp only
   split
   ·exact Nat.le_refl _
   ·split
    ·rename_i h; exact rd_ok h
    ·exact True.intro
   ·have hd := runT_dr p (invoke (.fn (.method ‹String›) #[]) #[.iface ‹TypeId› ‹Value›]) w #[]
    refine GD_after ?_
    split
    ·rename_i h; rw [h] at hd; exact hd
    ·rename_i h; rw [h] at hd; exact hd
    ·exact True.intro
    ·rename_i h; rw [h] at hd; exact GD.le hd (endPrinting_dr _ _ _ _)
    ·exact True.intro
   ·exact True.intro
theorem doReturn_dr (p : Program) (main : Bool) (fr : Frame) (callers : List Frame) (dying : Option Dying) (v : Value) (w : World) : GD w.drawn (doReturn p main fr callers dying v w) := by
 unfold doReturn
 split
 ·split <;> exact Nat.le_refl _
 ·split
  ·exact Nat.le_refl _
  ·exact True.intro
  ·split
   ·exact Nat.le_refl _
   ·split
    ·exact Nat.le_refl _
    ·exact True.intro
theorem GD_ite {c : Prop} [Decidable c] {d : Nat} {a b : GStep} (h1 : c → GD d a) (h2 : ¬ c → GD d b) : GD d (if c then a else b) := by
 split
 ·exact h1 (by assumption)
 ·exact h2 (by assumption)
theorem callDeferred_dr (p : Program) (fr : Frame) (callers : List Frame) (dying : Option Dying) (d : Deferred) (w : World) : GD w.drawn (callDeferred p fr callers dying d w) := by
 unfold callDeferred
 refine GD_ite (fun _ => True.intro) (fun _ => ?_)
 ·dsimp only
  have hd := runT_dr p (invoke d.target d.args) w #[]
  refine GD_after ?_
  split <;> (rename_i h; rw [h] at hd) <;> first
   |exact hd
   |exact True.intro
   |exact GD.le hd (endFatal_dr _ _ _ _ _ _)
   |exact GD.le hd (endThrow_dr _ _ _)
   |(split <;> exact hd)
theorem unwind_dr (p : Program) (main : Bool) (fr : Frame) (callers : List Frame) (dying : Option Dying) (w : World) : GD w.drawn (unwind p main fr callers dying w) := by
 unfold unwind
 split
 ·rename_i block ds _
  have hd := runT_dr p (Instr.takeDeferred ‹Nat›) w #[]
  dsimp only
  refine GD_after ?_
  split
  ·rename_i h; rw [h] at hd; exact hd
  ·exact True.intro
 ·exact callDeferred_dr _ _ _ _ _ _
 ·split
  ·exact True.intro
  ·split
   ·exact True.intro
   ·split
    ·exact Nat.le_refl _
    ·split
     ·split
      ·exact Nat.le_refl _
      ·split
       ·rename_i h; exact rd_ok h
       ·exact True.intro
       ·exact True.intro
     ·split
      ·exact endPrinting_dr _ _ _ _
      ·exact True.intro
  ·split
   ·exact doReturn_dr _ _ _ _ _ _ _
   ·rename_i fn _
    have hd := runT_dr p (results fn fr.tmps) w #[]
    dsimp only
    refine GD_after ?_
    split
    ·rename_i h; rw [h] at hd; exact GD.le hd (doReturn_dr _ _ _ _ _ _ _)
    ·exact True.intro
    ·exact True.intro
theorem early_dr (p : Program) (fr : Frame) (callers : List Frame) (dying : Option Dying) (g : Nat) (w : World) : GD w.drawn (early p fr callers dying g w) := by
 have ny : ∀ w' : World, w.drawn ≤ w'.drawn → GD w.drawn (match w'.heap[g]? with
  |some (.pending c elem) =>
   .go { frame := fr, callers, status := .running, dying } { w' with heap := w'.heap.setIfInBounds g (.cells c elem) }
  |_ => .ended (.stuck "early: the variable does not wait" (fr.pos p)) w') := by
  intro w' h
  split
  ·exact h
  ·exact True.intro
 unfold early
 dsimp only
 split
 ·exact ny w (Nat.le_refl _)
 ·split
  ·exact True.intro
  ·split
   ·exact ny w (Nat.le_refl _)
   ·split
    ·exact ny w (Nat.le_refl _)
    ·split
     ·exact True.intro
     ·exact Nat.le_refl _
     ·exact True.intro
     ·exact ny w (Nat.le_refl _)
     ·split
      ·exact Nat.le_refl _
      ·split
       ·exact ny w (Nat.le_refl _)
       ·split
        ·rename_i h; exact ny _ (rd_ok h)
        ·rename_i h; exact rd_ok h
        ·exact True.intro
theorem apply_dr (p : Program) (b : Bool) (fr : Frame) (callers : List Frame) (dying : Option Dying) (s : Sem Next) (w : World) : GD w.drawn (stepG.apply p b fr callers dying s w) := by
 unfold stepG.apply
 have hd1 := runT_dr p s w #[]
 have hd2 := run_dr p s w
 have hd : RD w.drawn (if b = true then s.runT p w #[] else (s.run p w, #[])).1 := by split <;> assumption
 dsimp only
 generalize (if b = true then s.runT p w #[] else (s.run p w, #[])) = x at hd
 obtain ⟨r, es⟩ := x
 refine GD_after ?_
 dsimp only at hd ⊢
 clear hd1 hd2
 cases r with
 |ok n w' =>
  cases n <;> (try dsimp only) <;> first
   |exact hd
   |(split <;> first | exact hd | exact True.intro | exact GD.le hd (endThrow_dr _ _ _))
   |(split <;> split <;> exact hd)
 |halt h w' =>
  cases h with
  |unsupported u =>
   cases u <;> (try dsimp only) <;> first
    |exact True.intro
    |exact GD.le hd (early_dr _ _ _ _ _ _)
  |fatal m => exact GD.le hd (endFatal_dr _ _ _ _ _ _)
  |throw m => exact GD.le hd (endThrow_dr _ _ _)
  |_ => first
   |exact hd
   |exact True.intro
theorem oper_dr (p : Program) (b : Bool) (fr : Frame) (callers : List Frame) (dying : Option Dying) (w : World) : GD w.drawn (stepG.oper p b fr callers dying w) := by
 unfold stepG.oper
 split
 ·exact True.intro
 ·split <;> exact apply_dr _ _ _ _ _ _ _
theorem rdT1_ok {α : Type} {p : Program} {m : Sem α} {w w' : World} {a : α} {es : Array Event} (h : (m.runT p w es).1 = .ok a w') : w.drawn ≤ w'.drawn := by have := runT_dr p m w es; rw [h] at this; exact this
theorem rdT1_halt {α : Type} {p : Program} {m : Sem α} {w w' : World} {a : Halt} {es : Array Event} (h : (m.runT p w es).1 = .halt a w') : w.drawn ≤ w'.drawn := by have := runT_dr p m w es; rw [h] at this; exact this
theorem GD_elim {α : Type} {d : Nat} {o : Option α} {a : GStep} {f : α → GStep} (h1 : GD d a) (h2 : ∀ x, GD d (f x)) : GD d (o.elim a f) := by
 cases o
 ·exact h1
 ·exact h2 _
theorem leave_dr (p : Program) (main : Bool) (fr : Frame) (callers : List Frame) (dying : Option Dying) (jump : Option Code) (w : World) (c : Prop) [Decidable c] (why : String) : GD w.drawn (match fr.roundOf with
   |none => if c then .go { frame := { fr with mode := .returning }, callers, status := .running, dying } w else .ended (.stuck why (fr.pos p)) w
   |some l =>
    let (r, es) := (Instr.endRound l jump).runT p w #[]
    GStep.after (seen p fr.fn es) <| match r with
    |.ok v w => doReturn p main fr callers dying v w
    |.halt _ w => .ended (.stuck "range over a function: no such loop" (fr.pos p)) w) := by
 split
 ·exact GD_ite (fun _ => Nat.le_refl _) (fun _ => True.intro)
 ·rename_i l _
  have hd := runT_dr p (Instr.endRound l jump) w #[]
  dsimp only
  refine GD_after ?_
  split
  ·rename_i h; rw [h] at hd; exact GD.le hd (doReturn_dr _ _ _ _ _ _ _)
  ·exact True.intro
theorem exec_dr (p : Program) (main b : Bool) (fr : Frame) (callers : List Frame) (dying : Option Dying) (w : World) : GD w.drawn (stepG.exec p main b fr callers dying w) := by
 unfold stepG.exec
 dsimp only
 split
 ·exact leave_dr _ _ _ _ _ _ _ _ _
 ·exact leave_dr _ _ _ _ _ _ _ _ _
 all_goals first
  |exact Nat.le_refl _
  |exact True.intro
  |exact apply_dr _ _ _ _ _ _ _
  |skip
 ·split
  ·exact Nat.le_refl _
  ·exact True.intro
 ·exact GD_elim (leave_dr _ _ _ _ _ _ _ _ _) (fun _ => Nat.le_refl _)
 ·exact GD_elim (leave_dr _ _ _ _ _ _ _ _ _) (fun _ => Nat.le_refl _)
 ·refine GD_after ?_
  split
  ·rename_i h
   exact GD.le (rdT1_ok h) (apply_dr _ _ _ _ _ _ _)
  ·exact True.intro
 ·refine GD_after ?_
  split
  ·rename_i h
   exact rdT1_ok h
  ·rename_i h
   exact rdT1_halt h
  ·exact True.intro
 ·exact GD_elim True.intro (fun _ => apply_dr _ _ _ _ _ _ _)
 ·refine GD_ite (fun _ => Nat.le_refl _) (fun _ => ?_)
  split
  ·rename_i h; exact rd_ok h
  ·exact True.intro
 ·exact GD_ite (fun _ => oper_dr _ _ _ _ _ _) (fun _ => Nat.le_refl _)
theorem stepG_dr (p : Program) (main b : Bool) (g : Goroutine) (w : World) : GD w.drawn (stepG p main g w b) := by
 unfold stepG
 dsimp only
 split
 ·exact die_dr _ _ _ _
 ·exact exec_dr _ _ _ _ _ _ _
 ·exact unwind_dr _ _ _ _ _ _
def SD (d : Nat) : Stepped → Prop
 |.next m => d ≤ m.world.drawn
 |.ended _ _ => True
theorem SD.le {c d : Nat} (h : c ≤ d) : ∀ {s : Stepped}, SD d s → SD c s
 |.next _, k => Nat.le_trans h k
 |.ended _ _, _ => True.intro
theorem waitingAt_dr {rest : Rest} {cases : Array CommCase} {w w' : World} (h : waitingAt rest cases w = some w') : w.drawn ≤ w'.drawn := by
 unfold waitingAt at h
 split at h
 ·split at h
  ·cases h; exact Nat.le_refl _
  ·cases h
 ·cases h; exact Nat.le_refl _
theorem SD_ite {c : Prop} [Decidable c] {d : Nat} {a b : Stepped × Array MemOp} (h1 : c → SD d a.1) (h2 : ¬ c → SD d b.1) : SD d (if c then a else b).1 := by
 split
 ·exact h1 (by assumption)
 ·exact h2 (by assumption)
theorem SD_ite' {c : Prop} [Decidable c] {d : Nat} {a b : Stepped} (h1 : c → SD d a) (h2 : ¬ c → SD d b) : SD d (if c then a else b) := by
 split
 ·exact h1 (by assumption)
 ·exact h2 (by assumption)
theorem SD_throw {d : Nat} {fr : Frame} {s : String} {w w' : World} {g : Goroutine} {es : Array Event} (h : d ≤ w.drawn) (h2 : endThrow fr s w = .go g w' es) : d ≤ w'.drawn := by
 have h3 := endThrow_dr fr s w
 rw [h2] at h3
 exact Nat.le_trans h h3
theorem communicate_dr (p : Program) (rest : Rest) (gs : Array Goroutine) (i : Nat) (g : Goroutine) (cases : Array CommCase) (blocking : Bool) (shape : CommShape) (w : World) : SD w.drawn (communicate p rest gs i g cases blocking shape w).1 := by
 unfold communicate
 dsimp only
 refine SD_ite (fun _ => True.intro) (fun _ => ?_)
 refine SD_ite (fun _ => ?_) (fun _ => ?_)
 ·refine SD_ite (fun _ => ?_) (fun _ => Nat.le_refl _)
  split
  ·rename_i h; exact waitingAt_dr h
  ·exact True.intro
 ·split
  ·exact True.intro
  ·rename_i h
   have hw := rd_ok h
   refine SD.le hw ?_
   clear h
   split
   ·split
    ·rename_i h; exact rd_halt h
    ·exact True.intro
   ·exact Nat.le_refl _
   ·exact Nat.le_refl _
   ·split
    ·exact Nat.le_refl _
    ·split
     ·rename_i h; have h2 := rd_ok h; exact h2
     ·exact True.intro
   ·exact Nat.le_refl _
   ·exact Nat.le_refl _
   ·exact True.intro
theorem look_dr (p : Program) (gs : Array Goroutine) (rest : Rest) (w : World) : SD w.drawn (look p gs rest w) := by
 unfold look
 split
 ·dsimp only
  split
  ·exact True.intro
  ·split
   ·exact True.intro
   ·split
    ·rename_i h; have h2 := rd_ok (w := w) h; exact h2
    ·exact True.intro
    ·exact True.intro
 ·exact True.intro
theorem drain_dr (w : World) (c : Nat) : (drain w c).2.drawn = w.drawn := by
 unfold drain; split <;> rfl
theorem retime_dr (m : Machine) (k : Nat) (t : Timer) (a b : Nat) : (retime m k t a b).2.world.drawn = m.world.drawn := by
 unfold retime
 dsimp only
 split
 ·exact drain_dr _ _
 ·rfl
theorem named_dr {m : Machine} {var : Addr} {f : Nat → Timer → Value × Machine} {v : Value} {m' : Machine} (hf : ∀ k t, (f k t).2.world.drawn = m.world.drawn) (h : timerOp.named m var f = .ok (v, m')) : m'.world.drawn = m.world.drawn := by
 unfold timerOp.named at h
 split at h
 ·simp only [Except.ok.injEq] at h
  have := hf ‹Nat› (m.rest.timers.getD ‹Nat› default)
  rw [h] at this
  exact this
 ·cases h
theorem opened_dr {m m' : Machine} {var : Addr} (h : timerOp.opened m var = some m') : m'.world.drawn = m.world.drawn := by
 unfold timerOp.opened at h
 split at h
 ·split at h
  ·cases h; rfl
  ·cases h
 ·cases h; rfl
theorem timerOp_dr {m m' : Machine} {op : TimerOp} {v : Value} (h : timerOp m op = .ok (v, m')) : m'.world.drawn = m.world.drawn := by
 unfold timerOp at h
 split at h
 ·split at h
  ·simp only [Except.ok.injEq, Prod.mk.injEq] at h
   rw [← h.2]; rfl
  ·split at h
   ·split at h
    ·cases h
    ·simp only [Except.ok.injEq, Prod.mk.injEq] at h
     rw [← h.2]
   ·cases h
 ·exact named_dr (fun k t => retime_dr _ _ _ _ _) h
 ·split at h
  ·rename_i h2
   have e := opened_dr h2
   exact named_dr (fun k t => (retime_dr _ _ _ _ _).trans e) h
  ·cases h
 ·simp only [Except.ok.injEq, Prod.mk.injEq] at h
  rw [← h.2]; rfl
theorem runT_step_dr (p : Program) (m : Machine) (i : Nat) (b : Bool) : SD m.world.drawn (Go.runT p m i b).1 := by
 unfold Go.runT
 dsimp only
 have hg := stepG_dr p (i == 0) b (m.gs.swapAt! i { (default : Goroutine) with status := .finished }).1 m.world
 split <;> (rename_i h; rw [h] at hg) <;> first
  |exact True.intro
  |exact hg
  |exact SD.le hg (communicate_dr _ _ _ _ _ _ _ _ _)
  |exact SD.le hg (look_dr _ _ _ _)
  |skip
 ·exact SD_ite' (fun _ => True.intro) (fun _ => hg)
 ·dsimp only
  split
  ·exact hg
  ·split
   ·rename_i h2
    exact SD_throw hg h2
   ·exact True.intro
  ·exact True.intro
 ·dsimp only
  split
  ·rename_i h2
   have h3 := timerOp_dr h2
   show m.world.drawn ≤ _
   rw [h3]; exact hg
  ·split
   ·rename_i h2
    exact SD_throw hg h2
   ·exact True.intro
  ·exact True.intro
  ·exact True.intro
theorem serve_dr (p : Program) (m : Machine) (k : Nat) : SD m.world.drawn (serve p m k) := by
 unfold serve
 split
 ·exact True.intro
 ·exact Nat.le_refl _
 ·dsimp only
  split
  ·exact True.intro
  ·exact Nat.le_refl _
def MD (d : Nat) : Move → Prop
 |.goroutine m _ => d ≤ m.world.drawn
 |.machine s _ => SD d s
theorem MD.le {c d : Nat} (h : c ≤ d) : ∀ {s : Move}, MD d s → MD c s
 |.goroutine _ _, k => Nat.le_trans h k
 |.machine _ _, k => SD.le h k
theorem pick_dr (p : Program) (m : Machine) (rs : List Nat) : MD m.world.drawn (match (choose (.sched rs.length)).run p m.world with
   |.halt _ w => .machine (.ended (.stuck "sched" "") w)
   |.ok k world =>
    if rs.length ≤ 1 then .goroutine { m with world } (rs.getD k 0) else
    match (choose (.extern "sched.slice" 65536)).run p world with
    |.halt _ w => .machine (.ended (.stuck "sched.slice" "") w)
    |.ok n world => .goroutine { m with world, rest := { m.rest with slice := if n = 0 then none else some (rs.getD k 0, n) } } (rs.getD k 0)) := by
 split
 ·exact True.intro
 ·rename_i h
  have h1 := rd_ok h
  split
  ·exact h1
  ·split
   ·exact True.intro
   ·rename_i h
    have h2 := rd_ok h
    exact Nat.le_trans h1 h2
theorem askOn_dr (p : Program) (m : Machine) : MD m.world.drawn (askOn p m) := by
 unfold askOn
 dsimp only
 split
 ·exact True.intro
 ·rename_i h
  have h1 := rd_ok h
  split
  ·exact SD.le h1 (serve_dr p _ _)
  ·split
   ·split
    ·exact h1
    ·split
     ·exact h1
     ·split <;> exact True.intro
   ·split
    ·exact MD.le h1 (pick_dr p { m with world := _ } _)
    ·split
     ·exact True.intro
     ·rename_i h
      have h2 := rd_ok h
      exact MD.le (Nat.le_trans h1 h2) (pick_dr p { m with world := _ } _)
     ·rename_i h
      have h2 := rd_ok h
      exact Nat.le_trans h1 h2
     ·rename_i h
      have h2 := rd_ok h
      exact MD.le (Nat.le_trans h1 h2) (pick_dr p (Machine.advanceTo { m with world := _ } _) _)
theorem ask_dr' (p : Program) (m : Machine) : MD m.world.drawn (ask p m) := by
 unfold Go.ask
 split
 ·split
  ·exact True.intro
  ·rename_i h
   have h1 := rd_ok h
   split
   ·rename_i h2
    have h3 := look_dr p m.gs m.rest ‹World›
    rw [h2] at h3
    exact MD.le (Nat.le_trans h1 h3) (askOn_dr p _)
   ·exact SD.le h1 (look_dr p _ _ _)
  ·rename_i h
   have h1 := rd_ok h
   exact MD.le h1 (askOn_dr p { m with world := _ })
 ·exact askOn_dr p m
theorem move_dr (p : Program) (m : Machine) : MD m.world.drawn (move p m) := by
 unfold move
 split
 ·split
  ·exact Nat.le_refl _
  ·exact True.intro
 ·split
  ·split
   ·exact Nat.le_refl _
   ·exact ask_dr' p { m with rest := _ }
  ·exact ask_dr' p m
theorem step_dr {p : Program} {m m' : Machine} (h : step p m = .next m') : m.world.drawn ≤ m'.world.drawn := by
 have h1 : SD m.world.drawn (step p m) := by
  unfold step stepT
  have hm := move_dr p m
  split
  ·rename_i h2
   rw [h2] at hm
   exact SD.le hm (runT_step_dr p _ _ _)
  ·rename_i h2
   rw [h2] at hm
   exact hm
 rw [h] at h1
 exact h1
theorem steps_dr {p : Program} {m m' : Machine} (h : Steps p m m') : m.world.drawn ≤ m'.world.drawn := by
 obtain ⟨n, hn⟩ := h
 induction n generalizing m with
 |zero => simp [runN] at hn; rw [hn]; exact Nat.le_refl _
 |succ n ih =>
  simp only [runN] at hn
  cases hs : step p m with
  |next m1 => rw [hs] at hn; exact Nat.le_trans (step_dr hs) (ih hn)
  |ended o w => rw [hs] at hn; simp at hn
theorem calls_dr {P : Program} {f : FuncId} {args : Array Value} {w : World} {R : Ending → World → Prop} (h : Calls P f args w R) (hR : ∀ e w', R e w' → e ≠ .outgrown) : Calls P f args w (fun e w' => R e w' ∧ w.drawn ≤ w'.drawn) := by
 intro cs
 obtain ⟨e, w', fr, h1, h2, h3, h4⟩ := h cs
 refine ⟨e, w', fr, ⟨h1, ?_⟩, h2, h3, h4⟩
 have : Steps P (lone (Frame.enter P f args .normal) cs w) (lone fr cs w') := by
  cases e with
  |returned v => exact h2
  |panicked c => exact h2
  |outgrown => exact absurd rfl (hR _ _ h1)
 exact steps_dr this
end Go.Vdr
namespace Go.Proofs.YtgepmbjmaljgoaaGreatDoor.H
open Go Go.Vc Go.RowKit Go.Sort Go.Na
set_option maxHeartbeats 1000000
theorem rsg_neg {q : Rat} : rsg q < 0 ↔ q < 0 := by
 have h := @Rat.num_nonneg q
 unfold rsg
 split
 ·grind
 ·split <;> grind
theorem rsg_zero {q : Rat} : rsg q = 0 ↔ q = 0 := by
 unfold rsg
 rw [← Rat.num_eq_zero]
 split
 ·simp [*]
 ·split <;> simp [*]
structure Raw where
 k : Int
 A : Rat
 B : Rat
 C : Rat
 p : Option Addr
 n : Nat
 c : Nat
 hA : LR 400 A
 hB : LR 400 B
 hC : LR 400 C
theorem LR0' : LR 400 0 := ⟨.small (by decide) (by decide), .small (by decide) (by decide)⟩
instance : Inhabited Raw := ⟨⟨0, 0, 0, 0, none, 0, 0, LR0', LR0', LR0'⟩⟩
def encR (x : Raw) : List Value := [.int .i64 x.k, .string (bs (rtx x.A)), .string (bs (rtx x.B)), .string (bs (rtx x.C)), .slice x.p x.n x.c]
def cfR (x y : Raw) : Int := cmp3 (rsg (x.A - y.A)) (rsg (x.B - y.B)) (rsg (x.C - y.C))
def lt3 (A B C A' B' C' : Rat) : Prop := A < A' ∨ A = A' ∧ (B < B' ∨ B = B' ∧ C < C')
instance (A B C A' B' C' : Rat) : Decidable (lt3 A B C A' B' C') := by unfold lt3; infer_instance
theorem cmp3_lt (A B C A' B' C' : Rat) : cmp3 (rsg (A - A')) (rsg (B - B')) (rsg (C - C')) < 0 ↔ lt3 A B C A' B' C' := by
 have a1 : rsg (A - A') < 0 ↔ A < A' := by rw [rsg_neg]; grind
 have a2 : rsg (A - A') = 0 ↔ A = A' := by rw [rsg_zero]; grind
 have b1 : rsg (B - B') < 0 ↔ B < B' := by rw [rsg_neg]; grind
 have b2 : rsg (B - B') = 0 ↔ B = B' := by rw [rsg_zero]; grind
 have c1 : rsg (C - C') < 0 ↔ C < C' := by rw [rsg_neg]; grind
 have c2 : rsg (C - C') = 0 ↔ C = C' := by rw [rsg_zero]; grind
 generalize rsg (A - A') = a at *
 generalize rsg (B - B') = b at *
 generalize rsg (C - C') = c at *
 unfold cmp3 lt3
 by_cases ha : a = 0
 ·rw [if_neg (fun h => h ha)]
  by_cases hb : b = 0
  ·rw [if_neg (fun h => h hb)]
   by_cases hc : c = 0
   ·rw [if_neg (fun h => h hc)]
    have := a2.1 ha; have := b2.1 hb; have := c2.1 hc
    subst_vars
    grind
   ·rw [if_pos hc]
    have := a2.1 ha; have := b2.1 hb
    grind
  ·rw [if_pos hb]
   have := a2.1 ha
   grind
 ·rw [if_pos ha]
  grind
theorem cmp3_eq (A B C A' B' C' : Rat) : cmp3 (rsg (A - A')) (rsg (B - B')) (rsg (C - C')) = 0 ↔ A = A' ∧ B = B' ∧ C = C' := by
 have a2 : rsg (A - A') = 0 ↔ A = A' := by rw [rsg_zero]; grind
 have b2 : rsg (B - B') = 0 ↔ B = B' := by rw [rsg_zero]; grind
 have c2 : rsg (C - C') = 0 ↔ C = C' := by rw [rsg_zero]; grind
 rw [← a2, ← b2, ← c2]
 unfold cmp3
 split
 ·omega
 ·split
  ·omega
  ·split <;> omega
theorem ltR (x y : Raw) : ltOf cfR x y = decide (lt3 x.A x.B x.C y.A y.B y.C) := by
 unfold ltOf cfR
 rw [Bool.eq_iff_iff, decide_eq_true_eq, decide_eq_true_eq]
 exact cmp3_lt _ _ _ _ _ _
theorem swoR : SWO (ltOf cfR) := ⟨fun x => by rw [ltR]; simp [lt3], fun x y z h1 h2 => by rw [ltR, decide_eq_true_eq] at *; unfold lt3 at *; grind, fun x y z h1 h2 => by rw [ltR, decide_eq_false_iff_not] at *; unfold lt3 at *; grind⟩
theorem grow_of {W w' : World} (h : Below W.heap.size W w') (hd : W.drawn ≤ w'.drawn) : ∃ q os', w' = grow (W.drewN q) os' := by
 refine ⟨w'.drawn - W.drawn, w'.heap.extract W.heap.size w'.heap.size, ?_⟩
 obtain ⟨hp, tp, dr, os, out⟩ := w'
 obtain ⟨h1, h2, h3, h4, h5⟩ := h
 dsimp only at *
 subst h1 h2 h3
 simp only [grow, World.drewN, World.mk.injEq]
 refine ⟨?_, trivial, by omega, trivial, trivial⟩
 apply Array.ext_getElem?
 intro k
 by_cases hk : k < W.heap.size
 ·rw [h5 k hk, Array.getElem?_append_left hk]
 ·rw [Array.getElem?_append_right (by omega), Array.getElem?_extract]
  by_cases h6 : k < hp.size
  ·rw [if_pos (by simp; omega), show W.heap.size + (k - W.heap.size) = k by omega]
  ·rw [if_neg (by simp; omega), Array.getElem?_eq_none (by omega)]
theorem cmp_lays (x y : Raw) {W : World} {Z : Zone} (hZ : ZOk Z W) : Calls Tryz.prog 97 #[.agg (encR x).toArray, .agg (encR y).toArray] W fun e w' => e = .returned (.int .i64 (cfR x y)) ∧ ∃ q os', w' = grow (W.drewN q) os' := by
 have hc := compare_c x.k y.k x.A x.B x.C y.A y.B y.C (.val (.slice x.p x.n x.c)) (.val (.slice y.p y.n y.c)) x.hA x.hB x.hC y.hA y.hB y.hC
 have hv : ∀ x : Raw, (pA x.k (rtx x.A) (rtx x.B) (rtx x.C) (.val (.slice x.p x.n x.c))).ok Z W (.agg (encR x).toArray) := by
  intro x
  refine ⟨encR x, rfl, rfl, fun i hi => ?_⟩
  rcases (by omega : i = 0 ∨ i = 1 ∨ i = 2 ∨ i = 3 ∨ i = 4) with rfl | rfl | rfl | rfl | rfl <;> exact ⟨_, rfl, rfl⟩
 have h := Go.Vdr.calls_dr (hc.calls W Z [.agg (encR x).toArray, .agg (encR y).toArray] hZ ⟨hv x, hv y, trivial⟩) (fun e w' ⟨v, Z', he, _⟩ => by rw [he]; simp)
 refine h.mono ?_
 rintro e w' ⟨⟨v, Z', rfl, hb, _, _, _, hr⟩, hd⟩
 exact ⟨by rw [show v = .int .i64 (cfR x y) from hr], grow_of hb hd⟩
def leP (a b : Pl) : Bool := !decide (lt3 b.A b.B b.C a.A a.B a.C)
def srtP (L : List Pl) : List Pl := L.mergeSort leP
theorem leP_tr : ∀ a b c : Pl, leP a b = true → leP b c = true → leP a c = true := fun a b c h1 h2 => by
 unfold leP at *
 rw [Bool.not_eq_true', decide_eq_false_iff_not] at *
 unfold lt3 at *
 grind
theorem leP_to : ∀ a b : Pl, (leP a b || leP b a) = true := fun a b => by
 unfold leP
 rw [Bool.or_eq_true, Bool.not_eq_true', Bool.not_eq_true', decide_eq_false_iff_not, decide_eq_false_iff_not]
 unfold lt3
 grind
theorem srtP_of {L L' : List Pl} (hu : ∀ f ∈ L, ∀ g ∈ L, eqP f g → f = g) (hp : L'.Perm L) (hs : L'.Pairwise (fun a b => leP a b = true)) : L' = srtP L := by
 refine List.Perm.eq_of_pairwise (le := fun a b => leP a b = true) (fun a b ha hb h1 h2 => ?_) hs (List.pairwise_mergeSort leP_tr leP_to L) (hp.trans (List.mergeSort_perm L _).symm)
 refine hu a (hp.mem_iff.1 ha) b ((List.mergeSort_perm L _).mem_iff.1 hb) ?_
 unfold leP at h1 h2
 rw [Bool.not_eq_true', decide_eq_false_iff_not] at h1 h2
 unfold lt3 at h1 h2
 unfold eqP
 grind
theorem all2_perm {α β : Type} {R : α → β → Prop} {xs ys : List β} (h : xs.Perm ys) : ∀ {L : List α}, All2 R L xs → ∃ L', L'.Perm L ∧ All2 R L' ys := by
 induction h with
 |nil => intro L hL; exact ⟨L, List.Perm.refl _, hL⟩
 |cons x _ ih =>
  intro L hL
  match L, hL with
  |a :: L, hL =>
   obtain ⟨L', h1, h2⟩ := ih hL.2
   exact ⟨a :: L', h1.cons a, hL.1, h2⟩
 |swap x y l =>
  intro L hL
  match L, hL with
  |a :: b :: L, hL => exact ⟨b :: a :: L, List.Perm.swap _ _ _, hL.2.1, hL.1, hL.2.2⟩
 |trans _ _ ih1 ih2 =>
  intro L hL
  obtain ⟨L1, p1, h1⟩ := ih1 hL
  obtain ⟨L2, p2, h2⟩ := ih2 h1
  exact ⟨L2, p2.trans p1, h2⟩
theorem all2_get {α β : Type} {R : α → β → Prop} : ∀ {L : List α} {xs : List β} {i : Nat} {a : α} {x : β}, All2 R L xs → L[i]? = some a → xs[i]? = some x → R a x
 |_ :: _, _ :: _, 0, _, _, h, h1, h2 => by simp at h1 h2; subst h1 h2; exact h.1
 |_ :: _, _ :: _, i + 1, _, _, h, h1, h2 => all2_get (i := i) h.2 (by simpa using h1) (by simpa using h2)
def gP (L : List Pl) (i : Nat) : Pl := L.getD i default
def pf5 (k : Int) (L : List Pl) : Nat → Nat → AV := fun i => pAf k (rtx (gP L i).A) (rtx (gP L i).B) (rtx (gP L i).C) (idx (gP L i).s)
def RF (k : Int) (Z : Zone) (w : World) (f : Pl) (x : Raw) : Prop := x.k = k ∧ x.A = f.A ∧ x.B = f.B ∧ x.C = f.C ∧ AV.ok Z w (idx f.s) (.slice x.p x.n x.c)
theorem isAgg42 (w : World) : (isAgg 42).run Tryz.prog w = .ok true w := by kernel_rfl
theorem size42 (w : World) : (Go.sizeOf 42).run Tryz.prog w = .ok 5 w := by kernel_rfl
theorem encR_cell (k : Int) (x : Raw) (f : Pl) {Z : Zone} {w : World} (h : RF k Z w f x) : ∀ j, j < 5 → (pAf k (rtx f.A) (rtx f.B) (rtx f.C) (idx f.s) j).ok Z w ((encR x)[j]!) := by
 obtain ⟨h0, h1, h2, h3, h4⟩ := h
 intro j hj
 rcases (by omega : j = 0 ∨ j = 1 ∨ j = 2 ∨ j = 3 ∨ j = 4) with rfl | rfl | rfl | rfl | rfl
 ·show Value.int .i64 x.k = .int .i64 k; rw [h0]
 ·show Value.string (bs (rtx x.A)) = _; rw [h1]
 ·show Value.string (bs (rtx x.B)) = _; rw [h2]
 ·show Value.string (bs (rtx x.C)) = _; rw [h3]
 ·exact h4
structure PLR (P : Pl) : Prop where
 a : LR 400 P.A
 b : LR 400 P.B
 c : LR 400 P.C
theorem raws_of {k : Int} {Z : Zone} {w : World} {arr : Array Value} {L : List Pl} (hL : ∀ p ∈ L, PLR p) (h : ∀ i, i < L.length → ∀ j, j < 5 → ∃ u, arr[i * 5 + j]? = some u ∧ (pf5 k L i j).ok Z w u) :
  ∃ xs : List Raw, All2 (RF k Z w) L xs ∧ ∀ i x, xs[i]? = some x → ∀ j, j < 5 → arr[i * 5 + j]? = some ((encR x)[j]!) := by
 have key : ∀ (n : Nat) (L : List Pl) (o : Nat), L.length = n → (∀ p ∈ L, PLR p) → (∀ i, i < L.length → ∀ j, j < 5 → ∃ u, arr[o + i * 5 + j]? = some u ∧ (pf5 k L i j).ok Z w u) →
   ∃ xs : List Raw, All2 (RF k Z w) L xs ∧ ∀ i x, xs[i]? = some x → ∀ j, j < 5 → arr[o + i * 5 + j]? = some ((encR x)[j]!) := by
  intro n
  induction n with
  |zero => intro L o hn _ _; rw [List.length_eq_zero_iff.1 hn]; exact ⟨[], trivial, fun i x hx => by simp at hx⟩
  |succ n ih =>
   intro L o hn hLR hL
   match L, hn with
   |f :: L, hn =>
    obtain ⟨xs, a1, a2⟩ := ih L (o + 5) (by simpa using hn) (fun p hp => hLR p (by simp [hp])) (fun i hi j hj => by
     have := hL (i + 1) (by simpa using hi) j hj
     rw [show o + (i + 1) * 5 + j = o + 5 + i * 5 + j from by omega] at this
     exact this)
    obtain ⟨u0, b0, k0⟩ := hL 0 (by simp) 0 (by omega)
    obtain ⟨u1, b1, k1⟩ := hL 0 (by simp) 1 (by omega)
    obtain ⟨u2, b2, k2⟩ := hL 0 (by simp) 2 (by omega)
    obtain ⟨u3, b3, k3⟩ := hL 0 (by simp) 3 (by omega)
    obtain ⟨u4, b4, k4⟩ := hL 0 (by simp) 4 (by omega)
    have k4' := k4
    obtain ⟨p, c, rfl, _⟩ := k4'
    obtain rfl : u0 = .int .i64 k := k0
    obtain rfl : u1 = .string (bs (rtx f.A)) := k1
    obtain rfl : u2 = .string (bs (rtx f.B)) := k2
    obtain rfl : u3 = .string (bs (rtx f.C)) := k3
    have hf := hLR f (by simp)
    refine ⟨⟨k, f.A, f.B, f.C, p, f.s.length, c, hf.a, hf.b, hf.c⟩ :: xs, ⟨⟨rfl, rfl, rfl, rfl, k4⟩, a1⟩, fun i x hx j hj => ?_⟩
    cases i with
    |zero =>
     simp only [List.getElem?_cons_zero, Option.some.injEq] at hx
     subst hx
     rcases (by omega : j = 0 ∨ j = 1 ∨ j = 2 ∨ j = 3 ∨ j = 4) with rfl | rfl | rfl | rfl | rfl
     ·exact b0
     ·exact b1
     ·exact b2
     ·exact b3
     ·exact b4
    |succ i =>
     have := a2 i x (by simpa using hx) j hj
     rw [show o + (i + 1) * 5 + j = o + 5 + i * 5 + j from by omega]
     exact this
 obtain ⟨xs, a1, a2⟩ := key L.length L 0 rfl hL (fun i hi j hj => by rw [Nat.zero_add]; exact h i hi j hj)
 exact ⟨xs, a1, fun i x hx j hj => by have := a2 i x hx j hj; rwa [Nat.zero_add] at this⟩
theorem all2_len' {α β : Type} {R : α → β → Prop} {L : List α} {xs : List β} (h : All2 R L xs) : L.length = xs.length := by
 have := h.len
 omega
theorem lk5 {i j n : Nat} (hi : i < n) (hj : j < 5) : i * 5 + j < n * 5 := by omega
theorem sort_zok {enc : Raw → List Value} {w : World} {Z : Zone} {b m : Nat} {dk : Array Raw} {os : Array Obj} (hZ : ZOk Z w) (hb : b < w.heap.size) (hnz : ¬ Z b) : ZOk Z (sortWorldK enc 5 w b 0 m dk os) := by
 have hsz : w.heap.size ≤ (sortWorldK enc 5 w b 0 m dk os).heap.size := by simp [sortWorldK, grow, putRowK, putRow, mapBlock, Sort.ahead]
 refine hZ.next (fun _ h => h) hsz (fun k hk hlt => ?_) (fun k hk => Nat.lt_of_lt_of_le (hZ.1 k hk) hsz)
 unfold sortWorldK putRowK
 rw [heap_grow_old _ _ (by simpa using hlt)]
 have : b ≠ k := fun e => hnz (by rw [e]; exact hk)
 simp [putRow, mapBlock, Sort.ahead, Array.getElem?_modify, this]
theorem sortf_c (k : Int) (L : List Pl) (hL : ∀ p ∈ L, PLR p) (hu : ∀ f ∈ L, ∀ g ∈ L, eqP f g → f = g) (hn : L.length ≤ 1000000) : CtrW Tryz.prog 96 [.val (.func (.func 97) #[] #[])] 42 5 L.length (pf5 k L) L.length (pf5 k (srtP L)) false := by
 refine ⟨entersM Tryz.func96 rfl rfl, fun w Z v vs hZ hvs hrow => ?_⟩
 match vs, hvs with
 |[fv], ⟨h1, _⟩ =>
  obtain rfl : fv = .func (.func 97) #[] #[] := h1
  by_cases h0 : L.length = 0
  ·have hl : L = [] := List.eq_nil_of_length_eq_zero h0
   subst hl
   have hv : ∃ p cap, v = .slice p 0 cap := by
    rcases hrow with ⟨e, _⟩ | ⟨b, cap, arr, e, _⟩
    ·exact ⟨none, 0, e⟩
    ·exact ⟨_, cap, e⟩
   obtain ⟨p, cap, rfl⟩ := hv
   refine (show Calls Tryz.prog 96 #[.slice p 0 cap, .func (.func 97) #[] #[]] w _ from AnyF.slices_SortFunc_none Tryz.laysSlF06_f96 p cap (.func (.func 97) #[] #[]) w).mono ?_
   rintro e w' ⟨rfl, rfl⟩
   exact ⟨_, _, Z, rfl, rfl, ⟨rfl, rfl, rfl, Nat.le_refl _, fun _ _ _ => rfl⟩, fun _ h => h, fun _ h => .inl h, hZ.1, fun b hb => .inl hb, by
    rcases hrow with ⟨e, _⟩ | ⟨b, cap, arr, e, h2, h3, h4, h5, h6, h7⟩
    ·exact .inl ⟨e, rfl⟩
    ·exact .inr ⟨b, cap, arr, e, h2, h3, h4, h5, h6, fun i hi => by simp at hi⟩⟩
  ·rcases hrow with ⟨_, e⟩ | ⟨b, cap, arr, rfl, h2, h3, h4, h5, h6, h7⟩
   ·exact absurd e h0
   ·have hb := (Array.getElem?_eq_some_iff.1 h3).1
    obtain ⟨xs, hx, hcell⟩ := raws_of hL h7
    have hxl := all2_len' hx
    have hH : HoldsK encR 5 w b 0 xs.toArray := by
     intro t ht
     have ht' : t < xs.length * 5 := by simpa using ht
     refine ⟨?_, by simp [World.frozen?, h3]⟩
     have hq : t = t / 5 * 5 + t % 5 := by omega
     have htl : t / 5 < xs.length := by omega
     have hc := hcell (t / 5) xs[t / 5] (List.getElem?_eq_getElem htl) (t % 5) (Nat.mod_lt _ zO)
     rw [get_flatK _ _ _ t (by simpa using ht'), Nat.zero_add]
     simp only [World.cell?, h3]
     rw [← hq] at hc
     have e : xs.toArray[t / 5]! = xs[t / 5] := by
      rw [getElem!_pos xs.toArray (t / 5) (by simp; omega)]
      simp
     rw [e]
     simpa using hc
    have hcmp : CmpLays Tryz.prog 97 #[] encR 5 cfR b 0 xs.toArray.size w := fun m os dk _ x y =>
     cmp_lays x y (sort_zok hZ hb h2)
    have hrun := AnyQ.slices_SortFunc (α := Raw) Tryz.laysSlF06_f96 5 isAgg42 size42 encR (fun _ => rfl) (fun x v hv => by
     simp only [encR, List.mem_cons, List.not_mem_nil, or_false] at hv
     rcases hv with rfl | rfl | rfl | rfl | rfl <;> rfl) cfR swoR 97 #[] b 0 cap xs.toArray w (entersM Tryz.func97 rfl rfl) hcmp hH hb (by simp; omega)
    rw [List.size_toArray] at hrun
    have hrun2 : Calls Tryz.prog 96 #[.slice (some ⟨b, 0, none⟩) L.length cap, .func (.func 97) #[] #[]] w fun e w' => e = .returned (.tuple #[]) ∧ ∃ d' n os, PermIn 0 xs.length xs.toArray d' ∧ SortedIn (ltOf cfR) 0 xs.length d' ∧ w' = sortWorldK encR 5 w b 0 n d' os := by
     rw [hxl]
     exact hrun
    refine Calls.mono hrun2 ?_
    rintro e w' ⟨rfl, d', n, os, hp, hs, rfl⟩
    have hsz : d'.size = xs.length := by have := hp.1; simpa using this
    have hperm : d'.toList.Perm xs := by
     have := hp.2.2
     simp [hsz] at this
     rwa [List.take_of_length_le (by simp [hsz])] at this
    obtain ⟨L', hL1, hL2⟩ := all2_perm hperm.symm hx
    have hL3 : L'.Pairwise (fun a b => leP a b = true) := by
     rw [List.pairwise_iff_getElem]
     intro i j hi hj hij
     have hl2 := all2_len' hL2
     have hjd : j < d'.size := by simp at hl2; omega
     have h := hs i j (Nat.zero_le _) hij (by rw [← hsz]; exact hjd)
     rw [getElem!_pos d' j hjd, getElem!_pos d' i (by omega), ltR, decide_eq_false_iff_not] at h
     have r1 := all2_get hL2 (List.getElem?_eq_getElem hi) (List.getElem?_eq_getElem (by simp at hl2 ⊢; omega))
     have r2 := all2_get hL2 (List.getElem?_eq_getElem hj) (List.getElem?_eq_getElem (by simp at hl2 ⊢; omega))
     simp only [Array.getElem_toList] at r1 r2
     rw [r1.2.1, r1.2.2.1, r1.2.2.2.1, r2.2.1, r2.2.2.1, r2.2.2.2.1] at h
     unfold leP
     rw [Bool.not_eq_true', decide_eq_false_iff_not]
     exact h
    have hd' := srtP_of hu hL1 hL3
    subst hd'
    have hheap : (sortWorldK encR 5 w b 0 n d' os).heap[b]? = some (.cells (putCells id 0 (flatK encR 5 d') arr) 42 (0, 0)) := by
     unfold sortWorldK putRowK
     rw [heap_grow_old _ _ (by simpa [putRow, mapBlock, Sort.ahead] using hb)]
     simp [putRow, mapBlock, Sort.ahead, Array.getElem?_modify, h3, onCells]
    have hgr : w.grownBy (sortWorldK encR 5 w b 0 n d' os) (some b) := by
     unfold sortWorldK putRowK
     refine ⟨rfl, rfl, rfl, by simp, fun k hk hne => ?_⟩
     rw [heap_grow_old _ _ (by simpa using hk)]
     have : b ≠ k := fun e => hne (by rw [e])
     simp [putRow, mapBlock, Sort.ahead, Array.getElem?_modify, this]
    refine ⟨_, _, Z, rfl, rfl, hgr, fun _ h => h, fun _ h => .inl h, fun k hk => Nat.lt_of_lt_of_le (hZ.1 k hk) hgr.size, fun b hb => .inl hb, .inr ⟨b, cap, _, rfl, h2, hheap, h4, h5, by simp [putCells, h6], fun i hi j hj => ?_⟩⟩
    have hlt := lk5 hi hj
    have hal : i * 5 + j < arr.size := by rw [h6]; have := lk5 (Nat.lt_of_lt_of_le hi h4) hj; exact this
    have hl2 := all2_len' hL2
    have hid : i < d'.size := by simp at hl2; have := hL1.length_eq; omega
    have hiL : i < (srtP L).length := by have := hL1.length_eq; omega
    have hRF := all2_get hL2 (List.getElem?_eq_getElem hiL) (List.getElem?_eq_getElem (by simpa using hid))
    have hgf : (srtP L)[i] = gP (srtP L) i := by unfold gP; simp [List.getD, hiL]
    rw [hgf, Array.getElem_toList] at hRF
    have hRF2 : RF k Z (sortWorldK encR 5 w b 0 n d' os) (gP (srtP L) i) d'[i] := ⟨hRF.1, hRF.2.1, hRF.2.2.1, hRF.2.2.2.1, AV.ok_mono (fun _ q => q) hgr.size (fun k q hk => hgr.block k hk (fun e => by cases e; exact h2 q)) _ _ hRF.2.2.2.2⟩
    refine ⟨(encR d'[i])[j]!, ?_, encR_cell _ _ _ hRF2 j hj⟩
    have hf := get_flatK encR 5 d' (i * 5 + j) zO
    have e1 : (i * 5 + j) / 5 = i := by omega
    have e2 : (i * 5 + j) % 5 = j := by omega
    rw [e1, e2, getElem!_pos d' i hid] at hf
    simp only [putCells]
    rw [Array.getElem?_mapIdx, Array.getElem?_eq_getElem hal]
    simp only [Option.map_some]
    rw [if_pos ⟨Nat.zero_le _, by simp; omega⟩]
    simpa using hf
end Go.Proofs.YtgepmbjmaljgoaaGreatDoor.H
namespace Go.Proofs.YtgepmbjmaljgoaaGreatDoor.H
open Go Go.Vc Go.RowKit Go.Na
set_option maxHeartbeats 4000000
theorem ceq (P Q : Pl) : (cmp3 (rsg (P.A - Q.A)) (rsg (P.B - Q.B)) (rsg (P.C - Q.C)) == 0) = decide (eqP P Q) := by
 rw [Bool.eq_iff_iff, decide_eq_true_eq, beq_iff_eq, cmp3_eq]
 rfl
theorem eqf_c (k1 k2 : Int) (P Q : Pl) (hP : PLR P) (hQ : PLR Q) : CtrA Tryz.prog 99 [pR k1 P, pR k2 Q] (vb (decide (eqP P Q))) := by
 have hc := compare_c k1 k2 P.A P.B P.C Q.A Q.B Q.C (idx P.s) (idx Q.s) hP.a hP.b hP.c hQ.a hQ.b hQ.c
 refine ctrA _ Tryz.func99 rfl rfl Tryz.ntmps99 rfl fun w Z => ?_
 refine zU ?_
 refine wt ?_
 refine sq_g (g_load_aggv rfl rfl) rfl ?_
 refine wt ?_
 refine sq_g (g_load_aggv rfl rfl) rfl ?_
 refine wt ?_
 exact sq_res1 rfl (.tmp rfl) (congrArg vb (ceq P Q))
abbrev eqv : AV := .val (.func (.func 99) #[] #[])
def cptPF (L : List Pl) (i : Nat) : Bool := decide (i = 0) || decide (¬ eqP (gP L i) (gP L (i - 1)))
def cptToF (L : List Pl) (m : Nat) : List Pl := ((List.range m).filter (cptPF L)).map (gP L)
def cptPl (L : List Pl) : List Pl := cptToF L L.length
theorem cptToF_succ (L : List Pl) (m : Nat) : cptToF L (m + 1) = if cptPF L m = true then cptToF L m ++ [gP L m] else cptToF L m := by
 simp only [cptToF, List.range_succ, List.filter_append, List.map_append]
 split <;> rename_i h <;> simp [List.filter, h]
theorem cptToF_len (L : List Pl) (m : Nat) : (cptToF L m).length ≤ m := by
 have := List.length_filter_le (cptPF L) (List.range m)
 simpa [cptToF] using this
theorem gP_eq {L : List Pl} {i : Nat} (h : i < L.length) : gP L i = L[i] := by simp [gP, h]
theorem gP_mem {L : List Pl} {i : Nat} (h : i < L.length) : gP L i ∈ L := by rw [gP_eq h]; exact List.getElem_mem h
theorem gP_take (L : List Pl) (m k : Nat) : gP (L.take m) k = if k < m then gP L k else default := by
 simp only [gP, List.getD, List.getElem?_take]
 split <;> rfl
theorem cptToF_all (L : List Pl) : ∀ (m : Nat), m ≤ L.length → (∀ i, i < m → cptPF L i = true) → cptToF L m = L.take m
 |0, _, _ => rfl
 |m + 1, hm, h => by
  rw [cptToF_succ, if_pos (h m (by omega)), cptToF_all L m (by omega) (fun i hi => h i (by omega)), List.take_succ_eq_append_getElem (by omega), gP_eq (by omega)]
theorem cptP_short {L : List Pl} (h : L.length < 2) : cptPl L = L := by
 rw [cptPl, cptToF_all L _ (Nat.le_refl _) (fun i hi => by simp [cptPF, show i = 0 by omega]), List.take_length]
theorem gP_set (L : List Pl) (i : Nat) (x : Pl) (k : Nat) : gP (L.set i x) k = if i = k ∧ k < L.length then x else gP L k := by
 simp only [gP, List.getD, List.getElem?_set]
 by_cases h : i = k
 ·subst h
  by_cases h2 : i < L.length
  ·simp [h2]
  ·simp [h2]
 ·simp [h]
theorem gP_app (L : List Pl) (x : Pl) (k : Nat) : gP (L ++ [x]) k = if k < L.length then gP L k else if k = L.length then x else default := by
 simp only [gP]
 by_cases h : k < L.length
 ·simp [List.getD, List.getElem?_append_left h, h]
 ·by_cases h2 : k = L.length
  ·subst h2; simp [List.getD]
  ·rw [if_neg h, if_neg h2, List.getD, List.getElem?_eq_none (by simp; omega)]; rfl
theorem lt_step {p : Nat → Bool} {n : Nat} (h : ∀ k, k < n → p k = true) (hn : p n = true) : ∀ k, k < n + 1 → p k = true := fun k hk => by
 by_cases e : k = n
 ·subst e; exact hn
 ·exact h k zO
theorem zv42 (w : World) : (zeroValue 42).run Tryz.prog w = .ok (.agg [.int .i64 0, .string (bs []), .string (bs []), .string (bs []), .slice none 0 0].toArray) w := by kernel_rfl
theorem zv42_one : ∀ v ∈ ([.int .i64 0, .string (bs []), .string (bs []), .string (bs []), .slice none 0 0] : List Value), v.oneCell' = true := fun v hv => by
 simp only [List.mem_cons, List.not_mem_nil, or_false] at hv
 rcases hv with rfl | rfl | rfl | rfl | rfl <;> rfl
theorem ff_set {κ : Int} {u : List Pl} {k : Nat} {x : Pl} (hk : k < u.length) : ∀ i, i < u.length → ∀ j, j < 5 → rowSet (pf5 κ u) k 0 ((List.range 5).map (pf5 κ [x] 0)) i j = pf5 κ (u.set k x) i j := by
 intro i hi j hj
 unfold rowSet pf5
 rw [gP_set]
 by_cases h : i = k
 ·subst h
  rw [if_pos ⟨rfl, Nat.zero_le _, by simpa using hj⟩, if_pos ⟨rfl, hk⟩]
  rcases (by omega : j = 0 ∨ j = 1 ∨ j = 2 ∨ j = 3 ∨ j = 4) with rfl | rfl | rfl | rfl | rfl <;> rfl
 ·rw [if_neg (fun e => h e.1), if_neg (fun e => h e.1.symm)]
theorem compactf_c (κ : Int) (v : List Pl) (hv : ∀ p ∈ v, PLR p) (hn : v.length ≤ 1000) :
  CtrW Tryz.prog 98 [eqv] 42 5 v.length (pf5 κ v) (cptPl v).length (pf5 κ (cptPl v)) true := by
 refine ctrW _ Tryz.func98 rfl rfl Tryz.ntmps98 rfl fun w Z v0 => ?_
 refine zU ?_
 refine wt ?_
 (refine cq_cond rfl ?_ ?_ <;> intro hb <;> (try simp only [zA, zB, zG, zC, zD, zN] at hb) <;> (try (exfalso; omega)))
 ·refine wt ?_
  exact sq_retWb rfl rfl rfl (by rw [cptP_short (by omega)]) (fun _ _ _ _ => by rw [cptP_short (by omega)])
 ·refine wt ?_
  refine cq_loop (γ := Nat) (fun k => [(0, .osl 0), (1, .av eqv), (5, .av (vi k))]) (fun _ => [(0, .row 42 5 v.length (pf5 κ v))]) (fun k => 1 ≤ k ∧ k ≤ v.length ∧ ∀ i, i < k → cptPF v i = true) (fun k => v.length - k) 1 ⟨by omega, by omega, fun i hi => by simp [cptPF, show i = 0 by omega]⟩ (ent ⟨.refl _, .refl _, .int rfl, trivial⟩ zT) ?_
  rintro k ⟨hk1, hkn, hall⟩
  obtain ⟨k', rfl⟩ : ∃ k', k = k' + 1 := ⟨k - 1, by omega⟩
  refine wt ?_
  (refine cq_cond rfl ?_ ?_ <;> intro hb <;> (try simp only [zA, zB, zG, zC, zD, zN] at hb) <;> (try (exfalso; omega)))
  ·have hq := eqf_c κ κ (gP v (k' + 1)) (gP v k') (hv _ (gP_mem zO)) (hv _ (gP_mem zO))
   refine wt ?_
   refine dq_g (g_load_oel_aggv rfl rfl zO) rfl ?_
   refine wt ?_
   refine dq_g (g_load_oel_aggv rfl rfl zO) rfl ?_
   have e0 : (((k' + 1 : Nat) : Int) - 1).toNat = k' := by omega
   rw [e0]
   refine wt ?_
   (refine cq_cond rfl ?_ ?_ <;> intro hb <;> (try simp only [zA, zB, zG, zC, zD, zN] at hb) <;> (try (exfalso; omega)))
   ·have hK : cptPF v (k' + 1) = false := by simp [cptPF, hb]
    have h1 : cptToF v (k' + 1 + 1) = v.take (k' + 1) := by
     rw [cptToF_succ, hK, if_neg (by simp), cptToF_all v _ (by omega) hall]
    refine wt ?_
    refine cq_loop (γ := List Pl × Nat) (fun g => [(0, .osl 0), (1, .av eqv), (5, .av (vi (cptToF v (k' + 1 + g.2)).length)), (6, .osx 0 5 (k' + 1) (v.length - (k' + 1))), (7, .av (vi g.2))]) (fun g => [(0, .row 42 5 v.length (pf5 κ g.1))])
     (fun g => 1 ≤ g.2 ∧ g.2 ≤ v.length - (k' + 1) ∧ g.1.length = v.length ∧ (cptToF v (k' + 1 + g.2)).length ≤ k' + g.2 ∧ (∀ i, i < (cptToF v (k' + 1 + g.2)).length → gP g.1 i = gP (cptToF v (k' + 1 + g.2)) i) ∧ ∀ i, k' + g.2 ≤ i → gP g.1 i = gP v i) (fun g => v.length - g.2) (v, 1)
     ⟨by simp, by simp; omega, rfl, by simp only [h1]; simp; omega, fun i hi => by simp only [h1] at hi ⊢; rw [gP_take]; simp at hi; rw [if_pos (by omega)], fun i hi => rfl⟩ (ent ⟨.refl _, .refl _, .int (by simp only [h1]; simp; omega), .refl _, .refl _, trivial⟩ zT) ?_
    rintro ⟨u, m⟩ ⟨hm1, hmn, hul, hcl, hu1, hu2⟩
    simp only at hm1 hmn hul hcl hu1 hu2
    obtain ⟨m', rfl⟩ : ∃ m', m = m' + 1 := ⟨m - 1, by omega⟩
    dsimp only
    refine wt ?_
    (refine cq_cond rfl ?_ ?_ <;> intro hb <;> (try simp only [zA, zB, zG, zC, zD, zN] at hb) <;> (try (exfalso; omega)))
    ·have e1 : gP u (k' + 1 + (m' + 1)) = gP v (k' + 1 + (m' + 1)) := hu2 _ zO
     have e2 : gP u (k' + 1 + m') = gP v (k' + 1 + m') := hu2 _ zO
     have e3 : k' + 1 + (m' + 1) - 1 = k' + 1 + m' := by omega
     have hS := cptToF_succ v (k' + 1 + (m' + 1))
     have hq := eqf_c κ κ (gP u (k' + 1 + (m' + 1))) (gP u (k' + 1 + m')) (by rw [e1]; exact hv _ (gP_mem (by omega))) (by rw [e2]; exact hv _ (gP_mem (by omega)))
     refine wt ?_
     refine dq_g (g_load_oel_aggv rfl rfl zO) rfl ?_
     refine wt ?_
     refine dq_g (g_index_osx (k := m') rfl rfl zO zO) rfl ?_
     refine wt ?_
     refine dq_g (g_load_oel_aggv rfl rfl zO) rfl ?_
     refine wt ?_
     (refine cq_cond rfl ?_ ?_ <;> intro hb <;> (try simp only [zA, zB, zG, zC, zD, zN] at hb) <;> (try (exfalso; omega)))
     ·have hP : cptPF v (k' + 1 + (m' + 1)) = true := by
       simp only [cptPF, e3]; rw [← e1, ← e2]; simp [hb]
      rw [hP, if_pos rfl] at hS
      refine wt ?_
      refine sq_g (g_load_oel_aggv rfl rfl zO) rfl ?_
      refine wt ?_
      refine sq_s (g_store_oel_aggv rfl rfl (pAf_one _ _ _ _ _) rfl zO) ?_
      refine wt ?_
      refine sq_round (g := (u, m' + 1)) (u.set (cptToF v (k' + 1 + (m' + 1))).length (gP u (k' + 1 + (m' + 1))), m' + 1 + 1) ⟨by simp, by simp; omega, by simp [hul], ?_, ?_, ?_⟩ (by simp; omega) (ent ⟨.refl _, .refl _, .int (by simp only; rw [show k' + 1 + (m' + 1 + 1) = k' + 1 + (m' + 1) + 1 from by omega, hS]; simp), .refl _, .int (by simp), trivial⟩ ⟨⟨_, rfl, .row rfl (fun i hi j hj => ff_set (by omega) i (by omega) j hj)⟩, trivial⟩)
      ·simp only; rw [show k' + 1 + (m' + 1 + 1) = k' + 1 + (m' + 1) + 1 from by omega, hS]; simp; omega
      ·simp only; rw [show k' + 1 + (m' + 1 + 1) = k' + 1 + (m' + 1) + 1 from by omega, hS]
       intro i hi
       rw [gP_set, gP_app]
       simp only [List.length_append, List.length_singleton] at hi
       by_cases h : i = (cptToF v (k' + 1 + (m' + 1))).length
       ·rw [if_pos ⟨h.symm, by omega⟩, if_neg (by omega), if_pos h, e1]
       ·rw [if_neg (fun e => h e.1.symm), if_pos (by omega)]; exact hu1 i (by omega)
      ·simp only
       intro i hi
       rw [gP_set, if_neg (fun e => by omega)]
       exact hu2 i zO
     ·have hP : cptPF v (k' + 1 + (m' + 1)) = false := by
       simp only [cptPF, e3]; rw [← e1, ← e2]; simp [hb]
      rw [hP, if_neg (by simp)] at hS
      refine wt ?_
      refine sq_round (g := (u, m' + 1)) (u, m' + 1 + 1) ⟨by simp, by simp; omega, hul, ?_, ?_, ?_⟩ (by simp; omega) (ent ⟨.refl _, .refl _, .int (by simp only; rw [show k' + 1 + (m' + 1 + 1) = k' + 1 + (m' + 1) + 1 from by omega, hS]), .refl _, .int (by simp), trivial⟩ zT)
      ·simp only; rw [show k' + 1 + (m' + 1 + 1) = k' + 1 + (m' + 1) + 1 from by omega, hS]; omega
      ·simp only; rw [show k' + 1 + (m' + 1 + 1) = k' + 1 + (m' + 1) + 1 from by omega, hS]; exact hu1
      ·simp only; exact fun i hi => hu2 i (by omega)
    ·have hE : k' + 1 + (m' + 1) = v.length := by omega
     have hcE : cptToF v (k' + 1 + (m' + 1)) = cptPl v := by rw [hE]; rfl
     refine wt ?_
     refine sq_s (g_clearA (lo := (cptToF v (k' + 1 + (m' + 1))).length) zv42 rfl rfl zE zv42_one rfl rfl) ?_
     refine wt ?_
     refine sq_retWb rfl rfl rfl (by rw [hcE]) (fun i hi j hj => ?_)
     simp only [rowAny]
     rw [if_neg (by omega)]
     simp only [pf5]
     rw [hu1 i (by omega), hcE]
   ·refine wt ?_
    exact sq_round (k' + 1 + 1) ⟨by omega, by omega, lt_step hall (by simp [cptPF, hb])⟩ (by omega) (ent ⟨.refl _, .refl _, .int (by simp), trivial⟩ zT)
  ·refine wt ?_
   have e : cptPl v = v := by rw [cptPl, cptToF_all v _ (Nat.le_refl _) (fun i hi => hall i (by omega)), List.take_length]
   exact sq_retWb rfl rfl rfl (by rw [e]) (fun _ _ _ _ => by rw [e])
end Go.Proofs.YtgepmbjmaljgoaaGreatDoor.H
namespace Go.Proofs.YtgepmbjmaljgoaaGreatDoor.H
open Go Go.Vc Go.Na
def tK (i j : Nat) : Nat → List (Nat × Nat × Nat)
 |0 => []
 |k + 1 => tK i j k ++ [(k, j, i)]
def tJ (i : Nat) : Nat → List (Nat × Nat × Nat)
 |0 => []
 |j + 1 => tJ i j ++ tK i j j
def tI : Nat → List (Nat × Nat × Nat)
 |0 => []
 |i + 1 => tI i ++ tJ i i
theorem tK_eq (i j : Nat) : ∀ k, (List.range k).map (fun k => (k, j, i)) = tK i j k
 |0 => rfl
 |k + 1 => by rw [List.range_succ, List.map_append, tK_eq i j k]; rfl
theorem tJ_eq (i : Nat) : ∀ n, tripJ i n = tJ i n
 |0 => rfl
 |n + 1 => by
  unfold tripJ
  rw [List.range_succ, List.flatMap_append]
  have := tJ_eq i n
  unfold tripJ at this
  rw [this, tJ]
  simp only [List.flatMap_cons, List.flatMap_nil, List.append_nil, tripI]
  rw [tK_eq]
theorem tI_eq : ∀ n, trip n = tI n
 |0 => rfl
 |n + 1 => by
  unfold trip
  rw [List.range_succ, List.flatMap_append]
  have := tI_eq n
  unfold trip at this
  rw [this, tI]
  simp only [List.flatMap_cons, List.flatMap_nil, List.append_nil]
  rw [tJ_eq]
theorem mem_tK {i j : Nat} {t : Nat × Nat × Nat} : ∀ {k}, t ∈ tK i j k ↔ t.1 < k ∧ t.2.1 = j ∧ t.2.2 = i
 |0 => by simp [tK]
 |k + 1 => by
  rw [tK, List.mem_append, mem_tK]
  obtain ⟨a, b, c⟩ := t
  simp only [List.mem_singleton, Prod.mk.injEq]
  omega
theorem mem_tJ {i : Nat} {t : Nat × Nat × Nat} : ∀ {j}, t ∈ tJ i j ↔ t.1 < t.2.1 ∧ t.2.1 < j ∧ t.2.2 = i
 |0 => by simp [tJ]
 |j + 1 => by
  rw [tJ, List.mem_append, mem_tJ, mem_tK]
  omega
theorem mem_tI {t : Nat × Nat × Nat} : ∀ {n}, t ∈ tI n ↔ t.1 < t.2.1 ∧ t.2.1 < t.2.2 ∧ t.2.2 < n
 |0 => by simp [tI]
 |n + 1 => by
  rw [tI, List.mem_append, mem_tI, mem_tJ]
  omega
theorem tK_len (i j : Nat) : ∀ k, (tK i j k).length = k
 |0 => rfl
 |k + 1 => by rw [tK, List.length_append, tK_len]; rfl
theorem tJ_len (i : Nat) : ∀ j, (tJ i j).length ≤ j * j
 |0 => Nat.le_refl _
 |j + 1 => by
  rw [tJ, List.length_append, tK_len]
  have := tJ_len i j
  rw [Nat.mul_add, Nat.add_mul]
  omega
theorem tI_len : ∀ n, (tI n).length ≤ n * (n * n)
 |0 => Nat.le_refl _
 |n + 1 => by
  rw [tI, List.length_append]
  have h1 := tI_len n
  have h2 := tJ_len n n
  have : (n + 1) * ((n + 1) * (n + 1)) = n * (n * n) + n * n + n * n + n * n + n + n + n + 1 := by
   simp only [Nat.mul_add, Nat.add_mul, Nat.mul_one, Nat.one_mul]; omega
  omega
theorem pre_mono {α : Type} {f g : Nat → List α} (h : ∀ k, f (k + 1) = f k ++ g k) {k n : Nat} (hk : k ≤ n) : f k <+: f n := by
 induction n with
 |zero => rw [Nat.le_zero.1 hk]; exact List.prefix_refl _
 |succ n ih =>
  by_cases e : k = n + 1
  ·rw [e]; exact List.prefix_refl _
  ·rw [h n]; exact (ih (by omega)).trans (List.prefix_append _ _)
theorem trip_pre {n i j k : Nat} (hi : i < n) (hj : j < i) (hk : k < j) : tI i ++ (tJ i j ++ tK i j (k + 1)) <+: tI n := by
 have h1 : tK i j (k + 1) <+: tK i j j := pre_mono (fun _ => rfl) zO
 have h2 : tJ i (j + 1) <+: tJ i i := pre_mono (fun _ => rfl) zO
 have h3 : tI (i + 1) <+: tI n := pre_mono (fun _ => rfl) zO
 have h4 : tJ i j ++ tK i j (k + 1) <+: tJ i (j + 1) := (List.prefix_append_right_inj _).2 h1
 exact ((List.prefix_append_right_inj _).2 (h4.trans h2)).trans h3
theorem pre_at {α : Type} {A L : List α} {x : α} (h : A ++ [x] <+: L) : L[A.length]? = some x := by
 obtain ⟨t, rfl⟩ := h
 simp
end Go.Proofs.YtgepmbjmaljgoaaGreatDoor.H
namespace Go.Proofs.YtgepmbjmaljgoaaGreatDoor.H
open Go Go.Vc Go.RowKit
set_option maxHeartbeats 4000000
abbrev at3' (a b c : Nat) : AV := .val (.agg #[.int .i64 a, .int .i64 b, .int .i64 c])
def V3 (n : Nat) (x : Value) : Prop := ∃ a b c : Nat, a < n ∧ b < n ∧ c < n ∧ x = .agg #[.int .i64 a, .int .i64 b, .int .i64 c]
def atT (t : Nat × Nat × Nat) : AV := at3' t.1 t.2.1 t.2.2
abbrev yv (l : Nat) : AV := .val (.func (.yield l) #[] #[])
abbrev np (n : Nat) : AV := .ptr 1 (fun _ => vi n)
theorem triplesi_c (n : Nat) (hn : n ≤ 1000) : CtrM Tryz.prog 155 [np n] (V3 n) ((tI n).map atT) := by
 refine ctrM _ Tryz.func155 rfl rfl Tryz.ntmps155 rfl fun y J Y w Z S => ?_
 refine zU ?_
 refine wt ?_
 refine cq_loopM Y (γ := Nat) (fun i => [(0, .av (yv y)), (1, .av (np n)), (6, .av (vi n)), (7, .av (vi i))]) (fun i => (tI i).length) (fun i => i ≤ n) (fun i => n - i) 0 S (Nat.zero_le _) (ent zS trivial) ?_
 intro i hi w Z S
 refine wt ?_
 (refine cq_cond rfl ?_ ?_ <;> intro hb <;> (try simp only [zA, zB, zG, zC, zD, zN] at hb) <;> (try (exfalso; omega)))
 ·have hil : i < n := by omega
  refine wt ?_
  refine cq_loopM Y (γ := Nat) (fun j => [(0, .av (yv y)), (1, .av (np n)), (3, .av (vi i)), (6, .av (vi n)), (7, .av (vi i)), (10, .av (vi i)), (11, .av (vi j))]) (fun j => (tI i ++ tJ i j).length) (fun j => j ≤ i) (fun j => i - j) 0 (by rw [show tJ i 0 = [] from rfl, List.append_nil]; exact S) (Nat.zero_le _) (ent zS trivial) ?_
  intro j hj w Z S
  refine wt ?_
  (refine cq_cond rfl ?_ ?_ <;> intro hb <;> (try simp only [zA, zB, zG, zC, zD, zN] at hb) <;> (try (exfalso; omega)))
  ·have hjl : j < i := by omega
   refine wt ?_
   refine cq_loopM Y (γ := Nat) (fun k => [(0, .av (yv y)), (1, .av (np n)), (3, .av (vi i)), (4, .av (vi j)), (6, .av (vi n)), (7, .av (vi i)), (10, .av (vi i)), (11, .av (vi j)), (14, .av (vi j)), (15, .av (vi k))]) (fun k => (tI i ++ (tJ i j ++ tK i j k)).length) (fun k => k ≤ j) (fun k => j - k) 0 (by rw [show tK i j 0 = [] from rfl, List.append_nil]; exact S) (Nat.zero_le _) (ent zS trivial) ?_
   intro k hk w Z S
   refine wt ?_
   (refine cq_cond rfl ?_ ?_ <;> intro hb <;> (try simp only [zA, zB, zG, zC, zD, zN] at hb) <;> (try (exfalso; omega)))
   ·have hkl : k < j := by omega
    have hp := trip_pre hil hjl hkl
    have e0 : tK i j (k + 1) = tK i j k ++ [(k, j, i)] := rfl
    rw [e0, ← List.append_assoc, ← List.append_assoc] at hp
    have hm := pre_at hp
    rw [List.append_assoc] at hm
    refine wt ?_
    refine sq_yieldM Y S (τ := at3' k j i) (by rw [List.getElem?_map, hm]; rfl) (fun Z w v hv => ⟨k, j, i, by omega, by omega, hil, hv⟩) rfl rfl rfl (fun w' Z' S' => ?_)
    have e9 : (tI i ++ (tJ i j ++ tK i j k)).length + 1 = (tI i ++ (tJ i j ++ tK i j (k + 1))).length := by rw [e0]; simp; omega
    rw [e9] at S'
    refine wt ?_
    exact sq_roundM Y (g := k) (k + 1) S' zO zO (ent zS trivial)
   ·have hke : k = j := by omega
    subst hke
    have e1 : tJ i (k + 1) = tJ i k ++ tK i k k := rfl
    rw [← e1] at S
    refine wt ?_
    exact sq_roundM Y (g := k) (k + 1) S zO zO (ent zS trivial)
  ·have hje : j = i := by omega
   subst hje
   have e1 : tI (j + 1) = tI j ++ tJ j j := rfl
   rw [← e1] at S
   refine wt ?_
   exact sq_roundM Y (g := j) (j + 1) S zO zO (ent zS trivial)
 ·have hie : i = n := by omega
  subst hie
  have e1 : (tI i).length = ((tI i).map atT).length := by rw [List.length_map]
  rw [e1] at S
  refine wt ?_
  exact sq_retM' Y rfl S
abbrev tcl (n : Nat) : AV := .clo 155 1 (fun i => [np n].getD i .any)
theorem triples_c (n : Nat) : CtrA Tryz.prog 94 [vi n] (tcl n) := by
 refine ctrA _ Tryz.func94 rfl rfl Tryz.ntmps94 rfl fun w Z => ?_
 refine zU ?_
 refine wt ?_
 exact zV
end Go.Proofs.YtgepmbjmaljgoaaGreatDoor.H
namespace Go.Proofs.YtgepmbjmaljgoaaGreatDoor.H
open Go Go.Vc Go.RowKit Go.Na Go.Lib
set_option maxHeartbeats 4000000
theorem through1_c (l : List Tr) (hl : RT l) (a b c : Nat) (ha : a < l.length) (hb' : b < l.length) (hc : c < l.length) (hn : l.length ≤ 1000) : CtrA Tryz.prog 95 [ts l, vi 1, at3 a b c] (thrA 1 (thr l 1 a b c)) := by
 have h1 := normal_c (gt l a) (gt l b) (gt l c) (hl a) (hl b) (hl c)
 refine ctrA _ Tryz.func95 rfl rfl Tryz.ntmps95 rfl fun w Z => ?_
 refine zU ?_
 refine wt ?_
 (refine cq_cond rfl ?_ ?_ <;> intro hb <;> (try simp only [zA, zB, zG, zC, zD, zN] at hb) <;> (try (exfalso; omega)))
 ·refine wt ?_
  refine sq_g (g_build (t := 42) (is := []) (xs := []) (vs := []) tb42e rfl rfl) rfl ?_
  refine wt ?_
  rw [thr_zero (k := 1) hb]
  exact sq_resN (rvs := [_, _, _]) (τs := [_, _, _]) rfl rfl ⟨.agg (us := [_, _, _, _, _]) rfl rfl rfl rfl, .tmp rfl, .tmp rfl, trivial⟩ rfl
 have hne : cz (nvP (gt l a) (gt l b) (gt l c)) 1 ≠ 0 := hb
 have hpos : 0 < cz (nP l 1 a b c) 1 := upP_pos hne
 have hT0 := @thr_none l 1 a b c zE hne
 have hT1 := @thr_some l 1 a b c zE hne
 have hnb := BT.np hl 1 a b c
 have hmb := bn_dot hnb (hl a)
 have hnP : nP l 1 a b c = upP 1 (nvP (gt l a) (gt l b) (gt l c)) := rfl
 have hm : mP l 1 a b c = tdot (nP l 1 a b c) (gt l a) := rfl
 have hA : aP l 1 a b c = Rat.divInt (mP l 1 a b c) (nP l 1 a b c).y := rfl
 have hB : bP l 1 a b c = Rat.divInt (-(nP l 1 a b c).x) (nP l 1 a b c).y := rfl
 have hC : cP l 1 a b c = Rat.divInt (-(nP l 1 a b c).z) (nP l 1 a b c).y := rfl
 have hnv := (BT.nv (hl a) (hl b) (hl c)).sq
 obtain ⟨⟨⟨_, _⟩, ⟨_, _⟩⟩, ⟨_, _⟩⟩ := hnv
 rw [hA, hB, hC] at hT1
 rw [← hm] at hmb
 generalize mP l 1 a b c = m at *
 generalize nP l 1 a b c = n at *
 refine wt ?_
 refine cq_mid [(0, .av (ts l)), (1, .av (vi 1)), (5, .av (.ptr 3 (fun i => .val ([Value.int .i64 a, .int .i64 b, .int .i64 c].getD i Go.undef)))), (6, .own 10 0), (9, .av (.ptr 3 (tpf n)))] [(10, .cells [.av (vi 0), .av (vS []), .av (vS []), .av (vS []), .av (.val (.slice none 0 0))])] ?_ ?_
 ·(refine cq_cond rfl ?_ ?_ <;> intro hb <;> (try simp only [zA, zB, zG, zC, zD, zN] at hb) <;> (try (exfalso; omega)))
  ·have e : n = ⟨-(nvP (gt l a) (gt l b) (gt l c)).x, -(nvP (gt l a) (gt l b) (gt l c)).y, -(nvP (gt l a) (gt l b) (gt l c)).z⟩ := hnP.trans (if_pos hb)
   refine wt ?_
   rw [e]
   exact sq_meet ((ent_freezec 9 11 (tpf _) rfl rfl rfl).trans (ent zS zT))
  ·have e : n = nvP (gt l a) (gt l b) (gt l c) := hnP.trans (if_neg (by simpa [cz] using hb))
   refine wt ?_
   rw [e]
   exact sq_meet ((ent_freezec 9 11 (tpf _) rfl rfl rfl).trans (ent zS zT))
 have hd0 := dotc_c n (gt l a) (hnb.le zE) (hl a)
 rw [← hm] at hd0
 refine wt ?_
 refine sq_g (g_build (t := 42) (is := [0]) (xs := [_]) (vs := [_]) (tb42k 1) rfl rfl) rfl ?_
 refine wt ?_
 refine cq_loop (γ := Nat) (fun i => [(0, .av (ts l)), (1, .av (vi 1)), (6, .own 10 0), (9, .av (.ptr 3 (tpf n))), (11, .av (.clo 157 1 (fun i => [AV.ptr 3 (tpf n)].getD i .any))), (12, .av (vi m)), (13, .own 11 0), (74, .av (ts l)), (75, .av (vi l.length)), (76, .av (vi i))])
  (fun i => [(10, .cells [.av (vi 0), .av (vS []), .av (vS []), .av (vS []), .av (.val (.slice none 0 0))]), (11, .cells [.av (vi 1), .av (vS []), .av (vS []), .av (vS []), .osl 20]), (20, .row 3 1 (onD l n m i).length (xf (onD l n m i)))]) (fun i => i ≤ l.length ∧ ∀ j, j < i → m ≤ tdot n (gt l j)) (fun i => l.length - i) 0 ⟨Nat.zero_le _, by omega⟩
  ((ent_rowc (r := 11) (off := 4) 20 3 1 (xf []) rfl rfl rfl).trans (ent zS zT)) ?_
 rintro i ⟨hi, hall⟩
 have hol := onD_len l n m i
 refine wt ?_
 (refine cq_cond rfl ?_ ?_ <;> intro hb <;> (try simp only [zA, zB, zG, zC, zD, zN] at hb) <;> (try (exfalso; omega)))
 ·have hil : i < l.length := by omega
  have hd := dotc_c n (gt l i) (hnb.le zE) (hl i)
  have hsu := onD_succ l n m i
  refine wt ?_
  (refine cq_cond rfl ?_ ?_ <;> intro hb <;> (try simp only [zA, zB, zG, zC, zD, zN] at hb) <;> (try (exfalso; omega)))
  ·rw [hT0 hil hb]
   refine wt ?_
   refine sq_g (g_build (t := 42) (is := []) (xs := []) (vs := []) tb42e rfl rfl) rfl ?_
   refine wt ?_
   exact sq_resN (rvs := [_, _, _]) (τs := [_, _, _]) rfl rfl ⟨.agg (us := [_, _, _, _, _]) rfl rfl rfl rfl, .tmp rfl, .tmp rfl, trivial⟩ rfl
  ·have hge : m ≤ tdot n (gt l i) := by omega
   refine wt ?_
   (refine cq_cond rfl ?_ ?_ <;> intro hb <;> (try simp only [zA, zB, zG, zC, zD, zN] at hb) <;> (try (exfalso; omega)))
   ·rw [if_pos hb] at hsu
    refine wt ?_
    exact sq_round (i + 1) ⟨by omega, plt_step hall hge⟩ (by omega) (ent zS ⟨⟨_, rfl, .refl _⟩, ⟨_, rfl, .refl _⟩, ⟨_, rfl, .row (by rw [hsu]) (fun _ _ _ _ => by rw [hsu])⟩, trivial⟩)
   ·rw [if_neg hb] at hsu
    refine wt ?_
    exact sq_round (i + 1) ⟨by omega, plt_step hall hge⟩ (by omega) (ent zS ⟨⟨_, rfl, .refl _⟩, ⟨_, rfl, .refl _⟩, ⟨_, rfl, .row (by rw [hsu]) (fun _ _ _ _ => by rw [hsu])⟩, trivial⟩)
 have hil : i = l.length := by omega
 subst hil
 rw [hT1 hall]
 obtain ⟨⟨⟨_, _⟩, ⟨_, _⟩⟩, ⟨_, _⟩⟩ := hnb.sq
 have hx0 : 0 < n.y := hpos
 refine wt ?_
 refine dq_g (g_build_p (tb202p _) rfl rfl) rfl ?_
 refine wt ?_
 refine dq_g (g_build_p (tb202p _) rfl rfl) rfl ?_
 refine wt ?_
 refine dq_g (g_build_p (tb202p _) rfl rfl) rfl ?_
 refine wt ?_
 refine dq_v (ga_bslice_p 30 rfl (fun p1 p2 p3 w => tq203p _ _ _ p1 p2 p3 w) rfl rfl rfl) rfl rfl ?_
 refine wt ?_
 refine dq_g (g_len_s rfl rfl) rfl ?_
 refine wt ?_
 have qA := rat_ofb m n.y zO zO zO
 have qB := rat_ofb (-n.x) n.y zO zO zO
 have qC := rat_ofb (-n.z) n.y zO zO zO
 generalize Rat.divInt m n.y = A at *
 generalize Rat.divInt (-n.x) n.y = B at *
 generalize Rat.divInt (-n.z) n.y = C at *
 refine cq_loop (γ := Nat) (fun i => [(1, .av (vi 1)), (6, .own 10 0), (9, .av (.ptr 3 (tpf n))), (13, .own 11 0), (123, .osl 30), (124, .av (vi 3)), (125, .av (vi i))])
  (fun i => [(30, .srow 202 2 3 [.own 11 1, .av (vi m), .own 11 2, .av (vi (-n.x)), .own 11 3, .av (vi (-n.z))]), (10, .cells [.av (vi 0), .av (vS []), .av (vS []), .av (vS []), .av (.val (.slice none 0 0))]), (11, .cells (celP 1 A B C i)), (20, .row 3 1 (onD l n m l.length).length (xf (onD l n m l.length)))])
  (fun i => i ≤ 3) (fun i => 3 - i) 0 (Nat.zero_le _) (ent zS zT) ?_
 intro i hi
 match i, hi with
 |0, _ =>
  refine wt ?_
  refine sq_g (g_index_s (k := 0) rfl rfl rfl rfl zO) rfl ?_
  refine wt ?_
  refine sq_g (g_load_sp rfl rfl rfl rfl) rfl ?_
  refine wt ?_
  refine sq_s (g_store_sp rfl rfl rfl rfl rfl) ?_
  refine wt ?_
  exact sq_round 1 zO zO (ent zS zT)
 |1, _ =>
  refine wt ?_
  refine sq_g (g_index_s (k := 1) rfl rfl rfl rfl zO) rfl ?_
  refine wt ?_
  refine sq_g (g_load_sp rfl rfl rfl rfl) rfl ?_
  refine wt ?_
  refine sq_s (g_store_sp rfl rfl rfl rfl rfl) ?_
  refine wt ?_
  exact sq_round 2 zO zO (ent zS zT)
 |2, _ =>
  refine wt ?_
  refine sq_g (g_index_s (k := 2) rfl rfl rfl rfl zO) rfl ?_
  refine wt ?_
  refine sq_g (g_load_sp rfl rfl rfl rfl) rfl ?_
  refine wt ?_
  refine sq_s (g_store_sp rfl rfl rfl rfl rfl) ?_
  refine wt ?_
  exact sq_round 3 zO zO (ent zS zT)
 |3, _ =>
  refine wt ?_
  refine lsq_ent (ent_freeze_in 11 20 4 rfl rfl rfl rfl) ?_
  refine sq_g (g_load_own_aggv (f := pAf 1 (rtx A) (rtx B) (rtx C) (idx (onD l n m l.length))) rfl rfl rfl) rfl ?_
  refine wt ?_
  refine sq_s (g_store_aggv rfl rfl (pAf_one _ _ _ _ _) rfl rfl) ?_
  refine wt ?_
  exact sq_resN (rvs := [_, _, _]) (τs := [_, _, _]) rfl rfl ⟨.aggv (f := pAf 1 (rtx A) (rtx B) (rtx C) (idx (onD l n m l.length))) rfl rfl rfl, .tmp rfl, .tmp rfl, trivial⟩ rfl
 |_ + 4, h => omega
theorem through2_c (l : List Tr) (hl : RT l) (a b c : Nat) (ha : a < l.length) (hb' : b < l.length) (hc : c < l.length) (hn : l.length ≤ 1000) : CtrA Tryz.prog 95 [ts l, vi 2, at3 a b c] (thrA 2 (thr l 2 a b c)) := by
 have h1 := normal_c (gt l a) (gt l b) (gt l c) (hl a) (hl b) (hl c)
 refine ctrA _ Tryz.func95 rfl rfl Tryz.ntmps95 rfl fun w Z => ?_
 refine zU ?_
 refine wt ?_
 (refine cq_cond rfl ?_ ?_ <;> intro hb <;> (try simp only [zA, zB, zG, zC, zD, zN] at hb) <;> (try (exfalso; omega)))
 ·refine wt ?_
  refine sq_g (g_build (t := 42) (is := []) (xs := []) (vs := []) tb42e rfl rfl) rfl ?_
  refine wt ?_
  rw [thr_zero (k := 2) hb]
  exact sq_resN (rvs := [_, _, _]) (τs := [_, _, _]) rfl rfl ⟨.agg (us := [_, _, _, _, _]) rfl rfl rfl rfl, .tmp rfl, .tmp rfl, trivial⟩ rfl
 have hne : cz (nvP (gt l a) (gt l b) (gt l c)) 2 ≠ 0 := hb
 have hpos : 0 < cz (nP l 2 a b c) 2 := upP_pos hne
 have hT0 := @thr_none l 2 a b c zE hne
 have hT1 := @thr_some l 2 a b c zE hne
 have hnb := BT.np hl 2 a b c
 have hmb := bn_dot hnb (hl a)
 have hnP : nP l 2 a b c = upP 2 (nvP (gt l a) (gt l b) (gt l c)) := rfl
 have hm : mP l 2 a b c = tdot (nP l 2 a b c) (gt l a) := rfl
 have hA : aP l 2 a b c = Rat.divInt (mP l 2 a b c) (nP l 2 a b c).z := rfl
 have hB : bP l 2 a b c = Rat.divInt (-(nP l 2 a b c).x) (nP l 2 a b c).z := rfl
 have hC : cP l 2 a b c = Rat.divInt (-(nP l 2 a b c).y) (nP l 2 a b c).z := rfl
 have hnv := (BT.nv (hl a) (hl b) (hl c)).sq
 obtain ⟨⟨⟨_, _⟩, ⟨_, _⟩⟩, ⟨_, _⟩⟩ := hnv
 rw [hA, hB, hC] at hT1
 rw [← hm] at hmb
 generalize mP l 2 a b c = m at *
 generalize nP l 2 a b c = n at *
 refine wt ?_
 refine cq_mid [(0, .av (ts l)), (1, .av (vi 2)), (5, .av (.ptr 3 (fun i => .val ([Value.int .i64 a, .int .i64 b, .int .i64 c].getD i Go.undef)))), (6, .own 10 0), (9, .av (.ptr 3 (tpf n)))] [(10, .cells [.av (vi 0), .av (vS []), .av (vS []), .av (vS []), .av (.val (.slice none 0 0))])] ?_ ?_
 ·(refine cq_cond rfl ?_ ?_ <;> intro hb <;> (try simp only [zA, zB, zG, zC, zD, zN] at hb) <;> (try (exfalso; omega)))
  ·have e : n = ⟨-(nvP (gt l a) (gt l b) (gt l c)).x, -(nvP (gt l a) (gt l b) (gt l c)).y, -(nvP (gt l a) (gt l b) (gt l c)).z⟩ := hnP.trans (if_pos hb)
   refine wt ?_
   rw [e]
   exact sq_meet ((ent_freezec 9 11 (tpf _) rfl rfl rfl).trans (ent zS zT))
  ·have e : n = nvP (gt l a) (gt l b) (gt l c) := hnP.trans (if_neg (by simpa [cz] using hb))
   refine wt ?_
   rw [e]
   exact sq_meet ((ent_freezec 9 11 (tpf _) rfl rfl rfl).trans (ent zS zT))
 have hd0 := dotc_c n (gt l a) (hnb.le zE) (hl a)
 rw [← hm] at hd0
 refine wt ?_
 refine sq_g (g_build (t := 42) (is := [0]) (xs := [_]) (vs := [_]) (tb42k 2) rfl rfl) rfl ?_
 refine wt ?_
 refine cq_loop (γ := Nat) (fun i => [(0, .av (ts l)), (1, .av (vi 2)), (6, .own 10 0), (9, .av (.ptr 3 (tpf n))), (11, .av (.clo 157 1 (fun i => [AV.ptr 3 (tpf n)].getD i .any))), (12, .av (vi m)), (13, .own 11 0), (74, .av (ts l)), (75, .av (vi l.length)), (76, .av (vi i))])
  (fun i => [(10, .cells [.av (vi 0), .av (vS []), .av (vS []), .av (vS []), .av (.val (.slice none 0 0))]), (11, .cells [.av (vi 2), .av (vS []), .av (vS []), .av (vS []), .osl 20]), (20, .row 3 1 (onD l n m i).length (xf (onD l n m i)))]) (fun i => i ≤ l.length ∧ ∀ j, j < i → m ≤ tdot n (gt l j)) (fun i => l.length - i) 0 ⟨Nat.zero_le _, by omega⟩
  ((ent_rowc (r := 11) (off := 4) 20 3 1 (xf []) rfl rfl rfl).trans (ent zS zT)) ?_
 rintro i ⟨hi, hall⟩
 have hol := onD_len l n m i
 refine wt ?_
 (refine cq_cond rfl ?_ ?_ <;> intro hb <;> (try simp only [zA, zB, zG, zC, zD, zN] at hb) <;> (try (exfalso; omega)))
 ·have hil : i < l.length := by omega
  have hd := dotc_c n (gt l i) (hnb.le zE) (hl i)
  have hsu := onD_succ l n m i
  refine wt ?_
  (refine cq_cond rfl ?_ ?_ <;> intro hb <;> (try simp only [zA, zB, zG, zC, zD, zN] at hb) <;> (try (exfalso; omega)))
  ·rw [hT0 hil hb]
   refine wt ?_
   refine sq_g (g_build (t := 42) (is := []) (xs := []) (vs := []) tb42e rfl rfl) rfl ?_
   refine wt ?_
   exact sq_resN (rvs := [_, _, _]) (τs := [_, _, _]) rfl rfl ⟨.agg (us := [_, _, _, _, _]) rfl rfl rfl rfl, .tmp rfl, .tmp rfl, trivial⟩ rfl
  ·have hge : m ≤ tdot n (gt l i) := by omega
   refine wt ?_
   (refine cq_cond rfl ?_ ?_ <;> intro hb <;> (try simp only [zA, zB, zG, zC, zD, zN] at hb) <;> (try (exfalso; omega)))
   ·rw [if_pos hb] at hsu
    refine wt ?_
    exact sq_round (i + 1) ⟨by omega, plt_step hall hge⟩ (by omega) (ent zS ⟨⟨_, rfl, .refl _⟩, ⟨_, rfl, .refl _⟩, ⟨_, rfl, .row (by rw [hsu]) (fun _ _ _ _ => by rw [hsu])⟩, trivial⟩)
   ·rw [if_neg hb] at hsu
    refine wt ?_
    exact sq_round (i + 1) ⟨by omega, plt_step hall hge⟩ (by omega) (ent zS ⟨⟨_, rfl, .refl _⟩, ⟨_, rfl, .refl _⟩, ⟨_, rfl, .row (by rw [hsu]) (fun _ _ _ _ => by rw [hsu])⟩, trivial⟩)
 have hil : i = l.length := by omega
 subst hil
 rw [hT1 hall]
 obtain ⟨⟨⟨_, _⟩, ⟨_, _⟩⟩, ⟨_, _⟩⟩ := hnb.sq
 have hx0 : 0 < n.z := hpos
 refine wt ?_
 refine dq_g (g_build_p (tb202p _) rfl rfl) rfl ?_
 refine wt ?_
 refine dq_g (g_build_p (tb202p _) rfl rfl) rfl ?_
 refine wt ?_
 refine dq_g (g_build_p (tb202p _) rfl rfl) rfl ?_
 refine wt ?_
 refine dq_v (ga_bslice_p 30 rfl (fun p1 p2 p3 w => tq203p _ _ _ p1 p2 p3 w) rfl rfl rfl) rfl rfl ?_
 refine wt ?_
 refine dq_g (g_len_s rfl rfl) rfl ?_
 refine wt ?_
 have qA := rat_ofb m n.z zO zO zO
 have qB := rat_ofb (-n.x) n.z zO zO zO
 have qC := rat_ofb (-n.y) n.z zO zO zO
 generalize Rat.divInt m n.z = A at *
 generalize Rat.divInt (-n.x) n.z = B at *
 generalize Rat.divInt (-n.y) n.z = C at *
 refine cq_loop (γ := Nat) (fun i => [(1, .av (vi 2)), (6, .own 10 0), (9, .av (.ptr 3 (tpf n))), (13, .own 11 0), (123, .osl 30), (124, .av (vi 3)), (125, .av (vi i))])
  (fun i => [(30, .srow 202 2 3 [.own 11 1, .av (vi m), .own 11 2, .av (vi (-n.x)), .own 11 3, .av (vi (-n.y))]), (10, .cells [.av (vi 0), .av (vS []), .av (vS []), .av (vS []), .av (.val (.slice none 0 0))]), (11, .cells (celP 2 A B C i)), (20, .row 3 1 (onD l n m l.length).length (xf (onD l n m l.length)))])
  (fun i => i ≤ 3) (fun i => 3 - i) 0 (Nat.zero_le _) (ent zS zT) ?_
 intro i hi
 match i, hi with
 |0, _ =>
  refine wt ?_
  refine sq_g (g_index_s (k := 0) rfl rfl rfl rfl zO) rfl ?_
  refine wt ?_
  refine sq_g (g_load_sp rfl rfl rfl rfl) rfl ?_
  refine wt ?_
  refine sq_s (g_store_sp rfl rfl rfl rfl rfl) ?_
  refine wt ?_
  exact sq_round 1 zO zO (ent zS zT)
 |1, _ =>
  refine wt ?_
  refine sq_g (g_index_s (k := 1) rfl rfl rfl rfl zO) rfl ?_
  refine wt ?_
  refine sq_g (g_load_sp rfl rfl rfl rfl) rfl ?_
  refine wt ?_
  refine sq_s (g_store_sp rfl rfl rfl rfl rfl) ?_
  refine wt ?_
  exact sq_round 2 zO zO (ent zS zT)
 |2, _ =>
  refine wt ?_
  refine sq_g (g_index_s (k := 2) rfl rfl rfl rfl zO) rfl ?_
  refine wt ?_
  refine sq_g (g_load_sp rfl rfl rfl rfl) rfl ?_
  refine wt ?_
  refine sq_s (g_store_sp rfl rfl rfl rfl rfl) ?_
  refine wt ?_
  exact sq_round 3 zO zO (ent zS zT)
 |3, _ =>
  refine wt ?_
  refine lsq_ent (ent_freeze_in 11 20 4 rfl rfl rfl rfl) ?_
  refine sq_g (g_load_own_aggv (f := pAf 2 (rtx A) (rtx B) (rtx C) (idx (onD l n m l.length))) rfl rfl rfl) rfl ?_
  refine wt ?_
  refine sq_s (g_store_aggv rfl rfl (pAf_one _ _ _ _ _) rfl rfl) ?_
  refine wt ?_
  exact sq_resN (rvs := [_, _, _]) (τs := [_, _, _]) rfl rfl ⟨.aggv (f := pAf 2 (rtx A) (rtx B) (rtx C) (idx (onD l n m l.length))) rfl rfl rfl, .tmp rfl, .tmp rfl, trivial⟩ rfl
 |_ + 4, h => omega
theorem through_c (l : List Tr) (hl : RT l) {k : Nat} (hk : k < 3) (a b c : Nat) (ha : a < l.length) (hb : b < l.length) (hc : c < l.length) (hn : l.length ≤ 1000) : CtrA Tryz.prog 95 [ts l, vi (k : Int), at3 a b c] (thrA k (thr l k a b c)) := by
 rcases (by omega : k = 0 ∨ k = 1 ∨ k = 2) with rfl | rfl | rfl
 ·exact through0_c l hl a b c ha hb hc hn
 ·exact through1_c l hl a b c ha hb hc hn
 ·exact through2_c l hl a b c ha hb hc hn
end Go.Proofs.YtgepmbjmaljgoaaGreatDoor.H
namespace Go.Proofs.YtgepmbjmaljgoaaGreatDoor.H
open Go Go.Vc Go.Na
theorem leP_ltP (a b : Pl) : leP a b = true ↔ ltP a b ∨ eqP a b := by
 unfold leP
 rw [Bool.not_eq_true', decide_eq_false_iff_not]
 unfold ltP eqP lt3
 grind
theorem eqP_refl (a : Pl) : eqP a a := ⟨rfl, rfl, rfl⟩
theorem cpt_ok {L : List Pl} (hs : L.Pairwise (fun a b => leP a b = true)) (hu : ∀ p ∈ L, ∀ q ∈ L, eqP p q → p = q) :
  ∀ m, m ≤ L.length → Asc (cptToF L m) ∧ (∀ r, r ∈ cptToF L m ↔ ∃ i, i < m ∧ gP L i = r)
 |0, _ => ⟨by simp [cptToF, Asc], fun r => by simp [cptToF]⟩
 |m + 1, hm => by
  obtain ⟨h1, h2⟩ := cpt_ok hs hu m zO
  rw [cptToF_succ]
  have hle : ∀ i, i < m → leP (gP L i) (gP L m) = true := fun i hi => by
   have := List.pairwise_iff_getElem.1 hs i m zO zO hi
   rwa [gP_eq zO, gP_eq zO]
  by_cases hm0 : m = 0
  ·subst hm0
   rw [if_pos (by simp [cptPF])]
   refine ⟨by simp [cptToF, Asc], fun r => ?_⟩
   rw [List.mem_append]
   constructor
   ·rintro (h | h)
    ·simp [cptToF] at h
    ·exact ⟨0, by omega, (List.mem_singleton.1 h).symm⟩
   ·rintro ⟨i, hi, rfl⟩
    obtain rfl : i = 0 := by omega
    exact .inr (by simp)
  ·split
   ·rename_i hc
    have hne : ¬ eqP (gP L m) (gP L (m - 1)) := by simpa [cptPF, hm0] using hc
    refine ⟨List.pairwise_append.2 ⟨h1, by simp, fun a ha b hb => ?_⟩, fun r => ?_⟩
    ·obtain rfl := List.mem_singleton.1 hb
     obtain ⟨i, hi, rfl⟩ := (h2 a).1 ha
     rcases (leP_ltP _ _).1 (hle i hi) with h | h
     ·exact h
     ·exfalso
      apply hne
      have a1 : leP (gP L i) (gP L (m - 1)) = true := by
       by_cases e : i = m - 1
       ·subst e; exact (leP_ltP _ _).2 (.inr (eqP_refl _))
       ·have := List.pairwise_iff_getElem.1 hs i (m - 1) zO zO zO
        rwa [gP_eq zO, gP_eq zO]
      have a2 := hle (m - 1) zO
      rw [leP_ltP] at a1 a2
      generalize gP L i = x at *
      generalize gP L (m - 1) = y at *
      generalize gP L m = z at *
      unfold ltP eqP at *
      grind
    ·rw [List.mem_append, h2]
     constructor
     ·rintro (⟨i, hi, rfl⟩ | h)
      ·exact ⟨i, by omega, rfl⟩
      ·exact ⟨m, by omega, (List.mem_singleton.1 h).symm⟩
     ·rintro ⟨i, hi, rfl⟩
      by_cases e : i = m
      ·subst e; exact .inr (by simp)
      ·exact .inl ⟨i, by omega, rfl⟩
   ·rename_i hc
    have hne : eqP (gP L m) (gP L (m - 1)) := by simpa [cptPF, hm0] using hc
    have he : gP L m = gP L (m - 1) := hu _ (gP_mem zO) _ (gP_mem zO) hne
    refine ⟨h1, fun r => ?_⟩
    rw [h2]
    constructor
    ·rintro ⟨i, hi, rfl⟩; exact ⟨i, by omega, rfl⟩
    ·rintro ⟨i, hi, rfl⟩
     by_cases e : i = m
     ·subst e; exact ⟨i - 1, by omega, he.symm⟩
     ·exact ⟨i, by omega, rfl⟩
theorem srtP_mem {L : List Pl} {p : Pl} : p ∈ srtP L ↔ p ∈ L := (List.mergeSort_perm L leP).mem_iff
theorem cpt_cand (l : List Tr) (k : Nat) : cptPl (srtP (thrs l k)) = candP l k := by
 obtain ⟨h1, h2⟩ := cpt_ok (L := srtP (thrs l k)) (List.pairwise_mergeSort leP_tr leP_to _) (fun p hp q hq => thrs_uniq (srtP_mem.1 hp) (srtP_mem.1 hq)) _ (Nat.le_refl _)
 obtain ⟨h3, h4⟩ := cand_ok l k
 refine asc_ext h1 h3 (fun r => ?_)
 rw [h4, ← srtP_mem (L := thrs l k)]
 rw [show r ∈ cptPl (srtP (thrs l k)) ↔ _ from h2 r]
 constructor
 ·rintro ⟨i, hi, rfl⟩; exact gP_mem hi
 ·intro hr
  obtain ⟨i, hi, rfl⟩ := List.getElem_of_mem hr
  exact ⟨i, hi, gP_eq hi⟩
theorem srtP_len (L : List Pl) : (srtP L).length = L.length := List.length_mergeSort L
theorem thrs_len (l : List Tr) (k : Nat) : (thrs l k).length ≤ l.length * (l.length * l.length) := by
 unfold thrs
 have := List.length_filterMap_le (thrT l k) (trip l.length)
 have h2 : (trip l.length).length ≤ l.length * (l.length * l.length) := by rw [tI_eq]; exact tI_len _
 exact Nat.le_trans this h2
theorem LR_divInt {n d : Int} (hn : -9000000000000000000 ≤ n ∧ n ≤ 9000000000000000000) (hd : -9000000000000000000 ≤ d ∧ d ≤ 9000000000000000000) (h0 : d ≠ 0) : LR 400 (Rat.divInt n d) := by
 have l : ∀ x : Int, -9000000000000000000 ≤ x ∧ x ≤ 9000000000000000000 → LI 400 x := fun x hx => LI.mono (k := 19) (show x.natAbs < 10 ^ 19 by omega) zE
 exact divInt_LR h0 (l _ hn) (l _ hd)
theorem BT.cz {A : Int} {n : Tr} (h : BT A n) (k : Nat) : -A ≤ cz n k ∧ cz n k ≤ A := by
 match k with
 |0 => exact ⟨h.x.1, h.x.2⟩
 |1 => exact ⟨h.y.1, h.y.2⟩
 |k + 2 => exact ⟨h.z.1, h.z.2⟩
theorem bt_dot {A B : Int} {p q : Tr} (h : BT A p) (h' : BT B q) : -(3 * (A * B)) ≤ tdot p q ∧ tdot p q ≤ 3 * (A * B) := by
 have h1 := bn_mul h.x h'.x
 have h2 := bn_mul h.y h'.y
 have h3 := bn_mul h.z h'.z
 unfold tdot
 omega
theorem thrs_LR {l : List Tr} (hl : RT l) {k : Nat} (hk : k < 3) {P : Pl} (h : P ∈ thrs l k) : PLR P := by
 obtain ⟨⟨a, b, c⟩, _, h⟩ := List.mem_filterMap.1 h
 have h' : thr l k a b c = some P := h
 unfold thr at h'
 split at h'
 ·cases h'
 ·rename_i hz
  unfold mkP at h'
  split at h'
  ·cases h'
  ·injection h' with h'
   subst h'
   have hn := BT.np hl k a b c
   have h1 := hn.cz k
   have h2 := hn.cz (ou k)
   have h3 := hn.cz (ov k)
   have h4 : cz (nP l k a b c) k ≠ 0 := by have := upP_pos (k := k) (n := nvP (gt l a) (gt l b) (gt l c)) hz; unfold nP; omega
   refine ⟨LR_divInt ?_ zO h4, LR_divInt zO zO h4, LR_divInt zO zO h4⟩
   unfold mP
   have hm := bt_dot hn (hl a)
   omega
end Go.Proofs.YtgepmbjmaljgoaaGreatDoor.H
namespace Go.Proofs.YtgepmbjmaljgoaaGreatDoor.H
open Go Go.Vc Go.RowKit Go.Na
set_option maxHeartbeats 4000000
theorem ctrAM {P : Program} {fn : Func} {f : FuncId} {c : Code} {args : List AV} {res : AV} (N : Nat) (hf : P.funcs[f]? = some fn) (hb : fn.body = some c) (hname : (fn.name == "runtime.NumGoroutine") = false) (hN : fn.ntmps = N) (hlen' : Nat.ble args.length N = true)
  (h : ∀ w Z, CQ P (envA N w Z) (postM P fn (RetA w Z res)) (initT 0 (args.map SV.av)) [] c) : CtrA P f args res :=
 ⟨entersM hf hb hname, fun w Z vs hZ hvs => callsIn_wide.1 (callsIn_of_wp_marks (n := 0) hf hb trivial ((h w Z).sq _ w (init_satM hN hlen' hZ hvs)))⟩
def cellOf (x : Value) (j : Nat) : Value := match x with | .agg cs => cs.toList.getD j undef | _ => undef
def natOf (x : Value) : Nat := match x with | .int _ i => i.toNat | _ => 0
def decT (x : Value) : Nat × Nat × Nat := (natOf (cellOf x 0), natOf (cellOf x 1), natOf (cellOf x 2))
def preP (l : List Tr) (k : Nat) (pre : List Value) : List Pl := pre.filterMap fun x => thrT l k (decT x)
theorem preP_app (l : List Tr) (k : Nat) (pre : List Value) (x : Value) : preP l k (pre ++ [x]) = preP l k pre ++ (thrT l k (decT x)).toList := by
 unfold preP
 rw [List.filterMap_append]
 cases h : thrT l k (decT x) <;> simp [List.filterMap, h]
theorem preP_len (l : List Tr) (k : Nat) (pre : List Value) : (preP l k pre).length ≤ pre.length := List.length_filterMap_le _ _
theorem preP_all {l : List Tr} {k n : Nat} {xs : List Value} {Z : Zone} {w : World} (h : All2 (fun τ v => AV.ok Z w τ v) ((tI n).map atT) xs) : preP l k xs = (tI n).filterMap (thrT l k) := by
 have key : ∀ (L : List (Nat × Nat × Nat)) (xs : List Value), All2 (fun τ v => AV.ok Z w τ v) (L.map atT) xs → preP l k xs = L.filterMap (thrT l k) := by
  intro L
  induction L with
  |nil => intro xs h; match xs, h with | [], _ => rfl
  |cons t L ih =>
   intro xs h
   match xs, h with
   |x :: xs, h =>
    obtain ⟨h1, h2⟩ := h
    have e : x = .agg #[.int .i64 t.1, .int .i64 t.2.1, .int .i64 t.2.2] := h1
    have e2 : decT x = t := by rw [e]; rfl
    have := ih xs h2
    unfold preP at this ⊢
    rw [List.filterMap_cons, List.filterMap_cons, e2, this]
 exact key _ _ h
def candA (l : List Tr) (k : Nat) : AV :=
 if chk (plcs l k) ≠ 0 then tupOf [.val (.slice none 0 0), vi (chk (plcs l k))] else if collB (plcs l k) = true then tupOf [.val (.slice none 0 0), vi 14] else tupOf [.sl (candP l k).length 5 (pf5 k (candP l k)), vi 0]
theorem tq25 (a b c d e : Value) (w : World) : (Instr.buildSlice 25 1 #[(0, .agg #[a, b, c, d, e])]).run Tryz.prog w = .ok (.slice (some ⟨w.heap.size, 0, none⟩) 1 1) (w.alloc (.cells #[a, b, c, d, e] 42)) := by kernel_rfl
theorem bs25 (κ : Int) (P : Pl) : ∀ (Z : Zone) (w : World) (vs : List Value), All2 (fun τ v => AV.ok Z w τ v) [pR κ P] vs → ∃ cs : List Value, (Instr.buildSlice 25 1 ([0].zip vs).toArray).run Tryz.prog w = .ok (.slice (some ⟨w.heap.size, 0, none⟩) 1 1) (w.alloc (.cells cs.toArray 42)) ∧ ∀ i, i < 1 → ∀ j, j < 5 → ∃ u, cs[i * 5 + j]? = some u ∧ (pf5 κ [P] i j).ok Z w u := fun Z w vs h => by
 match vs, h with
 |[v], ⟨⟨cs, hv, hl, hc⟩, _⟩ =>
  match cs, hl with
  |[c0, c1, c2, c3, c4], _ =>
   subst hv
   refine ⟨_, tq25 _ _ _ _ _ _, fun i hi j hj => ?_⟩
   obtain rfl : i = 0 := by omega
   rw [Nat.zero_mul, Nat.zero_add]
   exact hc j hj
theorem pf5_app (κ : Int) (L : List Pl) (P : Pl) : ∀ i, i < L.length + 1 → ∀ j, j < 5 → rowApp L.length (pf5 κ L) (pf5 κ [P]) i j = pf5 κ (L ++ [P]) i j := by
 intro i hi j hj
 unfold rowApp pf5
 rw [gP_app]
 by_cases h : i < L.length
 ·rw [if_pos h, if_pos h]
 ·have e : i = L.length := by omega
  subst e
  rw [if_neg h, if_neg h, if_pos rfl, Nat.sub_self]
  rfl
theorem cands_c (l : List Tr) (hl : RT l) {k : Nat} (hk : k < 3) (hn : l.length ≤ 9) : CtrA Tryz.prog 46 [ts l, vi (k : Int)] (candA l k) := by
 have hp := (places_c l hk zO).ro
 have hc := coll_c (plcs l k)
 have ht := triples_c l.length
 refine ctrAM _ Tryz.func46 rfl rfl Tryz.ntmps46 rfl fun w Z => ?_
 refine zU ?_
 refine wt ?_
 (refine cq_cond rfl ?_ ?_ <;> intro hb <;> (try simp only [zA, zB, zG, zC, zD, zN] at hb) <;> (try (exfalso; omega)))
 ·refine wt ?_
  exact sq_mR (sq_resN (rvs := [_, _]) (τs := [_, _]) rfl rfl ⟨.cell rfl rfl rfl, .cell rfl rfl rfl, trivial⟩ (by unfold candA; rw [if_pos hb]))
 ·have hb0 := hb
  have hE : collE (plcs l k) = collB (plcs l k) := by unfold collE; rw [if_pos hb]
  rw [hE]
  refine wt ?_
  (refine cq_cond rfl ?_ ?_ <;> intro hb <;> (try simp only [zA, zB, zG, zC, zD, zN] at hb) <;> (try (exfalso; omega)))
  ·refine wt ?_
   exact sq_mR (sq_resN (rvs := [_, _]) (τs := [_, _]) rfl rfl ⟨.cell rfl rfl rfl, .cell rfl rfl rfl, trivial⟩ (by unfold candA; rw [if_neg (fun h => h hb0), if_pos hb]))
  ·refine wt ?_
   refine cq_more (ent_rowc (r := 12) (off := 0) 100 42 5 (pf5 k []) rfl rfl rfl) ?_
   refine cq_rangeM rfl rfl (triplesi_c l.length zO) [9, 10, 11, 12, 27, 28, 29, 30, 31, 32, 33, 34, 35, 36, 37, 38, 39, 40, 41, 42, 43, 100] [(2, .av (.ptr 1 (fun _ => ts l))), (3, .av (.ptr 1 (fun _ => vi (k : Int)))), (4, .own 10 0), (5, .own 11 0), (8, .own 12 0), (26, .av (tcl l.length))]
    (fun pre => [(100, .row 42 5 (preP l k pre).length (pf5 k (preP l k pre))), (12, .cells [.osl 100]), (11, .cells [.av (vi 0)]), (10, .cells [.av (.val (.slice none 0 0))])]) (fun x => [(9, .av (.ptr 3 (fun j => .val (cellOf x j))))])
    (ent zS zT) rfl rfl rfl rfl (fun _ => rfl) ?_ ?_ ?_
   ·rintro lp a0 w0 Z0 keep pre x ⟨a, b, c, ha, hb1, hc1, rfl⟩
    refine wt ?_
    exact sq_assM (Ent.trans (ent_freezec 9 13 (fun j => .val (cellOf (.agg #[.int .i64 a, .int .i64 b, .int .i64 c]) j)) rfl rfl rfl) (ent zS zT))
   ·rintro lp a0 w0 Z0 keep pre x ⟨a, b, c, ha, hb1, hc1, rfl⟩ hlen
    have hT := through_c l hl hk a b c ha hb1 hc1 zO
    have hpa := preP_app l k pre (.agg #[.int .i64 a, .int .i64 b, .int .i64 c])
    rw [show thrT l k (decT (.agg #[.int .i64 a, .int .i64 b, .int .i64 c])) = thr l k a b c from rfl] at hpa
    have hpl : pre.length ≤ 729 := by
     rw [List.length_map] at hlen
     have := tI_len l.length
     have : l.length * (l.length * l.length) ≤ 9 * (9 * 9) := Nat.mul_le_mul hn (Nat.mul_le_mul hn hn)
     omega
    have hpl2 := preP_len l k pre
    cases hth : thr l k a b c with
    |none =>
     rw [hth] at hT hpa
     rw [show (Option.none : Option Pl).toList = [] from rfl, List.append_nil] at hpa
     refine wt ?_
     rw [hpa]
     exact sq_rndM (ent zS zT)
    |some P =>
     rw [hth] at hT hpa
     rw [show (some P).toList = [P] from rfl] at hpa
     refine wt ?_
     refine sq_s (g_store_aggv rfl rfl (pAf_one _ _ _ _ _) rfl rfl) ?_
     refine wt ?_
     refine sq_g (g_load_own_aggv (f := pAf k (rtx P.A) (rtx P.B) (rtx P.C) (idx P.s)) rfl rfl rfl) rfl ?_
     refine wt ?_
     refine sq_g (g_bslice_gen (is := [0]) (xs := [_]) (τs := [pR k P]) (row := pf5 k [P]) rfl rfl (bs25 k P) rfl) rfl ?_
     refine wt ?_
     refine sq_v (v_append (h := pf5 k [P]) (m := 1) rfl rfl rfl (fun i hi j hj => pAf_one _ _ _ _ _ j hj) (by omega) (by simp only [maxLen]; omega) (by omega)) rfl ?_
     refine wt ?_
     rw [hpa]
     exact sq_rndM (ent zS ⟨⟨_, rfl, .row (by simp) (fun i hi j hj => pf5_app _ _ _ i (by simpa using hi) j hj)⟩, ⟨_, rfl, .refl _⟩, ⟨_, rfl, .refl _⟩, ⟨_, rfl, .refl _⟩, trivial⟩)
   ·intro D w2 xs Z1 ν a hA hR h
    have hxs : preP l k xs = thrs l k := (preP_all (l := l) (k := k) hR).trans (by unfold thrs; rw [tI_eq])
    have hlr : ∀ p ∈ thrs l k, PLR p := fun p hp => thrs_LR hl hk hp
    have htl := thrs_len l k
    have : l.length * (l.length * l.length) ≤ 9 * (9 * 9) := Nat.mul_le_mul hn (Nat.mul_le_mul hn hn)
    have hs1 := sortf_c k (thrs l k) hlr (fun f hf g hg => thrs_uniq hf hg) zO
    have hs2 := compactf_c k (srtP (thrs l k)) (fun p hp => hlr p (srtP_mem.1 hp)) (by rw [srtP_len]; omega)
    rw [srtP_len, cpt_cand] at hs2
    rw [hxs] at h
    refine sq_use ⟨_, _, h⟩ ?_
    refine wt ?_
    refine sq_v (v_call_w hs1 rfl rfl rfl) rfl ?_
    refine wt ?_
    refine sq_v (v_call_wb hs2 rfl rfl rfl) rfl ?_
    refine wt ?_
    exact sq_afterM hA (sq_ent (ent_freeze_in 10 100 0 rfl rfl rfl rfl) (sq_resN (rvs := [_, _]) (τs := [_, _]) rfl rfl ⟨.cell rfl rfl rfl, .cell rfl rfl rfl, trivial⟩ (by unfold candA; rw [if_neg (fun h => h hb0), if_neg (by rw [hb]; decide)])))
theorem cut_any (l : List UInt8) : Lib.cut l [47] = match spI l with | some i => (l.take i, l.drop (i + 1), true) | none => (l, [], false) := by
 cases hI : spI l with
 |none =>
  have h : (47 : UInt8) ∉ l := fun h => by
   have := List.findIdx?_eq_none_iff.1 hI 47 h
   simp at this
  unfold Lib.cut
  dsimp only
  rw [index_no47 h, if_neg (by omega)]
 |some i =>
  obtain ⟨h1, h2, h3⟩ := spI_at hI
  have e : Lib.cut (l.take i ++ 47 :: l.drop (i + 1)) [47] = (l.take i, l.drop (i + 1), true) := by
   generalize l.take i = a at h2
   unfold Lib.cut
   rw [index_47 h2, if_pos (by omega)]
   simp
  rw [← h1] at e
  exact e
theorem rcut_any (l : List UInt8) (hl : l.length ≤ 1000000) : CtrA Tryz.prog 172 [vS l] (tupOf [vS (spN l), vS (spD l), vb (spI l).isSome]) := by
 have h1 := cut_c l hl
 have hs1 : spN l = match spI l with | some i => l.take i | none => l := rfl
 have hs2 : spD l = match spI l with | some i => l.drop (i + 1) | none => [49] := rfl
 rw [cut_any] at h1
 cases hI : spI l with
 |none =>
  rw [hI] at h1 hs1 hs2
  dsimp only at h1 hs1 hs2
  rw [hs1, hs2]
  refine ctrA _ Tryz.func172 rfl rfl Tryz.ntmps172 rfl fun w Z => ?_
  refine zU ?_
  refine wt ?_
  exact zX
 |some i =>
  rw [hI] at h1 hs1 hs2
  dsimp only at h1 hs1 hs2
  rw [hs1, hs2]
  refine ctrA _ Tryz.func172 rfl rfl Tryz.ntmps172 rfl fun w Z => ?_
  refine zU ?_
  refine wt ?_
  exact zX
theorem vI1' : vI 1 = vS [49] := by rw [vI, itoa_1]
theorem ratcheck_c (l : List UInt8) (hl : l.length ≤ 400) : CtrA Tryz.prog 111 [vS l] (vi (chkR l)) := by
 have h1 := rcut_any l zO
 have ln := spN_len l
 have ld := spD_len l
 have c1 := wcheck_c (spN l) zO
 have c2 := wcheck_c (spD l) zO
 rcases chk_short (l := spN l) zO with e1 | e1
 case inr =>
  rw [e1] at c1
  refine ctrA _ Tryz.func111 rfl rfl Tryz.ntmps111 rfl fun w Z => ?_
  refine zU ?_
  refine wt ?_
  exact sq_res1 rfl (.tmp rfl) (congrArg vi (chkR_bad fun h => by
   obtain ⟨m, hm⟩ := (isNum_iff _).1 (isRat_parts h).1
   rw [hm, chk_num (LI_itoa (by rw [← hm]; omega))] at e1
   cases e1).symm)
 obtain ⟨m, hm⟩ := chk_good e1
 rcases chk_short (l := spD l) zO with e2 | e2
 case inr =>
  rw [e1] at c1
  rw [e2] at c2
  refine ctrA _ Tryz.func111 rfl rfl Tryz.ntmps111 rfl fun w Z => ?_
  refine zU ?_
  refine wt ?_
  exact sq_res1 rfl (.tmp rfl) (congrArg vi (chkR_bad fun h => by
   obtain ⟨m, hm⟩ := (isNum_iff _).1 (isRat_parts h).2
   rw [hm, chk_num (LI_itoa (by rw [← hm]; omega))] at e2
   cases e2).symm)
 obtain ⟨e, he⟩ := chk_good e2
 rw [e1] at c1
 rw [e2] at c2
 have hs1 : spN l = match spI l with | some i => l.take i | none => l := rfl
 have hs2 : spD l = match spI l with | some i => l.drop (i + 1) | none => [49] := rfl
 cases hI : spI l with
 |none =>
  rw [hI] at h1 hs1
  dsimp only at hs1
  refine ctrA _ Tryz.func111 rfl rfl Tryz.ntmps111 rfl fun w Z => ?_
  refine zU ?_
  refine wt ?_
  exact sq_res1 rfl (.tmp rfl) (congrArg vi (by rw [← hs1, hm]; exact (if_pos (isRat_num m)).symm))
 |some i =>
  rw [hI] at h1 hs1 hs2
  dsimp only at hs1 hs2
  obtain ⟨hl2, _, hil⟩ := spI_at hI
  rw [← hs1, ← hs2, hm, he] at hl2
  have hiff := isRat_mid m e
  rw [← hl2] at hiff
  have lm : LI 401 m := LI_itoa (by rw [← hm]; omega)
  have le : LI 401 e := LI_itoa (by rw [← he]; omega)
  rw [hm] at h1 c1
  rw [he] at h1 c2
  have ho := wcompare_c e 1 (le.mono zE) (.small zE zE)
  rw [vI1'] at ho
  have hsh := wgcd_c m e (lm.mono zE) (le.mono zE)
  have h49 := itoa_is1 ((Nat.gcd m.natAbs e.natAbs : Nat) : Int)
  by_cases h0 : 1 < e
  ·have es : Na.sgn (e - 1) = 1 := by unfold Na.sgn; rw [if_neg (by omega), if_neg (by omega)]
   rw [es] at ho
   by_cases hg : Nat.gcd m.natAbs e.natAbs = 1
   ·rw [decide_eq_true (by omega)] at h49
    refine ctrA _ Tryz.func111 rfl rfl Tryz.ntmps111 rfl fun w Z => ?_
    refine zU ?_
    refine wt ?_
    rw [h49]
    refine wt ?_
    exact sq_res1 rfl (.tmp rfl) (congrArg vi (if_pos (hiff.2 ⟨h0, hg⟩)).symm)
   ·rw [decide_eq_false (by omega)] at h49
    refine ctrA _ Tryz.func111 rfl rfl Tryz.ntmps111 rfl fun w Z => ?_
    refine zU ?_
    refine wt ?_
    rw [h49]
    refine wt ?_
    exact sq_res1 rfl (.tmp rfl) (congrArg vi (chkR_bad fun h => hg (hiff.1 h).2).symm)
  ·have hbad : chkR l = 3 := chkR_bad fun h => h0 (hiff.1 h).1
   rw [hbad]
   by_cases h1' : e = 1
   ·have es : Na.sgn (e - 1) = 0 := by unfold Na.sgn; rw [if_pos (by omega)]
    rw [es] at ho
    refine ctrA _ Tryz.func111 rfl rfl Tryz.ntmps111 rfl fun w Z => ?_
    refine zU ?_
    refine wt ?_
    exact zV
   ·have es : Na.sgn (e - 1) = -1 := by unfold Na.sgn; rw [if_neg (by omega), if_pos (by omega)]
    rw [es] at ho
    refine ctrA _ Tryz.func111 rfl rfl Tryz.ntmps111 rfl fun w Z => ?_
    refine zU ?_
    refine wt ?_
    exact zV
def candX (l : List Tr) (a : Int) : AV := if givE l a ≠ 0 then tupOf [.val (.slice none 0 0), vi (givE l a)] else candA l a.toNat
theorem few_of {l : List Tr} {a : Int} (hf : fewB l = true) (hg : givE l a = 0) : RT l ∧ l.length ≤ 6 ∧ ∃ k : Nat, k < 3 ∧ a = k := by
 unfold givE at hg
 split at hg
 ·rename_i h; exact absurd hg h
 ·rename_i h
  obtain ⟨h1, h2⟩ := RT.of (l := l) (by simpa using h)
  have h3 : l.length ≤ 6 := by unfold fewB at hf; simp at hf; omega
  split at hg
  ·rename_i h4; exact ⟨h1, h3, a.toNat, by omega, by omega⟩
  ·cases hg
theorem candidates_c (l : List Tr) (a : Int) (hf : fewB l = true) : CtrA Tryz.prog 13 [ts l, vi a] (candX l a) := by
 have h1 := given_c l a
 unfold candX
 by_cases hg : givE l a = 0
 ·obtain ⟨h2, h3, k, h4, rfl⟩ := few_of hf hg
  have h5 := cands_c l h2 h4 zO
  rw [if_neg (fun h => h hg), Int.toNat_natCast]
  rw [hg] at h1
  unfold candA at h5 ⊢
  split at h5
  ·rename_i hc
   rw [if_pos hc]
   refine ctrA _ Tryz.func13 rfl rfl Tryz.ntmps13 rfl fun w Z => ?_
   refine zU ?_
   refine wt ?_
   exact zW
  ·rename_i hc
   rw [if_neg hc]
   split at h5
   ·rename_i hd
    rw [if_pos hd]
    refine ctrA _ Tryz.func13 rfl rfl Tryz.ntmps13 rfl fun w Z => ?_
    refine zU ?_
    refine wt ?_
    exact zW
   ·rename_i hd
    rw [if_neg hd]
    refine ctrA _ Tryz.func13 rfl rfl Tryz.ntmps13 rfl fun w Z => ?_
    refine zU ?_
    refine wt ?_
    exact zW
 ·rw [if_pos hg]
  refine ctrA _ Tryz.func13 rfl rfl Tryz.ntmps13 rfl fun w Z => ?_
  refine zU ?_
  refine wt ?_
  (refine cq_cond rfl ?_ ?_ <;> intro hb <;> (try simp only [zA, zB, zG, zC, zD, zN] at hb) <;> (try (exfalso; omega)))
  ·refine wt ?_
   exact zW
def cndL (l : List Tr) (a : Int) : List Pl := if givE l a ≠ 0 then [] else if chk (plcs l a.toNat) ≠ 0 then [] else if collB (plcs l a.toNat) = true then [] else candP l a.toNat
def cndE (l : List Tr) (a : Int) : Int := if givE l a ≠ 0 then givE l a else if chk (plcs l a.toNat) ≠ 0 then chk (plcs l a.toNat) else if collB (plcs l a.toNat) = true then 14 else 0
theorem candX_cases (l : List Tr) (a : Int) : (candX l a = tupOf [.val (.slice none 0 0), vi (cndE l a)] ∧ cndL l a = []) ∨ (candX l a = tupOf [.sl (cndL l a).length 5 (pf5 a (cndL l a)), vi (cndE l a)] ∧ cndE l a = 0) := by
 by_cases h1 : givE l a = 0
 ·by_cases h2 : chk (plcs l a.toNat) = 0
  ·by_cases h3 : collB (plcs l a.toNat) = true
   ·exact .inl ⟨by simp [candX, candA, cndE, h1, h2, h3], by simp [cndL, h1, h2, h3]⟩
   ·have ha : ((a.toNat : Nat) : Int) = a := by
     unfold givE at h1
     split at h1
     ·rename_i h; exact absurd h1 h
     ·split at h1
      ·omega
      ·cases h1
    have e : cndL l a = candP l a.toNat := by simp [cndL, h1, h2, h3]
    rw [e]
    exact .inr ⟨by simp [candX, candA, cndE, h1, h2, h3, ha], by simp [cndE, h1, h2, h3]⟩
  ·exact .inl ⟨by simp [candX, candA, cndE, h1, h2], by simp [cndL, h1, h2]⟩
 ·exact .inl ⟨by simp [candX, cndE, h1], by simp [cndL, h1]⟩
theorem rocks_c (l : List Tr) (a : Int) (hf : fewB l = true) : CtrA Tryz.prog 15 [ts l, vi a] (tupOf [vb (decide (1 < (cndL l a).length)), vi (cndE l a)]) := by
 have h := candidates_c l a hf
 rcases candX_cases l a with ⟨h1, h2⟩ | ⟨h1, h2⟩
 ·rw [h1] at h
  rw [h2]
  refine ctrA _ Tryz.func15 rfl rfl Tryz.ntmps15 rfl fun w Z => ?_
  refine zU ?_
  refine wt ?_
  exact zW
 ·rw [h1] at h
  refine ctrA _ Tryz.func15 rfl rfl Tryz.ntmps15 rfl fun w Z => ?_
  refine zU ?_
  refine wt ?_
  refine sq_resN (rvs := [_, _]) (τs := [_, _]) rfl rfl ⟨.tmp rfl, .tmp rfl, trivial⟩ ?_
  refine congrArg (fun b => tupOf [vb b, vi (cndE l a)]) ?_
  rw [Bool.eq_iff_iff]; simp; omega
end Go.Proofs.YtgepmbjmaljgoaaGreatDoor.H
section
end
namespace Go.Proofs.YtgepmbjmaljgoaaGreatDoor
open Go Go.Vc Go.RowKit Go.Na Go.Lib
set_option maxHeartbeats 4000000
def placeI (p : Nat → Int) (c : Int) : Nat → Nat → Int
 |_, 0 => -1
 |i, n + 1 => if p i = c then i else placeI p c (i + 1) n
theorem place_c (n : Nat) (p : Nat → Int) (c : Int) (hn : n ≤ 1000000) : CtrA Tryz.prog 218 [.sl n 1 (fun i _ => vi (p i)), vi c] (vi (placeI p c 0 n)) := by
 refine ctrA _ Tryz.func218 rfl rfl Tryz.ntmps218 rfl fun w Z => ?_
 refine zU ?_
 refine wl ?_
 refine cq_loop (γ := Nat) (fun i => [(0, .av (.sl n 1 (fun i _ => vi (p i)))), (1, .av (vi c)), (5, .av (vi i))]) (fun _ => []) (fun i => i ≤ n ∧ placeI p c 0 n = placeI p c i (n - i)) (fun i => n - i) 0 ⟨Nat.zero_le _, rfl⟩ (ent zS trivial) ?_
 rintro i ⟨hi, he⟩
 refine wl ?_
 (refine cq_cond rfl ?_ ?_ <;> intro hb <;> (try simp only [zA, zB, zG, zC, zD, zN] at hb) <;> (try (exfalso; omega)))
 ·obtain ⟨k, hk⟩ : ∃ k, n - i = k + 1 := ⟨n - i - 1, by omega⟩
  rw [hk, placeI] at he
  refine wl ?_
  (refine cq_cond rfl ?_ ?_ <;> intro hb <;> (try simp only [zA, zB, zG, zC, zD, zN] at hb) <;> (try (exfalso; omega)))
  ·refine wl ?_
   exact sq_res1 rfl (.tmp rfl) (congrArg vi (by rw [he, if_pos (by assumption)]))
  ·refine wl ?_
   exact sq_round (i + 1) ⟨by omega, by rw [he, if_neg (by assumption), show n - (i + 1) = k by omega]⟩ (by omega) (ent zS trivial)
 ·have e : n - i = 0 := by omega
  rw [e] at he
  refine wl ?_
  exact sq_res1 rfl (.tmp rfl) (congrArg vi he.symm)
end Go.Proofs.YtgepmbjmaljgoaaGreatDoor
