/- A part of the proof. -/
import Derived.Test.YtgblokifbgeegaaGreatDoorBba
set_option linter.unusedVariables false
set_option linter.unusedSimpArgs false
namespace Go.Proofs.YtgblokifbgeegaaGreatDoor.H.S
open Go Go.Vc Go.RowKit Go.Na Go.Lib
set_option maxHeartbeats 8000000
theorem z1O (m n : Int) (hm : LI 300 m) (hn : LI 300 n) : CtrA Tryz.prog 61 [vI m, vI n] (j0r [vi (Na.sgn (m - n)), vi 0]) := by
 have h := y0o (m : Rat) (n : Rat) (LR.ofI (hm.mono xE) xE) (LR.ofI (hn.mono xE) xE)
 rw [vRI, vRI, ← Y0X] at h
 simp only [Rat.num_intCast, Rat.den_intCast, Int.natCast_one, Int.mul_one] at h
 exact h
theorem Z1l (m : Int) : decide (Na.sgn m < 0) = decide (m < 0) := by
 rw [Bool.eq_iff_iff, decide_eq_true_eq, decide_eq_true_eq]
 unfold Na.sgn
 split
 ·omega
 ·split <;> omega
theorem Z1k (m : Int) : decide (0 < Na.sgn m) = decide (0 < m) := by
 rw [Bool.eq_iff_iff, decide_eq_true_eq, decide_eq_true_eq]
 unfold Na.sgn
 split
 ·omega
 ·split <;> omega
theorem Z1O (x y z : Int) (w : World) : (Instr.buildSlice 40 3 #[(0, .int .i64 x), (1, .int .i64 y), (2, .int .i64 z)]).run Tryz.prog w = .ok (.slice (some ⟨w.heap.size, 0, none⟩) 3 3) (w.alloc (.cells #[.int .i64 x, .int .i64 y, .int .i64 z] 3)) := by kernel_rfl
def cof (p : Tr) : Nat → Nat → AV := fun i _ => vi (co p i)
theorem Q1y (p : Tr) : ∀ i, i < 3 → ∀ j, j < 1 → ∃ u, [Value.int .i64 p.x, .int .i64 p.y, .int .i64 p.z][i * 1 + j]? = some u ∧ cof p i j = .val u := by
 intro i hi j hj
 obtain rfl : j = 0 := by omega
 rcases (by omega : i = 0 ∨ i = 1 ∨ i = 2) with rfl | rfl | rfl <;> exact ⟨_, rfl, rfl⟩
def pS (p d : Tr) : Nat → Int
 |0 => 0
 |i + 1 => pS p d i + co p i * co d i
theorem j2J (p d : Tr) : pS p d 3 = j0c d p := by show 0 + p.x * d.x + p.y * d.y + p.z * d.z = _; unfold j0c; grind
def y1n (d : Tr) (a b : Int) (p : Tr) : Bool := decide (a ≤ j0c d p) && decide (j0c d p ≤ b)
def X1X (l : List Tr) (d : Tr) (a b : Int) : Int := if v0i l = 0 then zE d a b else v0i l
def inZ (l : List Tr) (d : Tr) (a b : Int) : Bool := if X1X l d a b = 0 then l.all (y1n d a b) else false
theorem z1n {l : List Tr} {f : Tr → Bool} : l.all f = true ↔ ∀ i, i < l.length → f (gt l i) = true := by
 rw [List.all_eq_true]
 constructor
 ·intro h i hi; exact h _ (by unfold gt; simp [List.getD, hi])
 ·intro h x hx
  obtain ⟨i, hi, rfl⟩ := List.getElem_of_mem hx
  have := h i hi
  unfold gt at this
  simpa [List.getD, hi] using this
theorem I64T.co {d : Tr} (h : I64T d) (k : Nat) (hk : k < 3) : I64 (co d k) := by
 rcases (by omega : k = 0 ∨ k = 1 ∨ k = 2) with rfl | rfl | rfl
 ·exact h.x
 ·exact h.y
 ·exact h.z
theorem J1j {p : Tr} (h : BT 100000 p) : I64T p := by
 obtain ⟨⟨_, _⟩, ⟨_, _⟩, ⟨_, _⟩⟩ := h
 exact ⟨⟨by omega, by omega⟩, ⟨by omega, by omega⟩, ⟨by omega, by omega⟩⟩
theorem Y1S {p d : Tr} (hp : I64T p) (hd : I64T d) : ∀ k, k ≤ 3 → LI (39 + k) (pS p d k)
 |0, _ => LI.small (m := 0) xE xE
 |k + 1, hk => (Y1S hp hd k xO).add (((hp.co k xO).li.mul (hd.co k xO).li).mono xO)
theorem W1N (l : List Tr) (d : Tr) (a b : Int) (hd : I64T d) (ha : I64 a) (hb' : I64 b) : CtrA Tryz.prog 35 [ts l, zA d a b] (j0r [vb (inZ l d a b), vi (X1X l d a b)]) := by
 have hc := x0Q l
 have hr := K0l d a b
 have hE : X1X l d a b = if v0i l = 0 then zE d a b else v0i l := rfl
 have hI : inZ l d a b = if X1X l d a b = 0 then l.all (y1n d a b) else false := rfl
 generalize inZ l d a b = q at hI ⊢
 generalize X1X l d a b = E at hE hI ⊢
 refine j0n _ Tryz.func35 rfl rfl Tryz.ntmps35 rfl fun w Z => ?_
 by_cases h0 : v0i l = 0
 ·rw [if_pos h0] at hE
  rw [h0] at hc
  have hln := (RT.of h0).2
  have hl := (RT.of h0).1
  rw [← hE] at hr
  by_cases he : E = 0
  ·rw [if_pos he] at hI
   rw [he] at hr ⊢
   have w1 := v0A a ha
   have w2 := v0A b hb'
   have hptr : ∀ i, i < 5 → (fun i => AV.val ([Go.Value.int .i64 d.x, .int .i64 d.y, .int .i64 d.z, .int .i64 a, .int .i64 b].getD i Go.undef)) i = (fun i => if i < 3 then vi (co d i) else if i = 3 then vi a else vi b) i := fun i hi => by
    rcases (by omega : i = 0 ∨ i = 1 ∨ i = 2 ∨ i = 3 ∨ i = 4) with rfl | rfl | rfl | rfl | rfl <;> rfl
   refine xU ?_
   refine wt ?_
   refine j0f (γ := Nat) (fun k => [(3, .av (.ptr 5 (fun i => if i < 3 then vi (co d i) else if i = 3 then vi a else vi b))), (29, .av (ts l)), (30, .av (vi l.length)), (31, .av (vi k))]) (fun _ => []) (fun k => k ≤ l.length ∧ ∀ j, j < k → y1n d a b (gt l j) = true) (fun k => l.length - k) 0 ⟨Nat.zero_le _, fun j hj => absurd hj (Nat.not_lt_zero j)⟩ (Ent.trans (q1v (n := 5) 3 (f' := fun i => if i < 3 then vi (co d i) else if i = 3 then vi a else vi b) rfl hptr) (ent xS trivial)) ?_
   rintro k ⟨hk, hin⟩
   refine wt ?_
   (refine j0a rfl ?_ ?_ <;> intro hb <;> (try simp only [xA, xB, xG, xC, xD, xN] at hb) <;> (try exact xQ))
   ·have hkl : k < l.length := by omega
    have hp := hl k
    have hib : y1n d a b (gt l k) = (decide (a ≤ j0c d (gt l k)) && decide (j0c d (gt l k) ≤ b)) := rfl
    have hall : y1n d a b (gt l k) = false → q = false := fun hf => by
     rw [hI]
     cases hq : l.all (y1n d a b) with
     |false => rfl
     |true => have := z1n.1 hq k hkl; rw [hf] at this; cases this
    have hs := Y1S (J1j hp) hd
    have h3 := j2J (gt l k) d
    have hnew : y1n d a b (gt l k) = true → ∀ j, j < k + 1 → y1n d a b (gt l j) = true := fun hg j hj => by
     by_cases e : j = k
     ·rw [e]; exact hg
     ·exact hin j xO
    have hpI := J1j hp
    refine wt ?_
    repeat' (first
      |(refine j0l (q0c (is := [0, 1, 2]) (xs := [_, _, _]) (vs := [_, _, _]) (us := [_, _, _]) (Z1O _ _ _) rfl rfl rfl (Q1y (gt l k))) rfl ?_; refine wt ?_))
    refine j0f (γ := Nat) (fun i => [(3, .av (.ptr 5 (fun i => if i < 3 then vi (co d i) else if i = 3 then vi a else vi b))), (29, .av (ts l)), (30, .av (vi l.length)), (31, .av (vi k)), (10, .av (vI (pS (gt l k) d i))), (41, .av (.sl 3 1 (cof (gt l k)))), (42, .av (vi 3)), (43, .av (vi i))]) (fun _ => []) (fun i => i ≤ 3) (fun i => 3 - i) 0 (Nat.zero_le _) (Ent.trans x0G (ent ⟨.refl _, .refl _, .refl _, .refl _, by show SLe (.av (vS [48])) (.av (vI 0)); rw [j2b]; exact .refl _, .refl _, .refl _, .refl _, trivial⟩ trivial)) ?_
    intro i hi
    refine wt ?_
    (refine j0a rfl ?_ ?_ <;> intro hb <;> (try simp only [xA, xB, xG, xC, xD, xN] at hb) <;> (try exact xQ))
    ·have hi3 : i < 3 := by omega
     have y1 := v0A (co (gt l k) i) (hpI.co i hi3)
     have y2 := v0A (co d i) (hd.co i hi3)
     have y3 := q1W (co (gt l k) i) (co d i) ((hpI.co i hi3).li.mono xE) ((hd.co i hi3).li.mono xE)
     have y4 := z1N (pS (gt l k) d i) (co (gt l k) i * co d i) ((hs i hi).mono xO) (((hpI.co i hi3).li.mul (hd.co i hi3).li).mono xE)
     rcases (by omega : i = 0 ∨ i = 1 ∨ i = 2) with rfl | rfl | rfl
     ·refine wt ?_
      exact j0b 1 xO xO (ent xS trivial)
     ·refine wt ?_
      exact j0b 2 xO xO (ent xS trivial)
     ·refine wt ?_
      exact j0b 3 xO xO (ent xS trivial)
    ·obtain rfl : i = 3 := by omega
     have hs3 := hs 3 xO
     rw [h3] at hs3 ⊢
     have c1 := z1O (j0c d (gt l k)) a (hs3.mono xE) (ha.li.mono xE)
     have c2 := z1O (j0c d (gt l k)) b (hs3.mono xE) (hb'.li.mono xE)
     have s1 := Z1l (j0c d (gt l k) - a)
     have s2 := Z1k (j0c d (gt l k) - b)
     generalize Na.sgn (j0c d (gt l k) - a) = x1 at c1 s1
     generalize Na.sgn (j0c d (gt l k) - b) = x2 at c2 s2
     by_cases q1 : j0c d (gt l k) < a
     ·rw [decide_eq_true (show j0c d (gt l k) - a < 0 by omega)] at s1
      rw [hall (by rw [hib, decide_eq_false (by omega)]; rfl)]
      refine wt ?_
      rw [s1]
      refine wt ?_
      exact xW
     ·rw [decide_eq_false (show ¬ j0c d (gt l k) - a < 0 by omega)] at s1
      by_cases q2 : b < j0c d (gt l k)
      ·rw [decide_eq_true (show 0 < j0c d (gt l k) - b by omega)] at s2
       rw [hall (by rw [hib, decide_eq_false (show ¬ j0c d (gt l k) ≤ b by omega), Bool.and_false])]
       refine wt ?_
       rw [s1]
       refine wt ?_
       rw [s2]
       refine wt ?_
       exact xW
      ·rw [decide_eq_false (show ¬ 0 < j0c d (gt l k) - b by omega)] at s2
       have hgood : y1n d a b (gt l k) = true := by rw [hib, decide_eq_true (by omega), decide_eq_true (by omega)]; rfl
       refine wt ?_
       rw [s1]
       refine wt ?_
       rw [s2]
       refine wt ?_
       exact j0b (k + 1) ⟨by omega, hnew hgood⟩ xO (ent xS trivial)
   ·obtain rfl : k = l.length := by omega
    rw [z1n.2 hin] at hI
    rw [hI]
    refine wt ?_
    exact xW
  ·rw [if_neg he] at hI
   rw [hI]
   refine xU ?_
   refine wt ?_
   (refine j0a rfl ?_ ?_ <;> intro hb <;> (try simp only [xA, xB, xG, xC, xD, xN] at hb) <;> (try exact xQ))
   refine wt ?_
   exact xW
 ·rw [if_neg h0] at hE
  rw [hE, if_neg h0] at hI
  rw [hE, hI]
  generalize v0i l = e at h0 hc ⊢
  refine xU ?_
  refine wt ?_
  (refine j0a rfl ?_ ?_ <;> intro hb <;> (try simp only [xA, xB, xG, xC, xD, xN] at hb) <;> (try exact xQ))
  refine wt ?_
  exact xW
def L0 : List Tr := [⟨0, 0, 0⟩, ⟨4, 0, 0⟩, ⟨0, 4, 0⟩, ⟨0, 0, 4⟩]
def L1 : List Tr := [⟨0, 0, 0⟩, ⟨1, 0, 0⟩, ⟨5, 0, 0⟩]
def L2 : List Tr := [⟨0, 0, 0⟩, ⟨1, 0, 0⟩, ⟨0, 5, 0⟩]
theorem dd3 : decDigits 3 = [51] := by rw [Lib.decDigits]; rfl
theorem K1N : decDigits 16 = [49, 54] := X0p 2 [49, 54] rfl ⟨by decide, by decide, fun r h => by cases h⟩
theorem z0K : J0R L0 = 0 := by decide +kernel
theorem y1q : lm L0 = ⟨1, 1, 1⟩ := by decide +kernel
theorem k1U : loD L0 ⟨1, 1, 1⟩ = 0 := by decide +kernel
theorem k1T : hiD L0 ⟨1, 1, 1⟩ = 4 := by decide +kernel
theorem k1S : Wq L0 ⟨1, 1, 1⟩ = Rat.divInt 16 3 := by decide +kernel
theorem j2K : rtx (Rat.divInt 16 3) = [49, 54, 47, 51] := by
 unfold rtx
 rw [if_neg (by decide +kernel)]
 have e1 : (Rat.divInt 16 3).num = 16 := by decide +kernel
 have e2 : (Rat.divInt 16 3).den = 3 := by decide +kernel
 rw [e1, e2, Na.itoa_pos (by decide)]
 show Lib.decDigits 16 ++ 47 :: Lib.decDigits 3 = _
 rw [K1N, dd3]; rfl
theorem j2p : CtrA Tryz.prog 18 [ts L0] (j0r [vS [49, 54, 47, 51], zA ⟨1, 1, 1⟩ 0 4, vi 0]) := by
 have h := z0i L0 (.inl xE)
 unfold wtx dW aW bW at h
 rw [if_pos z0K, if_pos z0K, if_pos z0K, if_pos z0K, z0K, y1q, k1U, k1T, k1S, j2K] at h
 exact h
theorem Y1z : loS L0 ⟨1, 1, 1⟩ = [0] := by decide +kernel
theorem V1u : hiS L0 ⟨1, 1, 1⟩ = [1, 2, 3] := by decide +kernel
theorem j2n : CtrA Tryz.prog 20 [ts L0] (j0r [idx [0], idx [1, 2, 3], vi 0]) := by
 have h := Z0t L0 (.inl xE)
 unfold cLo cHi at h
 rw [if_pos z0K, if_pos z0K, z0K, y1q, Y1z, V1u] at h
 exact h
theorem Y1y : Q1Q L0 3 = 0 := by decide +kernel
theorem Y1x : Q1Q L0 2 = 0 := by decide +kernel
theorem j2l : CtrA Tryz.prog 23 [ts L0, vi 3] (j0r [vb true, vi 0]) := by
 have h := Y0m L0 3 (.inl xE)
 have e : inW L0 3 = true := by
  unfold inW
  rw [if_pos Y1y, y1q, k1S]; decide +kernel
 rw [e, Y1y] at h
 exact h
theorem j2k : CtrA Tryz.prog 23 [ts L0, vi 2] (j0r [vb false, vi 0]) := by
 have h := Y0m L0 2 (.inl xE)
 have e : inW L0 2 = false := by
  unfold inW
  rw [if_pos Y1x, y1q, k1S]; decide +kernel
 rw [e, Y1x] at h
 exact h
theorem j2m : CtrA Tryz.prog 33 [ts L0, tp ⟨0, 0, 1⟩] (j0r [zA ⟨0, 0, 1⟩ 0 4, vi 0]) := by
 have h := x1f L0 ⟨0, 0, 1⟩
 have e : z1E L0 ⟨0, 0, 1⟩ = 0 := by decide +kernel
 rw [x1e e, e, show loD L0 ⟨0, 0, 1⟩ = 0 by decide +kernel, show hiD L0 ⟨0, 0, 1⟩ = 4 by decide +kernel] at h
 exact h
theorem j2o : CtrA Tryz.prog 14 [zA ⟨0, 0, 1⟩ 0 4] (j0r [vS [49, 54], vi 0]) := by
 have h := k0X ⟨0, 0, 1⟩ 0 4 ⟨by decide, by decide, by decide⟩ xE xE
 have e : zE ⟨0, 0, 1⟩ 0 4 = 0 := by decide +kernel
 unfold zT at h
 rw [if_pos e, e, show zQ ⟨0, 0, 1⟩ 0 4 = ((16 : Int) : Rat) by decide +kernel, Q0y, Na.itoa_pos (by decide)] at h
 rw [show (16 : Int).natAbs = 16 from rfl, K1N] at h
 exact h
theorem j2j : CtrA Tryz.prog 18 [ts L1] (j0r [vS [], zA tz 0 0, vi 14]) := by
 have h := z0i L1 (.inl xE)
 have e : J0R L1 = 14 := by decide +kernel
 unfold wtx dW aW bW at h
 rw [e, if_neg (by decide), if_neg (by decide), if_neg (by decide), if_neg (by decide)] at h
 exact h
theorem j2i : CtrA Tryz.prog 18 [ts L2] (j0r [vS [48], zA ⟨0, 0, 1⟩ 0 0, vi 0]) := by
 have h := z0i L2 (.inl xE)
 have e : J0R L2 = 0 := by decide +kernel
 have e1 : lm L2 = ⟨0, 0, 1⟩ := by decide +kernel
 unfold wtx dW aW bW at h
 rw [if_pos e, if_pos e, if_pos e, if_pos e, e, e1, show loD L2 ⟨0, 0, 1⟩ = 0 by decide +kernel, show hiD L2 ⟨0, 0, 1⟩ = 0 by decide +kernel, show Wq L2 ⟨0, 0, 1⟩ = 0 by decide +kernel, rtx_0] at h
 exact h
theorem X1W (V : List Nat) (h : V.length ≤ 1000000) : CtrA Tryz.prog 22 [idx V, idx V] (vb true) := by
 have q := Q1O (fun i => ((gi V i : Nat) : Int)) (fun i => ((gi V i : Nat) : Int)) V.length V.length h
 rw [show eqB (fun i => ((gi V i : Nat) : Int)) V.length (fun i => ((gi V i : Nat) : Int)) V.length = true by unfold eqB; simp] at q
 exact q
theorem J1A (a : Int) : Tryz.prog.built 53 [(0, .int .i64 a)] = some #[.int .i64 a, .int .i64 0, .int .i64 0] := by kernel_rfl
theorem J1B (a : Int) : Tryz.prog.built 53 [(1, .int .i64 a)] = some #[.int .i64 0, .int .i64 a, .int .i64 0] := by kernel_rfl
theorem Z1F (a : Int) : Tryz.prog.built 53 [(2, .int .i64 a)] = some #[.int .i64 0, .int .i64 0, .int .i64 a] := by kernel_rfl
theorem K1p (x y z b : Int) : Tryz.prog.built 24 [(0, .agg #[.int .i64 x, .int .i64 y, .int .i64 z]), (2, .int .i64 b)] = some #[.int .i64 x, .int .i64 y, .int .i64 z, .int .i64 0, .int .i64 b] := by kernel_rfl
theorem Z1N (a b c d e f g h i j k l : Int) (w : World) : (Instr.buildSlice 34 4 #[(0, .agg #[.int .i64 a, .int .i64 b, .int .i64 c]), (1, .agg #[.int .i64 d, .int .i64 e, .int .i64 f]), (2, .agg #[.int .i64 g, .int .i64 h, .int .i64 i]), (3, .agg #[.int .i64 j, .int .i64 k, .int .i64 l])]).run Tryz.prog w = .ok (.slice (some ⟨w.heap.size, 0, none⟩) 4 4) (w.alloc (.cells #[.int .i64 a, .int .i64 b, .int .i64 c, .int .i64 d, .int .i64 e, .int .i64 f, .int .i64 g, .int .i64 h, .int .i64 i, .int .i64 j, .int .i64 k, .int .i64 l] 53)) := by kernel_rfl
theorem J1K (a b c d e f g h i : Int) (w : World) : (Instr.buildSlice 34 3 #[(0, .agg #[.int .i64 a, .int .i64 b, .int .i64 c]), (1, .agg #[.int .i64 d, .int .i64 e, .int .i64 f]), (2, .agg #[.int .i64 g, .int .i64 h, .int .i64 i])]).run Tryz.prog w = .ok (.slice (some ⟨w.heap.size, 0, none⟩) 3 3) (w.alloc (.cells #[.int .i64 a, .int .i64 b, .int .i64 c, .int .i64 d, .int .i64 e, .int .i64 f, .int .i64 g, .int .i64 h, .int .i64 i] 53)) := by kernel_rfl
def cells (l : List Tr) : List Value := l.flatMap fun p => [.int .i64 p.x, .int .i64 p.y, .int .i64 p.z]
theorem tf4 (p q r s : Tr) : ∀ i, i < 4 → ∀ j, j < 3 → ∃ u, (cells [p, q, r, s])[i * 3 + j]? = some u ∧ tf [p, q, r, s] i j = .val u := by
 intro i hi j hj
 rcases (by omega : i = 0 ∨ i = 1 ∨ i = 2 ∨ i = 3) with rfl | rfl | rfl | rfl <;> rcases (by omega : j = 0 ∨ j = 1 ∨ j = 2) with rfl | rfl | rfl <;> exact ⟨_, rfl, rfl⟩
theorem tf3 (p q r : Tr) : ∀ i, i < 3 → ∀ j, j < 3 → ∃ u, (cells [p, q, r])[i * 3 + j]? = some u ∧ tf [p, q, r] i j = .val u := by
 intro i hi j hj
 rcases (by omega : i = 0 ∨ i = 1 ∨ i = 2) with rfl | rfl | rfl <;> rcases (by omega : j = 0 ∨ j = 1 ∨ j = 2) with rfl | rfl | rfl <;> exact ⟨_, rfl, rfl⟩
theorem W1B (w : World) : (Instr.buildSlice 40 3 #[(0, .int .i64 1), (1, .int .i64 2), (2, .int .i64 3)]).run Tryz.prog w = .ok (.slice (some ⟨w.heap.size, 0, none⟩) 3 3) (w.alloc (.cells #[.int .i64 1, .int .i64 2, .int .i64 3] 3)) := by kernel_rfl
theorem xf3 : ∀ i, i < 3 → ∀ j, j < 1 → ∃ u, [Value.int .i64 1, .int .i64 2, .int .i64 3][i * 1 + j]? = some u ∧ xf [1, 2, 3] i j = .val u := by
 intro i hi j hj
 obtain rfl : j = 0 := by omega
 rcases (by omega : i = 0 ∨ i = 1 ∨ i = 2) with rfl | rfl | rfl <;> exact ⟨_, rfl, rfl⟩
theorem k1C : CtrA Tryz.prog 16 [] (vb true) := by
 have a1 := j2p; have a2 := j2n; have a3 := j2l; have a4 := j2k; have a5 := j2m; have a6 := j2o; have a7 := j2j; have a8 := j2i
 have a9 := X1W [0] xE
 have a10 := X1W [1, 2, 3] xE
 refine j0n _ Tryz.func16 rfl rfl Tryz.ntmps16 rfl fun w Z => ?_
 refine xU ?_
 have q1 : (([49, 54, 47, 51] : List UInt8) == [49, 54, 47, 51]) = true := by decide
 have q2 : (([49, 54] : List UInt8) == [49, 54]) = true := by decide
 have q3 : (([48] : List UInt8) == [48]) = true := by decide
 refine wt ?_
 repeat' (first
   |(refine z0Y (Q0Q (xs := [_, _, _, _, _]) (ys := [_, _, _, _, _]) rfl rfl rfl rfl) rfl rfl rfl ?_; refine wt ?_)
   |(refine z0Y (j0k (t := 22) (is := [0, 1, 2]) (xs := [_, _, _]) (vs := [_, _, _]) (K1o _ _ _) rfl rfl) rfl rfl rfl ?_; refine wt ?_)
   |(refine z0Y (j0w (us := [.int _ _, .int _ _, .int _ _, .int _ _, .int _ _]) rfl rfl rfl rfl) rfl rfl rfl ?_; refine wt ?_)
   |(refine j0l (j0k (t := 53) (is := [0]) (xs := [_]) (vs := [_]) (J1A _) rfl rfl) rfl ?_; refine wt ?_)
   |(refine j0l (j0k (t := 53) (is := [1]) (xs := [_]) (vs := [_]) (J1B _) rfl rfl) rfl ?_; refine wt ?_)
   |(refine j0l (j0k (t := 53) (is := [2]) (xs := [_]) (vs := [_]) (Z1F _) rfl rfl) rfl ?_; refine wt ?_)
   |(refine z0Y (j0k (t := 24) (is := [0, 2]) (xs := [_, _]) (vs := [.agg #[.int .i64 _, .int .i64 _, .int .i64 _], .int .i64 _]) (K1p _ _ _ _) rfl rfl) rfl rfl rfl ?_; refine wt ?_)
   |(refine j0l (q0c (is := [0, 1, 2, 3]) (xs := [_, _, _, _]) (vs := [_, _, _, _]) (us := cells L0) (row := tf L0) (Z1N 0 0 0 4 0 0 0 4 0 0 0 4) rfl rfl rfl (tf4 _ _ _ _)) rfl ?_; refine wt ?_))
 rw [q1]
 refine wt ?_
 try rw [q2]
 refine wt ?_
 refine j0l (q0c (is := [0, 1, 2]) (xs := [_, _, _]) (vs := [_, _, _]) (us := cells L1) (row := tf L1) (J1K 0 0 0 1 0 0 5 0 0) rfl rfl rfl (tf3 _ _ _)) rfl ?_
 refine wt ?_
 repeat' (first
   |(refine j0l (j0k (t := 53) (is := [0]) (xs := [_]) (vs := [_]) (J1A _) rfl rfl) rfl ?_; refine wt ?_)
   |(refine j0l (j0k (t := 53) (is := [1]) (xs := [_]) (vs := [_]) (J1B _) rfl rfl) rfl ?_; refine wt ?_))
 refine j0l (q0c (is := [0, 1, 2]) (xs := [_, _, _]) (vs := [_, _, _]) (us := cells L2) (row := tf L2) (J1K 0 0 0 1 0 0 0 5 0) rfl rfl rfl (tf3 _ _ _)) rfl ?_
 refine wt ?_
 refine z0Y (q0c (is := [0, 1, 2]) (xs := [_, _, _]) (vs := [_, _, _]) (us := [.int .i64 1, .int .i64 2, .int .i64 3]) (row := xf [1, 2, 3]) W1B rfl rfl rfl xf3) rfl rfl rfl ?_
 refine wt ?_
 exact xV
end Go.Proofs.YtgblokifbgeegaaGreatDoor.H.S
