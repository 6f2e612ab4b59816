/- A part of the proof. -/
import Derived.Test.YtgblokifbgeegaaGreatDoorDaw
set_option linter.unusedVariables false
set_option linter.unusedSimpArgs false
namespace Go.Proofs.YtgblokifbgeegaaGreatDoor.H.S
open Go Go.Vc Go.RowKit Go.Na Go.Lib
set_option maxHeartbeats 8000000
theorem vRI (n : Int) : vR ((n : Int) : Rat) = vI n := by rw [vR, Q0A]
theorem j2k (n p m q : Int) (hn : LI 400 n) (hp : LI 400 p) (hm : LI 400 m) (hq : LI 400 q) : CtrH Tryz.prog 89 [.own 1000 0, .av (vI n), .av (vI p), .av (vI m), .av (vI q)] [(1000, E0)] (.av (j0u [vI (n * q), vI (p * m)])) [(1000, E0)] := by
 have b := fun (x y : Int) (hx : LI 400 x) (hy : LI 400 y) => (by have h := LI.mul hx hy; exact h : LI 800 (x * y))
 have M := fun (x : Int) (h : LI 400 x) => (h.mono xE : LI 1000 x)
 have c1 := z0Y n q (M _ hn) (M _ hq) ((b _ _ hn hq).mono xE)
 have c3 := z0Y p m (M _ hp) (M _ hm) ((b _ _ hp hm).mono xE)
 refine z0m _ Tryz.func89 rfl rfl Tryz.ntmps89 rfl rfl fun w Z ν => ?_
 refine xU ?_
 refine wl ?_
 refine j0l (v0K rfl rfl) rfl ?_
 refine wl ?_
 refine j0t (j0h [] c1 rfl ⟨rfl, trivial⟩ rfl) rfl ?_
 refine wl ?_
 refine j0l (v0K rfl rfl) rfl ?_
 refine wl ?_
 refine j0t (j0h [] c3 rfl ⟨rfl, trivial⟩ rfl) rfl ?_
 refine wl ?_
 exact j0T (T' := [(10, .av (vI (n * q))), (11, .av (vI (p * m)))]) (O' := [(1000, E0)]) (ent xS xT) (J0A (rvs := [_, _]) (τs := [_, _]) rfl rfl rfl ⟨.tmp rfl, .tmp rfl, trivial⟩ rfl)
theorem Z1l {r : Rat} (h : r ≠ 0) : r.num ≠ 0 := fun e => h (Rat.num_eq_zero.1 e)
theorem W1k (q r : Rat) (hq : LR 400 q) (hr : LR 400 r) (h0 : r ≠ 0) : CtrA Tryz.prog 51 [vR q, vR r] (j0u [vR (q / r), vi 0]) := by
 have hdn : (q.den : Int) * r.num ≠ 0 := Int.mul_ne_zero (by have := q.den_pos; omega) (Z1l h0)
 have h := k0P 89 q r (q.num * r.den) (q.den * r.num) (hq.mono xE) (hr.mono xE) (li4 hq.1 hr.2) (li4 hq.2 hr.1) hdn (j2k q.num q.den r.num r.den hq.1 hq.2 hr.1 hr.2)
 rw [← div_eq] at h
 have h1 := J0J q r (hq.mono xE) (hr.mono xE)
 have hz : (rtx r == [48]) = false := by rw [beq_eq_false_iff_ne]; exact fun e => h0 (W1p (e.trans rtx_0.symm))
 refine j0o _ Tryz.func51 rfl rfl Tryz.ntmps51 rfl fun w Z => ?_
 refine xU ?_
 refine wl ?_
 refine j0l (v1l rfl rfl) rfl ?_
 refine wl ?_
 rw [hz]
 refine wl ?_
 exact xW
abbrev I64 (n : Int) : Prop := -9223372036854775808 ≤ n ∧ n ≤ 9223372036854775807
structure I64T (d : Tr) : Prop where
 x : I64 d.x
 y : I64 d.y
 z : I64 d.z
theorem I64.li {n : Int} (h : I64 n) : LI 19 n := (show n.natAbs < 10 ^ 19 by omega)
theorem LR.ofI {k : Nat} {n : Int} (h : LI k n) (hk : 0 < k) : LR k ((n : Int) : Rat) := LR.int h hk
theorem J1f (m n : Int) (hm : LI 300 m) (hn : LI 300 n) : CtrA Tryz.prog 49 [vI m, vI n] (j0u [vI (m * n), vi 0]) := by
 have h := w1u (m : Rat) (n : Rat) (LR.ofI (hm.mono xE) xE) (LR.ofI (hn.mono xE) xE)
 rw [← Rat.intCast_mul, vRI, vRI, vRI] at h
 exact h
theorem Y1O (m n : Int) (hm : LI 300 m) (hn : LI 300 n) : CtrA Tryz.prog 71 [vI m, vI n] (j0u [vI (m + n), vi 0]) := by
 have h := W1j (m : Rat) (n : Rat) (LR.ofI (hm.mono xE) xE) (LR.ofI (hn.mono xE) xE)
 rw [← Rat.intCast_add, vRI, vRI, vRI] at h
 exact h
theorem Y1S (m n : Int) (hm : LI 300 m) (hn : LI 300 n) : CtrA Tryz.prog 47 [vI m, vI n] (j0u [vI (m - n), vi 0]) := by
 have h := W1m (m : Rat) (n : Rat) (LR.ofI (hm.mono xE) xE) (LR.ofI (hn.mono xE) xE)
 rw [← Rat.intCast_sub, vRI, vRI, vRI] at h
 exact h
theorem y1A {T : Tab} {O : Go.Vc.Own} {n m : Nat} {f f' : Nat → AV} (k : Nat) (hT : T.get k = .av (.ptr n f)) (hm : m ≤ n) (hf : ∀ i, i < m → f i = f' i) : Ent T O ((k, .av (.ptr m f')) :: T) O := by
 rintro E a w ⟨Z, ν, h⟩
 refine ⟨Z, ν, h.defers, h.tsize, h.cst, h.pin, h.base, h.own, fun q => ?_⟩
 by_cases hq : k = q
 ·subst hq
  rw [Tab.get_cons_eq]
  have hs := h.slot k
  rw [hT] at hs
  obtain ⟨b, o, e1, e2, e3, e4⟩ := hs
  exact ⟨b, o, e1, fun h0 => e2 (by omega), e3, fun i hi => by rw [← hf i hi]; exact e4 i (by omega)⟩
 ·rw [Tab.get_cons_ne _ _ hq]
  exact h.slot q
abbrev zA (d : Tr) (a b : Int) : AV := .val (.agg #[.int .i64 d.x, .int .i64 d.y, .int .i64 d.z, .int .i64 a, .int .i64 b])
theorem x1I (p d : Tr) {A B : Int} (h1 : BT A p) (h2 : BT B d) (hab : A * B ≤ 1000000000000000000) : CtrA Tryz.prog 58 [tp p, tp d] (vi (j0b d p)) := by
 rw [q0h]
 refine j0o _ Tryz.func58 rfl rfl Tryz.ntmps58 rfl fun w Z => ?_
 obtain ⟨m1, n1⟩ := j0U h1.x h2.x
 obtain ⟨m2, n2⟩ := j0U h1.y h2.y
 obtain ⟨m3, n3⟩ := j0U h1.z h2.z
 refine xU ?_
 refine wt ?_
 exact xV
theorem k1E (l : List Tr) (d : Tr) {B : Int} (hl : RT l) (h0 : 0 < l.length) (hln : l.length ≤ 1000) (hd : BT B d) (hB : 100000 * B ≤ 1000000000000000000) : CtrA Tryz.prog 69 [ts l, tp d] (zA d (loD l d) (hiD l d)) := by
 refine j0o _ Tryz.func69 rfl rfl Tryz.ntmps69 rfl fun w Z => ?_
 refine xU ?_
 have hq1 := x1I (gt l 0) d (hl 0) hd hB
 refine wt ?_
 refine j0f (γ := Nat) (fun k => [(3, .av (bt d)), (4, .own 10 0), (5, .own 11 0), (20, .av (ts l)), (21, .av (vi l.length)), (22, .av (vi k))]) (fun k => [(10, .cells [.av (vi 0), .av (vi 0), .av (vi 0), .av (vi 0), .av (vi 0)]), (11, .cells [.av (vi d.x), .av (vi d.y), .av (vi d.z), .av (vi (loZ l d k)), .av (vi (hiZ l d k))])]) (fun k => k ≤ l.length) (fun k => l.length - k) 0 (Nat.zero_le _) (ent xS xT) ?_
 intro k hk
 refine wt ?_
 (refine j0a rfl ?_ ?_ <;> intro hb <;> (try simp only [xA, xB, xG, xC, xD, xN] at hb) <;> (try exact xQ))
 ·have hkl : k < l.length := by omega
  have hq2 := x1I (gt l k) d (hl k) hd hB
  refine wt ?_
  exact j0c (k + 1) xO xO (ent xS xT)
 ·have hkl : k = l.length := by omega
  subst hkl
  refine wt ?_
  exact j0e rfl (.agg (us := [_, _, _, _, _]) rfl rfl rfl rfl) rfl
def zE (d : Tr) (a b : Int) : Int := if d = tz then 10 else if b < a then 9 else 0
theorem z1F (d : Tr) (a b : Int) : CtrA Tryz.prog 46 [zA d a b] (vi (zE d a b)) := by
 refine j0o _ Tryz.func46 rfl rfl Tryz.ntmps46 rfl fun w Z => ?_
 unfold zE
 refine xU ?_
 refine wt ?_
 rw [z1s]
 by_cases hz : d = tz
 ·rw [if_pos hz, decide_eq_true hz]
  refine wt ?_
  exact xV
 ·rw [if_neg hz, decide_eq_false hz]
  refine wt ?_
  (refine j0a rfl ?_ ?_ <;> intro hb <;> (try simp only [xA, xB, xG, xC, xD, xN] at hb) <;> (try exact xQ))
  ·rw [if_pos (by omega)]
   refine wt ?_
   exact xV
  ·rw [if_neg (by omega)]
   refine wt ?_
   exact xV
def W1F (f : Nat → Int) : Nat → Int
 |0 => 0
 |k + 1 => W1F f k + f k * f k
theorem Z0y {f : Nat → Int} (h : ∀ i, i < 3 → LI 19 (f i)) : ∀ k, k ≤ 3 → LI (39 + k) (W1F f k)
 |0, _ => LI.small (m := 0) xE xE
 |k + 1, hk => ((Z0y h k xO)).add (((h k xO).mul (h k xO)).mono xO)
theorem j2E : vI 0 = vS [48] := congrArg vS itoa_zero
theorem W1V (f : Nat → Int) (h : ∀ i, i < 3 → I64 (f i)) : CtrA Tryz.prog 50 [.sl 3 1 (fun i _ => vi (f i))] (j0u [vI (W1F f 3), vi 0]) := by
 have hs := Z0y (f := f) (fun i hi => (h i hi).li)
 refine j0o _ Tryz.func50 rfl rfl Tryz.ntmps50 rfl fun w Z => ?_
 refine xU ?_
 refine wt ?_
 refine j0f (γ := Nat) (fun k => [(4, .av (vI (W1F f k))), (9, .av (.sl 3 1 (fun i _ => vi (f i)))), (10, .av (vi 3)), (11, .av (vi k))]) (fun k => []) (fun k => k ≤ 3) (fun k => 3 - k) 0 (Nat.zero_le _) (ent ⟨by show SLe (.av (vS [48])) (.av (vI 0)); rw [j2E]; exact .refl _, .refl _, .refl _, .refl _, trivial⟩ trivial) ?_
 intro k hk
 refine wt ?_
 (refine j0a rfl ?_ ?_ <;> intro hb <;> (try simp only [xA, xB, xG, xC, xD, xN] at hb) <;> (try exact xQ))
 ·have hkl : k < 3 := by omega
  have hf := (h k hkl).li
  have h1 := w0O (f k) (h k hkl)
  have h2 := J1f (f k) (f k) (hf.mono xE) (hf.mono xE)
  have h3 := Y1O (W1F f k) (f k * f k) ((hs k hk).mono xO) ((hf.mul hf).mono xE)
  refine wt ?_
  exact j0c (k + 1) xO xO (ent xS trivial)
 ·obtain rfl : k = 3 := by omega
  refine wt ?_
  exact xW
def trF (d : Tr) (i : Nat) : Int := if i = 0 then d.x else if i = 1 then d.y else d.z
theorem w1Z (d : Tr) : W1F (trF d) 3 = j0b d d := by simp [W1F, trF, j0b]
def zQ (d : Tr) (a b : Int) : Rat := (((b - a) * (b - a) : Int) : Rat) / ((j0b d d : Int) : Rat)
def zT (d : Tr) (a b : Int) : List UInt8 := if zE d a b = 0 then rtx (zQ d a b) else []
theorem x1k {d : Tr} (h : I64T d) : LI 42 (j0b d d) := by
 have hs := Z0y (f := trF d) (fun i hi => by
  unfold trF
  split
  ·exact h.x.li
  ·split
   ·exact h.y.li
   ·exact h.z.li) 3 (Nat.le_refl _)
 rw [w1Z] at hs
 exact hs
theorem nnQ {d : Tr} (h : d ≠ tz) : ((j0b d d : Int) : Rat) ≠ 0 := fun e => by
 have := q0w h
 have : j0b d d = 0 := Rat.intCast_inj.1 (by rw [e]; rfl)
 omega
theorem z1k (d : Tr) (a b : Int) (hd : I64T d) (ha : I64 a) (hb' : I64 b) : CtrA Tryz.prog 14 [zA d a b] (j0u [vS (zT d a b), vi (zE d a b)]) := by
 refine j0o _ Tryz.func14 rfl rfl Tryz.ntmps14 rfl fun w Z => ?_
 have h0 := z1F d a b
 have hT : zT d a b = if zE d a b = 0 then rtx (zQ d a b) else [] := rfl
 have hE : zE d a b = if d = tz then 10 else if b < a then 9 else 0 := rfl
 generalize zT d a b = t at hT ⊢
 generalize zE d a b = e at h0 hT hE ⊢
 refine xU ?_
 refine wt ?_
 (refine j0a rfl ?_ ?_ <;> intro hb <;> (try simp only [xA, xB, xG, xC, xD, xN] at hb) <;> (try exact xQ))
 ·rw [if_neg hb] at hT
  subst hT
  refine wt ?_
  exact xW
 ·rw [if_pos hb] at hT
  subst hT
  have hz : d ≠ tz := fun h => by rw [if_pos h] at hE; omega
  subst hb
  have l1 : LI 20 (b - a) := hb'.li.sub ha.li
  have h1 := w0O b hb'
  have h2 := w0O a ha
  have h3 := Y1S b a (hb'.li.mono xE) (ha.li.mono xE)
  have h4 := J1f (b - a) (b - a) (l1.mono xE) (l1.mono xE)
  have h5 := W1V (trF d) (fun i hi => by
   unfold trF
   split
   ·exact hd.x
   ·split
    ·exact hd.y
    ·exact hd.z)
  rw [w1Z] at h5
  have h6 := W1k (((b - a) * (b - a) : Int) : Rat) ((j0b d d : Int) : Rat) (LR.ofI ((l1.mul l1).mono xE) xE) (LR.ofI ((x1k hd).mono xE) xE) (nnQ hz)
  rw [vRI, vRI] at h6
  have hptr : ∀ i, i < 3 → (fun j => AV.val ([Go.Value.int .i64 d.x, .int .i64 d.y, .int .i64 d.z, .int .i64 a, .int .i64 b].getD (0 + j) Go.undef)) i = (fun i => vi (trF d i)) i := fun i hi => by
   rcases (by omega : i = 0 ∨ i = 1 ∨ i = 2) with rfl | rfl | rfl <;> rfl
  refine wt ?_
  refine v0G (y1A (m := 3) 37 rfl (show 3 ≤ 5 by decide) hptr) ?_
  refine j0l (v0Y (n := 3) rfl xE xE) rfl ?_
  refine wt ?_
  exact xW
end Go.Proofs.YtgblokifbgeegaaGreatDoor.H.S
