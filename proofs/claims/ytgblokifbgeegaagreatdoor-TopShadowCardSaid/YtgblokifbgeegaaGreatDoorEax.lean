/- A part of the proof. -/
import Derived.Test.YtgblokifbgeegaaGreatDoorEaw
set_option linter.unusedVariables false
set_option linter.unusedSimpArgs false
namespace Go.Proofs.YtgblokifbgeegaaGreatDoor.H.S
open Go Go.Vc
theorem K1U (o v : Int) : o ≤ mx o v := by unfold mx; split <;> omega
theorem W1E (l : List Tr) (a b : Nat) (o : Int) : ∀ c, o ≤ rC l a b o c
 |0 => Int.le_refl _
 |c + 1 => by have := W1E l a b o c; unfold rC mx; split <;> (try split) <;> omega
theorem k1a (l : List Tr) (a : Nat) (o : Int) : ∀ b, o ≤ rB l a o b
 |0 => Int.le_refl _
 |b + 1 => by
  have h1 := k1a l a o b
  have h2 := W1E l a b (mx (rB l a o b) 1) b
  unfold rB
  split
  ·exact h1
  ·have := K1U (rB l a o b) 1; omega
theorem K1X (l : List Tr) : ∀ a, rA l a ≤ rA l (a + 1) := fun a => by
 have h := k1a l a (mx (rA l a) 0) a
 show rA l a ≤ rB l a (mx (rA l a) 0) a
 have := K1U (rA l a) 0; omega
theorem W1B (l : List Tr) {a b : Nat} (h : a ≤ b) : rA l a ≤ rA l b := by
 induction b with
 |zero => rw [Nat.le_zero.1 h]; exact Int.le_refl _
 |succ b ih =>
  by_cases e : a = b + 1
  ·rw [e]; exact Int.le_refl _
  ·have h1 := ih xO
   have h2 := K1X l b
   omega
theorem W1D (l : List Tr) (a : Nat) (o : Int) {b c : Nat} (h : b ≤ c) : rB l a o b ≤ rB l a o c := by
 induction c with
 |zero => rw [Nat.le_zero.1 h]; exact Int.le_refl _
 |succ c ih =>
  by_cases e : b = c + 1
  ·rw [e]; exact Int.le_refl _
  ·have h1 := ih xO
   have h2 : rB l a o c ≤ rB l a o (c + 1) := by
    have h3 := W1E l a c (mx (rB l a o c) 1) c
    show rB l a o c ≤ (if gt l a = gt l c then rB l a o c else rC l a c (mx (rB l a o c) 1) c)
    split
    ·exact Int.le_refl _
    ·have := K1U (rB l a o c) 1; omega
   omega
theorem q2v {l : List Tr} {a b c n : Nat} {o : Int} (hc : c < n) (hne : tac (gt l a) (gt l b) (gt l c) ≠ tz) : 2 ≤ rC l a b o n := by
 have up : ∀ m, c + 1 ≤ m → rC l a b o (c + 1) ≤ rC l a b o m := by
  intro m
  induction m with
  |zero => intro h; omega
  |succ m ih =>
   intro h
   by_cases e : c + 1 = m + 1
   ·rw [e]; exact Int.le_refl _
   ·have h1 := ih xO
    have h2 : rC l a b o m ≤ rC l a b o (m + 1) := by
     show rC l a b o m ≤ (if tac (gt l a) (gt l b) (gt l m) = tz then rC l a b o m else mx (rC l a b o m) 2)
     split
     ·exact Int.le_refl _
     ·unfold mx; split <;> omega
    omega
 have h1 := up n xO
 have h2 : rC l a b o (c + 1) = mx (rC l a b o c) 2 := by
  show (if tac (gt l a) (gt l b) (gt l c) = tz then rC l a b o c else mx (rC l a b o c) 2) = _
  rw [if_neg hne]
 unfold mx at h2; split at h2 <;> omega
theorem x1t (a c : Tr) : tac a a c = tz := by simp only [tac, j0E, tcr, tz, Tr.mk.injEq]; refine ⟨?_, ?_, ?_⟩ <;> grind
theorem q2u {l : List Tr} (h : z0p l) : rA l l.length = 2 := by
 obtain ⟨a, b, c, ha, hb, hc, hn⟩ := h
 obtain ⟨i, j, k, hi, hj, hk, hn⟩ := Z0p (P := fun a b c => tac (gt l a) (gt l b) (gt l c) ≠ tz) (fun a b c h => by rw [j2j]; exact q0A h) (fun a b c h => by rw [x1s]; exact q0A h) (fun a b h => h (x1t _ _)) ha hb hc hn
 have hne : gt l i ≠ gt l j := fun e => hn (by rw [e]; exact x1t _ _)
 have h1 := W1B l (show i + 1 ≤ l.length by omega)
 have h2 : rA l (i + 1) = rB l i (mx (rA l i) 0) i := rfl
 have h3 := W1D l i (mx (rA l i) 0) (show j + 1 ≤ i by omega)
 have h4 : rB l i (mx (rA l i) 0) (j + 1) = rC l i j (mx (rB l i (mx (rA l i) 0) j) 1) j := by
  show (if gt l i = gt l j then _ else rC l i j _ j) = _
  rw [if_neg hne]
 have h5 := q2v (l := l) (o := mx (rB l i (mx (rA l i) 0) j) 1) hk hn
 have h6 := W1A l l.length
 omega
theorem W1C {l : List Tr} (h : rA l l.length = 2) : z0p l := by
 refine Classical.byContradiction fun hno => ?_
 have hall : ∀ a b c, a < l.length → b < l.length → c < l.length → tac (gt l a) (gt l b) (gt l c) = tz := fun a b c ha hb hc => Classical.byContradiction fun h => hno ⟨a, b, c, ha, hb, hc, h⟩
 have hC : ∀ a b, a < l.length → b < l.length → ∀ (o : Int), ∀ c, c ≤ l.length → rC l a b o c = o := fun a b ha hb o c => by
  induction c with
  |zero => intro _; rfl
  |succ c ih =>
   intro hc
   show (if tac (gt l a) (gt l b) (gt l c) = tz then rC l a b o c else mx (rC l a b o c) 2) = o
   rw [if_pos (hall a b c ha hb (by omega)), ih (by omega)]
 have hB : ∀ a, a < l.length → ∀ (o : Int), o ≤ 1 → ∀ b, b ≤ l.length → rB l a o b ≤ 1 := fun a ha o ho b => by
  induction b with
  |zero => intro _; exact ho
  |succ b ih =>
   intro hb
   have := ih xO
   show (if gt l a = gt l b then rB l a o b else rC l a b (mx (rB l a o b) 1) b) ≤ 1
   split
   ·exact this
   ·rw [hC a b ha (by omega) _ b (by omega)]
    unfold mx; split <;> omega
 have hA : ∀ a, a ≤ l.length → rA l a ≤ 1 := fun a => by
  induction a with
  |zero => intro _; show (-1 : Int) ≤ 1; omega
  |succ a ih =>
   intro ha
   have := ih xO
   exact hB a xO _ (by unfold mx; split <;> omega) a xO
 have := hA l.length (Nat.le_refl _)
 omega
theorem K0T {A B x y : Int} (hx : 0 < x) (hy : 0 < y) : (A : Rat) / (x : Rat) < (B : Rat) / (y : Rat) ↔ A * y < B * x := by
 have px : (0 : Rat) < (x : Rat) := by exact_mod_cast hx
 have py : (0 : Rat) < (y : Rat) := by exact_mod_cast hy
 rw [Rat.div_lt_iff px]
 have e : (B : Rat) / (y : Rat) * (x : Rat) = ((B * x : Int) : Rat) / (y : Rat) := by
  rw [Rat.intCast_mul, Rat.div_def, Rat.div_def]; grind
 rw [e, Rat.lt_div_iff py, ← Rat.intCast_mul]
 exact Rat.intCast_lt_intCast
def Wq (l : List Tr) (d : Tr) : Rat := ((wdt l d * wdt l d : Int) : Rat) / ((j0b d d : Int) : Rat)
theorem Y1d {l m : List Tr} {d e : Tr} (hd : d ≠ tz) (he : e ≠ tz) : Wq l d < Wq m e ↔ wdt l d * wdt l d * j0b e e < wdt m e * wdt m e * j0b d d := K0T (q0j hd) (q0j he)
theorem j1W {l m : List Tr} {d e : Tr} (hd : d ≠ tz) (he : e ≠ tz) : Wq l d ≤ Wq m e ↔ wdt l d * wdt l d * j0b e e ≤ wdt m e * wdt m e * j0b d d := by
 have := Y1d (l := m) (m := l) he hd
 constructor
 ·intro h
  rcases (by omega : wdt l d * wdt l d * j0b e e ≤ wdt m e * wdt m e * j0b d d ∨ wdt m e * wdt m e * j0b d d < wdt l d * wdt l d * j0b e e) with q | q
  ·exact q
  ·have := this.2 q; grind
 ·intro h
  have h2 : ¬ Wq m e < Wq l d := fun q => by have := this.1 q; omega
  grind
theorem Y1c {l m : List Tr} {d e : Tr} (hd : d ≠ tz) (he : e ≠ tz) : Wq l d = Wq m e ↔ wdt l d * wdt l d * j0b e e = wdt m e * wdt m e * j0b d d := by
 have a := j1W (l := l) (m := m) hd he
 have b := j1W (l := m) (m := l) he hd
 constructor
 ·intro h
  have h1 := a.1 (by rw [h]; grind)
  have h2 := b.1 (by rw [h]; grind)
  omega
 ·intro h
  have h1 := a.2 xO
  have h2 := b.2 xO
  grind
theorem Y1n {l : List Tr} {d e : Tr} (hd : d ≠ tz) (he : e ≠ tz) : bef l d e ↔ Wq l d < Wq l e ∨ (Wq l d = Wq l e ∧ y0u d e) := by
 rw [Y1d hd he, Y1c hd he]
 unfold bef wLT wLE
 constructor
 ·rintro (h | ⟨h1, h2, h3⟩)
  ·exact .inl h
  ·exact .inr ⟨by omega, h3⟩
 ·rintro (h | ⟨h1, h3⟩)
  ·exact .inl h
  ·exact .inr ⟨by omega, by omega, h3⟩
theorem MinD.le {l : List Tr} {m d : Tr} (h : MinD l m) (hd : d ≠ tz) : Wq l m ≤ Wq l d := (j1W h.1 hd).2 (h.2 d hd)
theorem Q1U {l : List Tr} {m m' : Tr} (h : MinD l m) (h' : MinD l m') : Wq l m = Wq l m' := (Y1c h.1 h'.1).2 (z1f h h')
end Go.Proofs.YtgblokifbgeegaaGreatDoor.H.S
namespace Go.Proofs.YtgblokifbgeegaaGreatDoor.H.S
open Go Go.Vc Go.RowKit Go.Na Go.Lib
set_option maxHeartbeats 8000000
theorem vRI (n : Int) : vR ((n : Int) : Rat) = vI n := by rw [vR, W0H]
theorem q2e (n p m q : Int) (hn : LI 400 n) (hp : LI 400 p) (hm : LI 400 m) (hq : LI 400 q) : CtrH Tryz.prog 89 [.own 1000 0, .av (vI n), .av (vI p), .av (vI m), .av (vI q)] [(1000, E0)] (.av (j0x [vI (n * q), vI (p * m)])) [(1000, E0)] := by
 have b := fun (x y : Int) (hx : LI 400 x) (hy : LI 400 y) => (by have h := LI.mul hx hy; exact h : LI 800 (x * y))
 have M := fun (x : Int) (h : LI 400 x) => (h.mono xE : LI 1000 x)
 have c1 := J0b n q (M _ hn) (M _ hq) ((b _ _ hn hq).mono xE)
 have c3 := J0b p m (M _ hp) (M _ hm) ((b _ _ hp hm).mono xE)
 refine z0o _ Tryz.func89 rfl rfl Tryz.ntmps89 rfl rfl fun w Z ν => ?_
 refine xU ?_
 refine wl ?_
 refine j0n (v0M rfl rfl) rfl ?_
 refine wl ?_
 refine j0u (j0h [] c1 rfl ⟨rfl, trivial⟩ rfl) rfl ?_
 refine wl ?_
 refine j0n (v0M rfl rfl) rfl ?_
 refine wl ?_
 refine j0u (j0h [] c3 rfl ⟨rfl, trivial⟩ rfl) rfl ?_
 refine wl ?_
 exact j0U (T' := [(10, .av (vI (n * q))), (11, .av (vI (p * m)))]) (O' := [(1000, E0)]) (ent xS xT) (J0C (rvs := [_, _]) (τs := [_, _]) rfl rfl rfl ⟨.tmp rfl, .tmp rfl, trivial⟩ rfl)
theorem Z1P {r : Rat} (h : r ≠ 0) : r.num ≠ 0 := fun e => h (Rat.num_eq_zero.1 e)
theorem W1G (q r : Rat) (hq : LR 400 q) (hr : LR 400 r) (h0 : r ≠ 0) : CtrA Tryz.prog 51 [vR q, vR r] (j0x [vR (q / r), vi 0]) := by
 have hdn : (q.den : Int) * r.num ≠ 0 := Int.mul_ne_zero (by have := q.den_pos; omega) (Z1P h0)
 have h := k0P 89 q r (q.num * r.den) (q.den * r.num) (hq.mono xE) (hr.mono xE) (li4 hq.1 hr.2) (li4 hq.2 hr.1) hdn (q2e q.num q.den r.num r.den hq.1 hq.2 hr.1 hr.2)
 rw [← div_eq] at h
 have h1 := J0L q r (hq.mono xE) (hr.mono xE)
 have hz : (rtx r == [48]) = false := by rw [beq_eq_false_iff_ne]; exact fun e => h0 (W1L (e.trans rtx_0.symm))
 refine j0p _ Tryz.func51 rfl rfl Tryz.ntmps51 rfl fun w Z => ?_
 refine xU ?_
 refine wl ?_
 refine j0n (v1t rfl rfl) rfl ?_
 refine wl ?_
 rw [hz]
 refine wl ?_
 exact xW
abbrev I64 (n : Int) : Prop := -9223372036854775808 ≤ n ∧ n ≤ 9223372036854775807
structure I64T (d : Tr) : Prop where
 x : I64 d.x
 y : I64 d.y
 z : I64 d.z
theorem I64.li {n : Int} (h : I64 n) : LI 19 n := (show n.natAbs < 10 ^ 19 by omega)
theorem LR.ofI {k : Nat} {n : Int} (h : LI k n) (hk : 0 < k) : LR k ((n : Int) : Rat) := LR.int h hk
theorem J1A (m n : Int) (hm : LI 300 m) (hn : LI 300 n) : CtrA Tryz.prog 49 [vI m, vI n] (j0x [vI (m * n), vi 0]) := by
 have h := w1B (m : Rat) (n : Rat) (LR.ofI (hm.mono xE) xE) (LR.ofI (hn.mono xE) xE)
 rw [← Rat.intCast_mul, vRI, vRI, vRI] at h
 exact h
theorem Z1r (m n : Int) (hm : LI 300 m) (hn : LI 300 n) : CtrA Tryz.prog 71 [vI m, vI n] (j0x [vI (m + n), vi 0]) := by
 have h := W1F (m : Rat) (n : Rat) (LR.ofI (hm.mono xE) xE) (LR.ofI (hn.mono xE) xE)
 rw [← Rat.intCast_add, vRI, vRI, vRI] at h
 exact h
theorem Z1v (m n : Int) (hm : LI 300 m) (hn : LI 300 n) : CtrA Tryz.prog 47 [vI m, vI n] (j0x [vI (m - n), vi 0]) := by
 have h := W1I (m : Rat) (n : Rat) (LR.ofI (hm.mono xE) xE) (LR.ofI (hn.mono xE) xE)
 rw [← Rat.intCast_sub, vRI, vRI, vRI] at h
 exact h
theorem y1N {T : Tab} {O : Go.Vc.Own} {n m : Nat} {f f' : Nat → AV} (k : Nat) (hT : T.get k = .av (.ptr n f)) (hm : m ≤ n) (hf : ∀ i, i < m → f i = f' i) : Ent T O ((k, .av (.ptr m f')) :: T) O := by
 rintro E a w ⟨Z, ν, h⟩
 refine ⟨Z, ν, h.defers, h.tsize, h.cst, h.pin, h.base, h.own, fun q => ?_⟩
 by_cases hq : k = q
 ·subst hq
  rw [Tab.get_cons_eq]
  have hs := h.slot k
  rw [hT] at hs
  obtain ⟨b, o, e1, e2, e3, e4⟩ := hs
  exact ⟨b, o, e1, fun h0 => e2 (by omega), e3, fun i hi => by rw [← hf i hi]; exact e4 i (by omega)⟩
 ·rw [Tab.get_cons_ne _ _ hq]
  exact h.slot q
abbrev zA (d : Tr) (a b : Int) : AV := .val (.agg #[.int .i64 d.x, .int .i64 d.y, .int .i64 d.z, .int .i64 a, .int .i64 b])
theorem x1X (p d : Tr) {A B : Int} (h1 : BT A p) (h2 : BT B d) (hab : A * B ≤ 1000000000000000000) : CtrA Tryz.prog 58 [tp p, tp d] (vi (j0b d p)) := by
 rw [q0i]
 refine j0p _ Tryz.func58 rfl rfl Tryz.ntmps58 rfl fun w Z => ?_
 obtain ⟨m1, n1⟩ := j0F h1.x h2.x
 obtain ⟨m2, n2⟩ := j0F h1.y h2.y
 obtain ⟨m3, n3⟩ := j0F h1.z h2.z
 refine xU ?_
 refine wt ?_
 exact xV
theorem K1l (l : List Tr) (d : Tr) {B : Int} (hl : RT l) (h0 : 0 < l.length) (hln : l.length ≤ 1000) (hd : BT B d) (hB : 100000 * B ≤ 1000000000000000000) : CtrA Tryz.prog 69 [ts l, tp d] (zA d (loD l d) (hiD l d)) := by
 refine j0p _ Tryz.func69 rfl rfl Tryz.ntmps69 rfl fun w Z => ?_
 refine xU ?_
 have hq1 := x1X (gt l 0) d (hl 0) hd hB
 refine wt ?_
 refine j0f (γ := Nat) (fun k => [(3, .av (bt d)), (4, .own 10 0), (5, .own 11 0), (20, .av (ts l)), (21, .av (vi l.length)), (22, .av (vi k))]) (fun k => [(10, .cells [.av (vi 0), .av (vi 0), .av (vi 0), .av (vi 0), .av (vi 0)]), (11, .cells [.av (vi d.x), .av (vi d.y), .av (vi d.z), .av (vi (loZ l d k)), .av (vi (hiZ l d k))])]) (fun k => k ≤ l.length) (fun k => l.length - k) 0 (Nat.zero_le _) (ent xS xT) ?_
 intro k hk
 refine wt ?_
 (refine j0a rfl ?_ ?_ <;> intro hb <;> (try simp only [xA, xB, xG, xC, xD, xN] at hb) <;> (try exact xQ))
 ·have hkl : k < l.length := by omega
  have hq2 := x1X (gt l k) d (hl k) hd hB
  refine wt ?_
  exact j0c (k + 1) xO xO (ent xS xT)
 ·have hkl : k = l.length := by omega
  subst hkl
  refine wt ?_
  exact j0e rfl (.agg (us := [_, _, _, _, _]) rfl rfl rfl rfl) rfl
def zE (d : Tr) (a b : Int) : Int := if d = tz then 10 else if b < a then 9 else 0
theorem z1Z (d : Tr) (a b : Int) : CtrA Tryz.prog 46 [zA d a b] (vi (zE d a b)) := by
 refine j0p _ Tryz.func46 rfl rfl Tryz.ntmps46 rfl fun w Z => ?_
 unfold zE
 refine xU ?_
 refine wt ?_
 rw [z1L]
 by_cases hz : d = tz
 ·rw [if_pos hz, decide_eq_true hz]
  refine wt ?_
  exact xV
 ·rw [if_neg hz, decide_eq_false hz]
  refine wt ?_
  (refine j0a rfl ?_ ?_ <;> intro hb <;> (try simp only [xA, xB, xG, xC, xD, xN] at hb) <;> (try exact xQ))
  ·rw [if_pos (by omega)]
   refine wt ?_
   exact xV
  ·rw [if_neg (by omega)]
   refine wt ?_
   exact xV
def X1e (f : Nat → Int) : Nat → Int
 |0 => 0
 |k + 1 => X1e f k + f k * f k
theorem Z0x {f : Nat → Int} (h : ∀ i, i < 3 → LI 19 (f i)) : ∀ k, k ≤ 3 → LI (39 + k) (X1e f k)
 |0, _ => LI.small (m := 0) xE xE
 |k + 1, hk => ((Z0x h k xO)).add (((h k xO).mul (h k xO)).mono xO)
theorem q2C : vI 0 = vS [48] := congrArg vS itoa_zero
theorem X1u (f : Nat → Int) (h : ∀ i, i < 3 → I64 (f i)) : CtrA Tryz.prog 50 [.sl 3 1 (fun i _ => vi (f i))] (j0x [vI (X1e f 3), vi 0]) := by
 have hs := Z0x (f := f) (fun i hi => (h i hi).li)
 refine j0p _ Tryz.func50 rfl rfl Tryz.ntmps50 rfl fun w Z => ?_
 refine xU ?_
 refine wt ?_
 refine j0f (γ := Nat) (fun k => [(4, .av (vI (X1e f k))), (9, .av (.sl 3 1 (fun i _ => vi (f i)))), (10, .av (vi 3)), (11, .av (vi k))]) (fun k => []) (fun k => k ≤ 3) (fun k => 3 - k) 0 (Nat.zero_le _) (ent ⟨by show SLe (.av (vS [48])) (.av (vI 0)); rw [q2C]; exact .refl _, .refl _, .refl _, .refl _, trivial⟩ trivial) ?_
 intro k hk
 refine wt ?_
 (refine j0a rfl ?_ ?_ <;> intro hb <;> (try simp only [xA, xB, xG, xC, xD, xN] at hb) <;> (try exact xQ))
 ·have hkl : k < 3 := by omega
  have hf := (h k hkl).li
  have h1 := z0e (f k) (h k hkl)
  have h2 := J1A (f k) (f k) (hf.mono xE) (hf.mono xE)
  have h3 := Z1r (X1e f k) (f k * f k) ((hs k hk).mono xO) ((hf.mul hf).mono xE)
  refine wt ?_
  exact j0c (k + 1) xO xO (ent xS trivial)
 ·obtain rfl : k = 3 := by omega
  refine wt ?_
  exact xW
def trF (d : Tr) (i : Nat) : Int := if i = 0 then d.x else if i = 1 then d.y else d.z
theorem x1p (d : Tr) : X1e (trF d) 3 = j0b d d := by simp [X1e, trF, j0b]
def zQ (d : Tr) (a b : Int) : Rat := (((b - a) * (b - a) : Int) : Rat) / ((j0b d d : Int) : Rat)
def zT (d : Tr) (a b : Int) : List UInt8 := if zE d a b = 0 then rtx (zQ d a b) else []
theorem Z0A {d : Tr} (h : I64T d) : LI 42 (j0b d d) := by
 have hs := Z0x (f := trF d) (fun i hi => by
  unfold trF
  split
  ·exact h.x.li
  ·split
   ·exact h.y.li
   ·exact h.z.li) 3 (Nat.le_refl _)
 rw [x1p] at hs
 exact hs
theorem nnQ {d : Tr} (h : d ≠ tz) : ((j0b d d : Int) : Rat) ≠ 0 := fun e => by
 have := q0j h
 have : j0b d d = 0 := Rat.intCast_inj.1 (by rw [e]; rfl)
 omega
theorem z1D (d : Tr) (a b : Int) (hd : I64T d) (ha : I64 a) (hb' : I64 b) : CtrA Tryz.prog 14 [zA d a b] (j0x [vS (zT d a b), vi (zE d a b)]) := by
 refine j0p _ Tryz.func14 rfl rfl Tryz.ntmps14 rfl fun w Z => ?_
 have h0 := z1Z d a b
 have hT : zT d a b = if zE d a b = 0 then rtx (zQ d a b) else [] := rfl
 have hE : zE d a b = if d = tz then 10 else if b < a then 9 else 0 := rfl
 generalize zT d a b = t at hT ⊢
 generalize zE d a b = e at h0 hT hE ⊢
 refine xU ?_
 refine wt ?_
 (refine j0a rfl ?_ ?_ <;> intro hb <;> (try simp only [xA, xB, xG, xC, xD, xN] at hb) <;> (try exact xQ))
 ·rw [if_neg hb] at hT
  subst hT
  refine wt ?_
  exact xW
 ·rw [if_pos hb] at hT
  subst hT
  have hz : d ≠ tz := fun h => by rw [if_pos h] at hE; omega
  subst hb
  have l1 : LI 20 (b - a) := hb'.li.sub ha.li
  have h1 := z0e b hb'
  have h2 := z0e a ha
  have h3 := Z1v b a (hb'.li.mono xE) (ha.li.mono xE)
  have h4 := J1A (b - a) (b - a) (l1.mono xE) (l1.mono xE)
  have h5 := X1u (trF d) (fun i hi => by
   unfold trF
   split
   ·exact hd.x
   ·split
    ·exact hd.y
    ·exact hd.z)
  rw [x1p] at h5
  have h6 := W1G (((b - a) * (b - a) : Int) : Rat) ((j0b d d : Int) : Rat) (LR.ofI ((l1.mul l1).mono xE) xE) (LR.ofI ((Z0A hd).mono xE) xE) (nnQ hz)
  rw [vRI, vRI] at h6
  have hptr : ∀ i, i < 3 → (fun j => AV.val ([Go.Value.int .i64 d.x, .int .i64 d.y, .int .i64 d.z, .int .i64 a, .int .i64 b].getD (0 + j) Go.undef)) i = (fun i => vi (trF d i)) i := fun i hi => by
   rcases (by omega : i = 0 ∨ i = 1 ∨ i = 2) with rfl | rfl | rfl <;> rfl
  refine wt ?_
  refine v0e (y1N (m := 3) 37 rfl (show 3 ≤ 5 by decide) hptr) ?_
  refine j0n (w0a (n := 3) rfl xE xE) rfl ?_
  refine wt ?_
  exact xW
end Go.Proofs.YtgblokifbgeegaaGreatDoor.H.S
