/- A part of the proof. -/
import Derived.Test.YtgblokifbgeegaaGreatDoorCas
import Derived.Test.YtgblokifbgeegaaGreatDoorCat
import Derived.Test.YtgblokifbgeegaaGreatDoorCaw
set_option linter.unusedVariables false
set_option linter.unusedSimpArgs false
namespace Go.Proofs.YtgblokifbgeegaaGreatDoor.H.S
open Go Go.Vc Go.RowKit Go.Na Go.Lib
set_option maxHeartbeats 8000000
def K1A : List UInt8 := [45, 57, 50, 50, 51, 51, 55, 50, 48, 51, 54, 56, 53, 52, 55, 55, 53, 56, 48, 56]
theorem y1g : itoa (-9223372036854775808) = K1A := by
 rw [Na.itoa_neg (by decide)]
 have h := X0k 19 [57, 50, 50, 51, 51, 55, 50, 48, 51, 54, 56, 53, 52, 55, 55, 53, 56, 48, 56] rfl ⟨by decide, by decide, fun r h => by cases h⟩
 have e : Na.dv [57, 50, 50, 51, 51, 55, 50, 48, 51, 54, 56, 53, 52, 55, 55, 53, 56, 48, 56] = (-9223372036854775808 : Int).natAbs := by decide +kernel
 rw [← e, h]; rfl
theorem y0S (n : Int) (h : I64 n) : CtrA Tryz.prog 68 [vi n] (vI n) := by
 by_cases hm : n = -9223372036854775808
 ·subst hm
  rw [show vI (-9223372036854775808) = vS K1A from congrArg vS y1g]
  refine j0l _ Tryz.func68 rfl rfl Tryz.ntmps68 rfl fun w Z => ?_
  refine xU ?_
  have e1 : IntKind.i64.wrap (-(-9223372036854775808)) = -9223372036854775808 := by decide
  refine wl ?_
  refine j0o (Q1C rfl) rfl ?_
  rw [e1]
  refine wl ?_
  exact xV
 ·exact Go.Proofs.YtgblokifbgeegaaGreatDoor.of_c n xO
abbrev V1z := @Go.Proofs.YtgblokifbgeegaaGreatDoor.plus_c
abbrev Y1L := @Go.Proofs.YtgblokifbgeegaaGreatDoor.minus_c
abbrev X0M := @Go.Proofs.YtgblokifbgeegaaGreatDoor.times_c
abbrev K1D := @Go.Proofs.YtgblokifbgeegaaGreatDoor.order_c
theorem Y0N (p d : Tr) {A B : Int} (h1 : BT A p) (h2 : BT B d) (hab : A * B ≤ 1000000000000000000) : CtrA Tryz.prog 59 [tp p, tp d] (vi (j0c d p)) := by
 rw [q0g]
 refine j0l _ Tryz.func59 rfl rfl Tryz.ntmps59 rfl fun w Z => ?_
 obtain ⟨m1, n1⟩ := j0G h1.x h2.x
 obtain ⟨m2, n2⟩ := j0G h1.y h2.y
 obtain ⟨m3, n3⟩ := j0G h1.z h2.z
 refine xU ?_
 refine wt ?_
 exact xV
theorem w1f (l : List Tr) (d : Tr) {B : Int} (hl : RT l) (h0 : 0 < l.length) (hln : l.length ≤ 1000) (hd : BT B d) (hB : 100000 * B ≤ 1000000000000000000) : CtrA Tryz.prog 70 [ts l, tp d] (zA d (loD l d) (hiD l d)) := by
 refine j0l _ Tryz.func70 rfl rfl Tryz.ntmps70 rfl fun w Z => ?_
 refine xU ?_
 have hq1 := Y0N (gt l 0) d (hl 0) hd hB
 refine wt ?_
 refine j0f (γ := Nat) (fun k => [(0, .av (ts l)), (3, .av (bt d)), (4, .own 10 0), (5, .own 11 0), (6, .av (vi k))]) (fun k => [(10, .cells [.av (vi 0), .av (vi 0), .av (vi 0), .av (vi 0), .av (vi 0)]), (11, .cells [.av (vi d.x), .av (vi d.y), .av (vi d.z), .av (vi (loZ l d k)), .av (vi (hiZ l d k))])]) (fun k => k ≤ l.length) (fun k => l.length - k) 0 (Nat.zero_le _) (ent xS xT) ?_
 intro k hk
 refine wt ?_
 (refine j0a rfl ?_ ?_ <;> intro hb <;> (try simp only [xA, xB, xG, xC, xD, xN] at hb) <;> (try exact xQ))
 ·have hkl : k < l.length := by omega
  have hq2 := Y0N (gt l k) d (hl k) hd hB
  refine wt ?_
  exact j0b (k + 1) xO xO (ent xS xT)
 ·have hkl : k = l.length := by omega
  subst hkl
  refine wt ?_
  exact j0e rfl (.agg (us := [_, _, _, _, _]) rfl rfl rfl rfl) rfl
theorem y1v (d : Tr) (a b : Int) : CtrA Tryz.prog 52 [zA d a b] (vi (zE d a b)) := by
 refine j0l _ Tryz.func52 rfl rfl Tryz.ntmps52 rfl fun w Z => ?_
 unfold zE
 refine xU ?_
 refine wt ?_
 rw [z0x]
 by_cases hz : d = tz
 ·rw [if_pos hz, decide_eq_true hz]
  refine wt ?_
  exact xV
 ·rw [if_neg hz, decide_eq_false hz]
  refine wt ?_
  (refine j0a rfl ?_ ?_ <;> intro hb <;> (try simp only [xA, xB, xG, xC, xD, xN] at hb) <;> (try exact xQ))
  ·rw [if_pos (by omega)]
   refine wt ?_
   exact xV
  ·rw [if_neg (by omega)]
   refine wt ?_
   exact xV
theorem W1l {d : Tr} (h : I64T d) : ∀ i, i < 3 → I64 (trF d i) := fun i hi => by
 unfold trF
 split
 ·exact h.x
 ·split
  ·exact h.y
  ·exact h.z
theorem w1d (d : Tr) (a b : Int) (hd : I64T d) (ha : I64 a) (hb' : I64 b) (hz : d ≠ tz) : CtrA Tryz.prog 53 [zA d a b] (vS (rtx (zQ d a b))) := by
 refine j0l _ Tryz.func53 rfl rfl Tryz.ntmps53 rfl fun w Z => ?_
 have hs := W0B (f := trF d) (fun i hi => (W1l hd i hi).li)
 have l1 : LI 20 (b - a) := hb'.li.sub ha.li
 have h1 := y0S b hb'
 have h2 := y0S a ha
 have h3 := Y1L b a (hb'.li.mono xE) (ha.li.mono xE)
 have h4 := X0M (b - a) (b - a) (l1.mono xE) (l1.mono xE)
 have h6 := V1w (((b - a) * (b - a) : Int) : Rat) ((j0c d d : Int) : Rat) (LR.ofI ((l1.mul l1).mono xE) xE) (LR.ofI ((Z0b hd).mono xE) xE) (nnQ hz)
 rw [vRI, vRI] at h6
 have hptr : ∀ i, i < 5 → (fun i => AV.val ([Go.Value.int .i64 d.x, .int .i64 d.y, .int .i64 d.z, .int .i64 a, .int .i64 b].getD i Go.undef)) i = (fun i => if i < 3 then vi (trF d i) else if i = 3 then vi a else vi b) i := fun i hi => by
  rcases (by omega : i = 0 ∨ i = 1 ∨ i = 2 ∨ i = 3 ∨ i = 4) with rfl | rfl | rfl | rfl | rfl <;> rfl
 refine xU ?_
 refine wt ?_
 refine j0f (γ := Nat) (fun k => [(1, .av (.ptr 5 (fun i => if i < 3 then vi (trF d i) else if i = 3 then vi a else vi b))), (3, .av (vI (b - a))), (4, .av (vI (y1D (trF d) k))), (5, .av (vi k))]) (fun k => []) (fun k => k ≤ 3) (fun k => 3 - k) 0 (Nat.zero_le _) (Ent.trans (Y0u (n := 5) 1 (f' := fun i => if i < 3 then vi (trF d i) else if i = 3 then vi a else vi b) rfl hptr) (ent ⟨.refl _, .refl _, by show SLe (.av (vS [48])) (.av (vI 0)); rw [K1h]; exact .refl _, .refl _, trivial⟩ trivial)) ?_
 intro k hk
 refine wt ?_
 (refine j0a rfl ?_ ?_ <;> intro hb <;> (try simp only [xA, xB, xG, xC, xD, xN] at hb) <;> (try exact xQ))
 ·have hk3 : k < 3 := by omega
  have q1 := y0S (trF d k) (W1l hd k hk3)
  have lf := (W1l hd k hk3).li
  have q2 := X0M (trF d k) (trF d k) (lf.mono xE) (lf.mono xE)
  have q3 := V1z (y1D (trF d) k) (trF d k * trF d k) ((hs k hk).mono xO) ((lf.mul lf).mono xE)
  rcases (by omega : k = 0 ∨ k = 1 ∨ k = 2) with rfl | rfl | rfl
  ·refine wt ?_
   exact j0b 1 xO xO (ent xS trivial)
  ·refine wt ?_
   exact j0b 2 xO xO (ent xS trivial)
  ·refine wt ?_
   exact j0b 3 xO xO (ent xS trivial)
 ·obtain rfl : k = 3 := by omega
  rw [Y0Z]
  refine wt ?_
  exact xV
theorem Y1O (d : Tr) (a b : Int) (hd : I64T d) (ha : I64 a) (hb' : I64 b) : CtrA Tryz.prog 15 [zA d a b] (j0m [vS (zT d a b), vi (zE d a b)]) := by
 refine j0l _ Tryz.func15 rfl rfl Tryz.ntmps15 rfl fun w Z => ?_
 have h0 := y1v d a b
 have h1 := fun hz => w1d d a b hd ha hb' hz
 have hT : zT d a b = if zE d a b = 0 then rtx (zQ d a b) else [] := rfl
 have hE : zE d a b = if d = tz then 10 else if b < a then 9 else 0 := rfl
 generalize zT d a b = t at hT ⊢
 generalize zE d a b = e at h0 hT hE ⊢
 refine xU ?_
 refine wt ?_
 (refine j0a rfl ?_ ?_ <;> intro hb <;> (try simp only [xA, xB, xG, xC, xD, xN] at hb) <;> (try exact xQ))
 ·rw [if_neg hb] at hT
  subst hT
  refine wt ?_
  exact xW
 ·rw [if_pos hb] at hT
  subst hT
  have hz : d ≠ tz := fun h => by rw [if_pos h] at hE; omega
  subst hb
  have h2 := h1 hz
  refine wt ?_
  exact xW
theorem k1K (p d : Tr) (hp : BT 100000 p) (hd : I64T d) : CtrA Tryz.prog 72 [tp p, tp d] (vI (j0c p d)) := by
 refine j0l _ Tryz.func72 rfl rfl Tryz.ntmps72 rfl fun w Z => ?_
 obtain ⟨⟨x1, x2⟩, ⟨y1, y2⟩, ⟨z1, z2⟩⟩ := hp
 have a1 := y0S p.x ⟨by omega, by omega⟩
 have a2 := y0S p.y ⟨by omega, by omega⟩
 have a3 := y0S p.z ⟨by omega, by omega⟩
 have b1 := y0S d.x hd.x
 have b2 := y0S d.y hd.y
 have b3 := y0S d.z hd.z
 have i1 : LI 19 p.x := I64.li ⟨by omega, by omega⟩
 have i2 : LI 19 p.y := I64.li ⟨by omega, by omega⟩
 have i3 : LI 19 p.z := I64.li ⟨by omega, by omega⟩
 have c1 := X0M p.x d.x (i1.mono xE) (hd.x.li.mono xE)
 have c2 := X0M p.y d.y (i2.mono xE) (hd.y.li.mono xE)
 have c3 := X0M p.z d.z (i3.mono xE) (hd.z.li.mono xE)
 have m1 := i1.mul hd.x.li
 have m2 := i2.mul hd.y.li
 have m3 := i3.mul hd.z.li
 have c4 := V1z (p.x * d.x) (p.y * d.y) (m1.mono xE) (m2.mono xE)
 have c5 := V1z (p.x * d.x + p.y * d.y) (p.z * d.z) ((m1.add m2).mono xE) (m3.mono xE)
 refine xU ?_
 refine wt ?_
 exact xV
end Go.Proofs.YtgblokifbgeegaaGreatDoor.H.S
section
end
section
end
section
end
namespace Go.Proofs.YtgblokifbgeegaaGreatDoor.H.S
open Go Go.Vc
def loS (l : List Tr) (d : Tr) : List Nat := (List.range l.length).filter (loB l d)
def hiS (l : List Tr) (d : Tr) : List Nat := (List.range l.length).filter (hiB l d)
end Go.Proofs.YtgblokifbgeegaaGreatDoor.H.S
namespace Go.Proofs.YtgblokifbgeegaaGreatDoor.H.S
open Go Go.Vc
set_option maxHeartbeats 1000000
def cK (g : List Tr) (i k : Nat) : List Tr := (List.range k).filterMap fun k => if tcr (gt g i) (gt g k) = tz then none else some (q0E (tcr (gt g i) (gt g k)))
def cI (g : List Tr) (n : Nat) : List Tr := (List.range n).flatMap fun i => cK g i i
theorem Q0R (g : List Tr) : cI g g.length = j0O g := rfl
theorem x0W (g : List Tr) (i k : Nat) : cK g i (k + 1) = cK g i k ++ if tcr (gt g i) (gt g k) = tz then [] else [q0E (tcr (gt g i) (gt g k))] := by
 unfold cK
 rw [List.range_succ, List.filterMap_append]
 congr 1
 by_cases h : tcr (gt g i) (gt g k) = tz
 ·simp [h]
 ·simp [h]
theorem w0K (g : List Tr) (n : Nat) : cI g (n + 1) = cI g n ++ cK g n n := by unfold cI; rw [List.range_succ, List.flatMap_append]; simp
theorem k1i (g : List Tr) (i : Nat) : cK g i 0 = [] := rfl
theorem Z0r {l L : List Tr} {d : Tr} : q0x l (L ++ [d]) = x0V l (q0x l L) d := by unfold q0x; rw [List.foldl_append]; rfl
def gK (l : List Tr) (i k : Nat) : List Tr := (List.range k).map fun k => j0D (gt l i) (gt l k)
def gIl (l : List Tr) (n : Nat) : List Tr := (List.range n).flatMap fun i => gK l i i
theorem z1u (l : List Tr) : gIl l l.length = v0W l := rfl
theorem Q1x (l : List Tr) (i k : Nat) : gK l i (k + 1) = gK l i k ++ [j0D (gt l i) (gt l k)] := by unfold gK; rw [List.range_succ, List.map_append]; rfl
theorem q1B (l : List Tr) (n : Nat) : gIl l (n + 1) = gIl l n ++ gK l n n := by unfold gIl; rw [List.range_succ, List.flatMap_append]; simp
theorem z1v (l : List Tr) (i k : Nat) : (gK l i k).length = k := by unfold gK; simp
theorem q1A (l : List Tr) : ∀ n, n ≤ 100 → (gIl l n).length ≤ 100 * n
 |0, _ => by simp [gIl]
 |n + 1, h => by have := q1A l n (by omega); rw [q1B, List.length_append, z1v]; omega
theorem V0i {l : List Tr} (hl : RT l) : ∀ v ∈ v0W l, BT 200000 v := fun v hv => by
 obtain ⟨i, k, _, _, rfl⟩ := J0l.1 hv
 exact (hl i).sub (hl k)
theorem y1X {A : Int} {d : Tr} (h : BT A d) : BT A (j0P d (-1)) := by
 obtain ⟨⟨a, b⟩, ⟨c, e⟩, ⟨f, g⟩⟩ := h
 refine ⟨⟨?_, ?_⟩, ⟨?_, ?_⟩, ⟨?_, ?_⟩⟩ <;> simp only [j0P] <;> omega
theorem J0z {A : Int} {d : Tr} (h : BT A d) : BT A (q0E d) := by
 unfold q0E
 split
 ·exact y1X h.pr
 ·exact h.pr
def dvs (l : List Tr) : List Tr := (List.range l.length).map fun i => dv l 0 i
def flatD (l : List Tr) : List Tr := (j0O (dvs l)).take 1
def x0N (l : List Tr) : List Tr := if (spn l).dim = 3 then X1o l (j1h l) else flatD l
theorem z0F {l : List Tr} {i : Nat} (h : i < l.length) : gt (dvs l) i = dv l 0 i := by unfold gt dvs; simp [List.getD, h]
theorem V0P (l : List Tr) : (dvs l).length = l.length := by unfold dvs; simp
theorem flatD_at {l : List Tr} {i k : Nat} (hi : i < l.length) (hk : k < i) (h0 : cI (dvs l) i ++ cK (dvs l) i k = []) (hn : tcr (dv l 0 i) (dv l 0 k) ≠ tz) : flatD l = [q0E (tcr (dv l 0 i) (dv l 0 k))] := by
 have h1 : ∀ n, i < n → n ≤ l.length → ∃ t, cI (dvs l) n = q0E (tcr (dv l 0 i) (dv l 0 k)) :: t := by
  intro n
  induction n with
  |zero => intro h; omega
  |succ n ih =>
   intro h hl
   by_cases e : i = n
   ·subst e
    have h2 : ∀ m, k < m → ∃ t, cI (dvs l) i ++ cK (dvs l) i m = q0E (tcr (dv l 0 i) (dv l 0 k)) :: t := by
     intro m
     induction m with
     |zero => intro h; omega
     |succ m ihm =>
      intro hm
      by_cases e : k = m
      ·subst e
       rw [x0W, ← List.append_assoc, h0, z0F hi, z0F (by omega), if_neg hn]
       exact ⟨[], rfl⟩
      ·obtain ⟨t, ht⟩ := ihm xO
       rw [x0W, ← List.append_assoc, ht]
       exact ⟨_, rfl⟩
    rw [w0K]
    exact h2 i hk
   ·obtain ⟨t, ht⟩ := ih xO xO
    rw [w0K, ht]
    exact ⟨_, rfl⟩
 obtain ⟨t, ht⟩ := h1 l.length hi (Nat.le_refl _)
 unfold flatD
 rw [← Q0R, V0P, ht]; rfl
theorem w1z (l : List Tr) (a b c : Nat) : tac (gt l a) (gt l b) (gt l c) = tcr (dv l a b) (dv l a c) := by unfold tac dv; rfl
theorem j1d {l : List Tr} (h : Q0H l) : ∃ i k, i < l.length ∧ k < i ∧ tcr (dv l 0 i) (dv l 0 k) ≠ tz := by
 refine Classical.byContradiction fun hno => ?_
 have h0 : ∀ i k, i < l.length → k < l.length → tcr (dv l 0 i) (dv l 0 k) = tz := fun i k hi hk => by
  refine Classical.byContradiction fun hn => ?_
  rcases (by omega : k < i ∨ i < k ∨ i = k) with h1 | h1 | h1
  ·exact hno ⟨i, k, hi, h1, hn⟩
  ·exact hno ⟨k, i, hk, h1, fun e => hn (by rw [W0E, e]; rfl)⟩
  ·subst h1; exact hn (k0T _)
 obtain ⟨a, b, c, ha, hb, hc, hn⟩ := h
 refine hn ?_
 have e : tac (gt l a) (gt l b) (gt l c) = j0D (j0D (tcr (dv l 0 b) (dv l 0 c)) (tcr (dv l 0 b) (dv l 0 a))) (tcr (dv l 0 a) (dv l 0 c)) := by
  simp only [tac, dv, j0D, tcr, Tr.mk.injEq]; refine ⟨?_, ?_, ?_⟩ <;> grind
 rw [e, h0 b c hb hc, h0 b a hb ha, h0 a c ha hc]; rfl
theorem flatD_ex {l : List Tr} (h : Q0H l) : ∃ i k, i < l.length ∧ k < l.length ∧ tcr (dv l 0 i) (dv l 0 k) ≠ tz ∧ flatD l = [q0E (tcr (dv l 0 i) (dv l 0 k))] := by
 obtain ⟨i, k, hi, hk, hn⟩ := j1d h
 have hm : q0E (tcr (gt (dvs l) i) (gt (dvs l) k)) ∈ j0O (dvs l) := q0f.2 ⟨i, k, by rw [V0P]; exact hi, hk, by rw [z0F hi, z0F (by omega)]; exact hn, rfl⟩
 cases hc : j0O (dvs l) with
 |nil => rw [hc] at hm; cases hm
 |cons d t =>
  obtain ⟨i, k, hi, hk, hn, e⟩ := q0f.1 (show d ∈ j0O (dvs l) by rw [hc]; simp)
  rw [V0P] at hi
  rw [z0F hi, z0F (by omega)] at hn e
  exact ⟨i, k, hi, by omega, hn, by unfold flatD; rw [hc, e]; rfl⟩
theorem j1u {l : List Tr} (h : Q0H l) (hS : ¬ Sol l) : q0x l (flatD l) = q0x l (j0O (v0W l)) := by
 obtain ⟨i, k, hi, hk, hn, e⟩ := flatD_ex h
 have h0 : 0 < l.length := by omega
 have hm := y0w h0 hi h0 hk hn
 rw [e]
 obtain ⟨y, hy, hyl, _⟩ := y0p (l := l) (L := j0O (v0W l)) w0v (fun he => by rw [he] at hm; cases hm)
 rw [hy]
 show some _ = some y
 congr 1
 have hw : tac (gt l 0) (gt l i) (gt l k) ≠ tz := by rw [w1z]; exact hn
 have q1 := (flat_gap hS h0 hi hk hw _ hm).1
 have q2 := (flat_gap hS h0 hi hk hw _ hyl).1
 obtain ⟨a, b, _, _, hab, rfl⟩ := q0f.1 hyl
 rw [← J0A hn, ← J0A hab]
 exact x0e (q0z hn) (q0z hab) (x0O hw q1 q2)
theorem j1t {l : List Tr} (hl : RT l) (h7 : l.length ≤ 7) (h : Q0H l) : q0x l (x0N l) = q0x l (j0O (v0W l)) := by
 unfold x0N
 by_cases hd : (spn l).dim = 3
 ·rw [if_pos hd]
  exact j1w ⟨hl, h7, (q0U l).1 hd⟩
 ·rw [if_neg hd]
  exact j1u h (fun hS => hd ((q0U l).2 hS))
theorem Z0D (l : List Tr) : Q0H l ↔ 2 ≤ (spn l).dim := by
 have h := SpI.to l l.length (Nat.le_refl _)
 have e : J0s l l.length = spn l := rfl
 rw [e] at h
 constructor
 ·rintro ⟨a, b, c, ha, hb, hc, hn⟩
  rcases h.rg with h1 | h1 | h1 | h1 | h1
  ·have := h.no h1; omega
  ·exact absurd (by rw [h.d0 h1 a ha, h.d0 h1 b hb]; exact w1y _ _) hn
  ·exfalso
   obtain ⟨hw, hp⟩ := h.d1 h1
   have q1 := W0D _ _ _ _ (hp a ha) (hp b hb)
   have q2 := W0D _ _ _ _ (hp a ha) (hp c hc)
   refine hn ?_
   rw [w1z]
   exact x0O hw q1 q2
  ·omega
  ·omega
 ·intro h2
  rcases h.rg with h1 | h1 | h1 | h1 | h1
  ·omega
  ·omega
  ·omega
  ·obtain ⟨hw, _⟩ := h.d2 h1
   obtain ⟨i0, hi0, ep⟩ := h.pt xO
   obtain ⟨i, j, hi, hj, g, hg, hp⟩ := h.w2 h1
   refine ⟨i0, i, j, hi0, hi, hj, fun e => ?_⟩
   rw [w1z] at e
   unfold dv at e
   rw [ep] at e
   have := hp (spn l).way
   rw [e, W1b] at this
   have h3 := v0h hw
   have h4 := Int.mul_ne_zero hg (show j0c (spn l).way (spn l).way ≠ 0 by omega)
   omega
  ·obtain ⟨a, b, c, d, ha, hb, hc, hd, hs⟩ := (q0U l).1 h1
   exact ⟨a, b, c, ha, hb, hc, fun e => hs (y0W e _)⟩
theorem y1Q {l : List Tr} (h : Sol l) : Q0H l := by
 obtain ⟨a, b, c, d, ha, hb, hc, hd, hs⟩ := h
 exact ⟨a, b, c, ha, hb, hc, fun e => hs (y0W e _)⟩
def rkI (l : List Tr) : Int := if (spn l).dim = 3 then 3 else rA l l.length
theorem V1y (l : List Tr) : 2 ≤ rkI l ↔ Q0H l := by
 unfold rkI
 by_cases h : (spn l).dim = 3
 ·rw [if_pos h]
  exact ⟨fun _ => y1Q ((q0U l).1 h), fun _ => by omega⟩
 ·rw [if_neg h]
  have := V1l l l.length
  exact ⟨fun h2 => V1n (by omega), fun hw => by rw [j2r hw]; omega⟩
theorem Y1K (l : List Tr) : 2 ≤ rkI l ↔ 2 ≤ (spn l).dim := (V1y l).trans (Z0D l)
def lm (l : List Tr) : Tr := (q0x l (j0O (v0W l))).getD tz
theorem v1f {l : List Tr} (h : Q0H l) : q0x l (j0O (v0W l)) = some (lm l) := by
 obtain ⟨m, hm, _⟩ := V0C h
 unfold lm; rw [hm]; rfl
theorem Y1k {l : List Tr} (h : Q0H l) : lm l ∈ j0O (v0W l) := by
 obtain ⟨m, hm, h2, _⟩ := V0C h
 unfold lm; rw [hm]; exact h2
theorem z1J {l : List Tr} (h : Q0H l) : MinD l (lm l) := by
 obtain ⟨m, hm, _, h2⟩ := V0C h
 unfold lm; rw [hm]; exact h2
theorem y0v {g : List Tr} (hg : ∀ v ∈ g, BT 200000 v) : ∀ d ∈ j0O g, BT 80000000000 d := fun d hd => by
 obtain ⟨i, k, hi, hk, _, rfl⟩ := q0f.1 hd
 have h1 : gt g i ∈ g := by unfold gt; simp [List.getD, hi]
 have h2 : gt g k ∈ g := by unfold gt; simp [List.getD, show k < g.length by omega]
 exact J0z (((hg _ h1).cr (hg _ h2)).le xE)
theorem y1i {l : List Tr} (hl : RT l) (h : Q0H l) : BT 80000000000 (lm l) := y0v (V0i hl) _ (Y1k h)
end Go.Proofs.YtgblokifbgeegaaGreatDoor.H.S
namespace Go.Proofs.YtgblokifbgeegaaGreatDoor.H.S
open Go Go.Vc Go.RowKit H.G Go.Sort
set_option maxHeartbeats 8000000
theorem Y0M {ety : TypeId} {Z : j0p} {w : World} {b cap : Nat} {arr : Array Value} {l d : List Int} {q : Nat} {os : Array Obj} (h2 : ¬ Z b) (h3 : w.heap[b]? = some (.cells arr ety (0, 0))) (h4 : l.length ≤ cap) (h5 : cap ≤ maxLen) (h6 : arr.size = cap * 1) (hd : d.length = l.length) {n' : Nat} (hn : n' ≤ l.length) {l' : List Int} (hl : ∀ i, i < n' → gz d i = gz l' i) :
  w.grownBy (grow (putRow (Value.int .i64) (Sort.ahead w q) b 0 d.toArray) os) (some b) ∧ RowAt (grow (putRow (Value.int .i64) (Sort.ahead w q) b 0 d.toArray) os) Z ety 1 n' (zf l') (.slice (some ⟨b, 0, none⟩) n' cap) := by
 have hb := (Array.getElem?_eq_some_iff.1 h3).1
 refine ⟨⟨rfl, rfl, rfl, by simp [grow, putRow, mapBlock, Sort.ahead], fun k hk hne => ?_⟩, .inr ⟨b, cap, putCells (Value.int .i64) 0 d.toArray arr, rfl, h2, ?_, by omega, h5, ?_, fun i hi j hj => ?_⟩⟩
 ·rw [heap_grow_old _ _ (by simpa [putRow, mapBlock, Sort.ahead] using hk)]
  have : b ≠ k := fun e => hne (by rw [e])
  simp [putRow, mapBlock, Sort.ahead, Array.getElem?_modify, this]
 ·rw [heap_grow_old _ _ (by simpa [putRow, mapBlock, Sort.ahead] using hb)]
  simp [putRow, mapBlock, Sort.ahead, Array.getElem?_modify, h3, onCells]
 ·simp [putCells, h6]
 ·obtain rfl : j = 0 := by omega
  refine ⟨.int .i64 (gz l' i), ?_, rfl⟩
  have hal : i < arr.size := by omega
  simp only [putCells, Nat.mul_one, Nat.add_zero]
  rw [Array.getElem?_mapIdx, Array.getElem?_eq_getElem hal]
  simp only [Option.map_some]
  rw [if_pos ⟨Nat.zero_le _, by simp; omega⟩, ← hl i hi]
  have hid : i < d.toArray.size := by simp; omega
  rw [Nat.sub_zero, getElem!_pos d.toArray i hid]
  simp [gz, List.getD, show i < d.length by omega]
theorem Q0q {ety : TypeId} {Z : j0p} {w : World} {b : Nat} {arr : Array Value} {l : List Int} (h3 : w.heap[b]? = some (.cells arr ety (0, 0))) (h7 : ∀ i, i < l.length → ∀ j, j < 1 → ∃ u, arr[i * 1 + j]? = some u ∧ (zf l i j).ok Z w u) : Holds (Value.int .i64) w b 0 l.toArray := by
 intro j hj
 have hj' : j < l.length := by simpa using hj
 obtain ⟨u, hu, hk⟩ := h7 j hj' 0 xO
 obtain rfl : u = .int .i64 (gz l j) := hk
 refine ⟨?_, by simp [World.frozen?, h3]⟩
 simp only [World.cell?, h3, Nat.zero_add]
 rw [getElem!_pos l.toArray j hj]
 simp only [Nat.mul_one, Nat.add_zero] at hu
 simpa [gz, List.getD, hj'] using hu
theorem X0R (ety : TypeId) (l : List Int) (hn : l.length ≤ 1000000) : CtrW Tryz.prog 200 [] ety 1 l.length (zf l) l.length (zf (x0q l)) false := by
 refine ⟨w0O Tryz.func200 rfl rfl, fun w Z v vs hZ hvs hrow => ?_⟩
 match vs, hvs with
 |[], _ =>
  by_cases h0 : l.length = 0
  ·have hl : l = [] := List.eq_nil_of_length_eq_zero h0
   subst hl
   have hv : ∃ p cap, v = .slice p 0 cap := by
    rcases hrow with ⟨e, _⟩ | ⟨b, cap, arr, e, _⟩
    ·exact ⟨none, 0, e⟩
    ·exact ⟨_, cap, e⟩
   obtain ⟨p, cap, rfl⟩ := hv
   refine (Tryz.slices_Sort_int_none p cap w).mono ?_
   rintro e w' ⟨rfl, rfl⟩
   exact ⟨_, _, Z, rfl, rfl, ⟨rfl, rfl, rfl, Nat.le_refl _, fun _ _ _ => rfl⟩, fun _ h => h, fun _ h => .inl h, hZ.1, fun b hb => .inl hb, by
    rcases hrow with ⟨e, _⟩ | ⟨b, cap, arr, e, h2, h3, h4, h5, h6, h7⟩
    ·exact .inl ⟨e, rfl⟩
    ·exact .inr ⟨b, cap, arr, e, h2, h3, h4, h5, h6, fun i hi => by simp at hi⟩⟩
  ·rcases hrow with ⟨_, e⟩ | ⟨b, cap, arr, rfl, h2, h3, h4, h5, h6, h7⟩
   ·exact absurd e h0
   ·have hb := (Array.getElem?_eq_some_iff.1 h3).1
    refine (Tryz.slices_Sort_int b 0 cap l w (Q0q h3 h7) hb xO).mono ?_
    rintro e w' ⟨rfl, q, os, rfl⟩
    obtain ⟨hgr, hr⟩ := Y0M (Z := Z) (l := l) (d := x0q l) (q := q) (os := os) h2 h3 h4 h5 h6 (by unfold x0q; rw [List.length_mergeSort]) (Nat.le_refl _) (l' := x0q l) (fun _ _ => rfl)
    exact ⟨_, _, Z, rfl, rfl, hgr, fun _ h => h, fun _ h => .inl h, fun k hk => Nat.lt_of_lt_of_le (hZ.1 k hk) hgr.size, fun b hb => .inl hb, hr⟩
theorem w0u (ety : TypeId) (l : List Int) (hn : l.length ≤ 1000000) : CtrW Tryz.prog 201 [] ety 1 l.length (zf l) (Lib.compact l).length (zf (Lib.compact l)) true := by
 refine ⟨w0O Tryz.func201 rfl rfl, fun w Z v vs hZ hvs hrow => ?_⟩
 have hcl := Y0q l
 match vs, hvs with
 |[], _ =>
  by_cases h0 : l.length = 0
  ·have hl : l = [] := List.eq_nil_of_length_eq_zero h0
   subst hl
   have hv : ∃ p cap, v = .slice p 0 cap := by
    rcases hrow with ⟨e, _⟩ | ⟨b, cap, arr, e, _⟩
    ·exact ⟨none, 0, e⟩
    ·exact ⟨_, cap, e⟩
   obtain ⟨p, cap, rfl⟩ := hv
   refine (Tryz.slices_Compact_int_empty p cap w).mono ?_
   rintro e w' ⟨rfl, rfl⟩
   exact ⟨_, _, Z, rfl, rfl, ⟨rfl, rfl, rfl, Nat.le_refl _, fun _ _ _ => rfl⟩, fun _ h => h, fun _ h => .inl h, hZ.1, fun b hb => .inl hb, by
    rcases hrow with ⟨e, _⟩ | ⟨b, cap, arr, e, h2, h3, h4, h5, h6, h7⟩
    ·exact .inl ⟨e, rfl⟩
    ·exact .inr ⟨b, cap, arr, e, h2, h3, h4, h5, h6, fun i hi => absurd hi (by simp [Lib.compact, Lib.compactUpTo])⟩⟩
  ·rcases hrow with ⟨_, e⟩ | ⟨b, cap, arr, rfl, h2, h3, h4, h5, h6, h7⟩
   ·exact absurd e h0
   ·refine (Tryz.slices_Compact_int b 0 cap l w (Q0q h3 h7) xO h4).mono ?_
    rintro e w' ⟨rfl, q, rfl⟩
    obtain ⟨hgr, hr⟩ := Y0M (Z := Z) (l := l) (d := Lib.compact l ++ List.replicate (l.length - (Lib.compact l).length) 0) (q := q) (os := #[]) h2 h3 h4 h5 h6 (by simp; omega) hcl (l' := Lib.compact l) (fun i hi => J0Y hi)
    rw [grow_empty] at hgr hr
    exact ⟨_, _, Z, rfl, rfl, hgr, fun _ h => h, fun _ h => .inl h, fun k hk => Nat.lt_of_lt_of_le (hZ.1 k hk) hgr.size, fun b hb => .inl hb, hr⟩
theorem x1I (l : List Int) (i j : Nat) (hn : l.length ≤ 1000000) (h0 : 0 < l.length) (hij : i ≤ j) (hj : j ≤ l.length) : CtrW Tryz.prog 261 [.val (.int .i64 i), .val (.int .i64 j)] 3 1 l.length (zf l) (l.length - (j - i)) (zf (l.take i ++ l.drop j)) true := by
 refine ⟨w0O Tryz.func261 rfl rfl, fun w Z v vs hZ hvs hrow => ?_⟩
 match vs, hvs with
 |[v1, v2], ⟨h1, h2', _⟩ =>
  obtain rfl : v1 = .int .i64 i := h1
  obtain rfl : v2 = .int .i64 j := h2'
  rcases hrow with ⟨_, e⟩ | ⟨b, cap, arr, rfl, h2, h3, h4, h5, h6, h7⟩
  ·omega
  ·refine (Tryz.slices_Delete_int b 0 cap i j l w (Q0q h3 h7) h4 (Nat.le_trans h5 xE) hij hj).mono ?_
   rintro e w' ⟨rfl, q, rfl⟩
   obtain ⟨hgr, hr⟩ := Y0M (Z := Z) (l := l) (d := l.take i ++ l.drop j ++ List.replicate (j - i) 0) (q := q) (os := #[]) h2 h3 h4 h5 h6 (by simp; omega) (n' := l.length - (j - i)) (by omega) (l' := l.take i ++ l.drop j) (fun k hk => J0Y (by simp; omega))
   rw [grow_empty] at hgr hr
   exact ⟨_, _, Z, rfl, rfl, hgr, fun _ h => h, fun _ h => .inl h, fun k hk => Nat.lt_of_lt_of_le (hZ.1 k hk) hgr.size, fun b hb => .inl hb, hr⟩
end Go.Proofs.YtgblokifbgeegaaGreatDoor.H.S
namespace Go.Proofs.YtgblokifbgeegaaGreatDoor.H.S
open Go Go.Vc Go.RowKit H.G
set_option maxHeartbeats 8000000
theorem j2n (n : Int) : CtrA Tryz.prog 260 [vi n] (vb (decide (n ≠ 0))) := by
 refine j0l _ Tryz.func260 rfl rfl Tryz.ntmps260 rfl fun w Z => ?_
 refine xU ?_
 refine wt ?_
 exact j0e rfl (.tmp rfl) (congrArg vb (by rw [Bool.eq_iff_iff]; simp))
theorem k0e {g : Nat} {p : Int → Bool} (hg : ∀ n, CtrA Tryz.prog g [vi n] (vb (p n))) (l : List Int) (hn : l.length ≤ 100000) : CtrA Tryz.prog 176 [zs l, .val (.func (.func g) #[] #[])] (vi (ixB (fun k => p (gz l k)) l.length)) := by
 refine j0l _ Tryz.func176 rfl rfl Tryz.ntmps176 rfl fun w Z => ?_
 refine xU ?_
 refine wt ?_
 refine j0f (γ := Nat) (fun k => [(0, .av (zs l)), (1, .av (.val (.func (.func g) #[] #[]))), (6, .av (zs l)), (7, .av (vi l.length)), (8, .av (vi k))]) (fun _ => []) (fun k => k ≤ l.length ∧ ∀ j, j < k → p (gz l j) = false) (fun k => l.length - k) 0 ⟨Nat.zero_le _, by omega⟩ (ent xS trivial) ?_
 rintro k ⟨hk, hall⟩
 refine wt ?_
 (refine j0a rfl ?_ ?_ <;> intro hb <;> (try simp only [xA, xB, xG, xC, xD, xN] at hb) <;> (try exact xQ))
 ·have hkl : k < l.length := by omega
  have hgk := hg (gz l k)
  refine wt ?_
  (refine j0a rfl ?_ ?_ <;> intro hb <;> (try simp only [xA, xB, xG, xC, xD, xN] at hb) <;> (try exact xQ))
  ·have e1 := Q0c (p := fun k => p (gz l k)) hkl hall hb
   refine wt ?_
   exact j0e rfl (.tmp rfl) (by rw [e1])
  ·refine wt ?_
   exact j0b (k + 1) ⟨by omega, Z0R (p := fun k => p (gz l k)) hall (by simpa using hb)⟩ (by omega) (ent xS trivial)
 ·have hkl : k = l.length := by omega
  subst hkl
  have e1 := v1b (p := fun k => p (gz l k)) hall
  refine wt ?_
  exact j0e rfl (.tmp rfl) (by rw [e1])
theorem K1Y (w : World) : (Instr.buildSlice 40 0 #[]).run Tryz.prog w = .ok (.slice (some ⟨w.heap.size, 0, none⟩) 0 0) (w.alloc (.cells #[] 3)) := by kernel_rfl
theorem j2a (x y : Operand) (a : Addr) (n c : Nat) (w : World) : (eqGuard .eql 40 x y (.slice (some a) n c) (.slice none 0 0)).run Tryz.prog w = .ok () w := by kernel_rfl
theorem j2g (a : Addr) (n c : Nat) (w : World) : (binOp .eql 40 (.slice (some a) n c) (.slice none 0 0)).run Tryz.prog w = .ok (.bool false) w := by kernel_rfl
theorem J1Z (l : List Int) (h0 : 0 < l.length) (hn : l.length ≤ 1000) : CtrR Tryz.prog 262 [zs l] 3 1 l.length (zf l) [] := by
 refine j1Y _ Tryz.func262 rfl rfl Tryz.ntmps262 rfl fun w Z => ?_
 have hml : 0 + l.length ≤ maxLen := by simp only [maxLen]; omega
 refine xU ?_
 refine wt ?_
 repeat' (first
   |(refine j0o (z0p (fun a n c w => j2a _ _ a n c w) (fun a n c w => j2g a n c w) rfl rfl h0) rfl ?_; refine wt ?_)
   |(refine j0u (k1p (zf []) 70 K1Y rfl) rfl ?_; refine wt ?_)
   |(refine j0u (v0u (h := zf l) (m := l.length) rfl rfl rfl (fun i _ j _ => Z1Q l i j) h0 hml xO) rfl ?_; refine wt ?_))
 exact w0s rfl rfl rfl (by omega) (fun i hi j hj => by unfold w0k; rw [if_neg (by omega)]; rfl)
end Go.Proofs.YtgblokifbgeegaaGreatDoor.H.S
namespace Go.Proofs.YtgblokifbgeegaaGreatDoor.H.S
open Go Go.Vc Go.RowKit Go.Na Go.Lib
set_option maxHeartbeats 8000000
theorem k1D (n : Int) : CtrA Tryz.prog 177 [vi n] (vb (decide (n ≠ 0))) := by
 refine j0l _ Tryz.func177 rfl rfl Tryz.ntmps177 rfl fun w Z => ?_
 refine xU ?_
 refine wt ?_
 exact j0e rfl (.tmp rfl) (congrArg vb (by rw [Bool.eq_iff_iff]; simp))
theorem x1m {n : Tr} (h : n ≠ tz) : (axI n = 0 ∧ n.x ≠ 0) ∨ (axI n = 1 ∧ n.x = 0 ∧ n.y ≠ 0) ∨ (axI n = 2 ∧ n.x = 0 ∧ n.y = 0 ∧ n.z ≠ 0) := by
 unfold axI
 by_cases hx : n.x = 0
 ·by_cases hy : n.y = 0
  ·have hz : n.z ≠ 0 := fun hz => h (by cases n; simp only [tz, Tr.mk.injEq]; exact ⟨hx, hy, hz⟩)
   refine .inr (.inr ⟨?_, hx, hy, hz⟩)
   exact Q0c (k := 2) (show 2 < 3 by decide) (fun j hj => by
    rcases (by omega : j = 0 ∨ j = 1) with rfl | rfl
    ·exact decide_eq_false (fun h => h hx)
    ·exact decide_eq_false (fun h => h hy)) (decide_eq_true hz)
  ·refine .inr (.inl ⟨?_, hx, hy⟩)
   exact Q0c (k := 1) (show 1 < 3 by decide) (fun j hj => by
    obtain rfl : j = 0 := by omega
    exact decide_eq_false (fun h => h hx)) (decide_eq_true hy)
 ·refine .inl ⟨?_, hx⟩
  exact Q0c (k := 0) (show 0 < 3 by decide) (fun j hj => by omega) (decide_eq_true hx)
theorem Z1r {d : Tr} (h : d ≠ tz) : tg d ≠ 0 := fun e => h (by
 unfold tg at e
 have h1 := Nat.gcd_eq_zero_iff.1 e
 have h2 := Nat.gcd_eq_zero_iff.1 h1.1
 have h3 := Nat.gcd_eq_zero_iff.1 h2.1
 cases d
 simp only [tz, Tr.mk.injEq]
 simp only at h1 h2 h3
 omega)
theorem k1Z : tg tz = 0 := rfl
def W1D (d : Tr) (G : Int) : Tr := ⟨d.x.tdiv G, d.y.tdiv G, d.z.tdiv G⟩
theorem x1q {d : Tr} (h : d ≠ tz) : q0E d = if ngT d then W1D d (-(tg d : Int)) else W1D d (tg d : Int) := by
 obtain ⟨g, g0, hp⟩ := Q0A h
 have ex : d.x = g * (tpr d).x := by have := hp ⟨1, 0, 0⟩; simpa [j0c] using this
 have ey : d.y = g * (tpr d).y := by have := hp ⟨0, 1, 0⟩; simpa [j0c] using this
 have ez : d.z = g * (tpr d).z := by have := hp ⟨0, 0, 1⟩; simpa [j0c] using this
 have s : ∀ v : Int, (g * v < 0 ↔ v < 0) ∧ (g * v = 0 ↔ v = 0) := fun v => by
  rcases (by omega : v < 0 ∨ v = 0 ∨ 0 < v) with h | h | h
  ·have := Int.mul_neg_of_pos_of_neg g0 h; omega
  ·subst h; simp
  ·have := Int.mul_pos g0 h; omega
 have hn : ngT d ↔ ngT (tpr d) := by
  unfold ngT
  rw [ex, ey, ez, (s _).1, (s _).1, (s _).1, (s _).2, (s _).2]
 have ht : tpr d = W1D d (tg d) := by unfold tpr; rw [if_neg (Z1r h)]; rfl
 unfold q0E
 by_cases hg : ngT d
 ·rw [if_pos (hn.1 hg), if_pos hg, ht]
  simp only [j0P, W1D, Int.tdiv_neg]
  simp
 ·rw [if_neg (fun h => hg (hn.2 h)), if_neg hg, ht]
theorem Y1a (a : Tr) (w : World) : (Instr.index 22 (.agg [.int .i64 a.x, .int .i64 a.y, .int .i64 a.z].toArray) (.int .i64 (((0 : Nat)) : Int))).run Tryz.prog w = .ok (.int .i64 (co a 0)) w := by kernel_rfl
theorem Y1b (a : Tr) (w : World) : (Instr.index 22 (.agg [.int .i64 a.x, .int .i64 a.y, .int .i64 a.z].toArray) (.int .i64 (((1 : Nat)) : Int))).run Tryz.prog w = .ok (.int .i64 (co a 1)) w := by kernel_rfl
theorem Y1c (a : Tr) (w : World) : (Instr.index 22 (.agg [.int .i64 a.x, .int .i64 a.y, .int .i64 a.z].toArray) (.int .i64 (((2 : Nat)) : Int))).run Tryz.prog w = .ok (.int .i64 (co a 2)) w := by kernel_rfl
theorem Z1X (a : Tr) (k : Nat) (h : k < 3) (w : World) : (Instr.index 22 (.agg [.int .i64 a.x, .int .i64 a.y, .int .i64 a.z].toArray) (.int .i64 k)).run Tryz.prog w = .ok (.int .i64 (co a k)) w := by
 rcases (by omega : k = 0 ∨ k = 1 ∨ k = 2) with rfl | rfl | rfl
 ·exact Y1a a w
 ·exact Y1b a w
 ·exact Y1c a w
abbrev v3 (d : Tr) : List Value := [.int .i64 d.x, .int .i64 d.y, .int .i64 d.z]
def dvL (d : Tr) (G : Int) : Nat → List Value
 |0 => v3 d
 |1 => [.int .i64 (d.x.tdiv G), .int .i64 d.y, .int .i64 d.z]
 |2 => [.int .i64 (d.x.tdiv G), .int .i64 (d.y.tdiv G), .int .i64 d.z]
 |_ => v3 (W1D d G)
theorem x1a (d : Tr) (h : BT 1000000000000 d) : CtrA Tryz.prog 136 [tp d] (j0m [tp (if d = tz then d else q0E d), vb (decide (d ≠ tz))]) := by
 refine j0l _ Tryz.func136 rfl rfl Tryz.ntmps136 rfl fun w Z => ?_
 have hc : ∀ k, k < 3 → Bn 1000000000000 (co d k) := fun k hk => by
  match k, hk with
  |0, _ => exact h.x
  |1, _ => exact h.y
  |2, _ => exact h.z
 have hle := k0U h
 refine xU ?_
 refine z0A ?_
 refine q0T ?_
 refine j0u (J0f (us := v3 d) 9 rfl rfl) rfl ?_
 refine wt ?_
 repeat' (first
   |(refine j0o (v0F rfl rfl rfl) rfl ?_; refine wt ?_))
 refine j0f (γ := Nat × Int) (fun g => [(1, .own 9 0), (2, .own 10 0), (4, .av (vi g.2)), (9, .av (tp d)), (10, .av (vi g.1))]) (fun _ => [(9, .vb (v3 d)), (10, .cells [.av (vi 0), .av (vi 0), .av (vi 0)])]) (fun g => g.1 ≤ 3 ∧ g.2.natAbs = tgs d g.1) (fun g => 3 - g.1) (0, 0) ⟨by dsimp only; omega, rfl⟩ (ent xS xT) ?_
 rintro ⟨k, b⟩ ⟨hk, hbk⟩
 dsimp only at hk hbk ⊢
 refine wt ?_
 (refine j0a rfl ?_ ?_ <;> intro hb <;> (try simp only [xA, xB, xG, xC, xD, xN] at hb) <;> (try exact xQ))
 ·have hk3 : k < 3 := by omega
  have hck := hc k hk3
  have hlk := hle k hk
  have hl1 := hle (k + 1) xO
  obtain ⟨hc1, hc2⟩ := hck
  refine wt ?_
  repeat' (first
    |(refine j0o (y0F rfl rfl (fun w => Z1X d k hk3 w)) rfl ?_; refine wt ?_))
  refine j0f (γ := Int × Int) (fun g => [(1, .own 9 0), (2, .own 10 0), (4, .av (vi g.1)), (6, .av (vi g.2)), (9, .av (tp d)), (10, .av (vi k))]) (fun _ => [(9, .vb (v3 d)), (10, .cells [.av (vi 0), .av (vi 0), .av (vi 0)])]) (fun g => Nat.gcd g.1.natAbs g.2.natAbs = tgs d (k + 1) ∧ g.1.natAbs ≤ 1000000000000 ∧ g.2.natAbs ≤ 1000000000000) (fun g => g.2.natAbs) (b, co d k) ⟨by dsimp only; rw [hbk]; rfl, by dsimp only; omega, by dsimp only; omega⟩ (ent xS xT) ?_
  rintro ⟨g, m⟩ ⟨hg, hg1, hm1⟩
  dsimp only at hg hg1 hm1 ⊢
  refine wt ?_
  (refine j0a rfl ?_ ?_ <;> intro hb <;> (try simp only [xA, xB, xG, xC, xD, xN] at hb) <;> (try exact xQ))
  ·have hm0 : 0 < m.natAbs := by omega
   have hlt : (g.tmod m).natAbs < m.natAbs := by rw [Int.natAbs_tmod]; exact Nat.mod_lt _ hm0
   refine wt ?_
   exact j0b (g := (g, m)) (m, g.tmod m) ⟨by dsimp only; rw [← hg, Int.natAbs_tmod, Nat.gcd_comm g.natAbs m.natAbs, Nat.gcd_rec m.natAbs g.natAbs, Nat.gcd_comm], by dsimp only; omega, by dsimp only; omega⟩ hlt (ent xS xT)
  ·have hm : m = 0 := by omega
   subst hm
   rw [Int.natAbs_zero, Nat.gcd_zero_right] at hg
   refine wt ?_
   exact j0b (g := (k, b)) (k + 1, g) ⟨by dsimp only; omega, hg⟩ (by dsimp only; omega) (ent ⟨.refl _, .refl _, .refl _, .refl _, .int (by dsimp only; omega), trivial⟩ xT)
 ·have hk3 : k = 3 := by omega
  subst hk3
  have hle3 := hle 3 xO
  rw [K1I] at hle3 hbk
  by_cases hz : d = tz
  ·subst hz
   have hb0 : b = 0 := by rw [k1Z] at hbk; omega
   subst hb0
   rw [if_pos rfl, decide_eq_false (fun h => h rfl)]
   refine wt ?_
   repeat' (first
     |(refine j0o (v0F rfl rfl rfl) rfl ?_; refine wt ?_))
   exact j0n (rvs := [_, _]) (τs := [_, _]) rfl rfl ⟨.agg (us := v3 tz) rfl rfl rfl rfl, .tmp rfl, trivial⟩ rfl
  ·have hg0 := Z1r hz
   rw [if_neg hz, decide_eq_true hz, x1q hz]
   obtain ⟨⟨x1, x2⟩, ⟨y1, y2⟩, ⟨z1, z2⟩⟩ := h
   have hmx : (if b < -b then -b else b) = (tg d : Int) := by split <;> omega
   generalize tg d = G at *
   have hix := k0e k1D (tl d) (show 3 ≤ 100000 by decide)
   rw [show ixB (fun k => decide (gz (tl d) k ≠ 0)) (tl d).length = axI d from rfl] at hix
   have hix := hix.of (args' := [.sl 3 1 (fun i _ => .val ((v3 d).getD (0 + 0 + i) undef)), .val (.func (.func 177) #[] #[])]) ⟨ALe.sl' rfl (fun i hi j hj => by
    rcases (by omega : i = 0 ∨ i = 1 ∨ i = 2) with rfl | rfl | rfl <;> rfl), .refl _, trivial⟩
   have hN1 : -(G : Int) ≠ 0 := by omega
   have hN2 : (G : Int) ≠ 0 := by omega
   refine wt ?_
   (refine j0a rfl ?_ ?_ <;> intro hb <;> (try simp only [xA, xB, xG, xC, xD, xN] at hb) <;> (try exact xQ))
   refine wt ?_
   rw [hmx]
   refine j0o (w0S (l := 0) (h := 3) rfl rfl rfl rfl xE xE xE) rfl ?_
   rcases x1m hz with ⟨ha, h0⟩ | ⟨ha, h0, h1⟩ | ⟨ha, h0, h1, h2⟩
   all_goals rw [ha] at hix
   all_goals refine j0o (q0e hix rfl ⟨.oc rfl rfl (Nat.le_refl 3), .av rfl, trivial⟩ (flat_val _)) rfl ?_
   all_goals refine wt ?_
   all_goals (refine j0a rfl ?_ ?_ <;> intro hb <;> (try simp only [xA, xB, xG, xC, xD, xN] at hb) <;> (try exact xQ))
   all_goals first
    |(rw [if_pos (show ngT d by unfold ngT; omega)]; refine wt ?_; generalize -(G : Int) = H at *)
    |(rw [if_neg (show ¬ ngT d by unfold ngT; omega)]; refine wt ?_; generalize (G : Int) = H at *)
   all_goals
    have hH : H ≠ 0 := by assumption
    refine j0f (γ := Nat) (fun k => [(1, .own 9 0), (2, .own 10 0), (4, .av (vi H)), (35, .av (vi k))]) (fun k => [(9, .vb (dvL d H k)), (10, .cells [.av (vi 0), .av (vi 0), .av (vi 0)])]) (fun k => k ≤ 3) (fun k => 3 - k) 0 (Nat.zero_le _) (ent xS xT) ?_
    intro k hk
    refine wt ?_
    (refine j0a rfl ?_ ?_ <;> intro hb <;> (try simp only [xA, xB, xG, xC, xD, xN] at hb) <;> (try exact xQ))
    ·rcases (by omega : k = 0 ∨ k = 1 ∨ k = 2) with rfl | rfl | rfl
     ·refine wt ?_
      repeat' (first
        |(refine v0M (v0p rfl rfl rfl rfl (show 0 < 3 by decide) rfl) ?_; refine wt ?_))
      exact j0b 1 xO xO (ent xS xT)
     ·refine wt ?_
      repeat' (first
        |(refine v0M (v0p rfl rfl rfl rfl (show 1 < 3 by decide) rfl) ?_; refine wt ?_))
      exact j0b 2 xO xO (ent xS xT)
     ·refine wt ?_
      repeat' (first
        |(refine v0M (v0p rfl rfl rfl rfl (show 2 < 3 by decide) rfl) ?_; refine wt ?_))
      exact j0b 3 xO xO (ent xS xT)
    ·obtain rfl : k = 3 := by omega
     refine wt ?_
     repeat' (first
       |(refine j0o (v0F rfl rfl rfl) rfl ?_; refine wt ?_))
     exact j0n (rvs := [_, _]) (τs := [_, _]) rfl rfl ⟨.agg (us := v3 (W1D d H)) rfl rfl rfl rfl, .tmp rfl, trivial⟩ rfl
end Go.Proofs.YtgblokifbgeegaaGreatDoor.H.S
namespace Go.Proofs.YtgblokifbgeegaaGreatDoor.H.S
open Go Go.Vc Go.RowKit H.G
set_option maxHeartbeats 8000000
theorem Q1N (s : List Int) (a : Int) (hn : s.length ≤ 100000) : CtrA Tryz.prog 202 [zs s, vi a] (vi (ixB (fun k => decide (a = gz s k)) s.length)) := by
 refine j0l _ Tryz.func202 rfl rfl Tryz.ntmps202 rfl fun w Z => ?_
 refine xU ?_
 refine wt ?_
 refine j0f (γ := Nat) (fun k => [(0, .av (zs s)), (1, .av (vi a)), (6, .av (zs s)), (7, .av (vi s.length)), (8, .av (vi k))]) (fun _ => []) (fun k => k ≤ s.length ∧ ∀ j, j < k → decide (a = gz s j) = false) (fun k => s.length - k) 0 ⟨Nat.zero_le _, by omega⟩ (ent xS trivial) ?_
 rintro k ⟨hk, hall⟩
 refine wt ?_
 (refine j0a rfl ?_ ?_ <;> intro hb <;> (try simp only [xA, xB, xG, xC, xD, xN] at hb) <;> (try exact xQ))
 ·have hkl : k < s.length := by omega
  refine wt ?_
  (refine j0a rfl ?_ ?_ <;> intro hb <;> (try simp only [xA, xB, xG, xC, xD, xN] at hb) <;> (try exact xQ))
  ·have e1 := Q0c (p := fun k => decide (a = gz s k)) hkl hall (decide_eq_true hb)
   refine wt ?_
   exact j0e rfl (.tmp rfl) (by rw [e1])
  ·refine wt ?_
   exact j0b (k + 1) ⟨by omega, Z0R (p := fun k => decide (a = gz s k)) hall (decide_eq_false hb)⟩ xO (ent xS trivial)
 ·have hkl : k = s.length := by omega
  subst hkl
  have e1 := v1b (p := fun k => decide (a = gz s k)) hall
  refine wt ?_
  exact j0e rfl (.tmp rfl) (by rw [e1])
theorem Q0T (s : List Int) (a : Int) (hn : s.length ≤ 100000) : CtrA Tryz.prog 179 [zs s, vi a] (vb (hasB s a)) := by
 refine j0l _ Tryz.func179 rfl rfl Tryz.ntmps179 rfl fun w Z => ?_
 have hi := Q1N s a hn
 refine xU ?_
 have hq1 := hi
 refine wt ?_
 exact j0e rfl (.tmp rfl) (congrArg vb (Y1e s a))
theorem Q1J (l : List Pt) (hs : Sml l) : CtrR Tryz.prog 230 [pts l] 3 1 (w0d l).length (xf (w0d l)) [vi (j1i l)] := by
 refine j1Y _ Tryz.func230 rfl rfl Tryz.ntmps230 rfl fun w Z => ?_
 refine xU ?_
 have hq3 := k0v l
 refine wt ?_
 (refine j0a rfl ?_ ?_ <;> intro hb <;> (try simp only [xA, xB, xG, xC, xD, xN] at hb) <;> (try exact xQ))
 ·have e1 : j1i l = chk l := by simp [j1i, hb]
  have e2 : w0d l = [] := by simp [w0d, e1, hb]
  rw [e1, e2]
  refine wt ?_
  exact x0r rfl rfl rfl (τs := [vi (chk l)]) ⟨.tmp rfl, trivial⟩ rfl
 ·have hn1 := hs hb
  have hb' := hb
  refine wt ?_
  (refine j0a rfl ?_ ?_ <;> intro hb <;> (try simp only [xA, xB, xG, xC, xD, xN] at hb) <;> (try exact xQ))
  ·have e1 : j1i l = 13 := by simp [j1i, hb', show l.length = 0 by omega]
   have e2 : w0d l = [] := by simp [w0d, e1]
   rw [e1, e2]
   refine wt ?_
   exact x0r rfl rfl rfl (τs := [vi 13]) ⟨.tmp rfl, trivial⟩ rfl
  ·have e1 : j1i l = 0 := by simp [j1i, hb', show l.length ≠ 0 by omega]
   have e2 : w0d l = arr l := by simp [w0d, e1]
   have ha := x1l l hn1
   rw [e1, e2]
   refine wt ?_
   repeat' (first
     |(refine j0u (w0x 40 (ha) rfl rfl) rfl ?_; refine wt ?_))
   exact W0v rfl rfl rfl rfl (fun _ _ _ _ => rfl) (τs := [vi 0]) ⟨.tmp rfl, trivial⟩ rfl
theorem y1x (l : List Tr) (n : Tr) (h : n ≠ tz) (hn : l.length ≤ 1000) : CtrR Tryz.prog 231 [ts l, tp n] 82 2 (shN l n).length (pf (shN l n)) [] := by
 refine j1Y _ Tryz.func231 rfl rfl Tryz.ntmps231 rfl fun w Z => ?_
 obtain ⟨hA, hA3⟩ := Y0j h
 have hix := k0e j2n (tl n) (show 3 ≤ 100000 by decide)
 rw [show ixB (fun k => decide (gz (tl n) k ≠ 0)) (tl n).length = ((axN n : Nat) : Int) from hA] at hix
 have hptr : ∀ i, i < 3 → (fun i => AV.val ([Go.Value.int .i64 n.x, .int .i64 n.y, .int .i64 n.z].getD i Go.undef)) i = (fun i => zf (tl n) i 0) i := fun i hi => by
  rcases (by omega : i = 0 ∨ i = 1 ∨ i = 2) with rfl | rfl | rfl <;> rfl
 unfold shN
 generalize axN n = ax at hA3 hix ⊢
 refine xU ?_
 have hq1 := hix
 refine wt ?_
 repeat' (first
   |(refine v0Z (Y0u (n := 3) 3 (f' := fun i => zf (tl n) i 0) rfl hptr) ?_; refine wt ?_)
   |(refine j0o (v0U rfl xE xE) rfl ?_; refine wt ?_))
 refine j0f (γ := Nat) (fun k => [(5, .av (vi ax)), (6, .osl 70), (12, .av (ts l)), (13, .av (vi l.length)), (14, .av (vi k))]) (fun k => [(70, .row 82 2 ((l.take k).map (shp ax)).length (pf ((l.take k).map (shp ax))))]) (fun k => k ≤ l.length) (fun k => l.length - k) 0 (Nat.zero_le _) (Ent.trans (v0B (dd := 6) 70 82 2 (pf []) rfl rfl) (ent xS xT)) ?_
 intro k hk
 refine wt ?_
 (refine j0a rfl ?_ ?_ <;> intro hb <;> (try simp only [xA, xB, xG, xC, xD, xN] at hb) <;> (try exact xQ))
 ·have hkl : k < l.length := by omega
  have ht := J0X hkl
  have hl1 : ((l.take k).map (shp ax)).length ≤ k := by rw [List.length_map, List.length_take]; omega
  have e1 : (l.take (k + 1)).map (shp ax) = (l.take k).map (shp ax) ++ [shp ax (gt l k)] := by rw [ht]; simp
  generalize (l.take k).map (shp ax) = X at hl1 e1 ⊢
  have hcl := J1Z (tl (gt l k)) (show 0 < 3 by decide) (show 3 ≤ 1000 by decide)
  have hdl := x1I (tl (gt l k)) ax (ax + 1) (show 3 ≤ 1000000 by decide) (show 0 < 3 by decide) xO (show ax + 1 ≤ 3 by omega)
  rw [show ((ax + 1 : Nat) : Int) = (ax : Int) + 1 from by omega, show (tl (gt l k)).length - (ax + 1 - ax) = 2 from by rw [show (tl (gt l k)).length = 3 from rfl]; omega] at hdl
  have hml : X.length + 1 ≤ maxLen := by simp only [maxLen]; omega
  refine wt ?_
  repeat' (first
    |(refine v0Z (v0O 8 10 (fun i => zf (tl (gt l k)) i 0) rfl rfl rfl) ?_; refine wt ?_)
    |(refine j0o (v0U (n := 3) rfl xE xE) rfl ?_; refine wt ?_)
    |(refine j0u (w0x 71 (hcl) rfl rfl) rfl ?_; refine wt ?_)
    |(refine j0u (v0A (hdl) rfl rfl rfl) rfl ?_; refine wt ?_)
    |(refine v0D (q0b (is := [0]) (xs := [_]) (vs := [_]) (us := [_, _]) (K1c _ _) rfl rfl rfl (Y1z (shp ax (gt l k)))) rfl ?_; refine wt ?_))
  refine q1i tm (by kernel_rfl) ?_
  refine wt ?_
  exact j0b (k + 1) (by omega) (by omega) (ent xS ⟨⟨_, rfl, by rw [e1]; exact .refl _⟩, trivial⟩)
 ·have hkl : k = l.length := by omega
  subst hkl
  rw [List.take_length]
  refine wt ?_
  exact w0s rfl rfl rfl rfl (fun _ _ _ _ => rfl)
theorem X0e (l : List Tr) (n : Tr) (h : n ≠ tz) (hn : l.length ≤ 7) : CtrR Tryz.prog 199 [ts l, tp n] 3 1 (w0d (shN l n)).length (xf (w0d (shN l n))) [vi (j1i (shN l n))] := by
 refine j1Y _ Tryz.func199 rfl rfl Tryz.ntmps199 rfl fun w Z => ?_
 have hsh := (y1x l n h xO).ro
 have hh := Q1J (shN l n) (fun _ => by rw [y0i]; omega)
 refine xU ?_
 have hq2 := hsh
 refine wt ?_
 repeat' (first
   |(refine j0u (y0a 40 (hh) rfl rfl) rfl ?_; refine wt ?_))
 exact W0v rfl rfl rfl rfl (fun _ _ _ _ => rfl) (τs := [vi _]) ⟨.tmp rfl, trivial⟩ rfl
theorem K0r (l : List Tr) (d : Tr) (hl : RT l) (hd : BT 1000000000000 d) (hn : l.length ≤ 1000) : CtrA Tryz.prog 198 [ts l, tp d] (.val (.agg #[.int .i64 ((j1k l d l.length : Nat) : Int), .int .i64 ((j1j l d l.length : Nat) : Int)])) := by
 refine j0l _ Tryz.func198 rfl rfl Tryz.ntmps198 rfl fun w Z => ?_
 refine xU ?_
 refine wt ?_
 refine j0f (γ := Nat) (fun k => [(0, .av (ts l)), (3, .av (bt d)), (4, .own 10 0), (5, .own 11 0), (8, .av (ts l)), (9, .av (vi l.length)), (10, .av (vi k))]) (fun k => [(10, .cells [.av (vi 0), .av (vi 0)]), (11, .cells [.av (vi (j1k l d k)), .av (vi (j1j l d k))])]) (fun k => k ≤ l.length) (fun k => l.length - k) 0 (Nat.zero_le _) (ent xS xT) ?_
 intro k hk
 refine wt ?_
 (refine j0a rfl ?_ ?_ <;> intro hb <;> (try simp only [xA, xB, xG, xC, xD, xN] at hb) <;> (try exact xQ))
 ·have hkl : k < l.length := by omega
  have h1 := q1u l d k l.length hk xO
  have h2 := q1t l d k l.length hk xO
  have e1 : j1k l d (k + 1) = if j0c d (gt l k) < j0c d (gt l (j1k l d k)) then k else j1k l d k := rfl
  have e2 : j1j l d (k + 1) = if j0c d (gt l (j1j l d k)) < j0c d (gt l k) then k else j1j l d k := rfl
  generalize j1k l d k = lo at h1 e1 ⊢
  generalize j1j l d k = hi at h2 e2 ⊢
  refine wt ?_
  repeat' (first
    |(refine v0D (X0o (K0p _ _ hd (hl _) xE) rfl) rfl ?_; refine wt ?_))
  (refine j0a rfl ?_ ?_ <;> intro hb <;> (try simp only [xA, xB, xG, xC, xD, xN] at hb) <;> (try exact xQ))
  ·rw [if_pos hb] at e1
   refine wt ?_
   repeat' (first
     |(refine v0D (X0o (K0p _ _ hd (hl _) xE) rfl) rfl ?_; refine wt ?_))
   (refine j0a rfl ?_ ?_ <;> intro hb <;> (try simp only [xA, xB, xG, xC, xD, xN] at hb) <;> (try exact xQ))
   ·rw [if_pos hb] at e2
    refine wt ?_
    exact j0b (k + 1) (by omega) (by omega) (ent xS ⟨⟨_, rfl, .refl _⟩, ⟨_, rfl, by rw [e1, e2]; exact .refl _⟩, trivial⟩)
   ·rw [if_neg hb] at e2
    refine wt ?_
    exact j0b (k + 1) (by omega) (by omega) (ent xS ⟨⟨_, rfl, .refl _⟩, ⟨_, rfl, by rw [e1, e2]; exact .refl _⟩, trivial⟩)
  ·rw [if_neg hb] at e1
   refine wt ?_
   repeat' (first
     |(refine v0D (X0o (K0p _ _ hd (hl _) xE) rfl) rfl ?_; refine wt ?_))
   (refine j0a rfl ?_ ?_ <;> intro hb <;> (try simp only [xA, xB, xG, xC, xD, xN] at hb) <;> (try exact xQ))
   ·rw [if_pos hb] at e2
    refine wt ?_
    exact j0b (k + 1) (by omega) (by omega) (ent xS ⟨⟨_, rfl, .refl _⟩, ⟨_, rfl, by rw [e1, e2]; exact .refl _⟩, trivial⟩)
   ·rw [if_neg hb] at e2
    refine wt ?_
    exact j0b (k + 1) (by omega) (by omega) (ent xS ⟨⟨_, rfl, .refl _⟩, ⟨_, rfl, by rw [e1, e2]; exact .refl _⟩, trivial⟩)
 ·have hkl : k = l.length := by omega
  subst hkl
  refine wt ?_
  exact j0e rfl (.agg (us := [_, _]) rfl rfl rfl rfl) rfl
theorem W1X (w : World) : (Instr.buildSlice 40 1 #[(0, .int .i64 0)]).run Tryz.prog w = .ok (.slice (some ⟨w.heap.size, 0, none⟩) 1 1) (w.alloc (.cells #[.int .i64 0] 3)) := by kernel_rfl
theorem j1a (l : List Tr) (L : List Fc) (τ : AV) (hl : RT l) (hn : l.length ≤ 7) (hτ : (spn l).dim ≠ -1 → (spn l).dim ≠ 0 → (spn l).dim ≠ 1 → (spn l).dim ≠ 2 → τ = .sl L.length 5 (ff L)) (hLn : L.length ≤ 1000) (hL : ∀ f ∈ L, f.n ≠ tz ∧ 0 < f.s.length ∧ f.s.length ≤ 7 ∧ ∀ i ∈ f.s, i < l.length) :
  CtrA Tryz.prog 178 [ts l, τ] (j0m [zs (y1K l L), vi 0]) := by
 refine j0l _ Tryz.func178 rfl rfl Tryz.ntmps178 rfl fun w Z => ?_
 have hsp := Q0w l hl xO
 have hok : SpOk (spn l) := SpOk.to hl l.length
 have hway := V1P (l := l)
 have hpos := V1O (l := l)
 have hv : y1K l L = Lib.compact (x0q (Y1I l L)) := rfl
 unfold Y1I at hv
 generalize spn l = s at hsp hok hway hpos hτ hv
 refine xU ?_
 have hq1 := hsp
 refine wt ?_
 (refine j0a rfl ?_ ?_ <;> intro hb <;> (try simp only [xA, xB, xG, xC, xD, xN] at hb) <;> (try exact xQ))
 ·rw [if_pos hb] at hv
  rw [hv]
  have hs := X0R 3 [] xE
  have hc := w0u 3 (x0q []) (by rw [q0D]; decide)
  rw [q0D] at hc
  refine X1e (v0B (dd := 6) 70 3 1 (zf []) rfl rfl) ?_
  refine wt ?_
  repeat' (first
    |(refine j0u (v0v (hs) rfl rfl rfl) rfl ?_; refine wt ?_)
    |(refine j0u (v0A (hc) rfl rfl rfl) rfl ?_; refine wt ?_))
  exact y0Y (j0S 70 rfl) (j0n (rvs := [_, _]) (τs := [_, _]) rfl rfl ⟨.tmp rfl, .tmp rfl, trivial⟩ rfl)
 rw [if_neg hb] at hv
 have hm1 := hb
 refine wt ?_
 (refine j0a rfl ?_ ?_ <;> intro hb <;> (try simp only [xA, xB, xG, xC, xD, xN] at hb) <;> (try exact xQ))
 ·rw [if_pos hb] at hv
  rw [hv]
  have hs := X0R 3 [0] xE
  have hc := w0u 3 (x0q [0]) (by rw [q0D]; decide)
  rw [q0D] at hc
  refine q0T ?_
  refine j0u (k1q (zf [0]) 70 W1X (fun _ _ => rfl) rfl) rfl ?_
  refine wt ?_
  repeat' (first
    |(refine j0u (v0v (hs) rfl rfl rfl) rfl ?_; refine wt ?_)
    |(refine j0u (v0A (hc) rfl rfl rfl) rfl ?_; refine wt ?_))
  exact y0Y (j0S 70 rfl) (j0n (rvs := [_, _]) (τs := [_, _]) rfl rfl ⟨.tmp rfl, .tmp rfl, trivial⟩ rfl)
 rw [if_neg hb] at hv
 have hm0 := hb
 refine wt ?_
 (refine j0a rfl ?_ ?_ <;> intro hb <;> (try simp only [xA, xB, xG, xC, xD, xN] at hb) <;> (try exact xQ))
 ·rw [if_pos hb] at hv
  rw [hv]
  have hw : BT 200000 s.way := by
   rcases hok.dim with e | e | e | e | e
   ·omega
   ·omega
   ·exact e.2
   ·omega
   ·omega
  have hx := K0r l s.way hl (hw.le xE) xO
  generalize j1k l s.way l.length = lo at hx ⊢
  generalize j1j l s.way l.length = hi at hx ⊢
  have hs := fun ety => X0R ety [(lo : Int), (hi : Int)] (show 2 ≤ 1000000 by decide)
  have hc := fun ety => w0u ety (x0q [(lo : Int), (hi : Int)]) (by rw [q0D]; exact (show 2 ≤ 1000000 by decide))
  simp only [q0D] at hc
  have hq2 := hx
  refine wt ?_
  refine W0e (f := fun i => zf [(lo : Int), (hi : Int)] i 0) rfl rfl rfl xE rfl (fun ety => ?_)
  have hs' := hs ety
  have hc' := hc ety
  refine wt ?_
  repeat' (first
    |(refine j0u (v0v (hs') rfl rfl rfl) rfl ?_; refine wt ?_)
    |(refine j0u (v0A (hc') rfl rfl rfl) rfl ?_; refine wt ?_))
  exact y0Y (j0S 11 rfl) (j0n (rvs := [_, _]) (τs := [_, _]) rfl rfl ⟨.tmp rfl, .tmp rfl, trivial⟩ rfl)
 rw [if_neg hb] at hv
 have hd1 := hb
 refine wt ?_
 (refine j0a rfl ?_ ?_ <;> intro hb <;> (try simp only [xA, xB, xG, xC, xD, xN] at hb) <;> (try exact xQ))
 ·rw [if_pos hb] at hv
  rw [hv]
  have hwy := hway xO
  have hc := X0e l s.way hwy hn
  rw [k0F hl hwy (hpos hm1) hn] at hc
  generalize hV : w0d (shN l s.way) = V at hc
  have hVl : V.length ≤ 14 := by have := X0t (shN l s.way); rw [y0i, hV] at this; omega
  have hs := X0R 3 (x0b V) (by simp; omega)
  have hcc := w0u 3 (x0q (x0b V)) (by rw [q0D]; simp; omega)
  rw [q0D] at hcc
  have hxz := xz V
  have hnl : V.length = (x0b V).length := by simp
  refine wt ?_
  repeat' (first
    |(refine j0u (y0a 40 (hc) rfl rfl) rfl ?_; refine wt ?_))
  refine v0Z (q1r (upd := [(40, .row 3 1 (x0b V).length (zf (x0b V)))]) ⟨⟨_, rfl, .row hnl hxz⟩, trivial⟩) ?_
  refine wt ?_
  repeat' (first
    |(refine j0u (v0v (hs) rfl rfl rfl) rfl ?_; refine wt ?_)
    |(refine j0u (v0A (hcc) rfl rfl rfl) rfl ?_; refine wt ?_))
  exact y0Y (j0S 40 rfl) (j0n (rvs := [_, _]) (τs := [_, _]) rfl rfl ⟨.tmp rfl, .tmp rfl, trivial⟩ rfl)
 ·rw [if_neg hb] at hv
  rw [hv]
  rw [hτ hm1 hm0 hd1 hb]
  have hlen := X0I l L (fun f hf => ⟨(hL f hf).1, (hL f hf).2.2.1⟩)
  refine wt ?_
  refine j0f (γ := Nat) (fun k => [(0, .av (ts l)), (6, .osl 70), (24, .av (.sl L.length 5 (ff L))), (25, .av (vi L.length)), (26, .av (vi k))]) (fun k => [(70, .row 3 1 (y0V l L k).length (zf (y0V l L k)))]) (fun k => k ≤ L.length) (fun k => L.length - k) 0 (Nat.zero_le _) (Ent.trans (v0B (dd := 6) 70 3 1 (zf []) rfl rfl) (ent xS xT)) ?_
  intro k hk
  refine wt ?_
  (refine j0a rfl ?_ ?_ <;> intro hb <;> (try simp only [xA, xB, xG, xC, xD, xN] at hb) <;> (try exact xQ))
  ·have hkl : k < L.length := by omega
   obtain ⟨f1, f2, f3, f4⟩ := hL (gf L k) (y0N hkl)
   have hr : y0V l L (k + 1) = y0V l L k ++ vf l (gf L k) := rfl
   have hrl := hlen k hk
   have hff : ∀ j, ff L k j = fcf (gf L k) j := fun _ => rfl
   have hv2 : vf l (gf L k) = (w0M l (gf L k)).map (fun i => ((gi (gf L k).s i : Nat) : Int)) := rfl
   rw [hv2] at hr
   generalize y0V l L k = X at hr hrl ⊢
   refine wt ?_
   repeat' (first
     |(refine j0o (v0n rfl rfl) rfl ?_; refine wt ?_)
     |(refine v0M (q0c rfl rfl (v0P (gf L k)) rfl rfl) ?_; refine wt ?_))
   refine j0f (γ := Nat) (fun j => [(0, .av (ts l)), (6, .osl 70), (12, .av (.ptr 5 (fcf (gf L k)))), (24, .av (.sl L.length 5 (ff L))), (25, .av (vi L.length)), (26, .av (vi k)), (13, .osl 71), (31, .av (.sl (gf L k).s.length 1 (xf (gf L k).s))), (32, .av (vi (gf L k).s.length)), (33, .av (vi j))]) (fun j => [(70, .row 3 1 X.length (zf X)), (71, .row 165 3 ((((gf L k).s.take j).map (gt l)).length) (tf (((gf L k).s.take j).map (gt l))))]) (fun j => j ≤ (gf L k).s.length) (fun j => (gf L k).s.length - j) 0 (Nat.zero_le _) (Ent.trans (v0O 12 10 (fcf (gf L k)) rfl rfl rfl) (Ent.trans (v0B (dd := 13) 71 165 3 (tf []) rfl rfl) (ent xS xT))) ?_
   intro j hj
   refine wt ?_
   (refine j0a rfl ?_ ?_ <;> intro hb <;> (try simp only [xA, xB, xG, xC, xD, xN] at hb) <;> (try exact xQ))
   ·have hjl : j < (gf L k).s.length := by omega
    have hix := f4 _ (q0Y hjl)
    have e1 : ((gf L k).s.take (j + 1)).map (gt l) = ((gf L k).s.take j).map (gt l) ++ [gt l (gi (gf L k).s j)] := by rw [Z0X hjl, List.map_append]; rfl
    have hl1 : (((gf L k).s.take j).map (gt l)).length ≤ j := by rw [List.length_map, List.length_take]; omega
    generalize ((gf L k).s.take j).map (gt l) = Y at e1 hl1 ⊢
    have hml : Y.length + 1 ≤ maxLen := by simp only [maxLen]; omega
    refine wt ?_
    repeat' (first
      |(refine j0o (q0b (is := [0]) (xs := [_]) (vs := [_]) (us := [_, _, _]) (Z1v _ _ _) rfl rfl rfl (w1F _)) rfl ?_; refine wt ?_)
      |(refine j0u (v0u (h := tf [gt l (gi (gf L k).s j)]) (m := 1) rfl rfl rfl (fun i _ j _ => w1E _ i j) xO hml xO) rfl ?_; refine wt ?_))
    exact j0b (j + 1) (by omega) (by omega) (ent xS ⟨⟨_, rfl, .refl _⟩, ⟨_, rfl, .row (by rw [e1]; simp) (fun i hi j hj => by rw [e1]; exact w1D _ _ i hi j hj)⟩, trivial⟩)
   ·have hjl : j = (gf L k).s.length := by omega
    subst hjl
    rw [List.take_length]
    have hp := RT.pick hl (gf L k).s
    have hcr := X0e ((gf L k).s.map (gt l)) (gf L k).n f1 (by rw [List.length_map]; exact f3)
    rw [k0F hp f1 (by rw [List.length_map]; exact f2) (by rw [List.length_map]; exact f3)] at hcr
    rw [show w0M l (gf L k) = w0d (shN ((gf L k).s.map (gt l)) (gf L k).n) from rfl] at hr
    have hVlt : ∀ x ∈ w0d (shN ((gf L k).s.map (gt l)) (gf L k).n), x < (gf L k).s.length := fun x hx => by have := y1a _ x hx; rwa [y0i, List.length_map] at this
    have hVl := X0d l (gf L k) f3
    rw [show w0M l (gf L k) = w0d (shN ((gf L k).s.map (gt l)) (gf L k).n) from rfl] at hVl
    generalize w0d (shN ((gf L k).s.map (gt l)) (gf L k).n) = V at hr hcr hVlt hVl
    refine wt ?_
    repeat' (first
      |(refine v0Z (j0S 71 rfl) ?_; refine wt ?_)
      |(refine j0u (y0a 72 (hcr) rfl rfl) rfl ?_; refine wt ?_))
    refine j0f (γ := Nat) (fun m => [(0, .av (ts l)), (6, .osl 70), (12, .av (.ptr 5 (fcf (gf L k)))), (24, .av (.sl L.length 5 (ff L))), (25, .av (vi L.length)), (26, .av (vi k)), (55, .av (.sl V.length 1 (xf V))), (56, .av (vi V.length)), (57, .av (vi m))]) (fun m => [(70, .row 3 1 (X ++ (V.take m).map (fun i => ((gi (gf L k).s i : Nat) : Int))).length (zf (X ++ (V.take m).map (fun i => ((gi (gf L k).s i : Nat) : Int)))))]) (fun m => m ≤ V.length) (fun m => V.length - m) 0 (Nat.zero_le _) (Ent.trans (j0S 72 rfl) (ent xS ⟨⟨_, rfl, by rw [List.take_zero, List.map_nil, List.append_nil]; exact .refl _⟩, trivial⟩)) ?_
    intro m hm
    refine wt ?_
    (refine j0a rfl ?_ ?_ <;> intro hb <;> (try simp only [xA, xB, xG, xC, xD, xN] at hb) <;> (try exact xQ))
    ·have hml : m < V.length := by omega
     have hix := hVlt _ (q0Y hml)
     have hff4 : gi V m < (gf L k).s.length := hix
     have e1 : (V.take (m + 1)).map (fun i => ((gi (gf L k).s i : Nat) : Int)) = (V.take m).map (fun i => ((gi (gf L k).s i : Nat) : Int)) ++ [((gi (gf L k).s (gi V m) : Nat) : Int)] := by rw [Z0X hml, List.map_append]; rfl
     have hl1 : ((V.take m).map (fun i => ((gi (gf L k).s i : Nat) : Int))).length ≤ m := by rw [List.length_map, List.length_take]; omega
     have e2 : X ++ (V.take (m + 1)).map (fun i => ((gi (gf L k).s i : Nat) : Int)) = (X ++ (V.take m).map (fun i => ((gi (gf L k).s i : Nat) : Int))) ++ [((gi (gf L k).s (gi V m) : Nat) : Int)] := by rw [e1, List.append_assoc]
     have hYl : (X ++ (V.take m).map (fun i => ((gi (gf L k).s i : Nat) : Int))).length ≤ 14 * k + m := by rw [List.length_append]; omega
     generalize X ++ (V.take m).map (fun i => ((gi (gf L k).s i : Nat) : Int)) = Y at hYl e2 ⊢
     have hmx : Y.length + 1 ≤ maxLen := by simp only [maxLen]; omega
     refine wt ?_
     repeat' (first
       |(refine j0u (v0u (h := xf [gi (gf L k).s (gi V m)]) (m := 1) rfl rfl rfl (fun i _ j _ => rfl) xO hmx xO) rfl ?_; refine wt ?_))
     exact j0b (m + 1) (by omega) (by omega) (ent xS ⟨⟨_, rfl, .row (by rw [e2]; simp) (fun i hi j hj => by rw [e2]; exact Z1R _ _ i hi j hj)⟩, trivial⟩)
    ·have hml : m = V.length := by omega
     subst hml
     rw [List.take_length]
     refine wt ?_
     exact j0b (k + 1) (by omega) (by omega) (ent xS ⟨⟨_, rfl, by rw [hr]; exact .refl _⟩, trivial⟩)
  ·have hkl : k = L.length := by omega
   subst hkl
   have hlL := hlen L.length (Nat.le_refl _)
   have hs := X0R 3 (y0V l L L.length) xO
   have hc := w0u 3 (x0q (y0V l L L.length)) (by rw [q0D]; omega)
   rw [q0D] at hc
   refine wt ?_
   repeat' (first
     |(refine j0u (v0v (hs) rfl rfl rfl) rfl ?_; refine wt ?_)
     |(refine j0u (v0A (hc) rfl rfl rfl) rfl ?_; refine wt ?_))
   exact y0Y (j0S 70 rfl) (j0n (rvs := [_, _]) (τs := [_, _]) rfl rfl ⟨.tmp rfl, .tmp rfl, trivial⟩ rfl)
theorem X1n (l : List Tr) (hf : few l) : CtrA Tryz.prog 94 [ts l] (j0m [vi (if q0B l = 0 then (spn l).dim else 0), vi (q0B l)]) := by
 refine j0l _ Tryz.func94 rfl rfl Tryz.ntmps94 rfl fun w Z => ?_
 have hc := x0I l
 by_cases h : q0B l = 0
 ·rw [if_pos h]
  rw [h] at hc ⊢
  obtain ⟨hl, hn⟩ := hf.le h
  have hv := (Y0e l xO).ro
  have hs := Q0w l hl xO
  generalize spn l = s at hs ⊢
  refine xU ?_
  have hq1 := hc
  have hq2 := hv
  have hq3 := hs
  refine wt ?_
  repeat' (first
    |(refine j0o (Z0V (us := [_, _, _, _, _, _, _]) rfl (w1n s)) rfl ?_; refine wt ?_))
  exact xW
 ·rw [if_neg h]
  generalize q0B l = e at h hc ⊢
  refine xU ?_
  have hq4 := hc
  refine wt ?_
  (refine j0a rfl ?_ ?_ <;> intro hb <;> (try simp only [xA, xB, xG, xC, xD, xN] at hb) <;> (try exact xQ))
  refine wt ?_
  exact xW
theorem j1b (l : List Tr) (hl : RT l) (hn : l.length ≤ 7) : CtrA Tryz.prog 178 [ts l, J1d l] (j0m [zs (y1K l (j0i l)), vi 0]) :=
 j1a l (j0i l) (J1d l) hl hn (fun h1 h2 h3 h4 => by
  have := y0y hl
  unfold J1d
  rw [if_neg (by omega)]) (z0l l hn) (y0B hn)
theorem j2b (x y : Operand) (a : Addr) (n c : Nat) (w : World) : (eqGuard .eql 173 x y (.slice (some a) n c) (.slice none 0 0)).run Tryz.prog w = .ok () w := by kernel_rfl
theorem j2h (a : Addr) (n c : Nat) (w : World) : (binOp .eql 173 (.slice (some a) n c) (.slice none 0 0)).run Tryz.prog w = .ok (.bool false) w := by kernel_rfl
theorem Q1p (l : List Tr) (L : List Fc) (V : List Int) (hs : CtrA Tryz.prog 175 [ts l] (j0m [ts l, fs L, vi 0])) (h0 : 0 < L.length) (hLn : L.length ≤ 1000) (hL : ∀ f ∈ L, f.s.length ≤ 7)
  (hv : CtrA Tryz.prog 178 [ts l, fs L] (j0m [zs V, vi 0])) (hV : V.length ≤ 14000) : CtrA Tryz.prog 137 [ts l] (j0m [es (X1w L V), vi 0]) := by
 refine j0l _ Tryz.func137 rfl rfl Tryz.ntmps137 rfl fun w Z => ?_
 have hlen := Y0t L V hV
 refine xU ?_
 have hq1 := hs
 have hq2 := hv
 refine wt ?_
 repeat' (first
   |(refine j0o (z0p (fun a n c w => j2b _ _ a n c w) (fun a n c w => j2h a n c w) rfl rfl h0) rfl ?_; refine wt ?_))
 refine j0f (γ := Nat) (fun k => [(5, .av (fs L)), (7, .av (zs V)), (8, .osl 70), (36, .av (zs V)), (37, .av (vi V.length)), (38, .av (vi k))]) (fun k => [(70, .row 73 2 (eTo L V k).length (ef (eTo L V k)))]) (fun k => k ≤ V.length) (fun k => V.length - k) 0 (Nat.zero_le _) (Ent.trans (v0B (dd := 8) 70 73 2 (ef []) rfl rfl) (ent xS xT)) ?_
 intro k hk
 refine wt ?_
 (refine j0a rfl ?_ ?_ <;> intro hb <;> (try simp only [xA, xB, xG, xC, xD, xN] at hb) <;> (try exact xQ))
 ·have hkl : k < V.length := by omega
  have e0 : eTo L V (k + 1) = eTo L V k ++ eM L V k (V.length - (k + 1)) := rfl
  have hk1 := hlen k
  generalize eTo L V k = X at e0 hk1 ⊢
  have hml := q1n L V k
  refine wt ?_
  repeat' (first
    |(refine j0o (x0j (lo := some (.tmp 45)) (hi := none) (l := k + 1) (h := V.length) rfl ⟨_, _, rfl, xO⟩ rfl xO xO) rfl ?_; refine wt ?_))
  refine j0f (γ := Nat) (fun m => [(5, .av (fs L)), (7, .av (zs V)), (8, .osl 70), (36, .av (zs V)), (37, .av (vi V.length)), (38, .av (vi k)), (10, .av (vi (gz V k))), (46, .av (.sl (V.length - (k + 1)) 1 (fun i => zf V (k + 1 + i)))), (47, .av (vi ((V.length - (k + 1) : Nat) : Int))), (48, .av (vi m))]) (fun m => [(70, .row 73 2 (X ++ eM L V k m).length (ef (X ++ eM L V k m)))]) (fun m => m ≤ V.length - (k + 1)) (fun m => V.length - (k + 1) - m) 0 (Nat.zero_le _) (ent xS ⟨⟨_, rfl, by rw [show eM L V k 0 = [] from rfl, List.append_nil]; exact .refl _⟩, trivial⟩) ?_
  intro m hm
  refine wt ?_
  (refine j0a rfl ?_ ?_ <;> intro hb <;> (try simp only [xA, xB, xG, xC, xD, xN] at hb) <;> (try exact xQ))
  ·have hmm : m < V.length - (k + 1) := by omega
   have e1 : eM L V k (m + 1) = eM L V k m ++ if 2 ≤ cnt L (gz V k) (gz V (k + 1 + m)) L.length then [(gz V k, gz V (k + 1 + m))] else [] := rfl
   have e2 : X ++ eM L V k (m + 1) = (X ++ eM L V k m) ++ if 2 ≤ cnt L (gz V k) (gz V (k + 1 + m)) L.length then [(gz V k, gz V (k + 1 + m))] else [] := by rw [e1, List.append_assoc]
   have hYl : (X ++ eM L V k m).length ≤ 14000 * k + 14000 := by rw [List.length_append]; have := hml m; omega
   generalize X ++ eM L V k m = Y at e2 hYl ⊢
   refine wt ?_
   refine j0f (γ := Nat) (fun q => [(5, .av (fs L)), (7, .av (zs V)), (8, .osl 70), (36, .av (zs V)), (37, .av (vi V.length)), (38, .av (vi k)), (10, .av (vi (gz V k))), (46, .av (.sl (V.length - (k + 1)) 1 (fun i => zf V (k + 1 + i)))), (47, .av (vi ((V.length - (k + 1) : Nat) : Int))), (48, .av (vi m)), (12, .av (vi (gz V (k + 1 + m)))), (13, .av (vi (cnt L (gz V k) (gz V (k + 1 + m)) q))), (52, .av (fs L)), (53, .av (vi L.length)), (54, .av (vi q))]) (fun q => [(70, .row 73 2 Y.length (ef Y))]) (fun q => q ≤ L.length) (fun q => L.length - q) 0 (Nat.zero_le _) (ent xS xT) ?_
   intro q hq
   have hql := z1h L (gz V k) (gz V (k + 1 + m)) q
   refine wt ?_
   (refine j0a rfl ?_ ?_ <;> intro hb <;> (try simp only [xA, xB, xG, xC, xD, xN] at hb) <;> (try exact xQ))
   ·have hqq : q < L.length := by omega
    have e3 : cnt L (gz V k) (gz V (k + 1 + m)) (q + 1) = cnt L (gz V k) (gz V (k + 1 + m)) q + if (hasB (x0b (gf L q).s) (gz V k) && hasB (x0b (gf L q).s) (gz V (k + 1 + m))) = true then 1 else 0 := rfl
    have hf6 := hL _ (y0N hqq)
    have hc1 := Q0T (x0b (gf L q).s) (gz V k) (by simp; omega)
    have hc2 := Q0T (x0b (gf L q).s) (gz V (k + 1 + m)) (by simp; omega)
    rw [show zs (x0b (gf L q).s) = .sl (gf L q).s.length 1 (xf (gf L q).s) from by rw [W1x, zs, List.length_map]] at hc1 hc2
    generalize hasB (x0b (gf L q).s) (gz V k) = b1 at e3 hc1
    generalize hasB (x0b (gf L q).s) (gz V (k + 1 + m)) = b2 at e3 hc2
    generalize cnt L (gz V k) (gz V (k + 1 + m)) q = c at e3 hql ⊢
    have hfin : ∀ c' : Nat, c' = cnt L (gz V k) (gz V (k + 1 + m)) (q + 1) → (c' : Int) = ((cnt L (gz V k) (gz V (k + 1 + m)) (q + 1) : Nat) : Int) := fun _ h => by rw [h]
    cases b1 <;> cases b2
    ·have hq3 := hc1
     have hq4 := hc2
     refine wt ?_
     repeat' (first
       |(refine j0o (v0n rfl rfl) rfl ?_; refine wt ?_)
       |(refine v0M (q0c rfl rfl (v0P (gf L q)) rfl rfl) ?_; refine wt ?_))
     exact j0b (q + 1) (by omega) (by omega) (ent ⟨.refl _, .refl _, .refl _, .refl _, .refl _, .refl _, .refl _, .refl _, .refl _, .refl _, .refl _, .int (hfin _ (by rw [e3]; rfl)), .refl _, .refl _, .int (by omega), trivial⟩ xT)
    ·have hq5 := hc1
     have hq6 := hc2
     refine wt ?_
     repeat' (first
       |(refine j0o (v0n rfl rfl) rfl ?_; refine wt ?_)
       |(refine v0M (q0c rfl rfl (v0P (gf L q)) rfl rfl) ?_; refine wt ?_))
     exact j0b (q + 1) (by omega) (by omega) (ent ⟨.refl _, .refl _, .refl _, .refl _, .refl _, .refl _, .refl _, .refl _, .refl _, .refl _, .refl _, .int (hfin _ (by rw [e3]; rfl)), .refl _, .refl _, .int (by omega), trivial⟩ xT)
    ·have hq7 := hc1
     have hq8 := hc2
     refine wt ?_
     repeat' (first
       |(refine j0o (v0n rfl rfl) rfl ?_; refine wt ?_)
       |(refine v0M (q0c rfl rfl (v0P (gf L q)) rfl rfl) ?_; refine wt ?_))
     exact j0b (q + 1) (by omega) (by omega) (ent ⟨.refl _, .refl _, .refl _, .refl _, .refl _, .refl _, .refl _, .refl _, .refl _, .refl _, .refl _, .int (hfin _ (by rw [e3]; rfl)), .refl _, .refl _, .int (by omega), trivial⟩ xT)
    ·have hq9 := hc1
     have hq10 := hc2
     refine wt ?_
     repeat' (first
       |(refine j0o (v0n rfl rfl) rfl ?_; refine wt ?_)
       |(refine v0M (q0c rfl rfl (v0P (gf L q)) rfl rfl) ?_; refine wt ?_))
     exact j0b (q + 1) (by omega) (by omega) (ent ⟨.refl _, .refl _, .refl _, .refl _, .refl _, .refl _, .refl _, .refl _, .refl _, .refl _, .refl _, .int (by have := hfin (c + 1) (by rw [e3]; rfl); omega), .refl _, .refl _, .int (by omega), trivial⟩ xT)
   ·have hqq : q = L.length := by omega
    subst hqq
    generalize cnt L (gz V k) (gz V (k + 1 + m)) L.length = c at e2 hql ⊢
    have hmx : Y.length + 1 ≤ maxLen := by simp only [maxLen]; omega
    refine wt ?_
    (refine j0a rfl ?_ ?_ <;> intro hb <;> (try simp only [xA, xB, xG, xC, xD, xN] at hb) <;> (try exact xQ))
    ·rw [if_pos (by omega)] at e2
     refine wt ?_
     repeat' (first
       |(refine j0o (j0k (t := 73) (is := [0, 1]) (xs := [_, _]) (vs := [_, _]) (j2x _ _) rfl rfl) rfl ?_; refine wt ?_)
       |(refine j0o (q0b (is := [0]) (xs := [_]) (vs := [_]) (us := [_, _]) (K1b _ _) rfl rfl rfl (X1z _ _)) rfl ?_; refine wt ?_)
       |(refine j0u (v0u (h := ef [(gz V k, gz V (k + 1 + m))]) (m := 1) rfl rfl rfl (fun i _ j _ => X1y _ i j) xO hmx xO) rfl ?_; refine wt ?_))
     exact j0b (m + 1) (by omega) (by omega) (ent xS ⟨⟨_, rfl, .row (by rw [e2]; simp) (fun i hi j hj => by rw [e2]; exact X1x _ _ i hi j hj)⟩, trivial⟩)
    ·rw [if_neg (by omega), List.append_nil] at e2
     refine wt ?_
     exact j0b (m + 1) (by omega) (by omega) (ent xS ⟨⟨_, rfl, by rw [e2]; exact .refl _⟩, trivial⟩)
  ·have hmm : m = V.length - (k + 1) := by omega
   subst hmm
   refine wt ?_
   exact j0b (k + 1) (by omega) (by omega) (ent xS ⟨⟨_, rfl, by rw [e0]; exact .refl _⟩, trivial⟩)
 ·have hkl : k = V.length := by omega
  subst hkl
  refine wt ?_
  exact y0Y (j0S 70 rfl) (j0n (rvs := [_, _]) (τs := [_, _]) rfl rfl ⟨.tmp rfl, .tmp rfl, trivial⟩ rfl)
end Go.Proofs.YtgblokifbgeegaaGreatDoor.H.S
namespace Go.Proofs.YtgblokifbgeegaaGreatDoor.H.S
open Go Go.Vc Go.RowKit Go.Na Go.Lib
set_option maxHeartbeats 8000000
theorem X1c (x y : Int) : CtrA Tryz.prog 132 [vi x, vi y] (vi (Lib.compareInt x y)) := by
 refine z0B (us := [.int .i64 x, .int .i64 y]) (j0K Tryz.func132 rfl rfl) (fun Z w _ => (Tryz.cmp_Compare_int x y w).mono ?_) (fun Z w => rfl)
 rintro e w' ⟨rfl, rfl⟩
 exact ⟨rfl, Below.refl _ _⟩
theorem X1a (a b : Tr) : CtrA Tryz.prog 96 [.sl 3 1 (fun i _ => vi (co a i)), .sl 3 1 (fun i _ => vi (co b i))] (vi (x1c a b)) := by
 refine j0l _ Tryz.func96 rfl rfl Tryz.ntmps96 rfl fun w Z => ?_
 refine xU ?_
 refine wt ?_
 refine j0f (γ := Nat) (fun k => [(0, .av (.sl 3 1 (fun i _ => vi (co a i)))), (1, .av (.sl 3 1 (fun i _ => vi (co b i)))), (9, .av (.sl 3 1 (fun i _ => vi (co a i)))), (10, .av (vi 3)), (11, .av (vi k))]) (fun k => []) (fun k => k ≤ 3 ∧ x1w a b k = x1c a b) (fun k => 3 - k) 0 ⟨Nat.zero_le _, rfl⟩ (ent xS trivial) ?_
 rintro k ⟨hk, hc⟩
 refine wt ?_
 (refine j0a rfl ?_ ?_ <;> intro hb <;> (try simp only [xA, xB, xG, xC, xD, xN] at hb) <;> (try exact xQ))
 ·have hk3 : k < 3 := by omega
  have hf := Z0v (a := a) (b := b) hk3
  have h1 := X1c (co a k) (co b k)
  refine wt ?_
  (refine j0a rfl ?_ ?_ <;> intro hb <;> (try simp only [xA, xB, xG, xC, xD, xN] at hb) <;> (try exact xQ))
  refine wt ?_
  (refine j0a rfl ?_ ?_ <;> intro hb <;> (try simp only [xA, xB, xG, xC, xD, xN] at hb) <;> (try exact xQ))
  ·rw [if_pos hb] at hf
   refine wt ?_
   exact j0e rfl (.tmp rfl) (congrArg vi (by rw [← hc, hf]))
  ·rw [if_neg (by simpa using hb)] at hf
   refine wt ?_
   exact j0b (k + 1) ⟨by omega, by rw [← hf]; exact hc⟩ (by omega) (ent xS trivial)
 ·obtain rfl : k = 3 := by omega
  refine wt ?_
  exact j0e rfl (.tmp rfl) (congrArg vi hc)
def x0h (l : List Tr) : Int := if q0B l = 0 then (if (spn l).dim < 2 then 14 else 0) else q0B l
theorem y1V (l : List Tr) (hf : few l) : CtrA Tryz.prog 54 [ts l] (vi (x0h l)) := by
 refine j0l _ Tryz.func54 rfl rfl Tryz.ntmps54 rfl fun w Z => ?_
 have hd := X1n l hf
 unfold x0h
 by_cases h : q0B l = 0
 ·rw [if_pos h, h] at hd
  rw [if_pos h]
  generalize (spn l).dim = n at hd ⊢
  refine xU ?_
  refine wt ?_
  (refine j0a rfl ?_ ?_ <;> intro hb <;> (try simp only [xA, xB, xG, xC, xD, xN] at hb) <;> (try exact xQ))
  ·rw [if_pos hb]
   refine wt ?_
   exact xV
  ·rw [if_neg hb]
   refine wt ?_
   exact xV
 ·rw [if_neg h] at hd
  rw [if_neg h]
  generalize q0B l = e at h hd ⊢
  refine xU ?_
  refine wt ?_
  (refine j0a rfl ?_ ?_ <;> intro hb <;> (try simp only [xA, xB, xG, xC, xD, xN] at hb) <;> (try exact xQ))
  refine wt ?_
  exact xV
def crN (n : Tr) : Tr := if n = tz then n else q0E n
theorem K0b (a b c d : Tr) (ha : BT 100000 a) (hb' : BT 100000 b) (hc : BT 100000 c) (hd : BT 100000 d) : CtrA Tryz.prog 135 [tp a, tp b, tp c, tp d] (j0m [tp (crN (tcr (j0D b a) (j0D d c))), vb (decide (tcr (j0D b a) (j0D d c) ≠ tz))]) := by
 refine j0l _ Tryz.func135 rfl rfl Tryz.ntmps135 rfl fun w Z => ?_
 have hu := hb'.sub ha
 have hv := hd.sub hc
 have hn := (hu.cr hv).le (show (2 * ((100000 + 100000) * (100000 + 100000)) : Int) ≤ 1000000000000 by decide)
 have hp := x1a _ hn
 have m1 : Bn ((100000 + 100000) * (100000 + 100000)) ((b.y - a.y) * (d.z - c.z)) := j0G hu.y hv.z
 have m2 : Bn ((100000 + 100000) * (100000 + 100000)) ((b.z - a.z) * (d.y - c.y)) := j0G hu.z hv.y
 have m3 : Bn ((100000 + 100000) * (100000 + 100000)) ((b.z - a.z) * (d.x - c.x)) := j0G hu.z hv.x
 have m4 : Bn ((100000 + 100000) * (100000 + 100000)) ((b.x - a.x) * (d.z - c.z)) := j0G hu.x hv.z
 have m5 : Bn ((100000 + 100000) * (100000 + 100000)) ((b.x - a.x) * (d.y - c.y)) := j0G hu.x hv.y
 have m6 : Bn ((100000 + 100000) * (100000 + 100000)) ((b.y - a.y) * (d.x - c.x)) := j0G hu.y hv.x
 obtain ⟨_, _⟩ := m1
 obtain ⟨_, _⟩ := m2
 obtain ⟨_, _⟩ := m3
 obtain ⟨_, _⟩ := m4
 obtain ⟨_, _⟩ := m5
 obtain ⟨_, _⟩ := m6
 obtain ⟨⟨_, _⟩, ⟨_, _⟩, ⟨_, _⟩⟩ := ha
 obtain ⟨⟨_, _⟩, ⟨_, _⟩, ⟨_, _⟩⟩ := hb'
 obtain ⟨⟨_, _⟩, ⟨_, _⟩, ⟨_, _⟩⟩ := hc
 obtain ⟨⟨_, _⟩, ⟨_, _⟩, ⟨_, _⟩⟩ := hd
 refine xU ?_
 refine wt ?_
 exact j0n (rvs := [_, _]) (τs := [_, _]) rfl rfl ⟨.agg (us := v3 (crN (tcr (j0D b a) (j0D d c)))) rfl rfl rfl rfl, .tmp rfl, trivial⟩ rfl
def V3 (x : Value) : Prop := ∃ d : Tr, x = .agg #[.int .i64 d.x, .int .i64 d.y, .int .i64 d.z] ∧ d ≠ tz ∧ BT 80000000000 d
theorem W1g {d : Tr} (hn : d ≠ tz) (hB : BT 80000000000 d) (Z : j0p) (w : World) (v : Value) (h : AV.ok Z w (tp d) v) : V3 v := ⟨d, h, hn, hB⟩
theorem z1k {n : Tr} (h : n ≠ tz) : crN n = q0E n := by unfold crN; rw [if_neg h]
theorem X1I {l : List Tr} (hl : RT l) {f : Fc} (h : f ∈ j0i l) : BT 1000000000000 f.n := by
 obtain ⟨a, b, c, h1⟩ := V0s (w0y h)
 rw [h1.ev]
 exact (W1Y (hl a) (hl b) (hl c)).pr.le xE
theorem Q1o {l : List Tr} (s : S3 l) {i : Nat} (h : i < (Q0I l).length) : ∃ u v : Nat, (Q0I l).getD i (0, 0) = ((u : Int), (v : Int)) ∧ u < l.length ∧ v < l.length := by
 have hm : (Q0I l).getD i (0, 0) ∈ Q0I l := by simp [List.getD, h]
 generalize (Q0I l).getD i (0, 0) = x at hm
 unfold Q0I at hm
 rw [V0Q] at hm
 obtain ⟨a, b, ha, hb, _, rfl, _⟩ := W0l _ _ (x1j l) hm
 exact ⟨a, b, rfl, (s.vxm ha).lt, (s.vxm hb).lt⟩
theorem x1M (l : List Tr) : (j1h l).length = (Q0I l).length := by unfold j1h; simp
theorem Q1m {l : List Tr} {i u v : Nat} (h : i < (Q0I l).length) (e : (Q0I l).getD i (0, 0) = ((u : Int), (v : Int))) : gt (j1h l) i = dv l u v := by
 have e' : (Q0I l)[i] = ((u : Int), (v : Int)) := by rw [← e]; simp [List.getD, h]
 unfold gt j1h
 simp [List.getD, h, e']
theorem k1o {l : List Tr} {i u v : Nat} (e : (Q0I l).getD i (0, 0) = ((u : Int), (v : Int))) : (List.range 2).map (fun j => ef (Q0I l) i j) = [Value.int .i64 u, .int .i64 v].map AV.val := by
 show [vi ((Q0I l).getD i (0, 0)).1, vi ((Q0I l).getD i (0, 0)).2] = _
 rw [e]; rfl
theorem j1W {g : List Tr} {i k : Nat} (hi : i < g.length) (hk : k < i) : cI g i ++ cK g i (k + 1) <+: j0O g := by
 have h1 : cK g i (k + 1) <+: cK g i i := w0W (f := cK g i) (fun k => x0W g i k) xO
 have h2 : cI g (i + 1) <+: cI g g.length := w0W (f := cI g) (fun n => w0K g n) xO
 rw [Q0R] at h2
 rw [w0K] at h2
 exact ((List.prefix_append_right_inj _).2 h1).trans h2
theorem x1P (l : List Tr) (s : S3 l) (h : q0B l = 0) : CtrA Tryz.prog 137 [ts l] (j0m [es (Q0I l), vi 0]) := by
 have d3 := (q0U l).2 s.hS
 have hs := w1m l (.inl s.h6) h
 have hv := j1b l s.hl s.h6
 have hA : J1d l = fs (j0i l) := by unfold J1d; rw [if_neg (by omega)]
 rw [hA] at hs hv
 rw [s.vert] at hv
 have hlen : (x0b (VL l)).length ≤ 7 := by
  rw [List.length_map]
  have := List.length_filter_le (fun i => (j0i l).any fun f => (vfN l f).contains i) (List.range l.length)
  rw [List.length_range] at this
  have h6 := s.h6
  unfold VL; omega
 exact Q1p l (j0i l) (x0b (VL l)) hs (z0m s.hl d3) (z0l l s.h6) (fun f hf => (y0B s.h6 f hf).2.2.1) hv xO
theorem x1N {l : List Tr} (h7 : l.length ≤ 7) : (Q0I l).length ≤ 1000000 := by
 have hlen : (x0b (VL l)).length ≤ 7 := by
  rw [List.length_map]
  have := List.length_filter_le (fun i => (j0i l).any fun f => (vfN l f).contains i) (List.range l.length)
  rw [List.length_range] at this
  unfold VL; omega
 have := Y0t (j0i l) (x0b (VL l)) xO (x0b (VL l)).length
 unfold Q0I X1w
 omega
theorem x1K (l : List Tr) (hd : (spn l).dim = 3) (h : q0B l = 0) (h7 : l.length ≤ 7) (hw : Q0H l) : CtrM Tryz.prog 133 [lt l] V3 ((x0N l).map tp) := by
 have hl : RT l := (RT.of h).1
 have hl0 : 0 < l.length := by obtain ⟨a, _, _, ha, _⟩ := hw; omega
 have hfc := z1t l (.inl h7) (fun _ h3 => z0m hl (by have := y0y hl; omega))
 refine k1k _ Tryz.func133 rfl rfl Tryz.ntmps133 rfl fun y J Y w Z S => ?_
 have e1 : Q1s l = 0 := by unfold Q1s; rw [if_pos h, if_neg (by omega)]
 have e2 : X1H l = j0i l := by unfold X1H; rw [if_pos h, if_neg (by omega)]
 have s : S3 l := ⟨hl, h7, (q0U l).1 hd⟩
 have hD : x0N l = (j0i l).map (fun f => q0E f.n) ++ j0O (j1h l) := by unfold x0N X1o; rw [if_pos hd]
 have hgap := y0v (V0i hl)
 have hFB : ∀ f ∈ j0i l, q0E f.n ≠ tz ∧ BT 80000000000 (q0E f.n) ∧ f.n ≠ tz ∧ BT 1000000000000 f.n := fun f hf => by
  have hn := (y0B h7 f hf).1
  exact ⟨q0z hn, hgap _ (y0A s.hS hf), hn, X1I hl hf⟩
 have hed := x1P l s h
 have hLl := z0l l h7
 have hat := fun i hi => Q1o s (i := i) hi
 have hgt := fun i u v hi e => Q1m (l := l) (i := i) (u := u) (v := v) hi e
 have hga := fun i u v e => k1o (l := l) (i := i) (u := u) (v := v) e
 have hgl := x1M l
 have hEl := x1N h7
 rw [e1, e2] at hfc
 generalize j0i l = L at hfc hD hFB hLl
 generalize Q0I l = EE at hed hat hgt hga hgl hEl
 generalize j1h l = G at hD hgt hgl
 refine xU ?_
 refine wt ?_
 refine w0e Y (γ := Nat) (fun k => [(0, .av (yv y)), (1, .av (lt l)), (61, .av (fs L)), (62, .av (vi L.length)), (63, .av (vi k))]) (fun k => k) (fun k => k ≤ L.length) (fun k => L.length - k) 0 S (Nat.zero_le _) (ent xS trivial) ?_
 intro k hk w Z S
 refine wt ?_
 (refine j0a rfl ?_ ?_ <;> intro hb <;> (try simp only [xA, xB, xG, xC, xD, xN] at hb) <;> (try exact xQ))
 ·have hkl : k < L.length := by omega
  obtain ⟨f1, f2, f3, f4⟩ := hFB (gf L k) (y0N hkl)
  have hp := x1a (gf L k).n f4
  rw [if_neg f3, decide_eq_true f3] at hp
  have hm : ((x0N l).map tp)[k]? = some (tp (q0E (gf L k).n)) := by
   rw [hD, List.getElem?_map, List.getElem?_append_left (by simpa using hkl), List.getElem?_map]
   simp [gf, List.getD, hkl]
  refine wt ?_
  repeat' (first
    |(refine j0o (v0n rfl rfl) rfl ?_; refine wt ?_)
    |(refine v0M (q0c rfl rfl (v0P (gf L k)) rfl rfl) ?_; refine wt ?_))
  refine v0Z x0A ?_
  refine x0s Y S (τ := tp (q0E (gf L k).n)) hm (W1g f1 f2) rfl rfl rfl rfl rfl (fun w' Z' S' => ?_)
  refine wt ?_
  exact q0w Y (g := k) (k + 1) S' xO xO (ent xS trivial)
 ·have hkl : k = L.length := by omega
  subst hkl
  refine wt ?_
  refine w0e Y (γ := Nat) (fun i => [(0, .av (yv y)), (1, .av (lt l)), (13, .av (es EE)), (86, .av (es EE)), (87, .av (vi EE.length)), (88, .av (vi i))]) (fun i => L.length + (cI G i).length) (fun i => i ≤ EE.length) (fun i => EE.length - i) 0 S (Nat.zero_le _) (ent xS trivial) ?_
  intro i hi w Z S
  refine wt ?_
  (refine j0a rfl ?_ ?_ <;> intro hb <;> (try simp only [xA, xB, xG, xC, xD, xN] at hb) <;> (try exact xQ))
  ·have hil : i < EE.length := by omega
   obtain ⟨u, v, e3, hu, hv⟩ := hat i hil
   have hga1 := hga i u v e3
   have hg1 := hgt i u v hil e3
   have q1 : (EE.getD i (0, 0)).fst = (u : Int) := by rw [e3]
   have q2 : (EE.getD i (0, 0)).snd = (v : Int) := by rw [e3]
   refine wt ?_
   rw [q1, q2]
   refine j0o (x0j (lo := none) (hi := some (.tmp 94)) (l := 0) (h := i) rfl rfl ⟨_, _, rfl, rfl⟩ xO xO) rfl ?_
   refine wt ?_
   refine w0e Y (γ := Nat) (fun k => [(0, .av (yv y)), (1, .av (lt l)), (13, .av (es EE)), (86, .av (es EE)), (87, .av (vi EE.length)), (88, .av (vi i)), (16, .av (.ptr 2 (fun j => [vi (u : Int), vi (v : Int)].getD j .any))), (95, .av (.sl (i - 0) 2 (fun k => ef EE (0 + k)))), (96, .av (vi ((i - 0 : Nat) : Int))), (97, .av (vi k))]) (fun k => L.length + (cI G i ++ cK G i k).length) (fun k => k ≤ i) (fun k => i - k) 0 (by rw [k1i, List.append_nil]; exact S) (Nat.zero_le _) (Ent.trans (v0O 16 10 (fun j => [vi (u : Int), vi (v : Int)].getD j .any) rfl rfl rfl) (Ent.trans x0A (ent xS trivial))) ?_
   intro k hk w Z S
   refine wt ?_
   (refine j0a rfl ?_ ?_ <;> intro hb <;> (try simp only [xA, xB, xG, xC, xD, xN] at hb) <;> (try exact xQ))
   ·have hkl : k < i := by omega
    obtain ⟨u', v', e5, hu', hv'⟩ := hat k xO
    have hg2 := hgt k u' v' xO e5
    have q3 : (EE.getD (0 + k) (0, 0)).fst = (u' : Int) := by rw [Nat.zero_add, e5]
    have q4 : (EE.getD (0 + k) (0, 0)).snd = (v' : Int) := by rw [Nat.zero_add, e5]
    have hx := K0b (gt l u) (gt l v) (gt l u') (gt l v') (hl u) (hl v) (hl u') (hl v')
    rw [show tcr (j0D (gt l v) (gt l u)) (j0D (gt l v') (gt l u')) = tcr (dv l u v) (dv l u' v') from rfl] at hx
    have hBT : BT 80000000000 (tcr (dv l u v) (dv l u' v')) := ((((hl v).sub (hl u)).cr ((hl v').sub (hl u')))).le xE
    have hcs := x0W G i k
    have hpr := j1W (g := G) (i := i) (k := k) xO hkl
    rw [hg1, hg2] at hcs
    generalize tcr (dv l u v) (dv l u' v') = n at hx hBT hcs
    by_cases hn : n = tz
    ·rw [if_pos hn, List.append_nil] at hcs
     rw [decide_eq_false (fun q => q hn)] at hx
     generalize crN n = c at hx
     rw [← hcs] at S
     refine wt ?_
     rw [q3, q4]
     refine wt ?_
     exact q0w Y (g := k) (k + 1) S xO xO (ent xS trivial)
    ·rw [if_neg hn] at hcs
     rw [decide_eq_true hn, z1k hn] at hx
     rw [hcs, ← List.append_assoc] at hpr
     have hm : ((x0N l).map tp)[L.length + (cI G i ++ cK G i k).length]? = some (tp (q0E n)) := by
      rw [hD, List.getElem?_map, List.getElem?_append_right (by simp), List.length_map, Nat.add_sub_cancel_left, z1U hpr]; rfl
     have hlen : L.length + (cI G i ++ cK G i (k + 1)).length = L.length + (cI G i ++ cK G i k).length + 1 := by rw [hcs]; simp; omega
     refine wt ?_
     rw [q3, q4]
     refine wt ?_
     refine v0Z x0A ?_
     refine x0s Y S (τ := tp (q0E n)) hm (W1g (q0z hn) (J0z hBT)) rfl rfl rfl rfl rfl (fun w' Z' S' => ?_)
     rw [← hlen] at S'
     refine wt ?_
     exact q0w Y (g := k) (k + 1) S' xO xO (ent xS trivial)
   ·obtain rfl : k = i := by omega
    rw [← w0K] at S
    refine wt ?_
    exact q0w Y (g := k) (k + 1) S xO xO (ent xS trivial)
  ·have hil : i = EE.length := by omega
   subst hil
   have e4 : L.length + (cI G EE.length).length = ((x0N l).map tp).length := by rw [hD, ← hgl, Q0R]; simp
   rw [e4] at S
   refine wt ?_
   exact k0P Y rfl S
theorem x1J (l : List Tr) (hd : ¬ (spn l).dim = 3) (h : q0B l = 0) (h7 : l.length ≤ 7) (hw : Q0H l) : CtrM Tryz.prog 133 [lt l] V3 ((x0N l).map tp) := by
 have hl : RT l := (RT.of h).1
 have hl0 : 0 < l.length := by obtain ⟨a, _, _, ha, _⟩ := hw; omega
 have hfc := z1t l (.inl h7) (fun _ h3 => z0m hl (by have := y0y hl; omega))
 refine k1k _ Tryz.func133 rfl rfl Tryz.ntmps133 rfl fun y J Y w Z S => ?_
 have e1 : Q1s l = 14 := by unfold Q1s; rw [if_pos h, if_pos (by have := y0y hl; omega)]
 have hflat : ∀ i k, i < l.length → k < i → cI (dvs l) i ++ cK (dvs l) i k = [] → tcr (dv l 0 i) (dv l 0 k) ≠ tz → x0N l = [q0E (tcr (dv l 0 i) (dv l 0 k))] := fun i k hi hk h0 hn => by
  unfold x0N; rw [if_neg hd]; exact flatD_at hi hk h0 hn
 have hno : cI (dvs l) l.length ≠ [] := fun e => by
  obtain ⟨i, k, _, _, _, e2⟩ := flatD_ex hw
  unfold flatD at e2
  rw [← Q0R, V0P, e] at e2
  cases e2
 rw [e1] at hfc
 refine xU ?_
 refine wt ?_
 refine w0e Y (γ := Nat) (fun i => [(0, .av (yv y)), (1, .av (lt l)), (29, .av (vi l.length)), (30, .av (vi i))]) (fun _ => 0) (fun i => i ≤ l.length ∧ cI (dvs l) i = []) (fun i => l.length - i) 0 S ⟨Nat.zero_le _, rfl⟩ (ent xS trivial) ?_
 rintro i ⟨hi, hc0⟩ w Z S
 refine wt ?_
 (refine j0a rfl ?_ ?_ <;> intro hb <;> (try simp only [xA, xB, xG, xC, xD, xN] at hb) <;> (try exact xQ))
 ·have hil : i < l.length := by omega
  refine wt ?_
  refine w0e Y (γ := Nat) (fun k => [(0, .av (yv y)), (1, .av (lt l)), (29, .av (vi l.length)), (30, .av (vi i)), (5, .av (vi i)), (33, .av (vi i)), (34, .av (vi k))]) (fun _ => 0) (fun k => k ≤ i ∧ cI (dvs l) i ++ cK (dvs l) i k = []) (fun k => i - k) 0 S ⟨Nat.zero_le _, by rw [hc0]; rfl⟩ (ent xS trivial) ?_
  rintro k ⟨hk, hck⟩ w Z S
  refine wt ?_
  (refine j0a rfl ?_ ?_ <;> intro hb <;> (try simp only [xA, xB, xG, xC, xD, xN] at hb) <;> (try exact xQ))
  ·have hkl : k < i := by omega
   have hx := K0b (gt l 0) (gt l i) (gt l 0) (gt l k) (hl 0) (hl i) (hl 0) (hl k)
   have hfl := hflat i k hil hkl hck
   have hBT : BT 80000000000 (tcr (dv l 0 i) (dv l 0 k)) := ((((hl i).sub (hl 0)).cr ((hl k).sub (hl 0)))).le xE
   rw [show tcr (j0D (gt l i) (gt l 0)) (j0D (gt l k) (gt l 0)) = tcr (dv l 0 i) (dv l 0 k) from rfl] at hx
   have hcs : cK (dvs l) i (k + 1) = cK (dvs l) i k ++ if tcr (dv l 0 i) (dv l 0 k) = tz then [] else [q0E (tcr (dv l 0 i) (dv l 0 k))] := by rw [x0W, z0F hil, z0F (by omega)]
   generalize tcr (dv l 0 i) (dv l 0 k) = n at hx hfl hBT hcs
   by_cases hn : n = tz
   ·rw [if_pos hn, List.append_nil] at hcs
    rw [decide_eq_false (fun q => q hn)] at hx
    generalize crN n = c at hx
    refine wt ?_
    exact q0w Y (g := k) (k + 1) S ⟨by omega, by rw [hcs]; exact hck⟩ (by omega) (ent xS trivial)
   ·rw [decide_eq_true hn, z1k hn] at hx
    have hfl := hfl hn
    have hlen : ((x0N l).map tp).length = 0 + 1 := by rw [hfl]; rfl
    refine wt ?_
    refine v0Z x0A ?_
    refine X0V Y S (τ := tp (q0E n)) (by rw [hfl]; rfl) (W1g (q0z hn) (J0z hBT)) rfl rfl rfl (fun w' Z' S' => ?_)
    rw [← hlen] at S'
    refine wt ?_
    exact w1s Y rfl S'
  ·obtain rfl : k = i := by omega
   refine wt ?_
   exact q0w Y (g := k) (k + 1) S ⟨by omega, by rw [w0K]; exact hck⟩ (by omega) (ent xS trivial)
 ·obtain rfl : i = l.length := by omega
  exact absurd hc0 hno
theorem Q1h (l : List Tr) (h : q0B l = 0) (h7 : l.length ≤ 7) (hw : Q0H l) : CtrM Tryz.prog 133 [lt l] V3 ((x0N l).map tp) := by
 by_cases hd : (spn l).dim = 3
 ·exact x1K l hd h h7 hw
 ·exact x1J l hd h h7 hw
abbrev dcl (l : List Tr) : AV := .clo 133 1 (fun i => [lt l].getD i .any)
theorem X1p (l : List Tr) : CtrA Tryz.prog 97 [ts l] (dcl l) := by
 refine j0l _ Tryz.func97 rfl rfl Tryz.ntmps97 rfl fun w Z => ?_
 refine xU ?_
 refine wt ?_
 exact xV
structure GD (d : Tr) : Prop where
 ne : d ≠ tz
 bt : BT 80000000000 d
def x1Z (d : Tr) : Bool := decide (d ≠ tz) && decide (-80000000000 ≤ d.x) && decide (d.x ≤ 80000000000) && decide (-80000000000 ≤ d.y) && decide (d.y ≤ 80000000000) && decide (-80000000000 ≤ d.z) && decide (d.z ≤ 80000000000)
theorem J0V (d : Tr) : x1Z d = true ↔ GD d := by
 unfold x1Z
 simp only [Bool.and_eq_true, decide_eq_true_eq]
 constructor
 ·rintro ⟨⟨⟨⟨⟨⟨h0, h1⟩, h2⟩, h3⟩, h4⟩, h5⟩, h6⟩; exact ⟨h0, ⟨h1, h2⟩, ⟨h3, h4⟩, ⟨h5, h6⟩⟩
 ·rintro ⟨h0, ⟨h1, h2⟩, ⟨h3, h4⟩, ⟨h5, h6⟩⟩; exact ⟨⟨⟨⟨⟨⟨h0, h1⟩, h2⟩, h3⟩, h4⟩, h5⟩, h6⟩
theorem GD.I {d : Tr} (h : GD d) : I64T d := by
 obtain ⟨_, ⟨⟨_, _⟩, ⟨_, _⟩, ⟨_, _⟩⟩⟩ := h
 exact ⟨⟨by omega, by omega⟩, ⟨by omega, by omega⟩, ⟨by omega, by omega⟩⟩
theorem K0c {l : List Tr} (hl : RT l) (h0 : 0 < l.length) {d : Tr} (hd : BT 80000000000 d) : Bn 24000000000000000 (loD l d) ∧ Bn 24000000000000000 (hiD l d) ∧ loD l d ≤ hiD l d := by
 obtain ⟨i, hi, e1⟩ := z0I (l := l) d h0
 obtain ⟨k, hk, e2⟩ := J0Z (l := l) d h0
 have b1 := K0h (j1B hd (hl i)) (show (3 * (80000000000 * 100000) : Int) ≤ 24000000000000000 by decide)
 have b2 := K0h (j1B hd (hl k)) (show (3 * (80000000000 * 100000) : Int) ≤ 24000000000000000 by decide)
 rw [e1] at b1
 rw [e2] at b2
 have h1 := z0J d h0
 have h2 := z0G d h0
 exact ⟨b1, b2, by omega⟩
theorem K0e {l : List Tr} (hl : RT l) (h0 : 0 < l.length) {d : Tr} (hd : GD d) : LR 100 (Wq l d) := by
 obtain ⟨⟨a1, a2⟩, ⟨b1, b2⟩, hle⟩ := K0c hl h0 hd.bt
 have hw : LI 17 (wdt l d) := (show (wdt l d).natAbs < 10 ^ 17 by unfold wdt; omega)
 have hn := Z0b hd.I
 unfold Wq
 exact (LR.div (LR.ofI (k := 50) ((hw.mul hw).mono xE) xE) (LR.ofI (k := 50) (hn.mono xE) xE) (nnQ hd.ne)).mono xE
theorem K1M {l : List Tr} (hl : RT l) (h0 : 0 < l.length) {d : Tr} (hd : GD d) : zE d (loD l d) (hiD l d) = 0 ∧ zT d (loD l d) (hiD l d) = rtx (Wq l d) := by
 obtain ⟨_, _, hle⟩ := K0c hl h0 hd.bt
 have e : zE d (loD l d) (hiD l d) = 0 := by unfold zE; rw [if_neg hd.ne, if_neg (by omega)]
 exact ⟨e, by unfold zT; rw [if_pos e]; rfl⟩
theorem k1S (l : List Tr) (hl : RT l) (h0 : 0 < l.length) (d : Tr) (hd : GD d) : CtrA Tryz.prog 14 [zA d (loD l d) (hiD l d)] (j0m [vS (rtx (Wq l d)), vi 0]) := by
 obtain ⟨⟨a1, a2⟩, ⟨b1, b2⟩, _⟩ := K0c hl h0 hd.bt
 have h := k0Q d (loD l d) (hiD l d) hd.I ⟨by omega, by omega⟩ ⟨by omega, by omega⟩
 rw [(K1M hl h0 hd).1, (K1M hl h0 hd).2] at h
 exact h
def wO (l : List Tr) : Option Tr → List UInt8
 |none => []
 |some d => rtx (Wq l d)
abbrev X0b (l : List Tr) (m : Option Tr) : Res := .cells [.av (vS (wO l m))]
def dO (m : Option Tr) : Tr := m.getD tz
def loO (l : List Tr) : Option Tr → Int
 |none => 0
 |some d => loD l d
def hiO (l : List Tr) : Option Tr → Int
 |none => 0
 |some d => hiD l d
abbrev x1f (l : List Tr) (m : Option Tr) : Res := .cells [.av (vi (dO m).x), .av (vi (dO m).y), .av (vi (dO m).z), .av (vi (loO l m)), .av (vi (hiO l m))]
theorem J1a (q : Rat) : rtx q ≠ [] := fun e => by
 unfold rtx at e
 split at e
 ·unfold itoa at e
  split at e
  ·cases e
  ·exact w0w _ e
 ·simp at e
theorem Q0s (q : Rat) : rsg q = -1 ∨ rsg q = 0 ∨ rsg q = 1 := by
 unfold rsg
 split
 ·exact .inr (.inl rfl)
 ·split
  ·exact .inl rfl
  ·exact .inr (.inr rfl)
theorem W1z (l : List Tr) (d : Tr) (m : Option Tr) (hl : RT l) (h0 : 0 < l.length) (h7 : l.length ≤ 7) (hd : GD d) (hm : ∀ x, m = some x → GD x) :
  CtrH Tryz.prog 95 [.av (tp d), .av (lt l), .own 1000 0, .own 1001 0] [(1000, X0b l m), (1001, x1f l m)] (.av (vi 0)) [(1000, X0b l (x0V l m d)), (1001, x1f l (x0V l m d))] := by
 have hz := J1L l d hl h0 xO hd.bt xE
 have hs := k1S l hl h0 d hd
 cases m with
 |none =>
  refine z0Q _ Tryz.func95 rfl rfl Tryz.ntmps95 rfl rfl fun w Z ν => ?_
  refine xU ?_
  refine wt ?_
  exact j0X (T' := [(5, .av (vi 0))]) (O' := [(1000, X0b l (some d)), (1001, x1f l (some d))]) (ent ⟨.refl _, trivial⟩ xT) (q0I rfl rfl rfl)
 |some x =>
  have hx := hm x rfl
  have hc := y0h (Wq l d) (Wq l x) ((K0e hl h0 hd).mono xE) ((K0e hl h0 hx).mono xE)
  have hne : (wO l (some x) == []) = false := by rw [beq_eq_false_iff_ne]; exact J1a _
  have hb0 := z1c (l := l) hd.ne hx.ne
  have e1 := k0D (q := Wq l d) (r := Wq l x)
  have e2 := v1X (q := Wq l d) (r := Wq l x)
  have hcp := (X1a d x).of (args' := [.sl 3 1 (fun i _ => .val ((v3 d).getD i undef)), .sl 3 1 (fun i _ => vi (co x i))]) ⟨ALe.sl' rfl (fun i hi j hj => by
    rcases (by omega : i = 0 ∨ i = 1 ∨ i = 2) with rfl | rfl | rfl <;> rfl), .refl _, trivial⟩
  have hlex := j1N d x
  have hS : x0V l (some x) d = if bef l d x then some d else some x := rfl
  rcases Q0s (Wq l d - Wq l x) with er | er | er
  ·rw [er] at hc e1
   rw [hS, if_pos (hb0.2 (.inl (e1.1 (by decide))))]
   refine z0Q _ Tryz.func95 rfl rfl Tryz.ntmps95 rfl rfl fun w Z ν => ?_
   refine xU ?_
   refine wt ?_
   rw [hne]
   refine wt ?_
   exact j0X (T' := [(5, .av (vi 0))]) (O' := [(1000, X0b l (some d)), (1001, x1f l (some d))]) (ent ⟨.refl _, trivial⟩ xT) (q0I rfl rfl rfl)
  ·rw [er] at hc e1 e2
   have eq := e2.1 rfl
   by_cases hle : x0a d x
   ·have h3 := decide_eq_true (hlex.2 hle)
    rw [hS, if_pos (hb0.2 (.inr ⟨eq, hle⟩))]
    refine z0Q _ Tryz.func95 rfl rfl Tryz.ntmps95 rfl rfl fun w Z ν => ?_
    refine xU ?_
    refine wt ?_
    rw [hne]
    refine wt ?_
    repeat' (first
      |(refine Q0K (v0U (n := 3) rfl xE xE) rfl rfl rfl ?_; refine wt ?_)
      |(refine Q0K (y0L (len := 3) rfl rfl xE) rfl rfl rfl ?_; refine wt ?_)
      |(refine Q0K (X0p hcp rfl rfl rfl rfl) rfl rfl rfl ?_; refine wt ?_))
    rw [h3]
    refine wt ?_
    exact j0X (T' := [(5, .av (vi 0))]) (O' := [(1000, X0b l (some d)), (1001, x1f l (some d))]) (ent ⟨.refl _, trivial⟩ xT) (q0I rfl rfl rfl)
   ·have h3 := decide_eq_false (fun q => hle (hlex.1 q))
    rw [hS, if_neg (fun q => (hb0.1 q).elim (fun q => by have := e1.2 q; omega) (fun q => hle q.2))]
    refine z0Q _ Tryz.func95 rfl rfl Tryz.ntmps95 rfl rfl fun w Z ν => ?_
    refine xU ?_
    refine wt ?_
    rw [hne]
    refine wt ?_
    repeat' (first
      |(refine Q0K (v0U (n := 3) rfl xE xE) rfl rfl rfl ?_; refine wt ?_)
      |(refine Q0K (y0L (len := 3) rfl rfl xE) rfl rfl rfl ?_; refine wt ?_)
      |(refine Q0K (X0p hcp rfl rfl rfl rfl) rfl rfl rfl ?_; refine wt ?_))
    rw [h3]
    refine wt ?_
    exact j0X (T' := [(5, .av (vi 0))]) (O' := [(1000, X0b l (some x)), (1001, x1f l (some x))]) (ent ⟨.refl _, trivial⟩ xT) (q0I rfl rfl rfl)
  ·rw [er] at hc e1 e2
   rw [hS, if_neg (fun q => (hb0.1 q).elim (fun q => by have := e1.2 q; omega) (fun q => by have := e2.2 q.1; omega))]
   refine z0Q _ Tryz.func95 rfl rfl Tryz.ntmps95 rfl rfl fun w Z ν => ?_
   refine xU ?_
   refine wt ?_
   rw [hne]
   refine wt ?_
   exact j0X (T' := [(5, .av (vi 0))]) (O' := [(1000, X0b l (some x)), (1001, x1f l (some x))]) (ent ⟨.refl _, trivial⟩ xT) (q0I rfl rfl rfl)
def k1t : Value → Int
 |.int .i64 n => n
 |_ => 0
def k1a (x : Value) : Tr := ⟨k1t (cellOf x 0), k1t (cellOf x 1), k1t (cellOf x 2)⟩
theorem j2B (d : Tr) : k1a (.agg #[.int .i64 d.x, .int .i64 d.y, .int .i64 d.z]) = d := rfl
def mS (l : List Tr) (pre : List Value) : Option Tr := q0x l ((pre.map k1a).filter x1Z)
theorem Q1Y (l : List Tr) (pre : List Value) {d : Tr} (h : GD d) : mS l (pre ++ [.agg #[.int .i64 d.x, .int .i64 d.y, .int .i64 d.z]]) = x0V l (mS l pre) d := by
 unfold mS
 rw [List.map_append, List.filter_append]
 have e : List.filter x1Z (List.map k1a [Value.agg #[.int .i64 d.x, .int .i64 d.y, .int .i64 d.z]]) = [d] := by
  simp only [List.map_cons, List.map_nil, j2B, List.filter_cons, (J0V d).2 h]
  rfl
 rw [e, Z0r]
theorem Y0l {l : List Tr} : ∀ (L : List Tr) (m : Option Tr) (P : Tr → Prop), (∀ x, m = some x → P x) → (∀ x ∈ L, P x) → ∀ x, L.foldl (x0V l) m = some x → P x
 |[], m, P, hm, _, x, h => hm x h
 |d :: L, m, P, hm, hL, x, h => by
  refine Y0l L (x0V l m d) P (fun y hy => ?_) (fun y hy => hL y (by simp [hy])) x h
  cases m with
  |none => cases hy; exact hL d (by simp)
  |some z =>
   simp only [x0V] at hy
   split at hy
   ·cases hy; exact hL d (by simp)
   ·cases hy; exact hm _ rfl
theorem k1z (l : List Tr) (pre : List Value) (x : Tr) (h : mS l pre = some x) : GD x :=
 Y0l _ none GD (fun _ h => by cases h) (fun y hy => (J0V y).1 (List.mem_filter.1 hy).2) x h
theorem J1u {Z : j0p} {w : World} : ∀ {L : List Tr} {xs : List Value}, All2 (fun τ v => AV.ok Z w τ v) (L.map tp) xs → xs.map k1a = L
 |[], [], _ => rfl
 |d :: L, x :: xs, ⟨h1, h2⟩ => by
  obtain rfl : x = _ := h1
  rw [List.map_cons, J1u h2]
  rfl
 |[], _ :: _, h => h.elim
 |_ :: _, [], h => h.elim
theorem q1c {l : List Tr} (h : q0B l = 0) (h7 : l.length ≤ 7) (hw : Q0H l) : ∀ d ∈ x0N l, GD d := fun d hd => by
 have hl := (RT.of h).1
 have hgap := y0v (V0i hl)
 unfold x0N at hd
 split at hd
 ·next h3 =>
  have s : S3 l := ⟨hl, h7, (q0U l).1 h3⟩
  unfold X1o at hd
  rcases List.mem_append.1 hd with h1 | h1
  ·obtain ⟨f, hf, rfl⟩ := List.mem_map.1 h1
   exact ⟨q0z (y0B h7 f hf).1, hgap _ (y0A s.hS hf)⟩
  ·obtain ⟨i, k, hi, hk, hn, rfl⟩ := q0f.1 h1
   have hB : ∀ v ∈ j1h l, BT 200000 v := fun v hv => by
    rcases Z0K s v hv with q | q
    ·exact V0i hl _ q
    ·have := y1X (V0i hl _ q)
     obtain ⟨⟨a, b⟩, ⟨c, e⟩, ⟨f, g⟩⟩ := this
     simp only [j0P] at a b c e f g
     refine ⟨⟨?_, ?_⟩, ⟨?_, ?_⟩, ⟨?_, ?_⟩⟩ <;> omega
   exact ⟨q0z hn, y0v hB _ h1⟩
 ·obtain ⟨i, k, hi, hk, hn, e⟩ := flatD_ex hw
  rw [e, List.mem_singleton] at hd
  subst hd
  exact ⟨q0z hn, J0z ((((hl i).sub (hl 0)).cr ((hl k).sub (hl 0))).le xE)⟩
theorem Y1m {l : List Tr} (h : q0B l = 0) (h7 : l.length ≤ 7) (hw : Q0H l) {xs : List Value} (hx : xs.map k1a = x0N l) : mS l xs = some (lm l) := by
 unfold mS
 rw [hx, List.filter_eq_self.2 (fun d hd => (J0V d).2 (q1c h h7 hw d hd)), j1t (RT.of h).1 h7 hw, v1f hw]
theorem y1W (l : List Tr) (h : q0B l = 0) (h7 : l.length ≤ 7) (hw : Q0H l) : CtrA Tryz.prog 55 [ts l] (j0m [vS (rtx (Wq l (lm l))), zA (lm l) (loD l (lm l)) (hiD l (lm l)), vi 0]) := by
 have hl : RT l := (RT.of h).1
 have hl0 : 0 < l.length := by obtain ⟨a, _, _, ha, _⟩ := hw; omega
 have hdc := X1p l
 refine k1j _ Tryz.func55 rfl rfl Tryz.ntmps55 rfl fun w Z => ?_
 refine xU ?_
 refine z0A ?_
 refine q0T ?_
 refine j0o (Y0w rfl rfl) rfl ?_
 refine j0u (j0J 20 rfl) rfl ?_
 refine j0u (j0J 21 rfl) rfl ?_
 refine j0u (j0J 22 rfl) rfl ?_
 refine wt ?_
 refine j0o (X0q (caps := [.av (lt l), .own 10 0, .own 11 0]) rfl) rfl ?_
 refine j0u (j0J 23 rfl) rfl ?_
 refine v0M (w0q (s := .clo 95 [.av (lt l), .own 10 0, .own 11 0]) rfl rfl rfl rfl rfl nofun) ?_
 refine wt ?_
 refine X0h rfl rfl (Q1h l h h7 hw) [8, 14, 15, 16, 17, 9, 18, 19, 20, 21] [(2, .own 20 0), (3, .own 21 0), (4, .own 22 0), (5, .own 10 0), (6, .own 11 0), (7, .own 23 0), (13, .av (dcl l))] (fun pre => [(10, X0b l (mS l pre)), (11, x1f l (mS l pre)), (20, .cells [.av (vS [])]), (21, .cells [.av (vi 0), .av (vi 0), .av (vi 0), .av (vi 0), .av (vi 0)]), (22, .cells [.av (vi 0)]), (23, .cells [.clo 95 [.av (lt l), .own 10 0, .own 11 0]])]) (fun x => [(8, .av (.ptr 3 (fun j => .val (cellOf x j))))]) (ent xS xT) rfl rfl rfl rfl (fun _ => rfl) ?_ ?_ ?_
 ·rintro lp a0 w0 Z0 keep pre x ⟨d, rfl, hn, hB⟩
  refine wt ?_
  exact w1q (Ent.trans (v0O 8 12 (fun j => .val (cellOf (.agg #[.int .i64 d.x, .int .i64 d.y, .int .i64 d.z]) j)) rfl rfl rfl) (ent xS xT))
 ·rintro lp a0 w0 Z0 keep pre x ⟨d, rfl, hn, hB⟩ hlen
  have hk := W1z l d (mS l pre) hl hl0 h7 ⟨hn, hB⟩ (k1z l pre)
  rw [Q1Y l pre ⟨hn, hB⟩]
  refine wt ?_
  refine j0u (w1R [(1000, 10), (1001, 11)] hk rfl rfl ⟨rfl, rfl, trivial⟩ rfl) rfl ?_
  refine wt ?_
  exact w1t (ent xS xT)
 ·intro D w2 xs Z1 ν a hA hR h'
  rw [Y1m h h7 hw (J1u hR)] at h'
  refine J1e ⟨_, _, h'⟩ ?_
  refine wt ?_
  exact X0T hA (j0n (rvs := [_, _, _]) (τs := [_, _, _]) rfl rfl ⟨.cell rfl rfl rfl, .agg (us := [.int .i64 (lm l).x, .int .i64 (lm l).y, .int .i64 (lm l).z, .int .i64 (loD l (lm l)), .int .i64 (hiD l (lm l))]) rfl rfl rfl rfl, .cell rfl rfl rfl, trivial⟩ rfl)
theorem x0P {l : List Tr} (h : x0h l = 0) : q0B l = 0 ∧ Q0H l := by
 unfold x0h at h
 by_cases h0 : q0B l = 0
 ·rw [if_pos h0] at h
  refine ⟨h0, (Z0D l).2 ?_⟩
  by_cases h2 : (spn l).dim < 2
  ·rw [if_pos h2] at h; omega
  ·omega
 ·rw [if_neg h0] at h; exact absurd h h0
theorem few.le7 {l : List Tr} (hf : few l) (h : q0B l = 0) : l.length ≤ 7 := (hf.le h).2
def wtx (l : List Tr) : List UInt8 := if x0h l = 0 then rtx (Wq l (lm l)) else []
def dW (l : List Tr) : Tr := if x0h l = 0 then lm l else tz
def aW (l : List Tr) : Int := if x0h l = 0 then loD l (lm l) else 0
def bW (l : List Tr) : Int := if x0h l = 0 then hiD l (lm l) else 0
theorem z0f (l : List Tr) (hf : few l) : CtrA Tryz.prog 18 [ts l] (j0m [vS (wtx l), zA (dW l) (aW l) (bW l), vi (x0h l)]) := by
 have hg := y1V l hf
 have hl := fun e : x0h l = 0 => y1W l (x0P e).1 (hf.le7 (x0P e).1) (x0P e).2
 unfold wtx dW aW bW
 generalize x0h l = e at hg hl ⊢
 by_cases he : e = 0
 ·rw [if_pos he, if_pos he, if_pos he, if_pos he]
  have hl := hl he
  subst he
  refine j0l _ Tryz.func18 rfl rfl Tryz.ntmps18 rfl fun w Z => ?_
  refine xU ?_
  refine wt ?_
  exact j0n (rvs := [_, _, _]) (τs := [_, _, _]) rfl rfl ⟨.tmp rfl, .agg (us := [_, _, _, _, _]) rfl rfl rfl rfl, .tmp rfl, trivial⟩ rfl
 ·rw [if_neg he, if_neg he, if_neg he, if_neg he]
  refine j0l _ Tryz.func18 rfl rfl Tryz.ntmps18 rfl fun w Z => ?_
  refine xU ?_
  refine wt ?_
  (refine j0a rfl ?_ ?_ <;> intro hb <;> (try simp only [xA, xB, xG, xC, xD, xN] at hb) <;> (try exact xQ))
  refine wt ?_
  exact j0n (rvs := [_, _, _]) (τs := [_, _, _]) rfl rfl ⟨.tmp rfl, .agg (us := [_, _, _, _, _]) rfl rfl rfl rfl, .tmp rfl, trivial⟩ rfl
def loK (l : List Tr) (d : Tr) (k : Nat) : List Nat := (List.range k).filter (loB l d)
def hiK (l : List Tr) (d : Tr) (k : Nat) : List Nat := (List.range k).filter (hiB l d)
theorem k0m (l : List Tr) (d : Tr) (k : Nat) : loK l d (k + 1) = if j0c d (gt l k) = loD l d then loK l d k ++ [k] else loK l d k := by
 unfold loK
 rw [List.range_succ, List.filter_append]
 by_cases h : j0c d (gt l k) = loD l d
 ·rw [if_pos h]; simp [loB, h]
 ·rw [if_neg h]; simp [loB, h]
theorem Z0Z (l : List Tr) (d : Tr) (k : Nat) : hiK l d (k + 1) = if j0c d (gt l k) = hiD l d then hiK l d k ++ [k] else hiK l d k := by
 unfold hiK
 rw [List.range_succ, List.filter_append]
 by_cases h : j0c d (gt l k) = hiD l d
 ·rw [if_pos h]; simp [hiB, h]
 ·rw [if_neg h]; simp [hiB, h]
theorem v1h (l : List Tr) (d : Tr) (k : Nat) : (loK l d k).length ≤ k := by have := List.length_filter_le (loB l d) (List.range k); simpa [loK] using this
theorem q1R (l : List Tr) (d : Tr) (k : Nat) : (hiK l d k).length ≤ k := by have := List.length_filter_le (hiB l d) (List.range k); simpa [hiK] using this
def cLo (l : List Tr) : List Nat := if x0h l = 0 then loS l (lm l) else []
def cHi (l : List Tr) : List Nat := if x0h l = 0 then hiS l (lm l) else []
theorem Z0l (l : List Tr) (hf : few l) : CtrA Tryz.prog 20 [ts l] (j0m [idx (cLo l), idx (cHi l), vi (x0h l)]) := by
 have hg := z0f l hf
 unfold cLo cHi
 by_cases he : x0h l = 0
 ·rw [if_pos he, if_pos he, he]
  unfold wtx dW aW bW at hg
  rw [if_pos he, if_pos he, if_pos he, if_pos he, he] at hg
  obtain ⟨h0, hw⟩ := x0P he
  have h7 := hf.le7 h0
  have hl := (RT.of h0).1
  have hB := y1i hl hw
  show CtrA Tryz.prog 20 [ts l] (j0m [idx (loK l (lm l) l.length), idx (hiK l (lm l) l.length), vi 0])
  generalize lm l = d at hg hB ⊢
  refine j0l _ Tryz.func20 rfl rfl Tryz.ntmps20 rfl fun w Z => ?_
  refine xU ?_
  refine wt ?_
  refine j0f (γ := Nat) (fun k => [(0, .av (ts l)), (6, .own 10 0), (8, .osl 70), (9, .osl 71), (22, .av (ts l)), (23, .av (vi l.length)), (24, .av (vi k))]) (fun k => [(10, .cells [.av (vi d.x), .av (vi d.y), .av (vi d.z), .av (vi (loD l d)), .av (vi (hiD l d))]), (70, .row 3 1 (loK l d k).length (xf (loK l d k))), (71, .row 3 1 (hiK l d k).length (xf (hiK l d k)))]) (fun k => k ≤ l.length) (fun k => l.length - k) 0 (Nat.zero_le _) (Ent.trans (v0B (dd := 8) 70 3 1 (xf []) rfl rfl) (Ent.trans (v0B (dd := 9) 71 3 1 (xf []) rfl rfl) (ent xS xT))) ?_
  intro k hk
  refine wt ?_
  (refine j0a rfl ?_ ?_ <;> intro hb <;> (try simp only [xA, xB, xG, xC, xD, xN] at hb) <;> (try exact xQ))
  ·have hkl : k < l.length := by omega
   have hp := Z0m (gt l k) d (hl k) hB xE
   have l1 := k0m l d k
   have l2 := Z0Z l d k
   have l3 := v1h l d k
   have l4 := q1R l d k
   generalize loK l d k = X at l1 l3 ⊢
   generalize hiK l d k = X' at l2 l4 ⊢
   have m1 : X.length + 1 ≤ maxLen := by simp only [maxLen]; omega
   have m2 : X'.length + 1 ≤ maxLen := by simp only [maxLen]; omega
   refine wt ?_
   (refine j0a rfl ?_ ?_ <;> intro hb <;> (try simp only [xA, xB, xG, xC, xD, xN] at hb) <;> (try exact xQ))
   ·rw [if_pos hb] at l1
    refine wt ?_
    (refine j0a rfl ?_ ?_ <;> intro hb <;> (try simp only [xA, xB, xG, xC, xD, xN] at hb) <;> (try exact xQ))
    ·rw [if_pos hb] at l2
     refine wt ?_
     exact j0b (k + 1) (by omega) (by omega) (ent xS ⟨⟨_, rfl, .refl _⟩, ⟨_, rfl, by rw [l1]; exact .refl _⟩, ⟨_, rfl, by rw [l2]; exact .refl _⟩, trivial⟩)
    ·rw [if_neg hb] at l2
     refine wt ?_
     exact j0b (k + 1) (by omega) (by omega) (ent xS ⟨⟨_, rfl, .refl _⟩, ⟨_, rfl, by rw [l1]; exact .refl _⟩, ⟨_, rfl, by rw [l2]; exact .refl _⟩, trivial⟩)
   ·rw [if_neg hb] at l1
    refine wt ?_
    (refine j0a rfl ?_ ?_ <;> intro hb <;> (try simp only [xA, xB, xG, xC, xD, xN] at hb) <;> (try exact xQ))
    ·rw [if_pos hb] at l2
     refine wt ?_
     exact j0b (k + 1) (by omega) (by omega) (ent xS ⟨⟨_, rfl, .refl _⟩, ⟨_, rfl, by rw [l1]; exact .refl _⟩, ⟨_, rfl, by rw [l2]; exact .refl _⟩, trivial⟩)
    ·rw [if_neg hb] at l2
     refine wt ?_
     exact j0b (k + 1) (by omega) (by omega) (ent xS ⟨⟨_, rfl, .refl _⟩, ⟨_, rfl, by rw [l1]; exact .refl _⟩, ⟨_, rfl, by rw [l2]; exact .refl _⟩, trivial⟩)
  ·have hkl : k = l.length := by omega
   subst hkl
   refine wt ?_
   exact y0Y (Ent.trans (j0S 70 rfl) (j0S 71 rfl)) (j0n (rvs := [_, _, _]) (τs := [_, _, _]) rfl rfl ⟨.tmp rfl, .tmp rfl, .tmp rfl, trivial⟩ rfl)
 ·rw [if_neg he, if_neg he]
  generalize x0h l = e at hg he ⊢
  have key : CtrA Tryz.prog 20 [ts l] (j0m [.val (.slice none 0 0), .val (.slice none 0 0), vi e]) := by
   refine j0l _ Tryz.func20 rfl rfl Tryz.ntmps20 rfl fun w Z => ?_
   refine xU ?_
   refine wt ?_
   (refine j0a rfl ?_ ?_ <;> intro hb <;> (try simp only [xA, xB, xG, xC, xD, xN] at hb) <;> (try exact xQ))
   refine wt ?_
   exact xX
  exact key.to (ALe.tup ⟨ALe.nil, ALe.nil, .refl _, trivial⟩)
def q1s (l : List Tr) (t : Int) : Int := if q0B l = 0 then (if t < 0 ∨ 100000 < t then 2 else x0h l) else q0B l
def inW (l : List Tr) (t : Int) : Bool := if q1s l t = 0 then decide (Wq l (lm l) ≤ ((t * t : Int) : Rat)) else false
theorem z1Z (q r : Rat) : decide (rsg (q - r) ≤ 0) = decide (q ≤ r) := by
 rw [Bool.eq_iff_iff, decide_eq_true_eq, decide_eq_true_eq]
 have h1 := k0D (q := r) (r := q)
 have h2 := k0D (q := q) (r := r)
 have h3 := v1X (q := q) (r := r)
 rcases Q0s (q - r) with h | h | h
 ·have : q < r := h2.1 xO
  exact ⟨fun _ => Rat.le_of_lt this, fun _ => by omega⟩
 ·have e : q = r := h3.1 h
  exact ⟨fun _ => by rw [e]; exact Rat.le_refl, fun _ => by omega⟩
 ·constructor
  ·intro _; omega
  ·intro hle
   exfalso
   rcases Rat.le_iff_lt_or_eq.1 hle with h4 | h4
   ·have := h2.2 h4; omega
   ·have := h3.2 h4; omega
theorem Y0g (l : List Tr) (t : Int) (hf : few l) : CtrA Tryz.prog 23 [ts l, vi t] (j0m [vb (inW l t), vi (q1s l t)]) := by
 have hc := x0I l
 have hg := z0f l hf
 have hE : q1s l t = if q0B l = 0 then (if t < 0 ∨ 100000 < t then 2 else x0h l) else q0B l := rfl
 have hI : inW l t = if q1s l t = 0 then decide (Wq l (lm l) ≤ ((t * t : Int) : Rat)) else false := rfl
 generalize inW l t = b at hI ⊢
 generalize q1s l t = E at hE hI ⊢
 by_cases h0 : q0B l = 0
 ·rw [if_pos h0] at hE
  rw [h0] at hc
  by_cases ht : t < 0 ∨ 100000 < t
  ·rw [if_pos ht] at hE
   rw [hE, if_neg (by decide)] at hI
   subst hE hI
   refine j0l _ Tryz.func23 rfl rfl Tryz.ntmps23 rfl fun w Z => ?_
   refine xU ?_
   by_cases h1 : t < 0
   ·have h1' := decide_eq_true h1
    refine wt ?_
    rw [h1']
    refine wt ?_
    exact xW
   ·have h1' := decide_eq_false h1
    refine wt ?_
    rw [h1']
    refine wt ?_
    (refine j0a rfl ?_ ?_ <;> intro hb <;> (try simp only [xA, xB, xG, xC, xD, xN] at hb) <;> (try exact xQ))
    refine wt ?_
    exact xW
  ·rw [if_neg ht] at hE
   have h1' : decide (t < 0) = false := decide_eq_false xO
   by_cases he : x0h l = 0
   ·rw [he] at hE
    rw [if_pos hE] at hI
    subst hE
    unfold wtx dW aW bW at hg
    rw [if_pos he, if_pos he, if_pos he, if_pos he, he] at hg
    obtain ⟨_, hw⟩ := x0P he
    have hl := (RT.of h0).1
    have hl0 : 0 < l.length := by obtain ⟨a, _, _, ha, _⟩ := hw; omega
    have hGD : GD (lm l) := ⟨(z1J hw).1, y1i hl hw⟩
    have htt : t * t ≤ 10000000000 := by
     have := Int.mul_le_mul (show t ≤ 100000 by omega) (show t ≤ 100000 by omega) xO xO
     omega
    have htt0 : 0 ≤ t * t := Int.mul_nonneg xO xO
    have hwh := v0z (t * t) ⟨by omega, by omega⟩
    have hcm := y0h (Wq l (lm l)) ((t * t : Int) : Rat) ((K0e hl hl0 hGD).mono xE) (LR.ofI ((show LI 19 (t * t) from I64.li ⟨by omega, by omega⟩).mono xE) xE)
    rw [vRI] at hcm
    rw [← z1Z] at hI
    subst hI
    refine j0l _ Tryz.func23 rfl rfl Tryz.ntmps23 rfl fun w Z => ?_
    refine xU ?_
    refine wt ?_
    rw [h1']
    refine wt ?_
    (refine j0a rfl ?_ ?_ <;> intro hb <;> (try simp only [xA, xB, xG, xC, xD, xN] at hb) <;> (try exact xQ))
    refine wt ?_
    exact xW
   ·rw [hE, if_neg he] at hI
    rw [hE, hI]
    generalize x0h l = e at hg he ⊢
    refine j0l _ Tryz.func23 rfl rfl Tryz.ntmps23 rfl fun w Z => ?_
    refine xU ?_
    refine wt ?_
    rw [h1']
    refine wt ?_
    (refine j0a rfl ?_ ?_ <;> intro hb <;> (try simp only [xA, xB, xG, xC, xD, xN] at hb) <;> (try exact xQ))
    refine wt ?_
    (refine j0a rfl ?_ ?_ <;> intro hb <;> (try simp only [xA, xB, xG, xC, xD, xN] at hb) <;> (try exact xQ))
    refine wt ?_
    exact xW
 ·rw [if_neg h0] at hE
  rw [hE, if_neg h0] at hI
  rw [hE, hI]
  generalize q0B l = e at hc h0 ⊢
  refine j0l _ Tryz.func23 rfl rfl Tryz.ntmps23 rfl fun w Z => ?_
  refine xU ?_
  refine wt ?_
  (refine j0a rfl ?_ ?_ <;> intro hb <;> (try simp only [xA, xB, xG, xC, xD, xN] at hb) <;> (try exact xQ))
  refine wt ?_
  exact xW
end Go.Proofs.YtgblokifbgeegaaGreatDoor.H.S
