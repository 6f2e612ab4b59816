/- A part of the proof. -/
import Derived.Test.YtgblokifbgeegaaGreatDoorEaq
set_option linter.unusedVariables false
set_option linter.unusedSimpArgs false
namespace Go.Proofs.YtgblokifbgeegaaGreatDoor
open Go Go.Vc Go.RowKit Go.Na Go.Lib
set_option maxHeartbeats 4000000
abbrev E0 : Res := .vb [.int .i64 0]
theorem X1R (f : FuncId) (x y r : Int) (hc : CtrA Tryz.prog f [vI x, vI y] (j0x [vI r, vi 0])) : CtrH Tryz.prog 122 [.own 1000 0, .av (.val (.func (.func f) #[] #[])), .av (vI x), .av (vI y)] [(1000, E0)] (.av (vI r)) [(1000, E0)] := by
 refine z0o _ Tryz.func122 rfl rfl Tryz.ntmps122 rfl rfl fun w Z ν => ?_
 refine zU ?_
 refine wl ?_
 refine v0P (v0s rfl rfl rfl rfl zE rfl) ?_
 refine wl ?_
 exact j0U (T' := [(8, .av (vI r))]) (O' := [(1000, E0)]) (ent ⟨.refl _, trivial⟩ zT) (q0J rfl rfl rfl)
theorem k1h (x y : Int) (hx : LI 1000 x) (hy : LI 1000 y) (h : LI 1000 (x + y)) : CtrH Tryz.prog 112 [.own 1000 0, .av (vI x), .av (vI y)] [(1000, E0)] (.av (vI (x + y))) [(1000, E0)] := by
 have hc := X1R 147 x y _ (Q1G x y hx hy h)
 refine z0o _ Tryz.func112 rfl rfl Tryz.ntmps112 rfl rfl fun w Z ν => ?_
 refine zU ?_
 refine wl ?_
 refine j0u (j0h [] hc rfl ⟨rfl, trivial⟩ rfl) rfl ?_
 refine wl ?_
 exact j0U (T' := [(6, .av (vI (x + y)))]) (O' := [(1000, E0)]) (ent ⟨.refl _, trivial⟩ zT) (q0J rfl rfl rfl)
theorem Q1j (x y : Int) (hx : LI 1000 x) (hy : LI 1000 y) (h : LI 1000 (x - y)) : CtrH Tryz.prog 84 [.own 1000 0, .av (vI x), .av (vI y)] [(1000, E0)] (.av (vI (x - y))) [(1000, E0)] := by
 have hc := X1R 123 x y _ (K1i x y hx hy h)
 refine z0o _ Tryz.func84 rfl rfl Tryz.ntmps84 rfl rfl fun w Z ν => ?_
 refine zU ?_
 refine wl ?_
 refine j0u (j0h [] hc rfl ⟨rfl, trivial⟩ rfl) rfl ?_
 refine wl ?_
 exact j0U (T' := [(6, .av (vI (x - y)))]) (O' := [(1000, E0)]) (ent ⟨.refl _, trivial⟩ zT) (q0J rfl rfl rfl)
def Y0a (g : Nat → Int) : Nat → Int
 |0 => 1
 |i + 1 => Y0a g i * g i
theorem k1r (n : Nat) (g : Nat → Int) (hn : n ≤ 1000000) (hg : ∀ i, i < n → LI 1000 (g i)) (hp : ∀ i, i ≤ n → LI 1000 (Y0a g i)) : CtrH Tryz.prog 85 [.own 1000 0, .av (.sl n 1 (fun i _ => vI (g i)))] [(1000, E0)] (.av (vI (Y0a g n))) [(1000, E0)] := by
 refine z0o _ Tryz.func85 rfl rfl Tryz.ntmps85 rfl rfl fun w Z ν => ?_
 refine zU ?_
 refine wl ?_
 refine j0n (V1F (caps := [.own 1000 0]) rfl) rfl ?_
 refine wl ?_
 refine j0n (j0w (s := .fnC 122 [.own 1000 0]) rfl) rfl ?_
 refine wl ?_
 refine j0f (γ := Nat) (fun i => [(5, .av (vI (Y0a g i))), (6, .fnC 122 [.own 1000 0]), (11, .av (.sl n 1 (fun i _ => vI (g i)))), (12, .av (vi n)), (13, .av (vi i))]) (fun _ => [(1000, E0)]) (fun i => i ≤ n) (fun i => n - i) 0 (Nat.zero_le _) (ent ⟨by
  show SLe (.av (vS [49])) (.av (vS (itoa 1)))
  rw [J0s]; exact .refl _, .refl _, .refl _, .refl _, .refl _, trivial⟩ zT) ?_
 intro i hi
 refine wl ?_
 (refine j0a rfl ?_ ?_ <;> intro hb <;> (try simp only [zA, zB, zG, zC, zD, zN] at hb) <;> (try exact zQ))
 ·have hc := X1R 124 (Y0a g i) (g i) _ (K1g _ _ (hp i hi) (hg i zO) (hp (i + 1) zO))
  refine wl ?_
  refine j0n (j0S (s := .fnC 122 [.own 1000 0]) rfl) rfl ?_
  refine wl ?_
  refine j0u (x1O [] hc rfl rfl ⟨rfl, trivial⟩ rfl) rfl ?_
  refine wl ?_
  exact j0c (i + 1) zO zO (ent zS zT)
 ·obtain rfl : i = n := by omega
  refine wl ?_
  exact q0J rfl rfl rfl
theorem Z1o (d : Int) : decide ((itoa d).head? = some 45) = decide (d < 0) := by
 by_cases h : d < 0
 ·rw [itoa_neg h, decide_eq_true h]; rfl
 ·rw [itoa_pos h, decide_eq_false h]
  obtain ⟨b, r, e, hb⟩ := J0m d.natAbs
  rw [e, decide_eq_false]
  intro h2
  simp at h2
  exact q1Q hb h2
theorem vI0 : vI 0 = vS [48] := congrArg vS itoa_zero
theorem Y0f (n d : Int) (hn : LI 1000 n) (hdd : LI 1000 d) (hd : d ≠ 0) : CtrH Tryz.prog 121 [.own 1000 0, .av (vI n), .av (vI d)] [(1000, E0)] (.av (vR (Rat.divInt n d))) [(1000, E0)] := by
 have hg := X1R 154 n d _ (Q1I n d hn hdd)
 have hgp : 0 < Nat.gcd n.natAbs d.natAbs := Nat.gcd_pos_of_pos_right _ zO
 have hgle : Nat.gcd n.natAbs d.natAbs ≤ d.natAbs := Nat.le_of_dvd zO (Nat.gcd_dvd_right _ _)
 have hgl : LI 1000 ((Nat.gcd n.natAbs d.natAbs : Nat) : Int) := hdd.le zO
 have hpre := Z1n (itoa d)
 rw [Z1o] at hpre
 have key : ∀ G : Int, G = (if d < 0 then -((Int.gcd n d : Nat) : Int) else ((Int.gcd n d : Nat) : Int)) → ∃ a b : Int, CtrH Tryz.prog 122 [.own 1000 0, .av (.val (.func (.func 157) #[] #[])), .av (vI n), .av (vI G)] [(1000, E0)] (.av (vI a)) [(1000, E0)] ∧ CtrH Tryz.prog 122 [.own 1000 0, .av (.val (.func (.func 157) #[] #[])), .av (vI d), .av (vI G)] [(1000, E0)] (.av (vI b)) [(1000, E0)] ∧ CtrA Tryz.prog 156 [vI a, vI b] (vR (Rat.divInt n d)) := by
  intro G hG
  have hGa : G.natAbs = Nat.gcd n.natAbs d.natAbs := by
   rw [hG]; unfold Int.gcd; split <;> omega
  have hG0 : G ≠ 0 := by omega
  have hGl : LI 1000 G := hdd.le zO
  have d1 : G ∣ n := Int.natAbs_dvd_natAbs.1 (hGa ▸ Nat.gcd_dvd_left _ _)
  have d2 : G ∣ d := Int.natAbs_dvd_natAbs.1 (hGa ▸ Nat.gcd_dvd_right _ _)
  have q1 : LI 1000 (n / G) := hn.le (by rw [Int.natAbs_ediv_of_dvd d1]; exact Nat.div_le_self _ _)
  have q2 : LI 1000 (d / G) := hdd.le (by rw [Int.natAbs_ediv_of_dvd d2]; exact Nat.div_le_self _ _)
  have w1 := Q1K n G hn hGl hG0 (by rw [J0n d1]; exact q1)
  have w2 := Q1K d G hdd hGl hG0 (by rw [J0n d2]; exact q2)
  rw [J0n d1] at w1
  rw [J0n d2] at w2
  have hj := w1I (n / G) (d / G) q1 q2
  rw [← W1K hd hG] at hj
  exact ⟨n / G, d / G, X1R 157 n G _ w1, X1R 157 d G _ w2, hj⟩
 by_cases hneg : d < 0
 ·rw [decide_eq_true hneg] at hpre
  have hs := Q1j 0 _ (LI.small (by decide) (by decide)) hgl (by rw [Int.zero_sub]; exact hgl.neg)
  rw [vI0] at hs
  obtain ⟨a, b, k1, k2, k3⟩ := key (0 - (Nat.gcd n.natAbs d.natAbs : Nat)) (by rw [if_pos hneg, Int.zero_sub]; rfl)
  refine z0o _ Tryz.func121 rfl rfl Tryz.ntmps121 rfl rfl fun w Z ν => ?_
  refine zU ?_
  refine wl ?_
  refine j0u (j0h [] hg rfl ⟨rfl, trivial⟩ rfl) rfl ?_
  refine wl ?_
  refine j0u (j0h [] hs rfl ⟨rfl, trivial⟩ rfl) rfl ?_
  refine wl ?_
  refine j0u (j0h [] k1 rfl ⟨rfl, trivial⟩ rfl) rfl ?_
  refine wl ?_
  refine j0u (j0h [] k2 rfl ⟨rfl, trivial⟩ rfl) rfl ?_
  refine wl ?_
  exact j0U (T' := [(6, .av (vR (Rat.divInt n d)))]) (O' := [(1000, E0)]) (ent ⟨.refl _, trivial⟩ zT) (q0J rfl rfl rfl)
 ·rw [decide_eq_false hneg] at hpre
  obtain ⟨a, b, k1, k2, k3⟩ := key (Nat.gcd n.natAbs d.natAbs : Nat) (by rw [if_neg hneg]; rfl)
  refine z0o _ Tryz.func121 rfl rfl Tryz.ntmps121 rfl rfl fun w Z ν => ?_
  refine zU ?_
  refine wl ?_
  refine j0u (j0h [] hg rfl ⟨rfl, trivial⟩ rfl) rfl ?_
  refine wl ?_
  refine j0u (j0h [] k1 rfl ⟨rfl, trivial⟩ rfl) rfl ?_
  refine wl ?_
  refine j0u (j0h [] k2 rfl ⟨rfl, trivial⟩ rfl) rfl ?_
  refine wl ?_
  exact j0U (T' := [(6, .av (vR (Rat.divInt n d)))]) (O' := [(1000, E0)]) (ent ⟨.refl _, trivial⟩ zT) (q0J rfl rfl rfl)
end Go.Proofs.YtgblokifbgeegaaGreatDoor
section
namespace Go.Proofs.YtgblokifbgeegaaGreatDoor
open Go Go.Vc Go.RowKit Go.Na Go.Lib
set_option maxHeartbeats 4000000
theorem vI1 : vI 1 = vS [49] := congrArg vS J0s
theorem Y0K (q : Rat) : Nat.gcd q.num.natAbs (q.den : Int).natAbs = 1 := by
 rw [Int.natAbs_natCast]; exact q.reduced
theorem j1s (q : Rat) (h : LR 1000 q) : CtrA Tryz.prog 126 [vR q] (vi 0) := by
 have h2 := x0U q.num h.1
 have h3 := x0U q.den h.2
 by_cases hd : q.den = 1
 ·have h1 := j2J q h hd
  rw [hd] at h3
  have h3 : CtrA Tryz.prog 165 [vS [49]] (vi 0) := by rw [← vI1]; exact h3
  refine j0p _ Tryz.func126 rfl rfl Tryz.ntmps126 rfl fun w Z => ?_
  refine zU ?_
  refine wl ?_
  exact zV
 ·have h1 := j2K q h hd
  have hpos := q.den_pos
  have h4 := V0I q.den 1 h.2 (LI.small zE zE)
  have e4 : sgn ((q.den : Int) - 1) = 1 := by unfold sgn; rw [if_neg (by omega), if_neg (by omega)]
  rw [e4, vI1] at h4
  have h5 := Q1I q.num q.den h.1 h.2
  rw [Y0K] at h5
  have h5 : CtrA Tryz.prog 154 [vI q.num, vI q.den] (j0x [vS [49], vi 0]) := by rw [← vI1]; exact h5
  refine j0p _ Tryz.func126 rfl rfl Tryz.ntmps126 rfl fun w Z => ?_
  refine zU ?_
  refine wl ?_
  exact zV
theorem y1s (n : Nat) (g : Nat → Rat) (hn : n ≤ 1000000) (hg : ∀ i, i < n → LR 1000 (g i)) : CtrA Tryz.prog 88 [.sl n 1 (fun i _ => vR (g i))] (vi 0) := by
 refine j0p _ Tryz.func88 rfl rfl Tryz.ntmps88 rfl fun w Z => ?_
 refine zU ?_
 refine wl ?_
 refine j0f (γ := Nat) (fun i => [(6, .av (.sl n 1 (fun i _ => vR (g i)))), (7, .av (vi n)), (8, .av (vi i))]) (fun _ => []) (fun i => i ≤ n) (fun i => n - i) 0 (Nat.zero_le _) (ent zS trivial) ?_
 intro i hi
 refine wl ?_
 (refine j0a rfl ?_ ?_ <;> intro hb <;> (try simp only [zA, zB, zG, zC, zD, zN] at hb) <;> (try exact zQ))
 ·have hc := j1s (g i) (hg i zO)
  refine wl ?_
  exact j0c (i + 1) zO zO (ent zS trivial)
 ·refine wl ?_
  exact zV
def j2t (a b : Rat) (i : Nat) : Rat := if i = 0 then a else b
theorem X1y (a b : ByteArray) (w : World) : (Instr.buildSlice 160 2 #[(0, .string a), (1, .string b)]).run Tryz.prog w = .ok (.slice (some ⟨w.heap.size, 0, none⟩) 2 2) (w.alloc (.cells #[.string a, .string b] 25)) := by kernel_rfl
section
variable {E : Env} {T : Tab} {O : Go.Vc.Own} {d : Option Nat} {ty : TypeId} {pos : String} {af : Array Edge} {g : Option (Nat × Bool)}
theorem v1t {x y : Operand} {a b : Rat} (hx : T.ev x = .av (vR a)) (hy : T.ev y = .av (vR b)) : GV Tryz.prog E ⟨d, .buildSlice 160 2 #[(0, x), (1, y)], ty, pos, af, g⟩ T O (.av (.sl 2 1 (fun i _ => vR (j2t a b i)))) [] [] :=
 q0c (is := [0, 1]) (xs := [x, y]) (vs := [.string (bs (rtx a)), .string (bs (rtx b))]) (us := [.string (bs (rtx a)), .string (bs (rtx b))]) (X1y _ _) rfl (by simp only [List.map_cons, List.map_nil, hx, hy]) rfl (fun i hi j hj => by
  obtain rfl : j = 0 := zO
  rcases (by omega : i = 0 ∨ i = 1) with rfl | rfl <;> exact ⟨_, rfl, rfl⟩)
end
theorem J0L (q r : Rat) (hq : LR 1000 q) (hr : LR 1000 r) : CtrA Tryz.prog 88 [.sl 2 1 (fun i _ => vR (j2t q r i))] (vi 0) :=
 y1s 2 (j2t q r) zE (fun i hi => by rcases (by omega : i = 0 ∨ i = 1) with rfl | rfl <;> assumption)
theorem x1y : Tryz.prog.built 139 [] = some #[.int .i64 0] := by kernel_rfl
theorem k0P (f : FuncId) (q r : Rat) (num den : Int) (hq : LR 1000 q) (hr : LR 1000 r) (hn : LI 1000 num) (hdn : LI 1000 den) (hd : den ≠ 0)
  (hf : CtrH Tryz.prog f [.own 1000 0, .av (vI q.num), .av (vI q.den), .av (vI r.num), .av (vI r.den)] [(1000, E0)] (.av (j0x [vI num, vI den])) [(1000, E0)]) : CtrA Tryz.prog 82 [vR q, vR r, .val (.func (.func f) #[] #[])] (j0x [vR (Rat.divInt num den), vi 0]) := by
 have h1 := J0L q r hq hr
 have h2 := K0b q hq
 have h3 := K0b r hr
 have h4 := Y0f num den hn hdn hd
 have hz := w0q den
 rw [decide_eq_false hd] at hz
 refine j0p _ Tryz.func82 rfl rfl Tryz.ntmps82 rfl fun w Z => ?_
 refine zU ?_
 refine wl ?_
 refine j0n (v1t rfl rfl) rfl ?_
 refine wl ?_
 refine j0n (j0j (is := []) (xs := []) (vs := []) x1y rfl rfl) rfl ?_
 refine j0u (y0M 7 rfl rfl) rfl ?_
 refine wl ?_
 refine j0u (x1P [(1000, 7)] hf rfl rfl ⟨rfl, trivial⟩ rfl) rfl ?_
 refine wl ?_
 rw [hz]
 refine wl ?_
 refine j0u (j0h [(1000, 7)] h4 rfl ⟨rfl, trivial⟩ rfl) rfl ?_
 refine wl ?_
 exact zW
theorem J0b (a b : Int) (ha : LI 1000 a) (hb : LI 1000 b) (h : LI 1000 (a * b)) : CtrH Tryz.prog 85 [.own 1000 0, .av (.sl 2 1 (fun i _ => vI (two a b i)))] [(1000, E0)] (.av (vI (a * b))) [(1000, E0)] := by
 have e1 : Y0a (two a b) 1 = a := by show 1 * a = _; rw [Int.one_mul]
 have e2 : Y0a (two a b) 2 = a * b := by show Y0a (two a b) 1 * b = _; rw [e1]
 have := k1r 2 (two a b) zE (fun i hi => by rcases (by omega : i = 0 ∨ i = 1) with rfl | rfl <;> assumption) (fun i hi => by
  rcases (by omega : i = 0 ∨ i = 1 ∨ i = 2) with rfl | rfl | rfl
  ·exact LI.small (show (1 : Int).natAbs < 10 by decide) zE
  ·rw [e1]; exact ha
  ·rw [e2]; exact h)
 rwa [e2] at this
theorem q2b (n p m q : Int) (hn : LI 400 n) (hp : LI 400 p) (hm : LI 400 m) (hq : LI 400 q) : CtrH Tryz.prog 111 [.own 1000 0, .av (vI n), .av (vI p), .av (vI m), .av (vI q)] [(1000, E0)] (.av (j0x [vI (n * q + m * p), vI (p * q)])) [(1000, E0)] := by
 have b := fun (x y : Int) (hx : LI 400 x) (hy : LI 400 y) => (by have h := LI.mul hx hy; exact h : LI 800 (x * y))
 have M := fun (x : Int) (h : LI 400 x) => (h.mono zE : LI 1000 x)
 have c1 := J0b n q (M _ hn) (M _ hq) ((b _ _ hn hq).mono zE)
 have c2 := J0b m p (M _ hm) (M _ hp) ((b _ _ hm hp).mono zE)
 have c3 := J0b p q (M _ hp) (M _ hq) ((b _ _ hp hq).mono zE)
 have c4 := k1h (n * q) (m * p) ((b _ _ hn hq).mono zE) ((b _ _ hm hp).mono zE) (((b _ _ hn hq).add (b _ _ hm hp)).mono zE)
 refine z0o _ Tryz.func111 rfl rfl Tryz.ntmps111 rfl rfl fun w Z ν => ?_
 refine zU ?_
 refine wl ?_
 refine j0n (v0M rfl rfl) rfl ?_
 refine wl ?_
 refine j0u (j0h [] c1 rfl ⟨rfl, trivial⟩ rfl) rfl ?_
 refine wl ?_
 refine j0n (v0M rfl rfl) rfl ?_
 refine wl ?_
 refine j0u (j0h [] c2 rfl ⟨rfl, trivial⟩ rfl) rfl ?_
 refine wl ?_
 refine j0u (j0h [] c4 rfl ⟨rfl, trivial⟩ rfl) rfl ?_
 refine wl ?_
 refine j0n (v0M rfl rfl) rfl ?_
 refine wl ?_
 refine j0u (j0h [] c3 rfl ⟨rfl, trivial⟩ rfl) rfl ?_
 refine wl ?_
 exact j0U (T' := [(10, .av (vI (n * q + m * p))), (11, .av (vI (p * q)))]) (O' := [(1000, E0)]) (ent zS zT) (J0C (rvs := [_, _]) (τs := [_, _]) rfl rfl rfl ⟨.tmp rfl, .tmp rfl, trivial⟩ rfl)
theorem q2x (n p m q : Int) (hn : LI 400 n) (hp : LI 400 p) (hm : LI 400 m) (hq : LI 400 q) : CtrH Tryz.prog 83 [.own 1000 0, .av (vI n), .av (vI p), .av (vI m), .av (vI q)] [(1000, E0)] (.av (j0x [vI (n * q - m * p), vI (p * q)])) [(1000, E0)] := by
 have b := fun (x y : Int) (hx : LI 400 x) (hy : LI 400 y) => (by have h := LI.mul hx hy; exact h : LI 800 (x * y))
 have M := fun (x : Int) (h : LI 400 x) => (h.mono zE : LI 1000 x)
 have c1 := J0b n q (M _ hn) (M _ hq) ((b _ _ hn hq).mono zE)
 have c2 := J0b m p (M _ hm) (M _ hp) ((b _ _ hm hp).mono zE)
 have c3 := J0b p q (M _ hp) (M _ hq) ((b _ _ hp hq).mono zE)
 have c4 := Q1j (n * q) (m * p) ((b _ _ hn hq).mono zE) ((b _ _ hm hp).mono zE) (((b _ _ hn hq).sub (b _ _ hm hp)).mono zE)
 refine z0o _ Tryz.func83 rfl rfl Tryz.ntmps83 rfl rfl fun w Z ν => ?_
 refine zU ?_
 refine wl ?_
 refine j0n (v0M rfl rfl) rfl ?_
 refine wl ?_
 refine j0u (j0h [] c1 rfl ⟨rfl, trivial⟩ rfl) rfl ?_
 refine wl ?_
 refine j0n (v0M rfl rfl) rfl ?_
 refine wl ?_
 refine j0u (j0h [] c2 rfl ⟨rfl, trivial⟩ rfl) rfl ?_
 refine wl ?_
 refine j0u (j0h [] c4 rfl ⟨rfl, trivial⟩ rfl) rfl ?_
 refine wl ?_
 refine j0n (v0M rfl rfl) rfl ?_
 refine wl ?_
 refine j0u (j0h [] c3 rfl ⟨rfl, trivial⟩ rfl) rfl ?_
 refine wl ?_
 exact j0U (T' := [(10, .av (vI (n * q - m * p))), (11, .av (vI (p * q)))]) (O' := [(1000, E0)]) (ent zS zT) (J0C (rvs := [_, _]) (τs := [_, _]) rfl rfl rfl ⟨.tmp rfl, .tmp rfl, trivial⟩ rfl)
theorem q2p (n p m q : Int) (hn : LI 400 n) (hp : LI 400 p) (hm : LI 400 m) (hq : LI 400 q) : CtrH Tryz.prog 87 [.own 1000 0, .av (vI n), .av (vI p), .av (vI m), .av (vI q)] [(1000, E0)] (.av (j0x [vI (n * m), vI (p * q)])) [(1000, E0)] := by
 have b := fun (x y : Int) (hx : LI 400 x) (hy : LI 400 y) => (by have h := LI.mul hx hy; exact h : LI 800 (x * y))
 have M := fun (x : Int) (h : LI 400 x) => (h.mono zE : LI 1000 x)
 have c1 := J0b n m (M _ hn) (M _ hm) ((b _ _ hn hm).mono zE)
 have c3 := J0b p q (M _ hp) (M _ hq) ((b _ _ hp hq).mono zE)
 refine z0o _ Tryz.func87 rfl rfl Tryz.ntmps87 rfl rfl fun w Z ν => ?_
 refine zU ?_
 refine wl ?_
 refine j0n (v0M rfl rfl) rfl ?_
 refine wl ?_
 refine j0u (j0h [] c1 rfl ⟨rfl, trivial⟩ rfl) rfl ?_
 refine wl ?_
 refine j0n (v0M rfl rfl) rfl ?_
 refine wl ?_
 refine j0u (j0h [] c3 rfl ⟨rfl, trivial⟩ rfl) rfl ?_
 refine wl ?_
 exact j0U (T' := [(10, .av (vI (n * m))), (11, .av (vI (p * q)))]) (O' := [(1000, E0)]) (ent zS zT) (J0C (rvs := [_, _]) (τs := [_, _]) rfl rfl rfl ⟨.tmp rfl, .tmp rfl, trivial⟩ rfl)
end Go.Proofs.YtgblokifbgeegaaGreatDoor
end
namespace Go.Proofs.YtgblokifbgeegaaGreatDoor
open Go Go.Vc Go.RowKit Go.Na Go.Lib
set_option maxHeartbeats 4000000
theorem K1E (q r : Rat) : (q.den : Int) * r.den ≠ 0 := by
 have h1 := q.den_pos
 have h2 := r.den_pos
 exact Int.mul_ne_zero zO zO
theorem li4 {x y : Int} (hx : LI 400 x) (hy : LI 400 y) : LI 1000 (x * y) := (LI.mul hx hy).mono (by decide)
theorem W1F (q r : Rat) (hq : LR 400 q) (hr : LR 400 r) : CtrA Tryz.prog 71 [vR q, vR r] (j0x [vR (q + r), vi 0]) := by
 have h := k0P 111 q r (q.num * r.den + r.num * q.den) (q.den * r.den) (hq.mono zE) (hr.mono zE) ((LI.add (LI.mul hq.1 hr.2) (LI.mul hr.1 hq.2)).mono zE) (li4 hq.2 hr.2) (K1E q r) (q2b q.num q.den r.num r.den hq.1 hq.2 hr.1 hr.2)
 rw [← add_eq] at h
 refine j0p _ Tryz.func71 rfl rfl Tryz.ntmps71 rfl fun w Z => ?_
 refine zU ?_
 refine wl ?_
 exact zW
theorem W1I (q r : Rat) (hq : LR 400 q) (hr : LR 400 r) : CtrA Tryz.prog 47 [vR q, vR r] (j0x [vR (q - r), vi 0]) := by
 have h := k0P 83 q r (q.num * r.den - r.num * q.den) (q.den * r.den) (hq.mono zE) (hr.mono zE) ((LI.sub (LI.mul hq.1 hr.2) (LI.mul hr.1 hq.2)).mono zE) (li4 hq.2 hr.2) (K1E q r) (q2x q.num q.den r.num r.den hq.1 hq.2 hr.1 hr.2)
 rw [← sub_eq] at h
 refine j0p _ Tryz.func47 rfl rfl Tryz.ntmps47 rfl fun w Z => ?_
 refine zU ?_
 refine wl ?_
 exact zW
theorem w1B (q r : Rat) (hq : LR 400 q) (hr : LR 400 r) : CtrA Tryz.prog 49 [vR q, vR r] (j0x [vR (q * r), vi 0]) := by
 have h := k0P 87 q r (q.num * r.num) (q.den * r.den) (hq.mono zE) (hr.mono zE) (li4 hq.1 hr.1) (li4 hq.2 hr.2) (K1E q r) (q2p q.num q.den r.num r.den hq.1 hq.2 hr.1 hr.2)
 rw [← mul_eq] at h
 refine j0p _ Tryz.func49 rfl rfl Tryz.ntmps49 rfl fun w Z => ?_
 refine zU ?_
 refine wl ?_
 exact zW
theorem z0e (n : Int) (h : -9223372036854775808 ≤ n ∧ n ≤ 9223372036854775807) : CtrA Tryz.prog 48 [vi n] (vI n) := by
 have h1 := X0j n h
 refine j0p _ Tryz.func48 rfl rfl Tryz.ntmps48 rfl fun w Z => ?_
 refine zU ?_
 refine wl ?_
 exact zV
theorem Q0D (q r : Rat) (hq : LR 400 q) (hr : LR 400 r) : CtrA Tryz.prog 61 [vR q, vR r] (j0x [vi (rsg (q - r)), vi 0]) := by
 have M := fun (x : Int) (h : LI 400 x) => (h.mono zE : LI 1000 x)
 have h1 := J0L q r (hq.mono zE) (hr.mono zE)
 have h2 := K0b q (hq.mono zE)
 have h3 := K0b r (hr.mono zE)
 have c1 := J0b q.num r.den (M _ hq.1) (M _ hr.2) (li4 hq.1 hr.2)
 have c2 := J0b r.num q.den (M _ hr.1) (M _ hq.2) (li4 hr.1 hq.2)
 have c3 := V0I (q.num * r.den) (r.num * q.den) (li4 hq.1 hr.2) (li4 hr.1 hq.2)
 rw [w1T] at c3
 refine j0p _ Tryz.func61 rfl rfl Tryz.ntmps61 rfl fun w Z => ?_
 refine zU ?_
 refine wl ?_
 refine j0n (v1t rfl rfl) rfl ?_
 refine wl ?_
 refine j0n (j0j (is := []) (xs := []) (vs := []) x1y rfl rfl) rfl ?_
 refine j0u (y0M 7 rfl rfl) rfl ?_
 refine wl ?_
 refine j0n (v0M rfl rfl) rfl ?_
 refine wl ?_
 refine j0u (j0h [(1000, 7)] c1 rfl ⟨rfl, trivial⟩ rfl) rfl ?_
 refine wl ?_
 refine j0n (v0M rfl rfl) rfl ?_
 refine wl ?_
 refine j0u (j0h [(1000, 7)] c2 rfl ⟨rfl, trivial⟩ rfl) rfl ?_
 refine wl ?_
 exact zW
theorem z1t (n d : Int) (hn : LI 1000 n) (hdd : LI 1000 d) (hd : d ≠ 0) : CtrA Tryz.prog 206 [vI n, vI d] (j0x [vR (Rat.divInt n d), vi 0]) := by
 have h4 := Y0f n d hn hdd hd
 have hz := w0q d
 rw [decide_eq_false hd] at hz
 refine j0p _ Tryz.func206 rfl rfl Tryz.ntmps206 rfl fun w Z => ?_
 refine zU ?_
 refine wl ?_
 refine j0n (v0M rfl rfl) rfl ?_
 refine wl ?_
 refine j0f (γ := Nat) (fun i => [(0, .av (vI n)), (1, .av (vI d)), (13, .av (.sl 2 1 (fun i _ => vI (two n d i)))), (14, .av (vi 2)), (15, .av (vi i))]) (fun _ => []) (fun i => i ≤ 2) (fun i => 2 - i) 0 (Nat.zero_le _) (ent zS trivial) ?_
 intro i hi
 refine wl ?_
 (refine j0a rfl ?_ ?_ <;> intro hb <;> (try simp only [zA, zB, zG, zC, zD, zN] at hb) <;> (try exact zQ))
 ·have hc := x0U (two n d i) (by rcases (by omega : i = 0 ∨ i = 1) with rfl | rfl <;> assumption)
  refine wl ?_
  exact j0c (i + 1) zO zO (ent zS trivial)
 ·refine wl ?_
  rw [hz]
  refine wl ?_
  refine j0n (j0j (is := []) (xs := []) (vs := []) x1y rfl rfl) rfl ?_
  refine j0u (y0M 7 rfl rfl) rfl ?_
  refine wl ?_
  refine j0u (j0h [(1000, 7)] h4 rfl ⟨rfl, trivial⟩ rfl) rfl ?_
  refine wl ?_
  exact zW
end Go.Proofs.YtgblokifbgeegaaGreatDoor
namespace Go.Proofs
open Go.Shelf
def Tryz.laysSlF06_f246_ren : Go.Shelf.Ren := ⟨fun | 6 => 256 | 15 => 233 | 14 => 285 | 28 => 272 | 29 => 247 | 20 => 302 | 21 => 303 | 22 => 304 | 23 => 305 | 24 => 306 | 25 => 307 | 26 => 308 | 27 => 309 | 46 => 315 | 47 => 294 | 48 => 295 | 49 => 316 | 50 => 317 | 57 => 319 | n => n, fun | 22 => 173 | 24 => 179 | 25 => 270 | 3 => 3 | 39 => 278 | 0 => 0 | 53 => 291 | 55 => 254 | 4 => 4 | 46 => 306 | 45 => 305 | 50 => 311 | 5 => 5 | 9 => 9 | 66 => 328 | 70 => 332 | 76 => 354 | 77 => 355 | n => n, fun | n => n⟩
theorem Tryz.laysSlF06_f246 : Go.Proofs.SlLaysF0.n6 Tryz.prog Tryz.laysSlF06_f246_ren := {
 mixed := by kernel_rfl
 f6 := ⟨Tryz.f256.name, by decide, Tryz.func256.trans (congrArg some (by kernel_rfl))⟩
 f14 := ⟨Tryz.f285.name, by decide, Tryz.func285.trans (congrArg some (by kernel_rfl))⟩
 f15 := Tryz.func233.trans (congrArg some (by kernel_rfl))
 f20 := ⟨Tryz.f302.name, by decide, Tryz.func302.trans (congrArg some (by kernel_rfl))⟩
 f21 := ⟨Tryz.f303.name, by decide, Tryz.func303.trans (congrArg some (by kernel_rfl))⟩
 f22 := ⟨Tryz.f304.name, by decide, Tryz.func304.trans (congrArg some (by kernel_rfl))⟩
 f23 := ⟨Tryz.f305.name, by decide, Tryz.func305.trans (congrArg some (by kernel_rfl))⟩
 f24 := ⟨Tryz.f306.name, by decide, Tryz.func306.trans (congrArg some (by kernel_rfl))⟩
 f25 := ⟨Tryz.f307.name, by decide, Tryz.func307.trans (congrArg some (by kernel_rfl))⟩
 f26 := ⟨Tryz.f308.name, by decide, Tryz.func308.trans (congrArg some (by kernel_rfl))⟩
 f27 := ⟨Tryz.f309.name, by decide, Tryz.func309.trans (congrArg some (by kernel_rfl))⟩
 f28 := Tryz.func272.trans (congrArg some (by kernel_rfl))
 f29 := Tryz.func247.trans (congrArg some (by kernel_rfl))
 f46 := ⟨Tryz.f315.name, by decide, Tryz.func315.trans (congrArg some (by kernel_rfl))⟩
 f47 := Tryz.func294.trans (congrArg some (by kernel_rfl))
 f48 := Tryz.func295.trans (congrArg some (by kernel_rfl))
 f49 := ⟨Tryz.f316.name, by decide, Tryz.func316.trans (congrArg some (by kernel_rfl))⟩
 f50 := ⟨Tryz.f317.name, by decide, Tryz.func317.trans (congrArg some (by kernel_rfl))⟩
 f57 := ⟨Tryz.f319.name, by decide, Tryz.func319.trans (congrArg some (by kernel_rfl))⟩
 t0 := Tryz.underlying0
 a0 := Tryz.isAgg0
 z0 := Tryz.sizeOf0
 v0 := Tryz.zeroValue0
 t3 := Tryz.underlying3
 a3 := Tryz.isAgg3
 z3 := Tryz.sizeOf3
 v3 := Tryz.zeroValue3
 t4 := Tryz.underlying4
 a4 := Tryz.isAgg4
 z4 := Tryz.sizeOf4
 v4 := Tryz.zeroValue4
 t5 := Tryz.underlying5
 a5 := Tryz.isAgg5
 z5 := Tryz.sizeOf5
 v5 := Tryz.zeroValue5
 t9 := Tryz.underlying9
 a9 := Tryz.isAgg9
 z9 := Tryz.sizeOf9
 v9 := Tryz.zeroValue9
 t22 := Tryz.underlying173
 a22 := Tryz.isAgg173
 z22 := Tryz.sizeOf173
 v22 := Tryz.zeroValue173
 t25 := Tryz.underlying270
 a25 := Tryz.isAgg270
 z25 := Tryz.sizeOf270
 v25 := Tryz.zeroValue270
 t39 := Tryz.underlying278
 a39 := Tryz.isAgg278
 z39 := Tryz.sizeOf278
 v39 := Tryz.zeroValue278
 t45 := Tryz.underlying305
 a45 := Tryz.isAgg305
 z45 := Tryz.sizeOf305
 v45 := Tryz.zeroValue305
 t46 := Tryz.underlying306
 a46 := Tryz.isAgg306
 z46 := Tryz.sizeOf306
 v46 := Tryz.zeroValue306
 t50 := Tryz.underlying311
 a50 := Tryz.isAgg311
 z50 := Tryz.sizeOf311
 v50 := Tryz.zeroValue311
 t53 := Tryz.underlying291
 a53 := Tryz.isAgg291
 z53 := Tryz.sizeOf291
 v53 := Tryz.zeroValue291
 t55 := Tryz.underlying254
 a55 := Tryz.isAgg254
 z55 := Tryz.sizeOf254
 v55 := Tryz.zeroValue254
 t66 := Tryz.underlying328
 a66 := Tryz.isAgg328
 z66 := Tryz.sizeOf328
 v66 := Tryz.zeroValue328
 t70 := Tryz.underlying332
 a70 := Tryz.isAgg332
 z70 := Tryz.sizeOf332
 v70 := Tryz.zeroValue332
 t76 := Tryz.underlying354
 a76 := Tryz.isAgg354
 z76 := Tryz.sizeOf354
 v76 := Tryz.zeroValue354
 t77 := Tryz.underlying355
 a77 := Tryz.isAgg355
 z77 := Tryz.sizeOf355
 v77 := Tryz.zeroValue355 }
end Go.Proofs
namespace Go.Proofs.YtgblokifbgeegaaGreatDoor.H
open Go.Vc
def V0Y (l : List Pt) (v : List Nat) (i : Nat) : Bool := decide (i = 0) || decide (gp l (gi v i) ≠ gp l (gi v (i - 1)))
def q0B (l : List Pt) (v : List Nat) (m : Nat) : List Nat := ((List.range m).filter (V0Y l v)).map (gi v)
def cpt (l : List Pt) (v : List Nat) : List Nat := q0B l v v.length
def pop (l : List Pt) (i : Nat) : List Nat → List Nat
 |b :: a :: r => if crs (gp l a) (gp l b) (gp l i) ≤ 0 then pop l i (a :: r) else b :: a :: r
 |s => s
def stk (l : List Pt) (v : List Nat) : List Nat := v.foldl (fun st i => i :: pop l i st) []
def chain (l : List Pt) (v : List Nat) : List Nat := (stk l v).tail.reverse
theorem v0l (l : List Pt) (v : List Nat) (m : Nat) : q0B l v (m + 1) = if V0Y l v m = true then q0B l v m ++ [gi v m] else q0B l v m := by
 simp only [q0B, List.range_succ, List.filter_append, List.map_append]
 split <;> rename_i h <;> simp [List.filter, h]
theorem X0y (l : List Pt) (v : List Nat) (m : Nat) : (q0B l v m).length ≤ m := by
 have := List.length_filter_le (V0Y l v) (List.range m)
 simpa [q0B] using this
theorem V1K (v : List Nat) (m k : Nat) : gi (v.take m) k = if k < m then gi v k else 0 := by
 simp only [gi, List.getD, List.getElem?_take]
 split <;> rfl
theorem y0C (l : List Pt) (v : List Nat) : ∀ (m : Nat), m ≤ v.length → (∀ i, i < m → V0Y l v i = true) → q0B l v m = v.take m
 |0, _, _ => rfl
 |m + 1, hm, h => by
  rw [v0l, if_pos (h m (by omega)), y0C l v m (by omega) (fun i hi => h i (by omega)), List.take_succ_eq_append_getElem (by omega), v0G (by omega)]
theorem V0q (b : Nat) (r : List Nat) : gi (b :: r).reverse r.length = b := by
 simp [gi, List.getD]
theorem y0n (b : Nat) (r : List Nat) {k : Nat} (h : k < r.length) : gi (b :: r).reverse k = gi r.reverse k := by
 simp only [gi, List.getD, List.reverse_cons]
 rw [List.getElem?_append_left (by simpa using h)]
theorem X0z {l : List Pt} {v : List Nat} (h : v.length < 2) : cpt l v = v := by
 rw [cpt, y0C l v _ (Nat.le_refl _) (fun i hi => by simp [V0Y, show i = 0 by omega]), List.take_length]
def v0k (l : List Pt) : List Nat := if chk l = 0 then X1W l else []
def arr (l : List Pt) : List Nat := if (cpt l (v0k l)).length < 3 then cpt l (v0k l) else chain l (cpt l (v0k l)) ++ chain l (cpt l (v0k l)).reverse
theorem q1z {l : List Pt} (h : chk l = 0) : ∀ i, SmP (gp l i) := by
 refine J1b (q := SmP) (fun p hp => ?_) Q1Q
 unfold chk at h
 split at h
 ·cases h
 ·split at h
  ·rename_i h2
   have := List.all_eq_true.1 h2 p hp
   simp [x0v, inB] at this
   simp only [SmP, Sm]; omega
  ·cases h
theorem Z0f (l : List Pt) (i : Nat) : ∀ (st : List Nat), 0 < st.length → 0 < (pop l i st).length
 |[], h => by simp at h
 |[x], _ => by simp [pop]
 |b :: a :: r, _ => by
  unfold pop
  split
  ·exact Z0f l i (a :: r) (by simp)
  ·simp
theorem Z0v (l : List Pt) (v : List Nat) (h : 1 < v.length) : 1 < (stk l v).length := by
 match v, h with
 |x :: y :: v, _ =>
  have key : ∀ (v : List Nat) (st : List Nat), 1 < st.length → 1 < (v.foldl (fun st i => i :: pop l i st) st).length := by
   intro v
   induction v with
   |nil => intro st h; exact h
   |cons z v ih => intro st h; exact ih _ (by have := Z0f l z st (by omega); simp; omega)
  unfold stk
  simp only [List.foldl_cons]
  exact key v _ (by have := Z0f l y [x] (by simp); simp [pop])
theorem q1x (l : List Pt) (v : List Nat) (h : 1 < v.length) : 0 < (chain l v).length := by
 have := Z0v l v h
 simp [chain]; omega
theorem V0t {lt : Nat → Nat → Bool} {a b : Nat} {p : Nat → Prop} : ∀ (m : Nat) {v : List Nat} {i : Nat}, b - i = m → b ≤ v.length → (∀ k, k < v.length → p (gi v k)) → ∀ k, k < (q0R lt a b v i).length → p (gi (q0R lt a b v i) k)
 |0, v, i, hm, hb, h => by rw [z0D (by omega)]; exact h
 |m + 1, v, i, hm, hb, h => by
  rw [w0d (by omega)]
  exact V0t m (by omega) (by rw [J0z]; omega) (K0j (by omega) h)
theorem Z0c (l : List Pt) : ∀ k, k < (v0k l).length → gi (v0k l) k < l.length := by
 unfold v0k
 split
 ·exact V0t (p := fun x => x < l.length) _ rfl (by simp) (fun k hk => by simp at hk; rw [y1V hk]; exact hk)
 ·intro k hk; simp at hk
theorem W0A (l : List Pt) : (v0k l).length ≤ l.length := by
 unfold v0k; split
 ·simp [X1W, V0u]
 ·simp
theorem V1l {l : List Pt} {v : List Nat} {p : Nat → Prop} (h : ∀ k, k < v.length → p (gi v k)) : ∀ m, m ≤ v.length → ∀ k, k < (q0B l v m).length → p (gi (q0B l v m) k)
 |0, _ => fun k hk => by simp [q0B] at hk
 |m + 1, hm => by
  rw [v0l]
  split
  ·exact Q1Y (p := p) (V1l h m zO) (h m zO)
  ·exact V1l h m zO
theorem K1Y {v : List Nat} {p : Nat → Prop} (h : ∀ k, k < v.length → p (gi v k)) : ∀ k, k < v.reverse.length → p (gi v.reverse k) := by
 intro k hk
 simp at hk
 have h2 : v.length - 1 - k < v.length := by omega
 have e : gi v.reverse k = gi v (v.length - 1 - k) := by simp [gi, List.getD, hk, h2]
 rw [e]; exact h _ h2
theorem J1V (l : List Pt) (i : Nat) : ∀ (st : List Nat), (pop l i st).length ≤ st.length
 |[] => by simp [pop]
 |[x] => by simp [pop]
 |b :: a :: r => by
  unfold pop
  split
  ·have := J1V l i (a :: r); simp at this ⊢; omega
  ·simp
theorem k1x (l : List Pt) (v : List Nat) : (stk l v).length ≤ v.length := by
 have key : ∀ (v : List Nat) (st : List Nat), (v.foldl (fun st i => i :: pop l i st) st).length ≤ st.length + v.length := by
  intro v
  induction v with
  |nil => intro st; simp
  |cons z v ih => intro st; have := ih (z :: pop l z st); have := J1V l z st; simp at *; omega
 have := key v []
 simpa [stk] using this
theorem J0h (l : List Pt) (v : List Nat) : (chain l v).length ≤ v.length := by
 have := k1x l v
 simp [chain]; omega
end Go.Proofs.YtgblokifbgeegaaGreatDoor.H
namespace Go.Proofs.YtgblokifbgeegaaGreatDoor.H.G
open Go.Vc
def lf (α β : Int) (a b : Pt) : Int := α * (b.x - a.x) + β * (b.y - a.y)
theorem id3 (α β : Int) (p a b c : Pt) : crs p b c * lf α β p a + crs p c a * lf α β p b + crs p a b * lf α β p c = 0 := by
 simp only [crs, trn, sub, lf]; grind
theorem y0H (a b c : Pt) : crs a c b = - crs a b c := by simp only [crs, trn, sub]; grind
theorem y0f (a b c : Pt) : crs b c a = crs a b c := by simp only [crs, trn, sub]; grind
theorem w0k (a b c : Pt) : crs c a b = crs a b c := by simp only [crs, trn, sub]; grind
theorem j0R (a b c : Pt) : crs b a c = - crs a b c := by simp only [crs, trn, sub]; grind
theorem q1L (p a b c : Pt) : crs a b c = crs p a b + crs p b c + crs p c a := by simp only [crs, trn, sub]; grind
theorem Z0Z (a b : Pt) : crs a a b = 0 := by simp only [crs, trn, sub]; grind
theorem X0A (a b : Pt) : crs a b b = 0 := by simp only [crs, trn, sub]; grind
theorem X0B (a b : Pt) : crs a b a = 0 := by simp only [crs, trn, sub]; grind
theorem x0c (α β : Int) (a : Pt) : lf α β a a = 0 := by simp only [lf]; grind
theorem v0b (α β : Int) (a b : Pt) : lf α β b a = - lf α β a b := by simp only [lf]; grind
theorem J1I (α β : Int) (a b c : Pt) : lf α β a c = lf α β a b + lf α β b c := by simp only [lf]; grind
theorem Y1z (a b p : Pt) : crs a b p = lf (-(b.y - a.y)) (b.x - a.x) a p := by simp only [crs, trn, sub, lf]; grind
theorem x0t {a b : Int} (h : 0 < a) (k : 0 < b) : 0 < a * b := Int.mul_pos h k
theorem z0b {a b : Int} (h : 0 ≤ a) (k : 0 ≤ b) : 0 ≤ a * b := Int.mul_nonneg h k
theorem z0T {a b : Int} (h : a ≤ 0) (k : 0 ≤ b) : a * b ≤ 0 := Int.mul_nonpos_of_nonpos_of_nonneg h k
theorem Z1U {a b : Int} (h : 0 ≤ a) (k : b ≤ 0) : a * b ≤ 0 := Int.mul_nonpos_of_nonneg_of_nonpos h k
theorem Q0u {a b : Int} (h : a ≤ 0) (k : b ≤ 0) : 0 ≤ a * b := Int.mul_nonneg_of_nonpos_of_nonpos h k
theorem z0a {a b : Int} (h : a < 0) (k : 0 < b) : a * b < 0 := Int.mul_neg_of_neg_of_pos h k
theorem z1g {a b : Int} (h : 0 < a) (k : b < 0) : a * b < 0 := Int.mul_neg_of_pos_of_neg h k
theorem W0y {a b : Int} (h : a < 0) (k : b < 0) : 0 < a * b := Int.mul_pos_of_neg_of_neg h k
theorem K1Z {x y z a b c : Int} (h : x * a + y * b + z * c = 0) (ha : 0 < a) (hy : y * b ≤ 0) (hz : z * c ≤ 0) : 0 ≤ x := by
 rcases Int.lt_or_le x 0 with hx | hx
 ·have := z0a hx ha; omega
 ·exact hx
theorem Z1O {α β : Int} {p a b c : Pt} (h0 : crs a b c ≠ 0) (hs : (0 ≤ crs a b p ∧ 0 ≤ crs b c p ∧ 0 ≤ crs c a p) ∨ (crs a b p ≤ 0 ∧ crs b c p ≤ 0 ∧ crs c a p ≤ 0))
  (ha : 0 < lf α β p a) (hb : 0 < lf α β p b) (hc : 0 < lf α β p c) : False := by
 have h := id3 α β p a b c
 have hsum := q1L p a b c
 rw [← w0k a b p, ← w0k b c p, ← w0k c a p] at hs
 rcases hs with ⟨h1, h2, h3⟩ | ⟨h1, h2, h3⟩
 ·have e1 := z0b h2 (Int.le_of_lt ha)
  have e2 := z0b h3 (Int.le_of_lt hb)
  have e3 := z0b h1 (Int.le_of_lt hc)
  have z1 : crs p b c = 0 := by
   rcases Int.lt_or_le 0 (crs p b c) with hx | hx
   ·have := x0t hx ha; omega
   ·omega
  have z2 : crs p c a = 0 := by
   rcases Int.lt_or_le 0 (crs p c a) with hx | hx
   ·have := x0t hx hb; omega
   ·omega
  have z3 : crs p a b = 0 := by
   rcases Int.lt_or_le 0 (crs p a b) with hx | hx
   ·have := x0t hx hc; omega
   ·omega
  omega
 ·have e1 := z0T h2 (Int.le_of_lt ha)
  have e2 := z0T h3 (Int.le_of_lt hb)
  have e3 := z0T h1 (Int.le_of_lt hc)
  have z1 : crs p b c = 0 := by
   rcases Int.lt_or_le (crs p b c) 0 with hx | hx
   ·have := z0a hx ha; omega
   ·omega
  have z2 : crs p c a = 0 := by
   rcases Int.lt_or_le (crs p c a) 0 with hx | hx
   ·have := z0a hx hb; omega
   ·omega
  have z3 : crs p a b = 0 := by
   rcases Int.lt_or_le (crs p a b) 0 with hx | hx
   ·have := z0a hx hc; omega
   ·omega
  omega
theorem q1U (a : Pt) : 0 ≤ dot a a := by
 simp only [dot]
 have h1 : 0 ≤ a.x * a.x := by rcases Int.le_total 0 a.x with h | h; exact z0b h h; exact Q0u h h
 have h2 : 0 ≤ a.y * a.y := by rcases Int.le_total 0 a.y with h | h; exact z0b h h; exact Q0u h h
 omega
theorem x1m {a : Int} (h : a * a ≤ 0) : a = 0 := by
 rcases Int.lt_trichotomy a 0 with h1 | h1 | h1
 ·have := W0y h1 h1; omega
 ·exact h1
 ·have := x0t h1 h1; omega
theorem k1v (a : Int) : 0 ≤ a * a := by
 rcases Int.le_total 0 a with h | h
 ·exact z0b h h
 ·exact Q0u h h
theorem J0R {a : Pt} (h : dot a a ≤ 0) : a = ⟨0, 0⟩ := by
 simp only [dot] at h
 have h1 := k1v a.x
 have h2 := k1v a.y
 have h3 := x1m (show a.x * a.x ≤ 0 by omega)
 have h4 := x1m (show a.y * a.y ≤ 0 by omega)
 cases a; simp at h3 h4; simp [h3, h4]
theorem w1k (α β : Int) (a b p : Pt) (h : crs a b p = 0) : lf α β p a * dot (sub b p) (sub b p) = lf α β p b * dot (sub a p) (sub b p) := by
 have h2 : (b.x - a.x) * (p.y - a.y) - (b.y - a.y) * (p.x - a.x) = 0 := h
 simp only [lf, dot, sub]
 grind
theorem Z1N {α β : Int} {p a b : Pt} (h0 : crs a b p = 0) (hd : dot (sub a p) (sub b p) ≤ 0) (ha : 0 < lf α β p a) (hb : 0 < lf α β p b) : False := by
 have h := w1k α β a b p h0
 have h1 := Z1U (Int.le_of_lt hb) hd
 have h2 := q1U (sub b p)
 have h3 : dot (sub b p) (sub b p) ≠ 0 := fun e => by
  have e2 := J0R (a := sub b p) zO
  simp only [sub, Pt.mk.injEq] at e2
  have : lf α β p b = 0 := by simp only [lf, e2.1, e2.2]; simp
  omega
 have := x0t ha (show 0 < dot (sub b p) (sub b p) by omega)
 omega
end Go.Proofs.YtgblokifbgeegaaGreatDoor.H.G
section
namespace Go.Proofs.YtgblokifbgeegaaGreatDoor.H.G
open Go.Vc
section
variable (l : List Pt) (α β : Int)
def J0F (P : List Nat) : List Nat → Prop
 |b :: a :: r => (∀ p ∈ P, 0 ≤ crs (gp l a) (gp l b) (gp l p)) ∧ J0F P (a :: r)
 |_ => True
def j1U : List Nat → Prop
 |c :: b :: a :: r => 0 < crs (gp l a) (gp l b) (gp l c) ∧ j1U (b :: a :: r)
 |_ => True
def X1Z : List Nat → Prop
 |b :: a :: r => 0 < lf α β (gp l a) (gp l b) ∧ X1Z (a :: r)
 |_ => True
def Q1M (P : List Nat) : List Nat → Prop
 |[a] => ∀ p ∈ P, 0 ≤ lf α β (gp l a) (gp l p)
 |_ :: r => Q1M P r
 |[] => True
structure Inv (P st : List Nat) : Prop where
 sub : ∀ x ∈ st, x ∈ P
 edges : J0F l P st
 turns : j1U l st
 inc : X1Z l α β st
 bot : Q1M l α β P st
def K1q (i : Nat) (P : List Nat) : List Nat → Prop
 |b :: _ => ∀ p ∈ P, 0 < lf α β (gp l b) (gp l p) → 0 ≤ crs (gp l b) (gp l i) (gp l p)
 |[] => True
def Q1S (i : Nat) : List Nat → Prop
 |b :: a :: _ => 0 < crs (gp l a) (gp l b) (gp l i)
 |_ => True
end
variable {l : List Pt} {α β : Int}
theorem Inv.tail {P : List Nat} {b a : Nat} {r : List Nat} (h : Inv l α β P (b :: a :: r)) : Inv l α β P (a :: r) :=
 ⟨fun x hx => h.sub x (List.mem_cons_of_mem _ hx), h.edges.2, by have := h.turns; cases r with | nil => trivial | cons c r => exact this.2, h.inc.2, h.bot⟩
theorem w1r (i : Nat) {P : List Nat} (hi : ∀ p ∈ P, 0 < lf α β (gp l p) (gp l i)) : ∀ (st : List Nat), 0 < st.length → Inv l α β P st → K1q l α β i P st →
  Inv l α β P (pop l i st) ∧ K1q l α β i P (pop l i st) ∧ Q1S l i (pop l i st) ∧ 0 < (pop l i st).length
 |[], h, _, _ => by simp at h
 |[x], _, h, ht => by simp only [pop]; exact ⟨h, ht, trivial, by simp⟩
 |b :: a :: r, _, h, ht => by
  unfold pop
  split
  ·rename_i hc
   refine w1r i hi (a :: r) (by simp) h.tail ?_
   intro p hp hap
   have e1 := h.edges.1 p hp
   have hab := h.inc.1
   have hai := hi a (h.sub a (by simp))
   have h3 := id3 α β (gp l a) (gp l b) (gp l i) (gp l p)
   have s1 := y0H (gp l a) (gp l b) (gp l p)
   exact K1Z h3 hab (z0T zO (Int.le_of_lt hai)) (z0T zO (Int.le_of_lt hap))
  ·rename_i hc
   exact ⟨h, ht, by show 0 < _; omega, by simp⟩
theorem k0M (i : Nat) {P : List Nat} (hi : ∀ p ∈ P, 0 < lf α β (gp l p) (gp l i)) : ∀ (st : List Nat), Inv l α β P st → Q1S l i st → J0F l (P ++ [i]) st
 |[], _, _ => trivial
 |[_], _, _ => trivial
 |b :: a :: r, h, ht => by
  refine ⟨fun p hp => ?_, k0M i hi (a :: r) h.tail ?_⟩
  ·rcases List.mem_append.1 hp with hp | hp
   ·exact h.edges.1 p hp
   ·simp at hp; subst hp; exact Int.le_of_lt ht
  ·cases r with
   |nil => trivial
   |cons c r =>
    show 0 < crs (gp l c) (gp l a) (gp l i)
    have t1 : 0 < crs (gp l c) (gp l a) (gp l b) := h.turns.1
    have t2 : 0 < crs (gp l a) (gp l b) (gp l i) := ht
    have i1 : 0 < lf α β (gp l a) (gp l b) := h.inc.1
    have i2 : 0 < lf α β (gp l c) (gp l a) := h.inc.2.1
    have i3 := hi a (h.sub a (by simp))
    have h3 := id3 α β (gp l a) (gp l i) (gp l c) (gp l b)
    have i4 : lf α β (gp l a) (gp l c) < 0 := by rw [v0b]; omega
    have s1 : crs (gp l a) (gp l c) (gp l b) < 0 := by rw [j0R]; omega
    have s2 : crs (gp l a) (gp l i) (gp l c) = crs (gp l c) (gp l a) (gp l i) := y0f _ _ _
    have m1 := z0a s1 i3
    have m2 := z1g t2 i4
    rw [s2] at h3
    rcases Int.lt_or_le 0 (crs (gp l c) (gp l a) (gp l i)) with hx | hx
    ·exact hx
    ·have := z0T hx (Int.le_of_lt i1); omega
theorem Z0O (i : Nat) {P : List Nat} (hi : ∀ p ∈ P, 0 < lf α β (gp l p) (gp l i)) : ∀ (t : Nat) (r : List Nat), Q1M l α β P (t :: r) → (∀ x ∈ t :: r, x ∈ P) → Q1M l α β (P ++ [i]) (t :: r)
 |t, [], hb, hs => by
  intro p hp
  rcases List.mem_append.1 hp with hp | hp
  ·exact hb p hp
  ·simp at hp; subst hp; exact Int.le_of_lt (hi t (hs t (by simp)))
 |t, a :: r, hb, hs => Z0O i hi a r hb (fun x hx => hs x (List.mem_cons_of_mem _ hx))
theorem z1s (i : Nat) {P : List Nat} (hi : ∀ p ∈ P, 0 < lf α β (gp l p) (gp l i)) (hinj : ∀ p ∈ P, ∀ q ∈ P, lf α β (gp l p) (gp l q) = 0 → p = q) : ∀ (st : List Nat), 0 < st.length → Inv l α β P st → K1q l α β i P st → Q1S l i st → Inv l α β (P ++ [i]) (i :: st)
 |[], h, _, _, _ => by simp at h
 |t :: r, _, h, hT, ht => by
  have hti := hi t (h.sub t (by simp))
  refine ⟨fun x hx => ?_, ⟨fun p hp => ?_, k0M i hi _ h ht⟩, ?_, ⟨hti, h.inc⟩, ?_⟩
  ·rcases List.mem_cons.1 hx with rfl | hx
   ·simp
   ·exact List.mem_append_left _ (h.sub x hx)
  ·rcases List.mem_append.1 hp with hp | hp
   ·rcases Int.lt_or_le 0 (lf α β (gp l t) (gp l p)) with hx | hx
    ·exact hT p hp hx
    ·cases r with
     |nil =>
      have := h.bot p hp
      have e := hinj t (h.sub t (by simp)) p hp (by omega)
      subst e
      rw [X0B]; exact Int.le_refl 0
     |cons a r =>
      have e1 := h.edges.1 p hp
      have e2 : 0 < crs (gp l a) (gp l t) (gp l i) := ht
      have e3 : 0 < lf α β (gp l a) (gp l t) := h.inc.1
      have h3 := id3 α β (gp l t) (gp l a) (gp l i) (gp l p)
      have i4 : lf α β (gp l t) (gp l a) < 0 := by rw [v0b]; omega
      have s1 : crs (gp l t) (gp l p) (gp l a) = crs (gp l a) (gp l t) (gp l p) := y0f _ _ _
      have s2 : crs (gp l t) (gp l a) (gp l i) = - crs (gp l a) (gp l t) (gp l i) := j0R _ _ _
      have m1 := z0b e1 (Int.le_of_lt hti)
      have m2 := Q0u (show crs (gp l t) (gp l a) (gp l i) ≤ 0 by omega) hx
      rw [s1] at h3
      rcases Int.lt_or_le (crs (gp l t) (gp l i) (gp l p)) 0 with hy | hy
      ·have := W0y hy i4; omega
      ·exact hy
   ·simp at hp; subst hp; rw [X0A]; exact Int.le_refl 0
  ·cases r with
   |nil => trivial
   |cons a r => exact ⟨ht, h.turns⟩
  ·show Q1M l α β (P ++ [i]) (t :: r)
   exact Z0O i hi t r h.bot h.sub
def UpL (l : List Pt) (α β : Int) (v : List Nat) : Prop := v.Pairwise fun i k => 0 < lf α β (gp l i) (gp l k)
theorem UpL.inj {v : List Nat} (h : UpL l α β v) : ∀ p ∈ v, ∀ q ∈ v, lf α β (gp l p) (gp l q) = 0 → p = q := by
 intro p hp q hq e
 obtain ⟨i, hi, rfl⟩ := List.getElem_of_mem hp
 obtain ⟨k, hk, rfl⟩ := List.getElem_of_mem hq
 rcases Nat.lt_trichotomy i k with h1 | h1 | h1
 ·have := List.pairwise_iff_getElem.1 h i k hi hk h1; omega
 ·subst h1; rfl
 ·have := List.pairwise_iff_getElem.1 h k i hk hi h1
  rw [v0b] at e; omega
theorem W0T (l : List Pt) (v : List Nat) (i : Nat) : stk l (v ++ [i]) = i :: pop l i (stk l v) := by simp [stk, List.foldl_append]
theorem Z0u : ∀ (n : Nat) (v : List Nat), v.length = n → UpL l α β v → Inv l α β v (stk l v) ∧ (∀ x, v.getLast? = some x → (stk l v).head? = some x)
 |0, v, hn, _ => by
  have : v = [] := List.length_eq_zero_iff.1 hn
  subst this
  exact ⟨⟨by simp [stk], trivial, trivial, trivial, trivial⟩, by simp⟩
 |n + 1, v, hn, h => by
  obtain ⟨u, i, rfl⟩ : ∃ u i, v = u ++ [i] := ⟨v.dropLast, v.getLast (by intro e; simp [e] at hn), (List.dropLast_concat_getLast _).symm⟩
  have hu : UpL l α β u := (List.pairwise_append.1 h).1
  have hi : ∀ p ∈ u, 0 < lf α β (gp l p) (gp l i) := fun p hp => (List.pairwise_append.1 h).2.2 p hp i (by simp)
  obtain ⟨ih, ih2⟩ := Z0u n u (by simpa using hn) hu
  refine ⟨?_, fun x hx => by simp at hx; simp [W0T, hx]⟩
  rw [W0T]
  rcases Nat.eq_zero_or_pos u.length with h0 | h0
  ·have : u = [] := List.length_eq_zero_iff.1 h0
   subst this
   simp only [stk, List.foldl_nil, pop, List.nil_append]
   exact ⟨fun x hx => hx, trivial, trivial, trivial, fun p hp => by simp at hp; subst hp; rw [x0c]; exact Int.le_refl 0⟩
  ·have hne : u ≠ [] := by intro e; simp [e] at h0
   have hhd := ih2 (u.getLast hne) (List.getLast?_eq_some_getLast hne)
   have hst : 0 < (stk l u).length := by
    cases hs : stk l u with
    |nil => rw [hs] at hhd; simp at hhd
    |cons a r => simp
   have hT : K1q l α β i u (stk l u) := by
    cases hs : stk l u with
    |nil => trivial
    |cons b r =>
     rw [hs] at hhd
     simp at hhd
     intro p hp hlt
     exfalso
     obtain ⟨k, hk, rfl⟩ := List.getElem_of_mem hp
     have hb : b = u[u.length - 1] := by rw [hhd, List.getLast_eq_getElem]
     rw [hb] at hlt
     rcases Nat.lt_or_ge k (u.length - 1) with h1 | h1
     ·have := List.pairwise_iff_getElem.1 hu k (u.length - 1) hk zO h1
      rw [v0b] at hlt; omega
     ·have : k = u.length - 1 := by omega
      subst this
      rw [x0c] at hlt; omega
   obtain ⟨p1, p2, p3, p4⟩ := w1r i hi (stk l u) hst ih hT
   exact z1s i hi hu.inj _ p4 p1 p2 p3
theorem k0W (l : List Pt) (i : Nat) : ∀ (st : List Nat), (pop l i st).getLast? = st.getLast?
 |[] => by simp [pop]
 |[x] => by simp [pop]
 |b :: a :: r => by
  unfold pop
  split
  ·rw [k0W l i (a :: r)]; simp
  ·rfl
theorem W0S (l : List Pt) : ∀ (n : Nat) (v : List Nat), v.length = n → (stk l v).getLast? = v.head?
 |0, v, hn => by
  have : v = [] := List.length_eq_zero_iff.1 hn
  subst this; rfl
 |n + 1, v, hn => by
  obtain ⟨u, i, rfl⟩ : ∃ u i, v = u ++ [i] := ⟨v.dropLast, v.getLast (by intro e; simp [e] at hn), (List.dropLast_concat_getLast _).symm⟩
  have ih := W0S l n u (by simpa using hn)
  rw [W0T]
  cases u with
  |nil => simp [stk, pop]
  |cons a u =>
   have e : (pop l i (stk l (a :: u))).getLast? = some a := by rw [k0W, ih]; rfl
   cases hp : pop l i (stk l (a :: u)) with
   |nil => rw [hp] at e; simp at e
   |cons b r => rw [hp] at e; simpa using e
theorem span (p : Pt) : ∀ (st : List Nat) (z t : Nat), st.head? = some t → st.getLast? = some z → 2 ≤ st.length → 0 ≤ lf α β (gp l z) p → 0 ≤ lf α β p (gp l t) →
  ∃ r1 b a r2, st = r1 ++ b :: a :: r2 ∧ 0 ≤ lf α β (gp l a) p ∧ 0 ≤ lf α β p (gp l b)
 |[], _, _, h, _, _, _, _ => by simp at h
 |[x], _, _, _, _, h, _, _ => by simp at h
 |b :: a :: r, z, t, ht, hz, _, h1, h2 => by
  simp at ht; subst ht
  rcases Int.le_total 0 (lf α β (gp l a) p) with h3 | h3
  ·exact ⟨[], b, a, r, rfl, h3, h2⟩
  ·cases r with
   |nil => simp at hz; subst hz; exact ⟨[], b, a, [], rfl, h1, h2⟩
   |cons c r =>
    obtain ⟨r1, b', a', r2, e, e1, e2⟩ := span p (a :: c :: r) z a rfl (by simpa using hz) (by simp) h1 (by rw [v0b]; omega)
    exact ⟨b :: r1, b', a', r2, by rw [e]; rfl, e1, e2⟩
theorem v0D {P : List Nat} : ∀ (r1 : List Nat) {b a : Nat} {r2 : List Nat}, J0F l P (r1 ++ b :: a :: r2) → ∀ p ∈ P, 0 ≤ crs (gp l a) (gp l b) (gp l p)
 |[], _, _, _, h => h.1
 |[x], _, _, _, h => h.2.1
 |x :: y :: r1, _, _, _, h => v0D (y :: r1) h.2
theorem Y0W : ∀ (r1 : List Nat) {b a : Nat} {r2 : List Nat}, X1Z l α β (r1 ++ b :: a :: r2) → 0 < lf α β (gp l a) (gp l b)
 |[], _, _, _, h => h.1
 |[x], _, _, _, h => h.2.1
 |x :: y :: r1, _, _, _, h => Y0W (y :: r1) h.2
theorem z0l : ∀ (r1 : List Nat) {c b a : Nat} {r2 : List Nat}, j1U l (r1 ++ c :: b :: a :: r2) → 0 < crs (gp l a) (gp l b) (gp l c)
 |[], _, _, _, _, h => h.1
 |[x], _, _, _, _, h => h.2.1
 |x :: y :: r1, _, _, _, _, h => by
  cases r1 with
  |nil => exact z0l [y] h.2
  |cons z r1 => exact z0l (y :: z :: r1) h.2
theorem k0F : ∀ (st : List Nat), X1Z l α β st → st.Pairwise fun b a => 0 < lf α β (gp l a) (gp l b)
 |[], _ => .nil
 |[x], _ => by simp
 |b :: a :: r, h => by
  have ih := k0F (a :: r) h.2
  refine List.pairwise_cons.2 ⟨fun x hx => ?_, ih⟩
  rcases List.mem_cons.1 hx with rfl | hx
  ·exact h.1
  ·have := (List.pairwise_cons.1 ih).1 x hx
   have h1 := h.1
   rw [J1I α β (gp l x) (gp l a) (gp l b)]; omega
end Go.Proofs.YtgblokifbgeegaaGreatDoor.H.G
end
namespace Go.Proofs.YtgblokifbgeegaaGreatDoor.H.G
open Go.Vc
theorem Q0j (l : List Pt) (p : Pt) : inH l p = true ↔ ∃ i, i < l.length ∧ (gp l i = p ∨ ∃ j, j < i ∧ (btw p (gp l i) (gp l j) = true ∨ ∃ k, k < j ∧ wth p (gp l i) (gp l j) (gp l k) = true)) := by
 unfold inH
 simp only [List.any_eq_true, List.mem_range, Bool.or_eq_true, decide_eq_true_eq]
theorem k1j {n : Int} : 0 ≤ sgn n ↔ 0 ≤ n := by
 unfold sgn; split
 ·omega
 ·split <;> omega
theorem k1k {n : Int} : sgn n ≤ 0 ↔ n ≤ 0 := by
 unfold sgn; split
 ·omega
 ·split <;> omega
def Tri (p a b c : Pt) : Prop := crs a b c ≠ 0 ∧ ((0 ≤ crs a b p ∧ 0 ≤ crs b c p ∧ 0 ≤ crs c a p) ∨ (crs a b p ≤ 0 ∧ crs b c p ≤ 0 ∧ crs c a p ≤ 0))
theorem x1U (p a b c : Pt) : wth p a b c = true ↔ Tri p a b c := by
 unfold wth Tri
 simp only [Bool.and_eq_true, Bool.or_eq_true, decide_eq_true_eq, k1j, k1k, bne_iff_ne, ne_eq, and_assoc]
theorem z0r (p a b : Pt) : btw p a b = true ↔ crs a b p = 0 ∧ dot (sub a p) (sub b p) ≤ 0 := by
 unfold btw
 simp only [Bool.and_eq_true, beq_iff_eq, decide_eq_true_eq]
theorem Tri.rot {p a b c : Pt} (h : Tri p a b c) : Tri p b c a := by
 refine ⟨by rw [y0f]; exact h.1, ?_⟩
 rcases h.2 with ⟨h1, h2, h3⟩ | ⟨h1, h2, h3⟩
 ·exact .inl ⟨h2, h3, h1⟩
 ·exact .inr ⟨h2, h3, h1⟩
theorem Tri.flip {p a b c : Pt} (h : Tri p a b c) : Tri p b a c := by
 refine ⟨by have := h.1; rw [j0R]; omega, ?_⟩
 rw [j0R a b p, j0R c a p, j0R b c p]
 rcases h.2 with ⟨h1, h2, h3⟩ | ⟨h1, h2, h3⟩
 ·exact .inr ⟨by omega, by omega, by omega⟩
 ·exact .inl ⟨by omega, by omega, by omega⟩
theorem y1m (p a b : Pt) : btw p a b = btw p b a := by
 rw [Bool.eq_iff_iff, z0r, z0r, j0R a b p]
 have : dot (sub b p) (sub a p) = dot (sub a p) (sub b p) := by simp only [dot]; grind
 rw [this]; omega
theorem y1n {p a : Pt} (h : btw p a a = true) : a = p := by
 have := J0R ((z0r _ _ _).1 h).2
 simp only [sub, Pt.mk.injEq] at this
 cases a; cases p; simp at this ⊢; omega
theorem Z1s {l : List Pt} {p : Pt} {i : Nat} (hi : i < l.length) (h : gp l i = p) : inH l p = true := (Q0j l p).2 ⟨i, hi, .inl h⟩
theorem v1H {l : List Pt} {p : Pt} {i j : Nat} (hi : i < l.length) (hj : j < l.length) (h : btw p (gp l i) (gp l j) = true) : inH l p = true := by
 rcases Nat.lt_trichotomy j i with h1 | h1 | h1
 ·exact (Q0j l p).2 ⟨i, hi, .inr ⟨j, h1, .inl h⟩⟩
 ·subst h1; exact Z1s hi (y1n h)
 ·exact (Q0j l p).2 ⟨j, hj, .inr ⟨i, h1, .inl (by rw [y1m]; exact h)⟩⟩
theorem V1R {l : List Pt} {p : Pt} {i j k : Nat} (hi : i < l.length) (hj : j < l.length) (hk : k < l.length) (h : Tri p (gp l i) (gp l j) (gp l k)) : inH l p = true := by
 have n1 : i ≠ j := fun e => by subst e; exact h.1 (Z0Z _ _)
 have n2 : j ≠ k := fun e => by subst e; exact h.1 (X0A _ _)
 have n3 : i ≠ k := fun e => by subst e; exact h.1 (X0B _ _)
 have key : ∀ i j k : Nat, i < l.length → j < i → k < j → Tri p (gp l i) (gp l j) (gp l k) → inH l p = true := fun i j k h1 h2 h3 h4 =>
  (Q0j l p).2 ⟨i, h1, .inr ⟨j, h2, .inr ⟨k, h3, (x1U _ _ _ _).2 h4⟩⟩⟩
 by_cases a1 : i < j
 ·by_cases a2 : j < k
  ·exact key k j i hk a2 a1 h.flip.rot.rot
  ·by_cases a3 : i < k
   ·exact key j k i hj zO a3 h.rot
   ·exact key j i k hj a1 zO h.flip
 ·by_cases a2 : j < k
  ·by_cases a3 : i < k
   ·exact key k i j hk a3 zO h.rot.rot
   ·exact key i k j hi zO a2 h.flip.rot
  ·exact key i j k hi zO zO h
theorem k0E {l : List Pt} {p : Pt} (α β : Int) (h : inH l p = true) (hp : ∀ i, i < l.length → 0 < lf α β p (gp l i)) : False := by
 obtain ⟨i, hi, h⟩ := (Q0j l p).1 h
 rcases h with h | ⟨j, hj, h | ⟨k, hk, h⟩⟩
 ·have := hp i hi; rw [h, x0c] at this; omega
 ·have h := (z0r _ _ _).1 h
  exact Z1N h.1 h.2 (hp i hi) (hp j zO)
 ·have h := (x1U _ _ _ _).1 h
  exact Z1O h.1 h.2 (hp i hi) (hp j zO) (hp k zO)
theorem four {l : List Pt} {p : Pt} {u v u' v' : Nat} (α β : Int) (hu : u < l.length) (hv : v < l.length) (hu' : u' < l.length) (hv' : v' < l.length)
  (h1 : 0 < lf α β (gp l u) p) (h2 : 0 < lf α β p (gp l v)) (h3 : 0 < lf α β (gp l u') p) (h4 : 0 < lf α β p (gp l v'))
  (hlo : 0 ≤ crs (gp l u) (gp l v) p) (hup : 0 ≤ crs (gp l v') (gp l u') p) : inH l p = true := by
 have key : ∀ (s : Int) (a b c : Nat), a < l.length → b < l.length → c < l.length → (s = 1 ∨ s = -1) → 0 < s * lf α β (gp l a) p → 0 < s * lf α β p (gp l b) → 0 < s * lf α β p (gp l c) →
   0 ≤ crs (gp l a) (gp l b) p → crs (gp l a) (gp l c) p ≤ 0 → inH l p = true := by
  intro s a b c ha hb hc hs e1 e2 e3 c1 c2
  have e1' : 0 < lf (s * α) (s * β) (gp l a) p := by simpa [lf, Int.mul_add, Int.mul_assoc] using e1
  have e2' : 0 < lf (s * α) (s * β) p (gp l b) := by simpa [lf, Int.mul_add, Int.mul_assoc] using e2
  have e3' : 0 < lf (s * α) (s * β) p (gp l c) := by simpa [lf, Int.mul_add, Int.mul_assoc] using e3
  generalize s * α = A at *
  generalize s * β = B at *
  have h3 := id3 A B p (gp l a) (gp l b) (gp l c)
  have r1 : crs p (gp l a) (gp l b) = crs (gp l a) (gp l b) p := (w0k _ _ _)
  have r2 : crs p (gp l c) (gp l a) = - crs (gp l a) (gp l c) p := by rw [w0k (gp l c) (gp l a) p, j0R]
  have r3 : crs p (gp l b) (gp l c) = crs (gp l b) (gp l c) p := (w0k _ _ _)
  have hA : lf A B p (gp l a) < 0 := by rw [v0b]; omega
  rw [r1, r2, r3] at h3
  have m1 := z0b c1 (Int.le_of_lt e3')
  have m2 := z0b (show 0 ≤ - crs (gp l a) (gp l c) p by omega) (Int.le_of_lt e2')
  have hbc : 0 ≤ crs (gp l b) (gp l c) p := by
   rcases Int.lt_or_le (crs (gp l b) (gp l c) p) 0 with hx | hx
   ·have := W0y hx hA; omega
   ·exact hx
  have hca : 0 ≤ crs (gp l c) (gp l a) p := by rw [j0R]; omega
  by_cases h0 : crs (gp l a) (gp l b) (gp l c) = 0
  ·-- all in a line
   have hs := q1L p (gp l a) (gp l b) (gp l c)
   rw [r1, r3, w0k (gp l c) (gp l a) p, h0] at hs
   have z : crs (gp l a) (gp l b) p = 0 := by omega
   refine v1H ha hb ((z0r _ _ _).2 ⟨z, ?_⟩)
   have h5 := w1k A B (gp l a) (gp l b) p z
   have h6 := q1U (sub (gp l b) p)
   rcases Int.lt_or_le 0 (dot (sub (gp l a) p) (sub (gp l b) p)) with hx | hx
   ·have m3 := x0t e2' hx
    have m4 := z0T (Int.le_of_lt hA) h6
    omega
   ·exact hx
  ·exact V1R ha hb hc ⟨h0, .inl ⟨c1, hbc, hca⟩⟩
 rcases Int.le_total (crs (gp l u') (gp l v) p) 0 with hx | hx
 ·-- to the right of u' -> v: with u, v, u'
  refine key (-1) v u' u hv hu' hu (.inr rfl) (by rw [v0b]; omega) (by rw [v0b]; omega) (by rw [v0b]; omega) ?_ ?_
  ·rw [j0R]; omega
  ·rw [j0R]; omega
 ·refine key 1 u' v v' hu' hv hv' (.inl rfl) zO zO zO hx ?_
  rw [j0R]; omega
theorem J0H (a b : Pt) : bef a b = true ↔ a.x < b.x ∨ (a.x = b.x ∧ a.y < b.y) := by
 simp [bef]
theorem J0I {a b c : Pt} (h : bef a b = true) (k : bef b c = true) : bef a c = true := by
 rw [J0H] at *; omega
theorem Y0E (a b : Pt) : bef a b = true ∨ a = b ∨ bef b a = true := by
 simp only [J0H]; cases a; cases b; simp; omega
theorem V0O (a : Pt) : bef a a = false := by
 cases h : bef a a with
 |false => rfl
 |true => rw [J0H] at h; omega
theorem W1n (l : List Pt) (i k : Nat) : decide (V0y l i k < 0) = bef (gp l i) (gp l k) := by
 rw [Bool.eq_iff_iff, decide_eq_true_eq, J0H]
 unfold V0y x1Z
 (repeat' split) <;> omega
def lxl (l : List Pt) (i k : Nat) : Prop := bef (gp l i) (gp l k) = true ∨ (gp l i = gp l k ∧ i < k)
theorem v1W {l : List Pt} {i j k : Nat} (h : lxl l i j) (h' : lxl l j k) : lxl l i k := by
 rcases h with h | ⟨h, h1⟩ <;> rcases h' with h' | ⟨h', h2⟩
 ·exact .inl (J0I h h')
 ·exact .inl (by rw [← h']; exact h)
 ·exact .inl (by rw [h]; exact h')
 ·exact .inr ⟨h.trans h', by omega⟩
theorem J1x (A : List Nat) (x : Nat) (B : List Nat) : gi (A ++ x :: B) A.length = x := by simp [gi, List.getD]
theorem v1x (A : List Nat) (a x : Nat) (B : List Nat) : gi (A ++ [a] ++ x :: B) A.length = a := by simp [gi, List.getD]
theorem X1i (A : List Nat) (a x : Nat) (B : List Nat) : swp (A ++ [a] ++ x :: B) (A.length + 1) A.length = A ++ x :: a :: B := by
 have e1 : gi (A ++ [a] ++ x :: B) A.length = a := v1x _ _ _ _
 have e2 : gi (A ++ [a] ++ x :: B) (A.length + 1) = x := by
  have := J1x (A ++ [a]) x B
  simpa using this
 unfold swp
 rw [e1, e2]
 simp [List.set_append]
theorem K0l (lt : Nat → Nat → Bool) (i : Nat) : ∀ (n : Nat) (A B : List Nat), A.length = n → ∃ A1 A2, A = A1 ++ A2 ∧ sink lt 0 (A ++ i :: B) A.length = A1 ++ i :: (A2 ++ B) ∧ (∀ b ∈ A2, lt i b = true) ∧ (∀ x, A1.getLast? = some x → lt i x = false)
 |0, A, B, hn => by
  have : A = [] := List.length_eq_zero_iff.1 hn
  subst this
  exact ⟨[], [], rfl, rfl, by simp, by simp⟩
 |n + 1, A, B, hn => by
  obtain ⟨A', a, rfl⟩ : ∃ u i, A = u ++ [i] := ⟨A.dropLast, A.getLast (by intro e; simp [e] at hn), (List.dropLast_concat_getLast _).symm⟩
  have e1 : gi (A' ++ [a] ++ i :: B) A'.length = a := v1x _ _ _ _
  have e2 : gi (A' ++ [a] ++ i :: B) (A'.length + 1) = i := by
   have := J1x (A' ++ [a]) i B
   simpa using this
  have e3 : (A' ++ [a]).length = A'.length + 1 := by simp
  rw [e3, sink, e1, e2]
  by_cases hlt : lt i a = true
  ·rw [if_pos (by simp [hlt]), X1i]
   obtain ⟨A1, A2, h1, h2, h3, h4⟩ := K0l lt i n A' (a :: B) (by simpa using hn)
   refine ⟨A1, A2 ++ [a], by rw [h1, List.append_assoc], by rw [h2]; simp, fun b hb => ?_, h4⟩
   rcases List.mem_append.1 hb with hb | hb
   ·exact h3 b hb
   ·simp at hb; rw [hb]; exact hlt
  ·rw [if_neg (by simp [hlt])]
   exact ⟨A' ++ [a], [], by simp, by simp, by simp, fun x hx => by simp at hx; subst hx; simpa using hlt⟩
theorem w1A {R : Nat → Nat → Prop} {A : List Nat} (h : A.Pairwise R) {x z : Nat} (hx : x ∈ A) (hz : A.getLast? = some z) : x = z ∨ R x z := by
 obtain ⟨k, hk, rfl⟩ := List.getElem_of_mem hx
 have hz2 : z = A[A.length - 1]'zO := by
  rw [List.getLast?_eq_getElem?, List.getElem?_eq_getElem (by omega)] at hz
  simpa using hz.symm
 subst hz2
 rcases Nat.lt_or_ge k (A.length - 1) with h1 | h1
 ·exact .inr (List.pairwise_iff_getElem.1 h k _ hk _ h1)
 ·have : k = A.length - 1 := by omega
  subst this; exact .inl rfl
theorem W0R (l : List Pt) : ∀ (k : Nat), (w0B l k).Pairwise (lxl l) ∧ ∀ x, x ∈ w0B l k ↔ x < k
 |0 => by simp [w0B]
 |k + 1 => by
  obtain ⟨ih1, ih2⟩ := W0R l k
  rw [z0I]
  have hl := z0j l k
  obtain ⟨A1, A2, h1, h2, h3, h4⟩ := K0l (fun i k => bef (gp l i) (gp l k)) k (w0B l k).length (w0B l k) [] rfl
  rw [hl] at h2
  rw [h2, List.append_nil]
  constructor
  ·rw [h1] at ih1
   obtain ⟨p1, p2, p3⟩ := List.pairwise_append.1 ih1
   refine List.pairwise_append.2 ⟨p1, List.pairwise_cons.2 ⟨fun b hb => .inl (h3 b hb), p2⟩, fun a ha b hb => ?_⟩
   rcases List.mem_cons.1 hb with rfl | hb
   ·cases hz : A1.getLast? with
    |none => rw [List.getLast?_eq_none_iff] at hz; subst hz; simp at ha
    |some z =>
     have hzm : z ∈ A1 := List.mem_of_getLast? hz
     have hzk : z < b := (ih2 z).1 (by rw [h1]; exact List.mem_append_left _ hzm)
     have hzi : lxl l z b := by
      have h5 := h4 z hz
      rcases Y0E (gp l z) (gp l b) with h6 | h6 | h6
      ·exact .inl h6
      ·exact .inr ⟨h6, hzk⟩
      ·simp only [h6] at h5; cases h5
     rcases w1A p1 ha hz with rfl | h7
     ·exact hzi
     ·exact v1W h7 hzi
   ·exact p3 a ha b hb
  ·intro x
   have := ih2 x
   rw [h1, List.mem_append] at this
   rw [List.mem_append, List.mem_cons]
   constructor
   ·rintro (h | rfl | h)
    ·have := this.1 (.inl h); omega
    ·omega
    ·have := this.1 (.inr h); omega
   ·intro h
    by_cases hx : x = k
    ·exact .inr (.inl hx)
    ·rcases this.2 zO with h | h
     ·exact .inl h
     ·exact .inr (.inr h)
theorem J0r (C B : List Nat) {k : Nat} (h : k < C.length) : gi (C ++ B) k = gi C k := by
 simp only [gi, List.getD]; rw [List.getElem?_append_left h]
theorem X1h (C B : List Nat) {i j : Nat} (hi : i < C.length) (hj : j < C.length) : swp (C ++ B) i j = swp C i j ++ B := by
 unfold swp
 rw [J0r C B hi, J0r C B hj, List.set_append_left _ _ hi, List.set_append_left _ _ (by simpa using hj)]
theorem K0k (lt : Nat → Nat → Bool) (B : List Nat) : ∀ (j : Nat) (C : List Nat), j < C.length → sink lt 0 (C ++ B) j = sink lt 0 C j ++ B
 |0, C, _ => rfl
 |j + 1, C, h => by
  rw [sink, sink, J0r C B h, J0r C B (by omega)]
  split
  ·rw [X1h C B h (by omega), K0k lt B j _ (by rw [y0s]; omega)]
  ·rfl
theorem w1i (l : List Pt) : ∀ (k i : Nat), i + k = l.length → q0R (fun i k => bef (gp l i) (gp l k)) 0 l.length (w0B l i ++ List.range' i k) i = w0B l l.length
 |0, i, h => by
  rw [z0D (by omega)]
  simp at h; subst h; simp
 |k + 1, i, h => by
  rw [w0d (by omega), List.range'_succ]
  have e : w0B l i ++ i :: List.range' (i + 1) k = (w0B l i ++ [i]) ++ List.range' (i + 1) k := by simp
  rw [e, K0k _ _ _ _ (by simp [z0j]), ← z0I]
  exact w1i l k (i + 1) zO
theorem W1o (l : List Pt) : X1W l = w0B l l.length := by
 unfold X1W
 rw [show (fun i k => decide (V0y l i k < 0)) = (fun i k => bef (gp l i) (gp l k)) from funext fun i => funext fun k => W1n l i k]
 cases h : l.length with
 |zero => rfl
 |succ n =>
  have := w1i l n 1 zO
  rw [h] at this
  rw [← this]
  congr 1
  rw [List.range_eq_range', List.range'_succ]
  simp [w0B, sink, List.range_succ]
structure CptOk (l : List Pt) (v : List Nat) (m : Nat) : Prop where
 up : (q0B l v m).Pairwise fun i k => bef (gp l i) (gp l k) = true
 sub : ∀ x ∈ q0B l v m, ∃ k, k < m ∧ gi v k = x
 cover : ∀ k, k < m → ∃ x ∈ q0B l v m, gp l x = gp l (gi v k) ∧ x ≤ gi v k
 last : ∀ m', m = m' + 1 → ∀ x ∈ q0B l v m, bef (gp l x) (gp l (gi v m')) = true ∨ gp l x = gp l (gi v m')
theorem J1l (l : List Pt) {v : List Nat} (hv : v.Pairwise (lxl l)) : ∀ (m : Nat), m ≤ v.length → CptOk l v m
 |0, _ => ⟨by simp [q0B], by simp [q0B], by simp, by simp⟩
 |m + 1, hm => by
  have ih := J1l l hv m zO
  have hs := v0l l v m
  by_cases hp : V0Y l v m = true
  ·rw [if_pos hp] at hs
   refine ⟨?_, ?_, ?_, ?_⟩
   ·rw [hs]
    refine List.pairwise_append.2 ⟨ih.up, by simp, fun a ha b hb => ?_⟩
    simp at hb; subst hb
    match m, hp, ih, ha, hm with
    |0, _, _, ha, _ => simp [q0B] at ha
    |m + 1, hp, ih, ha, hm =>
     have hne : gp l (gi v (m + 1)) ≠ gp l (gi v m) := by simpa [V0Y] using hp
     have hr := List.pairwise_iff_getElem.1 hv m (m + 1) zO zO zO
     rw [← v0G, ← v0G] at hr
     have hb2 : bef (gp l (gi v m)) (gp l (gi v (m + 1))) = true := by
      rcases hr with h | ⟨h, _⟩
      ·exact h
      ·exact absurd h.symm hne
     rcases ih.last m rfl a ha with h | h
     ·exact J0I h hb2
     ·rw [h]; exact hb2
   ·rw [hs]; intro x hx
    rcases List.mem_append.1 hx with hx | hx
    ·obtain ⟨k, hk, e⟩ := ih.sub x hx; exact ⟨k, by omega, e⟩
    ·simp at hx; exact ⟨m, by omega, hx.symm⟩
   ·rw [hs]; intro k hk
    by_cases e : k = m
    ·subst e; exact ⟨gi v k, by simp, rfl, Nat.le_refl _⟩
    ·obtain ⟨x, hx, h⟩ := ih.cover k zO; exact ⟨x, List.mem_append_left _ hx, h⟩
   ·intro m' e x hx
    obtain rfl : m = m' := by omega
    rw [hs] at hx
    rcases List.mem_append.1 hx with hx | hx
    ·match m, hp, ih, hx, hm with
     |0, _, _, hx, _ => simp [q0B] at hx
     |m + 1, hp, ih, hx, hm =>
      have hne : gp l (gi v (m + 1)) ≠ gp l (gi v m) := by simpa [V0Y] using hp
      have hr := List.pairwise_iff_getElem.1 hv m (m + 1) zO zO zO
      rw [← v0G, ← v0G] at hr
      have hb2 : bef (gp l (gi v m)) (gp l (gi v (m + 1))) = true := by
       rcases hr with h | ⟨h, _⟩
       ·exact h
       ·exact absurd h.symm hne
      rcases ih.last m rfl x hx with h | h
      ·exact .inl (J0I h hb2)
      ·rw [h]; exact .inl hb2
    ·simp at hx; subst hx; exact .inr rfl
  ·rw [if_neg hp] at hs
   obtain ⟨hm0, heq⟩ : m ≠ 0 ∧ gp l (gi v m) = gp l (gi v (m - 1)) := by simpa [V0Y] using hp
   obtain ⟨m', rfl⟩ : ∃ m', m = m' + 1 := ⟨m - 1, by omega⟩
   rw [Nat.add_sub_cancel] at heq
   refine ⟨by rw [hs]; exact ih.up, ?_, ?_, ?_⟩
   ·rw [hs]; intro x hx; obtain ⟨k, hk, e⟩ := ih.sub x hx; exact ⟨k, by omega, e⟩
   ·rw [hs]; intro k hk
    by_cases e : k = m' + 1
    ·subst e
     obtain ⟨x, hx, h1, h2⟩ := ih.cover m' zO
     have hr := List.pairwise_iff_getElem.1 hv m' (m' + 1) zO zO zO
     rw [← v0G, ← v0G] at hr
     refine ⟨x, hx, by rw [h1, heq], ?_⟩
     rcases hr with h | ⟨_, h⟩
     ·rw [heq, V0O] at h; cases h
     ·omega
    ·exact ih.cover k zO
   ·intro m'' e x hx
    obtain rfl : m' + 1 = m'' := by omega
    rw [hs] at hx
    rw [heq]
    exact ih.last m' rfl x hx
end Go.Proofs.YtgblokifbgeegaaGreatDoor.H.G
section
namespace Go.Proofs.YtgblokifbgeegaaGreatDoor.H.G
open Go.Vc
theorem Y1o {a b : Pt} (ha : SmP a) (hb : SmP b) : bef a b = true ↔ 0 < lf 1000000 1 a b := by
 rw [J0H]; simp only [SmP, Sm] at ha hb; simp only [lf]; omega
def J0E (l : List Pt) (P : List Nat) : List Nat → Prop
 |a :: b :: r => (∀ p ∈ P, 0 ≤ crs (gp l a) (gp l b) (gp l p)) ∧ J0E l P (b :: r)
 |_ => True
theorem z0t {l : List Pt} {P : List Nat} : ∀ (X : List Nat) {m : Nat} {t : List Nat}, J0E l P (X ++ [m]) → J0E l P (m :: t) → J0E l P (X ++ m :: t)
 |[], _, _, _, h => h
 |[x], m, t, h1, h2 => ⟨h1.1, h2⟩
 |x :: y :: X, m, t, h1, h2 => ⟨h1.1, z0t (y :: X) h1.2 h2⟩
theorem w0w {l : List Pt} {P : List Nat} : ∀ (st : List Nat), J0F l P st → J0E l P st.reverse
 |[], _ => trivial
 |[x], _ => trivial
 |b :: a :: r, h => by
  have ih := w0w (a :: r) h.2
  simp only [List.reverse_cons, List.append_assoc, List.cons_append, List.nil_append] at ih ⊢
  exact z0t r.reverse ih ⟨h.1, trivial⟩
theorem Z0S {l : List Pt} {P : List Nat} : ∀ (L : List Nat) (k : Nat), J0E l P L → k + 1 < L.length → ∀ p ∈ P, 0 ≤ crs (gp l (gi L k)) (gp l (gi L (k + 1))) (gp l p)
 |a :: b :: r, 0, h, _ => h.1
 |a :: b :: r, k + 1, h, hk => by
  have := Z0S (b :: r) k h.2 (by simpa using hk)
  simpa [gi] using this
 |[], _, _, hk => by simp at hk
 |[_], _, _, hk => by simp at hk
structure Two (l : List Pt) (S lo up : List Nat) (p0 pm : Nat) : Prop where
 sm : ∀ i, SmP (gp l i)
 incS : UpL l 1000000 1 S
 ilo : Inv l 1000000 1 S lo
 iup : Inv l (-1000000) (-1) S up
 loH : lo.head? = some pm
 loL : lo.getLast? = some p0
 upH : up.head? = some p0
 upL : up.getLast? = some pm
 len1 : 2 ≤ lo.length
 len2 : 2 ≤ up.length
 p0m : ∀ p ∈ S, 0 ≤ lf 1000000 1 (gp l p0) (gp l p)
 pmm : ∀ p ∈ S, 0 ≤ lf 1000000 1 (gp l p) (gp l pm)
theorem UpL.neg {l : List Pt} {v : List Nat} (h : UpL l 1000000 1 v) : UpL l (-1000000) (-1) v.reverse := by
 unfold UpL
 rw [List.pairwise_reverse]
 exact h.imp fun {a b} hab => by simp only [lf] at hab ⊢; omega
theorem V1V {l : List Pt} {α β : Int} {P st : List Nat} (h : Inv l α β P.reverse st) : Inv l α β P st := by
 have he : ∀ st : List Nat, J0F l P.reverse st → J0F l P st := by
  intro st
  induction st with
  |nil => intro _; trivial
  |cons b r ih =>
   cases r with
   |nil => intro _; trivial
   |cons a r => exact fun h => ⟨fun p hp => h.1 p (List.mem_reverse.2 hp), ih h.2⟩
 have hb : ∀ st : List Nat, Q1M l α β P.reverse st → Q1M l α β P st := by
  intro st
  induction st with
  |nil => intro _; trivial
  |cons b r ih =>
   cases r with
   |nil => exact fun h p hp => h p (List.mem_reverse.2 hp)
   |cons a r => exact fun h => ih h
 exact ⟨fun x hx => List.mem_reverse.1 (h.sub x hx), he _ h.edges, h.turns, h.inc, hb _ h.bot⟩
theorem Q1x {l : List Pt} {S : List Nat} (sm : ∀ i, SmP (gp l i)) (hS : UpL l 1000000 1 S) (h2 : 2 ≤ S.length) : ∃ p0 pm, S.head? = some p0 ∧ S.getLast? = some pm ∧ Two l S (stk l S) (stk l S.reverse) p0 pm := by
 obtain ⟨i1, i2⟩ := Z0u S.length S rfl hS
 obtain ⟨j1, j2⟩ := Z0u S.reverse.length S.reverse rfl hS.neg
 have k1 := W0S l S.length S rfl
 have k2 := W0S l S.reverse.length S.reverse rfl
 match S, h2 with
 |p0 :: q :: S, _ =>
  obtain ⟨pm, hpm⟩ : ∃ pm, (p0 :: q :: S).getLast? = some pm := ⟨_, List.getLast?_eq_some_getLast (by simp)⟩
  refine ⟨p0, pm, rfl, hpm, sm, hS, i1, V1V j1, i2 pm hpm, k1.trans rfl, j2 p0 (by simp), ?_, Z0v l _ (by simp), Z0v l _ (by simp), ?_, ?_⟩
  ·rw [k2, List.head?_reverse]; exact hpm
  ·intro p hp
   rcases List.mem_cons.1 hp with rfl | hp
   ·rw [x0c]; exact Int.le_refl 0
   ·exact Int.le_of_lt ((List.pairwise_cons.1 hS).1 p hp)
  ·intro p hp
   rcases w1A hS hp hpm with rfl | h
   ·rw [x0c]; exact Int.le_refl 0
   ·exact Int.le_of_lt h
theorem K0R {b a c p : Pt} (h1 : crs b c p = 0) (h2 : crs a b p = 0) (h3 : 0 < crs a b c) : p = b := by
 have e1 := id3 1 0 b a c p
 have e2 := id3 0 1 b a c p
 have r1 : crs b p a = crs a b p := y0f _ _ _
 have r2 : crs b a c = - crs a b c := j0R _ _ _
 rw [h1, r1, h2, r2] at e1 e2
 have z1 : crs a b c * lf 1 0 b p = 0 := by have : -crs a b c * lf 1 0 b p = - (crs a b c * lf 1 0 b p) := Int.neg_mul _ _; omega
 have z2 : crs a b c * lf 0 1 b p = 0 := by have : -crs a b c * lf 0 1 b p = - (crs a b c * lf 0 1 b p) := Int.neg_mul _ _; omega
 have w1 : lf 1 0 b p = 0 := by rcases Int.mul_eq_zero.1 z1 with h | h <;> omega
 have w2 : lf 0 1 b p = 0 := by rcases Int.mul_eq_zero.1 z2 with h | h <;> omega
 simp only [lf] at w1 w2
 cases p; cases b; simp at w1 w2 ⊢; omega
theorem y1B (a b p : Pt) : crs a b p = lf (-(b.y - a.y)) (b.x - a.x) b p := by simp only [crs, trn, sub, lf]; grind
def Sup (l : List Pt) (S : List Nat) (x : Nat) : Prop := ∃ α β, ∀ p ∈ S, p ≠ x → 0 < lf α β (gp l x) (gp l p)
theorem Z1B (α β α' β' : Int) (a b : Pt) : lf (α + α') (β + β') a b = lf α β a b + lf α' β' a b := by simp only [lf]; grind
theorem x1q {l : List Pt} {α β : Int} {S st r1 r2 : List Nat} {c b a : Nat} (hI : Inv l α β S st) (hinj : ∀ p ∈ S, ∀ q ∈ S, gp l p = gp l q → p = q) (e : st = r1 ++ c :: b :: a :: r2) : Sup l S b := by
 have h1 := v0D (l := l) (P := S) r1 (e ▸ hI.edges)
 have h2 := v0D (l := l) (P := S) (r1 ++ [c]) (b := b) (a := a) (r2 := r2) (by have := hI.edges; rw [e] at this; simpa using this)
 have h3 := z0l r1 (e ▸ hI.turns)
 have hb : b ∈ S := hI.sub b (by rw [e]; simp)
 refine ⟨-((gp l c).y - (gp l b).y) + -((gp l b).y - (gp l a).y), ((gp l c).x - (gp l b).x) + ((gp l b).x - (gp l a).x), fun p hp hne => ?_⟩
 rw [Z1B, ← Y1z, ← y1B]
 have q1 := h1 p hp
 have q2 := h2 p hp
 rcases Int.lt_or_le 0 (crs (gp l b) (gp l c) (gp l p) + crs (gp l a) (gp l b) (gp l p)) with h | h
 ·exact h
 ·exact absurd (hinj p hp b hb (K0R zO zO h3)) hne
theorem w0M {x : Nat} : ∀ {st : List Nat}, x ∈ st → st.head? ≠ some x → st.getLast? ≠ some x → ∃ r1 c a r2, st = r1 ++ c :: x :: a :: r2
 |[], h, _, _ => by simp at h
 |[y], h, h1, _ => by simp at h; subst h; simp at h1
 |y :: z :: r, h, h1, h2 => by
  rcases List.mem_cons.1 h with rfl | h
  ·simp at h1
  ·by_cases hz : z = x
   ·subst hz
    cases r with
    |nil => simp at h2
    |cons a r => exact ⟨[], y, a, r, rfl⟩
   ·obtain ⟨r1, c, a, r2, e⟩ := w0M (st := z :: r) h (by simpa using hz) (by simpa using h2)
    exact ⟨y :: r1, c, a, r2, by rw [e]; rfl⟩
section
variable {l : List Pt} {S lo up : List Nat} {p0 pm : Nat}
theorem Two.inj (h : Two l S lo up p0 pm) : ∀ p ∈ S, ∀ q ∈ S, gp l p = gp l q → p = q := fun p hp q hq e => h.incS.inj p hp q hq (by rw [e, x0c])
theorem Two.mem0 (h : Two l S lo up p0 pm) : p0 ∈ S := h.ilo.sub _ (List.mem_of_getLast? h.loL)
theorem Two.memM (h : Two l S lo up p0 pm) : pm ∈ S := h.iup.sub _ (List.mem_of_getLast? h.upL)
theorem Two.sup0 (h : Two l S lo up p0 pm) : Sup l S p0 := ⟨1000000, 1, fun p hp hne => by
 have h1 := h.p0m p hp
 rcases Int.lt_or_le 0 (lf 1000000 1 (gp l p0) (gp l p)) with h2 | h2
 ·exact h2
 ·exact absurd (h.incS.inj p0 h.mem0 p hp zO).symm hne⟩
theorem Two.supM (h : Two l S lo up p0 pm) : Sup l S pm := ⟨-1000000, -1, fun p hp hne => by
 have h1 := h.pmm p hp
 have e : lf (-1000000) (-1) (gp l pm) (gp l p) = lf 1000000 1 (gp l p) (gp l pm) := by simp only [lf]; omega
 rw [e]
 rcases Int.lt_or_le 0 (lf 1000000 1 (gp l p) (gp l pm)) with h2 | h2
 ·exact h2
 ·exact absurd (h.incS.inj p hp pm h.memM zO) hne⟩
theorem Two.sup (h : Two l S lo up p0 pm) {x : Nat} (hx : x ∈ lo ∨ x ∈ up) : Sup l S x := by
 by_cases e1 : x = p0
 ·subst e1; exact h.sup0
 ·by_cases e2 : x = pm
  ·subst e2; exact h.supM
  ·rcases hx with hx | hx
   ·obtain ⟨r1, c, a, r2, e⟩ := w0M hx (by rw [h.loH]; simp; exact fun e => e2 e.symm) (by rw [h.loL]; simp; exact fun e => e1 e.symm)
    exact x1q h.ilo h.inj e
   ·obtain ⟨r1, c, a, r2, e⟩ := w0M hx (by rw [h.upH]; simp; exact fun e => e1 e.symm) (by rw [h.upL]; simp; exact fun e => e2 e.symm)
    exact x1q h.iup h.inj e
theorem Two.apart (h : Two l S lo up p0 pm) {x : Nat} (h1 : x ∈ lo) (h2 : x ∈ up) : x = p0 ∨ x = pm := by
 by_cases e1 : x = p0
 ·exact .inl e1
 ·by_cases e2 : x = pm
  ·exact .inr e2
  ·exfalso
   obtain ⟨r1, c, a, r2, e⟩ := w0M h1 (by rw [h.loH]; simp; exact fun e => e2 e.symm) (by rw [h.loL]; simp; exact fun e => e1 e.symm)
   obtain ⟨q1, c', a', q2, e'⟩ := w0M h2 (by rw [h.upH]; simp; exact fun e => e1 e.symm) (by rw [h.upL]; simp; exact fun e => e2 e.symm)
   have ha : a ∈ S := h.ilo.sub a (by rw [e]; simp)
   have hc : c ∈ S := h.ilo.sub c (by rw [e]; simp)
   have ha' : a' ∈ S := h.iup.sub a' (by rw [e']; simp)
   have t1 := z0l r1 (e ▸ h.ilo.turns)
   have g1 := v0D (l := l) (P := S) (r1 ++ [c]) (b := x) (a := a) (r2 := r2) (by have := h.ilo.edges; rw [e] at this; simpa using this)
   have g2 := v0D (l := l) (P := S) r1 (e ▸ h.ilo.edges)
   have g3 := v0D (l := l) (P := S) (q1 ++ [c']) (b := x) (a := a') (r2 := q2) (by have := h.iup.edges; rw [e'] at this; simpa using this)
   have k1 := Y0W (l := l) (α := 1000000) (β := 1) (r1 ++ [c]) (b := x) (a := a) (r2 := r2) (by have := h.ilo.inc; rw [e] at this; simpa using this)
   have k2 := Y0W (l := l) (α := -1000000) (β := -1) (q1 ++ [c']) (b := x) (a := a') (r2 := q2) (by have := h.iup.inc; rw [e'] at this; simpa using this)
   have i1 := g1 a' ha'
   have i2 := g3 a ha
   have i3 := g2 a' ha'
   have hid := id3 1000000 1 (gp l x) (gp l a) (gp l a') (gp l c)
   have s1 : crs (gp l x) (gp l a) (gp l a') = - crs (gp l a) (gp l x) (gp l a') := j0R _ _ _
   have s2 : crs (gp l x) (gp l a') (gp l a) = - crs (gp l a') (gp l x) (gp l a) := j0R _ _ _
   have s3 : crs (gp l x) (gp l a') (gp l a) = - crs (gp l x) (gp l a) (gp l a') := y0H _ _ _
   have z : crs (gp l x) (gp l a) (gp l a') = 0 := by omega
   have s4 : crs (gp l x) (gp l a') (gp l c) = - crs (gp l x) (gp l c) (gp l a') := y0H _ _ _
   have s5 : crs (gp l x) (gp l c) (gp l a) = crs (gp l a) (gp l x) (gp l c) := y0f _ _ _
   have ka : lf 1000000 1 (gp l x) (gp l a) < 0 := by rw [v0b]; omega
   have ka' : 0 < lf 1000000 1 (gp l x) (gp l a') := by simp only [lf] at k2 ⊢; omega
   rw [z, s5] at hid
   have m1 := Q0u (show crs (gp l x) (gp l a') (gp l c) ≤ 0 by omega) (Int.le_of_lt ka)
   have m2 := x0t t1 ka'
   omega
theorem Two.inside (h : Two l S lo up p0 pm) (q : Pt) (h0 : 0 ≤ lf 1000000 1 (gp l p0) q) (hm : 0 ≤ lf 1000000 1 q (gp l pm)) :
  ∃ u v u' v', u ∈ lo ∧ v ∈ lo ∧ u' ∈ up ∧ v' ∈ up ∧ 0 ≤ lf 1000000 1 (gp l u) q ∧ 0 ≤ lf 1000000 1 q (gp l v) ∧ 0 ≤ lf 1000000 1 (gp l u') q ∧ 0 ≤ lf 1000000 1 q (gp l v') ∧
   (∃ r1 r2, lo = r1 ++ v :: u :: r2) ∧ (∃ r1 r2, up = r1 ++ u' :: v' :: r2) := by
 obtain ⟨r1, v, u, r2, e, x1, x2⟩ := span (l := l) (α := 1000000) (β := 1) q lo p0 pm h.loH h.loL h.len1 h0 hm
 obtain ⟨q1, u', v', q2, e', y1, y2⟩ := span (l := l) (α := -1000000) (β := -1) q up pm p0 h.upH h.upL h.len2 (by simp only [lf] at hm ⊢; omega) (by simp only [lf] at h0 ⊢; omega)
 refine ⟨u, v, u', v', by rw [e]; simp, by rw [e]; simp, by rw [e']; simp, by rw [e']; simp, x1, x2, ?_, ?_, ⟨r1, r2, e⟩, ⟨q1, q2, e'⟩⟩
 ·simp only [lf] at y2 ⊢; omega
 ·simp only [lf] at y1 ⊢; omega
end
end Go.Proofs.YtgblokifbgeegaaGreatDoor.H.G
end
section
namespace Go.Proofs.YtgblokifbgeegaaGreatDoor.H.G
open Go.Vc
structure SOk (l : List Pt) (S : List Nat) : Prop where
 sm : ∀ i, SmP (gp l i)
 inc : UpL l 1000000 1 S
 lt : ∀ x ∈ S, x < l.length
 cover : ∀ i, i < l.length → ∃ x ∈ S, gp l x = gp l i ∧ x ≤ i
 head : S.head? = (w0B l l.length).head?
theorem Z0W (l : List Pt) (v : List Nat) : ∀ m, 0 < m → m ≤ v.length → (q0B l v m).head? = v.head?
 |1, _, hm => by
  have hs := v0l l v 0
  rw [if_pos (by simp [V0Y])] at hs
  rw [hs]
  match v, hm with
  |x :: v, _ => simp [q0B, gi]
 |m + 2, _, hm => by
  have ih := Z0W l v (m + 1) zO zO
  rw [v0l]
  split
  ·rw [List.head?_append, ih]
   match v, hm with
   |x :: v, _ => rfl
  ·exact ih
theorem j2O {l : List Pt} (h : chk l = 0) (h0 : 0 < l.length) : SOk l (cpt l (v0k l)) := by
 have sm := q1z h
 have ho : v0k l = w0B l l.length := by unfold v0k; rw [if_pos h, W1o]
 rw [ho]
 obtain ⟨h1, h2⟩ := W0R l l.length
 have hl := z0j l l.length
 have hc := J1l l h1 (w0B l l.length).length (Nat.le_refl _)
 refine ⟨sm, ?_, fun x hx => ?_, fun i hi => ?_, Z0W l _ _ zO (Nat.le_refl _)⟩
 ·exact hc.up.imp fun {a b} hab => (Y1o (sm a) (sm b)).1 hab
 ·obtain ⟨k, hk, e⟩ := hc.sub x hx
  rw [← e]; exact (h2 _).1 (by rw [v0G hk]; exact List.getElem_mem hk)
 ·obtain ⟨k, hk, e⟩ := List.getElem_of_mem ((h2 i).2 hi)
  obtain ⟨x, hx, e1, e2⟩ := hc.cover k hk
  rw [v0G hk, e] at e1 e2
  exact ⟨x, hx, e1, e2⟩
section
variable {l : List Pt} {S : List Nat}
theorem SOk.inj (h : SOk l S) : ∀ p ∈ S, ∀ q ∈ S, gp l p = gp l q → p = q := fun p hp q hq e => h.inc.inj p hp q hq (by rw [e, x0c])
theorem SOk.first (h : SOk l S) {x : Nat} (hx : x ∈ S) : ∀ k, k < x → gp l k ≠ gp l x := by
 intro k hk e
 obtain ⟨y, hy, e1, e2⟩ := h.cover k (by have := h.lt x hx; omega)
 have := h.inj y hy x hx (e1.trans e)
 omega
theorem v0E {i : Nat} {p : Pt} : p ∈ q0y l i l.length ↔ p ∈ l ∧ p ≠ gp l i := by
 simp [q0y]
theorem x0B {i : Nat} : vtx l i = true ↔ (∀ k, k < i → gp l k ≠ gp l i) ∧ inH (q0y l i l.length) (gp l i) = false := by
 unfold vtx
 simp only [Bool.and_eq_true, Bool.not_eq_true', List.any_eq_false, List.mem_range, decide_eq_true_eq, ne_eq]
theorem SOk.vtx_of (h : SOk l S) {x : Nat} (hx : x ∈ S) (hs : Sup l S x) : vtx l x = true := by
 rw [x0B]
 refine ⟨h.first hx, ?_⟩
 cases hin : inH (q0y l x l.length) (gp l x) with
 |false => rfl
 |true =>
  exfalso
  obtain ⟨α, β, hab⟩ := hs
  refine k0E α β hin fun j hj => ?_
  obtain ⟨hp, hne⟩ := v0E.1 (V0r hj)
  obtain ⟨k, hk, e⟩ := List.getElem_of_mem hp
  obtain ⟨y, hy, e1, _⟩ := h.cover k hk
  rw [W0t hk, e] at e1
  rw [← e1] at hne ⊢
  exact hab y hy (fun e => hne (by rw [e]))
theorem SOk.mem_of (h : SOk l S) {i : Nat} (hi : i < l.length) (hv : vtx l i = true) : i ∈ S := by
 obtain ⟨x, hx, e1, e2⟩ := h.cover i hi
 have := (x0B.1 hv).1 x
 by_cases e : x = i
 ·rw [← e]; exact hx
 ·exact absurd e1 (this zO)
theorem SOk.idx (h : SOk l S) {i : Nat} {s : Nat} (hs : s ∈ S) (hne : gp l s ≠ gp l i) : ∃ j, j < (q0y l i l.length).length ∧ gp (q0y l i l.length) j = gp l s := by
 have : gp l s ∈ q0y l i l.length := v0E.2 ⟨V0r (h.lt s hs), hne⟩
 obtain ⟨j, hj, e⟩ := List.getElem_of_mem this
 exact ⟨j, hj, by rw [W0t hj, e]⟩
theorem SOk.on (h : SOk l S) {lo up : List Nat} {p0 pm : Nat} (T : Two l S lo up p0 pm) {i : Nat} (hi : i < l.length) (hv : vtx l i = true) : i ∈ lo ∨ i ∈ up := by
 have hiS := h.mem_of hi hv
 rcases Classical.em (i ∈ lo ∨ i ∈ up) with h1 | h1
 ·exact h1
 ·exfalso
  have hlo : i ∉ lo := fun e => h1 (.inl e)
  have hup : i ∉ up := fun e => h1 (.inr e)
  obtain ⟨u, v, u', v', hu, hv1, hu', hv', x1, x2, x3, x4, ⟨r1, r2, e⟩, ⟨q1, q2, e'⟩⟩ := T.inside (gp l i) (T.p0m i hiS) (T.pmm i hiS)
  have hne : ∀ s, s ∈ lo ∨ s ∈ up → gp l s ≠ gp l i := fun s hs es => by
   have : s = i := h.inj s (hs.elim (T.ilo.sub s) (T.iup.sub s)) i hiS es
   subst this
   exact h1 hs
  have hst : ∀ a b : Nat, a ∈ S → b ∈ S → gp l a ≠ gp l b → 0 ≤ lf 1000000 1 (gp l a) (gp l b) → 0 < lf 1000000 1 (gp l a) (gp l b) := fun a b ha hb hne hle => by
   rcases Int.lt_or_le 0 (lf 1000000 1 (gp l a) (gp l b)) with h2 | h2
   ·exact h2
   ·exact absurd (by rw [h.inc.inj a ha b hb (by omega)]) hne
  obtain ⟨ju, hju, eu⟩ := h.idx (i := i) (T.ilo.sub u hu) (hne u (.inl hu))
  obtain ⟨jv, hjv, ev⟩ := h.idx (i := i) (T.ilo.sub v hv1) (hne v (.inl hv1))
  obtain ⟨ju', hju', eu'⟩ := h.idx (i := i) (T.iup.sub u' hu') (hne u' (.inr hu'))
  obtain ⟨jv', hjv', ev'⟩ := h.idx (i := i) (T.iup.sub v' hv') (hne v' (.inr hv'))
  have c1 := v0D (l := l) (P := S) r1 (e ▸ T.ilo.edges) i hiS
  have c2 := v0D (l := l) (P := S) q1 (e' ▸ T.iup.edges) i hiS
  have := four (l := q0y l i l.length) (p := gp l i) 1000000 1 hju hjv hju' hjv'
   (by rw [eu]; exact hst u i (T.ilo.sub u hu) hiS (hne u (.inl hu)) x1)
   (by rw [ev]; exact hst i v hiS (T.ilo.sub v hv1) (fun e => hne v (.inl hv1) e.symm) x2)
   (by rw [eu']; exact hst u' i (T.iup.sub u' hu') hiS (hne u' (.inr hu')) x3)
   (by rw [ev']; exact hst i v' hiS (T.iup.sub v' hv') (fun e => hne v' (.inr hv') e.symm) x4)
   (by rw [eu, ev]; exact c1) (by rw [eu', ev']; exact c2)
  rw [(x0B.1 hv).2] at this
  cases this
end
structure HullOk (l : List Pt) (v : List Nat) : Prop where
 pos : 0 < v.length
 lt : ∀ k, k < v.length → gi v k < l.length
 nd : v.Nodup
 mem : ∀ i, i < l.length → (i ∈ v ↔ vtx l i = true)
 edge : 1 < v.length → ∀ k, k < v.length → ∀ p, p < l.length → 0 ≤ crs (gp l (gi v k)) (gp l (gi v ((k + 1) % v.length))) (gp l p)
 fst : (w0B l l.length).head? = some (gi v 0)
theorem X0S {v : List Nat} (h : v.Nodup) : v.reverse.Nodup := by
 unfold List.Nodup at *
 rw [List.pairwise_reverse]
 exact h.imp fun h e => h e.symm
theorem X0M {l : List Pt} {α β : Int} {st : List Nat} (h : X1Z l α β st) : st.Nodup := by
 refine (k0F st h).imp fun {a b} hab e => ?_
 subst e
 rw [x0c] at hab; omega
theorem V1a {l : List Pt} (h2 : 2 ≤ (cpt l (v0k l)).length) : arr l = (stk l (cpt l (v0k l))).tail.reverse ++ (stk l (cpt l (v0k l)).reverse).tail.reverse := by
 unfold arr
 split
 ·generalize cpt l (v0k l) = S at *
  match S, h2 with
  |[a, b], _ => simp [stk, pop]
  |a :: b :: c :: S, _ => rename_i h; simp at h; omega
 ·rfl
theorem z1a {l : List Pt} {S lo up : List Nat} {p0 pm : Nat} (h : SOk l S) (T : Two l S lo up p0 pm) (hp0 : S.head? = some p0) : HullOk l (lo.tail.reverse ++ up.tail.reverse) := by
 obtain ⟨m1, lo', e1⟩ : ∃ a t, lo = a :: t := by
  cases hl : lo with
  |nil => have := T.len1; rw [hl] at this; simp at this
  |cons a t => exact ⟨a, t, rfl⟩
 obtain ⟨m2, up', e2⟩ : ∃ a t, up = a :: t := by
  cases hl : up with
  |nil => have := T.len2; rw [hl] at this; simp at this
  |cons a t => exact ⟨a, t, rfl⟩
 have hm1 : m1 = pm := by have := T.loH; rw [e1] at this; simpa using this
 have hm2 : m2 = p0 := by have := T.upH; rw [e2] at this; simpa using this
 subst hm1
 subst hm2
 have n1 : lo' ≠ [] := fun e => by have := T.len1; rw [e1, e] at this; simp at this
 have n2 : up' ≠ [] := fun e => by have := T.len2; rw [e2, e] at this; simp at this
 have l1 : lo'.getLast? = some m2 := by have := T.loL; rw [e1, List.getLast?_cons] at this; cases hq : lo'.getLast? with
  |none => rw [List.getLast?_eq_none_iff] at hq; exact absurd hq n1
  |some z => rw [hq] at this; simpa using this
 have l2 : up'.getLast? = some m1 := by have := T.upL; rw [e2, List.getLast?_cons] at this; cases hq : up'.getLast? with
  |none => rw [List.getLast?_eq_none_iff] at hq; exact absurd hq n2
  |some z => rw [hq] at this; simpa using this
 have f1 : lo'.reverse.head? = some m2 := by rw [List.head?_reverse]; exact l1
 have f2 : up'.reverse.head? = some m1 := by rw [List.head?_reverse]; exact l2
 have nd1 := X0M T.ilo.inc
 have nd2 := X0M T.iup.inc
 rw [e1] at nd1
 rw [e2] at nd2
 rw [List.nodup_cons] at nd1 nd2
 have hmem : ∀ x, x ∈ lo'.reverse ++ up'.reverse ↔ x ∈ lo ∨ x ∈ up := by
  intro x
  rw [List.mem_append, List.mem_reverse, List.mem_reverse, e1, e2, List.mem_cons, List.mem_cons]
  constructor
  ·rintro (h | h)
   ·exact .inl (.inr h)
   ·exact .inr (.inr h)
  ·rintro ((rfl | h) | (rfl | h))
   ·exact .inr (List.mem_of_getLast? l2)
   ·exact .inl h
   ·exact .inl (List.mem_of_getLast? l1)
   ·exact .inr h
 have hsub : ∀ x, x ∈ lo'.reverse ++ up'.reverse → x ∈ S := fun x hx => ((hmem x).1 hx).elim (T.ilo.sub x) (T.iup.sub x)
 rw [e1, e2, List.tail_cons, List.tail_cons]
 obtain ⟨y, t, ey⟩ : ∃ y t, lo'.reverse = y :: t := by
  cases hr : lo'.reverse with
  |nil => simp at hr; exact absurd hr n1
  |cons y t => exact ⟨y, t, rfl⟩
 have hy : y = m2 := by rw [ey] at f1; simpa using f1
 subst hy
 have hchain : J0E l S ((lo'.reverse ++ up'.reverse) ++ [y]) := by
  have c1 := w0w lo T.ilo.edges
  have c2 := w0w up T.iup.edges
  rw [e1, List.reverse_cons] at c1
  rw [e2, List.reverse_cons] at c2
  obtain ⟨z, s, ez⟩ : ∃ z s, up'.reverse = z :: s := by
   cases hr : up'.reverse with
   |nil => simp at hr; exact absurd hr n2
   |cons y t => exact ⟨y, t, rfl⟩
  have hz : z = m1 := by rw [ez] at f2; simpa using f2
  subst hz
  rw [ez, List.cons_append] at c2
  have := z0t lo'.reverse c1 c2
  rw [ez]; simpa using this
 refine ⟨by rw [ey]; simp, fun k hk => ?_, ?_, fun i hi => ?_, fun h1 k hk p hp => ?_, ?_⟩
 ·exact h.lt _ (hsub _ (by rw [v0G hk]; exact List.getElem_mem hk))
 ·rw [List.nodup_append]
  refine ⟨X0S nd1.2, X0S nd2.2, fun a ha b hb e => ?_⟩
  subst e
  have ha' : a ∈ lo' := List.mem_reverse.1 ha
  have hb' : a ∈ up' := List.mem_reverse.1 hb
  rcases T.apart (x := a) (by rw [e1]; exact List.mem_cons_of_mem _ ha') (by rw [e2]; exact List.mem_cons_of_mem _ hb') with e | e
  ·subst e; exact nd2.1 hb'
  ·subst e; exact nd1.1 ha'
 ·rw [hmem]
  constructor
  ·intro hx
   exact h.vtx_of (hx.elim (T.ilo.sub i) (T.iup.sub i)) (T.sup hx)
  ·exact h.on T hi
 ·obtain ⟨x, hx, e, _⟩ := h.cover p hp
  rw [← e]
  generalize hL : lo'.reverse ++ up'.reverse = L at *
  have hL0 : gi L 0 = y := by rw [← hL, ey]; rfl
  have := Z0S (L ++ [y]) k hchain (by simp; omega) x hx
  rw [k0z, if_pos hk, k0z] at this
  by_cases hk1 : k + 1 < L.length
  ·rw [if_pos hk1] at this
   rwa [Nat.mod_eq_of_lt hk1]
  ·have he : k + 1 = L.length := by omega
   rw [if_neg hk1, if_pos he] at this
   rw [he, Nat.mod_self, hL0]; exact this
 ·rw [← h.head, hp0, ey]; rfl
theorem y1Z {l : List Pt} {s : Nat} (h : SOk l [s]) : HullOk l [s] := by
 refine ⟨by simp, fun k hk => ?_, by simp, fun i hi => ?_, fun h1 => by simp at h1, by rw [← h.head]; rfl⟩
 ·have : k = 0 := by simpa using hk
  subst this; exact h.lt s (by simp)
 ·constructor
  ·intro hx
   simp at hx; subst hx
   exact h.vtx_of (by simp) ⟨0, 0, fun p hp hne => by simp at hp; exact absurd hp hne⟩
  ·exact h.mem_of hi
theorem Y0U {l : List Pt} (h : chk l = 0) (h0 : 0 < l.length) : HullOk l (arr l) := by
 have hS := j2O h h0
 obtain ⟨x, hx, _⟩ := hS.cover 0 h0
 rcases Nat.lt_or_ge (cpt l (v0k l)).length 2 with h2 | h2
 ·have e : arr l = cpt l (v0k l) := by rw [arr, if_pos (by omega)]
  rw [e]
  match hc : cpt l (v0k l), h2, hx, hS with
  |[s], _, _, hS => exact y1Z hS
  |[], _, hx, _ => simp at hx
 ·obtain ⟨p0, pm, hp, _, T⟩ := Q1x hS.sm hS.inc h2
  rw [V1a h2]
  exact z1a hS T hp
end Go.Proofs.YtgblokifbgeegaaGreatDoor.H.G
end
section
namespace Go.Proofs.YtgblokifbgeegaaGreatDoor.H.G
open Go.Vc
theorem K1P {a b : Pt} (ha : SmP a) (hb : SmP b) (h : lf 1000000 1 a b = 0) : a = b := by
 simp only [lf] at h; simp only [SmP, Sm] at ha hb
 cases a; cases b; simp at *; omega
theorem W1j {a b c : Pt} (h : crs a b c = 0) (h1 : 0 < lf 1000000 1 a b) (h2 : 0 < lf 1000000 1 b c) : btw b a c = true := by
 rw [z0r]
 have hc : crs a c b = 0 := by rw [y0H]; omega
 refine ⟨hc, ?_⟩
 have h5 := w1k 1000000 1 a c b hc
 have h6 := q1U (sub c b)
 have h7 : lf 1000000 1 b a < 0 := by rw [v0b]; omega
 rcases Int.lt_or_le 0 (dot (sub a b) (sub c b)) with hx | hx
 ·have m1 := x0t h2 hx
  have m2 := z0T (Int.le_of_lt h7) h6
  omega
 ·exact hx
theorem K0C {l : List Pt} {i j : Nat} (hi : vtx l i = true) (hj : vtx l j = true) (h : i ≠ j) : gp l i ≠ gp l j := by
 intro e
 rcases Nat.lt_or_ge i j with h1 | h1
 ·exact (x0B.1 hj).1 i h1 e
 ·exact (x0B.1 hi).1 j zO e.symm
theorem Z0G {l : List Pt} {i j k : Nat} (hi : i < l.length) (hk : k < l.length) (hj : vtx l j = true) (n1 : gp l i ≠ gp l j) (n2 : gp l k ≠ gp l j) : btw (gp l j) (gp l i) (gp l k) = false := by
 cases h : btw (gp l j) (gp l i) (gp l k) with
 |false => rfl
 |true =>
  have m1 : gp l i ∈ q0y l j l.length := v0E.2 ⟨V0r hi, n1⟩
  have m2 : gp l k ∈ q0y l j l.length := v0E.2 ⟨V0r hk, n2⟩
  obtain ⟨a, ha, ea⟩ := List.getElem_of_mem m1
  obtain ⟨b, hb, eb⟩ := List.getElem_of_mem m2
  have := v1H (l := q0y l j l.length) (p := gp l j) ha hb (by rw [W0t ha, W0t hb, ea, eb]; exact h)
  rw [(x0B.1 hj).2] at this
  cases this
theorem Z1M {l : List Pt} (sm : ∀ i, SmP (gp l i)) {i j k : Nat} (hi : i < l.length) (hj : j < l.length) (hk : k < l.length) (vi : vtx l i = true) (vj : vtx l j = true) (vk : vtx l k = true) (n1 : i ≠ j) (n2 : j ≠ k) (n3 : i ≠ k) : crs (gp l i) (gp l j) (gp l k) ≠ 0 := by
 intro h
 have key : ∀ a b c : Nat, a < l.length → c < l.length → vtx l a = true → vtx l b = true → vtx l c = true → a ≠ b → b ≠ c → crs (gp l a) (gp l b) (gp l c) = 0 → 0 < lf 1000000 1 (gp l a) (gp l b) → 0 < lf 1000000 1 (gp l b) (gp l c) → False := by
  intro a b c ha hc va vb vc e1 e2 hz h1 h2
  have := Z0G ha hc vb (K0C va vb e1) (K0C vc vb e2.symm)
  rw [W1j hz h1 h2] at this
  cases this
 have q : ∀ a b : Nat, vtx l a = true → vtx l b = true → a ≠ b → lf 1000000 1 (gp l a) (gp l b) ≠ 0 := fun a b va vb e h0 => K0C va vb e (K1P (sm a) (sm b) h0)
 have a1 := q i j vi vj n1
 have a2 := q j k vj vk n2
 have a3 := q i k vi vk n3
 have c1 : crs (gp l i) (gp l k) (gp l j) = 0 := by rw [y0H]; omega
 have c2 : crs (gp l j) (gp l i) (gp l k) = 0 := by rw [j0R]; omega
 have c3 : crs (gp l j) (gp l k) (gp l i) = 0 := by rw [y0f]; exact h
 have c4 : crs (gp l k) (gp l i) (gp l j) = 0 := by rw [w0k]; exact h
 have c5 : crs (gp l k) (gp l j) (gp l i) = 0 := by rw [j0R, y0f]; omega
 have s1 := v0b 1000000 1 (gp l i) (gp l j)
 have s2 := v0b 1000000 1 (gp l j) (gp l k)
 have s3 := v0b 1000000 1 (gp l i) (gp l k)
 have s4 := J1I 1000000 1 (gp l i) (gp l j) (gp l k)
 by_cases b1 : 0 < lf 1000000 1 (gp l i) (gp l j)
 ·by_cases b2 : 0 < lf 1000000 1 (gp l j) (gp l k)
  ·exact key i j k hi hk vi vj vk n1 n2 h b1 b2
  ·by_cases b3 : 0 < lf 1000000 1 (gp l i) (gp l k)
   ·exact key i k j hi hj vi vk vj n3 n2.symm c1 b3 zO
   ·exact key k i j hk hj vk vi vj n3.symm n1 c4 zO b1
 ·by_cases b2 : 0 < lf 1000000 1 (gp l j) (gp l k)
  ·by_cases b3 : 0 < lf 1000000 1 (gp l i) (gp l k)
   ·exact key j i k hj hk vj vi vk n1.symm n3 c2 zO b3
   ·exact key j k i hj hi vj vk vi n2 n3.symm c3 b2 zO
  ·exact key k j i hk hi vk vj vi n2.symm n1.symm c5 zO zO
def j2X (l : List Pt) (k : Nat) : List Nat := ((w0B l l.length).take k).filter (vtx l)
def vs (l : List Pt) : List Nat := j2X l l.length
theorem j2z (l : List Pt) : vs l = (w0B l l.length).filter (vtx l) := by
 unfold vs j2X
 rw [List.take_of_length_le (by rw [z0j]; exact Nat.le_refl _)]
theorem Q1D (l : List Pt) (i : Nat) : i ∈ vs l ↔ i < l.length ∧ vtx l i = true := by
 rw [j2z, List.mem_filter, (W0R l l.length).2]
section
variable {l : List Pt} {v : List Nat}
theorem HullOk.memv (h : HullOk l v) {x : Nat} : x ∈ v ↔ x ∈ vs l := by
 rw [Q1D]
 constructor
 ·intro hx
  obtain ⟨k, hk, e⟩ := List.getElem_of_mem hx
  have hl := h.lt k hk
  rw [v0G hk, e] at hl
  exact ⟨hl, (h.mem x hl).1 hx⟩
 ·intro ⟨h1, h2⟩; exact (h.mem x h1).2 h2
theorem HullOk.vtx (h : HullOk l v) {k : Nat} (hk : k < v.length) : Go.Proofs.YtgblokifbgeegaaGreatDoor.H.vtx l (gi v k) = true := ((Q1D l _).1 (h.memv.1 (by rw [v0G hk]; exact List.getElem_mem hk))).2
theorem HullOk.ne (h : HullOk l v) {j k : Nat} (hj : j < v.length) (hk : k < v.length) (hjk : j ≠ k) : gi v j ≠ gi v k := by
 rw [v0G hj, v0G hk]
 intro e
 exact hjk ((List.getElem_inj h.nd).1 e)
theorem HullOk.strict (h : HullOk l v) (sm : ∀ i, SmP (gp l i)) {k j : Nat} (hk : k < v.length) (hj : j < v.length) (h1 : j ≠ k) (h2 : j ≠ (k + 1) % v.length) (hlen : 1 < v.length) : 0 < crs (gp l (gi v k)) (gp l (gi v ((k + 1) % v.length))) (gp l (gi v j)) := by
 have hm : (k + 1) % v.length < v.length := Nat.mod_lt _ zO
 have hne : k ≠ (k + 1) % v.length := fun e => by
  by_cases hk1 : k + 1 < v.length
  ·rw [Nat.mod_eq_of_lt hk1] at e; omega
  ·have : k + 1 = v.length := by omega
   rw [this, Nat.mod_self] at e; omega
 have e1 := h.edge hlen k hk (gi v j) (h.lt j hj)
 have e2 := Z1M sm (h.lt k hk) (h.lt _ hm) (h.lt j hj) (h.vtx hk) (h.vtx hm) (h.vtx hj) (h.ne hk hm hne) (h.ne hm hj (fun e => h2 e.symm)) (h.ne hk hj (fun e => h1 e.symm))
 omega
end
end Go.Proofs.YtgblokifbgeegaaGreatDoor.H.G
end
section
end
namespace Go.Proofs.YtgblokifbgeegaaGreatDoor.H
theorem w0Y {p q : Nat → Bool} : ∀ (l : List Nat), (∀ x ∈ l, q x = true → p x = true) → (∃ x, x ∈ l ∧ p x = true ∧ q x = false) → (l.filter q).length < (l.filter p).length
 |[], _, h => by obtain ⟨x, hx, _⟩ := h; cases hx
 |a :: l, h1, h2 => by
  have hle : ∀ l : List Nat, (∀ x ∈ l, q x = true → p x = true) → (l.filter q).length ≤ (l.filter p).length := by
   intro l
   induction l with
   |nil => intro _; simp
   |cons b l ih =>
    intro h
    have := ih (fun x hx => h x (by simp [hx]))
    simp only [List.filter_cons]
    cases hq : q b with
    |true => rw [h b (by simp) hq]; simp; omega
    |false => cases p b <;> simp <;> omega
  by_cases ha : p a = true ∧ q a = false
  ·have := hle l (fun x hx => h1 x (by simp [hx]))
   simp only [List.filter_cons, ha.1, ha.2]
   simp; omega
  ·obtain ⟨x, hx, hp, hq⟩ := h2
   have hxl : x ∈ l := by
    rcases List.mem_cons.1 hx with e | e
    ·subst e; exact absurd ⟨hp, hq⟩ ha
    ·exact e
   have := w0Y l (fun x hx => h1 x (by simp [hx])) ⟨x, hxl, hp, hq⟩
   simp only [List.filter_cons]
   cases hqa : q a with
   |true => rw [h1 a (by simp) hqa]; simp; omega
   |false => cases p a <;> simp <;> omega
end Go.Proofs.YtgblokifbgeegaaGreatDoor.H
namespace Go.Proofs.YtgblokifbgeegaaGreatDoor.H
open Go Go.Vc Go.RowKit
set_option maxHeartbeats 4000000
abbrev lp (l : List Pt) : AV := .ptr 1 (fun _ => pts l)
theorem q1y {l : List Pt} (h : chk l = 0) : (∀ i, SmP (gp l i)) ∧ l.length ≤ 64 := by
 unfold chk at h
 split at h
 ·omega
 ·split at h
  ·rename_i h1 h2
   refine ⟨J1b (q := SmP) (fun p hp => ?_) Q1Q, by omega⟩
   have := List.all_eq_true.1 h2 p hp
   simp [x0v, inB] at this
   simp only [SmP, Sm]; omega
  ·omega
end Go.Proofs.YtgblokifbgeegaaGreatDoor.H
namespace Go.Proofs.YtgblokifbgeegaaGreatDoor.H
open Go Go.Vc Go.RowKit
set_option maxHeartbeats 400000
theorem v1F (a b : Pt) (h1 : SmP a) (h2 : SmP b) : CtrA Tryz.prog 313 [pp a, pp b] (pp (sub a b)) := by
 refine j0p _ Tryz.func313 rfl rfl Tryz.ntmps313 rfl fun w Z => ?_
 refine zU ?_
 refine wt ?_
 exact j0e rfl (.agg (us := [_, _]) rfl rfl rfl rfl) rfl
theorem V1N (a b c : Pt) (h1 : SmP a) (h2 : SmP b) (h3 : SmP c) : CtrA Tryz.prog 291 [pp a, pp b, pp c] (vi (crs a b c)) := by
 refine j0p _ Tryz.func291 rfl rfl Tryz.ntmps291 rfl fun w Z => ?_
 have k1 := Q1k h2 h1
 have k2 := Q1k h3 h1
 refine zU ?_
 have q1 := v1F _ _ h2 h1
 have q2 := v1F _ _ h3 h1
 refine wt ?_
 exact zV
end Go.Proofs.YtgblokifbgeegaaGreatDoor.H
namespace Go.Proofs.YtgblokifbgeegaaGreatDoor.H
open Go Go.Vc Go.RowKit
set_option maxHeartbeats 4000000
theorem Z1K (n : Int) : CtrA Tryz.prog 174 [vi n] (vb false) := by
 refine j0p _ Tryz.func174 rfl rfl Tryz.ntmps174 rfl fun w Z => ?_
 refine zU ?_
 refine wt ?_
 exact j0e rfl (.tmp rfl) (congrArg vb (by simp))
theorem J1h (a b : Int) : CtrA Tryz.prog 132 [vi a, vi b] (vi (x1Z a b)) := by
 refine j0p _ Tryz.func132 rfl rfl Tryz.ntmps132 rfl fun w Z => ?_
 refine zU ?_
 have q1 := Z1K a
 have q2 := Z1K b
 refine wt ?_
 (refine j0a rfl ?_ ?_ <;> intro hb <;> (try simp only [zA, zB, zG, zC, zD, zN] at hb) <;> (try exact zQ))
 ·refine wt ?_
  exact j0e rfl (.tmp rfl) (congrArg vi (by simp [x1Z, hb]))
 ·refine wt ?_
  (refine j0a rfl ?_ ?_ <;> intro hb <;> (try simp only [zA, zB, zG, zC, zD, zN] at hb) <;> (try exact zQ))
  ·refine wt ?_
   exact j0e rfl (.tmp rfl) (congrArg vi (by simp [x1Z, hb]; omega))
  ·refine wt ?_
   exact j0e rfl (.tmp rfl) (congrArg vi (by simp [x1Z]; omega))
def ils (a b : Int) : AV := .sl 2 1 (fun i _ => match i with | 0 => vi a | _ => vi b)
theorem j2q (x0 x1 : Int) (w : World) : (Instr.buildSlice 40 2 #[(0, .int .i64 x0), (1, .int .i64 x1)]).run Tryz.prog w = .ok (.slice (some ⟨w.heap.size, 0, none⟩) 2 2) (w.alloc (.cells #[.int .i64 x0, .int .i64 x1] 3)) := by kernel_rfl
theorem V1Q (a b : Int) : ∀ (i : Nat), i < 2 → ∀ (j : Nat), j < 1 → ∃ u, ([Value.int .i64 a, .int .i64 b])[i * 1 + j]? = some u ∧ (match i with | 0 => vi a | _ => vi b) = AV.val u := by
 intro i hi j hj
 obtain rfl : j = 0 := by omega
 match i, hi with
 |0, _ => exact ⟨_, rfl, rfl⟩
 |1, _ => exact ⟨_, rfl, rfl⟩
theorem q2t (a b : Int) : CtrA Tryz.prog 312 [ils a b] (vi (if a = 0 then b else a)) := by
 refine j0p _ Tryz.func312 rfl rfl Tryz.ntmps312 rfl fun w Z => ?_
 refine zU ?_
 refine wt ?_
 refine j0f (γ := Nat) (fun k => [(3, .av (vi 0)), (6, .av (ils a b)), (7, .av (vi 2)), (8, .av (vi k))]) (fun _ => []) (fun k => k ≤ 2 ∧ (0 < k → a = 0) ∧ (1 < k → b = 0)) (fun k => 2 - k) 0 ⟨by omega, by omega, by omega⟩ (ent zS trivial) ?_
 rintro k ⟨hk, h1, h2⟩
 refine wt ?_
 (refine j0a rfl ?_ ?_ <;> intro hb <;> (try simp only [zA, zB, zG, zC, zD, zN] at hb) <;> (try exact zQ))
 ·match k, hk, h1, h2, hb with
  |0, hk, h1, h2, hb =>
   refine wt ?_
   (refine j0a rfl ?_ ?_ <;> intro hb <;> (try simp only [zA, zB, zG, zC, zD, zN] at hb) <;> (try exact zQ))
   ·refine wt ?_
    exact j0e rfl (.tmp rfl) (congrArg vi (by rw [if_neg hb]))
   ·refine wt ?_
    exact j0c 1 ⟨by omega, by omega, by omega⟩ zO (ent zS trivial)
  |1, hk, h1, h2, hb =>
   refine wt ?_
   (refine j0a rfl ?_ ?_ <;> intro hb <;> (try simp only [zA, zB, zG, zC, zD, zN] at hb) <;> (try exact zQ))
   ·refine wt ?_
    exact j0e rfl (.tmp rfl) (congrArg vi (by rw [if_pos (h1 (by omega))]))
   ·refine wt ?_
    exact j0c 2 ⟨by omega, by omega, by omega⟩ zO (ent zS trivial)
  |k + 2, hk, h1, h2, hb => exfalso; omega
 ·refine wt ?_
  exact j0e rfl (.tmp rfl) (congrArg vi (by rw [if_pos (h1 (by omega)), h2 (by omega)]))
theorem Z1R (l : List Pt) (i k : Nat) (hi : i < l.length) (hk : k < l.length) : CtrA Tryz.prog 311 [vi i, vi k, lp l] (vi (V0y l i k)) := by
 refine j0p _ Tryz.func311 rfl rfl Tryz.ntmps311 rfl fun w Z => ?_
 have q1 := J1h (gp l i).x (gp l k).x
 have q2 := J1h (gp l i).y (gp l k).y
 have q3 := q2t (x1Z (gp l i).x (gp l k).x) (x1Z (gp l i).y (gp l k).y)
 refine zU ?_
 refine wt ?_
 refine v0x (q0c (is := [0, 1]) (xs := [_, _]) (vs := [_, _]) (us := [_, _]) (j2q _ _) rfl rfl rfl (V1Q _ _)) rfl ?_
 refine wt ?_
 exact zV
theorem Q1L {v : List Nat} {a b : Nat} (ha : a < v.length) (hb : b < v.length) (hab : a ≠ b) : ∀ i, i < v.length → ∀ j, j < 1 → v0f (v0f (xf v) a 0 [vi (gi v b)]) b 0 [vi (gi v a)] i j = xf (swp v a b) i j := by
 intro i hi j hj
 obtain rfl : j = 0 := by omega
 unfold v0f xf
 rw [v1y ha hb]
 by_cases h1 : i = b
 ·simp [h1]
 ·by_cases h2 : i = a
  ·simp [h2, hab]
  ·simp [h1, h2]
abbrev ocl (l : List Pt) : AV := .clo 311 1 (fun i => [lp l].getD i .any)
theorem V1X (l : List Pt) (v : List Nat) (a b : Nat) (hv : ∀ k, k < v.length → gi v k < l.length) (hab : a ≤ b) (hb' : b ≤ v.length) (hn : v.length ≤ 1000) :
  CtrW Tryz.prog 320 [vi a, vi b, ocl l] 3 1 v.length (xf v) v.length (xf (q0R (fun i k => decide (V0y l i k < 0)) a b v (a + 1))) false := by
 refine X1P _ Tryz.func320 rfl rfl Tryz.ntmps320 rfl fun w Z v0 => ?_
 refine zU ?_
 refine wt ?_
 refine j0f (γ := List Nat × Nat) (fun g => [(0, .osl 0), (1, .av (vi a)), (2, .av (vi b)), (3, .av (ocl l)), (8, .av (vi g.2))]) (fun g => [(0, .row 3 1 g.1.length (xf g.1))])
  (fun g => g.1.length = v.length ∧ (∀ k, k < g.1.length → gi g.1 k < l.length) ∧ q0R (fun i k => decide (V0y l i k < 0)) a b g.1 g.2 = q0R (fun i k => decide (V0y l i k < 0)) a b v (a + 1) ∧ a < g.2 ∧ g.2 ≤ b + 1) (fun g => b + 1 - g.2) (v, a + 1) ⟨rfl, hv, rfl, by simp, by simp; omega⟩ (ent ⟨.refl _, .refl _, .refl _, .refl _, .int (by simp), trivial⟩ zT) ?_
 rintro ⟨u, i⟩ ⟨hl, hu, hS, hai, hib⟩
 simp only at hl hu hS hai hib
 refine wt ?_
 (refine j0a rfl ?_ ?_ <;> intro hb <;> (try simp only [zA, zB, zG, zC, zD, zN] at hb) <;> (try exact zQ))
 ·refine wt ?_
  refine j0f (γ := List Nat × Nat) (fun g => [(0, .osl 0), (1, .av (vi a)), (2, .av (vi b)), (3, .av (ocl l)), (8, .av (vi i)), (9, .av (vi g.2))]) (fun g => [(0, .row 3 1 g.1.length (xf g.1))])
   (fun g => g.1.length = v.length ∧ (∀ k, k < g.1.length → gi g.1 k < l.length) ∧ sink (fun i k => decide (V0y l i k < 0)) a g.1 g.2 = sink (fun i k => decide (V0y l i k < 0)) a u i ∧ a ≤ g.2 ∧ g.2 < v.length) (fun g => g.2) (u, i) ⟨hl, hu, rfl, by simp; omega, by simp; omega⟩ (ent zS zT) ?_
  rintro ⟨t, j⟩ ⟨htl, htu, htS, haj, hjn⟩
  simp only at htl htu htS haj hjn
  dsimp only
  match j, htS, haj, hjn with
  |0, htS, haj, hjn =>
   refine wt ?_
   exact j0c (g := (u, i)) (t, i + 1) ⟨htl, htu, (by rw [← hS, w0d (v := u) (i := i) (by omega), ← htS]; rfl : q0R (fun i k => decide (V0y l i k < 0)) a b t (i + 1) = _), by simp; omega, by simp; omega⟩ (by simp; omega) (ent ⟨.refl _, .refl _, .refl _, .refl _, .int (by simp), trivial⟩ zT)
  |j + 1, htS, haj, hjn =>
   have q := Z1R l (gi t (j + 1)) (gi t j) (htu _ zO) (htu _ zO)
   have e0 : (((j + 1 : Nat) : Int) - 1).toNat = j := by omega
   refine wt ?_
   (first | refine j0l rfl rfl ?_ ?_ | refine j0t rfl rfl ?_ ?_) <;> intro hb <;> (try simp only [zA, zB, zG, zC, zD, zN] at hb) <;> (try exact zQ)
   ·have haj' := hb
    refine wt ?_
    rw [e0]
    refine wt ?_
    (refine j0a rfl ?_ ?_ <;> intro hb <;> (try simp only [zA, zB, zG, zC, zD, zN] at hb) <;> (try exact zQ))
    ·refine wt ?_
     try rw [e0]
     refine wt ?_
     have e : sink (fun i k => decide (V0y l i k < 0)) a t (j + 1) = sink (fun i k => decide (V0y l i k < 0)) a (swp t (j + 1) j) j := by
      rw [sink, if_pos (by simp [hb]; omega)]
     exact j0c (g := (t, j + 1)) (swp t (j + 1) j, j) ⟨by rw [y0s]; exact htl, x1r (v := t) (i := j + 1) (j := j) (p := fun x => x < l.length) (by omega) (by omega) htu, (e.symm.trans htS), by simp; omega, by simp; omega⟩ (by simp) (ent ⟨.refl _, .refl _, .refl _, .refl _, .refl _, .int (by simp), trivial⟩ ⟨⟨_, rfl, .row (y0s _ _ _).symm (Q1L (by omega) (by omega) (by omega))⟩, trivial⟩)
    ·refine wt ?_
     have e : sink (fun i k => decide (V0y l i k < 0)) a t (j + 1) = t := by
      rw [sink, if_neg (by simp [hb])]
     exact j0c (g := (u, i)) (t, i + 1) ⟨htl, htu, (by rw [← hS, w0d (v := u) (i := i) (by omega), ← htS, e] : q0R (fun i k => decide (V0y l i k < 0)) a b t (i + 1) = _), by simp; omega, by simp; omega⟩ (by simp; omega) (ent ⟨.refl _, .refl _, .refl _, .refl _, .int (by simp), trivial⟩ zT)
   ·have e : sink (fun i k => decide (V0y l i k < 0)) a t (j + 1) = t := by
     rw [sink, if_neg (by simp; omega)]
    refine wt ?_
    exact j0c (g := (u, i)) (t, i + 1) ⟨htl, htu, (by rw [← hS, w0d (v := u) (i := i) (by omega), ← htS, e] : q0R (fun i k => decide (V0y l i k < 0)) a b t (i + 1) = _), by simp; omega, by simp; omega⟩ (by simp; omega) (ent ⟨.refl _, .refl _, .refl _, .refl _, .int (by simp), trivial⟩ zT)
 ·refine wt ?_
  exact W0P rfl rfl rfl hl (fun _ _ _ _ => by rw [← hS, z0D (by omega)])
theorem z1E (l : List Pt) (v : List Nat) (hv : ∀ k, k < v.length → gi v k < l.length) (hn : v.length ≤ 19) :
  CtrW Tryz.prog 318 [vi v.length, ocl l] 3 1 v.length (xf v) v.length (xf (q0R (fun i k => decide (V0y l i k < 0)) 0 v.length v 1)) false := by
 refine X1P _ Tryz.func318 rfl rfl Tryz.ntmps318 rfl fun w Z v0 => ?_
 refine zU ?_
 refine wt ?_
 refine j0f (γ := Unit) (fun _ => [(0, .osl 0), (1, .av (vi v.length)), (2, .av (ocl l)), (6, .av (vi 20)), (7, .av (vi 0)), (8, .av (vi 20))]) (fun _ => [(0, .row 3 1 v.length (xf v))]) (fun _ => True) (fun _ => 0) () trivial (ent zS zT) ?_
 intro _ _
 refine wt ?_
 (refine j0a rfl ?_ ?_ <;> intro hb <;> (try simp only [zA, zB, zG, zC, zD, zN] at hb) <;> (try exact zQ))
 have hI := V1X l v 0 v.length hv zO zO zO
 refine wt ?_
 refine j0u (v0B hI rfl rfl rfl) rfl ?_
 refine wt ?_
 refine j0f (γ := Unit) (fun _ => [(0, .osl 0), (1, .av (vi v.length)), (6, .av (vi 20))]) (fun _ => [(0, .row 3 1 v.length (xf (q0R (fun i k => decide (V0y l i k < 0)) 0 v.length v 1)))]) (fun _ => True) (fun _ => 0) () trivial (ent zS zT) ?_
 intro _ _
 refine wt ?_
 (refine j0a rfl ?_ ?_ <;> intro hb <;> (try simp only [zA, zB, zG, zC, zD, zN] at hb) <;> (try exact zQ))
 refine wt ?_
 exact W0P rfl rfl rfl rfl (fun _ _ _ _ => rfl)
theorem Y0k (l : List Pt) (v : List Nat) (hv : ∀ k, k < v.length → gi v k < l.length) (hn : v.length ≤ 19) :
  CtrW Tryz.prog 310 [ocl l] 3 1 v.length (xf v) v.length (xf (q0R (fun i k => decide (V0y l i k < 0)) 0 v.length v 1)) false := by
 refine X1P _ Tryz.func310 rfl rfl Tryz.ntmps310 rfl fun w Z v0 => ?_
 refine zU ?_
 refine wt ?_
 refine j0u (v0B (z1E l v hv hn) rfl rfl rfl) rfl ?_
 refine wt ?_
 exact W0P rfl rfl rfl rfl (fun _ _ _ _ => rfl)
theorem x1M {n i j : Nat} (hi : i < n) (hj : j < 1) : AV.val ([Value.int .i64 0].getD j undef) = xf (y1e n 0) i j := by
 obtain rfl : j = 0 := by omega
 simp [xf, Y0S hi]
theorem zi3 : ∃ inf z, Tryz.prog.info? 3 = some inf ∧ inf.zero = some z ∧ inf.size = 1 ∧ inf.bytes = 8 ∧ z.cells = [Value.int .i64 0].toArray ∧ 0 < 1 :=
 ⟨(Tryz.prog.info? 3).getD default, ((Tryz.prog.info? 3).getD default).zero.getD undef, by kernel_rfl, by kernel_rfl, by kernel_rfl, by kernel_rfl, by kernel_rfl, by decide⟩
theorem order_c (l : List Pt) (hn : l.length ≤ 19) : CtrR Tryz.prog 287 [pts l] 3 1 (v0k l).length (xf (v0k l)) [vi (chk l)] := by
 refine q1M _ Tryz.func287 rfl rfl Tryz.ntmps287 rfl fun w Z => ?_
 refine zU ?_
 have hpc := W0D l
 refine wt ?_
 (refine j0a rfl ?_ ?_ <;> intro hb <;> (try simp only [zA, zB, zG, zC, zD, zN] at hb) <;> (try exact zQ))
 ·refine wt ?_
  exact x0z rfl rfl (by simp [v0k, hb]) (τs := [vi (chk l)]) ⟨.tmp rfl, trivial⟩ rfl
 ·have hb' : chk l = 0 := hb
  refine wt ?_
  refine j0u (Q1z 0 (n := l.length) (q := .i64) (q' := .i64) (zs := [.int .i64 0]) rfl zi3 rfl rfl rfl rfl (by simp only [maxLen]; omega) (by omega)) rfl ?_
  refine wt ?_
  refine j0f (γ := Nat) (fun k => [(1, .av (lp l)), (5, .osl 0), (16, .av (vi l.length)), (17, .av (vi k))]) (fun k => [(0, .row 3 1 l.length (xf (y1e l.length k)))]) (fun k => k ≤ l.length) (fun k => l.length - k) 0 zO (ent zS ⟨⟨_, rfl, .row rfl (fun i hi j hj => x1M hi hj)⟩, trivial⟩) ?_
  intro k hk
  refine wt ?_
  (refine j0a rfl ?_ ?_ <;> intro hb <;> (try simp only [zA, zB, zG, zC, zD, zN] at hb) <;> (try exact zQ))
  ·refine wt ?_
   exact j0c (k + 1) zO zO (ent zS ⟨⟨_, rfl, .row rfl (fun i hi j hj => by
    obtain rfl : j = 0 := by omega
    simp only [v0f, xf, Y0S hi]
    by_cases h1 : i = k
    ·simp [h1]
    ·simp [h1, show (i < k + 1) = (i < k) from by apply propext; omega])⟩, trivial⟩)
  ·have hkl : k = l.length := by omega
   subst hkl
   have hs := Y0k l (y1e l.length l.length) (fun k hk => by rw [X0b] at hk; rw [Y0S hk]; split <;> omega) (by rw [X0b]; exact hn)
   rw [X0b] at hs
   refine wt ?_
   refine j0u (v0B hs rfl rfl rfl) rfl ?_
   refine wt ?_
   exact W0O rfl rfl rfl (by simp [v0k, show chk l = 0 from hb', X1W, V0u]) (fun _ _ _ _ => by simp [v0k, show chk l = 0 from hb', X1W, x1L]) (τs := [vi (chk l)]) ⟨by rw [hb']; exact .tmp rfl, trivial⟩ rfl
theorem Y1X (l : List Pt) (i k : Nat) (hi : i < l.length) (hk : k < l.length) : CtrA Tryz.prog 289 [vi i, vi k, lp l] (vb (decide (gp l i = gp l k))) := by
 refine j0p _ Tryz.func289 rfl rfl Tryz.ntmps289 rfl fun w Z => ?_
 refine zU ?_
 refine wt ?_
 exact j0e rfl (.tmp rfl) (congrArg vb (Z1Z _ _))
theorem V1O (l : List Pt) (i j k : Nat) (hl : ∀ i, SmP (gp l i)) : CtrA Tryz.prog 291 [pp (gp l i), pp (gp l j), pp (gp l k)] (vi (crs (gp l i) (gp l j) (gp l k))) := V1N _ _ _ (hl _) (hl _) (hl _)
theorem q1w (l : List Pt) (v : List Nat) (hl : ∀ i, SmP (gp l i)) (hv : ∀ k, k < v.length → gi v k < l.length) (h0 : 0 < v.length) (hn : v.length ≤ 1000) : CtrR Tryz.prog 290 [idx v, lp l] 3 1 (chain l v).length (xf (chain l v)) [] := by
 refine q1M _ Tryz.func290 rfl rfl Tryz.ntmps290 rfl fun w Z => ?_
 refine zU ?_
 refine wt ?_
 refine j0f (γ := List Nat × Nat) (fun g => [(1, .av (lp l)), (4, .osl 0), (7, .av (idx v)), (8, .av (vi v.length)), (9, .av (vi g.2))]) (fun g => [(0, .row 3 1 g.1.reverse.length (xf g.1.reverse))])
  (fun g => g.2 ≤ v.length ∧ g.1 = stk l (v.take g.2) ∧ g.1.length ≤ g.2 ∧ (0 < g.2 → 0 < g.1.length) ∧ ∀ x ∈ g.1, x < l.length) (fun g => v.length - g.2) ([], 0) ⟨Nat.zero_le _, rfl, Nat.zero_le _, by simp, by simp⟩ ((w0x (dd := 4) 0 3 1 (xf []) rfl rfl).trans (ent zS zT)) ?_
 rintro ⟨st, k⟩ ⟨hk, hst, hlen, hpos, hin⟩
 simp only at hk hst hlen hpos hin
 refine wt ?_
 (refine j0a rfl ?_ ?_ <;> intro hb <;> (try simp only [zA, zB, zG, zC, zD, zN] at hb) <;> (try exact zQ))
 ·have hkv : k < v.length := by omega
  have hx := hv k hkv
  refine wt ?_
  refine j0f (γ := List Nat) (fun s => [(1, .av (lp l)), (4, .osl 0), (6, .av (vi (gi v k))), (7, .av (idx v)), (8, .av (vi v.length)), (9, .av (vi k))]) (fun s => [(0, .row 3 1 s.reverse.length (xf s.reverse))])
   (fun s => pop l (gi v k) s = pop l (gi v k) st ∧ s.length ≤ k ∧ ∀ x ∈ s, x < l.length) (fun s => s.length) st ⟨rfl, hlen, hin⟩ (ent zS zT) ?_
  rintro s ⟨hs, hsl, hsin⟩
  have key : ∀ s : List Nat, pop l (gi v k) st = s → s.length ≤ k → (∀ x ∈ s, x < l.length) → (gi v k :: s) = stk l (v.take (k + 1)) ∧ (gi v k :: s).length ≤ k + 1 ∧ (0 < k + 1 → 0 < (gi v k :: s).length) ∧ ∀ x ∈ gi v k :: s, x < l.length := by
   intro s h1 h2 h3
   refine ⟨?_, by simp; omega, by simp, fun x hx' => by simp at hx'; rcases hx' with rfl | hx'; exact hx; exact h3 x hx'⟩
   rw [List.take_succ_eq_append_getElem hkv, stk, List.foldl_append, List.foldl_cons, List.foldl_nil, ← stk, ← hst, ← v0G hkv, h1]
  match s, hs, hsl, hsin with
  |[], hs, hsl, hsin =>
   have hL0 : ([] : List Nat).reverse.length = 0 := rfl
   refine wt ?_
   exact j0c (g := (st, k)) (gi v k :: [], k + 1) ⟨by simp; omega, key [] hs.symm hsl hsin⟩ (by simp; omega) (ent ⟨.refl _, .refl _, .refl _, .refl _, .int (by simp), trivial⟩ zT)
  |[x], hs, hsl, hsin =>
   have hL0 : [x].reverse.length = 1 := rfl
   refine wt ?_
   exact j0c (g := (st, k)) (gi v k :: [x], k + 1) ⟨by simp; omega, key [x] hs.symm hsl hsin⟩ (by simp; omega) (ent ⟨.refl _, .refl _, .refl _, .refl _, .int (by simp), trivial⟩ zT)
  |b :: a :: r, hs, hsl, hsin =>
   have ha := hsin a (by simp)
   have hb2 := hsin b (by simp)
   have hL : (b :: a :: r).length = r.length + 2 := rfl
   have hrl : (b :: a :: r).reverse.length = r.length + 2 := by simp
   have xa : xf (b :: a :: r).reverse r.length 0 = vi a := by
    simp only [xf]; rw [y0n b (a :: r) (by simp), V0q]
   have xb : xf (b :: a :: r).reverse (r.length + 1) 0 = vi b := by
    simp only [xf]; rw [show r.length + 1 = (a :: r).length from rfl, V0q]
   have ga : gi (b :: a :: r).reverse ((((b :: a :: r).reverse.length : Nat) : Int) - 2).toNat = a := by
    rw [show ((((b :: a :: r).reverse.length : Nat) : Int) - 2).toNat = r.length by omega]
    have := xa; simp only [xf, AV.val.injEq, Value.int.injEq, true_and] at this; omega
   have gb : gi (b :: a :: r).reverse ((((b :: a :: r).reverse.length : Nat) : Int) - 1).toNat = b := by
    rw [show ((((b :: a :: r).reverse.length : Nat) : Int) - 1).toNat = r.length + 1 by omega]
    have := xb; simp only [xf, AV.val.injEq, Value.int.injEq, true_and] at this; omega
   have hq := V1O l a b (gi v k) hl
   refine wt ?_
   (first | refine j0l rfl rfl ?_ ?_ | refine j0t rfl rfl ?_ ?_) <;> intro hb <;> (try simp only [zA, zB, zG, zC, zD, zN] at hb) <;> (try exact zQ)
   refine wt ?_
   rw [ga]
   refine wt ?_
   rw [gb]
   refine wt ?_
   (refine j0a rfl ?_ ?_ <;> intro hb <;> (try simp only [zA, zB, zG, zC, zD, zN] at hb) <;> (try exact zQ))
   ·refine wt ?_
    refine j0c (a :: r) ⟨?_, by simp at hsl ⊢; omega, fun x hx' => hsin x (by simp at hx' ⊢; exact .inr hx')⟩ (by simp) (ent zS ⟨⟨_, rfl, .row (by simp only [List.length_reverse, List.length_cons]; omega) (fun i hi j hj => by simp only [xf]; rw [y0n b (a :: r) (by simp only [List.length_cons]; omega)])⟩, trivial⟩)
    rw [← hs, pop, if_pos hb]
   ·refine wt ?_
    refine j0c (g := (st, k)) (gi v k :: b :: a :: r, k + 1) ⟨by simp; omega, key (b :: a :: r) (by rw [← hs, pop, if_neg hb]) hsl hsin⟩ (by simp; omega) (ent ⟨.refl _, .refl _, .refl _, .refl _, .int (by simp), trivial⟩ ⟨⟨_, rfl, .row (by simp) (fun i hi j hj => by simp)⟩, trivial⟩)
 ·have hkv : k = v.length := by omega
  subst hkv
  rw [List.take_length] at hst
  match st, hst, hpos h0 with
  |x :: r, hst, _ =>
   have hL : (x :: r).reverse.length = r.length + 1 := by simp
   have hL2 : (x :: r).length = r.length + 1 := rfl
   dsimp only
   refine wt ?_
   refine w0A rfl rfl rfl ?_ (fun i hi j hj => ?_)
   ·show _ = (stk l v).tail.reverse.length
    rw [← hst]; simp only [List.tail_cons, List.length_reverse] at hL ⊢; omega
   ·show xf _ _ _ = xf (stk l v).tail.reverse _ _
    rw [← hst]; simp only [xf, List.tail_cons]
    rw [y0n x r (by omega)]
end Go.Proofs.YtgblokifbgeegaaGreatDoor.H
