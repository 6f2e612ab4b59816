/- A part of the proof. -/
import Derived.Test.YtgblokifbgeegaaGreatDoorEaj
import Derived.Test.YtgblokifbgeegaaGreatDoorEap
set_option linter.unusedVariables false
set_option linter.unusedSimpArgs false
section
namespace Go.Proofs.YtgblokifbgeegaaGreatDoor
open Go Go.Vc Go.RowKit Go.Na Go.Lib
set_option maxHeartbeats 4000000
theorem z1R (l : List UInt8) (hl : l.length ≤ 1000000) : CtrA Tryz.prog 165 [vS l] (vi (chk l)) := by
 have h1 := x1I l
 have hsl := Z0y l
 cases hs : Na.szL l with
 |nil =>
  rw [hs] at h1
  refine j0p _ Tryz.func165 rfl rfl Tryz.ntmps165 rfl fun w Z => ?_
  refine zU ?_
  refine wk ?_
  exact j0e rfl (.tmp rfl) (congrArg vi (y0e fun h => h.ne hs).symm)
 |cons b r =>
  rw [hs] at h1 hsl
  have h2 := k1U (b :: r) zO
  by_cases ht : Lib.trimS (b :: r) ten = []
  ·rw [ht] at h2
   have hd := Y0u.1 ht
   by_cases hb : b = 48
   ·by_cases hl1 : l = [48]
    ·have hn : IsNum l := ⟨by rw [hs]; simp, fun _ => hl1, fun y hy => hd y (by rw [← hs]; exact hy)⟩
     have e0 : (l == [48]) = true := by rw [hl1]; rfl
     have hr : r = [] := by
      rw [hl1] at hs
      have : Na.szL [48] = [48] := rfl
      rw [this] at hs
      injection hs with _ hs
      exact hs.symm
     subst hb hr
     have hc : chk l = 0 := by unfold chk; rw [if_pos hn, hs]; rfl
     rw [hc]
     refine j0p _ Tryz.func165 rfl rfl Tryz.ntmps165 rfl fun w Z => ?_
     refine zU ?_
     refine wk ?_
     rw [e0]
     refine wk ?_
     exact zV
    ·have e0 : (l == [48]) = false := by rw [beq_eq_false_iff_ne]; exact hl1
     subst hb
     have hc : chk l = 3 := y0e fun h => hl1 (h.hd (by rw [hs]; rfl))
     rw [hc]
     refine j0p _ Tryz.func165 rfl rfl Tryz.ntmps165 rfl fun w Z => ?_
     refine zU ?_
     refine wk ?_
     rw [e0]
     refine wk ?_
     exact zV
   ·have hn : IsNum l := ⟨by rw [hs]; simp, fun h => by rw [hs] at h; simp at h; exact absurd h hb, fun y hy => hd y (by rw [← hs]; exact hy)⟩
    have e1 : ((b.toNat : Int) == 48) = false := by
     rw [beq_eq_false_iff_ne]; exact fun e => hb ((z1M b 48).1 e)
    refine j0p _ Tryz.func165 rfl rfl Tryz.ntmps165 rfl fun w Z => ?_
    refine zU ?_
    refine wk ?_
    rw [e1]
    refine wk ?_
    (refine j0a rfl ?_ ?_ <;> intro hb <;> (try simp only [zA, zB, zG, zC, zD, zN] at hb) <;> (try exact zQ))
    all_goals
     refine wk ?_
     first
      |exact j0e rfl (.tmp rfl) (congrArg vi (by unfold chk; rw [if_pos hn, if_pos (by rw [hs]; omega)]))
      |exact j0e rfl (.tmp rfl) (congrArg vi (by unfold chk; rw [if_pos hn, if_neg (by rw [hs]; omega)]))
  ·have hc : chk l = 3 := y0e fun h => ht (Y0u.2 fun y hy => h.dig y (by rw [hs]; exact hy))
   rw [hc]
   have e1 : (Lib.trimS (b :: r) ten == []) = false := by
    rw [beq_eq_false_iff_ne]; exact ht
   generalize Lib.trimS (b :: r) ten = X at *
   refine j0p _ Tryz.func165 rfl rfl Tryz.ntmps165 rfl fun w Z => ?_
   refine zU ?_
   refine wk ?_
   rw [e1]
   refine wk ?_
   exact zV
theorem x0U (m : Int) (h : LI 1000 m) : CtrA Tryz.prog 165 [vI m] (vi 0) := by
 have := z1R (itoa m) (by
  have := h.len zE
  by_cases hm : m < 0
  ·rw [itoa_neg hm]; simp; omega
  ·rw [itoa_pos hm]; omega)
 rwa [Y0H h] at this
theorem Y1f (n : Nat) (g : Nat → Int) (hn : n ≤ 1000000) (hg : ∀ i, i < n → LI 1000 (g i)) : CtrA Tryz.prog 142 [.sl n 1 (fun i _ => vI (g i))] (vi 0) := by
 refine j0p _ Tryz.func142 rfl rfl Tryz.ntmps142 rfl fun w Z => ?_
 refine zU ?_
 refine wk ?_
 refine j0f (γ := Nat) (fun i => [(6, .av (.sl n 1 (fun i _ => vI (g i)))), (7, .av (vi n)), (8, .av (vi i))]) (fun _ => []) (fun i => i ≤ n) (fun i => n - i) 0 (Nat.zero_le _) (ent zS trivial) ?_
 intro i hi
 refine wk ?_
 (refine j0a rfl ?_ ?_ <;> intro hb <;> (try simp only [zA, zB, zG, zC, zD, zN] at hb) <;> (try exact zQ))
 ·have hc := x0U (g i) (hg i zO)
  refine wk ?_
  exact j0c (i + 1) zO zO (ent zS trivial)
 ·refine wk ?_
  exact zV
def two (a b : Int) (i : Nat) : Int := if i = 0 then a else b
theorem X1w (a b : ByteArray) (w : World) : (Instr.buildSlice 101 2 #[(0, .string a), (1, .string b)]).run Tryz.prog w = .ok (.slice (some ⟨w.heap.size, 0, none⟩) 2 2) (w.alloc (.cells #[.string a, .string b] 104)) := by kernel_rfl
section
variable {E : Env} {T : Tab} {O : Go.Vc.Own} {d : Option Nat} {ty : TypeId} {pos : String} {af : Array Edge} {g : Option (Nat × Bool)}
theorem v0M {x y : Operand} {a b : Int} (hx : T.ev x = .av (vI a)) (hy : T.ev y = .av (vI b)) : GV Tryz.prog E ⟨d, .buildSlice 101 2 #[(0, x), (1, y)], ty, pos, af, g⟩ T O (.av (.sl 2 1 (fun i _ => vI (two a b i)))) [] [] :=
 q0c (is := [0, 1]) (xs := [x, y]) (vs := [.string (bs (itoa a)), .string (bs (itoa b))]) (us := [.string (bs (itoa a)), .string (bs (itoa b))]) (X1w _ _) rfl (by simp only [List.map_cons, List.map_nil, hx, hy]) rfl (fun i hi j hj => by
  obtain rfl : j = 0 := zO
  rcases (by omega : i = 0 ∨ i = 1) with rfl | rfl <;> exact ⟨_, rfl, rfl⟩)
end
theorem X0j (n : Int) (h : -9223372036854775808 ≤ n ∧ n ≤ 9223372036854775807) : CtrA Tryz.prog 86 [vi n] (vI n) := by
 have h1 := k0J n h
 refine j0p _ Tryz.func86 rfl rfl Tryz.ntmps86 rfl fun w Z => ?_
 refine zU ?_
 refine wk ?_
 exact zV
theorem K0c (n : Int) (h : -9223372036854775808 ≤ n ∧ n ≤ 9223372036854775807) : CtrA Tryz.prog 160 [vi n] (j0x [vI n, vi 0]) := by
 have h1 := X0j n h
 refine j0p _ Tryz.func160 rfl rfl Tryz.ntmps160 rfl fun w Z => ?_
 refine zU ?_
 refine wk ?_
 exact zW
theorem v1L (m : Int) : ∃ b r, itoa m = b :: r ∧ ((b.toNat : Int) == 45) = decide (m < 0) := by
 by_cases h : m < 0
 ·exact ⟨45, _, itoa_neg h, by rw [decide_eq_true h]; rfl⟩
 ·obtain ⟨b, r, e, hd⟩ := J0m m.natAbs
  refine ⟨b, r, by rw [itoa_pos h, e], ?_⟩
  rw [decide_eq_false h, beq_eq_false_iff_ne]
  exact fun e => q1Q hd ((z1M b 45).1 e)
theorem w1X (m : Int) : CtrA Tryz.prog 143 [vI m] (vi (sgn m)) := by
 have h0 := w0q m
 obtain ⟨b, r, e, hb⟩ := v1L m
 by_cases hz : m = 0
 ·rw [decide_eq_true hz] at h0
  refine j0p _ Tryz.func143 rfl rfl Tryz.ntmps143 rfl fun w Z => ?_
  refine zU ?_
  refine wk ?_
  rw [h0]
  refine wk ?_
  exact j0e rfl (.tmp rfl) (congrArg vi (by unfold sgn; rw [if_pos hz]))
 ·rw [decide_eq_false hz] at h0
  by_cases hn : m < 0
  ·rw [decide_eq_true hn] at hb
   refine j0p _ Tryz.func143 rfl rfl Tryz.ntmps143 rfl fun w Z => ?_
   refine zU ?_
   refine wk ?_
   rw [h0]
   refine wk ?_
   refine j0n (q0Z (b := b) rfl rfl rfl (by rw [e]; rfl)) rfl ?_
   refine wk ?_
   rw [hb]
   refine wk ?_
   exact j0e rfl (.tmp rfl) (congrArg vi (by unfold sgn; rw [if_neg hz, if_pos hn]))
  ·rw [decide_eq_false hn] at hb
   refine j0p _ Tryz.func143 rfl rfl Tryz.ntmps143 rfl fun w Z => ?_
   refine zU ?_
   refine wk ?_
   rw [h0]
   refine wk ?_
   refine j0n (q0Z (b := b) rfl rfl rfl (by rw [e]; rfl)) rfl ?_
   refine wk ?_
   rw [hb]
   refine wk ?_
   exact j0e rfl (.tmp rfl) (congrArg vi (by unfold sgn; rw [if_neg hz, if_neg hn]))
theorem Z0V : ∀ {a b : List UInt8}, a.length = b.length → (∀ x ∈ a, isD x) → (∀ x ∈ b, isD x) → Lib.compareBytes a b = sgn ((dv a : Int) - dv b)
 |[], [], _, _, _ => rfl
 |x :: a, y :: b, hl, ha, hb => by
  have hl' : a.length = b.length := by simpa using hl
  have ih := Z0V hl' (fun z hz => ha z (by simp [hz])) (fun z hz => hb z (by simp [hz]))
  have h1 := dgI (ha x (by simp))
  have h2 := dgI (hb y (by simp))
  have l1 := x0l a fun z hz => ha z (by simp [hz])
  have l2 := x0l b fun z hz => hb z (by simp [hz])
  rw [← hl'] at l2
  rw [x0k, x0k, ← hl']
  unfold Lib.compareBytes
  generalize hp : 10 ^ a.length = p at l1 l2 ⊢
  rcases Nat.lt_trichotomy x.toNat y.toNat with h | h | h
  ·have h3 : (x.toNat - 48 + 1) * p ≤ (y.toNat - 48) * p := Nat.mul_le_mul_right _ zO
   rw [Nat.add_mul] at h3
   have hx : x < y := h
   rw [if_pos hx]
   unfold sgn
   rw [if_neg (by omega), if_pos (by omega)]
  ·have : x = y := UInt8.toNat_inj.1 h
   subst this
   have hx : ¬ x < x := Nat.lt_irrefl _
   rw [if_neg hx, if_neg hx, ih]
   congr 1; omega
  ·have h3 : (y.toNat - 48 + 1) * p ≤ (x.toNat - 48) * p := Nat.mul_le_mul_right _ zO
   rw [Nat.add_mul] at h3
   have hx : ¬ x < y := Nat.not_lt.2 (Nat.le_of_lt h)
   have hy : y < x := h
   rw [if_neg hx, if_pos hy]
   unfold sgn
   rw [if_neg (by omega), if_neg (by omega)]
theorem z1T (u v : Nat) : CtrA Tryz.prog 144 [vS (decDigits u), vS (decDigits v)] (vi (sgn ((u : Int) - v))) := by
 have h1 := q1F (decDigits u) (decDigits v)
 by_cases hl : (decDigits u).length = (decDigits v).length
 ·rw [Z0V hl (j0I u) (j0I v), q0b, q0b] at h1
  refine j0p _ Tryz.func144 rfl rfl Tryz.ntmps144 rfl fun w Z => ?_
  refine zU ?_
  refine wk ?_
  (refine j0a rfl ?_ ?_ <;> intro hb <;> (try simp only [zA, zB, zG, zC, zD, zN] at hb) <;> (try exact zQ))
  refine wk ?_
  exact zV
 ·refine j0p _ Tryz.func144 rfl rfl Tryz.ntmps144 rfl fun w Z => ?_
  refine zU ?_
  refine wk ?_
  (refine j0a rfl ?_ ?_ <;> intro hb <;> (try simp only [zA, zB, zG, zC, zD, zN] at hb) <;> (try exact zQ))
  refine wk ?_
  (refine j0a rfl ?_ ?_ <;> intro hb <;> (try simp only [zA, zB, zG, zC, zD, zN] at hb) <;> (try exact zQ))
  ·refine wk ?_
   have := x0G (u := u) (v := v) zO
   exact j0e rfl (.tmp rfl) (congrArg vi (by unfold sgn; rw [if_neg (by omega), if_pos (by omega)]))
  ·refine wk ?_
   have := x0G (u := v) (v := u) zO
   exact j0e rfl (.tmp rfl) (congrArg vi (by unfold sgn; rw [if_neg (by omega), if_neg (by omega)]))
theorem Z0E (m : Int) : CtrA Tryz.prog 145 [vI m, vS [45]] (vS (decDigits m.natAbs)) := by
 have := x1I (itoa m)
 rwa [x0T] at this
theorem Z0l {m n : Int} (h : sgn m = sgn n) : sgn m * sgn ((m.natAbs : Int) - n.natAbs) = sgn (m - n) := by
 unfold sgn at *
 split at h
 ·split at h
  ·simp_all
  ·split at h <;> simp at h
 ·split at h
  ·split at h
   ·simp at h
   ·split at h
    ·rw [if_neg (by assumption), if_pos (by assumption)]
     by_cases e : m = n
     ·rw [if_pos (by omega), if_pos (by omega)]; rfl
     ·by_cases l : m < n
      ·rw [if_neg (by omega), if_neg (by omega), if_neg (by omega), if_pos (by omega)]; rfl
      ·rw [if_neg (by omega), if_pos (by omega), if_neg (by omega), if_neg (by omega)]; rfl
    ·simp at h
  ·split at h
   ·simp at h
   ·split at h
    ·simp at h
    ·rw [if_neg (by assumption), if_neg (by assumption)]
     by_cases e : m = n
     ·rw [if_pos (by omega), if_pos (by omega)]; rfl
     ·by_cases l : m < n
      ·rw [if_neg (by omega), if_pos (by omega), if_neg (by omega), if_pos (by omega)]; rfl
      ·rw [if_neg (by omega), if_neg (by omega), if_neg (by omega), if_neg (by omega)]; rfl
theorem V0I (m n : Int) (hm : LI 1000 m) (hn : LI 1000 n) : CtrA Tryz.prog 105 [vI m, vI n] (j0x [vi (sgn (m - n)), vi 0]) := by
 have h0 := Y1f 2 (two m n) zE (fun i hi => by rcases (by omega : i = 0 ∨ i = 1) with rfl | rfl <;> assumption)
 have h1 := w1X m
 have h2 := w1X n
 have h3 := Z0E m
 have h4 := Z0E n
 have h5 := z1T m.natAbs n.natAbs
 have s3 : ∀ k : Int, sgn k = 0 ∨ sgn k = 1 ∨ sgn k = -1 := fun k => by unfold sgn; split; exact .inl rfl; split; exact .inr (.inr rfl); exact .inr (.inl rfl)
 have r1 := s3 m
 have r2 := s3 n
 have r3 := s3 ((m.natAbs : Int) - n.natAbs)
 have hlt : sgn m < sgn n → sgn (m - n) = -1 := fun h => by
  unfold sgn at *
  split at h <;> split at h <;> (try split at h) <;> (try split at h) <;> (try omega) <;> rw [if_neg (by omega), if_pos (by omega)]
 have hgt : sgn n < sgn m → sgn (m - n) = 1 := fun h => by
  unfold sgn at *
  split at h <;> split at h <;> (try split at h) <;> (try split at h) <;> (try omega) <;> rw [if_neg (by omega), if_neg (by omega)]
 have heq := Z0l (m := m) (n := n)
 have hmul : -1 ≤ sgn m * sgn ((m.natAbs : Int) - n.natAbs) ∧ sgn m * sgn ((m.natAbs : Int) - n.natAbs) ≤ 1 := by
  rcases r1 with e | e | e <;> rcases r3 with e' | e' | e' <;> rw [e, e'] <;> decide
 refine j0p _ Tryz.func105 rfl rfl Tryz.ntmps105 rfl fun w Z => ?_
 refine zU ?_
 refine wk ?_
 refine j0n (v0M rfl rfl) rfl ?_
 refine wk ?_
 generalize sgn m = s at *
 generalize sgn n = t at *
 generalize sgn ((m.natAbs : Int) - n.natAbs) = q at *
 (refine j0a rfl ?_ ?_ <;> intro hb <;> (try simp only [zA, zB, zG, zC, zD, zN] at hb) <;> (try exact zQ))
 ·refine wk ?_
  exact j0A (rvs := [_, _]) (τs := [_, _]) rfl rfl ⟨.tmp rfl, .tmp rfl, trivial⟩ (by rw [hlt (by omega)])
 ·refine wk ?_
  (refine j0a rfl ?_ ?_ <;> intro hb <;> (try simp only [zA, zB, zG, zC, zD, zN] at hb) <;> (try exact zQ))
  ·refine wk ?_
   exact j0A (rvs := [_, _]) (τs := [_, _]) rfl rfl ⟨.tmp rfl, .tmp rfl, trivial⟩ (by rw [hgt (by omega)])
  ·refine wk ?_
   exact j0A (rvs := [_, _]) (τs := [_, _]) rfl rfl ⟨.tmp rfl, .tmp rfl, trivial⟩ (by rw [heq (by omega)])
end Go.Proofs.YtgblokifbgeegaaGreatDoor
end
namespace Go.Na
open Go.Lib
def wd (V : Nat) (i : Nat) : Int := ((V / 1000000000 ^ i % 1000000000 : Nat) : Int)
def nw (V : Nat) : Nat := if h : V = 0 then 0 else nw (V / 1000000000) + 1
termination_by V
decreasing_by omega
theorem q0z : nw 0 = 0 := by rw [nw]; simp
theorem z0U {V : Nat} (h : V ≠ 0) : nw V = nw (V / 1000000000) + 1 := by rw [nw, dif_neg h]
theorem q0r (V i : Nat) : 0 ≤ wd V i ∧ wd V i < B := by
 unfold wd
 have := Nat.mod_lt (V / 1000000000 ^ i) (show 1000000000 > 0 by decide)
 show 0 ≤ ((V / 1000000000 ^ i % 1000000000 : Nat) : Int) ∧ ((V / 1000000000 ^ i % 1000000000 : Nat) : Int) < 1000000000
 omega
theorem X0f (V i : Nat) : wd V (i + 1) = wd (V / 1000000000) i := by
 unfold wd
 rw [Nat.pow_succ, Nat.mul_comm, ← Nat.div_div_eq_div_mul]
theorem X0g (V : Nat) : wd V 0 = ((V % 1000000000 : Nat) : Int) := by simp [wd]
theorem w0f : ∀ V : Nat, V < 1000000000 ^ nw V := by
 intro V
 induction V using Nat.strongRecOn with
 |_ V ih =>
  by_cases h : V = 0
  ·subst h; exact Nat.pow_pos (by decide)
  ·rw [z0U h, Nat.pow_succ]
   have := ih (V / 1000000000) (by omega)
   omega
theorem Z0b {V : Nat} : ∀ {n : Nat}, V < 1000000000 ^ n → nw V ≤ n := by
 induction V using Nat.strongRecOn with
 |_ V ih =>
  intro n hn
  by_cases h : V = 0
  ·subst h; rw [q0z]; omega
  ·rw [z0U h]
   cases n with
   |zero => simp at hn; exact absurd hn h
   |succ n =>
    rw [Nat.pow_succ] at hn
    have := ih (V / 1000000000) (by omega) (n := n) (by omega)
    omega
theorem V0x {V : Nat} : nw V = 0 ↔ V = 0 := by
 constructor
 ·intro h
  have := w0f V
  rw [h] at this; simpa using this
 ·rintro rfl; exact q0z
theorem v0j {V i : Nat} (h : nw V ≤ i) : wd V i = 0 := by
 have h1 := w0f V
 have h2 : V < 1000000000 ^ i := Nat.lt_of_lt_of_le h1 (Nat.pow_le_pow_right (by decide) h)
 unfold wd
 rw [Nat.div_eq_of_lt h2]; rfl
theorem y0d : ∀ {V : Nat}, V ≠ 0 → wd V (nw V - 1) ≠ 0 := by
 intro V
 induction V using Nat.strongRecOn with
 |_ V ih =>
  intro h
  rw [z0U h]
  by_cases h1 : V / 1000000000 = 0
  ·rw [h1, q0z]
   show wd V 0 ≠ 0
   rw [X0g]
   omega
  ·have := ih (V / 1000000000) (by omega) h1
   have h2 : nw (V / 1000000000) ≠ 0 := fun e => h1 (V0x.1 e)
   rw [show nw (V / 1000000000) + 1 - 1 = (nw (V / 1000000000) - 1) + 1 by omega, X0f]
   exact this
theorem J0d : ∀ (n V : Nat), V < 1000000000 ^ n → vw (wd V) n = V
 |0, V, h => by simp at h; subst h; rfl
 |n + 1, V, h => by
  have hs : vw (wd V) (n + 1) = vw (wd (V / 1000000000)) n * B + wd V 0 := X0e (fun i => X0f V i) n
  rw [hs, J0d n (V / 1000000000) (by rw [Nat.pow_succ] at h; omega), X0g]
  show ((V / 1000000000 : Nat) : Int) * 1000000000 + _ = _
  omega
theorem K1d {f : Nat → Int} : ∀ {n V : Nat}, (∀ i, 0 ≤ f i) → (∀ i, f i < B) → vw f n = V → ∀ i, i < n → f i = wd V i
 |0, _, _, _, _, i, hi => by omega
 |n + 1, V, h0, h1, hv, i, hi => by
  have hs : vw f (n + 1) = vw (fun i => f (i + 1)) n * B + f 0 := X0e (fun i => rfl) n
  rw [hs] at hv
  have a0 := h0 0
  have a1 : f 0 < 1000000000 := h1 0
  have hv' : vw (fun i => f (i + 1)) n * 1000000000 + f 0 = V := hv
  have hn := x0C (f := fun i => f (i + 1)) (fun i => h0 (i + 1)) n
  generalize hw : vw (fun i => f (i + 1)) n = W at hv' hn
  have hq : W = ((V / 1000000000 : Nat) : Int) := by omega
  cases i with
  |zero => rw [X0g]; omega
  |succ i =>
   rw [X0f]
   exact K1d (f := fun i => f (i + 1)) (fun i => h0 (i + 1)) (fun i => h1 (i + 1)) (by rw [hw, hq]) i (by omega)
theorem Z1V (n : Nat) : ((1000000000 ^ n : Nat) : Int) = B ^ n := by simp
theorem j2B {V d : Nat} (h : d < 1000000000) (i : Nat) : wd (V * 1000000000 + d) i = match i with | 0 => (d : Int) | i + 1 => wd V i := by
 cases i with
 |zero => rw [X0g]; show ((_ : Nat) : Int) = (d : Int); omega
 |succ i =>
  rw [X0f]
  show wd _ _ = wd _ _
  congr 1; omega
end Go.Na
namespace Go.Na
open Go
theorem K1c {V W : Nat} (hn : nw V = nw W) (h : ∀ i, i < nw V → wd V i = wd W i) : V = W := by
 have h1 := J0d (nw V) V (w0f V)
 have h2 := J0d (nw W) W (w0f W)
 rw [← hn, ← X0d h] at h2
 omega
theorem K0x (f g : Nat → Int) : ∀ n, (∀ i, i < n → f i = g i) ∨ ∃ j, j < n ∧ f j ≠ g j ∧ ∀ k, j < k → k < n → f k = g k
 |0 => .inl (fun i h => absurd h (Nat.not_lt_zero i))
 |n + 1 => by
  by_cases he : f n = g n
  ·rcases K0x f g n with h | ⟨j, h1, h2, h3⟩
   ·exact .inl fun i hi => by
     rcases Nat.lt_succ_iff_lt_or_eq.1 hi with h' | rfl
     ·exact h i h'
     ·exact he
   ·exact .inr ⟨j, by omega, h2, fun k h4 h5 => by
     rcases Nat.lt_succ_iff_lt_or_eq.1 h5 with h' | rfl
     ·exact h3 k h4 h'
     ·exact he⟩
  ·exact .inr ⟨n, by omega, he, fun k h4 h5 => by omega⟩
theorem X0R {V W j : Nat} (hn : nw V = nw W) (hj : j < nw V) (hlt : wd V j < wd W j) (h : ∀ k, j < k → k < nw V → wd V k = wd W k) : V < W := by
 have h0 := Q1E (f := wd V) (g := wd W) (fun i => (q0r V i).1) (fun i => (q0r V i).2) (fun i => (q0r W i).1) hlt hj h
 rw [J0d _ _ (w0f V), hn, J0d _ _ (w0f W)] at h0
 omega
theorem k0O {V W : Nat} (h : nw V < nw W) : V < W := by
 apply Nat.lt_of_not_le
 intro hle
 have := Z0b (V := W) (n := nw V) (Nat.lt_of_le_of_lt hle (w0f V))
 omega
def y1d (f g : Nat → Int) : Nat → Int
 |0 => 0
 |n + 1 => if f n ≠ g n then f n - g n else y1d f g n
def bey (V W : Nat) : Int := if (nw V : Int) ≠ nw W then nw V - nw W else y1d (wd V) (wd W) (nw V)
theorem X1s {f g : Nat → Int} {n : Nat} (h : ∀ i, i < n → f i = g i) : y1d f g n = 0 := by
 induction n with
 |zero => rfl
 |succ n ih =>
  unfold y1d
  rw [if_neg (by simp [h n (by omega)])]
  exact ih fun i hi => h i (by omega)
theorem X1t {f g : Nat → Int} {n j : Nat} (hj : j < n) (hne : f j ≠ g j) (h : ∀ k, j < k → k < n → f k = g k) : y1d f g n = f j - g j := by
 induction n with
 |zero => omega
 |succ n ih =>
  unfold y1d
  by_cases e : n = j
  ·subst e; rw [if_pos hne]
  ·rw [if_neg (by simp [h n (by omega) (by omega)])]
   exact ih (by omega) fun k h1 h2 => h k h1 (by omega)
theorem q1n (V W : Nat) : 0 ≤ bey V W ↔ W ≤ V := by
 unfold bey
 by_cases hn : nw V = nw W
 ·rw [if_neg (by omega)]
  rcases K0x (wd V) (wd W) (nw V) with h | ⟨j, h1, h2, h3⟩
  ·rw [X1s h, K1c hn h]; simp
  ·rw [X1t h1 h2 h3]
   rcases Int.lt_or_gt_of_ne h2 with h | h
   ·have := X0R hn h1 h h3
    omega
   ·have := X0R hn.symm (by omega) h (fun k h4 h5 => (h3 k h4 (by omega)).symm)
    omega
 ·rw [if_pos (by omega)]
  rcases Nat.lt_or_gt_of_ne hn with h | h
  ·have := k0O h; omega
  ·have := k0O h; omega
def X0m (V : Nat) (i : Nat) : Int := if i < nw V then wd V i else 0
theorem X0a (V i : Nat) : 0 ≤ X0m V i ∧ X0m V i ≤ 999999999 := by
 have r1 := q0r V i
 have : Na.B = 1000000000 := rfl
 unfold X0m; split <;> omega
theorem W0Z (V i : Nat) : X0m V i = wd V i := by
 unfold X0m; split
 ·rfl
 ·rw [v0j (by omega)]
def y1O (W : Nat) : Int := if 1 < nw W then X0m W (nw W - 1) + 1 else X0m W (nw W - 1)
def J1s (V W : Nat) : Int := (X0m V (nw W) * 1000000000 + X0m V (nw W - 1)) / y1O W
def est (V W : Nat) : Int := if 0 < J1s V W then (if 999999999 < J1s V W then 999999999 else J1s V W) else 1
theorem k0p {W : Nat} (h : W ≠ 0) : 0 < y1O W := by
 have h1 := y0d h
 have h2 := q0r W (nw W - 1)
 unfold y1O
 rw [W0Z]
 split <;> omega
theorem J1r {V W : Nat} (hW : W ≠ 0) (hle : W ≤ V) : 1 ≤ est V W ∧ est V W ≤ 999999999 ∧ est V W * W ≤ V := by
 have hb := k0p hW
 have hn := z0U hW
 have hV : V < 1000000000 ^ (nw V + nw W + 2) := Nat.lt_of_lt_of_le (w0f V) (Nat.pow_le_pow_right (by decide) (by omega))
 have e1 := J0d _ _ hV
 have e2 : vw (wd W) (nw W - 1 + 1) = W := by
  have : nw W - 1 + 1 = nw W := by omega
  rw [this]; exact J0d _ _ (w0f W)
 have hB : y1O W = if nw W - 1 = 0 then wd W (nw W - 1) else wd W (nw W - 1) + 1 := by
  unfold y1O
  rw [W0Z]
  by_cases h : 1 < nw W
  ·rw [if_pos h, if_neg (by omega)]
  ·rw [if_neg h, if_pos (by omega)]
 have key := fun k h0 h1 => Y1Z (f := wd V) (g := wd W) (n := nw W - 1) (N := nw V + nw W + 2) (b := y1O W) (k := k) (fun i => (q0r V i).1) (fun i => (q0r W i).1) (fun i => (q0r W i).2) (by omega) hB hb h0 h1
 have ew : nw W - 1 + 1 = nw W := by omega
 rw [e1, e2, ew, ← W0Z, ← W0Z] at key
 change ∀ k, 0 ≤ k → k ≤ J1s V W → k * W ≤ V at key
 unfold est
 split
 ·split
  ·exact ⟨by omega, by omega, key _ (by omega) (by omega)⟩
  ·exact ⟨by omega, by omega, key _ (by omega) (by omega)⟩
 ·refine ⟨by omega, by omega, by omega⟩
end Go.Na
namespace Go.Proofs.YtgblokifbgeegaaGreatDoor
open Go Go.Vc Go.RowKit Go.Na Go.Lib
set_option maxHeartbeats 4000000
theorem J0g (V W : Nat) (b c : Bool) (hV : nw V ≤ 232) (hW : nw W ≤ 232) : CtrA Tryz.prog 207 [wA b (nw V) (wd V), wA c (nw W) (wd W)] (vi (bey V W)) := by
 refine j0p _ Tryz.func207 rfl rfl Tryz.ntmps207 rfl fun w Z => ?_
 refine zU ?_
 refine wl ?_
 (refine j0a rfl ?_ ?_ <;> intro hb <;> (try simp only [zA, zB, zG, zC, zD, zN] at hb) <;> (try exact zQ))
 ·refine wl ?_
  exact j0e rfl (.tmp rfl) (congrArg vi (by unfold bey; rw [if_pos (by omega)]))
 ·refine wl ?_
  refine j0f (γ := Nat) (fun (i : Nat) => [(0, .av (wA b (nw V) (wd V))), (1, .av (wA c (nw W) (wd W))), (4, .av (vi 0)), (5, .av (vi ((i : Int) - 1)))]) (fun _ => []) (fun i => i ≤ nw V ∧ y1d (wd V) (wd W) (nw V) = y1d (wd V) (wd W) i) (fun i => i) (nw V) ⟨by omega, rfl⟩ (ent zS trivial) ?_
  rintro i ⟨hi, ht⟩
  refine wl ?_
  (refine j0a rfl ?_ ?_ <;> intro hb <;> (try simp only [zA, zB, zG, zC, zD, zN] at hb) <;> (try exact zQ))
  ·obtain ⟨k, rfl⟩ : ∃ k, i = k + 1 := ⟨i - 1, by omega⟩
   have r1 := q0r V k
   have r2 := q0r W k
   have : Na.B = 1000000000 := rfl
   have e : ((k + 1 : Nat) : Int) - 1 = k := by omega
   rw [e]
   refine wl ?_
   (refine j0a rfl ?_ ?_ <;> intro hb <;> (try simp only [zA, zB, zG, zC, zD, zN] at hb) <;> (try exact zQ))
   ·refine wl ?_
    exact j0e rfl (.tmp rfl) (congrArg vi (by unfold bey; rw [if_neg (by omega), ht, y1d, if_pos (by assumption)]))
   ·refine wl ?_
    exact j0c k ⟨by omega, by rw [ht, y1d, if_neg (by omega)]⟩ (by omega) (ent zS trivial)
  ·obtain rfl : i = 0 := by omega
   refine wl ?_
   exact j0e rfl (.tmp rfl) (congrArg vi (by unfold bey; rw [if_neg (by omega), ht]; rfl))
theorem x1E (V : Nat) (b : Bool) (hV : nw V ≤ 232) (i : Int) (k : Nat) (hi : i = k) : CtrA Tryz.prog 239 [wA b (nw V) (wd V), vi i] (vi (X0m V k)) := by
 subst hi
 have r1 := q0r V k
 refine j0p _ Tryz.func239 rfl rfl Tryz.ntmps239 rfl fun w Z => ?_
 refine zU ?_
 refine wl ?_
 (refine j0a rfl ?_ ?_ <;> intro hb <;> (try simp only [zA, zB, zG, zC, zD, zN] at hb) <;> (try exact zQ))
 ·refine wl ?_
  exact j0e rfl (.tmp rfl) (congrArg vi (by unfold X0m; rw [if_neg (by omega)]))
 ·refine wl ?_
  exact j0e rfl (.tmp rfl) (congrArg vi (by unfold X0m; rw [if_pos (by omega)]))
theorem V0e (V W : Nat) (b c : Bool) (hV : nw V ≤ 232) (hW : nw W ≤ 232) (h0 : W ≠ 0) : CtrA Tryz.prog 208 [wA b (nw V) (wd V), wA c (nw W) (wd W)] (vi (est V W)) := by
 have hn := z0U h0
 have h1 := x1E V b hV (nw W) (nw W) rfl
 have h2 := x1E V b hV (nw W - 1) (nw W - 1) zO
 have h3 := x1E W c hW (nw W - 1) (nw W - 1) zO
 have r1 := X0a V (nw W)
 have r2 := X0a V (nw W - 1)
 have r3 := X0a W (nw W - 1)
 have hpos := k0p h0
 refine j0p _ Tryz.func208 rfl rfl Tryz.ntmps208 rfl fun w Z => ?_
 refine zU ?_
 refine wl ?_
 (refine j0a rfl ?_ ?_ <;> intro hb <;> (try simp only [zA, zB, zG, zC, zD, zN] at hb) <;> (try exact zQ))
 ·have he : J1s V W = (X0m V (nw W) * 1000000000 + X0m V (nw W - 1)) / (X0m W (nw W - 1) + 1) := by unfold J1s y1O; rw [if_pos (by omega)]
  refine wl ?_
  rw [← he]
  (refine j0a rfl ?_ ?_ <;> intro hb <;> (try simp only [zA, zB, zG, zC, zD, zN] at hb) <;> (try exact zQ))
  ·refine wl ?_
   exact j0e rfl (.tmp rfl) (congrArg vi (by unfold est; rw [he]; exact (if_pos (by omega)).symm))
  ·refine wl ?_
   exact j0e rfl (.tmp rfl) (congrArg vi (by unfold est; rw [he]; exact (if_neg (by omega)).symm))
 ·have he : J1s V W = (X0m V (nw W) * 1000000000 + X0m V (nw W - 1)) / X0m W (nw W - 1) := by unfold J1s y1O; rw [if_neg (by omega)]
  unfold y1O at hpos
  rw [if_neg (by omega)] at hpos
  refine wl ?_
  rw [← he]
  (refine j0a rfl ?_ ?_ <;> intro hb <;> (try simp only [zA, zB, zG, zC, zD, zN] at hb) <;> (try exact zQ))
  ·refine wl ?_
   exact j0e rfl (.tmp rfl) (congrArg vi (by unfold est; rw [he]; exact (if_pos (by omega)).symm))
  ·refine wl ?_
   exact j0e rfl (.tmp rfl) (congrArg vi (by unfold est; rw [he]; exact (if_neg (by omega)).symm))
end Go.Proofs.YtgblokifbgeegaaGreatDoor
namespace Go.Na
open Go Go.Vc
structure CI (V W u : Nat) (c : Int) (i : Nat) (r : Int) (n : Nat) (f : Nat → Int) : Prop where
 lo : ∀ k, 0 ≤ f k
 hi : ∀ k, f k < B
 out : ∀ k, n ≤ k → f k = 0
 nle : n ≤ 232
 val : vw f 232 + r * B ^ (i + u) = V + c * vw (wd W) i * B ^ u
 rest : -B ≤ r ∧ r ≤ B
 iu : i + u ≤ 232
theorem CI.zero {V W u : Nat} {c : Int} (hV : nw V ≤ 232) (hu : u ≤ 232) : CI V W u c 0 0 (nw V) (wd V) :=
 ⟨fun k => (q0r V k).1, fun k => (q0r V k).2, fun k hk => v0j hk, hV, by
  rw [J0d 232 V (Nat.lt_of_lt_of_le (w0f V) (Nat.pow_le_pow_right (by decide) hV))]
  simp [vw], by decide, by omega⟩
theorem CI.step {V W u : Nat} {c : Int} {i : Nat} {r : Int} {n : Nat} {f : Nat → Int} (h : CI V W u c i r n f) (hlt : i + u < 232) (hc : -999999999 ≤ c ∧ c ≤ 999999999) {s t r' : Int} (hs : s = f (i + u) + r + c * wd W i) (ht : t + r' * 1000000000 = s) (h0 : 0 ≤ t) (h1 : t < 1000000000) (n' : Nat) (hn1 : i + u + 1 ≤ n') (hn2 : n ≤ n') (hn3 : n' ≤ 232) :
  CI V W u c (i + 1) r' n' (upd f (i + u) t) := by
 have hw := q0r W i
 have hl := h.lo (i + u)
 have hh := h.hi (i + u)
 have hr := h.rest
 have hB : B = 1000000000 := rfl
 rw [hB] at hw hh hr
 have p1 : -(999999999 * 999999999) ≤ c * wd W i ∧ c * wd W i ≤ 999999999 * 999999999 := by
  have a1 : c * wd W i ≤ 999999999 * wd W i := Int.mul_le_mul_of_nonneg_right hc.2 hw.1
  have a2 : -999999999 * wd W i ≤ c * wd W i := Int.mul_le_mul_of_nonneg_right hc.1 hw.1
  omega
 refine ⟨fun k => ?_, fun k => ?_, fun k hk => ?_, hn3, ?_, by rw [hB]; omega, by omega⟩
 ·unfold upd; split
  ·exact h0
  ·exact h.lo k
 ·unfold upd; split
  ·rw [hB]; exact h1
  ·exact h.hi k
 ·unfold upd; rw [if_neg (by omega)]; exact h.out k (by omega)
 ·exact K0O hlt h.val hs (by rw [X0c, hB]; exact ht) (fun k hk => Q0O _ _ hk)
theorem CI.end0 {V W u : Nat} {c : Int} {i : Nat} {r : Int} {n : Nat} {f : Nat → Int} (h : CI V W u c i r n f) (hi : nw W ≤ i) {R : Nat} (hR : (R : Int) = V + c * W * B ^ u) (hR2 : nw R ≤ 232) (he : i + u = 232) : r = 0 := by
 have hw : vw (wd W) i = W := J0d i W (Nat.lt_of_lt_of_le (w0f W) (Nat.pow_le_pow_right zE hi))
 have hv := h.val
 rw [hw, ← hR, he] at hv
 have hlt : (R : Int) < B ^ 232 := by
  have := Nat.lt_of_lt_of_le (w0f R) (Nat.pow_le_pow_right zE hR2)
  rw [← Z1V]
  exact Int.ofNat_lt.2 this
 exact w1F (j := 232) (m := 232) (n := 232) h.lo h.hi (fun k hk => h.out k (by have := h.nle; omega)) (Nat.le_refl _) zO hlt (Nat.le_refl _) hv
theorem CI.fin {V W u : Nat} {c : Int} {i : Nat} {n : Nat} {f : Nat → Int} (h : CI V W u c i 0 n f) (hi : nw W ≤ i) {R : Nat} (hR : (R : Int) = V + c * W * B ^ u) (hR2 : nw R ≤ 232) : f = wd R ∧ nw R ≤ n := by
 have hw : vw (wd W) i = W := J0d i W (Nat.lt_of_lt_of_le (w0f W) (Nat.pow_le_pow_right zE hi))
 have hv := h.val
 rw [hw, ← hR, Int.zero_mul, Int.add_zero] at hv
 have e : f = wd R := by
  funext k
  by_cases hk : k < 232
  ·exact K1d h.lo h.hi hv k hk
  ·rw [h.out k (by have := h.nle; omega), v0j (by omega)]
 refine ⟨e, ?_⟩
 apply Nat.le_of_not_lt
 intro hlt
 have hR0 : R ≠ 0 := fun e => by rw [e, q0z] at hlt; omega
 have := y0d hR0
 rw [← e, h.out _ (by omega)] at this
 exact this rfl
end Go.Na
namespace Go.Proofs.YtgblokifbgeegaaGreatDoor
open Go Go.Vc Go.RowKit Go.Na Go.Lib
set_option maxHeartbeats 4000000
theorem w0g (b : Bool) (n m : Nat) (f : Nat → Int) (hmn : m ≤ n) (hn : n ≤ 232) (hz : ∀ i, m ≤ i → i < n → f i = 0) (ht : m = 0 ∨ f (m - 1) ≠ 0) : CtrH Tryz.prog 193 [.own 1000 0] [(1000, .wi b n f)] (.own 1000 0) [(1000, .wi b m f)] := by
 refine z0o _ Tryz.func193 rfl rfl Tryz.ntmps193 rfl rfl fun w Z ν => ?_
 refine zU ?_
 refine wl ?_
 refine j0f (γ := Nat) (fun (i : Nat) => [(0, .own 1000 0)]) (fun (i : Nat) => [(1000, .wi b i f)]) (fun i => m ≤ i ∧ i ≤ n) (fun i => i) n ⟨by omega, by omega⟩ (ent ⟨.refl _, trivial⟩ zT) ?_
 rintro i ⟨h1, h2⟩
 refine wl ?_
 (first | refine j0l rfl rfl ?_ ?_ | refine j0t rfl rfl ?_ ?_) <;> intro hb <;> (try simp only [zA, zB, zG, zC, zD, zN] at hb) <;> (try exact zQ)
 ·refine wl ?_
  have e : ((i : Int) - 1).toNat = i - 1 := by omega
  rw [e]
  refine wl ?_
  (refine j0a rfl ?_ ?_ <;> intro hb <;> (try simp only [zA, zB, zG, zC, zD, zN] at hb) <;> (try exact zQ))
  ·refine wl ?_
   exact j0c (i - 1) ⟨by by_cases h : i = m
                         · subst h; exact absurd hb (by rcases ht with h | h; exact absurd h zO; exact h)
                         · omega, by omega⟩ (by omega) (ent ⟨.refl _, trivial⟩ ⟨⟨_, rfl, by rw [show ((i - 1 : Nat) : Int) = (i : Int) - 1 by omega]; exact .refl _⟩, trivial⟩)
  ·obtain rfl : i = m := (by
    apply Classical.byContradiction
    intro hne
    exact hb (hz _ zO zO))
   refine wl ?_
   exact q0J rfl rfl rfl
 ·obtain rfl : i = m := zO
  refine wl ?_
  exact q0J rfl rfl rfl
theorem q1t (b b' : Bool) (V W R u : Nat) (c : Int) (hV : nw V ≤ 232) (hW : nw W + u ≤ 232) (hR2 : nw R ≤ 232) (hc : -999999999 ≤ c ∧ c ≤ 999999999) (hR : (R : Int) = V + c * W * Na.B ^ u) :
  CtrH Tryz.prog 194 [.own 1000 0, .own 1001 0, .av (vi c), .av (vi u)] [(1000, .wi b (nw V) (wd V)), (1001, .wi b' (nw W) (wd W))] (.av .any) [(1000, .wi b (nw R) (wd R)), (1001, .wi b' (nw W) (wd W))] := by
 refine z0o _ Tryz.func194 rfl rfl Tryz.ntmps194 rfl rfl fun w Z ν => ?_
 refine zU ?_
 refine wl ?_
 refine j0f (γ := Nat × Int × Nat × (Nat → Int)) (fun q => [(0, .own 1000 0), (1, .own 1001 0), (2, .av (vi c)), (3, .av (vi u)), (8, .av (vi q.2.1)), (9, .av (vi q.1))]) (fun q => [(1000, .wi b q.2.2.1 q.2.2.2), (1001, .wi b' (nw W) (wd W))]) (fun q => CI V W u c q.1 q.2.1 q.2.2.1 q.2.2.2) (fun q => 232 - q.1) (0, 0, nw V, wd V) (CI.zero hV zO) (ent zS zT) ?_
 rintro ⟨i, r, n, f⟩ h
 dsimp only at h
 have hiu := h.iu
 have hl := h.lo (i + u)
 have hh := h.hi (i + u)
 have hr := h.rest
 have hn := h.nle
 have hw := q0r W i
 have hB : Na.B = 1000000000 := rfl
 rw [hB] at hh hr hw
 have p1 : -(999999999 * 999999999) ≤ c * wd W i ∧ c * wd W i ≤ 999999999 * 999999999 := by
  have a1 : c * wd W i ≤ 999999999 * wd W i := Int.mul_le_mul_of_nonneg_right hc.2 hw.1
  have a2 : -999999999 * wd W i ≤ c * wd W i := Int.mul_le_mul_of_nonneg_right hc.1 hw.1
  omega
 have hmx : ((max n (i + u + 1) : Nat) : Int) = if (n : Int) < (i : Int) + u + 1 then (i : Int) + u + 1 else n := by split <;> omega
 dsimp only
 refine wl ?_
 (first | refine j0l rfl rfl ?_ ?_ | refine j0t rfl rfl ?_ ?_) <;> intro hb <;> (try simp only [zA, zB, zG, zC, zD, zN] at hb) <;> (try exact zQ)
 ·have hlt : i + u < 232 := by omega
  have hq := w0T (f (i + u) + r + c * wd W i)
  dsimp only at hq
  rw [hB] at hq
  refine wl ?_
  (refine j0a rfl ?_ ?_ <;> intro hb <;> (try simp only [zA, zB, zG, zC, zD, zN] at hb) <;> (try exact zQ))
  refine wl ?_
  (refine j0a rfl ?_ ?_ <;> intro hb <;> (try simp only [zA, zB, zG, zC, zD, zN] at hb) <;> (try exact zQ))
  ·refine wl ?_
   exact j0c (g := (i, r, n, f)) (i + 1, (f (i + u) + r + c * wd W i).tdiv 1000000000 - 1, max n (i + u + 1), upd f (i + u) (f (i + u) + r + c * wd W i - (f (i + u) + r + c * wd W i).tdiv 1000000000 * 1000000000 + 1000000000)) (CI.step h hlt hc (s := f (i + u) + r + c * wd W i) (t := f (i + u) + r + c * wd W i - (f (i + u) + r + c * wd W i).tdiv 1000000000 * 1000000000 + 1000000000) (r' := (f (i + u) + r + c * wd W i).tdiv 1000000000 - 1) rfl (by omega) (by omega) (by omega) (max n (i + u + 1)) (by omega) (by omega) (by omega)) (by show 232 - (i + 1) < 232 - i; omega) (ent ⟨.refl _, .refl _, .refl _, .refl _, .refl _, .int (by show (i : Int) + 1 = ((i + 1 : Nat) : Int); omega), trivial⟩ ⟨⟨_, rfl, by rw [hmx]; exact .refl _⟩, ⟨_, rfl, .refl _⟩, trivial⟩)
  ·refine wl ?_
   exact j0c (g := (i, r, n, f)) (i + 1, (f (i + u) + r + c * wd W i).tdiv 1000000000, max n (i + u + 1), upd f (i + u) (f (i + u) + r + c * wd W i - (f (i + u) + r + c * wd W i).tdiv 1000000000 * 1000000000)) (CI.step h hlt hc (s := f (i + u) + r + c * wd W i) (t := f (i + u) + r + c * wd W i - (f (i + u) + r + c * wd W i).tdiv 1000000000 * 1000000000) (r' := (f (i + u) + r + c * wd W i).tdiv 1000000000) rfl (by omega) (by omega) (by omega) (max n (i + u + 1)) (by omega) (by omega) (by omega)) (by show 232 - (i + 1) < 232 - i; omega) (ent ⟨.refl _, .refl _, .refl _, .refl _, .refl _, .int (by show (i : Int) + 1 = ((i + 1 : Nat) : Int); omega), trivial⟩ ⟨⟨_, rfl, by rw [hmx]; exact .refl _⟩, ⟨_, rfl, .refl _⟩, trivial⟩)
 ·refine wl ?_
  (refine j0a rfl ?_ ?_ <;> intro hb <;> (try simp only [zA, zB, zG, zC, zD, zN] at hb) <;> (try exact zQ))
  ·have hlt : i + u < 232 := (by
    apply Classical.byContradiction
    intro hge
    exact hb (h.end0 zO hR hR2 zO))
   have hq := w0T (f (i + u) + r)
   dsimp only at hq
   rw [hB] at hq
   refine wl ?_
   (refine j0a rfl ?_ ?_ <;> intro hb <;> (try simp only [zA, zB, zG, zC, zD, zN] at hb) <;> (try exact zQ))
   refine wl ?_
   (refine j0a rfl ?_ ?_ <;> intro hb <;> (try simp only [zA, zB, zG, zC, zD, zN] at hb) <;> (try exact zQ))
   ·refine wl ?_
    exact j0c (g := (i, r, n, f)) (i + 1, (f (i + u) + r).tdiv 1000000000 - 1, max n (i + u + 1), upd f (i + u) (f (i + u) + r - (f (i + u) + r).tdiv 1000000000 * 1000000000 + 1000000000)) (CI.step h hlt hc (s := f (i + u) + r) (t := f (i + u) + r - (f (i + u) + r).tdiv 1000000000 * 1000000000 + 1000000000) (r' := (f (i + u) + r).tdiv 1000000000 - 1) (by rw [v0j (V := W) (i := i) (by omega), Int.mul_zero, Int.add_zero]) (by omega) (by omega) (by omega) (max n (i + u + 1)) (by omega) (by omega) (by omega)) (by show 232 - (i + 1) < 232 - i; omega) (ent ⟨.refl _, .refl _, .refl _, .refl _, .refl _, .int (by show (i : Int) + 1 = ((i + 1 : Nat) : Int); omega), trivial⟩ ⟨⟨_, rfl, by rw [hmx]; exact .refl _⟩, ⟨_, rfl, .refl _⟩, trivial⟩)
   ·refine wl ?_
    exact j0c (g := (i, r, n, f)) (i + 1, (f (i + u) + r).tdiv 1000000000, max n (i + u + 1), upd f (i + u) (f (i + u) + r - (f (i + u) + r).tdiv 1000000000 * 1000000000)) (CI.step h hlt hc (s := f (i + u) + r) (t := f (i + u) + r - (f (i + u) + r).tdiv 1000000000 * 1000000000) (r' := (f (i + u) + r).tdiv 1000000000) (by rw [v0j (V := W) (i := i) (by omega), Int.mul_zero, Int.add_zero]) (by omega) (by omega) (by omega) (max n (i + u + 1)) (by omega) (by omega) (by omega)) (by show 232 - (i + 1) < 232 - i; omega) (ent ⟨.refl _, .refl _, .refl _, .refl _, .refl _, .int (by show (i : Int) + 1 = ((i + 1 : Nat) : Int); omega), trivial⟩ ⟨⟨_, rfl, by rw [hmx]; exact .refl _⟩, ⟨_, rfl, .refl _⟩, trivial⟩)
  ·refine wl ?_
   subst hb
   obtain ⟨rfl, hle⟩ := h.fin zO hR hR2
   have ht := w0g b n (nw R) (wd R) hle hn (fun i h _ => v0j h) (by
    by_cases h0 : R = 0
    ·left; rw [h0, q0z]
    ·exact .inr (y0d h0))
   refine j0u (j0h [] ht rfl ⟨rfl, trivial⟩ rfl) rfl ?_
   refine wl ?_
   exact j0U (T' := []) (O' := [(1000, .wi b (nw R) (wd R)), (1001, .wi b' (nw W) (wd W))]) (ent trivial zT) (x0Q rfl rfl rfl)
theorem V0T (b b' : Bool) (V W R u : Nat) (c : Int) (hV : nw V ≤ 232) (hW : nw W + u ≤ 232) (hR2 : nw R ≤ 232) (hc : -999999999 ≤ c ∧ c ≤ 999999999) (hR : (R : Int) = V + c * W * Na.B ^ u) :
  CtrH Tryz.prog 194 [.own 1000 0, .av (wA b' (nw W) (wd W)), .av (vi c), .av (vi u)] [(1000, .wi b (nw V) (wd V))] (.av .any) [(1000, .wi b (nw R) (wd R))] := by
 refine z0o _ Tryz.func194 rfl rfl Tryz.ntmps194 rfl rfl fun w Z ν => ?_
 refine zU ?_
 refine wl ?_
 refine j0f (γ := Nat × Int × Nat × (Nat → Int)) (fun q => [(0, .own 1000 0), (1, .av (wA b' (nw W) (wd W))), (2, .av (vi c)), (3, .av (vi u)), (8, .av (vi q.2.1)), (9, .av (vi q.1))]) (fun q => [(1000, .wi b q.2.2.1 q.2.2.2)]) (fun q => CI V W u c q.1 q.2.1 q.2.2.1 q.2.2.2) (fun q => 232 - q.1) (0, 0, nw V, wd V) (CI.zero hV zO) (ent zS zT) ?_
 rintro ⟨i, r, n, f⟩ h
 dsimp only at h
 have hiu := h.iu
 have hl := h.lo (i + u)
 have hh := h.hi (i + u)
 have hr := h.rest
 have hn := h.nle
 have hw := q0r W i
 have hB : Na.B = 1000000000 := rfl
 rw [hB] at hh hr hw
 have p1 : -(999999999 * 999999999) ≤ c * wd W i ∧ c * wd W i ≤ 999999999 * 999999999 := by
  have a1 : c * wd W i ≤ 999999999 * wd W i := Int.mul_le_mul_of_nonneg_right hc.2 hw.1
  have a2 : -999999999 * wd W i ≤ c * wd W i := Int.mul_le_mul_of_nonneg_right hc.1 hw.1
  omega
 have hmx : ((max n (i + u + 1) : Nat) : Int) = if (n : Int) < (i : Int) + u + 1 then (i : Int) + u + 1 else n := by split <;> omega
 dsimp only
 refine wl ?_
 (first | refine j0l rfl rfl ?_ ?_ | refine j0t rfl rfl ?_ ?_) <;> intro hb <;> (try simp only [zA, zB, zG, zC, zD, zN] at hb) <;> (try exact zQ)
 ·have hlt : i + u < 232 := by omega
  have hq := w0T (f (i + u) + r + c * wd W i)
  dsimp only at hq
  rw [hB] at hq
  refine wl ?_
  (refine j0a rfl ?_ ?_ <;> intro hb <;> (try simp only [zA, zB, zG, zC, zD, zN] at hb) <;> (try exact zQ))
  refine wl ?_
  (refine j0a rfl ?_ ?_ <;> intro hb <;> (try simp only [zA, zB, zG, zC, zD, zN] at hb) <;> (try exact zQ))
  ·refine wl ?_
   exact j0c (g := (i, r, n, f)) (i + 1, (f (i + u) + r + c * wd W i).tdiv 1000000000 - 1, max n (i + u + 1), upd f (i + u) (f (i + u) + r + c * wd W i - (f (i + u) + r + c * wd W i).tdiv 1000000000 * 1000000000 + 1000000000)) (CI.step h hlt hc (s := f (i + u) + r + c * wd W i) (t := f (i + u) + r + c * wd W i - (f (i + u) + r + c * wd W i).tdiv 1000000000 * 1000000000 + 1000000000) (r' := (f (i + u) + r + c * wd W i).tdiv 1000000000 - 1) rfl (by omega) (by omega) (by omega) (max n (i + u + 1)) (by omega) (by omega) (by omega)) (by show 232 - (i + 1) < 232 - i; omega) (ent ⟨.refl _, .refl _, .refl _, .refl _, .refl _, .int (by show (i : Int) + 1 = ((i + 1 : Nat) : Int); omega), trivial⟩ ⟨⟨_, rfl, by rw [hmx]; exact .refl _⟩, trivial⟩)
  ·refine wl ?_
   exact j0c (g := (i, r, n, f)) (i + 1, (f (i + u) + r + c * wd W i).tdiv 1000000000, max n (i + u + 1), upd f (i + u) (f (i + u) + r + c * wd W i - (f (i + u) + r + c * wd W i).tdiv 1000000000 * 1000000000)) (CI.step h hlt hc (s := f (i + u) + r + c * wd W i) (t := f (i + u) + r + c * wd W i - (f (i + u) + r + c * wd W i).tdiv 1000000000 * 1000000000) (r' := (f (i + u) + r + c * wd W i).tdiv 1000000000) rfl (by omega) (by omega) (by omega) (max n (i + u + 1)) (by omega) (by omega) (by omega)) (by show 232 - (i + 1) < 232 - i; omega) (ent ⟨.refl _, .refl _, .refl _, .refl _, .refl _, .int (by show (i : Int) + 1 = ((i + 1 : Nat) : Int); omega), trivial⟩ ⟨⟨_, rfl, by rw [hmx]; exact .refl _⟩, trivial⟩)
 ·refine wl ?_
  (refine j0a rfl ?_ ?_ <;> intro hb <;> (try simp only [zA, zB, zG, zC, zD, zN] at hb) <;> (try exact zQ))
  ·have hlt : i + u < 232 := (by
    apply Classical.byContradiction
    intro hge
    exact hb (h.end0 zO hR hR2 zO))
   have hq := w0T (f (i + u) + r)
   dsimp only at hq
   rw [hB] at hq
   refine wl ?_
   (refine j0a rfl ?_ ?_ <;> intro hb <;> (try simp only [zA, zB, zG, zC, zD, zN] at hb) <;> (try exact zQ))
   refine wl ?_
   (refine j0a rfl ?_ ?_ <;> intro hb <;> (try simp only [zA, zB, zG, zC, zD, zN] at hb) <;> (try exact zQ))
   ·refine wl ?_
    exact j0c (g := (i, r, n, f)) (i + 1, (f (i + u) + r).tdiv 1000000000 - 1, max n (i + u + 1), upd f (i + u) (f (i + u) + r - (f (i + u) + r).tdiv 1000000000 * 1000000000 + 1000000000)) (CI.step h hlt hc (s := f (i + u) + r) (t := f (i + u) + r - (f (i + u) + r).tdiv 1000000000 * 1000000000 + 1000000000) (r' := (f (i + u) + r).tdiv 1000000000 - 1) (by rw [v0j (V := W) (i := i) (by omega), Int.mul_zero, Int.add_zero]) (by omega) (by omega) (by omega) (max n (i + u + 1)) (by omega) (by omega) (by omega)) (by show 232 - (i + 1) < 232 - i; omega) (ent ⟨.refl _, .refl _, .refl _, .refl _, .refl _, .int (by show (i : Int) + 1 = ((i + 1 : Nat) : Int); omega), trivial⟩ ⟨⟨_, rfl, by rw [hmx]; exact .refl _⟩, trivial⟩)
   ·refine wl ?_
    exact j0c (g := (i, r, n, f)) (i + 1, (f (i + u) + r).tdiv 1000000000, max n (i + u + 1), upd f (i + u) (f (i + u) + r - (f (i + u) + r).tdiv 1000000000 * 1000000000)) (CI.step h hlt hc (s := f (i + u) + r) (t := f (i + u) + r - (f (i + u) + r).tdiv 1000000000 * 1000000000) (r' := (f (i + u) + r).tdiv 1000000000) (by rw [v0j (V := W) (i := i) (by omega), Int.mul_zero, Int.add_zero]) (by omega) (by omega) (by omega) (max n (i + u + 1)) (by omega) (by omega) (by omega)) (by show 232 - (i + 1) < 232 - i; omega) (ent ⟨.refl _, .refl _, .refl _, .refl _, .refl _, .int (by show (i : Int) + 1 = ((i + 1 : Nat) : Int); omega), trivial⟩ ⟨⟨_, rfl, by rw [hmx]; exact .refl _⟩, trivial⟩)
  ·refine wl ?_
   subst hb
   obtain ⟨rfl, hle⟩ := h.fin zO hR hR2
   have ht := w0g b n (nw R) (wd R) hle hn (fun i h _ => v0j h) (by
    by_cases h0 : R = 0
    ·left; rw [h0, q0z]
    ·exact .inr (y0d h0))
   refine j0u (j0h [] ht rfl ⟨rfl, trivial⟩ rfl) rfl ?_
   refine wl ?_
   exact j0U (T' := []) (O' := [(1000, .wi b (nw R) (wd R))]) (ent trivial zT) (x0Q rfl rfl rfl)
theorem x1A : Tryz.prog.built 224 [] = some (wvs 232 false 0 (fun _ => 0)).toArray := by kernel_rfl
theorem Q1n (b : Bool) : Tryz.prog.built 224 [(0, .bool b)] = some (wvs 232 b 0 (fun _ => 0)).toArray := by cases b <;> kernel_rfl
def z0E (b : Bool) (V : Nat) (b' : Bool) (W : Nat) : Bool × Nat := if b = b' then (b, V + W) else if W ≤ V then (b, V - W) else (b', W - V)
theorem Z0J (b b' : Bool) (V W : Nat) (hV : nw V ≤ 232) (hW : nw W ≤ 232) (hR2 : nw (z0E b V b' W).2 ≤ 232) :
  CtrH Tryz.prog 205 [.own 1000 0, .av (wA b' (nw W) (wd W))] [(1000, .wi b (nw V) (wd V))] (.av .any) [(1000, .wi (z0E b V b' W).1 (nw (z0E b V b' W).2) (wd (z0E b V b' W).2))] := by
 have hbe := fun c => J0g V W b c hV hW
 unfold z0E at hR2 ⊢
 by_cases hbb : b = b'
 ·subst hbb
  rw [if_pos rfl] at hR2 ⊢
  dsimp only at hR2 ⊢
  have hc := V0T b b V W (V + W) 0 1 hV (by omega) hR2 (by omega) (by simp)
  have hbq : (b == b) = true := by simp
  refine z0o _ Tryz.func205 rfl rfl Tryz.ntmps205 rfl rfl fun w Z ν => ?_
  refine zU ?_
  refine wl ?_
  rw [hbq]
  refine wl ?_
  refine j0u (j0h [] hc rfl ⟨rfl, trivial⟩ rfl) rfl ?_
  refine wl ?_
  exact j0U (T' := []) (O' := [(1000, .wi b (nw (V + W)) (wd (V + W)))]) (ent trivial zT) (W0M rfl rfl rfl)
 ·rw [if_neg hbb] at hR2 ⊢
  have hbq : (b == b') = false := by simpa using hbb
  have hb2 := q1n V W
  have hbe := J0g V W b b' hV hW
  by_cases hle : W ≤ V
  ·rw [if_pos hle] at hR2 ⊢
   dsimp only at hR2 ⊢
   have hc := V0T b b' V W (V - W) 0 (-1) hV (by omega) hR2 (by omega) (by simp; omega)
   refine z0o _ Tryz.func205 rfl rfl Tryz.ntmps205 rfl rfl fun w Z ν => ?_
   refine zU ?_
   refine wl ?_
   rw [hbq]
   refine wl ?_
   refine j0n (q0g hbe rfl ⟨.w rfl rfl, .av rfl, trivial⟩ (flat_val _)) rfl ?_
   refine wl ?_
   (refine j0a rfl ?_ ?_ <;> intro hb <;> (try simp only [zA, zB, zG, zC, zD, zN] at hb) <;> (try exact zQ))
   refine wl ?_
   refine j0u (j0h [] hc rfl ⟨rfl, trivial⟩ rfl) rfl ?_
   refine wl ?_
   exact j0U (T' := []) (O' := [(1000, .wi b (nw (V - W)) (wd (V - W)))]) (ent trivial zT) (W0M rfl rfl rfl)
  ·rw [if_neg hle] at hR2 ⊢
   dsimp only at hR2 ⊢
   have hc := q1t b' b W V (W - V) 0 (-1) hW (by omega) hR2 (by omega) (by simp; omega)
   refine z0o _ Tryz.func205 rfl rfl Tryz.ntmps205 rfl rfl fun w Z ν => ?_
   refine zU ?_
   refine wl ?_
   rw [hbq]
   refine wl ?_
   refine j0n (q0g hbe rfl ⟨.w rfl rfl, .av rfl, trivial⟩ (flat_val _)) rfl ?_
   refine wl ?_
   (refine j0a rfl ?_ ?_ <;> intro hb <;> (try simp only [zA, zB, zG, zC, zD, zN] at hb) <;> (try exact zQ))
   refine wl ?_
   refine j0n (Y0Q rfl) rfl ?_
   refine j0u (v1j 5 rfl) rfl ?_
   refine v0P (z0Q rfl rfl rfl) ?_
   refine wl ?_
   refine j0u (j0h [(1000, 5), (1001, 1000)] hc rfl ⟨rfl, rfl, trivial⟩ rfl) rfl ?_
   refine wl ?_
   refine j0n (Y0R rfl rfl) rfl ?_
   refine j0n (v0r rfl) rfl ?_
   refine v0P (z0Q rfl rfl rfl) ?_
   refine wl ?_
   exact j0U (T' := []) (O' := [(1000, .wi b' (nw (W - V)) (wd (W - V)))]) (ent trivial zT) (x0Q rfl rfl rfl)
theorem K1x : wd 0 = fun _ => 0 := by funext i; simp [wd]
theorem v1T (W i : Nat) : W % 1000000000 ^ (i + 1) = W % 1000000000 ^ i + (wd W i).toNat * 1000000000 ^ i := by
 rw [Nat.mod_pow_succ]
 have : (wd W i).toNat = W / 1000000000 ^ i % 1000000000 := by unfold wd; exact Int.toNat_natCast _
 rw [this, Nat.mul_comm]
theorem z1U (b b' : Bool) (V W : Nat) (hVW : nw V + nw W ≤ 232) :
  CtrH Tryz.prog 162 [.av (wA b (nw V) (wd V)), .av (wA b' (nw W) (wd W))] [] (.own 7 0) [(7, .wi (b != b') (nw (V * W)) (wd (V * W)))] := by
 have hbd : ∀ i, i ≤ nw W → nw (V * (W % 1000000000 ^ i)) ≤ 232 := fun i hi => by
  refine Z0b ?_
  have h1 : W % 1000000000 ^ i < 1000000000 ^ i := Nat.mod_lt _ (Nat.pow_pos zE)
  have h2 : V * (W % 1000000000 ^ i) < 1000000000 ^ (nw V) * 1000000000 ^ i := by
   refine Nat.lt_of_le_of_lt (Nat.mul_le_mul_left V (Nat.le_of_lt h1)) ?_
   exact (Nat.mul_lt_mul_right (Nat.pow_pos zE)).2 (w0f V)
  rw [← Nat.pow_add] at h2
  exact Nat.lt_of_lt_of_le h2 (Nat.pow_le_pow_right zE zO)
 refine z0o _ Tryz.func162 rfl rfl Tryz.ntmps162 rfl rfl fun w Z ν => ?_
 refine zU ?_
 refine wl ?_
 refine v0x (j0j (is := [0]) (xs := [_]) (vs := [.bool (b != b')]) (Q1n _) rfl rfl) rfl ?_
 refine z0Y (y1T 7 rfl) rfl rfl ?_
 refine wl ?_
 refine j0f (γ := Nat) (fun i => [(0, .av (wA b (nw V) (wd V))), (1, .av (wA b' (nw W) (wd W))), (5, .own 7 0), (21, .av (vi (nw W))), (22, .av (vi i))]) (fun i => [(7, .wi (b != b') (nw (V * (W % 1000000000 ^ i))) (wd (V * (W % 1000000000 ^ i))))]) (fun i => i ≤ nw W) (fun i => nw W - i) 0 zO (ent zS ⟨⟨_, rfl, by
  rw [show V * (W % 1000000000 ^ 0) = 0 by rw [Nat.pow_zero, Nat.mod_one, Nat.mul_zero], q0z, K1x]
  exact .refl _⟩, trivial⟩) ?_
 intro i hi
 refine wl ?_
 (refine j0a rfl ?_ ?_ <;> intro hb <;> (try simp only [zA, zB, zG, zC, zD, zN] at hb) <;> (try exact zQ))
 ·have hw := q0r W i
  have hB : Na.B = 1000000000 := rfl
  rw [hB] at hw
  have hc := V0T (b != b') b (V * (W % 1000000000 ^ i)) V (V * (W % 1000000000 ^ (i + 1))) i (wd W i) (hbd i hi) zO (hbd (i + 1) zO) zO (by
   have hwc : ((wd W i).toNat : Int) = wd W i := Int.toNat_of_nonneg hw.1
   rw [v1T, Nat.mul_add, ← Z1V i]
   generalize 1000000000 ^ i = p
   simp only [Int.natCast_add, Int.natCast_mul, hwc]
   grind)
  refine wl ?_
  refine j0u (j0h [(1000, 7)] hc rfl ⟨rfl, trivial⟩ rfl) rfl ?_
  refine wl ?_
  exact j0c (i + 1) zO zO (ent zS zT)
 ·obtain rfl : i = nw W := by omega
  refine wl ?_
  have e : W % 1000000000 ^ nw W = W := Nat.mod_eq_of_lt (w0f W)
  rw [e]
  exact q0J rfl rfl rfl
end Go.Proofs.YtgblokifbgeegaaGreatDoor
section
namespace Go.Na
open Go Go.Vc
theorem x1v {b : Bool} {n : Int} {f : Nat → Int} {m : Nat} (hm : m ≤ 231) :
  (wvs 232 b n f).take 3 ++ ((wvs 232 b n f).drop 2).take m ++ (wvs 232 b n f).drop (3 + m) = wvs 232 b n (W1S f m) := by
 have hl := q0q 232 b n f
 apply List.ext_getElem?
 intro i
 rw [List.append_assoc]
 by_cases h3 : i < 3
 ·rw [List.getElem?_append_left (by simp [hl]; omega), List.getElem?_take_of_lt h3]
  rcases (by omega : i = 0 ∨ i = 1 ∨ i = 2) with rfl | rfl | rfl
  ·rfl
  ·rfl
  ·rw [w0h (k := 0) rfl (by decide), w0h (k := 0) rfl (by decide)]
   unfold W1S; rw [if_neg (by omega)]
 ·rw [List.getElem?_append_right (by simp [hl]; omega)]
  have hlt : ((wvs 232 b n f).take 3).length = 3 := by simp [hl]
  rw [hlt]
  by_cases hi : i < 3 + m
  ·rw [List.getElem?_append_left (by simp [hl]; omega), List.getElem?_take_of_lt (by omega), List.getElem?_drop]
   rw [w0h (k := i - 3) (by omega) (by omega), w0h (k := i - 2) (by omega) (by omega)]
   unfold W1S; rw [if_pos (by omega)]
   congr 3
  ·have hlm : (((wvs 232 b n f).drop 2).take m).length = m := by simp [hl]; omega
   rw [List.getElem?_append_right (by rw [hlm]; omega), hlm, List.getElem?_drop]
   have e : 3 + m + (i - 3 - m) = i := by omega
   rw [e]
   by_cases h4 : i < 234
   ·rw [w0h (k := i - 2) (by omega) (by omega), w0h (k := i - 2) (by omega) (by omega)]
    unfold W1S; rw [if_neg (by omega)]
   ·rw [List.getElem?_eq_none (by rw [hl]; omega), List.getElem?_eq_none (by rw [q0q]; omega)]
theorem w1W {R : Nat} {d : Nat} (hd : d < 1000000000) : upd (W1S (wd R) (nw R)) 0 (d : Int) = wd (R * 1000000000 + d) := by
 funext i
 rw [j2B hd]
 cases i with
 |zero => rw [X0c]
 |succ i =>
  rw [Q0O _ _ (by omega)]
  unfold W1S
  split
  ·rfl
  ·rw [v0j (by omega)]
   show 0 = wd R i
   rw [v0j (by omega)]
theorem Z1Q {R d : Nat} (hd : d < 1000000000) : nw (R * 1000000000 + d) ≤ nw R + 1 := by
 refine Z0b ?_
 have := w0f R
 rw [Nat.pow_succ]
 have h2 : (R + 1) * 1000000000 ≤ 1000000000 ^ nw R * 1000000000 := Nat.mul_le_mul_right _ this
 omega
theorem q1S {H W d : Nat} (hW : 0 < W) (hd : d < 1000000000) : (H % W * 1000000000 + d) % W = (H * 1000000000 + d) % W ∧ (H % W * 1000000000 + d) / W = (H * 1000000000 + d) / W % 1000000000 ∧ (H % W * 1000000000 + d) / W < 1000000000 := by
 have h2 := Nat.div_add_mod H W
 have hr := Nat.mod_lt H hW
 generalize H % W = r at *
 generalize H / W = q at *
 subst h2
 have e : (W * q + r) * 1000000000 + d = (r * 1000000000 + d) + W * (q * 1000000000) := by
  rw [← Nat.mul_assoc, Nat.add_mul, Nat.add_assoc, Nat.add_comm]
 have hX : r * 1000000000 + d < 1000000000 * W := by omega
 have hq : (r * 1000000000 + d) / W < 1000000000 := (Nat.div_lt_iff_lt_mul hW).2 hX
 rw [e, Nat.add_mul_mod_self_left, Nat.add_mul_div_left _ _ hW, Nat.add_mul_mod_self_right, Nat.mod_eq_of_lt hq]
 exact ⟨rfl, rfl, hq⟩
theorem k0d {V W k : Nat} (hW : W ≠ 0) :
  (V / 1000000000 ^ (k + 1) % W * 1000000000 + V / 1000000000 ^ k % 1000000000) % W = V / 1000000000 ^ k % W ∧ (V / 1000000000 ^ (k + 1) % W * 1000000000 + V / 1000000000 ^ k % 1000000000) / W = V / W / 1000000000 ^ k % 1000000000 ∧ (V / 1000000000 ^ (k + 1) % W * 1000000000 + V / 1000000000 ^ k % 1000000000) / W < 1000000000 := by
 have h1 : V / 1000000000 ^ k = V / 1000000000 ^ (k + 1) * 1000000000 + V / 1000000000 ^ k % 1000000000 := by
  rw [Nat.pow_succ, ← Nat.div_div_eq_div_mul]
  have := Nat.div_add_mod (V / 1000000000 ^ k) 1000000000
  omega
 have h3 : V / W / 1000000000 ^ k = V / 1000000000 ^ k / W := by
  rw [Nat.div_div_eq_div_mul, Nat.div_div_eq_div_mul, Nat.mul_comm]
 rw [h3]
 have hd : V / 1000000000 ^ k % 1000000000 < 1000000000 := Nat.mod_lt _ zE
 have := q1S (H := V / 1000000000 ^ (k + 1)) (Nat.pos_of_ne_zero hW) hd
 rw [← h1] at this
 exact this
def hiq (Q k : Nat) : Nat → Int := fun j => if k ≤ j then wd Q j else 0
theorem k0C {Q k : Nat} : upd (hiq Q (k + 1)) k (wd Q k) = hiq Q k := by
 funext j
 unfold upd hiq
 by_cases h : j = k
 ·subst h; rw [if_pos rfl, if_pos (Nat.le_refl _)]
 ·rw [if_neg h]
  by_cases h2 : k ≤ j
  ·rw [if_pos (by omega), if_pos h2]
  ·rw [if_neg (by omega), if_neg h2]
theorem k0D (Q : Nat) : hiq Q 0 = wd Q := by funext j; unfold hiq; rw [if_pos (Nat.zero_le _)]
theorem v1E {Q k : Nat} (h : nw Q ≤ k) : hiq Q k = fun _ => 0 := by
 funext j
 unfold hiq
 split
 ·exact v0j zO
 ·rfl
theorem v0u {V W : Nat} (h : V ≤ W) : nw V ≤ nw W := Z0b (Nat.lt_of_le_of_lt h (w0f W))
end Go.Na
namespace Go.Na
open Go Go.Vc
def J1J (Q n : Nat) : Nat → Int := fun j => if j < n then wd Q j else 0
theorem v1U {Q n : Nat} : upd (J1J Q n) n (wd Q n) = J1J Q (n + 1) := by
 funext j
 unfold upd J1J
 by_cases h : j = n
 ·subst h; rw [if_pos rfl, if_pos (by omega)]
 ·rw [if_neg h]
  by_cases h2 : j < n
  ·rw [if_pos h2, if_pos (by omega)]
  ·rw [if_neg h2, if_neg (by omega)]
theorem v1V (Q : Nat) : J1J Q 0 = fun _ => 0 := by funext j; unfold J1J; rw [if_neg (by omega)]
theorem z1e {Q n : Nat} (h : nw Q ≤ n) : J1J Q n = wd Q := by
 funext j
 unfold J1J
 split
 ·rfl
 ·rw [v0j (by omega)]
theorem w1e {V n : Nat} (h : V / 1000000000 ^ n = 0) : nw V ≤ n := by
 refine Z0b ?_
 have := Nat.lt_mul_div_succ V (Nat.pow_pos (n := n) (show 0 < 1000000000 by decide))
 rw [h] at this
 omega
theorem w1D {l : List UInt8} {V n : Nat} (hd : ∀ b ∈ l, isD b) (h : dv l = V / 1000000000 ^ n) : dv (l.take (l.length - 9)) = V / 1000000000 ^ (n + 1) ∧ ((dv (l.drop (l.length - 9)) : Nat) : Int) = wd V n := by
 obtain ⟨h1, h2⟩ := w1C hd
 rw [h] at h1
 generalize dv (l.take (l.length - 9)) = a at *
 generalize dv (l.drop (l.length - 9)) = b at *
 unfold wd
 rw [Nat.pow_succ, ← Nat.div_div_eq_div_mul]
 generalize V / 1000000000 ^ n = q at *
 constructor
 ·omega
 ·omega
end Go.Na
end
section
namespace Go.Proofs.YtgblokifbgeegaaGreatDoor
open Go Go.Vc Go.RowKit Go.Na Go.Lib
set_option maxHeartbeats 4000000
section
variable {E : Env} {T : Tab} {O : Go.Vc.Own} {d : Option Nat} {ty : TypeId} {pos : String} {af : Array Edge} {g : Option (Nat × Bool)}
theorem k0v {t t' e : TypeId} {x y : Operand} {r m : Nat} {b : Bool} {n : Int} {f : Nat → Int} [ht : SlTy Tryz.prog t e 1] (hx : T.ev x = .ocs r 3 231) (hy : T.ev y = .ocs r 2 m) (hr : Go.Vc.look O r = some (Res.wi b n f)) (hm : m ≤ 231) :
  GV Tryz.prog E ⟨d, .call ⟨.builtin .copy, #[x, y], #[t, t']⟩, ty, pos, af, g⟩ T O (.av (.val (.int .i64 (m : Nat)))) [r] [(r, .wi b n (W1S f m))] :=
 j1a hx hy hr hm (by rw [q0q]; omega) (by rw [q0q]; omega) x1V (x1v hm)
theorem z0P {t e : TypeId} {x z : Operand} {r off len h : Nat} {us : List Value} [ht : ArrTy Tryz.prog t len e 1] (hx : T.ev x = .own r off) (hr : Go.Vc.look O r = some (Res.vb us)) (hhi : T.ev z = .av (.val (.int .i64 h))) (hhn : h ≤ len) (hl : 0 < len) (hml : len ≤ maxLen := by decide) :
  GV Tryz.prog E ⟨d, .slice t x none (some z) none, ty, pos, af, g⟩ T O (.ocs r off h) [r] [] := by
 have := x0a (P := Tryz.prog) (E := E) (T := T) (O := O) (d := d) (ty := ty) (pos := pos) (af := af) (g := g) (t := t) (x := x) (lo := none) (hi := some z) (r := r) (off := off) (l := 0) (h := h) (us := us) hx hr rfl ⟨_, _, hhi, rfl⟩ (Nat.zero_le _) hhn hl hml
 rwa [Nat.add_zero, Nat.sub_zero] at this
end
theorem j1G (b b' : Bool) (V W : Nat) (hV : nw V ≤ 231) (hW : nw W ≤ 231) (hW0 : W ≠ 0) :
  CtrH Tryz.prog 188 [.av (wA b (nw V) (wd V)), .av (wA b' (nw W) (wd W))] [] (.tupC [.own 7 0, .own 8 0]) [(7, .wi false (nw (V / W)) (wd (V / W))), (8, .wi false (nw (V % W)) (wd (V % W)))] := by
 have hWp : 0 < W := Nat.pos_of_ne_zero hW0
 have hnr : ∀ k, nw (V / 1000000000 ^ k % W) ≤ nw W := fun k => v0u (Nat.le_of_lt (Nat.mod_lt _ hWp))
 have hnq : nw (V / W) ≤ nw V := v0u (Nat.div_le_self _ _)
 refine z0o _ Tryz.func188 rfl rfl Tryz.ntmps188 rfl rfl fun w Z ν => ?_
 refine zU ?_
 refine wl ?_
 refine j0n (j0j (is := []) (xs := []) (vs := []) x1A rfl rfl) rfl ?_
 refine j0u (y0h 7 rfl rfl) rfl ?_
 refine j0n (j0j (is := []) (xs := []) (vs := []) x1A rfl rfl) rfl ?_
 refine j0u (y0h 8 rfl rfl) rfl ?_
 refine wl ?_
 refine j0f (γ := Nat × Nat) (fun q => [(0, .av (wA b (nw V) (wd V))), (1, .av (wA b' (nw W) (wd W))), (6, .own 7 0), (7, .own 8 0), (8, .av (vi ((q.1 : Int) - 1)))]) (fun q => [(7, .wi false q.2 (hiq (V / W) q.1)), (8, .wi false (nw (V / 1000000000 ^ q.1 % W)) (wd (V / 1000000000 ^ q.1 % W)))]) (fun q => q.1 ≤ nw V ∧ q.2 ≤ 231 ∧ (nw (V / W) ≤ q.2 ∨ q.1 = nw V ∧ 0 < nw V)) (fun q => q.1) (nw V, 0) ⟨by show _ ≤ _; omega, by show _ ≤ _; omega, by show nw (V / W) ≤ 0 ∨ nw V = nw V ∧ 0 < nw V; omega⟩ (ent ⟨.refl _, .refl _, .refl _, .refl _, .int (by show _ = _; omega), trivial⟩ ⟨⟨_, rfl, by
  rw [v1E hnq]; exact .refl _⟩, ⟨_, rfl, by
  rw [show V / 1000000000 ^ (nw V) % W = 0 by rw [Nat.div_eq_of_lt (w0f V), Nat.zero_mod], q0z, K1x]
  exact .refl _⟩, trivial⟩) ?_
 rintro ⟨k, n⟩ ⟨hk, hn, hqn⟩
 dsimp only at hk hn hqn ⊢
 refine wl ?_
 (refine j0a rfl ?_ ?_ <;> intro hb <;> (try simp only [zA, zB, zG, zC, zD, zN] at hb) <;> (try exact zQ))
 ·obtain ⟨j, rfl⟩ : ∃ j, k = j + 1 := ⟨k - 1, by omega⟩
  have e : ((j + 1 : Nat) : Int) - 1 = j := by omega
  rw [e]
  obtain ⟨dw1, dw2, dw3⟩ := k0d (V := V) (W := W) (k := j) hW0
  have hwd : wd V j = ((V / 1000000000 ^ j % 1000000000 : Nat) : Int) := rfl
  have hd : V / 1000000000 ^ j % 1000000000 < 1000000000 := Nat.mod_lt _ zE
  have hqd : wd (V / W) j = ((V / W / 1000000000 ^ j % 1000000000 : Nat) : Int) := rfl
  have hr1 := hnr (j + 1)
  have hmr : V / 1000000000 ^ (j + 1) % W < W := Nat.mod_lt _ hWp
  rw [← dw2] at hqd
  generalize V / 1000000000 ^ (j + 1) % W = R at *
  have hup := w1W (R := R) hd
  have hnx := Z1Q (R := R) hd
  rw [← hwd] at hup
  generalize V / 1000000000 ^ j % 1000000000 = dg at *
  have ht := w0g false (nw R + 1) (nw (R * 1000000000 + dg)) (wd (R * 1000000000 + dg)) hnx zO (fun i h _ => v0j h) (by
   by_cases h0 : R * 1000000000 + dg = 0
   ·left; rw [h0, q0z]
   ·exact .inr (y0d h0))
  generalize R * 1000000000 + dg = X at *
  refine wl ?_
  refine v0x (x0a (l := 1) (h := 232) rfl rfl ⟨_, _, rfl, rfl⟩ rfl zE zE zE) rfl ?_
  refine wl ?_
  refine v0x (z0P (h := nw R) rfl rfl rfl zO zE) rfl ?_
  refine wl ?_
  refine X0C (k0v (m := nw R) rfl rfl rfl zO) rfl ?_
  refine wl ?_
  refine y0g (x0K 0 rfl rfl rfl rfl zE) ?_
  refine wl ?_
  refine v0N (V1z 8 (n' := ((nw R + 1 : Nat) : Int)) (f' := wd X) rfl rfl zO hup) ?_
  refine j0u (j0h [(1000, 8)] ht rfl ⟨rfl, trivial⟩ rfl) rfl ?_
  refine wl ?_
  refine j0f (γ := Nat × Nat) (fun q => [(0, .av (wA b (nw V) (wd V))), (1, .av (wA b' (nw W) (wd W))), (6, .own 7 0), (7, .own 8 0), (8, .av (vi j)), (9, .av (vi q.2))]) (fun q => [(7, .wi false n (hiq (V / W) (j + 1))), (8, .wi false (nw q.1) (wd q.1))]) (fun q => X = q.1 + q.2 * W) (fun q => q.1) (X, 0) (by show X = X + 0 * W; omega) (ent zS zT) ?_
  rintro ⟨Y, dd⟩ hY
  dsimp only at hY ⊢
  have hYX : nw Y ≤ 232 := Nat.le_trans (v0u (by omega : Y ≤ X)) zO
  have hbe := J0g Y W false b' hYX zO
  have hb2 := q1n Y W
  have hdd : dd < 1000000000 := by
   refine Nat.lt_of_le_of_lt ?_ dw3
   rw [Nat.le_div_iff_mul_le hWp]; omega
  refine wl ?_
  refine j0n (q0g hbe rfl ⟨.w rfl rfl, .av rfl, trivial⟩ (flat_val _)) rfl ?_
  refine wl ?_
  (refine j0a rfl ?_ ?_ <;> intro hb <;> (try simp only [zA, zB, zG, zC, zD, zN] at hb) <;> (try exact zQ))
  ·have hes := V0e Y W false b' hYX zO hW0
   obtain ⟨he1, he2, he3⟩ := J1r hW0 (hb2.1 zO)
   obtain ⟨κ, hκ⟩ : ∃ κ : Nat, est Y W = κ := ⟨(est Y W).toNat, by omega⟩
   rw [hκ] at hes he1 he2 he3
   have hle : κ * W ≤ Y := by rw [← Int.natCast_mul] at he3; omega
   have hsub : (dd + κ) * W ≤ X := by rw [Nat.add_mul]; omega
   have hdk : dd + κ < 1000000000 := by
    refine Nat.lt_of_le_of_lt ?_ dw3
    rw [Nat.le_div_iff_mul_le hWp]; exact hsub
   have hcz := V0T false b' Y W (Y - κ * W) 0 (-(κ : Int)) hYX (by omega) (Nat.le_trans (v0u (Nat.sub_le _ _)) hYX) (by omega) (by rw [Int.natCast_sub hle, Int.natCast_mul]; simp; grind)
   refine wl ?_
   refine j0n (q0g hes rfl ⟨.w rfl rfl, .av rfl, trivial⟩ (flat_val _)) rfl ?_
   refine wl ?_
   refine j0u (j0h [(1000, 8)] hcz rfl ⟨rfl, trivial⟩ rfl) rfl ?_
   refine wl ?_
   have hκ0 : 0 < κ * W := Nat.mul_pos zO hWp
   exact j0c (g := (Y, dd)) (Y - κ * W, dd + κ) (by show X = Y - κ * W + (dd + κ) * W; rw [Nat.add_mul]; omega) (by show Y - κ * W < Y; omega) (ent ⟨.refl _, .refl _, .refl _, .refl _, .refl _, .int (by show (dd : Int) + κ = ((dd + κ : Nat) : Int); omega), trivial⟩ zT)
  ·have hlt : Y < W := by omega
   have q1 : X % W = Y := by rw [hY, Nat.add_mul_mod_self_right, Nat.mod_eq_of_lt hlt]
   have q2 : X / W = dd := by rw [hY, Nat.add_mul_div_right _ _ hWp, Nat.div_eq_of_lt hlt, Nat.zero_add]
   rw [q2] at hqd
   rw [q1] at dw1
   have hmx : ((max n (j + 1) : Nat) : Int) = if (n : Int) < (j : Int) + 1 then (j : Int) + 1 else n := by split <;> omega
   refine wl ?_
   exact j0c (g := (j + 1, n)) (j, max n (j + 1)) ⟨by show j ≤ nw V; omega, by show max n (j + 1) ≤ 231; omega, .inl (by show nw (V / W) ≤ max n (j + 1); omega)⟩ (by show j < j + 1; omega) (ent zS ⟨⟨_, rfl, by
    dsimp only
    rw [hmx, show hiq (V / W) j = _ from (k0C (Q := V / W) (k := j)).symm, hqd]
    exact .refl _⟩, ⟨_, rfl, by
    dsimp only
    rw [← dw1]
    exact .refl _⟩, trivial⟩)
 ·obtain rfl : k = 0 := by omega
  rw [k0D, Nat.pow_zero, Nat.div_one]
  have ht := w0g false n (nw (V / W)) (wd (V / W)) zO zO (fun i h _ => v0j h) (by
   by_cases h0 : V / W = 0
   ·left; rw [h0, q0z]
   ·exact .inr (y0d h0))
  refine wl ?_
  refine j0u (j0h [(1000, 7)] ht rfl ⟨rfl, trivial⟩ rfl) rfl ?_
  refine wl ?_
  exact j0U (T' := [(4, .own 7 0), (5, .own 8 0)]) (O' := [(7, .wi false (nw (V / W)) (wd (V / W))), (8, .wi false (nw (V % W)) (wd (V % W)))]) (ent zS zT) (K0q (c1 := .own 7 0) (c2 := .own 8 0) rfl rfl rfl rfl rfl)
end Go.Proofs.YtgblokifbgeegaaGreatDoor
end
namespace Go.Proofs.YtgblokifbgeegaaGreatDoor
open Go Go.Vc Go.RowKit Go.Na Go.Lib
set_option maxHeartbeats 4000000
theorem y0t (m : Int) (hm : (decDigits m.natAbs).length ≤ 2000) : CtrH Tryz.prog 161 [.av (vI m)] [] (.own 7 0) [(7, .wi (decide (m < 0)) (nw m.natAbs) (wd m.natAbs))] := by
 obtain ⟨hb, rs, ei, hb'⟩ := v1L m
 have h1 := Z0E m
 have hdd := j0I m.natAbs
 have hdv := q0b m.natAbs
 refine z0o _ Tryz.func161 rfl rfl Tryz.ntmps161 rfl rfl fun w Z ν => ?_
 generalize decDigits m.natAbs = D at *
 generalize hV : m.natAbs = V at *
 refine zU ?_
 refine wl ?_
 refine j0n (q0Z (b := hb) rfl rfl rfl (by rw [ei]; rfl)) rfl ?_
 refine wl ?_
 rw [hb']
 refine wl ?_
 refine j0n (j0j (is := [0]) (xs := [_]) (vs := [.bool (decide (m < 0))]) (Q1n _) rfl rfl) rfl ?_
 refine j0u (y0h 7 rfl rfl) rfl ?_
 refine wl ?_
 refine j0f (γ := List UInt8 × Nat) (fun q => [(3, .av (vS q.1)), (4, .own 7 0)]) (fun q => [(7, .wi (decide (m < 0)) q.2 (J1J V q.2))]) (fun q => (∀ b ∈ q.1, isD b) ∧ dv q.1 = V / 1000000000 ^ q.2 ∧ 9 * q.2 ≤ D.length + 8 ∧ (q.1 ≠ [] → q.1.length + 9 * q.2 ≤ D.length)) (fun q => q.1.length) (D, 0) ⟨hdd, by show dv D = V / 1000000000 ^ 0; rw [hdv, Nat.pow_zero, Nat.div_one], by show 9 * 0 ≤ _; omega, fun _ => by show D.length + 9 * 0 ≤ _; omega⟩ (ent zS ⟨⟨_, rfl, by rw [v1V]; exact .refl _⟩, trivial⟩) ?_
 rintro ⟨l, n⟩ ⟨hl, hv, hn, hc⟩
 dsimp only at hl hv hn hc ⊢
 refine wl ?_
 (refine j0a rfl ?_ ?_ <;> intro hb <;> (try simp only [zA, zB, zG, zC, zD, zN] at hb) <;> (try exact zQ))
 ·have hne : l ≠ [] := fun e => by subst e; simp at *
  have hc := hc hne
  obtain ⟨e1, e2⟩ := w1D hl hv
  have hdr : ∀ b ∈ l.drop (l.length - 9), isD b := fun b hb => hl b (List.mem_of_mem_drop hb)
  have hat := q1c (l.drop (l.length - 9)) _ (by rw [List.length_drop]; omega) (Z0M (fun e => by
   have := congrArg List.length e
   rw [List.length_drop] at this
   simp only [List.length_nil] at this
   omega) hdr)
  rw [e2] at hat
  refine wl ?_
  refine v0x (y0m (l.length - 9) rfl rfl (by split <;> omega) zO) rfl ?_
  refine wl ?_
  refine j0n (Z1i (l.length - 9) rfl rfl (by split <;> omega) zO) rfl ?_
  refine wl ?_
  exact j0c (g := (l, n)) (l.take (l.length - 9), n + 1) ⟨fun b hb => hl b (List.mem_of_mem_take hb), e1, by show 9 * (n + 1) ≤ _; omega, fun hn => by
   show (l.take (l.length - 9)).length + 9 * (n + 1) ≤ D.length
   have : l.length - 9 ≠ 0 := fun e => hn (by show l.take (l.length - 9) = []; rw [e, List.take_zero])
   rw [List.length_take]; omega⟩ (by show (l.take (l.length - 9)).length < l.length; rw [List.length_take]; omega) (ent zS ⟨⟨_, rfl, by
   dsimp only
   rw [← v1U]
   exact .refl _⟩, trivial⟩)
 ·have hl0 : l = [] := List.eq_nil_of_length_eq_zero zO
  subst hl0
  have hnw : nw V ≤ n := w1e hv.symm
  rw [z1e hnw]
  have ht := w0g (decide (m < 0)) n (nw V) (wd V) hnw zO (fun i h _ => v0j h) (by
   by_cases h0 : V = 0
   ·left; rw [h0, q0z]
   ·exact .inr (y0d h0))
  refine wl ?_
  refine j0u (j0h [(1000, 7)] ht rfl ⟨rfl, trivial⟩ rfl) rfl ?_
  refine wl ?_
  exact j0U (T' := [(2, .own 7 0)]) (O' := [(7, .wi (decide (m < 0)) (nw V) (wd V))]) (ent ⟨.refl _, trivial⟩ zT) (q0J rfl rfl rfl)
def sv (b : Bool) (V : Nat) : Int := if b then -(V : Int) else V
theorem j2Y {V : Nat} (h : V ≠ 0) : decDigits (wd V (nw V - 1)).toNat ++ tl (wd V) (nw V - 1) = decDigits V := by
 have e : nw V - 1 + 1 = nw V := by have := z0U h; omega
 have := X1p (f := wd V) (fun i => (q0r V i).1) (fun i => (q0r V i).2) (n := nw V - 1) (y0d h)
 rw [e, J0d _ _ (w0f V)] at this
 rw [this, Int.toNat_natCast]
theorem K0S {V : Nat} (h : nw V ≤ 232) : (decDigits V).length ≤ 2088 := by
 have key : ∀ m, nw V ≤ m → 0 < m → (decDigits V).length ≤ 9 * m := fun m hm h0 => v0m (by
  have h1 := Nat.lt_of_lt_of_le (w0f V) (Nat.pow_le_pow_right zE hm)
  rw [Nat.pow_mul]; exact h1) (by omega)
 exact key 232 h zE
theorem itoa_zero : itoa 0 = [48] := by
 rw [itoa_pos (by omega)]
 show decDigits 0 = _
 rw [decDigits]; rfl
theorem z1w (l : List UInt8) : Lib.strCells (bs l) = Lib.byteCells l := rfl
theorem y0y (l m : List UInt8) : Lib.byteCells (l ++ m) = Lib.byteCells l ++ Lib.byteCells m := by simp [Lib.byteCells]
theorem J1o (n : Nat) : ([48, 48, 48, 48, 48, 48, 48, 48, 48] : List UInt8).drop n = List.replicate (9 - n) 48 := by
 show (List.replicate 9 48).drop n = _
 rw [List.drop_replicate]
theorem z0J (b : Bool) (V : Nat) (hV : nw V ≤ 232) : CtrA Tryz.prog 189 [wA b (nw V) (wd V)] (vI (sv b V)) := by
 have hlen := K0S hV
 refine Y1B _ Tryz.func189 rfl rfl Tryz.ntmps189 rfl fun w0 Z vs hZ hvs => ?_
 match vs, hvs with
 |[], h => exact h.elim
 |[v0], h =>
 obtain ⟨bx, ox, rfl, hz, hlt, hcell⟩ := h.1
 have hcl : ∀ i, i < 234 → w0.cell? ⟨bx, ox + i, none⟩ = some ((wvs 232 b (nw V) (wd V)).getD i undef) := fun i hi => by
  obtain ⟨u, h1, h2⟩ := hcell i hi
  have : u = _ := h2
  rw [h1, this]
 have cb : w0.cell? ⟨bx, ox + 0, none⟩ = some (.bool b) := hcl 0 zE
 have cn : w0.cell? ⟨bx, ox + 1, none⟩ = some (.int .i64 (nw V)) := hcl 1 zE
 have cw : ∀ k, k < 232 → w0.cell? ⟨bx, ox + 2 + k, none⟩ = some (.int .i64 (wd V k)) := fun k hk => by
  have := hcl (k + 2) zO
  rw [List.getD, w0h rfl hk] at this
  rw [show ox + 2 + k = ox + (k + 2) by omega]
  exact this
 have hbw := Below.refl w0.heap.size w0
 refine zU ?_
 refine wm ?_
 (refine j0a rfl ?_ ?_ <;> intro hb <;> (try simp only [zA, zB, zG, zC, zD, zN] at hb) <;> (try exact zQ))
 ·have h0 : V = 0 := V0x.1 zO
  subst h0
  refine wm ?_
  exact j0e rfl (.tmp rfl) (by rw [show sv b ((0 : Nat)) = 0 by cases b <;> rfl]; show _ = vS (itoa 0); rw [itoa_zero])
 ·have h0 : V ≠ 0 := fun e => by subst e; exact hb (by rw [q0z]; rfl)
  refine J0O ?_
  refine Q0L ?_
  refine y0F ?_
  refine q0C ?_
  refine j1m (w0 := w0) hZ hbw rfl rfl fun bb w2 hb2 hge hbk => ?_
  clear hbw
  have his : Lib.IsBuilder 249 5 w0.heap.size bb (Lib.byteCells []) w2 := .inl ⟨hge, .slice none 0 0, hbk, World.ownsRow_nil _ _ _ _, by simp [Value.ownBlock]⟩
  have hfin : itoa (sv b V) = (if b then [45] else []) ++ (decDigits (wd V (nw V - 1)).toNat ++ tl (wd V) (nw V - 1)) := by
   rw [j2Y h0]
   cases b with
   |true =>
    have hneg : -(V : Int) < 0 := by omega
    rw [show sv true V = -(V : Int) by rfl, itoa_neg hneg]; simp
   |false =>
    have hneg : ¬ (V : Int) < 0 := by omega
    rw [show sv false V = (V : Int) by rfl, itoa_pos hneg]; simp
  have hfl : (itoa (sv b V)).length ≤ 2089 := by
   rw [hfin, j2Y h0, List.length_append]
   cases b <;> simp <;> omega
  have hd0 := q0r V (nw V - 1)
  have hBB : Na.B = 1000000000 := rfl
  rw [hBB] at hd0
  have hit := k0J (wd V (nw V - 1)) zO
  have hit0 : itoa (wd V (nw V - 1)) = decDigits (wd V (nw V - 1)).toNat := by rw [itoa_pos (by omega)]; congr 1
  have cwt := cw (nw V - 1) zO
  refine wm ?_
  (refine j0a rfl ?_ ?_ <;> intro hb <;> (try simp only [zA, zB, zG, zC, zD, zN] at hb) <;> (try exact zQ))
  ·subst hb
   refine wm ?_
   refine Q0s (w0 := w0) (vs := [.pointer (some ⟨bb, 0, none⟩), .int .u8 45]) hZ hb2 rfl (j0L Tryz.func209 rfl rfl) rfl (fun w1 h1 => Tryz.Builder_WriteByte w0.heap.size bb (Lib.byteCells []) 45 w1 (q0v his h1) (by simp [Lib.byteCells]) (Nat.le_trans hb2.size h1.size)) rfl fun w3 hb3 hψ => ?_
   clear hb2 his
   have his : Lib.IsBuilder 249 5 w0.heap.size bb (Lib.byteCells [45]) w3 := .inr hψ
   have hfin : itoa (sv true V) = [45] ++ (decDigits (wd V (nw V - 1)).toNat ++ tl (wd V) (nw V - 1)) := hfin
   refine wm ?_
   refine v0x (J0o (k := nw V - 1) rfl rfl zO zO) rfl ?_
   refine wm ?_
   refine q1V tm (by kernel_rfl) (by kernel_rfl) ?_
   refine Q0s (w0 := w0) (vs := [.pointer (some ⟨bb, 0, none⟩), .string (bs (itoa (wd V (nw V - 1))))]) hZ hb3 rfl (j0L Tryz.func210 rfl rfl) rfl (fun w1 h1 => Tryz.Builder_WriteString w0.heap.size bb (Lib.byteCells [45]) (bs (itoa (wd V (nw V - 1)))) w1 (q0v his h1) (by rw [Lib.byteCells_length]; show ([45] : List UInt8).length + (itoa (wd V (nw V - 1))).length ≤ _; rw [hit0]; have := congrArg List.length hfin; simp only [List.length_append] at this; simp only [List.length_cons, List.length_nil] at *; omega) (Nat.le_trans hb3.size h1.size)) rfl fun w4 hb4 hψ => ?_
   clear hb3 his
   have his : Lib.IsBuilder 249 5 w0.heap.size bb (Lib.byteCells ([45] ++ decDigits (wd V (nw V - 1)).toNat)) w4 := .inr (by
    have := hψ
    rw [z1w, ← y0y, hit0] at this
    exact this)
   refine wm ?_
   refine Z0X (w0 := w0) (γ := Nat) (fun (k : Nat) => [(0, .av (.val (.pointer (some ⟨bx, ox, none⟩)))), (3, .av (.val (.pointer (some ⟨bb, 0, none⟩)))), (4, .av (vi ((k : Int) - 1)))]) (fun k w => k ≤ nw V - 1 ∧ ∃ l, Lib.IsBuilder 249 5 w0.heap.size bb (Lib.byteCells l) w ∧ l ++ tl (wd V) k = itoa (sv true V) ∧ l ≠ []) (fun k => k) (nw V - 1) hZ hb4 (fun _ => rfl) (fun w1 h1 => ⟨Nat.le_refl _, [45] ++ decDigits (wd V (nw V - 1)).toNat, q0v his h1, by rw [hfin]; simp, by simp [w0l]⟩) (ent zS trivial) ?_
   clear hb4 his
   rintro k w5 hb5 ⟨hk, l, his, hl, hl0⟩
   refine wm ?_
   (refine j0a rfl ?_ ?_ <;> intro hb <;> (try simp only [zA, zB, zG, zC, zD, zN] at hb) <;> (try exact zQ))
   ·obtain ⟨j, rfl⟩ : ∃ j, k = j + 1 := ⟨k - 1, by omega⟩
    have e : ((j + 1 : Nat) : Int) - 1 = j := by omega
    rw [e]
    have hdj := q0r V j
    rw [hBB] at hdj
    have hij := k0J (wd V j) zO
    have hij0 : itoa (wd V j) = decDigits (wd V j).toNat := by rw [itoa_pos (by omega)]; congr 1
    have hjl : (itoa (wd V j)).length ≤ 9 := by rw [hij0]; exact v0m (by omega) (by decide)
    have cwj := cw j zO
    refine wm ?_
    refine j0n (y0m (itoa (wd V j)).length rfl rfl rfl hjl) rfl ?_
    rw [J1o]
    refine wm ?_
    refine j0n (x0n (l := List.replicate (9 - (itoa (wd V j)).length) 48) (m := itoa (wd V j)) rfl rfl (by rw [List.length_replicate]; omega)) rfl ?_
    refine wm ?_
    have hpad : List.replicate (9 - (itoa (wd V j)).length) 48 ++ itoa (wd V j) = pad (wd V j).toNat := by rw [hij0]; rfl
    rw [hpad]
    have hpl : (pad (wd V j).toNat).length = 9 := Z0d zO
    have hll : l.length ≤ 2089 := by
     have := congrArg List.length hl
     rw [List.length_append] at this
     omega
    refine Q0s (w0 := w0) (vs := [.pointer (some ⟨bb, 0, none⟩), .string (bs (pad (wd V j).toNat))]) hZ hb5 rfl (j0L Tryz.func210 rfl rfl) rfl (fun w1 h1 => Tryz.Builder_WriteString w0.heap.size bb (Lib.byteCells l) (bs (pad (wd V j).toNat)) w1 (q0v his h1) (by rw [Lib.byteCells_length]; show l.length + (pad (wd V j).toNat).length ≤ _; omega) (Nat.le_trans hb5.size h1.size)) rfl fun w6 hb6 hψ => ?_
    have his6 : Lib.IsBuilder 249 5 w0.heap.size bb (Lib.byteCells (l ++ pad (wd V j).toNat)) w6 := .inr (by
     have := hψ
     rw [z1w, ← y0y] at this
     exact this)
    clear hb5 his
    refine wm ?_
    exact Y0o j hZ hb6 rfl (by omega) (fun w7 h7 => ⟨by omega, l ++ pad (wd V j).toNat, q0v his6 h7, by rw [List.append_assoc]; exact hl, by simp [hl0]⟩) (ent zS trivial)
   ·obtain rfl : k = 0 := by omega
    have hl : l = itoa (sv true V) := by rw [← hl]; simp [tl]
    subst hl
    refine wm ?_
    refine Q0s (w0 := w0) (vs := [.pointer (some ⟨bb, 0, none⟩)]) (u := .string (bs (itoa (sv true V)))) (ψ := fun _ => True) hZ hb5 rfl (j0L Tryz.func211 rfl rfl) rfl (fun w1 h1 => Calls.mono (Tryz.Builder_String w0.heap.size bb (itoa (sv true V)) w1 (q0v his h1) hl0) fun e w2 h => ⟨h.1, trivial, h.2⟩) rfl fun w6 hb6 _ => ?_
    clear hb5 his
    refine wm ?_
    exact x1j hZ hb6 rfl rfl
  ·have hbf : b = false := by simpa using hb
   subst hbf
   have hfin : itoa (sv false V) = [] ++ (decDigits (wd V (nw V - 1)).toNat ++ tl (wd V) (nw V - 1)) := hfin
   refine wm ?_
   refine v0x (J0o (k := nw V - 1) rfl rfl zO zO) rfl ?_
   refine wm ?_
   refine q1V tm (by kernel_rfl) (by kernel_rfl) ?_
   refine Q0s (w0 := w0) (vs := [.pointer (some ⟨bb, 0, none⟩), .string (bs (itoa (wd V (nw V - 1))))]) hZ hb2 rfl (j0L Tryz.func210 rfl rfl) rfl (fun w1 h1 => Tryz.Builder_WriteString w0.heap.size bb (Lib.byteCells []) (bs (itoa (wd V (nw V - 1)))) w1 (q0v his h1) (by rw [Lib.byteCells_length]; show ([] : List UInt8).length + (itoa (wd V (nw V - 1))).length ≤ _; rw [hit0]; have := congrArg List.length hfin; simp only [List.length_append] at this; simp only [List.length_cons, List.length_nil] at *; omega) (Nat.le_trans hb2.size h1.size)) rfl fun w4 hb4 hψ => ?_
   clear hb2 his
   have his : Lib.IsBuilder 249 5 w0.heap.size bb (Lib.byteCells ([] ++ decDigits (wd V (nw V - 1)).toNat)) w4 := .inr (by
    have := hψ
    rw [z1w, ← y0y, hit0] at this
    exact this)
   refine wm ?_
   refine Z0X (w0 := w0) (γ := Nat) (fun (k : Nat) => [(0, .av (.val (.pointer (some ⟨bx, ox, none⟩)))), (3, .av (.val (.pointer (some ⟨bb, 0, none⟩)))), (4, .av (vi ((k : Int) - 1)))]) (fun k w => k ≤ nw V - 1 ∧ ∃ l, Lib.IsBuilder 249 5 w0.heap.size bb (Lib.byteCells l) w ∧ l ++ tl (wd V) k = itoa (sv false V) ∧ l ≠ []) (fun k => k) (nw V - 1) hZ hb4 (fun _ => rfl) (fun w1 h1 => ⟨Nat.le_refl _, [] ++ decDigits (wd V (nw V - 1)).toNat, q0v his h1, by rw [hfin]; simp, by simp [w0l]⟩) (ent zS trivial) ?_
   clear hb4 his
   rintro k w5 hb5 ⟨hk, l, his, hl, hl0⟩
   refine wm ?_
   (refine j0a rfl ?_ ?_ <;> intro hb <;> (try simp only [zA, zB, zG, zC, zD, zN] at hb) <;> (try exact zQ))
   ·obtain ⟨j, rfl⟩ : ∃ j, k = j + 1 := ⟨k - 1, by omega⟩
    have e : ((j + 1 : Nat) : Int) - 1 = j := by omega
    rw [e]
    have hdj := q0r V j
    rw [hBB] at hdj
    have hij := k0J (wd V j) zO
    have hij0 : itoa (wd V j) = decDigits (wd V j).toNat := by rw [itoa_pos (by omega)]; congr 1
    have hjl : (itoa (wd V j)).length ≤ 9 := by rw [hij0]; exact v0m (by omega) (by decide)
    have cwj := cw j zO
    refine wm ?_
    refine j0n (y0m (itoa (wd V j)).length rfl rfl rfl hjl) rfl ?_
    rw [J1o]
    refine wm ?_
    refine j0n (x0n (l := List.replicate (9 - (itoa (wd V j)).length) 48) (m := itoa (wd V j)) rfl rfl (by rw [List.length_replicate]; omega)) rfl ?_
    refine wm ?_
    have hpad : List.replicate (9 - (itoa (wd V j)).length) 48 ++ itoa (wd V j) = pad (wd V j).toNat := by rw [hij0]; rfl
    rw [hpad]
    have hpl : (pad (wd V j).toNat).length = 9 := Z0d zO
    have hll : l.length ≤ 2089 := by
     have := congrArg List.length hl
     rw [List.length_append] at this
     omega
    refine Q0s (w0 := w0) (vs := [.pointer (some ⟨bb, 0, none⟩), .string (bs (pad (wd V j).toNat))]) hZ hb5 rfl (j0L Tryz.func210 rfl rfl) rfl (fun w1 h1 => Tryz.Builder_WriteString w0.heap.size bb (Lib.byteCells l) (bs (pad (wd V j).toNat)) w1 (q0v his h1) (by rw [Lib.byteCells_length]; show l.length + (pad (wd V j).toNat).length ≤ _; omega) (Nat.le_trans hb5.size h1.size)) rfl fun w6 hb6 hψ => ?_
    have his6 : Lib.IsBuilder 249 5 w0.heap.size bb (Lib.byteCells (l ++ pad (wd V j).toNat)) w6 := .inr (by
     have := hψ
     rw [z1w, ← y0y] at this
     exact this)
    clear hb5 his
    refine wm ?_
    exact Y0o j hZ hb6 rfl (by omega) (fun w7 h7 => ⟨by omega, l ++ pad (wd V j).toNat, q0v his6 h7, by rw [List.append_assoc]; exact hl, by simp [hl0]⟩) (ent zS trivial)
   ·obtain rfl : k = 0 := by omega
    have hl : l = itoa (sv false V) := by rw [← hl]; simp [tl]
    subst hl
    refine wm ?_
    refine Q0s (w0 := w0) (vs := [.pointer (some ⟨bb, 0, none⟩)]) (u := .string (bs (itoa (sv false V)))) (ψ := fun _ => True) hZ hb5 rfl (j0L Tryz.func211 rfl rfl) rfl (fun w1 h1 => Calls.mono (Tryz.Builder_String w0.heap.size bb (itoa (sv false V)) w1 (q0v his h1) hl0) fun e w2 h => ⟨h.1, trivial, h.2⟩) rfl fun w6 hb6 _ => ?_
    clear hb5 his
    refine wm ?_
    exact x1j hZ hb6 rfl rfl
 |_ :: _ :: _, h => exact h.2.elim
theorem q0M {T : Tab} {O : Go.Vc.Own} (k r : Nat) {b : Bool} {n : Int} {f : Nat → Int} (hd : T.get k = .own r 0) (hr : Go.Vc.look O r = some (.wi b n f)) : Ent T O ((k, .av (wA b n f)) :: T.frz r .any) (Go.Vc.Own.drop r O) :=
 k1Z b n f ▸ W0i k r hd hr
theorem Q0M (m : Int) : sv (decide (m < 0)) m.natAbs = m := by
 unfold sv
 by_cases h : m < 0
 ·rw [decide_eq_true h, if_pos rfl]; omega
 ·rw [decide_eq_false h]; simp; omega
theorem k1z (b : Bool) (V : Nat) : (sv b V).natAbs = V := by unfold sv; split <;> omega
theorem X1g (b : Bool) (V : Nat) (b' : Bool) (W : Nat) : sv (z0E b V b' W).1 (z0E b V b' W).2 = sv b V + sv b' W := by
 unfold z0E
 by_cases hb : b = b'
 ·subst hb
  rw [if_pos rfl]
  unfold sv
  cases b <;> simp <;> omega
 ·rw [if_neg hb]
  by_cases hl : W ≤ V
  ·rw [if_pos hl]
   unfold sv
   cases b <;> cases b' <;> simp at hb ⊢ <;> omega
  ·rw [if_neg hl]
   unfold sv
   cases b <;> cases b' <;> simp at hb ⊢ <;> omega
theorem X0T {k j : Nat} {m : Int} (h : LI k m) (hk : k ≤ 9 * j) : nw m.natAbs ≤ j := by
 refine Z0b ?_
 have h1 : m.natAbs < 10 ^ (9 * j) := Nat.lt_of_lt_of_le h (Nat.pow_le_pow_right zE hk)
 rwa [Nat.pow_mul] at h1
theorem J1Q {k j : Nat} {b : Bool} {V : Nat} (h : LI k (sv b V)) (hk : k ≤ 9 * j) : nw V ≤ j := by
 have := X0T h hk
 rwa [k1z] at this
theorem X0P (b : Bool) (V : Nat) (h : LI 1000 (sv b V)) : CtrA Tryz.prog 163 [wA b (nw V) (wd V)] (j0x [vI (sv b V), vi 0]) := by
 have h1 := z0J b V (Nat.le_trans (J1Q (j := 112) h zE) zE)
 have h2 := x0U (sv b V) h
 refine j0p _ Tryz.func163 rfl rfl Tryz.ntmps163 rfl fun w Z => ?_
 refine zU ?_
 refine wl ?_
 exact zW
def short (m : Int) : Bool := decide ((itoa m).length ≤ 9)
theorem z0H {m : Int} (h : short m = true) : -1000000000 < m ∧ m < 1000000000 := by
 have h : (itoa m).length ≤ 9 := by simpa [short] using h
 by_cases hm : m < 0
 ·rw [itoa_neg hm] at h
  have h2 : LI 9 m := LI.of_len (by simp at h; omega)
  have : m.natAbs < 10 ^ 9 := h2
  omega
 ·rw [itoa_pos hm] at h
  have h2 : LI 9 m := LI.of_len h
  have : m.natAbs < 10 ^ 9 := h2
  omega
theorem Z0o (m n : Int) (hm : short m = true) (hn : short n = true) : CtrA Tryz.prog 159 [vI m, vI n] (j0x [vi m, vi n, vb true]) := by
 have l1 : (itoa m).length ≤ 9 := by simpa [short] using hm
 have l2 : (itoa n).length ≤ 9 := by simpa [short] using hn
 have h1 := q1c (itoa m) m zO (X0r m)
 have h2 := q1c (itoa n) n zO (X0r n)
 refine j0p _ Tryz.func159 rfl rfl Tryz.ntmps159 rfl fun w Z => ?_
 refine zU ?_
 refine wl ?_
 (first | refine j0l rfl rfl ?_ ?_ | refine j0t rfl rfl ?_ ?_) <;> intro hb <;> (try simp only [zA, zB, zG, zC, zD, zN] at hb) <;> (try exact zQ)
 refine wl ?_
 (refine j0a rfl ?_ ?_ <;> intro hb <;> (try simp only [zA, zB, zG, zC, zD, zN] at hb) <;> (try exact zQ))
 refine wl ?_
 exact zX
theorem Z0n (m n : Int) (h : (short m && short n) = false) : CtrA Tryz.prog 159 [vI m, vI n] (j0x [vi 0, vi 0, vb false]) := by
 have l : ¬ ((itoa m).length ≤ 9 ∧ (itoa n).length ≤ 9) := by
  intro h2
  simp [short, h2.1, h2.2] at h
 refine j0p _ Tryz.func159 rfl rfl Tryz.ntmps159 rfl fun w Z => ?_
 refine zU ?_
 refine wl ?_
 (first | refine j0l rfl rfl ?_ ?_ | refine j0t rfl rfl ?_ ?_) <;> intro hb <;> (try simp only [zA, zB, zG, zC, zD, zN] at hb) <;> (try exact zQ)
 ·refine wl ?_
  exact zX
 ·refine wl ?_
  (refine j0a rfl ?_ ?_ <;> intro hb <;> (try simp only [zA, zB, zG, zC, zD, zN] at hb) <;> (try exact zQ))
  refine wl ?_
  exact zX
def acc (g : Nat → Int) : Nat → Bool × Nat
 |0 => (false, 0)
 |i + 1 => z0E (acc g i).1 (acc g i).2 (decide (g i < 0)) (g i).natAbs
def Q1l (g : Nat → Int) : Nat → Int
 |0 => 0
 |i + 1 => Q1l g i + g i
theorem V0M (g : Nat → Int) : ∀ n, sv (acc g n).1 (acc g n).2 = Q1l g n
 |0 => rfl
 |n + 1 => by rw [acc, X1g, V0M g n, Q0M, Q1l]
theorem j2i (n : Nat) (g : Nat → Int) (hn : n ≤ 1000000) (hg : ∀ i, i < n → LI 1000 (g i)) (hs : ∀ i, i ≤ n → LI 2000 (Q1l g i)) (h : LI 1000 (Q1l g n)) : CtrA Tryz.prog 184 [.sl n 1 (fun i _ => vI (g i))] (j0x [vI (Q1l g n), vi 0]) := by
 have hw : ∀ i, i ≤ n → nw (acc g i).2 ≤ 232 := fun i hi => Nat.le_trans (J1Q (j := 223) (b := (acc g i).1) (by rw [V0M]; exact hs i hi) (by decide)) (by decide)
 have hli := X0P (acc g n).1 (acc g n).2 (by rw [V0M]; exact h)
 rw [V0M] at hli
 refine j0p _ Tryz.func184 rfl rfl Tryz.ntmps184 rfl fun w Z => ?_
 refine zU ?_
 refine wl ?_
 refine j0n (j0j (is := []) (xs := []) (vs := []) x1A rfl rfl) rfl ?_
 refine j0u (y0h 7 rfl rfl) rfl ?_
 refine wl ?_
 refine j0f (γ := Nat) (fun i => [(4, .own 7 0), (9, .av (.sl n 1 (fun i _ => vI (g i)))), (10, .av (vi n)), (11, .av (vi i))]) (fun i => [(7, .wi (acc g i).1 (nw (acc g i).2) (wd (acc g i).2))]) (fun i => i ≤ n) (fun i => n - i) 0 (Nat.zero_le _) (ent zS ⟨⟨_, rfl, by
  show RLe _ (Res.wi false ((nw 0 : Nat) : Int) (wd 0))
  rw [q0z, K1x]; exact .refl _⟩, trivial⟩) ?_
 intro i hi
 refine wl ?_
 (refine j0a rfl ?_ ?_ <;> intro hb <;> (try simp only [zA, zB, zG, zC, zD, zN] at hb) <;> (try exact zQ))
 ·have hgi := hg i zO
  have hgn := X0T (j := 112) hgi zE
  have hrd := y0t (g i) (by
   have := LI.len hgi zE; omega)
  have hpl := Z0J (acc g i).1 (decide (g i < 0)) (acc g i).2 (g i).natAbs (hw i hi) zO (hw (i + 1) zO)
  refine wl ?_
  refine j0u (j0h [(7, 8)] hrd rfl trivial rfl) rfl ?_
  refine v0N (.trans (q0M 17 8 rfl rfl) (ent (T' := [(15, .own 7 0), (17, .av (wA (decide (g i < 0)) (nw (g i).natAbs) (wd (g i).natAbs))), (4, .own 7 0), (9, .av (.sl n 1 (fun i _ => vI (g i)))), (10, .av (vi n)), (11, .av (vi i))]) (O' := [(7, .wi (acc g i).1 (nw (acc g i).2) (wd (acc g i).2))]) zS zT)) ?_
  refine j0u (j0h [(1000, 7)] hpl rfl ⟨rfl, trivial⟩ rfl) rfl ?_
  refine wl ?_
  exact j0c (i + 1) zO zO (ent zS zT)
 ·obtain rfl : i = n := by omega
  refine wl ?_
  refine j0n (q0g hli rfl ⟨.w rfl rfl, trivial⟩ (flat_tup [_, _])) rfl ?_
  refine wl ?_
  exact zW
theorem j1n (m : Int) (hm : LI 1000 m) : CtrA Tryz.prog 158 [vI m] (vI (-m)) := by
 have h1 := w1X m
 have hlen := hm.len zE
 by_cases h0 : m = 0
 ·have e : sgn m = 0 := by unfold sgn; rw [if_pos h0]
  rw [e] at h1
  refine j0p _ Tryz.func158 rfl rfl Tryz.ntmps158 rfl fun w Z => ?_
  refine zU ?_
  refine wl ?_
  exact j0e rfl (.tmp rfl) (congrArg vI zO)
 ·by_cases hn : m < 0
  ·have e : sgn m = -1 := by unfold sgn; rw [if_neg h0, if_pos hn]
   rw [e] at h1
   refine j0p _ Tryz.func158 rfl rfl Tryz.ntmps158 rfl fun w Z => ?_
   refine zU ?_
   refine wl ?_
   refine j0n (y0m 1 rfl rfl rfl (by rw [itoa_neg hn]; simp)) rfl ?_
   refine wl ?_
   have e2 : (itoa m).drop 1 = itoa (-m) := by
    have hneg : ¬ -m < 0 := by omega
    rw [itoa_neg hn, itoa_pos hneg, Int.natAbs_neg]; rfl
   exact j0e rfl (.tmp rfl) (congrArg vS e2)
  ·have e : sgn m = 1 := by unfold sgn; rw [if_neg h0, if_neg hn]
   rw [e] at h1
   refine j0p _ Tryz.func158 rfl rfl Tryz.ntmps158 rfl fun w Z => ?_
   refine zU ?_
   refine wl ?_
   refine j0n (x0n (l := [45]) (m := itoa m) rfl rfl (by rw [itoa_pos hn]; simp only [List.length_cons, List.length_nil]; omega)) rfl ?_
   refine wl ?_
   have e2 : [45] ++ itoa m = itoa (-m) := by
    have hneg : -m < 0 := by omega
    rw [itoa_pos hn, itoa_neg hneg, Int.natAbs_neg]; rfl
   exact j0e rfl (.tmp rfl) (congrArg vS e2)
theorem Q0Y (m n : Int) (hm : LI 1000 m) (hn : LI 1000 n) : CtrA Tryz.prog 142 [.sl 2 1 (fun i _ => vI (two m n i))] (vi 0) :=
 Y1f 2 (two m n) zE (fun i hi => by rcases (by omega : i = 0 ∨ i = 1) with rfl | rfl <;> assumption)
theorem Q1G (m n : Int) (hm : LI 1000 m) (hn : LI 1000 n) (hs : LI 1000 (m + n)) : CtrA Tryz.prog 147 [vI m, vI n] (j0x [vI (m + n), vi 0]) := by
 have h0 := Q0Y m n hm hn
 cases hsm : (short m && short n) with
 |true =>
  rw [Bool.and_eq_true] at hsm
  have h1 := Z0o m n hsm.1 hsm.2
  have b1 := z0H hsm.1
  have b2 := z0H hsm.2
  have h2 := K0c (m + n) zO
  refine j0p _ Tryz.func147 rfl rfl Tryz.ntmps147 rfl fun w Z => ?_
  refine zU ?_
  refine wl ?_
  refine j0n (v0M rfl rfl) rfl ?_
  refine wl ?_
  exact zW
 |false =>
  have h1 := Z0n m n hsm
  have e : Q1l (two m n) 2 = m + n := by show 0 + m + n = _; omega
  have h2 := j2i 2 (two m n) zE (fun i hi => by rcases (by omega : i = 0 ∨ i = 1) with rfl | rfl <;> assumption) (fun i hi => by
   rcases (by omega : i = 0 ∨ i = 1 ∨ i = 2) with rfl | rfl | rfl
   ·exact LI.small (show (0 : Int).natAbs < 10 by decide) zE
   ·have : Q1l (two m n) 1 = m := by show 0 + m = _; omega
    rw [this]; exact hm.mono (by decide)
   ·rw [e]; exact hs.mono (by decide)) (by rw [e]; exact hs)
  rw [e] at h2
  refine j0p _ Tryz.func147 rfl rfl Tryz.ntmps147 rfl fun w Z => ?_
  refine zU ?_
  refine wl ?_
  refine j0n (v0M rfl rfl) rfl ?_
  refine wl ?_
  refine j0n (v0M rfl rfl) rfl ?_
  refine wl ?_
  exact zW
theorem K1i (m n : Int) (hm : LI 1000 m) (hn : LI 1000 n) (hs : LI 1000 (m - n)) : CtrA Tryz.prog 123 [vI m, vI n] (j0x [vI (m - n), vi 0]) := by
 have h0 := Q0Y m n hm hn
 have h1 := j1n n hn
 have h2 := Q1G m (-n) hm hn.neg (by rw [← Int.sub_eq_add_neg]; exact hs)
 rw [← Int.sub_eq_add_neg] at h2
 refine j0p _ Tryz.func123 rfl rfl Tryz.ntmps123 rfl fun w Z => ?_
 refine zU ?_
 refine wl ?_
 refine j0n (v0M rfl rfl) rfl ?_
 refine wl ?_
 exact zW
theorem k1A (b b' : Bool) (V W : Nat) : sv (b != b') (V * W) = sv b V * sv b' W := by
 unfold sv
 cases b <;> cases b' <;> simp [Int.mul_neg, Int.neg_mul]
theorem K1g (m n : Int) (hm : LI 1000 m) (hn : LI 1000 n) (hs : LI 1000 (m * n)) : CtrA Tryz.prog 124 [vI m, vI n] (j0x [vI (m * n), vi 0]) := by
 have h0 := Q0Y m n hm hn
 cases hsm : (short m && short n) with
 |true =>
  rw [Bool.and_eq_true] at hsm
  have h1 := Z0o m n hsm.1 hsm.2
  have b1 := z0H hsm.1
  have b2 := z0H hsm.2
  have hmn : -1000000000000000000 ≤ m * n ∧ m * n ≤ 1000000000000000000 := by
   have q1 : m.natAbs * n.natAbs ≤ 1000000000 * 1000000000 := Nat.mul_le_mul zO zO
   rw [← Int.natAbs_mul] at q1
   generalize m * n = p at *
   omega
  have h2 := K0c (m * n) zO
  refine j0p _ Tryz.func124 rfl rfl Tryz.ntmps124 rfl fun w Z => ?_
  refine zU ?_
  refine wl ?_
  refine j0n (v0M rfl rfl) rfl ?_
  refine wl ?_
  exact zW
 |false =>
  have h1 := Z0n m n hsm
  have n1 := X0T (j := 112) hm zE
  have n2 := X0T (j := 112) hn zE
  have r1 := y0t m (Nat.le_trans (hm.len zE) zE)
  have r2 := y0t n (Nat.le_trans (hn.len zE) zE)
  have ht := z1U (decide (m < 0)) (decide (n < 0)) m.natAbs n.natAbs zO
  have e := k1A (decide (m < 0)) (decide (n < 0)) m.natAbs n.natAbs
  rw [Q0M, Q0M] at e
  have hl := X0P (decide (m < 0) != decide (n < 0)) (m.natAbs * n.natAbs) (by rw [e]; exact hs)
  rw [e] at hl
  refine j0p _ Tryz.func124 rfl rfl Tryz.ntmps124 rfl fun w Z => ?_
  refine zU ?_
  refine wl ?_
  refine j0n (v0M rfl rfl) rfl ?_
  refine wl ?_
  refine j0u (j0h [(7, 8)] r1 rfl trivial rfl) rfl ?_
  refine v0N (.trans (q0M 32 8 rfl rfl) (ent (T' := [(1, .av (vI n)), (32, .av (wA (decide (m < 0)) (nw m.natAbs) (wd m.natAbs)))]) (O' := []) zS trivial)) ?_
  refine wl ?_
  refine j0u (j0h [(7, 9)] r2 rfl trivial rfl) rfl ?_
  refine v0N (.trans (q0M 34 9 rfl rfl) (ent (T' := [(32, .av (wA (decide (m < 0)) (nw m.natAbs) (wd m.natAbs))), (34, .av (wA (decide (n < 0)) (nw n.natAbs) (wd n.natAbs)))]) (O' := []) zS trivial)) ?_
  refine j0u (j0h [] ht rfl trivial rfl) rfl ?_
  refine j0n (q0g hl rfl ⟨.w rfl rfl, trivial⟩ (flat_tup [_, _])) rfl ?_
  refine wl ?_
  exact zW
end Go.Proofs.YtgblokifbgeegaaGreatDoor
namespace Go.Na
open Go
theorem Z1e {m n : Int} (hn : n ≠ 0) : (m.tmod n ≠ 0 ∧ ¬ (m.tmod n < 0 ↔ n < 0) → m.fdiv n = m.tdiv n - 1 ∧ m.fmod n = m.tmod n + n) ∧ (¬ (m.tmod n ≠ 0 ∧ ¬ (m.tmod n < 0 ↔ n < 0)) → m.fdiv n = m.tdiv n ∧ m.fmod n = m.tmod n) := by
 have h1 := Int.tmod_add_mul_tdiv m n
 have h2 : (m.tmod n).natAbs < n.natAbs := by
  rw [Int.natAbs_tmod]; exact Nat.mod_lt _ (by omega)
 generalize m.tmod n = r at *
 generalize m.tdiv n = q at *
 refine ⟨fun h => j0N (by rw [← h1, Int.sub_mul, Int.mul_comm]; omega) (by omega), fun h => j0N (by rw [← h1, Int.mul_comm]; omega) (by omega)⟩
theorem k1L {m n : Int} (h : -1000000000 < m ∧ m < 1000000000) : -1000000000 < m.tdiv n ∧ m.tdiv n < 1000000000 := by
 have : (m.tdiv n).natAbs ≤ m.natAbs := by rw [Int.natAbs_tdiv]; exact Nat.div_le_self _ _
 omega
theorem k1O {m n : Int} (h : -1000000000 < m ∧ m < 1000000000) : -1000000000 < m.tmod n ∧ m.tmod n < 1000000000 := by
 have : (m.tmod n).natAbs ≤ m.natAbs := by rw [Int.natAbs_tmod]; exact Nat.mod_le _ _
 omega
end Go.Na
namespace Go.Proofs.YtgblokifbgeegaaGreatDoor
open Go Go.Vc Go.RowKit Go.Na Go.Lib
set_option maxHeartbeats 4000000
theorem z1k (m n : Int) (hm : LI 1000 m) (hn : LI 1000 n) (h0 : n ≠ 0) (hsm : short m = true ∧ short n = true) : CtrA Tryz.prog 191 [vI m, vI n] (j0x [vI (m.fdiv n), vI (m.fmod n), vi 0]) := by
 have h00 := Q0Y m n hm hn
 have hz := w0q n
 rw [decide_eq_false h0] at hz
 have h1 := Z0o m n hsm.1 hsm.2
 have b1 := z0H hsm.1
 have b2 := z0H hsm.2
 have b3 := k1L (n := n) b1
 have b4 := k1O (n := n) b1
 obtain ⟨k1, k2⟩ := Z1e (m := m) h0
 by_cases hc : m.tmod n ≠ 0 ∧ ¬ (m.tmod n < 0 ↔ n < 0)
 ·obtain ⟨e1, e2⟩ := k1 hc
  have w1 := X0j (m.tdiv n - 1) zO
  have w2 := X0j (m.tmod n + n) zO
  rw [e1, e2]
  refine j0p _ Tryz.func191 rfl rfl Tryz.ntmps191 rfl fun w Z => ?_
  refine zU ?_
  refine wl ?_
  refine j0n (v0M rfl rfl) rfl ?_
  refine wl ?_
  rw [hz]
  refine wl ?_
  have e3 : (!(decide (m.tmod n < 0) == decide (n < 0))) = true := by
   by_cases x1 : m.tmod n < 0 <;> by_cases x2 : n < 0 <;> simp [x1, x2] at hc ⊢
  (first | refine j0l rfl rfl ?_ ?_ | refine j0t rfl rfl ?_ ?_) <;> intro hb <;> (try simp only [zA, zB, zG, zC, zD, zN] at hb) <;> (try exact zQ)
  refine wl ?_
  rw [e3]
  refine wl ?_
  exact zX
 ·obtain ⟨e1, e2⟩ := k2 hc
  have w1 := X0j (m.tdiv n) zO
  have w2 := X0j (m.tmod n) zO
  rw [e1, e2]
  refine j0p _ Tryz.func191 rfl rfl Tryz.ntmps191 rfl fun w Z => ?_
  refine zU ?_
  refine wl ?_
  refine j0n (v0M rfl rfl) rfl ?_
  refine wl ?_
  rw [hz]
  refine wl ?_
  by_cases hr0 : m.tmod n = 0
  ·(first | refine j0l rfl rfl ?_ ?_ | refine j0t rfl rfl ?_ ?_) <;> intro hb <;> (try simp only [zA, zB, zG, zC, zD, zN] at hb) <;> (try exact zQ)
   refine wl ?_
   exact zX
  ·have e3 : (!(decide (m.tmod n < 0) == decide (n < 0))) = false := by
    by_cases x1 : m.tmod n < 0 <;> by_cases x2 : n < 0 <;> simp [x1, x2, hr0] at hc ⊢
   (first | refine j0l rfl rfl ?_ ?_ | refine j0t rfl rfl ?_ ?_) <;> intro hb <;> (try simp only [zA, zB, zG, zC, zD, zN] at hb) <;> (try exact zQ)
   refine wl ?_
   rw [e3]
   refine wl ?_
   exact zX
theorem k1B : Tryz.prog.built 224 [(0, .bool true), (1, .int .i64 1)] = some (wvs 232 true 1 (fun _ => 0)).toArray := by kernel_rfl
theorem K1e : upd (fun _ => 0) 0 1 = wd 1 := by
 funext i
 unfold upd
 cases i with
 |zero => rfl
 |succ i =>
  rw [if_neg (by omega), v0j]
  have : nw 1 = 1 := by rw [z0U (by decide), V0x.2 (by decide)]
  omega
theorem J1R : nw 1 = 1 := by rw [z0U (by decide), V0x.2 (by decide)]
theorem z1j (m n : Int) (hm : LI 1000 m) (hn : LI 1000 n) (h0 : n ≠ 0) (hsm : (short m && short n) = false) : CtrA Tryz.prog 191 [vI m, vI n] (j0x [vI (m.fdiv n), vI (m.fmod n), vi 0]) := by
 have h00 := Q0Y m n hm hn
 have hz := w0q n
 rw [decide_eq_false h0] at hz
 have h1 := Z0n m n hsm
 have n1 := X0T (j := 112) hm zE
 have n2 := X0T (j := 112) hn zE
 have r1 := y0t m (Nat.le_trans (hm.len zE) zE)
 have r2 := y0t n (Nat.le_trans (hn.len zE) zE)
 have hN0 : n.natAbs ≠ 0 := by omega
 have hd := j1G (decide (m < 0)) (decide (n < 0)) m.natAbs n.natAbs zO zO hN0
 have hnq : nw (m.natAbs / n.natAbs) ≤ 112 := Nat.le_trans (v0u (Nat.div_le_self _ _)) n1
 have hnr : nw (m.natAbs % n.natAbs) ≤ 112 := Nat.le_trans (v0u (Nat.mod_le _ _)) n1
 have hdm := Nat.div_add_mod m.natAbs n.natAbs
 have hrl : m.natAbs % n.natAbs < n.natAbs := Nat.mod_lt _ zO
 have hms := Q0M m
 have hns := Q0M n
 generalize m.natAbs / n.natAbs = Q at *
 generalize m.natAbs % n.natAbs = R at *
 generalize hM : m.natAbs = M at *
 generalize hNn : n.natAbs = Nn at *
 generalize decide (m < 0) = bm at *
 generalize decide (n < 0) = bn at *
 refine j0p _ Tryz.func191 rfl rfl Tryz.ntmps191 rfl fun w Z => ?_
 refine zU ?_
 refine wl ?_
 refine j0n (v0M rfl rfl) rfl ?_
 refine wl ?_
 rw [hz]
 refine wl ?_
 refine j0u (j0h [(7, 18)] r1 rfl trivial rfl) rfl ?_
 refine v0N (.trans (q0M 60 18 rfl rfl) (ent (T' := [(1, .av (vI n)), (60, .av (wA bm (nw M) (wd M)))]) (O' := []) zS trivial)) ?_
 refine wl ?_
 refine j0u (j0h [(7, 19)] r2 rfl trivial rfl) rfl ?_
 refine v0N (.trans (q0M 62 19 rfl rfl) (ent (T' := [(60, .av (wA bm (nw M) (wd M))), (62, .av (wA bn (nw Nn) (wd Nn)))]) (O' := []) zS trivial)) ?_
 refine wl ?_
 refine j0u (j0h [] hd rfl trivial rfl) rfl ?_
 refine j0n (j0S (s := .tupC [.own 7 0, .own 8 0]) rfl) rfl ?_
 refine wl ?_
 have hRn : 0 < nw R ↔ R ≠ 0 := by
  have := V0x (V := R)
  omega
 have hmag : m = sv bm (Nn * Q + R) := by rw [← hms, hdm]
 by_cases hc : R ≠ 0 ∧ bm ≠ bn
 ·obtain ⟨hR, hb⟩ := hc
  have e4 : (!(bm == bn)) = true := by simp [hb]
  rw [e4]
  have p1 : z0E true Q true 1 = (true, Q + 1) := by unfold z0E; rw [if_pos rfl]
  have p2 : z0E bm R bn Nn = (bn, Nn - R) := by unfold z0E; rw [if_neg hb, if_neg (by omega)]
  have nq1 : nw (Q + 1) ≤ 113 := by
   refine Z0b ?_
   have := Nat.lt_of_lt_of_le (w0f Q) (Nat.pow_le_pow_right (show 0 < 1000000000 by decide) hnq)
   rw [show (113 : Nat) = 112 + 1 by rfl, Nat.pow_succ]
   omega
  have nr1 : nw (Nn - R) ≤ 112 := Nat.le_trans (v0u (Nat.sub_le _ _)) n2
  have c1 := Z0J true true Q 1 (by omega) (by rw [J1R]; decide) (by rw [p1]; show nw (Q + 1) ≤ 232; omega)
  have c2 := Z0J bm bn R Nn (by omega) (by omega) (by rw [p2]; show nw (Nn - R) ≤ 232; omega)
  rw [p1] at c1
  rw [p2] at c2
  have t1 := z0J true (Q + 1) zO
  have t2 := z0J bn (Nn - R) zO
  have hv := j0N (m := m) (n := n) (q := sv true (Q + 1)) (r := sv bn (Nn - R)) (by
   rw [hmag, ← hns]
   unfold sv
   have hcast : ((Nn - R : Nat) : Int) = Nn - R := by omega
   cases bm <;> cases bn <;> simp at hb ⊢ <;> rw [hcast] <;> grind) (by
   rw [← hns]
   unfold sv
   cases bn <;> simp <;> omega)
  obtain ⟨v1, v2⟩ := hv
  (first | refine j0l rfl rfl ?_ ?_ | refine j0t rfl rfl ?_ ?_) <;> intro hb <;> (try simp only [zA, zB, zG, zC, zD, zN] at hb) <;> (try exact zQ)
  refine wl ?_
  rw [e4]
  refine wl ?_
  refine j0n (j0j (is := [0, 1]) (xs := [_, _]) (vs := [.bool true, .int .i64 1]) k1B rfl rfl) rfl ?_
  refine j0u (y0h 19 rfl rfl) rfl ?_
  refine wl ?_
  refine v0P (x0K 0 rfl rfl rfl rfl zE) ?_
  refine wl ?_
  refine v0N (.trans (V1z 19 (n' := ((nw 1 : Nat) : Int)) (f' := wd 1) rfl rfl (by rw [J1R]; rfl) K1e) (.trans (q0M 114 19 rfl rfl) (ent (T' := [(113, .own 7 0), (114, .av (wA true (nw 1) (wd 1))), (14, .av (wA bn (nw Nn) (wd Nn))), (15, .own 7 0), (16, .own 8 0)]) (O' := [(7, .wi true (nw Q) (wd Q)), (8, .wi bm (nw R) (wd R))]) zS zT))) ?_
  refine j0u (j0h [(1000, 7)] c1 rfl ⟨rfl, trivial⟩ rfl) rfl ?_
  refine wl ?_
  refine j0u (j0h [(1000, 8)] c2 rfl ⟨rfl, trivial⟩ rfl) rfl ?_
  refine wl ?_
  refine j0n (q0g t1 rfl ⟨.w rfl rfl, trivial⟩ (flat_val _)) rfl ?_
  refine wl ?_
  refine j0n (q0g t2 rfl ⟨.w rfl rfl, trivial⟩ (flat_val _)) rfl ?_
  refine wl ?_
  exact j0A (rvs := [_, _, _]) (τs := [_, _, _]) rfl rfl ⟨.tmp rfl, .tmp rfl, .tmp rfl, trivial⟩ (by rw [v1, v2])
 ·have hv := j0N (m := m) (n := n) (q := sv (!(bm == bn)) Q) (r := sv bm R) (by
   rw [hmag, ← hns]
   unfold sv
   cases bm <;> cases bn <;> simp at hc ⊢ <;> grind) (by
   rw [← hns]
   unfold sv
   cases bm <;> cases bn <;> simp at hc ⊢ <;> omega)
  obtain ⟨v1, v2⟩ := hv
  have t1 := z0J (!(bm == bn)) Q zO
  have t2 := z0J bm R zO
  by_cases hR : R = 0
  ·(first | refine j0l rfl rfl ?_ ?_ | refine j0t rfl rfl ?_ ?_) <;> intro hb <;> (try simp only [zA, zB, zG, zC, zD, zN] at hb) <;> (try exact zQ)
   refine wl ?_
   refine j0n (q0g t1 rfl ⟨.w rfl rfl, trivial⟩ (flat_val _)) rfl ?_
   refine wl ?_
   refine j0n (q0g t2 rfl ⟨.w rfl rfl, trivial⟩ (flat_val _)) rfl ?_
   refine wl ?_
   exact j0A (rvs := [_, _, _]) (τs := [_, _, _]) rfl rfl ⟨.tmp rfl, .tmp rfl, .tmp rfl, trivial⟩ (by rw [v1, v2])
  ·have e4 : (!(bm == bn)) = false := by
    simp at hc
    simp [hc hR]
   rw [e4] at t1 v1 ⊢
   (first | refine j0l rfl rfl ?_ ?_ | refine j0t rfl rfl ?_ ?_) <;> intro hb <;> (try simp only [zA, zB, zG, zC, zD, zN] at hb) <;> (try exact zQ)
   refine wl ?_
   rw [e4]
   refine wl ?_
   refine j0n (q0g t1 rfl ⟨.w rfl rfl, trivial⟩ (flat_val _)) rfl ?_
   refine wl ?_
   refine j0n (q0g t2 rfl ⟨.w rfl rfl, trivial⟩ (flat_val _)) rfl ?_
   refine wl ?_
   exact j0A (rvs := [_, _, _]) (τs := [_, _, _]) rfl rfl ⟨.tmp rfl, .tmp rfl, .tmp rfl, trivial⟩ (by rw [v1, v2])
theorem x1T (m n : Int) (hm : LI 1000 m) (hn : LI 1000 n) (h0 : n ≠ 0) : CtrA Tryz.prog 191 [vI m, vI n] (j0x [vI (m.fdiv n), vI (m.fmod n), vi 0]) := by
 cases hsm : (short m && short n) with
 |true => exact z1k m n hm hn h0 (by rwa [Bool.and_eq_true] at hsm)
 |false => exact z1j m n hm hn h0 hsm
theorem Q1K (m n : Int) (hm : LI 1000 m) (hn : LI 1000 n) (h0 : n ≠ 0) (hq : LI 1000 (m.fdiv n)) : CtrA Tryz.prog 157 [vI m, vI n] (j0x [vI (m.fdiv n), vi 0]) := by
 have h1 := x1T m n hm hn h0
 have h2 := x0U _ hq
 refine j0p _ Tryz.func157 rfl rfl Tryz.ntmps157 rfl fun w Z => ?_
 refine zU ?_
 refine wl ?_
 exact zW
theorem V0J (b b' : Bool) (V W : Nat) (hV : nw V ≤ 231) (hW : nw W ≤ 231) (hW0 : W ≠ 0) :
  CtrH Tryz.prog 188 [.own 1000 0, .own 1001 0] [(1000, .wi b (nw V) (wd V)), (1001, .wi b' (nw W) (wd W))] (.tupC [.own 7 0, .own 8 0]) [(7, .wi false (nw (V / W)) (wd (V / W))), (8, .wi false (nw (V % W)) (wd (V % W))), (1000, .wi b (nw V) (wd V)), (1001, .wi b' (nw W) (wd W))] := by
 have hWp : 0 < W := Nat.pos_of_ne_zero hW0
 have hnr : ∀ k, nw (V / 1000000000 ^ k % W) ≤ nw W := fun k => v0u (Nat.le_of_lt (Nat.mod_lt _ hWp))
 have hnq : nw (V / W) ≤ nw V := v0u (Nat.div_le_self _ _)
 refine z0o _ Tryz.func188 rfl rfl Tryz.ntmps188 rfl rfl fun w Z ν => ?_
 refine zU ?_
 refine wl ?_
 refine j0n (j0j (is := []) (xs := []) (vs := []) x1A rfl rfl) rfl ?_
 refine j0u (y0h 7 rfl rfl) rfl ?_
 refine j0n (j0j (is := []) (xs := []) (vs := []) x1A rfl rfl) rfl ?_
 refine j0u (y0h 8 rfl rfl) rfl ?_
 refine wl ?_
 refine j0f (γ := Nat × Nat) (fun q => [(0, .own 1000 0), (1, .own 1001 0), (6, .own 7 0), (7, .own 8 0), (8, .av (vi ((q.1 : Int) - 1)))]) (fun q => [(7, .wi false q.2 (hiq (V / W) q.1)), (8, .wi false (nw (V / 1000000000 ^ q.1 % W)) (wd (V / 1000000000 ^ q.1 % W))), (1000, .wi b (nw V) (wd V)), (1001, .wi b' (nw W) (wd W))]) (fun q => q.1 ≤ nw V ∧ q.2 ≤ 231 ∧ (nw (V / W) ≤ q.2 ∨ q.1 = nw V ∧ 0 < nw V)) (fun q => q.1) (nw V, 0) ⟨by show _ ≤ _; omega, by show _ ≤ _; omega, by show nw (V / W) ≤ 0 ∨ nw V = nw V ∧ 0 < nw V; omega⟩ (ent ⟨.refl _, .refl _, .refl _, .refl _, .int (by show _ = _; omega), trivial⟩ ⟨⟨_, rfl, by
  rw [v1E hnq]; exact .refl _⟩, ⟨_, rfl, by
  rw [show V / 1000000000 ^ (nw V) % W = 0 by rw [Nat.div_eq_of_lt (w0f V), Nat.zero_mod], q0z, K1x]
  exact .refl _⟩, ⟨_, rfl, .refl _⟩, ⟨_, rfl, .refl _⟩, trivial⟩) ?_
 rintro ⟨k, n⟩ ⟨hk, hn, hqn⟩
 dsimp only at hk hn hqn ⊢
 refine wl ?_
 (refine j0a rfl ?_ ?_ <;> intro hb <;> (try simp only [zA, zB, zG, zC, zD, zN] at hb) <;> (try exact zQ))
 ·obtain ⟨j, rfl⟩ : ∃ j, k = j + 1 := ⟨k - 1, by omega⟩
  have e : ((j + 1 : Nat) : Int) - 1 = j := by omega
  rw [e]
  obtain ⟨dw1, dw2, dw3⟩ := k0d (V := V) (W := W) (k := j) hW0
  have hwd : wd V j = ((V / 1000000000 ^ j % 1000000000 : Nat) : Int) := rfl
  have hd : V / 1000000000 ^ j % 1000000000 < 1000000000 := Nat.mod_lt _ zE
  have hqd : wd (V / W) j = ((V / W / 1000000000 ^ j % 1000000000 : Nat) : Int) := rfl
  have hr1 := hnr (j + 1)
  have hmr : V / 1000000000 ^ (j + 1) % W < W := Nat.mod_lt _ hWp
  rw [← dw2] at hqd
  generalize V / 1000000000 ^ (j + 1) % W = R at *
  have hup := w1W (R := R) hd
  have hnx := Z1Q (R := R) hd
  rw [← hwd] at hup
  generalize V / 1000000000 ^ j % 1000000000 = dg at *
  have ht := w0g false (nw R + 1) (nw (R * 1000000000 + dg)) (wd (R * 1000000000 + dg)) hnx zO (fun i h _ => v0j h) (by
   by_cases h0 : R * 1000000000 + dg = 0
   ·left; rw [h0, q0z]
   ·exact .inr (y0d h0))
  generalize R * 1000000000 + dg = X at *
  refine wl ?_
  refine v0x (x0a (l := 1) (h := 232) rfl rfl ⟨_, _, rfl, rfl⟩ rfl zE zE zE) rfl ?_
  refine wl ?_
  refine v0x (z0P (h := nw R) rfl rfl rfl zO zE) rfl ?_
  refine wl ?_
  refine X0C (k0v (m := nw R) rfl rfl rfl zO) rfl ?_
  refine wl ?_
  refine y0g (x0K 0 rfl rfl rfl rfl zE) ?_
  refine wl ?_
  refine v0N (V1z 8 (n' := ((nw R + 1 : Nat) : Int)) (f' := wd X) rfl rfl zO hup) ?_
  refine j0u (j0h [(1000, 8)] ht rfl ⟨rfl, trivial⟩ rfl) rfl ?_
  refine wl ?_
  refine j0f (γ := Nat × Nat) (fun q => [(0, .own 1000 0), (1, .own 1001 0), (6, .own 7 0), (7, .own 8 0), (8, .av (vi j)), (9, .av (vi q.2))]) (fun q => [(7, .wi false n (hiq (V / W) (j + 1))), (8, .wi false (nw q.1) (wd q.1)), (1000, .wi b (nw V) (wd V)), (1001, .wi b' (nw W) (wd W))]) (fun q => X = q.1 + q.2 * W) (fun q => q.1) (X, 0) (by show X = X + 0 * W; omega) (ent zS zT) ?_
  rintro ⟨Y, dd⟩ hY
  dsimp only at hY ⊢
  have hYX : nw Y ≤ 232 := Nat.le_trans (v0u (by omega : Y ≤ X)) zO
  have hbe := J0g Y W false b' hYX zO
  have hb2 := q1n Y W
  have hdd : dd < 1000000000 := by
   refine Nat.lt_of_le_of_lt ?_ dw3
   rw [Nat.le_div_iff_mul_le hWp]; omega
  refine wl ?_
  refine j0n (q0g hbe rfl ⟨.w rfl rfl, .w rfl rfl, trivial⟩ (flat_val _)) rfl ?_
  refine wl ?_
  (refine j0a rfl ?_ ?_ <;> intro hb <;> (try simp only [zA, zB, zG, zC, zD, zN] at hb) <;> (try exact zQ))
  ·have hes := V0e Y W false b' hYX zO hW0
   obtain ⟨he1, he2, he3⟩ := J1r hW0 (hb2.1 zO)
   obtain ⟨κ, hκ⟩ : ∃ κ : Nat, est Y W = κ := ⟨(est Y W).toNat, by omega⟩
   rw [hκ] at hes he1 he2 he3
   have hle : κ * W ≤ Y := by rw [← Int.natCast_mul] at he3; omega
   have hsub : (dd + κ) * W ≤ X := by rw [Nat.add_mul]; omega
   have hdk : dd + κ < 1000000000 := by
    refine Nat.lt_of_le_of_lt ?_ dw3
    rw [Nat.le_div_iff_mul_le hWp]; exact hsub
   have hcz := q1t false b' Y W (Y - κ * W) 0 (-(κ : Int)) hYX (by omega) (Nat.le_trans (v0u (Nat.sub_le _ _)) hYX) (by omega) (by rw [Int.natCast_sub hle, Int.natCast_mul]; simp; grind)
   refine wl ?_
   refine j0n (q0g hes rfl ⟨.w rfl rfl, .w rfl rfl, trivial⟩ (flat_val _)) rfl ?_
   refine wl ?_
   refine j0u (j0h [(1000, 8), (1001, 1001)] hcz rfl ⟨rfl, rfl, trivial⟩ rfl) rfl ?_
   refine wl ?_
   have hκ0 : 0 < κ * W := Nat.mul_pos zO hWp
   exact j0c (g := (Y, dd)) (Y - κ * W, dd + κ) (by show X = Y - κ * W + (dd + κ) * W; rw [Nat.add_mul]; omega) (by show Y - κ * W < Y; omega) (ent ⟨.refl _, .refl _, .refl _, .refl _, .refl _, .int (by show (dd : Int) + κ = ((dd + κ : Nat) : Int); omega), trivial⟩ zT)
  ·have hlt : Y < W := by omega
   have q1 : X % W = Y := by rw [hY, Nat.add_mul_mod_self_right, Nat.mod_eq_of_lt hlt]
   have q2 : X / W = dd := by rw [hY, Nat.add_mul_div_right _ _ hWp, Nat.div_eq_of_lt hlt, Nat.zero_add]
   rw [q2] at hqd
   rw [q1] at dw1
   have hmx : ((max n (j + 1) : Nat) : Int) = if (n : Int) < (j : Int) + 1 then (j : Int) + 1 else n := by split <;> omega
   refine wl ?_
   exact j0c (g := (j + 1, n)) (j, max n (j + 1)) ⟨by show j ≤ nw V; omega, by show max n (j + 1) ≤ 231; omega, .inl (by show nw (V / W) ≤ max n (j + 1); omega)⟩ (by show j < j + 1; omega) (ent zS ⟨⟨_, rfl, by
    dsimp only
    rw [hmx, show hiq (V / W) j = _ from (k0C (Q := V / W) (k := j)).symm, hqd]
    exact .refl _⟩, ⟨_, rfl, by
    dsimp only
    rw [← dw1]
    exact .refl _⟩, ⟨_, rfl, .refl _⟩, ⟨_, rfl, .refl _⟩, trivial⟩)
 ·obtain rfl : k = 0 := by omega
  rw [k0D, Nat.pow_zero, Nat.div_one]
  have ht := w0g false n (nw (V / W)) (wd (V / W)) zO zO (fun i h _ => v0j h) (by
   by_cases h0 : V / W = 0
   ·left; rw [h0, q0z]
   ·exact .inr (y0d h0))
  refine wl ?_
  refine j0u (j0h [(1000, 7)] ht rfl ⟨rfl, trivial⟩ rfl) rfl ?_
  refine wl ?_
  exact j0U (T' := [(4, .own 7 0), (5, .own 8 0)]) (O' := [(7, .wi false (nw (V / W)) (wd (V / W))), (8, .wi false (nw (V % W)) (wd (V % W))), (1000, .wi b (nw V) (wd V)), (1001, .wi b' (nw W) (wd W))]) (ent zS zT) (K0q (c1 := .own 7 0) (c2 := .own 8 0) rfl rfl rfl rfl rfl)
theorem wd0 {V : Nat} (h : nw V ≤ 1) : wd V 0 = V := by
 have := J0d 1 V (Nat.lt_of_lt_of_le (w0f V) (Nat.pow_le_pow_right zE h))
 simpa [vw] using this
theorem Q1I (m n : Int) (hm : LI 1000 m) (hn : LI 1000 n) : CtrA Tryz.prog 154 [vI m, vI n] (j0x [vI (Nat.gcd m.natAbs n.natAbs : Nat), vi 0]) := by
 have h00 := Q0Y m n hm hn
 have n1 := X0T (j := 112) hm zE
 have n2 := X0T (j := 112) hn zE
 have r1 := y0t m (Nat.le_trans (hm.len zE) zE)
 have r2 := y0t n (Nat.le_trans (hn.len zE) zE)
 generalize m.natAbs = M at *
 generalize n.natAbs = N at *
 refine j0p _ Tryz.func154 rfl rfl Tryz.ntmps154 rfl fun w Z => ?_
 refine zU ?_
 refine wl ?_
 refine j0n (v0M rfl rfl) rfl ?_
 refine wl ?_
 refine j0u (j0h [(7, 20)] r1 rfl trivial rfl) rfl ?_
 refine wl ?_
 refine j0u (j0h [(7, 21)] r2 rfl trivial rfl) rfl ?_
 refine wl ?_
 refine j0f (γ := (Bool × Bool) × (Nat × Nat)) (fun q => [(7, .own 20 0), (8, .own 21 0)]) (fun q => [(20, .wi q.1.1 (nw q.2.1) (wd q.2.1)), (21, .wi q.1.2 (nw q.2.2) (wd q.2.2))]) (fun q => Nat.gcd q.2.1 q.2.2 = Nat.gcd M N ∧ nw q.2.1 ≤ 112 ∧ nw q.2.2 ≤ 112) (fun q => q.2.2) ((decide (m < 0), decide (n < 0)), (M, N)) ⟨rfl, n1, n2⟩ (ent zS zT) ?_
 rintro ⟨⟨bx, by'⟩, x, y⟩ ⟨k1, k2, k3⟩
 dsimp only at k1 k2 k3 ⊢
 have hy := V0x (V := y)
 refine wl ?_
 (refine j0a rfl ?_ ?_ <;> intro hb <;> (try simp only [zA, zB, zG, zC, zD, zN] at hb) <;> (try exact zQ))
 ·refine wl ?_
  by_cases hs : nw x ≤ 1 ∧ nw y ≤ 1
  ·have e1 := wd0 hs.1
   have e2 := wd0 hs.2
   have q1 := q0r x 0
   have q2 := q0r y 0
   have hB : Na.B = 1000000000 := rfl
   rw [hB, e1] at q1
   rw [hB, e2] at q2
   (first | refine j0l rfl rfl ?_ ?_ | refine j0t rfl rfl ?_ ?_) <;> intro hb <;> (try simp only [zA, zB, zG, zC, zD, zN] at hb) <;> (try exact zQ)
   refine wl ?_
   (refine j0a rfl ?_ ?_ <;> intro hb <;> (try simp only [zA, zB, zG, zC, zD, zN] at hb) <;> (try exact zQ))
   refine wl ?_
   rw [e1, e2]
   refine j0f (γ := Nat × Nat) (fun q => [(9, .av (vi q.1)), (10, .av (vi q.2))]) (fun _ => []) (fun q => Nat.gcd q.1 q.2 = Nat.gcd M N ∧ q.1 < 1000000000 ∧ q.2 < 1000000000) (fun q => q.2) (x, y) ⟨k1, by dsimp only; omega, by dsimp only; omega⟩ (ent zS trivial) ?_
   rintro ⟨x, y⟩ ⟨k1, k2, k3⟩
   dsimp only at k1 k2 k3 ⊢
   refine wl ?_
   (refine j0a rfl ?_ ?_ <;> intro hb <;> (try simp only [zA, zB, zG, zC, zD, zN] at hb) <;> (try exact zQ))
   ·refine wl ?_
    exact j0c (g := (x, y)) (y, x % y) ⟨by show Nat.gcd y (x % y) = _; rw [y0X x y (by omega), k1], k3, by show x % y < _; have := Nat.mod_lt x (show y > 0 by omega); omega⟩ (by show x % y < y; exact Nat.mod_lt _ (by omega)) (ent ⟨.refl _, .int (by dsimp only; omega), trivial⟩ trivial)
   ·obtain rfl : y = 0 := by omega
    rw [Nat.gcd_zero_right] at k1
    have hof := X0j x zO
    refine wl ?_
    exact j0A (rvs := [_, _]) (τs := [_, _]) rfl rfl ⟨.tmp rfl, .tmp rfl, trivial⟩ (by rw [k1])
  ·(first | refine j0l rfl rfl ?_ ?_ | refine j0t rfl rfl ?_ ?_) <;> intro hb <;> (try simp only [zA, zB, zG, zC, zD, zN] at hb) <;> (try exact zQ)
   ·refine wl ?_
    (refine j0a rfl ?_ ?_ <;> intro hb <;> (try simp only [zA, zB, zG, zC, zD, zN] at hb) <;> (try exact zQ))
    have hd := V0J bx by' x y zO zO zO
    refine wl ?_
    refine j0u (j0h [(1000, 20), (1001, 21), (7, 22), (8, 23)] hd rfl ⟨rfl, rfl, trivial⟩ rfl) rfl ?_
    refine wl ?_
    refine j0n (j0S (s := .tupC [.own 22 0, .own 23 0]) rfl) rfl ?_
    refine wl ?_
    exact j0c (g := ((bx, by'), x, y)) ((by', false), (y, x % y)) ⟨by show Nat.gcd y (x % y) = _; rw [y0X x y (by omega), k1], k3, Nat.le_trans (v0u (Nat.mod_le _ _)) k2⟩ (by show x % y < y; exact Nat.mod_lt _ (by omega)) (v1e [(20, 21), (21, 23)] ⟨rfl, rfl, trivial⟩ ⟨rfl, rfl, trivial⟩ rfl rfl)
   ·have hd := V0J bx by' x y zO zO zO
    refine wl ?_
    refine j0u (j0h [(1000, 20), (1001, 21), (7, 22), (8, 23)] hd rfl ⟨rfl, rfl, trivial⟩ rfl) rfl ?_
    refine wl ?_
    refine j0n (j0S (s := .tupC [.own 22 0, .own 23 0]) rfl) rfl ?_
    refine wl ?_
    exact j0c (g := ((bx, by'), x, y)) ((by', false), (y, x % y)) ⟨by show Nat.gcd y (x % y) = _; rw [y0X x y (by omega), k1], k3, Nat.le_trans (v0u (Nat.mod_le _ _)) k2⟩ (by show x % y < y; exact Nat.mod_lt _ (by omega)) (v1e [(20, 21), (21, 23)] ⟨rfl, rfl, trivial⟩ ⟨rfl, rfl, trivial⟩ rfl rfl)
 ·obtain rfl : y = 0 := by omega
  rw [Nat.gcd_zero_right] at k1
  have t1 := z0J false x zO
  refine wl ?_
  refine j0n (q0g t1 rfl ⟨.w rfl rfl, trivial⟩ (flat_val _)) rfl ?_
  refine wl ?_
  exact j0A (rvs := [_, _]) (τs := [_, _]) rfl rfl ⟨.tmp rfl, .tmp rfl, trivial⟩ (by rw [← k1]; rfl)
theorem z1b {a b : List UInt8} (h : (47 : UInt8) ∉ a) : Lib.index (a ++ 47 :: b) [47] = a.length := by
 refine Lib.index_first (by simp) (by simp [Lib.occAt]) fun j hj => ?_
 have h1 : a[j] ≠ 47 := fun e => h (e ▸ List.getElem_mem hj)
 simp only [Lib.occAt]
 rw [List.drop_append_of_le_length (by omega), List.drop_eq_getElem_cons hj]
 show ((47 == a[j]) && _) = false
 rw [beq_eq_false_iff_ne.2 (Ne.symm h1)]; rfl
theorem j1l {a : List UInt8} (h : (47 : UInt8) ∉ a) : Lib.index a [47] = -1 := by
 refine Lib.index_none fun j hj => ?_
 simp only [Lib.occAt]
 by_cases hl : j < a.length
 ·have h1 : a[j] ≠ 47 := fun e => h (e ▸ List.getElem_mem hl)
  rw [List.drop_eq_getElem_cons hl]
  show ((47 == a[j]) && _) = false
  rw [beq_eq_false_iff_ne.2 (Ne.symm h1)]; rfl
 ·rw [List.drop_eq_nil_of_le (by omega)]
  rfl
theorem q1N (q : Rat) : Lib.cut (rtx q) [47] = if q.den = 1 then (itoa q.num, [], false) else (itoa q.num, decDigits q.den, true) := by
 unfold Lib.cut rtx
 split
 ·rw [j1l (w1c q.num), if_neg (by omega)]
 ·rw [z1b (w1c q.num), if_pos (by omega)]
  simp
theorem LR.tlen {q : Rat} (h : LR 1000 q) : (rtx q).length ≤ 2003 := by
 have h1 := h.1.len zE
 have h2 := h.2.len zE
 have h3 : (itoa q.num).length ≤ 1001 := by
  by_cases hn : q.num < 0
  ·rw [itoa_neg hn]; simp; omega
  ·rw [itoa_pos hn]; omega
 unfold rtx
 split
 ·omega
 ·rw [List.length_append, List.length_cons]
  rw [Int.natAbs_natCast] at h2
  omega
theorem J0s : itoa 1 = [49] := by
 rw [itoa_pos (by decide)]
 show decDigits 1 = _
 rw [decDigits]; rfl
theorem j2J (q : Rat) (h : LR 1000 q) (hd : q.den = 1) : CtrA Tryz.prog 104 [vR q] (j0x [vI q.num, vS [49], vb false]) := by
 have h1 := Y1C (rtx q) (by have := LR.tlen h; omega)
 rw [q1N, if_pos hd] at h1
 refine j0p _ Tryz.func104 rfl rfl Tryz.ntmps104 rfl fun w Z => ?_
 refine zU ?_
 refine wl ?_
 exact zX
theorem j2K (q : Rat) (h : LR 1000 q) (hd : q.den ≠ 1) : CtrA Tryz.prog 104 [vR q] (j0x [vI q.num, vI q.den, vb true]) := by
 have h1 := Y1C (rtx q) (by have := LR.tlen h; omega)
 rw [q1N, if_neg hd, ← v0y] at h1
 refine j0p _ Tryz.func104 rfl rfl Tryz.ntmps104 rfl fun w Z => ?_
 refine zU ?_
 refine wl ?_
 exact zX
theorem K0b (q : Rat) (h : LR 1000 q) : CtrA Tryz.prog 104 [vR q] (j0x [vI q.num, vI q.den, vb (decide (q.den ≠ 1))]) := by
 by_cases hd : q.den = 1
 ·have := j2J q h hd
  have e : vI (q.den : Int) = vS [49] := by rw [hd]; exact congrArg vS J0s
  rw [e, decide_eq_false (by simpa using hd)]
  exact this
 ·rw [decide_eq_true hd]
  exact j2K q h hd
theorem w1I (m e : Int) (hm : LI 1000 m) (he : LI 1000 e) : CtrA Tryz.prog 156 [vI m, vI e] (vS (if e = 1 then itoa m else itoa m ++ 47 :: itoa e)) := by
 have l1 := hm.len zE
 have l2 := he.len zE
 have hl : ∀ k : Int, (decDigits k.natAbs).length ≤ 1000 → (itoa k).length ≤ 1001 := fun k hk => by
  by_cases hn : k < 0
  ·rw [itoa_neg hn]; simp; omega
  ·rw [itoa_pos hn]; omega
 have l3 := hl m l1
 have l4 := hl e l2
 have e1 : (itoa e == [49]) = decide (e = 1) := by
  rw [← J0s]
  by_cases h : e = 1
  ·subst h; simp
  ·rw [decide_eq_false h, beq_eq_false_iff_ne]
   exact fun h2 => h (x0b h2)
 by_cases h : e = 1
 ·rw [if_pos h]
  rw [decide_eq_true h] at e1
  refine j0p _ Tryz.func156 rfl rfl Tryz.ntmps156 rfl fun w Z => ?_
  refine zU ?_
  refine wl ?_
  rw [e1]
  refine wl ?_
  exact zV
 ·rw [if_neg h]
  rw [decide_eq_false h] at e1
  refine j0p _ Tryz.func156 rfl rfl Tryz.ntmps156 rfl fun w Z => ?_
  refine zU ?_
  refine wl ?_
  rw [e1]
  refine wl ?_
  refine j0n (x0n (l := itoa m) (m := [47]) rfl rfl (by simp only [List.length_cons, List.length_nil]; omega)) rfl ?_
  refine wl ?_
  refine j0n (x0n (l := itoa m ++ [47]) (m := itoa e) rfl rfl (by simp only [List.length_append, List.length_cons, List.length_nil]; omega)) rfl ?_
  refine wl ?_
  exact j0e rfl (.tmp rfl) (by rw [List.append_assoc]; rfl)
end Go.Proofs.YtgblokifbgeegaaGreatDoor
