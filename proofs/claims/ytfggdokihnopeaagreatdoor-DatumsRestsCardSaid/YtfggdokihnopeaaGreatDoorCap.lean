/- A part of the proof. -/
import Derived.Calls
import Derived.Test.YtfggdokihnopeaaGreatDoorCai
import Derived.Test.YtfggdokihnopeaaGreatDoorCaj
import Derived.Test.YtfggdokihnopeaaGreatDoorCao
set_option linter.unusedVariables false
set_option linter.unusedSimpArgs false
namespace Go.Proofs.YtfggdokihnopeaaGreatDoor
open Go Go.Vc Go.RowKit Go.Na Go.Lib
set_option maxHeartbeats 4000000
theorem Q0X (b b' : Bool) (V W : Nat) (hV : nw V ≤ 231) (hW : nw W ≤ 231) (hW0 : W ≠ 0) :
  CtrH Tryz.prog 230 [.own 1000 0, .own 1001 0] [(1000, .wi b (nw V) (wd V)), (1001, .wi b' (nw W) (wd W))] (.tupC [.own 7 0, .own 8 0]) [(7, .wi false (nw (V / W)) (wd (V / W))), (8, .wi false (nw (V % W)) (wd (V % W))), (1000, .wi b (nw V) (wd V)), (1001, .wi b' (nw W) (wd W))] := by
 have hWp : 0 < W := Nat.pos_of_ne_zero hW0
 have hnr : ∀ k, nw (V / 1000000000 ^ k % W) ≤ nw W := fun k => v0s (Nat.le_of_lt (Nat.mod_lt _ hWp))
 have hnq : nw (V / W) ≤ nw V := v0s (Nat.div_le_self _ _)
 refine Q0i _ Tryz.func230 rfl rfl Tryz.ntmps230 rfl rfl fun w Z ν => ?_
 refine zU ?_
 refine wl ?_
 refine j0j (j0m (is := []) (xs := []) (vs := []) v1M rfl rfl) rfl ?_
 refine j0A (x0R 7 rfl rfl) rfl ?_
 refine j0j (j0m (is := []) (xs := []) (vs := []) v1M rfl rfl) rfl ?_
 refine j0A (x0R 8 rfl rfl) rfl ?_
 refine wl ?_
 refine j0g (γ := Nat × Nat) (fun q => [(0, .own 1000 0), (1, .own 1001 0), (6, .own 7 0), (7, .own 8 0), (8, .av (vi ((q.1 : Int) - 1)))]) (fun q => [(7, .wi false q.2 (hiq (V / W) q.1)), (8, .wi false (nw (V / 1000000000 ^ q.1 % W)) (wd (V / 1000000000 ^ q.1 % W))), (1000, .wi b (nw V) (wd V)), (1001, .wi b' (nw W) (wd W))]) (fun q => q.1 ≤ nw V ∧ q.2 ≤ 231 ∧ (nw (V / W) ≤ q.2 ∨ q.1 = nw V ∧ 0 < nw V)) (fun q => q.1) (nw V, 0) ⟨by show _ ≤ _; omega, by show _ ≤ _; omega, by show nw (V / W) ≤ 0 ∨ nw V = nw V ∧ 0 < nw V; omega⟩ (ent ⟨.refl _, .refl _, .refl _, .refl _, .int (by show _ = _; omega), trivial⟩ ⟨⟨_, rfl, by
  rw [q1c hnq]; exact .refl _⟩, ⟨_, rfl, by
  rw [show V / 1000000000 ^ (nw V) % W = 0 by rw [Nat.div_eq_of_lt (v0P V), Nat.zero_mod], q0I, Y1m]
  exact .refl _⟩, ⟨_, rfl, .refl _⟩, ⟨_, rfl, .refl _⟩, trivial⟩) ?_
 rintro ⟨k, n⟩ ⟨hk, hn, hqn⟩
 dsimp only at hk hn hqn ⊢
 refine wl ?_
 (refine j0a rfl ?_ ?_ <;> intro hb <;> (try simp only [zA, zB, zG, zC, zD, zN] at hb) <;> (try exact zQ))
 ·obtain ⟨j, rfl⟩ : ∃ j, k = j + 1 := ⟨k - 1, by omega⟩
  have e : ((j + 1 : Nat) : Int) - 1 = j := by omega
  rw [e]
  obtain ⟨dw1, dw2, dw3⟩ := Z0j (V := V) (W := W) (k := j) hW0
  have hwd : wd V j = ((V / 1000000000 ^ j % 1000000000 : Nat) : Int) := rfl
  have hd : V / 1000000000 ^ j % 1000000000 < 1000000000 := Nat.mod_lt _ zE
  have hqd : wd (V / W) j = ((V / W / 1000000000 ^ j % 1000000000 : Nat) : Int) := rfl
  have hr1 := hnr (j + 1)
  have hmr : V / 1000000000 ^ (j + 1) % W < W := Nat.mod_lt _ hWp
  rw [← dw2] at hqd
  generalize V / 1000000000 ^ (j + 1) % W = R at *
  have hup := v1t (R := R) hd
  have hnx := W1H (R := R) hd
  rw [← hwd] at hup
  generalize V / 1000000000 ^ j % 1000000000 = dg at *
  have ht := v0T false (nw R + 1) (nw (R * 1000000000 + dg)) (wd (R * 1000000000 + dg)) hnx zO (fun i h _ => v0i h) (by
   by_cases h0 : R * 1000000000 + dg = 0
   ·left; rw [h0, q0I]
   ·exact .inr (x0N h0))
  generalize R * 1000000000 + dg = X at *
  refine wl ?_
  refine q0H (x0T (l := 1) (h := 232) rfl rfl ⟨_, _, rfl, rfl⟩ rfl zE zE zE) rfl ?_
  refine wl ?_
  refine q0H (z0o (h := nw R) rfl rfl rfl zO zE) rfl ?_
  refine wl ?_
  refine y0j (Z0B (m := nw R) rfl rfl rfl zO) rfl ?_
  refine wl ?_
  refine y0b (x0y 0 rfl rfl rfl rfl zE) ?_
  refine wl ?_
  refine j0z (J1v 8 (n' := ((nw R + 1 : Nat) : Int)) (f' := wd X) rfl rfl zO hup) ?_
  refine j0A (j0o [(1000, 8)] ht rfl ⟨rfl, trivial⟩ rfl) rfl ?_
  refine wl ?_
  refine j0g (γ := Nat × Nat) (fun q => [(0, .own 1000 0), (1, .own 1001 0), (6, .own 7 0), (7, .own 8 0), (8, .av (vi j)), (9, .av (vi q.2))]) (fun q => [(7, .wi false n (hiq (V / W) (j + 1))), (8, .wi false (nw q.1) (wd q.1)), (1000, .wi b (nw V) (wd V)), (1001, .wi b' (nw W) (wd W))]) (fun q => X = q.1 + q.2 * W) (fun q => q.1) (X, 0) (by show X = X + 0 * W; omega) (ent zS zT) ?_
  rintro ⟨Y, dd⟩ hY
  dsimp only at hY ⊢
  have hYX : nw Y ≤ 232 := Nat.le_trans (v0s (by omega : Y ≤ X)) zO
  have hbe := z0F Y W false b' hYX zO
  have hb2 := j1e Y W
  have hdd : dd < 1000000000 := by
   refine Nat.lt_of_le_of_lt ?_ dw3
   rw [Nat.le_div_iff_mul_le hWp]; omega
  refine wl ?_
  refine j0j (q0l hbe rfl ⟨.w rfl rfl, .w rfl rfl, trivial⟩ (q0C _)) rfl ?_
  refine wl ?_
  (refine j0a rfl ?_ ?_ <;> intro hb <;> (try simp only [zA, zB, zG, zC, zD, zN] at hb) <;> (try exact zQ))
  ·have hes := Q0u Y W false b' hYX zO hW0
   obtain ⟨he1, he2, he3⟩ := y1G hW0 (hb2.1 zO)
   obtain ⟨κ, hκ⟩ : ∃ κ : Nat, est Y W = κ := ⟨(est Y W).toNat, by omega⟩
   rw [hκ] at hes he1 he2 he3
   have hle : κ * W ≤ Y := by rw [← Int.natCast_mul] at he3; omega
   have hsub : (dd + κ) * W ≤ X := by rw [Nat.add_mul]; omega
   have hdk : dd + κ < 1000000000 := by
    refine Nat.lt_of_le_of_lt ?_ dw3
    rw [Nat.le_div_iff_mul_le hWp]; exact hsub
   have hcz := j1l false b' Y W (Y - κ * W) 0 (-(κ : Int)) hYX (by omega) (Nat.le_trans (v0s (Nat.sub_le _ _)) hYX) (by omega) (by rw [Int.natCast_sub hle, Int.natCast_mul]; simp; grind)
   refine wl ?_
   refine j0j (q0l hes rfl ⟨.w rfl rfl, .w rfl rfl, trivial⟩ (q0C _)) rfl ?_
   refine wl ?_
   refine j0A (j0o [(1000, 8), (1001, 1001)] hcz rfl ⟨rfl, rfl, trivial⟩ rfl) rfl ?_
   refine wl ?_
   have hκ0 : 0 < κ * W := Nat.mul_pos zO hWp
   exact j0b (g := (Y, dd)) (Y - κ * W, dd + κ) (by show X = Y - κ * W + (dd + κ) * W; rw [Nat.add_mul]; omega) (by show Y - κ * W < Y; omega) (ent ⟨.refl _, .refl _, .refl _, .refl _, .refl _, .int (by show (dd : Int) + κ = ((dd + κ : Nat) : Int); omega), trivial⟩ zT)
  ·have hlt : Y < W := by omega
   have q1 : X % W = Y := by rw [hY, Nat.add_mul_mod_self_right, Nat.mod_eq_of_lt hlt]
   have q2 : X / W = dd := by rw [hY, Nat.add_mul_div_right _ _ hWp, Nat.div_eq_of_lt hlt, Nat.zero_add]
   rw [q2] at hqd
   rw [q1] at dw1
   have hmx : ((max n (j + 1) : Nat) : Int) = if (n : Int) < (j : Int) + 1 then (j : Int) + 1 else n := by split <;> omega
   refine wl ?_
   exact j0b (g := (j + 1, n)) (j, max n (j + 1)) ⟨by show j ≤ nw V; omega, by show max n (j + 1) ≤ 231; omega, .inl (by show nw (V / W) ≤ max n (j + 1); omega)⟩ (by show j < j + 1; omega) (ent zS ⟨⟨_, rfl, by
    dsimp only
    rw [hmx, show hiq (V / W) j = _ from (Z0G (Q := V / W) (k := j)).symm, hqd]
    exact .refl _⟩, ⟨_, rfl, by
    dsimp only
    rw [← dw1]
    exact .refl _⟩, ⟨_, rfl, .refl _⟩, ⟨_, rfl, .refl _⟩, trivial⟩)
 ·obtain rfl : k = 0 := by omega
  rw [Z0H, Nat.pow_zero, Nat.div_one]
  have ht := v0T false n (nw (V / W)) (wd (V / W)) zO zO (fun i h _ => v0i h) (by
   by_cases h0 : V / W = 0
   ·left; rw [h0, q0I]
   ·exact .inr (x0N h0))
  refine wl ?_
  refine j0A (j0o [(1000, 7)] ht rfl ⟨rfl, trivial⟩ rfl) rfl ?_
  refine wl ?_
  exact q0k (T' := [(4, .own 7 0), (5, .own 8 0)]) (O' := [(7, .wi false (nw (V / W)) (wd (V / W))), (8, .wi false (nw (V % W)) (wd (V % W))), (1000, .wi b (nw V) (wd V)), (1001, .wi b' (nw W) (wd W))]) (ent zS zT) (k0q (c1 := .own 7 0) (c2 := .own 8 0) rfl rfl rfl rfl rfl)
theorem wd0 {V : Nat} (h : nw V ≤ 1) : wd V 0 = V := by
 have := z0B 1 V (Nat.lt_of_lt_of_le (v0P V) (Nat.pow_le_pow_right zE h))
 simpa [vw] using this
theorem w1f (m n : Int) (hm : LI 1000 m) (hn : LI 1000 n) : CtrA Tryz.prog 167 [vI m, vI n] (j0x [vI (Nat.gcd m.natAbs n.natAbs : Nat), vi 0]) := by
 have h00 := Q0l m n hm hn
 have n1 := X0h (j := 112) hm zE
 have n2 := X0h (j := 112) hn zE
 have r1 := x0Z m (Nat.le_trans (hm.len zE) zE)
 have r2 := x0Z n (Nat.le_trans (hn.len zE) zE)
 generalize m.natAbs = M at *
 generalize n.natAbs = N at *
 refine j0s _ Tryz.func167 rfl rfl Tryz.ntmps167 rfl fun w Z => ?_
 refine zU ?_
 refine wl ?_
 refine j0j (v0C rfl rfl) rfl ?_
 refine wl ?_
 refine j0A (j0o [(7, 20)] r1 rfl trivial rfl) rfl ?_
 refine wl ?_
 refine j0A (j0o [(7, 21)] r2 rfl trivial rfl) rfl ?_
 refine wl ?_
 refine j0g (γ := (Bool × Bool) × (Nat × Nat)) (fun q => [(7, .own 20 0), (8, .own 21 0)]) (fun q => [(20, .wi q.1.1 (nw q.2.1) (wd q.2.1)), (21, .wi q.1.2 (nw q.2.2) (wd q.2.2))]) (fun q => Nat.gcd q.2.1 q.2.2 = Nat.gcd M N ∧ nw q.2.1 ≤ 112 ∧ nw q.2.2 ≤ 112) (fun q => q.2.2) ((decide (m < 0), decide (n < 0)), (M, N)) ⟨rfl, n1, n2⟩ (ent zS zT) ?_
 rintro ⟨⟨bx, by'⟩, x, y⟩ ⟨k1, k2, k3⟩
 dsimp only at k1 k2 k3 ⊢
 have hy := Q0N (V := y)
 refine wl ?_
 (refine j0a rfl ?_ ?_ <;> intro hb <;> (try simp only [zA, zB, zG, zC, zD, zN] at hb) <;> (try exact zQ))
 ·refine wl ?_
  by_cases hs : nw x ≤ 1 ∧ nw y ≤ 1
  ·have e1 := wd0 hs.1
   have e2 := wd0 hs.2
   have q1 := q0s x 0
   have q2 := q0s y 0
   have hB : Na.B = 1000000000 := rfl
   rw [hB, e1] at q1
   rw [hB, e2] at q2
   (first | refine j0f rfl rfl ?_ ?_ | refine j0e rfl rfl ?_ ?_) <;> intro hb <;> (try simp only [zA, zB, zG, zC, zD, zN] at hb) <;> (try exact zQ)
   refine wl ?_
   (refine j0a rfl ?_ ?_ <;> intro hb <;> (try simp only [zA, zB, zG, zC, zD, zN] at hb) <;> (try exact zQ))
   refine wl ?_
   rw [e1, e2]
   refine j0g (γ := Nat × Nat) (fun q => [(9, .av (vi q.1)), (10, .av (vi q.2))]) (fun _ => []) (fun q => Nat.gcd q.1 q.2 = Nat.gcd M N ∧ q.1 < 1000000000 ∧ q.2 < 1000000000) (fun q => q.2) (x, y) ⟨k1, by dsimp only; omega, by dsimp only; omega⟩ (ent zS trivial) ?_
   rintro ⟨x, y⟩ ⟨k1, k2, k3⟩
   dsimp only at k1 k2 k3 ⊢
   refine wl ?_
   (refine j0a rfl ?_ ?_ <;> intro hb <;> (try simp only [zA, zB, zG, zC, zD, zN] at hb) <;> (try exact zQ))
   ·refine wl ?_
    exact j0b (g := (x, y)) (y, x % y) ⟨by show Nat.gcd y (x % y) = _; rw [y0r x y (by omega), k1], k3, by show x % y < _; have := Nat.mod_lt x (show y > 0 by omega); omega⟩ (by show x % y < y; exact Nat.mod_lt _ (by omega)) (ent ⟨.refl _, .int (by dsimp only; omega), trivial⟩ trivial)
   ·obtain rfl : y = 0 := by omega
    rw [Nat.gcd_zero_right] at k1
    have hof := W0s x zO
    refine wl ?_
    exact j0t (rvs := [_, _]) (τs := [_, _]) rfl rfl ⟨.tmp rfl, .tmp rfl, trivial⟩ (by rw [k1])
  ·(first | refine j0f rfl rfl ?_ ?_ | refine j0e rfl rfl ?_ ?_) <;> intro hb <;> (try simp only [zA, zB, zG, zC, zD, zN] at hb) <;> (try exact zQ)
   ·refine wl ?_
    (refine j0a rfl ?_ ?_ <;> intro hb <;> (try simp only [zA, zB, zG, zC, zD, zN] at hb) <;> (try exact zQ))
    have hd := Q0X bx by' x y zO zO zO
    refine wl ?_
    refine j0A (j0o [(1000, 20), (1001, 21), (7, 22), (8, 23)] hd rfl ⟨rfl, rfl, trivial⟩ rfl) rfl ?_
    refine wl ?_
    refine j0j (j0V (s := .tupC [.own 22 0, .own 23 0]) rfl) rfl ?_
    refine wl ?_
    exact j0b (g := ((bx, by'), x, y)) ((by', false), (y, x % y)) ⟨by show Nat.gcd y (x % y) = _; rw [y0r x y (by omega), k1], k3, Nat.le_trans (v0s (Nat.mod_le _ _)) k2⟩ (by show x % y < y; exact Nat.mod_lt _ (by omega)) (j1H [(20, 21), (21, 23)] ⟨rfl, rfl, trivial⟩ ⟨rfl, rfl, trivial⟩ rfl rfl)
   ·have hd := Q0X bx by' x y zO zO zO
    refine wl ?_
    refine j0A (j0o [(1000, 20), (1001, 21), (7, 22), (8, 23)] hd rfl ⟨rfl, rfl, trivial⟩ rfl) rfl ?_
    refine wl ?_
    refine j0j (j0V (s := .tupC [.own 22 0, .own 23 0]) rfl) rfl ?_
    refine wl ?_
    exact j0b (g := ((bx, by'), x, y)) ((by', false), (y, x % y)) ⟨by show Nat.gcd y (x % y) = _; rw [y0r x y (by omega), k1], k3, Nat.le_trans (v0s (Nat.mod_le _ _)) k2⟩ (by show x % y < y; exact Nat.mod_lt _ (by omega)) (j1H [(20, 21), (21, 23)] ⟨rfl, rfl, trivial⟩ ⟨rfl, rfl, trivial⟩ rfl rfl)
 ·obtain rfl : y = 0 := by omega
  rw [Nat.gcd_zero_right] at k1
  have t1 := z0j false x zO
  refine wl ?_
  refine j0j (q0l t1 rfl ⟨.w rfl rfl, trivial⟩ (q0C _)) rfl ?_
  refine wl ?_
  exact j0t (rvs := [_, _]) (τs := [_, _]) rfl rfl ⟨.tmp rfl, .tmp rfl, trivial⟩ (by rw [← k1]; rfl)
theorem Z0J {a b : List UInt8} (h : (47 : UInt8) ∉ a) : Lib.index (a ++ 47 :: b) [47] = a.length := by
 refine Lib.index_first (by simp) (by simp [Lib.occAt]) fun j hj => ?_
 have h1 : a[j] ≠ 47 := fun e => h (e ▸ List.getElem_mem hj)
 simp only [Lib.occAt]
 rw [List.drop_append_of_le_length (by omega), List.drop_eq_getElem_cons hj]
 show ((47 == a[j]) && _) = false
 rw [beq_eq_false_iff_ne.2 (Ne.symm h1)]; rfl
theorem Q0H {a : List UInt8} (h : (47 : UInt8) ∉ a) : Lib.index a [47] = -1 := by
 refine Lib.index_none fun j hj => ?_
 simp only [Lib.occAt]
 by_cases hl : j < a.length
 ·have h1 : a[j] ≠ 47 := fun e => h (e ▸ List.getElem_mem hl)
  rw [List.drop_eq_getElem_cons hl]
  show ((47 == a[j]) && _) = false
  rw [beq_eq_false_iff_ne.2 (Ne.symm h1)]; rfl
 ·rw [List.drop_eq_nil_of_le (by omega)]
  rfl
theorem j1u (q : Rat) : Lib.cut (rtx q) [47] = if q.den = 1 then (itoa q.num, [], false) else (itoa q.num, decDigits q.den, true) := by
 unfold Lib.cut rtx
 split
 ·rw [Q0H (q1u q.num), if_neg (by omega)]
 ·rw [Z0J (q1u q.num), if_pos (by omega)]
  simp
theorem LR.tlen {q : Rat} (h : LR 1000 q) : (rtx q).length ≤ 2003 := by
 have h1 := h.1.len zE
 have h2 := h.2.len zE
 have h3 : (itoa q.num).length ≤ 1001 := by
  by_cases hn : q.num < 0
  ·rw [itoa_neg hn]; simp; omega
  ·rw [j0E hn]; omega
 unfold rtx
 split
 ·omega
 ·rw [List.length_append, List.length_cons]
  rw [Int.natAbs_natCast] at h2
  omega
theorem z0T : itoa 1 = [49] := by
 rw [j0E (by decide)]
 show decDigits 1 = _
 rw [decDigits]; rfl
theorem Z1F (q : Rat) (h : LR 1000 q) (hd : q.den = 1) : CtrA Tryz.prog 164 [vR q] (j0x [vI q.num, vS [49], vb false]) := by
 have h1 := J1p (rtx q) (by have := LR.tlen h; omega)
 rw [j1u, if_pos hd] at h1
 refine j0s _ Tryz.func164 rfl rfl Tryz.ntmps164 rfl fun w Z => ?_
 refine zU ?_
 refine wl ?_
 exact zX
theorem Z1G (q : Rat) (h : LR 1000 q) (hd : q.den ≠ 1) : CtrA Tryz.prog 164 [vR q] (j0x [vI q.num, vI q.den, vb true]) := by
 have h1 := J1p (rtx q) (by have := LR.tlen h; omega)
 rw [j1u, if_neg hd, ← v0d] at h1
 refine j0s _ Tryz.func164 rfl rfl Tryz.ntmps164 rfl fun w Z => ?_
 refine zU ?_
 refine wl ?_
 exact zX
theorem X0o (q : Rat) (h : LR 1000 q) : CtrA Tryz.prog 164 [vR q] (j0x [vI q.num, vI q.den, vb (decide (q.den ≠ 1))]) := by
 by_cases hd : q.den = 1
 ·have := Z1F q h hd
  have e : vI (q.den : Int) = vS [49] := by rw [hd]; exact congrArg vS z0T
  rw [e, decide_eq_false (by simpa using hd)]
  exact this
 ·rw [decide_eq_true hd]
  exact Z1G q h hd
theorem X0q (m e : Int) (hm : LI 1000 m) (he : LI 1000 e) : CtrA Tryz.prog 221 [vI m, vI e] (vS (if e = 1 then itoa m else itoa m ++ 47 :: itoa e)) := by
 have l1 := hm.len zE
 have l2 := he.len zE
 have hl : ∀ k : Int, (decDigits k.natAbs).length ≤ 1000 → (itoa k).length ≤ 1001 := fun k hk => by
  by_cases hn : k < 0
  ·rw [itoa_neg hn]; simp; omega
  ·rw [j0E hn]; omega
 have l3 := hl m l1
 have l4 := hl e l2
 have e1 : (itoa e == [49]) = decide (e = 1) := by
  rw [← z0T]
  by_cases h : e = 1
  ·subst h; simp
  ·rw [decide_eq_false h, beq_eq_false_iff_ne]
   exact fun h2 => h (w0H h2)
 by_cases h : e = 1
 ·rw [if_pos h]
  rw [decide_eq_true h] at e1
  refine j0s _ Tryz.func221 rfl rfl Tryz.ntmps221 rfl fun w Z => ?_
  refine zU ?_
  refine wl ?_
  rw [e1]
  refine wl ?_
  exact zV
 ·rw [if_neg h]
  rw [decide_eq_false h] at e1
  refine j0s _ Tryz.func221 rfl rfl Tryz.ntmps221 rfl fun w Z => ?_
  refine zU ?_
  refine wl ?_
  rw [e1]
  refine wl ?_
  refine j0j (w0Z (l := itoa m) (m := [47]) rfl rfl (by simp only [List.length_cons, List.length_nil]; omega)) rfl ?_
  refine wl ?_
  refine j0j (w0Z (l := itoa m ++ [47]) (m := itoa e) rfl rfl (by simp only [List.length_append, List.length_cons, List.length_nil]; omega)) rfl ?_
  refine wl ?_
  exact j0c rfl (.tmp rfl) (by rw [List.append_assoc]; rfl)
abbrev E0 : Res := .vb [.int .i64 0]
theorem V1t (f : FuncId) (x y r : Int) (hc : CtrA Tryz.prog f [vI x, vI y] (j0x [vI r, vi 0])) : CtrH Tryz.prog 170 [.own 1000 0, .av (.val (.func (.func f) #[] #[])), .av (vI x), .av (vI y)] [(1000, E0)] (.av (vI r)) [(1000, E0)] := by
 refine Q0i _ Tryz.func170 rfl rfl Tryz.ntmps170 rfl rfl fun w Z ν => ?_
 refine zU ?_
 refine wl ?_
 refine q0U (x0x rfl rfl rfl rfl zE rfl) ?_
 refine wl ?_
 exact q0k (T' := [(8, .av (vI r))]) (O' := [(1000, E0)]) (ent ⟨.refl _, trivial⟩ zT) (v0S rfl rfl rfl)
theorem X1b (x y : Int) (hx : LI 1000 x) (hy : LI 1000 y) (h : LI 1000 (x + y)) : CtrH Tryz.prog 138 [.own 1000 0, .av (vI x), .av (vI y)] [(1000, E0)] (.av (vI (x + y))) [(1000, E0)] := by
 have hc := V1t 205 x y _ (z1O x y hx hy h)
 refine Q0i _ Tryz.func138 rfl rfl Tryz.ntmps138 rfl rfl fun w Z ν => ?_
 refine zU ?_
 refine wl ?_
 refine j0A (j0o [] hc rfl ⟨rfl, trivial⟩ rfl) rfl ?_
 refine wl ?_
 exact q0k (T' := [(6, .av (vI (x + y)))]) (O' := [(1000, E0)]) (ent ⟨.refl _, trivial⟩ zT) (v0S rfl rfl rfl)
theorem z1j (x y : Int) (hx : LI 1000 x) (hy : LI 1000 y) (h : LI 1000 (x - y)) : CtrH Tryz.prog 100 [.own 1000 0, .av (vI x), .av (vI y)] [(1000, E0)] (.av (vI (x - y))) [(1000, E0)] := by
 have hc := V1t 171 x y _ (Y1c x y hx hy h)
 refine Q0i _ Tryz.func100 rfl rfl Tryz.ntmps100 rfl rfl fun w Z ν => ?_
 refine zU ?_
 refine wl ?_
 refine j0A (j0o [] hc rfl ⟨rfl, trivial⟩ rfl) rfl ?_
 refine wl ?_
 exact q0k (T' := [(6, .av (vI (x - y)))]) (O' := [(1000, E0)]) (ent ⟨.refl _, trivial⟩ zT) (v0S rfl rfl rfl)
def X0m (g : Nat → Int) : Nat → Int
 |0 => 1
 |i + 1 => X0m g i * g i
theorem X1d (n : Nat) (g : Nat → Int) (hn : n ≤ 1000000) (hg : ∀ i, i < n → LI 1000 (g i)) (hp : ∀ i, i ≤ n → LI 1000 (X0m g i)) : CtrH Tryz.prog 101 [.own 1000 0, .av (.sl n 1 (fun i _ => vI (g i)))] [(1000, E0)] (.av (vI (X0m g n))) [(1000, E0)] := by
 refine Q0i _ Tryz.func101 rfl rfl Tryz.ntmps101 rfl rfl fun w Z ν => ?_
 refine zU ?_
 refine wl ?_
 refine j0j (J1I (caps := [.own 1000 0]) rfl) rfl ?_
 refine wl ?_
 refine j0j (j0D (s := .fnC 170 [.own 1000 0]) rfl) rfl ?_
 refine wl ?_
 refine j0g (γ := Nat) (fun i => [(5, .av (vI (X0m g i))), (6, .fnC 170 [.own 1000 0]), (11, .av (.sl n 1 (fun i _ => vI (g i)))), (12, .av (vi n)), (13, .av (vi i))]) (fun _ => [(1000, E0)]) (fun i => i ≤ n) (fun i => n - i) 0 (Nat.zero_le _) (ent ⟨by
  show SLe (.av (vS [49])) (.av (vS (itoa 1)))
  rw [z0T]; exact .refl _, .refl _, .refl _, .refl _, .refl _, trivial⟩ zT) ?_
 intro i hi
 refine wl ?_
 (refine j0a rfl ?_ ?_ <;> intro hb <;> (try simp only [zA, zB, zG, zC, zD, zN] at hb) <;> (try exact zQ))
 ·have hc := V1t 172 (X0m g i) (g i) _ (X1Y _ _ (hp i hi) (hg i zO) (hp (i + 1) zO))
  refine wl ?_
  refine j0j (j0V (s := .fnC 170 [.own 1000 0]) rfl) rfl ?_
  refine wl ?_
  refine j0A (w1c [] hc rfl rfl ⟨rfl, trivial⟩ rfl) rfl ?_
  refine wl ?_
  exact j0b (i + 1) zO zO (ent zS zT)
 ·obtain rfl : i = n := by omega
  refine wl ?_
  exact v0S rfl rfl rfl
theorem W1x (d : Int) : decide ((itoa d).head? = some 45) = decide (d < 0) := by
 by_cases h : d < 0
 ·rw [itoa_neg h, decide_eq_true h]; rfl
 ·rw [j0E h, decide_eq_false h]
  obtain ⟨b, r, e, hb⟩ := z0L d.natAbs
  rw [e, decide_eq_false]
  intro h2
  simp at h2
  exact j1x hb h2
theorem vI0 : vI 0 = vS [48] := congrArg vS X0a
theorem X0r (n d : Int) (hn : LI 1000 n) (hdd : LI 1000 d) (hd : d ≠ 0) : CtrH Tryz.prog 169 [.own 1000 0, .av (vI n), .av (vI d)] [(1000, E0)] (.av (vR (Rat.divInt n d))) [(1000, E0)] := by
 have hg := V1t 167 n d _ (w1f n d hn hdd)
 have hgp : 0 < Nat.gcd n.natAbs d.natAbs := Nat.gcd_pos_of_pos_right _ zO
 have hgle : Nat.gcd n.natAbs d.natAbs ≤ d.natAbs := Nat.le_of_dvd zO (Nat.gcd_dvd_right _ _)
 have hgl : LI 1000 ((Nat.gcd n.natAbs d.natAbs : Nat) : Int) := hdd.le zO
 have hpre := W1w (itoa d)
 rw [W1x] at hpre
 have key : ∀ G : Int, G = (if d < 0 then -((Int.gcd n d : Nat) : Int) else ((Int.gcd n d : Nat) : Int)) → ∃ a b : Int, CtrH Tryz.prog 170 [.own 1000 0, .av (.val (.func (.func 233) #[] #[])), .av (vI n), .av (vI G)] [(1000, E0)] (.av (vI a)) [(1000, E0)] ∧ CtrH Tryz.prog 170 [.own 1000 0, .av (.val (.func (.func 233) #[] #[])), .av (vI d), .av (vI G)] [(1000, E0)] (.av (vI b)) [(1000, E0)] ∧ CtrA Tryz.prog 221 [vI a, vI b] (vR (Rat.divInt n d)) := by
  intro G hG
  have hGa : G.natAbs = Nat.gcd n.natAbs d.natAbs := by
   rw [hG]; unfold Int.gcd; split <;> omega
  have hG0 : G ≠ 0 := by omega
  have hGl : LI 1000 G := hdd.le zO
  have d1 : G ∣ n := Int.natAbs_dvd_natAbs.1 (hGa ▸ Nat.gcd_dvd_left _ _)
  have d2 : G ∣ d := Int.natAbs_dvd_natAbs.1 (hGa ▸ Nat.gcd_dvd_right _ _)
  have q1 : LI 1000 (n / G) := hn.le (by rw [Int.natAbs_ediv_of_dvd d1]; exact Nat.div_le_self _ _)
  have q2 : LI 1000 (d / G) := hdd.le (by rw [Int.natAbs_ediv_of_dvd d2]; exact Nat.div_le_self _ _)
  have w1 := z1Q n G hn hGl hG0 (by rw [z0N d1]; exact q1)
  have w2 := z1Q d G hdd hGl hG0 (by rw [z0N d2]; exact q2)
  rw [z0N d1] at w1
  rw [z0N d2] at w2
  have hj := X0q (n / G) (d / G) q1 q2
  rw [← Q1s hd hG] at hj
  exact ⟨n / G, d / G, V1t 233 n G _ w1, V1t 233 d G _ w2, hj⟩
 by_cases hneg : d < 0
 ·rw [decide_eq_true hneg] at hpre
  have hs := z1j 0 _ (LI.small (by decide) (by decide)) hgl (by rw [Int.zero_sub]; exact hgl.neg)
  rw [vI0] at hs
  obtain ⟨a, b, k1, k2, k3⟩ := key (0 - (Nat.gcd n.natAbs d.natAbs : Nat)) (by rw [if_pos hneg, Int.zero_sub]; rfl)
  refine Q0i _ Tryz.func169 rfl rfl Tryz.ntmps169 rfl rfl fun w Z ν => ?_
  refine zU ?_
  refine wl ?_
  refine j0A (j0o [] hg rfl ⟨rfl, trivial⟩ rfl) rfl ?_
  refine wl ?_
  refine j0A (j0o [] hs rfl ⟨rfl, trivial⟩ rfl) rfl ?_
  refine wl ?_
  refine j0A (j0o [] k1 rfl ⟨rfl, trivial⟩ rfl) rfl ?_
  refine wl ?_
  refine j0A (j0o [] k2 rfl ⟨rfl, trivial⟩ rfl) rfl ?_
  refine wl ?_
  exact q0k (T' := [(6, .av (vR (Rat.divInt n d)))]) (O' := [(1000, E0)]) (ent ⟨.refl _, trivial⟩ zT) (v0S rfl rfl rfl)
 ·rw [decide_eq_false hneg] at hpre
  obtain ⟨a, b, k1, k2, k3⟩ := key (Nat.gcd n.natAbs d.natAbs : Nat) (by rw [if_neg hneg]; rfl)
  refine Q0i _ Tryz.func169 rfl rfl Tryz.ntmps169 rfl rfl fun w Z ν => ?_
  refine zU ?_
  refine wl ?_
  refine j0A (j0o [] hg rfl ⟨rfl, trivial⟩ rfl) rfl ?_
  refine wl ?_
  refine j0A (j0o [] k1 rfl ⟨rfl, trivial⟩ rfl) rfl ?_
  refine wl ?_
  refine j0A (j0o [] k2 rfl ⟨rfl, trivial⟩ rfl) rfl ?_
  refine wl ?_
  exact q0k (T' := [(6, .av (vR (Rat.divInt n d)))]) (O' := [(1000, E0)]) (ent ⟨.refl _, trivial⟩ zT) (v0S rfl rfl rfl)
end Go.Proofs.YtfggdokihnopeaaGreatDoor
section
namespace Go.Proofs.YtfggdokihnopeaaGreatDoor
open Go Go.Vc Go.RowKit Go.Na Go.Lib
set_option maxHeartbeats 4000000
theorem vI1 : vI 1 = vS [49] := congrArg vS z0T
theorem X0V (q : Rat) : Nat.gcd q.num.natAbs (q.den : Int).natAbs = 1 := by
 rw [Int.natAbs_natCast]; exact q.reduced
theorem ratcheck_c (q : Rat) (h : LR 1000 q) : CtrA Tryz.prog 97 [vR q] (vi 0) := by
 have h2 := w0g q.num h.1
 have h3 := w0g q.den h.2
 by_cases hd : q.den = 1
 ·have h1 := Z1F q h hd
  rw [hd] at h3
  have h3 : CtrA Tryz.prog 165 [vS [49]] (vi 0) := by rw [← vI1]; exact h3
  refine j0s _ Tryz.func97 rfl rfl Tryz.ntmps97 rfl fun w Z => ?_
  refine zU ?_
  refine wl ?_
  exact zV
 ·have h1 := Z1G q h hd
  have hpos := q.den_pos
  have h4 := z0h q.den 1 h.2 (LI.small zE zE)
  have e4 : sgn ((q.den : Int) - 1) = 1 := by unfold sgn; rw [if_neg (by omega), if_neg (by omega)]
  rw [e4, vI1] at h4
  have h5 := w1f q.num q.den h.1 h.2
  rw [X0V] at h5
  have h5 : CtrA Tryz.prog 167 [vI q.num, vI q.den] (j0x [vS [49], vi 0]) := by rw [← vI1]; exact h5
  refine j0s _ Tryz.func97 rfl rfl Tryz.ntmps97 rfl fun w Z => ?_
  refine zU ?_
  refine wl ?_
  exact zV
theorem w1K (n : Nat) (g : Nat → Rat) (hn : n ≤ 1000000) (hg : ∀ i, i < n → LR 1000 (g i)) : CtrA Tryz.prog 168 [.sl n 1 (fun i _ => vR (g i))] (vi 0) := by
 refine j0s _ Tryz.func168 rfl rfl Tryz.ntmps168 rfl fun w Z => ?_
 refine zU ?_
 refine wl ?_
 refine j0g (γ := Nat) (fun i => [(6, .av (.sl n 1 (fun i _ => vR (g i)))), (7, .av (vi n)), (8, .av (vi i))]) (fun _ => []) (fun i => i ≤ n) (fun i => n - i) 0 (Nat.zero_le _) (ent zS trivial) ?_
 intro i hi
 refine wl ?_
 (refine j0a rfl ?_ ?_ <;> intro hb <;> (try simp only [zA, zB, zG, zC, zD, zN] at hb) <;> (try exact zQ))
 ·have hc := ratcheck_c (g i) (hg i zO)
  refine wl ?_
  exact j0b (i + 1) zO zO (ent zS trivial)
 ·refine wl ?_
  exact zV
def Z1p (a b : Rat) (i : Nat) : Rat := if i = 0 then a else b
theorem X1G (a b : ByteArray) (w : World) : (Instr.buildSlice 62 2 #[(0, .string a), (1, .string b)]).run Tryz.prog w = .ok (.slice (some ⟨w.heap.size, 0, none⟩) 2 2) (w.alloc (.cells #[.string a, .string b] 33)) := by kernel_rfl
section
variable {E : Env} {T : Tab} {O : Go.Vc.Own} {d : Option Nat} {ty : TypeId} {pos : String} {af : Array Edge} {g : Option (Nat × Bool)}
theorem q1a {x y : Operand} {a b : Rat} (hx : T.ev x = .av (vR a)) (hy : T.ev y = .av (vR b)) : GV Tryz.prog E ⟨d, .buildSlice 62 2 #[(0, x), (1, y)], ty, pos, af, g⟩ T O (.av (.sl 2 1 (fun i _ => vR (Z1p a b i)))) [] [] :=
 j0S (is := [0, 1]) (xs := [x, y]) (vs := [.string (bs (rtx a)), .string (bs (rtx b))]) (us := [.string (bs (rtx a)), .string (bs (rtx b))]) (X1G _ _) rfl (by simp only [List.map_cons, List.map_nil, hx, hy]) rfl (fun i hi j hj => by
  obtain rfl : j = 0 := zO
  rcases (by omega : i = 0 ∨ i = 1) with rfl | rfl <;> exact ⟨_, rfl, rfl⟩)
end
theorem J0k (q r : Rat) (hq : LR 1000 q) (hr : LR 1000 r) : CtrA Tryz.prog 168 [.sl 2 1 (fun i _ => vR (Z1p q r i))] (vi 0) :=
 w1K 2 (Z1p q r) zE (fun i hi => by rcases (by omega : i = 0 ∨ i = 1) with rfl | rfl <;> assumption)
theorem v1K : Tryz.prog.built 231 [] = some #[.int .i64 0] := by kernel_rfl
theorem Z0P (f : FuncId) (q r : Rat) (num den : Int) (hq : LR 1000 q) (hr : LR 1000 r) (hn : LI 1000 num) (hdn : LI 1000 den) (hd : den ≠ 0)
  (hf : CtrH Tryz.prog f [.own 1000 0, .av (vI q.num), .av (vI q.den), .av (vI r.num), .av (vI r.den)] [(1000, E0)] (.av (j0x [vI num, vI den])) [(1000, E0)]) : CtrA Tryz.prog 98 [vR q, vR r, .val (.func (.func f) #[] #[])] (j0x [vR (Rat.divInt num den), vi 0]) := by
 have h1 := J0k q r hq hr
 have h2 := X0o q hq
 have h3 := X0o r hr
 have h4 := X0r num den hn hdn hd
 have hz := w0c den
 rw [decide_eq_false hd] at hz
 refine j0s _ Tryz.func98 rfl rfl Tryz.ntmps98 rfl fun w Z => ?_
 refine zU ?_
 refine wl ?_
 refine j0j (q1a rfl rfl) rfl ?_
 refine wl ?_
 refine j0j (j0m (is := []) (xs := []) (vs := []) v1K rfl rfl) rfl ?_
 refine j0A (z0M 7 rfl rfl) rfl ?_
 refine wl ?_
 refine j0A (w1d [(1000, 7)] hf rfl rfl ⟨rfl, trivial⟩ rfl) rfl ?_
 refine wl ?_
 rw [hz]
 refine wl ?_
 refine j0A (j0o [(1000, 7)] h4 rfl ⟨rfl, trivial⟩ rfl) rfl ?_
 refine wl ?_
 exact zW
theorem z0z (a b : Int) (ha : LI 1000 a) (hb : LI 1000 b) (h : LI 1000 (a * b)) : CtrH Tryz.prog 101 [.own 1000 0, .av (.sl 2 1 (fun i _ => vI (two a b i)))] [(1000, E0)] (.av (vI (a * b))) [(1000, E0)] := by
 have e1 : X0m (two a b) 1 = a := by show 1 * a = _; rw [Int.one_mul]
 have e2 : X0m (two a b) 2 = a * b := by show X0m (two a b) 1 * b = _; rw [e1]
 have := X1d 2 (two a b) zE (fun i hi => by rcases (by omega : i = 0 ∨ i = 1) with rfl | rfl <;> assumption) (fun i hi => by
  rcases (by omega : i = 0 ∨ i = 1 ∨ i = 2) with rfl | rfl | rfl
  ·exact LI.small (show (1 : Int).natAbs < 10 by decide) zE
  ·rw [e1]; exact ha
  ·rw [e2]; exact h)
 rwa [e2] at this
theorem Z1S (n p m q : Int) (hn : LI 400 n) (hp : LI 400 p) (hm : LI 400 m) (hq : LI 400 q) : CtrH Tryz.prog 137 [.own 1000 0, .av (vI n), .av (vI p), .av (vI m), .av (vI q)] [(1000, E0)] (.av (j0x [vI (n * q + m * p), vI (p * q)])) [(1000, E0)] := by
 have b := fun (x y : Int) (hx : LI 400 x) (hy : LI 400 y) => (by have h := LI.mul hx hy; exact h : LI 800 (x * y))
 have M := fun (x : Int) (h : LI 400 x) => (h.mono zE : LI 1000 x)
 have c1 := z0z n q (M _ hn) (M _ hq) ((b _ _ hn hq).mono zE)
 have c2 := z0z m p (M _ hm) (M _ hp) ((b _ _ hm hp).mono zE)
 have c3 := z0z p q (M _ hp) (M _ hq) ((b _ _ hp hq).mono zE)
 have c4 := X1b (n * q) (m * p) ((b _ _ hn hq).mono zE) ((b _ _ hm hp).mono zE) (((b _ _ hn hq).add (b _ _ hm hp)).mono zE)
 refine Q0i _ Tryz.func137 rfl rfl Tryz.ntmps137 rfl rfl fun w Z ν => ?_
 refine zU ?_
 refine wl ?_
 refine j0j (v0C rfl rfl) rfl ?_
 refine wl ?_
 refine j0A (j0o [] c1 rfl ⟨rfl, trivial⟩ rfl) rfl ?_
 refine wl ?_
 refine j0j (v0C rfl rfl) rfl ?_
 refine wl ?_
 refine j0A (j0o [] c2 rfl ⟨rfl, trivial⟩ rfl) rfl ?_
 refine wl ?_
 refine j0A (j0o [] c4 rfl ⟨rfl, trivial⟩ rfl) rfl ?_
 refine wl ?_
 refine j0j (v0C rfl rfl) rfl ?_
 refine wl ?_
 refine j0A (j0o [] c3 rfl ⟨rfl, trivial⟩ rfl) rfl ?_
 refine wl ?_
 exact q0k (T' := [(10, .av (vI (n * q + m * p))), (11, .av (vI (p * q)))]) (O' := [(1000, E0)]) (ent zS zT) (z0Z (rvs := [_, _]) (τs := [_, _]) rfl rfl rfl ⟨.tmp rfl, .tmp rfl, trivial⟩ rfl)
theorem k1k (n p m q : Int) (hn : LI 400 n) (hp : LI 400 p) (hm : LI 400 m) (hq : LI 400 q) : CtrH Tryz.prog 99 [.own 1000 0, .av (vI n), .av (vI p), .av (vI m), .av (vI q)] [(1000, E0)] (.av (j0x [vI (n * q - m * p), vI (p * q)])) [(1000, E0)] := by
 have b := fun (x y : Int) (hx : LI 400 x) (hy : LI 400 y) => (by have h := LI.mul hx hy; exact h : LI 800 (x * y))
 have M := fun (x : Int) (h : LI 400 x) => (h.mono zE : LI 1000 x)
 have c1 := z0z n q (M _ hn) (M _ hq) ((b _ _ hn hq).mono zE)
 have c2 := z0z m p (M _ hm) (M _ hp) ((b _ _ hm hp).mono zE)
 have c3 := z0z p q (M _ hp) (M _ hq) ((b _ _ hp hq).mono zE)
 have c4 := z1j (n * q) (m * p) ((b _ _ hn hq).mono zE) ((b _ _ hm hp).mono zE) (((b _ _ hn hq).sub (b _ _ hm hp)).mono zE)
 refine Q0i _ Tryz.func99 rfl rfl Tryz.ntmps99 rfl rfl fun w Z ν => ?_
 refine zU ?_
 refine wl ?_
 refine j0j (v0C rfl rfl) rfl ?_
 refine wl ?_
 refine j0A (j0o [] c1 rfl ⟨rfl, trivial⟩ rfl) rfl ?_
 refine wl ?_
 refine j0j (v0C rfl rfl) rfl ?_
 refine wl ?_
 refine j0A (j0o [] c2 rfl ⟨rfl, trivial⟩ rfl) rfl ?_
 refine wl ?_
 refine j0A (j0o [] c4 rfl ⟨rfl, trivial⟩ rfl) rfl ?_
 refine wl ?_
 refine j0j (v0C rfl rfl) rfl ?_
 refine wl ?_
 refine j0A (j0o [] c3 rfl ⟨rfl, trivial⟩ rfl) rfl ?_
 refine wl ?_
 exact q0k (T' := [(10, .av (vI (n * q - m * p))), (11, .av (vI (p * q)))]) (O' := [(1000, E0)]) (ent zS zT) (z0Z (rvs := [_, _]) (τs := [_, _]) rfl rfl rfl ⟨.tmp rfl, .tmp rfl, trivial⟩ rfl)
theorem k1e (n p m q : Int) (hn : LI 400 n) (hp : LI 400 p) (hm : LI 400 m) (hq : LI 400 q) : CtrH Tryz.prog 204 [.own 1000 0, .av (vI n), .av (vI p), .av (vI m), .av (vI q)] [(1000, E0)] (.av (j0x [vI (n * m), vI (p * q)])) [(1000, E0)] := by
 have b := fun (x y : Int) (hx : LI 400 x) (hy : LI 400 y) => (by have h := LI.mul hx hy; exact h : LI 800 (x * y))
 have M := fun (x : Int) (h : LI 400 x) => (h.mono zE : LI 1000 x)
 have c1 := z0z n m (M _ hn) (M _ hm) ((b _ _ hn hm).mono zE)
 have c3 := z0z p q (M _ hp) (M _ hq) ((b _ _ hp hq).mono zE)
 refine Q0i _ Tryz.func204 rfl rfl Tryz.ntmps204 rfl rfl fun w Z ν => ?_
 refine zU ?_
 refine wl ?_
 refine j0j (v0C rfl rfl) rfl ?_
 refine wl ?_
 refine j0A (j0o [] c1 rfl ⟨rfl, trivial⟩ rfl) rfl ?_
 refine wl ?_
 refine j0j (v0C rfl rfl) rfl ?_
 refine wl ?_
 refine j0A (j0o [] c3 rfl ⟨rfl, trivial⟩ rfl) rfl ?_
 refine wl ?_
 exact q0k (T' := [(10, .av (vI (n * m))), (11, .av (vI (p * q)))]) (O' := [(1000, E0)]) (ent zS zT) (z0Z (rvs := [_, _]) (τs := [_, _]) rfl rfl rfl ⟨.tmp rfl, .tmp rfl, trivial⟩ rfl)
end Go.Proofs.YtfggdokihnopeaaGreatDoor
end
namespace Go.Proofs.YtfggdokihnopeaaGreatDoor
open Go Go.Vc Go.RowKit Go.Na Go.Lib
set_option maxHeartbeats 4000000
theorem Y1D (q r : Rat) : (q.den : Int) * r.den ≠ 0 := by
 have h1 := q.den_pos
 have h2 := r.den_pos
 exact Int.mul_ne_zero zO zO
theorem li4 {x y : Int} (hx : LI 400 x) (hy : LI 400 y) : LI 1000 (x * y) := (LI.mul hx hy).mono (by decide)
theorem q0a (q r : Rat) (hq : LR 400 q) (hr : LR 400 r) : CtrA Tryz.prog 76 [vR q, vR r] (j0x [vR (q + r), vi 0]) := by
 have h := Z0P 137 q r (q.num * r.den + r.num * q.den) (q.den * r.den) (hq.mono zE) (hr.mono zE) ((LI.add (LI.mul hq.1 hr.2) (LI.mul hr.1 hq.2)).mono zE) (li4 hq.2 hr.2) (Y1D q r) (Z1S q.num q.den r.num r.den hq.1 hq.2 hr.1 hr.2)
 rw [← add_eq] at h
 refine j0s _ Tryz.func76 rfl rfl Tryz.ntmps76 rfl fun w Z => ?_
 refine zU ?_
 refine wl ?_
 exact zW
theorem z0a (q r : Rat) (hq : LR 400 q) (hr : LR 400 r) : CtrA Tryz.prog 55 [vR q, vR r] (j0x [vR (q - r), vi 0]) := by
 have h := Z0P 99 q r (q.num * r.den - r.num * q.den) (q.den * r.den) (hq.mono zE) (hr.mono zE) ((LI.sub (LI.mul hq.1 hr.2) (LI.mul hr.1 hq.2)).mono zE) (li4 hq.2 hr.2) (Y1D q r) (k1k q.num q.den r.num r.den hq.1 hq.2 hr.1 hr.2)
 rw [← sub_eq] at h
 refine j0s _ Tryz.func55 rfl rfl Tryz.ntmps55 rfl fun w Z => ?_
 refine zU ?_
 refine wl ?_
 exact zW
theorem q1P (q r : Rat) (hq : LR 400 q) (hr : LR 400 r) : CtrA Tryz.prog 136 [vR q, vR r] (j0x [vR (q * r), vi 0]) := by
 have h := Z0P 204 q r (q.num * r.num) (q.den * r.den) (hq.mono zE) (hr.mono zE) (li4 hq.1 hr.1) (li4 hq.2 hr.2) (Y1D q r) (k1e q.num q.den r.num r.den hq.1 hq.2 hr.1 hr.2)
 rw [← mul_eq] at h
 refine j0s _ Tryz.func136 rfl rfl Tryz.ntmps136 rfl fun w Z => ?_
 refine zU ?_
 refine wl ?_
 exact zW
theorem X0n (q : Rat) (hq : LR 1000 q) : CtrA Tryz.prog 219 [vR q] (j0x [vI q.num, vI q.den, vi 0]) := by
 have h1 := ratcheck_c q hq
 have h2 := X0o q hq
 refine j0s _ Tryz.func219 rfl rfl Tryz.ntmps219 rfl fun w Z => ?_
 refine zU ?_
 refine wl ?_
 exact zX
theorem k0a (q : Rat) (hq : LR 1000 q) : CtrA Tryz.prog 184 [vR q] (j0x [vi (rsg q), vi 0]) := by
 have h1 := X0n q hq
 have h2 := V1p q.num hq.1
 refine j0s _ Tryz.func184 rfl rfl Tryz.ntmps184 rfl fun w Z => ?_
 refine zU ?_
 refine wl ?_
 exact zW
theorem K0g (q : Rat) : (if (q.den : Int) = 1 then itoa q.num else itoa q.num ++ 47 :: itoa (q.den : Int)) = rtx q := by
 unfold rtx
 rw [v0d]
 by_cases h : q.den = 1
 ·rw [if_pos h, if_pos (by omega)]
 ·rw [if_neg h, if_neg (by omega)]
theorem V0Q (q : Rat) (hq : LR 1000 q) : CtrA Tryz.prog 155 [vR q] (j0x [vR (-q), vi 0]) := by
 have h1 := X0n q hq
 have h2 := X1Z q.num hq.1
 have h3 := X0q (-q.num) q.den hq.1.neg hq.2
 have e := K0g (-q)
 rw [Rat.neg_num, Rat.neg_den] at e
 rw [e] at h3
 refine j0s _ Tryz.func155 rfl rfl Tryz.ntmps155 rfl fun w Z => ?_
 refine zU ?_
 refine wl ?_
 exact zW
theorem v0f (n : Int) (h : -9223372036854775808 ≤ n ∧ n ≤ 9223372036854775807) : CtrA Tryz.prog 56 [vi n] (vI n) := by
 have h1 := W0s n h
 refine j0s _ Tryz.func56 rfl rfl Tryz.ntmps56 rfl fun w Z => ?_
 refine zU ?_
 refine wl ?_
 exact zV
theorem v0Q (q r : Rat) (hq : LR 400 q) (hr : LR 400 r) : CtrA Tryz.prog 154 [vR q, vR r] (j0x [vi (rsg (q - r)), vi 0]) := by
 have M := fun (x : Int) (h : LI 400 x) => (h.mono zE : LI 1000 x)
 have h1 := J0k q r (hq.mono zE) (hr.mono zE)
 have h2 := X0o q (hq.mono zE)
 have h3 := X0o r (hr.mono zE)
 have c1 := z0z q.num r.den (M _ hq.1) (M _ hr.2) (li4 hq.1 hr.2)
 have c2 := z0z r.num q.den (M _ hr.1) (M _ hq.2) (li4 hr.1 hq.2)
 have c3 := z0h (q.num * r.den) (r.num * q.den) (li4 hq.1 hr.2) (li4 hr.1 hq.2)
 rw [v1s] at c3
 refine j0s _ Tryz.func154 rfl rfl Tryz.ntmps154 rfl fun w Z => ?_
 refine zU ?_
 refine wl ?_
 refine j0j (q1a rfl rfl) rfl ?_
 refine wl ?_
 refine j0j (j0m (is := []) (xs := []) (vs := []) v1K rfl rfl) rfl ?_
 refine j0A (z0M 7 rfl rfl) rfl ?_
 refine wl ?_
 refine j0j (v0C rfl rfl) rfl ?_
 refine wl ?_
 refine j0A (j0o [(1000, 7)] c1 rfl ⟨rfl, trivial⟩ rfl) rfl ?_
 refine wl ?_
 refine j0j (v0C rfl rfl) rfl ?_
 refine wl ?_
 refine j0A (j0o [(1000, 7)] c2 rfl ⟨rfl, trivial⟩ rfl) rfl ?_
 refine wl ?_
 exact zW
theorem x1D (n d : Int) (hn : LI 1000 n) (hdd : LI 1000 d) (hd : d ≠ 0) : CtrA Tryz.prog 257 [vI n, vI d] (j0x [vR (Rat.divInt n d), vi 0]) := by
 have h4 := X0r n d hn hdd hd
 have hz := w0c d
 rw [decide_eq_false hd] at hz
 refine j0s _ Tryz.func257 rfl rfl Tryz.ntmps257 rfl fun w Z => ?_
 refine zU ?_
 refine wl ?_
 refine j0j (v0C rfl rfl) rfl ?_
 refine wl ?_
 refine j0g (γ := Nat) (fun i => [(0, .av (vI n)), (1, .av (vI d)), (13, .av (.sl 2 1 (fun i _ => vI (two n d i)))), (14, .av (vi 2)), (15, .av (vi i))]) (fun _ => []) (fun i => i ≤ 2) (fun i => 2 - i) 0 (Nat.zero_le _) (ent zS trivial) ?_
 intro i hi
 refine wl ?_
 (refine j0a rfl ?_ ?_ <;> intro hb <;> (try simp only [zA, zB, zG, zC, zD, zN] at hb) <;> (try exact zQ))
 ·have hc := w0g (two n d i) (by rcases (by omega : i = 0 ∨ i = 1) with rfl | rfl <;> assumption)
  refine wl ?_
  exact j0b (i + 1) zO zO (ent zS trivial)
 ·refine wl ?_
  rw [hz]
  refine wl ?_
  refine j0j (j0m (is := []) (xs := []) (vs := []) v1K rfl rfl) rfl ?_
  refine j0A (z0M 7 rfl rfl) rfl ?_
  refine wl ?_
  refine j0A (j0o [(1000, 7)] h4 rfl ⟨rfl, trivial⟩ rfl) rfl ?_
  refine wl ?_
  exact zW
end Go.Proofs.YtfggdokihnopeaaGreatDoor
namespace Go.Proofs.YtfggdokihnopeaaGreatDoor.H
open Go Go.Vc Go.RowKit
structure Tr where
 x : Int
 y : Int
 z : Int
deriving DecidableEq, Inhabited
abbrev vi (n : Int) : AV := .val (.int .i64 n)
abbrev vb (b : Bool) : AV := .val (.bool b)
abbrev tp (a : Tr) : AV := .val (.agg #[.int .i64 a.x, .int .i64 a.y, .int .i64 a.z])
def gt (l : List Tr) (i : Nat) : Tr := l.getD i default
def tf (l : List Tr) : Nat → Nat → AV := fun i j => match j with | 0 => .val (.int .i64 (gt l i).x) | 1 => .val (.int .i64 (gt l i).y) | _+2 => .val (.int .i64 (gt l i).z)
def ts (l : List Tr) : AV := .sl l.length 3 (fun i j => match j with | 0 => .val (.int .i64 (gt l i).x) | 1 => .val (.int .i64 (gt l i).y) | _+2 => .val (.int .i64 (gt l i).z))
theorem W1u {l : List Tr} {i : Nat} (h : i < l.length) : gt l i = l[i] := by simp [gt, h]
theorem Z0F {l : List Tr} {i : Nat} (h : i < l.length) : gt l i ∈ l := by rw [W1u h]; exact List.getElem_mem h
theorem Y0i {l : List Tr} {k : Nat} (h : k < l.length) : l.take (k + 1) = l.take k ++ [gt l k] := by
 rw [List.take_succ_eq_append_getElem h, W1u h]
def v1Y (a b : Tr) : Tr := ⟨a.x - b.x, a.y - b.y, a.z - b.z⟩
def w0k (a b : Tr) : Int := a.x * b.x + a.y * b.y + a.z * b.z
def tcr (a b : Tr) : Tr := ⟨a.y * b.z - a.z * b.y, a.z * b.x - a.x * b.z, a.x * b.y - a.y * b.x⟩
def inB (n : Int) : Bool := decide (-100000 ≤ n) && decide (n ≤ 100000)
def q0j (p : Tr) : Bool := inB p.x && inB p.y && inB p.z
def w0z (l : List Tr) : Int := if 64 < l.length then 5 else if l.all q0j then 0 else 2
abbrev Bn (B n : Int) : Prop := -B ≤ n ∧ n ≤ B
structure BT (B : Int) (a : Tr) : Prop where
 x : Bn B a.x
 y : Bn B a.y
 z : Bn B a.z
theorem q0t {A B m n : Int} (h1 : Bn A m) (h2 : Bn B n) : Bn (A * B) (m * n) := by
 have hA : 0 ≤ A := by omega
 have hB : 0 ≤ B := by omega
 have h3 : (m * n).natAbs ≤ (A * B).natAbs := by
  rw [Int.natAbs_mul, Int.natAbs_mul]
  exact Nat.mul_le_mul zO zO
 have h4 : 0 ≤ A * B := Int.mul_nonneg hA hB
 omega
theorem z1Z {A B n : Int} (h : Bn A n) (hab : A ≤ B) : Bn B n := by omega
theorem BT.le {A B : Int} {a : Tr} (h : BT A a) (hab : A ≤ B) : BT B a := ⟨z1Z h.x hab, z1Z h.y hab, z1Z h.z hab⟩
theorem BT.sub {A B : Int} {a b : Tr} (h1 : BT A a) (h2 : BT B b) : BT (A + B) (v1Y a b) := by
 have := h1.x; have := h1.y; have := h1.z; have := h2.x; have := h2.y; have := h2.z
 refine ⟨?_, ?_, ?_⟩ <;> simp only [v1Y, Bn] at * <;> omega
theorem BT.cr {A B : Int} {a b : Tr} (h1 : BT A a) (h2 : BT B b) : BT (2 * (A * B)) (tcr a b) := by
 have a1 := q0t h1.y h2.z; have a2 := q0t h1.z h2.y; have a3 := q0t h1.z h2.x
 have a4 := q0t h1.x h2.z; have a5 := q0t h1.x h2.y; have a6 := q0t h1.y h2.x
 refine ⟨?_, ?_, ?_⟩ <;> simp only [tcr, Bn] at * <;> omega
theorem j1h {A B : Int} {a b : Tr} (h1 : BT A a) (h2 : BT B b) : Bn (3 * (A * B)) (w0k a b) := by
 have a1 := q0t h1.x h2.x; have a2 := q0t h1.y h2.y; have a3 := q0t h1.z h2.z
 simp only [w0k, Bn] at *; omega
def RT (l : List Tr) : Prop := ∀ i, BT 100000 (gt l i)
theorem RT.of {l : List Tr} (h : w0z l = 0) : RT l ∧ l.length ≤ 64 := by
 unfold w0z at h
 split at h
 ·omega
 ·split at h
  ·rename_i h1 h2
   refine ⟨fun i => ?_, by omega⟩
   by_cases hi : i < l.length
   ·have := List.all_eq_true.1 h2 _ (Z0F hi)
    simp only [q0j, inB, Bool.and_eq_true, decide_eq_true_eq] at this
    exact ⟨by omega, by omega, by omega⟩
   ·have e : gt l i = ⟨0, 0, 0⟩ := by unfold gt; rw [List.getD, List.getElem?_eq_none (by omega)]; rfl
    rw [e]
    exact ⟨by decide, by decide, by decide⟩
  ·omega
end Go.Proofs.YtfggdokihnopeaaGreatDoor.H
namespace Go.Proofs.YtfggdokihnopeaaGreatDoor.H
open Go.Vc
abbrev pp (p : Pt) : AV := pv p.x p.y
theorem J1M {l : List Pt} {i : Nat} (h : i < l.length) : gp l i = l[i] := by simp [gp, h]
theorem W1r {l : List Pt} {i : Nat} (h : i < l.length) : gp l i ∈ l := by rw [J1M h]; exact List.getElem_mem h
theorem J0F {l : List Nat} {i : Nat} (h : i < l.length) : gi l i = l[i] := by simp [gi, h]
def sub (a b : Pt) : Pt := ⟨a.x - b.x, a.y - b.y⟩
def trn (a b : Pt) : Int := a.x * b.y - a.y * b.x
def crs (a b c : Pt) : Int := trn (sub b a) (sub c a)
def y0C (p : Pt) : Bool := inB p.x && inB p.y
def chk (l : List Pt) : Int := if 64 < l.length then 5 else if l.all y0C then 0 else 2
abbrev BdP (p : Pt) : Prop := (-1500000000 ≤ p.x ∧ p.x ≤ 1500000000) ∧ (-1500000000 ≤ p.y ∧ p.y ≤ 1500000000)
abbrev Sm (x : Int) : Prop := -300000 ≤ x ∧ x ≤ 300000
abbrev SmP (p : Pt) : Prop := Sm p.x ∧ Sm p.y
theorem W1U (a b : Pt) : ([a.x, a.y] == [b.x, b.y]) = decide (a = b) := by
 cases a; cases b; rw [Bool.eq_iff_iff]; simp
theorem Q1K {l : List Pt} {k : Nat} (h : k < l.length) : l.take (k + 1) = l.take k ++ [gp l k] := by
 rw [List.take_succ_eq_append_getElem h, J1M h]
theorem V1C {l : List Pt} {q : Pt → Prop} (h : ∀ p ∈ l, q p) (hd : q default) : ∀ i, q (gp l i) := by
 intro i
 by_cases hi : i < l.length
 ·rw [J1M hi]; exact h _ (List.getElem_mem hi)
 ·simp only [gp, List.getD, List.getElem?_eq_none (Nat.le_of_not_lt hi)]; exact hd
theorem Y1t : SmP default := by constructor <;> decide
theorem W1T {a b : Int} (h : -1500000000 ≤ a ∧ a ≤ 1500000000) (k : -1500000000 ≤ b ∧ b ≤ 1500000000) : -2250000000000000000 ≤ a * b ∧ a * b ≤ 2250000000000000000 := by
 have h1 : (a * b).natAbs ≤ 1500000000 * 1500000000 := by
  rw [Int.natAbs_mul]
  exact Nat.mul_le_mul zO zO
 omega
theorem k0s {a b : Pt} (h1 : SmP a) (h2 : SmP b) : BdP (sub a b) := by
 simp only [BdP, sub]; omega
theorem v0u {k : Nat} {p : Nat → Prop} (h : ∀ i, i < k → p i) (hk : p k) : ∀ i, i < k + 1 → p i := fun i hi => by
 rcases Nat.lt_or_ge i k with h1 | h1
 ·exact h i h1
 ·have : i = k := by omega
  subst this; exact hk
end Go.Proofs.YtfggdokihnopeaaGreatDoor.H
namespace Go.Proofs.YtfggdokihnopeaaGreatDoor.H
open Go Go.Vc Go.RowKit
set_option maxHeartbeats 4000000
theorem V1o (n : Int) : CtrA Tryz.prog 82 [vi n] (vb (inB n)) := by
 refine j0s _ Tryz.func82 rfl rfl Tryz.ntmps82 rfl fun w Z => ?_
 refine zU ?_
 refine wt ?_
 (first | refine j0f rfl rfl ?_ ?_ | refine j0e rfl rfl ?_ ?_) <;> intro hb <;> (try simp only [zA, zB, zG, zC, zD, zN] at hb) <;> (try exact zQ)
 ·refine wt ?_
  exact j0c rfl (.tmp rfl) (congrArg vb (by unfold inB; rw [decide_eq_true (by assumption : -100000 ≤ n), Bool.true_and]))
 ·refine wt ?_
  exact j0c rfl (.tmp rfl) (congrArg vb (by unfold inB; rw [decide_eq_false (by assumption : ¬ -100000 ≤ n), Bool.false_and]))
theorem w1g (n : Int) : CtrA Tryz.prog 203 [vi n] (vb (inB n)) := by
 refine j0s _ Tryz.func203 rfl rfl Tryz.ntmps203 rfl fun w Z => ?_
 refine zU ?_
 refine wt ?_
 (first | refine j0f rfl rfl ?_ ?_ | refine j0e rfl rfl ?_ ?_) <;> intro hb <;> (try simp only [zA, zB, zG, zC, zD, zN] at hb) <;> (try exact zQ)
 ·refine wt ?_
  exact j0c rfl (.tmp rfl) (congrArg vb (by unfold inB; rw [decide_eq_true (by assumption : -100000 ≤ n), Bool.true_and]))
 ·refine wt ?_
  exact j0c rfl (.tmp rfl) (congrArg vb (by unfold inB; rw [decide_eq_false (by assumption : ¬ -100000 ≤ n), Bool.false_and]))
theorem k0d (p : Tr) : CtrA Tryz.prog 39 [tp p] (vb (q0j p)) := by
 have h1 := V1o p.x
 have h2 := V1o p.y
 have h3 := V1o p.z
 refine j0s _ Tryz.func39 rfl rfl Tryz.ntmps39 rfl fun w Z => ?_
 refine zU ?_
 (refine wt ?_; repeat' (((first | refine j0f rfl rfl ?_ ?_ | refine j0e rfl rfl ?_ ?_) <;> intro hb <;> (try simp only [zA, zB, zG, zC, zD, zN] at hb) <;> (try exact zQ)) <;> refine wt ?_))
 all_goals (refine j0c rfl (.tmp rfl) (congrArg vb ?_); simp [y0C, q0j, *])
theorem W1i (p : Pt) : CtrA Tryz.prog 255 [pp p] (vb (y0C p)) := by
 have h1 := w1g p.x
 have h2 := w1g p.y
 refine j0s _ Tryz.func255 rfl rfl Tryz.ntmps255 rfl fun w Z => ?_
 refine zU ?_
 (refine wt ?_; repeat' (((first | refine j0f rfl rfl ?_ ?_ | refine j0e rfl rfl ?_ ?_) <;> intro hb <;> (try simp only [zA, zB, zG, zC, zD, zN] at hb) <;> (try exact zQ)) <;> refine wt ?_))
 all_goals (refine j0c rfl (.tmp rfl) (congrArg vb ?_); simp [y0C, q0j, *])
theorem Z1N (a b : Pt) (h1 : SmP a) (h2 : SmP b) : CtrA Tryz.prog 192 [pp a, pp b] (pp (sub b a)) := by
 simp only [SmP, Sm] at h1 h2
 refine j0s _ Tryz.func192 rfl rfl Tryz.ntmps192 rfl fun w Z => ?_
 refine zU ?_
 refine wt ?_
 exact j0c rfl (.agg (us := [_, _]) rfl rfl rfl rfl) rfl
end Go.Proofs.YtfggdokihnopeaaGreatDoor.H
section
end
namespace Go.Proofs.YtfggdokihnopeaaGreatDoor.H
open Go Go.Vc Go.Na
def cz (p : Tr) (k : Nat) : Int := match k with | 0 => p.x | 1 => p.y | _ => p.z
def ou (k : Nat) : Nat := match k with | 0 => 1 | _ => 0
def ov (k : Nat) : Nat := match k with | 0 => 2 | 1 => 2 | _ => 1
def plc (k : Nat) (p : Tr) : Pt := ⟨cz p (ou k), cz p (ov k)⟩
structure Pl where
 A : Rat
 B : Rat
 C : Rat
 s : List Nat
deriving Inhabited, DecidableEq
def hgt (k : Nat) (A B C : Rat) (p : Tr) : Rat := (cz p k : Rat) - (A + (B * ((plc k p).x : Rat) + C * ((plc k p).y : Rat)))
def J1R (l : List Tr) (k : Nat) (A B C : Rat) (n : Nat) : Bool := (List.range n).any fun i => decide (hgt k A B C (gt l i) < 0)
def onL (l : List Tr) (k : Nat) (A B C : Rat) (n : Nat) : List Nat := (List.range n).filter fun i => decide (hgt k A B C (gt l i) = 0)
def mkP (l : List Tr) (k : Nat) (A B C : Rat) : Option Pl := if J1R l k A B C l.length = true then none else some ⟨A, B, C, onL l k A B C l.length⟩
def nvP (a b c : Tr) : Tr := tcr (v1Y b a) (v1Y c a)
def upP (k : Nat) (n : Tr) : Tr := if cz n k < 0 then ⟨-n.x, -n.y, -n.z⟩ else n
def nP (l : List Tr) (k a b c : Nat) : Tr := upP k (nvP (gt l a) (gt l b) (gt l c))
def mP (l : List Tr) (k a b c : Nat) : Int := w0k (nP l k a b c) (gt l a)
def aP (l : List Tr) (k a b c : Nat) : Rat := Rat.divInt (mP l k a b c) (cz (nP l k a b c) k)
def bP (l : List Tr) (k a b c : Nat) : Rat := Rat.divInt (-cz (nP l k a b c) (ou k)) (cz (nP l k a b c) k)
def cP (l : List Tr) (k a b c : Nat) : Rat := Rat.divInt (-cz (nP l k a b c) (ov k)) (cz (nP l k a b c) k)
def thr (l : List Tr) (k a b c : Nat) : Option Pl :=
 if cz (nvP (gt l a) (gt l b) (gt l c)) k = 0 then none else mkP l k (aP l k a b c) (bP l k a b c) (cP l k a b c)
def X1J (i j : Nat) : List (Nat × Nat × Nat) := (List.range j).map fun k => (k, j, i)
def y1e (i : Nat) (n : Nat) : List (Nat × Nat × Nat) := (List.range n).flatMap fun j => X1J i j
def V1y (n : Nat) : List (Nat × Nat × Nat) := (List.range n).flatMap fun i => y1e i i
def x1Z (l : List Tr) (k : Nat) (t : Nat × Nat × Nat) : Option Pl := thr l k t.1 t.2.1 t.2.2
def z0A (l : List Tr) (k : Nat) : List Pl := (V1y l.length).filterMap (x1Z l k)
theorem Q1M (n p : Tr) {k : Nat} (hk : k < 3) : w0k n p = cz n k * cz p k + cz n (ou k) * cz p (ou k) + cz n (ov k) * cz p (ov k) := by
 rcases (by omega : k = 0 ∨ k = 1 ∨ k = 2) with rfl | rfl | rfl <;> simp only [w0k, cz, ou, ov] <;> omega
theorem x0p {k : Nat} {n : Tr} (h : cz n k ≠ 0) : 0 < cz (upP k n) k := by
 unfold upP
 split
 ·rename_i h1
  match k with
  |0 => simp only [cz] at *; omega
  |1 => simp only [cz] at *; omega
  |k + 2 => simp only [cz] at *; omega
 ·omega
theorem v0J (a b : Int) : Rat.divInt a b = (a : Rat) / (b : Rat) := by
 rw [Rat.divInt_eq_div]
theorem W1y {l : List Tr} {k a b c : Nat} (hk : k < 3) (hn : cz (nvP (gt l a) (gt l b) (gt l c)) k ≠ 0) (p : Tr) :
  hgt k (aP l k a b c) (bP l k a b c) (cP l k a b c) p = ((w0k (nP l k a b c) p - mP l k a b c : Int) : Rat) / (cz (nP l k a b c) k : Rat) := by
 have hpos : 0 < cz (nP l k a b c) k := x0p hn
 have hne : (cz (nP l k a b c) k : Rat) ≠ 0 := by
  have : cz (nP l k a b c) k ≠ 0 := by omega
  simpa using this
 unfold hgt aP bP cP
 rw [v0J, v0J, v0J, Q1M _ _ hk]
 simp only [plc, Rat.intCast_neg, Rat.intCast_sub, Rat.intCast_add, Rat.intCast_mul, Rat.div_def]
 have := Rat.mul_inv_cancel _ hne
 generalize (cz (nP l k a b c) k : Rat) = d at *
 generalize d⁻¹ = e at *
 grind
theorem x0V {l : List Tr} {k a b c : Nat} (hk : k < 3) (hn : cz (nvP (gt l a) (gt l b) (gt l c)) k ≠ 0) (p : Tr) :
  (hgt k (aP l k a b c) (bP l k a b c) (cP l k a b c) p < 0 ↔ w0k (nP l k a b c) p < mP l k a b c) ∧ (hgt k (aP l k a b c) (bP l k a b c) (cP l k a b c) p = 0 ↔ w0k (nP l k a b c) p = mP l k a b c) := by
 have hpos : 0 < cz (nP l k a b c) k := x0p hn
 have hq : (0 : Rat) < (cz (nP l k a b c) k : Rat) := by exact_mod_cast hpos
 rw [W1y hk hn]
 generalize (cz (nP l k a b c) k : Rat) = d at *
 constructor
 ·rw [Rat.div_lt_iff hq, Rat.zero_mul]
  constructor
  ·intro h
   have : (w0k (nP l k a b c) p - mP l k a b c : Int) < 0 := by exact_mod_cast h
   omega
  ·intro h
   have : (w0k (nP l k a b c) p - mP l k a b c : Int) < 0 := by omega
   exact_mod_cast this
 ·constructor
  ·intro h
   have h1 : ((w0k (nP l k a b c) p - mP l k a b c : Int) : Rat) = 0 := by
    have := congrArg (· * d) h
    simp only [Rat.div_def, Rat.zero_mul] at this
    rw [Rat.mul_assoc, Rat.mul_comm d⁻¹ d, Rat.mul_inv_cancel d (by grind), Rat.mul_one] at this
    exact this
   have h2 : (w0k (nP l k a b c) p - mP l k a b c : Int) = 0 := by exact_mod_cast h1
   omega
  ·intro h
   rw [h, Int.sub_self]
   simp [Rat.div_def]
def ltP (P Q : Pl) : Prop := P.A < Q.A ∨ P.A = Q.A ∧ (P.B < Q.B ∨ P.B = Q.B ∧ P.C < Q.C)
instance (P Q : Pl) : Decidable (ltP P Q) := by unfold ltP; infer_instance
def eqP (P Q : Pl) : Prop := P.A = Q.A ∧ P.B = Q.B ∧ P.C = Q.C
instance (P Q : Pl) : Decidable (eqP P Q) := by unfold eqP; infer_instance
theorem Y0o (P : Pl) : ¬ ltP P P := by unfold ltP; grind
theorem y1V {P Q R : Pl} (h : ltP P Q) (k : ltP Q R) : ltP P R := by unfold ltP at *; grind
theorem J1T (P Q : Pl) : ltP P Q ∨ eqP P Q ∨ ltP Q P := by unfold ltP eqP; grind
def Y0x (p : Pl) : List Pl → List Pl
 |[] => [p]
 |q :: L => if ltP q p then q :: Y0x p L else if eqP q p then q :: L else p :: q :: L
def Asc (L : List Pl) : Prop := L.Pairwise ltP
theorem K0X : ∀ {L M : List Pl}, Asc L → Asc M → (∀ p, p ∈ L ↔ p ∈ M) → L = M
 |[], [], _, _, _ => rfl
 |[], q :: M, _, _, h => by have := (h q).2 (by simp); cases this
 |p :: L, [], _, _, h => by have := (h p).1 (by simp); cases this
 |p :: L, q :: M, hL, hM, h => by
  obtain ⟨hL1, hL2⟩ := List.pairwise_cons.1 hL
  obtain ⟨hM1, hM2⟩ := List.pairwise_cons.1 hM
  have hpq : p = q := by
   rcases List.mem_cons.1 ((h p).1 (by simp)) with e | e
   ·exact e
   ·rcases List.mem_cons.1 ((h q).2 (by simp)) with e' | e'
    ·exact e'.symm
    ·exact absurd (y1V (hM1 p e) (hL1 q e')) (Y0o _)
  subst hpq
  rw [K0X hL2 hM2 (fun r => ?_)]
  constructor
  ·intro hr
   rcases List.mem_cons.1 ((h r).1 (by simp [hr])) with e | e
   ·subst e; exact absurd (hL1 r hr) (Y0o _)
   ·exact e
  ·intro hr
   rcases List.mem_cons.1 ((h r).2 (by simp [hr])) with e | e
   ·subst e; exact absurd (hM1 r hr) (Y0o _)
   ·exact e
theorem q1M {p : Pl} : ∀ {L : List Pl}, Asc L → Asc (Y0x p L)
 |[], _ => by simp [Y0x, Asc]
 |q :: L, h => by
  obtain ⟨h1, h2⟩ := List.pairwise_cons.1 h
  unfold Y0x
  split
  ·rename_i hq
   refine List.pairwise_cons.2 ⟨fun r hr => ?_, q1M h2⟩
   have : ∀ L : List Pl, r ∈ Y0x p L → r = p ∨ r ∈ L := by
    intro L
    induction L with
    |nil => intro h; simp [Y0x] at h; exact .inl h
    |cons q L ih =>
     intro h
     unfold Y0x at h
     split at h
     ·rcases List.mem_cons.1 h with e | e
      ·exact .inr (by simp [e])
      ·rcases ih e with e | e
       ·exact .inl e
       ·exact .inr (by simp [e])
     ·split at h
      ·exact .inr h
      ·rcases List.mem_cons.1 h with e | e
       ·exact .inl e
       ·exact .inr e
   rcases this L hr with e | e
   ·subst e; exact hq
   ·exact h1 r e
  ·split
   ·exact h
   ·rename_i hq he
    have hpq : ltP p q := by
     rcases J1T p q with e | e | e
     ·exact e
     ·exact absurd ⟨e.1.symm, e.2.1.symm, e.2.2.symm⟩ he
     ·exact absurd e hq
    refine List.pairwise_cons.2 ⟨fun r hr => ?_, h⟩
    rcases List.mem_cons.1 hr with e | e
    ·subst e; exact hpq
    ·exact y1V hpq (h1 r e)
theorem Q1j {L : List Pl} {p r : Pl} (hu : ∀ q, q = p ∨ q ∈ L → eqP q p → q = p) : r ∈ Y0x p L ↔ r = p ∨ r ∈ L := by
 induction L with
 |nil => simp [Y0x]
 |cons q L ih =>
  have ih := ih (fun x hx => hu x (hx.elim .inl (fun h => .inr (by simp [h]))))
  unfold Y0x
  split
  ·rw [List.mem_cons, ih, List.mem_cons]; grind
  ·split
   ·rename_i he
    have := hu q (.inr (by simp)) he
    subst this
    simp
   ·simp
def X1e (L : List Pl) : List Pl := L.foldl (fun a p => Y0x p a) []
theorem k0l : ∀ {L a : List Pl}, (∀ p ∈ L ++ a, ∀ q ∈ L ++ a, eqP p q → p = q) → Asc a → Asc (L.foldl (fun a p => Y0x p a) a) ∧ ∀ r, r ∈ L.foldl (fun a p => Y0x p a) a ↔ r ∈ L ∨ r ∈ a
 |[], a, _, ha => ⟨ha, fun r => by simp⟩
 |p :: L, a, hu, ha => by
  have hm : ∀ r, r ∈ Y0x p a ↔ r = p ∨ r ∈ a := fun r => Q1j (fun q hq he => hu q (by rcases hq with e | e <;> simp [e]) p (by simp) he)
  obtain ⟨h1, h2⟩ := k0l (L := L) (a := Y0x p a) (fun x hx y hy e => hu x (by
   rcases List.mem_append.1 hx with e | e
   ·simp [e]
   ·rcases (hm x).1 e with e | e <;> simp [e]) y (by
   rcases List.mem_append.1 hy with e | e
   ·simp [e]
   ·rcases (hm y).1 e with e | e <;> simp [e]) e) (q1M ha)
  refine ⟨h1, fun r => ?_⟩
  rw [List.foldl_cons, h2, hm, List.mem_cons]
  grind
def q0e (l : List Tr) (k : Nat) : List Pl := X1e (z0A l k)
theorem y1a {l : List Tr} {k : Nat} {P : Pl} (h : P ∈ z0A l k) : mkP l k P.A P.B P.C = some P := by
 obtain ⟨t, _, ht⟩ := List.mem_filterMap.1 h
 unfold x1Z thr at ht
 split at ht
 ·cases ht
 ·have h2 := ht
  unfold mkP at ht
  split at ht
  ·cases ht
  ·cases ht; exact h2
theorem Q0a {l : List Tr} {k : Nat} {P Q : Pl} (hP : P ∈ z0A l k) (hQ : Q ∈ z0A l k) (h : eqP P Q) : P = Q := by
 have h1 := y1a hP
 have h2 := y1a hQ
 rw [h.1, h.2.1, h.2.2, h2] at h1
 exact (Option.some.inj h1).symm
theorem J0g (l : List Tr) (k : Nat) : Asc (q0e l k) ∧ ∀ r, r ∈ q0e l k ↔ r ∈ z0A l k := by
 have := k0l (L := z0A l k) (a := []) (by simp only [List.append_nil]; exact fun p hp q hq e => Q0a hp hq e) List.Pairwise.nil
 exact ⟨this.1, fun r => by rw [q0e, X1e, this.2]; simp⟩
end Go.Proofs.YtfggdokihnopeaaGreatDoor.H
namespace Go.Proofs.YtfggdokihnopeaaGreatDoor.H
open Go Go.Vc Go.RowKit
set_option maxHeartbeats 4000000
theorem W1z (p : Tr) : CtrA Tryz.prog 135 [tp p] (vb (q0j p)) := by
 have h1 := w1g p.x
 have h2 := w1g p.y
 have h3 := w1g p.z
 refine j0s _ Tryz.func135 rfl rfl Tryz.ntmps135 rfl fun w Z => ?_
 refine zU ?_
 (refine wt ?_; repeat' (((first | refine j0f rfl rfl ?_ ?_ | refine j0e rfl rfl ?_ ?_) <;> intro hb <;> (try simp only [zA, zB, zG, zC, zD, zN] at hb) <;> (try exact zQ)) <;> refine wt ?_))
 all_goals (refine j0c rfl (.tmp rfl) (congrArg vb ?_); simp [q0j, *])
theorem W1L (l : List Pt) (hn : l.length ≤ 1000) : CtrA Tryz.prog 303 [.val (.func (.func 255) #[] #[]), pts l] (vi (if l.all y0C then 0 else 2)) := by
 refine j0s _ Tryz.func303 rfl rfl Tryz.ntmps303 rfl fun w Z => ?_
 refine zU ?_
 refine wt ?_
 refine j0g (γ := Nat) (fun k => [(0, .av (.val (.func (.func 255) #[] #[]))), (7, .av (pts l)), (8, .av (vi l.length)), (9, .av (vi k))]) (fun _ => []) (fun k => k ≤ l.length ∧ (l.take k).all y0C = true) (fun k => l.length - k) 0 ⟨Nat.zero_le _, by simp⟩ (ent zS trivial) ?_
 rintro k ⟨hk, hall⟩
 refine wt ?_
 (refine j0a rfl ?_ ?_ <;> intro hb <;> (try simp only [zA, zB, zG, zC, zD, zN] at hb) <;> (try exact zQ))
 ·have hkl : k < l.length := by omega
  have hf := W1i (gp l k)
  refine wt ?_
  (refine j0a rfl ?_ ?_ <;> intro hb <;> (try simp only [zA, zB, zG, zC, zD, zN] at hb) <;> (try exact zQ))
  ·refine wt ?_
   refine j0c rfl (.tmp rfl) (congrArg vi ?_)
   have : ¬ l.all y0C = true := fun h => by
    have := List.all_eq_true.1 h (gp l k) (W1r hkl)
    simp [this] at hb
   simp [this]
  ·refine wt ?_
   exact j0b (k + 1) ⟨by omega, by rw [Q1K hkl]; simp only [List.all_append, hall, List.all_cons, List.all_nil, Bool.and_true, Bool.true_and]; exact hb⟩ (by omega) (ent zS trivial)
 ·refine wt ?_
  have : k = l.length := by omega
  subst this
  rw [List.take_length] at hall
  exact j0c rfl (.tmp rfl) (congrArg vi (by simp [hall]))
theorem K0n (l : List Pt) : CtrA Tryz.prog 254 [pts l, .val (.func (.func 255) #[] #[])] (vi (chk l)) := by
 refine j0s _ Tryz.func254 rfl rfl Tryz.ntmps254 rfl fun w Z => ?_
 refine zU ?_
 refine wt ?_
 (refine j0a rfl ?_ ?_ <;> intro hb <;> (try simp only [zA, zB, zG, zC, zD, zN] at hb) <;> (try exact zQ))
 ·refine wt ?_
  exact j0c rfl (.tmp rfl) (by simp [chk]; omega)
 ·have hp := W1L l zO
  refine wt ?_
  exact j0c rfl (.tmp rfl) (congrArg vi (by simp [chk, show ¬ 64 < l.length by omega]))
theorem x1u (l : List Pt) : CtrA Tryz.prog 189 [pts l] (vi (chk l)) := by
 have h := K0n l
 refine j0s _ Tryz.func189 rfl rfl Tryz.ntmps189 rfl fun w Z => ?_
 refine zU ?_
 refine wt ?_
 exact zV
theorem z1f (l : List Tr) (hn : l.length ≤ 1000) : CtrA Tryz.prog 202 [.val (.func (.func 135) #[] #[]), ts l] (vi (if l.all q0j then 0 else 2)) := by
 refine j0s _ Tryz.func202 rfl rfl Tryz.ntmps202 rfl fun w Z => ?_
 refine zU ?_
 refine wt ?_
 refine j0g (γ := Nat) (fun k => [(0, .av (.val (.func (.func 135) #[] #[]))), (7, .av (ts l)), (8, .av (vi l.length)), (9, .av (vi k))]) (fun _ => []) (fun k => k ≤ l.length ∧ (l.take k).all q0j = true) (fun k => l.length - k) 0 ⟨Nat.zero_le _, by simp⟩ (ent zS trivial) ?_
 rintro k ⟨hk, hall⟩
 refine wt ?_
 (refine j0a rfl ?_ ?_ <;> intro hb <;> (try simp only [zA, zB, zG, zC, zD, zN] at hb) <;> (try exact zQ))
 ·have hkl : k < l.length := by omega
  have hf := W1z (gt l k)
  refine wt ?_
  (refine j0a rfl ?_ ?_ <;> intro hb <;> (try simp only [zA, zB, zG, zC, zD, zN] at hb) <;> (try exact zQ))
  ·refine wt ?_
   refine j0c rfl (.tmp rfl) (congrArg vi ?_)
   have : ¬ l.all q0j = true := fun h => by
    have := List.all_eq_true.1 h (gt l k) (Z0F hkl)
    simp [this] at hb
   simp [this]
  ·refine wt ?_
   exact j0b (k + 1) ⟨by omega, by rw [Y0i hkl]; simp only [List.all_append, hall, List.all_cons, List.all_nil, Bool.and_true, Bool.true_and]; exact hb⟩ (by omega) (ent zS trivial)
 ·refine wt ?_
  have : k = l.length := by omega
  subst this
  rw [List.take_length] at hall
  exact j0c rfl (.tmp rfl) (congrArg vi (by simp [hall]))
theorem K0s (l : List Tr) : CtrA Tryz.prog 134 [ts l, .val (.func (.func 135) #[] #[])] (vi (w0z l)) := by
 refine j0s _ Tryz.func134 rfl rfl Tryz.ntmps134 rfl fun w Z => ?_
 refine zU ?_
 refine wt ?_
 (refine j0a rfl ?_ ?_ <;> intro hb <;> (try simp only [zA, zB, zG, zC, zD, zN] at hb) <;> (try exact zQ))
 ·refine wt ?_
  exact j0c rfl (.tmp rfl) (by simp [w0z]; omega)
 ·have hp := z1f l zO
  refine wt ?_
  exact j0c rfl (.tmp rfl) (congrArg vi (by simp [w0z, show ¬ 64 < l.length by omega]))
theorem x0D (l : List Tr) : CtrA Tryz.prog 73 [ts l] (vi (w0z l)) := by
 have h := K0s l
 refine j0s _ Tryz.func73 rfl rfl Tryz.ntmps73 rfl fun w Z => ?_
 refine zU ?_
 refine wt ?_
 exact zV
theorem J0S (l : List Tr) (hn : l.length ≤ 1000) : CtrA Tryz.prog 83 [ts l] (vi (w0z l)) := by
 have hC : w0z l = if 64 < l.length then 5 else if l.all q0j then 0 else 2 := rfl
 refine j0s _ Tryz.func83 rfl rfl Tryz.ntmps83 rfl fun w Z => ?_
 refine zU ?_
 refine wt ?_
 (refine j0a rfl ?_ ?_ <;> intro hb <;> (try simp only [zA, zB, zG, zC, zD, zN] at hb) <;> (try exact zQ))
 ·refine wt ?_
  exact j0c rfl (.tmp rfl) (by rw [hC, if_pos (by omega)])
 rw [if_neg (by omega)] at hC
 refine wt ?_
 refine j0g (γ := Nat) (fun k => [(0, .av (ts l)), (3, .av (vi k))]) (fun _ => []) (fun k => k ≤ l.length ∧ (l.take k).all q0j = true) (fun k => l.length - k) 0 ⟨Nat.zero_le _, rfl⟩ (ent zS trivial) ?_
 rintro k ⟨hk, hall⟩
 refine wt ?_
 (refine j0a rfl ?_ ?_ <;> intro hb <;> (try simp only [zA, zB, zG, zC, zD, zN] at hb) <;> (try exact zQ))
 ·have hkl : k < l.length := by omega
  have hr := k0d (gt l k)
  cases hg : q0j (gt l k) with
  |true =>
   rw [hg] at hr
   refine wt ?_
   exact j0b (k + 1) ⟨by omega, by rw [Y0i hkl]; simp only [List.all_append, hall, List.all_cons, List.all_nil, Bool.and_true, Bool.true_and]; exact hg⟩ (by omega) (ent zS trivial)
  |false =>
   rw [hg] at hr
   rw [if_neg (fun h => by have := List.all_eq_true.1 h _ (Z0F hkl); rw [hg] at this; cases this)] at hC
   refine wt ?_
   exact j0c rfl (.tmp rfl) (by rw [hC])
 ·have hkl : k = l.length := by omega
  subst hkl
  rw [List.take_length] at hall
  rw [if_pos hall] at hC
  refine wt ?_
  exact j0c rfl (.tmp rfl) (by rw [hC])
def Y1h (l : List Tr) : Bool := decide (l.length ≤ 6) || (decide (64 < l.length) && decide (l.length < 128))
theorem k0e (a b : Pt) (h1 : SmP a) (h2 : SmP b) : CtrA Tryz.prog 215 [pp a, pp b] (pp (sub a b)) := by
 simp only [SmP, Sm] at h1 h2
 refine j0s _ Tryz.func215 rfl rfl Tryz.ntmps215 rfl fun w Z => ?_
 refine zU ?_
 refine wt ?_
 exact j0c rfl (.agg (us := [_, _]) rfl rfl rfl rfl) rfl
theorem z1H {a b : Pt} (h1 : BdP a) (h2 : BdP b) : (-2250000000000000000 ≤ a.x * b.y ∧ a.x * b.y ≤ 2250000000000000000) ∧ (-2250000000000000000 ≤ a.y * b.x ∧ a.y * b.x ≤ 2250000000000000000) := ⟨W1T h1.1 h2.2, W1T h1.2 h2.1⟩
theorem Q1r (a b : Pt) (h1 : BdP a) (h2 : BdP b) : CtrA Tryz.prog 214 [pp a, pp b] (vi (trn a b)) := by
 obtain ⟨⟨m1, n1⟩, ⟨m2, n2⟩⟩ := z1H h1 h2
 refine j0s _ Tryz.func214 rfl rfl Tryz.ntmps214 rfl fun w Z => ?_
 refine zU ?_
 refine wt ?_
 exact zV
theorem Q1p (a b c : Pt) (h1 : SmP a) (h2 : SmP b) (h3 : SmP c) : CtrA Tryz.prog 147 [pp a, pp b, pp c] (vi (crs a b c)) := by
 have q1 := k0e _ _ h2 h1
 have q2 := k0e _ _ h3 h1
 have q3 := Q1r _ _ (k0s h2 h1) (k0s h3 h1)
 refine j0s _ Tryz.func147 rfl rfl Tryz.ntmps147 rfl fun w Z => ?_
 refine zU ?_
 refine wt ?_
 exact zV
theorem X1K (a b : Pt) (h1 : BdP a) (h2 : BdP b) : CtrA Tryz.prog 193 [pp a, pp b] (vi (trn a b)) := by
 obtain ⟨⟨m1, n1⟩, ⟨m2, n2⟩⟩ := z1H h1 h2
 refine j0s _ Tryz.func193 rfl rfl Tryz.ntmps193 rfl fun w Z => ?_
 refine zU ?_
 refine wt ?_
 exact zV
theorem q1V (a b : Tr) (h1 : BT 100000 a) (h2 : BT 100000 b) : CtrA Tryz.prog 304 [tp a, tp b] (tp (v1Y b a)) := by
 obtain ⟨⟨_, _⟩, ⟨_, _⟩, ⟨_, _⟩⟩ := h1
 obtain ⟨⟨_, _⟩, ⟨_, _⟩, ⟨_, _⟩⟩ := h2
 refine j0s _ Tryz.func304 rfl rfl Tryz.ntmps304 rfl fun w Z => ?_
 refine zU ?_
 refine wt ?_
 exact j0c rfl (.agg (us := [_, _, _]) rfl rfl rfl rfl) rfl
theorem V1m (a b : Tr) {A B : Int} (h1 : BT A a) (h2 : BT B b) (hab : A * B ≤ 1000000000000000000) : CtrA Tryz.prog 305 [tp a, tp b] (tp (tcr a b)) := by
 obtain ⟨m1, n1⟩ := q0t h1.y h2.z
 obtain ⟨m2, n2⟩ := q0t h1.z h2.y
 obtain ⟨m3, n3⟩ := q0t h1.z h2.x
 obtain ⟨m4, n4⟩ := q0t h1.x h2.z
 obtain ⟨m5, n5⟩ := q0t h1.x h2.y
 obtain ⟨m6, n6⟩ := q0t h1.y h2.x
 refine j0s _ Tryz.func305 rfl rfl Tryz.ntmps305 rfl fun w Z => ?_
 refine zU ?_
 refine wt ?_
 exact j0c rfl (.agg (us := [_, _, _]) rfl rfl rfl rfl) rfl
theorem W1E (a b c : Tr) (h1 : BT 100000 a) (h2 : BT 100000 b) (h3 : BT 100000 c) : CtrA Tryz.prog 256 [tp a, tp b, tp c] (tp (nvP a b c)) := by
 have e1 := q1V a b h1 h2
 have e2 := q1V a c h1 h3
 have e3 := V1m (v1Y b a) (v1Y c a) (h2.sub h1) (h3.sub h1) zE
 refine j0s _ Tryz.func256 rfl rfl Tryz.ntmps256 rfl fun w Z => ?_
 refine zU ?_
 refine wt ?_
 exact j0c rfl (.agg (us := [_, _, _]) rfl rfl rfl rfl) rfl
theorem z1F (a b c : Tr) (w : World) : (Instr.buildSlice 23 3 #[(0, .agg #[.int .i64 a.x, .int .i64 a.y, .int .i64 a.z]), (1, .agg #[.int .i64 b.x, .int .i64 b.y, .int .i64 b.z]), (2, .agg #[.int .i64 c.x, .int .i64 c.y, .int .i64 c.z])]).run Tryz.prog w = .ok (.slice (some ⟨w.heap.size, 0, none⟩) 3 3) (w.alloc (.cells #[.int .i64 a.x, .int .i64 a.y, .int .i64 a.z, .int .i64 b.x, .int .i64 b.y, .int .i64 b.z, .int .i64 c.x, .int .i64 c.y, .int .i64 c.z] 43)) := by kernel_rfl
theorem v1X (a b c : Tr) : ∀ (i : Nat), i < 3 → ∀ (j : Nat), j < 3 → ∃ u, ([Value.int .i64 a.x, .int .i64 a.y, .int .i64 a.z, .int .i64 b.x, .int .i64 b.y, .int .i64 b.z, .int .i64 c.x, .int .i64 c.y, .int .i64 c.z])[i * 3 + j]? = some u ∧ (match j with | 0 => AV.val (.int .i64 (gt [a, b, c] i).x) | 1 => .val (.int .i64 (gt [a, b, c] i).y) | _+2 => .val (.int .i64 (gt [a, b, c] i).z)) = AV.val u := by
 intro i hi j hj
 match i, hi, j, hj with
 |0, _, 0, _ => exact ⟨_, rfl, rfl⟩
 |0, _, 1, _ => exact ⟨_, rfl, rfl⟩
 |0, _, 2, _ => exact ⟨_, rfl, rfl⟩
 |1, _, 0, _ => exact ⟨_, rfl, rfl⟩
 |1, _, 1, _ => exact ⟨_, rfl, rfl⟩
 |1, _, 2, _ => exact ⟨_, rfl, rfl⟩
 |2, _, 0, _ => exact ⟨_, rfl, rfl⟩
 |2, _, 1, _ => exact ⟨_, rfl, rfl⟩
 |2, _, 2, _ => exact ⟨_, rfl, rfl⟩
theorem V0e {a : Tr} (h : BT 100000 a) : q0j a = true := by
 obtain ⟨⟨_, _⟩, ⟨_, _⟩, ⟨_, _⟩⟩ := h
 simp [q0j, inB]; omega
theorem V0J (a b c : Tr) (h1 : BT 100000 a) (h2 : BT 100000 b) (h3 : BT 100000 c) : CtrA Tryz.prog 196 [tp a, tp b, tp c] (j0x [tp (nvP a b c), vi 0]) := by
 have q := z1f [a, b, c] (by simp)
 rw [if_pos (by simp [V0e h1, V0e h2, V0e h3])] at q
 have q2 := W1E a b c h1 h2 h3
 refine j0s _ Tryz.func196 rfl rfl Tryz.ntmps196 rfl fun w Z => ?_
 refine zU ?_
 refine wt ?_
 refine j0j (j0S (row := tf [a, b, c]) (is := [0, 1, 2]) (xs := [_, _, _]) (vs := [_, _, _]) (us := [_, _, _, _, _, _, _, _, _]) (z1F a b c) rfl rfl rfl (v1X a b c)) rfl ?_
 refine wt ?_
 exact j0t (rvs := [_, _]) (τs := [_, _]) rfl rfl ⟨.agg (us := [_, _, _]) rfl rfl rfl rfl, .tmp rfl, trivial⟩ rfl
def ixB (p : Nat → Bool) (n : Nat) : Int := match (List.range n).find? p with | some k => k | none => -1
theorem Y0j {p : Nat → Bool} {n k : Nat} (hk : k < n) (hall : ∀ j, j < k → p j = false) (hp : p k = true) : ixB p n = k := by
 have : (List.range n).find? p = some k := by
  rw [List.find?_range_eq_some]
  exact ⟨hp, by simpa using hk, fun j hj => by simp [hall j hj]⟩
 unfold ixB; rw [this]
theorem Z0M {p : Nat → Bool} {n : Nat} (hall : ∀ j, j < n → p j = false) : ixB p n = -1 := by
 have : (List.range n).find? p = none := by
  rw [List.find?_eq_none]
  intro x hx
  simp [hall x (List.mem_range.1 hx)]
 unfold ixB; rw [this]
theorem Z0w {p : Nat → Bool} {n : Nat} (h : ∀ k, k < n → p k = false) (hn : p n = false) : ∀ k, k < n + 1 → p k = false := fun k hk => by
 by_cases e : k = n
 ·subst e; exact hn
 ·exact h k zO
abbrev lp (l : List Pt) : AV := .ptr 1 (fun _ => pts l)
abbrev ccl (l : List Pt) : AV := .clo 191 1 (fun i => [lp l].getD i .any)
theorem Y1Q (l : List Pt) (p : Pt) (h : 0 < l.length) : CtrA Tryz.prog 191 [pp p, lp l] (vb (decide (p ≠ gp l 0))) := by
 refine j0s _ Tryz.func191 rfl rfl Tryz.ntmps191 rfl fun w Z => ?_
 refine zU ?_
 refine wt ?_
 exact j0c rfl (.tmp rfl) (congrArg vb (by rw [W1U]; simp))
theorem Y1P (l : List Pt) (hn : l.length ≤ 1000) : CtrA Tryz.prog 190 [pts l, ccl l] (vi (ixB (fun k => decide (gp l k ≠ gp l 0)) l.length)) := by
 refine j0s _ Tryz.func190 rfl rfl Tryz.ntmps190 rfl fun w Z => ?_
 refine zU ?_
 refine wt ?_
 refine j0g (γ := Nat) (fun k => [(0, .av (pts l)), (1, .av (ccl l)), (6, .av (pts l)), (7, .av (vi l.length)), (8, .av (vi k))]) (fun _ => []) (fun k => k ≤ l.length ∧ ∀ j, j < k → decide (gp l j ≠ gp l 0) = false) (fun k => l.length - k) 0 ⟨Nat.zero_le _, by omega⟩ (ent zS trivial) ?_
 rintro k ⟨hk, hall⟩
 refine wt ?_
 (refine j0a rfl ?_ ?_ <;> intro hb <;> (try simp only [zA, zB, zG, zC, zD, zN] at hb) <;> (try exact zQ))
 ·have hkl : k < l.length := by omega
  have hgk := Y1Q l (gp l k) zO
  refine wt ?_
  refine j0a rfl (fun hb => ?_) (fun hb => ?_)
  ·have e1 := Y0j (p := fun k => decide (gp l k ≠ gp l 0)) hkl hall hb
   refine wt ?_
   exact j0c rfl (.tmp rfl) (by rw [e1])
  ·refine wt ?_
   exact j0b (k + 1) ⟨by omega, Z0w (p := fun k => decide (gp l k ≠ gp l 0)) hall hb⟩ zO (ent zS trivial)
 ·have hkl : k = l.length := by omega
  subst hkl
  have e1 := Z0M (p := fun k => decide (gp l k ≠ gp l 0)) hall
  refine wt ?_
  exact j0c rfl (.tmp rfl) (by rw [e1])
def w0M (l : List Pt) : Bool := match (List.range l.length).find? (fun k => decide (gp l k ≠ gp l 0)) with
 |none => true
 |some k => (List.range l.length).all fun i => decide (trn (sub (gp l k) (gp l 0)) (sub (gp l i) (gp l 0)) = 0)
def w1O (l : List Pt) : Bool := if chk l = 0 then w0M l else false
theorem y1x {l : List Pt} (h : chk l = 0) : (∀ i, SmP (gp l i)) ∧ l.length ≤ 64 := by
 unfold chk at h
 split at h
 ·omega
 ·split at h
  ·rename_i h1 h2
   refine ⟨V1C (q := SmP) (fun p hp => ?_) Y1t, by omega⟩
   have := List.all_eq_true.1 h2 p hp
   simp [y0C, inB] at this
   simp only [SmP, Sm]; omega
  ·omega
theorem V1L (l : List Pt) : CtrA Tryz.prog 126 [pts l] (j0x [vb (w1O l), vi (chk l)]) := by
 have q := x1u l
 have hC : w1O l = if chk l = 0 then w0M l else false := rfl
 refine j0s _ Tryz.func126 rfl rfl Tryz.ntmps126 rfl fun w Z => ?_
 refine zU ?_
 refine wt ?_
 (refine j0a rfl ?_ ?_ <;> intro hb <;> (try simp only [zA, zB, zG, zC, zD, zN] at hb) <;> (try exact zQ))
 ·rw [if_neg hb] at hC
  refine wt ?_
  exact j0t (rvs := [_, _]) (τs := [_, _]) rfl rfl ⟨.tmp rfl, .tmp rfl, trivial⟩ (by rw [hC])
 rw [if_pos hb] at hC
 obtain ⟨sm, h64⟩ := y1x hb
 have hx := Y1P l zO
 cases hf : (List.range l.length).find? (fun k => decide (gp l k ≠ gp l 0)) with
 |none =>
  have e1 : ixB (fun k => decide (gp l k ≠ gp l 0)) l.length = -1 := by unfold ixB; rw [hf]
  rw [e1] at hx
  have e2 : w0M l = true := by unfold w0M; rw [hf]
  refine wt ?_
  exact j0t (rvs := [_, _]) (τs := [_, _]) rfl rfl ⟨.tmp rfl, .tmp rfl, trivial⟩ (by rw [hC, e2, hb])
 |some k =>
  have e1 : ixB (fun k => decide (gp l k ≠ gp l 0)) l.length = k := by unfold ixB; rw [hf]
  rw [e1] at hx
  have hk : k < l.length := List.mem_range.1 (List.mem_of_find?_eq_some hf)
  have e2 : w0M l = (List.range l.length).all fun i => decide (trn (sub (gp l k) (gp l 0)) (sub (gp l i) (gp l 0)) = 0) := by unfold w0M; rw [hf]
  have ht := Z1N (gp l 0) (gp l k) (sm 0) (sm k)
  refine wt ?_
  refine j0g (γ := Nat) (fun i => [(1, .av (lp l)), (7, .av (.val (.func (.func 193) #[.agg #[.int .i64 (sub (gp l k) (gp l 0)).x, .int .i64 (sub (gp l k) (gp l 0)).y]] #[]))), (30, .av (pts l)), (31, .av (vi l.length)), (32, .av (vi i))]) (fun _ => []) (fun i => i ≤ l.length ∧ ∀ j, j < i → trn (sub (gp l k) (gp l 0)) (sub (gp l j) (gp l 0)) = 0) (fun i => l.length - i) 0 ⟨Nat.zero_le _, by omega⟩ (ent zS trivial) ?_
  rintro i ⟨hi, hall⟩
  refine wt ?_
  (refine j0a rfl ?_ ?_ <;> intro hb <;> (try simp only [zA, zB, zG, zC, zD, zN] at hb) <;> (try exact zQ))
  ·have hil : i < l.length := by omega
   have ht2 := Z1N (gp l 0) (gp l i) (sm 0) (sm i)
   have ht3 := X1K (sub (gp l k) (gp l 0)) (sub (gp l i) (gp l 0)) (k0s (sm k) (sm 0)) (k0s (sm i) (sm 0))
   refine wt ?_
   (refine j0a rfl ?_ ?_ <;> intro hb <;> (try simp only [zA, zB, zG, zC, zD, zN] at hb) <;> (try exact zQ))
   ·have e3 : w0M l = false := by
     rw [e2, List.all_eq_false]
     exact ⟨i, List.mem_range.2 hil, by simpa using hb⟩
    refine wt ?_
    exact j0t (rvs := [_, _]) (τs := [_, _]) rfl rfl ⟨.tmp rfl, .tmp rfl, trivial⟩ (by rw [hC, e3, ‹chk l = 0›])
   ·refine wt ?_
    exact j0b (i + 1) ⟨by omega, v0u hall hb⟩ zO (ent zS trivial)
  ·have hil : i = l.length := by omega
   subst hil
   have e3 : w0M l = true := by
    rw [e2, List.all_eq_true]
    exact fun j hj => decide_eq_true (hall j (List.mem_range.1 hj))
   refine wt ?_
   exact j0t (rvs := [_, _]) (τs := [_, _]) rfl rfl ⟨.tmp rfl, .tmp rfl, trivial⟩ (by rw [hC, e3, ‹chk l = 0›])
theorem V0l (p : Tr) : CtrA Tryz.prog 198 [tp p] (tp p) := by
 refine j0s _ Tryz.func198 rfl rfl Tryz.ntmps198 rfl fun w Z => ?_
 refine zU ?_
 refine wt ?_
 exact j0c rfl (.agg (us := [_, _, _]) rfl rfl rfl rfl) rfl
theorem x1v (p : Tr) : CtrA Tryz.prog 194 [tp p, vi 0] (pp (plc 0 p)) := by
 have h := V0l p
 refine j0s _ Tryz.func194 rfl rfl Tryz.ntmps194 rfl fun w Z => ?_
 refine zU ?_
 refine wt ?_
 exact j0c rfl (.agg (us := [_, _]) rfl rfl rfl rfl) rfl
theorem z1v (a b c : Int) (w : World) : (Instr.index 22 (.agg [.int .i64 a, .int .i64 b, .int .i64 c].toArray) (.int .i64 0)).run Tryz.prog w = .ok (.int .i64 a) w := by kernel_rfl
theorem q1Q (p : Tr) : CtrA Tryz.prog 113 [vi 0, tp p] (vi (cz p 0)) := by
 refine j0s _ Tryz.func113 rfl rfl Tryz.ntmps113 rfl fun w Z => ?_
 refine zU ?_
 refine wt ?_
 refine j0j (q0i (z1v _ _ _) rfl rfl) rfl ?_
 refine wt ?_
 exact zV
theorem v1c (p : Tr) : CtrA Tryz.prog 148 [tp p, vi 0] (pp (plc 0 p)) := by
 refine j0s _ Tryz.func148 rfl rfl Tryz.ntmps148 rfl fun w Z => ?_
 refine zU ?_
 refine wt ?_
 exact j0c rfl (.agg (us := [_, _]) rfl rfl rfl rfl) rfl
theorem x1w (p : Tr) : CtrA Tryz.prog 194 [tp p, vi 1] (pp (plc 1 p)) := by
 have h := V0l p
 refine j0s _ Tryz.func194 rfl rfl Tryz.ntmps194 rfl fun w Z => ?_
 refine zU ?_
 refine wt ?_
 exact j0c rfl (.agg (us := [_, _]) rfl rfl rfl rfl) rfl
theorem z1w (a b c : Int) (w : World) : (Instr.index 22 (.agg [.int .i64 a, .int .i64 b, .int .i64 c].toArray) (.int .i64 1)).run Tryz.prog w = .ok (.int .i64 b) w := by kernel_rfl
theorem q1R (p : Tr) : CtrA Tryz.prog 113 [vi 1, tp p] (vi (cz p 1)) := by
 refine j0s _ Tryz.func113 rfl rfl Tryz.ntmps113 rfl fun w Z => ?_
 refine zU ?_
 refine wt ?_
 refine j0j (q0i (z1w _ _ _) rfl rfl) rfl ?_
 refine wt ?_
 exact zV
theorem v1d (p : Tr) : CtrA Tryz.prog 148 [tp p, vi 1] (pp (plc 1 p)) := by
 refine j0s _ Tryz.func148 rfl rfl Tryz.ntmps148 rfl fun w Z => ?_
 refine zU ?_
 refine wt ?_
 exact j0c rfl (.agg (us := [_, _]) rfl rfl rfl rfl) rfl
theorem x1x (p : Tr) : CtrA Tryz.prog 194 [tp p, vi 2] (pp (plc 2 p)) := by
 have h := V0l p
 refine j0s _ Tryz.func194 rfl rfl Tryz.ntmps194 rfl fun w Z => ?_
 refine zU ?_
 refine wt ?_
 exact j0c rfl (.agg (us := [_, _]) rfl rfl rfl rfl) rfl
theorem z1x (a b c : Int) (w : World) : (Instr.index 22 (.agg [.int .i64 a, .int .i64 b, .int .i64 c].toArray) (.int .i64 2)).run Tryz.prog w = .ok (.int .i64 c) w := by kernel_rfl
theorem q1S (p : Tr) : CtrA Tryz.prog 113 [vi 2, tp p] (vi (cz p 2)) := by
 refine j0s _ Tryz.func113 rfl rfl Tryz.ntmps113 rfl fun w Z => ?_
 refine zU ?_
 refine wt ?_
 refine j0j (q0i (z1x _ _ _) rfl rfl) rfl ?_
 refine wt ?_
 exact zV
theorem v1e (p : Tr) : CtrA Tryz.prog 148 [tp p, vi 2] (pp (plc 2 p)) := by
 refine j0s _ Tryz.func148 rfl rfl Tryz.ntmps148 rfl fun w Z => ?_
 refine zU ?_
 refine wt ?_
 exact j0c rfl (.agg (us := [_, _]) rfl rfl rfl rfl) rfl
theorem place_c (p : Tr) {k : Nat} (hk : k < 3) : CtrA Tryz.prog 194 [tp p, vi (k : Int)] (pp (plc k p)) := by
 rcases (by omega : k = 0 ∨ k = 1 ∨ k = 2) with rfl | rfl | rfl
 ·exact x1v p
 ·exact x1w p
 ·exact x1x p
theorem x1H (p : Tr) {k : Nat} (hk : k < 3) : CtrA Tryz.prog 148 [tp p, vi (k : Int)] (pp (plc k p)) := by
 rcases (by omega : k = 0 ∨ k = 1 ∨ k = 2) with rfl | rfl | rfl
 ·exact v1c p
 ·exact v1d p
 ·exact v1e p
theorem V0R (p : Tr) {k : Nat} (hk : k < 3) : CtrA Tryz.prog 113 [vi (k : Int), tp p] (vi (cz p k)) := by
 rcases (by omega : k = 0 ∨ k = 1 ∨ k = 2) with rfl | rfl | rfl
 ·exact q1Q p
 ·exact q1R p
 ·exact q1S p
def x0K (l : List Tr) (k : Nat) : List Pt := l.map (plc k)
theorem y0U {l : List Tr} {k i : Nat} (h : i < l.length) : gp (x0K l k) i = plc k (gt l i) := by simp [gp, x0K, gt, h, List.getD]
theorem y0A {l : List Tr} {k i : Nat} (h : i < l.length) : x0K (l.take (i + 1)) k = x0K (l.take i) k ++ [plc k (gt l i)] := by rw [Y0i h, x0K, List.map_append]; rfl
theorem x0B (l : List Tr) (k : Nat) : (x0K l k).length = l.length := by simp [x0K]
theorem x1y (l : List Tr) {k : Nat} (hk : k < 3) (hn : l.length ≤ 1000) : CtrR Tryz.prog 127 [ts l, vi (k : Int)] 209 2 (x0K l k).length (pf (x0K l k)) [] := by
 refine K0L _ Tryz.func127 rfl rfl Tryz.ntmps127 rfl fun w Z => ?_
 refine zU ?_
 refine wt ?_
 refine j0g (γ := Nat) (fun i => [(1, .av (vi (k : Int))), (5, .osl 20), (8, .av (ts l)), (9, .av (vi l.length)), (10, .av (vi i))]) (fun i => [(20, .row 209 2 (x0K (l.take i) k).length (pf (x0K (l.take i) k)))]) (fun i => i ≤ l.length) (fun i => l.length - i) 0 (Nat.zero_le _) ((v0L (dd := 5) 20 209 2 (pf []) rfl rfl).trans (ent zS zT)) ?_
 intro i hi
 refine wt ?_
 (refine j0a rfl ?_ ?_ <;> intro hb <;> (try simp only [zA, zB, zG, zC, zD, zN] at hb) <;> (try exact zQ))
 ·have hil : i < l.length := by omega
  have hp := place_c (gt l i) hk
  have hl := x0B (l.take i) k
  rw [List.length_take] at hl
  refine wt ?_
  exact j0b (i + 1) (by omega) (by omega) (ent zS ⟨⟨_, rfl, .row (by rw [y0A hil]) (fun _ _ _ _ => by rw [y0A hil])⟩, trivial⟩)
 ·have hil : i = l.length := by omega
  subst hil
  refine wt ?_
  exact x0Y rfl rfl rfl (by rw [List.take_length]) (fun _ _ _ _ => by rw [List.take_length])
theorem v1f (l : List Tr) {k : Nat} (hk : k < 3) (hn : l.length ≤ 1000) : CtrR Tryz.prog 85 [ts l, vi (k : Int)] 209 2 (x0K l k).length (pf (x0K l k)) [] := by
 refine K0L _ Tryz.func85 rfl rfl Tryz.ntmps85 rfl fun w Z => ?_
 refine zU ?_
 refine wt ?_
 refine j0g (γ := Nat) (fun i => [(0, .av (ts l)), (1, .av (vi (k : Int))), (5, .osl 20), (6, .av (vi i))]) (fun i => [(20, .row 209 2 (x0K (l.take i) k).length (pf (x0K (l.take i) k)))]) (fun i => i ≤ l.length) (fun i => l.length - i) 0 (Nat.zero_le _) ((v0L (dd := 5) 20 209 2 (pf []) rfl rfl).trans (ent zS zT)) ?_
 intro i hi
 refine wt ?_
 (refine j0a rfl ?_ ?_ <;> intro hb <;> (try simp only [zA, zB, zG, zC, zD, zN] at hb) <;> (try exact zQ))
 ·have hil : i < l.length := by omega
  have hp := x1H (gt l i) hk
  have hl := x0B (l.take i) k
  rw [List.length_take] at hl
  refine wt ?_
  exact j0b (i + 1) (by omega) (by omega) (ent zS ⟨⟨_, rfl, .row (by rw [y0A hil]) (fun _ _ _ _ => by rw [y0A hil])⟩, trivial⟩)
 ·have hil : i = l.length := by omega
  subst hil
  refine wt ?_
  exact x0Y rfl rfl rfl (by rw [List.take_length]) (fun _ _ _ _ => by rw [List.take_length])
theorem y1r (a : Int) : CtrA Tryz.prog 125 [vi a] (vi (if 0 ≤ a ∧ a ≤ 2 then 0 else 1)) := by
 refine j0s _ Tryz.func125 rfl rfl Tryz.ntmps125 rfl fun w Z => ?_
 refine zU ?_
 (refine wt ?_; repeat' (((first | refine j0f rfl rfl ?_ ?_ | refine j0e rfl rfl ?_ ?_) <;> intro hb <;> (try simp only [zA, zB, zG, zC, zD, zN] at hb) <;> (try exact zQ)) <;> refine wt ?_))
 ·exact j0c rfl (.tmp rfl) (congrArg vi (by rw [if_neg (by omega)]))
 ·(refine j0a rfl ?_ ?_ <;> intro hb <;> (try simp only [zA, zB, zG, zC, zD, zN] at hb) <;> (try exact zQ))
  ·refine wt ?_
   exact j0c rfl (.tmp rfl) (congrArg vi (by rw [if_neg (by omega)]))
  ·refine wt ?_
   exact j0c rfl (.tmp rfl) (congrArg vi (by rw [if_pos (by omega)]))
def w1t (l : List Tr) (a : Int) : Int := if w0z l ≠ 0 then w0z l else if 0 ≤ a ∧ a ≤ 2 then 0 else 1
theorem J1K (l : List Tr) (a : Int) : CtrA Tryz.prog 70 [ts l, vi a] (vi (w1t l a)) := by
 have h1 := x0D l
 have h2 := y1r a
 refine j0s _ Tryz.func70 rfl rfl Tryz.ntmps70 rfl fun w Z => ?_
 refine zU ?_
 refine wt ?_
 (refine j0a rfl ?_ ?_ <;> intro hb <;> (try simp only [zA, zB, zG, zC, zD, zN] at hb) <;> (try exact zQ))
 ·refine wt ?_
  exact j0c rfl (.tmp rfl) (congrArg vi (by unfold w1t; rw [if_pos hb]))
 ·refine wt ?_
  exact j0c rfl (.tmp rfl) (congrArg vi (by unfold w1t; rw [if_neg (c := w0z l ≠ 0) (fun h => h hb)]))
def J0b (l : List Pt) : Bool := (List.range l.length).all fun i => (List.range i).all fun j => (List.range j).all fun k => decide (crs (gp l i) (gp l j) (gp l k) = 0)
theorem K0x (l : List Pt) (sm : ∀ i, SmP (gp l i)) (hn : l.length ≤ 1000) : CtrA Tryz.prog 84 [pts l] (vb (J0b l)) := by
 refine j0s _ Tryz.func84 rfl rfl Tryz.ntmps84 rfl fun w Z => ?_
 refine zU ?_
 refine wt ?_
 refine j0g (γ := Nat) (fun i => [(0, .av (pts l)), (3, .av (vi i))]) (fun _ => []) (fun i => i ≤ l.length ∧ ∀ a, a < i → ∀ b, b < a → ∀ c, c < b → crs (gp l a) (gp l b) (gp l c) = 0) (fun i => l.length - i) 0 ⟨Nat.zero_le _, by omega⟩ (ent zS trivial) ?_
 rintro i ⟨hi, hI⟩
 refine wt ?_
 (refine j0a rfl ?_ ?_ <;> intro hb <;> (try simp only [zA, zB, zG, zC, zD, zN] at hb) <;> (try exact zQ))
 ·have hil : i < l.length := by omega
  refine wt ?_
  refine j0g (γ := Nat) (fun j => [(0, .av (pts l)), (3, .av (vi i)), (4, .av (vi j))]) (fun _ => []) (fun j => j ≤ i ∧ ∀ b, b < j → ∀ c, c < b → crs (gp l i) (gp l b) (gp l c) = 0) (fun j => i - j) 0 ⟨Nat.zero_le _, by omega⟩ (ent zS trivial) ?_
  rintro j ⟨hj, hJ⟩
  refine wt ?_
  (refine j0a rfl ?_ ?_ <;> intro hb <;> (try simp only [zA, zB, zG, zC, zD, zN] at hb) <;> (try exact zQ))
  ·have hji : j < i := by omega
   refine wt ?_
   refine j0g (γ := Nat) (fun k => [(0, .av (pts l)), (3, .av (vi i)), (4, .av (vi j)), (5, .av (vi k))]) (fun _ => []) (fun k => k ≤ j ∧ ∀ c, c < k → crs (gp l i) (gp l j) (gp l c) = 0) (fun k => j - k) 0 ⟨Nat.zero_le _, by omega⟩ (ent zS trivial) ?_
   rintro k ⟨hk, hK⟩
   refine wt ?_
   (refine j0a rfl ?_ ?_ <;> intro hb <;> (try simp only [zA, zB, zG, zC, zD, zN] at hb) <;> (try exact zQ))
   ·have hkj : k < j := by omega
    have hc := Q1p (gp l i) (gp l j) (gp l k) (sm i) (sm j) (sm k)
    refine wt ?_
    (refine j0a rfl ?_ ?_ <;> intro hb <;> (try simp only [zA, zB, zG, zC, zD, zN] at hb) <;> (try exact zQ))
    ·refine wt ?_
     refine j0c rfl (.tmp rfl) (congrArg vb ?_)
     symm
     unfold J0b
     rw [List.all_eq_false]
     refine ⟨i, List.mem_range.2 hil, ?_⟩
     rw [Bool.not_eq_true, List.all_eq_false]
     refine ⟨j, List.mem_range.2 hji, ?_⟩
     rw [Bool.not_eq_true, List.all_eq_false]
     exact ⟨k, List.mem_range.2 hkj, by simpa using hb⟩
    ·refine wt ?_
     exact j0b (k + 1) ⟨by omega, v0u hK hb⟩ zO (ent zS trivial)
   ·have e : k = j := by omega
    subst e
    refine wt ?_
    exact j0b (k + 1) ⟨by omega, v0u hJ hK⟩ zO (ent zS trivial)
  ·have e : j = i := by omega
   subst e
   refine wt ?_
   exact j0b (j + 1) ⟨by omega, v0u hI hJ⟩ zO (ent zS trivial)
 ·have e : i = l.length := by omega
  subst e
  refine wt ?_
  refine j0c rfl (.tmp rfl) (congrArg vb ?_)
  symm
  unfold J0b
  rw [List.all_eq_true]
  intro a ha
  rw [List.all_eq_true]
  intro b hb1
  rw [List.all_eq_true]
  intro c hc
  exact decide_eq_true (hI a (List.mem_range.1 ha) b (List.mem_range.1 hb1) c (List.mem_range.1 hc))
end Go.Proofs.YtfggdokihnopeaaGreatDoor.H
namespace Go.Proofs.YtfggdokihnopeaaGreatDoor.H
open Go Go.Vc Go.Na
def onD (l : List Tr) (n : Tr) (m : Int) (k : Nat) : List Nat := (List.range k).filter fun j => decide (w0k n (gt l j) = m)
theorem V0L (l : List Tr) (n : Tr) (m : Int) (k : Nat) : onD l n m (k + 1) = if w0k n (gt l k) = m then onD l n m k ++ [k] else onD l n m k := by
 unfold onD
 rw [List.range_succ, List.filter_append]
 by_cases h : w0k n (gt l k) = m <;> simp [h]
theorem Y0s (l : List Tr) (n : Tr) (m : Int) (k : Nat) : (onD l n m k).length ≤ k := by
 have := List.length_filter_le (fun j => decide (w0k n (gt l j) = m)) (List.range k)
 simpa [onD] using this
theorem W0f {l : List Tr} {k a b c : Nat} (hk : k < 3) (hn : cz (nvP (gt l a) (gt l b) (gt l c)) k ≠ 0) {i : Nat} (hi : i < l.length) (h : w0k (nP l k a b c) (gt l i) < mP l k a b c) : thr l k a b c = none := by
 unfold thr mkP
 rw [if_neg hn, if_pos]
 unfold J1R
 rw [List.any_eq_true]
 exact ⟨i, List.mem_range.2 hi, decide_eq_true ((x0V hk hn _).1.2 h)⟩
theorem W0g {l : List Tr} {k a b c : Nat} (hk : k < 3) (hn : cz (nvP (gt l a) (gt l b) (gt l c)) k ≠ 0) (h : ∀ i, i < l.length → mP l k a b c ≤ w0k (nP l k a b c) (gt l i)) :
  thr l k a b c = some ⟨aP l k a b c, bP l k a b c, cP l k a b c, onD l (nP l k a b c) (mP l k a b c) l.length⟩ := by
 unfold thr mkP
 rw [if_neg hn, if_neg]
 ·have : onL l k (aP l k a b c) (bP l k a b c) (cP l k a b c) l.length = onD l (nP l k a b c) (mP l k a b c) l.length := by
   unfold onL onD
   exact List.filter_congr fun i _ => decide_eq_decide.2 (x0V hk hn _).2
  rw [this]
 ·unfold J1R
  rw [Bool.not_eq_true, List.any_eq_false]
  intro i hi
  have := h i (List.mem_range.1 hi)
  rw [decide_eq_true_eq, (x0V hk hn _).1]
  omega
theorem W0h {l : List Tr} {k a b c : Nat} (hn : cz (nvP (gt l a) (gt l b) (gt l c)) k = 0) : thr l k a b c = none := by
 unfold thr; rw [if_pos hn]
end Go.Proofs.YtfggdokihnopeaaGreatDoor.H
namespace Go.Proofs.YtfggdokihnopeaaGreatDoor.H
open Go Go.Vc Go.RowKit Go.Na Go.Lib
set_option maxHeartbeats 4000000
theorem w0I (n d : Int) (hn : -9000000000000000000 ≤ n ∧ n ≤ 9000000000000000000) (hd : -9000000000000000000 ≤ d ∧ d ≤ 9000000000000000000) (h0 : d ≠ 0) : CtrA Tryz.prog 199 [vi n, vi d] (j0x [vR (Rat.divInt n d), vi 0]) := by
 have h1 := W0s n zO
 have h2 := W0s d zO
 have l : ∀ x : Int, -9000000000000000000 ≤ x ∧ x ≤ 9000000000000000000 → LI 1000 x := fun x hx => LI.mono (k := 19) (show x.natAbs < 10 ^ 19 by omega) zE
 have h3 := x1D n d (l n hn) (l d hd) h0
 refine j0s _ Tryz.func199 rfl rfl Tryz.ntmps199 rfl fun w Z => ?_
 refine zU ?_
 refine wt ?_
 exact zW
def tpf (n : Tr) : Nat → AV := fun i => match i with | 0 => vi n.x | 1 => vi n.y | _ => vi n.z
theorem Q0s (n p : Tr) (hn : BT 1000000000000 n) (hp : BT 100000 p) : CtrA Tryz.prog 197 [tp p, .ptr 3 (tpf n)] (vi (w0k n p)) := by
 have h := V0l p
 obtain ⟨m1, n1⟩ := q0t hn.x hp.x
 obtain ⟨m2, n2⟩ := q0t hn.y hp.y
 obtain ⟨m3, n3⟩ := q0t hn.z hp.z
 refine j0s _ Tryz.func197 rfl rfl Tryz.ntmps197 rfl fun w Z => ?_
 refine zU ?_
 refine wt ?_
 exact zV
theorem K0z : Tryz.prog.built 69 [] = some #[.int .i64 0, .string (bs []), .string (bs []), .string (bs []), .slice none 0 0] := by kernel_rfl
theorem Q1L (k : Int) : Tryz.prog.built 69 [(0, .int .i64 k)] = some #[.int .i64 k, .string (bs []), .string (bs []), .string (bs []), .slice none 0 0] := by kernel_rfl
theorem y0F (n : Int) (p : Option Addr) : Tryz.prog.built 266 [(0, .pointer p), (1, .int .i64 n)] = some #[.pointer p, .int .i64 n] := by kernel_rfl
theorem v1U (n1 n2 n3 : Int) (p1 p2 p3 : Option Addr) (w : World) : (Instr.buildSlice 267 3 #[(0, .agg #[.pointer p1, .int .i64 n1]), (1, .agg #[.pointer p2, .int .i64 n2]), (2, .agg #[.pointer p3, .int .i64 n3])]).run Tryz.prog w = .ok (.slice (some ⟨w.heap.size, 0, none⟩) 3 3) (w.alloc (.cells #[.pointer p1, .int .i64 n1, .pointer p2, .int .i64 n2, .pointer p3, .int .i64 n3] 266)) := by kernel_rfl
abbrev pZ : AV := .val (.agg #[.int .i64 0, .string (bs []), .string (bs []), .string (bs []), .slice none 0 0])
def pAf (k : Int) (a b c : List UInt8) (s : AV) : Nat → AV := fun i => match i with | 0 => vi k | 1 => vS a | 2 => vS b | 3 => vS c | _ => s
abbrev pA (k : Int) (a b c : List UInt8) (s : AV) : AV := .agg 5 (pAf k a b c s)
theorem x0X (k : Int) (a b c : List UInt8) (l : List Nat) : ∀ i, i < 5 → (pAf k a b c (idx l) i).one = true := by
 intro i hi
 rcases (by omega : i = 0 ∨ i = 1 ∨ i = 2 ∨ i = 3 ∨ i = 4) with rfl | rfl | rfl | rfl | rfl <;> rfl
abbrev pR (k : Int) (P : Pl) : AV := pA k (rtx P.A) (rtx P.B) (rtx P.C) (idx P.s)
theorem BT.neg {A : Int} {n : Tr} (h : BT A n) : BT A ⟨-n.x, -n.y, -n.z⟩ := ⟨⟨by have := h.x; show -A ≤ -n.x; omega, by have := h.x; show -n.x ≤ A; omega⟩, ⟨by have := h.y; show -A ≤ -n.y; omega, by have := h.y; show -n.y ≤ A; omega⟩, ⟨by have := h.z; show -A ≤ -n.z; omega, by have := h.z; show -n.z ≤ A; omega⟩⟩
theorem BT.nv {a b c : Tr} (h1 : BT 100000 a) (h2 : BT 100000 b) (h3 : BT 100000 c) : BT 80000000000 (nvP a b c) := ((h2.sub h1).cr (h3.sub h1)).le (by decide)
theorem BT.np {l : List Tr} (hl : RT l) (k a b c : Nat) : BT 80000000000 (nP l k a b c) := by
 unfold nP upP
 split
 ·exact (BT.nv (hl a) (hl b) (hl c)).neg
 ·exact BT.nv (hl a) (hl b) (hl c)
abbrev at3 (a b c : Nat) : AV := .val (.agg #[.int .i64 a, .int .i64 b, .int .i64 c])
theorem BT.sq {A : Int} {n : Tr} (h : BT A n) : ((-A ≤ n.x ∧ n.x ≤ A) ∧ (-A ≤ n.y ∧ n.y ≤ A)) ∧ (-A ≤ n.z ∧ n.z ≤ A) := ⟨⟨h.x, h.y⟩, h.z⟩
def Y1z (k : Int) (A B C : Rat) : Nat → List SV
 |0 => [.av (vi k), .av (vS []), .av (vS []), .av (vS []), .osl 20]
 |1 => [.av (vi k), .av (vR A), .av (vS []), .av (vS []), .osl 20]
 |2 => [.av (vi k), .av (vR A), .av (vR B), .av (vS []), .osl 20]
 |_ => [.av (vi k), .av (vR A), .av (vR B), .av (vR C), .osl 20]
def Y1i (k : Int) : Option Pl → AV
 |none => j0x [pZ, vb false, vi 0]
 |some P => j0x [pR k P, vb true, vi 0]
theorem K0A (l : List Tr) (hl : RT l) (a b c : Nat) (ha : a < l.length) (hb' : b < l.length) (hc : c < l.length) (hn : l.length ≤ 1000) : CtrA Tryz.prog 129 [ts l, vi 0, at3 a b c] (Y1i 0 (thr l 0 a b c)) := by
 have h1 := V0J (gt l a) (gt l b) (gt l c) (hl a) (hl b) (hl c)
 refine j0s _ Tryz.func129 rfl rfl Tryz.ntmps129 rfl fun w Z => ?_
 refine zU ?_
 refine wt ?_
 (refine j0a rfl ?_ ?_ <;> intro hb <;> (try simp only [zA, zB, zG, zC, zD, zN] at hb) <;> (try exact zQ))
 ·refine wt ?_
  refine j0j (j0m (t := 69) (is := []) (xs := []) (vs := []) K0z rfl rfl) rfl ?_
  refine wt ?_
  rw [W0h (k := 0) hb]
  exact j0t (rvs := [_, _, _]) (τs := [_, _, _]) rfl rfl ⟨.agg (us := [_, _, _, _, _]) rfl rfl rfl rfl, .tmp rfl, .tmp rfl, trivial⟩ rfl
 have hne : cz (nvP (gt l a) (gt l b) (gt l c)) 0 ≠ 0 := hb
 have hpos : 0 < cz (nP l 0 a b c) 0 := x0p hne
 have hT0 := @W0f l 0 a b c zE hne
 have hT1 := @W0g l 0 a b c zE hne
 have hnb := BT.np hl 0 a b c
 have hmb := j1h hnb (hl a)
 have hnP : nP l 0 a b c = upP 0 (nvP (gt l a) (gt l b) (gt l c)) := rfl
 have hm : mP l 0 a b c = w0k (nP l 0 a b c) (gt l a) := rfl
 have hA : aP l 0 a b c = Rat.divInt (mP l 0 a b c) (nP l 0 a b c).x := rfl
 have hB : bP l 0 a b c = Rat.divInt (-(nP l 0 a b c).y) (nP l 0 a b c).x := rfl
 have hC : cP l 0 a b c = Rat.divInt (-(nP l 0 a b c).z) (nP l 0 a b c).x := rfl
 have hnv := (BT.nv (hl a) (hl b) (hl c)).sq
 obtain ⟨⟨⟨_, _⟩, ⟨_, _⟩⟩, ⟨_, _⟩⟩ := hnv
 rw [hA, hB, hC] at hT1
 rw [← hm] at hmb
 generalize mP l 0 a b c = m at *
 generalize nP l 0 a b c = n at *
 refine wt ?_
 refine j1q [(0, .av (ts l)), (1, .av (vi 0)), (5, .av (.ptr 3 (fun i => .val ([Value.int .i64 a, .int .i64 b, .int .i64 c].getD i Go.undef)))), (6, .own 10 0), (9, .av (.ptr 3 (tpf n)))] [(10, .cells [.av (vi 0), .av (vS []), .av (vS []), .av (vS []), .av (.val (.slice none 0 0))])] ?_ ?_
 ·(refine j0a rfl ?_ ?_ <;> intro hb <;> (try simp only [zA, zB, zG, zC, zD, zN] at hb) <;> (try exact zQ))
  ·have e : n = ⟨-(nvP (gt l a) (gt l b) (gt l c)).x, -(nvP (gt l a) (gt l b) (gt l c)).y, -(nvP (gt l a) (gt l b) (gt l c)).z⟩ := hnP.trans (if_pos hb)
   refine wt ?_
   rw [e]
   exact q0c ((j0F 9 11 (tpf _) rfl rfl rfl).trans (ent zS zT))
  ·have e : n = nvP (gt l a) (gt l b) (gt l c) := hnP.trans (if_neg (by simpa [cz] using hb))
   refine wt ?_
   rw [e]
   exact q0c ((j0F 9 11 (tpf _) rfl rfl rfl).trans (ent zS zT))
 have hd0 := Q0s n (gt l a) (hnb.le zE) (hl a)
 rw [← hm] at hd0
 refine wt ?_
 refine j0j (j0m (t := 69) (is := [0]) (xs := [_]) (vs := [_]) (Q1L 0) rfl rfl) rfl ?_
 refine wt ?_
 refine j0g (γ := Nat) (fun i => [(0, .av (ts l)), (1, .av (vi 0)), (6, .own 10 0), (9, .av (.ptr 3 (tpf n))), (11, .av (.clo 197 1 (fun i => [AV.ptr 3 (tpf n)].getD i .any))), (12, .av (vi m)), (13, .own 11 0), (74, .av (ts l)), (75, .av (vi l.length)), (76, .av (vi i))])
  (fun i => [(10, .cells [.av (vi 0), .av (vS []), .av (vS []), .av (vS []), .av (.val (.slice none 0 0))]), (11, .cells [.av (vi 0), .av (vS []), .av (vS []), .av (vS []), .osl 20]), (20, .row 3 1 (onD l n m i).length (xf (onD l n m i)))]) (fun i => i ≤ l.length ∧ ∀ j, j < i → m ≤ w0k n (gt l j)) (fun i => l.length - i) 0 ⟨Nat.zero_le _, by omega⟩
  ((y0l (r := 11) (off := 4) 20 3 1 (xf []) rfl rfl rfl).trans (ent zS zT)) ?_
 rintro i ⟨hi, hall⟩
 have hol := Y0s l n m i
 refine wt ?_
 (refine j0a rfl ?_ ?_ <;> intro hb <;> (try simp only [zA, zB, zG, zC, zD, zN] at hb) <;> (try exact zQ))
 ·have hil : i < l.length := by omega
  have hd := Q0s n (gt l i) (hnb.le zE) (hl i)
  have hsu := V0L l n m i
  refine wt ?_
  (refine j0a rfl ?_ ?_ <;> intro hb <;> (try simp only [zA, zB, zG, zC, zD, zN] at hb) <;> (try exact zQ))
  ·rw [hT0 hil hb]
   refine wt ?_
   refine j0j (j0m (t := 69) (is := []) (xs := []) (vs := []) K0z rfl rfl) rfl ?_
   refine wt ?_
   exact j0t (rvs := [_, _, _]) (τs := [_, _, _]) rfl rfl ⟨.agg (us := [_, _, _, _, _]) rfl rfl rfl rfl, .tmp rfl, .tmp rfl, trivial⟩ rfl
  ·have hge : m ≤ w0k n (gt l i) := by omega
   refine wt ?_
   (refine j0a rfl ?_ ?_ <;> intro hb <;> (try simp only [zA, zB, zG, zC, zD, zN] at hb) <;> (try exact zQ))
   ·rw [if_pos hb] at hsu
    refine wt ?_
    exact j0b (i + 1) ⟨by omega, v0u hall hge⟩ (by omega) (ent zS ⟨⟨_, rfl, .refl _⟩, ⟨_, rfl, .refl _⟩, ⟨_, rfl, .row (by rw [hsu]) (fun _ _ _ _ => by rw [hsu])⟩, trivial⟩)
   ·rw [if_neg hb] at hsu
    refine wt ?_
    exact j0b (i + 1) ⟨by omega, v0u hall hge⟩ (by omega) (ent zS ⟨⟨_, rfl, .refl _⟩, ⟨_, rfl, .refl _⟩, ⟨_, rfl, .row (by rw [hsu]) (fun _ _ _ _ => by rw [hsu])⟩, trivial⟩)
 have hil : i = l.length := by omega
 subst hil
 rw [hT1 hall]
 obtain ⟨⟨⟨_, _⟩, ⟨_, _⟩⟩, ⟨_, _⟩⟩ := hnb.sq
 have hx0 : 0 < n.x := hpos
 refine wt ?_
 refine q0H (q0Y (y0F _) rfl rfl) rfl ?_
 refine wt ?_
 refine q0H (q0Y (y0F _) rfl rfl) rfl ?_
 refine wt ?_
 refine q0H (q0Y (y0F _) rfl rfl) rfl ?_
 refine wt ?_
 refine y0k (x0U 30 rfl (fun p1 p2 p3 w => v1U _ _ _ p1 p2 p3 w) rfl rfl rfl) rfl rfl ?_
 refine wt ?_
 refine q0H (Y0d rfl rfl) rfl ?_
 refine wt ?_
 have qA := w0I m n.x zO zO zO
 have qB := w0I (-n.y) n.x zO zO zO
 have qC := w0I (-n.z) n.x zO zO zO
 generalize Rat.divInt m n.x = A at *
 generalize Rat.divInt (-n.y) n.x = B at *
 generalize Rat.divInt (-n.z) n.x = C at *
 refine j0g (γ := Nat) (fun i => [(1, .av (vi 0)), (6, .own 10 0), (9, .av (.ptr 3 (tpf n))), (13, .own 11 0), (123, .osl 30), (124, .av (vi 3)), (125, .av (vi i))])
  (fun i => [(30, .srow 266 2 3 [.own 11 1, .av (vi m), .own 11 2, .av (vi (-n.y)), .own 11 3, .av (vi (-n.z))]), (10, .cells [.av (vi 0), .av (vS []), .av (vS []), .av (vS []), .av (.val (.slice none 0 0))]), (11, .cells (Y1z 0 A B C i)), (20, .row 3 1 (onD l n m l.length).length (xf (onD l n m l.length)))])
  (fun i => i ≤ 3) (fun i => 3 - i) 0 (Nat.zero_le _) (ent zS zT) ?_
 intro i hi
 match i, hi with
 |0, _ =>
  refine wt ?_
  refine j0j (q0Z (k := 0) rfl rfl rfl rfl zO) rfl ?_
  refine wt ?_
  refine j0j (v0a rfl rfl rfl rfl) rfl ?_
  refine wt ?_
  refine q0U (q0D rfl rfl rfl rfl rfl) ?_
  refine wt ?_
  exact j0b 1 zO zO (ent zS zT)
 |1, _ =>
  refine wt ?_
  refine j0j (q0Z (k := 1) rfl rfl rfl rfl zO) rfl ?_
  refine wt ?_
  refine j0j (v0a rfl rfl rfl rfl) rfl ?_
  refine wt ?_
  refine q0U (q0D rfl rfl rfl rfl rfl) ?_
  refine wt ?_
  exact j0b 2 zO zO (ent zS zT)
 |2, _ =>
  refine wt ?_
  refine j0j (q0Z (k := 2) rfl rfl rfl rfl zO) rfl ?_
  refine wt ?_
  refine j0j (v0a rfl rfl rfl rfl) rfl ?_
  refine wt ?_
  refine q0U (q0D rfl rfl rfl rfl rfl) ?_
  refine wt ?_
  exact j0b 3 zO zO (ent zS zT)
 |3, _ =>
  refine wt ?_
  refine Y0n (j0M 11 20 4 rfl rfl rfl rfl) ?_
  refine j0j (j0n (f := pAf 0 (rtx A) (rtx B) (rtx C) (idx (onD l n m l.length))) rfl rfl rfl) rfl ?_
  refine wt ?_
  refine q0U (j0y rfl rfl (x0X _ _ _ _ _) rfl rfl) ?_
  refine wt ?_
  exact j0t (rvs := [_, _, _]) (τs := [_, _, _]) rfl rfl ⟨.aggv (f := pAf 0 (rtx A) (rtx B) (rtx C) (idx (onD l n m l.length))) rfl rfl rfl, .tmp rfl, .tmp rfl, trivial⟩ rfl
 |_ + 4, h => omega
def j1p (a b c : Int) : Int := if a ≠ 0 then a else if b ≠ 0 then b else if c ≠ 0 then c else 0
theorem v1L (a b : ByteArray) : Tryz.prog.built 271 [(0, .string a), (1, .string b)] = some #[.string a, .string b] := by kernel_rfl
theorem X1r (a b c d e f : ByteArray) : Tryz.prog.built 272 [(0, .agg #[.string a, .string b]), (1, .agg #[.string c, .string d]), (2, .agg #[.string e, .string f])] = some #[.string a, .string b, .string c, .string d, .string e, .string f] := by kernel_rfl
theorem Q1W (a b c d e f : ByteArray) (w : World) : (Instr.index 272 (.agg #[.string a, .string b, .string c, .string d, .string e, .string f]) (.int .i64 0)).run Tryz.prog w = .ok (.agg #[.string a, .string b]) w := by kernel_rfl
theorem Q1X (a b c d e f : ByteArray) (w : World) : (Instr.index 272 (.agg #[.string a, .string b, .string c, .string d, .string e, .string f]) (.int .i64 1)).run Tryz.prog w = .ok (.agg #[.string c, .string d]) w := by kernel_rfl
theorem Q1Y (a b c d e f : ByteArray) (w : World) : (Instr.index 272 (.agg #[.string a, .string b, .string c, .string d, .string e, .string f]) (.int .i64 2)).run Tryz.prog w = .ok (.agg #[.string e, .string f]) w := by kernel_rfl
theorem y0f (k1 k2 : Int) (A B C A' B' C' : Rat) (s s' : AV) (hA : LR 400 A) (hB : LR 400 B) (hC : LR 400 C) (hA' : LR 400 A') (hB' : LR 400 B') (hC' : LR 400 C') :
  CtrA Tryz.prog 131 [pA k1 (rtx A) (rtx B) (rtx C) s, pA k2 (rtx A') (rtx B') (rtx C') s'] (vi (j1p (rsg (A - A')) (rsg (B - B')) (rsg (C - C')))) := by
 have h1 := v0Q A A' hA hA'
 have h2 := v0Q B B' hB hB'
 have h3 := v0Q C C' hC hC'
 generalize rsg (A - A') = a at *
 generalize rsg (B - B') = b at *
 generalize rsg (C - C') = c at *
 refine j0s _ Tryz.func131 rfl rfl Tryz.ntmps131 rfl fun w Z => ?_
 refine zU ?_
 refine wt ?_
 refine j0j (j0m (t := 271) (is := [0, 1]) (xs := [_, _]) (vs := [_, _]) (v1L _ _) rfl rfl) rfl ?_
 refine wt ?_
 refine j0j (j0m (t := 271) (is := [0, 1]) (xs := [_, _]) (vs := [_, _]) (v1L _ _) rfl rfl) rfl ?_
 refine wt ?_
 refine j0j (j0m (t := 271) (is := [0, 1]) (xs := [_, _]) (vs := [_, _]) (v1L _ _) rfl rfl) rfl ?_
 refine wt ?_
 refine j0j (j0m (t := 272) (is := [0, 1, 2]) (xs := [_, _, _]) (vs := [_, _, _]) (X1r _ _ _ _ _ _) rfl rfl) rfl ?_
 refine wt ?_
 refine j0g (γ := Nat) (fun i => [(24, .av (.val (.agg #[.string (bs (rtx A)), .string (bs (rtx A')), .string (bs (rtx B)), .string (bs (rtx B')), .string (bs (rtx C)), .string (bs (rtx C'))]))), (25, .av (vi i))]) (fun _ => []) (fun i => i ≤ 3 ∧ (0 < i → a = 0) ∧ (1 < i → b = 0) ∧ (2 < i → c = 0)) (fun i => 3 - i) 0 ⟨by omega, by omega, by omega, by omega⟩ (ent zS trivial) ?_
 rintro i ⟨hi, q1, q2, q3⟩
 match i, hi, q1, q2, q3 with
 |0, _, q1, q2, q3 =>
  refine wt ?_
  refine j0j (q0i (Q1W _ _ _ _ _ _) rfl rfl) rfl ?_
  refine wt ?_
  (refine j0a rfl ?_ ?_ <;> intro hb <;> (try simp only [zA, zB, zG, zC, zD, zN] at hb) <;> (try exact zQ))
  ·refine wt ?_
   exact j0c rfl (.tmp rfl) (congrArg vi (by unfold j1p; rw [if_pos hb]))
  ·refine wt ?_
   exact j0b 1 ⟨by omega, fun _ => hb, fun h => by omega, fun h => by omega⟩ zO (ent zS trivial)
 |1, _, q1, q2, q3 =>
  refine wt ?_
  refine j0j (q0i (Q1X _ _ _ _ _ _) rfl rfl) rfl ?_
  refine wt ?_
  (refine j0a rfl ?_ ?_ <;> intro hb <;> (try simp only [zA, zB, zG, zC, zD, zN] at hb) <;> (try exact zQ))
  ·refine wt ?_
   exact j0c rfl (.tmp rfl) (congrArg vi (by unfold j1p; rw [if_neg (fun h => h (q1 (by omega))), if_pos hb]))
  ·refine wt ?_
   exact j0b 2 ⟨by omega, fun _ => q1 zO, fun _ => hb, fun h => by omega⟩ zO (ent zS trivial)
 |2, _, q1, q2, q3 =>
  refine wt ?_
  refine j0j (q0i (Q1Y _ _ _ _ _ _) rfl rfl) rfl ?_
  refine wt ?_
  (refine j0a rfl ?_ ?_ <;> intro hb <;> (try simp only [zA, zB, zG, zC, zD, zN] at hb) <;> (try exact zQ))
  ·refine wt ?_
   exact j0c rfl (.tmp rfl) (congrArg vi (by unfold j1p; rw [if_neg (fun h => h (q1 (by omega))), if_neg (fun h => h (q2 (by omega))), if_pos hb]))
  ·refine wt ?_
   exact j0b 3 ⟨by omega, fun _ => q1 zO, fun _ => q2 zO, fun _ => hb⟩ zO (ent zS trivial)
 |3, _, q1, q2, q3 =>
  refine wt ?_
  exact j0c rfl (.tmp rfl) (congrArg vi (by unfold j1p; rw [if_neg (fun h => h (q1 (by omega))), if_neg (fun h => h (q2 (by omega))), if_neg (fun h => h (q3 (by omega)))]))
 |i + 4, hi, _, _, _ => omega
end Go.Proofs.YtfggdokihnopeaaGreatDoor.H
namespace Go.Vdr
open Go
def RD {α : Type} (d : Nat) : Result α → Prop
 |.ok _ w => d ≤ w.drawn
 |.halt _ w => d ≤ w.drawn
theorem RD.le {α : Type} {c d : Nat} (h : c ≤ d) : ∀ {r : Result α}, RD d r → RD c r
 |.ok _ _, k => Nat.le_trans h k
 |.halt _ _, k => Nat.le_trans h k
theorem K0Y {α : Type} : ∀ (a : Ask α) (w : World), w.drawn ≤ (w.ask a).2.drawn
 |.done a, w => Nat.le_refl _
 |.ask what range k, w => by
  unfold World.ask
  dsimp only
  split
  ·exact K0Y _ w
  ·exact Nat.le_trans (Nat.le_succ _) (K0Y (k _) { w with drawn := w.drawn + 1 })
theorem z1m (w : World) (c : Sys) : w.drawn ≤ (w.sys c).2.drawn := by
 unfold World.sys
 have h := K0Y (Kernel.perform c w.os) w
 generalize w.ask (Kernel.perform c w.os) = x at h
 split
 ·exact Nat.le_refl _
 ·exact h
theorem Q1u {p : Program} {w w' : World} {at_ : Addr} {u : TypeId} {a : Addr} {v : Value} {b : Bool} {t : List Addr} (h : w.viewStore p at_ u a v b = .ok (w', t)) : w'.drawn = w.drawn := by
 unfold World.viewStore at h
 simp only [bind, Except.bind, pure, Except.pure, throw, throwThe, MonadExceptOf.throw] at h
 repeat' (split at h)
 all_goals first
  |(cases h; rfl)
  |(cases h)
  |skip
theorem y1I {p : Program} {w w' : World} {a : Addr} {v : Value} {b : Bool} {t : List Addr} (h : w.farStore p a v b = .ok (w', t)) : w'.drawn = w.drawn := by
 unfold World.farStore at h
 split at h
 ·split at h
  ·rename_i r hr
   simp only [Except.ok.injEq] at h
   subst h
   exact Q1u hr
  ·cases h
 ·cases h
theorem W0L (w : World) (a : Addr) (n : Nat) : (w.freeze a n).drawn = w.drawn := by
 unfold World.freeze; split <;> rfl
theorem v0k {α : Type} (p : Program) : ∀ (m : Sem α) (w : World), RD w.drawn (m.run p w)
 |.pure a, w => Nat.le_refl _
 |.load m a k, w => by
  unfold Sem.run
  split
  ·exact v0k p _ w
  ·split
   ·exact v0k p _ w
   ·exact Nat.le_refl _
 |.store m a v k, w => by
  cases v <;> first
   |exact Nat.le_refl _
   |(simp only [Sem.run]
     split
     · split
       · exact Nat.le_refl _
       · exact v0k p k (w.setCell a _)
     · split
       · rename_i h
         have h1 := y1I h
         exact RD.le (Nat.le_of_eq h1.symm) (v0k p k _)
       · exact Nat.le_refl _)
 |.new o k, w => by
  unfold Sem.run
  exact v0k p (k w.heap.size) { w with heap := w.heap.push o }
 |.shape r k, w => by unfold Sem.run; exact v0k p _ w
 |.freeze a n k, w => by
  unfold Sem.run
  exact RD.le (Nat.le_of_eq (W0L w a n).symm) (v0k p k _)
 |.frozen a k, w => by unfold Sem.run; exact v0k p _ w
 |.getObj r k, w => by
  unfold Sem.run
  split
  ·exact Nat.le_refl _
  ·exact v0k p _ w
  ·exact Nat.le_refl _
 |.setObj r o k, w => by
  unfold Sem.run
  split
  ·exact Nat.le_refl _
  ·exact v0k p k { w with heap := w.heap.setIfInBounds r o }
  ·exact Nat.le_refl _
 |.choose q k, w => by
  unfold Sem.run
  split
  ·exact v0k p _ w
  ·exact RD.le (Nat.le_succ _) (v0k p _ { w with drawn := w.drawn + 1 })
 |.sys c k, w => by
  unfold Sem.run
  exact RD.le (z1m w c) (v0k p _ _)
 |.program k, w => by unfold Sem.run; exact v0k p _ w
 |.mark m k, w => by unfold Sem.run; exact v0k p k w
 |.halt h, w => Nat.le_refl _
theorem j0W {α : Type} (p : Program) : ∀ (m : Sem α) (w : World) (es : Array Event), RD w.drawn (m.runT p w es).1
 |.pure a, w, es => Nat.le_refl _
 |.load m a k, w, es => by
  unfold Sem.runT
  split
  ·exact j0W p _ w _
  ·split
   ·exact j0W p _ w _
   ·exact Nat.le_refl _
 |.store m a v k, w, es => by
  cases v <;> first
   |exact Nat.le_refl _
   |(simp only [Sem.runT]
     split
     · split
       · exact Nat.le_refl _
       · exact j0W p k (w.setCell a _) _
     · split
       · rename_i h
         have h1 := y1I h
         exact RD.le (Nat.le_of_eq h1.symm) (j0W p k _ _)
       · exact Nat.le_refl _)
 |.new o k, w, es => by
  unfold Sem.runT
  exact j0W p (k w.heap.size) { w with heap := w.heap.push o } _
 |.shape r k, w, es => by unfold Sem.runT; exact j0W p _ w _
 |.freeze a n k, w, es => by
  unfold Sem.runT
  exact RD.le (Nat.le_of_eq (W0L w a n).symm) (j0W p k _ _)
 |.frozen a k, w, es => by unfold Sem.runT; exact j0W p _ w _
 |.getObj r k, w, es => by
  unfold Sem.runT
  split
  ·exact Nat.le_refl _
  ·exact j0W p _ w _
  ·exact Nat.le_refl _
 |.setObj r o k, w, es => by
  unfold Sem.runT
  split
  ·exact Nat.le_refl _
  ·exact j0W p k { w with heap := w.heap.setIfInBounds r o } _
  ·exact Nat.le_refl _
 |.choose q k, w, es => by
  unfold Sem.runT
  split
  ·exact j0W p _ w _
  ·exact RD.le (Nat.le_succ _) (j0W p _ { w with drawn := w.drawn + 1 } _)
 |.sys c k, w, es => by
  unfold Sem.runT
  exact RD.le (z1m w c) (j0W p _ _ _)
 |.program k, w, es => by unfold Sem.runT; exact j0W p _ w _
 |.mark m k, w, es => by unfold Sem.runT; exact j0W p k w _
 |.halt h, w, es => Nat.le_refl _
def GD (d : Nat) : GStep → Prop
 |.go _ w _ => d ≤ w.drawn
 |.comm _ _ _ _ w _ => d ≤ w.drawn
 |.spawn _ _ w _ => d ≤ w.drawn
 |.count _ w _ => d ≤ w.drawn
 |.timer _ _ w _ => d ≤ w.drawn
 |.alone _ _ w _ => d ≤ w.drawn
 |.newcoro _ _ _ w _ => d ≤ w.drawn
 |.coroswitch _ _ _ w _ => d ≤ w.drawn
 |.collect _ w _ => d ≤ w.drawn
 |.watch _ w _ => d ≤ w.drawn
 |.ended _ _ _ => True
theorem v0V {d : Nat} {es : Array Event} {s : GStep} (h : GD d s) : GD d (GStep.after es s) := by cases s <;> exact h
theorem GD.le {c d : Nat} (h : c ≤ d) {s : GStep} (k : GD d s) : GD c s := by cases s <;> first | exact Nat.le_trans h k | exact True.intro
theorem x0i {α : Type} {p : Program} {m : Sem α} {w w' : World} {a : α} (h : m.run p w = .ok a w') : w.drawn ≤ w'.drawn := by have := v0k p m w; rw [h] at this; exact this
theorem Q1o {α : Type} {p : Program} {m : Sem α} {w w' : World} {a : Halt} (h : m.run p w = .halt a w') : w.drawn ≤ w'.drawn := by have := v0k p m w; rw [h] at this; exact this
theorem W1V {α : Type} {p : Program} {m : Sem α} {w w' : World} {a : α} {es es' : Array Event} (h : m.runT p w es = (.ok a w', es')) : w.drawn ≤ w'.drawn := by have := j0W p m w es; rw [h] at this; exact this
theorem x1F {α : Type} {p : Program} {m : Sem α} {w w' : World} {a : Halt} {es es' : Array Event} (h : m.runT p w es = (.halt a w', es')) : w.drawn ≤ w'.drawn := by have := j0W p m w es; rw [h] at this; exact this
theorem k0N (d : Nat) (w : World) (fd : Nat) (text : ByteArray) (o : Outcome) : GD d (endWith w fd text o) := by
 unfold endWith
 dsimp only
 split <;> (try split) <;> exact True.intro
theorem v0K (fr : Frame) (m : String) (w : World) : GD w.drawn (endThrow fr m w) := Nat.le_refl _
theorem x0H (p : Program) (fr : Frame) (v : Value) (w : World) : GD w.drawn (endPrinting p fr v w) := by
 unfold endPrinting
 dsimp only
 split
 ·exact v0K _ _ _
 ·exact True.intro
theorem J0t (p : Program) (fr : Frame) (callers : List Frame) (dying : Option Dying) (m : String) (w : World) : GD w.drawn (endFatal p fr callers dying m w) := by
 unfold endFatal
 dsimp only
 split
 ·rename_i h
  exact x0i h
 ·exact True.intro
 ·exact True.intro
theorem K0I (p : Program) (fr : Frame) (d : Dying) (f : Fatal) (w : World) : GD w.drawn (writeOn p fr d f w) := by
 unfold writeOn
 dsimp only
 split
 ·exact True.intro
 ·split
  ·rename_i h; exact W1V h
  ·rename_i h; exact x1F h
  ·exact True.intro
  ·exact True.intro
theorem V1U (p : Program) (fr : Frame) (d : Dying) (w : World) : GD w.drawn (die p fr d w) := by
 unfold die
 split
 ·exact K0I _ _ _ _ _
 ·split
  ·split
   ·exact Nat.le_refl _
   ·exact k0N _ _ _ _ _
  ·dsimp only
   split
   ·exact Nat.le_refl _
   ·split
    ·rename_i h; exact x0i h
    ·exact True.intro
   ·have hd := j0W p (invoke (.fn (.method ‹String›) #[]) #[.iface ‹TypeId› ‹Value›]) w #[]
    refine v0V ?_
    split
    ·rename_i h; rw [h] at hd; exact hd
    ·rename_i h; rw [h] at hd; exact hd
    ·exact True.intro
    ·rename_i h; rw [h] at hd; exact GD.le hd (x0H _ _ _ _)
    ·exact True.intro
   ·exact True.intro
theorem x0Q (p : Program) (main : Bool) (fr : Frame) (callers : List Frame) (dying : Option Dying) (v : Value) (w : World) : GD w.drawn (doReturn p main fr callers dying v w) := by
 unfold doReturn
 split
 ·split <;> exact Nat.le_refl _
 ·split
  ·exact Nat.le_refl _
  ·exact True.intro
  ·split
   ·exact Nat.le_refl _
   ·split
    ·exact Nat.le_refl _
    ·exact True.intro
theorem Y0S {c : Prop} [Decidable c] {d : Nat} {a b : GStep} (h1 : c → GD d a) (h2 : ¬ c → GD d b) : GD d (if c then a else b) := by
 split
 ·exact h1 (by assumption)
 ·exact h2 (by assumption)
theorem J0f (p : Program) (fr : Frame) (callers : List Frame) (dying : Option Dying) (d : Deferred) (w : World) : GD w.drawn (callDeferred p fr callers dying d w) := by
 unfold callDeferred
 refine Y0S (fun _ => True.intro) (fun _ => ?_)
 ·dsimp only
  have hd := j0W p (invoke d.target d.args) w #[]
  refine v0V ?_
  split <;> (rename_i h; rw [h] at hd) <;> first
   |exact hd
   |exact True.intro
   |exact GD.le hd (J0t _ _ _ _ _ _)
   |exact GD.le hd (v0K _ _ _)
   |(split <;> exact hd)
theorem w1a (p : Program) (main : Bool) (fr : Frame) (callers : List Frame) (dying : Option Dying) (w : World) : GD w.drawn (unwind p main fr callers dying w) := by
 unfold unwind
 split
 ·rename_i block ds _
  have hd := j0W p (Instr.takeDeferred ‹Nat›) w #[]
  dsimp only
  refine v0V ?_
  split
  ·rename_i h; rw [h] at hd; exact hd
  ·exact True.intro
 ·exact J0f _ _ _ _ _ _
 ·split
  ·exact True.intro
  ·split
   ·exact True.intro
   ·split
    ·exact Nat.le_refl _
    ·split
     ·split
      ·exact Nat.le_refl _
      ·split
       ·rename_i h; exact x0i h
       ·exact True.intro
       ·exact True.intro
     ·split
      ·exact x0H _ _ _ _
      ·exact True.intro
  ·split
   ·exact x0Q _ _ _ _ _ _ _
   ·rename_i fn _
    have hd := j0W p (results fn fr.tmps) w #[]
    dsimp only
    refine v0V ?_
    split
    ·rename_i h; rw [h] at hd; exact GD.le hd (x0Q _ _ _ _ _ _ _)
    ·exact True.intro
    ·exact True.intro
theorem w1X (p : Program) (fr : Frame) (callers : List Frame) (dying : Option Dying) (g : Nat) (w : World) : GD w.drawn (early p fr callers dying g w) := by
 have ny : ∀ w' : World, w.drawn ≤ w'.drawn → GD w.drawn (match w'.heap[g]? with
  |some (.pending c elem) =>
   .go { frame := fr, callers, status := .running, dying } { w' with heap := w'.heap.setIfInBounds g (.cells c elem) }
  |_ => .ended (.stuck "early: the variable does not wait" (fr.pos p)) w') := by
  intro w' h
  split
  ·exact h
  ·exact True.intro
 unfold early
 dsimp only
 split
 ·exact ny w (Nat.le_refl _)
 ·split
  ·exact True.intro
  ·split
   ·exact ny w (Nat.le_refl _)
   ·split
    ·exact ny w (Nat.le_refl _)
    ·split
     ·exact True.intro
     ·exact Nat.le_refl _
     ·exact True.intro
     ·exact ny w (Nat.le_refl _)
     ·split
      ·exact Nat.le_refl _
      ·split
       ·exact ny w (Nat.le_refl _)
       ·split
        ·rename_i h; exact ny _ (x0i h)
        ·rename_i h; exact x0i h
        ·exact True.intro
theorem z0E (p : Program) (b : Bool) (fr : Frame) (callers : List Frame) (dying : Option Dying) (s : Sem Next) (w : World) : GD w.drawn (stepG.apply p b fr callers dying s w) := by
 unfold stepG.apply
 have hd1 := j0W p s w #[]
 have hd2 := v0k p s w
 have hd : RD w.drawn (if b = true then s.runT p w #[] else (s.run p w, #[])).1 := by split <;> assumption
 dsimp only
 generalize (if b = true then s.runT p w #[] else (s.run p w, #[])) = x at hd
 obtain ⟨r, es⟩ := x
 refine v0V ?_
 dsimp only at hd ⊢
 clear hd1 hd2
 cases r with
 |ok n w' =>
  cases n <;> (try dsimp only) <;> first
   |exact hd
   |(split <;> first | exact hd | exact True.intro | exact GD.le hd (v0K _ _ _))
   |(split <;> split <;> exact hd)
 |halt h w' =>
  cases h with
  |unsupported u =>
   cases u <;> (try dsimp only) <;> first
    |exact True.intro
    |exact GD.le hd (w1X _ _ _ _ _ _)
  |fatal m => exact GD.le hd (J0t _ _ _ _ _ _)
  |throw m => exact GD.le hd (v0K _ _ _)
  |_ => first
   |exact hd
   |exact True.intro
theorem Q1e (p : Program) (b : Bool) (fr : Frame) (callers : List Frame) (dying : Option Dying) (w : World) : GD w.drawn (stepG.oper p b fr callers dying w) := by
 unfold stepG.oper
 split
 ·exact True.intro
 ·split <;> exact z0E _ _ _ _ _ _ _
theorem q1U {α : Type} {p : Program} {m : Sem α} {w w' : World} {a : α} {es : Array Event} (h : (m.runT p w es).1 = .ok a w') : w.drawn ≤ w'.drawn := by have := j0W p m w es; rw [h] at this; exact this
theorem q1T {α : Type} {p : Program} {m : Sem α} {w w' : World} {a : Halt} {es : Array Event} (h : (m.runT p w es).1 = .halt a w') : w.drawn ≤ w'.drawn := by have := j0W p m w es; rw [h] at this; exact this
theorem X0N {α : Type} {d : Nat} {o : Option α} {a : GStep} {f : α → GStep} (h1 : GD d a) (h2 : ∀ x, GD d (f x)) : GD d (o.elim a f) := by
 cases o
 ·exact h1
 ·exact h2 _
theorem z0U (p : Program) (main : Bool) (fr : Frame) (callers : List Frame) (dying : Option Dying) (jump : Option Code) (w : World) (c : Prop) [Decidable c] (why : String) : GD w.drawn (match fr.roundOf with
   |none => if c then .go { frame := { fr with mode := .returning }, callers, status := .running, dying } w else .ended (.stuck why (fr.pos p)) w
   |some l =>
    let (r, es) := (Instr.endRound l jump).runT p w #[]
    GStep.after (seen p fr.fn es) <| match r with
    |.ok v w => doReturn p main fr callers dying v w
    |.halt _ w => .ended (.stuck "range over a function: no such loop" (fr.pos p)) w) := by
 split
 ·exact Y0S (fun _ => Nat.le_refl _) (fun _ => True.intro)
 ·rename_i l _
  have hd := j0W p (Instr.endRound l jump) w #[]
  dsimp only
  refine v0V ?_
  split
  ·rename_i h; rw [h] at hd; exact GD.le hd (x0Q _ _ _ _ _ _ _)
  ·exact True.intro
theorem J1z (p : Program) (main b : Bool) (fr : Frame) (callers : List Frame) (dying : Option Dying) (w : World) : GD w.drawn (stepG.exec p main b fr callers dying w) := by
 unfold stepG.exec
 dsimp only
 split
 ·exact z0U _ _ _ _ _ _ _ _ _
 ·exact z0U _ _ _ _ _ _ _ _ _
 all_goals first
  |exact Nat.le_refl _
  |exact True.intro
  |exact z0E _ _ _ _ _ _ _
  |skip
 ·split
  ·exact Nat.le_refl _
  ·exact True.intro
 ·exact X0N (z0U _ _ _ _ _ _ _ _ _) (fun _ => Nat.le_refl _)
 ·exact X0N (z0U _ _ _ _ _ _ _ _ _) (fun _ => Nat.le_refl _)
 ·refine v0V ?_
  split
  ·rename_i h
   exact GD.le (q1U h) (z0E _ _ _ _ _ _ _)
  ·exact True.intro
 ·refine v0V ?_
  split
  ·rename_i h
   exact q1U h
  ·rename_i h
   exact q1T h
  ·exact True.intro
 ·exact X0N True.intro (fun _ => z0E _ _ _ _ _ _ _)
 ·refine Y0S (fun _ => Nat.le_refl _) (fun _ => ?_)
  split
  ·rename_i h; exact x0i h
  ·exact True.intro
 ·exact Y0S (fun _ => Q1e _ _ _ _ _ _) (fun _ => Nat.le_refl _)
theorem x1R (p : Program) (main b : Bool) (g : Goroutine) (w : World) : GD w.drawn (stepG p main g w b) := by
 unfold stepG
 dsimp only
 split
 ·exact V1U _ _ _ _
 ·exact J1z _ _ _ _ _ _ _
 ·exact w1a _ _ _ _ _ _
end Go.Vdr
