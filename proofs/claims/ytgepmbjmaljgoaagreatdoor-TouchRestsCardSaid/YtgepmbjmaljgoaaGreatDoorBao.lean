/- A part of the proof. -/
import Derived.Test.YtgepmbjmaljgoaaGreatDoorBaj
import Derived.Test.YtgepmbjmaljgoaaGreatDoorBal
set_option linter.unusedVariables false
set_option linter.unusedSimpArgs false
namespace Go.Proofs.YtgepmbjmaljgoaaGreatDoor
open Go Go.Vc Go.RowKit Go.Na Go.Lib
set_option maxHeartbeats 4000000
abbrev vi (n : Int) : AV := .val (.int .i64 n)
abbrev vb (b : Bool) : AV := .val (.bool b)
abbrev v8 (n : Int) : AV := .val (.int .u8 n)
abbrev vI (n : Int) : AV := vS (itoa n)
theorem b45 (b : UInt8) : ((b.toNat : Int) = 45) ↔ b = 45 := u8eq b 45
theorem size_c (l : List UInt8) : CtrA Tryz.prog 189 [vS l] (vS (szL l)) := by
 cases l with
 |nil =>
  refine ctrA _ Tryz.func189 rfl rfl Tryz.ntmps189 rfl fun w Z => ?_
  refine zU ?_
  refine wk ?_
  exact zV
 |cons b r =>
  refine ctrA _ Tryz.func189 rfl rfl Tryz.ntmps189 rfl fun w Z => ?_
  refine zU ?_
  refine wk ?_
  (refine cq_cond rfl ?_ ?_ <;> intro hb <;> (try simp only [zA, zB, zG, zC, zD, zN] at hb) <;> (try (exfalso; omega)))
  ·refine wk ?_
   refine sq_g (g_sfrom 1 rfl rfl rfl (by simp)) rfl ?_
   refine wk ?_
   exact sq_res1 rfl (.tmp rfl) (by rw [szL, if_pos ((b45 b).1 hb)]; rfl)
  ·refine wk ?_
   exact sq_res1 rfl (.tmp rfl) (by rw [szL, if_neg (fun e => hb ((b45 b).2 e))])
theorem below_c (b : UInt8) (r : List UInt8) : CtrA Tryz.prog 148 [vS (b :: r)] (vb (decide (b = 45))) := by
 refine ctrA _ Tryz.func148 rfl rfl Tryz.ntmps148 rfl fun w Z => ?_
 refine zU ?_
 refine wk ?_
 exact sq_res1 rfl (.tmp rfl) (congrArg vb (by
  by_cases h : b = 45
  ·subst h; rfl
  ·have h1 : ¬ ((b.toNat : Int) = 45) := fun e => h ((b45 b).1 e)
   simp [h, h1]))
theorem size_i (m : Int) : CtrA Tryz.prog 189 [vI m] (vS (decDigits m.natAbs)) := by
 have := size_c (itoa m)
 rwa [szL_itoa] at this
theorem below_i (m : Int) : CtrA Tryz.prog 148 [vI m] (vb (decide (m < 0))) := by
 by_cases h : m < 0
 ·rw [vI, itoa_neg h, decide_eq_true h]; exact below_c 45 _
 ·obtain ⟨b, r, e, hd⟩ := dec_cons m.natAbs
  rw [vI, itoa_pos h, e, decide_eq_false h]
  have := below_c b r
  rwa [decide_eq_false (dig45 hd)] at this
theorem bare_c (l : List UInt8) (hl : l ≠ []) (hlen : l.length ≤ 1000000) : CtrA Tryz.prog 244 [vS l] (vS (bare l)) := by
 refine ctrA _ Tryz.func244 rfl rfl Tryz.ntmps244 rfl fun w Z => ?_
 refine zU ?_
 refine wk ?_
 refine cq_loop (γ := List UInt8) (fun s => [(0, .av (vS s)), (2, .av (vS []))]) (fun _ => []) (fun s => bare s = bare l ∧ s ≠ [] ∧ s.length ≤ l.length) (fun s => s.length) l ⟨rfl, hl, Nat.le_refl _⟩ (ent zS trivial) ?_
 rintro s ⟨h1, h2, h3⟩
 obtain ⟨b, r, rfl⟩ := List.exists_cons_of_ne_nil h2
 refine wk ?_
 (first | refine sq_split rfl rfl ?_ ?_ | refine dq_split rfl rfl ?_ ?_) <;> intro hb <;> (try simp only [zA, zB, zG, zC, zD, zN] at hb) <;> (try (exfalso; omega))
 ·refine wk ?_
  (refine cq_cond rfl ?_ ?_ <;> intro hb <;> (try simp only [zA, zB, zG, zC, zD, zN] at hb) <;> (try (exfalso; omega)))
  ·refine wk ?_
   refine sq_g (g_sfrom 1 rfl rfl rfl (by simp)) rfl ?_
   refine wk ?_
   have e : b = 48 := (u8eq b 48).1 hb
   subst e
   cases r with
   |nil => simp at *
   |cons c r =>
    exact sq_round (c :: r) ⟨(bare_step c r).symm.trans h1, by simp, by simp at h3 ⊢; omega⟩ (by simp) (ent zS trivial)
  ·refine wk ?_
   exact sq_res1 rfl (.tmp rfl) (by rw [← h1, bare_stop]; rintro ⟨_, e⟩; injection e with e; exact hb ((u8eq b 48).2 e))
 ·refine wk ?_
  exact sq_res1 rfl (.tmp rfl) (by rw [← h1, bare_stop]; rintro ⟨e, _⟩; simp at *; omega)
theorem zi5 : ∃ inf z, Tryz.prog.info? 5 = some inf ∧ inf.zero = some z ∧ inf.size = 1 ∧ inf.bytes = 1 ∧ z.cells = [Value.int .u8 0].toArray ∧ 0 < 1 :=
 ⟨(Tryz.prog.info? 5).getD default, .int .u8 0, by kernel_rfl, by kernel_rfl, by kernel_rfl, by kernel_rfl, rfl, by decide⟩
theorem getD_rep (n : Nat) (b : UInt8) (i : Nat) (h : i < n) : (List.replicate n b).getD i 0 = b := by simp [List.getD, h]
theorem wide_c (l : List UInt8) (n : Nat) (hl : 0 < l.length) (hn : l.length ≤ n) (hn2 : n ≤ 1000000) : CtrA Tryz.prog 279 [vS l, vi n] (vS (wideL l n)) := by
 refine ctrA _ Tryz.func279 rfl rfl Tryz.ntmps279 rfl fun w Z => ?_
 refine zU ?_
 refine wk ?_
 refine sq_v (f_make (n := n) (sz := 1) 50 (zs := [.int .u8 0]) rfl zi5 rfl rfl rfl rfl (by simp only [maxLen]; omega) (by omega) rfl) rfl ?_
 refine wk ?_
 refine cq_loop (γ := Nat) (fun k => [(0, .av (vS l)), (1, .av (vi n)), (5, .osl 50), (6, .av (vi k))]) (fun k => [(50, .row 5 1 n (fun i _ => if i < k then v8 48 else v8 0))]) (fun k => k ≤ n) (fun k => n - k) 0 (Nat.zero_le _) (ent zS ⟨⟨_, rfl, .row rfl (fun i hi j hj => by obtain rfl : j = 0 := zO; rfl)⟩, trivial⟩) ?_
 intro k hk
 refine wk ?_
 (refine cq_cond rfl ?_ ?_ <;> intro hb <;> (try simp only [zA, zB, zG, zC, zD, zN] at hb) <;> (try (exfalso; omega)))
 ·refine wk ?_
  exact sq_round (k + 1) zO zO (ent zS ⟨⟨_, rfl, .row rfl (fun i hi j hj => by
   simp only [rowSet, List.length_singleton]
   by_cases h1 : i = k
   ·subst h1
    have : j = 0 := by omega
    subst this
    simp
   ·rw [if_neg (by omega)]
    by_cases h2 : i < k
    ·rw [if_pos h2, if_pos (by omega)]
    ·rw [if_neg h2, if_neg (by omega)])⟩, trivial⟩)
 ·obtain rfl : k = n := by omega
  refine wk ?_
  refine sq_g (g_from rfl rfl rfl (i := ((k : Int) - (l.length : Int))) (lo := k - l.length) zO zO zO) rfl ?_
  refine wk ?_
  refine sq_v ((g_copy_str rfl rfl rfl zO zO zO).v) rfl ?_
  refine wk ?_
  refine sq_g (g_str_osl (l := wideL l k) rfl rfl (wide_len hn).symm zO (fun i hi => by
   unfold bf wideL
   by_cases h1 : k - l.length ≤ i
   ·rw [if_pos h1]
    congr 3
    rw [List.getD, List.getD, List.getElem?_append_right (by simp; omega)]
    simp
   ·rw [if_neg h1, if_pos (by omega)]
    rw [List.getD, List.getElem?_append_left (by simp; omega)]
    simp [show i < k - l.length by omega])) rfl ?_
  refine wk ?_
  exact zV
theorem less_c (a b : List UInt8) : CtrA Tryz.prog 233 [vS a, vS b] (vb (decide (a.length < b.length) || (decide (a.length = b.length) && Op.bytesLess a b))) := by
 refine ctrA _ Tryz.func233 rfl rfl Tryz.ntmps233 rfl fun w Z => ?_
 refine zU ?_
 refine wk ?_
 (first | refine sq_split rfl rfl ?_ ?_ | refine dq_split rfl rfl ?_ ?_) <;> intro hb <;> (try simp only [zA, zB, zG, zC, zD, zN] at hb) <;> (try (exfalso; omega))
 ·refine wk ?_
  exact sq_res1 rfl (.tmp rfl) (congrArg vb (by simp; omega))
 ·refine wk ?_
  (first | refine sq_split rfl rfl ?_ ?_ | refine dq_split rfl rfl ?_ ?_) <;> intro hb <;> (try simp only [zA, zB, zG, zC, zD, zN] at hb) <;> (try (exfalso; omega))
  ·refine wk ?_
   exact sq_res1 rfl (.tmp rfl) (congrArg vb (by
    have e1 : ¬ a.length < b.length := by omega
    have e2 : a.length = b.length := by omega
    simp [e1, e2]))
  ·refine wk ?_
   exact sq_res1 rfl (.tmp rfl) (congrArg vb (by
    have e1 : ¬ a.length < b.length := by omega
    have e2 : ¬ a.length = b.length := by omega
    simp [e1, e2]))
theorem less_i (u v : Nat) : CtrA Tryz.prog 233 [vS (decDigits u), vS (decDigits v)] (vb (decide (u < v))) := by
 have h := less_c (decDigits u) (decDigits v)
 have e : (decide ((decDigits u).length < (decDigits v).length) || (decide ((decDigits u).length = (decDigits v).length) && Op.bytesLess (decDigits u) (decDigits v))) = decide (u < v) := by
  rw [Bool.eq_iff_iff]
  simp only [Bool.or_eq_true, Bool.and_eq_true, decide_eq_true_eq]
  exact dec_less u v
 rwa [e] at h
theorem column_c (x y : UInt8) (c : Int) (add : Bool) (hx : isD x) (hy : isD y) (hc : 0 ≤ c ∧ c ≤ 1) :
  CtrA Tryz.prog 280 [v8 x.toNat, v8 y.toNat, vi c, vb add] (tupOf [v8 (48 + colD (colN ((x.toNat : Int) - 48) ((y.toNat : Int) - 48) c add)), vi (colC (colN ((x.toNat : Int) - 48) ((y.toNat : Int) - 48) c add))]) := by
 have h1 := dgI hx
 have h2 := dgI hy
 generalize (x.toNat : Int) = m at h1 ⊢
 generalize (y.toNat : Int) = n at h2 ⊢
 cases add with
 |true =>
  refine ctrA _ Tryz.func280 rfl rfl Tryz.ntmps280 rfl fun w Z => ?_
  refine zU ?_
  refine wk ?_
  (refine cq_cond rfl ?_ ?_ <;> intro hb <;> (try simp only [zA, zB, zG, zC, zD, zN] at hb) <;> (try (exfalso; omega)))
  ·refine wk ?_
   exact sq_resN (rvs := [_, _]) (τs := [_, _]) rfl rfl ⟨.tmp rfl, .tmp rfl, trivial⟩ (by simp only [colN, colD, colC, if_true]; rw [if_pos (by omega), if_pos (by omega)]; congr 4; omega)
  ·refine wk ?_
   (refine cq_cond rfl ?_ ?_ <;> intro hb <;> (try simp only [zA, zB, zG, zC, zD, zN] at hb) <;> (try (exfalso; omega)))
   refine wk ?_
   exact sq_resN (rvs := [_, _]) (τs := [_, _]) rfl rfl ⟨.tmp rfl, .tmp rfl, trivial⟩ (by simp only [colN, colD, colC, if_true]; rw [if_neg (by omega), if_neg (by omega), if_neg (by omega), if_neg (by omega)])
 |false =>
  refine ctrA _ Tryz.func280 rfl rfl Tryz.ntmps280 rfl fun w Z => ?_
  refine zU ?_
  refine wk ?_
  (refine cq_cond rfl ?_ ?_ <;> intro hb <;> (try simp only [zA, zB, zG, zC, zD, zN] at hb) <;> (try (exfalso; omega)))
  refine wk ?_
  (refine cq_cond rfl ?_ ?_ <;> intro hb <;> (try simp only [zA, zB, zG, zC, zD, zN] at hb) <;> (try (exfalso; omega)))
  ·refine wk ?_
   exact sq_resN (rvs := [_, _]) (τs := [_, _]) rfl rfl ⟨.tmp rfl, .tmp rfl, trivial⟩ (by simp only [colN, colD, colC, Bool.false_eq_true, if_false]; rw [if_neg (by omega), if_pos (by omega), if_neg (by omega), if_pos (by omega)]; congr 4; omega)
  ·refine wk ?_
   exact sq_resN (rvs := [_, _]) (τs := [_, _]) rfl rfl ⟨.tmp rfl, .tmp rfl, trivial⟩ (by simp only [colN, colD, colC, Bool.false_eq_true, if_false]; rw [if_neg (by omega), if_neg (by omega), if_neg (by omega), if_neg (by omega)])
theorem dec_len_pos (n : Nat) : 0 < (decDigits n).length := List.length_pos_iff.2 (dec_ne n)
theorem bf_set {l : List UInt8} {j : Nat} {b : UInt8} {x : Int} (hx : x = b.toNat) (hj : j < l.length) (i q : Nat) (hq : q < 1) : rowSet (bf l) j 0 [v8 x] i q = bf (l.set j b) i q := by
 obtain rfl : q = 0 := zO
 unfold rowSet bf
 by_cases h : i = j
 ·subst h
  simp [List.getD, hj, hx]
 ·rw [if_neg (by simp [h])]
  simp [List.getD, List.getElem?_set_ne (Ne.symm h)]
theorem bf_zero (n i j : Nat) (hi : i < n) (hj : j < 1) : AV.val ([Value.int .u8 0].getD j undef) = bf (List.replicate n 0) i j := by
 obtain rfl : j = 0 := zO
 unfold bf
 rw [getD_rep n 0 i hi]
 rfl
theorem paper_c (u v : Nat) (add : Bool) (hu : (decDigits u).length ≤ 100000) (hv : (decDigits v).length ≤ 100000) (hle : add = false → v ≤ u) :
  CtrA Tryz.prog 232 [vS (decDigits u), vS (decDigits v), vb add] (vS (decDigits (if add then u + v else u - v))) := by
 have pu := dec_len_pos u
 have pv := dec_len_pos v
 generalize hN : max (decDigits u).length (decDigits v).length + 1 = N
 have w1 := wide_c (decDigits u) N pu zO zO
 have w2 := wide_c (decDigits v) N pv zO zO
 have hla := wide_len (l := decDigits u) (n := N) zO
 have hlb := wide_len (l := decDigits v) (n := N) zO
 have da := wide_dig (dec_dig u) N
 have db := wide_dig (dec_dig v) N
 have va : dv (wideL (decDigits u) N) = u := by rw [dv_wide, dv_dec]
 have vv : dv (wideL (decDigits v) N) = v := by rw [dv_wide, dv_dec]
 have lu := dv_lt _ (dec_dig u)
 have lv := dv_lt _ (dec_dig v)
 rw [dv_dec] at lu lv
 have hsum : u + v < 10 ^ N := by
  have h1 : 10 ^ (decDigits u).length ≤ 10 ^ (N - 1) := Nat.pow_le_pow_right zE zO
  have h2 : 10 ^ (decDigits v).length ≤ 10 ^ (N - 1) := Nat.pow_le_pow_right zE zO
  rw [show N = (N - 1) + 1 by omega, Nat.pow_succ]; omega
 generalize wideL (decDigits u) N = A at *
 generalize wideL (decDigits v) N = B at *
 have hmax : ∀ a b : Int, (if a < b then b else a) = max a b := fun a b => max_eq a b
 refine ctrA _ Tryz.func232 rfl rfl Tryz.ntmps232 rfl fun w Z => ?_
 refine zU ?_
 refine wk ?_
 rw [show ((if ((decDigits u).length : Int) < ((decDigits v).length : Int) then ((decDigits v).length : Int) else ((decDigits u).length : Int)) + 1) = (N : Int) from (by split <;> omega)]
 refine wk ?_
 refine sq_v (f_make (n := N) (sz := 1) 50 (zs := [.int .u8 0]) rfl zi5 rfl rfl rfl rfl (by simp only [maxLen]; omega) (by omega) rfl) rfl ?_
 refine wk ?_
 refine cq_loop (γ := Nat × List UInt8 × Int) (fun q => [(0, .av (vS A)), (1, .av (vS B)), (2, .av (vb add)), (7, .av (vi N)), (8, .osl 50), (9, .av (vi q.2.2)), (10, .av (vi ((q.1 : Int) - 1)))]) (fun q => [(50, .row 5 1 N (bf q.2.1))]) (fun q => PInv add A B q.2.1 q.1 q.2.2) (fun q => q.1) (N, List.replicate N 0, 0) (hla ▸ PInv.zero (by simp) (hlb.trans hla.symm)) (ent zS ⟨⟨_, rfl, .row rfl (fun i hi j hj => bf_zero N i j hi hj)⟩, trivial⟩) ?_
 rintro ⟨k, l, c⟩ hinv
 dsimp only at hinv ⊢
 have hk := hinv.le
 have hll := hinv.len
 refine wk ?_
 (refine cq_cond rfl ?_ ?_ <;> intro hb <;> (try simp only [zA, zB, zG, zC, zD, zN] at hb) <;> (try (exfalso; omega)))
 ·obtain ⟨j, rfl⟩ : ∃ j, k = j + 1 := ⟨k - 1, by omega⟩
  have hja : j < A.length := by omega
  have hjb : j < B.length := by omega
  have hx : A[j]? = some A[j] := List.getElem?_eq_getElem hja
  have hy : B[j]? = some B[j] := List.getElem?_eq_getElem hjb
  generalize A[j] = x at hx
  generalize B[j] = y at hy
  have dx := da x (List.mem_of_getElem? hx)
  have dy := db y (List.mem_of_getElem? hy)
  have hst := hinv.step da db (hlb.trans hla.symm) hx hy
  have hcol := column_c x y c add dx dy hinv.c01
  have hd := (col_ok (add := add) (dgI dx) (dgI dy) hinv.c01).1
  generalize colD (colN ((x.toNat : Int) - 48) ((y.toNat : Int) - 48) c add) = D at hst hcol hd
  generalize colC (colN ((x.toNat : Int) - 48) ((y.toNat : Int) - 48) c add) = C at hst hcol
  refine wk ?_
  refine dq_g (g_sidx rfl rfl zO hx) rfl ?_
  refine wk ?_
  refine dq_g (g_sidx rfl rfl zO hy) rfl ?_
  refine wk ?_
  have e : (((j + 1 : Nat) : Int) - 1).toNat = j := by omega
  rw [e]
  exact sq_round (g := (j + 1, l, c)) (j, l.set j (byt D), C) hst (by show j < j + 1; omega) (ent ⟨.refl _, .refl _, .refl _, .refl _, .refl _, .refl _, .int (by dsimp only; omega), trivial⟩ ⟨⟨_, rfl, .row rfl (fun i hi q hq => bf_set (byt_toNat hd).symm (by omega) i q hq)⟩, trivial⟩)
 ·obtain rfl : k = 0 := by omega
  have hne : l ≠ [] := fun e => by rw [e] at hll; simp at hll; omega
  have hb0 := bare_c l hne zO
  have he : bare l = decDigits (if add then u + v else u - v) := by
   cases add with
   |true => rw [if_pos rfl, hinv.sum hne (by rw [va, vv, hla]; exact hsum), va, vv]
   |false => rw [if_neg (by simp), hinv.dif hne (by rw [va, vv]; exact hle rfl) da, va, vv]
  rw [he] at hb0
  refine wk ?_
  refine sq_g (g_str_osl (l := l) rfl rfl zO zO (fun i hi => rfl)) rfl ?_
  refine wk ?_
  exact zV
theorem zi3 : ∃ inf z, Tryz.prog.info? 3 = some inf ∧ inf.zero = some z ∧ inf.size = 1 ∧ inf.bytes = 8 ∧ z.cells = [Value.int .i64 0].toArray ∧ 0 < 1 :=
 ⟨(Tryz.prog.info? 3).getD default, .int .i64 0, by kernel_rfl, by kernel_rfl, by kernel_rfl, by kernel_rfl, rfl, by decide⟩
def nf (l : List Int) : Nat → Nat → AV := fun i _ => vi (l.getD i 0)
theorem nf_set {l : List Int} {j : Nat} {x : Int} (hj : j < l.length) (i q : Nat) (hq : q < 1) : rowSet (nf l) j 0 [vi x] i q = nf (l.set j x) i q := by
 obtain rfl : q = 0 := zO
 unfold rowSet nf
 by_cases h : i = j
 ·subst h
  simp [List.getD, hj]
 ·rw [if_neg (by simp [h])]
  simp [List.getD, List.getElem?_set_ne (Ne.symm h)]
theorem nf_zero (n i j : Nat) (hi : i < n) (hj : j < 1) : AV.val ([Value.int .i64 0].getD j undef) = nf (List.replicate n 0) i j := by
 obtain rfl : j = 0 := zO
 unfold nf
 have : (List.replicate n (0 : Int)).getD i 0 = 0 := by simp [List.getD, hi]
 rw [this]
 rfl
theorem product_c (u v : Nat) (hu : (decDigits u).length ≤ 10000) (hv : (decDigits v).length ≤ 10000) : CtrA Tryz.prog 193 [vS (decDigits u), vS (decDigits v)] (vS (decDigits (u * v))) := by
 have pu := dec_len_pos u
 have pv := dec_len_pos v
 have va := dv_dec u
 have vv := dv_dec v
 have da := dec_dig u
 have db := dec_dig v
 have lu := dv_lt _ da
 have lv := dv_lt _ db
 have hlt : u * v < 10 ^ ((decDigits u).length + (decDigits v).length) := by
  rw [Nat.pow_add]; rw [va] at lu; rw [vv] at lv
  exact Nat.mul_lt_mul'' lu lv
 generalize decDigits u = A at *
 generalize decDigits v = B at *
 generalize hN : A.length + B.length = N at *
 refine ctrA _ Tryz.func193 rfl rfl Tryz.ntmps193 rfl fun w Z => ?_
 refine zU ?_
 refine wk ?_
 refine sq_v (f_make (n := N) (sz := 1) 50 (zs := [.int .i64 0]) rfl zi3 rfl rfl (by omega) (by omega) (by simp only [maxLen]; omega) (by omega) rfl) rfl ?_
 refine wk ?_
 refine cq_loop (γ := Nat × List Int) (fun q => [(0, .av (vS A)), (1, .av (vS B)), (5, .osl 50), (6, .av (vi q.1))]) (fun q => [(50, .row 3 1 N (nf q.2))]) (fun q => MInv A B q.2 q.1 0 ∧ q.1 ≤ A.length) (fun q => A.length - q.1) (0, List.replicate (A.length + B.length) 0) ⟨MInv.zero A B, Nat.zero_le _⟩ (ent zS ⟨⟨_, rfl, .row rfl (fun i hi j hj => by rw [hN]; exact nf_zero N i j hi hj)⟩, trivial⟩) ?_
 rintro ⟨i, l⟩ ⟨h1, h2⟩
 dsimp only at h1 h2 ⊢
 refine wk ?_
 (refine cq_cond rfl ?_ ?_ <;> intro hb <;> (try simp only [zA, zB, zG, zC, zD, zN] at hb) <;> (try (exfalso; omega)))
 ·refine wk ?_
  refine cq_loop (γ := Nat × List Int) (fun q => [(0, .av (vS A)), (1, .av (vS B)), (5, .osl 50), (6, .av (vi i)), (7, .av (vi q.1))]) (fun q => [(50, .row 3 1 N (nf q.2))]) (fun q => MInv A B q.2 i q.1 ∧ q.1 ≤ B.length) (fun q => B.length - q.1) (0, l) ⟨h1, Nat.zero_le _⟩ (ent zS zT) ?_
  rintro ⟨k, m⟩ ⟨g1, g2⟩
  dsimp only at g1 g2 ⊢
  refine wk ?_
  (refine cq_cond rfl ?_ ?_ <;> intro hb <;> (try simp only [zA, zB, zG, zC, zD, zN] at hb) <;> (try (exfalso; omega)))
  ·have hx : A[i]? = some A[i] := List.getElem?_eq_getElem zO
   have hy : B[k]? = some B[k] := List.getElem?_eq_getElem zO
   have hml := g1.len
   have hc : m[i + k + 1]? = some m[i + k + 1] := List.getElem?_eq_getElem zO
   have hst := g1.step da db hx hy hc
   have hbd := g1.bd _ (List.getElem_mem (by omega : i + k + 1 < m.length))
   have dx := dgI (da _ (List.mem_of_getElem? hx))
   have dy := dgI (db _ (List.mem_of_getElem? hy))
   generalize A[i] = x at *
   generalize B[k] = y at *
   have hmul : 0 ≤ ((x.toNat : Int) - 48) * ((y.toNat : Int) - 48) ∧ ((x.toNat : Int) - 48) * ((y.toNat : Int) - 48) ≤ 81 := by
    refine ⟨Int.mul_nonneg dx.1 dy.1, ?_⟩
    have := Int.mul_le_mul_of_nonneg_right (c := (y.toNat : Int) - 48) dx.2 dy.1
    omega
   have hik : i * B.length + k ≤ 100010000 := by
    have : i * B.length ≤ 10000 * 10000 := Nat.mul_le_mul zO hv
    omega
   have e : ((i : Int) + (k : Int) + 1).toNat = i + k + 1 := by omega
   have hg : m.getD (i + k + 1) 0 = m[i + k + 1] := by simp [List.getD, hc]
   have hg' : m.getD (((i : Int) + (k : Int) + 1).toNat) 0 = m[i + k + 1] := by rw [e, hg]
   generalize m[i + k + 1] = c at *
   refine wk ?_
   refine dq_g (g_sidx rfl rfl rfl hx) rfl ?_
   refine wk ?_
   refine dq_g (g_sidx rfl rfl rfl hy) rfl ?_
   refine wk ?_
   rw [e, hg]
   exact sq_round (g := (k, m)) (k + 1, m.set (i + k + 1) (c + ((x.toNat : Int) - 48) * ((y.toNat : Int) - 48))) ⟨hst, by show k + 1 ≤ B.length; omega⟩ (by show B.length - (k + 1) < B.length - k; omega) (ent ⟨.refl _, .refl _, .refl _, .refl _, .int (by dsimp only; omega), trivial⟩ ⟨⟨_, rfl, .row rfl (fun i' hi q hq => nf_set (by omega) i' q hq)⟩, trivial⟩)
  ·obtain rfl : k = B.length := by omega
   refine wk ?_
   exact sq_round (g := (i, l)) (i + 1, m) ⟨g1.row (by omega), by show i + 1 ≤ A.length; omega⟩ (by show A.length - (i + 1) < A.length - i; omega) (ent ⟨.refl _, .refl _, .refl _, .int (by dsimp only; omega), trivial⟩ zT)
 ·obtain rfl : i = A.length := by omega
  have hll := h1.len
  have hall := h1.all
  have hbd : ∀ x ∈ l, 0 ≤ x ∧ x ≤ 10000000000 := fun x hx => by
   have := h1.bd x hx
   have h3 : A.length * B.length ≤ 10000 * 10000 := Nat.mul_le_mul hu hv
   omega
  rw [va, vv] at hall
  refine wk ?_
  refine sq_v (f_make (n := N) (sz := 1) 51 (zs := [.int .u8 0]) rfl zi5 rfl rfl rfl rfl (by simp only [maxLen]; omega) (by omega) rfl) rfl ?_
  refine wk ?_
  refine cq_loop (γ := Nat × List UInt8 × Int) (fun q => [(5, .osl 50), (8, .osl 51), (9, .av (vi q.2.2)), (10, .av (vi ((q.1 : Int) - 1)))]) (fun q => [(50, .row 3 1 N (nf l)), (51, .row 5 1 N (bf q.2.1))]) (fun q => CInv l q.2.1 q.1 q.2.2 10000000000) (fun q => q.1) (N, List.replicate N 0, 0) ((hll.trans hN) ▸ CInv.zero (by simp) (by decide)) (ent zS ⟨⟨_, rfl, .refl _⟩, ⟨_, rfl, .row rfl (fun i hi j hj => bf_zero N i j hi hj)⟩, trivial⟩) ?_
  rintro ⟨k, o, c⟩ hinv
  dsimp only at hinv ⊢
  have hk := hinv.le
  have hol := hinv.len
  have hc0 := hinv.c0
  refine wk ?_
  (refine cq_cond rfl ?_ ?_ <;> intro hb <;> (try simp only [zA, zB, zG, zC, zD, zN] at hb) <;> (try (exfalso; omega)))
  ·obtain ⟨j, rfl⟩ : ∃ j, k = j + 1 := ⟨k - 1, by omega⟩
   have hx : l[j]? = some l[j] := List.getElem?_eq_getElem zO
   have hxb := hbd _ (List.mem_of_getElem? hx)
   have hst := hinv.step hx hxb
   have e : (((j + 1 : Nat) : Int) - 1).toNat = j := by omega
   have hg : l.getD j 0 = l[j] := by simp [List.getD, hx]
   have hg' : l.getD ((((j + 1 : Nat) : Int) - 1).toNat) 0 = l[j] := by rw [e, hg]
   generalize l[j] = x at *
   refine wk ?_
   rw [e, hg]
   exact sq_round (g := (j + 1, o, c)) (j, o.set j (byt ((c + x) % 10)), (c + x) / 10) hst (by show j < j + 1; omega) (ent ⟨.refl _, .refl _, .refl _, .int (by dsimp only; omega), trivial⟩ ⟨⟨_, rfl, .refl _⟩, ⟨_, rfl, .row rfl (fun i hi q hq => bf_set (byt_toNat (by omega)).symm (by omega) i q hq)⟩, trivial⟩)
  ·obtain rfl : k = 0 := by omega
   have hne : o ≠ [] := fun e => by rw [e] at hol; simp at hol; omega
   have hb0 := bare_c o hne zO
   rw [hinv.all hne (n := u * v) (by rw [hall]; simp) (by rw [hll, hN]; exact hlt)] at hb0
   refine wk ?_
   refine sq_g (g_str_osl (l := o) rfl rfl zO zO (fun i hi => rfl)) rfl ?_
   refine wk ?_
   exact zV
end Go.Proofs.YtgepmbjmaljgoaaGreatDoor
section
namespace Go.Proofs.YtgepmbjmaljgoaaGreatDoor
open Go Go.Vc Go.RowKit Go.Na Go.Lib
set_option maxHeartbeats 4000000
theorem tq187b (x : Int) (w : World) : (Instr.buildSlice 187 1 #[(0, .int .u8 x)]).run Tryz.prog w = .ok (.slice (some ⟨w.heap.size, 0, none⟩) 1 1) (w.alloc (.cells #[.int .u8 x] 5)) := by kernel_rfl
section
variable {E : Env} {T : Tab} {O : Go.Vc.Own} {d : Option Nat} {ty : TypeId} {pos : String} {af : Array Edge} {g : Option (Nat × Bool)}
theorem g_byte (b : UInt8) {x : Operand} {n : Int} (hx : T.ev x = .av (v8 n)) (hn : n = b.toNat) : GV Tryz.prog E ⟨d, .buildSlice 187 1 #[(0, x)], ty, pos, af, g⟩ T O (.av (.sl 1 1 (bf [b]))) [] [] := by
 subst hn
 exact g_bslice (is := [0]) (xs := [x]) (vs := [.int .u8 b.toNat]) (us := [.int .u8 b.toNat]) (tq187b _) rfl (by simp only [List.map_cons, List.map_nil, hx]) rfl (fun i hi j hj => by
  obtain rfl : i = 0 := zO
  obtain rfl : j = 0 := zO
  exact ⟨_, rfl, rfl⟩)
end
theorem signed_c (u : Nat) (neg : Bool) (hu : (decDigits u).length ≤ 1000000) : CtrA Tryz.prog 190 [vS (decDigits u), vb neg] (vI (if neg then -(u : Int) else u)) := by
 cases neg with
 |false =>
  refine ctrA _ Tryz.func190 rfl rfl Tryz.ntmps190 rfl fun w Z => ?_
  refine zU ?_
  refine wk ?_
  exact sq_res1 rfl (.tmp rfl) (by rw [if_neg (by simp)]; exact congrArg vS (itoa_nat u).symm)
 |true =>
  by_cases h0 : u = 0
  ·subst h0
   refine ctrA _ Tryz.func190 rfl rfl Tryz.ntmps190 rfl fun w Z => ?_
   refine zU ?_
   have e : decDigits 0 = [48] := by rw [decDigits]; rfl
   rw [e]
   refine wk ?_
   exact sq_res1 rfl (.tmp rfl) (by simp only [if_true]; exact congrArg vS e.symm)
  ·have hne : (decDigits u == [48]) = false := by
    rw [beq_eq_false_iff_ne]
    intro e
    have := congrArg dv e
    rw [dv_dec] at this
    exact h0 this
   refine ctrA _ Tryz.func190 rfl rfl Tryz.ntmps190 rfl fun w Z => ?_
   refine zU ?_
   refine wk ?_
   rw [hne]
   refine wk ?_
   refine sq_g (g_sadd rfl rfl (by simp only [List.length_cons, List.length_nil]; omega)) rfl ?_
   refine wk ?_
   exact sq_res1 rfl (.tmp rfl) (by simp only [if_true]; exact congrArg vS (by rw [itoa_neg (show -(u : Int) < 0 by omega), Int.natAbs_neg]; rfl))
theorem signed_i (m : Int) (u : Nat) (neg : Bool) (hm : m = if neg then -(u : Int) else u) (hu : (decDigits u).length ≤ 1000000) : CtrA Tryz.prog 190 [vS (decDigits u), vb neg] (vI m) := hm ▸ signed_c u neg hu
theorem turned_c (m : Int) (hm : (decDigits m.natAbs).length ≤ 1000000) : CtrA Tryz.prog 146 [vI m] (vI (-m)) := by
 have h1 := size_i m
 have h2 := below_i m
 have h3 := signed_i (-m) m.natAbs (!decide (m < 0)) (by by_cases h : m < 0 <;> simp [h] <;> omega) hm
 refine ctrA _ Tryz.func146 rfl rfl Tryz.ntmps146 rfl fun w Z => ?_
 refine zU ?_
 refine wk ?_
 exact zV
theorem dec_step {k : Nat} (h : 9 < k) : decDigits k = decDigits (k / 10) ++ [byt ((k : Int) % 10)] := by
 rw [decDigits, dif_neg (by omega)]
 congr 3
theorem dec_last {k : Nat} (h : k ≤ 9) : decDigits k = [byt (k : Int)] := by
 rw [decDigits, dif_pos (by omega)]
 rfl
theorem of_pos (n : Nat) (hn : n ≤ 9223372036854775807) : CtrA Tryz.prog 84 [vi n] (vI n) := by
 refine ctrA _ Tryz.func84 rfl rfl Tryz.ntmps84 rfl fun w Z => ?_
 refine zU ?_
 refine wk ?_
 (first | refine sq_split rfl rfl ?_ ?_ | refine dq_split rfl rfl ?_ ?_) <;> intro hb <;> (try simp only [zA, zB, zG, zC, zD, zN] at hb) <;> (try (exfalso; omega))
 ·obtain rfl : n = 0 := by omega
  refine wk ?_
  refine cq_loop (γ := Unit) (fun _ => [(0, .av (vi 0)), (3, .av (vS []))]) (fun _ => []) (fun _ => True) (fun _ => 0) () trivial (ent zS trivial) ?_
  rintro ⟨⟩ _
  refine wk ?_
  refine sq_g (g_byte 48 rfl rfl) rfl ?_
  refine wk ?_
  refine sq_g (g_str_sl (l := [48]) rfl rfl zE (fun i hi => rfl)) rfl ?_
  refine wk ?_
  refine sq_g (g_sadd rfl rfl (by simp)) rfl ?_
  refine wk ?_
  exact sq_res1 rfl (.tmp rfl) (congrArg vS (by rw [show itoa ((0 : Nat) : Int) = [48] from by rw [itoa_nat, dec_last (by decide)]; rfl]; rfl))
 ·refine wk ?_
  refine wk ?_
  have hL := dec_len (k := n) (n := 19) zO zE
  refine cq_loop (γ := Nat × List UInt8) (fun q => [(0, .av (vi q.1)), (3, .av (vS q.2))]) (fun _ => []) (fun q => decDigits q.1 ++ q.2 = decDigits n ∧ q.1 ≤ n) (fun q => q.1) (n, []) ⟨by simp, Nat.le_refl _⟩ (ent zS trivial) ?_
  rintro ⟨k, s⟩ ⟨h1, h2⟩
  dsimp only at h1 h2 ⊢
  have hl1 := congrArg List.length h1
  rw [List.length_append] at hl1
  refine wk ?_
  (refine cq_cond rfl ?_ ?_ <;> intro hb <;> (try simp only [zA, zB, zG, zC, zD, zN] at hb) <;> (try (exfalso; omega)))
  ·refine wk ?_
   refine sq_g (g_byte (byt ((k : Int) % 10)) rfl (byt_toNat zO).symm) rfl ?_
   refine wk ?_
   refine sq_g (g_str_sl (l := [byt ((k : Int) % 10)]) rfl rfl zE (fun i hi => rfl)) rfl ?_
   refine wk ?_
   refine sq_g (g_sadd rfl rfl (by simp only [List.length_cons, List.length_nil]; omega)) rfl ?_
   refine wk ?_
   exact sq_round (g := (k, s)) (k / 10, [byt ((k : Int) % 10)] ++ s) ⟨by show decDigits (k / 10) ++ ([byt ((k : Int) % 10)] ++ s) = _; rw [← List.append_assoc, ← dec_step (by omega)]; exact h1, by show k / 10 ≤ n; omega⟩ (by show k / 10 < k; omega) (ent ⟨.int (by dsimp only; omega), .refl _, trivial⟩ trivial)
  ·rw [dec_last (by omega)] at h1
   refine wk ?_
   refine sq_g (g_byte (byt (k : Int)) rfl (byt_toNat zO).symm) rfl ?_
   refine wk ?_
   refine sq_g (g_str_sl (l := [byt (k : Int)]) rfl rfl zE (fun i hi => rfl)) rfl ?_
   refine wk ?_
   refine sq_g (g_sadd rfl rfl (by simp only [List.length_cons, List.length_nil]; omega)) rfl ?_
   refine wk ?_
   exact sq_res1 rfl (.tmp rfl) (congrArg vS (by rw [itoa_nat, ← h1]))
theorem of_c (n : Int) (hn : -9223372036854775807 ≤ n ∧ n ≤ 9223372036854775807) : CtrA Tryz.prog 84 [vi n] (vI n) := by
 by_cases h : n < 0
 ·have h1 := of_pos n.natAbs zO
  rw [show ((n.natAbs : Nat) : Int) = -n by omega] at h1
  have h2 := turned_c (-n) (by have := dec_len (k := (-n).natAbs) (n := 19) zO zE; omega)
  rw [Int.neg_neg] at h2
  refine ctrA _ Tryz.func84 rfl rfl Tryz.ntmps84 rfl fun w Z => ?_
  refine zU ?_
  refine wk ?_
  (first | refine sq_split rfl rfl ?_ ?_ | refine dq_split rfl rfl ?_ ?_) <;> intro hb <;> (try simp only [zA, zB, zG, zC, zD, zN] at hb) <;> (try (exfalso; omega))
  refine wk ?_
  (refine cq_cond rfl ?_ ?_ <;> intro hb <;> (try simp only [zA, zB, zG, zC, zD, zN] at hb) <;> (try (exfalso; omega)))
  refine wk ?_
  exact zV
 ·have h1 := of_pos n.toNat zO
  rwa [Int.toNat_of_nonneg zO] at h1
theorem number_c (m : Int) (hm : (decDigits m.natAbs).length ≤ 18) : CtrA Tryz.prog 242 [vI m] (vi m) := by
 have h1 := size_i m
 have h2 := below_i m
 have hd := dec_dig m.natAbs
 have hv := dv_dec m.natAbs
 have hlt := dv_lt _ hd
 rw [hv] at hlt
 have hp : (10 : Nat) ^ (decDigits m.natAbs).length ≤ 10 ^ 18 := Nat.pow_le_pow_right zE hm
 have hb18 : m.natAbs < 1000000000000000000 := Nat.lt_of_lt_of_le hlt hp
 clear hlt hp
 generalize decDigits m.natAbs = D at *
 have hpre : ∀ i, dv (D.take i) ≤ m.natAbs := fun i => by
  have e := dv_append (D.take i) (D.drop i)
  rw [List.take_append_drop, hv] at e
  have : dv (D.take i) * 1 ≤ dv (D.take i) * 10 ^ (D.drop i).length := Nat.mul_le_mul_left _ (Nat.pow_pos zE)
  omega
 refine ctrA _ Tryz.func242 rfl rfl Tryz.ntmps242 rfl fun w Z => ?_
 refine zU ?_
 refine wk ?_
 refine cq_loop (γ := Nat) (fun i => [(0, .av (vI m)), (3, .av (vi (dv (D.take i)))), (4, .av (vS D)), (5, .av (vi i))]) (fun _ => []) (fun i => i ≤ D.length) (fun i => D.length - i) 0 (Nat.zero_le _) (ent zS trivial) ?_
 intro i hi
 have hpi := hpre i
 refine wk ?_
 (refine cq_cond rfl ?_ ?_ <;> intro hb <;> (try simp only [zA, zB, zG, zC, zD, zN] at hb) <;> (try (exfalso; omega)))
 ·have hil : i < D.length := by omega
  have hx : D[i]? = some D[i] := List.getElem?_eq_getElem hil
  have dx := hd _ (List.mem_of_getElem? hx)
  have hst := dv_take hil
  have hp2 := hpre (i + 1)
  have dx' := dgI dx
  generalize D[i] = x at *
  refine wk ?_
  refine sq_g (g_sidx rfl rfl rfl hx) rfl ?_
  refine wk ?_
  exact sq_round (i + 1) zO zO (ent zS trivial)
 ·obtain rfl : i = D.length := by omega
  rw [List.take_length] at *
  refine wk ?_
  (refine cq_cond rfl ?_ ?_ <;> intro hb <;> (try simp only [zA, zB, zG, zC, zD, zN] at hb) <;> (try (exfalso; omega)))
  ·refine wk ?_
   exact sq_res1 rfl (.tmp rfl) (congrArg vi zO)
  ·refine wk ?_
   exact sq_res1 rfl (.tmp rfl) (congrArg vi zO)
def b18 (m : Int) : Prop := (decDigits m.natAbs).length ≤ 18
instance (m : Int) : Decidable (b18 m) := by unfold b18; infer_instance
theorem brief_t (m n : Int) (hm : b18 m) (hn : b18 n) : CtrA Tryz.prog 191 [vI m, vI n] (tupOf [vi m, vi n, vb true]) := by
 have h1 := size_i m
 have h2 := size_i n
 have h3 := number_c m hm
 have h4 := number_c n hn
 unfold b18 at hm hn
 refine ctrA _ Tryz.func191 rfl rfl Tryz.ntmps191 rfl fun w Z => ?_
 refine zU ?_
 refine wk ?_
 (first | refine sq_split rfl rfl ?_ ?_ | refine dq_split rfl rfl ?_ ?_) <;> intro hb <;> (try simp only [zA, zB, zG, zC, zD, zN] at hb) <;> (try (exfalso; omega))
 refine wk ?_
 (refine cq_cond rfl ?_ ?_ <;> intro hb <;> (try simp only [zA, zB, zG, zC, zD, zN] at hb) <;> (try (exfalso; omega)))
 refine wk ?_
 exact zX
theorem brief_f (m n : Int) (h : ¬ (b18 m ∧ b18 n)) : CtrA Tryz.prog 191 [vI m, vI n] (tupOf [vi 0, vi 0, vb false]) := by
 have h1 := size_i m
 have h2 := size_i n
 unfold b18 at h
 refine ctrA _ Tryz.func191 rfl rfl Tryz.ntmps191 rfl fun w Z => ?_
 refine zU ?_
 refine wk ?_
 (first | refine sq_split rfl rfl ?_ ?_ | refine dq_split rfl rfl ?_ ?_) <;> intro hb <;> (try simp only [zA, zB, zG, zC, zD, zN] at hb) <;> (try (exfalso; omega))
 ·refine wk ?_
  exact zX
 ·refine wk ?_
  (refine cq_cond rfl ?_ ?_ <;> intro hb <;> (try simp only [zA, zB, zG, zC, zD, zN] at hb) <;> (try (exfalso; omega)))
  ·refine wk ?_
   exact zX
theorem b18_lt {m : Int} (h : b18 m) : -1000000000000000000 < m ∧ m < 1000000000000000000 := by
 have hlt := dv_lt _ (dec_dig m.natAbs)
 rw [dv_dec] at hlt
 have hp : (10 : Nat) ^ (decDigits m.natAbs).length ≤ 10 ^ 18 := Nat.pow_le_pow_right zE h
 have : m.natAbs < 1000000000000000000 := Nat.lt_of_lt_of_le hlt hp
 omega
end Go.Proofs.YtgepmbjmaljgoaaGreatDoor
end
namespace Go.Proofs.YtgepmbjmaljgoaaGreatDoor
open Go Go.Vc Go.RowKit Go.Na Go.Lib
set_option maxHeartbeats 4000000
theorem plus_c (m n : Int) (hm : LI 5000 m) (hn : LI 5000 n) : CtrA Tryz.prog 178 [vI m, vI n] (vI (m + n)) := by
 by_cases hb : b18 m ∧ b18 n
 ·have hbr := brief_t m n hb.1 hb.2
  have hof := of_c (m + n) (by have := b18_lt hb.1; have := b18_lt hb.2; omega)
  have := b18_lt hb.1
  have := b18_lt hb.2
  refine ctrA _ Tryz.func178 rfl rfl Tryz.ntmps178 rfl fun w Z => ?_
  refine zU ?_
  refine wk ?_
  exact zV
 have hbr := brief_f m n hb
 have h1 := size_i m
 have h2 := size_i n
 have h3 := below_i m
 have h4 := below_i n
 have l1 := hm.len zE
 have l2 := hn.len zE
 by_cases hs : (m < 0 ↔ n < 0)
 ·have h6 := paper_c m.natAbs n.natAbs true (by omega) (by omega) (by simp)
  rw [if_pos rfl] at h6
  have l3 := dec_len (k := m.natAbs + n.natAbs) (n := 5001) (by have := hm.abs.add hn.abs; unfold LI at this; omega) zE
  have h7 := signed_i (m + n) (m.natAbs + n.natAbs) (decide (m < 0)) (by split <;> simp_all <;> omega) (by omega)
  rw [show decide (n < 0) = decide (m < 0) from by simp [hs]] at h4
  cases hd : decide (m < 0)
  all_goals
   rw [hd] at h3 h4 h7
   refine ctrA _ Tryz.func178 rfl rfl Tryz.ntmps178 rfl fun w Z => ?_
   refine zU ?_
   refine wk ?_
   exact zV
 ·have h5 := less_i m.natAbs n.natAbs
  have e4 : decide (n < 0) = !decide (m < 0) := by by_cases a : m < 0 <;> by_cases b : n < 0 <;> simp_all
  rw [e4] at h4
  by_cases hl : m.natAbs < n.natAbs
  ·rw [decide_eq_true hl] at h5
   have h6 := paper_c n.natAbs m.natAbs false zO zO (fun _ => by omega)
   rw [if_neg (by simp)] at h6
   have l3 := dec_len (k := n.natAbs - m.natAbs) (n := 5000) (by unfold LI at hn; omega) zE
   have h7 := signed_i (m + n) (n.natAbs - m.natAbs) (!decide (m < 0)) (by split <;> simp_all <;> omega) (by omega)
   cases hd : decide (m < 0)
   all_goals
    rw [hd] at h3 h4 h7
    refine ctrA _ Tryz.func178 rfl rfl Tryz.ntmps178 rfl fun w Z => ?_
    refine zU ?_
    refine wk ?_
    exact zV
  ·rw [decide_eq_false hl] at h5
   have h6 := paper_c m.natAbs n.natAbs false zO zO (fun _ => by omega)
   rw [if_neg (by simp)] at h6
   have l3 := dec_len (k := m.natAbs - n.natAbs) (n := 5000) (by unfold LI at hm; omega) zE
   have h7 := signed_i (m + n) (m.natAbs - n.natAbs) (decide (m < 0)) (by split <;> simp_all <;> omega) (by omega)
   cases hd : decide (m < 0)
   all_goals
    rw [hd] at h3 h4 h7
    refine ctrA _ Tryz.func178 rfl rfl Tryz.ntmps178 rfl fun w Z => ?_
    refine zU ?_
    refine wk ?_
    exact zV
theorem minus_c (m n : Int) (hm : LI 5000 m) (hn : LI 5000 n) : CtrA Tryz.prog 145 [vI m, vI n] (vI (m - n)) := by
 have h1 := turned_c n (by have := hn.len zE; omega)
 have h2 := plus_c m (-n) hm hn.neg
 rw [← Int.sub_eq_add_neg] at h2
 refine ctrA _ Tryz.func145 rfl rfl Tryz.ntmps145 rfl fun w Z => ?_
 refine zU ?_
 refine wk ?_
 exact zV
theorem itoa_is0 (m : Int) : (itoa m == [48]) = decide (m = 0) := by
 have e0 : itoa 0 = [48] := by rw [itoa_pos (by decide)]; exact dec_zero
 by_cases h : m = 0
 ·subst h; rw [e0]; rfl
 ·rw [decide_eq_false h, beq_eq_false_iff_ne, ← e0]
  exact fun e => h (itoa_inj e)
theorem order_c (m n : Int) (hm : LI 5000 m) (hn : LI 5000 n) : CtrA Tryz.prog 86 [vI m, vI n] (vi (sgn (m - n))) := by
 have h1 := minus_c m n hm hn
 generalize m - n = d at *
 have h2 := below_i d
 have h3 := itoa_is0 d
 by_cases h0 : d = 0
 ·rw [decide_eq_true h0] at h3
  refine ctrA _ Tryz.func86 rfl rfl Tryz.ntmps86 rfl fun w Z => ?_
  refine zU ?_
  refine wk ?_
  rw [h3]
  refine wk ?_
  exact sq_res1 rfl (.tmp rfl) (congrArg vi (by unfold sgn; rw [if_pos h0]))
 ·rw [decide_eq_false h0] at h3
  by_cases hd : d < 0
  ·rw [decide_eq_true hd] at h2
   refine ctrA _ Tryz.func86 rfl rfl Tryz.ntmps86 rfl fun w Z => ?_
   refine zU ?_
   refine wk ?_
   rw [h3]
   refine wk ?_
   exact sq_res1 rfl (.tmp rfl) (congrArg vi (by unfold sgn; rw [if_neg h0, if_pos hd]))
  ·rw [decide_eq_false hd] at h2
   refine ctrA _ Tryz.func86 rfl rfl Tryz.ntmps86 rfl fun w Z => ?_
   refine zU ?_
   refine wk ?_
   rw [h3]
   refine wk ?_
   exact sq_res1 rfl (.tmp rfl) (congrArg vi (by unfold sgn; rw [if_neg h0, if_neg hd]))
theorem times_c (m n : Int) (hm : LI 5000 m) (hn : LI 5000 n) : CtrA Tryz.prog 147 [vI m, vI n] (vI (m * n)) := by
 have h1 := size_i m
 have h2 := size_i n
 have h3 := below_i m
 have h4 := below_i n
 have l1 := hm.len zE
 have l2 := hn.len zE
 have h6 := product_c m.natAbs n.natAbs zO zO
 have l3 := (hm.mul hn).len zE
 rw [Int.natAbs_mul] at l3
 have hsg : m * n = if (decide (m < 0) != decide (n < 0)) = true then -((m.natAbs * n.natAbs : Nat) : Int) else ((m.natAbs * n.natAbs : Nat) : Int) := by
  rw [Int.natCast_mul]
  by_cases a : m < 0 <;> by_cases b : n < 0
  ·rw [if_neg (by simp [a, b]), show ((m.natAbs : Nat) : Int) = -m by omega, show ((n.natAbs : Nat) : Int) = -n by omega]; simp only [Int.neg_mul, Int.mul_neg, Int.neg_neg]
  ·rw [if_pos (by simp [a, b]), show ((m.natAbs : Nat) : Int) = -m by omega, show ((n.natAbs : Nat) : Int) = n by omega]; simp only [Int.neg_mul, Int.mul_neg, Int.neg_neg]
  ·rw [if_pos (by simp [a, b]), show ((m.natAbs : Nat) : Int) = m by omega, show ((n.natAbs : Nat) : Int) = -n by omega]; simp only [Int.neg_mul, Int.mul_neg, Int.neg_neg]
  ·rw [if_neg (by simp [a, b]), show ((m.natAbs : Nat) : Int) = m by omega, show ((n.natAbs : Nat) : Int) = n by omega]
 have h7 := signed_i (m * n) (m.natAbs * n.natAbs) (decide (m < 0) != decide (n < 0)) hsg zO
 have hlen : ∀ k : Int, (itoa k).length = (decDigits k.natAbs).length + (if k < 0 then 1 else 0) := fun k => by
  by_cases h : k < 0
  ·rw [itoa_neg h, if_pos h]; rfl
  ·rw [itoa_pos h, if_neg h]; rfl
 have e1 := hlen m
 have e2 := hlen n
 have e3 : (itoa m).length ≤ 5001 := by rw [e1]; split <;> omega
 have e4 : (itoa n).length ≤ 5001 := by rw [e2]; split <;> omega
 by_cases hb : b18 m ∧ b18 n
 ·have hbr := brief_t m n hb.1 hb.2
  have hin : (itoa m).length + (itoa n).length ≤ 18 → -1000000000000000000 ≤ m * n ∧ m * n ≤ 1000000000000000000 := fun h => by
   have q1 : LI (itoa m).length m := .of_len (by rw [e1]; omega)
   have q2 : LI (itoa n).length n := .of_len (by rw [e2]; omega)
   have q3 := (q1.mul q2).mono h
   have q4 : (m * n).natAbs < 1000000000000000000 := q3
   omega
  refine ctrA _ Tryz.func147 rfl rfl Tryz.ntmps147 rfl fun w Z => ?_
  refine zU ?_
  refine wk ?_
  (refine cq_cond rfl ?_ ?_ <;> intro hb <;> (try simp only [zA, zB, zG, zC, zD, zN] at hb) <;> (try (exfalso; omega)))
  ·have hin' := hin zO
   have hof := of_c (m * n) zO
   refine wk ?_
   exact zV
  ·refine wk ?_
   exact zV
 ·have hbr := brief_f m n hb
  refine ctrA _ Tryz.func147 rfl rfl Tryz.ntmps147 rfl fun w Z => ?_
  refine zU ?_
  refine wk ?_
  exact zV
theorem vS_eq {l m : List UInt8} (h : l = m) : SLe (.av (vS l)) (.av (vS m)) := SLe.of_eq (by rw [h])
theorem divided_c (u v : Nat) (hv0 : 0 < v) (hu : (decDigits u).length ≤ 10000) (hv : (decDigits v).length ≤ 10000) : CtrA Tryz.prog 243 [vS (decDigits u), vS (decDigits v)] (tupOf [vS (decDigits (u / v)), vS (decDigits (u % v))]) := by
 have pu := dec_len_pos u
 have va := dv_dec u
 have da := dec_dig u
 generalize decDigits u = A at *
 have hvlt := dv_lt _ (dec_dig v)
 rw [dv_dec] at hvlt
 have e0 : decDigits (dv (A.take 0) % v) = [48] := by rw [show dv (A.take 0) = 0 from rfl, Nat.zero_mod, dec_zero]
 refine ctrA _ Tryz.func243 rfl rfl Tryz.ntmps243 rfl fun w Z => ?_
 refine zU ?_
 refine wk ?_
 refine cq_loop (γ := Nat × List UInt8) (fun q => [(0, .av (vS A)), (1, .av (vS (decDigits v))), (6, .av (vS q.2)), (7, .av (vS (decDigits (dv (A.take q.1) % v)))), (8, .av (vi q.1))]) (fun _ => []) (fun q => q.1 ≤ A.length ∧ q.2.length = q.1 ∧ (∀ b ∈ q.2, isD b) ∧ dv q.2 = dv (A.take q.1) / v) (fun q => A.length - q.1) (0, []) ⟨Nat.zero_le _, rfl, by simp, by rw [show dv (A.take 0) = 0 from rfl, Nat.zero_div]; rfl⟩ (ent ⟨.refl _, .refl _, .refl _, vS_eq e0.symm, .refl _, trivial⟩ trivial) ?_
 rintro ⟨i, Q⟩ ⟨h1, h2, h3, h4⟩
 dsimp only at h1 h2 h3 h4 ⊢
 refine wk ?_
 (refine cq_cond rfl ?_ ?_ <;> intro hb <;> (try simp only [zA, zB, zG, zC, zD, zN] at hb) <;> (try (exfalso; omega)))
 ·have hil : i < A.length := by omega
  have hx : A[i]? = some A[i] := List.getElem?_eq_getElem hil
  have dx := da _ (List.mem_of_getElem? hx)
  have hsl : (A.take (i + 1)).drop i = [A[i]] := by
   rw [take_snoc hil, List.drop_append_of_le_length (by simp; omega), List.drop_eq_nil_of_le (by simp; omega)]; rfl
  have hst := dv_take hil
  generalize A[i] = x at *
  have hxd : x.toNat - 48 < 10 := by have := dx.2; omega
  generalize hU : dv (A.take i) = U at *
  have hR : U % v < v := Nat.mod_lt _ hv0
  have hq : U = U / v * v + U % v := by have := Nat.div_add_mod U v; rw [Nat.mul_comm] at this; omega
  obtain ⟨k1, k2, k3⟩ := div_step hR hq hxd
  obtain ⟨N, hN⟩ : ∃ N, N = 10000 := ⟨_, rfl⟩
  have hvN : v < 10 ^ N := Nat.lt_of_lt_of_le hvlt (Nat.pow_le_pow_right zE zO)
  have hlN : (decDigits (U % v)).length ≤ N := dec_len (Nat.lt_trans hR hvN) zO
  have hlR : (decDigits (U % v)).length ≤ 10000 := by omega
  have hb0 := bare_c (decDigits (U % v) ++ [x]) (by simp) (by simp; omega)
  rw [bare_dec _ (by simp) (fun b hb => by
   rcases List.mem_append.1 hb with h | h
   ·exact dec_dig _ b h
   ·rw [List.mem_singleton.1 h]; exact dx), dv_snoc, dv_dec, Nat.mul_comm] at hb0
  rw [← hst] at k2 k3
  generalize hM : 10 * (U % v) + (x.toNat - 48) = M at *
  have hlM' : ∀ j, (decDigits (M - j)).length ≤ N + 1 := fun j => dec_len (by
   have h10 : 10 ^ (N + 1) = 10 ^ N * 10 := Nat.pow_succ ..
   generalize 10 ^ N = p at *
   omega) zO
  have hlM : ∀ j, (decDigits (M - j)).length ≤ 10001 := fun j => by have := hlM' j; omega
  clear hlM' hlN hvN
  clear hN
  refine wk ?_
  refine sq_g (g_smid i (i + 1) rfl rfl rfl rfl zO zO zO) rfl ?_
  refine wk ?_
  rw [hsl]
  refine wk ?_
  refine sq_g (g_sadd rfl rfl (by simp only [List.length_cons, List.length_nil]; omega)) rfl ?_
  refine wk ?_
  refine cq_loop (γ := Nat) (fun j => [(0, .av (vS A)), (1, .av (vS (decDigits v))), (6, .av (vS Q)), (7, .av (vS (decDigits (M - j * v)))), (8, .av (vi i)), (9, .av (v8 (48 + j)))]) (fun _ => []) (fun j => j ≤ M / v) (fun j => M / v - j) 0 (Nat.zero_le _) (ent ⟨.refl _, .refl _, .refl _, vS_eq (by rw [Nat.zero_mul]; rfl), .refl _, .refl _, trivial⟩ trivial) ?_
  intro j hj
  have hjm : j * v ≤ M := (Nat.le_div_iff_mul_le hv0).1 hj
  have hless := less_i (M - j * v) v
  have hlj := hlM (j * v)
  by_cases hlt : M - j * v < v
  ·rw [decide_eq_true hlt] at hless
   have hje : j = M / v := by
    refine Nat.le_antisymm hj ?_
    rcases Nat.lt_or_ge j (M / v) with h | h
    ·have := (Nat.le_div_iff_mul_le hv0).1 (show j + 1 ≤ M / v from h)
     rw [Nat.add_mul] at this; omega
    ·exact h
   have hmod : M - j * v = M % v := by
    have := Nat.div_add_mod M v
    rw [Nat.mul_comm, ← hje] at this; omega
   refine wk ?_
   refine sq_g (g_byte (byt (j : Int)) rfl (byt_toNat zO).symm) rfl ?_
   refine wk ?_
   refine sq_g (g_str_sl (l := [byt (j : Int)]) rfl rfl zE (fun i hi => rfl)) rfl ?_
   refine wk ?_
   refine sq_g (g_sadd rfl rfl (by simp only [List.length_cons, List.length_nil]; omega)) rfl ?_
   refine wk ?_
   exact sq_round (g := (i, Q)) (i + 1, Q ++ [byt (j : Int)]) ⟨by show i + 1 ≤ A.length; omega, by simp [h2], fun b hb => by
    rcases List.mem_append.1 hb with h | h
    ·exact h3 b h
    ·rw [List.mem_singleton.1 h]; exact byt_dig (by omega), by
    show dv (Q ++ [byt (j : Int)]) = dv (A.take (i + 1)) / v
    have := byt_dv (d := (j : Int)) zO
    rw [dv_snoc, h4, k2, ← hje]; omega⟩ (by show A.length - (i + 1) < A.length - i; omega) (ent ⟨.refl _, .refl _, .refl _, vS_eq (by
    show decDigits (M - j * v) = decDigits (dv (A.take (i + 1)) % v)
    rw [hmod, k3]), .int (by dsimp only; omega), trivial⟩ trivial)
  ·rw [decide_eq_false hlt] at hless
   have hp := paper_c (M - j * v) v false zO zO (fun _ => by omega)
   rw [if_neg (by simp)] at hp
   have hjj : j + 1 ≤ M / v := (Nat.le_div_iff_mul_le hv0).2 (by rw [Nat.add_mul]; omega)
   refine wk ?_
   exact sq_round (j + 1) hjj (by omega) (ent ⟨.refl _, .refl _, .refl _, vS_eq (by rw [Nat.add_mul, Nat.one_mul, Nat.sub_sub]), .refl _, SLe.of_eq (by rw [Int.natCast_add, Int.add_assoc]; rfl), trivial⟩ trivial)
 ·obtain rfl : i = A.length := by omega
  rw [List.take_length] at *
  have hne : Q ≠ [] := fun e => by rw [e] at h2; simp at h2; omega
  have hb0 := bare_c Q hne zO
  rw [bare_dec Q hne h3, h4, va] at hb0
  rw [va]
  refine wk ?_
  exact zW
theorem itoa_1 : itoa 1 = [49] := by rw [itoa_pos (by decide)]; rw [show (1 : Int).natAbs = 1 from rfl, decDigits]; rfl
theorem parted_c (m n : Int) (hn0 : n ≠ 0) (hm : LI 2000 m) (hn : LI 2000 n) : CtrA Tryz.prog 192 [vI m, vI n] (tupOf [vI (m.fdiv n), vI (m.fmod n)]) := by
 by_cases hb : b18 m ∧ b18 n
 ·have hbr := brief_t m n hb.1 hb.2
  have q1 := b18_lt hb.1
  have q2 := b18_lt hb.2
  have hlt := fmod_lt (m := m) hn0
  have hfd := fdiv_tdiv (m := m) hn0
  have hfl : ((m - m.fmod n).tdiv n).natAbs ≤ (m - m.fmod n).natAbs := Int.natAbs_tdiv_le_natAbs ..
  have ho1 := of_c (m.fdiv n) (by rw [hfd] at hfl; omega)
  have ho2 := of_c (m.fmod n) zO
  have htm := tmod_fmod (m := m) hn0
  have htl : (m.tmod n).natAbs < n.natAbs := by rw [Int.natAbs_tmod]; exact Nat.mod_lt _ (by omega)
  generalize hr : m.tmod n = r at *
  by_cases hc : r ≠ 0 ∧ ¬ (r < 0 ↔ n < 0)
  ·rw [if_pos hc] at htm
   have e2 : (decide (r < 0) == decide (n < 0)) = false := by
    have := hc.2
    by_cases a : r < 0 <;> by_cases b : n < 0 <;> simp_all
   have e3 : (r != 0) = true := by simp [hc.1]
   rw [← hfd] at ho1 ⊢
   rw [htm] at ho1 ho2 hlt ⊢
   refine ctrA _ Tryz.func192 rfl rfl Tryz.ntmps192 rfl fun w Z => ?_
   refine zU ?_
   refine wk ?_
   refine sq_g (g_remZ rfl rfl hn0) rfl ?_
   refine wk ?_
   rw [hr, e3]
   refine wk ?_
   rw [e2]
   refine wk ?_
   refine sq_g (g_quoZ rfl rfl hn0 zO) rfl ?_
   refine wk ?_
   exact zW
  ·rw [if_neg hc] at htm
   rw [← hfd] at ho1 ⊢
   rw [htm] at ho1 ho2 hlt ⊢
   by_cases h0 : r = 0
   ·have e3 : (r != 0) = false := by simp [h0]
    refine ctrA _ Tryz.func192 rfl rfl Tryz.ntmps192 rfl fun w Z => ?_
    refine zU ?_
    refine wk ?_
    refine sq_g (g_remZ rfl rfl hn0) rfl ?_
    refine wk ?_
    rw [hr, e3]
    refine wk ?_
    refine sq_g (g_quoZ rfl rfl hn0 zO) rfl ?_
    refine wk ?_
    exact zW
   ·have e3 : (r != 0) = true := by simp [h0]
    have hiff : r < 0 ↔ n < 0 := Classical.byContradiction fun h => hc ⟨h0, h⟩
    have e2 : (decide (r < 0) == decide (n < 0)) = true := by simp [hiff]
    refine ctrA _ Tryz.func192 rfl rfl Tryz.ntmps192 rfl fun w Z => ?_
    refine zU ?_
    refine wk ?_
    refine sq_g (g_remZ rfl rfl hn0) rfl ?_
    refine wk ?_
    rw [hr, e3]
    refine wk ?_
    rw [e2]
    refine wk ?_
    refine sq_g (g_quoZ rfl rfl hn0 zO) rfl ?_
    refine wk ?_
    exact zW
 have hbr := brief_f m n hb
 have h1 := size_i m
 have h2 := size_i n
 have h3 := below_i m
 have h4 := below_i n
 have l1 := hm.len zE
 have l2 := hn.len zE
 have hd := divided_c m.natAbs n.natAbs zO zO zO
 have hf := fdiv_of m n hn0
 have hfm := fmod_eq m n
 have hlq : LI 2001 ((m.natAbs / n.natAbs : Nat) : Int) := by
  have := Nat.div_le_self m.natAbs n.natAbs
  exact (hm.mono (by decide)).le (by rw [Int.natAbs_natCast]; exact this)
 have hlf := hm.fdiv hn0
 have lq := hlq.len zE
 rw [Int.natAbs_natCast] at lq
 have hrest := itoa_is0 ((m.natAbs % n.natAbs : Nat) : Int)
 rw [itoa_nat] at hrest
 have hto := times_c (m.fdiv n) n (hlf.mono zE) (hn.mono zE)
 have hmi := minus_c m (m.fdiv n * n) (hm.mono zE) ((hlf.mul hn).mono zE)
 rw [← hfm] at hmi
 generalize m.natAbs / n.natAbs = q at *
 generalize m.natAbs % n.natAbs = s at *
 by_cases hs : decide (m < 0) = decide (n < 0)
 ·rw [if_pos hs] at hf
  have hsi := signed_i (m.fdiv n) q false (by rw [hf]; rfl) (by omega)
  rw [← hs] at h4
  cases hd' : decide (m < 0)
  all_goals
   rw [hd'] at h3 h4
   refine ctrA _ Tryz.func192 rfl rfl Tryz.ntmps192 rfl fun w Z => ?_
   refine zU ?_
   refine wk ?_
   (first | refine sq_split rfl rfl ?_ ?_ | refine dq_split rfl rfl ?_ ?_) <;> intro hb <;> (try simp only [zA, zB, zG, zC, zD, zN] at hb) <;> (try (exfalso; omega))
   ·refine wk ?_
    exact zW
   ·refine wk ?_
    exact zW
 ·rw [if_neg hs] at hf
  have e4 : decide (n < 0) = !decide (m < 0) := by by_cases a : m < 0 <;> by_cases b : n < 0 <;> simp_all
  rw [e4] at h4
  have hsi := signed_i (-(q : Int)) q true rfl zO
  by_cases h0 : s = 0
  ·rw [if_pos h0] at hf
   rw [decide_eq_true (by omega)] at hrest
   rw [← hf] at hsi
   cases hd' : decide (m < 0)
   all_goals
    rw [hd'] at h3 h4
    refine ctrA _ Tryz.func192 rfl rfl Tryz.ntmps192 rfl fun w Z => ?_
    refine zU ?_
    refine wk ?_
    rw [hrest]
    refine wk ?_
    exact zW
  ·rw [if_neg h0] at hf
   rw [decide_eq_false (by omega)] at hrest
   have hm1 := minus_c (-(q : Int)) 1 ((hlq.neg).mono zE) (.small zE zE)
   rw [← hf] at hm1
   rw [vI, vI, itoa_1] at hm1
   cases hd' : decide (m < 0)
   all_goals
    rw [hd'] at h3 h4
    refine ctrA _ Tryz.func192 rfl rfl Tryz.ntmps192 rfl fun w Z => ?_
    refine zU ?_
    refine wk ?_
    rw [hrest]
    refine wk ?_
    exact zW
theorem fmod_nat (u v : Nat) (hv : v ≠ 0) : ((u : Int)).fmod (v : Int) = ((u % v : Nat) : Int) := by
 refine (fdiv_unique (q := ((u / v : Nat) : Int)) ?_ (.inl ⟨by omega, ?_⟩)).2
 ·have := Nat.div_add_mod u v
  rw [Nat.mul_comm] at this
  omega
 ·have := Nat.mod_lt u (show v > 0 by omega)
  omega
theorem signed_0 (u : Nat) (hu : (decDigits u).length ≤ 1000000) : CtrA Tryz.prog 190 [vS (decDigits u), vb false] (vI u) := signed_i u u false rfl hu
theorem gcd_step (u v : Nat) (hv : v ≠ 0) : Nat.gcd v (u % v) = Nat.gcd u v := by
 rw [Nat.gcd_comm u v, Nat.gcd_rec v u, Nat.gcd_comm]
theorem shared_c (m n : Int) (hm : LI 2000 m) (hn : LI 2000 n) : CtrA Tryz.prog 143 [vI m, vI n] (vI ((Int.gcd m n : Nat) : Int)) := by
 have h1 := size_i m
 have h2 := size_i n
 have l1 := hm.len zE
 have l2 := hn.len zE
 have s1 := signed_0 m.natAbs zO
 have s2 := signed_0 n.natAbs zO
 have hg : Int.gcd m n = Nat.gcd m.natAbs n.natAbs := rfl
 rw [hg]
 have hl1 : LI 2000 ((m.natAbs : Nat) : Int) := hm.abs
 have hl2 : LI 2000 ((n.natAbs : Nat) : Int) := hn.abs
 clear hm hn hg
 generalize m.natAbs = M at *
 generalize n.natAbs = N at *
 refine ctrA _ Tryz.func143 rfl rfl Tryz.ntmps143 rfl fun w Z => ?_
 refine zU ?_
 refine wk ?_
 refine cq_loop (γ := Nat × Nat) (fun q => [(0, .av (vI q.1)), (1, .av (vI q.2))]) (fun _ => []) (fun q => Nat.gcd q.1 q.2 = Nat.gcd M N ∧ LI 2000 (q.1 : Int) ∧ LI 2000 (q.2 : Int)) (fun q => q.2) (M, N) ⟨rfl, hl1, hl2⟩ (ent zS trivial) ?_
 rintro ⟨u, v⟩ ⟨g1, g2, g3⟩
 dsimp only at g1 g2 g3 ⊢
 have hz := itoa_is0 (v : Int)
 by_cases hv : v = 0
 ·rw [decide_eq_true (by omega)] at hz
  refine wk ?_
  rw [hz]
  refine wk ?_
  exact sq_res1 rfl (.tmp rfl) (by rw [← g1, hv, Nat.gcd_zero_right])
 ·rw [decide_eq_false (by omega)] at hz
  by_cases hb : b18 (u : Int) ∧ b18 (v : Int)
  ·have hbr := brief_t u v hb.1 hb.2
   have q1 := b18_lt hb.1
   have q2 := b18_lt hb.2
   refine wk ?_
   rw [hz]
   refine wk ?_
   refine cq_loop (γ := Nat × Nat) (fun q => [(5, .av (vi q.1)), (6, .av (vi q.2))]) (fun _ => []) (fun q => Nat.gcd q.1 q.2 = Nat.gcd M N ∧ q.1 < 1000000000000000000 ∧ q.2 < 1000000000000000000) (fun q => q.2) (u, v) ⟨g1, by dsimp only; omega, by dsimp only; omega⟩ (ent zS trivial) ?_
   rintro ⟨x, y⟩ ⟨k1, k2, k3⟩
   dsimp only at k1 k2 k3 ⊢
   refine wk ?_
   (refine cq_cond rfl ?_ ?_ <;> intro hb <;> (try simp only [zA, zB, zG, zC, zD, zN] at hb) <;> (try (exfalso; omega)))
   ·refine wk ?_
    exact sq_round (g := (x, y)) (y, x % y) ⟨by show Nat.gcd y (x % y) = _; rw [gcd_step x y (by omega), k1], k3, by show x % y < _; have := Nat.mod_lt x (show y > 0 by omega); omega⟩ (by show x % y < y; exact Nat.mod_lt _ (by omega)) (ent ⟨.refl _, .int (by dsimp only; omega), trivial⟩ trivial)
   ·obtain rfl : y = 0 := by omega
    rw [Nat.gcd_zero_right] at k1
    have hof := of_pos x zO
    refine wk ?_
    exact sq_res1 rfl (.tmp rfl) (by rw [k1])
  ·have hbr := brief_f u v hb
   have hp := parted_c u v zO g2 g3
   rw [fmod_nat u v hv] at hp
   refine wk ?_
   rw [hz]
   refine wk ?_
   exact sq_round (g := (u, v)) (v, u % v) ⟨by show Nat.gcd v (u % v) = _; rw [gcd_step u v hv, g1], g3, g3.le (by have := Nat.mod_lt u (show v > 0 by omega); dsimp only; omega)⟩ (by show u % v < v; exact Nat.mod_lt _ (by omega)) (ent zS trivial)
theorem szL_len (l : List UInt8) : (szL l).length ≤ l.length := by
 cases l with
 |nil => exact Nat.le_refl _
 |cons b r =>
  by_cases hb : b = 45
  ·rw [szL, if_pos hb]; simp
  ·rw [szL, if_neg hb]; exact Nat.le_refl _
abbrev vR (q : Rat) : AV := vS (rtx q)
def spZ (l : List UInt8) : Int := match spI l with | some i => i | none => -1
theorem spI_ne {l : List UInt8} {i : Nat} (h : ∀ k, k < i → ∀ x, l[k]? = some x → x ≠ 47) (hi : l[i]? = some 47) : spI l = some i := by
 obtain ⟨hl, e⟩ := List.getElem?_eq_some_iff.1 hi
 unfold spI
 rw [List.findIdx?_eq_some_iff_getElem]
 exact ⟨hl, by rw [e]; rfl, fun j hj => by simpa using h j hj _ (List.getElem?_eq_getElem (by omega))⟩
theorem spI_no {l : List UInt8} (h : ∀ k, k < l.length → ∀ x, l[k]? = some x → x ≠ 47) : spI l = none := spI_none fun hm => by
 obtain ⟨k, hk, e⟩ := List.getElem_of_mem hm
 exact h k hk _ (List.getElem?_eq_getElem hk) e
theorem slash_c (l : List UInt8) (hl : l.length ≤ 1000000) : CtrA Tryz.prog 142 [vS l] (vi (spZ l)) := by
 refine ctrA _ Tryz.func142 rfl rfl Tryz.ntmps142 rfl fun w Z => ?_
 refine zU ?_
 refine wk ?_
 refine cq_loop (γ := Nat) (fun i => [(0, .av (vS l)), (3, .av (vi i))]) (fun _ => []) (fun i => i ≤ l.length ∧ ∀ k, k < i → ∀ x, l[k]? = some x → x ≠ 47) (fun i => l.length - i) 0 ⟨Nat.zero_le _, fun k hk => absurd hk zO⟩ (ent zS trivial) ?_
 rintro i ⟨hi, hall⟩
 refine wk ?_
 (refine cq_cond rfl ?_ ?_ <;> intro hb <;> (try simp only [zA, zB, zG, zC, zD, zN] at hb) <;> (try (exfalso; omega)))
 ·have hx : l[i]? = some l[i] := List.getElem?_eq_getElem zO
  generalize l[i] = x at *
  refine wk ?_
  refine sq_g (g_sidx rfl rfl rfl hx) rfl ?_
  refine wk ?_
  (refine cq_cond rfl ?_ ?_ <;> intro hb <;> (try simp only [zA, zB, zG, zC, zD, zN] at hb) <;> (try (exfalso; omega)))
  ·have hb' := (u8eq x 47).1 hb
   subst hb'
   refine wk ?_
   exact sq_res1 rfl (.tmp rfl) (congrArg vi (by unfold spZ; rw [spI_ne hall hx]))
  ·refine wk ?_
   exact sq_round (i + 1) ⟨by omega, fun k hk y hy => by
    rcases (by omega : k < i ∨ k = i) with h | h
    ·exact hall k h y hy
    ·rw [h, hx] at hy
     cases hy
     exact fun e => hb ((u8eq x 47).2 e)⟩ zO (ent zS trivial)
 ·obtain rfl : i = l.length := by omega
  refine wk ?_
  exact sq_res1 rfl (.tmp rfl) (congrArg vi (by unfold spZ; rw [spI_no hall]))
theorem split_c (l : List UInt8) (hl : l.length ≤ 1000000) : CtrA Tryz.prog 140 [vS l] (tupOf [vS (spN l), vS (spD l)]) := by
 have h1 := slash_c l hl
 unfold spZ at h1
 unfold spN spD
 cases h : spI l with
 |none =>
  rw [h] at h1
  refine ctrA _ Tryz.func140 rfl rfl Tryz.ntmps140 rfl fun w Z => ?_
  refine zU ?_
  refine wk ?_
  exact zW
 |some i =>
  rw [h] at h1
  dsimp only at h1
  have hi := (spI_at h).2.2
  refine ctrA _ Tryz.func140 rfl rfl Tryz.ntmps140 rfl fun w Z => ?_
  refine zU ?_
  refine wk ?_
  refine dq_g (g_sto i rfl rfl rfl zO) rfl ?_
  refine wk ?_
  refine dq_g (g_sfrom (i + 1) rfl rfl rfl zO) rfl ?_
  refine wk ?_
  exact zW
theorem split_r (q : Rat) (hl : (rtx q).length ≤ 1000000) : CtrA Tryz.prog 140 [vR q] (tupOf [vI q.num, vI (q.den : Int)]) := by
 have := split_c (rtx q) hl
 rwa [spN_rtx, spD_rtx] at this
theorem lowest_c (n d : Int) (hd : d ≠ 0) (hn : LI 1900 n) (hdd : LI 1900 d) : CtrA Tryz.prog 144 [vI n, vI d] (vR (Rat.divInt n d)) := by
 have h1 := shared_c n d (hn.mono zE) (hdd.mono zE)
 have h2 := below_i d
 have hg0 : Int.gcd n d ≠ 0 := fun h => hd (Int.gcd_eq_zero_iff.1 h).2
 have hgd : Int.gcd n d ≤ d.natAbs := Nat.le_of_dvd zO (Int.gcd_dvd_natAbs_right ..)
 have hlg : LI 1900 ((Int.gcd n d : Nat) : Int) := hdd.le (by rw [Int.natAbs_natCast]; exact hgd)
 have h3 := turned_c ((Int.gcd n d : Nat) : Int) (by have := hlg.len zE; omega)
 generalize hG : (if d < 0 then -((Int.gcd n d : Nat) : Int) else ((Int.gcd n d : Nat) : Int)) = G
 have hr := rtx_div (n := n) (d := d) hd hG.symm
 have hGd : G ∣ d ∧ G ∣ n := by
  rw [← hG]
  split
  ·exact ⟨Int.neg_dvd.2 (Int.gcd_dvd_right ..), Int.neg_dvd.2 (Int.gcd_dvd_left ..)⟩
  ·exact ⟨Int.gcd_dvd_right .., Int.gcd_dvd_left ..⟩
 have hG0 : G ≠ 0 := by rw [← hG]; split <;> omega
 have hlG : LI 1900 G := hlg.le (by rw [← hG]; split <;> simp)
 have h4 := parted_c n G hG0 (hn.mono zE) (hlG.mono zE)
 have h5 := parted_c d G hG0 (hdd.mono zE) (hlG.mono zE)
 have f1 := hn.fdiv hG0
 have f2 := hdd.fdiv hG0
 rw [fdiv_dvd hGd.2] at h4 f1
 rw [fdiv_dvd hGd.1] at h5 f2
 have l1 : (itoa (n / G)).length ≤ 2000 := by
  have := f1.len zE
  by_cases h : n / G < 0
  ·rw [itoa_neg h]; simp; omega
  ·rw [itoa_pos h]; omega
 have hz : (itoa (d / G) == [49]) = decide (d / G = 1) := by
  by_cases h : d / G = 1
  ·rw [h, itoa_1]; rfl
  ·rw [decide_eq_false h, beq_eq_false_iff_ne, ← itoa_1]
   exact fun e => h (itoa_inj e)
 have l2 : (itoa (d / G)).length ≤ 2000 := by
  have := f2.len zE
  by_cases h : d / G < 0
  ·rw [itoa_neg h]; simp; omega
  ·rw [itoa_pos h]; omega
 rw [vR, hr]
 by_cases h0 : d / G = 1
 all_goals
  first
   |rw [decide_eq_true h0] at hz; rw [if_pos h0]
   |rw [decide_eq_false h0] at hz; rw [if_neg h0]
  by_cases hneg : d < 0
  all_goals
   first
    |rw [decide_eq_true hneg] at h2; rw [if_pos hneg] at hG
    |rw [decide_eq_false hneg] at h2; rw [if_neg hneg] at hG
   subst hG
   refine ctrA _ Tryz.func144 rfl rfl Tryz.ntmps144 rfl fun w Z => ?_
   refine zU ?_
   refine wk ?_
   rw [hz]
   refine wk ?_
   first
    |exact zV
    |refine sq_g (g_sadd rfl rfl (by simp only [List.length_cons, List.length_nil]; omega)) rfl ?_
     refine wk ?_
     refine sq_g (g_sadd rfl rfl (by simp only [List.length_append, List.length_cons, List.length_nil]; omega)) rfl ?_
     refine wk ?_
     exact sq_res1 rfl (.tmp rfl) (congrArg vS (by simp))
theorem rtx_len {k : Nat} {q : Rat} (h : LR k q) (hk : 0 < k) : (rtx q).length ≤ 2 * k + 2 := by
 have h1 := h.1.len hk
 have h2 := h.2.len hk
 rw [Int.natAbs_natCast] at h2
 have h3 : (itoa q.num).length ≤ k + 1 := by
  by_cases hn : q.num < 0
  ·rw [itoa_neg hn]; simp; omega
  ·rw [itoa_pos hn]; omega
 unfold rtx
 split
 ·omega
 ·simp; omega
theorem tq130_5 (a b c d e : ByteArray) (w : World) : (Instr.buildSlice 130 5 #[(0, .string a), (1, .string b), (2, .string c), (3, .string d), (4, .string e)]).run Tryz.prog w = .ok (.slice (some ⟨w.heap.size, 0, none⟩) 5 5) (w.alloc (.cells #[.string a, .string b, .string c, .string d, .string e] 128)) := by kernel_rfl
def five (a b c d e : Int) : AV := .sl 5 1 (fun i _ => vS (match i with | 0 => itoa a | 1 => itoa b | 2 => itoa c | 3 => itoa d | _ => itoa e))
theorem crossed_c (q r : Rat) (hq : LR 900 q) (hr : LR 900 r) : CtrA Tryz.prog 85 [vR q, vR r] (five (q.num * r.den) (r.num * q.den) (q.den * r.den) (q.num * r.num) (q.den * r.num)) := by
 have h1 := split_r q (by have := rtx_len hq zE; omega)
 have h2 := split_r r (by have := rtx_len hr zE; omega)
 have m1 : LI 5000 q.num := hq.1.mono zE
 have m2 : LI 5000 (q.den : Int) := hq.2.mono zE
 have m3 : LI 5000 r.num := hr.1.mono zE
 have m4 : LI 5000 (r.den : Int) := hr.2.mono zE
 have t1 := times_c _ _ m1 m4
 have t2 := times_c _ _ m3 m2
 have t3 := times_c _ _ m2 m4
 have t4 := times_c _ _ m1 m3
 have t5 := times_c _ _ m2 m3
 refine ctrA _ Tryz.func85 rfl rfl Tryz.ntmps85 rfl fun w Z => ?_
 refine zU ?_
 refine wk ?_
 refine sq_g (g_bslice (is := [0, 1, 2, 3, 4]) (xs := [_, _, _, _, _]) (vs := [_, _, _, _, _]) (us := [_, _, _, _, _]) (row := fun i _ => vS (match i with | 0 => itoa (q.num * r.den) | 1 => itoa (r.num * q.den) | 2 => itoa (q.den * r.den) | 3 => itoa (q.num * r.num) | _ => itoa (q.den * r.num))) (tq130_5 _ _ _ _ _) rfl rfl rfl (fun i hi j hj => by
  obtain rfl : j = 0 := zO
  rcases (by omega : i = 0 ∨ i = 1 ∨ i = 2 ∨ i = 3 ∨ i = 4) with rfl | rfl | rfl | rfl | rfl <;> exact ⟨_, rfl, rfl⟩)) rfl ?_
 refine wk ?_
 exact zV
theorem refminus_c (q r : Rat) (hq : LR 900 q) (hr : LR 900 r) : CtrA Tryz.prog 83 [vR q, vR r] (vR (q - r)) := by
 have h1 := crossed_c q r hq hr
 have d1 := q.den_nz
 have d2 := r.den_nz
 have h2 := minus_c (q.num * r.den) (r.num * q.den) ((hq.1.mul hr.2).mono zE) ((hr.1.mul hq.2).mono zE)
 have h3 := lowest_c (q.num * r.den - r.num * q.den) (q.den * r.den) (Int.mul_ne_zero zO zO) (((hq.1.mul hr.2).sub (hr.1.mul hq.2)).mono zE) ((hq.2.mul hr.2).mono zE)
 rw [← sub_eq] at h3
 unfold five at h1
 refine ctrA _ Tryz.func83 rfl rfl Tryz.ntmps83 rfl fun w Z => ?_
 refine zU ?_
 refine wk ?_
 exact zV
theorem refplus_c (q r : Rat) (hq : LR 900 q) (hr : LR 900 r) : CtrA Tryz.prog 116 [vR q, vR r] (vR (q + r)) := by
 have h1 := crossed_c q r hq hr
 have d1 := q.den_nz
 have d2 := r.den_nz
 have h2 := plus_c (q.num * r.den) (r.num * q.den) ((hq.1.mul hr.2).mono zE) ((hr.1.mul hq.2).mono zE)
 have h3 := lowest_c (q.num * r.den + r.num * q.den) (q.den * r.den) (Int.mul_ne_zero zO zO) (((hq.1.mul hr.2).add (hr.1.mul hq.2)).mono zE) ((hq.2.mul hr.2).mono zE)
 rw [← add_eq] at h3
 unfold five at h1
 refine ctrA _ Tryz.func116 rfl rfl Tryz.ntmps116 rfl fun w Z => ?_
 refine zU ?_
 refine wk ?_
 exact zV
theorem reftimes_c (q r : Rat) (hq : LR 900 q) (hr : LR 900 r) : CtrA Tryz.prog 117 [vR q, vR r] (vR (q * r)) := by
 have h1 := crossed_c q r hq hr
 have d1 := q.den_nz
 have d2 := r.den_nz
 have h3 := lowest_c (q.num * r.num) (q.den * r.den) (Int.mul_ne_zero zO zO) ((hq.1.mul hr.1).mono zE) ((hq.2.mul hr.2).mono zE)
 rw [← mul_eq] at h3
 unfold five at h1
 refine ctrA _ Tryz.func117 rfl rfl Tryz.ntmps117 rfl fun w Z => ?_
 refine zU ?_
 refine wk ?_
 exact zV
theorem refby_c (q r : Rat) (hq : LR 900 q) (hr : LR 900 r) (h0 : r ≠ 0) : CtrA Tryz.prog 258 [vR q, vR r] (vR (q / r)) := by
 have h1 := crossed_c q r hq hr
 have d1 := q.den_nz
 have h3 := lowest_c (q.num * r.den) (q.den * r.num) (Int.mul_ne_zero zO (num0 h0)) ((hq.1.mul hr.2).mono zE) ((hq.2.mul hr.1).mono zE)
 rw [← div_eq] at h3
 unfold five at h1
 refine ctrA _ Tryz.func258 rfl rfl Tryz.ntmps258 rfl fun w Z => ?_
 refine zU ?_
 refine wk ?_
 exact zV
theorem refless_c (q r : Rat) (hq : LR 900 q) (hr : LR 900 r) : CtrA Tryz.prog 36 [vR q, vR r] (vR (q - r)) := by
 have h1 := refminus_c q r hq hr
 refine ctrA _ Tryz.func36 rfl rfl Tryz.ntmps36 rfl fun w Z => ?_
 refine zU ?_
 refine wk ?_
 exact zV
theorem rtx_0 : rtx 0 = [48] := by
 have := rtx_int 0
 rw [show ((0 : Int) : Rat) = 0 from rfl] at this
 rw [this, itoa_pos (by decide)]; exact dec_zero
theorem reforder_c (q r : Rat) (hq : LR 900 q) (hr : LR 900 r) : CtrA Tryz.prog 38 [vR q, vR r] (vi (rsg (q - r))) := by
 have h1 := crossed_c q r hq hr
 have h2 := order_c (q.num * r.den) (r.num * q.den) ((hq.1.mul hr.2).mono zE) ((hr.1.mul hq.2).mono zE)
 rw [sgn_sub] at h2
 unfold five at h1
 refine ctrA _ Tryz.func38 rfl rfl Tryz.ntmps38 rfl fun w Z => ?_
 refine zU ?_
 refine wk ?_
 exact zV
theorem refwhole_c (n : Int) (hn : -9223372036854775807 ≤ n ∧ n ≤ 9223372036854775807) : CtrA Tryz.prog 37 [vi n] (vR (n : Rat)) := by
 have h1 := of_c n hn
 rw [vR, rtx_int]
 refine ctrA _ Tryz.func37 rfl rfl Tryz.ntmps37 rfl fun w Z => ?_
 refine zU ?_
 refine wk ?_
 exact zV
theorem itoa_is1 (m : Int) : (itoa m == [49]) = decide (m = 1) := by
 by_cases h : m = 1
 ·rw [h, itoa_1]; rfl
 ·rw [decide_eq_false h, beq_eq_false_iff_ne, ← itoa_1]
  exact fun e => h (itoa_inj e)
theorem spN_len (l : List UInt8) : (spN l).length ≤ l.length := by
 unfold spN; split
 ·simp; omega
 ·exact Nat.le_refl _
theorem spD_len (l : List UInt8) : (spD l).length ≤ l.length + 1 := by
 unfold spD; split
 ·simp; omega
 ·simp
theorem LI_itoa {m : Int} {k : Nat} (h : (itoa m).length ≤ k) : LI k m := .of_len (by
 by_cases hm : m < 0
 ·rw [itoa_neg hm] at h; simp at h; omega
 ·rw [itoa_pos hm] at h; exact h)
theorem enters_of' {P : Program} {f : FuncId} {fn : Func} {c : Code} (hf : P.funcs[f]? = some fn) (hb : fn.body = some c) (hname : (fn.name == "runtime.NumGoroutine") = false) : Enters P f := entersM hf hb hname
theorem ctrA_b {P : Program} {f : FuncId} {us : List Value} {v : Value} {res : AV} (he : Enters P f) (h : ∀ Z w, ZOk Z w → Calls P f us.toArray w fun e w' => e = .returned v ∧ Below w.heap.size w w') (hv : ∀ Z w, res.ok Z w v) : CtrA P f (us.map AV.val) res := by
 refine ⟨he, fun w Z vs hZ hvs => ?_⟩
 have : vs = us := by
  clear h he
  induction us generalizing vs with
  |nil => cases vs with
   |nil => rfl
   |cons _ _ => exact hvs.elim
  |cons u us ih => cases vs with
   |nil => exact hvs.elim
   |cons v vs => obtain ⟨h1, h2⟩ := hvs; rw [ih vs h2]; rw [show v = u from h1]
 subst this
 refine (h Z w hZ).mono ?_
 rintro e w' ⟨rfl, hb⟩
 exact ⟨v, Z, rfl, hb, fun _ h => h, fun _ h => .inl h, fun k hk => Nat.lt_of_lt_of_le (hZ.1 k hk) hb.size, hv Z _⟩
theorem tup2_ok {u v : Value} (Z : Zone) (w : World) : (tupOf [.val u, .val v]).ok Z w (.tuple #[u, v]) := by
 refine ⟨[u, v], rfl, rfl, fun i hi => ?_⟩
 have hi' : i < 2 := hi
 rcases (by omega : i = 0 ∨ i = 1) with rfl | rfl <;> exact ⟨_, rfl, rfl⟩
theorem tup3_ok {u v x : Value} (Z : Zone) (w : World) : (tupOf [.val u, .val v, .val x]).ok Z w (.tuple #[u, v, x]) := by
 refine ⟨[u, v, x], rfl, rfl, fun i hi => ?_⟩
 have hi' : i < 3 := hi
 rcases (by omega : i = 0 ∨ i = 1 ∨ i = 2) with rfl | rfl | rfl <;> exact ⟨_, rfl, rfl⟩
theorem Below.drewN' {B : Nat} {w : World} (n : Nat) : Below B w (w.drewN n) := ⟨rfl, rfl, rfl, Nat.le_refl _, fun _ _ => rfl⟩
theorem Below.grow' {w : World} (os : Array Obj) : Below w.heap.size w (Go.Sort.grow w os) := by
 refine ⟨rfl, rfl, rfl, by simp [Go.Sort.grow], fun k hk => ?_⟩
 simp [Go.Sort.grow, Array.getElem?_append_left hk]
theorem szL_trim (l : List UInt8) : Lib.trimPrefix l [45] = Na.szL l := by
 cases l with
 |nil => rfl
 |cons b r =>
  by_cases hb : b = 45
  ·subst hb
   rw [Na.szL, if_pos rfl]
   unfold Lib.trimPrefix Lib.hasPrefix
   simp [List.isPrefixOf]
  ·rw [Na.szL, if_neg hb]
   unfold Lib.trimPrefix Lib.hasPrefix
   rw [if_neg]
   simp [List.isPrefixOf, Ne.symm hb]
theorem trimp_c (l : List UInt8) : CtrA Tryz.prog 225 [vS l, vS [45]] (vS (Na.szL l)) := by
 refine ctrA_b (us := [.string (bs l), .string (bs [45])]) (enters_of' Tryz.func225 rfl rfl) (fun Z w _ => (Tryz.strings_TrimPrefix (bs l) (bs [45]) w).mono ?_) (fun Z w => rfl)
 rintro e w' ⟨rfl, rfl⟩
 exact ⟨by rw [← szL_trim], Below.refl _ _⟩
theorem hasp_c (l : List UInt8) : CtrA Tryz.prog 234 [vS l, vS [45]] (vb (decide (l.head? = some 45))) := by
 refine ctrA_b (us := [.string (bs l), .string (bs [45])]) (enters_of' Tryz.func234 rfl rfl) (fun Z w _ => (Tryz.strings_HasPrefix (bs l) (bs [45]) w).mono ?_) (fun Z w => rfl)
 rintro e w' ⟨rfl, rfl⟩
 refine ⟨?_, Below.refl _ _⟩
 congr 2
 show Lib.hasPrefix l [45] = _
 cases l with
 |nil => rfl
 |cons b r =>
  unfold Lib.hasPrefix
  by_cases h : b = 45
  ·subst h; simp [List.isPrefixOf]
  ·have h' : (45 : UInt8) ≠ b := fun e => h e.symm
   simp [List.isPrefixOf, h, h']
theorem compare_c (a b : List UInt8) : CtrA Tryz.prog 270 [vS a, vS b] (vi (Lib.compareBytes a b)) := by
 refine ctrA_b (us := [.string (bs a), .string (bs b)]) (enters_of' Tryz.func270 rfl rfl) (fun Z w _ => (Tryz.strings_Compare (bs a) (bs b) w).mono ?_) (fun Z w => rfl)
 rintro e w' ⟨rfl, rfl⟩
 exact ⟨rfl, Below.refl _ _⟩
theorem glb_tab {Z : Zone} {w : World} (h : ZOk Z w) : Lib.TabIs Tryz.prog w "internal/strconv.uint64pow10" .u64 Lib.pow10Tab := by
 obtain ⟨b, t, fr, h1, _, _, h4⟩ := h.2 (2, .ob (gTab (Lib.pow10Tab.map (Value.int .u64)).toArray) (gTab_st _)) (by simp [glb])
 simp only [Value.pointer.injEq, Option.some.injEq, Addr.mk.injEq, and_true] at h1
 subst h1
 have hg : Tryz.prog.globalNamed "internal/strconv.uint64pow10" = some 2 := by kernel_rfl
 unfold Lib.TabIs World.var?
 rw [hg]
 simp only [Option.bind_some, h4]
theorem itoa_c (n : Int) (h : -9223372036854775808 ≤ n ∧ n ≤ 9223372036854775807) : CtrA Tryz.prog 184 [vi n] (vI n) := by
 refine ctrA_b (us := [.int .i64 n]) (enters_of' Tryz.func184 rfl rfl) (fun Z w hZ => (Tryz.strconv_Itoa n h.1 h.2 w (glb_tab hZ)).mono ?_) (fun Z w => rfl)
 rintro e w' ⟨rfl, k, os, rfl⟩
 exact ⟨rfl, (Below.drewN' k).trans (Below.grow' (w := w.drewN k) os)⟩
theorem decFrom_dv : ∀ (l : List UInt8) (a : Nat), (∀ b ∈ l, isD b) → Lib.decFrom a l = some (dvA a l)
 |[], _, _ => rfl
 |b :: l, a, h => by
  have hb := h b (by simp)
  have : Lib.digitVal b = some (b.toNat - 48) := if_pos hb
  simp only [Lib.decFrom, this]
  rw [decFrom_dv l _ fun c hc => h c (by simp [hc])]
  rfl
theorem atoi_dig {l : List UInt8} (hne : l ≠ []) (h : ∀ b ∈ l, isD b) : Lib.atoi l = some ((dv l : Nat) : Int) := by
 cases l with
 |nil => exact absurd rfl hne
 |cons b r =>
  have hb := h b (by simp)
  have h1 : (b == 45) = false := by simp; exact dig45 hb
  have h2 : (b == 43) = false := by simp; rintro rfl; exact absurd hb (by decide)
  have h3 : Lib.decNat (b :: r) = some (dv (b :: r)) := by
   unfold Lib.decNat
   rw [if_neg (by simp)]
   exact decFrom_dv _ 0 h
  simp [Lib.atoi, h1, h2, h3]
theorem atoi_itoa (m : Int) : Lib.atoi (itoa m) = some m := by
 by_cases h : m < 0
 ·rw [itoa_neg h]
  have h3 : Lib.decNat (decDigits m.natAbs) = some m.natAbs := by
   unfold Lib.decNat
   rw [if_neg (by simp [dec_ne]), decFrom_dv _ 0 (dec_dig _)]
   exact congrArg some (dv_dec _)
  simp [Lib.atoi, h3]; omega
 ·rw [itoa_pos h, atoi_dig (dec_ne _) (dec_dig _), dv_dec]
  congr 1; omega
abbrev nilE : AV := .val .nilIface
theorem atoi_c (l : List UInt8) (n : Int) (hl : l.length ≤ 18) (h : Lib.atoi l = some n) : CtrA Tryz.prog 271 [vS l] (tupOf [vi n, nilE]) := by
 refine ctrA_b (us := [.string (bs l)]) (enters_of' Tryz.func271 rfl rfl) (fun Z w _ => (Tryz.strconv_Atoi (bs l) n hl h w).mono ?_) (fun Z w => tup2_ok Z w)
 rintro e w' ⟨rfl, t, rfl⟩
 exact ⟨rfl, rfl, rfl, rfl, by rw [Lib.bytesWorld_size]; omega, fun k hk => Lib.bytesWorld_at_old w 5 t k hk⟩
abbrev ten : List UInt8 := [48, 49, 50, 51, 52, 53, 54, 55, 56, 57]
theorem ten_iff (b : UInt8) : ten.contains b = true ↔ isD b := by
 constructor
 ·intro h
  simp [ten] at h
  rcases h with rfl | rfl | rfl | rfl | rfl | rfl | rfl | rfl | rfl | rfl <;> decide
 ·intro h
  rw [← ofd h]
  have := h.1; have := h.2
  rcases (by omega : b.toNat - 48 = 0 ∨ b.toNat - 48 = 1 ∨ b.toNat - 48 = 2 ∨ b.toNat - 48 = 3 ∨ b.toNat - 48 = 4 ∨ b.toNat - 48 = 5 ∨ b.toNat - 48 = 6 ∨ b.toNat - 48 = 7 ∨ b.toNat - 48 = 8 ∨ b.toNat - 48 = 9) with e | e | e | e | e | e | e | e | e | e <;> rw [e] <;> decide
theorem dropW_nil {l : List UInt8} : l.dropWhile (ten.contains ·) = [] ↔ ∀ b ∈ l, isD b := by
 induction l with
 |nil => simp
 |cons b l ih =>
  rw [List.dropWhile_cons]
  by_cases h : ten.contains b = true
  ·rw [if_pos h, ih]
   simp [(ten_iff b).1 h]
  ·rw [if_neg h]
   constructor
   ·intro e; cases e
   ·intro e; exact absurd ((ten_iff b).2 (e b (by simp))) h
theorem trimS_nil {l : List UInt8} : Lib.trimS l ten = [] ↔ ∀ b ∈ l, isD b := by
 unfold Lib.trimS Lib.trimLeftS Lib.trimRightS
 rw [dropW_nil]
 constructor
 ·intro h
  have h1 : ∀ b ∈ l.reverse.dropWhile (ten.contains ·), isD b := fun b hb => h b (List.mem_reverse.2 hb)
  intro b hb
  have hs := List.takeWhile_append_dropWhile (p := (ten.contains ·)) (l := l.reverse)
  have hb' : b ∈ l.reverse := by simp [hb]
  rw [← hs] at hb'
  rcases List.mem_append.1 hb' with h2 | h2
  ·exact (ten_iff b).1 (List.all_eq_true.1 (List.all_takeWhile) b h2)
  ·exact h1 b h2
 ·intro h b hb
  have : b ∈ l.reverse.dropWhile (ten.contains ·) := List.mem_reverse.1 hb
  exact h b (by simpa using (List.dropWhile_sublist _).subset this)
theorem trim_c (l : List UInt8) (hl : l.length ≤ 1000000) : CtrA Tryz.prog 226 [vS l, vS ten] (vS (Lib.trimS l ten)) := by
 refine ctrA_b (us := [.string (bs l), .string (bs ten)]) (enters_of' Tryz.func226 rfl rfl) (fun Z w _ => (Any.strings_Trim_laid Tryz.lays160 (by kernel_rfl) (bs l) (bs ten) w (by show l.length ≤ _; omega) zE (ascii_of_all zE)).mono ?_) (fun Z w => rfl)
 rintro e w' ⟨rfl, hb⟩
 exact ⟨rfl, hb⟩
theorem cut_c (l : List UInt8) (hl : l.length ≤ 1000000) : CtrA Tryz.prog 224 [vS l, vS [47]] (tupOf [vS (Lib.cut l [47]).1, vS (Lib.cut l [47]).2.1, vb (Lib.cut l [47]).2.2]) := by
 refine ctrA_b (us := [.string (bs l), .string (bs [47])]) (enters_of' Tryz.func224 rfl rfl) (fun Z w hZ => ?_) (fun Z w => tup3_ok Z w)
 obtain ⟨b, m, h1, _, _, h4⟩ := hZ.2 (1, .ob gInt gInt_st) (by simp [glb])
 simp only [Value.pointer.injEq, Option.some.injEq, Addr.mk.injEq, and_true] at h1
 subst h1
 refine (Tryz.strings_Cut (bs l) (bs [47]) m w (by show l.length < _; omega) h4).mono ?_
 rintro e w' ⟨rfl, n, rfl⟩
 exact ⟨rfl, Below.drewN' n⟩
end Go.Proofs.YtgepmbjmaljgoaaGreatDoor
section
namespace Go.Proofs.YtgepmbjmaljgoaaGreatDoor
open Go Go.Vc Go.RowKit Go.Na Go.Lib
set_option maxHeartbeats 4000000
theorem wcheck_c (l : List UInt8) (hl : l.length ≤ 1000000) : CtrA Tryz.prog 173 [vS l] (vi (chk l)) := by
 have h1 := trimp_c l
 have hsl := szL_len l
 cases hs : Na.szL l with
 |nil =>
  rw [hs] at h1
  refine ctrA _ Tryz.func173 rfl rfl Tryz.ntmps173 rfl fun w Z => ?_
  refine zU ?_
  refine wk ?_
  exact sq_res1 rfl (.tmp rfl) (congrArg vi (chk_bad fun h => h.ne hs).symm)
 |cons b r =>
  rw [hs] at h1 hsl
  have h2 := trim_c (b :: r) zO
  by_cases ht : Lib.trimS (b :: r) ten = []
  ·rw [ht] at h2
   have hd := trimS_nil.1 ht
   by_cases hb : b = 48
   ·by_cases hl1 : l = [48]
    ·have hn : IsNum l := ⟨by rw [hs]; simp, fun _ => hl1, fun y hy => hd y (by rw [← hs]; exact hy)⟩
     have e0 : (l == [48]) = true := by rw [hl1]; rfl
     have hr : r = [] := by
      rw [hl1] at hs
      have : Na.szL [48] = [48] := rfl
      rw [this] at hs
      injection hs with _ hs
      exact hs.symm
     subst hb hr
     have hc : chk l = 0 := by unfold chk; rw [if_pos hn, hs]; rfl
     rw [hc]
     refine ctrA _ Tryz.func173 rfl rfl Tryz.ntmps173 rfl fun w Z => ?_
     refine zU ?_
     refine wk ?_
     rw [e0]
     refine wk ?_
     exact zV
    ·have e0 : (l == [48]) = false := by rw [beq_eq_false_iff_ne]; exact hl1
     subst hb
     have hc : chk l = 3 := chk_bad fun h => hl1 (h.hd (by rw [hs]; rfl))
     rw [hc]
     refine ctrA _ Tryz.func173 rfl rfl Tryz.ntmps173 rfl fun w Z => ?_
     refine zU ?_
     refine wk ?_
     rw [e0]
     refine wk ?_
     exact zV
   ·have hn : IsNum l := ⟨by rw [hs]; simp, fun h => by rw [hs] at h; simp at h; exact absurd h hb, fun y hy => hd y (by rw [← hs]; exact hy)⟩
    have e1 : ((b.toNat : Int) == 48) = false := by
     rw [beq_eq_false_iff_ne]; exact fun e => hb ((u8eq b 48).1 e)
    refine ctrA _ Tryz.func173 rfl rfl Tryz.ntmps173 rfl fun w Z => ?_
    refine zU ?_
    refine wk ?_
    rw [e1]
    refine wk ?_
    (refine cq_cond rfl ?_ ?_ <;> intro hb <;> (try simp only [zA, zB, zG, zC, zD, zN] at hb) <;> (try (exfalso; omega)))
    all_goals
     refine wk ?_
     first
      |exact sq_res1 rfl (.tmp rfl) (congrArg vi (by unfold chk; rw [if_pos hn, if_pos (by rw [hs]; omega)]))
      |exact sq_res1 rfl (.tmp rfl) (congrArg vi (by unfold chk; rw [if_pos hn, if_neg (by rw [hs]; omega)]))
  ·have hc : chk l = 3 := chk_bad fun h => ht (trimS_nil.2 fun y hy => h.dig y (by rw [hs]; exact hy))
   rw [hc]
   have e1 : (Lib.trimS (b :: r) ten == []) = false := by
    rw [beq_eq_false_iff_ne]; exact ht
   generalize Lib.trimS (b :: r) ten = X at *
   refine ctrA _ Tryz.func173 rfl rfl Tryz.ntmps173 rfl fun w Z => ?_
   refine zU ?_
   refine wk ?_
   rw [e1]
   refine wk ?_
   exact zV
theorem wcheck_i (m : Int) (h : LI 1000 m) : CtrA Tryz.prog 173 [vI m] (vi 0) := by
 have := wcheck_c (itoa m) (by
  have := h.len zE
  by_cases hm : m < 0
  ·rw [itoa_neg hm]; simp; omega
  ·rw [itoa_pos hm]; omega)
 rwa [chk_num h] at this
theorem all_c (n : Nat) (g : Nat → Int) (hn : n ≤ 1000000) (hg : ∀ i, i < n → LI 1000 (g i)) : CtrA Tryz.prog 227 [.sl n 1 (fun i _ => vI (g i))] (vi 0) := by
 refine ctrA _ Tryz.func227 rfl rfl Tryz.ntmps227 rfl fun w Z => ?_
 refine zU ?_
 refine wk ?_
 refine cq_loop (γ := Nat) (fun i => [(6, .av (.sl n 1 (fun i _ => vI (g i)))), (7, .av (vi n)), (8, .av (vi i))]) (fun _ => []) (fun i => i ≤ n) (fun i => n - i) 0 (Nat.zero_le _) (ent zS trivial) ?_
 intro i hi
 refine wk ?_
 (refine cq_cond rfl ?_ ?_ <;> intro hb <;> (try simp only [zA, zB, zG, zC, zD, zN] at hb) <;> (try (exfalso; omega)))
 ·have hc := wcheck_i (g i) (hg i zO)
  refine wk ?_
  exact sq_round (i + 1) zO zO (ent zS trivial)
 ·refine wk ?_
  exact zV
def two (a b : Int) (i : Nat) : Int := if i = 0 then a else b
theorem tq130_2 (a b : ByteArray) (w : World) : (Instr.buildSlice 130 2 #[(0, .string a), (1, .string b)]).run Tryz.prog w = .ok (.slice (some ⟨w.heap.size, 0, none⟩) 2 2) (w.alloc (.cells #[.string a, .string b] 128)) := by kernel_rfl
section
variable {E : Env} {T : Tab} {O : Go.Vc.Own} {d : Option Nat} {ty : TypeId} {pos : String} {af : Array Edge} {g : Option (Nat × Bool)}
theorem g_two {x y : Operand} {a b : Int} (hx : T.ev x = .av (vI a)) (hy : T.ev y = .av (vI b)) : GV Tryz.prog E ⟨d, .buildSlice 130 2 #[(0, x), (1, y)], ty, pos, af, g⟩ T O (.av (.sl 2 1 (fun i _ => vI (two a b i)))) [] [] :=
 g_bslice (is := [0, 1]) (xs := [x, y]) (vs := [.string (bs (itoa a)), .string (bs (itoa b))]) (us := [.string (bs (itoa a)), .string (bs (itoa b))]) (tq130_2 _ _) rfl (by simp only [List.map_cons, List.map_nil, hx, hy]) rfl (fun i hi j hj => by
  obtain rfl : j = 0 := zO
  rcases (by omega : i = 0 ∨ i = 1) with rfl | rfl <;> exact ⟨_, rfl, rfl⟩)
end
theorem wof_c (n : Int) (h : -9223372036854775808 ≤ n ∧ n ≤ 9223372036854775807) : CtrA Tryz.prog 123 [vi n] (vI n) := by
 have h1 := itoa_c n h
 refine ctrA _ Tryz.func123 rfl rfl Tryz.ntmps123 rfl fun w Z => ?_
 refine zU ?_
 refine wk ?_
 exact zV
theorem result_c (n : Int) (h : -9223372036854775808 ≤ n ∧ n ≤ 9223372036854775807) : CtrA Tryz.prog 237 [vi n] (tupOf [vI n, vi 0]) := by
 have h1 := wof_c n h
 refine ctrA _ Tryz.func237 rfl rfl Tryz.ntmps237 rfl fun w Z => ?_
 refine zU ?_
 refine wk ?_
 exact zW
theorem itoa_hd (m : Int) : ∃ b r, itoa m = b :: r ∧ ((b.toNat : Int) == 45) = decide (m < 0) := by
 by_cases h : m < 0
 ·exact ⟨45, _, itoa_neg h, by rw [decide_eq_true h]; rfl⟩
 ·obtain ⟨b, r, e, hd⟩ := dec_cons m.natAbs
  refine ⟨b, r, by rw [itoa_pos h, e], ?_⟩
  rw [decide_eq_false h, beq_eq_false_iff_ne]
  exact fun e => dig45 hd ((u8eq b 45).1 e)
theorem sign_c (m : Int) : CtrA Tryz.prog 187 [vI m] (vi (sgn m)) := by
 have h0 := itoa_is0 m
 obtain ⟨b, r, e, hb⟩ := itoa_hd m
 by_cases hz : m = 0
 ·rw [decide_eq_true hz] at h0
  refine ctrA _ Tryz.func187 rfl rfl Tryz.ntmps187 rfl fun w Z => ?_
  refine zU ?_
  refine wk ?_
  rw [h0]
  refine wk ?_
  exact sq_res1 rfl (.tmp rfl) (congrArg vi (by unfold sgn; rw [if_pos hz]))
 ·rw [decide_eq_false hz] at h0
  by_cases hn : m < 0
  ·rw [decide_eq_true hn] at hb
   refine ctrA _ Tryz.func187 rfl rfl Tryz.ntmps187 rfl fun w Z => ?_
   refine zU ?_
   refine wk ?_
   rw [h0]
   refine wk ?_
   refine sq_g (g_sidx (b := b) rfl rfl rfl (by rw [e]; rfl)) rfl ?_
   refine wk ?_
   rw [hb]
   refine wk ?_
   exact sq_res1 rfl (.tmp rfl) (congrArg vi (by unfold sgn; rw [if_neg hz, if_pos hn]))
  ·rw [decide_eq_false hn] at hb
   refine ctrA _ Tryz.func187 rfl rfl Tryz.ntmps187 rfl fun w Z => ?_
   refine zU ?_
   refine wk ?_
   rw [h0]
   refine wk ?_
   refine sq_g (g_sidx (b := b) rfl rfl rfl (by rw [e]; rfl)) rfl ?_
   refine wk ?_
   rw [hb]
   refine wk ?_
   exact sq_res1 rfl (.tmp rfl) (congrArg vi (by unfold sgn; rw [if_neg hz, if_neg hn]))
theorem compareB : ∀ {a b : List UInt8}, a.length = b.length → (∀ x ∈ a, isD x) → (∀ x ∈ b, isD x) → Lib.compareBytes a b = sgn ((dv a : Int) - dv b)
 |[], [], _, _, _ => rfl
 |x :: a, y :: b, hl, ha, hb => by
  have hl' : a.length = b.length := by simpa using hl
  have ih := compareB hl' (fun z hz => ha z (by simp [hz])) (fun z hz => hb z (by simp [hz]))
  have h1 := dgI (ha x (by simp))
  have h2 := dgI (hb y (by simp))
  have l1 := dv_lt a fun z hz => ha z (by simp [hz])
  have l2 := dv_lt b fun z hz => hb z (by simp [hz])
  rw [← hl'] at l2
  rw [dv_cons, dv_cons, ← hl']
  unfold Lib.compareBytes
  generalize hp : 10 ^ a.length = p at l1 l2 ⊢
  rcases Nat.lt_trichotomy x.toNat y.toNat with h | h | h
  ·have h3 : (x.toNat - 48 + 1) * p ≤ (y.toNat - 48) * p := Nat.mul_le_mul_right _ zO
   rw [Nat.add_mul] at h3
   have hx : x < y := h
   rw [if_pos hx]
   unfold sgn
   rw [if_neg (by omega), if_pos (by omega)]
  ·have : x = y := UInt8.toNat_inj.1 h
   subst this
   have hx : ¬ x < x := Nat.lt_irrefl _
   rw [if_neg hx, if_neg hx, ih]
   congr 1; omega
  ·have h3 : (y.toNat - 48 + 1) * p ≤ (x.toNat - 48) * p := Nat.mul_le_mul_right _ zO
   rw [Nat.add_mul] at h3
   have hx : ¬ x < y := Nat.not_lt.2 (Nat.le_of_lt h)
   have hy : y < x := h
   rw [if_neg hx, if_pos hy]
   unfold sgn
   rw [if_neg (by omega), if_neg (by omega)]
theorem worder_c (u v : Nat) : CtrA Tryz.prog 228 [vS (decDigits u), vS (decDigits v)] (vi (sgn ((u : Int) - v))) := by
 have h1 := compare_c (decDigits u) (decDigits v)
 by_cases hl : (decDigits u).length = (decDigits v).length
 ·rw [compareB hl (dec_dig u) (dec_dig v), dv_dec, dv_dec] at h1
  refine ctrA _ Tryz.func228 rfl rfl Tryz.ntmps228 rfl fun w Z => ?_
  refine zU ?_
  refine wk ?_
  (refine cq_cond rfl ?_ ?_ <;> intro hb <;> (try simp only [zA, zB, zG, zC, zD, zN] at hb) <;> (try (exfalso; omega)))
  refine wk ?_
  exact zV
 ·refine ctrA _ Tryz.func228 rfl rfl Tryz.ntmps228 rfl fun w Z => ?_
  refine zU ?_
  refine wk ?_
  (refine cq_cond rfl ?_ ?_ <;> intro hb <;> (try simp only [zA, zB, zG, zC, zD, zN] at hb) <;> (try (exfalso; omega)))
  refine wk ?_
  (refine cq_cond rfl ?_ ?_ <;> intro hb <;> (try simp only [zA, zB, zG, zC, zD, zN] at hb) <;> (try (exfalso; omega)))
  ·refine wk ?_
   have := dec_lt_len (u := u) (v := v) zO
   exact sq_res1 rfl (.tmp rfl) (congrArg vi (by unfold sgn; rw [if_neg (by omega), if_pos (by omega)]))
  ·refine wk ?_
   have := dec_lt_len (u := v) (v := u) zO
   exact sq_res1 rfl (.tmp rfl) (congrArg vi (by unfold sgn; rw [if_neg (by omega), if_neg (by omega)]))
theorem trimp_i (m : Int) : CtrA Tryz.prog 225 [vI m, vS [45]] (vS (decDigits m.natAbs)) := by
 have := trimp_c (itoa m)
 rwa [szL_itoa] at this
theorem sgn_mul_abs {m n : Int} (h : sgn m = sgn n) : sgn m * sgn ((m.natAbs : Int) - n.natAbs) = sgn (m - n) := by
 unfold sgn at *
 split at h
 ·split at h
  ·simp_all
  ·split at h <;> simp at h
 ·split at h
  ·split at h
   ·simp at h
   ·split at h
    ·rw [if_neg (by assumption), if_pos (by assumption)]
     by_cases e : m = n
     ·rw [if_pos (by omega), if_pos (by omega)]; rfl
     ·by_cases l : m < n
      ·rw [if_neg (by omega), if_neg (by omega), if_neg (by omega), if_pos (by omega)]; rfl
      ·rw [if_neg (by omega), if_pos (by omega), if_neg (by omega), if_neg (by omega)]; rfl
    ·simp at h
  ·split at h
   ·simp at h
   ·split at h
    ·simp at h
    ·rw [if_neg (by assumption), if_neg (by assumption)]
     by_cases e : m = n
     ·rw [if_pos (by omega), if_pos (by omega)]; rfl
     ·by_cases l : m < n
      ·rw [if_neg (by omega), if_pos (by omega), if_neg (by omega), if_pos (by omega)]; rfl
      ·rw [if_neg (by omega), if_neg (by omega), if_neg (by omega), if_neg (by omega)]; rfl
theorem wcompare_c (m n : Int) (hm : LI 1000 m) (hn : LI 1000 n) : CtrA Tryz.prog 174 [vI m, vI n] (tupOf [vi (sgn (m - n)), vi 0]) := by
 have h0 := all_c 2 (two m n) zE (fun i hi => by rcases (by omega : i = 0 ∨ i = 1) with rfl | rfl <;> assumption)
 have h1 := sign_c m
 have h2 := sign_c n
 have h3 := trimp_i m
 have h4 := trimp_i n
 have h5 := worder_c m.natAbs n.natAbs
 have s3 : ∀ k : Int, sgn k = 0 ∨ sgn k = 1 ∨ sgn k = -1 := fun k => by unfold sgn; split; exact .inl rfl; split; exact .inr (.inr rfl); exact .inr (.inl rfl)
 have r1 := s3 m
 have r2 := s3 n
 have r3 := s3 ((m.natAbs : Int) - n.natAbs)
 have hlt : sgn m < sgn n → sgn (m - n) = -1 := fun h => by
  unfold sgn at *
  split at h <;> split at h <;> (try split at h) <;> (try split at h) <;> (try omega) <;> rw [if_neg (by omega), if_pos (by omega)]
 have hgt : sgn n < sgn m → sgn (m - n) = 1 := fun h => by
  unfold sgn at *
  split at h <;> split at h <;> (try split at h) <;> (try split at h) <;> (try omega) <;> rw [if_neg (by omega), if_neg (by omega)]
 have heq := sgn_mul_abs (m := m) (n := n)
 have hmul : -1 ≤ sgn m * sgn ((m.natAbs : Int) - n.natAbs) ∧ sgn m * sgn ((m.natAbs : Int) - n.natAbs) ≤ 1 := by
  rcases r1 with e | e | e <;> rcases r3 with e' | e' | e' <;> rw [e, e'] <;> decide
 refine ctrA _ Tryz.func174 rfl rfl Tryz.ntmps174 rfl fun w Z => ?_
 refine zU ?_
 refine wk ?_
 refine sq_g (g_two rfl rfl) rfl ?_
 refine wk ?_
 generalize sgn m = s at *
 generalize sgn n = t at *
 generalize sgn ((m.natAbs : Int) - n.natAbs) = q at *
 (refine cq_cond rfl ?_ ?_ <;> intro hb <;> (try simp only [zA, zB, zG, zC, zD, zN] at hb) <;> (try (exfalso; omega)))
 ·refine wk ?_
  exact sq_resN (rvs := [_, _]) (τs := [_, _]) rfl rfl ⟨.tmp rfl, .tmp rfl, trivial⟩ (by rw [hlt (by omega)])
 ·refine wk ?_
  (refine cq_cond rfl ?_ ?_ <;> intro hb <;> (try simp only [zA, zB, zG, zC, zD, zN] at hb) <;> (try (exfalso; omega)))
  ·refine wk ?_
   exact sq_resN (rvs := [_, _]) (τs := [_, _]) rfl rfl ⟨.tmp rfl, .tmp rfl, trivial⟩ (by rw [hgt (by omega)])
  ·refine wk ?_
   exact sq_resN (rvs := [_, _]) (τs := [_, _]) rfl rfl ⟨.tmp rfl, .tmp rfl, trivial⟩ (by rw [heq (by omega)])
end Go.Proofs.YtgepmbjmaljgoaaGreatDoor
end
namespace Go.Na
open Go.Lib
def wd (V : Nat) (i : Nat) : Int := ((V / 1000000000 ^ i % 1000000000 : Nat) : Int)
def nw (V : Nat) : Nat := if h : V = 0 then 0 else nw (V / 1000000000) + 1
termination_by V
decreasing_by omega
theorem nw_zero : nw 0 = 0 := by rw [nw]; simp
theorem nw_pos {V : Nat} (h : V ≠ 0) : nw V = nw (V / 1000000000) + 1 := by rw [nw, dif_neg h]
theorem wd_rng (V i : Nat) : 0 ≤ wd V i ∧ wd V i < B := by
 unfold wd
 have := Nat.mod_lt (V / 1000000000 ^ i) (show 1000000000 > 0 by decide)
 show 0 ≤ ((V / 1000000000 ^ i % 1000000000 : Nat) : Int) ∧ ((V / 1000000000 ^ i % 1000000000 : Nat) : Int) < 1000000000
 omega
theorem wd_succ (V i : Nat) : wd V (i + 1) = wd (V / 1000000000) i := by
 unfold wd
 rw [Nat.pow_succ, Nat.mul_comm, ← Nat.div_div_eq_div_mul]
theorem wd_zero (V : Nat) : wd V 0 = ((V % 1000000000 : Nat) : Int) := by simp [wd]
theorem lt_nw : ∀ V : Nat, V < 1000000000 ^ nw V := by
 intro V
 induction V using Nat.strongRecOn with
 |_ V ih =>
  by_cases h : V = 0
  ·subst h; exact Nat.pow_pos (by decide)
  ·rw [nw_pos h, Nat.pow_succ]
   have := ih (V / 1000000000) (by omega)
   omega
theorem nw_le {V : Nat} : ∀ {n : Nat}, V < 1000000000 ^ n → nw V ≤ n := by
 induction V using Nat.strongRecOn with
 |_ V ih =>
  intro n hn
  by_cases h : V = 0
  ·subst h; rw [nw_zero]; omega
  ·rw [nw_pos h]
   cases n with
   |zero => simp at hn; exact absurd hn h
   |succ n =>
    rw [Nat.pow_succ] at hn
    have := ih (V / 1000000000) (by omega) (n := n) (by omega)
    omega
theorem nw_eq0 {V : Nat} : nw V = 0 ↔ V = 0 := by
 constructor
 ·intro h
  have := lt_nw V
  rw [h] at this; simpa using this
 ·rintro rfl; exact nw_zero
theorem wd_out {V i : Nat} (h : nw V ≤ i) : wd V i = 0 := by
 have h1 := lt_nw V
 have h2 : V < 1000000000 ^ i := Nat.lt_of_lt_of_le h1 (Nat.pow_le_pow_right (by decide) h)
 unfold wd
 rw [Nat.div_eq_of_lt h2]; rfl
theorem wd_top : ∀ {V : Nat}, V ≠ 0 → wd V (nw V - 1) ≠ 0 := by
 intro V
 induction V using Nat.strongRecOn with
 |_ V ih =>
  intro h
  rw [nw_pos h]
  by_cases h1 : V / 1000000000 = 0
  ·rw [h1, nw_zero]
   show wd V 0 ≠ 0
   rw [wd_zero]
   omega
  ·have := ih (V / 1000000000) (by omega) h1
   have h2 : nw (V / 1000000000) ≠ 0 := fun e => h1 (nw_eq0.1 e)
   rw [show nw (V / 1000000000) + 1 - 1 = (nw (V / 1000000000) - 1) + 1 by omega, wd_succ]
   exact this
theorem vw_wd : ∀ (n V : Nat), V < 1000000000 ^ n → vw (wd V) n = V
 |0, V, h => by simp at h; subst h; rfl
 |n + 1, V, h => by
  have hs : vw (wd V) (n + 1) = vw (wd (V / 1000000000)) n * B + wd V 0 := vw_shift (fun i => wd_succ V i) n
  rw [hs, vw_wd n (V / 1000000000) (by rw [Nat.pow_succ] at h; omega), wd_zero]
  show ((V / 1000000000 : Nat) : Int) * 1000000000 + _ = _
  omega
theorem wd_of {f : Nat → Int} : ∀ {n V : Nat}, (∀ i, 0 ≤ f i) → (∀ i, f i < B) → vw f n = V → ∀ i, i < n → f i = wd V i
 |0, _, _, _, _, i, hi => by omega
 |n + 1, V, h0, h1, hv, i, hi => by
  have hs : vw f (n + 1) = vw (fun i => f (i + 1)) n * B + f 0 := vw_shift (fun i => rfl) n
  rw [hs] at hv
  have a0 := h0 0
  have a1 : f 0 < 1000000000 := h1 0
  have hv' : vw (fun i => f (i + 1)) n * 1000000000 + f 0 = V := hv
  have hn := vw_nonneg (f := fun i => f (i + 1)) (fun i => h0 (i + 1)) n
  generalize hw : vw (fun i => f (i + 1)) n = W at hv' hn
  have hq : W = ((V / 1000000000 : Nat) : Int) := by omega
  cases i with
  |zero => rw [wd_zero]; omega
  |succ i =>
   rw [wd_succ]
   exact wd_of (f := fun i => f (i + 1)) (fun i => h0 (i + 1)) (fun i => h1 (i + 1)) (by rw [hw, hq]) i (by omega)
theorem pow9n (n : Nat) : ((1000000000 ^ n : Nat) : Int) = B ^ n := by simp
theorem wd_up {V d : Nat} (h : d < 1000000000) (i : Nat) : wd (V * 1000000000 + d) i = match i with | 0 => (d : Int) | i + 1 => wd V i := by
 cases i with
 |zero => rw [wd_zero]; show ((_ : Nat) : Int) = (d : Int); omega
 |succ i =>
  rw [wd_succ]
  show wd _ _ = wd _ _
  congr 1; omega
end Go.Na
namespace Go.Na
open Go
theorem wd_inj {V W : Nat} (hn : nw V = nw W) (h : ∀ i, i < nw V → wd V i = wd W i) : V = W := by
 have h1 := vw_wd (nw V) V (lt_nw V)
 have h2 := vw_wd (nw W) W (lt_nw W)
 rw [← hn, ← vw_congr h] at h2
 omega
theorem top_diff (f g : Nat → Int) : ∀ n, (∀ i, i < n → f i = g i) ∨ ∃ j, j < n ∧ f j ≠ g j ∧ ∀ k, j < k → k < n → f k = g k
 |0 => .inl (fun i h => absurd h (Nat.not_lt_zero i))
 |n + 1 => by
  by_cases he : f n = g n
  ·rcases top_diff f g n with h | ⟨j, h1, h2, h3⟩
   ·exact .inl fun i hi => by
     rcases Nat.lt_succ_iff_lt_or_eq.1 hi with h' | rfl
     ·exact h i h'
     ·exact he
   ·exact .inr ⟨j, by omega, h2, fun k h4 h5 => by
     rcases Nat.lt_succ_iff_lt_or_eq.1 h5 with h' | rfl
     ·exact h3 k h4 h'
     ·exact he⟩
  ·exact .inr ⟨n, by omega, he, fun k h4 h5 => by omega⟩
theorem lt_of_top {V W j : Nat} (hn : nw V = nw W) (hj : j < nw V) (hlt : wd V j < wd W j) (h : ∀ k, j < k → k < nw V → wd V k = wd W k) : V < W := by
 have h0 := vw_cmp (f := wd V) (g := wd W) (fun i => (wd_rng V i).1) (fun i => (wd_rng V i).2) (fun i => (wd_rng W i).1) hlt hj h
 rw [vw_wd _ _ (lt_nw V), hn, vw_wd _ _ (lt_nw W)] at h0
 omega
theorem lt_of_nw {V W : Nat} (h : nw V < nw W) : V < W := by
 apply Nat.lt_of_not_le
 intro hle
 have := nw_le (V := W) (n := nw V) (Nat.lt_of_le_of_lt hle (lt_nw V))
 omega
def topd (f g : Nat → Int) : Nat → Int
 |0 => 0
 |n + 1 => if f n ≠ g n then f n - g n else topd f g n
def bey (V W : Nat) : Int := if (nw V : Int) ≠ nw W then nw V - nw W else topd (wd V) (wd W) (nw V)
theorem topd_eq {f g : Nat → Int} {n : Nat} (h : ∀ i, i < n → f i = g i) : topd f g n = 0 := by
 induction n with
 |zero => rfl
 |succ n ih =>
  unfold topd
  rw [if_neg (by simp [h n (by omega)])]
  exact ih fun i hi => h i (by omega)
theorem topd_ne {f g : Nat → Int} {n j : Nat} (hj : j < n) (hne : f j ≠ g j) (h : ∀ k, j < k → k < n → f k = g k) : topd f g n = f j - g j := by
 induction n with
 |zero => omega
 |succ n ih =>
  unfold topd
  by_cases e : n = j
  ·subst e; rw [if_pos hne]
  ·rw [if_neg (by simp [h n (by omega) (by omega)])]
   exact ih (by omega) fun k h1 h2 => h k h1 (by omega)
theorem bey_ge (V W : Nat) : 0 ≤ bey V W ↔ W ≤ V := by
 unfold bey
 by_cases hn : nw V = nw W
 ·rw [if_neg (by omega)]
  rcases top_diff (wd V) (wd W) (nw V) with h | ⟨j, h1, h2, h3⟩
  ·rw [topd_eq h, wd_inj hn h]; simp
  ·rw [topd_ne h1 h2 h3]
   rcases Int.lt_or_gt_of_ne h2 with h | h
   ·have := lt_of_top hn h1 h h3
    omega
   ·have := lt_of_top hn.symm (by omega) h (fun k h4 h5 => (h3 k h4 (by omega)).symm)
    omega
 ·rw [if_pos (by omega)]
  rcases Nat.lt_or_gt_of_ne hn with h | h
  ·have := lt_of_nw h; omega
  ·have := lt_of_nw h; omega
def topw (V : Nat) (i : Nat) : Int := if i < nw V then wd V i else 0
theorem topw_rng (V i : Nat) : 0 ≤ topw V i ∧ topw V i ≤ 999999999 := by
 have r1 := wd_rng V i
 have : Na.B = 1000000000 := rfl
 unfold topw; split <;> omega
theorem topw_eq (V i : Nat) : topw V i = wd V i := by
 unfold topw; split
 ·rfl
 ·rw [wd_out (by omega)]
def estb (W : Nat) : Int := if 1 < nw W then topw W (nw W - 1) + 1 else topw W (nw W - 1)
def estq (V W : Nat) : Int := (topw V (nw W) * 1000000000 + topw V (nw W - 1)) / estb W
def est (V W : Nat) : Int := if 0 < estq V W then (if 999999999 < estq V W then 999999999 else estq V W) else 1
theorem estb_pos {W : Nat} (h : W ≠ 0) : 0 < estb W := by
 have h1 := wd_top h
 have h2 := wd_rng W (nw W - 1)
 unfold estb
 rw [topw_eq]
 split <;> omega
theorem est_ok {V W : Nat} (hW : W ≠ 0) (hle : W ≤ V) : 1 ≤ est V W ∧ est V W ≤ 999999999 ∧ est V W * W ≤ V := by
 have hb := estb_pos hW
 have hn := nw_pos hW
 have hV : V < 1000000000 ^ (nw V + nw W + 2) := Nat.lt_of_lt_of_le (lt_nw V) (Nat.pow_le_pow_right (by decide) (by omega))
 have e1 := vw_wd _ _ hV
 have e2 : vw (wd W) (nw W - 1 + 1) = W := by
  have : nw W - 1 + 1 = nw W := by omega
  rw [this]; exact vw_wd _ _ (lt_nw W)
 have hB : estb W = if nw W - 1 = 0 then wd W (nw W - 1) else wd W (nw W - 1) + 1 := by
  unfold estb
  rw [topw_eq]
  by_cases h : 1 < nw W
  ·rw [if_pos h, if_neg (by omega)]
  ·rw [if_neg h, if_pos (by omega)]
 have key := fun k h0 h1 => est_le (f := wd V) (g := wd W) (n := nw W - 1) (N := nw V + nw W + 2) (b := estb W) (k := k) (fun i => (wd_rng V i).1) (fun i => (wd_rng W i).1) (fun i => (wd_rng W i).2) (by omega) hB hb h0 h1
 have ew : nw W - 1 + 1 = nw W := by omega
 rw [e1, e2, ew, ← topw_eq, ← topw_eq] at key
 change ∀ k, 0 ≤ k → k ≤ estq V W → k * W ≤ V at key
 unfold est
 split
 ·split
  ·exact ⟨by omega, by omega, key _ (by omega) (by omega)⟩
  ·exact ⟨by omega, by omega, key _ (by omega) (by omega)⟩
 ·refine ⟨by omega, by omega, by omega⟩
end Go.Na
namespace Go.Proofs.YtgepmbjmaljgoaaGreatDoor
open Go Go.Vc Go.RowKit Go.Na Go.Lib
set_option maxHeartbeats 4000000
theorem beyond_c (V W : Nat) (b c : Bool) (hV : nw V ≤ 232) (hW : nw W ≤ 232) : CtrA Tryz.prog 273 [wA b (nw V) (wd V), wA c (nw W) (wd W)] (vi (bey V W)) := by
 refine ctrA _ Tryz.func273 rfl rfl Tryz.ntmps273 rfl fun w Z => ?_
 refine zU ?_
 refine wl ?_
 (refine cq_cond rfl ?_ ?_ <;> intro hb <;> (try simp only [zA, zB, zG, zC, zD, zN] at hb) <;> (try (exfalso; omega)))
 ·refine wl ?_
  exact sq_res1 rfl (.tmp rfl) (congrArg vi (by unfold bey; rw [if_pos (by omega)]))
 ·refine wl ?_
  refine cq_loop (γ := Nat) (fun (i : Nat) => [(0, .av (wA b (nw V) (wd V))), (1, .av (wA c (nw W) (wd W))), (4, .av (vi 0)), (5, .av (vi ((i : Int) - 1)))]) (fun _ => []) (fun i => i ≤ nw V ∧ topd (wd V) (wd W) (nw V) = topd (wd V) (wd W) i) (fun i => i) (nw V) ⟨by omega, rfl⟩ (ent zS trivial) ?_
  rintro i ⟨hi, ht⟩
  refine wl ?_
  (refine cq_cond rfl ?_ ?_ <;> intro hb <;> (try simp only [zA, zB, zG, zC, zD, zN] at hb) <;> (try (exfalso; omega)))
  ·obtain ⟨k, rfl⟩ : ∃ k, i = k + 1 := ⟨i - 1, by omega⟩
   have r1 := wd_rng V k
   have r2 := wd_rng W k
   have : Na.B = 1000000000 := rfl
   have e : ((k + 1 : Nat) : Int) - 1 = k := by omega
   rw [e]
   refine wl ?_
   (refine cq_cond rfl ?_ ?_ <;> intro hb <;> (try simp only [zA, zB, zG, zC, zD, zN] at hb) <;> (try (exfalso; omega)))
   ·refine wl ?_
    exact sq_res1 rfl (.tmp rfl) (congrArg vi (by unfold bey; rw [if_neg (by omega), ht, topd, if_pos (by assumption)]))
   ·refine wl ?_
    exact sq_round k ⟨by omega, by rw [ht, topd, if_neg (by omega)]⟩ (by omega) (ent zS trivial)
  ·obtain rfl : i = 0 := by omega
   refine wl ?_
   exact sq_res1 rfl (.tmp rfl) (congrArg vi (by unfold bey; rw [if_neg (by omega), ht]; rfl))
theorem topw_c (V : Nat) (b : Bool) (hV : nw V ≤ 232) (i : Int) (k : Nat) (hi : i = k) : CtrA Tryz.prog 299 [wA b (nw V) (wd V), vi i] (vi (topw V k)) := by
 subst hi
 have r1 := wd_rng V k
 refine ctrA _ Tryz.func299 rfl rfl Tryz.ntmps299 rfl fun w Z => ?_
 refine zU ?_
 refine wl ?_
 (refine cq_cond rfl ?_ ?_ <;> intro hb <;> (try simp only [zA, zB, zG, zC, zD, zN] at hb) <;> (try (exfalso; omega)))
 ·refine wl ?_
  exact sq_res1 rfl (.tmp rfl) (congrArg vi (by unfold topw; rw [if_neg (by omega)]))
 ·refine wl ?_
  exact sq_res1 rfl (.tmp rfl) (congrArg vi (by unfold topw; rw [if_pos (by omega)]))
theorem estimate_c (V W : Nat) (b c : Bool) (hV : nw V ≤ 232) (hW : nw W ≤ 232) (h0 : W ≠ 0) : CtrA Tryz.prog 274 [wA b (nw V) (wd V), wA c (nw W) (wd W)] (vi (est V W)) := by
 have hn := nw_pos h0
 have h1 := topw_c V b hV (nw W) (nw W) rfl
 have h2 := topw_c V b hV (nw W - 1) (nw W - 1) zO
 have h3 := topw_c W c hW (nw W - 1) (nw W - 1) zO
 have r1 := topw_rng V (nw W)
 have r2 := topw_rng V (nw W - 1)
 have r3 := topw_rng W (nw W - 1)
 have hpos := estb_pos h0
 refine ctrA _ Tryz.func274 rfl rfl Tryz.ntmps274 rfl fun w Z => ?_
 refine zU ?_
 refine wl ?_
 (refine cq_cond rfl ?_ ?_ <;> intro hb <;> (try simp only [zA, zB, zG, zC, zD, zN] at hb) <;> (try (exfalso; omega)))
 ·have he : estq V W = (topw V (nw W) * 1000000000 + topw V (nw W - 1)) / (topw W (nw W - 1) + 1) := by unfold estq estb; rw [if_pos (by omega)]
  refine wl ?_
  rw [← he]
  (refine cq_cond rfl ?_ ?_ <;> intro hb <;> (try simp only [zA, zB, zG, zC, zD, zN] at hb) <;> (try (exfalso; omega)))
  ·refine wl ?_
   exact sq_res1 rfl (.tmp rfl) (congrArg vi (by unfold est; rw [he]; exact (if_pos (by omega)).symm))
  ·refine wl ?_
   exact sq_res1 rfl (.tmp rfl) (congrArg vi (by unfold est; rw [he]; exact (if_neg (by omega)).symm))
 ·have he : estq V W = (topw V (nw W) * 1000000000 + topw V (nw W - 1)) / topw W (nw W - 1) := by unfold estq estb; rw [if_neg (by omega)]
  unfold estb at hpos
  rw [if_neg (by omega)] at hpos
  refine wl ?_
  rw [← he]
  (refine cq_cond rfl ?_ ?_ <;> intro hb <;> (try simp only [zA, zB, zG, zC, zD, zN] at hb) <;> (try (exfalso; omega)))
  ·refine wl ?_
   exact sq_res1 rfl (.tmp rfl) (congrArg vi (by unfold est; rw [he]; exact (if_pos (by omega)).symm))
  ·refine wl ?_
   exact sq_res1 rfl (.tmp rfl) (congrArg vi (by unfold est; rw [he]; exact (if_neg (by omega)).symm))
end Go.Proofs.YtgepmbjmaljgoaaGreatDoor
namespace Go.Na
open Go Go.Vc
structure CI (V W u : Nat) (c : Int) (i : Nat) (r : Int) (n : Nat) (f : Nat → Int) : Prop where
 lo : ∀ k, 0 ≤ f k
 hi : ∀ k, f k < B
 out : ∀ k, n ≤ k → f k = 0
 nle : n ≤ 232
 val : vw f 232 + r * B ^ (i + u) = V + c * vw (wd W) i * B ^ u
 rest : -B ≤ r ∧ r ≤ B
 iu : i + u ≤ 232
theorem CI.zero {V W u : Nat} {c : Int} (hV : nw V ≤ 232) (hu : u ≤ 232) : CI V W u c 0 0 (nw V) (wd V) :=
 ⟨fun k => (wd_rng V k).1, fun k => (wd_rng V k).2, fun k hk => wd_out hk, hV, by
  rw [vw_wd 232 V (Nat.lt_of_lt_of_le (lt_nw V) (Nat.pow_le_pow_right (by decide) hV))]
  simp [vw], by decide, by omega⟩
theorem CI.step {V W u : Nat} {c : Int} {i : Nat} {r : Int} {n : Nat} {f : Nat → Int} (h : CI V W u c i r n f) (hlt : i + u < 232) (hc : -999999999 ≤ c ∧ c ≤ 999999999) {s t r' : Int} (hs : s = f (i + u) + r + c * wd W i) (ht : t + r' * 1000000000 = s) (h0 : 0 ≤ t) (h1 : t < 1000000000) (n' : Nat) (hn1 : i + u + 1 ≤ n') (hn2 : n ≤ n') (hn3 : n' ≤ 232) :
  CI V W u c (i + 1) r' n' (upd f (i + u) t) := by
 have hw := wd_rng W i
 have hl := h.lo (i + u)
 have hh := h.hi (i + u)
 have hr := h.rest
 have hB : B = 1000000000 := rfl
 rw [hB] at hw hh hr
 have p1 : -(999999999 * 999999999) ≤ c * wd W i ∧ c * wd W i ≤ 999999999 * 999999999 := by
  have a1 : c * wd W i ≤ 999999999 * wd W i := Int.mul_le_mul_of_nonneg_right hc.2 hw.1
  have a2 : -999999999 * wd W i ≤ c * wd W i := Int.mul_le_mul_of_nonneg_right hc.1 hw.1
  omega
 refine ⟨fun k => ?_, fun k => ?_, fun k hk => ?_, hn3, ?_, by rw [hB]; omega, by omega⟩
 ·unfold upd; split
  ·exact h0
  ·exact h.lo k
 ·unfold upd; split
  ·rw [hB]; exact h1
  ·exact h.hi k
 ·unfold upd; rw [if_neg (by omega)]; exact h.out k (by omega)
 ·exact carry_step hlt h.val hs (by rw [upd_same, hB]; exact ht) (fun k hk => upd_other _ _ hk)
theorem CI.end0 {V W u : Nat} {c : Int} {i : Nat} {r : Int} {n : Nat} {f : Nat → Int} (h : CI V W u c i r n f) (hi : nw W ≤ i) {R : Nat} (hR : (R : Int) = V + c * W * B ^ u) (hR2 : nw R ≤ 232) (he : i + u = 232) : r = 0 := by
 have hw : vw (wd W) i = W := vw_wd i W (Nat.lt_of_lt_of_le (lt_nw W) (Nat.pow_le_pow_right zE hi))
 have hv := h.val
 rw [hw, ← hR, he] at hv
 have hlt : (R : Int) < B ^ 232 := by
  have := Nat.lt_of_lt_of_le (lt_nw R) (Nat.pow_le_pow_right zE hR2)
  rw [← pow9n]
  exact Int.ofNat_lt.2 this
 exact rest_zero (j := 232) (m := 232) (n := 232) h.lo h.hi (fun k hk => h.out k (by have := h.nle; omega)) (Nat.le_refl _) zO hlt (Nat.le_refl _) hv
theorem CI.fin {V W u : Nat} {c : Int} {i : Nat} {n : Nat} {f : Nat → Int} (h : CI V W u c i 0 n f) (hi : nw W ≤ i) {R : Nat} (hR : (R : Int) = V + c * W * B ^ u) (hR2 : nw R ≤ 232) : f = wd R ∧ nw R ≤ n := by
 have hw : vw (wd W) i = W := vw_wd i W (Nat.lt_of_lt_of_le (lt_nw W) (Nat.pow_le_pow_right zE hi))
 have hv := h.val
 rw [hw, ← hR, Int.zero_mul, Int.add_zero] at hv
 have e : f = wd R := by
  funext k
  by_cases hk : k < 232
  ·exact wd_of h.lo h.hi hv k hk
  ·rw [h.out k (by have := h.nle; omega), wd_out (by omega)]
 refine ⟨e, ?_⟩
 apply Nat.le_of_not_lt
 intro hlt
 have hR0 : R ≠ 0 := fun e => by rw [e, nw_zero] at hlt; omega
 have := wd_top hR0
 rw [← e, h.out _ (by omega)] at this
 exact this rfl
end Go.Na
namespace Go.Proofs.YtgepmbjmaljgoaaGreatDoor
open Go Go.Vc Go.RowKit Go.Na Go.Lib
set_option maxHeartbeats 4000000
theorem trimmed_c (b : Bool) (n m : Nat) (f : Nat → Int) (hmn : m ≤ n) (hn : n ≤ 232) (hz : ∀ i, m ≤ i → i < n → f i = 0) (ht : m = 0 ∨ f (m - 1) ≠ 0) : CtrH Tryz.prog 272 [.own 1000 0] [(1000, .wi b n f)] (.own 1000 0) [(1000, .wi b m f)] := by
 refine ctrH _ Tryz.func272 rfl rfl Tryz.ntmps272 rfl rfl fun w Z ν => ?_
 refine zU ?_
 refine wl ?_
 refine cq_loop (γ := Nat) (fun (i : Nat) => [(0, .own 1000 0)]) (fun (i : Nat) => [(1000, .wi b i f)]) (fun i => m ≤ i ∧ i ≤ n) (fun i => i) n ⟨by omega, by omega⟩ (ent ⟨.refl _, trivial⟩ zT) ?_
 rintro i ⟨h1, h2⟩
 refine wl ?_
 (first | refine sq_split rfl rfl ?_ ?_ | refine dq_split rfl rfl ?_ ?_) <;> intro hb <;> (try simp only [zA, zB, zG, zC, zD, zN] at hb) <;> (try (exfalso; omega))
 ·refine wl ?_
  have e : ((i : Int) - 1).toNat = i - 1 := by omega
  rw [e]
  refine wl ?_
  (refine cq_cond rfl ?_ ?_ <;> intro hb <;> (try simp only [zA, zB, zG, zC, zD, zN] at hb) <;> (try (exfalso; omega)))
  ·refine wl ?_
   exact sq_round (i - 1) ⟨by by_cases h : i = m
                              · subst h; exact absurd hb (by rcases ht with h | h; exact absurd h zO; exact h)
                              · omega, by omega⟩ (by omega) (ent ⟨.refl _, trivial⟩ ⟨⟨_, rfl, by rw [show ((i - 1 : Nat) : Int) = (i : Int) - 1 by omega]; exact .refl _⟩, trivial⟩)
  ·obtain rfl : i = m := (by
    apply Classical.byContradiction
    intro hne
    exact hb (hz _ zO zO))
   refine wl ?_
   exact sq_retH rfl rfl rfl
 ·obtain rfl : i = m := zO
  refine wl ?_
  exact sq_retH rfl rfl rfl
theorem carry_o (b b' : Bool) (V W R u : Nat) (c : Int) (hV : nw V ≤ 232) (hW : nw W + u ≤ 232) (hR2 : nw R ≤ 232) (hc : -999999999 ≤ c ∧ c ≤ 999999999) (hR : (R : Int) = V + c * W * Na.B ^ u) :
  CtrH Tryz.prog 275 [.own 1000 0, .own 1001 0, .av (vi c), .av (vi u)] [(1000, .wi b (nw V) (wd V)), (1001, .wi b' (nw W) (wd W))] (.av .any) [(1000, .wi b (nw R) (wd R)), (1001, .wi b' (nw W) (wd W))] := by
 refine ctrH _ Tryz.func275 rfl rfl Tryz.ntmps275 rfl rfl fun w Z ν => ?_
 refine zU ?_
 refine wl ?_
 refine cq_loop (γ := Nat × Int × Nat × (Nat → Int)) (fun q => [(0, .own 1000 0), (1, .own 1001 0), (2, .av (vi c)), (3, .av (vi u)), (8, .av (vi q.2.1)), (9, .av (vi q.1))]) (fun q => [(1000, .wi b q.2.2.1 q.2.2.2), (1001, .wi b' (nw W) (wd W))]) (fun q => CI V W u c q.1 q.2.1 q.2.2.1 q.2.2.2) (fun q => 232 - q.1) (0, 0, nw V, wd V) (CI.zero hV zO) (ent zS zT) ?_
 rintro ⟨i, r, n, f⟩ h
 dsimp only at h
 have hiu := h.iu
 have hl := h.lo (i + u)
 have hh := h.hi (i + u)
 have hr := h.rest
 have hn := h.nle
 have hw := wd_rng W i
 have hB : Na.B = 1000000000 := rfl
 rw [hB] at hh hr hw
 have p1 : -(999999999 * 999999999) ≤ c * wd W i ∧ c * wd W i ≤ 999999999 * 999999999 := by
  have a1 : c * wd W i ≤ 999999999 * wd W i := Int.mul_le_mul_of_nonneg_right hc.2 hw.1
  have a2 : -999999999 * wd W i ≤ c * wd W i := Int.mul_le_mul_of_nonneg_right hc.1 hw.1
  omega
 have hmx : ((max n (i + u + 1) : Nat) : Int) = if (n : Int) < (i : Int) + u + 1 then (i : Int) + u + 1 else n := by split <;> omega
 dsimp only
 refine wl ?_
 (first | refine sq_split rfl rfl ?_ ?_ | refine dq_split rfl rfl ?_ ?_) <;> intro hb <;> (try simp only [zA, zB, zG, zC, zD, zN] at hb) <;> (try (exfalso; omega))
 ·have hlt : i + u < 232 := by omega
  have hq := carry_digit (f (i + u) + r + c * wd W i)
  dsimp only at hq
  rw [hB] at hq
  refine wl ?_
  (refine cq_cond rfl ?_ ?_ <;> intro hb <;> (try simp only [zA, zB, zG, zC, zD, zN] at hb) <;> (try (exfalso; omega)))
  refine wl ?_
  (refine cq_cond rfl ?_ ?_ <;> intro hb <;> (try simp only [zA, zB, zG, zC, zD, zN] at hb) <;> (try (exfalso; omega)))
  ·refine wl ?_
   exact sq_round (g := (i, r, n, f)) (i + 1, (f (i + u) + r + c * wd W i).tdiv 1000000000 - 1, max n (i + u + 1), upd f (i + u) (f (i + u) + r + c * wd W i - (f (i + u) + r + c * wd W i).tdiv 1000000000 * 1000000000 + 1000000000)) (CI.step h hlt hc (s := f (i + u) + r + c * wd W i) (t := f (i + u) + r + c * wd W i - (f (i + u) + r + c * wd W i).tdiv 1000000000 * 1000000000 + 1000000000) (r' := (f (i + u) + r + c * wd W i).tdiv 1000000000 - 1) rfl (by omega) (by omega) (by omega) (max n (i + u + 1)) (by omega) (by omega) (by omega)) (by show 232 - (i + 1) < 232 - i; omega) (ent ⟨.refl _, .refl _, .refl _, .refl _, .refl _, .int (by show (i : Int) + 1 = ((i + 1 : Nat) : Int); omega), trivial⟩ ⟨⟨_, rfl, by rw [hmx]; exact .refl _⟩, ⟨_, rfl, .refl _⟩, trivial⟩)
  ·refine wl ?_
   exact sq_round (g := (i, r, n, f)) (i + 1, (f (i + u) + r + c * wd W i).tdiv 1000000000, max n (i + u + 1), upd f (i + u) (f (i + u) + r + c * wd W i - (f (i + u) + r + c * wd W i).tdiv 1000000000 * 1000000000)) (CI.step h hlt hc (s := f (i + u) + r + c * wd W i) (t := f (i + u) + r + c * wd W i - (f (i + u) + r + c * wd W i).tdiv 1000000000 * 1000000000) (r' := (f (i + u) + r + c * wd W i).tdiv 1000000000) rfl (by omega) (by omega) (by omega) (max n (i + u + 1)) (by omega) (by omega) (by omega)) (by show 232 - (i + 1) < 232 - i; omega) (ent ⟨.refl _, .refl _, .refl _, .refl _, .refl _, .int (by show (i : Int) + 1 = ((i + 1 : Nat) : Int); omega), trivial⟩ ⟨⟨_, rfl, by rw [hmx]; exact .refl _⟩, ⟨_, rfl, .refl _⟩, trivial⟩)
 ·refine wl ?_
  (refine cq_cond rfl ?_ ?_ <;> intro hb <;> (try simp only [zA, zB, zG, zC, zD, zN] at hb) <;> (try (exfalso; omega)))
  ·have hlt : i + u < 232 := (by
    apply Classical.byContradiction
    intro hge
    exact hb (h.end0 zO hR hR2 zO))
   have hq := carry_digit (f (i + u) + r)
   dsimp only at hq
   rw [hB] at hq
   refine wl ?_
   (refine cq_cond rfl ?_ ?_ <;> intro hb <;> (try simp only [zA, zB, zG, zC, zD, zN] at hb) <;> (try (exfalso; omega)))
   refine wl ?_
   (refine cq_cond rfl ?_ ?_ <;> intro hb <;> (try simp only [zA, zB, zG, zC, zD, zN] at hb) <;> (try (exfalso; omega)))
   ·refine wl ?_
    exact sq_round (g := (i, r, n, f)) (i + 1, (f (i + u) + r).tdiv 1000000000 - 1, max n (i + u + 1), upd f (i + u) (f (i + u) + r - (f (i + u) + r).tdiv 1000000000 * 1000000000 + 1000000000)) (CI.step h hlt hc (s := f (i + u) + r) (t := f (i + u) + r - (f (i + u) + r).tdiv 1000000000 * 1000000000 + 1000000000) (r' := (f (i + u) + r).tdiv 1000000000 - 1) (by rw [wd_out (V := W) (i := i) (by omega), Int.mul_zero, Int.add_zero]) (by omega) (by omega) (by omega) (max n (i + u + 1)) (by omega) (by omega) (by omega)) (by show 232 - (i + 1) < 232 - i; omega) (ent ⟨.refl _, .refl _, .refl _, .refl _, .refl _, .int (by show (i : Int) + 1 = ((i + 1 : Nat) : Int); omega), trivial⟩ ⟨⟨_, rfl, by rw [hmx]; exact .refl _⟩, ⟨_, rfl, .refl _⟩, trivial⟩)
   ·refine wl ?_
    exact sq_round (g := (i, r, n, f)) (i + 1, (f (i + u) + r).tdiv 1000000000, max n (i + u + 1), upd f (i + u) (f (i + u) + r - (f (i + u) + r).tdiv 1000000000 * 1000000000)) (CI.step h hlt hc (s := f (i + u) + r) (t := f (i + u) + r - (f (i + u) + r).tdiv 1000000000 * 1000000000) (r' := (f (i + u) + r).tdiv 1000000000) (by rw [wd_out (V := W) (i := i) (by omega), Int.mul_zero, Int.add_zero]) (by omega) (by omega) (by omega) (max n (i + u + 1)) (by omega) (by omega) (by omega)) (by show 232 - (i + 1) < 232 - i; omega) (ent ⟨.refl _, .refl _, .refl _, .refl _, .refl _, .int (by show (i : Int) + 1 = ((i + 1 : Nat) : Int); omega), trivial⟩ ⟨⟨_, rfl, by rw [hmx]; exact .refl _⟩, ⟨_, rfl, .refl _⟩, trivial⟩)
  ·refine wl ?_
   subst hb
   obtain ⟨rfl, hle⟩ := h.fin zO hR hR2
   have ht := trimmed_c b n (nw R) (wd R) hle hn (fun i h _ => wd_out h) (by
    by_cases h0 : R = 0
    ·left; rw [h0, nw_zero]
    ·exact .inr (wd_top h0))
   refine sq_v (v_call_h [] ht rfl ⟨rfl, trivial⟩ rfl) rfl ?_
   refine wl ?_
   exact sq_more (T' := []) (O' := [(1000, .wi b (nw R) (wd R)), (1001, .wi b' (nw W) (wd W))]) (ent trivial zT) (sq_endH0 rfl rfl rfl)
theorem carry_z (b b' : Bool) (V W R u : Nat) (c : Int) (hV : nw V ≤ 232) (hW : nw W + u ≤ 232) (hR2 : nw R ≤ 232) (hc : -999999999 ≤ c ∧ c ≤ 999999999) (hR : (R : Int) = V + c * W * Na.B ^ u) :
  CtrH Tryz.prog 275 [.own 1000 0, .av (wA b' (nw W) (wd W)), .av (vi c), .av (vi u)] [(1000, .wi b (nw V) (wd V))] (.av .any) [(1000, .wi b (nw R) (wd R))] := by
 refine ctrH _ Tryz.func275 rfl rfl Tryz.ntmps275 rfl rfl fun w Z ν => ?_
 refine zU ?_
 refine wl ?_
 refine cq_loop (γ := Nat × Int × Nat × (Nat → Int)) (fun q => [(0, .own 1000 0), (1, .av (wA b' (nw W) (wd W))), (2, .av (vi c)), (3, .av (vi u)), (8, .av (vi q.2.1)), (9, .av (vi q.1))]) (fun q => [(1000, .wi b q.2.2.1 q.2.2.2)]) (fun q => CI V W u c q.1 q.2.1 q.2.2.1 q.2.2.2) (fun q => 232 - q.1) (0, 0, nw V, wd V) (CI.zero hV zO) (ent zS zT) ?_
 rintro ⟨i, r, n, f⟩ h
 dsimp only at h
 have hiu := h.iu
 have hl := h.lo (i + u)
 have hh := h.hi (i + u)
 have hr := h.rest
 have hn := h.nle
 have hw := wd_rng W i
 have hB : Na.B = 1000000000 := rfl
 rw [hB] at hh hr hw
 have p1 : -(999999999 * 999999999) ≤ c * wd W i ∧ c * wd W i ≤ 999999999 * 999999999 := by
  have a1 : c * wd W i ≤ 999999999 * wd W i := Int.mul_le_mul_of_nonneg_right hc.2 hw.1
  have a2 : -999999999 * wd W i ≤ c * wd W i := Int.mul_le_mul_of_nonneg_right hc.1 hw.1
  omega
 have hmx : ((max n (i + u + 1) : Nat) : Int) = if (n : Int) < (i : Int) + u + 1 then (i : Int) + u + 1 else n := by split <;> omega
 dsimp only
 refine wl ?_
 (first | refine sq_split rfl rfl ?_ ?_ | refine dq_split rfl rfl ?_ ?_) <;> intro hb <;> (try simp only [zA, zB, zG, zC, zD, zN] at hb) <;> (try (exfalso; omega))
 ·have hlt : i + u < 232 := by omega
  have hq := carry_digit (f (i + u) + r + c * wd W i)
  dsimp only at hq
  rw [hB] at hq
  refine wl ?_
  (refine cq_cond rfl ?_ ?_ <;> intro hb <;> (try simp only [zA, zB, zG, zC, zD, zN] at hb) <;> (try (exfalso; omega)))
  refine wl ?_
  (refine cq_cond rfl ?_ ?_ <;> intro hb <;> (try simp only [zA, zB, zG, zC, zD, zN] at hb) <;> (try (exfalso; omega)))
  ·refine wl ?_
   exact sq_round (g := (i, r, n, f)) (i + 1, (f (i + u) + r + c * wd W i).tdiv 1000000000 - 1, max n (i + u + 1), upd f (i + u) (f (i + u) + r + c * wd W i - (f (i + u) + r + c * wd W i).tdiv 1000000000 * 1000000000 + 1000000000)) (CI.step h hlt hc (s := f (i + u) + r + c * wd W i) (t := f (i + u) + r + c * wd W i - (f (i + u) + r + c * wd W i).tdiv 1000000000 * 1000000000 + 1000000000) (r' := (f (i + u) + r + c * wd W i).tdiv 1000000000 - 1) rfl (by omega) (by omega) (by omega) (max n (i + u + 1)) (by omega) (by omega) (by omega)) (by show 232 - (i + 1) < 232 - i; omega) (ent ⟨.refl _, .refl _, .refl _, .refl _, .refl _, .int (by show (i : Int) + 1 = ((i + 1 : Nat) : Int); omega), trivial⟩ ⟨⟨_, rfl, by rw [hmx]; exact .refl _⟩, trivial⟩)
  ·refine wl ?_
   exact sq_round (g := (i, r, n, f)) (i + 1, (f (i + u) + r + c * wd W i).tdiv 1000000000, max n (i + u + 1), upd f (i + u) (f (i + u) + r + c * wd W i - (f (i + u) + r + c * wd W i).tdiv 1000000000 * 1000000000)) (CI.step h hlt hc (s := f (i + u) + r + c * wd W i) (t := f (i + u) + r + c * wd W i - (f (i + u) + r + c * wd W i).tdiv 1000000000 * 1000000000) (r' := (f (i + u) + r + c * wd W i).tdiv 1000000000) rfl (by omega) (by omega) (by omega) (max n (i + u + 1)) (by omega) (by omega) (by omega)) (by show 232 - (i + 1) < 232 - i; omega) (ent ⟨.refl _, .refl _, .refl _, .refl _, .refl _, .int (by show (i : Int) + 1 = ((i + 1 : Nat) : Int); omega), trivial⟩ ⟨⟨_, rfl, by rw [hmx]; exact .refl _⟩, trivial⟩)
 ·refine wl ?_
  (refine cq_cond rfl ?_ ?_ <;> intro hb <;> (try simp only [zA, zB, zG, zC, zD, zN] at hb) <;> (try (exfalso; omega)))
  ·have hlt : i + u < 232 := (by
    apply Classical.byContradiction
    intro hge
    exact hb (h.end0 zO hR hR2 zO))
   have hq := carry_digit (f (i + u) + r)
   dsimp only at hq
   rw [hB] at hq
   refine wl ?_
   (refine cq_cond rfl ?_ ?_ <;> intro hb <;> (try simp only [zA, zB, zG, zC, zD, zN] at hb) <;> (try (exfalso; omega)))
   refine wl ?_
   (refine cq_cond rfl ?_ ?_ <;> intro hb <;> (try simp only [zA, zB, zG, zC, zD, zN] at hb) <;> (try (exfalso; omega)))
   ·refine wl ?_
    exact sq_round (g := (i, r, n, f)) (i + 1, (f (i + u) + r).tdiv 1000000000 - 1, max n (i + u + 1), upd f (i + u) (f (i + u) + r - (f (i + u) + r).tdiv 1000000000 * 1000000000 + 1000000000)) (CI.step h hlt hc (s := f (i + u) + r) (t := f (i + u) + r - (f (i + u) + r).tdiv 1000000000 * 1000000000 + 1000000000) (r' := (f (i + u) + r).tdiv 1000000000 - 1) (by rw [wd_out (V := W) (i := i) (by omega), Int.mul_zero, Int.add_zero]) (by omega) (by omega) (by omega) (max n (i + u + 1)) (by omega) (by omega) (by omega)) (by show 232 - (i + 1) < 232 - i; omega) (ent ⟨.refl _, .refl _, .refl _, .refl _, .refl _, .int (by show (i : Int) + 1 = ((i + 1 : Nat) : Int); omega), trivial⟩ ⟨⟨_, rfl, by rw [hmx]; exact .refl _⟩, trivial⟩)
   ·refine wl ?_
    exact sq_round (g := (i, r, n, f)) (i + 1, (f (i + u) + r).tdiv 1000000000, max n (i + u + 1), upd f (i + u) (f (i + u) + r - (f (i + u) + r).tdiv 1000000000 * 1000000000)) (CI.step h hlt hc (s := f (i + u) + r) (t := f (i + u) + r - (f (i + u) + r).tdiv 1000000000 * 1000000000) (r' := (f (i + u) + r).tdiv 1000000000) (by rw [wd_out (V := W) (i := i) (by omega), Int.mul_zero, Int.add_zero]) (by omega) (by omega) (by omega) (max n (i + u + 1)) (by omega) (by omega) (by omega)) (by show 232 - (i + 1) < 232 - i; omega) (ent ⟨.refl _, .refl _, .refl _, .refl _, .refl _, .int (by show (i : Int) + 1 = ((i + 1 : Nat) : Int); omega), trivial⟩ ⟨⟨_, rfl, by rw [hmx]; exact .refl _⟩, trivial⟩)
  ·refine wl ?_
   subst hb
   obtain ⟨rfl, hle⟩ := h.fin zO hR hR2
   have ht := trimmed_c b n (nw R) (wd R) hle hn (fun i h _ => wd_out h) (by
    by_cases h0 : R = 0
    ·left; rw [h0, nw_zero]
    ·exact .inr (wd_top h0))
   refine sq_v (v_call_h [] ht rfl ⟨rfl, trivial⟩ rfl) rfl ?_
   refine wl ?_
   exact sq_more (T' := []) (O' := [(1000, .wi b (nw R) (wd R))]) (ent trivial zT) (sq_endH0 rfl rfl rfl)
end Go.Proofs.YtgepmbjmaljgoaaGreatDoor
