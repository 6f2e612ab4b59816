/- A part of the proof that TouchPlaces returns true at every input and that the input reads behind the call as it read before; this part states nothing of its own that is claimed. -/
import Derived.Test.YtgepmbjmaljgoaaGreatDoorBai
import Derived.Test.YtgepmbjmaljgoaaGreatDoorBaq
import Derived.Test.YtgepmbjmaljgoaaGreatDoorBar
set_option linter.unusedVariables false
set_option linter.unusedSimpArgs false
section
namespace Go.Proofs.YtgepmbjmaljgoaaGreatDoor.H
open Go Go.Vc Go.RowKit Go.Na
theorem trn_par {d u v : Pt} (hd : ¬ (d.x = 0 ∧ d.y = 0)) (h1 : trn d u = 0) (h2 : trn d v = 0) : trn u v = 0 := by
  unfold trn at *
  have e1 : d.x * (u.x * v.y - u.y * v.x) = 0 := by grind
  have e2 : d.y * (u.x * v.y - u.y * v.x) = 0 := by grind
  rcases Int.mul_eq_zero.1 e1 with a | a
  · rcases Int.mul_eq_zero.1 e2 with b | b
    · exact absurd ⟨a, b⟩ hd
    · exact b
  · exact a
theorem coll_all {l : List Pt} (h : collB l = true) : ∀ i, i < l.length → ∀ j, j < l.length → ∀ k, k < l.length → crs (gp l i) (gp l j) (gp l k) = 0 := by
  unfold collB at h
  split at h
  · rename_i hf
    have hall : ∀ k, k < l.length → gp l k = gp l 0 := fun k hk => by
      have := List.find?_eq_none.1 hf k (List.mem_range.2 hk)
      simpa using this
    intro i hi j hj k hk
    rw [hall i hi, hall j hj, hall k hk]
    unfold crs trn sub; grind
  · rename_i m hf
    have hm := List.find?_some hf
    have hne : gp l m ≠ gp l 0 := by simpa using hm
    have hall : ∀ i, i < l.length → trn (sub (gp l m) (gp l 0)) (sub (gp l i) (gp l 0)) = 0 := fun i hi => by
      have := List.all_eq_true.1 h i (List.mem_range.2 hi)
      simpa using this
    intro i hi j hj k hk
    have a1 := hall i hi
    have a2 := hall j hj
    have a3 := hall k hk
    refine trn_par (d := sub (gp l m) (gp l 0)) ?_ ?_ ?_
    · rintro ⟨e1, e2⟩
      apply hne
      unfold sub at e1 e2
      dsimp only at e1 e2
      generalize gp l m = a at *
      generalize gp l 0 = b at *
      obtain ⟨ax, ay⟩ := a
      obtain ⟨bx, by'⟩ := b
      dsimp only at e1 e2
      rw [show ax = bx by omega, show ay = by' by omega]
    · unfold trn sub at *; dsimp only at *; grind
    · unfold trn sub at *; dsimp only at *; grind
theorem str_of_coll {l : List Pt} (h : collB l = true) : strB l = true := by
  have key := coll_all h
  unfold strB
  simp only [List.all_eq_true, List.mem_range, decide_eq_true_eq]
  intro i hi j hj k hk
  exact key i hi j (by omega) k (by omega)
theorem coll_of_str {l : List Pt} (h : strB l = true) : collB l = true := by
  unfold strB at h
  simp only [List.all_eq_true, List.mem_range, decide_eq_true_eq] at h
  unfold collB
  split
  · rfl
  · rename_i m hf
    have hf' := List.find?_range_eq_some.1 hf
    obtain ⟨hm, hml, hbef⟩ := hf'
    have hne : gp l m ≠ gp l 0 := by simpa using hm
    have hb : ∀ j, j < m → gp l j = gp l 0 := fun j hj => by simpa using hbef j hj
    rw [List.all_eq_true]
    intro i hi
    rw [decide_eq_true_eq]
    rcases Nat.lt_trichotomy i m with h1 | h1 | h1
    · rw [hb i h1]; unfold trn sub; grind
    · subst h1; unfold trn sub; grind
    · have h0 : 0 < m := Nat.pos_of_ne_zero fun e => hne (by rw [e])
      have := h i (List.mem_range.1 hi) m h1 0 h0
      unfold crs trn sub at this
      unfold trn sub
      dsimp only at *
      grind
theorem coll_str (l : List Pt) : strB l = collB l := by
  cases h : collB l with
  | true => exact str_of_coll h
  | false =>
    cases h2 : strB l with
    | false => rfl
    | true => rw [coll_of_str h2] at h; cases h
theorem LR.add' {k l : Nat} {q r : Rat} (h : LR k q) (h' : LR l r) : LR (k + l + 1) (q + r) := by
  rw [add_eq]
  exact divInt_LR (by have := q.den_nz; have := r.den_nz; simp; omega) ((h.1.mul h'.2).add ((h'.1.mul h.2).mono (by omega))) ((h.2.mul h'.2).mono (by omega))
theorem LR.mul' {k l : Nat} {q r : Rat} (h : LR k q) (h' : LR l r) : LR (k + l) (q * r) := by
  rw [mul_eq]
  exact divInt_LR (by have := q.den_nz; have := r.den_nz; simp; omega) (h.1.mul h'.1) (h.2.mul h'.2)
theorem LR_small {x : Int} (hx : -100000 ≤ x ∧ x ≤ 100000) : LR 6 (x : Rat) := LR.int (k := 6) (show x.natAbs < 10 ^ 6 by omega) (by decide)
theorem LR_divInt19 {n d : Int} (hn : -9000000000000000000 ≤ n ∧ n ≤ 9000000000000000000) (hd : -9000000000000000000 ≤ d ∧ d ≤ 9000000000000000000) (h0 : d ≠ 0) : LR 19 (Rat.divInt n d) := by
  have l : ∀ x : Int, -9000000000000000000 ≤ x ∧ x ≤ 9000000000000000000 → LI 19 x := fun x hx => (show x.natAbs < 10 ^ 19 by omega)
  exact divInt_LR h0 (l _ hn) (l _ hd)
theorem thrs_at {l : List Tr} {k : Nat} {P : Pl} (h : P ∈ thrs l k) : ∃ a b c, cz (nvP (gt l a) (gt l b) (gt l c)) k ≠ 0 ∧ P.A = aP l k a b c ∧ P.B = bP l k a b c ∧ P.C = cP l k a b c := by
  obtain ⟨⟨a, b, c⟩, _, h⟩ := List.mem_filterMap.1 h
  have h' : thr l k a b c = some P := h
  unfold thr at h'
  split at h'
  · cases h'
  · rename_i hz
    unfold mkP at h'
    split at h'
    · cases h'
    · injection h' with h'
      subst h'
      exact ⟨a, b, c, hz, rfl, rfl, rfl⟩
theorem thrs_LR19 {l : List Tr} (hl : RT l) {k : Nat} {P : Pl} (h : P ∈ thrs l k) : LR 19 P.A ∧ LR 19 P.B ∧ LR 19 P.C := by
  obtain ⟨a, b, c, hz, eA, eB, eC⟩ := thrs_at h
  rw [eA, eB, eC]
  have hn := BT.np hl k a b c
  have h1 := hn.cz k
  have h2 := hn.cz (ou k)
  have h3 := hn.cz (ov k)
  have h4 : cz (nP l k a b c) k ≠ 0 := by have := upP_pos (k := k) (n := nvP (gt l a) (gt l b) (gt l c)) hz; unfold nP; omega
  refine ⟨LR_divInt19 ?_ (by omega) h4, LR_divInt19 (by omega) (by omega) h4, LR_divInt19 (by omega) (by omega) h4⟩
  unfold mP
  have hm := bt_dot hn (hl a)
  omega
theorem hgt_LR {l : List Tr} (hl : RT l) {k : Nat} (hk : k < 3) {P : Pl} (h : P ∈ thrs l k) {p : Tr} (hp : BT 100000 p) : LR 19 (hgt k P.A P.B P.C p) := by
  obtain ⟨a, b, c, hz, eA, eB, eC⟩ := thrs_at h
  rw [eA, eB, eC, hgt_eq hk hz, ← divInt_cast]
  have hn := BT.np hl k a b c
  have h1 := hn.cz k
  have h4 : cz (nP l k a b c) k ≠ 0 := by have := upP_pos (k := k) (n := nvP (gt l a) (gt l b) (gt l c)) hz; unfold nP; omega
  refine LR_divInt19 ?_ (by omega) h4
  unfold mP
  have hm := bt_dot hn (hl a)
  have hq := bt_dot hn hp
  omega
theorem cand_thrs {l : List Tr} {k : Nat} {P : Pl} (h : P ∈ candP l k) : P ∈ thrs l k := ((cand_ok l k).2 P).1 h
theorem cand_up {l : List Tr} {k : Nat} {P : Pl} (h : P ∈ thrs l k) {i : Nat} (hi : i < l.length) : 0 ≤ hgt k P.A P.B P.C (gt l i) := by
  have h1 := thr_s h
  unfold mkP at h1
  split at h1
  · cases h1
  · rename_i hl
    by_cases h3 : hgt k P.A P.B P.C (gt l i) < 0
    · exfalso; apply hl
      unfold lowB
      rw [List.any_eq_true]
      exact ⟨i, List.mem_range.2 hi, by simpa using h3⟩
    · grind
theorem cand_on_iff {l : List Tr} {k : Nat} {P : Pl} (h : P ∈ thrs l k) {i : Nat} (hi : i < l.length) : i ∈ P.s ↔ hgt k P.A P.B P.C (gt l i) = 0 := by
  have h1 := thr_s h
  unfold mkP at h1
  split at h1
  · cases h1
  · injection h1 with h1
    rw [← h1]
    show i ∈ onL _ _ _ _ _ _ ↔ _
    unfold onL
    rw [List.mem_filter, List.mem_range]
    simp [hi]
def tsum (c : Nat → Int) (t : Nat → Rat) : Nat → Rat
  | 0 => 0
  | i + 1 => tsum c t i + (c i : Rat) * t i
def frm (k : Nat) (p : Tr) : Nat → Int := match k with
  | 0 => fun i => match i with | 0 => 1 | 4 => p.z | 5 => -p.y | _ => 0
  | 1 => fun i => match i with | 1 => 1 | 3 => -p.z | 5 => p.x | _ => 0
  | _ => fun i => match i with | 2 => 1 | 3 => p.y | 4 => -p.x | _ => 0
def tor6 (k : Nat) (o : Int) (A B C : Rat) : Nat → Rat := match k with
  | 0 => fun i => match i with | 0 => o - A | 4 => -C | 5 => B | _ => 0
  | 1 => fun i => match i with | 1 => o - A | 3 => C | 5 => -B | _ => 0
  | _ => fun i => match i with | 2 => o - A | 3 => -C | 4 => B | _ => 0
theorem tor6_LR {k : Nat} {o : Int} {A B C : Rat} (ho : -100000 ≤ o ∧ o ≤ 100000) (hA : LR 19 A) (hB : LR 19 B) (hC : LR 19 C) (i : Nat) : LR 43 (tor6 k o A B C i) := by
  have h0 : LR 43 (0 : Rat) := by have := LR.int (k := 43) (m := 0) (show (0 : Int).natAbs < 10 ^ 43 by decide) (by decide); simpa using this
  have h1 : LR 43 ((o : Rat) - A) := by
    have := (LR_small ho).mono (l := 19) (by decide)
    exact (this.sub hA).mono (by decide)
  have h2 := hB.mono (l := 43) (by decide)
  have h3 := hC.mono (l := 43) (by decide)
  have h4 := h2.neg
  have h5 := h3.neg
  unfold tor6
  split <;> dsimp only <;> split <;> assumption
theorem moved_eq {k : Nat} (hk : k < 3) (o : Int) (A B C : Rat) (p : Tr) : (cz p k : Rat) + tsum (frm k p) (tor6 k o A B C) 6 = (o : Rat) + hgt k A B C p := by
  rcases (by omega : k = 0 ∨ k = 1 ∨ k = 2) with rfl | rfl | rfl
  · simp only [tsum, frm, tor6, hgt, cz, plc, ou, ov]
    simp only [Rat.intCast_neg]
    grind
  · simp only [tsum, frm, tor6, hgt, cz, plc, ou, ov]
    simp only [Rat.intCast_neg]
    grind
  · simp only [tsum, frm, tor6, hgt, cz, plc, ou, ov]
    simp only [Rat.intCast_neg]
    grind
theorem frm_sm (k : Nat) {p : Tr} (hp : BT 100000 p) (i : Nat) : -100000 ≤ frm k p i ∧ frm k p i ≤ 100000 := by
  have h1 := hp.x
  have h2 := hp.y
  have h3 := hp.z
  unfold frm
  split <;> dsimp only <;> split <;> omega
theorem tsum_LR {c : Nat → Int} {t : Nat → Rat} (hc : ∀ i, -100000 ≤ c i ∧ c i ≤ 100000) (ht : ∀ i, LR 43 (t i)) : ∀ i, LR (50 * i + 1) (tsum c t i)
  | 0 => by have := LR.int (k := 1) (m := 0) (show (0 : Int).natAbs < 10 ^ 1 by decide) (by decide); simpa [tsum] using this
  | i + 1 => LR.mono (LR.add' (tsum_LR hc ht i) (LR.mul' (LR_small (hc i)) (ht i))) (by omega)
end Go.Proofs.YtgepmbjmaljgoaaGreatDoor.H
end
section
namespace Go.Proofs.YtgepmbjmaljgoaaGreatDoor.H
open Go Go.Vc Go.RowKit Go.Na Go.Lib
set_option maxHeartbeats 4000000
abbrev c6 (c : Nat → Int) : AV := .val (.agg #[.int .i64 (c 0), .int .i64 (c 1), .int .i64 (c 2), .int .i64 (c 3), .int .i64 (c 4), .int .i64 (c 5)])
abbrev t6 (t : Nat → Rat) : AV := torV [sv (rtx (t 0)), sv (rtx (t 1)), sv (rtx (t 2)), sv (rtx (t 3)), sv (rtx (t 4)), sv (rtx (t 5))]
theorem LR.len' {k : Nat} {q : Rat} (h : LR k q) (hk : 0 < k) : (rtx q).length ≤ 2 * k + 2 := by
  have h1 := h.1.len hk
  have h2 := h.2.len hk
  have h3 : (itoa q.num).length ≤ k + 1 := by
    by_cases hn : q.num < 0
    · rw [itoa_neg hn]; simp; omega
    · rw [itoa_pos hn]; omega
  unfold rtx
  split
  · omega
  · rw [List.length_append, List.length_cons]
    rw [Int.natAbs_natCast] at h2
    omega
theorem tcoord_c (p : Tr) : CtrA Tryz.prog 77 [tp p] (tp p) := by
  refine ctrA _ Tryz.func77 rfl rfl Tryz.ntmps77 rfl fun w Z => ?_
  simp only [initT, zP, zQ, Nat.zero_add, Nat.reduceAdd]
  refine wt ?_
  exact sq_res1 rfl (.agg (us := [_, _, _]) rfl rfl rfl rfl) rfl
theorem form_c (p : Tr) {k : Nat} (hk : k < 3) (hp : BT 100000 p) : CtrA Tryz.prog 79 [vi (k : Int), tp p] (c6 (frm k p)) := by
  have h := tcoord_c p
  have h1 := hp.x
  have h2 := hp.y
  have h3 := hp.z
  rcases (by omega : k = 0 ∨ k = 1 ∨ k = 2) with rfl | rfl | rfl
  · refine ctrA _ Tryz.func79 rfl rfl Tryz.ntmps79 rfl fun w Z => ?_
    simp only [initT, zP, zQ, Nat.zero_add, Nat.reduceAdd]
    refine wt ?_
    refine sq_g (g_load_own_agg (us := [.int .i64 (frm 0 p 0), .int .i64 (frm 0 p 1), .int .i64 (frm 0 p 2), .int .i64 (frm 0 p 3), .int .i64 (frm 0 p 4), .int .i64 (frm 0 p 5)]) rfl rfl rfl rfl) rfl ?_
    refine wt ?_
    exact sq_res1 rfl (.agg (us := [.int .i64 (frm 0 p 0), .int .i64 (frm 0 p 1), .int .i64 (frm 0 p 2), .int .i64 (frm 0 p 3), .int .i64 (frm 0 p 4), .int .i64 (frm 0 p 5)]) rfl rfl rfl rfl) rfl
  · refine ctrA _ Tryz.func79 rfl rfl Tryz.ntmps79 rfl fun w Z => ?_
    simp only [initT, zP, zQ, Nat.zero_add, Nat.reduceAdd]
    refine wt ?_
    refine sq_g (g_load_own_agg (us := [.int .i64 (frm 1 p 0), .int .i64 (frm 1 p 1), .int .i64 (frm 1 p 2), .int .i64 (frm 1 p 3), .int .i64 (frm 1 p 4), .int .i64 (frm 1 p 5)]) rfl rfl rfl rfl) rfl ?_
    refine wt ?_
    exact sq_res1 rfl (.agg (us := [.int .i64 (frm 1 p 0), .int .i64 (frm 1 p 1), .int .i64 (frm 1 p 2), .int .i64 (frm 1 p 3), .int .i64 (frm 1 p 4), .int .i64 (frm 1 p 5)]) rfl rfl rfl rfl) rfl
  · refine ctrA _ Tryz.func79 rfl rfl Tryz.ntmps79 rfl fun w Z => ?_
    simp only [initT, zP, zQ, Nat.zero_add, Nat.reduceAdd]
    refine wt ?_
    refine sq_g (g_load_own_agg (us := [.int .i64 (frm 2 p 0), .int .i64 (frm 2 p 1), .int .i64 (frm 2 p 2), .int .i64 (frm 2 p 3), .int .i64 (frm 2 p 4), .int .i64 (frm 2 p 5)]) rfl rfl rfl rfl) rfl ?_
    refine wt ?_
    exact sq_res1 rfl (.agg (us := [.int .i64 (frm 2 p 0), .int .i64 (frm 2 p 1), .int .i64 (frm 2 p 2), .int .i64 (frm 2 p 3), .int .i64 (frm 2 p 4), .int .i64 (frm 2 p 5)]) rfl rfl rfl rfl) rfl
theorem ti123_0 (a b c d e f : Int) (w : World) : (Instr.index 123 (.agg #[.int .i64 a, .int .i64 b, .int .i64 c, .int .i64 d, .int .i64 e, .int .i64 f]) (.int .i64 0)).run Tryz.prog w = .ok (.int .i64 a) w := by kernel_rfl
theorem ti123_1 (a b c d e f : Int) (w : World) : (Instr.index 123 (.agg #[.int .i64 a, .int .i64 b, .int .i64 c, .int .i64 d, .int .i64 e, .int .i64 f]) (.int .i64 1)).run Tryz.prog w = .ok (.int .i64 b) w := by kernel_rfl
theorem ti123_2 (a b c d e f : Int) (w : World) : (Instr.index 123 (.agg #[.int .i64 a, .int .i64 b, .int .i64 c, .int .i64 d, .int .i64 e, .int .i64 f]) (.int .i64 2)).run Tryz.prog w = .ok (.int .i64 c) w := by kernel_rfl
theorem ti123_3 (a b c d e f : Int) (w : World) : (Instr.index 123 (.agg #[.int .i64 a, .int .i64 b, .int .i64 c, .int .i64 d, .int .i64 e, .int .i64 f]) (.int .i64 3)).run Tryz.prog w = .ok (.int .i64 d) w := by kernel_rfl
theorem ti123_4 (a b c d e f : Int) (w : World) : (Instr.index 123 (.agg #[.int .i64 a, .int .i64 b, .int .i64 c, .int .i64 d, .int .i64 e, .int .i64 f]) (.int .i64 4)).run Tryz.prog w = .ok (.int .i64 e) w := by kernel_rfl
theorem ti123_5 (a b c d e f : Int) (w : World) : (Instr.index 123 (.agg #[.int .i64 a, .int .i64 b, .int .i64 c, .int .i64 d, .int .i64 e, .int .i64 f]) (.int .i64 5)).run Tryz.prog w = .ok (.int .i64 f) w := by kernel_rfl
theorem ti123 (c : Nat → Int) {i : Nat} (hi : i < 6) (w : World) : (Instr.index 123 (.agg #[.int .i64 (c 0), .int .i64 (c 1), .int .i64 (c 2), .int .i64 (c 3), .int .i64 (c 4), .int .i64 (c 5)]) (.int .i64 (i : Int))).run Tryz.prog w = .ok (.int .i64 (c i)) w := by
  rcases (by omega : i = 0 ∨ i = 1 ∨ i = 2 ∨ i = 3 ∨ i = 4 ∨ i = 5) with rfl | rfl | rfl | rfl | rfl | rfl
  · exact ti123_0 _ _ _ _ _ _ _
  · exact ti123_1 _ _ _ _ _ _ _
  · exact ti123_2 _ _ _ _ _ _ _
  · exact ti123_3 _ _ _ _ _ _ _
  · exact ti123_4 _ _ _ _ _ _ _
  · exact ti123_5 _ _ _ _ _ _ _
theorem tb125' (a b c d e f : ByteArray) : Tryz.prog.built 125 [(0, .string a), (1, .string b), (2, .string c), (3, .string d), (4, .string e), (5, .string f)] = some #[.string a, .string b, .string c, .string d, .string e, .string f] := by kernel_rfl
theorem numbers_c (t : Nat → Rat) : CtrA Tryz.prog 80 [t6 t] (t6 t) := by
  refine ctrA _ Tryz.func80 rfl rfl Tryz.ntmps80 rfl fun w Z => ?_
  simp only [initT, zP, zQ, Nat.zero_add, Nat.reduceAdd]
  refine wt ?_
  refine sq_g (g_build (t := 125) (is := [0, 1, 2, 3, 4, 5]) (xs := [_, _, _, _, _, _]) (vs := [sv (rtx (t 0)), sv (rtx (t 1)), sv (rtx (t 2)), sv (rtx (t 3)), sv (rtx (t 4)), sv (rtx (t 5))]) (tb125' _ _ _ _ _ _) rfl rfl) rfl ?_
  refine wt ?_
  exact sq_res1 rfl (.agg (us := [sv (rtx (t 0)), sv (rtx (t 1)), sv (rtx (t 2)), sv (rtx (t 3)), sv (rtx (t 4)), sv (rtx (t 5))]) rfl rfl rfl rfl) rfl
theorem canonical_c (t : Nat → Rat) (ht : ∀ i, LR 43 (t i)) : CtrA Tryz.prog 137 [.sl 6 1 (fun i _ => vR (t i))] (vi 0) := by
  refine ctrA _ Tryz.func137 rfl rfl Tryz.ntmps137 rfl fun w Z => ?_
  simp only [initT, zP, zQ, Nat.zero_add, Nat.reduceAdd]
  refine wt ?_
  refine cq_loop (γ := Nat) (fun i => [(6, .av (.sl 6 1 (fun i _ => vR (t i)))), (7, .av (vi 6)), (8, .av (vi i))]) (fun _ => []) (fun i => i ≤ 6) (fun i => 6 - i) 0 (by omega) (ent ⟨.refl _, .refl _, .refl _, trivial⟩ trivial) ?_
  intro i hi
  refine wt ?_
  (refine cq_cond rfl (fun hb => ?_) (fun hb => ?_) <;> (try simp only [zA, zB, zC, zD, zE, zF, zG, zH, zI, zJ, zK, zL, zM, zN, zO] at hb) <;> (try (exfalso; omega)))
  · have hil : i < 6 := by omega
    have hc := Go.Proofs.YtgepmbjmaljgoaaGreatDoor.ratcheck_c (t i) ((ht i).mono (by decide))
    refine wt ?_
    exact sq_round (i + 1) (by omega) (by omega) (ent ⟨.refl _, .refl _, .int (by omega), trivial⟩ trivial)
  · refine wt ?_
    exact sq_res1 rfl (.tmp rfl) rfl
theorem tcheck_c (t : Nat → Rat) (ht : ∀ i, LR 43 (t i)) : CtrA Tryz.prog 76 [t6 t] (vi 0) := by
  have h1 := numbers_c t
  have h2 := canonical_c t ht
  refine ctrA _ Tryz.func76 rfl rfl Tryz.ntmps76 rfl fun w Z => ?_
  simp only [initT, zP, zQ, Nat.zero_add, Nat.reduceAdd]
  refine wt ?_
  refine sq_g (g_load_agg (us := [sv (rtx (t 0)), sv (rtx (t 1)), sv (rtx (t 2)), sv (rtx (t 3)), sv (rtx (t 4)), sv (rtx (t 5))]) rfl rfl rfl rfl) rfl ?_
  refine wt ?_
  refine lsq_more (ent_freezec 3 10 (fun i => vR (t i)) rfl rfl rfl) ?_
  refine sq_g (g_slice_arr (n := 6) (f := fun i => vR (t i)) rfl (by decide) (by decide)) rfl ?_
  refine wt ?_
  exact sq_res1 rfl (.tmp rfl) rfl
theorem times_c (c : Nat → Int) (t : Nat → Rat) (hc : ∀ i, -100000 ≤ c i ∧ c i ≤ 100000) (ht : ∀ i, LR 43 (t i)) : CtrA Tryz.prog 78 [c6 c, t6 t] (tupOf [vR (tsum c t 6), vi 0]) := by
  refine ctrA _ Tryz.func78 rfl rfl Tryz.ntmps78 rfl fun w Z => ?_
  simp only [initT, zP, zQ, Nat.zero_add, Nat.reduceAdd]
  refine wt ?_
  refine sq_g (g_load_agg (us := [.int .i64 (c 0), .int .i64 (c 1), .int .i64 (c 2), .int .i64 (c 3), .int .i64 (c 4), .int .i64 (c 5)]) rfl rfl rfl rfl) rfl ?_
  refine wt ?_
  refine cq_more (ent_ptr 3 (f' := fun i => vR (t i)) rfl (fun i hi => by
    have hi : i < 6 := hi
    rcases (by omega : i = 0 ∨ i = 1 ∨ i = 2 ∨ i = 3 ∨ i = 4 ∨ i = 5) with rfl | rfl | rfl | rfl | rfl | rfl <;> rfl)) ?_
  refine cq_loop (γ := Nat) (fun i => [(3, .av (.ptr 6 (fun i => vR (t i)))), (6, .av (vR (tsum c t i))), (11, .av (c6 c)), (12, .av (vi i))]) (fun _ => []) (fun i => i ≤ 6) (fun i => 6 - i) 0 (by omega) (ent ⟨.refl _, by show SLe (.av (.val (.string ⟨#[48]⟩))) (.av (vS (rtx 0))); rw [rtx_0]; exact .refl _, .refl _, .refl _, trivial⟩ trivial) ?_
  intro i hi
  refine wt ?_
  (refine cq_cond rfl (fun hb => ?_) (fun hb => ?_) <;> (try simp only [zA, zB, zC, zD, zE, zF, zG, zH, zI, zJ, zK, zL, zM, zN, zO] at hb) <;> (try (exfalso; omega)))
  · have hil : i < 6 := by omega
    have l1 := LR_small (hc i)
    have l2 := ht i
    have l3 := tsum_LR hc ht i
    have l4 := LR.mul' l1 l2
    have q1 := rat_whole (c i) (by have := hc i; omega)
    have q2 := rat_mul (c i : Rat) (t i) (l1.mono (by decide)) (l2.mono (by decide))
    have q3 := rat_add (tsum c t i) ((c i : Rat) * t i) (LR.mono l3 (by omega)) (LR.mono l4 (by decide))
    refine wt ?_
    refine sq_g (g_aindex (ti123 c hil) rfl rfl) rfl ?_
    refine wt ?_
    rw [show i * 1 + 0 = i by omega]
    refine wt ?_
    exact sq_round (i + 1) (by omega) (by omega) (ent ⟨.refl _, .refl _, .refl _, .int (by omega), trivial⟩ trivial)
  · have hil : i = 6 := by omega
    subst hil
    refine wt ?_
    exact sq_resN (rvs := [_, _]) (τs := [_, _]) rfl rfl ⟨.tmp rfl, .tmp rfl, trivial⟩ rfl
end Go.Proofs.YtgepmbjmaljgoaaGreatDoor.H
end
section
namespace Go.Proofs.YtgepmbjmaljgoaaGreatDoor.H
open Go Go.Vc Go.RowKit
open Go.Na (rtx LR chkR_rtx chkR rsg)
set_option maxHeartbeats 4000000
def appQ (t : Nat → Rat) (p : Tr) (k : Nat) : Rat := (cz p k : Rat) + tsum (frm k p) t 6
abbrev app3 (t : Nat → Rat) (p : Tr) : AV := .val (.agg #[sv (rtx (appQ t p 0)), sv (rtx (appQ t p 1)), sv (rtx (appQ t p 2))])
def appC (t : Nat → Rat) (p : Tr) : Nat → List SV
  | 0 => [.av (vS []), .av (vS []), .av (vS [])]
  | 1 => [.av (vR (appQ t p 0)), .av (vS []), .av (vS [])]
  | 2 => [.av (vR (appQ t p 0)), .av (vR (appQ t p 1)), .av (vS [])]
  | _ => [.av (vR (appQ t p 0)), .av (vR (appQ t p 1)), .av (vR (appQ t p 2))]
theorem apply_c (t : Nat → Rat) (p : Tr) (hp : BT 100000 p) (ht : ∀ i, LR 43 (t i)) : CtrA Tryz.prog 34 [t6 t, tp p] (tupOf [app3 t p, vi 0]) := by
  have h1 := tcheck_c t ht
  have h2 := scheck_c [p]
  have hr : rightT p = true := by
    have := hp.x; have := hp.y; have := hp.z
    unfold rightT inB; simp only [Bool.and_eq_true, decide_eq_true_eq]; omega
  rw [chkT1, if_pos hr] at h2
  have h3 := tcoord_c p
  have h4 := numbers_c t
  refine ctrA _ Tryz.func34 rfl rfl Tryz.ntmps34 rfl fun w Z => ?_
  simp only [initT, zP, zQ, Nat.zero_add, Nat.reduceAdd]
  refine wt ?_
  refine sq_g (g_load_agg (us := [sv (rtx (t 0)), sv (rtx (t 1)), sv (rtx (t 2)), sv (rtx (t 3)), sv (rtx (t 4)), sv (rtx (t 5))]) rfl rfl rfl rfl) rfl ?_
  refine wt ?_
  refine sq_g (g_bslice (is := [0]) (xs := [_]) (vs := [_]) (us := [.int .i64 p.x, .int .i64 p.y, .int .i64 p.z]) (row := tf [p]) (tq22 p) rfl rfl rfl (tf1_ok p)) rfl ?_
  refine wt ?_
  refine cq_loop (γ := Nat) (fun i => [(2, .av (.ptr 6 (fun i => .val (([sv (rtx (t 0)), sv (rtx (t 1)), sv (rtx (t 2)), sv (rtx (t 3)), sv (rtx (t 4)), sv (rtx (t 5))] : List Value).getD i undef)))), (3, .av (.ptr 3 (fun i => .val (([.int .i64 p.x, .int .i64 p.y, .int .i64 p.z] : List Value).getD i undef)))), (4, .own 10 0), (5, .av (vi 0)), (8, .own 11 0), (27, .av (tp p)), (28, .av (vi i))])
    (fun i => [(10, .cells [.av (vS []), .av (vS []), .av (vS [])]), (11, .cells (appC t p i))]) (fun i => i ≤ 3) (fun i => 3 - i) 0 (by omega)
    (ent ⟨.refl _, .refl _, .refl _, .refl _, .refl _, .refl _, .refl _, trivial⟩ ⟨⟨_, rfl, .refl _⟩, ⟨_, rfl, .refl _⟩, trivial⟩) ?_
  rintro i hi
  match i, hi with
  | 0, _ =>
    have hf := form_c p (k := 0) (by decide) hp
    have hz := hp.cz 0
    have hw := rat_whole (cz p 0) (by omega)
    have hsm := frm_sm 0 hp
    have htm := times_c (frm 0 p) t hsm ht
    have hts := tsum_LR hsm ht 6
    have had := rat_add (cz p 0 : Rat) (tsum (frm 0 p) t 6) (Go.Na.LR.mono (LR_small hz) (by decide)) (Go.Na.LR.mono hts (by decide))
    refine wt ?_
    refine sq_g (g_aindex (ti87 p (k := 0) (by decide)) rfl rfl) rfl ?_
    refine wt ?_
    refine dq_g (g_load_agg (us := [sv (rtx (t 0)), sv (rtx (t 1)), sv (rtx (t 2)), sv (rtx (t 3)), sv (rtx (t 4)), sv (rtx (t 5))]) rfl rfl rfl rfl) rfl ?_
    refine wt ?_
    exact sq_round 1 (by omega) (by omega) (ent ⟨.refl _, .refl _, .refl _, .refl _, .refl _, .refl _, .refl _, trivial⟩ ⟨⟨_, rfl, .refl _⟩, ⟨_, rfl, .refl _⟩, trivial⟩)
  | 1, _ =>
    have hf := form_c p (k := 1) (by decide) hp
    have hz := hp.cz 1
    have hw := rat_whole (cz p 1) (by omega)
    have hsm := frm_sm 1 hp
    have htm := times_c (frm 1 p) t hsm ht
    have hts := tsum_LR hsm ht 6
    have had := rat_add (cz p 1 : Rat) (tsum (frm 1 p) t 6) (Go.Na.LR.mono (LR_small hz) (by decide)) (Go.Na.LR.mono hts (by decide))
    refine wt ?_
    refine sq_g (g_aindex (ti87 p (k := 1) (by decide)) rfl rfl) rfl ?_
    refine wt ?_
    refine dq_g (g_load_agg (us := [sv (rtx (t 0)), sv (rtx (t 1)), sv (rtx (t 2)), sv (rtx (t 3)), sv (rtx (t 4)), sv (rtx (t 5))]) rfl rfl rfl rfl) rfl ?_
    refine wt ?_
    exact sq_round 2 (by omega) (by omega) (ent ⟨.refl _, .refl _, .refl _, .refl _, .refl _, .refl _, .refl _, trivial⟩ ⟨⟨_, rfl, .refl _⟩, ⟨_, rfl, .refl _⟩, trivial⟩)
  | 2, _ =>
    have hf := form_c p (k := 2) (by decide) hp
    have hz := hp.cz 2
    have hw := rat_whole (cz p 2) (by omega)
    have hsm := frm_sm 2 hp
    have htm := times_c (frm 2 p) t hsm ht
    have hts := tsum_LR hsm ht 6
    have had := rat_add (cz p 2 : Rat) (tsum (frm 2 p) t 6) (Go.Na.LR.mono (LR_small hz) (by decide)) (Go.Na.LR.mono hts (by decide))
    refine wt ?_
    refine sq_g (g_aindex (ti87 p (k := 2) (by decide)) rfl rfl) rfl ?_
    refine wt ?_
    refine dq_g (g_load_agg (us := [sv (rtx (t 0)), sv (rtx (t 1)), sv (rtx (t 2)), sv (rtx (t 3)), sv (rtx (t 4)), sv (rtx (t 5))]) rfl rfl rfl rfl) rfl ?_
    refine wt ?_
    exact sq_round 3 (by omega) (by omega) (ent ⟨.refl _, .refl _, .refl _, .refl _, .refl _, .refl _, .refl _, trivial⟩ ⟨⟨_, rfl, .refl _⟩, ⟨_, rfl, .refl _⟩, trivial⟩)
  | 3, _ =>
    refine wt ?_
    refine sq_g (g_load_own_agg (us := [sv (rtx (appQ t p 0)), sv (rtx (appQ t p 1)), sv (rtx (appQ t p 2))]) rfl rfl rfl rfl) rfl ?_
    refine wt ?_
    exact sq_resN (rvs := [_, _]) (τs := [_, _]) rfl rfl ⟨.agg (us := [sv (rtx (appQ t p 0)), sv (rtx (appQ t p 1)), sv (rtx (appQ t p 2))]) rfl rfl rfl rfl, .tmp rfl, trivial⟩ rfl
  | i + 4, hi => omega
theorem brief_c (q : Rat) (hq : LR 90 q) : CtrA Tryz.prog 35 [vR q] (vb true) := by
  have hl := LR.len' hq (by decide)
  have h1 := refrcheck_c (rtx q) (by omega)
  rw [chkR_rtx] at h1
  refine ctrA _ Tryz.func35 rfl rfl Tryz.ntmps35 rfl fun w Z => ?_
  simp only [initT, zP, zQ, Nat.zero_add, Nat.reduceAdd]
  (refine wt ?_; repeat' (((first | refine sq_split rfl rfl (fun hb => ?_) (fun hb => ?_) | refine dq_split rfl rfl (fun hb => ?_) (fun hb => ?_)) <;> (try simp only [zA, zB, zC, zD, zE, zF, zG, zH, zI, zJ, zK, zL, zM, zN, zO] at hb) <;> (try (exfalso; omega))) <;> refine wt ?_))
  exact sq_res1 rfl (.tmp rfl) rfl
def rgtB (l : List Tr) (k : Nat) : Bool := fewB l && (decide (chkT l = 0) && !strB (plcs l k))
theorem chk_plcs {l : List Tr} (hl : RT l) (h : l.length ≤ 64) (k : Nat) : chk (plcs l k) = 0 := by
  unfold chk
  rw [if_neg (by rw [plcs_len]; omega), if_pos]
  rw [List.all_eq_true]
  intro p hp
  obtain ⟨q, hq, rfl⟩ := List.mem_map.1 hp
  obtain ⟨i, hi, rfl⟩ := List.getElem_of_mem hq
  have e : l[i] = gt l i := by simp [gt, hi, List.getD]
  rw [e]
  have h1 := (hl i).cz (ou k)
  have h2 := (hl i).cz (ov k)
  unfold rightB inB plc
  simp only [Bool.and_eq_true, decide_eq_true_eq]
  omega
theorem right_c (l : List Tr) {k : Nat} (hk : k < 3) : CtrA Tryz.prog 28 [ts l, vi (k : Int)] (vb (rgtB l k)) := by
  have h1 := fews_c l
  unfold rgtB
  cases hf : fewB l with
  | false =>
    rw [hf] at h1
    refine ctrA _ Tryz.func28 rfl rfl Tryz.ntmps28 rfl fun w Z => ?_
    simp only [initT, zP, zQ, Nat.zero_add, Nat.reduceAdd]
    refine wt ?_
    exact sq_res1 rfl (.tmp rfl) rfl
  | true =>
    rw [hf] at h1
    have hl : l.length ≤ 1000 := by unfold fewB at hf; simp at hf; omega
    have h2 := rscheck_c l hl
    by_cases hT : chkT l = 0
    · rw [hT] at h2
      have h3 := rplaces_c l hk hl
      obtain ⟨hR, h64⟩ := RT.of hT
      have hst := straight_c (plcs l k) (chk_sm (chk_plcs hR h64 k)).1 (by rw [plcs_len]; exact hl)
      have e1 : decide ((k : Int) < 3) = true := decide_eq_true (by omega)
      have e2 : decide ((0 : Int) ≤ (k : Int)) = true := decide_eq_true (by omega)
      rw [decide_eq_true hT]
      cases hs : strB (plcs l k) with
      | false =>
        rw [hs] at hst
        refine ctrA _ Tryz.func28 rfl rfl Tryz.ntmps28 rfl fun w Z => ?_
        simp only [initT, zP, zQ, Nat.zero_add, Nat.reduceAdd]
        refine wt ?_
        rw [e1, e2]
        refine wt ?_
        refine sq_von (f_call_row 22 h3 rfl rfl) rfl rfl rfl ?_
        refine wt ?_
        exact sq_res1 rfl (.tmp rfl) rfl
      | true =>
        rw [hs] at hst
        refine ctrA _ Tryz.func28 rfl rfl Tryz.ntmps28 rfl fun w Z => ?_
        simp only [initT, zP, zQ, Nat.zero_add, Nat.reduceAdd]
        refine wt ?_
        rw [e1, e2]
        refine wt ?_
        refine sq_von (f_call_row 22 h3 rfl rfl) rfl rfl rfl ?_
        refine wt ?_
        exact sq_res1 rfl (.tmp rfl) rfl
    · have hne : (chkT l == 0) = false := by simpa using hT
      rw [decide_eq_false hT]
      refine ctrA _ Tryz.func28 rfl rfl Tryz.ntmps28 rfl fun w Z => ?_
      simp only [initT, zP, zQ, Nat.zero_add, Nat.reduceAdd]
      refine wt ?_
      rw [hne]
      refine wt ?_
      exact sq_res1 rfl (.tmp rfl) rfl
theorem index_c (v : List Nat) (n : Nat) (hn : v.length ≤ 10000) : CtrA Tryz.prog 87 [idx v, vi (n : Int)] (vi (ixB (fun k => decide (n = gi v k)) v.length)) := by
  refine ctrA _ Tryz.func87 rfl rfl Tryz.ntmps87 rfl fun w Z => ?_
  simp only [initT, zP, zQ, Nat.zero_add, Nat.reduceAdd]
  refine wt ?_
  refine cq_loop (γ := Nat) (fun k => [(0, .av (idx v)), (1, .av (vi (n : Int))), (6, .av (idx v)), (7, .av (vi v.length)), (8, .av (vi k))]) (fun _ => []) (fun k => k ≤ v.length ∧ ∀ j, j < k → decide (n = gi v j) = false) (fun k => v.length - k) 0 ⟨Nat.zero_le _, by omega⟩ (ent ⟨.refl _, .refl _, .refl _, .refl _, .refl _, trivial⟩ trivial) ?_
  rintro k ⟨hk, hall⟩
  refine wt ?_
  (refine cq_cond rfl (fun hb => ?_) (fun hb => ?_) <;> (try simp only [zA, zB, zC, zD, zE, zF, zG, zH, zI, zJ, zK, zL, zM, zN, zO] at hb) <;> (try (exfalso; omega)))
  · have hkl : k < v.length := by omega
    refine wt ?_
    (refine cq_cond rfl (fun hb => ?_) (fun hb => ?_) <;> (try simp only [zA, zB, zC, zD, zE, zF, zG, zH, zI, zJ, zK, zL, zM, zN, zO] at hb) <;> (try (exfalso; omega)))
    · have e1 := ixB_hit (p := fun k => decide (n = gi v k)) hkl hall (decide_eq_true (by omega))
      refine wt ?_
      exact sq_res1 rfl (.tmp rfl) (by rw [e1])
    · refine wt ?_
      exact sq_round (k + 1) ⟨by omega, fun j hj => by
        by_cases e : j = k
        · subst e; exact decide_eq_false (by omega)
        · exact hall j (by omega)⟩ (by omega) (ent ⟨.refl _, .refl _, .refl _, .refl _, .int (by omega), trivial⟩ trivial)
  · have hkl : k = v.length := by omega
    subst hkl
    have e1 := ixB_no (p := fun k => decide (n = gi v k)) hall
    refine wt ?_
    exact sq_res1 rfl (.tmp rfl) (by rw [e1])
theorem ixB_mem (v : List Nat) (n : Nat) : decide (0 ≤ ixB (fun k => decide (n = gi v k)) v.length) = decide (n ∈ v) := by
  rw [Bool.eq_iff_iff, decide_eq_true_eq, decide_eq_true_eq]
  unfold ixB
  split
  · rename_i k hf
    have h1 := List.find?_some hf
    have h2 := List.mem_range.1 (List.mem_of_find?_eq_some hf)
    simp only [decide_eq_true_eq] at h1
    constructor
    · intro _; rw [h1, gi_eq h2]; exact List.getElem_mem h2
    · intro _; omega
  · rename_i hf
    constructor
    · intro h; omega
    · intro h
      obtain ⟨k, hk, e⟩ := List.getElem_of_mem h
      have := List.find?_eq_none.1 hf k (List.mem_range.2 hk)
      simp only [decide_eq_true_eq] at this
      exact absurd (by rw [gi_eq hk]; exact e.symm) this
theorem contains_c (v : List Nat) (n : Nat) (hn : v.length ≤ 10000) : CtrA Tryz.prog 39 [idx v, vi (n : Int)] (vb (decide (n ∈ v))) := by
  have h := index_c v n hn
  refine ctrA _ Tryz.func39 rfl rfl Tryz.ntmps39 rfl fun w Z => ?_
  simp only [initT, zP, zQ, Nat.zero_add, Nat.reduceAdd]
  refine wt ?_
  exact sq_res1 rfl (.tmp rfl) (congrArg vb (ixB_mem v n))
end Go.Proofs.YtgepmbjmaljgoaaGreatDoor.H
end
section

end
section

end
section
namespace Go.Proofs.YtgepmbjmaljgoaaGreatDoor.H
open Go Go.Vc Go.RowKit
open Go.Na (rtx LR chkR_rtx chkR rsg)
set_option maxHeartbeats 4000000
theorem rgtB_ok {l : List Tr} {k : Nat} (hk : k < 3) (h : rgtB l k = true) : fewB l = true ∧ chkT l = 0 ∧ strB (plcs l k) = false ∧ RT l ∧ l.length ≤ 6 ∧ candX l k = tupOf [.sl (candP l k).length 5 (pf5 k (candP l k)), vi 0] := by
  unfold rgtB at h
  simp only [Bool.and_eq_true, decide_eq_true_eq, Bool.not_eq_true'] at h
  obtain ⟨h1, h2, h3⟩ := h
  obtain ⟨hR, h64⟩ := RT.of h2
  have h6 : l.length ≤ 6 := by unfold fewB at h1; simp at h1; omega
  have hg : givE l k = 0 := by unfold givE; rw [if_neg (fun h => h h2), if_pos (by omega)]
  refine ⟨h1, h2, h3, hR, h6, ?_⟩
  unfold candX candA
  rw [if_neg (fun h => h hg), Int.toNat_natCast, if_neg (fun h => h (chk_plcs hR h64 k)), if_neg (by rw [← coll_str, h3]; decide)]
theorem LR0'9 : LR 900 0 := ⟨Go.Na.LI.small (by decide) (by decide), Go.Na.LI.small (by decide) (by decide)⟩
theorem torC_t6 {k : Nat} (hk : k < 3) (o : Int) (A B C : Rat) : torV (torC k o A B C) = t6 (tor6 k o A B C) := by
  have e : sv (rtx 0) = sv [48] := by rw [rtx_0]
  rcases (by omega : k = 0 ∨ k = 1 ∨ k = 2) with rfl | rfl | rfl
  · show torV [_, _, _, _, _, _] = torV [sv (rtx (o - A)), sv (rtx 0), sv (rtx 0), sv (rtx 0), sv (rtx (-C)), sv (rtx B)]
    rw [e]
  · show torV [_, _, _, _, _, _] = torV [sv (rtx 0), sv (rtx (o - A)), sv (rtx 0), sv (rtx C), sv (rtx 0), sv (rtx (-B))]
    rw [e]
  · show torV [_, _, _, _, _, _] = torV [sv (rtx 0), sv (rtx 0), sv (rtx (o - A)), sv (rtx (-C)), sv (rtx B), sv (rtx 0)]
    rw [e]
theorem places_law (l : List Tr) (a o : Int) (ha : 0 ≤ a ∧ a ≤ 255) : CtrA Tryz.prog 9 [ts l, .val (.int .u8 a), vi o] (vb true) := by
  have haw := awake_c
  obtain ⟨k, hk, hka⟩ : ∃ k : Nat, k < 3 ∧ a % 3 = k := ⟨(a % 3).toNat, by omega, by omega⟩
  have hr := right_c l hk
  cases hrg : rgtB l k with
  | false =>
    rw [hrg] at hr
    refine ctrA _ Tryz.func9 rfl rfl Tryz.ntmps9 rfl fun w Z => ?_
    simp only [initT, zP, zQ, Nat.zero_add, Nat.reduceAdd]
    refine wt ?_
    rw [hka]
    refine wt ?_
    exact sq_res1 rfl (.tmp rfl) rfl
  | true =>
    rw [hrg] at hr
    obtain ⟨hfw, hT, hs, hR, h6, hcx⟩ := rgtB_ok hk hrg
    have hcd := candidates_c l k hfw
    rw [hcx] at hcd
    by_cases ho : -1000 ≤ o ∧ o ≤ 1000
    · refine ctrA _ Tryz.func9 rfl rfl Tryz.ntmps9 rfl fun w Z => ?_
      simp only [initT, zP, zQ, Nat.zero_add, Nat.reduceAdd]
      refine wt ?_
      rw [hka]
      (refine wt ?_; repeat' (((first | refine sq_split rfl rfl (fun hb => ?_) (fun hb => ?_) | refine dq_split rfl rfl (fun hb => ?_) (fun hb => ?_)) <;> (try simp only [zA, zB, zC, zD, zE, zF, zG, zH, zI, zJ, zK, zL, zM, zN, zO] at hb) <;> (try (exfalso; omega))) <;> refine wt ?_))
      all_goals (refine cq_cond rfl (fun hb => ?_) (fun hb => ?_) <;> (try simp only [zA, zB, zC, zD, zE, zF, zG, zH, zI, zJ, zK, zL, zM, zN, zO] at hb) <;> (try (exfalso; omega)))
      all_goals refine wt ?_
      refine cq_loop (γ := Nat) (fun m => [(0, .av (ts l)), (2, .av (vi o)), (7, .av (vi (k : Int))), (45, .av (.sl (candP l k).length 5 (pf5 k (candP l k)))), (46, .av (vi (candP l k).length)), (47, .av (vi m))]) (fun _ => []) (fun m => m ≤ (candP l k).length) (fun m => (candP l k).length - m) 0 (Nat.zero_le _)
        (ent ⟨.refl _, .refl _, .refl _, .refl _, .refl _, .refl _, trivial⟩ trivial) ?_
      have hcl := cand_len k (l := l) (by omega)
      intro m hm
      refine wt ?_
      (refine cq_cond rfl (fun hb => ?_) (fun hb => ?_) <;> (try simp only [zA, zB, zC, zD, zE, zF, zG, zH, zI, zJ, zK, zL, zM, zN, zO] at hb) <;> (try (exfalso; omega)))
      · have hml : m < (candP l k).length := by omega
        have hPm := gP_mem hml
        have hPt := cand_thrs hPm
        obtain ⟨hon, hpos⟩ := cand_on hk hPm
        obtain ⟨lA, lB, lC⟩ := thrs_LR19 hR hPt
        generalize hP : gP (candP l k) m = P at *
        have hfe : pf5 k (candP l k) m = pAf k (rtx P.A) (rtx P.B) (rtx P.C) (idx P.s) := by unfold pf5; rw [hP]
        have tl : ∀ {q : Rat}, LR 19 q → (rtx q).length ≤ 400 := fun h => by have := LR.len' h (by decide); omega
        have hto := Torsor_ok k hk P.A P.B P.C (idx P.s) o (by omega) (Go.Na.LR.mono lA (by decide)) (Go.Na.LR.mono lB (by decide)) (Go.Na.LR.mono lC (by decide)) (tl lA) (tl lB) (tl lC)
        rw [torC_t6 hk] at hto
        have htl := tor6_LR (k := k) (o := o) (by omega) lA lB lC
        refine wt ?_
        rw [hfe]
        refine sq_g (g_load_aggv rfl rfl) rfl ?_
        refine wt ?_
        refine sq_s (g_store_aggv rfl rfl (pAf_one _ _ _ _ _) rfl rfl) ?_
        refine wt ?_
        refine sq_g (g_load_own_aggv (f := pAf k (rtx P.A) (rtx P.B) (rtx P.C) (idx P.s)) rfl rfl rfl) rfl ?_
        refine wt ?_
        generalize hTT : tor6 k o P.A P.B P.C = T at *
        refine cq_loop (γ := Nat) (fun i => [(0, .av (ts l)), (2, .av (vi o)), (7, .av (vi (k : Int))), (11, .own 10 0), (12, .own 11 0), (45, .av (.sl (candP l k).length 5 (pf5 k (candP l k)))), (46, .av (vi (candP l k).length)), (47, .av (vi m)), (59, .av (ts l)), (60, .av (vi l.length)), (61, .av (vi i))])
          (fun _ => [(10, .cells ((List.range 5).map fun i => SV.av (pAf k (rtx P.A) (rtx P.B) (rtx P.C) (idx P.s) i))), (11, .cells ([sv (rtx (T 0)), sv (rtx (T 1)), sv (rtx (T 2)), sv (rtx (T 3)), sv (rtx (T 4)), sv (rtx (T 5))].map fun u => SV.av (.val u)))]) (fun i => i ≤ l.length) (fun i => l.length - i) 0 (Nat.zero_le _)
          (ent ⟨.refl _, .refl _, .refl _, .refl _, .refl _, .refl _, .refl _, .refl _, .refl _, .refl _, .refl _, trivial⟩ ⟨⟨_, rfl, .refl _⟩, ⟨_, rfl, .refl _⟩, trivial⟩) ?_
        intro i hi
        refine wt ?_
        (refine cq_cond rfl (fun hb => ?_) (fun hb => ?_) <;> (try simp only [zA, zB, zC, zD, zE, zF, zG, zH, zI, zJ, zK, zL, zM, zN, zO] at hb) <;> (try (exfalso; omega)))
        · have hil : i < l.length := by omega
          have hB := hR i
          have hap := apply_c T (gt l i) hB htl
          have hrt : rightT (gt l i) = true := by
            have := hB.x; have := hB.y; have := hB.z
            unfold rightT inB; simp only [Bool.and_eq_true, decide_eq_true_eq]; omega
          have hht := Height_ok k hk P.A P.B P.C (idx P.s) (gt l i) (Go.Na.LR.mono lA (by decide)) (Go.Na.LR.mono lB (by decide)) (Go.Na.LR.mono lC (by decide)) hrt (tl lA) (tl lB) (tl lC)
          have hq : appQ T (gt l i) k = (o : Rat) + hgt k P.A P.B P.C (gt l i) := by unfold appQ; rw [← hTT]; exact moved_eq hk o _ _ _ _
          have lh := hgt_LR hR hk hPt hB
          have lq : LR 90 (appQ T (gt l i) k) := by rw [hq]; exact Go.Na.LR.mono (LR.add' (LR_small (x := o) (by omega)) lh) (by decide)
          have hbq := brief_c _ lq
          have hbh := brief_c _ (Go.Na.LR.mono (l := 90) lh (by decide))
          have hwo := refwhole_c o (by omega)
          have hle := refless_c (appQ T (gt l i) k) (o : Rat) (Go.Na.LR.mono lq (by decide)) (Go.Na.LR.mono (LR_small (x := o) (by omega)) (by decide))
          rw [show appQ T (gt l i) k - (o : Rat) = hgt k P.A P.B P.C (gt l i) by rw [hq]; grind] at hle
          have hord := reforder_c (hgt k P.A P.B P.C (gt l i)) 0 (Go.Na.LR.mono lh (by decide)) LR0'9
          rw [show vR 0 = vS [48] from congrArg vS rtx_0, show hgt k P.A P.B P.C (gt l i) - 0 = hgt k P.A P.B P.C (gt l i) by grind] at hord
          have hct := contains_c P.s i (by rw [hon]; have := onL_len' l k P.A P.B P.C l.length; omega)
          have hup := cand_up hPt hil
          have hoi := cand_on_iff hPt hil
          generalize hgt k P.A P.B P.C (gt l i) = h at *
          refine wt ?_
          refine sq_g (g_load_own_agg (us := [sv (rtx (T 0)), sv (rtx (T 1)), sv (rtx (T 2)), sv (rtx (T 3)), sv (rtx (T 4)), sv (rtx (T 5))]) rfl rfl rfl rfl) rfl ?_
          refine wt ?_
          refine lsq_more (Ent.trans (ent_freezec 16 13 (fun j => vR (appQ T (gt l i) j)) rfl rfl rfl) (ent_ptr (n := 3) (f := fun j => vR (appQ T (gt l i) j)) (f' := fun j => vR (appQ T (gt l i) j)) 16 rfl (fun _ _ => rfl))) ?_
          refine sq_g (g_load_own_aggv (f := pAf k (rtx P.A) (rtx P.B) (rtx P.C) (idx P.s)) rfl rfl rfl) rfl ?_
          refine wt ?_
          have e0 : k * 1 + 0 = k := by omega
          have e1 : (rtx h == rtx h) = true := by simp
          have e2 : decide (rsg h < 0) = false := decide_eq_false fun hh => by have := rsg_neg.1 hh; grind
          have e3 : (rtx h == [48]) = decide (i ∈ P.s) := by
            rw [Bool.eq_iff_iff, beq_iff_eq, decide_eq_true_eq, hoi, ← rtx_0]
            exact ⟨fun e => Go.Na.rtx_inj e, fun e => by rw [e]⟩
          have e4 : (decide (i ∈ P.s) == decide (i ∈ P.s)) = true := by simp
          rw [e0]
          refine wt ?_
          rw [e0]
          refine wt ?_
          rw [e1]
          refine wt ?_
          rw [e2]
          refine wt ?_
          rw [e3, e4]
          refine wt ?_
          exact sq_round (i + 1) (by omega) (by omega) (ent ⟨.refl _, .refl _, .refl _, .refl _, .refl _, .refl _, .refl _, .refl _, .refl _, .refl _, .int (by omega), trivial⟩ ⟨⟨_, rfl, .refl _⟩, ⟨_, rfl, .refl _⟩, trivial⟩)
        · have hil : i = l.length := by omega
          subst hil
          refine wt ?_
          exact sq_round (m + 1) (by omega) (by omega) (ent ⟨.refl _, .refl _, .refl _, .refl _, .refl _, .int (by omega), trivial⟩ trivial)
      · refine wt ?_
        exact sq_res1 rfl (.tmp rfl) rfl
    · refine ctrA _ Tryz.func9 rfl rfl Tryz.ntmps9 rfl fun w Z => ?_
      simp only [initT, zP, zQ, Nat.zero_add, Nat.reduceAdd]
      refine wt ?_
      rw [hka]
      (refine wt ?_; repeat' (((first | refine sq_split rfl rfl (fun hb => ?_) (fun hb => ?_) | refine dq_split rfl rfl (fun hb => ?_) (fun hb => ?_)) <;> (try simp only [zA, zB, zC, zD, zE, zF, zG, zH, zI, zJ, zK, zL, zM, zN, zO] at hb) <;> (try (exfalso; omega))) <;> refine wt ?_))
      all_goals (try (refine cq_cond rfl (fun hb => ?_) (fun hb => ?_) <;> (try simp only [zA, zB, zC, zD, zE, zF, zG, zH, zI, zJ, zK, zL, zM, zN, zO] at hb) <;> (try (exfalso; omega))))
      all_goals refine wt ?_
      all_goals exact sq_res1 rfl (.tmp rfl) rfl
end Go.Proofs.YtgepmbjmaljgoaaGreatDoor.H
end
