/- A part of the proof that the law returns true at every input and that the input reads behind the call as it read before; this part states nothing of its own that needs a condition of the input. -/
import Derived.Test.YtogilkilkmoedaaSb
import Derived.Test.YtogilkilkmoedaaTc
import Derived.Test.YtogilkilkmoedaaTd
set_option linter.unusedVariables false
set_option linter.unusedSimpArgs false
namespace Go.Proofs.Ytogilkilkmoedaa
open Go Go.Vc Go.RowKit
/-! As many pairs as the plan says can be made. -/
theorem zip_pw {α β : Type} {R : α → α → Prop} : ∀ {l : List α} {l' : List β}, l.Pairwise R → (l.zip l').Pairwise (fun x y => R x.1 y.1)
  | [], _, _ => by simp
  | _ :: _, [], _ => by simp
  | a :: l, b :: l', h => by
    rw [List.pairwise_cons] at h
    rw [List.zip_cons_cons, List.pairwise_cons]
    exact ⟨fun y hy => h.1 y.1 (List.of_mem_zip hy).1, zip_pw h.2⟩
theorem zip_pw2 {α β : Type} {R : β → β → Prop} : ∀ {l : List α} {l' : List β}, l'.Pairwise R → (l.zip l').Pairwise (fun x y => R x.2 y.2)
  | [], _, _ => by simp
  | _ :: _, [], _ => by simp
  | a :: l, b :: l', h => by
    rw [List.pairwise_cons] at h
    rw [List.zip_cons_cons, List.pairwise_cons]
    exact ⟨fun y hy => h.1 y.2 (List.of_mem_zip hy).2, zip_pw2 h.2⟩
def ixN (l : List Int) (w a : Int) : List Nat := (List.range l.length).filter (fun i => gz l i / w == a)
theorem ixN_len (l : List Int) (w a : Int) : (ixN l w a).length = (idx l w l.length a).length := by unfold ixN idx; rw [List.length_map]
theorem mem_ixN {l : List Int} {w a : Int} {i : Nat} : i ∈ ixN l w a ↔ i < l.length ∧ gz l i / w = a := by unfold ixN; simp
theorem ixN_nodup (l : List Int) (w a : Int) : (ixN l w a).Nodup := List.Pairwise.filter _ List.nodup_range
/-- The pairs for a difference. -/
def qL (H P : List Int) (w d : Int) (L : List (Int × Int)) : List (Nat × Nat) := (L.filter (fun p => p.1 - p.2 == d)).flatMap (fun p => (ixN H w p.1).zip (ixN P w p.2))
theorem qL_len (H P : List Int) (w d : Int) (L : List (Int × Int)) : ((qL H P w d L).length : Int) = cntC (minL H P w) L d := by
  unfold qL cntC
  generalize L.filter (fun p => p.1 - p.2 == d) = M
  induction M with
  | nil => rfl
  | cons p M ih =>
    rw [List.flatMap_cons, List.length_append, List.map_cons, List.sum_cons, Int.natCast_add, ih, List.length_zip]
    congr 1
    unfold minL
    rw [ixN_len, ixN_len]
theorem prodK_nodup {k1 k2 : List Int} (h1 : k1.Nodup) (h2 : k2.Nodup) : (prodK k1 k2).Nodup := by
  unfold prodK List.Nodup
  rw [List.pairwise_flatMap]
  refine ⟨fun a _ => ?_, h1.imp fun {a b} hab x hx y hy e => ?_⟩
  · exact List.pairwise_map.2 (h2.imp fun {x y} hxy e => hxy (by simpa using e))
  · obtain ⟨x', _, rfl⟩ := List.mem_map.1 hx
    obtain ⟨y', _, rfl⟩ := List.mem_map.1 hy
    simp only [Prod.mk.injEq] at e
    exact hab e.1
theorem qL_mat {H P : List Int} {w d lo up : Int} {L : List (Int × Int)} (hn : L.Nodup) (hf : ∀ h p a b, h < H.length → p < P.length → gz H h / w = a → gz P p / w = b → a - b = d → fitN H P lo up h p = true) : MatL (fitN H P lo up) H.length P.length (qL H P w d L) := by
  have hM : (L.filter (fun p => p.1 - p.2 == d)).Nodup := List.Pairwise.filter _ hn
  have hd : ∀ p ∈ L.filter (fun p => p.1 - p.2 == d), p.1 - p.2 = d := fun p hp => by simpa using (List.mem_filter.1 hp).2
  refine ⟨?_, ?_, fun x hx => ?_⟩
  · unfold List.Nodup
    rw [List.pairwise_map]
    unfold qL
    rw [List.pairwise_flatMap]
    refine ⟨fun p _ => zip_pw (ixN_nodup H w p.1), List.Pairwise.imp_of_mem (fun {p q} hp hq hpq x hx y hy e => ?_) hM⟩
    have h1 := (mem_ixN.1 (List.of_mem_zip hx).1).2
    have h2 := (mem_ixN.1 (List.of_mem_zip hy).1).2
    have h3 := hd p hp
    have h4 := hd q hq
    rw [e, h2] at h1
    exact hpq (Prod.ext (by omega) (by omega))
  · unfold List.Nodup
    rw [List.pairwise_map]
    unfold qL
    rw [List.pairwise_flatMap]
    refine ⟨fun p _ => zip_pw2 (ixN_nodup P w p.2), List.Pairwise.imp_of_mem (fun {p q} hp hq hpq x hx y hy e => ?_) hM⟩
    have h1 := (mem_ixN.1 (List.of_mem_zip hx).2).2
    have h2 := (mem_ixN.1 (List.of_mem_zip hy).2).2
    have h3 := hd p hp
    have h4 := hd q hq
    rw [e, h2] at h1
    exact hpq (Prod.ext (by omega) (by omega))
  · unfold qL at hx
    obtain ⟨p, hp, hxp⟩ := List.mem_flatMap.1 hx
    obtain ⟨h1, h2⟩ := mem_ixN.1 (List.of_mem_zip hxp).1
    obtain ⟨h3, h4⟩ := mem_ixN.1 (List.of_mem_zip hxp).2
    exact ⟨h1, h3, hf _ _ _ _ h1 h3 h2 h4 (hd p hp)⟩
def loP (d w : Int) : Int := if (d - 1) * w + 1 < -100000 then -100000 else (d - 1) * w + 1
def upP (d w : Int) : Int := if 100000 < (d + 1) * w - 1 then 100000 else (d + 1) * w - 1
theorem plan_at {H P : List Int} {w : Int} (hH : RightL H) (hP : RightL P) (hw1 : 1 ≤ w) (hw2 : w ≤ 100000) {k : Nat} (hk : k < (planL H P w).length) (he : errP H P w = 0) :
    -100000 ≤ (gp (planL H P w) k).1 ∧ (gp (planL H P w) k).1 ≤ 100000 ∧ 1 ≤ (gp (planL H P w) k).2 ∧ outZ (loP (gp (planL H P w) k).1 w) = false ∧ outZ (upP (gp (planL H P w) k).1 w) = false ∧ loP (gp (planL H P w) k).1 w ≤ upP (gp (planL H P w) k).1 w ∧
    (gp (planL H P w) k).2 ≤ mxP (fitN H P (loP (gp (planL H P w) k).1 w) (upP (gp (planL H P w) k).1 w)) H.length P.length := by
  have e0 : planL H P w = planK (minL H P w) (quots H w) (quots P w) := by unfold planL; rw [if_pos he]
  rw [e0] at hk ⊢
  have hm : gp (planK (minL H P w) (quots H w) (quots P w)) k ∈ planK (minL H P w) (quots H w) (quots P w) := by
    unfold gp
    rw [List.getD, List.getElem?_eq_getElem hk]
    exact List.getElem_mem hk
  generalize gp (planK (minL H P w) (quots H w) (quots P w)) k = x at hm
  unfold planK at hm
  obtain ⟨d, hd, rfl⟩ := List.mem_map.1 hm
  rw [mem_sortK] at hd
  obtain ⟨⟨a, b⟩, hab, ed⟩ := List.mem_map.1 hd
  have hab0 := hab
  unfold prodK at hab
  obtain ⟨a', ha, hb0⟩ := List.mem_flatMap.1 hab
  obtain ⟨b', hb, e⟩ := List.mem_map.1 hb0
  simp only [Prod.mk.injEq] at e
  obtain ⟨rfl, rfl⟩ := e
  rw [mem_dd, mem_quots] at ha
  rw [mem_dd, mem_quots] at hb
  obtain ⟨i, hi, ea⟩ := ha
  obtain ⟨j, hj, eb⟩ := hb
  simp only at ed
  have bd : ∀ {z q : Int}, 0 ≤ z → z / w = q → q * w ≤ z ∧ z < q * w + w ∧ 0 ≤ q := fun {z q} hz e => by
    have h1 := Int.ediv_mul_le z (show w ≠ 0 by omega)
    have h2 := Int.lt_ediv_add_one_mul_self z (show 0 < w by omega)
    rw [e] at h1 h2
    rw [Int.add_mul, Int.one_mul] at h2
    exact ⟨h1, h2, by rw [← e]; exact Int.ediv_nonneg hz (by omega)⟩
  have hHi := hH.at_ i
  have hPj := hP.at_ j
  obtain ⟨a1, a2, a3⟩ := bd hHi.1 ea
  obtain ⟨b1, b2, b3⟩ := bd hPj.1 eb
  have haw : a' ≤ a' * w := by have := Int.mul_le_mul_of_nonneg_left hw1 a3; omega
  have hbw : b' ≤ b' * w := by have := Int.mul_le_mul_of_nonneg_left hw1 b3; omega
  have edw : d * w = a' * w - b' * w := by rw [← ed, Int.sub_mul]
  have e1 : (d - 1) * w = d * w - w := by rw [Int.sub_mul, Int.one_mul]
  have e2 : (d + 1) * w = d * w + w := by rw [Int.add_mul, Int.one_mul]
  have haw2 : 0 ≤ a' * w := Int.mul_nonneg a3 (by omega)
  have hbw2 : 0 ≤ b' * w := Int.mul_nonneg b3 (by omega)
  have elo : loP d w = max (d * w - w + 1) (-100000) := by unfold loP; rw [e1]; split <;> omega
  have eup : upP d w = min (d * w + w - 1) 100000 := by unfold upP; rw [e2]; split <;> omega
  have hmat := qL_mat (H := H) (P := P) (w := w) (d := d) (lo := loP d w) (up := upP d w) (prodK_nodup (nodup_dd (quots H w)) (nodup_dd (quots P w))) (fun h p a b hh hp e3 e4 e5 => by
    have hHh := hH.at_ h
    have hPp := hP.at_ p
    obtain ⟨c1, c2, _⟩ := bd hHh.1 e3
    obtain ⟨d1, d2, _⟩ := bd hPp.1 e4
    have e6 : d * w = a * w - b * w := by rw [← e5, Int.sub_mul]
    unfold fitN fitB
    rw [elo, eup]
    simp only [Bool.and_eq_true, decide_eq_true_eq]
    constructor <;> omega)
  have hlen := qL_len H P w d (prodK (dd (quots H w)) (dd (quots P w)))
  dsimp only
  rw [← hlen]
  refine ⟨by omega, by omega, ?_, ?_, ?_, ?_, ?_⟩
  · have hpos : 0 < (qL H P w d (prodK (dd (quots H w)) (dd (quots P w)))).length := by
      have h1 : 0 < (ixN H w a').length := List.length_pos_of_mem (mem_ixN.2 ⟨hi, ea⟩)
      have h2 : 0 < (ixN P w b').length := List.length_pos_of_mem (mem_ixN.2 ⟨hj, eb⟩)
      have h3 : 0 < ((ixN H w a').zip (ixN P w b')).length := by rw [List.length_zip]; omega
      obtain ⟨z, hz⟩ := List.exists_mem_of_length_pos h3
      refine List.length_pos_of_mem (a := z) ?_
      unfold qL
      exact List.mem_flatMap.2 ⟨(a', b'), List.mem_filter.2 ⟨hab0, by simpa using ed⟩, hz⟩
    omega
  · rw [elo]; unfold outZ; simp only [Bool.or_eq_false_iff, decide_eq_false_iff_not]; constructor <;> omega
  · rw [eup]; unfold outZ; simp only [Bool.or_eq_false_iff, decide_eq_false_iff_not]; constructor <;> omega
  · rw [elo, eup]; omega
  · have := (best_spec (fitN H P (loP d w) (upP d w)) H.length P.length).2.1 _ hmat
    unfold mxP
    omega
end Go.Proofs.Ytogilkilkmoedaa
namespace Go.Proofs.Ytogilkilkmoedaa
open Go Go.Vc Go.RowKit
set_option maxHeartbeats 8000000
/-! KDQ -/
theorem errP_right {H P : List Int} {w : Int} (h : errC H P 0 0 = 0) (h1 : 1 ≤ w) (h2 : w ≤ 100000) : errP H P w = 0 := by
  obtain ⟨a1, a2, a3, a4, _⟩ := errC_iff.1 h
  have e : ∀ l : List Int, l.length ≤ 256 → bad l = false → chkL [l] = 0 := fun l hl hb => by
    have e1 : (List.range [l].length).any (fun k => decide (256 < (gl [l] k).length)) = false := any_no fun k hk => by
      obtain rfl : k = 0 := by simpa using hk
      exact decide_eq_false (by simp [gl]; omega)
    have e2 : (List.range [l].length).any (fun k => bad (gl [l] k)) = false := any_no fun k hk => by
      obtain rfl : k = 0 := by simpa using hk
      simpa [gl] using hb
    unfold chkL
    rw [e1, e2]; rfl
  unfold errP
  rw [e H a1 a3, e P a2 a4, if_neg (by simp), if_neg (by simp)]
  unfold wideB
  rw [decide_eq_true h1, decide_eq_true h2]; rfl
theorem planL_len {H P : List Int} {w : Int} (h1 : H.length ≤ 256) (h2 : P.length ≤ 256) : (planL H P w).length ≤ 65536 := by
  unfold planL
  split
  · unfold planK
    rw [List.length_map]
    refine Nat.le_trans (sortK_len _) ?_
    unfold keysC
    rw [List.length_map, prodK_len]
    have a := dd_len (quots H w)
    have b := dd_len (quots P w)
    have c : (quots H w).length = H.length := by simp [quots]
    have d : (quots P w).length = P.length := by simp [quots]
    exact sq256 (by omega) (by omega)
  · exact Nat.zero_le _
theorem plans_c (H P : List Int) (n : Int) (hn : 0 ≤ n ∧ n ≤ 65535) : CtrA Try.prog 6 [zs H, zs P, .val (.int .u16 n)] (vb true) := by
  refine ctrA _ Try.func6 rfl rfl Try.ntmps6 rfl fun w0 Z => ?_
  have aw := awake_c
  have cr := right_c H P 0 0
  have hw : IntKind.i64.wrap n = n := by
    simp [IntKind.wrap, IntKind.signed, IntKind.bits]; omega
  have hw1 : 1 ≤ 1 + n % 2000 ∧ 1 + n % 2000 ≤ 2000 := by omega
  simp only [initT, List.map_cons, List.map_nil, Nat.zero_add, Nat.reduceAdd]
  refine cq_seq ?_
  refine cq_region ?_
  apply sq_g; exact g_assign (s := .av (.val (.bool _))) rfl; exact rfl
  refine sq_nil ?_
  refine sq_then ?_
  refine cq_seq ?_
  refine cq_region ?_
  apply sq_g; exact g_move (s := .av (.val (.int _ _))) rfl; exact rfl
  apply sq_g; exact  g_conv rfl hw; exact rfl
  apply sq_g; exact g_rem rfl rfl (by omega) (by omega); exact rfl
  apply sq_g; exact g_arith rfl rfl rfl (by omega); exact rfl
  apply sq_g; exact g_assign (s := .av (.val (.int _ _))) rfl; exact rfl
  refine sq_nil ?_
  refine sq_then ?_
  refine cq_seq ?_
  refine cq_seq ?_
  refine cq_region ?_
  apply sq_g; exact g_move (s := .av _) rfl; exact rfl
  apply sq_g; exact g_move (s := .av _) rfl; exact rfl
  apply sq_g; exact  g_build (is := []) (xs := []) (vs := []) tb24_0 rfl rfl; exact rfl
  apply sq_g; exact g_call (cr) rfl; exact rfl
  apply sq_g; exact g_not rfl; exact rfl
  refine sq_nil ?_
  refine sq_then ?_
  generalize 1 + n % 2000 = w at hw1 ⊢
  refine cq_cond rfl (fun hb => ?_) (fun hb => ?_)
  · refine cq_seq ?_
    refine cq_region ?_
    apply sq_g; exact g_call (aw) rfl; exact rfl
    apply sq_g; exact g_assign (s := .av (.val (.bool _))) rfl; exact rfl
    refine sq_nil ?_
    refine sq_then ?_
    refine cq_ret ?_
    refine sq_then_ret ?_
    exact sq_res1 rfl (.tmp rfl) rfl
  · have hr : rightB H P 0 0 = true := by simpa using hb
    obtain ⟨n1, n2, he⟩ := rightB_iff.1 hr
    have heP := errP_right he hw1.1 (by omega)
    obtain ⟨rH, rP⟩ := errC_ok he
    obtain ⟨a1, a2, a3, a4, _⟩ := errC_iff.1 he
    have hat := fun k (hk : k < (planL H P w).length) => plan_at rH rP hw1.1 (by omega) hk heP
    have cp := (plan_c H P w).roN
    rw [heP] at cp
    have hLl := planL_len (w := w) a1 a2
    generalize planL H P w = L at cp hat hLl
    refine cq_skip ?_
    refine sq_then ?_
    refine cq_seq ?_
    refine cq_region ?_
    apply sq_g; exact g_move (s := .av _) rfl; exact rfl
    apply sq_g; exact g_move (s := .av _) rfl; exact rfl
    apply sq_g; exact g_move (s := .av (.val (.int _ _))) rfl; exact rfl
    apply sq_g; exact g_call (cp) rfl; exact rfl
    apply sq_g; exact g_move (s := .av _) rfl; exact rfl
    apply sq_g; exact g_extractT rfl rfl; exact rfl
    apply sq_g; exact g_extractT rfl rfl; exact rfl
    apply sq_g; exact g_assign (s := .av _) rfl; exact rfl
    apply sq_g; exact g_assign (s := .av (.val (.int _ _))) rfl; exact rfl
    refine sq_nil ?_
    refine sq_then ?_
    refine cq_seq ?_
    refine cq_seq ?_
    refine cq_region ?_
    apply sq_g; exact g_move (s := .av (.val (.int _ _))) rfl; exact rfl
    apply sq_g; exact g_cmp rfl rfl rfl; exact rfl
    refine sq_nil ?_
    refine sq_then ?_
    refine cq_cond_f rfl ?_
    refine cq_skip ?_
    refine sq_then ?_
    refine cq_seq ?_
    refine cq_seq ?_
    refine cq_region ?_
    apply sq_g; exact g_move (s := .av _) rfl; exact rfl
    apply sq_g; exact g_len rfl; exact rfl
    apply sq_g; exact g_move (s := .av (.val (.int _ _))) rfl; exact rfl
    refine sq_nil ?_
    refine sq_then ?_
    refine cq_block ?_
    refine cq_loop (γ := Nat) (fun k => [(0, .av (zs H)), (1, .av (zs P)), (7, .av (vi w)), (36, .av (dfs L)), (37, .av (vi L.length)), (38, .av (vi k))]) (fun _ => []) (fun k => k ≤ L.length) (fun k => L.length - k) 0 (Nat.zero_le _) (ent ⟨.refl _, .refl _, .refl _, .refl _, .refl _, .refl _, trivial⟩ trivial) ?_
    intro k hk
    refine cq_seq ?_
    refine cq_region ?_
    apply sq_g; exact g_cmp rfl rfl rfl; exact rfl
    refine sq_nil ?_
    refine sq_then ?_
    refine cq_seq ?_
    (refine cq_cond rfl (fun hb => ?_) (fun hb => ?_) <;> (try simp only [decide_eq_true_eq, decide_eq_false_iff_not, beq_iff_eq, beq_eq_false_iff_ne, bne_iff_ne, bne_eq_false_iff_eq, ne_eq, Bool.not_eq_true', Bool.not_eq_false', Bool.and_eq_true, Bool.or_eq_true, Bool.and_eq_false_iff, Bool.or_eq_false_iff] at hb) <;> (try (exfalso; omega)))
    · have hkl : k < L.length := by omega
      obtain ⟨d1, d2, d3, d4, d5, d6, d7⟩ := hat k hkl
      have cq := (pairs_c H P (loP (gp L k).1 w) (upP (gp L k).1 w)).roN
      have heq : errC H P (loP (gp L k).1 w) (upP (gp L k).1 w) = 0 := errC_iff.2 ⟨a1, a2, a3, a4, d4, d5, d6⟩
      rw [heq] at cq
      rw [← pairsL_len heq] at d7
      generalize pairsL H P (loP (gp L k).1 w) (upP (gp L k).1 w) = A at cq d7
      unfold loP upP at cq
      have b1 := mulB (a := (gp L k).1 - 1) (b := w) ⟨by omega, by omega⟩ ⟨by omega, by omega⟩
      have b2 := mulB (a := (gp L k).1 + 1) (b := w) ⟨by omega, by omega⟩ ⟨by omega, by omega⟩
      refine cq_skip ?_
      refine sq_then ?_
      refine cq_seq ?_
      refine cq_block ?_
      refine cq_seq ?_
      refine cq_region ?_
      apply sq_g; exact g_index rfl rfl rfl (by omega); exact rfl
      apply sq_g; exact g_load_agg (us := [.int _ _, .int _ _]) rfl rfl rfl rfl; exact rfl
      refine sq_v (f_alloc 10 rfl) rfl ?_
      refine sq_s (g_store_agg rfl rfl rfl rfl rfl rfl) ?_
      refine sq_nil ?_
      refine sq_then ?_
      refine cq_seq ?_
      refine cq_drawn ?_
      apply dq_g; exact g_index_own rfl rfl rfl (by decide); exact rfl
      apply dq_g; exact g_load_own (s := .av (.val (.int _ _))) rfl rfl rfl; exact rfl
      apply dq_g; exact g_index_own rfl rfl rfl (by decide); exact rfl
      apply dq_g; exact g_load_own (s := .av (.val (.int _ _))) rfl rfl rfl; exact rfl
      apply dq_g; exact g_assign (s := .av (.val (.int _ _))) rfl; exact rfl
      apply dq_g; exact g_assign (s := .av (.val (.int _ _))) rfl; exact rfl
      refine dq_nil tm (by kernel_rfl) ?_
      refine sq_then ?_
      refine cq_seq ?_
      refine cq_region ?_
      apply sq_g; exact g_move (s := .av (.val (.int _ _))) rfl; exact rfl
      apply sq_g; exact g_arith rfl rfl rfl (by omega); exact rfl
      apply sq_g; exact g_move (s := .av (.val (.int _ _))) rfl; exact rfl
      apply sq_g; exact g_arith rfl rfl rfl (by omega); exact rfl
      apply sq_g; exact g_arith rfl rfl rfl (by omega); exact rfl
      apply sq_g; exact g_max rfl rfl; exact rfl
      apply sq_g; exact g_move (s := .av (.val (.int _ _))) rfl; exact rfl
      apply sq_g; exact g_arith rfl rfl rfl (by omega); exact rfl
      apply sq_g; exact g_move (s := .av (.val (.int _ _))) rfl; exact rfl
      apply sq_g; exact g_arith rfl rfl rfl (by omega); exact rfl
      apply sq_g; exact g_arith rfl rfl rfl (by omega); exact rfl
      apply sq_g; exact g_min rfl rfl; exact rfl
      apply sq_g; exact g_build (is := [0, 1]) (xs := [_, _]) (vs := [_, _]) (tb24 _ _) rfl rfl; exact rfl
      refine sq_v (f_alloc 11 rfl) rfl ?_
      refine sq_s (g_store_agg rfl rfl rfl rfl rfl rfl) ?_
      refine sq_nil ?_
      refine sq_then ?_
      refine cq_seq ?_
      refine cq_region ?_
      apply sq_g; exact g_move (s := .av _) rfl; exact rfl
      apply sq_g; exact g_move (s := .av _) rfl; exact rfl
      apply sq_g; exact g_load_own_agg (us := [.int _ _, .int _ _]) rfl rfl rfl rfl; exact rfl
      apply sq_g; exact g_call (cq) rfl; exact rfl
      apply sq_g; exact g_move (s := .av _) rfl; exact rfl
      apply sq_g; exact g_extractT rfl rfl; exact rfl
      apply sq_g; exact g_extractT rfl rfl; exact rfl
      apply sq_g; exact g_assign (s := .av _) rfl; exact rfl
      apply sq_g; exact g_assign (s := .av (.val (.int _ _))) rfl; exact rfl
      refine sq_nil ?_
      refine sq_then ?_
      refine cq_seq ?_
      refine cq_region ?_
      apply sq_g; exact g_move (s := .av (.val (.int _ _))) rfl; exact rfl
      apply sq_g; exact g_cmp rfl rfl rfl; exact rfl
      apply sq_g; exact g_move (s := .av (.val (.bool _))) rfl; exact rfl
      apply sq_on; exact g_move (s := .av (.val (.int _ _))) rfl; exact rfl; exact rfl; exact rfl
      apply sq_on; exact g_cmp rfl rfl rfl; exact rfl; exact rfl; exact rfl
      apply sq_g; exact g_pick (s := .av (.val (.bool _))) rfl rfl; exact rfl
      apply sq_g; exact g_move (s := .av (.val (.bool _))) rfl; exact rfl
      refine sq_split rfl rfl (fun hb => ?_) (fun hb => ?_) <;> (try simp only [decide_eq_true_eq, decide_eq_false_iff_not, beq_iff_eq, beq_eq_false_iff_ne, bne_iff_ne, bne_eq_false_iff_eq, ne_eq, Bool.not_eq_true', Bool.not_eq_false', Bool.and_eq_true, Bool.or_eq_true, Bool.and_eq_false_iff, Bool.or_eq_false_iff] at hb) <;> (try (exfalso; omega))
      apply sq_on; exact g_move (s := .av _) rfl; exact rfl; exact rfl; exact rfl
      apply sq_on; exact g_len rfl; exact rfl; exact rfl; exact rfl
      apply sq_on; exact g_move (s := .av (.val (.int _ _))) rfl; exact rfl; exact rfl; exact rfl
      apply sq_on; exact g_cmp rfl rfl rfl; exact rfl; exact rfl; exact rfl
      apply sq_g; exact g_pick (s := .av (.val (.bool _))) rfl rfl; exact rfl
      refine sq_nil ?_
      refine sq_then ?_
      (refine cq_cond rfl (fun hb => ?_) (fun hb => ?_) <;> (try simp only [decide_eq_true_eq, decide_eq_false_iff_not, beq_iff_eq, beq_eq_false_iff_ne, bne_iff_ne, bne_eq_false_iff_eq, ne_eq, Bool.not_eq_true', Bool.not_eq_false', Bool.and_eq_true, Bool.or_eq_true, Bool.and_eq_false_iff, Bool.or_eq_false_iff] at hb) <;> (try (exfalso; omega)))
      refine cq_skip ?_
      refine sq_then ?_
      refine cq_region ?_
      apply sq_g; exact g_arith rfl rfl rfl (by omega); exact rfl
      apply sq_g; exact g_move (s := .av (.val (.int _ _))) rfl; exact rfl
      refine sq_nil ?_
      exact sq_round (k + 1) (by omega) (by omega) (ent ⟨.refl _, .refl _, .refl _, .refl _, .refl _, .int (by omega), trivial⟩ trivial)
    · refine cq_exit ?_
      refine sq_then ?_
      refine cq_seq ?_
      refine cq_region ?_
      apply sq_g; exact g_call (aw) rfl; exact rfl
      apply sq_g; exact g_assign (s := .av (.val (.bool _))) rfl; exact rfl
      refine sq_nil ?_
      refine sq_then ?_
      refine cq_ret ?_
      exact sq_res1 rfl (.tmp rfl) rfl
end Go.Proofs.Ytogilkilkmoedaa
