/- A part of the proof that the law returns true at every input and that the input reads behind the call as it read before; this part states nothing of its own that needs a condition of the input. -/
import Derived.Test.YtdoppiajbpmmkaaGreatGd
set_option linter.unusedVariables false
set_option linter.unusedSimpArgs false
set_option linter.unnecessarySimpa false
namespace Go.Proofs.YtdoppiajbpmmkaaGreat
open Go Go.Vc Go.RowKit
set_option maxHeartbeats 1000000
/-! The vertices alone: the same facets, and none of them in the hull of the others. -/
def ow (l : List Tr) : List Tr := (VL l).map (gt l)
theorem perp_comp' {n u w : Tr} (h1 : tdot n u = 0) (h2 : tdot n w = 0) : (tcr u w).x * tdot n n = n.x * det n u w ∧ (tcr u w).y * tdot n n = n.y * det n u w ∧ (tcr u w).z * tdot n n = n.z * det n u w := by
  have e : det n u w = tdot n (tcr u w) := by simp only [det, tdot, tcr]; grind
  rw [e]
  exact cr_dot (tcr_anz (tcr_perp n u w h1 h2)) n
theorem par_cr {w a b : Tr} (h : tcr w b = tz) : tdot (tcr w a) b = 0 := by
  simp only [tcr, tz, Tr.mk.injEq] at h
  simp only [tdot, tcr]
  grind
theorem same_dir {n m : Tr} (hn : tg n = 1) (hm : tg m = 1) {a b : Int} (ha : 0 < a) (hb : 0 < b) (h : ∀ z, a * tdot n z = b * tdot m z) : n = m := by
  have ex := h ⟨1, 0, 0⟩
  have ey := h ⟨0, 1, 0⟩
  have ez := h ⟨0, 0, 1⟩
  simp only [tdot, Int.mul_one, Int.mul_zero, Int.add_zero, Int.zero_add] at ex ey ez
  have e : tmul n a = tmul m b := tr_ext ex ey ez
  have e2 := congrArg tg e
  rw [tg_tmul, tg_tmul, hn, hm] at e2
  have : a = b := by omega
  subst this
  exact tr_ext (Int.eq_of_mul_eq_mul_left (by omega) ex) (Int.eq_of_mul_eq_mul_left (by omega) ey) (Int.eq_of_mul_eq_mul_left (by omega) ez)
section
variable {l : List Tr}
/-- A functional that tells all places apart, led by another one. -/
theorem lead (hl : RT l) (h : Tr) : ∃ H : Tr, (∀ i j, i < l.length → j < l.length → tdot H (dv l i j) = 0 → dv l i j = tz) ∧ ∀ i j, i < l.length → j < l.length → tdot H (dv l i j) ≤ 0 → tdot h (dv l i j) ≤ 0 := by
  have eH : ∀ z, tdot (lc 1000000000000000000 1 h D0) z = 1000000000000000000 * tdot h z + tdot D0 z := fun z => by rw [lc_dot, Int.one_mul]
  have hb : ∀ i j, i < l.length → j < l.length → BT 200000 (dv l i j) := fun i j _ _ => (hl j).sub (hl i)
  refine ⟨lc 1000000000000000000 1 h D0, fun i j hi hj e => ?_, fun i j hi hj e => ?_⟩
  · rw [eH] at e
    have b := hb i j hi hj
    have hx := b.x; have hy := b.y; have hz := b.z
    have e2 : tdot D0 (dv l i j) = 1000000000000 * (dv l i j).x + 1000000 * (dv l i j).y + 1 * (dv l i j).z := rfl
    have h0 : tdot h (dv l i j) = 0 := by omega
    rw [h0, Int.mul_zero, Int.zero_add] at e
    exact phi_z b (by rw [phi_D]; exact e)
  · rw [eH] at e
    have b := hb i j hi hj
    have hx := b.x; have hy := b.y; have hz := b.z
    have e2 : tdot D0 (dv l i j) = 1000000000000 * (dv l i j).x + 1000000 * (dv l i j).y + 1 * (dv l i j).z := rfl
    omega
theorem first_ix {i : Nat} (hi : i < l.length) : ∃ k, k ≤ i ∧ gt l k = gt l i ∧ ∀ j, j < k → gt l j ≠ gt l k := by
  obtain ⟨k, hk, e, hm⟩ := tot_min (P := fun k => gt l k = gt l i) (R := fun a b => a ≤ b) (fun a b _ _ => by omega) (fun a b c _ _ _ h1 h2 => by omega) (i + 1) ⟨i, by omega, rfl⟩
  exact ⟨k, by omega, e, fun j hj e2 => by have := hm j (by omega) (e2.trans e); omega⟩
/-- A vertex is the farthest in each direction. -/
theorem S3.vmax (s : S3 l) (h : Tr) : ∃ v ∈ VL l, ∀ i, i < l.length → tdot h (gt l i) ≤ tdot h (gt l v) := by
  obtain ⟨H, h1, h2⟩ := lead s.hl h
  obtain ⟨a0, ha0⟩ : ∃ a, a < l.length := by obtain ⟨a0, _, _, _, ha0, _⟩ := s.hS; exact ⟨a0, ha0⟩
  obtain ⟨t, ht, _, hmax⟩ := tot_min (P := fun _ => True) (R := fun i j => tdot H (gt l j) ≤ tdot H (gt l i)) (fun i j _ _ => by omega) (fun i j k _ _ _ h1 h2 => by omega) l.length ⟨a0, ha0, trivial⟩
  obtain ⟨v, hv, ev, hf⟩ := first_ix ht
  have hvl : v < l.length := by omega
  have hle : ∀ i, i < l.length → tdot H (dv l v i) ≤ 0 := fun i hi => by rw [dv_dot, ev]; have := hmax i hi trivial; omega
  refine ⟨v, s.vl.2 ⟨hvl, hf, H, fun j hj hne => ?_⟩, fun i hi => ?_⟩
  · have := hle j hj
    rcases (by omega : tdot H (dv l v j) < 0 ∨ tdot H (dv l v j) = 0) with h | h
    · exact h
    · exact absurd (dv_z (h1 v j hvl hj h)) hne
  · have := h2 v i hvl hi (hle i hi)
    rw [dv_dot] at this; omega
theorem ow_len (l : List Tr) : (ow l).length = (VL l).length := by unfold ow; rw [List.length_map]
theorem ow_gt {k : Nat} (hk : k < (VL l).length) : gt (ow l) k = gt l (gi (VL l) k) := gt_map l (VL l) hk
theorem ow_ix {v : Nat} (hv : v ∈ VL l) : ∃ k, k < (ow l).length ∧ gt (ow l) k = gt l v := by
  obtain ⟨k, hk, e⟩ := List.getElem_of_mem hv
  exact ⟨k, by rw [ow_len]; exact hk, by rw [ow_gt hk, gi_eq hk, e]⟩
theorem ow_of {k : Nat} (hk : k < (ow l).length) : ∃ v ∈ VL l, gt (ow l) k = gt l v := by
  rw [ow_len] at hk
  exact ⟨_, gi_mem hk, ow_gt hk⟩
theorem VL_len (l : List Tr) : (VL l).length ≤ l.length := by
  unfold VL
  have := List.length_filter_le (fun i => (facetsL l).any fun f => (vfN l f).contains i) (List.range l.length)
  rw [List.length_range] at this; exact this
theorem S3.own (s : S3 l) : S3 (ow l) := by
  refine ⟨s.hl.pick _, by rw [ow_len]; have := VL_len l; have := s.h6; omega, ?_⟩
  have hL := facets_pos s.hl ((dim3_iff l).2 s.hS)
  have hf := gf_mem hL
  have F := s.fx hf
  have hc := F.three
  obtain ⟨u, w, gu, gw, A⟩ := s.at_ hf ((mem_vfN _).2 ⟨0, by omega, rfl⟩)
  generalize gi (gf (facetsL l) 0).s (gi (cornF l (gf (facetsL l) 0)) 0) = v at A
  generalize gf (facetsL l) 0 = f at *
  have vV := s.mem.2 ⟨f, A.mf, A.nb.mv⟩
  obtain ⟨u2, w2, nb2⟩ := (s.fx A.mgu).nb ((s.onf vV A.mgu).2 A.vu)
  have G := s.fx A.mgu
  have hx : ∃ x, x ∈ vfN l gu ∧ tcr (dv l v u) (dv l v x) ≠ tz := by
    by_cases e : tcr (dv l v u) (dv l v u2) = tz
    · refine ⟨w2, nb2.mw, fun e2 => nb2.ind (cr_par (dv_ne A.nb.ne_u) e e2)⟩
    · exact ⟨u2, nb2.mu, e⟩
  obtain ⟨x, hx, hxn⟩ := hx
  have hxs := G.vs hx
  have hfx : tdot f.n (dv l v x) ≠ 0 := fun e => A.ne1 s (fac_same s.hl s.h6 s.hS A.mf A.mgu (A.vf s) A.vu (perp2_par hxn (F.d0 (A.vf s) (A.uf s)) e (G.d0 A.vu A.uu) (G.d0 A.vu hxs)))
  obtain ⟨c1, c2, c3⟩ := perp_comp' (F.d0 (A.vf s) (A.uf s)) (F.d0 (A.vf s) (A.wf s))
  have hdet : det (dv l v u) (dv l v w) (dv l v x) ≠ 0 := fun e => by
    have : tdot f.n f.n * det (dv l v u) (dv l v w) (dv l v x) = det f.n (dv l v u) (dv l v w) * tdot f.n (dv l v x) := by
      show tdot f.n f.n * tdot (tcr (dv l v u) (dv l v w)) (dv l v x) = _
      generalize tcr (dv l v u) (dv l v w) = T at *
      rw [show tdot T (dv l v x) = T.x * (dv l v x).x + T.y * (dv l v x).y + T.z * (dv l v x).z from rfl, show tdot f.n (dv l v x) = f.n.x * (dv l v x).x + f.n.y * (dv l v x).y + f.n.z * (dv l v x).z from rfl]
      generalize tdot f.n f.n = N at *
      grind
    rw [e, Int.mul_zero] at this
    have := A.nb.st
    rcases Int.mul_eq_zero.1 (show det f.n (dv l v u) (dv l v w) * tdot f.n (dv l v x) = 0 by omega) with h | h
    · omega
    · exact hfx h
  obtain ⟨kv, h1, e1⟩ := ow_ix vV
  obtain ⟨ku, h2, e2⟩ := ow_ix (A.uV s)
  obtain ⟨kw, h3, e3⟩ := ow_ix (A.wV s)
  obtain ⟨kx, h4, e4⟩ := ow_ix (s.mem.2 ⟨gu, A.mgu, hx⟩)
  exact ⟨kv, ku, kw, kx, h1, h2, h3, h4, by rw [e1, e2, e3, e4]; exact hdet⟩
theorem S3.four (s : S3 l) : 4 ≤ l.length := by
  obtain ⟨a, b, c, d, ha, hb, hc, hd, h⟩ := s.hS
  obtain ⟨i, j, k, h1, h2, h3, h4⟩ := sorted3 (P := fun a b c => six (gt l a) (gt l b) (gt l c) (gt l d) ≠ 0) (fun a b c h => by rw [six12]; omega) (fun a b c h => by rw [six23]; omega) (fun a b h => h (six_aa _ _ _)) ha hb hc h
  rcases (by omega : 4 ≤ l.length ∨ (l.length = 3 ∧ i = 2 ∧ j = 1 ∧ k = 0)) with e | ⟨e, rfl, rfl, rfl⟩
  · exact e
  · exfalso
    rcases (by omega : d = 0 ∨ d = 1 ∨ d = 2) with rfl | rfl | rfl
    · apply h4; simp only [six, tac, tdot, tcr, tsub]; grind
    · apply h4; simp only [six, tac, tdot, tcr, tsub]; grind
    · apply h4; simp only [six, tac, tdot, tcr, tsub]; grind
theorem S3.fac_own (s : S3 l) {f : Fc} (hf : f ∈ facetsL l) : ∃ g ∈ facetsL (ow l), g.n = f.n ∧ g.m = f.m := by
  have O := s.own
  have F := s.fx hf
  have hc := F.three
  obtain ⟨u, w, gu, gw, A⟩ := s.at_ hf ((mem_vfN _).2 ⟨0, by omega, rfl⟩)
  generalize gi f.s (gi (cornF l f) 0) = v at A
  obtain ⟨kv, h1, e1⟩ := ow_ix (A.vV s)
  obtain ⟨ku, h2, e2⟩ := ow_ix (A.uV s)
  obtain ⟨kw, h3, e3⟩ := ow_ix (A.wV s)
  have d2 : dv (ow l) kv ku = dv l v u := by unfold dv; rw [e1, e2]
  have d3 : dv (ow l) kv kw = dv l v w := by unfold dv; rw [e1, e3]
  obtain ⟨g, hg, hvg, a, b, ha, hb, hab⟩ := facet_of O.hS h1 h2 h3 (g := f.n) (fun i hi => by
    obtain ⟨x, hx, ex⟩ := ow_of hi
    have : dv (ow l) kv i = dv l v x := by unfold dv; rw [e1, ex]
    rw [this]; exact F.le (A.vf s) (s.vxm hx).lt) F.n0 (by rw [d2]; exact F.d0 (A.vf s) (A.uf s)) (by rw [d3]; exact F.d0 (A.vf s) (A.wf s)) (by rw [d2, d3]; exact A.nb.ind)
  have en : g.n = f.n := same_dir (fac_tg O.hS hg) (fac_tg s.hS hf) hb ha (fun z => (hab z).symm)
  refine ⟨g, hg, en, ?_⟩
  have := ((O.fx hg).ms.1 hvg).2
  rw [← this, en, e1, (F.ms.1 (A.vf s)).2]
theorem S3.fac_back (s : S3 l) {g : Fc} (hg : g ∈ facetsL (ow l)) : ∃ f ∈ facetsL l, f.n = g.n ∧ f.m = g.m := by
  have O := s.own
  have G := O.fx hg
  have hc := G.three
  obtain ⟨u, w, gu, gw, A⟩ := O.at_ hg ((mem_vfN _).2 ⟨0, by omega, rfl⟩)
  generalize gi g.s (gi (cornF (ow l) g) 0) = v at A
  obtain ⟨xv, h1, e1⟩ := ow_of (G.ms.1 (A.vf O)).1
  obtain ⟨xu, h2, e2⟩ := ow_of (G.ms.1 (A.uf O)).1
  obtain ⟨xw, h3, e3⟩ := ow_of (G.ms.1 (A.wf O)).1
  have d2 : dv l xv xu = dv (ow l) v u := by unfold dv; rw [e1, e2]
  have d3 : dv l xv xw = dv (ow l) v w := by unfold dv; rw [e1, e3]
  obtain ⟨t, htV, htm⟩ := s.vmax g.n
  obtain ⟨kt, hkt, ekt⟩ := ow_ix htV
  have ht : tdot g.n (gt l t) ≤ g.m := by rw [← ekt]; exact G.isF.le kt hkt
  have hv : tdot g.n (gt l xv) = g.m := by rw [← e1]; exact (G.ms.1 (A.vf O)).2
  obtain ⟨f, hf, hvf, a, b, ha, hb, hab⟩ := facet_of s.hS (s.vxm h1).lt (s.vxm h2).lt (s.vxm h3).lt (g := g.n) (fun i hi => by rw [dv_dot, hv]; have := htm i hi; omega) G.n0 (by rw [d2]; exact G.d0 (A.vf O) (A.uf O)) (by rw [d3]; exact G.d0 (A.vf O) (A.wf O)) (by rw [d2, d3]; exact A.nb.ind)
  have en : f.n = g.n := same_dir (fac_tg s.hS hf) (fac_tg O.hS hg) hb ha (fun z => (hab z).symm)
  refine ⟨f, hf, en, ?_⟩
  have := ((s.fx hf).ms.1 hvf).2
  rw [← this, en, hv]
def strip (f : Fc) : Fc := ⟨f.n, f.m, []⟩
theorem S3.shed (s : S3 l) : (facetsL (ow l)).map strip = (facetsL l).map strip := by
  have lex : ∀ {L : List Fc}, LexS L → LexS (L.map strip) := fun {L} h => by
    unfold LexS at *
    rw [List.pairwise_map]; exact h
  refine LexS.eq (lex facets_mem.1) (lex facets_mem.1) fun f => ?_
  rw [List.mem_map, List.mem_map]
  constructor
  · rintro ⟨g, hg, rfl⟩
    obtain ⟨k, hk, e1, e2⟩ := s.fac_back hg
    exact ⟨k, hk, by unfold strip; rw [e1, e2]⟩
  · rintro ⟨g, hg, rfl⟩
    obtain ⟨k, hk, e1, e2⟩ := s.fac_own hg
    exact ⟨k, hk, by unfold strip; rw [e1, e2]⟩
/-- All points are behind the facets of the vertices. -/
theorem S3.behind (s : S3 l) {g : Fc} (hg : g ∈ facetsL (ow l)) {i : Nat} (hi : i < l.length) : tdot g.n (gt l i) ≤ g.m := by
  obtain ⟨f, hf, e1, e2⟩ := s.fac_back hg
  rw [← e1, ← e2]; exact (s.fx hf).isF.le i hi
/-- The others. -/
def wo (M : List Tr) (i : Nat) : List Tr := M.take i ++ M.drop (i + 1)
theorem wo_len {M : List Tr} {i : Nat} (hi : i < M.length) : (wo M i).length = M.length - 1 := by unfold wo; simp; omega
theorem wo_gt {M : List Tr} {i : Nat} (hi : i < M.length) (k : Nat) : gt (wo M i) k = gt M (if k < i then k else k + 1) := by
  unfold wo gt
  split
  · rename_i h
    simp only [List.getD]
    rw [List.getElem?_append_left (by simp; omega), List.getElem?_take_of_lt h]
  · rename_i h
    simp only [List.getD]
    rw [List.getElem?_append_right (by simp; omega), List.getElem?_drop]
    congr 2
    simp; omega
theorem S3.dist (s : S3 l) {i k : Nat} (hi : i < (ow l).length) (hk : k < (ow l).length) (hne : k ≠ i) : ∃ v x, v ∈ VL l ∧ x ∈ VL l ∧ gt (ow l) i = gt l v ∧ gt (ow l) k = gt l x ∧ gt l x ≠ gt l v := by
  rw [ow_len] at hi hk
  refine ⟨_, _, gi_mem hi, gi_mem hk, ow_gt hi, ow_gt hk, s.place (gi_mem hk) (gi_mem hi) fun e => hne ?_⟩
  rw [gi_eq hi, gi_eq hk] at e
  exact (List.getElem_inj (VL_nd l)).1 e
/-- A vertex lies in front of the others. -/
theorem S3.front (s : S3 l) {i : Nat} (hi : i < (ow l).length) : ∃ h : Tr, ∀ k, k < (wo (ow l) i).length → tdot h (gt (wo (ow l) i) k) < tdot h (gt (ow l) i) := by
  obtain ⟨v, hv, ev⟩ := ow_of hi
  obtain ⟨h, hh⟩ := (s.vxm hv).ex
  refine ⟨h, fun k hk => ?_⟩
  rw [wo_len hi] at hk
  rw [wo_gt hi]
  obtain ⟨v', x, hv', hx, e1, e2, hne⟩ := s.dist hi (k := if k < i then k else k + 1) (by split <;> omega) (by split <;> omega)
  have e3 : gt l v = gt l v' := by rw [← ev, e1]
  have := hh x (s.vxm hx).lt (by rw [e3]; exact hne)
  rw [dv_dot] at this
  rw [e2, ev]; omega
/-- The others are points of a plane, in which the vertex is not, or have a facet behind it. -/
theorem S3.alone (s : S3 l) {i : Nat} (hi : i < (ow l).length) (hd : (spn (wo (ow l) i)).dim ≠ 3) : (spn (wo (ow l) i)).dim = 2 ∧ tdot (tpr (spn (wo (ow l) i)).way) (tsub (gt (ow l) i) (spn (wo (ow l) i)).pt) ≠ 0 := by
  have O := s.own
  have h4 := O.four
  have hI := SpI.to (wo (ow l) i) (wo (ow l) i).length (Nat.le_refl _)
  rw [show spTo (wo (ow l) i) (wo (ow l) i).length = spn (wo (ow l) i) from rfl] at hI
  have hlen := wo_len hi
  -- all vertices in a plane: no
  have flat : ∀ (n q : Tr), n ≠ tz → (∀ k, k < (wo (ow l) i).length → tdot n (tsub (gt (wo (ow l) i) k) q) = 0) → tdot n (tsub (gt (ow l) i) q) = 0 → False := fun n q hn h1 h2 => by
    obtain ⟨j, hj, hne⟩ := off_plane O.hS hn (tdot n q)
    have sub : ∀ p, tdot n (tsub p q) = tdot n p - tdot n q := fun p => by simp only [tdot, tsub]; grind
    apply hne
    by_cases e : j = i
    · rw [e]; rw [sub] at h2; omega
    · have := h1 (if j < i then j else j - 1) (by rw [hlen]; split <;> omega)
      rw [wo_gt hi, sub] at this
      have e2 : (if (if j < i then j else j - 1) < i then (if j < i then j else j - 1) else (if j < i then j else j - 1) + 1) = j := by
        by_cases c : j < i
        · rw [if_pos c, if_pos c]
        · rw [if_neg c, if_neg (by omega)]; omega
      rw [e2] at this; omega
  rcases hI.rg with h | h | h | h | h
  · have := hI.no h; omega
  · exfalso
    have hall := hI.d0 h
    by_cases e : tsub (gt (ow l) i) (spn (wo (ow l) i)).pt = tz
    · exact flat ⟨1, 0, 0⟩ _ (by decide) (fun k hk => by rw [hall k hk, tsub_s, tdot_z]) (by rw [e, tdot_z])
    · obtain ⟨c, hc, hc0⟩ := perp_ex e
      exact flat c _ hc (fun k hk => by rw [hall k hk, tsub_s, tdot_z]) hc0
  · exfalso
    obtain ⟨hw, hall⟩ := hI.d1 h
    by_cases e : tcr (spn (wo (ow l) i)).way (tsub (gt (ow l) i) (spn (wo (ow l) i)).pt) = tz
    · obtain ⟨c, hc, hc0⟩ := perp_ex hw
      exact flat c _ hc (fun k hk => par_f hw (hall k hk) hc0) (par_f hw e hc0)
    · exact flat _ _ e (fun k hk => par_cr (hall k hk)) (tdot_cr2 _ _)
  · refine ⟨h, fun e => ?_⟩
    obtain ⟨hw, hall⟩ := hI.d2 h
    exact flat _ _ hw hall ((tpr_dot0 hw _).1 e)
  · exact absurd h hd
end
end Go.Proofs.YtdoppiajbpmmkaaGreat
