/- A part of the proof that TouchBears returns true at every input and that the input reads behind the call as it read before; this part states nothing of its own that is claimed. -/
import Derived.Test.YtgepmbjmaljgoaaGreatDoorCai
import Derived.Test.YtgepmbjmaljgoaaGreatDoorCak
import Derived.Test.YtgepmbjmaljgoaaGreatDoorCaq
import Derived.Test.YtgepmbjmaljgoaaGreatDoorCar
import Derived.Test.YtgepmbjmaljgoaaGreatDoorSac
set_option linter.unusedVariables false
set_option linter.unusedSimpArgs false
section
namespace Go.Proofs.YtgepmbjmaljgoaaGreatDoor.H
open Go Go.Vc Go.RowKit
theorem line_str {L : List Pt} {a b : Pt} (hne : a ≠ b) (h : ∀ i, i < L.length → crs a b (gp L i) = 0) : strB L = true := by
  unfold strB
  simp only [List.all_eq_true, List.mem_range, decide_eq_true_eq]
  intro i hi j hj m hm
  have h1 := h i hi
  have h2 := h j (by omega)
  have h3 := h m (by omega)
  have hd : ¬ ((sub b a).x = 0 ∧ (sub b a).y = 0) := by
    rintro ⟨e1, e2⟩
    apply hne
    unfold sub at e1 e2
    dsimp only at e1 e2
    obtain ⟨ax, ay⟩ := a
    obtain ⟨bx, by'⟩ := b
    dsimp only at e1 e2
    rw [show ax = bx by omega, show ay = by' by omega]
  refine trn_par hd ?_ ?_
  · unfold crs trn sub at h1 h2
    unfold trn sub
    dsimp only at *
    grind
  · unfold crs trn sub at h1 h3
    unfold trn sub
    dsimp only at *
    grind
theorem crs_sw (a b p : Pt) : crs b a p = - crs a b p := by unfold crs trn sub; dsimp only; grind
theorem arr_len3 {L : List Pt} (h : chk L = 0) (h0 : 0 < L.length) (hs : strB L = false) : 3 ≤ (arr L).length := by
  have H := G.hull_ok h h0
  have hp := H.pos
  rcases (by omega : (arr L).length = 1 ∨ (arr L).length = 2 ∨ 3 ≤ (arr L).length) with h1 | h1 | h1
  · exfalso
    have hS := G.s_ok h h0
    have hcl : (cpt L (ordN L)).length < 2 := by
      rcases Nat.lt_or_ge (cpt L (ordN L)).length 2 with h2 | h2
      · exact h2
      · exfalso
        obtain ⟨p0, pm, hp0, _, T⟩ := G.two_of hS.sm hS.inc h2
        have e := G.arr_two h2
        have := T.len1
        have := T.len2
        rw [e, List.length_append, List.length_reverse, List.length_tail, List.length_reverse, List.length_tail] at h1
        omega
    have hall : ∀ i, i < L.length → ∀ j, j < L.length → gp L i = gp L j := fun i hi j hj => by
      obtain ⟨x, hx, e1, _⟩ := hS.cover i hi
      obtain ⟨y, hy, e2, _⟩ := hS.cover j hj
      have hxy : x = y := by
        match hc : cpt L (ordN L), hcl, hx, hy with
        | [s], _, hx, hy => rw [List.mem_singleton.1 hx, List.mem_singleton.1 hy]
        | [], _, hx, _ => simp at hx
      rw [← e1, ← e2, hxy]
    have : strB L = true := by
      unfold strB
      simp only [List.all_eq_true, List.mem_range, decide_eq_true_eq]
      intro i hi j hj m hm
      rw [hall j (by omega) i hi, hall m (by omega) i hi]
      unfold crs trn sub; grind
    rw [hs] at this; cases this
  · exfalso
    have e0 := H.edge (by omega) 0 (by omega)
    have e1 := H.edge (by omega) 1 (by omega)
    rw [h1] at e0 e1
    have hn : gi (arr L) 0 ≠ gi (arr L) 1 := H.ne (by omega) (by omega) (by omega)
    have l0 := H.lt 0 (by omega)
    have l1 := H.lt 1 (by omega)
    have m0 : gi (arr L) 0 ∈ arr L := by rw [gi_eq (by omega)]; exact List.getElem_mem _
    have m1 : gi (arr L) 1 ∈ arr L := by rw [gi_eq (by omega)]; exact List.getElem_mem _
    have v0 := (H.mem _ l0).1 m0
    have v1 := (H.mem _ l1).1 m1
    have hne : gp L (gi (arr L) 0) ≠ gp L (gi (arr L) 1) := by
      intro e
      have key : ∀ a b : Nat, a < b → vtx L b = true → gp L a ≠ gp L b := by
        intro a b hab hv e
        unfold vtx at hv
        rw [Bool.and_eq_true, Bool.not_eq_true'] at hv
        have := List.any_eq_false.1 hv.1 a (List.mem_range.2 hab)
        simp [e] at this
      rcases Nat.lt_or_gt_of_ne hn with h2 | h2
      · exact key _ _ h2 v1 e
      · exact key _ _ h2 v0 e.symm
    have := line_str (L := L) hne (fun i hi => by
      have a1 := e0 i hi
      have a2 := e1 i hi
      simp only [Nat.zero_add, Nat.one_mod_eq_one.2 (by decide : (2 : Nat) ≠ 1), Nat.mod_self, Nat.reduceAdd] at a1 a2
      rw [crs_sw] at a2
      omega)
    rw [hs] at this; cases this
  · exact h1
theorem loc_eq {L : List Pt} {p : Pt} (h : chk L = 0) (h0 : 0 < L.length) (hs : strB L = false) (hp : rightB p = true) : locN L p = if (List.range (arr L).length).any (fun k => decide (edg L (arr L) p k < 0)) then -1 else locTo L (arr L) p (arr L).length := by
  have h3 := arr_len3 h h0 hs
  have he : errL L p = 0 := by unfold errL; rw [if_neg (fun e => e h), if_neg (by rw [hp]; decide), if_neg (by omega)]
  unfold locN
  rw [if_pos he]
  unfold locV
  rw [if_neg (by omega)]
theorem loc_in {L : List Pt} {p : Pt} (h : chk L = 0) (h0 : 0 < L.length) (hs : strB L = false) (hp : rightB p = true) (hl : 0 ≤ locN L p) : inH L p = true := by
  have h3 := arr_len3 h h0 hs
  rw [loc_eq h h0 hs hp] at hl
  have hed : ∀ k, k < (arr L).length → 0 ≤ G.edgG L (arr L) p k := by
    split at hl
    · omega
    · rename_i hn
      intro k hk
      have : ¬ edg L (arr L) p k < 0 := fun hh => hn (List.any_eq_true.2 ⟨k, List.mem_range.2 hk, decide_eq_true hh⟩)
      show 0 ≤ edg L (arr L) p k
      omega
  have hS := G.s_ok h h0
  rcases Nat.lt_or_ge (cpt L (ordN L)).length 2 with h2 | h2
  · exfalso
    have e : arr L = cpt L (ordN L) := by rw [arr, if_pos (by omega)]
    rw [e] at h3; omega
  · obtain ⟨p0, pm, hp0, _, T⟩ := G.two_of hS.sm hS.inc h2
    have e := G.arr_two h2
    exact G.loc_two hS T hp0 e h3 (right_sm hp) hed
theorem loc_out {L : List Pt} {p : Pt} (h : chk L = 0) (h0 : 0 < L.length) (hs : strB L = false) (hp : rightB p = true) (hl : locN L p < 0) : ∃ a b : Pt, (∀ i, i < L.length → 0 ≤ crs a b (gp L i)) ∧ crs a b p < 0 := by
  have h3 := arr_len3 h h0 hs
  rw [loc_eq h h0 hs hp] at hl
  split at hl
  · rename_i hy
    obtain ⟨k, hk, hh⟩ := List.any_eq_true.1 hy
    exact ⟨_, _, fun i hi => (G.hull_ok h h0).edge (by omega) k (List.mem_range.1 hk) i hi, of_decide_eq_true hh⟩
  · unfold locTo at hl
    split at hl <;> omega
theorem sq_nn (x : Rat) : 0 ≤ x * x := by
  by_cases h : 0 ≤ x
  · exact Rat.mul_nonneg h h
  · have := Rat.mul_nonneg (a := -x) (b := -x) (by grind) (by grind)
    grind
theorem crs_rat (a b c : Pt) : ((crs a b c : Int) : Rat) = ((b.x : Rat) - a.x) * ((c.y : Rat) - a.y) - ((b.y : Rat) - a.y) * ((c.x : Rat) - a.x) := by
  unfold crs trn sub
  simp only [Rat.intCast_sub, Rat.intCast_mul]
theorem inH_lin {L : List Pt} {p : Pt} (h : inH L p = true) {d0 d1 d2 : Rat} (hd : ∀ i, i < L.length → d0 + (d1 * ((gp L i).x : Rat) + d2 * ((gp L i).y : Rat)) ≤ 0) : d0 + (d1 * (p.x : Rat) + d2 * (p.y : Rat)) ≤ 0 := by
  obtain ⟨i, hi, h1 | ⟨j, hj, h1 | ⟨k, hk, h1⟩⟩⟩ := (G.inH_iff L p).1 h
  · rw [← h1]; exact hd i hi
  · obtain ⟨h2, h3⟩ := (G.btw_iff _ _ _).1 h1
    have da := hd i hi
    have db := hd j (by omega)
    generalize gp L i = a at *
    generalize gp L j = b at *
    have c2 : ((crs a b p : Int) : Rat) = 0 := by rw [h2]; rfl
    rw [crs_rat] at c2
    have c3 : ((dot (sub a p) (sub b p) : Int) : Rat) ≤ 0 := by
      have := Rat.intCast_le_intCast.2 h3
      simpa using this
    have c4 : ((dot (sub a p) (sub b p) : Int) : Rat) = ((a.x : Rat) - p.x) * ((b.x : Rat) - p.x) + ((a.y : Rat) - p.y) * ((b.y : Rat) - p.y) := by
      unfold dot sub
      simp only [Rat.intCast_sub, Rat.intCast_mul, Rat.intCast_add]
    rw [c4] at c3
    generalize (a.x : Rat) = ax at *
    generalize (a.y : Rat) = ay at *
    generalize (b.x : Rat) = bx at *
    generalize (b.y : Rat) = by' at *
    generalize (p.x : Rat) = px at *
    generalize (p.y : Rat) = py at *
    by_cases hp : d0 + (d1 * px + d2 * py) ≤ 0
    · exact hp
    · exfalso
      have hu : d1 * (ax - px) + d2 * (ay - py) < 0 := by grind
      have hw : d1 * (bx - px) + d2 * (by' - py) < 0 := by grind
      have hs : 0 ≤ (ax - px) * (ax - px) + (ay - py) * (ay - py) := by
        have q1 : 0 ≤ (ax - px) * (ax - px) := sq_nn _
        have q2 : 0 ≤ (ay - py) * (ay - py) := sq_nn _
        grind
      have e : ((ax - px) * (ax - px) + (ay - py) * (ay - py)) * (d1 * (bx - px) + d2 * (by' - py)) = ((ax - px) * (bx - px) + (ay - py) * (by' - py)) * (d1 * (ax - px) + d2 * (ay - py)) := by grind
      have r1 : 0 ≤ ((ax - px) * (bx - px) + (ay - py) * (by' - py)) * (d1 * (ax - px) + d2 * (ay - py)) := by
        have := Rat.mul_nonneg (a := -((ax - px) * (bx - px) + (ay - py) * (by' - py))) (b := -(d1 * (ax - px) + d2 * (ay - py))) (by grind) (by grind)
        grind
      have r2 : 0 ≤ ((ax - px) * (ax - px) + (ay - py) * (ay - py)) * -(d1 * (bx - px) + d2 * (by' - py)) := Rat.mul_nonneg hs (by grind)
      have r3 : ((ax - px) * (ax - px) + (ay - py) * (ay - py)) * (d1 * (bx - px) + d2 * (by' - py)) = 0 := by grind
      rcases Rat.mul_eq_zero.1 r3 with r4 | r4
      · have q1 : 0 ≤ (ax - px) * (ax - px) := sq_nn _
        have q2 : 0 ≤ (ay - py) * (ay - py) := sq_nn _
        have z1 : (ax - px) * (ax - px) = 0 := by grind
        have z2 : (ay - py) * (ay - py) = 0 := by grind
        have z3 : ax - px = 0 := by rcases Rat.mul_eq_zero.1 z1 with h | h <;> exact h
        have z4 : ay - py = 0 := by rcases Rat.mul_eq_zero.1 z2 with h | h <;> exact h
        rw [z3, z4] at hu
        grind
      · grind
  · obtain ⟨h2, h3⟩ := (G.wth_iff _ _ _ _).1 h1
    have da := hd i hi
    have db := hd j (by omega)
    have dc := hd k (by omega)
    generalize gp L i = a at *
    generalize gp L j = b at *
    generalize gp L k = c at *
    have e : ((crs a b c : Int) : Rat) * (d0 + (d1 * (p.x : Rat) + d2 * (p.y : Rat))) = ((crs b c p : Int) : Rat) * (d0 + (d1 * (a.x : Rat) + d2 * (a.y : Rat))) + ((crs c a p : Int) : Rat) * (d0 + (d1 * (b.x : Rat) + d2 * (b.y : Rat))) + ((crs a b p : Int) : Rat) * (d0 + (d1 * (c.x : Rat) + d2 * (c.y : Rat))) := by
      simp only [crs_rat]
      grind
    have hsum : ((crs a b c : Int) : Rat) = ((crs b c p : Int) : Rat) + ((crs c a p : Int) : Rat) + ((crs a b p : Int) : Rat) := by
      simp only [crs_rat]
      grind
    have hne : ((crs a b c : Int) : Rat) ≠ 0 := by exact_mod_cast h2
    have nn : ∀ {x : Int}, 0 ≤ x → (0 : Rat) ≤ (x : Rat) := fun hx => by simpa using Rat.intCast_le_intCast.2 hx
    have np : ∀ {x : Int}, x ≤ 0 → (x : Rat) ≤ (0 : Rat) := fun hx => by simpa using Rat.intCast_le_intCast.2 hx
    generalize d0 + (d1 * (p.x : Rat) + d2 * (p.y : Rat)) = D at *
    generalize d0 + (d1 * (a.x : Rat) + d2 * (a.y : Rat)) = Da at *
    generalize d0 + (d1 * (b.x : Rat) + d2 * (b.y : Rat)) = Db at *
    generalize d0 + (d1 * (c.x : Rat) + d2 * (c.y : Rat)) = Dc at *
    rcases h3 with ⟨g1, g2, g3⟩ | ⟨g1, g2, g3⟩
    · have k1 := nn g1
      have k2 := nn g2
      have k3 := nn g3
      generalize ((crs a b c : Int) : Rat) = W at *
      generalize ((crs b c p : Int) : Rat) = w1 at *
      generalize ((crs c a p : Int) : Rat) = w2 at *
      generalize ((crs a b p : Int) : Rat) = w3 at *
      have m1 := Rat.mul_nonneg (a := w1) (b := -Da) k2 (by grind)
      have m2 := Rat.mul_nonneg (a := w2) (b := -Db) k3 (by grind)
      have m3 := Rat.mul_nonneg (a := w3) (b := -Dc) k1 (by grind)
      have hW : 0 < W := by grind
      by_cases hD : 0 < D
      · have := Rat.mul_pos hW hD
        grind
      · grind
    · have k1 := np g1
      have k2 := np g2
      have k3 := np g3
      generalize ((crs a b c : Int) : Rat) = W at *
      generalize ((crs b c p : Int) : Rat) = w1 at *
      generalize ((crs c a p : Int) : Rat) = w2 at *
      generalize ((crs a b p : Int) : Rat) = w3 at *
      have m1 := Rat.mul_nonneg (a := -w1) (b := -Da) (by grind) (by grind)
      have m2 := Rat.mul_nonneg (a := -w2) (b := -Db) (by grind) (by grind)
      have m3 := Rat.mul_nonneg (a := -w3) (b := -Dc) (by grind) (by grind)
      have hW : 0 < -W := by grind
      by_cases hD : 0 < D
      · have := Rat.mul_pos hW hD
        grind
      · grind
theorem inH_sub {L M : List Pt} {p : Pt} (hm : ∀ i, i < L.length → ∃ j, j < M.length ∧ gp M j = gp L i) (h : inH L p = true) : inH M p = true := by
  obtain ⟨i, hi, h1 | ⟨j, hj, h1 | ⟨k, hk, h1⟩⟩⟩ := (G.inH_iff L p).1 h
  · obtain ⟨i', hi', ei⟩ := hm i hi
    exact G.inH_eq hi' (by rw [ei]; exact h1)
  · obtain ⟨i', hi', ei⟩ := hm i hi
    obtain ⟨j', hj', ej⟩ := hm j (by omega)
    exact G.inH_seg hi' hj' (by rw [ei, ej]; exact h1)
  · obtain ⟨i', hi', ei⟩ := hm i hi
    obtain ⟨j', hj', ej⟩ := hm j (by omega)
    obtain ⟨k', hk', ek⟩ := hm k (by omega)
    exact G.inH_tri hi' hj' hk' (by rw [ei, ej, ek]; exact (G.wth_iff _ _ _ _).1 h1)
theorem bears_iff {l : List Tr} {k : Nat} (hk : k < 3) (hR : RT l) (h6 : l.length ≤ 64) (hs : strB (plcs l k) = false) {p : Pt} (hp : rightB p = true) : (∃ P, P ∈ candP l k ∧ bearB l k p P = true) ↔ inH (plcs l k) p = true := by
  have facts : ∀ P, P ∈ candP l k → chk (plP l k P.s) = 0 ∧ 0 < (plP l k P.s).length ∧ strB (plP l k P.s) = false ∧ (plP l k P.s).length = P.s.length := fun P hP => by
    obtain ⟨hon, hpos⟩ := cand_on hk hP
    have hlen : (plP l k P.s).length = P.s.length := by unfold plP; rw [List.length_map]
    have := onL_len' l k P.A P.B P.C l.length
    exact ⟨chk_plP hR k (by rw [hon]; omega), by omega, cand_str hk hP, hlen⟩
  constructor
  · rintro ⟨P, hP, hb⟩
    obtain ⟨f1, f2, f3, f4⟩ := facts P hP
    obtain ⟨hon, _⟩ := cand_on hk hP
    have := loc_in f1 f2 f3 hp (of_decide_eq_true hb)
    refine inH_sub (fun i hi => ?_) this
    rw [f4] at hi
    have hlt : gi P.s i < l.length := by
      have : gi P.s i ∈ onL l k P.A P.B P.C l.length := by rw [← hon, gi_eq hi]; exact List.getElem_mem hi
      exact onL_lt' this
    exact ⟨gi P.s i, by rw [plcs_len]; exact hlt, by rw [gp_plcs hlt, gp_plP hi]⟩
  · intro h
    obtain ⟨P, hP, hd⟩ := bears_ex hk hR hs (p.x : Rat) (p.y : Rat) (fun d0 d1 d2 hpos => by
      apply Classical.byContradiction
      intro hno
      have := inH_lin h (d0 := d0) (d1 := d1) (d2 := d2) (fun i hi => by
        rw [plcs_len] at hi
        rw [gp_plcs hi]
        by_cases hc : 0 < dv (fU l k) (fV l k) d0 d1 d2 i
        · exact absurd ⟨i, hi, hc⟩ hno
        · unfold dv fU fV at hc
          grind)
      grind)
    refine ⟨P, hP, ?_⟩
    obtain ⟨f1, f2, f3, f4⟩ := facts P hP
    by_cases hb : 0 ≤ locN (plP l k P.s) p
    · exact decide_eq_true hb
    · exfalso
      obtain ⟨a, b, e1, e2⟩ := loc_out f1 f2 f3 hp (by omega)
      have lin : ∀ q : Pt, ((crs a b q : Int) : Rat) = -((((b.x : Rat) - a.x) * a.y - ((b.y : Rat) - a.y) * a.x) + (((b.y : Rat) - a.y) * (q.x : Rat) + -((b.x : Rat) - a.x) * (q.y : Rat))) := fun q => by
        rw [crs_rat]; grind
      have := hd (((b.x : Rat) - a.x) * a.y - ((b.y : Rat) - a.y) * a.x) ((b.y : Rat) - a.y) (-((b.x : Rat) - a.x)) (fun i hi => by
        obtain ⟨j, hj, e⟩ := List.getElem_of_mem hi
        have h1 := e1 j (by rw [f4]; exact hj)
        rw [gp_plP hj, gi_eq hj, e] at h1
        have h2 : (0 : Rat) ≤ ((crs a b (plc k (gt l i)) : Int) : Rat) := by simpa using Rat.intCast_le_intCast.2 h1
        rw [lin] at h2
        unfold dv fU fV
        grind)
      have h3 : ((crs a b p : Int) : Rat) < 0 := by simpa using Rat.intCast_lt_intCast.2 e2
      rw [lin] at h3
      grind
end Go.Proofs.YtgepmbjmaljgoaaGreatDoor.H
end
section
namespace Go.Vc
open Go Go.RowKit
section
variable {P : Program} {E : Env} {T T' : Tab} {O O' : Own} {d : Option Tmp} {ty : TypeId} {pos : String} {af : Array Edge} {g : Option (Nat × Bool)}
def opφ (b : Nat) (ty : TypeId) (sz n cap : Nat) (f : Nat → Nat → AV) : Zone → World → Value → Obj → Prop := fun Z w v ob =>
  (∃ m, v = .slice (some ⟨b, 0, none⟩) m cap) ∧ n ≤ cap ∧ cap ≤ maxLen ∧ ∃ arr, ob = .cells arr ty (0, 0) ∧ arr.size = cap * sz ∧ ∀ i, i < n → ∀ j, j < sz → ∃ u, arr[i * sz + j]? = some u ∧ (f i j).ok Z w u
theorem op_st (b : Nat) (ty : TypeId) (sz n cap : Nat) (f : Nat → Nat → AV) : RStable (opφ b ty sz n cap f) := by
  rintro Z Z' w w' v ob h1 h2 h3 ⟨h4, h5, h6, arr, h7, h8, h9⟩
  exact ⟨h4, h5, h6, arr, h7, h8, fun i hi j hj => let ⟨u, hu, hk⟩ := h9 i hi j hj; ⟨u, hu, AV.ok_mono h1 h2 h3 _ _ hk⟩⟩
abbrev Res.op (b : Nat) (ty : TypeId) (sz n cap : Nat) (f : Nat → Nat → AV) : Res := .obj (opφ b ty sz n cap f) (op_st b ty sz n cap f)
theorem SV.frz_is {Z : Zone} {ν : Vals} {w : World} {r : Nat} {τ : AV} (hτ : τ.ok Z w (ν r)) (s : SV) (v : Value) (h : s.ok Z ν w v) : (s.frz r τ).ok Z ν w v := by
  cases s with
  | osl s =>
    cases hb : Nat.beq s r with
    | true =>
      have := Nat.eq_of_beq_eq_true hb
      subst this
      have e : (SV.osl s).frz s τ = .av τ := by simp [SV.frz]
      have h' : v = ν s := h
      rw [e, h']; exact hτ
    | false =>
      have e : (SV.osl s).frz r τ = .osl s := by simp [SV.frz, hb]
      rw [e]; exact h
  | av σ => exact h
  | oel s sz i j => unfold SV.frz; dsimp only; split <;> first | trivial | exact h
  | osx s sz lo n => unfold SV.frz; dsimp only; split <;> first | trivial | exact h
  | own s o => unfold SV.frz; dsimp only; split <;> first | trivial | exact h
  | clo k cs => unfold SV.frz; dsimp only; split <;> first | trivial | exact h
  | tupR s ρs => unfold SV.frz; dsimp only; split <;> first | trivial | exact h
  | agg cs => unfold SV.frz; dsimp only; split <;> first | trivial | exact h
  | tupC cs => unfold SV.frz; dsimp only; split <;> first | trivial | exact h
  | fnC k cs => unfold SV.frz; dsimp only; split <;> first | trivial | exact h
  | ocs s o n => unfold SV.frz; dsimp only; split <;> first | trivial | exact h
theorem SatZ.frzT {Z : Zone} {ν : Vals} {a : Act} {w : World} {r : Nat} {τ : AV} (h : SatZ E Z ν T O a w) (hτ : τ.ok Z w (ν r)) : SatZ E Z ν (T.frz r τ) O a w :=
  ⟨h.defers, h.tsize, h.cst, h.pin, h.base, h.own, fun k => by rw [Tab.get_frz]; exact SV.frz_is hτ _ _ (h.slot k)⟩
theorem SatZ.dropO {Z : Zone} {ν : Vals} {a : Act} {w : World} {r : Nat} (h : SatZ E Z ν T O a w) : SatZ E Z ν T (Own.drop r O) a w := by
  have hl : ∀ k x, look (Own.drop r O) k = some x → look O k = some x := fun k x hx => by
    rw [Own.look_drop] at hx
    split at hx
    · cases hx
    · exact hx
  have hn : ∀ k, look (Own.drop r O) k ≠ none → look O k ≠ none := fun k hk => by
    cases hx : look (Own.drop r O) k with
    | none => exact absurd hx hk
    | some x => rw [hl k x hx]; simp
  exact ⟨h.defers, h.tsize, h.cst, h.pin, h.base, ⟨fun k x hx => h.own.each k x (hl k x hx), fun k k' hne h1 h2 => h.own.apart k k' hne (hn k h1) (hn k' h2)⟩, h.slot⟩
theorem cq_open {Q : Exit → Act → World → Prop} {c : Code} (r : Nat) {ety sz n : Nat} {f : Nat → Nat → AV} (hr : look O r = some (.row ety sz n f))
    (h0 : n = 0 → CQ P E Q (T.frz r (.val (.slice none 0 0))) (Own.drop r O) c)
    (h1 : ∀ b cap, n ≤ cap → CQ P E Q (T.frz r (.val (.slice (some ⟨b, 0, none⟩) n cap))) ((r, .op b ety sz n cap f) :: O) c) : CQ P E Q T O c := by
  refine ⟨fun a w hsat => ?_⟩
  obtain ⟨Z, ν, hs⟩ := hsat
  rcases hs.own.each r _ hr with ⟨e1, e2⟩ | ⟨b, cap, arr, e1, e2, e3, e4, e5, e6, e7, e8⟩
  · exact (h0 e2).sq a w ⟨Z, ν, (hs.frzT (τ := .val (.slice none 0 0)) e1).dropO⟩
  · refine (h1 b cap e5).sq a w ⟨Z, ν, (hs.frzT (τ := .val (.slice (some ⟨b, 0, none⟩) n cap)) e1).reobj hr ?_⟩
    exact ⟨b, _, by rw [e1]; rfl, e2, e3, e4, ⟨n, e1⟩, e5, e6, arr, rfl, e7, e8⟩
theorem op_own {Z : Zone} {ν : Vals} {w : World} {v : Value} {b ety sz n cap : Nat} {f : Nat → Nat → AV} (h : Res.ok E Z ν w v (.op b ety sz n cap f)) :
    (∃ m, v = .slice (some ⟨b, 0, none⟩) m cap) ∧ ¬ E.keep b ∧ ¬ Z b ∧ n ≤ cap ∧ cap ≤ maxLen ∧ ∃ arr, w.heap[b]? = some (.cells arr ety (0, 0)) ∧ arr.size = cap * sz ∧ ∀ i, i < n → ∀ j, j < sz → ∃ u, arr[i * sz + j]? = some u ∧ (f i j).ok Z w u := by
  obtain ⟨b', ob, h1, h2, h3, h4, ⟨m, rfl⟩, h6, h7, arr, rfl, h8, h9⟩ := h
  have e : b = b' := by simpa [blkOf] using h1
  subst e
  exact ⟨⟨m, rfl⟩, h2, h3, h6, h7, arr, h4, h8, h9⟩
theorem ent_close (k r : Nat) {b ety sz n cap : Nat} {f : Nat → Nat → AV} (hd : T.get k = .av (.val (.slice (some ⟨b, 0, none⟩) n cap))) (hr : look O r = some (.op b ety sz n cap f)) (hp : Nat.blt r 1000 = true := by first | rfl | assumption) :
    Ent T O ((k, .osl r) :: T.kill r) ((r, .row ety sz n f) :: Own.kill r O) := by
  rintro E a w ⟨Z, ν, hs⟩
  obtain ⟨⟨m, e1⟩, e2, e3, e4, e5, arr, e6, e7, e8⟩ := op_own (hs.own.each r _ hr)
  have hv : a.tmps.getD k undef = .slice (some ⟨b, 0, none⟩) n cap := by have := hs.slot k; rw [hd] at this; exact this
  have hk := hs.kill r (.slice (some ⟨b, 0, none⟩) n cap) hp
  have hvr : updV ν r (.slice (some ⟨b, 0, none⟩) n cap) r = .slice (some ⟨b, 0, none⟩) n cap := if_pos rfl
  have hk' := hk.addRes r (.row ety sz n f) (by rw [hvr]; exact .inr ⟨b, cap, arr, rfl, e2, e3, e6, e4, e5, e7, e8⟩) (fun b' hb' r' hne hl => by
    rw [hvr] at hb'
    have hbb : b = b' := by simpa [blkOf] using hb'
    subst hbb
    rw [show updV ν r (.slice (some ⟨b, 0, none⟩) n cap) r' = ν r' from if_neg hne]
    rw [Own.look_kill, if_neg hne] at hl
    exact hs.own.apart r r' (fun e => hne e.symm) (by rw [hr]; simp) (by simpa using hl) b (by rw [e1]; rfl))
  refine ⟨Z, _, hk'.defers, hk'.tsize, hk'.cst, hk'.pin, hk'.base, hk'.own, fun k' => ?_⟩
  by_cases he : k = k'
  · subst he
    rw [Tab.get_cons_eq]
    show a.tmps.getD k undef = updV ν r _ r
    rw [hvr, hv]
  · rw [Tab.get_cons_ne _ _ he]; exact hk'.slot k'
theorem news_of {Z : Zone} {w : World} {b o m sz : Nat} {h : Nat → Nat → AV} (hpos : 0 < sz) (hcell : ∀ i, i < m → ∀ j, j < sz → ∃ u, w.cell? ⟨b, o + i * sz + j, none⟩ = some u ∧ (h i j).ok Z w u) (hone : ∀ i, i < m → ∀ j, j < sz → (h i j).one = true) :
    ∃ news : List Value, news.length = m * sz ∧ (∀ (j : Nat) u, news[j]? = some u → w.cell? ((⟨b, o, none⟩ : Addr).add j) = some u) ∧ (∀ i, i < m → ∀ j, j < sz → ∃ u, news[i * sz + j]? = some u ∧ (h i j).ok Z w u) ∧ ∀ u ∈ news, u.oneCell' = true := by
  have hnew : ∃ news : List Value, news.length = m * sz ∧ (∀ (j : Nat) u, news[j]? = some u → w.cell? ((⟨b, o, none⟩ : Addr).add j) = some u) ∧ (∀ i, i < m → ∀ j, j < sz → ∃ u, news[i * sz + j]? = some u ∧ (h i j).ok Z w u) := by
    refine ⟨(List.range (m * sz)).map fun k => (w.cell? ⟨b, o + k, none⟩).getD undef, by simp, fun j u hj => ?_, fun i hi j hj => ?_⟩
    · simp only [List.getElem?_map, Option.map_eq_some_iff] at hj
      obtain ⟨k, hk, rfl⟩ := hj
      obtain ⟨hlt, rfl⟩ := List.getElem?_eq_some_iff.1 hk
      simp only [List.length_range] at hlt
      simp only [List.getElem_range]
      have hq : j / sz < m := Nat.div_lt_of_lt_mul (by rw [Nat.mul_comm]; exact hlt)
      obtain ⟨u, hu, _⟩ := hcell (j / sz) hq (j % sz) (Nat.mod_lt _ hpos)
      have : o + j / sz * sz + j % sz = o + j := by rw [Nat.add_assoc, Nat.mul_comm, Nat.div_add_mod]
      rw [this] at hu
      rw [add_addr, hu]; rfl
    · have hlt : i * sz + j < m * sz := by
        have : (i + 1) * sz ≤ m * sz := Nat.mul_le_mul_right _ hi
        rw [Nat.add_mul, Nat.one_mul] at this
        omega
      obtain ⟨u, hu, hk⟩ := hcell i hi j hj
      refine ⟨u, ?_, hk⟩
      simp only [List.getElem?_map, List.getElem?_range hlt, Option.map_some]
      rw [← Nat.add_assoc, hu]; rfl
  obtain ⟨news, hnl, hnc, hnk⟩ := hnew
  refine ⟨news, hnl, hnc, hnk, fun u hu => ?_⟩
  obtain ⟨k, hk, rfl⟩ := List.getElem_of_mem hu
  rw [hnl] at hk
  have hq : k / sz < m := Nat.div_lt_of_lt_mul (by rw [Nat.mul_comm]; exact hk)
  obtain ⟨u, hu', hok⟩ := hnk (k / sz) hq (k % sz) (Nat.mod_lt _ hpos)
  have : k / sz * sz + k % sz = k := by rw [Nat.mul_comm, Nat.div_add_mod]
  rw [this] at hu'
  have e : news[k] = u := by rw [List.getElem?_eq_getElem (by omega)] at hu'; simpa using hu'
  rw [e]
  exact AV.one_cells (hone _ hq _ (Nat.mod_lt _ hpos)) hok
theorem SatZ.drew' {Z : Zone} {ν : Vals} {a : Act} {w : World} (h : SatZ E Z ν T O a w) : SatZ E Z ν T O a w.drew :=
  h.ext rfl rfl rfl (Nat.le_refl _) (fun _ _ => rfl) (fun _ h => h) (fun _ h => .inl h) (fun k hk => h.base.zLt k hk)
theorem app_cells {Z Z' : Zone} {w w' : World} {n m sz : Nat} {f h : Nat → Nat → AV} {xs news : List Value} (hxl : xs.length = n * sz) (hav : ∀ (τ : AV) u, τ.ok Z w u → τ.ok Z' w' u)
    (hxs : ∀ i, i < n → ∀ j, j < sz → ∃ u, xs[i * sz + j]? = some u ∧ (f i j).ok Z w u) (hnk : ∀ i, i < m → ∀ j, j < sz → ∃ u, news[i * sz + j]? = some u ∧ (h i j).ok Z w u) :
    ∀ i, i < n + m → ∀ j, j < sz → ∃ u, (xs ++ news)[i * sz + j]? = some u ∧ (rowApp n f h i j).ok Z' w' u := by
  intro i hi j hj
  unfold rowApp
  by_cases hin : i < n
  · rw [if_pos hin]
    obtain ⟨u, hu, hk⟩ := hxs i hin j hj
    refine ⟨u, ?_, hav _ _ hk⟩
    rw [List.getElem?_append_left (List.getElem?_eq_some_iff.1 hu).1]
    exact hu
  · rw [if_neg hin]
    obtain ⟨u, hu, hk⟩ := hnk (i - n) (by omega) j hj
    refine ⟨u, ?_, hav _ _ hk⟩
    have hidx : i * sz + j = n * sz + ((i - n) * sz + j) := by
      have : i = n + (i - n) := by omega
      conv => lhs; rw [this, Nat.add_mul]
      omega
    rw [List.getElem?_append_right (by omega), hxl, hidx, Nat.add_sub_cancel_left]
    exact hu
theorem ga_app_nil {t e : TypeId} {x y : Operand} {m sz bytes : Nat} {h : Nat → Nat → AV} (r : Nat) [ht : SlTy P t e sz] [he : EltTy P e sz bytes] (hx : T.ev x = .av (.val (.slice none 0 0))) (hy : T.ev y = .av (.sl m sz h))
    (hone : ∀ i, i < m → ∀ j, j < sz → (h i j).one = true) (hm : 0 < m) (hlen : m ≤ maxLen) (hby : m * bytes ≤ 140737488355328) (hp : Nat.blt r 1000 = true := by first | rfl | assumption) :
    GA P E ⟨d, .call ⟨.builtin .append, #[x, y], #[t, t]⟩, ty, pos, af, g⟩ T O (.osl r) [] r (.row e sz m h) := by
  refine ⟨fun T' O' hT _ hf => VStep.freshP ⟨by intro c; simp, fun Z ν a w hs => ?_⟩ hf, by intro c; simp⟩
  have hx' : T'.ev x = _ := (ev_same (o := ⟨d, .call ⟨.builtin .append, #[x, y], #[t, t]⟩, ty, pos, af, g⟩) hT (by simp [Op.operands, Call.operands])).trans hx
  have hy' : T'.ev y = _ := (ev_same (o := ⟨d, .call ⟨.builtin .append, #[x, y], #[t, t]⟩, ty, pos, af, g⟩) hT (by simp [Op.operands, Call.operands])).trans hy
  have hvx : a.eval x = .slice none 0 0 := by have := ev_ok hs x; rw [hx'] at this; exact this
  obtain ⟨p, c, hvy, hmc, hcm, hcells⟩ := sl_ok hy' (ev_ok hs y)
  obtain ⟨b, o, rfl, hzb, hblt, hcell⟩ := hcells hm
  obtain ⟨i0, z, hi, hz, hsz, hbt, hzs, hpos⟩ := he.info
  obtain ⟨news, hnl, hnc, hnk, hone'⟩ := news_of hpos hcell hone
  have hown : w.ownsRow 0 e sz (.slice none 0 0) 0 [] := ⟨by simp, .inl ⟨rfl, rfl⟩⟩
  obtain ⟨v', w', hrun, hown', hgrow, _⟩ := run_append_own (P := P) w 0 t ty e i0 z sz bytes ht.und hi hz hsz hbt hzs hpos (.slice none 0 0) 0 [] hown ⟨b, o, none⟩ m c news hnl hnc hone' (by omega) (by rw [Nat.zero_add]; exact hby) (Nat.zero_le _)
  obtain ⟨ob, hrun2⟩ : ∃ ob, (Builtin.append_ #[t, t] ty #[.slice none 0 0, .slice (some ⟨b, o, none⟩) m c]).run P w = .ok (.slice (some ⟨w.heap.size, 0, none⟩) m (grownCap w m 0 e)) (w.drew.alloc ob) := ⟨_, run_append_nil (P := P) w t ty e i0 z ht.und hi hz ⟨b, o, none⟩ m c news (by rw [hsz]; exact hnl) hnc hm (by simp only [maxLen] at hlen; omega) (by rw [hbt]; omega)⟩
  have hrun' := hrun
  rw [hrun2] at hrun
  cases hrun
  refine wp_value (w' := w.drew.alloc ob) ?_ ⟨_, Z, updV ν r (.slice (some ⟨w.drew.heap.size, 0, none⟩) m (grownCap w m 0 e)), rfl, hs.drew'.newRes r hp ob (.slice (some ⟨w.drew.heap.size, 0, none⟩) m (grownCap w m 0 e)) (.row e sz m h) rfl (fun hsv hnk' hnz => ?_), (if_pos rfl).symm⟩
  · simp only [execOp, resolve, invoke, builtin, Sem.run_bind, Sem.run_pure, Result.andThen_ok, List.map_toArray, List.map_cons, List.map_nil, hvx, hvy, hrun']; rfl
  · rw [Nat.zero_add] at hown'
    refine row_of_owns hown' (fun b' hb' => ?_) (fun i hi j hj => ?_)
    · have : w.heap.size = b' := by simpa [blkOf] using hb'
      subst this
      exact ⟨hnk', hnz⟩
    · obtain ⟨u, hu, hk⟩ := hnk i hi j hj
      exact ⟨u, by simpa using hu, hsv (.av (h i j)) u rfl (AV.ok_mono (w := w) (w' := w.drew) (Z := Z) (fun _ h => h) (Nat.le_refl _) (fun _ _ _ => rfl) _ _ hk)⟩
theorem ga_app_full {t e : TypeId} {x y : Operand} {q b n cap m sz bytes : Nat} {f h : Nat → Nat → AV} (r : Nat) [ht : SlTy P t e sz] [he : EltTy P e sz bytes] (hx : T.ev x = .av (.val (.slice (some ⟨b, 0, none⟩) n cap))) (hr : look O q = some (.op b e sz n cap f)) (hy : T.ev y = .av (.sl m sz h))
    (hone : ∀ i, i < m → ∀ j, j < sz → (h i j).one = true) (hm : 0 < m) (hfull : cap < n + m) (hlen : n + m ≤ maxLen) (hby : (n + m) * bytes ≤ 140737488355328) (hp : Nat.blt r 1000 = true := by first | rfl | assumption) :
    GA P E ⟨d, .call ⟨.builtin .append, #[x, y], #[t, t]⟩, ty, pos, af, g⟩ T O (.osl r) [q] r (.row e sz (n + m) (rowApp n f h)) := by
  refine ⟨fun T' O' hT hO hf => VStep.freshP ⟨by intro c; simp, fun Z ν a w hs => ?_⟩ hf, by intro c; simp⟩
  have hx' : T'.ev x = _ := (ev_same (o := ⟨d, .call ⟨.builtin .append, #[x, y], #[t, t]⟩, ty, pos, af, g⟩) hT (by simp [Op.operands, Call.operands])).trans hx
  have hy' : T'.ev y = _ := (ev_same (o := ⟨d, .call ⟨.builtin .append, #[x, y], #[t, t]⟩, ty, pos, af, g⟩) hT (by simp [Op.operands, Call.operands])).trans hy
  have hvx : a.eval x = .slice (some ⟨b, 0, none⟩) n cap := by have := ev_ok hs x; rw [hx'] at this; exact this
  obtain ⟨p, c, hvy, hmc, hcm, hcells⟩ := sl_ok hy' (ev_ok hs y)
  obtain ⟨b1, o, rfl, hzb, hblt, hcell⟩ := hcells hm
  obtain ⟨i0, z, hi, hz, hsz, hbt, hzs, hpos⟩ := he.info
  obtain ⟨news, hnl, hnc, hnk, hone'⟩ := news_of hpos hcell hone
  obtain ⟨_, e2, e3, e4, e5, arr, e6, e7, e8⟩ := op_own (hs.own.each q _ ((hO q (by simp)).trans hr))
  have hrow : Res.ok E Z ν w (.slice (some ⟨b, 0, none⟩) n cap) (.row e sz n f) := .inr ⟨b, cap, arr, rfl, e2, e3, e6, e4, e5, e7, e8⟩
  obtain ⟨xs, hown, hxs⟩ := ownsRow_of hrow
  obtain ⟨v', w', hrun, hown', hgrow, _⟩ := run_append_own (P := P) w 0 t ty e i0 z sz bytes ht.und hi hz hsz hbt hzs hpos _ n xs hown ⟨b1, o, none⟩ m c news hnl hnc hone' hlen hby (Nat.zero_le _)
  have holds : ∀ (j : Nat) u, xs[j]? = some u → w.cell? ((⟨b, 0, none⟩ : Addr).add j) = some u := hown.cells (g := b) rfl
  obtain ⟨ob, hrun2⟩ : ∃ ob, (Builtin.append_ #[t, t] ty #[.slice (some ⟨b, 0, none⟩) n cap, .slice (some ⟨b1, o, none⟩) m c]).run P w = .ok (.slice (some ⟨w.heap.size, 0, none⟩) (n + m) (grownCap w (n + m) cap e)) (w.drew.alloc ob) := ⟨_, run_append_grow (P := P) w t ty e i0 z ht.und hi hz ⟨b, 0, none⟩ n cap xs (by rw [hsz]; exact hown.1) holds ⟨b1, o, none⟩ m c news (by rw [hsz]; exact hnl) hnc hfull (by simp only [maxLen] at hlen; omega) (growslice_fits (by omega) (by rw [hbt]; exact hby))⟩
  have hrun' := hrun
  rw [hrun2] at hrun
  cases hrun
  refine wp_value (w' := w.drew.alloc ob) ?_ ⟨_, Z, updV ν r (.slice (some ⟨w.drew.heap.size, 0, none⟩) (n + m) (grownCap w (n + m) cap e)), rfl, hs.drew'.newRes r hp ob (.slice (some ⟨w.drew.heap.size, 0, none⟩) (n + m) (grownCap w (n + m) cap e)) (.row e sz (n + m) (rowApp n f h)) rfl (fun hsv hnk' hnz => ?_), (if_pos rfl).symm⟩
  · simp only [execOp, resolve, invoke, builtin, Sem.run_bind, Sem.run_pure, Result.andThen_ok, List.map_toArray, List.map_cons, List.map_nil, hvx, hvy, hrun']; rfl
  · refine row_of_owns hown' (fun b' hb' => ?_) (app_cells (w := w) hown.1 (fun τ u hτ => hsv (.av τ) u rfl (AV.ok_mono (w := w) (w' := w.drew) (Z := Z) (fun _ h => h) (Nat.le_refl _) (fun _ _ _ => rfl) _ _ hτ)) hxs hnk)
    have : w.heap.size = b' := by simpa [blkOf] using hb'
    subst this
    exact ⟨hnk', hnz⟩
theorem g_app_room {t e : TypeId} {x y : Operand} {q b n cap m sz bytes : Nat} {f h : Nat → Nat → AV} [ht : SlTy P t e sz] [he : EltTy P e sz bytes] (hx : T.ev x = .av (.val (.slice (some ⟨b, 0, none⟩) n cap))) (hr : look O q = some (.op b e sz n cap f)) (hy : T.ev y = .av (.sl m sz h))
    (hone : ∀ i, i < m → ∀ j, j < sz → (h i j).one = true) (hm : 0 < m) (hroom : n + m ≤ cap) (hlen : n + m ≤ maxLen) (hby : (n + m) * bytes ≤ 140737488355328) :
    GV P E ⟨d, .call ⟨.builtin .append, #[x, y], #[t, t]⟩, ty, pos, af, g⟩ T O (.av (.val (.slice (some ⟨b, 0, none⟩) (n + m) cap))) [q] [(q, .op b e sz (n + m) cap (rowApp n f h))] := by
  refine ⟨fun T' O' hT hO => ⟨by intro c; simp, fun Z ν a w hs => ?_⟩⟩
  have hx' : T'.ev x = _ := (ev_same (o := ⟨d, .call ⟨.builtin .append, #[x, y], #[t, t]⟩, ty, pos, af, g⟩) hT (by simp [Op.operands, Call.operands])).trans hx
  have hy' : T'.ev y = _ := (ev_same (o := ⟨d, .call ⟨.builtin .append, #[x, y], #[t, t]⟩, ty, pos, af, g⟩) hT (by simp [Op.operands, Call.operands])).trans hy
  have hvx : a.eval x = .slice (some ⟨b, 0, none⟩) n cap := by have := ev_ok hs x; rw [hx'] at this; exact this
  obtain ⟨p, c, hvy, hmc, hcm, hcells⟩ := sl_ok hy' (ev_ok hs y)
  obtain ⟨b1, o, rfl, hzb, hblt, hcell⟩ := hcells hm
  obtain ⟨i0, z, hi, hz, hsz, hbt, hzs, hpos⟩ := he.info
  obtain ⟨news, hnl, hnc, hnk, hone'⟩ := news_of hpos hcell hone
  have hq := (hO q (by simp)).trans hr
  obtain ⟨⟨mm, e1⟩, e2, e3, e4, e5, arr, e6, e7, e8⟩ := op_own (hs.own.each q _ hq)
  have hrow : Res.ok E Z ν w (.slice (some ⟨b, 0, none⟩) n cap) (.row e sz n f) := .inr ⟨b, cap, arr, rfl, e2, e3, e6, e4, e5, e7, e8⟩
  obtain ⟨xs, hown, hxs⟩ := ownsRow_of hrow
  obtain ⟨v', w', hrun, hown', hgrow, _⟩ := run_append_own (P := P) w 0 t ty e i0 z sz bytes ht.und hi hz hsz hbt hzs hpos _ n xs hown ⟨b1, o, none⟩ m c news hnl hnc hone' hlen hby (Nat.zero_le _)
  have hfit : n * i0.size + news.length ≤ arr.size := by rw [hnl, hsz, e7, ← Nat.add_mul]; exact Nat.mul_le_mul_right _ hroom
  obtain ⟨cur, hcur, hrun2⟩ : ∃ cur, cur = (arr.toList.take (n * i0.size) ++ news ++ arr.toList.drop (n * i0.size + news.length)).toArray ∧ (Builtin.append_ #[t, t] ty #[.slice (some ⟨b, 0, none⟩) n cap, .slice (some ⟨b1, o, none⟩) m c]).run P w = .ok (.slice (some ⟨b, 0, none⟩) (n + m) cap) (w.setRow b cur) := ⟨_, rfl, run_append_room (P := P) w t ty e i0 ht.und hi b n cap arr e6 ⟨b1, o, none⟩ m c news (by rw [hsz]; exact hnl) hnc hone' hroom hfit⟩
  have hrun' := hrun
  rw [hrun2] at hrun
  cases hrun
  have hlt : b < w.heap.size := (Array.getElem?_eq_some_iff.1 e6).1
  refine wp_value (w' := w.setRow b cur) ?_ ⟨_, Z, ν, rfl, hs.write (w' := w.setRow b cur) hq (b := b) (by rw [e1]; rfl) rfl rfl rfl (by simp [World.setRow]) (fun k hk => by simp [World.setRow, Array.getElem?_modify, Ne.symm hk]) (fun hsv => ?_), rfl⟩
  · simp only [execOp, resolve, invoke, builtin, Sem.run_bind, Sem.run_pure, Result.andThen_ok, List.map_toArray, List.map_cons, List.map_nil, hvx, hvy, hrun']
  · have hb2 := setRow_heap w b arr cur e (0, 0) e6
    subst hcur
    refine ⟨b, _, by rw [e1]; rfl, e2, e3, hb2, ⟨mm, e1⟩, hroom, e5, _, rfl, ?_, fun i hi' j hj => ?_⟩
    · simp only [List.size_toArray, List.length_append, List.length_take, List.length_drop, Array.length_toList]
      omega
    · have hxl : n * i0.size ≤ arr.toList.length := by rw [Array.length_toList]; omega
      obtain ⟨u, hu, hk⟩ := app_cells (xs := arr.toList.take (n * i0.size)) (by rw [List.length_take, hsz] at *; omega) (fun τ u hτ => hsv (.av τ) u hτ) (fun i hi j hj => by
        obtain ⟨u, hu, hk⟩ := e8 i hi j hj
        refine ⟨u, ?_, hk⟩
        have : i * sz + j < n * i0.size := by
          have : (i + 1) * sz ≤ n * sz := Nat.mul_le_mul_right _ hi
          rw [Nat.add_mul, Nat.one_mul] at this
          rw [hsz]; omega
        rw [List.getElem?_take_of_lt this]
        simpa using hu) hnk i hi' j hj
      refine ⟨u, ?_, hk⟩
      rw [List.getElem?_toArray, List.getElem?_append_left (List.getElem?_eq_some_iff.1 hu).1]
      exact hu
end
end Go.Vc
end
section
namespace Go.Proofs.YtgepmbjmaljgoaaGreatDoor.H
open Go Go.Vc Go.RowKit
open Go.Na (rtx LR chkR_rtx chkR rsg)
set_option maxHeartbeats 4000000
def rngB (L : List Int) (n : Nat) : Bool := (List.range L.length).any fun i => decide (gz L i < 0 ∨ (n : Int) ≤ gz L i)
def ordB (L : List Int) : Bool := (List.range L.length).any fun i => decide (0 < i ∧ gz L i ≤ gz L (i - 1))
def verR (l : List Tr) (k : Nat) (A B C : Rat) (L : List Int) : Int :=
  if rngB L l.length = true then 2 else if ordB L = true then 9 else if lowB l k A B C l.length = true then 15 else
  if collB (plP l k (onL l k A B C l.length)) = true ∨ eqB (fun i => ((gi (onL l k A B C l.length) i : Nat) : Int)) (onL l k A B C l.length).length (gz L) L.length = false then 15 else 0
theorem any_no {p : Nat → Bool} {n : Nat} (h : ∀ i, i < n → p i = false) : (List.range n).any p = false := by
  rw [List.any_eq_false]
  intro i hi
  rw [h i (List.mem_range.1 hi)]; decide
theorem any_yes {p : Nat → Bool} {n i : Nat} (hi : i < n) (h : p i = true) : (List.range n).any p = true := by
  rw [List.any_eq_true]
  exact ⟨i, List.mem_range.2 hi, h⟩
theorem hgt_LR4 {k : Nat} {A B C : Rat} {p : Tr} (hp : BT 100000 p) (hA : LR 43 A) (hB : LR 43 B) (hC : LR 43 C) : LR 400 (hgt k A B C p) := by
  have h0 := LR_small (hp.cz k)
  have h1 := LR.mul' hB (LR_small (hp.cz (ou k)))
  have h2 := LR.mul' hC (LR_small (hp.cz (ov k)))
  have h3 := LR.add' hA (LR.add' h1 h2)
  exact Go.Na.LR.mono (Go.Na.LR.sub (Go.Na.LR.mono (l := 150) h0 (by decide)) (Go.Na.LR.mono (l := 150) h3 (by decide))) (by decide)
theorem onL_succ (l : List Tr) (k : Nat) (A B C : Rat) (n : Nat) : onL l k A B C (n + 1) = if hgt k A B C (gt l n) = 0 then onL l k A B C n ++ [n] else onL l k A B C n := by
  unfold onL
  rw [List.range_succ, List.filter_append]
  by_cases h : hgt k A B C (gt l n) = 0 <;> simp [h]
theorem rowApp_ix (l : List Nat) (p : Nat) (h : Nat → Nat → AV) (hh : ∀ j, h 0 j = vi p) : ∀ i, i < l.length + 1 → ∀ j, j < 1 → rowApp l.length (xf l) h i j = xf (l ++ [p]) i j := by
  intro i hi j _
  unfold rowApp xf gi
  rw [getD_app]
  split
  · rfl
  · have h1 : i = l.length := by omega
    subst h1
    rw [Nat.sub_self, hh]
    simp
theorem Verify_bad2 (l : List Tr) (a : Int) (A B C : List UInt8) (s : AV) (h : chkT l = 0) (hA : A.length ≤ 400) (hB : B.length ≤ 400) (hC : C.length ≤ 400) (he : plE a A B C ≠ 0) : CtrA Tryz.prog 26 [ts l, pA a A B C s] (vi (plE a A B C)) := by
  have h1 := scheck_c l
  rw [h] at h1
  have hc := plcheck_c a A B C s hA hB hC
  refine ctrA _ Tryz.func26 rfl rfl Tryz.ntmps26 rfl fun w Z => ?_
  simp only [initT, zP, zQ, Nat.zero_add, Nat.reduceAdd]
  refine wt ?_
  refine sq_g (g_load_aggv rfl rfl) rfl ?_
  refine wt ?_
  (refine cq_cond rfl (fun hb => ?_) (fun hb => ?_) <;> (try simp only [zA, zB, zC, zD, zE, zF, zG, zH, zI, zJ, zK, zL, zM, zN, zO] at hb) <;> (try (exfalso; omega)))
  refine wt ?_
  exact sq_res1 rfl (.tmp rfl) rfl
theorem Verify_ok (l : List Tr) (k : Nat) (hk : k < 3) (A B C : Rat) (L : List Int) (hT : chkT l = 0) (hL : L.length ≤ 1000) (hA : LR 43 A) (hB : LR 43 B) (hC : LR 43 C) (lA : (rtx A).length ≤ 400) (lB : (rtx B).length ≤ 400) (lC : (rtx C).length ≤ 400) :
    CtrA Tryz.prog 26 [ts l, pA k (rtx A) (rtx B) (rtx C) (ixs L)] (vi (verR l k A B C L)) := by
  have he : plE k (rtx A) (rtx B) (rtx C) = 0 := by unfold plE; rw [if_neg (fun h => h (by omega)), if_neg (fun h => h (chkR_rtx A)), if_neg (fun h => h (chkR_rtx B)), chkR_rtx]
  have hc := plcheck_c k _ _ _ (ixs L) lA lB lC
  rw [he] at hc
  have h1 := scheck_c l
  rw [hT] at h1
  obtain ⟨hR, h64⟩ := RT.of hT
  refine ctrA _ Tryz.func26 rfl rfl Tryz.ntmps26 rfl fun w Z => ?_
  simp only [initT, zP, zQ, Nat.zero_add, Nat.reduceAdd]
  refine wt ?_
  refine sq_g (g_load_aggv rfl rfl) rfl ?_
  refine wt ?_
  refine cq_loop (γ := Nat) (fun i => [(0, .av (ts l)), (3, .av (.ptr 5 (pAf k (rtx A) (rtx B) (rtx C) (ixs L)))), (31, .av (ixs L)), (32, .av (vi L.length)), (33, .av (vi i))]) (fun _ => []) (fun i => i ≤ L.length ∧ ∀ j, j < i → ¬ (gz L j < 0 ∨ (l.length : Int) ≤ gz L j)) (fun i => L.length - i) 0 ⟨Nat.zero_le _, by omega⟩ (ent ⟨.refl _, .refl _, .refl _, .refl _, .refl _, trivial⟩ trivial) ?_
  rintro i ⟨hi, hno⟩
  refine wt ?_
  (refine cq_cond rfl (fun hb => ?_) (fun hb => ?_) <;> (try simp only [zA, zB, zC, zD, zE, zF, zG, zH, zI, zJ, zK, zL, zM, zN, zO] at hb) <;> (try (exfalso; omega)))
  · have hil : i < L.length := by omega
    (refine wt ?_; repeat' (((first | refine sq_split rfl rfl (fun hb => ?_) (fun hb => ?_) | refine dq_split rfl rfl (fun hb => ?_) (fun hb => ?_)) <;> (try simp only [zA, zB, zC, zD, zE, zF, zG, zH, zI, zJ, zK, zL, zM, zN, zO] at hb) <;> (try (exfalso; omega))) <;> refine wt ?_))
    · have hr : rngB L l.length = true := any_yes hil (decide_eq_true (.inl hb))
      exact sq_res1 rfl (.tmp rfl) (congrArg vi (by unfold verR; rw [if_pos hr]))
    · (refine cq_cond rfl (fun hb => ?_) (fun hb => ?_) <;> (try simp only [zA, zB, zC, zD, zE, zF, zG, zH, zI, zJ, zK, zL, zM, zN, zO] at hb) <;> (try (exfalso; omega)))
      · have hr : rngB L l.length = true := any_yes hil (decide_eq_true (.inr hb))
        refine wt ?_
        exact sq_res1 rfl (.tmp rfl) (congrArg vi (by unfold verR; rw [if_pos hr]))
      · refine wt ?_
        exact sq_round (i + 1) ⟨by omega, fun j hj => by
          by_cases e : j = i
          · subst e; omega
          · exact hno j (by omega)⟩ (by omega) (ent ⟨.refl _, .refl _, .refl _, .refl _, .int (by omega), trivial⟩ trivial)
  · have hil : i = L.length := by omega
    subst hil
    have hr : rngB L l.length = false := any_no fun j hj => decide_eq_false (hno j hj)
    refine wt ?_
    refine cq_loop (γ := Nat) (fun i => [(0, .av (ts l)), (3, .av (.ptr 5 (pAf k (rtx A) (rtx B) (rtx C) (ixs L)))), (47, .av (ixs L)), (48, .av (vi L.length)), (49, .av (vi i))]) (fun _ => []) (fun i => i ≤ L.length ∧ ∀ j, 0 < j → j < i → gz L (j - 1) < gz L j) (fun i => L.length - i) 0 ⟨Nat.zero_le _, by omega⟩ (ent ⟨.refl _, .refl _, .refl _, .refl _, .refl _, trivial⟩ trivial) ?_
    clear hno
    rintro i ⟨hi, hno⟩
    refine wt ?_
    (refine cq_cond rfl (fun hb => ?_) (fun hb => ?_) <;> (try simp only [zA, zB, zC, zD, zE, zF, zG, zH, zI, zJ, zK, zL, zM, zN, zO] at hb) <;> (try (exfalso; omega)))
    · have hil : i < L.length := by omega
      (refine wt ?_; repeat' (((first | refine sq_split rfl rfl (fun hb => ?_) (fun hb => ?_) | refine dq_split rfl rfl (fun hb => ?_) (fun hb => ?_)) <;> (try simp only [zA, zB, zC, zD, zE, zF, zG, zH, zI, zJ, zK, zL, zM, zN, zO] at hb) <;> (try (exfalso; omega))) <;> refine wt ?_))
      · have e0 : ((i : Int) - 1).toNat = i - 1 := by omega
        rw [e0]
        (refine cq_cond rfl (fun hb => ?_) (fun hb => ?_) <;> (try simp only [zA, zB, zC, zD, zE, zF, zG, zH, zI, zJ, zK, zL, zM, zN, zO] at hb) <;> (try (exfalso; omega)))
        · have ho : ordB L = true := any_yes hil (decide_eq_true ⟨by omega, hb⟩)
          refine wt ?_
          exact sq_res1 rfl (.tmp rfl) (congrArg vi (by unfold verR; rw [if_neg (by rw [hr]; decide), if_pos ho]))
        · refine wt ?_
          exact sq_round (i + 1) ⟨by omega, fun j h0 hj => by
            by_cases e : j = i
            · subst e; omega
            · exact hno j h0 (by omega)⟩ (by omega) (ent ⟨.refl _, .refl _, .refl _, .refl _, .int (by omega), trivial⟩ trivial)
      · exact sq_round (i + 1) ⟨by omega, fun j h0 hj => by omega⟩ (by omega) (ent ⟨.refl _, .refl _, .refl _, .refl _, .int (by omega), trivial⟩ trivial)
    · have hil : i = L.length := by omega
      subst hil
      have ho : ordB L = false := any_no fun j hj => decide_eq_false (fun h => by have := hno j h.1 hj; omega)
      have hv : verR l k A B C L = if lowB l k A B C l.length = true then 15 else
          if collB (plP l k (onL l k A B C l.length)) = true ∨ eqB (fun i => ((gi (onL l k A B C l.length) i : Nat) : Int)) (onL l k A B C l.length).length (gz L) L.length = false then 15 else 0 := by
        unfold verR; rw [if_neg (by rw [hr]; decide), if_neg (by rw [ho]; decide)]
      refine wt ?_
      refine cq_loop (γ := Nat) (fun i => [(0, .av (ts l)), (3, .av (.ptr 5 (pAf k (rtx A) (rtx B) (rtx C) (ixs L)))), (11, .osl 20), (12, .osl 21), (67, .av (ts l)), (68, .av (vi l.length)), (69, .av (vi i))])
        (fun i => [(20, .row 3 1 (onL l k A B C i).length (xf (onL l k A B C i))), (21, .row 38 2 (plP l k (onL l k A B C i)).length (pf (plP l k (onL l k A B C i))))]) (fun i => i ≤ l.length ∧ lowB l k A B C i = false) (fun i => l.length - i) 0 ⟨Nat.zero_le _, rfl⟩
        ((ent_row (dd := 11) 20 3 1 (xf []) rfl rfl).trans ((ent_row (dd := 12) 21 38 2 (pf []) rfl rfl).trans (ent ⟨.refl _, .refl _, .refl _, .refl _, .refl _, .refl _, .refl _, trivial⟩ ⟨⟨_, rfl, .refl _⟩, ⟨_, rfl, .refl _⟩, trivial⟩))) ?_
      clear hno
      rintro i ⟨hi, hlo⟩
      refine wt ?_
      (refine cq_cond rfl (fun hb => ?_) (fun hb => ?_) <;> (try simp only [zA, zB, zC, zD, zE, zF, zG, zH, zI, zJ, zK, zL, zM, zN, zO] at hb) <;> (try (exfalso; omega)))
      · have hil : i < l.length := by omega
        have hh := height_c k hk A B C (ixs L) (gt l i) (hR i) hA hB hC
        have hsg := rat_sign (hgt k A B C (gt l i)) (Go.Na.LR.mono (hgt_LR4 (hR i) hA hB hC) (by decide))
        refine wt ?_
        refine sq_g (g_load_aggv rfl rfl) rfl ?_
        refine wt ?_
        (refine cq_cond rfl (fun hb => ?_) (fun hb => ?_) <;> (try simp only [zA, zB, zC, zD, zE, zF, zG, zH, zI, zJ, zK, zL, zM, zN, zO] at hb) <;> (try (exfalso; omega)))
        · have hlow : lowB l k A B C l.length = true := any_yes hil (decide_eq_true (Go.Proofs.YtgepmbjmaljgoaaGreatDoor.H.rsg_neg.1 hb))
          refine wt ?_
          exact sq_res1 rfl (.tmp rfl) (by rw [hv, if_pos hlow])
        · have hnn : ¬ hgt k A B C (gt l i) < 0 := fun h => hb (rsg_neg.2 h)
          have hl1 : lowB l k A B C (i + 1) = false := by
            unfold lowB at hlo ⊢
            rw [List.range_succ, List.any_append, hlo]
            simp [hnn]
          refine wt ?_
          (refine cq_cond rfl (fun hb => ?_) (fun hb => ?_) <;> (try simp only [zA, zB, zC, zD, zE, zF, zG, zH, zI, zJ, zK, zL, zM, zN, zO] at hb) <;> (try (exfalso; omega)))
          · have hz : hgt k A B C (gt l i) = 0 := rsg_zero.1 hb
            have hon : onL l k A B C (i + 1) = onL l k A B C i ++ [i] := by rw [onL_succ, if_pos hz]
            have hpl : plP l k (onL l k A B C (i + 1)) = plP l k (onL l k A B C i) ++ [plc k (gt l i)] := by rw [hon]; unfold plP; rw [List.map_append]; rfl
            have hlen := onL_len' l k A B C i
            have hle : (plP l k (onL l k A B C i)).length = (onL l k A B C i).length := by simp [plP]
            have hpc := place_c (gt l i) hk
            refine cq_open 20 rfl (fun h0 => ?_) (fun b cap hle => ?_)
            · have hn0 : onL l k A B C i = [] := List.length_eq_zero_iff.1 h0
              refine wt ?_
              have hrow0 : ∀ i', i' < 1 → ∀ j', j' < 1 → xf [i] i' j' = xf (onL l k A B C (i + 1)) i' j' := by rw [hon, hn0]; intros; rfl
              refine dq_v (ga_app_nil (m := 1) 20 rfl rfl (fun _ _ _ _ => rfl) (by decide) (by decide) (by decide)) rfl rfl ?_
              refine wt ?_
              refine dq_tail rfl rfl ?_
              refine wt ?_
              exact sq_round (i + 1) ⟨by omega, hl1⟩ (by omega) (ent ⟨.refl _, .refl _, .refl _, .refl _, .refl _, .refl _, .int (by omega), trivial⟩ ⟨⟨_, rfl, .row (by rw [hon, hn0]; try rfl) hrow0⟩, ⟨_, rfl, .row (by rw [hpl, List.length_append]; try rfl) (fun _ _ _ _ => by rw [hpl])⟩, trivial⟩)
            · by_cases hfull : cap < (onL l k A B C i).length + 1
              · refine wt ?_
                refine dq_v (ga_app_full (q := 20) (m := 1) 120 rfl rfl rfl (fun _ _ _ _ => rfl) (by decide) hfull (by simp only [maxLen]; omega) (by omega)) rfl rfl ?_
                refine wt ?_
                refine dq_tail rfl rfl ?_
                refine wt ?_
                exact sq_round (i + 1) ⟨by omega, hl1⟩ (by omega) (Ent.trans (ent (T' := [(0, .av (ts l)), (3, .av (.ptr 5 (pAf k (rtx A) (rtx B) (rtx C) (ixs L)))), (11, .osl 120), (12, .osl 21), (67, .av (ts l)), (68, .av (vi l.length)), (69, .av (vi ((i + 1 : Nat) : Int)))]) (O' := [(120, .row 3 1 (onL l k A B C (i + 1)).length (xf (onL l k A B C (i + 1)))), (21, .row 38 2 (plP l k (onL l k A B C (i + 1))).length (pf (plP l k (onL l k A B C (i + 1)))))]) ⟨.refl _, .refl _, .refl _, .refl _, .refl _, .refl _, .int (by omega), trivial⟩ ⟨⟨_, rfl, .row (by rw [hon, List.length_append]; try rfl) (fun i' hi' j' hj' => by rw [hon]; exact rowApp_ix _ _ _ (fun _ => rfl) i' hi' j' hj')⟩, ⟨_, rfl, .row (by rw [hpl, List.length_append]; try rfl) (fun _ _ _ _ => by rw [hpl])⟩, trivial⟩) (ent_ren [(20, 120)] ⟨rfl, rfl, rfl, rfl, rfl, rfl, rfl, trivial⟩ ⟨rfl, rfl, trivial⟩ rfl rfl))
              · refine wt ?_
                refine dq_call_h (g_app_room (q := 20) (m := 1) (bytes := 8) rfl rfl rfl (fun _ _ _ _ => rfl) (by decide) (Nat.le_of_not_lt hfull) (by simp only [maxLen]; omega) (by omega)) rfl ?_
                refine wt ?_
                refine dq_tail rfl rfl ?_
                refine wt ?_
                exact sq_round (i + 1) ⟨by omega, hl1⟩ (by omega) (Ent.trans (ent_close 11 20 rfl rfl) (ent ⟨.refl _, .refl _, .refl _, .refl _, .refl _, .refl _, .int (by omega), trivial⟩ ⟨⟨_, rfl, .row (by rw [hon, List.length_append]; try rfl) (fun i' hi' j' hj' => by rw [hon]; exact rowApp_ix _ _ _ (fun _ => rfl) i' hi' j' hj')⟩, ⟨_, rfl, .row (by rw [hpl, List.length_append]; try rfl) (fun _ _ _ _ => by rw [hpl])⟩, trivial⟩))
          · have hz : ¬ hgt k A B C (gt l i) = 0 := fun h => hb (rsg_zero.2 h)
            have hon : onL l k A B C (i + 1) = onL l k A B C i := by rw [onL_succ, if_neg hz]
            refine wt ?_
            exact sq_round (i + 1) ⟨by omega, hl1⟩ (by omega) (ent ⟨.refl _, .refl _, .refl _, .refl _, .refl _, .refl _, .int (by omega), trivial⟩ ⟨⟨_, rfl, .row (by rw [hon]) (fun _ _ _ _ => by rw [hon])⟩, ⟨_, rfl, .row (by rw [hon]) (fun _ _ _ _ => by rw [hon])⟩, trivial⟩)
      · have hil : i = l.length := by omega
        subst hil
        refine cq_more ((ent_freeze 20 rfl).trans (ent_freeze 21 rfl)) ?_
        have hck : chk (plP l k (onL l k A B C l.length)) = 0 := chk_plP hR k (by have := onL_len' l k A B C l.length; omega)
        have hco := coll_c (plP l k (onL l k A B C l.length))
        rw [show collE (plP l k (onL l k A B C l.length)) = collB (plP l k (onL l k A B C l.length)) by unfold collE; rw [if_pos hck], hck] at hco
        have heq := equal_c (fun i => ((gi (onL l k A B C l.length) i : Nat) : Int)) (gz L) (onL l k A B C l.length).length L.length (by have := onL_len' l k A B C l.length; omega)
        refine wt ?_
        cases hcb : collB (plP l k (onL l k A B C l.length)) with
        | true =>
          rw [hcb] at hv
          refine wt ?_
          exact sq_res1 rfl (.tmp rfl) (by rw [hv, if_neg (by rw [hlo]; decide), if_pos (.inl rfl)])
        | false =>
          rw [hcb] at hv
          refine wt ?_
          (refine cq_cond rfl (fun hb => ?_) (fun hb => ?_) <;> (try simp only [zA, zB, zC, zD, zE, zF, zG, zH, zI, zJ, zK, zL, zM, zN, zO] at hb) <;> (try (exfalso; omega)))
          · refine wt ?_
            exact sq_res1 rfl (.tmp rfl) (by rw [hv, if_neg (by rw [hlo]; decide), if_pos (.inr hb)])
          · refine wt ?_
            exact sq_res1 rfl (.tmp rfl) (by rw [hv, if_neg (by rw [hlo]; decide), if_neg (fun h => h.elim (fun h => by cases h) (fun h => by rw [hb] at h; cases h))])
end Go.Proofs.YtgepmbjmaljgoaaGreatDoor.H
end
section
namespace Go.Proofs.YtgepmbjmaljgoaaGreatDoor.H
open Go Go.Vc Go.RowKit
open Go.Na (rtx LR chkR_rtx chkR rsg)
set_option maxHeartbeats 4000000
theorem same_c (f g : Nat → Int) (m n : Nat) (hm : m ≤ 1000000) (hn : n ≤ 1000000) : CtrA Tryz.prog 54 [.sl m 1 (fun i _ => vi (f i)), .sl n 1 (fun i _ => vi (g i))] (vb (eqB f m g n)) := by
  refine ctrA _ Tryz.func54 rfl rfl Tryz.ntmps54 rfl fun w Z => ?_
  simp only [initT, zP, zQ, Nat.zero_add, Nat.reduceAdd]
  refine wt ?_
  (refine cq_cond rfl (fun hb => ?_) (fun hb => ?_) <;> (try simp only [zA, zB, zC, zD, zE, zF, zG, zH, zI, zJ, zK, zL, zM, zN, zO] at hb) <;> (try (exfalso; omega)))
  · refine wt ?_
    exact sq_res1 rfl (.tmp rfl) (congrArg vb (by unfold eqB; rw [decide_eq_false (by omega)]; rfl))
  · have hmn : m = n := by omega
    subst hmn
    refine wt ?_
    refine cq_loop (γ := Nat) (fun i => [(0, .av (.sl m 1 (fun i _ => vi (f i)))), (1, .av (.sl m 1 (fun i _ => vi (g i)))), (5, .av (vi i))]) (fun _ => []) (fun i => i ≤ m ∧ ∀ j, j < i → f j = g j) (fun i => m - i) 0 ⟨Nat.zero_le _, by omega⟩ (ent ⟨.refl _, .refl _, .refl _, trivial⟩ trivial) ?_
    rintro i ⟨hi, he⟩
    refine wt ?_
    (refine cq_cond rfl (fun hb => ?_) (fun hb => ?_) <;> (try simp only [zA, zB, zC, zD, zE, zF, zG, zH, zI, zJ, zK, zL, zM, zN, zO] at hb) <;> (try (exfalso; omega)))
    · have hil : i < m := by omega
      refine wt ?_
      (refine cq_cond rfl (fun hb => ?_) (fun hb => ?_) <;> (try simp only [zA, zB, zC, zD, zE, zF, zG, zH, zI, zJ, zK, zL, zM, zN, zO] at hb) <;> (try (exfalso; omega)))
      · refine wt ?_
        exact sq_res1 rfl (.tmp rfl) (congrArg vb (by
          unfold eqB
          have : (List.range m).all (fun i => decide (f i = g i)) = false := by
            rw [List.all_eq_false]
            exact ⟨i, by simpa using hil, by simpa using hb⟩
          rw [this, Bool.and_false]))
      · refine wt ?_
        exact sq_round (i + 1) ⟨by omega, fun j hj => by
          by_cases e : j = i
          · subst e; exact hb
          · exact he j (by omega)⟩ (by omega) (ent ⟨.refl _, .refl _, .int (by omega), trivial⟩ trivial)
    · have hil : i = m := by omega
      subst hil
      refine wt ?_
      exact sq_res1 rfl (.tmp rfl) (congrArg vb (by
        unfold eqB
        have : (List.range i).all (fun i => decide (f i = g i)) = true := by
          rw [List.all_eq_true]
          intro j hj
          simpa using he j (by simpa using hj)
        rw [this, decide_eq_true rfl]; rfl))
end Go.Proofs.YtgepmbjmaljgoaaGreatDoor.H
end
section
namespace Go.Proofs.YtgepmbjmaljgoaaGreatDoor.H
open Go Go.Vc Go.RowKit Go.Na Go.Lib
set_option maxHeartbeats 4000000
theorem LR.len' {k : Nat} {q : Rat} (h : LR k q) (hk : 0 < k) : (rtx q).length ≤ 2 * k + 2 := by
  have h1 := h.1.len hk
  have h2 := h.2.len hk
  have h3 : (itoa q.num).length ≤ k + 1 := by
    by_cases hn : q.num < 0
    · rw [itoa_neg hn]; simp; omega
    · rw [itoa_pos hn]; omega
  unfold rtx
  split
  · omega
  · rw [List.length_append, List.length_cons]
    rw [Int.natAbs_natCast] at h2
    omega
end Go.Proofs.YtgepmbjmaljgoaaGreatDoor.H
end
section
namespace Go.Proofs.YtgepmbjmaljgoaaGreatDoor.H
open Go Go.Vc Go.RowKit
open Go.Na (rtx LR chkR_rtx chkR rsg)
set_option maxHeartbeats 4000000
def rgtB (l : List Tr) (k : Nat) : Bool := fewB l && (decide (chkT l = 0) && !strB (plcs l k))
theorem chk_plcs {l : List Tr} (hl : RT l) (h : l.length ≤ 64) (k : Nat) : chk (plcs l k) = 0 := by
  unfold chk
  rw [if_neg (by rw [plcs_len]; omega), if_pos]
  rw [List.all_eq_true]
  intro p hp
  obtain ⟨q, hq, rfl⟩ := List.mem_map.1 hp
  obtain ⟨i, hi, rfl⟩ := List.getElem_of_mem hq
  have e : l[i] = gt l i := by simp [gt, hi, List.getD]
  rw [e]
  have h1 := (hl i).cz (ou k)
  have h2 := (hl i).cz (ov k)
  unfold rightB inB plc
  simp only [Bool.and_eq_true, decide_eq_true_eq]
  omega
theorem right_c (l : List Tr) {k : Nat} (hk : k < 3) : CtrA Tryz.prog 28 [ts l, vi (k : Int)] (vb (rgtB l k)) := by
  have h1 := fews_c l
  unfold rgtB
  cases hf : fewB l with
  | false =>
    rw [hf] at h1
    refine ctrA _ Tryz.func28 rfl rfl Tryz.ntmps28 rfl fun w Z => ?_
    simp only [initT, zP, zQ, Nat.zero_add, Nat.reduceAdd]
    refine wt ?_
    exact sq_res1 rfl (.tmp rfl) rfl
  | true =>
    rw [hf] at h1
    have hl : l.length ≤ 1000 := by unfold fewB at hf; simp at hf; omega
    have h2 := rscheck_c l hl
    by_cases hT : chkT l = 0
    · rw [hT] at h2
      have h3 := rplaces_c l hk hl
      obtain ⟨hR, h64⟩ := RT.of hT
      have hst := straight_c (plcs l k) (chk_sm (chk_plcs hR h64 k)).1 (by rw [plcs_len]; exact hl)
      have e1 : decide ((k : Int) < 3) = true := decide_eq_true (by omega)
      have e2 : decide ((0 : Int) ≤ (k : Int)) = true := decide_eq_true (by omega)
      rw [decide_eq_true hT]
      cases hs : strB (plcs l k) with
      | false =>
        rw [hs] at hst
        refine ctrA _ Tryz.func28 rfl rfl Tryz.ntmps28 rfl fun w Z => ?_
        simp only [initT, zP, zQ, Nat.zero_add, Nat.reduceAdd]
        refine wt ?_
        rw [e1, e2]
        refine wt ?_
        refine sq_von (f_call_row 22 h3 rfl rfl) rfl rfl rfl ?_
        refine wt ?_
        exact sq_res1 rfl (.tmp rfl) rfl
      | true =>
        rw [hs] at hst
        refine ctrA _ Tryz.func28 rfl rfl Tryz.ntmps28 rfl fun w Z => ?_
        simp only [initT, zP, zQ, Nat.zero_add, Nat.reduceAdd]
        refine wt ?_
        rw [e1, e2]
        refine wt ?_
        refine sq_von (f_call_row 22 h3 rfl rfl) rfl rfl rfl ?_
        refine wt ?_
        exact sq_res1 rfl (.tmp rfl) rfl
    · have hne : (chkT l == 0) = false := by simpa using hT
      rw [decide_eq_false hT]
      refine ctrA _ Tryz.func28 rfl rfl Tryz.ntmps28 rfl fun w Z => ?_
      simp only [initT, zP, zQ, Nat.zero_add, Nat.reduceAdd]
      refine wt ?_
      rw [hne]
      refine wt ?_
      exact sq_res1 rfl (.tmp rfl) rfl
end Go.Proofs.YtgepmbjmaljgoaaGreatDoor.H
end
section
namespace Go.Proofs.YtgepmbjmaljgoaaGreatDoor.H
open Go Go.Vc Go.RowKit
open Go.Na (rtx LR chkR_rtx chkR rsg)
set_option maxHeartbeats 4000000
def sameB (k : Nat) (P : Pl) (a : Int) (A B C : List UInt8) (L : List Int) : Bool :=
  decide ((k : Int) = a) && ((rtx P.A == A) && ((rtx P.B == B) && ((rtx P.C == C) && eqB (fun i => ((gi P.s i : Nat) : Int)) P.s.length (gz L) L.length)))
theorem same20_c (k : Nat) (P : Pl) (a : Int) (A B C : List UInt8) (L : List Int) (hs : P.s.length ≤ 1000) (hL : L.length ≤ 1000) :
    CtrA Tryz.prog 20 [pR (k : Int) P, pA a A B C (ixs L)] (vb (sameB k P a A B C L)) := by
  have h := same_c (fun i => ((gi P.s i : Nat) : Int)) (gz L) P.s.length L.length (by omega) (by omega)
  refine ctrA _ Tryz.func20 rfl rfl Tryz.ntmps20 rfl fun w Z => ?_
  simp only [initT, zP, zQ, Nat.zero_add, Nat.reduceAdd]
  (refine wt ?_; repeat' (((first | refine sq_split rfl rfl (fun hb => ?_) (fun hb => ?_) | refine dq_split rfl rfl (fun hb => ?_) (fun hb => ?_)) <;> (try simp only [zA, zB, zC, zD, zE, zF, zG, zH, zI, zJ, zK, zL, zM, zN, zO] at hb) <;> (try (exfalso; omega))) <;> refine wt ?_))
  all_goals (refine sq_res1 rfl (.tmp rfl) (congrArg vb ?_); simp [sameB, *])
theorem ixB_any (f : Pl → Bool) (Ps : List Pl) : decide (0 ≤ ixB (fun i => f (gP Ps i)) Ps.length) = Ps.any f := by
  rw [Bool.eq_iff_iff, decide_eq_true_eq, List.any_eq_true]
  unfold ixB
  split
  · rename_i k hf
    have h1 := List.find?_some hf
    have h2 := List.mem_range.1 (List.mem_of_find?_eq_some hf)
    exact ⟨fun _ => ⟨_, gP_mem h2, h1⟩, fun _ => by omega⟩
  · rename_i hf
    constructor
    · intro h; omega
    · rintro ⟨P, hP, hf'⟩
      obtain ⟨i, hi, rfl⟩ := List.getElem_of_mem hP
      have := List.find?_eq_none.1 hf i (List.mem_range.2 hi)
      rw [gP_eq hi] at this
      exact absurd hf' (by simpa using this)
abbrev cpl (a : Int) (A B C : List UInt8) (L : List Int) : AV := .ptr 5 (pAf a A B C (ixs L))
abbrev ccp (a : Int) (A B C : List UInt8) (L : List Int) : AV := .clo 33 1 (fun i => [cpl a A B C L].getD i .any)
theorem clo33_c (k : Nat) (P : Pl) (a : Int) (A B C : List UInt8) (L : List Int) (hs : P.s.length ≤ 1000) (hL : L.length ≤ 1000) :
    CtrA Tryz.prog 33 [pR (k : Int) P, cpl a A B C L] (vb (sameB k P a A B C L)) := by
  have h := same20_c k P a A B C L hs hL
  refine ctrA _ Tryz.func33 rfl rfl Tryz.ntmps33 rfl fun w Z => ?_
  simp only [initT, zP, zQ, Nat.zero_add, Nat.reduceAdd]
  refine wt ?_
  refine sq_g (g_load_aggv rfl rfl) rfl ?_
  refine wt ?_
  refine sq_g (g_load_aggv rfl rfl) rfl ?_
  refine wt ?_
  exact sq_res1 rfl (.tmp rfl) rfl
theorem ixp_c (k : Nat) (Ps : List Pl) (a : Int) (A B C : List UInt8) (L : List Int) (hn : Ps.length ≤ 1000) (hs : ∀ P ∈ Ps, P.s.length ≤ 1000) (hL : L.length ≤ 1000) :
    CtrA Tryz.prog 75 [.sl Ps.length 5 (pf5 k Ps), ccp a A B C L] (vi (ixB (fun i => sameB k (gP Ps i) a A B C L) Ps.length)) := by
  refine ctrA _ Tryz.func75 rfl rfl Tryz.ntmps75 rfl fun w Z => ?_
  simp only [initT, zP, zQ, Nat.zero_add, Nat.reduceAdd]
  refine wt ?_
  refine cq_loop (γ := Nat) (fun i => [(0, .av (.sl Ps.length 5 (pf5 k Ps))), (1, .av (ccp a A B C L)), (6, .av (.sl Ps.length 5 (pf5 k Ps))), (7, .av (vi Ps.length)), (8, .av (vi i))]) (fun _ => []) (fun i => i ≤ Ps.length ∧ ∀ j, j < i → sameB k (gP Ps j) a A B C L = false) (fun i => Ps.length - i) 0 ⟨Nat.zero_le _, by omega⟩ (ent ⟨.refl _, .refl _, .refl _, .refl _, .refl _, trivial⟩ trivial) ?_
  rintro i ⟨hi, hall⟩
  refine wt ?_
  (refine cq_cond rfl (fun hb => ?_) (fun hb => ?_) <;> (try simp only [zA, zB, zC, zD, zE, zF, zG, zH, zI, zJ, zK, zL, zM, zN, zO] at hb) <;> (try (exfalso; omega)))
  · have hil : i < Ps.length := by omega
    have hc := clo33_c k (gP Ps i) a A B C L (hs _ (gP_mem hil)) hL
    refine wt ?_
    refine sq_g (g_load_aggv rfl rfl) rfl ?_
    refine wt ?_
    refine cq_cond rfl (fun hb => ?_) (fun hb => ?_)
    · have e1 := ixB_hit (p := fun i => sameB k (gP Ps i) a A B C L) hil hall hb
      refine wt ?_
      exact sq_res1 rfl (.tmp rfl) (by rw [e1])
    · refine wt ?_
      exact sq_round (i + 1) ⟨by omega, flt_step (p := fun i => sameB k (gP Ps i) a A B C L) hall hb⟩ (by omega) (ent ⟨.refl _, .refl _, .refl _, .refl _, .int (by omega), trivial⟩ trivial)
  · have hil : i = Ps.length := by omega
    subst hil
    have e1 := ixB_no (p := fun i => sameB k (gP Ps i) a A B C L) hall
    refine wt ?_
    exact sq_res1 rfl (.tmp rfl) (by rw [e1])
theorem cfp_c (k : Nat) (Ps : List Pl) (a : Int) (A B C : List UInt8) (L : List Int) (hn : Ps.length ≤ 1000) (hs : ∀ P ∈ Ps, P.s.length ≤ 1000) (hL : L.length ≤ 1000) :
    CtrA Tryz.prog 32 [.sl Ps.length 5 (pf5 k Ps), ccp a A B C L] (vb (Ps.any fun P => sameB k P a A B C L)) := by
  have h := ixp_c k Ps a A B C L hn hs hL
  refine ctrA _ Tryz.func32 rfl rfl Tryz.ntmps32 rfl fun w Z => ?_
  simp only [initT, zP, zQ, Nat.zero_add, Nat.reduceAdd]
  refine wt ?_
  exact sq_res1 rfl (.tmp rfl) (congrArg vb (ixB_any (fun P => sameB k P a A B C L) Ps))
end Go.Proofs.YtgepmbjmaljgoaaGreatDoor.H
end
section
namespace Go.Proofs.YtgepmbjmaljgoaaGreatDoor.H
open Go Go.Vc Go.RowKit
open Go.Na (rtx LR chkR_rtx chkR rsg)
set_option maxHeartbeats 4000000
theorem rgtB_ok {l : List Tr} {k : Nat} (hk : k < 3) (h : rgtB l k = true) : fewB l = true ∧ chkT l = 0 ∧ strB (plcs l k) = false ∧ RT l ∧ l.length ≤ 6 ∧ candX l k = tupOf [.sl (candP l k).length 5 (pf5 k (candP l k)), vi 0] := by
  unfold rgtB at h
  simp only [Bool.and_eq_true, decide_eq_true_eq, Bool.not_eq_true'] at h
  obtain ⟨h1, h2, h3⟩ := h
  obtain ⟨hR, h64⟩ := RT.of h2
  have h6 : l.length ≤ 6 := by unfold fewB at h1; simp at h1; omega
  have hg : givE l k = 0 := by unfold givE; rw [if_neg (fun h => h h2), if_pos (by omega)]
  refine ⟨h1, h2, h3, hR, h6, ?_⟩
  unfold candX candA
  rw [if_neg (fun h => h hg), Int.toNat_natCast, if_neg (fun h => h (chk_plcs hR h64 k)), if_neg (by rw [← coll_str, h3]; decide)]
end Go.Proofs.YtgepmbjmaljgoaaGreatDoor.H
end
section
namespace Go.Proofs.YtgepmbjmaljgoaaGreatDoor.H
open Go Go.Vc Go.RowKit
open Go.Na (rtx LR chkR_rtx chkR rsg)
set_option maxHeartbeats 4000000
theorem right_out (l : List Tr) (a : Int) (ha : ¬ (0 ≤ a ∧ a < 3)) : CtrA Tryz.prog 28 [ts l, vi a] (vb false) := by
  have h1 := fews_c l
  cases hf : fewB l with
  | false =>
    rw [hf] at h1
    refine ctrA _ Tryz.func28 rfl rfl Tryz.ntmps28 rfl fun w Z => ?_
    simp only [initT, zP, zQ, Nat.zero_add, Nat.reduceAdd]
    refine wt ?_
    exact sq_res1 rfl (.tmp rfl) rfl
  | true =>
    rw [hf] at h1
    have hl : l.length ≤ 1000 := by unfold fewB at hf; simp at hf; omega
    have h2 := rscheck_c l hl
    by_cases hT : chkT l = 0
    · rw [hT] at h2
      refine ctrA _ Tryz.func28 rfl rfl Tryz.ntmps28 rfl fun w Z => ?_
      simp only [initT, zP, zQ, Nat.zero_add, Nat.reduceAdd]
      (refine wt ?_; repeat' (((first | refine sq_split rfl rfl (fun hb => ?_) (fun hb => ?_) | refine dq_split rfl rfl (fun hb => ?_) (fun hb => ?_)) <;> (try simp only [zA, zB, zC, zD, zE, zF, zG, zH, zI, zJ, zK, zL, zM, zN, zO] at hb) <;> (try (exfalso; omega))) <;> refine wt ?_))
      all_goals exact sq_res1 rfl (.tmp rfl) rfl
    · have hne : (chkT l == 0) = false := by simpa using hT
      refine ctrA _ Tryz.func28 rfl rfl Tryz.ntmps28 rfl fun w Z => ?_
      simp only [initT, zP, zQ, Nat.zero_add, Nat.reduceAdd]
      refine wt ?_
      rw [hne]
      refine wt ?_
      exact sq_res1 rfl (.tmp rfl) rfl
def toI (s : List Nat) : List Int := s.map fun (n : Nat) => (n : Int)
theorem gz_toI (s : List Nat) (i : Nat) : gz (toI s) i = ((gi s i : Nat) : Int) := by
  unfold gz toI gi
  by_cases h : i < s.length <;> simp [List.getD, h]
theorem idx_toI (s : List Nat) : idx s = ixs (toI s) := by
  unfold idx
  show AV.sl _ _ _ = AV.sl _ _ _
  have h1 : (toI s).length = s.length := by simp [toI]
  rw [h1]
  congr 1
  funext i j
  show _ = vi (gz (toI s) i)
  rw [gz_toI]
theorem verR_cand {l : List Tr} {k : Nat} (hk : k < 3) {P : Pl} (h : P ∈ candP l k) : verR l k P.A P.B P.C (toI P.s) = 0 := by
  obtain ⟨hon, hpos⟩ := cand_on hk h
  have hlen : (toI P.s).length = P.s.length := by simp [toI]
  have hmem : ∀ i, i < P.s.length → gi P.s i < l.length := fun i hi => by
    have : gi P.s i ∈ onL l k P.A P.B P.C l.length := by rw [← hon, gi_eq hi]; exact List.getElem_mem hi
    exact onL_lt' this
  have h1 : rngB (toI P.s) l.length = false := any_no fun i hi => by
    rw [hlen] at hi
    have := hmem i hi
    rw [gz_toI]
    exact decide_eq_false (by omega)
  have h2 : ordB (toI P.s) = false := any_no fun i hi => by
    rw [hlen] at hi
    rw [gz_toI, gz_toI]
    refine decide_eq_false fun hh => ?_
    have h3 := onL_asc (l := l) (k := k) (A := P.A) (B := P.B) (C := P.C) (n := l.length) (i := i - 1) (j := i) (by omega) (by rw [← hon]; exact hi)
    rw [← hon] at h3
    omega
  have h3 : lowB l k P.A P.B P.C l.length = false := any_no fun i hi => decide_eq_false (by have := cand_up (cand_thrs h) hi; grind)
  have h4 := cand_str hk h
  unfold verR
  rw [if_neg (by rw [h1]; decide), if_neg (by rw [h2]; decide), if_neg (by rw [h3]; decide), ← hon, if_neg]
  rw [← coll_str, h4]
  rintro (h5 | h5)
  · cases h5
  · unfold eqB at h5
    rw [decide_eq_true hlen.symm, Bool.true_and] at h5
    rw [List.all_eq_false] at h5
    obtain ⟨i, _, h6⟩ := h5
    rw [gz_toI] at h6
    simp at h6
theorem cand_verR {l : List Tr} {k : Nat} (hk : k < 3) {A B C : Rat} {L : List Int} (h : verR l k A B C L = 0) : ∃ P ∈ candP l k, P.A = A ∧ P.B = B ∧ P.C = C ∧ eqB (fun i => ((gi P.s i : Nat) : Int)) P.s.length (gz L) L.length = true := by
  unfold verR at h
  split at h
  · cases h
  · split at h
    · cases h
    · split at h
      · cases h
      · rename_i hlow
        split at h
        · cases h
        · rename_i hh
          have hs : strB (plP l k (onL l k A B C l.length)) = false := by
            rw [coll_str]
            cases hc : collB (plP l k (onL l k A B C l.length)) with
            | false => rfl
            | true => exact absurd (.inl hc) hh
          refine ⟨_, cand_of hk (by simpa using hlow) hs, rfl, rfl, rfl, ?_⟩
          show eqB _ (onL l k A B C l.length).length _ _ = true
          cases he : eqB (fun i => ((gi (onL l k A B C l.length) i : Nat) : Int)) (onL l k A B C l.length).length (gz L) L.length with
          | true => rfl
          | false => exact absurd (.inr he) hh
theorem eqB_toI {s : List Nat} {L : List Int} (h : eqB (fun i => ((gi s i : Nat) : Int)) s.length (gz L) L.length = true) : L = toI s := by
  unfold eqB at h
  rw [Bool.and_eq_true, decide_eq_true_eq, List.all_eq_true] at h
  obtain ⟨h1, h2⟩ := h
  refine List.ext_getElem (by simp [toI, h1]) fun i hi hi' => ?_
  have hs : i < s.length := by omega
  have := h2 i (List.mem_range.2 hs)
  rw [decide_eq_true_eq] at this
  dsimp only at this
  rw [gi_eq hs] at this
  unfold gz at this
  simp only [toI, List.getElem_map]
  rw [this]
  simp [List.getD, hi]
theorem is_iff {l : List Tr} {k : Nat} (hk : k < 3) (A B C : Rat) (L : List Int) : ((candP l k).any fun P => sameB k P k (rtx A) (rtx B) (rtx C) L) = decide (verR l k A B C L = 0) := by
  rw [Bool.eq_iff_iff, List.any_eq_true, decide_eq_true_eq]
  constructor
  · rintro ⟨P, hP, hs⟩
    unfold sameB at hs
    simp only [Bool.and_eq_true, beq_iff_eq, decide_eq_true_eq] at hs
    obtain ⟨_, h1, h2, h3, h4⟩ := hs
    have := verR_cand hk hP
    rw [← eqB_toI h4, Go.Na.rtx_inj h1, Go.Na.rtx_inj h2, Go.Na.rtx_inj h3] at this
    exact this
  · intro h
    obtain ⟨P, hP, rfl, rfl, rfl, h4⟩ := cand_verR hk h
    exact ⟨P, hP, by unfold sameB; simp [h4]⟩
theorem is_bad {l : List Tr} {k : Nat} (hk : k < 3) (A B C : List UInt8) (L : List Int) (he : plE k A B C ≠ 0) : ((candP l k).any fun P => sameB k P k A B C L) = false := by
  rw [List.any_eq_false]
  rintro P hP hs
  unfold sameB at hs
  simp only [Bool.and_eq_true, beq_iff_eq, decide_eq_true_eq] at hs
  obtain ⟨_, rfl, rfl, rfl, _⟩ := hs
  apply he
  unfold plE
  rw [if_neg (fun h => h (by omega)), if_neg (fun h => h (chkR_rtx _)), if_neg (fun h => h (chkR_rtx _)), chkR_rtx]
end Go.Proofs.YtgepmbjmaljgoaaGreatDoor.H
end
section
namespace Go.Vc
open Go Go.RowKit
section
variable {P : Program} {E : Env} {id : Nat} {L l : List Oper} {Q : Exit → Act → World → Prop} {rpre : List (Oper × Rec)} {T0 T : Tab} {O0 O : Own}
theorem dq_von {d : Nat} {op : Op} {ty : TypeId} {pos : String} {af : Array Edge} {s : SV} {rr : List Nat} {r j gd : Nat} {want : Bool} {x : Res} (hs : GA P E ⟨some d, op, ty, pos, af, some (j, want)⟩ T O s rr r x) (hj : (L.toArray[j]?).bind (·.dst) = some gd) (hb : T.get gd = .av (.val (.bool want)))
    (_hf : (freshTB r T && freshOB r O) = true) (hd : E.wr d = true) (hr : DRQ P E id L Q ((⟨some d, op, ty, pos, af, some (j, want)⟩, ⟨[(d, s)], rr, [(r, x)], [r]⟩) :: rpre) l T0 O0 ((d, s) :: T) ((r, x) :: O)) :
    DRQ P E id L Q rpre (⟨some d, op, ty, pos, af, some (j, want)⟩ :: l) T0 O0 T O := by
  refine dq_push (x := ⟨[(d, s)], rr, [(r, x)], [r]⟩) rfl ?_ hr
  refine ⟨hs.nd, fun T' O' h1 h2 h3 a w hsat => ?_⟩
  obtain ⟨Z, ν, h⟩ := hsat
  have hgm : gd ∈ Oper.looksAt L.toArray ⟨some d, op, ty, pos, af, some (j, want)⟩ := List.mem_append.2 (.inr (by simp only [hj]; simp))
  have hy := yielded_of hj ((h1 gd hgm).trans hb) h
  rw [if_pos (by simp [Region.wanted, hy])]
  refine Oper.wp_mono ?_ ((hs.vs T' O' (fun d hd => h1 d (List.mem_append.2 (.inl hd))) h2 (h3 r (by simp))).run Z ν a w h)
  rintro a' w' ⟨v, Z', ν', rfl, h', hv⟩
  exact ⟨Z', ν', h'.put (some d) _ _ hd hv⟩
end
end Go.Vc
end
section
namespace Go.Proofs.YtgepmbjmaljgoaaGreatDoor.H
open Go Go.Vc Go.RowKit
open Go.Na (rtx LR chkR_rtx chkR rsg)
set_option maxHeartbeats 4000000
theorem restA_eq {l : List Tr} {k : Nat} (hk : k < 3) (hrg : rgtB l k = true) {p : Pt} (hp : rightB p = true) : (inH (plcs l k) p = true ∧ ∃ P, P ∈ candP l k ∧ restA l k p = tupOf [pR k P, vb true, vi 0]) ∨ (inH (plcs l k) p = false ∧ restA l k p = tupOf [pZ, vb false, vi 0]) := by
  obtain ⟨hfw, hT, hs, hR, h6, hcx⟩ := rgtB_ok hk hrg
  have hg : givE l k = 0 := by unfold givE; rw [if_neg (fun h => h hT), if_pos (by omega)]
  obtain ⟨_, h64⟩ := RT.of hT
  have hE : cndE l k = 0 := by
    unfold cndE
    rw [if_neg (fun h => h hg), Int.toNat_natCast, if_neg (fun h => h (chk_plcs hR h64 k)), if_neg (by rw [← coll_str, hs]; decide)]
  have hrA : restA l k p = match (candP l k).find? (bearB l k p) with | some P => tupOf [pR k P, vb true, vi 0] | none => tupOf [pZ, vb false, vi 0] := by
    unfold restA; rw [if_neg (fun h => h hg), if_neg (by rw [hp]; decide), if_neg (fun h => h hE), Int.toNat_natCast]
    rfl
  have hiff := bears_iff hk hR h64 hs hp
  rw [hrA]
  cases hf : (candP l k).find? (bearB l k p) with
  | some P => exact .inl ⟨hiff.1 ⟨P, List.mem_of_find?_eq_some hf, List.find?_some hf⟩, P, List.mem_of_find?_eq_some hf, rfl⟩
  | none =>
    refine .inr ⟨?_, rfl⟩
    cases hh : inH (plcs l k) p with
    | false => rfl
    | true =>
      obtain ⟨P, hP, hb⟩ := hiff.2 hh
      have := List.find?_eq_none.1 hf P hP
      exact absurd hb this
theorem bears_law (l : List Tr) (a : Int) (p : Pt) (ha : 0 ≤ a ∧ a ≤ 255) : CtrA Tryz.prog 7 [ts l, .val (.int .u8 a), pp p] (vb true) := by
  have haw := awake_c
  obtain ⟨k, hk, hka⟩ : ∃ k : Nat, k < 3 ∧ a % 3 = k := ⟨(a % 3).toNat, by omega, by omega⟩
  have hr := right_c l hk
  have hrp := rright_c p
  cases hrg : rgtB l k with
  | false =>
    rw [hrg] at hr
    refine ctrA _ Tryz.func7 rfl rfl Tryz.ntmps7 rfl fun w Z => ?_
    simp only [initT, zP, zQ, Nat.zero_add, Nat.reduceAdd]
    refine wt ?_
    rw [hka]
    refine wt ?_
    exact sq_res1 rfl (.tmp rfl) rfl
  | true =>
    rw [hrg] at hr
    cases hpr : rightB p with
    | false =>
      rw [hpr] at hrp
      refine ctrA _ Tryz.func7 rfl rfl Tryz.ntmps7 rfl fun w Z => ?_
      simp only [initT, zP, zQ, Nat.zero_add, Nat.reduceAdd]
      refine wt ?_
      rw [hka]
      refine wt ?_
      exact sq_res1 rfl (.tmp rfl) rfl
    | true =>
      rw [hpr] at hrp
      obtain ⟨hfw, hT, hs, hR, h6, hcx⟩ := rgtB_ok hk hrg
      obtain ⟨_, h64⟩ := RT.of hT
      have hre := resting_c l k p hfw
      have hpl := rplaces_c l hk (by omega)
      have hin := inH_c (plcs l k) p (chk_sm (chk_plcs hR h64 k)).1 (right_sm hpr) (by rw [plcs_len]; exact h64)
      rcases restA_eq hk hrg hpr with ⟨hi, P, hP, hA⟩ | ⟨hi, hA⟩
      · rw [hA] at hre
        rw [hi] at hin
        obtain ⟨lA, lB, lC⟩ := thrs_LR19 hR (cand_thrs hP)
        have tl : ∀ {q : Rat}, LR 19 q → (rtx q).length ≤ 400 := fun h => by have := LR.len' h (by decide); omega
        have hsl : P.s.length ≤ 6 := by
          have h1 := onL_len' l k P.A P.B P.C l.length
          rw [(cand_on hk hP).1]; omega
        have hvc := Verify_ok l k hk P.A P.B P.C (toI P.s) hT (by simp [toI]; omega) (Go.Na.LR.mono lA (by decide)) (Go.Na.LR.mono lB (by decide)) (Go.Na.LR.mono lC (by decide)) (tl lA) (tl lB) (tl lC)
        rw [verR_cand hk hP, ← idx_toI] at hvc
        refine ctrA _ Tryz.func7 rfl rfl Tryz.ntmps7 rfl fun w Z => ?_
        simp only [initT, zP, zQ, Nat.zero_add, Nat.reduceAdd]
        refine wt ?_
        rw [hka]
        refine wt ?_
        refine sq_s (g_store_aggv rfl rfl (pAf_one _ _ _ _ _) rfl rfl) ?_
        refine wt ?_
        refine dq_von (ga_call_row 22 hpl rfl) rfl rfl rfl rfl ?_
        refine wt ?_
        refine sq_on (g_load_own_aggv (f := pAf k (rtx P.A) (rtx P.B) (rtx P.C) (idx P.s)) rfl rfl rfl) rfl rfl rfl ?_
        refine wt ?_
        exact sq_res1 rfl (.tmp rfl) rfl
      · rw [hA] at hre
        rw [hi] at hin
        refine ctrA _ Tryz.func7 rfl rfl Tryz.ntmps7 rfl fun w Z => ?_
        simp only [initT, zP, zQ, Nat.zero_add, Nat.reduceAdd]
        refine wt ?_
        rw [hka]
        refine wt ?_
        refine dq_von (ga_call_row 22 hpl rfl) rfl rfl rfl rfl ?_
        refine wt ?_
        exact sq_res1 rfl (.tmp rfl) rfl
end Go.Proofs.YtgepmbjmaljgoaaGreatDoor.H
end
