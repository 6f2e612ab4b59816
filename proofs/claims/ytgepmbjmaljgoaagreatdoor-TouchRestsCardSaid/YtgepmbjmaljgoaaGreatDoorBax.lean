/- A part of the proof. -/
import Derived.Test.YtgepmbjmaljgoaaGreatDoorBaw
set_option linter.unusedVariables false
set_option linter.unusedSimpArgs false
namespace Go.Proofs.YtgepmbjmaljgoaaGreatDoor.H
open Go Go.Vc Go.RowKit
open Go.Na (rtx LR chkR_rtx chkR rsg Mat red LM Ker)
set_option maxHeartbeats 4000000
theorem xs_step (x : Nat → Rat) (k : Nat) : ∀ j, j < k + 1 → ∀ y, y < 1 → rowApp k (fun i _ => vR (x i)) (fun _ _ => vR (x k)) j y = (fun i (_ : Nat) => vR (x i)) j y := by
 intro j hj y _
 unfold rowApp
 split
 ·rfl
 ·have : j = k := by omega
  subst this; rfl
theorem solved_c (f b x : Nat → Rat) (hM : ∀ v, Ker (mF (besF f b)) 3 4 v → (∀ c, 3 ≤ c → c < 4 → v c = 0) → ∀ c, c < 3 → v c = 0) (h1 : f 0 = 1) (hL : ∀ k, k < 3 → LM 101 (red 3 (mF (besF f b)) k).1)
  (hx : ∀ c, c < 3 → (red 3 (mF (besF f b)) 4).1 c 3 = x c) : CtrA Tryz.prog 163 [matA 3 3 f, .sl 3 1 (fun i _ => vR (b i))] (tupOf [.sl 3 1 (fun i _ => vR (x i)), vb true]) := by
 have hb := beside_c f b
 have hr := reduced_c (besF f b) hM (by simpa [besF] using h1) hL
 have hp3 := Go.Proofs.YtgepmbjmaljgoaaGreatDoor.place_c 3 (fun j => (j : Int)) ((3 : Nat) : Int) zE
 rw [show placeI (fun j => (j : Int)) ((3 : Nat) : Int) 0 3 = -1 from rfl] at hp3
 refine ctrA _ Tryz.func163 rfl rfl Tryz.ntmps163 rfl fun w Z => ?_
 refine zU ?_
 refine wt ?_
 refine sq_g (g_load_aggv rfl rfl) rfl ?_
 refine wt ?_
 obtain ⟨G, hG⟩ : ∃ G : Nat → Rat, G = fun x => (red 3 (mF (besF f b)) 4).1 (x / 4) (x % 4) := ⟨_, rfl⟩
 rw [← hG]
 have hg : ∀ c, c < 3 → G (c * 4 + 3) = x c := fun c hc => by rw [hG, ← hx c hc]; show (red 3 (mF (besF f b)) 4).1 ((c * 4 + 3) / 4) ((c * 4 + 3) % 4) = _; rw [show (c * 4 + 3) / 4 = c by omega, show (c * 4 + 3) % 4 = 3 by omega]
 refine sq_s (g_store_aggv rfl rfl (matF_one _ _ _) rfl rfl) ?_
 refine wt ?_
 refine cq_loop (γ := Nat) (fun c => [(2, .av (.ptr 3 (matF 3 3 f))), (4, .av (.val (.slice none 0 0))), (5, .av (vb false)), (6, .av (.ptr 3 (matF 3 4 G))), (7, .av (.sl 3 1 (fun j _ => vi j))), (8, .osl 20), (9, .av (vi c))]) (fun c => [(20, .row 39 1 c (fun i _ => vR (x i)))]) (fun c => c ≤ 3) (fun c => 3 - c) 0 (Nat.zero_le _) ((ent_freezec 6 10 (matF 3 4 G) rfl rfl rfl).trans ((ent_row (dd := 8) 20 39 1 (fun i _ => vR (x i)) rfl rfl).trans (ent zS zT))) ?_
 intro c hc
 match c, hc with
 |0, _ =>
  have hp := Go.Proofs.YtgepmbjmaljgoaaGreatDoor.place_c 3 (fun j => (j : Int)) ((0 : Nat) : Int) zE
  rw [show placeI (fun j => (j : Int)) ((0 : Nat) : Int) 0 3 = ((0 : Nat) : Int) from rfl] at hp
  have ha := at_c 3 4 0 3 G zE zE zE zE
  rw [hg 0 (by decide)] at ha
  refine wt ?_
  refine sq_g (g_load_aggv rfl rfl) rfl ?_
  refine wt ?_
  refine sq_g (g_bslice (is := [0]) (xs := [_]) (vs := [_]) (us := [.string (bs (rtx (x 0)))]) (row := fun _ _ => vR (x 0)) (tq102o _) rfl rfl rfl (o1_ok _)) rfl ?_
  refine wt ?_
  refine sq_v (v_append (m := 1) (sz := 1) (bytes := 16) rfl rfl rfl (fun _ _ _ _ => rfl) zE zE zE) rfl ?_
  refine wt ?_
  exact sq_round 1 zE zE (ent zS ⟨⟨_, rfl, .row rfl (xs_step x 0)⟩, trivial⟩)
 |1, _ =>
  have hp := Go.Proofs.YtgepmbjmaljgoaaGreatDoor.place_c 3 (fun j => (j : Int)) ((1 : Nat) : Int) zE
  rw [show placeI (fun j => (j : Int)) ((1 : Nat) : Int) 0 3 = ((1 : Nat) : Int) from rfl] at hp
  have ha := at_c 3 4 1 3 G zE zE zE zE
  rw [hg 1 (by decide)] at ha
  refine wt ?_
  refine sq_g (g_load_aggv rfl rfl) rfl ?_
  refine wt ?_
  refine sq_g (g_bslice (is := [0]) (xs := [_]) (vs := [_]) (us := [.string (bs (rtx (x 1)))]) (row := fun _ _ => vR (x 1)) (tq102o _) rfl rfl rfl (o1_ok _)) rfl ?_
  refine wt ?_
  refine sq_v (v_append (m := 1) (sz := 1) (bytes := 16) rfl rfl rfl (fun _ _ _ _ => rfl) zE zE zE) rfl ?_
  refine wt ?_
  exact sq_round 2 zE zE (ent zS ⟨⟨_, rfl, .row rfl (xs_step x 1)⟩, trivial⟩)
 |2, _ =>
  have hp := Go.Proofs.YtgepmbjmaljgoaaGreatDoor.place_c 3 (fun j => (j : Int)) ((2 : Nat) : Int) zE
  rw [show placeI (fun j => (j : Int)) ((2 : Nat) : Int) 0 3 = ((2 : Nat) : Int) from rfl] at hp
  have ha := at_c 3 4 2 3 G zE zE zE zE
  rw [hg 2 (by decide)] at ha
  refine wt ?_
  refine sq_g (g_load_aggv rfl rfl) rfl ?_
  refine wt ?_
  refine sq_g (g_bslice (is := [0]) (xs := [_]) (vs := [_]) (us := [.string (bs (rtx (x 2)))]) (row := fun _ _ => vR (x 2)) (tq102o _) rfl rfl rfl (o1_ok _)) rfl ?_
  refine wt ?_
  refine sq_v (v_append (m := 1) (sz := 1) (bytes := 16) rfl rfl rfl (fun _ _ _ _ => rfl) zE zE zE) rfl ?_
  refine wt ?_
  exact sq_round 3 zE zE (ent zS ⟨⟨_, rfl, .row rfl (xs_step x 2)⟩, trivial⟩)
 |3, _ =>
  refine wt ?_
  refine sq_more (ent_freeze 20 rfl) ?_
  exact zW
 |_ + 4, h => exact absurd h zO
def thF (k : Nat) (L : List Tr) : Nat → Rat := fun x => if x % 3 = 0 then 1 else if x % 3 = 1 then (((plc k (gt L (x / 3))).x : Int) : Rat) else (((plc k (gt L (x / 3))).y : Int) : Rat)
def thB (k : Nat) (L : List Tr) : Nat → Rat := fun i => ((cz (gt L i) k : Int) : Rat)
theorem tb212o : Tryz.prog.built 212 [(0, .int .i64 3), (1, .int .i64 3)] = some #[.int .i64 3, .int .i64 3, .slice none 0 0] := by kernel_rfl
theorem tb45 (k : Int) (a b c : List UInt8) : Tryz.prog.built 45 [(0, .int .i64 k), (1, sv a), (2, sv b), (3, sv c)] = some #[.int .i64 k, sv a, sv b, sv c, .slice none 0 0] := by kernel_rfl
theorem rtx_1 : rtx 1 = [49] := by decide +kernel
theorem th_step (k : Nat) (L : List Tr) (i : Nat) : ∀ x, x < i * 3 + 3 → ∀ j, j < 1 → rowApp (i * 3) (fun x _ => vR (thF k L x)) (fun y _ => vS (g3 [49] (rtx ((plc k (gt L i)).x : Rat)) (rtx ((plc k (gt L i)).y : Rat)) y)) x j = (fun x (_ : Nat) => vR (thF k L x)) x j := by
 intro x hx j _
 unfold rowApp
 split
 ·rfl
 ·obtain ⟨y, hy, e⟩ : ∃ y, y < 3 ∧ x = i * 3 + y := ⟨x - i * 3, by omega, by omega⟩
  subst e
  have e1 : (i * 3 + y) / 3 = i := by omega
  have e2 : (i * 3 + y) % 3 = y := by omega
  dsimp only
  unfold thF
  rw [e1, e2, show i * 3 + y - i * 3 = y by omega]
  rcases (by omega : y = 0 ∨ y = 1 ∨ y = 2) with rfl | rfl | rfl
  ·rw [if_pos rfl]; show vS [49] = vS (rtx 1); rw [rtx_1]
  ·rw [if_neg (by decide), if_pos rfl]; rfl
  ·rw [if_neg (by decide), if_neg (by decide)]; rfl
theorem through41_c (k : Nat) (hk : k < 3) (a b c : Tr) (ha : BT 100000 a) (hb' : BT 100000 b) (hc : BT 100000 c) (x : Nat → Rat)
  (hM : ∀ v, Ker (mF (besF (thF k [a, b, c]) (thB k [a, b, c]))) 3 4 v → (∀ c, 3 ≤ c → c < 4 → v c = 0) → ∀ c, c < 3 → v c = 0) (hL : ∀ j, j < 3 → LM 101 (red 3 (mF (besF (thF k [a, b, c]) (thB k [a, b, c]))) j).1)
  (hx : ∀ j, j < 3 → (red 3 (mF (besF (thF k [a, b, c]) (thB k [a, b, c]))) 4).1 j 3 = x j) : CtrA Tryz.prog 101 [tp a, tp b, tp c, vi k] (pA k (rtx (x 0)) (rtx (x 1)) (rtx (x 2)) (.val (.slice none 0 0))) := by
 have hs := solved_c (thF k [a, b, c]) (thB k [a, b, c]) x hM rfl hL hx
 have hR : ∀ i, i < 3 → BT 100000 (gt [a, b, c] i) := by
  intro i hi
  match i, hi with
  |0, _ => exact ha
  |1, _ => exact hb'
  |2, _ => exact hc
 refine ctrA _ Tryz.func101 rfl rfl Tryz.ntmps101 rfl fun w Z => ?_
 refine zU ?_
 refine wt ?_
 refine sq_g (g_build (t := 212) (is := [0, 1]) (xs := [_, _]) (vs := [_, _]) tb212o rfl rfl) rfl ?_
 refine wt ?_
 refine sq_g (g_bslice (row := tf [a, b, c]) (is := [0, 1, 2]) (xs := [_, _, _]) (vs := [_, _, _]) (us := [_, _, _, _, _, _, _, _, _]) (tq22_3 a b c) rfl rfl rfl (ts3_row a b c)) rfl ?_
 refine wt ?_
 refine cq_loop (γ := Nat) (fun i => [(3, .av (vi k)), (8, .own 10 0), (9, .own 11 0), (10, .osl 21), (11, .av (.sl 3 3 (tf [a, b, c]))), (12, .av (vi i))]) (fun i => [(10, .cells [.av (vi 0), .av (vS []), .av (vS []), .av (vS []), .av (.val (.slice none 0 0))]), (11, .cells [.av (vi 3), .av (vi 3), .osl 20]), (20, .row 39 1 (i * 3) (fun x _ => vR (thF k [a, b, c] x))), (21, .row 39 1 i (fun j _ => vR (thB k [a, b, c] j)))]) (fun i => i ≤ 3) (fun i => 3 - i) 0 (Nat.zero_le _) ((ent_rowc (r := 11) (off := 2) 20 39 1 (fun x _ => vR (thF k [a, b, c] x)) rfl rfl rfl).trans ((ent_row (dd := 10) 21 39 1 (fun j _ => vR (thB k [a, b, c] j)) rfl rfl).trans (ent zS zT))) ?_
 intro i hi
 match i, hi with
 |0, _ =>
  have hp := rplace_c (gt [a, b, c] 0) hk
  have hq := rcoord_c (gt [a, b, c] 0) hk
  have hBT := hR 0 zE
  have hb1 := hBT.cz (ou k)
  have hb2 := hBT.cz (ov k)
  have hb3 := hBT.cz k
  have w1 := refwhole_c (plc k (gt [a, b, c] 0)).x (by show _ ≤ cz (gt [a, b, c] 0) (ou k) ∧ cz (gt [a, b, c] 0) (ou k) ≤ _; omega)
  have w2 := refwhole_c (plc k (gt [a, b, c] 0)).y (by show _ ≤ cz (gt [a, b, c] 0) (ov k) ∧ cz (gt [a, b, c] 0) (ov k) ≤ _; omega)
  have w3 := refwhole_c (cz (gt [a, b, c] 0) k) zO
  refine wt ?_
  refine dq_g (g_bslice (is := [0, 1, 2]) (xs := [_, _, _]) (vs := [_, _, _]) (us := [.string (bs [49]), .string (bs (rtx ((plc k (gt [a, b, c] 0)).x : Rat))), .string (bs (rtx ((plc k (gt [a, b, c] 0)).y : Rat)))]) (row := fun i _ => vS (g3 [49] (rtx ((plc k (gt [a, b, c] 0)).x : Rat)) (rtx ((plc k (gt [a, b, c] 0)).y : Rat)) i)) (tq102 _ _ _) rfl rfl rfl (g3_ok _ _ _)) rfl ?_
  refine wt ?_
  refine dq_tail rfl rfl ?_
  refine sq_v (v_append (m := 3) (sz := 1) (bytes := 16) rfl rfl rfl (fun _ _ _ _ => rfl) zE zE zE) rfl ?_
  refine wt ?_
  refine sq_g (g_bslice (is := [0]) (xs := [_]) (vs := [_]) (us := [.string (bs (rtx (cz (gt [a, b, c] 0) k : Rat)))]) (row := fun _ _ => vR (cz (gt [a, b, c] 0) k : Rat)) (tq102o _) rfl rfl rfl (o1_ok _)) rfl ?_
  refine wt ?_
  refine sq_v (v_append (m := 1) (sz := 1) (bytes := 16) rfl rfl rfl (fun _ _ _ _ => rfl) zE zE zE) rfl ?_
  refine wt ?_
  exact sq_round 1 zE zE (ent zS ⟨⟨_, rfl, .refl _⟩, ⟨_, rfl, .refl _⟩, ⟨_, rfl, .row rfl (th_step k [a, b, c] 0)⟩, ⟨_, rfl, .row rfl (xs_step (thB k [a, b, c]) 0)⟩, trivial⟩)
 |1, _ =>
  have hp := rplace_c (gt [a, b, c] 1) hk
  have hq := rcoord_c (gt [a, b, c] 1) hk
  have hBT := hR 1 zE
  have hb1 := hBT.cz (ou k)
  have hb2 := hBT.cz (ov k)
  have hb3 := hBT.cz k
  have w1 := refwhole_c (plc k (gt [a, b, c] 1)).x (by show _ ≤ cz (gt [a, b, c] 1) (ou k) ∧ cz (gt [a, b, c] 1) (ou k) ≤ _; omega)
  have w2 := refwhole_c (plc k (gt [a, b, c] 1)).y (by show _ ≤ cz (gt [a, b, c] 1) (ov k) ∧ cz (gt [a, b, c] 1) (ov k) ≤ _; omega)
  have w3 := refwhole_c (cz (gt [a, b, c] 1) k) zO
  refine wt ?_
  refine dq_g (g_bslice (is := [0, 1, 2]) (xs := [_, _, _]) (vs := [_, _, _]) (us := [.string (bs [49]), .string (bs (rtx ((plc k (gt [a, b, c] 1)).x : Rat))), .string (bs (rtx ((plc k (gt [a, b, c] 1)).y : Rat)))]) (row := fun i _ => vS (g3 [49] (rtx ((plc k (gt [a, b, c] 1)).x : Rat)) (rtx ((plc k (gt [a, b, c] 1)).y : Rat)) i)) (tq102 _ _ _) rfl rfl rfl (g3_ok _ _ _)) rfl ?_
  refine wt ?_
  refine dq_tail rfl rfl ?_
  refine sq_v (v_append (m := 3) (sz := 1) (bytes := 16) rfl rfl rfl (fun _ _ _ _ => rfl) zE zE zE) rfl ?_
  refine wt ?_
  refine sq_g (g_bslice (is := [0]) (xs := [_]) (vs := [_]) (us := [.string (bs (rtx (cz (gt [a, b, c] 1) k : Rat)))]) (row := fun _ _ => vR (cz (gt [a, b, c] 1) k : Rat)) (tq102o _) rfl rfl rfl (o1_ok _)) rfl ?_
  refine wt ?_
  refine sq_v (v_append (m := 1) (sz := 1) (bytes := 16) rfl rfl rfl (fun _ _ _ _ => rfl) zE zE zE) rfl ?_
  refine wt ?_
  exact sq_round 2 zE zE (ent zS ⟨⟨_, rfl, .refl _⟩, ⟨_, rfl, .refl _⟩, ⟨_, rfl, .row rfl (th_step k [a, b, c] 1)⟩, ⟨_, rfl, .row rfl (xs_step (thB k [a, b, c]) 1)⟩, trivial⟩)
 |2, _ =>
  have hp := rplace_c (gt [a, b, c] 2) hk
  have hq := rcoord_c (gt [a, b, c] 2) hk
  have hBT := hR 2 zE
  have hb1 := hBT.cz (ou k)
  have hb2 := hBT.cz (ov k)
  have hb3 := hBT.cz k
  have w1 := refwhole_c (plc k (gt [a, b, c] 2)).x (by show _ ≤ cz (gt [a, b, c] 2) (ou k) ∧ cz (gt [a, b, c] 2) (ou k) ≤ _; omega)
  have w2 := refwhole_c (plc k (gt [a, b, c] 2)).y (by show _ ≤ cz (gt [a, b, c] 2) (ov k) ∧ cz (gt [a, b, c] 2) (ov k) ≤ _; omega)
  have w3 := refwhole_c (cz (gt [a, b, c] 2) k) zO
  refine wt ?_
  refine dq_g (g_bslice (is := [0, 1, 2]) (xs := [_, _, _]) (vs := [_, _, _]) (us := [.string (bs [49]), .string (bs (rtx ((plc k (gt [a, b, c] 2)).x : Rat))), .string (bs (rtx ((plc k (gt [a, b, c] 2)).y : Rat)))]) (row := fun i _ => vS (g3 [49] (rtx ((plc k (gt [a, b, c] 2)).x : Rat)) (rtx ((plc k (gt [a, b, c] 2)).y : Rat)) i)) (tq102 _ _ _) rfl rfl rfl (g3_ok _ _ _)) rfl ?_
  refine wt ?_
  refine dq_tail rfl rfl ?_
  refine sq_v (v_append (m := 3) (sz := 1) (bytes := 16) rfl rfl rfl (fun _ _ _ _ => rfl) zE zE zE) rfl ?_
  refine wt ?_
  refine sq_g (g_bslice (is := [0]) (xs := [_]) (vs := [_]) (us := [.string (bs (rtx (cz (gt [a, b, c] 2) k : Rat)))]) (row := fun _ _ => vR (cz (gt [a, b, c] 2) k : Rat)) (tq102o _) rfl rfl rfl (o1_ok _)) rfl ?_
  refine wt ?_
  refine sq_v (v_append (m := 1) (sz := 1) (bytes := 16) rfl rfl rfl (fun _ _ _ _ => rfl) zE zE zE) rfl ?_
  refine wt ?_
  exact sq_round 3 zE zE (ent zS ⟨⟨_, rfl, .refl _⟩, ⟨_, rfl, .refl _⟩, ⟨_, rfl, .row rfl (th_step k [a, b, c] 2)⟩, ⟨_, rfl, .row rfl (xs_step (thB k [a, b, c]) 2)⟩, trivial⟩)
 |3, _ =>
  refine wt ?_
  refine lsq_ent ((ent_freeze 21 rfl).trans (ent_freeze_in 11 20 2 rfl rfl rfl rfl)) ?_
  refine sq_g (g_load_own_aggv (f := matF 3 3 (thF k [a, b, c])) rfl rfl rfl) rfl ?_
  refine wt ?_
  refine dq_g (g_build (t := 45) (is := [0, 1, 2, 3]) (xs := [_, _, _, _]) (vs := [_, _, _, _]) (tb45 k _ _ _) rfl rfl) rfl ?_
  refine wt ?_
  exact sq_res1 rfl (.aggv (f := pAf k (rtx (x 0)) (rtx (x 1)) (rtx (x 2)) (.val (.slice none 0 0))) rfl rfl rfl) rfl
 |_ + 4, h => exact absurd h zO
end Go.Proofs.YtgepmbjmaljgoaaGreatDoor.H
namespace Go.Proofs.YtgepmbjmaljgoaaGreatDoor.H
open Go Go.Vc
open Go.Na (rtx LR LI Mat red LM Ker sm red_next red_sol piv)
theorem thM_at (k : Nat) (L : List Tr) (i : Nat) : (mF (besF (thF k L) (thB k L))) i 0 = 1 ∧ (mF (besF (thF k L) (thB k L))) i 1 = (((plc k (gt L i)).x : Int) : Rat) ∧ (mF (besF (thF k L) (thB k L))) i 2 = (((plc k (gt L i)).y : Int) : Rat) ∧ (mF (besF (thF k L) (thB k L))) i 3 = ((cz (gt L i) k : Int) : Rat) := by
 have h : ∀ c, c < 4 → (i * 4 + c) % 4 = c ∧ (i * 4 + c) / 4 = i := fun c hc => ⟨by omega, by omega⟩
 have g : ∀ c, c < 3 → (i * 3 + c) % 3 = c ∧ (i * 3 + c) / 3 = i := fun c hc => ⟨by omega, by omega⟩
 refine ⟨?_, ?_, ?_, ?_⟩
 ·show besF _ _ (i * 4 + 0) = _
  unfold besF
  rw [(h 0 (by omega)).1, (h 0 (by omega)).2, if_pos (by decide)]
  unfold thF
  rw [(g 0 (by omega)).1, if_pos rfl]
 ·show besF _ _ (i * 4 + 1) = _
  unfold besF
  rw [(h 1 (by omega)).1, (h 1 (by omega)).2, if_pos (by decide)]
  unfold thF
  rw [(g 1 (by omega)).1, (g 1 (by omega)).2, if_neg (by decide), if_pos rfl]
 ·show besF _ _ (i * 4 + 2) = _
  unfold besF
  rw [(h 2 (by omega)).1, (h 2 (by omega)).2, if_pos (by decide)]
  unfold thF
  rw [(g 2 (by omega)).1, (g 2 (by omega)).2, if_neg (by decide), if_neg (by decide)]
 ·show besF _ _ (i * 4 + 3) = _
  unfold besF
  rw [(h 3 (by omega)).1, (h 3 (by omega)).2, if_neg (by decide)]
  rfl
theorem sm4 (f : Nat → Rat) : sm f 4 = f 0 + f 1 + f 2 + f 3 := by simp only [sm]; grind
theorem sm3 (f : Nat → Rat) : sm f 3 = f 0 + f 1 + f 2 := by simp only [sm]; grind
theorem th_hM (k : Nat) (a b c : Tr) (hn : crs (plc k a) (plc k b) (plc k c) ≠ 0) : ∀ v, Ker ((mF (besF (thF k [a, b, c]) (thB k [a, b, c])))) 3 4 v → (∀ c, 3 ≤ c → c < 4 → v c = 0) → ∀ c, c < 3 → v c = 0 := by
 intro v hv h3
 have hz := h3 3 zO zO
 have row : ∀ i, i < 3 → v 0 + (((plc k (gt [a, b, c] i)).x : Int) : Rat) * v 1 + (((plc k (gt [a, b, c] i)).y : Int) : Rat) * v 2 = 0 := by
  intro i hi
  have := hv i hi
  rw [sm4] at this
  obtain ⟨e0, e1, e2, e3⟩ := thM_at k [a, b, c] i
  rw [e0, e1, e2, hz] at this
  grind
 have r0 := row 0 zO
 have r1 := row 1 zO
 have r2 := row 2 zO
 rw [show gt [a, b, c] 0 = a from rfl] at r0
 rw [show gt [a, b, c] 1 = b from rfl] at r1
 rw [show gt [a, b, c] 2 = c from rfl] at r2
 have hq : ((crs (plc k a) (plc k b) (plc k c) : Int) : Rat) ≠ 0 := by exact_mod_cast hn
 unfold crs trn sub at hq
 dsimp only at hq
 push_cast at hq
 have d1 : ((((plc k b).x : Rat) - (plc k a).x) * (((plc k c).y : Rat) - (plc k a).y) - (((plc k b).y : Rat) - (plc k a).y) * (((plc k c).x : Rat) - (plc k a).x)) * v 1 = 0 := by grind
 have d2 : ((((plc k b).x : Rat) - (plc k a).x) * (((plc k c).y : Rat) - (plc k a).y) - (((plc k b).y : Rat) - (plc k a).y) * (((plc k c).x : Rat) - (plc k a).x)) * v 2 = 0 := by grind
 have z1 : v 1 = 0 := (Rat.mul_eq_zero.1 d1).resolve_left hq
 have z2 : v 2 = 0 := (Rat.mul_eq_zero.1 d2).resolve_left hq
 intro c' hc'
 rcases (by omega : c' = 0 ∨ c' = 1 ∨ c' = 2) with rfl | rfl | rfl
 ·rw [z1, z2] at r0; grind
 ·exact z1
 ·exact z2
theorem th_hL (k : Nat) (a b c : Tr) (ha : BT 100000 a) (hb : BT 100000 b) (hc : BT 100000 c) (hn : crs (plc k a) (plc k b) (plc k c) ≠ 0) : ∀ j, j < 3 → LM 101 (red 3 ((mF (besF (thF k [a, b, c]) (thB k [a, b, c])))) j).1 := by
 have hR : ∀ i, i < 3 → BT 100000 (gt [a, b, c] i) := by
  intro i hi
  match i, hi with
  |0, _ => exact ha
  |1, _ => exact hb
  |2, _ => exact hc
 have h0 : LM 6 ((mF (besF (thF k [a, b, c]) (thB k [a, b, c])))) := by
  intro i c' hi hc'
  obtain ⟨e0, e1, e2, e3⟩ := thM_at k [a, b, c] i
  rcases (by omega : c' = 0 ∨ c' = 1 ∨ c' = 2 ∨ c' = 3) with rfl | rfl | rfl | rfl
  ·rw [e0]; exact LR.int (k := 6) (m := 1) (show (1 : Int).natAbs < 10 ^ 6 by decide) (by decide)
  ·rw [e1]; exact LR_small ((hR i hi).cz (ou k))
  ·rw [e2]; exact LR_small ((hR i hi).cz (ov k))
  ·rw [e3]; exact LR_small ((hR i hi).cz k)
 have hM := th_hM k a b c hn
 have st : ∀ (j q : Nat), j < 3 → LM q (red 3 ((mF (besF (thF k [a, b, c]) (thB k [a, b, c])))) j).1 → LM (q + (q + (q + q)) + 1) (red 3 ((mF (besF (thF k [a, b, c]) (thB k [a, b, c])))) (j + 1)).1 := by
  intro j q hj h
  obtain ⟨p, _, _, hp2, hp3, e⟩ := red_next (n := 3) (m := 4) hj zE hM
  rw [e]
  exact (h.swp hj hp2).stp hj (by omega) (by show Go.Na.swp _ j p j j ≠ 0; unfold Go.Na.swp; rw [if_pos rfl]; exact hp3)
 have h1 := st 0 6 zE h0
 have h2 := st 1 _ zE h1
 intro j hj
 rcases (by omega : j = 0 ∨ j = 1 ∨ j = 2) with rfl | rfl | rfl
 ·exact fun i c hi hc => (h0 i c hi hc).mono zE
 ·exact fun i c hi hc => (h1 i c hi hc).mono zE
 ·exact h2
def x3 (A B C : Rat) (j : Nat) : Rat := match j with | 0 => A | 1 => B | _ => C
theorem th_hx (k : Nat) (a b c : Tr) (hn : crs (plc k a) (plc k b) (plc k c) ≠ 0) (A B C : Rat) (h1 : hgt k A B C a = 0) (h2 : hgt k A B C b = 0) (h3 : hgt k A B C c = 0) :
  ∀ j, j < 3 → (red 3 ((mF (besF (thF k [a, b, c]) (thB k [a, b, c])))) 4).1 j 3 = x3 A B C j := by
 have hM := th_hM k a b c hn
 have hx : ∀ i, i < 3 → sm (fun j => (mF (besF (thF k [a, b, c]) (thB k [a, b, c]))) i j * x3 A B C j) 3 = (mF (besF (thF k [a, b, c]) (thB k [a, b, c]))) i 3 := by
  intro i hi
  obtain ⟨e0, e1, e2, e3⟩ := thM_at k [a, b, c] i
  have hh : hgt k A B C (gt [a, b, c] i) = 0 := by
   match i, hi with
   |0, _ => exact h1
   |1, _ => exact h2
   |2, _ => exact h3
  rw [sm3, e0, e1, e2, e3]
  unfold hgt at hh
  show 1 * A + _ * B + _ * C = _
  grind
 generalize (mF (besF (thF k [a, b, c]) (thB k [a, b, c]))) = M at *
 have key := (red_sol (n := 3) (M := M) (fun v hv hz => hM v hv (fun c h1 h2 => by rw [show c = 3 by omega]; exact hz)) (x3 A B C) hx).2
 simp only [Nat.reduceAdd] at key
 exact key
theorem through41_ok (k : Nat) (hk : k < 3) (a b c : Tr) (ha : BT 100000 a) (hb : BT 100000 b) (hc : BT 100000 c) (hn : crs (plc k a) (plc k b) (plc k c) ≠ 0) (A B C : Rat) (h1 : hgt k A B C a = 0) (h2 : hgt k A B C b = 0) (h3 : hgt k A B C c = 0) :
  Go.Vc.CtrA Tryz.prog 101 [tp a, tp b, tp c, vi k] (pA k (rtx A) (rtx B) (rtx C) (.val (.slice none 0 0))) :=
 through41_c k hk a b c ha hb hc (x3 A B C) (th_hM k a b c hn) (th_hL k a b c ha hb hc hn) (th_hx k a b c hn A B C h1 h2 h3)
end Go.Proofs.YtgepmbjmaljgoaaGreatDoor.H
namespace Go.Proofs.YtgepmbjmaljgoaaGreatDoor.H
open Go Go.Vc
open Go.Na (rtx LR LI)
def accP (l : List Tr) (k : Nat) (T : List (Nat × Nat × Nat)) : List Pl := (T.filterMap (thrT l k)).foldl (fun a p => putP p a) []
theorem accP_none {l : List Tr} {k : Nat} {T : List (Nat × Nat × Nat)} {t : Nat × Nat × Nat} (h : thrT l k t = none) : accP l k (T ++ [t]) = accP l k T := by
 unfold accP
 rw [List.filterMap_append]
 simp [h]
theorem accP_some {l : List Tr} {k : Nat} {T : List (Nat × Nat × Nat)} {t : Nat × Nat × Nat} {P : Pl} (h : thrT l k t = some P) : accP l k (T ++ [t]) = putP P (accP l k T) := by
 unfold accP
 rw [List.filterMap_append, List.foldl_append]
 simp [h]
def tA (a : Nat) : List (Nat × Nat × Nat) := (List.range a).flatMap fun i => tripJ i i
def tB (a b : Nat) : List (Nat × Nat × Nat) := tA a ++ tripJ a b
def tC (a b c : Nat) : List (Nat × Nat × Nat) := tB a b ++ (List.range c).map fun k => (k, b, a)
theorem tC_succ (a b c : Nat) : tC a b (c + 1) = tC a b c ++ [(c, b, a)] := by
 unfold tC
 rw [List.range_succ, List.map_append, ← List.append_assoc]; rfl
theorem tC_zero (a b : Nat) : tC a b 0 = tB a b := by unfold tC; simp
theorem tB_succ (a b : Nat) : tB a (b + 1) = tC a b b := by
 unfold tB tC tB tripJ tripI
 rw [List.range_succ, List.flatMap_append, ← List.append_assoc]
 simp
theorem tB_zero (a : Nat) : tB a 0 = tA a := by unfold tB tripJ; simp
theorem tA_succ (a : Nat) : tA (a + 1) = tB a a := by
 unfold tA tB tA
 rw [List.range_succ, List.flatMap_append]
 simp
theorem putP_len (p : Pl) : ∀ L : List Pl, (putP p L).length ≤ L.length + 1
 |[] => by simp [putP]
 |q :: L => by
  unfold putP
  split
  ·have := putP_len p L; simp only [List.length_cons]; omega
  ·split <;> simp only [List.length_cons] <;> omega
theorem putP_sub {p r : Pl} : ∀ L : List Pl, r ∈ putP p L → r = p ∨ r ∈ L := by
 intro L
 induction L with
 |nil => intro h; simp [putP] at h; exact .inl h
 |cons q L ih =>
  intro h
  unfold putP at h
  split at h
  ·rcases List.mem_cons.1 h with e | e
   ·exact .inr (by simp [e])
   ·rcases ih e with e | e
    ·exact .inl e
    ·exact .inr (by simp [e])
  ·split at h
   ·exact .inr h
   ·rcases List.mem_cons.1 h with e | e
    ·exact .inl e
    ·exact .inr e
def AllLR (L : List Pl) : Prop := ∀ p ∈ L, LR 400 p.A ∧ LR 400 p.B ∧ LR 400 p.C
theorem AllLR.put {L : List Pl} {p : Pl} (h : AllLR L) (hp : LR 400 p.A ∧ LR 400 p.B ∧ LR 400 p.C) : AllLR (putP p L) := fun r hr => by
 rcases putP_sub L hr with e | e
 ·subst e; exact hp
 ·exact h r e
theorem AllLR.at {L : List Pl} (h : AllLR L) : ∀ i, i < L.length → LR 400 (gP L i).A ∧ LR 400 (gP L i).B ∧ LR 400 (gP L i).C := fun i hi => h _ (by rw [gP_eq hi]; exact List.getElem_mem hi)
theorem abc_LR {l : List Tr} (hl : RT l) {k a b c : Nat} (hz : cz (nvP (gt l a) (gt l b) (gt l c)) k ≠ 0) : LR 43 (aP l k a b c) ∧ LR 43 (bP l k a b c) ∧ LR 43 (cP l k a b c) := by
 have hn := BT.np hl k a b c
 have h1 := hn.cz k
 have h2 := hn.cz (ou k)
 have h3 := hn.cz (ov k)
 have h4 : cz (nP l k a b c) k ≠ 0 := by have := upP_pos (k := k) (n := nvP (gt l a) (gt l b) (gt l c)) hz; unfold nP; omega
 refine ⟨(LR_divInt19 ?_ zO h4).mono zE, (LR_divInt19 zO zO h4).mono zE, (LR_divInt19 zO zO h4).mono zE⟩
 unfold mP
 have hm := bt_dot hn (hl a)
 omega
theorem thr_say {l : List Tr} (hl : RT l) {k : Nat} (hk : k < 3) (a b c : Nat) (hn : crs (plc k (gt l a)) (plc k (gt l b)) (plc k (gt l c)) ≠ 0) :
  ∃ A B C : Rat, LR 43 A ∧ LR 43 B ∧ LR 43 C ∧ hgt k A B C (gt l a) = 0 ∧ hgt k A B C (gt l b) = 0 ∧ hgt k A B C (gt l c) = 0 ∧ thrT l k (c, b, a) = mkP l k A B C := by
 have hn2 : crs (plc k (gt l c)) (plc k (gt l b)) (plc k (gt l a)) ≠ 0 := by rw [crs_rev]; omega
 have hz := (cz_crs hk _ _ _).2 hn2
 obtain ⟨h1, h2, h3⟩ := thr_on hk hz
 obtain ⟨q1, q2, q3⟩ := abc_LR hl hz
 refine ⟨_, _, _, q1, q2, q3, h3, h2, h1, ?_⟩
 show thr l k c b a = _
 unfold thr
 rw [if_neg hz]
theorem thr_zer {l : List Tr} {k : Nat} (hk : k < 3) (a b c : Nat) (hn : crs (plc k (gt l a)) (plc k (gt l b)) (plc k (gt l c)) = 0) : thrT l k (c, b, a) = none := by
 have hn2 : ¬ crs (plc k (gt l c)) (plc k (gt l b)) (plc k (gt l a)) ≠ 0 := by rw [crs_rev]; omega
 have hz : cz (nvP (gt l c) (gt l b) (gt l a)) k = 0 := Decidable.not_not.1 (fun h => hn2 ((cz_crs hk _ _ _).1 h))
 show thr l k c b a = _
 unfold thr
 rw [if_pos hz]
end Go.Proofs.YtgepmbjmaljgoaaGreatDoor.H
namespace Go.Proofs.YtgepmbjmaljgoaaGreatDoor.H.G
open Go.Vc
def lf (α β : Int) (a b : Pt) : Int := α * (b.x - a.x) + β * (b.y - a.y)
theorem id3 (α β : Int) (p a b c : Pt) : crs p b c * lf α β p a + crs p c a * lf α β p b + crs p a b * lf α β p c = 0 := by
 simp only [crs, trn, sub, lf]; grind
theorem crs_swap (a b c : Pt) : crs a c b = - crs a b c := by simp only [crs, trn, sub]; grind
theorem crs_rot (a b c : Pt) : crs b c a = crs a b c := by simp only [crs, trn, sub]; grind
theorem crs_rot2 (a b c : Pt) : crs c a b = crs a b c := by simp only [crs, trn, sub]; grind
theorem crs_flip (a b c : Pt) : crs b a c = - crs a b c := by simp only [crs, trn, sub]; grind
theorem crs_sum (p a b c : Pt) : crs a b c = crs p a b + crs p b c + crs p c a := by simp only [crs, trn, sub]; grind
theorem crs_same (a b : Pt) : crs a a b = 0 := by simp only [crs, trn, sub]; grind
theorem crs_same2 (a b : Pt) : crs a b b = 0 := by simp only [crs, trn, sub]; grind
theorem crs_same3 (a b : Pt) : crs a b a = 0 := by simp only [crs, trn, sub]; grind
theorem lf_self (α β : Int) (a : Pt) : lf α β a a = 0 := by simp only [lf]; grind
theorem lf_anti (α β : Int) (a b : Pt) : lf α β b a = - lf α β a b := by simp only [lf]; grind
theorem lf_add (α β : Int) (a b c : Pt) : lf α β a c = lf α β a b + lf α β b c := by simp only [lf]; grind
theorem crs_lf (a b p : Pt) : crs a b p = lf (-(b.y - a.y)) (b.x - a.x) a p := by simp only [crs, trn, sub, lf]; grind
theorem pos_mul {a b : Int} (h : 0 < a) (k : 0 < b) : 0 < a * b := Int.mul_pos h k
theorem nn_mul {a b : Int} (h : 0 ≤ a) (k : 0 ≤ b) : 0 ≤ a * b := Int.mul_nonneg h k
theorem np_mul {a b : Int} (h : a ≤ 0) (k : 0 ≤ b) : a * b ≤ 0 := Int.mul_nonpos_of_nonpos_of_nonneg h k
theorem pn_mul {a b : Int} (h : 0 ≤ a) (k : b ≤ 0) : a * b ≤ 0 := Int.mul_nonpos_of_nonneg_of_nonpos h k
theorem nnn_mul {a b : Int} (h : a ≤ 0) (k : b ≤ 0) : 0 ≤ a * b := Int.mul_nonneg_of_nonpos_of_nonpos h k
theorem neg_mul' {a b : Int} (h : a < 0) (k : 0 < b) : a * b < 0 := Int.mul_neg_of_neg_of_pos h k
theorem mul_neg' {a b : Int} (h : 0 < a) (k : b < 0) : a * b < 0 := Int.mul_neg_of_pos_of_neg h k
theorem neg_neg' {a b : Int} (h : a < 0) (k : b < 0) : 0 < a * b := Int.mul_pos_of_neg_of_neg h k
theorem sg_nn {x y z a b c : Int} (h : x * a + y * b + z * c = 0) (ha : 0 < a) (hy : y * b ≤ 0) (hz : z * c ≤ 0) : 0 ≤ x := by
 rcases Int.lt_or_le x 0 with hx | hx
 ·have := neg_mul' hx ha; omega
 ·exact hx
theorem no_tri {α β : Int} {p a b c : Pt} (h0 : crs a b c ≠ 0) (hs : (0 ≤ crs a b p ∧ 0 ≤ crs b c p ∧ 0 ≤ crs c a p) ∨ (crs a b p ≤ 0 ∧ crs b c p ≤ 0 ∧ crs c a p ≤ 0))
  (ha : 0 < lf α β p a) (hb : 0 < lf α β p b) (hc : 0 < lf α β p c) : False := by
 have h := id3 α β p a b c
 have hsum := crs_sum p a b c
 rw [← crs_rot2 a b p, ← crs_rot2 b c p, ← crs_rot2 c a p] at hs
 rcases hs with ⟨h1, h2, h3⟩ | ⟨h1, h2, h3⟩
 ·have e1 := nn_mul h2 (Int.le_of_lt ha)
  have e2 := nn_mul h3 (Int.le_of_lt hb)
  have e3 := nn_mul h1 (Int.le_of_lt hc)
  have z1 : crs p b c = 0 := by
   rcases Int.lt_or_le 0 (crs p b c) with hx | hx
   ·have := pos_mul hx ha; omega
   ·omega
  have z2 : crs p c a = 0 := by
   rcases Int.lt_or_le 0 (crs p c a) with hx | hx
   ·have := pos_mul hx hb; omega
   ·omega
  have z3 : crs p a b = 0 := by
   rcases Int.lt_or_le 0 (crs p a b) with hx | hx
   ·have := pos_mul hx hc; omega
   ·omega
  omega
 ·have e1 := np_mul h2 (Int.le_of_lt ha)
  have e2 := np_mul h3 (Int.le_of_lt hb)
  have e3 := np_mul h1 (Int.le_of_lt hc)
  have z1 : crs p b c = 0 := by
   rcases Int.lt_or_le (crs p b c) 0 with hx | hx
   ·have := neg_mul' hx ha; omega
   ·omega
  have z2 : crs p c a = 0 := by
   rcases Int.lt_or_le (crs p c a) 0 with hx | hx
   ·have := neg_mul' hx hb; omega
   ·omega
  have z3 : crs p a b = 0 := by
   rcases Int.lt_or_le (crs p a b) 0 with hx | hx
   ·have := neg_mul' hx hc; omega
   ·omega
  omega
theorem dot_sq (a : Pt) : 0 ≤ dot a a := by
 simp only [dot]
 have h1 : 0 ≤ a.x * a.x := by rcases Int.le_total 0 a.x with h | h; exact nn_mul h h; exact nnn_mul h h
 have h2 : 0 ≤ a.y * a.y := by rcases Int.le_total 0 a.y with h | h; exact nn_mul h h; exact nnn_mul h h
 omega
theorem sq_zero {a : Int} (h : a * a ≤ 0) : a = 0 := by
 rcases Int.lt_trichotomy a 0 with h1 | h1 | h1
 ·have := neg_neg' h1 h1; omega
 ·exact h1
 ·have := pos_mul h1 h1; omega
theorem sq_nn (a : Int) : 0 ≤ a * a := by
 rcases Int.le_total 0 a with h | h
 ·exact nn_mul h h
 ·exact nnn_mul h h
theorem dot_sq_zero {a : Pt} (h : dot a a ≤ 0) : a = ⟨0, 0⟩ := by
 simp only [dot] at h
 have h1 := sq_nn a.x
 have h2 := sq_nn a.y
 have h3 := sq_zero (show a.x * a.x ≤ 0 by omega)
 have h4 := sq_zero (show a.y * a.y ≤ 0 by omega)
 cases a; simp at h3 h4; simp [h3, h4]
theorem par_id (α β : Int) (a b p : Pt) (h : crs a b p = 0) : lf α β p a * dot (sub b p) (sub b p) = lf α β p b * dot (sub a p) (sub b p) := by
 have h2 : (b.x - a.x) * (p.y - a.y) - (b.y - a.y) * (p.x - a.x) = 0 := h
 simp only [lf, dot, sub]
 grind
theorem no_seg {α β : Int} {p a b : Pt} (h0 : crs a b p = 0) (hd : dot (sub a p) (sub b p) ≤ 0) (ha : 0 < lf α β p a) (hb : 0 < lf α β p b) : False := by
 have h := par_id α β a b p h0
 have h1 := pn_mul (Int.le_of_lt hb) hd
 have h2 := dot_sq (sub b p)
 have h3 : dot (sub b p) (sub b p) ≠ 0 := fun e => by
  have e2 := dot_sq_zero (a := sub b p) zO
  simp only [sub, Pt.mk.injEq] at e2
  have : lf α β p b = 0 := by simp only [lf, e2.1, e2.2]; simp
  omega
 have := pos_mul ha (show 0 < dot (sub b p) (sub b p) by omega)
 omega
end Go.Proofs.YtgepmbjmaljgoaaGreatDoor.H.G
section
namespace Go.Proofs.YtgepmbjmaljgoaaGreatDoor.H.G
open Go.Vc
section
variable (l : List Pt) (α β : Int)
def EdgesL (P : List Nat) : List Nat → Prop
 |b :: a :: r => (∀ p ∈ P, 0 ≤ crs (gp l a) (gp l b) (gp l p)) ∧ EdgesL P (a :: r)
 |_ => True
def TurnsL : List Nat → Prop
 |c :: b :: a :: r => 0 < crs (gp l a) (gp l b) (gp l c) ∧ TurnsL (b :: a :: r)
 |_ => True
def IncL : List Nat → Prop
 |b :: a :: r => 0 < lf α β (gp l a) (gp l b) ∧ IncL (a :: r)
 |_ => True
def BotL (P : List Nat) : List Nat → Prop
 |[a] => ∀ p ∈ P, 0 ≤ lf α β (gp l a) (gp l p)
 |_ :: r => BotL P r
 |[] => True
structure Inv (P st : List Nat) : Prop where
 sub : ∀ x ∈ st, x ∈ P
 edges : EdgesL l P st
 turns : TurnsL l st
 inc : IncL l α β st
 bot : BotL l α β P st
def TopL (i : Nat) (P : List Nat) : List Nat → Prop
 |b :: _ => ∀ p ∈ P, 0 < lf α β (gp l b) (gp l p) → 0 ≤ crs (gp l b) (gp l i) (gp l p)
 |[] => True
def TurnT (i : Nat) : List Nat → Prop
 |b :: a :: _ => 0 < crs (gp l a) (gp l b) (gp l i)
 |_ => True
end
variable {l : List Pt} {α β : Int}
theorem Inv.tail {P : List Nat} {b a : Nat} {r : List Nat} (h : Inv l α β P (b :: a :: r)) : Inv l α β P (a :: r) :=
 ⟨fun x hx => h.sub x (List.mem_cons_of_mem _ hx), h.edges.2, by have := h.turns; cases r with | nil => trivial | cons c r => exact this.2, h.inc.2, h.bot⟩
theorem pop_inv (i : Nat) {P : List Nat} (hi : ∀ p ∈ P, 0 < lf α β (gp l p) (gp l i)) : ∀ (st : List Nat), 0 < st.length → Inv l α β P st → TopL l α β i P st →
  Inv l α β P (pop l i st) ∧ TopL l α β i P (pop l i st) ∧ TurnT l i (pop l i st) ∧ 0 < (pop l i st).length
 |[], h, _, _ => by simp at h
 |[x], _, h, ht => by simp only [pop]; exact ⟨h, ht, trivial, by simp⟩
 |b :: a :: r, _, h, ht => by
  unfold pop
  split
  ·rename_i hc
   refine pop_inv i hi (a :: r) (by simp) h.tail ?_
   intro p hp hap
   have e1 := h.edges.1 p hp
   have hab := h.inc.1
   have hai := hi a (h.sub a (by simp))
   have h3 := id3 α β (gp l a) (gp l b) (gp l i) (gp l p)
   have s1 := crs_swap (gp l a) (gp l b) (gp l p)
   exact sg_nn h3 hab (np_mul zO (Int.le_of_lt hai)) (np_mul zO (Int.le_of_lt hap))
  ·rename_i hc
   exact ⟨h, ht, by show 0 < _; omega, by simp⟩
theorem left_all (i : Nat) {P : List Nat} (hi : ∀ p ∈ P, 0 < lf α β (gp l p) (gp l i)) : ∀ (st : List Nat), Inv l α β P st → TurnT l i st → EdgesL l (P ++ [i]) st
 |[], _, _ => trivial
 |[_], _, _ => trivial
 |b :: a :: r, h, ht => by
  refine ⟨fun p hp => ?_, left_all i hi (a :: r) h.tail ?_⟩
  ·rcases List.mem_append.1 hp with hp | hp
   ·exact h.edges.1 p hp
   ·simp at hp; subst hp; exact Int.le_of_lt ht
  ·cases r with
   |nil => trivial
   |cons c r =>
    show 0 < crs (gp l c) (gp l a) (gp l i)
    have t1 : 0 < crs (gp l c) (gp l a) (gp l b) := h.turns.1
    have t2 : 0 < crs (gp l a) (gp l b) (gp l i) := ht
    have i1 : 0 < lf α β (gp l a) (gp l b) := h.inc.1
    have i2 : 0 < lf α β (gp l c) (gp l a) := h.inc.2.1
    have i3 := hi a (h.sub a (by simp))
    have h3 := id3 α β (gp l a) (gp l i) (gp l c) (gp l b)
    have i4 : lf α β (gp l a) (gp l c) < 0 := by rw [lf_anti]; omega
    have s1 : crs (gp l a) (gp l c) (gp l b) < 0 := by rw [crs_flip]; omega
    have s2 : crs (gp l a) (gp l i) (gp l c) = crs (gp l c) (gp l a) (gp l i) := crs_rot _ _ _
    have m1 := neg_mul' s1 i3
    have m2 := mul_neg' t2 i4
    rw [s2] at h3
    rcases Int.lt_or_le 0 (crs (gp l c) (gp l a) (gp l i)) with hx | hx
    ·exact hx
    ·have := np_mul hx (Int.le_of_lt i1); omega
theorem bot_push (i : Nat) {P : List Nat} (hi : ∀ p ∈ P, 0 < lf α β (gp l p) (gp l i)) : ∀ (t : Nat) (r : List Nat), BotL l α β P (t :: r) → (∀ x ∈ t :: r, x ∈ P) → BotL l α β (P ++ [i]) (t :: r)
 |t, [], hb, hs => by
  intro p hp
  rcases List.mem_append.1 hp with hp | hp
  ·exact hb p hp
  ·simp at hp; subst hp; exact Int.le_of_lt (hi t (hs t (by simp)))
 |t, a :: r, hb, hs => bot_push i hi a r hb (fun x hx => hs x (List.mem_cons_of_mem _ hx))
theorem push_inv (i : Nat) {P : List Nat} (hi : ∀ p ∈ P, 0 < lf α β (gp l p) (gp l i)) (hinj : ∀ p ∈ P, ∀ q ∈ P, lf α β (gp l p) (gp l q) = 0 → p = q) : ∀ (st : List Nat), 0 < st.length → Inv l α β P st → TopL l α β i P st → TurnT l i st → Inv l α β (P ++ [i]) (i :: st)
 |[], h, _, _, _ => by simp at h
 |t :: r, _, h, hT, ht => by
  have hti := hi t (h.sub t (by simp))
  refine ⟨fun x hx => ?_, ⟨fun p hp => ?_, left_all i hi _ h ht⟩, ?_, ⟨hti, h.inc⟩, ?_⟩
  ·rcases List.mem_cons.1 hx with rfl | hx
   ·simp
   ·exact List.mem_append_left _ (h.sub x hx)
  ·rcases List.mem_append.1 hp with hp | hp
   ·rcases Int.lt_or_le 0 (lf α β (gp l t) (gp l p)) with hx | hx
    ·exact hT p hp hx
    ·cases r with
     |nil =>
      have := h.bot p hp
      have e := hinj t (h.sub t (by simp)) p hp (by omega)
      subst e
      rw [crs_same3]; exact Int.le_refl 0
     |cons a r =>
      have e1 := h.edges.1 p hp
      have e2 : 0 < crs (gp l a) (gp l t) (gp l i) := ht
      have e3 : 0 < lf α β (gp l a) (gp l t) := h.inc.1
      have h3 := id3 α β (gp l t) (gp l a) (gp l i) (gp l p)
      have i4 : lf α β (gp l t) (gp l a) < 0 := by rw [lf_anti]; omega
      have s1 : crs (gp l t) (gp l p) (gp l a) = crs (gp l a) (gp l t) (gp l p) := crs_rot _ _ _
      have s2 : crs (gp l t) (gp l a) (gp l i) = - crs (gp l a) (gp l t) (gp l i) := crs_flip _ _ _
      have m1 := nn_mul e1 (Int.le_of_lt hti)
      have m2 := nnn_mul (show crs (gp l t) (gp l a) (gp l i) ≤ 0 by omega) hx
      rw [s1] at h3
      rcases Int.lt_or_le (crs (gp l t) (gp l i) (gp l p)) 0 with hy | hy
      ·have := neg_neg' hy i4; omega
      ·exact hy
   ·simp at hp; subst hp; rw [crs_same2]; exact Int.le_refl 0
  ·cases r with
   |nil => trivial
   |cons a r => exact ⟨ht, h.turns⟩
  ·show BotL l α β (P ++ [i]) (t :: r)
   exact bot_push i hi t r h.bot h.sub
def UpL (l : List Pt) (α β : Int) (v : List Nat) : Prop := v.Pairwise fun i k => 0 < lf α β (gp l i) (gp l k)
theorem UpL.inj {v : List Nat} (h : UpL l α β v) : ∀ p ∈ v, ∀ q ∈ v, lf α β (gp l p) (gp l q) = 0 → p = q := by
 intro p hp q hq e
 obtain ⟨i, hi, rfl⟩ := List.getElem_of_mem hp
 obtain ⟨k, hk, rfl⟩ := List.getElem_of_mem hq
 rcases Nat.lt_trichotomy i k with h1 | h1 | h1
 ·have := List.pairwise_iff_getElem.1 h i k hi hk h1; omega
 ·subst h1; rfl
 ·have := List.pairwise_iff_getElem.1 h k i hk hi h1
  rw [lf_anti] at e; omega
theorem stk_snoc (l : List Pt) (v : List Nat) (i : Nat) : stk l (v ++ [i]) = i :: pop l i (stk l v) := by simp [stk, List.foldl_append]
theorem stk_inv : ∀ (n : Nat) (v : List Nat), v.length = n → UpL l α β v → Inv l α β v (stk l v) ∧ (∀ x, v.getLast? = some x → (stk l v).head? = some x)
 |0, v, hn, _ => by
  have : v = [] := List.length_eq_zero_iff.1 hn
  subst this
  exact ⟨⟨by simp [stk], trivial, trivial, trivial, trivial⟩, by simp⟩
 |n + 1, v, hn, h => by
  obtain ⟨u, i, rfl⟩ : ∃ u i, v = u ++ [i] := ⟨v.dropLast, v.getLast (by intro e; simp [e] at hn), (List.dropLast_concat_getLast _).symm⟩
  have hu : UpL l α β u := (List.pairwise_append.1 h).1
  have hi : ∀ p ∈ u, 0 < lf α β (gp l p) (gp l i) := fun p hp => (List.pairwise_append.1 h).2.2 p hp i (by simp)
  obtain ⟨ih, ih2⟩ := stk_inv n u (by simpa using hn) hu
  refine ⟨?_, fun x hx => by simp at hx; simp [stk_snoc, hx]⟩
  rw [stk_snoc]
  rcases Nat.eq_zero_or_pos u.length with h0 | h0
  ·have : u = [] := List.length_eq_zero_iff.1 h0
   subst this
   simp only [stk, List.foldl_nil, pop, List.nil_append]
   exact ⟨fun x hx => hx, trivial, trivial, trivial, fun p hp => by simp at hp; subst hp; rw [lf_self]; exact Int.le_refl 0⟩
  ·have hne : u ≠ [] := by intro e; simp [e] at h0
   have hhd := ih2 (u.getLast hne) (List.getLast?_eq_some_getLast hne)
   have hst : 0 < (stk l u).length := by
    cases hs : stk l u with
    |nil => rw [hs] at hhd; simp at hhd
    |cons a r => simp
   have hT : TopL l α β i u (stk l u) := by
    cases hs : stk l u with
    |nil => trivial
    |cons b r =>
     rw [hs] at hhd
     simp at hhd
     intro p hp hlt
     exfalso
     obtain ⟨k, hk, rfl⟩ := List.getElem_of_mem hp
     have hb : b = u[u.length - 1] := by rw [hhd, List.getLast_eq_getElem]
     rw [hb] at hlt
     rcases Nat.lt_or_ge k (u.length - 1) with h1 | h1
     ·have := List.pairwise_iff_getElem.1 hu k (u.length - 1) hk zO h1
      rw [lf_anti] at hlt; omega
     ·have : k = u.length - 1 := by omega
      subst this
      rw [lf_self] at hlt; omega
   obtain ⟨p1, p2, p3, p4⟩ := pop_inv i hi (stk l u) hst ih hT
   exact push_inv i hi hu.inj _ p4 p1 p2 p3
theorem pop_last (l : List Pt) (i : Nat) : ∀ (st : List Nat), (pop l i st).getLast? = st.getLast?
 |[] => by simp [pop]
 |[x] => by simp [pop]
 |b :: a :: r => by
  unfold pop
  split
  ·rw [pop_last l i (a :: r)]; simp
  ·rfl
theorem stk_last (l : List Pt) : ∀ (n : Nat) (v : List Nat), v.length = n → (stk l v).getLast? = v.head?
 |0, v, hn => by
  have : v = [] := List.length_eq_zero_iff.1 hn
  subst this; rfl
 |n + 1, v, hn => by
  obtain ⟨u, i, rfl⟩ : ∃ u i, v = u ++ [i] := ⟨v.dropLast, v.getLast (by intro e; simp [e] at hn), (List.dropLast_concat_getLast _).symm⟩
  have ih := stk_last l n u (by simpa using hn)
  rw [stk_snoc]
  cases u with
  |nil => simp [stk, pop]
  |cons a u =>
   have e : (pop l i (stk l (a :: u))).getLast? = some a := by rw [pop_last, ih]; rfl
   cases hp : pop l i (stk l (a :: u)) with
   |nil => rw [hp] at e; simp at e
   |cons b r => rw [hp] at e; simpa using e
theorem span (p : Pt) : ∀ (st : List Nat) (z t : Nat), st.head? = some t → st.getLast? = some z → 2 ≤ st.length → 0 ≤ lf α β (gp l z) p → 0 ≤ lf α β p (gp l t) →
  ∃ r1 b a r2, st = r1 ++ b :: a :: r2 ∧ 0 ≤ lf α β (gp l a) p ∧ 0 ≤ lf α β p (gp l b)
 |[], _, _, h, _, _, _, _ => by simp at h
 |[x], _, _, _, _, h, _, _ => by simp at h
 |b :: a :: r, z, t, ht, hz, _, h1, h2 => by
  simp at ht; subst ht
  rcases Int.le_total 0 (lf α β (gp l a) p) with h3 | h3
  ·exact ⟨[], b, a, r, rfl, h3, h2⟩
  ·cases r with
   |nil => simp at hz; subst hz; exact ⟨[], b, a, [], rfl, h1, h2⟩
   |cons c r =>
    obtain ⟨r1, b', a', r2, e, e1, e2⟩ := span p (a :: c :: r) z a rfl (by simpa using hz) (by simp) h1 (by rw [lf_anti]; omega)
    exact ⟨b :: r1, b', a', r2, by rw [e]; rfl, e1, e2⟩
theorem edges_mid {P : List Nat} : ∀ (r1 : List Nat) {b a : Nat} {r2 : List Nat}, EdgesL l P (r1 ++ b :: a :: r2) → ∀ p ∈ P, 0 ≤ crs (gp l a) (gp l b) (gp l p)
 |[], _, _, _, h => h.1
 |[x], _, _, _, h => h.2.1
 |x :: y :: r1, _, _, _, h => edges_mid (y :: r1) h.2
theorem inc_mid : ∀ (r1 : List Nat) {b a : Nat} {r2 : List Nat}, IncL l α β (r1 ++ b :: a :: r2) → 0 < lf α β (gp l a) (gp l b)
 |[], _, _, _, h => h.1
 |[x], _, _, _, h => h.2.1
 |x :: y :: r1, _, _, _, h => inc_mid (y :: r1) h.2
theorem turns_mid : ∀ (r1 : List Nat) {c b a : Nat} {r2 : List Nat}, TurnsL l (r1 ++ c :: b :: a :: r2) → 0 < crs (gp l a) (gp l b) (gp l c)
 |[], _, _, _, _, h => h.1
 |[x], _, _, _, _, h => h.2.1
 |x :: y :: r1, _, _, _, _, h => by
  cases r1 with
  |nil => exact turns_mid [y] h.2
  |cons z r1 => exact turns_mid (y :: z :: r1) h.2
theorem inc_pair : ∀ (st : List Nat), IncL l α β st → st.Pairwise fun b a => 0 < lf α β (gp l a) (gp l b)
 |[], _ => .nil
 |[x], _ => by simp
 |b :: a :: r, h => by
  have ih := inc_pair (a :: r) h.2
  refine List.pairwise_cons.2 ⟨fun x hx => ?_, ih⟩
  rcases List.mem_cons.1 hx with rfl | hx
  ·exact h.1
  ·have := (List.pairwise_cons.1 ih).1 x hx
   have h1 := h.1
   rw [lf_add α β (gp l x) (gp l a) (gp l b)]; omega
end Go.Proofs.YtgepmbjmaljgoaaGreatDoor.H.G
end
namespace Go.Proofs.YtgepmbjmaljgoaaGreatDoor.H.G
open Go.Vc
theorem inH_iff (l : List Pt) (p : Pt) : inH l p = true ↔ ∃ i, i < l.length ∧ (gp l i = p ∨ ∃ j, j < i ∧ (btw p (gp l i) (gp l j) = true ∨ ∃ k, k < j ∧ wth p (gp l i) (gp l j) (gp l k) = true)) := by
 unfold inH
 simp only [List.any_eq_true, List.mem_range, Bool.or_eq_true, decide_eq_true_eq]
theorem sgn_nn {n : Int} : 0 ≤ sgn n ↔ 0 ≤ n := by
 unfold sgn; split
 ·omega
 ·split <;> omega
theorem sgn_np {n : Int} : sgn n ≤ 0 ↔ n ≤ 0 := by
 unfold sgn; split
 ·omega
 ·split <;> omega
def Tri (p a b c : Pt) : Prop := crs a b c ≠ 0 ∧ ((0 ≤ crs a b p ∧ 0 ≤ crs b c p ∧ 0 ≤ crs c a p) ∨ (crs a b p ≤ 0 ∧ crs b c p ≤ 0 ∧ crs c a p ≤ 0))
theorem wth_iff (p a b c : Pt) : wth p a b c = true ↔ Tri p a b c := by
 unfold wth Tri
 simp only [Bool.and_eq_true, Bool.or_eq_true, decide_eq_true_eq, sgn_nn, sgn_np, bne_iff_ne, ne_eq, and_assoc]
theorem btw_iff (p a b : Pt) : btw p a b = true ↔ crs a b p = 0 ∧ dot (sub a p) (sub b p) ≤ 0 := by
 unfold btw
 simp only [Bool.and_eq_true, beq_iff_eq, decide_eq_true_eq]
theorem Tri.rot {p a b c : Pt} (h : Tri p a b c) : Tri p b c a := by
 refine ⟨by rw [crs_rot]; exact h.1, ?_⟩
 rcases h.2 with ⟨h1, h2, h3⟩ | ⟨h1, h2, h3⟩
 ·exact .inl ⟨h2, h3, h1⟩
 ·exact .inr ⟨h2, h3, h1⟩
theorem Tri.flip {p a b c : Pt} (h : Tri p a b c) : Tri p b a c := by
 refine ⟨by have := h.1; rw [crs_flip]; omega, ?_⟩
 rw [crs_flip a b p, crs_flip c a p, crs_flip b c p]
 rcases h.2 with ⟨h1, h2, h3⟩ | ⟨h1, h2, h3⟩
 ·exact .inr ⟨by omega, by omega, by omega⟩
 ·exact .inl ⟨by omega, by omega, by omega⟩
theorem btw_comm (p a b : Pt) : btw p a b = btw p b a := by
 rw [Bool.eq_iff_iff, btw_iff, btw_iff, crs_flip a b p]
 have : dot (sub b p) (sub a p) = dot (sub a p) (sub b p) := by simp only [dot]; grind
 rw [this]; omega
theorem btw_self {p a : Pt} (h : btw p a a = true) : a = p := by
 have := dot_sq_zero ((btw_iff _ _ _).1 h).2
 simp only [sub, Pt.mk.injEq] at this
 cases a; cases p; simp at this ⊢; omega
theorem inH_eq {l : List Pt} {p : Pt} {i : Nat} (hi : i < l.length) (h : gp l i = p) : inH l p = true := (inH_iff l p).2 ⟨i, hi, .inl h⟩
theorem inH_seg {l : List Pt} {p : Pt} {i j : Nat} (hi : i < l.length) (hj : j < l.length) (h : btw p (gp l i) (gp l j) = true) : inH l p = true := by
 rcases Nat.lt_trichotomy j i with h1 | h1 | h1
 ·exact (inH_iff l p).2 ⟨i, hi, .inr ⟨j, h1, .inl h⟩⟩
 ·subst h1; exact inH_eq hi (btw_self h)
 ·exact (inH_iff l p).2 ⟨j, hj, .inr ⟨i, h1, .inl (by rw [btw_comm]; exact h)⟩⟩
theorem inH_tri {l : List Pt} {p : Pt} {i j k : Nat} (hi : i < l.length) (hj : j < l.length) (hk : k < l.length) (h : Tri p (gp l i) (gp l j) (gp l k)) : inH l p = true := by
 have n1 : i ≠ j := fun e => by subst e; exact h.1 (crs_same _ _)
 have n2 : j ≠ k := fun e => by subst e; exact h.1 (crs_same2 _ _)
 have n3 : i ≠ k := fun e => by subst e; exact h.1 (crs_same3 _ _)
 have key : ∀ i j k : Nat, i < l.length → j < i → k < j → Tri p (gp l i) (gp l j) (gp l k) → inH l p = true := fun i j k h1 h2 h3 h4 =>
  (inH_iff l p).2 ⟨i, h1, .inr ⟨j, h2, .inr ⟨k, h3, (wth_iff _ _ _ _).2 h4⟩⟩⟩
 by_cases a1 : i < j
 ·by_cases a2 : j < k
  ·exact key k j i hk a2 a1 h.flip.rot.rot
  ·by_cases a3 : i < k
   ·exact key j k i hj zO a3 h.rot
   ·exact key j i k hj a1 zO h.flip
 ·by_cases a2 : j < k
  ·by_cases a3 : i < k
   ·exact key k i j hk a3 zO h.rot.rot
   ·exact key i k j hi zO a2 h.flip.rot
  ·exact key i j k hi zO zO h
theorem inH_core {l : List Pt} {p : Pt} (α β : Int) (h : inH l p = true) (hp : ∀ i, i < l.length → 0 < lf α β p (gp l i)) : False := by
 obtain ⟨i, hi, h⟩ := (inH_iff l p).1 h
 rcases h with h | ⟨j, hj, h | ⟨k, hk, h⟩⟩
 ·have := hp i hi; rw [h, lf_self] at this; omega
 ·have h := (btw_iff _ _ _).1 h
  exact no_seg h.1 h.2 (hp i hi) (hp j zO)
 ·have h := (wth_iff _ _ _ _).1 h
  exact no_tri h.1 h.2 (hp i hi) (hp j zO) (hp k zO)
theorem four {l : List Pt} {p : Pt} {u v u' v' : Nat} (α β : Int) (hu : u < l.length) (hv : v < l.length) (hu' : u' < l.length) (hv' : v' < l.length)
  (h1 : 0 < lf α β (gp l u) p) (h2 : 0 < lf α β p (gp l v)) (h3 : 0 < lf α β (gp l u') p) (h4 : 0 < lf α β p (gp l v'))
  (hlo : 0 ≤ crs (gp l u) (gp l v) p) (hup : 0 ≤ crs (gp l v') (gp l u') p) : inH l p = true := by
 have key : ∀ (s : Int) (a b c : Nat), a < l.length → b < l.length → c < l.length → (s = 1 ∨ s = -1) → 0 < s * lf α β (gp l a) p → 0 < s * lf α β p (gp l b) → 0 < s * lf α β p (gp l c) →
   0 ≤ crs (gp l a) (gp l b) p → crs (gp l a) (gp l c) p ≤ 0 → inH l p = true := by
  intro s a b c ha hb hc hs e1 e2 e3 c1 c2
  have e1' : 0 < lf (s * α) (s * β) (gp l a) p := by simpa [lf, Int.mul_add, Int.mul_assoc] using e1
  have e2' : 0 < lf (s * α) (s * β) p (gp l b) := by simpa [lf, Int.mul_add, Int.mul_assoc] using e2
  have e3' : 0 < lf (s * α) (s * β) p (gp l c) := by simpa [lf, Int.mul_add, Int.mul_assoc] using e3
  generalize s * α = A at *
  generalize s * β = B at *
  have h3 := id3 A B p (gp l a) (gp l b) (gp l c)
  have r1 : crs p (gp l a) (gp l b) = crs (gp l a) (gp l b) p := (crs_rot2 _ _ _)
  have r2 : crs p (gp l c) (gp l a) = - crs (gp l a) (gp l c) p := by rw [crs_rot2 (gp l c) (gp l a) p, crs_flip]
  have r3 : crs p (gp l b) (gp l c) = crs (gp l b) (gp l c) p := (crs_rot2 _ _ _)
  have hA : lf A B p (gp l a) < 0 := by rw [lf_anti]; omega
  rw [r1, r2, r3] at h3
  have m1 := nn_mul c1 (Int.le_of_lt e3')
  have m2 := nn_mul (show 0 ≤ - crs (gp l a) (gp l c) p by omega) (Int.le_of_lt e2')
  have hbc : 0 ≤ crs (gp l b) (gp l c) p := by
   rcases Int.lt_or_le (crs (gp l b) (gp l c) p) 0 with hx | hx
   ·have := neg_neg' hx hA; omega
   ·exact hx
  have hca : 0 ≤ crs (gp l c) (gp l a) p := by rw [crs_flip]; omega
  by_cases h0 : crs (gp l a) (gp l b) (gp l c) = 0
  ·-- all in a line
   have hs := crs_sum p (gp l a) (gp l b) (gp l c)
   rw [r1, r3, crs_rot2 (gp l c) (gp l a) p, h0] at hs
   have z : crs (gp l a) (gp l b) p = 0 := by omega
   refine inH_seg ha hb ((btw_iff _ _ _).2 ⟨z, ?_⟩)
   have h5 := par_id A B (gp l a) (gp l b) p z
   have h6 := dot_sq (sub (gp l b) p)
   rcases Int.lt_or_le 0 (dot (sub (gp l a) p) (sub (gp l b) p)) with hx | hx
   ·have m3 := pos_mul e2' hx
    have m4 := np_mul (Int.le_of_lt hA) h6
    omega
   ·exact hx
  ·exact inH_tri ha hb hc ⟨h0, .inl ⟨c1, hbc, hca⟩⟩
 rcases Int.le_total (crs (gp l u') (gp l v) p) 0 with hx | hx
 ·-- to the right of u' -> v: with u, v, u'
  refine key (-1) v u' u hv hu' hu (.inr rfl) (by rw [lf_anti]; omega) (by rw [lf_anti]; omega) (by rw [lf_anti]; omega) ?_ ?_
  ·rw [crs_flip]; omega
  ·rw [crs_flip]; omega
 ·refine key 1 u' v v' hu' hv hv' (.inl rfl) zO zO zO hx ?_
  rw [crs_flip]; omega
theorem bef_iff (a b : Pt) : bef a b = true ↔ a.x < b.x ∨ (a.x = b.x ∧ a.y < b.y) := by
 simp [bef]
theorem bef_trans {a b c : Pt} (h : bef a b = true) (k : bef b c = true) : bef a c = true := by
 rw [bef_iff] at *; omega
theorem bef_tri (a b : Pt) : bef a b = true ∨ a = b ∨ bef b a = true := by
 simp only [bef_iff]; cases a; cases b; simp; omega
theorem bef_irr (a : Pt) : bef a a = false := by
 cases h : bef a a with
 |false => rfl
 |true => rw [bef_iff] at h; omega
theorem ordC_lt (l : List Pt) (i k : Nat) : decide (ordC l i k < 0) = bef (gp l i) (gp l k) := by
 rw [Bool.eq_iff_iff, decide_eq_true_eq, bef_iff]
 unfold ordC cmpI
 (repeat' split) <;> omega
def lxl (l : List Pt) (i k : Nat) : Prop := bef (gp l i) (gp l k) = true ∨ (gp l i = gp l k ∧ i < k)
theorem lxl_trans {l : List Pt} {i j k : Nat} (h : lxl l i j) (h' : lxl l j k) : lxl l i k := by
 rcases h with h | ⟨h, h1⟩ <;> rcases h' with h' | ⟨h', h2⟩
 ·exact .inl (bef_trans h h')
 ·exact .inl (by rw [← h']; exact h)
 ·exact .inl (by rw [h]; exact h')
 ·exact .inr ⟨h.trans h', by omega⟩
theorem gi_mid (A : List Nat) (x : Nat) (B : List Nat) : gi (A ++ x :: B) A.length = x := by simp [gi, List.getD]
theorem gi_mid' (A : List Nat) (a x : Nat) (B : List Nat) : gi (A ++ [a] ++ x :: B) A.length = a := by simp [gi, List.getD]
theorem swp_mid (A : List Nat) (a x : Nat) (B : List Nat) : swp (A ++ [a] ++ x :: B) (A.length + 1) A.length = A ++ x :: a :: B := by
 have e1 : gi (A ++ [a] ++ x :: B) A.length = a := gi_mid' _ _ _ _
 have e2 : gi (A ++ [a] ++ x :: B) (A.length + 1) = x := by
  have := gi_mid (A ++ [a]) x B
  simpa using this
 unfold swp
 rw [e1, e2]
 simp [List.set_append]
theorem sink_ins (lt : Nat → Nat → Bool) (i : Nat) : ∀ (n : Nat) (A B : List Nat), A.length = n → ∃ A1 A2, A = A1 ++ A2 ∧ sink lt 0 (A ++ i :: B) A.length = A1 ++ i :: (A2 ++ B) ∧ (∀ b ∈ A2, lt i b = true) ∧ (∀ x, A1.getLast? = some x → lt i x = false)
 |0, A, B, hn => by
  have : A = [] := List.length_eq_zero_iff.1 hn
  subst this
  exact ⟨[], [], rfl, rfl, by simp, by simp⟩
 |n + 1, A, B, hn => by
  obtain ⟨A', a, rfl⟩ : ∃ u i, A = u ++ [i] := ⟨A.dropLast, A.getLast (by intro e; simp [e] at hn), (List.dropLast_concat_getLast _).symm⟩
  have e1 : gi (A' ++ [a] ++ i :: B) A'.length = a := gi_mid' _ _ _ _
  have e2 : gi (A' ++ [a] ++ i :: B) (A'.length + 1) = i := by
   have := gi_mid (A' ++ [a]) i B
   simpa using this
  have e3 : (A' ++ [a]).length = A'.length + 1 := by simp
  rw [e3, sink, e1, e2]
  by_cases hlt : lt i a = true
  ·rw [if_pos (by simp [hlt]), swp_mid]
   obtain ⟨A1, A2, h1, h2, h3, h4⟩ := sink_ins lt i n A' (a :: B) (by simpa using hn)
   refine ⟨A1, A2 ++ [a], by rw [h1, List.append_assoc], by rw [h2]; simp, fun b hb => ?_, h4⟩
   rcases List.mem_append.1 hb with hb | hb
   ·exact h3 b hb
   ·simp at hb; rw [hb]; exact hlt
  ·rw [if_neg (by simp [hlt])]
   exact ⟨A' ++ [a], [], by simp, by simp, by simp, fun x hx => by simp at hx; subst hx; simpa using hlt⟩
theorem pw_last {R : Nat → Nat → Prop} {A : List Nat} (h : A.Pairwise R) {x z : Nat} (hx : x ∈ A) (hz : A.getLast? = some z) : x = z ∨ R x z := by
 obtain ⟨k, hk, rfl⟩ := List.getElem_of_mem hx
 have hz2 : z = A[A.length - 1]'zO := by
  rw [List.getLast?_eq_getElem?, List.getElem?_eq_getElem (by omega)] at hz
  simpa using hz.symm
 subst hz2
 rcases Nat.lt_or_ge k (A.length - 1) with h1 | h1
 ·exact .inr (List.pairwise_iff_getElem.1 h k _ hk _ h1)
 ·have : k = A.length - 1 := by omega
  subst this; exact .inl rfl
theorem srtTo_ok (l : List Pt) : ∀ (k : Nat), (srtTo l k).Pairwise (lxl l) ∧ ∀ x, x ∈ srtTo l k ↔ x < k
 |0 => by simp [srtTo]
 |k + 1 => by
  obtain ⟨ih1, ih2⟩ := srtTo_ok l k
  rw [srtTo_succ]
  have hl := srtTo_len l k
  obtain ⟨A1, A2, h1, h2, h3, h4⟩ := sink_ins (fun i k => bef (gp l i) (gp l k)) k (srtTo l k).length (srtTo l k) [] rfl
  rw [hl] at h2
  rw [h2, List.append_nil]
  constructor
  ·rw [h1] at ih1
   obtain ⟨p1, p2, p3⟩ := List.pairwise_append.1 ih1
   refine List.pairwise_append.2 ⟨p1, List.pairwise_cons.2 ⟨fun b hb => .inl (h3 b hb), p2⟩, fun a ha b hb => ?_⟩
   rcases List.mem_cons.1 hb with rfl | hb
   ·cases hz : A1.getLast? with
    |none => rw [List.getLast?_eq_none_iff] at hz; subst hz; simp at ha
    |some z =>
     have hzm : z ∈ A1 := List.mem_of_getLast? hz
     have hzk : z < b := (ih2 z).1 (by rw [h1]; exact List.mem_append_left _ hzm)
     have hzi : lxl l z b := by
      have h5 := h4 z hz
      rcases bef_tri (gp l z) (gp l b) with h6 | h6 | h6
      ·exact .inl h6
      ·exact .inr ⟨h6, hzk⟩
      ·simp only [h6] at h5; cases h5
     rcases pw_last p1 ha hz with rfl | h7
     ·exact hzi
     ·exact lxl_trans h7 hzi
   ·exact p3 a ha b hb
  ·intro x
   have := ih2 x
   rw [h1, List.mem_append] at this
   rw [List.mem_append, List.mem_cons]
   constructor
   ·rintro (h | rfl | h)
    ·have := this.1 (.inl h); omega
    ·omega
    ·have := this.1 (.inr h); omega
   ·intro h
    by_cases hx : x = k
    ·exact .inr (.inl hx)
    ·rcases this.2 zO with h | h
     ·exact .inl h
     ·exact .inr (.inr h)
theorem gi_app_l (C B : List Nat) {k : Nat} (h : k < C.length) : gi (C ++ B) k = gi C k := by
 simp only [gi, List.getD]; rw [List.getElem?_append_left h]
theorem swp_app (C B : List Nat) {i j : Nat} (hi : i < C.length) (hj : j < C.length) : swp (C ++ B) i j = swp C i j ++ B := by
 unfold swp
 rw [gi_app_l C B hi, gi_app_l C B hj, List.set_append_left _ _ hi, List.set_append_left _ _ (by simpa using hj)]
theorem sink_app (lt : Nat → Nat → Bool) (B : List Nat) : ∀ (j : Nat) (C : List Nat), j < C.length → sink lt 0 (C ++ B) j = sink lt 0 C j ++ B
 |0, C, _ => rfl
 |j + 1, C, h => by
  rw [sink, sink, gi_app_l C B h, gi_app_l C B (by omega)]
  split
  ·rw [swp_app C B h (by omega), sink_app lt B j _ (by rw [swp_len]; omega)]
  ·rfl
theorem ordI_to (l : List Pt) : ∀ (k i : Nat), i + k = l.length → isortR (fun i k => bef (gp l i) (gp l k)) 0 l.length (srtTo l i ++ List.range' i k) i = srtTo l l.length
 |0, i, h => by
  rw [isortR_end (by omega)]
  simp at h; subst h; simp
 |k + 1, i, h => by
  rw [isortR_step (by omega), List.range'_succ]
  have e : srtTo l i ++ i :: List.range' (i + 1) k = (srtTo l i ++ [i]) ++ List.range' (i + 1) k := by simp
  rw [e, sink_app _ _ _ _ (by simp [srtTo_len]), ← srtTo_succ]
  exact ordI_to l k (i + 1) zO
theorem ordI_eq (l : List Pt) : ordI l = srtTo l l.length := by
 unfold ordI
 rw [show (fun i k => decide (ordC l i k < 0)) = (fun i k => bef (gp l i) (gp l k)) from funext fun i => funext fun k => ordC_lt l i k]
 cases h : l.length with
 |zero => rfl
 |succ n =>
  have := ordI_to l n 1 zO
  rw [h] at this
  rw [← this]
  congr 1
  rw [List.range_eq_range', List.range'_succ]
  simp [srtTo, sink, List.range_succ]
structure CptOk (l : List Pt) (v : List Nat) (m : Nat) : Prop where
 up : (cptTo l v m).Pairwise fun i k => bef (gp l i) (gp l k) = true
 sub : ∀ x ∈ cptTo l v m, ∃ k, k < m ∧ gi v k = x
 cover : ∀ k, k < m → ∃ x ∈ cptTo l v m, gp l x = gp l (gi v k) ∧ x ≤ gi v k
 last : ∀ m', m = m' + 1 → ∀ x ∈ cptTo l v m, bef (gp l x) (gp l (gi v m')) = true ∨ gp l x = gp l (gi v m')
theorem cpt_ok (l : List Pt) {v : List Nat} (hv : v.Pairwise (lxl l)) : ∀ (m : Nat), m ≤ v.length → CptOk l v m
 |0, _ => ⟨by simp [cptTo], by simp [cptTo], by simp, by simp⟩
 |m + 1, hm => by
  have ih := cpt_ok l hv m zO
  have hs := cptTo_succ l v m
  by_cases hp : cptP l v m = true
  ·rw [if_pos hp] at hs
   refine ⟨?_, ?_, ?_, ?_⟩
   ·rw [hs]
    refine List.pairwise_append.2 ⟨ih.up, by simp, fun a ha b hb => ?_⟩
    simp at hb; subst hb
    match m, hp, ih, ha, hm with
    |0, _, _, ha, _ => simp [cptTo] at ha
    |m + 1, hp, ih, ha, hm =>
     have hne : gp l (gi v (m + 1)) ≠ gp l (gi v m) := by simpa [cptP] using hp
     have hr := List.pairwise_iff_getElem.1 hv m (m + 1) zO zO zO
     rw [← gi_eq, ← gi_eq] at hr
     have hb2 : bef (gp l (gi v m)) (gp l (gi v (m + 1))) = true := by
      rcases hr with h | ⟨h, _⟩
      ·exact h
      ·exact absurd h.symm hne
     rcases ih.last m rfl a ha with h | h
     ·exact bef_trans h hb2
     ·rw [h]; exact hb2
   ·rw [hs]; intro x hx
    rcases List.mem_append.1 hx with hx | hx
    ·obtain ⟨k, hk, e⟩ := ih.sub x hx; exact ⟨k, by omega, e⟩
    ·simp at hx; exact ⟨m, by omega, hx.symm⟩
   ·rw [hs]; intro k hk
    by_cases e : k = m
    ·subst e; exact ⟨gi v k, by simp, rfl, Nat.le_refl _⟩
    ·obtain ⟨x, hx, h⟩ := ih.cover k zO; exact ⟨x, List.mem_append_left _ hx, h⟩
   ·intro m' e x hx
    obtain rfl : m = m' := by omega
    rw [hs] at hx
    rcases List.mem_append.1 hx with hx | hx
    ·match m, hp, ih, hx, hm with
     |0, _, _, hx, _ => simp [cptTo] at hx
     |m + 1, hp, ih, hx, hm =>
      have hne : gp l (gi v (m + 1)) ≠ gp l (gi v m) := by simpa [cptP] using hp
      have hr := List.pairwise_iff_getElem.1 hv m (m + 1) zO zO zO
      rw [← gi_eq, ← gi_eq] at hr
      have hb2 : bef (gp l (gi v m)) (gp l (gi v (m + 1))) = true := by
       rcases hr with h | ⟨h, _⟩
       ·exact h
       ·exact absurd h.symm hne
      rcases ih.last m rfl x hx with h | h
      ·exact .inl (bef_trans h hb2)
      ·rw [h]; exact .inl hb2
    ·simp at hx; subst hx; exact .inr rfl
  ·rw [if_neg hp] at hs
   obtain ⟨hm0, heq⟩ : m ≠ 0 ∧ gp l (gi v m) = gp l (gi v (m - 1)) := by simpa [cptP] using hp
   obtain ⟨m', rfl⟩ : ∃ m', m = m' + 1 := ⟨m - 1, by omega⟩
   rw [Nat.add_sub_cancel] at heq
   refine ⟨by rw [hs]; exact ih.up, ?_, ?_, ?_⟩
   ·rw [hs]; intro x hx; obtain ⟨k, hk, e⟩ := ih.sub x hx; exact ⟨k, by omega, e⟩
   ·rw [hs]; intro k hk
    by_cases e : k = m' + 1
    ·subst e
     obtain ⟨x, hx, h1, h2⟩ := ih.cover m' zO
     have hr := List.pairwise_iff_getElem.1 hv m' (m' + 1) zO zO zO
     rw [← gi_eq, ← gi_eq] at hr
     refine ⟨x, hx, by rw [h1, heq], ?_⟩
     rcases hr with h | ⟨_, h⟩
     ·rw [heq, bef_irr] at h; cases h
     ·omega
    ·exact ih.cover k zO
   ·intro m'' e x hx
    obtain rfl : m' + 1 = m'' := by omega
    rw [hs] at hx
    rw [heq]
    exact ih.last m' rfl x hx
end Go.Proofs.YtgepmbjmaljgoaaGreatDoor.H.G
section
namespace Go.Proofs.YtgepmbjmaljgoaaGreatDoor.H.G
open Go.Vc
theorem bef_lf {a b : Pt} (ha : SmP a) (hb : SmP b) : bef a b = true ↔ 0 < lf 1000000 1 a b := by
 rw [bef_iff]; simp only [SmP, Sm] at ha hb; simp only [lf]; omega
def ChainE (l : List Pt) (P : List Nat) : List Nat → Prop
 |a :: b :: r => (∀ p ∈ P, 0 ≤ crs (gp l a) (gp l b) (gp l p)) ∧ ChainE l P (b :: r)
 |_ => True
theorem chain_join {l : List Pt} {P : List Nat} : ∀ (X : List Nat) {m : Nat} {t : List Nat}, ChainE l P (X ++ [m]) → ChainE l P (m :: t) → ChainE l P (X ++ m :: t)
 |[], _, _, _, h => h
 |[x], m, t, h1, h2 => ⟨h1.1, h2⟩
 |x :: y :: X, m, t, h1, h2 => ⟨h1.1, chain_join (y :: X) h1.2 h2⟩
theorem chain_of_edges {l : List Pt} {P : List Nat} : ∀ (st : List Nat), EdgesL l P st → ChainE l P st.reverse
 |[], _ => trivial
 |[x], _ => trivial
 |b :: a :: r, h => by
  have ih := chain_of_edges (a :: r) h.2
  simp only [List.reverse_cons, List.append_assoc, List.cons_append, List.nil_append] at ih ⊢
  exact chain_join r.reverse ih ⟨h.1, trivial⟩
theorem chain_at {l : List Pt} {P : List Nat} : ∀ (L : List Nat) (k : Nat), ChainE l P L → k + 1 < L.length → ∀ p ∈ P, 0 ≤ crs (gp l (gi L k)) (gp l (gi L (k + 1))) (gp l p)
 |a :: b :: r, 0, h, _ => h.1
 |a :: b :: r, k + 1, h, hk => by
  have := chain_at (b :: r) k h.2 (by simpa using hk)
  simpa [gi] using this
 |[], _, _, hk => by simp at hk
 |[_], _, _, hk => by simp at hk
structure Two (l : List Pt) (S lo up : List Nat) (p0 pm : Nat) : Prop where
 sm : ∀ i, SmP (gp l i)
 incS : UpL l 1000000 1 S
 ilo : Inv l 1000000 1 S lo
 iup : Inv l (-1000000) (-1) S up
 loH : lo.head? = some pm
 loL : lo.getLast? = some p0
 upH : up.head? = some p0
 upL : up.getLast? = some pm
 len1 : 2 ≤ lo.length
 len2 : 2 ≤ up.length
 p0m : ∀ p ∈ S, 0 ≤ lf 1000000 1 (gp l p0) (gp l p)
 pmm : ∀ p ∈ S, 0 ≤ lf 1000000 1 (gp l p) (gp l pm)
theorem UpL.neg {l : List Pt} {v : List Nat} (h : UpL l 1000000 1 v) : UpL l (-1000000) (-1) v.reverse := by
 unfold UpL
 rw [List.pairwise_reverse]
 exact h.imp fun {a b} hab => by simp only [lf] at hab ⊢; omega
theorem inv_rev {l : List Pt} {α β : Int} {P st : List Nat} (h : Inv l α β P.reverse st) : Inv l α β P st := by
 have he : ∀ st : List Nat, EdgesL l P.reverse st → EdgesL l P st := by
  intro st
  induction st with
  |nil => intro _; trivial
  |cons b r ih =>
   cases r with
   |nil => intro _; trivial
   |cons a r => exact fun h => ⟨fun p hp => h.1 p (List.mem_reverse.2 hp), ih h.2⟩
 have hb : ∀ st : List Nat, BotL l α β P.reverse st → BotL l α β P st := by
  intro st
  induction st with
  |nil => intro _; trivial
  |cons b r ih =>
   cases r with
   |nil => exact fun h p hp => h p (List.mem_reverse.2 hp)
   |cons a r => exact fun h => ih h
 exact ⟨fun x hx => List.mem_reverse.1 (h.sub x hx), he _ h.edges, h.turns, h.inc, hb _ h.bot⟩
theorem two_of {l : List Pt} {S : List Nat} (sm : ∀ i, SmP (gp l i)) (hS : UpL l 1000000 1 S) (h2 : 2 ≤ S.length) : ∃ p0 pm, S.head? = some p0 ∧ S.getLast? = some pm ∧ Two l S (stk l S) (stk l S.reverse) p0 pm := by
 obtain ⟨i1, i2⟩ := stk_inv S.length S rfl hS
 obtain ⟨j1, j2⟩ := stk_inv S.reverse.length S.reverse rfl hS.neg
 have k1 := stk_last l S.length S rfl
 have k2 := stk_last l S.reverse.length S.reverse rfl
 match S, h2 with
 |p0 :: q :: S, _ =>
  obtain ⟨pm, hpm⟩ : ∃ pm, (p0 :: q :: S).getLast? = some pm := ⟨_, List.getLast?_eq_some_getLast (by simp)⟩
  refine ⟨p0, pm, rfl, hpm, sm, hS, i1, inv_rev j1, i2 pm hpm, k1.trans rfl, j2 p0 (by simp), ?_, stk_len l _ (by simp), stk_len l _ (by simp), ?_, ?_⟩
  ·rw [k2, List.head?_reverse]; exact hpm
  ·intro p hp
   rcases List.mem_cons.1 hp with rfl | hp
   ·rw [lf_self]; exact Int.le_refl 0
   ·exact Int.le_of_lt ((List.pairwise_cons.1 hS).1 p hp)
  ·intro p hp
   rcases pw_last hS hp hpm with rfl | h
   ·rw [lf_self]; exact Int.le_refl 0
   ·exact Int.le_of_lt h
theorem cross_zero {b a c p : Pt} (h1 : crs b c p = 0) (h2 : crs a b p = 0) (h3 : 0 < crs a b c) : p = b := by
 have e1 := id3 1 0 b a c p
 have e2 := id3 0 1 b a c p
 have r1 : crs b p a = crs a b p := crs_rot _ _ _
 have r2 : crs b a c = - crs a b c := crs_flip _ _ _
 rw [h1, r1, h2, r2] at e1 e2
 have z1 : crs a b c * lf 1 0 b p = 0 := by have : -crs a b c * lf 1 0 b p = - (crs a b c * lf 1 0 b p) := Int.neg_mul _ _; omega
 have z2 : crs a b c * lf 0 1 b p = 0 := by have : -crs a b c * lf 0 1 b p = - (crs a b c * lf 0 1 b p) := Int.neg_mul _ _; omega
 have w1 : lf 1 0 b p = 0 := by rcases Int.mul_eq_zero.1 z1 with h | h <;> omega
 have w2 : lf 0 1 b p = 0 := by rcases Int.mul_eq_zero.1 z2 with h | h <;> omega
 simp only [lf] at w1 w2
 cases p; cases b; simp at w1 w2 ⊢; omega
theorem crs_base (a b p : Pt) : crs a b p = lf (-(b.y - a.y)) (b.x - a.x) b p := by simp only [crs, trn, sub, lf]; grind
def Sup (l : List Pt) (S : List Nat) (x : Nat) : Prop := ∃ α β, ∀ p ∈ S, p ≠ x → 0 < lf α β (gp l x) (gp l p)
theorem lf_sum (α β α' β' : Int) (a b : Pt) : lf (α + α') (β + β') a b = lf α β a b + lf α' β' a b := by simp only [lf]; grind
theorem sup_mid {l : List Pt} {α β : Int} {S st r1 r2 : List Nat} {c b a : Nat} (hI : Inv l α β S st) (hinj : ∀ p ∈ S, ∀ q ∈ S, gp l p = gp l q → p = q) (e : st = r1 ++ c :: b :: a :: r2) : Sup l S b := by
 have h1 := edges_mid (l := l) (P := S) r1 (e ▸ hI.edges)
 have h2 := edges_mid (l := l) (P := S) (r1 ++ [c]) (b := b) (a := a) (r2 := r2) (by have := hI.edges; rw [e] at this; simpa using this)
 have h3 := turns_mid r1 (e ▸ hI.turns)
 have hb : b ∈ S := hI.sub b (by rw [e]; simp)
 refine ⟨-((gp l c).y - (gp l b).y) + -((gp l b).y - (gp l a).y), ((gp l c).x - (gp l b).x) + ((gp l b).x - (gp l a).x), fun p hp hne => ?_⟩
 rw [lf_sum, ← crs_lf, ← crs_base]
 have q1 := h1 p hp
 have q2 := h2 p hp
 rcases Int.lt_or_le 0 (crs (gp l b) (gp l c) (gp l p) + crs (gp l a) (gp l b) (gp l p)) with h | h
 ·exact h
 ·exact absurd (hinj p hp b hb (cross_zero zO zO h3)) hne
theorem mem_split3 {x : Nat} : ∀ {st : List Nat}, x ∈ st → st.head? ≠ some x → st.getLast? ≠ some x → ∃ r1 c a r2, st = r1 ++ c :: x :: a :: r2
 |[], h, _, _ => by simp at h
 |[y], h, h1, _ => by simp at h; subst h; simp at h1
 |y :: z :: r, h, h1, h2 => by
  rcases List.mem_cons.1 h with rfl | h
  ·simp at h1
  ·by_cases hz : z = x
   ·subst hz
    cases r with
    |nil => simp at h2
    |cons a r => exact ⟨[], y, a, r, rfl⟩
   ·obtain ⟨r1, c, a, r2, e⟩ := mem_split3 (st := z :: r) h (by simpa using hz) (by simpa using h2)
    exact ⟨y :: r1, c, a, r2, by rw [e]; rfl⟩
section
variable {l : List Pt} {S lo up : List Nat} {p0 pm : Nat}
theorem Two.inj (h : Two l S lo up p0 pm) : ∀ p ∈ S, ∀ q ∈ S, gp l p = gp l q → p = q := fun p hp q hq e => h.incS.inj p hp q hq (by rw [e, lf_self])
theorem Two.mem0 (h : Two l S lo up p0 pm) : p0 ∈ S := h.ilo.sub _ (List.mem_of_getLast? h.loL)
theorem Two.memM (h : Two l S lo up p0 pm) : pm ∈ S := h.iup.sub _ (List.mem_of_getLast? h.upL)
theorem Two.sup0 (h : Two l S lo up p0 pm) : Sup l S p0 := ⟨1000000, 1, fun p hp hne => by
 have h1 := h.p0m p hp
 rcases Int.lt_or_le 0 (lf 1000000 1 (gp l p0) (gp l p)) with h2 | h2
 ·exact h2
 ·exact absurd (h.incS.inj p0 h.mem0 p hp zO).symm hne⟩
theorem Two.supM (h : Two l S lo up p0 pm) : Sup l S pm := ⟨-1000000, -1, fun p hp hne => by
 have h1 := h.pmm p hp
 have e : lf (-1000000) (-1) (gp l pm) (gp l p) = lf 1000000 1 (gp l p) (gp l pm) := by simp only [lf]; omega
 rw [e]
 rcases Int.lt_or_le 0 (lf 1000000 1 (gp l p) (gp l pm)) with h2 | h2
 ·exact h2
 ·exact absurd (h.incS.inj p hp pm h.memM zO) hne⟩
theorem Two.sup (h : Two l S lo up p0 pm) {x : Nat} (hx : x ∈ lo ∨ x ∈ up) : Sup l S x := by
 by_cases e1 : x = p0
 ·subst e1; exact h.sup0
 ·by_cases e2 : x = pm
  ·subst e2; exact h.supM
  ·rcases hx with hx | hx
   ·obtain ⟨r1, c, a, r2, e⟩ := mem_split3 hx (by rw [h.loH]; simp; exact fun e => e2 e.symm) (by rw [h.loL]; simp; exact fun e => e1 e.symm)
    exact sup_mid h.ilo h.inj e
   ·obtain ⟨r1, c, a, r2, e⟩ := mem_split3 hx (by rw [h.upH]; simp; exact fun e => e1 e.symm) (by rw [h.upL]; simp; exact fun e => e2 e.symm)
    exact sup_mid h.iup h.inj e
theorem Two.apart (h : Two l S lo up p0 pm) {x : Nat} (h1 : x ∈ lo) (h2 : x ∈ up) : x = p0 ∨ x = pm := by
 by_cases e1 : x = p0
 ·exact .inl e1
 ·by_cases e2 : x = pm
  ·exact .inr e2
  ·exfalso
   obtain ⟨r1, c, a, r2, e⟩ := mem_split3 h1 (by rw [h.loH]; simp; exact fun e => e2 e.symm) (by rw [h.loL]; simp; exact fun e => e1 e.symm)
   obtain ⟨q1, c', a', q2, e'⟩ := mem_split3 h2 (by rw [h.upH]; simp; exact fun e => e1 e.symm) (by rw [h.upL]; simp; exact fun e => e2 e.symm)
   have ha : a ∈ S := h.ilo.sub a (by rw [e]; simp)
   have hc : c ∈ S := h.ilo.sub c (by rw [e]; simp)
   have ha' : a' ∈ S := h.iup.sub a' (by rw [e']; simp)
   have t1 := turns_mid r1 (e ▸ h.ilo.turns)
   have g1 := edges_mid (l := l) (P := S) (r1 ++ [c]) (b := x) (a := a) (r2 := r2) (by have := h.ilo.edges; rw [e] at this; simpa using this)
   have g2 := edges_mid (l := l) (P := S) r1 (e ▸ h.ilo.edges)
   have g3 := edges_mid (l := l) (P := S) (q1 ++ [c']) (b := x) (a := a') (r2 := q2) (by have := h.iup.edges; rw [e'] at this; simpa using this)
   have k1 := inc_mid (l := l) (α := 1000000) (β := 1) (r1 ++ [c]) (b := x) (a := a) (r2 := r2) (by have := h.ilo.inc; rw [e] at this; simpa using this)
   have k2 := inc_mid (l := l) (α := -1000000) (β := -1) (q1 ++ [c']) (b := x) (a := a') (r2 := q2) (by have := h.iup.inc; rw [e'] at this; simpa using this)
   have i1 := g1 a' ha'
   have i2 := g3 a ha
   have i3 := g2 a' ha'
   have hid := id3 1000000 1 (gp l x) (gp l a) (gp l a') (gp l c)
   have s1 : crs (gp l x) (gp l a) (gp l a') = - crs (gp l a) (gp l x) (gp l a') := crs_flip _ _ _
   have s2 : crs (gp l x) (gp l a') (gp l a) = - crs (gp l a') (gp l x) (gp l a) := crs_flip _ _ _
   have s3 : crs (gp l x) (gp l a') (gp l a) = - crs (gp l x) (gp l a) (gp l a') := crs_swap _ _ _
   have z : crs (gp l x) (gp l a) (gp l a') = 0 := by omega
   have s4 : crs (gp l x) (gp l a') (gp l c) = - crs (gp l x) (gp l c) (gp l a') := crs_swap _ _ _
   have s5 : crs (gp l x) (gp l c) (gp l a) = crs (gp l a) (gp l x) (gp l c) := crs_rot _ _ _
   have ka : lf 1000000 1 (gp l x) (gp l a) < 0 := by rw [lf_anti]; omega
   have ka' : 0 < lf 1000000 1 (gp l x) (gp l a') := by simp only [lf] at k2 ⊢; omega
   rw [z, s5] at hid
   have m1 := nnn_mul (show crs (gp l x) (gp l a') (gp l c) ≤ 0 by omega) (Int.le_of_lt ka)
   have m2 := pos_mul t1 ka'
   omega
theorem Two.inside (h : Two l S lo up p0 pm) (q : Pt) (h0 : 0 ≤ lf 1000000 1 (gp l p0) q) (hm : 0 ≤ lf 1000000 1 q (gp l pm)) :
  ∃ u v u' v', u ∈ lo ∧ v ∈ lo ∧ u' ∈ up ∧ v' ∈ up ∧ 0 ≤ lf 1000000 1 (gp l u) q ∧ 0 ≤ lf 1000000 1 q (gp l v) ∧ 0 ≤ lf 1000000 1 (gp l u') q ∧ 0 ≤ lf 1000000 1 q (gp l v') ∧
   (∃ r1 r2, lo = r1 ++ v :: u :: r2) ∧ (∃ r1 r2, up = r1 ++ u' :: v' :: r2) := by
 obtain ⟨r1, v, u, r2, e, x1, x2⟩ := span (l := l) (α := 1000000) (β := 1) q lo p0 pm h.loH h.loL h.len1 h0 hm
 obtain ⟨q1, u', v', q2, e', y1, y2⟩ := span (l := l) (α := -1000000) (β := -1) q up pm p0 h.upH h.upL h.len2 (by simp only [lf] at hm ⊢; omega) (by simp only [lf] at h0 ⊢; omega)
 refine ⟨u, v, u', v', by rw [e]; simp, by rw [e]; simp, by rw [e']; simp, by rw [e']; simp, x1, x2, ?_, ?_, ⟨r1, r2, e⟩, ⟨q1, q2, e'⟩⟩
 ·simp only [lf] at y2 ⊢; omega
 ·simp only [lf] at y1 ⊢; omega
end
end Go.Proofs.YtgepmbjmaljgoaaGreatDoor.H.G
end
section
namespace Go.Proofs.YtgepmbjmaljgoaaGreatDoor.H.G
open Go.Vc
structure SOk (l : List Pt) (S : List Nat) : Prop where
 sm : ∀ i, SmP (gp l i)
 inc : UpL l 1000000 1 S
 lt : ∀ x ∈ S, x < l.length
 cover : ∀ i, i < l.length → ∃ x ∈ S, gp l x = gp l i ∧ x ≤ i
 head : S.head? = (srtTo l l.length).head?
theorem cpt_head (l : List Pt) (v : List Nat) : ∀ m, 0 < m → m ≤ v.length → (cptTo l v m).head? = v.head?
 |1, _, hm => by
  have hs := cptTo_succ l v 0
  rw [if_pos (by simp [cptP])] at hs
  rw [hs]
  match v, hm with
  |x :: v, _ => simp [cptTo, gi]
 |m + 2, _, hm => by
  have ih := cpt_head l v (m + 1) zO zO
  rw [cptTo_succ]
  split
  ·rw [List.head?_append, ih]
   match v, hm with
   |x :: v, _ => rfl
  ·exact ih
theorem s_ok {l : List Pt} (h : chk l = 0) (h0 : 0 < l.length) : SOk l (cpt l (ordN l)) := by
 have sm := chk_smH h
 have ho : ordN l = srtTo l l.length := by unfold ordN; rw [if_pos h, ordI_eq]
 rw [ho]
 obtain ⟨h1, h2⟩ := srtTo_ok l l.length
 have hl := srtTo_len l l.length
 have hc := cpt_ok l h1 (srtTo l l.length).length (Nat.le_refl _)
 refine ⟨sm, ?_, fun x hx => ?_, fun i hi => ?_, cpt_head l _ _ zO (Nat.le_refl _)⟩
 ·exact hc.up.imp fun {a b} hab => (bef_lf (sm a) (sm b)).1 hab
 ·obtain ⟨k, hk, e⟩ := hc.sub x hx
  rw [← e]; exact (h2 _).1 (by rw [gi_eq hk]; exact List.getElem_mem hk)
 ·obtain ⟨k, hk, e⟩ := List.getElem_of_mem ((h2 i).2 hi)
  obtain ⟨x, hx, e1, e2⟩ := hc.cover k hk
  rw [gi_eq hk, e] at e1 e2
  exact ⟨x, hx, e1, e2⟩
section
variable {l : List Pt} {S : List Nat}
theorem SOk.inj (h : SOk l S) : ∀ p ∈ S, ∀ q ∈ S, gp l p = gp l q → p = q := fun p hp q hq e => h.inc.inj p hp q hq (by rw [e, lf_self])
theorem SOk.first (h : SOk l S) {x : Nat} (hx : x ∈ S) : ∀ k, k < x → gp l k ≠ gp l x := by
 intro k hk e
 obtain ⟨y, hy, e1, e2⟩ := h.cover k (by have := h.lt x hx; omega)
 have := h.inj y hy x hx (e1.trans e)
 omega
theorem othersOf_mem {i : Nat} {p : Pt} : p ∈ othersOf l i l.length ↔ p ∈ l ∧ p ≠ gp l i := by
 simp [othersOf]
theorem vtx_iff {i : Nat} : vtx l i = true ↔ (∀ k, k < i → gp l k ≠ gp l i) ∧ inH (othersOf l i l.length) (gp l i) = false := by
 unfold vtx
 simp only [Bool.and_eq_true, Bool.not_eq_true', List.any_eq_false, List.mem_range, decide_eq_true_eq, ne_eq]
theorem SOk.vtx_of (h : SOk l S) {x : Nat} (hx : x ∈ S) (hs : Sup l S x) : vtx l x = true := by
 rw [vtx_iff]
 refine ⟨h.first hx, ?_⟩
 cases hin : inH (othersOf l x l.length) (gp l x) with
 |false => rfl
 |true =>
  exfalso
  obtain ⟨α, β, hab⟩ := hs
  refine inH_core α β hin fun j hj => ?_
  obtain ⟨hp, hne⟩ := othersOf_mem.1 (gp_mem hj)
  obtain ⟨k, hk, e⟩ := List.getElem_of_mem hp
  obtain ⟨y, hy, e1, _⟩ := h.cover k hk
  rw [gp_eq hk, e] at e1
  rw [← e1] at hne ⊢
  exact hab y hy (fun e => hne (by rw [e]))
theorem SOk.mem_of (h : SOk l S) {i : Nat} (hi : i < l.length) (hv : vtx l i = true) : i ∈ S := by
 obtain ⟨x, hx, e1, e2⟩ := h.cover i hi
 have := (vtx_iff.1 hv).1 x
 by_cases e : x = i
 ·rw [← e]; exact hx
 ·exact absurd e1 (this zO)
theorem SOk.idx (h : SOk l S) {i : Nat} {s : Nat} (hs : s ∈ S) (hne : gp l s ≠ gp l i) : ∃ j, j < (othersOf l i l.length).length ∧ gp (othersOf l i l.length) j = gp l s := by
 have : gp l s ∈ othersOf l i l.length := othersOf_mem.2 ⟨gp_mem (h.lt s hs), hne⟩
 obtain ⟨j, hj, e⟩ := List.getElem_of_mem this
 exact ⟨j, hj, by rw [gp_eq hj, e]⟩
theorem SOk.on (h : SOk l S) {lo up : List Nat} {p0 pm : Nat} (T : Two l S lo up p0 pm) {i : Nat} (hi : i < l.length) (hv : vtx l i = true) : i ∈ lo ∨ i ∈ up := by
 have hiS := h.mem_of hi hv
 rcases Classical.em (i ∈ lo ∨ i ∈ up) with h1 | h1
 ·exact h1
 ·exfalso
  have hlo : i ∉ lo := fun e => h1 (.inl e)
  have hup : i ∉ up := fun e => h1 (.inr e)
  obtain ⟨u, v, u', v', hu, hv1, hu', hv', x1, x2, x3, x4, ⟨r1, r2, e⟩, ⟨q1, q2, e'⟩⟩ := T.inside (gp l i) (T.p0m i hiS) (T.pmm i hiS)
  have hne : ∀ s, s ∈ lo ∨ s ∈ up → gp l s ≠ gp l i := fun s hs es => by
   have : s = i := h.inj s (hs.elim (T.ilo.sub s) (T.iup.sub s)) i hiS es
   subst this
   exact h1 hs
  have hst : ∀ a b : Nat, a ∈ S → b ∈ S → gp l a ≠ gp l b → 0 ≤ lf 1000000 1 (gp l a) (gp l b) → 0 < lf 1000000 1 (gp l a) (gp l b) := fun a b ha hb hne hle => by
   rcases Int.lt_or_le 0 (lf 1000000 1 (gp l a) (gp l b)) with h2 | h2
   ·exact h2
   ·exact absurd (by rw [h.inc.inj a ha b hb (by omega)]) hne
  obtain ⟨ju, hju, eu⟩ := h.idx (i := i) (T.ilo.sub u hu) (hne u (.inl hu))
  obtain ⟨jv, hjv, ev⟩ := h.idx (i := i) (T.ilo.sub v hv1) (hne v (.inl hv1))
  obtain ⟨ju', hju', eu'⟩ := h.idx (i := i) (T.iup.sub u' hu') (hne u' (.inr hu'))
  obtain ⟨jv', hjv', ev'⟩ := h.idx (i := i) (T.iup.sub v' hv') (hne v' (.inr hv'))
  have c1 := edges_mid (l := l) (P := S) r1 (e ▸ T.ilo.edges) i hiS
  have c2 := edges_mid (l := l) (P := S) q1 (e' ▸ T.iup.edges) i hiS
  have := four (l := othersOf l i l.length) (p := gp l i) 1000000 1 hju hjv hju' hjv'
   (by rw [eu]; exact hst u i (T.ilo.sub u hu) hiS (hne u (.inl hu)) x1)
   (by rw [ev]; exact hst i v hiS (T.ilo.sub v hv1) (fun e => hne v (.inl hv1) e.symm) x2)
   (by rw [eu']; exact hst u' i (T.iup.sub u' hu') hiS (hne u' (.inr hu')) x3)
   (by rw [ev']; exact hst i v' hiS (T.iup.sub v' hv') (fun e => hne v' (.inr hv') e.symm) x4)
   (by rw [eu, ev]; exact c1) (by rw [eu', ev']; exact c2)
  rw [(vtx_iff.1 hv).2] at this
  cases this
end
structure HullOk (l : List Pt) (v : List Nat) : Prop where
 pos : 0 < v.length
 lt : ∀ k, k < v.length → gi v k < l.length
 nd : v.Nodup
 mem : ∀ i, i < l.length → (i ∈ v ↔ vtx l i = true)
 edge : 1 < v.length → ∀ k, k < v.length → ∀ p, p < l.length → 0 ≤ crs (gp l (gi v k)) (gp l (gi v ((k + 1) % v.length))) (gp l p)
 fst : (srtTo l l.length).head? = some (gi v 0)
theorem nodup_rev {v : List Nat} (h : v.Nodup) : v.reverse.Nodup := by
 unfold List.Nodup at *
 rw [List.pairwise_reverse]
 exact h.imp fun h e => h e.symm
theorem inc_nodup {l : List Pt} {α β : Int} {st : List Nat} (h : IncL l α β st) : st.Nodup := by
 refine (inc_pair st h).imp fun {a b} hab e => ?_
 subst e
 rw [lf_self] at hab; omega
theorem arr_two {l : List Pt} (h2 : 2 ≤ (cpt l (ordN l)).length) : arr l = (stk l (cpt l (ordN l))).tail.reverse ++ (stk l (cpt l (ordN l)).reverse).tail.reverse := by
 unfold arr
 split
 ·generalize cpt l (ordN l) = S at *
  match S, h2 with
  |[a, b], _ => simp [stk, pop]
  |a :: b :: c :: S, _ => rename_i h; simp at h; omega
 ·rfl
theorem hull_two {l : List Pt} {S lo up : List Nat} {p0 pm : Nat} (h : SOk l S) (T : Two l S lo up p0 pm) (hp0 : S.head? = some p0) : HullOk l (lo.tail.reverse ++ up.tail.reverse) := by
 obtain ⟨m1, lo', e1⟩ : ∃ a t, lo = a :: t := by
  cases hl : lo with
  |nil => have := T.len1; rw [hl] at this; simp at this
  |cons a t => exact ⟨a, t, rfl⟩
 obtain ⟨m2, up', e2⟩ : ∃ a t, up = a :: t := by
  cases hl : up with
  |nil => have := T.len2; rw [hl] at this; simp at this
  |cons a t => exact ⟨a, t, rfl⟩
 have hm1 : m1 = pm := by have := T.loH; rw [e1] at this; simpa using this
 have hm2 : m2 = p0 := by have := T.upH; rw [e2] at this; simpa using this
 subst hm1
 subst hm2
 have n1 : lo' ≠ [] := fun e => by have := T.len1; rw [e1, e] at this; simp at this
 have n2 : up' ≠ [] := fun e => by have := T.len2; rw [e2, e] at this; simp at this
 have l1 : lo'.getLast? = some m2 := by have := T.loL; rw [e1, List.getLast?_cons] at this; cases hq : lo'.getLast? with
  |none => rw [List.getLast?_eq_none_iff] at hq; exact absurd hq n1
  |some z => rw [hq] at this; simpa using this
 have l2 : up'.getLast? = some m1 := by have := T.upL; rw [e2, List.getLast?_cons] at this; cases hq : up'.getLast? with
  |none => rw [List.getLast?_eq_none_iff] at hq; exact absurd hq n2
  |some z => rw [hq] at this; simpa using this
 have f1 : lo'.reverse.head? = some m2 := by rw [List.head?_reverse]; exact l1
 have f2 : up'.reverse.head? = some m1 := by rw [List.head?_reverse]; exact l2
 have nd1 := inc_nodup T.ilo.inc
 have nd2 := inc_nodup T.iup.inc
 rw [e1] at nd1
 rw [e2] at nd2
 rw [List.nodup_cons] at nd1 nd2
 have hmem : ∀ x, x ∈ lo'.reverse ++ up'.reverse ↔ x ∈ lo ∨ x ∈ up := by
  intro x
  rw [List.mem_append, List.mem_reverse, List.mem_reverse, e1, e2, List.mem_cons, List.mem_cons]
  constructor
  ·rintro (h | h)
   ·exact .inl (.inr h)
   ·exact .inr (.inr h)
  ·rintro ((rfl | h) | (rfl | h))
   ·exact .inr (List.mem_of_getLast? l2)
   ·exact .inl h
   ·exact .inl (List.mem_of_getLast? l1)
   ·exact .inr h
 have hsub : ∀ x, x ∈ lo'.reverse ++ up'.reverse → x ∈ S := fun x hx => ((hmem x).1 hx).elim (T.ilo.sub x) (T.iup.sub x)
 rw [e1, e2, List.tail_cons, List.tail_cons]
 obtain ⟨y, t, ey⟩ : ∃ y t, lo'.reverse = y :: t := by
  cases hr : lo'.reverse with
  |nil => simp at hr; exact absurd hr n1
  |cons y t => exact ⟨y, t, rfl⟩
 have hy : y = m2 := by rw [ey] at f1; simpa using f1
 subst hy
 have hchain : ChainE l S ((lo'.reverse ++ up'.reverse) ++ [y]) := by
  have c1 := chain_of_edges lo T.ilo.edges
  have c2 := chain_of_edges up T.iup.edges
  rw [e1, List.reverse_cons] at c1
  rw [e2, List.reverse_cons] at c2
  obtain ⟨z, s, ez⟩ : ∃ z s, up'.reverse = z :: s := by
   cases hr : up'.reverse with
   |nil => simp at hr; exact absurd hr n2
   |cons y t => exact ⟨y, t, rfl⟩
  have hz : z = m1 := by rw [ez] at f2; simpa using f2
  subst hz
  rw [ez, List.cons_append] at c2
  have := chain_join lo'.reverse c1 c2
  rw [ez]; simpa using this
 refine ⟨by rw [ey]; simp, fun k hk => ?_, ?_, fun i hi => ?_, fun h1 k hk p hp => ?_, ?_⟩
 ·exact h.lt _ (hsub _ (by rw [gi_eq hk]; exact List.getElem_mem hk))
 ·rw [List.nodup_append]
  refine ⟨nodup_rev nd1.2, nodup_rev nd2.2, fun a ha b hb e => ?_⟩
  subst e
  have ha' : a ∈ lo' := List.mem_reverse.1 ha
  have hb' : a ∈ up' := List.mem_reverse.1 hb
  rcases T.apart (x := a) (by rw [e1]; exact List.mem_cons_of_mem _ ha') (by rw [e2]; exact List.mem_cons_of_mem _ hb') with e | e
  ·subst e; exact nd2.1 hb'
  ·subst e; exact nd1.1 ha'
 ·rw [hmem]
  constructor
  ·intro hx
   exact h.vtx_of (hx.elim (T.ilo.sub i) (T.iup.sub i)) (T.sup hx)
  ·exact h.on T hi
 ·obtain ⟨x, hx, e, _⟩ := h.cover p hp
  rw [← e]
  generalize hL : lo'.reverse ++ up'.reverse = L at *
  have hL0 : gi L 0 = y := by rw [← hL, ey]; rfl
  have := chain_at (L ++ [y]) k hchain (by simp; omega) x hx
  rw [gi_app, if_pos hk, gi_app] at this
  by_cases hk1 : k + 1 < L.length
  ·rw [if_pos hk1] at this
   rwa [Nat.mod_eq_of_lt hk1]
  ·have he : k + 1 = L.length := by omega
   rw [if_neg hk1, if_pos he] at this
   rw [he, Nat.mod_self, hL0]; exact this
 ·rw [← h.head, hp0, ey]; rfl
theorem hull_one {l : List Pt} {s : Nat} (h : SOk l [s]) : HullOk l [s] := by
 refine ⟨by simp, fun k hk => ?_, by simp, fun i hi => ?_, fun h1 => by simp at h1, by rw [← h.head]; rfl⟩
 ·have : k = 0 := by simpa using hk
  subst this; exact h.lt s (by simp)
 ·constructor
  ·intro hx
   simp at hx; subst hx
   exact h.vtx_of (by simp) ⟨0, 0, fun p hp hne => by simp at hp; exact absurd hp hne⟩
  ·exact h.mem_of hi
theorem hull_ok {l : List Pt} (h : chk l = 0) (h0 : 0 < l.length) : HullOk l (arr l) := by
 have hS := s_ok h h0
 obtain ⟨x, hx, _⟩ := hS.cover 0 h0
 rcases Nat.lt_or_ge (cpt l (ordN l)).length 2 with h2 | h2
 ·have e : arr l = cpt l (ordN l) := by rw [arr, if_pos (by omega)]
  rw [e]
  match hc : cpt l (ordN l), h2, hx, hS with
  |[s], _, _, hS => exact hull_one hS
  |[], _, hx, _ => simp at hx
 ·obtain ⟨p0, pm, hp, _, T⟩ := two_of hS.sm hS.inc h2
  rw [arr_two h2]
  exact hull_two hS T hp
end Go.Proofs.YtgepmbjmaljgoaaGreatDoor.H.G
end
section
namespace Go.Proofs.YtgepmbjmaljgoaaGreatDoor.H.G
open Go.Vc
theorem k_inj {a b : Pt} (ha : SmP a) (hb : SmP b) (h : lf 1000000 1 a b = 0) : a = b := by
 simp only [lf] at h; simp only [SmP, Sm] at ha hb
 cases a; cases b; simp at *; omega
theorem mid_btw {a b c : Pt} (h : crs a b c = 0) (h1 : 0 < lf 1000000 1 a b) (h2 : 0 < lf 1000000 1 b c) : btw b a c = true := by
 rw [btw_iff]
 have hc : crs a c b = 0 := by rw [crs_swap]; omega
 refine ⟨hc, ?_⟩
 have h5 := par_id 1000000 1 a c b hc
 have h6 := dot_sq (sub c b)
 have h7 : lf 1000000 1 b a < 0 := by rw [lf_anti]; omega
 rcases Int.lt_or_le 0 (dot (sub a b) (sub c b)) with hx | hx
 ·have m1 := pos_mul h2 hx
  have m2 := np_mul (Int.le_of_lt h7) h6
  omega
 ·exact hx
theorem vtx_ne {l : List Pt} {i j : Nat} (hi : vtx l i = true) (hj : vtx l j = true) (h : i ≠ j) : gp l i ≠ gp l j := by
 intro e
 rcases Nat.lt_or_ge i j with h1 | h1
 ·exact (vtx_iff.1 hj).1 i h1 e
 ·exact (vtx_iff.1 hi).1 j zO e.symm
theorem vtx_between {l : List Pt} {i j k : Nat} (hi : i < l.length) (hk : k < l.length) (hj : vtx l j = true) (n1 : gp l i ≠ gp l j) (n2 : gp l k ≠ gp l j) : btw (gp l j) (gp l i) (gp l k) = false := by
 cases h : btw (gp l j) (gp l i) (gp l k) with
 |false => rfl
 |true =>
  have m1 : gp l i ∈ othersOf l j l.length := othersOf_mem.2 ⟨gp_mem hi, n1⟩
  have m2 : gp l k ∈ othersOf l j l.length := othersOf_mem.2 ⟨gp_mem hk, n2⟩
  obtain ⟨a, ha, ea⟩ := List.getElem_of_mem m1
  obtain ⟨b, hb, eb⟩ := List.getElem_of_mem m2
  have := inH_seg (l := othersOf l j l.length) (p := gp l j) ha hb (by rw [gp_eq ha, gp_eq hb, ea, eb]; exact h)
  rw [(vtx_iff.1 hj).2] at this
  cases this
theorem no_col {l : List Pt} (sm : ∀ i, SmP (gp l i)) {i j k : Nat} (hi : i < l.length) (hj : j < l.length) (hk : k < l.length) (vi : vtx l i = true) (vj : vtx l j = true) (vk : vtx l k = true) (n1 : i ≠ j) (n2 : j ≠ k) (n3 : i ≠ k) : crs (gp l i) (gp l j) (gp l k) ≠ 0 := by
 intro h
 have key : ∀ a b c : Nat, a < l.length → c < l.length → vtx l a = true → vtx l b = true → vtx l c = true → a ≠ b → b ≠ c → crs (gp l a) (gp l b) (gp l c) = 0 → 0 < lf 1000000 1 (gp l a) (gp l b) → 0 < lf 1000000 1 (gp l b) (gp l c) → False := by
  intro a b c ha hc va vb vc e1 e2 hz h1 h2
  have := vtx_between ha hc vb (vtx_ne va vb e1) (vtx_ne vc vb e2.symm)
  rw [mid_btw hz h1 h2] at this
  cases this
 have q : ∀ a b : Nat, vtx l a = true → vtx l b = true → a ≠ b → lf 1000000 1 (gp l a) (gp l b) ≠ 0 := fun a b va vb e h0 => vtx_ne va vb e (k_inj (sm a) (sm b) h0)
 have a1 := q i j vi vj n1
 have a2 := q j k vj vk n2
 have a3 := q i k vi vk n3
 have c1 : crs (gp l i) (gp l k) (gp l j) = 0 := by rw [crs_swap]; omega
 have c2 : crs (gp l j) (gp l i) (gp l k) = 0 := by rw [crs_flip]; omega
 have c3 : crs (gp l j) (gp l k) (gp l i) = 0 := by rw [crs_rot]; exact h
 have c4 : crs (gp l k) (gp l i) (gp l j) = 0 := by rw [crs_rot2]; exact h
 have c5 : crs (gp l k) (gp l j) (gp l i) = 0 := by rw [crs_flip, crs_rot]; omega
 have s1 := lf_anti 1000000 1 (gp l i) (gp l j)
 have s2 := lf_anti 1000000 1 (gp l j) (gp l k)
 have s3 := lf_anti 1000000 1 (gp l i) (gp l k)
 have s4 := lf_add 1000000 1 (gp l i) (gp l j) (gp l k)
 by_cases b1 : 0 < lf 1000000 1 (gp l i) (gp l j)
 ·by_cases b2 : 0 < lf 1000000 1 (gp l j) (gp l k)
  ·exact key i j k hi hk vi vj vk n1 n2 h b1 b2
  ·by_cases b3 : 0 < lf 1000000 1 (gp l i) (gp l k)
   ·exact key i k j hi hj vi vk vj n3 n2.symm c1 b3 zO
   ·exact key k i j hk hj vk vi vj n3.symm n1 c4 zO b1
 ·by_cases b2 : 0 < lf 1000000 1 (gp l j) (gp l k)
  ·by_cases b3 : 0 < lf 1000000 1 (gp l i) (gp l k)
   ·exact key j i k hj hk vj vi vk n1.symm n3 c2 zO b3
   ·exact key j k i hj hi vj vk vi n2 n3.symm c3 b2 zO
  ·exact key k j i hk hi vk vj vi n2.symm n1.symm c5 zO zO
def vsTo (l : List Pt) (k : Nat) : List Nat := ((srtTo l l.length).take k).filter (vtx l)
def vs (l : List Pt) : List Nat := vsTo l l.length
theorem vs_eq (l : List Pt) : vs l = (srtTo l l.length).filter (vtx l) := by
 unfold vs vsTo
 rw [List.take_of_length_le (by rw [srtTo_len]; exact Nat.le_refl _)]
theorem vs_mem (l : List Pt) (i : Nat) : i ∈ vs l ↔ i < l.length ∧ vtx l i = true := by
 rw [vs_eq, List.mem_filter, (srtTo_ok l l.length).2]
section
variable {l : List Pt} {v : List Nat}
theorem HullOk.memv (h : HullOk l v) {x : Nat} : x ∈ v ↔ x ∈ vs l := by
 rw [vs_mem]
 constructor
 ·intro hx
  obtain ⟨k, hk, e⟩ := List.getElem_of_mem hx
  have hl := h.lt k hk
  rw [gi_eq hk, e] at hl
  exact ⟨hl, (h.mem x hl).1 hx⟩
 ·intro ⟨h1, h2⟩; exact (h.mem x h1).2 h2
theorem HullOk.vtx (h : HullOk l v) {k : Nat} (hk : k < v.length) : Go.Proofs.YtgepmbjmaljgoaaGreatDoor.H.vtx l (gi v k) = true := ((vs_mem l _).1 (h.memv.1 (by rw [gi_eq hk]; exact List.getElem_mem hk))).2
theorem HullOk.ne (h : HullOk l v) {j k : Nat} (hj : j < v.length) (hk : k < v.length) (hjk : j ≠ k) : gi v j ≠ gi v k := by
 rw [gi_eq hj, gi_eq hk]
 intro e
 exact hjk ((List.getElem_inj h.nd).1 e)
theorem HullOk.strict (h : HullOk l v) (sm : ∀ i, SmP (gp l i)) {k j : Nat} (hk : k < v.length) (hj : j < v.length) (h1 : j ≠ k) (h2 : j ≠ (k + 1) % v.length) (hlen : 1 < v.length) : 0 < crs (gp l (gi v k)) (gp l (gi v ((k + 1) % v.length))) (gp l (gi v j)) := by
 have hm : (k + 1) % v.length < v.length := Nat.mod_lt _ zO
 have hne : k ≠ (k + 1) % v.length := fun e => by
  by_cases hk1 : k + 1 < v.length
  ·rw [Nat.mod_eq_of_lt hk1] at e; omega
  ·have : k + 1 = v.length := by omega
   rw [this, Nat.mod_self] at e; omega
 have e1 := h.edge hlen k hk (gi v j) (h.lt j hj)
 have e2 := no_col sm (h.lt k hk) (h.lt _ hm) (h.lt j hj) (h.vtx hk) (h.vtx hm) (h.vtx hj) (h.ne hk hm hne) (h.ne hm hj (fun e => h2 e.symm)) (h.ne hk hj (fun e => h1 e.symm))
 omega
end
end Go.Proofs.YtgepmbjmaljgoaaGreatDoor.H.G
end
namespace Go.Proofs.YtgepmbjmaljgoaaGreatDoor.H.G
open Go.Vc
def edgG (l : List Pt) (v : List Nat) (p : Pt) (k : Nat) : Int := crs (gp l (gi v k)) (gp l (gi v ((k + 1) % v.length))) p
theorem closed_edge {l : List Pt} {v : List Nat} {p : Pt} (h : ∀ k, k < v.length → 0 ≤ edgG l v p k) {X Y : List Nat} {a b : Nat} (e : v ++ [gi v 0] = X ++ a :: b :: Y) : 0 ≤ crs (gp l a) (gp l b) p := by
 have hlen := congrArg List.length e
 simp only [List.length_append, List.length_cons, List.length_nil] at hlen
 have hk : X.length < v.length := by omega
 have h1 : gi (v ++ [gi v 0]) X.length = a := by rw [e]; exact gi_mid X a _
 have h2 : gi (v ++ [gi v 0]) (X.length + 1) = b := by
  rw [e]
  have := gi_mid (X ++ [a]) b Y
  simpa using this
 have := h X.length hk
 unfold edgG at this
 rw [gi_app, if_pos hk] at h1
 rw [gi_app] at h2
 by_cases hk1 : X.length + 1 < v.length
 ·rw [if_pos hk1] at h2
  rw [Nat.mod_eq_of_lt hk1, h1, h2] at this
  exact this
 ·have he : X.length + 1 = v.length := by omega
  rw [if_neg hk1, if_pos he] at h2
  rw [he, Nat.mod_self, h1, h2] at this
  exact this
theorem cone {α β : Int} {o a c p : Pt} (ha : 0 ≤ lf α β o a) (hc : 0 ≤ lf α β o c) (hs : 0 < crs o a c) (h1 : 0 ≤ crs o a p) (h2 : 0 ≤ crs c o p) : 0 ≤ lf α β o p := by
 have hid := id3 α β o a c p
 have s1 : crs o c p = - crs c o p := crs_flip _ _ _
 have s2 : crs o p a = - crs o a p := crs_swap _ _ _
 have m1 := np_mul (show crs o c p ≤ 0 by omega) ha
 have m2 := np_mul (show crs o p a ≤ 0 by omega) hc
 rcases Int.lt_or_le (lf α β o p) 0 with h | h
 ·have := mul_neg' hs h; omega
 ·exact h
theorem loc_two {l : List Pt} {S lo up : List Nat} {p0 pm : Nat} {p : Pt} (h : SOk l S) (T : Two l S lo up p0 pm) (hp0 : S.head? = some p0) {v : List Nat} (hv : v = lo.tail.reverse ++ up.tail.reverse) (h3 : 3 ≤ v.length) (sp : SmP p) (he : ∀ k, k < v.length → 0 ≤ edgG l v p k) : inH l p = true := by
 have H : HullOk l v := by rw [hv]; exact hull_two h T hp0
 have hfst : gi v 0 = p0 := by
  have := H.fst
  rw [← h.head, hp0] at this
  exact (Option.some.inj this).symm
 have sm := h.sm
 have up' : ∀ i, i < l.length → 0 ≤ lf 1000000 1 (gp l p0) (gp l i) := fun i hi => by
  obtain ⟨x, hx, e, _⟩ := h.cover i hi
  rw [← e]; exact T.p0m x hx
 have dn' : ∀ i, i < l.length → 0 ≤ lf (-1000000) (-1) (gp l pm) (gp l i) := fun i hi => by
  obtain ⟨x, hx, e, _⟩ := h.cover i hi
  have := T.pmm x hx
  rw [← e]; simp only [lf] at this ⊢; omega
 have hN : 1 < v.length := by omega
 have corner : ∀ (α β : Int) (j : Nat), j < v.length → (∀ i, i < l.length → 0 ≤ lf α β (gp l (gi v j)) (gp l i)) → 0 ≤ lf α β (gp l (gi v j)) p := by
  intro α β j hj hmin
  obtain ⟨i, hi, hij⟩ : ∃ i, i < v.length ∧ (i + 1) % v.length = j := by
   by_cases h0 : j = 0
   ·exact ⟨v.length - 1, by omega, by rw [show v.length - 1 + 1 = v.length by omega, Nat.mod_self, h0]⟩
   ·exact ⟨j - 1, by omega, by rw [show j - 1 + 1 = j by omega, Nat.mod_eq_of_lt hj]⟩
  have hm : (j + 1) % v.length < v.length := Nat.mod_lt _ zO
  have hne1 : i ≠ j := fun e => by
   subst e
   by_cases hk : i + 1 < v.length
   ·rw [Nat.mod_eq_of_lt hk] at hij; omega
   ·rw [show i + 1 = v.length by omega, Nat.mod_self] at hij; omega
  have hne2 : i ≠ (j + 1) % v.length := fun e => by
   by_cases hk : j + 1 < v.length
   ·rw [Nat.mod_eq_of_lt hk] at e
    by_cases hk2 : i + 1 < v.length
    ·rw [Nat.mod_eq_of_lt hk2] at hij; omega
    ·rw [show i + 1 = v.length by omega, Nat.mod_self] at hij; omega
   ·rw [show j + 1 = v.length by omega, Nat.mod_self] at e
    rw [e, Nat.mod_eq_of_lt (by omega)] at hij; omega
  have hs := H.strict sm hj hi hne1 hne2 hN
  have e1 := he j hj
  have e2 := he i hi
  unfold edgG at e1 e2
  rw [hij] at e2
  exact cone (hmin _ (H.lt _ hm)) (hmin _ (H.lt _ hi)) hs e1 e2
 have q0 : 0 ≤ lf 1000000 1 (gp l p0) p := by
  have := corner 1000000 1 0 (by omega) (by rw [hfst]; exact up')
  rwa [hfst] at this
 have qm : 0 ≤ lf 1000000 1 p (gp l pm) := by
  have hpm : pm ∈ v := H.memv.2 ((vs_mem l pm).2 ⟨h.lt pm T.memM, h.vtx_of T.memM T.supM⟩)
  obtain ⟨j, hj, ej⟩ := List.getElem_of_mem hpm
  rw [← gi_eq hj] at ej
  have := corner (-1000000) (-1) j hj (by rw [ej]; exact dn')
  rw [ej] at this
  simp only [lf] at this ⊢; omega
 obtain ⟨a, b, a', b', ha, hb, ha', hb', x1, x2, x3, x4, ⟨r1, r2, e⟩, ⟨q1, q2, e'⟩⟩ := T.inside p q0 qm
 obtain ⟨lo1, lot, el⟩ : ∃ x t, lo = x :: t := by
  cases hl : lo with
  |nil => have := T.len1; rw [hl] at this; simp at this
  |cons x t => exact ⟨x, t, rfl⟩
 obtain ⟨up1, upt, eu⟩ : ∃ x t, up = x :: t := by
  cases hl : up with
  |nil => have := T.len2; rw [hl] at this; simp at this
  |cons x t => exact ⟨x, t, rfl⟩
 have hup1 : up1 = p0 := by have := T.upH; rw [eu] at this; simpa using this
 have hlo1 : lo1 = pm := by have := T.loH; rw [el] at this; simpa using this
 have c1 : v ++ [gi v 0] = lo.tail.reverse ++ up.reverse := by
  rw [hv]
  rw [show gi (lo.tail.reverse ++ up.tail.reverse) 0 = p0 from by rw [← hv]; exact hfst, eu, hup1]
  simp
 have c2 : v ++ [gi v 0] = lo.reverse ++ up.reverse.tail := by
  rw [c1]
  obtain ⟨s, es⟩ : ∃ s, up.reverse = pm :: s := by
   have := T.upL
   rw [← List.head?_reverse] at this
   cases hr : up.reverse with
   |nil => rw [hr] at this; simp at this
   |cons x s => rw [hr] at this; simp at this; exact ⟨s, by rw [this]⟩
  rw [es, el, hlo1]; simp
 have d1 : 0 ≤ crs (gp l a) (gp l b) p := closed_edge he (X := r2.reverse) (Y := r1.reverse ++ up.reverse.tail) (by rw [c2, e]; simp)
 have d2 : 0 ≤ crs (gp l b') (gp l a') p := closed_edge he (X := lo.tail.reverse ++ q2.reverse) (Y := q1.reverse) (by rw [c1, e']; simp)
 have la := h.lt a (T.ilo.sub a ha)
 have lb := h.lt b (T.ilo.sub b hb)
 have la' := h.lt a' (T.iup.sub a' ha')
 have lb' := h.lt b' (T.iup.sub b' hb')
 by_cases z1 : lf 1000000 1 (gp l a) p = 0
 ·exact inH_eq la (k_inj (sm a) sp z1)
 by_cases z2 : lf 1000000 1 p (gp l b) = 0
 ·exact inH_eq lb (k_inj sp (sm b) z2).symm
 by_cases z3 : lf 1000000 1 (gp l a') p = 0
 ·exact inH_eq la' (k_inj (sm a') sp z3)
 by_cases z4 : lf 1000000 1 p (gp l b') = 0
 ·exact inH_eq lb' (k_inj sp (sm b') z4).symm
 exact four 1000000 1 la lb la' lb' zO zO zO zO d1 d2
end Go.Proofs.YtgepmbjmaljgoaaGreatDoor.H.G
namespace Go.Proofs.YtgepmbjmaljgoaaGreatDoor.H
open Go Go.Vc Go.RowKit
theorem line_str {L : List Pt} {a b : Pt} (hne : a ≠ b) (h : ∀ i, i < L.length → crs a b (gp L i) = 0) : strB L = true := by
 unfold strB
 simp only [List.all_eq_true, List.mem_range, decide_eq_true_eq]
 intro i hi j hj m hm
 have h1 := h i hi
 have h2 := h j zO
 have h3 := h m zO
 have hd : ¬ ((sub b a).x = 0 ∧ (sub b a).y = 0) := by
  rintro ⟨e1, e2⟩
  apply hne
  unfold sub at e1 e2
  dsimp only at e1 e2
  obtain ⟨ax, ay⟩ := a
  obtain ⟨bx, by'⟩ := b
  dsimp only at e1 e2
  rw [show ax = bx by omega, show ay = by' by omega]
 refine trn_par hd ?_ ?_
 ·unfold crs trn sub at h1 h2
  unfold trn sub
  dsimp only at *
  grind
 ·unfold crs trn sub at h1 h3
  unfold trn sub
  dsimp only at *
  grind
theorem crs_sw (a b p : Pt) : crs b a p = - crs a b p := by unfold crs trn sub; dsimp only; grind
theorem arr_len3 {L : List Pt} (h : chk L = 0) (h0 : 0 < L.length) (hs : strB L = false) : 3 ≤ (arr L).length := by
 have H := G.hull_ok h h0
 have hp := H.pos
 rcases (by omega : (arr L).length = 1 ∨ (arr L).length = 2 ∨ 3 ≤ (arr L).length) with h1 | h1 | h1
 ·exfalso
  have hS := G.s_ok h h0
  have hcl : (cpt L (ordN L)).length < 2 := by
   rcases Nat.lt_or_ge (cpt L (ordN L)).length 2 with h2 | h2
   ·exact h2
   ·exfalso
    obtain ⟨p0, pm, hp0, _, T⟩ := G.two_of hS.sm hS.inc h2
    have e := G.arr_two h2
    have := T.len1
    have := T.len2
    rw [e, List.length_append, List.length_reverse, List.length_tail, List.length_reverse, List.length_tail] at h1
    omega
  have hall : ∀ i, i < L.length → ∀ j, j < L.length → gp L i = gp L j := fun i hi j hj => by
   obtain ⟨x, hx, e1, _⟩ := hS.cover i hi
   obtain ⟨y, hy, e2, _⟩ := hS.cover j hj
   have hxy : x = y := by
    match hc : cpt L (ordN L), hcl, hx, hy with
    |[s], _, hx, hy => rw [List.mem_singleton.1 hx, List.mem_singleton.1 hy]
    |[], _, hx, _ => simp at hx
   rw [← e1, ← e2, hxy]
  have : strB L = true := by
   unfold strB
   simp only [List.all_eq_true, List.mem_range, decide_eq_true_eq]
   intro i hi j hj m hm
   rw [hall j (by omega) i hi, hall m (by omega) i hi]
   unfold crs trn sub; grind
  rw [hs] at this; cases this
 ·exfalso
  have e0 := H.edge zO 0 zO
  have e1 := H.edge zO 1 zO
  rw [h1] at e0 e1
  have hn : gi (arr L) 0 ≠ gi (arr L) 1 := H.ne zO zO zO
  have l0 := H.lt 0 zO
  have l1 := H.lt 1 zO
  have m0 : gi (arr L) 0 ∈ arr L := by rw [gi_eq (by omega)]; exact List.getElem_mem _
  have m1 : gi (arr L) 1 ∈ arr L := by rw [gi_eq (by omega)]; exact List.getElem_mem _
  have v0 := (H.mem _ l0).1 m0
  have v1 := (H.mem _ l1).1 m1
  have hne : gp L (gi (arr L) 0) ≠ gp L (gi (arr L) 1) := by
   intro e
   have key : ∀ a b : Nat, a < b → vtx L b = true → gp L a ≠ gp L b := by
    intro a b hab hv e
    unfold vtx at hv
    rw [Bool.and_eq_true, Bool.not_eq_true'] at hv
    have := List.any_eq_false.1 hv.1 a (List.mem_range.2 hab)
    simp [e] at this
   rcases Nat.lt_or_gt_of_ne hn with h2 | h2
   ·exact key _ _ h2 v1 e
   ·exact key _ _ h2 v0 e.symm
  have := line_str (L := L) hne (fun i hi => by
   have a1 := e0 i hi
   have a2 := e1 i hi
   simp only [Nat.zero_add, Nat.one_mod_eq_one.2 (by decide : (2 : Nat) ≠ 1), Nat.mod_self, Nat.reduceAdd] at a1 a2
   rw [crs_sw] at a2
   omega)
  rw [hs] at this; cases this
 ·exact h1
theorem loc_eq {L : List Pt} {p : Pt} (h : chk L = 0) (h0 : 0 < L.length) (hs : strB L = false) (hp : rightB p = true) : locN L p = if (List.range (arr L).length).any (fun k => decide (edg L (arr L) p k < 0)) then -1 else locTo L (arr L) p (arr L).length := by
 have h3 := arr_len3 h h0 hs
 have he : errL L p = 0 := by unfold errL; rw [if_neg (fun e => e h), if_neg (by rw [hp]; decide), if_neg (by omega)]
 unfold locN
 rw [if_pos he]
 unfold locV
 rw [if_neg (by omega)]
theorem loc_in {L : List Pt} {p : Pt} (h : chk L = 0) (h0 : 0 < L.length) (hs : strB L = false) (hp : rightB p = true) (hl : 0 ≤ locN L p) : inH L p = true := by
 have h3 := arr_len3 h h0 hs
 rw [loc_eq h h0 hs hp] at hl
 have hed : ∀ k, k < (arr L).length → 0 ≤ G.edgG L (arr L) p k := by
  split at hl
  ·omega
  ·rename_i hn
   intro k hk
   have : ¬ edg L (arr L) p k < 0 := fun hh => hn (List.any_eq_true.2 ⟨k, List.mem_range.2 hk, decide_eq_true hh⟩)
   show 0 ≤ edg L (arr L) p k
   omega
 have hS := G.s_ok h h0
 rcases Nat.lt_or_ge (cpt L (ordN L)).length 2 with h2 | h2
 ·exfalso
  have e : arr L = cpt L (ordN L) := by rw [arr, if_pos (by omega)]
  rw [e] at h3; omega
 ·obtain ⟨p0, pm, hp0, _, T⟩ := G.two_of hS.sm hS.inc h2
  have e := G.arr_two h2
  exact G.loc_two hS T hp0 e h3 (right_sm hp) hed
theorem loc_out {L : List Pt} {p : Pt} (h : chk L = 0) (h0 : 0 < L.length) (hs : strB L = false) (hp : rightB p = true) (hl : locN L p < 0) : ∃ a b : Pt, (∀ i, i < L.length → 0 ≤ crs a b (gp L i)) ∧ crs a b p < 0 := by
 have h3 := arr_len3 h h0 hs
 rw [loc_eq h h0 hs hp] at hl
 split at hl
 ·rename_i hy
  obtain ⟨k, hk, hh⟩ := List.any_eq_true.1 hy
  exact ⟨_, _, fun i hi => (G.hull_ok h h0).edge zO k (List.mem_range.1 hk) i hi, of_decide_eq_true hh⟩
 ·unfold locTo at hl
  split at hl <;> omega
theorem sq_nn (x : Rat) : 0 ≤ x * x := by
 by_cases h : 0 ≤ x
 ·exact Rat.mul_nonneg h h
 ·have := Rat.mul_nonneg (a := -x) (b := -x) (by grind) (by grind)
  grind
theorem crs_rat (a b c : Pt) : ((crs a b c : Int) : Rat) = ((b.x : Rat) - a.x) * ((c.y : Rat) - a.y) - ((b.y : Rat) - a.y) * ((c.x : Rat) - a.x) := by
 unfold crs trn sub
 simp only [Rat.intCast_sub, Rat.intCast_mul]
theorem inH_lin {L : List Pt} {p : Pt} (h : inH L p = true) {d0 d1 d2 : Rat} (hd : ∀ i, i < L.length → d0 + (d1 * ((gp L i).x : Rat) + d2 * ((gp L i).y : Rat)) ≤ 0) : d0 + (d1 * (p.x : Rat) + d2 * (p.y : Rat)) ≤ 0 := by
 obtain ⟨i, hi, h1 | ⟨j, hj, h1 | ⟨k, hk, h1⟩⟩⟩ := (G.inH_iff L p).1 h
 ·rw [← h1]; exact hd i hi
 ·obtain ⟨h2, h3⟩ := (G.btw_iff _ _ _).1 h1
  have da := hd i hi
  have db := hd j zO
  generalize gp L i = a at *
  generalize gp L j = b at *
  have c2 : ((crs a b p : Int) : Rat) = 0 := by rw [h2]; rfl
  rw [crs_rat] at c2
  have c3 : ((dot (sub a p) (sub b p) : Int) : Rat) ≤ 0 := by
   have := Rat.intCast_le_intCast.2 h3
   simpa using this
  have c4 : ((dot (sub a p) (sub b p) : Int) : Rat) = ((a.x : Rat) - p.x) * ((b.x : Rat) - p.x) + ((a.y : Rat) - p.y) * ((b.y : Rat) - p.y) := by
   unfold dot sub
   simp only [Rat.intCast_sub, Rat.intCast_mul, Rat.intCast_add]
  rw [c4] at c3
  generalize (a.x : Rat) = ax at *
  generalize (a.y : Rat) = ay at *
  generalize (b.x : Rat) = bx at *
  generalize (b.y : Rat) = by' at *
  generalize (p.x : Rat) = px at *
  generalize (p.y : Rat) = py at *
  by_cases hp : d0 + (d1 * px + d2 * py) ≤ 0
  ·exact hp
  ·exfalso
   have hu : d1 * (ax - px) + d2 * (ay - py) < 0 := by grind
   have hw : d1 * (bx - px) + d2 * (by' - py) < 0 := by grind
   have hs : 0 ≤ (ax - px) * (ax - px) + (ay - py) * (ay - py) := by
    have q1 : 0 ≤ (ax - px) * (ax - px) := sq_nn _
    have q2 : 0 ≤ (ay - py) * (ay - py) := sq_nn _
    grind
   have e : ((ax - px) * (ax - px) + (ay - py) * (ay - py)) * (d1 * (bx - px) + d2 * (by' - py)) = ((ax - px) * (bx - px) + (ay - py) * (by' - py)) * (d1 * (ax - px) + d2 * (ay - py)) := by grind
   have r1 : 0 ≤ ((ax - px) * (bx - px) + (ay - py) * (by' - py)) * (d1 * (ax - px) + d2 * (ay - py)) := by
    have := Rat.mul_nonneg (a := -((ax - px) * (bx - px) + (ay - py) * (by' - py))) (b := -(d1 * (ax - px) + d2 * (ay - py))) (by grind) (by grind)
    grind
   have r2 : 0 ≤ ((ax - px) * (ax - px) + (ay - py) * (ay - py)) * -(d1 * (bx - px) + d2 * (by' - py)) := Rat.mul_nonneg hs (by grind)
   have r3 : ((ax - px) * (ax - px) + (ay - py) * (ay - py)) * (d1 * (bx - px) + d2 * (by' - py)) = 0 := by grind
   rcases Rat.mul_eq_zero.1 r3 with r4 | r4
   ·have q1 : 0 ≤ (ax - px) * (ax - px) := sq_nn _
    have q2 : 0 ≤ (ay - py) * (ay - py) := sq_nn _
    have z1 : (ax - px) * (ax - px) = 0 := by grind
    have z2 : (ay - py) * (ay - py) = 0 := by grind
    have z3 : ax - px = 0 := by rcases Rat.mul_eq_zero.1 z1 with h | h <;> exact h
    have z4 : ay - py = 0 := by rcases Rat.mul_eq_zero.1 z2 with h | h <;> exact h
    rw [z3, z4] at hu
    grind
   ·grind
 ·obtain ⟨h2, h3⟩ := (G.wth_iff _ _ _ _).1 h1
  have da := hd i hi
  have db := hd j zO
  have dc := hd k zO
  generalize gp L i = a at *
  generalize gp L j = b at *
  generalize gp L k = c at *
  have e : ((crs a b c : Int) : Rat) * (d0 + (d1 * (p.x : Rat) + d2 * (p.y : Rat))) = ((crs b c p : Int) : Rat) * (d0 + (d1 * (a.x : Rat) + d2 * (a.y : Rat))) + ((crs c a p : Int) : Rat) * (d0 + (d1 * (b.x : Rat) + d2 * (b.y : Rat))) + ((crs a b p : Int) : Rat) * (d0 + (d1 * (c.x : Rat) + d2 * (c.y : Rat))) := by
   simp only [crs_rat]
   grind
  have hsum : ((crs a b c : Int) : Rat) = ((crs b c p : Int) : Rat) + ((crs c a p : Int) : Rat) + ((crs a b p : Int) : Rat) := by
   simp only [crs_rat]
   grind
  have hne : ((crs a b c : Int) : Rat) ≠ 0 := by exact_mod_cast h2
  have nn : ∀ {x : Int}, 0 ≤ x → (0 : Rat) ≤ (x : Rat) := fun hx => by simpa using Rat.intCast_le_intCast.2 hx
  have np : ∀ {x : Int}, x ≤ 0 → (x : Rat) ≤ (0 : Rat) := fun hx => by simpa using Rat.intCast_le_intCast.2 hx
  generalize d0 + (d1 * (p.x : Rat) + d2 * (p.y : Rat)) = D at *
  generalize d0 + (d1 * (a.x : Rat) + d2 * (a.y : Rat)) = Da at *
  generalize d0 + (d1 * (b.x : Rat) + d2 * (b.y : Rat)) = Db at *
  generalize d0 + (d1 * (c.x : Rat) + d2 * (c.y : Rat)) = Dc at *
  rcases h3 with ⟨g1, g2, g3⟩ | ⟨g1, g2, g3⟩
  ·have k1 := nn g1
   have k2 := nn g2
   have k3 := nn g3
   generalize ((crs a b c : Int) : Rat) = W at *
   generalize ((crs b c p : Int) : Rat) = w1 at *
   generalize ((crs c a p : Int) : Rat) = w2 at *
   generalize ((crs a b p : Int) : Rat) = w3 at *
   have m1 := Rat.mul_nonneg (a := w1) (b := -Da) k2 (by grind)
   have m2 := Rat.mul_nonneg (a := w2) (b := -Db) k3 (by grind)
   have m3 := Rat.mul_nonneg (a := w3) (b := -Dc) k1 (by grind)
   have hW : 0 < W := by grind
   by_cases hD : 0 < D
   ·have := Rat.mul_pos hW hD
    grind
   ·grind
  ·have k1 := np g1
   have k2 := np g2
   have k3 := np g3
   generalize ((crs a b c : Int) : Rat) = W at *
   generalize ((crs b c p : Int) : Rat) = w1 at *
   generalize ((crs c a p : Int) : Rat) = w2 at *
   generalize ((crs a b p : Int) : Rat) = w3 at *
   have m1 := Rat.mul_nonneg (a := -w1) (b := -Da) (by grind) (by grind)
   have m2 := Rat.mul_nonneg (a := -w2) (b := -Db) (by grind) (by grind)
   have m3 := Rat.mul_nonneg (a := -w3) (b := -Dc) (by grind) (by grind)
   have hW : 0 < -W := by grind
   by_cases hD : 0 < D
   ·have := Rat.mul_pos hW hD
    grind
   ·grind
end Go.Proofs.YtgepmbjmaljgoaaGreatDoor.H
namespace Go.Proofs.YtgepmbjmaljgoaaGreatDoor.H
open Go Go.Vc
open Go.Na (rtx LR LI)
theorem bear_inH {l : List Tr} {k : Nat} (hk : k < 3) (hR : RT l) (h6 : l.length ≤ 64) {p : Pt} (hp : rightB p = true) {P : Pl} (hP : P ∈ candP l k) : bearB l k p P = inH (plP l k P.s) p := by
 obtain ⟨hon, hpos⟩ := cand_on hk hP
 have f4 : (plP l k P.s).length = P.s.length := by unfold plP; rw [List.length_map]
 have hl := onL_len' l k P.A P.B P.C l.length
 have f1 := chk_plP hR k (s := P.s) (by rw [hon]; omega)
 have f3 := cand_str hk hP
 by_cases hb : 0 ≤ locN (plP l k P.s) p
 ·have h1 : bearB l k p P = true := decide_eq_true hb
  rw [h1, loc_in f1 (by omega) f3 hp hb]
 ·have h1 : bearB l k p P = false := decide_eq_false hb
  rw [h1]
  obtain ⟨a, b, e1, e2⟩ := loc_out f1 zO f3 hp zO
  have lin : ∀ q : Pt, ((crs a b q : Int) : Rat) = -((((b.x : Rat) - a.x) * a.y - ((b.y : Rat) - a.y) * a.x) + (((b.y : Rat) - a.y) * (q.x : Rat) + -((b.x : Rat) - a.x) * (q.y : Rat))) := fun q => by
   rw [crs_rat]; grind
  cases hi : inH (plP l k P.s) p with
  |false => rfl
  |true =>
   exfalso
   have h4 := inH_lin hi (d0 := (((b.x : Rat) - a.x) * a.y - ((b.y : Rat) - a.y) * a.x)) (d1 := ((b.y : Rat) - a.y)) (d2 := (-((b.x : Rat) - a.x))) (fun i hi => by
    have h2 : (0 : Rat) ≤ ((crs a b (gp (plP l k P.s) i) : Int) : Rat) := by simpa using Rat.intCast_le_intCast.2 (e1 i hi)
    rw [lin] at h2
    grind)
   have h3 : ((crs a b p : Int) : Rat) < 0 := by simpa using Rat.intCast_lt_intCast.2 e2
   rw [lin] at h3
   grind
end Go.Proofs.YtgepmbjmaljgoaaGreatDoor.H
namespace Go.Proofs.YtgepmbjmaljgoaaGreatDoor.H
open Go Go.Vc Go.RowKit
open Go.Na (rtx LR chkR_rtx chkR rsg)
set_option maxHeartbeats 4000000
abbrev plA (k : Int) (L : List Pl) : AV := .sl L.length 5 (pf5 k L)
theorem sle_nil {sz : Nat} {f : Nat → Nat → AV} : SLe (.av (.val (.slice none 0 0))) (.av (.sl 0 sz f)) := fun _ _ _ _ h => by
 exact ALe.nil _ _ _ h
theorem pAf_oneN (k : Int) (a b c : List UInt8) : ∀ i, i < 5 → (pAf k a b c (.val (.slice none 0 0)) i).one = true := fun i h => by
 rcases (by omega : i = 0 ∨ i = 1 ∨ i = 2 ∨ i = 3 ∨ i = 4) with rfl | rfl | rfl | rfl | rfl <;> rfl
theorem rests_c (l : List Tr) (hl : RT l) {k : Nat} (hk : k < 3) (hn : l.length ≤ 9) : CtrA Tryz.prog 48 [ts l, vi (k : Int)] (plA k (candP l k)) := by
 refine ctrA _ Tryz.func48 rfl rfl Tryz.ntmps48 rfl fun w Z => ?_
 have hsm : ∀ i, i < l.length → SmP (plc k (gt l i)) := fun i hi => by rw [← gp_plcs hi]; exact (chk_sm (chk_plcs hl (by omega) k)).1 i
 refine zU ?_
 refine wt ?_
 refine cq_loop (γ := Nat) (fun a => [(0, .av (ts l)), (1, .av (vi (k : Int))), (5, .av (plA k (accP l k (tA a)))), (6, .av (vi a))]) (fun _ => []) (fun a => a ≤ l.length ∧ AllLR (accP l k (tA a)) ∧ (accP l k (tA a)).length ≤ 81 * a) (fun a => l.length - a) 0
  ⟨Nat.zero_le _, fun p hp => absurd hp (by simp [accP, tA]), by simp [accP, tA]⟩ (ent ⟨.refl _, .refl _, sle_nil, .refl _, trivial⟩ trivial) ?_
 rintro a ⟨ha, hA, hLa⟩
 refine wt ?_
 (refine cq_cond rfl ?_ ?_ <;> intro hb <;> (try simp only [zA, zB, zG, zC, zD, zN] at hb) <;> (try (exfalso; omega)))
 ·have hal : a < l.length := by omega
  refine wt ?_
  refine cq_loop (γ := Nat) (fun b => [(0, .av (ts l)), (1, .av (vi (k : Int))), (5, .av (plA k (accP l k (tB a b)))), (6, .av (vi a)), (7, .av (vi b))]) (fun _ => []) (fun b => b ≤ a ∧ AllLR (accP l k (tB a b)) ∧ (accP l k (tB a b)).length ≤ 81 * a + 9 * b) (fun b => a - b) 0
   ⟨Nat.zero_le _, by rw [tB_zero]; exact hA, by rw [tB_zero]; omega⟩ (ent ⟨.refl _, .refl _, by rw [tB_zero]; exact .refl _, .refl _, .refl _, trivial⟩ trivial) ?_
  clear hA hLa
  rintro b ⟨hb1, hA, hLa⟩
  refine wt ?_
  (refine cq_cond rfl ?_ ?_ <;> intro hb <;> (try simp only [zA, zB, zG, zC, zD, zN] at hb) <;> (try (exfalso; omega)))
  ·have hbl : b < a := by omega
   refine wt ?_
   refine cq_loop (γ := Nat) (fun c => [(0, .av (ts l)), (1, .av (vi (k : Int))), (5, .av (plA k (accP l k (tC a b c)))), (6, .av (vi a)), (7, .av (vi b)), (8, .av (vi c))]) (fun _ => []) (fun c => c ≤ b ∧ AllLR (accP l k (tC a b c)) ∧ (accP l k (tC a b c)).length ≤ 81 * a + 9 * b + c) (fun c => b - c) 0
    ⟨Nat.zero_le _, by rw [tC_zero]; exact hA, by rw [tC_zero]; omega⟩ (ent ⟨.refl _, .refl _, by rw [tC_zero]; exact .refl _, .refl _, .refl _, .refl _, trivial⟩ trivial) ?_
   clear hA hLa
   rintro c ⟨hc1, hA, hLa⟩
   refine wt ?_
   (refine cq_cond rfl ?_ ?_ <;> intro hb <;> (try simp only [zA, zB, zG, zC, zD, zN] at hb) <;> (try (exfalso; omega)))
   ·have hcl : c < b := by omega
    have p1 := rplace_c (gt l a) hk
    have p2 := rplace_c (gt l b) hk
    have p3 := rplace_c (gt l c) hk
    have pl := rleft_c (plc k (gt l a)) (plc k (gt l b)) (plc k (gt l c)) (hsm a hal) (hsm b zO) (hsm c zO)
    refine wt ?_
    (refine cq_cond rfl ?_ ?_ <;> intro hb <;> (try simp only [zA, zB, zG, zC, zD, zN] at hb) <;> (try (exfalso; omega)))
    ·have e0 := accP_none (T := tC a b c) (thr_zer hk a b c hb)
     rw [← tC_succ] at e0
     refine wt ?_
     exact sq_round (c + 1) ⟨by omega, by rw [e0]; exact hA, by rw [e0]; omega⟩ (by omega) (ent ⟨.refl _, .refl _, by rw [e0]; exact .refl _, .refl _, .refl _, .int (by omega), trivial⟩ trivial)
    ·obtain ⟨A, B, C, lA, lB, lC, z1, z2, z3, hth⟩ := thr_say hl hk a b c hb
     have hT := through41_ok k hk _ _ _ (hl a) (hl b) (hl c) hb A B C z1 z2 z3
     cases hlow : lowB l k A B C l.length with
     |true =>
      have htn := touching_no l k hk A B C (.val (.slice none 0 0)) hl zO lA lB lC hlow
      have e1 : thrT l k (c, b, a) = none := by rw [hth]; unfold mkP; rw [if_pos hlow]
      have e0 := accP_none (T := tC a b c) e1
      rw [← tC_succ] at e0
      refine wt ?_
      refine dq_s (g_store_aggv rfl rfl (pAf_oneN _ _ _ _) rfl rfl) ?_
      refine wt ?_
      refine sq_g (g_load_own_aggv (f := pAf k (rtx A) (rtx B) (rtx C) (.val (.slice none 0 0))) rfl rfl rfl) rfl ?_
      refine wt ?_
      exact sq_round (c + 1) ⟨by omega, by rw [e0]; exact hA, by rw [e0]; omega⟩ (by omega) (ent ⟨.refl _, .refl _, by rw [e0]; exact .refl _, .refl _, .refl _, .int (by omega), trivial⟩ trivial)
     |false =>
      have hty := touching_ok l k hk A B C (.val (.slice none 0 0)) hl zO lA lB lC hlow
      have e1 : thrT l k (c, b, a) = some ⟨A, B, C, onL l k A B C l.length⟩ := by rw [hth]; unfold mkP; rw [if_neg (by rw [hlow]; decide)]
      have e0 := accP_some (T := tC a b c) e1
      rw [← tC_succ] at e0
      have hpt := put41_c k (accP l k (tC a b c)) ⟨A, B, C, onL l k A B C l.length⟩ zO (hA.at) ⟨lA.mono zE, lB.mono zE, lC.mono zE⟩
      have hA2 := hA.put (p := ⟨A, B, C, onL l k A B C l.length⟩) ⟨lA.mono zE, lB.mono zE, lC.mono zE⟩
      have hL2 := putP_len (⟨A, B, C, onL l k A B C l.length⟩ : Pl) (accP l k (tC a b c))
      rw [← e0] at hpt hA2 hL2
      refine wt ?_
      refine dq_s (g_store_aggv rfl rfl (pAf_oneN _ _ _ _) rfl rfl) ?_
      refine wt ?_
      refine sq_g (g_load_own_aggv (f := pAf k (rtx A) (rtx B) (rtx C) (.val (.slice none 0 0))) rfl rfl rfl) rfl ?_
      refine wt ?_
      refine sq_v (f_call_rowN 22 hty rfl rfl) rfl ?_
      refine wt ?_
      refine lsq_ent (ent_freeze_in 10 22 4 rfl rfl rfl rfl) ?_
      refine sq_g (g_load_own_aggv (f := pAf k (rtx A) (rtx B) (rtx C) (idx (onL l k A B C l.length))) rfl rfl rfl) rfl ?_
      refine wt ?_
      exact sq_round (c + 1) ⟨by omega, hA2, by omega⟩ zO (ent zS trivial)
   ·have hce : c = b := by omega
    subst hce
    refine wt ?_
    exact sq_round (c + 1) ⟨by omega, by rw [tB_succ]; exact hA, by rw [tB_succ]; omega⟩ (by omega) (ent ⟨.refl _, .refl _, by rw [tB_succ]; exact .refl _, .refl _, .int (by omega), trivial⟩ trivial)
  ·have hbe : b = a := by omega
   subst hbe
   refine wt ?_
   exact sq_round (b + 1) ⟨by omega, by rw [tA_succ]; exact hA, by rw [tA_succ]; omega⟩ (by omega) (ent ⟨.refl _, .refl _, by rw [tA_succ]; exact .refl _, .int (by omega), trivial⟩ trivial)
 ·have hae : a = l.length := by omega
  subst hae
  refine wt ?_
  exact zV
end Go.Proofs.YtgepmbjmaljgoaaGreatDoor.H
section
end
namespace Go.Proofs.YtgepmbjmaljgoaaGreatDoor.H
open Go Go.Vc Go.RowKit
open Go.Na (rtx LR chkR_rtx chkR rsg)
set_option maxHeartbeats 4000000
def toI (s : List Nat) : List Int := s.map fun (n : Nat) => (n : Int)
theorem gz_toI (s : List Nat) (i : Nat) : gz (toI s) i = ((gi s i : Nat) : Int) := by
 unfold gz toI gi
 by_cases h : i < s.length <;> simp [List.getD, h]
theorem idx_toI (s : List Nat) : idx s = ixs (toI s) := by
 unfold idx
 show AV.sl _ _ _ = AV.sl _ _ _
 have h1 : (toI s).length = s.length := by simp [toI]
 rw [h1]
 congr 1
 funext i j
 show _ = vi (gz (toI s) i)
 rw [gz_toI]
end Go.Proofs.YtgepmbjmaljgoaaGreatDoor.H
