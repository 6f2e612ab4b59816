/- A part of the proof. -/
import Derived.Test.YtgblokifbgeegaaGreatDoorCaz
set_option linter.unusedVariables false
set_option linter.unusedSimpArgs false
namespace Go.Proofs.YtgblokifbgeegaaGreatDoor.H.S
open Go Go.Vc Go.RowKit Go.Na Go.Lib
set_option maxHeartbeats 8000000
theorem X0L (a b : Int) (h1 : Bn 1000000000000 a) (h2 : Bn 1000000000000 b) : CtrA Tryz.prog 180 [vi a, vi b] (vi ((Nat.gcd a.natAbs b.natAbs : Nat) : Int)) := by
 refine j0l _ Tryz.func180 rfl rfl Tryz.ntmps180 rfl fun w Z => ?_
 obtain ⟨_, _⟩ := h1
 obtain ⟨_, _⟩ := h2
 refine xU ?_
 refine wt ?_
 refine j0f (γ := Nat × Nat) (fun g => [(0, .av (vi g.1)), (1, .av (vi g.2))]) (fun _ => []) (fun g => Nat.gcd g.1 g.2 = Nat.gcd a.natAbs b.natAbs ∧ g.1 ≤ 1000000000000 ∧ g.2 ≤ 1000000000000) (fun g => g.2) (a.natAbs, b.natAbs) ⟨rfl, by dsimp only; omega, by dsimp only; omega⟩ (ent ⟨.int (by dsimp only; split <;> omega), .int (by dsimp only; split <;> omega), trivial⟩ trivial) ?_
 rintro ⟨g, m⟩ ⟨hg, hg1, hm1⟩
 dsimp only at hg hg1 hm1 ⊢
 refine wt ?_
 (refine j0a rfl ?_ ?_ <;> intro hb <;> (try simp only [xA, xB, xG, xC, xD, xN] at hb) <;> (try exact xQ))
 ·have hlt : g % m < m := Nat.mod_lt _ xO
  refine wt ?_
  exact j0b (g := (g, m)) (m, g % m) ⟨by dsimp only; rw [← hg, Nat.gcd_comm g m, Nat.gcd_rec m g, Nat.gcd_comm], by dsimp only; omega, by dsimp only; omega⟩ hlt (ent ⟨.refl _, .int (by dsimp only; omega), trivial⟩ trivial)
 ·have hm : m = 0 := by omega
  subst hm
  rw [Nat.gcd_zero_right] at hg
  subst hg
  refine wt ?_
  exact xV
theorem V1A (a : Tr) (h : BT 1000000000000 a) (h0 : a ≠ tz) : CtrA Tryz.prog 138 [tp a] (tp (tpr a)) := by
 refine j0l _ Tryz.func138 rfl rfl Tryz.ntmps138 rfl fun w Z => ?_
 have hg : tg a ≠ 0 := by
  intro e
  apply h0
  obtain ⟨d1, d2, d3⟩ := X0Y a
  rw [e] at d1 d2 d3
  have := Nat.eq_zero_of_zero_dvd d1
  have := Nat.eq_zero_of_zero_dvd d2
  have := Nat.eq_zero_of_zero_dvd d3
  exact v0i (by show a.x = 0; omega) (by show a.y = 0; omega) (by show a.z = 0; omega)
 have e1 := X0L a.x a.y h.x h.y
 have hle : (Nat.gcd a.x.natAbs a.y.natAbs : Int) ≤ 1000000000000 := by
  have := k0U h 2 xO
  have e : tgs a 2 = Nat.gcd (Nat.gcd 0 a.x.natAbs) a.y.natAbs := rfl
  rw [Nat.gcd_zero_left] at e
  rw [← e]; exact this
 have e2 := X0L ((Nat.gcd a.x.natAbs a.y.natAbs : Nat) : Int) a.z ⟨by omega, hle⟩ h.z
 have hG : Nat.gcd ((Nat.gcd a.x.natAbs a.y.natAbs : Nat) : Int).natAbs a.z.natAbs = tg a := by
  unfold tg; rw [Int.natAbs_natCast, Nat.gcd_zero_left]
 rw [hG] at e2
 have ht : tpr a = ⟨a.x.tdiv (tg a), a.y.tdiv (tg a), a.z.tdiv (tg a)⟩ := by unfold tpr; rw [if_neg hg]
 have hgl : (tg a : Int) ≤ 1000000000000 := k0U h 3 xO
 rw [ht]
 generalize tg a = g at hg e2 hgl ⊢
 obtain ⟨⟨_, _⟩, ⟨_, _⟩, ⟨_, _⟩⟩ := h
 have hgp : (0 : Int) < g := by omega
 refine xU ?_
 have hq1 := e1
 have hq2 := e2
 refine wt ?_
 exact j0e rfl (.agg (us := [_, _, _]) rfl rfl rfl rfl) rfl
theorem Y1J (v : Tr) (h : BT 1000000000000 v) (h0 : v ≠ tz) : CtrA Tryz.prog 100 [tp v] (tp (q0E v)) := by
 have hp := V1A v h h0
 have hb := h.pr
 have hc : q0E v = if ngT (tpr v) then j0P (tpr v) (-1) else tpr v := rfl
 have hne : tpr v ≠ tz := Q0B h0
 rw [hc]
 generalize tpr v = d at hp hb hne ⊢
 obtain ⟨⟨x1, x2⟩, ⟨y1, y2⟩, ⟨z1, z2⟩⟩ := hb
 refine j0l _ Tryz.func100 rfl rfl Tryz.ntmps100 rfl fun w Z => ?_
 refine xU ?_
 refine wt ?_
 refine j0f (γ := Nat) (fun k => [(2, .own 10 0), (3, .own 11 0), (4, .av (vi k))]) (fun _ => [(10, .cells [.av (vi 0), .av (vi 0), .av (vi 0)]), (11, .cells [.av (vi d.x), .av (vi d.y), .av (vi d.z)])]) (fun k => k ≤ 3 ∧ ∀ j, j < k → co d j = 0) (fun k => 3 - k) 0 ⟨Nat.zero_le _, fun j hj => absurd hj (Nat.not_lt_zero j)⟩ (ent xS xT) ?_
 rintro k ⟨hk, hz⟩
 refine wt ?_
 (refine j0a rfl ?_ ?_ <;> intro hb <;> (try simp only [xA, xB, xG, xC, xD, xN] at hb) <;> (try exact xQ))
 ·have g1 : ∀ j, j < k → co d j = 0 := hz
  rcases (by omega : k = 0 ∨ k = 1 ∨ k = 2) with rfl | rfl | rfl
  ·refine wt ?_
   (refine j0a rfl ?_ ?_ <;> intro hb <;> (try simp only [xA, xB, xG, xC, xD, xN] at hb) <;> (try exact xQ))
   ·rw [if_neg (show ¬ ngT d by unfold ngT; omega)]
    refine wt ?_
    exact j0e rfl (.agg (us := v3 d) rfl rfl rfl rfl) rfl
   ·have hb1 := hb
    refine wt ?_
    (refine j0a rfl ?_ ?_ <;> intro hb <;> (try simp only [xA, xB, xG, xC, xD, xN] at hb) <;> (try exact xQ))
    ·rw [if_pos (show ngT d by unfold ngT; omega), show j0P d (-1) = ⟨-d.x, -d.y, -d.z⟩ by simp [j0P]]
     refine wt ?_
     exact j0e rfl (.agg (us := v3 ⟨-d.x, -d.y, -d.z⟩) rfl rfl rfl rfl) rfl
    ·have e0 : d.x = 0 := by omega
     refine wt ?_
     exact j0b 1 ⟨by omega, fun j hj => by obtain rfl : j = 0 := by omega
                                           exact e0⟩ xO (ent xS xT)
  ·have e0 : d.x = 0 := g1 0 xO
   refine wt ?_
   (refine j0a rfl ?_ ?_ <;> intro hb <;> (try simp only [xA, xB, xG, xC, xD, xN] at hb) <;> (try exact xQ))
   ·rw [if_neg (show ¬ ngT d by unfold ngT; omega)]
    refine wt ?_
    exact j0e rfl (.agg (us := v3 d) rfl rfl rfl rfl) rfl
   ·have hb1 := hb
    refine wt ?_
    (refine j0a rfl ?_ ?_ <;> intro hb <;> (try simp only [xA, xB, xG, xC, xD, xN] at hb) <;> (try exact xQ))
    ·rw [if_pos (show ngT d by unfold ngT; omega), show j0P d (-1) = ⟨-d.x, -d.y, -d.z⟩ by simp [j0P]]
     refine wt ?_
     exact j0e rfl (.agg (us := v3 ⟨-d.x, -d.y, -d.z⟩) rfl rfl rfl rfl) rfl
    ·have e1 : d.y = 0 := by omega
     refine wt ?_
     exact j0b 2 ⟨by omega, fun j hj => by
      rcases (by omega : j = 0 ∨ j = 1) with rfl | rfl
      ·exact e0
      ·exact e1⟩ xO (ent xS xT)
  ·have e0 : d.x = 0 := g1 0 xO
   have e1 : d.y = 0 := g1 1 xO
   have e2 : d.z ≠ 0 := fun e2 => hne (by cases d; simp only [tz, Tr.mk.injEq]; exact ⟨e0, e1, e2⟩)
   refine wt ?_
   (refine j0a rfl ?_ ?_ <;> intro hb <;> (try simp only [xA, xB, xG, xC, xD, xN] at hb) <;> (try exact xQ))
   ·rw [if_neg (show ¬ ngT d by unfold ngT; omega)]
    refine wt ?_
    exact j0e rfl (.agg (us := v3 d) rfl rfl rfl rfl) rfl
   ·have hb1 := hb
    refine wt ?_
    (refine j0a rfl ?_ ?_ <;> intro hb <;> (try simp only [xA, xB, xG, xC, xD, xN] at hb) <;> (try exact xQ))
    rw [if_pos (show ngT d by unfold ngT; omega), show j0P d (-1) = ⟨-d.x, -d.y, -d.z⟩ by simp [j0P]]
    refine wt ?_
    exact j0e rfl (.agg (us := v3 ⟨-d.x, -d.y, -d.z⟩) rfl rfl rfl rfl) rfl
 ·obtain rfl : k = 3 := by omega
  exact absurd (show d = tz by cases d; simp only [tz, Tr.mk.injEq]; exact ⟨hz 0 (by omega), hz 1 (by omega), hz 2 (by omega)⟩) hne
theorem v1N (a b : Tr) : CtrA Tryz.prog 101 [tp a, tp b] (vb (decide (x0a a b))) := by
 refine j0l _ Tryz.func101 rfl rfl Tryz.ntmps101 rfl fun w Z => ?_
 refine xU ?_
 refine wt ?_
 refine j0f (γ := Nat) (fun k => [(2, .av (bt a)), (3, .av (bt b)), (5, .av (vi k))]) (fun _ => []) (fun k => k ≤ 3 ∧ ∀ j, j < k → co a j = co b j) (fun k => 3 - k) 0 ⟨Nat.zero_le _, fun j hj => absurd hj (Nat.not_lt_zero j)⟩ (ent xS trivial) ?_
 rintro k ⟨hk, hz⟩
 refine wt ?_
 (refine j0a rfl ?_ ?_ <;> intro hb <;> (try simp only [xA, xB, xG, xC, xD, xN] at hb) <;> (try exact xQ))
 ·have g1 : ∀ j, j < k → co a j = co b j := hz
  rcases (by omega : k = 0 ∨ k = 1 ∨ k = 2) with rfl | rfl | rfl
  ·refine wt ?_
   (refine j0a rfl ?_ ?_ <;> intro hb <;> (try simp only [xA, xB, xG, xC, xD, xN] at hb) <;> (try exact xQ))
   ·refine wt ?_
    exact j0e rfl (.tmp rfl) (congrArg vb (by rw [Bool.eq_iff_iff, decide_eq_true_eq, decide_eq_true_eq]; unfold x0a; omega))
   ·have e0 : a.x = b.x := by omega
    refine wt ?_
    exact j0b 1 ⟨by omega, fun j hj => by obtain rfl : j = 0 := by omega
                                          exact e0⟩ xO (ent xS trivial)
  ·have e0 : a.x = b.x := g1 0 xO
   refine wt ?_
   (refine j0a rfl ?_ ?_ <;> intro hb <;> (try simp only [xA, xB, xG, xC, xD, xN] at hb) <;> (try exact xQ))
   ·refine wt ?_
    exact j0e rfl (.tmp rfl) (congrArg vb (by rw [Bool.eq_iff_iff, decide_eq_true_eq, decide_eq_true_eq]; unfold x0a; omega))
   ·have e1 : a.y = b.y := by omega
    refine wt ?_
    exact j0b 2 ⟨by omega, fun j hj => by
      rcases (by omega : j = 0 ∨ j = 1) with rfl | rfl
      ·exact e0
      ·exact e1⟩ xO (ent xS trivial)
  ·have e0 : a.x = b.x := g1 0 xO
   have e1 : a.y = b.y := g1 1 xO
   refine wt ?_
   (refine j0a rfl ?_ ?_ <;> intro hb <;> (try simp only [xA, xB, xG, xC, xD, xN] at hb) <;> (try exact xQ))
   ·refine wt ?_
    exact j0e rfl (.tmp rfl) (congrArg vb (by rw [Bool.eq_iff_iff, decide_eq_true_eq, decide_eq_true_eq]; unfold x0a; omega))
   ·have e2 : a.z = b.z := by omega
    refine wt ?_
    exact j0b 3 ⟨by omega, fun j hj => by
      rcases (by omega : j = 0 ∨ j = 1 ∨ j = 2) with rfl | rfl | rfl
      ·exact e0
      ·exact e1
      ·exact e2⟩ xO (ent xS trivial)
 ·obtain rfl : k = 3 := by omega
  have e0 : a.x = b.x := hz 0 xO
  have e1 : a.y = b.y := hz 1 xO
  have e2 : a.z = b.z := hz 2 xO
  refine wt ?_
  exact j0e rfl (.tmp rfl) (congrArg vb (by symm; rw [decide_eq_false_iff_not]; unfold x0a; omega))
theorem V1x (l : List Tr) (hl : RT l) (hn : l.length ≤ 7) : CtrA Tryz.prog 98 [ts l] (ts (v0W l)) := by
 refine j0l _ Tryz.func98 rfl rfl Tryz.ntmps98 rfl fun w Z => ?_
 have hgl := fun n hn => q1A l n hn
 refine xU ?_
 refine wt ?_
 refine j0f (γ := Nat) (fun i => [(0, .av (ts l)), (3, .osl 70), (4, .av (vi i))]) (fun i => [(70, .row 53 3 (gIl l i).length (tf (gIl l i)))]) (fun i => i ≤ l.length) (fun i => l.length - i) 0 (Nat.zero_le _) (Ent.trans (v0B (dd := 3) 70 53 3 (tf []) rfl rfl) (ent xS xT)) ?_
 intro i hi
 refine wt ?_
 (refine j0a rfl ?_ ?_ <;> intro hb <;> (try simp only [xA, xB, xG, xC, xD, xN] at hb) <;> (try exact xQ))
 ·have hil : i < l.length := by omega
  have hG := hgl i xO
  have e0 := q1B l i
  generalize gIl l i = X at hG e0 ⊢
  refine wt ?_
  refine j0f (γ := Nat) (fun k => [(0, .av (ts l)), (3, .osl 70), (4, .av (vi i)), (5, .av (vi k))]) (fun k => [(70, .row 53 3 (X ++ gK l i k).length (tf (X ++ gK l i k)))]) (fun k => k ≤ i) (fun k => i - k) 0 (Nat.zero_le _) (ent xS ⟨⟨_, rfl, by rw [show gK l i 0 = [] from rfl, List.append_nil]; exact .refl _⟩, trivial⟩) ?_
  intro k hk
  refine wt ?_
  (refine j0a rfl ?_ ?_ <;> intro hb <;> (try simp only [xA, xB, xG, xC, xD, xN] at hb) <;> (try exact xQ))
  ·have hkl : k < i := by omega
   have hm := W0o (gt l i) (gt l k) ((hl i).le xE) ((hl k).le xE)
   have e1 : X ++ gK l i (k + 1) = (X ++ gK l i k) ++ [j0D (gt l i) (gt l k)] := by rw [Q1x, List.append_assoc]
   have hYl : (X ++ gK l i k).length ≤ 1000 := by rw [List.length_append, z1v]; omega
   generalize X ++ gK l i k = Y at e1 hYl ⊢
   have hml : Y.length + 1 ≤ maxLen := by simp only [maxLen]; omega
   refine wt ?_
   repeat' (first
     |(refine v0D (q0b (is := [0]) (xs := [_]) (vs := [_]) (us := [_, _, _]) (j2y _ _ _) rfl rfl rfl (w1F _)) rfl ?_; refine wt ?_))
   refine q1i tm (by kernel_rfl) ?_
   refine wt ?_
   repeat' (first
     |(refine j0u (v0u (h := tf [j0D (gt l i) (gt l k)]) (m := 1) rfl rfl rfl (fun i _ j _ => w1E _ i j) xO hml xO) rfl ?_; refine wt ?_))
   exact j0b (k + 1) (by omega) (by omega) (ent xS ⟨⟨_, rfl, .row (by rw [e1]; simp) (fun i hi j hj => by rw [e1]; exact w1D _ _ i hi j hj)⟩, trivial⟩)
  ·obtain rfl : k = i := by omega
   rw [← e0]
   refine wt ?_
   exact j0b (k + 1) xO xO (ent xS xT)
 ·obtain rfl : i = l.length := by omega
  rw [z1u]
  refine wt ?_
  exact y0Y (j0S 70 rfl) (j0e rfl (.tmp rfl) rfl)
theorem x1D {g : List Tr} (hg : ∀ v ∈ g, BT 200000 v) : ∀ d ∈ j0O g, GD d := fun d hd => ⟨w0v d hd, y0v hg d hd⟩
theorem k1F {g : List Tr} {i : Nat} (hi : i ≤ g.length) : cI g i <+: j0O g := by
 have h := w0W (f := cI g) (fun n => w0K g n) hi
 rw [Q0R] at h
 exact h
theorem k1G {g : List Tr} {i k : Nat} (hi : i < g.length) (hk : k ≤ i) : cI g i ++ cK g i k <+: j0O g := by
 have h1 : cK g i k <+: cK g i i := w0W (f := cK g i) (fun k => x0W g i k) hk
 have h2 := k1F (g := g) (i := i + 1) xO
 rw [w0K] at h2
 exact ((List.prefix_append_right_inj _).2 h1).trans h2
theorem Y1C {g L : List Tr} {l : List Tr} (hg : ∀ v ∈ g, BT 200000 v) (h : L <+: j0O g) : ∀ x, q0x l L = some x → GD x := fun x hx =>
 Y0l L none GD (fun _ h => by cases h) (fun y hy => x1D hg y (h.subset hy)) x hx
theorem k1L (l : List Tr) (hl : RT l) (h0 : 0 < l.length) (d : Tr) (hd : GD d) : CtrA Tryz.prog 53 [zA d (loD l d) (hiD l d)] (vS (rtx (Wq l d))) := by
 obtain ⟨⟨a1, a2⟩, ⟨b1, b2⟩, _⟩ := K0c hl h0 hd.bt
 exact w1d d (loD l d) (hiD l d) hd.I ⟨by omega, by omega⟩ ⟨by omega, by omega⟩ hd.ne
theorem y1u (l : List Tr) (hl : RT l) (h7 : l.length ≤ 7) (hw : Q0H l) : CtrA Tryz.prog 57 [ts l] (j0m [vS (rtx (Wq l (lm l))), zA (lm l) (loD l (lm l)) (hiD l (lm l))]) := by
 have hl0 : 0 < l.length := by obtain ⟨a, _, _, ha, _⟩ := hw; omega
 have hgp := V1x l hl h7
 have hgl : (v0W l).length ≤ 700 := by have := q1A l l.length (by omega); rw [z1u] at this; omega
 have hgB := V0i hl
 have hfin := v1f hw
 generalize v0W l = g at hgp hgl hgB hfin
 have hgat : ∀ i, i < g.length → BT 200000 (gt g i) := fun i hi => hgB _ (by unfold gt; simp [List.getD, hi])
 refine j0l _ Tryz.func57 rfl rfl Tryz.ntmps57 rfl fun w Z => ?_
 refine xU ?_
 refine wt ?_
 refine j0f (γ := Nat) (fun i => [(0, .av (ts l)), (3, .own 10 0), (4, .av (ts g)), (5, .av (vS (wO l (q0x l (cI g i))))), (6, .own 11 0), (7, .av (vi i))]) (fun i => [(10, .cells [.av (vi 0), .av (vi 0), .av (vi 0), .av (vi 0), .av (vi 0)]), (11, x1f l (q0x l (cI g i)))]) (fun i => i ≤ g.length) (fun i => g.length - i) 0 (Nat.zero_le _) (ent xS xT) ?_
 intro i hi
 refine wt ?_
 (refine j0a rfl ?_ ?_ <;> intro hb <;> (try simp only [xA, xB, xG, xC, xD, xN] at hb) <;> (try exact xQ))
 ·have hil : i < g.length := by omega
  have e0 := w0K g i
  refine wt ?_
  refine j0f (γ := Nat) (fun k => [(0, .av (ts l)), (3, .own 10 0), (4, .av (ts g)), (5, .av (vS (wO l (q0x l (cI g i ++ cK g i k))))), (6, .own 11 0), (7, .av (vi i)), (8, .av (vi k))]) (fun k => [(10, .cells [.av (vi 0), .av (vi 0), .av (vi 0), .av (vi 0), .av (vi 0)]), (11, x1f l (q0x l (cI g i ++ cK g i k)))]) (fun k => k ≤ i) (fun k => i - k) 0 (Nat.zero_le _) (ent ⟨.refl _, .refl _, .refl _, by rw [k1i, List.append_nil]; exact .refl _, .refl _, .refl _, .refl _, trivial⟩ ⟨⟨_, rfl, .refl _⟩, ⟨_, rfl, by rw [k1i, List.append_nil]; exact .refl _⟩, trivial⟩) ?_
  intro k hk
  refine wt ?_
  (refine j0a rfl ?_ ?_ <;> intro hb <;> (try simp only [xA, xB, xG, xC, xD, xN] at hb) <;> (try exact xQ))
  ·have hkl : k < i := by omega
   have hv := X0O (gt g i) (gt g k) (hgat i hil) (hgat k xO) xE
   have hnB := ((hgat i hil).cr (hgat k xO)).le (show (2 * (200000 * 200000) : Int) ≤ 80000000000 by decide)
   have hcs := x0W g i k
   have hGD := Y1C (l := l) hgB (k1G hil (by omega : k ≤ i))
   generalize tcr (gt g i) (gt g k) = n at hv hnB hcs
   by_cases hn : n = tz
   ·rw [if_pos hn, List.append_nil] at hcs
    refine wt ?_
    rw [z0x, decide_eq_true hn]
    refine wt ?_
    exact j0b (k + 1) (by omega) (by omega) (ent ⟨.refl _, .refl _, .refl _, by rw [hcs]; exact .refl _, .refl _, .refl _, .int (by omega), trivial⟩ ⟨⟨_, rfl, .refl _⟩, ⟨_, rfl, by rw [hcs]; exact .refl _⟩, trivial⟩)
   ·rw [if_neg hn] at hcs
    have hd := Y1J n (hnB.le xE) hn
    have hdG : GD (q0E n) := ⟨q0z hn, J0z hnB⟩
    have hst : q0x l (cI g i ++ cK g i (k + 1)) = x0V l (q0x l (cI g i ++ cK g i k)) (q0E n) := by rw [hcs, ← List.append_assoc, Z0r]
    generalize q0E n = d at hd hdG hst
    have hz := w1f l d hl hl0 xO hdG.bt xE
    have hws := k1L l hl hl0 d hdG
    have htz : ([n.x, n.y, n.z] == [0, 0, 0]) = false := by rw [z0x, decide_eq_false hn]
    have hround : ∀ m', q0x l (cI g i ++ cK g i (k + 1)) = m' → m' = q0x l (cI g i ++ cK g i (k + 1)) := fun _ h => h.symm
    generalize q0x l (cI g i ++ cK g i k) = m at hst hGD ⊢
    cases m with
    |none =>
     have hst' : q0x l (cI g i ++ cK g i (k + 1)) = some d := hst
     refine wt ?_
     rw [htz]
     refine wt ?_
     exact j0b (k + 1) (by omega) (by omega) (ent ⟨.refl _, .refl _, .refl _, by rw [hst']; exact .refl _, .refl _, .refl _, .int (by omega), trivial⟩ ⟨⟨_, rfl, .refl _⟩, ⟨_, rfl, by rw [hst']; exact .refl _⟩, trivial⟩)
    |some x =>
     have hx := hGD x rfl
     have hc := V0t (Wq l d) (Wq l x) ((K0e hl hl0 hdG).mono xE) ((K0e hl hl0 hx).mono xE)
     have hne : (wO l (some x) == []) = false := by rw [beq_eq_false_iff_ne]; exact J1a _
     have hb0 := z1c (l := l) hdG.ne hx.ne
     have e1 := k0D (q := Wq l d) (r := Wq l x)
     have e2 := v1X (q := Wq l d) (r := Wq l x)
     have hbf := v1N d x
     have hS : x0V l (some x) d = if bef l d x then some d else some x := rfl
     rcases Q0s (Wq l d - Wq l x) with er | er | er
     ·rw [er] at hc e1
      have hst' : q0x l (cI g i ++ cK g i (k + 1)) = some d := by rw [hst, hS, if_pos (hb0.2 (.inl (e1.1 (by decide))))]
      refine wt ?_
      rw [htz]
      refine wt ?_
      rw [hne]
      refine wt ?_
      exact j0b (k + 1) (by omega) (by omega) (ent ⟨.refl _, .refl _, .refl _, by rw [hst']; exact .refl _, .refl _, .refl _, .int (by omega), trivial⟩ ⟨⟨_, rfl, .refl _⟩, ⟨_, rfl, by rw [hst']; exact .refl _⟩, trivial⟩)
     ·rw [er] at hc e1 e2
      have eq := e2.1 rfl
      have h5 : (rtx (Wq l d) == wO l (some x)) = true := by rw [beq_iff_eq]; show rtx (Wq l d) = rtx (Wq l x); rw [eq]
      by_cases hle : x0a d x
      ·rw [decide_eq_true hle] at hbf
       have hst' : q0x l (cI g i ++ cK g i (k + 1)) = some d := by rw [hst, hS, if_pos (hb0.2 (.inr ⟨eq, hle⟩))]
       refine wt ?_
       rw [htz]
       refine wt ?_
       rw [hne]
       refine wt ?_
       rw [h5]
       refine wt ?_
       exact j0b (k + 1) (by omega) (by omega) (ent ⟨.refl _, .refl _, .refl _, by rw [hst']; exact .refl _, .refl _, .refl _, .int (by omega), trivial⟩ ⟨⟨_, rfl, .refl _⟩, ⟨_, rfl, by rw [hst']; exact .refl _⟩, trivial⟩)
      ·rw [decide_eq_false hle] at hbf
       have hst' : q0x l (cI g i ++ cK g i (k + 1)) = some x := by rw [hst, hS, if_neg (fun q => (hb0.1 q).elim (fun q => by have := e1.2 q; omega) (fun q => hle q.2))]
       refine wt ?_
       rw [htz]
       refine wt ?_
       rw [hne]
       refine wt ?_
       rw [h5]
       refine wt ?_
       exact j0b (k + 1) (by omega) (by omega) (ent ⟨.refl _, .refl _, .refl _, by rw [hst']; exact .refl _, .refl _, .refl _, .int (by omega), trivial⟩ ⟨⟨_, rfl, .refl _⟩, ⟨_, rfl, by rw [hst']; exact .refl _⟩, trivial⟩)
     ·rw [er] at hc e1 e2
      have h5 : (rtx (Wq l d) == wO l (some x)) = false := by
       rw [beq_eq_false_iff_ne]
       intro q
       have := e2.2 (w1a q)
       omega
      have hst' : q0x l (cI g i ++ cK g i (k + 1)) = some x := by rw [hst, hS, if_neg (fun q => (hb0.1 q).elim (fun q => by have := e1.2 q; omega) (fun q => by have := e2.2 q.1; omega))]
      refine wt ?_
      rw [htz]
      refine wt ?_
      rw [hne]
      refine wt ?_
      rw [h5]
      refine wt ?_
      exact j0b (k + 1) (by omega) (by omega) (ent ⟨.refl _, .refl _, .refl _, by rw [hst']; exact .refl _, .refl _, .refl _, .int (by omega), trivial⟩ ⟨⟨_, rfl, .refl _⟩, ⟨_, rfl, by rw [hst']; exact .refl _⟩, trivial⟩)
  ·obtain rfl : k = i := by omega
   rw [← e0]
   refine wt ?_
   exact j0b (k + 1) xO xO (ent xS xT)
 ·obtain rfl : i = g.length := by omega
  rw [Q0R, hfin]
  refine wt ?_
  exact j0n (rvs := [_, _]) (τs := [_, _]) rfl rfl ⟨.tmp rfl, .agg (us := [.int .i64 (lm l).x, .int .i64 (lm l).y, .int .i64 (lm l).z, .int .i64 (loD l (lm l)), .int .i64 (hiD l (lm l))]) rfl rfl rfl rfl, trivial⟩ rfl
theorem V1B (l : List Tr) (hl : RT l) (h7 : l.length ≤ 7) : CtrA Tryz.prog 26 [ts l] (vi (rkI l)) := by
 refine Y1H l (rkI l) hl h7 (fun h => ?_) (fun h => ?_)
 ·unfold rkI; rw [if_pos ((q0U l).2 ((w1l l).2 h))]
 ·unfold rkI; rw [if_neg (fun e => h ((w1l l).1 ((q0U l).1 e)))]
theorem W0n (l : List Tr) (hf : few l) (hn : l.length ≤ 1000) : CtrA Tryz.prog 56 [ts l] (vi (x0h l)) := by
 have hc := Q0r l hn
 unfold x0h
 refine j0l _ Tryz.func56 rfl rfl Tryz.ntmps56 rfl fun w Z => ?_
 by_cases h : q0B l = 0
 ·rw [if_pos h]
  rw [h] at hc
  have hr := V1B l (RT.of h).1 (hf.le7 h)
  have hd := Y1K l
  generalize rkI l = r at hr hd
  generalize (spn l).dim = n at hd ⊢
  refine xU ?_
  refine wt ?_
  (refine j0a rfl ?_ ?_ <;> intro hb <;> (try simp only [xA, xB, xG, xC, xD, xN] at hb) <;> (try exact xQ))
  ·rw [if_pos (by omega)]
   refine wt ?_
   exact xV
  ·rw [if_neg (by omega)]
   refine wt ?_
   exact xV
 ·rw [if_neg h]
  generalize q0B l = e at h hc ⊢
  refine xU ?_
  refine wt ?_
  (refine j0a rfl ?_ ?_ <;> intro hb <;> (try simp only [xA, xB, xG, xC, xD, xN] at hb) <;> (try exact xQ))
  refine wt ?_
  exact xV
theorem k1J {l : List Tr} (hf : few l) (e : x0h l = 0) : CtrA Tryz.prog 57 [ts l] (j0m [vS (rtx (Wq l (lm l))), zA (lm l) (loD l (lm l)) (hiD l (lm l))]) :=
 y1u l (RT.of (x0P e).1).1 (hf.le7 (x0P e).1) (x0P e).2
theorem Z1Y (l : List Tr) (hf : few l) (hn : l.length ≤ 1000) : CtrA Tryz.prog 19 [ts l] (j0m [vS (wtx l), zA (dW l) (aW l) (bW l), vi (x0h l)]) := by
 have hg := W0n l hf hn
 have hl := fun e : x0h l = 0 => k1J hf e
 unfold wtx dW aW bW
 generalize x0h l = e at hg hl ⊢
 by_cases he : e = 0
 ·rw [if_pos he, if_pos he, if_pos he, if_pos he]
  have hl := hl he
  subst he
  refine j0l _ Tryz.func19 rfl rfl Tryz.ntmps19 rfl fun w Z => ?_
  refine xU ?_
  refine wt ?_
  exact j0n (rvs := [_, _, _]) (τs := [_, _, _]) rfl rfl ⟨.tmp rfl, .agg (us := [_, _, _, _, _]) rfl rfl rfl rfl, .tmp rfl, trivial⟩ rfl
 ·rw [if_neg he, if_neg he, if_neg he, if_neg he]
  refine j0l _ Tryz.func19 rfl rfl Tryz.ntmps19 rfl fun w Z => ?_
  refine xU ?_
  refine wt ?_
  (refine j0a rfl ?_ ?_ <;> intro hb <;> (try simp only [xA, xB, xG, xC, xD, xN] at hb) <;> (try exact xQ))
  refine wt ?_
  exact j0n (rvs := [_, _, _]) (τs := [_, _, _]) rfl rfl ⟨.tmp rfl, .agg (us := [_, _, _, _, _]) rfl rfl rfl rfl, .tmp rfl, trivial⟩ rfl
theorem V1v (l : List Tr) (hf : few l) (hn : l.length ≤ 1000) : CtrA Tryz.prog 21 [ts l] (j0m [idx (cLo l), idx (cHi l), vi (x0h l)]) := by
 have hg := W0n l hf hn
 unfold cLo cHi
 by_cases he : x0h l = 0
 ·rw [if_pos he, if_pos he, he]
  have hr := k1J hf he
  rw [he] at hg
  obtain ⟨h0, hw⟩ := x0P he
  have h7 := hf.le7 h0
  have hl := (RT.of h0).1
  have hB := y1i hl hw
  show CtrA Tryz.prog 21 [ts l] (j0m [idx (loK l (lm l) l.length), idx (hiK l (lm l) l.length), vi 0])
  generalize lm l = d at hr hB ⊢
  refine j0l _ Tryz.func21 rfl rfl Tryz.ntmps21 rfl fun w Z => ?_
  refine xU ?_
  refine wt ?_
  refine j0f (γ := Nat) (fun k => [(0, .av (ts l)), (7, .own 10 0), (8, .osl 70), (9, .osl 71), (10, .av (vi k))]) (fun k => [(10, .cells [.av (vi d.x), .av (vi d.y), .av (vi d.z), .av (vi (loD l d)), .av (vi (hiD l d))]), (70, .row 3 1 (loK l d k).length (xf (loK l d k))), (71, .row 3 1 (hiK l d k).length (xf (hiK l d k)))]) (fun k => k ≤ l.length) (fun k => l.length - k) 0 (Nat.zero_le _) (Ent.trans (v0B (dd := 8) 70 3 1 (xf []) rfl rfl) (Ent.trans (v0B (dd := 9) 71 3 1 (xf []) rfl rfl) (ent xS xT))) ?_
  intro k hk
  refine wt ?_
  (refine j0a rfl ?_ ?_ <;> intro hb <;> (try simp only [xA, xB, xG, xC, xD, xN] at hb) <;> (try exact xQ))
  ·have hkl : k < l.length := by omega
   have hp := Y0N (gt l k) d (hl k) hB xE
   have l1 := k0m l d k
   have l2 := Z0Z l d k
   have l3 := v1h l d k
   have l4 := q1R l d k
   generalize loK l d k = X at l1 l3 ⊢
   generalize hiK l d k = X' at l2 l4 ⊢
   have m1 : X.length + 1 ≤ maxLen := by simp only [maxLen]; omega
   have m2 : X'.length + 1 ≤ maxLen := by simp only [maxLen]; omega
   refine wt ?_
   (refine j0a rfl ?_ ?_ <;> intro hb <;> (try simp only [xA, xB, xG, xC, xD, xN] at hb) <;> (try exact xQ))
   ·rw [if_pos hb] at l1
    refine wt ?_
    (refine j0a rfl ?_ ?_ <;> intro hb <;> (try simp only [xA, xB, xG, xC, xD, xN] at hb) <;> (try exact xQ))
    ·rw [if_pos hb] at l2
     refine wt ?_
     exact j0b (k + 1) (by omega) (by omega) (ent xS ⟨⟨_, rfl, .refl _⟩, ⟨_, rfl, by rw [l1]; exact .refl _⟩, ⟨_, rfl, by rw [l2]; exact .refl _⟩, trivial⟩)
    ·rw [if_neg hb] at l2
     refine wt ?_
     exact j0b (k + 1) (by omega) (by omega) (ent xS ⟨⟨_, rfl, .refl _⟩, ⟨_, rfl, by rw [l1]; exact .refl _⟩, ⟨_, rfl, by rw [l2]; exact .refl _⟩, trivial⟩)
   ·rw [if_neg hb] at l1
    refine wt ?_
    (refine j0a rfl ?_ ?_ <;> intro hb <;> (try simp only [xA, xB, xG, xC, xD, xN] at hb) <;> (try exact xQ))
    ·rw [if_pos hb] at l2
     refine wt ?_
     exact j0b (k + 1) (by omega) (by omega) (ent xS ⟨⟨_, rfl, .refl _⟩, ⟨_, rfl, by rw [l1]; exact .refl _⟩, ⟨_, rfl, by rw [l2]; exact .refl _⟩, trivial⟩)
    ·rw [if_neg hb] at l2
     refine wt ?_
     exact j0b (k + 1) (by omega) (by omega) (ent xS ⟨⟨_, rfl, .refl _⟩, ⟨_, rfl, by rw [l1]; exact .refl _⟩, ⟨_, rfl, by rw [l2]; exact .refl _⟩, trivial⟩)
  ·have hkl : k = l.length := by omega
   subst hkl
   refine wt ?_
   exact y0Y (Ent.trans (j0S 70 rfl) (j0S 71 rfl)) (j0n (rvs := [_, _, _]) (τs := [_, _, _]) rfl rfl ⟨.tmp rfl, .tmp rfl, .tmp rfl, trivial⟩ rfl)
 ·rw [if_neg he, if_neg he]
  generalize x0h l = e at hg he ⊢
  have key : CtrA Tryz.prog 21 [ts l] (j0m [.val (.slice none 0 0), .val (.slice none 0 0), vi e]) := by
   refine j0l _ Tryz.func21 rfl rfl Tryz.ntmps21 rfl fun w Z => ?_
   refine xU ?_
   refine wt ?_
   (refine j0a rfl ?_ ?_ <;> intro hb <;> (try simp only [xA, xB, xG, xC, xD, xN] at hb) <;> (try exact xQ))
   refine wt ?_
   exact xX
  exact key.to (ALe.tup ⟨ALe.nil, ALe.nil, .refl _, trivial⟩)
theorem Y1P (l : List Tr) (t : Int) (hf : few l) (hn : l.length ≤ 1000) : CtrA Tryz.prog 24 [ts l, vi t] (j0m [vb (inW l t), vi (q1s l t)]) := by
 have hc := Q0r l hn
 have hg := W0n l hf hn
 have hE : q1s l t = if q0B l = 0 then (if t < 0 ∨ 100000 < t then 2 else x0h l) else q0B l := rfl
 have hI : inW l t = if q1s l t = 0 then decide (Wq l (lm l) ≤ ((t * t : Int) : Rat)) else false := rfl
 generalize inW l t = b at hI ⊢
 generalize q1s l t = E at hE hI ⊢
 by_cases h0 : q0B l = 0
 ·rw [if_pos h0] at hE
  rw [h0] at hc
  by_cases ht : t < 0 ∨ 100000 < t
  ·rw [if_pos ht] at hE
   rw [hE, if_neg (by decide)] at hI
   subst hE hI
   refine j0l _ Tryz.func24 rfl rfl Tryz.ntmps24 rfl fun w Z => ?_
   refine xU ?_
   by_cases h1 : t < 0
   ·have h1' := decide_eq_true h1
    refine wt ?_
    rw [h1']
    refine wt ?_
    exact xW
   ·have h1' := decide_eq_false h1
    refine wt ?_
    rw [h1']
    refine wt ?_
    (refine j0a rfl ?_ ?_ <;> intro hb <;> (try simp only [xA, xB, xG, xC, xD, xN] at hb) <;> (try exact xQ))
    refine wt ?_
    exact xW
  ·rw [if_neg ht] at hE
   have h1' : decide (t < 0) = false := decide_eq_false xO
   by_cases he : x0h l = 0
   ·rw [he] at hE hg
    rw [if_pos hE] at hI
    subst hE
    have hr := k1J hf he
    obtain ⟨_, hw⟩ := x0P he
    have hl := (RT.of h0).1
    have hl0 : 0 < l.length := by obtain ⟨a, _, _, ha, _⟩ := hw; omega
    have hGD : GD (lm l) := ⟨(z1J hw).1, y1i hl hw⟩
    have hwh := K0Q t ⟨by omega, by omega⟩
    have lt : LR 20 ((t : Int) : Rat) := LR.ofI ((show LI 19 t from I64.li ⟨by omega, by omega⟩).mono xE) xE
    have hti := K0P ((t : Int) : Rat) ((t : Int) : Rat) (lt.mono xE) (lt.mono xE)
    rw [← Rat.intCast_mul] at hti
    have hcm := V0t (Wq l (lm l)) ((t * t : Int) : Rat) ((K0e hl hl0 hGD).mono (by decide)) (by rw [Rat.intCast_mul]; exact (lt.mul lt).mono (by decide))
    rw [← z1Z] at hI
    subst hI
    refine j0l _ Tryz.func24 rfl rfl Tryz.ntmps24 rfl fun w Z => ?_
    refine xU ?_
    refine wt ?_
    rw [h1']
    refine wt ?_
    (refine j0a rfl ?_ ?_ <;> intro hb <;> (try simp only [xA, xB, xG, xC, xD, xN] at hb) <;> (try exact xQ))
    refine wt ?_
    exact xW
   ·rw [hE, if_neg he] at hI
    rw [hE, hI]
    generalize x0h l = e at hg he ⊢
    refine j0l _ Tryz.func24 rfl rfl Tryz.ntmps24 rfl fun w Z => ?_
    refine xU ?_
    refine wt ?_
    rw [h1']
    refine wt ?_
    (refine j0a rfl ?_ ?_ <;> intro hb <;> (try simp only [xA, xB, xG, xC, xD, xN] at hb) <;> (try exact xQ))
    refine wt ?_
    (refine j0a rfl ?_ ?_ <;> intro hb <;> (try simp only [xA, xB, xG, xC, xD, xN] at hb) <;> (try exact xQ))
    refine wt ?_
    exact xW
 ·rw [if_neg h0] at hE
  rw [hE, if_neg h0] at hI
  rw [hE, hI]
  generalize q0B l = e at hc h0 ⊢
  refine j0l _ Tryz.func24 rfl rfl Tryz.ntmps24 rfl fun w Z => ?_
  refine xU ?_
  refine wt ?_
  (refine j0a rfl ?_ ?_ <;> intro hb <;> (try simp only [xA, xB, xG, xC, xD, xN] at hb) <;> (try exact xQ))
  refine wt ?_
  exact xW
def x1d (l : List Tr) (d : Tr) : Int := if q0B l = 0 then (if d = tz then 10 else if q0n d = true then (if l.length = 0 then 13 else 0) else 2) else q0B l
def dA (l : List Tr) (d : Tr) : Tr := if x1d l d = 0 then d else tz
def aA (l : List Tr) (d : Tr) : Int := if x1d l d = 0 then loD l d else 0
def bA (l : List Tr) (d : Tr) : Int := if x1d l d = 0 then hiD l d else 0
theorem k0z {d : Tr} (h : q0n d = true) : BT 100000 d := by
 unfold q0n inB at h
 simp only [Bool.and_eq_true, decide_eq_true_eq] at h
 obtain ⟨⟨⟨a, b⟩, c, e⟩, f, g⟩ := h
 exact ⟨⟨a, b⟩, ⟨c, e⟩, ⟨f, g⟩⟩
theorem z0e {l : List Tr} {d : Tr} (h : x1d l d ≠ 0) : zA (dA l d) (aA l d) (bA l d) = zA tz 0 0 := by unfold dA aA bA; rw [if_neg h, if_neg h, if_neg h]
theorem Z0k {l : List Tr} {d : Tr} (h : x1d l d = 0) : zA (dA l d) (aA l d) (bA l d) = zA d (loD l d) (hiD l d) := by unfold dA aA bA; rw [if_pos h, if_pos h, if_pos h]
theorem y1t {d : Tr} (h : ∀ j, j < 3 → inB (co d j) = true) : q0n d = true := by
 have h0 := h 0 xO; have h1 := h 1 xO; have h2 := h 2 xO
 unfold q0n
 rw [show inB d.x = true from h0, show inB d.y = true from h1, show inB d.z = true from h2]; rfl
theorem k0A {d : Tr} {k : Nat} (hk : k < 3) (h : inB (co d k) = false) : q0n d = false := by
 unfold q0n
 rcases (by omega : k = 0 ∨ k = 1 ∨ k = 2) with rfl | rfl | rfl
 ·rw [show inB d.x = false from h]; rfl
 ·rw [show inB d.y = false from h]; simp
 ·rw [show inB d.z = false from h]; simp
theorem w1Z (l : List Tr) (d : Tr) : CtrA Tryz.prog 33 [ts l, tp d] (j0m [zA (dA l d) (aA l d) (bA l d), vi (x1d l d)]) := by
 have hc := x0I l
 have hE : x1d l d = if q0B l = 0 then (if d = tz then 10 else if q0n d = true then (if l.length = 0 then 13 else 0) else 2) else q0B l := rfl
 refine j0l _ Tryz.func33 rfl rfl Tryz.ntmps33 rfl fun w Z => ?_
 by_cases h0 : q0B l = 0
 ·rw [if_pos h0] at hE
  rw [h0] at hc
  have hln := (RT.of h0).2
  have hl := (RT.of h0).1
  by_cases hz : d = tz
  ·rw [if_pos hz] at hE
   rw [z0e (by rw [hE]; decide), hE]
   refine xU ?_
   refine wt ?_
   rw [z0x, decide_eq_true hz]
   refine wt ?_
   exact j0n (rvs := [_, _]) (τs := [_, _]) rfl rfl ⟨.agg (us := [.int .i64 0, .int .i64 0, .int .i64 0, .int .i64 0, .int .i64 0]) rfl rfl rfl rfl, .tmp rfl, trivial⟩ rfl
  ·rw [if_neg hz] at hE
   refine xU ?_
   refine wt ?_
   rw [z0x, decide_eq_false hz]
   refine wt ?_
   refine j0f (γ := Nat) (fun k => [(0, .av (ts l)), (3, .av (bt d)), (4, .own 10 0), (19, .av (tp d)), (20, .av (vi k))]) (fun _ => [(10, .cells [.av (vi 0), .av (vi 0), .av (vi 0), .av (vi 0), .av (vi 0)])]) (fun k => k ≤ 3 ∧ ∀ j, j < k → inB (co d j) = true) (fun k => 3 - k) 0 ⟨Nat.zero_le _, fun j hj => absurd hj (Nat.not_lt_zero j)⟩ (ent xS xT) ?_
   rintro k ⟨hk, hin⟩
   refine wt ?_
   (refine j0a rfl ?_ ?_ <;> intro hb <;> (try simp only [xA, xB, xG, xC, xD, xN] at hb) <;> (try exact xQ))
   ·have hk3 : k < 3 := by omega
    have hib : inB (co d k) = (decide (-100000 ≤ co d k) && decide (co d k ≤ 100000)) := rfl
    by_cases h1 : co d k < -100000
    ·have h1' := decide_eq_true h1
     have hbad := k0A hk3 (by rw [hib, decide_eq_false (by omega)]; rfl)
     rw [if_neg (by rw [hbad]; decide)] at hE
     rw [z0e (by rw [hE]; decide), hE]
     refine wt ?_
     repeat' (first
       |(refine j0o (y0F rfl rfl (fun w => Z1X d k hk3 w)) rfl ?_; refine wt ?_))
     rw [h1']
     refine wt ?_
     exact j0n (rvs := [_, _]) (τs := [_, _]) rfl rfl ⟨.agg (us := [.int .i64 0, .int .i64 0, .int .i64 0, .int .i64 0, .int .i64 0]) rfl rfl rfl rfl, .tmp rfl, trivial⟩ rfl
    ·have h1' := decide_eq_false h1
     by_cases h2 : 100000 < co d k
     ·have h2' := decide_eq_true h2
      have hbad := k0A hk3 (by rw [hib, decide_eq_false (show ¬ co d k ≤ 100000 by omega), Bool.and_false])
      rw [if_neg (by rw [hbad]; decide)] at hE
      rw [z0e (by rw [hE]; decide), hE]
      refine wt ?_
      repeat' (first
        |(refine j0o (y0F rfl rfl (fun w => Z1X d k hk3 w)) rfl ?_; refine wt ?_))
      rw [h1']
      refine wt ?_
      (refine j0a rfl ?_ ?_ <;> intro hb <;> (try simp only [xA, xB, xG, xC, xD, xN] at hb) <;> (try exact xQ))
      refine wt ?_
      exact j0n (rvs := [_, _]) (τs := [_, _]) rfl rfl ⟨.agg (us := [.int .i64 0, .int .i64 0, .int .i64 0, .int .i64 0, .int .i64 0]) rfl rfl rfl rfl, .tmp rfl, trivial⟩ rfl
     ·refine wt ?_
      repeat' (first
        |(refine j0o (y0F rfl rfl (fun w => Z1X d k hk3 w)) rfl ?_; refine wt ?_))
      rw [h1']
      refine wt ?_
      (refine j0a rfl ?_ ?_ <;> intro hb <;> (try simp only [xA, xB, xG, xC, xD, xN] at hb) <;> (try exact xQ))
      refine wt ?_
      exact j0b (k + 1) ⟨by omega, fun j hj => by
       by_cases e : j = k
       ·rw [e, hib, decide_eq_true (by omega), decide_eq_true (by omega)]; rfl
       ·exact hin j xO⟩ xO (ent xS xT)
   ·obtain rfl : k = 3 := by omega
    have hr := y1t hin
    rw [if_pos hr] at hE
    by_cases hl0 : l.length = 0
    ·rw [if_pos hl0] at hE
     rw [z0e (by rw [hE]; decide), hE]
     refine wt ?_
     (refine j0a rfl ?_ ?_ <;> intro hb <;> (try simp only [xA, xB, xG, xC, xD, xN] at hb) <;> (try exact xQ))
     refine wt ?_
     exact j0n (rvs := [_, _]) (τs := [_, _]) rfl rfl ⟨.agg (us := [.int .i64 0, .int .i64 0, .int .i64 0, .int .i64 0, .int .i64 0]) rfl rfl rfl rfl, .tmp rfl, trivial⟩ rfl
    ·rw [if_neg hl0] at hE
     rw [Z0k hE, hE]
     have hzc := J1L l d hl xO xO (k0z hr) xE
     refine wt ?_
     (refine j0a rfl ?_ ?_ <;> intro hb <;> (try simp only [xA, xB, xG, xC, xD, xN] at hb) <;> (try exact xQ))
     refine wt ?_
     exact j0n (rvs := [_, _]) (τs := [_, _]) rfl rfl ⟨.agg (us := [.int .i64 d.x, .int .i64 d.y, .int .i64 d.z, .int .i64 (loD l d), .int .i64 (hiD l d)]) rfl rfl rfl rfl, .tmp rfl, trivial⟩ rfl
 ·rw [if_neg h0] at hE
  rw [z0e (by rw [hE]; exact h0), hE]
  generalize q0B l = e at h0 hc ⊢
  refine xU ?_
  refine wt ?_
  (refine j0a rfl ?_ ?_ <;> intro hb <;> (try simp only [xA, xB, xG, xC, xD, xN] at hb) <;> (try exact xQ))
  refine wt ?_
  exact j0n (rvs := [_, _]) (τs := [_, _]) rfl rfl ⟨.agg (us := [.int .i64 0, .int .i64 0, .int .i64 0, .int .i64 0, .int .i64 0]) rfl rfl rfl rfl, .tmp rfl, trivial⟩ rfl
theorem W1K (l : List Tr) (d : Tr) (hn : l.length ≤ 1000) : CtrA Tryz.prog 34 [ts l, tp d] (j0m [zA (dA l d) (aA l d) (bA l d), vi (x1d l d)]) := by
 have hc := Q0r l hn
 have hrs := k0B d
 have hE : x1d l d = if q0B l = 0 then (if d = tz then 10 else if q0n d = true then (if l.length = 0 then 13 else 0) else 2) else q0B l := rfl
 refine j0l _ Tryz.func34 rfl rfl Tryz.ntmps34 rfl fun w Z => ?_
 by_cases h0 : q0B l = 0
 ·rw [if_pos h0] at hE
  rw [h0] at hc
  have hln := (RT.of h0).2
  have hl := (RT.of h0).1
  by_cases hz : d = tz
  ·rw [if_pos hz] at hE
   rw [z0e (by rw [hE]; decide), hE]
   refine xU ?_
   refine wt ?_
   rw [z0x, decide_eq_true hz]
   refine wt ?_
   exact j0n (rvs := [_, _]) (τs := [_, _]) rfl rfl ⟨.agg (us := [.int .i64 0, .int .i64 0, .int .i64 0, .int .i64 0, .int .i64 0]) rfl rfl rfl rfl, .tmp rfl, trivial⟩ rfl
  ·rw [if_neg hz] at hE
   by_cases hr : q0n d = true
   ·rw [if_pos hr] at hE
    rw [hr] at hrs
    by_cases hl0 : l.length = 0
    ·rw [if_pos hl0] at hE
     rw [z0e (by rw [hE]; decide), hE]
     refine xU ?_
     refine wt ?_
     rw [z0x, decide_eq_false hz]
     refine wt ?_
     (refine j0a rfl ?_ ?_ <;> intro hb <;> (try simp only [xA, xB, xG, xC, xD, xN] at hb) <;> (try exact xQ))
     refine wt ?_
     exact j0n (rvs := [_, _]) (τs := [_, _]) rfl rfl ⟨.agg (us := [.int .i64 0, .int .i64 0, .int .i64 0, .int .i64 0, .int .i64 0]) rfl rfl rfl rfl, .tmp rfl, trivial⟩ rfl
    ·rw [if_neg hl0] at hE
     rw [Z0k hE, hE]
     have hzc := w1f l d hl xO xO (k0z hr) xE
     refine xU ?_
     refine wt ?_
     rw [z0x, decide_eq_false hz]
     refine wt ?_
     (refine j0a rfl ?_ ?_ <;> intro hb <;> (try simp only [xA, xB, xG, xC, xD, xN] at hb) <;> (try exact xQ))
     refine wt ?_
     exact j0n (rvs := [_, _]) (τs := [_, _]) rfl rfl ⟨.agg (us := [.int .i64 d.x, .int .i64 d.y, .int .i64 d.z, .int .i64 (loD l d), .int .i64 (hiD l d)]) rfl rfl rfl rfl, .tmp rfl, trivial⟩ rfl
   ·rw [if_neg hr] at hE
    rw [show q0n d = false by cases h : q0n d <;> simp_all] at hrs
    rw [z0e (by rw [hE]; decide), hE]
    refine xU ?_
    refine wt ?_
    rw [z0x, decide_eq_false hz]
    refine wt ?_
    exact j0n (rvs := [_, _]) (τs := [_, _]) rfl rfl ⟨.agg (us := [.int .i64 0, .int .i64 0, .int .i64 0, .int .i64 0, .int .i64 0]) rfl rfl rfl rfl, .tmp rfl, trivial⟩ rfl
 ·rw [if_neg h0] at hE
  rw [z0e (by rw [hE]; exact h0), hE]
  generalize q0B l = e at h0 hc ⊢
  refine xU ?_
  refine wt ?_
  (refine j0a rfl ?_ ?_ <;> intro hb <;> (try simp only [xA, xB, xG, xC, xD, xN] at hb) <;> (try exact xQ))
  refine wt ?_
  exact j0n (rvs := [_, _]) (τs := [_, _]) rfl rfl ⟨.agg (us := [.int .i64 0, .int .i64 0, .int .i64 0, .int .i64 0, .int .i64 0]) rfl rfl rfl rfl, .tmp rfl, trivial⟩ rfl
theorem z1B (m n : Int) (hm : LI 300 m) (hn : LI 300 n) : CtrA Tryz.prog 61 [vI m, vI n] (j0m [vi (Na.sgn (m - n)), vi 0]) := by
 have h := y0h (m : Rat) (n : Rat) (LR.ofI (hm.mono xE) xE) (LR.ofI (hn.mono xE) xE)
 rw [vRI, vRI, ← Y0P] at h
 simp only [Rat.num_intCast, Rat.den_intCast, Int.natCast_one, Int.mul_one] at h
 exact h
theorem Y1T (m : Int) : decide (Na.sgn m < 0) = decide (m < 0) := by
 rw [Bool.eq_iff_iff, decide_eq_true_eq, decide_eq_true_eq]
 unfold Na.sgn
 split
 ·omega
 ·split <;> omega
theorem Y1S (m : Int) : decide (0 < Na.sgn m) = decide (0 < m) := by
 rw [Bool.eq_iff_iff, decide_eq_true_eq, decide_eq_true_eq]
 unfold Na.sgn
 split
 ·omega
 ·split <;> omega
theorem Z1x (x y z : Int) (w : World) : (Instr.buildSlice 40 3 #[(0, .int .i64 x), (1, .int .i64 y), (2, .int .i64 z)]).run Tryz.prog w = .ok (.slice (some ⟨w.heap.size, 0, none⟩) 3 3) (w.alloc (.cells #[.int .i64 x, .int .i64 y, .int .i64 z] 3)) := by kernel_rfl
def cof (p : Tr) : Nat → Nat → AV := fun i _ => vi (co p i)
theorem Q1c (p : Tr) : ∀ i, i < 3 → ∀ j, j < 1 → ∃ u, [Value.int .i64 p.x, .int .i64 p.y, .int .i64 p.z][i * 1 + j]? = some u ∧ cof p i j = .val u := by
 intro i hi j hj
 obtain rfl : j = 0 := by omega
 rcases (by omega : i = 0 ∨ i = 1 ∨ i = 2) with rfl | rfl | rfl <;> exact ⟨_, rfl, rfl⟩
def pS (p d : Tr) : Nat → Int
 |0 => 0
 |i + 1 => pS p d i + co p i * co d i
theorem j2p (p d : Tr) : pS p d 3 = j0c d p := by show 0 + p.x * d.x + p.y * d.y + p.z * d.z = _; unfold j0c; grind
def y1e (d : Tr) (a b : Int) (p : Tr) : Bool := decide (a ≤ j0c d p) && decide (j0c d p ≤ b)
def X1F (l : List Tr) (d : Tr) (a b : Int) : Int := if q0B l = 0 then zE d a b else q0B l
def inZ (l : List Tr) (d : Tr) (a b : Int) : Bool := if X1F l d a b = 0 then l.all (y1e d a b) else false
theorem y1Y {l : List Tr} {f : Tr → Bool} : l.all f = true ↔ ∀ i, i < l.length → f (gt l i) = true := by
 rw [List.all_eq_true]
 constructor
 ·intro h i hi; exact h _ (by unfold gt; simp [List.getD, hi])
 ·intro h x hx
  obtain ⟨i, hi, rfl⟩ := List.getElem_of_mem hx
  have := h i hi
  unfold gt at this
  simpa [List.getD, hi] using this
theorem I64T.co {d : Tr} (h : I64T d) (k : Nat) (hk : k < 3) : I64 (co d k) := by
 rcases (by omega : k = 0 ∨ k = 1 ∨ k = 2) with rfl | rfl | rfl
 ·exact h.x
 ·exact h.y
 ·exact h.z
theorem z1X {p : Tr} (h : BT 100000 p) : I64T p := by
 obtain ⟨⟨_, _⟩, ⟨_, _⟩, ⟨_, _⟩⟩ := h
 exact ⟨⟨by omega, by omega⟩, ⟨by omega, by omega⟩, ⟨by omega, by omega⟩⟩
theorem Y1x {p d : Tr} (hp : I64T p) (hd : I64T d) : ∀ k, k ≤ 3 → LI (39 + k) (pS p d k)
 |0, _ => LI.small (m := 0) xE xE
 |k + 1, hk => (Y1x hp hd k xO).add (((hp.co k xO).li.mul (hd.co k xO).li).mono xO)
theorem W1y (l : List Tr) (d : Tr) (a b : Int) (hd : I64T d) (ha : I64 a) (hb' : I64 b) : CtrA Tryz.prog 35 [ts l, zA d a b] (j0m [vb (inZ l d a b), vi (X1F l d a b)]) := by
 have hc := x0I l
 have hr := K0d d a b
 have hE : X1F l d a b = if q0B l = 0 then zE d a b else q0B l := rfl
 have hI : inZ l d a b = if X1F l d a b = 0 then l.all (y1e d a b) else false := rfl
 generalize inZ l d a b = q at hI ⊢
 generalize X1F l d a b = E at hE hI ⊢
 refine j0l _ Tryz.func35 rfl rfl Tryz.ntmps35 rfl fun w Z => ?_
 by_cases h0 : q0B l = 0
 ·rw [if_pos h0] at hE
  rw [h0] at hc
  have hln := (RT.of h0).2
  have hl := (RT.of h0).1
  rw [← hE] at hr
  by_cases he : E = 0
  ·rw [if_pos he] at hI
   rw [he] at hr ⊢
   have w1 := v0z a ha
   have w2 := v0z b hb'
   have hptr : ∀ i, i < 5 → (fun i => AV.val ([Go.Value.int .i64 d.x, .int .i64 d.y, .int .i64 d.z, .int .i64 a, .int .i64 b].getD i Go.undef)) i = (fun i => if i < 3 then vi (co d i) else if i = 3 then vi a else vi b) i := fun i hi => by
    rcases (by omega : i = 0 ∨ i = 1 ∨ i = 2 ∨ i = 3 ∨ i = 4) with rfl | rfl | rfl | rfl | rfl <;> rfl
   refine xU ?_
   refine wt ?_
   refine j0f (γ := Nat) (fun k => [(3, .av (.ptr 5 (fun i => if i < 3 then vi (co d i) else if i = 3 then vi a else vi b))), (29, .av (ts l)), (30, .av (vi l.length)), (31, .av (vi k))]) (fun _ => []) (fun k => k ≤ l.length ∧ ∀ j, j < k → y1e d a b (gt l j) = true) (fun k => l.length - k) 0 ⟨Nat.zero_le _, fun j hj => absurd hj (Nat.not_lt_zero j)⟩ (Ent.trans (Y0u (n := 5) 3 (f' := fun i => if i < 3 then vi (co d i) else if i = 3 then vi a else vi b) rfl hptr) (ent xS trivial)) ?_
   rintro k ⟨hk, hin⟩
   refine wt ?_
   (refine j0a rfl ?_ ?_ <;> intro hb <;> (try simp only [xA, xB, xG, xC, xD, xN] at hb) <;> (try exact xQ))
   ·have hkl : k < l.length := by omega
    have hp := hl k
    have hib : y1e d a b (gt l k) = (decide (a ≤ j0c d (gt l k)) && decide (j0c d (gt l k) ≤ b)) := rfl
    have hall : y1e d a b (gt l k) = false → q = false := fun hf => by
     rw [hI]
     cases hq : l.all (y1e d a b) with
     |false => rfl
     |true => have := y1Y.1 hq k hkl; rw [hf] at this; cases this
    have hs := Y1x (z1X hp) hd
    have h3 := j2p (gt l k) d
    have hnew : y1e d a b (gt l k) = true → ∀ j, j < k + 1 → y1e d a b (gt l j) = true := fun hg j hj => by
     by_cases e : j = k
     ·rw [e]; exact hg
     ·exact hin j xO
    have hpI := z1X hp
    refine wt ?_
    repeat' (first
      |(refine j0o (q0b (is := [0, 1, 2]) (xs := [_, _, _]) (vs := [_, _, _]) (us := [_, _, _]) (Z1x _ _ _) rfl rfl rfl (Q1c (gt l k))) rfl ?_; refine wt ?_))
    refine j0f (γ := Nat) (fun i => [(3, .av (.ptr 5 (fun i => if i < 3 then vi (co d i) else if i = 3 then vi a else vi b))), (29, .av (ts l)), (30, .av (vi l.length)), (31, .av (vi k)), (10, .av (vI (pS (gt l k) d i))), (41, .av (.sl 3 1 (cof (gt l k)))), (42, .av (vi 3)), (43, .av (vi i))]) (fun _ => []) (fun i => i ≤ 3) (fun i => 3 - i) 0 (Nat.zero_le _) (Ent.trans x0A (ent ⟨.refl _, .refl _, .refl _, .refl _, by show SLe (.av (vS [48])) (.av (vI 0)); rw [K1h]; exact .refl _, .refl _, .refl _, .refl _, trivial⟩ trivial)) ?_
    intro i hi
    refine wt ?_
    (refine j0a rfl ?_ ?_ <;> intro hb <;> (try simp only [xA, xB, xG, xC, xD, xN] at hb) <;> (try exact xQ))
    ·have hi3 : i < 3 := by omega
     have y1 := v0z (co (gt l k) i) (hpI.co i hi3)
     have y2 := v0z (co d i) (hd.co i hi3)
     have y3 := q1W (co (gt l k) i) (co d i) ((hpI.co i hi3).li.mono xE) ((hd.co i hi3).li.mono xE)
     have y4 := z1A (pS (gt l k) d i) (co (gt l k) i * co d i) ((hs i hi).mono xO) (((hpI.co i hi3).li.mul (hd.co i hi3).li).mono xE)
     rcases (by omega : i = 0 ∨ i = 1 ∨ i = 2) with rfl | rfl | rfl
     ·refine wt ?_
      exact j0b 1 xO xO (ent xS trivial)
     ·refine wt ?_
      exact j0b 2 xO xO (ent xS trivial)
     ·refine wt ?_
      exact j0b 3 xO xO (ent xS trivial)
    ·obtain rfl : i = 3 := by omega
     have hs3 := hs 3 xO
     rw [h3] at hs3 ⊢
     have c1 := z1B (j0c d (gt l k)) a (hs3.mono xE) (ha.li.mono xE)
     have c2 := z1B (j0c d (gt l k)) b (hs3.mono xE) (hb'.li.mono xE)
     have s1 := Y1T (j0c d (gt l k) - a)
     have s2 := Y1S (j0c d (gt l k) - b)
     generalize Na.sgn (j0c d (gt l k) - a) = x1 at c1 s1
     generalize Na.sgn (j0c d (gt l k) - b) = x2 at c2 s2
     by_cases q1 : j0c d (gt l k) < a
     ·rw [decide_eq_true (show j0c d (gt l k) - a < 0 by omega)] at s1
      rw [hall (by rw [hib, decide_eq_false (by omega)]; rfl)]
      refine wt ?_
      rw [s1]
      refine wt ?_
      exact xW
     ·rw [decide_eq_false (show ¬ j0c d (gt l k) - a < 0 by omega)] at s1
      by_cases q2 : b < j0c d (gt l k)
      ·rw [decide_eq_true (show 0 < j0c d (gt l k) - b by omega)] at s2
       rw [hall (by rw [hib, decide_eq_false (show ¬ j0c d (gt l k) ≤ b by omega), Bool.and_false])]
       refine wt ?_
       rw [s1]
       refine wt ?_
       rw [s2]
       refine wt ?_
       exact xW
      ·rw [decide_eq_false (show ¬ 0 < j0c d (gt l k) - b by omega)] at s2
       have hgood : y1e d a b (gt l k) = true := by rw [hib, decide_eq_true (by omega), decide_eq_true (by omega)]; rfl
       refine wt ?_
       rw [s1]
       refine wt ?_
       rw [s2]
       refine wt ?_
       exact j0b (k + 1) ⟨by omega, hnew hgood⟩ xO (ent xS trivial)
   ·obtain rfl : k = l.length := by omega
    rw [y1Y.2 hin] at hI
    rw [hI]
    refine wt ?_
    exact xW
  ·rw [if_neg he] at hI
   rw [hI]
   refine xU ?_
   refine wt ?_
   (refine j0a rfl ?_ ?_ <;> intro hb <;> (try simp only [xA, xB, xG, xC, xD, xN] at hb) <;> (try exact xQ))
   refine wt ?_
   exact xW
 ·rw [if_neg h0] at hE
  rw [hE, if_neg h0] at hI
  rw [hE, hI]
  generalize q0B l = e at h0 hc ⊢
  refine xU ?_
  refine wt ?_
  (refine j0a rfl ?_ ?_ <;> intro hb <;> (try simp only [xA, xB, xG, xC, xD, xN] at hb) <;> (try exact xQ))
  refine wt ?_
  exact xW
def L0 : List Tr := [⟨0, 0, 0⟩, ⟨4, 0, 0⟩, ⟨0, 4, 0⟩, ⟨0, 0, 4⟩]
def L1 : List Tr := [⟨0, 0, 0⟩, ⟨1, 0, 0⟩, ⟨5, 0, 0⟩]
def L2 : List Tr := [⟨0, 0, 0⟩, ⟨1, 0, 0⟩, ⟨0, 5, 0⟩]
theorem dd3 : decDigits 3 = [51] := by rw [Lib.decDigits]; rfl
theorem K1w : decDigits 16 = [49, 54] := X0k 2 [49, 54] rfl ⟨by decide, by decide, fun r h => by cases h⟩
theorem z0H : x0h L0 = 0 := by decide +kernel
theorem y1h : lm L0 = ⟨1, 1, 1⟩ := by decide +kernel
theorem k1y : loD L0 ⟨1, 1, 1⟩ = 0 := by decide +kernel
theorem k1x : hiD L0 ⟨1, 1, 1⟩ = 4 := by decide +kernel
theorem k1w : Wq L0 ⟨1, 1, 1⟩ = Rat.divInt 16 3 := by decide +kernel
theorem j2q : rtx (Rat.divInt 16 3) = [49, 54, 47, 51] := by
 unfold rtx
 rw [if_neg (by decide +kernel)]
 have e1 : (Rat.divInt 16 3).num = 16 := by decide +kernel
 have e2 : (Rat.divInt 16 3).den = 3 := by decide +kernel
 rw [e1, e2, Na.itoa_pos (by decide)]
 show Lib.decDigits 16 ++ 47 :: Lib.decDigits 3 = _
 rw [K1w, dd3]; rfl
theorem K1X : CtrA Tryz.prog 18 [ts L0] (j0m [vS [49, 54, 47, 51], zA ⟨1, 1, 1⟩ 0 4, vi 0]) := by
 have h := z0f L0 (.inl xE)
 unfold wtx dW aW bW at h
 rw [if_pos z0H, if_pos z0H, if_pos z0H, if_pos z0H, z0H, y1h, k1y, k1x, k1w, j2q] at h
 exact h
theorem Y1h : loS L0 ⟨1, 1, 1⟩ = [0] := by decide +kernel
theorem Q1V : hiS L0 ⟨1, 1, 1⟩ = [1, 2, 3] := by decide +kernel
theorem K1V : CtrA Tryz.prog 20 [ts L0] (j0m [idx [0], idx [1, 2, 3], vi 0]) := by
 have h := Z0l L0 (.inl xE)
 unfold cLo cHi at h
 rw [if_pos z0H, if_pos z0H, z0H, y1h, Y1h, Q1V] at h
 exact h
theorem Y1g : q1s L0 3 = 0 := by decide +kernel
theorem Y1f : q1s L0 2 = 0 := by decide +kernel
theorem K1T : CtrA Tryz.prog 23 [ts L0, vi 3] (j0m [vb true, vi 0]) := by
 have h := Y0g L0 3 (.inl xE)
 have e : inW L0 3 = true := by
  unfold inW
  rw [if_pos Y1g, y1h, k1w]; decide +kernel
 rw [e, Y1g] at h
 exact h
theorem K1S : CtrA Tryz.prog 23 [ts L0, vi 2] (j0m [vb false, vi 0]) := by
 have h := Y0g L0 2 (.inl xE)
 have e : inW L0 2 = false := by
  unfold inW
  rw [if_pos Y1f, y1h, k1w]; decide +kernel
 rw [e, Y1f] at h
 exact h
theorem K1U : CtrA Tryz.prog 33 [ts L0, tp ⟨0, 0, 1⟩] (j0m [zA ⟨0, 0, 1⟩ 0 4, vi 0]) := by
 have h := w1Z L0 ⟨0, 0, 1⟩
 have e : x1d L0 ⟨0, 0, 1⟩ = 0 := by decide +kernel
 rw [Z0k e, e, show loD L0 ⟨0, 0, 1⟩ = 0 by decide +kernel, show hiD L0 ⟨0, 0, 1⟩ = 4 by decide +kernel] at h
 exact h
theorem K1W : CtrA Tryz.prog 14 [zA ⟨0, 0, 1⟩ 0 4] (j0m [vS [49, 54], vi 0]) := by
 have h := k0Q ⟨0, 0, 1⟩ 0 4 ⟨by decide, by decide, by decide⟩ xE xE
 have e : zE ⟨0, 0, 1⟩ 0 4 = 0 := by decide +kernel
 unfold zT at h
 rw [if_pos e, e, show zQ ⟨0, 0, 1⟩ 0 4 = ((16 : Int) : Rat) by decide +kernel, W0p, Na.itoa_pos (by decide)] at h
 rw [show (16 : Int).natAbs = 16 from rfl, K1w] at h
 exact h
theorem K1R : CtrA Tryz.prog 18 [ts L1] (j0m [vS [], zA tz 0 0, vi 14]) := by
 have h := z0f L1 (.inl xE)
 have e : x0h L1 = 14 := by decide +kernel
 unfold wtx dW aW bW at h
 rw [e, if_neg (by decide), if_neg (by decide), if_neg (by decide), if_neg (by decide)] at h
 exact h
theorem K1Q : CtrA Tryz.prog 18 [ts L2] (j0m [vS [48], zA ⟨0, 0, 1⟩ 0 0, vi 0]) := by
 have h := z0f L2 (.inl xE)
 have e : x0h L2 = 0 := by decide +kernel
 have e1 : lm L2 = ⟨0, 0, 1⟩ := by decide +kernel
 unfold wtx dW aW bW at h
 rw [if_pos e, if_pos e, if_pos e, if_pos e, e, e1, show loD L2 ⟨0, 0, 1⟩ = 0 by decide +kernel, show hiD L2 ⟨0, 0, 1⟩ = 0 by decide +kernel, show Wq L2 ⟨0, 0, 1⟩ = 0 by decide +kernel, rtx_0] at h
 exact h
theorem X1E (V : List Nat) (h : V.length ≤ 1000000) : CtrA Tryz.prog 22 [idx V, idx V] (vb true) := by
 have q := Q1r (fun i => ((gi V i : Nat) : Int)) (fun i => ((gi V i : Nat) : Int)) V.length V.length h
 rw [show eqB (fun i => ((gi V i : Nat) : Int)) V.length (fun i => ((gi V i : Nat) : Int)) V.length = true by unfold eqB; simp] at q
 exact q
theorem J1n (a : Int) : Tryz.prog.built 53 [(0, .int .i64 a)] = some #[.int .i64 a, .int .i64 0, .int .i64 0] := by kernel_rfl
theorem J1o (a : Int) : Tryz.prog.built 53 [(1, .int .i64 a)] = some #[.int .i64 0, .int .i64 a, .int .i64 0] := by kernel_rfl
theorem Z1o (a : Int) : Tryz.prog.built 53 [(2, .int .i64 a)] = some #[.int .i64 0, .int .i64 0, .int .i64 a] := by kernel_rfl
theorem k1W (x y z b : Int) : Tryz.prog.built 24 [(0, .agg #[.int .i64 x, .int .i64 y, .int .i64 z]), (2, .int .i64 b)] = some #[.int .i64 x, .int .i64 y, .int .i64 z, .int .i64 0, .int .i64 b] := by kernel_rfl
theorem Z1w (a b c d e f g h i j k l : Int) (w : World) : (Instr.buildSlice 34 4 #[(0, .agg #[.int .i64 a, .int .i64 b, .int .i64 c]), (1, .agg #[.int .i64 d, .int .i64 e, .int .i64 f]), (2, .agg #[.int .i64 g, .int .i64 h, .int .i64 i]), (3, .agg #[.int .i64 j, .int .i64 k, .int .i64 l])]).run Tryz.prog w = .ok (.slice (some ⟨w.heap.size, 0, none⟩) 4 4) (w.alloc (.cells #[.int .i64 a, .int .i64 b, .int .i64 c, .int .i64 d, .int .i64 e, .int .i64 f, .int .i64 g, .int .i64 h, .int .i64 i, .int .i64 j, .int .i64 k, .int .i64 l] 53)) := by kernel_rfl
theorem J1t (a b c d e f g h i : Int) (w : World) : (Instr.buildSlice 34 3 #[(0, .agg #[.int .i64 a, .int .i64 b, .int .i64 c]), (1, .agg #[.int .i64 d, .int .i64 e, .int .i64 f]), (2, .agg #[.int .i64 g, .int .i64 h, .int .i64 i])]).run Tryz.prog w = .ok (.slice (some ⟨w.heap.size, 0, none⟩) 3 3) (w.alloc (.cells #[.int .i64 a, .int .i64 b, .int .i64 c, .int .i64 d, .int .i64 e, .int .i64 f, .int .i64 g, .int .i64 h, .int .i64 i] 53)) := by kernel_rfl
def cells (l : List Tr) : List Value := l.flatMap fun p => [.int .i64 p.x, .int .i64 p.y, .int .i64 p.z]
theorem tf4 (p q r s : Tr) : ∀ i, i < 4 → ∀ j, j < 3 → ∃ u, (cells [p, q, r, s])[i * 3 + j]? = some u ∧ tf [p, q, r, s] i j = .val u := by
 intro i hi j hj
 rcases (by omega : i = 0 ∨ i = 1 ∨ i = 2 ∨ i = 3) with rfl | rfl | rfl | rfl <;> rcases (by omega : j = 0 ∨ j = 1 ∨ j = 2) with rfl | rfl | rfl <;> exact ⟨_, rfl, rfl⟩
theorem tf3 (p q r : Tr) : ∀ i, i < 3 → ∀ j, j < 3 → ∃ u, (cells [p, q, r])[i * 3 + j]? = some u ∧ tf [p, q, r] i j = .val u := by
 intro i hi j hj
 rcases (by omega : i = 0 ∨ i = 1 ∨ i = 2) with rfl | rfl | rfl <;> rcases (by omega : j = 0 ∨ j = 1 ∨ j = 2) with rfl | rfl | rfl <;> exact ⟨_, rfl, rfl⟩
theorem W1k (w : World) : (Instr.buildSlice 40 3 #[(0, .int .i64 1), (1, .int .i64 2), (2, .int .i64 3)]).run Tryz.prog w = .ok (.slice (some ⟨w.heap.size, 0, none⟩) 3 3) (w.alloc (.cells #[.int .i64 1, .int .i64 2, .int .i64 3] 3)) := by kernel_rfl
theorem xf3 : ∀ i, i < 3 → ∀ j, j < 1 → ∃ u, [Value.int .i64 1, .int .i64 2, .int .i64 3][i * 1 + j]? = some u ∧ xf [1, 2, 3] i j = .val u := by
 intro i hi j hj
 obtain rfl : j = 0 := by omega
 rcases (by omega : i = 0 ∨ i = 1 ∨ i = 2) with rfl | rfl | rfl <;> exact ⟨_, rfl, rfl⟩
theorem k1h : CtrA Tryz.prog 16 [] (vb true) := by
 have a1 := K1X; have a2 := K1V; have a3 := K1T; have a4 := K1S; have a5 := K1U; have a6 := K1W; have a7 := K1R; have a8 := K1Q
 have a9 := X1E [0] xE
 have a10 := X1E [1, 2, 3] xE
 refine j0l _ Tryz.func16 rfl rfl Tryz.ntmps16 rfl fun w Z => ?_
 refine xU ?_
 have q1 : (([49, 54, 47, 51] : List UInt8) == [49, 54, 47, 51]) = true := by decide
 have q2 : (([49, 54] : List UInt8) == [49, 54]) = true := by decide
 have q3 : (([48] : List UInt8) == [48]) = true := by decide
 refine wt ?_
 repeat' (first
   |(refine Q0P (Q0M (xs := [_, _, _, _, _]) (ys := [_, _, _, _, _]) rfl rfl rfl rfl) rfl rfl rfl ?_; refine wt ?_)
   |(refine Q0P (j0k (t := 22) (is := [0, 1, 2]) (xs := [_, _, _]) (vs := [_, _, _]) (k1V _ _ _) rfl rfl) rfl rfl rfl ?_; refine wt ?_)
   |(refine Q0P (j0w (us := [.int _ _, .int _ _, .int _ _, .int _ _, .int _ _]) rfl rfl rfl rfl) rfl rfl rfl ?_; refine wt ?_)
   |(refine j0o (j0k (t := 53) (is := [0]) (xs := [_]) (vs := [_]) (J1n _) rfl rfl) rfl ?_; refine wt ?_)
   |(refine j0o (j0k (t := 53) (is := [1]) (xs := [_]) (vs := [_]) (J1o _) rfl rfl) rfl ?_; refine wt ?_)
   |(refine j0o (j0k (t := 53) (is := [2]) (xs := [_]) (vs := [_]) (Z1o _) rfl rfl) rfl ?_; refine wt ?_)
   |(refine Q0P (j0k (t := 24) (is := [0, 2]) (xs := [_, _]) (vs := [.agg #[.int .i64 _, .int .i64 _, .int .i64 _], .int .i64 _]) (k1W _ _ _ _) rfl rfl) rfl rfl rfl ?_; refine wt ?_)
   |(refine j0o (q0b (is := [0, 1, 2, 3]) (xs := [_, _, _, _]) (vs := [_, _, _, _]) (us := cells L0) (row := tf L0) (Z1w 0 0 0 4 0 0 0 4 0 0 0 4) rfl rfl rfl (tf4 _ _ _ _)) rfl ?_; refine wt ?_))
 rw [q1]
 refine wt ?_
 try rw [q2]
 refine wt ?_
 refine j0o (q0b (is := [0, 1, 2]) (xs := [_, _, _]) (vs := [_, _, _]) (us := cells L1) (row := tf L1) (J1t 0 0 0 1 0 0 5 0 0) rfl rfl rfl (tf3 _ _ _)) rfl ?_
 refine wt ?_
 repeat' (first
   |(refine j0o (j0k (t := 53) (is := [0]) (xs := [_]) (vs := [_]) (J1n _) rfl rfl) rfl ?_; refine wt ?_)
   |(refine j0o (j0k (t := 53) (is := [1]) (xs := [_]) (vs := [_]) (J1o _) rfl rfl) rfl ?_; refine wt ?_))
 refine j0o (q0b (is := [0, 1, 2]) (xs := [_, _, _]) (vs := [_, _, _]) (us := cells L2) (row := tf L2) (J1t 0 0 0 1 0 0 0 5 0) rfl rfl rfl (tf3 _ _ _)) rfl ?_
 refine wt ?_
 refine Q0P (q0b (is := [0, 1, 2]) (xs := [_, _, _]) (vs := [_, _, _]) (us := [.int .i64 1, .int .i64 2, .int .i64 3]) (row := xf [1, 2, 3]) W1k rfl rfl rfl xf3) rfl rfl rfl ?_
 refine wt ?_
 exact xV
end Go.Proofs.YtgblokifbgeegaaGreatDoor.H.S
