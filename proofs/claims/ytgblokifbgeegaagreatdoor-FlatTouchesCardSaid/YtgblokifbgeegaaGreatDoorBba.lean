/- A part of the proof. -/
import Derived.Test.YtgblokifbgeegaaGreatDoorBat
import Derived.Test.YtgblokifbgeegaaGreatDoorBau
import Derived.Test.YtgblokifbgeegaaGreatDoorBax
set_option linter.unusedVariables false
set_option linter.unusedSimpArgs false
section
end
section
end
section
end
section
end
namespace Go.Proofs.YtgblokifbgeegaaGreatDoor.H.S
open Go Go.Vc
def v0z (l : List Tr) (s : List Nat) : List Tr := s.map (gt l)
theorem x0O {l : List Tr} {s : List Nat} {a : Nat} (h : a ∈ s) : ∃ i, i < (v0z l s).length ∧ gt (v0z l s) i = gt l a := by
 obtain ⟨i, hi, e⟩ := List.getElem_of_mem h
 refine ⟨i, by unfold v0z; simpa using hi, ?_⟩
 unfold v0z gt
 simp [List.getD, hi, e]
theorem y1D {l : List Tr} {s : List Nat} {i : Nat} (h : i < (v0z l s).length) : ∃ a, a ∈ s ∧ gt (v0z l s) i = gt l a := by
 have hi : i < s.length := by unfold v0z at h; simpa using h
 refine ⟨s[i], List.getElem_mem hi, ?_⟩
 unfold v0z gt
 simp [List.getD, hi]
def loS (l : List Tr) (d : Tr) : List Nat := (List.range l.length).filter (loB l d)
def hiS (l : List Tr) (d : Tr) : List Nat := (List.range l.length).filter (hiB l d)
theorem w0u {l : List Tr} {d : Tr} {i : Nat} : i ∈ loS l d ↔ Lo l d i := by unfold loS loB Lo; rw [List.mem_filter, List.mem_range, decide_eq_true_eq]
theorem x0a {l : List Tr} {d : Tr} {i : Nat} : i ∈ hiS l d ↔ Hi l d i := by unfold hiS hiB Hi; rw [List.mem_filter, List.mem_range, decide_eq_true_eq]
theorem Z1o {l : List Tr} {s : List Nat} {d : Tr} (hd : d ≠ tz) {M : Int} (h : ∀ a ∈ s, j0c d (gt l a) = M) : ¬ Sol (v0z l s) := fun hS => by
 obtain ⟨i, hi, hn⟩ := x0q hS hd M
 obtain ⟨a, ha, e⟩ := y1D hi
 rw [e] at hn
 exact hn (h a ha)
theorem Z0p {l : List Tr} {s : List Nat} {a b c : Nat} (ha : a ∈ s) (hb : b ∈ s) (hc : c ∈ s) (hn : tcr (dv l a b) (dv l a c) ≠ tz) : J0c (v0z l s) := by
 obtain ⟨i, hi, ei⟩ := x0O (l := l) ha
 obtain ⟨j, hj, ej⟩ := x0O (l := l) hb
 obtain ⟨k, hk, ek⟩ := x0O (l := l) hc
 exact ⟨i, j, k, hi, hj, hk, by rw [ei, ej, ek]; exact hn⟩
theorem y1G {l : List Tr} {s : List Nat} {a b : Nat} (ha : a ∈ s) (hb : b ∈ s) (hn : gt l a ≠ gt l b) : 1 ≤ rA (v0z l s) (v0z l s).length := by
 obtain ⟨i, hi, ei⟩ := x0O (l := l) ha
 obtain ⟨j, hj, ej⟩ := x0O (l := l) hb
 exact j2M hi hj (by rw [ei, ej]; exact hn)
theorem k0F {l : List Tr} {s : List Nat} {a : Nat} (ha : a ∈ s) : 0 ≤ rA (v0z l s) (v0z l s).length := by
 obtain ⟨i, hi, _⟩ := x0O (l := l) ha
 exact j2L xO
theorem touches {l : List Tr} (hw : J0c l) {m : Tr} (h : MinD l m) : 0 ≤ rA (v0z l (loS l m)) (v0z l (loS l m)).length ∧ 0 ≤ rA (v0z l (hiS l m)) (v0z l (hiS l m)).length ∧ 2 ≤ rA (v0z l (loS l m)) (v0z l (loS l m)).length + rA (v0z l (hiS l m)) (v0z l (hiS l m)).length := by
 have h0 : 0 < l.length := by obtain ⟨a, _, _, ha, _⟩ := hw; omega
 obtain ⟨p, hp, ep⟩ := w0J m h0
 obtain ⟨q, hq, eq⟩ := x0n m h0
 have r1 := k0F (l := l) (w0u.2 (⟨hp, ep⟩ : Lo l m p))
 have r2 := k0F (l := l) (x0a.2 (⟨hq, eq⟩ : Hi l m q))
 refine ⟨r1, r2, ?_⟩
 have two : ∀ {s : List Nat} {a b c e : Nat}, a ∈ s → b ∈ s → c ∈ s → e ∈ s → tcr (dv l a b) (dv l c e) ≠ tz → rA (v0z l s) (v0z l s).length = 2 := fun {s a b c e} ha hb hc he hn => by
  rcases Y0M hn with q | q
  ·exact k1r (Z0p ha hb hc q)
  ·exact k1r (Z0p ha hb he q)
 have one : ∀ {s : List Nat} {a b : Nat}, a ∈ s → b ∈ s → dv l a b ≠ tz → 1 ≤ rA (v0z l s) (v0z l s).length := fun {s a b} ha hb hn =>
  y1G ha hb fun e => hn (by unfold dv; rw [e]; simp [j0D, tz])
 have nz : ∀ {a b c e : Nat}, tcr (dv l a b) (dv l c e) ≠ tz → dv l a b ≠ tz ∧ dv l c e ≠ tz := fun {a b c e} hn => ⟨fun e => hn (by rw [e]; simp [tcr, tz]), fun e => hn (by rw [e]; simp [tcr, tz])⟩
 by_cases hS : Sol l
 ·obtain ⟨a, b, c, e, h1, h2, hn⟩ := V1C hS h
  rcases h1 with ⟨ha, hb⟩ | ⟨ha, hb⟩ <;> rcases h2 with ⟨hc, he⟩ | ⟨hc, he⟩
  ·have := two (w0u.2 ha) (w0u.2 hb) (w0u.2 hc) (w0u.2 he) hn; omega
  ·have q1 := one (w0u.2 ha) (w0u.2 hb) (nz hn).1
   have q2 := one (x0a.2 hc) (x0a.2 he) (nz hn).2
   omega
  ·have q1 := one (x0a.2 ha) (x0a.2 hb) (nz hn).1
   have q2 := one (w0u.2 hc) (w0u.2 he) (nz hn).2
   omega
  ·have := two (x0a.2 ha) (x0a.2 hb) (x0a.2 hc) (x0a.2 he) hn; omega
 ·have hz := (Q1l hw h).2 hS
  have hwz : wdt l m = 0 := by
   have px : (0 : Rat) < ((j0c m m : Int) : Rat) := by exact_mod_cast q0p h.1
   unfold Wq at hz
   have h2 := congrArg (· * ((j0c m m : Int) : Rat)) hz
   simp only [Rat.div_def, Rat.zero_mul] at h2
   rw [Rat.mul_assoc, Rat.mul_comm (((j0c m m : Int) : Rat)⁻¹), Rat.mul_inv_cancel _ (by grind), Rat.mul_one] at h2
   have h3 : wdt l m * wdt l m = 0 := by exact_mod_cast h2
   rcases Int.mul_eq_zero.1 h3 with h | h <;> exact h
  obtain ⟨a, b, c, ha, hb, hc, hn⟩ := hw
  have all : ∀ i, i < l.length → i ∈ loS l m := fun i hi => w0u.2 ⟨hi, by
   have h1 := x0e m hi
   have h2 := w0I m hi
   unfold wdt at hwz; omega⟩
  have := k1r (Z0p (l := l) (all a ha) (all b hb) (all c hc) hn)
  omega
end Go.Proofs.YtgblokifbgeegaaGreatDoor.H.S
namespace Go.Proofs.YtgblokifbgeegaaGreatDoor.H.S
open Go Go.Vc
set_option maxHeartbeats 1000000
def cK (g : List Tr) (i k : Nat) : List Tr := (List.range k).filterMap fun k => if tcr (gt g i) (gt g k) = tz then none else some (q0R (tcr (gt g i) (gt g k)))
def cI (g : List Tr) (n : Nat) : List Tr := (List.range n).flatMap fun i => cK g i i
theorem Z0A (g : List Tr) : cI g g.length = j0T g := rfl
theorem J0F (g : List Tr) (i k : Nat) : cK g i (k + 1) = cK g i k ++ if tcr (gt g i) (gt g k) = tz then [] else [q0R (tcr (gt g i) (gt g k))] := by
 unfold cK
 rw [List.range_succ, List.filterMap_append]
 congr 1
 by_cases h : tcr (gt g i) (gt g k) = tz
 ·simp [h]
 ·simp [h]
theorem z0l (g : List Tr) (n : Nat) : cI g (n + 1) = cI g n ++ cK g n n := by unfold cI; rw [List.range_succ, List.flatMap_append]; simp
theorem j2r (g : List Tr) (i : Nat) : cK g i 0 = [] := rfl
theorem x1u {l L : List Tr} {d : Tr} : w0O l (L ++ [d]) = z0j l (w0O l L) d := by unfold w0O; rw [List.foldl_append]; rfl
theorem X0w {l : List Tr} (hl : RT l) : ∀ v ∈ w0l l, BT 200000 v := fun v hv => by
 obtain ⟨i, k, _, _, rfl⟩ := J0r.1 hv
 exact (hl i).sub (hl k)
theorem z1m {A : Int} {d : Tr} (h : BT A d) : BT A (j0N d (-1)) := by
 obtain ⟨⟨a, b⟩, ⟨c, e⟩, ⟨f, g⟩⟩ := h
 refine ⟨⟨?_, ?_⟩, ⟨?_, ?_⟩, ⟨?_, ?_⟩⟩ <;> simp only [j0N] <;> omega
theorem V0M {A : Int} {d : Tr} (h : BT A d) : BT A (q0R d) := by
 unfold q0R
 split
 ·exact z1m h.pr
 ·exact h.pr
def dvs (l : List Tr) : List Tr := (List.range l.length).map fun i => dv l 0 i
def flatD (l : List Tr) : List Tr := (j0T (dvs l)).take 1
def x0V (l : List Tr) : List Tr := if (spn l).dim = 3 then X1G l (j1l l) else flatD l
theorem z0J {l : List Tr} {i : Nat} (h : i < l.length) : gt (dvs l) i = dv l 0 i := by unfold gt dvs; simp [List.getD, h]
theorem V0W (l : List Tr) : (dvs l).length = l.length := by unfold dvs; simp
theorem flatD_at {l : List Tr} {i k : Nat} (hi : i < l.length) (hk : k < i) (h0 : cI (dvs l) i ++ cK (dvs l) i k = []) (hn : tcr (dv l 0 i) (dv l 0 k) ≠ tz) : flatD l = [q0R (tcr (dv l 0 i) (dv l 0 k))] := by
 have h1 : ∀ n, i < n → n ≤ l.length → ∃ t, cI (dvs l) n = q0R (tcr (dv l 0 i) (dv l 0 k)) :: t := by
  intro n
  induction n with
  |zero => intro h; omega
  |succ n ih =>
   intro h hl
   by_cases e : i = n
   ·subst e
    have h2 : ∀ m, k < m → ∃ t, cI (dvs l) i ++ cK (dvs l) i m = q0R (tcr (dv l 0 i) (dv l 0 k)) :: t := by
     intro m
     induction m with
     |zero => intro h; omega
     |succ m ihm =>
      intro hm
      by_cases e : k = m
      ·subst e
       rw [J0F, ← List.append_assoc, h0, z0J hi, z0J (by omega), if_neg hn]
       exact ⟨[], rfl⟩
      ·obtain ⟨t, ht⟩ := ihm xO
       rw [J0F, ← List.append_assoc, ht]
       exact ⟨_, rfl⟩
    rw [z0l]
    exact h2 i hk
   ·obtain ⟨t, ht⟩ := ih xO xO
    rw [z0l, ht]
    exact ⟨_, rfl⟩
 obtain ⟨t, ht⟩ := h1 l.length hi (Nat.le_refl _)
 unfold flatD
 rw [← Z0A, V0W, ht]; rfl
theorem w1C (l : List Tr) (a b c : Nat) : tac (gt l a) (gt l b) (gt l c) = tcr (dv l a b) (dv l a c) := by unfold tac dv; rfl
theorem j1h {l : List Tr} (h : J0c l) : ∃ i k, i < l.length ∧ k < i ∧ tcr (dv l 0 i) (dv l 0 k) ≠ tz := by
 refine Classical.byContradiction fun hno => ?_
 have h0 : ∀ i k, i < l.length → k < l.length → tcr (dv l 0 i) (dv l 0 k) = tz := fun i k hi hk => by
  refine Classical.byContradiction fun hn => ?_
  rcases (by omega : k < i ∨ i < k ∨ i = k) with h1 | h1 | h1
  ·exact hno ⟨i, k, hi, h1, hn⟩
  ·exact hno ⟨k, i, hk, h1, fun e => hn (by rw [W0H, e]; rfl)⟩
  ·subst h1; exact hn (K0a _)
 obtain ⟨a, b, c, ha, hb, hc, hn⟩ := h
 refine hn ?_
 have e : tac (gt l a) (gt l b) (gt l c) = j0D (j0D (tcr (dv l 0 b) (dv l 0 c)) (tcr (dv l 0 b) (dv l 0 a))) (tcr (dv l 0 a) (dv l 0 c)) := by
  simp only [tac, dv, j0D, tcr, Tr.mk.injEq]; refine ⟨?_, ?_, ?_⟩ <;> grind
 rw [e, h0 b c hb hc, h0 b a hb ha, h0 a c ha hc]; rfl
theorem flatD_ex {l : List Tr} (h : J0c l) : ∃ i k, i < l.length ∧ k < l.length ∧ tcr (dv l 0 i) (dv l 0 k) ≠ tz ∧ flatD l = [q0R (tcr (dv l 0 i) (dv l 0 k))] := by
 obtain ⟨i, k, hi, hk, hn⟩ := j1h h
 have hm : q0R (tcr (gt (dvs l) i) (gt (dvs l) k)) ∈ j0T (dvs l) := q0g.2 ⟨i, k, by rw [V0W]; exact hi, hk, by rw [z0J hi, z0J (by omega)]; exact hn, rfl⟩
 cases hc : j0T (dvs l) with
 |nil => rw [hc] at hm; cases hm
 |cons d t =>
  obtain ⟨i, k, hi, hk, hn, e⟩ := q0g.1 (show d ∈ j0T (dvs l) by rw [hc]; simp)
  rw [V0W] at hi
  rw [z0J hi, z0J (by omega)] at hn e
  exact ⟨i, k, hi, by omega, hn, by unfold flatD; rw [hc, e]; rfl⟩
theorem j1z {l : List Tr} (h : J0c l) (hS : ¬ Sol l) : w0O l (flatD l) = w0O l (j0T (w0l l)) := by
 obtain ⟨i, k, hi, hk, hn, e⟩ := flatD_ex h
 have h0 : 0 < l.length := by omega
 have hm := x0D h0 hi h0 hk hn
 rw [e]
 obtain ⟨y, hy, hyl, _⟩ := y0x (l := l) (L := j0T (w0l l)) v0O (fun he => by rw [he] at hm; cases hm)
 rw [hy]
 show some _ = some y
 congr 1
 have hw : tac (gt l 0) (gt l i) (gt l k) ≠ tz := by rw [w1C]; exact hn
 have q1 := (flat_gap hS h0 hi hk hw _ hm).1
 have q2 := (flat_gap hS h0 hi hk hw _ hyl).1
 obtain ⟨a, b, _, _, hab, rfl⟩ := q0g.1 hyl
 rw [← J0G hn, ← J0G hab]
 exact x0i (q0D hn) (q0D hab) (x0W hw q1 q2)
theorem j1y {l : List Tr} (hl : RT l) (h7 : l.length ≤ 7) (h : J0c l) : w0O l (x0V l) = w0O l (j0T (w0l l)) := by
 unfold x0V
 by_cases hd : (spn l).dim = 3
 ·rw [if_pos hd]
  exact j1C ⟨hl, h7, (q0T l).1 hd⟩
 ·rw [if_neg hd]
  exact j1z h (fun hS => hd ((q0T l).2 hS))
theorem Z0M (l : List Tr) : J0c l ↔ 2 ≤ (spn l).dim := by
 have h := SpI.to l l.length (Nat.le_refl _)
 have e : J0y l l.length = spn l := rfl
 rw [e] at h
 constructor
 ·rintro ⟨a, b, c, ha, hb, hc, hn⟩
  rcases h.rg with h1 | h1 | h1 | h1 | h1
  ·have := h.no h1; omega
  ·exact absurd (by rw [h.d0 h1 a ha, h.d0 h1 b hb]; exact w1B _ _) hn
  ·exfalso
   obtain ⟨hw, hp⟩ := h.d1 h1
   have q1 := W0G _ _ _ _ (hp a ha) (hp b hb)
   have q2 := W0G _ _ _ _ (hp a ha) (hp c hc)
   refine hn ?_
   rw [w1C]
   exact x0W hw q1 q2
  ·omega
  ·omega
 ·intro h2
  rcases h.rg with h1 | h1 | h1 | h1 | h1
  ·omega
  ·omega
  ·omega
  ·obtain ⟨hw, _⟩ := h.d2 h1
   obtain ⟨i0, hi0, ep⟩ := h.pt xO
   obtain ⟨i, j, hi, hj, g, hg, hp⟩ := h.w2 h1
   refine ⟨i0, i, j, hi0, hi, hj, fun e => ?_⟩
   rw [w1C] at e
   unfold dv at e
   rw [ep] at e
   have := hp (spn l).way
   rw [e, W1s] at this
   have h3 := q0p hw
   have h4 := Int.mul_ne_zero hg (show j0c (spn l).way (spn l).way ≠ 0 by omega)
   omega
  ·obtain ⟨a, b, c, d, ha, hb, hc, hd, hs⟩ := (q0T l).1 h1
   exact ⟨a, b, c, ha, hb, hc, fun e => hs (z0b e _)⟩
theorem z1f {l : List Tr} (h : Sol l) : J0c l := by
 obtain ⟨a, b, c, d, ha, hb, hc, hd, hs⟩ := h
 exact ⟨a, b, c, ha, hb, hc, fun e => hs (z0b e _)⟩
def rkI (l : List Tr) : Int := if (spn l).dim = 3 then 3 else rA l l.length
theorem V1V (l : List Tr) : 2 ≤ rkI l ↔ J0c l := by
 unfold rkI
 by_cases h : (spn l).dim = 3
 ·rw [if_pos h]
  exact ⟨fun _ => z1f ((q0T l).1 h), fun _ => by omega⟩
 ·rw [if_neg h]
  have := V1N l l.length
  exact ⟨fun h2 => V1O (by omega), fun hw => by rw [k1r hw]; omega⟩
theorem K1T (l : List Tr) : 2 ≤ rkI l ↔ 2 ≤ (spn l).dim := (V1V l).trans (Z0M l)
def lm (l : List Tr) : Tr := (w0O l (j0T (w0l l))).getD tz
theorem V1w {l : List Tr} (h : J0c l) : w0O l (j0T (w0l l)) = some (lm l) := by
 obtain ⟨m, hm, _⟩ := V0H h
 unfold lm; rw [hm]; rfl
theorem Y1D {l : List Tr} (h : J0c l) : lm l ∈ j0T (w0l l) := by
 obtain ⟨m, hm, h2, _⟩ := V0H h
 unfold lm; rw [hm]; exact h2
theorem Y1E {l : List Tr} (h : J0c l) : MinD l (lm l) := by
 obtain ⟨m, hm, _, h2⟩ := V0H h
 unfold lm; rw [hm]; exact h2
theorem J0j {g : List Tr} (hg : ∀ v ∈ g, BT 200000 v) : ∀ d ∈ j0T g, BT 80000000000 d := fun d hd => by
 obtain ⟨i, k, hi, hk, _, rfl⟩ := q0g.1 hd
 have h1 : gt g i ∈ g := by unfold gt; simp [List.getD, hi]
 have h2 : gt g k ∈ g := by unfold gt; simp [List.getD, show k < g.length by omega]
 exact V0M (((hg _ h1).cr (hg _ h2)).le xE)
theorem Y1C {l : List Tr} (hl : RT l) (h : J0c l) : BT 80000000000 (lm l) := J0j (X0w hl) _ (Y1D h)
end Go.Proofs.YtgblokifbgeegaaGreatDoor.H.S
namespace Go.Proofs.YtgblokifbgeegaaGreatDoor.H.S
open Go Go.Vc Go.RowKit H.G Go.Sort
set_option maxHeartbeats 8000000
theorem Y0V {ety : TypeId} {Z : j0p} {w : World} {b cap : Nat} {arr : Array Value} {l d : List Int} {q : Nat} {os : Array Obj} (h2 : ¬ Z b) (h3 : w.heap[b]? = some (.cells arr ety (0, 0))) (h4 : l.length ≤ cap) (h5 : cap ≤ maxLen) (h6 : arr.size = cap * 1) (hd : d.length = l.length) {n' : Nat} (hn : n' ≤ l.length) {l' : List Int} (hl : ∀ i, i < n' → gz d i = gz l' i) :
  w.grownBy (grow (putRow (Value.int .i64) (Sort.ahead w q) b 0 d.toArray) os) (some b) ∧ RowAt (grow (putRow (Value.int .i64) (Sort.ahead w q) b 0 d.toArray) os) Z ety 1 n' (zf l') (.slice (some ⟨b, 0, none⟩) n' cap) := by
 have hb := (Array.getElem?_eq_some_iff.1 h3).1
 refine ⟨⟨rfl, rfl, rfl, by simp [grow, putRow, mapBlock, Sort.ahead], fun k hk hne => ?_⟩, .inr ⟨b, cap, putCells (Value.int .i64) 0 d.toArray arr, rfl, h2, ?_, by omega, h5, ?_, fun i hi j hj => ?_⟩⟩
 ·rw [heap_grow_old _ _ (by simpa [putRow, mapBlock, Sort.ahead] using hk)]
  have : b ≠ k := fun e => hne (by rw [e])
  simp [putRow, mapBlock, Sort.ahead, Array.getElem?_modify, this]
 ·rw [heap_grow_old _ _ (by simpa [putRow, mapBlock, Sort.ahead] using hb)]
  simp [putRow, mapBlock, Sort.ahead, Array.getElem?_modify, h3, onCells]
 ·simp [putCells, h6]
 ·obtain rfl : j = 0 := by omega
  refine ⟨.int .i64 (gz l' i), ?_, rfl⟩
  have hal : i < arr.size := by omega
  simp only [putCells, Nat.mul_one, Nat.add_zero]
  rw [Array.getElem?_mapIdx, Array.getElem?_eq_getElem hal]
  simp only [Option.map_some]
  rw [if_pos ⟨Nat.zero_le _, by simp; omega⟩, ← hl i hi]
  have hid : i < d.toArray.size := by simp; omega
  rw [Nat.sub_zero, getElem!_pos d.toArray i hid]
  simp [gz, List.getD, show i < d.length by omega]
theorem Q0x {ety : TypeId} {Z : j0p} {w : World} {b : Nat} {arr : Array Value} {l : List Int} (h3 : w.heap[b]? = some (.cells arr ety (0, 0))) (h7 : ∀ i, i < l.length → ∀ j, j < 1 → ∃ u, arr[i * 1 + j]? = some u ∧ (zf l i j).ok Z w u) : Holds (Value.int .i64) w b 0 l.toArray := by
 intro j hj
 have hj' : j < l.length := by simpa using hj
 obtain ⟨u, hu, hk⟩ := h7 j hj' 0 xO
 obtain rfl : u = .int .i64 (gz l j) := hk
 refine ⟨?_, by simp [World.frozen?, h3]⟩
 simp only [World.cell?, h3, Nat.zero_add]
 rw [getElem!_pos l.toArray j hj]
 simp only [Nat.mul_one, Nat.add_zero] at hu
 simpa [gz, List.getD, hj'] using hu
theorem X0X (ety : TypeId) (l : List Int) (hn : l.length ≤ 1000000) : CtrW Tryz.prog 200 [] ety 1 l.length (zf l) l.length (zf (x0v l)) false := by
 refine ⟨w0T Tryz.func200 rfl rfl, fun w Z v vs hZ hvs hrow => ?_⟩
 match vs, hvs with
 |[], _ =>
  by_cases h0 : l.length = 0
  ·have hl : l = [] := List.eq_nil_of_length_eq_zero h0
   subst hl
   have hv : ∃ p cap, v = .slice p 0 cap := by
    rcases hrow with ⟨e, _⟩ | ⟨b, cap, arr, e, _⟩
    ·exact ⟨none, 0, e⟩
    ·exact ⟨_, cap, e⟩
   obtain ⟨p, cap, rfl⟩ := hv
   refine (Tryz.slices_Sort_int_none p cap w).mono ?_
   rintro e w' ⟨rfl, rfl⟩
   exact ⟨_, _, Z, rfl, rfl, ⟨rfl, rfl, rfl, Nat.le_refl _, fun _ _ _ => rfl⟩, fun _ h => h, fun _ h => .inl h, hZ.1, fun b hb => .inl hb, by
    rcases hrow with ⟨e, _⟩ | ⟨b, cap, arr, e, h2, h3, h4, h5, h6, h7⟩
    ·exact .inl ⟨e, rfl⟩
    ·exact .inr ⟨b, cap, arr, e, h2, h3, h4, h5, h6, fun i hi => by simp at hi⟩⟩
  ·rcases hrow with ⟨_, e⟩ | ⟨b, cap, arr, rfl, h2, h3, h4, h5, h6, h7⟩
   ·exact absurd e h0
   ·have hb := (Array.getElem?_eq_some_iff.1 h3).1
    refine (Tryz.slices_Sort_int b 0 cap l w (Q0x h3 h7) hb xO).mono ?_
    rintro e w' ⟨rfl, q, os, rfl⟩
    obtain ⟨hgr, hr⟩ := Y0V (Z := Z) (l := l) (d := x0v l) (q := q) (os := os) h2 h3 h4 h5 h6 (by unfold x0v; rw [List.length_mergeSort]) (Nat.le_refl _) (l' := x0v l) (fun _ _ => rfl)
    exact ⟨_, _, Z, rfl, rfl, hgr, fun _ h => h, fun _ h => .inl h, fun k hk => Nat.lt_of_lt_of_le (hZ.1 k hk) hgr.size, fun b hb => .inl hb, hr⟩
theorem w0y (ety : TypeId) (l : List Int) (hn : l.length ≤ 1000000) : CtrW Tryz.prog 201 [] ety 1 l.length (zf l) (Lib.compact l).length (zf (Lib.compact l)) true := by
 refine ⟨w0T Tryz.func201 rfl rfl, fun w Z v vs hZ hvs hrow => ?_⟩
 have hcl := Y0w l
 match vs, hvs with
 |[], _ =>
  by_cases h0 : l.length = 0
  ·have hl : l = [] := List.eq_nil_of_length_eq_zero h0
   subst hl
   have hv : ∃ p cap, v = .slice p 0 cap := by
    rcases hrow with ⟨e, _⟩ | ⟨b, cap, arr, e, _⟩
    ·exact ⟨none, 0, e⟩
    ·exact ⟨_, cap, e⟩
   obtain ⟨p, cap, rfl⟩ := hv
   refine (Tryz.slices_Compact_int_empty p cap w).mono ?_
   rintro e w' ⟨rfl, rfl⟩
   exact ⟨_, _, Z, rfl, rfl, ⟨rfl, rfl, rfl, Nat.le_refl _, fun _ _ _ => rfl⟩, fun _ h => h, fun _ h => .inl h, hZ.1, fun b hb => .inl hb, by
    rcases hrow with ⟨e, _⟩ | ⟨b, cap, arr, e, h2, h3, h4, h5, h6, h7⟩
    ·exact .inl ⟨e, rfl⟩
    ·exact .inr ⟨b, cap, arr, e, h2, h3, h4, h5, h6, fun i hi => absurd hi (by simp [Lib.compact, Lib.compactUpTo])⟩⟩
  ·rcases hrow with ⟨_, e⟩ | ⟨b, cap, arr, rfl, h2, h3, h4, h5, h6, h7⟩
   ·exact absurd e h0
   ·refine (Tryz.slices_Compact_int b 0 cap l w (Q0x h3 h7) xO h4).mono ?_
    rintro e w' ⟨rfl, q, rfl⟩
    obtain ⟨hgr, hr⟩ := Y0V (Z := Z) (l := l) (d := Lib.compact l ++ List.replicate (l.length - (Lib.compact l).length) 0) (q := q) (os := #[]) h2 h3 h4 h5 h6 (by simp; omega) hcl (l' := Lib.compact l) (fun i hi => Q0e hi)
    rw [grow_empty] at hgr hr
    exact ⟨_, _, Z, rfl, rfl, hgr, fun _ h => h, fun _ h => .inl h, fun k hk => Nat.lt_of_lt_of_le (hZ.1 k hk) hgr.size, fun b hb => .inl hb, hr⟩
theorem x1P (l : List Int) (i j : Nat) (hn : l.length ≤ 1000000) (h0 : 0 < l.length) (hij : i ≤ j) (hj : j ≤ l.length) : CtrW Tryz.prog 261 [.val (.int .i64 i), .val (.int .i64 j)] 3 1 l.length (zf l) (l.length - (j - i)) (zf (l.take i ++ l.drop j)) true := by
 refine ⟨w0T Tryz.func261 rfl rfl, fun w Z v vs hZ hvs hrow => ?_⟩
 match vs, hvs with
 |[v1, v2], ⟨h1, h2', _⟩ =>
  obtain rfl : v1 = .int .i64 i := h1
  obtain rfl : v2 = .int .i64 j := h2'
  rcases hrow with ⟨_, e⟩ | ⟨b, cap, arr, rfl, h2, h3, h4, h5, h6, h7⟩
  ·omega
  ·refine (Tryz.slices_Delete_int b 0 cap i j l w (Q0x h3 h7) h4 (Nat.le_trans h5 xE) hij hj).mono ?_
   rintro e w' ⟨rfl, q, rfl⟩
   obtain ⟨hgr, hr⟩ := Y0V (Z := Z) (l := l) (d := l.take i ++ l.drop j ++ List.replicate (j - i) 0) (q := q) (os := #[]) h2 h3 h4 h5 h6 (by simp; omega) (n' := l.length - (j - i)) (by omega) (l' := l.take i ++ l.drop j) (fun k hk => Q0e (by simp; omega))
   rw [grow_empty] at hgr hr
   exact ⟨_, _, Z, rfl, rfl, hgr, fun _ h => h, fun _ h => .inl h, fun k hk => Nat.lt_of_lt_of_le (hZ.1 k hk) hgr.size, fun b hb => .inl hb, hr⟩
end Go.Proofs.YtgblokifbgeegaaGreatDoor.H.S
namespace Go.Proofs.YtgblokifbgeegaaGreatDoor.H.S
open Go Go.Vc Go.RowKit H.G
set_option maxHeartbeats 8000000
theorem j2H (n : Int) : CtrA Tryz.prog 260 [vi n] (vb (decide (n ≠ 0))) := by
 refine j0n _ Tryz.func260 rfl rfl Tryz.ntmps260 rfl fun w Z => ?_
 refine xU ?_
 refine wt ?_
 exact j0e rfl (.tmp rfl) (congrArg vb (by rw [Bool.eq_iff_iff]; simp))
theorem k0m {g : Nat} {p : Int → Bool} (hg : ∀ n, CtrA Tryz.prog g [vi n] (vb (p n))) (l : List Int) (hn : l.length ≤ 100000) : CtrA Tryz.prog 176 [zs l, .val (.func (.func g) #[] #[])] (vi (ixB (fun k => p (gz l k)) l.length)) := by
 refine j0n _ Tryz.func176 rfl rfl Tryz.ntmps176 rfl fun w Z => ?_
 refine xU ?_
 refine wt ?_
 refine j0f (γ := Nat) (fun k => [(0, .av (zs l)), (1, .av (.val (.func (.func g) #[] #[]))), (6, .av (zs l)), (7, .av (vi l.length)), (8, .av (vi k))]) (fun _ => []) (fun k => k ≤ l.length ∧ ∀ j, j < k → p (gz l j) = false) (fun k => l.length - k) 0 ⟨Nat.zero_le _, by omega⟩ (ent xS trivial) ?_
 rintro k ⟨hk, hall⟩
 refine wt ?_
 (refine j0a rfl ?_ ?_ <;> intro hb <;> (try simp only [xA, xB, xG, xC, xD, xN] at hb) <;> (try exact xQ))
 ·have hkl : k < l.length := by omega
  have hgk := hg (gz l k)
  refine wt ?_
  (refine j0a rfl ?_ ?_ <;> intro hb <;> (try simp only [xA, xB, xG, xC, xD, xN] at hb) <;> (try exact xQ))
  ·have e1 := Q0j (p := fun k => p (gz l k)) hkl hall hb
   refine wt ?_
   exact j0e rfl (.tmp rfl) (by rw [e1])
  ·refine wt ?_
   exact j0b (k + 1) ⟨by omega, k0a (p := fun k => p (gz l k)) hall (by simpa using hb)⟩ (by omega) (ent xS trivial)
 ·have hkl : k = l.length := by omega
  subst hkl
  have e1 := v1c (p := fun k => p (gz l k)) hall
  refine wt ?_
  exact j0e rfl (.tmp rfl) (by rw [e1])
theorem j2q (w : World) : (Instr.buildSlice 40 0 #[]).run Tryz.prog w = .ok (.slice (some ⟨w.heap.size, 0, none⟩) 0 0) (w.alloc (.cells #[] 3)) := by kernel_rfl
theorem j2t (x y : Operand) (a : Addr) (n c : Nat) (w : World) : (eqGuard .eql 40 x y (.slice (some a) n c) (.slice none 0 0)).run Tryz.prog w = .ok () w := by kernel_rfl
theorem j2z (a : Addr) (n c : Nat) (w : World) : (binOp .eql 40 (.slice (some a) n c) (.slice none 0 0)).run Tryz.prog w = .ok (.bool false) w := by kernel_rfl
theorem Q1v (l : List Int) (h0 : 0 < l.length) (hn : l.length ≤ 1000) : CtrR Tryz.prog 262 [zs l] 3 1 l.length (zf l) [] := by
 refine q1c _ Tryz.func262 rfl rfl Tryz.ntmps262 rfl fun w Z => ?_
 have hml : 0 + l.length ≤ maxLen := by simp only [maxLen]; omega
 refine xU ?_
 refine wt ?_
 repeat' (first
   |(refine j0l (z0u (fun a n c w => j2t _ _ a n c w) (fun a n c w => j2z a n c w) rfl rfl h0) rfl ?_; refine wt ?_)
   |(refine j0u (k1K (zf []) 70 j2q rfl) rfl ?_; refine wt ?_)
   |(refine j0u (v0H (h := zf l) (m := l.length) rfl rfl rfl (fun i _ j _ => k1i l i j) h0 hml xO) rfl ?_; refine wt ?_))
 exact w0w rfl rfl rfl (by omega) (fun i hi j hj => by unfold w0n; rw [if_neg (by omega)]; rfl)
end Go.Proofs.YtgblokifbgeegaaGreatDoor.H.S
namespace Go.Proofs.YtgblokifbgeegaaGreatDoor.H.S
open Go Go.Vc Go.RowKit Go.Na Go.Lib
set_option maxHeartbeats 8000000
theorem k1Z (n : Int) : CtrA Tryz.prog 177 [vi n] (vb (decide (n ≠ 0))) := by
 refine j0n _ Tryz.func177 rfl rfl Tryz.ntmps177 rfl fun w Z => ?_
 refine xU ?_
 refine wt ?_
 exact j0e rfl (.tmp rfl) (congrArg vb (by rw [Bool.eq_iff_iff]; simp))
theorem x1t {n : Tr} (h : n ≠ tz) : (axI n = 0 ∧ n.x ≠ 0) ∨ (axI n = 1 ∧ n.x = 0 ∧ n.y ≠ 0) ∨ (axI n = 2 ∧ n.x = 0 ∧ n.y = 0 ∧ n.z ≠ 0) := by
 unfold axI
 by_cases hx : n.x = 0
 ·by_cases hy : n.y = 0
  ·have hz : n.z ≠ 0 := fun hz => h (by cases n; simp only [tz, Tr.mk.injEq]; exact ⟨hx, hy, hz⟩)
   refine .inr (.inr ⟨?_, hx, hy, hz⟩)
   exact Q0j (k := 2) (show 2 < 3 by decide) (fun j hj => by
    rcases (by omega : j = 0 ∨ j = 1) with rfl | rfl
    ·exact decide_eq_false (fun h => h hx)
    ·exact decide_eq_false (fun h => h hy)) (decide_eq_true hz)
  ·refine .inr (.inl ⟨?_, hx, hy⟩)
   exact Q0j (k := 1) (show 1 < 3 by decide) (fun j hj => by
    obtain rfl : j = 0 := by omega
    exact decide_eq_false (fun h => h hx)) (decide_eq_true hy)
 ·refine .inl ⟨?_, hx⟩
  exact Q0j (k := 0) (show 0 < 3 by decide) (fun j hj => by omega) (decide_eq_true hx)
theorem Z1I {d : Tr} (h : d ≠ tz) : tg d ≠ 0 := fun e => h (by
 unfold tg at e
 have h1 := Nat.gcd_eq_zero_iff.1 e
 have h2 := Nat.gcd_eq_zero_iff.1 h1.1
 have h3 := Nat.gcd_eq_zero_iff.1 h2.1
 cases d
 simp only [tz, Tr.mk.injEq]
 simp only at h1 h2 h3
 omega)
theorem K1s : tg tz = 0 := rfl
def W1S (d : Tr) (G : Int) : Tr := ⟨d.x.tdiv G, d.y.tdiv G, d.z.tdiv G⟩
theorem x1y {d : Tr} (h : d ≠ tz) : q0R d = if ngT d then W1S d (-(tg d : Int)) else W1S d (tg d : Int) := by
 obtain ⟨g, g0, hp⟩ := Q0G h
 have ex : d.x = g * (tpr d).x := by have := hp ⟨1, 0, 0⟩; simpa [j0c] using this
 have ey : d.y = g * (tpr d).y := by have := hp ⟨0, 1, 0⟩; simpa [j0c] using this
 have ez : d.z = g * (tpr d).z := by have := hp ⟨0, 0, 1⟩; simpa [j0c] using this
 have s : ∀ v : Int, (g * v < 0 ↔ v < 0) ∧ (g * v = 0 ↔ v = 0) := fun v => by
  rcases (by omega : v < 0 ∨ v = 0 ∨ 0 < v) with h | h | h
  ·have := Int.mul_neg_of_pos_of_neg g0 h; omega
  ·subst h; simp
  ·have := Int.mul_pos g0 h; omega
 have hn : ngT d ↔ ngT (tpr d) := by
  unfold ngT
  rw [ex, ey, ez, (s _).1, (s _).1, (s _).1, (s _).2, (s _).2]
 have ht : tpr d = W1S d (tg d) := by unfold tpr; rw [if_neg (Z1I h)]; rfl
 unfold q0R
 by_cases hg : ngT d
 ·rw [if_pos (hn.1 hg), if_pos hg, ht]
  simp only [j0N, W1S, Int.tdiv_neg]
  simp
 ·rw [if_neg (fun h => hg (hn.2 h)), if_neg hg, ht]
theorem Y1s (a : Tr) (w : World) : (Instr.index 22 (.agg [.int .i64 a.x, .int .i64 a.y, .int .i64 a.z].toArray) (.int .i64 (((0 : Nat)) : Int))).run Tryz.prog w = .ok (.int .i64 (co a 0)) w := by kernel_rfl
theorem Y1t (a : Tr) (w : World) : (Instr.index 22 (.agg [.int .i64 a.x, .int .i64 a.y, .int .i64 a.z].toArray) (.int .i64 (((1 : Nat)) : Int))).run Tryz.prog w = .ok (.int .i64 (co a 1)) w := by kernel_rfl
theorem Y1u (a : Tr) (w : World) : (Instr.index 22 (.agg [.int .i64 a.x, .int .i64 a.y, .int .i64 a.z].toArray) (.int .i64 (((2 : Nat)) : Int))).run Tryz.prog w = .ok (.int .i64 (co a 2)) w := by kernel_rfl
theorem k1q (a : Tr) (k : Nat) (h : k < 3) (w : World) : (Instr.index 22 (.agg [.int .i64 a.x, .int .i64 a.y, .int .i64 a.z].toArray) (.int .i64 k)).run Tryz.prog w = .ok (.int .i64 (co a k)) w := by
 rcases (by omega : k = 0 ∨ k = 1 ∨ k = 2) with rfl | rfl | rfl
 ·exact Y1s a w
 ·exact Y1t a w
 ·exact Y1u a w
abbrev v3 (d : Tr) : List Value := [.int .i64 d.x, .int .i64 d.y, .int .i64 d.z]
def dvL (d : Tr) (G : Int) : Nat → List Value
 |0 => v3 d
 |1 => [.int .i64 (d.x.tdiv G), .int .i64 d.y, .int .i64 d.z]
 |2 => [.int .i64 (d.x.tdiv G), .int .i64 (d.y.tdiv G), .int .i64 d.z]
 |_ => v3 (W1S d G)
theorem x1i (d : Tr) (h : BT 1000000000000 d) : CtrA Tryz.prog 136 [tp d] (j0r [tp (if d = tz then d else q0R d), vb (decide (d ≠ tz))]) := by
 refine j0n _ Tryz.func136 rfl rfl Tryz.ntmps136 rfl fun w Z => ?_
 have hc : ∀ k, k < 3 → Bn 1000000000000 (co d k) := fun k hk => by
  match k, hk with
  |0, _ => exact h.x
  |1, _ => exact h.y
  |2, _ => exact h.z
 have hle := J1I h
 refine xU ?_
 refine z0E ?_
 refine q0S ?_
 refine j0u (J0l (us := v3 d) 9 rfl rfl) rfl ?_
 refine wt ?_
 repeat' (first
   |(refine j0l (v0E rfl rfl rfl) rfl ?_; refine wt ?_))
 refine j0f (γ := Nat × Int) (fun g => [(1, .own 9 0), (2, .own 10 0), (4, .av (vi g.2)), (9, .av (tp d)), (10, .av (vi g.1))]) (fun _ => [(9, .vb (v3 d)), (10, .cells [.av (vi 0), .av (vi 0), .av (vi 0)])]) (fun g => g.1 ≤ 3 ∧ g.2.natAbs = tgs d g.1) (fun g => 3 - g.1) (0, 0) ⟨by dsimp only; omega, rfl⟩ (ent xS xT) ?_
 rintro ⟨k, b⟩ ⟨hk, hbk⟩
 dsimp only at hk hbk ⊢
 refine wt ?_
 (refine j0a rfl ?_ ?_ <;> intro hb <;> (try simp only [xA, xB, xG, xC, xD, xN] at hb) <;> (try exact xQ))
 ·have hk3 : k < 3 := by omega
  have hck := hc k hk3
  have hlk := hle k hk
  have hl1 := hle (k + 1) xO
  obtain ⟨hc1, hc2⟩ := hck
  refine wt ?_
  repeat' (first
    |(refine j0l (y0M rfl rfl (fun w => k1q d k hk3 w)) rfl ?_; refine wt ?_))
  refine j0f (γ := Int × Int) (fun g => [(1, .own 9 0), (2, .own 10 0), (4, .av (vi g.1)), (6, .av (vi g.2)), (9, .av (tp d)), (10, .av (vi k))]) (fun _ => [(9, .vb (v3 d)), (10, .cells [.av (vi 0), .av (vi 0), .av (vi 0)])]) (fun g => Nat.gcd g.1.natAbs g.2.natAbs = tgs d (k + 1) ∧ g.1.natAbs ≤ 1000000000000 ∧ g.2.natAbs ≤ 1000000000000) (fun g => g.2.natAbs) (b, co d k) ⟨by dsimp only; rw [hbk]; rfl, by dsimp only; omega, by dsimp only; omega⟩ (ent xS xT) ?_
  rintro ⟨g, m⟩ ⟨hg, hg1, hm1⟩
  dsimp only at hg hg1 hm1 ⊢
  refine wt ?_
  (refine j0a rfl ?_ ?_ <;> intro hb <;> (try simp only [xA, xB, xG, xC, xD, xN] at hb) <;> (try exact xQ))
  ·have hm0 : 0 < m.natAbs := by omega
   have hlt : (g.tmod m).natAbs < m.natAbs := by rw [Int.natAbs_tmod]; exact Nat.mod_lt _ hm0
   refine wt ?_
   exact j0b (g := (g, m)) (m, g.tmod m) ⟨by dsimp only; rw [← hg, Int.natAbs_tmod, Nat.gcd_comm g.natAbs m.natAbs, Nat.gcd_rec m.natAbs g.natAbs, Nat.gcd_comm], by dsimp only; omega, by dsimp only; omega⟩ hlt (ent xS xT)
  ·have hm : m = 0 := by omega
   subst hm
   rw [Int.natAbs_zero, Nat.gcd_zero_right] at hg
   refine wt ?_
   exact j0b (g := (k, b)) (k + 1, g) ⟨by dsimp only; omega, hg⟩ (by dsimp only; omega) (ent ⟨.refl _, .refl _, .refl _, .refl _, .int (by dsimp only; omega), trivial⟩ xT)
 ·have hk3 : k = 3 := by omega
  subst hk3
  have hle3 := hle 3 xO
  rw [K1Z] at hle3 hbk
  by_cases hz : d = tz
  ·subst hz
   have hb0 : b = 0 := by rw [K1s] at hbk; omega
   subst hb0
   rw [if_pos rfl, decide_eq_false (fun h => h rfl)]
   refine wt ?_
   repeat' (first
     |(refine j0l (v0E rfl rfl rfl) rfl ?_; refine wt ?_))
   exact j0x (rvs := [_, _]) (τs := [_, _]) rfl rfl ⟨.agg (us := v3 tz) rfl rfl rfl rfl, .tmp rfl, trivial⟩ rfl
  ·have hg0 := Z1I hz
   rw [if_neg hz, decide_eq_true hz, x1y hz]
   obtain ⟨⟨x1, x2⟩, ⟨y1, y2⟩, ⟨z1, z2⟩⟩ := h
   have hmx : (if b < -b then -b else b) = (tg d : Int) := by split <;> omega
   generalize tg d = G at *
   have hix := k0m k1Z (tl d) (show 3 ≤ 100000 by decide)
   rw [show ixB (fun k => decide (gz (tl d) k ≠ 0)) (tl d).length = axI d from rfl] at hix
   have hix := hix.of (args' := [.sl 3 1 (fun i _ => .val ((v3 d).getD (0 + 0 + i) undef)), .val (.func (.func 177) #[] #[])]) ⟨ALe.sl' rfl (fun i hi j hj => by
    rcases (by omega : i = 0 ∨ i = 1 ∨ i = 2) with rfl | rfl | rfl <;> rfl), .refl _, trivial⟩
   have hN1 : -(G : Int) ≠ 0 := by omega
   have hN2 : (G : Int) ≠ 0 := by omega
   refine wt ?_
   (refine j0a rfl ?_ ?_ <;> intro hb <;> (try simp only [xA, xB, xG, xC, xD, xN] at hb) <;> (try exact xQ))
   refine wt ?_
   rw [hmx]
   refine j0l (w0X (l := 0) (h := 3) rfl rfl rfl rfl xE xE xE) rfl ?_
   rcases x1t hz with ⟨ha, h0⟩ | ⟨ha, h0, h1⟩ | ⟨ha, h0, h1, h2⟩
   all_goals rw [ha] at hix
   all_goals refine j0l (q0d hix rfl ⟨.oc rfl rfl (Nat.le_refl 3), .av rfl, trivial⟩ (flat_val _)) rfl ?_
   all_goals refine wt ?_
   all_goals (refine j0a rfl ?_ ?_ <;> intro hb <;> (try simp only [xA, xB, xG, xC, xD, xN] at hb) <;> (try exact xQ))
   all_goals first
    |(rw [if_pos (show ngT d by unfold ngT; omega)]; refine wt ?_; generalize -(G : Int) = H at *)
    |(rw [if_neg (show ¬ ngT d by unfold ngT; omega)]; refine wt ?_; generalize (G : Int) = H at *)
   all_goals
    have hH : H ≠ 0 := by assumption
    refine j0f (γ := Nat) (fun k => [(1, .own 9 0), (2, .own 10 0), (4, .av (vi H)), (35, .av (vi k))]) (fun k => [(9, .vb (dvL d H k)), (10, .cells [.av (vi 0), .av (vi 0), .av (vi 0)])]) (fun k => k ≤ 3) (fun k => 3 - k) 0 (Nat.zero_le _) (ent xS xT) ?_
    intro k hk
    refine wt ?_
    (refine j0a rfl ?_ ?_ <;> intro hb <;> (try simp only [xA, xB, xG, xC, xD, xN] at hb) <;> (try exact xQ))
    ·rcases (by omega : k = 0 ∨ k = 1 ∨ k = 2) with rfl | rfl | rfl
     ·refine wt ?_
      repeat' (first
        |(refine v0N (v0p rfl rfl rfl rfl (show 0 < 3 by decide) rfl) ?_; refine wt ?_))
      exact j0b 1 xO xO (ent xS xT)
     ·refine wt ?_
      repeat' (first
        |(refine v0N (v0p rfl rfl rfl rfl (show 1 < 3 by decide) rfl) ?_; refine wt ?_))
      exact j0b 2 xO xO (ent xS xT)
     ·refine wt ?_
      repeat' (first
        |(refine v0N (v0p rfl rfl rfl rfl (show 2 < 3 by decide) rfl) ?_; refine wt ?_))
      exact j0b 3 xO xO (ent xS xT)
    ·obtain rfl : k = 3 := by omega
     refine wt ?_
     repeat' (first
       |(refine j0l (v0E rfl rfl rfl) rfl ?_; refine wt ?_))
     exact j0x (rvs := [_, _]) (τs := [_, _]) rfl rfl ⟨.agg (us := v3 (W1S d H)) rfl rfl rfl rfl, .tmp rfl, trivial⟩ rfl
end Go.Proofs.YtgblokifbgeegaaGreatDoor.H.S
namespace Go.Proofs.YtgblokifbgeegaaGreatDoor.H.S
open Go Go.Vc Go.RowKit H.G
set_option maxHeartbeats 8000000
theorem V1m (s : List Int) (a : Int) (hn : s.length ≤ 100000) : CtrA Tryz.prog 202 [zs s, vi a] (vi (ixB (fun k => decide (a = gz s k)) s.length)) := by
 refine j0n _ Tryz.func202 rfl rfl Tryz.ntmps202 rfl fun w Z => ?_
 refine xU ?_
 refine wt ?_
 refine j0f (γ := Nat) (fun k => [(0, .av (zs s)), (1, .av (vi a)), (6, .av (zs s)), (7, .av (vi s.length)), (8, .av (vi k))]) (fun _ => []) (fun k => k ≤ s.length ∧ ∀ j, j < k → decide (a = gz s j) = false) (fun k => s.length - k) 0 ⟨Nat.zero_le _, by omega⟩ (ent xS trivial) ?_
 rintro k ⟨hk, hall⟩
 refine wt ?_
 (refine j0a rfl ?_ ?_ <;> intro hb <;> (try simp only [xA, xB, xG, xC, xD, xN] at hb) <;> (try exact xQ))
 ·have hkl : k < s.length := by omega
  refine wt ?_
  (refine j0a rfl ?_ ?_ <;> intro hb <;> (try simp only [xA, xB, xG, xC, xD, xN] at hb) <;> (try exact xQ))
  ·have e1 := Q0j (p := fun k => decide (a = gz s k)) hkl hall (decide_eq_true hb)
   refine wt ?_
   exact j0e rfl (.tmp rfl) (by rw [e1])
  ·refine wt ?_
   exact j0b (k + 1) ⟨by omega, k0a (p := fun k => decide (a = gz s k)) hall (decide_eq_false hb)⟩ xO (ent xS trivial)
 ·have hkl : k = s.length := by omega
  subst hkl
  have e1 := v1c (p := fun k => decide (a = gz s k)) hall
  refine wt ?_
  exact j0e rfl (.tmp rfl) (by rw [e1])
theorem Q0V (s : List Int) (a : Int) (hn : s.length ≤ 100000) : CtrA Tryz.prog 179 [zs s, vi a] (vb (hasB s a)) := by
 refine j0n _ Tryz.func179 rfl rfl Tryz.ntmps179 rfl fun w Z => ?_
 have hi := V1m s a hn
 refine xU ?_
 have hq1 := hi
 refine wt ?_
 exact j0e rfl (.tmp rfl) (congrArg vb (Y1w s a))
theorem V1i (l : List Pt) (hs : Sml l) : CtrR Tryz.prog 230 [pts l] 3 1 (w0d l).length (xf (w0d l)) [vi (j1m l)] := by
 refine q1c _ Tryz.func230 rfl rfl Tryz.ntmps230 rfl fun w Z => ?_
 refine xU ?_
 have hq3 := k0D l
 refine wt ?_
 (refine j0a rfl ?_ ?_ <;> intro hb <;> (try simp only [xA, xB, xG, xC, xD, xN] at hb) <;> (try exact xQ))
 ·have e1 : j1m l = chk l := by simp [j1m, hb]
  have e2 : w0d l = [] := by simp [w0d, e1, hb]
  rw [e1, e2]
  refine wt ?_
  exact x0w rfl rfl rfl (τs := [vi (chk l)]) ⟨.tmp rfl, trivial⟩ rfl
 ·have hn1 := hs hb
  have hb' := hb
  refine wt ?_
  (refine j0a rfl ?_ ?_ <;> intro hb <;> (try simp only [xA, xB, xG, xC, xD, xN] at hb) <;> (try exact xQ))
  ·have e1 : j1m l = 13 := by simp [j1m, hb', show l.length = 0 by omega]
   have e2 : w0d l = [] := by simp [w0d, e1]
   rw [e1, e2]
   refine wt ?_
   exact x0w rfl rfl rfl (τs := [vi 13]) ⟨.tmp rfl, trivial⟩ rfl
  ·have e1 : j1m l = 0 := by simp [j1m, hb', show l.length ≠ 0 by omega]
   have e2 : w0d l = arr l := by simp [w0d, e1]
   have ha := x1s l hn1
   rw [e1, e2]
   refine wt ?_
   repeat' (first
     |(refine j0u (w0z 40 (ha) rfl rfl) rfl ?_; refine wt ?_))
   exact W0z rfl rfl rfl rfl (fun _ _ _ _ => rfl) (τs := [vi 0]) ⟨.tmp rfl, trivial⟩ rfl
theorem y1M (l : List Tr) (n : Tr) (h : n ≠ tz) (hn : l.length ≤ 1000) : CtrR Tryz.prog 231 [ts l, tp n] 82 2 (shN l n).length (pf (shN l n)) [] := by
 refine q1c _ Tryz.func231 rfl rfl Tryz.ntmps231 rfl fun w Z => ?_
 obtain ⟨hA, hA3⟩ := Y0p h
 have hix := k0m j2H (tl n) (show 3 ≤ 100000 by decide)
 rw [show ixB (fun k => decide (gz (tl n) k ≠ 0)) (tl n).length = ((axN n : Nat) : Int) from hA] at hix
 have hptr : ∀ i, i < 3 → (fun i => AV.val ([Go.Value.int .i64 n.x, .int .i64 n.y, .int .i64 n.z].getD i Go.undef)) i = (fun i => zf (tl n) i 0) i := fun i hi => by
  rcases (by omega : i = 0 ∨ i = 1 ∨ i = 2) with rfl | rfl | rfl <;> rfl
 unfold shN
 generalize axN n = ax at hA3 hix ⊢
 refine xU ?_
 have hq1 := hix
 refine wt ?_
 repeat' (first
   |(refine v0Z (q1v (n := 3) 3 (f' := fun i => zf (tl n) i 0) rfl hptr) ?_; refine wt ?_)
   |(refine j0l (v0V rfl xE xE) rfl ?_; refine wt ?_))
 refine j0f (γ := Nat) (fun k => [(5, .av (vi ax)), (6, .osl 70), (12, .av (ts l)), (13, .av (vi l.length)), (14, .av (vi k))]) (fun k => [(70, .row 82 2 ((l.take k).map (shp ax)).length (pf ((l.take k).map (shp ax))))]) (fun k => k ≤ l.length) (fun k => l.length - k) 0 (Nat.zero_le _) (Ent.trans (w0S (dd := 6) 70 82 2 (pf []) rfl rfl) (ent xS xT)) ?_
 intro k hk
 refine wt ?_
 (refine j0a rfl ?_ ?_ <;> intro hb <;> (try simp only [xA, xB, xG, xC, xD, xN] at hb) <;> (try exact xQ))
 ·have hkl : k < l.length := by omega
  have ht := Q0d hkl
  have hl1 : ((l.take k).map (shp ax)).length ≤ k := by rw [List.length_map, List.length_take]; omega
  have e1 : (l.take (k + 1)).map (shp ax) = (l.take k).map (shp ax) ++ [shp ax (gt l k)] := by rw [ht]; simp
  generalize (l.take k).map (shp ax) = X at hl1 e1 ⊢
  have hcl := Q1v (tl (gt l k)) (show 0 < 3 by decide) (show 3 ≤ 1000 by decide)
  have hdl := x1P (tl (gt l k)) ax (ax + 1) (show 3 ≤ 1000000 by decide) (show 0 < 3 by decide) xO (show ax + 1 ≤ 3 by omega)
  rw [show ((ax + 1 : Nat) : Int) = (ax : Int) + 1 from by omega, show (tl (gt l k)).length - (ax + 1 - ax) = 2 from by rw [show (tl (gt l k)).length = 3 from rfl]; omega] at hdl
  have hml : X.length + 1 ≤ maxLen := by simp only [maxLen]; omega
  refine wt ?_
  repeat' (first
    |(refine v0Z (v0Q 8 10 (fun i => zf (tl (gt l k)) i 0) rfl rfl rfl) ?_; refine wt ?_)
    |(refine j0l (v0V (n := 3) rfl xE xE) rfl ?_; refine wt ?_)
    |(refine j0u (w0z 71 (hcl) rfl rfl) rfl ?_; refine wt ?_)
    |(refine j0u (v0B (hdl) rfl rfl rfl) rfl ?_; refine wt ?_)
    |(refine v0I (q0c (is := [0]) (xs := [_]) (vs := [_]) (us := [_, _]) (K1v _ _) rfl rfl rfl (Y1U (shp ax (gt l k)))) rfl ?_; refine wt ?_))
  refine Q1G tm (by kernel_rfl) ?_
  refine wt ?_
  exact j0b (k + 1) (by omega) (by omega) (ent xS ⟨⟨_, rfl, by rw [e1]; exact .refl _⟩, trivial⟩)
 ·have hkl : k = l.length := by omega
  subst hkl
  rw [List.take_length]
  refine wt ?_
  exact w0w rfl rfl rfl rfl (fun _ _ _ _ => rfl)
theorem X0i (l : List Tr) (n : Tr) (h : n ≠ tz) (hn : l.length ≤ 7) : CtrR Tryz.prog 199 [ts l, tp n] 3 1 (w0d (shN l n)).length (xf (w0d (shN l n))) [vi (j1m (shN l n))] := by
 refine q1c _ Tryz.func199 rfl rfl Tryz.ntmps199 rfl fun w Z => ?_
 have hsh := (y1M l n h xO).ro
 have hh := V1i (shN l n) (fun _ => by rw [y0p]; omega)
 refine xU ?_
 have hq2 := hsh
 refine wt ?_
 repeat' (first
   |(refine j0u (y0g 40 (hh) rfl rfl) rfl ?_; refine wt ?_))
 exact W0z rfl rfl rfl rfl (fun _ _ _ _ => rfl) (τs := [vi _]) ⟨.tmp rfl, trivial⟩ rfl
theorem K0y (l : List Tr) (d : Tr) (hl : RT l) (hd : BT 1000000000000 d) (hn : l.length ≤ 1000) : CtrA Tryz.prog 198 [ts l, tp d] (.val (.agg #[.int .i64 ((j1o l d l.length : Nat) : Int), .int .i64 ((j1n l d l.length : Nat) : Int)])) := by
 refine j0n _ Tryz.func198 rfl rfl Tryz.ntmps198 rfl fun w Z => ?_
 refine xU ?_
 refine wt ?_
 refine j0f (γ := Nat) (fun k => [(0, .av (ts l)), (3, .av (bt d)), (4, .own 10 0), (5, .own 11 0), (8, .av (ts l)), (9, .av (vi l.length)), (10, .av (vi k))]) (fun k => [(10, .cells [.av (vi 0), .av (vi 0)]), (11, .cells [.av (vi (j1o l d k)), .av (vi (j1n l d k))])]) (fun k => k ≤ l.length) (fun k => l.length - k) 0 (Nat.zero_le _) (ent xS xT) ?_
 intro k hk
 refine wt ?_
 (refine j0a rfl ?_ ?_ <;> intro hb <;> (try simp only [xA, xB, xG, xC, xD, xN] at hb) <;> (try exact xQ))
 ·have hkl : k < l.length := by omega
  have h1 := q1z l d k l.length hk xO
  have h2 := q1y l d k l.length hk xO
  have e1 : j1o l d (k + 1) = if j0c d (gt l k) < j0c d (gt l (j1o l d k)) then k else j1o l d k := rfl
  have e2 : j1n l d (k + 1) = if j0c d (gt l (j1n l d k)) < j0c d (gt l k) then k else j1n l d k := rfl
  generalize j1o l d k = lo at h1 e1 ⊢
  generalize j1n l d k = hi at h2 e2 ⊢
  refine wt ?_
  repeat' (first
    |(refine v0I (X0t (K0w _ _ hd (hl _) xE) rfl) rfl ?_; refine wt ?_))
  (refine j0a rfl ?_ ?_ <;> intro hb <;> (try simp only [xA, xB, xG, xC, xD, xN] at hb) <;> (try exact xQ))
  ·rw [if_pos hb] at e1
   refine wt ?_
   repeat' (first
     |(refine v0I (X0t (K0w _ _ hd (hl _) xE) rfl) rfl ?_; refine wt ?_))
   (refine j0a rfl ?_ ?_ <;> intro hb <;> (try simp only [xA, xB, xG, xC, xD, xN] at hb) <;> (try exact xQ))
   ·rw [if_pos hb] at e2
    refine wt ?_
    exact j0b (k + 1) (by omega) (by omega) (ent xS ⟨⟨_, rfl, .refl _⟩, ⟨_, rfl, by rw [e1, e2]; exact .refl _⟩, trivial⟩)
   ·rw [if_neg hb] at e2
    refine wt ?_
    exact j0b (k + 1) (by omega) (by omega) (ent xS ⟨⟨_, rfl, .refl _⟩, ⟨_, rfl, by rw [e1, e2]; exact .refl _⟩, trivial⟩)
  ·rw [if_neg hb] at e1
   refine wt ?_
   repeat' (first
     |(refine v0I (X0t (K0w _ _ hd (hl _) xE) rfl) rfl ?_; refine wt ?_))
   (refine j0a rfl ?_ ?_ <;> intro hb <;> (try simp only [xA, xB, xG, xC, xD, xN] at hb) <;> (try exact xQ))
   ·rw [if_pos hb] at e2
    refine wt ?_
    exact j0b (k + 1) (by omega) (by omega) (ent xS ⟨⟨_, rfl, .refl _⟩, ⟨_, rfl, by rw [e1, e2]; exact .refl _⟩, trivial⟩)
   ·rw [if_neg hb] at e2
    refine wt ?_
    exact j0b (k + 1) (by omega) (by omega) (ent xS ⟨⟨_, rfl, .refl _⟩, ⟨_, rfl, by rw [e1, e2]; exact .refl _⟩, trivial⟩)
 ·have hkl : k = l.length := by omega
  subst hkl
  refine wt ?_
  exact j0e rfl (.agg (us := [_, _]) rfl rfl rfl rfl) rfl
theorem X1p (w : World) : (Instr.buildSlice 40 1 #[(0, .int .i64 0)]).run Tryz.prog w = .ok (.slice (some ⟨w.heap.size, 0, none⟩) 1 1) (w.alloc (.cells #[.int .i64 0] 3)) := by kernel_rfl
theorem j1e (l : List Tr) (L : List Fc) (τ : AV) (hl : RT l) (hn : l.length ≤ 7) (hτ : (spn l).dim ≠ -1 → (spn l).dim ≠ 0 → (spn l).dim ≠ 1 → (spn l).dim ≠ 2 → τ = .sl L.length 5 (ff L)) (hLn : L.length ≤ 1000) (hL : ∀ f ∈ L, f.n ≠ tz ∧ 0 < f.s.length ∧ f.s.length ≤ 7 ∧ ∀ i ∈ f.s, i < l.length) :
  CtrA Tryz.prog 178 [ts l, τ] (j0r [zs (y1Y l L), vi 0]) := by
 refine j0n _ Tryz.func178 rfl rfl Tryz.ntmps178 rfl fun w Z => ?_
 have hsp := Q0C l hl xO
 have hok : SpOk (spn l) := SpOk.to hl l.length
 have hway := W1g (l := l)
 have hpos := W1f (l := l)
 have hv : y1Y l L = Lib.compact (x0v (Z1c l L)) := rfl
 unfold Z1c at hv
 generalize spn l = s at hsp hok hway hpos hτ hv
 refine xU ?_
 have hq1 := hsp
 refine wt ?_
 (refine j0a rfl ?_ ?_ <;> intro hb <;> (try simp only [xA, xB, xG, xC, xD, xN] at hb) <;> (try exact xQ))
 ·rw [if_pos hb] at hv
  rw [hv]
  have hs := X0X 3 [] xE
  have hc := w0y 3 (x0v []) (by rw [q0B]; decide)
  rw [q0B] at hc
  refine X1w (w0S (dd := 6) 70 3 1 (zf []) rfl rfl) ?_
  refine wt ?_
  repeat' (first
    |(refine j0u (v0v (hs) rfl rfl rfl) rfl ?_; refine wt ?_)
    |(refine j0u (v0B (hc) rfl rfl rfl) rfl ?_; refine wt ?_))
  exact Q0D (q0f 70 rfl) (j0x (rvs := [_, _]) (τs := [_, _]) rfl rfl ⟨.tmp rfl, .tmp rfl, trivial⟩ rfl)
 rw [if_neg hb] at hv
 have hm1 := hb
 refine wt ?_
 (refine j0a rfl ?_ ?_ <;> intro hb <;> (try simp only [xA, xB, xG, xC, xD, xN] at hb) <;> (try exact xQ))
 ·rw [if_pos hb] at hv
  rw [hv]
  have hs := X0X 3 [0] xE
  have hc := w0y 3 (x0v [0]) (by rw [q0B]; decide)
  rw [q0B] at hc
  refine q0S ?_
  refine j0u (k1L (zf [0]) 70 X1p (fun _ _ => rfl) rfl) rfl ?_
  refine wt ?_
  repeat' (first
    |(refine j0u (v0v (hs) rfl rfl rfl) rfl ?_; refine wt ?_)
    |(refine j0u (v0B (hc) rfl rfl rfl) rfl ?_; refine wt ?_))
  exact Q0D (q0f 70 rfl) (j0x (rvs := [_, _]) (τs := [_, _]) rfl rfl ⟨.tmp rfl, .tmp rfl, trivial⟩ rfl)
 rw [if_neg hb] at hv
 have hm0 := hb
 refine wt ?_
 (refine j0a rfl ?_ ?_ <;> intro hb <;> (try simp only [xA, xB, xG, xC, xD, xN] at hb) <;> (try exact xQ))
 ·rw [if_pos hb] at hv
  rw [hv]
  have hw : BT 200000 s.way := by
   rcases hok.dim with e | e | e | e | e
   ·omega
   ·omega
   ·exact e.2
   ·omega
   ·omega
  have hx := K0y l s.way hl (hw.le xE) xO
  generalize j1o l s.way l.length = lo at hx ⊢
  generalize j1n l s.way l.length = hi at hx ⊢
  have hs := fun ety => X0X ety [(lo : Int), (hi : Int)] (show 2 ≤ 1000000 by decide)
  have hc := fun ety => w0y ety (x0v [(lo : Int), (hi : Int)]) (by rw [q0B]; exact (show 2 ≤ 1000000 by decide))
  simp only [q0B] at hc
  have hq2 := hx
  refine wt ?_
  refine W0l (f := fun i => zf [(lo : Int), (hi : Int)] i 0) rfl rfl rfl xE rfl (fun ety => ?_)
  have hs' := hs ety
  have hc' := hc ety
  refine wt ?_
  repeat' (first
    |(refine j0u (v0v (hs') rfl rfl rfl) rfl ?_; refine wt ?_)
    |(refine j0u (v0B (hc') rfl rfl rfl) rfl ?_; refine wt ?_))
  exact Q0D (q0f 11 rfl) (j0x (rvs := [_, _]) (τs := [_, _]) rfl rfl ⟨.tmp rfl, .tmp rfl, trivial⟩ rfl)
 rw [if_neg hb] at hv
 have hd1 := hb
 refine wt ?_
 (refine j0a rfl ?_ ?_ <;> intro hb <;> (try simp only [xA, xB, xG, xC, xD, xN] at hb) <;> (try exact xQ))
 ·rw [if_pos hb] at hv
  rw [hv]
  have hwy := hway xO
  have hc := X0i l s.way hwy hn
  rw [k0L hl hwy (hpos hm1) hn] at hc
  generalize hV : w0d (shN l s.way) = V at hc
  have hVl : V.length ≤ 14 := by have := X0A (shN l s.way); rw [y0p, hV] at this; omega
  have hs := X0X 3 (x0f V) (by simp; omega)
  have hcc := w0y 3 (x0v (x0f V)) (by rw [q0B]; simp; omega)
  rw [q0B] at hcc
  have hxz := xz V
  have hnl : V.length = (x0f V).length := by simp
  refine wt ?_
  repeat' (first
    |(refine j0u (y0g 40 (hc) rfl rfl) rfl ?_; refine wt ?_))
  refine v0Z (q1x (upd := [(40, .row 3 1 (x0f V).length (zf (x0f V)))]) ⟨⟨_, rfl, .row hnl hxz⟩, trivial⟩) ?_
  refine wt ?_
  repeat' (first
    |(refine j0u (v0v (hs) rfl rfl rfl) rfl ?_; refine wt ?_)
    |(refine j0u (v0B (hcc) rfl rfl rfl) rfl ?_; refine wt ?_))
  exact Q0D (q0f 40 rfl) (j0x (rvs := [_, _]) (τs := [_, _]) rfl rfl ⟨.tmp rfl, .tmp rfl, trivial⟩ rfl)
 ·rw [if_neg hb] at hv
  rw [hv]
  rw [hτ hm1 hm0 hd1 hb]
  have hlen := X0Q l L (fun f hf => ⟨(hL f hf).1, (hL f hf).2.2.1⟩)
  refine wt ?_
  refine j0f (γ := Nat) (fun k => [(0, .av (ts l)), (6, .osl 70), (24, .av (.sl L.length 5 (ff L))), (25, .av (vi L.length)), (26, .av (vi k))]) (fun k => [(70, .row 3 1 (z0a l L k).length (zf (z0a l L k)))]) (fun k => k ≤ L.length) (fun k => L.length - k) 0 (Nat.zero_le _) (Ent.trans (w0S (dd := 6) 70 3 1 (zf []) rfl rfl) (ent xS xT)) ?_
  intro k hk
  refine wt ?_
  (refine j0a rfl ?_ ?_ <;> intro hb <;> (try simp only [xA, xB, xG, xC, xD, xN] at hb) <;> (try exact xQ))
  ·have hkl : k < L.length := by omega
   obtain ⟨f1, f2, f3, f4⟩ := hL (gf L k) (y0U hkl)
   have hr : z0a l L (k + 1) = z0a l L k ++ vf l (gf L k) := rfl
   have hrl := hlen k hk
   have hff : ∀ j, ff L k j = fcf (gf L k) j := fun _ => rfl
   have hv2 : vf l (gf L k) = (w0Q l (gf L k)).map (fun i => ((gi (gf L k).s i : Nat) : Int)) := rfl
   rw [hv2] at hr
   generalize z0a l L k = X at hr hrl ⊢
   refine wt ?_
   repeat' (first
     |(refine j0l (v0n rfl rfl) rfl ?_; refine wt ?_)
     |(refine v0N (q0a rfl rfl (v0R (gf L k)) rfl rfl) ?_; refine wt ?_))
   refine j0f (γ := Nat) (fun j => [(0, .av (ts l)), (6, .osl 70), (12, .av (.ptr 5 (fcf (gf L k)))), (24, .av (.sl L.length 5 (ff L))), (25, .av (vi L.length)), (26, .av (vi k)), (13, .osl 71), (31, .av (.sl (gf L k).s.length 1 (xf (gf L k).s))), (32, .av (vi (gf L k).s.length)), (33, .av (vi j))]) (fun j => [(70, .row 3 1 X.length (zf X)), (71, .row 165 3 ((((gf L k).s.take j).map (gt l)).length) (tf (((gf L k).s.take j).map (gt l))))]) (fun j => j ≤ (gf L k).s.length) (fun j => (gf L k).s.length - j) 0 (Nat.zero_le _) (Ent.trans (v0Q 12 10 (fcf (gf L k)) rfl rfl rfl) (Ent.trans (w0S (dd := 13) 71 165 3 (tf []) rfl rfl) (ent xS xT))) ?_
   intro j hj
   refine wt ?_
   (refine j0a rfl ?_ ?_ <;> intro hb <;> (try simp only [xA, xB, xG, xC, xD, xN] at hb) <;> (try exact xQ))
   ·have hjl : j < (gf L k).s.length := by omega
    have hix := f4 _ (q0Y hjl)
    have e1 : ((gf L k).s.take (j + 1)).map (gt l) = ((gf L k).s.take j).map (gt l) ++ [gt l (gi (gf L k).s j)] := by rw [k0g hjl, List.map_append]; rfl
    have hl1 : (((gf L k).s.take j).map (gt l)).length ≤ j := by rw [List.length_map, List.length_take]; omega
    generalize ((gf L k).s.take j).map (gt l) = Y at e1 hl1 ⊢
    have hml : Y.length + 1 ≤ maxLen := by simp only [maxLen]; omega
    refine wt ?_
    repeat' (first
      |(refine j0l (q0c (is := [0]) (xs := [_]) (vs := [_]) (us := [_, _, _]) (Z1M _ _ _) rfl rfl rfl (J1F _)) rfl ?_; refine wt ?_)
      |(refine j0u (v0H (h := tf [gt l (gi (gf L k).s j)]) (m := 1) rfl rfl rfl (fun i _ j _ => J1E _ i j) xO hml xO) rfl ?_; refine wt ?_))
    exact j0b (j + 1) (by omega) (by omega) (ent xS ⟨⟨_, rfl, .refl _⟩, ⟨_, rfl, .row (by rw [e1]; simp) (fun i hi j hj => by rw [e1]; exact J1D _ _ i hi j hj)⟩, trivial⟩)
   ·have hjl : j = (gf L k).s.length := by omega
    subst hjl
    rw [List.take_length]
    have hp := RT.pick hl (gf L k).s
    have hcr := X0i ((gf L k).s.map (gt l)) (gf L k).n f1 (by rw [List.length_map]; exact f3)
    rw [k0L hp f1 (by rw [List.length_map]; exact f2) (by rw [List.length_map]; exact f3)] at hcr
    rw [show w0Q l (gf L k) = w0d (shN ((gf L k).s.map (gt l)) (gf L k).n) from rfl] at hr
    have hVlt : ∀ x ∈ w0d (shN ((gf L k).s.map (gt l)) (gf L k).n), x < (gf L k).s.length := fun x hx => by have := y1j _ x hx; rwa [y0p, List.length_map] at this
    have hVl := X0h l (gf L k) f3
    rw [show w0Q l (gf L k) = w0d (shN ((gf L k).s.map (gt l)) (gf L k).n) from rfl] at hVl
    generalize w0d (shN ((gf L k).s.map (gt l)) (gf L k).n) = V at hr hcr hVlt hVl
    refine wt ?_
    repeat' (first
      |(refine v0Z (q0f 71 rfl) ?_; refine wt ?_)
      |(refine j0u (y0g 72 (hcr) rfl rfl) rfl ?_; refine wt ?_))
    refine j0f (γ := Nat) (fun m => [(0, .av (ts l)), (6, .osl 70), (12, .av (.ptr 5 (fcf (gf L k)))), (24, .av (.sl L.length 5 (ff L))), (25, .av (vi L.length)), (26, .av (vi k)), (55, .av (.sl V.length 1 (xf V))), (56, .av (vi V.length)), (57, .av (vi m))]) (fun m => [(70, .row 3 1 (X ++ (V.take m).map (fun i => ((gi (gf L k).s i : Nat) : Int))).length (zf (X ++ (V.take m).map (fun i => ((gi (gf L k).s i : Nat) : Int)))))]) (fun m => m ≤ V.length) (fun m => V.length - m) 0 (Nat.zero_le _) (Ent.trans (q0f 72 rfl) (ent xS ⟨⟨_, rfl, by rw [List.take_zero, List.map_nil, List.append_nil]; exact .refl _⟩, trivial⟩)) ?_
    intro m hm
    refine wt ?_
    (refine j0a rfl ?_ ?_ <;> intro hb <;> (try simp only [xA, xB, xG, xC, xD, xN] at hb) <;> (try exact xQ))
    ·have hml : m < V.length := by omega
     have hix := hVlt _ (q0Y hml)
     have hff4 : gi V m < (gf L k).s.length := hix
     have e1 : (V.take (m + 1)).map (fun i => ((gi (gf L k).s i : Nat) : Int)) = (V.take m).map (fun i => ((gi (gf L k).s i : Nat) : Int)) ++ [((gi (gf L k).s (gi V m) : Nat) : Int)] := by rw [k0g hml, List.map_append]; rfl
     have hl1 : ((V.take m).map (fun i => ((gi (gf L k).s i : Nat) : Int))).length ≤ m := by rw [List.length_map, List.length_take]; omega
     have e2 : X ++ (V.take (m + 1)).map (fun i => ((gi (gf L k).s i : Nat) : Int)) = (X ++ (V.take m).map (fun i => ((gi (gf L k).s i : Nat) : Int))) ++ [((gi (gf L k).s (gi V m) : Nat) : Int)] := by rw [e1, List.append_assoc]
     have hYl : (X ++ (V.take m).map (fun i => ((gi (gf L k).s i : Nat) : Int))).length ≤ 14 * k + m := by rw [List.length_append]; omega
     generalize X ++ (V.take m).map (fun i => ((gi (gf L k).s i : Nat) : Int)) = Y at hYl e2 ⊢
     have hmx : Y.length + 1 ≤ maxLen := by simp only [maxLen]; omega
     refine wt ?_
     repeat' (first
       |(refine j0u (v0H (h := xf [gi (gf L k).s (gi V m)]) (m := 1) rfl rfl rfl (fun i _ j _ => rfl) xO hmx xO) rfl ?_; refine wt ?_))
     exact j0b (m + 1) (by omega) (by omega) (ent xS ⟨⟨_, rfl, .row (by rw [e2]; simp) (fun i hi j hj => by rw [e2]; exact k1j _ _ i hi j hj)⟩, trivial⟩)
    ·have hml : m = V.length := by omega
     subst hml
     rw [List.take_length]
     refine wt ?_
     exact j0b (k + 1) (by omega) (by omega) (ent xS ⟨⟨_, rfl, by rw [hr]; exact .refl _⟩, trivial⟩)
  ·have hkl : k = L.length := by omega
   subst hkl
   have hlL := hlen L.length (Nat.le_refl _)
   have hs := X0X 3 (z0a l L L.length) xO
   have hc := w0y 3 (x0v (z0a l L L.length)) (by rw [q0B]; omega)
   rw [q0B] at hc
   refine wt ?_
   repeat' (first
     |(refine j0u (v0v (hs) rfl rfl rfl) rfl ?_; refine wt ?_)
     |(refine j0u (v0B (hc) rfl rfl rfl) rfl ?_; refine wt ?_))
   exact Q0D (q0f 70 rfl) (j0x (rvs := [_, _]) (τs := [_, _]) rfl rfl ⟨.tmp rfl, .tmp rfl, trivial⟩ rfl)
theorem X1F (l : List Tr) (hf : few l) : CtrA Tryz.prog 94 [ts l] (j0r [vi (if v0i l = 0 then (spn l).dim else 0), vi (v0i l)]) := by
 refine j0n _ Tryz.func94 rfl rfl Tryz.ntmps94 rfl fun w Z => ?_
 have hc := x0Q l
 by_cases h : v0i l = 0
 ·rw [if_pos h]
  rw [h] at hc ⊢
  obtain ⟨hl, hn⟩ := hf.le h
  have hv := (Y0k l xO).ro
  have hs := Q0C l hl xO
  generalize spn l = s at hs ⊢
  refine xU ?_
  have hq1 := hc
  have hq2 := hv
  have hq3 := hs
  refine wt ?_
  repeat' (first
    |(refine j0l (k0e (us := [_, _, _, _, _, _, _]) rfl (w1l s)) rfl ?_; refine wt ?_))
  exact xW
 ·rw [if_neg h]
  generalize v0i l = e at h hc ⊢
  refine xU ?_
  have hq4 := hc
  refine wt ?_
  (refine j0a rfl ?_ ?_ <;> intro hb <;> (try simp only [xA, xB, xG, xC, xD, xN] at hb) <;> (try exact xQ))
  refine wt ?_
  exact xW
theorem j1f (l : List Tr) (hl : RT l) (hn : l.length ≤ 7) : CtrA Tryz.prog 178 [ts l, J1p l] (j0r [zs (y1Y l (j0i l)), vi 0]) :=
 j1e l (j0i l) (J1p l) hl hn (fun h1 h2 h3 h4 => by
  have := y0F hl
  unfold J1p
  rw [if_neg (by omega)]) (z0q l hn) (y0I hn)
theorem j2u (x y : Operand) (a : Addr) (n c : Nat) (w : World) : (eqGuard .eql 173 x y (.slice (some a) n c) (.slice none 0 0)).run Tryz.prog w = .ok () w := by kernel_rfl
theorem j2A (a : Addr) (n c : Nat) (w : World) : (binOp .eql 173 (.slice (some a) n c) (.slice none 0 0)).run Tryz.prog w = .ok (.bool false) w := by kernel_rfl
theorem Q1M (l : List Tr) (L : List Fc) (V : List Int) (hs : CtrA Tryz.prog 175 [ts l] (j0r [ts l, fs L, vi 0])) (h0 : 0 < L.length) (hLn : L.length ≤ 1000) (hL : ∀ f ∈ L, f.s.length ≤ 7)
  (hv : CtrA Tryz.prog 178 [ts l, fs L] (j0r [zs V, vi 0])) (hV : V.length ≤ 14000) : CtrA Tryz.prog 137 [ts l] (j0r [es (X1O L V), vi 0]) := by
 refine j0n _ Tryz.func137 rfl rfl Tryz.ntmps137 rfl fun w Z => ?_
 have hlen := Y0z L V hV
 refine xU ?_
 have hq1 := hs
 have hq2 := hv
 refine wt ?_
 repeat' (first
   |(refine j0l (z0u (fun a n c w => j2u _ _ a n c w) (fun a n c w => j2A a n c w) rfl rfl h0) rfl ?_; refine wt ?_))
 refine j0f (γ := Nat) (fun k => [(5, .av (fs L)), (7, .av (zs V)), (8, .osl 70), (36, .av (zs V)), (37, .av (vi V.length)), (38, .av (vi k))]) (fun k => [(70, .row 73 2 (eTo L V k).length (ef (eTo L V k)))]) (fun k => k ≤ V.length) (fun k => V.length - k) 0 (Nat.zero_le _) (Ent.trans (w0S (dd := 8) 70 73 2 (ef []) rfl rfl) (ent xS xT)) ?_
 intro k hk
 refine wt ?_
 (refine j0a rfl ?_ ?_ <;> intro hb <;> (try simp only [xA, xB, xG, xC, xD, xN] at hb) <;> (try exact xQ))
 ·have hkl : k < V.length := by omega
  have e0 : eTo L V (k + 1) = eTo L V k ++ eM L V k (V.length - (k + 1)) := rfl
  have hk1 := hlen k
  generalize eTo L V k = X at e0 hk1 ⊢
  have hml := q1s L V k
  refine wt ?_
  repeat' (first
    |(refine j0l (x0m (lo := some (.tmp 45)) (hi := none) (l := k + 1) (h := V.length) rfl ⟨_, _, rfl, xO⟩ rfl xO xO) rfl ?_; refine wt ?_))
  refine j0f (γ := Nat) (fun m => [(5, .av (fs L)), (7, .av (zs V)), (8, .osl 70), (36, .av (zs V)), (37, .av (vi V.length)), (38, .av (vi k)), (10, .av (vi (gz V k))), (46, .av (.sl (V.length - (k + 1)) 1 (fun i => zf V (k + 1 + i)))), (47, .av (vi ((V.length - (k + 1) : Nat) : Int))), (48, .av (vi m))]) (fun m => [(70, .row 73 2 (X ++ eM L V k m).length (ef (X ++ eM L V k m)))]) (fun m => m ≤ V.length - (k + 1)) (fun m => V.length - (k + 1) - m) 0 (Nat.zero_le _) (ent xS ⟨⟨_, rfl, by rw [show eM L V k 0 = [] from rfl, List.append_nil]; exact .refl _⟩, trivial⟩) ?_
  intro m hm
  refine wt ?_
  (refine j0a rfl ?_ ?_ <;> intro hb <;> (try simp only [xA, xB, xG, xC, xD, xN] at hb) <;> (try exact xQ))
  ·have hmm : m < V.length - (k + 1) := by omega
   have e1 : eM L V k (m + 1) = eM L V k m ++ if 2 ≤ cnt L (gz V k) (gz V (k + 1 + m)) L.length then [(gz V k, gz V (k + 1 + m))] else [] := rfl
   have e2 : X ++ eM L V k (m + 1) = (X ++ eM L V k m) ++ if 2 ≤ cnt L (gz V k) (gz V (k + 1 + m)) L.length then [(gz V k, gz V (k + 1 + m))] else [] := by rw [e1, List.append_assoc]
   have hYl : (X ++ eM L V k m).length ≤ 14000 * k + 14000 := by rw [List.length_append]; have := hml m; omega
   generalize X ++ eM L V k m = Y at e2 hYl ⊢
   refine wt ?_
   refine j0f (γ := Nat) (fun q => [(5, .av (fs L)), (7, .av (zs V)), (8, .osl 70), (36, .av (zs V)), (37, .av (vi V.length)), (38, .av (vi k)), (10, .av (vi (gz V k))), (46, .av (.sl (V.length - (k + 1)) 1 (fun i => zf V (k + 1 + i)))), (47, .av (vi ((V.length - (k + 1) : Nat) : Int))), (48, .av (vi m)), (12, .av (vi (gz V (k + 1 + m)))), (13, .av (vi (cnt L (gz V k) (gz V (k + 1 + m)) q))), (52, .av (fs L)), (53, .av (vi L.length)), (54, .av (vi q))]) (fun q => [(70, .row 73 2 Y.length (ef Y))]) (fun q => q ≤ L.length) (fun q => L.length - q) 0 (Nat.zero_le _) (ent xS xT) ?_
   intro q hq
   have hql := z1w L (gz V k) (gz V (k + 1 + m)) q
   refine wt ?_
   (refine j0a rfl ?_ ?_ <;> intro hb <;> (try simp only [xA, xB, xG, xC, xD, xN] at hb) <;> (try exact xQ))
   ·have hqq : q < L.length := by omega
    have e3 : cnt L (gz V k) (gz V (k + 1 + m)) (q + 1) = cnt L (gz V k) (gz V (k + 1 + m)) q + if (hasB (x0f (gf L q).s) (gz V k) && hasB (x0f (gf L q).s) (gz V (k + 1 + m))) = true then 1 else 0 := rfl
    have hf6 := hL _ (y0U hqq)
    have hc1 := Q0V (x0f (gf L q).s) (gz V k) (by simp; omega)
    have hc2 := Q0V (x0f (gf L q).s) (gz V (k + 1 + m)) (by simp; omega)
    rw [show zs (x0f (gf L q).s) = .sl (gf L q).s.length 1 (xf (gf L q).s) from by rw [W1M, zs, List.length_map]] at hc1 hc2
    generalize hasB (x0f (gf L q).s) (gz V k) = b1 at e3 hc1
    generalize hasB (x0f (gf L q).s) (gz V (k + 1 + m)) = b2 at e3 hc2
    generalize cnt L (gz V k) (gz V (k + 1 + m)) q = c at e3 hql ⊢
    have hfin : ∀ c' : Nat, c' = cnt L (gz V k) (gz V (k + 1 + m)) (q + 1) → (c' : Int) = ((cnt L (gz V k) (gz V (k + 1 + m)) (q + 1) : Nat) : Int) := fun _ h => by rw [h]
    cases b1 <;> cases b2
    ·have hq3 := hc1
     have hq4 := hc2
     refine wt ?_
     repeat' (first
       |(refine j0l (v0n rfl rfl) rfl ?_; refine wt ?_)
       |(refine v0N (q0a rfl rfl (v0R (gf L q)) rfl rfl) ?_; refine wt ?_))
     exact j0b (q + 1) (by omega) (by omega) (ent ⟨.refl _, .refl _, .refl _, .refl _, .refl _, .refl _, .refl _, .refl _, .refl _, .refl _, .refl _, .int (hfin _ (by rw [e3]; rfl)), .refl _, .refl _, .int (by omega), trivial⟩ xT)
    ·have hq5 := hc1
     have hq6 := hc2
     refine wt ?_
     repeat' (first
       |(refine j0l (v0n rfl rfl) rfl ?_; refine wt ?_)
       |(refine v0N (q0a rfl rfl (v0R (gf L q)) rfl rfl) ?_; refine wt ?_))
     exact j0b (q + 1) (by omega) (by omega) (ent ⟨.refl _, .refl _, .refl _, .refl _, .refl _, .refl _, .refl _, .refl _, .refl _, .refl _, .refl _, .int (hfin _ (by rw [e3]; rfl)), .refl _, .refl _, .int (by omega), trivial⟩ xT)
    ·have hq7 := hc1
     have hq8 := hc2
     refine wt ?_
     repeat' (first
       |(refine j0l (v0n rfl rfl) rfl ?_; refine wt ?_)
       |(refine v0N (q0a rfl rfl (v0R (gf L q)) rfl rfl) ?_; refine wt ?_))
     exact j0b (q + 1) (by omega) (by omega) (ent ⟨.refl _, .refl _, .refl _, .refl _, .refl _, .refl _, .refl _, .refl _, .refl _, .refl _, .refl _, .int (hfin _ (by rw [e3]; rfl)), .refl _, .refl _, .int (by omega), trivial⟩ xT)
    ·have hq9 := hc1
     have hq10 := hc2
     refine wt ?_
     repeat' (first
       |(refine j0l (v0n rfl rfl) rfl ?_; refine wt ?_)
       |(refine v0N (q0a rfl rfl (v0R (gf L q)) rfl rfl) ?_; refine wt ?_))
     exact j0b (q + 1) (by omega) (by omega) (ent ⟨.refl _, .refl _, .refl _, .refl _, .refl _, .refl _, .refl _, .refl _, .refl _, .refl _, .refl _, .int (by have := hfin (c + 1) (by rw [e3]; rfl); omega), .refl _, .refl _, .int (by omega), trivial⟩ xT)
   ·have hqq : q = L.length := by omega
    subst hqq
    generalize cnt L (gz V k) (gz V (k + 1 + m)) L.length = c at e2 hql ⊢
    have hmx : Y.length + 1 ≤ maxLen := by simp only [maxLen]; omega
    refine wt ?_
    (refine j0a rfl ?_ ?_ <;> intro hb <;> (try simp only [xA, xB, xG, xC, xD, xN] at hb) <;> (try exact xQ))
    ·rw [if_pos (by omega)] at e2
     refine wt ?_
     repeat' (first
       |(refine j0l (j0k (t := 73) (is := [0, 1]) (xs := [_, _]) (vs := [_, _]) (j2T _ _) rfl rfl) rfl ?_; refine wt ?_)
       |(refine j0l (q0c (is := [0]) (xs := [_]) (vs := [_]) (us := [_, _]) (K1u _ _) rfl rfl rfl (X1R _ _)) rfl ?_; refine wt ?_)
       |(refine j0u (v0H (h := ef [(gz V k, gz V (k + 1 + m))]) (m := 1) rfl rfl rfl (fun i _ j _ => X1Q _ i j) xO hmx xO) rfl ?_; refine wt ?_))
     exact j0b (m + 1) (by omega) (by omega) (ent xS ⟨⟨_, rfl, .row (by rw [e2]; simp) (fun i hi j hj => by rw [e2]; exact X1P _ _ i hi j hj)⟩, trivial⟩)
    ·rw [if_neg (by omega), List.append_nil] at e2
     refine wt ?_
     exact j0b (m + 1) (by omega) (by omega) (ent xS ⟨⟨_, rfl, by rw [e2]; exact .refl _⟩, trivial⟩)
  ·have hmm : m = V.length - (k + 1) := by omega
   subst hmm
   refine wt ?_
   exact j0b (k + 1) (by omega) (by omega) (ent xS ⟨⟨_, rfl, by rw [e0]; exact .refl _⟩, trivial⟩)
 ·have hkl : k = V.length := by omega
  subst hkl
  refine wt ?_
  exact Q0D (q0f 70 rfl) (j0x (rvs := [_, _]) (τs := [_, _]) rfl rfl ⟨.tmp rfl, .tmp rfl, trivial⟩ rfl)
end Go.Proofs.YtgblokifbgeegaaGreatDoor.H.S
namespace Go.Proofs.YtgblokifbgeegaaGreatDoor.H.S
open Go Go.Vc Go.RowKit Go.Na Go.Lib
set_option maxHeartbeats 8000000
theorem X1u (x y : Int) : CtrA Tryz.prog 132 [vi x, vi y] (vi (Lib.compareInt x y)) := by
 refine z0F (us := [.int .i64 x, .int .i64 y]) (j0J Tryz.func132 rfl rfl) (fun Z w _ => (Tryz.cmp_Compare_int x y w).mono ?_) (fun Z w => rfl)
 rintro e w' ⟨rfl, rfl⟩
 exact ⟨rfl, Below.refl _ _⟩
theorem X1s (a b : Tr) : CtrA Tryz.prog 96 [.sl 3 1 (fun i _ => vi (co a i)), .sl 3 1 (fun i _ => vi (co b i))] (vi (x1k a b)) := by
 refine j0n _ Tryz.func96 rfl rfl Tryz.ntmps96 rfl fun w Z => ?_
 refine xU ?_
 refine wt ?_
 refine j0f (γ := Nat) (fun k => [(0, .av (.sl 3 1 (fun i _ => vi (co a i)))), (1, .av (.sl 3 1 (fun i _ => vi (co b i)))), (9, .av (.sl 3 1 (fun i _ => vi (co a i)))), (10, .av (vi 3)), (11, .av (vi k))]) (fun k => []) (fun k => k ≤ 3 ∧ x1E a b k = x1k a b) (fun k => 3 - k) 0 ⟨Nat.zero_le _, rfl⟩ (ent xS trivial) ?_
 rintro k ⟨hk, hc⟩
 refine wt ?_
 (refine j0a rfl ?_ ?_ <;> intro hb <;> (try simp only [xA, xB, xG, xC, xD, xN] at hb) <;> (try exact xQ))
 ·have hk3 : k < 3 := by omega
  have hf := Z0E (a := a) (b := b) hk3
  have h1 := X1u (co a k) (co b k)
  refine wt ?_
  (refine j0a rfl ?_ ?_ <;> intro hb <;> (try simp only [xA, xB, xG, xC, xD, xN] at hb) <;> (try exact xQ))
  refine wt ?_
  (refine j0a rfl ?_ ?_ <;> intro hb <;> (try simp only [xA, xB, xG, xC, xD, xN] at hb) <;> (try exact xQ))
  ·rw [if_pos hb] at hf
   refine wt ?_
   exact j0e rfl (.tmp rfl) (congrArg vi (by rw [← hc, hf]))
  ·rw [if_neg (by simpa using hb)] at hf
   refine wt ?_
   exact j0b (k + 1) ⟨by omega, by rw [← hf]; exact hc⟩ (by omega) (ent xS trivial)
 ·obtain rfl : k = 3 := by omega
  refine wt ?_
  exact j0e rfl (.tmp rfl) (congrArg vi hc)
def J0R (l : List Tr) : Int := if v0i l = 0 then (if (spn l).dim < 2 then 14 else 0) else v0i l
theorem z1k (l : List Tr) (hf : few l) : CtrA Tryz.prog 54 [ts l] (vi (J0R l)) := by
 refine j0n _ Tryz.func54 rfl rfl Tryz.ntmps54 rfl fun w Z => ?_
 have hd := X1F l hf
 unfold J0R
 by_cases h : v0i l = 0
 ·rw [if_pos h, h] at hd
  rw [if_pos h]
  generalize (spn l).dim = n at hd ⊢
  refine xU ?_
  refine wt ?_
  (refine j0a rfl ?_ ?_ <;> intro hb <;> (try simp only [xA, xB, xG, xC, xD, xN] at hb) <;> (try exact xQ))
  ·rw [if_pos hb]
   refine wt ?_
   exact xV
  ·rw [if_neg hb]
   refine wt ?_
   exact xV
 ·rw [if_neg h] at hd
  rw [if_neg h]
  generalize v0i l = e at h hd ⊢
  refine xU ?_
  refine wt ?_
  (refine j0a rfl ?_ ?_ <;> intro hb <;> (try simp only [xA, xB, xG, xC, xD, xN] at hb) <;> (try exact xQ))
  refine wt ?_
  exact xV
def crN (n : Tr) : Tr := if n = tz then n else q0R n
theorem K0k (a b c d : Tr) (ha : BT 100000 a) (hb' : BT 100000 b) (hc : BT 100000 c) (hd : BT 100000 d) : CtrA Tryz.prog 135 [tp a, tp b, tp c, tp d] (j0r [tp (crN (tcr (j0D b a) (j0D d c))), vb (decide (tcr (j0D b a) (j0D d c) ≠ tz))]) := by
 refine j0n _ Tryz.func135 rfl rfl Tryz.ntmps135 rfl fun w Z => ?_
 have hu := hb'.sub ha
 have hv := hd.sub hc
 have hn := (hu.cr hv).le (show (2 * ((100000 + 100000) * (100000 + 100000)) : Int) ≤ 1000000000000 by decide)
 have hp := x1i _ hn
 have m1 : Bn ((100000 + 100000) * (100000 + 100000)) ((b.y - a.y) * (d.z - c.z)) := j0O hu.y hv.z
 have m2 : Bn ((100000 + 100000) * (100000 + 100000)) ((b.z - a.z) * (d.y - c.y)) := j0O hu.z hv.y
 have m3 : Bn ((100000 + 100000) * (100000 + 100000)) ((b.z - a.z) * (d.x - c.x)) := j0O hu.z hv.x
 have m4 : Bn ((100000 + 100000) * (100000 + 100000)) ((b.x - a.x) * (d.z - c.z)) := j0O hu.x hv.z
 have m5 : Bn ((100000 + 100000) * (100000 + 100000)) ((b.x - a.x) * (d.y - c.y)) := j0O hu.x hv.y
 have m6 : Bn ((100000 + 100000) * (100000 + 100000)) ((b.y - a.y) * (d.x - c.x)) := j0O hu.y hv.x
 obtain ⟨_, _⟩ := m1
 obtain ⟨_, _⟩ := m2
 obtain ⟨_, _⟩ := m3
 obtain ⟨_, _⟩ := m4
 obtain ⟨_, _⟩ := m5
 obtain ⟨_, _⟩ := m6
 obtain ⟨⟨_, _⟩, ⟨_, _⟩, ⟨_, _⟩⟩ := ha
 obtain ⟨⟨_, _⟩, ⟨_, _⟩, ⟨_, _⟩⟩ := hb'
 obtain ⟨⟨_, _⟩, ⟨_, _⟩, ⟨_, _⟩⟩ := hc
 obtain ⟨⟨_, _⟩, ⟨_, _⟩, ⟨_, _⟩⟩ := hd
 refine xU ?_
 refine wt ?_
 exact j0x (rvs := [_, _]) (τs := [_, _]) rfl rfl ⟨.agg (us := v3 (crN (tcr (j0D b a) (j0D d c)))) rfl rfl rfl rfl, .tmp rfl, trivial⟩ rfl
def V3 (x : Value) : Prop := ∃ d : Tr, x = .agg #[.int .i64 d.x, .int .i64 d.y, .int .i64 d.z] ∧ d ≠ tz ∧ BT 80000000000 d
theorem W1x {d : Tr} (hn : d ≠ tz) (hB : BT 80000000000 d) (Z : j0p) (w : World) (v : Value) (h : AV.ok Z w (tp d) v) : V3 v := ⟨d, h, hn, hB⟩
theorem z1z {n : Tr} (h : n ≠ tz) : crN n = q0R n := by unfold crN; rw [if_neg h]
theorem Y1a {l : List Tr} (hl : RT l) {f : Fc} (h : f ∈ j0i l) : BT 1000000000000 f.n := by
 obtain ⟨a, b, c, h1⟩ := V0u (w0A h)
 rw [h1.ev]
 exact (X1q (hl a) (hl b) (hl c)).pr.le xE
theorem Q1L {l : List Tr} (s : S3 l) {i : Nat} (h : i < (Q0M l).length) : ∃ u v : Nat, (Q0M l).getD i (0, 0) = ((u : Int), (v : Int)) ∧ u < l.length ∧ v < l.length := by
 have hm : (Q0M l).getD i (0, 0) ∈ Q0M l := by simp [List.getD, h]
 generalize (Q0M l).getD i (0, 0) = x at hm
 unfold Q0M at hm
 rw [V0X] at hm
 obtain ⟨a, b, ha, hb, _, rfl, _⟩ := W0s _ _ (x1p l) hm
 exact ⟨a, b, rfl, (s.vxm ha).lt, (s.vxm hb).lt⟩
theorem x1T (l : List Tr) : (j1l l).length = (Q0M l).length := by unfold j1l; simp
theorem Q1J {l : List Tr} {i u v : Nat} (h : i < (Q0M l).length) (e : (Q0M l).getD i (0, 0) = ((u : Int), (v : Int))) : gt (j1l l) i = dv l u v := by
 have e' : (Q0M l)[i] = ((u : Int), (v : Int)) := by rw [← e]; simp [List.getD, h]
 unfold gt j1l
 simp [List.getD, h, e']
theorem k1J {l : List Tr} {i u v : Nat} (e : (Q0M l).getD i (0, 0) = ((u : Int), (v : Int))) : (List.range 2).map (fun j => ef (Q0M l) i j) = [Value.int .i64 u, .int .i64 v].map AV.val := by
 show [vi ((Q0M l).getD i (0, 0)).1, vi ((Q0M l).getD i (0, 0)).2] = _
 rw [e]; rfl
theorem q1a {g : List Tr} {i k : Nat} (hi : i < g.length) (hk : k < i) : cI g i ++ cK g i (k + 1) <+: j0T g := by
 have h1 : cK g i (k + 1) <+: cK g i i := y0Z (f := cK g i) (fun k => J0F g i k) xO
 have h2 : cI g (i + 1) <+: cI g g.length := y0Z (f := cI g) (fun n => z0l g n) xO
 rw [Z0A] at h2
 rw [z0l] at h2
 exact ((List.prefix_append_right_inj _).2 h1).trans h2
theorem x1W (l : List Tr) (s : S3 l) (h : v0i l = 0) : CtrA Tryz.prog 137 [ts l] (j0r [es (Q0M l), vi 0]) := by
 have d3 := (q0T l).2 s.hS
 have hs := w1k l (.inl s.h6) h
 have hv := j1f l s.hl s.h6
 have hA : J1p l = fs (j0i l) := by unfold J1p; rw [if_neg (by omega)]
 rw [hA] at hs hv
 rw [s.vert] at hv
 have hlen : (x0f (VL l)).length ≤ 7 := by
  rw [List.length_map]
  have := List.length_filter_le (fun i => (j0i l).any fun f => (vfN l f).contains i) (List.range l.length)
  rw [List.length_range] at this
  have h6 := s.h6
  unfold VL; omega
 exact Q1M l (j0i l) (x0f (VL l)) hs (z0r s.hl d3) (z0q l s.h6) (fun f hf => (y0I s.h6 f hf).2.2.1) hv xO
theorem x1U {l : List Tr} (h7 : l.length ≤ 7) : (Q0M l).length ≤ 1000000 := by
 have hlen : (x0f (VL l)).length ≤ 7 := by
  rw [List.length_map]
  have := List.length_filter_le (fun i => (j0i l).any fun f => (vfN l f).contains i) (List.range l.length)
  rw [List.length_range] at this
  unfold VL; omega
 have := Y0z (j0i l) (x0f (VL l)) xO (x0f (VL l)).length
 unfold Q0M X1O
 omega
theorem x1R (l : List Tr) (hd : (spn l).dim = 3) (h : v0i l = 0) (h7 : l.length ≤ 7) (hw : J0c l) : CtrM Tryz.prog 133 [lt l] V3 ((x0V l).map tp) := by
 have hl : RT l := (RT.of h).1
 have hl0 : 0 < l.length := by obtain ⟨a, _, _, ha, _⟩ := hw; omega
 have hfc := z1I l (.inl h7) (fun _ h3 => z0r hl (by have := y0F hl; omega))
 refine k1F _ Tryz.func133 rfl rfl Tryz.ntmps133 rfl fun y J Y w Z S => ?_
 have e1 : Q1P l = 0 := by unfold Q1P; rw [if_pos h, if_neg (by omega)]
 have e2 : X1Z l = j0i l := by unfold X1Z; rw [if_pos h, if_neg (by omega)]
 have s : S3 l := ⟨hl, h7, (q0T l).1 hd⟩
 have hD : x0V l = (j0i l).map (fun f => q0R f.n) ++ j0T (j1l l) := by unfold x0V X1G; rw [if_pos hd]
 have hgap := J0j (X0w hl)
 have hFB : ∀ f ∈ j0i l, q0R f.n ≠ tz ∧ BT 80000000000 (q0R f.n) ∧ f.n ≠ tz ∧ BT 1000000000000 f.n := fun f hf => by
  have hn := (y0I h7 f hf).1
  exact ⟨q0D hn, hgap _ (y0H s.hS hf), hn, Y1a hl hf⟩
 have hed := x1W l s h
 have hLl := z0q l h7
 have hat := fun i hi => Q1L s (i := i) hi
 have hgt := fun i u v hi e => Q1J (l := l) (i := i) (u := u) (v := v) hi e
 have hga := fun i u v e => k1J (l := l) (i := i) (u := u) (v := v) e
 have hgl := x1T l
 have hEl := x1U h7
 rw [e1, e2] at hfc
 generalize j0i l = L at hfc hD hFB hLl
 generalize Q0M l = EE at hed hat hgt hga hgl hEl
 generalize j1l l = G at hD hgt hgl
 refine xU ?_
 refine wt ?_
 refine w0e Y (γ := Nat) (fun k => [(0, .av (yv y)), (1, .av (lt l)), (61, .av (fs L)), (62, .av (vi L.length)), (63, .av (vi k))]) (fun k => k) (fun k => k ≤ L.length) (fun k => L.length - k) 0 S (Nat.zero_le _) (ent xS trivial) ?_
 intro k hk w Z S
 refine wt ?_
 (refine j0a rfl ?_ ?_ <;> intro hb <;> (try simp only [xA, xB, xG, xC, xD, xN] at hb) <;> (try exact xQ))
 ·have hkl : k < L.length := by omega
  obtain ⟨f1, f2, f3, f4⟩ := hFB (gf L k) (y0U hkl)
  have hp := x1i (gf L k).n f4
  rw [if_neg f3, decide_eq_true f3] at hp
  have hm : ((x0V l).map tp)[k]? = some (tp (q0R (gf L k).n)) := by
   rw [hD, List.getElem?_map, List.getElem?_append_left (by simpa using hkl), List.getElem?_map]
   simp [gf, List.getD, hkl]
  refine wt ?_
  repeat' (first
    |(refine j0l (v0n rfl rfl) rfl ?_; refine wt ?_)
    |(refine v0N (q0a rfl rfl (v0R (gf L k)) rfl rfl) ?_; refine wt ?_))
  refine v0Z x0G ?_
  refine x0x Y S (τ := tp (q0R (gf L k).n)) hm (W1x f1 f2) rfl rfl rfl rfl rfl (fun w' Z' S' => ?_)
  refine wt ?_
  exact q0w Y (g := k) (k + 1) S' xO xO (ent xS trivial)
 ·have hkl : k = L.length := by omega
  subst hkl
  refine wt ?_
  refine w0e Y (γ := Nat) (fun i => [(0, .av (yv y)), (1, .av (lt l)), (13, .av (es EE)), (86, .av (es EE)), (87, .av (vi EE.length)), (88, .av (vi i))]) (fun i => L.length + (cI G i).length) (fun i => i ≤ EE.length) (fun i => EE.length - i) 0 S (Nat.zero_le _) (ent xS trivial) ?_
  intro i hi w Z S
  refine wt ?_
  (refine j0a rfl ?_ ?_ <;> intro hb <;> (try simp only [xA, xB, xG, xC, xD, xN] at hb) <;> (try exact xQ))
  ·have hil : i < EE.length := by omega
   obtain ⟨u, v, e3, hu, hv⟩ := hat i hil
   have hga1 := hga i u v e3
   have hg1 := hgt i u v hil e3
   have q1 : (EE.getD i (0, 0)).fst = (u : Int) := by rw [e3]
   have q2 : (EE.getD i (0, 0)).snd = (v : Int) := by rw [e3]
   refine wt ?_
   rw [q1, q2]
   refine j0l (x0m (lo := none) (hi := some (.tmp 94)) (l := 0) (h := i) rfl rfl ⟨_, _, rfl, rfl⟩ xO xO) rfl ?_
   refine wt ?_
   refine w0e Y (γ := Nat) (fun k => [(0, .av (yv y)), (1, .av (lt l)), (13, .av (es EE)), (86, .av (es EE)), (87, .av (vi EE.length)), (88, .av (vi i)), (16, .av (.ptr 2 (fun j => [vi (u : Int), vi (v : Int)].getD j .any))), (95, .av (.sl (i - 0) 2 (fun k => ef EE (0 + k)))), (96, .av (vi ((i - 0 : Nat) : Int))), (97, .av (vi k))]) (fun k => L.length + (cI G i ++ cK G i k).length) (fun k => k ≤ i) (fun k => i - k) 0 (by rw [j2r, List.append_nil]; exact S) (Nat.zero_le _) (Ent.trans (v0Q 16 10 (fun j => [vi (u : Int), vi (v : Int)].getD j .any) rfl rfl rfl) (Ent.trans x0G (ent xS trivial))) ?_
   intro k hk w Z S
   refine wt ?_
   (refine j0a rfl ?_ ?_ <;> intro hb <;> (try simp only [xA, xB, xG, xC, xD, xN] at hb) <;> (try exact xQ))
   ·have hkl : k < i := by omega
    obtain ⟨u', v', e5, hu', hv'⟩ := hat k xO
    have hg2 := hgt k u' v' xO e5
    have q3 : (EE.getD (0 + k) (0, 0)).fst = (u' : Int) := by rw [Nat.zero_add, e5]
    have q4 : (EE.getD (0 + k) (0, 0)).snd = (v' : Int) := by rw [Nat.zero_add, e5]
    have hx := K0k (gt l u) (gt l v) (gt l u') (gt l v') (hl u) (hl v) (hl u') (hl v')
    rw [show tcr (j0D (gt l v) (gt l u)) (j0D (gt l v') (gt l u')) = tcr (dv l u v) (dv l u' v') from rfl] at hx
    have hBT : BT 80000000000 (tcr (dv l u v) (dv l u' v')) := ((((hl v).sub (hl u)).cr ((hl v').sub (hl u')))).le xE
    have hcs := J0F G i k
    have hpr := q1a (g := G) (i := i) (k := k) xO hkl
    rw [hg1, hg2] at hcs
    generalize tcr (dv l u v) (dv l u' v') = n at hx hBT hcs
    by_cases hn : n = tz
    ·rw [if_pos hn, List.append_nil] at hcs
     rw [decide_eq_false (fun q => q hn)] at hx
     generalize crN n = c at hx
     rw [← hcs] at S
     refine wt ?_
     rw [q3, q4]
     refine wt ?_
     exact q0w Y (g := k) (k + 1) S xO xO (ent xS trivial)
    ·rw [if_neg hn] at hcs
     rw [decide_eq_true hn, z1z hn] at hx
     rw [hcs, ← List.append_assoc] at hpr
     have hm : ((x0V l).map tp)[L.length + (cI G i ++ cK G i k).length]? = some (tp (q0R n)) := by
      rw [hD, List.getElem?_map, List.getElem?_append_right (by simp), List.length_map, Nat.add_sub_cancel_left, J1g hpr]; rfl
     have hlen : L.length + (cI G i ++ cK G i (k + 1)).length = L.length + (cI G i ++ cK G i k).length + 1 := by rw [hcs]; simp; omega
     refine wt ?_
     rw [q3, q4]
     refine wt ?_
     refine v0Z x0G ?_
     refine x0x Y S (τ := tp (q0R n)) hm (W1x (q0D hn) (V0M hBT)) rfl rfl rfl rfl rfl (fun w' Z' S' => ?_)
     rw [← hlen] at S'
     refine wt ?_
     exact q0w Y (g := k) (k + 1) S' xO xO (ent xS trivial)
   ·obtain rfl : k = i := by omega
    rw [← z0l] at S
    refine wt ?_
    exact q0w Y (g := k) (k + 1) S xO xO (ent xS trivial)
  ·have hil : i = EE.length := by omega
   subst hil
   have e4 : L.length + (cI G EE.length).length = ((x0V l).map tp).length := by rw [hD, ← hgl, Z0A]; simp
   rw [e4] at S
   refine wt ?_
   exact k0W Y rfl S
theorem x1Q (l : List Tr) (hd : ¬ (spn l).dim = 3) (h : v0i l = 0) (h7 : l.length ≤ 7) (hw : J0c l) : CtrM Tryz.prog 133 [lt l] V3 ((x0V l).map tp) := by
 have hl : RT l := (RT.of h).1
 have hl0 : 0 < l.length := by obtain ⟨a, _, _, ha, _⟩ := hw; omega
 have hfc := z1I l (.inl h7) (fun _ h3 => z0r hl (by have := y0F hl; omega))
 refine k1F _ Tryz.func133 rfl rfl Tryz.ntmps133 rfl fun y J Y w Z S => ?_
 have e1 : Q1P l = 14 := by unfold Q1P; rw [if_pos h, if_pos (by have := y0F hl; omega)]
 have hflat : ∀ i k, i < l.length → k < i → cI (dvs l) i ++ cK (dvs l) i k = [] → tcr (dv l 0 i) (dv l 0 k) ≠ tz → x0V l = [q0R (tcr (dv l 0 i) (dv l 0 k))] := fun i k hi hk h0 hn => by
  unfold x0V; rw [if_neg hd]; exact flatD_at hi hk h0 hn
 have hno : cI (dvs l) l.length ≠ [] := fun e => by
  obtain ⟨i, k, _, _, _, e2⟩ := flatD_ex hw
  unfold flatD at e2
  rw [← Z0A, V0W, e] at e2
  cases e2
 rw [e1] at hfc
 refine xU ?_
 refine wt ?_
 refine w0e Y (γ := Nat) (fun i => [(0, .av (yv y)), (1, .av (lt l)), (29, .av (vi l.length)), (30, .av (vi i))]) (fun _ => 0) (fun i => i ≤ l.length ∧ cI (dvs l) i = []) (fun i => l.length - i) 0 S ⟨Nat.zero_le _, rfl⟩ (ent xS trivial) ?_
 rintro i ⟨hi, hc0⟩ w Z S
 refine wt ?_
 (refine j0a rfl ?_ ?_ <;> intro hb <;> (try simp only [xA, xB, xG, xC, xD, xN] at hb) <;> (try exact xQ))
 ·have hil : i < l.length := by omega
  refine wt ?_
  refine w0e Y (γ := Nat) (fun k => [(0, .av (yv y)), (1, .av (lt l)), (29, .av (vi l.length)), (30, .av (vi i)), (5, .av (vi i)), (33, .av (vi i)), (34, .av (vi k))]) (fun _ => 0) (fun k => k ≤ i ∧ cI (dvs l) i ++ cK (dvs l) i k = []) (fun k => i - k) 0 S ⟨Nat.zero_le _, by rw [hc0]; rfl⟩ (ent xS trivial) ?_
  rintro k ⟨hk, hck⟩ w Z S
  refine wt ?_
  (refine j0a rfl ?_ ?_ <;> intro hb <;> (try simp only [xA, xB, xG, xC, xD, xN] at hb) <;> (try exact xQ))
  ·have hkl : k < i := by omega
   have hx := K0k (gt l 0) (gt l i) (gt l 0) (gt l k) (hl 0) (hl i) (hl 0) (hl k)
   have hfl := hflat i k hil hkl hck
   have hBT : BT 80000000000 (tcr (dv l 0 i) (dv l 0 k)) := ((((hl i).sub (hl 0)).cr ((hl k).sub (hl 0)))).le xE
   rw [show tcr (j0D (gt l i) (gt l 0)) (j0D (gt l k) (gt l 0)) = tcr (dv l 0 i) (dv l 0 k) from rfl] at hx
   have hcs : cK (dvs l) i (k + 1) = cK (dvs l) i k ++ if tcr (dv l 0 i) (dv l 0 k) = tz then [] else [q0R (tcr (dv l 0 i) (dv l 0 k))] := by rw [J0F, z0J hil, z0J (by omega)]
   generalize tcr (dv l 0 i) (dv l 0 k) = n at hx hfl hBT hcs
   by_cases hn : n = tz
   ·rw [if_pos hn, List.append_nil] at hcs
    rw [decide_eq_false (fun q => q hn)] at hx
    generalize crN n = c at hx
    refine wt ?_
    exact q0w Y (g := k) (k + 1) S ⟨by omega, by rw [hcs]; exact hck⟩ (by omega) (ent xS trivial)
   ·rw [decide_eq_true hn, z1z hn] at hx
    have hfl := hfl hn
    have hlen : ((x0V l).map tp).length = 0 + 1 := by rw [hfl]; rfl
    refine wt ?_
    refine v0Z x0G ?_
    refine Y0b Y S (τ := tp (q0R n)) (by rw [hfl]; rfl) (W1x (q0D hn) (V0M hBT)) rfl rfl rfl (fun w' Z' S' => ?_)
    rw [← hlen] at S'
    refine wt ?_
    exact w1u Y rfl S'
  ·obtain rfl : k = i := by omega
   refine wt ?_
   exact q0w Y (g := k) (k + 1) S ⟨by omega, by rw [z0l]; exact hck⟩ (by omega) (ent xS trivial)
 ·obtain rfl : i = l.length := by omega
  exact absurd hc0 hno
theorem Q1D (l : List Tr) (h : v0i l = 0) (h7 : l.length ≤ 7) (hw : J0c l) : CtrM Tryz.prog 133 [lt l] V3 ((x0V l).map tp) := by
 by_cases hd : (spn l).dim = 3
 ·exact x1R l hd h h7 hw
 ·exact x1Q l hd h h7 hw
abbrev dcl (l : List Tr) : AV := .clo 133 1 (fun i => [lt l].getD i .any)
theorem X1H (l : List Tr) : CtrA Tryz.prog 97 [ts l] (dcl l) := by
 refine j0n _ Tryz.func97 rfl rfl Tryz.ntmps97 rfl fun w Z => ?_
 refine xU ?_
 refine wt ?_
 exact xV
structure GD (d : Tr) : Prop where
 ne : d ≠ tz
 bt : BT 80000000000 d
def y1h (d : Tr) : Bool := decide (d ≠ tz) && decide (-80000000000 ≤ d.x) && decide (d.x ≤ 80000000000) && decide (-80000000000 ≤ d.y) && decide (d.y ≤ 80000000000) && decide (-80000000000 ≤ d.z) && decide (d.z ≤ 80000000000)
theorem Q0b (d : Tr) : y1h d = true ↔ GD d := by
 unfold y1h
 simp only [Bool.and_eq_true, decide_eq_true_eq]
 constructor
 ·rintro ⟨⟨⟨⟨⟨⟨h0, h1⟩, h2⟩, h3⟩, h4⟩, h5⟩, h6⟩; exact ⟨h0, ⟨h1, h2⟩, ⟨h3, h4⟩, ⟨h5, h6⟩⟩
 ·rintro ⟨h0, ⟨h1, h2⟩, ⟨h3, h4⟩, ⟨h5, h6⟩⟩; exact ⟨⟨⟨⟨⟨⟨h0, h1⟩, h2⟩, h3⟩, h4⟩, h5⟩, h6⟩
theorem GD.I {d : Tr} (h : GD d) : I64T d := by
 obtain ⟨_, ⟨⟨_, _⟩, ⟨_, _⟩, ⟨_, _⟩⟩⟩ := h
 exact ⟨⟨by omega, by omega⟩, ⟨by omega, by omega⟩, ⟨by omega, by omega⟩⟩
theorem x1g {l : List Tr} (hl : RT l) (h0 : 0 < l.length) {d : Tr} (hd : BT 80000000000 d) : Bn 24000000000000000 (loD l d) ∧ Bn 24000000000000000 (hiD l d) ∧ loD l d ≤ hiD l d := by
 obtain ⟨i, hi, e1⟩ := w0J (l := l) d h0
 obtain ⟨k, hk, e2⟩ := x0n (l := l) d h0
 have b1 := K0o (j1H hd (hl i)) (show (3 * (80000000000 * 100000) : Int) ≤ 24000000000000000 by decide)
 have b2 := K0o (j1H hd (hl k)) (show (3 * (80000000000 * 100000) : Int) ≤ 24000000000000000 by decide)
 rw [e1] at b1
 rw [e2] at b2
 have h1 := x0e d h0
 have h2 := w0I d h0
 exact ⟨b1, b2, by omega⟩
theorem Q1j {l : List Tr} (hl : RT l) (h0 : 0 < l.length) {d : Tr} (hd : GD d) : LR 100 (Wq l d) := by
 obtain ⟨⟨a1, a2⟩, ⟨b1, b2⟩, hle⟩ := x1g hl h0 hd.bt
 have hw : LI 17 (wdt l d) := (show (wdt l d).natAbs < 10 ^ 17 by unfold wdt; omega)
 have hn := w1G hd.I
 unfold Wq
 exact (LR.div (LR.ofI (k := 50) ((hw.mul hw).mono xE) xE) (LR.ofI (k := 50) (hn.mono xE) xE) (nnQ hd.ne)).mono xE
theorem j2e {l : List Tr} (hl : RT l) (h0 : 0 < l.length) {d : Tr} (hd : GD d) : zE d (loD l d) (hiD l d) = 0 ∧ zT d (loD l d) (hiD l d) = rtx (Wq l d) := by
 obtain ⟨_, _, hle⟩ := x1g hl h0 hd.bt
 have e : zE d (loD l d) (hiD l d) = 0 := by unfold zE; rw [if_neg hd.ne, if_neg (by omega)]
 exact ⟨e, by unfold zT; rw [if_pos e]; rfl⟩
theorem K1l (l : List Tr) (hl : RT l) (h0 : 0 < l.length) (d : Tr) (hd : GD d) : CtrA Tryz.prog 14 [zA d (loD l d) (hiD l d)] (j0r [vS (rtx (Wq l d)), vi 0]) := by
 obtain ⟨⟨a1, a2⟩, ⟨b1, b2⟩, _⟩ := x1g hl h0 hd.bt
 have h := k0X d (loD l d) (hiD l d) hd.I ⟨by omega, by omega⟩ ⟨by omega, by omega⟩
 rw [(j2e hl h0 hd).1, (j2e hl h0 hd).2] at h
 exact h
def wO (l : List Tr) : Option Tr → List UInt8
 |none => []
 |some d => rtx (Wq l d)
abbrev X0e (l : List Tr) (m : Option Tr) : Res := .cells [.av (vS (wO l m))]
def dO (m : Option Tr) : Tr := m.getD tz
def loO (l : List Tr) : Option Tr → Int
 |none => 0
 |some d => loD l d
def hiO (l : List Tr) : Option Tr → Int
 |none => 0
 |some d => hiD l d
abbrev J1e (l : List Tr) (m : Option Tr) : Res := .cells [.av (vi (dO m).x), .av (vi (dO m).y), .av (vi (dO m).z), .av (vi (loO l m)), .av (vi (hiO l m))]
theorem Z1h (q : Rat) : rtx q ≠ [] := fun e => by
 unfold rtx at e
 split at e
 ·unfold itoa at e
  split at e
  ·cases e
  ·exact w0g _ e
 ·simp at e
theorem X0T (q : Rat) : rsg q = -1 ∨ rsg q = 0 ∨ rsg q = 1 := by
 unfold rsg
 split
 ·exact .inr (.inl rfl)
 ·split
  ·exact .inl rfl
  ·exact .inr (.inr rfl)
theorem W1O (l : List Tr) (d : Tr) (m : Option Tr) (hl : RT l) (h0 : 0 < l.length) (h7 : l.length ≤ 7) (hd : GD d) (hm : ∀ x, m = some x → GD x) :
  CtrH Tryz.prog 95 [.av (tp d), .av (lt l), .own 1000 0, .own 1001 0] [(1000, X0e l m), (1001, J1e l m)] (.av (vi 0)) [(1000, X0e l (z0j l m d)), (1001, J1e l (z0j l m d))] := by
 have hz := Q1c l d hl h0 xO hd.bt xE
 have hs := K1l l hl h0 d hd
 cases m with
 |none =>
  refine z0S _ Tryz.func95 rfl rfl Tryz.ntmps95 rfl rfl fun w Z ν => ?_
  refine xU ?_
  refine wt ?_
  exact j0W (T' := [(5, .av (vi 0))]) (O' := [(1000, X0e l (some d)), (1001, J1e l (some d))]) (ent ⟨.refl _, trivial⟩ xT) (q0G rfl rfl rfl)
 |some x =>
  have hx := hm x rfl
  have hc := y0o (Wq l d) (Wq l x) ((Q1j hl h0 hd).mono xE) ((Q1j hl h0 hx).mono xE)
  have hne : (wO l (some x) == []) = false := by rw [beq_eq_false_iff_ne]; exact Z1h _
  have hb0 := X1m (l := l) hd.ne hx.ne
  have e1 := v1V (q := Wq l d) (r := Wq l x)
  have e2 := J1l (q := Wq l d) (r := Wq l x)
  have hcp := (X1s d x).of (args' := [.sl 3 1 (fun i _ => .val ((v3 d).getD i undef)), .sl 3 1 (fun i _ => vi (co x i))]) ⟨ALe.sl' rfl (fun i hi j hj => by
    rcases (by omega : i = 0 ∨ i = 1 ∨ i = 2) with rfl | rfl | rfl <;> rfl), .refl _, trivial⟩
  have hlex := j1R d x
  have hS : z0j l (some x) d = if bef l d x then some d else some x := rfl
  rcases X0T (Wq l d - Wq l x) with er | er | er
  ·rw [er] at hc e1
   rw [hS, if_pos (hb0.2 (.inl (e1.1 (by decide))))]
   refine z0S _ Tryz.func95 rfl rfl Tryz.ntmps95 rfl rfl fun w Z ν => ?_
   refine xU ?_
   refine wt ?_
   rw [hne]
   refine wt ?_
   exact j0W (T' := [(5, .av (vi 0))]) (O' := [(1000, X0e l (some d)), (1001, J1e l (some d))]) (ent ⟨.refl _, trivial⟩ xT) (q0G rfl rfl rfl)
  ·rw [er] at hc e1 e2
   have eq := e2.1 rfl
   by_cases hle : y0s d x
   ·have h3 := decide_eq_true (hlex.2 hle)
    rw [hS, if_pos (hb0.2 (.inr ⟨eq, hle⟩))]
    refine z0S _ Tryz.func95 rfl rfl Tryz.ntmps95 rfl rfl fun w Z ν => ?_
    refine xU ?_
    refine wt ?_
    rw [hne]
    refine wt ?_
    repeat' (first
      |(refine Q0O (v0V (n := 3) rfl xE xE) rfl rfl rfl ?_; refine wt ?_)
      |(refine Q0O (y0S (len := 3) rfl rfl xE) rfl rfl rfl ?_; refine wt ?_)
      |(refine Q0O (X0u hcp rfl rfl rfl rfl) rfl rfl rfl ?_; refine wt ?_))
    rw [h3]
    refine wt ?_
    exact j0W (T' := [(5, .av (vi 0))]) (O' := [(1000, X0e l (some d)), (1001, J1e l (some d))]) (ent ⟨.refl _, trivial⟩ xT) (q0G rfl rfl rfl)
   ·have h3 := decide_eq_false (fun q => hle (hlex.1 q))
    rw [hS, if_neg (fun q => (hb0.1 q).elim (fun q => by have := e1.2 q; omega) (fun q => hle q.2))]
    refine z0S _ Tryz.func95 rfl rfl Tryz.ntmps95 rfl rfl fun w Z ν => ?_
    refine xU ?_
    refine wt ?_
    rw [hne]
    refine wt ?_
    repeat' (first
      |(refine Q0O (v0V (n := 3) rfl xE xE) rfl rfl rfl ?_; refine wt ?_)
      |(refine Q0O (y0S (len := 3) rfl rfl xE) rfl rfl rfl ?_; refine wt ?_)
      |(refine Q0O (X0u hcp rfl rfl rfl rfl) rfl rfl rfl ?_; refine wt ?_))
    rw [h3]
    refine wt ?_
    exact j0W (T' := [(5, .av (vi 0))]) (O' := [(1000, X0e l (some x)), (1001, J1e l (some x))]) (ent ⟨.refl _, trivial⟩ xT) (q0G rfl rfl rfl)
  ·rw [er] at hc e1 e2
   rw [hS, if_neg (fun q => (hb0.1 q).elim (fun q => by have := e1.2 q; omega) (fun q => by have := e2.2 q.1; omega))]
   refine z0S _ Tryz.func95 rfl rfl Tryz.ntmps95 rfl rfl fun w Z ν => ?_
   refine xU ?_
   refine wt ?_
   rw [hne]
   refine wt ?_
   exact j0W (T' := [(5, .av (vi 0))]) (O' := [(1000, X0e l (some x)), (1001, J1e l (some x))]) (ent ⟨.refl _, trivial⟩ xT) (q0G rfl rfl rfl)
def k1P : Value → Int
 |.int .i64 n => n
 |_ => 0
def k1t (x : Value) : Tr := ⟨k1P (cellOf x 0), k1P (cellOf x 1), k1P (cellOf x 2)⟩
theorem j2X (d : Tr) : k1t (.agg #[.int .i64 d.x, .int .i64 d.y, .int .i64 d.z]) = d := rfl
def mS (l : List Tr) (pre : List Value) : Option Tr := w0O l ((pre.map k1t).filter y1h)
theorem V1z (l : List Tr) (pre : List Value) {d : Tr} (h : GD d) : mS l (pre ++ [.agg #[.int .i64 d.x, .int .i64 d.y, .int .i64 d.z]]) = z0j l (mS l pre) d := by
 unfold mS
 rw [List.map_append, List.filter_append]
 have e : List.filter y1h (List.map k1t [Value.agg #[.int .i64 d.x, .int .i64 d.y, .int .i64 d.z]]) = [d] := by
  simp only [List.map_cons, List.map_nil, j2X, List.filter_cons, (Q0b d).2 h]
  rfl
 rw [e, x1u]
theorem j1B {l : List Tr} : ∀ (L : List Tr) (m : Option Tr) (P : Tr → Prop), (∀ x, m = some x → P x) → (∀ x ∈ L, P x) → ∀ x, L.foldl (z0j l) m = some x → P x
 |[], m, P, hm, _, x, h => hm x h
 |d :: L, m, P, hm, hL, x, h => by
  refine j1B L (z0j l m d) P (fun y hy => ?_) (fun y hy => hL y (by simp [hy])) x h
  cases m with
  |none => cases hy; exact hL d (by simp)
  |some z =>
   simp only [z0j] at hy
   split at hy
   ·cases hy; exact hL d (by simp)
   ·cases hy; exact hm _ rfl
theorem k1V (l : List Tr) (pre : List Value) (x : Tr) (h : mS l pre = some x) : GD x :=
 j1B _ none GD (fun _ h => by cases h) (fun y hy => (Q0b y).1 (List.mem_filter.1 hy).2) x h
theorem J1M {Z : j0p} {w : World} : ∀ {L : List Tr} {xs : List Value}, All2 (fun τ v => AV.ok Z w τ v) (L.map tp) xs → xs.map k1t = L
 |[], [], _ => rfl
 |d :: L, x :: xs, ⟨h1, h2⟩ => by
  obtain rfl : x = _ := h1
  rw [List.map_cons, J1M h2]
  rfl
 |[], _ :: _, h => h.elim
 |_ :: _, [], h => h.elim
theorem q1h {l : List Tr} (h : v0i l = 0) (h7 : l.length ≤ 7) (hw : J0c l) : ∀ d ∈ x0V l, GD d := fun d hd => by
 have hl := (RT.of h).1
 have hgap := J0j (X0w hl)
 unfold x0V at hd
 split at hd
 ·next h3 =>
  have s : S3 l := ⟨hl, h7, (q0T l).1 h3⟩
  unfold X1G at hd
  rcases List.mem_append.1 hd with h1 | h1
  ·obtain ⟨f, hf, rfl⟩ := List.mem_map.1 h1
   exact ⟨q0D (y0I h7 f hf).1, hgap _ (y0H s.hS hf)⟩
  ·obtain ⟨i, k, hi, hk, hn, rfl⟩ := q0g.1 h1
   have hB : ∀ v ∈ j1l l, BT 200000 v := fun v hv => by
    rcases Z0T s v hv with q | q
    ·exact X0w hl _ q
    ·have := z1m (X0w hl _ q)
     obtain ⟨⟨a, b⟩, ⟨c, e⟩, ⟨f, g⟩⟩ := this
     simp only [j0N] at a b c e f g
     refine ⟨⟨?_, ?_⟩, ⟨?_, ?_⟩, ⟨?_, ?_⟩⟩ <;> omega
   exact ⟨q0D hn, J0j hB _ h1⟩
 ·obtain ⟨i, k, hi, hk, hn, e⟩ := flatD_ex hw
  rw [e, List.mem_singleton] at hd
  subst hd
  exact ⟨q0D hn, V0M ((((hl i).sub (hl 0)).cr ((hl k).sub (hl 0))).le xE)⟩
theorem Y1G {l : List Tr} (h : v0i l = 0) (h7 : l.length ≤ 7) (hw : J0c l) {xs : List Value} (hx : xs.map k1t = x0V l) : mS l xs = some (lm l) := by
 unfold mS
 rw [hx, List.filter_eq_self.2 (fun d hd => (Q0b d).2 (q1h h h7 hw d hd)), j1y (RT.of h).1 h7 hw, V1w hw]
theorem z1l (l : List Tr) (h : v0i l = 0) (h7 : l.length ≤ 7) (hw : J0c l) : CtrA Tryz.prog 55 [ts l] (j0r [vS (rtx (Wq l (lm l))), zA (lm l) (loD l (lm l)) (hiD l (lm l)), vi 0]) := by
 have hl : RT l := (RT.of h).1
 have hl0 : 0 < l.length := by obtain ⟨a, _, _, ha, _⟩ := hw; omega
 have hdc := X1H l
 refine k1E _ Tryz.func55 rfl rfl Tryz.ntmps55 rfl fun w Z => ?_
 refine xU ?_
 refine z0E ?_
 refine q0S ?_
 refine j0l (Y0B rfl rfl) rfl ?_
 refine j0u (j0I 20 rfl) rfl ?_
 refine j0u (j0I 21 rfl) rfl ?_
 refine j0u (j0I 22 rfl) rfl ?_
 refine wt ?_
 refine j0l (X0v (caps := [.av (lt l), .own 10 0, .own 11 0]) rfl) rfl ?_
 refine j0u (j0I 23 rfl) rfl ?_
 refine v0N (w0t (s := .clo 95 [.av (lt l), .own 10 0, .own 11 0]) rfl rfl rfl rfl rfl nofun) ?_
 refine wt ?_
 refine X0l rfl rfl (Q1D l h h7 hw) [8, 14, 15, 16, 17, 9, 18, 19, 20, 21] [(2, .own 20 0), (3, .own 21 0), (4, .own 22 0), (5, .own 10 0), (6, .own 11 0), (7, .own 23 0), (13, .av (dcl l))] (fun pre => [(10, X0e l (mS l pre)), (11, J1e l (mS l pre)), (20, .cells [.av (vS [])]), (21, .cells [.av (vi 0), .av (vi 0), .av (vi 0), .av (vi 0), .av (vi 0)]), (22, .cells [.av (vi 0)]), (23, .cells [.clo 95 [.av (lt l), .own 10 0, .own 11 0]])]) (fun x => [(8, .av (.ptr 3 (fun j => .val (cellOf x j))))]) (ent xS xT) rfl rfl rfl rfl (fun _ => rfl) ?_ ?_ ?_
 ·rintro lp a0 w0 Z0 keep pre x ⟨d, rfl, hn, hB⟩
  refine wt ?_
  exact w1s (Ent.trans (v0Q 8 12 (fun j => .val (cellOf (.agg #[.int .i64 d.x, .int .i64 d.y, .int .i64 d.z]) j)) rfl rfl rfl) (ent xS xT))
 ·rintro lp a0 w0 Z0 keep pre x ⟨d, rfl, hn, hB⟩ hlen
  have hk := W1O l d (mS l pre) hl hl0 h7 ⟨hn, hB⟩ (k1V l pre)
  rw [V1z l pre ⟨hn, hB⟩]
  refine wt ?_
  refine j0u (w1U [(1000, 10), (1001, 11)] hk rfl rfl ⟨rfl, rfl, trivial⟩ rfl) rfl ?_
  refine wt ?_
  exact w1v (ent xS xT)
 ·intro D w2 xs Z1 ν a hA hR h'
  rw [Y1G h h7 hw (J1M hR)] at h'
  refine J1r ⟨_, _, h'⟩ ?_
  refine wt ?_
  exact X0Z hA (j0x (rvs := [_, _, _]) (τs := [_, _, _]) rfl rfl ⟨.cell rfl rfl rfl, .agg (us := [.int .i64 (lm l).x, .int .i64 (lm l).y, .int .i64 (lm l).z, .int .i64 (loD l (lm l)), .int .i64 (hiD l (lm l))]) rfl rfl rfl rfl, .cell rfl rfl rfl, trivial⟩ rfl)
theorem X0s {l : List Tr} (h : J0R l = 0) : v0i l = 0 ∧ J0c l := by
 unfold J0R at h
 by_cases h0 : v0i l = 0
 ·rw [if_pos h0] at h
  refine ⟨h0, (Z0M l).2 ?_⟩
  by_cases h2 : (spn l).dim < 2
  ·rw [if_pos h2] at h; omega
  ·omega
 ·rw [if_neg h0] at h; exact absurd h h0
theorem few.le7 {l : List Tr} (hf : few l) (h : v0i l = 0) : l.length ≤ 7 := (hf.le h).2
def wtx (l : List Tr) : List UInt8 := if J0R l = 0 then rtx (Wq l (lm l)) else []
def dW (l : List Tr) : Tr := if J0R l = 0 then lm l else tz
def aW (l : List Tr) : Int := if J0R l = 0 then loD l (lm l) else 0
def bW (l : List Tr) : Int := if J0R l = 0 then hiD l (lm l) else 0
theorem z0i (l : List Tr) (hf : few l) : CtrA Tryz.prog 18 [ts l] (j0r [vS (wtx l), zA (dW l) (aW l) (bW l), vi (J0R l)]) := by
 have hg := z1k l hf
 have hl := fun e : J0R l = 0 => z1l l (X0s e).1 (hf.le7 (X0s e).1) (X0s e).2
 unfold wtx dW aW bW
 generalize J0R l = e at hg hl ⊢
 by_cases he : e = 0
 ·rw [if_pos he, if_pos he, if_pos he, if_pos he]
  have hl := hl he
  subst he
  refine j0n _ Tryz.func18 rfl rfl Tryz.ntmps18 rfl fun w Z => ?_
  refine xU ?_
  refine wt ?_
  exact j0x (rvs := [_, _, _]) (τs := [_, _, _]) rfl rfl ⟨.tmp rfl, .agg (us := [_, _, _, _, _]) rfl rfl rfl rfl, .tmp rfl, trivial⟩ rfl
 ·rw [if_neg he, if_neg he, if_neg he, if_neg he]
  refine j0n _ Tryz.func18 rfl rfl Tryz.ntmps18 rfl fun w Z => ?_
  refine xU ?_
  refine wt ?_
  (refine j0a rfl ?_ ?_ <;> intro hb <;> (try simp only [xA, xB, xG, xC, xD, xN] at hb) <;> (try exact xQ))
  refine wt ?_
  exact j0x (rvs := [_, _, _]) (τs := [_, _, _]) rfl rfl ⟨.tmp rfl, .agg (us := [_, _, _, _, _]) rfl rfl rfl rfl, .tmp rfl, trivial⟩ rfl
def loK (l : List Tr) (d : Tr) (k : Nat) : List Nat := (List.range k).filter (loB l d)
def hiK (l : List Tr) (d : Tr) (k : Nat) : List Nat := (List.range k).filter (hiB l d)
theorem y1r (l : List Tr) (d : Tr) (k : Nat) : loK l d (k + 1) = if j0c d (gt l k) = loD l d then loK l d k ++ [k] else loK l d k := by
 unfold loK
 rw [List.range_succ, List.filter_append]
 by_cases h : j0c d (gt l k) = loD l d
 ·rw [if_pos h]; simp [loB, h]
 ·rw [if_neg h]; simp [loB, h]
theorem y1i (l : List Tr) (d : Tr) (k : Nat) : hiK l d (k + 1) = if j0c d (gt l k) = hiD l d then hiK l d k ++ [k] else hiK l d k := by
 unfold hiK
 rw [List.range_succ, List.filter_append]
 by_cases h : j0c d (gt l k) = hiD l d
 ·rw [if_pos h]; simp [hiB, h]
 ·rw [if_neg h]; simp [hiB, h]
theorem V1x (l : List Tr) (d : Tr) (k : Nat) : (loK l d k).length ≤ k := by have := List.length_filter_le (loB l d) (List.range k); simpa [loK] using this
theorem V1f (l : List Tr) (d : Tr) (k : Nat) : (hiK l d k).length ≤ k := by have := List.length_filter_le (hiB l d) (List.range k); simpa [hiK] using this
def cLo (l : List Tr) : List Nat := if J0R l = 0 then loS l (lm l) else []
def cHi (l : List Tr) : List Nat := if J0R l = 0 then hiS l (lm l) else []
theorem Z0t (l : List Tr) (hf : few l) : CtrA Tryz.prog 20 [ts l] (j0r [idx (cLo l), idx (cHi l), vi (J0R l)]) := by
 have hg := z0i l hf
 unfold cLo cHi
 by_cases he : J0R l = 0
 ·rw [if_pos he, if_pos he, he]
  unfold wtx dW aW bW at hg
  rw [if_pos he, if_pos he, if_pos he, if_pos he, he] at hg
  obtain ⟨h0, hw⟩ := X0s he
  have h7 := hf.le7 h0
  have hl := (RT.of h0).1
  have hB := Y1C hl hw
  show CtrA Tryz.prog 20 [ts l] (j0r [idx (loK l (lm l) l.length), idx (hiK l (lm l) l.length), vi 0])
  generalize lm l = d at hg hB ⊢
  refine j0n _ Tryz.func20 rfl rfl Tryz.ntmps20 rfl fun w Z => ?_
  refine xU ?_
  refine wt ?_
  refine j0f (γ := Nat) (fun k => [(0, .av (ts l)), (6, .own 10 0), (8, .osl 70), (9, .osl 71), (22, .av (ts l)), (23, .av (vi l.length)), (24, .av (vi k))]) (fun k => [(10, .cells [.av (vi d.x), .av (vi d.y), .av (vi d.z), .av (vi (loD l d)), .av (vi (hiD l d))]), (70, .row 3 1 (loK l d k).length (xf (loK l d k))), (71, .row 3 1 (hiK l d k).length (xf (hiK l d k)))]) (fun k => k ≤ l.length) (fun k => l.length - k) 0 (Nat.zero_le _) (Ent.trans (w0S (dd := 8) 70 3 1 (xf []) rfl rfl) (Ent.trans (w0S (dd := 9) 71 3 1 (xf []) rfl rfl) (ent xS xT))) ?_
  intro k hk
  refine wt ?_
  (refine j0a rfl ?_ ?_ <;> intro hb <;> (try simp only [xA, xB, xG, xC, xD, xN] at hb) <;> (try exact xQ))
  ·have hkl : k < l.length := by omega
   have hp := Z0u (gt l k) d (hl k) hB xE
   have l1 := y1r l d k
   have l2 := y1i l d k
   have l3 := V1x l d k
   have l4 := V1f l d k
   generalize loK l d k = X at l1 l3 ⊢
   generalize hiK l d k = X' at l2 l4 ⊢
   have m1 : X.length + 1 ≤ maxLen := by simp only [maxLen]; omega
   have m2 : X'.length + 1 ≤ maxLen := by simp only [maxLen]; omega
   refine wt ?_
   (refine j0a rfl ?_ ?_ <;> intro hb <;> (try simp only [xA, xB, xG, xC, xD, xN] at hb) <;> (try exact xQ))
   ·rw [if_pos hb] at l1
    refine wt ?_
    (refine j0a rfl ?_ ?_ <;> intro hb <;> (try simp only [xA, xB, xG, xC, xD, xN] at hb) <;> (try exact xQ))
    ·rw [if_pos hb] at l2
     refine wt ?_
     exact j0b (k + 1) (by omega) (by omega) (ent xS ⟨⟨_, rfl, .refl _⟩, ⟨_, rfl, by rw [l1]; exact .refl _⟩, ⟨_, rfl, by rw [l2]; exact .refl _⟩, trivial⟩)
    ·rw [if_neg hb] at l2
     refine wt ?_
     exact j0b (k + 1) (by omega) (by omega) (ent xS ⟨⟨_, rfl, .refl _⟩, ⟨_, rfl, by rw [l1]; exact .refl _⟩, ⟨_, rfl, by rw [l2]; exact .refl _⟩, trivial⟩)
   ·rw [if_neg hb] at l1
    refine wt ?_
    (refine j0a rfl ?_ ?_ <;> intro hb <;> (try simp only [xA, xB, xG, xC, xD, xN] at hb) <;> (try exact xQ))
    ·rw [if_pos hb] at l2
     refine wt ?_
     exact j0b (k + 1) (by omega) (by omega) (ent xS ⟨⟨_, rfl, .refl _⟩, ⟨_, rfl, by rw [l1]; exact .refl _⟩, ⟨_, rfl, by rw [l2]; exact .refl _⟩, trivial⟩)
    ·rw [if_neg hb] at l2
     refine wt ?_
     exact j0b (k + 1) (by omega) (by omega) (ent xS ⟨⟨_, rfl, .refl _⟩, ⟨_, rfl, by rw [l1]; exact .refl _⟩, ⟨_, rfl, by rw [l2]; exact .refl _⟩, trivial⟩)
  ·have hkl : k = l.length := by omega
   subst hkl
   refine wt ?_
   exact Q0D (Ent.trans (q0f 70 rfl) (q0f 71 rfl)) (j0x (rvs := [_, _, _]) (τs := [_, _, _]) rfl rfl ⟨.tmp rfl, .tmp rfl, .tmp rfl, trivial⟩ rfl)
 ·rw [if_neg he, if_neg he]
  generalize J0R l = e at hg he ⊢
  have key : CtrA Tryz.prog 20 [ts l] (j0r [.val (.slice none 0 0), .val (.slice none 0 0), vi e]) := by
   refine j0n _ Tryz.func20 rfl rfl Tryz.ntmps20 rfl fun w Z => ?_
   refine xU ?_
   refine wt ?_
   (refine j0a rfl ?_ ?_ <;> intro hb <;> (try simp only [xA, xB, xG, xC, xD, xN] at hb) <;> (try exact xQ))
   refine wt ?_
   exact xX
  exact key.to (ALe.tup ⟨ALe.nil, ALe.nil, .refl _, trivial⟩)
def Q1Q (l : List Tr) (t : Int) : Int := if v0i l = 0 then (if t < 0 ∨ 100000 < t then 2 else J0R l) else v0i l
def inW (l : List Tr) (t : Int) : Bool := if Q1Q l t = 0 then decide (Wq l (lm l) ≤ ((t * t : Int) : Rat)) else false
theorem Z1f (q r : Rat) : decide (rsg (q - r) ≤ 0) = decide (q ≤ r) := by
 rw [Bool.eq_iff_iff, decide_eq_true_eq, decide_eq_true_eq]
 have h1 := v1V (q := r) (r := q)
 have h2 := v1V (q := q) (r := r)
 have h3 := J1l (q := q) (r := r)
 rcases X0T (q - r) with h | h | h
 ·have : q < r := h2.1 xO
  exact ⟨fun _ => Rat.le_of_lt this, fun _ => by omega⟩
 ·have e : q = r := h3.1 h
  exact ⟨fun _ => by rw [e]; exact Rat.le_refl, fun _ => by omega⟩
 ·constructor
  ·intro _; omega
  ·intro hle
   exfalso
   rcases Rat.le_iff_lt_or_eq.1 hle with h4 | h4
   ·have := h2.2 h4; omega
   ·have := h3.2 h4; omega
theorem Y0m (l : List Tr) (t : Int) (hf : few l) : CtrA Tryz.prog 23 [ts l, vi t] (j0r [vb (inW l t), vi (Q1Q l t)]) := by
 have hc := x0Q l
 have hg := z0i l hf
 have hE : Q1Q l t = if v0i l = 0 then (if t < 0 ∨ 100000 < t then 2 else J0R l) else v0i l := rfl
 have hI : inW l t = if Q1Q l t = 0 then decide (Wq l (lm l) ≤ ((t * t : Int) : Rat)) else false := rfl
 generalize inW l t = b at hI ⊢
 generalize Q1Q l t = E at hE hI ⊢
 by_cases h0 : v0i l = 0
 ·rw [if_pos h0] at hE
  rw [h0] at hc
  by_cases ht : t < 0 ∨ 100000 < t
  ·rw [if_pos ht] at hE
   rw [hE, if_neg (by decide)] at hI
   subst hE hI
   refine j0n _ Tryz.func23 rfl rfl Tryz.ntmps23 rfl fun w Z => ?_
   refine xU ?_
   by_cases h1 : t < 0
   ·have h1' := decide_eq_true h1
    refine wt ?_
    rw [h1']
    refine wt ?_
    exact xW
   ·have h1' := decide_eq_false h1
    refine wt ?_
    rw [h1']
    refine wt ?_
    (refine j0a rfl ?_ ?_ <;> intro hb <;> (try simp only [xA, xB, xG, xC, xD, xN] at hb) <;> (try exact xQ))
    refine wt ?_
    exact xW
  ·rw [if_neg ht] at hE
   have h1' : decide (t < 0) = false := decide_eq_false xO
   by_cases he : J0R l = 0
   ·rw [he] at hE
    rw [if_pos hE] at hI
    subst hE
    unfold wtx dW aW bW at hg
    rw [if_pos he, if_pos he, if_pos he, if_pos he, he] at hg
    obtain ⟨_, hw⟩ := X0s he
    have hl := (RT.of h0).1
    have hl0 : 0 < l.length := by obtain ⟨a, _, _, ha, _⟩ := hw; omega
    have hGD : GD (lm l) := ⟨(Y1E hw).1, Y1C hl hw⟩
    have htt : t * t ≤ 10000000000 := by
     have := Int.mul_le_mul (show t ≤ 100000 by omega) (show t ≤ 100000 by omega) xO xO
     omega
    have htt0 : 0 ≤ t * t := Int.mul_nonneg xO xO
    have hwh := v0A (t * t) ⟨by omega, by omega⟩
    have hcm := y0o (Wq l (lm l)) ((t * t : Int) : Rat) ((Q1j hl hl0 hGD).mono xE) (LR.ofI ((show LI 19 (t * t) from I64.li ⟨by omega, by omega⟩).mono xE) xE)
    rw [vRI] at hcm
    rw [← Z1f] at hI
    subst hI
    refine j0n _ Tryz.func23 rfl rfl Tryz.ntmps23 rfl fun w Z => ?_
    refine xU ?_
    refine wt ?_
    rw [h1']
    refine wt ?_
    (refine j0a rfl ?_ ?_ <;> intro hb <;> (try simp only [xA, xB, xG, xC, xD, xN] at hb) <;> (try exact xQ))
    refine wt ?_
    exact xW
   ·rw [hE, if_neg he] at hI
    rw [hE, hI]
    generalize J0R l = e at hg he ⊢
    refine j0n _ Tryz.func23 rfl rfl Tryz.ntmps23 rfl fun w Z => ?_
    refine xU ?_
    refine wt ?_
    rw [h1']
    refine wt ?_
    (refine j0a rfl ?_ ?_ <;> intro hb <;> (try simp only [xA, xB, xG, xC, xD, xN] at hb) <;> (try exact xQ))
    refine wt ?_
    (refine j0a rfl ?_ ?_ <;> intro hb <;> (try simp only [xA, xB, xG, xC, xD, xN] at hb) <;> (try exact xQ))
    refine wt ?_
    exact xW
 ·rw [if_neg h0] at hE
  rw [hE, if_neg h0] at hI
  rw [hE, hI]
  generalize v0i l = e at hc h0 ⊢
  refine j0n _ Tryz.func23 rfl rfl Tryz.ntmps23 rfl fun w Z => ?_
  refine xU ?_
  refine wt ?_
  (refine j0a rfl ?_ ?_ <;> intro hb <;> (try simp only [xA, xB, xG, xC, xD, xN] at hb) <;> (try exact xQ))
  refine wt ?_
  exact xW
end Go.Proofs.YtgblokifbgeegaaGreatDoor.H.S
section
end
section
end
namespace Go.Proofs.YtgblokifbgeegaaGreatDoor.H.S
open Go Go.Vc Go.RowKit Go.Na Go.Lib
set_option maxHeartbeats 8000000
theorem K1d (l : List Tr) (hl : RT l) (h7 : l.length ≤ 7) : CtrA Tryz.prog 26 [ts l] (vi (rkI l)) := by
 refine Z1b l (rkI l) hl h7 (fun h => ?_) (fun h => ?_)
 ·unfold rkI; rw [if_pos ((q0T l).2 ((w1j l).2 h))]
 ·unfold rkI; rw [if_neg (fun e => h ((w1j l).1 ((q0T l).1 e)))]
def z1E (l : List Tr) (d : Tr) : Int := if v0i l = 0 then (if d = tz then 10 else if q0A d = true then (if l.length = 0 then 13 else 0) else 2) else v0i l
def dA (l : List Tr) (d : Tr) : Tr := if z1E l d = 0 then d else tz
def aA (l : List Tr) (d : Tr) : Int := if z1E l d = 0 then loD l d else 0
def bA (l : List Tr) (d : Tr) : Int := if z1E l d = 0 then hiD l d else 0
theorem y1I {d : Tr} (h : q0A d = true) : BT 100000 d := by
 unfold q0A inB at h
 simp only [Bool.and_eq_true, decide_eq_true_eq] at h
 obtain ⟨⟨⟨a, b⟩, c, e⟩, f, g⟩ := h
 exact ⟨⟨a, b⟩, ⟨c, e⟩, ⟨f, g⟩⟩
theorem Y0l {l : List Tr} {d : Tr} (h : z1E l d ≠ 0) : zA (dA l d) (aA l d) (bA l d) = zA tz 0 0 := by unfold dA aA bA; rw [if_neg h, if_neg h, if_neg h]
theorem x1e {l : List Tr} {d : Tr} (h : z1E l d = 0) : zA (dA l d) (aA l d) (bA l d) = zA d (loD l d) (hiD l d) := by unfold dA aA bA; rw [if_pos h, if_pos h, if_pos h]
theorem y1J {d : Tr} (h : ∀ j, j < 3 → inB (co d j) = true) : q0A d = true := by
 have h0 := h 0 xO; have h1 := h 1 xO; have h2 := h 2 xO
 unfold q0A
 rw [show inB d.x = true from h0, show inB d.y = true from h1, show inB d.z = true from h2]; rfl
theorem k0I {d : Tr} {k : Nat} (hk : k < 3) (h : inB (co d k) = false) : q0A d = false := by
 unfold q0A
 rcases (by omega : k = 0 ∨ k = 1 ∨ k = 2) with rfl | rfl | rfl
 ·rw [show inB d.x = false from h]; rfl
 ·rw [show inB d.y = false from h]; simp
 ·rw [show inB d.z = false from h]; simp
theorem x1f (l : List Tr) (d : Tr) : CtrA Tryz.prog 33 [ts l, tp d] (j0r [zA (dA l d) (aA l d) (bA l d), vi (z1E l d)]) := by
 have hc := x0Q l
 have hE : z1E l d = if v0i l = 0 then (if d = tz then 10 else if q0A d = true then (if l.length = 0 then 13 else 0) else 2) else v0i l := rfl
 refine j0n _ Tryz.func33 rfl rfl Tryz.ntmps33 rfl fun w Z => ?_
 by_cases h0 : v0i l = 0
 ·rw [if_pos h0] at hE
  rw [h0] at hc
  have hln := (RT.of h0).2
  have hl := (RT.of h0).1
  by_cases hz : d = tz
  ·rw [if_pos hz] at hE
   rw [Y0l (by rw [hE]; decide), hE]
   refine xU ?_
   refine wt ?_
   rw [j1c, decide_eq_true hz]
   refine wt ?_
   exact j0x (rvs := [_, _]) (τs := [_, _]) rfl rfl ⟨.agg (us := [.int .i64 0, .int .i64 0, .int .i64 0, .int .i64 0, .int .i64 0]) rfl rfl rfl rfl, .tmp rfl, trivial⟩ rfl
  ·rw [if_neg hz] at hE
   refine xU ?_
   refine wt ?_
   rw [j1c, decide_eq_false hz]
   refine wt ?_
   refine j0f (γ := Nat) (fun k => [(0, .av (ts l)), (3, .av (bt d)), (4, .own 10 0), (19, .av (tp d)), (20, .av (vi k))]) (fun _ => [(10, .cells [.av (vi 0), .av (vi 0), .av (vi 0), .av (vi 0), .av (vi 0)])]) (fun k => k ≤ 3 ∧ ∀ j, j < k → inB (co d j) = true) (fun k => 3 - k) 0 ⟨Nat.zero_le _, fun j hj => absurd hj (Nat.not_lt_zero j)⟩ (ent xS xT) ?_
   rintro k ⟨hk, hin⟩
   refine wt ?_
   (refine j0a rfl ?_ ?_ <;> intro hb <;> (try simp only [xA, xB, xG, xC, xD, xN] at hb) <;> (try exact xQ))
   ·have hk3 : k < 3 := by omega
    have hib : inB (co d k) = (decide (-100000 ≤ co d k) && decide (co d k ≤ 100000)) := rfl
    by_cases h1 : co d k < -100000
    ·have h1' := decide_eq_true h1
     have hbad := k0I hk3 (by rw [hib, decide_eq_false (by omega)]; rfl)
     rw [if_neg (by rw [hbad]; decide)] at hE
     rw [Y0l (by rw [hE]; decide), hE]
     refine wt ?_
     repeat' (first
       |(refine j0l (y0M rfl rfl (fun w => k1q d k hk3 w)) rfl ?_; refine wt ?_))
     rw [h1']
     refine wt ?_
     exact j0x (rvs := [_, _]) (τs := [_, _]) rfl rfl ⟨.agg (us := [.int .i64 0, .int .i64 0, .int .i64 0, .int .i64 0, .int .i64 0]) rfl rfl rfl rfl, .tmp rfl, trivial⟩ rfl
    ·have h1' := decide_eq_false h1
     by_cases h2 : 100000 < co d k
     ·have h2' := decide_eq_true h2
      have hbad := k0I hk3 (by rw [hib, decide_eq_false (show ¬ co d k ≤ 100000 by omega), Bool.and_false])
      rw [if_neg (by rw [hbad]; decide)] at hE
      rw [Y0l (by rw [hE]; decide), hE]
      refine wt ?_
      repeat' (first
        |(refine j0l (y0M rfl rfl (fun w => k1q d k hk3 w)) rfl ?_; refine wt ?_))
      rw [h1']
      refine wt ?_
      (refine j0a rfl ?_ ?_ <;> intro hb <;> (try simp only [xA, xB, xG, xC, xD, xN] at hb) <;> (try exact xQ))
      refine wt ?_
      exact j0x (rvs := [_, _]) (τs := [_, _]) rfl rfl ⟨.agg (us := [.int .i64 0, .int .i64 0, .int .i64 0, .int .i64 0, .int .i64 0]) rfl rfl rfl rfl, .tmp rfl, trivial⟩ rfl
     ·refine wt ?_
      repeat' (first
        |(refine j0l (y0M rfl rfl (fun w => k1q d k hk3 w)) rfl ?_; refine wt ?_))
      rw [h1']
      refine wt ?_
      (refine j0a rfl ?_ ?_ <;> intro hb <;> (try simp only [xA, xB, xG, xC, xD, xN] at hb) <;> (try exact xQ))
      refine wt ?_
      exact j0b (k + 1) ⟨by omega, fun j hj => by
       by_cases e : j = k
       ·rw [e, hib, decide_eq_true (by omega), decide_eq_true (by omega)]; rfl
       ·exact hin j xO⟩ xO (ent xS xT)
   ·obtain rfl : k = 3 := by omega
    have hr := y1J hin
    rw [if_pos hr] at hE
    by_cases hl0 : l.length = 0
    ·rw [if_pos hl0] at hE
     rw [Y0l (by rw [hE]; decide), hE]
     refine wt ?_
     (refine j0a rfl ?_ ?_ <;> intro hb <;> (try simp only [xA, xB, xG, xC, xD, xN] at hb) <;> (try exact xQ))
     refine wt ?_
     exact j0x (rvs := [_, _]) (τs := [_, _]) rfl rfl ⟨.agg (us := [.int .i64 0, .int .i64 0, .int .i64 0, .int .i64 0, .int .i64 0]) rfl rfl rfl rfl, .tmp rfl, trivial⟩ rfl
    ·rw [if_neg hl0] at hE
     rw [x1e hE, hE]
     have hzc := Q1c l d hl xO xO (y1I hr) xE
     refine wt ?_
     (refine j0a rfl ?_ ?_ <;> intro hb <;> (try simp only [xA, xB, xG, xC, xD, xN] at hb) <;> (try exact xQ))
     refine wt ?_
     exact j0x (rvs := [_, _]) (τs := [_, _]) rfl rfl ⟨.agg (us := [.int .i64 d.x, .int .i64 d.y, .int .i64 d.z, .int .i64 (loD l d), .int .i64 (hiD l d)]) rfl rfl rfl rfl, .tmp rfl, trivial⟩ rfl
 ·rw [if_neg h0] at hE
  rw [Y0l (by rw [hE]; exact h0), hE]
  generalize v0i l = e at h0 hc ⊢
  refine xU ?_
  refine wt ?_
  (refine j0a rfl ?_ ?_ <;> intro hb <;> (try simp only [xA, xB, xG, xC, xD, xN] at hb) <;> (try exact xQ))
  refine wt ?_
  exact j0x (rvs := [_, _]) (τs := [_, _]) rfl rfl ⟨.agg (us := [.int .i64 0, .int .i64 0, .int .i64 0, .int .i64 0, .int .i64 0]) rfl rfl rfl rfl, .tmp rfl, trivial⟩ rfl
end Go.Proofs.YtgblokifbgeegaaGreatDoor.H.S
