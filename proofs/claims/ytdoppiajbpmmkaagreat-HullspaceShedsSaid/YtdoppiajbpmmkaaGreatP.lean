/- A part of the proof that the law returns true at every input and that the input reads behind the call as it read before; this part states nothing of its own that needs a condition of the input. -/
import Derived.Test.YtdoppiajbpmmkaaGreatV
import Derived.Test.YtdoppiajbpmmkaaGreatW
import Derived.Test.YtdoppiajbpmmkaaGreatX
set_option linter.unusedVariables false
set_option linter.unusedSimpArgs false
set_option linter.unnecessarySimpa false
/-! Points in space, in plain terms. -/
namespace Go.Proofs.YtdoppiajbpmmkaaGreat
open Go Go.Vc Go.RowKit
structure Tr where
  x : Int
  y : Int
  z : Int
  deriving DecidableEq, Inhabited
abbrev vi (n : Int) : AV := .val (.int .i64 n)
abbrev vb (b : Bool) : AV := .val (.bool b)
abbrev tp (a : Tr) : AV := .val (.agg #[.int .i64 a.x, .int .i64 a.y, .int .i64 a.z])
def gt (l : List Tr) (i : Nat) : Tr := l.getD i default
def tf (l : List Tr) : Nat → Nat → AV := fun i j => match j with | 0 => .val (.int .i64 (gt l i).x) | 1 => .val (.int .i64 (gt l i).y) | _+2 => .val (.int .i64 (gt l i).z)
def ts (l : List Tr) : AV := .sl l.length 3 (fun i j => match j with | 0 => .val (.int .i64 (gt l i).x) | 1 => .val (.int .i64 (gt l i).y) | _+2 => .val (.int .i64 (gt l i).z))
theorem ts_eq (l : List Tr) : ts l = .sl l.length 3 (tf l) := rfl
abbrev bt (p : Tr) : AV := .ptr 3 (fun i => .val ([Go.Value.int .i64 p.x, .int .i64 p.y, .int .i64 p.z].getD i Go.undef))
theorem gt_eq {l : List Tr} {i : Nat} (h : i < l.length) : gt l i = l[i] := by simp [gt, h]
theorem gt_mem {l : List Tr} {i : Nat} (h : i < l.length) : gt l i ∈ l := by rw [gt_eq h]; exact List.getElem_mem h
theorem gt_take {l : List Tr} {k : Nat} (h : k < l.length) : l.take (k + 1) = l.take k ++ [gt l k] := by
  rw [List.take_succ_eq_append_getElem h, gt_eq h]
def tsub (a b : Tr) : Tr := ⟨a.x - b.x, a.y - b.y, a.z - b.z⟩
def tdot (a b : Tr) : Int := a.x * b.x + a.y * b.y + a.z * b.z
def tcr (a b : Tr) : Tr := ⟨a.y * b.z - a.z * b.y, a.z * b.x - a.x * b.z, a.x * b.y - a.y * b.x⟩
def tmul (a : Tr) (k : Int) : Tr := ⟨k * a.x, k * a.y, k * a.z⟩
def tz : Tr := ⟨0, 0, 0⟩
def tg (a : Tr) : Nat := Nat.gcd (Nat.gcd (Nat.gcd 0 a.x.natAbs) a.y.natAbs) a.z.natAbs
def tpr (a : Tr) : Tr := if tg a = 0 then a else ⟨a.x.tdiv (tg a), a.y.tdiv (tg a), a.z.tdiv (tg a)⟩
def inB (n : Int) : Bool := decide (-100000 ≤ n) && decide (n ≤ 100000)
def rightT (p : Tr) : Bool := inB p.x && inB p.y && inB p.z
def chkT (l : List Tr) : Int := if 64 < l.length then 5 else if l.all rightT then 0 else 2
abbrev Bn (B n : Int) : Prop := -B ≤ n ∧ n ≤ B
/-- Each coordinate is at most B. -/
structure BT (B : Int) (a : Tr) : Prop where
  x : Bn B a.x
  y : Bn B a.y
  z : Bn B a.z
theorem bn_mul {A B m n : Int} (h1 : Bn A m) (h2 : Bn B n) : Bn (A * B) (m * n) := by
  have hA : 0 ≤ A := by omega
  have hB : 0 ≤ B := by omega
  have h3 : (m * n).natAbs ≤ (A * B).natAbs := by
    rw [Int.natAbs_mul, Int.natAbs_mul]
    exact Nat.mul_le_mul (by omega) (by omega)
  have h4 : 0 ≤ A * B := Int.mul_nonneg hA hB
  omega
theorem bn_le {A B n : Int} (h : Bn A n) (hab : A ≤ B) : Bn B n := by omega
theorem BT.le {A B : Int} {a : Tr} (h : BT A a) (hab : A ≤ B) : BT B a := ⟨bn_le h.x hab, bn_le h.y hab, bn_le h.z hab⟩
theorem BT.sub {A B : Int} {a b : Tr} (h1 : BT A a) (h2 : BT B b) : BT (A + B) (tsub a b) := by
  have := h1.x; have := h1.y; have := h1.z; have := h2.x; have := h2.y; have := h2.z
  refine ⟨?_, ?_, ?_⟩ <;> simp only [tsub, Bn] at * <;> omega
theorem BT.cr {A B : Int} {a b : Tr} (h1 : BT A a) (h2 : BT B b) : BT (2 * (A * B)) (tcr a b) := by
  have a1 := bn_mul h1.y h2.z; have a2 := bn_mul h1.z h2.y; have a3 := bn_mul h1.z h2.x
  have a4 := bn_mul h1.x h2.z; have a5 := bn_mul h1.x h2.y; have a6 := bn_mul h1.y h2.x
  refine ⟨?_, ?_, ?_⟩ <;> simp only [tcr, Bn] at * <;> omega
theorem bn_dot {A B : Int} {a b : Tr} (h1 : BT A a) (h2 : BT B b) : Bn (3 * (A * B)) (tdot a b) := by
  have a1 := bn_mul h1.x h2.x; have a2 := bn_mul h1.y h2.y; have a3 := bn_mul h1.z h2.z
  simp only [tdot, Bn] at *; omega
theorem bn_tdiv {B n : Int} (g : Nat) (h : Bn B n) : Bn B (n.tdiv g) := by
  have := Int.natAbs_tdiv_le_natAbs n g
  omega
theorem BT.pr {A : Int} {a : Tr} (h : BT A a) : BT A (tpr a) := by
  unfold tpr
  split
  · exact h
  · exact ⟨bn_tdiv _ h.x, bn_tdiv _ h.y, bn_tdiv _ h.z⟩
/-- What a set of points spans. -/
structure Spn where
  dim : Int
  pt : Tr
  way : Tr
def spStep (s : Spn) (p : Tr) : Spn :=
  if s.dim = -1 then ⟨0, p, s.way⟩ else
  if s.dim = 0 then (if tsub p s.pt = tz then s else ⟨1, s.pt, tsub p s.pt⟩) else
  if s.dim = 1 then (if tcr s.way (tsub p s.pt) = tz then s else ⟨2, s.pt, tcr s.way (tsub p s.pt)⟩) else
  if s.dim = 2 then (if tdot (tpr s.way) (tsub p s.pt) = 0 then ⟨2, s.pt, tpr s.way⟩ else ⟨3, s.pt, tpr s.way⟩) else s
def spTo (l : List Tr) (k : Nat) : Spn := (l.take k).foldl spStep ⟨-1, tz, tz⟩
def spn (l : List Tr) : Spn := spTo l l.length
theorem spTo_succ {l : List Tr} {k : Nat} (h : k < l.length) : spTo l (k + 1) = spStep (spTo l k) (gt l k) := by
  unfold spTo
  rw [gt_take h, List.foldl_append]; rfl
/-- All points are right. -/
def RT (l : List Tr) : Prop := ∀ i, BT 100000 (gt l i)
theorem RT.of {l : List Tr} (h : chkT l = 0) : RT l ∧ l.length ≤ 64 := by
  unfold chkT at h
  split at h
  · omega
  · split at h
    · rename_i h1 h2
      refine ⟨fun i => ?_, by omega⟩
      by_cases hi : i < l.length
      · have := List.all_eq_true.1 h2 _ (gt_mem hi)
        simp only [rightT, inB, Bool.and_eq_true, decide_eq_true_eq] at this
        exact ⟨by omega, by omega, by omega⟩
      · have e : gt l i = ⟨0, 0, 0⟩ := by unfold gt; rw [List.getD, List.getElem?_eq_none (by omega)]; rfl
        rw [e]
        exact ⟨by decide, by decide, by decide⟩
    · omega
structure SpOk (s : Spn) : Prop where
  pt : BT 100000 s.pt
  dim : s.dim = -1 ∨ s.dim = 0 ∨ (s.dim = 1 ∧ BT 200000 s.way) ∨ (s.dim = 2 ∧ BT 80000000000 s.way) ∨ (s.dim = 3 ∧ BT 80000000000 s.way)
theorem SpOk.step {s : Spn} {p : Tr} (h : SpOk s) (hp : BT 100000 p) : SpOk (spStep s p) := by
  have hs : BT 200000 (tsub p s.pt) := hp.sub h.pt
  unfold spStep
  by_cases h0 : s.dim = -1
  · rw [if_pos h0]; exact ⟨hp, .inr (.inl rfl)⟩
  · rw [if_neg h0]
    by_cases h1 : s.dim = 0
    · rw [if_pos h1]
      split
      · exact h
      · exact ⟨h.pt, .inr (.inr (.inl ⟨rfl, hs⟩))⟩
    · rw [if_neg h1]
      by_cases h2 : s.dim = 1
      · rw [if_pos h2]
        have hw : BT 200000 s.way := by
          rcases h.dim with e | e | e | e | e
          · omega
          · omega
          · exact e.2
          · omega
          · omega
        split
        · exact h
        · exact ⟨h.pt, .inr (.inr (.inr (.inl ⟨rfl, (hw.cr hs).le (by decide)⟩)))⟩
      · rw [if_neg h2]
        by_cases h3 : s.dim = 2
        · rw [if_pos h3]
          have hw : BT 80000000000 s.way := by
            rcases h.dim with e | e | e | e | e
            · omega
            · omega
            · omega
            · exact e.2
            · omega
          split
          · exact ⟨h.pt, .inr (.inr (.inr (.inl ⟨rfl, hw.pr⟩)))⟩
          · exact ⟨h.pt, .inr (.inr (.inr (.inr ⟨rfl, hw.pr⟩)))⟩
        · rw [if_neg h3]; exact h
theorem SpOk.to {l : List Tr} (h : RT l) : ∀ k, SpOk (spTo l k)
  | 0 => (show SpOk ⟨-1, tz, tz⟩ from ⟨⟨by decide, by decide, by decide⟩, .inl rfl⟩)
  | k + 1 => by
    by_cases hk : k < l.length
    · rw [spTo_succ hk]; exact (SpOk.to h k).step (h k)
    · have : spTo l (k + 1) = spTo l k := by unfold spTo; rw [List.take_of_length_le (by omega), List.take_of_length_le (by omega)]
      rw [this]; exact SpOk.to h k
end Go.Proofs.YtdoppiajbpmmkaaGreat
/-! What the functions compute, in plain terms. -/
namespace Go.Proofs.YtdoppiajbpmmkaaGreat
open Go.Vc
abbrev pp (p : Pt) : AV := pv p.x p.y
theorem gp_eq {l : List Pt} {i : Nat} (h : i < l.length) : gp l i = l[i] := by simp [gp, h]
theorem gp_mem {l : List Pt} {i : Nat} (h : i < l.length) : gp l i ∈ l := by rw [gp_eq h]; exact List.getElem_mem h
theorem gi_eq {l : List Nat} {i : Nat} (h : i < l.length) : gi l i = l[i] := by simp [gi, h]
def sub (a b : Pt) : Pt := ⟨a.x - b.x, a.y - b.y⟩
def dot (a b : Pt) : Int := a.x * b.x + a.y * b.y
def trn (a b : Pt) : Int := a.x * b.y - a.y * b.x
def crs (a b c : Pt) : Int := trn (sub b a) (sub c a)
def neg (a : Pt) : Pt := ⟨-a.x, -a.y⟩
def sgn (n : Int) : Int := if n < 0 then -1 else if 0 < n then 1 else 0
def bef (a b : Pt) : Bool := decide (a.x < b.x) || (a.x == b.x && decide (a.y < b.y))
def rightB (p : Pt) : Bool := inB p.x && inB p.y
def chk (l : List Pt) : Int := if 64 < l.length then 5 else if l.all rightB then 0 else 2
def btw (p a b : Pt) : Bool := crs a b p == 0 && decide (dot (sub a p) (sub b p) ≤ 0)
def wth (p a b c : Pt) : Bool := crs a b c != 0 && ((decide (0 ≤ sgn (crs a b p)) && decide (0 ≤ sgn (crs b c p)) && decide (0 ≤ sgn (crs c a p))) || (decide (sgn (crs a b p) ≤ 0) && decide (sgn (crs b c p) ≤ 0) && decide (sgn (crs c a p) ≤ 0)))
def inH (l : List Pt) (p : Pt) : Bool := (List.range l.length).any fun i => decide (gp l i = p) || (List.range i).any fun j => btw p (gp l i) (gp l j) || (List.range j).any fun k => wth p (gp l i) (gp l j) (gp l k)
def othersOf (l : List Pt) (i k : Nat) : List Pt := (l.take k).filter (fun q => decide (q ≠ gp l i))
def vtx (l : List Pt) (i : Nat) : Bool := !((List.range i).any fun k => decide (gp l k = gp l i)) && !inH (othersOf l i l.length) (gp l i)
def holds (v : List Nat) (n : Nat) : Bool := (List.range v.length).any fun k => decide (gi v k = n)
def follows (l : List Pt) (v : List Nat) (i j : Nat) : Bool := !((List.range v.length).any fun k => decide (crs (gp l i) (gp l j) (gp l (gi v k)) < 0)) && decide (i ≠ j)
abbrev BdP (p : Pt) : Prop := (-1500000000 ≤ p.x ∧ p.x ≤ 1500000000) ∧ (-1500000000 ≤ p.y ∧ p.y ≤ 1500000000)
def cmpI (a b : Int) : Int := if a < b then -1 else if b < a then 1 else 0
def ordC (l : List Pt) (i k : Nat) : Int := if cmpI (gp l i).x (gp l k).x = 0 then cmpI (gp l i).y (gp l k).y else cmpI (gp l i).x (gp l k).x
def swp (v : List Nat) (i j : Nat) : List Nat := (v.set i (gi v j)).set j (gi v i)
/-- What stands at j sinks to its place, above a. -/
def sink (lt : Nat → Nat → Bool) (a : Nat) (v : List Nat) : Nat → List Nat
  | 0 => v
  | j + 1 => if decide (a < j + 1) && lt (gi v (j + 1)) (gi v j) then sink lt a (swp v (j + 1) j) j else v
def isortR (lt : Nat → Nat → Bool) (a b : Nat) (v : List Nat) (i : Nat) : List Nat := (List.range' i (b - i)).foldl (fun v i => sink lt a v i) v
def srtTo (l : List Pt) (k : Nat) : List Nat := (List.range k).foldl (fun v i => sink (fun i k => bef (gp l i) (gp l k)) 0 (v ++ [i]) i) []
def ordI (l : List Pt) : List Nat := isortR (fun i k => decide (ordC l i k < 0)) 0 l.length (List.range l.length) 1
def upTo (n k : Nat) : List Nat := (List.range n).map (fun i => if i < k then i else 0)
/-- A coordinate that no sum of products of three takes out of its range. -/
abbrev Sm (x : Int) : Prop := -300000 ≤ x ∧ x ≤ 300000
abbrev SmP (p : Pt) : Prop := Sm p.x ∧ Sm p.y
theorem pt_beq (a b : Pt) : ([a.x, a.y] == [b.x, b.y]) = decide (a = b) := by
  cases a; cases b; rw [Bool.eq_iff_iff]; simp
theorem take_gp {l : List Pt} {k : Nat} (h : k < l.length) : l.take (k + 1) = l.take k ++ [gp l k] := by
  rw [List.take_succ_eq_append_getElem h, gp_eq h]
theorem all_gp {l : List Pt} {q : Pt → Prop} (h : ∀ p ∈ l, q p) (hd : q default) : ∀ i, q (gp l i) := by
  intro i
  by_cases hi : i < l.length
  · rw [gp_eq hi]; exact h _ (List.getElem_mem hi)
  · simp only [gp, List.getD, List.getElem?_eq_none (Nat.le_of_not_lt hi)]; exact hd
theorem SmP_d : SmP default := by constructor <;> decide
theorem sub_bd {a b : Pt} (h1 : SmP a) (h2 : SmP b) : BdP (sub a b) := by
  simp only [BdP, sub]; omega
theorem plt_step {k : Nat} {p : Nat → Prop} (h : ∀ i, i < k → p i) (hk : p k) : ∀ i, i < k + 1 → p i := fun i hi => by
  rcases Nat.lt_or_ge i k with h1 | h1
  · exact h i h1
  · have : i = k := by omega
    subst this; exact hk
theorem isortR_step {lt : Nat → Nat → Bool} {a b : Nat} {v : List Nat} {i : Nat} (h : i < b) : isortR lt a b v i = isortR lt a b (sink lt a v i) (i + 1) := by
  unfold isortR
  obtain ⟨n, hn⟩ : ∃ n, b - i = n + 1 := ⟨b - i - 1, by omega⟩
  rw [hn, show b - (i + 1) = n from by omega, List.range'_succ]; rfl
theorem isortR_end {lt : Nat → Nat → Bool} {a b : Nat} {v : List Nat} {i : Nat} (h : b ≤ i) : isortR lt a b v i = v := by
  unfold isortR
  rw [show b - i = 0 from by omega]; rfl
theorem srtTo_succ (l : List Pt) (k : Nat) : srtTo l (k + 1) = sink (fun i k => bef (gp l i) (gp l k)) 0 (srtTo l k ++ [k]) k := by
  simp [srtTo, List.range_succ, List.foldl_append]
theorem swp_len (v : List Nat) (i j : Nat) : (swp v i j).length = v.length := by simp [swp]
theorem gi_set (v : List Nat) (i x k : Nat) : gi (v.set i x) k = if i = k ∧ k < v.length then x else gi v k := by
  simp only [gi, List.getD, List.getElem?_set]
  by_cases h : i = k
  · subst h
    by_cases h2 : i < v.length
    · simp [h2]
    · simp [h2]
  · simp [h]
theorem gi_swp {v : List Nat} {i j : Nat} (hi : i < v.length) (hj : j < v.length) (k : Nat) : gi (swp v i j) k = if k = j then gi v i else if k = i then gi v j else gi v k := by
  unfold swp
  rw [gi_set, gi_set]
  simp only [List.length_set]
  split <;> split <;> (try split) <;> (try split) <;> first | rfl | (exfalso; omega)
theorem swp_all {v : List Nat} {i j : Nat} {p : Nat → Prop} (hi : i < v.length) (hj : j < v.length) (h : ∀ k, k < v.length → p (gi v k)) : ∀ k, k < (swp v i j).length → p (gi (swp v i j) k) := by
  intro k hk
  rw [swp_len] at hk
  rw [gi_swp hi hj]
  split
  · exact h i hi
  · split
    · exact h j hj
    · exact h k hk
theorem sink_len (lt : Nat → Nat → Bool) (a : Nat) : ∀ (j : Nat) (v : List Nat), (sink lt a v j).length = v.length
  | 0, v => rfl
  | j + 1, v => by
    unfold sink
    split
    · rw [sink_len lt a j, swp_len]
    · rfl
theorem sink_all {lt : Nat → Nat → Bool} {a : Nat} {p : Nat → Prop} : ∀ {j : Nat} {v : List Nat}, j < v.length → (∀ k, k < v.length → p (gi v k)) → ∀ k, k < (sink lt a v j).length → p (gi (sink lt a v j) k)
  | 0, v, _, h => h
  | j + 1, v, hj, h => by
    unfold sink
    split
    · exact sink_all (by rw [swp_len]; omega) (swp_all hj (by omega) h)
    · exact h
theorem srtTo_len (l : List Pt) (k : Nat) : (srtTo l k).length = k := by
  induction k with
  | zero => rfl
  | succ k ih => rw [srtTo_succ, sink_len]; simp [ih]
theorem gi_app (v : List Nat) (x k : Nat) : gi (v ++ [x]) k = if k < v.length then gi v k else if k = v.length then x else 0 := by
  simp only [gi, getD_app]
theorem app_all {v : List Nat} {x : Nat} {p : Nat → Prop} (h : ∀ k, k < v.length → p (gi v k)) (hx : p x) : ∀ k, k < (v ++ [x]).length → p (gi (v ++ [x]) k) := by
  intro k hk
  rw [gi_app]
  split
  · exact h k (by assumption)
  · rw [if_pos (by simp at hk; omega)]; exact hx
theorem isortR_len (lt : Nat → Nat → Bool) (a b : Nat) (v : List Nat) (i : Nat) : (isortR lt a b v i).length = v.length := by
  unfold isortR
  generalize List.range' i (b - i) = xs
  induction xs generalizing v with
  | nil => rfl
  | cons x xs ih => rw [List.foldl_cons, ih, sink_len]
theorem upTo_len (n k : Nat) : (upTo n k).length = n := by simp [upTo]
theorem gi_upTo {n k i : Nat} (h : i < n) : gi (upTo n k) i = if i < k then i else 0 := by
  simp [gi, upTo, List.getD, h]
theorem upTo_full (n : Nat) : upTo n n = List.range n := by
  refine List.ext_getElem (by simp [upTo]) fun i h1 h2 => ?_
  simp [upTo] at h1 ⊢
  intro h; omega
theorem gi_range {n i : Nat} (h : i < n) : gi (List.range n) i = i := by simp [gi, List.getD, h]
end Go.Proofs.YtdoppiajbpmmkaaGreat
/-! The hull, in plain terms. -/
namespace Go.Proofs.YtdoppiajbpmmkaaGreat
open Go.Vc
def cptP (l : List Pt) (v : List Nat) (i : Nat) : Bool := decide (i = 0) || decide (gp l (gi v i) ≠ gp l (gi v (i - 1)))
def cptTo (l : List Pt) (v : List Nat) (m : Nat) : List Nat := ((List.range m).filter (cptP l v)).map (gi v)
def cpt (l : List Pt) (v : List Nat) : List Nat := cptTo l v v.length
def pop (l : List Pt) (i : Nat) : List Nat → List Nat
  | b :: a :: r => if crs (gp l a) (gp l b) (gp l i) ≤ 0 then pop l i (a :: r) else b :: a :: r
  | s => s
def stk (l : List Pt) (v : List Nat) : List Nat := v.foldl (fun st i => i :: pop l i st) []
def chain (l : List Pt) (v : List Nat) : List Nat := (stk l v).tail.reverse
theorem cptTo_succ (l : List Pt) (v : List Nat) (m : Nat) : cptTo l v (m + 1) = if cptP l v m = true then cptTo l v m ++ [gi v m] else cptTo l v m := by
  simp only [cptTo, List.range_succ, List.filter_append, List.map_append]
  split <;> rename_i h <;> simp [List.filter, h]
theorem cptTo_len (l : List Pt) (v : List Nat) (m : Nat) : (cptTo l v m).length ≤ m := by
  have := List.length_filter_le (cptP l v) (List.range m)
  simpa [cptTo] using this
theorem gi_take (v : List Nat) (m k : Nat) : gi (v.take m) k = if k < m then gi v k else 0 := by
  simp only [gi, List.getD, List.getElem?_take]
  split <;> rfl
theorem cptTo_all (l : List Pt) (v : List Nat) : ∀ (m : Nat), m ≤ v.length → (∀ i, i < m → cptP l v i = true) → cptTo l v m = v.take m
  | 0, _, _ => rfl
  | m + 1, hm, h => by
    rw [cptTo_succ, if_pos (h m (by omega)), cptTo_all l v m (by omega) (fun i hi => h i (by omega)), List.take_succ_eq_append_getElem (by omega), gi_eq (by omega)]
theorem gi_rev_top (b : Nat) (r : List Nat) : gi (b :: r).reverse r.length = b := by
  simp [gi, List.getD]
theorem gi_rev_cons (b : Nat) (r : List Nat) {k : Nat} (h : k < r.length) : gi (b :: r).reverse k = gi r.reverse k := by
  simp only [gi, List.getD, List.reverse_cons]
  rw [List.getElem?_append_left (by simpa using h)]
theorem cpt_short {l : List Pt} {v : List Nat} (h : v.length < 2) : cpt l v = v := by
  rw [cpt, cptTo_all l v _ (Nat.le_refl _) (fun i hi => by simp [cptP, show i = 0 by omega]), List.take_length]
end Go.Proofs.YtdoppiajbpmmkaaGreat
namespace Go.Proofs.YtdoppiajbpmmkaaGreat
open Go.Vc
def ordN (l : List Pt) : List Nat := if chk l = 0 then ordI l else []
def arr (l : List Pt) : List Nat := if (cpt l (ordN l)).length < 3 then cpt l (ordN l) else chain l (cpt l (ordN l)) ++ chain l (cpt l (ordN l)).reverse
theorem chk_sm {l : List Pt} (h : chk l = 0) : ∀ i, SmP (gp l i) := by
  refine all_gp (q := SmP) (fun p hp => ?_) SmP_d
  unfold chk at h
  split at h
  · cases h
  · split at h
    · rename_i h2
      have := List.all_eq_true.1 h2 p hp
      simp [rightB, inB] at this
      simp only [SmP, Sm]; omega
    · cases h
theorem pop_len (l : List Pt) (i : Nat) : ∀ (st : List Nat), 0 < st.length → 0 < (pop l i st).length
  | [], h => by simp at h
  | [x], _ => by simp [pop]
  | b :: a :: r, _ => by
    unfold pop
    split
    · exact pop_len l i (a :: r) (by simp)
    · simp
theorem stk_len (l : List Pt) (v : List Nat) (h : 1 < v.length) : 1 < (stk l v).length := by
  match v, h with
  | x :: y :: v, _ =>
    have key : ∀ (v : List Nat) (st : List Nat), 1 < st.length → 1 < (v.foldl (fun st i => i :: pop l i st) st).length := by
      intro v
      induction v with
      | nil => intro st h; exact h
      | cons z v ih => intro st h; exact ih _ (by have := pop_len l z st (by omega); simp; omega)
    unfold stk
    simp only [List.foldl_cons]
    exact key v _ (by have := pop_len l y [x] (by simp); simp [pop])
theorem chain_pos (l : List Pt) (v : List Nat) (h : 1 < v.length) : 0 < (chain l v).length := by
  have := stk_len l v h
  simp [chain]; omega
theorem isortR_all {lt : Nat → Nat → Bool} {a b : Nat} {p : Nat → Prop} : ∀ (m : Nat) {v : List Nat} {i : Nat}, b - i = m → b ≤ v.length → (∀ k, k < v.length → p (gi v k)) → ∀ k, k < (isortR lt a b v i).length → p (gi (isortR lt a b v i) k)
  | 0, v, i, hm, hb, h => by rw [isortR_end (by omega)]; exact h
  | m + 1, v, i, hm, hb, h => by
    rw [isortR_step (by omega)]
    exact isortR_all m (by omega) (by rw [sink_len]; omega) (sink_all (by omega) h)
theorem ordN_lt (l : List Pt) : ∀ k, k < (ordN l).length → gi (ordN l) k < l.length := by
  unfold ordN
  split
  · exact isortR_all (p := fun x => x < l.length) _ rfl (by simp) (fun k hk => by simp at hk; rw [gi_range hk]; exact hk)
  · intro k hk; simp at hk
theorem ordN_len (l : List Pt) : (ordN l).length ≤ l.length := by
  unfold ordN; split
  · simp [ordI, isortR_len]
  · simp
theorem cpt_p {l : List Pt} {v : List Nat} {p : Nat → Prop} (h : ∀ k, k < v.length → p (gi v k)) : ∀ m, m ≤ v.length → ∀ k, k < (cptTo l v m).length → p (gi (cptTo l v m) k)
  | 0, _ => fun k hk => by simp [cptTo] at hk
  | m + 1, hm => by
    rw [cptTo_succ]
    split
    · exact app_all (p := p) (cpt_p h m (by omega)) (h m (by omega))
    · exact cpt_p h m (by omega)
theorem rev_p {v : List Nat} {p : Nat → Prop} (h : ∀ k, k < v.length → p (gi v k)) : ∀ k, k < v.reverse.length → p (gi v.reverse k) := by
  intro k hk
  simp at hk
  have h2 : v.length - 1 - k < v.length := by omega
  have e : gi v.reverse k = gi v (v.length - 1 - k) := by simp [gi, List.getD, hk, h2]
  rw [e]; exact h _ h2
theorem pop_le (l : List Pt) (i : Nat) : ∀ (st : List Nat), (pop l i st).length ≤ st.length
  | [] => by simp [pop]
  | [x] => by simp [pop]
  | b :: a :: r => by
    unfold pop
    split
    · have := pop_le l i (a :: r); simp at this ⊢; omega
    · simp
theorem stk_le (l : List Pt) (v : List Nat) : (stk l v).length ≤ v.length := by
  have key : ∀ (v : List Nat) (st : List Nat), (v.foldl (fun st i => i :: pop l i st) st).length ≤ st.length + v.length := by
    intro v
    induction v with
    | nil => intro st; simp
    | cons z v ih => intro st; have := ih (z :: pop l z st); have := pop_le l z st; simp at *; omega
  have := key v []
  simpa [stk] using this
theorem chain_le (l : List Pt) (v : List Nat) : (chain l v).length ≤ v.length := by
  have := stk_le l v
  simp [chain]; omega
end Go.Proofs.YtdoppiajbpmmkaaGreat
