/- A part of the proof. -/
import Derived.Deep.QuietTactic
import Derived.Test.YtgblokifbgeegaaGreatDoorEar
set_option linter.unusedVariables false
set_option linter.unusedSimpArgs false
section
namespace Go.Vc
theorem xA {p : Prop} {_ : Decidable p} : (decide p = true ↔ p) ∧ (decide p = false ↔ ¬p) := ⟨decide_eq_true_iff, decide_eq_false_iff_not⟩
theorem xB {α : Type _} [BEq α] [LawfulBEq α] {a b : α} : ((a == b) = true ↔ a = b) ∧ ((a == b) = false ↔ a ≠ b) ∧ ((a != b) = true ↔ a ≠ b) ∧ ((a != b) = false ↔ a = b) := ⟨beq_iff_eq, beq_eq_false_iff_ne, bne_iff_ne, bne_eq_false_iff_eq⟩
theorem xG {α : Sort _} (a b : α) : (a ≠ b) = ¬a = b := ne_eq a b
theorem xC (b : Bool) : ((!b) = true) = (b = false) ∧ ((!b) = false) = (b = true) ∧ (!!b) = b := ⟨Bool.not_eq_true' b, Bool.not_eq_false' b, Bool.not_not b⟩
theorem xD {a b : Bool} : ((a && b) = true ↔ a = true ∧ b = true) ∧ ((a || b) = true ↔ a = true ∨ b = true) ∧ ((a && b) = false ↔ a = false ∨ b = false) ∧ ((a || b) = false ↔ a = false ∧ b = false) := ⟨by simp, by simp, Bool.and_eq_false_iff, Bool.or_eq_false_iff⟩
theorem xN {p : Prop} [_g : Decidable p] [_h : Decidable ¬p] : (decide ¬p) = !decide p := decide_not
theorem xS {A : Prop} (h : A := by repeat' (first | exact trivial | exact .refl _ | exact .int (by omega) | refine ⟨?_, ?_⟩)) : A := h
theorem xT {A : Prop} (h : A := by repeat' (first | exact trivial | exact ⟨_, rfl, .refl _⟩ | refine ⟨?_, ?_⟩)) : A := h
theorem xO {A : Prop} (h : A := by omega) : A := h
theorem xE {A : Prop} (h : A := by decide) : A := h
theorem xQ {A : Prop} (h : False := by omega) : A := h.elim
theorem xV {A : Prop} (h : A := by exact j0e rfl (.tmp rfl) rfl) : A := h
theorem xW {A : Prop} (h : A := by exact j0A (rvs := [_, _]) (τs := [_, _]) rfl rfl ⟨.tmp rfl, .tmp rfl, trivial⟩ rfl) : A := h
theorem xX {A : Prop} (h : A := by exact j0A (rvs := [_, _, _]) (τs := [_, _, _]) rfl rfl ⟨.tmp rfl, .tmp rfl, .tmp rfl, trivial⟩ rfl) : A := h
theorem xU {A B : Prop} (b : B) (k : Bz B → A := by intro h; simp only [y0o, List.map_cons, List.map_nil, Nat.zero_add, Nat.reduceAdd]; exact h.out) : A := k ⟨b⟩
end Go.Vc
namespace Go.Vc
open Go Go.RowKit
section
variable {P : Program} {E : Env} {T : Tab} {O : Own} {d : Option Tmp} {ty : TypeId} {pos : String} {af : Array Edge} {g : Option (Nat × Bool)}
theorem V0l {xt yt : TypeId} {x y : Operand} {m n : Int} (h1 : T.ev x = .av (.val (.int .i64 m))) (h2 : T.ev y = .av (.val (.int .i64 n))) (hn : 0 < n) (hmax : -9223372036854775807 ≤ m ∧ m ≤ 9223372036854775807) :
  GV P E ⟨d, .binOp .quo xt x y yt, ty, pos, af, g⟩ T O (.av (.val (.int .i64 (m.tdiv n)))) [] [] :=
 x0X h1 h2 (fun w => j0K ..) (fun w => by
  have hne : n ≠ 0 := by omega
  have := Int.natAbs_tdiv_le_natAbs m n
  simp [binOp, Op.intDiv, hne, IntWalk.i64_in (m.tdiv n) (by omega)])
end
end Go.Vc
end
namespace Go.Proofs.YtgblokifbgeegaaGreatDoor.H.S
open Go Go.Vc Go.RowKit
set_option maxHeartbeats 4000000
theorem of_c (p : Tr) : CtrA Tryz.prog 173 [tp p] (tp p) := by
 refine j0p _ Tryz.func173 rfl rfl Tryz.ntmps173 rfl fun w Z => ?_
 refine xU ?_
 refine wt ?_
 refine j0n (j0j (t := 165) (is := [0, 1, 2]) (xs := [_, _, _]) (vs := [_, _, _]) (x1z _ _ _) rfl rfl) rfl ?_
 refine wt ?_
 exact j0e rfl (.agg (us := [_, _, _]) rfl rfl rfl rfl) rfl
theorem minus_c (a b : Tr) (h1 : BT 1000000000000 a) (h2 : BT 1000000000000 b) : CtrA Tryz.prog 169 [tp a, tp b] (tp (j0E a b)) := by
 refine j0p _ Tryz.func169 rfl rfl Tryz.ntmps169 rfl fun w Z => ?_
 obtain ⟨⟨_, _⟩, ⟨_, _⟩, ⟨_, _⟩⟩ := h1
 obtain ⟨⟨_, _⟩, ⟨_, _⟩, ⟨_, _⟩⟩ := h2
 refine xU ?_
 refine wt ?_
 refine j0n (j0j (t := 165) (is := [0, 1, 2]) (xs := [_, _, _]) (vs := [_, _, _]) (x1z _ _ _) rfl rfl) rfl ?_
 refine wt ?_
 exact j0e rfl (.agg (us := [_, _, _]) rfl rfl rfl rfl) rfl
theorem K0U (a b : Tr) {A B : Int} (h1 : BT A a) (h2 : BT B b) (hab : A * B ≤ 1000000000000000000) : CtrA Tryz.prog 172 [tp a, tp b] (vi (j0b a b)) := by
 refine j0p _ Tryz.func172 rfl rfl Tryz.ntmps172 rfl fun w Z => ?_
 obtain ⟨m1, n1⟩ := j0F h1.x h2.x
 obtain ⟨m2, n2⟩ := j0F h1.y h2.y
 obtain ⟨m3, n3⟩ := j0F h1.z h2.z
 refine xU ?_
 refine wt ?_
 exact xV
theorem q1I (a b : Tr) {A B : Int} (h1 : BT A a) (h2 : BT B b) (hab : A * B ≤ 1000000000000000000) : CtrA Tryz.prog 170 [tp a, tp b] (tp (tcr a b)) := by
 refine j0p _ Tryz.func170 rfl rfl Tryz.ntmps170 rfl fun w Z => ?_
 obtain ⟨m1, n1⟩ := j0F h1.y h2.z
 obtain ⟨m2, n2⟩ := j0F h1.z h2.y
 obtain ⟨m3, n3⟩ := j0F h1.z h2.x
 obtain ⟨m4, n4⟩ := j0F h1.x h2.z
 obtain ⟨m5, n5⟩ := j0F h1.x h2.y
 obtain ⟨m6, n6⟩ := j0F h1.y h2.x
 refine xU ?_
 refine wt ?_
 refine j0n (j0j (t := 165) (is := [0, 1, 2]) (xs := [_, _, _]) (vs := [_, _, _]) (x1z _ _ _) rfl rfl) rfl ?_
 refine wt ?_
 exact j0e rfl (.agg (us := [_, _, _]) rfl rfl rfl rfl) rfl
def co (a : Tr) (k : Nat) : Int := [a.x, a.y, a.z].getD k 0
def tgs (a : Tr) : Nat → Nat
 |0 => 0
 |k + 1 => Nat.gcd (tgs a k) (co a k).natAbs
theorem j2T (a : Tr) : tgs a 3 = tg a := rfl
theorem V1Y (a : Tr) (w : World) : (Instr.index 165 (.agg [.int .i64 a.x, .int .i64 a.y, .int .i64 a.z].toArray) (.int .i64 (((0 : Nat)) : Int))).run Tryz.prog w = .ok (.int .i64 (co a 0)) w := by kernel_rfl
theorem V1Z (a : Tr) (w : World) : (Instr.index 165 (.agg [.int .i64 a.x, .int .i64 a.y, .int .i64 a.z].toArray) (.int .i64 (((1 : Nat)) : Int))).run Tryz.prog w = .ok (.int .i64 (co a 1)) w := by kernel_rfl
theorem W1a (a : Tr) (w : World) : (Instr.index 165 (.agg [.int .i64 a.x, .int .i64 a.y, .int .i64 a.z].toArray) (.int .i64 (((2 : Nat)) : Int))).run Tryz.prog w = .ok (.int .i64 (co a 2)) w := by kernel_rfl
theorem K1O (a : Tr) (k : Nat) (h : k < 3) (w : World) : (Instr.index 165 (.agg [.int .i64 a.x, .int .i64 a.y, .int .i64 a.z].toArray) (.int .i64 k)).run Tryz.prog w = .ok (.int .i64 (co a k)) w := by
 rcases (by omega : k = 0 ∨ k = 1 ∨ k = 2) with rfl | rfl | rfl
 ·exact V1Y a w
 ·exact V1Z a w
 ·exact W1a a w
theorem Q1t {a : Tr} {B : Int} (h : BT B a) : ∀ k, k ≤ 3 → (tgs a k : Int) ≤ B := by
 have hc : ∀ k, k < 3 → Bn B (co a k) := fun k hk => by
  match k, hk with
  |0, _ => exact h.x
  |1, _ => exact h.y
  |2, _ => exact h.z
 intro k
 induction k with
 |zero => intro _; have := h.x; simp only [Bn] at this; simp only [tgs]; omega
 |succ k ih =>
  intro hk
  have h1 := hc k xO
  have h2 := ih xO
  simp only [tgs]
  by_cases h0 : tgs a k = 0
  ·rw [h0, Nat.gcd_zero_left]; simp only [Bn] at h1; omega
  ·have := Nat.gcd_le_left (co a k).natAbs (show 0 < tgs a k by omega)
   omega
theorem J1Y (a : Tr) (h : BT 1000000000000 a) : CtrA Tryz.prog 171 [tp a] (tp (tpr a)) := by
 refine j0p _ Tryz.func171 rfl rfl Tryz.ntmps171 rfl fun w Z => ?_
 have hc : ∀ k, k < 3 → Bn 1000000000000 (co a k) := fun k hk => by
  match k, hk with
  |0, _ => exact h.x
  |1, _ => exact h.y
  |2, _ => exact h.z
 have hle := Q1t h
 refine xU ?_
 refine wt ?_
 refine j0f (γ := Nat) (fun k => [(1, .av (bt a)), (2, .own 10 0), (3, .av (vi (tgs a k))), (7, .av (tp a)), (8, .av (vi k))]) (fun _ => [(10, .cells [.av (vi 0), .av (vi 0), .av (vi 0)])]) (fun k => k ≤ 3) (fun k => 3 - k) 0 xO (ent xS xT) ?_
 intro k hk
 refine wt ?_
 (refine j0a rfl ?_ ?_ <;> intro hb <;> (try simp only [xA, xB, xG, xC, xD, xN] at hb) <;> (try exact xQ))
 ·have hk3 : k < 3 := by omega
  have hck := hc k hk3
  have hlk := hle k hk
  have hl1 := hle (k + 1) xO
  obtain ⟨hc1, hc2⟩ := hck
  refine wt ?_
  refine j0n (k0y rfl rfl (fun w => K1O a k hk3 w)) rfl ?_
  refine wt ?_
  refine j0f (γ := Nat × Nat) (fun g => [(1, .av (bt a)), (2, .own 10 0), (3, .av (vi g.1)), (6, .av (vi g.2)), (7, .av (tp a)), (8, .av (vi k))]) (fun _ => [(10, .cells [.av (vi 0), .av (vi 0), .av (vi 0)])]) (fun g => Nat.gcd g.1 g.2 = tgs a (k + 1) ∧ g.1 ≤ 1000000000000 ∧ g.2 ≤ 1000000000000) (fun g => g.2) (tgs a k, (co a k).natAbs) ⟨rfl, by dsimp only; omega, by dsimp only; omega⟩ (ent ⟨.refl _, .refl _, .refl _, .int (by dsimp only; omega), .refl _, .refl _, trivial⟩ xT) ?_
  rintro ⟨g, m⟩ ⟨hg, hg1, hm1⟩
  dsimp only at hg hg1 hm1 ⊢
  refine wt ?_
  (refine j0a rfl ?_ ?_ <;> intro hb <;> (try simp only [xA, xB, xG, xC, xD, xN] at hb) <;> (try exact xQ))
  ·have hlt : g % m < m := Nat.mod_lt _ xO
   refine wt ?_
   exact j0c (g := (g, m)) (m, g % m) ⟨by dsimp only; rw [← hg, Nat.gcd_comm g m, Nat.gcd_rec m g, Nat.gcd_comm], by dsimp only; omega, by dsimp only; omega⟩ hlt (ent ⟨.refl _, .refl _, .refl _, .int (by dsimp only; omega), .refl _, .refl _, trivial⟩ xT)
  ·have hm : m = 0 := by omega
   subst hm
   rw [Nat.gcd_zero_right] at hg
   refine wt ?_
   exact j0c (k + 1) (by omega) (by omega) (ent ⟨.refl _, .refl _, .int (by rw [hg]), .refl _, .int (by omega), trivial⟩ xT)
 ·have hk3 : k = 3 := by omega
  subst hk3
  have hle3 := hle 3 xO
  rw [j2T] at hle3 ⊢
  have ht : tpr a = if tg a = 0 then a else ⟨a.x.tdiv (tg a), a.y.tdiv (tg a), a.z.tdiv (tg a)⟩ := rfl
  obtain ⟨⟨_, _⟩, ⟨_, _⟩, ⟨_, _⟩⟩ := h
  refine wt ?_
  (refine j0a rfl ?_ ?_ <;> intro hb <;> (try simp only [xA, xB, xG, xC, xD, xN] at hb) <;> (try exact xQ))
  ·rw [if_pos (by omega)] at ht
   rw [ht]
   refine wt ?_
   exact j0e rfl (.agg (us := [_, _, _]) rfl rfl rfl rfl) rfl
  ·rw [if_neg (by omega)] at ht
   rw [ht]
   refine wt ?_
   refine v0x (j0j (t := 165) (is := [0, 1, 2]) (xs := [_, _, _]) (vs := [_, _, _]) (x1z _ _ _) rfl rfl) rfl ?_
   refine wt ?_
   exact j0e rfl (.agg (us := [_, _, _]) rfl rfl rfl rfl) rfl
theorem J1y (l m : List Tr) (i : Nat) : gt (l ++ m) i = if i < l.length then gt l i else gt m (i - l.length) := by
 unfold gt
 by_cases h : i < l.length
 ·simp [List.getD, List.getElem?_append_left h, h]
 ·simp [List.getD, List.getElem?_append_right (Nat.le_of_not_lt h), h]
theorem x1C (p : Tr) : ∀ i, i < 1 → ∀ j, j < 3 → ∃ u, [Value.int .i64 p.x, .int .i64 p.y, .int .i64 p.z][i * 3 + j]? = some u ∧ tf [p] i j = .val u := by
 intro i hi j hj
 obtain rfl : i = 0 := by omega
 match j, hj with
 |0, _ => exact ⟨_, rfl, rfl⟩
 |1, _ => exact ⟨_, rfl, rfl⟩
 |2, _ => exact ⟨_, rfl, rfl⟩
theorem K0v (l : List Tr) : ∀ i j, (tf l i j).one = true := fun i j => by unfold tf; split <;> rfl
theorem x1B (l : List Tr) (p : Tr) : ∀ i, i < l.length + 1 → ∀ j, j < 3 → v0J l.length (tf l) (tf [p]) i j = tf (l ++ [p]) i j := by
 intro i hi j hj
 unfold v0J tf
 rw [J1y]
 by_cases h : i < l.length
 ·rw [if_pos h, if_pos h]
 ·rw [if_neg h, if_neg h]
theorem Y0z (l : List Tr) (hn : l.length ≤ 1000) : CtrR Tryz.prog 131 [ts l] 165 3 l.length (tf l) [] := by
 refine q1M _ Tryz.func131 rfl rfl Tryz.ntmps131 rfl fun w Z => ?_
 refine xU ?_
 refine wt ?_
 refine j0f (γ := Nat) (fun k => [(3, .osl 70), (6, .av (ts l)), (7, .av (vi l.length)), (8, .av (vi k))]) (fun k => [(70, .row 165 3 (l.take k).length (tf (l.take k)))]) (fun k => k ≤ l.length) (fun k => l.length - k) 0 (Nat.zero_le _) (Ent.trans (w0x (dd := 3) 70 165 3 (tf []) rfl rfl) (ent xS xT)) ?_
 intro k hk
 refine wt ?_
 (refine j0a rfl ?_ ?_ <;> intro hb <;> (try simp only [xA, xB, xG, xC, xD, xN] at hb) <;> (try exact xQ))
 ·have hkl : k < l.length := by omega
  have ht := Q0g hkl
  have hl1 : (l.take k).length ≤ k := by rw [List.length_take]; omega
  generalize l.take k = X at ht hl1 ⊢
  have hml : X.length + 1 ≤ maxLen := by simp only [maxLen]; omega
  have ho := of_c (gt l k)
  refine wt ?_
  refine j0n (q0c (is := [0]) (xs := [_]) (vs := [_]) (us := [_, _, _]) (k1Q _ _ _) rfl rfl rfl (x1C _)) rfl ?_
  refine wt ?_
  refine j0u (v0i (h := tf [gt l k]) (m := 1) rfl rfl rfl (fun i _ j _ => K0v _ i j) xO hml xO) rfl ?_
  refine wt ?_
  exact j0c (k + 1) (by omega) (by omega) (ent xS ⟨⟨_, rfl, .row (by rw [ht]; simp) (fun i hi j hj => by rw [ht]; exact x1B _ _ i hi j hj)⟩, trivial⟩)
 ·have hkl : k = l.length := by omega
  subst hkl
  rw [List.take_length]
  refine wt ?_
  exact w0A rfl rfl rfl rfl (fun _ _ _ _ => rfl)
abbrev c7 (s : Spn) : Res := .cells [.av (vi s.dim), .av (vi s.pt.x), .av (vi s.pt.y), .av (vi s.pt.z), .av (vi s.way.x), .av (vi s.way.y), .av (vi s.way.z)]
abbrev spv (s : Spn) : AV := .val (.agg #[.int .i64 s.dim, .int .i64 s.pt.x, .int .i64 s.pt.y, .int .i64 s.pt.z, .int .i64 s.way.x, .int .i64 s.way.y, .int .i64 s.way.z])
theorem X1m : Tryz.prog.built 167 [(0, .int .i64 (-1))] = some #[.int .i64 (-1), .int .i64 0, .int .i64 0, .int .i64 0, .int .i64 0, .int .i64 0, .int .i64 0] := by kernel_rfl
theorem Z0z : Tryz.prog.built 165 [] = some #[.int .i64 0, .int .i64 0, .int .i64 0] := by kernel_rfl
theorem z1L (a : Tr) : ([a.x, a.y, a.z] == [0, 0, 0]) = decide (a = tz) := by
 cases a; rw [Bool.eq_iff_iff]; simp [tz]
theorem Q0K (l : List Tr) (hl : RT l) (hn : l.length ≤ 1000) : CtrA Tryz.prog 130 [ts l] (spv (spn l)) := by
 refine j0p _ Tryz.func130 rfl rfl Tryz.ntmps130 rfl fun w Z => ?_
 have h00 : J0B l 0 = ⟨-1, tz, tz⟩ := rfl
 refine xU ?_
 refine wt ?_
 repeat' (first
   |(refine j0n (j0j (is := [0]) (xs := [_]) (vs := [_]) X1m rfl rfl) rfl ?_; refine wt ?_))
 refine j0f (γ := Nat) (fun k => [(2, .own 10 0), (3, .own 11 0), (9, .av (ts l)), (10, .av (vi l.length)), (11, .av (vi k))]) (fun k => [(10, c7 ⟨0, tz, tz⟩), (11, c7 (J0B l k))]) (fun k => k ≤ l.length) (fun k => l.length - k) 0 (Nat.zero_le _) (ent xS xT) ?_
 intro k hk
 refine wt ?_
 (refine j0a rfl ?_ ?_ <;> intro hb <;> (try simp only [xA, xB, xG, xC, xD, xN] at hb) <;> (try exact xQ))
 ·have hkl : k < l.length := by omega
  have hs := z0h hkl
  have hok := SpOk.to hl k
  have hp := hl k
  generalize J0B l k = s at hs hok ⊢
  have hsub : BT 200000 (j0E (gt l k) s.pt) := hp.sub hok.pt
  have hq := hok.pt
  have hp' := hp.le (B := 1000000000000) xE
  have hq' := hq.le (B := 1000000000000) xE
  unfold y0b at hs
  refine wt ?_
  (refine j0a rfl ?_ ?_ <;> intro hb <;> (try simp only [xA, xB, xG, xC, xD, xN] at hb) <;> (try exact xQ))
  ·rw [if_pos hb] at hs
   refine wt ?_
   exact j0c (k + 1) (by omega) (by omega) (ent xS ⟨⟨_, rfl, .refl _⟩, ⟨_, rfl, by rw [hs]; exact .refl _⟩, trivial⟩)
  rw [if_neg hb] at hs
  have hm1 := hb
  refine wt ?_
  (refine j0a rfl ?_ ?_ <;> intro hb <;> (try simp only [xA, xB, xG, xC, xD, xN] at hb) <;> (try exact xQ))
  ·rw [if_pos hb] at hs
   have hq1 := minus_c (gt l k) s.pt hp' hq'
   refine wt ?_
   repeat' (first
     |(refine j0n (j0j (is := []) (xs := []) (vs := []) Z0z rfl rfl) rfl ?_; refine wt ?_))
   refine j0a rfl (fun hc => ?_) (fun hc => ?_)
   ·rw [if_neg (by intro e; rw [e] at hc; simp [tz] at hc)] at hs
    refine wt ?_
    exact j0c (k + 1) (by omega) (by omega) (ent xS ⟨⟨_, rfl, .refl _⟩, ⟨_, rfl, by rw [hs]; exact .refl _⟩, trivial⟩)
   ·rw [if_pos (by rw [z1L] at hc; simpa using hc)] at hs
    refine wt ?_
    exact j0c (k + 1) (by omega) (by omega) (ent xS ⟨⟨_, rfl, .refl _⟩, ⟨_, rfl, by rw [hs]; exact .refl _⟩, trivial⟩)
  rw [if_neg hb] at hs
  have h00' := hb
  refine wt ?_
  (refine j0a rfl ?_ ?_ <;> intro hb <;> (try simp only [xA, xB, xG, xC, xD, xN] at hb) <;> (try exact xQ))
  ·rw [if_pos hb] at hs
   have hw : BT 200000 s.way := by
    rcases hok.dim with e | e | e | e | e
    ·omega
    ·omega
    ·exact e.2
    ·omega
    ·omega
   have hq2 := minus_c (gt l k) s.pt hp' hq'
   have hq3 := q1I s.way (j0E (gt l k) s.pt) hw hsub xE
   refine wt ?_
   repeat' (first
     |(refine j0n (j0j (is := []) (xs := []) (vs := []) Z0z rfl rfl) rfl ?_; refine wt ?_))
   refine j0a rfl (fun hc => ?_) (fun hc => ?_)
   ·rw [if_neg (by intro e; rw [e] at hc; simp [tz] at hc)] at hs
    refine wt ?_
    exact j0c (k + 1) (by omega) (by omega) (ent xS ⟨⟨_, rfl, .refl _⟩, ⟨_, rfl, by rw [hs]; exact .refl _⟩, trivial⟩)
   ·rw [if_pos (by rw [z1L] at hc; simpa using hc)] at hs
    refine wt ?_
    exact j0c (k + 1) (by omega) (by omega) (ent xS ⟨⟨_, rfl, .refl _⟩, ⟨_, rfl, by rw [hs]; exact .refl _⟩, trivial⟩)
  rw [if_neg hb] at hs
  have h11 := hb
  refine wt ?_
  (refine j0a rfl ?_ ?_ <;> intro hb <;> (try simp only [xA, xB, xG, xC, xD, xN] at hb) <;> (try exact xQ))
  ·rw [if_pos hb] at hs
   have hd2 := hb
   have hw : BT 80000000000 s.way := by
    rcases hok.dim with e | e | e | e | e
    ·omega
    ·omega
    ·omega
    ·exact e.2
    ·omega
   have hq4 := J1Y s.way (hw.le xE)
   have hq5 := minus_c (gt l k) s.pt hp' hq'
   have hq6 := K0U (tpr s.way) (j0E (gt l k) s.pt) hw.pr hsub xE
   refine wt ?_
   (refine j0a rfl ?_ ?_ <;> intro hb <;> (try simp only [xA, xB, xG, xC, xD, xN] at hb) <;> (try exact xQ))
   ·rw [if_neg hb] at hs
    refine wt ?_
    exact j0c (k + 1) (by omega) (by omega) (ent xS ⟨⟨_, rfl, .refl _⟩, ⟨_, rfl, by rw [hs]; exact .refl _⟩, trivial⟩)
   ·rw [if_pos hb] at hs
    refine wt ?_
    exact j0c (k + 1) (by omega) (by omega) (ent xS ⟨⟨_, rfl, .refl _⟩, ⟨_, rfl, by rw [hs, hd2]; exact .refl _⟩, trivial⟩)
  ·rw [if_neg hb] at hs
   refine wt ?_
   exact j0c (k + 1) (by omega) (by omega) (ent xS ⟨⟨_, rfl, .refl _⟩, ⟨_, rfl, by rw [hs]; exact .refl _⟩, trivial⟩)
 ·have hkl : k = l.length := by omega
  subst hkl
  refine wt ?_
  repeat' (first
    |(refine j0n (j0o (us := [.int _ _, .int _ _, .int _ _, .int _ _, .int _ _, .int _ _, .int _ _]) rfl rfl rfl rfl) rfl ?_; refine wt ?_))
  exact j0e rfl (.agg (us := [_, _, _, _, _, _, _]) rfl rfl rfl rfl) rfl
end Go.Proofs.YtgblokifbgeegaaGreatDoor.H.S
namespace Go.Proofs.YtgblokifbgeegaaGreatDoor.H.S
open Go Go.Vc Go.RowKit
set_option maxHeartbeats 8000000
theorem times_c (a : Tr) (k : Int) (h : BT 1000000000000 a) (hk : k = -1) : CtrA Tryz.prog 286 [tp a, vi k] (tp (j0P a k)) := by
 refine j0p _ Tryz.func286 rfl rfl Tryz.ntmps286 rfl fun w Z => ?_
 obtain ⟨⟨_, _⟩, ⟨_, _⟩, ⟨_, _⟩⟩ := h
 subst hk
 refine xU ?_
 refine wt ?_
 repeat' (first
   |(refine j0n (j0j (is := [0, 1, 2]) (xs := [_, _, _]) (vs := [_, _, _]) (x1z _ _ _) rfl rfl) rfl ?_; refine wt ?_))
 exact j0e rfl (.agg (us := [_, _, _]) rfl rfl rfl rfl) rfl
structure Fc where
 n : Tr
 m : Int
 s : List Nat
deriving DecidableEq, Inhabited
def fcf (f : Fc) : Nat → AV
 |0 => vi f.n.x
 |1 => vi f.n.y
 |2 => vi f.n.z
 |3 => vi f.m
 |_+4 => .sl f.s.length 1 (xf f.s)
theorem v0W (f : Fc) : ∀ i, i < 5 → (fcf f i).one = true := fun i h => by
 rcases (by omega : i = 0 ∨ i = 1 ∨ i = 2 ∨ i = 3 ∨ i = 4) with rfl | rfl | rfl | rfl | rfl <;> rfl
abbrev fca (f : Fc) : AV := .agg 5 (fcf f)
def Q0w (l : List Tr) (n : Tr) (m : Int) (k : Nat) : List Nat := (List.range k).filter fun i => decide (j0b n (gt l i) = m)
def Q0T (l : List Tr) (n : Tr) (m : Int) (k : Nat) : Bool := (List.range k).any fun i => decide (j0b n (gt l i) < m)
def y0w (l : List Tr) (n : Tr) (m : Int) (k : Nat) : Bool := (List.range k).any fun i => decide (m < j0b n (gt l i))
def J1t (l : List Tr) (n : Tr) (m : Int) : Fc := if y0w l n m l.length = true then ⟨j0P n (-1), -m, Q0w l n m l.length⟩ else ⟨n, m, Q0w l n m l.length⟩
def X1T (l : List Tr) (n : Tr) (m : Int) : Bool := !Q0T l n m l.length || !y0w l n m l.length
theorem w1h (l : List Tr) (n : Tr) (m : Int) (k : Nat) : Q0w l n m (k + 1) = if j0b n (gt l k) = m then Q0w l n m k ++ [k] else Q0w l n m k := by
 unfold Q0w
 rw [List.range_succ, List.filter_append]
 split
 ·rename_i h; simp [h]
 ·rename_i h; simp [h]
theorem k0T (l : List Tr) (n : Tr) (m : Int) (k : Nat) : (Q0w l n m k).length ≤ k := by
 have := List.length_filter_le (fun i => decide (j0b n (gt l i) = m)) (List.range k)
 simpa [Q0w] using this
theorem K0K (l : List Tr) (n : Tr) (m : Int) (k : Nat) : Q0T l n m (k + 1) = (Q0T l n m k || decide (j0b n (gt l k) < m)) := by unfold Q0T; rw [List.range_succ, List.any_append]; simp
theorem K0J (l : List Tr) (n : Tr) (m : Int) (k : Nat) : y0w l n m (k + 1) = (y0w l n m k || decide (m < j0b n (gt l k))) := by unfold y0w; rw [List.range_succ, List.any_append]; simp
theorem X1n (n : Tr) (m : Int) : Tryz.prog.built 179 [(0, .agg #[.int .i64 n.x, .int .i64 n.y, .int .i64 n.z]), (1, .int .i64 m)] = some #[.int .i64 n.x, .int .i64 n.y, .int .i64 n.z, .int .i64 m, .slice none 0 0] := by kernel_rfl
theorem V1B (l : List Tr) (n : Tr) (m : Int) (hl : RT l) (hln : l.length ≤ 1000) (hn : BT 1000000000000 n) (hm : Bn 1000000000000000000 m) : CtrA Tryz.prog 258 [ts l, tp n, vi m] (j0x [fca (J1t l n m), vb (X1T l n m)]) := by
 refine j0p _ Tryz.func258 rfl rfl Tryz.ntmps258 rfl fun w Z => ?_
 obtain ⟨hm1, hm2⟩ := hm
 refine xU ?_
 refine wt ?_
 repeat' (first
   |(refine j0n (j0j (is := [0, 1]) (xs := [_, _]) (vs := [_, _]) (X1n n m) rfl rfl) rfl ?_; refine wt ?_))
 refine j0f (γ := Nat) (fun k => [(2, .av (vi m)), (4, .av (bt n)), (6, .own 10 0), (8, .own 11 0), (9, .av (vb (Q0T l n m k))), (10, .av (vb (y0w l n m k))), (17, .av (ts l)), (18, .av (vi l.length)), (19, .av (vi k))]) (fun k => [(10, .cells [.av (vi 0), .av (vi 0), .av (vi 0), .av (vi 0), .av (.val (.slice none 0 0))]), (60, .row 3 1 (Q0w l n m k).length (xf (Q0w l n m k))), (11, .cells [.av (vi n.x), .av (vi n.y), .av (vi n.z), .av (vi m), .osl 60])]) (fun k => k ≤ l.length) (fun k => l.length - k) 0 (Nat.zero_le _) (Ent.trans (k0n (r := 11) (off := 4) 60 3 1 (xf []) rfl rfl rfl) (ent xS xT)) ?_
 intro k hk
 refine wt ?_
 (refine j0a rfl ?_ ?_ <;> intro hb <;> (try simp only [xA, xB, xG, xC, xD, xN] at hb) <;> (try exact xQ))
 ·have hkl : k < l.length := by omega
  have e0 := w1h l n m k
  have e1 := K0K l n m k
  have e2 := K0J l n m k
  have hol := k0T l n m k
  generalize Q0w l n m k = X at e0 hol ⊢
  generalize Q0T l n m k = bl at e1 ⊢
  generalize y0w l n m k = ba at e2 ⊢
  refine wt ?_
  repeat' (first
    |(refine j0n (X0G (K0U _ _ hn (hl _) xE) rfl) rfl ?_; refine wt ?_))
  (refine j0a rfl ?_ ?_ <;> intro hb <;> (try simp only [xA, xB, xG, xC, xD, xN] at hb) <;> (try exact xQ))
  ·rw [if_neg (by omega)] at e0
   rw [decide_eq_true hb, Bool.or_true] at e1
   rw [decide_eq_false (by omega), Bool.or_false] at e2
   refine wt ?_
   exact j0c (k + 1) (by omega) (by omega) (ent ⟨.refl _, .refl _, .refl _, .refl _, (by rw [e1]; exact .refl _), (by rw [e2]; exact .refl _), .refl _, .refl _, .int (by omega), trivial⟩ ⟨⟨_, rfl, .refl _⟩, ⟨_, rfl, .row (by rw [e0]) (fun _ _ _ _ => by rw [e0])⟩, ⟨_, rfl, .refl _⟩, trivial⟩)
  have hb1 := hb
  rw [decide_eq_false hb, Bool.or_false] at e1
  refine wt ?_
  (refine j0a rfl ?_ ?_ <;> intro hb <;> (try simp only [xA, xB, xG, xC, xD, xN] at hb) <;> (try exact xQ))
  ·rw [if_neg (by omega)] at e0
   rw [decide_eq_true hb, Bool.or_true] at e2
   refine wt ?_
   exact j0c (k + 1) (by omega) (by omega) (ent ⟨.refl _, .refl _, .refl _, .refl _, (by rw [e1]; exact .refl _), (by rw [e2]; exact .refl _), .refl _, .refl _, .int (by omega), trivial⟩ ⟨⟨_, rfl, .refl _⟩, ⟨_, rfl, .row (by rw [e0]) (fun _ _ _ _ => by rw [e0])⟩, ⟨_, rfl, .refl _⟩, trivial⟩)
  ·rw [if_pos (by omega)] at e0
   rw [decide_eq_false hb, Bool.or_false] at e2
   have hml : X.length + 1 ≤ maxLen := by simp only [maxLen]; omega
   refine wt ?_
   exact j0c (k + 1) (by omega) (by omega) (ent ⟨.refl _, .refl _, .refl _, .refl _, (by rw [e1]; exact .refl _), (by rw [e2]; exact .refl _), .refl _, .refl _, .int (by omega), trivial⟩ ⟨⟨_, rfl, .refl _⟩, ⟨_, rfl, .row (by rw [e0]) (fun _ _ _ _ => by rw [e0])⟩, ⟨_, rfl, .refl _⟩, trivial⟩)
 ·have hkl : k = l.length := by omega
  subst hkl
  have f1 : J1t l n m = if y0w l n m l.length = true then ⟨j0P n (-1), -m, Q0w l n m l.length⟩ else ⟨n, m, Q0w l n m l.length⟩ := rfl
  have f2 : X1T l n m = (!Q0T l n m l.length || !y0w l n m l.length) := rfl
  generalize Q0w l n m l.length = X at f1 ⊢
  generalize Q0T l n m l.length = bl at f2 ⊢
  generalize y0w l n m l.length = ba at f1 f2 ⊢
  refine wt ?_
  (refine j0a rfl ?_ ?_ <;> intro hb <;> (try simp only [xA, xB, xG, xC, xD, xN] at hb) <;> (try exact xQ))
  ·rw [if_pos hb] at f1
   rw [f1, f2]
   have ht := times_c n (-1) hn rfl
   have hq1 := ht
   refine wt ?_
   repeat' (first
     |(refine j0l rfl rfl (fun hb => ?_) (fun hb => ?_) <;> (try simp only [xA, xB, xG, xC, xD, xN] at hb) <;> (try exact xQ) <;> refine wt ?_)
     |(refine v0e (y0L 11 60 4 rfl rfl rfl rfl) ?_; refine wt ?_)
     |(refine j0n (v0Z (f := fcf ⟨j0P n (-1), -m, X⟩) rfl rfl rfl) rfl ?_; refine wt ?_)
     |(refine v0P (q0d rfl rfl (v0W _) rfl rfl) ?_; refine wt ?_))
   all_goals (exact j0A (rvs := [_, _]) (τs := [fca _, vb _]) rfl rfl ⟨.aggv (k := 5) rfl rfl rfl, .tmp rfl, trivial⟩ (by rw [hb]; rfl))
  ·rw [if_neg (by rw [hb]; simp)] at f1
   rw [f1, f2]
   refine wt ?_
   repeat' (first
     |(refine j0l rfl rfl (fun hb => ?_) (fun hb => ?_) <;> (try simp only [xA, xB, xG, xC, xD, xN] at hb) <;> (try exact xQ) <;> refine wt ?_)
     |(refine v0e (y0L 11 60 4 rfl rfl rfl rfl) ?_; refine wt ?_)
     |(refine j0n (v0Z (f := fcf ⟨n, m, X⟩) rfl rfl rfl) rfl ?_; refine wt ?_)
     |(refine v0P (q0d rfl rfl (v0W _) rfl rfl) ?_; refine wt ?_))
   all_goals (exact j0A (rvs := [_, _]) (τs := [fca _, vb _]) rfl rfl ⟨.aggv (k := 5) rfl rfl rfl, .tmp rfl, trivial⟩ (by rw [hb]; rfl))
end Go.Proofs.YtgblokifbgeegaaGreatDoor.H.S
namespace Go.Proofs.YtgblokifbgeegaaGreatDoor.H.S
open Go Go.Vc Go.RowKit Go.Sort
set_option maxHeartbeats 1000000
def y1a (a b : Tr) : Int := if Lib.compareInt a.x b.x ≠ 0 then Lib.compareInt a.x b.x else if Lib.compareInt a.y b.y ≠ 0 then Lib.compareInt a.y b.y else Lib.compareInt a.z b.z
def y1u (a b : Tr) (k : Nat) : Int := match k with
 |0 => y1a a b
 |1 => if Lib.compareInt a.y b.y ≠ 0 then Lib.compareInt a.y b.y else Lib.compareInt a.z b.z
 |2 => Lib.compareInt a.z b.z
 |_ => 0
theorem Z0U {a b : Tr} {k : Nat} (hk : k < 3) : y1u a b k = if Lib.compareInt (co a k) (co b k) ≠ 0 then Lib.compareInt (co a k) (co b k) else y1u a b (k + 1) := by
 rcases (by omega : k = 0 ∨ k = 1 ∨ k = 2) with rfl | rfl | rfl
 ·rfl
 ·rfl
 ·show Lib.compareInt a.z b.z = if Lib.compareInt a.z b.z ≠ 0 then Lib.compareInt a.z b.z else 0
  split
  ·rfl
  ·rename_i h; exact Decidable.of_not_not h
set_option maxRecDepth 100000 in
theorem y1x (a b : Tr) (p q cp cq : Nat) (W : World) (hp : ∀ j, j < 3 → W.cell? ⟨p, j, none⟩ = some (.int .i64 (co a j))) (hq : ∀ j, j < 3 → W.cell? ⟨q, j, none⟩ = some (.int .i64 (co b j))) :
  Calls Tryz.prog 96 #[.slice (some ⟨p, 0, none⟩) 3 cp, .slice (some ⟨q, 0, none⟩) 3 cq] W fun e w' => e = .returned (.int .i64 (y1a a b)) ∧ w' = W := by
 go_enter Tryz.func96, Tryz.ntmps96
 go_wp2
 go_loopw [11] (fun i wr => ∃ k : Nat, k ≤ 3 ∧ i = .int .i64 k ∧ wr = W ∧ y1u a b k = y1a a b) (fun i _ => 3 - (intOf i).toNat)
 case atStart => exact ⟨0, Nat.zero_le _, rfl, rfl, rfl⟩
 case round =>
  obtain ⟨k, hk, rfl, rfl, hc⟩ := hrel
  by_cases hk3 : k < 3
  ·have hkz : (k : Int) < 3 := by omega
   have h1 := hp k hk3
   have h2 := hq k hk3
   have hf := Z0U (a := a) (b := b) hk3
   go_wp2_with (first | (go_at_call 132; refine (Tryz.cmp_Compare_int _ _ _).mono ?_; rintro e w' ⟨rfl, rfl⟩) | fail)
   ·rename_i hne
    go_ret
    refine ⟨?_, rfl⟩
    show Ending.returned (Value.int .i64 (Lib.compareInt (co a k) (co b k))) = _
    rw [← hc, hf, if_pos (by simpa using hne)]
   ·rename_i hne
    refine ⟨⟨k + 1, by omega, by go_num, trivial, ?_⟩, by simp [intOf]; omega⟩
    rw [← hc, hf, if_neg (by simpa using hne)]
  ·have : k = 3 := by omega
   subst this
   go_wp2
   go_ret
   refine ⟨?_, rfl⟩
   rw [← hc]
   rfl
def J0U (n : Tr) (m : Int) (p : Option Addr) (k c : Nat) : List Value := [.int .i64 n.x, .int .i64 n.y, .int .i64 n.z, .int .i64 m, .slice p k c]
theorem q1C (a : Tr) (m : Int) (p : Option Addr) (k c : Nat) : ∀ j, j < 3 → (J0U a m p k c).toArray[j]? = some (.int .i64 (co a j)) := fun j hj => by
 rcases (by omega : j = 0 ∨ j = 1 ∨ j = 2) with rfl | rfl | rfl <;> rfl
theorem Y1u (a b : Tr) (m m' : Int) (p p' : Option Addr) (k c k' c' : Nat) (W : World) (n : Nat) :
  Calls Tryz.prog 96 #[.slice (some ⟨W.heap.size, 0, none⟩) 3 3, .slice (some ⟨W.heap.size + 1, 0, none⟩) 3 3] (((W.alloc (.cells (J0U a m p k c).toArray 179)).alloc (.cells (J0U b m' p' k' c').toArray 179)).drewN n) fun e w' => e = .returned (.int .i64 (y1a a b)) ∧ w' = (((W.alloc (.cells (J0U a m p k c).toArray 179)).alloc (.cells (J0U b m' p' k' c').toArray 179)).drewN n) := by
 refine y1x a b _ _ _ _ _ (fun j hj => ?_) (fun j hj => ?_)
 ·have h1 : (((W.alloc (.cells (J0U a m p k c).toArray 179)).alloc (.cells (J0U b m' p' k' c').toArray 179)).drewN n).heap[W.heap.size]? = some (.cells (J0U a m p k c).toArray 179 (0, 0)) := by
   show ((W.alloc (.cells (J0U a m p k c).toArray 179)).alloc (.cells (J0U b m' p' k' c').toArray 179)).heap[W.heap.size]? = _
   rw [Go.Vc.heap_old _ _ (by simp)]
   exact World.alloc_heap_new W _
  simp only [World.cell?, h1]
  exact q1C a m p k c j hj
 ·have h1 : (((W.alloc (.cells (J0U a m p k c).toArray 179)).alloc (.cells (J0U b m' p' k' c').toArray 179)).drewN n).heap[W.heap.size + 1]? = some (.cells (J0U b m' p' k' c').toArray 179 (0, 0)) := by
   show ((W.alloc (.cells (J0U a m p k c).toArray 179)).alloc (.cells (J0U b m' p' k' c').toArray 179)).heap[W.heap.size + 1]? = _
   have := World.alloc_heap_new (W.alloc (.cells (J0U a m p k c).toArray 179)) (.cells (J0U b m' p' k' c').toArray 179)
   rwa [World.size_alloc] at this
  simp only [World.cell?, h1]
  exact q1C b m' p' k' c' j hj
set_option maxRecDepth 100000 in
theorem V1j (a b : Tr) (m m' : Int) (p p' : Option Addr) (k c k' c' : Nat) (W : World) : Calls Tryz.prog 227 #[.agg (J0U a m p k c).toArray, .agg (J0U b m' p' k' c').toArray] W fun e w' => e = .returned (.int .i64 (y1a a b)) ∧ ∃ q, w' = (grow W #[.cells (J0U a m p k c).toArray 179, .cells (J0U b m' p' k' c').toArray 179]).drewN q := by
 go_enter Tryz.func227, Tryz.ntmps227
 go_wp2
 go_quiet (first | (go_at_call 96; refine Calls.quiet_of_same (Y1u a b m m' p p' k c k' c' W _)))
 go_wp2
 go_ret
 exact ⟨rfl, nq, by rw [alloc_eq_grow, alloc_eq_grow, grow_grow]; rfl⟩
end Go.Proofs.YtgblokifbgeegaaGreatDoor.H.S
namespace Go.Proofs.YtgblokifbgeegaaGreatDoor.H.S
open Go Go.Vc Go.RowKit
set_option maxHeartbeats 4000000
def plN (l : List Tr) (i j k : Nat) : Tr := tpr (tcr (j0E (gt l i) (gt l k)) (j0E (gt l j) (gt l k)))
def plM (l : List Tr) (i j k : Nat) : Int := j0b (plN l i j k) (gt l k)
def plF (l : List Tr) (i j k : Nat) : Fc := J1t l (plN l i j k) (plM l i j k)
def plB (l : List Tr) (i j k : Nat) : Bool := decide (plN l i j k ≠ tz) && X1T l (plN l i j k) (plM l i j k)
def pK (l : List Tr) (i j : Nat) : Nat → List Fc
 |0 => []
 |k + 1 => pK l i j k ++ if plB l i j k = true then [plF l i j k] else []
def pJ (l : List Tr) (i : Nat) : Nat → List Fc
 |0 => []
 |j + 1 => pJ l i j ++ pK l i j j
def pI (l : List Tr) : Nat → List Fc
 |0 => []
 |i + 1 => pI l i ++ pJ l i i
def j0T (l : List Tr) : List Fc := pI l l.length
theorem x0d {α : Type} {f g : Nat → List α} (h : ∀ k, f (k + 1) = f k ++ g k) {k n : Nat} (hk : k ≤ n) : f k <+: f n := by
 induction n with
 |zero => rw [Nat.le_zero.1 hk]; exact List.prefix_refl _
 |succ n ih =>
  by_cases e : k = n + 1
  ·rw [e]; exact List.prefix_refl _
  ·rw [h n]; exact (ih (by omega)).trans (List.prefix_append _ _)
theorem j1q {l : List Tr} {i j k : Nat} (hi : i < l.length) (hj : j < i) (hk : k < j) : pI l i ++ (pJ l i j ++ pK l i j (k + 1)) <+: j0T l := by
 have h1 : pK l i j (k + 1) <+: pK l i j j := x0d (fun _ => rfl) xO
 have h2 : pJ l i (j + 1) <+: pJ l i i := x0d (fun _ => rfl) xO
 have h3 : pI l (i + 1) <+: pI l l.length := x0d (fun _ => rfl) xO
 have h4 : pJ l i j ++ pK l i j (k + 1) <+: pJ l i (j + 1) := (List.prefix_append_right_inj _).2 h1
 exact ((List.prefix_append_right_inj _).2 (h4.trans h2)).trans h3
theorem w1t {α : Type} {A L : List α} {x : α} (h : A ++ [x] <+: L) : L[A.length]? = some x := by
 obtain ⟨t, rfl⟩ := h
 simp
def V5 (x : Value) : Prop := ∃ cs : List Value, x = .agg cs.toArray ∧ cs.length = 5 ∧ ∀ (i : Nat) (v : Value), cs[i]? = some v → v.oneCell' = true
theorem Z1d (f : Fc) (Z : j0q) (w : World) (v : Value) (h : AV.ok Z w (fca f) v) : V5 v := by
 obtain ⟨cs, rfl, h1, h2⟩ := h
 refine ⟨cs, rfl, h1, fun i v hv => ?_⟩
 have hi : i < 5 := by have := (List.getElem?_eq_some_iff.1 hv).1; omega
 obtain ⟨u, hu, hk⟩ := h2 i hi
 rw [hu] at hv
 cases hv
 exact AV.one_cells (v0W f i hi) hk
abbrev yv (l : Nat) : AV := .val (.func (.yield l) #[] #[])
abbrev lt (l : List Tr) : AV := .ptr 1 (fun _ => ts l)
theorem w1q (l : List Tr) (hl : RT l) (hn : l.length ≤ 64) : CtrM Tryz.prog 257 [lt l] V5 ((j0T l).map fca) := by
 refine K1s _ Tryz.func257 rfl rfl Tryz.ntmps257 rfl fun y J Y w Z S => ?_
 refine xU ?_
 refine wt ?_
 refine v0w Y (γ := Nat) (fun i => [(0, .av (yv y)), (1, .av (lt l)), (10, .av (vi l.length)), (11, .av (vi i))]) (fun i => (pI l i).length) (fun i => i ≤ l.length) (fun i => l.length - i) 0 S (Nat.zero_le _) (ent xS trivial) ?_
 intro i hi w Z S
 refine wt ?_
 (refine j0a rfl ?_ ?_ <;> intro hb <;> (try simp only [xA, xB, xG, xC, xD, xN] at hb) <;> (try exact xQ))
 ·have hil : i < l.length := by omega
  refine wt ?_
  refine v0w Y (γ := Nat) (fun j => [(0, .av (yv y)), (1, .av (lt l)), (3, .av (vi i)), (10, .av (vi l.length)), (11, .av (vi i)), (14, .av (vi i)), (15, .av (vi j))]) (fun j => (pI l i ++ pJ l i j).length) (fun j => j ≤ i) (fun j => i - j) 0 (by rw [show pJ l i 0 = [] from rfl, List.append_nil]; exact S) (Nat.zero_le _) (ent xS trivial) ?_
  intro j hj w Z S
  refine wt ?_
  (refine j0a rfl ?_ ?_ <;> intro hb <;> (try simp only [xA, xB, xG, xC, xD, xN] at hb) <;> (try exact xQ))
  ·have hjl : j < i := by omega
   refine wt ?_
   refine v0w Y (γ := Nat) (fun k => [(0, .av (yv y)), (1, .av (lt l)), (3, .av (vi i)), (4, .av (vi j)), (10, .av (vi l.length)), (11, .av (vi i)), (14, .av (vi i)), (15, .av (vi j)), (18, .av (vi j)), (19, .av (vi k))]) (fun k => (pI l i ++ (pJ l i j ++ pK l i j k)).length) (fun k => k ≤ j) (fun k => j - k) 0 (by rw [show pK l i j 0 = [] from rfl, List.append_nil]; exact S) (Nat.zero_le _) (ent xS trivial) ?_
   intro k hk w Z S
   refine wt ?_
   (refine j0a rfl ?_ ?_ <;> intro hb <;> (try simp only [xA, xB, xG, xC, xD, xN] at hb) <;> (try exact xQ))
   ·have hkl : k < j := by omega
    have hp := j1q hil hjl hkl
    have e0 : pK l i j (k + 1) = pK l i j k ++ if plB l i j k = true then [plF l i j k] else [] := rfl
    have b1 : BT 1000000000000 (gt l i) := (hl i).le xE
    have b2 : BT 1000000000000 (gt l j) := (hl j).le xE
    have b3 : BT 1000000000000 (gt l k) := (hl k).le xE
    have s1 : BT 200000 (j0E (gt l i) (gt l k)) := (hl i).sub (hl k)
    have s2 : BT 200000 (j0E (gt l j) (gt l k)) := (hl j).sub (hl k)
    have s3 : BT 80000000000 (tcr (j0E (gt l i) (gt l k)) (j0E (gt l j) (gt l k))) := (s1.cr s2).le xE
    have s4 : BT 80000000000 (plN l i j k) := s3.pr
    have s5 : Bn 1000000000000000000 (plM l i j k) := K0L (q1p s4 (hl k)) xE
    have hf := V1B l (plN l i j k) (plM l i j k) hl xO (s4.le xE) s5
    have q1 := minus_c (gt l i) (gt l k) b1 b3
    have q2 := minus_c (gt l j) (gt l k) b2 b3
    have q3 := q1I (j0E (gt l i) (gt l k)) (j0E (gt l j) (gt l k)) s1 s2 xE
    have q4 := J1Y (tcr (j0E (gt l i) (gt l k)) (j0E (gt l j) (gt l k))) (s3.le xE)
    have q5 := K0U (plN l i j k) (gt l k) s4 (hl k) xE
    refine wt ?_
    refine y0g (q0d rfl rfl (v0W _) rfl rfl) ?_
    refine wt ?_
    refine j0n (j0j (t := 165) (is := []) (xs := []) (vs := []) Z0z rfl rfl) rfl ?_
    refine wt ?_
    have hv : ([(tpr (tcr (j0E (gt l i) (gt l k)) (j0E (gt l j) (gt l k)))).x, (tpr (tcr (j0E (gt l i) (gt l k)) (j0E (gt l j) (gt l k)))).y, (tpr (tcr (j0E (gt l i) (gt l k)) (j0E (gt l j) (gt l k)))).z] == [0, 0, 0]) = decide (plN l i j k = tz) := z1L (plN l i j k)
    have hpb : plB l i j k = (decide (plN l i j k ≠ tz) && X1T l (plN l i j k) (plM l i j k)) := rfl
    rw [hv]
    by_cases hz : plN l i j k = tz
    ·rw [decide_eq_true hz]
     have hB : plB l i j k = false := by rw [hpb, decide_eq_false (fun h => h hz)]; rfl
     rw [if_neg (by rw [hB]; simp), List.append_nil] at e0
     rw [← e0] at S
     refine wt ?_
     exact q0e Y (g := k) (k + 1) S xO xO (ent xS trivial)
    ·rw [decide_eq_false hz]
     rw [decide_eq_true hz, Bool.true_and] at hpb
     rw [← hpb]
     cases hB : plB l i j k with
     |false =>
      rw [if_neg (by rw [hB]; simp), List.append_nil] at e0
      rw [← e0] at S
      refine wt ?_
      exact q0e Y (g := k) (k + 1) S xO xO (ent xS trivial)
     |true =>
      rw [if_pos hB] at e0
      rw [e0, ← List.append_assoc, ← List.append_assoc] at hp
      have hm := w1t hp
      rw [List.append_assoc] at hm
      refine wt ?_
      refine Y0n (v0Z (f := fcf (J1t l (plN l i j k) (plM l i j k))) rfl rfl rfl) rfl rfl rfl ?_
      refine v0e x0I ?_
      refine w0v Y S (τ := fca (plF l i j k)) (by rw [List.getElem?_map, hm]; rfl) (Z1d _) rfl rfl rfl rfl rfl (fun w' Z' S' => ?_)
      have e9 : (pI l i ++ (pJ l i j ++ pK l i j k)).length + 1 = (pI l i ++ (pJ l i j ++ pK l i j (k + 1))).length := by rw [e0]; simp; omega
      rw [e9] at S'
      refine wt ?_
      exact q0e Y (g := k) (k + 1) S' xO xO (ent xS trivial)
   ·have hke : k = j := by omega
    subst hke
    have e1 : pJ l i (k + 1) = pJ l i k ++ pK l i k k := rfl
    rw [← e1] at S
    refine wt ?_
    exact q0e Y (g := k) (k + 1) S xO xO (ent xS trivial)
  ·have hje : j = i := by omega
   subst hje
   have e1 : pI l (j + 1) = pI l j ++ pJ l j j := rfl
   rw [← e1] at S
   refine wt ?_
   exact q0e Y (g := j) (j + 1) S xO xO (ent xS trivial)
 ·have hie : i = l.length := by omega
  subst hie
  have e1 : (pI l l.length).length = ((j0T l).map fca).length := by rw [List.length_map]; rfl
  rw [e1] at S
  refine wt ?_
  exact W0N Y rfl S
abbrev pcl (l : List Tr) : AV := .clo 257 1 (fun i => [lt l].getD i .any)
theorem z1m (l : List Tr) : CtrA Tryz.prog 226 [ts l] (pcl l) := by
 refine j0p _ Tryz.func226 rfl rfl Tryz.ntmps226 rfl fun w Z => ?_
 refine xU ?_
 refine wt ?_
 exact xV
def gf (L : List Fc) (i : Nat) : Fc := L.getD i default
def ff (L : List Fc) : Nat → Nat → AV := fun i j => fcf (gf L i) j
def cellOf (x : Value) (j : Nat) : Value := match x with | .agg cs => cs.toList.getD j undef | _ => undef
def y1c (xs : List Value) : Nat → Nat → AV := fun i j => .val (cellOf (xs.getD i undef) j)
theorem j2o (a b c d e : Value) (w : World) : (Instr.buildSlice 173 1 #[(0, .agg #[a, b, c, d, e])]).run Tryz.prog w = .ok (.slice (some ⟨w.heap.size, 0, none⟩) 1 1) (w.alloc (.cells #[a, b, c, d, e] 179)) := by kernel_rfl
theorem z1u (xs : List Value) (x : Value) : ∀ i, i < xs.length + 1 → ∀ j, j < 5 → v0J xs.length (y1c xs) (y1c [x]) i j = y1c (xs ++ [x]) i j := by
 intro i hi j hj
 unfold v0J y1c
 by_cases h : i < xs.length
 ·rw [if_pos h]; simp [List.getD, List.getElem?_append_left h]
 ·rw [if_neg h]
  have e : i = xs.length := by omega
  subst e
  simp [List.getD]
theorem Q1b {Z : j0q} {w : World} : ∀ (L : List Fc) (xs : List Value), All2 (fun τ v => AV.ok Z w τ v) (L.map fca) xs → ∀ i, i < xs.length → ∀ j, j < 5 → ∀ u, (y1c xs i j).ok Z w u → (ff L i j).ok Z w u
 |[], [], _, i, hi, _, _, _, _ => absurd hi (Nat.not_lt_zero _)
 |f :: L, x :: xs, h, 0, _, j, hj, u, hu => by
  obtain ⟨⟨cs, rfl, h1, h2⟩, _⟩ := h
  obtain ⟨v, hv, hk⟩ := h2 j hj
  obtain rfl : u = cs.getD j undef := hu
  rw [List.getD, hv]
  exact hk
 |f :: L, x :: xs, h, i + 1, hi, j, hj, u, hu => Q1b L xs h.2 i (by simpa using hi) j hj u hu
theorem x0O (l : List Tr) (hn : l.length ≤ 7) : (j0T l).length ≤ 1000 := by
 have hK : ∀ i j k, (pK l i j k).length ≤ k := fun i j k => by
  induction k with
  |zero => exact Nat.le_refl _
  |succ k ih => unfold pK; rw [List.length_append]; split <;> simp <;> omega
 have hJ : ∀ i j, j ≤ 7 → (pJ l i j).length ≤ 7 * j := fun i j hj => by
  induction j with
  |zero => exact Nat.le_refl _
  |succ j ih =>
   have := ih xO
   have := hK i j j
   unfold pJ; rw [List.length_append]; omega
 have hI : ∀ i, i ≤ 7 → (pI l i).length ≤ 49 * i := fun i hi => by
  induction i with
  |zero => exact Nat.le_refl _
  |succ i ih =>
   have := ih xO
   have := hJ i i xO
   unfold pI; rw [List.length_append]; omega
 have := hI l.length hn
 unfold j0T
 omega
theorem Y1k (l : List Tr) (hl : RT l) (hn : l.length ≤ 7) : CtrR Tryz.prog 284 [.val (.slice none 0 0), pcl l] 179 5 (j0T l).length (ff (j0T l)) [] := by
 refine K1D _ Tryz.func284 rfl rfl Tryz.ntmps284 rfl fun w Z => ?_
 have hpl := x0O l hn
 refine xU ?_
 refine y0F ?_
 refine q0C ?_
 refine j0u (v1k 2 rfl rfl rfl) rfl ?_
 refine wt ?_
 refine V1m (k0n (r := 2) (off := 0) 5 179 5 (y1c []) rfl rfl rfl) ?_
 refine J0N rfl rfl (w1q l hl xO) [5, 7, 8, 9, 10, 11] [(2, .own 2 0), (6, .av (pcl l))] (fun pre => [(5, .row 179 5 pre.length (y1c pre)), (2, .cells [.osl 5])]) (fun x => [(5, .av (.ptr 5 (fun j => .val (cellOf x j))))]) (ent xS xT) rfl rfl rfl rfl (fun _ => rfl) ?_ ?_ ?_
 ·rintro lp a0 w0 Z0 keep pre x ⟨cs, rfl, h5, h1⟩
  match cs, h5 with
  |[c0, c1, c2, c3, c4], _ =>
   have hall : [c0, c1, c2, c3, c4].all Value.oneCell' = true := by
    rw [List.all_eq_true]
    intro x hx
    obtain ⟨i, hi, rfl⟩ := List.getElem_of_mem hx
    exact h1 i _ (List.getElem?_eq_getElem hi)
   refine wt ?_
   repeat' (first
     |(refine v0P (q0m (us := [c0, c1, c2, c3, c4]) rfl rfl rfl hall rfl rfl) ?_; refine wt ?_))
   exact Z0q (Ent.trans (v0n 5 10 (fun j => .val (cellOf (.agg #[c0, c1, c2, c3, c4]) j)) rfl rfl rfl) (ent xS xT))
 ·rintro lp a0 w0 Z0 keep pre x ⟨cs, rfl, h5, h1⟩ hlen
  match cs, h5 with
  |[c0, c1, c2, c3, c4], _ =>
   have hpr : pre.length ≤ 1000 := by rw [List.length_map] at hlen; omega
   have hrow : ∀ i, i < 1 → ∀ j, j < 5 → ∃ u, [c0, c1, c2, c3, c4][i * 5 + j]? = some u ∧ y1c [.agg #[c0, c1, c2, c3, c4]] i j = .val u := fun i hi j hj => by
    obtain rfl : i = 0 := by omega
    rcases (by omega : j = 0 ∨ j = 1 ∨ j = 2 ∨ j = 3 ∨ j = 4) with rfl | rfl | rfl | rfl | rfl <;> exact ⟨_, rfl, rfl⟩
   have hone : ∀ i, i < 1 → ∀ j, j < 5 → (y1c [.agg #[c0, c1, c2, c3, c4]] i j).one = true := fun i hi j hj => by
    obtain rfl : i = 0 := by omega
    rcases (by omega : j = 0 ∨ j = 1 ∨ j = 2 ∨ j = 3 ∨ j = 4) with rfl | rfl | rfl | rfl | rfl
    ·exact h1 0 c0 rfl
    ·exact h1 1 c1 rfl
    ·exact h1 2 c2 rfl
    ·exact h1 3 c3 rfl
    ·exact h1 4 c4 rfl
   have hml : pre.length + 1 ≤ maxLen := by simp only [maxLen]; omega
   refine wt ?_
   repeat' (first
     |(refine j0n (j0v (us := [c0, c1, c2, c3, c4]) rfl rfl rfl rfl) rfl ?_; refine wt ?_)
     |(refine j0n (q0c (is := [0]) (xs := [_]) (vs := [_]) (us := [c0, c1, c2, c3, c4]) (j2o _ _ _ _ _) rfl rfl rfl hrow) rfl ?_; refine wt ?_)
     |(refine j0u (v0i (h := y1c [.agg #[c0, c1, c2, c3, c4]]) (m := 1) rfl rfl rfl hone xO hml xO) rfl ?_; refine wt ?_))
   exact Z0s (ent xS ⟨⟨_, rfl, .row (by simp) (fun i hi j hj => z1u _ _ i (by simpa using hi) j hj)⟩, ⟨_, rfl, .refl _⟩, trivial⟩)
 ·intro D w2 xs Z1 ν a hA hR h
  have hxl : xs.length = (j0T l).length := by rw [← hR.len, List.length_map]
  have h2 := h.rerowM (r := 5) (f' := ff (j0T l)) rfl (fun i hi j hj u hu => Q1b _ _ hR i hi j hj u hu)
  refine x1l ⟨_, _, h2⟩ ?_
  refine wt ?_
  exact z0i hA (w0A rfl rfl rfl hxl (fun _ _ _ _ => rfl))
theorem q1D (l : List Tr) (hl : RT l) (hn : l.length ≤ 7) : CtrR Tryz.prog 255 [pcl l] 179 5 (j0T l).length (ff (j0T l)) [] := by
 refine q1M _ Tryz.func255 rfl rfl Tryz.ntmps255 rfl fun w Z => ?_
 have ha := Y1k l hl hn
 refine xU ?_
 refine wt ?_
 repeat' (first
   |(refine j0u (w0D 40 (ha) rfl rfl) rfl ?_; refine wt ?_))
 exact w0A rfl rfl rfl rfl (fun _ _ _ _ => rfl)
end Go.Proofs.YtgblokifbgeegaaGreatDoor.H.S
namespace Go.Proofs.YtgblokifbgeegaaGreatDoor.H.S
open Go Go.Vc Go.RowKit Go.Sort
set_option maxHeartbeats 1000000
theorem Y0I (a b : Int) : Lib.compareInt a b = if a < b then -1 else if b < a then 1 else 0 := rfl
def y0u (a b : Tr) : Prop := a.x < b.x ∨ a.x = b.x ∧ (a.y < b.y ∨ a.y = b.y ∧ a.z < b.z)
instance (a b : Tr) : Decidable (y0u a b) := by unfold y0u; infer_instance
theorem q1A (a b : Tr) : y1a a b < 0 ↔ y0u a b := by
 unfold y1a y0u
 rw [Y0I a.x, Y0I a.y, Y0I a.z]
 repeat' split
 all_goals omega
abbrev Raw := Tr × Int × Option Addr × Nat × Nat
def k0m (x : Raw) : List Value := J0U x.1 x.2.1 x.2.2.1 x.2.2.2.1 x.2.2.2.2
def cfR (x y : Raw) : Int := y1a x.1 y.1
theorem ltR (x y : Raw) : ltOf cfR x y = decide (y0u x.1 y.1) := by
 unfold ltOf cfR
 rw [Bool.eq_iff_iff, decide_eq_true_eq, decide_eq_true_eq]
 exact q1A _ _
theorem q2y : SWO (ltOf cfR) := ⟨fun x => by rw [ltR]; simp [y0u], fun x y z h1 h2 => by rw [ltR, decide_eq_true_eq] at *; unfold y0u at *; omega, fun x y z h1 h2 => by rw [ltR, decide_eq_false_iff_not] at *; unfold y0u at *; omega⟩
def leF (a b : Fc) : Bool := !decide (y0u b.n a.n)
def J0c (L : List Fc) : List Fc := L.mergeSort leF
theorem J1E : ∀ a b c : Fc, leF a b = true → leF b c = true → leF a c = true := fun a b c h1 h2 => by
 unfold leF at *
 rw [Bool.not_eq_true', decide_eq_false_iff_not] at *
 unfold y0u at *
 omega
theorem J1D : ∀ a b : Fc, (leF a b || leF b a) = true := fun a b => by
 unfold leF
 rw [Bool.or_eq_true, Bool.not_eq_true', Bool.not_eq_true', decide_eq_false_iff_not, decide_eq_false_iff_not]
 unfold y0u
 omega
theorem q0T {a b : Tr} (h1 : a.x = b.x) (h2 : a.y = b.y) (h3 : a.z = b.z) : a = b := by cases a; cases b; simp at *; exact ⟨h1, h2, h3⟩
theorem z1B {L L' : List Fc} (hu : ∀ f ∈ L, ∀ g ∈ L, f.n = g.n → f = g) (hp : L'.Perm L) (hs : L'.Pairwise (fun a b => leF a b = true)) : L' = J0c L := by
 refine List.Perm.eq_of_pairwise (le := fun a b => leF a b = true) (fun a b ha hb h1 h2 => ?_) hs (List.pairwise_mergeSort J1E J1D L) (hp.trans (List.mergeSort_perm L _).symm)
 refine hu a (hp.mem_iff.1 ha) b ((List.mergeSort_perm L _).mem_iff.1 hb) ?_
 unfold leF at h1 h2
 rw [Bool.not_eq_true', decide_eq_false_iff_not] at h1 h2
 unfold y0u at h1 h2
 exact q0T xO xO xO
theorem j1Z {α β : Type} {R : α → β → Prop} {xs ys : List β} (h : xs.Perm ys) : ∀ {L : List α}, All2 R L xs → ∃ L', L'.Perm L ∧ All2 R L' ys := by
 induction h with
 |nil => intro L hL; exact ⟨L, List.Perm.refl _, hL⟩
 |cons x _ ih =>
  intro L hL
  match L, hL with
  |a :: L, hL =>
   obtain ⟨L', h1, h2⟩ := ih hL.2
   exact ⟨a :: L', h1.cons a, hL.1, h2⟩
 |swap x y l =>
  intro L hL
  match L, hL with
  |a :: b :: L, hL => exact ⟨b :: a :: L, List.Perm.swap _ _ _, hL.2.1, hL.1, hL.2.2⟩
 |trans _ _ ih1 ih2 =>
  intro L hL
  obtain ⟨L1, p1, h1⟩ := ih1 hL
  obtain ⟨L2, p2, h2⟩ := ih2 h1
  exact ⟨L2, p2.trans p1, h2⟩
theorem J0f {α β : Type} {R : α → β → Prop} : ∀ {L : List α} {xs : List β} {i : Nat} {a : α} {x : β}, All2 R L xs → L[i]? = some a → xs[i]? = some x → R a x
 |_ :: _, _ :: _, 0, _, _, h, h1, h2 => by simp at h1 h2; subst h1 h2; exact h.1
 |_ :: _, _ :: _, i + 1, _, _, h, h1, h2 => J0f (i := i) h.2 (by simpa using h1) (by simpa using h2)
def RF (Z : j0q) (w : World) (f : Fc) (x : Raw) : Prop := x.1 = f.n ∧ x.2.1 = f.m ∧ AV.ok Z w (.sl f.s.length 1 (xf f.s)) (.slice x.2.2.1 x.2.2.2.1 x.2.2.2.2)
theorem isAgg46 (w : World) : (isAgg 179).run Tryz.prog w = .ok true w := by kernel_rfl
theorem k1o (w : World) : (Go.sizeOf 179).run Tryz.prog w = .ok 5 w := by kernel_rfl
theorem v1d (x : Raw) (f : Fc) {Z : j0q} {w : World} (h : RF Z w f x) : ∀ j, j < 5 → (fcf f j).ok Z w ((k0m x)[j]!) := by
 obtain ⟨h1, h2, h3⟩ := h
 intro j hj
 rcases (by omega : j = 0 ∨ j = 1 ∨ j = 2 ∨ j = 3 ∨ j = 4) with rfl | rfl | rfl | rfl | rfl
 ·show Value.int .i64 x.1.x = .int .i64 f.n.x; rw [h1]
 ·show Value.int .i64 x.1.y = .int .i64 f.n.y; rw [h1]
 ·show Value.int .i64 x.1.z = .int .i64 f.n.z; rw [h1]
 ·show Value.int .i64 x.2.1 = .int .i64 f.m; rw [h2]
 ·exact h3
theorem W1J {Z : j0q} {w : World} {arr : Array Value} {L : List Fc} (h : ∀ i, i < L.length → ∀ j, j < 5 → ∃ u, arr[i * 5 + j]? = some u ∧ (ff L i j).ok Z w u) :
  ∃ xs : List Raw, All2 (RF Z w) L xs ∧ ∀ i x, xs[i]? = some x → ∀ j, j < 5 → arr[i * 5 + j]? = some ((k0m x)[j]!) := by
 have key : ∀ (n : Nat) (L : List Fc) (o : Nat), L.length = n → (∀ i, i < L.length → ∀ j, j < 5 → ∃ u, arr[o + i * 5 + j]? = some u ∧ (ff L i j).ok Z w u) →
   ∃ xs : List Raw, All2 (RF Z w) L xs ∧ ∀ i x, xs[i]? = some x → ∀ j, j < 5 → arr[o + i * 5 + j]? = some ((k0m x)[j]!) := by
  intro n
  induction n with
  |zero => intro L o hn _; rw [List.length_eq_zero_iff.1 hn]; exact ⟨[], trivial, fun i x hx => by simp at hx⟩
  |succ n ih =>
   intro L o hn hL
   match L, hn with
   |f :: L, hn =>
    obtain ⟨xs, a1, a2⟩ := ih L (o + 5) (by simpa using hn) (fun i hi j hj => by
     have := hL (i + 1) (by simpa using hi) j hj
     rw [show o + (i + 1) * 5 + j = o + 5 + i * 5 + j from by omega] at this
     exact this)
    obtain ⟨u0, b0, k0⟩ := hL 0 (by simp) 0 (by omega)
    obtain ⟨u1, b1, k1⟩ := hL 0 (by simp) 1 (by omega)
    obtain ⟨u2, b2, k2⟩ := hL 0 (by simp) 2 (by omega)
    obtain ⟨u3, b3, k3⟩ := hL 0 (by simp) 3 (by omega)
    obtain ⟨u4, b4, k4⟩ := hL 0 (by simp) 4 (by omega)
    have k4' := k4
    obtain ⟨p, c, rfl, _⟩ := k4'
    obtain rfl : u0 = .int .i64 f.n.x := k0
    obtain rfl : u1 = .int .i64 f.n.y := k1
    obtain rfl : u2 = .int .i64 f.n.z := k2
    obtain rfl : u3 = .int .i64 f.m := k3
    refine ⟨(f.n, f.m, p, f.s.length, c) :: xs, ⟨⟨rfl, rfl, k4⟩, a1⟩, fun i x hx j hj => ?_⟩
    cases i with
    |zero =>
     simp only [List.getElem?_cons_zero, Option.some.injEq] at hx
     subst hx
     rcases (by omega : j = 0 ∨ j = 1 ∨ j = 2 ∨ j = 3 ∨ j = 4) with rfl | rfl | rfl | rfl | rfl
     ·exact b0
     ·exact b1
     ·exact b2
     ·exact b3
     ·exact b4
    |succ i =>
     have := a2 i x (by simpa using hx) j hj
     rw [show o + (i + 1) * 5 + j = o + 5 + i * 5 + j from by omega]
     exact this
 obtain ⟨xs, a1, a2⟩ := key L.length L 0 rfl (fun i hi j hj => by rw [Nat.zero_add]; exact h i hi j hj)
 exact ⟨xs, a1, fun i x hx j hj => by have := a2 i x hx j hj; rwa [Nat.zero_add] at this⟩
theorem J0G {α β : Type} {R : α → β → Prop} {L : List α} {xs : List β} (h : All2 R L xs) : L.length = xs.length := by
 have := h.len
 omega
theorem lk5 {i j n : Nat} (hi : i < n) (hj : j < 5) : i * 5 + j < n * 5 := by omega
theorem W1V (L : List Fc) (hu : ∀ f ∈ L, ∀ g ∈ L, f.n = g.n → f = g) (hn : L.length ≤ 1000000) : CtrW Tryz.prog 256 [.val (.func (.func 227) #[] #[])] 179 5 L.length (ff L) L.length (ff (J0c L)) false := by
 refine ⟨w0W Tryz.func256 rfl rfl, fun w Z v vs hZ hvs hrow => ?_⟩
 match vs, hvs with
 |[fv], ⟨h1, _⟩ =>
  obtain rfl : fv = .func (.func 227) #[] #[] := h1
  by_cases h0 : L.length = 0
  ·have hl : L = [] := List.eq_nil_of_length_eq_zero h0
   subst hl
   have hv : ∃ p cap, v = .slice p 0 cap := by
    rcases hrow with ⟨e, _⟩ | ⟨b, cap, arr, e, _⟩
    ·exact ⟨none, 0, e⟩
    ·exact ⟨_, cap, e⟩
   obtain ⟨p, cap, rfl⟩ := hv
   refine (show Calls Tryz.prog 256 #[.slice p 0 cap, .func (.func 227) #[] #[]] w _ from AnyF.slices_SortFunc_none Tryz.laysSlF06_f246 p cap (.func (.func 227) #[] #[]) w).mono ?_
   rintro e w' ⟨rfl, rfl⟩
   exact ⟨_, _, Z, rfl, rfl, ⟨rfl, rfl, rfl, Nat.le_refl _, fun _ _ _ => rfl⟩, fun _ h => h, fun _ h => .inl h, hZ.1, fun b hb => .inl hb, by
    rcases hrow with ⟨e, _⟩ | ⟨b, cap, arr, e, h2, h3, h4, h5, h6, h7⟩
    ·exact .inl ⟨e, rfl⟩
    ·exact .inr ⟨b, cap, arr, e, h2, h3, h4, h5, h6, fun i hi => by simp at hi⟩⟩
  ·rcases hrow with ⟨_, e⟩ | ⟨b, cap, arr, rfl, h2, h3, h4, h5, h6, h7⟩
   ·exact absurd e h0
   ·have hb := (Array.getElem?_eq_some_iff.1 h3).1
    obtain ⟨xs, hx, hcell⟩ := W1J h7
    have hxl := J0G hx
    have hH : HoldsK k0m 5 w b 0 xs.toArray := by
     intro t ht
     have ht' : t < xs.length * 5 := by simpa using ht
     refine ⟨?_, by simp [World.frozen?, h3]⟩
     have hq : t = t / 5 * 5 + t % 5 := by omega
     have htl : t / 5 < xs.length := by omega
     have hc := hcell (t / 5) xs[t / 5] (List.getElem?_eq_getElem htl) (t % 5) (Nat.mod_lt _ xO)
     rw [get_flatK _ _ _ t (by simpa using ht'), Nat.zero_add]
     simp only [World.cell?, h3]
     rw [← hq] at hc
     have e : xs.toArray[t / 5]! = xs[t / 5] := by
      rw [getElem!_pos xs.toArray (t / 5) (by simp; omega)]
      simp
     rw [e]
     simpa using hc
    have hcmp : CmpLays Tryz.prog 227 #[] k0m 5 cfR b 0 xs.toArray.size w := fun m os dk _ x y =>
     (V1j x.1 y.1 x.2.1 y.2.1 x.2.2.1 y.2.2.1 x.2.2.2.1 x.2.2.2.2 y.2.2.2.1 y.2.2.2.2 _).mono fun e w' ⟨he, q, hw⟩ => ⟨he, q, _, hw⟩
    have hrun := AnyQ.slices_SortFunc (α := Raw) Tryz.laysSlF06_f246 5 isAgg46 k1o k0m (fun _ => rfl) (fun x v hv => by
     simp only [k0m, J0U, List.mem_cons, List.not_mem_nil, or_false] at hv
     rcases hv with rfl | rfl | rfl | rfl | rfl <;> rfl) cfR q2y 227 #[] b 0 cap xs.toArray w (w0W Tryz.func227 rfl rfl) hcmp hH hb (by simp; omega)
    rw [List.size_toArray] at hrun
    have hrun2 : Calls Tryz.prog 256 #[.slice (some ⟨b, 0, none⟩) L.length cap, .func (.func 227) #[] #[]] w fun e w' => e = .returned (.tuple #[]) ∧ ∃ d' n os, PermIn 0 xs.length xs.toArray d' ∧ SortedIn (ltOf cfR) 0 xs.length d' ∧ w' = sortWorldK k0m 5 w b 0 n d' os := by
     rw [hxl]
     exact hrun
    refine Calls.mono hrun2 ?_
    rintro e w' ⟨rfl, d', n, os, hp, hs, rfl⟩
    have hsz : d'.size = xs.length := by have := hp.1; simpa using this
    have hperm : d'.toList.Perm xs := by
     have := hp.2.2
     simp [hsz] at this
     rwa [List.take_of_length_le (by simp [hsz])] at this
    obtain ⟨L', hL1, hL2⟩ := j1Z hperm.symm hx
    have hL3 : L'.Pairwise (fun a b => leF a b = true) := by
     rw [List.pairwise_iff_getElem]
     intro i j hi hj hij
     have hl2 := J0G hL2
     have hjd : j < d'.size := by simp at hl2; omega
     have h := hs i j (Nat.zero_le _) hij (by rw [← hsz]; exact hjd)
     rw [getElem!_pos d' j hjd, getElem!_pos d' i (by omega), ltR, decide_eq_false_iff_not] at h
     have r1 := (J0f hL2 (List.getElem?_eq_getElem hi) (List.getElem?_eq_getElem (by simp at hl2 ⊢; omega))).1
     have r2 := (J0f hL2 (List.getElem?_eq_getElem hj) (List.getElem?_eq_getElem (by simp at hl2 ⊢; omega))).1
     simp only [Array.getElem_toList] at r1 r2
     rw [r1, r2] at h
     unfold leF
     rw [Bool.not_eq_true', decide_eq_false_iff_not]
     exact h
    have hd' := z1B hu hL1 hL3
    subst hd'
    have hheap : (sortWorldK k0m 5 w b 0 n d' os).heap[b]? = some (.cells (putCells id 0 (flatK k0m 5 d') arr) 179 (0, 0)) := by
     unfold sortWorldK putRowK
     rw [heap_grow_old _ _ (by simpa [putRow, mapBlock, Sort.ahead] using hb)]
     simp [putRow, mapBlock, Sort.ahead, Array.getElem?_modify, h3, onCells]
    have hgr : w.grownBy (sortWorldK k0m 5 w b 0 n d' os) (some b) := by
     unfold sortWorldK putRowK
     refine ⟨rfl, rfl, rfl, by simp, fun k hk hne => ?_⟩
     rw [heap_grow_old _ _ (by simpa using hk)]
     have : b ≠ k := fun e => hne (by rw [e])
     simp [putRow, mapBlock, Sort.ahead, Array.getElem?_modify, this]
    refine ⟨_, _, Z, rfl, rfl, hgr, fun _ h => h, fun _ h => .inl h, fun k hk => Nat.lt_of_lt_of_le (hZ.1 k hk) hgr.size, fun b hb => .inl hb, .inr ⟨b, cap, _, rfl, h2, hheap, h4, h5, by simp [putCells, h6], fun i hi j hj => ?_⟩⟩
    have hlt := lk5 hi hj
    have hal : i * 5 + j < arr.size := by rw [h6]; have := lk5 (Nat.lt_of_lt_of_le hi h4) hj; exact this
    have hl2 := J0G hL2
    have hid : i < d'.size := by simp at hl2; have := hL1.length_eq; omega
    have hiL : i < (J0c L).length := by have := hL1.length_eq; omega
    have hRF := J0f hL2 (List.getElem?_eq_getElem hiL) (List.getElem?_eq_getElem (by simpa using hid))
    have hgf : (J0c L)[i] = gf (J0c L) i := by unfold gf; simp [List.getD, hiL]
    rw [hgf, Array.getElem_toList] at hRF
    have hRF2 : RF Z (sortWorldK k0m 5 w b 0 n d' os) (gf (J0c L) i) d'[i] := ⟨hRF.1, hRF.2.1, AV.ok_mono (fun _ q => q) hgr.size (fun k q hk => hgr.block k hk (fun e => by cases e; exact h2 q)) _ _ hRF.2.2⟩
    refine ⟨(k0m d'[i])[j]!, ?_, v1d _ _ hRF2 j hj⟩
    have hf := get_flatK k0m 5 d' (i * 5 + j) xO
    have e1 : (i * 5 + j) / 5 = i := by omega
    have e2 : (i * 5 + j) % 5 = j := by omega
    rw [e1, e2, getElem!_pos d' i hid] at hf
    simp only [putCells]
    rw [Array.getElem?_mapIdx, Array.getElem?_eq_getElem hal]
    simp only [Option.map_some]
    rw [if_pos ⟨Nat.zero_le _, by simp; omega⟩]
    simpa using hf
end Go.Proofs.YtgblokifbgeegaaGreatDoor.H.S
namespace Go.Proofs.YtgblokifbgeegaaGreatDoor.H.S
open Go Go.Vc Go.RowKit
set_option maxHeartbeats 4000000
theorem K1V (a b : Tr) : ([a.x, a.y, a.z] == [b.x, b.y, b.z]) = decide (a = b) := by
 cases a; cases b; rw [Bool.eq_iff_iff]; simp
theorem Y1Y (a b : Fc) : CtrA Tryz.prog 229 [fca a, fca b] (vb (decide (a.n = b.n))) := by
 refine j0p _ Tryz.func229 rfl rfl Tryz.ntmps229 rfl fun w Z => ?_
 refine xU ?_
 refine wt ?_
 exact j0e rfl (.tmp rfl) (congrArg vb (K1V _ _))
abbrev eqv : AV := .val (.func (.func 229) #[] #[])
def x0V (L : List Fc) (i : Nat) : Bool := decide (i = 0) || decide ((gf L i).n ≠ (gf L (i - 1)).n)
def q0L (L : List Fc) (m : Nat) : List Fc := ((List.range m).filter (x0V L)).map (gf L)
def q1G (L : List Fc) : List Fc := q0L L L.length
theorem w0V (L : List Fc) (m : Nat) : q0L L (m + 1) = if x0V L m = true then q0L L m ++ [gf L m] else q0L L m := by
 simp only [q0L, List.range_succ, List.filter_append, List.map_append]
 split <;> rename_i h <;> simp [List.filter, h]
theorem K0Q (L : List Fc) (m : Nat) : (q0L L m).length ≤ m := by
 have := List.length_filter_le (x0V L) (List.range m)
 simpa [q0L] using this
theorem j1k {L : List Fc} {i : Nat} (h : i < L.length) : gf L i = L[i] := by simp [gf, h]
theorem y0Y {L : List Fc} {i : Nat} (h : i < L.length) : gf L i ∈ L := by rw [j1k h]; exact List.getElem_mem h
theorem V1J (L : List Fc) (m k : Nat) : gf (L.take m) k = if k < m then gf L k else default := by
 simp only [gf, List.getD, List.getElem?_take]
 split <;> rfl
theorem x0F (L : List Fc) : ∀ (m : Nat), m ≤ L.length → (∀ i, i < m → x0V L i = true) → q0L L m = L.take m
 |0, _, _ => rfl
 |m + 1, hm, h => by
  rw [w0V, if_pos (h m (by omega)), x0F L m (by omega) (fun i hi => h i (by omega)), List.take_succ_eq_append_getElem (by omega), j1k (by omega)]
theorem V0b {L : List Fc} (h : L.length < 2) : q1G L = L := by
 rw [q1G, x0F L _ (Nat.le_refl _) (fun i hi => by simp [x0V, show i = 0 by omega]), List.take_length]
theorem v1w (L : List Fc) (i : Nat) (x : Fc) (k : Nat) : gf (L.set i x) k = if i = k ∧ k < L.length then x else gf L k := by
 simp only [gf, List.getD, List.getElem?_set]
 by_cases h : i = k
 ·subst h
  by_cases h2 : i < L.length
  ·simp [h2]
  ·simp [h2]
 ·simp [h]
theorem Z1j (L : List Fc) (x : Fc) (k : Nat) : gf (L ++ [x]) k = if k < L.length then gf L k else if k = L.length then x else default := by
 simp only [gf]
 by_cases h : k < L.length
 ·simp [List.getD, List.getElem?_append_left h, h]
 ·by_cases h2 : k = L.length
  ·subst h2; simp [List.getD]
  ·rw [if_neg h, if_neg h2, List.getD, List.getElem?_eq_none (by simp; omega)]; rfl
theorem W1g {p : Nat → Bool} {n : Nat} (h : ∀ k, k < n → p k = true) (hn : p n = true) : ∀ k, k < n + 1 → p k = true := fun k hk => by
 by_cases e : k = n
 ·subst e; exact hn
 ·exact h k xO
theorem zvF (w : World) : (zeroValue 179).run Tryz.prog w = .ok (.agg [.int .i64 0, .int .i64 0, .int .i64 0, .int .i64 0, .slice none 0 0].toArray) w := by kernel_rfl
theorem X1M : ∀ v ∈ ([.int .i64 0, .int .i64 0, .int .i64 0, .int .i64 0, .slice none 0 0] : List Value), v.oneCell' = true := fun v hv => by
 simp only [List.mem_cons, List.not_mem_nil, or_false] at hv
 rcases hv with rfl | rfl | rfl | rfl | rfl <;> rfl
theorem Z1f {u : List Fc} {k : Nat} {x : Fc} (hk : k < u.length) : ∀ i, i < u.length → ∀ j, j < 5 → v0f (ff u) k 0 ((List.range 5).map (fcf x)) i j = ff (u.set k x) i j := by
 intro i hi j hj
 unfold v0f ff
 rw [v1w]
 by_cases h : i = k
 ·subst h
  rw [if_pos ⟨rfl, Nat.zero_le _, by simpa using hj⟩, if_pos ⟨rfl, hk⟩]
  rcases (by omega : j = 0 ∨ j = 1 ∨ j = 2 ∨ j = 3 ∨ j = 4) with rfl | rfl | rfl | rfl | rfl <;> rfl
 ·rw [if_neg (fun e => h e.1), if_neg (fun e => h e.1.symm)]
theorem K0P (v : List Fc) (hn : v.length ≤ 1000) :
  CtrW Tryz.prog 228 [eqv] 179 5 v.length (ff v) (q1G v).length (ff (q1G v)) true := by
 refine X1P _ Tryz.func228 rfl rfl Tryz.ntmps228 rfl fun w Z v0 => ?_
 refine xU ?_
 refine wt ?_
 (refine j0a rfl ?_ ?_ <;> intro hb <;> (try simp only [xA, xB, xG, xC, xD, xN] at hb) <;> (try exact xQ))
 ·refine wt ?_
  exact x0S rfl rfl rfl (by rw [V0b (by omega)]) (fun _ _ _ _ => by rw [V0b (by omega)])
 ·refine wt ?_
  refine j0f (γ := Nat) (fun k => [(0, .osl 0), (1, .av eqv), (5, .av (vi k))]) (fun _ => [(0, .row 179 5 v.length (ff v))]) (fun k => 1 ≤ k ∧ k ≤ v.length ∧ ∀ i, i < k → x0V v i = true) (fun k => v.length - k) 1 ⟨by omega, by omega, fun i hi => by simp [x0V, show i = 0 by omega]⟩ (ent ⟨.refl _, .refl _, .int rfl, trivial⟩ xT) ?_
  rintro k ⟨hk1, hkn, hall⟩
  obtain ⟨k', rfl⟩ : ∃ k', k = k' + 1 := ⟨k - 1, by omega⟩
  refine wt ?_
  (refine j0a rfl ?_ ?_ <;> intro hb <;> (try simp only [xA, xB, xG, xC, xD, xN] at hb) <;> (try exact xQ))
  ·have hq := Y1Y (gf v (k' + 1)) (gf v k')
   refine wt ?_
   refine v0x (q0t rfl rfl xO) rfl ?_
   refine wt ?_
   refine v0x (q0t rfl rfl xO) rfl ?_
   have e0 : (((k' + 1 : Nat) : Int) - 1).toNat = k' := by omega
   rw [e0]
   refine wt ?_
   (refine j0a rfl ?_ ?_ <;> intro hb <;> (try simp only [xA, xB, xG, xC, xD, xN] at hb) <;> (try exact xQ))
   ·have hK : x0V v (k' + 1) = false := by simp [x0V, hb]
    have h1 : q0L v (k' + 1 + 1) = v.take (k' + 1) := by
     rw [w0V, hK, if_neg (by simp), x0F v _ (by omega) hall]
    refine wt ?_
    refine j0f (γ := List Fc × Nat) (fun g => [(0, .osl 0), (1, .av eqv), (5, .av (vi (q0L v (k' + 1 + g.2)).length)), (6, .osx 0 5 (k' + 1) (v.length - (k' + 1))), (7, .av (vi g.2))]) (fun g => [(0, .row 179 5 v.length (ff g.1))])
     (fun g => 1 ≤ g.2 ∧ g.2 ≤ v.length - (k' + 1) ∧ g.1.length = v.length ∧ (q0L v (k' + 1 + g.2)).length ≤ k' + g.2 ∧ (∀ i, i < (q0L v (k' + 1 + g.2)).length → gf g.1 i = gf (q0L v (k' + 1 + g.2)) i) ∧ ∀ i, k' + g.2 ≤ i → gf g.1 i = gf v i) (fun g => v.length - g.2) (v, 1)
     ⟨by simp, by simp; omega, rfl, by simp only [h1]; simp; omega, fun i hi => by simp only [h1] at hi ⊢; rw [V1J]; simp at hi; rw [if_pos (by omega)], fun i hi => rfl⟩ (ent ⟨.refl _, .refl _, .int (by simp only [h1]; simp; omega), .refl _, .refl _, trivial⟩ xT) ?_
    rintro ⟨u, m⟩ ⟨hm1, hmn, hul, hcl, hu1, hu2⟩
    simp only at hm1 hmn hul hcl hu1 hu2
    obtain ⟨m', rfl⟩ : ∃ m', m = m' + 1 := ⟨m - 1, by omega⟩
    dsimp only
    refine wt ?_
    (refine j0a rfl ?_ ?_ <;> intro hb <;> (try simp only [xA, xB, xG, xC, xD, xN] at hb) <;> (try exact xQ))
    ·have e1 : gf u (k' + 1 + (m' + 1)) = gf v (k' + 1 + (m' + 1)) := hu2 _ xO
     have e2 : gf u (k' + 1 + m') = gf v (k' + 1 + m') := hu2 _ xO
     have e3 : k' + 1 + (m' + 1) - 1 = k' + 1 + m' := by omega
     have hS := w0V v (k' + 1 + (m' + 1))
     have hq := Y1Y (gf u (k' + 1 + (m' + 1))) (gf u (k' + 1 + m'))
     refine wt ?_
     refine v0x (q0t rfl rfl xO) rfl ?_
     refine wt ?_
     refine v0x (q0s (k := m') rfl rfl xO xO) rfl ?_
     refine wt ?_
     refine v0x (q0t rfl rfl xO) rfl ?_
     refine wt ?_
     (refine j0a rfl ?_ ?_ <;> intro hb <;> (try simp only [xA, xB, xG, xC, xD, xN] at hb) <;> (try exact xQ))
     ·have hP : x0V v (k' + 1 + (m' + 1)) = true := by
       simp only [x0V, e3]; rw [← e1, ← e2]; simp [hb]
      rw [hP, if_pos rfl] at hS
      refine wt ?_
      refine j0n (q0t rfl rfl xO) rfl ?_
      refine wt ?_
      refine v0P (z0Z rfl rfl (v0W _) rfl xO) ?_
      refine wt ?_
      refine j0c (g := (u, m' + 1)) (u.set (q0L v (k' + 1 + (m' + 1))).length (gf u (k' + 1 + (m' + 1))), m' + 1 + 1) ⟨by simp, by simp; omega, by simp [hul], ?_, ?_, ?_⟩ (by simp; omega) (ent ⟨.refl _, .refl _, .int (by simp only; rw [show k' + 1 + (m' + 1 + 1) = k' + 1 + (m' + 1) + 1 from by omega, hS]; simp), .refl _, .int (by simp), trivial⟩ ⟨⟨_, rfl, .row rfl (fun i hi j hj => Z1f (by omega) i (by omega) j hj)⟩, trivial⟩)
      ·simp only; rw [show k' + 1 + (m' + 1 + 1) = k' + 1 + (m' + 1) + 1 from by omega, hS]; simp; omega
      ·simp only; rw [show k' + 1 + (m' + 1 + 1) = k' + 1 + (m' + 1) + 1 from by omega, hS]
       intro i hi
       rw [v1w, Z1j]
       simp only [List.length_append, List.length_singleton] at hi
       by_cases h : i = (q0L v (k' + 1 + (m' + 1))).length
       ·rw [if_pos ⟨h.symm, by omega⟩, if_neg (by omega), if_pos h, e1]
       ·rw [if_neg (fun e => h e.1.symm), if_pos (by omega)]; exact hu1 i (by omega)
      ·simp only
       intro i hi
       rw [v1w, if_neg (fun e => by omega)]
       exact hu2 i xO
     ·have hP : x0V v (k' + 1 + (m' + 1)) = false := by
       simp only [x0V, e3]; rw [← e1, ← e2]; simp [hb]
      rw [hP, if_neg (by simp)] at hS
      refine wt ?_
      refine j0c (g := (u, m' + 1)) (u, m' + 1 + 1) ⟨by simp, by simp; omega, hul, ?_, ?_, ?_⟩ (by simp; omega) (ent ⟨.refl _, .refl _, .int (by simp only; rw [show k' + 1 + (m' + 1 + 1) = k' + 1 + (m' + 1) + 1 from by omega, hS]), .refl _, .int (by simp), trivial⟩ xT)
      ·simp only; rw [show k' + 1 + (m' + 1 + 1) = k' + 1 + (m' + 1) + 1 from by omega, hS]; omega
      ·simp only; rw [show k' + 1 + (m' + 1 + 1) = k' + 1 + (m' + 1) + 1 from by omega, hS]; exact hu1
      ·simp only; exact fun i hi => hu2 i (by omega)
    ·have hE : k' + 1 + (m' + 1) = v.length := by omega
     have hcE : q0L v (k' + 1 + (m' + 1)) = q1G v := by rw [hE]; rfl
     refine wt ?_
     refine v0P (y1S (lo := (q0L v (k' + 1 + (m' + 1))).length) zvF rfl rfl xE X1M rfl rfl) ?_
     refine wt ?_
     refine x0S rfl rfl rfl (by rw [hcE]) (fun i hi j hj => ?_)
     simp only [Y0g]
     rw [if_neg (by omega)]
     simp only [ff]
     rw [hu1 i (by omega), hcE]
   ·refine wt ?_
    exact j0c (k' + 1 + 1) ⟨by omega, by omega, W1g hall (by simp [x0V, hb])⟩ (by omega) (ent ⟨.refl _, .refl _, .int (by simp), trivial⟩ xT)
  ·refine wt ?_
   have e : q1G v = v := by rw [q1G, x0F v _ (Nat.le_refl _) (fun i hi => hall i (by omega)), List.take_length]
   exact x0S rfl rfl rfl (by rw [e]) (fun _ _ _ _ => by rw [e])
structure IsF (l : List Tr) (f : Fc) : Prop where
 le : ∀ i, i < l.length → j0b f.n (gt l i) ≤ f.m
 s : f.s = Q0w l f.n f.m l.length
 at_ : ∃ k, k < l.length ∧ j0b f.n (gt l k) = f.m
theorem j0z (n p : Tr) : j0b (j0P n (-1)) p = -j0b n p := by
 simp only [j0b, j0P]
 rw [show (-1 * n.x) * p.x = -(n.x * p.x) from by rw [Int.neg_mul, Int.one_mul, Int.neg_mul], show (-1 * n.y) * p.y = -(n.y * p.y) from by rw [Int.neg_mul, Int.one_mul, Int.neg_mul], show (-1 * n.z) * p.z = -(n.z * p.z) from by rw [Int.neg_mul, Int.one_mul, Int.neg_mul]]
 omega
theorem Y1g {p : Nat → Bool} {n : Nat} (h : (List.range n).any p = false) : ∀ i, i < n → p i = false := fun i hi => by
 have := List.any_eq_false.1 h i (List.mem_range.2 hi)
 simpa using this
theorem k0U (l : List Tr) (n : Tr) (m : Int) (k : Nat) : Q0w l (j0P n (-1)) (-m) k = Q0w l n m k := by
 unfold Q0w
 refine List.filter_congr fun i _ => ?_
 rw [j0z]
 by_cases h : j0b n (gt l i) = m
 ·simp [h]
 ·rw [decide_eq_false h, decide_eq_false (by omega)]
theorem W1u {l : List Tr} {i j k : Nat} (hk : k < l.length) (h : plB l i j k = true) : IsF l (plF l i j k) := by
 unfold plB at h
 rw [Bool.and_eq_true] at h
 have hB := h.2
 have hm : j0b (plN l i j k) (gt l k) = plM l i j k := rfl
 unfold plF J1t
 unfold X1T at hB
 generalize plN l i j k = n at *
 generalize plM l i j k = m at *
 by_cases ha : y0w l n m l.length = true
 ·rw [if_pos ha]
  rw [ha] at hB
  have hlt : Q0T l n m l.length = false := by simpa using hB
  refine ⟨fun i hi => ?_, (k0U l n m _).symm, k, hk, ?_⟩
  ·have := Y1g hlt i hi
   rw [decide_eq_false_iff_not] at this
   dsimp only
   rw [j0z]; omega
  ·dsimp only
   rw [j0z, hm]
 ·rw [if_neg ha]
  have hgt : y0w l n m l.length = false := by simpa using ha
  refine ⟨fun i hi => ?_, rfl, k, hk, hm⟩
  have := Y1g hgt i hi
  rw [decide_eq_false_iff_not] at this
  dsimp only
  omega
theorem J1O {l : List Tr} {i j : Nat} {f : Fc} : ∀ {k}, f ∈ pK l i j k → ∃ k', k' < k ∧ plB l i j k' = true ∧ f = plF l i j k'
 |0, h => by cases h
 |k + 1, h => by
  unfold pK at h
  rcases List.mem_append.1 h with h | h
  ·obtain ⟨k', h1, h2, h3⟩ := J1O h
   exact ⟨k', by omega, h2, h3⟩
  ·split at h
   ·rename_i hb
    exact ⟨k, by omega, hb, List.mem_singleton.1 h⟩
   ·cases h
theorem J1N {l : List Tr} {i : Nat} {f : Fc} : ∀ {j}, f ∈ pJ l i j → ∃ j' k', j' < j ∧ k' < j' ∧ plB l i j' k' = true ∧ f = plF l i j' k'
 |0, h => by cases h
 |j + 1, h => by
  unfold pJ at h
  rcases List.mem_append.1 h with h | h
  ·obtain ⟨j', k', h1, h2, h3⟩ := J1N h
   exact ⟨j', k', by omega, h2, h3⟩
  ·obtain ⟨k', h1, h2, h3⟩ := J1O h
   exact ⟨j, k', by omega, h1, h2, h3⟩
theorem k0Q {l : List Tr} {f : Fc} : ∀ {i}, f ∈ pI l i → ∃ i' j' k', i' < i ∧ j' < i' ∧ k' < j' ∧ plB l i' j' k' = true ∧ f = plF l i' j' k'
 |0, h => by cases h
 |i + 1, h => by
  unfold pI at h
  rcases List.mem_append.1 h with h | h
  ·obtain ⟨i', j', k', h1, h2⟩ := k0Q h
   exact ⟨i', j', k', by omega, h2⟩
  ·obtain ⟨j', k', h1, h2, h3, h4⟩ := J1N h
   exact ⟨i, j', k', by omega, h1, h2, h3, h4⟩
theorem q0S {l : List Tr} {f : Fc} (h : f ∈ j0T l) : IsF l f := by
 obtain ⟨i, j, k, h1, h2, h3, h4, rfl⟩ := k0Q h
 exact W1u xO h4
theorem v1I {l : List Tr} {f g : Fc} (hf : IsF l f) (hg : IsF l g) (h : f.n = g.n) : f = g := by
 obtain ⟨kf, a1, a2⟩ := hf.at_
 obtain ⟨kg, b1, b2⟩ := hg.at_
 have h1 := hg.le kf a1
 have h2 := hf.le kg b1
 rw [← h] at h1 b2
 have hm : f.m = g.m := by omega
 have hs : f.s = g.s := by rw [hf.s, hg.s, h, hm]
 cases f; cases g
 simp only [Fc.mk.injEq]
 exact ⟨h, hm, hs⟩
def j0i (l : List Tr) : List Fc := q1G (J0c (j0T l))
theorem Q0J (L : List Fc) : (J0c L).length = L.length := (List.mergeSort_perm L _).length_eq
theorem y1y (L : List Fc) : (q1G L).length ≤ L.length := K0Q L _
theorem Y0m (l : List Tr) (hl : RT l) (hn : l.length ≤ 7) : CtrR Tryz.prog 225 [pcl l, .val (.func (.func 227) #[] #[])] 179 5 (j0T l).length (ff (J0c (j0T l))) [] := by
 refine q1M _ Tryz.func225 rfl rfl Tryz.ntmps225 rfl fun w Z => ?_
 have hpl := x0O l hn
 have hc := q1D l hl hn
 have hs := W1V (j0T l) (fun f hf g hg h => v1I (q0S hf) (q0S hg) h) xO
 refine xU ?_
 refine wt ?_
 repeat' (first
   |(refine j0u (w0D 40 (hc) rfl rfl) rfl ?_; refine wt ?_)
   |(refine j0u (v0B (hs) rfl rfl rfl) rfl ?_; refine wt ?_))
 exact w0A rfl rfl rfl rfl (fun _ _ _ _ => rfl)
theorem y1P (l : List Tr) (hl : RT l) (hn : l.length ≤ 7) : CtrR Tryz.prog 197 [ts l] 179 5 (j0i l).length (ff (j0i l)) [] := by
 refine q1M _ Tryz.func197 rfl rfl Tryz.ntmps197 rfl fun w Z => ?_
 have hpl := x0O l hn
 have hp := z1m l
 have hs := Y0m l hl hn
 have hc := K0P (J0c (j0T l)) (by rw [Q0J]; omega)
 rw [Q0J] at hc
 refine xU ?_
 have hq1 := hp
 refine wt ?_
 repeat' (first
   |(refine j0u (w0D 40 (hs) rfl rfl) rfl ?_; refine wt ?_)
   |(refine j0u (v0F (hc) rfl rfl rfl) rfl ?_; refine wt ?_))
 exact w0A rfl rfl rfl rfl (fun _ _ _ _ => rfl)
end Go.Proofs.YtgblokifbgeegaaGreatDoor.H.S
namespace Go.Proofs.YtgblokifbgeegaaGreatDoor.H.S
open Go Go.Vc Go.RowKit
set_option maxHeartbeats 1000000
theorem K0w (a : Tr) : tg a ∣ a.x.natAbs ∧ tg a ∣ a.y.natAbs ∧ tg a ∣ a.z.natAbs := by
 unfold tg
 refine ⟨?_, ?_, Nat.gcd_dvd_right _ _⟩
 ·exact Nat.dvd_trans (Nat.gcd_dvd_left _ _) (Nat.dvd_trans (Nat.gcd_dvd_left _ _) (Nat.gcd_dvd_right _ _))
 ·exact Nat.dvd_trans (Nat.gcd_dvd_left _ _) (Nat.gcd_dvd_right _ _)
theorem tdiv_zero {g : Nat} {n : Int} (hd : g ∣ n.natAbs) (h : n.tdiv g = 0) : n = 0 := by
 have h1 : (g : Int) ∣ n := Int.ofNat_dvd_left.2 hd
 have h2 := Int.mul_tdiv_cancel' h1
 rw [h, Int.mul_zero] at h2
 exact h2.symm
theorem V0H {a : Tr} (h : a ≠ tz) : tpr a ≠ tz := by
 unfold tpr
 split
 ·exact h
 ·intro e
  apply h
  obtain ⟨d1, d2, d3⟩ := K0w a
  simp only [tz, Tr.mk.injEq] at e
  exact q0T (tdiv_zero d1 e.1) (tdiv_zero d2 e.2.1) (tdiv_zero d3 e.2.2)
theorem q0A {a : Tr} (h : a ≠ tz) : j0P a (-1) ≠ tz := by
 intro e
 apply h
 simp only [j0P, tz, Tr.mk.injEq] at e
 exact q0T (by show a.x = 0; omega) (by show a.y = 0; omega) (by show a.z = 0; omega)
theorem j1z {s : Spn} {p : Tr} (h : 1 ≤ s.dim → s.way ≠ tz) : 1 ≤ (y0b s p).dim → (y0b s p).way ≠ tz := by
 unfold y0b
 split
 ·intro h1; simp at h1
 ·split
  ·split
   ·exact h
   ·rename_i hne; exact fun _ => hne
  ·split
   ·split
    ·exact h
    ·rename_i hne; exact fun _ => hne
   ·split
    ·rename_i h2
     have hw := V0H (h xO)
     split <;> exact fun _ => hw
    ·exact h
theorem K0n (l : List Tr) : ∀ k, k ≤ l.length → 1 ≤ (J0B l k).dim → (J0B l k).way ≠ tz
 |0, _ => fun h => by simp [J0B] at h
 |k + 1, hk => by
  rw [z0h (by omega)]
  exact j1z (K0n l k xO)
theorem W1Z {l : List Tr} (h : 1 ≤ (spn l).dim) : (spn l).way ≠ tz := K0n l _ (Nat.le_refl _) h
theorem W1Y {l : List Tr} (h : (spn l).dim ≠ -1) : 0 < l.length := by
 rcases Nat.eq_zero_or_pos l.length with h0 | h0
 ·exfalso
  apply h
  have : l = [] := List.eq_nil_of_length_eq_zero h0
  subst this
  rfl
 ·exact h0
theorem Q0A {l : List Tr} {f : Fc} (h : f ∈ j0T l) : f.n ≠ tz := by
 obtain ⟨i, j, k, _, _, _, h4, rfl⟩ := k0Q h
 unfold plB at h4
 rw [Bool.and_eq_true, decide_eq_true_eq] at h4
 unfold plF J1t
 split
 ·exact q0A h4.1
 ·exact h4.1
theorem y1z {L : List Fc} {f : Fc} (h : f ∈ q1G L) : f ∈ L := by
 unfold q1G q0L at h
 obtain ⟨i, hi, rfl⟩ := List.mem_map.1 h
 exact y0Y (List.mem_range.1 (List.mem_filter.1 hi).1)
theorem w0E {l : List Tr} {f : Fc} (h : f ∈ j0i l) : f ∈ j0T l := (List.mergeSort_perm _ _).mem_iff.1 (y1z h)
theorem v0O {l : List Tr} {n : Tr} {m : Int} {k i : Nat} : i ∈ Q0w l n m k ↔ i < k ∧ j0b n (gt l i) = m := by unfold Q0w; simp
theorem Z1c {l : List Tr} {f : Fc} (h : IsF l f) : 0 < f.s.length ∧ ∀ i ∈ f.s, i < l.length := by
 obtain ⟨k, h1, h2⟩ := h.at_
 rw [h.s]
 exact ⟨List.length_pos_of_mem (v0O.2 ⟨h1, h2⟩), fun i hi => (v0O.1 hi).1⟩
end Go.Proofs.YtgblokifbgeegaaGreatDoor.H.S
namespace Go.Proofs.YtgblokifbgeegaaGreatDoor.H.S
open Go Go.Vc Go.RowKit
set_option maxHeartbeats 4000000
abbrev X1U : AV := .val (.slice none 0 0)
abbrev fs (L : List Fc) : AV := .sl L.length 5 (ff L)
def few (l : List Tr) : Prop := l.length ≤ 7 ∨ 64 < l.length
theorem few.le {l : List Tr} (h : few l) (h0 : w0i l = 0) : RT l ∧ l.length ≤ 7 := by
 obtain ⟨h1, h2⟩ := RT.of h0
 refine ⟨h1, ?_⟩
 rcases h with h | h
 ·exact h
 ·omega
def Q1h (l : List Tr) : AV := if (spn l).dim < 3 then X1U else fs (j0i l)
theorem x1c (s : Spn) (w : World) : (Instr.field 167 (.agg #[.int .i64 s.dim, .int .i64 s.pt.x, .int .i64 s.pt.y, .int .i64 s.pt.z, .int .i64 s.way.x, .int .i64 s.way.y, .int .i64 s.way.z]) 0).run Tryz.prog w = .ok (.int .i64 s.dim) w := by kernel_rfl
theorem W1U (l : List Tr) (h : w0i l ≠ 0) : CtrA Tryz.prog 175 [ts l] (j0x [X1U, X1U, vi (w0i l)]) := by
 refine j0p _ Tryz.func175 rfl rfl Tryz.ntmps175 rfl fun w Z => ?_
 have hc := W0J l
 generalize w0i l = e at h hc ⊢
 refine xU ?_
 have hq1 := hc
 refine wt ?_
 (refine j0a rfl ?_ ?_ <;> intro hb <;> (try simp only [xA, xB, xG, xC, xD, xN] at hb) <;> (try exact xQ))
 refine wt ?_
 exact xX
theorem x1b (l : List Tr) (hf : few l) (h : w0i l = 0) : CtrA Tryz.prog 175 [ts l] (j0x [ts l, Q1h l, vi 0]) := by
 refine j0p _ Tryz.func175 rfl rfl Tryz.ntmps175 rfl fun w Z => ?_
 have hc := W0J l
 rw [h] at hc
 obtain ⟨hl, hn⟩ := hf.le h
 have hv := (Y0z l xO).ro
 have hs := Q0K l hl xO
 have hA : Q1h l = if (spn l).dim < 3 then X1U else fs (j0i l) := rfl
 have hfa := (y1P l hl hn).ro
 generalize spn l = s at hs hA
 refine xU ?_
 have hq2 := hc
 have hq3 := hv
 have hq4 := hs
 have hq5 := hfa
 refine wt ?_
 repeat' (first
   |(refine j0n (k0x (us := [_, _, _, _, _, _, _]) rfl (x1c s)) rfl ?_; refine wt ?_))
 (refine j0a rfl ?_ ?_ <;> intro hb <;> (try simp only [xA, xB, xG, xC, xD, xN] at hb) <;> (try exact xQ))
 ·rw [if_pos hb] at hA
  rw [hA]
  refine wt ?_
  exact xX
 ·rw [if_neg hb] at hA
  rw [hA]
  have hq6 := hfa
  refine wt ?_
  exact xX
theorem z0x (l : List Tr) (hn : l.length ≤ 7) : (j0i l).length ≤ 1000 := by
 have h1 := y1y (J0c (j0T l))
 rw [Q0J] at h1
 have := x0O l hn
 unfold j0i; omega
theorem y0O {l : List Tr} (hn : l.length ≤ 7) : ∀ f ∈ j0i l, f.n ≠ tz ∧ 0 < f.s.length ∧ f.s.length ≤ 7 ∧ ∀ i ∈ f.s, i < l.length := fun f hf => by
 have hp := w0E hf
 have hF := q0S hp
 obtain ⟨h1, h2⟩ := Z1c hF
 refine ⟨Q0A hp, h1, ?_, h2⟩
 rw [hF.s]
 have := k0T l f.n f.m l.length
 omega
theorem y0J {l : List Tr} (hl : RT l) : (spn l).dim = -1 ∨ (spn l).dim = 0 ∨ (spn l).dim = 1 ∨ (spn l).dim = 2 ∨ (spn l).dim = 3 := by
 rcases (SpOk.to hl l.length).dim with h | h | h | h | h
 ·exact .inl h
 ·exact .inr (.inl h)
 ·exact .inr (.inr (.inl h.1))
 ·exact .inr (.inr (.inr (.inl h.1)))
 ·exact .inr (.inr (.inr (.inr h.1)))
def Z1a (l : List Tr) : List Fc := if w0i l = 0 then (if (spn l).dim < 3 then [] else j0i l) else []
def V1A (l : List Tr) : Int := if w0i l = 0 then (if (spn l).dim < 3 then 14 else 0) else w0i l
theorem q2h (x y : Operand) (a : Addr) (n c : Nat) (w : World) : (eqGuard .eql 173 x y (.slice (some a) n c) (.slice none 0 0)).run Tryz.prog w = .ok () w := by kernel_rfl
theorem q2m (a : Addr) (n c : Nat) (w : World) : (binOp .eql 173 (.slice (some a) n c) (.slice none 0 0)).run Tryz.prog w = .ok (.bool false) w := by kernel_rfl
theorem q2i (x y : Operand) (w : World) : (eqGuard .eql 173 x y (.slice none 0 0) (.slice none 0 0)).run Tryz.prog w = .ok () w := by kernel_rfl
theorem q2j (w : World) : (binOp .eql 173 (.slice none 0 0) (.slice none 0 0)).run Tryz.prog w = .ok (.bool true) w := by kernel_rfl
theorem J1u (l : List Tr) (hf : few l) (hne : w0i l = 0 → ¬ (spn l).dim < 3 → 0 < (j0i l).length) : CtrA Tryz.prog 134 [ts l] (j0x [fs (Z1a l), vi (V1A l)]) := by
 by_cases h : w0i l = 0
 ·unfold Z1a V1A
  rw [if_pos h, if_pos h]
  have hs := x1b l hf h
  unfold Q1h at hs
  by_cases hd : (spn l).dim < 3
  ·rw [if_pos hd] at hs
   rw [if_pos hd, if_pos hd]
   refine CtrA.to (τ := j0x [X1U, vi 14]) ?_ (.tup ⟨.nil, .refl _, trivial⟩)
   refine j0p _ Tryz.func134 rfl rfl Tryz.ntmps134 rfl fun w Z => ?_
   refine xU ?_
   have hq7 := hs
   refine wt ?_
   repeat' (first
     |(refine j0n (x0X rfl rfl (fun w => q2i _ _ w) (fun w => q2j w)) rfl ?_; refine wt ?_))
   exact xW
  ·rw [if_neg hd] at hs
   rw [if_neg hd, if_neg hd]
   have h0 := hne h hd
   refine j0p _ Tryz.func134 rfl rfl Tryz.ntmps134 rfl fun w Z => ?_
   generalize j0i l = L at hs h0 ⊢
   refine xU ?_
   have hq8 := hs
   refine wt ?_
   repeat' (first
     |(refine j0n (z0B (fun a n c w => q2h _ _ a n c w) (fun a n c w => q2m a n c w) rfl rfl h0) rfl ?_; refine wt ?_))
   exact xW
 ·have hs := W1U l h
  unfold Z1a V1A
  rw [if_neg h, if_neg h]
  generalize w0i l = e at h hs ⊢
  refine CtrA.to (τ := j0x [X1U, vi e]) ?_ (.tup ⟨.nil, .refl _, trivial⟩)
  refine j0p _ Tryz.func134 rfl rfl Tryz.ntmps134 rfl fun w Z => ?_
  refine xU ?_
  have hq9 := hs
  refine wt ?_
  (refine j0a rfl ?_ ?_ <;> intro hb <;> (try simp only [xA, xB, xG, xC, xD, xN] at hb) <;> (try exact xQ))
  refine wt ?_
  exact xW
end Go.Proofs.YtgblokifbgeegaaGreatDoor.H.S
namespace Go.Proofs.YtgblokifbgeegaaGreatDoor.H.S
open Go Go.Vc Go.RowKit
set_option maxHeartbeats 8000000
theorem w1R (p : Tr) : CtrA Tryz.prog 62 [tp p] (vb (decide (p = tz))) := by
 refine j0p _ Tryz.func62 rfl rfl Tryz.ntmps62 rfl fun w Z => ?_
 have e : decide (p = tz) = (decide (p.x = 0) && decide (p.y = 0) && decide (p.z = 0)) := by
  cases p; rw [Bool.eq_iff_iff]; simp [tz, and_assoc]
 rw [e]
 refine xU ?_
 refine wt ?_
 repeat' (first
   |(refine j0l rfl rfl (fun hb => ?_) (fun hb => ?_) <;> (try simp only [xA, xB, xG, xC, xD, xN] at hb) <;> (try exact xQ) <;> refine wt ?_))
 all_goals (refine j0e rfl (.tmp rfl) (congrArg vb ?_); (try simp only [beq_iff_eq, Bool.beq_eq_decide_eq] at *); simp [*])
theorem Z0i (a b : Tr) (h1 : BT 1000000000000 a) (h2 : BT 1000000000000 b) : CtrA Tryz.prog 106 [tp a, tp b] (tp (j0E a b)) := by
 refine j0p _ Tryz.func106 rfl rfl Tryz.ntmps106 rfl fun w Z => ?_
 obtain ⟨⟨_, _⟩, ⟨_, _⟩, ⟨_, _⟩⟩ := h1
 obtain ⟨⟨_, _⟩, ⟨_, _⟩, ⟨_, _⟩⟩ := h2
 refine xU ?_
 refine wt ?_
 exact j0e rfl (.agg (us := [_, _, _]) rfl rfl rfl rfl) rfl
theorem w1N (a b : Tr) {A B : Int} (h1 : BT A a) (h2 : BT B b) (hab : A * B ≤ 1000000000000000000) : CtrA Tryz.prog 107 [tp a, tp b] (vi (j0b a b)) := by
 refine j0p _ Tryz.func107 rfl rfl Tryz.ntmps107 rfl fun w Z => ?_
 obtain ⟨m1, n1⟩ := j0F h1.x h2.x
 obtain ⟨m2, n2⟩ := j0F h1.y h2.y
 obtain ⟨m3, n3⟩ := j0F h1.z h2.z
 refine xU ?_
 refine wt ?_
 exact xV
theorem w1Q (a b : Tr) {A B : Int} (h1 : BT A a) (h2 : BT B b) (hab : A * B ≤ 1000000000000000000) : CtrA Tryz.prog 99 [tp a, tp b] (tp (tcr a b)) := by
 refine j0p _ Tryz.func99 rfl rfl Tryz.ntmps99 rfl fun w Z => ?_
 obtain ⟨m1, n1⟩ := j0F h1.y h2.z
 obtain ⟨m2, n2⟩ := j0F h1.z h2.y
 obtain ⟨m3, n3⟩ := j0F h1.z h2.x
 obtain ⟨m4, n4⟩ := j0F h1.x h2.z
 obtain ⟨m5, n5⟩ := j0F h1.x h2.y
 obtain ⟨m6, n6⟩ := j0F h1.y h2.x
 refine xU ?_
 refine wt ?_
 exact j0e rfl (.agg (us := [_, _, _]) rfl rfl rfl rfl) rfl
def tac (a b c : Tr) : Tr := tcr (j0E b a) (j0E c a)
def six (a b c d : Tr) : Int := j0b (tac a b c) (j0E d a)
theorem Y1r {a b c : Tr} (h1 : BT 100000 a) (h2 : BT 100000 b) (h3 : BT 100000 c) : BT 80000000000 (tac a b c) := ((h2.sub h1).cr (h3.sub h1)).le (by decide)
theorem Y0c (a b c : Tr) (h1 : BT 100000 a) (h2 : BT 100000 b) (h3 : BT 100000 c) : CtrA Tryz.prog 63 [tp a, tp b, tp c] (tp (tac a b c)) := by
 refine j0p _ Tryz.func63 rfl rfl Tryz.ntmps63 rfl fun w Z => ?_
 have e1 := Z0i b a (h2.le xE) (h1.le xE)
 have e2 := Z0i c a (h3.le xE) (h1.le xE)
 have e3 := w1Q (j0E b a) (j0E c a) (h2.sub h1) (h3.sub h1) xE
 refine xU ?_
 have hq1 := e1
 have hq2 := e2
 have hq3 := e3
 refine wt ?_
 exact j0e rfl (.agg (us := [_, _, _]) rfl rfl rfl rfl) rfl
theorem k1g (a b c d : Tr) (h1 : BT 100000 a) (h2 : BT 100000 b) (h3 : BT 100000 c) (h4 : BT 100000 d) : CtrA Tryz.prog 64 [tp a, tp b, tp c, tp d] (vi (six a b c d)) := by
 refine j0p _ Tryz.func64 rfl rfl Tryz.ntmps64 rfl fun w Z => ?_
 have e1 := Y0c a b c h1 h2 h3
 have e2 := Z0i d a (h4.le xE) (h1.le xE)
 have e3 := w1N (tac a b c) (j0E d a) (Y1r h1 h2 h3) (h4.sub h1) xE
 refine xU ?_
 have hq4 := e1
 have hq5 := e2
 have hq6 := e3
 refine wt ?_
 exact xV
def mx (o v : Int) : Int := if o < v then v else o
def rC (l : List Tr) (a b : Nat) (o : Int) : Nat → Int
 |0 => o
 |c + 1 => if tac (gt l a) (gt l b) (gt l c) = tz then rC l a b o c else mx (rC l a b o c) 2
def rB (l : List Tr) (a : Nat) (o : Int) : Nat → Int
 |0 => o
 |b + 1 => if gt l a = gt l b then rB l a o b else rC l a b (mx (rB l a o b) 1) b
def rA (l : List Tr) : Nat → Int
 |0 => -1
 |a + 1 => rB l a (mx (rA l a) 0) a
def Q1R (l : List Tr) : Prop := ∃ a, a < l.length ∧ ∃ b, b < a ∧ ∃ c, c < b ∧ ∃ d, d < l.length ∧ six (gt l a) (gt l b) (gt l c) (gt l d) ≠ 0
theorem k1c (l : List Tr) (a b : Nat) {o : Int} (h : o ≤ 2) : ∀ c, rC l a b o c ≤ 2
 |0 => h
 |c + 1 => by have := k1c l a b h c; unfold rC mx; split <;> (try split) <;> omega
theorem k1b (l : List Tr) (a : Nat) {o : Int} (h : o ≤ 2) : ∀ b, rB l a o b ≤ 2
 |0 => h
 |b + 1 => by
  have := k1b l a h b
  unfold rB
  split
  ·exact this
  ·exact k1c l a b (by unfold mx; split <;> omega) b
theorem W1A (l : List Tr) : ∀ a, rA l a ≤ 2
 |0 => (show (-1 : Int) ≤ 2 by decide)
 |a + 1 => k1b l a (by have := W1A l a; unfold mx; split <;> omega) a
theorem W0K {a b : Tr} (h : a = b) (c d : Tr) : six a b c d = 0 := by
 subst h; unfold six tac tcr j0E j0b; simp
theorem z0g {a b c : Tr} (h : tac a b c = tz) (d : Tr) : six a b c d = 0 := by
 unfold six; rw [h]; unfold tz j0b; simp
theorem J1P (a b : Tr) : ([a.x, a.y, a.z] = [b.x, b.y, b.z]) ↔ a = b := by
 cases a; cases b; simp
theorem k1d (l : List Tr) (r : Int) (hl : RT l) (hn : l.length ≤ 7) (h3 : Q1R l → r = 3) (h2 : ¬ Q1R l → r = rA l l.length) : CtrA Tryz.prog 26 [ts l] (vi r) := by
 refine j0p _ Tryz.func26 rfl rfl Tryz.ntmps26 rfl fun w Z => ?_
 refine xU ?_
 refine wt ?_
 refine j0f (γ := Nat) (fun a => [(0, .av (ts l)), (3, .av (vi (rA l a))), (4, .av (vi a))]) (fun _ => []) (fun a => a ≤ l.length ∧ ∀ a', a' < a → ∀ b, b < a' → ∀ c, c < b → ∀ d, d < l.length → six (gt l a') (gt l b) (gt l c) (gt l d) = 0) (fun a => l.length - a) 0 ⟨Nat.zero_le _, by omega⟩ (ent xS trivial) ?_
 rintro a ⟨ha, iA⟩
 refine wt ?_
 (refine j0a rfl ?_ ?_ <;> intro hb <;> (try simp only [xA, xB, xG, xC, xD, xN] at hb) <;> (try exact xQ))
 ·have hal : a < l.length := by omega
  have eA : rA l (a + 1) = rB l a (mx (rA l a) 0) a := rfl
  generalize rA l a = o at eA ⊢
  unfold mx at eA
  refine wt ?_
  generalize hO : (if o < 0 then (0 : Int) else o) = O at eA ⊢
  refine j0f (γ := Nat) (fun b => [(0, .av (ts l)), (3, .av (vi (rB l a O b))), (4, .av (vi a)), (5, .av (vi b))]) (fun _ => []) (fun b => b ≤ a ∧ ∀ b', b' < b → ∀ c, c < b' → ∀ d, d < l.length → six (gt l a) (gt l b') (gt l c) (gt l d) = 0) (fun b => a - b) 0 ⟨Nat.zero_le _, by omega⟩ (ent ⟨.refl _, .int (by first | exact hO | rfl | omega), .refl _, .refl _, trivial⟩ trivial) ?_
  rintro b ⟨hbn, iB⟩
  refine wt ?_
  (refine j0a rfl ?_ ?_ <;> intro hb <;> (try simp only [xA, xB, xG, xC, xD, xN] at hb) <;> (try exact xQ))
  ·have hba : b < a := by omega
   have hbl : b < l.length := by omega
   have eB : rB l a O (b + 1) = if gt l a = gt l b then rB l a O b else rC l a b (mx (rB l a O b) 1) b := rfl
   generalize rB l a O b = p at eB ⊢
   refine wt ?_
   (refine j0a rfl ?_ ?_ <;> intro hb <;> (try simp only [xA, xB, xG, xC, xD, xN] at hb) <;> (try exact xQ))
   ·have hab := (J1P _ _).1 hb
    rw [if_pos hab] at eB
    refine wt ?_
    exact j0c (b + 1) ⟨by omega, fun b' hb' c hc d hd => by
     by_cases e : b' = b
     ·subst e; exact W0K hab _ _
     ·exact iB b' (by omega) c hc d hd⟩ (by omega) (ent ⟨.refl _, .int (by rw [eB]), .refl _, .int (by omega), trivial⟩ trivial)
   ·have hab : ¬ gt l a = gt l b := fun e => hb ((J1P _ _).2 e)
    rw [if_neg hab] at eB
    clear hb
    unfold mx at eB
    refine wt ?_
    generalize hQ : (if p < 1 then (1 : Int) else p) = Q at eB ⊢
    refine j0f (γ := Nat) (fun c => [(0, .av (ts l)), (3, .av (vi (rC l a b Q c))), (4, .av (vi a)), (5, .av (vi b)), (6, .av (vi c))]) (fun _ => []) (fun c => c ≤ b ∧ ∀ c', c' < c → ∀ d, d < l.length → six (gt l a) (gt l b) (gt l c') (gt l d) = 0) (fun c => b - c) 0 ⟨Nat.zero_le _, by omega⟩ (ent ⟨.refl _, .int (by first | exact hQ | rfl | omega), .refl _, .refl _, .refl _, trivial⟩ trivial) ?_
    rintro c ⟨hcn, iC⟩
    refine wt ?_
    (refine j0a rfl ?_ ?_ <;> intro hb <;> (try simp only [xA, xB, xG, xC, xD, xN] at hb) <;> (try exact xQ))
    ·have hcb : c < b := by omega
     have hcl : c < l.length := by omega
     have eC : rC l a b Q (c + 1) = if tac (gt l a) (gt l b) (gt l c) = tz then rC l a b Q c else mx (rC l a b Q c) 2 := rfl
     generalize rC l a b Q c = q at eC ⊢
     have hta := Y0c (gt l a) (gt l b) (gt l c) (hl a) (hl b) (hl c)
     by_cases hnz : tac (gt l a) (gt l b) (gt l c) = tz
     ·rw [if_pos hnz] at eC
      rw [hnz] at hta
      have hz := w1R tz
      rw [decide_eq_true rfl] at hz
      have hq1 := hta
      have hq2 := hz
      refine wt ?_
      exact j0c (c + 1) ⟨by omega, fun c' hc' d hd => by
       by_cases e : c' = c
       ·subst e; exact z0g hnz _
       ·exact iC c' (by omega) d hd⟩ (by omega) (ent ⟨.refl _, .int (by rw [eC]), .refl _, .refl _, .int (by omega), trivial⟩ trivial)
     ·rw [if_neg hnz] at eC
      have hz := w1R (tac (gt l a) (gt l b) (gt l c))
      rw [decide_eq_false hnz] at hz
      generalize tac (gt l a) (gt l b) (gt l c) = n at hta hz
      unfold mx at eC
      have hq3 := hta
      have hq4 := hz
      refine wt ?_
      generalize hR : (if q < 2 then (2 : Int) else q) = R at eC ⊢
      refine j0f (γ := Nat) (fun d => [(0, .av (ts l)), (3, .av (vi R)), (4, .av (vi a)), (5, .av (vi b)), (6, .av (vi c)), (7, .av (vi d))]) (fun _ => []) (fun d => d ≤ l.length ∧ ∀ d', d' < d → six (gt l a) (gt l b) (gt l c) (gt l d') = 0) (fun d => l.length - d) 0 ⟨Nat.zero_le _, by omega⟩ (ent ⟨.refl _, .int (by first | exact hR | rfl | omega), .refl _, .refl _, .refl _, .refl _, trivial⟩ trivial) ?_
      rintro d ⟨hdn, iD⟩
      refine wt ?_
      (refine j0a rfl ?_ ?_ <;> intro hb <;> (try simp only [xA, xB, xG, xC, xD, xN] at hb) <;> (try exact xQ))
      ·have hdl : d < l.length := by omega
       have hsx := k1g (gt l a) (gt l b) (gt l c) (gt l d) (hl a) (hl b) (hl c) (hl d)
       generalize hS : six (gt l a) (gt l b) (gt l c) (gt l d) = s at hsx
       have hq5 := hsx
       refine wt ?_
       (refine j0a rfl ?_ ?_ <;> intro hb <;> (try simp only [xA, xB, xG, xC, xD, xN] at hb) <;> (try exact xQ))
       ·rw [h3 ⟨a, hal, b, hba, c, hcb, d, hdl, by rw [hS]; exact hb⟩]
        refine wt ?_
        exact xV
       ·have hs0 : s = 0 := by omega
        refine wt ?_
        exact j0c (d + 1) ⟨by omega, fun d' hd' => by
         by_cases e : d' = d
         ·subst e; omega
         ·exact iD d' xO⟩ xO (ent xS trivial)
      ·have hdl : d = l.length := by omega
       subst hdl
       refine wt ?_
       exact j0c (c + 1) ⟨by omega, fun c' hc' d hd => by
        by_cases e : c' = c
        ·subst e; exact iD d hd
        ·exact iC c' (by omega) d hd⟩ (by omega) (ent ⟨.refl _, .int (by rw [eC]), .refl _, .refl _, .int (by omega), trivial⟩ trivial)
    ·have hcb : c = b := by omega
     subst hcb
     refine wt ?_
     exact j0c (c + 1) ⟨by omega, fun b' hb' c' hc d hd => by
      by_cases e : b' = c
      ·subst e; exact iC c' hc d hd
      ·exact iB b' (by omega) c' hc d hd⟩ (by omega) (ent ⟨.refl _, .int (by rw [eB]), .refl _, .int (by omega), trivial⟩ trivial)
  ·have hba : b = a := by omega
   subst hba
   refine wt ?_
   exact j0c (b + 1) ⟨by omega, fun a' ha' b' hb' c hc d hd => by
    by_cases e : a' = b
    ·subst e; exact iB b' hb' c hc d hd
    ·exact iA a' (by omega) b' hb' c hc d hd⟩ (by omega) (ent ⟨.refl _, .int (by rw [eA]), .int (by omega), trivial⟩ trivial)
 ·have hal : a = l.length := by omega
  subst hal
  rw [h2 (fun ⟨a, ha, b, hb, c, hc, d, hd, h⟩ => h (iA a ha b hb c hc d hd))]
  refine wt ?_
  exact xV
end Go.Proofs.YtgblokifbgeegaaGreatDoor.H.S
namespace Go.Proofs.YtgblokifbgeegaaGreatDoor.H.S
open Go Go.Vc Go.RowKit
set_option maxHeartbeats 1000000
def det (u v w : Tr) : Int := j0b (tcr u v) w
theorem j1B {w : Tr} (h : w ≠ tz) : w.x ≠ 0 ∨ w.y ≠ 0 ∨ w.z ≠ 0 := by
 by_cases hx : w.x = 0
 ·by_cases hy : w.y = 0
  ·by_cases hz : w.z = 0
   ·exact absurd (q0T hx hy hz) h
   ·exact .inr (.inr hz)
  ·exact .inr (.inl hy)
 ·exact .inl hx
theorem w0N {a b : Int} (h : a ≠ 0) (e : a * b = 0) : b = 0 := by
 rcases Int.mul_eq_zero.1 e with h1 | h1
 ·exact absurd h1 h
 ·exact h1
theorem k0b {n u v w : Tr} (hn : n ≠ tz) (h1 : j0b n u = 0) (h2 : j0b n v = 0) (h3 : j0b n w = 0) : det u v w = 0 := by
 simp only [j0b] at h1 h2 h3
 rcases j1B hn with h | h | h
 ·refine w0N h ?_
  simp only [det, j0b, tcr]; grind
 ·refine w0N h ?_
  simp only [det, j0b, tcr]; grind
 ·refine w0N h ?_
  simp only [det, j0b, tcr]; grind
theorem x0Y {n u v : Tr} (hn : n ≠ tz) (h1 : tcr n u = tz) (h2 : tcr n v = tz) : tcr u v = tz := by
 simp only [tcr, tz, Tr.mk.injEq] at h1 h2
 obtain ⟨a1, a2, a3⟩ := h1
 obtain ⟨b1, b2, b3⟩ := h2
 have k : n.x * n.x * (tcr u v).x = 0 ∧ n.x * n.x * (tcr u v).y = 0 ∧ n.x * n.x * (tcr u v).z = 0 ∧ n.y * n.y * (tcr u v).x = 0 ∧ n.y * n.y * (tcr u v).y = 0 ∧ n.y * n.y * (tcr u v).z = 0 ∧ n.z * n.z * (tcr u v).x = 0 ∧ n.z * n.z * (tcr u v).y = 0 ∧ n.z * n.z * (tcr u v).z = 0 := by
  simp only [tcr]
  refine ⟨?_, ?_, ?_, ?_, ?_, ?_, ?_, ?_, ?_⟩ <;> grind
 obtain ⟨k1, k2, k3, k4, k5, k6, k7, k8, k9⟩ := k
 rcases j1B hn with h | h | h
 ·have h' := Int.mul_ne_zero h h
  exact q0T (w0N h' k1) (w0N h' k2) (w0N h' k3)
 ·have h' := Int.mul_ne_zero h h
  exact q0T (w0N h' k4) (w0N h' k5) (w0N h' k6)
 ·have h' := Int.mul_ne_zero h h
  exact q0T (w0N h' k7) (w0N h' k8) (w0N h' k9)
theorem Q1r {a : Tr} (h : a ≠ tz) : tg a ≠ 0 := by
 intro e
 apply h
 obtain ⟨d1, d2, d3⟩ := K0w a
 rw [e] at d1 d2 d3
 have := Nat.eq_zero_of_zero_dvd d1
 have := Nat.eq_zero_of_zero_dvd d2
 have := Nat.eq_zero_of_zero_dvd d3
 exact q0T (by show a.x = 0; omega) (by show a.y = 0; omega) (by show a.z = 0; omega)
theorem x1G {a : Tr} (h : a ≠ tz) : ∃ g : Int, 0 < g ∧ a.x = g * (tpr a).x ∧ a.y = g * (tpr a).y ∧ a.z = g * (tpr a).z := by
 have hg := Q1r h
 obtain ⟨d1, d2, d3⟩ := K0w a
 refine ⟨(tg a : Int), by omega, ?_⟩
 unfold tpr
 rw [if_neg hg]
 exact ⟨(Int.mul_tdiv_cancel' (Int.ofNat_dvd_left.2 d1)).symm, (Int.mul_tdiv_cancel' (Int.ofNat_dvd_left.2 d2)).symm, (Int.mul_tdiv_cancel' (Int.ofNat_dvd_left.2 d3)).symm⟩
theorem Q0N {a : Tr} (h : a ≠ tz) : ∃ g : Int, 0 < g ∧ ∀ p, j0b a p = g * j0b (tpr a) p := by
 obtain ⟨g, g0, h1, h2, h3⟩ := x1G h
 refine ⟨g, g0, fun p => ?_⟩
 simp only [j0b]
 rw [h1, h2, h3]
 generalize (tpr a).x = X; generalize (tpr a).y = Y; generalize (tpr a).z = Z
 grind
theorem z1K {a : Tr} (h : a ≠ tz) (p : Tr) : j0b (tpr a) p = 0 ↔ j0b a p = 0 := by
 obtain ⟨g, g0, hp⟩ := Q0N h
 rw [hp p]
 constructor
 ·intro e; rw [e, Int.mul_zero]
 ·intro e; exact w0N xO e
structure SpI (l : List Tr) (k : Nat) (s : Spn) : Prop where
 d0 : s.dim = 0 → ∀ i, i < k → gt l i = s.pt
 d1 : s.dim = 1 → s.way ≠ tz ∧ ∀ i, i < k → tcr s.way (j0E (gt l i) s.pt) = tz
 d2 : s.dim = 2 → s.way ≠ tz ∧ ∀ i, i < k → j0b s.way (j0E (gt l i) s.pt) = 0
 pt : s.dim ≠ -1 → ∃ i, i < k ∧ gt l i = s.pt
 no : s.dim = -1 → k = 0
 w1 : s.dim = 1 → ∃ i, i < k ∧ s.way = j0E (gt l i) s.pt
 w2 : s.dim = 2 → ∃ i j, i < k ∧ j < k ∧ (∃ g : Int, g ≠ 0 ∧ ∀ p, j0b (tcr (j0E (gt l i) s.pt) (j0E (gt l j) s.pt)) p = g * j0b s.way p)
 w3 : s.dim = 3 → ∃ i j m, i < k ∧ j < k ∧ m < k ∧ six s.pt (gt l i) (gt l j) (gt l m) ≠ 0
 rg : s.dim = -1 ∨ s.dim = 0 ∨ s.dim = 1 ∨ s.dim = 2 ∨ s.dim = 3
theorem Q1w {a b : Tr} (h : j0E a b = tz) : a = b := by
 simp only [j0E, tz, Tr.mk.injEq] at h
 exact q0T xO xO xO
theorem K0y (a : Tr) : j0E a a = tz := by simp only [j0E, tz, Int.sub_self]
theorem j2l (a : Tr) : tcr a a = tz := by simp only [tcr, tz, Tr.mk.injEq]; refine ⟨?_, ?_, ?_⟩ <;> grind
theorem j2m (a : Tr) : tcr a tz = tz := by simp [tcr, tz]
theorem Q1q (a : Tr) : j0b a tz = 0 := by simp [j0b, tz]
theorem z1J (a b : Tr) : j0b (tcr a b) b = 0 := by simp only [j0b, tcr]; grind
theorem X1o (p : Tr) : j0b tz p = 0 := by simp [j0b, tz]
theorem SpI.step {l : List Tr} {k : Nat} {s : Spn} (h : SpI l k s) : SpI l (k + 1) (y0b s (gt l k)) := by
 have hlt : ∀ {q : Nat → Prop}, (∀ i, i < k → q i) → q k → ∀ i, i < k + 1 → q i := fun h1 h2 i hi => by
  by_cases e : i = k
  ·rw [e]; exact h2
  ·exact h1 i xO
 unfold y0b
 by_cases c0 : s.dim = -1
 ·rw [if_pos c0]
  have k0 := h.no c0
  subst k0
  exact ⟨fun _ i hi => by (obtain rfl : i = 0 := by omega); rfl, fun e => by simp at e, fun e => by simp at e, fun _ => ⟨0, by omega, rfl⟩, fun e => by simp at e, fun e => by simp at e, fun e => by simp at e, fun e => by simp at e, .inr (.inl rfl)⟩
 rw [if_neg c0]
 obtain ⟨i0, hi0, hp0⟩ := h.pt c0
 by_cases c1 : s.dim = 0
 ·rw [if_pos c1]
  split
  ·rename_i hz
   exact ⟨fun _ => hlt (h.d0 c1) (Q1w hz), fun e => by omega, fun e => by omega, fun _ => ⟨i0, by omega, hp0⟩, fun e => by omega, fun e => by omega, fun e => by omega, fun e => by omega, .inr (.inl c1)⟩
  ·rename_i hz
   refine ⟨fun e => by simp at e, fun _ => ⟨hz, hlt (fun i hi => ?_) (j2l _)⟩, fun e => by simp at e, fun _ => ⟨i0, by omega, hp0⟩, fun e => by simp at e, fun _ => ⟨k, by omega, rfl⟩, fun e => by simp at e, fun e => by simp at e, .inr (.inr (.inl rfl))⟩
   rw [h.d0 c1 i hi]
   show tcr _ (j0E s.pt s.pt) = tz
   rw [K0y, j2m]
 rw [if_neg c1]
 by_cases c2 : s.dim = 1
 ·rw [if_pos c2]
  obtain ⟨hw, hc⟩ := h.d1 c2
  obtain ⟨iw, hiw, ew⟩ := h.w1 c2
  split
  ·rename_i hz
   exact ⟨fun e => by omega, fun _ => ⟨hw, hlt hc hz⟩, fun e => by omega, fun _ => ⟨i0, by omega, hp0⟩, fun e => by omega, fun _ => ⟨iw, by omega, ew⟩, fun e => by omega, fun e => by omega, .inr (.inr (.inl c2))⟩
  ·rename_i hz
   refine ⟨fun e => by simp at e, fun e => by simp at e, fun _ => ⟨hz, hlt (fun i hi => ?_) (z1J _ _)⟩, fun _ => ⟨i0, by omega, hp0⟩, fun e => by simp at e, fun e => by simp at e, fun _ => ⟨iw, k, by omega, by omega, 1, by decide, fun p => ?_⟩, fun e => by simp at e, .inr (.inr (.inr (.inl rfl)))⟩
   ·have hci := hc i hi
    show j0b (tcr s.way (j0E (gt l k) s.pt)) (j0E (gt l i) s.pt) = 0
    generalize j0E (gt l i) s.pt = u at hci
    generalize j0E (gt l k) s.pt = v
    simp only [tcr, tz, Tr.mk.injEq] at hci
    obtain ⟨a1, a2, a3⟩ := hci
    simp only [j0b, tcr]; grind
   ·show j0b (tcr (j0E (gt l iw) s.pt) (j0E (gt l k) s.pt)) p = 1 * j0b (tcr s.way (j0E (gt l k) s.pt)) p
    rw [← ew, Int.one_mul]
 rw [if_neg c2]
 by_cases c3 : s.dim = 2
 ·rw [if_pos c3]
  obtain ⟨hw, hc⟩ := h.d2 c3
  obtain ⟨i, j, hi, hj, g, hg, hp⟩ := h.w2 c3
  obtain ⟨g', g0, hp'⟩ := Q0N hw
  split
  ·rename_i hz
   refine ⟨fun e => by simp at e, fun e => by simp at e, fun _ => ⟨V0H hw, hlt (fun i hi => (z1K hw _).2 (hc i hi)) hz⟩, fun _ => ⟨i0, by omega, hp0⟩, fun e => by simp at e, fun e => by simp at e, fun _ => ⟨i, j, by omega, by omega, g * g', Int.mul_ne_zero hg (by omega), fun p => ?_⟩, fun e => by simp at e, .inr (.inr (.inr (.inl rfl)))⟩
   show j0b (tcr (j0E (gt l i) s.pt) (j0E (gt l j) s.pt)) p = g * g' * j0b (tpr s.way) p
   rw [hp p, hp' p, Int.mul_assoc]
  ·rename_i hz
   refine ⟨fun e => by simp at e, fun e => by simp at e, fun e => by simp at e, fun _ => ⟨i0, by omega, hp0⟩, fun e => by simp at e, fun e => by simp at e, fun e => by simp at e, fun _ => ⟨i, j, k, by omega, by omega, by omega, ?_⟩, .inr (.inr (.inr (.inr rfl)))⟩
   show j0b (tcr (j0E (gt l i) s.pt) (j0E (gt l j) s.pt)) (j0E (gt l k) s.pt) ≠ 0
   rw [hp, hp']
   exact Int.mul_ne_zero hg (Int.mul_ne_zero xO hz)
 rw [if_neg c3]
 have c4 : s.dim = 3 := by have := h.rg; omega
 obtain ⟨i, j, m, hi, hj, hm, hs⟩ := h.w3 c4
 exact ⟨fun e => by omega, fun e => by omega, fun e => by omega, fun _ => ⟨i0, by omega, hp0⟩, fun e => by omega, fun e => by omega, fun e => by omega, fun _ => ⟨i, j, m, by omega, by omega, by omega, hs⟩, h.rg⟩
theorem SpI.to (l : List Tr) : ∀ k, k ≤ l.length → SpI l k (J0B l k)
 |0, _ => ⟨fun e => by simp [J0B] at e, fun e => by simp [J0B] at e, fun e => by simp [J0B] at e, fun e => by simp [J0B] at e, fun _ => rfl, fun e => by simp [J0B] at e, fun e => by simp [J0B] at e, fun e => by simp [J0B] at e, .inl rfl⟩
 |k + 1, hk => by
  rw [z0h (by omega)]
  exact (SpI.to l k xO).step
def Sol (l : List Tr) : Prop := ∃ a b c d, a < l.length ∧ b < l.length ∧ c < l.length ∧ d < l.length ∧ six (gt l a) (gt l b) (gt l c) (gt l d) ≠ 0
theorem j2d (a b c d : Tr) : six b a c d = - six a b c d := by simp only [six, tac, j0b, tcr, j0E]; grind
theorem j2e (a b c d : Tr) : six a c b d = - six a b c d := by simp only [six, tac, j0b, tcr, j0E]; grind
theorem j2j (a b c : Tr) : tac b a c = j0P (tac a b c) (-1) := by simp only [tac, tcr, j0E, j0P, Tr.mk.injEq]; refine ⟨?_, ?_, ?_⟩ <;> grind
theorem x1s (a b c : Tr) : tac a c b = j0P (tac a b c) (-1) := by simp only [tac, tcr, j0E, j0P, Tr.mk.injEq]; refine ⟨?_, ?_, ?_⟩ <;> grind
theorem Z0p {n : Nat} {P : Nat → Nat → Nat → Prop} (h12 : ∀ a b c, P a b c → P b a c) (h23 : ∀ a b c, P a b c → P a c b) (hne : ∀ a b, ¬ P a a b) {a b c : Nat} (ha : a < n) (hb : b < n) (hc : c < n) (h : P a b c) : ∃ i j k, i < n ∧ j < i ∧ k < j ∧ P i j k := by
 have hab : a ≠ b := fun e => hne b c (by rw [e] at h; exact h)
 have hbc : b ≠ c := fun e => by rw [e] at h; exact hne c a (h23 _ _ _ (h12 _ _ _ h))
 have hac : a ≠ c := fun e => by rw [e] at h; exact hne c b (h23 _ _ _ h)
 rcases (by omega : (b < a ∧ c < b) ∨ (c < a ∧ b < c) ∨ (a < b ∧ c < a) ∨ (c < b ∧ a < c) ∨ (a < c ∧ b < a) ∨ (b < c ∧ a < b)) with ⟨h1, h2⟩ | ⟨h1, h2⟩ | ⟨h1, h2⟩ | ⟨h1, h2⟩ | ⟨h1, h2⟩ | ⟨h1, h2⟩
 ·exact ⟨a, b, c, ha, h1, h2, h⟩
 ·exact ⟨a, c, b, ha, h1, h2, h23 _ _ _ h⟩
 ·exact ⟨b, a, c, hb, h1, h2, h12 _ _ _ h⟩
 ·exact ⟨b, c, a, hb, h1, h2, h23 _ _ _ (h12 _ _ _ h)⟩
 ·exact ⟨c, a, b, hc, h1, h2, h12 _ _ _ (h23 _ _ _ h)⟩
 ·exact ⟨c, b, a, hc, h1, h2, h12 _ _ _ (h23 _ _ _ (h12 _ _ _ h))⟩
theorem k1n (a c d : Tr) : six a a c d = 0 := W0K rfl c d
theorem x1a (l : List Tr) : Sol l ↔ Q1R l := by
 constructor
 ·rintro ⟨a, b, c, d, ha, hb, hc, hd, h⟩
  obtain ⟨i, j, k, hi, hj, hk, hs⟩ := Z0p (P := fun a b c => six (gt l a) (gt l b) (gt l c) (gt l d) ≠ 0) (fun a b c h => by rw [j2d]; omega) (fun a b c h => by rw [j2e]; omega) (fun a b h => h (k1n _ _ _)) ha hb hc h
  exact ⟨i, hi, j, hj, k, hk, d, hd, hs⟩
 ·rintro ⟨a, ha, b, hb, c, hc, d, hd, h⟩
  exact ⟨a, b, c, d, ha, by omega, by omega, hd, h⟩
theorem W0V (n a b p : Tr) : tcr n (j0E a p) = tz → tcr n (j0E b p) = tz → tcr n (j0E b a) = tz := by
 simp only [tcr, j0E, tz, Tr.mk.injEq]
 rintro ⟨h1, h2, h3⟩ ⟨h4, h5, h6⟩
 refine ⟨?_, ?_, ?_⟩ <;> grind
theorem W0W (n a b p : Tr) : j0b n (j0E a p) = 0 → j0b n (j0E b p) = 0 → j0b n (j0E b a) = 0 := by
 simp only [j0b, j0E]
 intro h1 h2
 grind
theorem q0V (l : List Tr) : (spn l).dim = 3 ↔ Sol l := by
 have h := SpI.to l l.length (Nat.le_refl _)
 have e : J0B l l.length = spn l := rfl
 rw [e] at h
 constructor
 ·intro h3
  obtain ⟨i0, hi0, ep⟩ := h.pt xO
  obtain ⟨i, j, m, hi, hj, hm, hs⟩ := h.w3 h3
  exact ⟨i0, i, j, m, hi0, hi, hj, hm, by rw [ep]; exact hs⟩
 ·rintro ⟨a, b, c, d, ha, hb, hc, hd, hs⟩
  rcases h.rg with h1 | h1 | h1 | h1 | h1
  ·have := h.no h1; omega
  ·exact absurd (W0K ((h.d0 h1 a ha).trans (h.d0 h1 b hb).symm) _ _) hs
  ·obtain ⟨hw, hall⟩ := h.d1 h1
   exact absurd (z0g (x0Y hw (W0V _ _ _ _ (hall a ha) (hall b hb)) (W0V _ _ _ _ (hall a ha) (hall c hc))) _) hs
  ·obtain ⟨hw, hall⟩ := h.d2 h1
   exact absurd (k0b hw (W0W _ _ _ _ (hall a ha) (hall b hb)) (W0W _ _ _ _ (hall a ha) (hall c hc)) (W0W _ _ _ _ (hall a ha) (hall d hd))) hs
  ·exact h1
theorem x1F {P : Nat → Prop} {R : Nat → Nat → Prop} (tot : ∀ i j, P i → P j → R i j ∨ R j i) (tr : ∀ i j k, P i → P j → P k → R i j → R j k → R i k) : ∀ n, (∃ i, i < n ∧ P i) → ∃ i, i < n ∧ P i ∧ ∀ j, j < n → P j → R i j
 |0, ⟨i, hi, _⟩ => absurd hi (Nat.not_lt_zero _)
 |n + 1, h => by
  by_cases hex : ∃ i, i < n ∧ P i
  ·obtain ⟨i, hi, hp, hr⟩ := x1F tot tr n hex
   by_cases hn : P n
   ·rcases tot i n hp hn with h1 | h1
    ·refine ⟨i, by omega, hp, fun j hj hpj => ?_⟩
     by_cases e : j = n
     ·rw [e]; exact h1
     ·exact hr j xO hpj
    ·refine ⟨n, by omega, hn, fun j hj hpj => ?_⟩
     by_cases e : j = n
     ·rw [e]; rcases tot n n hn hn with h2 | h2 <;> exact h2
     ·exact tr n i j hn hp hpj h1 (hr j xO hpj)
   ·refine ⟨i, by omega, hp, fun j hj hpj => ?_⟩
    by_cases e : j = n
    ·rw [e] at hpj; exact absurd hpj hn
    ·exact hr j xO hpj
  ·obtain ⟨i, hi, hp⟩ := h
   have hin : i = n := by
    by_cases e : i = n
    ·exact e
    ·exact absurd ⟨i, by omega, hp⟩ hex
   subst hin
   refine ⟨i, by omega, hp, fun j hj hpj => ?_⟩
   by_cases e : j = i
   ·rw [e]; rcases tot i i hp hp with h2 | h2 <;> exact h2
   ·exact absurd ⟨j, by omega, hpj⟩ hex
theorem V1o (F u v q r : Tr) (h1 : j0b F u = 0) (h2 : j0b F v = 0) : j0b F q * det u v r = j0b F r * det u v q := by
 simp only [j0b, det, tcr] at *; grind
theorem Y1G (b p q : Tr) : det b p q = - det b q p := by simp only [j0b, det, tcr]; grind
theorem w1j {F b p : Tr} (hb : b ≠ tz) (h : tcr b p = tz) (h0 : j0b F b = 0) : j0b F p = 0 := by
 simp only [tcr, tz, Tr.mk.injEq] at h
 obtain ⟨a1, a2, a3⟩ := h
 simp only [j0b] at *
 rcases j1B hb with hx | hx | hx
 ·refine w0N hx ?_; grind
 ·refine w0N hx ?_; grind
 ·refine w0N hx ?_; grind
theorem Q0o {a b : Int} (ha : 0 < a) (h : 0 ≤ a * b) : 0 ≤ b := by
 rcases (by omega : b < 0 ∨ 0 ≤ b) with h1 | h1
 ·have := Int.mul_neg_of_pos_of_neg ha h1; omega
 ·exact h1
theorem x0A (a : Tr) : j0P (j0P a (-1)) (-1) = a := by cases a; simp [j0P]
theorem k1N (a : Tr) : tg (j0P a (-1)) = tg a := by
 unfold tg j0P
 simp only [Int.neg_mul, Int.one_mul, Int.natAbs_neg]
theorem Z0D (a : Tr) : tpr (j0P a (-1)) = j0P (tpr a) (-1) := by
 unfold tpr
 rw [k1N]
 split
 ·rfl
 ·simp only [j0P, Int.neg_mul, Int.one_mul, Int.neg_tdiv]
theorem Z0C {a : Tr} : j0P a (-1) = tz ↔ a = tz := by
 constructor
 ·intro h
  have := congrArg (fun v => j0P v (-1)) h
  simp only [x0A] at this
  rw [this]; rfl
 ·rintro rfl; rfl
structure OutF (l : List Tr) (a b c : Nat) (n : Tr) : Prop where
 ha : a < l.length
 hb : b < l.length
 hc : c < l.length
 ne : tac (gt l a) (gt l b) (gt l c) ≠ tz
 ev : n = tpr (tac (gt l a) (gt l b) (gt l c))
 le : ∀ i, i < l.length → j0b n (gt l i) ≤ j0b n (gt l a)
theorem z1H (a b c : Tr) : j0b (tac a b c) b = j0b (tac a b c) a := by simp only [tac, j0b, tcr, j0E]; grind
theorem z1I (a b c : Tr) : j0b (tac a b c) c = j0b (tac a b c) a := by simp only [tac, j0b, tcr, j0E]; grind
theorem V0G {v a b : Tr} (h : v ≠ tz) (e : j0b v a = j0b v b) : j0b (tpr v) a = j0b (tpr v) b := by
 obtain ⟨g, hg, hd⟩ := Q0N h
 rw [hd, hd] at e
 exact Int.eq_of_mul_eq_mul_left xO e
theorem OutF.at1 {l : List Tr} {a b c : Nat} {n : Tr} (h : OutF l a b c n) : j0b n (gt l b) = j0b n (gt l a) := by
 rw [h.ev]; exact V0G h.ne (z1H _ _ _)
theorem OutF.at2 {l : List Tr} {a b c : Nat} {n : Tr} (h : OutF l a b c n) : j0b n (gt l c) = j0b n (gt l a) := by
 rw [h.ev]; exact V0G h.ne (z1I _ _ _)
theorem OutF.nz {l : List Tr} {a b c : Nat} {n : Tr} (h : OutF l a b c n) : n ≠ tz := by rw [h.ev]; exact V0H h.ne
theorem z0c {l : List Tr} (hS : Sol l) {n : Tr} (hn : n ≠ tz) (m : Int) : ∃ i, i < l.length ∧ j0b n (gt l i) ≠ m := by
 refine Classical.byContradiction fun hno => ?_
 have hz : ∀ i, i < l.length → j0b n (gt l i) = m := fun i hi => Classical.byContradiction fun h => hno ⟨i, hi, h⟩
 obtain ⟨a, b, c, d, ha, hb, hc, hd, h⟩ := hS
 apply h
 have e : ∀ i, i < l.length → j0b n (j0E (gt l i) (gt l a)) = 0 := fun i hi => by
  have h1 := hz i hi
  have h2 := hz a ha
  simp only [j0b, j0E] at *
  grind
 exact k0b hn (e b hb) (e c hc) (e d hd)
theorem K1C {p : Nat → Bool} {n i : Nat} (hi : i < n) (h : p i = true) : (List.range n).any p = true := List.any_eq_true.2 ⟨i, List.mem_range.2 hi, h⟩
theorem J1c {p : Nat → Bool} {n : Nat} (h : ∀ i, i < n → p i = false) : (List.range n).any p = false := by
 rw [List.any_eq_false]
 intro i hi
 rw [h i (List.mem_range.1 hi)]
 decide
theorem w1b {l : List Tr} {i j k' : Nat} (h : plB l i j k' = true) : ∀ {k}, k' < k → plF l i j k' ∈ pK l i j k
 |k + 1, hk => by
  unfold pK
  rw [List.mem_append]
  by_cases e : k' = k
  ·subst e; rw [if_pos h]; exact .inr (List.mem_singleton.2 rfl)
  ·exact .inl (w1b h xO)
theorem w1a {l : List Tr} {i j' k' : Nat} (h : plB l i j' k' = true) (hk : k' < j') : ∀ {j}, j' < j → plF l i j' k' ∈ pJ l i j
 |j + 1, hj => by
  unfold pJ
  rw [List.mem_append]
  by_cases e : j' = j
  ·subst e; exact .inr (w1b h hk)
  ·exact .inl (w1a h hk xO)
theorem v1Z {l : List Tr} {i' j' k' : Nat} (h : plB l i' j' k' = true) (hk : k' < j') (hj : j' < i') : ∀ {i}, i' < i → plF l i' j' k' ∈ pI l i
 |i + 1, hi => by
  unfold pI
  rw [List.mem_append]
  by_cases e : i' = i
  ·subst e; exact .inr (w1a h hk hj)
  ·exact .inl (v1Z h hk hj xO)
theorem w1m (l : List Tr) (i j k : Nat) : plN l i j k = tpr (tac (gt l k) (gt l i) (gt l j)) := rfl
theorem V0A {l : List Tr} {f : Fc} (h : f ∈ j0T l) : ∃ a b c, OutF l a b c f.n := by
 have hF := q0S h
 obtain ⟨i, j, k, h1, h2, h3, h4, e⟩ := k0Q h
 unfold plB at h4
 rw [Bool.and_eq_true, decide_eq_true_eq] at h4
 have hne : tac (gt l k) (gt l i) (gt l j) ≠ tz := fun e => h4.1 (by rw [w1m, e]; rfl)
 have hne' : tac (gt l k) (gt l j) (gt l i) ≠ tz := by rw [x1s]; exact q0A hne
 have hm : ∀ n m, f.n = n → f.m = m → j0b n (gt l k) = m → ∀ q, q < l.length → j0b f.n (gt l q) ≤ j0b f.n (gt l k) := by
  rintro n m rfl rfl hk q hq
  rw [hk]; exact hF.le q hq
 unfold plF J1t at e
 split at e
 ·refine ⟨k, j, i, by omega, by omega, by omega, hne', ?_, ?_⟩
  ·rw [e, x1s, Z0D]; rfl
  ·refine hm _ _ (by rw [e]) (by rw [e]) ?_
   rw [j0z]; rfl
 ·refine ⟨k, i, j, by omega, by omega, by omega, hne, ?_, ?_⟩
  ·rw [e]; rfl
  ·exact hm (plN l i j k) (plM l i j k) (by rw [e]) (by rw [e]) rfl
theorem w1p {l : List Tr} (hS : Sol l) {f : Fc} (hF : IsF l f) {a b c : Nat} (h : OutF l a b c f.n) : f ∈ j0T l := by
 obtain ⟨i, j, k, hi, hj, hk, hne, hpm, ei, ej, ek⟩ := Z0p (n := l.length) (P := fun i j k => tac (gt l k) (gt l i) (gt l j) ≠ tz ∧ (tpr (tac (gt l k) (gt l i) (gt l j)) = f.n ∨ tpr (tac (gt l k) (gt l i) (gt l j)) = j0P f.n (-1)) ∧ j0b f.n (gt l i) = f.m ∧ j0b f.n (gt l j) = f.m ∧ j0b f.n (gt l k) = f.m) (fun x y z ⟨h1, h2, h3, h4, h5⟩ => ⟨by rw [x1s]; exact q0A h1, by
   rw [x1s, Z0D]
   rcases h2 with h2 | h2
   ·exact .inr (by rw [h2])
   ·exact .inl (by rw [h2, x0A]), h4, h3, h5⟩) (fun x y z ⟨h1, h2, h3, h4, h5⟩ => by
   have e : tac (gt l y) (gt l x) (gt l z) = j0P (tac (gt l z) (gt l x) (gt l y)) (-1) := by
    simp only [tac, tcr, j0E, j0P, Tr.mk.injEq]; refine ⟨?_, ?_, ?_⟩ <;> grind
   refine ⟨by rw [e]; exact q0A h1, ?_, h3, h5, h4⟩
   rw [e, Z0D]
   rcases h2 with h2 | h2
   ·exact .inr (by rw [h2])
   ·exact .inl (by rw [h2, x0A])) (fun x y ⟨h1, _⟩ => h1 (by
   simp only [tac, tcr, j0E, tz, Tr.mk.injEq]; refine ⟨?_, ?_, ?_⟩ <;> grind)) h.hb h.hc h.ha (by
   have hm : j0b f.n (gt l a) = f.m := by
    obtain ⟨q, hq, e⟩ := hF.at_
    have := h.le q hq
    have := hF.le a h.ha
    omega
   exact ⟨h.ne, .inl h.ev.symm, by rw [h.at1, hm], by rw [h.at2, hm], hm⟩)
 have hb : plB l i j k = true ∧ plF l i j k = f := by
  obtain ⟨q, hq, hqm⟩ := z0c hS h.nz f.m
  have hq' := hF.le q hq
  unfold plB plF J1t X1T plM
  rw [w1m]
  rcases hpm with e | e
  ·rw [e, ek]
   have hg : y0w l f.n f.m l.length = false := J1c fun i hi => by
    have := hF.le i hi
    rw [decide_eq_false_iff_not]; omega
   rw [hg]
   refine ⟨by simp [h.nz], ?_⟩
   rw [if_neg (by decide), ← hF.s]
  ·rw [e, j0z, ek]
   have hg : y0w l (j0P f.n (-1)) (-f.m) l.length = true := K1C hq (by rw [decide_eq_true_eq, j0z]; omega)
   have hl : Q0T l (j0P f.n (-1)) (-f.m) l.length = false := J1c fun i hi => by
    have := hF.le i hi
    rw [decide_eq_false_iff_not, j0z]; omega
   rw [hg, hl]
   refine ⟨by simp [Z0C, h.nz], ?_⟩
   rw [if_pos rfl, x0A, Int.neg_neg, k0U, ← hF.s]
 rw [← hb.2]
 exact v1Z hb.1 hk hj hi
theorem J1G (a : Tr) : ¬ y0u a a := by unfold y0u; omega
theorem J1H {a b c : Tr} (h1 : y0u a b) (h2 : y0u b c) : y0u a c := by unfold y0u at *; omega
theorem W1c {a b : Tr} (h1 : ¬ y0u a b) (h2 : ¬ y0u b a) : a = b := by
 unfold y0u at *
 exact q0T xO xO xO
def LexS (K : List Fc) : Prop := K.Pairwise (fun a b => y0u a.n b.n)
theorem X0J {L : List Fc} {f : Fc} (h : f ∈ L) : ∃ i, i < L.length ∧ gf L i = f := by
 obtain ⟨i, hi, e⟩ := List.getElem_of_mem h
 exact ⟨i, hi, by rw [j1k hi, e]⟩
theorem q1H {L : List Fc} (hu : ∀ f ∈ L, ∀ g ∈ L, f.n = g.n → f = g) (hs : L.Pairwise (fun a b => leF a b = true)) : ∀ m, m ≤ L.length → LexS (q0L L m) ∧ ∀ f, f ∈ q0L L m ↔ ∃ i, i < m ∧ gf L i = f
 |0, _ => ⟨List.Pairwise.nil, fun f => ⟨fun h => (by cases h), fun ⟨i, hi, _⟩ => absurd hi (Nat.not_lt_zero _)⟩⟩
 |m + 1, hm => by
  obtain ⟨ih1, ih2⟩ := q1H hu hs m xO
  have hle : ∀ i j, i < j → j < L.length → ¬ y0u (gf L j).n (gf L i).n := fun i j hij hj => by
   have := List.pairwise_iff_getElem.1 hs i j xO hj hij
   unfold leF at this
   rw [Bool.not_eq_true', decide_eq_false_iff_not] at this
   rw [j1k hj, j1k (by omega)]
   exact this
  rw [w0V]
  split
  ·rename_i hc
   refine ⟨?_, fun f => ?_⟩
   ·unfold LexS at *
    rw [List.pairwise_append]
    refine ⟨ih1, List.pairwise_singleton _ _, fun x hx y hy => ?_⟩
    rw [List.mem_singleton] at hy
    subst hy
    obtain ⟨i, hi, rfl⟩ := (ih2 x).1 hx
    unfold x0V at hc
    rw [Bool.or_eq_true, decide_eq_true_eq, decide_eq_true_eq] at hc
    have hne := hc.resolve_left xO
    have h1 : y0u (gf L (m - 1)).n (gf L m).n := Classical.byContradiction fun h => hne (W1c (hle (m - 1) m xO xO) h)
    by_cases e : i = m - 1
    ·rw [e]; exact h1
    ·have h2 := hle i (m - 1) xO xO
     by_cases h3 : y0u (gf L i).n (gf L (m - 1)).n
     ·exact J1H h3 h1
     ·rw [W1c h3 h2]; exact h1
   ·rw [List.mem_append, List.mem_singleton, ih2]
    constructor
    ·rintro (⟨i, hi, e⟩ | e)
     ·exact ⟨i, by omega, e⟩
     ·exact ⟨m, by omega, e.symm⟩
    ·rintro ⟨i, hi, e⟩
     by_cases h : i = m
     ·subst h; exact .inr e.symm
     ·exact .inl ⟨i, by omega, e⟩
  ·rename_i hc
   refine ⟨ih1, fun f => ?_⟩
   rw [ih2]
   constructor
   ·rintro ⟨i, hi, e⟩; exact ⟨i, by omega, e⟩
   ·rintro ⟨i, hi, e⟩
    by_cases h : i = m
    ·subst h
     unfold x0V at hc
     rw [Bool.or_eq_true, decide_eq_true_eq, decide_eq_true_eq, not_or] at hc
     have hn : (gf L i).n = (gf L (i - 1)).n := Classical.byContradiction hc.2
     exact ⟨i - 1, by omega, by rw [← e]; exact (hu _ (y0Y (by omega)) _ (y0Y (by omega)) hn).symm⟩
    ·exact ⟨i, by omega, e⟩
theorem V0f {l : List Tr} : LexS (j0i l) ∧ ∀ f, f ∈ j0i l ↔ f ∈ j0T l := by
 have hp := List.mergeSort_perm (j0T l) leF
 obtain ⟨h1, h2⟩ := q1H (L := J0c (j0T l)) (fun f hf g hg h => v1I (q0S (hp.mem_iff.1 hf)) (q0S (hp.mem_iff.1 hg)) h) (List.pairwise_mergeSort J1E J1D _) _ (Nat.le_refl _)
 refine ⟨h1, fun f => (h2 f).trans ?_⟩
 rw [← hp.mem_iff]
 exact ⟨fun ⟨i, hi, e⟩ => e ▸ y0Y hi, X0J⟩
theorem z0w {l : List Tr} (hS : Sol l) (f : Fc) : f ∈ j0i l ↔ IsF l f ∧ ∃ a b c, OutF l a b c f.n := by
 rw [V0f.2]
 exact ⟨fun h => ⟨q0S h, V0A h⟩, fun ⟨h1, a, b, c, h2⟩ => w1p hS h1 h2⟩
end Go.Proofs.YtgblokifbgeegaaGreatDoor.H.S
