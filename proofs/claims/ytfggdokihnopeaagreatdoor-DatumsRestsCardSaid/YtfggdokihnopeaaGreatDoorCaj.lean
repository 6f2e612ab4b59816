/- A part of the proof. -/
import Derived.Lib.AppendZerosOnto
import Derived.Lib.Overlaps
import Derived.Laws.Externs
import Derived.Test.YtfggdokihnopeaaGreatDoorCaf
set_option linter.unusedVariables false
set_option linter.unusedSimpArgs false
section
namespace Go.Vc
open Go Go.RowKit
section
variable {P : Program} {E : Env} {T T' : Tab} {O O' : Own} {o : Oper} {d : Option Tmp} {ty : TypeId} {pos : String} {af : Array Edge} {g : Option (Nat × Bool)}
theorem q0Y {t : TypeId} {x y : Operand} {r off : Nat} {u : Value} (ht : ∀ p : Option Addr, P.built t [(0, .pointer p), (1, u)] = some #[.pointer p, u]) (hx : T.ev x = .own r off) (hy : T.ev y = .av (.val u)) :
  GV P E ⟨d, .build t #[(0, x), (1, y)], ty, pos, af, g⟩ T O (.agg [.own r off, .av (.val u)]) [] [] :=
 j0p [] fun Z ν a w h _ => by
  obtain ⟨b, hb, hax⟩ := z0u hx (h x (by simp [Op.operands]))
  have hv := j0w hy (h y (by simp [Op.operands]))
  have hr := run_build (P := P) w t #[(0, .pointer (some ⟨b, off, none⟩)), (1, u)] #[.pointer (some ⟨b, off, none⟩), u] (by simpa using ht _)
  exact ⟨.agg #[.pointer (some ⟨b, off, none⟩), u], by simp [execOp, hax, hv, hr], [.pointer (some ⟨b, off, none⟩), u], rfl, ⟨b, hb, rfl⟩, rfl, trivial⟩
theorem x0U {t e : TypeId} {x y z : Operand} {r o1 o2 o3 : Nat} {u1 u2 u3 : Value} (q : Nat) (hne : Nat.beq r q = false)
  (hb : ∀ (p1 p2 p3 : Option Addr) w, (Instr.buildSlice t 3 #[(0, .agg #[.pointer p1, u1]), (1, .agg #[.pointer p2, u2]), (2, .agg #[.pointer p3, u3])]).run P w = .ok (.slice (some ⟨w.heap.size, 0, none⟩) 3 3) (w.alloc (.cells #[.pointer p1, u1, .pointer p2, u2, .pointer p3, u3] e)))
  (hx : T.ev x = .agg [.own r o1, .av (.val u1)]) (hy : T.ev y = .agg [.own r o2, .av (.val u2)]) (hz : T.ev z = .agg [.own r o3, .av (.val u3)]) (hp : Nat.blt q 1000 = true := by first | rfl | assumption) :
  GA P E ⟨d, .buildSlice t 3 #[(0, x), (1, y), (2, z)], ty, pos, af, g⟩ T O (.osl q) [] q (.srow e 2 3 [.own r o1, .av (.val u1), .own r o2, .av (.val u2), .own r o3, .av (.val u3)]) := by
 have hrq : r ≠ q := fun e => by subst e; simp at hne
 refine ⟨fun T' O' hT hO hf => VStep.freshP (r := q) ⟨by intro c; simp, fun Z ν a w hs => ?_⟩ hf, by intro c; simp⟩
 have hv : ∀ {v : Operand} {oo : Nat} {u : Value}, T.ev v = .agg [.own r oo, .av (.val u)] → v ∈ [x, y, z] → ∃ b, ν r = .pointer (some ⟨b, 0, none⟩) ∧ a.eval v = .agg #[.pointer (some ⟨b, oo, none⟩), u] := by
  intro v oo u hv hm
  have ev := j0G hs v
  rw [j0r (o := ⟨d, .buildSlice t 3 #[(0, x), (1, y), (2, z)], ty, pos, af, g⟩) hT (by simp only [List.mem_cons, List.not_mem_nil, or_false] at hm; rcases hm with rfl | rfl | rfl <;> simp [Op.operands]), hv] at ev
  obtain ⟨vs, h1, h2⟩ := ev
  match vs, h2 with
  |[p, u'], ⟨⟨b, hb1, hb2⟩, h3, _⟩ => exact ⟨b, hb1, by rw [h1, hb2, show u' = u from h3]⟩
 obtain ⟨b, hb0, e1⟩ := hv hx (by simp)
 obtain ⟨b', hb1, e2⟩ := hv hy (by simp)
 obtain ⟨b'', hb2, e3⟩ := hv hz (by simp)
 rw [hb0] at hb1 hb2
 simp only [Value.pointer.injEq, Option.some.injEq, Addr.mk.injEq, and_true] at hb1 hb2
 subst hb1
 subst hb2
 have hr := hb (some ⟨b, o1, none⟩) (some ⟨b, o2, none⟩) (some ⟨b, o3, none⟩) w
 refine j0B (w' := w.alloc (.cells #[.pointer (some ⟨b, o1, none⟩), u1, .pointer (some ⟨b, o2, none⟩), u2, .pointer (some ⟨b, o3, none⟩), u3] e)) (v := .slice (some ⟨w.heap.size, 0, none⟩) 3 3) (by simp [execOp, e1, e2, e3, hr]) ⟨_, Z, q0V ν q _, rfl, hs.newRes q hp _ _ _ rfl (fun hm hk hnz => ?_), (if_pos rfl : q0V ν q _ q = _).symm⟩
 have hnu : ∀ v, q0V ν q v r = ν r := fun v => if_neg hrq
 refine .inr ⟨w.heap.size, 3, _, rfl, hk, hnz, heap_alloc_new _ _, Nat.le_refl _, by decide, ⟨rfl, rfl⟩, fun i s hs => ?_⟩
 match i, hs with
 |0, hs => simp at hs; subst hs; exact ⟨_, rfl, b, by rw [hnu]; exact hb0, rfl⟩
 |1, hs => simp at hs; subst hs; exact ⟨_, rfl, rfl⟩
 |2, hs => simp at hs; subst hs; exact ⟨_, rfl, b, by rw [hnu]; exact hb0, rfl⟩
 |3, hs => simp at hs; subst hs; exact ⟨_, rfl, rfl⟩
 |4, hs => simp at hs; subst hs; exact ⟨_, rfl, b, by rw [hnu]; exact hb0, rfl⟩
 |5, hs => simp at hs; subst hs; exact ⟨_, rfl, rfl⟩
 |i + 6, hs => simp at hs
theorem v0a {t : TypeId} {x : Operand} {q r o1 n ety i : Nat} {cs : List SV} {u : Value} [ht : AggTy P t 2] (hx : T.ev x = .oel q 2 i 0) (hr : look O q = some (.srow ety 2 n cs)) (h0 : cs[i * 2]? = some (.own r o1)) (h1 : cs[i * 2 + 1]? = some (.av (.val u))) :
  GV P E ⟨d, .load t x, ty, pos, af, g⟩ T O (.agg [.own r o1, .av (.val u)]) [q] [] :=
 j0p [q] fun Z ν a w h hO => by
  have := h x (by simp [Op.operands])
  rw [hx] at this
  obtain ⟨b, m, c, hb, hax⟩ := this
  obtain ⟨v0, k0, bb, e0, rfl⟩ := X0A (hO q (by simp) _ hr) hb h0
  obtain ⟨v1, k1, e1⟩ := X0A (hO q (by simp) _ hr) hb h1
  have e1' : v1 = u := e1
  subst e1'
  have hl := run_loadCells_list (P := P) (w := w) ⟨b, i * 2, none⟩ [.pointer (some ⟨bb, o1, none⟩), v1] (fun j v hj => by
   match j, hj with
   |0, hj => simp at hj; subst hj; rw [j0I]; exact k0
   |1, hj => simp at hj; subst hj; rw [j0I]; exact k1
   |j + 2, hj => simp at hj)
  rw [Nat.add_zero] at hax
  exact ⟨.agg #[.pointer (some ⟨bb, o1, none⟩), v1], by simp [execOp, Instr.loadAt, hax, Instr.sureAddr, loadVar, ht.agg w, ht.size w] at hl ⊢; simp [hl], [.pointer (some ⟨bb, o1, none⟩), v1], rfl, ⟨bb, e0, rfl⟩, rfl, trivial⟩
theorem q0D {t : TypeId} {x y : Operand} {r q o1 off : Nat} {cs : List SV} {u : Value} [ht : SizeTy P t 2] (hx : T.ev x = .own r off) (hy : T.ev y = .agg [.own q o1, .av (.val u)]) (h1 : u.oneCell' = true) (hr : look O r = some (.cells cs)) (hfit' : Nat.ble (off + 2) cs.length = true) :
  GV P E ⟨d, .store t x y, ty, pos, af, g⟩ T O (.av .any) [r] [(r, .cells (spl cs off [.own q o1, .av (.val u)]))] := by
 refine ⟨fun T' O' hT hO => ⟨by intro c; simp, fun Z ν a w hs => ?_⟩⟩
 have ex := j0G hs x
 rw [j0r (o := ⟨d, .store t x y, ty, pos, af, g⟩) hT (by simp [Op.operands]), hx] at ex
 have ey := j0G hs y
 rw [j0r (o := ⟨d, .store t x y, ty, pos, af, g⟩) hT (by simp [Op.operands]), hy] at ey
 obtain ⟨b, hb, hax⟩ := ex
 have hfit : off + 2 ≤ cs.length := Nat.le_of_ble_eq_true hfit'
 obtain ⟨vs, e1, e2⟩ := ey
 match vs, e2 with
 |[p, u'], ⟨⟨bb, hb1, hb2⟩, h3, _⟩ =>
  subst hb2
  have h3' : u' = u := h3
  subst h3'
  obtain ⟨w', hst, hsat⟩ := hs.storeOwn (P := P) (ss := [.own q o1, .av (.val u')]) (vs := [.pointer (some ⟨bb, o1, none⟩), u']) (by rw [hO r (by simp)]; exact hr) hb hfit ⟨⟨bb, hb1, rfl⟩, rfl, trivial⟩ (by simpa [Value.oneCell'] using h1)
  unfold Oper.wp
  have hrun : (execOp a.eval ⟨d, .store t x y, ty, pos, af, g⟩).run P w = .ok .skip w' := by
   simp [execOp, Instr.storeAt, hax, Instr.sureAddr, storeVar, ht.run w, e1, Value.cells, hst]
  rw [hrun]
  exact ⟨Go.undef, Z, ν, rfl, hsat, trivial⟩
theorem j1q {Q : Exit → Act → World → Prop} {c y : Code} (T' : Tab) (O' : Own) (h : CQ P E (Exit.then (fun a w => Sat E T' O' a w) Q) T O c) (hy : CQ P E Q T' O' y) : CQ P E (Exit.then (y.wpIn (fc E.round) 0 P Q) Q) T O c := by
 refine ⟨fun a w hs => wpIn_mono (h.sq a w hs) ?_⟩
 intro e a' w' hq
 cases e with
 |normal => exact hy.sq a' w' hq
 |exit id => exact hq
 |goto l => exact hq
 |ret => exact hq
 |panic ch => exact hq
 |outgrown => exact hq
end
end Go.Vc
end
section
namespace Go.Vc
open Go Go.RowKit
section
variable {P : Program} {E : Env} {T T' : Tab} {O O' : Own} {d : Option Tmp} {ty : TypeId} {pos : String} {af : Array Edge} {g : Option (Nat × Bool)}
def opφ (b : Nat) (ty : TypeId) (sz n cap : Nat) (f : Nat → Nat → AV) : j0q → World → Value → Obj → Prop := fun Z w v ob =>
 (∃ m, v = .slice (some ⟨b, 0, none⟩) m cap) ∧ n ≤ cap ∧ cap ≤ maxLen ∧ ∃ arr, ob = .cells arr ty (0, 0) ∧ arr.size = cap * sz ∧ ∀ i, i < n → ∀ j, j < sz → ∃ u, arr[i * sz + j]? = some u ∧ (f i j).ok Z w u
theorem Y1R (b : Nat) (ty : TypeId) (sz n cap : Nat) (f : Nat → Nat → AV) : RStable (opφ b ty sz n cap f) := by
 rintro Z Z' w w' v ob h1 h2 h3 ⟨h4, h5, h6, arr, h7, h8, h9⟩
 exact ⟨h4, h5, h6, arr, h7, h8, fun i hi j hj => let ⟨u, hu, hk⟩ := h9 i hi j hj; ⟨u, hu, AV.ok_mono h1 h2 h3 _ _ hk⟩⟩
abbrev Res.op (b : Nat) (ty : TypeId) (sz n cap : Nat) (f : Nat → Nat → AV) : Res := .obj (opφ b ty sz n cap f) (Y1R b ty sz n cap f)
theorem SV.frz_is {Z : j0q} {ν : j0N} {w : World} {r : Nat} {τ : AV} (hτ : τ.ok Z w (ν r)) (s : SV) (v : Value) (h : s.ok Z ν w v) : (s.frz r τ).ok Z ν w v := by
 cases s with
 |osl s =>
  cases hb : Nat.beq s r with
  |true =>
   have := Nat.eq_of_beq_eq_true hb
   subst this
   have e : (SV.osl s).frz s τ = .av τ := by simp [SV.frz]
   have h' : v = ν s := h
   rw [e, h']; exact hτ
  |false =>
   have e : (SV.osl s).frz r τ = .osl s := by simp [SV.frz, hb]
   rw [e]; exact h
 |av σ => exact h
 |oel s sz i j => unfold SV.frz; dsimp only; split <;> first | trivial | exact h
 |osx s sz lo n => unfold SV.frz; dsimp only; split <;> first | trivial | exact h
 |own s o => unfold SV.frz; dsimp only; split <;> first | trivial | exact h
 |clo k cs => unfold SV.frz; dsimp only; split <;> first | trivial | exact h
 |tupR s ρs => unfold SV.frz; dsimp only; split <;> first | trivial | exact h
 |agg cs => unfold SV.frz; dsimp only; split <;> first | trivial | exact h
 |tupC cs => unfold SV.frz; dsimp only; split <;> first | trivial | exact h
 |fnC k cs => unfold SV.frz; dsimp only; split <;> first | trivial | exact h
 |ocs s o n => unfold SV.frz; dsimp only; split <;> first | trivial | exact h
theorem SatZ.frzT {Z : j0q} {ν : j0N} {a : Act} {w : World} {r : Nat} {τ : AV} (h : SatZ E Z ν T O a w) (hτ : τ.ok Z w (ν r)) : SatZ E Z ν (T.frz r τ) O a w :=
 ⟨h.defers, h.tsize, h.cst, h.pin, h.base, h.own, fun k => by rw [Tab.get_frz]; exact SV.frz_is hτ _ _ (h.slot k)⟩
theorem SatZ.dropO {Z : j0q} {ν : j0N} {a : Act} {w : World} {r : Nat} (h : SatZ E Z ν T O a w) : SatZ E Z ν T (Own.drop r O) a w := by
 have hl : ∀ k x, look (Own.drop r O) k = some x → look O k = some x := fun k x hx => by
  rw [Own.look_drop] at hx
  split at hx
  ·cases hx
  ·exact hx
 have hn : ∀ k, look (Own.drop r O) k ≠ none → look O k ≠ none := fun k hk => by
  cases hx : look (Own.drop r O) k with
  |none => exact absurd hx hk
  |some x => rw [hl k x hx]; simp
 exact ⟨h.defers, h.tsize, h.cst, h.pin, h.base, ⟨fun k x hx => h.own.each k x (hl k x hx), fun k k' hne h1 h2 => h.own.apart k k' hne (hn k h1) (hn k' h2)⟩, h.slot⟩
theorem J1m {Q : Exit → Act → World → Prop} {c : Code} (r : Nat) {ety sz n : Nat} {f : Nat → Nat → AV} (hr : look O r = some (.row ety sz n f))
  (h0 : n = 0 → CQ P E Q (T.frz r (.val (.slice none 0 0))) (Own.drop r O) c)
  (h1 : ∀ b cap, n ≤ cap → CQ P E Q (T.frz r (.val (.slice (some ⟨b, 0, none⟩) n cap))) ((r, .op b ety sz n cap f) :: O) c) : CQ P E Q T O c := by
 refine ⟨fun a w hsat => ?_⟩
 obtain ⟨Z, ν, hs⟩ := hsat
 rcases hs.own.each r _ hr with ⟨e1, e2⟩ | ⟨b, cap, arr, e1, e2, e3, e4, e5, e6, e7, e8⟩
 ·exact (h0 e2).sq a w ⟨Z, ν, (hs.frzT (τ := .val (.slice none 0 0)) e1).dropO⟩
 ·refine (h1 b cap e5).sq a w ⟨Z, ν, (hs.frzT (τ := .val (.slice (some ⟨b, 0, none⟩) n cap)) e1).reobj hr ?_⟩
  exact ⟨b, _, by rw [e1]; rfl, e2, e3, e4, ⟨n, e1⟩, e5, e6, arr, rfl, e7, e8⟩
theorem z0t {Z : j0q} {ν : j0N} {w : World} {v : Value} {b ety sz n cap : Nat} {f : Nat → Nat → AV} (h : Res.ok E Z ν w v (.op b ety sz n cap f)) :
  (∃ m, v = .slice (some ⟨b, 0, none⟩) m cap) ∧ ¬ E.keep b ∧ ¬ Z b ∧ n ≤ cap ∧ cap ≤ maxLen ∧ ∃ arr, w.heap[b]? = some (.cells arr ety (0, 0)) ∧ arr.size = cap * sz ∧ ∀ i, i < n → ∀ j, j < sz → ∃ u, arr[i * sz + j]? = some u ∧ (f i j).ok Z w u := by
 obtain ⟨b', ob, h1, h2, h3, h4, ⟨m, rfl⟩, h6, h7, arr, rfl, h8, h9⟩ := h
 have e : b = b' := by simpa [j0C] using h1
 subst e
 exact ⟨⟨m, rfl⟩, h2, h3, h6, h7, arr, h4, h8, h9⟩
theorem J0u (k r : Nat) {b ety sz n cap : Nat} {f : Nat → Nat → AV} (hd : T.get k = .av (.val (.slice (some ⟨b, 0, none⟩) n cap))) (hr : look O r = some (.op b ety sz n cap f)) (hp : Nat.blt r 1000 = true := by first | rfl | assumption) :
  Ent T O ((k, .osl r) :: T.kill r) ((r, .row ety sz n f) :: Own.kill r O) := by
 rintro E a w ⟨Z, ν, hs⟩
 obtain ⟨⟨m, e1⟩, e2, e3, e4, e5, arr, e6, e7, e8⟩ := z0t (hs.own.each r _ hr)
 have hv : a.tmps.getD k undef = .slice (some ⟨b, 0, none⟩) n cap := by have := hs.slot k; rw [hd] at this; exact this
 have hk := hs.kill r (.slice (some ⟨b, 0, none⟩) n cap) hp
 have hvr : q0V ν r (.slice (some ⟨b, 0, none⟩) n cap) r = .slice (some ⟨b, 0, none⟩) n cap := if_pos rfl
 have hk' := hk.addRes r (.row ety sz n f) (by rw [hvr]; exact .inr ⟨b, cap, arr, rfl, e2, e3, e6, e4, e5, e7, e8⟩) (fun b' hb' r' hne hl => by
  rw [hvr] at hb'
  have hbb : b = b' := by simpa [j0C] using hb'
  subst hbb
  rw [show q0V ν r (.slice (some ⟨b, 0, none⟩) n cap) r' = ν r' from if_neg hne]
  rw [Own.look_kill, if_neg hne] at hl
  exact hs.own.apart r r' (fun e => hne e.symm) (by rw [hr]; simp) (by simpa using hl) b (by rw [e1]; rfl))
 refine ⟨Z, _, hk'.defers, hk'.tsize, hk'.cst, hk'.pin, hk'.base, hk'.own, fun k' => ?_⟩
 by_cases he : k = k'
 ·subst he
  rw [Tab.get_cons_eq]
  show a.tmps.getD k undef = q0V ν r _ r
  rw [hvr, hv]
 ·rw [Tab.get_cons_ne _ _ he]; exact hk'.slot k'
theorem q1t {Z : j0q} {w : World} {b o m sz : Nat} {h : Nat → Nat → AV} (hpos : 0 < sz) (hcell : ∀ i, i < m → ∀ j, j < sz → ∃ u, w.cell? ⟨b, o + i * sz + j, none⟩ = some u ∧ (h i j).ok Z w u) (hone : ∀ i, i < m → ∀ j, j < sz → (h i j).one = true) :
  ∃ news : List Value, news.length = m * sz ∧ (∀ (j : Nat) u, news[j]? = some u → w.cell? ((⟨b, o, none⟩ : Addr).add j) = some u) ∧ (∀ i, i < m → ∀ j, j < sz → ∃ u, news[i * sz + j]? = some u ∧ (h i j).ok Z w u) ∧ ∀ u ∈ news, u.oneCell' = true := by
 have hnew : ∃ news : List Value, news.length = m * sz ∧ (∀ (j : Nat) u, news[j]? = some u → w.cell? ((⟨b, o, none⟩ : Addr).add j) = some u) ∧ (∀ i, i < m → ∀ j, j < sz → ∃ u, news[i * sz + j]? = some u ∧ (h i j).ok Z w u) := by
  refine ⟨(List.range (m * sz)).map fun k => (w.cell? ⟨b, o + k, none⟩).getD undef, by simp, fun j u hj => ?_, fun i hi j hj => ?_⟩
  ·simp only [List.getElem?_map, Option.map_eq_some_iff] at hj
   obtain ⟨k, hk, rfl⟩ := hj
   obtain ⟨hlt, rfl⟩ := List.getElem?_eq_some_iff.1 hk
   simp only [List.length_range] at hlt
   simp only [List.getElem_range]
   have hq : j / sz < m := Nat.div_lt_of_lt_mul (by rw [Nat.mul_comm]; exact hlt)
   obtain ⟨u, hu, _⟩ := hcell (j / sz) hq (j % sz) (Nat.mod_lt _ hpos)
   have : o + j / sz * sz + j % sz = o + j := by rw [Nat.add_assoc, Nat.mul_comm, Nat.div_add_mod]
   rw [this] at hu
   rw [j0I, hu]; rfl
  ·have hlt : i * sz + j < m * sz := by
    have : (i + 1) * sz ≤ m * sz := Nat.mul_le_mul_right _ hi
    rw [Nat.add_mul, Nat.one_mul] at this
    omega
   obtain ⟨u, hu, hk⟩ := hcell i hi j hj
   refine ⟨u, ?_, hk⟩
   simp only [List.getElem?_map, List.getElem?_range hlt, Option.map_some]
   rw [← Nat.add_assoc, hu]; rfl
 obtain ⟨news, hnl, hnc, hnk⟩ := hnew
 refine ⟨news, hnl, hnc, hnk, fun u hu => ?_⟩
 obtain ⟨k, hk, rfl⟩ := List.getElem_of_mem hu
 rw [hnl] at hk
 have hq : k / sz < m := Nat.div_lt_of_lt_mul (by rw [Nat.mul_comm]; exact hk)
 obtain ⟨u, hu', hok⟩ := hnk (k / sz) hq (k % sz) (Nat.mod_lt _ hpos)
 have : k / sz * sz + k % sz = k := by rw [Nat.mul_comm, Nat.div_add_mod]
 rw [this] at hu'
 have e : news[k] = u := by rw [List.getElem?_eq_getElem (by omega)] at hu'; simpa using hu'
 rw [e]
 exact AV.one_cells (hone _ hq _ (Nat.mod_lt _ hpos)) hok
theorem SatZ.drew' {Z : j0q} {ν : j0N} {a : Act} {w : World} (h : SatZ E Z ν T O a w) : SatZ E Z ν T O a w.drew :=
 h.ext rfl rfl rfl (Nat.le_refl _) (fun _ _ => rfl) (fun _ h => h) (fun _ h => .inl h) (fun k hk => h.base.zLt k hk)
end
end Go.Vc
end
section
namespace Go.Vc
open Go Go.RowKit
theorem J0T {P : Program} (w : World) (dT sT ty elem : TypeId) (sz g o dLen dCap : Nat) (a : Addr) (sLen sCap : Nat) (cur : Array Value) (t : TypeId) (cs : List Value)
  (hu : P.underlying dT = some (.slice elem)) (hs : (P.info? elem).map (·.size) = some sz)
  (hg : w.heap[g]? = some (.cells cur t (0, 0))) (hn : cs.length = Nat.min sLen dLen * sz)
  (hsrc : ∀ (j : Nat) v, cs[j]? = some v → w.cell? (a.add j) = some v) (hfit : o + cs.length ≤ cur.size) (h1 : ∀ v ∈ cs, v.oneCell' = true) :
  (Builtin.copy_ #[dT, sT] ty #[.slice (some ⟨g, o, none⟩) dLen dCap, .slice (some a) sLen sCap]).run P w =
   .ok (goInt (Nat.min sLen dLen)) (w.setRow g (cur.toList.take o ++ cs ++ cur.toList.drop (o + cs.length)).toArray) := by
 have hl := run_loadCells_list (P := P) w a cs hsrc
 have hst := run_storeCells_at P g o t cs 0 cur w hg (by simpa using hfit) h1
 cases hq : P.info? elem with
 |none => simp [hq] at hs
 |some i =>
  have hi : i.size = sz := by simpa [hq] using hs
  simp [Builtin.copy_, run_underlying hu, Builtin.lenOf, Builtin.firstCells, sizeOf, typeInfo, hq, hi, ← hn, hl, hst]
theorem Q0T {P : Program} {e : TypeId} {sz : Nat} (h : ∀ w, (sizeOf e).run P w = .ok sz w) : (P.info? e).map (·.size) = some sz := by
 have h := h default
 unfold sizeOf at h
 cases hq : P.info? e with
 |none => simp [typeInfo, hq] at h
 |some i =>
  simp [typeInfo, hq] at h
  simp [h]
section
variable {P : Program} {E : Env} {T : Tab} {O : Own} {d : Option Tmp} {ty : TypeId} {pos : String} {af : Array Edge} {g : Option (Nat × Bool)}
def V1r (lo k : Nat) (f h : Nat → Nat → AV) : Nat → Nat → AV := fun i j => if lo ≤ i ∧ i < lo + k then h (i - lo) j else f i j
theorem X0j {Z : j0q} {ν : j0N} {a : Act} {w : World} {q b ety sz n cap lo k : Nat} {f h : Nat → Nat → AV} {arr : Array Value} {cs : List Value} (hs : SatZ E Z ν T O a w) (hq : look O q = some (.op b ety sz n cap f)) (ha : w.heap[b]? = some (.cells arr ety (0, 0)))
  (hlo : lo + k ≤ n) (hl : cs.length = k * sz) (hc : ∀ i, i < k → ∀ j, j < sz → ∃ u, cs[i * sz + j]? = some u ∧ (h i j).ok Z w u) :
  SatZ E Z ν T ((q, .op b ety sz n cap (V1r lo k f h)) :: O) a (w.setRow b (arr.toList.take (lo * sz) ++ cs ++ arr.toList.drop (lo * sz + cs.length)).toArray) := by
 obtain ⟨⟨mm, e1⟩, e2, e3, e4, e5, arr', e6, e7, e8⟩ := z0t (hs.own.each q _ hq)
 rw [ha] at e6
 cases e6
 have h9 : lo * sz + k * sz ≤ n * sz := by rw [← Nat.add_mul]; exact Nat.mul_le_mul_right _ hlo
 have h8 : n * sz ≤ cap * sz := Nat.mul_le_mul_right _ e4
 refine hs.write (w' := w.setRow b _) hq (b := b) (by rw [e1]; rfl) rfl rfl rfl (by simp [World.setRow]) (fun k hk => by simp [World.setRow, Array.getElem?_modify, Ne.symm hk]) (fun hsv => ?_)
 refine ⟨b, _, by rw [e1]; rfl, e2, e3, setRow_heap w b arr _ ety (0, 0) ha, ⟨mm, e1⟩, e4, e5, _, rfl, ?_, fun i hi j hj => ?_⟩
 ·simp only [List.size_toArray, List.length_append, List.length_take, List.length_drop, Array.length_toList]
  omega
 ·obtain ⟨u0, hu0, hk0⟩ := e8 i hi j hj
  have hlt0 : i * sz + j < arr.size := (Array.getElem?_eq_some_iff.1 hu0).1
  have hij : ∀ m, i < m → i * sz + j < m * sz := fun m hm => by
   have : (i + 1) * sz ≤ m * sz := Nat.mul_le_mul_right _ hm
   rw [Nat.add_mul, Nat.one_mul] at this
   omega
  unfold V1r
  by_cases c1 : i < lo
  ·rw [if_neg (by omega)]
   refine ⟨u0, ?_, hsv (.av _) _ hk0⟩
   have := hij lo c1
   rw [List.getElem?_toArray, List.append_assoc, List.getElem?_append_left (by simp; omega), List.getElem?_take_of_lt this]
   simpa using hu0
  ·have hge : lo * sz ≤ i * sz := Nat.mul_le_mul_right _ zO
   have hl0 : i * sz + j - (arr.toList.take (lo * sz)).length = (i - lo) * sz + j := by
    rw [List.length_take, Array.length_toList, Nat.sub_mul]
    omega
   by_cases c2 : i < lo + k
   ·rw [if_pos ⟨by omega, c2⟩]
    obtain ⟨u, hu, hk⟩ := hc (i - lo) zO j hj
    refine ⟨u, ?_, hsv (.av _) _ hk⟩
    rw [List.getElem?_toArray, List.append_assoc, List.getElem?_append_right (by simp; omega), hl0, List.getElem?_append_left (List.getElem?_eq_some_iff.1 hu).1]
    exact hu
   ·rw [if_neg (by omega)]
    refine ⟨u0, ?_, hsv (.av _) _ hk0⟩
    have hge2 : lo * sz + k * sz ≤ i * sz := by rw [← Nat.add_mul]; exact Nat.mul_le_mul_right _ (by omega)
    rw [List.getElem?_toArray, List.append_assoc, List.getElem?_append_right (by simp; omega), hl0, List.getElem?_append_right (by rw [hl, Nat.sub_mul]; omega), List.getElem?_drop]
    rw [show lo * sz + cs.length + ((i - lo) * sz + j - cs.length) = i * sz + j by rw [hl, Nat.sub_mul]; omega]
    simpa using hu0
theorem W0U {t t' e : TypeId} {x y : Operand} {q b o1 ety sz n cap lo l1 c1 m k : Nat} {f h : Nat → Nat → AV} [ht : SlTy P t e sz] (hsz : 0 < sz) (hx : T.ev x = .av (.val (.slice (some ⟨b, o1, none⟩) l1 c1))) (ho : o1 = lo * sz) (hr : look O q = some (.op b ety sz n cap f))
  (hy : T.ev y = .av (.sl m sz h)) (hk : Nat.min m l1 = k) (hk0 : 0 < k) (hle : lo + k ≤ n) (hone : ∀ i, i < m → ∀ j, j < sz → (h i j).one = true) :
  GV P E ⟨d, .call ⟨.builtin .copy, #[x, y], #[t, t']⟩, ty, pos, af, g⟩ T O (.av (.val (.int .i64 ((k : Nat) : Int)))) [q] [(q, .op b ety sz n cap (V1r lo k f h))] := by
 subst ho
 refine ⟨fun T' O' hT hO => ⟨by intro c; simp, fun Z ν a w hs => ?_⟩⟩
 have hx' : T'.ev x = _ := (j0r (o := ⟨d, .call ⟨.builtin .copy, #[x, y], #[t, t']⟩, ty, pos, af, g⟩) hT (by simp [Op.operands, Call.operands])).trans hx
 have hy' : T'.ev y = _ := (j0r (o := ⟨d, .call ⟨.builtin .copy, #[x, y], #[t, t']⟩, ty, pos, af, g⟩) hT (by simp [Op.operands, Call.operands])).trans hy
 have hvx : a.eval x = .slice (some ⟨b, lo * sz, none⟩) l1 c1 := by have := j0G hs x; rw [hx'] at this; exact this
 obtain ⟨p, c, hvy, hmc, hcm, hcells⟩ := K0v hy' (j0G hs y)
 have hkm : k ≤ m := by rw [← hk]; exact Nat.min_le_left _ _
 obtain ⟨b1, o, rfl, hzb, hblt, hcell⟩ := hcells zO
 have hq := (hO q (by simp)).trans hr
 obtain ⟨⟨mm, e1⟩, e2, e3, e4, e5, arr, e6, e7, e8⟩ := z0t (hs.own.each q _ hq)
 obtain ⟨cs, hl, hcs, hcv, hco⟩ := q1t hsz (fun i hi j hj => hcell i (Nat.lt_of_lt_of_le hi hkm) j hj) (fun i hi j hj => hone i (Nat.lt_of_lt_of_le hi hkm) j hj)
 have h9 : lo * sz + k * sz ≤ n * sz := by rw [← Nat.add_mul]; exact Nat.mul_le_mul_right _ hle
 have h8 : n * sz ≤ cap * sz := Nat.mul_le_mul_right _ e4
 have hinf : (P.info? e).map (·.size) = some sz := Q0T ht.size
 have hrun := J0T (P := P) w t t' ty e sz b (lo * sz) l1 c1 ⟨b1, o, none⟩ m c arr ety cs ht.und hinf e6 (by rw [hl, hk]) hcs (by rw [hl, e7]; omega) hco
 refine j0B (w' := _) (v := .int .i64 ((k : Nat) : Int)) ?_ ⟨_, Z, ν, rfl, X0j hs hq e6 hle hl hcv, rfl⟩
 simp only [execOp, resolve, invoke, builtin, Sem.run_bind, Sem.run_pure, Result.andThen_ok, List.map_toArray, List.map_cons, List.map_nil, hvx, hvy, hrun, goInt, hk]
theorem Q0z {t t' e : TypeId} {x y : Operand} {q q2 b b2 o1 o2 ety ety2 sz n n2 cap cap2 lo lo2 l1 l2 c1 c2 k : Nat} {f f2 : Nat → Nat → AV} [ht : SlTy P t e sz] (hsz : 0 < sz) (hx : T.ev x = .av (.val (.slice (some ⟨b, o1, none⟩) l1 c1))) (ho : o1 = lo * sz) (hr : look O q = some (.op b ety sz n cap f))
  (hy : T.ev y = .av (.val (.slice (some ⟨b2, o2, none⟩) l2 c2))) (ho2 : o2 = lo2 * sz) (hr2 : look O q2 = some (.op b2 ety2 sz n2 cap2 f2)) (hk : Nat.min l2 l1 = k) (hle : lo + k ≤ n) (hle2 : lo2 + k ≤ n2) (hone : ∀ i, lo2 ≤ i → i < lo2 + k → ∀ j, j < sz → (f2 i j).one = true) :
  GV P E ⟨d, .call ⟨.builtin .copy, #[x, y], #[t, t']⟩, ty, pos, af, g⟩ T O (.av (.val (.int .i64 ((k : Nat) : Int)))) [q, q2] [(q, .op b ety sz n cap (V1r lo k f (fun i j => f2 (lo2 + i) j)))] := by
 subst ho
 refine ⟨fun T' O' hT hO => ⟨by intro c; simp, fun Z ν a w hs => ?_⟩⟩
 have hx' : T'.ev x = _ := (j0r (o := ⟨d, .call ⟨.builtin .copy, #[x, y], #[t, t']⟩, ty, pos, af, g⟩) hT (by simp [Op.operands, Call.operands])).trans hx
 have hy' : T'.ev y = _ := (j0r (o := ⟨d, .call ⟨.builtin .copy, #[x, y], #[t, t']⟩, ty, pos, af, g⟩) hT (by simp [Op.operands, Call.operands])).trans hy
 have hvx : a.eval x = .slice (some ⟨b, lo * sz, none⟩) l1 c1 := by have := j0G hs x; rw [hx'] at this; exact this
 have hvy : a.eval y = .slice (some ⟨b2, o2, none⟩) l2 c2 := by have := j0G hs y; rw [hy'] at this; exact this
 have hq := (hO q (by simp)).trans hr
 have hq2 := (hO q2 (by simp)).trans hr2
 obtain ⟨⟨mm, e1⟩, e2, e3, e4, e5, arr, e6, e7, e8⟩ := z0t (hs.own.each q _ hq)
 obtain ⟨⟨mm2, a1⟩, a2, a3, a4, a5, arr2, a6, a7, a8⟩ := z0t (hs.own.each q2 _ hq2)
 obtain ⟨cs, hl, hcs, hcv, hco⟩ := q1t (Z := Z) (w := w) (b := b2) (o := o2) (m := k) (h := fun i j => f2 (lo2 + i) j) hsz (fun i hi j hj => by
  obtain ⟨u, hu, hk⟩ := a8 (lo2 + i) zO j hj
  refine ⟨u, ?_, hk⟩
  rw [ho2, ← Nat.add_mul]
  simp [World.cell?, a6, hu]) (fun i hi j hj => hone _ (by omega) (by omega) j hj)
 have h9 : lo * sz + k * sz ≤ n * sz := by rw [← Nat.add_mul]; exact Nat.mul_le_mul_right _ hle
 have h8 : n * sz ≤ cap * sz := Nat.mul_le_mul_right _ e4
 have hinf : (P.info? e).map (·.size) = some sz := Q0T ht.size
 have hrun := J0T (P := P) w t t' ty e sz b (lo * sz) l1 c1 ⟨b2, o2, none⟩ l2 c2 arr ety cs ht.und hinf e6 (by rw [hl, hk]) hcs (by rw [hl, e7]; omega) hco
 refine j0B (w' := _) (v := .int .i64 ((k : Nat) : Int)) ?_ ⟨_, Z, ν, rfl, X0j hs hq e6 hle hl hcv, rfl⟩
 simp only [execOp, resolve, invoke, builtin, Sem.run_bind, Sem.run_pure, Result.andThen_ok, List.map_toArray, List.map_cons, List.map_nil, hvx, hvy, hrun, goInt, hk]
theorem k0O (q : Nat) {b ety sz n n' cap : Nat} {f f' : Nat → Nat → AV} (hr : look O q = some (.op b ety sz n cap f)) (hn : n' ≤ cap) (hf : ∀ i, i < n' → ∀ j, j < sz → (i < n ∧ f' i j = f i j) ∨ f' i j = .any) : Ent T O T ((q, .op b ety sz n' cap f') :: O) := by
 rintro E a w ⟨Z, ν, hs⟩
 obtain ⟨e1, e2, e3, e4, e5, arr, e6, e7, e8⟩ := z0t (hs.own.each q _ hr)
 obtain ⟨m, e1⟩ := e1
 refine ⟨Z, ν, hs.reobj hr ⟨b, _, by rw [e1]; rfl, e2, e3, e6, ⟨m, e1⟩, hn, e5, arr, rfl, e7, fun i hi j hj => ?_⟩⟩
 rcases hf i hi j hj with ⟨h1, h2⟩ | h1
 ·rw [h2]; exact e8 i h1 j hj
 ·have hlt : i * sz + j < arr.size := by
   have : (i + 1) * sz ≤ cap * sz := Nat.mul_le_mul_right _ zO
   rw [Nat.add_mul, Nat.one_mul] at this
   omega
  exact ⟨arr[i * sz + j], by simp [hlt], by rw [h1]; trivial⟩
end
end Go.Vc
end
section
namespace Go.Vc
open Go Go.RowKit
section
variable {P : Program} {E : Env} {T : Tab} {O : Own} {d : Option Tmp} {ty : TypeId} {pos : String} {af : Array Edge} {g : Option (Nat × Bool)}
theorem v0w (z : Array Value) (n : Nat) : (Builtin.zeroCells z n).size = n * z.size := by simp [Builtin.zeroCells]
theorem k0Q {t tn e : TypeId} {x y : Operand} {n sz bytes : Nat} {k kn : IntKind} {i : Int} (r : Nat) [ht : SlTy P t e sz] [he : EltTy P e sz bytes] (hx : T.ev x = .av (.val (.slice none 0 0))) (hy : T.ev y = .av (.val (.int k i))) (hi : i = ↑n) (htn : P.underlying tn = some (.int kn))
  (h0 : 0 < n) (hlen : n ≤ maxLen) (hby : n * bytes ≤ 140737488355328) (hf : q0Q r T O = true) (hp : Nat.blt r 1000 = true := by first | rfl | assumption) :
  VStep P E ⟨d, .call ⟨.builtin .append, #[x, y], #[t, tn]⟩, ty, pos, af, g⟩ T O T ((r, .row e sz n (fun _ _ => .any)) :: O) (.osl r) := by
 refine VStep.fresh (r := r) ⟨by intro c; simp, fun Z ν a w hs => ?_⟩ hf
 have hvx : a.eval x = .slice none 0 0 := j0w hx (j0G hs x)
 have hvy : a.eval y = .int k (n : Int) := by have := j0w hy (j0G hs y); rw [hi] at this; exact this
 obtain ⟨i0, z, hi0, hz, hsz, hbt, hzs, hpos⟩ := he.info
 have hrun := Lib.run_append_nil_zeros (P := P) w t tn ty e i0 z k kn ht.und htn hi0 hz n h0 (by rw [hsz]; exact hpos) (by simp only [maxLen] at hlen; omega) (by rw [hbt]; omega)
 have hge := grownCap_ge w n 0 e
 obtain ⟨ob, hob⟩ : ∃ ob, ob = Obj.cells (Builtin.zeroCells z.cells n ++ Builtin.zeroCells z.cells (grownCap w n 0 e - n)) e (0, 0) := ⟨_, rfl⟩
 have hrun : (Builtin.append_ #[t, tn] ty #[.slice none 0 0, .int k n]).run P w = .ok (.slice (some ⟨w.heap.size, 0, none⟩) n (grownCap w n 0 e)) (w.drew.alloc ob) := by rw [hob]; exact hrun
 refine j0B (w' := w.drew.alloc ob) ?_ ⟨_, Z, q0V ν r (.slice (some ⟨w.drew.heap.size, 0, none⟩) n (grownCap w n 0 e)), rfl, hs.drew'.newRes r hp ob (.slice (some ⟨w.drew.heap.size, 0, none⟩) n (grownCap w n 0 e)) (.row e sz n (fun _ _ => .any)) rfl (fun hsv hnk' hnz => ?_), (if_pos rfl).symm⟩
 ·simp only [execOp, resolve, invoke, builtin, Sem.run_bind, Sem.run_pure, Result.andThen_ok, List.map_toArray, List.map_cons, List.map_nil, hvx, hvy, hrun]; rfl
 ·have hsize : (Builtin.zeroCells z.cells n ++ Builtin.zeroCells z.cells (grownCap w n 0 e - n)).size = grownCap w n 0 e * sz := by
   rw [Array.size_append, v0w, v0w, hzs, ← Nat.add_mul]
   congr 1; omega
  refine .inr ⟨w.drew.heap.size, _, _, rfl, hnk', hnz, (heap_alloc_new _ _).trans (by rw [hob]), hge, grownCap_le_maxLen w n 0 e hlen, hsize, fun a ha j hj => ?_⟩
  have hlt : a * sz + j < (Builtin.zeroCells z.cells n ++ Builtin.zeroCells z.cells (grownCap w n 0 e - n)).size := by
   rw [hsize]
   have : (a + 1) * sz ≤ grownCap w n 0 e * sz := Nat.mul_le_mul_right _ zO
   rw [Nat.add_mul, Nat.one_mul] at this
   omega
  exact ⟨_, Array.getElem?_eq_getElem hlt, trivial⟩
theorem X0Z {t tn e : TypeId} {x y : Operand} {q b l n cap m sz bytes : Nat} {f : Nat → Nat → AV} {k kn : IntKind} {i : Int} (r : Nat) [ht : SlTy P t e sz] [he : EltTy P e sz bytes] (hx : T.ev x = .av (.val (.slice (some ⟨b, 0, none⟩) l cap))) (hr : look O q = some (.op b e sz n cap f)) (hln : l ≤ n)
  (hy : T.ev y = .av (.val (.int k i))) (hi : i = ↑m) (htn : P.underlying tn = some (.int kn)) (h0 : 0 < m) (hfull : cap < l + m) (hlen : l + m ≤ maxLen) (hby : (l + m) * bytes ≤ 140737488355328) (hf : q0Q r T O = true) (hp : Nat.blt r 1000 = true := by first | rfl | assumption) :
  VStep P E ⟨d, .call ⟨.builtin .append, #[x, y], #[t, tn]⟩, ty, pos, af, g⟩ T O T ((r, .row e sz (l + m) (fun a j => if a < l then f a j else .any)) :: O) (.osl r) := by
 refine VStep.fresh (r := r) ⟨by intro c; simp, fun Z ν a w hs => ?_⟩ hf
 have hvx : a.eval x = .slice (some ⟨b, 0, none⟩) l cap := j0w hx (j0G hs x)
 have hvy : a.eval y = .int k (m : Int) := by have := j0w hy (j0G hs y); rw [hi] at this; exact this
 obtain ⟨i0, z, hi0, hz, hsz, hbt, hzs, hpos⟩ := he.info
 obtain ⟨_, e2, e3, e4, e5, arr, e6, e7, e8⟩ := z0t (hs.own.each q _ hr)
 have hlc : l * sz ≤ cap * sz := Nat.mul_le_mul_right _ (Nat.le_trans hln e4)
 have hol : (arr.toList.take (l * sz)).length = l * sz := by rw [List.length_take, Array.length_toList, e7]; omega
 have hold : (Builtin.firstCells i0.size l (.slice (some ⟨b, 0, none⟩) l cap)).run P w.drew = .ok (arr.toList.take (l * sz)).toArray w.drew := by
  have := run_loadCells_list (P := P) w.drew ⟨b, 0, none⟩ (arr.toList.take (l * sz)) (fun j v hj => by
   have hj' := (List.getElem?_eq_some_iff.1 hj).1
   rw [hol] at hj'
   rw [List.getElem?_take_of_lt hj'] at hj
   have hh : w.drew.heap[b]? = some (.cells arr e (0, 0)) := e6
   rw [j0I, Nat.zero_add]
   simp [World.cell?, hh]
   simpa using hj)
  rw [hol] at this
  simp only [Builtin.firstCells, hsz]
  exact this
 have hrun := Lib.run_append_grow_zeros (P := P) w t tn ty e i0 z k kn ht.und htn hi0 hz (some ⟨b, 0, none⟩) l cap (arr.toList.take (l * sz)) hold m h0 (by rw [hsz]; exact hpos) hfull (by simp only [maxLen] at hlen; omega) (by rw [hbt]; exact Nat.le_trans (Nat.le_trans (Nat.mul_le_mul_right _ (Nat.le_add_left m l)) hby) (by decide)) (growslice_fits (by omega) (by rw [hbt]; exact hby))
 have hge := grownCap_ge w (l + m) cap e
 obtain ⟨ob, hob⟩ : ∃ ob, ob = Obj.cells ((arr.toList.take (l * sz)).toArray ++ Builtin.zeroCells z.cells m ++ Builtin.zeroCells z.cells (grownCap w (l + m) cap e - (l + m))) e (0, 0) := ⟨_, rfl⟩
 have hrun : (Builtin.append_ #[t, tn] ty #[.slice (some ⟨b, 0, none⟩) l cap, .int k m]).run P w = .ok (.slice (some ⟨w.heap.size, 0, none⟩) (l + m) (grownCap w (l + m) cap e)) (w.drew.alloc ob) := by rw [hob]; exact hrun
 refine j0B (w' := w.drew.alloc ob) ?_ ⟨_, Z, q0V ν r (.slice (some ⟨w.drew.heap.size, 0, none⟩) (l + m) (grownCap w (l + m) cap e)), rfl, hs.drew'.newRes r hp ob (.slice (some ⟨w.drew.heap.size, 0, none⟩) (l + m) (grownCap w (l + m) cap e)) (.row e sz (l + m) (fun a j => if a < l then f a j else .any)) rfl (fun hsv hnk' hnz => ?_), (if_pos rfl).symm⟩
 ·simp only [execOp, resolve, invoke, builtin, Sem.run_bind, Sem.run_pure, Result.andThen_ok, List.map_toArray, List.map_cons, List.map_nil, hvx, hvy, hrun]; rfl
 ·have hsize : ((arr.toList.take (l * sz)).toArray ++ Builtin.zeroCells z.cells m ++ Builtin.zeroCells z.cells (grownCap w (l + m) cap e - (l + m))).size = grownCap w (l + m) cap e * sz := by
   rw [Array.size_append, Array.size_append, v0w, v0w, hzs, List.size_toArray, hol, ← Nat.add_mul, ← Nat.add_mul]
   congr 1; omega
  refine .inr ⟨w.drew.heap.size, _, _, rfl, hnk', hnz, (heap_alloc_new _ _).trans (by rw [hob]), hge, grownCap_le_maxLen w (l + m) cap e hlen, hsize, fun a ha j hj => ?_⟩
  have hlt : a * sz + j < ((arr.toList.take (l * sz)).toArray ++ Builtin.zeroCells z.cells m ++ Builtin.zeroCells z.cells (grownCap w (l + m) cap e - (l + m))).size := by
   rw [hsize]
   have : (a + 1) * sz ≤ grownCap w (l + m) cap e * sz := Nat.mul_le_mul_right _ zO
   rw [Nat.add_mul, Nat.one_mul] at this
   omega
  by_cases hal : a < l
  ·rw [show (fun a j => if a < l then f a j else AV.any) a j = f a j from if_pos hal]
   obtain ⟨u, hu, hk⟩ := e8 a zO j hj
   refine ⟨u, ?_, hsv (.av (f a j)) u rfl (AV.ok_mono (w := w) (w' := w.drew) (Z := Z) (fun _ h => h) (Nat.le_refl _) (fun _ _ _ => rfl) _ _ hk)⟩
   have h1 : a * sz + j < l * sz := by
    have : (a + 1) * sz ≤ l * sz := Nat.mul_le_mul_right _ hal
    rw [Nat.add_mul, Nat.one_mul] at this
    omega
   rw [Array.append_assoc, Array.getElem?_append_left (by rw [List.size_toArray, hol]; exact h1), List.getElem?_toArray, List.getElem?_take_of_lt h1]
   simpa using hu
  ·rw [show (fun a j => if a < l then f a j else AV.any) a j = AV.any from if_neg hal]
   exact ⟨_, Array.getElem?_eq_getElem hlt, trivial⟩
end
end Go.Vc
end
section
namespace Go.Vc
open Go Go.RowKit
def Z1O (sz : Nat) (f : Nat → AV) : j0q → World → Value → Prop := fun Z w v => ∃ b arr ty, v = .slice (some ⟨b, 0, none⟩) 1 1 ∧ Z b ∧ b < w.heap.size ∧ w.heap[b]? = some (.cells arr ty (0, 0)) ∧ arr.size = sz ∧ ∀ j, j < sz → ∃ u, arr[j]? = some u ∧ (f j).ok Z w u
theorem X1R (sz : Nat) (f : Nat → AV) : y0I (Z1O sz f) := fun Z Z' w w' v hZ hs hw ⟨b, arr, ty, h1, h2, h3, h4, h5, h6⟩ =>
 ⟨b, arr, ty, h1, hZ b h2, Nat.lt_of_lt_of_le h3 hs, (hw b h2 h3).trans h4, h5, fun j hj => let ⟨u, hu, hk⟩ := h6 j hj; ⟨u, hu, AV.ok_mono hZ hs hw _ _ hk⟩⟩
abbrev AV.vob (sz : Nat) (f : Nat → AV) : AV := .ob (Z1O sz f) (X1R sz f)
theorem X1Q {sz : Nat} {f : Nat → AV} {Z : j0q} {w : World} {v : Value} (h : (AV.vob sz f).ok Z w v) : (AV.sl 1 sz (fun _ j => f j)).ok Z w v := by
 obtain ⟨b, arr, ty, rfl, h2, h3, h4, h5, h6⟩ := h
 refine ⟨_, 1, rfl, Nat.le_refl _, by decide, fun _ => ⟨b, 0, rfl, fun _ => h2, h3, fun i hi j hj => ?_⟩⟩
 obtain rfl : i = 0 := by omega
 obtain ⟨u, hu, hk⟩ := h6 j hj
 exact ⟨u, by simp [World.cell?, h4, hu], hk⟩
section
variable {P : Program} {E : Env} {T : Tab} {O : Own} {d : Option Tmp} {ty : TypeId} {pos : String} {af : Array Edge} {g : Option (Nat × Bool)}
theorem V0u {k sz : Nat} {f : Nat → AV} (h : T.get k = .av (.vob sz f)) : Ent T O ((k, .av (.sl 1 sz (fun _ j => f j))) :: T) O := by
 rintro E a w ⟨Z, ν, hs⟩
 refine ⟨Z, ν, hs.defers, hs.tsize, hs.cst, hs.pin, hs.base, hs.own, fun d => ?_⟩
 by_cases he : k = d
 ·subst he
  rw [Tab.get_cons_eq]
  have := hs.slot k
  rw [h] at this
  exact X1Q this
 ·rw [Tab.get_cons_ne _ _ he]; exact hs.slot d
theorem W0V {t e : TypeId} {x : Operand} {sz : Nat} {f : Nat → AV} [ht : SlTy P t e sz] (hx : T.ev x = .av (.vob sz f)) : GV P E ⟨d, .call ⟨.builtin .len, #[x], #[t]⟩, ty, pos, af, g⟩ T O (.av (.val (.int .i64 1))) [] [] :=
 j0p [] fun Z ν a w h _ => by
  have hv := h x (by simp [Op.operands, Call.operands])
  rw [hx] at hv
  obtain ⟨b, arr, ty, hv, _⟩ := hv
  exact ⟨.int .i64 1, by simp [execOp, resolve, invoke, builtin, hv, Builtin.len_, Builtin.lenOf, run_underlying ht.und, goInt], rfl⟩
theorem J0y {t e : TypeId} {x : Operand} {sz n c : Nat} {p : Option Addr} [ht : SlTy P t e sz] (hx : T.ev x = .av (.val (.slice p n c))) : GV P E ⟨d, .call ⟨.builtin .cap, #[x], #[t]⟩, ty, pos, af, g⟩ T O (.av (.val (.int .i64 (c : Int)))) [] [] :=
 j0p [] fun Z ν a w h _ => by
  have hv := j0w hx (h x (by simp [Op.operands, Call.operands]))
  exact ⟨.int .i64 (c : Int), by simp [execOp, resolve, invoke, builtin, hv, Builtin.cap_, run_underlying ht.und, goInt], rfl⟩
theorem v0q {t e : TypeId} {x y : Operand} {sz b o n c l : Nat} {q : IntKind} {i : Int} [ht : SlTy P t e sz] (hx : T.ev x = .av (.val (.slice (some ⟨b, o, none⟩) n c))) (hy : T.ev y = .av (.val (.int q i))) (hi : i = ↑l) (hl : l ≤ n) (hc : l < c) :
  GV P E ⟨d, .slice t x (some y) none none, ty, pos, af, g⟩ T O (.av (.val (.slice (some ⟨b, o + l * sz, none⟩) (n - l) (c - l)))) [] [] :=
 j0p [] fun Z ν a w h _ => by
  have hv := j0w hx (h x (by simp [Op.operands]))
  have hw := j0w hy (h y (by simp [Op.operands]))
  rw [hi] at hw
  have h6 : ¬ c = l := by omega
  refine ⟨_, ?_, rfl⟩
  simp [execOp, Instr.sliceAt, Instr.slice, hv, hw, run_underlying ht.und, Instr.sliceBounds, Instr.sliceBound, asIntOf, ht.size w, j0I, hl, h6]
theorem Q0E {t e : TypeId} {x y : Operand} {sz b o n c l : Nat} {q : IntKind} {i : Int} [ht : SlTy P t e sz] (hx : T.ev x = .av (.val (.slice (some ⟨b, o, none⟩) n c))) (hy : T.ev y = .av (.val (.int q i))) (hi : i = ↑l) (hc : l ≤ c) :
  GV P E ⟨d, .slice t x none (some y) none, ty, pos, af, g⟩ T O (.av (.val (.slice (some ⟨b, o, none⟩) l c))) [] [] :=
 j0p [] fun Z ν a w h _ => by
  have hv := j0w hx (h x (by simp [Op.operands]))
  have hw := j0w hy (h y (by simp [Op.operands]))
  rw [hi] at hw
  refine ⟨_, ?_, rfl⟩
  simp [execOp, Instr.sliceAt, Instr.slice, hv, hw, run_underlying ht.und, Instr.sliceBounds, Instr.sliceBound, asIntOf, ht.size w, j0I, hc]
theorem Y0g {t e : TypeId} {x y : Operand} {sz : Nat} {q : IntKind} [ht : SlTy P t e sz] (hx : T.ev x = .av (.val (.slice none 0 0))) (hy : T.ev y = .av (.val (.int q 0))) :
  GV P E ⟨d, .slice t x none (some y) none, ty, pos, af, g⟩ T O (.av (.val (.slice none 0 0))) [] [] :=
 j0p [] fun Z ν a w h _ => by
  have hv := j0w hx (h x (by simp [Op.operands]))
  have hw := j0w hy (h y (by simp [Op.operands]))
  refine ⟨_, ?_, rfl⟩
  simp [execOp, Instr.sliceAt, Instr.slice, hv, hw, run_underlying ht.und, Instr.sliceBounds, Instr.sliceBound, asIntOf, ht.size w]
theorem J0C {t e : TypeId} {x y : Operand} {sz n c l : Nat} {p : Option Addr} {q : IntKind} {i : Int} [ht : SlTy P t e sz] (hx : T.ev x = .av (.val (.slice p n c))) (hy : T.ev y = .av (.val (.int q i))) (hi : i = ↑l) (hl : l ≤ n) :
  GV P E ⟨d, .slice t x (some y) none none, ty, pos, af, g⟩ T O (.av .any) [] [] :=
 j0p [] fun Z ν a w h _ => by
  have hv := j0w hx (h x (by simp [Op.operands]))
  have hw := j0w hy (h y (by simp [Op.operands]))
  rw [hi] at hw
  refine ⟨(.slice (if c = l then p else p.map (·.add (l * sz))) (n - l) (c - l)), ?_, trivial⟩
  simp [execOp, Instr.sliceAt, Instr.slice, hv, hw, run_underlying ht.und, Instr.sliceBounds, Instr.sliceBound, asIntOf, ht.size w, hl]
theorem K0c {f : FuncId} {fn : Func} {tS tR e : TypeId} {x y : Operand} {ats : Array TypeId} {q b o ety sz n cap l c : Nat} {fv : Nat → AV} {fr : Nat → Nat → AV} [ht : SlTy P tS e sz] (hsz : 0 < sz) (hcap : 0 < cap)
  (hf : P.funcs[f]? = some fn) (hname : (fn.name == "runtime.NumGoroutine") = false) (hb : fn.body.isNone = true) (hn : Extern.findNext fn = none) (he : Extern.find fn = some (Extern.SlicesOverlaps.overlaps #[tS, tS] #[tR]))
  (hx : T.ev x = .av (.vob sz fv)) (hy : T.ev y = .av (.val (.slice (some ⟨b, o, none⟩) l c))) (hr : look O q = some (.op b ety sz n cap fr)) :
  GV P E ⟨d, .call ⟨.value (.func f), #[x, y], ats⟩, ty, pos, af, g⟩ T O (.av (.val (.bool false))) [q] [] :=
 j0p [q] fun Z ν a w h hO => by
  have hv := h x (by simp [Op.operands, Call.operands])
  rw [hx] at hv
  obtain ⟨b1, arr, ty1, hv, h2, h3, h4, h5, _⟩ := hv
  have hw := j0w hy (h y (by simp [Op.operands, Call.operands]))
  obtain ⟨_, e2, e3, e4, e5, arr2, e6, e7, e8⟩ := z0t (hO q (by simp) _ hr)
  have hne : b1 ≠ b := fun e => e3 (e ▸ h2)
  refine ⟨.bool false, ?_, rfl⟩
  have hrun := run_callFunc_extern (P := P) hf hname hb hn he #[.slice (some ⟨b1, 0, none⟩) 1 1, .slice (some ⟨b, o, none⟩) l c] w
  rw [Lib.run_overlaps_apart w tS tR e ht.und sz ht.size ⟨b1, 0, none⟩ ⟨b, o, none⟩ 1 1 l c hne ty1 ety arr.size arr2.size (by simp [World.shape?, h4]) (by simp [World.shape?, e6]) (by rw [e7]; exact Nat.ne_of_gt (Nat.mul_pos hcap hsz)) (by simp [World.frozen?, h4]) (by simp [World.frozen?, h4])] at hrun
  simp [execOp, resolve, Deferred.ofValue, invoke, hv, hw] at hrun ⊢
  exact hrun
theorem x1o {Q : Exit → Act → World → Prop} {ops : Array Oper} {l : List Oper} (r : Nat) {ety sz n : Nat} {f : Nat → Nat → AV} (hr : look O r = some (.row ety sz n f)) (hn : 0 < n)
  (h1 : ∀ b cap, n ≤ cap → LSQ P E ops Q l (T.frz r (.val (.slice (some ⟨b, 0, none⟩) n cap))) ((r, .op b ety sz n cap f) :: O)) : LSQ P E ops Q l T O := by
 refine ⟨fun a w hsat => ?_⟩
 obtain ⟨Z, ν, hs⟩ := hsat
 rcases hs.own.each r _ hr with ⟨e1, e2⟩ | ⟨b, cap, arr, e1, e2, e3, e4, e5, e6, e7, e8⟩
 ·omega
 ·refine (h1 b cap e5).sq a w ⟨Z, ν, (hs.frzT (τ := .val (.slice (some ⟨b, 0, none⟩) n cap)) e1).reobj hr ?_⟩
  exact ⟨b, _, by rw [e1]; rfl, e2, e3, e4, ⟨n, e1⟩, e5, e6, arr, rfl, e7, e8⟩
theorem z0n {P : Program} {E : Env} {T : Tab} {O : Own} {d : Option Tmp} {ty : TypeId} {pos : String} {af : Array Edge} {g : Option (Nat × Bool)} {t e : TypeId} {x : Operand} {n m : Nat} {f : Nat → AV} [ht : ArrTy P t n e 1] (hx : T.ev x = .av (.ptr m f)) (hn : 0 < n) (hnm : n ≤ m) (hm : n ≤ maxLen) :
  GV P E ⟨d, .slice t x none none none, ty, pos, af, g⟩ T O (.av (.sl n 1 (fun i _ => f i))) [] [] :=
 j0p [] fun Z ν a w hh _ => by
  obtain ⟨b, o, he, hz, hb, hc⟩ := z0v hx (hh x (by simp [Op.operands]))
  have hrun : (Instr.sliceAt t (.pointer (some ⟨b, o, none⟩)) none none none).run P w = .ok (.slice (some ⟨b, o, none⟩) n n) w := by
   have hne : n ≠ 0 := by omega
   simp [Instr.sliceAt, run_underlying ht.und, Instr.sliceBounds, ht.size w, j0I, asAddr, Instr.sureAddr]
  refine ⟨.slice (some ⟨b, o, none⟩) n n, by simp [execOp, he, hrun], some ⟨b, o, none⟩, n, rfl, Nat.le_refl _, hm, fun _ => ⟨b, o, rfl, fun _ => hz (by omega), hb, fun i hi j hj => ?_⟩⟩
  obtain ⟨u, hu, hk⟩ := hc i zO
  obtain rfl : j = 0 := by omega
  exact ⟨u, by simpa using hu, hk⟩
theorem W1m {P : Program} {E : Env} {T : Tab} {O : Own} {d : Option Tmp} {ty : TypeId} {pos : String} {af : Array Edge} {g : Option (Nat × Bool)} {t e : TypeId} {x : Operand} {n : Nat} {f : Nat → Nat → AV} [ht : ArrTy P t n e 1] (hx : T.ev x = .av (.sl n 1 f)) (hn : 0 < n) :
  GV P E ⟨d, .sliceToArrayPointer t x, ty, pos, af, g⟩ T O (.av (.ptr n (fun i => f i 0))) [] [] :=
 j0p [] fun Z ν a w hh _ => by
  obtain ⟨p, c, he, _, _, hc⟩ := K0v hx (hh x (by simp [Op.operands]))
  obtain ⟨b, o, hp, hz, hb, hd⟩ := hc hn
  subst hp
  have hrun : (Instr.arrayAt t (.slice (some ⟨b, o, none⟩) n c)).run P w = .ok (.pointer (some ⟨b, o, none⟩)) w := by
   simp [Instr.arrayAt, run_underlying ht.und]
  refine ⟨.pointer (some ⟨b, o, none⟩), by simp [execOp, he, hrun], b, o, rfl, fun _ => hz (by decide), hb, fun i hi => ?_⟩
  obtain ⟨u, hu, hk⟩ := hd i hi 0 zE
  exact ⟨u, by simpa using hu, hk⟩
theorem q0p {P : Program} {E : Env} {T : Tab} {O : Own} {d : Option Tmp} {ty : TypeId} {pos : String} {af : Array Edge} {g : Option (Nat × Bool)} {t : TypeId} {x y : Operand} {v : Value} {f : Nat → AV} {k : Nat} (hk : k < 3) (hr : ∀ (a b c : Value) (w : World), (Instr.index t (.agg #[a, b, c]) v).run P w = .ok ([a, b, c].getD k undef) w) (hx : T.ev x = .av (.agg 3 f)) (hy : T.ev y = .av (.val v)) :
  GV P E ⟨d, .index t x y, ty, pos, af, g⟩ T O (.av (f k)) [] [] :=
 j0p [] fun Z ν a w h _ => by
  have e0 := h x (by simp [Op.operands])
  rw [hx] at e0
  obtain ⟨cs, e1, hl, hc⟩ := e0
  have e2 := j0w hy (h y (by simp [Op.operands]))
  match cs, hl with
  |[u0, u1, u2], _ =>
   obtain ⟨u, hu, hok⟩ := hc k hk
   refine ⟨[u0, u1, u2].getD k undef, by simp [execOp, e1, e2, hr], ?_⟩
   have : [u0, u1, u2].getD k undef = u := by rw [List.getD, hu]; rfl
   rw [this]
   exact hok
theorem W0S {P : Program} {E : Env} {T : Tab} {O : Own} {d : Option Tmp} {ty : TypeId} {pos : String} {af : Array Edge} {g : Option (Nat × Bool)} {t e : TypeId} {x : Operand} {sz : Nat} {f : Nat → AV} (hx : T.ev x = .av (.agg sz f))
  (hb : ∀ (cs : List Value) (w : World), cs.length = sz → (Instr.buildSlice t 1 #[(0, .agg cs.toArray)]).run P w = .ok (.slice (some ⟨w.heap.size, 0, none⟩) 1 1) (w.alloc (.cells cs.toArray e))) :
  GV P E ⟨d, .buildSlice t 1 #[(0, x)], ty, pos, af, g⟩ T O (.av (.vob sz f)) [] [] := by
 refine ⟨fun T' O' hT _ => ⟨by intro c; simp, fun Z ν a w hs => ?_⟩⟩
 have hv := j0G hs x
 rw [j0r (o := ⟨d, .buildSlice t 1 #[(0, x)], ty, pos, af, g⟩) hT (by simp [Op.operands]), hx] at hv
 obtain ⟨cs, hv', hl, hc⟩ := hv
 have hr := hb cs w hl
 refine j0B (w' := w.alloc (.cells cs.toArray e)) (v := .slice (some ⟨w.heap.size, 0, none⟩) 1 1) (by simp [execOp, hv', hr]) ⟨_, _, ν, rfl, hs.allocRo _, ⟨w.heap.size, cs.toArray, e, rfl, .inr rfl, by simp, by show (w.heap.push _)[w.heap.size]? = _; simp, by simpa using hl, fun j hj => ?_⟩⟩
 obtain ⟨u, hu, hok⟩ := hc j hj
 exact ⟨u, by simpa using hu, AV.ok_mono (fun k hk => .inl hk) (by simp) (fun k _ hk => w0b w _ hk) _ _ hok⟩
theorem W0T {P : Program} {E : Env} {T : Tab} {O : Own} {d : Option Tmp} {ty : TypeId} {pos : String} {af : Array Edge} {g : Option (Nat × Bool)} {f : FuncId} {xs : List Operand} {ats : Array TypeId} {τs : List AV} {res : AV} (hc : CtrA P f τs res) (hfl : res.flat) (hx : xs.map (bAV T O) = τs) :
  GV P E ⟨d, .call ⟨.value (.func f), xs.toArray, ats⟩, ty, pos, af, g⟩ T O (.av res) (xs.flatMap (V1G T)) [] := by
 refine ⟨fun T' O' hT hO => ⟨by intro c; simp, fun Z ν a w hs => ?_⟩⟩
 have hx' : xs.map (bAV T' O') = τs := by
  rw [← hx]
  refine List.map_congr_left fun x hxm => ?_
  have he : T'.ev x = T.ev x := j0r (o := ⟨d, .call ⟨.value (.func f), xs.toArray, ats⟩, ty, pos, af, g⟩) hT (by simp [Op.operands, Call.operands, hxm])
  unfold bAV
  rw [he]
  cases hs : T.ev x with
  |osl r => dsimp only; rw [hO r (List.mem_flatMap.2 ⟨x, hxm, by simp [V1G, hs]⟩)]
  |_ => rfl
 have hall : All2 (fun τ v => AV.ok (fun k => Z k ∨ (k < w.heap.size ∧ ¬ E.keep k)) w τ v) τs (xs.map a.eval) := by
  rw [← hx']
  clear hx hx' hc hT hO
  induction xs with
  |nil => trivial
  |cons x xs ih => exact ⟨y1s hs x, ih⟩
 refine q0g (f := f) (args := (xs.map a.eval).toArray) ?_ ?_
 ·have hen := hc.enters (xs.map a.eval).toArray w
  simp [execOp, resolve, Deferred.ofValue, Act.eval, invoke] at hen ⊢
  exact hen
 ·refine Calls.mono (hc.calls w _ _ (hs.base.zok.or (fun k hk => hk.1)) hall) ?_
  rintro e w' ⟨u, Z', rfl, hb, _, _, _, hv⟩
  exact ⟨u, rfl, u, Z, ν, rfl, hs.called hb (fun _ h => h) (fun _ h => .inl h) (fun k hk => Nat.lt_of_lt_of_le (hs.base.zLt k hk) hb.size), hfl _ _ _ _ _ hv⟩
end
end Go.Vc
end
section
end
section
end
section
namespace Go.Vc
open Go Go.RowKit
section
variable {P : Program} {E : Env} {ops : Array Oper} {Q : Exit → Act → World → Prop} {T : Tab} {O : Own}
theorem z0i {F : Fence} {n : Nat} {S : Act → World → Prop} {l2 : List Oper} (hk : ∀ a w, S a w → wpListIn F n P ops Q l2 a w) : ∀ (l1 : List Oper) (a : Act) (w : World), wpListIn F n P ops (Exit.then S Q) l1 a w → wpListIn F n P ops Q (l1 ++ l2) a w
 |[], a, w, h => hk a w h
 |o :: l1, a, w, h => by
  unfold wpListIn at h
  rw [List.cons_append]
  unfold wpListIn
  split
  ·rename_i hw
   rw [if_pos hw] at h
   exact Oper.wpIn_mono2 (fun a w h => z0i hk l1 a w h) (fun e a w he h => by cases e <;> first | exact h | exact absurd rfl he) (fun h => h) h
  ·rename_i hw
   rw [if_neg hw] at h
   exact ⟨h.1, z0i hk l1 _ _ h.2⟩
theorem x0d (n : Nat) (T' : Tab) (O' : Own) {l : List Oper} (h1 : LSQ P E ops (Exit.then (fun a w => Sat E T' O' a w) Q) (l.take n) T O) (h2 : LSQ P E ops Q (l.drop n) T' O') : LSQ P E ops Q l T O :=
 ⟨fun a w hs => by
  have h := z0i (l2 := l.drop n) (fun a w h => h2.sq a w h) (l.take n) a w (h1.sq a w hs)
  rw [List.take_append_drop] at h
  exact h⟩
end
end Go.Vc
end
