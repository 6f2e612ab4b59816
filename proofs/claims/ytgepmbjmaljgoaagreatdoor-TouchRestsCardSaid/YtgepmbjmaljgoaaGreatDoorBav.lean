/- A part of the proof. -/
import Derived.Test.YtgepmbjmaljgoaaGreatDoorBar
set_option linter.unusedVariables false
set_option linter.unusedSimpArgs false
section
namespace Go.Vc
open Go Go.RowKit
section
variable {P : Program} {E : Env} {T T' : Tab} {O O' : Own} {d : Option Tmp} {ty : TypeId} {pos : String} {af : Array Edge} {g : Option (Nat × Bool)}
def opφ (b : Nat) (ty : TypeId) (sz n cap : Nat) (f : Nat → Nat → AV) : Zone → World → Value → Obj → Prop := fun Z w v ob =>
 (∃ m, v = .slice (some ⟨b, 0, none⟩) m cap) ∧ n ≤ cap ∧ cap ≤ maxLen ∧ ∃ arr, ob = .cells arr ty (0, 0) ∧ arr.size = cap * sz ∧ ∀ i, i < n → ∀ j, j < sz → ∃ u, arr[i * sz + j]? = some u ∧ (f i j).ok Z w u
theorem op_st (b : Nat) (ty : TypeId) (sz n cap : Nat) (f : Nat → Nat → AV) : RStable (opφ b ty sz n cap f) := by
 rintro Z Z' w w' v ob h1 h2 h3 ⟨h4, h5, h6, arr, h7, h8, h9⟩
 exact ⟨h4, h5, h6, arr, h7, h8, fun i hi j hj => let ⟨u, hu, hk⟩ := h9 i hi j hj; ⟨u, hu, AV.ok_mono h1 h2 h3 _ _ hk⟩⟩
abbrev Res.op (b : Nat) (ty : TypeId) (sz n cap : Nat) (f : Nat → Nat → AV) : Res := .obj (opφ b ty sz n cap f) (op_st b ty sz n cap f)
theorem SV.frz_is {Z : Zone} {ν : Vals} {w : World} {r : Nat} {τ : AV} (hτ : τ.ok Z w (ν r)) (s : SV) (v : Value) (h : s.ok Z ν w v) : (s.frz r τ).ok Z ν w v := by
 cases s with
 |osl s =>
  cases hb : Nat.beq s r with
  |true =>
   have := Nat.eq_of_beq_eq_true hb
   subst this
   have e : (SV.osl s).frz s τ = .av τ := by simp [SV.frz]
   have h' : v = ν s := h
   rw [e, h']; exact hτ
  |false =>
   have e : (SV.osl s).frz r τ = .osl s := by simp [SV.frz, hb]
   rw [e]; exact h
 |av σ => exact h
 |oel s sz i j => unfold SV.frz; dsimp only; split <;> first | trivial | exact h
 |osx s sz lo n => unfold SV.frz; dsimp only; split <;> first | trivial | exact h
 |own s o => unfold SV.frz; dsimp only; split <;> first | trivial | exact h
 |clo k cs => unfold SV.frz; dsimp only; split <;> first | trivial | exact h
 |tupR s ρs => unfold SV.frz; dsimp only; split <;> first | trivial | exact h
 |agg cs => unfold SV.frz; dsimp only; split <;> first | trivial | exact h
 |tupC cs => unfold SV.frz; dsimp only; split <;> first | trivial | exact h
 |fnC k cs => unfold SV.frz; dsimp only; split <;> first | trivial | exact h
 |ocs s o n => unfold SV.frz; dsimp only; split <;> first | trivial | exact h
theorem SatZ.frzT {Z : Zone} {ν : Vals} {a : Act} {w : World} {r : Nat} {τ : AV} (h : SatZ E Z ν T O a w) (hτ : τ.ok Z w (ν r)) : SatZ E Z ν (T.frz r τ) O a w :=
 ⟨h.defers, h.tsize, h.cst, h.pin, h.base, h.own, fun k => by rw [Tab.get_frz]; exact SV.frz_is hτ _ _ (h.slot k)⟩
theorem SatZ.dropO {Z : Zone} {ν : Vals} {a : Act} {w : World} {r : Nat} (h : SatZ E Z ν T O a w) : SatZ E Z ν T (Own.drop r O) a w := by
 have hl : ∀ k x, look (Own.drop r O) k = some x → look O k = some x := fun k x hx => by
  rw [Own.look_drop] at hx
  split at hx
  ·cases hx
  ·exact hx
 have hn : ∀ k, look (Own.drop r O) k ≠ none → look O k ≠ none := fun k hk => by
  cases hx : look (Own.drop r O) k with
  |none => exact absurd hx hk
  |some x => rw [hl k x hx]; simp
 exact ⟨h.defers, h.tsize, h.cst, h.pin, h.base, ⟨fun k x hx => h.own.each k x (hl k x hx), fun k k' hne h1 h2 => h.own.apart k k' hne (hn k h1) (hn k' h2)⟩, h.slot⟩
theorem op_own {Z : Zone} {ν : Vals} {w : World} {v : Value} {b ety sz n cap : Nat} {f : Nat → Nat → AV} (h : Res.ok E Z ν w v (.op b ety sz n cap f)) :
  (∃ m, v = .slice (some ⟨b, 0, none⟩) m cap) ∧ ¬ E.keep b ∧ ¬ Z b ∧ n ≤ cap ∧ cap ≤ maxLen ∧ ∃ arr, w.heap[b]? = some (.cells arr ety (0, 0)) ∧ arr.size = cap * sz ∧ ∀ i, i < n → ∀ j, j < sz → ∃ u, arr[i * sz + j]? = some u ∧ (f i j).ok Z w u := by
 obtain ⟨b', ob, h1, h2, h3, h4, ⟨m, rfl⟩, h6, h7, arr, rfl, h8, h9⟩ := h
 have e : b = b' := by simpa [blkOf] using h1
 subst e
 exact ⟨⟨m, rfl⟩, h2, h3, h6, h7, arr, h4, h8, h9⟩
theorem ent_close (k r : Nat) {b ety sz n cap : Nat} {f : Nat → Nat → AV} (hd : T.get k = .av (.val (.slice (some ⟨b, 0, none⟩) n cap))) (hr : look O r = some (.op b ety sz n cap f)) (hp : Nat.blt r 1000 = true := by first | rfl | assumption) :
  Ent T O ((k, .osl r) :: T.kill r) ((r, .row ety sz n f) :: Own.kill r O) := by
 rintro E a w ⟨Z, ν, hs⟩
 obtain ⟨⟨m, e1⟩, e2, e3, e4, e5, arr, e6, e7, e8⟩ := op_own (hs.own.each r _ hr)
 have hv : a.tmps.getD k undef = .slice (some ⟨b, 0, none⟩) n cap := by have := hs.slot k; rw [hd] at this; exact this
 have hk := hs.kill r (.slice (some ⟨b, 0, none⟩) n cap) hp
 have hvr : updV ν r (.slice (some ⟨b, 0, none⟩) n cap) r = .slice (some ⟨b, 0, none⟩) n cap := if_pos rfl
 have hk' := hk.addRes r (.row ety sz n f) (by rw [hvr]; exact .inr ⟨b, cap, arr, rfl, e2, e3, e6, e4, e5, e7, e8⟩) (fun b' hb' r' hne hl => by
  rw [hvr] at hb'
  have hbb : b = b' := by simpa [blkOf] using hb'
  subst hbb
  rw [show updV ν r (.slice (some ⟨b, 0, none⟩) n cap) r' = ν r' from if_neg hne]
  rw [Own.look_kill, if_neg hne] at hl
  exact hs.own.apart r r' (fun e => hne e.symm) (by rw [hr]; simp) (by simpa using hl) b (by rw [e1]; rfl))
 refine ⟨Z, _, hk'.defers, hk'.tsize, hk'.cst, hk'.pin, hk'.base, hk'.own, fun k' => ?_⟩
 by_cases he : k = k'
 ·subst he
  rw [Tab.get_cons_eq]
  show a.tmps.getD k undef = updV ν r _ r
  rw [hvr, hv]
 ·rw [Tab.get_cons_ne _ _ he]; exact hk'.slot k'
theorem news_of {Z : Zone} {w : World} {b o m sz : Nat} {h : Nat → Nat → AV} (hpos : 0 < sz) (hcell : ∀ i, i < m → ∀ j, j < sz → ∃ u, w.cell? ⟨b, o + i * sz + j, none⟩ = some u ∧ (h i j).ok Z w u) (hone : ∀ i, i < m → ∀ j, j < sz → (h i j).one = true) :
  ∃ news : List Value, news.length = m * sz ∧ (∀ (j : Nat) u, news[j]? = some u → w.cell? ((⟨b, o, none⟩ : Addr).add j) = some u) ∧ (∀ i, i < m → ∀ j, j < sz → ∃ u, news[i * sz + j]? = some u ∧ (h i j).ok Z w u) ∧ ∀ u ∈ news, u.oneCell' = true := by
 have hnew : ∃ news : List Value, news.length = m * sz ∧ (∀ (j : Nat) u, news[j]? = some u → w.cell? ((⟨b, o, none⟩ : Addr).add j) = some u) ∧ (∀ i, i < m → ∀ j, j < sz → ∃ u, news[i * sz + j]? = some u ∧ (h i j).ok Z w u) := by
  refine ⟨(List.range (m * sz)).map fun k => (w.cell? ⟨b, o + k, none⟩).getD undef, by simp, fun j u hj => ?_, fun i hi j hj => ?_⟩
  ·simp only [List.getElem?_map, Option.map_eq_some_iff] at hj
   obtain ⟨k, hk, rfl⟩ := hj
   obtain ⟨hlt, rfl⟩ := List.getElem?_eq_some_iff.1 hk
   simp only [List.length_range] at hlt
   simp only [List.getElem_range]
   have hq : j / sz < m := Nat.div_lt_of_lt_mul (by rw [Nat.mul_comm]; exact hlt)
   obtain ⟨u, hu, _⟩ := hcell (j / sz) hq (j % sz) (Nat.mod_lt _ hpos)
   have : o + j / sz * sz + j % sz = o + j := by rw [Nat.add_assoc, Nat.mul_comm, Nat.div_add_mod]
   rw [this] at hu
   rw [add_addr, hu]; rfl
  ·have hlt : i * sz + j < m * sz := by
    have : (i + 1) * sz ≤ m * sz := Nat.mul_le_mul_right _ hi
    rw [Nat.add_mul, Nat.one_mul] at this
    omega
   obtain ⟨u, hu, hk⟩ := hcell i hi j hj
   refine ⟨u, ?_, hk⟩
   simp only [List.getElem?_map, List.getElem?_range hlt, Option.map_some]
   rw [← Nat.add_assoc, hu]; rfl
 obtain ⟨news, hnl, hnc, hnk⟩ := hnew
 refine ⟨news, hnl, hnc, hnk, fun u hu => ?_⟩
 obtain ⟨k, hk, rfl⟩ := List.getElem_of_mem hu
 rw [hnl] at hk
 have hq : k / sz < m := Nat.div_lt_of_lt_mul (by rw [Nat.mul_comm]; exact hk)
 obtain ⟨u, hu', hok⟩ := hnk (k / sz) hq (k % sz) (Nat.mod_lt _ hpos)
 have : k / sz * sz + k % sz = k := by rw [Nat.mul_comm, Nat.div_add_mod]
 rw [this] at hu'
 have e : news[k] = u := by rw [List.getElem?_eq_getElem (by omega)] at hu'; simpa using hu'
 rw [e]
 exact AV.one_cells (hone _ hq _ (Nat.mod_lt _ hpos)) hok
theorem SatZ.drew' {Z : Zone} {ν : Vals} {a : Act} {w : World} (h : SatZ E Z ν T O a w) : SatZ E Z ν T O a w.drew :=
 h.ext rfl rfl rfl (Nat.le_refl _) (fun _ _ => rfl) (fun _ h => h) (fun _ h => .inl h) (fun k hk => h.base.zLt k hk)
theorem app_cells {Z Z' : Zone} {w w' : World} {n m sz : Nat} {f h : Nat → Nat → AV} {xs news : List Value} (hxl : xs.length = n * sz) (hav : ∀ (τ : AV) u, τ.ok Z w u → τ.ok Z' w' u)
  (hxs : ∀ i, i < n → ∀ j, j < sz → ∃ u, xs[i * sz + j]? = some u ∧ (f i j).ok Z w u) (hnk : ∀ i, i < m → ∀ j, j < sz → ∃ u, news[i * sz + j]? = some u ∧ (h i j).ok Z w u) :
  ∀ i, i < n + m → ∀ j, j < sz → ∃ u, (xs ++ news)[i * sz + j]? = some u ∧ (rowApp n f h i j).ok Z' w' u := by
 intro i hi j hj
 unfold rowApp
 by_cases hin : i < n
 ·rw [if_pos hin]
  obtain ⟨u, hu, hk⟩ := hxs i hin j hj
  refine ⟨u, ?_, hav _ _ hk⟩
  rw [List.getElem?_append_left (List.getElem?_eq_some_iff.1 hu).1]
  exact hu
 ·rw [if_neg hin]
  obtain ⟨u, hu, hk⟩ := hnk (i - n) zO j hj
  refine ⟨u, ?_, hav _ _ hk⟩
  have hidx : i * sz + j = n * sz + ((i - n) * sz + j) := by
   have : i = n + (i - n) := by omega
   conv => lhs; rw [this, Nat.add_mul]
   omega
  rw [List.getElem?_append_right (by omega), hxl, hidx, Nat.add_sub_cancel_left]
  exact hu
end
end Go.Vc
end
namespace Go.Proofs.YtgepmbjmaljgoaaGreatDoor.H
open Go Go.Vc Go.RowKit Go.Na
theorem trn_par {d u v : Pt} (hd : ¬ (d.x = 0 ∧ d.y = 0)) (h1 : trn d u = 0) (h2 : trn d v = 0) : trn u v = 0 := by
 unfold trn at *
 have e1 : d.x * (u.x * v.y - u.y * v.x) = 0 := by grind
 have e2 : d.y * (u.x * v.y - u.y * v.x) = 0 := by grind
 rcases Int.mul_eq_zero.1 e1 with a | a
 ·rcases Int.mul_eq_zero.1 e2 with b | b
  ·exact absurd ⟨a, b⟩ hd
  ·exact b
 ·exact a
theorem coll_all {l : List Pt} (h : collB l = true) : ∀ i, i < l.length → ∀ j, j < l.length → ∀ k, k < l.length → crs (gp l i) (gp l j) (gp l k) = 0 := by
 unfold collB at h
 split at h
 ·rename_i hf
  have hall : ∀ k, k < l.length → gp l k = gp l 0 := fun k hk => by
   have := List.find?_eq_none.1 hf k (List.mem_range.2 hk)
   simpa using this
  intro i hi j hj k hk
  rw [hall i hi, hall j hj, hall k hk]
  unfold crs trn sub; grind
 ·rename_i m hf
  have hm := List.find?_some hf
  have hne : gp l m ≠ gp l 0 := by simpa using hm
  have hall : ∀ i, i < l.length → trn (sub (gp l m) (gp l 0)) (sub (gp l i) (gp l 0)) = 0 := fun i hi => by
   have := List.all_eq_true.1 h i (List.mem_range.2 hi)
   simpa using this
  intro i hi j hj k hk
  have a1 := hall i hi
  have a2 := hall j hj
  have a3 := hall k hk
  refine trn_par (d := sub (gp l m) (gp l 0)) ?_ ?_ ?_
  ·rintro ⟨e1, e2⟩
   apply hne
   unfold sub at e1 e2
   dsimp only at e1 e2
   generalize gp l m = a at *
   generalize gp l 0 = b at *
   obtain ⟨ax, ay⟩ := a
   obtain ⟨bx, by'⟩ := b
   dsimp only at e1 e2
   rw [show ax = bx by omega, show ay = by' by omega]
  ·unfold trn sub at *; dsimp only at *; grind
  ·unfold trn sub at *; dsimp only at *; grind
theorem str_of_coll {l : List Pt} (h : collB l = true) : strB l = true := by
 have key := coll_all h
 unfold strB
 simp only [List.all_eq_true, List.mem_range, decide_eq_true_eq]
 intro i hi j hj k hk
 exact key i hi j zO k zO
theorem coll_of_str {l : List Pt} (h : strB l = true) : collB l = true := by
 unfold strB at h
 simp only [List.all_eq_true, List.mem_range, decide_eq_true_eq] at h
 unfold collB
 split
 ·rfl
 ·rename_i m hf
  have hf' := List.find?_range_eq_some.1 hf
  obtain ⟨hm, hml, hbef⟩ := hf'
  have hne : gp l m ≠ gp l 0 := by simpa using hm
  have hb : ∀ j, j < m → gp l j = gp l 0 := fun j hj => by simpa using hbef j hj
  rw [List.all_eq_true]
  intro i hi
  rw [decide_eq_true_eq]
  rcases Nat.lt_trichotomy i m with h1 | h1 | h1
  ·rw [hb i h1]; unfold trn sub; grind
  ·subst h1; unfold trn sub; grind
  ·have h0 : 0 < m := Nat.pos_of_ne_zero fun e => hne (by rw [e])
   have := h i (List.mem_range.1 hi) m h1 0 h0
   unfold crs trn sub at this
   unfold trn sub
   dsimp only at *
   grind
theorem coll_str (l : List Pt) : strB l = collB l := by
 cases h : collB l with
 |true => exact str_of_coll h
 |false =>
  cases h2 : strB l with
  |false => rfl
  |true => rw [coll_of_str h2] at h; cases h
theorem LR.add' {k l : Nat} {q r : Rat} (h : LR k q) (h' : LR l r) : LR (k + l + 1) (q + r) := by
 rw [add_eq]
 exact divInt_LR (by have := q.den_nz; have := r.den_nz; simp; omega) ((h.1.mul h'.2).add ((h'.1.mul h.2).mono (by omega))) ((h.2.mul h'.2).mono (by omega))
theorem LR.mul' {k l : Nat} {q r : Rat} (h : LR k q) (h' : LR l r) : LR (k + l) (q * r) := by
 rw [mul_eq]
 exact divInt_LR (by have := q.den_nz; have := r.den_nz; simp; omega) (h.1.mul h'.1) (h.2.mul h'.2)
theorem LR_small {x : Int} (hx : -100000 ≤ x ∧ x ≤ 100000) : LR 6 (x : Rat) := LR.int (k := 6) (show x.natAbs < 10 ^ 6 by omega) (by decide)
theorem LR_divInt19 {n d : Int} (hn : -9000000000000000000 ≤ n ∧ n ≤ 9000000000000000000) (hd : -9000000000000000000 ≤ d ∧ d ≤ 9000000000000000000) (h0 : d ≠ 0) : LR 19 (Rat.divInt n d) := by
 have l : ∀ x : Int, -9000000000000000000 ≤ x ∧ x ≤ 9000000000000000000 → LI 19 x := fun x hx => (show x.natAbs < 10 ^ 19 by omega)
 exact divInt_LR h0 (l _ hn) (l _ hd)
end Go.Proofs.YtgepmbjmaljgoaaGreatDoor.H
namespace Go.Proofs.YtgepmbjmaljgoaaGreatDoor.H
open Go Go.Vc Go.RowKit
open Go.Na (rtx LR chkR_rtx chkR rsg)
set_option maxHeartbeats 4000000
theorem any_yes {p : Nat → Bool} {n i : Nat} (hi : i < n) (h : p i = true) : (List.range n).any p = true := by
 rw [List.any_eq_true]
 exact ⟨i, List.mem_range.2 hi, h⟩
theorem hgt_LR4 {k : Nat} {A B C : Rat} {p : Tr} (hp : BT 100000 p) (hA : LR 43 A) (hB : LR 43 B) (hC : LR 43 C) : LR 400 (hgt k A B C p) := by
 have h0 := LR_small (hp.cz k)
 have h1 := LR.mul' hB (LR_small (hp.cz (ou k)))
 have h2 := LR.mul' hC (LR_small (hp.cz (ov k)))
 have h3 := LR.add' hA (LR.add' h1 h2)
 exact Go.Na.LR.mono (Go.Na.LR.sub (Go.Na.LR.mono (l := 150) h0 zE) (Go.Na.LR.mono (l := 150) h3 zE)) zE
theorem onL_succ (l : List Tr) (k : Nat) (A B C : Rat) (n : Nat) : onL l k A B C (n + 1) = if hgt k A B C (gt l n) = 0 then onL l k A B C n ++ [n] else onL l k A B C n := by
 unfold onL
 rw [List.range_succ, List.filter_append]
 by_cases h : hgt k A B C (gt l n) = 0 <;> simp [h]
theorem same_c (f g : Nat → Int) (m n : Nat) (hm : m ≤ 1000000) (hn : n ≤ 1000000) : CtrA Tryz.prog 54 [.sl m 1 (fun i _ => vi (f i)), .sl n 1 (fun i _ => vi (g i))] (vb (eqB f m g n)) := by
 refine ctrA _ Tryz.func54 rfl rfl Tryz.ntmps54 rfl fun w Z => ?_
 refine zU ?_
 refine wt ?_
 (refine cq_cond rfl ?_ ?_ <;> intro hb <;> (try simp only [zA, zB, zG, zC, zD, zN] at hb) <;> (try (exfalso; omega)))
 ·refine wt ?_
  exact sq_res1 rfl (.tmp rfl) (congrArg vb (by unfold eqB; rw [decide_eq_false (by omega)]; rfl))
 ·have hmn : m = n := by omega
  subst hmn
  refine wt ?_
  refine cq_loop (γ := Nat) (fun i => [(0, .av (.sl m 1 (fun i _ => vi (f i)))), (1, .av (.sl m 1 (fun i _ => vi (g i)))), (5, .av (vi i))]) (fun _ => []) (fun i => i ≤ m ∧ ∀ j, j < i → f j = g j) (fun i => m - i) 0 ⟨Nat.zero_le _, by omega⟩ (ent zS trivial) ?_
  rintro i ⟨hi, he⟩
  refine wt ?_
  (refine cq_cond rfl ?_ ?_ <;> intro hb <;> (try simp only [zA, zB, zG, zC, zD, zN] at hb) <;> (try (exfalso; omega)))
  ·have hil : i < m := by omega
   refine wt ?_
   (refine cq_cond rfl ?_ ?_ <;> intro hb <;> (try simp only [zA, zB, zG, zC, zD, zN] at hb) <;> (try (exfalso; omega)))
   ·refine wt ?_
    exact sq_res1 rfl (.tmp rfl) (congrArg vb (by
     unfold eqB
     have : (List.range m).all (fun i => decide (f i = g i)) = false := by
      rw [List.all_eq_false]
      exact ⟨i, by simpa using hil, by simpa using hb⟩
     rw [this, Bool.and_false]))
   ·refine wt ?_
    exact sq_round (i + 1) ⟨by omega, fun j hj => by
     by_cases e : j = i
     ·subst e; exact hb
     ·exact he j zO⟩ zO (ent zS trivial)
  ·have hil : i = m := by omega
   subst hil
   refine wt ?_
   exact sq_res1 rfl (.tmp rfl) (congrArg vb (by
    unfold eqB
    have : (List.range i).all (fun i => decide (f i = g i)) = true := by
     rw [List.all_eq_true]
     intro j hj
     simpa using he j (by simpa using hj)
    rw [this, decide_eq_true rfl]; rfl))
theorem LR0'9 : LR 900 0 := ⟨Go.Na.LI.small (by decide) (by decide), Go.Na.LI.small (by decide) (by decide)⟩
theorem touching_no (l : List Tr) (k : Nat) (hk : k < 3) (A B C : Rat) (s : AV) (hR : RT l) (hn : l.length ≤ 1000) (hA : LR 43 A) (hB : LR 43 B) (hC : LR 43 C) (hlow : lowB l k A B C l.length = true) :
  CtrA Tryz.prog 69 [pA k (rtx A) (rtx B) (rtx C) s, ts l] (tupOf [.val (.slice none 0 0), vb false]) := by
 refine ctrA _ Tryz.func69 rfl rfl Tryz.ntmps69 rfl fun w Z => ?_
 refine zU ?_
 refine wt ?_
 refine cq_loop (γ := Nat) (fun i => [(1, .av (ts l)), (2, .av (.ptr 5 (pAf k (rtx A) (rtx B) (rtx C) s))), (6, .osl 20), (7, .av (vi i))])
  (fun i => [(20, .row 3 1 (onL l k A B C i).length (xf (onL l k A B C i)))]) (fun i => i ≤ l.length ∧ lowB l k A B C i = false) (fun i => l.length - i) 0 ⟨Nat.zero_le _, rfl⟩
  ((ent_row (dd := 6) 20 3 1 (xf []) rfl rfl).trans (ent zS zT)) ?_
 rintro i ⟨hi, hlo⟩
 have hlen := onL_len' l k A B C i
 refine wt ?_
 (refine cq_cond rfl ?_ ?_ <;> intro hb <;> (try simp only [zA, zB, zG, zC, zD, zN] at hb) <;> (try (exfalso; omega)))
 ·have hil : i < l.length := by omega
  have hh := above_c k hk A B C s (gt l i) (hR i) hA hB hC
  have ho := reforder_c (hgt k A B C (gt l i)) 0 (Go.Na.LR.mono (hgt_LR4 (hR i) hA hB hC) zE) LR0'9
  rw [show vR 0 = vS [48] from congrArg vS rtx_0, show hgt k A B C (gt l i) - 0 = hgt k A B C (gt l i) by grind] at ho
  refine wt ?_
  refine dq_g (g_load_aggv rfl rfl) rfl ?_
  refine wt ?_
  (refine cq_cond rfl ?_ ?_ <;> intro hb <;> (try simp only [zA, zB, zG, zC, zD, zN] at hb) <;> (try (exfalso; omega)))
  ·refine wt ?_
   exact zW
  ·have hnn : ¬ hgt k A B C (gt l i) < 0 := fun h => hb (rsg_neg.2 h)
   have hl1 : lowB l k A B C (i + 1) = false := by
    unfold lowB at hlo ⊢
    rw [List.range_succ, List.any_append, hlo]
    simp [hnn]
   refine wt ?_
   (refine cq_cond rfl ?_ ?_ <;> intro hb <;> (try simp only [zA, zB, zG, zC, zD, zN] at hb) <;> (try (exfalso; omega)))
   ·have hz : hgt k A B C (gt l i) = 0 := rsg_zero.1 hb
    have hon : onL l k A B C (i + 1) = onL l k A B C i ++ [i] := by rw [onL_succ, if_pos hz]
    refine wt ?_
    exact sq_round (i + 1) ⟨by omega, hl1⟩ (by omega) (ent zS ⟨⟨_, rfl, .row (by rw [hon]) (fun _ _ _ _ => by rw [hon])⟩, trivial⟩)
   ·have hz : ¬ hgt k A B C (gt l i) = 0 := fun h => hb (rsg_zero.2 h)
    have hon : onL l k A B C (i + 1) = onL l k A B C i := by rw [onL_succ, if_neg hz]
    refine wt ?_
    exact sq_round (i + 1) ⟨by omega, hl1⟩ (by omega) (ent zS ⟨⟨_, rfl, .row (by rw [hon]) (fun _ _ _ _ => by rw [hon])⟩, trivial⟩)
 ·have hil : i = l.length := by omega
  subst hil
  rw [hlo] at hlow; cases hlow
theorem touching_ok (l : List Tr) (k : Nat) (hk : k < 3) (A B C : Rat) (s : AV) (hR : RT l) (hn : l.length ≤ 1000) (hA : LR 43 A) (hB : LR 43 B) (hC : LR 43 C) (hlow : lowB l k A B C l.length = false) :
  CtrR Tryz.prog 69 [pA k (rtx A) (rtx B) (rtx C) s, ts l] 3 1 (onL l k A B C l.length).length (xf (onL l k A B C l.length)) [vb true] := by
 refine ctrR _ Tryz.func69 rfl rfl Tryz.ntmps69 rfl fun w Z => ?_
 refine zU ?_
 refine wt ?_
 refine cq_loop (γ := Nat) (fun i => [(1, .av (ts l)), (2, .av (.ptr 5 (pAf k (rtx A) (rtx B) (rtx C) s))), (6, .osl 20), (7, .av (vi i))])
  (fun i => [(20, .row 3 1 (onL l k A B C i).length (xf (onL l k A B C i)))]) (fun i => i ≤ l.length ∧ lowB l k A B C i = false) (fun i => l.length - i) 0 ⟨Nat.zero_le _, rfl⟩
  ((ent_row (dd := 6) 20 3 1 (xf []) rfl rfl).trans (ent zS zT)) ?_
 rintro i ⟨hi, hlo⟩
 have hlen := onL_len' l k A B C i
 refine wt ?_
 (refine cq_cond rfl ?_ ?_ <;> intro hb <;> (try simp only [zA, zB, zG, zC, zD, zN] at hb) <;> (try (exfalso; omega)))
 ·have hil : i < l.length := by omega
  have hh := above_c k hk A B C s (gt l i) (hR i) hA hB hC
  have ho := reforder_c (hgt k A B C (gt l i)) 0 (Go.Na.LR.mono (hgt_LR4 (hR i) hA hB hC) zE) LR0'9
  rw [show vR 0 = vS [48] from congrArg vS rtx_0, show hgt k A B C (gt l i) - 0 = hgt k A B C (gt l i) by grind] at ho
  refine wt ?_
  refine dq_g (g_load_aggv rfl rfl) rfl ?_
  refine wt ?_
  (refine cq_cond rfl ?_ ?_ <;> intro hb <;> (try simp only [zA, zB, zG, zC, zD, zN] at hb) <;> (try (exfalso; omega)))
  ·exfalso
   have := any_yes (p := fun i => decide (hgt k A B C (gt l i) < 0)) hil (decide_eq_true (rsg_neg.1 hb))
   unfold lowB at hlow
   rw [hlow] at this; cases this
  ·have hnn : ¬ hgt k A B C (gt l i) < 0 := fun h => hb (rsg_neg.2 h)
   have hl1 : lowB l k A B C (i + 1) = false := by
    unfold lowB at hlo ⊢
    rw [List.range_succ, List.any_append, hlo]
    simp [hnn]
   refine wt ?_
   (refine cq_cond rfl ?_ ?_ <;> intro hb <;> (try simp only [zA, zB, zG, zC, zD, zN] at hb) <;> (try (exfalso; omega)))
   ·have hz : hgt k A B C (gt l i) = 0 := rsg_zero.1 hb
    have hon : onL l k A B C (i + 1) = onL l k A B C i ++ [i] := by rw [onL_succ, if_pos hz]
    refine wt ?_
    exact sq_round (i + 1) ⟨by omega, hl1⟩ (by omega) (ent zS ⟨⟨_, rfl, .row (by rw [hon]) (fun _ _ _ _ => by rw [hon])⟩, trivial⟩)
   ·have hz : ¬ hgt k A B C (gt l i) = 0 := fun h => hb (rsg_zero.2 h)
    have hon : onL l k A B C (i + 1) = onL l k A B C i := by rw [onL_succ, if_neg hz]
    refine wt ?_
    exact sq_round (i + 1) ⟨by omega, hl1⟩ (by omega) (ent zS ⟨⟨_, rfl, .row (by rw [hon]) (fun _ _ _ _ => by rw [hon])⟩, trivial⟩)
 ·have hil : i = l.length := by omega
  subst hil
  refine wt ?_
  exact sq_retRN (rvs := []) (τs := [vb true]) rfl rfl rfl rfl (fun _ _ _ _ => rfl) ⟨.tmp rfl, trivial⟩ rfl
end Go.Proofs.YtgepmbjmaljgoaaGreatDoor.H
section
end
namespace Go.Proofs.YtgepmbjmaljgoaaGreatDoor.H
open Go Go.Vc Go.RowKit
open Go.Na (rtx LR chkR_rtx chkR rsg)
set_option maxHeartbeats 4000000
theorem chk_plcs {l : List Tr} (hl : RT l) (h : l.length ≤ 64) (k : Nat) : chk (plcs l k) = 0 := by
 unfold chk
 rw [if_neg (by rw [plcs_len]; omega), if_pos]
 rw [List.all_eq_true]
 intro p hp
 obtain ⟨q, hq, rfl⟩ := List.mem_map.1 hp
 obtain ⟨i, hi, rfl⟩ := List.getElem_of_mem hq
 have e : l[i] = gt l i := by simp [gt, hi, List.getD]
 rw [e]
 have h1 := (hl i).cz (ou k)
 have h2 := (hl i).cz (ov k)
 unfold rightB inB plc
 simp only [Bool.and_eq_true, decide_eq_true_eq]
 omega
end Go.Proofs.YtgepmbjmaljgoaaGreatDoor.H
section
end
namespace Go.Proofs.YtgepmbjmaljgoaaGreatDoor.H
open Go Go.Vc Go.RowKit
theorem cz_crs {k : Nat} (hk : k < 3) (a b c : Tr) : cz (nvP a b c) k ≠ 0 ↔ crs (plc k a) (plc k b) (plc k c) ≠ 0 := by
 rcases (by omega : k = 0 ∨ k = 1 ∨ k = 2) with rfl | rfl | rfl
 ·unfold nvP tcr tsub crs trn sub plc ou ov cz
  dsimp only
  constructor <;> intro h e <;> apply h <;> grind
 ·unfold nvP tcr tsub crs trn sub plc ou ov cz
  dsimp only
  constructor <;> intro h e <;> apply h <;> grind
 ·unfold nvP tcr tsub crs trn sub plc ou ov cz
  dsimp only
  constructor <;> intro h e <;> apply h <;> grind
theorem crs_rev (a b c : Pt) : crs c b a = - crs a b c := by unfold crs trn sub; dsimp only; grind
theorem thr_on {l : List Tr} {k a b c : Nat} (hk : k < 3) (hn : cz (nvP (gt l a) (gt l b) (gt l c)) k ≠ 0) : hgt k (aP l k a b c) (bP l k a b c) (cP l k a b c) (gt l a) = 0 ∧ hgt k (aP l k a b c) (bP l k a b c) (cP l k a b c) (gt l b) = 0 ∧ hgt k (aP l k a b c) (bP l k a b c) (cP l k a b c) (gt l c) = 0 := by
 have hd : ∀ p q r : Tr, tdot (nvP p q r) q = tdot (nvP p q r) p ∧ tdot (nvP p q r) r = tdot (nvP p q r) p := by
  intro p q r
  unfold nvP tdot tcr tsub
  dsimp only
  constructor <;> grind
 have hu : ∀ q, tdot (nvP (gt l a) (gt l b) (gt l c)) q = tdot (nvP (gt l a) (gt l b) (gt l c)) (gt l a) → tdot (nP l k a b c) q = tdot (nP l k a b c) (gt l a) := by
  intro q h
  unfold nP upP
  split
  ·unfold tdot at h ⊢
   dsimp only
   grind
  ·exact h
 obtain ⟨d1, d2⟩ := hd (gt l a) (gt l b) (gt l c)
 exact ⟨(hgt_sgn hk hn _).2.2 rfl, (hgt_sgn hk hn _).2.2 (hu _ d1), (hgt_sgn hk hn _).2.2 (hu _ d2)⟩
theorem onL_mem {l : List Tr} {k : Nat} {A B C : Rat} {i : Nat} : i ∈ onL l k A B C l.length ↔ i < l.length ∧ hgt k A B C (gt l i) = 0 := by
 unfold onL
 rw [List.mem_filter, List.mem_range]
 simp
theorem gp_plP {l : List Tr} {k : Nat} {s : List Nat} {i : Nat} (h : i < s.length) : gp (plP l k s) i = plc k (gt l (gi s i)) := by
 unfold gp plP gi
 simp [List.getD, h]
theorem cand_str {l : List Tr} {k : Nat} (hk : k < 3) {P : Pl} (h : P ∈ candP l k) : strB (plP l k P.s) = false := by
 obtain ⟨hs, _⟩ := cand_on hk h
 obtain ⟨⟨a, b, c⟩, ht, h3⟩ := List.mem_filterMap.1 ((cand_ok l k).2 P |>.1 h)
 rw [tI_eq, mem_tI] at ht
 obtain ⟨ht1, ht2, ht3⟩ := ht
 dsimp only at ht1 ht2 ht3
 have h3' : thr l k a b c = some P := h3
 unfold thr at h3'
 split at h3'
 ·cases h3'
 ·rename_i hz
  have hP : P.A = aP l k a b c ∧ P.B = bP l k a b c ∧ P.C = cP l k a b c := by
   unfold mkP at h3'
   split at h3'
   ·cases h3'
   ·injection h3' with h3'; rw [← h3']; exact ⟨rfl, rfl, rfl⟩
  obtain ⟨t1, t2, t3⟩ := thr_on hk hz
  rw [← hP.1, ← hP.2.1, ← hP.2.2] at t1 t2 t3
  cases hst : strB (plP l k P.s) with
  |false => rfl
  |true =>
   exfalso
   have hall := coll_all (coll_of_str hst)
   have hpl : (plP l k P.s).length = P.s.length := by unfold plP; rw [List.length_map]
   rw [hpl] at hall
   have pos : ∀ x, x < l.length → hgt k P.A P.B P.C (gt l x) = 0 → ∃ i, i < P.s.length ∧ gi P.s i = x := fun x hx hz => by
    have hm : x ∈ P.s := by rw [hs, onL_mem]; exact ⟨hx, hz⟩
    obtain ⟨i, hi, e⟩ := List.getElem_of_mem hm
    exact ⟨i, hi, by rw [gi_eq hi]; exact e⟩
   obtain ⟨i, hi, ei⟩ := pos a zO t1
   obtain ⟨j, hj, ej⟩ := pos b zO t2
   obtain ⟨m, hm, em⟩ := pos c ht3 t3
   have := hall i hi j hj m hm
   rw [gp_plP hi, gp_plP hj, gp_plP hm, ei, ej, em] at this
   exact (cz_crs hk _ _ _).1 hz this
end Go.Proofs.YtgepmbjmaljgoaaGreatDoor.H
section
end
namespace Go.Proofs.YtgepmbjmaljgoaaGreatDoor.H
open Go Go.Vc Go.RowKit
open Go.Na (rtx LR chkR_rtx chkR rsg)
set_option maxHeartbeats 4000000
def sameB (k : Nat) (P : Pl) (a : Int) (A B C : List UInt8) (L : List Int) : Bool :=
 decide ((k : Int) = a) && ((rtx P.A == A) && ((rtx P.B == B) && ((rtx P.C == C) && eqB (fun i => ((gi P.s i : Nat) : Int)) P.s.length (gz L) L.length)))
theorem same20_c (k : Nat) (P : Pl) (a : Int) (A B C : List UInt8) (L : List Int) (hs : P.s.length ≤ 1000) (hL : L.length ≤ 1000) :
  CtrA Tryz.prog 20 [pR (k : Int) P, pA a A B C (ixs L)] (vb (sameB k P a A B C L)) := by
 have h := same_c (fun i => ((gi P.s i : Nat) : Int)) (gz L) P.s.length L.length zO zO
 refine ctrA _ Tryz.func20 rfl rfl Tryz.ntmps20 rfl fun w Z => ?_
 refine zU ?_
 (refine wt ?_; repeat' (((first | refine sq_split rfl rfl ?_ ?_ | refine dq_split rfl rfl ?_ ?_) <;> intro hb <;> (try simp only [zA, zB, zG, zC, zD, zN] at hb) <;> (try (exfalso; omega))) <;> refine wt ?_))
 all_goals (refine sq_res1 rfl (.tmp rfl) (congrArg vb ?_); simp [sameB, *])
theorem order41_c (k1 k2 : Int) (A B C A' B' C' : Rat) (s s' : AV) (hA : LR 400 A) (hB : LR 400 B) (hC : LR 400 C) (hA' : LR 400 A') (hB' : LR 400 B') (hC' : LR 400 C') :
  CtrA Tryz.prog 164 [pA k1 (rtx A) (rtx B) (rtx C) s, pA k2 (rtx A') (rtx B') (rtx C') s'] (vi (cmp3 (rsg (A - A')) (rsg (B - B')) (rsg (C - C')))) := by
 have h1 := reforder_c A A' (Go.Na.LR.mono hA zE) (Go.Na.LR.mono hA' zE)
 have h2 := reforder_c B B' (Go.Na.LR.mono hB zE) (Go.Na.LR.mono hB' zE)
 have h3 := reforder_c C C' (Go.Na.LR.mono hC zE) (Go.Na.LR.mono hC' zE)
 generalize rsg (A - A') = a at *
 generalize rsg (B - B') = b at *
 generalize rsg (C - C') = c at *
 refine ctrA _ Tryz.func164 rfl rfl Tryz.ntmps164 rfl fun w Z => ?_
 refine zU ?_
 refine wt ?_
 refine dq_g (g_bslice (is := [0, 1, 2]) (xs := [_, _, _]) (vs := [_, _, _]) (us := [.string (bs (rtx A)), .string (bs (rtx B)), .string (bs (rtx C))]) (row := fun i _ => vS (g3 (rtx A) (rtx B) (rtx C) i)) (tq102 _ _ _) rfl rfl rfl (g3_ok _ _ _)) rfl ?_
 refine wt ?_
 refine dq_g (g_bslice (is := [0, 1, 2]) (xs := [_, _, _]) (vs := [_, _, _]) (us := [.string (bs (rtx A')), .string (bs (rtx B')), .string (bs (rtx C'))]) (row := fun i _ => vS (g3 (rtx A') (rtx B') (rtx C') i)) (tq102 _ _ _) rfl rfl rfl (g3_ok _ _ _)) rfl ?_
 refine wt ?_
 refine cq_loop (γ := Nat) (fun i => [(5, .av (.sl 3 1 (fun i _ => vS (g3 (rtx A) (rtx B) (rtx C) i)))), (6, .av (.sl 3 1 (fun i _ => vS (g3 (rtx A') (rtx B') (rtx C') i)))), (7, .av (vi i))]) (fun _ => []) (fun i => i ≤ 3 ∧ (0 < i → a = 0) ∧ (1 < i → b = 0) ∧ (2 < i → c = 0)) (fun i => 3 - i) 0 ⟨by omega, by omega, by omega, by omega⟩ (ent zS trivial) ?_
 rintro i ⟨hi, q1, q2, q3⟩
 match i, hi, q1, q2, q3 with
 |0, _, q1, q2, q3 =>
  refine wt ?_
  (refine cq_cond rfl ?_ ?_ <;> intro hb <;> (try simp only [zA, zB, zG, zC, zD, zN] at hb) <;> (try (exfalso; omega)))
  ·refine wt ?_
   exact sq_res1 rfl (.tmp rfl) (congrArg vi (by unfold cmp3; rw [if_pos hb]))
  ·refine wt ?_
   exact sq_round 1 ⟨by omega, fun _ => hb, fun h => by omega, fun h => by omega⟩ zO (ent zS trivial)
 |1, _, q1, q2, q3 =>
  refine wt ?_
  (refine cq_cond rfl ?_ ?_ <;> intro hb <;> (try simp only [zA, zB, zG, zC, zD, zN] at hb) <;> (try (exfalso; omega)))
  ·refine wt ?_
   exact sq_res1 rfl (.tmp rfl) (congrArg vi (by unfold cmp3; rw [if_neg (fun h => h (q1 (by omega))), if_pos hb]))
  ·refine wt ?_
   exact sq_round 2 ⟨by omega, fun _ => q1 zO, fun _ => hb, fun h => by omega⟩ zO (ent zS trivial)
 |2, _, q1, q2, q3 =>
  refine wt ?_
  (refine cq_cond rfl ?_ ?_ <;> intro hb <;> (try simp only [zA, zB, zG, zC, zD, zN] at hb) <;> (try (exfalso; omega)))
  ·refine wt ?_
   exact sq_res1 rfl (.tmp rfl) (congrArg vi (by unfold cmp3; rw [if_neg (fun h => h (q1 (by omega))), if_neg (fun h => h (q2 (by omega))), if_pos hb]))
  ·refine wt ?_
   exact sq_round 3 ⟨by omega, fun _ => q1 zO, fun _ => q2 zO, fun _ => hb⟩ zO (ent zS trivial)
 |3, _, q1, q2, q3 =>
  refine wt ?_
  exact sq_res1 rfl (.tmp rfl) (congrArg vi (by unfold cmp3; rw [if_neg (fun h => h (q1 (by omega))), if_neg (fun h => h (q2 (by omega))), if_neg (fun h => h (q3 (by omega)))]))
 |i + 4, hi, _, _, _ => omega
theorem rgiven_c (l : List Tr) {k : Nat} (hk : k < 3) (hn : l.length ≤ 1000) : CtrA Tryz.prog 47 [ts l, vi (k : Int)] (vi (if givE l k ≠ 0 then givE l k else if strB (plcs l k) = true then 14 else 0)) := by
 have h1 := rpoints_c l k hn
 by_cases hg : givE l k = 0
 ·have hT : chkT l = 0 := by unfold givE at hg; split at hg; (rename_i h; exact absurd hg h); (rename_i h; simpa using h)
  obtain ⟨hR, h64⟩ := RT.of hT
  have h3 := rplaces_c l hk hn
  have hst := straight_c (plcs l k) (chk_sm (chk_plcs hR h64 k)).1 (by rw [plcs_len]; exact hn)
  rw [hg] at h1
  rw [if_neg (fun h => h hg)]
  refine ctrA _ Tryz.func47 rfl rfl Tryz.ntmps47 rfl fun w Z => ?_
  refine zU ?_
  refine wt ?_
  refine sq_v (f_call_row 22 h3 rfl rfl) rfl ?_
  refine wt ?_
  (refine cq_cond rfl ?_ ?_ <;> intro hb <;> (try simp only [zA, zB, zG, zC, zD, zN] at hb) <;> (try (exfalso; omega)))
  ·refine wt ?_
   exact sq_res1 rfl (.tmp rfl) (by rw [if_pos hb])
  ·refine wt ?_
   exact sq_res1 rfl (.tmp rfl) (by rw [if_neg (by rw [hb]; decide)])
 ·rw [if_pos hg]
  refine ctrA _ Tryz.func47 rfl rfl Tryz.ntmps47 rfl fun w Z => ?_
  refine zU ?_
  refine wt ?_
  (refine cq_cond rfl ?_ ?_ <;> intro hb <;> (try simp only [zA, zB, zG, zC, zD, zN] at hb) <;> (try (exfalso; omega)))
  ·refine wt ?_
   exact zV
end Go.Proofs.YtgepmbjmaljgoaaGreatDoor.H
section
namespace Go.Proofs.YtgepmbjmaljgoaaGreatDoor.H
theorem putP_stay (P : Pl) : ∀ (L : List Pl) (i : Nat), i < L.length → (∀ j, j < i → ltP (gP L j) P) → eqP (gP L i) P → putP P L = L
 |[], i, h, _, _ => absurd h (Nat.not_lt_zero i)
 |q :: L, 0, _, _, he => by
  have he' : eqP q P := he
  rw [putP, if_neg (fun h => ltP_ne h he'), if_pos he']
 |q :: L, i + 1, h, hl, he => by
  have h0 : ltP q P := hl 0 (by omega)
  rw [putP, if_pos h0, putP_stay P L i (by simpa using h) (fun j hj => hl (j + 1) (by omega)) he]
theorem putP_new (P : Pl) : ∀ (L : List Pl) (i : Nat), i ≤ L.length → (∀ j, j < i → ltP (gP L j) P) → (i < L.length → ¬ ltP (gP L i) P ∧ ¬ eqP (gP L i) P) → putP P L = L.take i ++ P :: L.drop i
 |[], i, h, _, _ => by
  have : i = 0 := by simpa using h
  subst this; rfl
 |q :: L, 0, _, _, hn => by
  obtain ⟨h1, h2⟩ := hn (by simp)
  have h1' : ¬ ltP q P := h1
  have h2' : ¬ eqP q P := h2
  rw [putP, if_neg h1', if_neg h2']; rfl
 |q :: L, i + 1, h, hl, hn => by
  have h0 : ltP q P := hl 0 (by omega)
  rw [putP, if_pos h0, putP_new P L i (by simpa using h) (fun j hj => hl (j + 1) (by omega)) (fun hi => hn (by simpa using hi))]
  rfl
open Go Go.Vc
theorem gP_put (L : List Pl) (P : Pl) (i : Nat) (hi : i ≤ L.length) (x : Nat) : gP (L.take i ++ P :: L.drop i) x = if x < i then gP L x else if x = i then P else gP L (x - 1) := by
 have hl : (L.take i).length = i := by rw [List.length_take]; omega
 unfold gP
 simp only [List.getD_eq_getElem?_getD]
 by_cases h : x < i
 ·rw [if_pos h, List.getElem?_append_left (by omega), List.getElem?_take_of_lt h]
 ·rw [if_neg h, List.getElem?_append_right (by omega), hl]
  by_cases h2 : x = i
  ·subst h2; rw [if_pos rfl, Nat.sub_self]; rfl
  ·rw [if_neg h2]
   obtain ⟨y, hy⟩ : ∃ y, x - i = y + 1 := ⟨x - i - 1, by omega⟩
   rw [hy, List.getElem?_cons_succ, List.getElem?_drop, show i + y = x - 1 by omega]
theorem put_rows1 (k : Int) (L : List Pl) (P : Pl) (i : Nat) (hi : i ≤ L.length) (n : Nat) (hn : n = i) (f : Nat → Nat → AV) (hf : ∀ x, x < i → ∀ j, j < 5 → f x j = pf5 k L x j) :
  ∀ x, x < n + 1 → ∀ j, j < 5 → rowApp n f (pf5 k [P]) x j = pf5 k (L.take i ++ P :: L.drop i) x j := by
 intro x hx j hj
 subst hn
 unfold rowApp
 by_cases h : x < n
 ·rw [if_pos h, hf x h j hj]
  unfold pf5
  rw [gP_put L P n hi, if_pos h]
 ·have e : x = n := by omega
  subst e
  rw [if_neg h, Nat.sub_self]
  unfold pf5
  rw [gP_put L P x hi, if_neg h, if_pos rfl]
  rfl
theorem put_rows2 (k : Int) (L : List Pl) (P : Pl) (i : Nat) (hi : i ≤ L.length) (n : Nat) (hn : n = i) (f : Nat → Nat → AV) (hf : ∀ x, x < i → ∀ j, j < 5 → f x j = pf5 k L x j) (N : Nat) :
  ∀ x, x < N → ∀ j, j < 5 → rowApp (n + 1) (rowApp n f (pf5 k [P])) (fun a => pf5 k L (i + a)) x j = pf5 k (L.take i ++ P :: L.drop i) x j := by
 intro x _ j hj
 by_cases h : x < n + 1
 ·rw [← put_rows1 k L P i hi n hn f hf x h j hj]
  show (if x < n + 1 then _ else _) = _
  rw [if_pos h]
 ·show (if x < n + 1 then _ else _) = _
  rw [if_neg h]
  unfold pf5
  dsimp only
  rw [gP_put L P i hi, if_neg (by omega), if_neg (by omega), show i + (x - (n + 1)) = x - 1 by omega]
end Go.Proofs.YtgepmbjmaljgoaaGreatDoor.H
end
namespace Go.Proofs.YtgepmbjmaljgoaaGreatDoor.H
open Go Go.Vc Go.RowKit
open Go.Na (rtx LR chkR_rtx chkR rsg)
set_option maxHeartbeats 4000000
theorem clt41 (P Q : Pl) : cmp3 (rsg (P.A - Q.A)) (rsg (P.B - Q.B)) (rsg (P.C - Q.C)) < 0 ↔ ltP P Q := by
 have n : ∀ q : Rat, rsg q < 0 ↔ q < 0 := fun q => rsg_neg
 have z : ∀ q : Rat, rsg q = 0 ↔ q = 0 := fun q => rsg_zero
 unfold cmp3 ltP
 by_cases h1 : rsg (P.A - Q.A) = 0
 ·have e1 := (z _).1 h1
  rw [if_neg (fun h => h h1)]
  by_cases h2 : rsg (P.B - Q.B) = 0
  ·have e2 := (z _).1 h2
   rw [if_neg (fun h => h h2)]
   by_cases h3 : rsg (P.C - Q.C) = 0
   ·have e3 := (z _).1 h3
    rw [if_neg (fun h => h h3)]
    constructor <;> intro h <;> grind
   ·rw [if_pos h3, n]
    constructor <;> intro h <;> grind
  ·have e2 : ¬ P.B - Q.B = 0 := fun h => h2 ((z _).2 h)
   rw [if_pos h2, n]
   constructor <;> intro h <;> grind
 ·have e1 : ¬ P.A - Q.A = 0 := fun h => h1 ((z _).2 h)
  rw [if_pos h1, n]
  constructor <;> intro h <;> grind
theorem tq29z (w : World) : (Instr.buildSlice 29 0 #[]).run Tryz.prog w = .ok (.slice (some ⟨w.heap.size, 0, none⟩) 0 0) (w.alloc (.cells #[] 45)) := by kernel_rfl
theorem tq29o (a b c d e : Value) (w : World) : (Instr.buildSlice 29 1 #[(0, .agg #[a, b, c, d, e])]).run Tryz.prog w = .ok (.slice (some ⟨w.heap.size, 0, none⟩) 1 1) (w.alloc (.cells #[a, b, c, d, e] 45)) := by kernel_rfl
theorem bs29 (κ : Int) (P : Pl) : ∀ (Z : Zone) (w : World) (vs : List Value), All2 (fun τ v => AV.ok Z w τ v) [pR κ P] vs → ∃ cs : List Value, (Instr.buildSlice 29 1 ([0].zip vs).toArray).run Tryz.prog w = .ok (.slice (some ⟨w.heap.size, 0, none⟩) 1 1) (w.alloc (.cells cs.toArray 45)) ∧ ∀ i, i < 1 → ∀ j, j < 5 → ∃ u, cs[i * 5 + j]? = some u ∧ (pf5 κ [P] i j).ok Z w u := fun Z w vs h => by
 match vs, h with
 |[v], ⟨⟨cs, hv, hl, hc⟩, _⟩ =>
  match cs, hl with
  |[c0, c1, c2, c3, c4], _ =>
   subst hv
   refine ⟨_, tq29o _ _ _ _ _ _, fun i hi j hj => ?_⟩
   obtain rfl : i = 0 := by omega
   rw [Nat.zero_mul, Nat.zero_add]
   exact hc j hj
theorem put41_c (k : Nat) (L : List Pl) (P : Pl) (hn : L.length ≤ 1000000) (hL : ∀ i, i < L.length → LR 400 (gP L i).A ∧ LR 400 (gP L i).B ∧ LR 400 (gP L i).C) (hP : LR 400 P.A ∧ LR 400 P.B ∧ LR 400 P.C) :
  CtrA Tryz.prog 102 [.sl L.length 5 (pf5 k L), pR k P] (.sl (putP P L).length 5 (pf5 k (putP P L))) := by
 refine ctrA _ Tryz.func102 rfl rfl Tryz.ntmps102 rfl fun w Z => ?_
 refine zU ?_
 refine wt ?_
 refine cq_loop (γ := Nat) (fun i => [(0, .av (.sl L.length 5 (pf5 k L))), (3, .av (.ptr 5 (pAf k (rtx P.A) (rtx P.B) (rtx P.C) (idx P.s)))), (4, .av (.val (.slice none 0 0))), (5, .av (vi i))]) (fun _ => []) (fun i => i ≤ L.length ∧ ∀ j, j < i → ltP (gP L j) P) (fun i => L.length - i) 0 ⟨Nat.zero_le _, fun j hj => absurd hj (Nat.not_lt_zero j)⟩ (ent zS trivial) ?_
 rintro i ⟨hi, hall⟩
 refine wt ?_
 (first | refine sq_split rfl rfl ?_ ?_ | refine dq_split rfl rfl ?_ ?_) <;> intro hb <;> (try simp only [zA, zB, zG, zC, zD, zN] at hb) <;> (try (exfalso; omega))
 ·have hil : i < L.length := by omega
  obtain ⟨a1, a2, a3⟩ := hL i hil
  obtain ⟨p1, p2, p3⟩ := hP
  have ho := order41_c k k (gP L i).A (gP L i).B (gP L i).C P.A P.B P.C (idx (gP L i).s) (idx P.s) a1 a2 a3 p1 p2 p3
  refine wt ?_
  refine dq_on (g_load_aggv rfl rfl) rfl rfl rfl ?_
  refine wt ?_
  refine dq_on (g_load_aggv rfl rfl) rfl rfl rfl ?_
  refine wt ?_
  (refine cq_cond rfl ?_ ?_ <;> intro hb <;> (try simp only [zA, zB, zG, zC, zD, zN] at hb) <;> (try (exfalso; omega)))
  ·have hlt := (clt41 _ _).1 hb
   refine wt ?_
   exact sq_round (i + 1) ⟨by omega, fun j hj => by
    by_cases e : j = i
    ·subst e; exact hlt
    ·exact hall j zO⟩ zO (ent zS trivial)
  ·have hlt := fun h => hb ((clt41 _ _).2 h)
   refine wt ?_
   (first | refine sq_split rfl rfl ?_ ?_ | refine dq_split rfl rfl ?_ ?_) <;> intro hb <;> (try simp only [zA, zB, zG, zC, zD, zN] at hb) <;> (try (exfalso; omega))
   refine wt ?_
   refine dq_on (g_load_aggv rfl rfl) rfl rfl rfl ?_
   refine wt ?_
   refine dq_on (g_load_aggv rfl rfl) rfl rfl rfl ?_
   refine wt ?_
   (refine cq_cond rfl ?_ ?_ <;> intro hb <;> (try simp only [zA, zB, zG, zC, zD, zN] at hb) <;> (try (exfalso; omega)))
   ·have heq : eqP (gP L i) P := by have := ceq (gP L i) P; rw [hb] at this; simpa using this.symm
    refine wt ?_
    exact sq_res1 rfl (.tmp rfl) (by rw [putP_stay P L i hil hall heq])
   ·have hnew := putP_new P L i hi hall (fun _ => ⟨hlt, fun e => hb (by have := ceq (gP L i) P; simpa [e] using this)⟩)
    refine wt ?_
    refine sq_v (f_bs0 (sz := 5) (pf5 k L) 20 tq29z rfl) rfl ?_
    refine wt ?_
    refine sq_g (g_slice (l := 0) (h := i) (sz := 5) rfl rfl ⟨_, _, rfl, by simp⟩ (Nat.zero_le _) hi) rfl ?_
    refine wt ?_
    have hone : ∀ a, a < i - 0 → ∀ j, j < 5 → (pf5 k L (0 + a) j).one = true := fun a _ j hj => pAf_one _ _ _ _ _ j hj
    by_cases hi0 : i = 0
    ·refine sq_g (g_append0 rfl rfl rfl zO) rfl ?_
     refine wt ?_
     refine sq_g (g_load_aggv rfl rfl) rfl ?_
     refine wt ?_
     refine sq_g (g_bslice_gen (is := [0]) (xs := [_]) (τs := [pR k P]) (row := pf5 k [P]) rfl rfl (bs29 k P) rfl) rfl ?_
     refine wt ?_
     refine sq_v (v_append (m := 1) (sz := 5) (bytes := 80) rfl rfl rfl (fun _ _ j hj => pAf_one _ _ _ _ _ j hj) (by decide) (by simp only [maxLen]; omega) (by omega)) rfl ?_
     refine wt ?_
     refine sq_g (g_slice (l := i) (h := L.length) (sz := 5) rfl ⟨_, _, rfl, by simp⟩ rfl hi (Nat.le_refl _)) rfl ?_
     refine wt ?_
     by_cases hl0 : i = L.length
     ·refine sq_g (g_append0 rfl rfl rfl zO) rfl ?_
      refine wt ?_
      refine sq_more ((ent_freeze 20 rfl).trans (ent (T' := [(4, .av (.sl (putP P L).length 5 (pf5 k (putP P L))))]) (O' := []) ⟨.sl (by rw [hnew]; simp; omega) (by rw [hnew]; exact put_rows1 k L P i hi 0 (by omega) _ (fun _ _ _ _ => rfl)), trivial⟩ trivial)) ?_
      exact zV
     ·refine sq_v (v_append (m := L.length - i) (sz := 5) (bytes := 80) rfl rfl rfl (fun _ _ j hj => pAf_one _ _ _ _ _ j hj) (by omega) (by simp only [maxLen]; omega) (by omega)) rfl ?_
      refine wt ?_
      refine sq_more ((ent_freeze 20 rfl).trans (ent (T' := [(4, .av (.sl (putP P L).length 5 (pf5 k (putP P L))))]) (O' := []) ⟨.sl (by rw [hnew]; simp; omega) (by rw [hnew]; exact put_rows2 k L P i hi 0 (by omega) _ (fun _ _ _ _ => rfl) _), trivial⟩ trivial)) ?_
      exact zV
    ·refine sq_v (v_append (m := i - 0) (sz := 5) (bytes := 80) rfl rfl rfl hone (by omega) (by simp only [maxLen]; omega) (by omega)) rfl ?_
     refine wt ?_
     refine sq_g (g_load_aggv rfl rfl) rfl ?_
     refine wt ?_
     refine sq_g (g_bslice_gen (is := [0]) (xs := [_]) (τs := [pR k P]) (row := pf5 k [P]) rfl rfl (bs29 k P) rfl) rfl ?_
     refine wt ?_
     refine sq_v (v_append (m := 1) (sz := 5) (bytes := 80) rfl rfl rfl (fun _ _ j hj => pAf_one _ _ _ _ _ j hj) (by decide) (by simp only [maxLen]; omega) (by omega)) rfl ?_
     refine wt ?_
     refine sq_g (g_slice (l := i) (h := L.length) (sz := 5) rfl ⟨_, _, rfl, by simp⟩ rfl hi (Nat.le_refl _)) rfl ?_
     refine wt ?_
     by_cases hl0 : i = L.length
     ·refine sq_g (g_append0 rfl rfl rfl zO) rfl ?_
      refine wt ?_
      refine sq_more ((ent_freeze 20 rfl).trans (ent (T' := [(4, .av (.sl (putP P L).length 5 (pf5 k (putP P L))))]) (O' := []) ⟨.sl (by rw [hnew]; simp; omega) (by rw [hnew]; exact put_rows1 k L P i hi (0 + (i - 0)) (by omega) _ (fun x hx j hj => by unfold rowApp; rw [if_neg (by omega)]; dsimp only; rw [Nat.zero_add, Nat.sub_zero])), trivial⟩ trivial)) ?_
      exact zV
     ·refine sq_v (v_append (m := L.length - i) (sz := 5) (bytes := 80) rfl rfl rfl (fun _ _ j hj => pAf_one _ _ _ _ _ j hj) (by omega) (by simp only [maxLen]; omega) (by omega)) rfl ?_
      refine wt ?_
      refine sq_more ((ent_freeze 20 rfl).trans (ent (T' := [(4, .av (.sl (putP P L).length 5 (pf5 k (putP P L))))]) (O' := []) ⟨.sl (by rw [hnew]; simp; omega) (by rw [hnew]; exact put_rows2 k L P i hi (0 + (i - 0)) (by omega) _ (fun x hx j hj => by unfold rowApp; rw [if_neg (by omega)]; dsimp only; rw [Nat.zero_add, Nat.sub_zero]) _), trivial⟩ trivial)) ?_
      exact zV
 ·have hil : i = L.length := by omega
  refine wt ?_
  (first | refine sq_split rfl rfl ?_ ?_ | refine dq_split rfl rfl ?_ ?_) <;> intro hb <;> (try simp only [zA, zB, zG, zC, zD, zN] at hb) <;> (try (exfalso; omega))
  refine wt ?_
  have hnew := putP_new P L i hi hall (fun h => absurd h zO)
  refine sq_v (f_bs0 (sz := 5) (pf5 k L) 20 tq29z rfl) rfl ?_
  refine wt ?_
  refine sq_g (g_slice (l := 0) (h := i) (sz := 5) rfl rfl ⟨_, _, rfl, by simp⟩ (Nat.zero_le _) hi) rfl ?_
  refine wt ?_
  have hone : ∀ a, a < i - 0 → ∀ j, j < 5 → (pf5 k L (0 + a) j).one = true := fun a _ j hj => pAf_one _ _ _ _ _ j hj
  by_cases hi0 : i = 0
  ·refine sq_g (g_append0 rfl rfl rfl zO) rfl ?_
   refine wt ?_
   refine sq_g (g_load_aggv rfl rfl) rfl ?_
   refine wt ?_
   refine sq_g (g_bslice_gen (is := [0]) (xs := [_]) (τs := [pR k P]) (row := pf5 k [P]) rfl rfl (bs29 k P) rfl) rfl ?_
   refine wt ?_
   refine sq_v (v_append (m := 1) (sz := 5) (bytes := 80) rfl rfl rfl (fun _ _ j hj => pAf_one _ _ _ _ _ j hj) (by decide) (by simp only [maxLen]; omega) (by omega)) rfl ?_
   refine wt ?_
   refine sq_g (g_slice (l := i) (h := L.length) (sz := 5) rfl ⟨_, _, rfl, by simp⟩ rfl hi (Nat.le_refl _)) rfl ?_
   refine wt ?_
   by_cases hl0 : i = L.length
   ·refine sq_g (g_append0 rfl rfl rfl zO) rfl ?_
    refine wt ?_
    refine sq_more ((ent_freeze 20 rfl).trans (ent (T' := [(4, .av (.sl (putP P L).length 5 (pf5 k (putP P L))))]) (O' := []) ⟨.sl (by rw [hnew]; simp; omega) (by rw [hnew]; exact put_rows1 k L P i hi 0 (by omega) _ (fun _ _ _ _ => rfl)), trivial⟩ trivial)) ?_
    exact zV
   ·refine sq_v (v_append (m := L.length - i) (sz := 5) (bytes := 80) rfl rfl rfl (fun _ _ j hj => pAf_one _ _ _ _ _ j hj) (by omega) (by simp only [maxLen]; omega) (by omega)) rfl ?_
    refine wt ?_
    refine sq_more ((ent_freeze 20 rfl).trans (ent (T' := [(4, .av (.sl (putP P L).length 5 (pf5 k (putP P L))))]) (O' := []) ⟨.sl (by rw [hnew]; simp; omega) (by rw [hnew]; exact put_rows2 k L P i hi 0 (by omega) _ (fun _ _ _ _ => rfl) _), trivial⟩ trivial)) ?_
    exact zV
  ·refine sq_v (v_append (m := i - 0) (sz := 5) (bytes := 80) rfl rfl rfl hone (by omega) (by simp only [maxLen]; omega) (by omega)) rfl ?_
   refine wt ?_
   refine sq_g (g_load_aggv rfl rfl) rfl ?_
   refine wt ?_
   refine sq_g (g_bslice_gen (is := [0]) (xs := [_]) (τs := [pR k P]) (row := pf5 k [P]) rfl rfl (bs29 k P) rfl) rfl ?_
   refine wt ?_
   refine sq_v (v_append (m := 1) (sz := 5) (bytes := 80) rfl rfl rfl (fun _ _ j hj => pAf_one _ _ _ _ _ j hj) (by decide) (by simp only [maxLen]; omega) (by omega)) rfl ?_
   refine wt ?_
   refine sq_g (g_slice (l := i) (h := L.length) (sz := 5) rfl ⟨_, _, rfl, by simp⟩ rfl hi (Nat.le_refl _)) rfl ?_
   refine wt ?_
   by_cases hl0 : i = L.length
   ·refine sq_g (g_append0 rfl rfl rfl zO) rfl ?_
    refine wt ?_
    refine sq_more ((ent_freeze 20 rfl).trans (ent (T' := [(4, .av (.sl (putP P L).length 5 (pf5 k (putP P L))))]) (O' := []) ⟨.sl (by rw [hnew]; simp; omega) (by rw [hnew]; exact put_rows1 k L P i hi (0 + (i - 0)) (by omega) _ (fun x hx j hj => by unfold rowApp; rw [if_neg (by omega)]; dsimp only; rw [Nat.zero_add, Nat.sub_zero])), trivial⟩ trivial)) ?_
    exact zV
   ·refine sq_v (v_append (m := L.length - i) (sz := 5) (bytes := 80) rfl rfl rfl (fun _ _ j hj => pAf_one _ _ _ _ _ j hj) (by omega) (by simp only [maxLen]; omega) (by omega)) rfl ?_
    refine wt ?_
    refine sq_more ((ent_freeze 20 rfl).trans (ent (T' := [(4, .av (.sl (putP P L).length 5 (pf5 k (putP P L))))]) (O' := []) ⟨.sl (by rw [hnew]; simp; omega) (by rw [hnew]; exact put_rows2 k L P i hi (0 + (i - 0)) (by omega) _ (fun x hx j hj => by unfold rowApp; rw [if_neg (by omega)]; dsimp only; rw [Nat.zero_add, Nat.sub_zero]) _), trivial⟩ trivial)) ?_
    exact zV
end Go.Proofs.YtgepmbjmaljgoaaGreatDoor.H
section
end
section
namespace Go.Vc
open Go Go.RowKit
section
variable {P : Program} {E : Env} {T T' : Tab} {O O' : Own} {d : Option Tmp} {ty : TypeId} {pos : String} {af : Array Edge} {g : Option (Nat × Bool)}
theorem osl_cells {Z : Zone} {ν : Vals} {a : Act} {w : World} {y : Operand} {q m sz ety : Nat} {h : Nat → Nat → AV} (hm : 0 < m) (hy : T.ev y = .osl q) (hq : look O q = some (.row ety sz m h)) (hs : SatZ E Z ν T O a w) :
  ∃ b o c, a.eval y = .slice (some ⟨b, o, none⟩) m c ∧ ∀ i, i < m → ∀ j, j < sz → ∃ u, w.cell? ⟨b, o + i * sz + j, none⟩ = some u ∧ (h i j).ok Z w u := by
 have hv := osl_ok hy (ev_ok hs y)
 rcases hs.own.each q _ hq with ⟨_, h0⟩ | ⟨b, cap, arr, e1, _, _, e4, e5, _, _, e8⟩
 ·omega
 ·refine ⟨b, 0, cap, by rw [hv, e1], fun i hi j hj => ?_⟩
  obtain ⟨u, hu, hk⟩ := e8 i hi j hj
  exact ⟨u, by rw [Nat.zero_add, cell_of_row w b _ arr ety _ e4]; exact hu, hk⟩
theorem ga_app_nil_o {t e : TypeId} {x y : Operand} {q2 m sz bytes : Nat} {h : Nat → Nat → AV} (r : Nat) [ht : SlTy P t e sz] [he : EltTy P e sz bytes] (hx : T.ev x = .av (.val (.slice none 0 0))) (hy : T.ev y = .osl q2) (hq2 : look O q2 = some (.row e sz m h))
  (hone : ∀ i, i < m → ∀ j, j < sz → (h i j).one = true) (hm : 0 < m) (hlen : m ≤ maxLen) (hby : m * bytes ≤ 140737488355328) (hp : Nat.blt r 1000 = true := by first | rfl | assumption) :
  GA P E ⟨d, .call ⟨.builtin .append, #[x, y], #[t, t]⟩, ty, pos, af, g⟩ T O (.osl r) [q2] r (.row e sz m h) := by
 refine ⟨fun T' O' hT hO hf => VStep.freshP ⟨by intro c; simp, fun Z ν a w hs => ?_⟩ hf, by intro c; simp⟩
 have hx' : T'.ev x = _ := (ev_same (o := ⟨d, .call ⟨.builtin .append, #[x, y], #[t, t]⟩, ty, pos, af, g⟩) hT (by simp [Op.operands, Call.operands])).trans hx
 have hy' : T'.ev y = _ := (ev_same (o := ⟨d, .call ⟨.builtin .append, #[x, y], #[t, t]⟩, ty, pos, af, g⟩) hT (by simp [Op.operands, Call.operands])).trans hy
 have hvx : a.eval x = .slice none 0 0 := by have := ev_ok hs x; rw [hx'] at this; exact this
 obtain ⟨b, o, c, hvy, hcell⟩ := osl_cells hm hy' ((hO q2 (by simp)).trans hq2) hs
 obtain ⟨i0, z, hi, hz, hsz, hbt, hzs, hpos⟩ := he.info
 obtain ⟨news, hnl, hnc, hnk, hone'⟩ := news_of hpos hcell hone
 have hown : w.ownsRow 0 e sz (.slice none 0 0) 0 [] := ⟨by simp, .inl ⟨rfl, rfl⟩⟩
 obtain ⟨v', w', hrun, hown', hgrow, _⟩ := run_append_own (P := P) w 0 t ty e i0 z sz bytes ht.und hi hz hsz hbt hzs hpos (.slice none 0 0) 0 [] hown ⟨b, o, none⟩ m c news hnl hnc hone' (by omega) (by rw [Nat.zero_add]; exact hby) (Nat.zero_le _)
 obtain ⟨ob, hrun2⟩ : ∃ ob, (Builtin.append_ #[t, t] ty #[.slice none 0 0, .slice (some ⟨b, o, none⟩) m c]).run P w = .ok (.slice (some ⟨w.heap.size, 0, none⟩) m (grownCap w m 0 e)) (w.drew.alloc ob) := ⟨_, run_append_nil (P := P) w t ty e i0 z ht.und hi hz ⟨b, o, none⟩ m c news (by rw [hsz]; exact hnl) hnc hm (by simp only [maxLen] at hlen; omega) (by rw [hbt]; omega)⟩
 have hrun' := hrun
 rw [hrun2] at hrun
 cases hrun
 refine wp_value (w' := w.drew.alloc ob) ?_ ⟨_, Z, updV ν r (.slice (some ⟨w.drew.heap.size, 0, none⟩) m (grownCap w m 0 e)), rfl, hs.drew'.newRes r hp ob (.slice (some ⟨w.drew.heap.size, 0, none⟩) m (grownCap w m 0 e)) (.row e sz m h) rfl (fun hsv hnk' hnz => ?_), (if_pos rfl).symm⟩
 ·simp only [execOp, resolve, invoke, builtin, Sem.run_bind, Sem.run_pure, Result.andThen_ok, List.map_toArray, List.map_cons, List.map_nil, hvx, hvy, hrun']; rfl
 ·rw [Nat.zero_add] at hown'
  refine row_of_owns hown' (fun b' hb' => ?_) (fun i hi j hj => ?_)
  ·have : w.heap.size = b' := by simpa [blkOf] using hb'
   subst this
   exact ⟨hnk', hnz⟩
  ·obtain ⟨u, hu, hk⟩ := hnk i hi j hj
   exact ⟨u, by simpa using hu, hsv (.av (h i j)) u rfl (AV.ok_mono (w := w) (w' := w.drew) (Z := Z) (fun _ h => h) (Nat.le_refl _) (fun _ _ _ => rfl) _ _ hk)⟩
theorem ga_app_full_o {t e : TypeId} {x y : Operand} {q q2 b n cap m sz bytes : Nat} {f h : Nat → Nat → AV} (r : Nat) [ht : SlTy P t e sz] [he : EltTy P e sz bytes] (hx : T.ev x = .av (.val (.slice (some ⟨b, 0, none⟩) n cap))) (hr : look O q = some (.op b e sz n cap f)) (hy : T.ev y = .osl q2) (hq2 : look O q2 = some (.row e sz m h))
  (hone : ∀ i, i < m → ∀ j, j < sz → (h i j).one = true) (hm : 0 < m) (hfull : cap < n + m) (hlen : n + m ≤ maxLen) (hby : (n + m) * bytes ≤ 140737488355328) (hp : Nat.blt r 1000 = true := by first | rfl | assumption) :
  GA P E ⟨d, .call ⟨.builtin .append, #[x, y], #[t, t]⟩, ty, pos, af, g⟩ T O (.osl r) [q, q2] r (.row e sz (n + m) (rowApp n f h)) := by
 refine ⟨fun T' O' hT hO hf => VStep.freshP ⟨by intro c; simp, fun Z ν a w hs => ?_⟩ hf, by intro c; simp⟩
 have hx' : T'.ev x = _ := (ev_same (o := ⟨d, .call ⟨.builtin .append, #[x, y], #[t, t]⟩, ty, pos, af, g⟩) hT (by simp [Op.operands, Call.operands])).trans hx
 have hy' : T'.ev y = _ := (ev_same (o := ⟨d, .call ⟨.builtin .append, #[x, y], #[t, t]⟩, ty, pos, af, g⟩) hT (by simp [Op.operands, Call.operands])).trans hy
 have hvx : a.eval x = .slice (some ⟨b, 0, none⟩) n cap := by have := ev_ok hs x; rw [hx'] at this; exact this
 obtain ⟨b1, o, c, hvy, hcell⟩ := osl_cells hm hy' ((hO q2 (by simp)).trans hq2) hs
 obtain ⟨i0, z, hi, hz, hsz, hbt, hzs, hpos⟩ := he.info
 obtain ⟨news, hnl, hnc, hnk, hone'⟩ := news_of hpos hcell hone
 obtain ⟨_, e2, e3, e4, e5, arr, e6, e7, e8⟩ := op_own (hs.own.each q _ ((hO q (by simp)).trans hr))
 have hrow : Res.ok E Z ν w (.slice (some ⟨b, 0, none⟩) n cap) (.row e sz n f) := .inr ⟨b, cap, arr, rfl, e2, e3, e6, e4, e5, e7, e8⟩
 obtain ⟨xs, hown, hxs⟩ := ownsRow_of hrow
 obtain ⟨v', w', hrun, hown', hgrow, _⟩ := run_append_own (P := P) w 0 t ty e i0 z sz bytes ht.und hi hz hsz hbt hzs hpos _ n xs hown ⟨b1, o, none⟩ m c news hnl hnc hone' hlen hby (Nat.zero_le _)
 have holds : ∀ (j : Nat) u, xs[j]? = some u → w.cell? ((⟨b, 0, none⟩ : Addr).add j) = some u := hown.cells (g := b) rfl
 obtain ⟨ob, hrun2⟩ : ∃ ob, (Builtin.append_ #[t, t] ty #[.slice (some ⟨b, 0, none⟩) n cap, .slice (some ⟨b1, o, none⟩) m c]).run P w = .ok (.slice (some ⟨w.heap.size, 0, none⟩) (n + m) (grownCap w (n + m) cap e)) (w.drew.alloc ob) := ⟨_, run_append_grow (P := P) w t ty e i0 z ht.und hi hz ⟨b, 0, none⟩ n cap xs (by rw [hsz]; exact hown.1) holds ⟨b1, o, none⟩ m c news (by rw [hsz]; exact hnl) hnc hfull (by simp only [maxLen] at hlen; omega) (growslice_fits (by omega) (by rw [hbt]; exact hby))⟩
 have hrun' := hrun
 rw [hrun2] at hrun
 cases hrun
 refine wp_value (w' := w.drew.alloc ob) ?_ ⟨_, Z, updV ν r (.slice (some ⟨w.drew.heap.size, 0, none⟩) (n + m) (grownCap w (n + m) cap e)), rfl, hs.drew'.newRes r hp ob (.slice (some ⟨w.drew.heap.size, 0, none⟩) (n + m) (grownCap w (n + m) cap e)) (.row e sz (n + m) (rowApp n f h)) rfl (fun hsv hnk' hnz => ?_), (if_pos rfl).symm⟩
 ·simp only [execOp, resolve, invoke, builtin, Sem.run_bind, Sem.run_pure, Result.andThen_ok, List.map_toArray, List.map_cons, List.map_nil, hvx, hvy, hrun']; rfl
 ·refine row_of_owns hown' (fun b' hb' => ?_) (app_cells (w := w) hown.1 (fun τ u hτ => hsv (.av τ) u rfl (AV.ok_mono (w := w) (w' := w.drew) (Z := Z) (fun _ h => h) (Nat.le_refl _) (fun _ _ _ => rfl) _ _ hτ)) hxs hnk)
  have : w.heap.size = b' := by simpa [blkOf] using hb'
  subst this
  exact ⟨hnk', hnz⟩
theorem g_app_room_o {t e : TypeId} {x y : Operand} {q q2 b n cap m sz bytes : Nat} {f h : Nat → Nat → AV} [ht : SlTy P t e sz] [he : EltTy P e sz bytes] (hx : T.ev x = .av (.val (.slice (some ⟨b, 0, none⟩) n cap))) (hr : look O q = some (.op b e sz n cap f)) (hy : T.ev y = .osl q2) (hq2 : look O q2 = some (.row e sz m h))
  (hone : ∀ i, i < m → ∀ j, j < sz → (h i j).one = true) (hm : 0 < m) (hroom : n + m ≤ cap) (hlen : n + m ≤ maxLen) (hby : (n + m) * bytes ≤ 140737488355328) :
  GV P E ⟨d, .call ⟨.builtin .append, #[x, y], #[t, t]⟩, ty, pos, af, g⟩ T O (.av (.val (.slice (some ⟨b, 0, none⟩) (n + m) cap))) [q, q2] [(q, .op b e sz (n + m) cap (rowApp n f h))] := by
 refine ⟨fun T' O' hT hO => ⟨by intro c; simp, fun Z ν a w hs => ?_⟩⟩
 have hx' : T'.ev x = _ := (ev_same (o := ⟨d, .call ⟨.builtin .append, #[x, y], #[t, t]⟩, ty, pos, af, g⟩) hT (by simp [Op.operands, Call.operands])).trans hx
 have hy' : T'.ev y = _ := (ev_same (o := ⟨d, .call ⟨.builtin .append, #[x, y], #[t, t]⟩, ty, pos, af, g⟩) hT (by simp [Op.operands, Call.operands])).trans hy
 have hvx : a.eval x = .slice (some ⟨b, 0, none⟩) n cap := by have := ev_ok hs x; rw [hx'] at this; exact this
 obtain ⟨b1, o, c, hvy, hcell⟩ := osl_cells hm hy' ((hO q2 (by simp)).trans hq2) hs
 obtain ⟨i0, z, hi, hz, hsz, hbt, hzs, hpos⟩ := he.info
 obtain ⟨news, hnl, hnc, hnk, hone'⟩ := news_of hpos hcell hone
 have hq := (hO q (by simp)).trans hr
 obtain ⟨⟨mm, e1⟩, e2, e3, e4, e5, arr, e6, e7, e8⟩ := op_own (hs.own.each q _ hq)
 have hrow : Res.ok E Z ν w (.slice (some ⟨b, 0, none⟩) n cap) (.row e sz n f) := .inr ⟨b, cap, arr, rfl, e2, e3, e6, e4, e5, e7, e8⟩
 obtain ⟨xs, hown, hxs⟩ := ownsRow_of hrow
 obtain ⟨v', w', hrun, hown', hgrow, _⟩ := run_append_own (P := P) w 0 t ty e i0 z sz bytes ht.und hi hz hsz hbt hzs hpos _ n xs hown ⟨b1, o, none⟩ m c news hnl hnc hone' hlen hby (Nat.zero_le _)
 have hfit : n * i0.size + news.length ≤ arr.size := by rw [hnl, hsz, e7, ← Nat.add_mul]; exact Nat.mul_le_mul_right _ hroom
 obtain ⟨cur, hcur, hrun2⟩ : ∃ cur, cur = (arr.toList.take (n * i0.size) ++ news ++ arr.toList.drop (n * i0.size + news.length)).toArray ∧ (Builtin.append_ #[t, t] ty #[.slice (some ⟨b, 0, none⟩) n cap, .slice (some ⟨b1, o, none⟩) m c]).run P w = .ok (.slice (some ⟨b, 0, none⟩) (n + m) cap) (w.setRow b cur) := ⟨_, rfl, run_append_room (P := P) w t ty e i0 ht.und hi b n cap arr e6 ⟨b1, o, none⟩ m c news (by rw [hsz]; exact hnl) hnc hone' hroom hfit⟩
 have hrun' := hrun
 rw [hrun2] at hrun
 cases hrun
 have hlt : b < w.heap.size := (Array.getElem?_eq_some_iff.1 e6).1
 refine wp_value (w' := w.setRow b cur) ?_ ⟨_, Z, ν, rfl, hs.write (w' := w.setRow b cur) hq (b := b) (by rw [e1]; rfl) rfl rfl rfl (by simp [World.setRow]) (fun k hk => by simp [World.setRow, Array.getElem?_modify, Ne.symm hk]) (fun hsv => ?_), rfl⟩
 ·simp only [execOp, resolve, invoke, builtin, Sem.run_bind, Sem.run_pure, Result.andThen_ok, List.map_toArray, List.map_cons, List.map_nil, hvx, hvy, hrun']
 ·have hb2 := setRow_heap w b arr cur e (0, 0) e6
  subst hcur
  refine ⟨b, _, by rw [e1]; rfl, e2, e3, hb2, ⟨mm, e1⟩, hroom, e5, _, rfl, ?_, fun i hi' j hj => ?_⟩
  ·simp only [List.size_toArray, List.length_append, List.length_take, List.length_drop, Array.length_toList]
   omega
  ·have hxl : n * i0.size ≤ arr.toList.length := by rw [Array.length_toList]; omega
   obtain ⟨u, hu, hk⟩ := app_cells (xs := arr.toList.take (n * i0.size)) (by rw [List.length_take, hsz] at *; omega) (fun τ u hτ => hsv (.av τ) u hτ) (fun i hi j hj => by
    obtain ⟨u, hu, hk⟩ := e8 i hi j hj
    refine ⟨u, ?_, hk⟩
    have : i * sz + j < n * i0.size := by
     have : (i + 1) * sz ≤ n * sz := Nat.mul_le_mul_right _ hi
     rw [Nat.add_mul, Nat.one_mul] at this
     rw [hsz]; omega
    rw [List.getElem?_take_of_lt this]
    simpa using hu) hnk i hi' j hj
   refine ⟨u, ?_, hk⟩
   rw [List.getElem?_toArray, List.getElem?_append_left (List.getElem?_eq_some_iff.1 hu).1]
   exact hu
def Res.frzc (r : Nat) (τ : AV) : Res → Res
 |.cells cs => .cells (cs.map (SV.frz r τ))
 |.row ty sz n f => .row ty sz n f
 |.obj φ h => .obj φ h
 |.srow ty sz n cs => .srow ty sz n cs
def Own.frzc (r : Nat) (τ : AV) (O : Own) : Own := O.map fun p => (p.1, p.2.frzc r τ)
theorem look_frzc (r : Nat) (τ : AV) (O : Own) (k : Nat) : look (Own.frzc r τ O) k = (look O k).map (Res.frzc r τ) := by
 unfold Own.frzc; rw [look_map]
theorem SatZ.frzO {Z : Zone} {ν : Vals} {a : Act} {w : World} {r : Nat} {τ : AV} (h : SatZ E Z ν T O a w) (hτ : τ.ok Z w (ν r)) : SatZ E Z ν T (Own.frzc r τ O) a w := by
 have hn : ∀ k, look (Own.frzc r τ O) k ≠ none → look O k ≠ none := fun k hk e => by rw [look_frzc, e] at hk; exact hk rfl
 refine ⟨h.defers, h.tsize, h.cst, h.pin, h.base, ⟨fun k x hx => ?_, fun k k' hne h1 h2 => h.own.apart k k' hne (hn k h1) (hn k' h2)⟩, h.slot⟩
 rw [look_frzc] at hx
 obtain ⟨y, hy, rfl⟩ := Option.map_eq_some_iff.1 hx
 have := h.own.each k y hy
 cases y with
 |cells cs =>
  obtain ⟨b, ty, arr, h1, h2, h3, h4, h5, h6⟩ := this
  refine ⟨b, ty, arr, h1, h2, h3, h4, by simpa using h5, fun i s hs => ?_⟩
  simp only [List.getElem?_map, Option.map_eq_some_iff] at hs
  obtain ⟨s0, hs0, rfl⟩ := hs
  obtain ⟨u, hu, hk⟩ := h6 i s0 hs0
  exact ⟨u, hu, SV.frz_is hτ s0 u hk⟩
 |row ty sz n f => exact this
 |obj φ hφ => exact this
 |srow ty sz n cs => exact this
theorem cq_openc {Q : Exit → Act → World → Prop} {c : Code} (r : Nat) {ety sz n : Nat} {f : Nat → Nat → AV} (hr : look O r = some (.row ety sz n f))
  (h0 : n = 0 → CQ P E Q (T.frz r (.val (.slice none 0 0))) (Own.drop r (Own.frzc r (.val (.slice none 0 0)) O)) c)
  (h1 : ∀ b cap, n ≤ cap → CQ P E Q (T.frz r (.val (.slice (some ⟨b, 0, none⟩) n cap))) ((r, .op b ety sz n cap f) :: Own.frzc r (.val (.slice (some ⟨b, 0, none⟩) n cap)) O) c) : CQ P E Q T O c := by
 refine ⟨fun a w hsat => ?_⟩
 obtain ⟨Z, ν, hs⟩ := hsat
 rcases hs.own.each r _ hr with ⟨e1, e2⟩ | ⟨b, cap, arr, e1, e2, e3, e4, e5, e6, e7, e8⟩
 ·exact (h0 e2).sq a w ⟨Z, ν, ((hs.frzT (τ := .val (.slice none 0 0)) e1).frzO (τ := .val (.slice none 0 0)) e1).dropO⟩
 ·refine (h1 b cap e5).sq a w ⟨Z, ν, ((hs.frzT (τ := .val (.slice (some ⟨b, 0, none⟩) n cap)) e1).frzO (r := r) (τ := .val (.slice (some ⟨b, 0, none⟩) n cap)) e1).reobj (x := .row ety sz n f) (by rw [look_frzc, hr]; rfl) ?_⟩
  exact ⟨b, _, by rw [e1]; rfl, e2, e3, e4, ⟨n, e1⟩, e5, e6, arr, rfl, e7, e8⟩
end
end Go.Vc
end
namespace Go.Proofs.YtgepmbjmaljgoaaGreatDoor.H
open Go Go.Vc Go.RowKit
open Go.Na (rtx LR chkR_rtx chkR rsg)
set_option maxHeartbeats 4000000
def matF (r c : Nat) (f : Nat → Rat) : Nat → AV := fun j => match j with | 0 => vi r | 1 => vi c | _ => .sl (r * c) 1 (fun x _ => vR (f x))
abbrev matA (r c : Nat) (f : Nat → Rat) : AV := .agg 3 (matF r c f)
theorem at_c (r c i j : Nat) (f : Nat → Rat) (hr : r ≤ 100) (hc : c ≤ 100) (hi : i < r) (hj : j < c) : CtrA Tryz.prog 219 [matA r c f, vi i, vi j] (vR (f (i * c + j))) := by
 have h1 : i * c + j < r * c := by
  have : (i + 1) * c ≤ r * c := Nat.mul_le_mul_right _ hi
  rw [Nat.add_mul, Nat.one_mul] at this
  omega
 have h2 : r * c ≤ 100 * 100 := Nat.mul_le_mul hr hc
 have h3 : ((i : Int) * (c : Int)) = ((i * c : Nat) : Int) := by simp
 refine ctrA _ Tryz.func219 rfl rfl Tryz.ntmps219 rfl fun w Z => ?_
 refine zU ?_
 refine wt ?_
 exact zV
theorem tq102z (w : World) : (Instr.buildSlice 102 0 #[]).run Tryz.prog w = .ok (.slice (some ⟨w.heap.size, 0, none⟩) 0 0) (w.alloc (.cells #[] 39)) := by kernel_rfl
theorem row_c (r c i : Nat) (f : Nat → Rat) (hr : r ≤ 100) (hc : c ≤ 100) (hc0 : 0 < c) (hi : i < r) : CtrR Tryz.prog 257 [matA r c f, vi i] 39 1 c (fun j _ => vR (f (i * c + j))) [] := by
 have h1 : (i + 1) * c ≤ r * c := Nat.mul_le_mul_right _ hi
 have h2 : r * c ≤ 100 * 100 := Nat.mul_le_mul hr hc
 refine ctrR _ Tryz.func257 rfl rfl Tryz.ntmps257 rfl fun w Z => ?_
 refine zU ?_
 refine wt ?_
 refine sq_v (f_bs0 (sz := 1) (fun _ _ => .any) 20 tq102z rfl) rfl ?_
 refine wt ?_
 have e1 : (i + 1) * c - i * c = c := by rw [Nat.add_mul, Nat.one_mul]; omega
 refine sq_g (g_slice (l := i * c) (h := (i + 1) * c) (sz := 1) rfl ⟨_, _, rfl, by simp⟩ ⟨_, _, rfl, by simp⟩ (Nat.mul_le_mul_right _ (by omega)) h1) rfl ?_
 refine wt ?_
 rw [e1]
 refine sq_v (v_append (m := c) (sz := 1) (bytes := 16) rfl rfl rfl (fun _ _ _ _ => rfl) hc0 (by simp only [maxLen]; omega) (by omega)) rfl ?_
 refine wt ?_
 exact sq_retR rfl rfl rfl (Nat.zero_add c) (fun j hj _ _ => by unfold rowApp; rw [if_neg (by omega), Nat.sub_zero])
theorem row34_c (i : Nat) (hi : i < 3) (f : Nat → Rat) : CtrR Tryz.prog 257 [matA 3 4 f, vi i] 39 1 4 (fun j _ => vR (f (i * 4 + j))) [] := row_c 3 4 i f (by omega) (by omega) (by omega) hi
def besF (f b : Nat → Rat) : Nat → Rat := fun x => if x % 4 < 3 then f (x / 4 * 3 + x % 4) else b (x / 4)
def besV (f b : Nat → Rat) : Nat → Nat → AV := fun x _ => vR (besF f b x)
theorem tb212k (a b : Int) : Tryz.prog.built 212 [(0, .int .i64 a), (1, .int .i64 b)] = some #[.int .i64 a, .int .i64 b, .slice none 0 0] := by kernel_rfl
theorem tq102o (x : List UInt8) (w : World) : (Instr.buildSlice 102 1 #[(0, sv x)]).run Tryz.prog w = .ok (.slice (some ⟨w.heap.size, 0, none⟩) 1 1) (w.alloc (.cells #[sv x] 39)) := by kernel_rfl
theorem o1_ok (q : Rat) : ∀ i, i < 1 → ∀ j, j < 1 → ∃ u, [Value.string (bs (rtx q))][i * 1 + j]? = some u ∧ (fun (_ _ : Nat) => vR q) i j = .val u := by
 intro i hi j hj
 rw [show i = 0 by omega, show j = 0 by omega]
 exact ⟨_, rfl, rfl⟩
theorem bes_row (f b : Nat → Rat) (i n : Nat) (hn : n = i * 4) (g0 : Nat → Nat → AV) (hg : ∀ x, x < n → ∀ j, g0 x j = besV f b x j) : ∀ x, x < n + 3 + 1 → ∀ j, j < 1 → rowApp (n + 3) (rowApp n g0 (fun j _ => vR (f (i * 3 + j)))) (fun _ _ => vR (b i)) x j = besV f b x j := by
 intro x hx j _
 unfold rowApp
 by_cases h1 : x < n + 3
 ·rw [if_pos h1]
  by_cases h2 : x < n
  ·rw [if_pos h2, hg x h2]
  ·rw [if_neg h2]
   show vR _ = vR (besF f b x)
   unfold besF
   rw [if_pos (by omega), show i * 3 + (x - n) = x / 4 * 3 + x % 4 by omega]
 ·rw [if_neg h1]
  show vR _ = vR (besF f b x)
  unfold besF
  rw [if_neg (by omega), show i = x / 4 by omega]
theorem matF_one (r c : Nat) (f : Nat → Rat) : ∀ i, i < 3 → (matF r c f i).one = true := by
 intro i hi
 rcases (by omega : i = 0 ∨ i = 1 ∨ i = 2) with rfl | rfl | rfl <;> rfl
theorem beside_c (f b : Nat → Rat) : CtrA Tryz.prog 217 [matA 3 3 f, .sl 3 1 (fun i _ => vR (b i))] (matA 3 4 (besF f b)) := by
 have hrow : ∀ i : Nat, i < 3 → CtrR Tryz.prog 257 [matA 3 3 f, vi i] 39 1 3 (fun j _ => vR (f (i * 3 + j))) [] := fun i hi => row_c 3 3 i f zO zO zO hi
 refine ctrA _ Tryz.func217 rfl rfl Tryz.ntmps217 rfl fun w Z => ?_
 refine zU ?_
 refine wt ?_
 refine sq_g (g_build (t := 212) (is := [0, 1]) (xs := [_, _]) (vs := [_, _]) (tb212k _ _) rfl rfl) rfl ?_
 refine wt ?_
 refine cq_loop (γ := Nat) (fun i => [(1, .av (.sl 3 1 (fun i _ => vR (b i)))), (2, .av (.ptr 3 (matF 3 3 f))), (4, .own 10 0), (5, .own 11 0), (6, .av (vi i))]) (fun i => [(10, .cells [.av (vi 0), .av (vi 0), .av (.val (.slice none 0 0))]), (11, .cells [.av (vi 3), .av (vi 4), .osl 20]), (20, .row 39 1 (i * 4) (besV f b))]) (fun i => i ≤ 3) (fun i => 3 - i) 0 (Nat.zero_le _) ((ent_rowc (r := 11) (off := 2) 20 39 1 (besV f b) rfl rfl rfl).trans (ent zS zT)) ?_
 intro i hi
 refine wt ?_
 (refine cq_cond rfl ?_ ?_ <;> intro hb <;> (try simp only [zA, zB, zG, zC, zD, zN] at hb) <;> (try (exfalso; omega)))
 ·have hil : i < 3 := by omega
  have hr := hrow i hil
  refine cq_openc 20 rfl (fun h0 => ?_) (fun b0 cap hle => ?_)
  ·have hz : i = 0 := by omega
   subst hz
   have hrow0 : ∀ x, x < 4 → ∀ j, j < 1 → rowApp 3 (fun j _ => vR (f (0 * 3 + j))) (fun _ _ => vR (b 0)) x j = besV f b x j := by
    intro x hx j hj
    have := bes_row f b 0 0 rfl (fun _ _ => .any) (fun x hx => absurd hx (Nat.not_lt_zero x)) x hx j hj
    rw [← this]
    unfold rowApp
    simp
   refine wt ?_
   refine dq_g (g_load_aggv rfl rfl) rfl ?_
   refine wt ?_
   refine dq_v (ga_call_row 22 hr rfl) rfl rfl ?_
   refine wt ?_
   refine dq_v (ga_app_nil_o (m := 3) 20 rfl rfl rfl (fun _ _ _ _ => rfl) zE zE zE) rfl rfl ?_
   refine wt ?_
   refine dq_g (g_bslice (is := [0]) (xs := [_]) (vs := [_]) (us := [.string (bs (rtx (b 0)))]) (row := fun _ _ => vR (b 0)) (tq102o _) rfl rfl rfl (o1_ok _)) rfl ?_
   refine wt ?_
   refine dq_tail rfl rfl ?_
   refine sq_v (v_append (m := 1) (sz := 1) (bytes := 16) rfl rfl rfl (fun _ _ _ _ => rfl) (by decide) (by simp only [maxLen]; omega) (by omega)) rfl ?_
   refine wt ?_
   exact sq_round 1 zO zO (ent zS ⟨⟨_, rfl, .refl _⟩, ⟨_, rfl, .refl _⟩, ⟨_, rfl, .row rfl hrow0⟩, trivial⟩)
  ·by_cases hfull : cap < i * 4 + 3
   ·refine wt ?_
    refine dq_g (g_load_aggv rfl rfl) rfl ?_
    refine wt ?_
    refine dq_v (ga_call_row 22 hr rfl) rfl rfl ?_
    refine wt ?_
    refine dq_v (ga_app_full_o (q := 20) (m := 3) 120 rfl rfl rfl rfl (fun _ _ _ _ => rfl) (by decide) hfull (by simp only [maxLen]; omega) (by omega)) rfl rfl ?_
    refine wt ?_
    refine dq_g (g_bslice (is := [0]) (xs := [_]) (vs := [_]) (us := [.string (bs (rtx (b i)))]) (row := fun _ _ => vR (b i)) (tq102o _) rfl rfl rfl (o1_ok _)) rfl ?_
    refine wt ?_
    refine dq_tail rfl rfl ?_
    refine sq_v (v_append (m := 1) (sz := 1) (bytes := 16) rfl rfl rfl (fun _ _ _ _ => rfl) (by decide) (by simp only [maxLen]; omega) (by omega)) rfl ?_
    refine wt ?_
    exact sq_round (i + 1) zO zO (Ent.trans (ent (T' := [(1, .av (.sl 3 1 (fun i _ => vR (b i)))), (2, .av (.ptr 3 (matF 3 3 f))), (4, .own 10 0), (5, .own 11 0), (6, .av (vi ((i + 1 : Nat) : Int)))]) (O' := [(10, .cells [.av (vi 0), .av (vi 0), .av (.val (.slice none 0 0))]), (11, .cells [.av (vi 3), .av (vi 4), .osl 120]), (120, .row 39 1 ((i + 1) * 4) (besV f b))]) zS ⟨⟨_, rfl, .refl _⟩, ⟨_, rfl, .refl _⟩, ⟨_, rfl, .row zO (bes_row f b i (i * 4) rfl _ (fun _ _ _ => rfl))⟩, trivial⟩) (ent_ren [(20, 120)] ⟨rfl, rfl, rfl, rfl, rfl, trivial⟩ ⟨rfl, rfl, rfl, trivial⟩ rfl rfl))
   ·refine wt ?_
    refine dq_g (g_load_aggv rfl rfl) rfl ?_
    refine wt ?_
    refine dq_v (ga_call_row 22 hr rfl) rfl rfl ?_
    refine wt ?_
    refine dq_call_h (g_app_room_o (q := 20) (m := 3) (bytes := 16) rfl rfl rfl rfl (fun _ _ _ _ => rfl) (by decide) (Nat.le_of_not_lt hfull) (by simp only [maxLen]; omega) (by omega)) rfl ?_
    refine wt ?_
    refine dq_g (g_bslice (is := [0]) (xs := [_]) (vs := [_]) (us := [.string (bs (rtx (b i)))]) (row := fun _ _ => vR (b i)) (tq102o _) rfl rfl rfl (o1_ok _)) rfl ?_
    refine wt ?_
    refine dq_tail rfl rfl ?_
    refine lsq_more (Ent.trans (ent_close 24 20 rfl rfl) (ent (T' := [(24, .osl 20), (29, .av (.sl 1 1 (fun _ _ => vR (b i)))), (1, .av (.sl 3 1 (fun i _ => vR (b i)))), (2, .av (.ptr 3 (matF 3 3 f))), (4, .own 10 0), (5, .own 11 0), (6, .av (vi i))]) (O' := [(10, .cells [.av (vi 0), .av (vi 0), .av (.val (.slice none 0 0))]), (11, .cells [.av (vi 3), .av (vi 4), .av .any]), (20, .row 39 1 (i * 4 + 3) (rowApp (i * 4) (besV f b) (fun j _ => vR (f (i * 3 + j)))))]) zS ⟨⟨_, rfl, .refl _⟩, ⟨_, rfl, .cells ⟨.refl _, .refl _, .any _, trivial⟩⟩, ⟨_, rfl, .refl _⟩, trivial⟩)) ?_
    refine sq_v (v_append (m := 1) (sz := 1) (bytes := 16) rfl rfl rfl (fun _ _ _ _ => rfl) (by decide) (by simp only [maxLen]; omega) (by omega)) rfl ?_
    refine wt ?_
    exact sq_round (i + 1) zO zO (ent zS ⟨⟨_, rfl, .refl _⟩, ⟨_, rfl, .refl _⟩, ⟨_, rfl, .row zO (bes_row f b i (i * 4) rfl _ (fun _ _ _ => rfl))⟩, trivial⟩)
 ·have hil : i = 3 := by omega
  subst hil
  refine wt ?_
  refine lsq_ent (ent_freeze_in 11 20 2 rfl rfl rfl rfl) ?_
  refine sq_g (g_load_own_aggv (f := matF 3 4 (besF f b)) rfl rfl rfl) rfl ?_
  refine wt ?_
  refine sq_s (g_store_aggv rfl rfl (matF_one _ _ _) rfl rfl) ?_
  refine wt ?_
  exact sq_res1 rfl (.aggv (f := matF 3 4 (besF f b)) rfl rfl rfl) rfl
end Go.Proofs.YtgepmbjmaljgoaaGreatDoor.H
namespace Go.Na
theorem red_next {M : Mat} {n m k : Nat} (hk : k < n) (hnm : n ≤ m) (hM : ∀ v, Ker M n m v → (∀ c, n ≤ c → c < m → v c = 0) → ∀ c, c < n → v c = 0) :
  ∃ p, p = piv (red n M k).1 k k (n - k) ∧ k ≤ p ∧ p < n ∧ (red n M k).1 p k ≠ 0 ∧ (red n M (k + 1)).1 = elm (nrm (swp (red n M k).1 k p) k k) k k := by
 have hok := red_ok hnm hM k (by omega)
 obtain ⟨⟨h1, h2, h3⟩, _⟩ := red_step hk hnm hM hok
 have hlen : (red n M k).2.length = k := by rw [hok.lead]; simp
 refine ⟨_, rfl, h1, h2, h3, ?_⟩
 show (stp n k (red n M k)).1 = _
 unfold stp
 rw [hlen, if_neg (by omega)]
def LM (b : Nat) (M : Mat) : Prop := ∀ i c, i < 3 → c < 4 → LR b (M i c)
theorem LM.swp {b : Nat} {M : Mat} (h : LM b M) {t p : Nat} (ht : t < 3) (hp : p < 3) : LM b (Go.Na.swp M t p) := by
 intro i c hi hc
 unfold Go.Na.swp
 split
 ·exact h p c hp hc
 ·split
  ·exact h t c ht hc
  ·exact h i c hi hc
theorem LM.nrm {b : Nat} {M : Mat} (h : LM b M) {t k : Nat} (ht : t < 3) (hk : k < 4) (h0 : M t k ≠ 0) : LM (b + b) (Go.Na.nrm M t k) := by
 intro i c hi hc
 unfold Go.Na.nrm
 split
 ·exact (h t c ht hc).div (h t k ht hk) h0
 ·exact (h i c hi hc).mono (by omega)
theorem LM.stp {b : Nat} {M : Mat} (h : LM b M) {t k : Nat} (ht : t < 3) (hk : k < 4) (h0 : M t k ≠ 0) : LM (b + (b + (b + b)) + 1) (Go.Na.elm (Go.Na.nrm M t k) t k) := by
 intro i c hi hc
 unfold Go.Na.elm
 split
 ·exact LR.mono (k := b + b) ((h.nrm ht hk h0) t c ht hc) (by omega)
 ·rename_i hne
  have e1 : ∀ c, Go.Na.nrm M t k i c = M i c := fun c => if_neg hne
  rw [e1, e1, Rat.sub_eq_add_neg]
  exact Go.Proofs.YtgepmbjmaljgoaaGreatDoor.H.LR.add' (h i c hi hc) (Go.Proofs.YtgepmbjmaljgoaaGreatDoor.H.LR.mul' (h i k hi hk) ((h.nrm ht hk h0) t c ht hc)).neg
end Go.Na
