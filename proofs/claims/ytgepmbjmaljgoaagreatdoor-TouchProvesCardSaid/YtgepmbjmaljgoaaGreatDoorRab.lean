/- A part of the proof that TouchProves returns true at every input and that the input reads behind the call as it read before; this part states nothing of its own that is claimed. -/
import Derived.Test.YtgepmbjmaljgoaaGreatDoorCai
import Derived.Test.YtgepmbjmaljgoaaGreatDoorCak
import Derived.Test.YtgepmbjmaljgoaaGreatDoorCap
import Derived.Test.YtgepmbjmaljgoaaGreatDoorCaq
import Derived.Test.YtgepmbjmaljgoaaGreatDoorCar
set_option linter.unusedVariables false
set_option linter.unusedSimpArgs false
section
namespace Go.Vc
open Go Go.RowKit
section
variable {P : Program} {E : Env} {T T' : Tab} {O O' : Own} {d : Option Tmp} {ty : TypeId} {pos : String} {af : Array Edge} {g : Option (Nat × Bool)}
def opφ (b : Nat) (ty : TypeId) (sz n cap : Nat) (f : Nat → Nat → AV) : Zone → World → Value → Obj → Prop := fun Z w v ob =>
  (∃ m, v = .slice (some ⟨b, 0, none⟩) m cap) ∧ n ≤ cap ∧ cap ≤ maxLen ∧ ∃ arr, ob = .cells arr ty (0, 0) ∧ arr.size = cap * sz ∧ ∀ i, i < n → ∀ j, j < sz → ∃ u, arr[i * sz + j]? = some u ∧ (f i j).ok Z w u
theorem op_st (b : Nat) (ty : TypeId) (sz n cap : Nat) (f : Nat → Nat → AV) : RStable (opφ b ty sz n cap f) := by
  rintro Z Z' w w' v ob h1 h2 h3 ⟨h4, h5, h6, arr, h7, h8, h9⟩
  exact ⟨h4, h5, h6, arr, h7, h8, fun i hi j hj => let ⟨u, hu, hk⟩ := h9 i hi j hj; ⟨u, hu, AV.ok_mono h1 h2 h3 _ _ hk⟩⟩
abbrev Res.op (b : Nat) (ty : TypeId) (sz n cap : Nat) (f : Nat → Nat → AV) : Res := .obj (opφ b ty sz n cap f) (op_st b ty sz n cap f)
theorem SV.frz_is {Z : Zone} {ν : Vals} {w : World} {r : Nat} {τ : AV} (hτ : τ.ok Z w (ν r)) (s : SV) (v : Value) (h : s.ok Z ν w v) : (s.frz r τ).ok Z ν w v := by
  cases s with
  | osl s =>
    cases hb : Nat.beq s r with
    | true =>
      have := Nat.eq_of_beq_eq_true hb
      subst this
      have e : (SV.osl s).frz s τ = .av τ := by simp [SV.frz]
      have h' : v = ν s := h
      rw [e, h']; exact hτ
    | false =>
      have e : (SV.osl s).frz r τ = .osl s := by simp [SV.frz, hb]
      rw [e]; exact h
  | av σ => exact h
  | oel s sz i j => unfold SV.frz; dsimp only; split <;> first | trivial | exact h
  | osx s sz lo n => unfold SV.frz; dsimp only; split <;> first | trivial | exact h
  | own s o => unfold SV.frz; dsimp only; split <;> first | trivial | exact h
  | clo k cs => unfold SV.frz; dsimp only; split <;> first | trivial | exact h
  | tupR s ρs => unfold SV.frz; dsimp only; split <;> first | trivial | exact h
  | agg cs => unfold SV.frz; dsimp only; split <;> first | trivial | exact h
  | tupC cs => unfold SV.frz; dsimp only; split <;> first | trivial | exact h
  | fnC k cs => unfold SV.frz; dsimp only; split <;> first | trivial | exact h
  | ocs s o n => unfold SV.frz; dsimp only; split <;> first | trivial | exact h
theorem SatZ.frzT {Z : Zone} {ν : Vals} {a : Act} {w : World} {r : Nat} {τ : AV} (h : SatZ E Z ν T O a w) (hτ : τ.ok Z w (ν r)) : SatZ E Z ν (T.frz r τ) O a w :=
  ⟨h.defers, h.tsize, h.cst, h.pin, h.base, h.own, fun k => by rw [Tab.get_frz]; exact SV.frz_is hτ _ _ (h.slot k)⟩
theorem SatZ.dropO {Z : Zone} {ν : Vals} {a : Act} {w : World} {r : Nat} (h : SatZ E Z ν T O a w) : SatZ E Z ν T (Own.drop r O) a w := by
  have hl : ∀ k x, look (Own.drop r O) k = some x → look O k = some x := fun k x hx => by
    rw [Own.look_drop] at hx
    split at hx
    · cases hx
    · exact hx
  have hn : ∀ k, look (Own.drop r O) k ≠ none → look O k ≠ none := fun k hk => by
    cases hx : look (Own.drop r O) k with
    | none => exact absurd hx hk
    | some x => rw [hl k x hx]; simp
  exact ⟨h.defers, h.tsize, h.cst, h.pin, h.base, ⟨fun k x hx => h.own.each k x (hl k x hx), fun k k' hne h1 h2 => h.own.apart k k' hne (hn k h1) (hn k' h2)⟩, h.slot⟩
theorem cq_open {Q : Exit → Act → World → Prop} {c : Code} (r : Nat) {ety sz n : Nat} {f : Nat → Nat → AV} (hr : look O r = some (.row ety sz n f))
    (h0 : n = 0 → CQ P E Q (T.frz r (.val (.slice none 0 0))) (Own.drop r O) c)
    (h1 : ∀ b cap, n ≤ cap → CQ P E Q (T.frz r (.val (.slice (some ⟨b, 0, none⟩) n cap))) ((r, .op b ety sz n cap f) :: O) c) : CQ P E Q T O c := by
  refine ⟨fun a w hsat => ?_⟩
  obtain ⟨Z, ν, hs⟩ := hsat
  rcases hs.own.each r _ hr with ⟨e1, e2⟩ | ⟨b, cap, arr, e1, e2, e3, e4, e5, e6, e7, e8⟩
  · exact (h0 e2).sq a w ⟨Z, ν, (hs.frzT (τ := .val (.slice none 0 0)) e1).dropO⟩
  · refine (h1 b cap e5).sq a w ⟨Z, ν, (hs.frzT (τ := .val (.slice (some ⟨b, 0, none⟩) n cap)) e1).reobj hr ?_⟩
    exact ⟨b, _, by rw [e1]; rfl, e2, e3, e4, ⟨n, e1⟩, e5, e6, arr, rfl, e7, e8⟩
theorem op_own {Z : Zone} {ν : Vals} {w : World} {v : Value} {b ety sz n cap : Nat} {f : Nat → Nat → AV} (h : Res.ok E Z ν w v (.op b ety sz n cap f)) :
    (∃ m, v = .slice (some ⟨b, 0, none⟩) m cap) ∧ ¬ E.keep b ∧ ¬ Z b ∧ n ≤ cap ∧ cap ≤ maxLen ∧ ∃ arr, w.heap[b]? = some (.cells arr ety (0, 0)) ∧ arr.size = cap * sz ∧ ∀ i, i < n → ∀ j, j < sz → ∃ u, arr[i * sz + j]? = some u ∧ (f i j).ok Z w u := by
  obtain ⟨b', ob, h1, h2, h3, h4, ⟨m, rfl⟩, h6, h7, arr, rfl, h8, h9⟩ := h
  have e : b = b' := by simpa [blkOf] using h1
  subst e
  exact ⟨⟨m, rfl⟩, h2, h3, h6, h7, arr, h4, h8, h9⟩
theorem ent_close (k r : Nat) {b ety sz n cap : Nat} {f : Nat → Nat → AV} (hd : T.get k = .av (.val (.slice (some ⟨b, 0, none⟩) n cap))) (hr : look O r = some (.op b ety sz n cap f)) (hp : Nat.blt r 1000 = true := by first | rfl | assumption) :
    Ent T O ((k, .osl r) :: T.kill r) ((r, .row ety sz n f) :: Own.kill r O) := by
  rintro E a w ⟨Z, ν, hs⟩
  obtain ⟨⟨m, e1⟩, e2, e3, e4, e5, arr, e6, e7, e8⟩ := op_own (hs.own.each r _ hr)
  have hv : a.tmps.getD k undef = .slice (some ⟨b, 0, none⟩) n cap := by have := hs.slot k; rw [hd] at this; exact this
  have hk := hs.kill r (.slice (some ⟨b, 0, none⟩) n cap) hp
  have hvr : updV ν r (.slice (some ⟨b, 0, none⟩) n cap) r = .slice (some ⟨b, 0, none⟩) n cap := if_pos rfl
  have hk' := hk.addRes r (.row ety sz n f) (by rw [hvr]; exact .inr ⟨b, cap, arr, rfl, e2, e3, e6, e4, e5, e7, e8⟩) (fun b' hb' r' hne hl => by
    rw [hvr] at hb'
    have hbb : b = b' := by simpa [blkOf] using hb'
    subst hbb
    rw [show updV ν r (.slice (some ⟨b, 0, none⟩) n cap) r' = ν r' from if_neg hne]
    rw [Own.look_kill, if_neg hne] at hl
    exact hs.own.apart r r' (fun e => hne e.symm) (by rw [hr]; simp) (by simpa using hl) b (by rw [e1]; rfl))
  refine ⟨Z, _, hk'.defers, hk'.tsize, hk'.cst, hk'.pin, hk'.base, hk'.own, fun k' => ?_⟩
  by_cases he : k = k'
  · subst he
    rw [Tab.get_cons_eq]
    show a.tmps.getD k undef = updV ν r _ r
    rw [hvr, hv]
  · rw [Tab.get_cons_ne _ _ he]; exact hk'.slot k'
theorem news_of {Z : Zone} {w : World} {b o m sz : Nat} {h : Nat → Nat → AV} (hpos : 0 < sz) (hcell : ∀ i, i < m → ∀ j, j < sz → ∃ u, w.cell? ⟨b, o + i * sz + j, none⟩ = some u ∧ (h i j).ok Z w u) (hone : ∀ i, i < m → ∀ j, j < sz → (h i j).one = true) :
    ∃ news : List Value, news.length = m * sz ∧ (∀ (j : Nat) u, news[j]? = some u → w.cell? ((⟨b, o, none⟩ : Addr).add j) = some u) ∧ (∀ i, i < m → ∀ j, j < sz → ∃ u, news[i * sz + j]? = some u ∧ (h i j).ok Z w u) ∧ ∀ u ∈ news, u.oneCell' = true := by
  have hnew : ∃ news : List Value, news.length = m * sz ∧ (∀ (j : Nat) u, news[j]? = some u → w.cell? ((⟨b, o, none⟩ : Addr).add j) = some u) ∧ (∀ i, i < m → ∀ j, j < sz → ∃ u, news[i * sz + j]? = some u ∧ (h i j).ok Z w u) := by
    refine ⟨(List.range (m * sz)).map fun k => (w.cell? ⟨b, o + k, none⟩).getD undef, by simp, fun j u hj => ?_, fun i hi j hj => ?_⟩
    · simp only [List.getElem?_map, Option.map_eq_some_iff] at hj
      obtain ⟨k, hk, rfl⟩ := hj
      obtain ⟨hlt, rfl⟩ := List.getElem?_eq_some_iff.1 hk
      simp only [List.length_range] at hlt
      simp only [List.getElem_range]
      have hq : j / sz < m := Nat.div_lt_of_lt_mul (by rw [Nat.mul_comm]; exact hlt)
      obtain ⟨u, hu, _⟩ := hcell (j / sz) hq (j % sz) (Nat.mod_lt _ hpos)
      have : o + j / sz * sz + j % sz = o + j := by rw [Nat.add_assoc, Nat.mul_comm, Nat.div_add_mod]
      rw [this] at hu
      rw [add_addr, hu]; rfl
    · have hlt : i * sz + j < m * sz := by
        have : (i + 1) * sz ≤ m * sz := Nat.mul_le_mul_right _ hi
        rw [Nat.add_mul, Nat.one_mul] at this
        omega
      obtain ⟨u, hu, hk⟩ := hcell i hi j hj
      refine ⟨u, ?_, hk⟩
      simp only [List.getElem?_map, List.getElem?_range hlt, Option.map_some]
      rw [← Nat.add_assoc, hu]; rfl
  obtain ⟨news, hnl, hnc, hnk⟩ := hnew
  refine ⟨news, hnl, hnc, hnk, fun u hu => ?_⟩
  obtain ⟨k, hk, rfl⟩ := List.getElem_of_mem hu
  rw [hnl] at hk
  have hq : k / sz < m := Nat.div_lt_of_lt_mul (by rw [Nat.mul_comm]; exact hk)
  obtain ⟨u, hu', hok⟩ := hnk (k / sz) hq (k % sz) (Nat.mod_lt _ hpos)
  have : k / sz * sz + k % sz = k := by rw [Nat.mul_comm, Nat.div_add_mod]
  rw [this] at hu'
  have e : news[k] = u := by rw [List.getElem?_eq_getElem (by omega)] at hu'; simpa using hu'
  rw [e]
  exact AV.one_cells (hone _ hq _ (Nat.mod_lt _ hpos)) hok
theorem SatZ.drew' {Z : Zone} {ν : Vals} {a : Act} {w : World} (h : SatZ E Z ν T O a w) : SatZ E Z ν T O a w.drew :=
  h.ext rfl rfl rfl (Nat.le_refl _) (fun _ _ => rfl) (fun _ h => h) (fun _ h => .inl h) (fun k hk => h.base.zLt k hk)
theorem app_cells {Z Z' : Zone} {w w' : World} {n m sz : Nat} {f h : Nat → Nat → AV} {xs news : List Value} (hxl : xs.length = n * sz) (hav : ∀ (τ : AV) u, τ.ok Z w u → τ.ok Z' w' u)
    (hxs : ∀ i, i < n → ∀ j, j < sz → ∃ u, xs[i * sz + j]? = some u ∧ (f i j).ok Z w u) (hnk : ∀ i, i < m → ∀ j, j < sz → ∃ u, news[i * sz + j]? = some u ∧ (h i j).ok Z w u) :
    ∀ i, i < n + m → ∀ j, j < sz → ∃ u, (xs ++ news)[i * sz + j]? = some u ∧ (rowApp n f h i j).ok Z' w' u := by
  intro i hi j hj
  unfold rowApp
  by_cases hin : i < n
  · rw [if_pos hin]
    obtain ⟨u, hu, hk⟩ := hxs i hin j hj
    refine ⟨u, ?_, hav _ _ hk⟩
    rw [List.getElem?_append_left (List.getElem?_eq_some_iff.1 hu).1]
    exact hu
  · rw [if_neg hin]
    obtain ⟨u, hu, hk⟩ := hnk (i - n) (by omega) j hj
    refine ⟨u, ?_, hav _ _ hk⟩
    have hidx : i * sz + j = n * sz + ((i - n) * sz + j) := by
      have : i = n + (i - n) := by omega
      conv => lhs; rw [this, Nat.add_mul]
      omega
    rw [List.getElem?_append_right (by omega), hxl, hidx, Nat.add_sub_cancel_left]
    exact hu
theorem ga_app_nil {t e : TypeId} {x y : Operand} {m sz bytes : Nat} {h : Nat → Nat → AV} (r : Nat) [ht : SlTy P t e sz] [he : EltTy P e sz bytes] (hx : T.ev x = .av (.val (.slice none 0 0))) (hy : T.ev y = .av (.sl m sz h))
    (hone : ∀ i, i < m → ∀ j, j < sz → (h i j).one = true) (hm : 0 < m) (hlen : m ≤ maxLen) (hby : m * bytes ≤ 140737488355328) (hp : Nat.blt r 1000 = true := by first | rfl | assumption) :
    GA P E ⟨d, .call ⟨.builtin .append, #[x, y], #[t, t]⟩, ty, pos, af, g⟩ T O (.osl r) [] r (.row e sz m h) := by
  refine ⟨fun T' O' hT _ hf => VStep.freshP ⟨by intro c; simp, fun Z ν a w hs => ?_⟩ hf, by intro c; simp⟩
  have hx' : T'.ev x = _ := (ev_same (o := ⟨d, .call ⟨.builtin .append, #[x, y], #[t, t]⟩, ty, pos, af, g⟩) hT (by simp [Op.operands, Call.operands])).trans hx
  have hy' : T'.ev y = _ := (ev_same (o := ⟨d, .call ⟨.builtin .append, #[x, y], #[t, t]⟩, ty, pos, af, g⟩) hT (by simp [Op.operands, Call.operands])).trans hy
  have hvx : a.eval x = .slice none 0 0 := by have := ev_ok hs x; rw [hx'] at this; exact this
  obtain ⟨p, c, hvy, hmc, hcm, hcells⟩ := sl_ok hy' (ev_ok hs y)
  obtain ⟨b, o, rfl, hzb, hblt, hcell⟩ := hcells hm
  obtain ⟨i0, z, hi, hz, hsz, hbt, hzs, hpos⟩ := he.info
  obtain ⟨news, hnl, hnc, hnk, hone'⟩ := news_of hpos hcell hone
  have hown : w.ownsRow 0 e sz (.slice none 0 0) 0 [] := ⟨by simp, .inl ⟨rfl, rfl⟩⟩
  obtain ⟨v', w', hrun, hown', hgrow, _⟩ := run_append_own (P := P) w 0 t ty e i0 z sz bytes ht.und hi hz hsz hbt hzs hpos (.slice none 0 0) 0 [] hown ⟨b, o, none⟩ m c news hnl hnc hone' (by omega) (by rw [Nat.zero_add]; exact hby) (Nat.zero_le _)
  obtain ⟨ob, hrun2⟩ : ∃ ob, (Builtin.append_ #[t, t] ty #[.slice none 0 0, .slice (some ⟨b, o, none⟩) m c]).run P w = .ok (.slice (some ⟨w.heap.size, 0, none⟩) m (grownCap w m 0 e)) (w.drew.alloc ob) := ⟨_, run_append_nil (P := P) w t ty e i0 z ht.und hi hz ⟨b, o, none⟩ m c news (by rw [hsz]; exact hnl) hnc hm (by simp only [maxLen] at hlen; omega) (by rw [hbt]; omega)⟩
  have hrun' := hrun
  rw [hrun2] at hrun
  cases hrun
  refine wp_value (w' := w.drew.alloc ob) ?_ ⟨_, Z, updV ν r (.slice (some ⟨w.drew.heap.size, 0, none⟩) m (grownCap w m 0 e)), rfl, hs.drew'.newRes r hp ob (.slice (some ⟨w.drew.heap.size, 0, none⟩) m (grownCap w m 0 e)) (.row e sz m h) rfl (fun hsv hnk' hnz => ?_), (if_pos rfl).symm⟩
  · simp only [execOp, resolve, invoke, builtin, Sem.run_bind, Sem.run_pure, Result.andThen_ok, List.map_toArray, List.map_cons, List.map_nil, hvx, hvy, hrun']; rfl
  · rw [Nat.zero_add] at hown'
    refine row_of_owns hown' (fun b' hb' => ?_) (fun i hi j hj => ?_)
    · have : w.heap.size = b' := by simpa [blkOf] using hb'
      subst this
      exact ⟨hnk', hnz⟩
    · obtain ⟨u, hu, hk⟩ := hnk i hi j hj
      exact ⟨u, by simpa using hu, hsv (.av (h i j)) u rfl (AV.ok_mono (w := w) (w' := w.drew) (Z := Z) (fun _ h => h) (Nat.le_refl _) (fun _ _ _ => rfl) _ _ hk)⟩
theorem ga_app_full {t e : TypeId} {x y : Operand} {q b n cap m sz bytes : Nat} {f h : Nat → Nat → AV} (r : Nat) [ht : SlTy P t e sz] [he : EltTy P e sz bytes] (hx : T.ev x = .av (.val (.slice (some ⟨b, 0, none⟩) n cap))) (hr : look O q = some (.op b e sz n cap f)) (hy : T.ev y = .av (.sl m sz h))
    (hone : ∀ i, i < m → ∀ j, j < sz → (h i j).one = true) (hm : 0 < m) (hfull : cap < n + m) (hlen : n + m ≤ maxLen) (hby : (n + m) * bytes ≤ 140737488355328) (hp : Nat.blt r 1000 = true := by first | rfl | assumption) :
    GA P E ⟨d, .call ⟨.builtin .append, #[x, y], #[t, t]⟩, ty, pos, af, g⟩ T O (.osl r) [q] r (.row e sz (n + m) (rowApp n f h)) := by
  refine ⟨fun T' O' hT hO hf => VStep.freshP ⟨by intro c; simp, fun Z ν a w hs => ?_⟩ hf, by intro c; simp⟩
  have hx' : T'.ev x = _ := (ev_same (o := ⟨d, .call ⟨.builtin .append, #[x, y], #[t, t]⟩, ty, pos, af, g⟩) hT (by simp [Op.operands, Call.operands])).trans hx
  have hy' : T'.ev y = _ := (ev_same (o := ⟨d, .call ⟨.builtin .append, #[x, y], #[t, t]⟩, ty, pos, af, g⟩) hT (by simp [Op.operands, Call.operands])).trans hy
  have hvx : a.eval x = .slice (some ⟨b, 0, none⟩) n cap := by have := ev_ok hs x; rw [hx'] at this; exact this
  obtain ⟨p, c, hvy, hmc, hcm, hcells⟩ := sl_ok hy' (ev_ok hs y)
  obtain ⟨b1, o, rfl, hzb, hblt, hcell⟩ := hcells hm
  obtain ⟨i0, z, hi, hz, hsz, hbt, hzs, hpos⟩ := he.info
  obtain ⟨news, hnl, hnc, hnk, hone'⟩ := news_of hpos hcell hone
  obtain ⟨_, e2, e3, e4, e5, arr, e6, e7, e8⟩ := op_own (hs.own.each q _ ((hO q (by simp)).trans hr))
  have hrow : Res.ok E Z ν w (.slice (some ⟨b, 0, none⟩) n cap) (.row e sz n f) := .inr ⟨b, cap, arr, rfl, e2, e3, e6, e4, e5, e7, e8⟩
  obtain ⟨xs, hown, hxs⟩ := ownsRow_of hrow
  obtain ⟨v', w', hrun, hown', hgrow, _⟩ := run_append_own (P := P) w 0 t ty e i0 z sz bytes ht.und hi hz hsz hbt hzs hpos _ n xs hown ⟨b1, o, none⟩ m c news hnl hnc hone' hlen hby (Nat.zero_le _)
  have holds : ∀ (j : Nat) u, xs[j]? = some u → w.cell? ((⟨b, 0, none⟩ : Addr).add j) = some u := hown.cells (g := b) rfl
  obtain ⟨ob, hrun2⟩ : ∃ ob, (Builtin.append_ #[t, t] ty #[.slice (some ⟨b, 0, none⟩) n cap, .slice (some ⟨b1, o, none⟩) m c]).run P w = .ok (.slice (some ⟨w.heap.size, 0, none⟩) (n + m) (grownCap w (n + m) cap e)) (w.drew.alloc ob) := ⟨_, run_append_grow (P := P) w t ty e i0 z ht.und hi hz ⟨b, 0, none⟩ n cap xs (by rw [hsz]; exact hown.1) holds ⟨b1, o, none⟩ m c news (by rw [hsz]; exact hnl) hnc hfull (by simp only [maxLen] at hlen; omega) (growslice_fits (by omega) (by rw [hbt]; exact hby))⟩
  have hrun' := hrun
  rw [hrun2] at hrun
  cases hrun
  refine wp_value (w' := w.drew.alloc ob) ?_ ⟨_, Z, updV ν r (.slice (some ⟨w.drew.heap.size, 0, none⟩) (n + m) (grownCap w (n + m) cap e)), rfl, hs.drew'.newRes r hp ob (.slice (some ⟨w.drew.heap.size, 0, none⟩) (n + m) (grownCap w (n + m) cap e)) (.row e sz (n + m) (rowApp n f h)) rfl (fun hsv hnk' hnz => ?_), (if_pos rfl).symm⟩
  · simp only [execOp, resolve, invoke, builtin, Sem.run_bind, Sem.run_pure, Result.andThen_ok, List.map_toArray, List.map_cons, List.map_nil, hvx, hvy, hrun']; rfl
  · refine row_of_owns hown' (fun b' hb' => ?_) (app_cells (w := w) hown.1 (fun τ u hτ => hsv (.av τ) u rfl (AV.ok_mono (w := w) (w' := w.drew) (Z := Z) (fun _ h => h) (Nat.le_refl _) (fun _ _ _ => rfl) _ _ hτ)) hxs hnk)
    have : w.heap.size = b' := by simpa [blkOf] using hb'
    subst this
    exact ⟨hnk', hnz⟩
theorem g_app_room {t e : TypeId} {x y : Operand} {q b n cap m sz bytes : Nat} {f h : Nat → Nat → AV} [ht : SlTy P t e sz] [he : EltTy P e sz bytes] (hx : T.ev x = .av (.val (.slice (some ⟨b, 0, none⟩) n cap))) (hr : look O q = some (.op b e sz n cap f)) (hy : T.ev y = .av (.sl m sz h))
    (hone : ∀ i, i < m → ∀ j, j < sz → (h i j).one = true) (hm : 0 < m) (hroom : n + m ≤ cap) (hlen : n + m ≤ maxLen) (hby : (n + m) * bytes ≤ 140737488355328) :
    GV P E ⟨d, .call ⟨.builtin .append, #[x, y], #[t, t]⟩, ty, pos, af, g⟩ T O (.av (.val (.slice (some ⟨b, 0, none⟩) (n + m) cap))) [q] [(q, .op b e sz (n + m) cap (rowApp n f h))] := by
  refine ⟨fun T' O' hT hO => ⟨by intro c; simp, fun Z ν a w hs => ?_⟩⟩
  have hx' : T'.ev x = _ := (ev_same (o := ⟨d, .call ⟨.builtin .append, #[x, y], #[t, t]⟩, ty, pos, af, g⟩) hT (by simp [Op.operands, Call.operands])).trans hx
  have hy' : T'.ev y = _ := (ev_same (o := ⟨d, .call ⟨.builtin .append, #[x, y], #[t, t]⟩, ty, pos, af, g⟩) hT (by simp [Op.operands, Call.operands])).trans hy
  have hvx : a.eval x = .slice (some ⟨b, 0, none⟩) n cap := by have := ev_ok hs x; rw [hx'] at this; exact this
  obtain ⟨p, c, hvy, hmc, hcm, hcells⟩ := sl_ok hy' (ev_ok hs y)
  obtain ⟨b1, o, rfl, hzb, hblt, hcell⟩ := hcells hm
  obtain ⟨i0, z, hi, hz, hsz, hbt, hzs, hpos⟩ := he.info
  obtain ⟨news, hnl, hnc, hnk, hone'⟩ := news_of hpos hcell hone
  have hq := (hO q (by simp)).trans hr
  obtain ⟨⟨mm, e1⟩, e2, e3, e4, e5, arr, e6, e7, e8⟩ := op_own (hs.own.each q _ hq)
  have hrow : Res.ok E Z ν w (.slice (some ⟨b, 0, none⟩) n cap) (.row e sz n f) := .inr ⟨b, cap, arr, rfl, e2, e3, e6, e4, e5, e7, e8⟩
  obtain ⟨xs, hown, hxs⟩ := ownsRow_of hrow
  obtain ⟨v', w', hrun, hown', hgrow, _⟩ := run_append_own (P := P) w 0 t ty e i0 z sz bytes ht.und hi hz hsz hbt hzs hpos _ n xs hown ⟨b1, o, none⟩ m c news hnl hnc hone' hlen hby (Nat.zero_le _)
  have hfit : n * i0.size + news.length ≤ arr.size := by rw [hnl, hsz, e7, ← Nat.add_mul]; exact Nat.mul_le_mul_right _ hroom
  obtain ⟨cur, hcur, hrun2⟩ : ∃ cur, cur = (arr.toList.take (n * i0.size) ++ news ++ arr.toList.drop (n * i0.size + news.length)).toArray ∧ (Builtin.append_ #[t, t] ty #[.slice (some ⟨b, 0, none⟩) n cap, .slice (some ⟨b1, o, none⟩) m c]).run P w = .ok (.slice (some ⟨b, 0, none⟩) (n + m) cap) (w.setRow b cur) := ⟨_, rfl, run_append_room (P := P) w t ty e i0 ht.und hi b n cap arr e6 ⟨b1, o, none⟩ m c news (by rw [hsz]; exact hnl) hnc hone' hroom hfit⟩
  have hrun' := hrun
  rw [hrun2] at hrun
  cases hrun
  have hlt : b < w.heap.size := (Array.getElem?_eq_some_iff.1 e6).1
  refine wp_value (w' := w.setRow b cur) ?_ ⟨_, Z, ν, rfl, hs.write (w' := w.setRow b cur) hq (b := b) (by rw [e1]; rfl) rfl rfl rfl (by simp [World.setRow]) (fun k hk => by simp [World.setRow, Array.getElem?_modify, Ne.symm hk]) (fun hsv => ?_), rfl⟩
  · simp only [execOp, resolve, invoke, builtin, Sem.run_bind, Sem.run_pure, Result.andThen_ok, List.map_toArray, List.map_cons, List.map_nil, hvx, hvy, hrun']
  · have hb2 := setRow_heap w b arr cur e (0, 0) e6
    subst hcur
    refine ⟨b, _, by rw [e1]; rfl, e2, e3, hb2, ⟨mm, e1⟩, hroom, e5, _, rfl, ?_, fun i hi' j hj => ?_⟩
    · simp only [List.size_toArray, List.length_append, List.length_take, List.length_drop, Array.length_toList]
      omega
    · have hxl : n * i0.size ≤ arr.toList.length := by rw [Array.length_toList]; omega
      obtain ⟨u, hu, hk⟩ := app_cells (xs := arr.toList.take (n * i0.size)) (by rw [List.length_take, hsz] at *; omega) (fun τ u hτ => hsv (.av τ) u hτ) (fun i hi j hj => by
        obtain ⟨u, hu, hk⟩ := e8 i hi j hj
        refine ⟨u, ?_, hk⟩
        have : i * sz + j < n * i0.size := by
          have : (i + 1) * sz ≤ n * sz := Nat.mul_le_mul_right _ hi
          rw [Nat.add_mul, Nat.one_mul] at this
          rw [hsz]; omega
        rw [List.getElem?_take_of_lt this]
        simpa using hu) hnk i hi' j hj
      refine ⟨u, ?_, hk⟩
      rw [List.getElem?_toArray, List.getElem?_append_left (List.getElem?_eq_some_iff.1 hu).1]
      exact hu
end
end Go.Vc
end
section
namespace Go.Proofs.YtgepmbjmaljgoaaGreatDoor.H
open Go Go.Vc Go.RowKit Go.Na
theorem trn_par {d u v : Pt} (hd : ¬ (d.x = 0 ∧ d.y = 0)) (h1 : trn d u = 0) (h2 : trn d v = 0) : trn u v = 0 := by
  unfold trn at *
  have e1 : d.x * (u.x * v.y - u.y * v.x) = 0 := by grind
  have e2 : d.y * (u.x * v.y - u.y * v.x) = 0 := by grind
  rcases Int.mul_eq_zero.1 e1 with a | a
  · rcases Int.mul_eq_zero.1 e2 with b | b
    · exact absurd ⟨a, b⟩ hd
    · exact b
  · exact a
theorem coll_all {l : List Pt} (h : collB l = true) : ∀ i, i < l.length → ∀ j, j < l.length → ∀ k, k < l.length → crs (gp l i) (gp l j) (gp l k) = 0 := by
  unfold collB at h
  split at h
  · rename_i hf
    have hall : ∀ k, k < l.length → gp l k = gp l 0 := fun k hk => by
      have := List.find?_eq_none.1 hf k (List.mem_range.2 hk)
      simpa using this
    intro i hi j hj k hk
    rw [hall i hi, hall j hj, hall k hk]
    unfold crs trn sub; grind
  · rename_i m hf
    have hm := List.find?_some hf
    have hne : gp l m ≠ gp l 0 := by simpa using hm
    have hall : ∀ i, i < l.length → trn (sub (gp l m) (gp l 0)) (sub (gp l i) (gp l 0)) = 0 := fun i hi => by
      have := List.all_eq_true.1 h i (List.mem_range.2 hi)
      simpa using this
    intro i hi j hj k hk
    have a1 := hall i hi
    have a2 := hall j hj
    have a3 := hall k hk
    refine trn_par (d := sub (gp l m) (gp l 0)) ?_ ?_ ?_
    · rintro ⟨e1, e2⟩
      apply hne
      unfold sub at e1 e2
      dsimp only at e1 e2
      generalize gp l m = a at *
      generalize gp l 0 = b at *
      obtain ⟨ax, ay⟩ := a
      obtain ⟨bx, by'⟩ := b
      dsimp only at e1 e2
      rw [show ax = bx by omega, show ay = by' by omega]
    · unfold trn sub at *; dsimp only at *; grind
    · unfold trn sub at *; dsimp only at *; grind
theorem str_of_coll {l : List Pt} (h : collB l = true) : strB l = true := by
  have key := coll_all h
  unfold strB
  simp only [List.all_eq_true, List.mem_range, decide_eq_true_eq]
  intro i hi j hj k hk
  exact key i hi j (by omega) k (by omega)
theorem coll_of_str {l : List Pt} (h : strB l = true) : collB l = true := by
  unfold strB at h
  simp only [List.all_eq_true, List.mem_range, decide_eq_true_eq] at h
  unfold collB
  split
  · rfl
  · rename_i m hf
    have hf' := List.find?_range_eq_some.1 hf
    obtain ⟨hm, hml, hbef⟩ := hf'
    have hne : gp l m ≠ gp l 0 := by simpa using hm
    have hb : ∀ j, j < m → gp l j = gp l 0 := fun j hj => by simpa using hbef j hj
    rw [List.all_eq_true]
    intro i hi
    rw [decide_eq_true_eq]
    rcases Nat.lt_trichotomy i m with h1 | h1 | h1
    · rw [hb i h1]; unfold trn sub; grind
    · subst h1; unfold trn sub; grind
    · have h0 : 0 < m := Nat.pos_of_ne_zero fun e => hne (by rw [e])
      have := h i (List.mem_range.1 hi) m h1 0 h0
      unfold crs trn sub at this
      unfold trn sub
      dsimp only at *
      grind
theorem coll_str (l : List Pt) : strB l = collB l := by
  cases h : collB l with
  | true => exact str_of_coll h
  | false =>
    cases h2 : strB l with
    | false => rfl
    | true => rw [coll_of_str h2] at h; cases h
theorem LR.add' {k l : Nat} {q r : Rat} (h : LR k q) (h' : LR l r) : LR (k + l + 1) (q + r) := by
  rw [add_eq]
  exact divInt_LR (by have := q.den_nz; have := r.den_nz; simp; omega) ((h.1.mul h'.2).add ((h'.1.mul h.2).mono (by omega))) ((h.2.mul h'.2).mono (by omega))
theorem LR.mul' {k l : Nat} {q r : Rat} (h : LR k q) (h' : LR l r) : LR (k + l) (q * r) := by
  rw [mul_eq]
  exact divInt_LR (by have := q.den_nz; have := r.den_nz; simp; omega) (h.1.mul h'.1) (h.2.mul h'.2)
theorem LR_small {x : Int} (hx : -100000 ≤ x ∧ x ≤ 100000) : LR 6 (x : Rat) := LR.int (k := 6) (show x.natAbs < 10 ^ 6 by omega) (by decide)
theorem LR_divInt19 {n d : Int} (hn : -9000000000000000000 ≤ n ∧ n ≤ 9000000000000000000) (hd : -9000000000000000000 ≤ d ∧ d ≤ 9000000000000000000) (h0 : d ≠ 0) : LR 19 (Rat.divInt n d) := by
  have l : ∀ x : Int, -9000000000000000000 ≤ x ∧ x ≤ 9000000000000000000 → LI 19 x := fun x hx => (show x.natAbs < 10 ^ 19 by omega)
  exact divInt_LR h0 (l _ hn) (l _ hd)
theorem thrs_at {l : List Tr} {k : Nat} {P : Pl} (h : P ∈ thrs l k) : ∃ a b c, cz (nvP (gt l a) (gt l b) (gt l c)) k ≠ 0 ∧ P.A = aP l k a b c ∧ P.B = bP l k a b c ∧ P.C = cP l k a b c := by
  obtain ⟨⟨a, b, c⟩, _, h⟩ := List.mem_filterMap.1 h
  have h' : thr l k a b c = some P := h
  unfold thr at h'
  split at h'
  · cases h'
  · rename_i hz
    unfold mkP at h'
    split at h'
    · cases h'
    · injection h' with h'
      subst h'
      exact ⟨a, b, c, hz, rfl, rfl, rfl⟩
theorem thrs_LR19 {l : List Tr} (hl : RT l) {k : Nat} {P : Pl} (h : P ∈ thrs l k) : LR 19 P.A ∧ LR 19 P.B ∧ LR 19 P.C := by
  obtain ⟨a, b, c, hz, eA, eB, eC⟩ := thrs_at h
  rw [eA, eB, eC]
  have hn := BT.np hl k a b c
  have h1 := hn.cz k
  have h2 := hn.cz (ou k)
  have h3 := hn.cz (ov k)
  have h4 : cz (nP l k a b c) k ≠ 0 := by have := upP_pos (k := k) (n := nvP (gt l a) (gt l b) (gt l c)) hz; unfold nP; omega
  refine ⟨LR_divInt19 ?_ (by omega) h4, LR_divInt19 (by omega) (by omega) h4, LR_divInt19 (by omega) (by omega) h4⟩
  unfold mP
  have hm := bt_dot hn (hl a)
  omega
theorem cand_thrs {l : List Tr} {k : Nat} {P : Pl} (h : P ∈ candP l k) : P ∈ thrs l k := ((cand_ok l k).2 P).1 h
theorem cand_up {l : List Tr} {k : Nat} {P : Pl} (h : P ∈ thrs l k) {i : Nat} (hi : i < l.length) : 0 ≤ hgt k P.A P.B P.C (gt l i) := by
  have h1 := thr_s h
  unfold mkP at h1
  split at h1
  · cases h1
  · rename_i hl
    by_cases h3 : hgt k P.A P.B P.C (gt l i) < 0
    · exfalso; apply hl
      unfold lowB
      rw [List.any_eq_true]
      exact ⟨i, List.mem_range.2 hi, by simpa using h3⟩
    · grind
theorem cand_on_iff {l : List Tr} {k : Nat} {P : Pl} (h : P ∈ thrs l k) {i : Nat} (hi : i < l.length) : i ∈ P.s ↔ hgt k P.A P.B P.C (gt l i) = 0 := by
  have h1 := thr_s h
  unfold mkP at h1
  split at h1
  · cases h1
  · injection h1 with h1
    rw [← h1]
    show i ∈ onL _ _ _ _ _ _ ↔ _
    unfold onL
    rw [List.mem_filter, List.mem_range]
    simp [hi]
end Go.Proofs.YtgepmbjmaljgoaaGreatDoor.H
end
section
namespace Go.Proofs.YtgepmbjmaljgoaaGreatDoor.H
open Go Go.Vc Go.RowKit
open Go.Na (rtx LR chkR_rtx chkR rsg)
set_option maxHeartbeats 4000000
def rngB (L : List Int) (n : Nat) : Bool := (List.range L.length).any fun i => decide (gz L i < 0 ∨ (n : Int) ≤ gz L i)
def ordB (L : List Int) : Bool := (List.range L.length).any fun i => decide (0 < i ∧ gz L i ≤ gz L (i - 1))
def verR (l : List Tr) (k : Nat) (A B C : Rat) (L : List Int) : Int :=
  if rngB L l.length = true then 2 else if ordB L = true then 9 else if lowB l k A B C l.length = true then 15 else
  if collB (plP l k (onL l k A B C l.length)) = true ∨ eqB (fun i => ((gi (onL l k A B C l.length) i : Nat) : Int)) (onL l k A B C l.length).length (gz L) L.length = false then 15 else 0
theorem any_no {p : Nat → Bool} {n : Nat} (h : ∀ i, i < n → p i = false) : (List.range n).any p = false := by
  rw [List.any_eq_false]
  intro i hi
  rw [h i (List.mem_range.1 hi)]; decide
theorem any_yes {p : Nat → Bool} {n i : Nat} (hi : i < n) (h : p i = true) : (List.range n).any p = true := by
  rw [List.any_eq_true]
  exact ⟨i, List.mem_range.2 hi, h⟩
theorem hgt_LR4 {k : Nat} {A B C : Rat} {p : Tr} (hp : BT 100000 p) (hA : LR 43 A) (hB : LR 43 B) (hC : LR 43 C) : LR 400 (hgt k A B C p) := by
  have h0 := LR_small (hp.cz k)
  have h1 := LR.mul' hB (LR_small (hp.cz (ou k)))
  have h2 := LR.mul' hC (LR_small (hp.cz (ov k)))
  have h3 := LR.add' hA (LR.add' h1 h2)
  exact Go.Na.LR.mono (Go.Na.LR.sub (Go.Na.LR.mono (l := 150) h0 (by decide)) (Go.Na.LR.mono (l := 150) h3 (by decide))) (by decide)
theorem onL_succ (l : List Tr) (k : Nat) (A B C : Rat) (n : Nat) : onL l k A B C (n + 1) = if hgt k A B C (gt l n) = 0 then onL l k A B C n ++ [n] else onL l k A B C n := by
  unfold onL
  rw [List.range_succ, List.filter_append]
  by_cases h : hgt k A B C (gt l n) = 0 <;> simp [h]
theorem rowApp_ix (l : List Nat) (p : Nat) (h : Nat → Nat → AV) (hh : ∀ j, h 0 j = vi p) : ∀ i, i < l.length + 1 → ∀ j, j < 1 → rowApp l.length (xf l) h i j = xf (l ++ [p]) i j := by
  intro i hi j _
  unfold rowApp xf gi
  rw [getD_app]
  split
  · rfl
  · have h1 : i = l.length := by omega
    subst h1
    rw [Nat.sub_self, hh]
    simp
theorem Verify_bad2 (l : List Tr) (a : Int) (A B C : List UInt8) (s : AV) (h : chkT l = 0) (hA : A.length ≤ 400) (hB : B.length ≤ 400) (hC : C.length ≤ 400) (he : plE a A B C ≠ 0) : CtrA Tryz.prog 26 [ts l, pA a A B C s] (vi (plE a A B C)) := by
  have h1 := scheck_c l
  rw [h] at h1
  have hc := plcheck_c a A B C s hA hB hC
  refine ctrA _ Tryz.func26 rfl rfl Tryz.ntmps26 rfl fun w Z => ?_
  simp only [initT, zP, zQ, Nat.zero_add, Nat.reduceAdd]
  refine wt ?_
  refine sq_g (g_load_aggv rfl rfl) rfl ?_
  refine wt ?_
  (refine cq_cond rfl (fun hb => ?_) (fun hb => ?_) <;> (try simp only [zA, zB, zC, zD, zE, zF, zG, zH, zI, zJ, zK, zL, zM, zN, zO] at hb) <;> (try (exfalso; omega)))
  refine wt ?_
  exact sq_res1 rfl (.tmp rfl) rfl
theorem Verify_ok (l : List Tr) (k : Nat) (hk : k < 3) (A B C : Rat) (L : List Int) (hT : chkT l = 0) (hL : L.length ≤ 1000) (hA : LR 43 A) (hB : LR 43 B) (hC : LR 43 C) (lA : (rtx A).length ≤ 400) (lB : (rtx B).length ≤ 400) (lC : (rtx C).length ≤ 400) :
    CtrA Tryz.prog 26 [ts l, pA k (rtx A) (rtx B) (rtx C) (ixs L)] (vi (verR l k A B C L)) := by
  have he : plE k (rtx A) (rtx B) (rtx C) = 0 := by unfold plE; rw [if_neg (fun h => h (by omega)), if_neg (fun h => h (chkR_rtx A)), if_neg (fun h => h (chkR_rtx B)), chkR_rtx]
  have hc := plcheck_c k _ _ _ (ixs L) lA lB lC
  rw [he] at hc
  have h1 := scheck_c l
  rw [hT] at h1
  obtain ⟨hR, h64⟩ := RT.of hT
  refine ctrA _ Tryz.func26 rfl rfl Tryz.ntmps26 rfl fun w Z => ?_
  simp only [initT, zP, zQ, Nat.zero_add, Nat.reduceAdd]
  refine wt ?_
  refine sq_g (g_load_aggv rfl rfl) rfl ?_
  refine wt ?_
  refine cq_loop (γ := Nat) (fun i => [(0, .av (ts l)), (3, .av (.ptr 5 (pAf k (rtx A) (rtx B) (rtx C) (ixs L)))), (31, .av (ixs L)), (32, .av (vi L.length)), (33, .av (vi i))]) (fun _ => []) (fun i => i ≤ L.length ∧ ∀ j, j < i → ¬ (gz L j < 0 ∨ (l.length : Int) ≤ gz L j)) (fun i => L.length - i) 0 ⟨Nat.zero_le _, by omega⟩ (ent ⟨.refl _, .refl _, .refl _, .refl _, .refl _, trivial⟩ trivial) ?_
  rintro i ⟨hi, hno⟩
  refine wt ?_
  (refine cq_cond rfl (fun hb => ?_) (fun hb => ?_) <;> (try simp only [zA, zB, zC, zD, zE, zF, zG, zH, zI, zJ, zK, zL, zM, zN, zO] at hb) <;> (try (exfalso; omega)))
  · have hil : i < L.length := by omega
    (refine wt ?_; repeat' (((first | refine sq_split rfl rfl (fun hb => ?_) (fun hb => ?_) | refine dq_split rfl rfl (fun hb => ?_) (fun hb => ?_)) <;> (try simp only [zA, zB, zC, zD, zE, zF, zG, zH, zI, zJ, zK, zL, zM, zN, zO] at hb) <;> (try (exfalso; omega))) <;> refine wt ?_))
    · have hr : rngB L l.length = true := any_yes hil (decide_eq_true (.inl hb))
      exact sq_res1 rfl (.tmp rfl) (congrArg vi (by unfold verR; rw [if_pos hr]))
    · (refine cq_cond rfl (fun hb => ?_) (fun hb => ?_) <;> (try simp only [zA, zB, zC, zD, zE, zF, zG, zH, zI, zJ, zK, zL, zM, zN, zO] at hb) <;> (try (exfalso; omega)))
      · have hr : rngB L l.length = true := any_yes hil (decide_eq_true (.inr hb))
        refine wt ?_
        exact sq_res1 rfl (.tmp rfl) (congrArg vi (by unfold verR; rw [if_pos hr]))
      · refine wt ?_
        exact sq_round (i + 1) ⟨by omega, fun j hj => by
          by_cases e : j = i
          · subst e; omega
          · exact hno j (by omega)⟩ (by omega) (ent ⟨.refl _, .refl _, .refl _, .refl _, .int (by omega), trivial⟩ trivial)
  · have hil : i = L.length := by omega
    subst hil
    have hr : rngB L l.length = false := any_no fun j hj => decide_eq_false (hno j hj)
    refine wt ?_
    refine cq_loop (γ := Nat) (fun i => [(0, .av (ts l)), (3, .av (.ptr 5 (pAf k (rtx A) (rtx B) (rtx C) (ixs L)))), (47, .av (ixs L)), (48, .av (vi L.length)), (49, .av (vi i))]) (fun _ => []) (fun i => i ≤ L.length ∧ ∀ j, 0 < j → j < i → gz L (j - 1) < gz L j) (fun i => L.length - i) 0 ⟨Nat.zero_le _, by omega⟩ (ent ⟨.refl _, .refl _, .refl _, .refl _, .refl _, trivial⟩ trivial) ?_
    clear hno
    rintro i ⟨hi, hno⟩
    refine wt ?_
    (refine cq_cond rfl (fun hb => ?_) (fun hb => ?_) <;> (try simp only [zA, zB, zC, zD, zE, zF, zG, zH, zI, zJ, zK, zL, zM, zN, zO] at hb) <;> (try (exfalso; omega)))
    · have hil : i < L.length := by omega
      (refine wt ?_; repeat' (((first | refine sq_split rfl rfl (fun hb => ?_) (fun hb => ?_) | refine dq_split rfl rfl (fun hb => ?_) (fun hb => ?_)) <;> (try simp only [zA, zB, zC, zD, zE, zF, zG, zH, zI, zJ, zK, zL, zM, zN, zO] at hb) <;> (try (exfalso; omega))) <;> refine wt ?_))
      · have e0 : ((i : Int) - 1).toNat = i - 1 := by omega
        rw [e0]
        (refine cq_cond rfl (fun hb => ?_) (fun hb => ?_) <;> (try simp only [zA, zB, zC, zD, zE, zF, zG, zH, zI, zJ, zK, zL, zM, zN, zO] at hb) <;> (try (exfalso; omega)))
        · have ho : ordB L = true := any_yes hil (decide_eq_true ⟨by omega, hb⟩)
          refine wt ?_
          exact sq_res1 rfl (.tmp rfl) (congrArg vi (by unfold verR; rw [if_neg (by rw [hr]; decide), if_pos ho]))
        · refine wt ?_
          exact sq_round (i + 1) ⟨by omega, fun j h0 hj => by
            by_cases e : j = i
            · subst e; omega
            · exact hno j h0 (by omega)⟩ (by omega) (ent ⟨.refl _, .refl _, .refl _, .refl _, .int (by omega), trivial⟩ trivial)
      · exact sq_round (i + 1) ⟨by omega, fun j h0 hj => by omega⟩ (by omega) (ent ⟨.refl _, .refl _, .refl _, .refl _, .int (by omega), trivial⟩ trivial)
    · have hil : i = L.length := by omega
      subst hil
      have ho : ordB L = false := any_no fun j hj => decide_eq_false (fun h => by have := hno j h.1 hj; omega)
      have hv : verR l k A B C L = if lowB l k A B C l.length = true then 15 else
          if collB (plP l k (onL l k A B C l.length)) = true ∨ eqB (fun i => ((gi (onL l k A B C l.length) i : Nat) : Int)) (onL l k A B C l.length).length (gz L) L.length = false then 15 else 0 := by
        unfold verR; rw [if_neg (by rw [hr]; decide), if_neg (by rw [ho]; decide)]
      refine wt ?_
      refine cq_loop (γ := Nat) (fun i => [(0, .av (ts l)), (3, .av (.ptr 5 (pAf k (rtx A) (rtx B) (rtx C) (ixs L)))), (11, .osl 20), (12, .osl 21), (67, .av (ts l)), (68, .av (vi l.length)), (69, .av (vi i))])
        (fun i => [(20, .row 3 1 (onL l k A B C i).length (xf (onL l k A B C i))), (21, .row 38 2 (plP l k (onL l k A B C i)).length (pf (plP l k (onL l k A B C i))))]) (fun i => i ≤ l.length ∧ lowB l k A B C i = false) (fun i => l.length - i) 0 ⟨Nat.zero_le _, rfl⟩
        ((ent_row (dd := 11) 20 3 1 (xf []) rfl rfl).trans ((ent_row (dd := 12) 21 38 2 (pf []) rfl rfl).trans (ent ⟨.refl _, .refl _, .refl _, .refl _, .refl _, .refl _, .refl _, trivial⟩ ⟨⟨_, rfl, .refl _⟩, ⟨_, rfl, .refl _⟩, trivial⟩))) ?_
      clear hno
      rintro i ⟨hi, hlo⟩
      refine wt ?_
      (refine cq_cond rfl (fun hb => ?_) (fun hb => ?_) <;> (try simp only [zA, zB, zC, zD, zE, zF, zG, zH, zI, zJ, zK, zL, zM, zN, zO] at hb) <;> (try (exfalso; omega)))
      · have hil : i < l.length := by omega
        have hh := height_c k hk A B C (ixs L) (gt l i) (hR i) hA hB hC
        have hsg := rat_sign (hgt k A B C (gt l i)) (Go.Na.LR.mono (hgt_LR4 (hR i) hA hB hC) (by decide))
        refine wt ?_
        refine sq_g (g_load_aggv rfl rfl) rfl ?_
        refine wt ?_
        (refine cq_cond rfl (fun hb => ?_) (fun hb => ?_) <;> (try simp only [zA, zB, zC, zD, zE, zF, zG, zH, zI, zJ, zK, zL, zM, zN, zO] at hb) <;> (try (exfalso; omega)))
        · have hlow : lowB l k A B C l.length = true := any_yes hil (decide_eq_true (Go.Proofs.YtgepmbjmaljgoaaGreatDoor.H.rsg_neg.1 hb))
          refine wt ?_
          exact sq_res1 rfl (.tmp rfl) (by rw [hv, if_pos hlow])
        · have hnn : ¬ hgt k A B C (gt l i) < 0 := fun h => hb (rsg_neg.2 h)
          have hl1 : lowB l k A B C (i + 1) = false := by
            unfold lowB at hlo ⊢
            rw [List.range_succ, List.any_append, hlo]
            simp [hnn]
          refine wt ?_
          (refine cq_cond rfl (fun hb => ?_) (fun hb => ?_) <;> (try simp only [zA, zB, zC, zD, zE, zF, zG, zH, zI, zJ, zK, zL, zM, zN, zO] at hb) <;> (try (exfalso; omega)))
          · have hz : hgt k A B C (gt l i) = 0 := rsg_zero.1 hb
            have hon : onL l k A B C (i + 1) = onL l k A B C i ++ [i] := by rw [onL_succ, if_pos hz]
            have hpl : plP l k (onL l k A B C (i + 1)) = plP l k (onL l k A B C i) ++ [plc k (gt l i)] := by rw [hon]; unfold plP; rw [List.map_append]; rfl
            have hlen := onL_len' l k A B C i
            have hle : (plP l k (onL l k A B C i)).length = (onL l k A B C i).length := by simp [plP]
            have hpc := place_c (gt l i) hk
            refine cq_open 20 rfl (fun h0 => ?_) (fun b cap hle => ?_)
            · have hn0 : onL l k A B C i = [] := List.length_eq_zero_iff.1 h0
              refine wt ?_
              have hrow0 : ∀ i', i' < 1 → ∀ j', j' < 1 → xf [i] i' j' = xf (onL l k A B C (i + 1)) i' j' := by rw [hon, hn0]; intros; rfl
              refine dq_v (ga_app_nil (m := 1) 20 rfl rfl (fun _ _ _ _ => rfl) (by decide) (by decide) (by decide)) rfl rfl ?_
              refine wt ?_
              refine dq_tail rfl rfl ?_
              refine wt ?_
              exact sq_round (i + 1) ⟨by omega, hl1⟩ (by omega) (ent ⟨.refl _, .refl _, .refl _, .refl _, .refl _, .refl _, .int (by omega), trivial⟩ ⟨⟨_, rfl, .row (by rw [hon, hn0]; try rfl) hrow0⟩, ⟨_, rfl, .row (by rw [hpl, List.length_append]; try rfl) (fun _ _ _ _ => by rw [hpl])⟩, trivial⟩)
            · by_cases hfull : cap < (onL l k A B C i).length + 1
              · refine wt ?_
                refine dq_v (ga_app_full (q := 20) (m := 1) 120 rfl rfl rfl (fun _ _ _ _ => rfl) (by decide) hfull (by simp only [maxLen]; omega) (by omega)) rfl rfl ?_
                refine wt ?_
                refine dq_tail rfl rfl ?_
                refine wt ?_
                exact sq_round (i + 1) ⟨by omega, hl1⟩ (by omega) (Ent.trans (ent (T' := [(0, .av (ts l)), (3, .av (.ptr 5 (pAf k (rtx A) (rtx B) (rtx C) (ixs L)))), (11, .osl 120), (12, .osl 21), (67, .av (ts l)), (68, .av (vi l.length)), (69, .av (vi ((i + 1 : Nat) : Int)))]) (O' := [(120, .row 3 1 (onL l k A B C (i + 1)).length (xf (onL l k A B C (i + 1)))), (21, .row 38 2 (plP l k (onL l k A B C (i + 1))).length (pf (plP l k (onL l k A B C (i + 1)))))]) ⟨.refl _, .refl _, .refl _, .refl _, .refl _, .refl _, .int (by omega), trivial⟩ ⟨⟨_, rfl, .row (by rw [hon, List.length_append]; try rfl) (fun i' hi' j' hj' => by rw [hon]; exact rowApp_ix _ _ _ (fun _ => rfl) i' hi' j' hj')⟩, ⟨_, rfl, .row (by rw [hpl, List.length_append]; try rfl) (fun _ _ _ _ => by rw [hpl])⟩, trivial⟩) (ent_ren [(20, 120)] ⟨rfl, rfl, rfl, rfl, rfl, rfl, rfl, trivial⟩ ⟨rfl, rfl, trivial⟩ rfl rfl))
              · refine wt ?_
                refine dq_call_h (g_app_room (q := 20) (m := 1) (bytes := 8) rfl rfl rfl (fun _ _ _ _ => rfl) (by decide) (Nat.le_of_not_lt hfull) (by simp only [maxLen]; omega) (by omega)) rfl ?_
                refine wt ?_
                refine dq_tail rfl rfl ?_
                refine wt ?_
                exact sq_round (i + 1) ⟨by omega, hl1⟩ (by omega) (Ent.trans (ent_close 11 20 rfl rfl) (ent ⟨.refl _, .refl _, .refl _, .refl _, .refl _, .refl _, .int (by omega), trivial⟩ ⟨⟨_, rfl, .row (by rw [hon, List.length_append]; try rfl) (fun i' hi' j' hj' => by rw [hon]; exact rowApp_ix _ _ _ (fun _ => rfl) i' hi' j' hj')⟩, ⟨_, rfl, .row (by rw [hpl, List.length_append]; try rfl) (fun _ _ _ _ => by rw [hpl])⟩, trivial⟩))
          · have hz : ¬ hgt k A B C (gt l i) = 0 := fun h => hb (rsg_zero.2 h)
            have hon : onL l k A B C (i + 1) = onL l k A B C i := by rw [onL_succ, if_neg hz]
            refine wt ?_
            exact sq_round (i + 1) ⟨by omega, hl1⟩ (by omega) (ent ⟨.refl _, .refl _, .refl _, .refl _, .refl _, .refl _, .int (by omega), trivial⟩ ⟨⟨_, rfl, .row (by rw [hon]) (fun _ _ _ _ => by rw [hon])⟩, ⟨_, rfl, .row (by rw [hon]) (fun _ _ _ _ => by rw [hon])⟩, trivial⟩)
      · have hil : i = l.length := by omega
        subst hil
        refine cq_more ((ent_freeze 20 rfl).trans (ent_freeze 21 rfl)) ?_
        have hck : chk (plP l k (onL l k A B C l.length)) = 0 := chk_plP hR k (by have := onL_len' l k A B C l.length; omega)
        have hco := coll_c (plP l k (onL l k A B C l.length))
        rw [show collE (plP l k (onL l k A B C l.length)) = collB (plP l k (onL l k A B C l.length)) by unfold collE; rw [if_pos hck], hck] at hco
        have heq := equal_c (fun i => ((gi (onL l k A B C l.length) i : Nat) : Int)) (gz L) (onL l k A B C l.length).length L.length (by have := onL_len' l k A B C l.length; omega)
        refine wt ?_
        cases hcb : collB (plP l k (onL l k A B C l.length)) with
        | true =>
          rw [hcb] at hv
          refine wt ?_
          exact sq_res1 rfl (.tmp rfl) (by rw [hv, if_neg (by rw [hlo]; decide), if_pos (.inl rfl)])
        | false =>
          rw [hcb] at hv
          refine wt ?_
          (refine cq_cond rfl (fun hb => ?_) (fun hb => ?_) <;> (try simp only [zA, zB, zC, zD, zE, zF, zG, zH, zI, zJ, zK, zL, zM, zN, zO] at hb) <;> (try (exfalso; omega)))
          · refine wt ?_
            exact sq_res1 rfl (.tmp rfl) (by rw [hv, if_neg (by rw [hlo]; decide), if_pos (.inr hb)])
          · refine wt ?_
            exact sq_res1 rfl (.tmp rfl) (by rw [hv, if_neg (by rw [hlo]; decide), if_neg (fun h => h.elim (fun h => by cases h) (fun h => by rw [hb] at h; cases h))])
end Go.Proofs.YtgepmbjmaljgoaaGreatDoor.H
end
section
namespace Go.Proofs.YtgepmbjmaljgoaaGreatDoor.H
open Go Go.Vc Go.RowKit
open Go.Na (rtx LR chkR_rtx chkR rsg)
set_option maxHeartbeats 4000000
theorem same_c (f g : Nat → Int) (m n : Nat) (hm : m ≤ 1000000) (hn : n ≤ 1000000) : CtrA Tryz.prog 54 [.sl m 1 (fun i _ => vi (f i)), .sl n 1 (fun i _ => vi (g i))] (vb (eqB f m g n)) := by
  refine ctrA _ Tryz.func54 rfl rfl Tryz.ntmps54 rfl fun w Z => ?_
  simp only [initT, zP, zQ, Nat.zero_add, Nat.reduceAdd]
  refine wt ?_
  (refine cq_cond rfl (fun hb => ?_) (fun hb => ?_) <;> (try simp only [zA, zB, zC, zD, zE, zF, zG, zH, zI, zJ, zK, zL, zM, zN, zO] at hb) <;> (try (exfalso; omega)))
  · refine wt ?_
    exact sq_res1 rfl (.tmp rfl) (congrArg vb (by unfold eqB; rw [decide_eq_false (by omega)]; rfl))
  · have hmn : m = n := by omega
    subst hmn
    refine wt ?_
    refine cq_loop (γ := Nat) (fun i => [(0, .av (.sl m 1 (fun i _ => vi (f i)))), (1, .av (.sl m 1 (fun i _ => vi (g i)))), (5, .av (vi i))]) (fun _ => []) (fun i => i ≤ m ∧ ∀ j, j < i → f j = g j) (fun i => m - i) 0 ⟨Nat.zero_le _, by omega⟩ (ent ⟨.refl _, .refl _, .refl _, trivial⟩ trivial) ?_
    rintro i ⟨hi, he⟩
    refine wt ?_
    (refine cq_cond rfl (fun hb => ?_) (fun hb => ?_) <;> (try simp only [zA, zB, zC, zD, zE, zF, zG, zH, zI, zJ, zK, zL, zM, zN, zO] at hb) <;> (try (exfalso; omega)))
    · have hil : i < m := by omega
      refine wt ?_
      (refine cq_cond rfl (fun hb => ?_) (fun hb => ?_) <;> (try simp only [zA, zB, zC, zD, zE, zF, zG, zH, zI, zJ, zK, zL, zM, zN, zO] at hb) <;> (try (exfalso; omega)))
      · refine wt ?_
        exact sq_res1 rfl (.tmp rfl) (congrArg vb (by
          unfold eqB
          have : (List.range m).all (fun i => decide (f i = g i)) = false := by
            rw [List.all_eq_false]
            exact ⟨i, by simpa using hil, by simpa using hb⟩
          rw [this, Bool.and_false]))
      · refine wt ?_
        exact sq_round (i + 1) ⟨by omega, fun j hj => by
          by_cases e : j = i
          · subst e; exact hb
          · exact he j (by omega)⟩ (by omega) (ent ⟨.refl _, .refl _, .int (by omega), trivial⟩ trivial)
    · have hil : i = m := by omega
      subst hil
      refine wt ?_
      exact sq_res1 rfl (.tmp rfl) (congrArg vb (by
        unfold eqB
        have : (List.range i).all (fun i => decide (f i = g i)) = true := by
          rw [List.all_eq_true]
          intro j hj
          simpa using he j (by simpa using hj)
        rw [this, decide_eq_true rfl]; rfl))
end Go.Proofs.YtgepmbjmaljgoaaGreatDoor.H
end
section
namespace Go.Proofs.YtgepmbjmaljgoaaGreatDoor.H
open Go Go.Vc Go.RowKit Go.Na Go.Lib
set_option maxHeartbeats 4000000
theorem LR.len' {k : Nat} {q : Rat} (h : LR k q) (hk : 0 < k) : (rtx q).length ≤ 2 * k + 2 := by
  have h1 := h.1.len hk
  have h2 := h.2.len hk
  have h3 : (itoa q.num).length ≤ k + 1 := by
    by_cases hn : q.num < 0
    · rw [itoa_neg hn]; simp; omega
    · rw [itoa_pos hn]; omega
  unfold rtx
  split
  · omega
  · rw [List.length_append, List.length_cons]
    rw [Int.natAbs_natCast] at h2
    omega
end Go.Proofs.YtgepmbjmaljgoaaGreatDoor.H
end
section
namespace Go.Proofs.YtgepmbjmaljgoaaGreatDoor.H
open Go Go.Vc Go.RowKit
open Go.Na (rtx LR chkR_rtx chkR rsg)
set_option maxHeartbeats 4000000
def rgtB (l : List Tr) (k : Nat) : Bool := fewB l && (decide (chkT l = 0) && !strB (plcs l k))
theorem chk_plcs {l : List Tr} (hl : RT l) (h : l.length ≤ 64) (k : Nat) : chk (plcs l k) = 0 := by
  unfold chk
  rw [if_neg (by rw [plcs_len]; omega), if_pos]
  rw [List.all_eq_true]
  intro p hp
  obtain ⟨q, hq, rfl⟩ := List.mem_map.1 hp
  obtain ⟨i, hi, rfl⟩ := List.getElem_of_mem hq
  have e : l[i] = gt l i := by simp [gt, hi, List.getD]
  rw [e]
  have h1 := (hl i).cz (ou k)
  have h2 := (hl i).cz (ov k)
  unfold rightB inB plc
  simp only [Bool.and_eq_true, decide_eq_true_eq]
  omega
theorem right_c (l : List Tr) {k : Nat} (hk : k < 3) : CtrA Tryz.prog 28 [ts l, vi (k : Int)] (vb (rgtB l k)) := by
  have h1 := fews_c l
  unfold rgtB
  cases hf : fewB l with
  | false =>
    rw [hf] at h1
    refine ctrA _ Tryz.func28 rfl rfl Tryz.ntmps28 rfl fun w Z => ?_
    simp only [initT, zP, zQ, Nat.zero_add, Nat.reduceAdd]
    refine wt ?_
    exact sq_res1 rfl (.tmp rfl) rfl
  | true =>
    rw [hf] at h1
    have hl : l.length ≤ 1000 := by unfold fewB at hf; simp at hf; omega
    have h2 := rscheck_c l hl
    by_cases hT : chkT l = 0
    · rw [hT] at h2
      have h3 := rplaces_c l hk hl
      obtain ⟨hR, h64⟩ := RT.of hT
      have hst := straight_c (plcs l k) (chk_sm (chk_plcs hR h64 k)).1 (by rw [plcs_len]; exact hl)
      have e1 : decide ((k : Int) < 3) = true := decide_eq_true (by omega)
      have e2 : decide ((0 : Int) ≤ (k : Int)) = true := decide_eq_true (by omega)
      rw [decide_eq_true hT]
      cases hs : strB (plcs l k) with
      | false =>
        rw [hs] at hst
        refine ctrA _ Tryz.func28 rfl rfl Tryz.ntmps28 rfl fun w Z => ?_
        simp only [initT, zP, zQ, Nat.zero_add, Nat.reduceAdd]
        refine wt ?_
        rw [e1, e2]
        refine wt ?_
        refine sq_von (f_call_row 22 h3 rfl rfl) rfl rfl rfl ?_
        refine wt ?_
        exact sq_res1 rfl (.tmp rfl) rfl
      | true =>
        rw [hs] at hst
        refine ctrA _ Tryz.func28 rfl rfl Tryz.ntmps28 rfl fun w Z => ?_
        simp only [initT, zP, zQ, Nat.zero_add, Nat.reduceAdd]
        refine wt ?_
        rw [e1, e2]
        refine wt ?_
        refine sq_von (f_call_row 22 h3 rfl rfl) rfl rfl rfl ?_
        refine wt ?_
        exact sq_res1 rfl (.tmp rfl) rfl
    · have hne : (chkT l == 0) = false := by simpa using hT
      rw [decide_eq_false hT]
      refine ctrA _ Tryz.func28 rfl rfl Tryz.ntmps28 rfl fun w Z => ?_
      simp only [initT, zP, zQ, Nat.zero_add, Nat.reduceAdd]
      refine wt ?_
      rw [hne]
      refine wt ?_
      exact sq_res1 rfl (.tmp rfl) rfl
end Go.Proofs.YtgepmbjmaljgoaaGreatDoor.H
end
section
namespace Go.Proofs.YtgepmbjmaljgoaaGreatDoor.H
open Go Go.Vc Go.RowKit Go.Na
section
variable (n : Nat) (U V Z : Nat → Rat)
def dv (d0 d1 d2 : Rat) (i : Nat) : Rat := d0 + (d1 * U i + d2 * V i)
def hh (A B C : Rat) (i : Nat) : Rat := Z i - (A + (B * U i + C * V i))
def Feas (A B C : Rat) : Prop := ∀ i, i < n → 0 ≤ hh U V Z A B C i
end
variable {n : Nat} {U V Z : Nat → Rat}
theorem min_ex {p : Nat → Prop} (r : Nat → Rat) : ∀ n, (∃ i, i < n ∧ p i) → ∃ i, i < n ∧ p i ∧ ∀ j, j < n → p j → r i ≤ r j
  | 0, h => by obtain ⟨i, hi, _⟩ := h; omega
  | n + 1, h => by
    by_cases h1 : ∃ i, i < n ∧ p i
    · obtain ⟨i, hi, hp, hm⟩ := min_ex r n h1
      by_cases hn : p n ∧ r n < r i
      · refine ⟨n, by omega, hn.1, fun j hj hpj => ?_⟩
        by_cases hjn : j = n
        · subst hjn; exact Rat.le_refl
        · have := hm j (by omega) hpj
          have := hn.2
          grind
      · refine ⟨i, by omega, hp, fun j hj hpj => ?_⟩
        by_cases hjn : j = n
        · subst hjn
          have : ¬ r j < r i := fun h => hn ⟨hpj, h⟩
          grind
        · exact hm j (by omega) hpj
    · obtain ⟨i, hi, hp⟩ := h
      have : i = n := by
        by_cases e : i = n
        · exact e
        · exact absurd ⟨i, by omega, hp⟩ h1
      subst this
      refine ⟨i, by omega, hp, fun j hj hpj => ?_⟩
      have : j = i := by
        by_cases e : j = i
        · exact e
        · exact absurd ⟨j, by omega, hpj⟩ h1
      subst this
      exact Rat.le_refl
theorem hh_move (A B C t d0 d1 d2 : Rat) (i : Nat) : hh U V Z (A + t * d0) (B + t * d1) (C + t * d2) i = hh U V Z A B C i - t * dv U V d0 d1 d2 i := by
  unfold hh dv; grind
theorem step_up {A B C d0 d1 d2 : Rat} (hf : Feas n U V Z A B C) (hd : ∃ i, i < n ∧ 0 < dv U V d0 d1 d2 i) (hc : ∀ i, i < n → hh U V Z A B C i = 0 → dv U V d0 d1 d2 i ≤ 0) :
    ∃ t : Rat, 0 < t ∧ Feas n U V Z (A + t * d0) (B + t * d1) (C + t * d2) ∧ ∃ i, i < n ∧ 0 < dv U V d0 d1 d2 i ∧ hh U V Z (A + t * d0) (B + t * d1) (C + t * d2) i = 0 := by
  obtain ⟨i, hi, hp, hm⟩ := min_ex (fun i => hh U V Z A B C i / dv U V d0 d1 d2 i) n hd
  have h0 := hf i hi
  have hne : hh U V Z A B C i ≠ 0 := fun e => by have := hc i hi e; grind
  have hpos : 0 < hh U V Z A B C i := by grind
  have key : hh U V Z A B C i / dv U V d0 d1 d2 i * dv U V d0 d1 d2 i = hh U V Z A B C i := by
    rw [Rat.div_def, Rat.mul_assoc, Rat.inv_mul_cancel _ (by grind), Rat.mul_one]
  refine ⟨hh U V Z A B C i / dv U V d0 d1 d2 i, ?_, fun j hj => ?_, i, hi, hp, ?_⟩
  · rw [Rat.lt_div_iff hp, Rat.zero_mul]; exact hpos
  · rw [hh_move]
    have hj0 := hf j hj
    have htp : 0 < hh U V Z A B C i / dv U V d0 d1 d2 i := by
      rw [Rat.lt_div_iff hp, Rat.zero_mul]; exact hpos
    have ht : 0 ≤ hh U V Z A B C i / dv U V d0 d1 d2 i := by grind
    by_cases hdj : 0 < dv U V d0 d1 d2 j
    · have h1 := hm j hj hdj
      have h2 : ¬ hh U V Z A B C j < hh U V Z A B C i / dv U V d0 d1 d2 i * dv U V d0 d1 d2 j := fun h => by
        rw [← Rat.div_lt_iff hdj] at h
        grind
      grind
    · have h2 : 0 ≤ hh U V Z A B C i / dv U V d0 d1 d2 i * (- dv U V d0 d1 d2 j) := Rat.mul_nonneg ht (by grind)
      grind
  · rw [hh_move, key]; grind
noncomputable def offN (n : Nat) (U V Z : Nat → Rat) (A B C : Rat) : Nat := ((List.range n).filter fun i => decide (hh U V Z A B C i ≠ 0)).length
theorem filter_len_lt {p q : Nat → Bool} : ∀ (l : List Nat), (∀ x ∈ l, q x = true → p x = true) → (∃ x, x ∈ l ∧ p x = true ∧ q x = false) → (l.filter q).length < (l.filter p).length
  | [], _, h => by obtain ⟨x, hx, _⟩ := h; cases hx
  | a :: l, h1, h2 => by
    have hle : ∀ l : List Nat, (∀ x ∈ l, q x = true → p x = true) → (l.filter q).length ≤ (l.filter p).length := by
      intro l
      induction l with
      | nil => intro _; simp
      | cons b l ih =>
        intro h
        have := ih (fun x hx => h x (by simp [hx]))
        simp only [List.filter_cons]
        cases hq : q b with
        | true => rw [h b (by simp) hq]; simp; omega
        | false => cases p b <;> simp <;> omega
    by_cases ha : p a = true ∧ q a = false
    · have := hle l (fun x hx => h1 x (by simp [hx]))
      simp only [List.filter_cons, ha.1, ha.2]
      simp; omega
    · obtain ⟨x, hx, hp, hq⟩ := h2
      have hxl : x ∈ l := by
        rcases List.mem_cons.1 hx with e | e
        · subst e; exact absurd ⟨hp, hq⟩ ha
        · exact e
      have := filter_len_lt l (fun x hx => h1 x (by simp [hx])) ⟨x, hxl, hp, hq⟩
      simp only [List.filter_cons]
      cases hqa : q a with
      | true => rw [h1 a (by simp) hqa]; simp; omega
      | false => cases p a <;> simp <;> omega
theorem vert {qx qy : Rat} (hq : ∀ d0 d1 d2 : Rat, 0 < d0 + (d1 * qx + d2 * qy) → ∃ i, i < n ∧ 0 < dv U V d0 d1 d2 i)
    (hnc : ∀ d0 d1 d2 : Rat, ¬ (d0 = 0 ∧ d1 = 0 ∧ d2 = 0) → ∃ i, i < n ∧ dv U V d0 d1 d2 i ≠ 0) : ∀ (m : Nat) (A B C : Rat), offN n U V Z A B C ≤ m → Feas n U V Z A B C →
    ∃ A' B' C', Feas n U V Z A' B' C' ∧ A + (B * qx + C * qy) ≤ A' + (B' * qx + C' * qy) ∧ ∀ d0 d1 d2 : Rat, (∀ i, i < n → hh U V Z A' B' C' i = 0 → dv U V d0 d1 d2 i = 0) → d0 = 0 ∧ d1 = 0 ∧ d2 = 0 := by
  intro m
  induction m with
  | zero =>
    intro A B C hm hf
    refine ⟨A, B, C, hf, Rat.le_refl, fun d0 d1 d2 hd => ?_⟩
    by_cases h0 : d0 = 0 ∧ d1 = 0 ∧ d2 = 0
    · exact h0
    · exfalso
      obtain ⟨i, hi, hne⟩ := hnc d0 d1 d2 h0
      apply hne
      refine hd i hi ?_
      have h1 : (List.range n).filter (fun i => decide (hh U V Z A B C i ≠ 0)) = [] := List.length_eq_zero_iff.1 (by unfold offN at hm; omega)
      have h2 := List.filter_eq_nil_iff.1 h1 i (List.mem_range.2 hi)
      simpa using h2
  | succ m ih =>
    intro A B C hm hf
    by_cases hall : ∀ d0 d1 d2 : Rat, (∀ i, i < n → hh U V Z A B C i = 0 → dv U V d0 d1 d2 i = 0) → d0 = 0 ∧ d1 = 0 ∧ d2 = 0
    · exact ⟨A, B, C, hf, Rat.le_refl, hall⟩
    · have hex : ∃ d0 d1 d2 : Rat, (∀ i, i < n → hh U V Z A B C i = 0 → dv U V d0 d1 d2 i = 0) ∧ ¬ (d0 = 0 ∧ d1 = 0 ∧ d2 = 0) := by
        apply Classical.byContradiction
        intro hno
        apply hall
        intro d0 d1 d2 hd
        apply Classical.byContradiction
        intro h0
        exact hno ⟨d0, d1, d2, hd, h0⟩
      -- the same, turned so that q does not sink and some point is ahead
      have hex2 : ∃ d0 d1 d2 : Rat, (∀ i, i < n → hh U V Z A B C i = 0 → dv U V d0 d1 d2 i = 0) ∧ 0 ≤ d0 + (d1 * qx + d2 * qy) ∧ ∃ i, i < n ∧ 0 < dv U V d0 d1 d2 i := by
        obtain ⟨d0, d1, d2, hd, h0⟩ := hex
        have hneg : ∀ i, dv U V (-d0) (-d1) (-d2) i = - dv U V d0 d1 d2 i := fun i => by unfold dv; grind
        have hd' : ∀ i, i < n → hh U V Z A B C i = 0 → dv U V (-d0) (-d1) (-d2) i = 0 := fun i hi e => by rw [hneg, hd i hi e]; grind
        by_cases hp : 0 < d0 + (d1 * qx + d2 * qy)
        · exact ⟨d0, d1, d2, hd, by grind, hq d0 d1 d2 hp⟩
        · by_cases hn : 0 < -d0 + (-d1 * qx + -d2 * qy)
          · exact ⟨-d0, -d1, -d2, hd', by grind, hq _ _ _ hn⟩
          · have hz : d0 + (d1 * qx + d2 * qy) = 0 := by grind
            obtain ⟨i, hi, hne⟩ := hnc d0 d1 d2 h0
            by_cases hpi : 0 < dv U V d0 d1 d2 i
            · exact ⟨d0, d1, d2, hd, by grind, i, hi, hpi⟩
            · exact ⟨-d0, -d1, -d2, hd', by grind, i, hi, by rw [hneg]; grind⟩
      obtain ⟨d0, d1, d2, hd, hqd, hex3⟩ := hex2
      obtain ⟨t, ht, hf', i, hi, hdi, hz⟩ := step_up hf hex3 (fun i hi e => by rw [hd i hi e]; exact Rat.le_refl)
      have hlt : offN n U V Z (A + t * d0) (B + t * d1) (C + t * d2) < offN n U V Z A B C := by
        unfold offN
        refine filter_len_lt _ (fun x hx hqx => ?_) ⟨i, List.mem_range.2 hi, ?_, ?_⟩
        · simp only [decide_eq_true_eq] at hqx ⊢
          intro e
          apply hqx
          rw [hh_move, e, hd x (List.mem_range.1 hx) e]; grind
        · simp only [decide_eq_true_eq]
          intro e
          have := hd i hi e
          grind
        · simpa using hz
      obtain ⟨A', B', C', g1, g2, g3⟩ := ih _ _ _ (by omega) hf'
      refine ⟨A', B', C', g1, ?_, g3⟩
      have h1 : 0 ≤ t * (d0 + (d1 * qx + d2 * qy)) := Rat.mul_nonneg (by grind) hqd
      grind
end Go.Proofs.YtgepmbjmaljgoaaGreatDoor.H
end
section
namespace Go.Proofs.YtgepmbjmaljgoaaGreatDoor.H
open Go Go.Vc Go.RowKit
theorem cz_crs {k : Nat} (hk : k < 3) (a b c : Tr) : cz (nvP a b c) k ≠ 0 ↔ crs (plc k a) (plc k b) (plc k c) ≠ 0 := by
  rcases (by omega : k = 0 ∨ k = 1 ∨ k = 2) with rfl | rfl | rfl
  · unfold nvP tcr tsub crs trn sub plc ou ov cz
    dsimp only
    constructor <;> intro h e <;> apply h <;> grind
  · unfold nvP tcr tsub crs trn sub plc ou ov cz
    dsimp only
    constructor <;> intro h e <;> apply h <;> grind
  · unfold nvP tcr tsub crs trn sub plc ou ov cz
    dsimp only
    constructor <;> intro h e <;> apply h <;> grind
theorem crs_rev (a b c : Pt) : crs c b a = - crs a b c := by unfold crs trn sub; dsimp only; grind
theorem plane_uniq {k : Nat} {A B C A' B' C' : Rat} {a b c : Tr} (hn : crs (plc k a) (plc k b) (plc k c) ≠ 0) (h1 : hgt k A B C a = 0) (h2 : hgt k A B C b = 0) (h3 : hgt k A B C c = 0) (h1' : hgt k A' B' C' a = 0) (h2' : hgt k A' B' C' b = 0) (h3' : hgt k A' B' C' c = 0) :
    A = A' ∧ B = B' ∧ C = C' := by
  have hq : ((crs (plc k a) (plc k b) (plc k c) : Int) : Rat) ≠ 0 := by exact_mod_cast hn
  unfold crs trn sub at hq
  dsimp only at hq
  simp only [Rat.intCast_sub, Rat.intCast_mul] at hq
  unfold hgt at *
  generalize ((plc k a).x : Rat) = ax at *
  generalize ((plc k a).y : Rat) = ay at *
  generalize ((plc k b).x : Rat) = bx at *
  generalize ((plc k b).y : Rat) = by' at *
  generalize ((plc k c).x : Rat) = cx at *
  generalize ((plc k c).y : Rat) = cy at *
  generalize (cz a k : Rat) = az at *
  generalize (cz b k : Rat) = bz at *
  generalize (cz c k : Rat) = czz at *
  have e1 : (B - B') * (bx - ax) + (C - C') * (by' - ay) = 0 := by grind
  have e2 : (B - B') * (cx - ax) + (C - C') * (cy - ay) = 0 := by grind
  have f1 : (B - B') * ((bx - ax) * (cy - ay) - (by' - ay) * (cx - ax)) = 0 := by grind
  have f2 : (C - C') * ((bx - ax) * (cy - ay) - (by' - ay) * (cx - ax)) = 0 := by grind
  have g1 : B - B' = 0 := by
    rcases Rat.mul_eq_zero.1 f1 with h | h
    · exact h
    · exact absurd h hq
  have g2 : C - C' = 0 := by
    rcases Rat.mul_eq_zero.1 f2 with h | h
    · exact h
    · exact absurd h hq
  have gB : B = B' := by grind
  have gC : C = C' := by grind
  subst gB gC
  refine ⟨by grind, rfl, rfl⟩
theorem thr_on {l : List Tr} {k a b c : Nat} (hk : k < 3) (hn : cz (nvP (gt l a) (gt l b) (gt l c)) k ≠ 0) : hgt k (aP l k a b c) (bP l k a b c) (cP l k a b c) (gt l a) = 0 ∧ hgt k (aP l k a b c) (bP l k a b c) (cP l k a b c) (gt l b) = 0 ∧ hgt k (aP l k a b c) (bP l k a b c) (cP l k a b c) (gt l c) = 0 := by
  have hd : ∀ p q r : Tr, tdot (nvP p q r) q = tdot (nvP p q r) p ∧ tdot (nvP p q r) r = tdot (nvP p q r) p := by
    intro p q r
    unfold nvP tdot tcr tsub
    dsimp only
    constructor <;> grind
  have hu : ∀ q, tdot (nvP (gt l a) (gt l b) (gt l c)) q = tdot (nvP (gt l a) (gt l b) (gt l c)) (gt l a) → tdot (nP l k a b c) q = tdot (nP l k a b c) (gt l a) := by
    intro q h
    unfold nP upP
    split
    · unfold tdot at h ⊢
      dsimp only
      grind
    · exact h
  obtain ⟨d1, d2⟩ := hd (gt l a) (gt l b) (gt l c)
  exact ⟨(hgt_sgn hk hn _).2.2 rfl, (hgt_sgn hk hn _).2.2 (hu _ d1), (hgt_sgn hk hn _).2.2 (hu _ d2)⟩
theorem onL_mem {l : List Tr} {k : Nat} {A B C : Rat} {i : Nat} : i ∈ onL l k A B C l.length ↔ i < l.length ∧ hgt k A B C (gt l i) = 0 := by
  unfold onL
  rw [List.mem_filter, List.mem_range]
  simp
theorem onL_asc {l : List Tr} {k : Nat} {A B C : Rat} {n i j : Nat} (hij : i < j) (hj : j < (onL l k A B C n).length) : gi (onL l k A B C n) i < gi (onL l k A B C n) j := by
  have h : (onL l k A B C n).Pairwise (· < ·) := List.Pairwise.filter _ List.pairwise_lt_range
  rw [gi_eq (by omega), gi_eq hj]
  exact List.pairwise_iff_getElem.1 h i j (by omega) hj hij
theorem gp_plP {l : List Tr} {k : Nat} {s : List Nat} {i : Nat} (h : i < s.length) : gp (plP l k s) i = plc k (gt l (gi s i)) := by
  unfold gp plP gi
  simp [List.getD, h]
theorem cand_of {l : List Tr} {k : Nat} (hk : k < 3) {A B C : Rat} (hlow : lowB l k A B C l.length = false) (hs : strB (plP l k (onL l k A B C l.length)) = false) : (⟨A, B, C, onL l k A B C l.length⟩ : Pl) ∈ candP l k := by
  rw [(cand_ok l k).2]
  have hpl : (plP l k (onL l k A B C l.length)).length = (onL l k A B C l.length).length := by unfold plP; rw [List.length_map]
  unfold strB at hs
  rw [hpl] at hs
  rw [List.all_eq_false] at hs
  obtain ⟨i, hi, hs⟩ := hs
  rw [List.mem_range] at hi
  rw [Bool.not_eq_true, List.all_eq_false] at hs
  obtain ⟨j, hj, hs⟩ := hs
  rw [List.mem_range] at hj
  rw [Bool.not_eq_true, List.all_eq_false] at hs
  obtain ⟨m, hm, hs⟩ := hs
  rw [List.mem_range] at hm
  have hne : crs (gp (plP l k (onL l k A B C l.length)) i) (gp (plP l k (onL l k A B C l.length)) j) (gp (plP l k (onL l k A B C l.length)) m) ≠ 0 := by simpa using hs
  rw [gp_plP hi, gp_plP (by omega), gp_plP (by omega)] at hne
  have o1 := onL_asc (l := l) (k := k) (A := A) (B := B) (C := C) (n := l.length) hm (show j < _ by omega)
  have o2 := onL_asc (l := l) (k := k) (A := A) (B := B) (C := C) (n := l.length) hj hi
  have mem : ∀ t, t < (onL l k A B C l.length).length → gi (onL l k A B C l.length) t < l.length ∧ hgt k A B C (gt l (gi (onL l k A B C l.length) t)) = 0 := fun t ht => by
    rw [← onL_mem, gi_eq ht]; exact List.getElem_mem ht
  obtain ⟨l1, z1⟩ := mem m (by omega)
  obtain ⟨l2, z2⟩ := mem j (by omega)
  obtain ⟨l3, z3⟩ := mem i hi
  generalize gi (onL l k A B C l.length) m = a at *
  generalize gi (onL l k A B C l.length) j = b at *
  generalize gi (onL l k A B C l.length) i = c at *
  have hcr : crs (plc k (gt l a)) (plc k (gt l b)) (plc k (gt l c)) ≠ 0 := by rw [crs_rev] at hne; omega
  have hn := (cz_crs hk _ _ _).2 hcr
  obtain ⟨t1, t2, t3⟩ := thr_on hk hn
  obtain ⟨rfl, rfl, rfl⟩ := plane_uniq hcr z1 z2 z3 t1 t2 t3
  unfold thrs
  rw [List.mem_filterMap]
  refine ⟨(a, b, c), ?_, ?_⟩
  · rw [tI_eq, mem_tI]; exact ⟨o1, o2, l3⟩
  · show thr l k a b c = _
    unfold thr
    rw [if_neg hn]
    unfold mkP
    rw [if_neg (by rw [hlow]; decide)]
theorem cand_str {l : List Tr} {k : Nat} (hk : k < 3) {P : Pl} (h : P ∈ candP l k) : strB (plP l k P.s) = false := by
  obtain ⟨hs, _⟩ := cand_on hk h
  obtain ⟨⟨a, b, c⟩, ht, h3⟩ := List.mem_filterMap.1 ((cand_ok l k).2 P |>.1 h)
  rw [tI_eq, mem_tI] at ht
  obtain ⟨ht1, ht2, ht3⟩ := ht
  dsimp only at ht1 ht2 ht3
  have h3' : thr l k a b c = some P := h3
  unfold thr at h3'
  split at h3'
  · cases h3'
  · rename_i hz
    have hP : P.A = aP l k a b c ∧ P.B = bP l k a b c ∧ P.C = cP l k a b c := by
      unfold mkP at h3'
      split at h3'
      · cases h3'
      · injection h3' with h3'; rw [← h3']; exact ⟨rfl, rfl, rfl⟩
    obtain ⟨t1, t2, t3⟩ := thr_on hk hz
    rw [← hP.1, ← hP.2.1, ← hP.2.2] at t1 t2 t3
    cases hst : strB (plP l k P.s) with
    | false => rfl
    | true =>
      exfalso
      have hall := coll_all (coll_of_str hst)
      have hpl : (plP l k P.s).length = P.s.length := by unfold plP; rw [List.length_map]
      rw [hpl] at hall
      have pos : ∀ x, x < l.length → hgt k P.A P.B P.C (gt l x) = 0 → ∃ i, i < P.s.length ∧ gi P.s i = x := fun x hx hz => by
        have hm : x ∈ P.s := by rw [hs, onL_mem]; exact ⟨hx, hz⟩
        obtain ⟨i, hi, e⟩ := List.getElem_of_mem hm
        exact ⟨i, hi, by rw [gi_eq hi]; exact e⟩
      obtain ⟨i, hi, ei⟩ := pos a (by omega) t1
      obtain ⟨j, hj, ej⟩ := pos b (by omega) t2
      obtain ⟨m, hm, em⟩ := pos c ht3 t3
      have := hall i hi j hj m hm
      rw [gp_plP hi, gp_plP hj, gp_plP hm, ei, ej, em] at this
      exact (cz_crs hk _ _ _).1 hz this
end Go.Proofs.YtgepmbjmaljgoaaGreatDoor.H
end
section
namespace Go.Proofs.YtgepmbjmaljgoaaGreatDoor.H
open Go Go.Vc Go.RowKit
def fU (l : List Tr) (k : Nat) : Nat → Rat := fun i => ((plc k (gt l i)).x : Rat)
def fV (l : List Tr) (k : Nat) : Nat → Rat := fun i => ((plc k (gt l i)).y : Rat)
def fZ (l : List Tr) (k : Nat) : Nat → Rat := fun i => (cz (gt l i) k : Rat)
theorem hh_hgt (l : List Tr) (k : Nat) (A B C : Rat) (i : Nat) : hh (fU l k) (fV l k) (fZ l k) A B C i = hgt k A B C (gt l i) := rfl
theorem feas_iff {l : List Tr} {k : Nat} {A B C : Rat} : Feas l.length (fU l k) (fV l k) (fZ l k) A B C ↔ lowB l k A B C l.length = false := by
  unfold Feas lowB
  rw [List.any_eq_false]
  constructor
  · intro h i hi
    have := h i (List.mem_range.1 hi)
    rw [hh_hgt] at this
    simp only [decide_eq_true_eq]
    grind
  · intro h i hi
    have := h i (List.mem_range.2 hi)
    simp only [decide_eq_true_eq] at this
    rw [hh_hgt]
    grind
theorem line_of_coll {L : List Pt} (h : collB L = true) : ∃ d0 d1 d2 : Rat, ¬ (d0 = 0 ∧ d1 = 0 ∧ d2 = 0) ∧ ∀ i, i < L.length → d0 + (d1 * ((gp L i).x : Rat) + d2 * ((gp L i).y : Rat)) = 0 := by
  unfold collB at h
  split at h
  · rename_i hf
    refine ⟨((gp L 0).x : Rat), -1, 0, fun e => by have := e.2.1; grind, fun i hi => ?_⟩
    have : gp L i = gp L 0 := by
      have := List.find?_eq_none.1 hf i (List.mem_range.2 hi)
      simpa using this
    rw [this]; grind
  · rename_i m hf
    have hm := List.find?_some hf
    have hne : gp L m ≠ gp L 0 := by simpa using hm
    have hall : ∀ i, i < L.length → trn (sub (gp L m) (gp L 0)) (sub (gp L i) (gp L 0)) = 0 := fun i hi => by
      have := List.all_eq_true.1 h i (List.mem_range.2 hi)
      simpa using this
    generalize gp L m = b at *
    generalize gp L 0 = a at *
    refine ⟨((b.y : Rat) - a.y) * a.x - ((b.x : Rat) - a.x) * a.y, -((b.y : Rat) - a.y), (b.x : Rat) - a.x, fun e => ?_, fun i hi => ?_⟩
    · obtain ⟨_, e1, e2⟩ := e
      apply hne
      have f1 : (b.y : Rat) = a.y := by grind
      have f2 : (b.x : Rat) = a.x := by grind
      have g1 : b.y = a.y := by exact_mod_cast f1
      have g2 : b.x = a.x := by exact_mod_cast f2
      obtain ⟨bx, by'⟩ := b
      obtain ⟨ax, ay⟩ := a
      dsimp only at g1 g2
      rw [g1, g2]
    · have h1 := hall i hi
      unfold trn sub at h1
      dsimp only at h1
      have h2 : (((b.x - a.x) * ((gp L i).y - a.y) - (b.y - a.y) * ((gp L i).x - a.x) : Int) : Rat) = 0 := by rw [h1]; rfl
      simp only [Rat.intCast_sub, Rat.intCast_mul] at h2
      grind
theorem str_of_line {L : List Pt} {d0 d1 d2 : Rat} (hne : ¬ (d0 = 0 ∧ d1 = 0 ∧ d2 = 0)) (h : ∀ i, i < L.length → d0 + (d1 * ((gp L i).x : Rat) + d2 * ((gp L i).y : Rat)) = 0) : strB L = true := by
  unfold strB
  simp only [List.all_eq_true, List.mem_range, decide_eq_true_eq]
  intro i hi j hj m hm
  have h1 := h i hi
  have h2 := h j (by omega)
  have h3 := h m (by omega)
  have hc : ((crs (gp L i) (gp L j) (gp L m) : Int) : Rat) = 0 := by
    unfold crs trn sub
    dsimp only
    simp only [Rat.intCast_sub, Rat.intCast_mul]
    generalize ((gp L i).x : Rat) = ax at *
    generalize ((gp L i).y : Rat) = ay at *
    generalize ((gp L j).x : Rat) = bx at *
    generalize ((gp L j).y : Rat) = by' at *
    generalize ((gp L m).x : Rat) = cx at *
    generalize ((gp L m).y : Rat) = cy at *
    have e1 : d1 * (bx - ax) + d2 * (by' - ay) = 0 := by grind
    have e2 : d1 * (cx - ax) + d2 * (cy - ay) = 0 := by grind
    have f1 : d1 * ((bx - ax) * (cy - ay) - (by' - ay) * (cx - ax)) = 0 := by grind
    have f2 : d2 * ((bx - ax) * (cy - ay) - (by' - ay) * (cx - ax)) = 0 := by grind
    by_cases g1 : d1 = 0
    · by_cases g2 : d2 = 0
      · exfalso; apply hne; refine ⟨?_, g1, g2⟩; rw [g1, g2] at h1; grind
      · rcases Rat.mul_eq_zero.1 f2 with h | h
        · exact absurd h g2
        · exact h
    · rcases Rat.mul_eq_zero.1 f1 with h | h
      · exact absurd h g1
      · exact h
  exact_mod_cast hc
theorem max_ex {α : Type} (f : α → Rat) : ∀ (L : List α), L ≠ [] → ∃ P, P ∈ L ∧ ∀ Q ∈ L, f Q ≤ f P
  | [], h => absurd rfl h
  | [a], _ => ⟨a, by simp, fun Q hQ => by have : Q = a := by simpa using hQ
                                          rw [this]; exact Rat.le_refl⟩
  | a :: b :: L, _ => by
    obtain ⟨P, hP, hm⟩ := max_ex f (b :: L) (by simp)
    by_cases h : f P < f a
    · refine ⟨a, by simp, fun Q hQ => ?_⟩
      rcases List.mem_cons.1 hQ with e | e
      · rw [e]; exact Rat.le_refl
      · have := hm Q e; grind
    · refine ⟨P, List.mem_cons_of_mem _ hP, fun Q hQ => ?_⟩
      rcases List.mem_cons.1 hQ with e | e
      · rw [e]; grind
      · exact hm Q e
theorem cand_above {l : List Tr} {k : Nat} (hk : k < 3) (hs : strB (plcs l k) = false) {qx qy : Rat} (hq : ∀ d0 d1 d2 : Rat, 0 < d0 + (d1 * qx + d2 * qy) → ∃ i, i < l.length ∧ 0 < dv (fU l k) (fV l k) d0 d1 d2 i)
    {A B C : Rat} (hf : Feas l.length (fU l k) (fV l k) (fZ l k) A B C) : ∃ P, P ∈ candP l k ∧ A + (B * qx + C * qy) ≤ P.A + (P.B * qx + P.C * qy) := by
  have hnc : ∀ d0 d1 d2 : Rat, ¬ (d0 = 0 ∧ d1 = 0 ∧ d2 = 0) → ∃ i, i < l.length ∧ dv (fU l k) (fV l k) d0 d1 d2 i ≠ 0 := by
    intro d0 d1 d2 hne
    apply Classical.byContradiction
    intro hno
    have : strB (plcs l k) = true := str_of_line hne (fun i hi => by
      rw [plcs_len] at hi
      rw [gp_plcs hi]
      apply Classical.byContradiction
      intro h
      exact hno ⟨i, hi, h⟩)
    rw [hs] at this; cases this
  obtain ⟨A', B', C', h1, h2, h3⟩ := vert hq hnc _ A B C (Nat.le_refl _) hf
  refine ⟨⟨A', B', C', onL l k A' B' C' l.length⟩, cand_of hk (feas_iff.1 h1) ?_, h2⟩
  cases hst : strB (plP l k (onL l k A' B' C' l.length)) with
  | false => rfl
  | true =>
    exfalso
    obtain ⟨d0, d1, d2, hne, hd⟩ := line_of_coll (by rw [← coll_str]; exact hst)
    refine hne (h3 d0 d1 d2 fun i hi he => ?_)
    rw [hh_hgt] at he
    obtain ⟨j, hj, e⟩ := List.getElem_of_mem (onL_mem.2 ⟨hi, he⟩)
    have := hd j (by unfold plP; rw [List.length_map]; exact hj)
    rw [gp_plP hj, gi_eq hj, e] at this
    exact this
theorem feas_low {l : List Tr} {k : Nat} (hR : RT l) : Feas l.length (fU l k) (fV l k) (fZ l k) (-100000) 0 0 := by
  intro i hi
  have h := ((hR i).cz k).1
  have h' : ((-100000 : Int) : Rat) ≤ (cz (gt l i) k : Rat) := Rat.intCast_le_intCast.2 h
  unfold hh fZ
  have e : ((-100000 : Int) : Rat) = -100000 := by decide +kernel
  rw [e] at h'
  grind
theorem bears_ex {l : List Tr} {k : Nat} (hk : k < 3) (hR : RT l) (hs : strB (plcs l k) = false) (qx qy : Rat) (hq : ∀ d0 d1 d2 : Rat, 0 < d0 + (d1 * qx + d2 * qy) → ∃ i, i < l.length ∧ 0 < dv (fU l k) (fV l k) d0 d1 d2 i) :
    ∃ P, P ∈ candP l k ∧ ∀ d0 d1 d2 : Rat, (∀ i, i ∈ P.s → dv (fU l k) (fV l k) d0 d1 d2 i ≤ 0) → d0 + (d1 * qx + d2 * qy) ≤ 0 := by
  obtain ⟨P0, hP0, _⟩ := cand_above hk hs hq (feas_low hR)
  obtain ⟨P, hP, hmax⟩ := max_ex (fun P : Pl => P.A + (P.B * qx + P.C * qy)) (candP l k) (List.ne_nil_of_mem hP0)
  refine ⟨P, hP, fun d0 d1 d2 hd => ?_⟩
  by_cases hp : 0 < d0 + (d1 * qx + d2 * qy)
  · exfalso
    have hf : Feas l.length (fU l k) (fV l k) (fZ l k) P.A P.B P.C := fun i hi => by rw [hh_hgt]; exact cand_up (cand_thrs hP) hi
    obtain ⟨t, ht, hf', _⟩ := step_up hf (hq d0 d1 d2 hp) (fun i hi e => hd i ((cand_on_iff (cand_thrs hP) hi).2 e))
    obtain ⟨P', hP', hle⟩ := cand_above hk hs hq hf'
    have := hmax P' hP'
    have h1 : 0 < t * (d0 + (d1 * qx + d2 * qy)) := Rat.mul_pos ht hp
    grind
  · grind
theorem cand_some {l : List Tr} {k : Nat} (hk : k < 3) (hR : RT l) (hs : strB (plcs l k) = false) : candP l k ≠ [] := by
  have hl : 0 < l.length := by
    cases l with
    | nil => simp [strB, plcs] at hs
    | cons a l => simp
  obtain ⟨P, hP, _⟩ := cand_above hk hs (qx := fU l k 0) (qy := fV l k 0) (fun d0 d1 d2 h => ⟨0, hl, h⟩) (feas_low hR)
  exact List.ne_nil_of_mem hP
end Go.Proofs.YtgepmbjmaljgoaaGreatDoor.H
end
section
namespace Go.Proofs.YtgepmbjmaljgoaaGreatDoor.H
open Go Go.Vc Go.RowKit
open Go.Na (rtx LR chkR_rtx chkR rsg)
set_option maxHeartbeats 4000000
def sameB (k : Nat) (P : Pl) (a : Int) (A B C : List UInt8) (L : List Int) : Bool :=
  decide ((k : Int) = a) && ((rtx P.A == A) && ((rtx P.B == B) && ((rtx P.C == C) && eqB (fun i => ((gi P.s i : Nat) : Int)) P.s.length (gz L) L.length)))
theorem same20_c (k : Nat) (P : Pl) (a : Int) (A B C : List UInt8) (L : List Int) (hs : P.s.length ≤ 1000) (hL : L.length ≤ 1000) :
    CtrA Tryz.prog 20 [pR (k : Int) P, pA a A B C (ixs L)] (vb (sameB k P a A B C L)) := by
  have h := same_c (fun i => ((gi P.s i : Nat) : Int)) (gz L) P.s.length L.length (by omega) (by omega)
  refine ctrA _ Tryz.func20 rfl rfl Tryz.ntmps20 rfl fun w Z => ?_
  simp only [initT, zP, zQ, Nat.zero_add, Nat.reduceAdd]
  (refine wt ?_; repeat' (((first | refine sq_split rfl rfl (fun hb => ?_) (fun hb => ?_) | refine dq_split rfl rfl (fun hb => ?_) (fun hb => ?_)) <;> (try simp only [zA, zB, zC, zD, zE, zF, zG, zH, zI, zJ, zK, zL, zM, zN, zO] at hb) <;> (try (exfalso; omega))) <;> refine wt ?_))
  all_goals (refine sq_res1 rfl (.tmp rfl) (congrArg vb ?_); simp [sameB, *])
theorem ixB_any (f : Pl → Bool) (Ps : List Pl) : decide (0 ≤ ixB (fun i => f (gP Ps i)) Ps.length) = Ps.any f := by
  rw [Bool.eq_iff_iff, decide_eq_true_eq, List.any_eq_true]
  unfold ixB
  split
  · rename_i k hf
    have h1 := List.find?_some hf
    have h2 := List.mem_range.1 (List.mem_of_find?_eq_some hf)
    exact ⟨fun _ => ⟨_, gP_mem h2, h1⟩, fun _ => by omega⟩
  · rename_i hf
    constructor
    · intro h; omega
    · rintro ⟨P, hP, hf'⟩
      obtain ⟨i, hi, rfl⟩ := List.getElem_of_mem hP
      have := List.find?_eq_none.1 hf i (List.mem_range.2 hi)
      rw [gP_eq hi] at this
      exact absurd hf' (by simpa using this)
abbrev cpl (a : Int) (A B C : List UInt8) (L : List Int) : AV := .ptr 5 (pAf a A B C (ixs L))
abbrev ccp (a : Int) (A B C : List UInt8) (L : List Int) : AV := .clo 33 1 (fun i => [cpl a A B C L].getD i .any)
theorem clo33_c (k : Nat) (P : Pl) (a : Int) (A B C : List UInt8) (L : List Int) (hs : P.s.length ≤ 1000) (hL : L.length ≤ 1000) :
    CtrA Tryz.prog 33 [pR (k : Int) P, cpl a A B C L] (vb (sameB k P a A B C L)) := by
  have h := same20_c k P a A B C L hs hL
  refine ctrA _ Tryz.func33 rfl rfl Tryz.ntmps33 rfl fun w Z => ?_
  simp only [initT, zP, zQ, Nat.zero_add, Nat.reduceAdd]
  refine wt ?_
  refine sq_g (g_load_aggv rfl rfl) rfl ?_
  refine wt ?_
  refine sq_g (g_load_aggv rfl rfl) rfl ?_
  refine wt ?_
  exact sq_res1 rfl (.tmp rfl) rfl
theorem ixp_c (k : Nat) (Ps : List Pl) (a : Int) (A B C : List UInt8) (L : List Int) (hn : Ps.length ≤ 1000) (hs : ∀ P ∈ Ps, P.s.length ≤ 1000) (hL : L.length ≤ 1000) :
    CtrA Tryz.prog 75 [.sl Ps.length 5 (pf5 k Ps), ccp a A B C L] (vi (ixB (fun i => sameB k (gP Ps i) a A B C L) Ps.length)) := by
  refine ctrA _ Tryz.func75 rfl rfl Tryz.ntmps75 rfl fun w Z => ?_
  simp only [initT, zP, zQ, Nat.zero_add, Nat.reduceAdd]
  refine wt ?_
  refine cq_loop (γ := Nat) (fun i => [(0, .av (.sl Ps.length 5 (pf5 k Ps))), (1, .av (ccp a A B C L)), (6, .av (.sl Ps.length 5 (pf5 k Ps))), (7, .av (vi Ps.length)), (8, .av (vi i))]) (fun _ => []) (fun i => i ≤ Ps.length ∧ ∀ j, j < i → sameB k (gP Ps j) a A B C L = false) (fun i => Ps.length - i) 0 ⟨Nat.zero_le _, by omega⟩ (ent ⟨.refl _, .refl _, .refl _, .refl _, .refl _, trivial⟩ trivial) ?_
  rintro i ⟨hi, hall⟩
  refine wt ?_
  (refine cq_cond rfl (fun hb => ?_) (fun hb => ?_) <;> (try simp only [zA, zB, zC, zD, zE, zF, zG, zH, zI, zJ, zK, zL, zM, zN, zO] at hb) <;> (try (exfalso; omega)))
  · have hil : i < Ps.length := by omega
    have hc := clo33_c k (gP Ps i) a A B C L (hs _ (gP_mem hil)) hL
    refine wt ?_
    refine sq_g (g_load_aggv rfl rfl) rfl ?_
    refine wt ?_
    refine cq_cond rfl (fun hb => ?_) (fun hb => ?_)
    · have e1 := ixB_hit (p := fun i => sameB k (gP Ps i) a A B C L) hil hall hb
      refine wt ?_
      exact sq_res1 rfl (.tmp rfl) (by rw [e1])
    · refine wt ?_
      exact sq_round (i + 1) ⟨by omega, flt_step (p := fun i => sameB k (gP Ps i) a A B C L) hall hb⟩ (by omega) (ent ⟨.refl _, .refl _, .refl _, .refl _, .int (by omega), trivial⟩ trivial)
  · have hil : i = Ps.length := by omega
    subst hil
    have e1 := ixB_no (p := fun i => sameB k (gP Ps i) a A B C L) hall
    refine wt ?_
    exact sq_res1 rfl (.tmp rfl) (by rw [e1])
theorem cfp_c (k : Nat) (Ps : List Pl) (a : Int) (A B C : List UInt8) (L : List Int) (hn : Ps.length ≤ 1000) (hs : ∀ P ∈ Ps, P.s.length ≤ 1000) (hL : L.length ≤ 1000) :
    CtrA Tryz.prog 32 [.sl Ps.length 5 (pf5 k Ps), ccp a A B C L] (vb (Ps.any fun P => sameB k P a A B C L)) := by
  have h := ixp_c k Ps a A B C L hn hs hL
  refine ctrA _ Tryz.func32 rfl rfl Tryz.ntmps32 rfl fun w Z => ?_
  simp only [initT, zP, zQ, Nat.zero_add, Nat.reduceAdd]
  refine wt ?_
  exact sq_res1 rfl (.tmp rfl) (congrArg vb (ixB_any (fun P => sameB k P a A B C L) Ps))
end Go.Proofs.YtgepmbjmaljgoaaGreatDoor.H
end
section
namespace Go.Proofs.YtgepmbjmaljgoaaGreatDoor.H
open Go Go.Vc Go.RowKit
open Go.Na (rtx LR chkR_rtx chkR rsg)
set_option maxHeartbeats 4000000
theorem rgtB_ok {l : List Tr} {k : Nat} (hk : k < 3) (h : rgtB l k = true) : fewB l = true ∧ chkT l = 0 ∧ strB (plcs l k) = false ∧ RT l ∧ l.length ≤ 6 ∧ candX l k = tupOf [.sl (candP l k).length 5 (pf5 k (candP l k)), vi 0] := by
  unfold rgtB at h
  simp only [Bool.and_eq_true, decide_eq_true_eq, Bool.not_eq_true'] at h
  obtain ⟨h1, h2, h3⟩ := h
  obtain ⟨hR, h64⟩ := RT.of h2
  have h6 : l.length ≤ 6 := by unfold fewB at h1; simp at h1; omega
  have hg : givE l k = 0 := by unfold givE; rw [if_neg (fun h => h h2), if_pos (by omega)]
  refine ⟨h1, h2, h3, hR, h6, ?_⟩
  unfold candX candA
  rw [if_neg (fun h => h hg), Int.toNat_natCast, if_neg (fun h => h (chk_plcs hR h64 k)), if_neg (by rw [← coll_str, h3]; decide)]
end Go.Proofs.YtgepmbjmaljgoaaGreatDoor.H
end
section
namespace Go.Proofs.YtgepmbjmaljgoaaGreatDoor.H
open Go Go.Vc Go.RowKit
open Go.Na (rtx LR chkR_rtx chkR rsg)
set_option maxHeartbeats 4000000
theorem right_out (l : List Tr) (a : Int) (ha : ¬ (0 ≤ a ∧ a < 3)) : CtrA Tryz.prog 28 [ts l, vi a] (vb false) := by
  have h1 := fews_c l
  cases hf : fewB l with
  | false =>
    rw [hf] at h1
    refine ctrA _ Tryz.func28 rfl rfl Tryz.ntmps28 rfl fun w Z => ?_
    simp only [initT, zP, zQ, Nat.zero_add, Nat.reduceAdd]
    refine wt ?_
    exact sq_res1 rfl (.tmp rfl) rfl
  | true =>
    rw [hf] at h1
    have hl : l.length ≤ 1000 := by unfold fewB at hf; simp at hf; omega
    have h2 := rscheck_c l hl
    by_cases hT : chkT l = 0
    · rw [hT] at h2
      refine ctrA _ Tryz.func28 rfl rfl Tryz.ntmps28 rfl fun w Z => ?_
      simp only [initT, zP, zQ, Nat.zero_add, Nat.reduceAdd]
      (refine wt ?_; repeat' (((first | refine sq_split rfl rfl (fun hb => ?_) (fun hb => ?_) | refine dq_split rfl rfl (fun hb => ?_) (fun hb => ?_)) <;> (try simp only [zA, zB, zC, zD, zE, zF, zG, zH, zI, zJ, zK, zL, zM, zN, zO] at hb) <;> (try (exfalso; omega))) <;> refine wt ?_))
      all_goals exact sq_res1 rfl (.tmp rfl) rfl
    · have hne : (chkT l == 0) = false := by simpa using hT
      refine ctrA _ Tryz.func28 rfl rfl Tryz.ntmps28 rfl fun w Z => ?_
      simp only [initT, zP, zQ, Nat.zero_add, Nat.reduceAdd]
      refine wt ?_
      rw [hne]
      refine wt ?_
      exact sq_res1 rfl (.tmp rfl) rfl
def toI (s : List Nat) : List Int := s.map fun (n : Nat) => (n : Int)
theorem gz_toI (s : List Nat) (i : Nat) : gz (toI s) i = ((gi s i : Nat) : Int) := by
  unfold gz toI gi
  by_cases h : i < s.length <;> simp [List.getD, h]
theorem idx_toI (s : List Nat) : idx s = ixs (toI s) := by
  unfold idx
  show AV.sl _ _ _ = AV.sl _ _ _
  have h1 : (toI s).length = s.length := by simp [toI]
  rw [h1]
  congr 1
  funext i j
  show _ = vi (gz (toI s) i)
  rw [gz_toI]
theorem verR_cand {l : List Tr} {k : Nat} (hk : k < 3) {P : Pl} (h : P ∈ candP l k) : verR l k P.A P.B P.C (toI P.s) = 0 := by
  obtain ⟨hon, hpos⟩ := cand_on hk h
  have hlen : (toI P.s).length = P.s.length := by simp [toI]
  have hmem : ∀ i, i < P.s.length → gi P.s i < l.length := fun i hi => by
    have : gi P.s i ∈ onL l k P.A P.B P.C l.length := by rw [← hon, gi_eq hi]; exact List.getElem_mem hi
    exact onL_lt' this
  have h1 : rngB (toI P.s) l.length = false := any_no fun i hi => by
    rw [hlen] at hi
    have := hmem i hi
    rw [gz_toI]
    exact decide_eq_false (by omega)
  have h2 : ordB (toI P.s) = false := any_no fun i hi => by
    rw [hlen] at hi
    rw [gz_toI, gz_toI]
    refine decide_eq_false fun hh => ?_
    have h3 := onL_asc (l := l) (k := k) (A := P.A) (B := P.B) (C := P.C) (n := l.length) (i := i - 1) (j := i) (by omega) (by rw [← hon]; exact hi)
    rw [← hon] at h3
    omega
  have h3 : lowB l k P.A P.B P.C l.length = false := any_no fun i hi => decide_eq_false (by have := cand_up (cand_thrs h) hi; grind)
  have h4 := cand_str hk h
  unfold verR
  rw [if_neg (by rw [h1]; decide), if_neg (by rw [h2]; decide), if_neg (by rw [h3]; decide), ← hon, if_neg]
  rw [← coll_str, h4]
  rintro (h5 | h5)
  · cases h5
  · unfold eqB at h5
    rw [decide_eq_true hlen.symm, Bool.true_and] at h5
    rw [List.all_eq_false] at h5
    obtain ⟨i, _, h6⟩ := h5
    rw [gz_toI] at h6
    simp at h6
theorem cand_verR {l : List Tr} {k : Nat} (hk : k < 3) {A B C : Rat} {L : List Int} (h : verR l k A B C L = 0) : ∃ P ∈ candP l k, P.A = A ∧ P.B = B ∧ P.C = C ∧ eqB (fun i => ((gi P.s i : Nat) : Int)) P.s.length (gz L) L.length = true := by
  unfold verR at h
  split at h
  · cases h
  · split at h
    · cases h
    · split at h
      · cases h
      · rename_i hlow
        split at h
        · cases h
        · rename_i hh
          have hs : strB (plP l k (onL l k A B C l.length)) = false := by
            rw [coll_str]
            cases hc : collB (plP l k (onL l k A B C l.length)) with
            | false => rfl
            | true => exact absurd (.inl hc) hh
          refine ⟨_, cand_of hk (by simpa using hlow) hs, rfl, rfl, rfl, ?_⟩
          show eqB _ (onL l k A B C l.length).length _ _ = true
          cases he : eqB (fun i => ((gi (onL l k A B C l.length) i : Nat) : Int)) (onL l k A B C l.length).length (gz L) L.length with
          | true => rfl
          | false => exact absurd (.inr he) hh
theorem eqB_toI {s : List Nat} {L : List Int} (h : eqB (fun i => ((gi s i : Nat) : Int)) s.length (gz L) L.length = true) : L = toI s := by
  unfold eqB at h
  rw [Bool.and_eq_true, decide_eq_true_eq, List.all_eq_true] at h
  obtain ⟨h1, h2⟩ := h
  refine List.ext_getElem (by simp [toI, h1]) fun i hi hi' => ?_
  have hs : i < s.length := by omega
  have := h2 i (List.mem_range.2 hs)
  rw [decide_eq_true_eq] at this
  dsimp only at this
  rw [gi_eq hs] at this
  unfold gz at this
  simp only [toI, List.getElem_map]
  rw [this]
  simp [List.getD, hi]
theorem is_iff {l : List Tr} {k : Nat} (hk : k < 3) (A B C : Rat) (L : List Int) : ((candP l k).any fun P => sameB k P k (rtx A) (rtx B) (rtx C) L) = decide (verR l k A B C L = 0) := by
  rw [Bool.eq_iff_iff, List.any_eq_true, decide_eq_true_eq]
  constructor
  · rintro ⟨P, hP, hs⟩
    unfold sameB at hs
    simp only [Bool.and_eq_true, beq_iff_eq, decide_eq_true_eq] at hs
    obtain ⟨_, h1, h2, h3, h4⟩ := hs
    have := verR_cand hk hP
    rw [← eqB_toI h4, Go.Na.rtx_inj h1, Go.Na.rtx_inj h2, Go.Na.rtx_inj h3] at this
    exact this
  · intro h
    obtain ⟨P, hP, rfl, rfl, rfl, h4⟩ := cand_verR hk h
    exact ⟨P, hP, by unfold sameB; simp [h4]⟩
theorem is_bad {l : List Tr} {k : Nat} (hk : k < 3) (A B C : List UInt8) (L : List Int) (he : plE k A B C ≠ 0) : ((candP l k).any fun P => sameB k P k A B C L) = false := by
  rw [List.any_eq_false]
  rintro P hP hs
  unfold sameB at hs
  simp only [Bool.and_eq_true, beq_iff_eq, decide_eq_true_eq] at hs
  obtain ⟨_, rfl, rfl, rfl, _⟩ := hs
  apply he
  unfold plE
  rw [if_neg (fun h => h (by omega)), if_neg (fun h => h (chkR_rtx _)), if_neg (fun h => h (chkR_rtx _)), chkR_rtx]
end Go.Proofs.YtgepmbjmaljgoaaGreatDoor.H
end
section
namespace Go.Proofs.YtgepmbjmaljgoaaGreatDoor.H
open Go Go.Vc Go.RowKit
open Go.Na (rtx LR chkR_rtx chkR rsg)
set_option maxHeartbeats 4000000
theorem given_v {l : List Tr} {k : Nat} (hk : k < 3) (A B C : List UInt8) (L : List Int) (hT : chkT l = 0) (hA : A.length ≤ 24) (hB : B.length ≤ 24) (hC : C.length ≤ 24) (hL : L.length ≤ 1000) :
    ∃ e : Int, CtrA Tryz.prog 26 [ts l, pA k A B C (ixs L)] (vi e) ∧ ((candP l k).any fun P => sameB k P k A B C L) = decide (e = 0) := by
  by_cases he : plE k A B C = 0
  · obtain ⟨k', qA, qB, qC, hk', hkk, rfl, rfl, rfl⟩ := plE_zero he
    exact ⟨_, Verify_ok l k hk qA qB qC L hT hL (LR_of_len hA) (LR_of_len hB) (LR_of_len hC) (by omega) (by omega) (by omega), is_iff hk qA qB qC L⟩
  · exact ⟨_, Verify_bad2 l k A B C (ixs L) hT (by omega) (by omega) (by omega) he, by rw [is_bad hk A B C L he, decide_eq_false he]⟩
theorem proves_law (l : List Tr) (a : Int) (A B C : List UInt8) (L : List Int) (hn : L.length ≤ 9223372036854775807) (hA : A.length ≤ 9223372036854775807) (hB : B.length ≤ 9223372036854775807) (hC : C.length ≤ 9223372036854775807) :
    CtrA Tryz.prog 8 [ts l, pA a A B C (ixs L)] (vb true) := by
  have haw := awake_c
  have hsh := short_c a A B C L.length (zf L) hn hA hB hC
  by_cases hax : 0 ≤ a ∧ a < 3
  · obtain ⟨k, hk, rfl⟩ : ∃ k : Nat, k < 3 ∧ a = k := ⟨a.toNat, by omega, by omega⟩
    have hr := right_c l hk
    cases hrg : rgtB l k with
    | false =>
      rw [hrg] at hr
      refine ctrA _ Tryz.func8 rfl rfl Tryz.ntmps8 rfl fun w Z => ?_
      simp only [initT, zP, zQ, Nat.zero_add, Nat.reduceAdd]
      refine wt ?_
      exact sq_res1 rfl (.tmp rfl) rfl
    | true =>
      rw [hrg] at hr
      cases hs : shP A B C L.length with
      | false =>
        rw [hs] at hsh
        refine ctrA _ Tryz.func8 rfl rfl Tryz.ntmps8 rfl fun w Z => ?_
        simp only [initT, zP, zQ, Nat.zero_add, Nat.reduceAdd]
        refine wt ?_
        refine sq_on (g_load_aggv rfl rfl) rfl rfl rfl ?_
        refine wt ?_
        exact sq_res1 rfl (.tmp rfl) rfl
      | true =>
        rw [hs] at hsh
        obtain ⟨l1, l2, l3, l4⟩ := shP_len hs
        obtain ⟨hfw, hT, hst, hR, h6, hcx⟩ := rgtB_ok hk hrg
        have hcd := candidates_c l k hfw
        rw [hcx] at hcd
        have hne := cand_some hk hR hst
        have hcl := cand_len k (l := l) (by omega)
        have hpos : 0 < (candP l k).length := List.length_pos_iff.2 hne
        obtain ⟨e, hve, hie⟩ := given_v hk A B C L hT l1 l2 l3 (by omega)
        have hsl : ∀ P ∈ candP l k, P.s.length ≤ 6 := fun P hP => by
          have h1 := onL_len' l k P.A P.B P.C l.length
          rw [(cand_on hk hP).1]; omega
        have hcf := cfp_c k (candP l k) k A B C L (by omega) (fun P hP => by have := hsl P hP; omega) (by omega)
        rw [hie] at hcf
        refine ctrA _ Tryz.func8 rfl rfl Tryz.ntmps8 rfl fun w Z => ?_
        simp only [initT, zP, zQ, Nat.zero_add, Nat.reduceAdd]
        refine wt ?_
        refine sq_on (g_load_aggv rfl rfl) rfl rfl rfl ?_
        refine wt ?_
        (refine cq_cond rfl (fun hb => ?_) (fun hb => ?_) <;> (try simp only [zA, zB, zC, zD, zE, zF, zG, zH, zI, zJ, zK, zL, zM, zN, zO] at hb) <;> (try (exfalso; omega)))
        refine wt ?_
        refine cq_loop (γ := Nat) (fun m => [(0, .av (ts l)), (3, .av (cpl k A B C L)), (5, .av (.sl (candP l k).length 5 (pf5 k (candP l k)))), (35, .av (.sl (candP l k).length 5 (pf5 k (candP l k)))), (36, .av (vi (candP l k).length)), (37, .av (vi m))]) (fun _ => []) (fun m => m ≤ (candP l k).length) (fun m => (candP l k).length - m) 0 (Nat.zero_le _)
          (ent ⟨.refl _, .refl _, .refl _, .refl _, .refl _, .refl _, trivial⟩ trivial) ?_
        intro m hm
        refine wt ?_
        (refine cq_cond rfl (fun hb => ?_) (fun hb => ?_) <;> (try simp only [zA, zB, zC, zD, zE, zF, zG, zH, zI, zJ, zK, zL, zM, zN, zO] at hb) <;> (try (exfalso; omega)))
        · have hml : m < (candP l k).length := by omega
          have hPm := gP_mem hml
          have hs6 := hsl _ hPm
          have hv0 := verR_cand hk hPm
          obtain ⟨lA, lB, lC⟩ := thrs_LR19 hR (cand_thrs hPm)
          generalize hP : gP (candP l k) m = P at *
          have hfe : pf5 k (candP l k) m = pAf k (rtx P.A) (rtx P.B) (rtx P.C) (idx P.s) := by unfold pf5; rw [hP]
          have tl : ∀ {q : Rat}, LR 19 q → (rtx q).length ≤ 400 := fun h => by have := LR.len' h (by decide); omega
          have hvc := Verify_ok l k hk P.A P.B P.C (toI P.s) hT (by simp [toI]; omega) (Go.Na.LR.mono lA (by decide)) (Go.Na.LR.mono lB (by decide)) (Go.Na.LR.mono lC (by decide)) (tl lA) (tl lB) (tl lC)
          rw [hv0, ← idx_toI] at hvc
          refine wt ?_
          rw [hfe]
          refine sq_g (g_load_aggv rfl rfl) rfl ?_
          refine wt ?_
          refine sq_s (g_store_aggv rfl rfl (pAf_one _ _ _ _ _) rfl rfl) ?_
          refine wt ?_
          refine sq_g (g_load_own_aggv (f := pAf k (rtx P.A) (rtx P.B) (rtx P.C) (idx P.s)) rfl rfl rfl) rfl ?_
          refine wt ?_
          exact sq_round (m + 1) (by omega) (by omega) (ent ⟨.refl _, .refl _, .refl _, .refl _, .refl _, .int (by omega), trivial⟩ trivial)
        · have b1 : (decide (e = 0) == (e == 0)) = true := by
            by_cases h : e = 0 <;> simp [h]
          refine wt ?_
          trace_state
          refine sq_g (g_load_aggv rfl rfl) rfl ?_
          refine wt ?_
          rw [b1]
          refine wt ?_
          exact sq_res1 rfl (.tmp rfl) rfl
  · have hr := right_out l a hax
    refine ctrA _ Tryz.func8 rfl rfl Tryz.ntmps8 rfl fun w Z => ?_
    simp only [initT, zP, zQ, Nat.zero_add, Nat.reduceAdd]
    refine wt ?_
    exact sq_res1 rfl (.tmp rfl) rfl
end Go.Proofs.YtgepmbjmaljgoaaGreatDoor.H
end
