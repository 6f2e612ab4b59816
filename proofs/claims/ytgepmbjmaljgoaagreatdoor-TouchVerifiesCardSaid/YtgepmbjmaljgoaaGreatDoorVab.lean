/- A part of the proof that TouchVerifies returns true at every input and that the input reads behind the call as it read before; this part states nothing of its own that is claimed. -/
import Derived.Test.YtgepmbjmaljgoaaGreatDoorBai
import Derived.Test.YtgepmbjmaljgoaaGreatDoorBak
import Derived.Test.YtgepmbjmaljgoaaGreatDoorBaq
import Derived.Test.YtgepmbjmaljgoaaGreatDoorBar
set_option linter.unusedVariables false
set_option linter.unusedSimpArgs false
section
namespace Go.Vc
open Go Go.RowKit
section
variable {P : Program} {E : Env} {T T' : Tab} {O O' : Own} {d : Option Tmp} {ty : TypeId} {pos : String} {af : Array Edge} {g : Option (Nat × Bool)}
def opφ (b : Nat) (ty : TypeId) (sz n cap : Nat) (f : Nat → Nat → AV) : Zone → World → Value → Obj → Prop := fun Z w v ob =>
  (∃ m, v = .slice (some ⟨b, 0, none⟩) m cap) ∧ n ≤ cap ∧ cap ≤ maxLen ∧ ∃ arr, ob = .cells arr ty (0, 0) ∧ arr.size = cap * sz ∧ ∀ i, i < n → ∀ j, j < sz → ∃ u, arr[i * sz + j]? = some u ∧ (f i j).ok Z w u
theorem op_st (b : Nat) (ty : TypeId) (sz n cap : Nat) (f : Nat → Nat → AV) : RStable (opφ b ty sz n cap f) := by
  rintro Z Z' w w' v ob h1 h2 h3 ⟨h4, h5, h6, arr, h7, h8, h9⟩
  exact ⟨h4, h5, h6, arr, h7, h8, fun i hi j hj => let ⟨u, hu, hk⟩ := h9 i hi j hj; ⟨u, hu, AV.ok_mono h1 h2 h3 _ _ hk⟩⟩
abbrev Res.op (b : Nat) (ty : TypeId) (sz n cap : Nat) (f : Nat → Nat → AV) : Res := .obj (opφ b ty sz n cap f) (op_st b ty sz n cap f)
theorem SV.frz_is {Z : Zone} {ν : Vals} {w : World} {r : Nat} {τ : AV} (hτ : τ.ok Z w (ν r)) (s : SV) (v : Value) (h : s.ok Z ν w v) : (s.frz r τ).ok Z ν w v := by
  cases s with
  | osl s =>
    cases hb : Nat.beq s r with
    | true =>
      have := Nat.eq_of_beq_eq_true hb
      subst this
      have e : (SV.osl s).frz s τ = .av τ := by simp [SV.frz]
      have h' : v = ν s := h
      rw [e, h']; exact hτ
    | false =>
      have e : (SV.osl s).frz r τ = .osl s := by simp [SV.frz, hb]
      rw [e]; exact h
  | av σ => exact h
  | oel s sz i j => unfold SV.frz; dsimp only; split <;> first | trivial | exact h
  | osx s sz lo n => unfold SV.frz; dsimp only; split <;> first | trivial | exact h
  | own s o => unfold SV.frz; dsimp only; split <;> first | trivial | exact h
  | clo k cs => unfold SV.frz; dsimp only; split <;> first | trivial | exact h
  | tupR s ρs => unfold SV.frz; dsimp only; split <;> first | trivial | exact h
  | agg cs => unfold SV.frz; dsimp only; split <;> first | trivial | exact h
  | tupC cs => unfold SV.frz; dsimp only; split <;> first | trivial | exact h
  | fnC k cs => unfold SV.frz; dsimp only; split <;> first | trivial | exact h
  | ocs s o n => unfold SV.frz; dsimp only; split <;> first | trivial | exact h
theorem SatZ.frzT {Z : Zone} {ν : Vals} {a : Act} {w : World} {r : Nat} {τ : AV} (h : SatZ E Z ν T O a w) (hτ : τ.ok Z w (ν r)) : SatZ E Z ν (T.frz r τ) O a w :=
  ⟨h.defers, h.tsize, h.cst, h.pin, h.base, h.own, fun k => by rw [Tab.get_frz]; exact SV.frz_is hτ _ _ (h.slot k)⟩
theorem SatZ.dropO {Z : Zone} {ν : Vals} {a : Act} {w : World} {r : Nat} (h : SatZ E Z ν T O a w) : SatZ E Z ν T (Own.drop r O) a w := by
  have hl : ∀ k x, look (Own.drop r O) k = some x → look O k = some x := fun k x hx => by
    rw [Own.look_drop] at hx
    split at hx
    · cases hx
    · exact hx
  have hn : ∀ k, look (Own.drop r O) k ≠ none → look O k ≠ none := fun k hk => by
    cases hx : look (Own.drop r O) k with
    | none => exact absurd hx hk
    | some x => rw [hl k x hx]; simp
  exact ⟨h.defers, h.tsize, h.cst, h.pin, h.base, ⟨fun k x hx => h.own.each k x (hl k x hx), fun k k' hne h1 h2 => h.own.apart k k' hne (hn k h1) (hn k' h2)⟩, h.slot⟩
theorem cq_open {Q : Exit → Act → World → Prop} {c : Code} (r : Nat) {ety sz n : Nat} {f : Nat → Nat → AV} (hr : look O r = some (.row ety sz n f))
    (h0 : n = 0 → CQ P E Q (T.frz r (.val (.slice none 0 0))) (Own.drop r O) c)
    (h1 : ∀ b cap, n ≤ cap → CQ P E Q (T.frz r (.val (.slice (some ⟨b, 0, none⟩) n cap))) ((r, .op b ety sz n cap f) :: O) c) : CQ P E Q T O c := by
  refine ⟨fun a w hsat => ?_⟩
  obtain ⟨Z, ν, hs⟩ := hsat
  rcases hs.own.each r _ hr with ⟨e1, e2⟩ | ⟨b, cap, arr, e1, e2, e3, e4, e5, e6, e7, e8⟩
  · exact (h0 e2).sq a w ⟨Z, ν, (hs.frzT (τ := .val (.slice none 0 0)) e1).dropO⟩
  · refine (h1 b cap e5).sq a w ⟨Z, ν, (hs.frzT (τ := .val (.slice (some ⟨b, 0, none⟩) n cap)) e1).reobj hr ?_⟩
    exact ⟨b, _, by rw [e1]; rfl, e2, e3, e4, ⟨n, e1⟩, e5, e6, arr, rfl, e7, e8⟩
theorem op_own {Z : Zone} {ν : Vals} {w : World} {v : Value} {b ety sz n cap : Nat} {f : Nat → Nat → AV} (h : Res.ok E Z ν w v (.op b ety sz n cap f)) :
    (∃ m, v = .slice (some ⟨b, 0, none⟩) m cap) ∧ ¬ E.keep b ∧ ¬ Z b ∧ n ≤ cap ∧ cap ≤ maxLen ∧ ∃ arr, w.heap[b]? = some (.cells arr ety (0, 0)) ∧ arr.size = cap * sz ∧ ∀ i, i < n → ∀ j, j < sz → ∃ u, arr[i * sz + j]? = some u ∧ (f i j).ok Z w u := by
  obtain ⟨b', ob, h1, h2, h3, h4, ⟨m, rfl⟩, h6, h7, arr, rfl, h8, h9⟩ := h
  have e : b = b' := by simpa [blkOf] using h1
  subst e
  exact ⟨⟨m, rfl⟩, h2, h3, h6, h7, arr, h4, h8, h9⟩
theorem ent_close (k r : Nat) {b ety sz n cap : Nat} {f : Nat → Nat → AV} (hd : T.get k = .av (.val (.slice (some ⟨b, 0, none⟩) n cap))) (hr : look O r = some (.op b ety sz n cap f)) (hp : Nat.blt r 1000 = true := by first | rfl | assumption) :
    Ent T O ((k, .osl r) :: T.kill r) ((r, .row ety sz n f) :: Own.kill r O) := by
  rintro E a w ⟨Z, ν, hs⟩
  obtain ⟨⟨m, e1⟩, e2, e3, e4, e5, arr, e6, e7, e8⟩ := op_own (hs.own.each r _ hr)
  have hv : a.tmps.getD k undef = .slice (some ⟨b, 0, none⟩) n cap := by have := hs.slot k; rw [hd] at this; exact this
  have hk := hs.kill r (.slice (some ⟨b, 0, none⟩) n cap) hp
  have hvr : updV ν r (.slice (some ⟨b, 0, none⟩) n cap) r = .slice (some ⟨b, 0, none⟩) n cap := if_pos rfl
  have hk' := hk.addRes r (.row ety sz n f) (by rw [hvr]; exact .inr ⟨b, cap, arr, rfl, e2, e3, e6, e4, e5, e7, e8⟩) (fun b' hb' r' hne hl => by
    rw [hvr] at hb'
    have hbb : b = b' := by simpa [blkOf] using hb'
    subst hbb
    rw [show updV ν r (.slice (some ⟨b, 0, none⟩) n cap) r' = ν r' from if_neg hne]
    rw [Own.look_kill, if_neg hne] at hl
    exact hs.own.apart r r' (fun e => hne e.symm) (by rw [hr]; simp) (by simpa using hl) b (by rw [e1]; rfl))
  refine ⟨Z, _, hk'.defers, hk'.tsize, hk'.cst, hk'.pin, hk'.base, hk'.own, fun k' => ?_⟩
  by_cases he : k = k'
  · subst he
    rw [Tab.get_cons_eq]
    show a.tmps.getD k undef = updV ν r _ r
    rw [hvr, hv]
  · rw [Tab.get_cons_ne _ _ he]; exact hk'.slot k'
theorem news_of {Z : Zone} {w : World} {b o m sz : Nat} {h : Nat → Nat → AV} (hpos : 0 < sz) (hcell : ∀ i, i < m → ∀ j, j < sz → ∃ u, w.cell? ⟨b, o + i * sz + j, none⟩ = some u ∧ (h i j).ok Z w u) (hone : ∀ i, i < m → ∀ j, j < sz → (h i j).one = true) :
    ∃ news : List Value, news.length = m * sz ∧ (∀ (j : Nat) u, news[j]? = some u → w.cell? ((⟨b, o, none⟩ : Addr).add j) = some u) ∧ (∀ i, i < m → ∀ j, j < sz → ∃ u, news[i * sz + j]? = some u ∧ (h i j).ok Z w u) ∧ ∀ u ∈ news, u.oneCell' = true := by
  have hnew : ∃ news : List Value, news.length = m * sz ∧ (∀ (j : Nat) u, news[j]? = some u → w.cell? ((⟨b, o, none⟩ : Addr).add j) = some u) ∧ (∀ i, i < m → ∀ j, j < sz → ∃ u, news[i * sz + j]? = some u ∧ (h i j).ok Z w u) := by
    refine ⟨(List.range (m * sz)).map fun k => (w.cell? ⟨b, o + k, none⟩).getD undef, by simp, fun j u hj => ?_, fun i hi j hj => ?_⟩
    · simp only [List.getElem?_map, Option.map_eq_some_iff] at hj
      obtain ⟨k, hk, rfl⟩ := hj
      obtain ⟨hlt, rfl⟩ := List.getElem?_eq_some_iff.1 hk
      simp only [List.length_range] at hlt
      simp only [List.getElem_range]
      have hq : j / sz < m := Nat.div_lt_of_lt_mul (by rw [Nat.mul_comm]; exact hlt)
      obtain ⟨u, hu, _⟩ := hcell (j / sz) hq (j % sz) (Nat.mod_lt _ hpos)
      have : o + j / sz * sz + j % sz = o + j := by rw [Nat.add_assoc, Nat.mul_comm, Nat.div_add_mod]
      rw [this] at hu
      rw [add_addr, hu]; rfl
    · have hlt : i * sz + j < m * sz := by
        have : (i + 1) * sz ≤ m * sz := Nat.mul_le_mul_right _ hi
        rw [Nat.add_mul, Nat.one_mul] at this
        omega
      obtain ⟨u, hu, hk⟩ := hcell i hi j hj
      refine ⟨u, ?_, hk⟩
      simp only [List.getElem?_map, List.getElem?_range hlt, Option.map_some]
      rw [← Nat.add_assoc, hu]; rfl
  obtain ⟨news, hnl, hnc, hnk⟩ := hnew
  refine ⟨news, hnl, hnc, hnk, fun u hu => ?_⟩
  obtain ⟨k, hk, rfl⟩ := List.getElem_of_mem hu
  rw [hnl] at hk
  have hq : k / sz < m := Nat.div_lt_of_lt_mul (by rw [Nat.mul_comm]; exact hk)
  obtain ⟨u, hu', hok⟩ := hnk (k / sz) hq (k % sz) (Nat.mod_lt _ hpos)
  have : k / sz * sz + k % sz = k := by rw [Nat.mul_comm, Nat.div_add_mod]
  rw [this] at hu'
  have e : news[k] = u := by rw [List.getElem?_eq_getElem (by omega)] at hu'; simpa using hu'
  rw [e]
  exact AV.one_cells (hone _ hq _ (Nat.mod_lt _ hpos)) hok
theorem SatZ.drew' {Z : Zone} {ν : Vals} {a : Act} {w : World} (h : SatZ E Z ν T O a w) : SatZ E Z ν T O a w.drew :=
  h.ext rfl rfl rfl (Nat.le_refl _) (fun _ _ => rfl) (fun _ h => h) (fun _ h => .inl h) (fun k hk => h.base.zLt k hk)
theorem app_cells {Z Z' : Zone} {w w' : World} {n m sz : Nat} {f h : Nat → Nat → AV} {xs news : List Value} (hxl : xs.length = n * sz) (hav : ∀ (τ : AV) u, τ.ok Z w u → τ.ok Z' w' u)
    (hxs : ∀ i, i < n → ∀ j, j < sz → ∃ u, xs[i * sz + j]? = some u ∧ (f i j).ok Z w u) (hnk : ∀ i, i < m → ∀ j, j < sz → ∃ u, news[i * sz + j]? = some u ∧ (h i j).ok Z w u) :
    ∀ i, i < n + m → ∀ j, j < sz → ∃ u, (xs ++ news)[i * sz + j]? = some u ∧ (rowApp n f h i j).ok Z' w' u := by
  intro i hi j hj
  unfold rowApp
  by_cases hin : i < n
  · rw [if_pos hin]
    obtain ⟨u, hu, hk⟩ := hxs i hin j hj
    refine ⟨u, ?_, hav _ _ hk⟩
    rw [List.getElem?_append_left (List.getElem?_eq_some_iff.1 hu).1]
    exact hu
  · rw [if_neg hin]
    obtain ⟨u, hu, hk⟩ := hnk (i - n) (by omega) j hj
    refine ⟨u, ?_, hav _ _ hk⟩
    have hidx : i * sz + j = n * sz + ((i - n) * sz + j) := by
      have : i = n + (i - n) := by omega
      conv => lhs; rw [this, Nat.add_mul]
      omega
    rw [List.getElem?_append_right (by omega), hxl, hidx, Nat.add_sub_cancel_left]
    exact hu
theorem ga_app_nil {t e : TypeId} {x y : Operand} {m sz bytes : Nat} {h : Nat → Nat → AV} (r : Nat) [ht : SlTy P t e sz] [he : EltTy P e sz bytes] (hx : T.ev x = .av (.val (.slice none 0 0))) (hy : T.ev y = .av (.sl m sz h))
    (hone : ∀ i, i < m → ∀ j, j < sz → (h i j).one = true) (hm : 0 < m) (hlen : m ≤ maxLen) (hby : m * bytes ≤ 140737488355328) (hp : Nat.blt r 1000 = true := by first | rfl | assumption) :
    GA P E ⟨d, .call ⟨.builtin .append, #[x, y], #[t, t]⟩, ty, pos, af, g⟩ T O (.osl r) [] r (.row e sz m h) := by
  refine ⟨fun T' O' hT _ hf => VStep.freshP ⟨by intro c; simp, fun Z ν a w hs => ?_⟩ hf, by intro c; simp⟩
  have hx' : T'.ev x = _ := (ev_same (o := ⟨d, .call ⟨.builtin .append, #[x, y], #[t, t]⟩, ty, pos, af, g⟩) hT (by simp [Op.operands, Call.operands])).trans hx
  have hy' : T'.ev y = _ := (ev_same (o := ⟨d, .call ⟨.builtin .append, #[x, y], #[t, t]⟩, ty, pos, af, g⟩) hT (by simp [Op.operands, Call.operands])).trans hy
  have hvx : a.eval x = .slice none 0 0 := by have := ev_ok hs x; rw [hx'] at this; exact this
  obtain ⟨p, c, hvy, hmc, hcm, hcells⟩ := sl_ok hy' (ev_ok hs y)
  obtain ⟨b, o, rfl, hzb, hblt, hcell⟩ := hcells hm
  obtain ⟨i0, z, hi, hz, hsz, hbt, hzs, hpos⟩ := he.info
  obtain ⟨news, hnl, hnc, hnk, hone'⟩ := news_of hpos hcell hone
  have hown : w.ownsRow 0 e sz (.slice none 0 0) 0 [] := ⟨by simp, .inl ⟨rfl, rfl⟩⟩
  obtain ⟨v', w', hrun, hown', hgrow, _⟩ := run_append_own (P := P) w 0 t ty e i0 z sz bytes ht.und hi hz hsz hbt hzs hpos (.slice none 0 0) 0 [] hown ⟨b, o, none⟩ m c news hnl hnc hone' (by omega) (by rw [Nat.zero_add]; exact hby) (Nat.zero_le _)
  obtain ⟨ob, hrun2⟩ : ∃ ob, (Builtin.append_ #[t, t] ty #[.slice none 0 0, .slice (some ⟨b, o, none⟩) m c]).run P w = .ok (.slice (some ⟨w.heap.size, 0, none⟩) m (grownCap w m 0 e)) (w.drew.alloc ob) := ⟨_, run_append_nil (P := P) w t ty e i0 z ht.und hi hz ⟨b, o, none⟩ m c news (by rw [hsz]; exact hnl) hnc hm (by simp only [maxLen] at hlen; omega) (by rw [hbt]; omega)⟩
  have hrun' := hrun
  rw [hrun2] at hrun
  cases hrun
  refine wp_value (w' := w.drew.alloc ob) ?_ ⟨_, Z, updV ν r (.slice (some ⟨w.drew.heap.size, 0, none⟩) m (grownCap w m 0 e)), rfl, hs.drew'.newRes r hp ob (.slice (some ⟨w.drew.heap.size, 0, none⟩) m (grownCap w m 0 e)) (.row e sz m h) rfl (fun hsv hnk' hnz => ?_), (if_pos rfl).symm⟩
  · simp only [execOp, resolve, invoke, builtin, Sem.run_bind, Sem.run_pure, Result.andThen_ok, List.map_toArray, List.map_cons, List.map_nil, hvx, hvy, hrun']; rfl
  · rw [Nat.zero_add] at hown'
    refine row_of_owns hown' (fun b' hb' => ?_) (fun i hi j hj => ?_)
    · have : w.heap.size = b' := by simpa [blkOf] using hb'
      subst this
      exact ⟨hnk', hnz⟩
    · obtain ⟨u, hu, hk⟩ := hnk i hi j hj
      exact ⟨u, by simpa using hu, hsv (.av (h i j)) u rfl (AV.ok_mono (w := w) (w' := w.drew) (Z := Z) (fun _ h => h) (Nat.le_refl _) (fun _ _ _ => rfl) _ _ hk)⟩
theorem ga_app_full {t e : TypeId} {x y : Operand} {q b n cap m sz bytes : Nat} {f h : Nat → Nat → AV} (r : Nat) [ht : SlTy P t e sz] [he : EltTy P e sz bytes] (hx : T.ev x = .av (.val (.slice (some ⟨b, 0, none⟩) n cap))) (hr : look O q = some (.op b e sz n cap f)) (hy : T.ev y = .av (.sl m sz h))
    (hone : ∀ i, i < m → ∀ j, j < sz → (h i j).one = true) (hm : 0 < m) (hfull : cap < n + m) (hlen : n + m ≤ maxLen) (hby : (n + m) * bytes ≤ 140737488355328) (hp : Nat.blt r 1000 = true := by first | rfl | assumption) :
    GA P E ⟨d, .call ⟨.builtin .append, #[x, y], #[t, t]⟩, ty, pos, af, g⟩ T O (.osl r) [q] r (.row e sz (n + m) (rowApp n f h)) := by
  refine ⟨fun T' O' hT hO hf => VStep.freshP ⟨by intro c; simp, fun Z ν a w hs => ?_⟩ hf, by intro c; simp⟩
  have hx' : T'.ev x = _ := (ev_same (o := ⟨d, .call ⟨.builtin .append, #[x, y], #[t, t]⟩, ty, pos, af, g⟩) hT (by simp [Op.operands, Call.operands])).trans hx
  have hy' : T'.ev y = _ := (ev_same (o := ⟨d, .call ⟨.builtin .append, #[x, y], #[t, t]⟩, ty, pos, af, g⟩) hT (by simp [Op.operands, Call.operands])).trans hy
  have hvx : a.eval x = .slice (some ⟨b, 0, none⟩) n cap := by have := ev_ok hs x; rw [hx'] at this; exact this
  obtain ⟨p, c, hvy, hmc, hcm, hcells⟩ := sl_ok hy' (ev_ok hs y)
  obtain ⟨b1, o, rfl, hzb, hblt, hcell⟩ := hcells hm
  obtain ⟨i0, z, hi, hz, hsz, hbt, hzs, hpos⟩ := he.info
  obtain ⟨news, hnl, hnc, hnk, hone'⟩ := news_of hpos hcell hone
  obtain ⟨_, e2, e3, e4, e5, arr, e6, e7, e8⟩ := op_own (hs.own.each q _ ((hO q (by simp)).trans hr))
  have hrow : Res.ok E Z ν w (.slice (some ⟨b, 0, none⟩) n cap) (.row e sz n f) := .inr ⟨b, cap, arr, rfl, e2, e3, e6, e4, e5, e7, e8⟩
  obtain ⟨xs, hown, hxs⟩ := ownsRow_of hrow
  obtain ⟨v', w', hrun, hown', hgrow, _⟩ := run_append_own (P := P) w 0 t ty e i0 z sz bytes ht.und hi hz hsz hbt hzs hpos _ n xs hown ⟨b1, o, none⟩ m c news hnl hnc hone' hlen hby (Nat.zero_le _)
  have holds : ∀ (j : Nat) u, xs[j]? = some u → w.cell? ((⟨b, 0, none⟩ : Addr).add j) = some u := hown.cells (g := b) rfl
  obtain ⟨ob, hrun2⟩ : ∃ ob, (Builtin.append_ #[t, t] ty #[.slice (some ⟨b, 0, none⟩) n cap, .slice (some ⟨b1, o, none⟩) m c]).run P w = .ok (.slice (some ⟨w.heap.size, 0, none⟩) (n + m) (grownCap w (n + m) cap e)) (w.drew.alloc ob) := ⟨_, run_append_grow (P := P) w t ty e i0 z ht.und hi hz ⟨b, 0, none⟩ n cap xs (by rw [hsz]; exact hown.1) holds ⟨b1, o, none⟩ m c news (by rw [hsz]; exact hnl) hnc hfull (by simp only [maxLen] at hlen; omega) (growslice_fits (by omega) (by rw [hbt]; exact hby))⟩
  have hrun' := hrun
  rw [hrun2] at hrun
  cases hrun
  refine wp_value (w' := w.drew.alloc ob) ?_ ⟨_, Z, updV ν r (.slice (some ⟨w.drew.heap.size, 0, none⟩) (n + m) (grownCap w (n + m) cap e)), rfl, hs.drew'.newRes r hp ob (.slice (some ⟨w.drew.heap.size, 0, none⟩) (n + m) (grownCap w (n + m) cap e)) (.row e sz (n + m) (rowApp n f h)) rfl (fun hsv hnk' hnz => ?_), (if_pos rfl).symm⟩
  · simp only [execOp, resolve, invoke, builtin, Sem.run_bind, Sem.run_pure, Result.andThen_ok, List.map_toArray, List.map_cons, List.map_nil, hvx, hvy, hrun']; rfl
  · refine row_of_owns hown' (fun b' hb' => ?_) (app_cells (w := w) hown.1 (fun τ u hτ => hsv (.av τ) u rfl (AV.ok_mono (w := w) (w' := w.drew) (Z := Z) (fun _ h => h) (Nat.le_refl _) (fun _ _ _ => rfl) _ _ hτ)) hxs hnk)
    have : w.heap.size = b' := by simpa [blkOf] using hb'
    subst this
    exact ⟨hnk', hnz⟩
theorem g_app_room {t e : TypeId} {x y : Operand} {q b n cap m sz bytes : Nat} {f h : Nat → Nat → AV} [ht : SlTy P t e sz] [he : EltTy P e sz bytes] (hx : T.ev x = .av (.val (.slice (some ⟨b, 0, none⟩) n cap))) (hr : look O q = some (.op b e sz n cap f)) (hy : T.ev y = .av (.sl m sz h))
    (hone : ∀ i, i < m → ∀ j, j < sz → (h i j).one = true) (hm : 0 < m) (hroom : n + m ≤ cap) (hlen : n + m ≤ maxLen) (hby : (n + m) * bytes ≤ 140737488355328) :
    GV P E ⟨d, .call ⟨.builtin .append, #[x, y], #[t, t]⟩, ty, pos, af, g⟩ T O (.av (.val (.slice (some ⟨b, 0, none⟩) (n + m) cap))) [q] [(q, .op b e sz (n + m) cap (rowApp n f h))] := by
  refine ⟨fun T' O' hT hO => ⟨by intro c; simp, fun Z ν a w hs => ?_⟩⟩
  have hx' : T'.ev x = _ := (ev_same (o := ⟨d, .call ⟨.builtin .append, #[x, y], #[t, t]⟩, ty, pos, af, g⟩) hT (by simp [Op.operands, Call.operands])).trans hx
  have hy' : T'.ev y = _ := (ev_same (o := ⟨d, .call ⟨.builtin .append, #[x, y], #[t, t]⟩, ty, pos, af, g⟩) hT (by simp [Op.operands, Call.operands])).trans hy
  have hvx : a.eval x = .slice (some ⟨b, 0, none⟩) n cap := by have := ev_ok hs x; rw [hx'] at this; exact this
  obtain ⟨p, c, hvy, hmc, hcm, hcells⟩ := sl_ok hy' (ev_ok hs y)
  obtain ⟨b1, o, rfl, hzb, hblt, hcell⟩ := hcells hm
  obtain ⟨i0, z, hi, hz, hsz, hbt, hzs, hpos⟩ := he.info
  obtain ⟨news, hnl, hnc, hnk, hone'⟩ := news_of hpos hcell hone
  have hq := (hO q (by simp)).trans hr
  obtain ⟨⟨mm, e1⟩, e2, e3, e4, e5, arr, e6, e7, e8⟩ := op_own (hs.own.each q _ hq)
  have hrow : Res.ok E Z ν w (.slice (some ⟨b, 0, none⟩) n cap) (.row e sz n f) := .inr ⟨b, cap, arr, rfl, e2, e3, e6, e4, e5, e7, e8⟩
  obtain ⟨xs, hown, hxs⟩ := ownsRow_of hrow
  obtain ⟨v', w', hrun, hown', hgrow, _⟩ := run_append_own (P := P) w 0 t ty e i0 z sz bytes ht.und hi hz hsz hbt hzs hpos _ n xs hown ⟨b1, o, none⟩ m c news hnl hnc hone' hlen hby (Nat.zero_le _)
  have hfit : n * i0.size + news.length ≤ arr.size := by rw [hnl, hsz, e7, ← Nat.add_mul]; exact Nat.mul_le_mul_right _ hroom
  obtain ⟨cur, hcur, hrun2⟩ : ∃ cur, cur = (arr.toList.take (n * i0.size) ++ news ++ arr.toList.drop (n * i0.size + news.length)).toArray ∧ (Builtin.append_ #[t, t] ty #[.slice (some ⟨b, 0, none⟩) n cap, .slice (some ⟨b1, o, none⟩) m c]).run P w = .ok (.slice (some ⟨b, 0, none⟩) (n + m) cap) (w.setRow b cur) := ⟨_, rfl, run_append_room (P := P) w t ty e i0 ht.und hi b n cap arr e6 ⟨b1, o, none⟩ m c news (by rw [hsz]; exact hnl) hnc hone' hroom hfit⟩
  have hrun' := hrun
  rw [hrun2] at hrun
  cases hrun
  have hlt : b < w.heap.size := (Array.getElem?_eq_some_iff.1 e6).1
  refine wp_value (w' := w.setRow b cur) ?_ ⟨_, Z, ν, rfl, hs.write (w' := w.setRow b cur) hq (b := b) (by rw [e1]; rfl) rfl rfl rfl (by simp [World.setRow]) (fun k hk => by simp [World.setRow, Array.getElem?_modify, Ne.symm hk]) (fun hsv => ?_), rfl⟩
  · simp only [execOp, resolve, invoke, builtin, Sem.run_bind, Sem.run_pure, Result.andThen_ok, List.map_toArray, List.map_cons, List.map_nil, hvx, hvy, hrun']
  · have hb2 := setRow_heap w b arr cur e (0, 0) e6
    subst hcur
    refine ⟨b, _, by rw [e1]; rfl, e2, e3, hb2, ⟨mm, e1⟩, hroom, e5, _, rfl, ?_, fun i hi' j hj => ?_⟩
    · simp only [List.size_toArray, List.length_append, List.length_take, List.length_drop, Array.length_toList]
      omega
    · have hxl : n * i0.size ≤ arr.toList.length := by rw [Array.length_toList]; omega
      obtain ⟨u, hu, hk⟩ := app_cells (xs := arr.toList.take (n * i0.size)) (by rw [List.length_take, hsz] at *; omega) (fun τ u hτ => hsv (.av τ) u hτ) (fun i hi j hj => by
        obtain ⟨u, hu, hk⟩ := e8 i hi j hj
        refine ⟨u, ?_, hk⟩
        have : i * sz + j < n * i0.size := by
          have : (i + 1) * sz ≤ n * sz := Nat.mul_le_mul_right _ hi
          rw [Nat.add_mul, Nat.one_mul] at this
          rw [hsz]; omega
        rw [List.getElem?_take_of_lt this]
        simpa using hu) hnk i hi' j hj
      refine ⟨u, ?_, hk⟩
      rw [List.getElem?_toArray, List.getElem?_append_left (List.getElem?_eq_some_iff.1 hu).1]
      exact hu
end
end Go.Vc
end
section
namespace Go.Proofs.YtgepmbjmaljgoaaGreatDoor.H
open Go Go.Vc Go.RowKit Go.Na
theorem trn_par {d u v : Pt} (hd : ¬ (d.x = 0 ∧ d.y = 0)) (h1 : trn d u = 0) (h2 : trn d v = 0) : trn u v = 0 := by
  unfold trn at *
  have e1 : d.x * (u.x * v.y - u.y * v.x) = 0 := by grind
  have e2 : d.y * (u.x * v.y - u.y * v.x) = 0 := by grind
  rcases Int.mul_eq_zero.1 e1 with a | a
  · rcases Int.mul_eq_zero.1 e2 with b | b
    · exact absurd ⟨a, b⟩ hd
    · exact b
  · exact a
theorem coll_all {l : List Pt} (h : collB l = true) : ∀ i, i < l.length → ∀ j, j < l.length → ∀ k, k < l.length → crs (gp l i) (gp l j) (gp l k) = 0 := by
  unfold collB at h
  split at h
  · rename_i hf
    have hall : ∀ k, k < l.length → gp l k = gp l 0 := fun k hk => by
      have := List.find?_eq_none.1 hf k (List.mem_range.2 hk)
      simpa using this
    intro i hi j hj k hk
    rw [hall i hi, hall j hj, hall k hk]
    unfold crs trn sub; grind
  · rename_i m hf
    have hm := List.find?_some hf
    have hne : gp l m ≠ gp l 0 := by simpa using hm
    have hall : ∀ i, i < l.length → trn (sub (gp l m) (gp l 0)) (sub (gp l i) (gp l 0)) = 0 := fun i hi => by
      have := List.all_eq_true.1 h i (List.mem_range.2 hi)
      simpa using this
    intro i hi j hj k hk
    have a1 := hall i hi
    have a2 := hall j hj
    have a3 := hall k hk
    refine trn_par (d := sub (gp l m) (gp l 0)) ?_ ?_ ?_
    · rintro ⟨e1, e2⟩
      apply hne
      unfold sub at e1 e2
      dsimp only at e1 e2
      generalize gp l m = a at *
      generalize gp l 0 = b at *
      obtain ⟨ax, ay⟩ := a
      obtain ⟨bx, by'⟩ := b
      dsimp only at e1 e2
      rw [show ax = bx by omega, show ay = by' by omega]
    · unfold trn sub at *; dsimp only at *; grind
    · unfold trn sub at *; dsimp only at *; grind
theorem str_of_coll {l : List Pt} (h : collB l = true) : strB l = true := by
  have key := coll_all h
  unfold strB
  simp only [List.all_eq_true, List.mem_range, decide_eq_true_eq]
  intro i hi j hj k hk
  exact key i hi j (by omega) k (by omega)
theorem coll_of_str {l : List Pt} (h : strB l = true) : collB l = true := by
  unfold strB at h
  simp only [List.all_eq_true, List.mem_range, decide_eq_true_eq] at h
  unfold collB
  split
  · rfl
  · rename_i m hf
    have hf' := List.find?_range_eq_some.1 hf
    obtain ⟨hm, hml, hbef⟩ := hf'
    have hne : gp l m ≠ gp l 0 := by simpa using hm
    have hb : ∀ j, j < m → gp l j = gp l 0 := fun j hj => by simpa using hbef j hj
    rw [List.all_eq_true]
    intro i hi
    rw [decide_eq_true_eq]
    rcases Nat.lt_trichotomy i m with h1 | h1 | h1
    · rw [hb i h1]; unfold trn sub; grind
    · subst h1; unfold trn sub; grind
    · have h0 : 0 < m := Nat.pos_of_ne_zero fun e => hne (by rw [e])
      have := h i (List.mem_range.1 hi) m h1 0 h0
      unfold crs trn sub at this
      unfold trn sub
      dsimp only at *
      grind
theorem coll_str (l : List Pt) : strB l = collB l := by
  cases h : collB l with
  | true => exact str_of_coll h
  | false =>
    cases h2 : strB l with
    | false => rfl
    | true => rw [coll_of_str h2] at h; cases h
theorem LR.add' {k l : Nat} {q r : Rat} (h : LR k q) (h' : LR l r) : LR (k + l + 1) (q + r) := by
  rw [add_eq]
  exact divInt_LR (by have := q.den_nz; have := r.den_nz; simp; omega) ((h.1.mul h'.2).add ((h'.1.mul h.2).mono (by omega))) ((h.2.mul h'.2).mono (by omega))
theorem LR.mul' {k l : Nat} {q r : Rat} (h : LR k q) (h' : LR l r) : LR (k + l) (q * r) := by
  rw [mul_eq]
  exact divInt_LR (by have := q.den_nz; have := r.den_nz; simp; omega) (h.1.mul h'.1) (h.2.mul h'.2)
theorem LR_small {x : Int} (hx : -100000 ≤ x ∧ x ≤ 100000) : LR 6 (x : Rat) := LR.int (k := 6) (show x.natAbs < 10 ^ 6 by omega) (by decide)
theorem LR_divInt19 {n d : Int} (hn : -9000000000000000000 ≤ n ∧ n ≤ 9000000000000000000) (hd : -9000000000000000000 ≤ d ∧ d ≤ 9000000000000000000) (h0 : d ≠ 0) : LR 19 (Rat.divInt n d) := by
  have l : ∀ x : Int, -9000000000000000000 ≤ x ∧ x ≤ 9000000000000000000 → LI 19 x := fun x hx => (show x.natAbs < 10 ^ 19 by omega)
  exact divInt_LR h0 (l _ hn) (l _ hd)
theorem thrs_at {l : List Tr} {k : Nat} {P : Pl} (h : P ∈ thrs l k) : ∃ a b c, cz (nvP (gt l a) (gt l b) (gt l c)) k ≠ 0 ∧ P.A = aP l k a b c ∧ P.B = bP l k a b c ∧ P.C = cP l k a b c := by
  obtain ⟨⟨a, b, c⟩, _, h⟩ := List.mem_filterMap.1 h
  have h' : thr l k a b c = some P := h
  unfold thr at h'
  split at h'
  · cases h'
  · rename_i hz
    unfold mkP at h'
    split at h'
    · cases h'
    · injection h' with h'
      subst h'
      exact ⟨a, b, c, hz, rfl, rfl, rfl⟩
theorem thrs_LR19 {l : List Tr} (hl : RT l) {k : Nat} {P : Pl} (h : P ∈ thrs l k) : LR 19 P.A ∧ LR 19 P.B ∧ LR 19 P.C := by
  obtain ⟨a, b, c, hz, eA, eB, eC⟩ := thrs_at h
  rw [eA, eB, eC]
  have hn := BT.np hl k a b c
  have h1 := hn.cz k
  have h2 := hn.cz (ou k)
  have h3 := hn.cz (ov k)
  have h4 : cz (nP l k a b c) k ≠ 0 := by have := upP_pos (k := k) (n := nvP (gt l a) (gt l b) (gt l c)) hz; unfold nP; omega
  refine ⟨LR_divInt19 ?_ (by omega) h4, LR_divInt19 (by omega) (by omega) h4, LR_divInt19 (by omega) (by omega) h4⟩
  unfold mP
  have hm := bt_dot hn (hl a)
  omega
theorem hgt_LR {l : List Tr} (hl : RT l) {k : Nat} (hk : k < 3) {P : Pl} (h : P ∈ thrs l k) {p : Tr} (hp : BT 100000 p) : LR 19 (hgt k P.A P.B P.C p) := by
  obtain ⟨a, b, c, hz, eA, eB, eC⟩ := thrs_at h
  rw [eA, eB, eC, hgt_eq hk hz, ← divInt_cast]
  have hn := BT.np hl k a b c
  have h1 := hn.cz k
  have h4 : cz (nP l k a b c) k ≠ 0 := by have := upP_pos (k := k) (n := nvP (gt l a) (gt l b) (gt l c)) hz; unfold nP; omega
  refine LR_divInt19 ?_ (by omega) h4
  unfold mP
  have hm := bt_dot hn (hl a)
  have hq := bt_dot hn hp
  omega
theorem cand_thrs {l : List Tr} {k : Nat} {P : Pl} (h : P ∈ candP l k) : P ∈ thrs l k := ((cand_ok l k).2 P).1 h
theorem cand_up {l : List Tr} {k : Nat} {P : Pl} (h : P ∈ thrs l k) {i : Nat} (hi : i < l.length) : 0 ≤ hgt k P.A P.B P.C (gt l i) := by
  have h1 := thr_s h
  unfold mkP at h1
  split at h1
  · cases h1
  · rename_i hl
    by_cases h3 : hgt k P.A P.B P.C (gt l i) < 0
    · exfalso; apply hl
      unfold lowB
      rw [List.any_eq_true]
      exact ⟨i, List.mem_range.2 hi, by simpa using h3⟩
    · grind
theorem cand_on_iff {l : List Tr} {k : Nat} {P : Pl} (h : P ∈ thrs l k) {i : Nat} (hi : i < l.length) : i ∈ P.s ↔ hgt k P.A P.B P.C (gt l i) = 0 := by
  have h1 := thr_s h
  unfold mkP at h1
  split at h1
  · cases h1
  · injection h1 with h1
    rw [← h1]
    show i ∈ onL _ _ _ _ _ _ ↔ _
    unfold onL
    rw [List.mem_filter, List.mem_range]
    simp [hi]
def tsum (c : Nat → Int) (t : Nat → Rat) : Nat → Rat
  | 0 => 0
  | i + 1 => tsum c t i + (c i : Rat) * t i
def frm (k : Nat) (p : Tr) : Nat → Int := match k with
  | 0 => fun i => match i with | 0 => 1 | 4 => p.z | 5 => -p.y | _ => 0
  | 1 => fun i => match i with | 1 => 1 | 3 => -p.z | 5 => p.x | _ => 0
  | _ => fun i => match i with | 2 => 1 | 3 => p.y | 4 => -p.x | _ => 0
def tor6 (k : Nat) (o : Int) (A B C : Rat) : Nat → Rat := match k with
  | 0 => fun i => match i with | 0 => o - A | 4 => -C | 5 => B | _ => 0
  | 1 => fun i => match i with | 1 => o - A | 3 => C | 5 => -B | _ => 0
  | _ => fun i => match i with | 2 => o - A | 3 => -C | 4 => B | _ => 0
theorem tor6_LR {k : Nat} {o : Int} {A B C : Rat} (ho : -100000 ≤ o ∧ o ≤ 100000) (hA : LR 19 A) (hB : LR 19 B) (hC : LR 19 C) (i : Nat) : LR 43 (tor6 k o A B C i) := by
  have h0 : LR 43 (0 : Rat) := by have := LR.int (k := 43) (m := 0) (show (0 : Int).natAbs < 10 ^ 43 by decide) (by decide); simpa using this
  have h1 : LR 43 ((o : Rat) - A) := by
    have := (LR_small ho).mono (l := 19) (by decide)
    exact (this.sub hA).mono (by decide)
  have h2 := hB.mono (l := 43) (by decide)
  have h3 := hC.mono (l := 43) (by decide)
  have h4 := h2.neg
  have h5 := h3.neg
  unfold tor6
  split <;> dsimp only <;> split <;> assumption
theorem moved_eq {k : Nat} (hk : k < 3) (o : Int) (A B C : Rat) (p : Tr) : (cz p k : Rat) + tsum (frm k p) (tor6 k o A B C) 6 = (o : Rat) + hgt k A B C p := by
  rcases (by omega : k = 0 ∨ k = 1 ∨ k = 2) with rfl | rfl | rfl
  · simp only [tsum, frm, tor6, hgt, cz, plc, ou, ov]
    simp only [Rat.intCast_neg]
    grind
  · simp only [tsum, frm, tor6, hgt, cz, plc, ou, ov]
    simp only [Rat.intCast_neg]
    grind
  · simp only [tsum, frm, tor6, hgt, cz, plc, ou, ov]
    simp only [Rat.intCast_neg]
    grind
theorem frm_sm (k : Nat) {p : Tr} (hp : BT 100000 p) (i : Nat) : -100000 ≤ frm k p i ∧ frm k p i ≤ 100000 := by
  have h1 := hp.x
  have h2 := hp.y
  have h3 := hp.z
  unfold frm
  split <;> dsimp only <;> split <;> omega
theorem tsum_LR {c : Nat → Int} {t : Nat → Rat} (hc : ∀ i, -100000 ≤ c i ∧ c i ≤ 100000) (ht : ∀ i, LR 43 (t i)) : ∀ i, LR (50 * i + 1) (tsum c t i)
  | 0 => by have := LR.int (k := 1) (m := 0) (show (0 : Int).natAbs < 10 ^ 1 by decide) (by decide); simpa [tsum] using this
  | i + 1 => LR.mono (LR.add' (tsum_LR hc ht i) (LR.mul' (LR_small (hc i)) (ht i))) (by omega)
end Go.Proofs.YtgepmbjmaljgoaaGreatDoor.H
end
section
namespace Go.Proofs.YtgepmbjmaljgoaaGreatDoor.H
open Go Go.Vc Go.RowKit
open Go.Na (rtx LR chkR_rtx chkR rsg)
set_option maxHeartbeats 4000000
def rngB (L : List Int) (n : Nat) : Bool := (List.range L.length).any fun i => decide (gz L i < 0 ∨ (n : Int) ≤ gz L i)
def ordB (L : List Int) : Bool := (List.range L.length).any fun i => decide (0 < i ∧ gz L i ≤ gz L (i - 1))
def verR (l : List Tr) (k : Nat) (A B C : Rat) (L : List Int) : Int :=
  if rngB L l.length = true then 2 else if ordB L = true then 9 else if lowB l k A B C l.length = true then 15 else
  if collB (plP l k (onL l k A B C l.length)) = true ∨ eqB (fun i => ((gi (onL l k A B C l.length) i : Nat) : Int)) (onL l k A B C l.length).length (gz L) L.length = false then 15 else 0
theorem any_no {p : Nat → Bool} {n : Nat} (h : ∀ i, i < n → p i = false) : (List.range n).any p = false := by
  rw [List.any_eq_false]
  intro i hi
  rw [h i (List.mem_range.1 hi)]; decide
theorem any_yes {p : Nat → Bool} {n i : Nat} (hi : i < n) (h : p i = true) : (List.range n).any p = true := by
  rw [List.any_eq_true]
  exact ⟨i, List.mem_range.2 hi, h⟩
theorem hgt_LR4 {k : Nat} {A B C : Rat} {p : Tr} (hp : BT 100000 p) (hA : LR 43 A) (hB : LR 43 B) (hC : LR 43 C) : LR 400 (hgt k A B C p) := by
  have h0 := LR_small (hp.cz k)
  have h1 := LR.mul' hB (LR_small (hp.cz (ou k)))
  have h2 := LR.mul' hC (LR_small (hp.cz (ov k)))
  have h3 := LR.add' hA (LR.add' h1 h2)
  exact Go.Na.LR.mono (Go.Na.LR.sub (Go.Na.LR.mono (l := 150) h0 (by decide)) (Go.Na.LR.mono (l := 150) h3 (by decide))) (by decide)
theorem onL_succ (l : List Tr) (k : Nat) (A B C : Rat) (n : Nat) : onL l k A B C (n + 1) = if hgt k A B C (gt l n) = 0 then onL l k A B C n ++ [n] else onL l k A B C n := by
  unfold onL
  rw [List.range_succ, List.filter_append]
  by_cases h : hgt k A B C (gt l n) = 0 <;> simp [h]
theorem rowApp_ix (l : List Nat) (p : Nat) (h : Nat → Nat → AV) (hh : ∀ j, h 0 j = vi p) : ∀ i, i < l.length + 1 → ∀ j, j < 1 → rowApp l.length (xf l) h i j = xf (l ++ [p]) i j := by
  intro i hi j _
  unfold rowApp xf gi
  rw [getD_app]
  split
  · rfl
  · have h1 : i = l.length := by omega
    subst h1
    rw [Nat.sub_self, hh]
    simp
theorem Verify_bad1 (l : List Tr) (p : AV) (h : chkT l ≠ 0) (hp : ∃ a A B C s, p = pA a A B C s) : CtrA Tryz.prog 26 [ts l, p] (vi (chkT l)) := by
  obtain ⟨a, A, B, C, s, rfl⟩ := hp
  have h1 := scheck_c l
  refine ctrA _ Tryz.func26 rfl rfl Tryz.ntmps26 rfl fun w Z => ?_
  simp only [initT, zP, zQ, Nat.zero_add, Nat.reduceAdd]
  refine wt ?_
  (refine cq_cond rfl (fun hb => ?_) (fun hb => ?_) <;> (try simp only [zA, zB, zC, zD, zE, zF, zG, zH, zI, zJ, zK, zL, zM, zN, zO] at hb) <;> (try (exfalso; omega)))
  refine wt ?_
  exact sq_res1 rfl (.tmp rfl) rfl
theorem Verify_bad2 (l : List Tr) (a : Int) (A B C : List UInt8) (s : AV) (h : chkT l = 0) (hA : A.length ≤ 400) (hB : B.length ≤ 400) (hC : C.length ≤ 400) (he : plE a A B C ≠ 0) : CtrA Tryz.prog 26 [ts l, pA a A B C s] (vi (plE a A B C)) := by
  have h1 := scheck_c l
  rw [h] at h1
  have hc := plcheck_c a A B C s hA hB hC
  refine ctrA _ Tryz.func26 rfl rfl Tryz.ntmps26 rfl fun w Z => ?_
  simp only [initT, zP, zQ, Nat.zero_add, Nat.reduceAdd]
  refine wt ?_
  refine sq_g (g_load_aggv rfl rfl) rfl ?_
  refine wt ?_
  (refine cq_cond rfl (fun hb => ?_) (fun hb => ?_) <;> (try simp only [zA, zB, zC, zD, zE, zF, zG, zH, zI, zJ, zK, zL, zM, zN, zO] at hb) <;> (try (exfalso; omega)))
  refine wt ?_
  exact sq_res1 rfl (.tmp rfl) rfl
theorem Verify_ok (l : List Tr) (k : Nat) (hk : k < 3) (A B C : Rat) (L : List Int) (hT : chkT l = 0) (hL : L.length ≤ 1000) (hA : LR 43 A) (hB : LR 43 B) (hC : LR 43 C) (lA : (rtx A).length ≤ 400) (lB : (rtx B).length ≤ 400) (lC : (rtx C).length ≤ 400) :
    CtrA Tryz.prog 26 [ts l, pA k (rtx A) (rtx B) (rtx C) (ixs L)] (vi (verR l k A B C L)) := by
  have he : plE k (rtx A) (rtx B) (rtx C) = 0 := by unfold plE; rw [if_neg (fun h => h (by omega)), if_neg (fun h => h (chkR_rtx A)), if_neg (fun h => h (chkR_rtx B)), chkR_rtx]
  have hc := plcheck_c k _ _ _ (ixs L) lA lB lC
  rw [he] at hc
  have h1 := scheck_c l
  rw [hT] at h1
  obtain ⟨hR, h64⟩ := RT.of hT
  refine ctrA _ Tryz.func26 rfl rfl Tryz.ntmps26 rfl fun w Z => ?_
  simp only [initT, zP, zQ, Nat.zero_add, Nat.reduceAdd]
  refine wt ?_
  refine sq_g (g_load_aggv rfl rfl) rfl ?_
  refine wt ?_
  refine cq_loop (γ := Nat) (fun i => [(0, .av (ts l)), (3, .av (.ptr 5 (pAf k (rtx A) (rtx B) (rtx C) (ixs L)))), (31, .av (ixs L)), (32, .av (vi L.length)), (33, .av (vi i))]) (fun _ => []) (fun i => i ≤ L.length ∧ ∀ j, j < i → ¬ (gz L j < 0 ∨ (l.length : Int) ≤ gz L j)) (fun i => L.length - i) 0 ⟨Nat.zero_le _, by omega⟩ (ent ⟨.refl _, .refl _, .refl _, .refl _, .refl _, trivial⟩ trivial) ?_
  rintro i ⟨hi, hno⟩
  refine wt ?_
  (refine cq_cond rfl (fun hb => ?_) (fun hb => ?_) <;> (try simp only [zA, zB, zC, zD, zE, zF, zG, zH, zI, zJ, zK, zL, zM, zN, zO] at hb) <;> (try (exfalso; omega)))
  · have hil : i < L.length := by omega
    (refine wt ?_; repeat' (((first | refine sq_split rfl rfl (fun hb => ?_) (fun hb => ?_) | refine dq_split rfl rfl (fun hb => ?_) (fun hb => ?_)) <;> (try simp only [zA, zB, zC, zD, zE, zF, zG, zH, zI, zJ, zK, zL, zM, zN, zO] at hb) <;> (try (exfalso; omega))) <;> refine wt ?_))
    · have hr : rngB L l.length = true := any_yes hil (decide_eq_true (.inl hb))
      exact sq_res1 rfl (.tmp rfl) (congrArg vi (by unfold verR; rw [if_pos hr]))
    · (refine cq_cond rfl (fun hb => ?_) (fun hb => ?_) <;> (try simp only [zA, zB, zC, zD, zE, zF, zG, zH, zI, zJ, zK, zL, zM, zN, zO] at hb) <;> (try (exfalso; omega)))
      · have hr : rngB L l.length = true := any_yes hil (decide_eq_true (.inr hb))
        refine wt ?_
        exact sq_res1 rfl (.tmp rfl) (congrArg vi (by unfold verR; rw [if_pos hr]))
      · refine wt ?_
        exact sq_round (i + 1) ⟨by omega, fun j hj => by
          by_cases e : j = i
          · subst e; omega
          · exact hno j (by omega)⟩ (by omega) (ent ⟨.refl _, .refl _, .refl _, .refl _, .int (by omega), trivial⟩ trivial)
  · have hil : i = L.length := by omega
    subst hil
    have hr : rngB L l.length = false := any_no fun j hj => decide_eq_false (hno j hj)
    refine wt ?_
    refine cq_loop (γ := Nat) (fun i => [(0, .av (ts l)), (3, .av (.ptr 5 (pAf k (rtx A) (rtx B) (rtx C) (ixs L)))), (47, .av (ixs L)), (48, .av (vi L.length)), (49, .av (vi i))]) (fun _ => []) (fun i => i ≤ L.length ∧ ∀ j, 0 < j → j < i → gz L (j - 1) < gz L j) (fun i => L.length - i) 0 ⟨Nat.zero_le _, by omega⟩ (ent ⟨.refl _, .refl _, .refl _, .refl _, .refl _, trivial⟩ trivial) ?_
    clear hno
    rintro i ⟨hi, hno⟩
    refine wt ?_
    (refine cq_cond rfl (fun hb => ?_) (fun hb => ?_) <;> (try simp only [zA, zB, zC, zD, zE, zF, zG, zH, zI, zJ, zK, zL, zM, zN, zO] at hb) <;> (try (exfalso; omega)))
    · have hil : i < L.length := by omega
      (refine wt ?_; repeat' (((first | refine sq_split rfl rfl (fun hb => ?_) (fun hb => ?_) | refine dq_split rfl rfl (fun hb => ?_) (fun hb => ?_)) <;> (try simp only [zA, zB, zC, zD, zE, zF, zG, zH, zI, zJ, zK, zL, zM, zN, zO] at hb) <;> (try (exfalso; omega))) <;> refine wt ?_))
      · have e0 : ((i : Int) - 1).toNat = i - 1 := by omega
        rw [e0]
        (refine cq_cond rfl (fun hb => ?_) (fun hb => ?_) <;> (try simp only [zA, zB, zC, zD, zE, zF, zG, zH, zI, zJ, zK, zL, zM, zN, zO] at hb) <;> (try (exfalso; omega)))
        · have ho : ordB L = true := any_yes hil (decide_eq_true ⟨by omega, hb⟩)
          refine wt ?_
          exact sq_res1 rfl (.tmp rfl) (congrArg vi (by unfold verR; rw [if_neg (by rw [hr]; decide), if_pos ho]))
        · refine wt ?_
          exact sq_round (i + 1) ⟨by omega, fun j h0 hj => by
            by_cases e : j = i
            · subst e; omega
            · exact hno j h0 (by omega)⟩ (by omega) (ent ⟨.refl _, .refl _, .refl _, .refl _, .int (by omega), trivial⟩ trivial)
      · exact sq_round (i + 1) ⟨by omega, fun j h0 hj => by omega⟩ (by omega) (ent ⟨.refl _, .refl _, .refl _, .refl _, .int (by omega), trivial⟩ trivial)
    · have hil : i = L.length := by omega
      subst hil
      have ho : ordB L = false := any_no fun j hj => decide_eq_false (fun h => by have := hno j h.1 hj; omega)
      have hv : verR l k A B C L = if lowB l k A B C l.length = true then 15 else
          if collB (plP l k (onL l k A B C l.length)) = true ∨ eqB (fun i => ((gi (onL l k A B C l.length) i : Nat) : Int)) (onL l k A B C l.length).length (gz L) L.length = false then 15 else 0 := by
        unfold verR; rw [if_neg (by rw [hr]; decide), if_neg (by rw [ho]; decide)]
      refine wt ?_
      refine cq_loop (γ := Nat) (fun i => [(0, .av (ts l)), (3, .av (.ptr 5 (pAf k (rtx A) (rtx B) (rtx C) (ixs L)))), (11, .osl 20), (12, .osl 21), (67, .av (ts l)), (68, .av (vi l.length)), (69, .av (vi i))])
        (fun i => [(20, .row 3 1 (onL l k A B C i).length (xf (onL l k A B C i))), (21, .row 38 2 (plP l k (onL l k A B C i)).length (pf (plP l k (onL l k A B C i))))]) (fun i => i ≤ l.length ∧ lowB l k A B C i = false) (fun i => l.length - i) 0 ⟨Nat.zero_le _, rfl⟩
        ((ent_row (dd := 11) 20 3 1 (xf []) rfl rfl).trans ((ent_row (dd := 12) 21 38 2 (pf []) rfl rfl).trans (ent ⟨.refl _, .refl _, .refl _, .refl _, .refl _, .refl _, .refl _, trivial⟩ ⟨⟨_, rfl, .refl _⟩, ⟨_, rfl, .refl _⟩, trivial⟩))) ?_
      clear hno
      rintro i ⟨hi, hlo⟩
      refine wt ?_
      (refine cq_cond rfl (fun hb => ?_) (fun hb => ?_) <;> (try simp only [zA, zB, zC, zD, zE, zF, zG, zH, zI, zJ, zK, zL, zM, zN, zO] at hb) <;> (try (exfalso; omega)))
      · have hil : i < l.length := by omega
        have hh := height_c k hk A B C (ixs L) (gt l i) (hR i) hA hB hC
        have hsg := rat_sign (hgt k A B C (gt l i)) (Go.Na.LR.mono (hgt_LR4 (hR i) hA hB hC) (by decide))
        refine wt ?_
        refine sq_g (g_load_aggv rfl rfl) rfl ?_
        refine wt ?_
        (refine cq_cond rfl (fun hb => ?_) (fun hb => ?_) <;> (try simp only [zA, zB, zC, zD, zE, zF, zG, zH, zI, zJ, zK, zL, zM, zN, zO] at hb) <;> (try (exfalso; omega)))
        · have hlow : lowB l k A B C l.length = true := any_yes hil (decide_eq_true (Go.Proofs.YtgepmbjmaljgoaaGreatDoor.H.rsg_neg.1 hb))
          refine wt ?_
          exact sq_res1 rfl (.tmp rfl) (by rw [hv, if_pos hlow])
        · have hnn : ¬ hgt k A B C (gt l i) < 0 := fun h => hb (rsg_neg.2 h)
          have hl1 : lowB l k A B C (i + 1) = false := by
            unfold lowB at hlo ⊢
            rw [List.range_succ, List.any_append, hlo]
            simp [hnn]
          refine wt ?_
          (refine cq_cond rfl (fun hb => ?_) (fun hb => ?_) <;> (try simp only [zA, zB, zC, zD, zE, zF, zG, zH, zI, zJ, zK, zL, zM, zN, zO] at hb) <;> (try (exfalso; omega)))
          · have hz : hgt k A B C (gt l i) = 0 := rsg_zero.1 hb
            have hon : onL l k A B C (i + 1) = onL l k A B C i ++ [i] := by rw [onL_succ, if_pos hz]
            have hpl : plP l k (onL l k A B C (i + 1)) = plP l k (onL l k A B C i) ++ [plc k (gt l i)] := by rw [hon]; unfold plP; rw [List.map_append]; rfl
            have hlen := onL_len' l k A B C i
            have hle : (plP l k (onL l k A B C i)).length = (onL l k A B C i).length := by simp [plP]
            have hpc := place_c (gt l i) hk
            refine cq_open 20 rfl (fun h0 => ?_) (fun b cap hle => ?_)
            · have hn0 : onL l k A B C i = [] := List.length_eq_zero_iff.1 h0
              refine wt ?_
              have hrow0 : ∀ i', i' < 1 → ∀ j', j' < 1 → xf [i] i' j' = xf (onL l k A B C (i + 1)) i' j' := by rw [hon, hn0]; intros; rfl
              refine dq_v (ga_app_nil (m := 1) 20 rfl rfl (fun _ _ _ _ => rfl) (by decide) (by decide) (by decide)) rfl rfl ?_
              refine wt ?_
              refine dq_tail rfl rfl ?_
              refine wt ?_
              exact sq_round (i + 1) ⟨by omega, hl1⟩ (by omega) (ent ⟨.refl _, .refl _, .refl _, .refl _, .refl _, .refl _, .int (by omega), trivial⟩ ⟨⟨_, rfl, .row (by rw [hon, hn0]; try rfl) hrow0⟩, ⟨_, rfl, .row (by rw [hpl, List.length_append]; try rfl) (fun _ _ _ _ => by rw [hpl])⟩, trivial⟩)
            · by_cases hfull : cap < (onL l k A B C i).length + 1
              · refine wt ?_
                refine dq_v (ga_app_full (q := 20) (m := 1) 120 rfl rfl rfl (fun _ _ _ _ => rfl) (by decide) hfull (by simp only [maxLen]; omega) (by omega)) rfl rfl ?_
                refine wt ?_
                refine dq_tail rfl rfl ?_
                refine wt ?_
                exact sq_round (i + 1) ⟨by omega, hl1⟩ (by omega) (Ent.trans (ent (T' := [(0, .av (ts l)), (3, .av (.ptr 5 (pAf k (rtx A) (rtx B) (rtx C) (ixs L)))), (11, .osl 120), (12, .osl 21), (67, .av (ts l)), (68, .av (vi l.length)), (69, .av (vi ((i + 1 : Nat) : Int)))]) (O' := [(120, .row 3 1 (onL l k A B C (i + 1)).length (xf (onL l k A B C (i + 1)))), (21, .row 38 2 (plP l k (onL l k A B C (i + 1))).length (pf (plP l k (onL l k A B C (i + 1)))))]) ⟨.refl _, .refl _, .refl _, .refl _, .refl _, .refl _, .int (by omega), trivial⟩ ⟨⟨_, rfl, .row (by rw [hon, List.length_append]; try rfl) (fun i' hi' j' hj' => by rw [hon]; exact rowApp_ix _ _ _ (fun _ => rfl) i' hi' j' hj')⟩, ⟨_, rfl, .row (by rw [hpl, List.length_append]; try rfl) (fun _ _ _ _ => by rw [hpl])⟩, trivial⟩) (ent_ren [(20, 120)] ⟨rfl, rfl, rfl, rfl, rfl, rfl, rfl, trivial⟩ ⟨rfl, rfl, trivial⟩ rfl rfl))
              · refine wt ?_
                refine dq_call_h (g_app_room (q := 20) (m := 1) (bytes := 8) rfl rfl rfl (fun _ _ _ _ => rfl) (by decide) (Nat.le_of_not_lt hfull) (by simp only [maxLen]; omega) (by omega)) rfl ?_
                refine wt ?_
                refine dq_tail rfl rfl ?_
                refine wt ?_
                exact sq_round (i + 1) ⟨by omega, hl1⟩ (by omega) (Ent.trans (ent_close 11 20 rfl rfl) (ent ⟨.refl _, .refl _, .refl _, .refl _, .refl _, .refl _, .int (by omega), trivial⟩ ⟨⟨_, rfl, .row (by rw [hon, List.length_append]; try rfl) (fun i' hi' j' hj' => by rw [hon]; exact rowApp_ix _ _ _ (fun _ => rfl) i' hi' j' hj')⟩, ⟨_, rfl, .row (by rw [hpl, List.length_append]; try rfl) (fun _ _ _ _ => by rw [hpl])⟩, trivial⟩))
          · have hz : ¬ hgt k A B C (gt l i) = 0 := fun h => hb (rsg_zero.2 h)
            have hon : onL l k A B C (i + 1) = onL l k A B C i := by rw [onL_succ, if_neg hz]
            refine wt ?_
            exact sq_round (i + 1) ⟨by omega, hl1⟩ (by omega) (ent ⟨.refl _, .refl _, .refl _, .refl _, .refl _, .refl _, .int (by omega), trivial⟩ ⟨⟨_, rfl, .row (by rw [hon]) (fun _ _ _ _ => by rw [hon])⟩, ⟨_, rfl, .row (by rw [hon]) (fun _ _ _ _ => by rw [hon])⟩, trivial⟩)
      · have hil : i = l.length := by omega
        subst hil
        refine cq_more ((ent_freeze 20 rfl).trans (ent_freeze 21 rfl)) ?_
        have hck : chk (plP l k (onL l k A B C l.length)) = 0 := chk_plP hR k (by have := onL_len' l k A B C l.length; omega)
        have hco := coll_c (plP l k (onL l k A B C l.length))
        rw [show collE (plP l k (onL l k A B C l.length)) = collB (plP l k (onL l k A B C l.length)) by unfold collE; rw [if_pos hck], hck] at hco
        have heq := equal_c (fun i => ((gi (onL l k A B C l.length) i : Nat) : Int)) (gz L) (onL l k A B C l.length).length L.length (by have := onL_len' l k A B C l.length; omega)
        refine wt ?_
        cases hcb : collB (plP l k (onL l k A B C l.length)) with
        | true =>
          rw [hcb] at hv
          refine wt ?_
          exact sq_res1 rfl (.tmp rfl) (by rw [hv, if_neg (by rw [hlo]; decide), if_pos (.inl rfl)])
        | false =>
          rw [hcb] at hv
          refine wt ?_
          (refine cq_cond rfl (fun hb => ?_) (fun hb => ?_) <;> (try simp only [zA, zB, zC, zD, zE, zF, zG, zH, zI, zJ, zK, zL, zM, zN, zO] at hb) <;> (try (exfalso; omega)))
          · refine wt ?_
            exact sq_res1 rfl (.tmp rfl) (by rw [hv, if_neg (by rw [hlo]; decide), if_pos (.inr hb)])
          · refine wt ?_
            exact sq_res1 rfl (.tmp rfl) (by rw [hv, if_neg (by rw [hlo]; decide), if_neg (fun h => h.elim (fun h => by cases h) (fun h => by rw [hb] at h; cases h))])
end Go.Proofs.YtgepmbjmaljgoaaGreatDoor.H
end
section
namespace Go.Proofs.YtgepmbjmaljgoaaGreatDoor.H
open Go Go.Vc Go.RowKit
open Go.Na (rtx LR chkR_rtx chkR rsg)
set_option maxHeartbeats 4000000
theorem same_c (f g : Nat → Int) (m n : Nat) (hm : m ≤ 1000000) (hn : n ≤ 1000000) : CtrA Tryz.prog 54 [.sl m 1 (fun i _ => vi (f i)), .sl n 1 (fun i _ => vi (g i))] (vb (eqB f m g n)) := by
  refine ctrA _ Tryz.func54 rfl rfl Tryz.ntmps54 rfl fun w Z => ?_
  simp only [initT, zP, zQ, Nat.zero_add, Nat.reduceAdd]
  refine wt ?_
  (refine cq_cond rfl (fun hb => ?_) (fun hb => ?_) <;> (try simp only [zA, zB, zC, zD, zE, zF, zG, zH, zI, zJ, zK, zL, zM, zN, zO] at hb) <;> (try (exfalso; omega)))
  · refine wt ?_
    exact sq_res1 rfl (.tmp rfl) (congrArg vb (by unfold eqB; rw [decide_eq_false (by omega)]; rfl))
  · have hmn : m = n := by omega
    subst hmn
    refine wt ?_
    refine cq_loop (γ := Nat) (fun i => [(0, .av (.sl m 1 (fun i _ => vi (f i)))), (1, .av (.sl m 1 (fun i _ => vi (g i)))), (5, .av (vi i))]) (fun _ => []) (fun i => i ≤ m ∧ ∀ j, j < i → f j = g j) (fun i => m - i) 0 ⟨Nat.zero_le _, by omega⟩ (ent ⟨.refl _, .refl _, .refl _, trivial⟩ trivial) ?_
    rintro i ⟨hi, he⟩
    refine wt ?_
    (refine cq_cond rfl (fun hb => ?_) (fun hb => ?_) <;> (try simp only [zA, zB, zC, zD, zE, zF, zG, zH, zI, zJ, zK, zL, zM, zN, zO] at hb) <;> (try (exfalso; omega)))
    · have hil : i < m := by omega
      refine wt ?_
      (refine cq_cond rfl (fun hb => ?_) (fun hb => ?_) <;> (try simp only [zA, zB, zC, zD, zE, zF, zG, zH, zI, zJ, zK, zL, zM, zN, zO] at hb) <;> (try (exfalso; omega)))
      · refine wt ?_
        exact sq_res1 rfl (.tmp rfl) (congrArg vb (by
          unfold eqB
          have : (List.range m).all (fun i => decide (f i = g i)) = false := by
            rw [List.all_eq_false]
            exact ⟨i, by simpa using hil, by simpa using hb⟩
          rw [this, Bool.and_false]))
      · refine wt ?_
        exact sq_round (i + 1) ⟨by omega, fun j hj => by
          by_cases e : j = i
          · subst e; exact hb
          · exact he j (by omega)⟩ (by omega) (ent ⟨.refl _, .refl _, .int (by omega), trivial⟩ trivial)
    · have hil : i = m := by omega
      subst hil
      refine wt ?_
      exact sq_res1 rfl (.tmp rfl) (congrArg vb (by
        unfold eqB
        have : (List.range i).all (fun i => decide (f i = g i)) = true := by
          rw [List.all_eq_true]
          intro j hj
          simpa using he j (by simpa using hj)
        rw [this, decide_eq_true rfl]; rfl))
theorem LR0'9 : LR 900 0 := ⟨Go.Na.LI.small (by decide) (by decide), Go.Na.LI.small (by decide) (by decide)⟩
theorem touching_no (l : List Tr) (k : Nat) (hk : k < 3) (A B C : Rat) (s : AV) (hR : RT l) (hn : l.length ≤ 1000) (hA : LR 43 A) (hB : LR 43 B) (hC : LR 43 C) (hlow : lowB l k A B C l.length = true) :
    CtrA Tryz.prog 69 [pA k (rtx A) (rtx B) (rtx C) s, ts l] (tupOf [.val (.slice none 0 0), vb false]) := by
  refine ctrA _ Tryz.func69 rfl rfl Tryz.ntmps69 rfl fun w Z => ?_
  simp only [initT, zP, zQ, Nat.zero_add, Nat.reduceAdd]
  refine wt ?_
  refine cq_loop (γ := Nat) (fun i => [(1, .av (ts l)), (2, .av (.ptr 5 (pAf k (rtx A) (rtx B) (rtx C) s))), (6, .osl 20), (7, .av (vi i))])
    (fun i => [(20, .row 3 1 (onL l k A B C i).length (xf (onL l k A B C i)))]) (fun i => i ≤ l.length ∧ lowB l k A B C i = false) (fun i => l.length - i) 0 ⟨Nat.zero_le _, rfl⟩
    ((ent_row (dd := 6) 20 3 1 (xf []) rfl rfl).trans (ent ⟨.refl _, .refl _, .refl _, .refl _, trivial⟩ ⟨⟨_, rfl, .refl _⟩, trivial⟩)) ?_
  rintro i ⟨hi, hlo⟩
  have hlen := onL_len' l k A B C i
  refine wt ?_
  (refine cq_cond rfl (fun hb => ?_) (fun hb => ?_) <;> (try simp only [zA, zB, zC, zD, zE, zF, zG, zH, zI, zJ, zK, zL, zM, zN, zO] at hb) <;> (try (exfalso; omega)))
  · have hil : i < l.length := by omega
    have hh := above_c k hk A B C s (gt l i) (hR i) hA hB hC
    have ho := reforder_c (hgt k A B C (gt l i)) 0 (Go.Na.LR.mono (hgt_LR4 (hR i) hA hB hC) (by decide)) LR0'9
    rw [show vR 0 = vS [48] from congrArg vS rtx_0, show hgt k A B C (gt l i) - 0 = hgt k A B C (gt l i) by grind] at ho
    refine wt ?_
    refine dq_g (g_load_aggv rfl rfl) rfl ?_
    refine wt ?_
    (refine cq_cond rfl (fun hb => ?_) (fun hb => ?_) <;> (try simp only [zA, zB, zC, zD, zE, zF, zG, zH, zI, zJ, zK, zL, zM, zN, zO] at hb) <;> (try (exfalso; omega)))
    · refine wt ?_
      exact sq_resN (rvs := [_, _]) (τs := [_, _]) rfl rfl ⟨.tmp rfl, .tmp rfl, trivial⟩ rfl
    · have hnn : ¬ hgt k A B C (gt l i) < 0 := fun h => hb (rsg_neg.2 h)
      have hl1 : lowB l k A B C (i + 1) = false := by
        unfold lowB at hlo ⊢
        rw [List.range_succ, List.any_append, hlo]
        simp [hnn]
      refine wt ?_
      (refine cq_cond rfl (fun hb => ?_) (fun hb => ?_) <;> (try simp only [zA, zB, zC, zD, zE, zF, zG, zH, zI, zJ, zK, zL, zM, zN, zO] at hb) <;> (try (exfalso; omega)))
      · have hz : hgt k A B C (gt l i) = 0 := rsg_zero.1 hb
        have hon : onL l k A B C (i + 1) = onL l k A B C i ++ [i] := by rw [onL_succ, if_pos hz]
        refine wt ?_
        exact sq_round (i + 1) ⟨by omega, hl1⟩ (by omega) (ent ⟨.refl _, .refl _, .refl _, .int (by omega), trivial⟩ ⟨⟨_, rfl, .row (by rw [hon]) (fun _ _ _ _ => by rw [hon])⟩, trivial⟩)
      · have hz : ¬ hgt k A B C (gt l i) = 0 := fun h => hb (rsg_zero.2 h)
        have hon : onL l k A B C (i + 1) = onL l k A B C i := by rw [onL_succ, if_neg hz]
        refine wt ?_
        exact sq_round (i + 1) ⟨by omega, hl1⟩ (by omega) (ent ⟨.refl _, .refl _, .refl _, .int (by omega), trivial⟩ ⟨⟨_, rfl, .row (by rw [hon]) (fun _ _ _ _ => by rw [hon])⟩, trivial⟩)
  · have hil : i = l.length := by omega
    subst hil
    rw [hlo] at hlow; cases hlow
theorem touching_ok (l : List Tr) (k : Nat) (hk : k < 3) (A B C : Rat) (s : AV) (hR : RT l) (hn : l.length ≤ 1000) (hA : LR 43 A) (hB : LR 43 B) (hC : LR 43 C) (hlow : lowB l k A B C l.length = false) :
    CtrR Tryz.prog 69 [pA k (rtx A) (rtx B) (rtx C) s, ts l] 3 1 (onL l k A B C l.length).length (xf (onL l k A B C l.length)) [vb true] := by
  refine ctrR _ Tryz.func69 rfl rfl Tryz.ntmps69 rfl fun w Z => ?_
  simp only [initT, zP, zQ, Nat.zero_add, Nat.reduceAdd]
  refine wt ?_
  refine cq_loop (γ := Nat) (fun i => [(1, .av (ts l)), (2, .av (.ptr 5 (pAf k (rtx A) (rtx B) (rtx C) s))), (6, .osl 20), (7, .av (vi i))])
    (fun i => [(20, .row 3 1 (onL l k A B C i).length (xf (onL l k A B C i)))]) (fun i => i ≤ l.length ∧ lowB l k A B C i = false) (fun i => l.length - i) 0 ⟨Nat.zero_le _, rfl⟩
    ((ent_row (dd := 6) 20 3 1 (xf []) rfl rfl).trans (ent ⟨.refl _, .refl _, .refl _, .refl _, trivial⟩ ⟨⟨_, rfl, .refl _⟩, trivial⟩)) ?_
  rintro i ⟨hi, hlo⟩
  have hlen := onL_len' l k A B C i
  refine wt ?_
  (refine cq_cond rfl (fun hb => ?_) (fun hb => ?_) <;> (try simp only [zA, zB, zC, zD, zE, zF, zG, zH, zI, zJ, zK, zL, zM, zN, zO] at hb) <;> (try (exfalso; omega)))
  · have hil : i < l.length := by omega
    have hh := above_c k hk A B C s (gt l i) (hR i) hA hB hC
    have ho := reforder_c (hgt k A B C (gt l i)) 0 (Go.Na.LR.mono (hgt_LR4 (hR i) hA hB hC) (by decide)) LR0'9
    rw [show vR 0 = vS [48] from congrArg vS rtx_0, show hgt k A B C (gt l i) - 0 = hgt k A B C (gt l i) by grind] at ho
    refine wt ?_
    refine dq_g (g_load_aggv rfl rfl) rfl ?_
    refine wt ?_
    (refine cq_cond rfl (fun hb => ?_) (fun hb => ?_) <;> (try simp only [zA, zB, zC, zD, zE, zF, zG, zH, zI, zJ, zK, zL, zM, zN, zO] at hb) <;> (try (exfalso; omega)))
    · exfalso
      have := any_yes (p := fun i => decide (hgt k A B C (gt l i) < 0)) hil (decide_eq_true (rsg_neg.1 hb))
      unfold lowB at hlow
      rw [hlow] at this; cases this
    · have hnn : ¬ hgt k A B C (gt l i) < 0 := fun h => hb (rsg_neg.2 h)
      have hl1 : lowB l k A B C (i + 1) = false := by
        unfold lowB at hlo ⊢
        rw [List.range_succ, List.any_append, hlo]
        simp [hnn]
      refine wt ?_
      (refine cq_cond rfl (fun hb => ?_) (fun hb => ?_) <;> (try simp only [zA, zB, zC, zD, zE, zF, zG, zH, zI, zJ, zK, zL, zM, zN, zO] at hb) <;> (try (exfalso; omega)))
      · have hz : hgt k A B C (gt l i) = 0 := rsg_zero.1 hb
        have hon : onL l k A B C (i + 1) = onL l k A B C i ++ [i] := by rw [onL_succ, if_pos hz]
        refine wt ?_
        exact sq_round (i + 1) ⟨by omega, hl1⟩ (by omega) (ent ⟨.refl _, .refl _, .refl _, .int (by omega), trivial⟩ ⟨⟨_, rfl, .row (by rw [hon]) (fun _ _ _ _ => by rw [hon])⟩, trivial⟩)
      · have hz : ¬ hgt k A B C (gt l i) = 0 := fun h => hb (rsg_zero.2 h)
        have hon : onL l k A B C (i + 1) = onL l k A B C i := by rw [onL_succ, if_neg hz]
        refine wt ?_
        exact sq_round (i + 1) ⟨by omega, hl1⟩ (by omega) (ent ⟨.refl _, .refl _, .refl _, .int (by omega), trivial⟩ ⟨⟨_, rfl, .row (by rw [hon]) (fun _ _ _ _ => by rw [hon])⟩, trivial⟩)
  · have hil : i = l.length := by omega
    subst hil
    refine wt ?_
    exact sq_retRN (rvs := []) (τs := [vb true]) rfl rfl rfl rfl (fun _ _ _ _ => rfl) ⟨.tmp rfl, trivial⟩ rfl
theorem rVerify_bad1 (l : List Tr) (a : Int) (A B C : List UInt8) (s : AV) (hn : l.length ≤ 1000) (h : chkT l ≠ 0) : CtrA Tryz.prog 27 [ts l, pA a A B C s] (vi (chkT l)) := by
  have h1 := rscheck_c l hn
  refine ctrA _ Tryz.func27 rfl rfl Tryz.ntmps27 rfl fun w Z => ?_
  simp only [initT, zP, zQ, Nat.zero_add, Nat.reduceAdd]
  refine wt ?_
  (refine cq_cond rfl (fun hb => ?_) (fun hb => ?_) <;> (try simp only [zA, zB, zC, zD, zE, zF, zG, zH, zI, zJ, zK, zL, zM, zN, zO] at hb) <;> (try (exfalso; omega)))
  refine wt ?_
  exact sq_res1 rfl (.tmp rfl) rfl
theorem rVerify_bad2 (l : List Tr) (a : Int) (A B C : List UInt8) (s : AV) (hn : l.length ≤ 1000) (h : chkT l = 0) (hA : A.length ≤ 400) (hB : B.length ≤ 400) (hC : C.length ≤ 400) (he : plE a A B C ≠ 0) : CtrA Tryz.prog 27 [ts l, pA a A B C s] (vi (plE a A B C)) := by
  have h1 := rscheck_c l hn
  rw [h] at h1
  have hc := rplE_c a A B C s hA hB hC
  refine ctrA _ Tryz.func27 rfl rfl Tryz.ntmps27 rfl fun w Z => ?_
  simp only [initT, zP, zQ, Nat.zero_add, Nat.reduceAdd]
  refine wt ?_
  refine sq_g (g_load_aggv rfl rfl) rfl ?_
  refine wt ?_
  (refine cq_cond rfl (fun hb => ?_) (fun hb => ?_) <;> (try simp only [zA, zB, zC, zD, zE, zF, zG, zH, zI, zJ, zK, zL, zM, zN, zO] at hb) <;> (try (exfalso; omega)))
  refine wt ?_
  exact sq_res1 rfl (.tmp rfl) rfl
theorem rVerify_ok (l : List Tr) (k : Nat) (hk : k < 3) (A B C : Rat) (L : List Int) (hT : chkT l = 0) (hL : L.length ≤ 1000) (hA : LR 43 A) (hB : LR 43 B) (hC : LR 43 C) (lA : (rtx A).length ≤ 400) (lB : (rtx B).length ≤ 400) (lC : (rtx C).length ≤ 400) :
    CtrA Tryz.prog 27 [ts l, pA k (rtx A) (rtx B) (rtx C) (ixs L)] (vi (verR l k A B C L)) := by
  have he : plE k (rtx A) (rtx B) (rtx C) = 0 := by unfold plE; rw [if_neg (fun h => h (by omega)), if_neg (fun h => h (chkR_rtx A)), if_neg (fun h => h (chkR_rtx B)), chkR_rtx]
  obtain ⟨hR, h64⟩ := RT.of hT
  have hc := rplE_c k _ _ _ (ixs L) lA lB lC
  rw [he] at hc
  have h1 := rscheck_c l (by omega)
  rw [hT] at h1
  refine ctrA _ Tryz.func27 rfl rfl Tryz.ntmps27 rfl fun w Z => ?_
  simp only [initT, zP, zQ, Nat.zero_add, Nat.reduceAdd]
  refine wt ?_
  refine sq_g (g_load_aggv rfl rfl) rfl ?_
  refine wt ?_
  refine cq_loop (γ := Nat) (fun i => [(0, .av (ts l)), (3, .av (.ptr 5 (pAf k (rtx A) (rtx B) (rtx C) (ixs L)))), (7, .av (vi i))]) (fun _ => []) (fun i => i ≤ L.length ∧ ∀ j, j < i → ¬ (gz L j < 0 ∨ (l.length : Int) ≤ gz L j)) (fun i => L.length - i) 0 ⟨Nat.zero_le _, by omega⟩ (ent ⟨.refl _, .refl _, .refl _, trivial⟩ trivial) ?_
  rintro i ⟨hi, hno⟩
  refine wt ?_
  (refine cq_cond rfl (fun hb => ?_) (fun hb => ?_) <;> (try simp only [zA, zB, zC, zD, zE, zF, zG, zH, zI, zJ, zK, zL, zM, zN, zO] at hb) <;> (try (exfalso; omega)))
  · have hil : i < L.length := by omega
    (refine wt ?_; repeat' (((first | refine sq_split rfl rfl (fun hb => ?_) (fun hb => ?_) | refine dq_split rfl rfl (fun hb => ?_) (fun hb => ?_)) <;> (try simp only [zA, zB, zC, zD, zE, zF, zG, zH, zI, zJ, zK, zL, zM, zN, zO] at hb) <;> (try (exfalso; omega))) <;> refine wt ?_))
    · have hr : rngB L l.length = true := any_yes hil (decide_eq_true (.inl hb))
      exact sq_res1 rfl (.tmp rfl) (congrArg vi (by unfold verR; rw [if_pos hr]))
    · (refine cq_cond rfl (fun hb => ?_) (fun hb => ?_) <;> (try simp only [zA, zB, zC, zD, zE, zF, zG, zH, zI, zJ, zK, zL, zM, zN, zO] at hb) <;> (try (exfalso; omega)))
      · have hr : rngB L l.length = true := any_yes hil (decide_eq_true (.inr hb))
        refine wt ?_
        exact sq_res1 rfl (.tmp rfl) (congrArg vi (by unfold verR; rw [if_pos hr]))
      · refine wt ?_
        exact sq_round (i + 1) ⟨by omega, fun j hj => by
          by_cases e : j = i
          · subst e; omega
          · exact hno j (by omega)⟩ (by omega) (ent ⟨.refl _, .refl _, .int (by omega), trivial⟩ trivial)
  · have hil : i = L.length := by omega
    subst hil
    have hr : rngB L l.length = false := any_no fun j hj => decide_eq_false (hno j hj)
    refine wt ?_
    refine cq_loop (γ := Nat) (fun i => [(0, .av (ts l)), (3, .av (.ptr 5 (pAf k (rtx A) (rtx B) (rtx C) (ixs L)))), (8, .av (vi ((i + 1 : Nat) : Int)))]) (fun _ => []) (fun i => (i = 0 ∨ i < L.length) ∧ ∀ j, 0 < j → j ≤ i → gz L (j - 1) < gz L j) (fun i => L.length - i) 0 ⟨.inl rfl, by omega⟩ (ent ⟨.refl _, .refl _, .int (by omega), trivial⟩ trivial) ?_
    clear hno
    rintro i ⟨hi, hno⟩
    refine wt ?_
    (refine cq_cond rfl (fun hb => ?_) (fun hb => ?_) <;> (try simp only [zA, zB, zC, zD, zE, zF, zG, zH, zI, zJ, zK, zL, zM, zN, zO] at hb) <;> (try (exfalso; omega)))
    · have hil : i + 1 < L.length := by omega
      refine wt ?_
      have e0 : (((i + 1 : Nat) : Int) - 1).toNat = i := by omega
      rw [e0]
      (refine cq_cond rfl (fun hb => ?_) (fun hb => ?_) <;> (try simp only [zA, zB, zC, zD, zE, zF, zG, zH, zI, zJ, zK, zL, zM, zN, zO] at hb) <;> (try (exfalso; omega)))
      · have ho : ordB L = true := any_yes hil (decide_eq_true ⟨by omega, hb⟩)
        refine wt ?_
        exact sq_res1 rfl (.tmp rfl) (congrArg vi (by unfold verR; rw [if_neg (by rw [hr]; decide), if_pos ho]))
      · refine wt ?_
        exact sq_round (i + 1) ⟨by omega, fun j h0 hj => by
          by_cases e : j = i + 1
          · subst e; rw [Nat.add_sub_cancel]; omega
          · exact hno j h0 (by omega)⟩ (by omega) (ent ⟨.refl _, .refl _, .int (by omega), trivial⟩ trivial)
    · have ho : ordB L = false := any_no fun j hj => decide_eq_false (fun h => by have := hno j h.1 (by omega); omega)
      have hv : verR l k A B C L = if lowB l k A B C l.length = true then 15 else
          if collB (plP l k (onL l k A B C l.length)) = true ∨ eqB (fun i => ((gi (onL l k A B C l.length) i : Nat) : Int)) (onL l k A B C l.length).length (gz L) L.length = false then 15 else 0 := by
        unfold verR; rw [if_neg (by rw [hr]; decide), if_neg (by rw [ho]; decide)]
      cases hlow : lowB l k A B C l.length with
      | true =>
        have htn := touching_no l k hk A B C (ixs L) hR (by omega) hA hB hC hlow
        rw [if_pos hlow] at hv
        refine wt ?_
        refine sq_g (g_load_aggv rfl rfl) rfl ?_
        refine wt ?_
        exact sq_res1 rfl (.tmp rfl) (by rw [hv])
      | false =>
        have hty := touching_ok l k hk A B C (ixs L) hR (by omega) hA hB hC hlow
        rw [if_neg (by rw [hlow]; decide)] at hv
        have hlen := onL_len' l k A B C l.length
        have hsm := same_c (fun i => ((gi (onL l k A B C l.length) i : Nat) : Int)) (gz L) (onL l k A B C l.length).length L.length (by omega) (by omega)
        have hpl : (plP l k (onL l k A B C l.length)).length = (onL l k A B C l.length).length := by simp [plP]
        have hck : chk (plP l k (onL l k A B C l.length)) = 0 := chk_plP hR k (by omega)
        have hst := straight_c (plP l k (onL l k A B C l.length)) (chk_sm hck).1 (by omega)
        rw [coll_str] at hst
        have hslt : ∀ j, j < (onL l k A B C l.length).length → gi (onL l k A B C l.length) j < l.length := fun j hj => by
          have : gi (onL l k A B C l.length) j ∈ onL l k A B C l.length := by rw [gi_eq hj]; exact List.getElem_mem hj
          exact onL_lt' this
        generalize onL l k A B C l.length = S at *
        refine wt ?_
        refine sq_g (g_load_aggv rfl rfl) rfl ?_
        refine wt ?_
        refine sq_v (f_call_rowN 22 hty rfl rfl) rfl ?_
        refine wt ?_
        refine cq_more (ent_freeze 22 rfl) ?_
        (refine cq_cond rfl (fun hb => ?_) (fun hb => ?_) <;> (try simp only [zA, zB, zC, zD, zE, zF, zG, zH, zI, zJ, zK, zL, zM, zN, zO] at hb) <;> (try (exfalso; omega)))
        · refine wt ?_
          exact sq_res1 rfl (.tmp rfl) (by rw [hv, if_pos (.inr hb)])
        · have hhb := hb
          refine wt ?_
          refine cq_loop (γ := Nat) (fun j => [(0, .av (ts l)), (3, .av (.ptr 5 (pAf k (rtx A) (rtx B) (rtx C) (ixs L)))), (9, .av (.sl S.length 1 (xf S))), (11, .osl 20), (12, .av (vi j))])
            (fun j => [(20, .row 38 2 (plP l k (S.take j)).length (pf (plP l k (S.take j))))]) (fun j => j ≤ S.length) (fun j => S.length - j) 0 (Nat.zero_le _)
            ((ent_row (dd := 11) 20 38 2 (pf []) rfl rfl).trans (ent ⟨.refl _, .refl _, .refl _, .refl _, .refl _, trivial⟩ ⟨⟨_, rfl, .refl _⟩, trivial⟩)) ?_
          intro j hj
          have hpj : (plP l k (S.take j)).length ≤ 64 := by unfold plP; rw [List.length_map, List.length_take]; omega
          refine wt ?_
          (refine cq_cond rfl (fun hb => ?_) (fun hb => ?_) <;> (try simp only [zA, zB, zC, zD, zE, zF, zG, zH, zI, zJ, zK, zL, zM, zN, zO] at hb) <;> (try (exfalso; omega)))
          · have hjl : j < S.length := by omega
            have hb1 := hslt j hjl
            have hpc := rplace_c (gt l (gi S j)) hk
            refine wt ?_
            refine dq_tail rfl rfl ?_
            refine wt ?_
            exact sq_round (j + 1) (by omega) (by omega) (ent ⟨.refl _, .refl _, .refl _, .refl _, .int (by omega), trivial⟩ ⟨⟨_, rfl, .row (by rw [plP_snoc l k S hjl]) (fun _ _ _ _ => by rw [plP_snoc l k S hjl])⟩, trivial⟩)
          · have hjl : j = S.length := by omega
            subst hjl
            rw [List.take_length]
            refine cq_more (ent_freeze 20 rfl) ?_
            cases hcb : collB (plP l k S) with
            | true =>
              rw [hcb] at hst hv
              refine wt ?_
              exact sq_res1 rfl (.tmp rfl) (by rw [hv, if_pos (.inl rfl)])
            | false =>
              rw [hcb] at hst hv
              refine wt ?_
              exact sq_res1 rfl (.tmp rfl) (by rw [hv, if_neg (fun h => h.elim (fun h => by cases h) (fun h => by rw [hhb] at h; cases h))])
end Go.Proofs.YtgepmbjmaljgoaaGreatDoor.H
end
section
namespace Go.Proofs.YtgepmbjmaljgoaaGreatDoor.H
open Go Go.Vc Go.RowKit
open Go.Na (rtx LR chkR_rtx chkR rsg)
set_option maxHeartbeats 4000000
theorem both_v (l : List Tr) (a : Int) (A B C : List UInt8) (L : List Int) (hn : l.length ≤ 1000) (hA : A.length ≤ 24) (hB : B.length ≤ 24) (hC : C.length ≤ 24) (hL : L.length ≤ 1000) :
    ∃ e : Int, CtrA Tryz.prog 26 [ts l, pA a A B C (ixs L)] (vi e) ∧ CtrA Tryz.prog 27 [ts l, pA a A B C (ixs L)] (vi e) := by
  by_cases hT : chkT l = 0
  · by_cases he : plE a A B C = 0
    · obtain ⟨k, qA, qB, qC, hk, rfl, rfl, rfl, rfl⟩ := plE_zero he
      exact ⟨_, Verify_ok l k hk qA qB qC L hT hL (LR_of_len hA) (LR_of_len hB) (LR_of_len hC) (by omega) (by omega) (by omega), rVerify_ok l k hk qA qB qC L hT hL (LR_of_len hA) (LR_of_len hB) (LR_of_len hC) (by omega) (by omega) (by omega)⟩
    · exact ⟨_, Verify_bad2 l a A B C (ixs L) hT (by omega) (by omega) (by omega) he, rVerify_bad2 l a A B C (ixs L) hn hT (by omega) (by omega) (by omega) he⟩
  · exact ⟨_, Verify_bad1 l _ hT ⟨a, A, B, C, ixs L, rfl⟩, rVerify_bad1 l a A B C (ixs L) hn hT⟩
theorem verifies_c (l : List Tr) (a : Int) (A B C : List UInt8) (L : List Int) (hn : L.length ≤ 9223372036854775807) (hA : A.length ≤ 9223372036854775807) (hB : B.length ≤ 9223372036854775807) (hC : C.length ≤ 9223372036854775807) :
    CtrA Tryz.prog 6 [ts l, pA a A B C (ixs L)] (vb true) := by
  have hf := fews_c l
  have hs := short_c a A B C L.length (zf L) hn hA hB hC
  have haw := awake_c
  cases hfw : fewB l with
  | false =>
    rw [hfw] at hf
    refine ctrA _ Tryz.func6 rfl rfl Tryz.ntmps6 rfl fun w Z => ?_
    simp only [initT, zP, zQ, Nat.zero_add, Nat.reduceAdd]
    refine wt ?_
    exact sq_res1 rfl (.tmp rfl) rfl
  | true =>
    rw [hfw] at hf
    cases hsh : shP A B C L.length with
    | false =>
      rw [hsh] at hs
      refine ctrA _ Tryz.func6 rfl rfl Tryz.ntmps6 rfl fun w Z => ?_
      simp only [initT, zP, zQ, Nat.zero_add, Nat.reduceAdd]
      refine wt ?_
      refine sq_on (g_load_aggv rfl rfl) rfl rfl rfl ?_
      refine wt ?_
      exact sq_res1 rfl (.tmp rfl) rfl
    | true =>
      rw [hsh] at hs
      obtain ⟨l1, l2, l3, l4⟩ := shP_len hsh
      have hl : l.length ≤ 1000 := by unfold fewB at hfw; simp at hfw; omega
      obtain ⟨e, h1, h2⟩ := both_v l a A B C L hl l1 l2 l3 (by omega)
      have b1 : (e == e) = true := by simp
      refine ctrA _ Tryz.func6 rfl rfl Tryz.ntmps6 rfl fun w Z => ?_
      simp only [initT, zP, zQ, Nat.zero_add, Nat.reduceAdd]
      refine wt ?_
      refine sq_on (g_load_aggv rfl rfl) rfl rfl rfl ?_
      refine wt ?_
      refine dq_g (g_load_aggv rfl rfl) rfl ?_
      refine wt ?_
      refine dq_g (g_load_aggv rfl rfl) rfl ?_
      refine wt ?_
      rw [b1]
      refine wt ?_
      exact sq_res1 rfl (.tmp rfl) rfl
end Go.Proofs.YtgepmbjmaljgoaaGreatDoor.H
end
