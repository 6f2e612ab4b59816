/- A part of the proof that the law returns true at every input and that the input reads behind the call as it read before; this part states nothing of its own that needs a condition of the input. -/
import Derived.WalkKit
import Derived.Deep.QuietTactic
import Derived.Test.YtdoppiajbpmmkaaGreatW
import Derived.Test.YtdoppiajbpmmkaaGreatY
import Derived.Test.YtdoppiajbpmmkaaGreatSh
import Derived.Test.YtdoppiajbpmmkaaGreatP
import Derived.Test.YtdoppiajbpmmkaaGreatKa
import Derived.Test.YtdoppiajbpmmkaaGreatHa
set_option linter.unusedVariables false
set_option linter.unusedSimpArgs false
set_option linter.unnecessarySimpa false
namespace Go.Proofs.YtdoppiajbpmmkaaGreat
open Go Go.Vc Go.RowKit Go.Sort
set_option maxHeartbeats 1000000
/-! Facets compared by their normals. -/
def cmpT (a b : Tr) : Int := if Lib.compareInt a.x b.x ≠ 0 then Lib.compareInt a.x b.x else if Lib.compareInt a.y b.y ≠ 0 then Lib.compareInt a.y b.y else Lib.compareInt a.z b.z
/-- The comparison of what is left from the k-th coordinate on. -/
def cmpFr (a b : Tr) (k : Nat) : Int := match k with
  | 0 => cmpT a b
  | 1 => if Lib.compareInt a.y b.y ≠ 0 then Lib.compareInt a.y b.y else Lib.compareInt a.z b.z
  | 2 => Lib.compareInt a.z b.z
  | _ => 0
theorem cmpFr_go {a b : Tr} {k : Nat} (hk : k < 3) : cmpFr a b k = if Lib.compareInt (co a k) (co b k) ≠ 0 then Lib.compareInt (co a k) (co b k) else cmpFr a b (k + 1) := by
  rcases (by omega : k = 0 ∨ k = 1 ∨ k = 2) with rfl | rfl | rfl
  · rfl
  · rfl
  · show Lib.compareInt a.z b.z = if Lib.compareInt a.z b.z ≠ 0 then Lib.compareInt a.z b.z else 0
    split
    · rfl
    · rename_i h; exact Decidable.of_not_not h
set_option maxRecDepth 100000 in
theorem compare3 (a b : Tr) (p q cp cq : Nat) (W : World) (hp : ∀ j, j < 3 → W.cell? ⟨p, j, none⟩ = some (.int .i64 (co a j))) (hq : ∀ j, j < 3 → W.cell? ⟨q, j, none⟩ = some (.int .i64 (co b j))) :
    Calls Tryz.prog 123 #[.slice (some ⟨p, 0, none⟩) 3 cp, .slice (some ⟨q, 0, none⟩) 3 cq] W fun e w' => e = .returned (.int .i64 (cmpT a b)) ∧ w' = W := by
  go_enter Tryz.func123, Tryz.ntmps123
  go_wp2
  go_loopw [11] (fun i wr => ∃ k : Nat, k ≤ 3 ∧ i = .int .i64 k ∧ wr = W ∧ cmpFr a b k = cmpT a b) (fun i _ => 3 - (intOf i).toNat)
  case atStart => exact ⟨0, Nat.zero_le _, rfl, rfl, rfl⟩
  case round =>
    obtain ⟨k, hk, rfl, rfl, hc⟩ := hrel
    by_cases hk3 : k < 3
    · have hkz : (k : Int) < 3 := by omega
      have h1 := hp k hk3
      have h2 := hq k hk3
      have hf := cmpFr_go (a := a) (b := b) hk3
      go_wp2_with (first | (go_at_call 141; refine (Tryz.cmp_Compare_int _ _ _).mono ?_; rintro e w' ⟨rfl, rfl⟩) | fail)
      · rename_i hne
        go_ret
        refine ⟨?_, rfl⟩
        show Ending.returned (Value.int .i64 (Lib.compareInt (co a k) (co b k))) = _
        rw [← hc, hf, if_pos (by simpa using hne)]
      · rename_i hne
        refine ⟨⟨k + 1, by omega, by go_num, trivial, ?_⟩, by simp [intOf]; omega⟩
        rw [← hc, hf, if_neg (by simpa using hne)]
    · have : k = 3 := by omega
      subst this
      go_wp2
      go_ret
      refine ⟨?_, rfl⟩
      rw [← hc]
      rfl
/-- The cells of a facet whose slice is given. -/
def enc5 (n : Tr) (m : Int) (p : Option Addr) (k c : Nat) : List Value := [.int .i64 n.x, .int .i64 n.y, .int .i64 n.z, .int .i64 m, .slice p k c]
theorem co_cell (a : Tr) (m : Int) (p : Option Addr) (k c : Nat) : ∀ j, j < 3 → (enc5 a m p k c).toArray[j]? = some (.int .i64 (co a j)) := fun j hj => by
  rcases (by omega : j = 0 ∨ j = 1 ∨ j = 2) with rfl | rfl | rfl <;> rfl
theorem cmp_at (a b : Tr) (m m' : Int) (p p' : Option Addr) (k c k' c' : Nat) (W : World) (n : Nat) :
    Calls Tryz.prog 123 #[.slice (some ⟨W.heap.size, 0, none⟩) 3 3, .slice (some ⟨W.heap.size + 1, 0, none⟩) 3 3] (((W.alloc (.cells (enc5 a m p k c).toArray 46)).alloc (.cells (enc5 b m' p' k' c').toArray 46)).drewN n) fun e w' => e = .returned (.int .i64 (cmpT a b)) ∧ w' = (((W.alloc (.cells (enc5 a m p k c).toArray 46)).alloc (.cells (enc5 b m' p' k' c').toArray 46)).drewN n) := by
  refine compare3 a b _ _ _ _ _ (fun j hj => ?_) (fun j hj => ?_)
  · have h1 : (((W.alloc (.cells (enc5 a m p k c).toArray 46)).alloc (.cells (enc5 b m' p' k' c').toArray 46)).drewN n).heap[W.heap.size]? = some (.cells (enc5 a m p k c).toArray 46 (0, 0)) := by
      show ((W.alloc (.cells (enc5 a m p k c).toArray 46)).alloc (.cells (enc5 b m' p' k' c').toArray 46)).heap[W.heap.size]? = _
      rw [Go.Vc.heap_old _ _ (by simp)]
      exact World.alloc_heap_new W _
    simp only [World.cell?, h1]
    exact co_cell a m p k c j hj
  · have h1 : (((W.alloc (.cells (enc5 a m p k c).toArray 46)).alloc (.cells (enc5 b m' p' k' c').toArray 46)).drewN n).heap[W.heap.size + 1]? = some (.cells (enc5 b m' p' k' c').toArray 46 (0, 0)) := by
      show ((W.alloc (.cells (enc5 a m p k c).toArray 46)).alloc (.cells (enc5 b m' p' k' c').toArray 46)).heap[W.heap.size + 1]? = _
      have := World.alloc_heap_new (W.alloc (.cells (enc5 a m p k c).toArray 46)) (.cells (enc5 b m' p' k' c').toArray 46)
      rwa [World.size_alloc] at this
    simp only [World.cell?, h1]
    exact co_cell b m' p' k' c' j hj
set_option maxRecDepth 100000 in
theorem cmp_any (a b : Tr) (m m' : Int) (p p' : Option Addr) (k c k' c' : Nat) (W : World) : Calls Tryz.prog 96 #[.agg (enc5 a m p k c).toArray, .agg (enc5 b m' p' k' c').toArray] W fun e w' => e = .returned (.int .i64 (cmpT a b)) ∧ ∃ q, w' = (grow W #[.cells (enc5 a m p k c).toArray 46, .cells (enc5 b m' p' k' c').toArray 46]).drewN q := by
  go_enter Tryz.func96, Tryz.ntmps96
  go_wp2
  go_quiet (first | (go_at_call 123; refine Calls.quiet_of_same (cmp_at a b m m' p p' k c k' c' W _)))
  go_wp2
  go_ret
  exact ⟨rfl, nq, by rw [alloc_eq_grow, alloc_eq_grow, grow_grow]; rfl⟩
end Go.Proofs.YtdoppiajbpmmkaaGreat
namespace Go.Proofs.YtdoppiajbpmmkaaGreat
open Go Go.Vc Go.RowKit Go.Sort
set_option maxHeartbeats 1000000
/-! Facets, sorted by their normals. -/
theorem cmpI_lt (a b : Int) : Lib.compareInt a b = if a < b then -1 else if b < a then 1 else 0 := rfl
def lexT (a b : Tr) : Prop := a.x < b.x ∨ a.x = b.x ∧ (a.y < b.y ∨ a.y = b.y ∧ a.z < b.z)
instance (a b : Tr) : Decidable (lexT a b) := by unfold lexT; infer_instance
theorem cmpT_lt (a b : Tr) : cmpT a b < 0 ↔ lexT a b := by
  unfold cmpT lexT
  rw [cmpI_lt a.x, cmpI_lt a.y, cmpI_lt a.z]
  repeat' split
  all_goals omega
abbrev Raw := Tr × Int × Option Addr × Nat × Nat
def encR (x : Raw) : List Value := enc5 x.1 x.2.1 x.2.2.1 x.2.2.2.1 x.2.2.2.2
def cfR (x y : Raw) : Int := cmpT x.1 y.1
theorem ltR (x y : Raw) : ltOf cfR x y = decide (lexT x.1 y.1) := by
  unfold ltOf cfR
  rw [Bool.eq_iff_iff, decide_eq_true_eq, decide_eq_true_eq]
  exact cmpT_lt _ _
theorem swoR : SWO (ltOf cfR) := ⟨fun x => by rw [ltR]; simp [lexT], fun x y z h1 h2 => by rw [ltR, decide_eq_true_eq] at *; unfold lexT at *; omega, fun x y z h1 h2 => by rw [ltR, decide_eq_false_iff_not] at *; unfold lexT at *; omega⟩
def leF (a b : Fc) : Bool := !decide (lexT b.n a.n)
def sortF (L : List Fc) : List Fc := L.mergeSort leF
theorem leF_tr : ∀ a b c : Fc, leF a b = true → leF b c = true → leF a c = true := fun a b c h1 h2 => by
  unfold leF at *
  rw [Bool.not_eq_true', decide_eq_false_iff_not] at *
  unfold lexT at *
  omega
theorem leF_to : ∀ a b : Fc, (leF a b || leF b a) = true := fun a b => by
  unfold leF
  rw [Bool.or_eq_true, Bool.not_eq_true', Bool.not_eq_true', decide_eq_false_iff_not, decide_eq_false_iff_not]
  unfold lexT
  omega
theorem tr_ext {a b : Tr} (h1 : a.x = b.x) (h2 : a.y = b.y) (h3 : a.z = b.z) : a = b := by cases a; cases b; simp at *; exact ⟨h1, h2, h3⟩
theorem sortF_of {L L' : List Fc} (hu : ∀ f ∈ L, ∀ g ∈ L, f.n = g.n → f = g) (hp : L'.Perm L) (hs : L'.Pairwise (fun a b => leF a b = true)) : L' = sortF L := by
  refine List.Perm.eq_of_pairwise (le := fun a b => leF a b = true) (fun a b ha hb h1 h2 => ?_) hs (List.pairwise_mergeSort leF_tr leF_to L) (hp.trans (List.mergeSort_perm L _).symm)
  refine hu a (hp.mem_iff.1 ha) b ((List.mergeSort_perm L _).mem_iff.1 hb) ?_
  unfold leF at h1 h2
  rw [Bool.not_eq_true', decide_eq_false_iff_not] at h1 h2
  unfold lexT at h1 h2
  exact tr_ext (by omega) (by omega) (by omega)
theorem all2_perm {α β : Type} {R : α → β → Prop} {xs ys : List β} (h : xs.Perm ys) : ∀ {L : List α}, All2 R L xs → ∃ L', L'.Perm L ∧ All2 R L' ys := by
  induction h with
  | nil => intro L hL; exact ⟨L, List.Perm.refl _, hL⟩
  | cons x _ ih =>
    intro L hL
    match L, hL with
    | a :: L, hL =>
      obtain ⟨L', h1, h2⟩ := ih hL.2
      exact ⟨a :: L', h1.cons a, hL.1, h2⟩
  | swap x y l =>
    intro L hL
    match L, hL with
    | a :: b :: L, hL => exact ⟨b :: a :: L, List.Perm.swap _ _ _, hL.2.1, hL.1, hL.2.2⟩
  | trans _ _ ih1 ih2 =>
    intro L hL
    obtain ⟨L1, p1, h1⟩ := ih1 hL
    obtain ⟨L2, p2, h2⟩ := ih2 h1
    exact ⟨L2, p2.trans p1, h2⟩
theorem all2_get {α β : Type} {R : α → β → Prop} : ∀ {L : List α} {xs : List β} {i : Nat} {a : α} {x : β}, All2 R L xs → L[i]? = some a → xs[i]? = some x → R a x
  | _ :: _, _ :: _, 0, _, _, h, h1, h2 => by simp at h1 h2; subst h1 h2; exact h.1
  | _ :: _, _ :: _, i + 1, _, _, h, h1, h2 => all2_get (i := i) h.2 (by simpa using h1) (by simpa using h2)
/-- What a raw facet holds. -/
def RF (Z : Zone) (w : World) (f : Fc) (x : Raw) : Prop := x.1 = f.n ∧ x.2.1 = f.m ∧ AV.ok Z w (.sl f.s.length 1 (xf f.s)) (.slice x.2.2.1 x.2.2.2.1 x.2.2.2.2)
theorem isAgg46 (w : World) : (isAgg 46).run Tryz.prog w = .ok true w := by kernel_rfl
theorem size46 (w : World) : (Go.sizeOf 46).run Tryz.prog w = .ok 5 w := by kernel_rfl
theorem encR_cell (x : Raw) (f : Fc) {Z : Zone} {w : World} (h : RF Z w f x) : ∀ j, j < 5 → (fcf f j).ok Z w ((encR x)[j]!) := by
  obtain ⟨h1, h2, h3⟩ := h
  intro j hj
  rcases (by omega : j = 0 ∨ j = 1 ∨ j = 2 ∨ j = 3 ∨ j = 4) with rfl | rfl | rfl | rfl | rfl
  · show Value.int .i64 x.1.x = .int .i64 f.n.x; rw [h1]
  · show Value.int .i64 x.1.y = .int .i64 f.n.y; rw [h1]
  · show Value.int .i64 x.1.z = .int .i64 f.n.z; rw [h1]
  · show Value.int .i64 x.2.1 = .int .i64 f.m; rw [h2]
  · exact h3
/-- The raw facets of a row. -/
theorem raws_of {Z : Zone} {w : World} {arr : Array Value} {L : List Fc} (h : ∀ i, i < L.length → ∀ j, j < 5 → ∃ u, arr[i * 5 + j]? = some u ∧ (ff L i j).ok Z w u) :
    ∃ xs : List Raw, All2 (RF Z w) L xs ∧ ∀ i x, xs[i]? = some x → ∀ j, j < 5 → arr[i * 5 + j]? = some ((encR x)[j]!) := by
  have key : ∀ (n : Nat) (L : List Fc) (o : Nat), L.length = n → (∀ i, i < L.length → ∀ j, j < 5 → ∃ u, arr[o + i * 5 + j]? = some u ∧ (ff L i j).ok Z w u) →
      ∃ xs : List Raw, All2 (RF Z w) L xs ∧ ∀ i x, xs[i]? = some x → ∀ j, j < 5 → arr[o + i * 5 + j]? = some ((encR x)[j]!) := by
    intro n
    induction n with
    | zero => intro L o hn _; rw [List.length_eq_zero_iff.1 hn]; exact ⟨[], trivial, fun i x hx => by simp at hx⟩
    | succ n ih =>
      intro L o hn hL
      match L, hn with
      | f :: L, hn =>
        obtain ⟨xs, a1, a2⟩ := ih L (o + 5) (by simpa using hn) (fun i hi j hj => by
          have := hL (i + 1) (by simpa using hi) j hj
          rw [show o + (i + 1) * 5 + j = o + 5 + i * 5 + j from by omega] at this
          exact this)
        obtain ⟨u0, b0, k0⟩ := hL 0 (by simp) 0 (by omega)
        obtain ⟨u1, b1, k1⟩ := hL 0 (by simp) 1 (by omega)
        obtain ⟨u2, b2, k2⟩ := hL 0 (by simp) 2 (by omega)
        obtain ⟨u3, b3, k3⟩ := hL 0 (by simp) 3 (by omega)
        obtain ⟨u4, b4, k4⟩ := hL 0 (by simp) 4 (by omega)
        have k4' := k4
        obtain ⟨p, c, rfl, _⟩ := k4'
        obtain rfl : u0 = .int .i64 f.n.x := k0
        obtain rfl : u1 = .int .i64 f.n.y := k1
        obtain rfl : u2 = .int .i64 f.n.z := k2
        obtain rfl : u3 = .int .i64 f.m := k3
        refine ⟨(f.n, f.m, p, f.s.length, c) :: xs, ⟨⟨rfl, rfl, k4⟩, a1⟩, fun i x hx j hj => ?_⟩
        cases i with
        | zero =>
          simp only [List.getElem?_cons_zero, Option.some.injEq] at hx
          subst hx
          rcases (by omega : j = 0 ∨ j = 1 ∨ j = 2 ∨ j = 3 ∨ j = 4) with rfl | rfl | rfl | rfl | rfl
          · exact b0
          · exact b1
          · exact b2
          · exact b3
          · exact b4
        | succ i =>
          have := a2 i x (by simpa using hx) j hj
          rw [show o + (i + 1) * 5 + j = o + 5 + i * 5 + j from by omega]
          exact this
  obtain ⟨xs, a1, a2⟩ := key L.length L 0 rfl (fun i hi j hj => by rw [Nat.zero_add]; exact h i hi j hj)
  exact ⟨xs, a1, fun i x hx j hj => by have := a2 i x hx j hj; rwa [Nat.zero_add] at this⟩
theorem all2_len' {α β : Type} {R : α → β → Prop} {L : List α} {xs : List β} (h : All2 R L xs) : L.length = xs.length := by
  have := h.len
  omega
theorem lk5 {i j n : Nat} (hi : i < n) (hj : j < 5) : i * 5 + j < n * 5 := by omega
theorem sortf_c (L : List Fc) (hu : ∀ f ∈ L, ∀ g ∈ L, f.n = g.n → f = g) (hn : L.length ≤ 1000000) : CtrW Tryz.prog 120 [.val (.func (.func 96) #[] #[])] 46 5 L.length (ff L) L.length (ff (sortF L)) false := by
  refine ⟨entersM Tryz.func120 rfl rfl, fun w Z v vs hZ hvs hrow => ?_⟩
  match vs, hvs with
  | [fv], ⟨h1, _⟩ =>
    obtain rfl : fv = .func (.func 96) #[] #[] := h1
    by_cases h0 : L.length = 0
    · have hl : L = [] := List.eq_nil_of_length_eq_zero h0
      subst hl
      have hv : ∃ p cap, v = .slice p 0 cap := by
        rcases hrow with ⟨e, _⟩ | ⟨b, cap, arr, e, _⟩
        · exact ⟨none, 0, e⟩
        · exact ⟨_, cap, e⟩
      obtain ⟨p, cap, rfl⟩ := hv
      refine (show Calls Tryz.prog 120 #[.slice p 0 cap, .func (.func 96) #[] #[]] w _ from AnyF.slices_SortFunc_none Tryz.laysSlF06_f120 p cap (.func (.func 96) #[] #[]) w).mono ?_
      rintro e w' ⟨rfl, rfl⟩
      exact ⟨_, _, Z, rfl, rfl, ⟨rfl, rfl, rfl, Nat.le_refl _, fun _ _ _ => rfl⟩, fun _ h => h, fun _ h => .inl h, hZ, fun b hb => .inl hb, by
        rcases hrow with ⟨e, _⟩ | ⟨b, cap, arr, e, h2, h3, h4, h5, h6, h7⟩
        · exact .inl ⟨e, rfl⟩
        · exact .inr ⟨b, cap, arr, e, h2, h3, h4, h5, h6, fun i hi => by simp at hi⟩⟩
    · rcases hrow with ⟨_, e⟩ | ⟨b, cap, arr, rfl, h2, h3, h4, h5, h6, h7⟩
      · exact absurd e h0
      · have hb := (Array.getElem?_eq_some_iff.1 h3).1
        obtain ⟨xs, hx, hcell⟩ := raws_of h7
        have hxl := all2_len' hx
        have hH : HoldsK encR 5 w b 0 xs.toArray := by
          intro t ht
          have ht' : t < xs.length * 5 := by simpa using ht
          refine ⟨?_, by simp [World.frozen?, h3]⟩
          have hq : t = t / 5 * 5 + t % 5 := by omega
          have htl : t / 5 < xs.length := by omega
          have hc := hcell (t / 5) xs[t / 5] (List.getElem?_eq_getElem htl) (t % 5) (Nat.mod_lt _ (by omega))
          rw [get_flatK _ _ _ t (by simpa using ht'), Nat.zero_add]
          simp only [World.cell?, h3]
          rw [← hq] at hc
          have e : xs.toArray[t / 5]! = xs[t / 5] := by
            rw [getElem!_pos xs.toArray (t / 5) (by simp; omega)]
            simp
          rw [e]
          simpa using hc
        have hcmp : CmpLays Tryz.prog 96 #[] encR 5 cfR b 0 xs.toArray.size w := fun m os dk _ x y =>
          (cmp_any x.1 y.1 x.2.1 y.2.1 x.2.2.1 y.2.2.1 x.2.2.2.1 x.2.2.2.2 y.2.2.2.1 y.2.2.2.2 _).mono fun e w' ⟨he, q, hw⟩ => ⟨he, q, _, hw⟩
        have hrun := AnyQ.slices_SortFunc (α := Raw) Tryz.laysSlF06_f120 5 isAgg46 size46 encR (fun _ => rfl) (fun x v hv => by
          simp only [encR, enc5, List.mem_cons, List.not_mem_nil, or_false] at hv
          rcases hv with rfl | rfl | rfl | rfl | rfl <;> rfl) cfR swoR 96 #[] b 0 cap xs.toArray w (entersM Tryz.func96 rfl rfl) hcmp hH hb (by simp; omega)
        rw [List.size_toArray] at hrun
        have hrun2 : Calls Tryz.prog 120 #[.slice (some ⟨b, 0, none⟩) L.length cap, .func (.func 96) #[] #[]] w fun e w' => e = .returned (.tuple #[]) ∧ ∃ d' n os, PermIn 0 xs.length xs.toArray d' ∧ SortedIn (ltOf cfR) 0 xs.length d' ∧ w' = sortWorldK encR 5 w b 0 n d' os := by
          rw [hxl]
          exact hrun
        refine Calls.mono hrun2 ?_
        rintro e w' ⟨rfl, d', n, os, hp, hs, rfl⟩
        have hsz : d'.size = xs.length := by have := hp.1; simpa using this
        have hperm : d'.toList.Perm xs := by
          have := hp.2.2
          simp [hsz] at this
          rwa [List.take_of_length_le (by simp [hsz])] at this
        obtain ⟨L', hL1, hL2⟩ := all2_perm hperm.symm hx
        have hL3 : L'.Pairwise (fun a b => leF a b = true) := by
          rw [List.pairwise_iff_getElem]
          intro i j hi hj hij
          have hl2 := all2_len' hL2
          have hjd : j < d'.size := by simp at hl2; omega
          have h := hs i j (Nat.zero_le _) hij (by rw [← hsz]; exact hjd)
          rw [getElem!_pos d' j hjd, getElem!_pos d' i (by omega), ltR, decide_eq_false_iff_not] at h
          have r1 := (all2_get hL2 (List.getElem?_eq_getElem hi) (List.getElem?_eq_getElem (by simp at hl2 ⊢; omega))).1
          have r2 := (all2_get hL2 (List.getElem?_eq_getElem hj) (List.getElem?_eq_getElem (by simp at hl2 ⊢; omega))).1
          simp only [Array.getElem_toList] at r1 r2
          rw [r1, r2] at h
          unfold leF
          rw [Bool.not_eq_true', decide_eq_false_iff_not]
          exact h
        have hd' := sortF_of hu hL1 hL3
        subst hd'
        have hheap : (sortWorldK encR 5 w b 0 n d' os).heap[b]? = some (.cells (putCells id 0 (flatK encR 5 d') arr) 46 (0, 0)) := by
          unfold sortWorldK putRowK
          rw [heap_grow_old _ _ (by simpa [putRow, mapBlock, Sort.ahead] using hb)]
          simp [putRow, mapBlock, Sort.ahead, Array.getElem?_modify, h3, onCells]
        have hgr : w.grownBy (sortWorldK encR 5 w b 0 n d' os) (some b) := by
          unfold sortWorldK putRowK
          refine ⟨rfl, rfl, rfl, by simp, fun k hk hne => ?_⟩
          rw [heap_grow_old _ _ (by simpa using hk)]
          have : b ≠ k := fun e => hne (by rw [e])
          simp [putRow, mapBlock, Sort.ahead, Array.getElem?_modify, this]
        refine ⟨_, _, Z, rfl, rfl, hgr, fun _ h => h, fun _ h => .inl h, fun k hk => Nat.lt_of_lt_of_le (hZ k hk) hgr.size, fun b hb => .inl hb, .inr ⟨b, cap, _, rfl, h2, hheap, h4, h5, by simp [putCells, h6], fun i hi j hj => ?_⟩⟩
        have hlt := lk5 hi hj
        have hal : i * 5 + j < arr.size := by rw [h6]; have := lk5 (Nat.lt_of_lt_of_le hi h4) hj; exact this
        have hl2 := all2_len' hL2
        have hid : i < d'.size := by simp at hl2; have := hL1.length_eq; omega
        have hiL : i < (sortF L).length := by have := hL1.length_eq; omega
        have hRF := all2_get hL2 (List.getElem?_eq_getElem hiL) (List.getElem?_eq_getElem (by simpa using hid))
        have hgf : (sortF L)[i] = gf (sortF L) i := by unfold gf; simp [List.getD, hiL]
        rw [hgf, Array.getElem_toList] at hRF
        have hRF2 : RF Z (sortWorldK encR 5 w b 0 n d' os) (gf (sortF L) i) d'[i] := ⟨hRF.1, hRF.2.1, AV.ok_mono (fun _ q => q) hgr.size (fun k q hk => hgr.block k hk (fun e => by cases e; exact h2 q)) _ _ hRF.2.2⟩
        refine ⟨(encR d'[i])[j]!, ?_, encR_cell _ _ hRF2 j hj⟩
        have hf := get_flatK encR 5 d' (i * 5 + j) (by omega)
        have e1 : (i * 5 + j) / 5 = i := by omega
        have e2 : (i * 5 + j) % 5 = j := by omega
        rw [e1, e2, getElem!_pos d' i hid] at hf
        simp only [putCells]
        rw [Array.getElem?_mapIdx, Array.getElem?_eq_getElem hal]
        simp only [Option.map_some]
        rw [if_pos ⟨Nat.zero_le _, by simp; omega⟩]
        simpa using hf
end Go.Proofs.YtdoppiajbpmmkaaGreat
namespace Go.Proofs.YtdoppiajbpmmkaaGreat
open Go Go.Vc Go.RowKit Go.Sort
set_option maxHeartbeats 1000000
/-! slices.Sort, Compact and Delete on rows of ints. -/
def gz (l : List Int) (i : Nat) : Int := l.getD i 0
def zf (l : List Int) : Nat → Nat → AV := fun i _ => .val (.int .i64 (gz l i))
abbrev zs (l : List Int) : AV := .sl l.length 1 (zf l)
def sortI (l : List Int) : List Int := l.mergeSort fun x y => decide (x ≤ y)
/-- A row whose block has been turned. -/
theorem row_put {ety : TypeId} {Z : Zone} {w : World} {b cap : Nat} {arr : Array Value} {l d : List Int} {q : Nat} {os : Array Obj} (h2 : ¬ Z b) (h3 : w.heap[b]? = some (.cells arr ety (0, 0))) (h4 : l.length ≤ cap) (h5 : cap ≤ maxLen) (h6 : arr.size = cap * 1) (hd : d.length = l.length) {n' : Nat} (hn : n' ≤ l.length) {l' : List Int} (hl : ∀ i, i < n' → gz d i = gz l' i) :
    w.grownBy (grow (putRow (Value.int .i64) (Sort.ahead w q) b 0 d.toArray) os) (some b) ∧ RowAt (grow (putRow (Value.int .i64) (Sort.ahead w q) b 0 d.toArray) os) Z ety 1 n' (zf l') (.slice (some ⟨b, 0, none⟩) n' cap) := by
  have hb := (Array.getElem?_eq_some_iff.1 h3).1
  refine ⟨⟨rfl, rfl, rfl, by simp [grow, putRow, mapBlock, Sort.ahead], fun k hk hne => ?_⟩, .inr ⟨b, cap, putCells (Value.int .i64) 0 d.toArray arr, rfl, h2, ?_, by omega, h5, ?_, fun i hi j hj => ?_⟩⟩
  · rw [heap_grow_old _ _ (by simpa [putRow, mapBlock, Sort.ahead] using hk)]
    have : b ≠ k := fun e => hne (by rw [e])
    simp [putRow, mapBlock, Sort.ahead, Array.getElem?_modify, this]
  · rw [heap_grow_old _ _ (by simpa [putRow, mapBlock, Sort.ahead] using hb)]
    simp [putRow, mapBlock, Sort.ahead, Array.getElem?_modify, h3, onCells]
  · simp [putCells, h6]
  · obtain rfl : j = 0 := by omega
    refine ⟨.int .i64 (gz l' i), ?_, rfl⟩
    have hal : i < arr.size := by omega
    simp only [putCells, Nat.mul_one, Nat.add_zero]
    rw [Array.getElem?_mapIdx, Array.getElem?_eq_getElem hal]
    simp only [Option.map_some]
    rw [if_pos ⟨Nat.zero_le _, by simp; omega⟩, ← hl i hi]
    have hid : i < d.toArray.size := by simp; omega
    rw [Nat.sub_zero, getElem!_pos d.toArray i hid]
    simp [gz, List.getD, show i < d.length by omega]
theorem row_holds {ety : TypeId} {Z : Zone} {w : World} {b : Nat} {arr : Array Value} {l : List Int} (h3 : w.heap[b]? = some (.cells arr ety (0, 0))) (h7 : ∀ i, i < l.length → ∀ j, j < 1 → ∃ u, arr[i * 1 + j]? = some u ∧ (zf l i j).ok Z w u) : Holds (Value.int .i64) w b 0 l.toArray := by
  intro j hj
  have hj' : j < l.length := by simpa using hj
  obtain ⟨u, hu, hk⟩ := h7 j hj' 0 (by omega)
  obtain rfl : u = .int .i64 (gz l j) := hk
  refine ⟨?_, by simp [World.frozen?, h3]⟩
  simp only [World.cell?, h3, Nat.zero_add]
  rw [getElem!_pos l.toArray j hj]
  simp only [Nat.mul_one, Nat.add_zero] at hu
  simpa [gz, List.getD, hj'] using hu
theorem sort_c (ety : TypeId) (l : List Int) (hn : l.length ≤ 1000000) : CtrW Tryz.prog 75 [] ety 1 l.length (zf l) l.length (zf (sortI l)) false := by
  refine ⟨entersM Tryz.func75 rfl rfl, fun w Z v vs hZ hvs hrow => ?_⟩
  match vs, hvs with
  | [], _ =>
    by_cases h0 : l.length = 0
    · have hl : l = [] := List.eq_nil_of_length_eq_zero h0
      subst hl
      have hv : ∃ p cap, v = .slice p 0 cap := by
        rcases hrow with ⟨e, _⟩ | ⟨b, cap, arr, e, _⟩
        · exact ⟨none, 0, e⟩
        · exact ⟨_, cap, e⟩
      obtain ⟨p, cap, rfl⟩ := hv
      refine (Tryz.slices_Sort_int_none p cap w).mono ?_
      rintro e w' ⟨rfl, rfl⟩
      exact ⟨_, _, Z, rfl, rfl, ⟨rfl, rfl, rfl, Nat.le_refl _, fun _ _ _ => rfl⟩, fun _ h => h, fun _ h => .inl h, hZ, fun b hb => .inl hb, by
        rcases hrow with ⟨e, _⟩ | ⟨b, cap, arr, e, h2, h3, h4, h5, h6, h7⟩
        · exact .inl ⟨e, rfl⟩
        · exact .inr ⟨b, cap, arr, e, h2, h3, h4, h5, h6, fun i hi => by simp at hi⟩⟩
    · rcases hrow with ⟨_, e⟩ | ⟨b, cap, arr, rfl, h2, h3, h4, h5, h6, h7⟩
      · exact absurd e h0
      · have hb := (Array.getElem?_eq_some_iff.1 h3).1
        refine (Tryz.slices_Sort_int b 0 cap l w (row_holds h3 h7) hb (by omega)).mono ?_
        rintro e w' ⟨rfl, q, os, rfl⟩
        obtain ⟨hgr, hr⟩ := row_put (Z := Z) (l := l) (d := sortI l) (q := q) (os := os) h2 h3 h4 h5 h6 (by unfold sortI; rw [List.length_mergeSort]) (Nat.le_refl _) (l' := sortI l) (fun _ _ => rfl)
        exact ⟨_, _, Z, rfl, rfl, hgr, fun _ h => h, fun _ h => .inl h, fun k hk => Nat.lt_of_lt_of_le (hZ k hk) hgr.size, fun b hb => .inl hb, hr⟩
theorem gz_app_left {a b : List Int} {i : Nat} (h : i < a.length) : gz (a ++ b) i = gz a i := by unfold gz; simp [List.getD, List.getElem?_append_left h]
theorem compact_len (l : List Int) : (Lib.compact l).length ≤ l.length := by
  unfold Lib.compact Lib.compactUpTo
  rw [List.length_map]
  refine Nat.le_trans (List.length_filter_le _ _) ?_
  simp
theorem compacti_c (ety : TypeId) (l : List Int) (hn : l.length ≤ 1000000) : CtrW Tryz.prog 76 [] ety 1 l.length (zf l) (Lib.compact l).length (zf (Lib.compact l)) true := by
  refine ⟨entersM Tryz.func76 rfl rfl, fun w Z v vs hZ hvs hrow => ?_⟩
  have hcl := compact_len l
  match vs, hvs with
  | [], _ =>
    by_cases h0 : l.length = 0
    · have hl : l = [] := List.eq_nil_of_length_eq_zero h0
      subst hl
      have hv : ∃ p cap, v = .slice p 0 cap := by
        rcases hrow with ⟨e, _⟩ | ⟨b, cap, arr, e, _⟩
        · exact ⟨none, 0, e⟩
        · exact ⟨_, cap, e⟩
      obtain ⟨p, cap, rfl⟩ := hv
      refine (Tryz.slices_Compact_int_empty p cap w).mono ?_
      rintro e w' ⟨rfl, rfl⟩
      exact ⟨_, _, Z, rfl, rfl, ⟨rfl, rfl, rfl, Nat.le_refl _, fun _ _ _ => rfl⟩, fun _ h => h, fun _ h => .inl h, hZ, fun b hb => .inl hb, by
        rcases hrow with ⟨e, _⟩ | ⟨b, cap, arr, e, h2, h3, h4, h5, h6, h7⟩
        · exact .inl ⟨e, rfl⟩
        · exact .inr ⟨b, cap, arr, e, h2, h3, h4, h5, h6, fun i hi => absurd hi (by simp [Lib.compact, Lib.compactUpTo])⟩⟩
    · rcases hrow with ⟨_, e⟩ | ⟨b, cap, arr, rfl, h2, h3, h4, h5, h6, h7⟩
      · exact absurd e h0
      · refine (Tryz.slices_Compact_int b 0 cap l w (row_holds h3 h7) (by omega) h4).mono ?_
        rintro e w' ⟨rfl, q, rfl⟩
        obtain ⟨hgr, hr⟩ := row_put (Z := Z) (l := l) (d := Lib.compact l ++ List.replicate (l.length - (Lib.compact l).length) 0) (q := q) (os := #[]) h2 h3 h4 h5 h6 (by simp; omega) hcl (l' := Lib.compact l) (fun i hi => gz_app_left hi)
        rw [grow_empty] at hgr hr
        exact ⟨_, _, Z, rfl, rfl, hgr, fun _ h => h, fun _ h => .inl h, fun k hk => Nat.lt_of_lt_of_le (hZ k hk) hgr.size, fun b hb => .inl hb, hr⟩
theorem delete_c (l : List Int) (i j : Nat) (hn : l.length ≤ 1000000) (h0 : 0 < l.length) (hij : i ≤ j) (hj : j ≤ l.length) : CtrW Tryz.prog 91 [.val (.int .i64 i), .val (.int .i64 j)] 3 1 l.length (zf l) (l.length - (j - i)) (zf (l.take i ++ l.drop j)) true := by
  refine ⟨entersM Tryz.func91 rfl rfl, fun w Z v vs hZ hvs hrow => ?_⟩
  match vs, hvs with
  | [v1, v2], ⟨h1, h2', _⟩ =>
    obtain rfl : v1 = .int .i64 i := h1
    obtain rfl : v2 = .int .i64 j := h2'
    rcases hrow with ⟨_, e⟩ | ⟨b, cap, arr, rfl, h2, h3, h4, h5, h6, h7⟩
    · omega
    · refine (Tryz.slices_Delete_int b 0 cap i j l w (row_holds h3 h7) h4 (Nat.le_trans h5 (by decide)) hij hj).mono ?_
      rintro e w' ⟨rfl, q, rfl⟩
      obtain ⟨hgr, hr⟩ := row_put (Z := Z) (l := l) (d := l.take i ++ l.drop j ++ List.replicate (j - i) 0) (q := q) (os := #[]) h2 h3 h4 h5 h6 (by simp; omega) (n' := l.length - (j - i)) (by omega) (l' := l.take i ++ l.drop j) (fun k hk => gz_app_left (by simp; omega))
      rw [grow_empty] at hgr hr
      exact ⟨_, _, Z, rfl, rfl, hgr, fun _ h => h, fun _ h => .inl h, fun k hk => Nat.lt_of_lt_of_le (hZ k hk) hgr.size, fun b hb => .inl hb, hr⟩
end Go.Proofs.YtdoppiajbpmmkaaGreat
namespace Go.Proofs.YtdoppiajbpmmkaaGreat
open Go Go.Vc Go.RowKit
set_option maxHeartbeats 4000000
/-! KDQ -/
theorem nn_eq (a b : Tr) : ([a.x, a.y, a.z] == [b.x, b.y, b.z]) = decide (a = b) := by
  cases a; cases b; rw [Bool.eq_iff_iff]; simp
theorem eqf_c (a b : Fc) : CtrA Tryz.prog 98 [fca a, fca b] (vb (decide (a.n = b.n))) := by
  refine ctrA _ Tryz.func98 rfl rfl Tryz.ntmps98 rfl fun w Z => ?_
  simp only [initT, List.map_cons, List.map_nil, Nat.zero_add, Nat.reduceAdd]
  refine cq_seq ?_
  refine cq_region ?_
  apply sq_g; exact  g_box_aggv rfl; exact rfl
  apply sq_g; exact  g_box_aggv rfl; exact rfl
  apply sq_g; exact g_assign (s := .av (.val (.bool _))) rfl; exact rfl
  refine sq_nil ?_
  refine sq_then ?_
  refine cq_seq ?_
  refine cq_region ?_
  apply sq_g; exact g_field rfl; exact rfl
  apply sq_g; exact g_load_agg (us := [.int _ _, .int _ _, .int _ _]) rfl rfl rfl rfl; exact rfl
  apply sq_g; exact g_field rfl; exact rfl
  apply sq_g; exact g_load_agg (us := [.int _ _, .int _ _, .int _ _]) rfl rfl rfl rfl; exact rfl
  apply sq_g; exact g_eql (xs := [_, _, _]) (ys := [_, _, _]) rfl rfl rfl rfl; exact rfl
  apply sq_g; exact g_assign (s := .av (.val (.bool _))) rfl; exact rfl
  refine sq_nil ?_
  refine sq_then ?_
  refine cq_ret ?_
  exact sq_res1 rfl (.tmp rfl) (congrArg vb (nn_eq _ _))
abbrev eqv : AV := .val (.func (.func 98) #[] #[])
def cptPF (L : List Fc) (i : Nat) : Bool := decide (i = 0) || decide ((gf L i).n ≠ (gf L (i - 1)).n)
def cptToF (L : List Fc) (m : Nat) : List Fc := ((List.range m).filter (cptPF L)).map (gf L)
def cptF (L : List Fc) : List Fc := cptToF L L.length
theorem cptToF_succ (L : List Fc) (m : Nat) : cptToF L (m + 1) = if cptPF L m = true then cptToF L m ++ [gf L m] else cptToF L m := by
  simp only [cptToF, List.range_succ, List.filter_append, List.map_append]
  split <;> rename_i h <;> simp [List.filter, h]
theorem cptToF_len (L : List Fc) (m : Nat) : (cptToF L m).length ≤ m := by
  have := List.length_filter_le (cptPF L) (List.range m)
  simpa [cptToF] using this
theorem gf_eq {L : List Fc} {i : Nat} (h : i < L.length) : gf L i = L[i] := by simp [gf, h]
theorem gf_mem {L : List Fc} {i : Nat} (h : i < L.length) : gf L i ∈ L := by rw [gf_eq h]; exact List.getElem_mem h
theorem gf_take (L : List Fc) (m k : Nat) : gf (L.take m) k = if k < m then gf L k else default := by
  simp only [gf, List.getD, List.getElem?_take]
  split <;> rfl
theorem cptToF_all (L : List Fc) : ∀ (m : Nat), m ≤ L.length → (∀ i, i < m → cptPF L i = true) → cptToF L m = L.take m
  | 0, _, _ => rfl
  | m + 1, hm, h => by
    rw [cptToF_succ, if_pos (h m (by omega)), cptToF_all L m (by omega) (fun i hi => h i (by omega)), List.take_succ_eq_append_getElem (by omega), gf_eq (by omega)]
theorem cptF_short {L : List Fc} (h : L.length < 2) : cptF L = L := by
  rw [cptF, cptToF_all L _ (Nat.le_refl _) (fun i hi => by simp [cptPF, show i = 0 by omega]), List.take_length]
theorem gf_set (L : List Fc) (i : Nat) (x : Fc) (k : Nat) : gf (L.set i x) k = if i = k ∧ k < L.length then x else gf L k := by
  simp only [gf, List.getD, List.getElem?_set]
  by_cases h : i = k
  · subst h
    by_cases h2 : i < L.length
    · simp [h2]
    · simp [h2]
  · simp [h]
theorem gf_app (L : List Fc) (x : Fc) (k : Nat) : gf (L ++ [x]) k = if k < L.length then gf L k else if k = L.length then x else default := by
  simp only [gf]
  by_cases h : k < L.length
  · simp [List.getD, List.getElem?_append_left h, h]
  · by_cases h2 : k = L.length
    · subst h2; simp [List.getD]
    · rw [if_neg h, if_neg h2, List.getD, List.getElem?_eq_none (by simp; omega)]; rfl
theorem lt_step {p : Nat → Bool} {n : Nat} (h : ∀ k, k < n → p k = true) (hn : p n = true) : ∀ k, k < n + 1 → p k = true := fun k hk => by
  by_cases e : k = n
  · subst e; exact hn
  · exact h k (by omega)
theorem zv46 (w : World) : (zeroValue 46).run Tryz.prog w = .ok (.agg [.int .i64 0, .int .i64 0, .int .i64 0, .int .i64 0, .slice none 0 0].toArray) w := by kernel_rfl
theorem zv46_one : ∀ v ∈ ([.int .i64 0, .int .i64 0, .int .i64 0, .int .i64 0, .slice none 0 0] : List Value), v.oneCell' = true := fun v hv => by
  simp only [List.mem_cons, List.not_mem_nil, or_false] at hv
  rcases hv with rfl | rfl | rfl | rfl | rfl <;> rfl
theorem ff_set {u : List Fc} {k : Nat} {x : Fc} (hk : k < u.length) : ∀ i, i < u.length → ∀ j, j < 5 → rowSet (ff u) k 0 ((List.range 5).map (fcf x)) i j = ff (u.set k x) i j := by
  intro i hi j hj
  unfold rowSet ff
  rw [gf_set]
  by_cases h : i = k
  · subst h
    rw [if_pos ⟨rfl, Nat.zero_le _, by simpa using hj⟩, if_pos ⟨rfl, hk⟩]
    rcases (by omega : j = 0 ∨ j = 1 ∨ j = 2 ∨ j = 3 ∨ j = 4) with rfl | rfl | rfl | rfl | rfl <;> rfl
  · rw [if_neg (fun e => h e.1), if_neg (fun e => h e.1.symm)]
theorem compactf_c (v : List Fc) (hn : v.length ≤ 1000) :
    CtrW Tryz.prog 97 [eqv] 46 5 v.length (ff v) (cptF v).length (ff (cptF v)) true := by
  refine ctrW _ Tryz.func97 rfl rfl Tryz.ntmps97 rfl fun w Z v0 => ?_
  simp only [initT, List.map_cons, List.map_nil, Nat.zero_add, Nat.reduceAdd]
  refine cq_seq ?_
  refine cq_region ?_
  apply sq_g; exact g_assign (s := .av _) rfl; exact rfl
  refine sq_nil ?_
  refine sq_then ?_
  refine cq_seq ?_
  refine cq_seq ?_
  refine cq_region ?_
  apply sq_g; exact g_move (s := .osl _) rfl; exact rfl
  apply sq_g; exact g_len_own rfl rfl; exact rfl
  apply sq_g; exact g_cmp rfl rfl rfl; exact rfl
  refine sq_nil ?_
  refine sq_then ?_
  (refine cq_cond rfl (fun hb => ?_) (fun hb => ?_) <;> (try simp only [decide_eq_true_eq, decide_eq_false_iff_not, beq_iff_eq, beq_eq_false_iff_ne, bne_iff_ne, bne_eq_false_iff_eq, ne_eq, Bool.not_eq_true', Bool.not_eq_false', Bool.and_eq_true, Bool.or_eq_true, Bool.and_eq_false_iff, Bool.or_eq_false_iff] at hb) <;> (try (exfalso; omega)))
  · refine cq_seq ?_
    refine cq_region ?_
    apply sq_g; exact g_move (s := .osl _) rfl; exact rfl
    apply sq_g; exact g_assign (s := .osl _) rfl; exact rfl
    refine sq_nil ?_
    refine sq_then ?_
    refine cq_ret ?_
    refine sq_then_ret ?_
    exact sq_retWb rfl rfl rfl (by rw [cptF_short (by omega)]) (fun _ _ _ _ => by rw [cptF_short (by omega)])
  · refine cq_skip ?_
    refine sq_then ?_
    refine cq_seq ?_
    refine cq_seq ?_
    refine cq_region ?_
    apply sq_g; exact g_assign (s := .av (.val (.int _ _))) rfl; exact rfl
    refine sq_nil ?_
    refine sq_then ?_
    refine cq_block ?_
    refine cq_loop (γ := Nat) (fun k => [(0, .osl 0), (1, .av eqv), (5, .av (vi k))]) (fun _ => [(0, .row 46 5 v.length (ff v))]) (fun k => 1 ≤ k ∧ k ≤ v.length ∧ ∀ i, i < k → cptPF v i = true) (fun k => v.length - k) 1 ⟨by omega, by omega, fun i hi => by simp [cptPF, show i = 0 by omega]⟩ (ent ⟨.refl _, .refl _, .int rfl, trivial⟩ ⟨⟨_, rfl, .refl _⟩, trivial⟩) ?_
    rintro k ⟨hk1, hkn, hall⟩
    obtain ⟨k', rfl⟩ : ∃ k', k = k' + 1 := ⟨k - 1, by omega⟩
    refine cq_seq ?_
    refine cq_seq ?_
    refine cq_region ?_
    apply sq_g; exact g_move (s := .av (.val (.int _ _))) rfl; exact rfl
    apply sq_g; exact g_move (s := .osl _) rfl; exact rfl
    apply sq_g; exact g_len_own rfl rfl; exact rfl
    apply sq_g; exact g_cmp rfl rfl rfl; exact rfl
    refine sq_nil ?_
    refine sq_then ?_
    (refine cq_cond rfl (fun hb => ?_) (fun hb => ?_) <;> (try simp only [decide_eq_true_eq, decide_eq_false_iff_not, beq_iff_eq, beq_eq_false_iff_ne, bne_iff_ne, bne_eq_false_iff_eq, ne_eq, Bool.not_eq_true', Bool.not_eq_false', Bool.and_eq_true, Bool.or_eq_true, Bool.and_eq_false_iff, Bool.or_eq_false_iff] at hb) <;> (try (exfalso; omega)))
    · refine cq_skip ?_
      refine sq_then ?_
      refine cq_seq ?_
      refine cq_block ?_
      refine cq_seq ?_
      refine cq_drawn ?_
      apply dq_g; exact g_move (s := .av _) rfl; exact rfl
      apply dq_g; exact g_move (s := .osl _) rfl; exact rfl
      apply dq_g; exact g_move (s := .av (.val (.int _ _))) rfl; exact rfl
      apply dq_g; exact  g_index_row (k := k' + 1) rfl rfl rfl rfl (by omega); exact rfl
      apply dq_g; exact  g_load_oel_aggv rfl rfl (by omega); exact rfl
      apply dq_g; exact g_move (s := .osl _) rfl; exact rfl
      apply dq_g; exact g_move (s := .av (.val (.int _ _))) rfl; exact rfl
      apply dq_g; exact g_arith rfl rfl rfl (by omega); exact rfl
      apply dq_g; exact  g_index_row (k := k') rfl rfl rfl (by omega) (by omega); exact rfl
      apply dq_g; exact  g_load_oel_aggv rfl rfl (by omega); exact rfl
      apply dq_g; exact g_callv (eqf_c (gf v (k' + 1)) (gf v k')) rfl rfl; exact rfl
      refine dq_nil tm (by kernel_rfl) ?_
      refine sq_then ?_
      (refine cq_cond rfl (fun hb => ?_) (fun hb => ?_) <;> (try simp only [decide_eq_true_eq, decide_eq_false_iff_not, beq_iff_eq, beq_eq_false_iff_ne, bne_iff_ne, bne_eq_false_iff_eq, ne_eq, Bool.not_eq_true', Bool.not_eq_false', Bool.and_eq_true, Bool.or_eq_true, Bool.and_eq_false_iff, Bool.or_eq_false_iff] at hb) <;> (try (exfalso; omega)))
      · have hK : cptPF v (k' + 1) = false := by simp [cptPF, hb]
        have h1 : cptToF v (k' + 1 + 1) = v.take (k' + 1) := by
          rw [cptToF_succ, hK, if_neg (by simp), cptToF_all v _ (by omega) hall]
        refine cq_seq ?_
        refine cq_region ?_
        apply sq_g; exact g_move (s := .osl _) rfl; exact rfl
        apply sq_g; exact g_move (s := .av (.val (.int _ _))) rfl; exact rfl
        apply sq_g; exact g_from rfl rfl rfl rfl (by omega) (by omega); exact rfl
        apply sq_g; exact g_assign (s := .osx _ _ _ _) rfl; exact rfl
        refine sq_nil ?_
        refine sq_then ?_
        refine cq_seq ?_
        refine cq_seq ?_
        refine cq_region ?_
        apply sq_g; exact g_assign (s := .av (.val (.int _ _))) rfl; exact rfl
        refine sq_nil ?_
        refine sq_then ?_
        refine cq_block ?_
        refine cq_loop (γ := List Fc × Nat) (fun g => [(0, .osl 0), (1, .av eqv), (5, .av (vi (cptToF v (k' + 1 + g.2)).length)), (6, .osx 0 5 (k' + 1) (v.length - (k' + 1))), (7, .av (vi g.2))]) (fun g => [(0, .row 46 5 v.length (ff g.1))])
          (fun g => 1 ≤ g.2 ∧ g.2 ≤ v.length - (k' + 1) ∧ g.1.length = v.length ∧ (cptToF v (k' + 1 + g.2)).length ≤ k' + g.2 ∧ (∀ i, i < (cptToF v (k' + 1 + g.2)).length → gf g.1 i = gf (cptToF v (k' + 1 + g.2)) i) ∧ ∀ i, k' + g.2 ≤ i → gf g.1 i = gf v i) (fun g => v.length - g.2) (v, 1)
          ⟨by simp, by simp; omega, rfl, by simp only [h1]; simp; omega, fun i hi => by simp only [h1] at hi ⊢; rw [gf_take]; simp at hi; rw [if_pos (by omega)], fun i hi => rfl⟩ (ent ⟨.refl _, .refl _, .int (by simp only [h1]; simp; omega), .refl _, .refl _, trivial⟩ ⟨⟨_, rfl, .refl _⟩, trivial⟩) ?_
        rintro ⟨u, m⟩ ⟨hm1, hmn, hul, hcl, hu1, hu2⟩
        simp only at hm1 hmn hul hcl hu1 hu2
        obtain ⟨m', rfl⟩ : ∃ m', m = m' + 1 := ⟨m - 1, by omega⟩
        dsimp only
        refine cq_seq ?_
        refine cq_seq ?_
        refine cq_region ?_
        apply sq_g; exact g_move (s := .av (.val (.int _ _))) rfl; exact rfl
        apply sq_g; exact g_move (s := .osx _ _ _ _) rfl; exact rfl
        apply sq_g; exact g_len_osx rfl; exact rfl
        apply sq_g; exact g_cmp rfl rfl rfl; exact rfl
        refine sq_nil ?_
        refine sq_then ?_
        (refine cq_cond rfl (fun hb => ?_) (fun hb => ?_) <;> (try simp only [decide_eq_true_eq, decide_eq_false_iff_not, beq_iff_eq, beq_eq_false_iff_ne, bne_iff_ne, bne_eq_false_iff_eq, ne_eq, Bool.not_eq_true', Bool.not_eq_false', Bool.and_eq_true, Bool.or_eq_true, Bool.and_eq_false_iff, Bool.or_eq_false_iff] at hb) <;> (try (exfalso; omega)))
        · have e1 : gf u (k' + 1 + (m' + 1)) = gf v (k' + 1 + (m' + 1)) := hu2 _ (by omega)
          have e2 : gf u (k' + 1 + m') = gf v (k' + 1 + m') := hu2 _ (by omega)
          have e3 : k' + 1 + (m' + 1) - 1 = k' + 1 + m' := by omega
          have hS := cptToF_succ v (k' + 1 + (m' + 1))
          refine cq_skip ?_
          refine sq_then ?_
          refine cq_seq ?_
          refine cq_block ?_
          refine cq_seq ?_
          refine cq_drawn ?_
          apply dq_g; exact g_move (s := .av _) rfl; exact rfl
          apply dq_g; exact g_move (s := .osx _ _ _ _) rfl; exact rfl
          apply dq_g; exact g_move (s := .av (.val (.int _ _))) rfl; exact rfl
          apply dq_g; exact  g_index_osx (k := m' + 1) rfl rfl rfl (by omega); exact rfl
          apply dq_g; exact  g_load_oel_aggv rfl rfl (by omega); exact rfl
          apply dq_g; exact g_move (s := .osx _ _ _ _) rfl; exact rfl
          apply dq_g; exact g_move (s := .av (.val (.int _ _))) rfl; exact rfl
          apply dq_g; exact g_arith rfl rfl rfl (by omega); exact rfl
          apply dq_g; exact  g_index_osx (k := m') rfl rfl (by omega) (by omega); exact rfl
          apply dq_g; exact  g_load_oel_aggv rfl rfl (by omega); exact rfl
          apply dq_g; exact g_callv (eqf_c (gf u (k' + 1 + (m' + 1))) (gf u (k' + 1 + m'))) rfl rfl; exact rfl
          apply dq_g; exact g_not rfl; exact rfl
          refine dq_nil tm (by kernel_rfl) ?_
          refine sq_then ?_
          (refine cq_cond rfl (fun hb => ?_) (fun hb => ?_) <;> (try simp only [decide_eq_true_eq, decide_eq_false_iff_not, beq_iff_eq, beq_eq_false_iff_ne, bne_iff_ne, bne_eq_false_iff_eq, ne_eq, Bool.not_eq_true', Bool.not_eq_false', Bool.and_eq_true, Bool.or_eq_true, Bool.and_eq_false_iff, Bool.or_eq_false_iff] at hb) <;> (try (exfalso; omega)))
          · have hP : cptPF v (k' + 1 + (m' + 1)) = true := by
              simp only [cptPF, e3]; rw [← e1, ← e2]; simp [hb]
            rw [hP, if_pos rfl] at hS
            refine cq_seq ?_
            refine cq_region ?_
            apply sq_g; exact g_move (s := .osl _) rfl; exact rfl
            apply sq_g; exact g_move (s := .av (.val (.int _ _))) rfl; exact rfl
            apply sq_g; exact g_move (s := .osx _ _ _ _) rfl; exact rfl
            apply sq_g; exact g_move (s := .av (.val (.int _ _))) rfl; exact rfl
            apply sq_g; exact  g_index_osx (k := m' + 1) rfl rfl rfl (by omega); exact rfl
            apply sq_g; exact  g_load_oel_aggv rfl rfl (by omega); exact rfl
            apply sq_g; exact g_index_row rfl rfl rfl rfl (by omega); exact rfl
            refine sq_s (g_store_oel_aggv rfl rfl (fcf_one _) rfl (by omega)) ?_
            refine sq_nil ?_
            refine sq_then ?_
            refine cq_region ?_
            apply sq_g; exact g_move (s := .av (.val (.int _ _))) rfl; exact rfl
            apply sq_g; exact g_arith rfl rfl rfl (by omega); exact rfl
            apply sq_g; exact g_assign (s := .av (.val (.int _ _))) rfl; exact rfl
            refine sq_nil ?_
            refine sq_then ?_
            refine cq_region ?_
            apply sq_g; exact g_move (s := .av (.val (.int _ _))) rfl; exact rfl
            apply sq_g; exact g_arith rfl rfl rfl (by omega); exact rfl
            apply sq_g; exact g_assign (s := .av (.val (.int _ _))) rfl; exact rfl
            refine sq_nil ?_
            refine sq_round (g := (u, m' + 1)) (u.set (cptToF v (k' + 1 + (m' + 1))).length (gf u (k' + 1 + (m' + 1))), m' + 1 + 1) ⟨by simp, by simp; omega, by simp [hul], ?_, ?_, ?_⟩ (by simp; omega) (ent ⟨.refl _, .refl _, .int (by simp only; rw [show k' + 1 + (m' + 1 + 1) = k' + 1 + (m' + 1) + 1 from by omega, hS]; simp), .refl _, .int (by simp), trivial⟩ ⟨⟨_, rfl, .row rfl (fun i hi j hj => ff_set (by omega) i (by omega) j hj)⟩, trivial⟩)
            · simp only; rw [show k' + 1 + (m' + 1 + 1) = k' + 1 + (m' + 1) + 1 from by omega, hS]; simp; omega
            · simp only; rw [show k' + 1 + (m' + 1 + 1) = k' + 1 + (m' + 1) + 1 from by omega, hS]
              intro i hi
              rw [gf_set, gf_app]
              simp only [List.length_append, List.length_singleton] at hi
              by_cases h : i = (cptToF v (k' + 1 + (m' + 1))).length
              · rw [if_pos ⟨h.symm, by omega⟩, if_neg (by omega), if_pos h, e1]
              · rw [if_neg (fun e => h e.1.symm), if_pos (by omega)]; exact hu1 i (by omega)
            · simp only
              intro i hi
              rw [gf_set, if_neg (fun e => by omega)]
              exact hu2 i (by omega)
          · have hP : cptPF v (k' + 1 + (m' + 1)) = false := by
              simp only [cptPF, e3]; rw [← e1, ← e2]; simp [hb]
            rw [hP, if_neg (by simp)] at hS
            refine cq_skip ?_
            refine sq_then ?_
            refine cq_region ?_
            apply sq_g; exact g_move (s := .av (.val (.int _ _))) rfl; exact rfl
            apply sq_g; exact g_arith rfl rfl rfl (by omega); exact rfl
            apply sq_g; exact g_assign (s := .av (.val (.int _ _))) rfl; exact rfl
            refine sq_nil ?_
            refine sq_round (g := (u, m' + 1)) (u, m' + 1 + 1) ⟨by simp, by simp; omega, hul, ?_, ?_, ?_⟩ (by simp; omega) (ent ⟨.refl _, .refl _, .int (by simp only; rw [show k' + 1 + (m' + 1 + 1) = k' + 1 + (m' + 1) + 1 from by omega, hS]), .refl _, .int (by simp), trivial⟩ ⟨⟨_, rfl, .refl _⟩, trivial⟩)
            · simp only; rw [show k' + 1 + (m' + 1 + 1) = k' + 1 + (m' + 1) + 1 from by omega, hS]; omega
            · simp only; rw [show k' + 1 + (m' + 1 + 1) = k' + 1 + (m' + 1) + 1 from by omega, hS]; exact hu1
            · simp only; exact fun i hi => hu2 i (by omega)
        · have hE : k' + 1 + (m' + 1) = v.length := by omega
          have hcE : cptToF v (k' + 1 + (m' + 1)) = cptF v := by rw [hE]; rfl
          refine cq_exit ?_
          refine sq_then ?_
          refine cq_seq ?_
          refine cq_region ?_
          apply sq_g; exact g_move (s := .osl _) rfl; exact rfl
          apply sq_g; exact g_move (s := .av (.val (.int _ _))) rfl; exact rfl
          apply sq_g; exact g_from rfl rfl rfl rfl (by omega) (by omega); exact rfl
          refine sq_s (g_clearA (lo := (cptToF v (k' + 1 + (m' + 1))).length) zv46 rfl rfl (by decide) zv46_one rfl rfl) ?_
          refine sq_nil ?_
          refine sq_then ?_
          refine cq_seq ?_
          refine cq_region ?_
          apply sq_g; exact g_move (s := .osl _) rfl; exact rfl
          apply sq_g; exact g_move (s := .av (.val (.int _ _))) rfl; exact rfl
          refine sq_v (v_cut rfl rfl rfl rfl (by omega)) rfl ?_
          apply sq_g; exact g_assign (s := .osl _) rfl; exact rfl
          refine sq_nil ?_
          refine sq_then ?_
          refine cq_ret ?_
          refine sq_inBlock_ret ?_
          refine sq_then_ret ?_
          refine sq_then_ret ?_
          refine sq_inBlock_ret ?_
          refine sq_then_ret ?_
          refine sq_retWb rfl rfl rfl (by rw [hcE]) (fun i hi j hj => ?_)
          simp only [rowAny]
          rw [if_neg (by omega)]
          simp only [ff]
          rw [hu1 i (by omega), hcE]
      · refine cq_skip ?_
        refine sq_then ?_
        refine cq_region ?_
        apply sq_g; exact g_move (s := .av (.val (.int _ _))) rfl; exact rfl
        apply sq_g; exact g_arith rfl rfl rfl (by omega); exact rfl
        apply sq_g; exact g_assign (s := .av (.val (.int _ _))) rfl; exact rfl
        refine sq_nil ?_
        exact sq_round (k' + 1 + 1) ⟨by omega, by omega, lt_step hall (by simp [cptPF, hb])⟩ (by omega) (ent ⟨.refl _, .refl _, .int (by simp), trivial⟩ ⟨⟨_, rfl, .refl _⟩, trivial⟩)
    · refine cq_exit ?_
      refine sq_then ?_
      refine cq_seq ?_
      refine cq_region ?_
      apply sq_g; exact g_move (s := .osl _) rfl; exact rfl
      apply sq_g; exact g_assign (s := .osl _) rfl; exact rfl
      refine sq_nil ?_
      refine sq_then ?_
      refine cq_ret ?_
      have e : cptF v = v := by rw [cptF, cptToF_all v _ (Nat.le_refl _) (fun i hi => hall i (by omega)), List.take_length]
      exact sq_retWb rfl rfl rfl (by rw [e]) (fun _ _ _ _ => by rw [e])
end Go.Proofs.YtdoppiajbpmmkaaGreat
namespace Go.Proofs.YtdoppiajbpmmkaaGreat
open Go Go.Vc Go.RowKit
set_option maxHeartbeats 4000000
/-! KDQ -/
/-- A facet's plane bears some of the points, and all others are behind it. -/
structure IsF (l : List Tr) (f : Fc) : Prop where
  le : ∀ i, i < l.length → tdot f.n (gt l i) ≤ f.m
  s : f.s = onTo l f.n f.m l.length
  at_ : ∃ k, k < l.length ∧ tdot f.n (gt l k) = f.m
theorem tdot_neg (n p : Tr) : tdot (tmul n (-1)) p = -tdot n p := by
  simp only [tdot, tmul]
  rw [show (-1 * n.x) * p.x = -(n.x * p.x) from by rw [Int.neg_mul, Int.one_mul, Int.neg_mul], show (-1 * n.y) * p.y = -(n.y * p.y) from by rw [Int.neg_mul, Int.one_mul, Int.neg_mul], show (-1 * n.z) * p.z = -(n.z * p.z) from by rw [Int.neg_mul, Int.one_mul, Int.neg_mul]]
  omega
theorem any_f {p : Nat → Bool} {n : Nat} (h : (List.range n).any p = false) : ∀ i, i < n → p i = false := fun i hi => by
  have := List.any_eq_false.1 h i (List.mem_range.2 hi)
  simpa using this
theorem onTo_neg (l : List Tr) (n : Tr) (m : Int) (k : Nat) : onTo l (tmul n (-1)) (-m) k = onTo l n m k := by
  unfold onTo
  refine List.filter_congr fun i _ => ?_
  rw [tdot_neg]
  by_cases h : tdot n (gt l i) = m
  · simp [h]
  · rw [decide_eq_false h, decide_eq_false (by omega)]
theorem plF_isF {l : List Tr} {i j k : Nat} (hk : k < l.length) (h : plB l i j k = true) : IsF l (plF l i j k) := by
  unfold plB at h
  rw [Bool.and_eq_true] at h
  have hB := h.2
  have hm : tdot (plN l i j k) (gt l k) = plM l i j k := rfl
  unfold plF facN
  unfold facB at hB
  generalize plN l i j k = n at *
  generalize plM l i j k = m at *
  by_cases ha : anyGt l n m l.length = true
  · rw [if_pos ha]
    rw [ha] at hB
    have hlt : anyLt l n m l.length = false := by simpa using hB
    refine ⟨fun i hi => ?_, (onTo_neg l n m _).symm, k, hk, ?_⟩
    · have := any_f hlt i hi
      rw [decide_eq_false_iff_not] at this
      dsimp only
      rw [tdot_neg]; omega
    · dsimp only
      rw [tdot_neg, hm]
  · rw [if_neg ha]
    have hgt : anyGt l n m l.length = false := by simpa using ha
    refine ⟨fun i hi => ?_, rfl, k, hk, hm⟩
    have := any_f hgt i hi
    rw [decide_eq_false_iff_not] at this
    dsimp only
    omega
theorem mem_pK {l : List Tr} {i j : Nat} {f : Fc} : ∀ {k}, f ∈ pK l i j k → ∃ k', k' < k ∧ plB l i j k' = true ∧ f = plF l i j k'
  | 0, h => by cases h
  | k + 1, h => by
    unfold pK at h
    rcases List.mem_append.1 h with h | h
    · obtain ⟨k', h1, h2, h3⟩ := mem_pK h
      exact ⟨k', by omega, h2, h3⟩
    · split at h
      · rename_i hb
        exact ⟨k, by omega, hb, List.mem_singleton.1 h⟩
      · cases h
theorem mem_pJ {l : List Tr} {i : Nat} {f : Fc} : ∀ {j}, f ∈ pJ l i j → ∃ j' k', j' < j ∧ k' < j' ∧ plB l i j' k' = true ∧ f = plF l i j' k'
  | 0, h => by cases h
  | j + 1, h => by
    unfold pJ at h
    rcases List.mem_append.1 h with h | h
    · obtain ⟨j', k', h1, h2, h3⟩ := mem_pJ h
      exact ⟨j', k', by omega, h2, h3⟩
    · obtain ⟨k', h1, h2, h3⟩ := mem_pK h
      exact ⟨j, k', by omega, h1, h2, h3⟩
theorem mem_pI {l : List Tr} {f : Fc} : ∀ {i}, f ∈ pI l i → ∃ i' j' k', i' < i ∧ j' < i' ∧ k' < j' ∧ plB l i' j' k' = true ∧ f = plF l i' j' k'
  | 0, h => by cases h
  | i + 1, h => by
    unfold pI at h
    rcases List.mem_append.1 h with h | h
    · obtain ⟨i', j', k', h1, h2⟩ := mem_pI h
      exact ⟨i', j', k', by omega, h2⟩
    · obtain ⟨j', k', h1, h2, h3, h4⟩ := mem_pJ h
      exact ⟨i, j', k', by omega, h1, h2, h3, h4⟩
theorem planes_isF {l : List Tr} {f : Fc} (h : f ∈ planesL l) : IsF l f := by
  obtain ⟨i, j, k, h1, h2, h3, h4, rfl⟩ := mem_pI h
  exact plF_isF (by omega) h4
theorem isF_inj {l : List Tr} {f g : Fc} (hf : IsF l f) (hg : IsF l g) (h : f.n = g.n) : f = g := by
  obtain ⟨kf, a1, a2⟩ := hf.at_
  obtain ⟨kg, b1, b2⟩ := hg.at_
  have h1 := hg.le kf a1
  have h2 := hf.le kg b1
  rw [← h] at h1 b2
  have hm : f.m = g.m := by omega
  have hs : f.s = g.s := by rw [hf.s, hg.s, h, hm]
  cases f; cases g
  simp only [Fc.mk.injEq]
  exact ⟨h, hm, hs⟩
def facetsL (l : List Tr) : List Fc := cptF (sortF (planesL l))
theorem sortF_len (L : List Fc) : (sortF L).length = L.length := (List.mergeSort_perm L _).length_eq
theorem cptF_len (L : List Fc) : (cptF L).length ≤ L.length := cptToF_len L _
theorem sortedfunc_c (l : List Tr) (hl : RT l) (hn : l.length ≤ 6) : CtrR Tryz.prog 94 [pcl l, .val (.func (.func 96) #[] #[])] 46 5 (planesL l).length (ff (sortF (planesL l))) [] := by
  refine ctrR _ Tryz.func94 rfl rfl Tryz.ntmps94 rfl fun w Z => ?_
  have hpl := planes_len l hn
  have hc := collect_c l hl hn
  have hs := sortf_c (planesL l) (fun f hf g hg h => isF_inj (planes_isF hf) (planes_isF hg) h) (by omega)
  simp only [initT, List.map_cons, List.map_nil, Nat.zero_add, Nat.reduceAdd]
  refine cq_seq ?_
  refine cq_region ?_
  apply sq_g; exact g_assign (s := .av _) rfl; exact rfl
  refine sq_nil ?_
  refine sq_then ?_
  refine cq_seq ?_
  refine cq_region ?_
  apply sq_g; exact g_move (s := .av _) rfl; exact rfl
  refine sq_v (f_call_row 40 (hc) rfl rfl) rfl ?_
  apply sq_g; exact g_assign (s := .osl _) rfl; exact rfl
  refine sq_nil ?_
  refine sq_then ?_
  refine cq_seq ?_
  refine cq_region ?_
  apply sq_g; exact g_move (s := .osl _) rfl; exact rfl
  apply sq_g; exact g_move (s := .av _) rfl; exact rfl
  refine sq_v (v_call_w (hs) rfl rfl rfl) rfl ?_
  refine sq_nil ?_
  refine sq_then ?_
  refine cq_seq ?_
  refine cq_region ?_
  apply sq_g; exact g_move (s := .osl _) rfl; exact rfl
  apply sq_g; exact g_assign (s := .osl _) rfl; exact rfl
  refine sq_nil ?_
  refine sq_then ?_
  refine cq_ret ?_
  exact sq_retR rfl rfl rfl rfl (fun _ _ _ _ => rfl)
theorem facets_c (l : List Tr) (hl : RT l) (hn : l.length ≤ 6) : CtrR Tryz.prog 69 [ts l] 46 5 (facetsL l).length (ff (facetsL l)) [] := by
  refine ctrR _ Tryz.func69 rfl rfl Tryz.ntmps69 rfl fun w Z => ?_
  have hpl := planes_len l hn
  have hp := planes_c l
  have hs := sortedfunc_c l hl hn
  have hc := compactf_c (sortF (planesL l)) (by rw [sortF_len]; omega)
  rw [sortF_len] at hc
  simp only [initT, List.map_cons, List.map_nil, Nat.zero_add, Nat.reduceAdd]
  refine cq_seq ?_
  refine cq_region ?_
  apply sq_g; exact g_assign (s := .av _) rfl; exact rfl
  refine sq_nil ?_
  refine sq_then ?_
  refine cq_seq ?_
  refine cq_region ?_
  apply sq_g; exact g_move (s := .av _) rfl; exact rfl
  apply sq_g; exact g_call (hp) rfl; exact rfl
  refine sq_v (f_call_row 40 (hs) rfl rfl) rfl ?_
  apply sq_g; exact g_assign (s := .osl _) rfl; exact rfl
  refine sq_nil ?_
  refine sq_then ?_
  refine cq_seq ?_
  refine cq_region ?_
  apply sq_g; exact g_move (s := .osl _) rfl; exact rfl
  refine sq_v (v_call_wb (hc) rfl rfl rfl) rfl ?_
  apply sq_g; exact g_assign (s := .osl _) rfl; exact rfl
  refine sq_nil ?_
  refine sq_then ?_
  refine cq_ret ?_
  exact sq_retR rfl rfl rfl rfl (fun _ _ _ _ => rfl)
end Go.Proofs.YtdoppiajbpmmkaaGreat
namespace Go.Proofs.YtdoppiajbpmmkaaGreat
open Go Go.Vc Go.RowKit
set_option maxHeartbeats 4000000
/-! KDQ -/
def tl (a : Tr) : List Int := [a.x, a.y, a.z]
def ixB (p : Nat → Bool) (n : Nat) : Int := match (List.range n).find? p with | some k => k | none => -1
theorem ixB_hit {p : Nat → Bool} {n k : Nat} (hk : k < n) (hall : ∀ j, j < k → p j = false) (hp : p k = true) : ixB p n = k := by
  have : (List.range n).find? p = some k := by
    rw [List.find?_range_eq_some]
    exact ⟨hp, by simpa using hk, fun j hj => by simp [hall j hj]⟩
  unfold ixB; rw [this]
theorem ixB_no {p : Nat → Bool} {n : Nat} (hall : ∀ j, j < n → p j = false) : ixB p n = -1 := by
  have : (List.range n).find? p = none := by
    rw [List.find?_eq_none]
    intro x hx
    simp [hall x (List.mem_range.1 hx)]
  unfold ixB; rw [this]
theorem ixB_lt (p : Nat → Bool) (n : Nat) : -1 ≤ ixB p n ∧ ixB p n < n := by
  unfold ixB
  cases h : (List.range n).find? p with
  | none => simp; omega
  | some k =>
    have := List.mem_range.1 (List.mem_of_find?_eq_some h)
    simp; omega
theorem flt_step {p : Nat → Bool} {n : Nat} (h : ∀ k, k < n → p k = false) (hn : p n = false) : ∀ k, k < n + 1 → p k = false := fun k hk => by
  by_cases e : k = n
  · subst e; exact hn
  · exact h k (by omega)
theorem nz_c (n : Int) : CtrA Tryz.prog 90 [vi n] (vb (decide (n ≠ 0))) := by
  refine ctrA _ Tryz.func90 rfl rfl Tryz.ntmps90 rfl fun w Z => ?_
  simp only [initT, List.map_cons, List.map_nil, Nat.zero_add, Nat.reduceAdd]
  refine cq_seq ?_
  refine cq_region ?_
  apply sq_g; exact g_assign (s := .av (.val (.bool _))) rfl; exact rfl
  refine sq_nil ?_
  refine sq_then ?_
  refine cq_seq ?_
  refine cq_region ?_
  apply sq_g; exact g_move (s := .av (.val (.int _ _))) rfl; exact rfl
  apply sq_g; exact g_cmp rfl rfl rfl; exact rfl
  apply sq_g; exact g_assign (s := .av (.val (.bool _))) rfl; exact rfl
  refine sq_nil ?_
  refine sq_then ?_
  refine cq_ret ?_
  exact sq_res1 rfl (.tmp rfl) (congrArg vb (by rw [Bool.eq_iff_iff]; simp))
def bigB (n : Int) : Bool := decide (n < -100000) || decide (100000 < n)
theorem big_c (n : Int) : CtrA Tryz.prog 45 [vi n] (vb (bigB n)) := by
  refine ctrA _ Tryz.func45 rfl rfl Tryz.ntmps45 rfl fun w Z => ?_
  simp only [initT, List.map_cons, List.map_nil, Nat.zero_add, Nat.reduceAdd]
  focus
    refine cq_seq ?_
    refine cq_region ?_
    apply sq_g; exact g_assign (s := .av (.val (.bool _))) rfl; exact rfl
    refine sq_nil ?_
    refine sq_then ?_
    refine cq_seq ?_
    refine cq_region ?_
    apply sq_g; exact g_move (s := .av (.val (.int _ _))) rfl; exact rfl
    apply sq_g; exact g_cmp rfl rfl rfl; exact rfl
    apply sq_g; exact g_move (s := .av (.val (.bool _))) rfl; exact rfl
    refine sq_split rfl rfl (fun hb => ?_) (fun hb => ?_) <;> (try simp only [decide_eq_true_eq, decide_eq_false_iff_not, beq_iff_eq, beq_eq_false_iff_ne, bne_iff_ne, bne_eq_false_iff_eq, ne_eq, Bool.not_eq_true', Bool.not_eq_false', Bool.and_eq_true, Bool.or_eq_true, Bool.and_eq_false_iff, Bool.or_eq_false_iff] at hb) <;> (try (exfalso; omega))
    refine sq_off rfl rfl rfl rfl ?_
    refine sq_off rfl rfl rfl rfl ?_
    apply sq_g; exact g_pick (s := .av (.val (.bool _))) rfl rfl; exact rfl
    apply sq_g; exact g_assign (s := .av (.val (.bool _))) rfl; exact rfl
    refine sq_nil ?_
    refine sq_then ?_
    refine cq_ret ?_
    rotate_left
    apply sq_on; exact g_move (s := .av (.val (.int _ _))) rfl; exact rfl; exact rfl; exact rfl
    apply sq_on; exact g_cmp rfl rfl rfl; exact rfl; exact rfl; exact rfl
    apply sq_g; exact g_pick (s := .av (.val (.bool _))) rfl rfl; exact rfl
    apply sq_g; exact g_assign (s := .av (.val (.bool _))) rfl; exact rfl
    refine sq_nil ?_
    refine sq_then ?_
    refine cq_ret ?_
    rotate_left
  all_goals (refine sq_res1 rfl (.tmp rfl) (congrArg vb ?_); simp [bigB, *])
theorem indexf_c {g : Nat} {p : Int → Bool} (hg : ∀ n, CtrA Tryz.prog g [vi n] (vb (p n))) (l : List Int) (hn : l.length ≤ 100000) : CtrA Tryz.prog 57 [zs l, .val (.func (.func g) #[] #[])] (vi (ixB (fun k => p (gz l k)) l.length)) := by
  refine ctrA _ Tryz.func57 rfl rfl Tryz.ntmps57 rfl fun w Z => ?_
  simp only [initT, List.map_cons, List.map_nil, Nat.zero_add, Nat.reduceAdd]
  refine cq_seq ?_
  refine cq_region ?_
  apply sq_g; exact g_assign (s := .av (.val (.int _ _))) rfl; exact rfl
  refine sq_nil ?_
  refine sq_then ?_
  refine cq_seq ?_
  refine cq_seq ?_
  refine cq_region ?_
  apply sq_g; exact g_move (s := .av _) rfl; exact rfl
  apply sq_g; exact g_len rfl; exact rfl
  apply sq_g; exact g_move (s := .av (.val (.int _ _))) rfl; exact rfl
  refine sq_nil ?_
  refine sq_then ?_
  refine cq_block ?_
  refine cq_loop (γ := Nat) (fun k => [(0, .av (zs l)), (1, .av (.val (.func (.func g) #[] #[]))), (6, .av (zs l)), (7, .av (vi l.length)), (8, .av (vi k))]) (fun _ => []) (fun k => k ≤ l.length ∧ ∀ j, j < k → p (gz l j) = false) (fun k => l.length - k) 0 ⟨Nat.zero_le _, by omega⟩ (ent ⟨.refl _, .refl _, .refl _, .refl _, .refl _, trivial⟩ trivial) ?_
  rintro k ⟨hk, hall⟩
  refine cq_seq ?_
  refine cq_region ?_
  apply sq_g; exact g_cmp rfl rfl rfl; exact rfl
  refine sq_nil ?_
  refine sq_then ?_
  refine cq_seq ?_
  (refine cq_cond rfl (fun hb => ?_) (fun hb => ?_) <;> (try simp only [decide_eq_true_eq, decide_eq_false_iff_not, beq_iff_eq, beq_eq_false_iff_ne, bne_iff_ne, bne_eq_false_iff_eq, ne_eq, Bool.not_eq_true', Bool.not_eq_false', Bool.and_eq_true, Bool.or_eq_true, Bool.and_eq_false_iff, Bool.or_eq_false_iff] at hb) <;> (try (exfalso; omega)))
  · have hkl : k < l.length := by omega
    have hgk := hg (gz l k)
    refine cq_skip ?_
    refine sq_then ?_
    refine cq_seq ?_
    refine cq_block ?_
    refine cq_seq ?_
    refine cq_region ?_
    apply sq_g; exact g_move (s := .av (.val (.int _ _))) rfl; exact rfl
    apply sq_g; exact g_assign (s := .av (.val (.int _ _))) rfl; exact rfl
    refine sq_nil ?_
    refine sq_then ?_
    refine cq_seq ?_
    refine cq_region ?_
    apply sq_g; exact g_move (s := .av _) rfl; exact rfl
    apply sq_g; exact g_move (s := .av _) rfl; exact rfl
    apply sq_g; exact g_move (s := .av (.val (.int _ _))) rfl; exact rfl
    apply sq_g; exact g_index rfl rfl rfl (by omega); exact rfl
    apply sq_g; exact g_load (τ := .val (.int _ _)) rfl rfl rfl; exact rfl
    apply sq_g; exact g_callv (hgk) rfl rfl; exact rfl
    refine sq_nil ?_
    refine sq_then ?_
    (refine cq_cond rfl (fun hb => ?_) (fun hb => ?_) <;> (try simp only [decide_eq_true_eq, decide_eq_false_iff_not, beq_iff_eq, beq_eq_false_iff_ne, bne_iff_ne, bne_eq_false_iff_eq, ne_eq, Bool.not_eq_true', Bool.not_eq_false', Bool.and_eq_true, Bool.or_eq_true, Bool.and_eq_false_iff, Bool.or_eq_false_iff] at hb) <;> (try (exfalso; omega)))
    · have e1 := ixB_hit (p := fun k => p (gz l k)) hkl hall hb
      refine cq_seq ?_
      refine cq_region ?_
      apply sq_g; exact g_move (s := .av (.val (.int _ _))) rfl; exact rfl
      apply sq_g; exact g_assign (s := .av (.val (.int _ _))) rfl; exact rfl
      refine sq_nil ?_
      refine sq_then ?_
      refine cq_ret ?_
      refine sq_inBlock_ret ?_
      refine sq_then_ret ?_
      refine sq_then_ret ?_
      refine sq_inBlock_ret ?_
      refine sq_then_ret ?_
      exact sq_res1 rfl (.tmp rfl) (by rw [e1])
    · refine cq_skip ?_
      refine sq_then ?_
      refine cq_region ?_
      apply sq_g; exact g_arith rfl rfl rfl (by omega); exact rfl
      apply sq_g; exact g_move (s := .av (.val (.int _ _))) rfl; exact rfl
      refine sq_nil ?_
      exact sq_round (k + 1) ⟨by omega, flt_step (p := fun k => p (gz l k)) hall (by simpa using hb)⟩ (by omega) (ent ⟨.refl _, .refl _, .refl _, .refl _, .int (by omega), trivial⟩ trivial)
  · have hkl : k = l.length := by omega
    subst hkl
    have e1 := ixB_no (p := fun k => p (gz l k)) hall
    refine cq_exit ?_
    refine sq_then ?_
    refine cq_seq ?_
    refine cq_region ?_
    apply sq_g; exact g_assign (s := .av (.val (.int _ _))) rfl; exact rfl
    refine sq_nil ?_
    refine sq_then ?_
    refine cq_ret ?_
    exact sq_res1 rfl (.tmp rfl) (by rw [e1])
theorem containsf_c {g : Nat} {p : Int → Bool} (hg : ∀ n, CtrA Tryz.prog g [vi n] (vb (p n))) (l : List Int) (hn : l.length ≤ 100000) : CtrA Tryz.prog 27 [zs l, .val (.func (.func g) #[] #[])] (vb (decide (0 ≤ ixB (fun k => p (gz l k)) l.length))) := by
  refine ctrA _ Tryz.func27 rfl rfl Tryz.ntmps27 rfl fun w Z => ?_
  have hi := indexf_c hg l hn
  simp only [initT, List.map_cons, List.map_nil, Nat.zero_add, Nat.reduceAdd]
  refine cq_seq ?_
  refine cq_region ?_
  apply sq_g; exact g_assign (s := .av (.val (.bool _))) rfl; exact rfl
  refine sq_nil ?_
  refine sq_then ?_
  refine cq_seq ?_
  refine cq_region ?_
  apply sq_g; exact g_move (s := .av _) rfl; exact rfl
  apply sq_g; exact g_move (s := .av _) rfl; exact rfl
  apply sq_g; exact g_call (hi) rfl; exact rfl
  apply sq_g; exact g_cmp rfl rfl rfl; exact rfl
  apply sq_g; exact g_assign (s := .av (.val (.bool _))) rfl; exact rfl
  refine sq_nil ?_
  refine sq_then ?_
  refine cq_ret ?_
  exact sq_res1 rfl (.tmp rfl) rfl
theorem bs26 (w : World) : (Instr.buildSlice 26 0 #[]).run Tryz.prog w = .ok (.slice (some ⟨w.heap.size, 0, none⟩) 0 0) (w.alloc (.cells #[] 3)) := by kernel_rfl
theorem eg26 (x y : Operand) (a : Addr) (n c : Nat) (w : World) : (eqGuard .eql 26 x y (.slice (some a) n c) (.slice none 0 0)).run Tryz.prog w = .ok () w := by kernel_rfl
theorem ev26 (a : Addr) (n c : Nat) (w : World) : (binOp .eql 26 (.slice (some a) n c) (.slice none 0 0)).run Tryz.prog w = .ok (.bool false) w := by kernel_rfl
theorem zf_one (l : List Int) (i j : Nat) : (zf l i j).one = true := rfl
theorem clone_c (l : List Int) (h0 : 0 < l.length) (hn : l.length ≤ 1000) : CtrR Tryz.prog 92 [zs l] 3 1 l.length (zf l) [] := by
  refine ctrR _ Tryz.func92 rfl rfl Tryz.ntmps92 rfl fun w Z => ?_
  have hml : 0 + l.length ≤ maxLen := by simp only [maxLen]; omega
  simp only [initT, List.map_cons, List.map_nil, Nat.zero_add, Nat.reduceAdd]
  refine cq_seq ?_
  refine cq_region ?_
  apply sq_g; exact g_assign (s := .av _) rfl; exact rfl
  refine sq_nil ?_
  refine sq_then ?_
  refine cq_seq ?_
  refine cq_seq ?_
  refine cq_region ?_
  apply sq_g; exact g_move (s := .av _) rfl; exact rfl
  apply sq_g; exact  g_eqnil_sl (fun a n c w => eg26 _ _ a n c w) (fun a n c w => ev26 a n c w) rfl rfl h0; exact rfl
  refine sq_nil ?_
  refine sq_then ?_
  refine cq_cond_f rfl ?_
  refine cq_skip ?_
  refine sq_then ?_
  refine cq_seq ?_
  refine cq_region ?_
  refine sq_v (f_bs0 (zf []) 70 bs26 rfl) rfl ?_
  apply sq_g; exact g_move (s := .av _) rfl; exact rfl
  refine sq_v (v_append (h := zf l) (m := l.length) rfl rfl rfl (fun i _ j _ => zf_one l i j) h0 hml (by omega)) rfl ?_
  apply sq_g; exact g_assign (s := .osl _) rfl; exact rfl
  refine sq_nil ?_
  refine sq_then ?_
  refine cq_ret ?_
  exact sq_retR rfl rfl rfl (by omega) (fun i hi j hj => by unfold rowApp; rw [if_neg (by omega)]; rfl)
end Go.Proofs.YtdoppiajbpmmkaaGreat
namespace Go.Proofs.YtdoppiajbpmmkaaGreat
open Go Go.Vc Go.RowKit
set_option maxHeartbeats 4000000
/-! KDQ -/
def shp (ax : Nat) (p : Tr) : Pt := ⟨gz ((tl p).take ax ++ (tl p).drop (ax + 1)) 0, gz ((tl p).take ax ++ (tl p).drop (ax + 1)) 1⟩
def axI (n : Tr) : Int := ixB (fun k => decide (gz (tl n) k ≠ 0)) (tl n).length
def axN (n : Tr) : Nat := (axI n).toNat
def shN (l : List Tr) (n : Tr) : List Pt := l.map (shp (axN n))
theorem ax_of {n : Tr} (h : n ≠ tz) : axI n = (axN n : Nat) ∧ axN n < 3 := by
  have hb := ixB_lt (fun k => decide (gz (tl n) k ≠ 0)) (tl n).length
  have hl : (tl n).length = 3 := rfl
  have h0 : 0 ≤ axI n := by
    rcases (by omega : axI n < 0 ∨ 0 ≤ axI n) with h1 | h1
    · exfalso
      apply h
      have key : ∀ k, k < 3 → gz (tl n) k = 0 := fun k hk => by
        refine Decidable.byContradiction fun hc => ?_
        unfold axI ixB at h1
        cases hf : (List.range (tl n).length).find? (fun k => decide (gz (tl n) k ≠ 0)) with
        | none =>
          have := List.find?_eq_none.1 hf k (List.mem_range.2 hk)
          simp [hc] at this
        | some j => rw [hf] at h1; simp at h1; omega
      have k0 := key 0 (by omega)
      have k1 := key 1 (by omega)
      have k2 := key 2 (by omega)
      cases n
      simp only [tz, Tr.mk.injEq]
      exact ⟨k0, k1, k2⟩
    · exact h1
  have h2 : axI n < (tl n).length := hb.2
  unfold axN
  omega
theorem pf_row (p : Pt) : ∀ i, i < 1 → ∀ j, j < 2 → ∃ u, [Value.int .i64 p.x, .int .i64 p.y][i * 2 + j]? = some u ∧ pf [p] i j = .val u := by
  intro i hi j hj
  obtain rfl : i = 0 := by omega
  match j, hj with
  | 0, _ => exact ⟨_, rfl, rfl⟩
  | 1, _ => exact ⟨_, rfl, rfl⟩
theorem shadow_c (l : List Tr) (n : Tr) (h : n ≠ tz) (hn : l.length ≤ 1000) : CtrR Tryz.prog 67 [ts l, tp n] 107 2 (shN l n).length (pf (shN l n)) [] := by
  refine ctrR _ Tryz.func67 rfl rfl Tryz.ntmps67 rfl fun w Z => ?_
  obtain ⟨hA, hA3⟩ := ax_of h
  have hix := indexf_c nz_c (tl n) (show 3 ≤ 100000 by decide)
  rw [show ixB (fun k => decide (gz (tl n) k ≠ 0)) (tl n).length = ((axN n : Nat) : Int) from hA] at hix
  have hptr : ∀ i, i < 3 → (fun i => AV.val ([Go.Value.int .i64 n.x, .int .i64 n.y, .int .i64 n.z].getD i Go.undef)) i = (fun i => zf (tl n) i 0) i := fun i hi => by
    rcases (by omega : i = 0 ∨ i = 1 ∨ i = 2) with rfl | rfl | rfl <;> rfl
  unfold shN
  generalize axN n = ax at hA3 hix ⊢
  simp only [initT, List.map_cons, List.map_nil, Nat.zero_add, Nat.reduceAdd]
  refine cq_seq ?_
  refine cq_region ?_
  apply sq_g; exact g_box_agg rfl; exact rfl
  apply sq_g; exact g_assign (s := .av _) rfl; exact rfl
  refine sq_nil ?_
  refine sq_then ?_
  refine cq_seq ?_
  refine cq_region ?_
  refine lsq_ent (ent_ptr (n := 3) 3 (f' := fun i => zf (tl n) i 0) rfl hptr) ?_
  apply sq_g; exact  g_slice_arr rfl (by decide) (by decide); exact rfl
  apply sq_g; exact g_call (hix) rfl; exact rfl
  apply sq_g; exact g_assign (s := .av (.val (.int _ _))) rfl; exact rfl
  refine sq_nil ?_
  refine sq_then ?_
  refine cq_seq ?_
  refine cq_region ?_
  apply sq_g; exact g_assign (s := .av _) rfl; exact rfl
  refine sq_nil ?_
  refine sq_then ?_
  refine cq_seq ?_
  refine cq_seq ?_
  refine cq_region ?_
  apply sq_g; exact g_move (s := .av _) rfl; exact rfl
  apply sq_g; exact g_len rfl; exact rfl
  apply sq_g; exact g_move (s := .av (.val (.int _ _))) rfl; exact rfl
  refine sq_nil ?_
  refine sq_then ?_
  refine cq_block ?_
  refine cq_loop (γ := Nat) (fun k => [(5, .av (vi ax)), (6, .osl 70), (12, .av (ts l)), (13, .av (vi l.length)), (14, .av (vi k))]) (fun k => [(70, .row 107 2 ((l.take k).map (shp ax)).length (pf ((l.take k).map (shp ax))))]) (fun k => k ≤ l.length) (fun k => l.length - k) 0 (Nat.zero_le _) (Ent.trans (ent_row (dd := 6) 70 107 2 (pf []) rfl rfl) (ent ⟨.refl _, .refl _, .refl _, .refl _, .refl _, trivial⟩ ⟨⟨_, rfl, .refl _⟩, trivial⟩)) ?_
  intro k hk
  refine cq_seq ?_
  refine cq_region ?_
  apply sq_g; exact g_cmp rfl rfl rfl; exact rfl
  refine sq_nil ?_
  refine sq_then ?_
  refine cq_seq ?_
  (refine cq_cond rfl (fun hb => ?_) (fun hb => ?_) <;> (try simp only [decide_eq_true_eq, decide_eq_false_iff_not, beq_iff_eq, beq_eq_false_iff_ne, bne_iff_ne, bne_eq_false_iff_eq, ne_eq, Bool.not_eq_true', Bool.not_eq_false', Bool.and_eq_true, Bool.or_eq_true, Bool.and_eq_false_iff, Bool.or_eq_false_iff] at hb) <;> (try (exfalso; omega)))
  · have hkl : k < l.length := by omega
    have ht := gt_take hkl
    have hl1 : ((l.take k).map (shp ax)).length ≤ k := by rw [List.length_map, List.length_take]; omega
    have e1 : (l.take (k + 1)).map (shp ax) = (l.take k).map (shp ax) ++ [shp ax (gt l k)] := by rw [ht]; simp
    generalize (l.take k).map (shp ax) = X at hl1 e1 ⊢
    have hcl := clone_c (tl (gt l k)) (show 0 < 3 by decide) (show 3 ≤ 1000 by decide)
    have hdl := delete_c (tl (gt l k)) ax (ax + 1) (show 3 ≤ 1000000 by decide) (show 0 < 3 by decide) (by omega) (show ax + 1 ≤ 3 by omega)
    rw [show ((ax + 1 : Nat) : Int) = (ax : Int) + 1 from by omega, show (tl (gt l k)).length - (ax + 1 - ax) = 2 from by rw [show (tl (gt l k)).length = 3 from rfl]; omega] at hdl
    have hml : X.length + 1 ≤ maxLen := by simp only [maxLen]; omega
    refine cq_skip ?_
    refine sq_then ?_
    refine cq_seq ?_
    refine cq_block ?_
    refine cq_seq ?_
    refine cq_region ?_
    apply sq_g; exact g_index rfl rfl rfl (by omega); exact rfl
    apply sq_g; exact g_load_agg (us := [.int _ _, .int _ _, .int _ _]) rfl rfl rfl rfl; exact rfl
    refine sq_v (f_alloc 10 rfl) rfl ?_
    refine sq_s (g_store_agg rfl rfl rfl rfl rfl rfl) ?_
    refine sq_nil ?_
    refine sq_then ?_
    refine cq_seq ?_
    refine cq_region ?_
    refine lsq_ent (ent_freezec 8 10 (fun i => zf (tl (gt l k)) i 0) rfl rfl rfl) ?_
    apply sq_g; exact  g_slice_arr (n := 3) rfl (by decide) (by decide); exact rfl
    refine sq_v (f_call_row 71 (hcl) rfl rfl) rfl ?_
    apply sq_g; exact g_move (s := .av (.val (.int _ _))) rfl; exact rfl
    apply sq_g; exact g_move (s := .av (.val (.int _ _))) rfl; exact rfl
    apply sq_g; exact g_arith rfl rfl rfl (by omega); exact rfl
    refine sq_v (v_call_wb (hdl) rfl rfl rfl) rfl ?_
    apply sq_g; exact g_assign (s := .osl _) rfl; exact rfl
    refine sq_nil ?_
    refine sq_then ?_
    refine cq_drawn ?_
    apply dq_g; exact g_move (s := .osl _) rfl; exact rfl
    apply dq_g; exact g_move (s := .osl _) rfl; exact rfl
    apply dq_g; exact g_index_row rfl rfl rfl (Int.toNat_of_nonneg (by omega)).symm (by omega); exact rfl
    apply dq_g; exact g_load_oel (τ := .val (.int _ _)) rfl rfl (by omega) rfl rfl; exact rfl
    apply dq_g; exact g_move (s := .osl _) rfl; exact rfl
    apply dq_g; exact g_index_row rfl rfl rfl (Int.toNat_of_nonneg (by omega)).symm (by omega); exact rfl
    apply dq_g; exact g_load_oel (τ := .val (.int _ _)) rfl rfl (by omega) rfl rfl; exact rfl
    apply dq_g; exact g_build (is := [0, 1]) (xs := [_, _]) (vs := [_, _]) (tb107 _ _) rfl rfl; exact rfl
    apply dq_g; exact  g_bslice (is := [0]) (xs := [_]) (vs := [_]) (us := [_, _]) (tq104 _ _) rfl rfl rfl (pf_row (shp ax (gt l k))); exact rfl
    refine dq_tail tm (by kernel_rfl) ?_
    refine sq_v (v_push_pt rfl rfl rfl (by omega) rfl) rfl ?_
    apply sq_g; exact g_assign (s := .osl _) rfl; exact rfl
    refine sq_nil ?_
    refine sq_then ?_
    refine cq_region ?_
    apply sq_g; exact g_arith rfl rfl rfl (by omega); exact rfl
    apply sq_g; exact g_move (s := .av (.val (.int _ _))) rfl; exact rfl
    refine sq_nil ?_
    exact sq_round (k + 1) (by omega) (by omega) (ent ⟨.refl _, .refl _, .refl _, .refl _, .int (by omega), trivial⟩ ⟨⟨_, rfl, by rw [e1]; exact .refl _⟩, trivial⟩)
  · have hkl : k = l.length := by omega
    subst hkl
    rw [List.take_length]
    refine cq_exit ?_
    refine sq_then ?_
    refine cq_seq ?_
    refine cq_region ?_
    apply sq_g; exact g_move (s := .osl _) rfl; exact rfl
    apply sq_g; exact g_assign (s := .osl _) rfl; exact rfl
    refine sq_nil ?_
    refine sq_then ?_
    refine cq_ret ?_
    exact sq_retR rfl rfl rfl rfl (fun _ _ _ _ => rfl)
theorem shN_len (l : List Tr) (n : Tr) : (shN l n).length = l.length := by simp [shN]
theorem corners_c (l : List Tr) (n : Tr) (h : n ≠ tz) (hn : l.length ≤ 6) : CtrR Tryz.prog 74 [ts l, tp n] 3 1 (hullN (shN l n)).length (xf (hullN (shN l n))) [vi (errH (shN l n))] := by
  refine ctrR _ Tryz.func74 rfl rfl Tryz.ntmps74 rfl fun w Z => ?_
  have hsh := (shadow_c l n h (by omega)).ro
  have hh := hullR_c (shN l n) (fun _ => by rw [shN_len]; omega)
  simp only [initT, List.map_cons, List.map_nil, Nat.zero_add, Nat.reduceAdd]
  refine cq_seq ?_
  refine cq_region ?_
  apply sq_g; exact g_box_agg rfl; exact rfl
  apply sq_g; exact g_assign (s := .av _) rfl; exact rfl
  apply sq_g; exact g_assign (s := .av (.val (.int _ _))) rfl; exact rfl
  refine sq_nil ?_
  refine sq_then ?_
  refine cq_seq ?_
  refine cq_region ?_
  apply sq_g; exact g_move (s := .av _) rfl; exact rfl
  apply sq_g; exact g_load_agg (us := [.int _ _, .int _ _, .int _ _]) rfl rfl rfl rfl; exact rfl
  apply sq_g; exact g_call (hsh) rfl; exact rfl
  refine sq_v (f_call_rowN 40 (hh) rfl rfl) rfl ?_
  apply sq_g; exact g_extractR0 rfl; exact rfl
  apply sq_g; exact g_extractR rfl rfl; exact rfl
  apply sq_g; exact g_assign (s := .osl _) rfl; exact rfl
  apply sq_g; exact g_assign (s := .av (.val (.int _ _))) rfl; exact rfl
  refine sq_nil ?_
  refine sq_then ?_
  refine cq_ret ?_
  exact sq_retRN rfl rfl rfl rfl (fun _ _ _ _ => rfl) (τs := [vi _]) ⟨.tmp rfl, trivial⟩ rfl
end Go.Proofs.YtdoppiajbpmmkaaGreat
namespace Go.Proofs.YtdoppiajbpmmkaaGreat
open Go Go.Vc Go.RowKit
set_option maxHeartbeats 1000000
/-! Facets and spans: what is not zero, what is in range. -/
theorem tg_dvd (a : Tr) : tg a ∣ a.x.natAbs ∧ tg a ∣ a.y.natAbs ∧ tg a ∣ a.z.natAbs := by
  unfold tg
  refine ⟨?_, ?_, Nat.gcd_dvd_right _ _⟩
  · exact Nat.dvd_trans (Nat.gcd_dvd_left _ _) (Nat.dvd_trans (Nat.gcd_dvd_left _ _) (Nat.gcd_dvd_right _ _))
  · exact Nat.dvd_trans (Nat.gcd_dvd_left _ _) (Nat.gcd_dvd_right _ _)
theorem tdiv_zero {g : Nat} {n : Int} (hd : g ∣ n.natAbs) (h : n.tdiv g = 0) : n = 0 := by
  have h1 : (g : Int) ∣ n := Int.ofNat_dvd_left.2 hd
  have h2 := Int.mul_tdiv_cancel' h1
  rw [h, Int.mul_zero] at h2
  exact h2.symm
theorem tpr_ne {a : Tr} (h : a ≠ tz) : tpr a ≠ tz := by
  unfold tpr
  split
  · exact h
  · intro e
    apply h
    obtain ⟨d1, d2, d3⟩ := tg_dvd a
    simp only [tz, Tr.mk.injEq] at e
    exact tr_ext (tdiv_zero d1 e.1) (tdiv_zero d2 e.2.1) (tdiv_zero d3 e.2.2)
theorem tmul_ne {a : Tr} (h : a ≠ tz) : tmul a (-1) ≠ tz := by
  intro e
  apply h
  simp only [tmul, tz, Tr.mk.injEq] at e
  exact tr_ext (by show a.x = 0; omega) (by show a.y = 0; omega) (by show a.z = 0; omega)
theorem spStep_way {s : Spn} {p : Tr} (h : 1 ≤ s.dim → s.way ≠ tz) : 1 ≤ (spStep s p).dim → (spStep s p).way ≠ tz := by
  unfold spStep
  split
  · intro h1; simp at h1
  · split
    · split
      · exact h
      · rename_i hne; exact fun _ => hne
    · split
      · split
        · exact h
        · rename_i hne; exact fun _ => hne
      · split
        · rename_i h2
          have hw := tpr_ne (h (by omega))
          split <;> exact fun _ => hw
        · exact h
theorem spTo_way (l : List Tr) : ∀ k, k ≤ l.length → 1 ≤ (spTo l k).dim → (spTo l k).way ≠ tz
  | 0, _ => fun h => by simp [spTo] at h
  | k + 1, hk => by
    rw [spTo_succ (by omega)]
    exact spStep_way (spTo_way l k (by omega))
theorem spn_way {l : List Tr} (h : 1 ≤ (spn l).dim) : (spn l).way ≠ tz := spTo_way l _ (Nat.le_refl _) h
theorem spn_pos {l : List Tr} (h : (spn l).dim ≠ -1) : 0 < l.length := by
  rcases Nat.eq_zero_or_pos l.length with h0 | h0
  · exfalso
    apply h
    have : l = [] := List.eq_nil_of_length_eq_zero h0
    subst this
    rfl
  · exact h0
theorem planes_ne {l : List Tr} {f : Fc} (h : f ∈ planesL l) : f.n ≠ tz := by
  obtain ⟨i, j, k, _, _, _, h4, rfl⟩ := mem_pI h
  unfold plB at h4
  rw [Bool.and_eq_true, decide_eq_true_eq] at h4
  unfold plF facN
  split
  · exact tmul_ne h4.1
  · exact h4.1
theorem cptF_sub {L : List Fc} {f : Fc} (h : f ∈ cptF L) : f ∈ L := by
  unfold cptF cptToF at h
  obtain ⟨i, hi, rfl⟩ := List.mem_map.1 h
  exact gf_mem (List.mem_range.1 (List.mem_filter.1 hi).1)
theorem facets_sub {l : List Tr} {f : Fc} (h : f ∈ facetsL l) : f ∈ planesL l := (List.mergeSort_perm _ _).mem_iff.1 (cptF_sub h)
theorem onTo_mem {l : List Tr} {n : Tr} {m : Int} {k i : Nat} : i ∈ onTo l n m k ↔ i < k ∧ tdot n (gt l i) = m := by unfold onTo; simp
theorem fac_s {l : List Tr} {f : Fc} (h : IsF l f) : 0 < f.s.length ∧ ∀ i ∈ f.s, i < l.length := by
  obtain ⟨k, h1, h2⟩ := h.at_
  rw [h.s]
  exact ⟨List.length_pos_of_mem (onTo_mem.2 ⟨h1, h2⟩), fun i hi => (onTo_mem.1 hi).1⟩
theorem gi_mem {v : List Nat} {i : Nat} (h : i < v.length) : gi v i ∈ v := by rw [gi_eq h]; exact List.getElem_mem h
/-- The hull's indices are indices. -/
theorem arr_lt (l : List Pt) : ∀ x ∈ arr l, x < l.length := by
  have h1 : ∀ x ∈ ordN l, x < l.length := fun x hx => by
    obtain ⟨k, hk, e⟩ := List.getElem_of_mem hx
    rw [← e, ← gi_eq hk]; exact ordN_lt l k hk
  have h2 : ∀ v : List Nat, (∀ x ∈ v, x < l.length) → ∀ x ∈ cpt l v, x < l.length := fun v hv x hx => by
    unfold cpt cptTo at hx
    obtain ⟨i, hi, rfl⟩ := List.mem_map.1 hx
    exact hv _ (gi_mem (List.mem_range.1 (List.mem_filter.1 hi).1))
  have hpop : ∀ (i : Nat) (st : List Nat), ∀ x ∈ pop l i st, x ∈ st := by
    intro i st
    induction st with
    | nil => intro x hx; simpa [pop] using hx
    | cons b r ih =>
      intro x hx
      match r, ih with
      | [], _ => simpa [pop] using hx
      | a :: r, ih =>
        unfold pop at hx
        split at hx
        · exact List.mem_cons_of_mem _ (ih x hx)
        · exact hx
  have hstk : ∀ (v st : List Nat), (∀ x ∈ v, x < l.length) → (∀ x ∈ st, x < l.length) → ∀ x ∈ v.foldl (fun st i => i :: pop l i st) st, x < l.length := by
    intro v
    induction v with
    | nil => intro st _ h2; exact h2
    | cons i v ih =>
      intro st h1 h2
      refine ih _ (fun x hx => h1 x (List.mem_cons_of_mem _ hx)) (fun x hx => ?_)
      rcases List.mem_cons.1 hx with rfl | hx
      · exact h1 _ List.mem_cons_self
      · exact h2 x (hpop i st x hx)
  have hch : ∀ v : List Nat, (∀ x ∈ v, x < l.length) → ∀ x ∈ chain l v, x < l.length := fun v hv x hx => by
    unfold chain stk at hx
    rw [List.mem_reverse] at hx
    exact hstk v [] hv (fun x hx => by cases hx) x (List.mem_of_mem_tail hx)
  have hc := h2 _ h1
  intro x hx
  unfold arr at hx
  split at hx
  · exact hc x hx
  · rcases List.mem_append.1 hx with hx | hx
    · exact hch _ hc x hx
    · exact hch _ (fun y hy => hc y (List.mem_reverse.1 hy)) x hx
theorem hullN_lt (l : List Pt) : ∀ x ∈ hullN l, x < l.length := by
  unfold hullN
  split
  · exact arr_lt l
  · intro x hx; cases hx
theorem hullN_len (l : List Pt) : (hullN l).length ≤ 2 * l.length := by
  unfold hullN
  split
  · have h1 := ordN_len l
    have h2 := cptTo_len l (ordN l) (ordN l).length
    have h3 := chain_le l (cpt l (ordN l))
    have h4 := chain_le l (cpt l (ordN l)).reverse
    unfold cpt at *
    unfold arr
    split
    · unfold cpt; omega
    · simp [cpt] at *; omega
  · simp
theorem gt_map (l : List Tr) (s : List Nat) {i : Nat} (h : i < s.length) : gt (s.map (gt l)) i = gt l (gi s i) := by unfold gt gi; simp [List.getD, h]
theorem RT.pick {l : List Tr} (h : RT l) (s : List Nat) : RT (s.map (gt l)) := fun i => by
  by_cases hi : i < s.length
  · rw [gt_map l s hi]; exact h _
  · have e : gt (s.map (gt l)) i = ⟨0, 0, 0⟩ := by unfold gt; rw [List.getD, List.getElem?_eq_none (by simp; omega)]; rfl
    rw [e]
    exact ⟨by decide, by decide, by decide⟩
theorem shp_right {p : Tr} {ax : Nat} (h : BT 100000 p) (ha : ax < 3) : rightB (shp ax p) = true := by
  have hx := h.x; have hy := h.y; have hz := h.z
  rcases (by omega : ax = 0 ∨ ax = 1 ∨ ax = 2) with rfl | rfl | rfl
  · show (inB p.y && inB p.z) = true
    simp [inB]; omega
  · show (inB p.x && inB p.z) = true
    simp [inB]; omega
  · show (inB p.x && inB p.y) = true
    simp [inB]; omega
theorem sh_err {l : List Tr} {n : Tr} (hl : RT l) (hn : n ≠ tz) (h0 : 0 < l.length) (h6 : l.length ≤ 6) : errH (shN l n) = 0 := by
  have hc : chk (shN l n) = 0 := by
    unfold chk
    rw [if_neg (by rw [shN_len]; omega), if_pos]
    rw [List.all_eq_true]
    intro p hp
    unfold shN at hp
    obtain ⟨q, hq, rfl⟩ := List.mem_map.1 hp
    obtain ⟨i, hi, rfl⟩ := List.getElem_of_mem hq
    rw [← gt_eq hi]
    exact shp_right (hl i) (ax_of hn).2
  unfold errH
  rw [if_neg (by omega), if_neg (by rw [shN_len]; omega)]
end Go.Proofs.YtdoppiajbpmmkaaGreat
