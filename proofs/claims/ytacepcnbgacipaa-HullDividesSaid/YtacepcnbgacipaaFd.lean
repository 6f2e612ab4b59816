/- A part of the proof that the law returns true at every input and that the input reads behind the call as it read before; this part states nothing of its own that needs a condition of the input. -/
import Derived.Test.YtacepcnbgacipaaW
import Derived.Test.YtacepcnbgacipaaFc
set_option linter.unusedVariables false
set_option linter.unusedSimpArgs false
namespace Go.Vc
open Go Go.RowKit
/-! ### A drawn region whose last operations stand behind all others -/
section
variable {P : Program} {E : Env} {ops : Array Oper}
theorem draw_seq {Q : Exit → Act → World → Prop} {L : List Oper} (hops : ops = L.toArray) (hback : ∀ (j : Nat) o, L[j]? = some o → ∀ e ∈ o.after.toList, Region.binds .any e = true → e.on < j) :
    ∀ (tl L1 : List Oper) (fuel : Nat) (listed : Array Bool) (a : Act) (w : World), L = L1 ++ tl → (∀ i j : Nat, L1.length ≤ j → j < i → i < L.length → reach L 12 i j = true) → listed.size = L.length →
      (∀ j, listed.getD j false = decide (j < L1.length)) → tl.length ≤ fuel → wpListIn (fc E.round) 0 P ops Q tl a w → wpAnyIn (fc E.round) 0 P .any ops Q fuel listed a w
  | [], L1, fuel, listed, a, w, hL, _, hls, hfl, _, h => by
    have hr : Region.ready .any ops listed = [] := by
      simp only [Region.ready, List.filter_eq_nil_iff, List.mem_range, Bool.and_eq_true, not_and]
      intro i hi hni
      exfalso
      have hi2 : i < L1.length := by rw [hops] at hi; simp only [List.size_toArray, hL, List.append_nil] at hi; exact hi
      have h1 := hfl i
      have hi3 : i < listed.size := by rw [hls, hL]; simpa using hi2
      simp only [hi2, decide_true] at h1
      simp [Array.getD_eq_getD_getElem?, Array.getElem?_eq_getElem hi3] at hni h1
      rw [h1] at hni; cases hni
    cases fuel with
    | zero => exact ⟨hr, h⟩
    | succ f => exact ⟨fun _ => h, fun i hi => by rw [hr] at hi; cases hi⟩
  | o :: tl, L1, fuel, listed, a, w, hL, hre, hls, hfl, hfu, h => by
    obtain ⟨f, rfl⟩ : ∃ f, fuel = f + 1 := ⟨fuel - 1, by simp only [List.length_cons] at hfu; omega⟩
    have hlen : L.length = L1.length + (tl.length + 1) := by rw [hL]; simp
    have hk : L[L1.length]? = some o := by rw [hL]; simp
    have hko : ops[L1.length]? = some o := by rw [hops]; simpa using hk
    have hun : ∀ i, i < L.length → listed.getD i true = listed.getD i false := fun i hi => by
      simp [Array.getD_eq_getD_getElem?, Array.getElem?_eq_getElem (show i < listed.size by omega)]
    have hkr : L1.length ∈ Region.ready .any ops listed := by
      simp only [Region.ready, List.mem_filter, List.mem_range, Bool.and_eq_true]
      refine ⟨by rw [hops]; simp only [List.size_toArray]; omega, ?_, ?_⟩
      · rw [hun _ (by omega), hfl]; simp
      · rw [hko]
        simp only [Option.map_some, Option.getD_some]
        rw [Array.all_eq_true']
        intro e he
        cases hb : Region.binds .any e with
        | false => rfl
        | true =>
          have := hback _ o hk e (Array.mem_toList_iff.2 he) hb
          simp [hfl, this]
    refine ⟨fun hr => absurd (hr ▸ hkr) (by simp), fun i hi => ?_⟩
    simp only [Region.ready, List.mem_filter, List.mem_range, Bool.and_eq_true] at hi
    obtain ⟨hilt, hni, hedge⟩ := hi
    have hil : i < L.length := by rw [hops] at hilt; simpa using hilt
    have hnl : ¬ i < L1.length := by
      intro hlt
      rw [hun i hil, hfl] at hni
      simp [hlt] at hni
    have hik : i = L1.length := by
      by_cases hg : L1.length < i
      · exfalso
        obtain ⟨o', ho'⟩ : ∃ o', L[i]? = some o' := ⟨_, List.getElem?_eq_getElem hil⟩
        have hoi : ops[i]? = some o' := by rw [hops]; simpa using ho'
        have hD : ∀ j, listed.getD j false = true → ∀ o, L[j]? = some o → ∀ e ∈ o.after.toList, Region.binds .any e = true → listed.getD e.on false = true := by
          intro j hj o2 ho2 e he hb
          rw [hfl] at hj ⊢
          have := hback j o2 ho2 e he hb
          simp only [decide_eq_true_eq] at hj ⊢
          omega
        have := reach_flag (l := L) (D := fun k => listed.getD k false = true) hD 12 i L1.length o' ho' (fun e he hb => by
          rw [hoi] at hedge
          simp only [Option.map_some, Option.getD_some, Array.all_eq_true'] at hedge
          have := hedge e (Array.mem_toList_iff.1 he)
          simpa [hb] using this) (hre i L1.length (Nat.le_refl _) hg hil)
        rw [hfl] at this
        simp at this
      · omega
    subst hik
    have hrec : ∀ a' w', wpListIn (fc E.round) 0 P ops Q tl a' w' → wpAnyIn (fc E.round) 0 P .any ops Q f (listed.setIfInBounds L1.length true) a' w' := by
      intro a' w' h'
      refine draw_seq hops hback tl (L1 ++ [o]) f _ a' w' (by rw [hL]; simp) (fun i j h1 h2 h3 => hre i j (by simp at h1; omega) h2 h3) (by simp [hls]) ?_ (by simp only [List.length_cons] at hfu; omega) h'
      intro j
      by_cases hj : j = L1.length
      · subst hj
        simp [Array.getD_eq_getD_getElem?, show L1.length < listed.size by omega]
      · have h1 := hfl j
        have h2 : (listed.setIfInBounds L1.length true).getD j false = listed.getD j false := by
          simp [Array.getD_eq_getD_getElem?, Array.getElem?_setIfInBounds_ne (Ne.symm hj)]
        rw [h2, h1]
        simp only [List.length_append, List.length_cons, List.length_nil, decide_eq_decide]
        omega
    unfold wpOpIn
    simp only [hko]
    simp only [wpListIn] at h
    split
    · rename_i hw
      rw [if_pos hw] at h
      exact Oper.wpIn_mono hrec h
    · rename_i hw
      rw [if_neg hw] at h
      exact ⟨h.1, hrec _ _ h.2⟩

theorem draw_tl {Q : Exit → Act → World → Prop} {l : List (Oper × Rec)} {tl : List Oper} {T : Tab} {O : Own} (hops : ops = (l.map (·.1) ++ tl).toArray) (hdr : DR P E ops l T O) (hok : drawOk ops l = true) (hfr : freshOk l T O = true) (hne : 0 < tl.length)
    (hback : ∀ (j : Nat) o, (l.map (·.1) ++ tl)[j]? = some o → ∀ e ∈ o.after.toList, Region.binds .any e = true → e.on < j)
    (hre : ∀ i j : Nat, l.length ≤ i → j < i → i < l.length + tl.length → reach (l.map (·.1) ++ tl) 12 i j = true)
    (hQ : ∀ a w, Sat E (comp (fun _ => true) (l.map (·.2.tw)) T) (comp (fun _ => true) (l.map (·.2.upd)) O) a w → wpListIn (fc E.round) 0 P ops Q tl a w) :
    ∀ (fuel : Nat) (listed : Array Bool) (a : Act) (w : World), listed.size = l.length + tl.length →
      (∀ j, listed.getD j false = true → ∀ o, (l.map (·.1) ++ tl)[j]? = some o → ∀ e ∈ o.after.toList, Region.binds .any e = true → listed.getD e.on false = true) →
      (∀ t, t < tl.length → listed.getD (l.length + t) false = false) →
      (l.length + tl.length - fuel ≤ (listed.toList.filter id).length) →
      Sat E (comp (fun j => listed.getD j false) (l.map (·.2.tw)) T) (comp (fun j => listed.getD j false) (l.map (·.2.upd)) O) a w →
      wpAnyIn (fc E.round) 0 P .any ops Q fuel listed a w := by
  have hsz : ops.size = l.length + tl.length := by rw [hops]; simp
  have hop : ∀ i : Nat, i < l.length → ops[i]? = (l.map (·.1))[i]? := fun i hi => by rw [hops]; simp [List.getElem?_append_left, hi]
  have hcount0 : ∀ (listed : Array Bool), listed.size = l.length + tl.length → (∀ t, t < tl.length → listed.getD (l.length + t) false = false) → (listed.toList.filter id).length + tl.length ≤ l.length + tl.length := by
    intro listed hls ht
    have h1 : listed.toList = listed.toList.take l.length ++ listed.toList.drop l.length := (List.take_append_drop _ _).symm
    have h2 : (listed.toList.drop l.length).filter id = [] := by
      rw [List.filter_eq_nil_iff]
      intro b hb
      obtain ⟨t, ht', rfl⟩ := List.getElem_of_mem hb
      simp only [List.length_drop, Array.length_toList, hls] at ht'
      have h3 := ht t (by omega)
      have h4 : l.length + t < listed.size := by omega
      simp [Array.getD_eq_getD_getElem?, Array.getElem?_eq_getElem h4] at h3
      simp [h3]
    rw [h1, List.filter_append, h2, List.append_nil]
    have := List.length_filter_le id (listed.toList.take l.length)
    have h5 : (listed.toList.take l.length).length ≤ l.length := by simp; omega
    omega
  intro fuel
  induction fuel with
  | zero =>
    intro listed a w hls hcl0 htail hcount hs
    have := hcount0 listed hls htail
    omega
  | succ fuel ih =>
    intro listed a w hls hcl0 htail hcount hs
    by_cases hfull : ∀ i, i < l.length → listed.getD i false = true
    · refine draw_seq (L := l.map (·.1) ++ tl) hops hback tl (l.map (·.1)) (fuel + 1) listed a w rfl (fun i j h1 h2 h3 => hre i j (by simp at h1; omega) h2 (by simpa using h3)) (by simpa using hls) ?_ (by have := hcount0 listed hls htail; omega) ?_
      · intro j
        simp only [List.length_map]
        by_cases hj : j < l.length
        · rw [hfull j hj]; simp [hj]
        · simp only [hj, decide_false]
          by_cases hj2 : j < l.length + tl.length
          · have := htail (j - l.length) (by omega)
            rwa [show l.length + (j - l.length) = j by omega] at this
          · simp [Array.getD_eq_getD_getElem?, Array.getElem?_eq_none (show listed.size ≤ j by omega)]
      · refine hQ a w (Sat.congr (fun d => ?_) (fun r => ?_) hs)
        · unfold Tab.get
          rw [comp_congr d (l.map (·.2.tw)) (fun _ => true) (fun j => listed.getD j false) T T rfl (fun j x hx _ => (hfull j (by
            have := (List.getElem?_eq_some_iff.1 hx).1; simpa using this)).symm)]
        · exact comp_congr r (l.map (·.2.upd)) (fun _ => true) (fun j => listed.getD j false) O O rfl (fun j x hx _ => (hfull j (by
            have := (List.getElem?_eq_some_iff.1 hx).1; simpa using this)).symm)
    have hcl : ∀ j, listed.getD j false = true → ∀ o, (l.map (·.1))[j]? = some o → ∀ e ∈ o.after.toList, Region.binds .any e = true → listed.getD e.on false = true := by
      intro j hj o ho e he hb
      exact hcl0 j hj o (by rw [List.getElem?_append_left (List.getElem?_eq_some_iff.1 ho).1]; exact ho) e he hb
    refine ⟨fun hr => ?_, fun i hi => ?_⟩
    · exfalso
      refine hfull fun i => ?_
      induction i using Nat.strongRecOn with
      | _ i ih =>
        intro hi
        cases hl : listed.getD i false with
        | true => rfl
        | false =>
          exfalso
          have hmem : i ∈ Region.ready .any ops listed := by
            simp only [Region.ready, List.mem_filter, List.mem_range, Bool.and_eq_true]
            refine ⟨by omega, ?_, ?_⟩
            · have : listed.getD i true = listed.getD i false := by
                simp [Array.getD_eq_getD_getElem?, Array.getElem?_eq_getElem (show i < listed.size by omega)]
              rw [this, hl]; rfl
            · rw [hop i hi]
              obtain ⟨x, hx⟩ : ∃ x, l[i]? = some x := ⟨l[i], List.getElem?_eq_getElem hi⟩
              simp only [List.getElem?_map, hx, Option.map_some, Option.getD_some]
              rw [Array.all_eq_true']
              intro e he
              cases hb : Region.binds .any e with
              | false => rfl
              | true =>
                have hlt := hback i x.1 (by rw [List.getElem?_append_left (by simpa using hi)]; simp [hx]) e (Array.mem_toList_iff.2 he) hb
                simp [ih e.on hlt (by omega)]
          rw [hr] at hmem
          cases hmem
    simp only [Region.ready, List.mem_filter, List.mem_range, Bool.and_eq_true] at hi
    obtain ⟨hilt, hni, hedge⟩ := hi
    have hi' : i < listed.size := by omega
    have hil : i < l.length := by
      by_cases hh : i < l.length
      · exact hh
      · exfalso
        refine hfull fun j hj => ?_
        obtain ⟨o', ho'⟩ : ∃ o', (l.map (·.1) ++ tl)[i]? = some o' := ⟨_, List.getElem?_eq_getElem (by simp; omega)⟩
        have hoi : ops[i]? = some o' := by rw [hops]; simpa using ho'
        exact reach_flag (l := l.map (·.1) ++ tl) (D := fun k => listed.getD k false = true) hcl0 12 i j o' ho' (fun e he hb => by
          rw [hoi] at hedge
          simp only [Option.map_some, Option.getD_some, Array.all_eq_true'] at hedge
          have := hedge e (Array.mem_toList_iff.1 he)
          simpa [hb] using this) (hre i j (by omega) (by omega) (by omega))
    have hnf : listed.getD i false = false := by
      simp [Array.getD_eq_getD_getElem?, Array.getElem?_eq_getElem hi'] at hni ⊢
      exact hni
    obtain ⟨⟨o, x⟩, hx⟩ : ∃ x, l[i]? = some x := ⟨l[i], List.getElem?_eq_getElem hil⟩
    have hoi : ops[i]? = some o := by rw [hop i hil]; simp [hx]
    have hedges : ∀ e ∈ o.after.toList, Region.binds .any e = true → listed.getD e.on false = true := by
      intro e he hb
      rw [hoi] at hedge
      simp only [Option.map_some, Option.getD_some, Array.all_eq_true'] at hedge
      have := hedge e (Array.mem_toList_iff.1 he)
      simpa [hb] using this
    obtain ⟨hgs, hkeys⟩ := hdr.at i o x hx
    have hto : (l.map (·.1))[i]? = some o := by simp [hx]
    -- what meets operation i is listed exactly if it stands before it
    have horder : ∀ (j : Nat) (y : Oper × Rec), l[j]? = some y → j ≠ i → (meets ops (o, x) y = true → i < j → listed.getD j false = false) ∧ (meets ops y (o, x) = true → j < i → listed.getD j false = true) := by
      intro j y hy hne
      have hjl : j < l.length := (List.getElem?_eq_some_iff.1 hy).1
      refine ⟨fun hm hij => ?_, fun hm hji => ?_⟩
      · have h1 := below_of hok hjl
        simp only [Bool.and_eq_true, hy] at h1
        have h2 := below_of h1.2 hij
        rw [meetsAt_of hx hy hm] at h2
        simp only [Bool.not_true, Bool.false_or] at h2
        cases hlj : listed.getD j false with
        | false => rfl
        | true =>
          have := reach_flag (l := l.map (·.1)) (D := fun k => listed.getD k false = true) hcl 4 j i y.1 (by simp [hy]) (hcl j hlj y.1 (by simp [hy])) h2
          rw [hnf] at this
          cases this
      · have h1 := below_of hok hil
        simp only [Bool.and_eq_true, hx] at h1
        have h2 := below_of h1.2 hji
        rw [meetsAt_of hy hx hm] at h2
        simp only [Bool.not_true, Bool.false_or] at h2
        exact reach_flag (l := l.map (·.1)) (D := fun k => listed.getD k false = true) hcl 4 i j o hto hedges h2
    have hfl : ∀ (j : Nat) (y : Oper × Rec), l[j]? = some y → (meets ops (o, x) y = true ∧ meets ops y (o, x) = true) → listed.getD j false = Nat.blt j i := by
      intro j y hy hm
      by_cases hji : j = i
      · subst hji
        rw [hnf]
        exact (Bool.eq_false_iff.2 fun h => absurd (lt_of_blt h) (Nat.lt_irrefl _)).symm
      · rcases Nat.lt_or_gt_of_ne hji with h | h
        · rw [(horder j y hy hji).2 hm.2 h]
          exact (Nat.ble_eq_true_of_le h).symm
        · rw [(horder j y hy hji).1 hm.1 h]
          exact (Bool.eq_false_iff.2 fun h' => absurd (lt_of_blt h') (by omega)).symm
    have hgsT := hgs.2 (comp (fun j => listed.getD j false) (l.map (·.2.tw)) T) (comp (fun j => listed.getD j false) (l.map (·.2.upd)) O) (by
      intro d hd
      unfold Tab.get
      rw [comp_congr d (l.map (·.2.tw)) (fun j => listed.getD j false) (fun j => Nat.blt j i) T T rfl]
      intro j z hz hdz
      simp only [List.getElem?_map, Option.map_eq_some_iff] at hz
      obtain ⟨y, hy, rfl⟩ := hz
      refine hfl j y hy ?_
      have hky : keys y.2.tw = y.1.dst.toList := (hdr.at j y.1 y.2 (by simpa using hy)).2
      rw [hky] at hdz
      constructor
      · simp only [meets, Bool.or_eq_true]; exact .inl (.inl (.inl (.inr (intersects_of hdz hd))))
      · simp only [meets, Bool.or_eq_true]; exact .inl (.inl (.inl (.inl (.inl (intersects_of hdz hd)))))) (by
      intro r hr
      refine comp_congr r (l.map (·.2.upd)) (fun j => listed.getD j false) (fun j => Nat.blt j i) O O rfl ?_
      intro j z hz hdz
      simp only [List.getElem?_map, Option.map_eq_some_iff] at hz
      obtain ⟨y, hy, rfl⟩ := hz
      refine hfl j y hy ⟨?_, ?_⟩
      · simp only [meets, Bool.or_eq_true]; exact .inr (intersects_of hdz hr)
      · simp only [meets, Bool.or_eq_true]; exact .inl (.inl (.inr (intersects_of hdz hr)))) (by
      intro r hr
      have h1 := below_of hfr hil
      simp only [hx, List.all_eq_true, Bool.and_eq_true] at h1
      obtain ⟨⟨hT0, hO0⟩, hat⟩ := h1 r hr
      have hrec : ∀ (j : Nat) (y : Oper × Rec), l[j]? = some y → listed.getD j false = true → freshTB r y.2.tw = true ∧ freshOB r y.2.upd = true := by
        intro j y hy hf
        have hjl : j < l.length := (List.getElem?_eq_some_iff.1 hy).1
        have h2 := below_of hat hjl
        simp only [hy, Bool.or_eq_true, Bool.and_eq_true] at h2
        rcases h2 with (h3 | h3) | h3
        · have : j = i := Nat.eq_of_beq_eq_true h3
          subst this
          rw [hnf] at hf; cases hf
        · exact h3
        · exfalso
          have := reach_flag (l := l.map (·.1)) (D := fun k => listed.getD k false = true) hcl 4 j i y.1 (by simp [hy]) (hcl j hf y.1 (by simp [hy])) h3.2
          rw [hnf] at this; cases this
      refine ⟨fun d s hl => ?_, fun k z hl => ?_⟩
      · rcases look_comp _ _ _ hl with h3 | ⟨j, z, hz, hf, hl'⟩
        · exact freshT_of hT0 h3
        · simp only [List.getElem?_map, Option.map_eq_some_iff] at hz
          obtain ⟨y, hy, rfl⟩ := hz
          exact freshT_of (hrec j y hy hf).1 hl'
      · rcases look_comp _ _ _ hl with h3 | ⟨j, z', hz, hf, hl'⟩
        · exact freshO_of hO0 h3
        · simp only [List.getElem?_map, Option.map_eq_some_iff] at hz
          obtain ⟨y, hy, rfl⟩ := hz
          exact freshO_of (hrec j y hy hf).2 hl') a w hs
    have hnext : ∀ a' w', Sat E (x.tw ++ comp (fun j => listed.getD j false) (l.map (·.2.tw)) T) (x.upd ++ comp (fun j => listed.getD j false) (l.map (·.2.upd)) O) a' w' →
        wpAnyIn (fc E.round) 0 P .any ops Q fuel (listed.setIfInBounds i true) a' w' := by
      intro a' w' hs'
      have hget : ∀ j, (listed.setIfInBounds i true).getD j false = (listed.getD j false || Nat.beq j i) := by
        intro j
        by_cases hji : j = i
        · subst hji
          simp [Array.getD_eq_getD_getElem?, hi']
        · have hb : Nat.beq j i = false := by
            cases hb : Nat.beq j i with
            | false => rfl
            | true => exact absurd (Nat.eq_of_beq_eq_true hb) hji
          simp [Array.getD_eq_getD_getElem?, Array.getElem?_setIfInBounds_ne (Ne.symm hji), hb]
      refine ih _ a' w' (by simp [hls]) ?_ ?_ ?_ ?_
      · intro j hj o' ho' e he hb
        rw [hget] at hj ⊢
        simp only [Bool.or_eq_true] at hj
        rcases hj with hj | hj
        · rw [hcl0 j hj o' ho' e he hb]; rfl
        · have : j = i := Nat.eq_of_beq_eq_true hj
          subst this
          rw [List.getElem?_append_left (by simpa using hil), hto] at ho'
          cases ho'
          rw [hedges e he hb]; rfl
      · intro t ht
        rw [hget, htail t ht, Bool.false_or]
        exact Bool.eq_false_iff.2 fun h => by have := Nat.eq_of_beq_eq_true h; omega
      · have : ((listed.setIfInBounds i true).toList.filter id).length = (listed.toList.filter id).length + 1 := by
          rw [Array.toList_setIfInBounds]
          have hli : listed.toList[i]? = some false := by
            have h0 : listed[i]? = some false := by
              rw [Array.getElem?_eq_getElem hi']
              simp [Array.getD_eq_getD_getElem?, Array.getElem?_eq_getElem hi'] at hnf
              rw [hnf]
            simpa using h0
          exact filter_set _ _ hli
        omega
      · have hT : ∀ d, look (comp (fun j => listed.getD j false || Nat.beq j i) (l.map (·.2.tw)) T) d = look (x.tw ++ comp (fun j => listed.getD j false) (l.map (·.2.tw)) T) d := by
          intro d
          refine comp_add d (l.map (·.2.tw)) i x.tw (fun j => listed.getD j false) T (by simp [hx]) hnf ?_
          intro j z hz hij hfj k hk hkz
          simp only [List.getElem?_map, Option.map_eq_some_iff] at hz
          obtain ⟨y, hy, rfl⟩ := hz
          have hky : keys y.2.tw = y.1.dst.toList := (hdr.at j y.1 y.2 (by simpa using hy)).2
          rw [hkeys] at hk
          rw [hky] at hkz
          have hm : meets ops (o, x) y = true := by simp only [meets, Bool.or_eq_true]; exact .inl (.inl (.inl (.inl (.inr (intersects_of hk hkz)))))
          rw [(horder j y hy (by omega)).1 hm hij] at hfj
          cases hfj
        have hO : ∀ r, look (comp (fun j => listed.getD j false || Nat.beq j i) (l.map (·.2.upd)) O) r = look (x.upd ++ comp (fun j => listed.getD j false) (l.map (·.2.upd)) O) r := by
          intro r
          refine comp_add r (l.map (·.2.upd)) i x.upd (fun j => listed.getD j false) O (by simp [hx]) hnf ?_
          intro j z hz hij hfj k hk hkz
          simp only [List.getElem?_map, Option.map_eq_some_iff] at hz
          obtain ⟨y, hy, rfl⟩ := hz
          have hm : meets ops (o, x) y = true := by simp only [meets, Bool.or_eq_true]; exact .inl (.inr (intersects_of hk hkz))
          rw [(horder j y hy (by omega)).1 hm hij] at hfj
          cases hfj
        simp only [hget]
        exact Sat.congr (fun d => by unfold Tab.get; rw [hT]) hO hs'
    unfold wpOpIn
    simp only [hoi]
    split
    · rename_i hw
      rw [if_pos hw] at hgsT
      exact Oper.wp_in _ hgs.1 hgsT hnext
    · rename_i hw
      rw [if_neg hw] at hgsT
      exact ⟨fun _ _ => trivial, hnext _ _ hgsT⟩
theorem dr_region_tail {Q : Exit → Act → World → Prop} {id : Nat} {l : List (Oper × Rec)} {tl : List Oper} {T : Tab} {O : Own} (hm : P.follows .mixedOrders = true) (hops : ops = (l.map (·.1) ++ tl).toArray) (hdr : DR P E ops l T O) (hok : drawOk ops l = true) (hfr : freshOk l T O = true) (hne : 0 < tl.length)
    (hback : ∀ (j : Nat) o, (l.map (·.1) ++ tl)[j]? = some o → ∀ e ∈ o.after.toList, Region.binds .any e = true → e.on < j)
    (hre : ∀ i j : Nat, l.length ≤ i → j < i → i < l.length + tl.length → reach (l.map (·.1) ++ tl) 12 i j = true)
    (hQ : ∀ a w, Sat E (comp (fun _ => true) (l.map (·.2.tw)) T) (comp (fun _ => true) (l.map (·.2.upd)) O) a w → wpListIn (fc E.round) 0 P ops Q tl a w) : SQ E T O ((Code.region id ops true).wpIn (fc E.round) 0 P Q) := by
  intro a w hs
  refine wpIn_region_any hm ?_
  have hsz : ops.size = l.length + tl.length := by rw [hops]; simp
  have hf : ∀ j, (Array.replicate ops.size false).getD j false = false := by
    intro j
    simp [Array.getD_eq_getD_getElem?, Array.getElem?_replicate]
    split <;> simp
  refine draw_tl hops hdr hok hfr hne hback hre hQ ops.size _ a _ (by simp [hsz]) (fun j hj => ?_) (fun t _ => hf _) (by omega) ?_
  · rw [hf] at hj; cases hj
  · have c0 : ∀ {α : Type} (xs : List (List (Nat × α))) (fl : Nat → Bool), (∀ j, fl j = false) → ∀ A, comp fl xs A = A := by
      intro α xs
      induction xs with
      | nil => intro fl _ A; rfl
      | cons y ys ih => intro fl hf A; unfold comp; simp only [hf 0]; exact ih _ (fun j => hf (j + 1)) A
    rw [c0 _ _ hf, c0 _ _ hf]
    exact hs.drew
end
/-- The last operations stand behind all others. -/
def tailOk (L : List Oper) (n : Nat) : Bool :=
  (below L.length fun j => match L[j]? with | some o => o.after.toList.all fun e => !Region.binds .any e || Nat.blt e.on j | none => true) &&
  (below L.length fun i => Nat.blt i n || below i fun j => reach L 12 i j)
section
variable {P : Program} {E : Env} {id : Nat} {L l : List Oper} {Q : Exit → Act → World → Prop} {rpre : List (Oper × Rec)} {T0 T : Tab} {O0 O : Own} {o : Oper}
theorem dq_tail (hm : P.follows .mixedOrders = true) (hok : (drawOk L.toArray rpre.reverse && freshOk rpre.reverse T0 O0 && tailOk L rpre.length) = true) (h : LSQ P E L.toArray Q (o :: l) T O) : DRQ P E id L Q rpre (o :: l) T0 O0 T O := by
  refine ⟨fun hL hp => ?_⟩
  simp only [Bool.and_eq_true, tailOk] at hok
  obtain ⟨⟨h1, h2⟩, h3, h4⟩ := hok
  refine dr_region_tail (l := rpre.reverse) (tl := o :: l) hm (by rw [hL]) hp.dr h1 h2 (by simp) (fun j o' ho e he hb => ?_) (fun i j hi hj hlt => ?_) fun a w hs => h.sq a w (Sat.congr hp.tab hp.own hs)
  · rw [← hL] at ho
    have hj := (List.getElem?_eq_some_iff.1 ho).1
    have := below_of h3 hj
    simp only [ho, List.all_eq_true] at this
    have h5 := this e he
    rw [hb] at h5
    simp only [Bool.not_true, Bool.false_or] at h5
    exact lt_of_blt h5
  · rw [← hL]
    have hl : L.length = rpre.reverse.length + (o :: l).length := by rw [hL]; simp
    have h5 := below_of h4 (show i < L.length by omega)
    simp only [Bool.or_eq_true] at h5
    rcases h5 with h5 | h5
    · have := lt_of_blt h5
      simp only [List.length_reverse] at hi
      omega
    · exact below_of h5 hj
end
end Go.Vc
namespace Go.Proofs.Ytacepcnbgacipaa
open Go Go.Vc Go.RowKit
set_option maxHeartbeats 1000000
section
variable {P : Program} {E : Env} {T T' : Tab} {O O' : Go.Vc.Own} {d : Option Tmp} {ty : TypeId} {pos : String} {af : Array Edge} {g : Option (Nat × Bool)}
theorem v_app_pt {t e : TypeId} {x y : Operand} {r bytes : Nat} {l : List Pt} (q : List Pt) [ht : SlTy P t e 2] [he : EltTy P e 2 bytes] (hx : T.ev x = .osl r) (hr : Go.Vc.look O r = some (.row e 2 l.length (pf l))) (hy : T.ev y = .av (pts q))
    (h0 : 0 < q.length) (hlen : l.length + q.length ≤ 1000000) (hby : Nat.ble bytes 64 = true) :
    VStep P E ⟨d, .call ⟨.builtin .append, #[x, y], #[t, t]⟩, ty, pos, af, g⟩ T O (T.kill r) ((r, .row e 2 (l ++ q).length (pf (l ++ q))) :: Go.Vc.Own.kill r O) (.osl r) := by
  refine (v_append (h := pf q) (m := q.length) hx hr hy (fun i _ j _ => by unfold pf; split <;> rfl) h0 (by simp only [maxLen]; omega) (by have := Nat.le_of_ble_eq_true hby; exact Nat.le_trans (Nat.mul_le_mul hlen this) (by decide))).row (by simp) (fun i hi j hj => ?_)
  unfold rowApp pf gp
  have e1 : (l ++ q).getD i default = if i < l.length then l.getD i default else q.getD (i - l.length) default := by
    simp only [List.getD_eq_getElem?_getD]
    split
    · rename_i h; rw [List.getElem?_append_left h]
    · rename_i h; rw [List.getElem?_append_right (by omega)]
  rw [e1]
  split <;> rfl
end
theorem norm_c (a b : Pt) (h1 : SmP a) (h2 : SmP b) : CtrA Try.prog 98 [pp a, pp b] (pts [nrm a b, nrn a b]) := by
  refine ctrA _ Try.func98 rfl rfl Try.ntmps98 rfl fun w Z => ?_
  have hb1 := sub_bd h2 h1
  simp only [initT, List.map_cons, List.map_nil, Nat.zero_add, Nat.reduceAdd]
  refine cq_seq ?_
  refine cq_region ?_
  apply sq_g; exact g_box_agg rfl; exact rfl
  apply sq_g; exact g_box_agg rfl; exact rfl
  apply sq_g; exact g_assign (s := .av _) rfl; exact rfl
  refine sq_nil ?_
  refine sq_then ?_
  refine cq_seq ?_
  refine cq_region ?_
  apply sq_g; exact g_load_agg (us := [.int _ _, .int _ _]) rfl rfl rfl rfl; exact rfl
  apply sq_g; exact g_load_agg (us := [.int _ _, .int _ _]) rfl rfl rfl rfl; exact rfl
  apply sq_g; exact g_call (minus_c b a h2 h1) rfl; exact rfl
  refine sq_v (f_alloc 10 rfl) rfl ?_
  refine sq_s (g_store_agg rfl rfl rfl rfl rfl rfl) ?_
  refine sq_nil ?_
  refine sq_then ?_
  refine cq_seq ?_
  refine cq_region ?_
  apply sq_g; exact g_field_own rfl; exact rfl
  apply sq_g; exact g_load_own (s := .av (.val (.int _ _))) rfl rfl rfl; exact rfl
  apply sq_g; exact g_neg rfl (by omega); exact rfl
  apply sq_g; exact g_field_own rfl; exact rfl
  apply sq_g; exact g_load_own (s := .av (.val (.int _ _))) rfl rfl rfl; exact rfl
  apply sq_g; exact g_build (is := [0, 1]) (xs := [_, _]) (vs := [_, _]) (tb24 _ _) rfl rfl; exact rfl
  apply sq_g; exact g_field_own rfl; exact rfl
  apply sq_g; exact g_load_own (s := .av (.val (.int _ _))) rfl rfl rfl; exact rfl
  apply sq_g; exact g_field_own rfl; exact rfl
  apply sq_g; exact g_load_own (s := .av (.val (.int _ _))) rfl rfl rfl; exact rfl
  apply sq_g; exact g_neg rfl (by omega); exact rfl
  apply sq_g; exact g_build (is := [0, 1]) (xs := [_, _]) (vs := [_, _]) (tb24 _ _) rfl rfl; exact rfl
  apply sq_g; exact  g_bslice (is := [0, 1]) (xs := [_, _]) (vs := [_, _]) (us := [_, _, _, _]) (tq22_2 _ _ _ _) rfl rfl rfl (pf2_row (nrm a b) (nrn a b)); exact rfl
  apply sq_g; exact g_assign (s := .av _) rfl; exact rfl
  refine sq_nil ?_
  refine sq_then ?_
  refine cq_ret ?_
  exact sq_res1 rfl (.tmp rfl) rfl
theorem flat_len {α : Type} (f : Nat → List α) (c : Nat) : ∀ n, (∀ i, i < n → (f i).length ≤ c) → ((List.range n).flatMap f).length ≤ n * c
  | 0, _ => by simp
  | n + 1, h => by
    rw [List.range_succ, List.flatMap_append, List.length_append]
    have h1 := flat_len f c n (fun i hi => h i (by omega))
    have h2 := h n (by omega)
    simp only [List.flatMap_cons, List.flatMap_nil, List.append_nil]
    rw [Nat.succ_mul]
    omega
theorem wNr_len (l : List Pt) (i m : Nat) : (wNr l i m).length ≤ m * 2 := flat_len _ 2 m (fun _ _ => by simp)
theorem wN_len (l : List Pt) (hl : l.length ≤ 64) (i : Nat) (hi : i ≤ 64) : (wN l i).length ≤ 64 * 128 :=
  Nat.le_trans (flat_len _ 128 i (fun k _ => by have := wNr_len l k (l.length - (k + 1)); omega)) (Nat.mul_le_mul hi (Nat.le_refl _))
theorem wA_len (a b : List Pt) (hb : b.length ≤ 64) (i : Nat) (hi : i ≤ 64) : (wA a b i).length ≤ 64 * 64 :=
  Nat.le_trans (flat_len _ 64 i (fun k _ => by simp [wAr]; omega)) (Nat.mul_le_mul hi (Nat.le_refl _))
theorem ll_len {a b : List Pt} (ha : a.length ≤ 64) (hb : b.length ≤ 64) (k : Nat) : (ll a b k).length ≤ 64 := by
  match k with
  | 0 => exact ha
  | 1 => exact hb
  | k + 2 => simp [ll]
theorem ll_sm {a b : List Pt} (ha : ∀ i, SmP (gp a i)) (hb : ∀ i, SmP (gp b i)) (k : Nat) (hk : k < 2) : ∀ i, SmP (gp (ll a b k) i) := by
  match k, hk with
  | 0, _ => exact ha
  | 1, _ => exact hb
theorem wL_len (a b : List Pt) (ha : a.length ≤ 64) (hb : b.length ≤ 64) (k : Nat) (hk : k ≤ 2) : (wL a b k).length ≤ 2 * 8192 :=
  Nat.le_trans (flat_len _ 8192 k (fun i _ => wN_len _ (ll_len ha hb i) _ (ll_len ha hb i))) (Nat.mul_le_mul hk (Nat.le_refl _))
theorem pts2_getD (a b : List Pt) (k : Nat) (hk : k < 2) : [pts a, pts b].getD k .any = pts (ll a b k) := by
  match k, hk with
  | 0, _ => rfl
  | 1, _ => rfl
theorem rways_c (a b : List Pt) (ha : ∀ i, SmP (gp a i)) (hb' : ∀ i, SmP (gp b i)) (hna : a.length ≤ 64) (hnb : b.length ≤ 64) : CtrR Try.prog 68 [pts a, pts b] 24 2 (ways a b).length (pf (ways a b)) [] := by
  refine ctrR _ Try.func68 rfl rfl Try.ntmps68 rfl fun w Z => ?_
  simp only [initT, List.map_cons, List.map_nil, Nat.zero_add, Nat.reduceAdd]
  refine cq_seq ?_
  refine cq_region ?_
  apply sq_g; exact g_assign (s := .av _) rfl; exact rfl
  refine sq_nil ?_
  refine sq_then ?_
  refine cq_seq ?_
  refine cq_region ?_
  apply sq_g; exact g_assign (s := .av _) rfl; exact rfl
  refine sq_nil ?_
  refine sq_then ?_
  refine cq_seq ?_
  refine cq_seq ?_
  refine cq_region ?_
  apply sq_g; exact g_assign (s := .av (.val (.int _ _))) rfl; exact rfl
  refine sq_nil ?_
  refine sq_then ?_
  refine cq_block ?_
  refine cq_loop (γ := Nat) (fun i => [(0, .av (pts a)), (1, .av (pts b)), (5, .osl 0), (6, .av (vi i))]) (fun i => [(0, .row 24 2 (wA a b i).length (pf (wA a b i)))]) (fun i => i ≤ a.length) (fun i => a.length - i) 0 (Nat.zero_le _) ((ent_row (dd := 5) 0 24 2 (pf []) rfl rfl).trans (ent ⟨.refl _, .refl _, .refl _, .refl _, trivial⟩ ⟨⟨_, rfl, .refl _⟩, trivial⟩)) ?_
  intro i hi
  refine cq_seq ?_
  refine cq_seq ?_
  refine cq_region ?_
  apply sq_g; exact g_move (s := .av (.val (.int _ _))) rfl; exact rfl
  apply sq_g; exact g_move (s := .av _) rfl; exact rfl
  apply sq_g; exact g_len rfl; exact rfl
  apply sq_g; exact g_cmp rfl rfl rfl; exact rfl
  refine sq_nil ?_
  refine sq_then ?_
  (refine cq_cond rfl (fun hb => ?_) (fun hb => ?_) <;> (try simp only [decide_eq_true_eq, decide_eq_false_iff_not, beq_iff_eq, beq_eq_false_iff_ne, bne_iff_ne, bne_eq_false_iff_eq, ne_eq, Bool.not_eq_true', Bool.not_eq_false', Bool.and_eq_true, Bool.or_eq_true, Bool.and_eq_false_iff, Bool.or_eq_false_iff] at hb) <;> (try (exfalso; omega)))
  · have hil : i < a.length := by omega
    refine cq_skip ?_
    refine sq_then ?_
    refine cq_seq ?_
    refine cq_block ?_
    refine cq_seq ?_
    refine cq_region ?_
    apply sq_g; exact g_assign (s := .av (.val (.int _ _))) rfl; exact rfl
    refine sq_nil ?_
    refine sq_then ?_
    refine cq_block ?_
    refine cq_loop (γ := Nat) (fun j => [(0, .av (pts a)), (1, .av (pts b)), (5, .osl 0), (6, .av (vi i)), (7, .av (vi j))]) (fun j => [(0, .row 24 2 (wA a b i ++ wAr a b i j).length (pf (wA a b i ++ wAr a b i j)))]) (fun j => j ≤ b.length) (fun j => b.length - j) 0 (Nat.zero_le _) (ent ⟨.refl _, .refl _, .refl _, .refl _, .refl _, trivial⟩ ⟨⟨_, rfl, by rw [show wAr a b i 0 = [] from rfl, List.append_nil]; exact .refl _⟩, trivial⟩) ?_
    intro j hj
    refine cq_seq ?_
    refine cq_seq ?_
    refine cq_region ?_
    apply sq_g; exact g_move (s := .av (.val (.int _ _))) rfl; exact rfl
    apply sq_g; exact g_move (s := .av _) rfl; exact rfl
    apply sq_g; exact g_len rfl; exact rfl
    apply sq_g; exact g_cmp rfl rfl rfl; exact rfl
    refine sq_nil ?_
    refine sq_then ?_
    (refine cq_cond rfl (fun hb => ?_) (fun hb => ?_) <;> (try simp only [decide_eq_true_eq, decide_eq_false_iff_not, beq_iff_eq, beq_eq_false_iff_ne, bne_iff_ne, bne_eq_false_iff_eq, ne_eq, Bool.not_eq_true', Bool.not_eq_false', Bool.and_eq_true, Bool.or_eq_true, Bool.and_eq_false_iff, Bool.or_eq_false_iff] at hb) <;> (try (exfalso; omega)))
    · have hjl : j < b.length := by omega
      have h1 := wA_len a b hnb i (by omega)
      have hlen : (wA a b i ++ wAr a b i j).length ≤ 1000000 := by rw [List.length_append]; simp only [wAr, List.length_map, List.length_range]; omega
      have hs := wAr_succ a b i j
      refine cq_skip ?_
      refine sq_then ?_
      refine cq_seq ?_
      refine cq_block ?_
      refine cq_drawn ?_
      apply dq_g; exact g_move (s := .osl _) rfl; exact rfl
      apply dq_g; exact g_move (s := .av _) rfl; exact rfl
      apply dq_g; exact g_move (s := .av (.val (.int _ _))) rfl; exact rfl
      apply dq_g; exact g_index rfl rfl rfl (by omega); exact rfl
      apply dq_g; exact g_load_agg (us := [.int _ _, .int _ _]) rfl rfl rfl rfl; exact rfl
      apply dq_g; exact g_move (s := .av _) rfl; exact rfl
      apply dq_g; exact g_move (s := .av (.val (.int _ _))) rfl; exact rfl
      apply dq_g; exact g_index rfl rfl rfl (by omega); exact rfl
      apply dq_g; exact g_load_agg (us := [.int _ _, .int _ _]) rfl rfl rfl rfl; exact rfl
      apply dq_g; exact g_call (minus_c (gp b j) (gp a i) (hb' j) (ha i)) rfl; exact rfl
      apply dq_g; exact g_one_pt (tq22 _ _) rfl; exact rfl
      refine dq_tail tm rfl ?_
      refine sq_v (v_push_pt rfl rfl rfl (by omega) rfl) rfl ?_
      apply sq_g; exact g_assign (s := .osl _) rfl; exact rfl
      refine sq_nil ?_
      refine sq_then ?_
      refine cq_region ?_
      apply sq_g; exact g_move (s := .av (.val (.int _ _))) rfl; exact rfl
      apply sq_g; exact g_arith rfl rfl rfl (by omega); exact rfl
      apply sq_g; exact g_assign (s := .av (.val (.int _ _))) rfl; exact rfl
      refine sq_nil ?_
      exact sq_round (j + 1) (by omega) (by omega) (ent ⟨.refl _, .refl _, .refl _, .refl _, .int (by omega), trivial⟩ ⟨⟨_, rfl, by rw [hs, ← List.append_assoc]; exact .refl _⟩, trivial⟩)
    · have hjl : j = b.length := by omega
      subst hjl
      refine cq_exit ?_
      refine sq_then ?_
      refine cq_region ?_
      apply sq_g; exact g_move (s := .av (.val (.int _ _))) rfl; exact rfl
      apply sq_g; exact g_arith rfl rfl rfl (by omega); exact rfl
      apply sq_g; exact g_assign (s := .av (.val (.int _ _))) rfl; exact rfl
      refine sq_nil ?_
      exact sq_round (i + 1) (by omega) (by omega) (ent ⟨.refl _, .refl _, .refl _, .int (by omega), trivial⟩ ⟨⟨_, rfl, by rw [wA_succ]; exact .refl _⟩, trivial⟩)
  · have hil : i = a.length := by omega
    subst hil
    refine cq_exit ?_
    refine sq_then ?_
    refine cq_seq ?_
    refine cq_seq ?_
    refine cq_region ?_
    apply sq_g; exact g_move (s := .av _) rfl; exact rfl
    apply sq_g; exact g_move (s := .av _) rfl; exact rfl
    apply sq_g; exact  g_bslice_av (is := [0, 1]) (xs := [_, _]) (τs := [pts a, pts b]) (fun vs w h1 h2 => tq86 vs w h1 h2) rfl rfl rfl rfl rfl; exact rfl
    apply sq_g; exact g_len rfl; exact rfl
    apply sq_g; exact g_move (s := .av (.val (.int _ _))) rfl; exact rfl
    refine sq_nil ?_
    refine sq_then ?_
    refine cq_block ?_
    refine cq_loop (γ := Nat) (fun k => [(5, .osl 0), (38, .av (.sl 2 1 (fun i _ => [pts a, pts b].getD i .any))), (39, .av (vi 2)), (40, .av (vi k))]) (fun k => [(0, .row 24 2 (wA a b a.length ++ wL a b k).length (pf (wA a b a.length ++ wL a b k)))]) (fun k => k ≤ 2) (fun k => 2 - k) 0 (Nat.zero_le _) (ent ⟨.refl _, .refl _, .refl _, .refl _, trivial⟩ ⟨⟨_, rfl, by rw [show wL a b 0 = [] from rfl, List.append_nil]; exact .refl _⟩, trivial⟩) ?_
    intro k hk
    refine cq_seq ?_
    refine cq_region ?_
    apply sq_g; exact g_cmp rfl rfl rfl; exact rfl
    refine sq_nil ?_
    refine sq_then ?_
    refine cq_seq ?_
    (refine cq_cond rfl (fun hb => ?_) (fun hb => ?_) <;> (try simp only [decide_eq_true_eq, decide_eq_false_iff_not, beq_iff_eq, beq_eq_false_iff_ne, bne_iff_ne, bne_eq_false_iff_eq, ne_eq, Bool.not_eq_true', Bool.not_eq_false', Bool.and_eq_true, Bool.or_eq_true, Bool.and_eq_false_iff, Bool.or_eq_false_iff] at hb) <;> (try (exfalso; omega)))
    · have hk2 : k < 2 := by omega
      have hL := pts2_getD a b k hk2
      have hsL := ll_sm ha hb' k hk2
      have hnL := ll_len hna hnb k
      generalize hLe : ll a b k = L at hL hsL hnL
      refine cq_skip ?_
      refine sq_then ?_
      refine cq_seq ?_
      refine cq_block ?_
      refine cq_seq ?_
      refine cq_region ?_
      apply sq_g; exact g_index rfl rfl rfl (by omega); exact rfl
      apply sq_g; exact  g_load (τ := pts L) rfl rfl hL; exact rfl
      apply sq_g; exact g_assign (s := .av _) rfl; exact rfl
      refine sq_nil ?_
      refine sq_then ?_
      refine cq_seq ?_
      refine cq_region ?_
      apply sq_g; exact g_assign (s := .av (.val (.int _ _))) rfl; exact rfl
      refine sq_nil ?_
      refine sq_then ?_
      refine cq_block ?_
      refine cq_loop (γ := Nat) (fun i => [(5, .osl 0), (9, .av (pts L)), (10, .av (vi i)), (38, .av (.sl 2 1 (fun i _ => [pts a, pts b].getD i .any))), (39, .av (vi 2)), (40, .av (vi k))]) (fun i => [(0, .row 24 2 (wA a b a.length ++ wL a b k ++ wN L i).length (pf (wA a b a.length ++ wL a b k ++ wN L i)))]) (fun i => i ≤ L.length) (fun i => L.length - i) 0 (Nat.zero_le _) (ent ⟨.refl _, .refl _, .refl _, .refl _, .refl _, .refl _, trivial⟩ ⟨⟨_, rfl, by rw [show wN L 0 = [] from rfl, List.append_nil]; exact .refl _⟩, trivial⟩) ?_
      intro i hi
      refine cq_seq ?_
      refine cq_seq ?_
      refine cq_region ?_
      apply sq_g; exact g_move (s := .av (.val (.int _ _))) rfl; exact rfl
      apply sq_g; exact g_move (s := .av _) rfl; exact rfl
      apply sq_g; exact g_len rfl; exact rfl
      apply sq_g; exact g_cmp rfl rfl rfl; exact rfl
      refine sq_nil ?_
      refine sq_then ?_
      (refine cq_cond rfl (fun hb => ?_) (fun hb => ?_) <;> (try simp only [decide_eq_true_eq, decide_eq_false_iff_not, beq_iff_eq, beq_eq_false_iff_ne, bne_iff_ne, bne_eq_false_iff_eq, ne_eq, Bool.not_eq_true', Bool.not_eq_false', Bool.and_eq_true, Bool.or_eq_true, Bool.and_eq_false_iff, Bool.or_eq_false_iff] at hb) <;> (try (exfalso; omega)))
      · have hil : i < L.length := by omega
        refine cq_skip ?_
        refine sq_then ?_
        refine cq_seq ?_
        refine cq_block ?_
        refine cq_seq ?_
        refine cq_region ?_
        apply sq_g; exact g_move (s := .av (.val (.int _ _))) rfl; exact rfl
        apply sq_g; exact g_arith rfl rfl rfl (by omega); exact rfl
        apply sq_g; exact g_assign (s := .av (.val (.int _ _))) rfl; exact rfl
        refine sq_nil ?_
        refine sq_then ?_
        refine cq_block ?_
        refine cq_loop (γ := Nat) (fun m => [(5, .osl 0), (9, .av (pts L)), (10, .av (vi i)), (11, .av (vi ((i + 1 + m : Nat) : Int))), (38, .av (.sl 2 1 (fun i _ => [pts a, pts b].getD i .any))), (39, .av (vi 2)), (40, .av (vi k))]) (fun m => [(0, .row 24 2 (wA a b a.length ++ wL a b k ++ wN L i ++ wNr L i m).length (pf (wA a b a.length ++ wL a b k ++ wN L i ++ wNr L i m)))]) (fun m => m ≤ L.length - (i + 1)) (fun m => L.length - m) 0 (Nat.zero_le _) (ent ⟨.refl _, .refl _, .refl _, .int (by omega), .refl _, .refl _, .refl _, trivial⟩ ⟨⟨_, rfl, by rw [show wNr L i 0 = [] from rfl, List.append_nil]; exact .refl _⟩, trivial⟩) ?_
        intro m hm
        refine cq_seq ?_
        refine cq_seq ?_
        refine cq_region ?_
        apply sq_g; exact g_move (s := .av (.val (.int _ _))) rfl; exact rfl
        apply sq_g; exact g_move (s := .av _) rfl; exact rfl
        apply sq_g; exact g_len rfl; exact rfl
        apply sq_g; exact g_cmp rfl rfl rfl; exact rfl
        refine sq_nil ?_
        refine sq_then ?_
        (refine cq_cond rfl (fun hb => ?_) (fun hb => ?_) <;> (try simp only [decide_eq_true_eq, decide_eq_false_iff_not, beq_iff_eq, beq_eq_false_iff_ne, bne_iff_ne, bne_eq_false_iff_eq, ne_eq, Bool.not_eq_true', Bool.not_eq_false', Bool.and_eq_true, Bool.or_eq_true, Bool.and_eq_false_iff, Bool.or_eq_false_iff] at hb) <;> (try (exfalso; omega)))
        · have hml : m < L.length - (i + 1) := by omega
          have hjl : i + 1 + m < L.length := by omega
          have h1 := wA_len a b hnb a.length hna
          have h2 := wL_len a b hna hnb k hk
          have h3 := wN_len L hnL i (by omega)
          have h4 := wNr_len L i m
          have hlen : (wA a b a.length ++ wL a b k ++ wN L i ++ wNr L i m).length + [nrm (gp L i) (gp L (i + 1 + m)), nrn (gp L i) (gp L (i + 1 + m))].length ≤ 1000000 := by
            simp only [List.length_append, List.length_cons, List.length_nil]; omega
          have hs := wNr_succ L i m
          refine cq_skip ?_
          refine sq_then ?_
          refine cq_seq ?_
          refine cq_block ?_
          refine cq_drawn ?_
          apply dq_g; exact g_move (s := .osl _) rfl; exact rfl
          apply dq_g; exact g_move (s := .av _) rfl; exact rfl
          apply dq_g; exact g_move (s := .av (.val (.int _ _))) rfl; exact rfl
          apply dq_g; exact g_index rfl rfl rfl (by omega); exact rfl
          apply dq_g; exact g_load_agg (us := [.int _ _, .int _ _]) rfl rfl rfl rfl; exact rfl
          apply dq_g; exact g_move (s := .av _) rfl; exact rfl
          apply dq_g; exact g_move (s := .av (.val (.int _ _))) rfl; exact rfl
          apply dq_g; exact g_index rfl rfl rfl (by omega); exact rfl
          apply dq_g; exact g_load_agg (us := [.int _ _, .int _ _]) rfl rfl rfl rfl; exact rfl
          apply dq_g; exact g_call (norm_c (gp L i) (gp L (i + 1 + m)) (hsL _) (hsL _)) rfl; exact rfl
          refine dq_tail tm rfl ?_
          refine sq_v (v_app_pt [nrm (gp L i) (gp L (i + 1 + m)), nrn (gp L i) (gp L (i + 1 + m))] rfl rfl rfl (Nat.zero_lt_succ _) hlen rfl) rfl ?_
          apply sq_g; exact g_assign (s := .osl _) rfl; exact rfl
          refine sq_nil ?_
          refine sq_then ?_
          refine cq_region ?_
          apply sq_g; exact g_move (s := .av (.val (.int _ _))) rfl; exact rfl
          apply sq_g; exact g_arith rfl rfl rfl (by omega); exact rfl
          apply sq_g; exact g_assign (s := .av (.val (.int _ _))) rfl; exact rfl
          refine sq_nil ?_
          exact sq_round (m + 1) (by omega) (by omega) (ent ⟨.refl _, .refl _, .refl _, .int (by omega), .refl _, .refl _, .refl _, trivial⟩ ⟨⟨_, rfl, by rw [hs, ← List.append_assoc]; exact .refl _⟩, trivial⟩)
        · have hml : m = L.length - (i + 1) := by omega
          subst hml
          refine cq_exit ?_
          refine sq_then ?_
          refine cq_region ?_
          apply sq_g; exact g_move (s := .av (.val (.int _ _))) rfl; exact rfl
          apply sq_g; exact g_arith rfl rfl rfl (by omega); exact rfl
          apply sq_g; exact g_assign (s := .av (.val (.int _ _))) rfl; exact rfl
          refine sq_nil ?_
          exact sq_round (i + 1) (by omega) (by omega) (ent ⟨.refl _, .refl _, .int (by omega), .refl _, .refl _, .refl _, trivial⟩ ⟨⟨_, rfl, by rw [wN_succ, ← List.append_assoc]; exact .refl _⟩, trivial⟩)
      · have hil : i = L.length := by omega
        subst hil
        refine cq_exit ?_
        refine sq_then ?_
        refine cq_region ?_
        apply sq_g; exact g_arith rfl rfl rfl (by omega); exact rfl
        apply sq_g; exact g_move (s := .av (.val (.int _ _))) rfl; exact rfl
        refine sq_nil ?_
        exact sq_round (k + 1) (by omega) (by omega) (ent ⟨.refl _, .refl _, .refl _, .int (by omega), trivial⟩ ⟨⟨_, rfl, by rw [wL_succ, hLe, ← List.append_assoc]; exact .refl _⟩, trivial⟩)
    · have hk2 : k = 2 := by omega
      subst hk2
      refine cq_exit ?_
      refine sq_then ?_
      refine cq_seq ?_
      refine cq_region ?_
      apply sq_g; exact g_move (s := .osl _) rfl; exact rfl
      apply sq_g; exact g_assign (s := .osl _) rfl; exact rfl
      refine sq_nil ?_
      refine sq_then ?_
      refine cq_ret ?_
      exact sq_retR rfl rfl rfl rfl (fun _ _ _ _ => rfl)
end Go.Proofs.Ytacepcnbgacipaa
namespace Go.Proofs.Ytacepcnbgacipaa
open Go Go.Vc Go.RowKit
set_option maxHeartbeats 1000000
theorem ways_bd {a b : List Pt} (ha : ∀ i, SmP (gp a i)) (hb : ∀ i, SmP (gp b i)) : ∀ d ∈ ways a b, BdP d := by
  intro d hd
  unfold ways at hd
  rcases List.mem_append.1 hd with h | h
  · simp only [wA, wAr, List.mem_flatMap, List.mem_map, List.mem_range] at h
    obtain ⟨i, _, j, _, rfl⟩ := h
    exact sub_bd (hb j) (ha i)
  · simp only [wL, wN, wNr, List.mem_flatMap, List.mem_range, List.mem_cons, List.not_mem_nil, or_false] at h
    obtain ⟨k, hk, i, _, m, _, rfl | rfl⟩ := h
    · exact nrm_bd (ll_sm ha hb k hk _) (ll_sm ha hb k hk _)
    · have h1 := ll_sm ha hb k hk i
      have h2 := ll_sm ha hb k hk (i + 1 + m)
      exact nrn_bd h1 h2
theorem find_take {l : List Pt} {p : Pt → Bool} {i : Nat} (hi : i < l.length) (hall : ∀ x ∈ l.take i, p x = false) (h : p (gp l i) = true) : l.find? p = some (gp l i) := by
  have e : l = l.take i ++ gp l i :: l.drop (i + 1) := by
    rw [gp_eq hi, ← List.drop_eq_getElem_cons hi, List.take_append_drop]
  rw [e, List.find?_append, List.find?_cons_of_pos h]
  have : (l.take i).find? p = none := by
    rw [List.find?_eq_none]
    intro x hx
    simp [hall x hx]
  rw [this]
  rw [← e]; rfl
theorem rsep_c (a b : List Pt) : CtrA Try.prog 24 [pts a, pts b] (sepA (sepR a b)) := by
  refine ctrA _ Try.func24 rfl rfl Try.ntmps24 rfl fun w Z => ?_
  simp only [initT, List.map_cons, List.map_nil, Nat.zero_add, Nat.reduceAdd]
  refine cq_seq ?_
  refine cq_region ?_
  apply sq_g; exact g_assign (s := .av (.val (.bool _))) rfl; exact rfl
  refine sq_v (f_alloc 10 rfl) rfl ?_
  apply sq_g; exact g_assign (s := .av (.val (.int _ _))) rfl; exact rfl
  apply sq_g; exact g_assign (s := .av (.val (.int _ _))) rfl; exact rfl
  refine sq_nil ?_
  refine sq_then ?_
  refine cq_seq ?_
  refine cq_seq ?_
  refine cq_region ?_
  apply sq_g; exact g_move (s := .av _) rfl; exact rfl
  apply sq_g; exact g_call (rcheck_c a) rfl; exact rfl
  apply sq_g; exact g_assign (s := .av (.val (.int _ _))) rfl; exact rfl
  refine sq_nil ?_
  refine sq_then ?_
  refine cq_seq ?_
  refine cq_region ?_
  apply sq_g; exact g_move (s := .av (.val (.int _ _))) rfl; exact rfl
  apply sq_g; exact g_cmp rfl rfl rfl; exact rfl
  refine sq_nil ?_
  refine sq_then ?_
  (refine cq_cond rfl (fun hb => ?_) (fun hb => ?_) <;> (try simp only [decide_eq_true_eq, decide_eq_false_iff_not, beq_iff_eq, beq_eq_false_iff_ne, bne_iff_ne, bne_eq_false_iff_eq, ne_eq, Bool.not_eq_true', Bool.not_eq_false', Bool.and_eq_true, Bool.or_eq_true, Bool.and_eq_false_iff, Bool.or_eq_false_iff] at hb) <;> (try (exfalso; omega)))
  · have ca := hb
    refine cq_seq ?_
    refine cq_region ?_
    apply sq_g; exact  g_build (is := []) (xs := []) (vs := []) tb24_0 rfl rfl; exact rfl
    apply sq_g; exact g_move (s := .av (.val (.int _ _))) rfl; exact rfl
    apply sq_g; exact g_assign (s := .av (.val (.bool _))) rfl; exact rfl
    refine sq_s (g_store_agg rfl rfl rfl rfl rfl rfl) ?_
    apply sq_g; exact g_assign (s := .av (.val (.int _ _))) rfl; exact rfl
    apply sq_g; exact g_assign (s := .av (.val (.int _ _))) rfl; exact rfl
    refine sq_nil ?_
    refine sq_then ?_
    refine cq_ret ?_
    refine sq_then_ret ?_
    refine sq_resN (rvs := [_, _, _, _]) (τs := [vb false, pp ⟨0, 0⟩, vi 0, vi (chk a)]) rfl rfl ⟨.tmp rfl, .agg (us := [_, _]) rfl rfl rfl rfl, .tmp rfl, .tmp rfl, trivial⟩ ?_
    simp [sepA, sepR, ca]
  · have ca : chk a = 0 := by simpa using hb
    refine cq_skip ?_
    refine sq_then ?_
    refine cq_seq ?_
    refine cq_seq ?_
    refine cq_region ?_
    apply sq_g; exact g_move (s := .av _) rfl; exact rfl
    apply sq_g; exact g_call (rcheck_c b) rfl; exact rfl
    apply sq_g; exact g_assign (s := .av (.val (.int _ _))) rfl; exact rfl
    refine sq_nil ?_
    refine sq_then ?_
    refine cq_seq ?_
    refine cq_region ?_
    apply sq_g; exact g_move (s := .av (.val (.int _ _))) rfl; exact rfl
    apply sq_g; exact g_cmp rfl rfl rfl; exact rfl
    refine sq_nil ?_
    refine sq_then ?_
    (refine cq_cond rfl (fun hb => ?_) (fun hb => ?_) <;> (try simp only [decide_eq_true_eq, decide_eq_false_iff_not, beq_iff_eq, beq_eq_false_iff_ne, bne_iff_ne, bne_eq_false_iff_eq, ne_eq, Bool.not_eq_true', Bool.not_eq_false', Bool.and_eq_true, Bool.or_eq_true, Bool.and_eq_false_iff, Bool.or_eq_false_iff] at hb) <;> (try (exfalso; omega)))
    · have cb := hb
      refine cq_seq ?_
      refine cq_region ?_
      apply sq_g; exact  g_build (is := []) (xs := []) (vs := []) tb24_0 rfl rfl; exact rfl
      apply sq_g; exact g_move (s := .av (.val (.int _ _))) rfl; exact rfl
      apply sq_g; exact g_assign (s := .av (.val (.bool _))) rfl; exact rfl
      refine sq_s (g_store_agg rfl rfl rfl rfl rfl rfl) ?_
      apply sq_g; exact g_assign (s := .av (.val (.int _ _))) rfl; exact rfl
      apply sq_g; exact g_assign (s := .av (.val (.int _ _))) rfl; exact rfl
      refine sq_nil ?_
      refine sq_then ?_
      refine cq_ret ?_
      refine sq_then_ret ?_
      refine sq_resN (rvs := [_, _, _, _]) (τs := [vb false, pp ⟨0, 0⟩, vi 0, vi (chk b)]) rfl rfl ⟨.tmp rfl, .agg (us := [_, _]) rfl rfl rfl rfl, .tmp rfl, .tmp rfl, trivial⟩ ?_
      simp [sepA, sepR, ca, cb]
    · have cb : chk b = 0 := by simpa using hb
      have sa := chk_sm ca
      have sb := chk_sm cb
      have na := chk_len ca
      have nb := chk_len cb
      focus
        refine cq_skip ?_
        refine sq_then ?_
        refine cq_seq ?_
        refine cq_seq ?_
        refine cq_region ?_
        apply sq_g; exact g_move (s := .av _) rfl; exact rfl
        apply sq_g; exact g_len rfl; exact rfl
        apply sq_g; exact g_cmp rfl rfl rfl; exact rfl
        apply sq_g; exact g_move (s := .av (.val (.bool _))) rfl; exact rfl
        refine sq_split rfl rfl (fun hb => ?_) (fun hb => ?_) <;> (try simp only [decide_eq_true_eq, decide_eq_false_iff_not, beq_iff_eq, beq_eq_false_iff_ne, bne_iff_ne, bne_eq_false_iff_eq, ne_eq, Bool.not_eq_true', Bool.not_eq_false', Bool.and_eq_true, Bool.or_eq_true, Bool.and_eq_false_iff, Bool.or_eq_false_iff] at hb) <;> (try (exfalso; omega))
        refine sq_off rfl rfl rfl rfl ?_
        refine sq_off rfl rfl rfl rfl ?_
        refine sq_off rfl rfl rfl rfl ?_
        apply sq_g; exact g_pick (s := .av (.val (.bool _))) rfl rfl; exact rfl
        refine sq_nil ?_
        refine sq_then ?_
        refine cq_cond_t rfl ?_
        refine cq_seq ?_
        refine cq_region ?_
        apply sq_g; exact  g_build (is := []) (xs := []) (vs := []) tb24_0 rfl rfl; exact rfl
        apply sq_g; exact g_assign (s := .av (.val (.bool _))) rfl; exact rfl
        refine sq_s (g_store_agg rfl rfl rfl rfl rfl rfl) ?_
        apply sq_g; exact g_assign (s := .av (.val (.int _ _))) rfl; exact rfl
        apply sq_g; exact g_assign (s := .av (.val (.int _ _))) rfl; exact rfl
        refine sq_nil ?_
        refine sq_then ?_
        refine cq_ret ?_
        refine sq_then_ret ?_
        rotate_left
        apply sq_on; exact g_move (s := .av _) rfl; exact rfl; exact rfl; exact rfl
        apply sq_on; exact g_len rfl; exact rfl; exact rfl; exact rfl
        apply sq_on; exact g_cmp rfl rfl rfl; exact rfl; exact rfl; exact rfl
        apply sq_g; exact g_pick (s := .av (.val (.bool _))) rfl rfl; exact rfl
        refine sq_nil ?_
        refine sq_then ?_
        rotate_left
      · refine sq_resN (rvs := [_, _, _, _]) (τs := [vb false, pp ⟨0, 0⟩, vi 0, vi 13]) rfl rfl ⟨.tmp rfl, .agg (us := [_, _]) rfl rfl rfl rfl, .tmp rfl, .tmp rfl, trivial⟩ ?_
        simp [sepA, sepR, ca, cb, show a.length = 0 by omega]
      · (refine cq_cond rfl (fun hb => ?_) (fun hb => ?_) <;> (try simp only [decide_eq_true_eq, decide_eq_false_iff_not, beq_iff_eq, beq_eq_false_iff_ne, bne_iff_ne, bne_eq_false_iff_eq, ne_eq, Bool.not_eq_true', Bool.not_eq_false', Bool.and_eq_true, Bool.or_eq_true, Bool.and_eq_false_iff, Bool.or_eq_false_iff] at hb) <;> (try (exfalso; omega)))
        · refine cq_seq ?_
          refine cq_region ?_
          apply sq_g; exact  g_build (is := []) (xs := []) (vs := []) tb24_0 rfl rfl; exact rfl
          apply sq_g; exact g_assign (s := .av (.val (.bool _))) rfl; exact rfl
          refine sq_s (g_store_agg rfl rfl rfl rfl rfl rfl) ?_
          apply sq_g; exact g_assign (s := .av (.val (.int _ _))) rfl; exact rfl
          apply sq_g; exact g_assign (s := .av (.val (.int _ _))) rfl; exact rfl
          refine sq_nil ?_
          refine sq_then ?_
          refine cq_ret ?_
          refine sq_then_ret ?_
          refine sq_resN (rvs := [_, _, _, _]) (τs := [vb false, pp ⟨0, 0⟩, vi 0, vi 13]) rfl rfl ⟨.tmp rfl, .agg (us := [_, _]) rfl rfl rfl rfl, .tmp rfl, .tmp rfl, trivial⟩ ?_
          simp [sepA, sepR, ca, cb, show b.length = 0 by omega]
        · have h0a : 0 < a.length := by omega
          have h0b : 0 < b.length := by omega
          have hwl : (ways a b).length ≤ 100000 := by
            have h1 := wA_len a b nb a.length na
            have h2 := wL_len a b na nb 2 (Nat.le_refl _)
            unfold ways
            rw [List.length_append]; omega
          refine cq_skip ?_
          refine sq_then ?_
          refine cq_seq ?_
          refine cq_region ?_
          apply sq_g; exact g_move (s := .av _) rfl; exact rfl
          apply sq_g; exact g_move (s := .av _) rfl; exact rfl
          apply sq_g; exact g_call ((rways_c a b sa sb na nb).ro) rfl; exact rfl
          apply sq_g; exact g_assign (s := .av _) rfl; exact rfl
          refine sq_nil ?_
          refine sq_then ?_
          refine cq_seq ?_
          refine cq_seq ?_
          refine cq_region ?_
          apply sq_g; exact g_assign (s := .av (.val (.int _ _))) rfl; exact rfl
          refine sq_nil ?_
          refine sq_then ?_
          refine cq_block ?_
          refine cq_loop (γ := Nat) (fun i => [(0, .av (pts a)), (1, .av (pts b)), (5, .own 10 0), (10, .av (pts (ways a b))), (11, .av (vi i))]) (fun _ => [(10, cp ⟨0, 0⟩)]) (fun i => i ≤ (ways a b).length ∧ ∀ x ∈ (ways a b).take i, splits a b x = false) (fun i => (ways a b).length - i) 0 ⟨Nat.zero_le _, by simp⟩ (ent ⟨.refl _, .refl _, .refl _, .refl _, .refl _, trivial⟩ ⟨⟨_, rfl, .refl _⟩, trivial⟩) ?_
          rintro i ⟨hi, hall⟩
          refine cq_seq ?_
          refine cq_seq ?_
          refine cq_region ?_
          apply sq_g; exact g_move (s := .av (.val (.int _ _))) rfl; exact rfl
          apply sq_g; exact g_move (s := .av _) rfl; exact rfl
          apply sq_g; exact g_len rfl; exact rfl
          apply sq_g; exact g_cmp rfl rfl rfl; exact rfl
          refine sq_nil ?_
          refine sq_then ?_
          (refine cq_cond rfl (fun hb => ?_) (fun hb => ?_) <;> (try simp only [decide_eq_true_eq, decide_eq_false_iff_not, beq_iff_eq, beq_eq_false_iff_ne, bne_iff_ne, bne_eq_false_iff_eq, ne_eq, Bool.not_eq_true', Bool.not_eq_false', Bool.and_eq_true, Bool.or_eq_true, Bool.and_eq_false_iff, Bool.or_eq_false_iff] at hb) <;> (try (exfalso; omega)))
          · have hil : i < (ways a b).length := by omega
            have hd := ways_bd sa sb _ (gp_mem hil)
            refine cq_skip ?_
            refine sq_then ?_
            refine cq_seq ?_
            refine cq_block ?_
            refine cq_seq ?_
            refine cq_region ?_
            apply sq_g; exact g_move (s := .av _) rfl; exact rfl
            apply sq_g; exact g_move (s := .av _) rfl; exact rfl
            apply sq_g; exact g_move (s := .av _) rfl; exact rfl
            apply sq_g; exact g_move (s := .av (.val (.int _ _))) rfl; exact rfl
            apply sq_g; exact g_index rfl rfl rfl (by omega); exact rfl
            apply sq_g; exact g_load_agg (us := [.int _ _, .int _ _]) rfl rfl rfl rfl; exact rfl
            apply sq_g; exact g_call (splits_c a b (gp (ways a b) i) sa sb hd h0a na h0b nb) rfl; exact rfl
            refine sq_nil ?_
            refine sq_then ?_
            (refine cq_cond rfl (fun hb => ?_) (fun hb => ?_) <;> (try simp only [decide_eq_true_eq, decide_eq_false_iff_not, beq_iff_eq, beq_eq_false_iff_ne, bne_iff_ne, bne_eq_false_iff_eq, ne_eq, Bool.not_eq_true', Bool.not_eq_false', Bool.and_eq_true, Bool.or_eq_true, Bool.and_eq_false_iff, Bool.or_eq_false_iff] at hb) <;> (try (exfalso; omega)))
            · refine cq_seq ?_
              refine cq_drawn ?_
              apply dq_g; exact g_move (s := .av _) rfl; exact rfl
              apply dq_g; exact g_move (s := .av (.val (.int _ _))) rfl; exact rfl
              apply dq_g; exact g_index rfl rfl rfl (by omega); exact rfl
              apply dq_g; exact g_load_agg (us := [.int _ _, .int _ _]) rfl rfl rfl rfl; exact rfl
              apply dq_g; exact g_move (s := .av _) rfl; exact rfl
              apply dq_g; exact g_move (s := .av _) rfl; exact rfl
              apply dq_g; exact g_move (s := .av (.val (.int _ _))) rfl; exact rfl
              apply dq_g; exact g_index rfl rfl rfl (by omega); exact rfl
              apply dq_g; exact g_load_agg (us := [.int _ _, .int _ _]) rfl rfl rfl rfl; exact rfl
              apply dq_g; exact g_call (rtop_c a (gp (ways a b) i) sa hd h0a na) rfl; exact rfl
              apply dq_g; exact g_assign (s := .av (.val (.bool _))) rfl; exact rfl
              refine dq_s (g_store_agg rfl rfl rfl rfl rfl rfl) ?_
              apply dq_g; exact g_assign (s := .av (.val (.int _ _))) rfl; exact rfl
              apply dq_g; exact g_assign (s := .av (.val (.int _ _))) rfl; exact rfl
              refine dq_nil tm rfl ?_
              refine sq_then ?_
              refine cq_ret ?_
              refine sq_inBlock_ret ?_
              refine sq_then_ret ?_
              refine sq_then_ret ?_
              refine sq_inBlock_ret ?_
              refine sq_then_ret ?_
              refine sq_resN (rvs := [_, _, _, _]) (τs := [vb true, pp (gp (ways a b) i), vi (top a (gp (ways a b) i)), vi 0]) rfl rfl ⟨.tmp rfl, .agg (us := [_, _]) rfl rfl rfl rfl, .tmp rfl, .tmp rfl, trivial⟩ ?_
              have hf := find_take hil hall hb
              simp [sepA, sepR, ca, cb, show a.length ≠ 0 by omega, show b.length ≠ 0 by omega, hf]
            · refine cq_skip ?_
              refine sq_then ?_
              refine cq_region ?_
              apply sq_g; exact g_move (s := .av (.val (.int _ _))) rfl; exact rfl
              apply sq_g; exact g_arith rfl rfl rfl (by omega); exact rfl
              apply sq_g; exact g_assign (s := .av (.val (.int _ _))) rfl; exact rfl
              refine sq_nil ?_
              exact sq_round (i + 1) ⟨by omega, by
                intro x hx
                rw [List.take_succ_eq_append_getElem hil, List.mem_append, List.mem_singleton] at hx
                rcases hx with hx | rfl
                · exact hall x hx
                · rw [← gp_eq hil]; simpa using hb⟩ (by omega) (ent ⟨.refl _, .refl _, .refl _, .refl _, .int (by omega), trivial⟩ ⟨⟨_, rfl, .refl _⟩, trivial⟩)
          · have hil : i = (ways a b).length := by omega
            subst hil
            refine cq_exit ?_
            refine sq_then ?_
            refine cq_seq ?_
            refine cq_region ?_
            apply sq_g; exact  g_build (is := []) (xs := []) (vs := []) tb24_0 rfl rfl; exact rfl
            apply sq_g; exact g_assign (s := .av (.val (.bool _))) rfl; exact rfl
            refine sq_s (g_store_agg rfl rfl rfl rfl rfl rfl) ?_
            apply sq_g; exact g_assign (s := .av (.val (.int _ _))) rfl; exact rfl
            apply sq_g; exact g_assign (s := .av (.val (.int _ _))) rfl; exact rfl
            refine sq_nil ?_
            refine sq_then ?_
            refine cq_ret ?_
            refine sq_resN (rvs := [_, _, _, _]) (τs := [vb false, pp ⟨0, 0⟩, vi 0, vi 0]) rfl rfl ⟨.tmp rfl, .agg (us := [_, _]) rfl rfl rfl rfl, .tmp rfl, .tmp rfl, trivial⟩ ?_
            have hf : (ways a b).find? (splits a b) = none := by
              rw [List.find?_eq_none]
              intro d hd
              rw [hall d (by rw [List.take_length]; exact hd)]; simp
            simp [sepA, sepR, ca, cb, show a.length ≠ 0 by omega, show b.length ≠ 0 by omega, hf]
theorem separates_c (a b : List Pt) : CtrA Try.prog 5 [pts a, pts b] (vb true) := by
  refine ctrA _ Try.func5 rfl rfl Try.ntmps5 rfl fun w Z => ?_
  simp only [initT, List.map_cons, List.map_nil, Nat.zero_add, Nat.reduceAdd]
  focus
    refine cq_seq ?_
    refine cq_region ?_
    apply sq_g; exact g_assign (s := .av (.val (.bool _))) rfl; exact rfl
    refine sq_nil ?_
    refine sq_then ?_
    refine cq_seq ?_
    refine cq_seq ?_
    refine cq_region ?_
    apply sq_g; exact g_move (s := .av _) rfl; exact rfl
    apply sq_g; exact g_call (few_c a) rfl; exact rfl
    apply sq_g; exact g_not rfl; exact rfl
    apply sq_g; exact g_move (s := .av (.val (.bool _))) rfl; exact rfl
    refine sq_split rfl rfl (fun hb => ?_) (fun hb => ?_) <;> (try simp only [decide_eq_true_eq, decide_eq_false_iff_not, beq_iff_eq, beq_eq_false_iff_ne, bne_iff_ne, bne_eq_false_iff_eq, ne_eq, Bool.not_eq_true', Bool.not_eq_false', Bool.and_eq_true, Bool.or_eq_true, Bool.and_eq_false_iff, Bool.or_eq_false_iff] at hb) <;> (try (exfalso; omega))
    refine sq_off rfl rfl rfl rfl ?_
    refine sq_off rfl rfl rfl rfl ?_
    refine sq_off rfl rfl rfl rfl ?_
    apply sq_g; exact g_pick (s := .av (.val (.bool _))) rfl rfl; exact rfl
    refine sq_nil ?_
    refine sq_then ?_
    refine cq_cond_t rfl ?_
    refine cq_seq ?_
    refine cq_region ?_
    rotate_left
    apply sq_on; exact g_move (s := .av _) rfl; exact rfl; exact rfl; exact rfl
    apply sq_on; exact g_call (few_c b) rfl; exact rfl; exact rfl; exact rfl
    apply sq_on; exact g_not rfl; exact rfl; exact rfl; exact rfl
    apply sq_g; exact g_pick (s := .av (.val (.bool _))) rfl rfl; exact rfl
    refine sq_nil ?_
    refine sq_then ?_
    rotate_left
  · apply sq_g; exact g_call (awake_c) rfl; exact rfl
    apply sq_g; exact g_assign (s := .av (.val (.bool _))) rfl; exact rfl
    refine sq_nil ?_
    refine sq_then ?_
    refine cq_ret ?_
    refine sq_then_ret ?_
    exact sq_res1 rfl (.tmp rfl) rfl
  · (refine cq_cond rfl (fun hb => ?_) (fun hb => ?_) <;> (try simp only [decide_eq_true_eq, decide_eq_false_iff_not, beq_iff_eq, beq_eq_false_iff_ne, bne_iff_ne, bne_eq_false_iff_eq, ne_eq, Bool.not_eq_true', Bool.not_eq_false', Bool.and_eq_true, Bool.or_eq_true, Bool.and_eq_false_iff, Bool.or_eq_false_iff] at hb) <;> (try (exfalso; omega)))
    · refine cq_seq ?_
      refine cq_region ?_
      apply sq_g; exact g_call (awake_c) rfl; exact rfl
      apply sq_g; exact g_assign (s := .av (.val (.bool _))) rfl; exact rfl
      refine sq_nil ?_
      refine sq_then ?_
      refine cq_ret ?_
      refine sq_then_ret ?_
      exact sq_res1 rfl (.tmp rfl) rfl
    · focus
        refine cq_skip ?_
        refine sq_then ?_
        refine cq_seq ?_
        refine cq_region ?_
        apply sq_g; exact g_move (s := .av _) rfl; exact rfl
        apply sq_g; exact g_move (s := .av _) rfl; exact rfl
        apply sq_g; exact g_call (sep_c a b) rfl; exact rfl
        apply sq_g; exact g_move (s := .av _) rfl; exact rfl
        apply sq_g; exact g_extractT rfl rfl; exact rfl
        apply sq_g; exact g_extractT rfl rfl; exact rfl
        apply sq_g; exact g_extractT rfl rfl; exact rfl
        apply sq_g; exact g_extractT rfl rfl; exact rfl
        refine sq_v (f_alloc 10 rfl) rfl ?_
        apply sq_g; exact g_assign (s := .av (.val (.bool _))) rfl; exact rfl
        refine sq_s (g_store_agg rfl rfl rfl rfl rfl rfl) ?_
        apply sq_g; exact g_assign (s := .av (.val (.int _ _))) rfl; exact rfl
        apply sq_g; exact g_assign (s := .av (.val (.int _ _))) rfl; exact rfl
        refine sq_nil ?_
        refine sq_then ?_
        refine cq_seq ?_
        refine cq_region ?_
        apply sq_g; exact g_move (s := .av _) rfl; exact rfl
        apply sq_g; exact g_move (s := .av _) rfl; exact rfl
        apply sq_g; exact g_call (rsep_c a b) rfl; exact rfl
        apply sq_g; exact g_move (s := .av _) rfl; exact rfl
        apply sq_g; exact g_extractT rfl rfl; exact rfl
        apply sq_g; exact g_extractT rfl rfl; exact rfl
        apply sq_g; exact g_extractT rfl rfl; exact rfl
        apply sq_g; exact g_extractT rfl rfl; exact rfl
        refine sq_v (f_alloc 11 rfl) rfl ?_
        apply sq_g; exact g_assign (s := .av (.val (.bool _))) rfl; exact rfl
        refine sq_s (g_store_agg rfl rfl rfl rfl rfl rfl) ?_
        apply sq_g; exact g_assign (s := .av (.val (.int _ _))) rfl; exact rfl
        apply sq_g; exact g_assign (s := .av (.val (.int _ _))) rfl; exact rfl
        refine sq_nil ?_
        refine sq_then ?_
        refine cq_seq ?_
        refine cq_region ?_
        apply sq_g; exact g_call (awake_c) rfl; exact rfl
        apply sq_g; exact g_move (s := .av (.val (.bool _))) rfl; exact rfl
        apply sq_on; exact g_move (s := .av (.val (.bool _))) rfl; exact rfl; exact rfl; exact rfl
        apply sq_on; exact g_move (s := .av (.val (.bool _))) rfl; exact rfl; exact rfl; exact rfl
        apply sq_on; exact g_eqb rfl rfl; exact rfl; exact rfl; exact rfl
        apply sq_g; exact g_pick (s := .av (.val (.bool _))) rfl rfl; exact rfl
        apply sq_g; exact g_move (s := .av (.val (.bool _))) rfl; exact rfl
        refine sq_split rfl rfl (fun hb => ?_) (fun hb => ?_) <;> (try simp only [decide_eq_true_eq, decide_eq_false_iff_not, beq_iff_eq, beq_eq_false_iff_ne, bne_iff_ne, bne_eq_false_iff_eq, ne_eq, Bool.not_eq_true', Bool.not_eq_false', Bool.and_eq_true, Bool.or_eq_true, Bool.and_eq_false_iff, Bool.or_eq_false_iff] at hb) <;> (try (exfalso; omega))
        apply sq_on; exact g_load_own_agg (us := [.int _ _, .int _ _]) rfl rfl rfl rfl; exact rfl; exact rfl; exact rfl
        apply sq_on; exact g_load_own_agg (us := [.int _ _, .int _ _]) rfl rfl rfl rfl; exact rfl; exact rfl; exact rfl
        apply sq_on; exact g_eql (xs := [_, _]) (ys := [_, _]) rfl rfl rfl rfl; exact rfl; exact rfl; exact rfl
        apply sq_g; exact g_pick (s := .av (.val (.bool _))) rfl rfl; exact rfl
        apply sq_g; exact g_move (s := .av (.val (.bool _))) rfl; exact rfl
        refine sq_split rfl rfl (fun hb => ?_) (fun hb => ?_) <;> (try simp only [decide_eq_true_eq, decide_eq_false_iff_not, beq_iff_eq, beq_eq_false_iff_ne, bne_iff_ne, bne_eq_false_iff_eq, ne_eq, Bool.not_eq_true', Bool.not_eq_false', Bool.and_eq_true, Bool.or_eq_true, Bool.and_eq_false_iff, Bool.or_eq_false_iff] at hb) <;> (try (exfalso; omega))
        apply sq_on; exact g_move (s := .av (.val (.int _ _))) rfl; exact rfl; exact rfl; exact rfl
        apply sq_on; exact g_move (s := .av (.val (.int _ _))) rfl; exact rfl; exact rfl; exact rfl
        apply sq_on; exact g_cmp rfl rfl rfl; exact rfl; exact rfl; exact rfl
        apply sq_g; exact g_pick (s := .av (.val (.bool _))) rfl rfl; exact rfl
        apply sq_g; exact g_move (s := .av (.val (.bool _))) rfl; exact rfl
        refine sq_split rfl rfl (fun hb => ?_) (fun hb => ?_) <;> (try simp only [decide_eq_true_eq, decide_eq_false_iff_not, beq_iff_eq, beq_eq_false_iff_ne, bne_iff_ne, bne_eq_false_iff_eq, ne_eq, Bool.not_eq_true', Bool.not_eq_false', Bool.and_eq_true, Bool.or_eq_true, Bool.and_eq_false_iff, Bool.or_eq_false_iff] at hb) <;> (try (exfalso; omega))
        apply sq_on; exact g_move (s := .av (.val (.int _ _))) rfl; exact rfl; exact rfl; exact rfl
        apply sq_on; exact g_move (s := .av (.val (.int _ _))) rfl; exact rfl; exact rfl; exact rfl
        apply sq_on; exact g_cmp rfl rfl rfl; exact rfl; exact rfl; exact rfl
        apply sq_g; exact g_pick (s := .av (.val (.bool _))) rfl rfl; exact rfl
        apply sq_g; exact g_assign (s := .av (.val (.bool _))) rfl; exact rfl
        refine sq_nil ?_
        refine sq_then ?_
        refine cq_ret ?_
        rotate_left
        refine sq_off rfl rfl rfl rfl ?_
        refine sq_off rfl rfl rfl rfl ?_
        refine sq_off rfl rfl rfl rfl ?_
        apply sq_g; exact g_pick (s := .av (.val (.bool _))) rfl rfl; exact rfl
        apply sq_g; exact g_assign (s := .av (.val (.bool _))) rfl; exact rfl
        refine sq_nil ?_
        refine sq_then ?_
        refine cq_ret ?_
        rotate_left
        refine sq_off rfl rfl rfl rfl ?_
        refine sq_off rfl rfl rfl rfl ?_
        refine sq_off rfl rfl rfl rfl ?_
        apply sq_g; exact g_pick (s := .av (.val (.bool _))) rfl rfl; exact rfl
        apply sq_g; exact g_move (s := .av (.val (.bool _))) rfl; exact rfl
        refine sq_off rfl rfl rfl rfl ?_
        refine sq_off rfl rfl rfl rfl ?_
        refine sq_off rfl rfl rfl rfl ?_
        apply sq_g; exact g_pick (s := .av (.val (.bool _))) rfl rfl; exact rfl
        apply sq_g; exact g_assign (s := .av (.val (.bool _))) rfl; exact rfl
        refine sq_nil ?_
        refine sq_then ?_
        refine cq_ret ?_
        rotate_left
        refine sq_off rfl rfl rfl rfl ?_
        refine sq_off rfl rfl rfl rfl ?_
        refine sq_off rfl rfl rfl rfl ?_
        apply sq_g; exact g_pick (s := .av (.val (.bool _))) rfl rfl; exact rfl
        apply sq_g; exact g_move (s := .av (.val (.bool _))) rfl; exact rfl
        refine sq_off rfl rfl rfl rfl ?_
        refine sq_off rfl rfl rfl rfl ?_
        refine sq_off rfl rfl rfl rfl ?_
        apply sq_g; exact g_pick (s := .av (.val (.bool _))) rfl rfl; exact rfl
        apply sq_g; exact g_move (s := .av (.val (.bool _))) rfl; exact rfl
        refine sq_off rfl rfl rfl rfl ?_
        refine sq_off rfl rfl rfl rfl ?_
        refine sq_off rfl rfl rfl rfl ?_
        apply sq_g; exact g_pick (s := .av (.val (.bool _))) rfl rfl; exact rfl
        apply sq_g; exact g_assign (s := .av (.val (.bool _))) rfl; exact rfl
        refine sq_nil ?_
        refine sq_then ?_
        refine cq_ret ?_
        rotate_left
      all_goals first | exact absurd trivial hb | exact sq_res1 rfl (.tmp rfl) (congrArg vb (by simp))
end Go.Proofs.Ytacepcnbgacipaa
