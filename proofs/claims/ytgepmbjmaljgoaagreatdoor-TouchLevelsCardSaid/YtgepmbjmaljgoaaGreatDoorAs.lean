/- A part of the proof that TouchLevels returns true at every input and that the input reads behind the call as it read before; this part states nothing of its own that is claimed. -/
import Derived.DeepKeys
import Derived.Test.YtgepmbjmaljgoaaGreatDoorRows
import Derived.ProofKit
import Derived.Deep.Slices
import Derived.Deep.Fields
import Derived.Deep.Strs
import Derived.OpenShut
import Derived.ChangeSame
import Derived.Lib.SmallJoins
import Derived.Carry
import Derived.Below
import Derived.FnData
import Derived.Shelf.Vars
import Derived.LaidLaws
import Derived.LaidHandle
import Derived.Handed
import Derived.Test.YtgepmbjmaljgoaaGreatDoorAi
import Derived.Test.YtgepmbjmaljgoaaGreatDoorAr
set_option linter.unusedVariables false
set_option linter.unusedSimpArgs false
section
namespace Go.Proofs.YtgepmbjmaljgoaaGreatDoor.H
open Go Go.Vc Go.RowKit Go.Na
set_option maxHeartbeats 4000000
theorem run_partS {P : Program} {e : TypeId} (h : P.underlying e = some .string) (w : World) (cs : Array Value) (k : Nat) (v : Value) (hv : cs[k]? = some v) : (part e cs k).run P w = .ok v w := by
  simp [part, isAgg, run_underlying h, hv]
theorem run_eqS {P : Program} {e : TypeId} (h : P.underlying e = some .string) (D : Nat) (w : World) (a : ByteArray) : (Op.equalIn (D + 1) e (.string a) (.string a)).run P w = .ok true w := by
  rw [run_equalIn_string w D e a a h]
  simp
theorem run_eqItemsS {P : Program} (D : Nat) (w : World) (e : TypeId) (hu : P.underlying e = some .string) (xs : List ByteArray) : ∀ (m k : Nat), xs.length = k + m →
    (Op.eqItems (D + 1) e 1 (xs.map Value.string).toArray (xs.map Value.string).toArray (List.range' k m)).run P w = .ok true w
  | 0, k, hx => by rfl
  | m + 1, k, hx => by
    have hxk : k < xs.length := by omega
    have p1 := run_partS (P := P) hu w (xs.map Value.string).toArray (k * 1) (.string xs[k]) (by simp [List.getElem?_eq_getElem hxk])
    have p3 := run_eqS (P := P) hu D w xs[k]
    have ih := run_eqItemsS D w e hu xs m (k + 1) (by omega)
    rw [List.range'_succ]
    simp only [Op.eqItems, Sem.run_bind, p1, Result.andThen_ok, p3, Bool.not_true, Bool.false_eq_true, if_false, ih]
theorem eq57 (D : Nat) (w : World) (a b c : ByteArray) : (Op.equalIn (D + 2) 57 (.agg #[.string a, .string b, .string c]) (.agg #[.string a, .string b, .string c])).run Tryz.prog w = .ok true w := by
  have h := run_eqItemsS (P := Tryz.prog) D w 39 (by kernel_rfl) [a, b, c] 3 0 rfl
  rw [run_equalIn_array w (D + 1) _ _ (by kernel_rfl : Tryz.prog.underlying 57 = some (.array 3 39)) (i := (Tryz.prog.info? 39).getD default) (by kernel_rfl)]
  rw [show Tryz.prog.cellsOf 39 = 1 by kernel_rfl, List.range_eq_range']
  exact h
theorem run_eqFieldsR {P : Program} (D : Nat) (w : World) (cs : Array Value) : ∀ (fs : List Field), (∀ f ∈ fs, f.name ≠ "_" ∧ ∃ v, (part f.type cs f.offset).run P w = .ok v w ∧ (Op.equalIn D f.type v v).run P w = .ok true w) →
    (Op.eqFields D cs cs fs).run P w = .ok true w
  | [], _ => by simp [Op.eqFields]
  | f :: fs, h => by
    obtain ⟨h1, v, h2, h3⟩ := h f (by simp)
    have ih := run_eqFieldsR D w cs fs (fun g hg => h g (by simp [hg]))
    simp only [Op.eqFields, if_pos h1, Sem.run_bind, h2, Result.andThen_ok, h3, Bool.not_true, Bool.false_eq_true, if_false, ih]
theorem p57_0 (a b c d e f : ByteArray) (w : World) : (part 57 #[.string a, .string b, .string c, .string d, .string e, .string f] 0).run Tryz.prog w = .ok (.agg #[.string a, .string b, .string c]) w := by kernel_rfl
theorem p57_3 (a b c d e f : ByteArray) (w : World) : (part 57 #[.string a, .string b, .string c, .string d, .string e, .string f] 3).run Tryz.prog w = .ok (.agg #[.string d, .string e, .string f]) w := by kernel_rfl
theorem eq59r (a b c d e f : ByteArray) (w : World) : (binOp .eql 59 (.agg #[.string a, .string b, .string c, .string d, .string e, .string f]) (.agg #[.string a, .string b, .string c, .string d, .string e, .string f])).run Tryz.prog w = .ok (.bool true) w := by
  have h9 : (9997 + 2 : Nat) = 9999 := rfl
  have hfs : (Tryz.prog.fieldsOf 59).toList = [(Tryz.prog.fieldsOf 59)[0]!, (Tryz.prog.fieldsOf 59)[1]!] := by kernel_rfl
  have t0 : ((Tryz.prog.fieldsOf 59)[0]!).type = 57 := by kernel_rfl
  have t1 : ((Tryz.prog.fieldsOf 59)[1]!).type = 57 := by kernel_rfl
  have o0 : ((Tryz.prog.fieldsOf 59)[0]!).offset = 0 := by kernel_rfl
  have o1 : ((Tryz.prog.fieldsOf 59)[1]!).offset = 3 := by kernel_rfl
  have n0 : ((Tryz.prog.fieldsOf 59)[0]!).name = "T" := by kernel_rfl
  have n1 : ((Tryz.prog.fieldsOf 59)[1]!).name = "W" := by kernel_rfl
  rw [run_eql_struct, run_equalIn_agg w 9999 59 _ _ (by kernel_rfl) (by kernel_rfl), run_eqFieldsR]
  · rfl
  · rw [hfs]
    intro g hg
    simp only [List.mem_cons, List.not_mem_nil, or_false] at hg
    rcases hg with hg | hg
    · rw [hg, t0, o0, n0]
      exact ⟨by decide, _, p57_0 a b c d e f w, h9 ▸ eq57 9997 w a b c⟩
    · rw [hg, t1, o1, n1]
      exact ⟨by decide, _, p57_3 a b c d e f w, h9 ▸ eq57 9997 w d e f⟩
theorem LR_of_len {q : Rat} (h : (rtx q).length ≤ 24) : LR 43 q := by
  have h1 := spN_len (rtx q)
  have h2 := spD_len (rtx q)
  rw [spN_rtx] at h1
  rw [spD_rtx] at h2
  exact ⟨LI_itoa (by omega), LI_itoa (by omega)⟩
theorem shP_len {A B C : List UInt8} {n : Nat} (h : shP A B C n = true) : A.length ≤ 24 ∧ B.length ≤ 24 ∧ C.length ≤ 24 ∧ n ≤ 20 := by
  unfold shP shortB at h
  simp only [Bool.and_eq_true, decide_eq_true_eq, List.all_eq_true, List.mem_range] at h
  obtain ⟨⟨_, h1⟩, h2⟩ := h
  exact ⟨h1 0 (by omega), h1 1 (by omega), h1 2 (by omega), h2⟩
theorem plE_zero {a : Int} {A B C : List UInt8} (h : plE a A B C = 0) : ∃ (k : Nat) (qA qB qC : Rat), k < 3 ∧ a = k ∧ A = rtx qA ∧ B = rtx qB ∧ C = rtx qC := by
  unfold plE at h
  split at h
  · cases h
  · rename_i ha
    split at h
    · rename_i h1; exact absurd h h1
    · rename_i h1
      split at h
      · rename_i h2; exact absurd h h2
      · rename_i h2
        obtain ⟨qA, rfl⟩ := chkR_good (l := A) (by omega)
        obtain ⟨qB, rfl⟩ := chkR_good (l := B) (by omega)
        obtain ⟨qC, rfl⟩ := chkR_good (l := C) h
        exact ⟨a.toNat, qA, qB, qC, by omega, by omega, rfl, rfl, rfl⟩
theorem both_h (a : Int) (A B C : List UInt8) (s : AV) (p : Tr) (hA : A.length ≤ 24) (hB : B.length ≤ 24) (hC : C.length ≤ 24) :
    ∃ (t : List UInt8) (e : Int), CtrA Tryz.prog 22 [pA a A B C s, tp p] (tupOf [vS t, vi e]) ∧ CtrA Tryz.prog 23 [pA a A B C s, tp p] (tupOf [vS t, vi e]) := by
  by_cases he : plE a A B C = 0
  · cases hp : rightT p with
    | false => exact ⟨_, _, Height_far a A B C s p (by omega) (by omega) (by omega) he hp, rHeight_far a A B C s p (by omega) (by omega) (by omega) he hp⟩
    | true =>
      obtain ⟨k, qA, qB, qC, hk, rfl, rfl, rfl, rfl⟩ := plE_zero he
      exact ⟨_, _, Height_ok k hk qA qB qC s p (LR_of_len hA) (LR_of_len hB) (LR_of_len hC) hp (by omega) (by omega) (by omega), rHeight_ok k hk qA qB qC s p (LR_of_len hA) (LR_of_len hB) (LR_of_len hC) hp (by omega) (by omega) (by omega)⟩
  · exact ⟨_, _, Height_bad a A B C s p (by omega) (by omega) (by omega) he, rHeight_bad a A B C s p (by omega) (by omega) (by omega) he⟩
theorem torC6 {k : Nat} (hk : k < 3) (o : Int) (A B C : Rat) : ∃ c0 c1 c2 c3 c4 c5, torC k o A B C = [sv c0, sv c1, sv c2, sv c3, sv c4, sv c5] := by
  rcases (by omega : k = 0 ∨ k = 1 ∨ k = 2) with rfl | rfl | rfl <;> exact ⟨_, _, _, _, _, _, rfl⟩
theorem both_t (a : Int) (A B C : List UInt8) (s : AV) (o : Int) (hA : A.length ≤ 24) (hB : B.length ≤ 24) (hC : C.length ≤ 24) :
    ∃ (c0 c1 c2 c3 c4 c5 : List UInt8) (e : Int), CtrA Tryz.prog 24 [pA a A B C s, vi o] (tupOf [torV [sv c0, sv c1, sv c2, sv c3, sv c4, sv c5], vi e]) ∧ CtrA Tryz.prog 25 [pA a A B C s, vi o] (tupOf [torV [sv c0, sv c1, sv c2, sv c3, sv c4, sv c5], vi e]) := by
  by_cases he : plE a A B C = 0
  · by_cases ho : -100000 ≤ o ∧ o ≤ 100000
    · obtain ⟨k, qA, qB, qC, hk, rfl, rfl, rfl, rfl⟩ := plE_zero he
      have h1 := Torsor_ok k hk qA qB qC s o ho (LR_of_len hA) (LR_of_len hB) (LR_of_len hC) (by omega) (by omega) (by omega)
      have h2 := rTorsor_ok k hk qA qB qC s o ho (LR_of_len hA) (LR_of_len hB) (LR_of_len hC) (by omega) (by omega) (by omega)
      obtain ⟨c0, c1, c2, c3, c4, c5, h6⟩ := torC6 hk o qA qB qC
      rw [h6] at h1 h2
      exact ⟨_, _, _, _, _, _, _, h1, h2⟩
    · exact ⟨[], [], [], [], [], [], 2, Torsor_far a A B C s o (by omega) (by omega) (by omega) he ho, rTorsor_far a A B C s o (by omega) (by omega) (by omega) he ho⟩
  · exact ⟨[], [], [], [], [], [], _, Torsor_bad a A B C s o (by omega) (by omega) (by omega) he, rTorsor_bad a A B C s o (by omega) (by omega) (by omega) he⟩
theorem eq59g (x y : Operand) (xs ys : Array Value) (w : World) : (eqGuard .eql 59 x y (.agg xs) (.agg ys)).run Tryz.prog w = .ok () w := by kernel_rfl
theorem levels_c (a : Int) (A B C : List UInt8) (n : Nat) (row : Nat → Nat → AV) (p : Tr) (o : Int) (hn : n ≤ 9223372036854775807) (hA : A.length ≤ 9223372036854775807) (hB : B.length ≤ 9223372036854775807) (hC : C.length ≤ 9223372036854775807) :
    CtrA Tryz.prog 5 [pA a A B C (.sl n 1 row), tp p, vi o] (vb true) := by
  have hs := short_c a A B C n row hn hA hB hC
  have haw := awake_c
  cases hsh : shP A B C n with
  | false =>
    rw [hsh] at hs
    refine ctrA _ Tryz.func5 rfl rfl Tryz.ntmps5 rfl fun w Z => ?_
    simp only [initT, List.map_cons, List.map_nil, Nat.zero_add, Nat.reduceAdd]
    refine wt ?_
    refine sq_g (g_load_aggv rfl rfl) rfl ?_
    refine wt ?_
    exact sq_res1 rfl (.tmp rfl) rfl
  | true =>
    rw [hsh] at hs
    obtain ⟨l1, l2, l3, l4⟩ := shP_len hsh
    obtain ⟨t, e, h1, h2⟩ := both_h a A B C (.sl n 1 row) p l1 l2 l3
    obtain ⟨c0, c1, c2, c3, c4, c5, e', h3, h4⟩ := both_t a A B C (.sl n 1 row) o l1 l2 l3
    have b1 : (t == t) = true := by simp
    have b2 : (e == e) = true := by simp
    have b3 : (e' == e') = true := by simp
    refine ctrA _ Tryz.func5 rfl rfl Tryz.ntmps5 rfl fun w Z => ?_
    simp only [initT, List.map_cons, List.map_nil, Nat.zero_add, Nat.reduceAdd]
    refine wt ?_
    refine sq_g (g_load_aggv rfl rfl) rfl ?_
    refine wt ?_
    refine sq_g (g_load_aggv rfl rfl) rfl ?_
    refine wt ?_
    refine sq_g (g_load_aggv rfl rfl) rfl ?_
    refine wt ?_
    refine sq_g (g_load_aggv rfl rfl) rfl ?_
    refine wt ?_
    refine sq_g (g_load_aggv rfl rfl) rfl ?_
    refine wt ?_
    rw [b1]
    refine wt ?_
    rw [b2]
    refine wt ?_
    refine sq_on (g_load_own_agg (us := [sv c0, sv c1, sv c2, sv c3, sv c4, sv c5]) rfl rfl rfl rfl) rfl rfl rfl ?_
    refine sq_on (g_load_own_agg (us := [sv c0, sv c1, sv c2, sv c3, sv c4, sv c5]) rfl rfl rfl rfl) rfl rfl rfl ?_
    refine sq_on (g_bin rfl rfl (fun w => eq59g _ _ _ _ w) (fun w => eq59r _ _ _ _ _ _ w)) rfl rfl rfl ?_
    refine wt ?_
    rw [b3]
    refine wt ?_
    exact sq_res1 rfl (.tmp rfl) rfl
end Go.Proofs.YtgepmbjmaljgoaaGreatDoor.H
end
section
namespace Go.Proofs.YtgepmbjmaljgoaaGreatDoor
open Go Go.Vc Go.RowKit Go.ChangeShapes Go.WideShapes Go.ChangeAt Go.Joins
set_option maxRecDepth 100000
theorem laid_mem {P : Program} {w : World} : ∀ {l : List (String × DataW Unit)} {ps : List MemPlace}, DataW.LaidVars P w l ps → ∀ {n : String} {d : DataW Unit}, (n, d) ∈ l →
    ∃ g t cs fuel p, P.globalNamed n = some g ∧ (P.globals[g]?).map (·.type) = some t ∧ w.var? P n = some cs ∧ DataW.trod (fun _ => ()) P w 0 (fun _ => true) false fuel t cs.toList = some (d, p)
  | [], _, _, _, _, hm => by cases hm
  | (n', d') :: r, _, h, n, d, hm => by
    obtain ⟨g, t, cs, fuel, p, q, h1, h2, h3, h4, h5, _⟩ := h
    rcases List.mem_cons.1 hm with e | hm
    · cases e; exact ⟨g, t, cs, fuel, p, h1, h2, h3, h4⟩
    · exact laid_mem h5 hm
theorem ints_of {H : Type} {enc : TypeId × Value → H} {P : Program} {W : World} {base : Nat} {spare : Nat → Bool} {held : Bool} {t e : TypeId} {q : IntKind} {n fuel : Nat} {cs : List Value} {d : DataW H} {p : List MemPlace}
    (ht : P.underlying t = some (.array n e)) (he : P.underlying e = some (.int q)) (hc : P.cellsOf e = 1) (hct : P.cellsOf t = n) (h : DataW.trod enc P W base spare held fuel t cs = some (d, p)) :
    ∃ ms : List Int, cs = ms.map (Value.int q) ∧ d = .agg (ms.map fun m => .lit (.int q m)) := by
  obtain ⟨xs, m, _, ex, hl, hxl, hel⟩ := DataW.trod_array ht h
  rw [hct] at hl
  rw [hc] at hel
  have key : ∀ i, i < n → ∃ z : Int, cs[i]? = some (.int q z) ∧ xs[i]? = some (.lit (.int q z), []) := fun i hi => by
    have h0 := hel i hi
    rw [List.getElem?_eq_getElem (by omega)] at h0
    obtain ⟨z, q0, q1, _⟩ := DataW.trod_int he h0
    refine ⟨z, ?_, by rw [List.getElem?_eq_getElem (by omega), q1]⟩
    have : ((cs.drop (i * 1)).take 1)[0]? = some (.int q z) := by rw [q0]; rfl
    simpa [List.getElem?_take, List.getElem?_drop] using this
  let f : Nat → Int := fun i => if h : i < n then (key i h).choose else 0
  have hf : ∀ i, i < n → cs[i]? = some (.int q (f i)) ∧ xs[i]? = some (.lit (.int q (f i)), []) := fun i hi => by
    have := (key i hi).choose_spec
    simpa [f, hi] using this
  refine ⟨(List.range n).map f, ?_, ?_⟩
  · apply List.ext_getElem?
    intro i
    by_cases hi : i < n
    · rw [(hf i hi).1]; simp [hi]
    · rw [List.getElem?_eq_none (by omega), List.getElem?_eq_none (by simp; omega)]
  · have hx : xs.map (·.1) = ((List.range n).map f).map (fun m => DataW.lit (.int q m)) := by
      apply List.ext_getElem?
      intro i
      by_cases hi : i < n
      · rw [List.getElem?_map, (hf i hi).2]; simp [hi]
      · rw [List.getElem?_eq_none (by simp; omega), List.getElem?_eq_none (by simp; omega)]
    have := congrArg Prod.fst ex
    rw [hx] at this
    exact this
end Go.Proofs.YtgepmbjmaljgoaaGreatDoor
end
section
namespace Go.Proofs.YtgepmbjmaljgoaaGreatDoor
open Go Go.Vc Go.RowKit Go.ChangeShapes Go.WideShapes Go.ChangeAt Go.Joins
set_option maxRecDepth 100000
theorem g0 : Tryz.prog.globalNamed "metrolab/touch.others" = some 0 := by kernel_rfl
theorem g2 : Tryz.prog.globalNamed "internal/strconv.uint64pow10" = some 2 := by kernel_rfl
theorem gt0 : (Tryz.prog.globals[0]?).map (·.type) = some 153 := by kernel_rfl
theorem cells152 : Tryz.prog.cellsOf 152 = 2 := by kernel_rfl
theorem cells153 : Tryz.prog.cellsOf 153 = 6 := by kernel_rfl
theorem cells3 : Tryz.prog.cellsOf 3 = 1 := by kernel_rfl
theorem und3 : Tryz.prog.underlying 3 = some (.int .i64) := by kernel_rfl
theorem und152 : Tryz.prog.underlying 152 = some (.array 2 3) := by kernel_rfl
theorem und153 : Tryz.prog.underlying 153 = some (.array 3 152) := by kernel_rfl
theorem lits_inj {H : Type} {q : IntKind} : ∀ {ms ns : List Int}, (ns.map fun m => (DataW.lit (.int q m) : DataW H)) = ms.map (fun m => DataW.lit (.int q m)) → ms = ns
  | [], [], _ => rfl
  | [], _ :: _, h => by cases h
  | _ :: _, [], h => by cases h
  | a :: ms, b :: ns, h => by
    simp only [List.map_cons, List.cons.injEq, DataW.lit.injEq, Lit.int.injEq, true_and] at h
    rw [h.1, lits_inj h.2]
theorem others_of {W : World} {l : List (String × DataW Unit)} {ps : List MemPlace} (h : DataW.LaidVars Tryz.prog W l ps) (hm : ("metrolab/touch.others", Rows.laid_metrolab_touch_others) ∈ l) :
    ∀ i, i < 6 → W.cell? ⟨0, i, none⟩ = some (.int .i64 ([1, 2, 0, 2, 0, 1].getD i 0)) := by
  obtain ⟨g, t, cs, fuel, p, h1, h2, h3, h4⟩ := laid_mem h hm
  obtain rfl : 0 = g := Option.some.inj (g0.symm.trans h1)
  obtain rfl : 153 = t := Option.some.inj (gt0.symm.trans h2)
  obtain ⟨xs, m, _, ex, hl, hxl, hel⟩ := DataW.trod_array und153 h4
  rw [cells152] at hel
  rw [cells153] at hl
  have ed := congrArg Prod.fst ex
  match xs, hxl with
  | [x0, x1, x2], _ =>
    have e0 := hel 0 (by decide)
    have e1 := hel 1 (by decide)
    have e2 := hel 2 (by decide)
    obtain ⟨d0, q0⟩ := x0
    obtain ⟨d1, q1⟩ := x1
    obtain ⟨d2, q2⟩ := x2
    obtain ⟨m0, c0, f0⟩ := ints_of und152 und3 cells3 cells152 (show DataW.trod _ _ _ _ _ _ _ _ _ = some (d0, q0) from e0)
    obtain ⟨m1, c1, f1⟩ := ints_of und152 und3 cells3 cells152 (show DataW.trod _ _ _ _ _ _ _ _ _ = some (d1, q1) from e1)
    obtain ⟨m2, c2, f2⟩ := ints_of und152 und3 cells3 cells152 (show DataW.trod _ _ _ _ _ _ _ _ _ = some (d2, q2) from e2)
    simp only [Rows.laid_metrolab_touch_others, List.map_cons, List.map_nil, f0, f1, f2, DataW.agg.injEq, List.cons.injEq, and_true] at ed
    obtain ⟨a0, a1, a2⟩ := ed
    obtain rfl := lits_inj (ns := [1, 2]) a0
    obtain rfl := lits_inj (ns := [0, 2]) a1
    obtain rfl := lits_inj (ns := [0, 1]) a2
    obtain ⟨cl⟩ := cs
    match cl, hl with
    | [b0, b1, b2, b3, b4, b5], _ =>
      simp at c0 c1 c2
      obtain ⟨rfl, rfl⟩ := c0
      obtain ⟨rfl, rfl⟩ := c1
      obtain ⟨rfl, rfl⟩ := c2
      intro i hi
      rw [World.var?_cell g0 h3]
      rcases (by omega : i = 0 ∨ i = 1 ∨ i = 2 ∨ i = 3 ∨ i = 4 ∨ i = 5) with rfl | rfl | rfl | rfl | rfl | rfl <;> rfl
theorem gt2 : (Tryz.prog.globals[2]?).map (·.type) = some 375 := by kernel_rfl
theorem und375 : Tryz.prog.underlying 375 = some (.array 20 268) := by kernel_rfl
theorem und268 : Tryz.prog.underlying 268 = some (.int .u64) := by kernel_rfl
theorem cells268 : Tryz.prog.cellsOf 268 = 1 := by kernel_rfl
theorem cells375 : Tryz.prog.cellsOf 375 = 20 := by kernel_rfl
theorem pow10_of {W : World} {l : List (String × DataW Unit)} {ps : List MemPlace} (h : DataW.LaidVars Tryz.prog W l ps) (hm : ("internal/strconv.uint64pow10", Rows.laid_internal_strconv_uint64pow10) ∈ l) :
    ∃ t fr, W.heap[2]? = some (.cells (Lib.pow10Tab.map (Value.int .u64)).toArray t fr) := by
  obtain ⟨g, t, cs, fuel, p, h1, h2, h3, h4⟩ := laid_mem h hm
  obtain rfl : 2 = g := Option.some.inj (g2.symm.trans h1)
  obtain rfl : 375 = t := Option.some.inj (gt2.symm.trans h2)
  obtain ⟨ms, c0, f0⟩ := ints_of und375 und268 cells268 cells375 h4
  have hd : Rows.laid_internal_strconv_uint64pow10 (H := Unit) = .agg (Lib.pow10Tab.map fun m => .lit (.int .u64 m)) := by rfl
  rw [hd, DataW.agg.injEq] at f0
  obtain rfl := lits_inj f0
  obtain ⟨cl⟩ := cs
  simp only at c0
  subst c0
  unfold World.var? at h3
  rw [g2] at h3
  simp only [Option.bind_some] at h3
  split at h3
  · rename_i cs' t' fr' hh
    cases h3
    exact ⟨t', fr', hh⟩
  · cases h3
theorem maxLen_of {W : World} (h : W.ShapedOpen Tryz.prog) : ∃ m, W.cell? ⟨1, 0, none⟩ = some (.int .i64 m) :=
  cell_of_shapedOpen_int (t := 3) (zero := #[.int .i64 0]) (k := .i64) h (of_decide_eq_true (by kernel_rfl)) (by kernel_rfl) (by kernel_rfl) (by kernel_rfl) (by kernel_rfl) (by kernel_rfl)
theorem cell_blk {w : World} {b o : Nat} {v : Value} (h : w.cell? ⟨b, o, none⟩ = some v) : b < w.heap.size := by
  unfold World.cell? at h
  split at h
  · rename_i hb; exact (Array.getElem?_eq_some_iff.1 hb).1
  · cases h
theorem zok_of {W : World} {l : List (String × DataW Unit)} (hl : laidMet Tryz.prog l W) (hs : W.ShapedOpen Tryz.prog) (hm0 : ("metrolab/touch.others", Rows.laid_metrolab_touch_others) ∈ l) (hm2 : ("internal/strconv.uint64pow10", Rows.laid_internal_strconv_uint64pow10) ∈ l) :
    ZOk (fun k => k < W.heap.size) W := by
  obtain ⟨ps, hv, _⟩ := hl
  have h0 := others_of hv hm0
  obtain ⟨m, h1⟩ := maxLen_of hs
  obtain ⟨t, fr, h2⟩ := pow10_of hv hm2
  refine ⟨fun k h => h, fun p hp => ?_⟩
  simp only [glb, List.mem_cons, List.not_mem_nil, or_false] at hp
  rcases hp with rfl | rfl | rfl
  · have hb := cell_blk (h0 0 (by decide))
    exact ⟨0, 0, rfl, fun _ => hb, hb, fun i hi => ⟨_, by rw [Nat.zero_add]; exact h0 i hi, rfl⟩⟩
  · have hb := cell_blk h1
    exact ⟨1, m, rfl, hb, hb, h1⟩
  · have hb : 2 < W.heap.size := (Array.getElem?_eq_some_iff.1 h2).1
    exact ⟨2, t, fr, rfl, hb, hb, h2⟩
end Go.Proofs.YtgepmbjmaljgoaaGreatDoor
end
section
namespace Go.Proofs.YtgepmbjmaljgoaaGreatDoor
open Go Go.Vc Go.RowKit Go.ChangeShapes Go.WideShapes Go.ChangeAt Go.Joins
set_option maxRecDepth 100000
theorem cell_lt {w : World} {a : Addr} {v : Value} (h : w.cell? a = some v) : a.block < w.heap.size ∧ a.spot = none := by
  unfold World.cell? at h
  split at h
  · rename_i hb
    refine ⟨(Array.getElem?_eq_some_iff.1 hb).1, ?_⟩
    split at h
    · cases h
    · rename_i hs; simpa using hs
  · cases h
section
variable {H : Type} {enc : TypeId × Value → H} {P : Program} {W : World} {base : Nat} {spare : Nat → Bool} {held : Bool}
theorem sl_of {t e sz : Nat} {fuel : Nat} {cs : List Value} {x : DataW H × List MemPlace} (ht : P.underlying t = some (.slice e)) (hC : P.cellsOf e = sz) (hs0 : 0 < sz)
    (hel : ∀ n cs' y, DataW.trod enc P W base spare held n e cs' = some y → ∃ g : Nat → Int, ∀ j, j < sz → cs'[j]? = some (.int .i64 (g j)))
    (h : DataW.trod enc P W base spare held fuel t cs = some x) :
    ∃ (v : Value) (n : Nat) (g : Nat → Nat → Int), cs = [v] ∧ ∀ row : Nat → Nat → AV, (∀ i, i < n → ∀ j, j < sz → row i j = .val (.int .i64 (g i j))) → AV.ok (fun k => k < W.heap.size) W (.sl n sz row) v := by
  rcases Go.Deep.open_slice ht h with h0 | ⟨a, len, cap, m, n, D, Pl, hcs, hb, hl, hm, hmm, hx, hi⟩
  · exact ⟨_, 0, fun _ _ => 0, h0.1, fun row _ => ⟨none, 0, rfl, by omega, by decide, by simp⟩⟩
  · have hg : ∀ i, i < len → ∃ g : Nat → Int, ∀ j, j < sz → W.cell? (a.add (i * sz + j)) = some (.int .i64 (g j)) := by
      intro i hil
      have him : i < m := by rw [hmm]; split <;> omega
      obtain ⟨cs', hc, ht'⟩ := hi i him
      rw [hC] at hc
      obtain ⟨g, hgj⟩ := hel _ _ _ ht'
      obtain ⟨_, hcl, hat⟩ := World.cells?_some hc
      refine ⟨g, fun j hj => ?_⟩
      have hcell := hat j hj
      have h1 := hgj j hj
      rw [← Go.Deep.add_add, hcell]
      have hv : cs'[j]? = some (cs'[j]'(by omega)) := List.getElem?_eq_getElem (by omega)
      rw [hv] at h1
      rw [← h1]
      simp [hv]
    let g : Nat → Nat → Int := fun i => if hil : i < len then (hg i hil).choose else fun _ => 0
    have hgs : ∀ i, i < len → ∀ j, j < sz → W.cell? (a.add (i * sz + j)) = some (.int .i64 (g i j)) := by
      intro i hil
      have := (hg i hil).choose_spec
      simpa [g, hil] using this
    refine ⟨_, len, g, hcs, fun row hrow => ⟨some a, cap, rfl, hl, hm, fun hn => ?_⟩⟩
    obtain ⟨b, o, s⟩ := a
    have h0 := hgs 0 hn 0 hs0
    rw [Nat.zero_mul, Nat.zero_add, show (Addr.mk b o s).add 0 = ⟨b, o, s⟩ from rfl] at h0
    obtain ⟨hbl, hs⟩ := cell_lt h0
    dsimp only at hbl hs
    subst hs
    have hadd : ∀ k, (Addr.mk b o none).add k = ⟨b, o + k, none⟩ := fun k => by
      unfold Addr.add; split
      · subst k; rfl
      · rfl
    refine ⟨b, o, rfl, fun _ => hbl, hbl, fun i hil j hj => ⟨.int .i64 (g i j), ?_, ?_⟩⟩
    · have h2 := hgs i hil j hj
      rw [hadd] at h2
      rw [← h2, Nat.add_assoc]
    · rw [hrow i hil j hj]; rfl
end
section
variable {HH : Type} {enc : TypeId × Value → HH} {W : World} {base : Nat} {spare : Nat → Bool} {held : Bool}
theorem cells42 : Tryz.prog.cellsOf 42 = 5 := by kernel_rfl
theorem cells51 : Tryz.prog.cellsOf 51 = 3 := by kernel_rfl
theorem cells39 : Tryz.prog.cellsOf 39 = 1 := by kernel_rfl
theorem cells40 : Tryz.prog.cellsOf 40 = 1 := by kernel_rfl
theorem und39 : Tryz.prog.underlying 39 = some .string := by kernel_rfl
theorem und40 : Tryz.prog.underlying 40 = some (.slice 3) := by kernel_rfl
theorem und42 : Tryz.prog.underlying 42 = some (.struct (Tryz.prog.fieldsOf 42)) := by kernel_rfl
theorem und51 : Tryz.prog.underlying 51 = some (.struct (Tryz.prog.fieldsOf 51)) := by kernel_rfl
theorem fs42 : (Tryz.prog.fieldsOf 42).size = 5 := by kernel_rfl
theorem fs51 : (Tryz.prog.fieldsOf 51).size = 3 := by kernel_rfl
theorem fld {t i ft fo n : Nat} {xs : List (DataW HH × List MemPlace)} {cs : List Value} (hf : (Tryz.prog.fieldsOf t)[i]? = some ((Tryz.prog.fieldsOf t)[i]!)) (h1 : ((Tryz.prog.fieldsOf t)[i]!).type = ft) (h2 : ((Tryz.prog.fieldsOf t)[i]!).offset = fo)
    (h : ∀ (i : Nat) (f : Field), (Tryz.prog.fieldsOf t)[i]? = some f → DataW.trod enc Tryz.prog W base spare held n f.type ((cs.drop f.offset).take (Tryz.prog.cellsOf f.type)) = xs[i]?) (hi : i < xs.length) :
    ∃ x, DataW.trod enc Tryz.prog W base spare held n ft ((cs.drop fo).take (Tryz.prog.cellsOf ft)) = some x := by
  have := h i _ hf
  rw [h1, h2, List.getElem?_eq_getElem hi] at this
  exact ⟨_, this⟩
theorem tp_arg {v : Value} {b0 : Nat} {d : DataW HH} {p : List MemPlace} (hv : Value.okWide Tryz.prog W .any b0 51 v) (h : DataW.Trod enc Tryz.prog W base spare held 51 v d p) : ∃ a : H.Tr, AV.ok (fun k => k < W.heap.size) W (H.tp a) v := by
  obtain ⟨cs, rfl, hsz⟩ := okWide_struct und51 hv
  obtain ⟨fuel, hf⟩ := h
  obtain ⟨xs, n, _, _, hl, hxl, hel⟩ := DataW.trod_struct und51 hf
  rw [fs51] at hxl
  rw [cells51] at hl
  obtain ⟨cl⟩ := cs
  simp only [Value.cells] at hl hel
  match cl, hl with
  | [c0, c1, c2], _ =>
    obtain ⟨x0, e0⟩ := fld (i := 0) (ft := 3) (fo := 0) (by kernel_rfl) (by kernel_rfl) (by kernel_rfl) hel (by omega)
    obtain ⟨x1, e1⟩ := fld (i := 1) (ft := 3) (fo := 1) (by kernel_rfl) (by kernel_rfl) (by kernel_rfl) hel (by omega)
    obtain ⟨x2, e2⟩ := fld (i := 2) (ft := 3) (fo := 2) (by kernel_rfl) (by kernel_rfl) (by kernel_rfl) hel (by omega)
    rw [cells3] at e0 e1 e2
    obtain ⟨z0, q0, _⟩ := DataW.trod_int und3 e0
    obtain ⟨z1, q1, _⟩ := DataW.trod_int und3 e1
    obtain ⟨z2, q2, _⟩ := DataW.trod_int und3 e2
    simp at q0 q1 q2
    subst q0 q1 q2
    exact ⟨⟨z0, z1, z2⟩, rfl⟩
theorem plane_arg {v : Value} {b0 : Nat} {d : DataW HH} {p : List MemPlace} (hv : Value.okWide Tryz.prog W .any b0 42 v) (h : DataW.Trod enc Tryz.prog W base spare held 42 v d p) :
    ∃ (a : Int) (A B C : List UInt8) (L : List Int), A.length ≤ maxLen ∧ B.length ≤ maxLen ∧ C.length ≤ maxLen ∧ L.length ≤ maxLen ∧ AV.ok (fun k => k < W.heap.size) W (H.pA a A B C (H.ixs L)) v := by
  obtain ⟨cs, rfl, hsz⟩ := okWide_struct und42 hv
  obtain ⟨fuel, hf⟩ := h
  obtain ⟨xs, n, _, _, hl, hxl, hel⟩ := DataW.trod_struct und42 hf
  rw [fs42] at hxl
  rw [cells42] at hl
  obtain ⟨cl⟩ := cs
  simp only [Value.cells] at hl hel
  match cl, hl with
  | [c0, c1, c2, c3, c4], _ =>
    obtain ⟨x0, e0⟩ := fld (i := 0) (ft := 3) (fo := 0) (by kernel_rfl) (by kernel_rfl) (by kernel_rfl) hel (by omega)
    obtain ⟨x1, e1⟩ := fld (i := 1) (ft := 39) (fo := 1) (by kernel_rfl) (by kernel_rfl) (by kernel_rfl) hel (by omega)
    obtain ⟨x2, e2⟩ := fld (i := 2) (ft := 39) (fo := 2) (by kernel_rfl) (by kernel_rfl) (by kernel_rfl) hel (by omega)
    obtain ⟨x3, e3⟩ := fld (i := 3) (ft := 39) (fo := 3) (by kernel_rfl) (by kernel_rfl) (by kernel_rfl) hel (by omega)
    obtain ⟨x4, e4⟩ := fld (i := 4) (ft := 40) (fo := 4) (by kernel_rfl) (by kernel_rfl) (by kernel_rfl) hel (by omega)
    rw [cells3] at e0
    rw [cells39] at e1 e2 e3
    rw [cells40] at e4
    obtain ⟨z0, q0, _⟩ := DataW.trod_int und3 e0
    obtain ⟨s1, q1, _, l1⟩ := DataW.trod_string und39 e1
    obtain ⟨s2, q2, _, l2⟩ := DataW.trod_string und39 e2
    obtain ⟨s3, q3, _, l3⟩ := DataW.trod_string und39 e3
    obtain ⟨v4, m, g, q4, hrow⟩ := sl_of und40 cells3 (by decide) (fun n cs' y hy => by
      obtain ⟨z, rfl, _⟩ := DataW.trod_int und3 hy
      exact ⟨fun _ => z, fun j hj => by obtain rfl : j = 0 := by omega
                                        rfl⟩) e4
    simp at q0 q1 q2 q3 q4
    subst q0 q1 q2 q3 q4
    have hL : ((List.range m).map (fun i => g i 0)).length = m := by simp
    have hgz : ∀ i, i < m → ∀ j, j < 1 → H.zf ((List.range m).map (fun i => g i 0)) i j = .val (.int .i64 (g i j)) := fun i hi j hj => by
      obtain rfl : j = 0 := by omega
      simp [H.zf, H.gz, hi]
    have hk := hrow _ hgz
    have hbs : ∀ s : ByteArray, bs s.data.toList = s := fun s => by obtain ⟨⟨l⟩⟩ := s; rfl
    refine ⟨z0, s1.data.toList, s2.data.toList, s3.data.toList, (List.range m).map (fun i => g i 0), ?_, ?_, ?_, ?_, ?_⟩
    · simpa using l1
    · simpa using l2
    · simpa using l3
    · rw [hL]
      obtain ⟨a', c', e', h1', h2', _⟩ := hk
      omega
    · refine ⟨_, rfl, rfl, fun i hi => ?_⟩
      rcases (by omega : i = 0 ∨ i = 1 ∨ i = 2 ∨ i = 3 ∨ i = 4) with rfl | rfl | rfl | rfl | rfl
      · exact ⟨_, rfl, rfl⟩
      · exact ⟨_, rfl, by show Value.string s1 = .string (bs s1.data.toList); rw [hbs]⟩
      · exact ⟨_, rfl, by show Value.string s2 = .string (bs s2.data.toList); rw [hbs]⟩
      · exact ⟨_, rfl, by show Value.string s3 = .string (bs s3.data.toList); rw [hbs]⟩
      · refine ⟨_, rfl, ?_⟩
        show AV.ok _ W (.sl ((List.range m).map (fun i => g i 0)).length 1 _) _
        rw [hL]
        exact hk
end
end Go.Proofs.YtgepmbjmaljgoaaGreatDoor
end
