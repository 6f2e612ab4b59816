/- A part of the proof that TouchBears returns true at every input and that the input reads behind the call as it read before; this part states nothing of its own that is claimed. -/
import Derived.Test.YtgepmbjmaljgoaaGreatDoorCards
import Derived.Test.YtgepmbjmaljgoaaGreatDoorTie
import Derived.SevenTiedAt
import Derived.Test.YtgepmbjmaljgoaaGreatDoorCau
import Derived.Test.YtgepmbjmaljgoaaGreatDoorSab
import Derived.Test.YtgepmbjmaljgoaaGreatDoorSad
set_option linter.unusedVariables false
set_option linter.unusedSimpArgs false
section
namespace Go.Proofs.YtgepmbjmaljgoaaGreatDoor
open Go Go.Vc Go.RowKit Go.ChangeShapes Go.WideShapes Go.ChangeAt Go.Joins
set_option maxRecDepth 100000
theorem laidE : Rows.touchBearsRow.laid = Rows.touchLevelsRow.laid := by kernel_rfl
theorem laidF : (Rows.touchLevelsRow.laid.filter fun x => x.2.handleName?.isSome) = [] := by kernel_rfl
theorem laidH {W : World} (h : laidMetH Tryz.prog Rows.touchBearsRow.laid W) : laidMet Tryz.prog Rows.touchLevelsRow.laid W := by
  rw [laidE] at h
  unfold laidMetH at h
  rw [laidF] at h
  exact h
theorem laidH_met (os : Os) (args : Array Value) : laidMetH Tryz.prog Rows.touchBearsRow.laid ((laidWorld os).forCall (fun _ _ => 0) ⟨#[], args, []⟩).memory := by
  rw [laidE]
  unfold laidMetH
  rw [laidF]
  exact laid_met os args
theorem own : ownKnob Tryz.prog.godebug = none := by kernel_rfl
theorem laidOut : laidOutB Tryz.prog = true := by kernel_rfl
theorem und4 : Tryz.prog.underlying 4 = some .bool := by kernel_rfl
theorem read22 : Tryz.prog.readableRec 22 = true := by kernel_rfl
theorem row22 : 22 < Tryz.prog.types.size := of_decide_eq_true (by kernel_rfl)
theorem und5 : Tryz.prog.underlying 5 = some (.int .u8) := by kernel_rfl
theorem read38 : Tryz.prog.readableRec 38 = true := by kernel_rfl
theorem row38 : 38 < Tryz.prog.types.size := of_decide_eq_true (by kernel_rfl)
theorem law_end {f : FuncId} {vs : List Value} {τs : List AV} {W : World} {R : Ending → World → Prop} (hc : CtrA Tryz.prog f τs (H.vb true)) (hZ : ZOk (fun k => k < W.heap.size) W)
    (hall : All2 (fun τ v => AV.ok (fun k => k < W.heap.size) W τ v) τs vs) (hR : ∀ W', Below W.heap.size W W' → R (.returned (.bool true)) W') : Calls Tryz.prog f vs.toArray W R := by
  refine (hc.calls W _ vs hZ hall).mono ?_
  rintro e W' ⟨v, Z', rfl, hb, _, _, _, hv⟩
  obtain rfl : v = .bool true := hv
  exact hR W' hb
theorem u8_bound {n : Int} (h : (Lit.int .u8 n).wf = true) : 0 ≤ n ∧ n ≤ 255 := by
  have h' : (decide (IntKind.min .u8 ≤ n) && decide (n ≤ IntKind.max .u8)) = true := h
  rw [Bool.and_eq_true, decide_eq_true_eq, decide_eq_true_eq] at h'
  have e1 : IntKind.min .u8 = 0 := by decide
  have e2 : IntKind.max .u8 = 255 := by decide
  omega
theorem touchBears_lifted (os : Os) (started : os.Started) (HH : Type) (enc : TypeId × Value → HH) :
    ReturnsInHanded {} Tryz.checked os 7 .any (fun w args => (Rows.touchBearsSpec.pre enc Tryz.prog Tryz.f7 [] false w args ∧ laidMetH Tryz.prog Rows.touchBearsRow.laid w) ∧ sizedMet enc Tryz.prog Tryz.f7 (OpenSpec.ofChange Rows.touchBearsSpec) false w args)
      (Rows.touchBearsSpec.post enc Tryz.prog Tryz.f7 false true false false) := by
  refine wrap_ns (C := Tryz.checked) (X := fun w _ => laidMetH Tryz.prog Rows.touchBearsRow.laid w) (fun _ _ _ hh h => h.of_heap hh) own started (by kernel_rfl) Tryz.func7
    (ChangeSpec.witness_shaped (enc := enc) (C := Tryz.checked) (os := os) (X := fun w _ => laidMetH Tryz.prog Rows.touchBearsRow.laid w) false (laidWorld os)
      #[.slice none 0 0, .int .u8 0, .agg #[.int .i64 0, .int .i64 0]] 8 rfl (World.shaped_of_RefB (by kernel_rfl) (by kernel_rfl)) (by kernel_rfl) (by kernel_rfl) (by kernel_rfl) (laidH_met os _)) ?_
  intro W base args ds gs before hval0 hW hsh hL
  have hval : ∀ (j : Nat) t v, Tryz.f7.params[j]? = some t → args[j]? = some v → Value.okWide Tryz.prog W .any base t v := hval0
  have hW' := hW
  obtain ⟨p, q, hA0, hV, rfl, hfz, hnd⟩ := hW
  have hA : DataW.TrodAll enc Tryz.prog W 0 (fun _ => true) true Tryz.f7.params.toList args.toList ds p := hA0
  rw [Tryz.params7] at hA hval
  obtain ⟨v0, v1, v2, d0, d1, d2, p0, p1, p2, rfl, rfl, rfl, h0, h1, h2⟩ := trodAll_three hA
  obtain ⟨rfl, rfl⟩ := trodVars_none hV
  obtain ⟨l0, k0⟩ := ts_arg (hval 0 22 v0 rfl rfl) h0
  obtain ⟨n1, rfl, rfl, rfl, hw1⟩ := open_int und5 (hval 1 5 v1 rfl rfl) h1
  obtain ⟨q2, k2⟩ := pp_arg (hval 2 38 v2 rfl rfl) h2
  have lt0 : ∀ x ∈ p0, x.block < W.heap.size := fun x hx => hW'.lt x (by simp [hx])
  have hu1 : 0 ≤ n1 ∧ n1 ≤ 255 := u8_bound hw1
  have lt2 : ∀ x ∈ p2, x.block < W.heap.size := fun x hx => hW'.lt x (by simp [hx])
  clear hA0 hval0 hA
  have hm : maxLen ≤ 9223372036854775807 := by decide
  refine law_end (vs := [v0, .int .u8 n1, v2]) (H.bears_law l0 n1 q2 hu1) (zok_of (laidH hL) hsh (List.mem_of_getElem? (i := 6) rfl) (List.mem_of_getElem? (i := 2) rfl)) ⟨k0, rfl, k2, trivial⟩ fun W' bel => ?_
  exact ⟨_, rfl, _, _, _, [], _, [], hW', trodAll_mk1 (shut_bool und4 _), (trodAll_mk3 (Below.trod laidOut read22 row22 h0 bel lt0) (shut_int und5 hw1) (Below.trod laidOut read38 row38 h2 bel lt2)), rfl, bel.frame _, fun h => by cases h⟩
end Go.Proofs.YtgepmbjmaljgoaaGreatDoor
end
