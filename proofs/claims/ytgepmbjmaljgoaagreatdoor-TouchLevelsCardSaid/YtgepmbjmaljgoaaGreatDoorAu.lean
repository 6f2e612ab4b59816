/- A part of the proof that TouchLevels returns true at every input and that the input reads behind the call as it read before; this part states nothing of its own that is claimed. -/
import Derived.Test.YtgepmbjmaljgoaaGreatDoorCards
import Derived.Test.YtgepmbjmaljgoaaGreatDoorTie
import Derived.SevenTiedAt
import Derived.Test.YtgepmbjmaljgoaaGreatDoorAt
set_option linter.unusedVariables false
set_option linter.unusedSimpArgs false
section
namespace Go.Proofs.YtgepmbjmaljgoaaGreatDoor
open Go Go.Vc Go.RowKit Go.ChangeShapes Go.WideShapes Go.ChangeAt Go.Joins
set_option maxRecDepth 100000
theorem laidH {W : World} (h : laidMetH Tryz.prog Rows.touchLevelsRow.laid W) : laidMet Tryz.prog Rows.touchLevelsRow.laid W := by
  have e : (Rows.touchLevelsRow.laid.filter fun x => x.2.handleName?.isSome) = [] := by kernel_rfl
  unfold laidMetH at h
  rw [e] at h
  exact h
theorem laidH_met (os : Os) (args : Array Value) : laidMetH Tryz.prog Rows.touchLevelsRow.laid ((laidWorld os).forCall (fun _ _ => 0) ⟨#[], args, []⟩).memory := by
  have e : (Rows.touchLevelsRow.laid.filter fun x => x.2.handleName?.isSome) = [] := by kernel_rfl
  unfold laidMetH
  rw [e]
  exact laid_met os args
theorem own : ownKnob Tryz.prog.godebug = none := by kernel_rfl
theorem laidOut : laidOutB Tryz.prog = true := by kernel_rfl
theorem read42 : Tryz.prog.readableRec 42 = true := by kernel_rfl
theorem row42 : 42 < Tryz.prog.types.size := of_decide_eq_true (by kernel_rfl)
theorem read51 : Tryz.prog.readableRec 51 = true := by kernel_rfl
theorem row51 : 51 < Tryz.prog.types.size := of_decide_eq_true (by kernel_rfl)
theorem und4 : Tryz.prog.underlying 4 = some .bool := by kernel_rfl
theorem law_end {f : FuncId} {vs : List Value} {τs : List AV} {W : World} {R : Ending → World → Prop} (hc : CtrA Tryz.prog f τs (H.vb true)) (hZ : ZOk (fun k => k < W.heap.size) W)
    (hall : All2 (fun τ v => AV.ok (fun k => k < W.heap.size) W τ v) τs vs) (hR : ∀ W', Below W.heap.size W W' → R (.returned (.bool true)) W') : Calls Tryz.prog f vs.toArray W R := by
  refine (hc.calls W _ vs hZ hall).mono ?_
  rintro e W' ⟨v, Z', rfl, hb, _, _, _, hv⟩
  obtain rfl : v = .bool true := hv
  exact hR W' hb
theorem levels_lifted (os : Os) (started : os.Started) (HH : Type) (enc : TypeId × Value → HH) :
    ReturnsInHanded {} Tryz.checked os 5 .any (fun w args => (Rows.touchLevelsSpec.pre enc Tryz.prog Tryz.f5 [] false w args ∧ laidMetH Tryz.prog Rows.touchLevelsRow.laid w) ∧ sizedMet enc Tryz.prog Tryz.f5 (OpenSpec.ofChange Rows.touchLevelsSpec) false w args)
      (Rows.touchLevelsSpec.post enc Tryz.prog Tryz.f5 false true false false) := by
  refine wrap_ns (C := Tryz.checked) (X := fun w _ => laidMetH Tryz.prog Rows.touchLevelsRow.laid w) (fun _ _ _ hh h => h.of_heap hh) own started (by kernel_rfl) Tryz.func5
    (ChangeSpec.witness_shaped (enc := enc) (C := Tryz.checked) (os := os) (X := fun w _ => laidMetH Tryz.prog Rows.touchLevelsRow.laid w) false (laidWorld os)
      #[.agg #[.int .i64 0, .string ⟨#[]⟩, .string ⟨#[]⟩, .string ⟨#[]⟩, .slice none 0 0], .agg #[.int .i64 0, .int .i64 0, .int .i64 0], .int .i64 0] 8 rfl (World.shaped_of_RefB (by kernel_rfl) (by kernel_rfl)) (by kernel_rfl) (by kernel_rfl) (by kernel_rfl) (laidH_met os _)) ?_
  intro W base args ds gs before hval0 hW hsh hL
  have hval : ∀ (j : Nat) t v, Tryz.f5.params[j]? = some t → args[j]? = some v → Value.okWide Tryz.prog W .any base t v := hval0
  have hW' := hW
  obtain ⟨p, q, hA0, hV, rfl, hfz, hnd⟩ := hW
  have hA : DataW.TrodAll enc Tryz.prog W 0 (fun _ => true) true Tryz.f5.params.toList args.toList ds p := hA0
  rw [Tryz.params5] at hA hval
  obtain ⟨v0, v1, v2, d0, d1, d2, p0, p1, p2, rfl, rfl, rfl, h0, h1, h2⟩ := trodAll_three hA
  obtain ⟨rfl, rfl⟩ := trodVars_none hV
  obtain ⟨a, A, B, C, L, lA, lB, lC, lL, k0⟩ := plane_arg (hval 0 42 v0 rfl rfl) h0
  obtain ⟨s, k1⟩ := tp_arg (hval 1 51 v1 rfl rfl) h1
  obtain ⟨n, rfl, rfl, rfl, hwn⟩ := open_int und3 (hval 2 3 v2 rfl rfl) h2
  have lt0 : ∀ x ∈ p0, x.block < W.heap.size := fun x hx => hW'.lt x (by simp [hx])
  have lt1 : ∀ x ∈ p1, x.block < W.heap.size := fun x hx => hW'.lt x (by simp [hx])
  clear hA0 hval0 hA
  have hm : maxLen ≤ 9223372036854775807 := by decide
  refine law_end (vs := [v0, v1, .int .i64 n]) (H.levels_c a A B C L.length (H.zf L) s n (by omega) (by omega) (by omega) (by omega)) (zok_of (laidH hL) hsh (List.mem_of_getElem? (i := 6) rfl) (List.mem_of_getElem? (i := 2) rfl)) ⟨k0, k1, rfl, trivial⟩ fun W' bel => ?_
  exact ⟨_, rfl, _, _, _, [], _, [], hW', trodAll_mk1 (shut_bool und4 _), (trodAll_mk3 (Below.trod laidOut read42 row42 h0 bel lt0) (Below.trod laidOut read51 row51 h1 bel lt1) (shut_int und3 hwn)), rfl, bel.frame _, fun h => by cases h⟩
end Go.Proofs.YtgepmbjmaljgoaaGreatDoor
end
