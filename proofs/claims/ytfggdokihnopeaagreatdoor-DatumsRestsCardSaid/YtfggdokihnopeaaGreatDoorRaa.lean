/- A part of the proof. -/
import Derived.Test.YtfggdokihnopeaaGreatDoorCards
import Derived.Test.YtfggdokihnopeaaGreatDoorTie
import Derived.SevenTiedAt
import Derived.Test.YtfggdokihnopeaaGreatDoorCaz
namespace Go.Proofs.YtfggdokihnopeaaGreatDoor
open Go Go.Vc Go.RowKit Go.ChangeShapes Go.WideShapes Go.ChangeAt Go.Joins
set_option maxRecDepth 100000
theorem laidE : Rows.datumsRestsRow.laid = Rows.datumsProvesRow.laid := by kernel_rfl
theorem laidF : (Rows.datumsProvesRow.laid.filter fun x => x.2.handleName?.isSome) = [] := by kernel_rfl
theorem laidH {W : World} (h : laidMetH Tryz.prog Rows.datumsRestsRow.laid W) : laidMet Tryz.prog Rows.datumsProvesRow.laid W := by
 rw [laidE] at h
 unfold laidMetH at h
 rw [laidF] at h
 exact h
theorem laidH_met (os : Os) (args : Array Value) : laidMetH Tryz.prog Rows.datumsRestsRow.laid ((laidWorld os).forCall (fun _ _ => 0) ⟨#[], args, []⟩).memory := by
 rw [laidE]
 unfold laidMetH
 rw [laidF]
 exact laid_met os args
theorem own : ownKnob Tryz.prog.godebug = none := by kernel_rfl
theorem laidOut : laidOutB Tryz.prog = true := by kernel_rfl
theorem und4 : Tryz.prog.underlying 4 = some .bool := by kernel_rfl
theorem read26 : Tryz.prog.readableRec 26 = true := by kernel_rfl
theorem row26 : 26 < Tryz.prog.types.size := of_decide_eq_true (by kernel_rfl)
theorem law_end {f : FuncId} {vs : List Value} {τs : List AV} {W : World} {R : Ending → World → Prop} (hc : CtrA Tryz.prog f τs (H.vb true)) (hZ : ZOk (fun k => k < W.heap.size) W)
  (hall : All2 (fun τ v => AV.ok (fun k => k < W.heap.size) W τ v) τs vs) (hR : ∀ W', Below W.heap.size W W' → R (.returned (.bool true)) W') : Calls Tryz.prog f vs.toArray W R := by
 refine (hc.calls W _ vs hZ hall).mono ?_
 rintro e W' ⟨v, Z', rfl, hb, _, _, _, hv⟩
 obtain rfl : v = .bool true := hv
 exact hR W' hb
theorem datumsRests_lifted (os : Os) (started : os.Started) (HH : Type) (enc : TypeId × Value → HH) :
  ReturnsInHanded {} Tryz.checked os 7 .any (fun w args => (Rows.datumsRestsSpec.pre enc Tryz.prog Tryz.f7 [] false w args ∧ laidMetH Tryz.prog Rows.datumsRestsRow.laid w) ∧ sizedMet enc Tryz.prog Tryz.f7 (OpenSpec.ofChange Rows.datumsRestsSpec) false w args)
   (Rows.datumsRestsSpec.post enc Tryz.prog Tryz.f7 false true false false) := by
 refine Z1x (C := Tryz.checked) (X := fun w _ => laidMetH Tryz.prog Rows.datumsRestsRow.laid w) (fun _ _ _ hh h => h.of_heap hh) own started (by kernel_rfl) Tryz.func7
  (ChangeSpec.witness_shaped (enc := enc) (C := Tryz.checked) (os := os) (X := fun w _ => laidMetH Tryz.prog Rows.datumsRestsRow.laid w) false (laidWorld os)
   #[.agg #[.int .i64 0, .int .i64 0, .int .i64 0, .int .i64 0, .int .i64 0, .int .i64 0, .slice none 0 0, .slice none 0 0, .slice none 0 0]] 8 rfl (World.shaped_of_RefB (by kernel_rfl) (by kernel_rfl)) (by kernel_rfl) (by kernel_rfl) (by kernel_rfl) (laidH_met os _)) ?_
 intro W base args ds gs before hval0 hW hsh hL
 have hval : ∀ (j : Nat) t v, Tryz.f7.params[j]? = some t → args[j]? = some v → Value.okWide Tryz.prog W .any base t v := hval0
 have hW' := hW
 obtain ⟨p, q, hA0, hV, rfl, hfz, hnd⟩ := hW
 have hA : DataW.TrodAll enc Tryz.prog W 0 (fun _ => true) true Tryz.f7.params.toList args.toList ds p := hA0
 rw [Tryz.params7] at hA hval
 obtain ⟨v0, d0, rfl, rfl, h0⟩ := trodAll_one hA
 obtain ⟨rfl, rfl⟩ := trodVars_none hV
 obtain ⟨R0, k0⟩ := Z1c (hval 0 26 v0 rfl rfl) h0
 have lt0 : ∀ x ∈ p, x.block < W.heap.size := fun x hx => hW'.lt x (by simp [hx])
 clear hA0 hval0 hA
 have hm : maxLen ≤ 9223372036854775807 := by decide
 refine law_end (vs := [v0]) (H.rests_c R0 H.awake_c) (Z1Q (laidH hL) hsh (List.mem_of_getElem? (i := 6) rfl) (List.mem_of_getElem? (i := 2) rfl)) ⟨k0, trivial⟩ fun W' bel => ?_
 exact ⟨_, rfl, _, _, _, [], _, [], hW', trodAll_mk1 (shut_bool und4 _), (trodAll_mk1 (Below.trod laidOut read26 row26 h0 bel lt0)), rfl, bel.frame _, fun h => by cases h⟩
end Go.Proofs.YtfggdokihnopeaaGreatDoor
