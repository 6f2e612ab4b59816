/- A part of the proof. -/
import Derived.Test.YtgblokifbgeegaaGreatDoorCards
import Derived.Test.YtgblokifbgeegaaGreatDoorTie
import Derived.SevenTiedAt
import Derived.Test.YtgblokifbgeegaaGreatDoorDaz
import Derived.Test.YtgblokifbgeegaaGreatDoorDbb
namespace Go.Proofs.YtgblokifbgeegaaGreatDoor
open Go Go.Vc Go.RowKit Go.ChangeShapes Go.WideShapes Go.ChangeAt Go.Joins
set_option maxRecDepth 100000
theorem laidE : Rows.topPrismRow.laid = Rows.flatSquaresRow.laid := by kernel_rfl
theorem laidF : (Rows.flatSquaresRow.laid.filter fun x => x.2.handleName?.isSome) = [] := by kernel_rfl
theorem laidH {W : World} (h : laidMetH Tryz.prog Rows.topPrismRow.laid W) : laidMet Tryz.prog Rows.flatSquaresRow.laid W := by
 rw [laidE] at h
 unfold laidMetH at h
 rw [laidF] at h
 exact h
theorem laidH_met (os : Os) (args : Array Value) : laidMetH Tryz.prog Rows.topPrismRow.laid ((laidWorld os).forCall (fun _ _ => 0) ⟨#[], args, []⟩).memory := by
 rw [laidE]
 unfold laidMetH
 rw [laidF]
 exact laid_met os args
theorem own : ownKnob Tryz.prog.godebug = none := by kernel_rfl
theorem laidOut : laidOutB Tryz.prog = true := by kernel_rfl
theorem und4 : Tryz.prog.underlying 4 = some .bool := by kernel_rfl
theorem read80 : Tryz.prog.readableRec 80 = true := by kernel_rfl
theorem row80 : 80 < Tryz.prog.types.size := of_decide_eq_true (by kernel_rfl)
theorem law_end {f : FuncId} {vs : List Value} {τs : List AV} {W : World} {R : Ending → World → Prop} (hc : CtrA Tryz.prog f τs (H.vb true)) (hZ : ZOk (fun k => k < W.heap.size) W)
  (hall : All2 (fun τ v => AV.ok (fun k => k < W.heap.size) W τ v) τs vs) (hR : ∀ W', Below W.heap.size W W' → R (.returned (.bool true)) W') : Calls Tryz.prog f vs.toArray W R := by
 refine (hc.calls W _ vs hZ hall).mono ?_
 rintro e W' ⟨v, Z', rfl, hb, _, _, _, hv⟩
 obtain rfl : v = .bool true := hv
 exact hR W' hb
theorem topPrism_lifted (os : Os) (started : os.Started) (HH : Type) (enc : TypeId × Value → HH) :
  ReturnsInHanded {} Tryz.checked os 12 .any (fun w args => (Rows.topPrismSpec.pre enc Tryz.prog Tryz.f12 [] false w args ∧ laidMetH Tryz.prog Rows.topPrismRow.laid w) ∧ sizedMet enc Tryz.prog Tryz.f12 (OpenSpec.ofChange Rows.topPrismSpec) false w args)
   (Rows.topPrismSpec.post enc Tryz.prog Tryz.f12 false true false false) := by
 refine K1J (C := Tryz.checked) (X := fun w _ => laidMetH Tryz.prog Rows.topPrismRow.laid w) (fun _ _ _ hh h => h.of_heap hh) own started (by kernel_rfl) Tryz.func12
  (ChangeSpec.witness_shaped (enc := enc) (C := Tryz.checked) (os := os) (X := fun w _ => laidMetH Tryz.prog Rows.topPrismRow.laid w) false (laidWorld os)
   #[.agg #[.int .i8 0, .int .i8 0], .agg #[.int .i8 0, .int .i8 0], .int .u8 0] 8 rfl (World.shaped_of_RefB (by kernel_rfl) (by kernel_rfl)) (by kernel_rfl) (by kernel_rfl) (by kernel_rfl) (laidH_met os _)) ?_
 intro W base args ds gs before hval0 hW hsh hL
 have hval : ∀ (j : Nat) t v, Tryz.f12.params[j]? = some t → args[j]? = some v → Value.okWide Tryz.prog W .any base t v := hval0
 have hW' := hW
 obtain ⟨p, q, hA0, hV, rfl, hfz, hnd⟩ := hW
 have hA : DataW.TrodAll enc Tryz.prog W 0 (fun _ => true) true Tryz.f12.params.toList args.toList ds p := hA0
 rw [Tryz.params12] at hA hval
 obtain ⟨v0, v1, v2, d0, d1, d2, p0, p1, p2, rfl, rfl, rfl, h0, h1, h2⟩ := trodAll_three hA
 obtain ⟨rfl, rfl⟩ := trodVars_none hV
 obtain ⟨a0, b0, ia0, ib0, k0⟩ := K1T (hval 0 80 v0 rfl rfl) h0
 obtain ⟨a1, b1, ia1, ib1, k1⟩ := K1T (hval 1 80 v1 rfl rfl) h1
 obtain ⟨n2, rfl, rfl, rfl, hw2⟩ := open_int j2G (hval 2 5 v2 rfl rfl) h2
 have lt0 : ∀ x ∈ p0, x.block < W.heap.size := fun x hx => hW'.lt x (by simp [hx])
 have lt1 : ∀ x ∈ p1, x.block < W.heap.size := fun x hx => hW'.lt x (by simp [hx])
 have hu2 := wf_u8 hw2
 clear hA0 hval0 hA
 have hm : maxLen ≤ 9223372036854775807 := by decide
 refine law_end (vs := [v0, v1, .int .u8 n2]) (H.S.topprism_c a0 b0 a1 b1 n2 ia0 ib0 ia1 ib1 hu2) (j2g (laidH hL) hsh (List.mem_of_getElem? (i := 2) rfl)) ⟨k0, k1, rfl, trivial⟩ fun W' bel => ?_
 exact ⟨_, rfl, _, _, _, [], _, [], hW', trodAll_mk1 (shut_bool und4 _), (trodAll_mk3 (Below.trod laidOut read80 row80 h0 bel lt0) (Below.trod laidOut read80 row80 h1 bel lt1) (shut_int j2G hw2)), rfl, bel.frame _, fun h => by cases h⟩
end Go.Proofs.YtgblokifbgeegaaGreatDoor
