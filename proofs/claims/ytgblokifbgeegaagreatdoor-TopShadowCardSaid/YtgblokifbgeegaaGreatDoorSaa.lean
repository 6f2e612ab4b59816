/- A part of the proof. -/
import Derived.Test.YtgblokifbgeegaaGreatDoorCards
import Derived.Test.YtgblokifbgeegaaGreatDoorTie
import Derived.SevenTiedAt
import Derived.Test.YtgblokifbgeegaaGreatDoorEaz
import Derived.Test.YtgblokifbgeegaaGreatDoorEbb
namespace Go.Proofs.YtgblokifbgeegaaGreatDoor
open Go Go.Vc Go.RowKit Go.ChangeShapes Go.WideShapes Go.ChangeAt Go.Joins
set_option maxRecDepth 100000
theorem laidE : Rows.topShadowRow.laid = Rows.flatSquaresRow.laid := by kernel_rfl
theorem laidF : (Rows.flatSquaresRow.laid.filter fun x => x.2.handleName?.isSome) = [] := by kernel_rfl
theorem laidH {W : World} (h : laidMetH Tryz.prog Rows.topShadowRow.laid W) : laidMet Tryz.prog Rows.flatSquaresRow.laid W := by
 rw [laidE] at h
 unfold laidMetH at h
 rw [laidF] at h
 exact h
theorem laidH_met (os : Os) (args : Array Value) : laidMetH Tryz.prog Rows.topShadowRow.laid ((laidWorld os).forCall (fun _ _ => 0) ⟨#[], args, []⟩).memory := by
 rw [laidE]
 unfold laidMetH
 rw [laidF]
 exact laid_met os args
theorem own : ownKnob Tryz.prog.godebug = none := by kernel_rfl
theorem laidOut : laidOutB Tryz.prog = true := by kernel_rfl
theorem und4 : Tryz.prog.underlying 4 = some .bool := by kernel_rfl
theorem read34 : Tryz.prog.readableRec 34 = true := by kernel_rfl
theorem row34 : 34 < Tryz.prog.types.size := of_decide_eq_true (by kernel_rfl)
theorem law_end {f : FuncId} {vs : List Value} {τs : List AV} {W : World} {R : Ending → World → Prop} (hc : CtrA Tryz.prog f τs (H.vb true)) (hZ : ZOk (fun k => k < W.heap.size) W)
  (hall : All2 (fun τ v => AV.ok (fun k => k < W.heap.size) W τ v) τs vs) (hR : ∀ W', Below W.heap.size W W' → R (.returned (.bool true)) W') : Calls Tryz.prog f vs.toArray W R := by
 refine (hc.calls W _ vs hZ hall).mono ?_
 rintro e W' ⟨v, Z', rfl, hb, _, _, _, hv⟩
 obtain rfl : v = .bool true := hv
 exact hR W' hb
theorem topShadow_lifted (os : Os) (started : os.Started) (HH : Type) (enc : TypeId × Value → HH) :
  ReturnsInHanded {} Tryz.checked os 11 .any (fun w args => (Rows.topShadowSpec.pre enc Tryz.prog Tryz.f11 [] false w args ∧ laidMetH Tryz.prog Rows.topShadowRow.laid w) ∧ sizedMet enc Tryz.prog Tryz.f11 (OpenSpec.ofChange Rows.topShadowSpec) false w args)
   (Rows.topShadowSpec.post enc Tryz.prog Tryz.f11 false true false false) := by
 refine j2D (C := Tryz.checked) (X := fun w _ => laidMetH Tryz.prog Rows.topShadowRow.laid w) (fun _ _ _ hh h => h.of_heap hh) own started (by kernel_rfl) Tryz.func11
  (ChangeSpec.witness_shaped (enc := enc) (C := Tryz.checked) (os := os) (X := fun w _ => laidMetH Tryz.prog Rows.topShadowRow.laid w) false (laidWorld os)
   #[.slice none 0 0, .int .u8 0] 8 rfl (World.shaped_of_RefB (by kernel_rfl) (by kernel_rfl)) (by kernel_rfl) (by kernel_rfl) (by kernel_rfl) (laidH_met os _)) ?_
 intro W base args ds gs before hval0 hW hsh hL
 have hval : ∀ (j : Nat) t v, Tryz.f11.params[j]? = some t → args[j]? = some v → Value.okWide Tryz.prog W .any base t v := hval0
 have hW' := hW
 obtain ⟨p, q, hA0, hV, rfl, hfz, hnd⟩ := hW
 have hA : DataW.TrodAll enc Tryz.prog W 0 (fun _ => true) true Tryz.f11.params.toList args.toList ds p := hA0
 rw [Tryz.params11] at hA hval
 obtain ⟨v0, v1, d0, d1, p0, p1, rfl, rfl, rfl, h0, h1⟩ := trodAll_two hA
 obtain ⟨rfl, rfl⟩ := trodVars_none hV
 obtain ⟨l0, k0⟩ := j2U (hval 0 34 v0 rfl rfl) h0
 obtain ⟨n1, rfl, rfl, rfl, hw1⟩ := open_int q2D (hval 1 5 v1 rfl rfl) h1
 have lt0 : ∀ x ∈ p0, x.block < W.heap.size := fun x hx => hW'.lt x (by simp [hx])
 have hu1 := wf_u8 hw1
 clear hA0 hval0 hA
 have hm : maxLen ≤ 9223372036854775807 := by decide
 refine law_end (vs := [v0, .int .u8 n1]) (H.S.topshadow_c l0 n1 hu1) (q2a (laidH hL) hsh (List.mem_of_getElem? (i := 2) rfl)) ⟨k0, rfl, trivial⟩ fun W' bel => ?_
 exact ⟨_, rfl, _, _, _, [], _, [], hW', trodAll_mk1 (shut_bool und4 _), (trodAll_mk2 (Below.trod laidOut read34 row34 h0 bel lt0) (shut_int q2D hw1)), rfl, bel.frame _, fun h => by cases h⟩
end Go.Proofs.YtgblokifbgeegaaGreatDoor
