/- A part of the proof. -/
import Derived.Test.YtgblokifbgeegaaGreatDoorBad
set_option linter.unusedVariables false
set_option linter.unusedSimpArgs false
section
namespace Go.Vc
open Go
variable {P : Program} {E : Env} {T : Tab} {O : Own} {d : Option Nat} {ty : TypeId} {pos : String} {af : Array Edge} {g : Option (Nat × Bool)}
def SV.toAV : SV → AV
 |.av τ => τ
 |_ => .any
def SV.isAv : SV → Bool
 |.av _ => true
 |_ => false
theorem W0K : ∀ l : List SV, (l.all SV.isAv) = true → l = (l.map SV.toAV).map SV.av
 |[], _ => rfl
 |.av τ :: l, h => by
  have := W0K l h
  simp only [List.map_cons, SV.toAV]
  rw [← this]
theorem Y0C {f : FuncId} {xs : List Operand} {ats : Array TypeId} {res : AV} (hx : ((xs.map T.ev).all SV.isAv) = true) (hc : CtrA P f ((xs.map T.ev).map SV.toAV) res) :
  GV P E ⟨d, .call ⟨.value (.func f), xs.toArray, ats⟩, ty, pos, af, g⟩ T O (.av res) [] [] := X0t hc (W0K _ hx)
theorem W0d {f : FuncId} {c : Operand} {xs : List Operand} {ats : Array TypeId} {res : AV} (hf : T.ev c = .av (.val (.func (.func f) #[] #[]))) (hx : ((xs.map T.ev).all SV.isAv) = true) (hc : CtrA P f ((xs.map T.ev).map SV.toAV) res) :
  GV P E ⟨d, .call ⟨.value c, xs.toArray, ats⟩, ty, pos, af, g⟩ T O (.av res) [] [] := Q1X hc hf (W0K _ hx)
theorem W0c {f : FuncId} {c : Operand} {xs : List Operand} {ats : Array TypeId} {n : Nat} {cf : Nat → AV} {res : AV} (hf : T.ev c = .av (.clo f n cf)) (hx : ((xs.map T.ev).all SV.isAv) = true) (hc : CtrA P f ((xs.map T.ev).map SV.toAV ++ (List.range n).map cf) res) :
  GV P E ⟨d, .call ⟨.value c, xs.toArray, ats⟩, ty, pos, af, g⟩ T O (.av res) [] [] := Q1W hc hf (W0K _ hx)
theorem J0V {f : FuncId} {xs : List Operand} {ats : Array TypeId} {v : Value} (hc : CtrA P f (xs.map (bAV T O)) (.val v)) :
  GV P E ⟨d, .call ⟨.value (.func f), xs.toArray, ats⟩, ty, pos, af, g⟩ T O (.av (.val v)) (xs.flatMap (k1D T)) [] := y1c hc rfl
structure Bx (p : Prop) : Prop where
 out : p
theorem gwk {A : Prop} (h : A := by first | ((fail_if_success (fail_if_success (apply j0R))); first | exact j0R (s := .av (.val (.int _ _))) rfl | exact j0R (s := .av (.val (.bool _))) rfl | exact j0R (s := .av _) rfl | exact j0R (s := .own _ _) rfl | exact j0R (s := .osl _) rfl | exact j0R (s := .oel _ _ _ _) rfl | exact j0R (s := .osx _ _ _ _) rfl | exact j0R (s := .clo _ _) rfl | exact j0R (s := .tupR _ _) rfl) | ((fail_if_success (fail_if_success (apply j0t))); first | exact j0t (s := .av (.val (.int _ _))) rfl | exact j0t (s := .av (.val (.bool _))) rfl | exact j0t (s := .av _) rfl | exact j0t (s := .own _ _) rfl | exact j0t (s := .osl _) rfl | exact j0t (s := .oel _ _ _ _) rfl | exact j0t (s := .osx _ _ _ _) rfl | exact j0t (s := .clo _ _) rfl | exact j0t (s := .tupR _ _) rfl) | ((fail_if_success (fail_if_success (apply v0T))); first | exact v0T (τ := .val (.int _ _)) rfl rfl rfl | exact v0T rfl rfl rfl | exact v0T (τ := .val (.bool _)) rfl rfl rfl) | ((fail_if_success (fail_if_success (apply j0H))); first | exact j0H (us := [.int _ _, .int _ _]) rfl rfl rfl rfl | exact j0H (us := [.int _ _, .int _ _, .int _ _]) rfl rfl rfl rfl | exact j0H (us := [_, _]) rfl rfl rfl rfl) | ((fail_if_success (fail_if_success (apply j0M))); first | exact j0M (τ := .val (.int _ _)) rfl rfl (by omega) rfl rfl | exact j0M (τ := .val _) rfl rfl (by omega) rfl rfl | exact j0M rfl rfl (by omega) rfl rfl | exact j0M (τ := .val (.bool _)) rfl rfl (by omega) rfl rfl) | ((fail_if_success (fail_if_success (apply g_load_oel_agg))); first | exact g_load_oel_agg (us := [.int _ _, .int _ _]) rfl rfl (by omega) rfl rfl | exact g_load_oel_agg (us := [.int _ _, .int _ _, .int _ _]) rfl rfl (by omega) rfl rfl) | ((fail_if_success (fail_if_success (apply j0q))); first | exact j0q (s := .av (.val (.int _ _))) rfl rfl rfl | exact j0q (s := .av _) rfl rfl rfl | exact j0q rfl rfl rfl | exact j0q (s := .av (.val (.bool _))) rfl rfl rfl | exact j0q (s := .osl _) rfl rfl rfl | exact j0q (s := .own _ _) rfl rfl rfl | exact j0q (s := .clo _ _) rfl rfl rfl) | (apply Y0C; exact rfl; assumption) | (apply W0d; exact rfl; exact rfl; assumption) | (apply W0c; exact rfl; exact rfl; assumption) | (apply J0V; assumption) | ((fail_if_success (fail_if_success (apply j0w))); first | exact j0w (us := [.int _ _, .int _ _]) rfl rfl rfl rfl | exact j0w (us := [.int _ _, .int _ _, .int _ _]) rfl rfl rfl rfl) | ((fail_if_success (fail_if_success (apply K0B))); first | exact K0B rfl rfl rfl) | ((fail_if_success (fail_if_success (apply V0e))); first | exact V0e rfl) | ((fail_if_success (fail_if_success (apply V0d))); first | exact V0d rfl rfl rfl) | ((fail_if_success (fail_if_success (apply V0g))); first | exact V0g rfl rfl rfl) | ((fail_if_success (fail_if_success (apply V0h))); first | exact V0h rfl) | ((fail_if_success (fail_if_success (apply q0X))); first | exact q0X rfl rfl rfl rfl) | ((fail_if_success (fail_if_success (apply V0i))); first | exact V0i rfl rfl (by omega)) | ((fail_if_success (fail_if_success (apply V0a))); first | exact V0a rfl rfl (by omega)) | ((fail_if_success (fail_if_success (apply x0I))); first | exact x0I rfl (by omega)) | ((fail_if_success (fail_if_success (apply z0t))); first | exact z0t rfl (by omega)) | ((fail_if_success (fail_if_success (apply g_str_str))); first | exact g_str_str rfl) | ((fail_if_success (fail_if_success (apply w0G))); first | exact w0G rfl rfl rfl) | ((fail_if_success (fail_if_success (apply w0F))); first | exact w0F rfl rfl rfl) | ((fail_if_success (fail_if_success (apply v0J))); first | exact v0J rfl rfl) | ((fail_if_success (fail_if_success (apply q0W))); first | exact q0W rfl rfl rfl) | ((fail_if_success (fail_if_success (apply x0l))); first | exact x0l rfl rfl rfl (by omega)) | ((fail_if_success (fail_if_success (apply w0W))); first | exact w0W rfl rfl rfl (by omega) | exact w0W rfl rfl (Int.toNat_of_nonneg (by omega)).symm (by omega)) | ((fail_if_success (fail_if_success (apply q0j))); first | exact q0j rfl rfl rfl rfl (by omega) | exact q0j rfl rfl rfl (Int.toNat_of_nonneg (by omega)).symm (by omega)) | ((fail_if_success (fail_if_success (apply q0r))); first | exact q0r rfl rfl rfl (by omega)) | ((fail_if_success (fail_if_success (apply q0i))); first | exact q0i rfl rfl rfl (by decide)) | ((fail_if_success (fail_if_success (apply q0E))); first | exact q0E rfl rfl rfl (by decide) rfl) | ((fail_if_success (fail_if_success (apply z0v))); first | exact z0v rfl) | ((fail_if_success (fail_if_success (apply v0m))); first | exact v0m rfl) | ((fail_if_success (fail_if_success (apply y0R))); first | exact y0R (s := .av (.val (.bool _))) rfl rfl | exact y0R rfl rfl) | ((fail_if_success (fail_if_success (apply g_pick_b))); first | exact g_pick_b rfl rfl rfl) | ((fail_if_success (fail_if_success (apply K0F))); first | exact K0F rfl) | ((fail_if_success (fail_if_success (apply g_len_nil))); first | exact g_len_nil rfl) | ((fail_if_success (fail_if_success (apply w0E))); first | exact w0E rfl rfl) | ((fail_if_success (fail_if_success (apply w0D))); first | exact w0D rfl) | ((fail_if_success (fail_if_success (apply v0L))); first | exact v0L rfl rfl) | ((fail_if_success (fail_if_success (apply v0S))); first | exact v0S rfl (by decide)) | ((fail_if_success (fail_if_success (apply v0l))); first | exact v0l rfl) | ((fail_if_success (fail_if_success (apply v0K))); first | exact v0K rfl rfl) | ((fail_if_success (fail_if_success (apply w0C))); first | exact w0C rfl) | ((fail_if_success (fail_if_success (apply K0J))); first | exact K0J rfl) | ((fail_if_success (fail_if_success (apply W0e))); first | exact W0e (xs := [_, _]) (ys := [_, _]) rfl rfl rfl rfl | exact W0e (xs := [_, _, _]) (ys := [_, _, _]) rfl rfl rfl rfl) | ((fail_if_success (fail_if_success (apply j0Y))); first | exact j0Y (τs := [_, _, _]) rfl | exact j0Y (τs := [_]) rfl | exact j0Y (τs := [_, _]) rfl) | ((fail_if_success (fail_if_success (apply J0W))); first | exact J0W rfl rfl rfl rfl (by omega) (by omega)) | ((fail_if_success (fail_if_success (apply Y0B))); first | exact Y0B rfl rfl) | ((fail_if_success (fail_if_success (apply K0G))); first | exact K0G rfl rfl) | ((fail_if_success (fail_if_success (apply Q0Q))); first | exact Q0Q (xs := [_, _]) (ys := [_, _]) rfl rfl rfl rfl | exact Q0Q (xs := [_, _, _]) (ys := [_, _, _]) rfl rfl rfl rfl) | ((fail_if_success (fail_if_success (apply V0f))); first | exact V0f rfl rfl (by omega) (by omega)) | ((fail_if_success (fail_if_success (apply V0c))); first | exact V0c rfl rfl (by omega) (by omega)) | ((fail_if_success (fail_if_success (apply K0I))); first | exact K0I rfl (by omega)) | ((fail_if_success (fail_if_success (apply V0j))); first | exact V0j rfl rfl (by omega) (by omega) (by omega) (by omega)) | ((fail_if_success (fail_if_success (apply K0L))); first | exact K0L rfl rfl (by omega) (by omega)) | ((fail_if_success (fail_if_success (apply K0E))); first | exact K0E rfl rfl) | ((fail_if_success (fail_if_success (apply g_addP))); first | exact g_addP rfl rfl (by omega) (by omega) (by omega) (by omega)) | ((fail_if_success (fail_if_success (apply q0V))); first | exact q0V rfl rfl rfl) | ((fail_if_success (fail_if_success (apply K0K))); first | exact K0K rfl rfl (by omega) (by omega) (by omega)) | ((fail_if_success (fail_if_success (apply K0H))); first | exact K0H rfl rfl) | ((fail_if_success (fail_if_success (apply v0o))); first | exact v0o rfl) | ((fail_if_success (fail_if_success (apply x0m))); first | exact x0m rfl rfl rfl (by omega) (by omega))) : A := h
set_option maxRecDepth 20000 in
theorem wk {A B : Prop} (b : B) (k : Bx B → A := by
 intro hk_
 repeat (first
  |((first | apply j0l | apply v0I); exact gwk; exact rfl)
  |refine z0E ?_
  |refine q0S ?_
  |refine J0i ?_
  |refine k0T ?_
  |refine Q0E ?_
  |refine J0J ?_
  |refine Z0I ?_
  |refine J0h ?_
  |refine V0Q ?_
  |refine x0c ?_
  |refine w0q ?_
  |refine v0u ?_
  |refine v0d ?_
  |refine sq_inBlock_other rfl ?_
  |refine x0R ?_
  |refine y0C rfl ?_
  |refine y0B rfl ?_
  |refine cq_cond_cf ?_
  |refine cq_cond_ct ?_
  |refine Z0O tm (by kernel_rfl) ?_
  |refine k0U rfl rfl rfl rfl ?_
  |refine Z0P nofun rfl rfl rfl rfl ?_
  |((first | apply z0Y | apply Q0O); exact gwk; exact rfl; exact rfl; exact rfl)
  |refine W0x rfl rfl rfl ?_
  |refine V0T nofun rfl rfl rfl ?_
  |refine v0N (q0N rfl rfl rfl rfl) ?_
  |refine y0e (q0N rfl rfl rfl rfl) ?_
  |refine v0N (q0M rfl rfl rfl rfl) ?_
  |refine y0e (q0M rfl rfl rfl rfl) ?_
  |refine v0N (q0k rfl rfl rfl rfl rfl rfl) ?_
  |refine y0e (q0k rfl rfl rfl rfl rfl rfl) ?_
  |refine v0N (w0k rfl rfl rfl rfl rfl rfl) ?_
  |refine y0e (w0k rfl rfl rfl rfl rfl rfl) ?_
  |refine v0N (w0t rfl rfl rfl rfl rfl (by simp)) ?_
  |refine y0e (w0t rfl rfl rfl rfl rfl (by simp)) ?_
  |refine v0N (q0t rfl rfl rfl rfl zO rfl) ?_
  |refine y0e (q0t rfl rfl rfl rfl zO rfl) ?_
  |refine j0u (z0g rfl rfl rfl zO rfl) rfl ?_
  |refine j0u (z0f rfl rfl rfl zO rfl) rfl ?_
  |refine j0u (v_push_pr rfl rfl rfl zO rfl) rfl ?_
  |refine j0u (Y0i rfl rfl rfl rfl zO) rfl ?_
  |refine j0u (Y0i rfl rfl rfl (Int.toNat_of_nonneg zO).symm zO) rfl ?_
  |refine j0u (j0I 10 rfl) rfl ?_
  |refine j0u (j0I 11 rfl) rfl ?_
  |refine j0u (j0I 12 rfl) rfl ?_
  |refine j0u (j0I 13 rfl) rfl ?_
  |refine j0u (j0I 14 rfl) rfl ?_
  |refine j0u (j0I 15 rfl) rfl ?_
  |refine z0T (j0F 10) rfl rfl ?_
  |refine z0T (j0F 11) rfl rfl ?_
  |refine z0T (j0F 12) rfl rfl ?_
  |refine z0T (j0F 13) rfl rfl ?_
  |refine z0T (j0F 14) rfl rfl ?_
  |refine z0T (j0F 15) rfl rfl ?_)
 exact hk_.out) : A := k ⟨b⟩
end Go.Vc
end
