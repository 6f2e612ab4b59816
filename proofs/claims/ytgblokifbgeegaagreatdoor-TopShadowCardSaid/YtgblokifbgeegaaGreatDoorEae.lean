/- A part of the proof. -/
import Derived.Test.YtgblokifbgeegaaGreatDoorEad
set_option linter.unusedVariables false
set_option linter.unusedSimpArgs false
section
namespace Go.Vc
open Go
variable {P : Program} {E : Env} {T : Tab} {O : Own} {d : Option Nat} {ty : TypeId} {pos : String} {af : Array Edge} {g : Option (Nat × Bool)}
def SV.toAV : SV → AV
 |.av τ => τ
 |_ => .any
def SV.isAv : SV → Bool
 |.av _ => true
 |_ => false
theorem W0Y : ∀ l : List SV, (l.all SV.isAv) = true → l = (l.map SV.toAV).map SV.av
 |[], _ => rfl
 |.av τ :: l, h => by
  have := W0Y l h
  simp only [List.map_cons, SV.toAV]
  rw [← this]
theorem Y0P {f : FuncId} {xs : List Operand} {ats : Array TypeId} {res : AV} (hx : ((xs.map T.ev).all SV.isAv) = true) (hc : CtrA P f ((xs.map T.ev).map SV.toAV) res) :
  GV P E ⟨d, .call ⟨.value (.func f), xs.toArray, ats⟩, ty, pos, af, g⟩ T O (.av res) [] [] := X0G hc (W0Y _ hx)
theorem W0n {f : FuncId} {c : Operand} {xs : List Operand} {ats : Array TypeId} {res : AV} (hf : T.ev c = .av (.val (.func (.func f) #[] #[]))) (hx : ((xs.map T.ev).all SV.isAv) = true) (hc : CtrA P f ((xs.map T.ev).map SV.toAV) res) :
  GV P E ⟨d, .call ⟨.value c, xs.toArray, ats⟩, ty, pos, af, g⟩ T O (.av res) [] [] := V1H hc hf (W0Y _ hx)
theorem W0m {f : FuncId} {c : Operand} {xs : List Operand} {ats : Array TypeId} {n : Nat} {cf : Nat → AV} {res : AV} (hf : T.ev c = .av (.clo f n cf)) (hx : ((xs.map T.ev).all SV.isAv) = true) (hc : CtrA P f ((xs.map T.ev).map SV.toAV ++ (List.range n).map cf) res) :
  GV P E ⟨d, .call ⟨.value c, xs.toArray, ats⟩, ty, pos, af, g⟩ T O (.av res) [] [] := V1G hc hf (W0Y _ hx)
theorem J0Z {f : FuncId} {xs : List Operand} {ats : Array TypeId} {v : Value} (hc : CtrA P f (xs.map (bAV T O)) (.val v)) :
  GV P E ⟨d, .call ⟨.value (.func f), xs.toArray, ats⟩, ty, pos, af, g⟩ T O (.av (.val v)) (xs.flatMap (q2F T)) [] := q2E hc rfl
structure Bx (p : Prop) : Prop where
 out : p
theorem gwk {A : Prop} (h : A := by first | ((fail_if_success (fail_if_success (apply j0S))); first | exact j0S (s := .av (.val (.int _ _))) rfl | exact j0S (s := .av (.val (.bool _))) rfl | exact j0S (s := .av _) rfl | exact j0S (s := .own _ _) rfl | exact j0S (s := .osl _) rfl | exact j0S (s := .oel _ _ _ _) rfl | exact j0S (s := .osx _ _ _ _) rfl | exact j0S (s := .clo _ _) rfl | exact j0S (s := .tupR _ _) rfl) | ((fail_if_success (fail_if_success (apply j0w))); first | exact j0w (s := .av (.val (.int _ _))) rfl | exact j0w (s := .av (.val (.bool _))) rfl | exact j0w (s := .av _) rfl | exact j0w (s := .own _ _) rfl | exact j0w (s := .osl _) rfl | exact j0w (s := .oel _ _ _ _) rfl | exact j0w (s := .osx _ _ _ _) rfl | exact j0w (s := .clo _ _) rfl | exact j0w (s := .tupR _ _) rfl) | ((fail_if_success (fail_if_success (apply v0Y))); first | exact v0Y (τ := .val (.int _ _)) rfl rfl rfl | exact v0Y rfl rfl rfl | exact v0Y (τ := .val (.bool _)) rfl rfl rfl) | ((fail_if_success (fail_if_success (apply j0v))); first | exact j0v (us := [.int _ _, .int _ _]) rfl rfl rfl rfl | exact j0v (us := [.int _ _, .int _ _, .int _ _]) rfl rfl rfl rfl | exact j0v (us := [_, _]) rfl rfl rfl rfl) | ((fail_if_success (fail_if_success (apply j0O))); first | exact j0O (τ := .val (.int _ _)) rfl rfl (by omega) rfl rfl | exact j0O (τ := .val _) rfl rfl (by omega) rfl rfl | exact j0O rfl rfl (by omega) rfl rfl | exact j0O (τ := .val (.bool _)) rfl rfl (by omega) rfl rfl) | ((fail_if_success (fail_if_success (apply g_load_oel_agg))); first | exact g_load_oel_agg (us := [.int _ _, .int _ _]) rfl rfl (by omega) rfl rfl | exact g_load_oel_agg (us := [.int _ _, .int _ _, .int _ _]) rfl rfl (by omega) rfl rfl) | ((fail_if_success (fail_if_success (apply j0r))); first | exact j0r (s := .av (.val (.int _ _))) rfl rfl rfl | exact j0r (s := .av _) rfl rfl rfl | exact j0r rfl rfl rfl | exact j0r (s := .av (.val (.bool _))) rfl rfl rfl | exact j0r (s := .osl _) rfl rfl rfl | exact j0r (s := .own _ _) rfl rfl rfl | exact j0r (s := .clo _ _) rfl rfl rfl) | (apply Y0P; exact rfl; assumption) | (apply W0n; exact rfl; exact rfl; assumption) | (apply W0m; exact rfl; exact rfl; assumption) | (apply J0Z; assumption) | ((fail_if_success (fail_if_success (apply j0o))); first | exact j0o (us := [.int _ _, .int _ _]) rfl rfl rfl rfl | exact j0o (us := [.int _ _, .int _ _, .int _ _]) rfl rfl rfl rfl) | ((fail_if_success (fail_if_success (apply K0Z))); first | exact K0Z rfl rfl rfl) | ((fail_if_success (fail_if_success (apply V0k))); first | exact V0k rfl) | ((fail_if_success (fail_if_success (apply V0j))); first | exact V0j rfl rfl rfl) | ((fail_if_success (fail_if_success (apply V0m))); first | exact V0m rfl rfl rfl) | ((fail_if_success (fail_if_success (apply V0n))); first | exact V0n rfl) | ((fail_if_success (fail_if_success (apply q0Z))); first | exact q0Z rfl rfl rfl rfl) | ((fail_if_success (fail_if_success (apply V0o))); first | exact V0o rfl rfl (by omega)) | ((fail_if_success (fail_if_success (apply V0g))); first | exact V0g rfl rfl (by omega)) | ((fail_if_success (fail_if_success (apply x0J))); first | exact x0J rfl (by omega)) | ((fail_if_success (fail_if_success (apply z0A))); first | exact z0A rfl (by omega)) | ((fail_if_success (fail_if_success (apply g_str_str))); first | exact g_str_str rfl) | ((fail_if_success (fail_if_success (apply w0K))); first | exact w0K rfl rfl rfl) | ((fail_if_success (fail_if_success (apply w0J))); first | exact w0J rfl rfl rfl) | ((fail_if_success (fail_if_success (apply v0Q))); first | exact v0Q rfl rfl) | ((fail_if_success (fail_if_success (apply q0Y))); first | exact q0Y rfl rfl rfl) | ((fail_if_success (fail_if_success (apply x0m))); first | exact x0m rfl rfl rfl (by omega)) | ((fail_if_success (fail_if_success (apply w0Z))); first | exact w0Z rfl rfl rfl (by omega) | exact w0Z rfl rfl (Int.toNat_of_nonneg (by omega)).symm (by omega)) | ((fail_if_success (fail_if_success (apply q0l))); first | exact q0l rfl rfl rfl rfl (by omega) | exact q0l rfl rfl rfl (Int.toNat_of_nonneg (by omega)).symm (by omega)) | ((fail_if_success (fail_if_success (apply q0s))); first | exact q0s rfl rfl rfl (by omega)) | ((fail_if_success (fail_if_success (apply q0k))); first | exact q0k rfl rfl rfl (by decide)) | ((fail_if_success (fail_if_success (apply q0H))); first | exact q0H rfl rfl rfl (by decide) rfl) | ((fail_if_success (fail_if_success (apply z0C))); first | exact z0C rfl) | ((fail_if_success (fail_if_success (apply v0p))); first | exact v0p rfl) | ((fail_if_success (fail_if_success (apply y0V))); first | exact y0V (s := .av (.val (.bool _))) rfl rfl | exact y0V rfl rfl) | ((fail_if_success (fail_if_success (apply g_pick_b))); first | exact g_pick_b rfl rfl rfl) | ((fail_if_success (fail_if_success (apply j1d))); first | exact j1d rfl) | ((fail_if_success (fail_if_success (apply g_len_nil))); first | exact g_len_nil rfl) | ((fail_if_success (fail_if_success (apply w0I))); first | exact w0I rfl rfl) | ((fail_if_success (fail_if_success (apply w0H))); first | exact w0H rfl) | ((fail_if_success (fail_if_success (apply v0S))); first | exact v0S rfl rfl) | ((fail_if_success (fail_if_success (apply v0X))); first | exact v0X rfl (by decide)) | ((fail_if_success (fail_if_success (apply v0o))); first | exact v0o rfl) | ((fail_if_success (fail_if_success (apply v0R))); first | exact v0R rfl rfl) | ((fail_if_success (fail_if_success (apply w0G))); first | exact w0G rfl) | ((fail_if_success (fail_if_success (apply j1h))); first | exact j1h rfl) | ((fail_if_success (fail_if_success (apply W0o))); first | exact W0o (xs := [_, _]) (ys := [_, _]) rfl rfl rfl rfl | exact W0o (xs := [_, _, _]) (ys := [_, _, _]) rfl rfl rfl rfl) | ((fail_if_success (fail_if_success (apply q0a))); first | exact q0a (τs := [_, _, _]) rfl | exact q0a (τs := [_]) rfl | exact q0a (τs := [_, _]) rfl) | ((fail_if_success (fail_if_success (apply Q0a))); first | exact Q0a rfl rfl rfl rfl (by omega) (by omega)) | ((fail_if_success (fail_if_success (apply X0F))); first | exact X0F rfl rfl) | ((fail_if_success (fail_if_success (apply j1e))); first | exact j1e rfl rfl) | ((fail_if_success (fail_if_success (apply W0p))); first | exact W0p (xs := [_, _]) (ys := [_, _]) rfl rfl rfl rfl | exact W0p (xs := [_, _, _]) (ys := [_, _, _]) rfl rfl rfl rfl) | ((fail_if_success (fail_if_success (apply V0l))); first | exact V0l rfl rfl (by omega) (by omega)) | ((fail_if_success (fail_if_success (apply V0i))); first | exact V0i rfl rfl (by omega) (by omega)) | ((fail_if_success (fail_if_success (apply j1g))); first | exact j1g rfl (by omega)) | ((fail_if_success (fail_if_success (apply V0p))); first | exact V0p rfl rfl (by omega) (by omega) (by omega) (by omega)) | ((fail_if_success (fail_if_success (apply j1j))); first | exact j1j rfl rfl (by omega) (by omega)) | ((fail_if_success (fail_if_success (apply j1c))); first | exact j1c rfl rfl) | ((fail_if_success (fail_if_success (apply g_addP))); first | exact g_addP rfl rfl (by omega) (by omega) (by omega) (by omega)) | ((fail_if_success (fail_if_success (apply q0X))); first | exact q0X rfl rfl rfl) | ((fail_if_success (fail_if_success (apply j1i))); first | exact j1i rfl rfl (by omega) (by omega) (by omega)) | ((fail_if_success (fail_if_success (apply j1f))); first | exact j1f rfl rfl) | ((fail_if_success (fail_if_success (apply v0r))); first | exact v0r rfl) | ((fail_if_success (fail_if_success (apply x0o))); first | exact x0o rfl rfl rfl (by omega) (by omega))) : A := h
set_option maxRecDepth 20000 in
theorem wk {A B : Prop} (b : B) (k : Bx B → A := by
 intro hk_
 repeat (first
  |((first | apply j0n | apply v0x); exact gwk; exact rfl)
  |refine y0F ?_
  |refine q0C ?_
  |refine J0k ?_
  |refine K0o ?_
  |refine Q0L ?_
  |refine J0O ?_
  |refine Z0Y ?_
  |refine J0j ?_
  |refine V0Z ?_
  |refine x0e ?_
  |refine w0u ?_
  |refine v0z ?_
  |refine v0g ?_
  |refine sq_inBlock_other rfl ?_
  |refine x0R ?_
  |refine y0E rfl ?_
  |refine y0D rfl ?_
  |refine cq_cond_cf ?_
  |refine cq_cond_ct ?_
  |refine k0f tm (by kernel_rfl) ?_
  |refine K0p rfl rfl rfl rfl ?_
  |refine k0g nofun rfl rfl rfl rfl ?_
  |((first | apply Y0n | apply Q0U); exact gwk; exact rfl; exact rfl; exact rfl)
  |refine W0L rfl rfl rfl ?_
  |refine W0c nofun rfl rfl rfl ?_
  |refine v0P (q0P rfl rfl rfl rfl) ?_
  |refine y0g (q0P rfl rfl rfl rfl) ?_
  |refine v0P (q0O rfl rfl rfl rfl) ?_
  |refine y0g (q0O rfl rfl rfl rfl) ?_
  |refine v0P (q0m rfl rfl rfl rfl rfl rfl) ?_
  |refine y0g (q0m rfl rfl rfl rfl rfl rfl) ?_
  |refine v0P (w0p rfl rfl rfl rfl rfl rfl) ?_
  |refine y0g (w0p rfl rfl rfl rfl rfl rfl) ?_
  |refine v0P (w0b rfl rfl rfl rfl rfl (by simp)) ?_
  |refine y0g (w0b rfl rfl rfl rfl rfl (by simp)) ?_
  |refine v0P (q0u rfl rfl rfl rfl zO rfl) ?_
  |refine y0g (q0u rfl rfl rfl rfl zO rfl) ?_
  |refine j0u (z0n rfl rfl rfl zO rfl) rfl ?_
  |refine j0u (z0m rfl rfl rfl zO rfl) rfl ?_
  |refine j0u (v_push_pr rfl rfl rfl zO rfl) rfl ?_
  |refine j0u (Y0x rfl rfl rfl rfl zO) rfl ?_
  |refine j0u (Y0x rfl rfl rfl (Int.toNat_of_nonneg zO).symm zO) rfl ?_
  |refine j0u (j0J 10 rfl) rfl ?_
  |refine j0u (j0J 11 rfl) rfl ?_
  |refine j0u (j0J 12 rfl) rfl ?_
  |refine j0u (j0J 13 rfl) rfl ?_
  |refine j0u (j0J 14 rfl) rfl ?_
  |refine j0u (j0J 15 rfl) rfl ?_
  |refine z0Y (j0H 10) rfl rfl ?_
  |refine z0Y (j0H 11) rfl rfl ?_
  |refine z0Y (j0H 12) rfl rfl ?_
  |refine z0Y (j0H 13) rfl rfl ?_
  |refine z0Y (j0H 14) rfl rfl ?_
  |refine z0Y (j0H 15) rfl rfl ?_)
 exact hk_.out) : A := k ⟨b⟩
end Go.Vc
end
