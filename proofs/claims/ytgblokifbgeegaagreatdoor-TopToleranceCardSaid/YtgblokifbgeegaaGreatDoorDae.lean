/- A part of the proof. -/
import Derived.Test.YtgblokifbgeegaaGreatDoorDad
set_option linter.unusedVariables false
set_option linter.unusedSimpArgs false
section
namespace Go.Vc
open Go
variable {P : Program} {E : Env} {T : Tab} {O : Own} {d : Option Nat} {ty : TypeId} {pos : String} {af : Array Edge} {g : Option (Nat × Bool)}
def SV.toAV : SV → AV
 |.av τ => τ
 |_ => .any
def SV.isAv : SV → Bool
 |.av _ => true
 |_ => false
theorem W0Y : ∀ l : List SV, (l.all SV.isAv) = true → l = (l.map SV.toAV).map SV.av
 |[], _ => rfl
 |.av τ :: l, h => by
  have := W0Y l h
  simp only [List.map_cons, SV.toAV]
  rw [← this]
theorem Y0Q {f : FuncId} {xs : List Operand} {ats : Array TypeId} {res : AV} (hx : ((xs.map T.ev).all SV.isAv) = true) (hc : CtrA P f ((xs.map T.ev).map SV.toAV) res) :
  GV P E ⟨d, .call ⟨.value (.func f), xs.toArray, ats⟩, ty, pos, af, g⟩ T O (.av res) [] [] := X0H hc (W0Y _ hx)
theorem W0n {f : FuncId} {c : Operand} {xs : List Operand} {ats : Array TypeId} {res : AV} (hf : T.ev c = .av (.val (.func (.func f) #[] #[]))) (hx : ((xs.map T.ev).all SV.isAv) = true) (hc : CtrA P f ((xs.map T.ev).map SV.toAV) res) :
  GV P E ⟨d, .call ⟨.value c, xs.toArray, ats⟩, ty, pos, af, g⟩ T O (.av res) [] [] := V1p hc hf (W0Y _ hx)
theorem W0m {f : FuncId} {c : Operand} {xs : List Operand} {ats : Array TypeId} {n : Nat} {cf : Nat → AV} {res : AV} (hf : T.ev c = .av (.clo f n cf)) (hx : ((xs.map T.ev).all SV.isAv) = true) (hc : CtrA P f ((xs.map T.ev).map SV.toAV ++ (List.range n).map cf) res) :
  GV P E ⟨d, .call ⟨.value c, xs.toArray, ats⟩, ty, pos, af, g⟩ T O (.av res) [] [] := V1o hc hf (W0Y _ hx)
theorem J0X {f : FuncId} {xs : List Operand} {ats : Array TypeId} {v : Value} (hc : CtrA P f (xs.map (bAV T O)) (.val v)) :
  GV P E ⟨d, .call ⟨.value (.func f), xs.toArray, ats⟩, ty, pos, af, g⟩ T O (.av (.val v)) (xs.flatMap (j2I T)) [] := j2H hc rfl
structure Bx (p : Prop) : Prop where
 out : p
theorem gwk {A : Prop} (h : A := by first | ((fail_if_success (fail_if_success (apply j0R))); first | exact j0R (s := .av (.val (.int _ _))) rfl | exact j0R (s := .av (.val (.bool _))) rfl | exact j0R (s := .av _) rfl | exact j0R (s := .own _ _) rfl | exact j0R (s := .osl _) rfl | exact j0R (s := .oel _ _ _ _) rfl | exact j0R (s := .osx _ _ _ _) rfl | exact j0R (s := .clo _ _) rfl | exact j0R (s := .tupR _ _) rfl) | ((fail_if_success (fail_if_success (apply j0w))); first | exact j0w (s := .av (.val (.int _ _))) rfl | exact j0w (s := .av (.val (.bool _))) rfl | exact j0w (s := .av _) rfl | exact j0w (s := .own _ _) rfl | exact j0w (s := .osl _) rfl | exact j0w (s := .oel _ _ _ _) rfl | exact j0w (s := .osx _ _ _ _) rfl | exact j0w (s := .clo _ _) rfl | exact j0w (s := .tupR _ _) rfl) | ((fail_if_success (fail_if_success (apply v0W))); first | exact v0W (τ := .val (.int _ _)) rfl rfl rfl | exact v0W rfl rfl rfl | exact v0W (τ := .val (.bool _)) rfl rfl rfl) | ((fail_if_success (fail_if_success (apply j0v))); first | exact j0v (us := [.int _ _, .int _ _]) rfl rfl rfl rfl | exact j0v (us := [.int _ _, .int _ _, .int _ _]) rfl rfl rfl rfl | exact j0v (us := [_, _]) rfl rfl rfl rfl) | ((fail_if_success (fail_if_success (apply j0M))); first | exact j0M (τ := .val (.int _ _)) rfl rfl (by omega) rfl rfl | exact j0M (τ := .val _) rfl rfl (by omega) rfl rfl | exact j0M rfl rfl (by omega) rfl rfl | exact j0M (τ := .val (.bool _)) rfl rfl (by omega) rfl rfl) | ((fail_if_success (fail_if_success (apply g_load_oel_agg))); first | exact g_load_oel_agg (us := [.int _ _, .int _ _]) rfl rfl (by omega) rfl rfl | exact g_load_oel_agg (us := [.int _ _, .int _ _, .int _ _]) rfl rfl (by omega) rfl rfl) | ((fail_if_success (fail_if_success (apply j0q))); first | exact j0q (s := .av (.val (.int _ _))) rfl rfl rfl | exact j0q (s := .av _) rfl rfl rfl | exact j0q rfl rfl rfl | exact j0q (s := .av (.val (.bool _))) rfl rfl rfl | exact j0q (s := .osl _) rfl rfl rfl | exact j0q (s := .own _ _) rfl rfl rfl | exact j0q (s := .clo _ _) rfl rfl rfl) | (apply Y0Q; exact rfl; assumption) | (apply W0n; exact rfl; exact rfl; assumption) | (apply W0m; exact rfl; exact rfl; assumption) | (apply J0X; assumption) | ((fail_if_success (fail_if_success (apply j0n))); first | exact j0n (us := [.int _ _, .int _ _]) rfl rfl rfl rfl | exact j0n (us := [.int _ _, .int _ _, .int _ _]) rfl rfl rfl rfl) | ((fail_if_success (fail_if_success (apply K0W))); first | exact K0W rfl rfl rfl) | ((fail_if_success (fail_if_success (apply V0j))); first | exact V0j rfl) | ((fail_if_success (fail_if_success (apply V0i))); first | exact V0i rfl rfl rfl) | ((fail_if_success (fail_if_success (apply V0l))); first | exact V0l rfl rfl rfl) | ((fail_if_success (fail_if_success (apply V0m))); first | exact V0m rfl) | ((fail_if_success (fail_if_success (apply q0X))); first | exact q0X rfl rfl rfl rfl) | ((fail_if_success (fail_if_success (apply V0n))); first | exact V0n rfl rfl (by omega)) | ((fail_if_success (fail_if_success (apply V0f))); first | exact V0f rfl rfl (by omega)) | ((fail_if_success (fail_if_success (apply x0G))); first | exact x0G rfl (by omega)) | ((fail_if_success (fail_if_success (apply z0y))); first | exact z0y rfl (by omega)) | ((fail_if_success (fail_if_success (apply g_str_str))); first | exact g_str_str rfl) | ((fail_if_success (fail_if_success (apply w0I))); first | exact w0I rfl rfl rfl) | ((fail_if_success (fail_if_success (apply w0H))); first | exact w0H rfl rfl rfl) | ((fail_if_success (fail_if_success (apply v0O))); first | exact v0O rfl rfl) | ((fail_if_success (fail_if_success (apply q0W))); first | exact q0W rfl rfl rfl) | ((fail_if_success (fail_if_success (apply x0m))); first | exact x0m rfl rfl rfl (by omega)) | ((fail_if_success (fail_if_success (apply w0Y))); first | exact w0Y rfl rfl rfl (by omega) | exact w0Y rfl rfl (Int.toNat_of_nonneg (by omega)).symm (by omega)) | ((fail_if_success (fail_if_success (apply q0j))); first | exact q0j rfl rfl rfl rfl (by omega) | exact q0j rfl rfl rfl (Int.toNat_of_nonneg (by omega)).symm (by omega)) | ((fail_if_success (fail_if_success (apply q0r))); first | exact q0r rfl rfl rfl (by omega)) | ((fail_if_success (fail_if_success (apply q0i))); first | exact q0i rfl rfl rfl (by decide)) | ((fail_if_success (fail_if_success (apply q0G))); first | exact q0G rfl rfl rfl (by decide) rfl) | ((fail_if_success (fail_if_success (apply z0A))); first | exact z0A rfl) | ((fail_if_success (fail_if_success (apply v0o))); first | exact v0o rfl) | ((fail_if_success (fail_if_success (apply y0T))); first | exact y0T (s := .av (.val (.bool _))) rfl rfl | exact y0T rfl rfl) | ((fail_if_success (fail_if_success (apply g_pick_b))); first | exact g_pick_b rfl rfl rfl) | ((fail_if_success (fail_if_success (apply j1a))); first | exact j1a rfl) | ((fail_if_success (fail_if_success (apply g_len_nil))); first | exact g_len_nil rfl) | ((fail_if_success (fail_if_success (apply w0G))); first | exact w0G rfl rfl) | ((fail_if_success (fail_if_success (apply w0F))); first | exact w0F rfl) | ((fail_if_success (fail_if_success (apply v0Q))); first | exact v0Q rfl rfl) | ((fail_if_success (fail_if_success (apply v0V))); first | exact v0V rfl (by decide)) | ((fail_if_success (fail_if_success (apply v0n))); first | exact v0n rfl) | ((fail_if_success (fail_if_success (apply v0P))); first | exact v0P rfl rfl) | ((fail_if_success (fail_if_success (apply w0E))); first | exact w0E rfl) | ((fail_if_success (fail_if_success (apply j1e))); first | exact j1e rfl) | ((fail_if_success (fail_if_success (apply W0o))); first | exact W0o (xs := [_, _]) (ys := [_, _]) rfl rfl rfl rfl | exact W0o (xs := [_, _, _]) (ys := [_, _, _]) rfl rfl rfl rfl) | ((fail_if_success (fail_if_success (apply q0a))); first | exact q0a (τs := [_, _, _]) rfl | exact q0a (τs := [_]) rfl | exact q0a (τs := [_, _]) rfl) | ((fail_if_success (fail_if_success (apply J0Y))); first | exact J0Y rfl rfl rfl rfl (by omega) (by omega)) | ((fail_if_success (fail_if_success (apply X0G))); first | exact X0G rfl rfl) | ((fail_if_success (fail_if_success (apply j1b))); first | exact j1b rfl rfl) | ((fail_if_success (fail_if_success (apply W0p))); first | exact W0p (xs := [_, _]) (ys := [_, _]) rfl rfl rfl rfl | exact W0p (xs := [_, _, _]) (ys := [_, _, _]) rfl rfl rfl rfl) | ((fail_if_success (fail_if_success (apply V0k))); first | exact V0k rfl rfl (by omega) (by omega)) | ((fail_if_success (fail_if_success (apply V0h))); first | exact V0h rfl rfl (by omega) (by omega)) | ((fail_if_success (fail_if_success (apply j1d))); first | exact j1d rfl (by omega)) | ((fail_if_success (fail_if_success (apply V0o))); first | exact V0o rfl rfl (by omega) (by omega) (by omega) (by omega)) | ((fail_if_success (fail_if_success (apply j1g))); first | exact j1g rfl rfl (by omega) (by omega)) | ((fail_if_success (fail_if_success (apply K0Z))); first | exact K0Z rfl rfl) | ((fail_if_success (fail_if_success (apply g_addP))); first | exact g_addP rfl rfl (by omega) (by omega) (by omega) (by omega)) | ((fail_if_success (fail_if_success (apply q0V))); first | exact q0V rfl rfl rfl) | ((fail_if_success (fail_if_success (apply j1f))); first | exact j1f rfl rfl (by omega) (by omega) (by omega)) | ((fail_if_success (fail_if_success (apply j1c))); first | exact j1c rfl rfl) | ((fail_if_success (fail_if_success (apply v0q))); first | exact v0q rfl) | ((fail_if_success (fail_if_success (apply q0Y))); first | exact q0Y rfl rfl rfl (by omega) (by omega))) : A := h
set_option maxRecDepth 20000 in
theorem wk {A B : Prop} (b : B) (k : Bx B → A := by
 intro hk_
 repeat (first
  |((first | apply j0l | apply v0j); exact gwk; exact rfl)
  |refine y0D ?_
  |refine q0B ?_
  |refine J0h ?_
  |refine K0p ?_
  |refine Q0G ?_
  |refine J0M ?_
  |refine Z0X ?_
  |refine J0g ?_
  |refine V0Z ?_
  |refine x0d ?_
  |refine w0t ?_
  |refine v0x ?_
  |refine v0e ?_
  |refine sq_inBlock_other rfl ?_
  |refine x0O ?_
  |refine y0C rfl ?_
  |refine y0B rfl ?_
  |refine cq_cond_cf ?_
  |refine cq_cond_ct ?_
  |refine k0e tm (by kernel_rfl) ?_
  |refine K0q rfl rfl rfl rfl ?_
  |refine k0f nofun rfl rfl rfl rfl ?_
  |((first | apply Y0n | apply Q0Q); exact gwk; exact rfl; exact rfl; exact rfl)
  |refine W0L rfl rfl rfl ?_
  |refine W0c nofun rfl rfl rfl ?_
  |refine v0N (q0O rfl rfl rfl rfl) ?_
  |refine y0e (q0O rfl rfl rfl rfl) ?_
  |refine v0N (q0N rfl rfl rfl rfl) ?_
  |refine y0e (q0N rfl rfl rfl rfl) ?_
  |refine v0N (q0k rfl rfl rfl rfl rfl rfl) ?_
  |refine y0e (q0k rfl rfl rfl rfl rfl rfl) ?_
  |refine v0N (w0n rfl rfl rfl rfl rfl rfl) ?_
  |refine y0e (w0n rfl rfl rfl rfl rfl rfl) ?_
  |refine v0N (v0Z rfl rfl rfl rfl rfl (by simp)) ?_
  |refine y0e (v0Z rfl rfl rfl rfl rfl (by simp)) ?_
  |refine v0N (q0t rfl rfl rfl rfl zO rfl) ?_
  |refine y0e (q0t rfl rfl rfl rfl zO rfl) ?_
  |refine j0t (z0l rfl rfl rfl zO rfl) rfl ?_
  |refine j0t (z0k rfl rfl rfl zO rfl) rfl ?_
  |refine j0t (v_push_pr rfl rfl rfl zO rfl) rfl ?_
  |refine j0t (Y0x rfl rfl rfl rfl zO) rfl ?_
  |refine j0t (Y0x rfl rfl rfl (Int.toNat_of_nonneg zO).symm zO) rfl ?_
  |refine j0t (j0I 10 rfl) rfl ?_
  |refine j0t (j0I 11 rfl) rfl ?_
  |refine j0t (j0I 12 rfl) rfl ?_
  |refine j0t (j0I 13 rfl) rfl ?_
  |refine j0t (j0I 14 rfl) rfl ?_
  |refine j0t (j0I 15 rfl) rfl ?_
  |refine z0V (j0F 10) rfl rfl ?_
  |refine z0V (j0F 11) rfl rfl ?_
  |refine z0V (j0F 12) rfl rfl ?_
  |refine z0V (j0F 13) rfl rfl ?_
  |refine z0V (j0F 14) rfl rfl ?_
  |refine z0V (j0F 15) rfl rfl ?_)
 exact hk_.out) : A := k ⟨b⟩
end Go.Vc
end
