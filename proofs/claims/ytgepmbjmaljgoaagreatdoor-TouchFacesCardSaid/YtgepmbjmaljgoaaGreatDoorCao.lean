/- A part of the proof. -/
import Derived.Test.YtgepmbjmaljgoaaGreatDoorCaj
import Derived.Test.YtgepmbjmaljgoaaGreatDoorCan
set_option linter.unusedVariables false
set_option linter.unusedSimpArgs false
namespace Go.Proofs.YtgepmbjmaljgoaaGreatDoor
open Go Go.Vc Go.RowKit Go.Na Go.Lib
set_option maxHeartbeats 4000000
abbrev vi (n : Int) : AV := .val (.int .i64 n)
abbrev vb (b : Bool) : AV := .val (.bool b)
abbrev vI (n : Int) : AV := vS (itoa n)
end Go.Proofs.YtgepmbjmaljgoaaGreatDoor
section
end
section
end
section
end
section
end
namespace Go.Proofs.YtgepmbjmaljgoaaGreatDoor
open Go Go.Vc Go.RowKit Go.Na Go.Lib
set_option maxHeartbeats 4000000
theorem itoa_is0 (m : Int) : (itoa m == [48]) = decide (m = 0) := by
 have e0 : itoa 0 = [48] := by rw [itoa_pos (by decide)]; exact dec_zero
 by_cases h : m = 0
 ·subst h; rw [e0]; rfl
 ·rw [decide_eq_false h, beq_eq_false_iff_ne, ← e0]
  exact fun e => h (itoa_inj e)
end Go.Proofs.YtgepmbjmaljgoaaGreatDoor
section
end
namespace Go.Proofs.YtgepmbjmaljgoaaGreatDoor
open Go Go.Vc Go.RowKit Go.Na Go.Lib
set_option maxHeartbeats 4000000
theorem itoa_1 : itoa 1 = [49] := by rw [itoa_pos (by decide)]; rw [show (1 : Int).natAbs = 1 from rfl, decDigits]; rfl
theorem gcd_step (u v : Nat) (hv : v ≠ 0) : Nat.gcd v (u % v) = Nat.gcd u v := by
 rw [Nat.gcd_comm u v, Nat.gcd_rec v u, Nat.gcd_comm]
theorem szL_len (l : List UInt8) : (szL l).length ≤ l.length := by
 cases l with
 |nil => exact Nat.le_refl _
 |cons b r =>
  by_cases hb : b = 45
  ·rw [szL, if_pos hb]; simp
  ·rw [szL, if_neg hb]; exact Nat.le_refl _
abbrev vR (q : Rat) : AV := vS (rtx q)
theorem itoa_is1 (m : Int) : (itoa m == [49]) = decide (m = 1) := by
 by_cases h : m = 1
 ·rw [h, itoa_1]; rfl
 ·rw [decide_eq_false h, beq_eq_false_iff_ne, ← itoa_1]
  exact fun e => h (itoa_inj e)
theorem spN_len (l : List UInt8) : (spN l).length ≤ l.length := by
 unfold spN; split
 ·simp; omega
 ·exact Nat.le_refl _
theorem spD_len (l : List UInt8) : (spD l).length ≤ l.length + 1 := by
 unfold spD; split
 ·simp; omega
 ·simp
theorem LI_itoa {m : Int} {k : Nat} (h : (itoa m).length ≤ k) : LI k m := .of_len (by
 by_cases hm : m < 0
 ·rw [itoa_neg hm] at h; simp at h; omega
 ·rw [itoa_pos hm] at h; exact h)
theorem enters_of' {P : Program} {f : FuncId} {fn : Func} {c : Code} (hf : P.funcs[f]? = some fn) (hb : fn.body = some c) (hname : (fn.name == "runtime.NumGoroutine") = false) : Enters P f := entersM hf hb hname
theorem ctrA_b {P : Program} {f : FuncId} {us : List Value} {v : Value} {res : AV} (he : Enters P f) (h : ∀ Z w, ZOk Z w → Calls P f us.toArray w fun e w' => e = .returned v ∧ Below w.heap.size w w') (hv : ∀ Z w, res.ok Z w v) : CtrA P f (us.map AV.val) res := by
 refine ⟨he, fun w Z vs hZ hvs => ?_⟩
 have : vs = us := by
  clear h he
  induction us generalizing vs with
  |nil => cases vs with
   |nil => rfl
   |cons _ _ => exact hvs.elim
  |cons u us ih => cases vs with
   |nil => exact hvs.elim
   |cons v vs => obtain ⟨h1, h2⟩ := hvs; rw [ih vs h2]; rw [show v = u from h1]
 subst this
 refine (h Z w hZ).mono ?_
 rintro e w' ⟨rfl, hb⟩
 exact ⟨v, Z, rfl, hb, fun _ h => h, fun _ h => .inl h, fun k hk => Nat.lt_of_lt_of_le (hZ.1 k hk) hb.size, hv Z _⟩
theorem tup2_ok {u v : Value} (Z : Zone) (w : World) : (tupOf [.val u, .val v]).ok Z w (.tuple #[u, v]) := by
 refine ⟨[u, v], rfl, rfl, fun i hi => ?_⟩
 have hi' : i < 2 := hi
 rcases (by omega : i = 0 ∨ i = 1) with rfl | rfl <;> exact ⟨_, rfl, rfl⟩
theorem tup3_ok {u v x : Value} (Z : Zone) (w : World) : (tupOf [.val u, .val v, .val x]).ok Z w (.tuple #[u, v, x]) := by
 refine ⟨[u, v, x], rfl, rfl, fun i hi => ?_⟩
 have hi' : i < 3 := hi
 rcases (by omega : i = 0 ∨ i = 1 ∨ i = 2) with rfl | rfl | rfl <;> exact ⟨_, rfl, rfl⟩
theorem Below.drewN' {B : Nat} {w : World} (n : Nat) : Below B w (w.drewN n) := ⟨rfl, rfl, rfl, Nat.le_refl _, fun _ _ => rfl⟩
theorem Below.grow' {w : World} (os : Array Obj) : Below w.heap.size w (Go.Sort.grow w os) := by
 refine ⟨rfl, rfl, rfl, by simp [Go.Sort.grow], fun k hk => ?_⟩
 simp [Go.Sort.grow, Array.getElem?_append_left hk]
theorem szL_trim (l : List UInt8) : Lib.trimPrefix l [45] = Na.szL l := by
 cases l with
 |nil => rfl
 |cons b r =>
  by_cases hb : b = 45
  ·subst hb
   rw [Na.szL, if_pos rfl]
   unfold Lib.trimPrefix Lib.hasPrefix
   simp [List.isPrefixOf]
  ·rw [Na.szL, if_neg hb]
   unfold Lib.trimPrefix Lib.hasPrefix
   rw [if_neg]
   simp [List.isPrefixOf, Ne.symm hb]
theorem trimp_c (l : List UInt8) : CtrA Tryz.prog 225 [vS l, vS [45]] (vS (Na.szL l)) := by
 refine ctrA_b (us := [.string (bs l), .string (bs [45])]) (enters_of' Tryz.func225 rfl rfl) (fun Z w _ => (Tryz.strings_TrimPrefix (bs l) (bs [45]) w).mono ?_) (fun Z w => rfl)
 rintro e w' ⟨rfl, rfl⟩
 exact ⟨by rw [← szL_trim], Below.refl _ _⟩
theorem hasp_c (l : List UInt8) : CtrA Tryz.prog 234 [vS l, vS [45]] (vb (decide (l.head? = some 45))) := by
 refine ctrA_b (us := [.string (bs l), .string (bs [45])]) (enters_of' Tryz.func234 rfl rfl) (fun Z w _ => (Tryz.strings_HasPrefix (bs l) (bs [45]) w).mono ?_) (fun Z w => rfl)
 rintro e w' ⟨rfl, rfl⟩
 refine ⟨?_, Below.refl _ _⟩
 congr 2
 show Lib.hasPrefix l [45] = _
 cases l with
 |nil => rfl
 |cons b r =>
  unfold Lib.hasPrefix
  by_cases h : b = 45
  ·subst h; simp [List.isPrefixOf]
  ·have h' : (45 : UInt8) ≠ b := fun e => h e.symm
   simp [List.isPrefixOf, h, h']
theorem compare_c (a b : List UInt8) : CtrA Tryz.prog 270 [vS a, vS b] (vi (Lib.compareBytes a b)) := by
 refine ctrA_b (us := [.string (bs a), .string (bs b)]) (enters_of' Tryz.func270 rfl rfl) (fun Z w _ => (Tryz.strings_Compare (bs a) (bs b) w).mono ?_) (fun Z w => rfl)
 rintro e w' ⟨rfl, rfl⟩
 exact ⟨rfl, Below.refl _ _⟩
theorem glb_tab {Z : Zone} {w : World} (h : ZOk Z w) : Lib.TabIs Tryz.prog w "internal/strconv.uint64pow10" .u64 Lib.pow10Tab := by
 obtain ⟨b, t, fr, h1, _, _, h4⟩ := h.2 (2, .ob (gTab (Lib.pow10Tab.map (Value.int .u64)).toArray) (gTab_st _)) (by simp [glb])
 simp only [Value.pointer.injEq, Option.some.injEq, Addr.mk.injEq, and_true] at h1
 subst h1
 have hg : Tryz.prog.globalNamed "internal/strconv.uint64pow10" = some 2 := by kernel_rfl
 unfold Lib.TabIs World.var?
 rw [hg]
 simp only [Option.bind_some, h4]
theorem itoa_c (n : Int) (h : -9223372036854775808 ≤ n ∧ n ≤ 9223372036854775807) : CtrA Tryz.prog 184 [vi n] (vI n) := by
 refine ctrA_b (us := [.int .i64 n]) (enters_of' Tryz.func184 rfl rfl) (fun Z w hZ => (Tryz.strconv_Itoa n h.1 h.2 w (glb_tab hZ)).mono ?_) (fun Z w => rfl)
 rintro e w' ⟨rfl, k, os, rfl⟩
 exact ⟨rfl, (Below.drewN' k).trans (Below.grow' (w := w.drewN k) os)⟩
theorem decFrom_dv : ∀ (l : List UInt8) (a : Nat), (∀ b ∈ l, isD b) → Lib.decFrom a l = some (dvA a l)
 |[], _, _ => rfl
 |b :: l, a, h => by
  have hb := h b (by simp)
  have : Lib.digitVal b = some (b.toNat - 48) := if_pos hb
  simp only [Lib.decFrom, this]
  rw [decFrom_dv l _ fun c hc => h c (by simp [hc])]
  rfl
theorem atoi_dig {l : List UInt8} (hne : l ≠ []) (h : ∀ b ∈ l, isD b) : Lib.atoi l = some ((dv l : Nat) : Int) := by
 cases l with
 |nil => exact absurd rfl hne
 |cons b r =>
  have hb := h b (by simp)
  have h1 : (b == 45) = false := by simp; exact dig45 hb
  have h2 : (b == 43) = false := by simp; rintro rfl; exact absurd hb (by decide)
  have h3 : Lib.decNat (b :: r) = some (dv (b :: r)) := by
   unfold Lib.decNat
   rw [if_neg (by simp)]
   exact decFrom_dv _ 0 h
  simp [Lib.atoi, h1, h2, h3]
theorem atoi_itoa (m : Int) : Lib.atoi (itoa m) = some m := by
 by_cases h : m < 0
 ·rw [itoa_neg h]
  have h3 : Lib.decNat (decDigits m.natAbs) = some m.natAbs := by
   unfold Lib.decNat
   rw [if_neg (by simp [dec_ne]), decFrom_dv _ 0 (dec_dig _)]
   exact congrArg some (dv_dec _)
  simp [Lib.atoi, h3]; omega
 ·rw [itoa_pos h, atoi_dig (dec_ne _) (dec_dig _), dv_dec]
  congr 1; omega
abbrev nilE : AV := .val .nilIface
theorem atoi_c (l : List UInt8) (n : Int) (hl : l.length ≤ 18) (h : Lib.atoi l = some n) : CtrA Tryz.prog 271 [vS l] (tupOf [vi n, nilE]) := by
 refine ctrA_b (us := [.string (bs l)]) (enters_of' Tryz.func271 rfl rfl) (fun Z w _ => (Tryz.strconv_Atoi (bs l) n hl h w).mono ?_) (fun Z w => tup2_ok Z w)
 rintro e w' ⟨rfl, t, rfl⟩
 exact ⟨rfl, rfl, rfl, rfl, by rw [Lib.bytesWorld_size]; omega, fun k hk => Lib.bytesWorld_at_old w 5 t k hk⟩
abbrev ten : List UInt8 := [48, 49, 50, 51, 52, 53, 54, 55, 56, 57]
theorem ten_iff (b : UInt8) : ten.contains b = true ↔ isD b := by
 constructor
 ·intro h
  simp [ten] at h
  rcases h with rfl | rfl | rfl | rfl | rfl | rfl | rfl | rfl | rfl | rfl <;> decide
 ·intro h
  rw [← ofd h]
  have := h.1; have := h.2
  rcases (by omega : b.toNat - 48 = 0 ∨ b.toNat - 48 = 1 ∨ b.toNat - 48 = 2 ∨ b.toNat - 48 = 3 ∨ b.toNat - 48 = 4 ∨ b.toNat - 48 = 5 ∨ b.toNat - 48 = 6 ∨ b.toNat - 48 = 7 ∨ b.toNat - 48 = 8 ∨ b.toNat - 48 = 9) with e | e | e | e | e | e | e | e | e | e <;> rw [e] <;> decide
theorem dropW_nil {l : List UInt8} : l.dropWhile (ten.contains ·) = [] ↔ ∀ b ∈ l, isD b := by
 induction l with
 |nil => simp
 |cons b l ih =>
  rw [List.dropWhile_cons]
  by_cases h : ten.contains b = true
  ·rw [if_pos h, ih]
   simp [(ten_iff b).1 h]
  ·rw [if_neg h]
   constructor
   ·intro e; cases e
   ·intro e; exact absurd ((ten_iff b).2 (e b (by simp))) h
theorem trimS_nil {l : List UInt8} : Lib.trimS l ten = [] ↔ ∀ b ∈ l, isD b := by
 unfold Lib.trimS Lib.trimLeftS Lib.trimRightS
 rw [dropW_nil]
 constructor
 ·intro h
  have h1 : ∀ b ∈ l.reverse.dropWhile (ten.contains ·), isD b := fun b hb => h b (List.mem_reverse.2 hb)
  intro b hb
  have hs := List.takeWhile_append_dropWhile (p := (ten.contains ·)) (l := l.reverse)
  have hb' : b ∈ l.reverse := by simp [hb]
  rw [← hs] at hb'
  rcases List.mem_append.1 hb' with h2 | h2
  ·exact (ten_iff b).1 (List.all_eq_true.1 (List.all_takeWhile) b h2)
  ·exact h1 b h2
 ·intro h b hb
  have : b ∈ l.reverse.dropWhile (ten.contains ·) := List.mem_reverse.1 hb
  exact h b (by simpa using (List.dropWhile_sublist _).subset this)
theorem trim_c (l : List UInt8) (hl : l.length ≤ 1000000) : CtrA Tryz.prog 226 [vS l, vS ten] (vS (Lib.trimS l ten)) := by
 refine ctrA_b (us := [.string (bs l), .string (bs ten)]) (enters_of' Tryz.func226 rfl rfl) (fun Z w _ => (Any.strings_Trim_laid Tryz.lays160 (by kernel_rfl) (bs l) (bs ten) w (by show l.length ≤ _; omega) zE (ascii_of_all zE)).mono ?_) (fun Z w => rfl)
 rintro e w' ⟨rfl, hb⟩
 exact ⟨rfl, hb⟩
theorem cut_c (l : List UInt8) (hl : l.length ≤ 1000000) : CtrA Tryz.prog 224 [vS l, vS [47]] (tupOf [vS (Lib.cut l [47]).1, vS (Lib.cut l [47]).2.1, vb (Lib.cut l [47]).2.2]) := by
 refine ctrA_b (us := [.string (bs l), .string (bs [47])]) (enters_of' Tryz.func224 rfl rfl) (fun Z w hZ => ?_) (fun Z w => tup3_ok Z w)
 obtain ⟨b, m, h1, _, _, h4⟩ := hZ.2 (1, .ob gInt gInt_st) (by simp [glb])
 simp only [Value.pointer.injEq, Option.some.injEq, Addr.mk.injEq, and_true] at h1
 subst h1
 refine (Tryz.strings_Cut (bs l) (bs [47]) m w (by show l.length < _; omega) h4).mono ?_
 rintro e w' ⟨rfl, n, rfl⟩
 exact ⟨rfl, Below.drewN' n⟩
end Go.Proofs.YtgepmbjmaljgoaaGreatDoor
section
namespace Go.Proofs.YtgepmbjmaljgoaaGreatDoor
open Go Go.Vc Go.RowKit Go.Na Go.Lib
set_option maxHeartbeats 4000000
theorem wcheck_c (l : List UInt8) (hl : l.length ≤ 1000000) : CtrA Tryz.prog 173 [vS l] (vi (chk l)) := by
 have h1 := trimp_c l
 have hsl := szL_len l
 cases hs : Na.szL l with
 |nil =>
  rw [hs] at h1
  refine ctrA _ Tryz.func173 rfl rfl Tryz.ntmps173 rfl fun w Z => ?_
  refine zU ?_
  refine wk ?_
  exact sq_res1 rfl (.tmp rfl) (congrArg vi (chk_bad fun h => h.ne hs).symm)
 |cons b r =>
  rw [hs] at h1 hsl
  have h2 := trim_c (b :: r) zO
  by_cases ht : Lib.trimS (b :: r) ten = []
  ·rw [ht] at h2
   have hd := trimS_nil.1 ht
   by_cases hb : b = 48
   ·by_cases hl1 : l = [48]
    ·have hn : IsNum l := ⟨by rw [hs]; simp, fun _ => hl1, fun y hy => hd y (by rw [← hs]; exact hy)⟩
     have e0 : (l == [48]) = true := by rw [hl1]; rfl
     have hr : r = [] := by
      rw [hl1] at hs
      have : Na.szL [48] = [48] := rfl
      rw [this] at hs
      injection hs with _ hs
      exact hs.symm
     subst hb hr
     have hc : chk l = 0 := by unfold chk; rw [if_pos hn, hs]; rfl
     rw [hc]
     refine ctrA _ Tryz.func173 rfl rfl Tryz.ntmps173 rfl fun w Z => ?_
     refine zU ?_
     refine wk ?_
     rw [e0]
     refine wk ?_
     exact zV
    ·have e0 : (l == [48]) = false := by rw [beq_eq_false_iff_ne]; exact hl1
     subst hb
     have hc : chk l = 3 := chk_bad fun h => hl1 (h.hd (by rw [hs]; rfl))
     rw [hc]
     refine ctrA _ Tryz.func173 rfl rfl Tryz.ntmps173 rfl fun w Z => ?_
     refine zU ?_
     refine wk ?_
     rw [e0]
     refine wk ?_
     exact zV
   ·have hn : IsNum l := ⟨by rw [hs]; simp, fun h => by rw [hs] at h; simp at h; exact absurd h hb, fun y hy => hd y (by rw [← hs]; exact hy)⟩
    have e1 : ((b.toNat : Int) == 48) = false := by
     rw [beq_eq_false_iff_ne]; exact fun e => hb ((u8eq b 48).1 e)
    refine ctrA _ Tryz.func173 rfl rfl Tryz.ntmps173 rfl fun w Z => ?_
    refine zU ?_
    refine wk ?_
    rw [e1]
    refine wk ?_
    (refine cq_cond rfl ?_ ?_ <;> intro hb <;> (try simp only [zA, zB, zG, zC, zD, zN] at hb) <;> (try (exfalso; omega)))
    all_goals
     refine wk ?_
     first
      |exact sq_res1 rfl (.tmp rfl) (congrArg vi (by unfold chk; rw [if_pos hn, if_pos (by rw [hs]; omega)]))
      |exact sq_res1 rfl (.tmp rfl) (congrArg vi (by unfold chk; rw [if_pos hn, if_neg (by rw [hs]; omega)]))
  ·have hc : chk l = 3 := chk_bad fun h => ht (trimS_nil.2 fun y hy => h.dig y (by rw [hs]; exact hy))
   rw [hc]
   have e1 : (Lib.trimS (b :: r) ten == []) = false := by
    rw [beq_eq_false_iff_ne]; exact ht
   generalize Lib.trimS (b :: r) ten = X at *
   refine ctrA _ Tryz.func173 rfl rfl Tryz.ntmps173 rfl fun w Z => ?_
   refine zU ?_
   refine wk ?_
   rw [e1]
   refine wk ?_
   exact zV
theorem wcheck_i (m : Int) (h : LI 1000 m) : CtrA Tryz.prog 173 [vI m] (vi 0) := by
 have := wcheck_c (itoa m) (by
  have := h.len zE
  by_cases hm : m < 0
  ·rw [itoa_neg hm]; simp; omega
  ·rw [itoa_pos hm]; omega)
 rwa [chk_num h] at this
theorem all_c (n : Nat) (g : Nat → Int) (hn : n ≤ 1000000) (hg : ∀ i, i < n → LI 1000 (g i)) : CtrA Tryz.prog 227 [.sl n 1 (fun i _ => vI (g i))] (vi 0) := by
 refine ctrA _ Tryz.func227 rfl rfl Tryz.ntmps227 rfl fun w Z => ?_
 refine zU ?_
 refine wk ?_
 refine cq_loop (γ := Nat) (fun i => [(6, .av (.sl n 1 (fun i _ => vI (g i)))), (7, .av (vi n)), (8, .av (vi i))]) (fun _ => []) (fun i => i ≤ n) (fun i => n - i) 0 (Nat.zero_le _) (ent zS trivial) ?_
 intro i hi
 refine wk ?_
 (refine cq_cond rfl ?_ ?_ <;> intro hb <;> (try simp only [zA, zB, zG, zC, zD, zN] at hb) <;> (try (exfalso; omega)))
 ·have hc := wcheck_i (g i) (hg i zO)
  refine wk ?_
  exact sq_round (i + 1) zO zO (ent zS trivial)
 ·refine wk ?_
  exact zV
def two (a b : Int) (i : Nat) : Int := if i = 0 then a else b
theorem tq130_2 (a b : ByteArray) (w : World) : (Instr.buildSlice 130 2 #[(0, .string a), (1, .string b)]).run Tryz.prog w = .ok (.slice (some ⟨w.heap.size, 0, none⟩) 2 2) (w.alloc (.cells #[.string a, .string b] 128)) := by kernel_rfl
section
variable {E : Env} {T : Tab} {O : Go.Vc.Own} {d : Option Nat} {ty : TypeId} {pos : String} {af : Array Edge} {g : Option (Nat × Bool)}
theorem g_two {x y : Operand} {a b : Int} (hx : T.ev x = .av (vI a)) (hy : T.ev y = .av (vI b)) : GV Tryz.prog E ⟨d, .buildSlice 130 2 #[(0, x), (1, y)], ty, pos, af, g⟩ T O (.av (.sl 2 1 (fun i _ => vI (two a b i)))) [] [] :=
 g_bslice (is := [0, 1]) (xs := [x, y]) (vs := [.string (bs (itoa a)), .string (bs (itoa b))]) (us := [.string (bs (itoa a)), .string (bs (itoa b))]) (tq130_2 _ _) rfl (by simp only [List.map_cons, List.map_nil, hx, hy]) rfl (fun i hi j hj => by
  obtain rfl : j = 0 := zO
  rcases (by omega : i = 0 ∨ i = 1) with rfl | rfl <;> exact ⟨_, rfl, rfl⟩)
end
theorem wof_c (n : Int) (h : -9223372036854775808 ≤ n ∧ n ≤ 9223372036854775807) : CtrA Tryz.prog 123 [vi n] (vI n) := by
 have h1 := itoa_c n h
 refine ctrA _ Tryz.func123 rfl rfl Tryz.ntmps123 rfl fun w Z => ?_
 refine zU ?_
 refine wk ?_
 exact zV
theorem result_c (n : Int) (h : -9223372036854775808 ≤ n ∧ n ≤ 9223372036854775807) : CtrA Tryz.prog 237 [vi n] (tupOf [vI n, vi 0]) := by
 have h1 := wof_c n h
 refine ctrA _ Tryz.func237 rfl rfl Tryz.ntmps237 rfl fun w Z => ?_
 refine zU ?_
 refine wk ?_
 exact zW
theorem itoa_hd (m : Int) : ∃ b r, itoa m = b :: r ∧ ((b.toNat : Int) == 45) = decide (m < 0) := by
 by_cases h : m < 0
 ·exact ⟨45, _, itoa_neg h, by rw [decide_eq_true h]; rfl⟩
 ·obtain ⟨b, r, e, hd⟩ := dec_cons m.natAbs
  refine ⟨b, r, by rw [itoa_pos h, e], ?_⟩
  rw [decide_eq_false h, beq_eq_false_iff_ne]
  exact fun e => dig45 hd ((u8eq b 45).1 e)
theorem sign_c (m : Int) : CtrA Tryz.prog 187 [vI m] (vi (sgn m)) := by
 have h0 := itoa_is0 m
 obtain ⟨b, r, e, hb⟩ := itoa_hd m
 by_cases hz : m = 0
 ·rw [decide_eq_true hz] at h0
  refine ctrA _ Tryz.func187 rfl rfl Tryz.ntmps187 rfl fun w Z => ?_
  refine zU ?_
  refine wk ?_
  rw [h0]
  refine wk ?_
  exact sq_res1 rfl (.tmp rfl) (congrArg vi (by unfold sgn; rw [if_pos hz]))
 ·rw [decide_eq_false hz] at h0
  by_cases hn : m < 0
  ·rw [decide_eq_true hn] at hb
   refine ctrA _ Tryz.func187 rfl rfl Tryz.ntmps187 rfl fun w Z => ?_
   refine zU ?_
   refine wk ?_
   rw [h0]
   refine wk ?_
   refine sq_g (g_sidx (b := b) rfl rfl rfl (by rw [e]; rfl)) rfl ?_
   refine wk ?_
   rw [hb]
   refine wk ?_
   exact sq_res1 rfl (.tmp rfl) (congrArg vi (by unfold sgn; rw [if_neg hz, if_pos hn]))
  ·rw [decide_eq_false hn] at hb
   refine ctrA _ Tryz.func187 rfl rfl Tryz.ntmps187 rfl fun w Z => ?_
   refine zU ?_
   refine wk ?_
   rw [h0]
   refine wk ?_
   refine sq_g (g_sidx (b := b) rfl rfl rfl (by rw [e]; rfl)) rfl ?_
   refine wk ?_
   rw [hb]
   refine wk ?_
   exact sq_res1 rfl (.tmp rfl) (congrArg vi (by unfold sgn; rw [if_neg hz, if_neg hn]))
theorem compareB : ∀ {a b : List UInt8}, a.length = b.length → (∀ x ∈ a, isD x) → (∀ x ∈ b, isD x) → Lib.compareBytes a b = sgn ((dv a : Int) - dv b)
 |[], [], _, _, _ => rfl
 |x :: a, y :: b, hl, ha, hb => by
  have hl' : a.length = b.length := by simpa using hl
  have ih := compareB hl' (fun z hz => ha z (by simp [hz])) (fun z hz => hb z (by simp [hz]))
  have h1 := dgI (ha x (by simp))
  have h2 := dgI (hb y (by simp))
  have l1 := dv_lt a fun z hz => ha z (by simp [hz])
  have l2 := dv_lt b fun z hz => hb z (by simp [hz])
  rw [← hl'] at l2
  rw [dv_cons, dv_cons, ← hl']
  unfold Lib.compareBytes
  generalize hp : 10 ^ a.length = p at l1 l2 ⊢
  rcases Nat.lt_trichotomy x.toNat y.toNat with h | h | h
  ·have h3 : (x.toNat - 48 + 1) * p ≤ (y.toNat - 48) * p := Nat.mul_le_mul_right _ zO
   rw [Nat.add_mul] at h3
   have hx : x < y := h
   rw [if_pos hx]
   unfold sgn
   rw [if_neg (by omega), if_pos (by omega)]
  ·have : x = y := UInt8.toNat_inj.1 h
   subst this
   have hx : ¬ x < x := Nat.lt_irrefl _
   rw [if_neg hx, if_neg hx, ih]
   congr 1; omega
  ·have h3 : (y.toNat - 48 + 1) * p ≤ (x.toNat - 48) * p := Nat.mul_le_mul_right _ zO
   rw [Nat.add_mul] at h3
   have hx : ¬ x < y := Nat.not_lt.2 (Nat.le_of_lt h)
   have hy : y < x := h
   rw [if_neg hx, if_pos hy]
   unfold sgn
   rw [if_neg (by omega), if_neg (by omega)]
theorem worder_c (u v : Nat) : CtrA Tryz.prog 228 [vS (decDigits u), vS (decDigits v)] (vi (sgn ((u : Int) - v))) := by
 have h1 := compare_c (decDigits u) (decDigits v)
 by_cases hl : (decDigits u).length = (decDigits v).length
 ·rw [compareB hl (dec_dig u) (dec_dig v), dv_dec, dv_dec] at h1
  refine ctrA _ Tryz.func228 rfl rfl Tryz.ntmps228 rfl fun w Z => ?_
  refine zU ?_
  refine wk ?_
  (refine cq_cond rfl ?_ ?_ <;> intro hb <;> (try simp only [zA, zB, zG, zC, zD, zN] at hb) <;> (try (exfalso; omega)))
  refine wk ?_
  exact zV
 ·refine ctrA _ Tryz.func228 rfl rfl Tryz.ntmps228 rfl fun w Z => ?_
  refine zU ?_
  refine wk ?_
  (refine cq_cond rfl ?_ ?_ <;> intro hb <;> (try simp only [zA, zB, zG, zC, zD, zN] at hb) <;> (try (exfalso; omega)))
  refine wk ?_
  (refine cq_cond rfl ?_ ?_ <;> intro hb <;> (try simp only [zA, zB, zG, zC, zD, zN] at hb) <;> (try (exfalso; omega)))
  ·refine wk ?_
   have := dec_lt_len (u := u) (v := v) zO
   exact sq_res1 rfl (.tmp rfl) (congrArg vi (by unfold sgn; rw [if_neg (by omega), if_pos (by omega)]))
  ·refine wk ?_
   have := dec_lt_len (u := v) (v := u) zO
   exact sq_res1 rfl (.tmp rfl) (congrArg vi (by unfold sgn; rw [if_neg (by omega), if_neg (by omega)]))
theorem trimp_i (m : Int) : CtrA Tryz.prog 225 [vI m, vS [45]] (vS (decDigits m.natAbs)) := by
 have := trimp_c (itoa m)
 rwa [szL_itoa] at this
theorem sgn_mul_abs {m n : Int} (h : sgn m = sgn n) : sgn m * sgn ((m.natAbs : Int) - n.natAbs) = sgn (m - n) := by
 unfold sgn at *
 split at h
 ·split at h
  ·simp_all
  ·split at h <;> simp at h
 ·split at h
  ·split at h
   ·simp at h
   ·split at h
    ·rw [if_neg (by assumption), if_pos (by assumption)]
     by_cases e : m = n
     ·rw [if_pos (by omega), if_pos (by omega)]; rfl
     ·by_cases l : m < n
      ·rw [if_neg (by omega), if_neg (by omega), if_neg (by omega), if_pos (by omega)]; rfl
      ·rw [if_neg (by omega), if_pos (by omega), if_neg (by omega), if_neg (by omega)]; rfl
    ·simp at h
  ·split at h
   ·simp at h
   ·split at h
    ·simp at h
    ·rw [if_neg (by assumption), if_neg (by assumption)]
     by_cases e : m = n
     ·rw [if_pos (by omega), if_pos (by omega)]; rfl
     ·by_cases l : m < n
      ·rw [if_neg (by omega), if_pos (by omega), if_neg (by omega), if_pos (by omega)]; rfl
      ·rw [if_neg (by omega), if_neg (by omega), if_neg (by omega), if_neg (by omega)]; rfl
theorem wcompare_c (m n : Int) (hm : LI 1000 m) (hn : LI 1000 n) : CtrA Tryz.prog 174 [vI m, vI n] (tupOf [vi (sgn (m - n)), vi 0]) := by
 have h0 := all_c 2 (two m n) zE (fun i hi => by rcases (by omega : i = 0 ∨ i = 1) with rfl | rfl <;> assumption)
 have h1 := sign_c m
 have h2 := sign_c n
 have h3 := trimp_i m
 have h4 := trimp_i n
 have h5 := worder_c m.natAbs n.natAbs
 have s3 : ∀ k : Int, sgn k = 0 ∨ sgn k = 1 ∨ sgn k = -1 := fun k => by unfold sgn; split; exact .inl rfl; split; exact .inr (.inr rfl); exact .inr (.inl rfl)
 have r1 := s3 m
 have r2 := s3 n
 have r3 := s3 ((m.natAbs : Int) - n.natAbs)
 have hlt : sgn m < sgn n → sgn (m - n) = -1 := fun h => by
  unfold sgn at *
  split at h <;> split at h <;> (try split at h) <;> (try split at h) <;> (try omega) <;> rw [if_neg (by omega), if_pos (by omega)]
 have hgt : sgn n < sgn m → sgn (m - n) = 1 := fun h => by
  unfold sgn at *
  split at h <;> split at h <;> (try split at h) <;> (try split at h) <;> (try omega) <;> rw [if_neg (by omega), if_neg (by omega)]
 have heq := sgn_mul_abs (m := m) (n := n)
 have hmul : -1 ≤ sgn m * sgn ((m.natAbs : Int) - n.natAbs) ∧ sgn m * sgn ((m.natAbs : Int) - n.natAbs) ≤ 1 := by
  rcases r1 with e | e | e <;> rcases r3 with e' | e' | e' <;> rw [e, e'] <;> decide
 refine ctrA _ Tryz.func174 rfl rfl Tryz.ntmps174 rfl fun w Z => ?_
 refine zU ?_
 refine wk ?_
 refine sq_g (g_two rfl rfl) rfl ?_
 refine wk ?_
 generalize sgn m = s at *
 generalize sgn n = t at *
 generalize sgn ((m.natAbs : Int) - n.natAbs) = q at *
 (refine cq_cond rfl ?_ ?_ <;> intro hb <;> (try simp only [zA, zB, zG, zC, zD, zN] at hb) <;> (try (exfalso; omega)))
 ·refine wk ?_
  exact sq_resN (rvs := [_, _]) (τs := [_, _]) rfl rfl ⟨.tmp rfl, .tmp rfl, trivial⟩ (by rw [hlt (by omega)])
 ·refine wk ?_
  (refine cq_cond rfl ?_ ?_ <;> intro hb <;> (try simp only [zA, zB, zG, zC, zD, zN] at hb) <;> (try (exfalso; omega)))
  ·refine wk ?_
   exact sq_resN (rvs := [_, _]) (τs := [_, _]) rfl rfl ⟨.tmp rfl, .tmp rfl, trivial⟩ (by rw [hgt (by omega)])
  ·refine wk ?_
   exact sq_resN (rvs := [_, _]) (τs := [_, _]) rfl rfl ⟨.tmp rfl, .tmp rfl, trivial⟩ (by rw [heq (by omega)])
end Go.Proofs.YtgepmbjmaljgoaaGreatDoor
end
namespace Go.Na
open Go.Lib
def wd (V : Nat) (i : Nat) : Int := ((V / 1000000000 ^ i % 1000000000 : Nat) : Int)
def nw (V : Nat) : Nat := if h : V = 0 then 0 else nw (V / 1000000000) + 1
termination_by V
decreasing_by omega
theorem nw_zero : nw 0 = 0 := by rw [nw]; simp
theorem nw_pos {V : Nat} (h : V ≠ 0) : nw V = nw (V / 1000000000) + 1 := by rw [nw, dif_neg h]
theorem wd_rng (V i : Nat) : 0 ≤ wd V i ∧ wd V i < B := by
 unfold wd
 have := Nat.mod_lt (V / 1000000000 ^ i) (show 1000000000 > 0 by decide)
 show 0 ≤ ((V / 1000000000 ^ i % 1000000000 : Nat) : Int) ∧ ((V / 1000000000 ^ i % 1000000000 : Nat) : Int) < 1000000000
 omega
theorem wd_succ (V i : Nat) : wd V (i + 1) = wd (V / 1000000000) i := by
 unfold wd
 rw [Nat.pow_succ, Nat.mul_comm, ← Nat.div_div_eq_div_mul]
theorem wd_zero (V : Nat) : wd V 0 = ((V % 1000000000 : Nat) : Int) := by simp [wd]
theorem lt_nw : ∀ V : Nat, V < 1000000000 ^ nw V := by
 intro V
 induction V using Nat.strongRecOn with
 |_ V ih =>
  by_cases h : V = 0
  ·subst h; exact Nat.pow_pos (by decide)
  ·rw [nw_pos h, Nat.pow_succ]
   have := ih (V / 1000000000) (by omega)
   omega
theorem nw_le {V : Nat} : ∀ {n : Nat}, V < 1000000000 ^ n → nw V ≤ n := by
 induction V using Nat.strongRecOn with
 |_ V ih =>
  intro n hn
  by_cases h : V = 0
  ·subst h; rw [nw_zero]; omega
  ·rw [nw_pos h]
   cases n with
   |zero => simp at hn; exact absurd hn h
   |succ n =>
    rw [Nat.pow_succ] at hn
    have := ih (V / 1000000000) (by omega) (n := n) (by omega)
    omega
theorem nw_eq0 {V : Nat} : nw V = 0 ↔ V = 0 := by
 constructor
 ·intro h
  have := lt_nw V
  rw [h] at this; simpa using this
 ·rintro rfl; exact nw_zero
theorem wd_out {V i : Nat} (h : nw V ≤ i) : wd V i = 0 := by
 have h1 := lt_nw V
 have h2 : V < 1000000000 ^ i := Nat.lt_of_lt_of_le h1 (Nat.pow_le_pow_right (by decide) h)
 unfold wd
 rw [Nat.div_eq_of_lt h2]; rfl
theorem wd_top : ∀ {V : Nat}, V ≠ 0 → wd V (nw V - 1) ≠ 0 := by
 intro V
 induction V using Nat.strongRecOn with
 |_ V ih =>
  intro h
  rw [nw_pos h]
  by_cases h1 : V / 1000000000 = 0
  ·rw [h1, nw_zero]
   show wd V 0 ≠ 0
   rw [wd_zero]
   omega
  ·have := ih (V / 1000000000) (by omega) h1
   have h2 : nw (V / 1000000000) ≠ 0 := fun e => h1 (nw_eq0.1 e)
   rw [show nw (V / 1000000000) + 1 - 1 = (nw (V / 1000000000) - 1) + 1 by omega, wd_succ]
   exact this
theorem vw_wd : ∀ (n V : Nat), V < 1000000000 ^ n → vw (wd V) n = V
 |0, V, h => by simp at h; subst h; rfl
 |n + 1, V, h => by
  have hs : vw (wd V) (n + 1) = vw (wd (V / 1000000000)) n * B + wd V 0 := vw_shift (fun i => wd_succ V i) n
  rw [hs, vw_wd n (V / 1000000000) (by rw [Nat.pow_succ] at h; omega), wd_zero]
  show ((V / 1000000000 : Nat) : Int) * 1000000000 + _ = _
  omega
theorem wd_of {f : Nat → Int} : ∀ {n V : Nat}, (∀ i, 0 ≤ f i) → (∀ i, f i < B) → vw f n = V → ∀ i, i < n → f i = wd V i
 |0, _, _, _, _, i, hi => by omega
 |n + 1, V, h0, h1, hv, i, hi => by
  have hs : vw f (n + 1) = vw (fun i => f (i + 1)) n * B + f 0 := vw_shift (fun i => rfl) n
  rw [hs] at hv
  have a0 := h0 0
  have a1 : f 0 < 1000000000 := h1 0
  have hv' : vw (fun i => f (i + 1)) n * 1000000000 + f 0 = V := hv
  have hn := vw_nonneg (f := fun i => f (i + 1)) (fun i => h0 (i + 1)) n
  generalize hw : vw (fun i => f (i + 1)) n = W at hv' hn
  have hq : W = ((V / 1000000000 : Nat) : Int) := by omega
  cases i with
  |zero => rw [wd_zero]; omega
  |succ i =>
   rw [wd_succ]
   exact wd_of (f := fun i => f (i + 1)) (fun i => h0 (i + 1)) (fun i => h1 (i + 1)) (by rw [hw, hq]) i (by omega)
theorem pow9n (n : Nat) : ((1000000000 ^ n : Nat) : Int) = B ^ n := by simp
theorem wd_up {V d : Nat} (h : d < 1000000000) (i : Nat) : wd (V * 1000000000 + d) i = match i with | 0 => (d : Int) | i + 1 => wd V i := by
 cases i with
 |zero => rw [wd_zero]; show ((_ : Nat) : Int) = (d : Int); omega
 |succ i =>
  rw [wd_succ]
  show wd _ _ = wd _ _
  congr 1; omega
end Go.Na
namespace Go.Na
open Go
theorem wd_inj {V W : Nat} (hn : nw V = nw W) (h : ∀ i, i < nw V → wd V i = wd W i) : V = W := by
 have h1 := vw_wd (nw V) V (lt_nw V)
 have h2 := vw_wd (nw W) W (lt_nw W)
 rw [← hn, ← vw_congr h] at h2
 omega
theorem top_diff (f g : Nat → Int) : ∀ n, (∀ i, i < n → f i = g i) ∨ ∃ j, j < n ∧ f j ≠ g j ∧ ∀ k, j < k → k < n → f k = g k
 |0 => .inl (fun i h => absurd h (Nat.not_lt_zero i))
 |n + 1 => by
  by_cases he : f n = g n
  ·rcases top_diff f g n with h | ⟨j, h1, h2, h3⟩
   ·exact .inl fun i hi => by
     rcases Nat.lt_succ_iff_lt_or_eq.1 hi with h' | rfl
     ·exact h i h'
     ·exact he
   ·exact .inr ⟨j, by omega, h2, fun k h4 h5 => by
     rcases Nat.lt_succ_iff_lt_or_eq.1 h5 with h' | rfl
     ·exact h3 k h4 h'
     ·exact he⟩
  ·exact .inr ⟨n, by omega, he, fun k h4 h5 => by omega⟩
theorem lt_of_top {V W j : Nat} (hn : nw V = nw W) (hj : j < nw V) (hlt : wd V j < wd W j) (h : ∀ k, j < k → k < nw V → wd V k = wd W k) : V < W := by
 have h0 := vw_cmp (f := wd V) (g := wd W) (fun i => (wd_rng V i).1) (fun i => (wd_rng V i).2) (fun i => (wd_rng W i).1) hlt hj h
 rw [vw_wd _ _ (lt_nw V), hn, vw_wd _ _ (lt_nw W)] at h0
 omega
theorem lt_of_nw {V W : Nat} (h : nw V < nw W) : V < W := by
 apply Nat.lt_of_not_le
 intro hle
 have := nw_le (V := W) (n := nw V) (Nat.lt_of_le_of_lt hle (lt_nw V))
 omega
def topd (f g : Nat → Int) : Nat → Int
 |0 => 0
 |n + 1 => if f n ≠ g n then f n - g n else topd f g n
def bey (V W : Nat) : Int := if (nw V : Int) ≠ nw W then nw V - nw W else topd (wd V) (wd W) (nw V)
theorem topd_eq {f g : Nat → Int} {n : Nat} (h : ∀ i, i < n → f i = g i) : topd f g n = 0 := by
 induction n with
 |zero => rfl
 |succ n ih =>
  unfold topd
  rw [if_neg (by simp [h n (by omega)])]
  exact ih fun i hi => h i (by omega)
theorem topd_ne {f g : Nat → Int} {n j : Nat} (hj : j < n) (hne : f j ≠ g j) (h : ∀ k, j < k → k < n → f k = g k) : topd f g n = f j - g j := by
 induction n with
 |zero => omega
 |succ n ih =>
  unfold topd
  by_cases e : n = j
  ·subst e; rw [if_pos hne]
  ·rw [if_neg (by simp [h n (by omega) (by omega)])]
   exact ih (by omega) fun k h1 h2 => h k h1 (by omega)
theorem bey_ge (V W : Nat) : 0 ≤ bey V W ↔ W ≤ V := by
 unfold bey
 by_cases hn : nw V = nw W
 ·rw [if_neg (by omega)]
  rcases top_diff (wd V) (wd W) (nw V) with h | ⟨j, h1, h2, h3⟩
  ·rw [topd_eq h, wd_inj hn h]; simp
  ·rw [topd_ne h1 h2 h3]
   rcases Int.lt_or_gt_of_ne h2 with h | h
   ·have := lt_of_top hn h1 h h3
    omega
   ·have := lt_of_top hn.symm (by omega) h (fun k h4 h5 => (h3 k h4 (by omega)).symm)
    omega
 ·rw [if_pos (by omega)]
  rcases Nat.lt_or_gt_of_ne hn with h | h
  ·have := lt_of_nw h; omega
  ·have := lt_of_nw h; omega
def topw (V : Nat) (i : Nat) : Int := if i < nw V then wd V i else 0
theorem topw_rng (V i : Nat) : 0 ≤ topw V i ∧ topw V i ≤ 999999999 := by
 have r1 := wd_rng V i
 have : Na.B = 1000000000 := rfl
 unfold topw; split <;> omega
theorem topw_eq (V i : Nat) : topw V i = wd V i := by
 unfold topw; split
 ·rfl
 ·rw [wd_out (by omega)]
def estb (W : Nat) : Int := if 1 < nw W then topw W (nw W - 1) + 1 else topw W (nw W - 1)
def estq (V W : Nat) : Int := (topw V (nw W) * 1000000000 + topw V (nw W - 1)) / estb W
def est (V W : Nat) : Int := if 0 < estq V W then (if 999999999 < estq V W then 999999999 else estq V W) else 1
theorem estb_pos {W : Nat} (h : W ≠ 0) : 0 < estb W := by
 have h1 := wd_top h
 have h2 := wd_rng W (nw W - 1)
 unfold estb
 rw [topw_eq]
 split <;> omega
theorem est_ok {V W : Nat} (hW : W ≠ 0) (hle : W ≤ V) : 1 ≤ est V W ∧ est V W ≤ 999999999 ∧ est V W * W ≤ V := by
 have hb := estb_pos hW
 have hn := nw_pos hW
 have hV : V < 1000000000 ^ (nw V + nw W + 2) := Nat.lt_of_lt_of_le (lt_nw V) (Nat.pow_le_pow_right (by decide) (by omega))
 have e1 := vw_wd _ _ hV
 have e2 : vw (wd W) (nw W - 1 + 1) = W := by
  have : nw W - 1 + 1 = nw W := by omega
  rw [this]; exact vw_wd _ _ (lt_nw W)
 have hB : estb W = if nw W - 1 = 0 then wd W (nw W - 1) else wd W (nw W - 1) + 1 := by
  unfold estb
  rw [topw_eq]
  by_cases h : 1 < nw W
  ·rw [if_pos h, if_neg (by omega)]
  ·rw [if_neg h, if_pos (by omega)]
 have key := fun k h0 h1 => est_le (f := wd V) (g := wd W) (n := nw W - 1) (N := nw V + nw W + 2) (b := estb W) (k := k) (fun i => (wd_rng V i).1) (fun i => (wd_rng W i).1) (fun i => (wd_rng W i).2) (by omega) hB hb h0 h1
 have ew : nw W - 1 + 1 = nw W := by omega
 rw [e1, e2, ew, ← topw_eq, ← topw_eq] at key
 change ∀ k, 0 ≤ k → k ≤ estq V W → k * W ≤ V at key
 unfold est
 split
 ·split
  ·exact ⟨by omega, by omega, key _ (by omega) (by omega)⟩
  ·exact ⟨by omega, by omega, key _ (by omega) (by omega)⟩
 ·refine ⟨by omega, by omega, by omega⟩
end Go.Na
namespace Go.Proofs.YtgepmbjmaljgoaaGreatDoor
open Go Go.Vc Go.RowKit Go.Na Go.Lib
set_option maxHeartbeats 4000000
theorem beyond_c (V W : Nat) (b c : Bool) (hV : nw V ≤ 232) (hW : nw W ≤ 232) : CtrA Tryz.prog 273 [wA b (nw V) (wd V), wA c (nw W) (wd W)] (vi (bey V W)) := by
 refine ctrA _ Tryz.func273 rfl rfl Tryz.ntmps273 rfl fun w Z => ?_
 refine zU ?_
 refine wl ?_
 (refine cq_cond rfl ?_ ?_ <;> intro hb <;> (try simp only [zA, zB, zG, zC, zD, zN] at hb) <;> (try (exfalso; omega)))
 ·refine wl ?_
  exact sq_res1 rfl (.tmp rfl) (congrArg vi (by unfold bey; rw [if_pos (by omega)]))
 ·refine wl ?_
  refine cq_loop (γ := Nat) (fun (i : Nat) => [(0, .av (wA b (nw V) (wd V))), (1, .av (wA c (nw W) (wd W))), (4, .av (vi 0)), (5, .av (vi ((i : Int) - 1)))]) (fun _ => []) (fun i => i ≤ nw V ∧ topd (wd V) (wd W) (nw V) = topd (wd V) (wd W) i) (fun i => i) (nw V) ⟨by omega, rfl⟩ (ent zS trivial) ?_
  rintro i ⟨hi, ht⟩
  refine wl ?_
  (refine cq_cond rfl ?_ ?_ <;> intro hb <;> (try simp only [zA, zB, zG, zC, zD, zN] at hb) <;> (try (exfalso; omega)))
  ·obtain ⟨k, rfl⟩ : ∃ k, i = k + 1 := ⟨i - 1, by omega⟩
   have r1 := wd_rng V k
   have r2 := wd_rng W k
   have : Na.B = 1000000000 := rfl
   have e : ((k + 1 : Nat) : Int) - 1 = k := by omega
   rw [e]
   refine wl ?_
   (refine cq_cond rfl ?_ ?_ <;> intro hb <;> (try simp only [zA, zB, zG, zC, zD, zN] at hb) <;> (try (exfalso; omega)))
   ·refine wl ?_
    exact sq_res1 rfl (.tmp rfl) (congrArg vi (by unfold bey; rw [if_neg (by omega), ht, topd, if_pos (by assumption)]))
   ·refine wl ?_
    exact sq_round k ⟨by omega, by rw [ht, topd, if_neg (by omega)]⟩ (by omega) (ent zS trivial)
  ·obtain rfl : i = 0 := by omega
   refine wl ?_
   exact sq_res1 rfl (.tmp rfl) (congrArg vi (by unfold bey; rw [if_neg (by omega), ht]; rfl))
theorem topw_c (V : Nat) (b : Bool) (hV : nw V ≤ 232) (i : Int) (k : Nat) (hi : i = k) : CtrA Tryz.prog 299 [wA b (nw V) (wd V), vi i] (vi (topw V k)) := by
 subst hi
 have r1 := wd_rng V k
 refine ctrA _ Tryz.func299 rfl rfl Tryz.ntmps299 rfl fun w Z => ?_
 refine zU ?_
 refine wl ?_
 (refine cq_cond rfl ?_ ?_ <;> intro hb <;> (try simp only [zA, zB, zG, zC, zD, zN] at hb) <;> (try (exfalso; omega)))
 ·refine wl ?_
  exact sq_res1 rfl (.tmp rfl) (congrArg vi (by unfold topw; rw [if_neg (by omega)]))
 ·refine wl ?_
  exact sq_res1 rfl (.tmp rfl) (congrArg vi (by unfold topw; rw [if_pos (by omega)]))
theorem estimate_c (V W : Nat) (b c : Bool) (hV : nw V ≤ 232) (hW : nw W ≤ 232) (h0 : W ≠ 0) : CtrA Tryz.prog 274 [wA b (nw V) (wd V), wA c (nw W) (wd W)] (vi (est V W)) := by
 have hn := nw_pos h0
 have h1 := topw_c V b hV (nw W) (nw W) rfl
 have h2 := topw_c V b hV (nw W - 1) (nw W - 1) zO
 have h3 := topw_c W c hW (nw W - 1) (nw W - 1) zO
 have r1 := topw_rng V (nw W)
 have r2 := topw_rng V (nw W - 1)
 have r3 := topw_rng W (nw W - 1)
 have hpos := estb_pos h0
 refine ctrA _ Tryz.func274 rfl rfl Tryz.ntmps274 rfl fun w Z => ?_
 refine zU ?_
 refine wl ?_
 (refine cq_cond rfl ?_ ?_ <;> intro hb <;> (try simp only [zA, zB, zG, zC, zD, zN] at hb) <;> (try (exfalso; omega)))
 ·have he : estq V W = (topw V (nw W) * 1000000000 + topw V (nw W - 1)) / (topw W (nw W - 1) + 1) := by unfold estq estb; rw [if_pos (by omega)]
  refine wl ?_
  rw [← he]
  (refine cq_cond rfl ?_ ?_ <;> intro hb <;> (try simp only [zA, zB, zG, zC, zD, zN] at hb) <;> (try (exfalso; omega)))
  ·refine wl ?_
   exact sq_res1 rfl (.tmp rfl) (congrArg vi (by unfold est; rw [he]; exact (if_pos (by omega)).symm))
  ·refine wl ?_
   exact sq_res1 rfl (.tmp rfl) (congrArg vi (by unfold est; rw [he]; exact (if_neg (by omega)).symm))
 ·have he : estq V W = (topw V (nw W) * 1000000000 + topw V (nw W - 1)) / topw W (nw W - 1) := by unfold estq estb; rw [if_neg (by omega)]
  unfold estb at hpos
  rw [if_neg (by omega)] at hpos
  refine wl ?_
  rw [← he]
  (refine cq_cond rfl ?_ ?_ <;> intro hb <;> (try simp only [zA, zB, zG, zC, zD, zN] at hb) <;> (try (exfalso; omega)))
  ·refine wl ?_
   exact sq_res1 rfl (.tmp rfl) (congrArg vi (by unfold est; rw [he]; exact (if_pos (by omega)).symm))
  ·refine wl ?_
   exact sq_res1 rfl (.tmp rfl) (congrArg vi (by unfold est; rw [he]; exact (if_neg (by omega)).symm))
end Go.Proofs.YtgepmbjmaljgoaaGreatDoor
namespace Go.Na
open Go Go.Vc
structure CI (V W u : Nat) (c : Int) (i : Nat) (r : Int) (n : Nat) (f : Nat → Int) : Prop where
 lo : ∀ k, 0 ≤ f k
 hi : ∀ k, f k < B
 out : ∀ k, n ≤ k → f k = 0
 nle : n ≤ 232
 val : vw f 232 + r * B ^ (i + u) = V + c * vw (wd W) i * B ^ u
 rest : -B ≤ r ∧ r ≤ B
 iu : i + u ≤ 232
theorem CI.zero {V W u : Nat} {c : Int} (hV : nw V ≤ 232) (hu : u ≤ 232) : CI V W u c 0 0 (nw V) (wd V) :=
 ⟨fun k => (wd_rng V k).1, fun k => (wd_rng V k).2, fun k hk => wd_out hk, hV, by
  rw [vw_wd 232 V (Nat.lt_of_lt_of_le (lt_nw V) (Nat.pow_le_pow_right (by decide) hV))]
  simp [vw], by decide, by omega⟩
theorem CI.step {V W u : Nat} {c : Int} {i : Nat} {r : Int} {n : Nat} {f : Nat → Int} (h : CI V W u c i r n f) (hlt : i + u < 232) (hc : -999999999 ≤ c ∧ c ≤ 999999999) {s t r' : Int} (hs : s = f (i + u) + r + c * wd W i) (ht : t + r' * 1000000000 = s) (h0 : 0 ≤ t) (h1 : t < 1000000000) (n' : Nat) (hn1 : i + u + 1 ≤ n') (hn2 : n ≤ n') (hn3 : n' ≤ 232) :
  CI V W u c (i + 1) r' n' (upd f (i + u) t) := by
 have hw := wd_rng W i
 have hl := h.lo (i + u)
 have hh := h.hi (i + u)
 have hr := h.rest
 have hB : B = 1000000000 := rfl
 rw [hB] at hw hh hr
 have p1 : -(999999999 * 999999999) ≤ c * wd W i ∧ c * wd W i ≤ 999999999 * 999999999 := by
  have a1 : c * wd W i ≤ 999999999 * wd W i := Int.mul_le_mul_of_nonneg_right hc.2 hw.1
  have a2 : -999999999 * wd W i ≤ c * wd W i := Int.mul_le_mul_of_nonneg_right hc.1 hw.1
  omega
 refine ⟨fun k => ?_, fun k => ?_, fun k hk => ?_, hn3, ?_, by rw [hB]; omega, by omega⟩
 ·unfold upd; split
  ·exact h0
  ·exact h.lo k
 ·unfold upd; split
  ·rw [hB]; exact h1
  ·exact h.hi k
 ·unfold upd; rw [if_neg (by omega)]; exact h.out k (by omega)
 ·exact carry_step hlt h.val hs (by rw [upd_same, hB]; exact ht) (fun k hk => upd_other _ _ hk)
theorem CI.end0 {V W u : Nat} {c : Int} {i : Nat} {r : Int} {n : Nat} {f : Nat → Int} (h : CI V W u c i r n f) (hi : nw W ≤ i) {R : Nat} (hR : (R : Int) = V + c * W * B ^ u) (hR2 : nw R ≤ 232) (he : i + u = 232) : r = 0 := by
 have hw : vw (wd W) i = W := vw_wd i W (Nat.lt_of_lt_of_le (lt_nw W) (Nat.pow_le_pow_right zE hi))
 have hv := h.val
 rw [hw, ← hR, he] at hv
 have hlt : (R : Int) < B ^ 232 := by
  have := Nat.lt_of_lt_of_le (lt_nw R) (Nat.pow_le_pow_right zE hR2)
  rw [← pow9n]
  exact Int.ofNat_lt.2 this
 exact rest_zero (j := 232) (m := 232) (n := 232) h.lo h.hi (fun k hk => h.out k (by have := h.nle; omega)) (Nat.le_refl _) zO hlt (Nat.le_refl _) hv
theorem CI.fin {V W u : Nat} {c : Int} {i : Nat} {n : Nat} {f : Nat → Int} (h : CI V W u c i 0 n f) (hi : nw W ≤ i) {R : Nat} (hR : (R : Int) = V + c * W * B ^ u) (hR2 : nw R ≤ 232) : f = wd R ∧ nw R ≤ n := by
 have hw : vw (wd W) i = W := vw_wd i W (Nat.lt_of_lt_of_le (lt_nw W) (Nat.pow_le_pow_right zE hi))
 have hv := h.val
 rw [hw, ← hR, Int.zero_mul, Int.add_zero] at hv
 have e : f = wd R := by
  funext k
  by_cases hk : k < 232
  ·exact wd_of h.lo h.hi hv k hk
  ·rw [h.out k (by have := h.nle; omega), wd_out (by omega)]
 refine ⟨e, ?_⟩
 apply Nat.le_of_not_lt
 intro hlt
 have hR0 : R ≠ 0 := fun e => by rw [e, nw_zero] at hlt; omega
 have := wd_top hR0
 rw [← e, h.out _ (by omega)] at this
 exact this rfl
end Go.Na
namespace Go.Proofs.YtgepmbjmaljgoaaGreatDoor
open Go Go.Vc Go.RowKit Go.Na Go.Lib
set_option maxHeartbeats 4000000
theorem trimmed_c (b : Bool) (n m : Nat) (f : Nat → Int) (hmn : m ≤ n) (hn : n ≤ 232) (hz : ∀ i, m ≤ i → i < n → f i = 0) (ht : m = 0 ∨ f (m - 1) ≠ 0) : CtrH Tryz.prog 272 [.own 1000 0] [(1000, .wi b n f)] (.own 1000 0) [(1000, .wi b m f)] := by
 refine ctrH _ Tryz.func272 rfl rfl Tryz.ntmps272 rfl rfl fun w Z ν => ?_
 refine zU ?_
 refine wl ?_
 refine cq_loop (γ := Nat) (fun (i : Nat) => [(0, .own 1000 0)]) (fun (i : Nat) => [(1000, .wi b i f)]) (fun i => m ≤ i ∧ i ≤ n) (fun i => i) n ⟨by omega, by omega⟩ (ent ⟨.refl _, trivial⟩ zT) ?_
 rintro i ⟨h1, h2⟩
 refine wl ?_
 (first | refine sq_split rfl rfl ?_ ?_ | refine dq_split rfl rfl ?_ ?_) <;> intro hb <;> (try simp only [zA, zB, zG, zC, zD, zN] at hb) <;> (try (exfalso; omega))
 ·refine wl ?_
  have e : ((i : Int) - 1).toNat = i - 1 := by omega
  rw [e]
  refine wl ?_
  (refine cq_cond rfl ?_ ?_ <;> intro hb <;> (try simp only [zA, zB, zG, zC, zD, zN] at hb) <;> (try (exfalso; omega)))
  ·refine wl ?_
   exact sq_round (i - 1) ⟨by by_cases h : i = m
                              · subst h; exact absurd hb (by rcases ht with h | h; exact absurd h zO; exact h)
                              · omega, by omega⟩ (by omega) (ent ⟨.refl _, trivial⟩ ⟨⟨_, rfl, by rw [show ((i - 1 : Nat) : Int) = (i : Int) - 1 by omega]; exact .refl _⟩, trivial⟩)
  ·obtain rfl : i = m := (by
    apply Classical.byContradiction
    intro hne
    exact hb (hz _ zO zO))
   refine wl ?_
   exact sq_retH rfl rfl rfl
 ·obtain rfl : i = m := zO
  refine wl ?_
  exact sq_retH rfl rfl rfl
theorem carry_o (b b' : Bool) (V W R u : Nat) (c : Int) (hV : nw V ≤ 232) (hW : nw W + u ≤ 232) (hR2 : nw R ≤ 232) (hc : -999999999 ≤ c ∧ c ≤ 999999999) (hR : (R : Int) = V + c * W * Na.B ^ u) :
  CtrH Tryz.prog 275 [.own 1000 0, .own 1001 0, .av (vi c), .av (vi u)] [(1000, .wi b (nw V) (wd V)), (1001, .wi b' (nw W) (wd W))] (.av .any) [(1000, .wi b (nw R) (wd R)), (1001, .wi b' (nw W) (wd W))] := by
 refine ctrH _ Tryz.func275 rfl rfl Tryz.ntmps275 rfl rfl fun w Z ν => ?_
 refine zU ?_
 refine wl ?_
 refine cq_loop (γ := Nat × Int × Nat × (Nat → Int)) (fun q => [(0, .own 1000 0), (1, .own 1001 0), (2, .av (vi c)), (3, .av (vi u)), (8, .av (vi q.2.1)), (9, .av (vi q.1))]) (fun q => [(1000, .wi b q.2.2.1 q.2.2.2), (1001, .wi b' (nw W) (wd W))]) (fun q => CI V W u c q.1 q.2.1 q.2.2.1 q.2.2.2) (fun q => 232 - q.1) (0, 0, nw V, wd V) (CI.zero hV zO) (ent zS zT) ?_
 rintro ⟨i, r, n, f⟩ h
 dsimp only at h
 have hiu := h.iu
 have hl := h.lo (i + u)
 have hh := h.hi (i + u)
 have hr := h.rest
 have hn := h.nle
 have hw := wd_rng W i
 have hB : Na.B = 1000000000 := rfl
 rw [hB] at hh hr hw
 have p1 : -(999999999 * 999999999) ≤ c * wd W i ∧ c * wd W i ≤ 999999999 * 999999999 := by
  have a1 : c * wd W i ≤ 999999999 * wd W i := Int.mul_le_mul_of_nonneg_right hc.2 hw.1
  have a2 : -999999999 * wd W i ≤ c * wd W i := Int.mul_le_mul_of_nonneg_right hc.1 hw.1
  omega
 have hmx : ((max n (i + u + 1) : Nat) : Int) = if (n : Int) < (i : Int) + u + 1 then (i : Int) + u + 1 else n := by split <;> omega
 dsimp only
 refine wl ?_
 (first | refine sq_split rfl rfl ?_ ?_ | refine dq_split rfl rfl ?_ ?_) <;> intro hb <;> (try simp only [zA, zB, zG, zC, zD, zN] at hb) <;> (try (exfalso; omega))
 ·have hlt : i + u < 232 := by omega
  have hq := carry_digit (f (i + u) + r + c * wd W i)
  dsimp only at hq
  rw [hB] at hq
  refine wl ?_
  (refine cq_cond rfl ?_ ?_ <;> intro hb <;> (try simp only [zA, zB, zG, zC, zD, zN] at hb) <;> (try (exfalso; omega)))
  refine wl ?_
  (refine cq_cond rfl ?_ ?_ <;> intro hb <;> (try simp only [zA, zB, zG, zC, zD, zN] at hb) <;> (try (exfalso; omega)))
  ·refine wl ?_
   exact sq_round (g := (i, r, n, f)) (i + 1, (f (i + u) + r + c * wd W i).tdiv 1000000000 - 1, max n (i + u + 1), upd f (i + u) (f (i + u) + r + c * wd W i - (f (i + u) + r + c * wd W i).tdiv 1000000000 * 1000000000 + 1000000000)) (CI.step h hlt hc (s := f (i + u) + r + c * wd W i) (t := f (i + u) + r + c * wd W i - (f (i + u) + r + c * wd W i).tdiv 1000000000 * 1000000000 + 1000000000) (r' := (f (i + u) + r + c * wd W i).tdiv 1000000000 - 1) rfl (by omega) (by omega) (by omega) (max n (i + u + 1)) (by omega) (by omega) (by omega)) (by show 232 - (i + 1) < 232 - i; omega) (ent ⟨.refl _, .refl _, .refl _, .refl _, .refl _, .int (by show (i : Int) + 1 = ((i + 1 : Nat) : Int); omega), trivial⟩ ⟨⟨_, rfl, by rw [hmx]; exact .refl _⟩, ⟨_, rfl, .refl _⟩, trivial⟩)
  ·refine wl ?_
   exact sq_round (g := (i, r, n, f)) (i + 1, (f (i + u) + r + c * wd W i).tdiv 1000000000, max n (i + u + 1), upd f (i + u) (f (i + u) + r + c * wd W i - (f (i + u) + r + c * wd W i).tdiv 1000000000 * 1000000000)) (CI.step h hlt hc (s := f (i + u) + r + c * wd W i) (t := f (i + u) + r + c * wd W i - (f (i + u) + r + c * wd W i).tdiv 1000000000 * 1000000000) (r' := (f (i + u) + r + c * wd W i).tdiv 1000000000) rfl (by omega) (by omega) (by omega) (max n (i + u + 1)) (by omega) (by omega) (by omega)) (by show 232 - (i + 1) < 232 - i; omega) (ent ⟨.refl _, .refl _, .refl _, .refl _, .refl _, .int (by show (i : Int) + 1 = ((i + 1 : Nat) : Int); omega), trivial⟩ ⟨⟨_, rfl, by rw [hmx]; exact .refl _⟩, ⟨_, rfl, .refl _⟩, trivial⟩)
 ·refine wl ?_
  (refine cq_cond rfl ?_ ?_ <;> intro hb <;> (try simp only [zA, zB, zG, zC, zD, zN] at hb) <;> (try (exfalso; omega)))
  ·have hlt : i + u < 232 := (by
    apply Classical.byContradiction
    intro hge
    exact hb (h.end0 zO hR hR2 zO))
   have hq := carry_digit (f (i + u) + r)
   dsimp only at hq
   rw [hB] at hq
   refine wl ?_
   (refine cq_cond rfl ?_ ?_ <;> intro hb <;> (try simp only [zA, zB, zG, zC, zD, zN] at hb) <;> (try (exfalso; omega)))
   refine wl ?_
   (refine cq_cond rfl ?_ ?_ <;> intro hb <;> (try simp only [zA, zB, zG, zC, zD, zN] at hb) <;> (try (exfalso; omega)))
   ·refine wl ?_
    exact sq_round (g := (i, r, n, f)) (i + 1, (f (i + u) + r).tdiv 1000000000 - 1, max n (i + u + 1), upd f (i + u) (f (i + u) + r - (f (i + u) + r).tdiv 1000000000 * 1000000000 + 1000000000)) (CI.step h hlt hc (s := f (i + u) + r) (t := f (i + u) + r - (f (i + u) + r).tdiv 1000000000 * 1000000000 + 1000000000) (r' := (f (i + u) + r).tdiv 1000000000 - 1) (by rw [wd_out (V := W) (i := i) (by omega), Int.mul_zero, Int.add_zero]) (by omega) (by omega) (by omega) (max n (i + u + 1)) (by omega) (by omega) (by omega)) (by show 232 - (i + 1) < 232 - i; omega) (ent ⟨.refl _, .refl _, .refl _, .refl _, .refl _, .int (by show (i : Int) + 1 = ((i + 1 : Nat) : Int); omega), trivial⟩ ⟨⟨_, rfl, by rw [hmx]; exact .refl _⟩, ⟨_, rfl, .refl _⟩, trivial⟩)
   ·refine wl ?_
    exact sq_round (g := (i, r, n, f)) (i + 1, (f (i + u) + r).tdiv 1000000000, max n (i + u + 1), upd f (i + u) (f (i + u) + r - (f (i + u) + r).tdiv 1000000000 * 1000000000)) (CI.step h hlt hc (s := f (i + u) + r) (t := f (i + u) + r - (f (i + u) + r).tdiv 1000000000 * 1000000000) (r' := (f (i + u) + r).tdiv 1000000000) (by rw [wd_out (V := W) (i := i) (by omega), Int.mul_zero, Int.add_zero]) (by omega) (by omega) (by omega) (max n (i + u + 1)) (by omega) (by omega) (by omega)) (by show 232 - (i + 1) < 232 - i; omega) (ent ⟨.refl _, .refl _, .refl _, .refl _, .refl _, .int (by show (i : Int) + 1 = ((i + 1 : Nat) : Int); omega), trivial⟩ ⟨⟨_, rfl, by rw [hmx]; exact .refl _⟩, ⟨_, rfl, .refl _⟩, trivial⟩)
  ·refine wl ?_
   subst hb
   obtain ⟨rfl, hle⟩ := h.fin zO hR hR2
   have ht := trimmed_c b n (nw R) (wd R) hle hn (fun i h _ => wd_out h) (by
    by_cases h0 : R = 0
    ·left; rw [h0, nw_zero]
    ·exact .inr (wd_top h0))
   refine sq_v (v_call_h [] ht rfl ⟨rfl, trivial⟩ rfl) rfl ?_
   refine wl ?_
   exact sq_more (T' := []) (O' := [(1000, .wi b (nw R) (wd R)), (1001, .wi b' (nw W) (wd W))]) (ent trivial zT) (sq_endH0 rfl rfl rfl)
theorem carry_z (b b' : Bool) (V W R u : Nat) (c : Int) (hV : nw V ≤ 232) (hW : nw W + u ≤ 232) (hR2 : nw R ≤ 232) (hc : -999999999 ≤ c ∧ c ≤ 999999999) (hR : (R : Int) = V + c * W * Na.B ^ u) :
  CtrH Tryz.prog 275 [.own 1000 0, .av (wA b' (nw W) (wd W)), .av (vi c), .av (vi u)] [(1000, .wi b (nw V) (wd V))] (.av .any) [(1000, .wi b (nw R) (wd R))] := by
 refine ctrH _ Tryz.func275 rfl rfl Tryz.ntmps275 rfl rfl fun w Z ν => ?_
 refine zU ?_
 refine wl ?_
 refine cq_loop (γ := Nat × Int × Nat × (Nat → Int)) (fun q => [(0, .own 1000 0), (1, .av (wA b' (nw W) (wd W))), (2, .av (vi c)), (3, .av (vi u)), (8, .av (vi q.2.1)), (9, .av (vi q.1))]) (fun q => [(1000, .wi b q.2.2.1 q.2.2.2)]) (fun q => CI V W u c q.1 q.2.1 q.2.2.1 q.2.2.2) (fun q => 232 - q.1) (0, 0, nw V, wd V) (CI.zero hV zO) (ent zS zT) ?_
 rintro ⟨i, r, n, f⟩ h
 dsimp only at h
 have hiu := h.iu
 have hl := h.lo (i + u)
 have hh := h.hi (i + u)
 have hr := h.rest
 have hn := h.nle
 have hw := wd_rng W i
 have hB : Na.B = 1000000000 := rfl
 rw [hB] at hh hr hw
 have p1 : -(999999999 * 999999999) ≤ c * wd W i ∧ c * wd W i ≤ 999999999 * 999999999 := by
  have a1 : c * wd W i ≤ 999999999 * wd W i := Int.mul_le_mul_of_nonneg_right hc.2 hw.1
  have a2 : -999999999 * wd W i ≤ c * wd W i := Int.mul_le_mul_of_nonneg_right hc.1 hw.1
  omega
 have hmx : ((max n (i + u + 1) : Nat) : Int) = if (n : Int) < (i : Int) + u + 1 then (i : Int) + u + 1 else n := by split <;> omega
 dsimp only
 refine wl ?_
 (first | refine sq_split rfl rfl ?_ ?_ | refine dq_split rfl rfl ?_ ?_) <;> intro hb <;> (try simp only [zA, zB, zG, zC, zD, zN] at hb) <;> (try (exfalso; omega))
 ·have hlt : i + u < 232 := by omega
  have hq := carry_digit (f (i + u) + r + c * wd W i)
  dsimp only at hq
  rw [hB] at hq
  refine wl ?_
  (refine cq_cond rfl ?_ ?_ <;> intro hb <;> (try simp only [zA, zB, zG, zC, zD, zN] at hb) <;> (try (exfalso; omega)))
  refine wl ?_
  (refine cq_cond rfl ?_ ?_ <;> intro hb <;> (try simp only [zA, zB, zG, zC, zD, zN] at hb) <;> (try (exfalso; omega)))
  ·refine wl ?_
   exact sq_round (g := (i, r, n, f)) (i + 1, (f (i + u) + r + c * wd W i).tdiv 1000000000 - 1, max n (i + u + 1), upd f (i + u) (f (i + u) + r + c * wd W i - (f (i + u) + r + c * wd W i).tdiv 1000000000 * 1000000000 + 1000000000)) (CI.step h hlt hc (s := f (i + u) + r + c * wd W i) (t := f (i + u) + r + c * wd W i - (f (i + u) + r + c * wd W i).tdiv 1000000000 * 1000000000 + 1000000000) (r' := (f (i + u) + r + c * wd W i).tdiv 1000000000 - 1) rfl (by omega) (by omega) (by omega) (max n (i + u + 1)) (by omega) (by omega) (by omega)) (by show 232 - (i + 1) < 232 - i; omega) (ent ⟨.refl _, .refl _, .refl _, .refl _, .refl _, .int (by show (i : Int) + 1 = ((i + 1 : Nat) : Int); omega), trivial⟩ ⟨⟨_, rfl, by rw [hmx]; exact .refl _⟩, trivial⟩)
  ·refine wl ?_
   exact sq_round (g := (i, r, n, f)) (i + 1, (f (i + u) + r + c * wd W i).tdiv 1000000000, max n (i + u + 1), upd f (i + u) (f (i + u) + r + c * wd W i - (f (i + u) + r + c * wd W i).tdiv 1000000000 * 1000000000)) (CI.step h hlt hc (s := f (i + u) + r + c * wd W i) (t := f (i + u) + r + c * wd W i - (f (i + u) + r + c * wd W i).tdiv 1000000000 * 1000000000) (r' := (f (i + u) + r + c * wd W i).tdiv 1000000000) rfl (by omega) (by omega) (by omega) (max n (i + u + 1)) (by omega) (by omega) (by omega)) (by show 232 - (i + 1) < 232 - i; omega) (ent ⟨.refl _, .refl _, .refl _, .refl _, .refl _, .int (by show (i : Int) + 1 = ((i + 1 : Nat) : Int); omega), trivial⟩ ⟨⟨_, rfl, by rw [hmx]; exact .refl _⟩, trivial⟩)
 ·refine wl ?_
  (refine cq_cond rfl ?_ ?_ <;> intro hb <;> (try simp only [zA, zB, zG, zC, zD, zN] at hb) <;> (try (exfalso; omega)))
  ·have hlt : i + u < 232 := (by
    apply Classical.byContradiction
    intro hge
    exact hb (h.end0 zO hR hR2 zO))
   have hq := carry_digit (f (i + u) + r)
   dsimp only at hq
   rw [hB] at hq
   refine wl ?_
   (refine cq_cond rfl ?_ ?_ <;> intro hb <;> (try simp only [zA, zB, zG, zC, zD, zN] at hb) <;> (try (exfalso; omega)))
   refine wl ?_
   (refine cq_cond rfl ?_ ?_ <;> intro hb <;> (try simp only [zA, zB, zG, zC, zD, zN] at hb) <;> (try (exfalso; omega)))
   ·refine wl ?_
    exact sq_round (g := (i, r, n, f)) (i + 1, (f (i + u) + r).tdiv 1000000000 - 1, max n (i + u + 1), upd f (i + u) (f (i + u) + r - (f (i + u) + r).tdiv 1000000000 * 1000000000 + 1000000000)) (CI.step h hlt hc (s := f (i + u) + r) (t := f (i + u) + r - (f (i + u) + r).tdiv 1000000000 * 1000000000 + 1000000000) (r' := (f (i + u) + r).tdiv 1000000000 - 1) (by rw [wd_out (V := W) (i := i) (by omega), Int.mul_zero, Int.add_zero]) (by omega) (by omega) (by omega) (max n (i + u + 1)) (by omega) (by omega) (by omega)) (by show 232 - (i + 1) < 232 - i; omega) (ent ⟨.refl _, .refl _, .refl _, .refl _, .refl _, .int (by show (i : Int) + 1 = ((i + 1 : Nat) : Int); omega), trivial⟩ ⟨⟨_, rfl, by rw [hmx]; exact .refl _⟩, trivial⟩)
   ·refine wl ?_
    exact sq_round (g := (i, r, n, f)) (i + 1, (f (i + u) + r).tdiv 1000000000, max n (i + u + 1), upd f (i + u) (f (i + u) + r - (f (i + u) + r).tdiv 1000000000 * 1000000000)) (CI.step h hlt hc (s := f (i + u) + r) (t := f (i + u) + r - (f (i + u) + r).tdiv 1000000000 * 1000000000) (r' := (f (i + u) + r).tdiv 1000000000) (by rw [wd_out (V := W) (i := i) (by omega), Int.mul_zero, Int.add_zero]) (by omega) (by omega) (by omega) (max n (i + u + 1)) (by omega) (by omega) (by omega)) (by show 232 - (i + 1) < 232 - i; omega) (ent ⟨.refl _, .refl _, .refl _, .refl _, .refl _, .int (by show (i : Int) + 1 = ((i + 1 : Nat) : Int); omega), trivial⟩ ⟨⟨_, rfl, by rw [hmx]; exact .refl _⟩, trivial⟩)
  ·refine wl ?_
   subst hb
   obtain ⟨rfl, hle⟩ := h.fin zO hR hR2
   have ht := trimmed_c b n (nw R) (wd R) hle hn (fun i h _ => wd_out h) (by
    by_cases h0 : R = 0
    ·left; rw [h0, nw_zero]
    ·exact .inr (wd_top h0))
   refine sq_v (v_call_h [] ht rfl ⟨rfl, trivial⟩ rfl) rfl ?_
   refine wl ?_
   exact sq_more (T' := []) (O' := [(1000, .wi b (nw R) (wd R))]) (ent trivial zT) (sq_endH0 rfl rfl rfl)
theorem tb285 : Tryz.prog.built 285 [] = some (wvs 232 false 0 (fun _ => 0)).toArray := by kernel_rfl
theorem tb285b (b : Bool) : Tryz.prog.built 285 [(0, .bool b)] = some (wvs 232 b 0 (fun _ => 0)).toArray := by cases b <;> kernel_rfl
def plusR (b : Bool) (V : Nat) (b' : Bool) (W : Nat) : Bool × Nat := if b = b' then (b, V + W) else if W ≤ V then (b, V - W) else (b', W - V)
theorem wplus_c (b b' : Bool) (V W : Nat) (hV : nw V ≤ 232) (hW : nw W ≤ 232) (hR2 : nw (plusR b V b' W).2 ≤ 232) :
  CtrH Tryz.prog 284 [.own 1000 0, .av (wA b' (nw W) (wd W))] [(1000, .wi b (nw V) (wd V))] (.av .any) [(1000, .wi (plusR b V b' W).1 (nw (plusR b V b' W).2) (wd (plusR b V b' W).2))] := by
 have hbe := fun c => beyond_c V W b c hV hW
 unfold plusR at hR2 ⊢
 by_cases hbb : b = b'
 ·subst hbb
  rw [if_pos rfl] at hR2 ⊢
  dsimp only at hR2 ⊢
  have hc := carry_z b b V W (V + W) 0 1 hV (by omega) hR2 (by omega) (by simp)
  have hbq : (b == b) = true := by simp
  refine ctrH _ Tryz.func284 rfl rfl Tryz.ntmps284 rfl rfl fun w Z ν => ?_
  refine zU ?_
  refine wl ?_
  rw [hbq]
  refine wl ?_
  refine sq_v (v_call_h [] hc rfl ⟨rfl, trivial⟩ rfl) rfl ?_
  refine wl ?_
  exact sq_more (T' := []) (O' := [(1000, .wi b (nw (V + W)) (wd (V + W)))]) (ent trivial zT) (sq_retH0 rfl rfl rfl)
 ·rw [if_neg hbb] at hR2 ⊢
  have hbq : (b == b') = false := by simpa using hbb
  have hb2 := bey_ge V W
  have hbe := beyond_c V W b b' hV hW
  by_cases hle : W ≤ V
  ·rw [if_pos hle] at hR2 ⊢
   dsimp only at hR2 ⊢
   have hc := carry_z b b' V W (V - W) 0 (-1) hV (by omega) hR2 (by omega) (by simp; omega)
   refine ctrH _ Tryz.func284 rfl rfl Tryz.ntmps284 rfl rfl fun w Z ν => ?_
   refine zU ?_
   refine wl ?_
   rw [hbq]
   refine wl ?_
   refine sq_g (g_call_r hbe rfl ⟨.w rfl rfl, .av rfl, trivial⟩ (flat_val _)) rfl ?_
   refine wl ?_
   (refine cq_cond rfl ?_ ?_ <;> intro hb <;> (try simp only [zA, zB, zG, zC, zD, zN] at hb) <;> (try (exfalso; omega)))
   refine wl ?_
   refine sq_v (v_call_h [] hc rfl ⟨rfl, trivial⟩ rfl) rfl ?_
   refine wl ?_
   exact sq_more (T' := []) (O' := [(1000, .wi b (nw (V - W)) (wd (V - W)))]) (ent trivial zT) (sq_retH0 rfl rfl rfl)
  ·rw [if_neg hle] at hR2 ⊢
   dsimp only at hR2 ⊢
   have hc := carry_o b' b W V (W - V) 0 (-1) hW (by omega) hR2 (by omega) (by simp; omega)
   refine ctrH _ Tryz.func284 rfl rfl Tryz.ntmps284 rfl rfl fun w Z ν => ?_
   refine zU ?_
   refine wl ?_
   rw [hbq]
   refine wl ?_
   refine sq_g (g_call_r hbe rfl ⟨.w rfl rfl, .av rfl, trivial⟩ (flat_val _)) rfl ?_
   refine wl ?_
   (refine cq_cond rfl ?_ ?_ <;> intro hb <;> (try simp only [zA, zB, zG, zC, zD, zN] at hb) <;> (try (exfalso; omega)))
   refine wl ?_
   refine sq_g (g_load_aall rfl) rfl ?_
   refine sq_v (f_alloc_w 5 rfl) rfl ?_
   refine sq_s (g_store_wall rfl rfl rfl) ?_
   refine wl ?_
   refine sq_v (v_call_h [(1000, 5), (1001, 1000)] hc rfl ⟨rfl, rfl, trivial⟩ rfl) rfl ?_
   refine wl ?_
   refine sq_g (g_load_wall rfl rfl) rfl ?_
   refine sq_g (g_nilCheck rfl) rfl ?_
   refine sq_s (g_store_wall rfl rfl rfl) ?_
   refine wl ?_
   exact sq_more (T' := []) (O' := [(1000, .wi b' (nw (W - V)) (wd (W - V)))]) (ent trivial zT) (sq_endH0 rfl rfl rfl)
theorem wd_z : wd 0 = fun _ => 0 := by funext i; simp [wd]
theorem lown_step (W i : Nat) : W % 1000000000 ^ (i + 1) = W % 1000000000 ^ i + (wd W i).toNat * 1000000000 ^ i := by
 rw [Nat.mod_pow_succ]
 have : (wd W i).toNat = W / 1000000000 ^ i % 1000000000 := by unfold wd; exact Int.toNat_natCast _
 rw [this, Nat.mul_comm]
theorem wtimes_c (b b' : Bool) (V W : Nat) (hVW : nw V + nw W ≤ 232) :
  CtrH Tryz.prog 238 [.av (wA b (nw V) (wd V)), .av (wA b' (nw W) (wd W))] [] (.own 7 0) [(7, .wi (b != b') (nw (V * W)) (wd (V * W)))] := by
 have hbd : ∀ i, i ≤ nw W → nw (V * (W % 1000000000 ^ i)) ≤ 232 := fun i hi => by
  refine nw_le ?_
  have h1 : W % 1000000000 ^ i < 1000000000 ^ i := Nat.mod_lt _ (Nat.pow_pos zE)
  have h2 : V * (W % 1000000000 ^ i) < 1000000000 ^ (nw V) * 1000000000 ^ i := by
   refine Nat.lt_of_le_of_lt (Nat.mul_le_mul_left V (Nat.le_of_lt h1)) ?_
   exact (Nat.mul_lt_mul_right (Nat.pow_pos zE)).2 (lt_nw V)
  rw [← Nat.pow_add] at h2
  exact Nat.lt_of_lt_of_le h2 (Nat.pow_le_pow_right zE zO)
 refine ctrH _ Tryz.func238 rfl rfl Tryz.ntmps238 rfl rfl fun w Z ν => ?_
 refine zU ?_
 refine wl ?_
 refine dq_g (g_build (is := [0]) (xs := [_]) (vs := [.bool (b != b')]) (tb285b _) rfl rfl) rfl ?_
 refine dq_v (ga_box_w 7 rfl) rfl rfl ?_
 refine wl ?_
 refine cq_loop (γ := Nat) (fun i => [(0, .av (wA b (nw V) (wd V))), (1, .av (wA b' (nw W) (wd W))), (5, .own 7 0), (21, .av (vi (nw W))), (22, .av (vi i))]) (fun i => [(7, .wi (b != b') (nw (V * (W % 1000000000 ^ i))) (wd (V * (W % 1000000000 ^ i))))]) (fun i => i ≤ nw W) (fun i => nw W - i) 0 zO (ent zS ⟨⟨_, rfl, by
  rw [show V * (W % 1000000000 ^ 0) = 0 by rw [Nat.pow_zero, Nat.mod_one, Nat.mul_zero], nw_zero, wd_z]
  exact .refl _⟩, trivial⟩) ?_
 intro i hi
 refine wl ?_
 (refine cq_cond rfl ?_ ?_ <;> intro hb <;> (try simp only [zA, zB, zG, zC, zD, zN] at hb) <;> (try (exfalso; omega)))
 ·have hw := wd_rng W i
  have hB : Na.B = 1000000000 := rfl
  rw [hB] at hw
  have hc := carry_z (b != b') b (V * (W % 1000000000 ^ i)) V (V * (W % 1000000000 ^ (i + 1))) i (wd W i) (hbd i hi) zO (hbd (i + 1) zO) zO (by
   have hwc : ((wd W i).toNat : Int) = wd W i := Int.toNat_of_nonneg hw.1
   rw [lown_step, Nat.mul_add, ← pow9n i]
   generalize 1000000000 ^ i = p
   simp only [Int.natCast_add, Int.natCast_mul, hwc]
   grind)
  refine wl ?_
  refine sq_v (v_call_h [(1000, 7)] hc rfl ⟨rfl, trivial⟩ rfl) rfl ?_
  refine wl ?_
  exact sq_round (i + 1) zO zO (ent zS zT)
 ·obtain rfl : i = nw W := by omega
  refine wl ?_
  have e : W % 1000000000 ^ nw W = W := Nat.mod_eq_of_lt (lt_nw W)
  rw [e]
  exact sq_retH rfl rfl rfl
end Go.Proofs.YtgepmbjmaljgoaaGreatDoor
section
namespace Go.Na
open Go Go.Vc
theorem take_copy {b : Bool} {n : Int} {f : Nat → Int} {m : Nat} (hm : m ≤ 231) :
  (wvs 232 b n f).take 3 ++ ((wvs 232 b n f).drop 2).take m ++ (wvs 232 b n f).drop (3 + m) = wvs 232 b n (shup f m) := by
 have hl := wvs_len 232 b n f
 apply List.ext_getElem?
 intro i
 rw [List.append_assoc]
 by_cases h3 : i < 3
 ·rw [List.getElem?_append_left (by simp [hl]; omega), List.getElem?_take_of_lt h3]
  rcases (by omega : i = 0 ∨ i = 1 ∨ i = 2) with rfl | rfl | rfl
  ·rfl
  ·rfl
  ·rw [wvs_get (k := 0) rfl (by decide), wvs_get (k := 0) rfl (by decide)]
   unfold shup; rw [if_neg (by omega)]
 ·rw [List.getElem?_append_right (by simp [hl]; omega)]
  have hlt : ((wvs 232 b n f).take 3).length = 3 := by simp [hl]
  rw [hlt]
  by_cases hi : i < 3 + m
  ·rw [List.getElem?_append_left (by simp [hl]; omega), List.getElem?_take_of_lt (by omega), List.getElem?_drop]
   rw [wvs_get (k := i - 3) (by omega) (by omega), wvs_get (k := i - 2) (by omega) (by omega)]
   unfold shup; rw [if_pos (by omega)]
   congr 3
  ·have hlm : (((wvs 232 b n f).drop 2).take m).length = m := by simp [hl]; omega
   rw [List.getElem?_append_right (by rw [hlm]; omega), hlm, List.getElem?_drop]
   have e : 3 + m + (i - 3 - m) = i := by omega
   rw [e]
   by_cases h4 : i < 234
   ·rw [wvs_get (k := i - 2) (by omega) (by omega), wvs_get (k := i - 2) (by omega) (by omega)]
    unfold shup; rw [if_neg (by omega)]
   ·rw [List.getElem?_eq_none (by rw [hl]; omega), List.getElem?_eq_none (by rw [wvs_len]; omega)]
theorem shup_up {R : Nat} {d : Nat} (hd : d < 1000000000) : upd (shup (wd R) (nw R)) 0 (d : Int) = wd (R * 1000000000 + d) := by
 funext i
 rw [wd_up hd]
 cases i with
 |zero => rw [upd_same]
 |succ i =>
  rw [upd_other _ _ (by omega)]
  unfold shup
  split
  ·rfl
  ·rw [wd_out (by omega)]
   show 0 = wd R i
   rw [wd_out (by omega)]
theorem nw_up {R d : Nat} (hd : d < 1000000000) : nw (R * 1000000000 + d) ≤ nw R + 1 := by
 refine nw_le ?_
 have := lt_nw R
 rw [Nat.pow_succ]
 have h2 : (R + 1) * 1000000000 ≤ 1000000000 ^ nw R * 1000000000 := Nat.mul_le_mul_right _ this
 omega
theorem div_word' {H W d : Nat} (hW : 0 < W) (hd : d < 1000000000) : (H % W * 1000000000 + d) % W = (H * 1000000000 + d) % W ∧ (H % W * 1000000000 + d) / W = (H * 1000000000 + d) / W % 1000000000 ∧ (H % W * 1000000000 + d) / W < 1000000000 := by
 have h2 := Nat.div_add_mod H W
 have hr := Nat.mod_lt H hW
 generalize H % W = r at *
 generalize H / W = q at *
 subst h2
 have e : (W * q + r) * 1000000000 + d = (r * 1000000000 + d) + W * (q * 1000000000) := by
  rw [← Nat.mul_assoc, Nat.add_mul, Nat.add_assoc, Nat.add_comm]
 have hX : r * 1000000000 + d < 1000000000 * W := by omega
 have hq : (r * 1000000000 + d) / W < 1000000000 := (Nat.div_lt_iff_lt_mul hW).2 hX
 rw [e, Nat.add_mul_mod_self_left, Nat.add_mul_div_left _ _ hW, Nat.add_mul_mod_self_right, Nat.mod_eq_of_lt hq]
 exact ⟨rfl, rfl, hq⟩
theorem div_word {V W k : Nat} (hW : W ≠ 0) :
  (V / 1000000000 ^ (k + 1) % W * 1000000000 + V / 1000000000 ^ k % 1000000000) % W = V / 1000000000 ^ k % W ∧ (V / 1000000000 ^ (k + 1) % W * 1000000000 + V / 1000000000 ^ k % 1000000000) / W = V / W / 1000000000 ^ k % 1000000000 ∧ (V / 1000000000 ^ (k + 1) % W * 1000000000 + V / 1000000000 ^ k % 1000000000) / W < 1000000000 := by
 have h1 : V / 1000000000 ^ k = V / 1000000000 ^ (k + 1) * 1000000000 + V / 1000000000 ^ k % 1000000000 := by
  rw [Nat.pow_succ, ← Nat.div_div_eq_div_mul]
  have := Nat.div_add_mod (V / 1000000000 ^ k) 1000000000
  omega
 have h3 : V / W / 1000000000 ^ k = V / 1000000000 ^ k / W := by
  rw [Nat.div_div_eq_div_mul, Nat.div_div_eq_div_mul, Nat.mul_comm]
 rw [h3]
 have hd : V / 1000000000 ^ k % 1000000000 < 1000000000 := Nat.mod_lt _ zE
 have := div_word' (H := V / 1000000000 ^ (k + 1)) (Nat.pos_of_ne_zero hW) hd
 rw [← h1] at this
 exact this
def hiq (Q k : Nat) : Nat → Int := fun j => if k ≤ j then wd Q j else 0
theorem hiq_step {Q k : Nat} : upd (hiq Q (k + 1)) k (wd Q k) = hiq Q k := by
 funext j
 unfold upd hiq
 by_cases h : j = k
 ·subst h; rw [if_pos rfl, if_pos (Nat.le_refl _)]
 ·rw [if_neg h]
  by_cases h2 : k ≤ j
  ·rw [if_pos (by omega), if_pos h2]
  ·rw [if_neg (by omega), if_neg h2]
theorem hiq_zero (Q : Nat) : hiq Q 0 = wd Q := by funext j; unfold hiq; rw [if_pos (Nat.zero_le _)]
theorem hiq_top {Q k : Nat} (h : nw Q ≤ k) : hiq Q k = fun _ => 0 := by
 funext j
 unfold hiq
 split
 ·exact wd_out zO
 ·rfl
theorem nw_mono {V W : Nat} (h : V ≤ W) : nw V ≤ nw W := nw_le (Nat.lt_of_le_of_lt h (lt_nw W))
end Go.Na
namespace Go.Na
open Go Go.Vc
def lowq (Q n : Nat) : Nat → Int := fun j => if j < n then wd Q j else 0
theorem lowq_step {Q n : Nat} : upd (lowq Q n) n (wd Q n) = lowq Q (n + 1) := by
 funext j
 unfold upd lowq
 by_cases h : j = n
 ·subst h; rw [if_pos rfl, if_pos (by omega)]
 ·rw [if_neg h]
  by_cases h2 : j < n
  ·rw [if_pos h2, if_pos (by omega)]
  ·rw [if_neg h2, if_neg (by omega)]
theorem lowq_zero (Q : Nat) : lowq Q 0 = fun _ => 0 := by funext j; unfold lowq; rw [if_neg (by omega)]
theorem lowq_all {Q n : Nat} (h : nw Q ≤ n) : lowq Q n = wd Q := by
 funext j
 unfold lowq
 split
 ·rfl
 ·rw [wd_out (by omega)]
theorem nw_of_div {V n : Nat} (h : V / 1000000000 ^ n = 0) : nw V ≤ n := by
 refine nw_le ?_
 have := Nat.lt_mul_div_succ V (Nat.pow_pos (n := n) (show 0 < 1000000000 by decide))
 rw [h] at this
 omega
theorem read_word {l : List UInt8} {V n : Nat} (hd : ∀ b ∈ l, isD b) (h : dv l = V / 1000000000 ^ n) : dv (l.take (l.length - 9)) = V / 1000000000 ^ (n + 1) ∧ ((dv (l.drop (l.length - 9)) : Nat) : Int) = wd V n := by
 obtain ⟨h1, h2⟩ := read_step hd
 rw [h] at h1
 generalize dv (l.take (l.length - 9)) = a at *
 generalize dv (l.drop (l.length - 9)) = b at *
 unfold wd
 rw [Nat.pow_succ, ← Nat.div_div_eq_div_mul]
 generalize V / 1000000000 ^ n = q at *
 constructor
 ·omega
 ·omega
end Go.Na
end
section
namespace Go.Proofs.YtgepmbjmaljgoaaGreatDoor
open Go Go.Vc Go.RowKit Go.Na Go.Lib
set_option maxHeartbeats 4000000
section
variable {E : Env} {T : Tab} {O : Go.Vc.Own} {d : Option Nat} {ty : TypeId} {pos : String} {af : Array Edge} {g : Option (Nat × Bool)}
theorem g_copy_w {t t' e : TypeId} {x y : Operand} {r m : Nat} {b : Bool} {n : Int} {f : Nat → Int} [ht : SlTy Tryz.prog t e 1] (hx : T.ev x = .ocs r 3 231) (hy : T.ev y = .ocs r 2 m) (hr : Go.Vc.look O r = some (Res.wi b n f)) (hm : m ≤ 231) :
  GV Tryz.prog E ⟨d, .call ⟨.builtin .copy, #[x, y], #[t, t']⟩, ty, pos, af, g⟩ T O (.av (.val (.int .i64 (m : Nat)))) [r] [(r, .wi b n (shup f m))] :=
 g_copy_ocs hx hy hr hm (by rw [wvs_len]; omega) (by rw [wvs_len]; omega) wvs_one (take_copy hm)
theorem g_slice_own0 {t e : TypeId} {x z : Operand} {r off len h : Nat} {us : List Value} [ht : ArrTy Tryz.prog t len e 1] (hx : T.ev x = .own r off) (hr : Go.Vc.look O r = some (Res.vb us)) (hhi : T.ev z = .av (.val (.int .i64 h))) (hhn : h ≤ len) (hl : 0 < len) :
  GV Tryz.prog E ⟨d, .slice t x none (some z) none, ty, pos, af, g⟩ T O (.ocs r off h) [r] [] := by
 have := g_slice_own (P := Tryz.prog) (E := E) (T := T) (O := O) (d := d) (ty := ty) (pos := pos) (af := af) (g := g) (t := t) (x := x) (lo := none) (hi := some z) (r := r) (off := off) (l := 0) (h := h) (us := us) hx hr rfl ⟨_, _, hhi, rfl⟩ (Nat.zero_le _) hhn hl
 rwa [Nat.add_zero, Nat.sub_zero] at this
end
theorem wdivided_c (b b' : Bool) (V W : Nat) (hV : nw V ≤ 231) (hW : nw W ≤ 231) (hW0 : W ≠ 0) :
  CtrH Tryz.prog 230 [.av (wA b (nw V) (wd V)), .av (wA b' (nw W) (wd W))] [] (.tupC [.own 7 0, .own 8 0]) [(7, .wi false (nw (V / W)) (wd (V / W))), (8, .wi false (nw (V % W)) (wd (V % W)))] := by
 have hWp : 0 < W := Nat.pos_of_ne_zero hW0
 have hnr : ∀ k, nw (V / 1000000000 ^ k % W) ≤ nw W := fun k => nw_mono (Nat.le_of_lt (Nat.mod_lt _ hWp))
 have hnq : nw (V / W) ≤ nw V := nw_mono (Nat.div_le_self _ _)
 refine ctrH _ Tryz.func230 rfl rfl Tryz.ntmps230 rfl rfl fun w Z ν => ?_
 refine zU ?_
 refine wl ?_
 refine sq_g (g_build (is := []) (xs := []) (vs := []) tb285 rfl rfl) rfl ?_
 refine sq_v (f_box_w 7 rfl rfl) rfl ?_
 refine sq_g (g_build (is := []) (xs := []) (vs := []) tb285 rfl rfl) rfl ?_
 refine sq_v (f_box_w 8 rfl rfl) rfl ?_
 refine wl ?_
 refine cq_loop (γ := Nat × Nat) (fun q => [(0, .av (wA b (nw V) (wd V))), (1, .av (wA b' (nw W) (wd W))), (6, .own 7 0), (7, .own 8 0), (8, .av (vi ((q.1 : Int) - 1)))]) (fun q => [(7, .wi false q.2 (hiq (V / W) q.1)), (8, .wi false (nw (V / 1000000000 ^ q.1 % W)) (wd (V / 1000000000 ^ q.1 % W)))]) (fun q => q.1 ≤ nw V ∧ q.2 ≤ 231 ∧ (nw (V / W) ≤ q.2 ∨ q.1 = nw V ∧ 0 < nw V)) (fun q => q.1) (nw V, 0) ⟨by show _ ≤ _; omega, by show _ ≤ _; omega, by show nw (V / W) ≤ 0 ∨ nw V = nw V ∧ 0 < nw V; omega⟩ (ent ⟨.refl _, .refl _, .refl _, .refl _, .int (by show _ = _; omega), trivial⟩ ⟨⟨_, rfl, by
  rw [hiq_top hnq]; exact .refl _⟩, ⟨_, rfl, by
  rw [show V / 1000000000 ^ (nw V) % W = 0 by rw [Nat.div_eq_of_lt (lt_nw V), Nat.zero_mod], nw_zero, wd_z]
  exact .refl _⟩, trivial⟩) ?_
 rintro ⟨k, n⟩ ⟨hk, hn, hqn⟩
 dsimp only at hk hn hqn ⊢
 refine wl ?_
 (refine cq_cond rfl ?_ ?_ <;> intro hb <;> (try simp only [zA, zB, zG, zC, zD, zN] at hb) <;> (try (exfalso; omega)))
 ·obtain ⟨j, rfl⟩ : ∃ j, k = j + 1 := ⟨k - 1, by omega⟩
  have e : ((j + 1 : Nat) : Int) - 1 = j := by omega
  rw [e]
  obtain ⟨dw1, dw2, dw3⟩ := div_word (V := V) (W := W) (k := j) hW0
  have hwd : wd V j = ((V / 1000000000 ^ j % 1000000000 : Nat) : Int) := rfl
  have hd : V / 1000000000 ^ j % 1000000000 < 1000000000 := Nat.mod_lt _ zE
  have hqd : wd (V / W) j = ((V / W / 1000000000 ^ j % 1000000000 : Nat) : Int) := rfl
  have hr1 := hnr (j + 1)
  have hmr : V / 1000000000 ^ (j + 1) % W < W := Nat.mod_lt _ hWp
  rw [← dw2] at hqd
  generalize V / 1000000000 ^ (j + 1) % W = R at *
  have hup := shup_up (R := R) hd
  have hnx := nw_up (R := R) hd
  rw [← hwd] at hup
  generalize V / 1000000000 ^ j % 1000000000 = dg at *
  have ht := trimmed_c false (nw R + 1) (nw (R * 1000000000 + dg)) (wd (R * 1000000000 + dg)) hnx zO (fun i h _ => wd_out h) (by
   by_cases h0 : R * 1000000000 + dg = 0
   ·left; rw [h0, nw_zero]
   ·exact .inr (wd_top h0))
  generalize R * 1000000000 + dg = X at *
  refine wl ?_
  refine dq_g (g_slice_own (l := 1) (h := 232) rfl rfl ⟨_, _, rfl, rfl⟩ rfl zE zE zE) rfl ?_
  refine wl ?_
  refine dq_g (g_slice_own0 (h := nw R) rfl rfl rfl zO zE) rfl ?_
  refine wl ?_
  refine dq_call_h (g_copy_w (m := nw R) rfl rfl rfl zO) rfl ?_
  refine wl ?_
  refine dq_s (g_store_ww 0 rfl rfl rfl rfl zE) ?_
  refine wl ?_
  refine lsq_more (ent_w 8 (n' := ((nw R + 1 : Nat) : Int)) (f' := wd X) rfl rfl zO hup) ?_
  refine sq_v (v_call_h [(1000, 8)] ht rfl ⟨rfl, trivial⟩ rfl) rfl ?_
  refine wl ?_
  refine cq_loop (γ := Nat × Nat) (fun q => [(0, .av (wA b (nw V) (wd V))), (1, .av (wA b' (nw W) (wd W))), (6, .own 7 0), (7, .own 8 0), (8, .av (vi j)), (9, .av (vi q.2))]) (fun q => [(7, .wi false n (hiq (V / W) (j + 1))), (8, .wi false (nw q.1) (wd q.1))]) (fun q => X = q.1 + q.2 * W) (fun q => q.1) (X, 0) (by show X = X + 0 * W; omega) (ent zS zT) ?_
  rintro ⟨Y, dd⟩ hY
  dsimp only at hY ⊢
  have hYX : nw Y ≤ 232 := Nat.le_trans (nw_mono (by omega : Y ≤ X)) zO
  have hbe := beyond_c Y W false b' hYX zO
  have hb2 := bey_ge Y W
  have hdd : dd < 1000000000 := by
   refine Nat.lt_of_le_of_lt ?_ dw3
   rw [Nat.le_div_iff_mul_le hWp]; omega
  refine wl ?_
  refine sq_g (g_call_r hbe rfl ⟨.w rfl rfl, .av rfl, trivial⟩ (flat_val _)) rfl ?_
  refine wl ?_
  (refine cq_cond rfl ?_ ?_ <;> intro hb <;> (try simp only [zA, zB, zG, zC, zD, zN] at hb) <;> (try (exfalso; omega)))
  ·have hes := estimate_c Y W false b' hYX zO hW0
   obtain ⟨he1, he2, he3⟩ := est_ok hW0 (hb2.1 zO)
   obtain ⟨κ, hκ⟩ : ∃ κ : Nat, est Y W = κ := ⟨(est Y W).toNat, by omega⟩
   rw [hκ] at hes he1 he2 he3
   have hle : κ * W ≤ Y := by rw [← Int.natCast_mul] at he3; omega
   have hsub : (dd + κ) * W ≤ X := by rw [Nat.add_mul]; omega
   have hdk : dd + κ < 1000000000 := by
    refine Nat.lt_of_le_of_lt ?_ dw3
    rw [Nat.le_div_iff_mul_le hWp]; exact hsub
   have hcz := carry_z false b' Y W (Y - κ * W) 0 (-(κ : Int)) hYX (by omega) (Nat.le_trans (nw_mono (Nat.sub_le _ _)) hYX) (by omega) (by rw [Int.natCast_sub hle, Int.natCast_mul]; simp; grind)
   refine wl ?_
   refine sq_g (g_call_r hes rfl ⟨.w rfl rfl, .av rfl, trivial⟩ (flat_val _)) rfl ?_
   refine wl ?_
   refine sq_v (v_call_h [(1000, 8)] hcz rfl ⟨rfl, trivial⟩ rfl) rfl ?_
   refine wl ?_
   have hκ0 : 0 < κ * W := Nat.mul_pos zO hWp
   exact sq_round (g := (Y, dd)) (Y - κ * W, dd + κ) (by show X = Y - κ * W + (dd + κ) * W; rw [Nat.add_mul]; omega) (by show Y - κ * W < Y; omega) (ent ⟨.refl _, .refl _, .refl _, .refl _, .refl _, .int (by show (dd : Int) + κ = ((dd + κ : Nat) : Int); omega), trivial⟩ zT)
  ·have hlt : Y < W := by omega
   have q1 : X % W = Y := by rw [hY, Nat.add_mul_mod_self_right, Nat.mod_eq_of_lt hlt]
   have q2 : X / W = dd := by rw [hY, Nat.add_mul_div_right _ _ hWp, Nat.div_eq_of_lt hlt, Nat.zero_add]
   rw [q2] at hqd
   rw [q1] at dw1
   have hmx : ((max n (j + 1) : Nat) : Int) = if (n : Int) < (j : Int) + 1 then (j : Int) + 1 else n := by split <;> omega
   refine wl ?_
   exact sq_round (g := (j + 1, n)) (j, max n (j + 1)) ⟨by show j ≤ nw V; omega, by show max n (j + 1) ≤ 231; omega, .inl (by show nw (V / W) ≤ max n (j + 1); omega)⟩ (by show j < j + 1; omega) (ent zS ⟨⟨_, rfl, by
    dsimp only
    rw [hmx, show hiq (V / W) j = _ from (hiq_step (Q := V / W) (k := j)).symm, hqd]
    exact .refl _⟩, ⟨_, rfl, by
    dsimp only
    rw [← dw1]
    exact .refl _⟩, trivial⟩)
 ·obtain rfl : k = 0 := by omega
  rw [hiq_zero, Nat.pow_zero, Nat.div_one]
  have ht := trimmed_c false n (nw (V / W)) (wd (V / W)) zO zO (fun i h _ => wd_out h) (by
   by_cases h0 : V / W = 0
   ·left; rw [h0, nw_zero]
   ·exact .inr (wd_top h0))
  refine wl ?_
  refine sq_v (v_call_h [(1000, 7)] ht rfl ⟨rfl, trivial⟩ rfl) rfl ?_
  refine wl ?_
  exact sq_more (T' := [(4, .own 7 0), (5, .own 8 0)]) (O' := [(7, .wi false (nw (V / W)) (wd (V / W))), (8, .wi false (nw (V % W)) (wd (V % W)))]) (ent zS zT) (sq_retHC (c1 := .own 7 0) (c2 := .own 8 0) rfl rfl rfl rfl rfl)
end Go.Proofs.YtgepmbjmaljgoaaGreatDoor
end
namespace Go.Proofs.YtgepmbjmaljgoaaGreatDoor
open Go Go.Vc Go.RowKit Go.Na Go.Lib
set_option maxHeartbeats 4000000
theorem wread_c (m : Int) (hm : (decDigits m.natAbs).length ≤ 2000) : CtrH Tryz.prog 229 [.av (vI m)] [] (.own 7 0) [(7, .wi (decide (m < 0)) (nw m.natAbs) (wd m.natAbs))] := by
 obtain ⟨hb, rs, ei, hb'⟩ := itoa_hd m
 have h1 := trimp_i m
 have hdd := dec_dig m.natAbs
 have hdv := dv_dec m.natAbs
 refine ctrH _ Tryz.func229 rfl rfl Tryz.ntmps229 rfl rfl fun w Z ν => ?_
 generalize decDigits m.natAbs = D at *
 generalize hV : m.natAbs = V at *
 refine zU ?_
 refine wl ?_
 refine sq_g (g_sidx (b := hb) rfl rfl rfl (by rw [ei]; rfl)) rfl ?_
 refine wl ?_
 rw [hb']
 refine wl ?_
 refine sq_g (g_build (is := [0]) (xs := [_]) (vs := [.bool (decide (m < 0))]) (tb285b _) rfl rfl) rfl ?_
 refine sq_v (f_box_w 7 rfl rfl) rfl ?_
 refine wl ?_
 refine cq_loop (γ := List UInt8 × Nat) (fun q => [(3, .av (vS q.1)), (4, .own 7 0)]) (fun q => [(7, .wi (decide (m < 0)) q.2 (lowq V q.2))]) (fun q => (∀ b ∈ q.1, isD b) ∧ dv q.1 = V / 1000000000 ^ q.2 ∧ 9 * q.2 ≤ D.length + 8 ∧ (q.1 ≠ [] → q.1.length + 9 * q.2 ≤ D.length)) (fun q => q.1.length) (D, 0) ⟨hdd, by show dv D = V / 1000000000 ^ 0; rw [hdv, Nat.pow_zero, Nat.div_one], by show 9 * 0 ≤ _; omega, fun _ => by show D.length + 9 * 0 ≤ _; omega⟩ (ent zS ⟨⟨_, rfl, by rw [lowq_zero]; exact .refl _⟩, trivial⟩) ?_
 rintro ⟨l, n⟩ ⟨hl, hv, hn, hc⟩
 dsimp only at hl hv hn hc ⊢
 refine wl ?_
 (refine cq_cond rfl ?_ ?_ <;> intro hb <;> (try simp only [zA, zB, zG, zC, zD, zN] at hb) <;> (try (exfalso; omega)))
 ·have hne : l ≠ [] := fun e => by subst e; simp at *
  have hc := hc hne
  obtain ⟨e1, e2⟩ := read_word hl hv
  have hdr : ∀ b ∈ l.drop (l.length - 9), isD b := fun b hb => hl b (List.mem_of_mem_drop hb)
  have hat := atoi_c (l.drop (l.length - 9)) _ (by rw [List.length_drop]; omega) (atoi_dig (fun e => by
   have := congrArg List.length e
   rw [List.length_drop] at this
   simp only [List.length_nil] at this
   omega) hdr)
  rw [e2] at hat
  refine wl ?_
  refine dq_g (g_sfrom (l.length - 9) rfl rfl (by split <;> omega) zO) rfl ?_
  refine wl ?_
  refine sq_g (g_sto (l.length - 9) rfl rfl (by split <;> omega) zO) rfl ?_
  refine wl ?_
  exact sq_round (g := (l, n)) (l.take (l.length - 9), n + 1) ⟨fun b hb => hl b (List.mem_of_mem_take hb), e1, by show 9 * (n + 1) ≤ _; omega, fun hn => by
   show (l.take (l.length - 9)).length + 9 * (n + 1) ≤ D.length
   have : l.length - 9 ≠ 0 := fun e => hn (by show l.take (l.length - 9) = []; rw [e, List.take_zero])
   rw [List.length_take]; omega⟩ (by show (l.take (l.length - 9)).length < l.length; rw [List.length_take]; omega) (ent zS ⟨⟨_, rfl, by
   dsimp only
   rw [← lowq_step]
   exact .refl _⟩, trivial⟩)
 ·have hl0 : l = [] := List.eq_nil_of_length_eq_zero zO
  subst hl0
  have hnw : nw V ≤ n := nw_of_div hv.symm
  rw [lowq_all hnw]
  have ht := trimmed_c (decide (m < 0)) n (nw V) (wd V) hnw zO (fun i h _ => wd_out h) (by
   by_cases h0 : V = 0
   ·left; rw [h0, nw_zero]
   ·exact .inr (wd_top h0))
  refine wl ?_
  refine sq_v (v_call_h [(1000, 7)] ht rfl ⟨rfl, trivial⟩ rfl) rfl ?_
  refine wl ?_
  exact sq_more (T' := [(2, .own 7 0)]) (O' := [(7, .wi (decide (m < 0)) (nw V) (wd V))]) (ent ⟨.refl _, trivial⟩ zT) (sq_retH rfl rfl rfl)
def sv (b : Bool) (V : Nat) : Int := if b then -(V : Int) else V
theorem wtop {V : Nat} (h : V ≠ 0) : decDigits (wd V (nw V - 1)).toNat ++ tl (wd V) (nw V - 1) = decDigits V := by
 have e : nw V - 1 + 1 = nw V := by have := nw_pos h; omega
 have := text_eq (f := wd V) (fun i => (wd_rng V i).1) (fun i => (wd_rng V i).2) (n := nw V - 1) (wd_top h)
 rw [e, vw_wd _ _ (lt_nw V)] at this
 rw [this, Int.toNat_natCast]
theorem dec_len_nw {V : Nat} (h : nw V ≤ 232) : (decDigits V).length ≤ 2088 := by
 have key : ∀ m, nw V ≤ m → 0 < m → (decDigits V).length ≤ 9 * m := fun m hm h0 => dec_len (by
  have h1 := Nat.lt_of_lt_of_le (lt_nw V) (Nat.pow_le_pow_right zE hm)
  rw [Nat.pow_mul]; exact h1) (by omega)
 exact key 232 h zE
theorem itoa_zero : itoa 0 = [48] := by
 rw [itoa_pos (by omega)]
 show decDigits 0 = _
 rw [decDigits]; rfl
theorem sc_bs (l : List UInt8) : Lib.strCells (bs l) = Lib.byteCells l := rfl
theorem bc_append (l m : List UInt8) : Lib.byteCells (l ++ m) = Lib.byteCells l ++ Lib.byteCells m := by simp [Lib.byteCells]
theorem drop48 (n : Nat) : ([48, 48, 48, 48, 48, 48, 48, 48, 48] : List UInt8).drop n = List.replicate (9 - n) 48 := by
 show (List.replicate 9 48).drop n = _
 rw [List.drop_replicate]
theorem wtext_c (b : Bool) (V : Nat) (hV : nw V ≤ 232) : CtrA Tryz.prog 231 [wA b (nw V) (wd V)] (vI (sv b V)) := by
 have hlen := dec_len_nw hV
 refine ctrA_v _ Tryz.func231 rfl rfl Tryz.ntmps231 rfl fun w0 Z vs hZ hvs => ?_
 match vs, hvs with
 |[], h => exact h.elim
 |[v0], h =>
 obtain ⟨bx, ox, rfl, hz, hlt, hcell⟩ := h.1
 have hcl : ∀ i, i < 234 → w0.cell? ⟨bx, ox + i, none⟩ = some ((wvs 232 b (nw V) (wd V)).getD i undef) := fun i hi => by
  obtain ⟨u, h1, h2⟩ := hcell i hi
  have : u = _ := h2
  rw [h1, this]
 have cb : w0.cell? ⟨bx, ox + 0, none⟩ = some (.bool b) := hcl 0 zE
 have cn : w0.cell? ⟨bx, ox + 1, none⟩ = some (.int .i64 (nw V)) := hcl 1 zE
 have cw : ∀ k, k < 232 → w0.cell? ⟨bx, ox + 2 + k, none⟩ = some (.int .i64 (wd V k)) := fun k hk => by
  have := hcl (k + 2) zO
  rw [List.getD, wvs_get rfl hk] at this
  rw [show ox + 2 + k = ox + (k + 2) by omega]
  exact this
 have hbw := Below.refl w0.heap.size w0
 refine zU ?_
 refine wm ?_
 (refine cq_cond rfl ?_ ?_ <;> intro hb <;> (try simp only [zA, zB, zG, zC, zD, zN] at hb) <;> (try (exfalso; omega)))
 ·have h0 : V = 0 := nw_eq0.1 zO
  subst h0
  refine wm ?_
  exact sq_res1 rfl (.tmp rfl) (by rw [show sv b ((0 : Nat)) = 0 by cases b <;> rfl]; show _ = vS (itoa 0); rw [itoa_zero])
 ·have h0 : V ≠ 0 := fun e => by subst e; exact hb (by rw [nw_zero]; rfl)
  refine cq_skip ?_
  refine sq_then ?_
  refine cq_seq ?_
  refine cq_region ?_
  refine lsq_balloc (w0 := w0) hZ hbw rfl rfl fun bb w2 hb2 hge hbk => ?_
  clear hbw
  have his : Lib.IsBuilder 331 5 w0.heap.size bb (Lib.byteCells []) w2 := .inl ⟨hge, .slice none 0 0, hbk, World.ownsRow_nil _ _ _ _, by simp [Value.ownBlock]⟩
  have hfin : itoa (sv b V) = (if b then [45] else []) ++ (decDigits (wd V (nw V - 1)).toNat ++ tl (wd V) (nw V - 1)) := by
   rw [wtop h0]
   cases b with
   |true =>
    have hneg : -(V : Int) < 0 := by omega
    rw [show sv true V = -(V : Int) by rfl, itoa_neg hneg]; simp
   |false =>
    have hneg : ¬ (V : Int) < 0 := by omega
    rw [show sv false V = (V : Int) by rfl, itoa_pos hneg]; simp
  have hfl : (itoa (sv b V)).length ≤ 2089 := by
   rw [hfin, wtop h0, List.length_append]
   cases b <;> simp <;> omega
  have hd0 := wd_rng V (nw V - 1)
  have hBB : Na.B = 1000000000 := rfl
  rw [hBB] at hd0
  have hit := itoa_c (wd V (nw V - 1)) zO
  have hit0 : itoa (wd V (nw V - 1)) = decDigits (wd V (nw V - 1)).toNat := by rw [itoa_pos (by omega)]; congr 1
  have cwt := cw (nw V - 1) zO
  refine wm ?_
  (refine cq_cond rfl ?_ ?_ <;> intro hb <;> (try simp only [zA, zB, zG, zC, zD, zN] at hb) <;> (try (exfalso; omega)))
  ·subst hb
   refine wm ?_
   refine lsq_wr (w0 := w0) (vs := [.pointer (some ⟨bb, 0, none⟩), .int .u8 45]) hZ hb2 rfl (enters_of' Tryz.func276 rfl rfl) rfl (fun w1 h1 => Tryz.Builder_WriteByte w0.heap.size bb (Lib.byteCells []) 45 w1 (isB_below his h1) (by simp [Lib.byteCells]) (Nat.le_trans hb2.size h1.size)) rfl fun w3 hb3 hψ => ?_
   clear hb2 his
   have his : Lib.IsBuilder 331 5 w0.heap.size bb (Lib.byteCells [45]) w3 := .inr hψ
   have hfin : itoa (sv true V) = [45] ++ (decDigits (wd V (nw V - 1)).toNat ++ tl (wd V) (nw V - 1)) := hfin
   refine wm ?_
   refine dq_g (g_indexk (k := nw V - 1) rfl rfl zO zO) rfl ?_
   refine wm ?_
   refine dq_last tm (by kernel_rfl) (by kernel_rfl) ?_
   refine lsq_wr (w0 := w0) (vs := [.pointer (some ⟨bb, 0, none⟩), .string (bs (itoa (wd V (nw V - 1))))]) hZ hb3 rfl (enters_of' Tryz.func277 rfl rfl) rfl (fun w1 h1 => Tryz.Builder_WriteString w0.heap.size bb (Lib.byteCells [45]) (bs (itoa (wd V (nw V - 1)))) w1 (isB_below his h1) (by rw [Lib.byteCells_length]; show ([45] : List UInt8).length + (itoa (wd V (nw V - 1))).length ≤ _; rw [hit0]; have := congrArg List.length hfin; simp only [List.length_append] at this; simp only [List.length_cons, List.length_nil] at *; omega) (Nat.le_trans hb3.size h1.size)) rfl fun w4 hb4 hψ => ?_
   clear hb3 his
   have his : Lib.IsBuilder 331 5 w0.heap.size bb (Lib.byteCells ([45] ++ decDigits (wd V (nw V - 1)).toNat)) w4 := .inr (by
    have := hψ
    rw [sc_bs, ← bc_append, hit0] at this
    exact this)
   refine wm ?_
   refine cq_loopB (w0 := w0) (γ := Nat) (fun (k : Nat) => [(0, .av (.val (.pointer (some ⟨bx, ox, none⟩)))), (3, .av (.val (.pointer (some ⟨bb, 0, none⟩)))), (4, .av (vi ((k : Int) - 1)))]) (fun k w => k ≤ nw V - 1 ∧ ∃ l, Lib.IsBuilder 331 5 w0.heap.size bb (Lib.byteCells l) w ∧ l ++ tl (wd V) k = itoa (sv true V) ∧ l ≠ []) (fun k => k) (nw V - 1) hZ hb4 (fun _ => rfl) (fun w1 h1 => ⟨Nat.le_refl _, [45] ++ decDigits (wd V (nw V - 1)).toNat, isB_below his h1, by rw [hfin]; simp, by simp [dec_ne]⟩) (ent zS trivial) ?_
   clear hb4 his
   rintro k w5 hb5 ⟨hk, l, his, hl, hl0⟩
   refine wm ?_
   (refine cq_cond rfl ?_ ?_ <;> intro hb <;> (try simp only [zA, zB, zG, zC, zD, zN] at hb) <;> (try (exfalso; omega)))
   ·obtain ⟨j, rfl⟩ : ∃ j, k = j + 1 := ⟨k - 1, by omega⟩
    have e : ((j + 1 : Nat) : Int) - 1 = j := by omega
    rw [e]
    have hdj := wd_rng V j
    rw [hBB] at hdj
    have hij := itoa_c (wd V j) zO
    have hij0 : itoa (wd V j) = decDigits (wd V j).toNat := by rw [itoa_pos (by omega)]; congr 1
    have hjl : (itoa (wd V j)).length ≤ 9 := by rw [hij0]; exact dec_len (by omega) (by decide)
    have cwj := cw j zO
    refine wm ?_
    refine sq_g (g_sfrom (itoa (wd V j)).length rfl rfl rfl hjl) rfl ?_
    rw [drop48]
    refine wm ?_
    refine sq_g (g_sadd (l := List.replicate (9 - (itoa (wd V j)).length) 48) (m := itoa (wd V j)) rfl rfl (by rw [List.length_replicate]; omega)) rfl ?_
    refine wm ?_
    have hpad : List.replicate (9 - (itoa (wd V j)).length) 48 ++ itoa (wd V j) = pad (wd V j).toNat := by rw [hij0]; rfl
    rw [hpad]
    have hpl : (pad (wd V j).toNat).length = 9 := pad_len zO
    have hll : l.length ≤ 2089 := by
     have := congrArg List.length hl
     rw [List.length_append] at this
     omega
    refine lsq_wr (w0 := w0) (vs := [.pointer (some ⟨bb, 0, none⟩), .string (bs (pad (wd V j).toNat))]) hZ hb5 rfl (enters_of' Tryz.func277 rfl rfl) rfl (fun w1 h1 => Tryz.Builder_WriteString w0.heap.size bb (Lib.byteCells l) (bs (pad (wd V j).toNat)) w1 (isB_below his h1) (by rw [Lib.byteCells_length]; show l.length + (pad (wd V j).toNat).length ≤ _; omega) (Nat.le_trans hb5.size h1.size)) rfl fun w6 hb6 hψ => ?_
    have his6 : Lib.IsBuilder 331 5 w0.heap.size bb (Lib.byteCells (l ++ pad (wd V j).toNat)) w6 := .inr (by
     have := hψ
     rw [sc_bs, ← bc_append] at this
     exact this)
    clear hb5 his
    refine wm ?_
    exact sq_roundB j hZ hb6 rfl (by omega) (fun w7 h7 => ⟨by omega, l ++ pad (wd V j).toNat, isB_below his6 h7, by rw [List.append_assoc]; exact hl, by simp [hl0]⟩) (ent zS trivial)
   ·obtain rfl : k = 0 := by omega
    have hl : l = itoa (sv true V) := by rw [← hl]; simp [tl]
    subst hl
    refine wm ?_
    refine lsq_wr (w0 := w0) (vs := [.pointer (some ⟨bb, 0, none⟩)]) (u := .string (bs (itoa (sv true V)))) (ψ := fun _ => True) hZ hb5 rfl (enters_of' Tryz.func278 rfl rfl) rfl (fun w1 h1 => Calls.mono (Tryz.Builder_String w0.heap.size bb (itoa (sv true V)) w1 (isB_below his h1) hl0) fun e w2 h => ⟨h.1, trivial, h.2⟩) rfl fun w6 hb6 _ => ?_
    clear hb5 his
    refine wm ?_
    exact sq_resB hZ hb6 rfl rfl
  ·have hbf : b = false := by simpa using hb
   subst hbf
   have hfin : itoa (sv false V) = [] ++ (decDigits (wd V (nw V - 1)).toNat ++ tl (wd V) (nw V - 1)) := hfin
   refine wm ?_
   refine dq_g (g_indexk (k := nw V - 1) rfl rfl zO zO) rfl ?_
   refine wm ?_
   refine dq_last tm (by kernel_rfl) (by kernel_rfl) ?_
   refine lsq_wr (w0 := w0) (vs := [.pointer (some ⟨bb, 0, none⟩), .string (bs (itoa (wd V (nw V - 1))))]) hZ hb2 rfl (enters_of' Tryz.func277 rfl rfl) rfl (fun w1 h1 => Tryz.Builder_WriteString w0.heap.size bb (Lib.byteCells []) (bs (itoa (wd V (nw V - 1)))) w1 (isB_below his h1) (by rw [Lib.byteCells_length]; show ([] : List UInt8).length + (itoa (wd V (nw V - 1))).length ≤ _; rw [hit0]; have := congrArg List.length hfin; simp only [List.length_append] at this; simp only [List.length_cons, List.length_nil] at *; omega) (Nat.le_trans hb2.size h1.size)) rfl fun w4 hb4 hψ => ?_
   clear hb2 his
   have his : Lib.IsBuilder 331 5 w0.heap.size bb (Lib.byteCells ([] ++ decDigits (wd V (nw V - 1)).toNat)) w4 := .inr (by
    have := hψ
    rw [sc_bs, ← bc_append, hit0] at this
    exact this)
   refine wm ?_
   refine cq_loopB (w0 := w0) (γ := Nat) (fun (k : Nat) => [(0, .av (.val (.pointer (some ⟨bx, ox, none⟩)))), (3, .av (.val (.pointer (some ⟨bb, 0, none⟩)))), (4, .av (vi ((k : Int) - 1)))]) (fun k w => k ≤ nw V - 1 ∧ ∃ l, Lib.IsBuilder 331 5 w0.heap.size bb (Lib.byteCells l) w ∧ l ++ tl (wd V) k = itoa (sv false V) ∧ l ≠ []) (fun k => k) (nw V - 1) hZ hb4 (fun _ => rfl) (fun w1 h1 => ⟨Nat.le_refl _, [] ++ decDigits (wd V (nw V - 1)).toNat, isB_below his h1, by rw [hfin]; simp, by simp [dec_ne]⟩) (ent zS trivial) ?_
   clear hb4 his
   rintro k w5 hb5 ⟨hk, l, his, hl, hl0⟩
   refine wm ?_
   (refine cq_cond rfl ?_ ?_ <;> intro hb <;> (try simp only [zA, zB, zG, zC, zD, zN] at hb) <;> (try (exfalso; omega)))
   ·obtain ⟨j, rfl⟩ : ∃ j, k = j + 1 := ⟨k - 1, by omega⟩
    have e : ((j + 1 : Nat) : Int) - 1 = j := by omega
    rw [e]
    have hdj := wd_rng V j
    rw [hBB] at hdj
    have hij := itoa_c (wd V j) zO
    have hij0 : itoa (wd V j) = decDigits (wd V j).toNat := by rw [itoa_pos (by omega)]; congr 1
    have hjl : (itoa (wd V j)).length ≤ 9 := by rw [hij0]; exact dec_len (by omega) (by decide)
    have cwj := cw j zO
    refine wm ?_
    refine sq_g (g_sfrom (itoa (wd V j)).length rfl rfl rfl hjl) rfl ?_
    rw [drop48]
    refine wm ?_
    refine sq_g (g_sadd (l := List.replicate (9 - (itoa (wd V j)).length) 48) (m := itoa (wd V j)) rfl rfl (by rw [List.length_replicate]; omega)) rfl ?_
    refine wm ?_
    have hpad : List.replicate (9 - (itoa (wd V j)).length) 48 ++ itoa (wd V j) = pad (wd V j).toNat := by rw [hij0]; rfl
    rw [hpad]
    have hpl : (pad (wd V j).toNat).length = 9 := pad_len zO
    have hll : l.length ≤ 2089 := by
     have := congrArg List.length hl
     rw [List.length_append] at this
     omega
    refine lsq_wr (w0 := w0) (vs := [.pointer (some ⟨bb, 0, none⟩), .string (bs (pad (wd V j).toNat))]) hZ hb5 rfl (enters_of' Tryz.func277 rfl rfl) rfl (fun w1 h1 => Tryz.Builder_WriteString w0.heap.size bb (Lib.byteCells l) (bs (pad (wd V j).toNat)) w1 (isB_below his h1) (by rw [Lib.byteCells_length]; show l.length + (pad (wd V j).toNat).length ≤ _; omega) (Nat.le_trans hb5.size h1.size)) rfl fun w6 hb6 hψ => ?_
    have his6 : Lib.IsBuilder 331 5 w0.heap.size bb (Lib.byteCells (l ++ pad (wd V j).toNat)) w6 := .inr (by
     have := hψ
     rw [sc_bs, ← bc_append] at this
     exact this)
    clear hb5 his
    refine wm ?_
    exact sq_roundB j hZ hb6 rfl (by omega) (fun w7 h7 => ⟨by omega, l ++ pad (wd V j).toNat, isB_below his6 h7, by rw [List.append_assoc]; exact hl, by simp [hl0]⟩) (ent zS trivial)
   ·obtain rfl : k = 0 := by omega
    have hl : l = itoa (sv false V) := by rw [← hl]; simp [tl]
    subst hl
    refine wm ?_
    refine lsq_wr (w0 := w0) (vs := [.pointer (some ⟨bb, 0, none⟩)]) (u := .string (bs (itoa (sv false V)))) (ψ := fun _ => True) hZ hb5 rfl (enters_of' Tryz.func278 rfl rfl) rfl (fun w1 h1 => Calls.mono (Tryz.Builder_String w0.heap.size bb (itoa (sv false V)) w1 (isB_below his h1) hl0) fun e w2 h => ⟨h.1, trivial, h.2⟩) rfl fun w6 hb6 _ => ?_
    clear hb5 his
    refine wm ?_
    exact sq_resB hZ hb6 rfl rfl
 |_ :: _ :: _, h => exact h.2.elim
theorem ent_freeze_w {T : Tab} {O : Go.Vc.Own} (k r : Nat) {b : Bool} {n : Int} {f : Nat → Int} (hd : T.get k = .own r 0) (hr : Go.Vc.look O r = some (.wi b n f)) : Ent T O ((k, .av (wA b n f)) :: T.frz r .any) (Go.Vc.Own.drop r O) :=
 wA_eq b n f ▸ ent_freeze_vb k r hd hr
theorem sv_read (m : Int) : sv (decide (m < 0)) m.natAbs = m := by
 unfold sv
 by_cases h : m < 0
 ·rw [decide_eq_true h, if_pos rfl]; omega
 ·rw [decide_eq_false h]; simp; omega
theorem sv_abs (b : Bool) (V : Nat) : (sv b V).natAbs = V := by unfold sv; split <;> omega
theorem sv_plus (b : Bool) (V : Nat) (b' : Bool) (W : Nat) : sv (plusR b V b' W).1 (plusR b V b' W).2 = sv b V + sv b' W := by
 unfold plusR
 by_cases hb : b = b'
 ·subst hb
  rw [if_pos rfl]
  unfold sv
  cases b <;> simp <;> omega
 ·rw [if_neg hb]
  by_cases hl : W ≤ V
  ·rw [if_pos hl]
   unfold sv
   cases b <;> cases b' <;> simp at hb ⊢ <;> omega
  ·rw [if_neg hl]
   unfold sv
   cases b <;> cases b' <;> simp at hb ⊢ <;> omega
theorem nw_LI {k j : Nat} {m : Int} (h : LI k m) (hk : k ≤ 9 * j) : nw m.natAbs ≤ j := by
 refine nw_le ?_
 have h1 : m.natAbs < 10 ^ (9 * j) := Nat.lt_of_lt_of_le h (Nat.pow_le_pow_right zE hk)
 rwa [Nat.pow_mul] at h1
theorem nw_LIs {k j : Nat} {b : Bool} {V : Nat} (h : LI k (sv b V)) (hk : k ≤ 9 * j) : nw V ≤ j := by
 have := nw_LI h hk
 rwa [sv_abs] at this
theorem limited_c (b : Bool) (V : Nat) (h : LI 1000 (sv b V)) : CtrA Tryz.prog 239 [wA b (nw V) (wd V)] (tupOf [vI (sv b V), vi 0]) := by
 have h1 := wtext_c b V (Nat.le_trans (nw_LIs (j := 112) h zE) zE)
 have h2 := wcheck_i (sv b V) h
 refine ctrA _ Tryz.func239 rfl rfl Tryz.ntmps239 rfl fun w Z => ?_
 refine zU ?_
 refine wl ?_
 exact zW
def short (m : Int) : Bool := decide ((itoa m).length ≤ 9)
theorem short_b {m : Int} (h : short m = true) : -1000000000 < m ∧ m < 1000000000 := by
 have h : (itoa m).length ≤ 9 := by simpa [short] using h
 by_cases hm : m < 0
 ·rw [itoa_neg hm] at h
  have h2 : LI 9 m := LI.of_len (by simp at h; omega)
  have : m.natAbs < 10 ^ 9 := h2
  omega
 ·rw [itoa_pos hm] at h
  have h2 : LI 9 m := LI.of_len h
  have : m.natAbs < 10 ^ 9 := h2
  omega
theorem small_y (m n : Int) (hm : short m = true) (hn : short n = true) : CtrA Tryz.prog 236 [vI m, vI n] (tupOf [vi m, vi n, vb true]) := by
 have l1 : (itoa m).length ≤ 9 := by simpa [short] using hm
 have l2 : (itoa n).length ≤ 9 := by simpa [short] using hn
 have h1 := atoi_c (itoa m) m zO (atoi_itoa m)
 have h2 := atoi_c (itoa n) n zO (atoi_itoa n)
 refine ctrA _ Tryz.func236 rfl rfl Tryz.ntmps236 rfl fun w Z => ?_
 refine zU ?_
 refine wl ?_
 (first | refine sq_split rfl rfl ?_ ?_ | refine dq_split rfl rfl ?_ ?_) <;> intro hb <;> (try simp only [zA, zB, zG, zC, zD, zN] at hb) <;> (try (exfalso; omega))
 refine wl ?_
 (refine cq_cond rfl ?_ ?_ <;> intro hb <;> (try simp only [zA, zB, zG, zC, zD, zN] at hb) <;> (try (exfalso; omega)))
 refine wl ?_
 exact zX
theorem small_n (m n : Int) (h : (short m && short n) = false) : CtrA Tryz.prog 236 [vI m, vI n] (tupOf [vi 0, vi 0, vb false]) := by
 have l : ¬ ((itoa m).length ≤ 9 ∧ (itoa n).length ≤ 9) := by
  intro h2
  simp [short, h2.1, h2.2] at h
 refine ctrA _ Tryz.func236 rfl rfl Tryz.ntmps236 rfl fun w Z => ?_
 refine zU ?_
 refine wl ?_
 (first | refine sq_split rfl rfl ?_ ?_ | refine dq_split rfl rfl ?_ ?_) <;> intro hb <;> (try simp only [zA, zB, zG, zC, zD, zN] at hb) <;> (try (exfalso; omega))
 ·refine wl ?_
  exact zX
 ·refine wl ?_
  (refine cq_cond rfl ?_ ?_ <;> intro hb <;> (try simp only [zA, zB, zG, zC, zD, zN] at hb) <;> (try (exfalso; omega)))
  refine wl ?_
  exact zX
def acc (g : Nat → Int) : Nat → Bool × Nat
 |0 => (false, 0)
 |i + 1 => plusR (acc g i).1 (acc g i).2 (decide (g i < 0)) (g i).natAbs
def sumI (g : Nat → Int) : Nat → Int
 |0 => 0
 |i + 1 => sumI g i + g i
theorem acc_sum (g : Nat → Int) : ∀ n, sv (acc g n).1 (acc g n).2 = sumI g n
 |0 => rfl
 |n + 1 => by rw [acc, sv_plus, acc_sum g n, sv_read, sumI]
theorem sum_c (n : Nat) (g : Nat → Int) (hn : n ≤ 1000000) (hg : ∀ i, i < n → LI 1000 (g i)) (hs : ∀ i, i ≤ n → LI 2000 (sumI g i)) (h : LI 1000 (sumI g n)) : CtrA Tryz.prog 241 [.sl n 1 (fun i _ => vI (g i))] (tupOf [vI (sumI g n), vi 0]) := by
 have hw : ∀ i, i ≤ n → nw (acc g i).2 ≤ 232 := fun i hi => Nat.le_trans (nw_LIs (j := 223) (b := (acc g i).1) (by rw [acc_sum]; exact hs i hi) (by decide)) (by decide)
 have hli := limited_c (acc g n).1 (acc g n).2 (by rw [acc_sum]; exact h)
 rw [acc_sum] at hli
 refine ctrA _ Tryz.func241 rfl rfl Tryz.ntmps241 rfl fun w Z => ?_
 refine zU ?_
 refine wl ?_
 refine sq_g (g_build (is := []) (xs := []) (vs := []) tb285 rfl rfl) rfl ?_
 refine sq_v (f_box_w 7 rfl rfl) rfl ?_
 refine wl ?_
 refine cq_loop (γ := Nat) (fun i => [(4, .own 7 0), (9, .av (.sl n 1 (fun i _ => vI (g i)))), (10, .av (vi n)), (11, .av (vi i))]) (fun i => [(7, .wi (acc g i).1 (nw (acc g i).2) (wd (acc g i).2))]) (fun i => i ≤ n) (fun i => n - i) 0 (Nat.zero_le _) (ent zS ⟨⟨_, rfl, by
  show RLe _ (Res.wi false ((nw 0 : Nat) : Int) (wd 0))
  rw [nw_zero, wd_z]; exact .refl _⟩, trivial⟩) ?_
 intro i hi
 refine wl ?_
 (refine cq_cond rfl ?_ ?_ <;> intro hb <;> (try simp only [zA, zB, zG, zC, zD, zN] at hb) <;> (try (exfalso; omega)))
 ·have hgi := hg i zO
  have hgn := nw_LI (j := 112) hgi zE
  have hrd := wread_c (g i) (by
   have := LI.len hgi zE; omega)
  have hpl := wplus_c (acc g i).1 (decide (g i < 0)) (acc g i).2 (g i).natAbs (hw i hi) zO (hw (i + 1) zO)
  refine wl ?_
  refine sq_v (v_call_h [(7, 8)] hrd rfl trivial rfl) rfl ?_
  refine lsq_more (.trans (ent_freeze_w 17 8 rfl rfl) (ent (T' := [(15, .own 7 0), (17, .av (wA (decide (g i < 0)) (nw (g i).natAbs) (wd (g i).natAbs))), (4, .own 7 0), (9, .av (.sl n 1 (fun i _ => vI (g i)))), (10, .av (vi n)), (11, .av (vi i))]) (O' := [(7, .wi (acc g i).1 (nw (acc g i).2) (wd (acc g i).2))]) zS zT)) ?_
  refine sq_v (v_call_h [(1000, 7)] hpl rfl ⟨rfl, trivial⟩ rfl) rfl ?_
  refine wl ?_
  exact sq_round (i + 1) zO zO (ent zS zT)
 ·obtain rfl : i = n := by omega
  refine wl ?_
  refine sq_g (g_call_r hli rfl ⟨.w rfl rfl, trivial⟩ (flat_tup [_, _])) rfl ?_
  refine wl ?_
  exact zW
theorem opposite_c (m : Int) (hm : LI 1000 m) : CtrA Tryz.prog 185 [vI m] (vI (-m)) := by
 have h1 := sign_c m
 have hlen := hm.len zE
 by_cases h0 : m = 0
 ·have e : sgn m = 0 := by unfold sgn; rw [if_pos h0]
  rw [e] at h1
  refine ctrA _ Tryz.func185 rfl rfl Tryz.ntmps185 rfl fun w Z => ?_
  refine zU ?_
  refine wl ?_
  exact sq_res1 rfl (.tmp rfl) (congrArg vI zO)
 ·by_cases hn : m < 0
  ·have e : sgn m = -1 := by unfold sgn; rw [if_neg h0, if_pos hn]
   rw [e] at h1
   refine ctrA _ Tryz.func185 rfl rfl Tryz.ntmps185 rfl fun w Z => ?_
   refine zU ?_
   refine wl ?_
   refine sq_g (g_sfrom 1 rfl rfl rfl (by rw [itoa_neg hn]; simp)) rfl ?_
   refine wl ?_
   have e2 : (itoa m).drop 1 = itoa (-m) := by
    have hneg : ¬ -m < 0 := by omega
    rw [itoa_neg hn, itoa_pos hneg, Int.natAbs_neg]; rfl
   exact sq_res1 rfl (.tmp rfl) (congrArg vS e2)
  ·have e : sgn m = 1 := by unfold sgn; rw [if_neg h0, if_neg hn]
   rw [e] at h1
   refine ctrA _ Tryz.func185 rfl rfl Tryz.ntmps185 rfl fun w Z => ?_
   refine zU ?_
   refine wl ?_
   refine sq_g (g_sadd (l := [45]) (m := itoa m) rfl rfl (by rw [itoa_pos hn]; simp only [List.length_cons, List.length_nil]; omega)) rfl ?_
   refine wl ?_
   have e2 : [45] ++ itoa m = itoa (-m) := by
    have hneg : -m < 0 := by omega
    rw [itoa_pos hn, itoa_neg hneg, Int.natAbs_neg]; rfl
   exact sq_res1 rfl (.tmp rfl) (congrArg vS e2)
theorem all2_c (m n : Int) (hm : LI 1000 m) (hn : LI 1000 n) : CtrA Tryz.prog 227 [.sl 2 1 (fun i _ => vI (two m n i))] (vi 0) :=
 all_c 2 (two m n) zE (fun i hi => by rcases (by omega : i = 0 ∨ i = 1) with rfl | rfl <;> assumption)
theorem wadd_c (m n : Int) (hm : LI 1000 m) (hn : LI 1000 n) (hs : LI 1000 (m + n)) : CtrA Tryz.prog 188 [vI m, vI n] (tupOf [vI (m + n), vi 0]) := by
 have h0 := all2_c m n hm hn
 cases hsm : (short m && short n) with
 |true =>
  rw [Bool.and_eq_true] at hsm
  have h1 := small_y m n hsm.1 hsm.2
  have b1 := short_b hsm.1
  have b2 := short_b hsm.2
  have h2 := result_c (m + n) zO
  refine ctrA _ Tryz.func188 rfl rfl Tryz.ntmps188 rfl fun w Z => ?_
  refine zU ?_
  refine wl ?_
  refine sq_g (g_two rfl rfl) rfl ?_
  refine wl ?_
  exact zW
 |false =>
  have h1 := small_n m n hsm
  have e : sumI (two m n) 2 = m + n := by show 0 + m + n = _; omega
  have h2 := sum_c 2 (two m n) zE (fun i hi => by rcases (by omega : i = 0 ∨ i = 1) with rfl | rfl <;> assumption) (fun i hi => by
   rcases (by omega : i = 0 ∨ i = 1 ∨ i = 2) with rfl | rfl | rfl
   ·exact LI.small (show (0 : Int).natAbs < 10 by decide) zE
   ·have : sumI (two m n) 1 = m := by show 0 + m = _; omega
    rw [this]; exact hm.mono (by decide)
   ·rw [e]; exact hs.mono (by decide)) (by rw [e]; exact hs)
  rw [e] at h2
  refine ctrA _ Tryz.func188 rfl rfl Tryz.ntmps188 rfl fun w Z => ?_
  refine zU ?_
  refine wl ?_
  refine sq_g (g_two rfl rfl) rfl ?_
  refine wl ?_
  refine sq_g (g_two rfl rfl) rfl ?_
  refine wl ?_
  exact zW
theorem wsub_c (m n : Int) (hm : LI 1000 m) (hn : LI 1000 n) (hs : LI 1000 (m - n)) : CtrA Tryz.prog 182 [vI m, vI n] (tupOf [vI (m - n), vi 0]) := by
 have h0 := all2_c m n hm hn
 have h1 := opposite_c n hn
 have h2 := wadd_c m (-n) hm hn.neg (by rw [← Int.sub_eq_add_neg]; exact hs)
 rw [← Int.sub_eq_add_neg] at h2
 refine ctrA _ Tryz.func182 rfl rfl Tryz.ntmps182 rfl fun w Z => ?_
 refine zU ?_
 refine wl ?_
 refine sq_g (g_two rfl rfl) rfl ?_
 refine wl ?_
 exact zW
theorem wneg_c (m : Int) (hm : LI 1000 m) : CtrA Tryz.prog 125 [vI m] (tupOf [vI (-m), vi 0]) := by
 have h0 := wcheck_i m hm
 have h1 := opposite_c m hm
 refine ctrA _ Tryz.func125 rfl rfl Tryz.ntmps125 rfl fun w Z => ?_
 refine zU ?_
 refine wl ?_
 exact zW
theorem sv_mul (b b' : Bool) (V W : Nat) : sv (b != b') (V * W) = sv b V * sv b' W := by
 unfold sv
 cases b <;> cases b' <;> simp [Int.mul_neg, Int.neg_mul]
theorem wmul_c (m n : Int) (hm : LI 1000 m) (hn : LI 1000 n) (hs : LI 1000 (m * n)) : CtrA Tryz.prog 183 [vI m, vI n] (tupOf [vI (m * n), vi 0]) := by
 have h0 := all2_c m n hm hn
 cases hsm : (short m && short n) with
 |true =>
  rw [Bool.and_eq_true] at hsm
  have h1 := small_y m n hsm.1 hsm.2
  have b1 := short_b hsm.1
  have b2 := short_b hsm.2
  have hmn : -1000000000000000000 ≤ m * n ∧ m * n ≤ 1000000000000000000 := by
   have q1 : m.natAbs * n.natAbs ≤ 1000000000 * 1000000000 := Nat.mul_le_mul zO zO
   rw [← Int.natAbs_mul] at q1
   generalize m * n = p at *
   omega
  have h2 := result_c (m * n) zO
  refine ctrA _ Tryz.func183 rfl rfl Tryz.ntmps183 rfl fun w Z => ?_
  refine zU ?_
  refine wl ?_
  refine sq_g (g_two rfl rfl) rfl ?_
  refine wl ?_
  exact zW
 |false =>
  have h1 := small_n m n hsm
  have n1 := nw_LI (j := 112) hm zE
  have n2 := nw_LI (j := 112) hn zE
  have r1 := wread_c m (Nat.le_trans (hm.len zE) zE)
  have r2 := wread_c n (Nat.le_trans (hn.len zE) zE)
  have ht := wtimes_c (decide (m < 0)) (decide (n < 0)) m.natAbs n.natAbs zO
  have e := sv_mul (decide (m < 0)) (decide (n < 0)) m.natAbs n.natAbs
  rw [sv_read, sv_read] at e
  have hl := limited_c (decide (m < 0) != decide (n < 0)) (m.natAbs * n.natAbs) (by rw [e]; exact hs)
  rw [e] at hl
  refine ctrA _ Tryz.func183 rfl rfl Tryz.ntmps183 rfl fun w Z => ?_
  refine zU ?_
  refine wl ?_
  refine sq_g (g_two rfl rfl) rfl ?_
  refine wl ?_
  refine sq_v (v_call_h [(7, 8)] r1 rfl trivial rfl) rfl ?_
  refine lsq_more (.trans (ent_freeze_w 32 8 rfl rfl) (ent (T' := [(1, .av (vI n)), (32, .av (wA (decide (m < 0)) (nw m.natAbs) (wd m.natAbs)))]) (O' := []) zS trivial)) ?_
  refine wl ?_
  refine sq_v (v_call_h [(7, 9)] r2 rfl trivial rfl) rfl ?_
  refine lsq_more (.trans (ent_freeze_w 34 9 rfl rfl) (ent (T' := [(32, .av (wA (decide (m < 0)) (nw m.natAbs) (wd m.natAbs))), (34, .av (wA (decide (n < 0)) (nw n.natAbs) (wd n.natAbs)))]) (O' := []) zS trivial)) ?_
  refine sq_v (v_call_h [] ht rfl trivial rfl) rfl ?_
  refine sq_g (g_call_r hl rfl ⟨.w rfl rfl, trivial⟩ (flat_tup [_, _])) rfl ?_
  refine wl ?_
  exact zW
end Go.Proofs.YtgepmbjmaljgoaaGreatDoor
namespace Go.Na
open Go
theorem fdiv_t {m n : Int} (hn : n ≠ 0) : (m.tmod n ≠ 0 ∧ ¬ (m.tmod n < 0 ↔ n < 0) → m.fdiv n = m.tdiv n - 1 ∧ m.fmod n = m.tmod n + n) ∧ (¬ (m.tmod n ≠ 0 ∧ ¬ (m.tmod n < 0 ↔ n < 0)) → m.fdiv n = m.tdiv n ∧ m.fmod n = m.tmod n) := by
 have h1 := Int.tmod_add_mul_tdiv m n
 have h2 : (m.tmod n).natAbs < n.natAbs := by
  rw [Int.natAbs_tmod]; exact Nat.mod_lt _ (by omega)
 generalize m.tmod n = r at *
 generalize m.tdiv n = q at *
 refine ⟨fun h => fdiv_unique (by rw [← h1, Int.sub_mul, Int.mul_comm]; omega) (by omega), fun h => fdiv_unique (by rw [← h1, Int.mul_comm]; omega) (by omega)⟩
theorem tdiv_b {m n : Int} (h : -1000000000 < m ∧ m < 1000000000) : -1000000000 < m.tdiv n ∧ m.tdiv n < 1000000000 := by
 have : (m.tdiv n).natAbs ≤ m.natAbs := by rw [Int.natAbs_tdiv]; exact Nat.div_le_self _ _
 omega
theorem tmod_b {m n : Int} (h : -1000000000 < m ∧ m < 1000000000) : -1000000000 < m.tmod n ∧ m.tmod n < 1000000000 := by
 have : (m.tmod n).natAbs ≤ m.natAbs := by rw [Int.natAbs_tmod]; exact Nat.mod_le _ _
 omega
end Go.Na
namespace Go.Proofs.YtgepmbjmaljgoaaGreatDoor
open Go Go.Vc Go.RowKit Go.Na Go.Lib
set_option maxHeartbeats 4000000
theorem parted_s (m n : Int) (hm : LI 1000 m) (hn : LI 1000 n) (h0 : n ≠ 0) (hsm : short m = true ∧ short n = true) : CtrA Tryz.prog 282 [vI m, vI n] (tupOf [vI (m.fdiv n), vI (m.fmod n), vi 0]) := by
 have h00 := all2_c m n hm hn
 have hz := itoa_is0 n
 rw [decide_eq_false h0] at hz
 have h1 := small_y m n hsm.1 hsm.2
 have b1 := short_b hsm.1
 have b2 := short_b hsm.2
 have b3 := tdiv_b (n := n) b1
 have b4 := tmod_b (n := n) b1
 obtain ⟨k1, k2⟩ := fdiv_t (m := m) h0
 by_cases hc : m.tmod n ≠ 0 ∧ ¬ (m.tmod n < 0 ↔ n < 0)
 ·obtain ⟨e1, e2⟩ := k1 hc
  have w1 := wof_c (m.tdiv n - 1) zO
  have w2 := wof_c (m.tmod n + n) zO
  rw [e1, e2]
  refine ctrA _ Tryz.func282 rfl rfl Tryz.ntmps282 rfl fun w Z => ?_
  refine zU ?_
  refine wl ?_
  refine sq_g (g_two rfl rfl) rfl ?_
  refine wl ?_
  rw [hz]
  refine wl ?_
  have e3 : (!(decide (m.tmod n < 0) == decide (n < 0))) = true := by
   by_cases x1 : m.tmod n < 0 <;> by_cases x2 : n < 0 <;> simp [x1, x2] at hc ⊢
  (first | refine sq_split rfl rfl ?_ ?_ | refine dq_split rfl rfl ?_ ?_) <;> intro hb <;> (try simp only [zA, zB, zG, zC, zD, zN] at hb) <;> (try (exfalso; omega))
  refine wl ?_
  rw [e3]
  refine wl ?_
  exact zX
 ·obtain ⟨e1, e2⟩ := k2 hc
  have w1 := wof_c (m.tdiv n) zO
  have w2 := wof_c (m.tmod n) zO
  rw [e1, e2]
  refine ctrA _ Tryz.func282 rfl rfl Tryz.ntmps282 rfl fun w Z => ?_
  refine zU ?_
  refine wl ?_
  refine sq_g (g_two rfl rfl) rfl ?_
  refine wl ?_
  rw [hz]
  refine wl ?_
  by_cases hr0 : m.tmod n = 0
  ·(first | refine sq_split rfl rfl ?_ ?_ | refine dq_split rfl rfl ?_ ?_) <;> intro hb <;> (try simp only [zA, zB, zG, zC, zD, zN] at hb) <;> (try (exfalso; omega))
   refine wl ?_
   exact zX
  ·have e3 : (!(decide (m.tmod n < 0) == decide (n < 0))) = false := by
    by_cases x1 : m.tmod n < 0 <;> by_cases x2 : n < 0 <;> simp [x1, x2, hr0] at hc ⊢
   (first | refine sq_split rfl rfl ?_ ?_ | refine dq_split rfl rfl ?_ ?_) <;> intro hb <;> (try simp only [zA, zB, zG, zC, zD, zN] at hb) <;> (try (exfalso; omega))
   refine wl ?_
   rw [e3]
   refine wl ?_
   exact zX
theorem tb285t : Tryz.prog.built 285 [(0, .bool true), (1, .int .i64 1)] = some (wvs 232 true 1 (fun _ => 0)).toArray := by kernel_rfl
theorem wd_one : upd (fun _ => 0) 0 1 = wd 1 := by
 funext i
 unfold upd
 cases i with
 |zero => rfl
 |succ i =>
  rw [if_neg (by omega), wd_out]
  have : nw 1 = 1 := by rw [nw_pos (by decide), nw_eq0.2 (by decide)]
  omega
theorem nw_one : nw 1 = 1 := by rw [nw_pos (by decide), nw_eq0.2 (by decide)]
theorem parted_l (m n : Int) (hm : LI 1000 m) (hn : LI 1000 n) (h0 : n ≠ 0) (hsm : (short m && short n) = false) : CtrA Tryz.prog 282 [vI m, vI n] (tupOf [vI (m.fdiv n), vI (m.fmod n), vi 0]) := by
 have h00 := all2_c m n hm hn
 have hz := itoa_is0 n
 rw [decide_eq_false h0] at hz
 have h1 := small_n m n hsm
 have n1 := nw_LI (j := 112) hm zE
 have n2 := nw_LI (j := 112) hn zE
 have r1 := wread_c m (Nat.le_trans (hm.len zE) zE)
 have r2 := wread_c n (Nat.le_trans (hn.len zE) zE)
 have hN0 : n.natAbs ≠ 0 := by omega
 have hd := wdivided_c (decide (m < 0)) (decide (n < 0)) m.natAbs n.natAbs zO zO hN0
 have hnq : nw (m.natAbs / n.natAbs) ≤ 112 := Nat.le_trans (nw_mono (Nat.div_le_self _ _)) n1
 have hnr : nw (m.natAbs % n.natAbs) ≤ 112 := Nat.le_trans (nw_mono (Nat.mod_le _ _)) n1
 have hdm := Nat.div_add_mod m.natAbs n.natAbs
 have hrl : m.natAbs % n.natAbs < n.natAbs := Nat.mod_lt _ zO
 have hms := sv_read m
 have hns := sv_read n
 generalize m.natAbs / n.natAbs = Q at *
 generalize m.natAbs % n.natAbs = R at *
 generalize hM : m.natAbs = M at *
 generalize hNn : n.natAbs = Nn at *
 generalize decide (m < 0) = bm at *
 generalize decide (n < 0) = bn at *
 refine ctrA _ Tryz.func282 rfl rfl Tryz.ntmps282 rfl fun w Z => ?_
 refine zU ?_
 refine wl ?_
 refine sq_g (g_two rfl rfl) rfl ?_
 refine wl ?_
 rw [hz]
 refine wl ?_
 refine sq_v (v_call_h [(7, 18)] r1 rfl trivial rfl) rfl ?_
 refine lsq_more (.trans (ent_freeze_w 60 18 rfl rfl) (ent (T' := [(1, .av (vI n)), (60, .av (wA bm (nw M) (wd M)))]) (O' := []) zS trivial)) ?_
 refine wl ?_
 refine sq_v (v_call_h [(7, 19)] r2 rfl trivial rfl) rfl ?_
 refine lsq_more (.trans (ent_freeze_w 62 19 rfl rfl) (ent (T' := [(60, .av (wA bm (nw M) (wd M))), (62, .av (wA bn (nw Nn) (wd Nn)))]) (O' := []) zS trivial)) ?_
 refine wl ?_
 refine sq_v (v_call_h [] hd rfl trivial rfl) rfl ?_
 refine sq_g (g_move (s := .tupC [.own 7 0, .own 8 0]) rfl) rfl ?_
 refine wl ?_
 have hRn : 0 < nw R ↔ R ≠ 0 := by
  have := nw_eq0 (V := R)
  omega
 have hmag : m = sv bm (Nn * Q + R) := by rw [← hms, hdm]
 by_cases hc : R ≠ 0 ∧ bm ≠ bn
 ·obtain ⟨hR, hb⟩ := hc
  have e4 : (!(bm == bn)) = true := by simp [hb]
  rw [e4]
  have p1 : plusR true Q true 1 = (true, Q + 1) := by unfold plusR; rw [if_pos rfl]
  have p2 : plusR bm R bn Nn = (bn, Nn - R) := by unfold plusR; rw [if_neg hb, if_neg (by omega)]
  have nq1 : nw (Q + 1) ≤ 113 := by
   refine nw_le ?_
   have := Nat.lt_of_lt_of_le (lt_nw Q) (Nat.pow_le_pow_right (show 0 < 1000000000 by decide) hnq)
   rw [show (113 : Nat) = 112 + 1 by rfl, Nat.pow_succ]
   omega
  have nr1 : nw (Nn - R) ≤ 112 := Nat.le_trans (nw_mono (Nat.sub_le _ _)) n2
  have c1 := wplus_c true true Q 1 (by omega) (by rw [nw_one]; decide) (by rw [p1]; show nw (Q + 1) ≤ 232; omega)
  have c2 := wplus_c bm bn R Nn (by omega) (by omega) (by rw [p2]; show nw (Nn - R) ≤ 232; omega)
  rw [p1] at c1
  rw [p2] at c2
  have t1 := wtext_c true (Q + 1) zO
  have t2 := wtext_c bn (Nn - R) zO
  have hv := fdiv_unique (m := m) (n := n) (q := sv true (Q + 1)) (r := sv bn (Nn - R)) (by
   rw [hmag, ← hns]
   unfold sv
   have hcast : ((Nn - R : Nat) : Int) = Nn - R := by omega
   cases bm <;> cases bn <;> simp at hb ⊢ <;> rw [hcast] <;> grind) (by
   rw [← hns]
   unfold sv
   cases bn <;> simp <;> omega)
  obtain ⟨v1, v2⟩ := hv
  (first | refine sq_split rfl rfl ?_ ?_ | refine dq_split rfl rfl ?_ ?_) <;> intro hb <;> (try simp only [zA, zB, zG, zC, zD, zN] at hb) <;> (try (exfalso; omega))
  refine wl ?_
  rw [e4]
  refine wl ?_
  refine sq_g (g_build (is := [0, 1]) (xs := [_, _]) (vs := [.bool true, .int .i64 1]) tb285t rfl rfl) rfl ?_
  refine sq_v (f_box_w 19 rfl rfl) rfl ?_
  refine wl ?_
  refine sq_s (g_store_ww 0 rfl rfl rfl rfl zE) ?_
  refine wl ?_
  refine lsq_more (.trans (ent_w 19 (n' := ((nw 1 : Nat) : Int)) (f' := wd 1) rfl rfl (by rw [nw_one]; rfl) wd_one) (.trans (ent_freeze_w 114 19 rfl rfl) (ent (T' := [(113, .own 7 0), (114, .av (wA true (nw 1) (wd 1))), (14, .av (wA bn (nw Nn) (wd Nn))), (15, .own 7 0), (16, .own 8 0)]) (O' := [(7, .wi true (nw Q) (wd Q)), (8, .wi bm (nw R) (wd R))]) zS zT))) ?_
  refine sq_v (v_call_h [(1000, 7)] c1 rfl ⟨rfl, trivial⟩ rfl) rfl ?_
  refine wl ?_
  refine sq_v (v_call_h [(1000, 8)] c2 rfl ⟨rfl, trivial⟩ rfl) rfl ?_
  refine wl ?_
  refine sq_g (g_call_r t1 rfl ⟨.w rfl rfl, trivial⟩ (flat_val _)) rfl ?_
  refine wl ?_
  refine sq_g (g_call_r t2 rfl ⟨.w rfl rfl, trivial⟩ (flat_val _)) rfl ?_
  refine wl ?_
  exact sq_resN (rvs := [_, _, _]) (τs := [_, _, _]) rfl rfl ⟨.tmp rfl, .tmp rfl, .tmp rfl, trivial⟩ (by rw [v1, v2])
 ·have hv := fdiv_unique (m := m) (n := n) (q := sv (!(bm == bn)) Q) (r := sv bm R) (by
   rw [hmag, ← hns]
   unfold sv
   cases bm <;> cases bn <;> simp at hc ⊢ <;> grind) (by
   rw [← hns]
   unfold sv
   cases bm <;> cases bn <;> simp at hc ⊢ <;> omega)
  obtain ⟨v1, v2⟩ := hv
  have t1 := wtext_c (!(bm == bn)) Q zO
  have t2 := wtext_c bm R zO
  by_cases hR : R = 0
  ·(first | refine sq_split rfl rfl ?_ ?_ | refine dq_split rfl rfl ?_ ?_) <;> intro hb <;> (try simp only [zA, zB, zG, zC, zD, zN] at hb) <;> (try (exfalso; omega))
   refine wl ?_
   refine sq_g (g_call_r t1 rfl ⟨.w rfl rfl, trivial⟩ (flat_val _)) rfl ?_
   refine wl ?_
   refine sq_g (g_call_r t2 rfl ⟨.w rfl rfl, trivial⟩ (flat_val _)) rfl ?_
   refine wl ?_
   exact sq_resN (rvs := [_, _, _]) (τs := [_, _, _]) rfl rfl ⟨.tmp rfl, .tmp rfl, .tmp rfl, trivial⟩ (by rw [v1, v2])
  ·have e4 : (!(bm == bn)) = false := by
    simp at hc
    simp [hc hR]
   rw [e4] at t1 v1 ⊢
   (first | refine sq_split rfl rfl ?_ ?_ | refine dq_split rfl rfl ?_ ?_) <;> intro hb <;> (try simp only [zA, zB, zG, zC, zD, zN] at hb) <;> (try (exfalso; omega))
   refine wl ?_
   rw [e4]
   refine wl ?_
   refine sq_g (g_call_r t1 rfl ⟨.w rfl rfl, trivial⟩ (flat_val _)) rfl ?_
   refine wl ?_
   refine sq_g (g_call_r t2 rfl ⟨.w rfl rfl, trivial⟩ (flat_val _)) rfl ?_
   refine wl ?_
   exact sq_resN (rvs := [_, _, _]) (τs := [_, _, _]) rfl rfl ⟨.tmp rfl, .tmp rfl, .tmp rfl, trivial⟩ (by rw [v1, v2])
theorem wparted_c (m n : Int) (hm : LI 1000 m) (hn : LI 1000 n) (h0 : n ≠ 0) : CtrA Tryz.prog 282 [vI m, vI n] (tupOf [vI (m.fdiv n), vI (m.fmod n), vi 0]) := by
 cases hsm : (short m && short n) with
 |true => exact parted_s m n hm hn h0 (by rwa [Bool.and_eq_true] at hsm)
 |false => exact parted_l m n hm hn h0 hsm
theorem wquo_c (m n : Int) (hm : LI 1000 m) (hn : LI 1000 n) (h0 : n ≠ 0) (hq : LI 1000 (m.fdiv n)) : CtrA Tryz.prog 235 [vI m, vI n] (tupOf [vI (m.fdiv n), vi 0]) := by
 have h1 := wparted_c m n hm hn h0
 have h2 := wcheck_i _ hq
 refine ctrA _ Tryz.func235 rfl rfl Tryz.ntmps235 rfl fun w Z => ?_
 refine zU ?_
 refine wl ?_
 exact zW
end Go.Proofs.YtgepmbjmaljgoaaGreatDoor
