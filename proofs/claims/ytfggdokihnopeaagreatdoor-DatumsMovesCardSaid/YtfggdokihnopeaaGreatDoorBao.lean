/- A part of the proof. -/
import Derived.Test.YtfggdokihnopeaaGreatDoorBai
import Derived.Test.YtfggdokihnopeaaGreatDoorBam
import Derived.Test.YtfggdokihnopeaaGreatDoorBan
set_option linter.unusedVariables false
set_option linter.unusedSimpArgs false
namespace Go.Proofs.YtfggdokihnopeaaGreatDoor
open Go Go.Vc Go.RowKit Go.Na Go.Lib
set_option maxHeartbeats 4000000
def sv (b : Bool) (V : Nat) : Int := if b then -(V : Int) else V
theorem K1y {V : Nat} (h : V ≠ 0) : decDigits (wd V (nw V - 1)).toNat ++ tl (wd V) (nw V - 1) = decDigits V := by
 have e : nw V - 1 + 1 = nw V := by have := z0R h; omega
 have := W1c (f := wd V) (fun i => (q0y V i).1) (fun i => (q0y V i).2) (n := nw V - 1) (y0f h)
 rw [e, z0Z _ _ (v0W V)] at this
 rw [this, Int.toNat_natCast]
theorem K0K {V : Nat} (h : nw V ≤ 232) : (decDigits V).length ≤ 2088 := by
 have key : ∀ m, nw V ≤ m → 0 < m → (decDigits V).length ≤ 9 * m := fun m hm h0 => v0q (by
  have h1 := Nat.lt_of_lt_of_le (v0W V) (Nat.pow_le_pow_right zE hm)
  rw [Nat.pow_mul]; exact h1) (by omega)
 exact key 232 h zE
theorem X0P : itoa 0 = [48] := by
 rw [j0G (by omega)]
 show decDigits 0 = _
 rw [decDigits]; rfl
theorem y1V (l : List UInt8) : Lib.strCells (bs l) = Lib.byteCells l := rfl
theorem y0A (l m : List UInt8) : Lib.byteCells (l ++ m) = Lib.byteCells l ++ Lib.byteCells m := by simp [Lib.byteCells]
theorem z1S (n : Nat) : ([48, 48, 48, 48, 48, 48, 48, 48, 48] : List UInt8).drop n = List.replicate (9 - n) 48 := by
 show (List.replicate 9 48).drop n = _
 rw [List.drop_replicate]
theorem z0J (b : Bool) (V : Nat) (hV : nw V ≤ 232) : CtrA Tryz.prog 231 [wA b (nw V) (wd V)] (vI (sv b V)) := by
 have hlen := K0K hV
 refine X1k _ Tryz.func231 rfl rfl Tryz.ntmps231 rfl fun w0 Z vs hZ hvs => ?_
 match vs, hvs with
 |[], h => exact h.elim
 |[v0], h =>
 obtain ⟨bx, ox, rfl, hz, hlt, hcell⟩ := h.1
 have hcl : ∀ i, i < 234 → w0.cell? ⟨bx, ox + i, none⟩ = some ((wvs 232 b (nw V) (wd V)).getD i undef) := fun i hi => by
  obtain ⟨u, h1, h2⟩ := hcell i hi
  have : u = _ := h2
  rw [h1, this]
 have cb : w0.cell? ⟨bx, ox + 0, none⟩ = some (.bool b) := hcl 0 zE
 have cn : w0.cell? ⟨bx, ox + 1, none⟩ = some (.int .i64 (nw V)) := hcl 1 zE
 have cw : ∀ k, k < 232 → w0.cell? ⟨bx, ox + 2 + k, none⟩ = some (.int .i64 (wd V k)) := fun k hk => by
  have := hcl (k + 2) zO
  rw [List.getD, w0b rfl hk] at this
  rw [show ox + 2 + k = ox + (k + 2) by omega]
  exact this
 have hbw := Below.refl w0.heap.size w0
 refine zU ?_
 refine wm ?_
 (refine j0a rfl ?_ ?_ <;> intro hb <;> (try simp only [zA, zB, zG, zC, zD, zN] at hb) <;> (try exact zQ))
 ·have h0 : V = 0 := V0B.1 zO
  subst h0
  refine wm ?_
  exact j0c rfl (.tmp rfl) (by rw [show sv b ((0 : Nat)) = 0 by cases b <;> rfl]; show _ = vS (itoa 0); rw [X0P])
 ·have h0 : V ≠ 0 := fun e => by subst e; exact hb (by rw [q0L]; rfl)
  refine J0Q ?_
  refine Q0F ?_
  refine v0D ?_
  refine j0V ?_
  refine j1h (w0 := w0) hZ hbw rfl rfl fun bb w2 hb2 hge hbk => ?_
  clear hbw
  have his : Lib.IsBuilder 355 5 w0.heap.size bb (Lib.byteCells []) w2 := .inl ⟨hge, .slice none 0 0, hbk, World.ownsRow_nil _ _ _ _, by simp [Value.ownBlock]⟩
  have hfin : itoa (sv b V) = (if b then [45] else []) ++ (decDigits (wd V (nw V - 1)).toNat ++ tl (wd V) (nw V - 1)) := by
   rw [K1y h0]
   cases b with
   |true =>
    have hneg : -(V : Int) < 0 := by omega
    rw [show sv true V = -(V : Int) by rfl, itoa_neg hneg]; simp
   |false =>
    have hneg : ¬ (V : Int) < 0 := by omega
    rw [show sv false V = (V : Int) by rfl, j0G hneg]; simp
  have hfl : (itoa (sv b V)).length ≤ 2089 := by
   rw [hfin, K1y h0, List.length_append]
   cases b <;> simp <;> omega
  have hd0 := q0y V (nw V - 1)
  have hBB : Na.B = 1000000000 := rfl
  rw [hBB] at hd0
  have hit := k0G (wd V (nw V - 1)) zO
  have hit0 : itoa (wd V (nw V - 1)) = decDigits (wd V (nw V - 1)).toNat := by rw [j0G (by omega)]; congr 1
  have cwt := cw (nw V - 1) zO
  refine wm ?_
  (refine j0a rfl ?_ ?_ <;> intro hb <;> (try simp only [zA, zB, zG, zC, zD, zN] at hb) <;> (try exact zQ))
  ·subst hb
   refine wm ?_
   refine Q0o (w0 := w0) (vs := [.pointer (some ⟨bb, 0, none⟩), .int .u8 45]) hZ hb2 rfl (j0X Tryz.func295 rfl rfl) rfl (fun w1 h1 => Tryz.Builder_WriteByte w0.heap.size bb (Lib.byteCells []) 45 w1 (q0F his h1) (by simp [Lib.byteCells]) (Nat.le_trans hb2.size h1.size)) rfl fun w3 hb3 hψ => ?_
   clear hb2 his
   have his : Lib.IsBuilder 355 5 w0.heap.size bb (Lib.byteCells [45]) w3 := .inr hψ
   have hfin : itoa (sv true V) = [45] ++ (decDigits (wd V (nw V - 1)).toNat ++ tl (wd V) (nw V - 1)) := hfin
   refine wm ?_
   refine q0n (J0o (k := nw V - 1) rfl rfl zO zO) rfl ?_
   refine wm ?_
   refine q1A tm (by kernel_rfl) (by kernel_rfl) ?_
   refine Q0o (w0 := w0) (vs := [.pointer (some ⟨bb, 0, none⟩), .string (bs (itoa (wd V (nw V - 1))))]) hZ hb3 rfl (j0X Tryz.func296 rfl rfl) rfl (fun w1 h1 => Tryz.Builder_WriteString w0.heap.size bb (Lib.byteCells [45]) (bs (itoa (wd V (nw V - 1)))) w1 (q0F his h1) (by rw [Lib.byteCells_length]; show ([45] : List UInt8).length + (itoa (wd V (nw V - 1))).length ≤ _; rw [hit0]; have := congrArg List.length hfin; simp only [List.length_append] at this; simp only [List.length_cons, List.length_nil] at *; omega) (Nat.le_trans hb3.size h1.size)) rfl fun w4 hb4 hψ => ?_
   clear hb3 his
   have his : Lib.IsBuilder 355 5 w0.heap.size bb (Lib.byteCells ([45] ++ decDigits (wd V (nw V - 1)).toNat)) w4 := .inr (by
    have := hψ
    rw [y1V, ← y0A, hit0] at this
    exact this)
   refine wm ?_
   refine k0b (w0 := w0) (γ := Nat) (fun (k : Nat) => [(0, .av (.val (.pointer (some ⟨bx, ox, none⟩)))), (3, .av (.val (.pointer (some ⟨bb, 0, none⟩)))), (4, .av (vi ((k : Int) - 1)))]) (fun k w => k ≤ nw V - 1 ∧ ∃ l, Lib.IsBuilder 355 5 w0.heap.size bb (Lib.byteCells l) w ∧ l ++ tl (wd V) k = itoa (sv true V) ∧ l ≠ []) (fun k => k) (nw V - 1) hZ hb4 (fun _ => rfl) (fun w1 h1 => ⟨Nat.le_refl _, [45] ++ decDigits (wd V (nw V - 1)).toNat, q0F his h1, by rw [hfin]; simp, by simp [w0B]⟩) (ent zS trivial) ?_
   clear hb4 his
   rintro k w5 hb5 ⟨hk, l, his, hl, hl0⟩
   refine wm ?_
   (refine j0a rfl ?_ ?_ <;> intro hb <;> (try simp only [zA, zB, zG, zC, zD, zN] at hb) <;> (try exact zQ))
   ·obtain ⟨j, rfl⟩ : ∃ j, k = j + 1 := ⟨k - 1, by omega⟩
    have e : ((j + 1 : Nat) : Int) - 1 = j := by omega
    rw [e]
    have hdj := q0y V j
    rw [hBB] at hdj
    have hij := k0G (wd V j) zO
    have hij0 : itoa (wd V j) = decDigits (wd V j).toNat := by rw [j0G (by omega)]; congr 1
    have hjl : (itoa (wd V j)).length ≤ 9 := by rw [hij0]; exact v0q (by omega) (by decide)
    have cwj := cw j zO
    refine wm ?_
    refine j0j (y0n (itoa (wd V j)).length rfl rfl rfl hjl) rfl ?_
    rw [z1S]
    refine wm ?_
    refine j0j (x0v (l := List.replicate (9 - (itoa (wd V j)).length) 48) (m := itoa (wd V j)) rfl rfl (by rw [List.length_replicate]; omega)) rfl ?_
    refine wm ?_
    have hpad : List.replicate (9 - (itoa (wd V j)).length) 48 ++ itoa (wd V j) = pad (wd V j).toNat := by rw [hij0]; rfl
    rw [hpad]
    have hpl : (pad (wd V j).toNat).length = 9 := Z0o zO
    have hll : l.length ≤ 2089 := by
     have := congrArg List.length hl
     rw [List.length_append] at this
     omega
    refine Q0o (w0 := w0) (vs := [.pointer (some ⟨bb, 0, none⟩), .string (bs (pad (wd V j).toNat))]) hZ hb5 rfl (j0X Tryz.func296 rfl rfl) rfl (fun w1 h1 => Tryz.Builder_WriteString w0.heap.size bb (Lib.byteCells l) (bs (pad (wd V j).toNat)) w1 (q0F his h1) (by rw [Lib.byteCells_length]; show l.length + (pad (wd V j).toNat).length ≤ _; omega) (Nat.le_trans hb5.size h1.size)) rfl fun w6 hb6 hψ => ?_
    have his6 : Lib.IsBuilder 355 5 w0.heap.size bb (Lib.byteCells (l ++ pad (wd V j).toNat)) w6 := .inr (by
     have := hψ
     rw [y1V, ← y0A] at this
     exact this)
    clear hb5 his
    refine wm ?_
    exact Y0p j hZ hb6 rfl (by omega) (fun w7 h7 => ⟨by omega, l ++ pad (wd V j).toNat, q0F his6 h7, by rw [List.append_assoc]; exact hl, by simp [hl0]⟩) (ent zS trivial)
   ·obtain rfl : k = 0 := by omega
    have hl : l = itoa (sv true V) := by rw [← hl]; simp [tl]
    subst hl
    refine wm ?_
    refine Q0o (w0 := w0) (vs := [.pointer (some ⟨bb, 0, none⟩)]) (u := .string (bs (itoa (sv true V)))) (ψ := fun _ => True) hZ hb5 rfl (j0X Tryz.func297 rfl rfl) rfl (fun w1 h1 => Calls.mono (Tryz.Builder_String w0.heap.size bb (itoa (sv true V)) w1 (q0F his h1) hl0) fun e w2 h => ⟨h.1, trivial, h.2⟩) rfl fun w6 hb6 _ => ?_
    clear hb5 his
    refine wm ?_
    exact w1M hZ hb6 rfl rfl
  ·have hbf : b = false := by simpa using hb
   subst hbf
   have hfin : itoa (sv false V) = [] ++ (decDigits (wd V (nw V - 1)).toNat ++ tl (wd V) (nw V - 1)) := hfin
   refine wm ?_
   refine q0n (J0o (k := nw V - 1) rfl rfl zO zO) rfl ?_
   refine wm ?_
   refine q1A tm (by kernel_rfl) (by kernel_rfl) ?_
   refine Q0o (w0 := w0) (vs := [.pointer (some ⟨bb, 0, none⟩), .string (bs (itoa (wd V (nw V - 1))))]) hZ hb2 rfl (j0X Tryz.func296 rfl rfl) rfl (fun w1 h1 => Tryz.Builder_WriteString w0.heap.size bb (Lib.byteCells []) (bs (itoa (wd V (nw V - 1)))) w1 (q0F his h1) (by rw [Lib.byteCells_length]; show ([] : List UInt8).length + (itoa (wd V (nw V - 1))).length ≤ _; rw [hit0]; have := congrArg List.length hfin; simp only [List.length_append] at this; simp only [List.length_cons, List.length_nil] at *; omega) (Nat.le_trans hb2.size h1.size)) rfl fun w4 hb4 hψ => ?_
   clear hb2 his
   have his : Lib.IsBuilder 355 5 w0.heap.size bb (Lib.byteCells ([] ++ decDigits (wd V (nw V - 1)).toNat)) w4 := .inr (by
    have := hψ
    rw [y1V, ← y0A, hit0] at this
    exact this)
   refine wm ?_
   refine k0b (w0 := w0) (γ := Nat) (fun (k : Nat) => [(0, .av (.val (.pointer (some ⟨bx, ox, none⟩)))), (3, .av (.val (.pointer (some ⟨bb, 0, none⟩)))), (4, .av (vi ((k : Int) - 1)))]) (fun k w => k ≤ nw V - 1 ∧ ∃ l, Lib.IsBuilder 355 5 w0.heap.size bb (Lib.byteCells l) w ∧ l ++ tl (wd V) k = itoa (sv false V) ∧ l ≠ []) (fun k => k) (nw V - 1) hZ hb4 (fun _ => rfl) (fun w1 h1 => ⟨Nat.le_refl _, [] ++ decDigits (wd V (nw V - 1)).toNat, q0F his h1, by rw [hfin]; simp, by simp [w0B]⟩) (ent zS trivial) ?_
   clear hb4 his
   rintro k w5 hb5 ⟨hk, l, his, hl, hl0⟩
   refine wm ?_
   (refine j0a rfl ?_ ?_ <;> intro hb <;> (try simp only [zA, zB, zG, zC, zD, zN] at hb) <;> (try exact zQ))
   ·obtain ⟨j, rfl⟩ : ∃ j, k = j + 1 := ⟨k - 1, by omega⟩
    have e : ((j + 1 : Nat) : Int) - 1 = j := by omega
    rw [e]
    have hdj := q0y V j
    rw [hBB] at hdj
    have hij := k0G (wd V j) zO
    have hij0 : itoa (wd V j) = decDigits (wd V j).toNat := by rw [j0G (by omega)]; congr 1
    have hjl : (itoa (wd V j)).length ≤ 9 := by rw [hij0]; exact v0q (by omega) (by decide)
    have cwj := cw j zO
    refine wm ?_
    refine j0j (y0n (itoa (wd V j)).length rfl rfl rfl hjl) rfl ?_
    rw [z1S]
    refine wm ?_
    refine j0j (x0v (l := List.replicate (9 - (itoa (wd V j)).length) 48) (m := itoa (wd V j)) rfl rfl (by rw [List.length_replicate]; omega)) rfl ?_
    refine wm ?_
    have hpad : List.replicate (9 - (itoa (wd V j)).length) 48 ++ itoa (wd V j) = pad (wd V j).toNat := by rw [hij0]; rfl
    rw [hpad]
    have hpl : (pad (wd V j).toNat).length = 9 := Z0o zO
    have hll : l.length ≤ 2089 := by
     have := congrArg List.length hl
     rw [List.length_append] at this
     omega
    refine Q0o (w0 := w0) (vs := [.pointer (some ⟨bb, 0, none⟩), .string (bs (pad (wd V j).toNat))]) hZ hb5 rfl (j0X Tryz.func296 rfl rfl) rfl (fun w1 h1 => Tryz.Builder_WriteString w0.heap.size bb (Lib.byteCells l) (bs (pad (wd V j).toNat)) w1 (q0F his h1) (by rw [Lib.byteCells_length]; show l.length + (pad (wd V j).toNat).length ≤ _; omega) (Nat.le_trans hb5.size h1.size)) rfl fun w6 hb6 hψ => ?_
    have his6 : Lib.IsBuilder 355 5 w0.heap.size bb (Lib.byteCells (l ++ pad (wd V j).toNat)) w6 := .inr (by
     have := hψ
     rw [y1V, ← y0A] at this
     exact this)
    clear hb5 his
    refine wm ?_
    exact Y0p j hZ hb6 rfl (by omega) (fun w7 h7 => ⟨by omega, l ++ pad (wd V j).toNat, q0F his6 h7, by rw [List.append_assoc]; exact hl, by simp [hl0]⟩) (ent zS trivial)
   ·obtain rfl : k = 0 := by omega
    have hl : l = itoa (sv false V) := by rw [← hl]; simp [tl]
    subst hl
    refine wm ?_
    refine Q0o (w0 := w0) (vs := [.pointer (some ⟨bb, 0, none⟩)]) (u := .string (bs (itoa (sv false V)))) (ψ := fun _ => True) hZ hb5 rfl (j0X Tryz.func297 rfl rfl) rfl (fun w1 h1 => Calls.mono (Tryz.Builder_String w0.heap.size bb (itoa (sv false V)) w1 (q0F his h1) hl0) fun e w2 h => ⟨h.1, trivial, h.2⟩) rfl fun w6 hb6 _ => ?_
    clear hb5 his
    refine wm ?_
    exact w1M hZ hb6 rfl rfl
 |_ :: _ :: _, h => exact h.2.elim
theorem q0W {T : Tab} {O : Go.Vc.Own} (k r : Nat) {b : Bool} {n : Int} {f : Nat → Int} (hd : T.get k = .own r 0) (hr : Go.Vc.look O r = some (.wi b n f)) : Ent T O ((k, .av (wA b n f)) :: T.frz r .any) (Go.Vc.Own.drop r O) :=
 Z1A b n f ▸ W0g k r hd hr
theorem Q0H (m : Int) : sv (decide (m < 0)) m.natAbs = m := by
 unfold sv
 by_cases h : m < 0
 ·rw [decide_eq_true h, if_pos rfl]; omega
 ·rw [decide_eq_false h]; simp; omega
theorem Y1R (b : Bool) (V : Nat) : (sv b V).natAbs = V := by unfold sv; split <;> omega
theorem V1V (b : Bool) (V : Nat) (b' : Bool) (W : Nat) : sv (z0y b V b' W).1 (z0y b V b' W).2 = sv b V + sv b' W := by
 unfold z0y
 by_cases hb : b = b'
 ·subst hb
  rw [if_pos rfl]
  unfold sv
  cases b <;> simp <;> omega
 ·rw [if_neg hb]
  by_cases hl : W ≤ V
  ·rw [if_pos hl]
   unfold sv
   cases b <;> cases b' <;> simp at hb ⊢ <;> omega
  ·rw [if_neg hl]
   unfold sv
   cases b <;> cases b' <;> simp at hb ⊢ <;> omega
theorem X0X {k j : Nat} {m : Int} (h : LI k m) (hk : k ≤ 9 * j) : nw m.natAbs ≤ j := by
 refine Z0l ?_
 have h1 : m.natAbs < 10 ^ (9 * j) := Nat.lt_of_lt_of_le h (Nat.pow_le_pow_right zE hk)
 rwa [Nat.pow_mul] at h1
theorem J1q {k j : Nat} {b : Bool} {V : Nat} (h : LI k (sv b V)) (hk : k ≤ 9 * j) : nw V ≤ j := by
 have := X0X h hk
 rwa [Y1R] at this
theorem X0S (b : Bool) (V : Nat) (h : LI 1000 (sv b V)) : CtrA Tryz.prog 238 [wA b (nw V) (wd V)] (j0B [vI (sv b V), vi 0]) := by
 have h1 := z0J b V (Nat.le_trans (J1q (j := 112) h zE) zE)
 have h2 := w0w (sv b V) h
 refine j0r _ Tryz.func238 rfl rfl Tryz.ntmps238 rfl fun w Z => ?_
 refine zU ?_
 refine wl ?_
 exact zW
def short (m : Int) : Bool := decide ((itoa m).length ≤ 9)
theorem z0F {m : Int} (h : short m = true) : -1000000000 < m ∧ m < 1000000000 := by
 have h : (itoa m).length ≤ 9 := by simpa [short] using h
 by_cases hm : m < 0
 ·rw [itoa_neg hm] at h
  have h2 : LI 9 m := LI.of_len (by simp at h; omega)
  have : m.natAbs < 10 ^ 9 := h2
  omega
 ·rw [j0G hm] at h
  have h2 : LI 9 m := LI.of_len h
  have : m.natAbs < 10 ^ 9 := h2
  omega
theorem Z0y (m n : Int) (hm : short m = true) (hn : short n = true) : CtrA Tryz.prog 235 [vI m, vI n] (j0B [vi m, vi n, vb true]) := by
 have l1 : (itoa m).length ≤ 9 := by simpa [short] using hm
 have l2 : (itoa n).length ≤ 9 := by simpa [short] using hn
 have h1 := j1W (itoa m) m zO (X0q m)
 have h2 := j1W (itoa n) n zO (X0q n)
 refine j0r _ Tryz.func235 rfl rfl Tryz.ntmps235 rfl fun w Z => ?_
 refine zU ?_
 refine wl ?_
 (first | refine j0g rfl rfl ?_ ?_ | refine j0f rfl rfl ?_ ?_) <;> intro hb <;> (try simp only [zA, zB, zG, zC, zD, zN] at hb) <;> (try exact zQ)
 refine wl ?_
 (refine j0a rfl ?_ ?_ <;> intro hb <;> (try simp only [zA, zB, zG, zC, zD, zN] at hb) <;> (try exact zQ))
 refine wl ?_
 exact zX
theorem Z0x (m n : Int) (h : (short m && short n) = false) : CtrA Tryz.prog 235 [vI m, vI n] (j0B [vi 0, vi 0, vb false]) := by
 have l : ¬ ((itoa m).length ≤ 9 ∧ (itoa n).length ≤ 9) := by
  intro h2
  simp [short, h2.1, h2.2] at h
 refine j0r _ Tryz.func235 rfl rfl Tryz.ntmps235 rfl fun w Z => ?_
 refine zU ?_
 refine wl ?_
 (first | refine j0g rfl rfl ?_ ?_ | refine j0f rfl rfl ?_ ?_) <;> intro hb <;> (try simp only [zA, zB, zG, zC, zD, zN] at hb) <;> (try exact zQ)
 ·refine wl ?_
  exact zX
 ·refine wl ?_
  (refine j0a rfl ?_ ?_ <;> intro hb <;> (try simp only [zA, zB, zG, zC, zD, zN] at hb) <;> (try exact zQ))
  refine wl ?_
  exact zX
def acc (g : Nat → Int) : Nat → Bool × Nat
 |0 => (false, 0)
 |i + 1 => z0y (acc g i).1 (acc g i).2 (decide (g i < 0)) (g i).natAbs
def J1A (g : Nat → Int) : Nat → Int
 |0 => 0
 |i + 1 => J1A g i + g i
theorem V0L (g : Nat → Int) : ∀ n, sv (acc g n).1 (acc g n).2 = J1A g n
 |0 => rfl
 |n + 1 => by rw [acc, V1V, V0L g n, Q0H, J1A]
theorem k1K (n : Nat) (g : Nat → Int) (hn : n ≤ 1000000) (hg : ∀ i, i < n → LI 1000 (g i)) (hs : ∀ i, i ≤ n → LI 2000 (J1A g i)) (h : LI 1000 (J1A g n)) : CtrA Tryz.prog 268 [.sl n 1 (fun i _ => vI (g i))] (j0B [vI (J1A g n), vi 0]) := by
 have hw : ∀ i, i ≤ n → nw (acc g i).2 ≤ 232 := fun i hi => Nat.le_trans (J1q (j := 223) (b := (acc g i).1) (by rw [V0L]; exact hs i hi) (by decide)) (by decide)
 have hli := X0S (acc g n).1 (acc g n).2 (by rw [V0L]; exact h)
 rw [V0L] at hli
 refine j0r _ Tryz.func268 rfl rfl Tryz.ntmps268 rfl fun w Z => ?_
 refine zU ?_
 refine wl ?_
 refine j0j (j0n (is := []) (xs := []) (vs := []) w1U rfl rfl) rfl ?_
 refine j0C (y0k 7 rfl rfl) rfl ?_
 refine wl ?_
 refine j0h (γ := Nat) (fun i => [(4, .own 7 0), (9, .av (.sl n 1 (fun i _ => vI (g i)))), (10, .av (vi n)), (11, .av (vi i))]) (fun i => [(7, .wi (acc g i).1 (nw (acc g i).2) (wd (acc g i).2))]) (fun i => i ≤ n) (fun i => n - i) 0 (Nat.zero_le _) (ent zS ⟨⟨_, rfl, by
  show RLe _ (Res.wi false ((nw 0 : Nat) : Int) (wd 0))
  rw [q0L, Z1S]; exact .refl _⟩, trivial⟩) ?_
 intro i hi
 refine wl ?_
 (refine j0a rfl ?_ ?_ <;> intro hb <;> (try simp only [zA, zB, zG, zC, zD, zN] at hb) <;> (try exact zQ))
 ·have hgi := hg i zO
  have hgn := X0X (j := 112) hgi zE
  have hrd := y0w (g i) (by
   have := LI.len hgi zE; omega)
  have hpl := Z0K (acc g i).1 (decide (g i < 0)) (acc g i).2 (g i).natAbs (hw i hi) zO (hw (i + 1) zO)
  refine wl ?_
  refine j0C (j0o [(7, 8)] hrd rfl trivial rfl) rfl ?_
  refine j0x (.trans (q0W 17 8 rfl rfl) (ent (T' := [(15, .own 7 0), (17, .av (wA (decide (g i < 0)) (nw (g i).natAbs) (wd (g i).natAbs))), (4, .own 7 0), (9, .av (.sl n 1 (fun i _ => vI (g i)))), (10, .av (vi n)), (11, .av (vi i))]) (O' := [(7, .wi (acc g i).1 (nw (acc g i).2) (wd (acc g i).2))]) zS zT)) ?_
  refine j0C (j0o [(1000, 7)] hpl rfl ⟨rfl, trivial⟩ rfl) rfl ?_
  refine wl ?_
  exact j0b (i + 1) zO zO (ent zS zT)
 ·obtain rfl : i = n := by omega
  refine wl ?_
  refine j0j (q0p hli rfl ⟨.w rfl rfl, trivial⟩ (J0m [_, _])) rfl ?_
  refine wl ?_
  exact zW
theorem V0C (m : Int) (hm : LI 1000 m) : CtrA Tryz.prog 234 [vI m] (vI (-m)) := by
 have h1 := K0f m
 have hlen := hm.len zE
 by_cases h0 : m = 0
 ·have e : sgn m = 0 := by unfold sgn; rw [if_pos h0]
  rw [e] at h1
  refine j0r _ Tryz.func234 rfl rfl Tryz.ntmps234 rfl fun w Z => ?_
  refine zU ?_
  refine wl ?_
  exact j0c rfl (.tmp rfl) (congrArg vI zO)
 ·by_cases hn : m < 0
  ·have e : sgn m = -1 := by unfold sgn; rw [if_neg h0, if_pos hn]
   rw [e] at h1
   refine j0r _ Tryz.func234 rfl rfl Tryz.ntmps234 rfl fun w Z => ?_
   refine zU ?_
   refine wl ?_
   refine j0j (y0n 1 rfl rfl rfl (by rw [itoa_neg hn]; simp)) rfl ?_
   refine wl ?_
   have e2 : (itoa m).drop 1 = itoa (-m) := by
    have hneg : ¬ -m < 0 := by omega
    rw [itoa_neg hn, j0G hneg, Int.natAbs_neg]; rfl
   exact j0c rfl (.tmp rfl) (congrArg vS e2)
  ·have e : sgn m = 1 := by unfold sgn; rw [if_neg h0, if_neg hn]
   rw [e] at h1
   refine j0r _ Tryz.func234 rfl rfl Tryz.ntmps234 rfl fun w Z => ?_
   refine zU ?_
   refine wl ?_
   refine j0j (x0v (l := [45]) (m := itoa m) rfl rfl (by rw [j0G hn]; simp only [List.length_cons, List.length_nil]; omega)) rfl ?_
   refine wl ?_
   have e2 : [45] ++ itoa m = itoa (-m) := by
    have hneg : -m < 0 := by omega
    rw [j0G hn, itoa_neg hneg, Int.natAbs_neg]; rfl
   exact j0c rfl (.tmp rfl) (congrArg vS e2)
theorem Q0V (m n : Int) (hm : LI 1000 m) (hn : LI 1000 n) : CtrA Tryz.prog 226 [.sl 2 1 (fun i _ => vI (two m n i))] (vi 0) :=
 W1Q 2 (two m n) zE (fun i hi => by rcases (by omega : i = 0 ∨ i = 1) with rfl | rfl <;> assumption)
theorem Q1a (m n : Int) (hm : LI 1000 m) (hn : LI 1000 n) (hs : LI 1000 (m + n)) : CtrA Tryz.prog 205 [vI m, vI n] (j0B [vI (m + n), vi 0]) := by
 have h0 := Q0V m n hm hn
 cases hsm : (short m && short n) with
 |true =>
  rw [Bool.and_eq_true] at hsm
  have h1 := Z0y m n hsm.1 hsm.2
  have b1 := z0F hsm.1
  have b2 := z0F hsm.2
  have h2 := K0a (m + n) zO
  refine j0r _ Tryz.func205 rfl rfl Tryz.ntmps205 rfl fun w Z => ?_
  refine zU ?_
  refine wl ?_
  refine j0j (v0J rfl rfl) rfl ?_
  refine wl ?_
  exact zW
 |false =>
  have h1 := Z0x m n hsm
  have e : J1A (two m n) 2 = m + n := by show 0 + m + n = _; omega
  have h2 := k1K 2 (two m n) zE (fun i hi => by rcases (by omega : i = 0 ∨ i = 1) with rfl | rfl <;> assumption) (fun i hi => by
   rcases (by omega : i = 0 ∨ i = 1 ∨ i = 2) with rfl | rfl | rfl
   ·exact LI.small (show (0 : Int).natAbs < 10 by decide) zE
   ·have : J1A (two m n) 1 = m := by show 0 + m = _; omega
    rw [this]; exact hm.mono (by decide)
   ·rw [e]; exact hs.mono (by decide)) (by rw [e]; exact hs)
  rw [e] at h2
  refine j0r _ Tryz.func205 rfl rfl Tryz.ntmps205 rfl fun w Z => ?_
  refine zU ?_
  refine wl ?_
  refine j0j (v0J rfl rfl) rfl ?_
  refine wl ?_
  refine j0j (v0J rfl rfl) rfl ?_
  refine wl ?_
  exact zW
theorem Z1J (m n : Int) (hm : LI 1000 m) (hn : LI 1000 n) (hs : LI 1000 (m - n)) : CtrA Tryz.prog 171 [vI m, vI n] (j0B [vI (m - n), vi 0]) := by
 have h0 := Q0V m n hm hn
 have h1 := V0C n hn
 have h2 := Q1a m (-n) hm hn.neg (by rw [← Int.sub_eq_add_neg]; exact hs)
 rw [← Int.sub_eq_add_neg] at h2
 refine j0r _ Tryz.func171 rfl rfl Tryz.ntmps171 rfl fun w Z => ?_
 refine zU ?_
 refine wl ?_
 refine j0j (v0J rfl rfl) rfl ?_
 refine wl ?_
 exact zW
theorem Z1G (m : Int) (hm : LI 1000 m) : CtrA Tryz.prog 220 [vI m] (j0B [vI (-m), vi 0]) := by
 have h0 := w0w m hm
 have h1 := V0C m hm
 refine j0r _ Tryz.func220 rfl rfl Tryz.ntmps220 rfl fun w Z => ?_
 refine zU ?_
 refine wl ?_
 exact zW
theorem Y1S (b b' : Bool) (V W : Nat) : sv (b != b') (V * W) = sv b V * sv b' W := by
 unfold sv
 cases b <;> cases b' <;> simp [Int.mul_neg, Int.neg_mul]
theorem Z1F (m n : Int) (hm : LI 1000 m) (hn : LI 1000 n) (hs : LI 1000 (m * n)) : CtrA Tryz.prog 172 [vI m, vI n] (j0B [vI (m * n), vi 0]) := by
 have h0 := Q0V m n hm hn
 cases hsm : (short m && short n) with
 |true =>
  rw [Bool.and_eq_true] at hsm
  have h1 := Z0y m n hsm.1 hsm.2
  have b1 := z0F hsm.1
  have b2 := z0F hsm.2
  have hmn : -1000000000000000000 ≤ m * n ∧ m * n ≤ 1000000000000000000 := by
   have q1 : m.natAbs * n.natAbs ≤ 1000000000 * 1000000000 := Nat.mul_le_mul zO zO
   rw [← Int.natAbs_mul] at q1
   generalize m * n = p at *
   omega
  have h2 := K0a (m * n) zO
  refine j0r _ Tryz.func172 rfl rfl Tryz.ntmps172 rfl fun w Z => ?_
  refine zU ?_
  refine wl ?_
  refine j0j (v0J rfl rfl) rfl ?_
  refine wl ?_
  exact zW
 |false =>
  have h1 := Z0x m n hsm
  have n1 := X0X (j := 112) hm zE
  have n2 := X0X (j := 112) hn zE
  have r1 := y0w m (Nat.le_trans (hm.len zE) zE)
  have r2 := y0w n (Nat.le_trans (hn.len zE) zE)
  have ht := z1A (decide (m < 0)) (decide (n < 0)) m.natAbs n.natAbs zO
  have e := Y1S (decide (m < 0)) (decide (n < 0)) m.natAbs n.natAbs
  rw [Q0H, Q0H] at e
  have hl := X0S (decide (m < 0) != decide (n < 0)) (m.natAbs * n.natAbs) (by rw [e]; exact hs)
  rw [e] at hl
  refine j0r _ Tryz.func172 rfl rfl Tryz.ntmps172 rfl fun w Z => ?_
  refine zU ?_
  refine wl ?_
  refine j0j (v0J rfl rfl) rfl ?_
  refine wl ?_
  refine j0C (j0o [(7, 8)] r1 rfl trivial rfl) rfl ?_
  refine j0x (.trans (q0W 32 8 rfl rfl) (ent (T' := [(1, .av (vI n)), (32, .av (wA (decide (m < 0)) (nw m.natAbs) (wd m.natAbs)))]) (O' := []) zS trivial)) ?_
  refine wl ?_
  refine j0C (j0o [(7, 9)] r2 rfl trivial rfl) rfl ?_
  refine j0x (.trans (q0W 34 9 rfl rfl) (ent (T' := [(32, .av (wA (decide (m < 0)) (nw m.natAbs) (wd m.natAbs))), (34, .av (wA (decide (n < 0)) (nw n.natAbs) (wd n.natAbs)))]) (O' := []) zS trivial)) ?_
  refine j0C (j0o [] ht rfl trivial rfl) rfl ?_
  refine j0j (q0p hl rfl ⟨.w rfl rfl, trivial⟩ (J0m [_, _])) rfl ?_
  refine wl ?_
  exact zW
end Go.Proofs.YtfggdokihnopeaaGreatDoor
namespace Go.Na
open Go
theorem X1C {m n : Int} (hn : n ≠ 0) : (m.tmod n ≠ 0 ∧ ¬ (m.tmod n < 0 ↔ n < 0) → m.fdiv n = m.tdiv n - 1 ∧ m.fmod n = m.tmod n + n) ∧ (¬ (m.tmod n ≠ 0 ∧ ¬ (m.tmod n < 0 ↔ n < 0)) → m.fdiv n = m.tdiv n ∧ m.fmod n = m.tmod n) := by
 have h1 := Int.tmod_add_mul_tdiv m n
 have h2 : (m.tmod n).natAbs < n.natAbs := by
  rw [Int.natAbs_tmod]; exact Nat.mod_lt _ (by omega)
 generalize m.tmod n = r at *
 generalize m.tdiv n = q at *
 refine ⟨fun h => j0S (by rw [← h1, Int.sub_mul, Int.mul_comm]; omega) (by omega), fun h => j0S (by rw [← h1, Int.mul_comm]; omega) (by omega)⟩
theorem Z1d {m n : Int} (h : -1000000000 < m ∧ m < 1000000000) : -1000000000 < m.tdiv n ∧ m.tdiv n < 1000000000 := by
 have : (m.tdiv n).natAbs ≤ m.natAbs := by rw [Int.natAbs_tdiv]; exact Nat.div_le_self _ _
 omega
theorem Z1h {m n : Int} (h : -1000000000 < m ∧ m < 1000000000) : -1000000000 < m.tmod n ∧ m.tmod n < 1000000000 := by
 have : (m.tmod n).natAbs ≤ m.natAbs := by rw [Int.natAbs_tmod]; exact Nat.mod_le _ _
 omega
end Go.Na
namespace Go.Proofs.YtfggdokihnopeaaGreatDoor
open Go Go.Vc Go.RowKit Go.Na Go.Lib
set_option maxHeartbeats 4000000
theorem y1G (m n : Int) (hm : LI 1000 m) (hn : LI 1000 n) (h0 : n ≠ 0) (hsm : short m = true ∧ short n = true) : CtrA Tryz.prog 299 [vI m, vI n] (j0B [vI (m.fdiv n), vI (m.fmod n), vi 0]) := by
 have h00 := Q0V m n hm hn
 have hz := w0o n
 rw [decide_eq_false h0] at hz
 have h1 := Z0y m n hsm.1 hsm.2
 have b1 := z0F hsm.1
 have b2 := z0F hsm.2
 have b3 := Z1d (n := n) b1
 have b4 := Z1h (n := n) b1
 obtain ⟨k1, k2⟩ := X1C (m := m) h0
 by_cases hc : m.tmod n ≠ 0 ∧ ¬ (m.tmod n < 0 ↔ n < 0)
 ·obtain ⟨e1, e2⟩ := k1 hc
  have w1 := X0h (m.tdiv n - 1) zO
  have w2 := X0h (m.tmod n + n) zO
  rw [e1, e2]
  refine j0r _ Tryz.func299 rfl rfl Tryz.ntmps299 rfl fun w Z => ?_
  refine zU ?_
  refine wl ?_
  refine j0j (v0J rfl rfl) rfl ?_
  refine wl ?_
  rw [hz]
  refine wl ?_
  have e3 : (!(decide (m.tmod n < 0) == decide (n < 0))) = true := by
   by_cases x1 : m.tmod n < 0 <;> by_cases x2 : n < 0 <;> simp [x1, x2] at hc ⊢
  (first | refine j0g rfl rfl ?_ ?_ | refine j0f rfl rfl ?_ ?_) <;> intro hb <;> (try simp only [zA, zB, zG, zC, zD, zN] at hb) <;> (try exact zQ)
  refine wl ?_
  rw [e3]
  refine wl ?_
  exact zX
 ·obtain ⟨e1, e2⟩ := k2 hc
  have w1 := X0h (m.tdiv n) zO
  have w2 := X0h (m.tmod n) zO
  rw [e1, e2]
  refine j0r _ Tryz.func299 rfl rfl Tryz.ntmps299 rfl fun w Z => ?_
  refine zU ?_
  refine wl ?_
  refine j0j (v0J rfl rfl) rfl ?_
  refine wl ?_
  rw [hz]
  refine wl ?_
  by_cases hr0 : m.tmod n = 0
  ·(first | refine j0g rfl rfl ?_ ?_ | refine j0f rfl rfl ?_ ?_) <;> intro hb <;> (try simp only [zA, zB, zG, zC, zD, zN] at hb) <;> (try exact zQ)
   refine wl ?_
   exact zX
  ·have e3 : (!(decide (m.tmod n < 0) == decide (n < 0))) = false := by
    by_cases x1 : m.tmod n < 0 <;> by_cases x2 : n < 0 <;> simp [x1, x2, hr0] at hc ⊢
   (first | refine j0g rfl rfl ?_ ?_ | refine j0f rfl rfl ?_ ?_) <;> intro hb <;> (try simp only [zA, zB, zG, zC, zD, zN] at hb) <;> (try exact zQ)
   refine wl ?_
   rw [e3]
   refine wl ?_
   exact zX
theorem Z1a : Tryz.prog.built 297 [(0, .bool true), (1, .int .i64 1)] = some (wvs 232 true 1 (fun _ => 0)).toArray := by kernel_rfl
theorem Z1E : upd (fun _ => 0) 0 1 = wd 1 := by
 funext i
 unfold upd
 cases i with
 |zero => rfl
 |succ i =>
  rw [if_neg (by omega), v0n]
  have : nw 1 = 1 := by rw [z0R (by decide), V0B.2 (by decide)]
  omega
theorem J1r : nw 1 = 1 := by rw [z0R (by decide), V0B.2 (by decide)]
theorem y1F (m n : Int) (hm : LI 1000 m) (hn : LI 1000 n) (h0 : n ≠ 0) (hsm : (short m && short n) = false) : CtrA Tryz.prog 299 [vI m, vI n] (j0B [vI (m.fdiv n), vI (m.fmod n), vi 0]) := by
 have h00 := Q0V m n hm hn
 have hz := w0o n
 rw [decide_eq_false h0] at hz
 have h1 := Z0x m n hsm
 have n1 := X0X (j := 112) hm zE
 have n2 := X0X (j := 112) hn zE
 have r1 := y0w m (Nat.le_trans (hm.len zE) zE)
 have r2 := y0w n (Nat.le_trans (hn.len zE) zE)
 have hN0 : n.natAbs ≠ 0 := by omega
 have hd := j1C (decide (m < 0)) (decide (n < 0)) m.natAbs n.natAbs zO zO hN0
 have hnq : nw (m.natAbs / n.natAbs) ≤ 112 := Nat.le_trans (v0w (Nat.div_le_self _ _)) n1
 have hnr : nw (m.natAbs % n.natAbs) ≤ 112 := Nat.le_trans (v0w (Nat.mod_le _ _)) n1
 have hdm := Nat.div_add_mod m.natAbs n.natAbs
 have hrl : m.natAbs % n.natAbs < n.natAbs := Nat.mod_lt _ zO
 have hms := Q0H m
 have hns := Q0H n
 generalize m.natAbs / n.natAbs = Q at *
 generalize m.natAbs % n.natAbs = R at *
 generalize hM : m.natAbs = M at *
 generalize hNn : n.natAbs = Nn at *
 generalize decide (m < 0) = bm at *
 generalize decide (n < 0) = bn at *
 refine j0r _ Tryz.func299 rfl rfl Tryz.ntmps299 rfl fun w Z => ?_
 refine zU ?_
 refine wl ?_
 refine j0j (v0J rfl rfl) rfl ?_
 refine wl ?_
 rw [hz]
 refine wl ?_
 refine j0C (j0o [(7, 18)] r1 rfl trivial rfl) rfl ?_
 refine j0x (.trans (q0W 60 18 rfl rfl) (ent (T' := [(1, .av (vI n)), (60, .av (wA bm (nw M) (wd M)))]) (O' := []) zS trivial)) ?_
 refine wl ?_
 refine j0C (j0o [(7, 19)] r2 rfl trivial rfl) rfl ?_
 refine j0x (.trans (q0W 62 19 rfl rfl) (ent (T' := [(60, .av (wA bm (nw M) (wd M))), (62, .av (wA bn (nw Nn) (wd Nn)))]) (O' := []) zS trivial)) ?_
 refine wl ?_
 refine j0C (j0o [] hd rfl trivial rfl) rfl ?_
 refine j0j (j0Y (s := .tupC [.own 7 0, .own 8 0]) rfl) rfl ?_
 refine wl ?_
 have hRn : 0 < nw R ↔ R ≠ 0 := by
  have := V0B (V := R)
  omega
 have hmag : m = sv bm (Nn * Q + R) := by rw [← hms, hdm]
 by_cases hc : R ≠ 0 ∧ bm ≠ bn
 ·obtain ⟨hR, hb⟩ := hc
  have e4 : (!(bm == bn)) = true := by simp [hb]
  rw [e4]
  have p1 : z0y true Q true 1 = (true, Q + 1) := by unfold z0y; rw [if_pos rfl]
  have p2 : z0y bm R bn Nn = (bn, Nn - R) := by unfold z0y; rw [if_neg hb, if_neg (by omega)]
  have nq1 : nw (Q + 1) ≤ 113 := by
   refine Z0l ?_
   have := Nat.lt_of_lt_of_le (v0W Q) (Nat.pow_le_pow_right (show 0 < 1000000000 by decide) hnq)
   rw [show (113 : Nat) = 112 + 1 by rfl, Nat.pow_succ]
   omega
  have nr1 : nw (Nn - R) ≤ 112 := Nat.le_trans (v0w (Nat.sub_le _ _)) n2
  have c1 := Z0K true true Q 1 (by omega) (by rw [J1r]; decide) (by rw [p1]; show nw (Q + 1) ≤ 232; omega)
  have c2 := Z0K bm bn R Nn (by omega) (by omega) (by rw [p2]; show nw (Nn - R) ≤ 232; omega)
  rw [p1] at c1
  rw [p2] at c2
  have t1 := z0J true (Q + 1) zO
  have t2 := z0J bn (Nn - R) zO
  have hv := j0S (m := m) (n := n) (q := sv true (Q + 1)) (r := sv bn (Nn - R)) (by
   rw [hmag, ← hns]
   unfold sv
   have hcast : ((Nn - R : Nat) : Int) = Nn - R := by omega
   cases bm <;> cases bn <;> simp at hb ⊢ <;> rw [hcast] <;> grind) (by
   rw [← hns]
   unfold sv
   cases bn <;> simp <;> omega)
  obtain ⟨v1, v2⟩ := hv
  (first | refine j0g rfl rfl ?_ ?_ | refine j0f rfl rfl ?_ ?_) <;> intro hb <;> (try simp only [zA, zB, zG, zC, zD, zN] at hb) <;> (try exact zQ)
  refine wl ?_
  rw [e4]
  refine wl ?_
  refine j0j (j0n (is := [0, 1]) (xs := [_, _]) (vs := [.bool true, .int .i64 1]) Z1a rfl rfl) rfl ?_
  refine j0C (y0k 19 rfl rfl) rfl ?_
  refine wl ?_
  refine q0M (x0U 0 rfl rfl rfl rfl zE) ?_
  refine wl ?_
  refine j0x (.trans (Q1I 19 (n' := ((nw 1 : Nat) : Int)) (f' := wd 1) rfl rfl (by rw [J1r]; rfl) Z1E) (.trans (q0W 114 19 rfl rfl) (ent (T' := [(113, .own 7 0), (114, .av (wA true (nw 1) (wd 1))), (14, .av (wA bn (nw Nn) (wd Nn))), (15, .own 7 0), (16, .own 8 0)]) (O' := [(7, .wi true (nw Q) (wd Q)), (8, .wi bm (nw R) (wd R))]) zS zT))) ?_
  refine j0C (j0o [(1000, 7)] c1 rfl ⟨rfl, trivial⟩ rfl) rfl ?_
  refine wl ?_
  refine j0C (j0o [(1000, 8)] c2 rfl ⟨rfl, trivial⟩ rfl) rfl ?_
  refine wl ?_
  refine j0j (q0p t1 rfl ⟨.w rfl rfl, trivial⟩ (q0I _)) rfl ?_
  refine wl ?_
  refine j0j (q0p t2 rfl ⟨.w rfl rfl, trivial⟩ (q0I _)) rfl ?_
  refine wl ?_
  exact j0v (rvs := [_, _, _]) (τs := [_, _, _]) rfl rfl ⟨.tmp rfl, .tmp rfl, .tmp rfl, trivial⟩ (by rw [v1, v2])
 ·have hv := j0S (m := m) (n := n) (q := sv (!(bm == bn)) Q) (r := sv bm R) (by
   rw [hmag, ← hns]
   unfold sv
   cases bm <;> cases bn <;> simp at hc ⊢ <;> grind) (by
   rw [← hns]
   unfold sv
   cases bm <;> cases bn <;> simp at hc ⊢ <;> omega)
  obtain ⟨v1, v2⟩ := hv
  have t1 := z0J (!(bm == bn)) Q zO
  have t2 := z0J bm R zO
  by_cases hR : R = 0
  ·(first | refine j0g rfl rfl ?_ ?_ | refine j0f rfl rfl ?_ ?_) <;> intro hb <;> (try simp only [zA, zB, zG, zC, zD, zN] at hb) <;> (try exact zQ)
   refine wl ?_
   refine j0j (q0p t1 rfl ⟨.w rfl rfl, trivial⟩ (q0I _)) rfl ?_
   refine wl ?_
   refine j0j (q0p t2 rfl ⟨.w rfl rfl, trivial⟩ (q0I _)) rfl ?_
   refine wl ?_
   exact j0v (rvs := [_, _, _]) (τs := [_, _, _]) rfl rfl ⟨.tmp rfl, .tmp rfl, .tmp rfl, trivial⟩ (by rw [v1, v2])
  ·have e4 : (!(bm == bn)) = false := by
    simp at hc
    simp [hc hR]
   rw [e4] at t1 v1 ⊢
   (first | refine j0g rfl rfl ?_ ?_ | refine j0f rfl rfl ?_ ?_) <;> intro hb <;> (try simp only [zA, zB, zG, zC, zD, zN] at hb) <;> (try exact zQ)
   refine wl ?_
   rw [e4]
   refine wl ?_
   refine j0j (q0p t1 rfl ⟨.w rfl rfl, trivial⟩ (q0I _)) rfl ?_
   refine wl ?_
   refine j0j (q0p t2 rfl ⟨.w rfl rfl, trivial⟩ (q0I _)) rfl ?_
   refine wl ?_
   exact j0v (rvs := [_, _, _]) (τs := [_, _, _]) rfl rfl ⟨.tmp rfl, .tmp rfl, .tmp rfl, trivial⟩ (by rw [v1, v2])
theorem x1B (m n : Int) (hm : LI 1000 m) (hn : LI 1000 n) (h0 : n ≠ 0) : CtrA Tryz.prog 299 [vI m, vI n] (j0B [vI (m.fdiv n), vI (m.fmod n), vi 0]) := by
 cases hsm : (short m && short n) with
 |true => exact y1G m n hm hn h0 (by rwa [Bool.and_eq_true] at hsm)
 |false => exact y1F m n hm hn h0 hsm
theorem Q1c (m n : Int) (hm : LI 1000 m) (hn : LI 1000 n) (h0 : n ≠ 0) (hq : LI 1000 (m.fdiv n)) : CtrA Tryz.prog 233 [vI m, vI n] (j0B [vI (m.fdiv n), vi 0]) := by
 have h1 := x1B m n hm hn h0
 have h2 := w0w _ hq
 refine j0r _ Tryz.func233 rfl rfl Tryz.ntmps233 rfl fun w Z => ?_
 refine zU ?_
 refine wl ?_
 exact zW
theorem V0K (b b' : Bool) (V W : Nat) (hV : nw V ≤ 231) (hW : nw W ≤ 231) (hW0 : W ≠ 0) :
  CtrH Tryz.prog 230 [.own 1000 0, .own 1001 0] [(1000, .wi b (nw V) (wd V)), (1001, .wi b' (nw W) (wd W))] (.tupC [.own 7 0, .own 8 0]) [(7, .wi false (nw (V / W)) (wd (V / W))), (8, .wi false (nw (V % W)) (wd (V % W))), (1000, .wi b (nw V) (wd V)), (1001, .wi b' (nw W) (wd W))] := by
 have hWp : 0 < W := Nat.pos_of_ne_zero hW0
 have hnr : ∀ k, nw (V / 1000000000 ^ k % W) ≤ nw W := fun k => v0w (Nat.le_of_lt (Nat.mod_lt _ hWp))
 have hnq : nw (V / W) ≤ nw V := v0w (Nat.div_le_self _ _)
 refine Q0R _ Tryz.func230 rfl rfl Tryz.ntmps230 rfl rfl fun w Z ν => ?_
 refine zU ?_
 refine wl ?_
 refine j0j (j0n (is := []) (xs := []) (vs := []) w1U rfl rfl) rfl ?_
 refine j0C (y0k 7 rfl rfl) rfl ?_
 refine j0j (j0n (is := []) (xs := []) (vs := []) w1U rfl rfl) rfl ?_
 refine j0C (y0k 8 rfl rfl) rfl ?_
 refine wl ?_
 refine j0h (γ := Nat × Nat) (fun q => [(0, .own 1000 0), (1, .own 1001 0), (6, .own 7 0), (7, .own 8 0), (8, .av (vi ((q.1 : Int) - 1)))]) (fun q => [(7, .wi false q.2 (hiq (V / W) q.1)), (8, .wi false (nw (V / 1000000000 ^ q.1 % W)) (wd (V / 1000000000 ^ q.1 % W))), (1000, .wi b (nw V) (wd V)), (1001, .wi b' (nw W) (wd W))]) (fun q => q.1 ≤ nw V ∧ q.2 ≤ 231 ∧ (nw (V / W) ≤ q.2 ∨ q.1 = nw V ∧ 0 < nw V)) (fun q => q.1) (nw V, 0) ⟨by show _ ≤ _; omega, by show _ ≤ _; omega, by show nw (V / W) ≤ 0 ∨ nw V = nw V ∧ 0 < nw V; omega⟩ (ent ⟨.refl _, .refl _, .refl _, .refl _, .int (by show _ = _; omega), trivial⟩ ⟨⟨_, rfl, by
  rw [v1c hnq]; exact .refl _⟩, ⟨_, rfl, by
  rw [show V / 1000000000 ^ (nw V) % W = 0 by rw [Nat.div_eq_of_lt (v0W V), Nat.zero_mod], q0L, Z1S]
  exact .refl _⟩, ⟨_, rfl, .refl _⟩, ⟨_, rfl, .refl _⟩, trivial⟩) ?_
 rintro ⟨k, n⟩ ⟨hk, hn, hqn⟩
 dsimp only at hk hn hqn ⊢
 refine wl ?_
 (refine j0a rfl ?_ ?_ <;> intro hb <;> (try simp only [zA, zB, zG, zC, zD, zN] at hb) <;> (try exact zQ))
 ·obtain ⟨j, rfl⟩ : ∃ j, k = j + 1 := ⟨k - 1, by omega⟩
  have e : ((j + 1 : Nat) : Int) - 1 = j := by omega
  rw [e]
  obtain ⟨dw1, dw2, dw3⟩ := k0g (V := V) (W := W) (k := j) hW0
  have hwd : wd V j = ((V / 1000000000 ^ j % 1000000000 : Nat) : Int) := rfl
  have hd : V / 1000000000 ^ j % 1000000000 < 1000000000 := Nat.mod_lt _ zE
  have hqd : wd (V / W) j = ((V / W / 1000000000 ^ j % 1000000000 : Nat) : Int) := rfl
  have hr1 := hnr (j + 1)
  have hmr : V / 1000000000 ^ (j + 1) % W < W := Nat.mod_lt _ hWp
  rw [← dw2] at hqd
  generalize V / 1000000000 ^ (j + 1) % W = R at *
  have hup := w1y (R := R) hd
  have hnx := Y1l (R := R) hd
  rw [← hwd] at hup
  generalize V / 1000000000 ^ j % 1000000000 = dg at *
  have ht := w0a false (nw R + 1) (nw (R * 1000000000 + dg)) (wd (R * 1000000000 + dg)) hnx zO (fun i h _ => v0n h) (by
   by_cases h0 : R * 1000000000 + dg = 0
   ·left; rw [h0, q0L]
   ·exact .inr (y0f h0))
  generalize R * 1000000000 + dg = X at *
  refine wl ?_
  refine q0n (y0o (l := 1) (h := 232) rfl rfl ⟨_, _, rfl, rfl⟩ rfl zE zE zE) rfl ?_
  refine wl ?_
  refine q0n (z0N (h := nw R) rfl rfl rfl zO zE) rfl ?_
  refine wl ?_
  refine v0S (k0x (m := nw R) rfl rfl rfl zO) rfl ?_
  refine wl ?_
  refine y0y (x0U 0 rfl rfl rfl rfl zE) ?_
  refine wl ?_
  refine j0x (Q1I 8 (n' := ((nw R + 1 : Nat) : Int)) (f' := wd X) rfl rfl zO hup) ?_
  refine j0C (j0o [(1000, 8)] ht rfl ⟨rfl, trivial⟩ rfl) rfl ?_
  refine wl ?_
  refine j0h (γ := Nat × Nat) (fun q => [(0, .own 1000 0), (1, .own 1001 0), (6, .own 7 0), (7, .own 8 0), (8, .av (vi j)), (9, .av (vi q.2))]) (fun q => [(7, .wi false n (hiq (V / W) (j + 1))), (8, .wi false (nw q.1) (wd q.1)), (1000, .wi b (nw V) (wd V)), (1001, .wi b' (nw W) (wd W))]) (fun q => X = q.1 + q.2 * W) (fun q => q.1) (X, 0) (by show X = X + 0 * W; omega) (ent zS zT) ?_
  rintro ⟨Y, dd⟩ hY
  dsimp only at hY ⊢
  have hYX : nw Y ≤ 232 := Nat.le_trans (v0w (by omega : Y ≤ X)) zO
  have hbe := J0d Y W false b' hYX zO
  have hb2 := q1a Y W
  have hdd : dd < 1000000000 := by
   refine Nat.lt_of_le_of_lt ?_ dw3
   rw [Nat.le_div_iff_mul_le hWp]; omega
  refine wl ?_
  refine j0j (q0p hbe rfl ⟨.w rfl rfl, .w rfl rfl, trivial⟩ (q0I _)) rfl ?_
  refine wl ?_
  (refine j0a rfl ?_ ?_ <;> intro hb <;> (try simp only [zA, zB, zG, zC, zD, zN] at hb) <;> (try exact zQ))
  ·have hes := V0e Y W false b' hYX zO hW0
   obtain ⟨he1, he2, he3⟩ := z1V hW0 (hb2.1 zO)
   obtain ⟨κ, hκ⟩ : ∃ κ : Nat, est Y W = κ := ⟨(est Y W).toNat, by omega⟩
   rw [hκ] at hes he1 he2 he3
   have hle : κ * W ≤ Y := by rw [← Int.natCast_mul] at he3; omega
   have hsub : (dd + κ) * W ≤ X := by rw [Nat.add_mul]; omega
   have hdk : dd + κ < 1000000000 := by
    refine Nat.lt_of_le_of_lt ?_ dw3
    rw [Nat.le_div_iff_mul_le hWp]; exact hsub
   have hcz := q1k false b' Y W (Y - κ * W) 0 (-(κ : Int)) hYX (by omega) (Nat.le_trans (v0w (Nat.sub_le _ _)) hYX) (by omega) (by rw [Int.natCast_sub hle, Int.natCast_mul]; simp; grind)
   refine wl ?_
   refine j0j (q0p hes rfl ⟨.w rfl rfl, .w rfl rfl, trivial⟩ (q0I _)) rfl ?_
   refine wl ?_
   refine j0C (j0o [(1000, 8), (1001, 1001)] hcz rfl ⟨rfl, rfl, trivial⟩ rfl) rfl ?_
   refine wl ?_
   have hκ0 : 0 < κ * W := Nat.mul_pos zO hWp
   exact j0b (g := (Y, dd)) (Y - κ * W, dd + κ) (by show X = Y - κ * W + (dd + κ) * W; rw [Nat.add_mul]; omega) (by show Y - κ * W < Y; omega) (ent ⟨.refl _, .refl _, .refl _, .refl _, .refl _, .int (by show (dd : Int) + κ = ((dd + κ : Nat) : Int); omega), trivial⟩ zT)
  ·have hlt : Y < W := by omega
   have q1 : X % W = Y := by rw [hY, Nat.add_mul_mod_self_right, Nat.mod_eq_of_lt hlt]
   have q2 : X / W = dd := by rw [hY, Nat.add_mul_div_right _ _ hWp, Nat.div_eq_of_lt hlt, Nat.zero_add]
   rw [q2] at hqd
   rw [q1] at dw1
   have hmx : ((max n (j + 1) : Nat) : Int) = if (n : Int) < (j : Int) + 1 then (j : Int) + 1 else n := by split <;> omega
   refine wl ?_
   exact j0b (g := (j + 1, n)) (j, max n (j + 1)) ⟨by show j ≤ nw V; omega, by show max n (j + 1) ≤ 231; omega, .inl (by show nw (V / W) ≤ max n (j + 1); omega)⟩ (by show j < j + 1; omega) (ent zS ⟨⟨_, rfl, by
    dsimp only
    rw [hmx, show hiq (V / W) j = _ from (k0D (Q := V / W) (k := j)).symm, hqd]
    exact .refl _⟩, ⟨_, rfl, by
    dsimp only
    rw [← dw1]
    exact .refl _⟩, ⟨_, rfl, .refl _⟩, ⟨_, rfl, .refl _⟩, trivial⟩)
 ·obtain rfl : k = 0 := by omega
  rw [k0E, Nat.pow_zero, Nat.div_one]
  have ht := w0a false n (nw (V / W)) (wd (V / W)) zO zO (fun i h _ => v0n h) (by
   by_cases h0 : V / W = 0
   ·left; rw [h0, q0L]
   ·exact .inr (y0f h0))
  refine wl ?_
  refine j0C (j0o [(1000, 7)] ht rfl ⟨rfl, trivial⟩ rfl) rfl ?_
  refine wl ?_
  exact q0o (T' := [(4, .own 7 0), (5, .own 8 0)]) (O' := [(7, .wi false (nw (V / W)) (wd (V / W))), (8, .wi false (nw (V % W)) (wd (V % W))), (1000, .wi b (nw V) (wd V)), (1001, .wi b' (nw W) (wd W))]) (ent zS zT) (K0n (c1 := .own 7 0) (c2 := .own 8 0) rfl rfl rfl rfl rfl)
theorem wd0 {V : Nat} (h : nw V ≤ 1) : wd V 0 = V := by
 have := z0Z 1 V (Nat.lt_of_lt_of_le (v0W V) (Nat.pow_le_pow_right zE h))
 simpa [vw] using this
theorem x1q (m n : Int) (hm : LI 1000 m) (hn : LI 1000 n) : CtrA Tryz.prog 167 [vI m, vI n] (j0B [vI (Nat.gcd m.natAbs n.natAbs : Nat), vi 0]) := by
 have h00 := Q0V m n hm hn
 have n1 := X0X (j := 112) hm zE
 have n2 := X0X (j := 112) hn zE
 have r1 := y0w m (Nat.le_trans (hm.len zE) zE)
 have r2 := y0w n (Nat.le_trans (hn.len zE) zE)
 generalize m.natAbs = M at *
 generalize n.natAbs = N at *
 refine j0r _ Tryz.func167 rfl rfl Tryz.ntmps167 rfl fun w Z => ?_
 refine zU ?_
 refine wl ?_
 refine j0j (v0J rfl rfl) rfl ?_
 refine wl ?_
 refine j0C (j0o [(7, 20)] r1 rfl trivial rfl) rfl ?_
 refine wl ?_
 refine j0C (j0o [(7, 21)] r2 rfl trivial rfl) rfl ?_
 refine wl ?_
 refine j0h (γ := (Bool × Bool) × (Nat × Nat)) (fun q => [(7, .own 20 0), (8, .own 21 0)]) (fun q => [(20, .wi q.1.1 (nw q.2.1) (wd q.2.1)), (21, .wi q.1.2 (nw q.2.2) (wd q.2.2))]) (fun q => Nat.gcd q.2.1 q.2.2 = Nat.gcd M N ∧ nw q.2.1 ≤ 112 ∧ nw q.2.2 ≤ 112) (fun q => q.2.2) ((decide (m < 0), decide (n < 0)), (M, N)) ⟨rfl, n1, n2⟩ (ent zS zT) ?_
 rintro ⟨⟨bx, by'⟩, x, y⟩ ⟨k1, k2, k3⟩
 dsimp only at k1 k2 k3 ⊢
 have hy := V0B (V := y)
 refine wl ?_
 (refine j0a rfl ?_ ?_ <;> intro hb <;> (try simp only [zA, zB, zG, zC, zD, zN] at hb) <;> (try exact zQ))
 ·refine wl ?_
  by_cases hs : nw x ≤ 1 ∧ nw y ≤ 1
  ·have e1 := wd0 hs.1
   have e2 := wd0 hs.2
   have q1 := q0y x 0
   have q2 := q0y y 0
   have hB : Na.B = 1000000000 := rfl
   rw [hB, e1] at q1
   rw [hB, e2] at q2
   (first | refine j0g rfl rfl ?_ ?_ | refine j0f rfl rfl ?_ ?_) <;> intro hb <;> (try simp only [zA, zB, zG, zC, zD, zN] at hb) <;> (try exact zQ)
   refine wl ?_
   (refine j0a rfl ?_ ?_ <;> intro hb <;> (try simp only [zA, zB, zG, zC, zD, zN] at hb) <;> (try exact zQ))
   refine wl ?_
   rw [e1, e2]
   refine j0h (γ := Nat × Nat) (fun q => [(9, .av (vi q.1)), (10, .av (vi q.2))]) (fun _ => []) (fun q => Nat.gcd q.1 q.2 = Nat.gcd M N ∧ q.1 < 1000000000 ∧ q.2 < 1000000000) (fun q => q.2) (x, y) ⟨k1, by dsimp only; omega, by dsimp only; omega⟩ (ent zS trivial) ?_
   rintro ⟨x, y⟩ ⟨k1, k2, k3⟩
   dsimp only at k1 k2 k3 ⊢
   refine wl ?_
   (refine j0a rfl ?_ ?_ <;> intro hb <;> (try simp only [zA, zB, zG, zC, zD, zN] at hb) <;> (try exact zQ))
   ·refine wl ?_
    exact j0b (g := (x, y)) (y, x % y) ⟨by show Nat.gcd y (x % y) = _; rw [y0O x y (by omega), k1], k3, by show x % y < _; have := Nat.mod_lt x (show y > 0 by omega); omega⟩ (by show x % y < y; exact Nat.mod_lt _ (by omega)) (ent ⟨.refl _, .int (by dsimp only; omega), trivial⟩ trivial)
   ·obtain rfl : y = 0 := by omega
    rw [Nat.gcd_zero_right] at k1
    have hof := X0h x zO
    refine wl ?_
    exact j0v (rvs := [_, _]) (τs := [_, _]) rfl rfl ⟨.tmp rfl, .tmp rfl, trivial⟩ (by rw [k1])
  ·(first | refine j0g rfl rfl ?_ ?_ | refine j0f rfl rfl ?_ ?_) <;> intro hb <;> (try simp only [zA, zB, zG, zC, zD, zN] at hb) <;> (try exact zQ)
   ·refine wl ?_
    (refine j0a rfl ?_ ?_ <;> intro hb <;> (try simp only [zA, zB, zG, zC, zD, zN] at hb) <;> (try exact zQ))
    have hd := V0K bx by' x y zO zO zO
    refine wl ?_
    refine j0C (j0o [(1000, 20), (1001, 21), (7, 22), (8, 23)] hd rfl ⟨rfl, rfl, trivial⟩ rfl) rfl ?_
    refine wl ?_
    refine j0j (j0Y (s := .tupC [.own 22 0, .own 23 0]) rfl) rfl ?_
    refine wl ?_
    exact j0b (g := ((bx, by'), x, y)) ((by', false), (y, x % y)) ⟨by show Nat.gcd y (x % y) = _; rw [y0O x y (by omega), k1], k3, Nat.le_trans (v0w (Nat.mod_le _ _)) k2⟩ (by show x % y < y; exact Nat.mod_lt _ (by omega)) (J0W [(20, 21), (21, 23)] ⟨rfl, rfl, trivial⟩ ⟨rfl, rfl, trivial⟩ rfl rfl)
   ·have hd := V0K bx by' x y zO zO zO
    refine wl ?_
    refine j0C (j0o [(1000, 20), (1001, 21), (7, 22), (8, 23)] hd rfl ⟨rfl, rfl, trivial⟩ rfl) rfl ?_
    refine wl ?_
    refine j0j (j0Y (s := .tupC [.own 22 0, .own 23 0]) rfl) rfl ?_
    refine wl ?_
    exact j0b (g := ((bx, by'), x, y)) ((by', false), (y, x % y)) ⟨by show Nat.gcd y (x % y) = _; rw [y0O x y (by omega), k1], k3, Nat.le_trans (v0w (Nat.mod_le _ _)) k2⟩ (by show x % y < y; exact Nat.mod_lt _ (by omega)) (J0W [(20, 21), (21, 23)] ⟨rfl, rfl, trivial⟩ ⟨rfl, rfl, trivial⟩ rfl rfl)
 ·obtain rfl : y = 0 := by omega
  rw [Nat.gcd_zero_right] at k1
  have t1 := z0J false x zO
  refine wl ?_
  refine j0j (q0p t1 rfl ⟨.w rfl rfl, trivial⟩ (q0I _)) rfl ?_
  refine wl ?_
  exact j0v (rvs := [_, _]) (τs := [_, _]) rfl rfl ⟨.tmp rfl, .tmp rfl, trivial⟩ (by rw [← k1]; rfl)
theorem k0F {a b : List UInt8} (h : (47 : UInt8) ∉ a) : Lib.index (a ++ 47 :: b) [47] = a.length := by
 refine Lib.index_first (by simp) (by simp [Lib.occAt]) fun j hj => ?_
 have h1 : a[j] ≠ 47 := fun e => h (e ▸ List.getElem_mem hj)
 simp only [Lib.occAt]
 rw [List.drop_append_of_le_length (by omega), List.drop_eq_getElem_cons hj]
 show ((47 == a[j]) && _) = false
 rw [beq_eq_false_iff_ne.2 (Ne.symm h1)]; rfl
theorem V0t {a : List UInt8} (h : (47 : UInt8) ∉ a) : Lib.index a [47] = -1 := by
 refine Lib.index_none fun j hj => ?_
 simp only [Lib.occAt]
 by_cases hl : j < a.length
 ·have h1 : a[j] ≠ 47 := fun e => h (e ▸ List.getElem_mem hl)
  rw [List.drop_eq_getElem_cons hl]
  show ((47 == a[j]) && _) = false
  rw [beq_eq_false_iff_ne.2 (Ne.symm h1)]; rfl
 ·rw [List.drop_eq_nil_of_le (by omega)]
  rfl
theorem q1u (q : Rat) : Lib.cut (rtx q) [47] = if q.den = 1 then (itoa q.num, [], false) else (itoa q.num, decDigits q.den, true) := by
 unfold Lib.cut rtx
 split
 ·rw [V0t (v1x q.num), if_neg (by omega)]
 ·rw [k0F (v1x q.num), if_pos (by omega)]
  simp
theorem LR.tlen {q : Rat} (h : LR 1000 q) : (rtx q).length ≤ 2003 := by
 have h1 := h.1.len zE
 have h2 := h.2.len zE
 have h3 : (itoa q.num).length ≤ 1001 := by
  by_cases hn : q.num < 0
  ·rw [itoa_neg hn]; simp; omega
  ·rw [j0G hn]; omega
 unfold rtx
 split
 ·omega
 ·rw [List.length_append, List.length_cons]
  rw [Int.natAbs_natCast] at h2
  omega
theorem J0r : itoa 1 = [49] := by
 rw [j0G (by decide)]
 show decDigits 1 = _
 rw [decDigits]; rfl
theorem K1m (q : Rat) (h : LR 1000 q) (hd : q.den = 1) : CtrA Tryz.prog 164 [vR q] (j0B [vI q.num, vS [49], vb false]) := by
 have h1 := Q1C (rtx q) (by have := LR.tlen h; omega)
 rw [q1u, if_pos hd] at h1
 refine j0r _ Tryz.func164 rfl rfl Tryz.ntmps164 rfl fun w Z => ?_
 refine zU ?_
 refine wl ?_
 exact zX
theorem K1n (q : Rat) (h : LR 1000 q) (hd : q.den ≠ 1) : CtrA Tryz.prog 164 [vR q] (j0B [vI q.num, vI q.den, vb true]) := by
 have h1 := Q1C (rtx q) (by have := LR.tlen h; omega)
 rw [q1u, if_neg hd, ← v0i] at h1
 refine j0r _ Tryz.func164 rfl rfl Tryz.ntmps164 rfl fun w Z => ?_
 refine zU ?_
 refine wl ?_
 exact zX
theorem Y0e (q : Rat) (h : LR 1000 q) : CtrA Tryz.prog 164 [vR q] (j0B [vI q.num, vI q.den, vb (decide (q.den ≠ 1))]) := by
 by_cases hd : q.den = 1
 ·have := K1m q h hd
  have e : vI (q.den : Int) = vS [49] := by rw [hd]; exact congrArg vS J0r
  rw [e, decide_eq_false (by simpa using hd)]
  exact this
 ·rw [decide_eq_true hd]
  exact K1n q h hd
theorem Y0g (m e : Int) (hm : LI 1000 m) (he : LI 1000 e) : CtrA Tryz.prog 221 [vI m, vI e] (vS (if e = 1 then itoa m else itoa m ++ 47 :: itoa e)) := by
 have l1 := hm.len zE
 have l2 := he.len zE
 have hl : ∀ k : Int, (decDigits k.natAbs).length ≤ 1000 → (itoa k).length ≤ 1001 := fun k hk => by
  by_cases hn : k < 0
  ·rw [itoa_neg hn]; simp; omega
  ·rw [j0G hn]; omega
 have l3 := hl m l1
 have l4 := hl e l2
 have e1 : (itoa e == [49]) = decide (e = 1) := by
  rw [← J0r]
  by_cases h : e = 1
  ·subst h; simp
  ·rw [decide_eq_false h, beq_eq_false_iff_ne]
   exact fun h2 => h (x0a h2)
 by_cases h : e = 1
 ·rw [if_pos h]
  rw [decide_eq_true h] at e1
  refine j0r _ Tryz.func221 rfl rfl Tryz.ntmps221 rfl fun w Z => ?_
  refine zU ?_
  refine wl ?_
  rw [e1]
  refine wl ?_
  exact zV
 ·rw [if_neg h]
  rw [decide_eq_false h] at e1
  refine j0r _ Tryz.func221 rfl rfl Tryz.ntmps221 rfl fun w Z => ?_
  refine zU ?_
  refine wl ?_
  rw [e1]
  refine wl ?_
  refine j0j (x0v (l := itoa m) (m := [47]) rfl rfl (by simp only [List.length_cons, List.length_nil]; omega)) rfl ?_
  refine wl ?_
  refine j0j (x0v (l := itoa m ++ [47]) (m := itoa e) rfl rfl (by simp only [List.length_append, List.length_cons, List.length_nil]; omega)) rfl ?_
  refine wl ?_
  exact j0c rfl (.tmp rfl) (by rw [List.append_assoc]; rfl)
abbrev E0 : Res := .vb [.int .i64 0]
theorem W1I (f : FuncId) (x y r : Int) (hc : CtrA Tryz.prog f [vI x, vI y] (j0B [vI r, vi 0])) : CtrH Tryz.prog 170 [.own 1000 0, .av (.val (.func (.func f) #[] #[])), .av (vI x), .av (vI y)] [(1000, E0)] (.av (vI r)) [(1000, E0)] := by
 refine Q0R _ Tryz.func170 rfl rfl Tryz.ntmps170 rfl rfl fun w Z ν => ?_
 refine zU ?_
 refine wl ?_
 refine q0M (x0T rfl rfl rfl rfl zE rfl) ?_
 refine wl ?_
 exact q0o (T' := [(8, .av (vI r))]) (O' := [(1000, E0)]) (ent ⟨.refl _, trivial⟩ zT) (v0Z rfl rfl rfl)
theorem Y1J (x y : Int) (hx : LI 1000 x) (hy : LI 1000 y) (h : LI 1000 (x + y)) : CtrH Tryz.prog 138 [.own 1000 0, .av (vI x), .av (vI y)] [(1000, E0)] (.av (vI (x + y))) [(1000, E0)] := by
 have hc := W1I 205 x y _ (Q1a x y hx hy h)
 refine Q0R _ Tryz.func138 rfl rfl Tryz.ntmps138 rfl rfl fun w Z ν => ?_
 refine zU ?_
 refine wl ?_
 refine j0C (j0o [] hc rfl ⟨rfl, trivial⟩ rfl) rfl ?_
 refine wl ?_
 exact q0o (T' := [(6, .av (vI (x + y)))]) (O' := [(1000, E0)]) (ent ⟨.refl _, trivial⟩ zT) (v0Z rfl rfl rfl)
theorem J1y (x y : Int) (hx : LI 1000 x) (hy : LI 1000 y) (h : LI 1000 (x - y)) : CtrH Tryz.prog 100 [.own 1000 0, .av (vI x), .av (vI y)] [(1000, E0)] (.av (vI (x - y))) [(1000, E0)] := by
 have hc := W1I 171 x y _ (Z1J x y hx hy h)
 refine Q0R _ Tryz.func100 rfl rfl Tryz.ntmps100 rfl rfl fun w Z ν => ?_
 refine zU ?_
 refine wl ?_
 refine j0C (j0o [] hc rfl ⟨rfl, trivial⟩ rfl) rfl ?_
 refine wl ?_
 exact q0o (T' := [(6, .av (vI (x - y)))]) (O' := [(1000, E0)]) (ent ⟨.refl _, trivial⟩ zT) (v0Z rfl rfl rfl)
def Y0c (g : Nat → Int) : Nat → Int
 |0 => 1
 |i + 1 => Y0c g i * g i
theorem Y1L (n : Nat) (g : Nat → Int) (hn : n ≤ 1000000) (hg : ∀ i, i < n → LI 1000 (g i)) (hp : ∀ i, i ≤ n → LI 1000 (Y0c g i)) : CtrH Tryz.prog 101 [.own 1000 0, .av (.sl n 1 (fun i _ => vI (g i)))] [(1000, E0)] (.av (vI (Y0c g n))) [(1000, E0)] := by
 refine Q0R _ Tryz.func101 rfl rfl Tryz.ntmps101 rfl rfl fun w Z ν => ?_
 refine zU ?_
 refine wl ?_
 refine j0j (Q1U (caps := [.own 1000 0]) rfl) rfl ?_
 refine wl ?_
 refine j0j (j0F (s := .fnC 170 [.own 1000 0]) rfl) rfl ?_
 refine wl ?_
 refine j0h (γ := Nat) (fun i => [(5, .av (vI (Y0c g i))), (6, .fnC 170 [.own 1000 0]), (11, .av (.sl n 1 (fun i _ => vI (g i)))), (12, .av (vi n)), (13, .av (vi i))]) (fun _ => [(1000, E0)]) (fun i => i ≤ n) (fun i => n - i) 0 (Nat.zero_le _) (ent ⟨by
  show SLe (.av (vS [49])) (.av (vS (itoa 1)))
  rw [J0r]; exact .refl _, .refl _, .refl _, .refl _, .refl _, trivial⟩ zT) ?_
 intro i hi
 refine wl ?_
 (refine j0a rfl ?_ ?_ <;> intro hb <;> (try simp only [zA, zB, zG, zC, zD, zN] at hb) <;> (try exact zQ))
 ·have hc := W1I 172 (Y0c g i) (g i) _ (Z1F _ _ (hp i hi) (hg i zO) (hp (i + 1) zO))
  refine wl ?_
  refine j0j (j0Y (s := .fnC 170 [.own 1000 0]) rfl) rfl ?_
  refine wl ?_
  refine j0C (x1n [] hc rfl rfl ⟨rfl, trivial⟩ rfl) rfl ?_
  refine wl ?_
  exact j0b (i + 1) zO zO (ent zS zT)
 ·obtain rfl : i = n := by omega
  refine wl ?_
  exact v0Z rfl rfl rfl
theorem X1W (d : Int) : decide ((itoa d).head? = some 45) = decide (d < 0) := by
 by_cases h : d < 0
 ·rw [itoa_neg h, decide_eq_true h]; rfl
 ·rw [j0G h, decide_eq_false h]
  obtain ⟨b, r, e, hb⟩ := J0j d.natAbs
  rw [e, decide_eq_false]
  intro h2
  simp at h2
  exact q1x hb h2
theorem vI0 : vI 0 = vS [48] := congrArg vS X0P
theorem Y0h (n d : Int) (hn : LI 1000 n) (hdd : LI 1000 d) (hd : d ≠ 0) : CtrH Tryz.prog 169 [.own 1000 0, .av (vI n), .av (vI d)] [(1000, E0)] (.av (vR (Rat.divInt n d))) [(1000, E0)] := by
 have hg := W1I 167 n d _ (x1q n d hn hdd)
 have hgp : 0 < Nat.gcd n.natAbs d.natAbs := Nat.gcd_pos_of_pos_right _ zO
 have hgle : Nat.gcd n.natAbs d.natAbs ≤ d.natAbs := Nat.le_of_dvd zO (Nat.gcd_dvd_right _ _)
 have hgl : LI 1000 ((Nat.gcd n.natAbs d.natAbs : Nat) : Int) := hdd.le zO
 have hpre := X1V (itoa d)
 rw [X1W] at hpre
 have key : ∀ G : Int, G = (if d < 0 then -((Int.gcd n d : Nat) : Int) else ((Int.gcd n d : Nat) : Int)) → ∃ a b : Int, CtrH Tryz.prog 170 [.own 1000 0, .av (.val (.func (.func 233) #[] #[])), .av (vI n), .av (vI G)] [(1000, E0)] (.av (vI a)) [(1000, E0)] ∧ CtrH Tryz.prog 170 [.own 1000 0, .av (.val (.func (.func 233) #[] #[])), .av (vI d), .av (vI G)] [(1000, E0)] (.av (vI b)) [(1000, E0)] ∧ CtrA Tryz.prog 221 [vI a, vI b] (vR (Rat.divInt n d)) := by
  intro G hG
  have hGa : G.natAbs = Nat.gcd n.natAbs d.natAbs := by
   rw [hG]; unfold Int.gcd; split <;> omega
  have hG0 : G ≠ 0 := by omega
  have hGl : LI 1000 G := hdd.le zO
  have d1 : G ∣ n := Int.natAbs_dvd_natAbs.1 (hGa ▸ Nat.gcd_dvd_left _ _)
  have d2 : G ∣ d := Int.natAbs_dvd_natAbs.1 (hGa ▸ Nat.gcd_dvd_right _ _)
  have q1 : LI 1000 (n / G) := hn.le (by rw [Int.natAbs_ediv_of_dvd d1]; exact Nat.div_le_self _ _)
  have q2 : LI 1000 (d / G) := hdd.le (by rw [Int.natAbs_ediv_of_dvd d2]; exact Nat.div_le_self _ _)
  have w1 := Q1c n G hn hGl hG0 (by rw [J0l d1]; exact q1)
  have w2 := Q1c d G hdd hGl hG0 (by rw [J0l d2]; exact q2)
  rw [J0l d1] at w1
  rw [J0l d2] at w2
  have hj := Y0g (n / G) (d / G) q1 q2
  rw [← V1G hd hG] at hj
  exact ⟨n / G, d / G, W1I 233 n G _ w1, W1I 233 d G _ w2, hj⟩
 by_cases hneg : d < 0
 ·rw [decide_eq_true hneg] at hpre
  have hs := J1y 0 _ (LI.small (by decide) (by decide)) hgl (by rw [Int.zero_sub]; exact hgl.neg)
  rw [vI0] at hs
  obtain ⟨a, b, k1, k2, k3⟩ := key (0 - (Nat.gcd n.natAbs d.natAbs : Nat)) (by rw [if_pos hneg, Int.zero_sub]; rfl)
  refine Q0R _ Tryz.func169 rfl rfl Tryz.ntmps169 rfl rfl fun w Z ν => ?_
  refine zU ?_
  refine wl ?_
  refine j0C (j0o [] hg rfl ⟨rfl, trivial⟩ rfl) rfl ?_
  refine wl ?_
  refine j0C (j0o [] hs rfl ⟨rfl, trivial⟩ rfl) rfl ?_
  refine wl ?_
  refine j0C (j0o [] k1 rfl ⟨rfl, trivial⟩ rfl) rfl ?_
  refine wl ?_
  refine j0C (j0o [] k2 rfl ⟨rfl, trivial⟩ rfl) rfl ?_
  refine wl ?_
  exact q0o (T' := [(6, .av (vR (Rat.divInt n d)))]) (O' := [(1000, E0)]) (ent ⟨.refl _, trivial⟩ zT) (v0Z rfl rfl rfl)
 ·rw [decide_eq_false hneg] at hpre
  obtain ⟨a, b, k1, k2, k3⟩ := key (Nat.gcd n.natAbs d.natAbs : Nat) (by rw [if_neg hneg]; rfl)
  refine Q0R _ Tryz.func169 rfl rfl Tryz.ntmps169 rfl rfl fun w Z ν => ?_
  refine zU ?_
  refine wl ?_
  refine j0C (j0o [] hg rfl ⟨rfl, trivial⟩ rfl) rfl ?_
  refine wl ?_
  refine j0C (j0o [] k1 rfl ⟨rfl, trivial⟩ rfl) rfl ?_
  refine wl ?_
  refine j0C (j0o [] k2 rfl ⟨rfl, trivial⟩ rfl) rfl ?_
  refine wl ?_
  exact q0o (T' := [(6, .av (vR (Rat.divInt n d)))]) (O' := [(1000, E0)]) (ent ⟨.refl _, trivial⟩ zT) (v0Z rfl rfl rfl)
end Go.Proofs.YtfggdokihnopeaaGreatDoor
section
namespace Go.Proofs.YtfggdokihnopeaaGreatDoor
open Go Go.Vc Go.RowKit Go.Na Go.Lib
set_option maxHeartbeats 4000000
theorem vI1 : vI 1 = vS [49] := congrArg vS J0r
theorem Y0P (q : Rat) : Nat.gcd q.num.natAbs (q.den : Int).natAbs = 1 := by
 rw [Int.natAbs_natCast]; exact q.reduced
theorem ratcheck_c (q : Rat) (h : LR 1000 q) : CtrA Tryz.prog 97 [vR q] (vi 0) := by
 have h2 := w0w q.num h.1
 have h3 := w0w q.den h.2
 by_cases hd : q.den = 1
 ·have h1 := K1m q h hd
  rw [hd] at h3
  have h3 : CtrA Tryz.prog 165 [vS [49]] (vi 0) := by rw [← vI1]; exact h3
  refine j0r _ Tryz.func97 rfl rfl Tryz.ntmps97 rfl fun w Z => ?_
  refine zU ?_
  refine wl ?_
  exact zV
 ·have h1 := K1n q h hd
  have hpos := q.den_pos
  have h4 := z0H q.den 1 h.2 (LI.small zE zE)
  have e4 : sgn ((q.den : Int) - 1) = 1 := by unfold sgn; rw [if_neg (by omega), if_neg (by omega)]
  rw [e4, vI1] at h4
  have h5 := x1q q.num q.den h.1 h.2
  rw [Y0P] at h5
  have h5 : CtrA Tryz.prog 167 [vI q.num, vI q.den] (j0B [vS [49], vi 0]) := by rw [← vI1]; exact h5
  refine j0r _ Tryz.func97 rfl rfl Tryz.ntmps97 rfl fun w Z => ?_
  refine zU ?_
  refine wl ?_
  exact zV
theorem x1V (n : Nat) (g : Nat → Rat) (hn : n ≤ 1000000) (hg : ∀ i, i < n → LR 1000 (g i)) : CtrA Tryz.prog 168 [.sl n 1 (fun i _ => vR (g i))] (vi 0) := by
 refine j0r _ Tryz.func168 rfl rfl Tryz.ntmps168 rfl fun w Z => ?_
 refine zU ?_
 refine wl ?_
 refine j0h (γ := Nat) (fun i => [(6, .av (.sl n 1 (fun i _ => vR (g i)))), (7, .av (vi n)), (8, .av (vi i))]) (fun _ => []) (fun i => i ≤ n) (fun i => n - i) 0 (Nat.zero_le _) (ent zS trivial) ?_
 intro i hi
 refine wl ?_
 (refine j0a rfl ?_ ?_ <;> intro hb <;> (try simp only [zA, zB, zG, zC, zD, zN] at hb) <;> (try exact zQ))
 ·have hc := ratcheck_c (g i) (hg i zO)
  refine wl ?_
  exact j0b (i + 1) zO zO (ent zS trivial)
 ·refine wl ?_
  exact zV
def k1Y (a b : Rat) (i : Nat) : Rat := if i = 0 then a else b
theorem Z1n (a b : ByteArray) (w : World) : (Instr.buildSlice 62 2 #[(0, .string a), (1, .string b)]).run Tryz.prog w = .ok (.slice (some ⟨w.heap.size, 0, none⟩) 2 2) (w.alloc (.cells #[.string a, .string b] 33)) := by kernel_rfl
section
variable {E : Env} {T : Tab} {O : Go.Vc.Own} {d : Option Nat} {ty : TypeId} {pos : String} {af : Array Edge} {g : Option (Nat × Bool)}
theorem v1b {x y : Operand} {a b : Rat} (hx : T.ev x = .av (vR a)) (hy : T.ev y = .av (vR b)) : GV Tryz.prog E ⟨d, .buildSlice 62 2 #[(0, x), (1, y)], ty, pos, af, g⟩ T O (.av (.sl 2 1 (fun i _ => vR (k1Y a b i)))) [] [] :=
 j0E (is := [0, 1]) (xs := [x, y]) (vs := [.string (bs (rtx a)), .string (bs (rtx b))]) (us := [.string (bs (rtx a)), .string (bs (rtx b))]) (Z1n _ _) rfl (by simp only [List.map_cons, List.map_nil, hx, hy]) rfl (fun i hi j hj => by
  obtain rfl : j = 0 := zO
  rcases (by omega : i = 0 ∨ i = 1) with rfl | rfl <;> exact ⟨_, rfl, rfl⟩)
end
theorem J0J (q r : Rat) (hq : LR 1000 q) (hr : LR 1000 r) : CtrA Tryz.prog 168 [.sl 2 1 (fun i _ => vR (k1Y q r i))] (vi 0) :=
 x1V 2 (k1Y q r) zE (fun i hi => by rcases (by omega : i = 0 ∨ i = 1) with rfl | rfl <;> assumption)
theorem w1S : Tryz.prog.built 231 [] = some #[.int .i64 0] := by kernel_rfl
theorem k0L (f : FuncId) (q r : Rat) (num den : Int) (hq : LR 1000 q) (hr : LR 1000 r) (hn : LI 1000 num) (hdn : LI 1000 den) (hd : den ≠ 0)
  (hf : CtrH Tryz.prog f [.own 1000 0, .av (vI q.num), .av (vI q.den), .av (vI r.num), .av (vI r.den)] [(1000, E0)] (.av (j0B [vI num, vI den])) [(1000, E0)]) : CtrA Tryz.prog 98 [vR q, vR r, .val (.func (.func f) #[] #[])] (j0B [vR (Rat.divInt num den), vi 0]) := by
 have h1 := J0J q r hq hr
 have h2 := Y0e q hq
 have h3 := Y0e r hr
 have h4 := Y0h num den hn hdn hd
 have hz := w0o den
 rw [decide_eq_false hd] at hz
 refine j0r _ Tryz.func98 rfl rfl Tryz.ntmps98 rfl fun w Z => ?_
 refine zU ?_
 refine wl ?_
 refine j0j (v1b rfl rfl) rfl ?_
 refine wl ?_
 refine j0j (j0n (is := []) (xs := []) (vs := []) w1S rfl rfl) rfl ?_
 refine j0C (J0k 7 rfl rfl) rfl ?_
 refine wl ?_
 refine j0C (x1o [(1000, 7)] hf rfl rfl ⟨rfl, trivial⟩ rfl) rfl ?_
 refine wl ?_
 rw [hz]
 refine wl ?_
 refine j0C (j0o [(1000, 7)] h4 rfl ⟨rfl, trivial⟩ rfl) rfl ?_
 refine wl ?_
 exact zW
theorem z0X (a b : Int) (ha : LI 1000 a) (hb : LI 1000 b) (h : LI 1000 (a * b)) : CtrH Tryz.prog 101 [.own 1000 0, .av (.sl 2 1 (fun i _ => vI (two a b i)))] [(1000, E0)] (.av (vI (a * b))) [(1000, E0)] := by
 have e1 : Y0c (two a b) 1 = a := by show 1 * a = _; rw [Int.one_mul]
 have e2 : Y0c (two a b) 2 = a * b := by show Y0c (two a b) 1 * b = _; rw [e1]
 have := Y1L 2 (two a b) zE (fun i hi => by rcases (by omega : i = 0 ∨ i = 1) with rfl | rfl <;> assumption) (fun i hi => by
  rcases (by omega : i = 0 ∨ i = 1 ∨ i = 2) with rfl | rfl | rfl
  ·exact LI.small (show (1 : Int).natAbs < 10 by decide) zE
  ·rw [e1]; exact ha
  ·rw [e2]; exact h)
 rwa [e2] at this
theorem K1B (n p m q : Int) (hn : LI 400 n) (hp : LI 400 p) (hm : LI 400 m) (hq : LI 400 q) : CtrH Tryz.prog 137 [.own 1000 0, .av (vI n), .av (vI p), .av (vI m), .av (vI q)] [(1000, E0)] (.av (j0B [vI (n * q + m * p), vI (p * q)])) [(1000, E0)] := by
 have b := fun (x y : Int) (hx : LI 400 x) (hy : LI 400 y) => (by have h := LI.mul hx hy; exact h : LI 800 (x * y))
 have M := fun (x : Int) (h : LI 400 x) => (h.mono zE : LI 1000 x)
 have c1 := z0X n q (M _ hn) (M _ hq) ((b _ _ hn hq).mono zE)
 have c2 := z0X m p (M _ hm) (M _ hp) ((b _ _ hm hp).mono zE)
 have c3 := z0X p q (M _ hp) (M _ hq) ((b _ _ hp hq).mono zE)
 have c4 := Y1J (n * q) (m * p) ((b _ _ hn hq).mono zE) ((b _ _ hm hp).mono zE) (((b _ _ hn hq).add (b _ _ hm hp)).mono zE)
 refine Q0R _ Tryz.func137 rfl rfl Tryz.ntmps137 rfl rfl fun w Z ν => ?_
 refine zU ?_
 refine wl ?_
 refine j0j (v0J rfl rfl) rfl ?_
 refine wl ?_
 refine j0C (j0o [] c1 rfl ⟨rfl, trivial⟩ rfl) rfl ?_
 refine wl ?_
 refine j0j (v0J rfl rfl) rfl ?_
 refine wl ?_
 refine j0C (j0o [] c2 rfl ⟨rfl, trivial⟩ rfl) rfl ?_
 refine wl ?_
 refine j0C (j0o [] c4 rfl ⟨rfl, trivial⟩ rfl) rfl ?_
 refine wl ?_
 refine j0j (v0J rfl rfl) rfl ?_
 refine wl ?_
 refine j0C (j0o [] c3 rfl ⟨rfl, trivial⟩ rfl) rfl ?_
 refine wl ?_
 exact q0o (T' := [(10, .av (vI (n * q + m * p))), (11, .av (vI (p * q)))]) (O' := [(1000, E0)]) (ent zS zT) (J0y (rvs := [_, _]) (τs := [_, _]) rfl rfl rfl ⟨.tmp rfl, .tmp rfl, trivial⟩ rfl)
theorem K1T (n p m q : Int) (hn : LI 400 n) (hp : LI 400 p) (hm : LI 400 m) (hq : LI 400 q) : CtrH Tryz.prog 99 [.own 1000 0, .av (vI n), .av (vI p), .av (vI m), .av (vI q)] [(1000, E0)] (.av (j0B [vI (n * q - m * p), vI (p * q)])) [(1000, E0)] := by
 have b := fun (x y : Int) (hx : LI 400 x) (hy : LI 400 y) => (by have h := LI.mul hx hy; exact h : LI 800 (x * y))
 have M := fun (x : Int) (h : LI 400 x) => (h.mono zE : LI 1000 x)
 have c1 := z0X n q (M _ hn) (M _ hq) ((b _ _ hn hq).mono zE)
 have c2 := z0X m p (M _ hm) (M _ hp) ((b _ _ hm hp).mono zE)
 have c3 := z0X p q (M _ hp) (M _ hq) ((b _ _ hp hq).mono zE)
 have c4 := J1y (n * q) (m * p) ((b _ _ hn hq).mono zE) ((b _ _ hm hp).mono zE) (((b _ _ hn hq).sub (b _ _ hm hp)).mono zE)
 refine Q0R _ Tryz.func99 rfl rfl Tryz.ntmps99 rfl rfl fun w Z ν => ?_
 refine zU ?_
 refine wl ?_
 refine j0j (v0J rfl rfl) rfl ?_
 refine wl ?_
 refine j0C (j0o [] c1 rfl ⟨rfl, trivial⟩ rfl) rfl ?_
 refine wl ?_
 refine j0j (v0J rfl rfl) rfl ?_
 refine wl ?_
 refine j0C (j0o [] c2 rfl ⟨rfl, trivial⟩ rfl) rfl ?_
 refine wl ?_
 refine j0C (j0o [] c4 rfl ⟨rfl, trivial⟩ rfl) rfl ?_
 refine wl ?_
 refine j0j (v0J rfl rfl) rfl ?_
 refine wl ?_
 refine j0C (j0o [] c3 rfl ⟨rfl, trivial⟩ rfl) rfl ?_
 refine wl ?_
 exact q0o (T' := [(10, .av (vI (n * q - m * p))), (11, .av (vI (p * q)))]) (O' := [(1000, E0)]) (ent zS zT) (J0y (rvs := [_, _]) (τs := [_, _]) rfl rfl rfl ⟨.tmp rfl, .tmp rfl, trivial⟩ rfl)
theorem K1M (n p m q : Int) (hn : LI 400 n) (hp : LI 400 p) (hm : LI 400 m) (hq : LI 400 q) : CtrH Tryz.prog 204 [.own 1000 0, .av (vI n), .av (vI p), .av (vI m), .av (vI q)] [(1000, E0)] (.av (j0B [vI (n * m), vI (p * q)])) [(1000, E0)] := by
 have b := fun (x y : Int) (hx : LI 400 x) (hy : LI 400 y) => (by have h := LI.mul hx hy; exact h : LI 800 (x * y))
 have M := fun (x : Int) (h : LI 400 x) => (h.mono zE : LI 1000 x)
 have c1 := z0X n m (M _ hn) (M _ hm) ((b _ _ hn hm).mono zE)
 have c3 := z0X p q (M _ hp) (M _ hq) ((b _ _ hp hq).mono zE)
 refine Q0R _ Tryz.func204 rfl rfl Tryz.ntmps204 rfl rfl fun w Z ν => ?_
 refine zU ?_
 refine wl ?_
 refine j0j (v0J rfl rfl) rfl ?_
 refine wl ?_
 refine j0C (j0o [] c1 rfl ⟨rfl, trivial⟩ rfl) rfl ?_
 refine wl ?_
 refine j0j (v0J rfl rfl) rfl ?_
 refine wl ?_
 refine j0C (j0o [] c3 rfl ⟨rfl, trivial⟩ rfl) rfl ?_
 refine wl ?_
 exact q0o (T' := [(10, .av (vI (n * m))), (11, .av (vI (p * q)))]) (O' := [(1000, E0)]) (ent zS zT) (J0y (rvs := [_, _]) (τs := [_, _]) rfl rfl rfl ⟨.tmp rfl, .tmp rfl, trivial⟩ rfl)
end Go.Proofs.YtfggdokihnopeaaGreatDoor
end
namespace Go.Proofs.YtfggdokihnopeaaGreatDoor
open Go Go.Vc Go.RowKit Go.Na Go.Lib
set_option maxHeartbeats 4000000
theorem k1i (q r : Rat) : (q.den : Int) * r.den ≠ 0 := by
 have h1 := q.den_pos
 have h2 := r.den_pos
 exact Int.mul_ne_zero zO zO
theorem li4 {x y : Int} (hx : LI 400 x) (hy : LI 400 y) : LI 1000 (x * y) := (LI.mul hx hy).mono (by decide)
theorem q0e (q r : Rat) (hq : LR 400 q) (hr : LR 400 r) : CtrA Tryz.prog 76 [vR q, vR r] (j0B [vR (q + r), vi 0]) := by
 have h := k0L 137 q r (q.num * r.den + r.num * q.den) (q.den * r.den) (hq.mono zE) (hr.mono zE) ((LI.add (LI.mul hq.1 hr.2) (LI.mul hr.1 hq.2)).mono zE) (li4 hq.2 hr.2) (k1i q r) (K1B q.num q.den r.num r.den hq.1 hq.2 hr.1 hr.2)
 rw [← add_eq] at h
 refine j0r _ Tryz.func76 rfl rfl Tryz.ntmps76 rfl fun w Z => ?_
 refine zU ?_
 refine wl ?_
 exact zW
theorem z0A (q r : Rat) (hq : LR 400 q) (hr : LR 400 r) : CtrA Tryz.prog 55 [vR q, vR r] (j0B [vR (q - r), vi 0]) := by
 have h := k0L 99 q r (q.num * r.den - r.num * q.den) (q.den * r.den) (hq.mono zE) (hr.mono zE) ((LI.sub (LI.mul hq.1 hr.2) (LI.mul hr.1 hq.2)).mono zE) (li4 hq.2 hr.2) (k1i q r) (K1T q.num q.den r.num r.den hq.1 hq.2 hr.1 hr.2)
 rw [← sub_eq] at h
 refine j0r _ Tryz.func55 rfl rfl Tryz.ntmps55 rfl fun w Z => ?_
 refine zU ?_
 refine wl ?_
 exact zW
theorem v1U (q r : Rat) (hq : LR 400 q) (hr : LR 400 r) : CtrA Tryz.prog 136 [vR q, vR r] (j0B [vR (q * r), vi 0]) := by
 have h := k0L 204 q r (q.num * r.num) (q.den * r.den) (hq.mono zE) (hr.mono zE) (li4 hq.1 hr.1) (li4 hq.2 hr.2) (k1i q r) (K1M q.num q.den r.num r.den hq.1 hq.2 hr.1 hr.2)
 rw [← mul_eq] at h
 refine j0r _ Tryz.func136 rfl rfl Tryz.ntmps136 rfl fun w Z => ?_
 refine zU ?_
 refine wl ?_
 exact zW
theorem Y0d (q : Rat) (hq : LR 1000 q) : CtrA Tryz.prog 219 [vR q] (j0B [vI q.num, vI q.den, vi 0]) := by
 have h1 := ratcheck_c q hq
 have h2 := Y0e q hq
 refine j0r _ Tryz.func219 rfl rfl Tryz.ntmps219 rfl fun w Z => ?_
 refine zU ?_
 refine wl ?_
 exact zX
theorem k0Y (q : Rat) (hq : LR 1000 q) : CtrA Tryz.prog 184 [vR q] (j0B [vi (rsg q), vi 0]) := by
 have h1 := Y0d q hq
 have h2 := W1E q.num hq.1
 refine j0r _ Tryz.func184 rfl rfl Tryz.ntmps184 rfl fun w Z => ?_
 refine zU ?_
 refine wl ?_
 exact zW
theorem j1f (q : Rat) : (if (q.den : Int) = 1 then itoa q.num else itoa q.num ++ 47 :: itoa (q.den : Int)) = rtx q := by
 unfold rtx
 rw [v0i]
 by_cases h : q.den = 1
 ·rw [if_pos h, if_pos (by omega)]
 ·rw [if_neg h, if_neg (by omega)]
theorem W0D (q : Rat) (hq : LR 1000 q) : CtrA Tryz.prog 155 [vR q] (j0B [vR (-q), vi 0]) := by
 have h1 := Y0d q hq
 have h2 := Z1G q.num hq.1
 have h3 := Y0g (-q.num) q.den hq.1.neg hq.2
 have e := j1f (-q)
 rw [Rat.neg_num, Rat.neg_den] at e
 rw [e] at h3
 refine j0r _ Tryz.func155 rfl rfl Tryz.ntmps155 rfl fun w Z => ?_
 refine zU ?_
 refine wl ?_
 exact zW
theorem v0k (n : Int) (h : -9223372036854775808 ≤ n ∧ n ≤ 9223372036854775807) : CtrA Tryz.prog 56 [vi n] (vI n) := by
 have h1 := X0h n h
 refine j0r _ Tryz.func56 rfl rfl Tryz.ntmps56 rfl fun w Z => ?_
 refine zU ?_
 refine wl ?_
 exact zV
theorem v0X (q r : Rat) (hq : LR 400 q) (hr : LR 400 r) : CtrA Tryz.prog 154 [vR q, vR r] (j0B [vi (rsg (q - r)), vi 0]) := by
 have M := fun (x : Int) (h : LI 400 x) => (h.mono zE : LI 1000 x)
 have h1 := J0J q r (hq.mono zE) (hr.mono zE)
 have h2 := Y0e q (hq.mono zE)
 have h3 := Y0e r (hr.mono zE)
 have c1 := z0X q.num r.den (M _ hq.1) (M _ hr.2) (li4 hq.1 hr.2)
 have c2 := z0X r.num q.den (M _ hr.1) (M _ hq.2) (li4 hr.1 hq.2)
 have c3 := z0H (q.num * r.den) (r.num * q.den) (li4 hq.1 hr.2) (li4 hr.1 hq.2)
 rw [w1x] at c3
 refine j0r _ Tryz.func154 rfl rfl Tryz.ntmps154 rfl fun w Z => ?_
 refine zU ?_
 refine wl ?_
 refine j0j (v1b rfl rfl) rfl ?_
 refine wl ?_
 refine j0j (j0n (is := []) (xs := []) (vs := []) w1S rfl rfl) rfl ?_
 refine j0C (J0k 7 rfl rfl) rfl ?_
 refine wl ?_
 refine j0j (v0J rfl rfl) rfl ?_
 refine wl ?_
 refine j0C (j0o [(1000, 7)] c1 rfl ⟨rfl, trivial⟩ rfl) rfl ?_
 refine wl ?_
 refine j0j (v0J rfl rfl) rfl ?_
 refine wl ?_
 refine j0C (j0o [(1000, 7)] c2 rfl ⟨rfl, trivial⟩ rfl) rfl ?_
 refine wl ?_
 exact zW
theorem y1R (n d : Int) (hn : LI 1000 n) (hdd : LI 1000 d) (hd : d ≠ 0) : CtrA Tryz.prog 257 [vI n, vI d] (j0B [vR (Rat.divInt n d), vi 0]) := by
 have h4 := Y0h n d hn hdd hd
 have hz := w0o d
 rw [decide_eq_false hd] at hz
 refine j0r _ Tryz.func257 rfl rfl Tryz.ntmps257 rfl fun w Z => ?_
 refine zU ?_
 refine wl ?_
 refine j0j (v0J rfl rfl) rfl ?_
 refine wl ?_
 refine j0h (γ := Nat) (fun i => [(0, .av (vI n)), (1, .av (vI d)), (13, .av (.sl 2 1 (fun i _ => vI (two n d i)))), (14, .av (vi 2)), (15, .av (vi i))]) (fun _ => []) (fun i => i ≤ 2) (fun i => 2 - i) 0 (Nat.zero_le _) (ent zS trivial) ?_
 intro i hi
 refine wl ?_
 (refine j0a rfl ?_ ?_ <;> intro hb <;> (try simp only [zA, zB, zG, zC, zD, zN] at hb) <;> (try exact zQ))
 ·have hc := w0w (two n d i) (by rcases (by omega : i = 0 ∨ i = 1) with rfl | rfl <;> assumption)
  refine wl ?_
  exact j0b (i + 1) zO zO (ent zS trivial)
 ·refine wl ?_
  rw [hz]
  refine wl ?_
  refine j0j (j0n (is := []) (xs := []) (vs := []) w1S rfl rfl) rfl ?_
  refine j0C (J0k 7 rfl rfl) rfl ?_
  refine wl ?_
  refine j0C (j0o [(1000, 7)] h4 rfl ⟨rfl, trivial⟩ rfl) rfl ?_
  refine wl ?_
  exact zW
end Go.Proofs.YtfggdokihnopeaaGreatDoor
namespace Go.Proofs.YtfggdokihnopeaaGreatDoor.H
open Go Go.Vc Go.RowKit
structure Tr where
 x : Int
 y : Int
 z : Int
deriving DecidableEq, Inhabited
abbrev vi (n : Int) : AV := .val (.int .i64 n)
abbrev vb (b : Bool) : AV := .val (.bool b)
abbrev tp (a : Tr) : AV := .val (.agg #[.int .i64 a.x, .int .i64 a.y, .int .i64 a.z])
def gt (l : List Tr) (i : Nat) : Tr := l.getD i default
def tf (l : List Tr) : Nat → Nat → AV := fun i j => match j with | 0 => .val (.int .i64 (gt l i).x) | 1 => .val (.int .i64 (gt l i).y) | _+2 => .val (.int .i64 (gt l i).z)
def ts (l : List Tr) : AV := .sl l.length 3 (fun i j => match j with | 0 => .val (.int .i64 (gt l i).x) | 1 => .val (.int .i64 (gt l i).y) | _+2 => .val (.int .i64 (gt l i).z))
abbrev bt (p : Tr) : AV := .ptr 3 (fun i => .val ([Go.Value.int .i64 p.x, .int .i64 p.y, .int .i64 p.z].getD i Go.undef))
theorem X1T {l : List Tr} {i : Nat} (h : i < l.length) : gt l i = l[i] := by simp [gt, h]
theorem k0B {l : List Tr} {i : Nat} (h : i < l.length) : gt l i ∈ l := by rw [X1T h]; exact List.getElem_mem h
theorem Z0b {l : List Tr} {k : Nat} (h : k < l.length) : l.take (k + 1) = l.take k ++ [gt l k] := by
 rw [List.take_succ_eq_append_getElem h, X1T h]
def x1j (a b : Tr) : Tr := ⟨a.x - b.x, a.y - b.y, a.z - b.z⟩
def w0z (a b : Tr) : Int := a.x * b.x + a.y * b.y + a.z * b.z
def tcr (a b : Tr) : Tr := ⟨a.y * b.z - a.z * b.y, a.z * b.x - a.x * b.z, a.x * b.y - a.y * b.x⟩
def inB (n : Int) : Bool := decide (-100000 ≤ n) && decide (n ≤ 100000)
def j0Z (p : Tr) : Bool := inB p.x && inB p.y && inB p.z
def w0A (l : List Tr) : Int := if 64 < l.length then 5 else if l.all j0Z then 0 else 2
abbrev Bn (B n : Int) : Prop := -B ≤ n ∧ n ≤ B
structure BT (B : Int) (a : Tr) : Prop where
 x : Bn B a.x
 y : Bn B a.y
 z : Bn B a.z
theorem q0z {A B m n : Int} (h1 : Bn A m) (h2 : Bn B n) : Bn (A * B) (m * n) := by
 have hA : 0 ≤ A := by omega
 have hB : 0 ≤ B := by omega
 have h3 : (m * n).natAbs ≤ (A * B).natAbs := by
  rw [Int.natAbs_mul, Int.natAbs_mul]
  exact Nat.mul_le_mul zO zO
 have h4 : 0 ≤ A * B := Int.mul_nonneg hA hB
 omega
theorem Q1l {A B n : Int} (h : Bn A n) (hab : A ≤ B) : Bn B n := by omega
theorem BT.le {A B : Int} {a : Tr} (h : BT A a) (hab : A ≤ B) : BT B a := ⟨Q1l h.x hab, Q1l h.y hab, Q1l h.z hab⟩
theorem BT.sub {A B : Int} {a b : Tr} (h1 : BT A a) (h2 : BT B b) : BT (A + B) (x1j a b) := by
 have := h1.x; have := h1.y; have := h1.z; have := h2.x; have := h2.y; have := h2.z
 refine ⟨?_, ?_, ?_⟩ <;> simp only [x1j, Bn] at * <;> omega
theorem BT.cr {A B : Int} {a b : Tr} (h1 : BT A a) (h2 : BT B b) : BT (2 * (A * B)) (tcr a b) := by
 have a1 := q0z h1.y h2.z; have a2 := q0z h1.z h2.y; have a3 := q0z h1.z h2.x
 have a4 := q0z h1.x h2.z; have a5 := q0z h1.x h2.y; have a6 := q0z h1.y h2.x
 refine ⟨?_, ?_, ?_⟩ <;> simp only [tcr, Bn] at * <;> omega
theorem q1e {A B : Int} {a b : Tr} (h1 : BT A a) (h2 : BT B b) : Bn (3 * (A * B)) (w0z a b) := by
 have a1 := q0z h1.x h2.x; have a2 := q0z h1.y h2.y; have a3 := q0z h1.z h2.z
 simp only [w0z, Bn] at *; omega
def RT (l : List Tr) : Prop := ∀ i, BT 100000 (gt l i)
theorem RT.of {l : List Tr} (h : w0A l = 0) : RT l ∧ l.length ≤ 64 := by
 unfold w0A at h
 split at h
 ·omega
 ·split at h
  ·rename_i h1 h2
   refine ⟨fun i => ?_, by omega⟩
   by_cases hi : i < l.length
   ·have := List.all_eq_true.1 h2 _ (k0B hi)
    simp only [j0Z, inB, Bool.and_eq_true, decide_eq_true_eq] at this
    exact ⟨by omega, by omega, by omega⟩
   ·have e : gt l i = ⟨0, 0, 0⟩ := by unfold gt; rw [List.getD, List.getElem?_eq_none (by omega)]; rfl
    rw [e]
    exact ⟨by decide, by decide, by decide⟩
  ·omega
end Go.Proofs.YtfggdokihnopeaaGreatDoor.H
namespace Go.Proofs.YtfggdokihnopeaaGreatDoor.H
open Go.Vc
abbrev pp (p : Pt) : AV := pv p.x p.y
theorem Q1Y {l : List Pt} {i : Nat} (h : i < l.length) : gp l i = l[i] := by simp [gp, h]
theorem X1Q {l : List Pt} {i : Nat} (h : i < l.length) : gp l i ∈ l := by rw [Q1Y h]; exact List.getElem_mem h
theorem y0P {l : List Nat} {i : Nat} (h : i < l.length) : gi l i = l[i] := by simp [gi, h]
def sub (a b : Pt) : Pt := ⟨a.x - b.x, a.y - b.y⟩
def trn (a b : Pt) : Int := a.x * b.y - a.y * b.x
def crs (a b c : Pt) : Int := trn (sub b a) (sub c a)
def z0a (p : Pt) : Bool := inB p.x && inB p.y
def chk (l : List Pt) : Int := if 64 < l.length then 5 else if l.all z0a then 0 else 2
abbrev BdP (p : Pt) : Prop := (-1500000000 ≤ p.x ∧ p.x ≤ 1500000000) ∧ (-1500000000 ≤ p.y ∧ p.y ≤ 1500000000)
abbrev Sm (x : Int) : Prop := -300000 ≤ x ∧ x ≤ 300000
abbrev SmP (p : Pt) : Prop := Sm p.x ∧ Sm p.y
theorem Y1C (a b : Pt) : ([a.x, a.y] == [b.x, b.y]) = decide (a = b) := by
 cases a; cases b; rw [Bool.eq_iff_iff]; simp
theorem V1Z {l : List Pt} {k : Nat} (h : k < l.length) : l.take (k + 1) = l.take k ++ [gp l k] := by
 rw [List.take_succ_eq_append_getElem h, Q1Y h]
theorem W1R {l : List Pt} {q : Pt → Prop} (h : ∀ p ∈ l, q p) (hd : q default) : ∀ i, q (gp l i) := by
 intro i
 by_cases hi : i < l.length
 ·rw [Q1Y hi]; exact h _ (List.getElem_mem hi)
 ·simp only [gp, List.getD, List.getElem?_eq_none (Nat.le_of_not_lt hi)]; exact hd
theorem Z1Z : SmP default := by constructor <;> decide
theorem Y1B {a b : Int} (h : -1500000000 ≤ a ∧ a ≤ 1500000000) (k : -1500000000 ≤ b ∧ b ≤ 1500000000) : -2250000000000000000 ≤ a * b ∧ a * b ≤ 2250000000000000000 := by
 have h1 : (a * b).natAbs ≤ 1500000000 * 1500000000 := by
  rw [Int.natAbs_mul]
  exact Nat.mul_le_mul zO zO
 omega
theorem K0p {a b : Pt} (h1 : SmP a) (h2 : SmP b) : BdP (sub a b) := by
 simp only [BdP, sub]; omega
theorem v0z {k : Nat} {p : Nat → Prop} (h : ∀ i, i < k → p i) (hk : p k) : ∀ i, i < k + 1 → p i := fun i hi => by
 rcases Nat.lt_or_ge i k with h1 | h1
 ·exact h i h1
 ·have : i = k := by omega
  subst this; exact hk
end Go.Proofs.YtfggdokihnopeaaGreatDoor.H
namespace Go.Proofs.YtfggdokihnopeaaGreatDoor.H
open Go Go.Vc Go.RowKit
set_option maxHeartbeats 4000000
theorem W1D (n : Int) : CtrA Tryz.prog 82 [vi n] (vb (inB n)) := by
 refine j0r _ Tryz.func82 rfl rfl Tryz.ntmps82 rfl fun w Z => ?_
 refine zU ?_
 refine wt ?_
 (first | refine j0g rfl rfl ?_ ?_ | refine j0f rfl rfl ?_ ?_) <;> intro hb <;> (try simp only [zA, zB, zG, zC, zD, zN] at hb) <;> (try exact zQ)
 ·refine wt ?_
  exact j0c rfl (.tmp rfl) (congrArg vb (by unfold inB; rw [decide_eq_true (by assumption : -100000 ≤ n), Bool.true_and]))
 ·refine wt ?_
  exact j0c rfl (.tmp rfl) (congrArg vb (by unfold inB; rw [decide_eq_false (by assumption : ¬ -100000 ≤ n), Bool.false_and]))
theorem x1r (n : Int) : CtrA Tryz.prog 203 [vi n] (vb (inB n)) := by
 refine j0r _ Tryz.func203 rfl rfl Tryz.ntmps203 rfl fun w Z => ?_
 refine zU ?_
 refine wt ?_
 (first | refine j0g rfl rfl ?_ ?_ | refine j0f rfl rfl ?_ ?_) <;> intro hb <;> (try simp only [zA, zB, zG, zC, zD, zN] at hb) <;> (try exact zQ)
 ·refine wt ?_
  exact j0c rfl (.tmp rfl) (congrArg vb (by unfold inB; rw [decide_eq_true (by assumption : -100000 ≤ n), Bool.true_and]))
 ·refine wt ?_
  exact j0c rfl (.tmp rfl) (congrArg vb (by unfold inB; rw [decide_eq_false (by assumption : ¬ -100000 ≤ n), Bool.false_and]))
theorem z0c (p : Tr) : CtrA Tryz.prog 39 [tp p] (vb (j0Z p)) := by
 have h1 := W1D p.x
 have h2 := W1D p.y
 have h3 := W1D p.z
 refine j0r _ Tryz.func39 rfl rfl Tryz.ntmps39 rfl fun w Z => ?_
 refine zU ?_
 (refine wt ?_; repeat' (((first | refine j0g rfl rfl ?_ ?_ | refine j0f rfl rfl ?_ ?_) <;> intro hb <;> (try simp only [zA, zB, zG, zC, zD, zN] at hb) <;> (try exact zQ)) <;> refine wt ?_))
 all_goals (refine j0c rfl (.tmp rfl) (congrArg vb ?_); simp [z0a, j0Z, *])
theorem X1H (p : Pt) : CtrA Tryz.prog 255 [pp p] (vb (z0a p)) := by
 have h1 := x1r p.x
 have h2 := x1r p.y
 refine j0r _ Tryz.func255 rfl rfl Tryz.ntmps255 rfl fun w Z => ?_
 refine zU ?_
 (refine wt ?_; repeat' (((first | refine j0g rfl rfl ?_ ?_ | refine j0f rfl rfl ?_ ?_) <;> intro hb <;> (try simp only [zA, zB, zG, zC, zD, zN] at hb) <;> (try exact zQ)) <;> refine wt ?_))
 all_goals (refine j0c rfl (.tmp rfl) (congrArg vb ?_); simp [z0a, j0Z, *])
theorem K1v (a b : Pt) (h1 : SmP a) (h2 : SmP b) : CtrA Tryz.prog 192 [pp a, pp b] (pp (sub b a)) := by
 simp only [SmP, Sm] at h1 h2
 refine j0r _ Tryz.func192 rfl rfl Tryz.ntmps192 rfl fun w Z => ?_
 refine zU ?_
 refine wt ?_
 exact j0c rfl (.agg (us := [_, _]) rfl rfl rfl rfl) rfl
end Go.Proofs.YtfggdokihnopeaaGreatDoor.H
section
end
namespace Go.Proofs.YtfggdokihnopeaaGreatDoor.H
open Go Go.Vc Go.Na
def cz (p : Tr) (k : Nat) : Int := match k with | 0 => p.x | 1 => p.y | _ => p.z
def ou (k : Nat) : Nat := match k with | 0 => 1 | _ => 0
def ov (k : Nat) : Nat := match k with | 0 => 2 | 1 => 2 | _ => 1
def plc (k : Nat) (p : Tr) : Pt := ⟨cz p (ou k), cz p (ov k)⟩
structure Pl where
 A : Rat
 B : Rat
 C : Rat
 s : List Nat
deriving Inhabited, DecidableEq
def hgt (k : Nat) (A B C : Rat) (p : Tr) : Rat := (cz p k : Rat) - (A + (B * ((plc k p).x : Rat) + C * ((plc k p).y : Rat)))
def V1e (l : List Tr) (k : Nat) (A B C : Rat) (n : Nat) : Bool := (List.range n).any fun i => decide (hgt k A B C (gt l i) < 0)
def onL (l : List Tr) (k : Nat) (A B C : Rat) (n : Nat) : List Nat := (List.range n).filter fun i => decide (hgt k A B C (gt l i) = 0)
def mkP (l : List Tr) (k : Nat) (A B C : Rat) : Option Pl := if V1e l k A B C l.length = true then none else some ⟨A, B, C, onL l k A B C l.length⟩
def nvP (a b c : Tr) : Tr := tcr (x1j b a) (x1j c a)
def upP (k : Nat) (n : Tr) : Tr := if cz n k < 0 then ⟨-n.x, -n.y, -n.z⟩ else n
def nP (l : List Tr) (k a b c : Nat) : Tr := upP k (nvP (gt l a) (gt l b) (gt l c))
def mP (l : List Tr) (k a b c : Nat) : Int := w0z (nP l k a b c) (gt l a)
def aP (l : List Tr) (k a b c : Nat) : Rat := Rat.divInt (mP l k a b c) (cz (nP l k a b c) k)
def bP (l : List Tr) (k a b c : Nat) : Rat := Rat.divInt (-cz (nP l k a b c) (ou k)) (cz (nP l k a b c) k)
def cP (l : List Tr) (k a b c : Nat) : Rat := Rat.divInt (-cz (nP l k a b c) (ov k)) (cz (nP l k a b c) k)
def thr (l : List Tr) (k a b c : Nat) : Option Pl :=
 if cz (nvP (gt l a) (gt l b) (gt l c)) k = 0 then none else mkP l k (aP l k a b c) (bP l k a b c) (cP l k a b c)
def Z1q (i j : Nat) : List (Nat × Nat × Nat) := (List.range j).map fun k => (k, j, i)
def z1s (i : Nat) (n : Nat) : List (Nat × Nat × Nat) := (List.range n).flatMap fun j => Z1q i j
def W1N (n : Nat) : List (Nat × Nat × Nat) := (List.range n).flatMap fun i => z1s i i
def z1m (l : List Tr) (k : Nat) (t : Nat × Nat × Nat) : Option Pl := thr l k t.1 t.2.1 t.2.2
def z0Y (l : List Tr) (k : Nat) : List Pl := (W1N l.length).filterMap (z1m l k)
theorem W1b (n p : Tr) {k : Nat} (hk : k < 3) : w0z n p = cz n k * cz p k + cz n (ou k) * cz p (ou k) + cz n (ov k) * cz p (ov k) := by
 rcases (by omega : k = 0 ∨ k = 1 ∨ k = 2) with rfl | rfl | rfl <;> simp only [w0z, cz, ou, ov] <;> omega
theorem x0M {k : Nat} {n : Tr} (h : cz n k ≠ 0) : 0 < cz (upP k n) k := by
 unfold upP
 split
 ·rename_i h1
  match k with
  |0 => simp only [cz] at *; omega
  |1 => simp only [cz] at *; omega
  |k + 2 => simp only [cz] at *; omega
 ·omega
theorem v0R (a b : Int) : Rat.divInt a b = (a : Rat) / (b : Rat) := by
 rw [Rat.divInt_eq_div]
theorem X1X {l : List Tr} {k a b c : Nat} (hk : k < 3) (hn : cz (nvP (gt l a) (gt l b) (gt l c)) k ≠ 0) (p : Tr) :
  hgt k (aP l k a b c) (bP l k a b c) (cP l k a b c) p = ((w0z (nP l k a b c) p - mP l k a b c : Int) : Rat) / (cz (nP l k a b c) k : Rat) := by
 have hpos : 0 < cz (nP l k a b c) k := x0M hn
 have hne : (cz (nP l k a b c) k : Rat) ≠ 0 := by
  have : cz (nP l k a b c) k ≠ 0 := by omega
  simpa using this
 unfold hgt aP bP cP
 rw [v0R, v0R, v0R, W1b _ _ hk]
 simp only [plc, Rat.intCast_neg, Rat.intCast_sub, Rat.intCast_add, Rat.intCast_mul, Rat.div_def]
 have := Rat.mul_inv_cancel _ hne
 generalize (cz (nP l k a b c) k : Rat) = d at *
 generalize d⁻¹ = e at *
 grind
theorem y0s {l : List Tr} {k a b c : Nat} (hk : k < 3) (hn : cz (nvP (gt l a) (gt l b) (gt l c)) k ≠ 0) (p : Tr) :
  (hgt k (aP l k a b c) (bP l k a b c) (cP l k a b c) p < 0 ↔ w0z (nP l k a b c) p < mP l k a b c) ∧ (hgt k (aP l k a b c) (bP l k a b c) (cP l k a b c) p = 0 ↔ w0z (nP l k a b c) p = mP l k a b c) := by
 have hpos : 0 < cz (nP l k a b c) k := x0M hn
 have hq : (0 : Rat) < (cz (nP l k a b c) k : Rat) := by exact_mod_cast hpos
 rw [X1X hk hn]
 generalize (cz (nP l k a b c) k : Rat) = d at *
 constructor
 ·rw [Rat.div_lt_iff hq, Rat.zero_mul]
  constructor
  ·intro h
   have : (w0z (nP l k a b c) p - mP l k a b c : Int) < 0 := by exact_mod_cast h
   omega
  ·intro h
   have : (w0z (nP l k a b c) p - mP l k a b c : Int) < 0 := by omega
   exact_mod_cast this
 ·constructor
  ·intro h
   have h1 : ((w0z (nP l k a b c) p - mP l k a b c : Int) : Rat) = 0 := by
    have := congrArg (· * d) h
    simp only [Rat.div_def, Rat.zero_mul] at this
    rw [Rat.mul_assoc, Rat.mul_comm d⁻¹ d, Rat.mul_inv_cancel d (by grind), Rat.mul_one] at this
    exact this
   have h2 : (w0z (nP l k a b c) p - mP l k a b c : Int) = 0 := by exact_mod_cast h1
   omega
  ·intro h
   rw [h, Int.sub_self]
   simp [Rat.div_def]
def ltP (P Q : Pl) : Prop := P.A < Q.A ∨ P.A = Q.A ∧ (P.B < Q.B ∨ P.B = Q.B ∧ P.C < Q.C)
instance (P Q : Pl) : Decidable (ltP P Q) := by unfold ltP; infer_instance
def eqP (P Q : Pl) : Prop := P.A = Q.A ∧ P.B = Q.B ∧ P.C = Q.C
instance (P Q : Pl) : Decidable (eqP P Q) := by unfold eqP; infer_instance
theorem Z0h (P : Pl) : ¬ ltP P P := by unfold ltP; grind
theorem J1n {P Q R : Pl} (h : ltP P Q) (k : ltP Q R) : ltP P R := by unfold ltP at *; grind
theorem V1h (P Q : Pl) : ltP P Q ∨ eqP P Q ∨ ltP Q P := by unfold ltP eqP; grind
def Z0r (p : Pl) : List Pl → List Pl
 |[] => [p]
 |q :: L => if ltP q p then q :: Z0r p L else if eqP q p then q :: L else p :: q :: L
def Asc (L : List Pl) : Prop := L.Pairwise ltP
theorem j1S : ∀ {L M : List Pl}, Asc L → Asc M → (∀ p, p ∈ L ↔ p ∈ M) → L = M
 |[], [], _, _, _ => rfl
 |[], q :: M, _, _, h => by have := (h q).2 (by simp); cases this
 |p :: L, [], _, _, h => by have := (h p).1 (by simp); cases this
 |p :: L, q :: M, hL, hM, h => by
  obtain ⟨hL1, hL2⟩ := List.pairwise_cons.1 hL
  obtain ⟨hM1, hM2⟩ := List.pairwise_cons.1 hM
  have hpq : p = q := by
   rcases List.mem_cons.1 ((h p).1 (by simp)) with e | e
   ·exact e
   ·rcases List.mem_cons.1 ((h q).2 (by simp)) with e' | e'
    ·exact e'.symm
    ·exact absurd (J1n (hM1 p e) (hL1 q e')) (Z0h _)
  subst hpq
  rw [j1S hL2 hM2 (fun r => ?_)]
  constructor
  ·intro hr
   rcases List.mem_cons.1 ((h r).1 (by simp [hr])) with e | e
   ·subst e; exact absurd (hL1 r hr) (Z0h _)
   ·exact e
  ·intro hr
   rcases List.mem_cons.1 ((h r).2 (by simp [hr])) with e | e
   ·subst e; exact absurd (hM1 r hr) (Z0h _)
   ·exact e
theorem v1R {p : Pl} : ∀ {L : List Pl}, Asc L → Asc (Z0r p L)
 |[], _ => by simp [Z0r, Asc]
 |q :: L, h => by
  obtain ⟨h1, h2⟩ := List.pairwise_cons.1 h
  unfold Z0r
  split
  ·rename_i hq
   refine List.pairwise_cons.2 ⟨fun r hr => ?_, v1R h2⟩
   have : ∀ L : List Pl, r ∈ Z0r p L → r = p ∨ r ∈ L := by
    intro L
    induction L with
    |nil => intro h; simp [Z0r] at h; exact .inl h
    |cons q L ih =>
     intro h
     unfold Z0r at h
     split at h
     ·rcases List.mem_cons.1 h with e | e
      ·exact .inr (by simp [e])
      ·rcases ih e with e | e
       ·exact .inl e
       ·exact .inr (by simp [e])
     ·split at h
      ·exact .inr h
      ·rcases List.mem_cons.1 h with e | e
       ·exact .inl e
       ·exact .inr e
   rcases this L hr with e | e
   ·subst e; exact hq
   ·exact h1 r e
  ·split
   ·exact h
   ·rename_i hq he
    have hpq : ltP p q := by
     rcases V1h p q with e | e | e
     ·exact e
     ·exact absurd ⟨e.1.symm, e.2.1.symm, e.2.2.symm⟩ he
     ·exact absurd e hq
    refine List.pairwise_cons.2 ⟨fun r hr => ?_, h⟩
    rcases List.mem_cons.1 hr with e | e
    ·subst e; exact hpq
    ·exact J1n hpq (h1 r e)
theorem V1x {L : List Pl} {p r : Pl} (hu : ∀ q, q = p ∨ q ∈ L → eqP q p → q = p) : r ∈ Z0r p L ↔ r = p ∨ r ∈ L := by
 induction L with
 |nil => simp [Z0r]
 |cons q L ih =>
  have ih := ih (fun x hx => hu x (hx.elim .inl (fun h => .inr (by simp [h]))))
  unfold Z0r
  split
  ·rw [List.mem_cons, ih, List.mem_cons]; grind
  ·split
   ·rename_i he
    have := hu q (.inr (by simp)) he
    subst this
    simp
   ·simp
def Y1M (L : List Pl) : List Pl := L.foldl (fun a p => Z0r p a) []
theorem K0i : ∀ {L a : List Pl}, (∀ p ∈ L ++ a, ∀ q ∈ L ++ a, eqP p q → p = q) → Asc a → Asc (L.foldl (fun a p => Z0r p a) a) ∧ ∀ r, r ∈ L.foldl (fun a p => Z0r p a) a ↔ r ∈ L ∨ r ∈ a
 |[], a, _, ha => ⟨ha, fun r => by simp⟩
 |p :: L, a, hu, ha => by
  have hm : ∀ r, r ∈ Z0r p a ↔ r = p ∨ r ∈ a := fun r => V1x (fun q hq he => hu q (by rcases hq with e | e <;> simp [e]) p (by simp) he)
  obtain ⟨h1, h2⟩ := K0i (L := L) (a := Z0r p a) (fun x hx y hy e => hu x (by
   rcases List.mem_append.1 hx with e | e
   ·simp [e]
   ·rcases (hm x).1 e with e | e <;> simp [e]) y (by
   rcases List.mem_append.1 hy with e | e
   ·simp [e]
   ·rcases (hm y).1 e with e | e <;> simp [e]) e) (v1R ha)
  refine ⟨h1, fun r => ?_⟩
  rw [List.foldl_cons, h2, hm, List.mem_cons]
  grind
def j0W (l : List Tr) (k : Nat) : List Pl := Y1M (z0Y l k)
theorem z1n {l : List Tr} {k : Nat} {P : Pl} (h : P ∈ z0Y l k) : mkP l k P.A P.B P.C = some P := by
 obtain ⟨t, _, ht⟩ := List.mem_filterMap.1 h
 unfold z1m thr at ht
 split at ht
 ·cases ht
 ·have h2 := ht
  unfold mkP at ht
  split at ht
  ·cases ht
  ·cases ht; exact h2
theorem Q0I {l : List Tr} {k : Nat} {P Q : Pl} (hP : P ∈ z0Y l k) (hQ : Q ∈ z0Y l k) (h : eqP P Q) : P = Q := by
 have h1 := z1n hP
 have h2 := z1n hQ
 rw [h.1, h.2.1, h.2.2, h2] at h1
 exact (Option.some.inj h1).symm
theorem J0F (l : List Tr) (k : Nat) : Asc (j0W l k) ∧ ∀ r, r ∈ j0W l k ↔ r ∈ z0Y l k := by
 have := K0i (L := z0Y l k) (a := []) (by simp only [List.append_nil]; exact fun p hp q hq e => Q0I hp hq e) List.Pairwise.nil
 exact ⟨this.1, fun r => by rw [j0W, Y1M, this.2]; simp⟩
end Go.Proofs.YtfggdokihnopeaaGreatDoor.H
namespace Go.Proofs.YtfggdokihnopeaaGreatDoor.H
open Go Go.Vc Go.RowKit
set_option maxHeartbeats 4000000
theorem X1Y (p : Tr) : CtrA Tryz.prog 135 [tp p] (vb (j0Z p)) := by
 have h1 := x1r p.x
 have h2 := x1r p.y
 have h3 := x1r p.z
 refine j0r _ Tryz.func135 rfl rfl Tryz.ntmps135 rfl fun w Z => ?_
 refine zU ?_
 (refine wt ?_; repeat' (((first | refine j0g rfl rfl ?_ ?_ | refine j0f rfl rfl ?_ ?_) <;> intro hb <;> (try simp only [zA, zB, zG, zC, zD, zN] at hb) <;> (try exact zQ)) <;> refine wt ?_))
 all_goals (refine j0c rfl (.tmp rfl) (congrArg vb ?_); simp [j0Z, *])
theorem Y1r (l : List Pt) (hn : l.length ≤ 1000) : CtrA Tryz.prog 303 [.val (.func (.func 255) #[] #[]), pts l] (vi (if l.all z0a then 0 else 2)) := by
 refine j0r _ Tryz.func303 rfl rfl Tryz.ntmps303 rfl fun w Z => ?_
 refine zU ?_
 refine wt ?_
 refine j0h (γ := Nat) (fun k => [(0, .av (.val (.func (.func 255) #[] #[]))), (7, .av (pts l)), (8, .av (vi l.length)), (9, .av (vi k))]) (fun _ => []) (fun k => k ≤ l.length ∧ (l.take k).all z0a = true) (fun k => l.length - k) 0 ⟨Nat.zero_le _, by simp⟩ (ent zS trivial) ?_
 rintro k ⟨hk, hall⟩
 refine wt ?_
 (refine j0a rfl ?_ ?_ <;> intro hb <;> (try simp only [zA, zB, zG, zC, zD, zN] at hb) <;> (try exact zQ))
 ·have hkl : k < l.length := by omega
  have hf := X1H (gp l k)
  refine wt ?_
  (refine j0a rfl ?_ ?_ <;> intro hb <;> (try simp only [zA, zB, zG, zC, zD, zN] at hb) <;> (try exact zQ))
  ·refine wt ?_
   refine j0c rfl (.tmp rfl) (congrArg vi ?_)
   have : ¬ l.all z0a = true := fun h => by
    have := List.all_eq_true.1 h (gp l k) (X1Q hkl)
    simp [this] at hb
   simp [this]
  ·refine wt ?_
   exact j0b (k + 1) ⟨by omega, by rw [V1Z hkl]; simp only [List.all_append, hall, List.all_cons, List.all_nil, Bool.and_true, Bool.true_and]; exact hb⟩ (by omega) (ent zS trivial)
 ·refine wt ?_
  have : k = l.length := by omega
  subst this
  rw [List.take_length] at hall
  exact j0c rfl (.tmp rfl) (congrArg vi (by simp [hall]))
theorem j1k (l : List Pt) : CtrA Tryz.prog 254 [pts l, .val (.func (.func 255) #[] #[])] (vi (chk l)) := by
 refine j0r _ Tryz.func254 rfl rfl Tryz.ntmps254 rfl fun w Z => ?_
 refine zU ?_
 refine wt ?_
 (refine j0a rfl ?_ ?_ <;> intro hb <;> (try simp only [zA, zB, zG, zC, zD, zN] at hb) <;> (try exact zQ))
 ·refine wt ?_
  exact j0c rfl (.tmp rfl) (by simp [chk]; omega)
 ·have hp := Y1r l zO
  refine wt ?_
  exact j0c rfl (.tmp rfl) (congrArg vi (by simp [chk, show ¬ 64 < l.length by omega]))
theorem y1H (l : List Pt) : CtrA Tryz.prog 189 [pts l] (vi (chk l)) := by
 have h := j1k l
 refine j0r _ Tryz.func189 rfl rfl Tryz.ntmps189 rfl fun w Z => ?_
 refine zU ?_
 refine wt ?_
 exact zV
theorem J1v (l : List Tr) (hn : l.length ≤ 1000) : CtrA Tryz.prog 202 [.val (.func (.func 135) #[] #[]), ts l] (vi (if l.all j0Z then 0 else 2)) := by
 refine j0r _ Tryz.func202 rfl rfl Tryz.ntmps202 rfl fun w Z => ?_
 refine zU ?_
 refine wt ?_
 refine j0h (γ := Nat) (fun k => [(0, .av (.val (.func (.func 135) #[] #[]))), (7, .av (ts l)), (8, .av (vi l.length)), (9, .av (vi k))]) (fun _ => []) (fun k => k ≤ l.length ∧ (l.take k).all j0Z = true) (fun k => l.length - k) 0 ⟨Nat.zero_le _, by simp⟩ (ent zS trivial) ?_
 rintro k ⟨hk, hall⟩
 refine wt ?_
 (refine j0a rfl ?_ ?_ <;> intro hb <;> (try simp only [zA, zB, zG, zC, zD, zN] at hb) <;> (try exact zQ))
 ·have hkl : k < l.length := by omega
  have hf := X1Y (gt l k)
  refine wt ?_
  (refine j0a rfl ?_ ?_ <;> intro hb <;> (try simp only [zA, zB, zG, zC, zD, zN] at hb) <;> (try exact zQ))
  ·refine wt ?_
   refine j0c rfl (.tmp rfl) (congrArg vi ?_)
   have : ¬ l.all j0Z = true := fun h => by
    have := List.all_eq_true.1 h (gt l k) (k0B hkl)
    simp [this] at hb
   simp [this]
  ·refine wt ?_
   exact j0b (k + 1) ⟨by omega, by rw [Z0b hkl]; simp only [List.all_append, hall, List.all_cons, List.all_nil, Bool.and_true, Bool.true_and]; exact hb⟩ (by omega) (ent zS trivial)
 ·refine wt ?_
  have : k = l.length := by omega
  subst this
  rw [List.take_length] at hall
  exact j0c rfl (.tmp rfl) (congrArg vi (by simp [hall]))
theorem j1p (l : List Tr) : CtrA Tryz.prog 134 [ts l, .val (.func (.func 135) #[] #[])] (vi (w0A l)) := by
 refine j0r _ Tryz.func134 rfl rfl Tryz.ntmps134 rfl fun w Z => ?_
 refine zU ?_
 refine wt ?_
 (refine j0a rfl ?_ ?_ <;> intro hb <;> (try simp only [zA, zB, zG, zC, zD, zN] at hb) <;> (try exact zQ))
 ·refine wt ?_
  exact j0c rfl (.tmp rfl) (by simp [w0A]; omega)
 ·have hp := J1v l zO
  refine wt ?_
  exact j0c rfl (.tmp rfl) (congrArg vi (by simp [w0A, show ¬ 64 < l.length by omega]))
theorem x0d (l : List Tr) : CtrA Tryz.prog 73 [ts l] (vi (w0A l)) := by
 have h := j1p l
 refine j0r _ Tryz.func73 rfl rfl Tryz.ntmps73 rfl fun w Z => ?_
 refine zU ?_
 refine wt ?_
 exact zV
theorem Q0z (l : List Tr) (hn : l.length ≤ 1000) : CtrA Tryz.prog 83 [ts l] (vi (w0A l)) := by
 have hC : w0A l = if 64 < l.length then 5 else if l.all j0Z then 0 else 2 := rfl
 refine j0r _ Tryz.func83 rfl rfl Tryz.ntmps83 rfl fun w Z => ?_
 refine zU ?_
 refine wt ?_
 (refine j0a rfl ?_ ?_ <;> intro hb <;> (try simp only [zA, zB, zG, zC, zD, zN] at hb) <;> (try exact zQ))
 ·refine wt ?_
  exact j0c rfl (.tmp rfl) (by rw [hC, if_pos (by omega)])
 rw [if_neg (by omega)] at hC
 refine wt ?_
 refine j0h (γ := Nat) (fun k => [(0, .av (ts l)), (3, .av (vi k))]) (fun _ => []) (fun k => k ≤ l.length ∧ (l.take k).all j0Z = true) (fun k => l.length - k) 0 ⟨Nat.zero_le _, rfl⟩ (ent zS trivial) ?_
 rintro k ⟨hk, hall⟩
 refine wt ?_
 (refine j0a rfl ?_ ?_ <;> intro hb <;> (try simp only [zA, zB, zG, zC, zD, zN] at hb) <;> (try exact zQ))
 ·have hkl : k < l.length := by omega
  have hr := z0c (gt l k)
  cases hg : j0Z (gt l k) with
  |true =>
   rw [hg] at hr
   refine wt ?_
   exact j0b (k + 1) ⟨by omega, by rw [Z0b hkl]; simp only [List.all_append, hall, List.all_cons, List.all_nil, Bool.and_true, Bool.true_and]; exact hg⟩ (by omega) (ent zS trivial)
  |false =>
   rw [hg] at hr
   rw [if_neg (fun h => by have := List.all_eq_true.1 h _ (k0B hkl); rw [hg] at this; cases this)] at hC
   refine wt ?_
   exact j0c rfl (.tmp rfl) (by rw [hC])
 ·have hkl : k = l.length := by omega
  subst hkl
  rw [List.take_length] at hall
  rw [if_pos hall] at hC
  refine wt ?_
  exact j0c rfl (.tmp rfl) (by rw [hC])
def X1D (l : List Tr) : Bool := decide (l.length ≤ 6) || (decide (64 < l.length) && decide (l.length < 128))
theorem K0b (a b : Pt) (h1 : SmP a) (h2 : SmP b) : CtrA Tryz.prog 215 [pp a, pp b] (pp (sub a b)) := by
 simp only [SmP, Sm] at h1 h2
 refine j0r _ Tryz.func215 rfl rfl Tryz.ntmps215 rfl fun w Z => ?_
 refine zU ?_
 refine wt ?_
 exact j0c rfl (.agg (us := [_, _]) rfl rfl rfl rfl) rfl
theorem J1T {a b : Pt} (h1 : BdP a) (h2 : BdP b) : (-2250000000000000000 ≤ a.x * b.y ∧ a.x * b.y ≤ 2250000000000000000) ∧ (-2250000000000000000 ≤ a.y * b.x ∧ a.y * b.x ≤ 2250000000000000000) := ⟨Y1B h1.1 h2.2, Y1B h1.2 h2.1⟩
theorem V1F (a b : Pt) (h1 : BdP a) (h2 : BdP b) : CtrA Tryz.prog 214 [pp a, pp b] (vi (trn a b)) := by
 obtain ⟨⟨m1, n1⟩, ⟨m2, n2⟩⟩ := J1T h1 h2
 refine j0r _ Tryz.func214 rfl rfl Tryz.ntmps214 rfl fun w Z => ?_
 refine zU ?_
 refine wt ?_
 exact zV
theorem V1D (a b c : Pt) (h1 : SmP a) (h2 : SmP b) (h3 : SmP c) : CtrA Tryz.prog 147 [pp a, pp b, pp c] (vi (crs a b c)) := by
 have q1 := K0b _ _ h2 h1
 have q2 := K0b _ _ h3 h1
 have q3 := V1F _ _ (K0p h2 h1) (K0p h3 h1)
 refine j0r _ Tryz.func147 rfl rfl Tryz.ntmps147 rfl fun w Z => ?_
 refine zU ?_
 refine wt ?_
 exact zV
theorem Z1r (a b : Pt) (h1 : BdP a) (h2 : BdP b) : CtrA Tryz.prog 193 [pp a, pp b] (vi (trn a b)) := by
 obtain ⟨⟨m1, n1⟩, ⟨m2, n2⟩⟩ := J1T h1 h2
 refine j0r _ Tryz.func193 rfl rfl Tryz.ntmps193 rfl fun w Z => ?_
 refine zU ?_
 refine wt ?_
 exact zV
theorem w1a (a b : Tr) (h1 : BT 100000 a) (h2 : BT 100000 b) : CtrA Tryz.prog 304 [tp a, tp b] (tp (x1j b a)) := by
 obtain ⟨⟨_, _⟩, ⟨_, _⟩, ⟨_, _⟩⟩ := h1
 obtain ⟨⟨_, _⟩, ⟨_, _⟩, ⟨_, _⟩⟩ := h2
 refine j0r _ Tryz.func304 rfl rfl Tryz.ntmps304 rfl fun w Z => ?_
 refine zU ?_
 refine wt ?_
 exact j0c rfl (.agg (us := [_, _, _]) rfl rfl rfl rfl) rfl
theorem W1B (a b : Tr) {A B : Int} (h1 : BT A a) (h2 : BT B b) (hab : A * B ≤ 1000000000000000000) : CtrA Tryz.prog 305 [tp a, tp b] (tp (tcr a b)) := by
 obtain ⟨m1, n1⟩ := q0z h1.y h2.z
 obtain ⟨m2, n2⟩ := q0z h1.z h2.y
 obtain ⟨m3, n3⟩ := q0z h1.z h2.x
 obtain ⟨m4, n4⟩ := q0z h1.x h2.z
 obtain ⟨m5, n5⟩ := q0z h1.x h2.y
 obtain ⟨m6, n6⟩ := q0z h1.y h2.x
 refine j0r _ Tryz.func305 rfl rfl Tryz.ntmps305 rfl fun w Z => ?_
 refine zU ?_
 refine wt ?_
 exact j0c rfl (.agg (us := [_, _, _]) rfl rfl rfl rfl) rfl
theorem Y1i (a b c : Tr) (h1 : BT 100000 a) (h2 : BT 100000 b) (h3 : BT 100000 c) : CtrA Tryz.prog 256 [tp a, tp b, tp c] (tp (nvP a b c)) := by
 have e1 := w1a a b h1 h2
 have e2 := w1a a c h1 h3
 have e3 := W1B (x1j b a) (x1j c a) (h2.sub h1) (h3.sub h1) zE
 refine j0r _ Tryz.func256 rfl rfl Tryz.ntmps256 rfl fun w Z => ?_
 refine zU ?_
 refine wt ?_
 exact j0c rfl (.agg (us := [_, _, _]) rfl rfl rfl rfl) rfl
theorem J1R (a b c : Tr) (w : World) : (Instr.buildSlice 23 3 #[(0, .agg #[.int .i64 a.x, .int .i64 a.y, .int .i64 a.z]), (1, .agg #[.int .i64 b.x, .int .i64 b.y, .int .i64 b.z]), (2, .agg #[.int .i64 c.x, .int .i64 c.y, .int .i64 c.z])]).run Tryz.prog w = .ok (.slice (some ⟨w.heap.size, 0, none⟩) 3 3) (w.alloc (.cells #[.int .i64 a.x, .int .i64 a.y, .int .i64 a.z, .int .i64 b.x, .int .i64 b.y, .int .i64 b.z, .int .i64 c.x, .int .i64 c.y, .int .i64 c.z] 43)) := by kernel_rfl
theorem x1i (a b c : Tr) : ∀ (i : Nat), i < 3 → ∀ (j : Nat), j < 3 → ∃ u, ([Value.int .i64 a.x, .int .i64 a.y, .int .i64 a.z, .int .i64 b.x, .int .i64 b.y, .int .i64 b.z, .int .i64 c.x, .int .i64 c.y, .int .i64 c.z])[i * 3 + j]? = some u ∧ (match j with | 0 => AV.val (.int .i64 (gt [a, b, c] i).x) | 1 => .val (.int .i64 (gt [a, b, c] i).y) | _+2 => .val (.int .i64 (gt [a, b, c] i).z)) = AV.val u := by
 intro i hi j hj
 match i, hi, j, hj with
 |0, _, 0, _ => exact ⟨_, rfl, rfl⟩
 |0, _, 1, _ => exact ⟨_, rfl, rfl⟩
 |0, _, 2, _ => exact ⟨_, rfl, rfl⟩
 |1, _, 0, _ => exact ⟨_, rfl, rfl⟩
 |1, _, 1, _ => exact ⟨_, rfl, rfl⟩
 |1, _, 2, _ => exact ⟨_, rfl, rfl⟩
 |2, _, 0, _ => exact ⟨_, rfl, rfl⟩
 |2, _, 1, _ => exact ⟨_, rfl, rfl⟩
 |2, _, 2, _ => exact ⟨_, rfl, rfl⟩
theorem V0S {a : Tr} (h : BT 100000 a) : j0Z a = true := by
 obtain ⟨⟨_, _⟩, ⟨_, _⟩, ⟨_, _⟩⟩ := h
 simp [j0Z, inB]; omega
theorem W0w (a b c : Tr) (h1 : BT 100000 a) (h2 : BT 100000 b) (h3 : BT 100000 c) : CtrA Tryz.prog 196 [tp a, tp b, tp c] (j0B [tp (nvP a b c), vi 0]) := by
 have q := J1v [a, b, c] (by simp)
 rw [if_pos (by simp [V0S h1, V0S h2, V0S h3])] at q
 have q2 := Y1i a b c h1 h2 h3
 refine j0r _ Tryz.func196 rfl rfl Tryz.ntmps196 rfl fun w Z => ?_
 refine zU ?_
 refine wt ?_
 refine j0j (j0E (row := tf [a, b, c]) (is := [0, 1, 2]) (xs := [_, _, _]) (vs := [_, _, _]) (us := [_, _, _, _, _, _, _, _, _]) (J1R a b c) rfl rfl rfl (x1i a b c)) rfl ?_
 refine wt ?_
 exact j0v (rvs := [_, _]) (τs := [_, _]) rfl rfl ⟨.agg (us := [_, _, _]) rfl rfl rfl rfl, .tmp rfl, trivial⟩ rfl
def ixB (p : Nat → Bool) (n : Nat) : Int := match (List.range n).find? p with | some k => k | none => -1
theorem Q0j {p : Nat → Bool} {n k : Nat} (hk : k < n) (hall : ∀ j, j < k → p j = false) (hp : p k = true) : ixB p n = k := by
 have : (List.range n).find? p = some k := by
  rw [List.find?_range_eq_some]
  exact ⟨hp, by simpa using hk, fun j hj => by simp [hall j hj]⟩
 unfold ixB; rw [this]
theorem V0u {p : Nat → Bool} {n : Nat} (hall : ∀ j, j < n → p j = false) : ixB p n = -1 := by
 have : (List.range n).find? p = none := by
  rw [List.find?_eq_none]
  intro x hx
  simp [hall x (List.mem_range.1 hx)]
 unfold ixB; rw [this]
theorem k0s {p : Nat → Bool} {n : Nat} (h : ∀ k, k < n → p k = false) (hn : p n = false) : ∀ k, k < n + 1 → p k = false := fun k hk => by
 by_cases e : k = n
 ·subst e; exact hn
 ·exact h k zO
abbrev lp (l : List Pt) : AV := .ptr 1 (fun _ => pts l)
abbrev ccl (l : List Pt) : AV := .clo 191 1 (fun i => [lp l].getD i .any)
theorem k1x (l : List Pt) (p : Pt) (h : 0 < l.length) : CtrA Tryz.prog 191 [pp p, lp l] (vb (decide (p ≠ gp l 0))) := by
 refine j0r _ Tryz.func191 rfl rfl Tryz.ntmps191 rfl fun w Z => ?_
 refine zU ?_
 refine wt ?_
 exact j0c rfl (.tmp rfl) (congrArg vb (by rw [Y1C]; simp))
theorem k1w (l : List Pt) (hn : l.length ≤ 1000) : CtrA Tryz.prog 190 [pts l, ccl l] (vi (ixB (fun k => decide (gp l k ≠ gp l 0)) l.length)) := by
 refine j0r _ Tryz.func190 rfl rfl Tryz.ntmps190 rfl fun w Z => ?_
 refine zU ?_
 refine wt ?_
 refine j0h (γ := Nat) (fun k => [(0, .av (pts l)), (1, .av (ccl l)), (6, .av (pts l)), (7, .av (vi l.length)), (8, .av (vi k))]) (fun _ => []) (fun k => k ≤ l.length ∧ ∀ j, j < k → decide (gp l j ≠ gp l 0) = false) (fun k => l.length - k) 0 ⟨Nat.zero_le _, by omega⟩ (ent zS trivial) ?_
 rintro k ⟨hk, hall⟩
 refine wt ?_
 (refine j0a rfl ?_ ?_ <;> intro hb <;> (try simp only [zA, zB, zG, zC, zD, zN] at hb) <;> (try exact zQ))
 ·have hkl : k < l.length := by omega
  have hgk := k1x l (gp l k) zO
  refine wt ?_
  refine j0a rfl (fun hb => ?_) (fun hb => ?_)
  ·have e1 := Q0j (p := fun k => decide (gp l k ≠ gp l 0)) hkl hall hb
   refine wt ?_
   exact j0c rfl (.tmp rfl) (by rw [e1])
  ·refine wt ?_
   exact j0b (k + 1) ⟨by omega, k0s (p := fun k => decide (gp l k ≠ gp l 0)) hall hb⟩ zO (ent zS trivial)
 ·have hkl : k = l.length := by omega
  subst hkl
  have e1 := V0u (p := fun k => decide (gp l k ≠ gp l 0)) hall
  refine wt ?_
  exact j0c rfl (.tmp rfl) (by rw [e1])
def w0c (l : List Pt) : Bool := match (List.range l.length).find? (fun k => decide (gp l k ≠ gp l 0)) with
 |none => true
 |some k => (List.range l.length).all fun i => decide (trn (sub (gp l k) (gp l 0)) (sub (gp l i) (gp l 0)) = 0)
def x1Z (l : List Pt) : Bool := if chk l = 0 then w0c l else false
theorem z1L {l : List Pt} (h : chk l = 0) : (∀ i, SmP (gp l i)) ∧ l.length ≤ 64 := by
 unfold chk at h
 split at h
 ·omega
 ·split at h
  ·rename_i h1 h2
   refine ⟨W1R (q := SmP) (fun p hp => ?_) Z1Z, by omega⟩
   have := List.all_eq_true.1 h2 p hp
   simp [z0a, inB] at this
   simp only [SmP, Sm]; omega
  ·omega
theorem X1i (l : List Pt) : CtrA Tryz.prog 126 [pts l] (j0B [vb (x1Z l), vi (chk l)]) := by
 have q := y1H l
 have hC : x1Z l = if chk l = 0 then w0c l else false := rfl
 refine j0r _ Tryz.func126 rfl rfl Tryz.ntmps126 rfl fun w Z => ?_
 refine zU ?_
 refine wt ?_
 (refine j0a rfl ?_ ?_ <;> intro hb <;> (try simp only [zA, zB, zG, zC, zD, zN] at hb) <;> (try exact zQ))
 ·rw [if_neg hb] at hC
  refine wt ?_
  exact j0v (rvs := [_, _]) (τs := [_, _]) rfl rfl ⟨.tmp rfl, .tmp rfl, trivial⟩ (by rw [hC])
 rw [if_pos hb] at hC
 obtain ⟨sm, h64⟩ := z1L hb
 have hx := k1w l zO
 cases hf : (List.range l.length).find? (fun k => decide (gp l k ≠ gp l 0)) with
 |none =>
  have e1 : ixB (fun k => decide (gp l k ≠ gp l 0)) l.length = -1 := by unfold ixB; rw [hf]
  rw [e1] at hx
  have e2 : w0c l = true := by unfold w0c; rw [hf]
  refine wt ?_
  exact j0v (rvs := [_, _]) (τs := [_, _]) rfl rfl ⟨.tmp rfl, .tmp rfl, trivial⟩ (by rw [hC, e2, hb])
 |some k =>
  have e1 : ixB (fun k => decide (gp l k ≠ gp l 0)) l.length = k := by unfold ixB; rw [hf]
  rw [e1] at hx
  have hk : k < l.length := List.mem_range.1 (List.mem_of_find?_eq_some hf)
  have e2 : w0c l = (List.range l.length).all fun i => decide (trn (sub (gp l k) (gp l 0)) (sub (gp l i) (gp l 0)) = 0) := by unfold w0c; rw [hf]
  have ht := K1v (gp l 0) (gp l k) (sm 0) (sm k)
  refine wt ?_
  refine j0h (γ := Nat) (fun i => [(1, .av (lp l)), (7, .av (.val (.func (.func 193) #[.agg #[.int .i64 (sub (gp l k) (gp l 0)).x, .int .i64 (sub (gp l k) (gp l 0)).y]] #[]))), (30, .av (pts l)), (31, .av (vi l.length)), (32, .av (vi i))]) (fun _ => []) (fun i => i ≤ l.length ∧ ∀ j, j < i → trn (sub (gp l k) (gp l 0)) (sub (gp l j) (gp l 0)) = 0) (fun i => l.length - i) 0 ⟨Nat.zero_le _, by omega⟩ (ent zS trivial) ?_
  rintro i ⟨hi, hall⟩
  refine wt ?_
  (refine j0a rfl ?_ ?_ <;> intro hb <;> (try simp only [zA, zB, zG, zC, zD, zN] at hb) <;> (try exact zQ))
  ·have hil : i < l.length := by omega
   have ht2 := K1v (gp l 0) (gp l i) (sm 0) (sm i)
   have ht3 := Z1r (sub (gp l k) (gp l 0)) (sub (gp l i) (gp l 0)) (K0p (sm k) (sm 0)) (K0p (sm i) (sm 0))
   refine wt ?_
   (refine j0a rfl ?_ ?_ <;> intro hb <;> (try simp only [zA, zB, zG, zC, zD, zN] at hb) <;> (try exact zQ))
   ·have e3 : w0c l = false := by
     rw [e2, List.all_eq_false]
     exact ⟨i, List.mem_range.2 hil, by simpa using hb⟩
    refine wt ?_
    exact j0v (rvs := [_, _]) (τs := [_, _]) rfl rfl ⟨.tmp rfl, .tmp rfl, trivial⟩ (by rw [hC, e3, ‹chk l = 0›])
   ·refine wt ?_
    exact j0b (i + 1) ⟨by omega, v0z hall hb⟩ zO (ent zS trivial)
  ·have hil : i = l.length := by omega
   subst hil
   have e3 : w0c l = true := by
    rw [e2, List.all_eq_true]
    exact fun j hj => decide_eq_true (hall j (List.mem_range.1 hj))
   refine wt ?_
   exact j0v (rvs := [_, _]) (τs := [_, _]) rfl rfl ⟨.tmp rfl, .tmp rfl, trivial⟩ (by rw [hC, e3, ‹chk l = 0›])
theorem V0Y (p : Tr) : CtrA Tryz.prog 198 [tp p] (tp p) := by
 refine j0r _ Tryz.func198 rfl rfl Tryz.ntmps198 rfl fun w Z => ?_
 refine zU ?_
 refine wt ?_
 exact j0c rfl (.agg (us := [_, _, _]) rfl rfl rfl rfl) rfl
theorem y1I (p : Tr) : CtrA Tryz.prog 194 [tp p, vi 0] (pp (plc 0 p)) := by
 have h := V0Y p
 refine j0r _ Tryz.func194 rfl rfl Tryz.ntmps194 rfl fun w Z => ?_
 refine zU ?_
 refine wt ?_
 exact j0c rfl (.agg (us := [_, _]) rfl rfl rfl rfl) rfl
theorem J1K (a b c : Int) (w : World) : (Instr.index 22 (.agg [.int .i64 a, .int .i64 b, .int .i64 c].toArray) (.int .i64 0)).run Tryz.prog w = .ok (.int .i64 a) w := by kernel_rfl
theorem v1V (p : Tr) : CtrA Tryz.prog 113 [vi 0, tp p] (vi (cz p 0)) := by
 refine j0r _ Tryz.func113 rfl rfl Tryz.ntmps113 rfl fun w Z => ?_
 refine zU ?_
 refine wt ?_
 refine j0j (q0m (J1K _ _ _) rfl rfl) rfl ?_
 refine wt ?_
 exact zV
theorem w1h (p : Tr) : CtrA Tryz.prog 148 [tp p, vi 0] (pp (plc 0 p)) := by
 refine j0r _ Tryz.func148 rfl rfl Tryz.ntmps148 rfl fun w Z => ?_
 refine zU ?_
 refine wt ?_
 exact j0c rfl (.agg (us := [_, _]) rfl rfl rfl rfl) rfl
theorem y1J (p : Tr) : CtrA Tryz.prog 194 [tp p, vi 1] (pp (plc 1 p)) := by
 have h := V0Y p
 refine j0r _ Tryz.func194 rfl rfl Tryz.ntmps194 rfl fun w Z => ?_
 refine zU ?_
 refine wt ?_
 exact j0c rfl (.agg (us := [_, _]) rfl rfl rfl rfl) rfl
theorem J1L (a b c : Int) (w : World) : (Instr.index 22 (.agg [.int .i64 a, .int .i64 b, .int .i64 c].toArray) (.int .i64 1)).run Tryz.prog w = .ok (.int .i64 b) w := by kernel_rfl
theorem v1W (p : Tr) : CtrA Tryz.prog 113 [vi 1, tp p] (vi (cz p 1)) := by
 refine j0r _ Tryz.func113 rfl rfl Tryz.ntmps113 rfl fun w Z => ?_
 refine zU ?_
 refine wt ?_
 refine j0j (q0m (J1L _ _ _) rfl rfl) rfl ?_
 refine wt ?_
 exact zV
theorem w1i (p : Tr) : CtrA Tryz.prog 148 [tp p, vi 1] (pp (plc 1 p)) := by
 refine j0r _ Tryz.func148 rfl rfl Tryz.ntmps148 rfl fun w Z => ?_
 refine zU ?_
 refine wt ?_
 exact j0c rfl (.agg (us := [_, _]) rfl rfl rfl rfl) rfl
theorem y1K (p : Tr) : CtrA Tryz.prog 194 [tp p, vi 2] (pp (plc 2 p)) := by
 have h := V0Y p
 refine j0r _ Tryz.func194 rfl rfl Tryz.ntmps194 rfl fun w Z => ?_
 refine zU ?_
 refine wt ?_
 exact j0c rfl (.agg (us := [_, _]) rfl rfl rfl rfl) rfl
theorem J1M (a b c : Int) (w : World) : (Instr.index 22 (.agg [.int .i64 a, .int .i64 b, .int .i64 c].toArray) (.int .i64 2)).run Tryz.prog w = .ok (.int .i64 c) w := by kernel_rfl
theorem v1X (p : Tr) : CtrA Tryz.prog 113 [vi 2, tp p] (vi (cz p 2)) := by
 refine j0r _ Tryz.func113 rfl rfl Tryz.ntmps113 rfl fun w Z => ?_
 refine zU ?_
 refine wt ?_
 refine j0j (q0m (J1M _ _ _) rfl rfl) rfl ?_
 refine wt ?_
 exact zV
theorem w1j (p : Tr) : CtrA Tryz.prog 148 [tp p, vi 2] (pp (plc 2 p)) := by
 refine j0r _ Tryz.func148 rfl rfl Tryz.ntmps148 rfl fun w Z => ?_
 refine zU ?_
 refine wt ?_
 exact j0c rfl (.agg (us := [_, _]) rfl rfl rfl rfl) rfl
theorem place_c (p : Tr) {k : Nat} (hk : k < 3) : CtrA Tryz.prog 194 [tp p, vi (k : Int)] (pp (plc k p)) := by
 rcases (by omega : k = 0 ∨ k = 1 ∨ k = 2) with rfl | rfl | rfl
 ·exact y1I p
 ·exact y1J p
 ·exact y1K p
theorem y1U (p : Tr) {k : Nat} (hk : k < 3) : CtrA Tryz.prog 148 [tp p, vi (k : Int)] (pp (plc k p)) := by
 rcases (by omega : k = 0 ∨ k = 1 ∨ k = 2) with rfl | rfl | rfl
 ·exact w1h p
 ·exact w1i p
 ·exact w1j p
theorem W0E (p : Tr) {k : Nat} (hk : k < 3) : CtrA Tryz.prog 113 [vi (k : Int), tp p] (vi (cz p k)) := by
 rcases (by omega : k = 0 ∨ k = 1 ∨ k = 2) with rfl | rfl | rfl
 ·exact v1V p
 ·exact v1W p
 ·exact v1X p
def x0j (l : List Tr) (k : Nat) : List Pt := l.map (plc k)
theorem y0r {l : List Tr} {k i : Nat} (h : i < l.length) : gp (x0j l k) i = plc k (gt l i) := by simp [gp, x0j, gt, h, List.getD]
theorem y0Y {l : List Tr} {k i : Nat} (h : i < l.length) : x0j (l.take (i + 1)) k = x0j (l.take i) k ++ [plc k (gt l i)] := by rw [Z0b h, x0j, List.map_append]; rfl
theorem x0b (l : List Tr) (k : Nat) : (x0j l k).length = l.length := by simp [x0j]
theorem y1L (l : List Tr) {k : Nat} (hk : k < 3) (hn : l.length ≤ 1000) : CtrR Tryz.prog 127 [ts l, vi (k : Int)] 209 2 (x0j l k).length (pf (x0j l k)) [] := by
 refine K0J _ Tryz.func127 rfl rfl Tryz.ntmps127 rfl fun w Z => ?_
 refine zU ?_
 refine wt ?_
 refine j0h (γ := Nat) (fun i => [(1, .av (vi (k : Int))), (5, .osl 20), (8, .av (ts l)), (9, .av (vi l.length)), (10, .av (vi i))]) (fun i => [(20, .row 209 2 (x0j (l.take i) k).length (pf (x0j (l.take i) k)))]) (fun i => i ≤ l.length) (fun i => l.length - i) 0 (Nat.zero_le _) ((v0F (dd := 5) 20 209 2 (pf []) rfl rfl).trans (ent zS zT)) ?_
 intro i hi
 refine wt ?_
 (refine j0a rfl ?_ ?_ <;> intro hb <;> (try simp only [zA, zB, zG, zC, zD, zN] at hb) <;> (try exact zQ))
 ·have hil : i < l.length := by omega
  have hp := place_c (gt l i) hk
  have hl := x0b (l.take i) k
  rw [List.length_take] at hl
  refine wt ?_
  exact j0b (i + 1) (by omega) (by omega) (ent zS ⟨⟨_, rfl, .row (by rw [y0Y hil]) (fun _ _ _ _ => by rw [y0Y hil])⟩, trivial⟩)
 ·have hil : i = l.length := by omega
  subst hil
  refine wt ?_
  exact x0J rfl rfl rfl (by rw [List.take_length]) (fun _ _ _ _ => by rw [List.take_length])
theorem w1k (l : List Tr) {k : Nat} (hk : k < 3) (hn : l.length ≤ 1000) : CtrR Tryz.prog 85 [ts l, vi (k : Int)] 209 2 (x0j l k).length (pf (x0j l k)) [] := by
 refine K0J _ Tryz.func85 rfl rfl Tryz.ntmps85 rfl fun w Z => ?_
 refine zU ?_
 refine wt ?_
 refine j0h (γ := Nat) (fun i => [(0, .av (ts l)), (1, .av (vi (k : Int))), (5, .osl 20), (6, .av (vi i))]) (fun i => [(20, .row 209 2 (x0j (l.take i) k).length (pf (x0j (l.take i) k)))]) (fun i => i ≤ l.length) (fun i => l.length - i) 0 (Nat.zero_le _) ((v0F (dd := 5) 20 209 2 (pf []) rfl rfl).trans (ent zS zT)) ?_
 intro i hi
 refine wt ?_
 (refine j0a rfl ?_ ?_ <;> intro hb <;> (try simp only [zA, zB, zG, zC, zD, zN] at hb) <;> (try exact zQ))
 ·have hil : i < l.length := by omega
  have hp := y1U (gt l i) hk
  have hl := x0b (l.take i) k
  rw [List.length_take] at hl
  refine wt ?_
  exact j0b (i + 1) (by omega) (by omega) (ent zS ⟨⟨_, rfl, .row (by rw [y0Y hil]) (fun _ _ _ _ => by rw [y0Y hil])⟩, trivial⟩)
 ·have hil : i = l.length := by omega
  subst hil
  refine wt ?_
  exact x0J rfl rfl rfl (by rw [List.take_length]) (fun _ _ _ _ => by rw [List.take_length])
theorem z1G (a : Int) : CtrA Tryz.prog 125 [vi a] (vi (if 0 ≤ a ∧ a ≤ 2 then 0 else 1)) := by
 refine j0r _ Tryz.func125 rfl rfl Tryz.ntmps125 rfl fun w Z => ?_
 refine zU ?_
 (refine wt ?_; repeat' (((first | refine j0g rfl rfl ?_ ?_ | refine j0f rfl rfl ?_ ?_) <;> intro hb <;> (try simp only [zA, zB, zG, zC, zD, zN] at hb) <;> (try exact zQ)) <;> refine wt ?_))
 ·exact j0c rfl (.tmp rfl) (congrArg vi (by rw [if_neg (by omega)]))
 ·(refine j0a rfl ?_ ?_ <;> intro hb <;> (try simp only [zA, zB, zG, zC, zD, zN] at hb) <;> (try exact zQ))
  ·refine wt ?_
   exact j0c rfl (.tmp rfl) (congrArg vi (by rw [if_neg (by omega)]))
  ·refine wt ?_
   exact j0c rfl (.tmp rfl) (congrArg vi (by rw [if_pos (by omega)]))
def x1E (l : List Tr) (a : Int) : Int := if w0A l ≠ 0 then w0A l else if 0 ≤ a ∧ a ≤ 2 then 0 else 1
theorem Q1W (l : List Tr) (a : Int) : CtrA Tryz.prog 70 [ts l, vi a] (vi (x1E l a)) := by
 have h1 := x0d l
 have h2 := z1G a
 refine j0r _ Tryz.func70 rfl rfl Tryz.ntmps70 rfl fun w Z => ?_
 refine zU ?_
 refine wt ?_
 (refine j0a rfl ?_ ?_ <;> intro hb <;> (try simp only [zA, zB, zG, zC, zD, zN] at hb) <;> (try exact zQ))
 ·refine wt ?_
  exact j0c rfl (.tmp rfl) (congrArg vi (by unfold x1E; rw [if_pos hb]))
 ·refine wt ?_
  exact j0c rfl (.tmp rfl) (congrArg vi (by unfold x1E; rw [if_neg (c := w0A l ≠ 0) (fun h => h hb)]))
def x0i (l : List Pt) : Bool := (List.range l.length).all fun i => (List.range i).all fun j => (List.range j).all fun k => decide (crs (gp l i) (gp l j) (gp l k) = 0)
theorem j1s (l : List Pt) (sm : ∀ i, SmP (gp l i)) (hn : l.length ≤ 1000) : CtrA Tryz.prog 84 [pts l] (vb (x0i l)) := by
 refine j0r _ Tryz.func84 rfl rfl Tryz.ntmps84 rfl fun w Z => ?_
 refine zU ?_
 refine wt ?_
 refine j0h (γ := Nat) (fun i => [(0, .av (pts l)), (3, .av (vi i))]) (fun _ => []) (fun i => i ≤ l.length ∧ ∀ a, a < i → ∀ b, b < a → ∀ c, c < b → crs (gp l a) (gp l b) (gp l c) = 0) (fun i => l.length - i) 0 ⟨Nat.zero_le _, by omega⟩ (ent zS trivial) ?_
 rintro i ⟨hi, hI⟩
 refine wt ?_
 (refine j0a rfl ?_ ?_ <;> intro hb <;> (try simp only [zA, zB, zG, zC, zD, zN] at hb) <;> (try exact zQ))
 ·have hil : i < l.length := by omega
  refine wt ?_
  refine j0h (γ := Nat) (fun j => [(0, .av (pts l)), (3, .av (vi i)), (4, .av (vi j))]) (fun _ => []) (fun j => j ≤ i ∧ ∀ b, b < j → ∀ c, c < b → crs (gp l i) (gp l b) (gp l c) = 0) (fun j => i - j) 0 ⟨Nat.zero_le _, by omega⟩ (ent zS trivial) ?_
  rintro j ⟨hj, hJ⟩
  refine wt ?_
  (refine j0a rfl ?_ ?_ <;> intro hb <;> (try simp only [zA, zB, zG, zC, zD, zN] at hb) <;> (try exact zQ))
  ·have hji : j < i := by omega
   refine wt ?_
   refine j0h (γ := Nat) (fun k => [(0, .av (pts l)), (3, .av (vi i)), (4, .av (vi j)), (5, .av (vi k))]) (fun _ => []) (fun k => k ≤ j ∧ ∀ c, c < k → crs (gp l i) (gp l j) (gp l c) = 0) (fun k => j - k) 0 ⟨Nat.zero_le _, by omega⟩ (ent zS trivial) ?_
   rintro k ⟨hk, hK⟩
   refine wt ?_
   (refine j0a rfl ?_ ?_ <;> intro hb <;> (try simp only [zA, zB, zG, zC, zD, zN] at hb) <;> (try exact zQ))
   ·have hkj : k < j := by omega
    have hc := V1D (gp l i) (gp l j) (gp l k) (sm i) (sm j) (sm k)
    refine wt ?_
    (refine j0a rfl ?_ ?_ <;> intro hb <;> (try simp only [zA, zB, zG, zC, zD, zN] at hb) <;> (try exact zQ))
    ·refine wt ?_
     refine j0c rfl (.tmp rfl) (congrArg vb ?_)
     symm
     unfold x0i
     rw [List.all_eq_false]
     refine ⟨i, List.mem_range.2 hil, ?_⟩
     rw [Bool.not_eq_true, List.all_eq_false]
     refine ⟨j, List.mem_range.2 hji, ?_⟩
     rw [Bool.not_eq_true, List.all_eq_false]
     exact ⟨k, List.mem_range.2 hkj, by simpa using hb⟩
    ·refine wt ?_
     exact j0b (k + 1) ⟨by omega, v0z hK hb⟩ zO (ent zS trivial)
   ·have e : k = j := by omega
    subst e
    refine wt ?_
    exact j0b (k + 1) ⟨by omega, v0z hJ hK⟩ zO (ent zS trivial)
  ·have e : j = i := by omega
   subst e
   refine wt ?_
   exact j0b (j + 1) ⟨by omega, v0z hI hJ⟩ zO (ent zS trivial)
 ·have e : i = l.length := by omega
  subst e
  refine wt ?_
  refine j0c rfl (.tmp rfl) (congrArg vb ?_)
  symm
  unfold x0i
  rw [List.all_eq_true]
  intro a ha
  rw [List.all_eq_true]
  intro b hb1
  rw [List.all_eq_true]
  intro c hc
  exact decide_eq_true (hI a (List.mem_range.1 ha) b (List.mem_range.1 hb1) c (List.mem_range.1 hc))
end Go.Proofs.YtfggdokihnopeaaGreatDoor.H
