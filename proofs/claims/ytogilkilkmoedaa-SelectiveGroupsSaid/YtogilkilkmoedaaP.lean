/- A part of the proof that the law returns true at every input and that the input reads behind the call as it read before; this part states nothing of its own that needs a condition of the input. -/
import Derived.Test.YtogilkilkmoedaaV
import Derived.Test.YtogilkilkmoedaaW
import Derived.Test.YtogilkilkmoedaaX
set_option linter.unusedVariables false
set_option linter.unusedSimpArgs false
namespace Go.Proofs.Ytogilkilkmoedaa
open Go Go.Vc Go.RowKit
/-! Lists of numbers, of truth values; matchings. -/
def gz (l : List Int) (i : Nat) : Int := l.getD i 0
def zf (l : List Int) : Nat → Nat → AV := fun i _ => .val (.int .i64 (gz l i))
abbrev zs (l : List Int) : AV := .sl l.length 1 (zf l)
def gb (l : List Bool) (i : Nat) : Bool := l.getD i false
def bf (l : List Bool) : Nat → Nat → AV := fun i _ => .val (.bool (gb l i))
abbrev vi (n : Int) : AV := .val (.int .i64 n)
abbrev vb (b : Bool) : AV := .val (.bool b)
theorem gz_set {l : List Int} {i k : Nat} {v : Int} (h : i < l.length) : gz (l.set i v) k = if k = i then v else gz l k := by
  simp only [gz, List.getD, List.getElem?_set]
  by_cases e : i = k
  · subst e; simp [h]
  · rw [if_neg e, if_neg (fun q => e q.symm)]
theorem gb_set {l : List Bool} {i k : Nat} {v : Bool} (h : i < l.length) : gb (l.set i v) k = if k = i then v else gb l k := by
  simp only [gb, List.getD, List.getElem?_set]
  by_cases e : i = k
  · subst e; simp [h]
  · rw [if_neg e, if_neg (fun q => e q.symm)]
structure MS where
  H : List Int
  P : List Int
  S : List Bool
def MS.pair (s : MS) (h i : Nat) : MS := ⟨s.H.set h (i : Int), s.P.set i (h : Int), s.S⟩
def MS.see (s : MS) (i : Nat) : MS := ⟨s.H, s.P, s.S.set i true⟩
/-- Through the pins from i on, the search for others being given. -/
def findL (fit : Nat → Nat → Bool) (G : List Bool) (rec : Nat → MS → Bool × MS) (h : Nat) : Nat → Nat → MS → Bool × MS
  | 0, _, s => (false, s)
  | c + 1, i, s =>
    if gb s.S i || gb G i || !fit h i then findL fit G rec h c (i + 1) s else
    if gz s.P i < 0 then (true, (s.see i).pair h i) else
    if (rec (gz s.P i).toNat (s.see i)).1 then (true, ((rec (gz s.P i).toNat (s.see i)).2).pair h i) else
    findL fit G rec h c (i + 1) (rec (gz s.P i).toNat (s.see i)).2
def findF (fit : Nat → Nat → Bool) (G : List Bool) (n : Nat) : Nat → Nat → MS → Bool × MS
  | 0, _, s => (false, s)
  | f + 1, h, s => findL fit G (findF fit G n f) h n 0 s
def unseen (S : List Bool) : Nat := (S.filter (fun b => !b)).length
/-- Right sizes: each partner is a hole, or none. -/
structure MS.Ok (s : MS) (nH nP : Nat) : Prop where
  hl : s.H.length = nH
  pl : s.P.length = nP
  sl : s.S.length = nP
  pv : ∀ i, i < nP → gz s.P i < nH
  hv : ∀ i, i < nH → gz s.H i < nP
theorem MS.Ok.see {s : MS} {nH nP : Nat} (h : s.Ok nH nP) (i : Nat) : (s.see i).Ok nH nP := ⟨h.hl, h.pl, by simp [MS.see, h.sl], h.pv, h.hv⟩
theorem MS.Ok.pair {s : MS} {nH nP : Nat} (h : s.Ok nH nP) {a i : Nat} (ha : a < nH) (hi : i < nP) : (s.pair a i).Ok nH nP := by
  refine ⟨by simp [MS.pair, h.hl], by simp [MS.pair, h.pl], h.sl, fun k hk => ?_, fun k hk => ?_⟩
  · simp only [MS.pair]
    rw [gz_set (by rw [h.pl]; exact hi)]
    split
    · omega
    · exact h.pv k hk
  · simp only [MS.pair]
    rw [gz_set (by rw [h.hl]; exact ha)]
    split
    · omega
    · exact h.hv k hk
theorem unseen_see : ∀ {S : List Bool} {i : Nat}, i < S.length → gb S i = false → unseen (S.set i true) + 1 = unseen S
  | [], i, h, _ => by simp at h
  | b :: S, 0, _, hb => by
    simp only [gb, List.getD, List.getElem?_cons_zero, Option.getD_some] at hb
    subst hb
    simp [unseen]
  | b :: S, i + 1, h, hb => by
    have ih := unseen_see (S := S) (i := i) (by simpa using h) (by simpa [gb, List.getD] using hb)
    cases b <;> simp [unseen] at ih ⊢ <;> omega
/-- What holds of the state behind a search. -/
structure Aft (nH nP : Nat) (s t : MS) : Prop where
  ok : t.Ok nH nP
  un : unseen t.S ≤ unseen s.S
theorem findL_aft {fit : Nat → Nat → Bool} {G : List Bool} {rec : Nat → MS → Bool × MS} {nH nP h U : Nat} (hh : h < nH) (hrec : ∀ o s, s.Ok nH nP → o < nH → unseen s.S < U → Aft nH nP s (rec o s).2) :
    ∀ c i s, s.Ok nH nP → i + c = nP → unseen s.S ≤ U → Aft nH nP s (findL fit G rec h c i s).2
  | 0, i, s, hs, _, _ => ⟨hs, Nat.le_refl _⟩
  | c + 1, i, s, hs, hi, hu => by
    unfold findL
    split
    · exact findL_aft hh hrec c (i + 1) s hs (by omega) hu
    · rename_i hc
      simp only [Bool.or_eq_true, not_or, Bool.not_eq_true] at hc
      have hun := unseen_see (S := s.S) (i := i) (by rw [hs.sl]; omega) hc.1.1
      split
      · exact ⟨(hs.see i).pair hh (by omega), by simp only [MS.pair, MS.see]; omega⟩
      · rename_i hp
        have hr := hrec (gz s.P i).toNat (s.see i) (hs.see i) (by have := hs.pv i (by omega); omega) (by simp only [MS.see]; omega)
        have hu2 := hr.un
        simp only [MS.see] at hu2
        split
        · exact ⟨hr.ok.pair hh (by omega), by simp only [MS.pair]; simp only [MS.see]; omega⟩
        · have := findL_aft (fit := fit) (G := G) hh hrec c (i + 1) (rec (gz s.P i).toNat (s.see i)).2 hr.ok (by omega) (by simp only [MS.see]; omega)
          exact ⟨this.ok, Nat.le_trans this.un (by simp only [MS.see]; omega)⟩
theorem findF_aft {fit : Nat → Nat → Bool} {G : List Bool} {nH nP : Nat} : ∀ f h s, s.Ok nH nP → h < nH → unseen s.S < f → Aft nH nP s (findF fit G nP f h s).2
  | 0, h, s, hs, _, hu => by omega
  | f + 1, h, s, hs, hh, hu => findL_aft (U := f) hh (fun o t ht ho hu => findF_aft f o t ht ho hu) nP 0 s hs (by omega) (by omega)
end Go.Proofs.Ytogilkilkmoedaa
namespace Go.Proofs.Ytogilkilkmoedaa
open Go Go.Vc Go.RowKit
/-! Matchings, as lists. -/
/-- How many have a partner. -/
def cnt (l : List Int) (k : Nat) : Nat := ((l.take k).filter (fun n => decide (0 ≤ n))).length
abbrev sz (l : List Int) : Nat := cnt l l.length
structure Mt where
  H : List Int
  P : List Int
  D : List Bool
  G : List Bool
structure Mt.Ok (m : Mt) (nH nP : Nat) : Prop where
  hl : m.H.length = nH
  pl : m.P.length = nP
  dl : m.D.length = nH
  gl : m.G.length = nP
  pv : ∀ i, i < nP → gz m.P i < nH
  hv : ∀ i, i < nH → gz m.H i < nP
def Mt.s0 (m : Mt) (nP : Nat) : MS := ⟨m.H, m.P, List.replicate nP false⟩
theorem Mt.Ok.s {m : Mt} {nH nP : Nat} (h : m.Ok nH nP) : (m.s0 nP).Ok nH nP := ⟨h.hl, h.pl, by simp [Mt.s0], h.pv, h.hv⟩
theorem unseen_rep (n : Nat) : unseen (List.replicate n false) < n + 1 := by
  unfold unseen; exact Nat.lt_succ_of_le (Nat.le_trans (List.length_filter_le _ _) (by simp))
def Mt.gr (fit : Nat → Nat → Bool) (nP : Nat) (m : Mt) (h : Nat) : Bool × MS := findF fit m.G nP (nP + 1) h (m.s0 nP)
def Mt.grow (fit : Nat → Nat → Bool) (nP : Nat) (m : Mt) (h : Nat) : Mt := ⟨(m.gr fit nP h).2.H, (m.gr fit nP h).2.P, m.D, m.G⟩
theorem Mt.Ok.grow {fit : Nat → Nat → Bool} {m : Mt} {nH nP : Nat} (hm : m.Ok nH nP) {h : Nat} (hh : h < nH) : (m.grow fit nP h).Ok nH nP := by
  have ha := (findF_aft (fit := fit) (G := m.G) (nP + 1) h _ hm.s hh (unseen_rep nP)).ok
  exact ⟨ha.hl, ha.pl, hm.dl, hm.gl, ha.pv, ha.hv⟩
def Mt.new (nH nP : Nat) : Mt := ⟨List.replicate nH (-1), List.replicate nP (-1), List.replicate nH false, List.replicate nP false⟩
theorem gz_neg (n i : Nat) : gz (List.replicate n (-1)) i ≤ 0 := by
  unfold gz
  rw [List.getD_eq_getElem?_getD, List.getElem?_replicate]
  split <;> simp
theorem gz_neg' {n i : Nat} (h : i < n) : gz (List.replicate n (-1)) i = -1 := by
  unfold gz
  rw [List.getD_eq_getElem?_getD, List.getElem?_replicate, if_pos h]; rfl
theorem gz_out {l : List Int} {i : Nat} (h : l.length ≤ i) : gz l i = 0 := by
  unfold gz
  rw [List.getD_eq_getElem?_getD, List.getElem?_eq_none h]; rfl
theorem Mt.new_ok (nH nP : Nat) : (Mt.new nH nP).Ok nH nP := by
  refine ⟨by simp [Mt.new], by simp [Mt.new], by simp [Mt.new], by simp [Mt.new], fun i hi => ?_, fun i hi => ?_⟩
  · have := gz_neg' hi; simp only [Mt.new]; omega
  · have := gz_neg' hi; simp only [Mt.new]; omega
/-- What most makes of the first k holes. -/
def mostN (fit : Nat → Nat → Bool) (nH nP : Nat) : Nat → Mt
  | 0 => Mt.new nH nP
  | k + 1 => (mostN fit nH nP k).grow fit nP k
theorem mostN_ok {fit : Nat → Nat → Bool} {nH nP : Nat} : ∀ k, k ≤ nH → (mostN fit nH nP k).Ok nH nP
  | 0, _ => Mt.new_ok nH nP
  | k + 1, hk => (mostN_ok k (by omega)).grow (by omega)
def Mt.h1 (m : Mt) (p : Nat) : List Int := if 0 ≤ gz m.P p then m.H.set (gz m.P p).toNat (-1) else m.H
def Mt.p1 (m : Mt) (h p : Nat) : List Int := if 0 ≤ gz (m.h1 p) h then m.P.set (gz (m.h1 p) h).toNat (-1) else m.P
/-- The pair is put. -/
def Mt.put (m : Mt) (h p : Nat) : Mt := ⟨(m.h1 p).set h (p : Int), (m.p1 h p).set p (h : Int), m.D.set h true, m.G.set p true⟩
def withL (fit : Nat → Nat → Bool) (nP n : Nat) : Nat → Nat → Mt → Bool × Mt
  | 0, _, m => (decide (sz m.H = n), m)
  | c + 1, i, m => if sz m.H = n then (true, m) else if gz m.H i < 0 then withL fit nP n c (i + 1) (m.grow fit nP i) else withL fit nP n c (i + 1) m
def Mt.with_ (fit : Nat → Nat → Bool) (nP : Nat) (m : Mt) (h p : Nat) : Bool × Mt := withL fit nP (sz m.H) m.H.length 0 (m.put h p)
/-- Through the pins, for a hole. -/
def pinsL (fit : Nat → Nat → Bool) (nP h : Nat) : Nat → Nat → Mt → Mt × List (Nat × Nat)
  | 0, _, m => (m, [])
  | c + 1, p, m => if gb m.G p || !fit h p then pinsL fit nP h c (p + 1) m else if (m.with_ fit nP h p).1 then ((m.with_ fit nP h p).2, [(h, p)]) else pinsL fit nP h c (p + 1) m
def pairsN (fit : Nat → Nat → Bool) (nH nP : Nat) : Nat → Mt × List (Nat × Nat)
  | 0 => (mostN fit nH nP nH, [])
  | k + 1 => ((pinsL fit nP k nP 0 (pairsN fit nH nP k).1).1, (pairsN fit nH nP k).2 ++ (pinsL fit nP k nP 0 (pairsN fit nH nP k).1).2)
theorem h1_len (m : Mt) (p : Nat) : (m.h1 p).length = m.H.length := by unfold Mt.h1; split <;> simp
theorem p1_len (m : Mt) (h p : Nat) : (m.p1 h p).length = m.P.length := by unfold Mt.p1; split <;> simp
theorem gz_set_le {l : List Int} {i n : Nat} {v B : Int} (h : ∀ k, k < n → gz l k < B) (hv : v < B) : ∀ k, k < n → gz (l.set i v) k < B := by
  intro k hk
  by_cases hi : i < l.length
  · rw [gz_set hi]; split
    · exact hv
    · exact h k hk
  · rw [List.set_eq_of_length_le (by omega)]; exact h k hk
theorem Mt.Ok.put {m : Mt} {nH nP : Nat} (hm : m.Ok nH nP) {h p : Nat} (hh : h < nH) (hp : p < nP) : (m.put h p).Ok nH nP := by
  refine ⟨by simp [Mt.put, h1_len, hm.hl], by simp [Mt.put, p1_len, hm.pl], by simp [Mt.put, hm.dl], by simp [Mt.put, hm.gl], ?_, ?_⟩
  · refine gz_set_le ?_ (by omega)
    unfold Mt.p1
    split
    · exact gz_set_le hm.pv (by omega)
    · exact hm.pv
  · refine gz_set_le ?_ (by omega)
    unfold Mt.h1
    split
    · exact gz_set_le hm.hv (by omega)
    · exact hm.hv
theorem withL_ok {fit : Nat → Nat → Bool} {nH nP n : Nat} : ∀ c i m, m.Ok nH nP → i + c ≤ nH → (withL fit nP n c i m).2.Ok nH nP
  | 0, _, m, h, _ => h
  | c + 1, i, m, h, hi => by
    unfold withL
    split
    · exact h
    · split
      · exact withL_ok c (i + 1) _ (h.grow (by omega)) (by omega)
      · exact withL_ok c (i + 1) _ h (by omega)
theorem Mt.Ok.with_ {fit : Nat → Nat → Bool} {m : Mt} {nH nP : Nat} (hm : m.Ok nH nP) {h p : Nat} (hh : h < nH) (hp : p < nP) : (m.with_ fit nP h p).2.Ok nH nP :=
  withL_ok _ _ _ (hm.put hh hp) (by rw [hm.hl]; omega)
theorem pinsL_ok {fit : Nat → Nat → Bool} {nH nP h : Nat} (hh : h < nH) : ∀ c p m, m.Ok nH nP → p + c ≤ nP → (pinsL fit nP h c p m).1.Ok nH nP
  | 0, _, m, hm, _ => hm
  | c + 1, p, m, hm, hp => by
    unfold pinsL
    split
    · exact pinsL_ok hh c (p + 1) m hm (by omega)
    · split
      · exact hm.with_ hh (by omega)
      · exact pinsL_ok hh c (p + 1) m hm (by omega)
theorem pairsN_ok {fit : Nat → Nat → Bool} {nH nP : Nat} : ∀ k, k ≤ nH → (pairsN fit nH nP k).1.Ok nH nP
  | 0, _ => mostN_ok nH (Nat.le_refl _)
  | k + 1, hk => pinsL_ok (by omega) nP 0 _ (pairsN_ok k (by omega)) (by omega)
theorem pinsL_len {fit : Nat → Nat → Bool} {nP h : Nat} : ∀ c p m, (pinsL fit nP h c p m).2.length ≤ 1
  | 0, _, m => by simp [pinsL]
  | c + 1, p, m => by
    unfold pinsL
    split
    · exact pinsL_len c (p + 1) m
    · split
      · simp
      · exact pinsL_len c (p + 1) m
theorem pairsN_len {fit : Nat → Nat → Bool} {nH nP : Nat} : ∀ k, (pairsN fit nH nP k).2.length ≤ k
  | 0 => by simp [pairsN]
  | k + 1 => by
    have h1 := pairsN_len (fit := fit) (nH := nH) (nP := nP) k
    have h2 := pinsL_len (fit := fit) (nP := nP) (h := k) nP 0 (pairsN fit nH nP k).1
    simp only [pairsN, List.length_append]; omega
end Go.Proofs.Ytogilkilkmoedaa
