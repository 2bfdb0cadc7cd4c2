/- This session's texts for the claim, joined and shortened by this session's own program pack.py: what the claim does not need is struck. Part: Spec04. -/
import Derived.Test.YtkdfilpinlebbaaDoorQMath03
import Derived.Lib.AtoiAll
import Derived.Lib.IndexMore
set_option linter.unusedVariables false
set_option linter.unusedSimpArgs false
namespace Go.Proofs.YtkdfilpinlebbaaDoor.G
open Go
def ownB (k : Nat) : Bool := (decide (1 ≤ k) && decide (k ≤ 12)) || k == 18 || k == 19
def numB (k : Nat) : Bool := (decide (7 ≤ k) && decide (k ≤ 13)) || k == 16 || k == 18
def txtB (k : Nat) : Bool := k == 9 || k == 14 || k == 17
def mostI (k : Nat) : Int := if k = 3 ∨ k = 8 then 63 else if k = 18 then 1073741824 else -1
def kword : Nat → List UInt8
  | 1 => [112, 114, 111, 99, 101, 115, 115]
  | 2 => [114, 101, 103, 105, 115, 116, 101, 114, 115]
  | 3 => [112, 97, 103, 101]
  | 4 => [116, 97, 98, 108, 101]
  | 5 => [99, 111, 117, 110, 116, 101, 114]
  | 6 => [112, 101, 110, 100, 105, 110, 103]
  | 7 => [110, 111, 100, 101]
  | 8 => [98, 108, 111, 99, 107]
  | 9 => [101, 110, 116, 114, 121]
  | 10 => [108, 105, 115, 116, 105, 110, 103]
  | 11 => [112, 105, 112, 101]
  | 12 => [108, 111, 99, 107]
  | 13 => [116, 101, 114, 109, 105, 110, 97, 108]
  | 14 => [97, 99, 99, 111, 117, 110, 116]
  | 15 => [99, 108, 111, 99, 107]
  | 16 => [112, 111, 114, 116]
  | 17 => [98, 111, 120]
  | 18 => [111, 117, 116]
  | 19 => [115, 104, 101, 108, 108]
  | 20 => [101, 112, 111, 99, 104]
  | _ => []
def wordL (s : List UInt8) : Bool := decide (1 ≤ s.length) && decide (s.length ≤ 32) && s.all (fun c => decide (33 ≤ c.toNat) && decide (c.toNat ≤ 126) && c.toNat != 47)
def upto (p : UInt8 → Bool) (s : List UInt8) : List UInt8 := s.takeWhile (fun c => !p c)
def past (p : UInt8 → Bool) (s : List UInt8) : List UInt8 := (s.dropWhile (fun c => !p c)).tail
def sp (c : UInt8) : Bool := c == 32
def sh (c : UInt8) : Bool := c == 32 || c == 35
theorem upto_hit {p : UInt8 → Bool} : ∀ (a : List UInt8) (x : UInt8) (b : List UInt8), (∀ c ∈ a, p c = false) → p x = true → upto p (a ++ x :: b) = a
  | [], x, b, _, hx => by simp [upto, hx]
  | c :: a, x, b, h, hx => by
    have ih := upto_hit a x b (fun c hc => h c (List.mem_cons_of_mem _ hc)) hx
    unfold upto at ih ⊢
    rw [List.cons_append, List.takeWhile_cons, if_pos (by simp [h c (List.mem_cons_self ..)]), ih]
theorem past_hit {p : UInt8 → Bool} : ∀ (a : List UInt8) (x : UInt8) (b : List UInt8), (∀ c ∈ a, p c = false) → p x = true → past p (a ++ x :: b) = b
  | [], x, b, _, hx => by simp [past, hx]
  | c :: a, x, b, h, hx => by
    have ih := past_hit a x b (fun c hc => h c (List.mem_cons_of_mem _ hc)) hx
    unfold past at ih ⊢
    rw [List.cons_append, List.dropWhile_cons, if_pos (by simp [h c (List.mem_cons_self ..)]), ih]
theorem upto_all {p : UInt8 → Bool} : ∀ (a : List UInt8), (∀ c ∈ a, p c = false) → upto p a = a
  | [], _ => rfl
  | c :: a, h => by
    have ih := upto_all a (fun c hc => h c (List.mem_cons_of_mem _ hc))
    unfold upto at ih ⊢
    rw [List.takeWhile_cons, if_pos (by simp [h c (List.mem_cons_self ..)]), ih]
theorem past_all {p : UInt8 → Bool} : ∀ (a : List UInt8), (∀ c ∈ a, p c = false) → past p a = []
  | [], _ => rfl
  | c :: a, h => by
    have ih := past_all a (fun c hc => h c (List.mem_cons_of_mem _ hc))
    unfold past at ih ⊢
    rw [List.dropWhile_cons, if_pos (by simp [h c (List.mem_cons_self ..)]), ih]
def kOf (w : List UInt8) : Nat := ((List.range 20).find? fun j => kword (j + 1) == w).elim 0 (· + 1)
def atoiN (w : List UInt8) : Int := match Lib.atoiAll w with
  | .ok v => v
  | _ => -1
def numFrom (n : Nat) : List UInt8 → Int
  | [] => n
  | c :: r => if c.toNat < 48 ∨ 57 < c.toNat ∨ 1073741824 < n then -1 else numFrom (10 * n + (c.toNat - 48)) r
def numR (w : List UInt8) : Int := numFrom 0 w
structure Nm where
  k : Int
  o : List UInt8
  n : Int
  i : Int
  t : List UInt8
def ownerOf (w : List UInt8) : List UInt8 := if w = [48] then [] else w
def guessOk (k : Nat) (r0 : List UInt8) : Nm :=
  let r1 := if ownB k then (if r0.any sh then past sh r0 else r0) else r0
  let r2 := if numB k then past sp r1 else r1
  let r3 := if k = 0 ∨ 0 ≤ mostI k then past sp r2 else r2
  { k := k, o := if ownB k then ownerOf (if r0.any sh then upto sh r0 else r0) else [], n := if numB k then atoiN (upto sp r1) else 0, i := if k = 0 ∨ 0 ≤ mostI k then atoiN (upto sp r2) else 0, t := if txtB k then r3 else [] }
def guessRk (k : Nat) (r0 : List UInt8) : Nm :=
  let r1 := if ownB k then past sh r0 else r0
  let r2 := if numB k then past sp r1 else r1
  let r3 := if 0 ≤ mostI k then past sp r2 else r2
  { k := k, o := if ownB k then ownerOf (upto sh r0) else [], n := if numB k then numR (upto sp r1) else 0, i := if 0 ≤ mostI k then numR (upto sp r2) else 0, t := if txtB k then r3 else [] }
def guessO (s : List UInt8) : Nm := guessOk (kOf (upto sp s)) (past sp s)
def guessR (s : List UInt8) : Nm := guessRk (kOf (upto sp s)) (past sp s)
def okLin (o : List UInt8) : Bool := (parseL o).2.2 == 0
def chk (x : Nm) : Int :=
  if x.k < 1 ∨ 20 < x.k then 11
  else if (ownB x.k.toNat = false ∧ x.o ≠ []) ∨ (numB x.k.toNat = false ∧ x.n ≠ 0) ∨ (mostI x.k.toNat < 0 ∧ x.i ≠ 0) ∨ (txtB x.k.toNat = false ∧ x.t ≠ []) then 1
  else if ownB x.k.toNat = true ∧ okLin x.o = false then 12
  else if x.n < 0 ∨ 1073741824 < x.n ∨ x.i < 0 ∨ max (mostI x.k.toNat) 0 < x.i then 2
  else if txtB x.k.toNat = true ∧ wordL x.t = false then 12
  else 0
def strL (x : Nm) : List UInt8 :=
  kword x.k.toNat ++ ((if ownB x.k.toNat then 32 :: (if x.o = [] then [48] else x.o) else []) ++ ((if numB x.k.toNat then (if ownB x.k.toNat then 35 else 32) :: Lib.itoa x.n else []) ++ ((if 0 ≤ mostI x.k.toNat then 32 :: Lib.itoa x.i else []) ++ (if txtB x.k.toNat then 32 :: x.t else []))))
def str (x : Nm) : List UInt8 := if chk x = 0 then strL x else []
theorem kword_sp : ∀ k, k ≤ 20 → ∀ c ∈ kword k, sp c = false := by decide
theorem kOf_kword (k : Nat) (h1 : 1 ≤ k) (h2 : k ≤ 20) : kOf (kword k) = k := by
  have h : ∀ k, k ≤ 20 → 1 ≤ k → kOf (kword k) = k := by decide
  exact h k h2 h1
theorem valFrom_ge : ∀ (l : List UInt8) (a : Nat), a ≤ valFrom a l
  | [], a => Nat.le_refl _
  | c :: r, a => by
    rw [valFrom_cons]
    exact Nat.le_trans (by omega) (valFrom_ge r _)
theorem parseUint_digits : ∀ (l : List UInt8) (a : Nat), (∀ c ∈ l, isD c) → valFrom a l < 1844674407370955162 → Lib.parseUint10 a l = .ok (valFrom a l)
  | [], a, _, _ => rfl
  | c :: r, a, hd, hv => by
    have hc := hd c (List.mem_cons_self ..)
    rw [valFrom_cons] at hv ⊢
    have hge := valFrom_ge r (a * 10 + (c.toNat - 48))
    have hc' : 48 ≤ c.toNat ∧ c.toNat ≤ 57 := hc
    rw [Lib.parseUint10, if_pos hc', if_neg (by omega), if_neg (by omega)]
    exact parseUint_digits r _ (fun c h => hd c (List.mem_cons_of_mem _ h)) hv
theorem numFrom_digits : ∀ (l : List UInt8) (a : Nat), (∀ c ∈ l, isD c) → valFrom a l ≤ 1073741824 → numFrom a l = (valFrom a l : Nat)
  | [], a, _, _ => rfl
  | c :: r, a, hd, hv => by
    have hc := hd c (List.mem_cons_self ..)
    rw [valFrom_cons] at hv ⊢
    have hge := valFrom_ge r (a * 10 + (c.toNat - 48))
    have hc' : 48 ≤ c.toNat ∧ c.toNat ≤ 57 := hc
    rw [numFrom, if_neg (by omega), Nat.mul_comm 10 a]
    exact numFrom_digits r _ (fun c h => hd c (List.mem_cons_of_mem _ h)) hv
theorem itoa_nn {n : Int} (h : 0 ≤ n) : Lib.itoa n = Lib.decDigits n.toNat := by
  unfold Lib.itoa
  rw [if_neg (by omega)]
theorem itoa_isD {n : Int} (h : 0 ≤ n) : ∀ c ∈ Lib.itoa n, isD c := by
  rw [itoa_nn h]
  exact decDigits_isD _ _ (Nat.le_refl _)
theorem numR_itoa {n : Int} (h : 0 ≤ n) (h2 : n ≤ 1073741824) : numR (Lib.itoa n) = n := by
  rw [itoa_nn h]
  have hv : valFrom 0 (Lib.decDigits n.toNat) = n.toNat := val_dec _ _ (Nat.le_refl _)
  unfold numR
  rw [numFrom_digits _ _ (decDigits_isD _ _ (Nat.le_refl _)) (by rw [hv]; omega), hv]
  omega
theorem atoi_digits {l : List UInt8} (hne : l ≠ []) (hd : ∀ c ∈ l, isD c) (hv : val l ≤ 1073741824) : Lib.atoiAll l = .ok (val l : Nat) := by
  cases l with
  | nil => exact absurd rfl hne
  | cons c r =>
    have hc : 48 ≤ c.toNat ∧ c.toNat ≤ 57 := hd c (List.mem_cons_self ..)
    have hp : Lib.parseMag (c :: r) = .ok (val (c :: r)) := by
      unfold Lib.parseMag
      rw [if_neg (by simp)]
      exact parseUint_digits _ _ hd (Nat.lt_of_le_of_lt hv (by decide))
    unfold Lib.atoiAll
    have h1 : ¬ (c.toNat = 43 ∨ c.toNat = 45) := by omega
    have h2 : ¬ c.toNat = 45 := by omega
    have h3 : ¬ 9223372036854775808 ≤ val (c :: r) := fun g => absurd (Nat.le_trans g hv) (by decide)
    have h43 : ¬ c.toNat = 43 := by omega
    simp only [h43, h2, or_self, if_false, not_false_eq_true, true_and, false_and]
    rw [hp]
    simp only [if_neg h3]
theorem atoiN_itoa {n : Int} (h : 0 ≤ n) (h2 : n ≤ 1073741824) : atoiN (Lib.itoa n) = n := by
  rw [itoa_nn h]
  have hv : val (Lib.decDigits n.toNat) = n.toNat := val_dec _ _ (Nat.le_refl _)
  unfold atoiN
  rw [atoi_digits (decDigits_ne _) (decDigits_isD _ _ (Nat.le_refl _)) (by rw [hv]; omega), hv]
  simp
  omega
theorem textL_chars : ∀ (l : List Int), (∀ n ∈ l, okOrd n) → ∀ c ∈ textL l, isD c ∨ c = 46
  | [], _, c, hc => by rw [textL_nil] at hc; cases hc
  | n :: l, h, c, hc => by
    rw [textL_cons] at hc
    rcases List.mem_append.1 hc with hc | hc
    · exact .inl (itoa_isD (by have := (h n (List.mem_cons_self ..)).1; omega) c hc)
    · split at hc
      · cases hc
      · rcases List.mem_cons.1 hc with hc | hc
        · exact .inr hc
        · exact textL_chars l (fun n hn => h n (List.mem_cons_of_mem _ hn)) c hc
theorem okLin_chars {o : List UInt8} (h : okLin o = true) : ∀ c ∈ o, isD c ∨ c = 46 := by
  have h' : (parseL o).2.2 = 0 := by simpa [okLin] using h
  obtain ⟨h1, h2, _⟩ := text_parse h'
  rw [← h2]
  exact textL_chars _ h1.2
theorem okLin_48 : okLin [48] = false := by decide
theorem isD_sh {c : UInt8} (h : isD c ∨ c = 46) : sh c = false := by
  unfold sh
  rcases h with h | h
  · have h' : 48 ≤ c.toNat ∧ c.toNat ≤ 57 := h
    have h1 : c ≠ 32 := by rintro rfl; exact absurd h'.1 (by decide)
    have h2 : c ≠ 35 := by rintro rfl; exact absurd h'.1 (by decide)
    simp [h1, h2]
  · subst h; decide
theorem sh_sp {c : UInt8} (h : sh c = false) : sp c = false := by
  unfold sh at h
  unfold sp
  simp only [Bool.or_eq_false_iff] at h
  exact h.1
structure Good (x : Nm) : Prop where
  k1 : 1 ≤ x.k.toNat
  k2 : x.k.toNat ≤ 20
  kk : x.k = (x.k.toNat : Int)
  o1 : ownB x.k.toNat = false → x.o = []
  o2 : ownB x.k.toNat = true → okLin x.o = true
  n1 : numB x.k.toNat = false → x.n = 0
  n2 : 0 ≤ x.n
  n3 : x.n ≤ 1073741824
  i1 : mostI x.k.toNat < 0 → x.i = 0
  i2 : 0 ≤ x.i
  i3 : x.i ≤ 1073741824
  t1 : txtB x.k.toNat = false → x.t = []
  t2 : txtB x.k.toNat = true → wordL x.t = true
theorem mostI_le (k : Nat) : mostI k ≤ 1073741824 := by unfold mostI; split <;> (try split) <;> decide
theorem good_of {x : Nm} (h : chk x = 0) : Good x := by
  unfold chk at h
  by_cases c1 : x.k < 1 ∨ 20 < x.k
  · rw [if_pos c1] at h; cases h
  rw [if_neg c1] at h
  by_cases c2 : (ownB x.k.toNat = false ∧ x.o ≠ []) ∨ (numB x.k.toNat = false ∧ x.n ≠ 0) ∨ (mostI x.k.toNat < 0 ∧ x.i ≠ 0) ∨ (txtB x.k.toNat = false ∧ x.t ≠ [])
  · rw [if_pos c2] at h; cases h
  rw [if_neg c2] at h
  by_cases c3 : ownB x.k.toNat = true ∧ okLin x.o = false
  · rw [if_pos c3] at h; cases h
  rw [if_neg c3] at h
  by_cases c4 : x.n < 0 ∨ 1073741824 < x.n ∨ x.i < 0 ∨ max (mostI x.k.toNat) 0 < x.i
  · rw [if_pos c4] at h; cases h
  rw [if_neg c4] at h
  by_cases c5 : txtB x.k.toNat = true ∧ wordL x.t = false
  · rw [if_pos c5] at h; cases h
  have hm := mostI_le x.k.toNat
  refine ⟨by omega, by omega, by omega, fun e => ?_, fun e => ?_, fun e => ?_, by omega, by omega, fun e => ?_, by omega, by omega, fun e => ?_, fun e => ?_⟩
  · exact Classical.byContradiction fun g => c2 (.inl ⟨e, g⟩)
  · cases g : okLin x.o with
    | true => rfl
    | false => exact absurd ⟨e, g⟩ c3
  · exact Classical.byContradiction fun g => c2 (.inr (.inl ⟨e, g⟩))
  · exact Classical.byContradiction fun g => c2 (.inr (.inr (.inl ⟨e, g⟩)))
  · exact Classical.byContradiction fun g => c2 (.inr (.inr (.inr ⟨e, g⟩)))
  · cases g : wordL x.t with
    | true => rfl
    | false => exact absurd ⟨e, g⟩ c5
theorem itoa_sp {n : Int} (h : 0 ≤ n) : ∀ c ∈ Lib.itoa n, sp c = false := fun c hc => sh_sp (isD_sh (.inl (itoa_isD h c hc)))
def owr (o : List UInt8) : List UInt8 := if o = [] then [48] else o
theorem owr_sh {o : List UInt8} (h : okLin o = true) : ∀ c ∈ owr o, sh c = false := by
  unfold owr
  split
  · decide
  · exact fun c hc => isD_sh (okLin_chars h c hc)
theorem owr_of {o : List UInt8} (h : okLin o = true) : ownerOf (owr o) = o := by
  unfold owr ownerOf
  split
  · rename_i e
    rw [if_pos rfl, e]
  · rw [if_neg]
    rintro rfl
    rw [okLin_48] at h
    cases h
theorem guess_tail (b1 b2 b4 b3 : Bool) (A N I T : List UInt8) (hA : ∀ c ∈ A, sh c = false) (hN : ∀ c ∈ N, sp c = false) (hI : ∀ c ∈ I, sp c = false) (r0 : List UInt8)
    (h0 : r0 = ((if b1 then 32 :: A else []) ++ ((if b2 then (if b1 then 35 else 32) :: N else []) ++ ((if b3 then 32 :: I else []) ++ (if b4 then 32 :: T else [])))).tail) :
    let r1 := if b1 then (if r0.any sh then past sh r0 else r0) else r0
    let r2 := if b2 then past sp r1 else r1
    let r3 := if b3 then past sp r2 else r2
    let q1 := if b1 then past sh r0 else r0
    let q2 := if b2 then past sp q1 else q1
    let q3 := if b3 then past sp q2 else q2
    (b1 = true → (if r0.any sh then upto sh r0 else r0) = A ∧ upto sh r0 = A) ∧ (b2 = true → upto sp r1 = N ∧ upto sp q1 = N) ∧ (b3 = true → upto sp r2 = I ∧ upto sp q2 = I) ∧ (b4 = true → r3 = T ∧ q3 = T) := by
  have s32 : sp 32 = true := rfl
  have h32 : sh 32 = true := rfl
  have h35 : sh 35 = true := rfl
  have hA2 : A.any sh = false := by
    rw [List.any_eq_false]
    intro x hx
    simp [hA x hx]
  have hN2 : ∀ c ∈ N, sp c = false := hN
  subst h0
  cases b1 <;> cases b2 <;> cases b3 <;> cases b4 <;>
    simp [upto_hit _ _ _ hA, past_hit _ _ _ hA, upto_hit _ _ _ hN, past_hit _ _ _ hN, upto_hit _ _ _ hI, past_hit _ _ _ hI, upto_all _ hA, past_all _ hA, upto_all _ hN, past_all _ hN, upto_all _ hI, past_all _ hI, s32, h32, h35, hA2, List.any_append]
theorem tail_sp {w T : List UInt8} (hw : ∀ c ∈ w, sp c = false) (hT : T = [] ∨ ∃ r, T = 32 :: r) : upto sp (w ++ T) = w ∧ past sp (w ++ T) = T.tail := by
  have s32 : sp 32 = true := rfl
  rcases hT with rfl | ⟨r, rfl⟩
  · rw [List.append_nil, upto_all _ hw, past_all _ hw]
    exact ⟨rfl, rfl⟩
  · rw [upto_hit _ _ _ hw s32, past_hit _ _ _ hw s32]
    exact ⟨rfl, rfl⟩
theorem tail_form (b1 b2 b3 b4 : Bool) (A N I T : List UInt8) : let Z := (if b1 then 32 :: A else []) ++ ((if b2 then (if b1 then 35 else 32) :: N else []) ++ ((if b3 then 32 :: I else []) ++ (if b4 then 32 :: T else [])))
    Z = [] ∨ ∃ r : List UInt8, Z = 32 :: r := by
  cases b1 <;> cases b2 <;> cases b3 <;> cases b4 <;> simp
theorem guess_str {x : Nm} (hx : chk x = 0) : guessO (strL x) = x ∧ guessR (strL x) = x := by
  have g := good_of hx
  obtain ⟨k, o, n, i, t⟩ := x
  obtain ⟨k1, k2, kk, o1, o2, n1, n2, n3, i1, i2, i3, t1, t2⟩ := g
  simp only at k1 k2 kk o1 o2 n1 n2 n3 i1 i2 i3 t1 t2
  obtain ⟨K, rfl⟩ : ∃ K : Nat, k = (K : Int) := ⟨_, kk⟩
  simp only [Int.toNat_natCast] at k1 k2 o1 o2 n1 i1 t1 t2
  have hK0 : ¬ K = 0 := by omega
  have hkk := kOf_kword K k1 k2
  have hks := kword_sp K k2
  obtain ⟨b3, hb3⟩ : ∃ b3, b3 = decide (0 ≤ mostI K) := ⟨_, rfl⟩
  have e3 : (0 ≤ mostI K) = (b3 = true) := by rw [hb3]; simp
  have e3' : ¬ b3 = true → mostI K < 0 := by rw [hb3]; simp
  have hform := tail_form (ownB K) (numB K) b3 (txtB K) (owr o) (Lib.itoa n) (Lib.itoa i) t
  obtain ⟨f1, f2⟩ := tail_sp hks hform
  have hg := fun hA => guess_tail (ownB K) (numB K) (txtB K) b3 (owr o) (Lib.itoa n) (Lib.itoa i) t hA (itoa_sp n2) (itoa_sp i2) _ rfl
  have fold_owr : (if o = [] then [48] else o) = owr o := rfl
  unfold strL guessO guessR
  simp only [Int.toNat_natCast, fold_owr, e3]
  rw [f1, f2, hkk]
  unfold guessOk guessRk
  simp only [hK0, false_or, e3]
  by_cases hb1 : ownB K = true
  · obtain ⟨g1, g2, g3, g4⟩ := hg (owr_sh (o2 hb1))
    obtain ⟨g1, g1'⟩ := g1 hb1
    constructor
    · congr 1
      · rw [if_pos hb1, g1, owr_of (o2 hb1)]
      · by_cases h : numB K = true
        · rw [if_pos h, (g2 h).1, atoiN_itoa n2 n3]
        · rw [if_neg h, n1 (by simpa using h)]
      · by_cases h : b3 = true
        · rw [if_pos h, (g3 h).1, atoiN_itoa i2 i3]
        · rw [if_neg h, i1 (e3' h)]
      · by_cases h : txtB K = true
        · rw [if_pos h, (g4 h).1]
        · rw [if_neg h, t1 (by simpa using h)]
    · congr 1
      · rw [if_pos hb1, g1', owr_of (o2 hb1)]
      · by_cases h : numB K = true
        · rw [if_pos h, (g2 h).2, numR_itoa n2 n3]
        · rw [if_neg h, n1 (by simpa using h)]
      · by_cases h : b3 = true
        · rw [if_pos h, (g3 h).2, numR_itoa i2 i3]
        · rw [if_neg h, i1 (e3' h)]
      · by_cases h : txtB K = true
        · rw [if_pos h, (g4 h).2]
        · rw [if_neg h, t1 (by simpa using h)]
  · have hb0 : ownB K = false := by simpa using hb1
    obtain rfl : o = [] := o1 hb0
    obtain ⟨g1, g2, g3, g4⟩ := hg (by unfold owr; rw [if_pos rfl]; decide)
    constructor
    · congr 1
      · rw [if_neg hb1]
      · by_cases h : numB K = true
        · rw [if_pos h, (g2 h).1, atoiN_itoa n2 n3]
        · rw [if_neg h, n1 (by simpa using h)]
      · by_cases h : b3 = true
        · rw [if_pos h, (g3 h).1, atoiN_itoa i2 i3]
        · rw [if_neg h, i1 (e3' h)]
      · by_cases h : txtB K = true
        · rw [if_pos h, (g4 h).1]
        · rw [if_neg h, t1 (by simpa using h)]
    · congr 1
      · rw [if_neg hb1]
      · by_cases h : numB K = true
        · rw [if_pos h, (g2 h).2, numR_itoa n2 n3]
        · rw [if_neg h, n1 (by simpa using h)]
      · by_cases h : b3 = true
        · rw [if_pos h, (g3 h).2, numR_itoa i2 i3]
        · rw [if_neg h, i1 (e3' h)]
      · by_cases h : txtB K = true
        · rw [if_pos h, (g4 h).2]
        · rw [if_neg h, t1 (by simpa using h)]
end Go.Proofs.YtkdfilpinlebbaaDoor.G
