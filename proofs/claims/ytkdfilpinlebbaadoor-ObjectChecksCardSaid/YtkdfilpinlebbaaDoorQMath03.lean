/- This session's texts for the claim, joined and shortened by this session's own program pack.py: what the claim does not need is struck. Part: Math03. -/
import Derived.Test.YtkdfilpinlebbaaDoorQGSpec
import Derived.Lib.ItoaNum
set_option linter.unusedVariables false
set_option linter.unusedSimpArgs false
namespace Go.Proofs.YtkdfilpinlebbaaDoor.G
def isD (c : UInt8) : Prop := 48 ≤ c.toNat ∧ c.toNat ≤ 57
theorem val_snoc (l : List UInt8) (c : UInt8) : val (l ++ [c]) = val l * 10 + (c.toNat - 48) := by
  unfold val valFrom
  rw [List.foldl_append, List.foldl_cons, List.foldl_nil]
theorem val_one (c : UInt8) : val [c] = c.toNat - 48 := by
  unfold val valFrom
  rw [List.foldl_cons, List.foldl_nil]
  omega
theorem ofNat_digit (c : UInt8) (h : isD c) : UInt8.ofNat (48 + (c.toNat - 48)) = c := by
  have : 48 + (c.toNat - 48) = c.toNat := by have := h.1; omega
  rw [this]
  exact UInt8.ofNat_toNat
theorem snoc_cases {α : Type} (l : List α) : l = [] ∨ ∃ i x, l = i ++ [x] := by
  rcases List.eq_nil_or_concat l with h | ⟨i, x, h⟩
  · exact .inl h
  · exact .inr ⟨i, x, by simpa using h⟩
theorem val_pos : ∀ (n : Nat) (l : List UInt8), l.length = n → l ≠ [] → (∀ c ∈ l, isD c) → (∀ c, l.head? = some c → c.toNat ≠ 48) → 1 ≤ val l := by
  intro n
  induction n with
  | zero => intro l hl hne; exact absurd (List.length_eq_zero_iff.1 hl) hne
  | succ n ih =>
    intro l hl hne hd hh
    rcases snoc_cases l with h | ⟨i, x, rfl⟩
    · exact absurd h hne
    · by_cases hi : i = []
      · subst hi
        rw [List.nil_append, val_one]
        have h1 := hd x (by simp)
        have h2 := hh x (by simp)
        have := h1.1
        omega
      · rw [val_snoc]
        have := ih i (by simpa using hl) hi (fun c hc => hd c (by simp [hc])) (fun c hc => hh c (by
          cases i with
          | nil => exact absurd rfl hi
          | cons y r => simpa using hc))
        omega
theorem val_lt : ∀ (n : Nat) (l : List UInt8), l.length = n → (∀ c ∈ l, isD c) → val l < 10 ^ n := by
  intro n
  induction n with
  | zero => intro l hl _; rw [List.length_eq_zero_iff.1 hl]; decide
  | succ n ih =>
    intro l hl hd
    rcases snoc_cases l with h | ⟨i, x, rfl⟩
    · rw [h] at hl; cases hl
    · rw [val_snoc]
      have h1 := ih i (by simpa using hl) (fun c hc => hd c (by simp [hc]))
      have h2 := hd x (by simp)
      have := h2.2
      rw [Nat.pow_succ]
      omega
theorem dec_val : ∀ (n : Nat) (l : List UInt8), l.length = n → l ≠ [] → (∀ c ∈ l, isD c) → (∀ c, l.head? = some c → c.toNat ≠ 48) → Lib.decDigits (val l) = l := by
  intro n
  induction n with
  | zero => intro l hl hne; exact absurd (List.length_eq_zero_iff.1 hl) hne
  | succ n ih =>
    intro l hl hne hd hh
    rcases snoc_cases l with h | ⟨i, x, rfl⟩
    · exact absurd h hne
    · have hx := hd x (by simp)
      by_cases hi : i = []
      · subst hi
        rw [List.nil_append, val_one, Lib.decDigits, dif_pos (by have := hx.1; have := hx.2; omega), ofNat_digit x hx]
      · have hi' : ∀ c, i.head? = some c → c.toNat ≠ 48 := fun c hc => hh c (by
          cases i with
          | nil => exact absurd rfl hi
          | cons y r => simpa using hc)
        have hp := val_pos n i (by simpa using hl) hi (fun c hc => hd c (by simp [hc])) hi'
        have h1 := hx.1
        have h2 := hx.2
        rw [val_snoc, Lib.decDigits, dif_neg (by omega)]
        have e1 : (val i * 10 + (x.toNat - 48)) / 10 = val i := by omega
        have e2 : (val i * 10 + (x.toNat - 48)) % 10 = x.toNat - 48 := by omega
        rw [e1, e2, ih i (by simpa using hl) hi (fun c hc => hd c (by simp [hc])) hi', ofNat_digit x hx]
theorem toNat_dig (d : Nat) (h : d < 10) : (UInt8.ofNat (48 + d)).toNat = 48 + d := by
  rw [UInt8.toNat_ofNat']
  omega
theorem decDigits_isD : ∀ (n u : Nat), u ≤ n → ∀ c ∈ Lib.decDigits u, isD c := by
  intro n
  induction n with
  | zero =>
    intro u hu c hc
    rw [Lib.decDigits, dif_pos (by omega)] at hc
    rw [List.mem_singleton.1 hc]
    unfold isD
    rw [toNat_dig u (by omega)]
    omega
  | succ n ih =>
    intro u hu c hc
    rw [Lib.decDigits] at hc
    split at hc
    · rw [List.mem_singleton.1 hc]
      unfold isD
      rw [toNat_dig u (by omega)]
      omega
    · rcases List.mem_append.1 hc with h | h
      · exact ih (u / 10) (by omega) c h
      · rw [List.mem_singleton.1 h]
        unfold isD
        rw [toNat_dig _ (by omega)]
        omega
theorem val_dec : ∀ (n u : Nat), u ≤ n → val (Lib.decDigits u) = u := by
  intro n
  induction n with
  | zero =>
    intro u hu
    rw [Lib.decDigits, dif_pos (by omega), val_one, toNat_dig u (by omega)]
    omega
  | succ n ih =>
    intro u hu
    rw [Lib.decDigits]
    split
    · rw [val_one, toNat_dig u (by omega)]
      omega
    · rw [val_snoc, ih (u / 10) (by omega), toNat_dig _ (by omega)]
      omega
theorem decDigits_ne (u : Nat) : Lib.decDigits u ≠ [] := by
  rw [Lib.decDigits]
  split <;> simp
def okOrd (n : Int) : Prop := 1 ≤ n ∧ n ≤ 999999
def okL (l : List Int) : Prop := l.length ≤ 8 ∧ ∀ n ∈ l, okOrd n
def textL (l : List Int) : List UInt8 := Lib.join (l.map Lib.itoa) [46]
theorem itoa_ord {n : Int} (h : okOrd n) : Lib.itoa n = Lib.decDigits n.toNat := by
  unfold Lib.itoa
  rw [if_neg (by have := h.1; omega)]
theorem textL_nil : textL [] = [] := rfl
theorem textL_cons (n : Int) (l : List Int) : textL (n :: l) = Lib.itoa n ++ (if l = [] then [] else 46 :: textL l) := by
  unfold textL
  rw [List.map_cons, Lib.join_cons]
  congr 1
  cases l with
  | nil => rfl
  | cons m r =>
    rw [if_neg (by simp), List.map_cons, Lib.join_cons]
    simp [Lib.joinTail]
theorem coll_zero : ∀ (xs : List (Int × Int × Int)) (out : List Int), (coll out xs).2.2 = 0 → (∀ p ∈ xs, p.2.2 = 0)
  | [], _, _ => by simp
  | p :: ps, out, h => by
    unfold coll at h
    split at h
    · intro q hq
      rcases List.mem_cons.1 hq with rfl | hq
      · assumption
      · exact coll_zero ps _ h q hq
    · rename_i hp
      exact absurd h hp
theorem text_pp : ∀ (m at_ : Nat) (t : List UInt8), (∀ p ∈ pp m at_ t, p.2.2 = 0) →
    t ≠ [] ∧ (pp m at_ t) ≠ [] ∧ ((pp m at_ t).map (·.1)).length ≤ m ∧ (∀ n ∈ (pp m at_ t).map (·.1), okOrd n) ∧ textL ((pp m at_ t).map (·.1)) = t := by
  intro m
  induction m with
  | zero =>
    intro at_ t h
    unfold pp at h
    exact absurd (h _ (List.mem_singleton.2 rfl)) (by simp)
  | succ m ih =>
    intro at_ t h
    cases t with
    | nil =>
      unfold pp at h
      exact absurd (h _ (List.mem_singleton.2 rfl)) (by simp)
    | cons c r =>
      unfold pp at h ⊢
      by_cases hd0 : digs (c :: r) = 0
      · rw [if_pos hd0] at h
        exact absurd (h _ (List.mem_singleton.2 rfl)) (by simp)
      rw [if_neg hd0] at h ⊢
      by_cases hc : c.toNat = 48
      · rw [if_pos hc] at h
        exact absurd (h _ (List.mem_singleton.2 rfl)) (by simp)
      rw [if_neg hc] at h ⊢
      by_cases h6 : 6 < digs (c :: r)
      · rw [if_pos h6] at h
        exact absurd (h _ (List.mem_singleton.2 rfl)) (by simp)
      rw [if_neg h6] at h ⊢
      obtain ⟨d, hd⟩ : ∃ d, digs (c :: r) = d := ⟨_, rfl⟩
      have hall := take_digs_all (c :: r)
      have hle := digs_le (c :: r)
      rw [hd] at h hd0 h6 hall hle ⊢
      have htl : ((c :: r).take d).length = d := by rw [List.length_take]; omega
      have hne : (c :: r).take d ≠ [] := by intro e; rw [e] at htl; exact hd0 htl.symm
      have hhead : ∀ x, ((c :: r).take d).head? = some x → x.toNat ≠ 48 := by
        intro x hx
        obtain ⟨d', rfl⟩ : ∃ d', d = d' + 1 := ⟨d - 1, by omega⟩
        simp at hx
        rw [← hx]
        exact hc
      have hdv := dec_val d _ htl hne hall hhead
      have hpos := val_pos d _ htl hne hall hhead
      have hlt := val_lt d _ htl hall
      have hlt6 : val ((c :: r).take d) < 10 ^ 6 := Nat.lt_of_lt_of_le hlt (Nat.pow_le_pow_right (by decide) (by omega))
      have hord : okOrd ((val ((c :: r).take d) : Nat) : Int) := ⟨by omega, by omega⟩
      have hit : Lib.itoa ((val ((c :: r).take d) : Nat) : Int) = (c :: r).take d := by
        rw [itoa_ord hord]
        simpa using hdv
      have hsplit := List.take_append_drop d (c :: r)
      cases hdr : (c :: r).drop d with
      | nil =>
        rw [hdr, List.append_nil] at hsplit
        simp only [List.map_cons, List.map_nil]
        refine ⟨by simp, by simp, by simp, ?_, ?_⟩
        · intro n hn
          simp at hn
          rw [hn]
          exact hord
        · rw [textL_cons, if_pos rfl, hit, List.append_nil, hsplit]
      | cons x y =>
        rw [hdr] at h hsplit
        simp only at h ⊢
        by_cases hx : x.toNat = 46
        · rw [if_pos hx] at h ⊢
          obtain ⟨g1, g2, g3, g4, g5⟩ := ih (at_ + d + 1) y (fun p hp => h p (List.mem_cons_of_mem _ hp))
          simp only [List.map_cons]
          refine ⟨by simp, by simp, by simp only [List.length_cons]; omega, ?_, ?_⟩
          · intro n hn
            rcases List.mem_cons.1 hn with rfl | hn
            · exact hord
            · exact g4 n hn
          · have hx' : x = 46 := by
              have h46 : (46 : UInt8).toNat = 46 := rfl
              exact UInt8.toNat_inj.1 (by rw [hx, h46])
            rw [textL_cons, if_neg (by simpa using g2), hit, g5, ← hx', hsplit]
        · rw [if_neg hx] at h
          exact absurd (h (0, ((at_ + d : Nat) : Int), 6) (by simp)) (by simp)
theorem text_parse {s : List UInt8} (h : (parseL s).2.2 = 0) : okL (parseL s).1 ∧ textL (parseL s).1 = s ∧ (parseL s).2.1 = 0 := by
  unfold parseL at h ⊢
  split
  · rename_i e
    subst e
    exact ⟨⟨by simp, by simp⟩, rfl, rfl⟩
  · rename_i hne
    rw [if_neg hne] at h
    have hz := coll_zero _ _ h
    rw [coll_all _ hz]
    obtain ⟨_, _, h3, h4, h5⟩ := text_pp 8 0 s hz
    exact ⟨⟨h3, h4⟩, h5, rfl⟩
end Go.Proofs.YtkdfilpinlebbaaDoor.G
