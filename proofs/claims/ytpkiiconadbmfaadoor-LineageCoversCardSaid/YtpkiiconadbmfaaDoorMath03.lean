/- Names of processes as lists of numbers and as texts: plain facts on lists, without a program. -/
import Derived.Test.YtpkiiconadbmfaaDoorGSpec
import Derived.Lib.ItoaNum
set_option linter.unusedVariables false
set_option linter.unusedSimpArgs false
namespace Go.Proofs.YtpkiiconadbmfaaDoor.G

/-! ### Decimal digits -/
def isD (c : UInt8) : Prop := 48 ≤ c.toNat ∧ c.toNat ≤ 57

theorem val_snoc (l : List UInt8) (c : UInt8) : val (l ++ [c]) = val l * 10 + (c.toNat - 48) := by
  unfold val valFrom
  rw [List.foldl_append, List.foldl_cons, List.foldl_nil]
theorem val_one (c : UInt8) : val [c] = c.toNat - 48 := by
  unfold val valFrom
  rw [List.foldl_cons, List.foldl_nil]
  omega

theorem ofNat_digit (c : UInt8) (h : isD c) : UInt8.ofNat (48 + (c.toNat - 48)) = c := by
  have : 48 + (c.toNat - 48) = c.toNat := by have := h.1; omega
  rw [this]
  exact UInt8.ofNat_toNat

theorem snoc_cases {α : Type} (l : List α) : l = [] ∨ ∃ i x, l = i ++ [x] := by
  rcases List.eq_nil_or_concat l with h | ⟨i, x, h⟩
  · exact .inl h
  · exact .inr ⟨i, x, by simpa using h⟩

theorem val_pos : ∀ (n : Nat) (l : List UInt8), l.length = n → l ≠ [] → (∀ c ∈ l, isD c) → (∀ c, l.head? = some c → c.toNat ≠ 48) → 1 ≤ val l := by
  intro n
  induction n with
  | zero => intro l hl hne; exact absurd (List.length_eq_zero_iff.1 hl) hne
  | succ n ih =>
    intro l hl hne hd hh
    rcases snoc_cases l with h | ⟨i, x, rfl⟩
    · exact absurd h hne
    · by_cases hi : i = []
      · subst hi
        rw [List.nil_append, val_one]
        have h1 := hd x (by simp)
        have h2 := hh x (by simp)
        have := h1.1
        omega
      · rw [val_snoc]
        have := ih i (by simpa using hl) hi (fun c hc => hd c (by simp [hc])) (fun c hc => hh c (by
          cases i with
          | nil => exact absurd rfl hi
          | cons y r => simpa using hc))
        omega

theorem val_lt : ∀ (n : Nat) (l : List UInt8), l.length = n → (∀ c ∈ l, isD c) → val l < 10 ^ n := by
  intro n
  induction n with
  | zero => intro l hl _; rw [List.length_eq_zero_iff.1 hl]; decide
  | succ n ih =>
    intro l hl hd
    rcases snoc_cases l with h | ⟨i, x, rfl⟩
    · rw [h] at hl; cases hl
    · rw [val_snoc]
      have h1 := ih i (by simpa using hl) (fun c hc => hd c (by simp [hc]))
      have h2 := hd x (by simp)
      have := h2.2
      rw [Nat.pow_succ]
      omega

theorem dec_val : ∀ (n : Nat) (l : List UInt8), l.length = n → l ≠ [] → (∀ c ∈ l, isD c) → (∀ c, l.head? = some c → c.toNat ≠ 48) → Lib.decDigits (val l) = l := by
  intro n
  induction n with
  | zero => intro l hl hne; exact absurd (List.length_eq_zero_iff.1 hl) hne
  | succ n ih =>
    intro l hl hne hd hh
    rcases snoc_cases l with h | ⟨i, x, rfl⟩
    · exact absurd h hne
    · have hx := hd x (by simp)
      by_cases hi : i = []
      · subst hi
        rw [List.nil_append, val_one, Lib.decDigits, dif_pos (by have := hx.1; have := hx.2; omega), ofNat_digit x hx]
      · have hi' : ∀ c, i.head? = some c → c.toNat ≠ 48 := fun c hc => hh c (by
          cases i with
          | nil => exact absurd rfl hi
          | cons y r => simpa using hc)
        have hp := val_pos n i (by simpa using hl) hi (fun c hc => hd c (by simp [hc])) hi'
        have h1 := hx.1
        have h2 := hx.2
        rw [val_snoc, Lib.decDigits, dif_neg (by omega)]
        have e1 : (val i * 10 + (x.toNat - 48)) / 10 = val i := by omega
        have e2 : (val i * 10 + (x.toNat - 48)) % 10 = x.toNat - 48 := by omega
        rw [e1, e2, ih i (by simpa using hl) hi (fun c hc => hd c (by simp [hc])) hi', ofNat_digit x hx]

theorem toNat_dig (d : Nat) (h : d < 10) : (UInt8.ofNat (48 + d)).toNat = 48 + d := by
  rw [UInt8.toNat_ofNat']
  omega

theorem decDigits_isD : ∀ (n u : Nat), u ≤ n → ∀ c ∈ Lib.decDigits u, isD c := by
  intro n
  induction n with
  | zero =>
    intro u hu c hc
    rw [Lib.decDigits, dif_pos (by omega)] at hc
    rw [List.mem_singleton.1 hc]
    unfold isD
    rw [toNat_dig u (by omega)]
    omega
  | succ n ih =>
    intro u hu c hc
    rw [Lib.decDigits] at hc
    split at hc
    · rw [List.mem_singleton.1 hc]
      unfold isD
      rw [toNat_dig u (by omega)]
      omega
    · rcases List.mem_append.1 hc with h | h
      · exact ih (u / 10) (by omega) c h
      · rw [List.mem_singleton.1 h]
        unfold isD
        rw [toNat_dig _ (by omega)]
        omega

theorem val_dec : ∀ (n u : Nat), u ≤ n → val (Lib.decDigits u) = u := by
  intro n
  induction n with
  | zero =>
    intro u hu
    rw [Lib.decDigits, dif_pos (by omega), val_one, toNat_dig u (by omega)]
    omega
  | succ n ih =>
    intro u hu
    rw [Lib.decDigits]
    split
    · rw [val_one, toNat_dig u (by omega)]
      omega
    · rw [val_snoc, ih (u / 10) (by omega), toNat_dig _ (by omega)]
      omega

theorem decDigits_ne (u : Nat) : Lib.decDigits u ≠ [] := by
  rw [Lib.decDigits]
  split <;> simp

theorem decDigits_head : ∀ (n u : Nat), u ≤ n → 1 ≤ u → ∀ c, (Lib.decDigits u).head? = some c → c.toNat ≠ 48 := by
  intro n
  induction n with
  | zero => intro u hu h1; omega
  | succ n ih =>
    intro u hu h1 c hc
    rw [Lib.decDigits] at hc
    split at hc
    · have hc' : UInt8.ofNat (48 + u) = c := by simpa only [List.head?_cons, Option.some.injEq] using hc
      rw [← hc', toNat_dig u (by omega)]
      omega
    · have hne := decDigits_ne (u / 10)
      have : (Lib.decDigits (u / 10)).head? = some c := by
        cases hd : Lib.decDigits (u / 10) with
        | nil => exact absurd hd hne
        | cons y r => rw [hd] at hc; simpa using hc
      exact ih (u / 10) (by omega) (by omega) c this

theorem decDigits_len : ∀ (k u : Nat), u < 10 ^ (k + 1) → (Lib.decDigits u).length ≤ k + 1 := by
  intro k
  induction k with
  | zero =>
    intro u hu
    rw [Lib.decDigits, dif_pos (by simpa using hu)]
    simp
  | succ k ih =>
    intro u hu
    rw [Lib.decDigits]
    split
    · simp
    · have : u / 10 < 10 ^ (k + 1) := by
        rw [Nat.pow_succ] at hu
        omega
      have := ih (u / 10) this
      simp
      omega

/-! ### Names -/
def okOrd (n : Int) : Prop := 1 ≤ n ∧ n ≤ 999999
def okL (l : List Int) : Prop := l.length ≤ 8 ∧ ∀ n ∈ l, okOrd n
def itoaL (n : Int) : List UInt8 := Lib.itoa n
def textL (l : List Int) : List UInt8 := Lib.join (l.map Lib.itoa) [46]

theorem itoa_ord {n : Int} (h : okOrd n) : Lib.itoa n = Lib.decDigits n.toNat := by
  unfold Lib.itoa
  rw [if_neg (by have := h.1; omega)]

theorem textL_nil : textL [] = [] := rfl
theorem textL_cons (n : Int) (l : List Int) : textL (n :: l) = Lib.itoa n ++ (if l = [] then [] else 46 :: textL l) := by
  unfold textL
  rw [List.map_cons, Lib.join_cons]
  congr 1
  cases l with
  | nil => rfl
  | cons m r =>
    rw [if_neg (by simp), List.map_cons, Lib.join_cons]
    simp [Lib.joinTail]

theorem digs_append_all (a b : List UInt8) (h : ∀ c ∈ a, isD c) : digs (a ++ b) = a.length + digs b := by
  induction a with
  | nil => simp
  | cons c r ih =>
    have hc := h c (by simp)
    simp only [List.cons_append, digs]
    rw [if_pos (show 48 ≤ c.toNat ∧ c.toNat ≤ 57 from hc), ih (fun x hx => h x (by simp [hx]))]
    simp
    omega

theorem pp_text : ∀ (l : List Int) (m at_ : Nat), l ≠ [] → l.length ≤ m → (∀ n ∈ l, okOrd n) →
    (∀ p ∈ pp m at_ (textL l), p.2.2 = 0) ∧ (pp m at_ (textL l)).map (·.1) = l := by
  intro l
  induction l with
  | nil => intro m at_ h; exact absurd rfl h
  | cons n r ih =>
    intro m at_ _ hm hok
    obtain ⟨m, rfl⟩ : ∃ m', m = m' + 1 := ⟨m - 1, by simp at hm; omega⟩
    have hn := hok n (by simp)
    obtain ⟨u, hu⟩ : ∃ u, n.toNat = u := ⟨_, rfl⟩
    have hnu : n = (u : Int) := by have := hn.1; omega
    have hu1 : 1 ≤ u := by have := hn.1; omega
    have hu2 : u ≤ 999999 := by have := hn.2; omega
    have hi : Lib.itoa n = Lib.decDigits u := by rw [itoa_ord hn, hu]
    have hall := decDigits_isD u u (Nat.le_refl _)
    have hne := decDigits_ne u
    have hhead := decDigits_head u u (Nat.le_refl _) hu1
    have hlen := decDigits_len 5 u (by omega)
    have hval := val_dec u u (Nat.le_refl _)
    have hdig : digs (Lib.decDigits u ++ (if r = [] then [] else 46 :: textL r)) = (Lib.decDigits u).length := by
      rw [digs_append_all _ _ hall]
      split
      · rfl
      · simp [digs]
    rw [textL_cons, hi]
    cases hd : Lib.decDigits u with
    | nil => exact absurd hd hne
    | cons c ds =>
      have hc : c.toNat ≠ 48 := hhead c (by rw [hd]; rfl)
      rw [hd] at hdig hlen hval
      simp only [List.cons_append] at hdig ⊢
      unfold pp
      rw [hdig, if_neg (by simp), if_neg hc, if_neg (by omega)]
      have htake : List.take (c :: ds).length (c :: (ds ++ if r = [] then [] else 46 :: textL r)) = c :: ds := by
        rw [← List.cons_append]
        exact List.take_left
      have hdrop : List.drop (c :: ds).length (c :: (ds ++ if r = [] then [] else 46 :: textL r)) = if r = [] then [] else 46 :: textL r := by
        rw [← List.cons_append]
        exact List.drop_left
      rw [htake, hdrop, hval]
      by_cases hr : r = []
      · subst hr
        simp [hnu]
      · rw [if_neg hr]
        have h46 : (46 : UInt8).toNat = 46 := rfl
        simp only [h46, if_true]
        obtain ⟨h1, h2⟩ := ih m (at_ + (c :: ds).length + 1) hr (by simp at hm; omega) (fun x hx => hok x (by simp [hx]))
        refine ⟨?_, ?_⟩
        · intro p hp
          rcases List.mem_cons.1 hp with rfl | hp
          · rfl
          · exact h1 p hp
        · simp only [List.map_cons, h2]
          rw [hnu]

/-- The text of a name is parsed to it. -/
theorem parse_text {l : List Int} (h : okL l) : parseL (textL l) = (l, 0, 0) := by
  by_cases hl : l = []
  · subst hl
    rfl
  · obtain ⟨h1, h2⟩ := pp_text l 8 0 hl h.1 h.2
    have hne : textL l ≠ [] := by
      cases l with
      | nil => exact absurd rfl hl
      | cons n r =>
        rw [textL_cons, itoa_ord (h.2 n (by simp))]
        have := decDigits_ne n.toNat
        cases hd : Lib.decDigits n.toNat with
        | nil => exact absurd hd this
        | cons c ds => simp
    unfold parseL
    rw [if_neg hne, coll_all _ h1, h2]

theorem coll_zero : ∀ (xs : List (Int × Int × Int)) (out : List Int), (coll out xs).2.2 = 0 → (∀ p ∈ xs, p.2.2 = 0)
  | [], _, _ => by simp
  | p :: ps, out, h => by
    unfold coll at h
    split at h
    · intro q hq
      rcases List.mem_cons.1 hq with rfl | hq
      · assumption
      · exact coll_zero ps _ h q hq
    · rename_i hp
      exact absurd h hp

theorem text_pp : ∀ (m at_ : Nat) (t : List UInt8), (∀ p ∈ pp m at_ t, p.2.2 = 0) →
    t ≠ [] ∧ (pp m at_ t) ≠ [] ∧ ((pp m at_ t).map (·.1)).length ≤ m ∧ (∀ n ∈ (pp m at_ t).map (·.1), okOrd n) ∧ textL ((pp m at_ t).map (·.1)) = t := by
  intro m
  induction m with
  | zero =>
    intro at_ t h
    unfold pp at h
    exact absurd (h _ (List.mem_singleton.2 rfl)) (by simp)
  | succ m ih =>
    intro at_ t h
    cases t with
    | nil =>
      unfold pp at h
      exact absurd (h _ (List.mem_singleton.2 rfl)) (by simp)
    | cons c r =>
      unfold pp at h ⊢
      by_cases hd0 : digs (c :: r) = 0
      · rw [if_pos hd0] at h
        exact absurd (h _ (List.mem_singleton.2 rfl)) (by simp)
      rw [if_neg hd0] at h ⊢
      by_cases hc : c.toNat = 48
      · rw [if_pos hc] at h
        exact absurd (h _ (List.mem_singleton.2 rfl)) (by simp)
      rw [if_neg hc] at h ⊢
      by_cases h6 : 6 < digs (c :: r)
      · rw [if_pos h6] at h
        exact absurd (h _ (List.mem_singleton.2 rfl)) (by simp)
      rw [if_neg h6] at h ⊢
      obtain ⟨d, hd⟩ : ∃ d, digs (c :: r) = d := ⟨_, rfl⟩
      have hall := take_digs_all (c :: r)
      have hle := digs_le (c :: r)
      rw [hd] at h hd0 h6 hall hle ⊢
      have htl : ((c :: r).take d).length = d := by rw [List.length_take]; omega
      have hne : (c :: r).take d ≠ [] := by intro e; rw [e] at htl; exact hd0 htl.symm
      have hhead : ∀ x, ((c :: r).take d).head? = some x → x.toNat ≠ 48 := by
        intro x hx
        obtain ⟨d', rfl⟩ : ∃ d', d = d' + 1 := ⟨d - 1, by omega⟩
        simp at hx
        rw [← hx]
        exact hc
      have hdv := dec_val d _ htl hne hall hhead
      have hpos := val_pos d _ htl hne hall hhead
      have hlt := val_lt d _ htl hall
      have hlt6 : val ((c :: r).take d) < 10 ^ 6 := Nat.lt_of_lt_of_le hlt (Nat.pow_le_pow_right (by decide) (by omega))
      have hord : okOrd ((val ((c :: r).take d) : Nat) : Int) := ⟨by omega, by omega⟩
      have hit : Lib.itoa ((val ((c :: r).take d) : Nat) : Int) = (c :: r).take d := by
        rw [itoa_ord hord]
        simpa using hdv
      have hsplit := List.take_append_drop d (c :: r)
      cases hdr : (c :: r).drop d with
      | nil =>
        rw [hdr, List.append_nil] at hsplit
        simp only [List.map_cons, List.map_nil]
        refine ⟨by simp, by simp, by simp, ?_, ?_⟩
        · intro n hn
          simp at hn
          rw [hn]
          exact hord
        · rw [textL_cons, if_pos rfl, hit, List.append_nil, hsplit]
      | cons x y =>
        rw [hdr] at h hsplit
        simp only at h ⊢
        by_cases hx : x.toNat = 46
        · rw [if_pos hx] at h ⊢
          obtain ⟨g1, g2, g3, g4, g5⟩ := ih (at_ + d + 1) y (fun p hp => h p (List.mem_cons_of_mem _ hp))
          simp only [List.map_cons]
          refine ⟨by simp, by simp, by simp only [List.length_cons]; omega, ?_, ?_⟩
          · intro n hn
            rcases List.mem_cons.1 hn with rfl | hn
            · exact hord
            · exact g4 n hn
          · have hx' : x = 46 := by
              have h46 : (46 : UInt8).toNat = 46 := rfl
              exact UInt8.toNat_inj.1 (by rw [hx, h46])
            rw [textL_cons, if_neg (by simpa using g2), hit, g5, ← hx', hsplit]
        · rw [if_neg hx] at h
          exact absurd (h (0, ((at_ + d : Nat) : Int), 6) (by simp)) (by simp)

/-- What is parsed without an error is the text of a name. -/
theorem text_parse {s : List UInt8} (h : (parseL s).2.2 = 0) : okL (parseL s).1 ∧ textL (parseL s).1 = s ∧ (parseL s).2.1 = 0 := by
  unfold parseL at h ⊢
  split
  · rename_i e
    subst e
    exact ⟨⟨by simp, by simp⟩, rfl, rfl⟩
  · rename_i hne
    rw [if_neg hne] at h
    have hz := coll_zero _ _ h
    rw [coll_all _ hz]
    obtain ⟨_, _, h3, h4, h5⟩ := text_pp 8 0 s hz
    exact ⟨⟨h3, h4⟩, h5, rfl⟩

theorem coll_err : ∀ (xs : List (Int × Int × Int)) (out : List Int), (coll out xs).2.2 ≠ 0 → (coll out xs).1 = []
  | [], _, h => absurd rfl h
  | p :: ps, out, h => by
    unfold coll at h ⊢
    split
    · rename_i hp
      rw [if_pos hp] at h
      exact coll_err ps _ h
    · rfl
theorem parse_err {s : List UInt8} (h : (parseL s).2.2 ≠ 0) : (parseL s).1 = [] := by
  unfold parseL at h ⊢
  split
  · rfl
  · rename_i hne
    rw [if_neg hne] at h
    exact coll_err _ _ h

theorem textL_inj {a b : List Int} (ha : okL a) (hb : okL b) (h : textL a = textL b) : a = b := by
  have h1 := parse_text ha
  rw [h, parse_text hb] at h1
  exact (congrArg Prod.fst h1).symm

/-- An error of a parse is positive. -/
theorem pp_err_pos : ∀ (m at_ : Nat) (t : List UInt8), ∀ p ∈ pp m at_ t, 0 ≤ p.2.2 ∧ p.2.2 ≤ 9 := by
  intro m
  induction m with
  | zero =>
    intro at_ t p hp
    unfold pp at hp
    simp at hp
    rw [hp]
    simp
  | succ m ih =>
    intro at_ t p hp
    cases t with
    | nil =>
      unfold pp at hp
      simp at hp
      rw [hp]
      simp
    | cons c r =>
      unfold pp at hp
      split at hp
      · simp at hp; rw [hp]; simp
      · split at hp
        · simp at hp; rw [hp]; simp
        · split at hp
          · simp at hp; rw [hp]; simp
          · rcases List.mem_cons.1 hp with rfl | hp
            · simp
            · split at hp
              · simp at hp
              · split at hp
                · exact ih _ _ p hp
                · simp at hp; rw [hp]; simp

theorem textL_len {l : List Int} (h : okL l) : (textL l).length ≤ 7 * l.length := by
  obtain ⟨h8, hok⟩ := h
  clear h8
  induction l with
  | nil => simp [textL_nil]
  | cons n r ih =>
    have hn := hok n (by simp)
    have hl := decDigits_len 5 n.toNat (by have := hn.2; omega)
    have := ih (fun x hx => hok x (by simp [hx]))
    rw [textL_cons, itoa_ord hn]
    split
    · simp
      omega
    · simp
      omega

end Go.Proofs.YtpkiiconadbmfaaDoor.G
