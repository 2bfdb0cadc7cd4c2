/- This session's texts for the claim, joined and shortened by this session's own program pack.py: what the claim does not need is struck. Part: GSpec. -/
import Derived.Lib.Atoi
import Derived.Lib.Join
namespace Go.Proofs.YtkdfilpinlebbaaDoor.G
def digs : List UInt8 → Nat
  | [] => 0
  | c :: r => if 48 ≤ c.toNat ∧ c.toNat ≤ 57 then digs r + 1 else 0
def valFrom (a : Nat) (l : List UInt8) : Nat := l.foldl (fun a c => a * 10 + (c.toNat - 48)) a
theorem valFrom_cons (a : Nat) (c : UInt8) (r : List UInt8) : valFrom a (c :: r) = valFrom (a * 10 + (c.toNat - 48)) r := by
  unfold valFrom
  rw [List.foldl_cons]
def val (l : List UInt8) : Nat := valFrom 0 l
def pp : Nat → Nat → List UInt8 → List (Int × Int × Int)
  | 0, at_, _ => [(0, (at_ : Int), 9)]
  | _ + 1, at_, [] => [(0, (at_ : Int), 4)]
  | m + 1, at_, c :: r =>
    if digs (c :: r) = 0 then [(0, (at_ : Int), 6)]
    else if c.toNat = 48 then [(0, (at_ : Int), 3)]
    else if 6 < digs (c :: r) then [(0, (at_ : Int), 2)]
    else (((val ((c :: r).take (digs (c :: r))) : Nat) : Int), (at_ : Int), 0) ::
      match (c :: r).drop (digs (c :: r)) with
      | [] => []
      | x :: y => if x.toNat = 46 then pp m (at_ + digs (c :: r) + 1) y else [(0, ((at_ + digs (c :: r) : Nat) : Int), 6)]
def coll (out : List Int) : List (Int × Int × Int) → List Int × Int × Int
  | [] => (out, 0, 0)
  | p :: ps => if p.2.2 = 0 then coll (out ++ [p.1]) ps else ([], p.2.1, p.2.2)
def parseL (l : List UInt8) : List Int × Int × Int := if l = [] then ([], 0, 0) else coll [] (pp 8 0 l)
theorem digs_le : ∀ l : List UInt8, digs l ≤ l.length
  | [] => Nat.le_refl _
  | c :: r => by
    have := digs_le r
    unfold digs
    split <;> simp <;> omega
theorem digs_at : ∀ (l : List UInt8) (i : Nat) (h : i < l.length), i < digs l → 48 ≤ (l[i]'h).toNat ∧ (l[i]'h).toNat ≤ 57
  | [], i, h, _ => absurd h (Nat.not_lt_zero _)
  | c :: r, 0, h, hd => by
    unfold digs at hd
    split at hd
    · simpa
    · omega
  | c :: r, i + 1, h, hd => by
    unfold digs at hd
    split at hd
    · simpa using digs_at r i (by simpa using h) (by omega)
    · omega
theorem digs_end : ∀ (l : List UInt8) (h : digs l < l.length), ¬ (48 ≤ (l[digs l]'h).toNat ∧ (l[digs l]'h).toNat ≤ 57)
  | [], h => absurd h (Nat.not_lt_zero _)
  | c :: r, h => by
    by_cases hc : 48 ≤ c.toNat ∧ c.toNat ≤ 57
    · have e : digs (c :: r) = digs r + 1 := by simp [digs, hc]
      simp only [e] at h ⊢
      have h' : digs r < r.length := by simpa using h
      simpa using digs_end r h'
    · have e : digs (c :: r) = 0 := by simp [digs, hc]
      simp only [e]
      simpa using hc
theorem take_digs_all (l : List UInt8) : ∀ c ∈ l.take (digs l), 48 ≤ c.toNat ∧ c.toNat ≤ 57 := by
  intro c hc
  obtain ⟨i, hi, rfl⟩ := List.getElem_of_mem hc
  have hl := digs_le l
  rw [List.length_take] at hi
  rw [List.getElem_take]
  exact digs_at l i (by omega) (by omega)
theorem decFrom_val (l : List UInt8) : ∀ (a : Nat), (∀ c ∈ l, 48 ≤ c.toNat ∧ c.toNat ≤ 57) → Lib.decFrom a l = some (valFrom a l) := by
  induction l with
  | nil => intro a _; rfl
  | cons c r ih =>
    intro a h
    have hc := h c List.mem_cons_self
    have hv : Lib.digitVal c = some (c.toNat - 48) := by unfold Lib.digitVal; rw [if_pos hc]
    unfold Lib.decFrom
    rw [hv, valFrom_cons]
    exact ih _ (fun x hx => h x (List.mem_cons_of_mem _ hx))
theorem atoi_val (l : List UInt8) (hne : l ≠ []) (h : ∀ c ∈ l, 48 ≤ c.toNat ∧ c.toNat ≤ 57) : Lib.atoi l = some (val l : Nat) := by
  cases l with
  | nil => exact absurd rfl hne
  | cons c r =>
    have hc := h c (by simp)
    have hd : Lib.decNat (c :: r) = some (valFrom 0 (c :: r)) := by
      simp only [Lib.decNat, List.isEmpty_cons, Bool.false_eq_true, if_false]
      exact decFrom_val _ _ h
    have e1 : ¬ c = 45 := by rintro rfl; exact absurd hc.1 (by decide)
    have e2 : ¬ c = 43 := by rintro rfl; exact absurd hc.1 (by decide)
    simp [Lib.atoi, e1, e2, hd, val]
theorem coll_ok (pre rest : List (Int × Int × Int)) : ∀ out : List Int, (∀ p ∈ pre, p.2.2 = 0) → coll out (pre ++ rest) = coll (out ++ pre.map (·.1)) rest := by
  induction pre with
  | nil => intro out _; simp
  | cons p ps ih =>
    intro out h
    have h0 : p.2.2 = 0 := h p (by simp)
    simp only [List.cons_append, coll, h0, if_true]
    rw [ih _ (fun q hq => h q (by simp [hq]))]
    simp
theorem coll_all (xs : List (Int × Int × Int)) (h : ∀ p ∈ xs, p.2.2 = 0) : coll [] xs = (xs.map (·.1), 0, 0) := by
  have := coll_ok xs [] [] h
  simpa [coll] using this
theorem coll_stop (pre rest : List (Int × Int × Int)) (p : Int × Int × Int) (h : ∀ q ∈ pre, q.2.2 = 0) (hp : p.2.2 ≠ 0) : coll [] (pre ++ p :: rest) = ([], p.2.1, p.2.2) := by
  rw [coll_ok pre (p :: rest) [] h]
  simp [coll, hp]
theorem pp_limit (n at_ : Nat) (l : List UInt8) (hn : n = 8) : pp (8 - n) at_ (l.drop at_) = [(0, (at_ : Int), 9)] := by subst hn; rfl
theorem pp_short (n at_ : Nat) (l : List UInt8) (hn : n < 8) (h : l.length = at_) : pp (8 - n) at_ (l.drop at_) = [(0, (at_ : Int), 4)] := by
  obtain ⟨m, hm⟩ : ∃ m, 8 - n = m + 1 := ⟨7 - n, by omega⟩
  rw [hm, List.drop_of_length_le (by omega)]
  rfl
theorem pp_byte (n at_ : Nat) (l : List UInt8) (hn : n < 8) (h : at_ < l.length) (hd : digs (l.drop at_) = 0) : pp (8 - n) at_ (l.drop at_) = [(0, (at_ : Int), 6)] := by
  obtain ⟨m, hm⟩ : ∃ m, 8 - n = m + 1 := ⟨7 - n, by omega⟩
  rw [List.drop_eq_getElem_cons h] at hd ⊢
  rw [hm]
  unfold pp
  rw [if_pos hd]
theorem pp_format (n at_ : Nat) (l : List UInt8) (hn : n < 8) (h : at_ < l.length) (hd : digs (l.drop at_) ≠ 0) (h0 : (l[at_]'h).toNat = 48) : pp (8 - n) at_ (l.drop at_) = [(0, (at_ : Int), 3)] := by
  obtain ⟨m, hm⟩ : ∃ m, 8 - n = m + 1 := ⟨7 - n, by omega⟩
  rw [List.drop_eq_getElem_cons h] at hd ⊢
  rw [hm]
  unfold pp
  rw [if_neg hd, if_pos h0]
theorem pp_range (n at_ : Nat) (l : List UInt8) (hn : n < 8) (h : at_ < l.length) (hd : 6 < digs (l.drop at_)) (h0 : (l[at_]'h).toNat ≠ 48) : pp (8 - n) at_ (l.drop at_) = [(0, (at_ : Int), 2)] := by
  obtain ⟨m, hm⟩ : ∃ m, 8 - n = m + 1 := ⟨7 - n, by omega⟩
  rw [List.drop_eq_getElem_cons h] at hd ⊢
  rw [hm]
  unfold pp
  rw [if_neg (by omega), if_neg h0, if_pos hd]
theorem pp_ok (n at_ : Nat) (l : List UInt8) (hn : n < 8) (h : at_ < l.length) (hd : digs (l.drop at_) ≠ 0) (hd6 : ¬ 6 < digs (l.drop at_)) (h0 : (l[at_]'h).toNat ≠ 48) :
    pp (8 - n) at_ (l.drop at_) = (((val ((l.drop at_).take (digs (l.drop at_))) : Nat) : Int), (at_ : Int), 0) ::
      match l.drop (at_ + digs (l.drop at_)) with
      | [] => []
      | x :: y => if x.toNat = 46 then pp (8 - (n + 1)) (at_ + digs (l.drop at_) + 1) y else [(0, ((at_ + digs (l.drop at_) : Nat) : Int), 6)] := by
  obtain ⟨m, hm⟩ : ∃ m, 8 - n = m + 1 := ⟨7 - n, by omega⟩
  have hm' : 8 - (n + 1) = m := by omega
  rw [hm, hm', ← List.drop_drop]
  rw [List.drop_eq_getElem_cons h] at hd hd6 ⊢
  conv => lhs; unfold pp
  rw [if_neg hd, if_neg h0, if_neg hd6]
theorem pp_ok_end (n at_ : Nat) (l : List UInt8) (hn : n < 8) (h : at_ < l.length) (hd : digs (l.drop at_) ≠ 0) (hd6 : ¬ 6 < digs (l.drop at_)) (h0 : (l[at_]'h).toNat ≠ 48) (he : at_ + digs (l.drop at_) = l.length) :
    pp (8 - n) at_ (l.drop at_) = [(((val ((l.drop at_).take (digs (l.drop at_))) : Nat) : Int), (at_ : Int), 0)] := by
  rw [pp_ok n at_ l hn h hd hd6 h0, List.drop_of_length_le (i := at_ + digs (l.drop at_)) (by omega)]
theorem pp_ok_dot (n at_ : Nat) (l : List UInt8) (hn : n < 8) (h : at_ < l.length) (hd : digs (l.drop at_) ≠ 0) (hd6 : ¬ 6 < digs (l.drop at_)) (h0 : (l[at_]'h).toNat ≠ 48) (he : at_ + digs (l.drop at_) < l.length) (hx : (l[at_ + digs (l.drop at_)]'he).toNat = 46) :
    pp (8 - n) at_ (l.drop at_) = (((val ((l.drop at_).take (digs (l.drop at_))) : Nat) : Int), (at_ : Int), 0) :: pp (8 - (n + 1)) (at_ + digs (l.drop at_) + 1) (l.drop (at_ + digs (l.drop at_) + 1)) := by
  rw [pp_ok n at_ l hn h hd hd6 h0, List.drop_eq_getElem_cons he]
  simp only [hx, if_true]
theorem pp_ok_other (n at_ : Nat) (l : List UInt8) (hn : n < 8) (h : at_ < l.length) (hd : digs (l.drop at_) ≠ 0) (hd6 : ¬ 6 < digs (l.drop at_)) (h0 : (l[at_]'h).toNat ≠ 48) (he : at_ + digs (l.drop at_) < l.length) (hx : (l[at_ + digs (l.drop at_)]'he).toNat ≠ 46) :
    pp (8 - n) at_ (l.drop at_) = [(((val ((l.drop at_).take (digs (l.drop at_))) : Nat) : Int), (at_ : Int), 0), (0, ((at_ + digs (l.drop at_) : Nat) : Int), 6)] := by
  rw [pp_ok n at_ l hn h hd hd6 h0, List.drop_eq_getElem_cons he]
  simp only [hx, if_false]
end Go.Proofs.YtkdfilpinlebbaaDoor.G
