/- This session's texts for the claim, joined and shortened by this session's own program pack.py: what the claim does not need is struck. Part: Fun04b. -/
import Derived.Test.YtkdfilpinlebbaaDoorQFun04
set_option linter.unusedVariables false
set_option linter.unusedSimpArgs false
namespace Go.Proofs.YtkdfilpinlebbaaDoor.G
open Go.RowKit Go.Proofs.YtkdfilpinlebbaaDoorW.PrintWords Go.Proofs.YtkdfilpinlebbaaDoorW.PrintLast Go.Proofs.YtkdfilpinlebbaaDoorW.PrintMore Go.Proofs.YtkdfilpinlebbaaDoor.PC
theorem Ev.ite {α : Type} {c : Prop} [Decidable c] {f g : Nat → Option α} {r : α} (h : c → Ev f r) (k : ¬ c → Ev g r) : Ev (fun n => if c then f n else g n) r := by
  by_cases hc : c
  · exact Ev.pos hc (h hc)
  · exact Ev.neg hc (k hc)
theorem owned_f (K : Nat) (hK : K ≤ 20) : replevinref04_Owned.f (K : Int) = some (ownB K) := by
  have h : ∀ k : Nat, k ≤ 20 → replevinref04_Owned.f (k : Int) = some (ownB k) := by decide
  exact h K hK
theorem numbered_f (K : Nat) (hK : K ≤ 20) : replevinref04_Numbered.f (K : Int) = some (numB K) := by
  have h : ∀ k : Nat, k ≤ 20 → replevinref04_Numbered.f (k : Int) = some (numB k) := by decide
  exact h K hK
theorem texted_f (K : Nat) (hK : K ≤ 20) : replevinref04_Texted.f (K : Int) = some (txtB K) := by
  have h : ∀ k : Nat, k ≤ 20 → replevinref04_Texted.f (k : Int) = some (txtB k) := by decide
  exact h K hK
theorem most_ev (K : Nat) : Ev (fun k => replevinref04_Most.f k (K : Int)) (mostI K) := by
  refine ⟨1, fun n hn => ?_⟩
  obtain ⟨m, rfl⟩ : ∃ m, n = m + 1 := ⟨n - 1, by omega⟩
  simp only [replevinref04_Most.f, replevinref04_Most.j0]
  unfold mostI
  by_cases h3 : K = 3
  · subst h3
    rfl
  · by_cases h8 : K = 8
    · subst h8
      rfl
    · by_cases h18 : K = 18
      · subst h18
        rfl
      · have e3 : ¬ (K : Int) = 3 := by omega
        have e8 : ¬ (K : Int) = 8 := by omega
        have e18 : ¬ (K : Int) = 18 := by omega
        simp [e3, e8, e18, h3, h8, h18]
theorem rvalid_ev (s : ByteArray) (hs : s.size ≤ 140737488351232) : Ev (fun k => replevinref03_Valid.f k s) (okLin s.data.toList) := by
  refine Ev.congr (fun k => by rw [replevinref03_Valid.f]) ?_
  exact Ev.bind (rparse_ev s hs) (Ev.now _)
theorem word_cond (c : UInt8) : (!(decide (33 ≤ c.toNat) && decide (c.toNat ≤ 126) && c.toNat != 47)) = true ↔ ((c.toNat : Int) < 33 ∨ (c.toNat : Int) > 126 ∨ (c.toNat : Int) = 47) := by
  simp only [Bool.not_eq_true', Bool.and_eq_false_iff, decide_eq_false_iff_not, bne_eq_false_iff_eq]
  omega
theorem word_loop (s : ByteArray) (hs : s.size ≤ 140737488351232) : ∀ (d i : Nat), s.size - i = d → i ≤ s.size → Ev (fun k => replevinref04_Word.l0 k s (i : Int))
    ((s.data.toList.drop i).all (fun c => decide (33 ≤ c.toNat) && decide (c.toNat ≤ 126) && c.toNat != 47) && (decide (1 ≤ s.size) && decide (s.size ≤ 32))) := by
  intro d
  induction d with
  | zero =>
    intro i hd hi
    obtain rfl : i = s.size := by omega
    refine Ev.step (fun k => by rw [replevinref04_Word.l0]) (Ev.neg (by omega) ?_)
    rw [List.drop_of_length_le (by simp), List.all_nil, Bool.true_and]
    by_cases h : 1 ≤ s.size
    · refine Ev.pos (by omega) (Ev.val (Ev.now _) ?_)
      rw [decide_eq_true h, Bool.true_and]
      by_cases h2 : s.size ≤ 32
      · rw [decide_eq_true h2, decide_eq_true (by omega)]
      · rw [decide_eq_false h2, decide_eq_false (by omega)]
    · refine Ev.neg (by omega) (Ev.val (Ev.now _) ?_)
      rw [decide_eq_false h]
      rfl
  | succ d ih =>
    intro i hd hi
    have hlt : i < s.size := by omega
    have hl : i < s.data.toList.length := by rw [sz]; exact hlt
    refine Ev.step (fun k => by rw [replevinref04_Word.l0]) (Ev.pos (nlt hlt) (Ev.pos (n0 i) ?_))
    rw [bt_nat s i hl, List.drop_eq_getElem_cons hl, List.all_cons]
    generalize s.data.toList[i] = c
    have hc := word_cond c
    refine Ev.ite (fun h1 => ?_) (fun h1 => Ev.ite (fun h2 => ?_) (fun h2 => Ev.ite (fun h3 => ?_) (fun h3 => ?_)))
    · have e := hc.2 (.inl h1)
      refine Ev.val (Ev.now _) ?_
      rw [Bool.not_eq_true'] at e
      rw [e]
      rfl
    · have e := hc.2 (.inr (.inl h2))
      refine Ev.val (Ev.now _) ?_
      rw [Bool.not_eq_true'] at e
      rw [e]
      rfl
    · have e := hc.2 (.inr (.inr h3))
      refine Ev.val (Ev.now _) ?_
      rw [Bool.not_eq_true'] at e
      rw [e]
      rfl
    · have e : (decide (33 ≤ c.toNat) && decide (c.toNat ≤ 126) && c.toNat != 47) = true := by
        cases g : (decide (33 ≤ c.toNat) && decide (c.toNat ≤ 126) && c.toNat != 47) with
        | true => rfl
        | false =>
          rcases hc.1 (by rw [g]; rfl) with h | h | h
          · exact absurd h h1
          · exact absurd h h2
          · exact absurd h h3
      rw [e, Bool.true_and, w64s i (by omega)]
      exact ih (i + 1) (by omega) (by omega)
theorem rword_ev (s : ByteArray) (hs : s.size ≤ 140737488351232) : Ev (fun k => replevinref04_Word.f k s) (wordL s.data.toList) := by
  refine Ev.congr (fun k => by rw [replevinref04_Word.f]) ?_
  have h := word_loop s hs s.size 0 (by omega) (by omega)
  rw [List.drop_zero, Bool.and_comm] at h
  unfold wordL
  rw [sz]
  exact h
theorem rcheck_j1 (K : Nat) (hK : K ≤ 20) (o : ByteArray) (n i : Int) (t : ByteArray) (ho : o.size ≤ 140737488351232) (ht : t.size ≤ 140737488351232) (bad : Bool) :
    Ev (fun k => replevinref04_Check.j1 k (K : Int) bad (K : Int) o n i t) (if bad = true then 1 else if ownB K = true ∧ okLin o.data.toList = false then 12
      else if n < 0 ∨ 1073741824 < n ∨ i < 0 ∨ max (mostI K) 0 < i then 2 else if txtB K = true ∧ wordL t.data.toList = false then 12 else 0) := by
  refine Ev.step (fun k => by rw [replevinref04_Check.j1]) ?_
  cases bad with
  | true => exact Ev.pos rfl (Ev.now _)
  | false =>
    refine Ev.neg (by decide) ?_
    rw [if_neg (by decide)]
    have j3 : ∀ c : Bool, Ev (fun k => replevinref04_Check.j3 k (K : Int) c (K : Int) o n i t) (if c = true then 2 else if txtB K = true ∧ wordL t.data.toList = false then 12 else 0) := by
      intro c
      refine Ev.step (fun k => by rw [replevinref04_Check.j3]) ?_
      cases c with
      | true => exact Ev.pos rfl (Ev.now _)
      | false =>
        refine Ev.neg (by decide) (Ev.bind (Ev.const (texted_f K hK)) ?_)
        rw [if_neg (by decide)]
        cases txtB K with
        | false =>
          refine Ev.neg (by decide) (Ev.val (Ev.now _) ?_)
          rw [if_neg (by rintro ⟨h, _⟩; cases h)]
        | true =>
          refine Ev.pos rfl (Ev.bind (rword_ev t ht) ?_)
          cases wordL t.data.toList with
          | true => exact Ev.pos rfl (Ev.val (Ev.now _) (by rw [if_neg (by rintro ⟨_, h⟩; cases h)]))
          | false => exact Ev.neg (by decide) (Ev.val (Ev.now _) (by rw [if_pos ⟨rfl, rfl⟩]))
    have j2 : ∀ c : Bool, Ev (fun k => replevinref04_Check.j2 k (K : Int) c (K : Int) o n i t) (if c = true then 12 else if n < 0 ∨ 1073741824 < n ∨ i < 0 ∨ max (mostI K) 0 < i then 2 else if txtB K = true ∧ wordL t.data.toList = false then 12 else 0) := by
      intro c
      refine Ev.step (fun k => by rw [replevinref04_Check.j2]) ?_
      cases c with
      | true => exact Ev.pos rfl (Ev.now _)
      | false =>
        refine Ev.neg (by decide) ?_
        rw [if_neg (by decide)]
        refine Ev.ite (fun h => ?_) (fun h => Ev.ite (fun h2 => ?_) (fun h2 => Ev.ite (fun h3 => ?_) (fun h3 => ?_)))
        · exact Ev.val (j3 true) (by rw [if_pos rfl, if_pos (.inl h)])
        · exact Ev.val (j3 true) (by rw [if_pos rfl, if_pos (.inr (.inl h2))])
        · exact Ev.val (j3 true) (by rw [if_pos rfl, if_pos (.inr (.inr (.inl h3)))])
        · refine Ev.bind (most_ev K) (Ev.val (j3 _) ?_)
          have hmx : mx (mostI K) 0 = max (mostI K) 0 := by unfold mx; omega
          rw [hmx]
          by_cases h4 : max (mostI K) 0 < i
          · have hpos : n < 0 ∨ 1073741824 < n ∨ i < 0 ∨ max (mostI K) 0 < i := .inr (.inr (.inr h4))
            rw [if_pos hpos, decide_eq_true (show i > max (mostI K) 0 from h4), if_pos rfl]
          · have hneg : ¬ (n < 0 ∨ 1073741824 < n ∨ i < 0 ∨ max (mostI K) 0 < i) := fun hh => by
              rcases hh with a | a | a | a
              · exact h a
              · exact h2 a
              · exact h3 a
              · exact h4 a
            rw [if_neg hneg, decide_eq_false (show ¬ i > max (mostI K) 0 from h4), if_neg (show ¬ (false = true) by decide)]
    refine Ev.bind (Ev.const (owned_f K hK)) ?_
    cases ownB K with
    | false =>
      refine Ev.neg (by decide) (Ev.val (j2 false) ?_)
      simp
    | true =>
      refine Ev.pos rfl (Ev.bind (rvalid_ev o ho) (Ev.val (j2 _) ?_))
      cases okLin o.data.toList <;> simp
end Go.Proofs.YtkdfilpinlebbaaDoor.G
