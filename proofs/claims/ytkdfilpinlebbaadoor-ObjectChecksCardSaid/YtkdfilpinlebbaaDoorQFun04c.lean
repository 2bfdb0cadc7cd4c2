/- This session's texts for the claim, joined and shortened by this session's own program pack.py: what the claim does not need is struck. Part: Fun04c. -/
import Derived.Test.YtkdfilpinlebbaaDoorQFun04b
set_option linter.unusedVariables false
set_option linter.unusedSimpArgs false
namespace Go.Proofs.YtkdfilpinlebbaaDoor.G
open Go.RowKit Go.Proofs.YtkdfilpinlebbaaDoorW.PrintWords Go.Proofs.YtkdfilpinlebbaaDoorW.PrintLast Go.Proofs.YtkdfilpinlebbaaDoorW.PrintMore Go.Proofs.YtkdfilpinlebbaaDoor.PC
theorem tl_nil (s : ByteArray) : s.toList = ([] : List UInt8) ↔ s.data.toList = [] := by rw [Lib.toList_data]
theorem tl_bne (s : ByteArray) : (s.toList != ([] : List UInt8)) = true ↔ s.data.toList ≠ [] := by rw [Lib.toList_data]; simp
theorem rcheck_ev (a0 : Int) (o : ByteArray) (n i : Int) (t : ByteArray) (ho : o.size ≤ 140737488351232) (ht : t.size ≤ 140737488351232) :
    Ev (fun k => replevinref04_Check.f k a0 o n i t) (chk ⟨a0, o.data.toList, n, i, t.data.toList⟩) := by
  refine Ev.congr (fun k => by rw [replevinref04_Check.f]) ?_
  by_cases h1 : a0 < 1
  · refine Ev.pos h1 (Ev.step (fun k => by rw [replevinref04_Check.j0]) ?_)
    refine Ev.pos rfl (Ev.val (Ev.now _) ?_)
    unfold chk
    rw [if_pos (.inl h1)]
  refine Ev.neg h1 (Ev.step (fun k => by rw [replevinref04_Check.j0]) ?_)
  by_cases h2 : a0 > 20
  · refine Ev.pos (decide_eq_true h2) (Ev.val (Ev.now _) ?_)
    unfold chk
    rw [if_pos (.inr h2)]
  refine Ev.neg (by simpa using h2) ?_
  obtain ⟨K, rfl⟩ : ∃ K : Nat, a0 = (K : Int) := ⟨a0.toNat, by omega⟩
  have hK : K ≤ 20 := by omega
  obtain ⟨R, hR⟩ : ∃ R, chk ⟨(K : Int), o.data.toList, n, i, t.data.toList⟩ = R := ⟨_, rfl⟩
  have leaf : ∀ b : Bool, (b = true ↔ ((ownB K = false ∧ o.data.toList ≠ []) ∨ (numB K = false ∧ n ≠ 0) ∨ (mostI K < 0 ∧ i ≠ 0) ∨ (txtB K = false ∧ t.data.toList ≠ []))) →
      Ev (fun k => replevinref04_Check.j1 k (K : Int) b (K : Int) o n i t) R := by
    intro b hb
    refine Ev.val (rcheck_j1 K hK o n i t ho ht b) ?_
    rw [← hR]
    unfold chk
    have hnk : ¬ ((K : Int) < 1 ∨ 20 < (K : Int)) := by omega
    simp only [if_neg hnk, Int.toNat_natCast]
    cases b with
    | true => rw [if_pos rfl, if_pos (hb.1 rfl)]
    | false =>
      have hnb : ¬ ((ownB K = false ∧ o.data.toList ≠ []) ∨ (numB K = false ∧ n ≠ 0) ∨ (mostI K < 0 ∧ i ≠ 0) ∨ (txtB K = false ∧ t.data.toList ≠ [])) := fun g => by have := hb.2 g; cases this
      rw [if_neg (show ¬ (false = true) by decide), if_neg hnb]
  rw [hR]
  have TXT : ¬ (ownB K = false ∧ o.data.toList ≠ []) → ¬ (numB K = false ∧ n ≠ 0) → ¬ (mostI K < 0 ∧ i ≠ 0) →
      Ev (fun k => (replevinref04_Texted.f (K : Int)).bind fun t113 => (if t113 = true then (replevinref04_Check.j1 k (K : Int) false (K : Int) o n i t) else (replevinref04_Check.j1 k (K : Int) (t.toList != ([] : List UInt8)) (K : Int) o n i t))) R := by
    intro g1 g2 g3
    refine Ev.bind (Ev.const (texted_f K hK)) ?_
    cases hb4 : txtB K with
    | true =>
      refine Ev.pos rfl (leaf false ⟨fun h => (by cases h), fun h => ?_⟩)
      rcases h with h | h | h | h
      · exact absurd h g1
      · exact absurd h g2
      · exact absurd h g3
      · rw [hb4] at h
        cases h.1
    | false =>
      refine Ev.neg (by decide) (leaf _ ⟨fun h => .inr (.inr (.inr ⟨hb4, (tl_bne t).1 h⟩)), fun h => ?_⟩)
      rcases h with h | h | h | h
      · exact absurd h g1
      · exact absurd h g2
      · exact absurd h g3
      · exact (tl_bne t).2 h.2
  have MOST : ¬ (ownB K = false ∧ o.data.toList ≠ []) → ¬ (numB K = false ∧ n ≠ 0) →
      Ev (fun k => (replevinref04_Most.f k (K : Int)).bind fun t112 => (if t112 < 0 then (if i = 0 then ((replevinref04_Texted.f (K : Int)).bind fun t113 => (if t113 = true then (replevinref04_Check.j1 k (K : Int) false (K : Int) o n i t) else (replevinref04_Check.j1 k (K : Int) (t.toList != ([] : List UInt8)) (K : Int) o n i t))) else (replevinref04_Check.j1 k (K : Int) true (K : Int) o n i t))
        else ((replevinref04_Texted.f (K : Int)).bind fun t114 => (if t114 = true then (replevinref04_Check.j1 k (K : Int) false (K : Int) o n i t) else (replevinref04_Check.j1 k (K : Int) (t.toList != ([] : List UInt8)) (K : Int) o n i t))))) R := by
    intro g1 g2
    refine Ev.bind (most_ev K) (Ev.ite (fun hm => Ev.ite (fun hi => ?_) (fun hi => ?_)) (fun hm => ?_))
    · exact TXT g1 g2 (fun h => h.2 hi)
    · exact leaf true ⟨fun _ => .inr (.inr (.inl ⟨hm, hi⟩)), fun _ => rfl⟩
    · exact TXT g1 g2 (fun h => hm h.1)
  have NUM : ¬ (ownB K = false ∧ o.data.toList ≠ []) → Ev (fun k => (replevinref04_Numbered.f (K : Int)).bind fun t111 => (if t111 = true then ((replevinref04_Most.f k (K : Int)).bind fun t112 => (if t112 < 0 then (if i = 0 then ((replevinref04_Texted.f (K : Int)).bind fun t113 => (if t113 = true then (replevinref04_Check.j1 k (K : Int) false (K : Int) o n i t) else (replevinref04_Check.j1 k (K : Int) (t.toList != ([] : List UInt8)) (K : Int) o n i t))) else (replevinref04_Check.j1 k (K : Int) true (K : Int) o n i t))
        else ((replevinref04_Texted.f (K : Int)).bind fun t114 => (if t114 = true then (replevinref04_Check.j1 k (K : Int) false (K : Int) o n i t) else (replevinref04_Check.j1 k (K : Int) (t.toList != ([] : List UInt8)) (K : Int) o n i t)))))
      else (if n = 0 then ((replevinref04_Most.f k (K : Int)).bind fun t112 => (if t112 < 0 then (if i = 0 then ((replevinref04_Texted.f (K : Int)).bind fun t113 => (if t113 = true then (replevinref04_Check.j1 k (K : Int) false (K : Int) o n i t) else (replevinref04_Check.j1 k (K : Int) (t.toList != ([] : List UInt8)) (K : Int) o n i t))) else (replevinref04_Check.j1 k (K : Int) true (K : Int) o n i t))
        else ((replevinref04_Texted.f (K : Int)).bind fun t114 => (if t114 = true then (replevinref04_Check.j1 k (K : Int) false (K : Int) o n i t) else (replevinref04_Check.j1 k (K : Int) (t.toList != ([] : List UInt8)) (K : Int) o n i t))))) else (replevinref04_Check.j1 k (K : Int) true (K : Int) o n i t)))) R := by
    intro g1
    refine Ev.bind (Ev.const (numbered_f K hK)) ?_
    cases hb2 : numB K with
    | true => exact Ev.pos rfl (MOST g1 (fun h => by rw [hb2] at h; cases h.1))
    | false =>
      refine Ev.neg (by decide) (Ev.ite (fun hn => ?_) (fun hn => ?_))
      · exact MOST g1 (fun h => h.2 hn)
      · exact leaf true ⟨fun _ => .inr (.inl ⟨hb2, hn⟩), fun _ => rfl⟩
  refine Ev.bind (Ev.const (owned_f K hK)) ?_
  cases hb1 : ownB K with
  | true => exact Ev.pos rfl (NUM (fun h => by rw [hb1] at h; cases h.1))
  | false =>
    refine Ev.neg (by decide) (Ev.ite (fun hoo => ?_) (fun hoo => ?_))
    · exact NUM (fun h => h.2 ((tl_nil o).1 hoo))
    · exact leaf true ⟨fun _ => .inl ⟨hb1, fun h => hoo ((tl_nil o).2 h)⟩, fun _ => rfl⟩
def chkB (o : List UInt8) (n : Int) : Int := if okLin o = true then (if n < 0 ∨ 1073741824 < n then 2 else 0) else 12
theorem rbirth_ev (o : ByteArray) (n : Int) (ho : o.size ≤ 140737488351232) : Ev (fun k => replevinref04_Birth.f k o n) (chkB o.data.toList n) := by
  refine Ev.congr (fun k => by rw [replevinref04_Birth.f]) (Ev.bind (rvalid_ev o ho) ?_)
  unfold chkB
  cases okLin o.data.toList with
  | false => exact Ev.neg (by decide) (Ev.now _)
  | true =>
    refine Ev.pos rfl ?_
    refine Ev.ite (fun h => ?_) (fun h => Ev.ite (fun h2 => ?_) (fun h2 => ?_))
    · have e : n < 0 ∨ 1073741824 < n := .inl h
      exact Ev.val (Ev.now _) (by simp [e])
    · have e : n < 0 ∨ 1073741824 < n := .inr h2
      exact Ev.val (Ev.now _) (by simp [e])
    · have e : ¬ (n < 0 ∨ 1073741824 < n) := fun g => by
        rcases g with g | g
        · exact h g
        · exact h2 g
      exact Ev.val (Ev.now _) (by simp [e])
def g_rCheck.f (a0 : Int) (a1 : ByteArray) (a2 a3 : Int) (a4 : ByteArray) : Option Int := if a1.size ≤ 1000000 then (if a4.size ≤ 1000000 then some (chk ⟨a0, a1.data.toList, a2, a3, a4.data.toList⟩) else none) else none
theorem g_rCheck.calls (a0 : Int) (a1 : ByteArray) (a2 a3 : Int) (a4 : ByteArray) (r : Int) (w : World) (h : g_rCheck.f a0 a1 a2 a3 a4 = some r) :
    Calls Tryd.prog 14 #[.agg #[.int .i64 a0, .string a1, .int .i64 a2, .int .i64 a3, .string a4]] w fun e w' => e = .returned (.int .i64 r) ∧ Below w.heap.size w w' := by
  unfold g_rCheck.f at h
  split at h
  · rename_i h1
    split at h
    · rename_i h4
      injection h with h
      subst h
      obtain ⟨k, hk⟩ := (rcheck_ev a0 a1 a2 a3 a4 (by omega) (by omega)).rounds
      exact replevinref04_Check.calls k a0 a1 a2 a3 a4 _ w hk
    · cases h
  · cases h
def g_rBirth.f (a0 : ByteArray) (a1 : Int) : Option Int := if a0.size ≤ 1000000 then some (chkB a0.data.toList a1) else none
theorem g_rBirth.calls (a0 : ByteArray) (a1 : Int) (r : Int) (w : World) (h : g_rBirth.f a0 a1 = some r) :
    Calls Tryd.prog 20 #[.string a0, .int .i64 a1] w fun e w' => e = .returned (.int .i64 r) ∧ Below w.heap.size w w' := by
  unfold g_rBirth.f at h
  split at h
  · rename_i h1
    injection h with h
    subst h
    obtain ⟨k, hk⟩ := (rbirth_ev a0 a1 (by omega)).rounds
    exact replevinref04_Birth.calls k a0 a1 _ w hk
  · cases h
def g_rWord.f (a0 : ByteArray) : Option Bool := if a0.size ≤ 1000000 then some (wordL a0.data.toList) else none
theorem g_rWord.calls (a0 : ByteArray) (r : Bool) (w : World) (h : g_rWord.f a0 = some r) :
    Calls Tryd.prog 22 #[.string a0] w fun e w' => e = .returned (.bool r) ∧ Drawn0 w w' := by
  unfold g_rWord.f at h
  split at h
  · rename_i h1
    injection h with h
    subst h
    obtain ⟨k, hk⟩ := (rword_ev a0 (by omega)).rounds
    exact replevinref04_Word.calls k a0 _ w hk
  · cases h
end Go.Proofs.YtkdfilpinlebbaaDoor.G
