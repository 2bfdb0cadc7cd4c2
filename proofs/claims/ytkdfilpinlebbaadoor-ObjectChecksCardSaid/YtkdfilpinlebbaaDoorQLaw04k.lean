/- This session's texts for the claim, joined and shortened by this session's own program pack.py: what the claim does not need is struck. Part: Law04k. -/
import Derived.Test.YtkdfilpinlebbaaDoorQKnow04
import Derived.Test.YtkdfilpinlebbaaDoorQPD5
set_option linter.unusedVariables false
set_option linter.unusedSimpArgs false
namespace Go.Proofs.YtkdfilpinlebbaaDoor.G
open Go.RowKit Go.Proofs.YtkdfilpinlebbaaDoorW.PrintWords Go.Proofs.YtkdfilpinlebbaaDoorW.PrintLast Go.Proofs.YtkdfilpinlebbaaDoorW.PrintMore Go.Proofs.YtkdfilpinlebbaaDoor.PD
theorem known_f : replevinlaw04_known.f = some true := by
  have p2 : object_Parse.f (⟨#[108, 105, 115, 116, 105, 110, 103, 32, 48, 35, 48]⟩ : ByteArray) = some (10, (⟨#[]⟩ : ByteArray), 0, 0, (⟨#[]⟩ : ByteArray), 0) := by
    unfold object_Parse.f
    rw [gguess2]
    simp only [Option.bind_some]
    rw [if_neg (by rw [Lib.toList_data]; decide), string2]
    simp only [Option.bind_some]
    rw [if_pos (by rw [Lib.toList_data, Lib.toList_data]; rfl)]
  have p3 : object_Parse.f (⟨#[112, 97, 103, 101, 32, 51, 46, 49, 32, 54, 52]⟩ : ByteArray) = some (0, (⟨#[]⟩ : ByteArray), 0, 0, (⟨#[]⟩ : ByteArray), 3) := by
    unfold object_Parse.f
    rw [gguess3]
    simp only [Option.bind_some]
    rw [if_neg (by rw [Lib.toList_data]; decide), string3]
    simp only [Option.bind_some]
    rw [if_neg (by rw [Lib.toList_data, Lib.toList_data]; decide)]
  have b1 : object_OfBlock.f (⟨#[51, 46, 49]⟩ : ByteArray) 2 5 = some (8, (⟨#[51, 46, 49]⟩ : ByteArray), 2, 5, (⟨#[]⟩ : ByteArray)) := rfl
  have b2 : object_OfListing.f (⟨#[]⟩ : ByteArray) 0 = some (10, (⟨#[]⟩ : ByteArray), 0, 0, (⟨#[]⟩ : ByteArray)) := rfl
  unfold replevinlaw04_known.f
  rw [b1]
  simp only [Option.bind_some]
  rw [encode1]
  simp only [Option.bind_some]
  rw [p2]
  simp only [Option.bind_some]
  rw [p3]
  simp only [Option.bind_some]
  rw [string1, b2]
  simp [Lib.toList_data]
theorem checks_ev (a0 : Int) (a1 : ByteArray) (a2 a3 : Int) (a4 : ByteArray) : Ev (fun k => replevinlaw04_ObjectChecks.f k a0 a1 a2 a3 a4) true := by
  refine Ev.congr (fun k => by rw [replevinlaw04_ObjectChecks.f]) ?_
  refine Ev.bind (Ev.const known_f) (Ev.pos rfl ?_)
  have hj : ∀ b : Bool, (b = false → a1.size ≤ 100 ∧ a4.size ≤ 100) → Ev (fun k => replevinlaw04_ObjectChecks.j0 k b a0 a1 a2 a3 a4) true := by
    intro b hb
    refine Ev.step (fun k => by rw [replevinlaw04_ObjectChecks.j0]) ?_
    cases b with
    | true => exact Ev.pos rfl (Ev.bind (Ev.const known_f) (Ev.now _))
    | false =>
      obtain ⟨h1, h4⟩ := hb rfl
      refine Ev.neg (by decide) ?_
      refine Ev.bind (Ev.const (show replevinlaw04_To.f a0 a1 a2 a3 a4 = some (a0, a1, a2, a3, a4) from rfl)) ?_
      have e1 : g_Check.f a0 a1 a2 a3 a4 = some (chk ⟨a0, a1.data.toList, a2, a3, a4.data.toList⟩) := by unfold g_Check.f; rw [if_pos (by omega)]
      have e2 : g_rCheck.f a0 a1 a2 a3 a4 = some (chk ⟨a0, a1.data.toList, a2, a3, a4.data.toList⟩) := by unfold g_rCheck.f; rw [if_pos (by omega), if_pos (by omega)]
      have e3 : object_Birth_Check.f a1 a2 = some (chkB a1.data.toList a2) := by
        unfold object_Birth_Check.f
        have ev : lineage_Valid.f a1 = some (okLin a1.data.toList) := by
          unfold lineage_Valid.f lineage_parse.f
          rw [if_pos (by omega)]
          rfl
        rw [ev]
        unfold chkB
        simp only [Option.bind_some]
        cases okLin a1.data.toList with
        | false => rfl
        | true =>
          unfold object_number.f
          by_cases h : a2 ≥ 0
          · by_cases h' : a2 ≤ 1073741824
            · have e : ¬ (a2 < 0 ∨ 1073741824 < a2) := by omega
              simp [h, h', e]
            · have e : (a2 < 0 ∨ 1073741824 < a2) := by omega
              simp [h, h', e]
          · have e : (a2 < 0 ∨ 1073741824 < a2) := by omega
            simp [h, e]
      have e4 : g_rBirth.f a1 a2 = some (chkB a1.data.toList a2) := by unfold g_rBirth.f; rw [if_pos (by omega)]
      have e5 : ∀ s : ByteArray, g_Word.f s = some (wordL s.data.toList) := fun s => rfl
      have e6 : ∀ s : ByteArray, s.size ≤ 100 → g_rWord.f s = some (wordL s.data.toList) := fun s h => by unfold g_rWord.f; rw [if_pos (by omega)]
      refine Ev.bind (Ev.const e1) (Ev.bind (Ev.const e2) (Ev.pos rfl ?_))
      refine Ev.bind (Ev.const e3) (Ev.bind (Ev.const e4) (Ev.pos rfl ?_))
      refine Ev.bind (Ev.const (e5 a4)) (Ev.bind (Ev.const (e6 a4 h4)) (Ev.pos (by cases wordL a4.data.toList <;> rfl) ?_))
      refine Ev.bind (Ev.const (e5 a1)) (Ev.bind (Ev.const (e6 a1 h1)) (Ev.val (Ev.now _) ?_))
      cases wordL a1.data.toList <;> rfl
  have hl : replevinlaw04_long.f a0 a1 a2 a3 a4 = some (decide (a1.size > 100) || decide (a4.size > 100)) := by
    unfold replevinlaw04_long.f
    by_cases h : (a1.size : Int) > 100
    · rw [if_pos h]
      have : a1.size > 100 := by omega
      simp [this]
    · rw [if_neg h]
      have h' : ¬ a1.size > 100 := by omega
      have : decide ((a4.size : Int) > 100) = decide (a4.size > 100) := by
        by_cases g : a4.size > 100
        · rw [decide_eq_true g, decide_eq_true (by omega)]
        · rw [decide_eq_false g, decide_eq_false (by omega)]
      rw [this]
      simp [h']
  refine Ev.bind (Ev.const hl) (hj _ ?_)
  intro h
  simp only [Bool.or_eq_false_iff, decide_eq_false_iff_not] at h
  omega
end Go.Proofs.YtkdfilpinlebbaaDoor.G
