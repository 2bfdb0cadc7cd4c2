/- The law of layer 3 in plain words: Makes. -/
import Derived.Test.YtpkiiconadbmfaaDoorFun03d
import Derived.Test.YtpkiiconadbmfaaDoorPAk
set_option linter.unusedVariables false
set_option linter.unusedSimpArgs false
namespace Go.Proofs.YtpkiiconadbmfaaDoor.G
open Go.RowKit Go.Proofs.YtpkiiconadbmfaaDoorW.PrintWords Go.Proofs.YtpkiiconadbmfaaDoorW.PrintLast Go.Proofs.YtpkiiconadbmfaaDoorW.PrintMore Go.Proofs.YtpkiiconadbmfaaDoor.PA

theorem rmake_loop (l : List Int) (h8 : l.length ≤ 8) : ∀ (d i : Nat), i ≤ l.length → l.length - i = d → (∀ n ∈ l.take i, okOrd n) →
    Ev (fun k => replevinref03_Make.l0 k l (i : Int)) (if (∀ n ∈ l, okOrd n) then (B (textL l), 0) else (B [], 2)) := by
  intro d
  induction d with
  | zero =>
    intro i hi hd hok
    obtain rfl : i = l.length := by omega
    rw [List.take_length] at hok
    rw [if_pos hok]
    exact Ev.step (fun k => by rw [replevinref03_Make.l0]) (Ev.neg (nnlt (Nat.lt_irrefl _)) (Ev.bind (text_ev ⟨h8, hok⟩) (Ev.now _)))
  | succ d ih =>
    intro i hi hd hok
    have hil : i < l.length := by omega
    refine Ev.step (fun k => by rw [replevinref03_Make.l0]) (Ev.pos (nlt hil) (Ev.pos (n0 _) ?_))
    rw [rd_nat l i hil]
    by_cases h1 : l[i] < 1
    · refine Ev.val (Ev.pos h1 (Ev.now _)) ?_
      rw [if_neg (fun h => by have := (h _ (List.getElem_mem hil)).1; omega)]
      rfl
    · refine Ev.neg h1 ?_
      by_cases h2 : l[i] > 999999
      · refine Ev.val (Ev.pos h2 (Ev.now _)) ?_
        rw [if_neg (fun h => by have := (h _ (List.getElem_mem hil)).2; omega)]
        rfl
      · refine Ev.neg h2 ?_
        rw [w64s i (by omega)]
        refine ih (i + 1) (by omega) (by omega) ?_
        intro n hn
        rw [List.take_succ_eq_append_getElem hil] at hn
        rcases List.mem_append.1 hn with h | h
        · exact hok n h
        · rw [List.mem_singleton.1 h]
          exact ⟨by omega, by omega⟩
theorem rmake_ev (l : List Int) : Ev (fun k => replevinref03_Make.f k l) (mk l) := by
  unfold mk
  refine Ev.congr (fun k => by rw [replevinref03_Make.f]) ?_
  by_cases h8 : 8 < l.length
  · rw [if_pos h8]
    exact Ev.pos (show (l.length : Int) > 8 by omega) (Ev.now _)
  · rw [if_neg h8]
    exact Ev.neg (show ¬ (l.length : Int) > 8 by omega) (rmake_loop l (by omega) l.length 0 (by omega) (by omega) (by simp))
theorem mk_zero {l : List Int} (h : (mk l).2 = 0) : okL l := by
  unfold mk at h
  by_cases h8 : 8 < l.length
  · rw [if_pos h8] at h
    exact absurd h (by decide)
  · rw [if_neg h8] at h
    by_cases hk : ∀ n ∈ l, okOrd n
    · exact ⟨by omega, hk⟩
    · rw [if_neg hk] at h
      exact absurd h (by decide)

theorem LineageMakes_pure : replevinlaw03_LineageMakes.Pure := by
  intro l0 hm _ _
  refine Ev.rounds ?_
  refine Ev.congr (fun k => by rw [replevinlaw03_LineageMakes.f]) ?_
  have main : ∀ l : List Int, l.length ≤ 17592186044416 → Ev (fun k => (lineage_Make.f k l).bind fun bt197 => ((replevinref03_Make.f k l).bind fun bt199 => ((replevinlaw03_known.f k).bind fun t201 => (if t201 = true then (if bt197.1.toList = bt199.1.toList then (if bt197.2 = bt199.2 then (if bt199.2 = 0 then ((lineage_Parse.f bt199.1).bind fun bt202 => (if bt202.1.toList = bt197.1.toList then (if bt202.2.1 = 0 then (if bt202.2.2 = 0 then ((lineage_Name_Ordinals.f bt197.1).bind fun t205 => ((replevinlaw03_same.f k t205 l).bind fun t208 => (if t208 = true then ((lineage_Valid.f bt197.1).bind fun t209 => (some t209)) else (some false)))) else (some false)) else (some false)) else (some false))) else (some true)) else (some false)) else (some false)) else (some false))))) true := by
    intro l hl
    refine Ev.bind (make_ev l hl) (Ev.bind (rmake_ev l) (Ev.bind known_ev (Ev.pos rfl (Ev.pos rfl (Ev.pos rfl (Ev.ite (fun h => ?_) (fun _ => Ev.now _)))))))
    have hok := mk_zero h
    have hsz := textL_sz hok
    rw [mk_ok hok]
    have hp : (parseL (B (textL l)).data.toList).2.2 = 0 := by rw [B_data, parse_text hok]
    refine Ev.bind (Ev.const (lparse_name (B (textL l)) hsz)) ?_
    rw [if_pos hp]
    refine Ev.pos rfl (Ev.pos rfl (Ev.pos rfl (Ev.bind (Ev.const (lords (B (textL l)) hsz)) ?_)))
    rw [O_text hok]
    refine Ev.bind (same_ev l (okL_len hok)) (Ev.pos rfl (Ev.bind (Ev.const (lvalid (B (textL l)) hsz)) ?_))
    rw [V_text hok]
    exact Ev.now _
  refine Ev.ite (fun h => Ev.pos (show (20 : Int) ≤ (l0.length : Int) by omega) (main (l0.take 20) ?_)) (fun h => main l0 ?_)
  · rw [List.length_take]
    omega
  · omega

end Go.Proofs.YtpkiiconadbmfaaDoor.G
