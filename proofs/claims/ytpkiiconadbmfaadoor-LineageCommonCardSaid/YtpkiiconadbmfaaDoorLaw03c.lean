/- The law of layer 3 in plain words: Common. -/
import Derived.Test.YtpkiiconadbmfaaDoorFun03d
import Derived.Test.YtpkiiconadbmfaaDoorPA6
set_option linter.unusedVariables false
set_option linter.unusedSimpArgs false
namespace Go.Proofs.YtpkiiconadbmfaaDoor.G
open Go.RowKit Go.Proofs.YtpkiiconadbmfaaDoorW.PrintWords Go.Proofs.YtpkiiconadbmfaaDoorW.PrintLast Go.Proofs.YtpkiiconadbmfaaDoorW.PrintMore Go.Proofs.YtpkiiconadbmfaaDoor.PA

theorem rcommon_loop (a b : List Int) (ha : okL a) : ∀ (d i : Nat), i ≤ cm a b → cm a b - i = d →
    Ev (fun k => replevinref03_Common.l0 k a b (i : Int)) (B (textL (a.take (cm a b)))) := by
  intro d
  have hle := cm_le a b
  have hl := ha.1
  induction d with
  | zero =>
    intro i hi hd
    have hie : cm a b = i := by omega
    have hia : i ≤ a.length := by omega
    have htext := text_ev (okL_take ha i)
    refine Ev.step (fun k => by rw [replevinref03_Common.l0]) ?_
    rw [hie]
    by_cases h1 : i < a.length
    · refine Ev.pos (nlt h1) ?_
      by_cases h2 : i < b.length
      · refine Ev.pos (nlt h2) (Ev.pos (n0 _) (Ev.neg ?_ (Ev.pos (nle hia) (Ev.bind htext (Ev.now _)))))
        rw [rd_nat a i h1, rd_nat b i h2]
        intro e
        have hdr := cm_drop a b i hi
        rw [List.drop_eq_getElem_cons h1, List.drop_eq_getElem_cons h2, cm_cons, if_pos e] at hdr
        omega
      · exact Ev.neg (nnlt h2) (Ev.pos (n0 _) (Ev.pos (nle hia) (Ev.bind htext (Ev.now _))))
    · exact Ev.neg (nnlt h1) (Ev.pos (n0 _) (Ev.pos (nle hia) (Ev.bind htext (Ev.now _))))
  | succ d ih =>
    intro i hi hd
    have h1 : i < a.length := by omega
    have h2 : i < b.length := by omega
    have hdr := cm_drop a b i hi
    rw [List.drop_eq_getElem_cons h1, List.drop_eq_getElem_cons h2] at hdr
    have heq : a[i] = b[i] := by
      apply Classical.byContradiction
      intro hne
      have : cm (a[i] :: a.drop (i + 1)) (b[i] :: b.drop (i + 1)) = 0 := by rw [cm_cons, if_neg hne]
      omega
    refine Ev.step (fun k => by rw [replevinref03_Common.l0]) (Ev.pos (nlt h1) (Ev.pos (nlt h2) (Ev.pos (n0 _) (Ev.pos ?_ ?_))))
    · rw [rd_nat a i h1, rd_nat b i h2]
      exact heq
    · rw [w64s i (by omega)]
      exact ih (i + 1) (by omega) (by omega)
theorem rcommon_ev (a b : ByteArray) (ha : Sz a) (hb : Sz b) : Ev (fun k => replevinref03_Common.f k a b) (Cn a b) := by
  refine Ev.congr (fun k => by rw [replevinref03_Common.f]) (Ev.bind (rparse_ev a ha) (Ev.bind (rparse_ev b hb) ?_))
  unfold Cn V
  by_cases h1 : (parseL a.data.toList).2.2 = 0
  · refine Ev.pos h1 (Ev.step (fun k => by rw [replevinref03_Common.j0]) ?_)
    by_cases h2 : (parseL b.data.toList).2.2 = 0
    · refine Ev.neg (by rw [h2]; decide) (Ev.val (rcommon_loop (O a) (O b) (okO a) (cm (O a) (O b)) 0 (Nat.zero_le _) rfl) ?_)
      rw [if_pos ⟨by rw [h1]; rfl, by rw [h2]; rfl⟩]
    · refine Ev.pos (by simp [h2]) (Ev.val (Ev.now _) ?_)
      rw [if_neg (fun h => h2 (by simpa using h.2))]
      rfl
  · refine Ev.neg h1 (Ev.step (fun k => by rw [replevinref03_Common.j0]) (Ev.pos rfl (Ev.val (Ev.now _) ?_)))
    rw [if_neg (fun h => h1 (by simpa using h.1))]
    rfl

theorem LineageCommon_pure : replevinlaw03_LineageCommon.Pure := by
  intro a0 a1 a2 _ _ _
  refine Ev.rounds ?_
  obtain ⟨a, ea, sa⟩ := short_sz a0
  obtain ⟨b, eb, sb⟩ := short_sz a1
  obtain ⟨c, ec, sc⟩ := short_sz a2
  refine Ev.congr (fun k => by rw [replevinlaw03_LineageCommon.f]) ?_
  refine Ev.bind (Ev.const ea) (Ev.bind (Ev.const eb) (Ev.bind (Ev.const ec) (Ev.bind (lcommon_ev a b sa sb) (Ev.bind known_ev (Ev.pos rfl ?_)))))
  refine Ev.bind (rcommon_ev a b sa sb) (Ev.pos rfl (Ev.bind (lcommon_ev b a sb sa) (Ev.step (fun k => by rw [replevinlaw03_LineageCommon.j0]) (Ev.neg (by rw [Cn_comm a b]; simp) ?_))))
  refine Ev.bind (within_ev a c sa sc) (Ev.ite (fun h1 => Ev.bind (within_ev b c sb sc) (Ev.ite (fun h2 => ?_) (fun _ => Ev.now _))) (fun _ => Ev.now _))
  refine Ev.bind (within_ev (Cn a b) c (Cn_sz a b) sc) (Ev.val (Ev.now _) ?_)
  obtain ⟨g1, g2, g3⟩ := (Wn_iff _ _).1 h1
  obtain ⟨k1, k2, k3⟩ := (Wn_iff _ _).1 h2
  refine (Wn_iff _ _).2 ⟨V_Cn a b, g2, ?_⟩
  rw [O_Cn g1 k1]
  exact cm_greatest _ _ _ g3 k3


end Go.Proofs.YtpkiiconadbmfaaDoor.G
