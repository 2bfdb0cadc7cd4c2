/- The law of layer 3 in plain words: Within. -/
import Derived.Test.YtpkiiconadbmfaaDoorFun03d
import Derived.Test.YtpkiiconadbmfaaDoorPA5
set_option linter.unusedVariables false
set_option linter.unusedSimpArgs false
namespace Go.Proofs.YtpkiiconadbmfaaDoor.G
open Go.RowKit Go.Proofs.YtpkiiconadbmfaaDoorW.PrintWords Go.Proofs.YtpkiiconadbmfaaDoorW.PrintLast Go.Proofs.YtpkiiconadbmfaaDoorW.PrintMore Go.Proofs.YtpkiiconadbmfaaDoor.PA

theorem rwithin_loop (a b : List Int) (ha : a.length ≤ 1000000) (hb : b.length ≤ a.length) : ∀ (d i : Nat), i ≤ cm a b → cm a b - i = d →
    Ev (fun k => replevinref03_Within.l0 k a b (i : Int)) (decide (cm a b = b.length)) := by
  intro d
  have hle := cm_le a b
  induction d with
  | zero =>
    intro i hi hd
    have hie : cm a b = i := by omega
    refine Ev.step (fun k => by rw [replevinref03_Within.l0]) ?_
    by_cases h2 : i < b.length
    · have h1 : i < a.length := by omega
      refine Ev.pos (by omega) (Ev.pos (by omega) (Ev.pos (by omega) (Ev.neg ?_ (Ev.val (Ev.now _) ?_))))
      · rw [rd_nat a i h1, rd_nat b i h2]
        intro e
        have hdr := cm_drop a b i (by omega)
        rw [List.drop_eq_getElem_cons h1, List.drop_eq_getElem_cons h2, cm_cons, if_pos e] at hdr
        omega
      · symm
        rw [decide_eq_false_iff_not]
        omega
    · refine Ev.neg (by omega) (Ev.val (Ev.now _) ?_)
      symm
      rw [decide_eq_true_iff]
      omega
  | succ d ih =>
    intro i hi hd
    have h1 : i < a.length := by omega
    have h2 : i < b.length := by omega
    have hdr := cm_drop a b i hi
    rw [List.drop_eq_getElem_cons h1, List.drop_eq_getElem_cons h2] at hdr
    have heq : a[i] = b[i] := by
      apply Classical.byContradiction
      intro hne
      have : cm (a[i] :: a.drop (i + 1)) (b[i] :: b.drop (i + 1)) = 0 := by rw [cm_cons, if_neg hne]
      omega
    refine Ev.step (fun k => by rw [replevinref03_Within.l0]) (Ev.pos (by omega) (Ev.pos (by omega) (Ev.pos (by omega) (Ev.pos ?_ ?_))))
    · rw [rd_nat a i h1, rd_nat b i h2]
      exact heq
    · rw [w64 ((i : Int) + 1) (by omega) (by omega)]
      exact ih (i + 1) (by omega) (by omega)

theorem rwithin_ev (a b : ByteArray) (ha : Sz a) (hb : Sz b) : Ev (fun k => replevinref03_Within.f k a b) (Wn a b) := by
  refine Ev.congr (fun k => by rw [replevinref03_Within.f]) (Ev.bind (rparse_ev a ha) (Ev.bind (rparse_ev b hb) ?_))
  unfold Wn V
  by_cases h1 : (parseL a.data.toList).2.2 = 0
  · refine Ev.pos h1 ?_
    by_cases h2 : (parseL b.data.toList).2.2 = 0
    · refine Ev.pos h2 (Ev.step (fun k => by rw [replevinref03_Within.j0]) ?_)
      rw [h1, h2]
      have hle := cm_le (O a) (O b)
      refine Ev.ite (fun h => Ev.val (Ev.now _) ?_) (fun h => Ev.val (rwithin_loop (O a) (O b) (okL_len (okO a)) ?_ (cm (O a) (O b)) 0 (Nat.zero_le _) rfl) (by simp))
      · have h' : ((O a).length : Int) < ((O b).length : Int) := of_decide_eq_true h
        symm
        simp
        omega
      · have h' : ¬ ((O a).length : Int) < ((O b).length : Int) := fun g => h (decide_eq_true g)
        omega
    · refine Ev.neg h2 (Ev.step (fun k => by rw [replevinref03_Within.j0]) (Ev.pos rfl (Ev.val (Ev.now _) ?_)))
      simp [h2]
  · refine Ev.neg h1 (Ev.step (fun k => by rw [replevinref03_Within.j0]) (Ev.pos rfl (Ev.val (Ev.now _) ?_)))
    simp [h1]

theorem LineageWithin_pure : replevinlaw03_LineageWithin.Pure := by
  intro a0 a1 a2 _ _ _
  refine Ev.rounds ?_
  obtain ⟨a, ea, sa⟩ := short_sz a0
  obtain ⟨b, eb, sb⟩ := short_sz a1
  obtain ⟨c, ec, sc⟩ := short_sz a2
  refine Ev.congr (fun k => by rw [replevinlaw03_LineageWithin.f]) ?_
  refine Ev.bind (Ev.const ea) (Ev.bind (Ev.const eb) (Ev.bind (Ev.const ec) (Ev.bind (within_ev a b sa sb) (Ev.bind (within_ev b a sb sa) (Ev.bind known_ev (Ev.pos rfl ?_))))))
  refine Ev.bind (rwithin_ev a b sa sb) (Ev.pos (beq_refl' _) (Ev.bind (rwithin_ev b a sb sa) (Ev.pos (beq_refl' _) ?_)))
  refine Ev.ite (fun h1 => Ev.ite (fun h2 => Ev.pos (by rw [Wn_anti h1 h2]) (Ev.bind (within_ev b c sb sc) (Ev.ite (fun h3 => ?_) (fun _ => ?_)))) (fun _ => Ev.bind (within_ev b c sb sc) (Ev.ite (fun h3 => ?_) (fun _ => ?_)))) (fun _ => ?_)
  · refine Ev.bind (within_ev a c sa sc) (Ev.pos (Wn_trans h1 h3) ?_)
    exact Ev.bind (within_ev a a sa sa) (Ev.bind (Ev.const (lvalid a sa)) (Ev.pos (by rw [Wn_self]; exact beq_refl' _) (Ev.bind (within_ev a ⟨#[]⟩ sa sz_nil) (Ev.bind (Ev.const (lvalid a sa)) (Ev.val (Ev.now _) (by rw [Wn_nil]; exact beq_refl' _))))))
  · exact Ev.bind (within_ev a a sa sa) (Ev.bind (Ev.const (lvalid a sa)) (Ev.pos (by rw [Wn_self]; exact beq_refl' _) (Ev.bind (within_ev a ⟨#[]⟩ sa sz_nil) (Ev.bind (Ev.const (lvalid a sa)) (Ev.val (Ev.now _) (by rw [Wn_nil]; exact beq_refl' _))))))
  · refine Ev.bind (within_ev a c sa sc) (Ev.pos (Wn_trans h1 h3) ?_)
    exact Ev.bind (within_ev a a sa sa) (Ev.bind (Ev.const (lvalid a sa)) (Ev.pos (by rw [Wn_self]; exact beq_refl' _) (Ev.bind (within_ev a ⟨#[]⟩ sa sz_nil) (Ev.bind (Ev.const (lvalid a sa)) (Ev.val (Ev.now _) (by rw [Wn_nil]; exact beq_refl' _))))))
  · exact Ev.bind (within_ev a a sa sa) (Ev.bind (Ev.const (lvalid a sa)) (Ev.pos (by rw [Wn_self]; exact beq_refl' _) (Ev.bind (within_ev a ⟨#[]⟩ sa sz_nil) (Ev.bind (Ev.const (lvalid a sa)) (Ev.val (Ev.now _) (by rw [Wn_nil]; exact beq_refl' _))))))
  · exact Ev.bind (within_ev a a sa sa) (Ev.bind (Ev.const (lvalid a sa)) (Ev.pos (by rw [Wn_self]; exact beq_refl' _) (Ev.bind (within_ev a ⟨#[]⟩ sa sz_nil) (Ev.bind (Ev.const (lvalid a sa)) (Ev.val (Ev.now _) (by rw [Wn_nil]; exact beq_refl' _))))))


end Go.Proofs.YtpkiiconadbmfaaDoor.G
