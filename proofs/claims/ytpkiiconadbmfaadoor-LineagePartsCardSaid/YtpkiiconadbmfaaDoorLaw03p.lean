/- The law of layer 3 in plain words: Parts. -/
import Derived.Test.YtpkiiconadbmfaaDoorFun03d
import Derived.Test.YtpkiiconadbmfaaDoorPA8
import Derived.Test.YtpkiiconadbmfaaDoorPA9
set_option linter.unusedVariables false
set_option linter.unusedSimpArgs false
namespace Go.Proofs.YtpkiiconadbmfaaDoor.G
open Go.RowKit Go.Proofs.YtpkiiconadbmfaaDoorW.PrintWords Go.Proofs.YtpkiiconadbmfaaDoorW.PrintLast Go.Proofs.YtpkiiconadbmfaaDoorW.PrintMore Go.Proofs.YtpkiiconadbmfaaDoor.PA

theorem w64m (i : Nat) (h0 : 0 < i) (h : i ≤ 1000000) : wrap64 ((i : Int) - 1) = ((i - 1 : Nat) : Int) := by
  rw [w64 _ (by omega) (by omega)]
  omega
def Pa (a : ByteArray) : ByteArray × Bool := if O a = [] then (B [], false) else (B (textL ((O a).take ((O a).length - 1))), true)
theorem len_ne {l : List Int} (h : l ≠ []) : 0 < l.length := by
  cases l with
  | nil => exact absurd rfl h
  | cons x l => exact Nat.succ_pos _
theorem parent_ev (a : ByteArray) (ha : Sz a) : Ev (fun k => lineage_Name_Parent.f k a) (Pa a) := by
  refine Ev.congr (fun k => by rw [lineage_Name_Parent.f]) (Ev.bind (Ev.const (lords a ha)) ?_)
  unfold Pa
  by_cases h : O a = []
  · rw [if_pos h]
    exact Ev.pos (by rw [h]; rfl) (Ev.now _)
  · rw [if_neg h]
    have h0 := len_ne h
    have hne : ¬ ((O a).length : Int) = 0 := by omega
    have hle : (O a).length - 1 ≤ (O a).length := Nat.sub_le _ _
    rw [w64m _ h0 (okL_len (okO a))]
    exact Ev.neg hne (Ev.pos (n0 _) (Ev.pos (nle hle) (Ev.bind (named_ev (okL_take (okO a) _)) (Ev.now _))))
theorem depth_ev (a : ByteArray) (ha : Sz a) : lineage_Name_Depth.f a = some ((O a).length : Int) := by
  unfold lineage_Name_Depth.f
  rw [lords a ha]
  rfl
def La (a : ByteArray) : Int := if O a = [] then 0 else rd (O a) (((O a).length - 1 : Nat) : Int)
theorem last_ev (a : ByteArray) (ha : Sz a) : lineage_Name_Last.f a = some (La a) := by
  unfold lineage_Name_Last.f La
  rw [lords a ha]
  simp only [Option.bind_some]
  by_cases h : O a = []
  · rw [if_pos h, if_pos (by rw [h]; rfl)]
  · rw [if_neg h]
    have h0 := len_ne h
    have hne : ¬ ((O a).length : Int) = 0 := by omega
    have hlt : (O a).length - 1 < (O a).length := by omega
    rw [w64m _ h0 (okL_len (okO a)), if_neg hne, if_pos (n0 _), if_pos (nlt hlt)]
def Ro (a : ByteArray) : ByteArray := B (textL ((O a).take 1))
theorem root_ev (a : ByteArray) (ha : Sz a) : Ev (fun k => lineage_Name_Root.f k a) (Ro a) := by
  refine Ev.congr (fun k => by rw [lineage_Name_Root.f]) (Ev.bind (Ev.const (lords a ha)) ?_)
  have hm : mn ((O a).length : Int) 1 = ((min (O a).length 1 : Nat) : Int) := by unfold mn; split <;> omega
  rw [hm]
  have hle : min (O a).length 1 ≤ (O a).length := Nat.min_le_left _ _
  refine Ev.pos (n0 _) (Ev.pos (nle hle) (Ev.bind (named_ev (okL_take (okO a) _)) (Ev.val (Ev.now _) ?_)))
  unfold Ro
  have : (O a).take (((min (O a).length 1 : Nat) : Int).toNat) = (O a).take 1 := by
    rw [Int.toNat_natCast]
    cases hO : O a with
    | nil => rfl
    | cons x l => simp
  rw [this]

theorem B_nil_toList : (B []).toList = ([] : List UInt8) := B_toList []
theorem La_nil {a : ByteArray} (h : O a = []) : La a = 0 := by unfold La; rw [if_pos h]
theorem La_cons {a : ByteArray} (h : O a ≠ []) : La a = rd (O a) (((O a).length - 1 : Nat) : Int) := by unfold La; rw [if_neg h]
theorem Pa_nil {a : ByteArray} (h : O a = []) : Pa a = (B [], false) := by unfold Pa; rw [if_pos h]
theorem Pa_cons {a : ByteArray} (h : O a ≠ []) : Pa a = (B (textL ((O a).take ((O a).length - 1))), true) := by unfold Pa; rw [if_neg h]
theorem Ro_nil {a : ByteArray} (h : O a = []) : Ro a = B [] := by unfold Ro; rw [h]; rfl

/-- What Child answers, once the number is one that a name may bear and there is room. -/
theorem Ch_ok {a : ByteArray} {n : Int} (ha : V a = true) (hn : ¬ (n < 1 ∨ n > 999999)) (h8 : (O a).length ≠ 8) : okL (O a ++ [n]) ∧ Ch a n = (B (textL (O a ++ [n])), 0) := by
  have hk := okO a
  have hok : okL (O a ++ [n]) := by
    refine ⟨?_, ?_⟩
    · rw [List.length_append]
      have := hk.1
      show (O a).length + 1 ≤ 8
      omega
    · intro m hm
      rcases List.mem_append.1 hm with h | h
      · exact hk.2 m h
      · rw [List.mem_singleton.1 h]
        unfold okOrd
        omega
  refine ⟨hok, ?_⟩
  unfold Ch
  rw [if_pos ha, if_neg hn, mk_ok hok]
theorem Ch_full {a : ByteArray} {n : Int} (ha : V a = true) (hn : ¬ (n < 1 ∨ n > 999999)) (h8 : (O a).length = 8) : Ch a n = (B [], 9) := by
  unfold Ch mk
  rw [if_pos ha, if_neg hn, if_pos (by rw [List.length_append, h8]; show 8 < 8 + 1; decide)]

theorem parts_j2 (a : ByteArray) (n : Int) (ha : V a = true) (sa : Sz a) (bad : Bool) (hb : bad = true ↔ (n < 1 ∨ n > 999999)) :
    Ev (fun k => replevinlaw03_LineageParts.j2 k a n (O a) (Ch a n).1 (Ch a n).2 bad) true := by
  refine Ev.step (fun k => by rw [replevinlaw03_LineageParts.j2]) ?_
  by_cases hn : n < 1 ∨ n > 999999
  · have hc : Ch a n = (B [], 2) := by unfold Ch; rw [if_pos ha, if_pos hn]
    rw [hc]
    exact Ev.pos (hb.2 hn) (Ev.pos rfl (Ev.val (Ev.now _) (by rw [B_nil_toList]; rfl)))
  · refine Ev.neg (fun h => hn (hb.1 h)) ?_
    by_cases h8 : (O a).length = 8
    · rw [Ch_full ha hn h8]
      exact Ev.pos (show ((O a).length : Int) = 8 by rw [h8]; rfl) (Ev.pos rfl (Ev.val (Ev.now _) (by rw [B_nil_toList]; rfl)))
    · obtain ⟨hok, hc⟩ := Ch_ok ha hn h8
      rw [hc]
      have hsz := textL_sz hok
      have hO := O_text hok
      have hne : O (B (textL (O a ++ [n]))) ≠ [] := by rw [hO]; simp
      refine Ev.neg (fun h => h8 (by omega)) (Ev.bind (parent_ev (B (textL (O a ++ [n]))) hsz) (Ev.pos rfl ?_))
      rw [Pa_cons hne, hO]
      have ht : (O a ++ [n]).take ((O a ++ [n]).length - 1) = O a := by
        rw [List.length_append]
        show (O a ++ [n]).take (O a).length = O a
        exact List.take_left
      rw [ht, (V_ok ha).2]
      refine Ev.pos rfl (Ev.pos rfl (Ev.bind (Ev.const (last_ev (B (textL (O a ++ [n]))) hsz)) (Ev.pos ?_ (Ev.bind (Ev.const (depth_ev (B (textL (O a ++ [n]))) hsz)) (Ev.val (Ev.now _) ?_)))))
      · rw [La_cons hne, hO]
        have hl : (O a ++ [n]).length - 1 < (O a ++ [n]).length := by rw [List.length_append]; show (O a).length < (O a).length + 1; omega
        rw [rd_nat _ _ hl]
        have e : (O a ++ [n]).length - 1 = (O a).length := by rw [List.length_append]; rfl
        simp [e]
      · rw [hO, List.length_append, w64s (O a).length (by have := (okO a).1; omega)]
        simp
theorem parts_j1 (a : ByteArray) (n : Int) (ha : V a = true) (sa : Sz a) :
    Ev (fun k => replevinlaw03_LineageParts.j1 k a n (O a) (Ch a n).1 (Ch a n).2) true := by
  refine Ev.step (fun k => by rw [replevinlaw03_LineageParts.j1]) ?_
  refine Ev.ite (fun h => parts_j2 a n ha sa true ⟨fun _ => Or.inl h, fun _ => rfl⟩) (fun h => parts_j2 a n ha sa _ ?_)
  rw [decide_eq_true_iff]
  exact ⟨fun g => Or.inr g, fun g => g.elim (fun x => absurd x h) id⟩

theorem LineageParts_pure : replevinlaw03_LineageParts.Pure := by
  intro a0 n _ _
  refine Ev.rounds ?_
  obtain ⟨a, ea, sa⟩ := short_sz a0
  have hk := okO a
  have hlen := hk.1
  have va : (parseL a.data.toList).2.2 = 0 ↔ V a = true := by unfold V; simp
  refine Ev.congr (fun k => by rw [replevinlaw03_LineageParts.f]) ?_
  refine Ev.bind (Ev.const ea) (Ev.bind (rparse_ev a sa) (Ev.bind (child_ev a n sa) (Ev.bind (parent_ev a sa) (Ev.bind known_ev (Ev.pos rfl (Ev.bind (Ev.const (lords a sa)) (Ev.bind (same_ev (O a) (okL_len hk)) (Ev.pos rfl (Ev.bind (Ev.const (depth_ev a sa)) (Ev.step (fun k => by rw [replevinlaw03_LineageParts.j0]) ?_))))))))))
  refine Ev.neg (show ¬ ((((O a).length : Int) != ((O a).length : Int)) = true) by simp) ?_
  by_cases hv : V a = true
  · refine Ev.pos (va.2 hv) ?_
    by_cases h0 : O a = []
    · refine Ev.pos (show ((O a).length : Int) = 0 by rw [h0]; rfl) (Ev.bind (Ev.const (last_ev a sa)) (Ev.pos (La_nil h0) (Ev.bind (root_ev a sa) ?_)))
      rw [Ro_nil h0, Pa_nil h0]
      exact Ev.pos B_nil_toList (Ev.pos B_nil_toList (Ev.neg (by decide) (parts_j1 a n hv sa)))
    · have hpos := len_ne h0
      have hne : ¬ ((O a).length : Int) = 0 := by omega
      have hlt : (O a).length - 1 < (O a).length := by omega
      have hle : (O a).length - 1 ≤ (O a).length := Nat.sub_le _ _
      have h1 : (1 : Int) ≤ ((O a).length : Int) := by omega
      refine Ev.neg hne (Ev.bind (Ev.const (last_ev a sa)) ?_)
      have ew : wrap64 (((parseL a.data.toList).1.length : Int) - 1) = (((O a).length - 1 : Nat) : Int) := w64m (O a).length hpos (okL_len hk)
      rw [ew]
      refine Ev.pos (n0 _) (Ev.pos (nlt hlt) (Ev.pos (La_cons h0) (Ev.bind (root_ev a sa) (Ev.pos h1 (Ev.bind (text_ev (okL_take hk 1)) (Ev.pos rfl ?_))))))
      rw [Pa_cons h0]
      exact Ev.pos rfl (Ev.pos (nle hle) (Ev.bind (text_ev (okL_take hk _)) (Ev.pos rfl (parts_j1 a n hv sa))))
  · have h0 : O a = [] := O_no (by simpa using hv)
    have hc : Ch a n = (B [], 12) := by unfold Ch; rw [if_neg hv]
    refine Ev.neg (fun h => hv (va.1 h)) (Ev.bind (Ev.const (last_ev a sa)) (Ev.pos (La_nil h0) (Ev.bind (root_ev a sa) ?_)))
    rw [Ro_nil h0, Pa_nil h0, hc]
    exact Ev.pos B_nil_toList (Ev.pos B_nil_toList (Ev.neg (by decide) (Ev.pos B_nil_toList (Ev.now _))))

end Go.Proofs.YtpkiiconadbmfaaDoor.G
