/- What the printed functions of layer 3 answer, in plain words: the functions of names. -/
import Derived.Test.YtpkiiconadbmfaaDoorFun03c
set_option linter.unusedVariables false
set_option linter.unusedSimpArgs false
namespace Go.Proofs.YtpkiiconadbmfaaDoor.G
open Go.RowKit Go.Proofs.YtpkiiconadbmfaaDoorW.PrintWords Go.Proofs.YtpkiiconadbmfaaDoorW.PrintLast Go.Proofs.YtpkiiconadbmfaaDoorW.PrintMore Go.Proofs.YtpkiiconadbmfaaDoor.PA

theorem Ev.ite {α : Type} {c : Prop} [Decidable c] {f g : Nat → Option α} {r : α} (h : c → Ev f r) (k : ¬ c → Ev g r) : Ev (fun n => if c then f n else g n) r := by
  by_cases hc : c
  · exact Ev.pos hc (h hc)
  · exact Ev.neg hc (k hc)

/-! ### Sizes -/
def Sz (s : ByteArray) : Prop := s.size ≤ 140737488351232
theorem short_sz (s : ByteArray) : ∃ t, replevinlaw03_short.f s = some t ∧ Sz t := by
  unfold replevinlaw03_short.f
  have h0 : 0 ≤ mn (s.size : Int) 80 := by unfold mn; split <;> omega
  have h1 : mn (s.size : Int) 80 ≤ (s.size : Int) := by unfold mn; split <;> omega
  have h2 : mn (s.size : Int) 80 ≤ 80 := by unfold mn; split <;> omega
  rw [if_pos h0, if_pos h1]
  refine ⟨_, rfl, ?_⟩
  unfold Sz
  rw [ByteArray.size_extract]
  omega
theorem sz_nil : Sz (B []) := Nat.zero_le _
theorem textL_sz {l : List Int} (h : okL l) : Sz (B (textL l)) := by
  unfold Sz
  rw [B_size]
  have h1 := textL_len h
  have h2 := h.1
  omega

/-! ### Make and the names of lists -/
theorem okL_len {l : List Int} (h : okL l) : l.length ≤ 1000000 := Nat.le_trans h.1 (by decide)
theorem named_ev {l : List Int} (h : okL l) : Ev (fun k => lineage_named.f k l) (B (textL l)) := by
  refine Ev.congr (fun k => by rw [lineage_named.f]) (Ev.bind (make_ev l (Nat.le_trans h.1 (by decide))) ?_)
  rw [mk_ok h]
  exact Ev.now _

/-! ### Within -/
def Wn (a b : ByteArray) : Bool := V a && V b && decide (cm (O a) (O b) = (O b).length)
theorem Wn_iff (a b : ByteArray) : Wn a b = true ↔ V a = true ∧ V b = true ∧ O b <+: O a := by
  unfold Wn
  rw [Bool.and_eq_true, Bool.and_eq_true, decide_eq_true_iff, cm_prefix, and_assoc]
theorem within_ev (a b : ByteArray) (ha : Sz a) (hb : Sz b) : Ev (fun k => lineage_Within.f k a b) (Wn a b) := by
  refine Ev.congr (fun k => by rw [lineage_Within.f]) (Ev.bind (Ev.const (lvalid a ha)) ?_)
  unfold Wn
  cases h1 : V a with
  | false =>
    refine Ev.neg (by decide) (Ev.step (fun k => by rw [lineage_Within.j0]) ?_)
    exact Ev.pos rfl (Ev.now _)
  | true =>
    refine Ev.pos rfl (Ev.bind (Ev.const (lvalid b hb)) (Ev.step (fun k => by rw [lineage_Within.j0]) ?_))
    cases h2 : V b with
    | false => exact Ev.pos rfl (Ev.now _)
    | true =>
      refine Ev.neg (by decide) (Ev.bind (Ev.const (lords b hb)) (Ev.bind (Ev.const (lords a ha)) (Ev.bind (common_ev (O a) (O b) (okL_len (okO a))) (Ev.val (Ev.now _) ?_))))
      rw [Bool.eq_iff_iff]
      simp
      omega
/-! ### Common -/
def Cn (a b : ByteArray) : ByteArray := if V a = true ∧ V b = true then B (textL ((O a).take (cm (O a) (O b)))) else B []
theorem Cn_sz (a b : ByteArray) : Sz (Cn a b) := by
  unfold Cn
  split
  · exact textL_sz (okL_take (okO a) _)
  · exact sz_nil
theorem lcommon_ev (a b : ByteArray) (ha : Sz a) (hb : Sz b) : Ev (fun k => lineage_Common.f k a b) (Cn a b) := by
  refine Ev.congr (fun k => by rw [lineage_Common.f]) (Ev.bind (Ev.const (lvalid a ha)) ?_)
  unfold Cn
  cases h1 : V a with
  | false =>
    refine Ev.neg (by decide) (Ev.step (fun k => by rw [lineage_Common.j0]) (Ev.pos rfl (Ev.val (Ev.now _) ?_)))
    rw [if_neg (fun h => absurd h.1 (by decide))]
    rfl
  | true =>
    refine Ev.pos rfl (Ev.bind (Ev.const (lvalid b hb)) (Ev.step (fun k => by rw [lineage_Common.j0]) ?_))
    cases h2 : V b with
    | false =>
      refine Ev.pos rfl (Ev.val (Ev.now _) ?_)
      rw [if_neg (fun h => absurd h.2 (by decide))]
      rfl
    | true =>
      have hle := cm_le (O a) (O b)
      refine Ev.neg (by decide) (Ev.bind (Ev.const (lords a ha)) (Ev.bind (Ev.const (lords b hb)) (Ev.bind (common_ev (O a) (O b) (okL_len (okO a))) (Ev.pos (n0 _) (Ev.pos (nle hle.1) (Ev.bind (named_ev (okL_take (okO a) _)) (Ev.val (Ev.now _) ?_)))))))
      rw [if_pos ⟨rfl, rfl⟩]
      rfl
/-! ### Compare -/
def bytesL (s : ByteArray) : List Int := s.data.toList.map fun c => (c.toNat : Int)
def Kn (a b : ByteArray) : Int := if V a = true then (if V b = true then cmpL (O a) (O b) else -1) else (if V b = true then 1 else cmpL (bytesL a) (bytesL b))
theorem lcompare_ev (a b : ByteArray) (ha : Sz a) (hb : Sz b) : Ev (fun k => lineage_Compare.f k a b) (Kn a b) := by
  refine Ev.congr (fun k => by rw [lineage_Compare.f]) (Ev.bind (Ev.const (lvalid a ha)) (Ev.bind (Ev.const (lvalid b hb)) ?_))
  unfold Kn
  have hstr : g_strcmp.f a b = some (cmpL (bytesL a) (bytesL b)) := by
    unfold g_strcmp.f
    rw [compareBytes_cmpL]
    rfl
  cases h1 : V a with
  | false =>
    refine Ev.neg (by decide) (Ev.step (fun k => by rw [lineage_Compare.j0]) (Ev.neg (by decide) (Ev.neg (by decide) ?_)))
    cases h2 : V b with
    | false => exact Ev.neg (by decide) (Ev.bind (Ev.const hstr) (Ev.now _))
    | true => exact Ev.pos rfl (Ev.now _)
  | true =>
    refine Ev.pos rfl (Ev.step (fun k => by rw [lineage_Compare.j0]) ?_)
    cases h2 : V b with
    | false => exact Ev.neg (by decide) (Ev.pos rfl (Ev.now _))
    | true => exact Ev.pos rfl (Ev.bind (Ev.const (lords a ha)) (Ev.bind (Ev.const (lords b hb)) (Ev.bind (scompare_ev (O a) (O b) (okL_len (okO a))) (Ev.now _))))
/-! ### Child, Parent, Depth, Last, Root -/
def okN (n : Int) : Prop := ¬ n < 1 ∧ ¬ n > 999999
def Ch (a : ByteArray) (n : Int) : ByteArray × Int := if V a = true then (if n < 1 ∨ n > 999999 then (B [], 2) else mk (O a ++ [n])) else (B [], 12)
theorem child_ev (a : ByteArray) (n : Int) (ha : Sz a) : Ev (fun k => lineage_Name_Child.f k a n) (Ch a n) := by
  refine Ev.congr (fun k => by rw [lineage_Name_Child.f]) (Ev.bind (Ev.const (lvalid a ha)) ?_)
  have hl := (okO a).1
  unfold Ch
  cases h1 : V a with
  | false => exact Ev.neg (by decide) (Ev.now _)
  | true =>
    refine Ev.pos rfl ?_
    rw [if_pos rfl]
    by_cases h2 : n < 1
    · rw [if_pos (Or.inl h2)]
      refine Ev.pos h2 (Ev.step (fun k => by rw [lineage_Name_Child.j0]) ?_)
      exact Ev.pos rfl (Ev.now _)
    · refine Ev.neg h2 (Ev.step (fun k => by rw [lineage_Name_Child.j0]) ?_)
      by_cases h3 : n > 999999
      · rw [if_pos (Or.inr h3)]
        exact Ev.pos (decide_eq_true h3) (Ev.now _)
      · rw [if_neg (fun h => h.elim h2 h3)]
        have hle : (O a).length < 17592186044416 := by omega
        have hle2 : (O a ++ [n]).length ≤ 17592186044416 := by rw [List.length_append]; exact hle
        exact Ev.neg (by simpa using h3) (Ev.bind (Ev.const (lords a ha)) (Ev.pos hle (Ev.bind (make_ev (O a ++ [n]) hle2) (Ev.now _))))
/-! ### What is known -/
theorem lparse_name (s : ByteArray) (hs : Sz s) : lineage_Parse.f s = some (if (parseL s.data.toList).2.2 = 0 then (s, 0, 0) else (B [], (parseL s.data.toList).2.1, (parseL s.data.toList).2.2)) := by
  unfold lineage_Parse.f
  rw [lparse s hs]
  simp only [Option.bind_some]
  split <;> rfl

theorem known_ev : Ev (fun k => replevinlaw03_known.f k) true := by
  refine Ev.congr (fun k => by rw [replevinlaw03_known.f]) (Ev.bind (make_ev [3, 1] (by decide)) ?_)
  rw [show mk [3, 1] = (B [51, 46, 49], 0) by decide +kernel]
  refine Ev.bind (child_ev (B [51, 46, 49]) 2 (by unfold Sz; decide)) ?_
  rw [show Ch (B [51, 46, 49]) 2 = (B [51, 46, 49, 46, 50], 0) by decide +kernel]
  refine Ev.bind (Ev.const (lparse_name ⟨#[51, 46, 46, 49]⟩ (by unfold Sz; decide))) (Ev.bind (Ev.const (lparse_name ⟨#[51, 46, 48, 49]⟩ (by unfold Sz; decide))) ?_)
  rw [show parseL (⟨#[51, 46, 46, 49]⟩ : ByteArray).data.toList = ([], 2, 6) by decide +kernel, show parseL (⟨#[51, 46, 48, 49]⟩ : ByteArray).data.toList = ([], 2, 3) by decide +kernel]
  refine Ev.pos (B_toList _) (Ev.pos rfl (Ev.pos (B_toList _) (Ev.pos rfl (Ev.bind (lcommon_ev (B [51, 46, 49, 46, 50]) ⟨#[51, 46, 49, 48]⟩ (by unfold Sz; decide) (by unfold Sz; decide)) ?_))))
  rw [show Cn (B [51, 46, 49, 46, 50]) ⟨#[51, 46, 49, 48]⟩ = B [51] by decide +kernel]
  refine Ev.pos (B_toList _) (Ev.pos rfl (Ev.pos rfl (Ev.pos rfl (Ev.pos rfl (Ev.bind (lcompare_ev ⟨#[51, 46, 50]⟩ ⟨#[51, 46, 49, 48]⟩ (by unfold Sz; decide) (by unfold Sz; decide)) ?_)))))
  rw [show Kn ⟨#[51, 46, 50]⟩ ⟨#[51, 46, 49, 48]⟩ = -1 by decide +kernel]
  exact Ev.now _

/-! ### Within -/
theorem Wn_self (a : ByteArray) : Wn a a = V a := by
  rw [Bool.eq_iff_iff, Wn_iff]
  exact ⟨fun h => h.1, fun h => ⟨h, h, List.prefix_refl _⟩⟩
theorem Wn_nil (a : ByteArray) : Wn a ⟨#[]⟩ = V a := by
  rw [Bool.eq_iff_iff, Wn_iff]
  exact ⟨fun h => h.1, fun h => ⟨h, V_nil, List.nil_prefix⟩⟩
theorem Wn_anti {a b : ByteArray} (h : Wn a b = true) (k : Wn b a = true) : a = b := by
  obtain ⟨h1, h2, h3⟩ := (Wn_iff _ _).1 h
  obtain ⟨_, _, k3⟩ := (Wn_iff _ _).1 k
  exact V_eq h1 h2 (List.IsPrefix.eq_of_length_le k3 (h3.length_le))
theorem Wn_trans {a b c : ByteArray} (h : Wn a b = true) (k : Wn b c = true) : Wn a c = true := by
  obtain ⟨h1, h2, h3⟩ := (Wn_iff _ _).1 h
  obtain ⟨_, k2, k3⟩ := (Wn_iff _ _).1 k
  exact (Wn_iff _ _).2 ⟨h1, k2, List.IsPrefix.trans k3 h3⟩
theorem beq_refl' (b : Bool) : (b == b) = true := by cases b <;> rfl
theorem bne_refl' (b : Bool) : (b != b) = false := by cases b <;> rfl

/-! ### Common -/
theorem Cn_comm (a b : ByteArray) : Cn b a = Cn a b := by
  unfold Cn
  by_cases h : V a = true ∧ V b = true
  · rw [if_pos h, if_pos ⟨h.2, h.1⟩, cm_comm (O b) (O a), cm_take]
  · rw [if_neg h, if_neg (fun g => h ⟨g.2, g.1⟩)]
theorem V_Cn (a b : ByteArray) : V (Cn a b) = true := by
  unfold Cn
  split
  · exact V_text (okL_take (okO a) _)
  · exact V_nil
theorem O_Cn {a b : ByteArray} (ha : V a = true) (hb : V b = true) : O (Cn a b) = (O a).take (cm (O a) (O b)) := by
  unfold Cn
  rw [if_pos ⟨ha, hb⟩, O_text (okL_take (okO a) _)]
/-! ### Compares -/
theorem data_eq {a b : ByteArray} (h : a.data.toList = b.data.toList) : a = b := by rw [← B_of a, ← B_of b, h]
theorem bytesL_eq {a b : ByteArray} : bytesL a = bytesL b ↔ a = b := by
  unfold bytesL
  rw [map_inj]
  exact ⟨data_eq, fun h => by rw [h]⟩
theorem Kn_zero (a b : ByteArray) : Kn a b = 0 ↔ a = b := by
  unfold Kn
  by_cases ha : V a = true
  · rw [if_pos ha]
    by_cases hb : V b = true
    · rw [if_pos hb, cmpL_zero]
      exact ⟨fun h => V_eq ha hb h, fun h => by rw [h]⟩
    · rw [if_neg hb]
      exact ⟨fun h => absurd h (by decide), fun h => absurd (h ▸ ha) hb⟩
  · rw [if_neg ha]
    by_cases hb : V b = true
    · rw [if_pos hb]
      exact ⟨fun h => absurd h (by decide), fun h => absurd (h ▸ hb) ha⟩
    · rw [if_neg hb, cmpL_zero, bytesL_eq]
theorem Kn_tt {a b : ByteArray} (ha : V a = true) (hb : V b = true) : Kn a b = cmpL (O a) (O b) := by unfold Kn; rw [if_pos ha, if_pos hb]
theorem Kn_tf {a b : ByteArray} (ha : V a = true) (hb : ¬ V b = true) : Kn a b = -1 := by unfold Kn; rw [if_pos ha, if_neg hb]
theorem Kn_ft {a b : ByteArray} (ha : ¬ V a = true) (hb : V b = true) : Kn a b = 1 := by unfold Kn; rw [if_neg ha, if_pos hb]
theorem Kn_ff {a b : ByteArray} (ha : ¬ V a = true) (hb : ¬ V b = true) : Kn a b = cmpL (bytesL a) (bytesL b) := by unfold Kn; rw [if_neg ha, if_neg hb]
theorem Kn_anti (a b : ByteArray) : Kn b a = -Kn a b := by
  by_cases ha : V a = true
  · by_cases hb : V b = true
    · rw [Kn_tt hb ha, Kn_tt ha hb, cmpL_anti]
    · rw [Kn_ft hb ha, Kn_tf ha hb]
      decide
  · by_cases hb : V b = true
    · rw [Kn_tf hb ha, Kn_ft ha hb]
    · rw [Kn_ff hb ha, Kn_ff ha hb, cmpL_anti]
theorem Kn_range (a b : ByteArray) : Kn a b = -1 ∨ Kn a b = 0 ∨ Kn a b = 1 := by
  unfold Kn
  split
  · split
    · exact cmpL_range _ _
    · exact Or.inl rfl
  · split
    · exact Or.inr (Or.inr rfl)
    · exact cmpL_range _ _
theorem Kn_trans {a b c : ByteArray} (h : Kn a b ≤ 0) (k : Kn b c ≤ 0) : Kn a c ≤ 0 := by
  by_cases ha : V a = true
  · by_cases hc : V c = true
    · rw [Kn_tt ha hc]
      by_cases hb : V b = true
      · rw [Kn_tt ha hb] at h
        rw [Kn_tt hb hc] at k
        exact cmpL_trans _ _ _ h k
      · rw [Kn_ft hb hc] at k
        exact absurd k (by decide)
    · rw [Kn_tf ha hc]
      decide
  · by_cases hb : V b = true
    · rw [Kn_ft ha hb] at h
      exact absurd h (by decide)
    · rw [Kn_ff ha hb] at h
      by_cases hc : V c = true
      · rw [Kn_ft hb hc] at k
        exact absurd k (by decide)
      · rw [Kn_ff hb hc] at k
        rw [Kn_ff ha hc]
        exact cmpL_trans _ _ _ h k
theorem Kn_prefix {a b : ByteArray} (h : Wn b a = true) : Kn a b ≤ 0 := by
  obtain ⟨h1, h2, h3⟩ := (Wn_iff _ _).1 h
  unfold Kn
  rw [if_pos h2, if_pos h1]
  exact cmpL_prefix _ _ h3
theorem Kn_between {a b c : ByteArray} (ha : V a = true) (hc : V c = true) (h : Kn a b ≤ 0) (k : Kn b c ≤ 0) : Wn b (Cn a c) = true := by
  have hb : V b = true := by
    apply Classical.byContradiction
    intro hb
    unfold Kn at k
    rw [if_neg hb, if_pos hc] at k
    exact absurd k (by decide)
  unfold Kn at h k
  rw [if_pos ha, if_pos hb] at h
  rw [if_pos hb, if_pos hc] at k
  refine (Wn_iff _ _).2 ⟨hb, V_Cn a c, ?_⟩
  rw [O_Cn ha hc]
  exact cmpL_between _ _ _ h k

end Go.Proofs.YtpkiiconadbmfaaDoor.G
