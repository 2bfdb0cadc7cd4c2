/- This session's texts for the claim, joined and shortened by this session's own program pack.py: what the claim does not need is struck. Part: GGuess. -/
import Derived.Test.YtkdfilpinlebbaaDoorQGGu1
import Derived.Test.YtkdfilpinlebbaaDoorQW0
import Derived.Deep.RegionWith
import Derived.Deep.DeepCutAuto
import Derived.Deep.CutBlock
import Derived.Deep.RegionHeld3
set_option linter.unusedVariables false
set_option linter.unusedSimpArgs false
namespace Go.Proofs.YtkdfilpinlebbaaDoor.G
open Go.RowKit Go.Shelf Go.Lib Go.Proofs.YtkdfilpinlebbaaDoorW.PrintWords Go.Proofs.YtkdfilpinlebbaaDoorW.PrintMore
attribute [local go_sem] max2_int max_two
def z28A : Array Value := #[.int .i64 0, .string ⟨#[]⟩, .int .i64 0, .int .i64 0, .string ⟨#[]⟩]
def nmA (k : Int) (o : ByteArray) (n i : Int) (t : ByteArray) : Array Value := #[.int .i64 k, .string o, .int .i64 n, .int .i64 i, .string t]
theorem hlt_of {w : World} {b : Nat} {o : Obj} (h : w.heap[b]? = some o) : b < w.heap.size := (Array.getElem?_eq_some_iff.1 h).1
theorem row_set {w : World} {b j : Nat} {cs : Array Value} {t : TypeId} (v : Value) (h : w.heap[b]? = some (.cells cs t (0, 0))) : (w.setCell ⟨b, j, none⟩ v).heap[b]? = some (.cells (cs.setIfInBounds j v) t (0, 0)) := by
  obtain ⟨hlt, hk⟩ := Array.getElem?_eq_some_iff.1 h
  show (w.heap.modify b _)[b]? = _
  rw [Array.getElem?_eq_getElem (by rw [Array.size_modify]; exact hlt), Array.getElem_modify_self, hk]
  rfl
theorem frz {w : World} {b : Nat} {cs : Array Value} {t : TypeId} (h : w.heap[b]? = some (.cells cs t (0, 0))) (j : Nat) : w.frozen? ⟨b, j, none⟩ = false := by simp [World.frozen?, h]
structure GV (b2 b3 b5 b8 g : Nat) (N : Array Value) (rest : ByteArray) (U : Array Value) (w wx : World) : Prop where
  r : wx.heap[b2]? = some (.cells z28A 28 (0, 0))
  n : wx.heap[b3]? = some (.cells N 28 (0, 0))
  s : wx.heap[b5]? = some (.cells #[.string rest] 9 (0, 0))
  u : wx.heap[b8]? = some (.cells U 53 (0, 0))
  low : Below g w wx
  g2 : g ≤ b2
  g3 : g ≤ b3
  g5 : g ≤ b5
  d23 : b2 ≠ b3
  d25 : b2 ≠ b5
  d28 : b2 ≠ b8
  d35 : b3 ≠ b5
  d38 : b3 ≠ b8
  d58 : b5 ≠ b8
structure GW (b2 b3 b4 b5 g : Nat) (word rest : ByteArray) (w wx : World) : Prop where
  r : wx.heap[b2]? = some (.cells z28A 28 (0, 0))
  n : wx.heap[b3]? = some (.cells z28A 28 (0, 0))
  wd : wx.heap[b4]? = some (.cells #[.string word] 9 (0, 0))
  s : wx.heap[b5]? = some (.cells #[.string rest] 9 (0, 0))
  low : Below g w wx
  g2 : g ≤ b2
  g3 : g ≤ b3
  g5 : g ≤ b5
  d23 : b2 ≠ b3
  d25 : b2 ≠ b5
  d35 : b3 ≠ b5
theorem push4 (h : Array Obj) (a b c d : Obj) : ((((h.push a).push b).push c).push d)[h.size]? = some a ∧ ((((h.push a).push b).push c).push d)[h.size + 1]? = some b ∧
    ((((h.push a).push b).push c).push d)[h.size + 2]? = some c ∧ ((((h.push a).push b).push c).push d)[h.size + 3]? = some d := by
  refine ⟨?_, ?_, ?_, ?_⟩
  · rw [Array.getElem?_push, if_neg (by simp only [Array.size_push]; omega), Array.getElem?_push, if_neg (by simp only [Array.size_push]; omega), Array.getElem?_push, if_neg (by simp only [Array.size_push]; omega), Array.getElem?_push, if_pos rfl]
  · rw [Array.getElem?_push, if_neg (by simp only [Array.size_push]; omega), Array.getElem?_push, if_neg (by simp only [Array.size_push]; omega), Array.getElem?_push, if_pos (by simp only [Array.size_push])]
  · rw [Array.getElem?_push, if_neg (by simp only [Array.size_push]; omega), Array.getElem?_push, if_pos (by simp only [Array.size_push])]
  · rw [Array.getElem?_push, if_pos (by simp only [Array.size_push])]
theorem gw_first (w : World) (q : Nat) (word rest : ByteArray) :
    GW w.heap.size (w.heap.size + 1) (w.heap.size + 2) (w.heap.size + 3) w.heap.size word rest w
      (((((w.alloc (.cells z28A 28)).alloc (.cells z28A 28)).drewN q).alloc (.cells #[.string word] 9)).alloc (.cells #[.string rest] 9)) := by
  constructor
  · exact (push4 w.heap _ _ _ _).1
  · exact (push4 w.heap _ _ _ _).2.1
  · exact (push4 w.heap _ _ _ _).2.2.1
  · exact (push4 w.heap _ _ _ _).2.2.2
  · exact ((drewN_below _ _ q |> fun h => ((((Below.refl _ w).alloc (Nat.le_refl _) _).alloc (by simp) _).trans h)).alloc (by show _ ≤ ((w.heap.push _).push _).size; simp; omega) _).alloc (by show _ ≤ (((w.heap.push _).push _).push _).size; simp; omega) _
  all_goals omega
theorem GW.step {b2 b3 b4 b5 g : Nat} {word rest : ByteArray} {w wx wy : World} (h : GW b2 b3 b4 b5 g word rest w wx) (hb : Below wx.heap.size wx wy) (hg : g ≤ wx.heap.size) : GW b2 b3 b4 b5 g word rest w wy :=
  ⟨(hb.block _ (hlt_of h.r)).trans h.r, (hb.block _ (hlt_of h.n)).trans h.n, (hb.block _ (hlt_of h.wd)).trans h.wd, (hb.block _ (hlt_of h.s)).trans h.s, h.low.trans (hb.mono hg), h.g2, h.g3, h.g5, h.d23, h.d25, h.d35⟩
theorem kOf_spec (w : List UInt8) : (kOf w = 0 ∧ ∀ k, k ≤ 20 → hitB w k = false) ∨ (1 ≤ kOf w ∧ kOf w ≤ 20 ∧ hitB w (kOf w) = true ∧ ∀ j, j < kOf w → hitB w j = false) := by
  have h0 : hitB w 0 = false := by
    unfold hitB
    cases w with
    | nil => rfl
    | cons c r => rfl
  unfold kOf
  cases hf : (List.range 20).find? fun j => kword (j + 1) == w with
  | none =>
    left
    refine ⟨rfl, fun k hk => ?_⟩
    cases k with
    | zero => exact h0
    | succ j =>
      have := List.find?_eq_none.1 hf j (List.mem_range.2 (by omega))
      unfold hitB
      simp only [Bool.not_eq_true] at this
      rw [this]
      rfl
  | some j =>
    right
    rw [List.find?_range_eq_some] at hf
    obtain ⟨h1, h2, h3⟩ := hf
    have hj : j < 20 := List.mem_range.1 h2
    refine ⟨by show 1 ≤ j + 1; omega, by show j + 1 ≤ 20; omega, ?_, fun i hi => ?_⟩
    · show hitB w (j + 1) = true
      unfold hitB
      rw [h1]
      have hne : ∀ j, j < 20 → kword (j + 1) ≠ [] := by decide
      have hw : w ≠ [] := fun e => hne j hj (by rw [← e]; exact beq_iff_eq.1 h1)
      simp [hw]
    · have hi' : i < j + 1 := hi
      cases i with
      | zero => exact h0
      | succ i =>
        have := h3 i (by omega)
        unfold hitB
        simp only [Bool.not_eq_true'] at this
        rw [this]
        rfl
theorem kOf_le (w : List UInt8) : kOf w ≤ 20 := by
  rcases kOf_spec w with ⟨h, _⟩ | ⟨_, h, _⟩ <;> omega
def ixV (w : List UInt8) : Int := if kOf w = 0 then -1 else (kOf w : Int)
theorem ixV_spec (w : List UInt8) : (∀ k, k ≤ 20 → hitB w k = false) ∧ ixV w = -1 ∨ ∃ k : Nat, k ≤ 20 ∧ ixV w = k ∧ hitB w k = true ∧ ∀ j, j < k → hitB w j = false := by
  unfold ixV
  rcases kOf_spec w with ⟨h, k⟩ | ⟨h1, h2, h3, h4⟩
  · exact .inl ⟨k, if_pos h⟩
  · exact .inr ⟨_, h2, if_neg (by omega), h3, h4⟩
theorem ixV_max (w : List UInt8) : (if (0 : Int) < ixV w then ixV w else 0) = (kOf w : Int) := by
  unfold ixV
  by_cases h : kOf w = 0
  · rw [if_pos h, h]
    rfl
  · rw [if_neg h, if_pos (by omega)]
theorem gv_first {b2 b3 b4 b5 g : Nat} {word rest : ByteArray} {w W4 : World} (K : Int) (U : Array Value) (h : GW b2 b3 b4 b5 g word rest w W4) (h3 : b3 < W4.heap.size) :
    GV b2 b3 b5 W4.heap.size g (nmA K ⟨#[]⟩ 0 0 ⟨#[]⟩) rest U w ((W4.setCell ⟨b3, 0, none⟩ (.int .i64 K)).alloc (.cells U 53)) := by
  have hsz : (W4.setCell ⟨b3, 0, none⟩ (.int .i64 K)).heap.size = W4.heap.size := by
    show (W4.heap.modify b3 _).size = _
    rw [Array.size_modify]
  have l2 := hlt_of h.r
  have l5 := hlt_of h.s
  constructor
  · rw [Below.heap_alloc _ _ _ (by rw [hsz]; exact l2), Below.heap_setCell _ _ _ _ h.d23]
    exact h.r
  · rw [Below.heap_alloc _ _ _ (by rw [hsz]; exact h3)]
    exact row_set _ h.n
  · rw [Below.heap_alloc _ _ _ (by rw [hsz]; exact l5), Below.heap_setCell _ _ _ _ (Ne.symm h.d35)]
    exact h.s
  · rw [← hsz]
    exact heap_alloc_last _ _
  · exact (h.low.setCell h.g3 _).alloc (by rw [hsz]; exact Nat.le_trans h.g3 (Nat.le_of_lt h3)) _
  · exact h.g2
  · exact h.g3
  · exact h.g5
  · exact h.d23
  · exact h.d25
  · omega
  · exact h.d35
  · omega
  · omega
theorem GV.step {b2 b3 b5 b8 g : Nat} {N : Array Value} {rest : ByteArray} {U : Array Value} {w wx wy : World} (h : GV b2 b3 b5 b8 g N rest U w wx) (hb : Below wx.heap.size wx wy) (hg : g ≤ wx.heap.size) : GV b2 b3 b5 b8 g N rest U w wy :=
  ⟨(hb.block _ (hlt_of h.r)).trans h.r, (hb.block _ (hlt_of h.n)).trans h.n, (hb.block _ (hlt_of h.s)).trans h.s, (hb.block _ (hlt_of h.u)).trans h.u, h.low.trans (hb.mono hg), h.g2, h.g3, h.g5, h.d23, h.d25, h.d28, h.d35, h.d38, h.d58⟩
theorem GV.gle {b2 b3 b5 b8 g : Nat} {N : Array Value} {rest : ByteArray} {U : Array Value} {w wx : World} (h : GV b2 b3 b5 b8 g N rest U w wx) : g ≤ wx.heap.size := Nat.le_trans h.g2 (Nat.le_of_lt (hlt_of h.r))
theorem GV.setN {b2 b3 b5 b8 g : Nat} {N : Array Value} {rest : ByteArray} {U : Array Value} {w wx : World} (h : GV b2 b3 b5 b8 g N rest U w wx) (j : Nat) (v : Value) : GV b2 b3 b5 b8 g (N.setIfInBounds j v) rest U w (wx.setCell ⟨b3, j, none⟩ v) :=
  ⟨(Below.heap_setCell _ _ _ _ h.d23).trans h.r, row_set v h.n, (Below.heap_setCell _ _ _ _ (Ne.symm h.d35)).trans h.s, (Below.heap_setCell _ _ _ _ (Ne.symm h.d38)).trans h.u, h.low.setCell h.g3 _, h.g2, h.g3, h.g5, h.d23, h.d25, h.d28, h.d35, h.d38, h.d58⟩
theorem GV.setS {b2 b3 b5 b8 g : Nat} {N : Array Value} {rest : ByteArray} {U : Array Value} {w wx : World} (h : GV b2 b3 b5 b8 g N rest U w wx) (s : ByteArray) : GV b2 b3 b5 b8 g N s U w (wx.setCell ⟨b5, 0, none⟩ (.string s)) :=
  ⟨(Below.heap_setCell _ _ _ _ h.d25).trans h.r, (Below.heap_setCell _ _ _ _ h.d35).trans h.n, row_set (.string s) h.s, (Below.heap_setCell _ _ _ _ (Ne.symm h.d58)).trans h.u, h.low.setCell h.g5 _, h.g2, h.g3, h.g5, h.d23, h.d25, h.d28, h.d35, h.d38, h.d58⟩
theorem GV.drew {b2 b3 b5 b8 g : Nat} {N : Array Value} {rest : ByteArray} {U : Array Value} {w wx : World} (h : GV b2 b3 b5 b8 g N rest U w wx) : GV b2 b3 b5 b8 g N rest U w wx.drew :=
  ⟨h.r, h.n, h.s, h.u, h.low.drew, h.g2, h.g3, h.g5, h.d23, h.d25, h.d28, h.d35, h.d38, h.d58⟩
theorem ext_take (l : List UInt8) (n : Nat) : (⟨l.toArray⟩ : ByteArray).extract 0 n = ⟨(l.take n).toArray⟩ := by
  have h : ((⟨l.toArray⟩ : ByteArray).extract 0 n).data.toList = l.take n := by
    rw [Lib.extract_data]
    simp
  rw [← h]
theorem ext_drop (l : List UInt8) (n m : Nat) (hm : l.length ≤ m) : (⟨l.toArray⟩ : ByteArray).extract n m = ⟨(l.drop n).toArray⟩ := by
  have h : ((⟨l.toArray⟩ : ByteArray).extract n m).data.toList = l.drop n := by
    rw [Lib.extract_data]
    simp
    exact List.take_of_length_le (by simp; omega)
  rw [← h]
theorem iany_calls (s : ByteArray) (hs : s.size ≤ 1000000) (hasc : Asc s.data.toList) (v : Int) (hv : v = if s.data.toList.any sh then ((upto sh s.data.toList).length : Int) else -1) (W : World) :
    Calls Tryd.prog 61 #[.string s, .string ⟨#[32, 35]⟩] W fun e w' => e = .returned (.int .i64 v) ∧ Below W.heap.size W w' := by
  have h := Tryd.strings_IndexAny_laid s ⟨#[32, 35]⟩ W (by omega) (by show 2 < 4294967281; omega) (fun j c hj => hasc c (List.mem_of_getElem? hj)) (by
    intro j c hj
    have hm : c ∈ ([32, 35] : List UInt8) := List.mem_of_getElem? hj
    simp at hm
    rcases hm with rfl | rfl <;> decide)
  have e : Lib.indexAny s.data.toList (⟨#[32, 35]⟩ : ByteArray).data.toList = v := by
    rw [hv]
    exact indexAny_upto _
  rw [e] at h
  exact h
theorem GV.after {b2 b3 b5 b8 g : Nat} {N : Array Value} {rest rest' : ByteArray} {U : Array Value} {w wx wy : World} (h : GV b2 b3 b5 b8 g N rest U w wx) (h1 : wy.heap[b5]? = some (.cells #[.string rest'] 9 (0, 0)))
    (h2 : ∀ k, k < wx.heap.size → k ≠ b5 → wy.heap[k]? = wx.heap[k]?) (h3 : Below g wx wy) : GV b2 b3 b5 b8 g N rest' U w wy :=
  ⟨(h2 _ (hlt_of h.r) h.d25).trans h.r, (h2 _ (hlt_of h.n) h.d35).trans h.n, h1, (h2 _ (hlt_of h.u) (Ne.symm h.d58)).trans h.u, h.low.trans h3, h.g2, h.g3, h.g5, h.d23, h.d25, h.d28, h.d35, h.d38, h.d58⟩
theorem ba_eta (s : ByteArray) : (⟨s.data.toList.toArray⟩ : ByteArray) = s := by simp
theorem mostU_nn (K : Nat) : (K = 0 ∨ 0 ≤ mostI K) = (0 ≤ mostU K) := by
  unfold mostU
  by_cases h : K = 0
  · rw [if_pos h]
    simp [h]
  · rw [if_neg h]
    simp [h]
theorem Aside.mk'' {p : Prop} (h : p) : Aside p := h
set_option maxHeartbeats 8000000 in
set_option maxRecDepth 100000 in
theorem guess_calls (s : ByteArray) (hs : s.size ≤ 1000000) (hasc : Asc s.data.toList) (w : World) (hgg : GG w) :
    Calls Tryd.prog 37 #[.string s] w fun e w' => e = .returned (.agg (nmA (guessO s.data.toList).k ⟨(guessO s.data.toList).o.toArray⟩ (guessO s.data.toList).n (guessO s.data.toList).i ⟨(guessO s.data.toList).t.toArray⟩)) ∧ Below w.heap.size w w' := by
  have hG : ∀ W, Below w.heap.size w W → GG W := fun W h => GG_below hgg h
  have hcut := fun (W : World) (h : Below w.heap.size w W) => cut_calls s hs W (hG W h)
  have hgs : Aside (guessO s.data.toList = guessOk (kOf (upto sp s.data.toList)) (past sp s.data.toList)) := rfl
  generalize guessO s.data.toList = X at hgs ⊢
  have hrl : Aside ((past sp s.data.toList).length ≤ 1000000 ∧ Asc (past sp s.data.toList)) := by
    have h1 := past_len sp s.data.toList
    have h2 : s.data.toList.length = s.size := by simp
    exact ⟨by omega, asc_past hasc sp⟩
  have hwl : Aside ((upto sp s.data.toList).length ≤ 1000000) := by
    have h1 := upto_len sp s.data.toList
    have h2 : s.data.toList.length = s.size := by simp
    show _ ≤ _
    omega
  generalize upto sp s.data.toList = word at *
  generalize past sp s.data.toList = rest at *
  have HG : Aside _ := hG
  clear hG hgg hasc
  have hbel : Below w.heap.size w ((w.alloc (.cells z28A 28)).alloc (.cells z28A 28)) := ((Below.refl _ w).alloc (Nat.le_refl _) _).alloc (by simp) _
  have hc1 := hcut _ hbel
  clear hcut hbel
  unfold z28A at hc1
  go_enter Tryd.func37, Tryd.ntmps37
  go_upto_region 3 with (go_at_call 58; refine hc1.mono ?_; rintro e w1 ⟨⟨fb, rfl⟩, q, rfl⟩)
  have HW : Aside (GW w.heap.size (w.heap.size + 1) (w.heap.size + 2) (w.heap.size + 3) w.heap.size ⟨word.toArray⟩ ⟨rest.toArray⟩ w _) := gw_first w q ⟨word.toArray⟩ ⟨rest.toArray⟩
  unfold z28A at HW
  generalize hW0 : (((((w.alloc (.cells #[.int .i64 0, .string ⟨#[]⟩, .int .i64 0, .int .i64 0, .string ⟨#[]⟩] 28)).alloc (.cells #[.int .i64 0, .string ⟨#[]⟩, .int .i64 0, .int .i64 0, .string ⟨#[]⟩] 28)).drewN q).alloc (.cells #[.string ⟨word.toArray⟩] 9)).alloc (.cells #[.string ⟨rest.toArray⟩] 9)) = W0 at HW ⊢
  have huse := uses_calls W0
  have h5 := st54
  have h6 := usesA_size
  go_upto_region 4 with (go_at_call 27; refine huse.mono ?_; rintro e w2 ⟨rfl, hb⟩)
  have hgw : w.heap.size ≤ W0.heap.size := HW.out.low.size
  have hb3 : w.heap.size + 1 < W0.heap.size := hlt_of HW.out.n
  have HW3 : Aside (GW w.heap.size (w.heap.size + 1) (w.heap.size + 2) (w.heap.size + 3) w.heap.size ⟨word.toArray⟩ ⟨rest.toArray⟩ w (w2.alloc (.cells usesA 54))) :=
    (HW.out.step hb hgw).step ((Below.refl _ w2).alloc (Nat.le_refl _) _) (Nat.le_trans hgw hb.size)
  have hA3 : Aside ((w2.alloc (.cells usesA 54)).heap[w2.heap.size]? = some (.cells usesA 54 (0, 0))) := heap_alloc_last w2 _
  have hb7 : Aside (w.heap.size + 1 < w2.heap.size) := Nat.lt_of_lt_of_le hb3 hb.size
  obtain ⟨b7, hb7e⟩ : ∃ b7, w2.heap.size = b7 := ⟨_, rfl⟩
  rw [hb7e] at hA3 hb7
  have hix := ixf_calls b7 (w.heap.size + 2) ⟨word.toArray⟩ (w2.alloc (.cells usesA 54)) hA3.out (cell_of_row _ _ 0 _ _ _ HW3.out.wd) (ixV word) (ixV_spec word)
  have hmx := ixV_max word
  have hK20 := kOf_le word
  have hgk : Aside (X = guessOk (kOf word) rest) := hgs
  clear hgs HW huse h5 h6 hc1 hW0 hb hgw hb3
  generalize kOf word = K at *
  generalize ixV word = r at *
  generalize w2.alloc (.cells usesA 54) = W3 at *
  have hb31 : w.heap.size + 1 < W3.heap.size := hlt_of HW3.out.n
  have hKb : (K : Int) < 21 := by omega
  go_upto_region 6 with (go_at_call 59; refine hix.mono ?_; rintro e w4 ⟨rfl, hb4⟩; have hN4 := (hb4.block _ hb31).trans HW3.out.n; have hnc : w4.cell? ⟨w.heap.size + 1, 0, none⟩ = some (.int .i64 0) := (cell_of_row _ _ 0 _ _ _ hN4); have hnf : w4.frozen? ⟨w.heap.size + 1, 0, none⟩ = false := (frz hN4 0); have hA4 := (Below.heap_setCell w4 ⟨w.heap.size + 1, 0, none⟩ (.int .i64 K) b7 (by show b7 ≠ w.heap.size + 1; have := hb7.out; omega)).trans ((hb4.block _ (hlt_of hA3.out)).trans hA3.out); have a0 := (cell_of_row _ b7 (K * 5) _ _ _ hA4).trans (usesA0 K hK20); have a1 := (cell_of_row _ b7 (K * 5 + 1) _ _ _ hA4).trans (usesA1 K hK20); have a2 := (cell_of_row _ b7 (K * 5 + 2) _ _ _ hA4).trans (usesA2 K hK20); have a3 := (cell_of_row _ b7 (K * 5 + 3) _ _ _ hA4).trans (usesA3 K hK20); have a4 := (cell_of_row _ b7 (K * 5 + 4) _ _ _ hA4).trans (usesA4 K hK20); clear hA4 hN4)
  have HV0 : Aside (GV w.heap.size (w.heap.size + 1) (w.heap.size + 1 + 1 + 1) w4.heap.size w.heap.size (nmA K ⟨#[]⟩ 0 0 ⟨#[]⟩) ⟨rest.toArray⟩ #[.string ⟨(kword K).toArray⟩, .bool (ownB K), .bool (numB K), .bool (txtB K), .int .i64 (mostU K)] w _) :=
    gv_first K #[.string ⟨(kword K).toArray⟩, .bool (ownB K), .bool (numB K), .bool (txtB K), .int .i64 (mostU K)] (HW3.out.step hb4 HW3.out.low.size) (Nat.lt_of_lt_of_le hb31 hb4.size)
  have hmost : Aside (mostU K = if K = 0 then 0 else mostI K) := rfl
  clear hnc hnf a0 a1 a2 a3 a4 hb4 hix hmx HW3 hA3 hb7 hb7e hb31 hKb hK20
  generalize (w4.setCell ⟨w.heap.size + 1, 0, none⟩ (.int .i64 K)).alloc (.cells #[.string ⟨(kword K).toArray⟩, .bool (ownB K), .bool (numB K), .bool (txtB K), .int .i64 (mostU K)] 53) = W5 at *
  generalize hg0 : w.heap.size = g at *
  generalize w4.heap.size = b8 at *
  generalize g + 1 + 1 + 1 = b5 at *
  generalize g + 1 = b3 at *
  have HV : Aside (GV g b3 b5 b8 g (nmA K ⟨#[]⟩ 0 0 ⟨#[]⟩) ⟨rest.toArray⟩ #[.string ⟨(kword K).toArray⟩, .bool (ownB K), .bool (numB K), .bool (txtB K), .int .i64 (mostU K)] w W5) := HV0
  clear HV0
  obtain ⟨rB, hrB⟩ : ∃ rB : ByteArray, rB = ⟨rest.toArray⟩ := ⟨_, rfl⟩
  rw [← hrB] at HV
  have hrl2 : Aside (rB.data.toList = rest) := by rw [hrB]; rfl
  have HrB : Aside (rB = ⟨rest.toArray⟩) := hrB
  clear hrB
  have HG0 : Aside (w.heap.size = g) := hg0
  clear hg0
  have u1 : W5.cell? ⟨b8, 1, none⟩ = some (.bool (ownB K)) := cell_of_row _ b8 1 _ _ _ HV.out.u
  have s0 : W5.cell? ⟨b5, 0, none⟩ = some (.string rB) := cell_of_row _ b5 0 _ _ _ HV.out.s
  have hrz : rB.size ≤ 1000000 := by
    have h := congrArg List.length hrl2.out
    have h2 := hrl.out.1
    have h3 : rB.data.toList.length = rB.size := by simp
    omega
  have hia := fun (v : Int) (hv : v = if rB.data.toList.any sh then ((upto sh rB.data.toList).length : Int) else -1) => iany_calls rB hrz (by rw [hrl2.out]; exact hrl.out.2) v hv W5
  rw [hrl2.out] at hia
  go_upto_if 29 with fail
  go_cut [2, 3, 5, 8] (fun v2 v3 v5 v8 wx => v2 = .pointer (some ⟨g, 0, none⟩) ∧ v3 = .pointer (some ⟨b3, 0, none⟩) ∧ v5 = .pointer (some ⟨b5, 0, none⟩) ∧ v8 = .pointer (some ⟨b8, 0, none⟩) ∧
    ∃ o1 r1 : ByteArray, Aside (o1.data.toList = if ownB K then ownerOf (if rest.any sh then upto sh rest else rest) else []) ∧ Aside (r1.data.toList = if ownB K then (if rest.any sh then past sh rest else rest) else rest) ∧
    Aside (GV g b3 b5 b8 g (nmA K o1 0 0 ⟨#[]⟩) r1 #[.string ⟨(kword K).toArray⟩, .bool (ownB K), .bool (numB K), .bool (txtB K), .int .i64 (mostU K)] w wx))
  case first =>
    clear hgk
    generalize ownB K = b1 at *
    cases b1 with
    | false =>
      go_wp2_with fail
      go_meet
      exact ⟨rfl, rfl, rfl, rfl, ⟨#[]⟩, rB, rfl, hrl2.out, HV.out⟩
    | true =>
      cases ha : rest.any sh with
      | false =>
        have HA : Aside (rest.any sh = false) := ha
        have hia2 := hia (-1) (by rw [ha]; rfl)
        clear ha hia
        by_cases q : rB.toList = [48]
        · have e1 : (rB.toList == ([48] : List UInt8)) = true := beq_iff_eq.2 q
          have e2 : (rB.toList != ([48] : List UInt8)) = false := bne_eq_false_iff_eq.2 q
          have Q : Aside (rB.toList = [48]) := q
          clear q
          go_wp2_with (go_at_call 61; refine hia2.mono ?_; rintro e w6 ⟨rfl, hb6⟩; have s6 := (hb6.cell (World.block_lt_of_cell? _ _ s0)).trans s0)
          go_meet
          exact ⟨rfl, rfl, rfl, rfl, ⟨#[]⟩, rB, (by show ([] : List UInt8) = ownerOf _; rw [HA.out]; show [] = ownerOf rest; rw [← hrl2.out, ← Lib.toList_data, Q.out]; rfl), (by show rB.data.toList = _; rw [hrl2.out, HA.out]; rfl), HV.out.step hb6 HV.out.gle⟩
        · have e1 : (rB.toList == ([48] : List UInt8)) = false := beq_eq_false_iff_ne.2 q
          have e2 : (rB.toList != ([48] : List UInt8)) = true := bne_iff_ne.2 q
          have Q : Aside (rB.toList ≠ [48]) := q
          clear q
          go_wp2_with (go_at_call 61; refine hia2.mono ?_; rintro e w6 ⟨rfl, hb6⟩; have HV6 := Aside.mk'' (HV.out.step hb6 HV.out.gle); have s6 := cell_of_row _ b5 0 _ _ _ HV6.out.s; have n6 := cell_of_row _ b3 1 _ _ _ HV6.out.n; have f6 := frz HV6.out.n 1; simp only [nmA, List.getElem?_toArray, List.getElem?_cons_zero, List.getElem?_cons_succ] at s6 n6)
          go_meet
          exact ⟨rfl, rfl, rfl, rfl, rB, rB, (by show rB.data.toList = ownerOf _; rw [HA.out]; show _ = ownerOf rest; rw [← hrl2.out]; unfold ownerOf; rw [if_neg (by rw [← Lib.toList_data]; exact Q.out)]), (by show rB.data.toList = _; rw [hrl2.out, HA.out]; rfl), HV6.out.setN 1 _⟩
      | true =>
        have HA : Aside (rest.any sh = true) := ha
        have hia1 := hia ((upto sh rest).length : Int) (by rw [ha]; rfl)
        clear ha hia
        obtain ⟨n, hn⟩ : ∃ n, (upto sh rest).length = n := ⟨_, rfl⟩
        have hnl : n < rB.size := by
          have h := upto_lt sh rest HA.out
          have h3 : rB.data.toList.length = rB.size := by simp
          rw [hrl2.out] at h3
          omega
        have hia2 : Calls Tryd.prog 61 #[.string rB, .string ⟨#[32, 35]⟩] W5 fun e w' => e = .returned (.int .i64 (n : Int)) ∧ Below W5.heap.size W5 w' := hn ▸ hia1
        clear hia1
        have hx1 : Aside ((rB.extract 0 n).data.toList = upto sh rest) := by
          show _ = _
          rw [show rB = _ from HrB.out, ext_take, ← hn, upto_take]
        have hx2 : Aside ((rB.extract (n + 1) rB.size).data.toList = past sh rest) := by
          show _ = _
          rw [show rB.extract (n + 1) rB.size = (⟨rest.toArray⟩ : ByteArray).extract (n + 1) rest.length from by rw [show rB = _ from HrB.out]; rfl, ext_drop _ _ _ (Nat.le_refl _), ← hn, past_drop sh rest HA.out]
        have hn0 : ¬ (n : Int) < 0 := by omega
        have hnle : (n : Int) ≤ (rB.size : Int) := by omega
        have hn1 : (n : Int) + 1 ≤ (rB.size : Int) := by omega
        have hHn : Aside (n < rB.size) := hnl
        go_upto_region 10 with (go_at_call 61; refine hia2.mono ?_; rintro e w6 ⟨rfl, hb6⟩)
        have HV6 : Aside _ := HV.out.step hb6 HV.out.gle
        have s6 : w6.cell? ⟨b5, 0, none⟩ = some (.string rB) := cell_of_row _ b5 0 _ _ _ HV6.out.s
        have sf6 := frz HV6.out.s 0
        go_region
        have HV7 : Aside (GV g b3 b5 b8 g (nmA K ⟨#[]⟩ 0 0 ⟨#[]⟩) (rB.extract (n + 1) rB.size) #[.string ⟨(kword K).toArray⟩, .bool true, .bool (numB K), .bool (txtB K), .int .i64 (mostU K)] w ((w6.setCell ⟨b5, 0, none⟩ (.string (rB.extract (n + 1) rB.size))).drew)) := (HV6.out.setS _).drew
        generalize (w6.setCell ⟨b5, 0, none⟩ (.string (rB.extract (n + 1) rB.size))).drew = w7 at *
        have n7 : w7.cell? ⟨b3, 1, none⟩ = some (.string ⟨#[]⟩) := cell_of_row _ b3 1 _ _ _ HV7.out.n
        have f7 := frz HV7.out.n 1
        clear s6 sf6 hb6 HV6 hia2 hn0 hnle hn1 hnl
        generalize rB.extract 0 n = oB at *
        generalize rB.extract (n + 1) rB.size = pB at *
        by_cases q : oB.toList = [48]
        · have e1 : (oB.toList == ([48] : List UInt8)) = true := beq_iff_eq.2 q
          have e2 : (oB.toList != ([48] : List UInt8)) = false := bne_eq_false_iff_eq.2 q
          have Q : Aside (oB.toList = [48]) := q
          clear q
          go_wp2_with fail
          go_meet
          exact ⟨rfl, rfl, rfl, rfl, ⟨#[]⟩, pB, (by show ([] : List UInt8) = ownerOf _; rw [HA.out, if_pos rfl, ← hx1.out, ← Lib.toList_data, Q.out]; rfl), (by show pB.data.toList = _; rw [hx2.out, HA.out]; rfl), HV7.out⟩
        · have e1 : (oB.toList == ([48] : List UInt8)) = false := beq_eq_false_iff_ne.2 q
          have e2 : (oB.toList != ([48] : List UInt8)) = true := bne_iff_ne.2 q
          have Q : Aside (oB.toList ≠ [48]) := q
          clear q
          go_wp2_with fail
          go_meet
          exact ⟨rfl, rfl, rfl, rfl, oB, pB, (by show oB.data.toList = ownerOf _; rw [HA.out, if_pos rfl, ← hx1.out]; unfold ownerOf; rw [if_neg (by rw [← Lib.toList_data]; exact Q.out)]), (by show pB.data.toList = _; rw [hx2.out, HA.out]; rfl), HV7.out.setN 1 _⟩
  case rest =>
    obtain ⟨rfl, rfl, rfl, rfl, o1, r1, ho1, hr1, HV1⟩ := hcut
    clear HV u1 s0 hia HrB hrl2 hrz
    have hz1 : Aside (r1.size ≤ 1000000) := by
      have h1 : r1.data.toList.length = r1.size := by simp
      have h2 := hrl.out.1
      have h3 := past_len sh rest
      rw [hr1.out] at h1
      show r1.size ≤ _
      revert h1
      cases ownB K <;> cases rest.any sh <;> simp <;> omega
    have u2 : wc.cell? ⟨b8, 2, none⟩ = some (.bool (numB K)) := cell_of_row _ b8 2 _ _ _ HV1.out.u
    have hg2 := g2_calls g b5 r1 hz1.out wc HV1.out.g5 (fun W2 h => HG.out W2 (HV1.out.low.trans h)) HV1.out.s
    go_upto_if 48 with fail
    go_cut [2, 3, 5, 8, 11] (fun v2 v3 v5 v8 v11 wx => v2 = .pointer (some ⟨g, 0, none⟩) ∧ v3 = .pointer (some ⟨b3, 0, none⟩) ∧ v5 = .pointer (some ⟨b5, 0, none⟩) ∧ v8 = .pointer (some ⟨b8, 0, none⟩) ∧ v11 = .func (.func 62) #[] #[.pointer (some ⟨b5, 0, none⟩)] ∧
      ∃ (n2 : Int) (r2 : ByteArray), Aside (n2 = if numB K then atoiN (upto sp r1.data.toList) else 0) ∧ Aside (r2.data.toList = if numB K then past sp r1.data.toList else r1.data.toList) ∧
      Aside (GV g b3 b5 b8 g (nmA K o1 n2 0 ⟨#[]⟩) r2 #[.string ⟨(kword K).toArray⟩, .bool (ownB K), .bool (numB K), .bool (txtB K), .int .i64 (mostU K)] w wx))
    case first =>
      clear hgk
      generalize numB K = b1 at *
      cases b1 with
      | false =>
        go_wp2_with fail
        go_meet
        exact ⟨rfl, rfl, rfl, rfl, rfl, 0, r1, rfl, rfl, HV1.out⟩
      | true =>
        go_wp2_with (go_at_call 62; refine hg2.mono ?_; rintro e w6 ⟨rfl, h1, h2, h3⟩; have HV2 := Aside.mk'' (HV1.out.after h1.out h2.out h3.out); have n6 : w6.cell? ⟨b3, 2, none⟩ = some (.int .i64 0) := cell_of_row _ b3 2 _ _ _ HV2.out.n; have f6 := frz HV2.out.n 2)
        go_meet
        exact ⟨rfl, rfl, rfl, rfl, rfl, _, ⟨(past sp r1.data.toList).toArray⟩, rfl, rfl, HV2.out.setN 2 _⟩
    case rest =>
      obtain ⟨rfl, rfl, rfl, rfl, rfl, n2, r2, hn2, hr2, HV2⟩ := hcut
      clear HV1 u2 hg2
      have hz2 : Aside (r2.size ≤ 1000000) := by
        have h1 : r2.data.toList.length = r2.size := by simp
        have h2 := hz1.out
        have h3 := past_len sp r1.data.toList
        have h4 : r1.data.toList.length = r1.size := by simp
        rw [hr2.out] at h1
        show r2.size ≤ _
        revert h1
        cases numB K <;> simp <;> omega
      have u4 : wc.cell? ⟨b8, 4, none⟩ = some (.int .i64 (mostU K)) := cell_of_row _ b8 4 _ _ _ HV2.out.u
      have hg2 := g2_calls g b5 r2 hz2.out wc HV2.out.g5 (fun W2 h => HG.out W2 (HV2.out.low.trans h)) HV2.out.s
      go_upto_if 54 with fail
      go_cut [2, 3, 5, 8] (fun v2 v3 v5 v8 wx => v2 = .pointer (some ⟨g, 0, none⟩) ∧ v3 = .pointer (some ⟨b3, 0, none⟩) ∧ v5 = .pointer (some ⟨b5, 0, none⟩) ∧ v8 = .pointer (some ⟨b8, 0, none⟩) ∧
        ∃ (i3 : Int) (r3 : ByteArray), Aside (i3 = if 0 ≤ mostU K then atoiN (upto sp r2.data.toList) else 0) ∧ Aside (r3.data.toList = if 0 ≤ mostU K then past sp r2.data.toList else r2.data.toList) ∧
        Aside (GV g b3 b5 b8 g (nmA K o1 n2 i3 ⟨#[]⟩) r3 #[.string ⟨(kword K).toArray⟩, .bool (ownB K), .bool (numB K), .bool (txtB K), .int .i64 (mostU K)] w wx))
      case first =>
        clear hgk
        generalize mostU K = m at *
        by_cases q : 0 ≤ m
        · have Q : Aside (0 ≤ m) := q
          go_wp2_with (go_at_call 62; refine hg2.mono ?_; rintro e w6 ⟨rfl, h1, h2, h3⟩; have HV3 := Aside.mk'' (HV2.out.after h1.out h2.out h3.out); have n6 : w6.cell? ⟨b3, 3, none⟩ = some (.int .i64 0) := cell_of_row _ b3 3 _ _ _ HV3.out.n; have f6 := frz HV3.out.n 3)
          go_meet
          exact ⟨rfl, rfl, rfl, rfl, _, ⟨(past sp r2.data.toList).toArray⟩, (if_pos Q.out).symm, (by show past sp r2.data.toList = _; rw [if_pos Q.out]), HV3.out.setN 3 _⟩
        · have Q : Aside (m < 0) := Int.not_le.1 q
          go_wp2_with fail
          go_meet
          exact ⟨rfl, rfl, rfl, rfl, 0, r2, (if_neg (by have := Q.out; omega)).symm, (by show r2.data.toList = _; rw [if_neg (by have := Q.out; omega)]), HV2.out⟩
      case rest =>
        obtain ⟨rfl, rfl, rfl, rfl, i3, r3, hi3, hr3, HV3⟩ := hcut
        clear HV2 u4 hg2
        have u3 : wc.cell? ⟨b8, 3, none⟩ = some (.bool (txtB K)) := cell_of_row _ b8 3 _ _ _ HV3.out.u
        have s3 : wc.cell? ⟨b5, 0, none⟩ = some (.string r3) := cell_of_row _ b5 0 _ _ _ HV3.out.s
        have n3 : wc.cell? ⟨b3, 4, none⟩ = some (.string ⟨#[]⟩) := cell_of_row _ b3 4 _ _ _ HV3.out.n
        have f3 := frz HV3.out.n 4
        go_upto_if 59 with fail
        go_cut [2, 3] (fun v2 v3 wx => v2 = .pointer (some ⟨g, 0, none⟩) ∧ v3 = .pointer (some ⟨b3, 0, none⟩) ∧
          ∃ (t4 : ByteArray), Aside (t4.data.toList = if txtB K then r3.data.toList else []) ∧
          Aside (GV g b3 b5 b8 g (nmA K o1 n2 i3 t4) r3 #[.string ⟨(kword K).toArray⟩, .bool (ownB K), .bool (numB K), .bool (txtB K), .int .i64 (mostU K)] w wx))
        case first =>
          clear hgk
          generalize txtB K = b1 at *
          cases b1 with
          | false =>
            go_wp2_with fail
            go_meet
            exact ⟨rfl, rfl, ⟨#[]⟩, rfl, HV3.out⟩
          | true =>
            go_wp2_with fail
            go_meet
            exact ⟨rfl, rfl, r3, rfl, HV3.out.setN 4 _⟩
        case rest =>
          obtain ⟨rfl, rfl, t4, ht4, HV4⟩ := hcut
          clear HV3 u3 s3 n3 f3
          have m0 : wc.cell? ⟨b3, 0, none⟩ = some (.int .i64 K) := cell_of_row _ b3 0 _ _ _ HV4.out.n
          have m1 : wc.cell? ⟨b3, 1, none⟩ = some (.string o1) := cell_of_row _ b3 1 _ _ _ HV4.out.n
          have m2 : wc.cell? ⟨b3, 2, none⟩ = some (.int .i64 n2) := cell_of_row _ b3 2 _ _ _ HV4.out.n
          have m3 : wc.cell? ⟨b3, 3, none⟩ = some (.int .i64 i3) := cell_of_row _ b3 3 _ _ _ HV4.out.n
          have m4 : wc.cell? ⟨b3, 4, none⟩ = some (.string t4) := cell_of_row _ b3 4 _ _ _ HV4.out.n
          have r0 : wc.cell? ⟨g, 0, none⟩ = some (.int .i64 0) := cell_of_row _ g 0 _ _ _ HV4.out.r
          have r1_ : wc.cell? ⟨g, 1, none⟩ = some (.string ⟨#[]⟩) := cell_of_row _ g 1 _ _ _ HV4.out.r
          have r2_ : wc.cell? ⟨g, 2, none⟩ = some (.int .i64 0) := cell_of_row _ g 2 _ _ _ HV4.out.r
          have r3_ : wc.cell? ⟨g, 3, none⟩ = some (.int .i64 0) := cell_of_row _ g 3 _ _ _ HV4.out.r
          have r4_ : wc.cell? ⟨g, 4, none⟩ = some (.string ⟨#[]⟩) := cell_of_row _ g 4 _ _ _ HV4.out.r
          have f0 := frz HV4.out.r 0
          have f1 := frz HV4.out.r 1
          have f2 := frz HV4.out.r 2
          have f3 := frz HV4.out.r 3
          have f4 := frz HV4.out.r 4
          go_wp2_with fail
          have hX : nmA X.k ⟨X.o.toArray⟩ X.n X.i ⟨X.t.toArray⟩ = nmA K o1 n2 i3 t4 := by
            rw [show X = _ from hgk.out]
            simp only [guessOk, mostU_nn]
            rw [← ho1.out, ← hr1.out, ← hn2.out, ← hr2.out, ← hi3.out, ← hr3.out, ← ht4.out, ba_eta, ba_eta]
          rw [hX]
          have hlow := HV4.out.low
          have hrow := row_set (j := 4) (.string t4) (row_set (j := 3) (.int .i64 i3) (row_set (j := 2) (.int .i64 n2) (row_set (j := 1) (.string o1) (row_set (j := 0) (.int .i64 (K : Int)) HV4.out.r))))
          refine bodyPost_ret (v := .agg (nmA K o1 n2 i3 t4)) ?_ rfl ⟨rfl, ?_⟩
          · exact results_cell_row rfl _ _ g 28 (nmA K o1 n2 i3 t4) (0, 0) _ rfl hrow Tryd.underlying28 rfl (by kernel_rfl)
          · rw [show w.heap.size = g from HG0.out]
            exact ((((hlow.setCell (p := ⟨g, 0, none⟩) (Nat.le_refl _) _).setCell (p := ⟨g, 1, none⟩) (Nat.le_refl _) _).setCell (p := ⟨g, 2, none⟩) (Nat.le_refl _) _).setCell (p := ⟨g, 3, none⟩) (Nat.le_refl _) _).setCell (p := ⟨g, 4, none⟩) (Nat.le_refl _) _
instance (s : List UInt8) : Decidable (Asc s) := by unfold Asc; infer_instance
def g_guess.f (a0 : ByteArray) : Option (Int × ByteArray × Int × Int × ByteArray) :=
  if a0.size ≤ 1000000 ∧ Asc a0.data.toList then some ((guessO a0.data.toList).k, ⟨(guessO a0.data.toList).o.toArray⟩, (guessO a0.data.toList).n, (guessO a0.data.toList).i, ⟨(guessO a0.data.toList).t.toArray⟩) else none
theorem g_guess.calls (a0 : ByteArray) (r1 : Int) (r2 : ByteArray) (r3 r4 : Int) (r5 : ByteArray) (w : World) (h : g_guess.f a0 = some (r1, r2, r3, r4, r5)) (hgg : GG w) :
    Calls Tryd.prog 37 #[.string a0] w fun e w' => e = .returned (.agg #[.int .i64 r1, .string r2, .int .i64 r3, .int .i64 r4, .string r5]) ∧ Below w.heap.size w w' := by
  unfold g_guess.f at h
  split at h
  · rename_i hs
    injection h with h
    simp only [Prod.mk.injEq] at h
    obtain ⟨rfl, rfl, rfl, rfl, rfl⟩ := h
    exact guess_calls a0 hs.1 hs.2 w hgg
  · cases h
end Go.Proofs.YtkdfilpinlebbaaDoor.G
