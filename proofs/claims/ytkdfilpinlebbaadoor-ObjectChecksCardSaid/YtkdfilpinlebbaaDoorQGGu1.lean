/- This session's texts for the claim, joined and shortened by this session's own program pack.py: what the claim does not need is struck. Part: GGu1. -/
import Derived.Test.YtkdfilpinlebbaaDoorQGUses
import Derived.Test.YtkdfilpinlebbaaDoorQGLibO
import Derived.Test.YtkdfilpinlebbaaDoorQGGu0
import Derived.Deep.LoopGhost
import Derived.Lib.SmallJoins
set_option linter.unusedVariables false
set_option linter.unusedSimpArgs false
namespace Go.Proofs.YtkdfilpinlebbaaDoor.G
open Go.RowKit Go.Shelf Go.Lib
theorem cellO {w : World} {a : Addr} {v : Value} (h : w.cell? a = some v) (o : Obj) : (w.alloc o).cell? a = some v :=
  (((Below.refl w.heap.size w).alloc (Nat.le_refl _) o).cell (World.block_lt_of_cell? w _ h)).trans h
theorem g1_calls (wd word : ByteArray) (a b c : Bool) (m : Int) (bw : Nat) (W : World) (hc : W.cell? ⟨bw, 0, none⟩ = some (.string word)) :
    Calls Tryd.prog 60 #[.agg #[.string wd, .bool a, .bool b, .bool c, .int .i64 m], .pointer (some ⟨bw, 0, none⟩)] W fun e w' => e = .returned (.bool (wd.toList == word.toList && !word.toList.isEmpty)) ∧ Below W.heap.size W w' := by
  have hco : ∀ o, (W.alloc o).cell? ⟨bw, 0, none⟩ = some (.string word) := fun o => cellO hc o
  cases h : (wd.toList == word.toList)
  · go_enter Tryd.func60, Tryd.ntmps60
    go_wp2
    go_ret
    exact ⟨rfl, (Below.refl _ W).alloc (Nat.le_refl _) _⟩
  · cases h2 : word.toList.isEmpty
    · go_enter Tryd.func60, Tryd.ntmps60
      go_wp2
      go_ret
      exact ⟨rfl, (Below.refl _ W).alloc (Nat.le_refl _) _⟩
    · go_enter Tryd.func60, Tryd.ntmps60
      go_wp2
      go_ret
      exact ⟨rfl, (Below.refl _ W).alloc (Nat.le_refl _) _⟩
theorem usesA0 : ∀ k, k ≤ 20 → usesA[k * 5]? = some (.string ⟨(kword k).toArray⟩)
  | 0, _ => by kernel_rfl
  | 1, _ => by kernel_rfl
  | 2, _ => by kernel_rfl
  | 3, _ => by kernel_rfl
  | 4, _ => by kernel_rfl
  | 5, _ => by kernel_rfl
  | 6, _ => by kernel_rfl
  | 7, _ => by kernel_rfl
  | 8, _ => by kernel_rfl
  | 9, _ => by kernel_rfl
  | 10, _ => by kernel_rfl
  | 11, _ => by kernel_rfl
  | 12, _ => by kernel_rfl
  | 13, _ => by kernel_rfl
  | 14, _ => by kernel_rfl
  | 15, _ => by kernel_rfl
  | 16, _ => by kernel_rfl
  | 17, _ => by kernel_rfl
  | 18, _ => by kernel_rfl
  | 19, _ => by kernel_rfl
  | 20, _ => by kernel_rfl
  | k + 21, h => absurd h (by omega)
theorem usesA1 : ∀ k, k ≤ 20 → usesA[k * 5 + 1]? = some (.bool (ownB k))
  | 0, _ => by kernel_rfl
  | 1, _ => by kernel_rfl
  | 2, _ => by kernel_rfl
  | 3, _ => by kernel_rfl
  | 4, _ => by kernel_rfl
  | 5, _ => by kernel_rfl
  | 6, _ => by kernel_rfl
  | 7, _ => by kernel_rfl
  | 8, _ => by kernel_rfl
  | 9, _ => by kernel_rfl
  | 10, _ => by kernel_rfl
  | 11, _ => by kernel_rfl
  | 12, _ => by kernel_rfl
  | 13, _ => by kernel_rfl
  | 14, _ => by kernel_rfl
  | 15, _ => by kernel_rfl
  | 16, _ => by kernel_rfl
  | 17, _ => by kernel_rfl
  | 18, _ => by kernel_rfl
  | 19, _ => by kernel_rfl
  | 20, _ => by kernel_rfl
  | k + 21, h => absurd h (by omega)
theorem usesA2 : ∀ k, k ≤ 20 → usesA[k * 5 + 2]? = some (.bool (numB k))
  | 0, _ => by kernel_rfl
  | 1, _ => by kernel_rfl
  | 2, _ => by kernel_rfl
  | 3, _ => by kernel_rfl
  | 4, _ => by kernel_rfl
  | 5, _ => by kernel_rfl
  | 6, _ => by kernel_rfl
  | 7, _ => by kernel_rfl
  | 8, _ => by kernel_rfl
  | 9, _ => by kernel_rfl
  | 10, _ => by kernel_rfl
  | 11, _ => by kernel_rfl
  | 12, _ => by kernel_rfl
  | 13, _ => by kernel_rfl
  | 14, _ => by kernel_rfl
  | 15, _ => by kernel_rfl
  | 16, _ => by kernel_rfl
  | 17, _ => by kernel_rfl
  | 18, _ => by kernel_rfl
  | 19, _ => by kernel_rfl
  | 20, _ => by kernel_rfl
  | k + 21, h => absurd h (by omega)
theorem usesA3 : ∀ k, k ≤ 20 → usesA[k * 5 + 3]? = some (.bool (txtB k))
  | 0, _ => by kernel_rfl
  | 1, _ => by kernel_rfl
  | 2, _ => by kernel_rfl
  | 3, _ => by kernel_rfl
  | 4, _ => by kernel_rfl
  | 5, _ => by kernel_rfl
  | 6, _ => by kernel_rfl
  | 7, _ => by kernel_rfl
  | 8, _ => by kernel_rfl
  | 9, _ => by kernel_rfl
  | 10, _ => by kernel_rfl
  | 11, _ => by kernel_rfl
  | 12, _ => by kernel_rfl
  | 13, _ => by kernel_rfl
  | 14, _ => by kernel_rfl
  | 15, _ => by kernel_rfl
  | 16, _ => by kernel_rfl
  | 17, _ => by kernel_rfl
  | 18, _ => by kernel_rfl
  | 19, _ => by kernel_rfl
  | 20, _ => by kernel_rfl
  | k + 21, h => absurd h (by omega)
theorem usesA4 : ∀ k, k ≤ 20 → usesA[k * 5 + 4]? = some (.int .i64 (mostU k))
  | 0, _ => by kernel_rfl
  | 1, _ => by kernel_rfl
  | 2, _ => by kernel_rfl
  | 3, _ => by kernel_rfl
  | 4, _ => by kernel_rfl
  | 5, _ => by kernel_rfl
  | 6, _ => by kernel_rfl
  | 7, _ => by kernel_rfl
  | 8, _ => by kernel_rfl
  | 9, _ => by kernel_rfl
  | 10, _ => by kernel_rfl
  | 11, _ => by kernel_rfl
  | 12, _ => by kernel_rfl
  | 13, _ => by kernel_rfl
  | 14, _ => by kernel_rfl
  | 15, _ => by kernel_rfl
  | 16, _ => by kernel_rfl
  | 17, _ => by kernel_rfl
  | 18, _ => by kernel_rfl
  | 19, _ => by kernel_rfl
  | 20, _ => by kernel_rfl
  | k + 21, h => absurd h (by omega)
def hitB (word : List UInt8) (k : Nat) : Bool := kword k == word && !word.isEmpty
set_option maxHeartbeats 2000000 in
theorem ixf_calls (ba bw : Nat) (word : ByteArray) (w : World) (hA : w.heap[ba]? = some (.cells usesA 54 (0, 0))) (hc : w.cell? ⟨bw, 0, none⟩ = some (.string word)) (r : Int)
    (hr : (∀ k, k ≤ 20 → hitB word.data.toList k = false) ∧ r = -1 ∨ ∃ k : Nat, k ≤ 20 ∧ r = k ∧ hitB word.data.toList k = true ∧ ∀ j, j < k → hitB word.data.toList j = false) :
    Calls Tryd.prog 59 #[.slice (some ⟨ba, 0, none⟩) 21 21, .func (.func 60) #[] #[.pointer (some ⟨bw, 0, none⟩)]] w fun e w' => e = .returned (.int .i64 r) ∧ Below w.heap.size w w' := by
  have HA : Aside (w.heap[ba]? = some (.cells usesA 54 (0, 0))) := hA
  have HC : Aside (w.cell? ⟨bw, 0, none⟩ = some (.string word)) := hc
  have HR : Aside _ := hr
  clear hA hc hr
  go_enter Tryd.func59, Tryd.ntmps59
  go_wp2
  go_loopg [5, 8] 21 (fun gg _ s8 wr => ∃ kk : Nat, kk ≤ 21 ∧ 21 - kk ≤ gg ∧ s8 = .int .i64 kk ∧ Aside (Below w.heap.size w wr) ∧ Aside (∀ j, j < kk → hitB word.data.toList j = false))
  case atStart => exact ⟨0, by omega, by omega, rfl, Below.refl _ _, fun j hj => absurd hj (Nat.not_lt_zero _)⟩
  case round =>
    obtain ⟨kk, hkk, hg, rfl, HB, A⟩ := hrel
    have hba : ba < w.heap.size := (Array.getElem?_eq_some_iff.1 HA.out).1
    by_cases hlt : kk < 21
    · have hltz : (kk : Int) < 21 := by omega
      have hblk : Aside (wr.heap[ba]? = some (.cells usesA 54 (0, 0))) := (HB.out.block ba hba).trans HA.out
      have c0 : wr.cell? ⟨ba, kk * 5, none⟩ = some (.string ⟨(kword kk).toArray⟩) := (cell_of_row _ _ _ _ _ _ hblk.out).trans (usesA0 kk (by omega))
      have c1 : wr.cell? ⟨ba, kk * 5 + 1, none⟩ = some (.bool (ownB kk)) := (cell_of_row _ _ _ _ _ _ hblk.out).trans (usesA1 kk (by omega))
      have c2 : wr.cell? ⟨ba, kk * 5 + 2, none⟩ = some (.bool (numB kk)) := (cell_of_row _ _ _ _ _ _ hblk.out).trans (usesA2 kk (by omega))
      have c3 : wr.cell? ⟨ba, kk * 5 + 3, none⟩ = some (.bool (txtB kk)) := (cell_of_row _ _ _ _ _ _ hblk.out).trans (usesA3 kk (by omega))
      have c4 : wr.cell? ⟨ba, kk * 5 + 4, none⟩ = some (.int .i64 (mostU kk)) := (cell_of_row _ _ _ _ _ _ hblk.out).trans (usesA4 kk (by omega))
      have hcw := (HB.out.cell (World.block_lt_of_cell? w _ HC.out)).trans HC.out
      have hcall := g1_calls ⟨(kword kk).toArray⟩ word (ownB kk) (numB kk) (txtB kk) (mostU kk) bw wr hcw
      have hval : ((⟨(kword kk).toArray⟩ : ByteArray).toList == word.toList && !word.toList.isEmpty) = hitB word.data.toList kk := by
        rw [Lib.toList_data, Lib.toList_data]
        rfl
      rw [hval] at hcall
      clear hval hcw
      cases hq : hitB word.data.toList kk with
      | true =>
        rw [hq] at hcall
        have HQ : Aside (hitB word.data.toList kk = true) := hq
        clear hq
        go_wp2_with (go_at_call 60; refine hcall.mono ?_; rintro e w' ⟨rfl, hb2⟩)
        go_ret
        refine ⟨?_, HB.out.trans (hb2.mono (HB.out.size))⟩
        rcases HR.out with ⟨h, rfl⟩ | ⟨k, hk, rfl, h1, h2⟩
        · rw [h kk (by omega)] at HQ
          exact absurd HQ.out (by decide)
        · rcases Nat.lt_trichotomy k kk with h | h | h
          · rw [A.out k h] at h1
            cases h1
          · subst h
            rfl
          · have := HQ.out
            rw [h2 kk h] at this
            cases this
      | false =>
        rw [hq] at hcall
        have HQ : Aside (hitB word.data.toList kk = false) := hq
        clear hq
        go_wp2_with (go_at_call 60; refine hcall.mono ?_; rintro e w' ⟨rfl, hb2⟩)
        go_roundg (21 - (kk + 1))
        case measure => omega
        case rel =>
          refine ⟨kk + 1, by omega, by omega, by go_num, HB.out.trans (hb2.mono (HB.out.size)), (show Aside _ from fun j hj => ?_)⟩
          by_cases e : j = kk
          · subst e
            exact HQ.out
          · exact A.out j (by omega)
    · have hltz : ¬ (kk : Int) < 21 := by omega
      obtain rfl : kk = 21 := by omega
      go_wp2
      go_ret
      refine ⟨?_, HB.out⟩
      rcases HR.out with ⟨h, rfl⟩ | ⟨k, hk, rfl, h1, h2⟩
      · rfl
      · rw [A.out k (by omega)] at h1
        cases h1
theorem cut_calls (s : ByteArray) (hs : s.size ≤ 1000000) (w : World) (hgg : GG w) :
    Calls Tryd.prog 58 #[.string s, .string ⟨#[32]⟩] w fun e w' => (∃ fb, e = .returned (.tuple #[.string ⟨(upto sp s.data.toList).toArray⟩, .string ⟨(past sp s.data.toList).toArray⟩, .bool fb])) ∧ ∃ q, w' = w.drewN q := by
  obtain ⟨m, hm⟩ := hgg.2.1
  have h := Tryd.strings_Cut s ⟨#[32]⟩ m w (by omega) hm
  have e : (⟨#[32]⟩ : ByteArray).data.toList = [32] := rfl
  rw [e, (cut32 s.data.toList).1, (cut32 s.data.toList).2] at h
  exact h.mono fun e w' ⟨he, hw⟩ => ⟨⟨_, he⟩, hw⟩
theorem atoi_calls (s : ByteArray) (hs : s.size ≤ 1000000) (w : World) (hgg : GG w) :
    Calls Tryd.prog 63 #[.string s] w fun e w' => (∃ v ev, e = .returned (.tuple #[.int .i64 v, ev]) ∧ (ev = .nilIface ∧ v = atoiN s.data.toList ∨ (∃ t p, ev = .iface t p) ∧ atoiN s.data.toList = -1)) ∧ Below w.heap.size w w' := by
  obtain ⟨_, _, ⟨t1, p1, h3⟩, ⟨t2, p2, h4⟩⟩ := hgg
  rcases hq : Lib.atoiAll s.data.toList with v | _ | _
  · refine (Tryd.strconv_Atoi_ok s (by omega) v hq w).mono ?_
    rintro e w' ⟨rfl, hb⟩
    refine ⟨⟨_, _, rfl, .inl ⟨rfl, ?_⟩⟩, ?_⟩
    · unfold atoiN
      rw [hq]
    · rcases hb with rfl | ⟨t, rfl⟩
      · exact Below.refl _ _
      · exact Joins.below_bytesWorld _ w 5 t (Nat.le_refl _)
  · refine (Tryd.strconv_Atoi_syntax_var s (by omega) hq t1 p1 w h3).mono ?_
    rintro e w' ⟨N, rfl, _, _, hb⟩
    exact ⟨⟨_, _, rfl, .inr ⟨⟨_, _, rfl⟩, by unfold atoiN; rw [hq]⟩⟩, hb⟩
  · refine (Tryd.strconv_Atoi_range_var s (by omega) hq t2 p2 w h4).mono ?_
    rintro e w' ⟨N, rfl, _, _, hb⟩
    exact ⟨⟨_, _, rfl, .inr ⟨⟨_, _, rfl⟩, by unfold atoiN; rw [hq]⟩⟩, hb⟩
theorem drewN_below (B : Nat) (w : World) (q : Nat) : Below B w (w.drewN q) := ⟨rfl, rfl, rfl, Nat.le_refl _, fun _ _ => rfl⟩
set_option maxHeartbeats 2000000 in
theorem g2_calls (g br : Nat) (rest : ByteArray) (hs : rest.size ≤ 1000000) (W : World) (hg : g ≤ br) (hgg : ∀ W2, Below g W W2 → GG W2) (hb : W.heap[br]? = some (.cells #[.string rest] 9 (0, 0))) :
    Calls Tryd.prog 62 #[.pointer (some ⟨br, 0, none⟩)] W fun e w' => e = .returned (.int .i64 (atoiN (upto sp rest.data.toList))) ∧
      Aside (w'.heap[br]? = some (.cells #[.string ⟨(past sp rest.data.toList).toArray⟩] 9 (0, 0))) ∧ Aside (∀ k, k < W.heap.size → k ≠ br → w'.heap[k]? = W.heap[k]?) ∧ Aside (Below g W w') := by
  have hlt : br < W.heap.size := (Array.getElem?_eq_some_iff.1 hb).1
  have hcd : ∀ q, (W.drewN q).cell? ⟨br, 0, none⟩ = some (.string rest) := fun q => cell_of_row (W.drewN q) br 0 _ _ _ hb
  have hfd : ∀ q, (W.drewN q).frozen? ⟨br, 0, none⟩ = false := fun q => by
    have : (W.drewN q).frozen? ⟨br, 0, none⟩ = W.frozen? ⟨br, 0, none⟩ := rfl
    rw [this]
    simp [World.frozen?, hb]
  have hc : W.cell? ⟨br, 0, none⟩ = some (.string rest) := hcd 0
  have hcut := cut_calls rest hs W (hgg W (Below.refl _ _))
  have hul : (upto sp rest.data.toList).length ≤ 1000000 := by
    have := upto_len sp rest.data.toList
    have h2 : rest.data.toList.length = rest.size := by simp
    omega
  have hat := fun (W2 : World) (h : Below g W W2) => atoi_calls ⟨(upto sp rest.data.toList).toArray⟩ hul W2 (hgg W2 h)
  have hset : Aside (∀ q v, Below g W ((W.drewN q).setCell ⟨br, 0, none⟩ v)) := fun q v => (drewN_below g W q).setCell hg v
  have hrow : Aside (∀ q v, ((W.drewN q).setCell ⟨br, 0, none⟩ v).heap[br]? = some (.cells #[v] 9 (0, 0))) := fun q v => by
    have h0 : (W.drewN q).heap[br]? = some (.cells #[.string rest] 9 (0, 0)) := hb
    obtain ⟨hlt, hk⟩ := Array.getElem?_eq_some_iff.1 h0
    show ((W.drewN q).heap.modify br _)[br]? = _
    rw [Array.getElem?_eq_getElem (by rw [Array.size_modify]; exact hlt), Array.getElem_modify_self, hk]
    rfl
  have hoth : Aside (∀ q v k, k ≠ br → ((W.drewN q).setCell ⟨br, 0, none⟩ v).heap[k]? = W.heap[k]?) := fun q v k h => Below.heap_setCell (W.drewN q) _ v k h
  have hsz : Aside (∀ q v, ((W.drewN q).setCell ⟨br, 0, none⟩ v).heap.size = W.heap.size) := fun q v => by
    show ((W.drewN q).heap.modify br _).size = _
    rw [Array.size_modify]
    rfl
  have hbr : Aside (br < W.heap.size) := hlt
  have hgl : Aside (g ≤ W.heap.size) := (by show g ≤ _; omega)
  clear hgg hb hlt hul
  go_enter Tryd.func62, Tryd.ntmps62
  go_wp2_with (first | (go_at_call 58; refine hcut.mono ?_; rintro e w1 ⟨⟨fb, rfl⟩, q, rfl⟩) | (go_at_call 63; refine (hat _ (hset.out _ _)).mono ?_; rintro e w2 ⟨⟨v, ev, rfl, hv⟩, hb2⟩; rcases hv with ⟨rfl, rfl⟩ | ⟨⟨t, p, rfl⟩, hm⟩))
  all_goals
    go_ret
    refine ⟨?_, ?_, ?_, ?_⟩
    · first
        | rfl
        | (show Ending.returned (.int .i64 (-1)) = Ending.returned (.int .i64 (atoiN (upto sp rest.data.toList))); rw [hm]; done)
        | (simp [hm]; done)
        | trace_state
    · exact (hb2.block br (by rw [hsz.out]; exact hbr.out)).trans (hrow.out _ _)
    · exact fun k hk hkb => (hb2.block k (by rw [hsz.out]; exact hk)).trans (hoth.out _ _ k hkb)
    · exact (hset.out _ _).trans (hb2.mono (by rw [hsz.out]; exact hgl.out))
end Go.Proofs.YtkdfilpinlebbaaDoor.G
