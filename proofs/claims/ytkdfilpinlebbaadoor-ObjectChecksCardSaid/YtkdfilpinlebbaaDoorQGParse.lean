/- This session's texts for the claim, joined and shortened by this session's own program pack.py: what the claim does not need is struck. Part: GParse. -/
import Derived.RangeFuncNested
import Derived.RangeFuncBound
import Derived.RangeFuncCalls
import Derived.RangeFuncLeaves
import Derived.RangeFuncBox
import Derived.Maps.AppendAt
import Derived.Shelf.Abstract
import Derived.Shelf.RegionOpen
import Derived.WalkKit
import Derived.OwnWalkIn
import Derived.TacticsInMore
import Derived.LoopNIn
import Derived.LoopIn
import Derived.Outline
import Derived.WalkSpells
import Derived.Lib.SmallJoins
import Derived.Lib.Hide
import Derived.Test.YtkdfilpinlebbaaDoorQShelf
import Derived.Test.YtkdfilpinlebbaaDoorQGSpec
namespace Go.Proofs.YtkdfilpinlebbaaDoor.G
open Go.RowKit Go.Shelf
attribute [local go_sem] Oper.semAt_some
def partV (p : Int × Int × Int) : Value := .agg #[.int .i64 p.1, .int .i64 p.2.1, .int .i64 p.2.2]
def KeepsParts (W W' : World) : Prop :=
  ∀ (k : Nat) (cs : Array Value) (t : TypeId) (m : Nat × Nat), t = 9 ∨ t = 120 → W.heap[k]? = some (.cells cs t m) → W'.heap[k]? = some (.cells cs t m)
theorem cells_set {w : World} {b : Nat} {x y z v : Value} {t : TypeId} (h : w.heap[b]? = some (.cells #[x, y, z] t (0, 0))) : (w.setCell ⟨b, 0, none⟩ v).heap[b]? = some (.cells #[v, y, z] t (0, 0)) := by
  obtain ⟨hlt, hk⟩ := Array.getElem?_eq_some_iff.1 h
  show (w.heap.modify b _)[b]? = _
  rw [Array.getElem?_eq_getElem (by rw [Array.size_modify]; exact hlt), Array.getElem_modify_self, hk]
  rfl
def partsL (l : List UInt8) : List (Int × Int × Int) := if l = [] then [] else pp 8 0 l
set_option maxRecDepth 100000 in
set_option maxHeartbeats 4000000 in
theorem parts1_in (n : Nat) (hn : 1 ≤ n) (l Bs : Nat) (s : ByteArray) (hs : s.size ≤ 140737488351232) (J Jx : List (Int × Int × Int) → World → Prop) (W : World) (hJ : AbidesFrom W.heap.size J)
    (hY : ∀ pre x W, J pre W → pre.length < 10 → YieldAt Fence.wide (n - 1) Tryd.prog l #[partV x] W fun e W' =>
      (e = .returned (.bool true) ∧ J (pre ++ [x]) W' ∧ KeepsParts W W') ∨ (e = .returned (.bool false) ∧ Jx (pre ++ [x]) W'))
    (hB : Boxed W Bs 9 (.string s)) (h0 : J [] W) :
    CallsIn Fence.wide n Tryd.prog 99 #[.func (.yield l) #[] #[], .pointer (some ⟨Bs, 0, none⟩)] W fun e W' => (∃ v, e = .returned v) ∧
      ((∃ ys, ys = partsL s.data.toList ∧ J ys W') ∨ (∃ pre, pre <+: partsL s.data.toList ∧ Jx pre W')) := by
  refine callsIn_of_wp Tryd.func99 rfl trivial ?_ rfl
  simp only [Tryd.ntmps99, List.size_toArray, List.length_cons, List.length_nil, Nat.reduceAdd, Nat.reduceSub, Array.replicate_succ, Array.replicate_zero, List.push_toArray, List.append_toArray, List.nil_append, List.cons_append]
  by_cases he : s.data.toList = []
  · have hc := hB.cell
    have hemp : s.toList.isEmpty = true := by rw [Lib.toList_data, he]; rfl
    gi_wp2
    gi_loopw [3, 4] (fun v3 v4 wr => J [] wr ∧ Boxed wr Bs 9 (.string s)) (fun v3 v4 wr => 0)
    case atStart => exact ⟨h0, hB⟩
    case round =>
      obtain ⟨hj, hb⟩ := hrel
      have hc := hb.cell
      gi_wp2
      go_end0
      exact ⟨⟨_, rfl⟩, .inl ⟨[], by simp [partsL, he], hj⟩⟩
  · have hc := hB.cell
    have hemp : s.toList.isEmpty = false := by rw [Lib.toList_data]; simpa using he
    gi_wp2
    gi_loopw [3, 4] (fun v3 v4 wr => ∃ (at_ n : Nat) (pre : List (Int × Int × Int)), v3 = .int .i64 at_ ∧ v4 = .int .i64 n ∧ n ≤ 8 ∧ Hid (pre.length = n) ∧ at_ ≤ s.size ∧ Hid (partsL s.data.toList = pre ++ pp (8 - n) at_ (s.data.toList.drop at_)) ∧ J pre wr ∧ Boxed wr Bs 9 (.string s)) (fun v3 v4 wr => 9 - (intOf v4).toNat)
    case atStart => exact ⟨0, 0, [], rfl, rfl, by omega, rfl, by omega, Lib.hid (by simp [partsL, he]), h0, hB⟩
    case round =>
      obtain ⟨at_, n, pre, rfl, rfl, hn8, hlen, hat, hpp, hj, hb⟩ := hrel
      have hc := hb.cell
      clear hB h0
      gi_wp2
      obtain ⟨d, hd⟩ : ∃ d, digs (s.data.toList.drop at_) = d := ⟨_, rfl⟩
      have hdl : at_ + d ≤ s.size := by
        have := digs_le (s.data.toList.drop at_)
        simp at this
        omega
      have hdig : ∀ j : Nat, j < d → ∃ h : at_ + j < s.size, 48 ≤ (s[at_ + j]'h).toNat ∧ (s[at_ + j]'h).toNat ≤ 57 := by
        intro j hj
        refine ⟨by omega, ?_⟩
        have hjl : j < (s.data.toList.drop at_).length := by have := digs_le (s.data.toList.drop at_); omega
        have := digs_at (s.data.toList.drop at_) j hjl (by omega)
        rw [List.getElem_drop] at this
        exact this
      have hend : ∀ h : at_ + d < s.size, ¬ (48 ≤ (s[at_ + d]'h).toNat ∧ (s[at_ + d]'h).toNat ≤ 57) := by
        intro h
        subst hd
        have hjl : digs (s.data.toList.drop at_) < (s.data.toList.drop at_).length := by simp; omega
        have := digs_end (s.data.toList.drop at_) hjl
        rw [List.getElem_drop] at this
        exact this
      have HD := Lib.hid hd
      have HG := Lib.hid hdig
      have HE := Lib.hid hend
      clear hd hdig hend
      have hcA : ∀ o, (wr.alloc o).cell? ⟨Bs, 0, none⟩ = some (.string s) := fun o => (hb.alloc o).cell
      gi_loop [6] (fun v6 => ∃ j : Nat, j ≤ d ∧ v6 = .int .i64 j) (fun v6 => d - (intOf v6).toNat)
      case atStart => exact ⟨0, by omega, rfl⟩
      case round =>
        obtain ⟨j, hjd, rfl⟩ := hrel
        by_cases hjl : j < d
        · obtain ⟨h1, h2, h3⟩ := HG.out j hjl
          gi_wp2
          go_round
          case rel => exact ⟨j + 1, by omega, by go_num⟩
          case measure => simp [intOf]; omega
        · obtain rfl : j = d := by omega
          have hex : ¬ at_ + j < s.size ∨ (∃ h : at_ + j < s.size, (s[at_ + j]'h).toNat < 48) ∨ (∃ h : at_ + j < s.size, 57 < (s[at_ + j]'h).toNat) := by
            by_cases h : at_ + j < s.size
            · have := HE.out h
              rcases Nat.lt_or_ge (s[at_ + j]'h).toNat 48 with h' | h'
              · exact .inr (.inl ⟨h, h'⟩)
              · exact .inr (.inr ⟨h, by omega⟩)
            · exact .inl h
          clear hjl
          by_cases h8 : n = 8
          · subst h8
            rcases hex with hx | ⟨hx, hx2⟩ | ⟨hx, hx2⟩
            all_goals
              have hj1 : J pre (wr.alloc (.cells #[.int .i64 0, .int .i64 at_, .int .i64 9] 120)) := hJ pre wr _ none hj (World.grownBy_alloc wr _ none) (fun r e => by cases e)
              obtain ⟨fn, tmps, assign, body, hy, hR⟩ := hY pre (0, (at_ : Int), 9) _ hj1 (by have := hlen.out; omega)
              dsimp only [partV] at hy
              gi_wp2
              refine hR.mono ?_
              rintro e W3 (⟨rfl, hJ3, hk3⟩ | ⟨rfl, hJx3⟩)
              · have hp3 := hk3 wr.heap.size _ _ _ (.inr rfl) (World.alloc_heap_new wr _)
                have hpc : W3.cell? ⟨wr.heap.size, 2, none⟩ = some (.int .i64 9) := by simp [World.cell?, hp3]
                gi_wp2
                refine bodyPost_ret (results_none rfl _ _ _) rfl ?_
                exact ⟨⟨_, rfl⟩, .inl ⟨_, by rw [hpp.out, pp_limit 8 at_ _ rfl], hJ3⟩⟩
              · gi_wp2
                refine bodyPost_ret (results_none rfl _ _ _) rfl ?_
                exact ⟨⟨_, rfl⟩, .inr ⟨_, ⟨[], by rw [hpp.out, pp_limit 8 at_ _ rfl]; simp⟩, hJx3⟩⟩
          · have hn8' : n < 8 := by omega
            clear h8
            by_cases hsz : at_ = s.size
            · obtain rfl : j = 0 := by omega
              subst hsz
              clear hex
              all_goals
                have hj1 : J pre (wr.alloc (.cells #[.int .i64 0, .int .i64 s.size, .int .i64 4] 120)) := hJ pre wr _ none hj (World.grownBy_alloc wr _ none) (fun r e => by cases e)
                obtain ⟨fn, tmps, assign, body, hy, hR⟩ := hY pre (0, (s.size : Int), 4) _ hj1 (by have := hlen.out; omega)
                dsimp only [partV] at hy
                gi_wp2
                refine hR.mono ?_
                rintro e W3 (⟨rfl, hJ3, hk3⟩ | ⟨rfl, hJx3⟩)
                · have hp3 := hk3 wr.heap.size _ _ _ (.inr rfl) (World.alloc_heap_new wr _)
                  have hpc : W3.cell? ⟨wr.heap.size, 2, none⟩ = some (.int .i64 4) := by simp [World.cell?, hp3]
                  gi_wp2
                  refine bodyPost_ret (results_none rfl _ _ _) rfl ?_
                  exact ⟨⟨_, rfl⟩, .inl ⟨_, by rw [hpp.out, pp_short n s.size _ hn8' (by simp)], hJ3⟩⟩
                · gi_wp2
                  refine bodyPost_ret (results_none rfl _ _ _) rfl ?_
                  exact ⟨⟨_, rfl⟩, .inr ⟨_, ⟨[], by rw [hpp.out, pp_short n s.size _ hn8' (by simp)]; simp⟩, hJx3⟩⟩
            · have hlt : at_ < s.size := by omega
              have hltL : at_ < s.data.toList.length := by simpa using hlt
              clear hsz
              by_cases hj0 : j = 0
              · subst hj0
                simp only [Nat.add_zero] at hex
                have hz0 : digs (s.data.toList.drop at_) = 0 := HD.out
                have HZ0 := Lib.hid hz0
                clear hz0
                rcases hex with hx | ⟨hx, hx2⟩ | ⟨hx, hx2⟩
                · exact absurd hlt hx
                all_goals
                  have hj1 : J pre (wr.alloc (.cells #[.int .i64 0, .int .i64 at_, .int .i64 6] 120)) := hJ pre wr _ none hj (World.grownBy_alloc wr _ none) (fun r e => by cases e)
                  obtain ⟨fn, tmps, assign, body, hy, hR⟩ := hY pre (0, (at_ : Int), 6) _ hj1 (by have := hlen.out; omega)
                  dsimp only [partV] at hy
                  gi_wp2
                  refine hR.mono ?_
                  rintro e W3 (⟨rfl, hJ3, hk3⟩ | ⟨rfl, hJx3⟩)
                  · have hp3 := hk3 wr.heap.size _ _ _ (.inr rfl) (World.alloc_heap_new wr _)
                    have hpc : W3.cell? ⟨wr.heap.size, 2, none⟩ = some (.int .i64 6) := by simp [World.cell?, hp3]
                    gi_wp2
                    refine bodyPost_ret (results_none rfl _ _ _) rfl ?_
                    exact ⟨⟨_, rfl⟩, .inl ⟨_, by rw [hpp.out, pp_byte n at_ _ hn8' hltL HZ0.out], hJ3⟩⟩
                  · gi_wp2
                    refine bodyPost_ret (results_none rfl _ _ _) rfl ?_
                    exact ⟨⟨_, rfl⟩, .inr ⟨_, ⟨[], by rw [hpp.out, pp_byte n at_ _ hn8' hltL HZ0.out]; simp⟩, hJx3⟩⟩
              · have hjp : 0 < j := by omega
                have HZ : Hid (digs (s.data.toList.drop at_) ≠ 0) := Lib.hid (by rw [HD.out]; omega)
                clear hj0
                by_cases hz : (s[at_]'hlt).toNat = 48
                · have hzL : Hid ((s.data.toList[at_]'hltL).toNat = 48) := hz
                  have hzb : (((s[at_]'hlt).toNat : Int) == 48) = true := by rw [hz]; rfl
                  clear hz
                  rcases hex with hx | ⟨hx, hx2⟩ | ⟨hx, hx2⟩
                  all_goals
                    have hj1 : J pre (wr.alloc (.cells #[.int .i64 0, .int .i64 at_, .int .i64 3] 120)) := hJ pre wr _ none hj (World.grownBy_alloc wr _ none) (fun r e => by cases e)
                    obtain ⟨fn, tmps, assign, body, hy, hR⟩ := hY pre (0, (at_ : Int), 3) _ hj1 (by have := hlen.out; omega)
                    dsimp only [partV] at hy
                    gi_wp2
                    refine hR.mono ?_
                    rintro e W3 (⟨rfl, hJ3, hk3⟩ | ⟨rfl, hJx3⟩)
                    · have hp3 := hk3 wr.heap.size _ _ _ (.inr rfl) (World.alloc_heap_new wr _)
                      have hpc : W3.cell? ⟨wr.heap.size, 2, none⟩ = some (.int .i64 3) := by simp [World.cell?, hp3]
                      gi_wp2
                      refine bodyPost_ret (results_none rfl _ _ _) rfl ?_
                      exact ⟨⟨_, rfl⟩, .inl ⟨_, by rw [hpp.out, pp_format n at_ _ hn8' hltL HZ.out hzL.out], hJ3⟩⟩
                    · gi_wp2
                      refine bodyPost_ret (results_none rfl _ _ _) rfl ?_
                      exact ⟨⟨_, rfl⟩, .inr ⟨_, ⟨[], by rw [hpp.out, pp_format n at_ _ hn8' hltL HZ.out hzL.out]; simp⟩, hJx3⟩⟩
                · have hzL : Hid ((s.data.toList[at_]'hltL).toNat ≠ 48) := hz
                  have hzb : (((s[at_]'hlt).toNat : Int) == 48) = false := beq_eq_false_iff_ne.mpr (by omega)
                  clear hz
                  by_cases h6 : 6 < j
                  · have h6L : Hid (6 < digs (s.data.toList.drop at_)) := Lib.hid (by rw [HD.out]; exact h6)
                    rcases hex with hx | ⟨hx, hx2⟩ | ⟨hx, hx2⟩
                    all_goals
                      have hj1 : J pre (wr.alloc (.cells #[.int .i64 0, .int .i64 at_, .int .i64 2] 120)) := hJ pre wr _ none hj (World.grownBy_alloc wr _ none) (fun r e => by cases e)
                      obtain ⟨fn, tmps, assign, body, hy, hR⟩ := hY pre (0, (at_ : Int), 2) _ hj1 (by have := hlen.out; omega)
                      dsimp only [partV] at hy
                      gi_wp2
                      refine hR.mono ?_
                      rintro e W3 (⟨rfl, hJ3, hk3⟩ | ⟨rfl, hJx3⟩)
                      · have hp3 := hk3 wr.heap.size _ _ _ (.inr rfl) (World.alloc_heap_new wr _)
                        have hpc : W3.cell? ⟨wr.heap.size, 2, none⟩ = some (.int .i64 2) := by simp [World.cell?, hp3]
                        gi_wp2
                        refine bodyPost_ret (results_none rfl _ _ _) rfl ?_
                        exact ⟨⟨_, rfl⟩, .inl ⟨_, by rw [hpp.out, pp_range n at_ _ hn8' hltL h6L.out hzL.out], hJ3⟩⟩
                      · gi_wp2
                        refine bodyPost_ret (results_none rfl _ _ _) rfl ?_
                        exact ⟨⟨_, rfl⟩, .inr ⟨_, ⟨[], by rw [hpp.out, pp_range n at_ _ hn8' hltL h6L.out hzL.out]; simp⟩, hJx3⟩⟩
                  · have h6L : Hid (¬ 6 < digs (s.data.toList.drop at_)) := Lib.hid (by rw [HD.out]; exact h6)
                    have h6' : j ≤ 6 := by omega
                    clear h6
                    obtain ⟨V, hV⟩ : ∃ V : Int, ((val ((s.data.toList.drop at_).take j) : Nat) : Int) = V := ⟨_, rfl⟩
                    have HV : Hid (((val ((s.data.toList.drop at_).take (digs (s.data.toList.drop at_))) : Nat) : Int) = V) := Lib.hid (by rw [HD.out]; exact hV)
                    have hA : ∀ w : World, Calls Tryd.prog 63 #[.string (s.extract at_ (at_ + j))] w fun e w' => e = .returned (.tuple #[.int .i64 V, .nilIface]) ∧ Below w.heap.size w w' := by
                      intro w
                      have hel : (s.extract at_ (at_ + j)).data.toList = (s.data.toList.drop at_).take j := by
                        rw [Lib.extract_data]
                        simp
                      refine (Tryd.strconv_Atoi (s.extract at_ (at_ + j)) V ?_ ?_ w).mono ?_
                      · simp; omega
                      · rw [hel, ← hV]
                        refine atoi_val _ ?_ ?_
                        · intro e0
                          have := congrArg List.length e0
                          simp at this
                          omega
                        · rw [← HD.out]
                          exact take_digs_all _
                      · rintro e w' ⟨rfl, t, rfl⟩
                        exact ⟨rfl, Joins.below_bytesWorld _ _ _ _ (Nat.le_refl _)⟩
                    have HA := Lib.hid hA
                    clear hA hV
                    have step : ∀ w1 : World, Below (wr.alloc (.cells #[.int .i64 0, .int .i64 at_, .int .i64 0] 120)).heap.size (wr.alloc (.cells #[.int .i64 0, .int .i64 at_, .int .i64 0] 120)) w1 →
                        Boxed w1 Bs 9 (.string s) ∧ w1.heap[wr.heap.size]? = some (.cells #[.int .i64 0, .int .i64 at_, .int .i64 0] 120 (0, 0)) ∧
                        J pre (w1.setCell ⟨wr.heap.size, 0, none⟩ (.int .i64 V)) := by
                      intro w1 hb1
                      have hsz1 : wr.heap.size < (wr.alloc (.cells #[.int .i64 0, .int .i64 at_, .int .i64 0] 120)).heap.size := by simp
                      refine ⟨(hb1.block Bs (Nat.lt_trans hb.lt hsz1)).trans (hb.alloc _), (hb1.block _ hsz1).trans (World.alloc_heap_new wr _), ?_⟩
                      have hB : Below wr.heap.size wr (w1.setCell ⟨wr.heap.size, 0, none⟩ (.int .i64 V)) :=
                        (((Below.refl wr.heap.size wr).alloc (Nat.le_refl _) _).trans (hb1.mono (by simp))).setCell (p := ⟨wr.heap.size, 0, none⟩) (Nat.le_refl _) _
                      exact hJ pre wr _ none hj ⟨hB.os, hB.tape, hB.output, hB.size, fun k hk _ => hB.block k hk⟩ (fun r e => by cases e)
                    have ST := Lib.hid step
                    clear step
                    have hbsz := hb.lt
                    rcases hex with hx | ⟨hx, hx2⟩ | ⟨hx, hx2⟩
                    all_goals
                      gi_wp2
                      refine ⟨trivial, ?_⟩
                      refine (callsIn_wide.2 (HA.out _)).mono ?_
                      rintro e w1 ⟨rfl, hb1⟩
                      obtain ⟨hs1, hp1, hj1⟩ := ST.out w1 hb1
                      have hc1 := hs1.cell
                      have hq0 : w1.cell? ⟨wr.heap.size, 0, none⟩ = some (.int .i64 0) := by simp [World.cell?, hp1]
                      have hq1 : w1.cell? ⟨wr.heap.size, 1, none⟩ = some (.int .i64 at_) := by simp [World.cell?, hp1]
                      have hq2 : w1.cell? ⟨wr.heap.size, 2, none⟩ = some (.int .i64 0) := by simp [World.cell?, hp1]
                      have hf0 : w1.frozen? ⟨wr.heap.size, 0, none⟩ = false := by simp [World.frozen?, hp1]
                      obtain ⟨fn, tmps, assign, body, hy, hR⟩ := hY pre (V, (at_ : Int), 0) _ hj1 (by have := hlen.out; omega)
                      dsimp only [partV] at hy
                      gi_wp2
                    · have hxe : at_ + j = s.size := by omega
                      have HXE := Lib.hid hxe
                      have hxb : ((at_ : Int) + (j : Int) == (s.size : Int)) = true := by rw [beq_iff_eq]; omega
                      clear hxe
                      refine hR.mono ?_
                      rintro e W3 (⟨rfl, hJ3, hk3⟩ | ⟨rfl, hJx3⟩)
                      · have hs2 : (w1.setCell ⟨wr.heap.size, 0, none⟩ (.int .i64 V)).heap[Bs]? = some (.cells #[.string s] 9 (0, 0)) := (Below.heap_setCell w1 _ _ Bs (Nat.ne_of_lt hbsz)).trans hs1
                        have hp2 : (w1.setCell ⟨wr.heap.size, 0, none⟩ (.int .i64 V)).heap[wr.heap.size]? = some (.cells #[.int .i64 V, .int .i64 at_, .int .i64 0] 120 (0, 0)) := cells_set hp1
                        have hs3 : Boxed W3 Bs 9 (.string s) := hk3 Bs _ _ _ (.inl rfl) hs2
                        have hc3 := hs3.cell
                        have hp3 := hk3 wr.heap.size _ _ _ (.inr rfl) hp2
                        have hpc : W3.cell? ⟨wr.heap.size, 2, none⟩ = some (.int .i64 0) := by simp [World.cell?, hp3]
                        gi_wp2
                        refine bodyPost_ret (results_none rfl _ _ _) rfl ?_
                        exact ⟨⟨_, rfl⟩, .inl ⟨_, by rw [hpp.out, pp_ok_end n at_ _ hn8' hltL HZ.out h6L.out hzL.out (by rw [HD.out]; simpa using HXE.out), HV.out], hJ3⟩⟩
                      · gi_wp2
                        refine bodyPost_ret (results_none rfl _ _ _) rfl ?_
                        exact ⟨⟨_, rfl⟩, .inr ⟨_, ⟨[], by rw [hpp.out, pp_ok_end n at_ _ hn8' hltL HZ.out h6L.out hzL.out (by rw [HD.out]; simpa using HXE.out), HV.out]; simp⟩, hJx3⟩⟩
                    · by_cases h46 : (s[at_ + j]'hx).toNat = 46
                      · have H46 : Hid ((s[at_ + j]'hx).toNat = 46) := h46
                        have hxb : (((s[at_ + j]'hx).toNat : Int) != 46) = false := by rw [h46]; rfl
                        clear h46
                        refine hR.mono ?_
                        rintro e W3 (⟨rfl, hJ3, hk3⟩ | ⟨rfl, hJx3⟩)
                        · have hs2 : (w1.setCell ⟨wr.heap.size, 0, none⟩ (.int .i64 V)).heap[Bs]? = some (.cells #[.string s] 9 (0, 0)) := (Below.heap_setCell w1 _ _ Bs (Nat.ne_of_lt hbsz)).trans hs1
                          have hp2 : (w1.setCell ⟨wr.heap.size, 0, none⟩ (.int .i64 V)).heap[wr.heap.size]? = some (.cells #[.int .i64 V, .int .i64 at_, .int .i64 0] 120 (0, 0)) := cells_set hp1
                          have hs3 : Boxed W3 Bs 9 (.string s) := hk3 Bs _ _ _ (.inl rfl) hs2
                          have hc3 := hs3.cell
                          have hp3 := hk3 wr.heap.size _ _ _ (.inr rfl) hp2
                          have hpc : W3.cell? ⟨wr.heap.size, 2, none⟩ = some (.int .i64 0) := by simp [World.cell?, hp3]
                          gi_wp2
                          go_roundw
                          case rel => exact ⟨at_ + j + 1, n + 1, pre ++ [(V, (at_ : Int), 0)], by go_num, by go_num, by omega, Lib.hid (by simp [hlen.out]), by omega, Lib.hid (by rw [hpp.out, pp_ok_dot n at_ _ hn8' hltL HZ.out h6L.out hzL.out (by rw [HD.out]; simpa using hx) (by simp only [HD.out]; exact H46.out), HV.out, HD.out]; simp), hJ3, hs3⟩
                          case measure => simp [intOf]; omega
                        · gi_wp2
                          refine bodyPost_ret (results_none rfl _ _ _) rfl ?_
                          exact ⟨⟨_, rfl⟩, .inr ⟨_, ⟨pp (8 - (n + 1)) (at_ + digs (s.data.toList.drop at_) + 1) (s.data.toList.drop (at_ + digs (s.data.toList.drop at_) + 1)), by rw [hpp.out, pp_ok_dot n at_ _ hn8' hltL HZ.out h6L.out hzL.out (by rw [HD.out]; simpa using hx) (by simp only [HD.out]; exact H46.out), HV.out]; simp⟩, hJx3⟩⟩
                      · have H46 : Hid (¬ (s[at_ + j]'hx).toNat = 46) := h46
                        have hxb : (((s[at_ + j]'hx).toNat : Int) != 46) = true := bne_iff_ne.mpr (by omega)
                        clear h46
                        refine hR.mono ?_
                        rintro e W3 (⟨rfl, hJ3, hk3⟩ | ⟨rfl, hJx3⟩)
                        · have hs2 : (w1.setCell ⟨wr.heap.size, 0, none⟩ (.int .i64 V)).heap[Bs]? = some (.cells #[.string s] 9 (0, 0)) := (Below.heap_setCell w1 _ _ Bs (Nat.ne_of_lt hbsz)).trans hs1
                          have hp2 : (w1.setCell ⟨wr.heap.size, 0, none⟩ (.int .i64 V)).heap[wr.heap.size]? = some (.cells #[.int .i64 V, .int .i64 at_, .int .i64 0] 120 (0, 0)) := cells_set hp1
                          have hs3 : Boxed W3 Bs 9 (.string s) := hk3 Bs _ _ _ (.inl rfl) hs2
                          have hc3 := hs3.cell
                          have hp3 := hk3 wr.heap.size _ _ _ (.inr rfl) hp2
                          have hpc : W3.cell? ⟨wr.heap.size, 2, none⟩ = some (.int .i64 0) := by simp [World.cell?, hp3]
                          obtain ⟨fn', tmps', assign', body', hy', hR'⟩ := hY (pre ++ [(V, (at_ : Int), 0)]) (0, (at_ : Int) + (j : Int), 6) W3 hJ3 (by have := hlen.out; simp; omega)
                          dsimp only [partV] at hy'
                          gi_wp2
                          refine hR'.mono ?_
                          rintro e W4 (⟨rfl, hJ4, hk4⟩ | ⟨rfl, hJx4⟩)
                          · gi_wp2
                            refine bodyPost_ret (results_none rfl _ _ _) rfl ?_
                            exact ⟨⟨_, rfl⟩, .inl ⟨_, by rw [hpp.out, pp_ok_other n at_ _ hn8' hltL HZ.out h6L.out hzL.out (by rw [HD.out]; simpa using hx) (by simp only [HD.out]; exact H46.out), HV.out, HD.out]; simp, hJ4⟩⟩
                          · gi_wp2
                            refine bodyPost_ret (results_none rfl _ _ _) rfl ?_
                            exact ⟨⟨_, rfl⟩, .inr ⟨_, ⟨[], by rw [hpp.out, pp_ok_other n at_ _ hn8' hltL HZ.out h6L.out hzL.out (by rw [HD.out]; simpa using hx) (by simp only [HD.out]; exact H46.out), HV.out, HD.out]; simp⟩, hJx4⟩⟩
                        · gi_wp2
                          refine bodyPost_ret (results_none rfl _ _ _) rfl ?_
                          exact ⟨⟨_, rfl⟩, .inr ⟨_, ⟨[(0, ((at_ + j : Nat) : Int), 6)], by rw [hpp.out, pp_ok_other n at_ _ hn8' hltL HZ.out h6L.out hzL.out (by rw [HD.out]; simpa using hx) (by simp only [HD.out]; exact H46.out), HV.out]; simp [HD.out]⟩, hJx3⟩⟩
                    · have h46 : ¬ (s[at_ + j]'hx).toNat = 46 := by omega
                      have H46 : Hid (¬ (s[at_ + j]'hx).toNat = 46) := h46
                      have hxb : (((s[at_ + j]'hx).toNat : Int) != 46) = true := bne_iff_ne.mpr (by omega)
                      clear h46
                      refine hR.mono ?_
                      rintro e W3 (⟨rfl, hJ3, hk3⟩ | ⟨rfl, hJx3⟩)
                      · have hs2 : (w1.setCell ⟨wr.heap.size, 0, none⟩ (.int .i64 V)).heap[Bs]? = some (.cells #[.string s] 9 (0, 0)) := (Below.heap_setCell w1 _ _ Bs (Nat.ne_of_lt hbsz)).trans hs1
                        have hp2 : (w1.setCell ⟨wr.heap.size, 0, none⟩ (.int .i64 V)).heap[wr.heap.size]? = some (.cells #[.int .i64 V, .int .i64 at_, .int .i64 0] 120 (0, 0)) := cells_set hp1
                        have hs3 : Boxed W3 Bs 9 (.string s) := hk3 Bs _ _ _ (.inl rfl) hs2
                        have hc3 := hs3.cell
                        have hp3 := hk3 wr.heap.size _ _ _ (.inr rfl) hp2
                        have hpc : W3.cell? ⟨wr.heap.size, 2, none⟩ = some (.int .i64 0) := by simp [World.cell?, hp3]
                        obtain ⟨fn', tmps', assign', body', hy', hR'⟩ := hY (pre ++ [(V, (at_ : Int), 0)]) (0, (at_ : Int) + (j : Int), 6) W3 hJ3 (by have := hlen.out; simp; omega)
                        dsimp only [partV] at hy'
                        gi_wp2
                        refine hR'.mono ?_
                        rintro e W4 (⟨rfl, hJ4, hk4⟩ | ⟨rfl, hJx4⟩)
                        · gi_wp2
                          refine bodyPost_ret (results_none rfl _ _ _) rfl ?_
                          exact ⟨⟨_, rfl⟩, .inl ⟨_, by rw [hpp.out, pp_ok_other n at_ _ hn8' hltL HZ.out h6L.out hzL.out (by rw [HD.out]; simpa using hx) (by simp only [HD.out]; exact H46.out), HV.out, HD.out]; simp, hJ4⟩⟩
                        · gi_wp2
                          refine bodyPost_ret (results_none rfl _ _ _) rfl ?_
                          exact ⟨⟨_, rfl⟩, .inr ⟨_, ⟨[], by rw [hpp.out, pp_ok_other n at_ _ hn8' hltL HZ.out h6L.out hzL.out (by rw [HD.out]; simpa using hx) (by simp only [HD.out]; exact H46.out), HV.out, HD.out]; simp⟩, hJx4⟩⟩
                      · gi_wp2
                        refine bodyPost_ret (results_none rfl _ _ _) rfl ?_
                        exact ⟨⟨_, rfl⟩, .inr ⟨_, ⟨[(0, ((at_ + j : Nat) : Int), 6)], by rw [hpp.out, pp_ok_other n at_ _ hn8' hltL HZ.out h6L.out hzL.out (by rw [HD.out]; simpa using hx) (by simp only [HD.out]; exact H46.out), HV.out]; simp [HD.out]⟩, hJx3⟩⟩
end Go.Proofs.YtkdfilpinlebbaaDoor.G
