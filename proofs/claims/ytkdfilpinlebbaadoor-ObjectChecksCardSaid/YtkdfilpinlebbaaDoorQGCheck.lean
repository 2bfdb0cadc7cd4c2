/- This session's texts for the claim, joined and shortened by this session's own program pack.py: what the claim does not need is struck. Part: GCheck. -/
import Derived.Test.YtkdfilpinlebbaaDoorQGUses
import Derived.Test.YtkdfilpinlebbaaDoorQGWord
import Derived.Test.YtkdfilpinlebbaaDoorQGParse2
import Derived.Test.YtkdfilpinlebbaaDoorQW0
import Derived.Deep.RegionWith
import Derived.Deep.DeepCutAuto
import Derived.Deep.CutBlock
import Derived.Deep.RegionHeld3
import Derived.Laws.CopyOwn
set_option linter.unusedVariables false
set_option linter.unusedSimpArgs false
namespace Go.Proofs.YtkdfilpinlebbaaDoor.G
open Go.RowKit Go.Shelf Go.Proofs.YtkdfilpinlebbaaDoorW.PrintWords Go.Proofs.YtkdfilpinlebbaaDoorW.PrintMore
attribute [local go_sem] max2_int max_two
theorem lvalid_calls (s : ByteArray) (hs : s.size ≤ 140737488351232) (w : World) : Calls Tryd.prog 41 #[.string s] w fun e w' => e = .returned (.bool (okLin s.data.toList)) ∧ Below w.heap.size w w' := by
  obtain ⟨p, hp⟩ : ∃ p, parseL s.data.toList = p := ⟨_, rfl⟩
  obtain ⟨l, a, c⟩ := p
  have hcall := lineage_parse.calls s l a c w (by unfold lineage_parse.f; rw [if_pos hs, hp])
  have e : okLin s.data.toList = (c == 0) := by unfold okLin; rw [hp]
  rw [e]
  clear e hp
  go_enter Tryd.func41, Tryd.ntmps41
  go_wp2_with (go_at_call 65; refine hcall.mono ?_; rintro e w' ⟨v0, rfl, hR, hb⟩)
  go_ret
  exact ⟨rfl, hb⟩
theorem number_calls (n : Int) (w : World) : Calls Tryd.prog 42 #[.int .i64 n] w fun e w' => e = .returned (.bool (decide (0 ≤ n) && decide (n ≤ 1073741824))) ∧ w' = w := by
  by_cases h : 0 ≤ n
  · go_enter Tryd.func42, Tryd.ntmps42
    go_wp2
    go_ret
    exact ⟨by simp [h], rfl⟩
  · have e : (decide (0 ≤ n) && decide (n ≤ 1073741824)) = false := by rw [decide_eq_false h, Bool.false_and]
    rw [e]
    go_enter Tryd.func42, Tryd.ntmps42
    go_wp2
    go_ret
    exact ⟨rfl, rfl⟩
attribute [-go_sem] Instr.storeAt
theorem cell1 (w : World) (cs : Array Value) (t : TypeId) (j : Nat) : (w.alloc (.cells cs t)).cell? ⟨w.heap.size, j, none⟩ = cs[j]? := cell_of_row _ _ j cs t (0, 0) (heap_alloc_last w _)
theorem cell2 (w : World) (cs : Array Value) (t : TypeId) (o : Obj) (j : Nat) : ((w.alloc (.cells cs t)).alloc o).cell? ⟨w.heap.size, j, none⟩ = cs[j]? :=
  cell_of_row _ _ j cs t (0, 0) ((Below.heap_alloc _ o _ (by simp)).trans (heap_alloc_last w _))
theorem cell_old {w : World} {a : Addr} {v : Value} (h : w.cell? a = some v) (o : Obj) : (w.alloc o).cell? a = some v :=
  (((Below.refl w.heap.size w).alloc (Nat.le_refl _) o).cell (World.block_lt_of_cell? w _ h)).trans h
theorem store53 (W : World) (b : Nat) (old U : Array Value) (hg : W.heap[b]? = some (.cells old 53 (0, 0))) (ho : old.size = 5) (hU : U.size = 5) (h1 : U.all (·.oneCell') = true) :
    (Instr.storeAt 53 (.pointer (some ⟨b, 0, none⟩)) (.agg U)).run Tryd.prog W = .ok () (W.setRow b U) := by
  simp only [Instr.storeAt, Instr.sureAddr, Sem.run_bind, Sem.run_pure, Result.andThen_ok]
  exact run_storeVar_row W b 53 53 old U hg (by rw [hU]; kernel_rfl) (by rw [ho, hU]) h1
theorem all5 (s : ByteArray) (a b c : Bool) (m : Int) : (#[Value.string s, .bool a, .bool b, .bool c, .int .i64 m] : Array Value).all (·.oneCell') = true := by simp [Value.oneCell']
theorem blk2 (w w' : World) (A Z : Obj) (h : Below ((w.alloc A).drew.alloc Z).heap.size ((w.alloc A).drew.alloc Z) w') : w'.heap[w.heap.size + 1]? = some Z := by
  have e : w.heap.size + 1 = (w.alloc A).drew.heap.size := by
    show _ = (w.heap.push A).size
    simp
  rw [e, h.block _ (by simp)]
  exact heap_alloc_last _ _
theorem relA (w w' : World) (cA U : Array Value) (tA tU : TypeId) (hb : Below (w.alloc (.cells cA tA)).drew.heap.size (w.alloc (.cells cA tA)).drew w') :
    Aside ((w'.alloc (.cells U tU)).heap[w'.heap.size]? = some (.cells U tU (0, 0))) ∧ Aside ((w'.alloc (.cells U tU)).heap[w.heap.size]? = some (.cells cA tA (0, 0))) ∧ Aside (Below w.heap.size w (w'.alloc (.cells U tU))) := by
  have hlt : w.heap.size < (w.alloc (.cells cA tA)).drew.heap.size := by show _ < (w.heap.push _).size; simp
  refine ⟨heap_alloc_last _ _, ?_, ?_⟩
  · show (w'.alloc (.cells U tU)).heap[w.heap.size]? = some (.cells cA tA (0, 0))
    rw [Below.heap_alloc _ _ _ (Nat.lt_of_lt_of_le hlt hb.size), hb.block _ hlt]
    exact heap_alloc_last w _
  · exact (((Below.refl _ w).alloc (Nat.le_refl _) _).drew.trans (hb.mono (Nat.le_of_lt hlt))).alloc (Nat.le_trans (Nat.le_of_lt hlt) hb.size) _
theorem relB (w w' : World) (cA Z U : Array Value) (tA tU : TypeId) (hb : Below ((w.alloc (.cells cA tA)).drew.alloc (.cells Z tU)).heap.size ((w.alloc (.cells cA tA)).drew.alloc (.cells Z tU)) w') :
    Aside ((w'.setRow (w.heap.size + 1) U).heap[w.heap.size + 1]? = some (.cells U tU (0, 0))) ∧ Aside ((w'.setRow (w.heap.size + 1) U).heap[w.heap.size]? = some (.cells cA tA (0, 0))) ∧ Aside (Below w.heap.size w (w'.setRow (w.heap.size + 1) U)) := by
  have hlt : w.heap.size < (w.alloc (.cells cA tA)).drew.heap.size := by show _ < (w.heap.push _).size; simp
  have hlt2 : w.heap.size < ((w.alloc (.cells cA tA)).drew.alloc (.cells Z tU)).heap.size := Nat.lt_of_lt_of_le hlt (by simp)
  refine ⟨setRow_heap _ _ _ _ _ _ (blk2 w w' _ _ hb), ?_, ?_⟩
  · show (w'.setRow (w.heap.size + 1) U).heap[w.heap.size]? = some (.cells cA tA (0, 0))
    rw [setRow_other _ _ _ _ (by omega), hb.block _ hlt2, Below.heap_alloc _ _ _ hlt]
    exact heap_alloc_last w _
  · exact below_setRow ((((Below.refl _ w).alloc (Nat.le_refl _) _).drew.alloc (Nat.le_of_lt hlt) _).trans (hb.mono (Nat.le_of_lt hlt2))) (by omega) _
def CI (b g : Nat) (U N : Array Value) (w wx : World) : Prop := wx.heap[b]? = some (.cells U 53 (0, 0)) ∧ wx.heap[g]? = some (.cells N 28 (0, 0)) ∧ Below g w wx
theorem blk_lt {w : World} {b : Nat} {o : Obj} (h : w.heap[b]? = some o) : b < w.heap.size := (Array.getElem?_eq_some_iff.1 h).1
theorem CI.step {b g : Nat} {U N : Array Value} {w wx wy : World} (h : CI b g U N w wx) (hb : Below wx.heap.size wx wy) : CI b g U N w wy :=
  ⟨(hb.block _ (blk_lt h.1)).trans h.1, (hb.block _ (blk_lt h.2.1)).trans h.2.1, h.2.2.trans (hb.mono (Nat.le_of_lt (blk_lt h.2.1)))⟩
theorem CI.u {b g : Nat} {U N : Array Value} {w wx : World} (h : CI b g U N w wx) (j : Nat) : wx.cell? ⟨b, j, none⟩ = U[j]? := cell_of_row _ _ j _ _ _ h.1
theorem CI.n {b g : Nat} {U N : Array Value} {w wx : World} (h : CI b g U N w wx) (j : Nat) : wx.cell? ⟨g, j, none⟩ = N[j]? := cell_of_row _ _ j _ _ _ h.2.1
theorem bstr_ne {o : ByteArray} (h : o.data.toList ≠ []) : (o.toList == ([] : List UInt8)) = false ∧ o.toList.isEmpty = false := by
  rw [Lib.toList_data]
  exact ⟨beq_eq_false_iff_ne.2 h, by simpa using h⟩
theorem bstr_em {o : ByteArray} (h : o.data.toList = []) : (o.toList == ([] : List UInt8)) = true ∧ o.toList.isEmpty = true := by
  rw [Lib.toList_data, h]
  exact ⟨rfl, rfl⟩
def Bad1 (b1 b2 b4 : Bool) (o t : List UInt8) (n i m : Int) : Prop := (b1 = false ∧ o ≠ []) ∨ (b2 = false ∧ n ≠ 0) ∨ (m < 0 ∧ i ≠ 0) ∨ (b4 = false ∧ t ≠ [])
def Bad2 (b1 v : Bool) : Prop := b1 = true ∧ v = false
def Bad3 (n i m : Int) : Prop := n < 0 ∨ 1073741824 < n ∨ i < 0 ∨ max m 0 < i
theorem bad3_or {n i m x : Int} (h1 : 0 ≤ n ∧ n ≤ 1073741824) (hx : max m 0 = x) : (decide (i < 0) || decide (x < i)) = true ↔ Bad3 n i m := by
  subst hx
  unfold Bad3
  simp only [Bool.or_eq_true, decide_eq_true_eq]
  constructor
  · rintro (h | h)
    · exact Or.inr (Or.inr (Or.inl h))
    · exact Or.inr (Or.inr (Or.inr h))
  · rintro (h | h | h | h)
    · omega
    · omega
    · exact .inl h
    · exact .inr h
theorem bad3_yes {n i m : Int} (h1 : ¬ (0 ≤ n ∧ n ≤ 1073741824)) : true = true ↔ Bad3 n i m := ⟨fun _ => (by unfold Bad3; omega), fun _ => rfl⟩
theorem three (b : Bool) (p : Prop) : (b = false ∧ p) ∨ (b = true ∧ Aside (¬ (b = false ∧ p))) ∨ (b = false ∧ ¬ p ∧ Aside (¬ (b = false ∧ p))) := by
  by_cases h : p <;> cases b
  · exact .inl ⟨rfl, h⟩
  · exact .inr (.inl ⟨rfl, fun g => by cases g.1⟩)
  · exact .inr (.inr ⟨rfl, h, fun g => h g.2⟩)
  · exact .inr (.inl ⟨rfl, fun g => by cases g.1⟩)
theorem setRow_last (w : World) (cs U : Array Value) (t : TypeId) : (w.alloc (.cells cs t)).setRow w.heap.size U = w.alloc (.cells U t) := World.setRow_alloc_new w cs U t
set_option maxHeartbeats 8000000 in
set_option maxRecDepth 100000 in
theorem check_calls (k : Int) (o : ByteArray) (n i : Int) (t : ByteArray) (ho : o.size ≤ 140737488351232) (w : World) :
    Calls Tryd.prog 17 #[.agg #[.int .i64 k, .string o, .int .i64 n, .int .i64 i, .string t]] w fun e w' => e = .returned (.int .i64 (chk ⟨k, o.data.toList, n, i, t.data.toList⟩)) ∧ Below w.heap.size w w' := by
  by_cases h1 : k < 1
  · have e : chk ⟨k, o.data.toList, n, i, t.data.toList⟩ = 11 := by unfold chk; rw [if_pos (.inl h1)]
    rw [e]
    go_enter Tryd.func17, Tryd.ntmps17
    go_wp2
    go_ret
    exact ⟨rfl, (Below.refl _ w).alloc (Nat.le_refl _) _⟩
  by_cases h2 : 20 < k
  · have e : chk ⟨k, o.data.toList, n, i, t.data.toList⟩ = 11 := by unfold chk; rw [if_pos (.inr h2)]
    rw [e]
    go_enter Tryd.func17, Tryd.ntmps17
    go_wp2
    go_ret
    exact ⟨rfl, (Below.refl _ w).alloc (Nat.le_refl _) _⟩
  obtain ⟨K, rfl⟩ : ∃ K : Nat, k = (K : Int) := ⟨k.toNat, by omega⟩
  have hK : K ≤ 20 := by omega
  have hix := fun w => uses_index w K hK
  have huse := fun w => uses_calls w
  have hL : useV K = .agg #[.string ⟨(kword K).toArray⟩, .bool (ownB K), .bool (numB K), .bool (txtB K), .int .i64 (mostU K)] := rfl
  rw [hL] at hix
  have hmu : mostU K = mostI K := by unfold mostU; rw [if_neg (by omega)]
  rw [hmu] at hix
  clear hL hmu
  have hsA : ∀ W : World, (Instr.storeAt 53 (.pointer (some ⟨W.heap.size, 0, none⟩)) (.agg #[.string ⟨(kword K).toArray⟩, .bool (ownB K), .bool (numB K), .bool (txtB K), .int .i64 (mostI K)])).run Tryd.prog (W.alloc (.cells #[.string ⟨#[]⟩, .bool false, .bool false, .bool false, .int .i64 0] 53)) = .ok () (W.alloc (.cells #[.string ⟨(kword K).toArray⟩, .bool (ownB K), .bool (numB K), .bool (txtB K), .int .i64 (mostI K)] 53)) := fun W => by
    rw [store53 _ _ #[.string ⟨#[]⟩, .bool false, .bool false, .bool false, .int .i64 0] _ (heap_alloc_last W _) rfl rfl (all5 _ _ _ _ _), setRow_last]
  have hchk : Aside (chk ⟨(K : Int), o.data.toList, n, i, t.data.toList⟩ =
      if (ownB K = false ∧ o.data.toList ≠ []) ∨ (numB K = false ∧ n ≠ 0) ∨ (mostI K < 0 ∧ i ≠ 0) ∨ (txtB K = false ∧ t.data.toList ≠ []) then 1
      else if ownB K = true ∧ okLin o.data.toList = false then 12
      else if n < 0 ∨ 1073741824 < n ∨ i < 0 ∨ max (mostI K) 0 < i then 2
      else if txtB K = true ∧ wordL t.data.toList = false then 12 else 0) := by
    unfold chk
    rw [if_neg (show ¬ ((K : Int) < 1 ∨ 20 < (K : Int)) by omega)]
    simp only [Int.toNat_natCast]
    exact trivial
  generalize chk ⟨(K : Int), o.data.toList, n, i, t.data.toList⟩ = R at hchk ⊢
  go_enter Tryd.func17, Tryd.ntmps17
  go_upto_region 3 with fail
  go_cut [2, 3] (fun v2 v3 wc => v2 = .int .i64 0 ∧ ∃ b, v3 = .pointer (some ⟨b, 0, none⟩) ∧ Aside (wc.heap[b]? = some (.cells #[.string ⟨(kword K).toArray⟩, .bool (ownB K), .bool (numB K), .bool (txtB K), .int .i64 (mostI K)] 53 (0, 0))) ∧ Aside (wc.heap[w.heap.size]? = some (.cells #[.int .i64 K, .string o, .int .i64 n, .int .i64 i, .string t] 28 (0, 0))) ∧ Aside (Below w.heap.size w wc))
  case first =>
    go_region_with (go_at_call 27; refine (huse _).mono ?_; rintro e w' ⟨rfl, hb⟩; have hc0 : w'.cell? ⟨w.heap.size, 0, none⟩ = some (.int .i64 K) := (by first | exact (hb.cell (by simp)).trans (cell1 w _ 28 0) | exact (hb.cell (by simp; omega)).trans (cell2 w _ 28 _ 0)); have hc0a : ∀ o, (w'.alloc o).cell? ⟨w.heap.size, 0, none⟩ = some (.int .i64 K) := fun o => (cell_old hc0 o); first | have hsB := store53 w' (w.heap.size + 1) #[.string ⟨#[]⟩, .bool false, .bool false, .bool false, .int .i64 0] #[.string ⟨(kword K).toArray⟩, .bool (ownB K), .bool (numB K), .bool (txtB K), .int .i64 (mostI K)] (blk2 w w' _ _ hb) rfl rfl (all5 _ _ _ _ _) | skip)
    all_goals
      go_wp2_with fail
      go_meet
      first
        | exact ⟨rfl, _, rfl, (relA w _ _ _ _ _ hb).1, (relA w _ _ _ _ _ hb).2.1, (relA w _ _ _ _ _ hb).2.2⟩
        | exact ⟨rfl, _, rfl, (relB w _ _ _ _ _ _ hb).1, (relB w _ _ _ _ _ _ hb).2.1, (relB w _ _ _ _ _ _ hb).2.2⟩
  case rest =>
    obtain ⟨rfl, b, rfl, hU, hN, hB⟩ := hcut
    clear hsA huse hix
    have HI : Aside (CI b w.heap.size #[.string ⟨(kword K).toArray⟩, .bool (ownB K), .bool (numB K), .bool (txtB K), .int .i64 (mostI K)] #[.int .i64 K, .string o, .int .i64 n, .int .i64 i, .string t] w wc) := ⟨hU.out, hN.out, hB.out⟩
    clear hU hN hB
    generalize ownB K = b1 at *
    generalize numB K = b2 at *
    generalize txtB K = b4 at *
    generalize mostI K = m at *
    generalize (⟨(kword K).toArray⟩ : ByteArray) = wd0 at *
    have u1 := HI.out.u 1
    have u2 := HI.out.u 2
    have u3 := HI.out.u 3
    have u4 := HI.out.u 4
    have n1 := HI.out.n 1
    have n2 := HI.out.n 2
    have n3 := HI.out.n 3
    have n4 := HI.out.n 4
    simp only [List.getElem?_toArray, List.getElem?_cons_zero, List.getElem?_cons_succ] at u1 u2 u3 u4 n1 n2 n3 n4
    go_upto_region 4 with fail
    go_cut [2, 3, 16] (fun v2 v3 v16 wd => v2 = .int .i64 0 ∧ v3 = .pointer (some ⟨b, 0, none⟩) ∧ (∃ c : Bool, v16 = .bool c ∧ Aside (c = true ↔ Bad1 b1 b2 b4 o.data.toList t.data.toList n i m)) ∧ wd = wc)
    case first =>
      clear hchk
      have f1 : (b1 = false ∧ Aside (o.data.toList ≠ []) ∧ (o.toList == ([] : List UInt8)) = false ∧ o.toList.isEmpty = false) ∨ (b1 = true ∧ Aside (¬ (b1 = false ∧ o.data.toList ≠ []))) ∨ (b1 = false ∧ Aside (¬ (b1 = false ∧ o.data.toList ≠ [])) ∧ (o.toList == ([] : List UInt8)) = true ∧ o.toList.isEmpty = true) := by
        rcases three b1 (o.data.toList ≠ []) with ⟨h, q⟩ | ⟨h, q⟩ | ⟨h, q, q'⟩
        · exact .inl ⟨h, q, bstr_ne q⟩
        · exact .inr (.inl ⟨h, q⟩)
        · exact .inr (.inr ⟨h, q', bstr_em (Classical.not_not.1 q)⟩)
      have f5 : (b4 = false ∧ Aside (t.data.toList ≠ []) ∧ (t.toList == ([] : List UInt8)) = false ∧ t.toList.isEmpty = false) ∨ (b4 = true ∧ Aside (¬ (b4 = false ∧ t.data.toList ≠ []))) ∨ (b4 = false ∧ Aside (¬ (b4 = false ∧ t.data.toList ≠ [])) ∧ (t.toList == ([] : List UInt8)) = true ∧ t.toList.isEmpty = true) := by
        rcases three b4 (t.data.toList ≠ []) with ⟨h, q⟩ | ⟨h, q⟩ | ⟨h, q, q'⟩
        · exact .inl ⟨h, q, bstr_ne q⟩
        · exact .inr (.inl ⟨h, q⟩)
        · exact .inr (.inr ⟨h, q', bstr_em (Classical.not_not.1 q)⟩)
      have F5 : Aside _ := f5
      clear f5
      have f2 : (b2 = false ∧ Aside (n ≠ 0) ∧ (n != 0) = true) ∨ (b2 = true ∧ Aside (¬ (b2 = false ∧ n ≠ 0))) ∨ (b2 = false ∧ Aside (¬ (b2 = false ∧ n ≠ 0)) ∧ (n != 0) = false) := by
        rcases three b2 (n ≠ 0) with ⟨h, q⟩ | ⟨h, q⟩ | ⟨h, q, q'⟩
        · exact .inl ⟨h, q, bne_iff_ne.2 q⟩
        · exact .inr (.inl ⟨h, q⟩)
        · exact .inr (.inr ⟨h, q', bne_eq_false_iff_eq.2 (Classical.not_not.1 q)⟩)
      have F2 : Aside _ := f2
      clear f2
      have f3 : (m < 0 ∧ Aside (m < 0 ∧ i ≠ 0) ∧ (i != 0) = true) ∨ (¬ m < 0 ∧ Aside (¬ (m < 0 ∧ i ≠ 0))) ∨ (m < 0 ∧ Aside (¬ (m < 0 ∧ i ≠ 0)) ∧ (i != 0) = false) := by
        by_cases h : m < 0
        · by_cases g : i = 0
          · exact .inr (.inr ⟨h, fun z => z.2 g, bne_eq_false_iff_eq.2 g⟩)
          · exact .inl ⟨h, ⟨h, g⟩, bne_iff_ne.2 g⟩
        · exact .inr (.inl ⟨h, fun z => h z.1⟩)
      have F3 : Aside _ := f3
      clear f3
      rcases f1 with ⟨rfl, Q, a1, a2⟩ | ⟨rfl, Q1⟩ | ⟨rfl, Q1, a1, a2⟩
      · go_wp2_with fail; go_meet; exact ⟨rfl, rfl, ⟨_, rfl, ⟨fun _ => Or.inl ⟨rfl, Q.out⟩, fun _ => rfl⟩⟩, rfl⟩
      all_goals
        rcases F2.out with ⟨rfl, Q, a3⟩ | ⟨rfl, Q2⟩ | ⟨rfl, Q2, a3⟩
        · go_wp2_with fail; go_meet; exact ⟨rfl, rfl, ⟨_, rfl, ⟨fun _ => Or.inr (Or.inl ⟨rfl, Q.out⟩), fun _ => rfl⟩⟩, rfl⟩
        all_goals
          rcases F3.out with ⟨a4, Q, a5⟩ | ⟨a4, Q3⟩ | ⟨a4, Q3, a5⟩
          · go_wp2_with fail; go_meet; exact ⟨rfl, rfl, ⟨_, rfl, ⟨fun _ => Or.inr (Or.inr (Or.inl Q.out)), fun _ => rfl⟩⟩, rfl⟩
          all_goals
            rcases F5.out with ⟨rfl, Q, a6, a7⟩ | ⟨rfl, Q5⟩ | ⟨rfl, Q5, a6, a7⟩
            · go_wp2_with fail; go_meet; exact ⟨rfl, rfl, ⟨_, rfl, ⟨fun _ => Or.inr (Or.inr (Or.inr ⟨rfl, Q.out⟩)), fun _ => rfl⟩⟩, rfl⟩
            all_goals (go_wp2_with fail; go_meet; exact ⟨rfl, rfl, ⟨_, rfl, ⟨fun h => (by cases h), fun h => (by rcases h with h | h | h | h; (first | exact absurd h Q1.out | exact (Q1.out ⟨trivial, h.2⟩).elim | cases h.1); (first | exact absurd h Q2.out | exact (Q2.out ⟨trivial, h.2⟩).elim | cases h.1); (first | exact absurd h Q3.out | exact (Q3.out ⟨trivial, h.2⟩).elim | cases h.1); (first | exact absurd h Q5.out | exact (Q5.out ⟨trivial, h.2⟩).elim | cases h.1))⟩⟩, rfl⟩)
    case rest =>
      obtain ⟨rfl, rfl, ⟨c, rfl, hc⟩, rfl⟩ := hcut
      have hbad1 : Aside (R = if c = true then 1 else if b1 = true ∧ okLin o.data.toList = false then 12
          else if n < 0 ∨ 1073741824 < n ∨ i < 0 ∨ max m 0 < i then 2 else if b4 = true ∧ wordL t.data.toList = false then 12 else 0) := by
        show _ = _
        rw [show R = _ from hchk.out]
        by_cases h : c = true
        · rw [if_pos h]
          exact if_pos (hc.out.1 h)
        · rw [if_neg h]
          exact if_neg (fun g => h (hc.out.2 g))
      clear hchk hc
      cases c with
      | true =>
        have hR : R = 1 := hbad1.out
        subst hR
        have HB := HI.out.2.2
        clear HI hbad1
        go_wp2_with fail
        go_ret
        exact ⟨rfl, HB⟩
      | false =>
        have hbad2 : Aside (R = if b1 = true ∧ okLin o.data.toList = false then 12
          else if n < 0 ∨ 1073741824 < n ∨ i < 0 ∨ max m 0 < i then 2 else if b4 = true ∧ wordL t.data.toList = false then 12 else 0) := hbad1.out.trans (if_neg (by decide))
        clear hbad1
        clear u1 u2 u3 u4 n1 n2 n3 n4
        have u1 := HI.out.u 1
        have n1 := HI.out.n 1
        simp only [List.getElem?_toArray, List.getElem?_cons_zero, List.getElem?_cons_succ] at u1 n1
        have hval := lvalid_calls o ho wc
        go_upto_region 6 with fail
        go_cut [2, 3, 55] (fun v2 v3 v55 wd => v2 = .int .i64 0 ∧ v3 = .pointer (some ⟨b, 0, none⟩) ∧ (∃ c : Bool, v55 = .bool c ∧ Aside (c = true ↔ Bad2 b1 (okLin o.data.toList))) ∧ Aside (Below wc.heap.size wc wd))
        case first =>
          clear hbad2
          generalize okLin o.data.toList = v at *
          cases b1 with
          | false =>
            go_wp2_with fail
            go_meet
            exact ⟨rfl, rfl, ⟨_, rfl, ⟨fun h => (by cases h), fun h => (by cases h.1)⟩⟩, Below.refl _ _⟩
          | true =>
            cases v with
            | false =>
              go_wp2_with (go_at_call 41; refine hval.mono ?_; rintro e w' ⟨rfl, hb⟩)
              go_meet
              exact ⟨rfl, rfl, ⟨_, rfl, ⟨fun _ => ⟨rfl, rfl⟩, fun _ => rfl⟩⟩, hb⟩
            | true =>
              go_wp2_with (go_at_call 41; refine hval.mono ?_; rintro e w' ⟨rfl, hb⟩)
              go_meet
              exact ⟨rfl, rfl, ⟨_, rfl, ⟨fun h => (by cases h), fun h => (by cases h.2)⟩⟩, hb⟩
        case rest =>
          obtain ⟨rfl, rfl, ⟨c, rfl, hc⟩, hBd⟩ := hcut
          have HI2 : Aside (CI b w.heap.size #[.string wd0, .bool b1, .bool b2, .bool b4, .int .i64 m] #[.int .i64 K, .string o, .int .i64 n, .int .i64 i, .string t] w wc) := HI.out.step hBd.out
          clear HI hBd u1 n1 hval
          have hbad3 : Aside (R = if c = true then 12 else if n < 0 ∨ 1073741824 < n ∨ i < 0 ∨ max m 0 < i then 2 else if b4 = true ∧ wordL t.data.toList = false then 12 else 0) := by
            show _ = _
            rw [show R = _ from hbad2.out]
            by_cases h : c = true
            · rw [if_pos h]
              exact if_pos (hc.out.1 h)
            · rw [if_neg h]
              exact if_neg (fun g => h (hc.out.2 g))
          clear hbad2 hc
          cases c with
          | true =>
            have hR : R = 12 := hbad3.out
            subst hR
            have HB := HI2.out.2.2
            clear HI2 hbad3
            go_wp2_with fail
            go_ret
            exact ⟨rfl, HB⟩
          | false =>
            have hbad4 : Aside (R = if n < 0 ∨ 1073741824 < n ∨ i < 0 ∨ max m 0 < i then 2 else if b4 = true ∧ wordL t.data.toList = false then 12 else 0) := hbad3.out.trans (if_neg (by decide))
            clear hbad3
            have u4 := HI2.out.u 4
            have n2 := HI2.out.n 2
            have n3 := HI2.out.n 3
            simp only [List.getElem?_toArray, List.getElem?_cons_zero, List.getElem?_cons_succ] at u4 n2 n3
            have hnum := number_calls n wc
            go_upto_region 8 with fail
            go_cut [2, 3, 64] (fun v2 v3 v64 wd => v2 = .int .i64 0 ∧ v3 = .pointer (some ⟨b, 0, none⟩) ∧ (∃ c : Bool, v64 = .bool c ∧ Aside (c = true ↔ Bad3 n i m)) ∧ wd = wc)
            case first =>
              clear hbad4
              by_cases q : 0 ≤ n ∧ n ≤ 1073741824
              · have e : (decide (0 ≤ n) && decide (n ≤ 1073741824)) = true := by simp [q]
                rw [e] at hnum
                have Q1 : Aside (0 ≤ n ∧ n ≤ 1073741824) := q
                clear q e
                by_cases q2 : i < 0
                · have Q2 : Aside (i < 0) := q2
                  go_wp2_with (go_at_call 42; refine hnum.mono ?_; rintro e w' ⟨rfl, rfl⟩)
                  go_meet
                  exact ⟨rfl, rfl, ⟨_, rfl, ⟨fun _ => Or.inr (Or.inr (Or.inl Q2.out)), fun _ => rfl⟩⟩, rfl⟩
                · have Q2 : Aside (0 ≤ i) := Int.not_lt.1 q2
                  by_cases q3 : m < 0
                  · have Q3 : Aside (max m 0 = 0) := by show max m 0 = 0; omega
                    by_cases q4 : 0 < i
                    · have Q4 : Aside (0 < i) := q4
                      go_wp2_with (go_at_call 42; refine hnum.mono ?_; rintro e w' ⟨rfl, rfl⟩)
                      go_meet
                      exact ⟨rfl, rfl, ⟨_, rfl, ⟨fun _ => Or.inr (Or.inr (Or.inr (by rw [Q3.out]; exact Q4.out))), fun _ => rfl⟩⟩, rfl⟩
                    · have Q4 : Aside (i ≤ 0) := Int.not_lt.1 q4
                      go_wp2_with (go_at_call 42; refine hnum.mono ?_; rintro e w' ⟨rfl, rfl⟩)
                      go_meet
                      exact ⟨rfl, rfl, ⟨_, rfl, bad3_or Q1.out Q3.out⟩, rfl⟩
                  · have Q3 : Aside (max m 0 = m) := by show max m 0 = m; omega
                    by_cases q4 : m < i
                    · have Q4 : Aside (m < i) := q4
                      go_wp2_with (go_at_call 42; refine hnum.mono ?_; rintro e w' ⟨rfl, rfl⟩)
                      go_meet
                      exact ⟨rfl, rfl, ⟨_, rfl, ⟨fun _ => Or.inr (Or.inr (Or.inr (by rw [Q3.out]; exact Q4.out))), fun _ => rfl⟩⟩, rfl⟩
                    · have Q4 : Aside (i ≤ m) := Int.not_lt.1 q4
                      go_wp2_with (go_at_call 42; refine hnum.mono ?_; rintro e w' ⟨rfl, rfl⟩)
                      go_meet
                      exact ⟨rfl, rfl, ⟨_, rfl, bad3_or Q1.out Q3.out⟩, rfl⟩
              · have e : (decide (0 ≤ n) && decide (n ≤ 1073741824)) = false := by
                  rw [Bool.and_eq_false_iff, decide_eq_false_iff_not, decide_eq_false_iff_not]
                  omega
                rw [e] at hnum
                have Q1 : Aside (¬ (0 ≤ n ∧ n ≤ 1073741824)) := q
                clear q e
                go_wp2_with (go_at_call 42; refine hnum.mono ?_; rintro e w' ⟨rfl, rfl⟩)
                go_meet
                exact ⟨rfl, rfl, ⟨_, rfl, bad3_yes Q1.out⟩, rfl⟩
            case rest =>
              obtain ⟨rfl, rfl, ⟨c, rfl, hc⟩, rfl⟩ := hcut
              have hbad5 : Aside (R = if c = true then 2 else if b4 = true ∧ wordL t.data.toList = false then 12 else 0) := by
                show _ = _
                rw [show R = _ from hbad4.out]
                by_cases h : c = true
                · rw [if_pos h]
                  exact if_pos (hc.out.1 h)
                · rw [if_neg h]
                  exact if_neg (fun g => h (hc.out.2 g))
              clear hbad4 hc hnum u4 n2 n3
              cases c with
              | true =>
                have hR : R = 2 := hbad5.out
                subst hR
                have HB := HI2.out.2.2
                clear HI2 hbad5
                go_wp2_with fail
                go_ret
                exact ⟨rfl, HB⟩
              | false =>
                have hbad6 : Aside (R = if b4 = true ∧ wordL t.data.toList = false then 12 else 0) := hbad5.out.trans (if_neg (by decide))
                clear hbad5
                have u3 := HI2.out.u 3
                have n4 := HI2.out.n 4
                simp only [List.getElem?_toArray, List.getElem?_cons_zero, List.getElem?_cons_succ] at u3 n4
                have HB := HI2.out.2.2
                have hlt := Nat.le_of_lt (blk_lt HI2.out.2.1)
                clear HI2
                have hwd := g_Word.calls t (wordL t.data.toList) wc rfl
                generalize wordL t.data.toList = v at *
                cases b4 with
                | false =>
                  have hR : R = 0 := hbad6.out
                  subst hR
                  clear hbad6
                  go_wp2_with fail
                  go_ret
                  exact ⟨rfl, HB⟩
                | true =>
                  cases v with
                  | false =>
                    have hR : R = 12 := hbad6.out
                    subst hR
                    clear hbad6
                    go_wp2_with (go_at_call 21; refine hwd.mono ?_; rintro e w' ⟨rfl, hb⟩)
                    go_ret
                    exact ⟨rfl, HB.trans (hb.mono hlt)⟩
                  | true =>
                    have hR : R = 0 := hbad6.out
                    subst hR
                    clear hbad6
                    go_wp2_with (go_at_call 21; refine hwd.mono ?_; rintro e w' ⟨rfl, hb⟩)
                    go_ret
                    exact ⟨rfl, HB.trans (hb.mono hlt)⟩
def g_Check.f (a0 : Int) (a1 : ByteArray) (a2 a3 : Int) (a4 : ByteArray) : Option Int := if a1.size ≤ 140737488351232 then some (chk ⟨a0, a1.data.toList, a2, a3, a4.data.toList⟩) else none
theorem g_Check.calls (a0 : Int) (a1 : ByteArray) (a2 a3 : Int) (a4 : ByteArray) (r : Int) (w : World) (h : g_Check.f a0 a1 a2 a3 a4 = some r) :
    Calls Tryd.prog 17 #[.agg #[.int .i64 a0, .string a1, .int .i64 a2, .int .i64 a3, .string a4]] w fun e w' => e = .returned (.int .i64 r) ∧ Below w.heap.size w w' := by
  unfold g_Check.f at h
  split at h
  · rename_i hs
    injection h with h
    subst h
    exact check_calls a0 a1 a2 a3 a4 hs w
  · cases h
end Go.Proofs.YtkdfilpinlebbaaDoor.G
