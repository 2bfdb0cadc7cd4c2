/- This session's texts for the claim, joined and shortened by this session's own program pack.py: what the claim does not need is struck. Part: Fun04. -/
import Derived.Test.YtkdfilpinlebbaaDoorQPC1
import Derived.Test.YtkdfilpinlebbaaDoorQPC2
import Derived.Test.YtkdfilpinlebbaaDoorQPC3
import Derived.Test.YtkdfilpinlebbaaDoorQPC4
import Derived.Test.YtkdfilpinlebbaaDoorQSpec04
set_option linter.unusedVariables false
set_option linter.unusedSimpArgs false
namespace Go.Proofs.YtkdfilpinlebbaaDoor.G
open Go.RowKit Go.Proofs.YtkdfilpinlebbaaDoorW.PrintWords Go.Proofs.YtkdfilpinlebbaaDoorW.PrintLast Go.Proofs.YtkdfilpinlebbaaDoorW.PrintMore Go.Proofs.YtkdfilpinlebbaaDoor.PC
theorem Ev.pos {α : Type} {c : Prop} [Decidable c] {f g : Nat → Option α} {r : α} (h : c) (k : Ev f r) : Ev (fun n => if c then f n else g n) r := k.congr (fun n => if_pos h)
theorem Ev.neg {α : Type} {c : Prop} [Decidable c] {f g : Nat → Option α} {r : α} (h : ¬ c) (k : Ev g r) : Ev (fun n => if c then f n else g n) r := k.congr (fun n => if_neg h)
theorem Ev.const {α : Type} {g : Option α} {r : α} (h : g = some r) : Ev (fun _ => g) r := ⟨0, fun _ _ => h⟩
theorem Ev.val {α : Type} {g : Nat → Option α} {r s : α} (h : Ev g r) (e : r = s) : Ev g s := e ▸ h
theorem Ev.same {α : Type} {g : Nat → Option α} {r s : α} (h : Ev g r) (k : Ev g s) : r = s := by
  obtain ⟨K, hK⟩ := h
  obtain ⟨L, hL⟩ := k
  have h1 := hK (K + L) (by omega)
  have h2 := hL (K + L) (by omega)
  rw [h1] at h2
  exact Option.some.inj h2
theorem w64 (x : Int) (h0 : -9223372036854775808 ≤ x) (h1 : x ≤ 9223372036854775807) : wrap64 x = x := by unfold wrap64; omega
def B (l : List UInt8) : ByteArray := ⟨l.toArray⟩
theorem bt_nat (s : ByteArray) (i : Nat) (h : i < s.data.toList.length) : bt s (i : Int) = ((s.data.toList[i]'h).toNat : Int) := by
  have h' : (i : Int).toNat < s.size := by simpa using h
  rw [← bt_at s i h']
  rfl
theorem sz (s : ByteArray) : s.data.toList.length = s.size := by simp
theorem step_val (v c : Nat) (hv : v < 10000000) (h1 : 48 ≤ c) (h2 : c ≤ 57) : wrap64 (wrap64 (wrap64 (10 * (v : Int)) + wrap64 (c : Int)) - 48) = ((v * 10 + (c - 48) : Nat) : Int) := by
  rw [w64 (10 * (v : Int)) (by omega) (by omega), w64 (c : Int) (by omega) (by omega), w64 (10 * (v : Int) + (c : Int)) (by omega) (by omega), w64 _ (by omega) (by omega)]
  omega
theorem val_take_lt (t : List UInt8) (j : Nat) (hj : j ≤ digs t) (h7 : j ≤ 7) : val (t.take j) < 10000000 := by
  have hdl := digs_le t
  have h := val_lt j (t.take j) (by rw [List.length_take]; omega) (fun c hc => by
    have htt : t.take j = (t.take (digs t)).take j := by rw [List.take_take, Nat.min_eq_left hj]
    rw [htt] at hc
    exact take_digs_all _ c (List.mem_of_mem_take hc))
  exact Nat.lt_of_lt_of_le h (Nat.pow_le_pow_right (n := 10) (by decide) h7)
theorem nlt {a b : Nat} (h : a < b) : ((a : Nat) : Int) < (b : Int) := Int.ofNat_lt.2 h
theorem nnlt {a b : Nat} (h : ¬ a < b) : ¬ ((a : Nat) : Int) < (b : Int) := fun g => h (Int.ofNat_lt.1 g)
theorem n0 (a : Nat) : (0 : Int) ≤ (a : Int) := Int.natCast_nonneg a
theorem nle {a b : Nat} (h : a ≤ b) : ((a : Nat) : Int) ≤ (b : Int) := Int.ofNat_le.2 h
theorem w64s (a : Nat) (h : a ≤ 140737488351232) : wrap64 ((a : Int) + 1) = ((a + 1 : Nat) : Int) := by
  rw [w64 _ (by omega) (by omega)]
  omega
theorem w64p7 (a : Nat) (h : a ≤ 140737488351232) : wrap64 ((a : Int) + 7) = ((a + 7 : Nat) : Int) := by
  rw [w64 _ (by omega) (by omega)]
  omega
theorem scan_loop' (s : ByteArray) (hs : s.size ≤ 140737488351232) (out : List Int) (at_ : Nat) (hat : at_ ≤ s.size) (t : List UInt8) (V : Nat → Nat) (D : Nat)
    (hbt : ∀ (i : Nat) (h : at_ + i < s.size), ∃ h' : i < t.length, bt s ((at_ + i : Nat) : Int) = ((t[i]'h').toNat : Int)) (hlen : t.length = s.size - at_) (hD : D ≤ t.length)
    (hin : ∀ (i : Nat) (h : i < t.length), i < D → 48 ≤ (t[i]'h).toNat ∧ (t[i]'h).toNat ≤ 57) (hout : ∀ (h : D < t.length), ¬ (48 ≤ (t[D]'h).toNat ∧ (t[D]'h).toNat ≤ 57))
    (hV : ∀ (i : Nat) (h : i < t.length), i < D → i < 7 → wrap64 (wrap64 (wrap64 (10 * (V i : Int)) + wrap64 ((t[i]'h).toNat : Int)) - 48) = (V (i + 1) : Int)) (r : List Int × Int × Int)
    (hr : ∀ j : Nat, j = min D 7 → Ev (fun k => replevinref03_Parse.j3 k s out (at_ : Int) (V j : Int) ((at_ + j : Nat) : Int)) r) :
    ∀ (d j : Nat), j ≤ D → j ≤ 7 → 7 - j = d → Ev (fun k => replevinref03_Parse.l1 k s out (at_ : Int) (V j : Int) ((at_ + j : Nat) : Int)) r := by
  intro d
  induction d with
  | zero =>
    intro j hj h7 hd
    obtain rfl : j = 7 := by omega
    have hr' := hr 7 (by omega)
    clear hr hV hin hout
    refine Ev.step (fun k => by rw [replevinref03_Parse.l1]) ?_
    by_cases hl : at_ + 7 < s.size
    · have c1 : ((at_ + 7 : Nat) : Int) < (s.size : Int) := nlt hl
      have c2 : (0 : Int) ≤ ((at_ + 7 : Nat) : Int) := n0 _
      have c5 : ¬ ((at_ + 7 : Nat) : Int) < wrap64 ((at_ : Int) + 7) := by rw [w64p7 at_ (Nat.le_trans hat hs)]; exact Int.lt_irrefl _
      refine Ev.pos c1 (Ev.pos c2 ?_)
      by_cases h48 : bt s ((at_ + 7 : Nat) : Int) ≥ 48
      · refine Ev.pos h48 ?_
        by_cases h57 : bt s ((at_ + 7 : Nat) : Int) ≤ 57
        · exact Ev.pos h57 (Ev.neg c5 hr')
        · exact Ev.neg h57 hr'
      · exact Ev.neg h48 hr'
    · have c1 : ¬ ((at_ + 7 : Nat) : Int) < (s.size : Int) := nnlt hl
      exact Ev.neg c1 hr'
  | succ d ih =>
    intro j hj h7 hd
    refine Ev.step (fun k => by rw [replevinref03_Parse.l1]) ?_
    by_cases hjd : j < D
    · have hjl : j < t.length := by omega
      have hal : at_ + j < s.size := by omega
      have h7' : at_ + j < at_ + 7 := by omega
      have g := hin j hjl hjd
      have hv := hV j hjl hjd (by omega)
      obtain ⟨_, hb⟩ := hbt j hal
      have hnext := ih (j + 1) (by omega) (by omega) (by omega)
      clear ih hr hin hout hV hbt
      have e4 : wrap64 (((at_ + j : Nat) : Int) + 1) = ((at_ + (j + 1) : Nat) : Int) := w64s (at_ + j) (Nat.le_trans (Nat.le_of_lt hal) hs)
      have c1 : ((at_ + j : Nat) : Int) < (s.size : Int) := nlt hal
      have c2 : (0 : Int) ≤ ((at_ + j : Nat) : Int) := n0 _
      have c3 : bt s ((at_ + j : Nat) : Int) ≥ 48 := by rw [hb]; exact nle g.1
      have c4 : bt s ((at_ + j : Nat) : Int) ≤ 57 := by rw [hb]; exact nle g.2
      have c5 : ((at_ + j : Nat) : Int) < wrap64 ((at_ : Int) + 7) := by rw [w64p7 at_ (Nat.le_trans hat hs)]; exact nlt h7'
      refine Ev.pos c1 (Ev.pos c2 (Ev.pos c3 (Ev.pos c4 (Ev.pos c5 ?_))))
      rw [hb, hv, e4]
      exact hnext
    · have hje : j = D := by omega
      have hr' := hr j (by omega)
      clear hr ih hV hin
      by_cases hl : at_ + j < s.size
      · obtain ⟨hjl, hb⟩ := hbt j hl
        subst hje
        have hno := hout hjl
        clear hout hbt
        have c1 : ((at_ + j : Nat) : Int) < (s.size : Int) := nlt hl
        have c2 : (0 : Int) ≤ ((at_ + j : Nat) : Int) := n0 _
        refine Ev.pos c1 (Ev.pos c2 ?_)
        by_cases h48 : bt s ((at_ + j : Nat) : Int) ≥ 48
        · have h57 : ¬ bt s ((at_ + j : Nat) : Int) ≤ 57 := by
            rw [hb] at h48 ⊢
            exact fun h => hno ⟨Int.ofNat_le.1 h48, Int.ofNat_le.1 h⟩
          exact Ev.pos h48 (Ev.neg h57 hr')
        · exact Ev.neg h48 hr'
      · have c1 : ¬ ((at_ + j : Nat) : Int) < (s.size : Int) := nnlt hl
        exact Ev.neg c1 hr'
theorem neq {a b : Nat} (h : a = b) : ((a : Nat) : Int) = (b : Int) := congrArg _ h
theorem nne {a b : Nat} (h : ¬ a = b) : ¬ ((a : Nat) : Int) = (b : Int) := fun g => h (Int.ofNat.inj g)
theorem coll_er (out : List Int) (p c : Int) (h : c ≠ 0) : coll out [(0, p, c)] = ([], p, c) := by simp [coll, h]
theorem after_scan (s : ByteArray) (hs : s.size ≤ 140737488351232) (out : List Int) (at_ : Nat) (hn : out.length < 8) (hlt : at_ < s.data.toList.length) (h0 : digs (s.data.toList.drop at_) ≠ 0) (hz : (s.data.toList[at_]'hlt).toNat ≠ 48)
    (ih : ∀ (out' : List Int) (at' : Nat), out'.length = out.length + 1 → at' ≤ s.size → Ev (fun k => replevinref03_Parse.l0 k s out' (at' : Int)) (coll out' (pp (8 - out'.length) at' (s.data.toList.drop at'))))
    (j : Nat) (hj : j = min (digs (s.data.toList.drop at_)) 7) :
    Ev (fun k => replevinref03_Parse.j3 k s out (at_ : Int) ((val ((s.data.toList.drop at_).take j) : Nat) : Int) ((at_ + j : Nat) : Int)) (coll out (pp (8 - out.length) at_ (s.data.toList.drop at_))) := by
  have hsz := sz s
  have hdl := digs_le (s.data.toList.drop at_)
  have hlen : (s.data.toList.drop at_).length = s.size - at_ := by rw [List.length_drop, hsz]
  have hat : at_ ≤ 140737488351232 := by omega
  refine Ev.step (fun k => by rw [replevinref03_Parse.j3]) ?_
  rw [w64p7 at_ hat]
  by_cases h6 : 6 < digs (s.data.toList.drop at_)
  · have hj7 : at_ + j = at_ + 7 := by omega
    refine Ev.pos (neq hj7) (Ev.val (Ev.now _) ?_)
    rw [pp_range out.length at_ _ hn hlt h6 hz, coll_er _ _ _ (by decide)]
  · have hje : j = digs (s.data.toList.drop at_) := by omega
    have hj7 : ¬ at_ + j = at_ + 7 := by omega
    have hal : at_ + j ≤ s.size := by omega
    have hroom : out.length < 17592186044416 := by omega
    refine Ev.neg (nne hj7) (Ev.pos hroom (Ev.bind (Ev.now _) ?_))
    by_cases hfull : at_ + j = s.size
    · refine Ev.pos (neq hfull) (Ev.val (Ev.now _) ?_)
      rw [pp_ok_end out.length at_ _ hn hlt h0 h6 hz (by rw [hsz, ← hje]; exact hfull), ← hje]
      simp [coll]
    · have hal2 : at_ + j < s.data.toList.length := by omega
      have hal3 : at_ + j < s.size := by omega
      have hb2 := bt_nat s (at_ + j) hal2
      have hal' : at_ + digs (s.data.toList.drop at_) < s.data.toList.length := by omega
      refine Ev.neg (nne hfull) (Ev.pos (n0 _) (Ev.pos (nlt hal3) ?_))
      rw [hb2]
      by_cases h46 : (s.data.toList[at_ + j]).toNat = 46
      · refine Ev.pos (neq h46) ?_
        rw [w64s (at_ + j) (Nat.le_trans hal hs)]
        have hnext := ih (out ++ [((val ((s.data.toList.drop at_).take j) : Nat) : Int)]) (at_ + j + 1) (by rw [List.length_append]; rfl) hal3
        refine Ev.val hnext ?_
        rw [pp_ok_dot out.length at_ _ hn hlt h0 h6 hz hal' (by simp only [← hje]; exact h46), ← hje]
        simp [coll]
      · refine Ev.neg (nne h46) (Ev.val (Ev.now _) ?_)
        rw [pp_ok_other out.length at_ _ hn hlt h0 h6 hz hal' (by simp only [← hje]; exact h46), ← hje]
        simp [coll]
theorem digs_zero (L : List UInt8) (at_ : Nat) (h : at_ < L.length) : digs (L.drop at_) = 0 ↔ ¬ (48 ≤ (L[at_]'h).toNat ∧ (L[at_]'h).toNat ≤ 57) := by
  rw [List.drop_eq_getElem_cons h]
  generalize L[at_] = c
  generalize L.drop (at_ + 1) = t
  constructor
  · intro g hc
    unfold digs at g
    rw [if_pos hc] at g
    exact absurd g (Nat.succ_ne_zero _)
  · intro g
    unfold digs
    rw [if_neg g]
theorem first_byte (s : ByteArray) (hs : s.size ≤ 140737488351232) (out : List Int) (at_ : Nat) (hn : out.length < 8) (hlt : at_ < s.data.toList.length)
    (ih : ∀ (out' : List Int) (at' : Nat), out'.length = out.length + 1 → at' ≤ s.size → Ev (fun k => replevinref03_Parse.l0 k s out' (at' : Int)) (coll out' (pp (8 - out'.length) at' (s.data.toList.drop at'))))
    (b : Bool) (hbd : b = true ↔ digs (s.data.toList.drop at_) = 0) : Ev (fun k => replevinref03_Parse.j1 k s out (at_ : Int) b) (coll out (pp (8 - out.length) at_ (s.data.toList.drop at_))) := by
  have hb := bt_nat s at_ hlt
  have hsz := sz s
  have hlt' : at_ < s.size := hsz ▸ hlt
  refine Ev.step (fun k => by rw [replevinref03_Parse.j1]) ?_
  by_cases h0 : digs (s.data.toList.drop at_) = 0
  · refine Ev.pos (hbd.2 h0) (Ev.val (Ev.now _) ?_)
    rw [pp_byte out.length at_ _ hn hlt h0, coll_er _ _ _ (by decide)]
  · refine Ev.neg (fun h => h0 (hbd.1 h)) (Ev.pos (n0 _) (Ev.pos (nlt hlt') ?_))
    rw [hb]
    by_cases hz : (s.data.toList[at_]).toNat = 48
    · refine Ev.pos (neq hz) (Ev.val (Ev.now _) ?_)
      rw [pp_format out.length at_ _ hn hlt h0 hz, coll_er _ _ _ (by decide)]
    · refine Ev.neg (nne hz) ?_
      have hlen : (s.data.toList.drop at_).length = s.size - at_ := by rw [List.length_drop, hsz]
      have hsc := scan_loop' s hs out at_ (Nat.le_of_lt hlt') (s.data.toList.drop at_) (fun j => val ((s.data.toList.drop at_).take j)) (digs (s.data.toList.drop at_))
        (by
          intro i h
          have hi : i < (s.data.toList.drop at_).length := by rw [hlen]; omega
          refine ⟨hi, ?_⟩
          rw [bt_nat s (at_ + i) (by rw [sz]; exact h), List.getElem_drop])
        hlen (digs_le _) (fun i h hi => digs_at _ i h hi) (fun h => digs_end _ h)
        (by
          intro i h hi h7
          have g := digs_at _ i h hi
          rw [step_val _ _ (val_take_lt _ i (Nat.le_of_lt hi) (Nat.le_of_lt h7)) g.1 g.2, ← val_snoc, ← List.take_succ_eq_append_getElem h])
        _ (after_scan s hs out at_ hn hlt h0 hz ih) 7 0 (Nat.zero_le _) (Nat.zero_le _) rfl
      have hv0 : val ((s.data.toList.drop at_).take 0) = 0 := by rw [List.take_zero]; rfl
      simp only [hv0] at hsc
      exact hsc
theorem parse_loop (s : ByteArray) (hs : s.size ≤ 140737488351232) : ∀ (d : Nat) (out : List Int) (at_ : Nat), 8 - out.length = d → out.length ≤ 8 → at_ ≤ s.size →
    Ev (fun k => replevinref03_Parse.l0 k s out (at_ : Int)) (coll out (pp (8 - out.length) at_ (s.data.toList.drop at_))) := by
  intro d
  induction d with
  | zero =>
    intro out at_ hd h8 hat
    have h : out.length = 8 := by omega
    refine Ev.step (fun k => by rw [replevinref03_Parse.l0]) ?_
    refine Ev.pos (show ((out.length : Nat) : Int) = 8 from neq h) (Ev.val (Ev.now _) ?_)
    rw [pp_limit out.length at_ _ h, coll_er _ _ _ (by decide)]
  | succ d ih =>
    intro out at_ hd h8 hat
    have hn : out.length < 8 := by omega
    have hn8 : ¬ out.length = 8 := by omega
    have hsz := sz s
    refine Ev.step (fun k => by rw [replevinref03_Parse.l0]) ?_
    refine Ev.neg (show ¬ ((out.length : Nat) : Int) = 8 from nne hn8) ?_
    by_cases hend : at_ = s.size
    · refine Ev.pos (neq hend) (Ev.val (Ev.now _) ?_)
      rw [pp_short out.length at_ _ hn (by rw [hsz]; exact hend.symm), coll_er _ _ _ (by decide)]
    · have hlt : at_ < s.data.toList.length := by omega
      have hlt' : at_ < s.size := by omega
      have hb := bt_nat s at_ hlt
      have key := first_byte s hs out at_ hn hlt (fun out' at' h1 h2 => ih out' at' (by omega) (by omega) h2)
      have hdig := digs_zero s.data.toList at_ hlt
      refine Ev.neg (nne hend) (Ev.pos (n0 _) (Ev.pos (nlt hlt') ?_))
      rw [hb]
      by_cases h48 : (s.data.toList[at_]).toNat < 48
      · refine Ev.pos (nlt h48) (key true ?_)
        rw [hdig]
        exact ⟨fun _ h => absurd h.1 (Nat.not_le.2 h48), fun _ => rfl⟩
      · refine Ev.neg (nnlt h48) (key _ ?_)
        rw [hdig, decide_eq_true_iff]
        exact ⟨fun h g => Nat.lt_irrefl _ (Nat.lt_of_lt_of_le (Int.ofNat_lt.1 h) g.2), fun g => nlt (a := 57) (Nat.lt_of_not_le fun h => g ⟨Nat.le_of_not_lt h48, h⟩)⟩
theorem rparse_ev (s : ByteArray) (hs : s.size ≤ 140737488351232) : Ev (fun k => replevinref03_Parse.f k s) (parseL s.data.toList) := by
  refine Ev.congr (fun k => by rw [replevinref03_Parse.f]) ?_
  have ht : s.toList = s.data.toList := Lib.toList_data s
  unfold parseL
  by_cases h : s.data.toList = []
  · rw [if_pos h]
    exact Ev.pos (by rw [ht]; exact h) (Ev.now _)
  · rw [if_neg h]
    refine Ev.neg (by rw [ht]; exact h) ?_
    exact parse_loop s hs 8 [] 0 rfl (by decide) (Nat.zero_le _)
end Go.Proofs.YtkdfilpinlebbaaDoor.G
