/- What the printed functions of layer 3 answer, in plain words: one lemma a function. -/
import Derived.Test.YtpkiiconadbmfaaDoorPA0
import Derived.Test.YtpkiiconadbmfaaDoorPA1
import Derived.Test.YtpkiiconadbmfaaDoorPA2
import Derived.Test.YtpkiiconadbmfaaDoorPA3
import Derived.Test.YtpkiiconadbmfaaDoorPA4
import Derived.Test.YtpkiiconadbmfaaDoorMath03
set_option linter.unusedVariables false
set_option linter.unusedSimpArgs false
namespace Go.Proofs.YtpkiiconadbmfaaDoor.G
open Go.RowKit Go.Proofs.YtpkiiconadbmfaaDoorW.PrintWords Go.Proofs.YtpkiiconadbmfaaDoorW.PrintLast Go.Proofs.YtpkiiconadbmfaaDoorW.PrintMore Go.Proofs.YtpkiiconadbmfaaDoor.PA

/-! ### Words on 'with enough rounds' -/
theorem Ev.pos {α : Type} {c : Prop} [Decidable c] {f g : Nat → Option α} {r : α} (h : c) (k : Ev f r) : Ev (fun n => if c then f n else g n) r := k.congr (fun n => if_pos h)
theorem Ev.neg {α : Type} {c : Prop} [Decidable c] {f g : Nat → Option α} {r : α} (h : ¬ c) (k : Ev g r) : Ev (fun n => if c then f n else g n) r := k.congr (fun n => if_neg h)
theorem Ev.const {α : Type} {g : Option α} {r : α} (h : g = some r) : Ev (fun _ => g) r := ⟨0, fun _ _ => h⟩
theorem Ev.val {α : Type} {g : Nat → Option α} {r s : α} (h : Ev g r) (e : r = s) : Ev g s := e ▸ h
theorem Ev.same {α : Type} {g : Nat → Option α} {r s : α} (h : Ev g r) (k : Ev g s) : r = s := by
  obtain ⟨K, hK⟩ := h
  obtain ⟨L, hL⟩ := k
  have h1 := hK (K + L) (by omega)
  have h2 := hL (K + L) (by omega)
  rw [h1] at h2
  exact Option.some.inj h2

theorem w64 (x : Int) (h0 : -9223372036854775808 ≤ x) (h1 : x ≤ 9223372036854775807) : wrap64 x = x := by unfold wrap64; omega
theorem rd_nat (l : List Int) (i : Nat) (h : i < l.length) : rd l (i : Int) = l[i] := by
  unfold rd
  rw [Int.toNat_natCast, List.getD_eq_getElem?_getD, List.getElem?_eq_getElem h]
  rfl

def B (l : List UInt8) : ByteArray := ⟨l.toArray⟩
theorem B_data (l : List UInt8) : (B l).data.toList = l := rfl
theorem B_toList (l : List UInt8) : (B l).toList = l := by rw [Lib.toList_data]; rfl
theorem B_of (s : ByteArray) : B s.data.toList = s := by
  unfold B
  simp
theorem B_size (l : List UInt8) : (B l).size = l.length := rfl
theorem B_inj {a b : List UInt8} (h : B a = B b) : a = b := by
  have := congrArg (fun x : ByteArray => x.data.toList) h
  exact this
theorem B_append (a b : List UInt8) : B a ++ B b = B (a ++ b) := by
  have h : (B a ++ B b).data.toList = a ++ b := by
    rw [ByteArray.data_append]
    simp [B]
  rw [← B_of (B a ++ B b), h]

/-! ### Make -/
instance (n : Int) : Decidable (okOrd n) := by unfold okOrd; infer_instance
def mk (l : List Int) : ByteArray × Int := if 8 < l.length then (B [], 9) else if (∀ n ∈ l, okOrd n) then (B (textL l), 0) else (B [], 2)

def wordsAt (l : List Int) (i : Nat) : List ByteArray := (l.take i).map (fun n => B (Lib.itoa n)) ++ List.replicate (l.length - i) (B [])
theorem wordsAt_len (l : List Int) (i : Nat) (h : i ≤ l.length) : (wordsAt l i).length = l.length := by simp [wordsAt]; omega
theorem wordsAt_set (l : List Int) (i : Nat) (h : i < l.length) : (wordsAt l i).set i (B (Lib.itoa l[i])) = wordsAt l (i + 1) := by
  unfold wordsAt
  obtain ⟨m, hm⟩ : ∃ m, l.length - i = m + 1 := ⟨l.length - i - 1, by omega⟩
  have hm' : l.length - (i + 1) = m := by omega
  rw [hm, hm', List.replicate_succ, List.set_append_right _ _ (by simp; omega)]
  have hl : ((l.take i).map fun n => B (Lib.itoa n)).length = i := by simp; omega
  rw [hl, Nat.sub_self, List.set_cons_zero, List.take_succ_eq_append_getElem h, List.map_append]
  simp
theorem wordsAt_all (l : List Int) : wordsAt l l.length = l.map (fun n => B (Lib.itoa n)) := by simp [wordsAt]

theorem itoa_ev (n : Int) (h0 : -9223372036854775808 ≤ n) (h1 : n ≤ 9223372036854775807) : g_Itoa.f n = some (B (Lib.itoa n)) := by
  unfold g_Itoa.f
  rw [if_pos h0, if_pos h1]
  rfl
theorem join_ev (l : List Int) (h : okL l) : g_Join.f (l.map fun n => B (Lib.itoa n)) (⟨#[46]⟩ : ByteArray) = some (B (textL l)) := by
  have e : (l.map fun n => B (Lib.itoa n)).map (fun s => s.data.toList) = l.map Lib.itoa := by
    rw [List.map_map]
    rfl
  have hl := textL_len h
  have h8 := h.1
  unfold g_Join.f
  rw [e]
  have e2 : Lib.join (l.map Lib.itoa) (⟨#[46]⟩ : ByteArray).data.toList = textL l := rfl
  rw [e2, if_pos (by omega), if_pos (by simp; omega)]
  rfl

theorem make_loop (l : List Int) (h8 : l.length ≤ 8) : ∀ (d i : Nat), i ≤ l.length → l.length - i = d → (∀ n ∈ l.take i, okOrd n) →
    Ev (fun k => lineage_Make.l0 k (wordsAt l i) l (l.length : Int) (i : Int)) (if (∀ n ∈ l, okOrd n) then (B (textL l), 0) else (B [], 2)) := by
  intro d
  induction d with
  | zero =>
    intro i hi hd hok
    obtain rfl : i = l.length := by omega
    rw [List.take_length] at hok
    rw [if_pos hok, wordsAt_all]
    refine Ev.step (fun k => by rw [lineage_Make.l0]) (Ev.neg (by omega) ?_)
    exact Ev.bind (Ev.const (join_ev l ⟨h8, hok⟩)) (Ev.now _)
  | succ d ih =>
    intro i hi hd hok
    have hil : i < l.length := by omega
    refine Ev.step (fun k => by rw [lineage_Make.l0]) (Ev.pos (by omega) (Ev.pos (by omega) (Ev.pos (by omega) ?_)))
    rw [rd_nat l i hil]
    by_cases h1 : l[i] < 1
    · refine Ev.val (Ev.pos h1 (Ev.now _)) ?_
      rw [if_neg (fun h => by have := (h _ (List.getElem_mem hil)).1; omega)]
      rfl
    · refine Ev.neg h1 ?_
      by_cases h2 : l[i] > 999999
      · refine Ev.val (Ev.pos h2 (Ev.now _)) ?_
        rw [if_neg (fun h => by have := (h _ (List.getElem_mem hil)).2; omega)]
        rfl
      · refine Ev.neg h2 (Ev.bind (Ev.const (itoa_ev l[i] (by omega) (by omega))) ?_)
        refine Ev.pos (by rw [wordsAt_len l i (by omega)]; omega) ?_
        rw [Int.toNat_natCast, wordsAt_set l i hil, w64 ((i : Int) + 1) (by omega) (by omega)]
        refine ih (i + 1) (by omega) (by omega) ?_
        intro n hn
        rw [List.take_succ_eq_append_getElem hil] at hn
        rcases List.mem_append.1 hn with h | h
        · exact hok n h
        · rw [List.mem_singleton.1 h]
          exact ⟨by omega, by omega⟩

theorem make_ev (l : List Int) (hl : l.length ≤ 17592186044416) : Ev (fun k => lineage_Make.f k l) (mk l) := by
  unfold mk
  by_cases h8 : 8 < l.length
  · rw [if_pos h8]
    refine Ev.congr (fun k => by rw [lineage_Make.f]) ?_
    exact Ev.pos (by omega) (Ev.now _)
  · rw [if_neg h8]
    refine Ev.congr (fun k => by rw [lineage_Make.f]) ?_
    refine Ev.neg (by omega) (Ev.pos (by omega) (Ev.pos (by simpa using hl) ?_))
    have := make_loop l (by omega) l.length 0 (by omega) (by omega) (by simp)
    have h0 : wordsAt l 0 = List.replicate ((l.length : Int) : Int).toNat (⟨#[]⟩ : ByteArray) := by simp [wordsAt, B]
    rw [h0] at this
    exact this

theorem mk_ok {l : List Int} (h : okL l) : mk l = (B (textL l), 0) := by
  unfold mk
  rw [if_neg (by have := h.1; omega), if_pos h.2]

/-! ### Digits, Text and Make of the reference -/
theorem strOf_digit (d : Nat) (h : d < 10) : strOfNums [(wrap64 (48 + (d : Int))) % 256] = B [UInt8.ofNat (48 + d)] := by
  rw [w64 _ (by omega) (by omega)]
  have : ((48 : Int) + (d : Int)) % 256 = ((48 + d : Nat) : Int) := by omega
  rw [this]
  rfl

theorem digits_ev : ∀ (m u : Nat), u ≤ m → u ≤ 999999 → Ev (fun k => replevinref03_Digits.f k (u : Int)) (B (Lib.decDigits u)) := by
  intro m
  induction m with
  | zero =>
    intro u hu hb
    refine Ev.step (fun k => by rw [replevinref03_Digits.f]) (Ev.pos (by omega) ?_)
    refine Ev.val (Ev.now _) ?_
    rw [Lib.decDigits, dif_pos (by omega), strOf_digit u (by omega)]
  | succ m ih =>
    intro u hu hb
    by_cases h10 : u < 10
    · refine Ev.step (fun k => by rw [replevinref03_Digits.f]) (Ev.pos (by omega) ?_)
      refine Ev.val (Ev.now _) ?_
      rw [Lib.decDigits, dif_pos h10, strOf_digit u h10]
    · refine Ev.step (fun k => by rw [replevinref03_Digits.f]) (Ev.neg (by omega) ?_)
      have e1 : wrap64 (Int.tdiv (u : Int) 10) = ((u / 10 : Nat) : Int) := by
        rw [Int.tdiv_eq_ediv_of_nonneg (by omega), w64 _ (by omega) (by omega)]
        omega
      have e2 : Int.tmod (u : Int) 10 = ((u % 10 : Nat) : Int) := by
        rw [Int.tmod_eq_emod_of_nonneg (by omega)]
        omega
      rw [e1, e2]
      refine Ev.bind (ih (u / 10) (by omega) (by omega)) (Ev.bind (Ev.now _) ?_)
      have hlen := decDigits_len 5 (u / 10) (by omega)
      rw [strOf_digit (u % 10) (by omega)]
      refine Ev.pos (by rw [B_size, B_size]; simp; omega) (Ev.val (Ev.now _) ?_)
      rw [B_append]
      conv => rhs; rw [Lib.decDigits, dif_neg h10]

theorem digits_ord {n : Int} (h : okOrd n) : Ev (fun k => replevinref03_Digits.f k n) (B (Lib.itoa n)) := by
  obtain ⟨u, rfl⟩ : ∃ u : Nat, n = (u : Int) := ⟨n.toNat, by have := h.1; omega⟩
  rw [itoa_ord h, Int.toNat_natCast]
  exact digits_ev u u (Nat.le_refl _) (by have := h.2; omega)

theorem textL_snoc (a : List Int) (n : Int) : textL (a ++ [n]) = textL a ++ (if a = [] then [] else [46]) ++ Lib.itoa n := by
  induction a with
  | nil => simp [textL_cons, textL_nil]
  | cons x r ih =>
    rw [List.cons_append, textL_cons, if_neg (by simp), ih, textL_cons]
    by_cases hr : r = []
    · subst hr
      simp [textL_nil]
    · rw [if_neg hr, if_neg hr, if_neg (by simp)]
      simp

theorem text_loop (l : List Int) (hok : okL l) : ∀ (d i : Nat), i ≤ l.length → l.length - i = d →
    Ev (fun k => replevinref03_Text.l0 k l (B (textL (l.take i))) (i : Int)) (B (textL l)) := by
  intro d
  induction d with
  | zero =>
    intro i hi hd
    obtain rfl : i = l.length := by omega
    rw [List.take_length]
    exact Ev.step (fun k => by rw [replevinref03_Text.l0]) (Ev.neg (by omega) (Ev.now _))
  | succ d ih =>
    intro i hi hd
    have hil : i < l.length := by omega
    have ho : okOrd l[i] := hok.2 _ (List.getElem_mem hil)
    have hti : okL (l.take i) := ⟨by simp; have := hok.1; omega, fun n hn => hok.2 n (List.mem_of_mem_take hn)⟩
    have hlen := textL_len hti
    have hdl := decDigits_len 5 l[i].toNat (by have := ho.2; omega)
    have h8 := hok.1
    have hlt : (l.take i).length = i := by simp; omega
    have hsn := textL_snoc (l.take i) l[i]
    rw [← List.take_succ_eq_append_getElem hil] at hsn
    have hnext := ih (i + 1) (by omega) (by omega)
    refine Ev.step (fun k => by rw [replevinref03_Text.l0]) (Ev.pos (by omega) ?_)
    rw [rd_nat l i hil]
    by_cases hi0 : i = 0
    · subst hi0
      refine Ev.neg (by omega) (Ev.pos (by omega) (Ev.bind (digits_ord ho) (Ev.pos ?_ ?_)))
      · rw [B_size, B_size, itoa_ord ho]
        simp [textL_nil]
        omega
      · have e : B (textL (l.take 0)) ++ B (Lib.itoa l[0]) = B (textL (l.take (0 + 1))) := by
          rw [B_append, hsn]
          simp
        rw [e, w64 (((0 : Nat) : Int) + 1) (by omega) (by omega)]
        exact hnext
    · refine Ev.pos (by omega) (Ev.pos (by rw [B_size]; omega) (Ev.pos (by omega) (Ev.bind (digits_ord ho) (Ev.pos ?_ ?_))))
      · have e46 : (⟨#[46]⟩ : ByteArray) = B [46] := rfl
        rw [e46, B_append, B_size, B_size, itoa_ord ho]
        simp
        omega
      · have e : B (textL (l.take i)) ++ (⟨#[46]⟩ : ByteArray) ++ B (Lib.itoa l[i]) = B (textL (l.take (i + 1))) := by
          have e46 : (⟨#[46]⟩ : ByteArray) = B [46] := rfl
          rw [e46, B_append, B_append, hsn, if_neg (fun h => by rw [h] at hlt; simp at hlt; omega)]
        rw [e, w64 ((i : Int) + 1) (by omega) (by omega)]
        exact hnext

theorem text_ev {l : List Int} (h : okL l) : Ev (fun k => replevinref03_Text.f k l) (B (textL l)) := by
  refine Ev.congr (fun k => by rw [replevinref03_Text.f]) ?_
  have := text_loop l h l.length 0 (by omega) (by omega)
  simpa [textL_nil, B] using this

theorem okL_take {l : List Int} (h : okL l) (i : Nat) : okL (l.take i) := ⟨by simp; have := h.1; omega, fun n hn => h.2 n (List.mem_of_mem_take hn)⟩

/-! ### Parse -/
theorem lparse (s : ByteArray) (hs : s.size ≤ 140737488351232) : lineage_parse.f s = some (parseL s.data.toList) := by
  unfold lineage_parse.f
  rw [if_pos hs]
def V (s : ByteArray) : Bool := (parseL s.data.toList).2.2 == 0
def O (s : ByteArray) : List Int := (parseL s.data.toList).1
theorem V_ok {s : ByteArray} (h : V s = true) : okL (O s) ∧ B (textL (O s)) = s := by
  have h' : (parseL s.data.toList).2.2 = 0 := by simpa [V] using h
  obtain ⟨h1, h2, _⟩ := text_parse h'
  exact ⟨h1, by show B (textL (parseL s.data.toList).1) = s; rw [h2, B_of]⟩
theorem O_no {s : ByteArray} (h : V s = false) : O s = [] := parse_err (by simpa [V] using h)
theorem V_text {l : List Int} (h : okL l) : V (B (textL l)) = true := by
  unfold V
  rw [B_data, parse_text h]
  rfl
theorem O_text {l : List Int} (h : okL l) : O (B (textL l)) = l := by
  unfold O
  rw [B_data, parse_text h]
theorem V_nil : V (B []) = true := rfl
theorem O_nil : O (B []) = [] := rfl
theorem okO (s : ByteArray) : okL (O s) := by
  cases h : V s with
  | true => exact (V_ok h).1
  | false => rw [O_no h]; exact ⟨by simp, by simp⟩
theorem V_eq {a b : ByteArray} (ha : V a = true) (hb : V b = true) (h : O a = O b) : a = b := by
  rw [← (V_ok ha).2, ← (V_ok hb).2, h]

theorem lvalid (s : ByteArray) (hs : s.size ≤ 140737488351232) : lineage_Valid.f s = some (V s) := by
  unfold lineage_Valid.f
  rw [lparse s hs]
  rfl
theorem lords (s : ByteArray) (hs : s.size ≤ 140737488351232) : lineage_Name_Ordinals.f s = some (O s) := by
  unfold lineage_Name_Ordinals.f
  rw [lparse s hs]
  rfl

end Go.Proofs.YtpkiiconadbmfaaDoor.G
