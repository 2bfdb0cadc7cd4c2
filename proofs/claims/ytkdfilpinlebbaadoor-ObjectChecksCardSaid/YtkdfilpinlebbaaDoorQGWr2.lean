/- This session's texts for the claim, joined and shortened by this session's own program pack.py: what the claim does not need is struck. Part: GWr2. -/
import Derived.Test.YtkdfilpinlebbaaDoorQGWr
import Derived.Test.YtkdfilpinlebbaaDoorQPN1
set_option linter.unusedVariables false
set_option linter.unusedSimpArgs false
namespace Go.Proofs.YtkdfilpinlebbaaDoor.G
open Go.RowKit Go.Lib Go.Proofs.YtkdfilpinlebbaaDoorW.PrintWords Go.Proofs.YtkdfilpinlebbaaDoorW.PrintMore Go.Proofs.YtkdfilpinlebbaaDoorW.PrintLast Go.Proofs.YtkdfilpinlebbaaDoor.PN
theorem ev_pos {α : Type} {c : Prop} [Decidable c] {f g : Nat → Option α} {r : α} (h : c) (k : Ev f r) : Ev (fun n => if c then f n else g n) r := k.congr (fun n => if_pos h)
theorem ev_neg {α : Type} {c : Prop} [Decidable c] {f g : Nat → Option α} {r : α} (h : ¬ c) (k : Ev g r) : Ev (fun n => if c then f n else g n) r := k.congr (fun n => if_neg h)
set_option maxRecDepth 100000 in
theorem bit128 : ∀ n : Nat, n < 256 → Go.bits .or .u8 (n : Int) 128 = ((n % 128 + 128 : Nat) : Int) := by decide
theorem nat_loop : ∀ (m n : Nat) (X : List Int), n ≤ m → X.length + n ≤ X.length + m → X.length + (natI n).length ≤ 100000000 → Ev (fun k => codec_natural.l0 k (n : Int) X) (X ++ natI n) := by
  intro m
  induction m using Nat.strongRecOn with
  | ind m ih =>
    intro n X hn _ hl
    by_cases h : n < 128
    · rw [natI, dif_pos h] at hl ⊢
      refine Ev.step (fun k => by rw [codec_natural.l0]) ?_
      refine ev_neg (by omega) (ev_pos (by simp at hl; omega) ?_)
      have e : (n : Int) % 256 = (n : Int) := by omega
      rw [e]
      exact Ev.now _
    · rw [natI, dif_neg h] at hl ⊢
      have hl' : X.length + 1 + (natI (n / 128)).length ≤ 100000000 := by simp at hl; omega
      refine Ev.step (fun k => by rw [codec_natural.l0]) ?_
      refine ev_pos (by omega) (ev_pos (by omega) ?_)
      have e1 : (n : Int) / 128 = ((n / 128 : Nat) : Int) := by omega
      have e2 : (n : Int) % 256 = ((n % 256 : Nat) : Int) := by omega
      have e3 : n % 256 % 128 = n % 128 := by omega
      rw [e1, e2, bit128 _ (by omega), e3]
      have := ih (m - 1) (by omega) (n / 128) (X ++ [((n % 128 + 128 : Nat) : Int)]) (by omega) (by omega) (by simp; omega)
      rw [List.append_assoc] at this
      exact this
theorem nat_ev (n : Nat) (hl : (natI n).length ≤ 100000000) : Ev (fun k => codec_natural.f k (n : Int)) (natI n) :=
  Ev.congr (fun k => by rw [codec_natural.f]) (by simpa using nat_loop n n [] (Nat.le_refl _) (Nat.le_refl _) (by simpa using hl))
def WS (bw : Nat) (L : List Int) (wx : World) : Prop := ∃ v, wx.heap[bw]? = some (.cells #[v, .int .i64 0] 100 (0, 0)) ∧ wx.ownsRow bw 5 1 v L.length (nums .u8 L) ∧ v.ownBlock ≠ some bw
theorem WS.below {bw : Nat} {L : List Int} {wx wy : World} (h : WS bw L wx) (hb : Below wx.heap.size wx wy) : WS bw L wy := by
  obtain ⟨v, h1, h2, h3⟩ := h
  exact ⟨v, (hb.block _ (wlt h1)).trans h1, pw_own_below h2 hb, h3⟩
theorem WS.lt {bw : Nat} {L : List Int} {wx : World} (h : WS bw L wx) : bw < wx.heap.size := by
  obtain ⟨v, h1, _⟩ := h
  exact wlt h1
theorem WS.wb {bw : Nat} {L : List Int} {wx wy : World} (h : WS bw L wx) (hb : Below wx.heap.size wx wy) : ∃ v, WB bw L (fun k => wx.heap.size ≤ k ∧ k < wy.heap.size) wy v := by
  obtain ⟨v, h1, h2, h3⟩ := h
  exact ⟨v, (hb.block _ (wlt h1)).trans h1, pw_own_below h2 hb, h3, fun k hk hf => by have := own_lt h2 k hk; omega⟩
theorem wbws {bw : Nat} {L : List Int} {far : Nat → Prop} {wx : World} (h : ∃ v, WB bw L far wx v) : WS bw L wx := by
  obtain ⟨v, h⟩ := h
  exact ⟨v, h.c, h.own, h.ne⟩
set_option maxHeartbeats 2000000 in
theorem number_w (bw n : Nat) (L : List Int) (wx : World) (h : WS bw L wx) (hn : n ≤ 1073741824) (hl : L.length + (natI n).length ≤ 100000000) :
    Calls Tryd.prog 44 #[.pointer (some ⟨bw, 0, none⟩), .int .i64 (n : Int)] wx fun e w' => e = .returned (.tuple #[]) ∧ Aside (WS bw (L ++ natI n) w') ∧ Aside (Below bw wx w') := by
  obtain ⟨k, hk⟩ := (nat_ev n (by omega)).rounds
  have hnat := codec_natural.calls k (n : Int) (natI n) wx hk
  have hwr := fun (w1 : World) (hb : Below wx.heap.size wx w1) (A : Option Addr) (c : Nat) (hr : Kd.R (Kd.int .u8) 5 w1 wx.heap.size (fun _ => True) (.slice A (natI n).length c) (natI n)) =>
    show Calls Tryd.prog 66 #[.pointer (some ⟨bw, 0, none⟩), .int .i64 0, .slice (some ⟨w1.heap.size, 0, none⟩) 1 1] (w1.alloc (.cells #[.slice A (natI n).length c] 57)) (fun e w' => e = .returned (.tuple #[]) ∧ Aside (WS bw (L ++ natI n) w') ∧ Aside (Below bw wx w')) from by
      have hb2 : Below wx.heap.size wx (w1.alloc (.cells #[.slice A (natI n).length c] 57)) := hb.alloc hb.size _
      obtain ⟨v, hv⟩ := h.wb hb2
      have hPS : PS bw w1.heap.size [⟨A, c, natI n⟩] (fun k => wx.heap.size ≤ k ∧ k < (w1.alloc (.cells #[.slice A (natI n).length c] 57)).heap.size) (w1.alloc (.cells #[.slice A (natI n).length c] 57)) := by
        refine ⟨heap_alloc_new w1 _, ?_, ⟨hb.size, by simp⟩, ?_, fun k hk => ⟨hk.2, by have := h.lt; omega⟩⟩
        · intro p hp
          obtain rfl : p = ⟨A, c, natI n⟩ := by simpa using hp
          exact (Kd.reads_of_C (enc := Value.int .u8) (d := (0 : Int)) (h1 := fun _ => rfl) (Kd.R_reads' hr).2.2).below ((Below.refl _ w1).alloc (Nat.le_refl _) _)
        · intro p hp ad hA hpos
          obtain rfl : p = ⟨A, c, natI n⟩ := by simpa using hp
          obtain ⟨inner, ho⟩ := Kd.R_own hr
          have hA' : A = some ad := hA
          subst hA'
          have h1 := own_base ho ad.block rfl
          have h2 := own_lt ho ad.block rfl
          exact ⟨h1, by simp; omega⟩
      refine (write_calls bw w1.heap.size L [⟨A, c, natI n⟩] _ _ v hv hPS (by simpa [bytesOfPs] using hl) (by simp)).mono ?_
      rintro e w' ⟨rfl, h1, h2⟩
      refine ⟨rfl, by have := wbws h1.out; show WS bw (L ++ natI n) w'; simpa [bytesOfPs] using this, ?_⟩
      exact (hb2.mono (Nat.le_of_lt h.lt)).trans h2.out
  clear hk h
  have hnn : ¬ (n : Int) < 0 := by omega
  go_enter Tryd.func44, Tryd.ntmps44
  go_wp2_with (first | (go_at_call 67; refine hnat.mono ?_; rintro e w1 ⟨v0, rfl, hR, hb⟩; obtain ⟨A, c, rfl⟩ := Kd.R_slice hR; have hw := hwr w1 hb A c hR; clear hwr hR) | (go_at_call 66; refine hw.mono ?_; rintro e w2 ⟨rfl, h1, h2⟩))
  go_end0
  exact ⟨rfl, h1, h2⟩
set_option maxHeartbeats 2000000 in
theorem text_w (bw : Nat) (s : ByteArray) (L : List Int) (wx : World) (h : WS bw L wx) (hn : s.size ≤ 1000000) (hl : L.length + (natI s.size).length + s.size ≤ 100000000) :
    Calls Tryd.prog 45 #[.pointer (some ⟨bw, 0, none⟩), .string s] wx fun e w' => e = .returned (.tuple #[]) ∧ Aside (WS bw (L ++ (natI s.size ++ bytesOf s)) w') ∧ Aside (Below bw wx w') := by
  obtain ⟨k, hk⟩ := (nat_ev s.size (by omega)).rounds
  have hnat := codec_natural.calls k (s.size : Int) (natI s.size) wx hk
  have hwr := fun (w1 : World) (hb : Below wx.heap.size wx w1) (A : Option Addr) (c c2 : Nat) (hr : Kd.R (Kd.int .u8) 5 w1 wx.heap.size (fun _ => True) (.slice A (natI s.size).length c) (natI s.size)) =>
    show Calls Tryd.prog 66 #[.pointer (some ⟨bw, 0, none⟩), .int .i64 0, .slice (some ⟨(Lib.bytesWorld w1 5 s).heap.size, 0, none⟩) 2 2] ((Lib.bytesWorld w1 5 s).alloc (.cells #[.slice A (natI s.size).length c, .slice (some ⟨w1.heap.size, 0, none⟩) s.size c2] 57)) (fun e w' => e = .returned (.tuple #[]) ∧ Aside (WS bw (L ++ (natI s.size ++ bytesOf s)) w') ∧ Aside (Below bw wx w')) from by
      have hb1 : Below wx.heap.size wx (Lib.bytesWorld w1 5 s) := bytes_below hb hb.size 5 s
      have hbs : (Lib.bytesWorld w1 5 s).heap.size = w1.heap.size + 1 := Lib.bytesWorld_size w1 5 s
      have hb2 : Below wx.heap.size wx ((Lib.bytesWorld w1 5 s).alloc (.cells #[.slice A (natI s.size).length c, .slice (some ⟨w1.heap.size, 0, none⟩) s.size c2] 57)) := hb1.alloc hb1.size _
      have hsz2 : ((Lib.bytesWorld w1 5 s).alloc (.cells #[.slice A (natI s.size).length c, .slice (some ⟨w1.heap.size, 0, none⟩) s.size c2] 57)).heap.size = w1.heap.size + 2 := by
        show ((Lib.bytesWorld w1 5 s).heap.push _).size = _
        rw [Array.size_push, hbs]
      have hby : (bytesOf s).length = s.size := bytesOf_length s
      obtain ⟨v, hv⟩ := h.wb hb2
      have hPS : PS bw (Lib.bytesWorld w1 5 s).heap.size [⟨A, c, natI s.size⟩, ⟨some ⟨w1.heap.size, 0, none⟩, c2, bytesOf s⟩] (fun k => wx.heap.size ≤ k ∧ k < ((Lib.bytesWorld w1 5 s).alloc (.cells #[.slice A (natI s.size).length c, .slice (some ⟨w1.heap.size, 0, none⟩) s.size c2] 57)).heap.size)
          ((Lib.bytesWorld w1 5 s).alloc (.cells #[.slice A (natI s.size).length c, .slice (some ⟨w1.heap.size, 0, none⟩) s.size c2] 57)) := by
        refine ⟨?_, ?_, ⟨hb1.size, by rw [hsz2, hbs]; omega⟩, ?_, fun k hk => ⟨hk.2, by have := h.lt; omega⟩⟩
        · have := heap_alloc_new (Lib.bytesWorld w1 5 s) (.cells #[.slice A (natI s.size).length c, .slice (some ⟨w1.heap.size, 0, none⟩) s.size c2] 57)
          rw [this]
          simp [PartV.v, hby]
        · intro p hp
          have hp' : p = ⟨A, c, natI s.size⟩ ∨ p = ⟨some ⟨w1.heap.size, 0, none⟩, c2, bytesOf s⟩ := by simpa using hp
          rcases hp' with rfl | rfl
          · exact ((Kd.reads_of_C (enc := Value.int .u8) (d := (0 : Int)) (h1 := fun _ => rfl) (Kd.R_reads' hr).2.2).below (bytes_below (Below.refl _ w1) (Nat.le_refl _) 5 s)).below ((Below.refl _ _).alloc (Nat.le_refl _) _)
          · have hrd := bytes_reads w1 5 s (by omega)
            show ReadsInt _ .u8 _ (bytesOf s).length (bytesOf s)
            rw [hby]
            exact hrd.below ((Below.refl _ _).alloc (Nat.le_refl _) _)
        · intro p hp ad hA hpos
          have hp' : p = ⟨A, c, natI s.size⟩ ∨ p = ⟨some ⟨w1.heap.size, 0, none⟩, c2, bytesOf s⟩ := by simpa using hp
          rw [hsz2]
          rcases hp' with rfl | rfl
          · obtain ⟨inner, ho⟩ := Kd.R_own hr
            have hA' : A = some ad := hA
            subst hA'
            have h1 := own_base ho ad.block rfl
            have h2 := own_lt ho ad.block rfl
            exact ⟨h1, by omega⟩
          · have hA' : (⟨w1.heap.size, 0, none⟩ : Addr) = ad := Option.some.inj hA
            subst hA'
            exact ⟨hb.size, by show w1.heap.size < _; omega⟩
      refine (write_calls bw (Lib.bytesWorld w1 5 s).heap.size L [⟨A, c, natI s.size⟩, ⟨some ⟨w1.heap.size, 0, none⟩, c2, bytesOf s⟩] _ _ v hv hPS (by simp [bytesOfPs, hby]; omega) (by simp)).mono ?_
      rintro e w' ⟨rfl, h1, h2⟩
      refine ⟨rfl, by have := wbws h1.out; show WS bw (L ++ (natI s.size ++ bytesOf s)) w'; simpa [bytesOfPs] using this, ?_⟩
      exact (hb2.mono (Nat.le_of_lt h.lt)).trans h2.out
  have kb := fun W => print_bytes (P := Tryd.prog) 9 57 5 Tryd.underlying9 Tryd.underlying57 Tryd.underlying5 s W
  clear hk h
  have hnn : ¬ (16777216 : Int) < (s.size : Int) := by omega
  go_enter Tryd.func45, Tryd.ntmps45
  go_wp2_with (first | (go_at_call 67; refine hnat.mono ?_; rintro e w1 ⟨v0, rfl, hR, hb⟩; obtain ⟨A, c, rfl⟩ := Kd.R_slice hR; have hw := hwr w1 hb A c (grownCap w1 s.size 0 5) hR; clear hwr hR) | (go_at_call 66; refine hw.mono ?_; rintro e w2 ⟨rfl, h1, h2⟩))
  go_end0
  exact ⟨rfl, h1, h2⟩
theorem neww_calls (wx : World) : Calls Tryd.prog 43 #[] wx fun e w' => e = .returned (.pointer (some ⟨wx.heap.size, 0, none⟩)) ∧ w' = wx.alloc (.cells #[.slice none 0 0, .int .i64 0] 100) := by
  go_enter Tryd.func43, Tryd.ntmps43
  go_wp2
  go_ret
  exact ⟨rfl, rfl⟩
theorem ws_new (wx : World) : WS wx.heap.size [] (wx.alloc (.cells #[.slice none 0 0, .int .i64 0] 100)) :=
  ⟨.slice none 0 0, heap_alloc_new wx _, own_nil _ _ _ _, by simp [Value.ownBlock]⟩
set_option maxHeartbeats 2000000 in
theorem bytes_w (bw : Nat) (L : List Int) (wx : World) (h : WS bw L wx) (hl : L.length ≤ 100000000) :
    Calls Tryd.prog 46 #[.pointer (some ⟨bw, 0, none⟩)] wx fun e w' => ∃ A c, e = .returned (.tuple #[.slice A L.length c, .int .i64 0]) ∧ Aside (ReadsInt w' .u8 A L.length L) ∧ Aside (Below wx.heap.size wx w') := by
  obtain ⟨v, h1, h2, h3⟩ := h
  obtain ⟨A0, c0, rfl, hr0⟩ := own_reads h2
  have hc0 : wx.cell? ⟨bw, 0, none⟩ = some (.slice A0 L.length c0) := cell_of_row _ bw 0 _ _ _ h1
  have hc1 : wx.cell? ⟨bw, 1, none⟩ = some (.int .i64 0) := cell_of_row _ bw 1 _ _ _ h1
  have hlt := wlt h1
  have hd0 : ∀ o, (wx.alloc o).cell? ⟨bw, 0, none⟩ = some (.slice A0 L.length c0) := fun o => (((Below.refl wx.heap.size wx).alloc (Nat.le_refl _) o).cell hlt).trans hc0
  have hR : Aside (∀ o, ReadsInt (wx.alloc o) .u8 A0 L.length L) := fun o => hr0.below ((Below.refl _ _).alloc (Nat.le_refl _) o)
  have hO : Aside ((wx.alloc (.cells #[] 5)).ownsRow wx.heap.size 5 1 (.slice (some ⟨wx.heap.size, 0, none⟩) 0 0) ([] : List Int).length (nums .u8 [])) :=
    ⟨by simp [nums], .inr ⟨wx.heap.size, 0, #[], rfl, Nat.le_refl _, heap_alloc_new wx _, Nat.le_refl _, by unfold maxLen; decide, rfl, rfl⟩⟩
  clear h1 h2 h3 hr0 hlt
  go_enter Tryd.func46, Tryd.ntmps46
  go_wp2_with (first | ((with_reducible refine gate_builtin (b := .append) (xs := #[.tmp 17, .tmp 21]) rfl ?_); go_loud (at_builtin; refine print_append_row (w0 := wx) wx.heap.size rfl (.tmp 17) (.tmp 21) 57 5 .u8 1 rfl Tryd.underlying57 info5w (by decide) (.slice (some ⟨wx.heap.size, 0, none⟩) 0 0) [] L A0 L.length c0 rfl rfl hO.out (hR.out _) ((Below.refl _ _).alloc (Nat.le_refl _) _) (by simp) (by simp; omega) ?_; intro v1 w1 ho hb hg hat; obtain ⟨A1, c1, rfl, hrd⟩ := own_reads ho; have HRD := Aside.mkw hrd; have HB := Aside.mkw hb; clear ho hb hg hat hrd)))
  refine bodyPost_ret (v := .tuple #[.slice A1 L.length c1, .int .i64 0]) (by simp [results, Tryd.f46]) rfl ?_
  exact ⟨A1, c1, rfl, HRD.out, HB.out⟩
end Go.Proofs.YtkdfilpinlebbaaDoor.G
