/- Covers: from the row's slice of names to the walk. -/
import Derived.Test.YtpkiiconadbmfaaDoorLaw03v
set_option linter.unusedVariables false
set_option linter.unusedSimpArgs false
namespace Go.Proofs.YtpkiiconadbmfaaDoor.G
open Go.RowKit Go.Proofs.YtpkiiconadbmfaaDoorW.PrintWords Go.Proofs.YtpkiiconadbmfaaDoorW.PrintLast Go.Proofs.YtpkiiconadbmfaaDoorW.PrintMore Go.Proofs.YtpkiiconadbmfaaDoor.PA

/-- What a row's slice of strings is in memory. -/
def IsRowS (w : World) (a : Option Addr) (len cap : Nat) (zs : List ByteArray) : Prop :=
  (a = none ∧ len = 0 ∧ cap = 0 ∧ zs = []) ∨
  ∃ x, a = some x ∧ len ≤ cap ∧ cap ≤ maxLen ∧ zs.length = cap ∧ (∀ i, i < zs.length → w.cell? (x.add i) = some (.string (zs.getD i ByteArray.empty)))
def _root_.Go.Proofs.YtpkiiconadbmfaaDoor.PA.replevinlaw03_LineageCovers.Pure : Prop := ∀ (l0 : List ByteArray) (a1 : ByteArray), ∃ k, replevinlaw03_LineageCovers.f k l0 a1 = some true
theorem LineageCovers_pure : replevinlaw03_LineageCovers.Pure := fun l0 a1 => (LineageCovers_ev l0 a1).rounds
theorem _root_.Go.Proofs.YtpkiiconadbmfaaDoor.PA.replevinlaw03_LineageCovers.walk (P : replevinlaw03_LineageCovers.Pure) (a0 : Option Addr) (len0 cap0 : Nat) (z0 : List ByteArray) (a1 : ByteArray) (w : World) (w0 : IsRowS w a0 len0 cap0 z0) (w1 : a1.size ≤ 140737488351232) (hgg : GG w) :
    Calls Tryd.prog 9 #[.slice a0 len0 cap0, .string a1] w fun e w' => e = .returned (.bool true) ∧ Below w.heap.size w w' := by
  rcases w0 with ⟨rfl, rfl, rfl, rfl⟩ | ⟨x, rfl, hl, hm, hz, hc⟩
  · obtain ⟨k, hk⟩ := P [] a1
    exact replevinlaw03_LineageCovers.calls k none 0 [] a1 true w (Kd.C_of_reads (d := ByteArray.empty) ⟨rfl, Nat.zero_le _, fun hh => absurd hh (Nat.lt_irrefl _)⟩) (Nat.le_refl _) hk hgg
  · obtain ⟨k, hk⟩ := P (z0.take len0) a1
    have hlen : (z0.take len0).length = len0 := by rw [List.length_take]; omega
    have hcall := replevinlaw03_LineageCovers.calls k (some x) cap0 (z0.take len0) a1 true w (Kd.C_of_reads (d := ByteArray.empty) ⟨rfl, by rw [hlen]; unfold maxLen at hm; omega, fun _ => ⟨x, rfl, fun j hj => by
      rw [hlen] at hj
      rw [hc j (by omega)]
      have : (z0.take len0).getD j ByteArray.empty = z0.getD j ByteArray.empty := by
        rw [List.getD_eq_getElem?_getD, List.getD_eq_getElem?_getD, List.getElem?_take_of_lt hj]
      rw [this]⟩⟩) (by rw [hlen]; exact hl) hk hgg
    rw [hlen] at hcall
    exact hcall
end Go.Proofs.YtpkiiconadbmfaaDoor.G
