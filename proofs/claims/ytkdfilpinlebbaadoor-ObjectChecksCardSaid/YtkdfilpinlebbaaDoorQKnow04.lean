/- This session's texts for the claim, joined and shortened by this session's own program pack.py: what the claim does not need is struck. Part: Know04. -/
import Derived.Test.YtkdfilpinlebbaaDoorQGObj
import Derived.Test.YtkdfilpinlebbaaDoorQFun04c
set_option linter.unusedVariables false
set_option linter.unusedSimpArgs false
namespace Go.Proofs.YtkdfilpinlebbaaDoor.G
open Go.RowKit Go.Proofs.YtkdfilpinlebbaaDoorW.PrintWords Go.Proofs.YtkdfilpinlebbaaDoorW.PrintLast Go.Proofs.YtkdfilpinlebbaaDoorW.PrintMore
theorem natI_small (n : Nat) (h : n < 128) : natI n = [(n : Int)] := by rw [natI, dif_pos h]
theorem itoa_small (d : Nat) (h : d < 10) : Lib.itoa (d : Int) = [UInt8.ofNat (48 + d)] := by
  rw [itoa_nn (by omega), Int.toNat_natCast, Lib.decDigits, dif_pos h]
def x1 : Nm := ⟨8, [51, 46, 49], 2, 5, []⟩
theorem chk1 : chk x1 = 0 := by kernel_rfl
theorem enc1 : encI x1 = [8, 3, 51, 46, 49, 2, 5] := by
  show natI 8 ++ ((natI 3 ++ bytI [51, 46, 49]) ++ (natI 2 ++ (natI 5 ++ []))) = _
  rw [natI_small 8 (by decide), natI_small 3 (by decide), natI_small 2 (by decide), natI_small 5 (by decide)]
  rfl
theorem str1 : str x1 = [98, 108, 111, 99, 107, 32, 51, 46, 49, 35, 50, 32, 53] := by
  unfold str
  rw [if_pos chk1]
  show kword 8 ++ ((32 :: [51, 46, 49]) ++ ((35 :: Lib.itoa 2) ++ ((32 :: Lib.itoa 5) ++ []))) = _
  have e2 : Lib.itoa (2 : Int) = [50] := itoa_small 2 (by decide)
  have e5 : Lib.itoa (5 : Int) = [53] := itoa_small 5 (by decide)
  rw [e2, e5]
  rfl
def x2 : Nm := ⟨10, [], 0, 0, []⟩
theorem chk2 : chk x2 = 0 := by kernel_rfl
def s2 : List UInt8 := [108, 105, 115, 116, 105, 110, 103, 32, 48, 35, 48]
theorem strL2 : strL x2 = s2 := by
  show kword 10 ++ ((32 :: [48]) ++ ((35 :: Lib.itoa 0) ++ ([] ++ []))) = _
  have e0 : Lib.itoa (0 : Int) = [48] := itoa_small 0 (by decide)
  rw [e0]
  rfl
theorem guess2 : guessO s2 = x2 := by rw [← strL2]; exact (guess_str chk2).1
def s3 : List UInt8 := [112, 97, 103, 101, 32, 51, 46, 49, 32, 54, 52]
def x3 : Nm := ⟨3, [51, 46, 49], 0, 64, []⟩
theorem guess3 : guessO s3 = x3 := by kernel_rfl
theorem chk3 : chk x3 = 2 := by kernel_rfl
theorem encode1 : g_Encode.f 8 (⟨#[51, 46, 49]⟩ : ByteArray) 2 5 (⟨#[]⟩ : ByteArray) = some (⟨#[8, 3, 51, 46, 49, 2, 5]⟩, 0) := by
  unfold g_Encode.f
  rw [if_pos (by decide), if_pos (by decide)]
  show (if chk x1 = 0 then some (strOfNums (encI x1), (0 : Int)) else some ((⟨#[]⟩ : ByteArray), chk x1)) = _
  rw [if_pos chk1, enc1]
  rfl
theorem string1 : g_String.f 8 (⟨#[51, 46, 49]⟩ : ByteArray) 2 5 (⟨#[]⟩ : ByteArray) = some ⟨#[98, 108, 111, 99, 107, 32, 51, 46, 49, 35, 50, 32, 53]⟩ := by
  unfold g_String.f
  rw [if_pos (by decide), if_pos (by decide)]
  show some (⟨(str x1).toArray⟩ : ByteArray) = _
  rw [str1]
theorem string2 : g_String.f 10 (⟨#[]⟩ : ByteArray) 0 0 (⟨#[]⟩ : ByteArray) = some ⟨s2.toArray⟩ := by
  unfold g_String.f
  rw [if_pos (by decide), if_pos (by decide)]
  show some (⟨(str x2).toArray⟩ : ByteArray) = _
  unfold str
  rw [if_pos chk2, strL2]
theorem string3 : g_String.f 3 (⟨#[51, 46, 49]⟩ : ByteArray) 0 64 (⟨#[]⟩ : ByteArray) = some ⟨#[]⟩ := by
  unfold g_String.f
  rw [if_pos (by decide), if_pos (by decide)]
  show some (⟨(str x3).toArray⟩ : ByteArray) = _
  unfold str
  rw [if_neg (by rw [chk3]; decide)]
theorem gguess2 : g_guess.f (⟨#[108, 105, 115, 116, 105, 110, 103, 32, 48, 35, 48]⟩ : ByteArray) = some (10, ⟨#[]⟩, 0, 0, ⟨#[]⟩) := by
  unfold g_guess.f
  rw [if_pos ⟨by decide, show Asc s2 by decide⟩]
  show some ((guessO s2).k, (⟨(guessO s2).o.toArray⟩ : ByteArray), (guessO s2).n, (guessO s2).i, (⟨(guessO s2).t.toArray⟩ : ByteArray)) = _
  rw [guess2]
  rfl
theorem gguess3 : g_guess.f (⟨#[112, 97, 103, 101, 32, 51, 46, 49, 32, 54, 52]⟩ : ByteArray) = some (3, ⟨#[51, 46, 49]⟩, 0, 64, ⟨#[]⟩) := by
  unfold g_guess.f
  rw [if_pos ⟨by decide, show Asc s3 by decide⟩]
  show some ((guessO s3).k, (⟨(guessO s3).o.toArray⟩ : ByteArray), (guessO s3).n, (guessO s3).i, (⟨(guessO s3).t.toArray⟩ : ByteArray)) = _
  rw [guess3]
  rfl
end Go.Proofs.YtkdfilpinlebbaaDoor.G
