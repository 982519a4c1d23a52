/- UtfdForms: bytes that are runes, and bytes that are none, are told: for every number of a row, without a condition. -/
import Derived.Test.YtdfklcbcidopfaaPUtfdFormsx5
import Derived.Test.YtdfklcbcidopfaaKit
import Derived.KernelRfl
import Derived.Test.YtdfklcbcidopfaaWSized
namespace Go.Proofs.Ytdfklcbcidopfaa
/-- The printed row names this lemma so. -/
abbrev PrintWords.sized_ints := @Go.Proofs.YtdfklcbcidopfaaW.PrintWords.sized_ints
end Go.Proofs.Ytdfklcbcidopfaa
namespace Go.Proofs.Ytdfklcbcidopfaa.Pure
open Go.RowKit Go.Proofs.Ytdfklcbcidopfaa.PUtfdForms Go.Proofs.YtdfklcbcidopfaaW.PrintWords Go.Proofs.YtdfklcbcidopfaaW.PrintLast
def tab : List S22 := ([(⟨(⟨#[97]⟩ : ByteArray), (⟨#[97]⟩ : ByteArray)⟩ : S22), (⟨(⟨#[0]⟩ : ByteArray), (⟨#[0]⟩ : ByteArray)⟩ : S22), (⟨(⟨#[195, 169]⟩ : ByteArray), (⟨#[195, 169]⟩ : ByteArray)⟩ : S22), (⟨(⟨#[226, 130, 172]⟩ : ByteArray), (⟨#[226, 130, 172]⟩ : ByteArray)⟩ : S22), (⟨(⟨#[240, 159, 152, 128]⟩ : ByteArray), (⟨#[240, 159, 152, 128]⟩ : ByteArray)⟩ : S22), (⟨(⟨#[192, 128]⟩ : ByteArray), (⟨#[239, 191, 189]⟩ : ByteArray)⟩ : S22), (⟨(⟨#[193, 191]⟩ : ByteArray), (⟨#[239, 191, 189]⟩ : ByteArray)⟩ : S22), (⟨(⟨#[224, 128, 128]⟩ : ByteArray), (⟨#[239, 191, 189]⟩ : ByteArray)⟩ : S22), (⟨(⟨#[224, 159, 191]⟩ : ByteArray), (⟨#[239, 191, 189]⟩ : ByteArray)⟩ : S22), (⟨(⟨#[237, 160, 128]⟩ : ByteArray), (⟨#[239, 191, 189]⟩ : ByteArray)⟩ : S22), (⟨(⟨#[240, 128, 128, 128]⟩ : ByteArray), (⟨#[239, 191, 189]⟩ : ByteArray)⟩ : S22), (⟨(⟨#[244, 143, 191, 191]⟩ : ByteArray), (⟨#[244, 143, 191, 191]⟩ : ByteArray)⟩ : S22), (⟨(⟨#[244, 144, 128, 128]⟩ : ByteArray), (⟨#[239, 191, 189]⟩ : ByteArray)⟩ : S22), (⟨(⟨#[247, 191, 191, 191]⟩ : ByteArray), (⟨#[239, 191, 189]⟩ : ByteArray)⟩ : S22), (⟨(⟨#[248]⟩ : ByteArray), (⟨#[239, 191, 189]⟩ : ByteArray)⟩ : S22), (⟨(⟨#[255, 254]⟩ : ByteArray), (⟨#[239, 191, 189, 239, 191, 189]⟩ : ByteArray)⟩ : S22), (⟨(⟨#[128]⟩ : ByteArray), (⟨#[239, 191, 189]⟩ : ByteArray)⟩ : S22), (⟨(⟨#[195]⟩ : ByteArray), (⟨#[239, 191, 189]⟩ : ByteArray)⟩ : S22), (⟨(⟨#[195, 97]⟩ : ByteArray), (⟨#[239, 191, 189, 97]⟩ : ByteArray)⟩ : S22), (⟨(⟨#[226, 130]⟩ : ByteArray), (⟨#[239, 191, 189]⟩ : ByteArray)⟩ : S22), (⟨(⟨#[226, 130, 195, 169]⟩ : ByteArray), (⟨#[239, 191, 189, 195, 169]⟩ : ByteArray)⟩ : S22), (⟨(⟨#[226, 195, 169, 97]⟩ : ByteArray), (⟨#[239, 191, 189, 195, 169, 97]⟩ : ByteArray)⟩ : S22), (⟨(⟨#[239, 191, 189]⟩ : ByteArray), (⟨#[239, 191, 189]⟩ : ByteArray)⟩ : S22)] : List (S22))
theorem tab_len : tab.length = 23 := by decide +kernel
theorem rows_all : ∀ t : Fin 23, polyptychlaw1_UtfdForms.l0 30 ([] : List Int) 0 ((rd_T22 tab (t.val : Int)).f0) ((rd_T22 tab (t.val : Int)).f1) 0 0 0 = some true := by decide +kernel
theorem UtfdForms : polyptychlaw1_UtfdForms.Pure := by
  intro a hw
  have h : 0 ≤ Go.bits .and .i64 a 255 ∧ Go.bits .and .i64 a 255 ≤ 255 := Go.Proofs.YtdfklcbcidopfaaKit.and_range 8 (by omega) a
  have e : (Go.bits .and .i64 a 255).tmod 23 = Go.bits .and .i64 a 255 % 23 := Int.tmod_eq_emod_of_nonneg h.1
  refine ⟨30, ?_⟩
  show (if (tab.length : Int) = 0 then none else (if 0 ≤ (Int.tmod (Go.bits .and .i64 a 255) (tab.length : Int)) then (if (Int.tmod (Go.bits .and .i64 a 255) (tab.length : Int)) < (tab.length : Int) then (polyptychlaw1_UtfdForms.l0 30 ([] : List Int) 0 ((rd_T22 tab (Int.tmod (Go.bits .and .i64 a 255) (tab.length : Int))).f0) ((rd_T22 tab (Int.tmod (Go.bits .and .i64 a 255) (tab.length : Int))).f1) 0 0 0) else (none)) else (none))) = some true
  rw [tab_len, show ((23 : Nat) : Int) = 23 from rfl, e]
  have := rows_all ⟨(Go.bits .and .i64 a 255 % 23).toNat, by omega⟩
  simp only [Int.toNat_of_nonneg (show 0 ≤ Go.bits .and .i64 a 255 % 23 by omega)] at this
  rw [if_neg (by omega), if_pos (by omega), if_pos (by omega)]
  exact this

end Go.Proofs.Ytdfklcbcidopfaa.Pure
