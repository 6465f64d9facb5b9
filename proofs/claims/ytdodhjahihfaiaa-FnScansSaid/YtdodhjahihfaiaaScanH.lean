/- Contracts: a scan's next cell by the reference, any phase; all cells of a list by the reference. -/
import Derived.Test.YtdodhjahihfaiaaScanG
namespace Go.Proofs.Ytdodhjahihfaiaa
open Go.RowKit
set_option linter.unusedVariables false
set_option linter.unusedSimpArgs false

theorem sstep_any (s : Scn) (x : Int) (A : Option Addr) (n c : Nat) (w : World) (h : Rd w A n c s.bs) (hp : 0 ≤ s.ph ∧ s.ph ≤ 7) (hct : 0 ≤ s.ct ∧ s.ct ≤ 15) (hvl : 0 ≤ s.vl ∧ s.vl ≤ 255) (h4 : s.ph = 4 → s.ct ≤ 7) (hn : n ≤ 1048576) (hx : x = 0 ∨ x = 1) :
    Calls Try.prog 88 #[.agg #[.int .i64 s.ph, .int .i64 s.ct, .int .i64 s.vl, .slice A n c], .int .i64 x] w (SpecOut (stepS s x) n w) := by
  obtain ⟨ph, ct, vl, bs⟩ := s
  simp only at hp hct hvl h4 h ⊢
  have : ph = 0 ∨ ph = 1 ∨ ph = 2 ∨ ph = 3 ∨ ph = 4 ∨ ph = 5 ∨ ph = 6 ∨ ph = 7 := by omega
  rcases this with rfl | rfl | rfl | rfl | rfl | rfl | rfl | rfl
  · rcases hx with rfl | rfl
    · rw [show stepS ⟨0, ct, vl, bs⟩ 0 = ⟨1, 1, vl, bs⟩ by simp [stepS]]; exact sstep00 ct vl bs A n c w h hct hvl hn
    · rw [show stepS ⟨0, ct, vl, bs⟩ 1 = ⟨0, ct, vl, bs⟩ by simp [stepS]]; exact sstep01 ct vl bs A n c w h hct hvl hn
  · rcases hx with rfl | rfl
    · by_cases h3 : ct < 15
      · rw [show stepS ⟨1, ct, vl, bs⟩ 0 = ⟨1, ct + 1, vl, bs⟩ by simp [stepS, h3]]; exact sstep10y ct vl bs A n c w h hct hvl hn h3
      · rw [show stepS ⟨1, ct, vl, bs⟩ 0 = ⟨7, ct, vl, bs⟩ by simp [stepS, h3]]; exact sstep10n ct vl bs A n c w h hct hvl hn h3
    · by_cases h3 : 3 ≤ ct
      · rw [show stepS ⟨1, ct, vl, bs⟩ 1 = ⟨2, 0, vl, bs⟩ by simp [stepS, h3]]; exact sstep11y ct vl bs A n c w h hct hvl hn h3
      · rw [show stepS ⟨1, ct, vl, bs⟩ 1 = ⟨7, ct, vl, bs⟩ by simp [stepS, h3]]; exact sstep11n ct vl bs A n c w h hct hvl hn h3
  · rcases hx with rfl | rfl
    · rw [show stepS ⟨2, ct, vl, bs⟩ 0 = ⟨5, ct, vl, bs⟩ by simp [stepS]]; exact sstep20 ct vl bs A n c w h hct hvl hn
    · rw [show stepS ⟨2, ct, vl, bs⟩ 1 = ⟨3, ct, vl, bs⟩ by simp [stepS]]; exact sstep21 ct vl bs A n c w h hct hvl hn
  · rcases hx with rfl | rfl
    · rw [show stepS ⟨3, ct, vl, bs⟩ 0 = ⟨4, 0, 0, bs⟩ by simp [stepS]]; exact sstep30 ct vl bs A n c w h hct hvl hn
    · rw [show stepS ⟨3, ct, vl, bs⟩ 1 = ⟨7, ct, vl, bs⟩ by simp [stepS]]; exact sstep31 ct vl bs A n c w h hct hvl hn
  · have h7 := h4 rfl
    by_cases h3 : ct < 7
    · rw [show stepS ⟨4, ct, vl, bs⟩ x = ⟨4, ct + 1, 2 * vl + x, bs⟩ by simp [stepS, h3]]; exact sstep4y ct vl bs x A n c w h hct hvl hn hx h3
    · obtain rfl : ct = 7 := by omega
      rw [show stepS ⟨4, 7, vl, bs⟩ x = ⟨2, 0, 0, bs ++ [2 * vl + x]⟩ by simp [stepS]]; exact sstep4n vl bs x A n c w h hvl hn hx
  · rcases hx with rfl | rfl
    · rw [show stepS ⟨5, ct, vl, bs⟩ 0 = ⟨7, ct, vl, bs⟩ by simp [stepS]]; exact sstep50 ct vl bs A n c w h hct hvl hn
    · rw [show stepS ⟨5, ct, vl, bs⟩ 1 = ⟨6, ct, vl, bs⟩ by simp [stepS]]; exact sstep51 ct vl bs A n c w h hct hvl hn
  · rcases hx with rfl | rfl
    · rw [show stepS ⟨6, ct, vl, bs⟩ 0 = ⟨7, ct, vl, bs⟩ by simp [stepS]]; exact sstep60 ct vl bs A n c w h hct hvl hn
    · rw [show stepS ⟨6, ct, vl, bs⟩ 1 = ⟨6, ct, vl, bs⟩ by simp [stepS]]; exact sstep61 ct vl bs A n c w h hct hvl hn
  · rw [show stepS ⟨7, ct, vl, bs⟩ x = ⟨7, ct, vl, bs⟩ by simp [stepS]]; exact sstep7 ct vl bs x A n c w h hct hvl hn hx
end Go.Proofs.Ytdodhjahihfaiaa
