/- Contracts: MiddleSamples. -/
import Derived.Test.YtopccpnkokdmiaaBits
import Derived.Test.YtopccpnkokdmiaaCopy
import Derived.Test.YtopccpnkokdmiaaAppend
namespace Go.Proofs.Ytopccpnkokdmiaa
open Go.RowKit
set_option linter.unusedVariables false
set_option linter.unusedSimpArgs false

/-- the code of a function that only asks for bits -/
def bitsC (zs : List Int) : Int := if bitsB zs then 0 else 1
theorem bitsC_yes {zs : List Int} (h : bitsB zs = true) : 0 = bitsC zs := by simp [bitsC, h]
theorem bitsC_no {zs : List Int} (h : bitsB zs = false) : 1 = bitsC zs := by simp [bitsC, h]
theorem bits_len {zs : List Int} (h : bitsB zs = true) : zs.length ≤ 8192 := by
  have : zs.length ≤ 8192 ∧ allB 0 1 zs = true := by simpa [bitsB, upB] using h
  exact this.1
theorem bits_all {zs : List Int} (h : bitsB zs = true) : allB 0 1 zs = true := by
  have : zs.length ≤ 8192 ∧ allB 0 1 zs = true := by simpa [bitsB, upB] using h
  exact this.2

/-- the first k middle samples -/
def mids (zs : List Int) (k : Nat) : List Int := (List.range k).map (fun (j : Nat) => nth zs (4 + 8 * j))
theorem mids_succ (zs : List Int) (k : Nat) : mids zs (k + 1) = mids zs k ++ [nth zs (4 + 8 * k)] := by simp [mids, List.range_succ]
def midR (zs : List Int) : List Int := if bitsB zs then mids zs ((zs.length + 3) / 8) else []
theorem midR_yes {zs : List Int} (h : bitsB zs = true) : midR zs = mids zs ((zs.length + 3) / 8) := by simp [midR, h]
theorem midR_no {zs : List Int} (h : bitsB zs = false) : midR zs = [] := by simp [midR, h]

theorem iMiddleSamples_c (A : Option Addr) (n c : Nat) (zs : List Int) (w : World) (h : Rd w A n c zs) (hn : n ≤ 1048576) :
    Calls Try.prog 38 #[.slice A n c] w fun e w' => ∃ A' n' c', e = .returned (.tuple #[.slice A' n' c', .int .i64 (bitsC zs)]) ∧ Own w' w.heap.size A' n' c' (midR zs) ∧ Below w.heap.size w w' ∧ n' ≤ 1048576 := by
  have hlen := h.le
  have hcap := h.cap
  by_cases hb : bitsB zs = true
  · have h8 := bits_len hb
    have hC := hide (bitsC_yes hb)
    have hR := hide (midR_yes hb)
    go_enter Try.func38, Try.ntmps38
    go_wp2_with (go_at_call 100; refine (iIsBits_any _ _ _ zs _ h).mono ?_; rintro e w' ⟨rfl, rfl⟩)
    go_loopw [4, 5] (fun v i wr => ∃ (k : Nat) (A' : Option Addr) (c' : Nat), 8 * k ≤ n + 3 ∧ v = .slice A' k c' ∧ i = .int .i64 (4 + 8 * k) ∧ Own wr w.heap.size A' k c' (mids zs k) ∧ Below w.heap.size w wr) (fun _ i _ => n + 8 - (intOf i).toNat)
    case atStart => exact ⟨0, _, _, by omega, rfl, rfl, Own.empty w (Nat.le_refl _), (Below.refl _ _).alloc (Nat.le_refl _) _⟩
    case round =>
      obtain ⟨k, A', c', hk, rfl, rfl, hown, hbel⟩ := hrel
      by_cases hlt : 4 + 8 * k < n
      · obtain ⟨b, off, rfl, hbb, hc⟩ := h.at_ (by omega)
        have hck := (hbel.cell (p := ⟨b, off + (4 + 8 * k), none⟩) hbb).trans (hc (4 + 8 * k) hlt)
        have hi := h.i64.get (4 + 8 * k)
        have hsz := hbel.size
        clear hc
        go_wp2_with (at_builtin; refine append_new rfl _ _ rfl w.heap.size rfl hown _ [nth zs (4 + 8 * k)] 1 rfl (I64.one hi.1 hi.2) rfl rfl (by omega) hsz ?_; intro A2 c2 w2 own2 gr2)
        have hb2 := below_mark hbel hown (Nat.le_refl _) gr2
        rw [← mids_succ] at own2
        go_roundw
        case rel => exact ⟨k + 1, A2, c2, by omega, rfl, by go_num, own2, hb2⟩
        case measure => simp [intOf]; omega
      · have hk' : k = (zs.length + 3) / 8 := by omega
        have hfin : Own wr w.heap.size A' k c' (midR zs) := by rw [hR.out, ← hk']; exact hown
        go_wp2
        go_ret2
        exact ⟨A', k, c', ret_sc hC.out, hfin, hbel, by omega⟩
  · have hb : bitsB zs = false := by simpa using hb
    have hC := hide (bitsC_no hb)
    have hR := hide (midR_no hb)
    go_enter Try.func38, Try.ntmps38
    go_wp2_with (go_at_call 100; refine (iIsBits_any _ _ _ zs _ h).mono ?_; rintro e w' ⟨rfl, rfl⟩)
    go_ret2
    exact ⟨none, 0, 0, ret_sc hC.out, by rw [hR.out]; exact Own.nil _ _, Below.refl _ _, by omega⟩
theorem sMiddleSamples_c (A : Option Addr) (n c : Nat) (zs : List Int) (w : World) (h : Rd w A n c zs) (hn : n ≤ 1048576) :
    Calls Try.prog 37 #[.slice A n c] w fun e w' => ∃ A' n' c', e = .returned (.tuple #[.slice A' n' c', .int .i64 (bitsC zs)]) ∧ Own w' w.heap.size A' n' c' (midR zs) ∧ Below w.heap.size w w' ∧ n' ≤ 1048576 := by
  have hlen := h.le
  have hcap := h.cap
  by_cases hb : bitsB zs = true
  · have h8 := bits_len hb
    have hC := hide (bitsC_yes hb)
    have hR := hide (midR_yes hb)
    go_enter Try.func37, Try.ntmps37
    go_wp2_with (go_at_call 99; refine (sIsBits_any _ _ _ zs _ h).mono ?_; rintro e w' ⟨rfl, rfl⟩)
    go_loopw [4, 5] (fun v i wr => ∃ (k : Nat) (A' : Option Addr) (c' : Nat), 8 * k ≤ n + 3 ∧ v = .slice A' k c' ∧ i = .int .i64 (4 + 8 * k) ∧ Own wr w.heap.size A' k c' (mids zs k) ∧ Below w.heap.size w wr) (fun _ i _ => n + 8 - (intOf i).toNat)
    case atStart => exact ⟨0, _, _, by omega, rfl, rfl, Own.empty w (Nat.le_refl _), (Below.refl _ _).alloc (Nat.le_refl _) _⟩
    case round =>
      obtain ⟨k, A', c', hk, rfl, rfl, hown, hbel⟩ := hrel
      by_cases hlt : 4 + 8 * k < n
      · obtain ⟨b, off, rfl, hbb, hc⟩ := h.at_ (by omega)
        have hck := (hbel.cell (p := ⟨b, off + (4 + 8 * k), none⟩) hbb).trans (hc (4 + 8 * k) hlt)
        have hi := h.i64.get (4 + 8 * k)
        have hsz := hbel.size
        clear hc
        go_wp2_with (at_builtin; refine append_new rfl _ _ rfl w.heap.size rfl hown _ [nth zs (4 + 8 * k)] 1 rfl (I64.one hi.1 hi.2) rfl rfl (by omega) hsz ?_; intro A2 c2 w2 own2 gr2)
        have hb2 := below_mark hbel hown (Nat.le_refl _) gr2
        rw [← mids_succ] at own2
        go_roundw
        case rel => exact ⟨k + 1, A2, c2, by omega, rfl, by go_num, own2, hb2⟩
        case measure => simp [intOf]; omega
      · have hk' : k = (zs.length + 3) / 8 := by omega
        have hfin : Own wr w.heap.size A' k c' (midR zs) := by rw [hR.out, ← hk']; exact hown
        go_wp2
        go_ret2
        exact ⟨A', k, c', ret_sc hC.out, hfin, hbel, by omega⟩
  · have hb : bitsB zs = false := by simpa using hb
    have hC := hide (bitsC_no hb)
    have hR := hide (midR_no hb)
    go_enter Try.func37, Try.ntmps37
    go_wp2_with (go_at_call 99; refine (sIsBits_any _ _ _ zs _ h).mono ?_; rintro e w' ⟨rfl, rfl⟩)
    go_ret2
    exact ⟨none, 0, 0, ret_sc hC.out, by rw [hR.out]; exact Own.nil _ _, Below.refl _ _, by omega⟩
end Go.Proofs.Ytopccpnkokdmiaa
