/- Contracts: cells made into samples, nominal or with widths. -/
import Derived.Test.YtopccpnkokdmiaaRepeat
namespace Go.Proofs.Ytopccpnkokdmiaa
open Go.RowKit
set_option linter.unusedVariables false
set_option linter.unusedSimpArgs false

/-- the samples of the first k cells with widths -/
def strTo (cs ws : List Int) : Nat → List Int
  | 0 => []
  | k + 1 => strTo cs ws k ++ List.replicate (nth ws k).toNat (nth cs k)
theorem strTo_succ (cs ws : List Int) (k : Nat) : strTo cs ws (k + 1) = strTo cs ws k ++ List.replicate (nth ws k).toNat (nth cs k) := rfl
theorem strTo_len {cs ws : List Int} {lo hi : Int} (h0 : 0 ≤ lo) (h : allB lo hi ws = true) (k : Nat) (hk : k ≤ ws.length) : ((strTo cs ws k).length : Int) = sm (ws.take k) := by
  induction k with
  | zero => simp [strTo, sm]
  | succ k ih =>
    have hb := allB_get h k (by omega)
    rw [strTo_succ, List.length_append, List.length_replicate, sm_take ws k (by omega), Int.natCast_add, ih (by omega)]
    omega

set_option maxHeartbeats 800000 in
theorem l20Stretch_any (A B : Option Addr) (n c d : Nat) (cs ws : List Int) (w : World) (h : Rd w A n c cs) (g : Rd w B n d ws) (hn : n ≤ 8192) (hw : allB 0 16 ws = true) :
    Calls Try.prog 114 #[.slice A n c, .slice B n d] w fun e w' => ∃ A' m c', e = .returned (.slice A' m c') ∧ Own w' w.heap.size A' m c' (strTo cs ws n) ∧ Below w.heap.size w w' := by
  have hlen := h.le
  have hcap := h.cap
  have glen := g.le
  have gcap := g.cap
  have HW := hide hw
  clear hw
  go_enter Try.func114, Try.ntmps114
  go_wp2
  go_loopw [5, 6] (fun s i wr => ∃ (k m : Nat) (A' : Option Addr) (c' : Nat), k ≤ n ∧ m ≤ 16 * k ∧ s = .slice A' m c' ∧ i = .int .i64 k ∧ Own wr w.heap.size A' m c' (strTo cs ws k) ∧ Below w.heap.size w wr) (fun _ i _ => n - (intOf i).toNat)
  case atStart => exact ⟨0, 0, _, _, by omega, by omega, rfl, rfl, Own.empty w (Nat.le_refl _), (Below.refl _ _).alloc (Nat.le_refl _) _⟩
  case round =>
    obtain ⟨k, m, A', c', hk, hm, rfl, rfl, hown, hbel⟩ := hrel
    obtain ⟨wo, rfl⟩ : ∃ wo : World, wo = wr := ⟨_, rfl⟩
    by_cases hlt : k < n
    · obtain ⟨b, off, rfl, hbb, hc⟩ := h.at_ (by omega)
      obtain ⟨b', off', rfl, hbb', hc'⟩ := g.at_ (by omega)
      have hwk := allB_get HW.out k (by omega)
      obtain ⟨wl, hwl⟩ := Int.eq_ofNat_of_zero_le hwk.1
      have hi := h.i64.get k
      have hst := hide (strTo_succ cs ws k)
      have HWL := hide hwl
      have hw16 : wl ≤ 16 := by omega
      clear hwl hwk
      go_wp2
      go_loopw [5, 7] (fun s t wr => ∃ (j : Nat) (A2 : Option Addr) (c2 : Nat), j ≤ wl ∧ t = .int .i64 j ∧ s = .slice A2 (m + j) c2 ∧ Own wr w.heap.size A2 (m + j) c2 (strTo cs ws k ++ List.replicate j (nth cs k)) ∧ Below w.heap.size w wr) (fun _ t _ => wl - (intOf t).toNat)
      case atStart => exact ⟨0, A', c', by omega, rfl, rfl, by simpa using hown, hbel⟩
      case round =>
        obtain ⟨j, A2, c2, hj, rfl, rfl, hown2, hbel2⟩ := hrel
        have hsz := hbel2.size
        have hck := (hbel2.cell (p := ⟨b, off + k, none⟩) hbb).trans (hc k hlt)
        have hcw := (hbel2.cell (p := ⟨b', off' + k, none⟩) hbb').trans (hc' k hlt)
        rw [HWL.out] at hcw
        clear hc hc' hown
        by_cases hjl : j < wl
        · have hd := hide (rep_succ j (nth cs k))
          go_wp2_with (at_builtin; refine append_new rfl _ _ rfl w.heap.size rfl hown2 _ [nth cs k] 1 rfl (I64.one hi.1 hi.2) rfl rfl (by omega) hsz ?_; intro A3 c3 w3 own3 gr3)
          have hb3 := below_mark hbel2 hown2 (Nat.le_refl _) gr3
          rw [List.append_assoc, ← hd.out] at own3
          go_roundw
          case rel => exact ⟨j + 1, A3, c3, by omega, by go_num, rfl, own3, hb3⟩
          case measure => simp [intOf]; omega
        · obtain rfl : j = wl := by omega
          have e : strTo cs ws k ++ List.replicate j (nth cs k) = strTo cs ws (k + 1) := by
            rw [hst.out, HWL.out]; rfl
          rw [e] at hown2
          clear e
          go_wp2
          go_roundw
          case rel => exact ⟨k + 1, m + j, A2, c2, by omega, by omega, rfl, by go_num, hown2, hbel2⟩
          case measure => simp [intOf]; omega
    · obtain rfl : k = n := by omega
      go_wp2
      go_ret
      exact ⟨A', m, c', rfl, hown, hbel⟩

/-- nominal samples -/
def eights (n : Nat) : List Int := List.replicate n 8
theorem eights_len (n : Nat) : (eights n).length = n := by simp [eights]
theorem eights_nth {n k : Nat} (h : k < n) : nth (eights n) k = 8 := by rw [nth_eq (by rw [eights_len]; exact h)]; simp [eights]
theorem eights_all (n : Nat) : allB 8 8 (eights n) = true := by
  rw [allB, List.all_eq_true]
  intro z hz
  have := List.eq_of_mem_replicate hz
  subst this
  rfl
theorem sm_all {lo hi : Int} {zs : List Int} (h : allB lo hi zs = true) : lo * zs.length ≤ sm zs ∧ sm zs ≤ hi * zs.length := by
  have := sm_bounds h zs.length (Nat.le_refl _)
  rwa [List.take_of_length_le (Nat.le_refl _)] at this
def nomS (cs : List Int) : List Int := strTo cs (eights cs.length) cs.length
theorem nomS_len (cs : List Int) : (nomS cs).length = 8 * cs.length := by
  have h1 := strTo_len (cs := cs) (by decide) (eights_all cs.length) cs.length (by rw [eights_len]; exact Nat.le_refl _)
  have h2 := sm_all (eights_all cs.length)
  rw [List.take_of_length_le (by rw [eights_len]; exact Nat.le_refl _)] at h1
  rw [eights_len] at h2
  unfold nomS
  omega
def nomR (cs : List Int) : List Int := if bitsB cs && decide (cs.length * 8 ≤ 8192) then nomS cs else []
def nomC (cs : List Int) : Int := if bitsB cs then (if cs.length * 8 ≤ 8192 then 0 else 3) else 1
theorem nom_yes {cs : List Int} (h : bitsB cs = true) (h8 : cs.length * 8 ≤ 8192) : nomR cs = nomS cs ∧ 0 = nomC cs := by simp [nomR, nomC, h, h8]
theorem nom_long {cs : List Int} (h : bitsB cs = true) (h8 : ¬ cs.length * 8 ≤ 8192) : nomR cs = [] ∧ 3 = nomC cs := by simp [nomR, nomC, h, h8]
theorem nom_no {cs : List Int} (h : bitsB cs = false) : nomR cs = [] ∧ 1 = nomC cs := by simp [nomR, nomC, h]

theorem sNominalSamples_c (A : Option Addr) (n c : Nat) (cs : List Int) (w : World) (h : Rd w A n c cs) (hn : n ≤ 1048576) :
    Calls Try.prog 57 #[.slice A n c] w fun e w' => ∃ A' n' c', e = .returned (.tuple #[.slice A' n' c', .int .i64 (nomC cs)]) ∧ Own w' w.heap.size A' n' c' (nomR cs) ∧ Below w.heap.size w w' ∧ n' ≤ 1048576 := by
  have hlen := h.le
  have hcap := h.cap
  by_cases hb : bitsB cs = true
  · by_cases h8 : n ≤ 1024
    · have HN := hide (nom_yes hb (by omega))
      have t8 : decide (8192 < (n : Int) * 8) = false := decide_eq_false (by omega)
      have hl := hide h.len
      go_enter Try.func57, Try.ntmps57
      go_wp2_with (first | (go_at_call 99; refine (sIsBits_any _ _ _ cs _ h).mono ?_; rintro e w' ⟨rfl, rfl⟩) | (go_at_call 111; go_in) | (go_at_call 107; refine (l20Equal_any _ _ _ (by omega) (by omega) (by omega)).mono ?_; rintro e w1 ⟨A1, c1, rfl, own1, bel1⟩; simp only [Int.toNat_natCast] at own1 ⊢) | (go_at_call 114; refine (l20Stretch_any _ _ _ _ _ cs (eights n) _ (h.below bel1) own1.rd (by omega) (allB_wide (eights_all n) (by omega) (by omega))).mono ?_; rintro e w2 ⟨A2, m2, c2, rfl, own2, bel2⟩))
      go_ret2
      have e : strTo cs (eights n) n = nomR cs := by rw [HN.out.1, nomS, hl.out]
      rw [e] at own2
      have hm : m2 ≤ 1048576 := by
        have h1 := own2.len
        rw [HN.out.1, nomS_len] at h1
        omega
      exact ⟨A2, m2, c2, ret_sc HN.out.2, own2.mono bel1.size, below_trans bel1 bel2, hm⟩
    · have HN := hide (nom_long hb (by omega))
      have t8 : decide (8192 < (n : Int) * 8) = true := decide_eq_true (by omega)
      go_enter Try.func57, Try.ntmps57
      go_wp2_with (first | (go_at_call 99; refine (sIsBits_any _ _ _ cs _ h).mono ?_; rintro e w' ⟨rfl, rfl⟩))
      go_ret2
      exact ⟨none, 0, 0, ret_sc HN.out.2, by rw [HN.out.1]; exact Own.nil _ _, Below.refl _ _, by omega⟩
  · have hb : bitsB cs = false := by simpa using hb
    have HN := hide (nom_no hb)
    go_enter Try.func57, Try.ntmps57
    go_wp2_with (first | (go_at_call 99; refine (sIsBits_any _ _ _ cs _ h).mono ?_; rintro e w' ⟨rfl, rfl⟩))
    go_ret2
    exact ⟨none, 0, 0, ret_sc HN.out.2, by rw [HN.out.1]; exact Own.nil _ _, Below.refl _ _, by omega⟩
theorem iNominalSamples_c (A : Option Addr) (n c : Nat) (cs : List Int) (w : World) (h : Rd w A n c cs) (hn : n ≤ 1048576) :
    Calls Try.prog 58 #[.slice A n c] w fun e w' => ∃ A' n' c', e = .returned (.tuple #[.slice A' n' c', .int .i64 (nomC cs)]) ∧ Own w' w.heap.size A' n' c' (nomR cs) ∧ Below w.heap.size w w' ∧ n' ≤ 1048576 := by
  have hlen := h.le
  have hcap := h.cap
  by_cases hb : bitsB cs = true
  · by_cases h8 : n ≤ 1024
    · have HN := hide (nom_yes hb (by omega))
      have t8 : decide (8192 < (n : Int) * 8) = false := decide_eq_false (by omega)
      have hl := hide h.len
      go_enter Try.func58, Try.ntmps58
      go_wp2_with (first | (go_at_call 100; refine (iIsBits_any _ _ _ cs _ h).mono ?_; rintro e w' ⟨rfl, rfl⟩))
      go_loopw [4, 17] (fun s i wr => ∃ (k : Nat) (A' : Option Addr) (c' : Nat), k ≤ n ∧ s = .slice A' (8 * k) c' ∧ i = .int .i64 k ∧ Own wr w.heap.size A' (8 * k) c' (strTo cs (eights n) k) ∧ Below w.heap.size w wr) (fun _ i _ => n - (intOf i).toNat)
      case atStart => exact ⟨0, _, _, by omega, rfl, rfl, Own.empty w (Nat.le_refl _), (Below.refl _ _).alloc (Nat.le_refl _) _⟩
      case round =>
        obtain ⟨k, A', c', hk, rfl, rfl, hown, hbel⟩ := hrel
        have hsz := hbel.size
        by_cases hlt : k < n
        · obtain ⟨b, off, rfl, hbb, hc⟩ := h.at_ (by omega)
          have hck := (hbel.cell (p := ⟨b, off + k, none⟩) hbb).trans (hc k hlt)
          have hi := h.i64.get k
          have hst : Hid (strTo cs (eights n) (k + 1) = strTo cs (eights n) k ++ List.replicate (8 : Int).toNat (nth cs k)) := by
            show _ = _
            rw [strTo_succ, eights_nth hlt]
          clear hc
          go_wp2_with (first | (go_at_call 109; refine (repeat_any _ _ _ _ w.heap.size _ _ _ hown hsz hi (by omega) (by omega)).mono ?_; rintro e w2 ⟨A2, c2, rfl, own2, bel2⟩; rw [← hst.out] at own2))
          go_roundw
          case rel => exact ⟨k + 1, A2, c2, by omega, rfl, by go_num, own2, hbel.trans bel2⟩
          case measure => simp [intOf]; omega
        · obtain rfl : k = n := by omega
          have hfin : Own wr w.heap.size A' (8 * k) c' (nomR cs) := by rw [HN.out.1, nomS, hl.out]; exact hown
          go_wp2
          go_ret2
          exact ⟨A', 8 * k, c', ret_sc HN.out.2, hfin, hbel, by omega⟩
    · have HN := hide (nom_long hb (by omega))
      have t8 : decide (8192 < (n : Int) * 8) = true := decide_eq_true (by omega)
      go_enter Try.func58, Try.ntmps58
      go_wp2_with (first | (go_at_call 100; refine (iIsBits_any _ _ _ cs _ h).mono ?_; rintro e w' ⟨rfl, rfl⟩))
      go_ret2
      exact ⟨none, 0, 0, ret_sc HN.out.2, by rw [HN.out.1]; exact Own.nil _ _, Below.refl _ _, by omega⟩
  · have hb : bitsB cs = false := by simpa using hb
    have HN := hide (nom_no hb)
    go_enter Try.func58, Try.ntmps58
    go_wp2_with (first | (go_at_call 100; refine (iIsBits_any _ _ _ cs _ h).mono ?_; rintro e w' ⟨rfl, rfl⟩))
    go_ret2
    exact ⟨none, 0, 0, ret_sc HN.out.2, by rw [HN.out.1]; exact Own.nil _ _, Below.refl _ _, by omega⟩

/-- cells are bits; as many widths as cells, each 7 to 9; at most 8192 samples -/
def strC (cs ws : List Int) : Int := if bitsB cs then (if ws.length = cs.length ∧ widthsB ws = true then (if sm ws ≤ 8192 then 0 else 3) else 2) else 1
def strR (cs ws : List Int) : List Int := if strC cs ws = 0 then strTo cs ws cs.length else []
theorem str_yes {cs ws : List Int} (h : bitsB cs = true) (hl : ws.length = cs.length) (hw : widthsB ws = true) (h8 : sm ws ≤ 8192) : strR cs ws = strTo cs ws cs.length ∧ 0 = strC cs ws := by
  have : strC cs ws = 0 := by simp [strC, h, hl, hw, h8]
  exact ⟨by simp [strR, this], this.symm⟩
theorem str_long {cs ws : List Int} (h : bitsB cs = true) (hl : ws.length = cs.length) (hw : widthsB ws = true) (h8 : ¬ sm ws ≤ 8192) : strR cs ws = [] ∧ 3 = strC cs ws := by
  have : strC cs ws = 3 := by simp [strC, h, hl, hw, h8]
  exact ⟨by simp [strR, this], this.symm⟩
theorem str_range {cs ws : List Int} (h : bitsB cs = true) (hl : ¬ (ws.length = cs.length ∧ widthsB ws = true)) : strR cs ws = [] ∧ 2 = strC cs ws := by
  have : strC cs ws = 2 := by
    unfold strC
    rw [if_pos h, if_neg hl]
  exact ⟨by simp [strR, this], this.symm⟩
theorem str_no {cs ws : List Int} (h : bitsB cs = false) : strR cs ws = [] ∧ 1 = strC cs ws := by
  have : strC cs ws = 1 := by simp [strC, h]
  exact ⟨by simp [strR, this], this.symm⟩
theorem strTo_fin {cs ws : List Int} (hl : ws.length = cs.length) (hw : widthsB ws = true) : ((strTo cs ws cs.length).length : Int) = sm ws := by
  have := strTo_len (cs := cs) (by decide) (upB_true hw).2 ws.length (Nat.le_refl _)
  rwa [List.take_of_length_le (Nat.le_refl _), hl] at this

theorem sStretchedSamples_c (A : Option Addr) (n c : Nat) (cs : List Int) (B : Option Addr) (m d : Nat) (ws : List Int) (w : World) (h : Rd w A n c cs) (g : Rd w B m d ws) (hn : n ≤ 1048576) (hm : m ≤ 1048576) :
    Calls Try.prog 61 #[.slice A n c, .slice B m d] w fun e w' => ∃ A' n' c', e = .returned (.tuple #[.slice A' n' c', .int .i64 (strC cs ws)]) ∧ Own w' w.heap.size A' n' c' (strR cs ws) ∧ Below w.heap.size w w' ∧ n' ≤ 1048576 := by
  have hlen := h.le
  have hcap := h.cap
  have glen := g.le
  have gcap := g.cap
  by_cases hb : bitsB cs = true
  · have hb8 := bits_len hb
    by_cases hnm : m = n
    · subst hnm
      have t1 : ((m : Int) != (m : Int)) = false := by simp
      by_cases hw : widthsB ws = true
      · have hwa := hide (upB_true hw).2
        have hl := hide h.len
        by_cases h8 : sm ws ≤ 8192
        · have HN := hide (str_yes hb (by omega) hw h8)
          have hfl := hide (strTo_fin (cs := cs) (ws := ws) (by omega) hw)
          have t8 : decide (8192 < sm ws) = false := decide_eq_false (by omega)
          go_enter Try.func61, Try.ntmps61
          go_wp2_with (first | (go_at_call 99; refine (sIsBits_any _ _ _ cs _ h).mono ?_; rintro e w' ⟨rfl, rfl⟩) | (go_at_call 96; refine (l20Widths_any _ _ _ ws _ g).mono ?_; rintro e w' ⟨rfl, rfl⟩) | (go_at_call 97; refine (l20Sum_any _ _ _ ws _ g (by omega) (allB_wide hwa.out (by omega) (by omega))).mono ?_; rintro e w' ⟨rfl, rfl⟩) | (go_at_call 114; refine (l20Stretch_any _ _ _ _ _ cs ws _ h g (by omega) (allB_wide hwa.out (by omega) (by omega))).mono ?_; rintro e w2 ⟨A2, m2, c2, rfl, own2, bel2⟩))
          go_ret2
          have e : strTo cs ws m = strR cs ws := by rw [HN.out.1, hl.out]
          rw [e] at own2
          have hm2 : m2 ≤ 1048576 := by
            have h1 := own2.len
            have h2 := hfl.out
            rw [← HN.out.1] at h2
            omega
          exact ⟨A2, m2, c2, ret_sc HN.out.2, own2, bel2, hm2⟩
        · have HN := hide (str_long hb (by omega) hw h8)
          have t8 : decide (8192 < sm ws) = true := decide_eq_true (by omega)
          go_enter Try.func61, Try.ntmps61
          go_wp2_with (first | (go_at_call 99; refine (sIsBits_any _ _ _ cs _ h).mono ?_; rintro e w' ⟨rfl, rfl⟩) | (go_at_call 96; refine (l20Widths_any _ _ _ ws _ g).mono ?_; rintro e w' ⟨rfl, rfl⟩) | (go_at_call 97; refine (l20Sum_any _ _ _ ws _ g (by omega) (allB_wide hwa.out (by omega) (by omega))).mono ?_; rintro e w' ⟨rfl, rfl⟩))
          go_ret2
          exact ⟨none, 0, 0, ret_sc HN.out.2, by rw [HN.out.1]; exact Own.nil _ _, Below.refl _ _, by omega⟩
      · have hw' : widthsB ws = false := by simpa using hw
        have HN := hide (str_range (cs := cs) (ws := ws) hb (fun x => hw x.2))
        clear hw
        go_enter Try.func61, Try.ntmps61
        go_wp2_with (first | (go_at_call 99; refine (sIsBits_any _ _ _ cs _ h).mono ?_; rintro e w' ⟨rfl, rfl⟩) | (go_at_call 96; refine (l20Widths_any _ _ _ ws _ g).mono ?_; rintro e w' ⟨rfl, rfl⟩))
        go_ret2
        exact ⟨none, 0, 0, ret_sc HN.out.2, by rw [HN.out.1]; exact Own.nil _ _, Below.refl _ _, by omega⟩
    · have t1 : ((m : Int) != (n : Int)) = true := by simp; omega
      have HN := hide (str_range (cs := cs) (ws := ws) hb (fun x => by omega))
      go_enter Try.func61, Try.ntmps61
      go_wp2_with (first | (go_at_call 99; refine (sIsBits_any _ _ _ cs _ h).mono ?_; rintro e w' ⟨rfl, rfl⟩))
      go_ret2
      exact ⟨none, 0, 0, ret_sc HN.out.2, by rw [HN.out.1]; exact Own.nil _ _, Below.refl _ _, by omega⟩
  · have hb : bitsB cs = false := by simpa using hb
    have HN := hide (str_no (ws := ws) hb)
    go_enter Try.func61, Try.ntmps61
    go_wp2_with (first | (go_at_call 99; refine (sIsBits_any _ _ _ cs _ h).mono ?_; rintro e w' ⟨rfl, rfl⟩))
    go_ret2
    exact ⟨none, 0, 0, ret_sc HN.out.2, by rw [HN.out.1]; exact Own.nil _ _, Below.refl _ _, by omega⟩
theorem iStretchedSamples_c (A : Option Addr) (n c : Nat) (cs : List Int) (B : Option Addr) (m d : Nat) (ws : List Int) (w : World) (h : Rd w A n c cs) (g : Rd w B m d ws) (hn : n ≤ 1048576) (hm : m ≤ 1048576) :
    Calls Try.prog 62 #[.slice A n c, .slice B m d] w fun e w' => ∃ A' n' c', e = .returned (.tuple #[.slice A' n' c', .int .i64 (strC cs ws)]) ∧ Own w' w.heap.size A' n' c' (strR cs ws) ∧ Below w.heap.size w w' ∧ n' ≤ 1048576 := by
  have hlen := h.le
  have hcap := h.cap
  have glen := g.le
  have gcap := g.cap
  by_cases hb : bitsB cs = true
  · have hb8 := bits_len hb
    by_cases hnm : m = n
    · subst hnm
      have t1 : ((m : Int) != (m : Int)) = false := by simp
      by_cases ha : allB 7 9 ws = true
      · have hw : widthsB ws = true := by rw [widthsB, upB_yes (by omega), ha]
        have HA := hide ha
        have hl := hide h.len
        have hfl := hide (strTo_fin (cs := cs) (ws := ws) (by omega) hw)
        have HY := hide (fun h8 => str_yes (cs := cs) (ws := ws) hb (by omega) hw h8)
        have HL := hide (fun h8 => str_long (cs := cs) (ws := ws) hb (by omega) hw h8)
        clear hw
        go_enter Try.func62, Try.ntmps62
        go_wp2_with (first | (go_at_call 100; refine (iIsBits_any _ _ _ cs _ h).mono ?_; rintro e w' ⟨rfl, rfl⟩) | (go_at_call 98; refine (areWidths_any _ _ _ ws _ g).mono ?_; rintro e w' ⟨rfl, rfl⟩))
        go_loopw [6, 25] (fun s i wr => ∃ (k t : Nat) (A' : Option Addr) (c' : Nat), k ≤ m ∧ t ≤ 9 * k ∧ s = .slice A' t c' ∧ i = .int .i64 k ∧ Own wr w.heap.size A' t c' (strTo cs ws k) ∧ Below w.heap.size w wr) (fun _ i _ => m - (intOf i).toNat)
        case atStart => exact ⟨0, 0, _, _, by omega, by omega, rfl, rfl, Own.empty w (Nat.le_refl _), (Below.refl _ _).alloc (Nat.le_refl _) _⟩
        case round =>
          obtain ⟨k, t, A', c', hk, ht, rfl, rfl, hown, hbel⟩ := hrel
          have hsz := hbel.size
          by_cases hlt : k < m
          · obtain ⟨b, off, rfl, hbb, hc⟩ := h.at_ (by omega)
            obtain ⟨b', off', rfl, hbb', hc'⟩ := g.at_ (by omega)
            have hck := (hbel.cell (p := ⟨b, off + k, none⟩) hbb).trans (hc k hlt)
            have hcw := (hbel.cell (p := ⟨b', off' + k, none⟩) hbb').trans (hc' k hlt)
            have hi := h.i64.get k
            have hwk := allB_get HA.out k (by omega)
            have hst := hide (strTo_succ cs ws k)
            clear hc hc'
            go_wp2_with (first | (go_at_call 109; refine (repeat_any _ _ _ _ w.heap.size _ _ _ hown hsz hi (by omega) (by omega)).mono ?_; rintro e w2 ⟨A2, c2, rfl, own2, bel2⟩; rw [← hst.out] at own2))
            go_roundw
            case rel => exact ⟨k + 1, _, A2, c2, by omega, by omega, rfl, by go_num, own2, hbel.trans bel2⟩
            case measure => simp [intOf]; omega
          · obtain rfl : k = m := by omega
            have htl := hown.len
            rw [show strTo cs ws k = strTo cs ws cs.length from by rw [hl.out]] at htl hown
            have hf := hfl.out
            by_cases h8 : t ≤ 8192
            · have HN := hide (HY.out (by omega))
              have hfin : Own wr w.heap.size A' t c' (strR cs ws) := by rw [HN.out.1]; exact hown
              clear hf htl
              go_wp2
              go_ret2
              exact ⟨A', t, c', ret_sc HN.out.2, hfin, hbel, by omega⟩
            · have HN := hide (HL.out (by omega))
              clear hf htl
              go_wp2
              go_ret2
              exact ⟨none, 0, 0, ret_sc HN.out.2, by rw [HN.out.1]; exact Own.nil _ _, hbel, by omega⟩
      · have ha : allB 7 9 ws = false := by simpa using ha
        have hw : widthsB ws = false := by rw [widthsB, upB_yes (by omega), ha]
        have HN := hide (str_range (cs := cs) (ws := ws) hb (fun x => by rw [hw] at x; cases x.2))
        clear hw
        go_enter Try.func62, Try.ntmps62
        go_wp2_with (first | (go_at_call 100; refine (iIsBits_any _ _ _ cs _ h).mono ?_; rintro e w' ⟨rfl, rfl⟩) | (go_at_call 98; refine (areWidths_any _ _ _ ws _ g).mono ?_; rintro e w' ⟨rfl, rfl⟩))
        go_ret2
        exact ⟨none, 0, 0, ret_sc HN.out.2, by rw [HN.out.1]; exact Own.nil _ _, Below.refl _ _, by omega⟩
    · have t1 : ((m : Int) != (n : Int)) = true := by simp; omega
      have HN := hide (str_range (cs := cs) (ws := ws) hb (fun x => by omega))
      go_enter Try.func62, Try.ntmps62
      go_wp2_with (first | (go_at_call 100; refine (iIsBits_any _ _ _ cs _ h).mono ?_; rintro e w' ⟨rfl, rfl⟩))
      go_ret2
      exact ⟨none, 0, 0, ret_sc HN.out.2, by rw [HN.out.1]; exact Own.nil _ _, Below.refl _ _, by omega⟩
  · have hb : bitsB cs = false := by simpa using hb
    have HN := hide (str_no (ws := ws) hb)
    go_enter Try.func62, Try.ntmps62
    go_wp2_with (first | (go_at_call 100; refine (iIsBits_any _ _ _ cs _ h).mono ?_; rintro e w' ⟨rfl, rfl⟩))
    go_ret2
    exact ⟨none, 0, 0, ret_sc HN.out.2, by rw [HN.out.1]; exact Own.nil _ _, Below.refl _ _, by omega⟩
end Go.Proofs.Ytopccpnkokdmiaa
