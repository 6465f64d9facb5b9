/- Contracts: the entries of a mode, their durations' sum. -/
import Derived.Test.YtdkhldebnpmiiaaGreatDoorLook
import Derived.Test.YtdkhldebnpmiiaaGreatDoorTo
namespace Go.Proofs.YtdkhldebnpmiiaaGreatDoor
open Go.RowKit
set_option linter.unusedVariables false
set_option linter.unusedSimpArgs false

/-- the sum of the durations -/
def durs (l : List Slt) : Int := (l.map (·.du)).sum
def Durs (l : List Slt) : Prop := ∀ x ∈ l, 0 ≤ x.du ∧ x.du ≤ 1000
theorem durs_snoc (l : List Slt) (x : Slt) : durs (l ++ [x]) = durs l + x.du := by simp [durs]
theorem durs_bound {l : List Slt} (h : Durs l) : 0 ≤ durs l ∧ durs l ≤ 1000 * l.length := by
  induction l with
  | nil => simp [durs]
  | cons x l ih =>
    have := ih (fun y hy => h y (by simp [hy]))
    have hx := h x (by simp)
    have e : durs (x :: l) = x.du + durs l := by simp [durs]
    rw [e, List.length_cons]
    omega
theorem takeR {α : Type} {l : List α} {k : Nat} {x : α} (h : l[k]? = some x) : l.take (k + 1) = l.take k ++ [x] := by rw [List.take_add_one, h]; rfl
theorem Durs.take {l : List Slt} (h : Durs l) (k : Nat) : Durs (l.take k) := fun x hx => h x (List.mem_of_mem_take hx)
theorem Durs.filter {l : List Slt} (h : Durs l) (p : Slt → Bool) : Durs (l.filter p) := fun x hx => h x (List.mem_filter.1 hx).1
set_option maxHeartbeats 1600000 in
theorem sumDurations_any (A : Option Addr) (n c : Nat) (l : List Slt) (w : World) (h : RdR Slt.v 8 w A n c l) (hn : n ≤ 120) (hd : Durs l) :
    Calls Tryz.prog 86 #[.slice A n c] w (fun e w' => e = .returned (.int .i64 (durs l)) ∧ Below w.heap.size w w') := by
  have hcap := h.cap
  have hlen := hide h.len
  go_enter Tryz.func86, Tryz.ntmps86
  go_wp2
  go_loopw [3, 8] (fun v i wr => ∃ (k : Nat) (u : Int), k ≤ n ∧ i = .int .i64 k ∧ v = .int .i64 u ∧ Hid (u = durs (l.take k)) ∧ Hid (Below w.heap.size w wr)) (fun _ i _ => n - (intOf i).toNat)
  case atStart => exact ⟨0, 0, by omega, rfl, rfl, hide (by simp [durs]), hide (Below.refl _ _)⟩
  case round =>
    obtain ⟨k, u, hk, rfl, rfl, hu, hbel⟩ := hrel
    by_cases hlt : k < n
    · obtain ⟨b, off, x, rfl, hb, hx, c0, c1, c2, c3, c4, c5, c6, c7⟩ := slt_at (h.below hbel.out) hlt
      have NN := hide (show u + x.du = durs (l.take (k + 1)) by rw [takeR hx, durs_snoc, hu.out])
      have hub := durs_bound (hd.take k)
      rw [← hu.out, List.length_take] at hub
      have hxb := hd x (List.mem_of_getElem? hx)
      have u0 : 0 ≤ u := hub.1
      have u1 : u ≤ 120000 := by omega
      have HB := hide (show Below w.heap.size w (wr.alloc (.cells #[.int .i64 x.md, .int .i64 x.rd, .int .i64 x.sl, .int .i64 x.nd, .int .i64 x.kd, .int .i64 x.sz, .int .i64 x.du, .bool x.ch] 61)) from below_trans hbel.out ((Below.refl _ _).alloc (Nat.le_refl _) _))
      clear hx hub
      go_wp2
      go_roundw
      case rel => exact ⟨k + 1, u + x.du, by omega, by go_num, by go_num, NN, HB⟩
      case measure => simp [intOf]; omega
    · obtain rfl : k = n := by omega
      have E := hide (show u = durs l by rw [hu.out, ← hlen.out, List.take_length])
      go_wp2
      go_ret
      exact ⟨by rw [E.out]; rfl, hbel.out⟩
/-- the entries of a mode -/
def modeL (mode : Int) (l : List Slt) : List Slt := l.filter (fun x => x.md == mode)
theorem Durs.modeL {l : List Slt} (h : Durs l) (mode : Int) : Durs (modeL mode l) := h.filter _
theorem modeL_len (mode : Int) (l : List Slt) : (modeL mode l).length ≤ l.length := List.length_filter_le _ _
theorem modeL_snoc (mode : Int) (l : List Slt) (x : Slt) : modeL mode (l ++ [x]) = modeL mode l ++ (if x.md == mode then [x] else []) := by
  rw [modeL, List.filter_append]
  congr 1
  cases h : (x.md == mode) <;> simp [h]
set_option maxHeartbeats 1600000 in
theorem l13Cycle_any (v : Value) (m : Mdl) (mode : Int) (w : World) (h : RdM w v m) (hn : m.ss.length ≤ 120) (hd : Durs m.ss) :
    Calls Tryz.prog 77 #[v, .int .i64 mode] w (fun e w' => e = .returned (.int .i64 (durs (modeL mode m.ss))) ∧ Below w.heap.size w w') := by
  obtain ⟨A1, n1, c1, A2, n2, c2, A3, n3, c3, rfl, h1, h2, h3⟩ := h
  have hlen := hide h3.len
  rw [hlen.out] at hn
  have hcap := h3.cap
  obtain ⟨W0, hW0⟩ : ∃ W0, W0 = w.alloc (.cells #[.int .i64 m.id, .slice A1 n1 c1, .slice A2 n2 c2, .slice A3 n3 c3] 28) := ⟨_, rfl⟩
  have F0 : At W0 w.heap.size 28 #[.int .i64 m.id, .slice A1 n1 c1, .slice A2 n2 c2, .slice A3 n3 c3] := by rw [hW0]; exact At.fresh _ _ _
  have BA := hide (show Below w.heap.size w W0 by rw [hW0]; exact (Below.refl _ _).alloc (Nat.le_refl _) _)
  have H3 := h3.below BA.out
  have d3 := F0.cell 3
  simp at d3
  have HW := hide hW0
  clear hW0 F0 h1 h2 h3
  go_enter Tryz.func77, Tryz.ntmps77
  go_wp2_with fail
  rw [← HW.out]
  go_loopw [5, 6] (fun v i wr => ∃ (k : Nat) (u : Int), k ≤ n3 ∧ i = .int .i64 k ∧ v = .int .i64 u ∧ Hid (u = durs (modeL mode (m.ss.take k))) ∧ wr = W0) (fun _ i _ => n3 - (intOf i).toNat)
  case atStart => exact ⟨0, 0, by omega, rfl, rfl, hide (by simp [durs, modeL]), rfl⟩
  case round =>
    obtain ⟨k, u, hk, rfl, rfl, hu, rfl⟩ := hrel
    by_cases hlt : k < n3
    · obtain ⟨b, off, x, rfl, hb, hx, c0, c1, c2, c3, c4, c5, c6, c7⟩ := slt_at H3 hlt
      have HX := hide (show modeL mode (m.ss.take (k + 1)) = _ by rw [takeR hx, modeL_snoc])
      have hub := durs_bound ((hd.take k).filter (fun x => x.md == mode))
      rw [show (m.ss.take k).filter (fun x => x.md == mode) = modeL mode (m.ss.take k) from rfl, ← hu.out] at hub
      have hfl : (modeL mode (m.ss.take k)).length ≤ k := Nat.le_trans (List.length_filter_le _ _) (by rw [List.length_take]; omega)
      have hxb := hd x (List.mem_of_getElem? hx)
      have u0 : 0 ≤ u := hub.1
      have u1 : u ≤ 120000 := by omega
      clear hx hub hfl
      cases e : (x.md == mode)
      · have NN := hide (show u = durs (modeL mode (m.ss.take (k + 1))) by rw [HX.out, e, hu.out]; simp)
        go_wp2
        go_roundw
        case rel => exact ⟨k + 1, u, by omega, by go_num, rfl, NN, trivial⟩
        case measure => simp [intOf]; omega
      · have NN := hide (show u + x.du = durs (modeL mode (m.ss.take (k + 1))) by rw [HX.out, e, if_pos rfl, durs_snoc, hu.out])
        go_wp2
        go_roundw
        case rel => exact ⟨k + 1, u + x.du, by omega, by go_num, by go_num, NN, trivial⟩
        case measure => simp [intOf]; omega
    · obtain rfl : k = n3 := by omega
      have E := hide (show u = durs (modeL mode m.ss) by rw [hu.out, ← hlen.out, List.take_length])
      go_wp2
      go_ret
      exact ⟨by rw [E.out]; rfl, BA.out⟩
set_option maxHeartbeats 3200000 in
theorem modeSlots_any (v : Value) (m : Mdl) (mode : Int) (w : World) (h : RdM w v m) (hn : m.ss.length ≤ 120) :
    Calls Tryz.prog 75 #[v, .int .i64 mode] w (fun e w' => ∃ A' c', e = .returned (.slice A' (modeL mode m.ss).length c') ∧ OwnR 61 Slt.v 8 w' w.heap.size A' (modeL mode m.ss).length c' (modeL mode m.ss) ∧ Below w.heap.size w w') := by
  obtain ⟨A1, n1, c1, A2, n2, c2, A3, n3, c3, rfl, h1, h2, h3⟩ := h
  have hlen := hide h3.len
  rw [hlen.out] at hn
  have hcap := h3.cap
  obtain ⟨W0, hW0⟩ : ∃ W0, W0 = w.alloc (.cells #[.int .i64 m.id, .slice A1 n1 c1, .slice A2 n2 c2, .slice A3 n3 c3] 28) := ⟨_, rfl⟩
  have F0 : At W0 w.heap.size 28 #[.int .i64 m.id, .slice A1 n1 c1, .slice A2 n2 c2, .slice A3 n3 c3] := by rw [hW0]; exact At.fresh _ _ _
  have BA0 : Below w.heap.size w W0 := by rw [hW0]; exact (Below.refl _ _).alloc (Nat.le_refl _) _
  have BA := hide (BA0.alloc BA0.size (.cells #[] 61))
  have own0 : OwnR 61 Slt.v 8 (W0.alloc (.cells #[] 61)) w.heap.size (some ⟨W0.heap.size, 0, none⟩) 0 0 [] := OwnR.empty W0 BA0.size Slt.k
  have H3 := hide h3
  rw [show W0.heap.size = w.heap.size + 1 by rw [hW0]; simp] at own0
  have d3 := (F0.alloc (.cells #[] 61)).cell 3
  simp at d3
  have HW := hide hW0
  clear hW0 F0 h1 h2 h3 BA0
  go_enter Tryz.func75, Tryz.ntmps75
  go_wp2_with fail
  rw [← HW.out]
  go_loopw [5, 12] (fun s i wr => ∃ (k p : Nat) (A' : Option Addr) (c' : Nat), k ≤ n3 ∧ i = .int .i64 k ∧ s = .slice A' p c' ∧ p ≤ k ∧ OwnR 61 Slt.v 8 wr w.heap.size A' p c' (modeL mode (m.ss.take k)) ∧ Below w.heap.size w wr) (fun _ i _ => n3 - (intOf i).toNat)
  case atStart => exact ⟨0, 0, _, 0, by omega, rfl, rfl, by omega, own0, BA.out⟩
  case round =>
    obtain ⟨k, p, A', c', hk, rfl, rfl, hp, hown, hbel⟩ := hrel
    have hsz := hbel.size
    by_cases hlt : k < n3
    · obtain ⟨b, off, x, rfl, hb, hx, c0, c1, c2, c3, c4, c5, c6, c7⟩ := slt_at (H3.out.below hbel) hlt
      have HX := hide (show modeL mode (m.ss.take (k + 1)) = _ by rw [takeR hx, modeL_snoc])
      have HB := hide (show Below w.heap.size w (wr.alloc (.cells #[.int .i64 x.md, .int .i64 x.rd, .int .i64 x.sl, .int .i64 x.nd, .int .i64 x.kd, .int .i64 x.sz, .int .i64 x.du, .bool x.ch] 61)) from below_trans hbel ((Below.refl _ _).alloc (Nat.le_refl _) _))
      have HO := hide (hown.alloc (.cells #[.int .i64 x.md, .int .i64 x.rd, .int .i64 x.sl, .int .i64 x.nd, .int .i64 x.kd, .int .i64 x.sz, .int .i64 x.du, .bool x.ch] 61))
      clear hx hown hbel
      cases e : (x.md == mode)
      · rw [e, if_neg (by simp), List.append_nil] at HX
        have NN := hide (show OwnR 61 Slt.v 8 (wr.alloc (.cells #[.int .i64 x.md, .int .i64 x.rd, .int .i64 x.sl, .int .i64 x.nd, .int .i64 x.kd, .int .i64 x.sz, .int .i64 x.du, .bool x.ch] 61)) w.heap.size A' p c' (modeL mode (m.ss.take (k + 1))) by rw [HX.out]; exact HO.out)
        clear HX
        go_wp2
        go_roundw
        case rel => exact ⟨k + 1, p, A', c', by omega, by go_num, rfl, by omega, NN.out, HB.out⟩
        case measure => simp [intOf]; omega
      · rw [e, if_pos rfl] at HX
        have HSZ : ∀ o, (wr.alloc o).heap.size = wr.heap.size + 1 := fun o => by simp
        go_wp2_with (at_builtin; go_loud (refine append_rec info_slt Tryz.underlying26 rfl (by decide) (by decide) rfl _ _ rfl rfl HO.out _ 1 [x] rfl rfl (by simp [Slt.v, Value.oneCell']) (by rw [HSZ]; rfl) (by omega) (by simp; omega) ?_); intro A2 c2 w2 own2 gr2)
        have hb2 := below_ownR HB.out (by simp; omega) HO.out (Nat.le_refl _) gr2
        rw [← HX.out] at own2
        clear HX
        go_roundw
        case rel => exact ⟨k + 1, p + 1, A2, c2, by omega, by go_num, rfl, by omega, own2, hb2⟩
        case measure => simp [intOf]; omega
    · obtain rfl : k = n3 := by omega
      have E := hide (show m.ss.take k = m.ss by rw [← hlen.out, List.take_length])
      rw [E.out] at hown
      obtain rfl : p = (modeL mode m.ss).length := hown.len.symm
      go_wp2
      go_ret
      exact ⟨A', c', rfl, hown, hbel⟩
end Go.Proofs.YtdkhldebnpmiiaaGreatDoor
