/- Contracts: a list of one value repeated by the library's Repeat. -/
import Derived.Test.YtcbejjkbjompfaaRepeat
import Derived.Laws.BitsAllLaws
import Derived.Laws.CopyOwn
import Derived.Deep.RegionLaw
import Derived.Deep.DeepMust
import Derived.Deep.OwnRows
namespace Go.Proofs.Ytcbejjkbjompfaa
open Go.RowKit
set_option linter.unusedVariables false
set_option linter.unusedSimpArgs false

theorem u64_mask (m : Nat) (h : m ≤ 16777216) : bits .and .u64 (m : Int) 4294967295 = (m : Int) := by
  have := u64_and_nat m 4294967295 (by omega) (by omega)
  rw [show ((4294967295 : Nat) : Int) = 4294967295 from rfl] at this
  rw [this]
  have e : m &&& 4294967295 = m := by
    have := Nat.and_two_pow_sub_one_eq_mod m 32
    rw [show (2 ^ 32 - 1 : Nat) = 4294967295 from rfl] at this
    rw [this]
    exact Nat.mod_eq_of_lt (by omega)
  rw [e]
theorem u64_mask1 : bits .and .u64 1 4294967295 = 1 := u64_mask 1 (by omega)
theorem u64_mask0 : bits .and .u64 0 4294967295 = 0 := u64_mask 0 (by omega)

set_option maxHeartbeats 800000 in
theorem mul64_one (m : Nat) (w : World) (h : m ≤ 16777216) :
    Calls Try.prog 47 #[.int .u64 1, .int .u64 m] w fun e w' => e = .returned (.tuple #[.int .u64 0, .int .u64 m]) ∧ w = w' := by
  have e1 := u64_mask1
  have e2 := u64_mask m h
  have e0 := u64_mask0
  have d1 : ((m : Int) / 4294967296) = 0 := by omega
  go_enter Try.func47, Try.ntmps47
  go_wp2
  go_ret2
  exact ⟨by simp, rfl⟩

theorem mul_one (m : Nat) (w : World) (h : m ≤ 16777216) :
    Calls Try.prog 44 #[.int .u64 1, .int .u64 m] w fun e w' => e = .returned (.tuple #[.int .u64 0, .int .u64 m]) ∧ w = w' := by
  go_enter Try.func44, Try.ntmps44
  go_wp2_with (go_at_call 47; refine (mul64_one _ _ h).mono ?_; rintro e w' ⟨rfl, rfl⟩)
  go_ret2
  exact ⟨rfl, rfl⟩

theorem i64_size : (Try.prog.info? 2).map (·.size) = some 1 := by kernel_rfl
/-- k values, then zeros -/
def rep (v : Int) (k m : Nat) : List Int := List.replicate k v ++ List.replicate (m - k) 0
theorem rep_len (v : Int) (k m : Nat) (h : k ≤ m) : (rep v k m).length = m := by simp [rep]; omega
theorem rep_splice (v : Int) (k t m : Nat) (h : k + t ≤ m) : splice (ints (rep v k m)) k (ints (List.replicate t v)) = ints (rep v (k + t) m) := by
  have h1 : (ints (rep v k m)).take k = ints (List.replicate k v) := by
    simp [ints, rep, List.take_append_of_le_length]
  have h2 : (ints (rep v k m)).drop (k + t) = ints (List.replicate (m - (k + t)) 0) := by
    simp [ints, rep, List.drop_append]
    omega
  rw [splice, h1, ints_length, List.length_replicate, h2, ← ints_append, ← ints_append, rep, ← List.append_assoc, List.replicate_append_replicate]
theorem rep_get (v : Int) (k m j : Nat) (h : j < k) (hm : k ≤ m) : (ints (rep v k m))[j]? = some (.int .i64 v) := by
  simp [ints, rep, List.getElem?_append_left, h]
theorem goInt_nat (n : Nat) : goInt n = .int .i64 n := rfl

/-- what a copy leaves in a row of one value -/
theorem copy_rep (W : World) (v : Int) (g k m t dCap sLen sCap : Nat) (ad : Addr) (ty : TypeId) (hg : W.heap[g]? = some (.cells (ints (rep v k m)).toArray 2 (0, 0))) (hk : k + t ≤ m) (ht : t = Nat.min sLen (m - k))
    (hsrc : ∀ j, j < t → W.cell? (ad.add j) = some (.int .i64 v)) :
    ∃ W', Sem.run Try.prog (Builtin.copy_ #[56, 56] ty #[.slice (some ⟨g, k, none⟩) (m - k) dCap, .slice (some ad) sLen sCap]) W = .ok (.int .i64 t) W' ∧
      W'.heap[g]? = some (.cells (ints (rep v (k + t) m)).toArray 2 (0, 0)) ∧ ∀ (B : Nat) (w0 : World), Below B w0 W → B ≤ g → Below B w0 W' := by
  have hl := rep_len v k m (by omega)
  have hr := run_copy_row (P := Try.prog) W 56 56 ty 2 g k (m - k) dCap ad sLen sCap (ints (rep v k m)).toArray 2 (ints (List.replicate t v)) Try.underlying56 i64_size hg (by rw [ints_length, List.length_replicate]; exact ht)
    (by
      intro j u hu
      have hj : j < t := by
        have := (List.getElem?_eq_some_iff.1 hu).1
        rwa [ints_length, List.length_replicate] at this
      rw [hsrc j hj, ← hu, ints_get _ _ (by rw [List.length_replicate]; exact hj), nth_eq (by rw [List.length_replicate]; exact hj)]
      simp)
    (by simp [ints_length, hl]; omega) (ints_oneCell _)
  rw [ints_length, List.length_replicate, goInt_nat] at hr
  refine ⟨_, hr, ?_, fun B w0 hb hB => below_setRow hb hB _⟩
  rw [setRow_heap W g _ _ 2 _ hg]
  have := rep_splice v k t m hk
  rw [splice, ints_length, List.length_replicate] at this
  rw [← this]
  simp
theorem own_of_heap {w : World} {B g m : Nat} {L : List Int} (hg : w.heap[g]? = some (.cells (ints L).toArray 2 (0, 0))) (hl : L.length = m) (hm : m ≤ 9223372036854775807) (hB : B ≤ g) (hL : I64 L) : Own w B (some ⟨g, 0, none⟩) m m L :=
  ⟨⟨by rw [ints_length]; omega, .inr ⟨g, m, _, rfl, hB, hg, Nat.le_refl _, hm, by simp [ints_length]; omega, by
    rw [List.take_of_length_le (by simp [ints_length]; omega)]⟩⟩, hL⟩
theorem rep_zero (v : Int) (m : Nat) : (ints (rep v 0 m)).toArray = madeCells #[.int .i64 0] m := by
  apply Array.ext'
  rw [toList_madeCells_one]
  simp [ints, rep]

set_option maxHeartbeats 1600000 in
set_option maxRecDepth 100000 in
theorem repeatLib_any (A : Option Addr) (c : Nat) (v : Int) (m : Int) (w : World) (h : Rd w A 1 c [v]) (h0 : 0 ≤ m) (hm : m ≤ 16777216) :
    Calls Try.prog 40 #[.slice A 1 c, .int .i64 m] w fun e w' => ∃ A' c', e = .returned (.slice A' m.toNat c') ∧ Own w' w.heap.size A' m.toNat c' (List.replicate m.toNat v) ∧ Below w.heap.size w w' := by
  obtain ⟨m, rfl⟩ := Int.eq_ofNat_of_zero_le h0
  simp only [Int.toNat_natCast]
  have hcap := h.cap
  obtain ⟨b, off, rfl, hbb, hc⟩ := h.at_ (by omega)
  have hc0 : w.cell? ⟨b, off, none⟩ = some (.int .i64 v) := hc 0 (by omega)
  have hi : -9223372036854775808 ≤ v ∧ v ≤ 9223372036854775807 := h.i64 v (by simp)
  have hmk := run_make_row' (P := Try.prog) 56 2 (.int .i64 0) 8 Try.underlying56 info_i64 rfl .i64 .i64 m (by omega) (by omega)
  have hg0 : (w.alloc (.cells (madeCells #[.int .i64 0] m) 2)).heap[w.heap.size]? = some (.cells (ints (rep v 0 m)).toArray 2 (0, 0)) := by
    rw [rep_zero]; exact heap_alloc_new w _
  have tm : decide ((m : Int) < 0) = false := by simp
  have tx : decide ((9223372036854775807 : Int) < (m : Int)) = false := by simp; omega
  clear hc
  by_cases hm0 : m = 0
  · subst hm0
    have hcp := run_copy_none (P := Try.prog) (w.alloc (.cells (madeCells #[.int .i64 0] 0) 2)) 56 56 3 2 (some ⟨w.heap.size, 0, none⟩) (some ⟨b, off, none⟩) 0 0 1 c Try.underlying56 i64_size (by rfl)
    have hown := own_of_heap (m := 0) (L := []) hg0 rfl (by omega) (Nat.le_refl _) I64.nil
    have HO := hide hown
    have hmk0 : ∀ w : World, (Instr.makeSlice 56 (.int .i64 0) (.int .i64 0)).run Try.prog w = .ok (.slice (some ⟨w.heap.size, 0, none⟩) 0 0) (w.alloc (.cells (madeCells #[.int .i64 0] 0) 2)) := hmk
    clear hg0 hown tm tx hmk
    go_enter Try.func40, Try.ntmps40
    go_wp2_with (go_at_call 44; refine (mul_one 0 _ (by omega)).mono ?_; rintro e w' ⟨rfl, rfl⟩)
    go_rounds 1
    go_ret
    exact ⟨_, _, rfl, HO.out, (Below.refl _ _).alloc (Nat.le_refl _) _⟩
  · obtain ⟨w1, hcp, hg1, hb1⟩ := copy_rep _ v w.heap.size 0 m 1 m 1 c ⟨b, off, none⟩ 3 hg0 (by omega) (by rw [Nat.sub_zero]; exact (Nat.min_eq_left (by omega)).symm) (by
      intro j hj
      obtain rfl : j = 0 := by omega
      show World.cell? _ ⟨b, off, none⟩ = _
      rw [World.cell?_alloc_lt w _ _ hbb]; exact hc0)
    simp only [Nat.zero_add, Nat.sub_zero] at hcp hg1
    have hbel1 := hb1 w.heap.size w ((Below.refl _ _).alloc (Nat.le_refl _) _) (Nat.le_refl _)
    have HG1 := hide hg1
    have HB1 := hide hbel1
    have m1 : 1 ≤ m := by omega
    clear hg1 hbel1 hb1 hg0 hm0
    go_enter Try.func40, Try.ntmps40
    go_wp2_with (go_at_call 44; refine (mul_one _ _ (by omega)).mono ?_; rintro e w' ⟨rfl, rfl⟩)
    go_loopw [8] (fun i wr => ∃ k : Nat, 1 ≤ k ∧ k ≤ m ∧ i = .int .i64 k ∧ Hid (wr.heap[w.heap.size]? = some (.cells (ints (rep v k m)).toArray 2 (0, 0))) ∧ Below w.heap.size w wr) (fun i _ => m - (intOf i).toNat)
    case atStart => exact ⟨1, by omega, by omega, rfl, HG1, HB1.out⟩
    case round =>
      obtain ⟨k, hk1, hk, rfl, hg, hbel⟩ := hrel
      have HG := hg
      by_cases hlt : k < m
      · obtain ⟨t, ht⟩ : ∃ t, t = Nat.min k (m - k) := ⟨_, rfl⟩
        have ht1 : 1 ≤ t := by rw [ht]; exact Nat.le_min.2 ⟨hk1, by omega⟩
        have ht2 : k + t ≤ m := by
          have : t ≤ m - k := by rw [ht]; exact Nat.min_le_right _ _
          omega
        have ht3 : t ≤ k := by rw [ht]; exact Nat.min_le_left _ _
        have hn : (ints (List.replicate t v)).length = Nat.min k (m - k) := by rw [ints_length, List.length_replicate]; exact ht
        have hsrc : ∀ (j : Nat) (u : Value), (ints (List.replicate t v))[j]? = some u → wr.cell? ((⟨w.heap.size, 0, none⟩ : Addr).add j) = some u := by
          intro j u hu
          have hj : j < t := by
            have := (List.getElem?_eq_some_iff.1 hu).1
            rwa [ints_length, List.length_replicate] at this
          have e : (⟨w.heap.size, 0, none⟩ : Addr).add j = ⟨w.heap.size, j, none⟩ := by
            unfold Addr.add
            split
            · rename_i h0
              subst h0
              rfl
            · simp
          rw [e, cell_of_row wr w.heap.size j _ _ (0, 0) hg.out, ← hu, ints_get _ _ (by rw [List.length_replicate]; exact hj), nth_eq (by rw [List.length_replicate]; exact hj)]
          have := rep_get v k m j (by omega) hk
          simpa using this
        have hfit : k + (ints (List.replicate t v)).length ≤ (ints (rep v k m)).length := by
          rw [ints_length, List.length_replicate, ints_length, rep_len v k m hk]; exact ht2
        have z1 : (0 : Int) ≤ (k : Int) := by omega
        have z2 : (k : Int) ≤ (m : Int) := by omega
        have z3 : ¬ m = k := by omega
        have HSP := hide (rep_splice v k t m ht2)
        have HT := hide ht
        have HN := hide hn
        have HS := hide hsrc
        have HF := hide hfit
        have HBE := hide hbel
        have et : (ints (List.replicate t v)).length = t := by rw [ints_length, List.length_replicate]
        have HET := hide et
        clear ht hn hsrc hfit hbel et
        go_wp2
        go_region_law ((refine step_copy_splice rfl (.tmp 41) (.tmp 44) 56 56 rfl 2 Try.underlying56 i64_size (some ⟨w.heap.size, k, none⟩) (some ⟨w.heap.size, 0, none⟩) (m - k) (m - k) k m (by simp [Act.eval, Act.put]) (by simp [Act.eval, Act.put]) w.heap.size k (ints (rep v k m)) 2 HG.out (ints (List.replicate t v)) HN.out (fun _ => ⟨rfl, ⟨w.heap.size, 0, none⟩, rfl, HS.out⟩) HF.out (ints_oneCell _) w.heap.size w (by first | exact HBE.out.drew | exact below_drewN HBE.out _ | exact HBE.out) (Nat.le_refl _) ?_; intro w4 hg4 hb4))
        have e2 := hg4.out
        rw [HSP.out] at e2
        have HG4 := hide e2
        have hB4 := hide hb4
        clear hg4 hb4 e2
        have ew : IntKind.i64.wrap ((k : Int) + (t : Int)) = (k : Int) + (t : Int) := IntWalk.i64_in _ (by omega)
        have et := HET.out
        go_simp
        try simp only [et, ew]
        go_wp2
        go_roundw
        case rel => exact ⟨k + t, by omega, by omega, by go_num, HG4, hB4.out⟩
        case measure => simp [intOf]; omega
      · obtain rfl : k = m := by omega
        have hown := own_of_heap hg.out (rep_len v k k (Nat.le_refl _)) (by omega) (Nat.le_refl _) (by
          intro z hz
          simp [rep] at hz
          rw [hz.2]; exact hi)
        have e : rep v k k = List.replicate k v := by simp [rep]
        rw [e] at hown
        clear e
        go_wp2
        go_ret
        exact ⟨_, _, rfl, hown, hbel⟩
end Go.Proofs.Ytcbejjkbjompfaa
