/- Contracts: the missing cells, by the reference. Written by gen_scann.py. -/
import Derived.Test.YtdodhjahihfaiaaScanM
namespace Go.Proofs.Ytdodhjahihfaiaa
open Go.RowKit
set_option linter.unusedVariables false
set_option linter.unusedSimpArgs false

def lenOf : Value → Nat
  | .slice _ n _ => n
  | _ => 0
theorem missing_pos {s : Scn} (hc : Can s) (h6 : s.ph ≠ 6) : 0 < (missing s).length := by rw [(missing_step hc h6).1]; simp
theorem can_facts {s : Scn} (h : Can s) : 0 ≤ s.ph ∧ s.ph ≤ 6 ∧ (s.ph = 4 → s.ct ≤ 7) := by
  rcases h with ⟨h, _⟩ | ⟨h, _⟩ | h | h | ⟨h, _, _⟩ | h | h <;> omega
/-- the numbers of a scan lie in their ranges -/
def InR (s : Scn) : Prop := (0 ≤ s.ct ∧ s.ct ≤ 15) ∧ (0 ≤ s.vl ∧ s.vl ≤ 255) ∧ (s.ph = 4 → s.vl < (2 : Int) ^ s.ct.toNat)
theorem InR.step {s : Scn} (hc : Can s) (hr : InR s) (h6 : s.ph ≠ 6) : InR (stepS s (nextM s)) := by
  obtain ⟨⟨a, b⟩, ⟨d, e⟩, f⟩ := hr
  rcases hc with ⟨h, h'⟩ | ⟨h, h'⟩ | h | h | ⟨h, h', h''⟩ | h | h
  · simp [InR, nextM, stepS, h]; omega
  · by_cases h3 : 3 ≤ s.ct
    · simp [InR, nextM, stepS, h, h3]; omega
    · have e2 : s.ct < 15 := by omega
      simp [InR, nextM, stepS, h, h3, e2]; omega
  · simp [InR, nextM, stepS, h]; omega
  · simp [InR, nextM, stepS, h]
  · by_cases h7 : s.ct < 7
    · have hf := f h
      have hp : (2 : Int) ^ s.ct.toNat ≤ 64 := by
        have : s.ct = 0 ∨ s.ct = 1 ∨ s.ct = 2 ∨ s.ct = 3 ∨ s.ct = 4 ∨ s.ct = 5 ∨ s.ct = 6 := by omega
        rcases this with h | h | h | h | h | h | h <;> rw [h] <;> decide
      have e2 : (2 : Int) ^ (s.ct + 1).toNat = 2 * (2 : Int) ^ s.ct.toNat := by
        rw [show (s.ct + 1).toNat = s.ct.toNat + 1 by omega, Int.pow_succ]; omega
      simp [InR, nextM, stepS, h, h7]
      rw [e2]
      omega
    · simp [InR, nextM, stepS, h, h7]
  · simp [InR, nextM, stepS, h]; omega
  · exact absurd h h6
set_option maxHeartbeats 6400000 in
set_option maxRecDepth 100000 in
theorem sCellsMissing_good (A : Option Addr) (n c : Nat) (zs : List Int) (w : World) (h : Rd w A n c zs) (hn : n ≤ 8192) (hb : allB 0 1 zs = true) (hz : bitsB zs = true) (h0 : ¬ 0 ≤ fwR zs) :
    Calls Try.prog 41 #[.slice A n c] w fun e w' => ∃ A' m c', e = .returned (.tuple #[.slice A' m c', .int .i64 0]) ∧ Own w' w.heap.size A' m c' (missing (scnEnd zs)) ∧ Below w.heap.size w w' ∧ m ≤ 1048576 := by
  have t0 : decide (fwR zs ≥ 0) = false := by simpa using h0
  have hcan := hide (scnEnd_can hb h0)
  have hfac := (Inv.scan hb zs.length (Nat.le_refl _)).facts
  have hbsl : (scnEnd zs).bs.length ≤ 8192 := by
    have := hfac.2.2.2.2.1
    rw [List.length_take] at this
    show (scanTo zeroS zs zs.length).bs.length ≤ 8192
    have h1 := h.len
    omega
  have hinr : Hid (InR (scnEnd zs)) := ⟨hfac.2.1, hfac.2.2.1, fun h => (hfac.2.2.2.2.2 h).2⟩
  have hBL := hide hbsl
  clear h0 hfac hbsl
  go_enter Try.func41, Try.ntmps41
  go_wp2_with (go_at_call 82; refine (sIsBits_any _ _ _ _ _ h).mono ?_; rintro e w' ⟨rfl, rfl⟩)
  refine (l19Run_any A n c zs _ h hn hb).mono ?_
  rintro e w2 ⟨A2, m2, c2, rfl, own2, b2, hm2⟩
  have hsz := b2.size
  have hm2' : m2 ≤ 8192 := by rw [← own2.len]; exact hBL.out
  go_wp2_with fail
  go_loopw [6] (fun o wr => ∃ (s : Scn) (out : List Int) (A1 : Option Addr) (m1 c1 : Nat) (A' : Option Addr) (m c' : Nat), o = .slice A1 m1 c1 ∧ Hid (missing (scnEnd zs) = out ++ missing s) ∧ Hid (Can s ∧ InR s) ∧ Hid (ScnAt wr w2.heap.size #[.int .i64 s.ph, .int .i64 s.ct, .int .i64 s.vl, .slice A' m c']) ∧ Own wr w.heap.size A1 m1 c1 out ∧ Own wr w.heap.size A' m c' s.bs ∧ Hid ((Value.slice A' m c').ownBlock = none ∨ (Value.slice A' m c').ownBlock ≠ (Value.slice A1 m1 c1).ownBlock) ∧ m ≤ 8192 + m1 ∧ Below w.heap.size w wr) (fun o _ => 20 - lenOf o)
  case atStart =>
    have b3 := (Below.refl _ w2).alloc (Nat.le_refl _) (.cells #[.int .i64 (scnEnd zs).ph, .int .i64 (scnEnd zs).ct, .int .i64 (scnEnd zs).vl, .slice A2 m2 c2] 30)
    have b4 := (Below.refl _ (w2.alloc (.cells #[.int .i64 (scnEnd zs).ph, .int .i64 (scnEnd zs).ct, .int .i64 (scnEnd zs).vl, .slice A2 m2 c2] 30))).alloc (Nat.le_refl _) (.cells #[] 2)
    have hO := Own.lit1 w2 (.cells #[.int .i64 (scnEnd zs).ph, .int .i64 (scnEnd zs).ct, .int .i64 (scnEnd zs).vl, .slice A2 m2 c2] 30) hsz #[] [] rfl I64.nil 0 rfl (by omega)
    refine ⟨scnEnd zs, [], some ⟨w2.heap.size + 1, 0, none⟩, 0, 0, A2, m2, c2, rfl, rfl, ⟨hcan.out, hinr.out⟩, (ScnAt.fresh w2 _).below b4, hO, (own2.below b3).below b4, ?_, by omega, below_trans (below_trans b2 b3) b4⟩
    show _ ∨ _
    rcases own2.ownBlock with e | ⟨g, e, _, hlt⟩
    · exact .inl e
    · right
      rw [e]
      simp [Value.ownBlock]
      omega
  case round =>
    obtain ⟨s, out, A1, m1, c1, A', m, c', rfl, hms, hcr, hS, hout, hown, hdis, hmm, hbel⟩ := hrel
    have hszr := hbel.size
    have hgl := hS.out.lt
    have hol := hout.len
    have htot : out.length + (missing s).length ≤ 20 := by
      have := missing_len hcan.out
      rw [hms.out, List.length_append] at this
      exact this
    have hle : m1 ≤ 20 := by omega
    obtain ⟨k1, k2, k3⟩ := can_facts hcr.out.1
    obtain ⟨k4, k5, k6⟩ := hcr.out.2
    have y0 : wr.cell? ⟨w2.heap.size, 0, none⟩ = some (.int .i64 s.ph) := hS.out.cell 0
    have y1 : wr.cell? ⟨w2.heap.size, 1, none⟩ = some (.int .i64 s.ct) := hS.out.cell 1
    have y2 : wr.cell? ⟨w2.heap.size, 2, none⟩ = some (.int .i64 s.vl) := hS.out.cell 2
    have y3 : wr.cell? ⟨w2.heap.size, 3, none⟩ = some ((.slice A' m c')) := hS.out.cell 3
    by_cases h6 : s.ph = 6
    · have e0 : Hid (out = missing (scnEnd zs)) := by
        show _ = _
        rw [hms.out, missing_done h6, List.append_nil]
      clear k3 k6 htot
      go_wp2_with fail
      go_ret2
      exact ⟨A1, m1, c1, rfl, by rw [← e0.out]; exact hout, hbel, by omega⟩
    · have t6 : (s.ph != 6) = true := by simpa using h6
      have hpos := missing_pos hcr.out.1 h6
      obtain ⟨e1, e2⟩ := missing_step hcr.out.1 h6
      have hI := hide (InR.step hcr.out.1 hcr.out.2 h6)
      have E1 := hide e1
      have E2 := hide e2
      have K3 := hide k3
      have hm1 : m1 < 20 := by omega
      clear e1 e2 k3 k6 htot h6 hpos
      have hx4 : (s.ph = 1 ∧ 3 ≤ s.ct) ∨ (s.ph = 1 ∧ ¬ 3 ≤ s.ct) ∨ s.ph = 5 ∨ (s.ph ≠ 1 ∧ s.ph ≠ 5) := by omega
      rcases hx4 with ⟨p1, p2⟩ | ⟨p1, p2⟩ | p1 | ⟨p1, p2⟩
      · have nx : nextM s = 1 := by simp [nextM, p1, p2]
        rw [nx] at E1 E2 hI
        have ME := hide E1.out
        have MC := hide E2.out
        have MI := hide hI.out
        clear E1 E2 hI nx
        have t1 : decide (s.ct ≥ 3) = true := decide_eq_true p2
        go_wp2_with (at_builtin; go_must (refine append_new rfl _ _ rfl w.heap.size rfl hout _ [1] 1 rfl (I64.one (by omega) (by omega)) rfl rfl (by omega) hszr ?_); intro A3 c3 w3 own3 gr3; have HS3 := hide (hS.out.keepOwn hout gr3); have z0 : w3.cell? ⟨w2.heap.size, 0, none⟩ = some (.int .i64 s.ph) := HS3.out.cell 0; have z1 : w3.cell? ⟨w2.heap.size, 1, none⟩ = some (.int .i64 s.ct) := HS3.out.cell 1; have z2 : w3.cell? ⟨w2.heap.size, 2, none⟩ = some (.int .i64 s.vl) := HS3.out.cell 2; have z3 : w3.cell? ⟨w2.heap.size, 3, none⟩ = some ((.slice A' m c')) := HS3.out.cell 3)
        have bs3 := hide (hown.keepG gr3 hdis.out)
        have B3 := hide (below_own hbel hszr hout (Nat.le_refl _) gr3)
        have HC : Calls Try.prog 88 #[.agg #[.int .i64 1, .int .i64 s.ct, .int .i64 s.vl, .slice A' m c'], .int .i64 1] w3 (SpecOut (stepS s 1) m w3) := by
          have HC := sstep_any s 1 A' m c' w3 bs3.out.rd ⟨by omega, by omega⟩ k4 k5 K3.out (by omega) (by omega)
          rwa [p1] at HC
        with_reducible refine HC.mono ?_
        clear HC
        rintro e w4 ⟨A4, m4, c4, rfl, own4, b4, hm4⟩
        have HS4 := hide (HS3.out.below b4)
        have B4 := hide (below_trans B3.out b4)
        have O4 := hide (own4.mono (B' := w.heap.size) B3.out.size)
        have O3 := hide (own3.below b4)
        have hd4 : Hid ((Value.slice A4 m4 c4).ownBlock = none ∨ (Value.slice A4 m4 c4).ownBlock ≠ (Value.slice A3 (m1 + 1) c3).ownBlock) := by
          show _ ∨ _
          rcases own4.ownBlock with e | ⟨g, e, hge, _⟩
          · exact .inl e
          · right
            rw [e]
            rcases own3.ownBlock with e' | ⟨g', e', _, hlt⟩
            · rw [e']; simp
            · rw [e']; simp; omega
        clear b4 own4 own3 y0 y1 y2 y3 z0 z1 z2 z3
        have z0 : w4.cell? ⟨w2.heap.size, 0, none⟩ = some (.int .i64 s.ph) := HS4.out.cell 0
        have z1 : w4.cell? ⟨w2.heap.size, 1, none⟩ = some (.int .i64 s.ct) := HS4.out.cell 1
        have z2 : w4.cell? ⟨w2.heap.size, 2, none⟩ = some (.int .i64 s.vl) := HS4.out.cell 2
        have z3 : w4.cell? ⟨w2.heap.size, 3, none⟩ = some ((.slice A' m c')) := HS4.out.cell 3
        have f0 := HS4.out.frozen 0
        have f1 := HS4.out.frozen 1
        have f2 := HS4.out.frozen 2
        have f3 := HS4.out.frozen 3
        go_wp2_with fail
        have fin := HS4.out.put4 (.int .i64 (stepS s 1).ph) (.int .i64 (stepS s 1).ct) (.int .i64 (stepS s 1).vl) (.slice A4 m4 c4)
        have hO4 := O4.out.set4 (g := w2.heap.size) ⟨_, HS4.out⟩ (.int .i64 (stepS s 1).ph) (.int .i64 (stepS s 1).ct) (.int .i64 (stepS s 1).vl) (.slice A4 m4 c4)
        have hO3 := O3.out.set4 (g := w2.heap.size) ⟨_, HS4.out⟩ (.int .i64 (stepS s 1).ph) (.int .i64 (stepS s 1).ct) (.int .i64 (stepS s 1).vl) (.slice A4 m4 c4)
        have hB := below_set4 B4.out (g := w2.heap.size) (by omega) (.int .i64 (stepS s 1).ph) (.int .i64 (stepS s 1).ct) (.int .i64 (stepS s 1).vl) (.slice A4 m4 c4)
        go_roundw
        case rel => exact ⟨stepS s 1, out ++ [1], A3, m1 + 1, c3, A4, m4, c4, rfl, by show _ = _; rw [hms.out, ME.out, List.append_assoc]; rfl, ⟨MC.out, MI.out⟩, fin, hO3, hO4, hd4, by omega, hB⟩
        case measure => simp [lenOf]; omega
      · have nx : nextM s = 0 := by simp [nextM, p1, p2]
        rw [nx] at E1 E2 hI
        have ME := hide E1.out
        have MC := hide E2.out
        have MI := hide hI.out
        clear E1 E2 hI nx
        have t1 : decide (s.ct ≥ 3) = false := decide_eq_false p2
        go_wp2_with (at_builtin; go_must (refine append_new rfl _ _ rfl w.heap.size rfl hout _ [0] 1 rfl (I64.one (by omega) (by omega)) rfl rfl (by omega) hszr ?_); intro A3 c3 w3 own3 gr3; have HS3 := hide (hS.out.keepOwn hout gr3); have z0 : w3.cell? ⟨w2.heap.size, 0, none⟩ = some (.int .i64 s.ph) := HS3.out.cell 0; have z1 : w3.cell? ⟨w2.heap.size, 1, none⟩ = some (.int .i64 s.ct) := HS3.out.cell 1; have z2 : w3.cell? ⟨w2.heap.size, 2, none⟩ = some (.int .i64 s.vl) := HS3.out.cell 2; have z3 : w3.cell? ⟨w2.heap.size, 3, none⟩ = some ((.slice A' m c')) := HS3.out.cell 3)
        have bs3 := hide (hown.keepG gr3 hdis.out)
        have B3 := hide (below_own hbel hszr hout (Nat.le_refl _) gr3)
        have HC : Calls Try.prog 88 #[.agg #[.int .i64 1, .int .i64 s.ct, .int .i64 s.vl, .slice A' m c'], .int .i64 0] w3 (SpecOut (stepS s 0) m w3) := by
          have HC := sstep_any s 0 A' m c' w3 bs3.out.rd ⟨by omega, by omega⟩ k4 k5 K3.out (by omega) (by omega)
          rwa [p1] at HC
        with_reducible refine HC.mono ?_
        clear HC
        rintro e w4 ⟨A4, m4, c4, rfl, own4, b4, hm4⟩
        have HS4 := hide (HS3.out.below b4)
        have B4 := hide (below_trans B3.out b4)
        have O4 := hide (own4.mono (B' := w.heap.size) B3.out.size)
        have O3 := hide (own3.below b4)
        have hd4 : Hid ((Value.slice A4 m4 c4).ownBlock = none ∨ (Value.slice A4 m4 c4).ownBlock ≠ (Value.slice A3 (m1 + 1) c3).ownBlock) := by
          show _ ∨ _
          rcases own4.ownBlock with e | ⟨g, e, hge, _⟩
          · exact .inl e
          · right
            rw [e]
            rcases own3.ownBlock with e' | ⟨g', e', _, hlt⟩
            · rw [e']; simp
            · rw [e']; simp; omega
        clear b4 own4 own3 y0 y1 y2 y3 z0 z1 z2 z3
        have z0 : w4.cell? ⟨w2.heap.size, 0, none⟩ = some (.int .i64 s.ph) := HS4.out.cell 0
        have z1 : w4.cell? ⟨w2.heap.size, 1, none⟩ = some (.int .i64 s.ct) := HS4.out.cell 1
        have z2 : w4.cell? ⟨w2.heap.size, 2, none⟩ = some (.int .i64 s.vl) := HS4.out.cell 2
        have z3 : w4.cell? ⟨w2.heap.size, 3, none⟩ = some ((.slice A' m c')) := HS4.out.cell 3
        have f0 := HS4.out.frozen 0
        have f1 := HS4.out.frozen 1
        have f2 := HS4.out.frozen 2
        have f3 := HS4.out.frozen 3
        go_wp2_with fail
        have fin := HS4.out.put4 (.int .i64 (stepS s 0).ph) (.int .i64 (stepS s 0).ct) (.int .i64 (stepS s 0).vl) (.slice A4 m4 c4)
        have hO4 := O4.out.set4 (g := w2.heap.size) ⟨_, HS4.out⟩ (.int .i64 (stepS s 0).ph) (.int .i64 (stepS s 0).ct) (.int .i64 (stepS s 0).vl) (.slice A4 m4 c4)
        have hO3 := O3.out.set4 (g := w2.heap.size) ⟨_, HS4.out⟩ (.int .i64 (stepS s 0).ph) (.int .i64 (stepS s 0).ct) (.int .i64 (stepS s 0).vl) (.slice A4 m4 c4)
        have hB := below_set4 B4.out (g := w2.heap.size) (by omega) (.int .i64 (stepS s 0).ph) (.int .i64 (stepS s 0).ct) (.int .i64 (stepS s 0).vl) (.slice A4 m4 c4)
        go_roundw
        case rel => exact ⟨stepS s 0, out ++ [0], A3, m1 + 1, c3, A4, m4, c4, rfl, by show _ = _; rw [hms.out, ME.out, List.append_assoc]; rfl, ⟨MC.out, MI.out⟩, fin, hO3, hO4, hd4, by omega, hB⟩
        case measure => simp [lenOf]; omega
      · have nx : nextM s = 1 := by simp [nextM, p1]
        rw [nx] at E1 E2 hI
        have ME := hide E1.out
        have MC := hide E2.out
        have MI := hide hI.out
        clear E1 E2 hI nx
        skip
        go_wp2_with (at_builtin; go_must (refine append_new rfl _ _ rfl w.heap.size rfl hout _ [1] 1 rfl (I64.one (by omega) (by omega)) rfl rfl (by omega) hszr ?_); intro A3 c3 w3 own3 gr3; have HS3 := hide (hS.out.keepOwn hout gr3); have z0 : w3.cell? ⟨w2.heap.size, 0, none⟩ = some (.int .i64 s.ph) := HS3.out.cell 0; have z1 : w3.cell? ⟨w2.heap.size, 1, none⟩ = some (.int .i64 s.ct) := HS3.out.cell 1; have z2 : w3.cell? ⟨w2.heap.size, 2, none⟩ = some (.int .i64 s.vl) := HS3.out.cell 2; have z3 : w3.cell? ⟨w2.heap.size, 3, none⟩ = some ((.slice A' m c')) := HS3.out.cell 3)
        have bs3 := hide (hown.keepG gr3 hdis.out)
        have B3 := hide (below_own hbel hszr hout (Nat.le_refl _) gr3)
        have HC : Calls Try.prog 88 #[.agg #[.int .i64 5, .int .i64 s.ct, .int .i64 s.vl, .slice A' m c'], .int .i64 1] w3 (SpecOut (stepS s 1) m w3) := by
          have HC := sstep_any s 1 A' m c' w3 bs3.out.rd ⟨by omega, by omega⟩ k4 k5 K3.out (by omega) (by omega)
          rwa [p1] at HC
        with_reducible refine HC.mono ?_
        clear HC
        rintro e w4 ⟨A4, m4, c4, rfl, own4, b4, hm4⟩
        have HS4 := hide (HS3.out.below b4)
        have B4 := hide (below_trans B3.out b4)
        have O4 := hide (own4.mono (B' := w.heap.size) B3.out.size)
        have O3 := hide (own3.below b4)
        have hd4 : Hid ((Value.slice A4 m4 c4).ownBlock = none ∨ (Value.slice A4 m4 c4).ownBlock ≠ (Value.slice A3 (m1 + 1) c3).ownBlock) := by
          show _ ∨ _
          rcases own4.ownBlock with e | ⟨g, e, hge, _⟩
          · exact .inl e
          · right
            rw [e]
            rcases own3.ownBlock with e' | ⟨g', e', _, hlt⟩
            · rw [e']; simp
            · rw [e']; simp; omega
        clear b4 own4 own3 y0 y1 y2 y3 z0 z1 z2 z3
        have z0 : w4.cell? ⟨w2.heap.size, 0, none⟩ = some (.int .i64 s.ph) := HS4.out.cell 0
        have z1 : w4.cell? ⟨w2.heap.size, 1, none⟩ = some (.int .i64 s.ct) := HS4.out.cell 1
        have z2 : w4.cell? ⟨w2.heap.size, 2, none⟩ = some (.int .i64 s.vl) := HS4.out.cell 2
        have z3 : w4.cell? ⟨w2.heap.size, 3, none⟩ = some ((.slice A' m c')) := HS4.out.cell 3
        have f0 := HS4.out.frozen 0
        have f1 := HS4.out.frozen 1
        have f2 := HS4.out.frozen 2
        have f3 := HS4.out.frozen 3
        go_wp2_with fail
        have fin := HS4.out.put4 (.int .i64 (stepS s 1).ph) (.int .i64 (stepS s 1).ct) (.int .i64 (stepS s 1).vl) (.slice A4 m4 c4)
        have hO4 := O4.out.set4 (g := w2.heap.size) ⟨_, HS4.out⟩ (.int .i64 (stepS s 1).ph) (.int .i64 (stepS s 1).ct) (.int .i64 (stepS s 1).vl) (.slice A4 m4 c4)
        have hO3 := O3.out.set4 (g := w2.heap.size) ⟨_, HS4.out⟩ (.int .i64 (stepS s 1).ph) (.int .i64 (stepS s 1).ct) (.int .i64 (stepS s 1).vl) (.slice A4 m4 c4)
        have hB := below_set4 B4.out (g := w2.heap.size) (by omega) (.int .i64 (stepS s 1).ph) (.int .i64 (stepS s 1).ct) (.int .i64 (stepS s 1).vl) (.slice A4 m4 c4)
        go_roundw
        case rel => exact ⟨stepS s 1, out ++ [1], A3, m1 + 1, c3, A4, m4, c4, rfl, by show _ = _; rw [hms.out, ME.out, List.append_assoc]; rfl, ⟨MC.out, MI.out⟩, fin, hO3, hO4, hd4, by omega, hB⟩
        case measure => simp [lenOf]; omega
      · have nx : nextM s = 0 := by simp [nextM, p1, p2]
        rw [nx] at E1 E2 hI
        have ME := hide E1.out
        have MC := hide E2.out
        have MI := hide hI.out
        clear E1 E2 hI nx
        have t1 : (s.ph == 1) = false := by simpa using p1
        have t5 : (s.ph == 5) = false := by simpa using p2
        go_wp2_with (at_builtin; go_must (refine append_new rfl _ _ rfl w.heap.size rfl hout _ [0] 1 rfl (I64.one (by omega) (by omega)) rfl rfl (by omega) hszr ?_); intro A3 c3 w3 own3 gr3; have HS3 := hide (hS.out.keepOwn hout gr3); have z0 : w3.cell? ⟨w2.heap.size, 0, none⟩ = some (.int .i64 s.ph) := HS3.out.cell 0; have z1 : w3.cell? ⟨w2.heap.size, 1, none⟩ = some (.int .i64 s.ct) := HS3.out.cell 1; have z2 : w3.cell? ⟨w2.heap.size, 2, none⟩ = some (.int .i64 s.vl) := HS3.out.cell 2; have z3 : w3.cell? ⟨w2.heap.size, 3, none⟩ = some ((.slice A' m c')) := HS3.out.cell 3)
        have bs3 := hide (hown.keepG gr3 hdis.out)
        have B3 := hide (below_own hbel hszr hout (Nat.le_refl _) gr3)
        have HC : Calls Try.prog 88 #[.agg #[.int .i64 s.ph, .int .i64 s.ct, .int .i64 s.vl, .slice A' m c'], .int .i64 0] w3 (SpecOut (stepS s 0) m w3) := by
          have HC := sstep_any s 0 A' m c' w3 bs3.out.rd ⟨by omega, by omega⟩ k4 k5 K3.out (by omega) (by omega)
          exact HC
        with_reducible refine HC.mono ?_
        clear HC
        rintro e w4 ⟨A4, m4, c4, rfl, own4, b4, hm4⟩
        have HS4 := hide (HS3.out.below b4)
        have B4 := hide (below_trans B3.out b4)
        have O4 := hide (own4.mono (B' := w.heap.size) B3.out.size)
        have O3 := hide (own3.below b4)
        have hd4 : Hid ((Value.slice A4 m4 c4).ownBlock = none ∨ (Value.slice A4 m4 c4).ownBlock ≠ (Value.slice A3 (m1 + 1) c3).ownBlock) := by
          show _ ∨ _
          rcases own4.ownBlock with e | ⟨g, e, hge, _⟩
          · exact .inl e
          · right
            rw [e]
            rcases own3.ownBlock with e' | ⟨g', e', _, hlt⟩
            · rw [e']; simp
            · rw [e']; simp; omega
        clear b4 own4 own3 y0 y1 y2 y3 z0 z1 z2 z3
        have z0 : w4.cell? ⟨w2.heap.size, 0, none⟩ = some (.int .i64 s.ph) := HS4.out.cell 0
        have z1 : w4.cell? ⟨w2.heap.size, 1, none⟩ = some (.int .i64 s.ct) := HS4.out.cell 1
        have z2 : w4.cell? ⟨w2.heap.size, 2, none⟩ = some (.int .i64 s.vl) := HS4.out.cell 2
        have z3 : w4.cell? ⟨w2.heap.size, 3, none⟩ = some ((.slice A' m c')) := HS4.out.cell 3
        have f0 := HS4.out.frozen 0
        have f1 := HS4.out.frozen 1
        have f2 := HS4.out.frozen 2
        have f3 := HS4.out.frozen 3
        go_wp2_with fail
        have fin := HS4.out.put4 (.int .i64 (stepS s 0).ph) (.int .i64 (stepS s 0).ct) (.int .i64 (stepS s 0).vl) (.slice A4 m4 c4)
        have hO4 := O4.out.set4 (g := w2.heap.size) ⟨_, HS4.out⟩ (.int .i64 (stepS s 0).ph) (.int .i64 (stepS s 0).ct) (.int .i64 (stepS s 0).vl) (.slice A4 m4 c4)
        have hO3 := O3.out.set4 (g := w2.heap.size) ⟨_, HS4.out⟩ (.int .i64 (stepS s 0).ph) (.int .i64 (stepS s 0).ct) (.int .i64 (stepS s 0).vl) (.slice A4 m4 c4)
        have hB := below_set4 B4.out (g := w2.heap.size) (by omega) (.int .i64 (stepS s 0).ph) (.int .i64 (stepS s 0).ct) (.int .i64 (stepS s 0).vl) (.slice A4 m4 c4)
        go_roundw
        case rel => exact ⟨stepS s 0, out ++ [0], A3, m1 + 1, c3, A4, m4, c4, rfl, by show _ = _; rw [hms.out, ME.out, List.append_assoc]; rfl, ⟨MC.out, MI.out⟩, fin, hO3, hO4, hd4, by omega, hB⟩
        case measure => simp [lenOf]; omega
theorem sCellsMissing_c (A : Option Addr) (n c : Nat) (zs : List Int) (w : World) (h : Rd w A n c zs) (hn : n ≤ 1048576) :
    Calls Try.prog 41 #[.slice A n c] w fun e w' => ∃ A' m c', e = .returned (.tuple #[.slice A' m c', .int .i64 (msC zs)]) ∧ Own w' w.heap.size A' m c' (msR zs) ∧ Below w.heap.size w w' ∧ m ≤ 1048576 := by
  have hlen := h.le
  by_cases hz : bitsB zs = true
  · obtain ⟨h1, h2⟩ := bitsB_get hz
    by_cases h0 : 0 ≤ fwR zs
    · have t0 : decide (fwR zs ≥ 0) = true := by simpa using h0
      have E := hide (ms_wrong hz h0)
      clear h0
      go_enter Try.func41, Try.ntmps41
      go_wp2_with (go_at_call 82; refine (sIsBits_any _ _ _ _ _ h).mono ?_; rintro e w' ⟨rfl, rfl⟩)
      refine (l19Run_any A n c zs _ h (by omega) h2).mono ?_
      rintro e w2 ⟨A2, m2, c2, rfl, own2, b2, hm2⟩
      go_wp2_with fail
      go_ret2
      exact ⟨none, 0, 0, ret_sc E.out.1.symm, by rw [E.out.2]; exact Own.nil _ _, below_trans b2 ((Below.refl _ _).alloc (Nat.le_refl _) _), by omega⟩
    · obtain ⟨e1, e2⟩ := ms_yes hz h0
      rw [e1, e2]
      exact sCellsMissing_good A n c zs w h (by omega) h2 hz h0
  · rw [Bool.not_eq_true] at hz
    have E := hide (ms_bad hz)
    go_enter Try.func41, Try.ntmps41
    go_wp2_with (go_at_call 82; refine (sIsBits_any _ _ _ _ _ h).mono ?_; rintro e w' ⟨rfl, rfl⟩)
    go_ret2
    exact ⟨none, 0, 0, ret_sc E.out.1.symm, by rw [E.out.2]; exact Own.nil _ _, Below.refl _ _, by omega⟩
end Go.Proofs.Ytdodhjahihfaiaa
