/- Sorting demands in place: the merge's long way, and the merge. Written by gen_sorte.py. -/
import Derived.Test.YtcbejjkbjompfaaSortD
namespace Go.Proofs.Ytcbejjkbjompfaa
open Go.RowKit
set_option linter.unusedVariables false
set_option linter.unusedSimpArgs false
def SymAt (B g n c L : Nat) : Prop := ∀ (a m b : Nat) (ds : List Dem) (w : World), b - a < L → OwnF 38 3 w B (some ⟨g, 0, none⟩) n c (flatD ds) → Sml ds → a < m → m < b → b ≤ n → Srt a m ds → Srt m b ds →
    Calls Try.prog 43 #[.slice (some ⟨g, 0, none⟩) n c, .int .i64 (a : Int), .int .i64 (m : Int), .int .i64 (b : Int), .func (.func 24) #[] #[]] w (RowOut w B g n c fun es => SP a b ds es ∧ Srt a b es)
theorem srt_out {a md e b : Nat} {es fs : List Dem} (h : SP a md es fs) (hs : Srt e b es) (he : md ≤ e) : Srt e b fs := fun u v g1 g2 g3 => by rw [h.out u (by omega), h.out v (by omega)]; exact hs u v g1 g2 g3
theorem pair_in {P Q : Prop} (h1 : P) (h2 : Q) : P ∧ Q := ⟨h1, h2⟩
set_option maxHeartbeats 6400000 in
set_option maxRecDepth 100000 in
theorem symG_any (B g n c a m b : Nat) (ds : List Dem) (w : World) (h : OwnF 38 3 w B (some ⟨g, 0, none⟩) n c (flatD ds)) (hs : Sml ds) (ham : a + 1 < m) (hmb : m + 1 < b) (hbn : b ≤ n) (hn : n ≤ 1000) (h1 : Srt a m ds) (h2 : Srt m b ds) (IH : SymAt B g n c (b - a)) :
    Calls Try.prog 43 #[.slice (some ⟨g, 0, none⟩) n c, .int .i64 (a : Int), .int .i64 (m : Int), .int .i64 (b : Int), .func (.func 24) #[] #[]] w (RowOut w B g n c fun es => SP a b ds es ∧ Srt a b es) := by
  have hcap := h.cap
  have hlen : ds.length = n := by have := h.len; rw [flatD_len] at this; omega
  have hm0 : ((m : Int) - (a : Int) == 1) = false := by
    rw [beq_eq_false_iff_ne]; omega
  have hm1 : ((b : Int) - (m : Int) == 1) = false := by
    rw [beq_eq_false_iff_ne]; omega
  obtain ⟨md, hmd⟩ : ∃ md, md = (a + b) / 2 := ⟨_, rfl⟩
  obtain ⟨nn, hnn⟩ : ∃ nn, nn = md + m := ⟨_, rfl⟩
  obtain ⟨pp, hpp⟩ : ∃ pp, pp + 1 = nn := ⟨nn - 1, by omega⟩
  have v1 : ((a : Int) + (b : Int)) / 2 = (md : Int) := by omega
  have v2 : (md : Int) + (m : Int) = (nn : Int) := by omega
  have v3 : (nn : Int) - 1 = (pp : Int) := by omega
  have hmdn : a < md ∧ md < b ∧ nn ≤ 2000 ∧ m ≤ 1000 := by omega
  have HMD := hide hmd
  have HNN := hide hnn
  have HPP := hide hpp
  have HS1 := hide h1
  have HS2 := hide h2
  have HI := hide IH
  clear hmd hnn hpp h1 h2 IH
  go_enter Try.func43, Try.ntmps43
  go_upto_if 140 with (fail)
  go_cut [20, 21] (fun p q wx => ∃ s0 r0 : Nat, p = .int .i64 s0 ∧ q = .int .i64 r0 ∧ Hid (SR a m b s0 r0) ∧ OwnF 38 3 wx B (some ⟨g, 0, none⟩) n c (flatD ds) ∧ w.grownBy wx (some g))
  case first =>
    by_cases hgt : md < m
    · have v4 : (nn : Int) - (b : Int) = ((nn - b : Nat) : Int) := by have := HMD.out; have := HNN.out; omega
      go_wp2_with fail
      go_meet
      exact ⟨nn - b, md, by go_num, rfl, hide (.inl ⟨by rw [← HMD.out]; exact hgt, by have := HMD.out; have := HNN.out; omega, HMD.out⟩), h, grown_refl _ _⟩
    · go_wp2_with fail
      go_meet
      exact ⟨a, m, rfl, rfl, hide (.inr ⟨by rw [← HMD.out]; omega, rfl, rfl⟩), h, grown_refl _ _⟩
  case rest =>
  obtain ⟨s0, r0, rfl, rfl, hsr, hown0, hgr0⟩ := hcut
  have hl := hsr.out.le (by omega) (by omega)
  rw [← HMD.out, ← HNN.out] at hl
  go_wp2
  go_loopw [20, 21] (fun p q wr => ∃ i j : Nat, p = .int .i64 i ∧ q = .int .i64 j ∧ s0 ≤ i ∧ i ≤ j ∧ j ≤ r0 ∧ Hid (BS (QS pp ds) s0 r0 i j) ∧ OwnF 38 3 wr B (some ⟨g, 0, none⟩) n c (flatD ds) ∧ w.grownBy wr (some g)) (fun p q _ => (intOf q).toNat - (intOf p).toNat)
  case atStart => exact ⟨s0, r0, rfl, rfl, by omega, by omega, by omega, hide (BS.start _ (by omega)), hown0, hgr0⟩
  case round =>
    obtain ⟨i, j, rfl, rfl, hai, hij, hjb, hbs, hown, hgr⟩ := hrel
    by_cases hlt : i < j
    · obtain ⟨t, ht⟩ : ∃ t, t = (i + j) / 2 := ⟨_, rfl⟩
      have htb : i ≤ t ∧ t < j := by omega
      have hsum : i + j ≤ 2000 := by omega
      obtain ⟨r, hr⟩ : ∃ r, r + t = pp := ⟨pp - t, by have := HPP.out; omega⟩
      have hrn : r < n := by have := HPP.out; omega
      have htn : t < n := by omega
      have tv : IntKind.i64.wrap ((pp : Int) - (t : Int)) = (r : Int) := by
        rw [IntWalk.i64_in _ ⟨by omega, by omega⟩]; omega
      have HR := hide hr
      clear hr
      obtain ⟨x, hx⟩ : ∃ x, x = dem ds r := ⟨_, rfl⟩
      obtain ⟨y, hy⟩ : ∃ y, y = dem ds t := ⟨_, rfl⟩
      have sx := hs x (by rw [hx]; exact dem_mem (by omega))
      have sy := hs y (by rw [hy]; exact dem_mem (by omega))
      obtain ⟨cn0, cn1, cn2⟩ := nth_flatD ds (k := r) (by omega)
      have c0 := hown.cell (j := r * 3) (by omega)
      have c1 := hown.cell (j := r * 3 + 1) (by omega)
      have c2 := hown.cell (j := r * 3 + 2) (by omega)
      rw [cn0, ← hx] at c0
      rw [cn1, ← hx] at c1
      rw [cn2, ← hx] at c2
      clear cn0 cn1 cn2
      obtain ⟨dn0, dn1, dn2⟩ := nth_flatD ds (k := t) (by omega)
      have d0 := hown.cell (j := t * 3) (by omega)
      have d1 := hown.cell (j := t * 3 + 1) (by omega)
      have d2 := hown.cell (j := t * 3 + 2) (by omega)
      rw [dn0, ← hy] at d0
      rw [dn1, ← hy] at d1
      rw [dn2, ← hy] at d2
      clear dn0 dn1 dn2
      have rz1 : (0 : Int) ≤ (r : Int) := by omega
      have rz2 : (r : Int) < (n : Int) := by omega
      have tz1 : (0 : Int) ≤ (t : Int) := by omega
      have tz2 : (t : Int) < (n : Int) := by omega
      have HX := hide hx
      have HY := hide hy
      have HO := hide hown
      have HG := hide hgr
      have gb := (hOb hown)
      clear hx hy hown hgr
      have htw : ((i : Int) + (j : Int)) / 2 = (t : Int) := by omega
      clear ht hlt
      go_upto_region 35 with (fail)
      go_region_held3 (fun w' => w'.cell? ⟨g, r * 3, none⟩ = some (.int .i64 x.nd) ∧ w'.cell? ⟨g, r * 3 + 1, none⟩ = some (.int .i64 x.ev) ∧ w'.cell? ⟨g, r * 3 + 2, none⟩ = some (.int .i64 x.sz) ∧ w'.cell? ⟨g, t * 3, none⟩ = some (.int .i64 y.nd) ∧ w'.cell? ⟨g, t * 3 + 1, none⟩ = some (.int .i64 y.ev) ∧ w'.cell? ⟨g, t * 3 + 2, none⟩ = some (.int .i64 y.sz)) (go_keep) ((go_at_call 24; (with_reducible refine (cmp_any x y _ sx sy).mono ?_); rintro e w2 ⟨rfl, b2'⟩; have b2 := below_drewS2 b2'; have e0 := (b2.cell (p := ⟨g, r * 3, none⟩) gb).trans c0; have e1 := (b2.cell (p := ⟨g, r * 3 + 1, none⟩) gb).trans c1; have e2 := (b2.cell (p := ⟨g, r * 3 + 2, none⟩) gb).trans c2; have f0 := (b2.cell (p := ⟨g, t * 3, none⟩) gb).trans d0; have f1 := (b2.cell (p := ⟨g, t * 3 + 1, none⟩) gb).trans d1; have f2 := (b2.cell (p := ⟨g, t * 3 + 2, none⟩) gb).trans d2; have HO2 := hide (HO.out.below b2); have HG2 := hide (grown_trans HG.out (grownBy_of_below b2 (some g))); clear b2 b2'))
      have ex := HX.out
      have ey := HY.out
      have er : pp - t = r := by have := HR.out; omega
      by_cases hc : x.ev - y.ev < 0
      · have tc : decide (x.ev - y.ev < 0) = true := decide_eq_true hc
        simp only [tc]
        go_wp2_with fail
        go_roundw
        case rel => exact ⟨i, t, rfl, rfl, by omega, by omega, by omega, hide (hbs.out.down htb.1 htb.2 (by unfold QS; rw [er, ← ex, ← ey]; omega)), HO2.out, HG2.out⟩
        case measure => simp [intOf]; omega
      · have tc : decide (x.ev - y.ev < 0) = false := decide_eq_false hc
        simp only [tc]
        go_wp2_with fail
        go_roundw
        case rel => exact ⟨t + 1, j, by go_num, rfl, by omega, by omega, by omega, hide (hbs.out.up htb.1 htb.2 (by unfold QS; rw [er, ← ex, ← ey]; omega)), HO2.out, HG2.out⟩
        case measure => simp [intOf]; omega
    · obtain rfl : j = i := by omega
      obtain ⟨e, he⟩ : ∃ e, e = nn - j := ⟨_, rfl⟩
      have hcutj : Cut a m b md j e ds := by
        have hc := cut_of hsr.out (by omega) (by omega) HS1.out HS2.out (s := j) (by
          rw [← HMD.out, ← HNN.out, ← HPP.out]; exact hbs.out)
        rw [← HMD.out, ← HNN.out, ← he] at hc
        exact hc
      have k1 := hcutj.has
      have k2 := hcutj.sm
      have k3 := hcutj.sd
      have k4 := hcutj.me
      have k5 := hcutj.eb
      have k6 := hcutj.de
      have v5 : (nn : Int) - (j : Int) = (e : Int) := by omega
      have HC := hide hcutj
      have HE := hide he
      have HO := hide hown
      have HG := hide hgr
      have k9 : a < md := hmdn.1
      have k10 : md < b := hmdn.2.1
      have k7 : nn ≤ 2000 := hmdn.2.2.1
      have k8 : j ≤ nn := by omega
      clear hcutj he hown hgr hbs v1 v2 v3 hm0 hm1 hl hai hij hjb hlt hmdn hsr hown0 hgr0 h
      by_cases e1 : j < m
      · by_cases e2 : m < e
        · have hk0 := rotate_any B g n c j m e (.func (.func 24) #[] #[]) ds wr HO.out e1 e2 (by omega) hn
          go_upto_region 41 with (go_at_call 45; refine hk0.mono ?_; rintro x w2 ⟨rfl, es, O2, F2, G2⟩)
          have hes := hide F2
          have HO2 := hide O2
          have HG2 := hide (grown_trans HG.out G2)
          clear F2 O2 G2 hk0
          have hel : es.length = n := hes.out.1.trans hlen
          have hT := turned_of HC.out HS1.out HS2.out hes.out.2
          have hsp : SP a b ds es := rot_SP k1 k2 k4 k5 (by omega) hes.out.1 hes.out.2 HC.out.strict
          have hsml := hs.sp hsp
          have HT := hide hT
          have HP := hide hsp
          clear hT hsp HO HG
          by_cases d1 : a < j
          · by_cases d2 : j < md
            · have hk1 := HI.out a j md es _ (by omega) HO2.out hsml d1 d2 (by omega) HT.out.s1 HT.out.s2
              go_upto_region 43 with (go_at_call 43; refine hk1.mono ?_; rintro x w3 ⟨rfl, fs, O3, F3, G3⟩)
              have hfs := hide F3
              have HO3 := hide O3
              have HG3 := hide (grown_trans HG2.out G3)
              clear F3 O3 G3 hk1
              have hfl : fs.length = n := hfs.out.1.len.trans hel
              have hsml2 := hsml.sp hfs.out.1
              have S3 := hide (srt_out hfs.out.1 HT.out.s3 (Nat.le_refl _))
              have S4 := hide (srt_out hfs.out.1 HT.out.s4 (by omega))
              by_cases c1 : md < e
              · by_cases c2 : e < b
                · have hk := HI.out md e b fs _ (by omega) HO3.out hsml2 c1 c2 hbn S3.out S4.out
                  go_wp2_with (go_at_call 43; refine hk.mono ?_; rintro x w2 ⟨rfl, gs, O4, F4, G4⟩)
                  go_end0
                  exact ⟨rfl, gs, O4, ⟨HP.out.trans ((hfs.out.1.mono (Nat.le_refl _) (by omega)).trans (F4.1.mono (by omega) (Nat.le_refl _))), sym_join (by omega) (by omega) HT.out.cross hfs.out.1 hfs.out.2 F4.1 F4.2⟩, grown_trans HG3.out G4⟩
                · have hne := decide_eq_false (fun hh => c2 (Int.ofNat_lt.1 hh))
                  go_wp2
                  go_end0
                  exact ⟨rfl, fs, HO3.out, ⟨HP.out.trans (hfs.out.1.mono (Nat.le_refl _) (by omega)), sym_join (by omega) (by omega) HT.out.cross hfs.out.1 hfs.out.2 (SP.refl _ _ _) (by have h3 := S3.out; rwa [show e = b by omega] at h3)⟩, HG3.out⟩
              · have hne := decide_eq_false (fun hh => c1 (Int.ofNat_lt.1 hh))
                go_wp2
                go_end0
                exact ⟨rfl, fs, HO3.out, ⟨HP.out.trans (hfs.out.1.mono (Nat.le_refl _) (by omega)), sym_join (by omega) (by omega) HT.out.cross hfs.out.1 hfs.out.2 (SP.refl _ _ _) (by have h3 := S4.out; rwa [show e = md by omega] at h3)⟩, HG3.out⟩
            · obtain ⟨fs, hfe⟩ : ∃ fs, fs = es := ⟨_, rfl⟩
              have hne1 := decide_eq_false (fun hh => d2 (Int.ofNat_lt.1 hh))
              go_upto_region 43 with (fail)
              have hfs : Hid (SP a md es fs ∧ Srt a md fs) := hide ⟨by rw [hfe]; exact SP.refl _ _ _, by rw [hfe]; have h3 := HT.out.s1; rwa [show j = md by omega] at h3⟩
              have HO3 := hide (hfe ▸ HO2.out)
              have HG3 := HG2
              clear hne1
              have hfl : fs.length = n := hfs.out.1.len.trans hel
              have hsml2 := hsml.sp hfs.out.1
              have S3 := hide (srt_out hfs.out.1 HT.out.s3 (Nat.le_refl _))
              have S4 := hide (srt_out hfs.out.1 HT.out.s4 (by omega))
              by_cases c1 : md < e
              · by_cases c2 : e < b
                · have hk := HI.out md e b fs _ (by omega) HO3.out hsml2 c1 c2 hbn S3.out S4.out
                  go_wp2_with (go_at_call 43; refine hk.mono ?_; rintro x w2 ⟨rfl, gs, O4, F4, G4⟩)
                  go_end0
                  exact ⟨rfl, gs, O4, ⟨HP.out.trans ((hfs.out.1.mono (Nat.le_refl _) (by omega)).trans (F4.1.mono (by omega) (Nat.le_refl _))), sym_join (by omega) (by omega) HT.out.cross hfs.out.1 hfs.out.2 F4.1 F4.2⟩, grown_trans HG3.out G4⟩
                · have hne := decide_eq_false (fun hh => c2 (Int.ofNat_lt.1 hh))
                  go_wp2
                  go_end0
                  exact ⟨rfl, fs, HO3.out, ⟨HP.out.trans (hfs.out.1.mono (Nat.le_refl _) (by omega)), sym_join (by omega) (by omega) HT.out.cross hfs.out.1 hfs.out.2 (SP.refl _ _ _) (by have h3 := S3.out; rwa [show e = b by omega] at h3)⟩, HG3.out⟩
              · have hne := decide_eq_false (fun hh => c1 (Int.ofNat_lt.1 hh))
                go_wp2
                go_end0
                exact ⟨rfl, fs, HO3.out, ⟨HP.out.trans (hfs.out.1.mono (Nat.le_refl _) (by omega)), sym_join (by omega) (by omega) HT.out.cross hfs.out.1 hfs.out.2 (SP.refl _ _ _) (by have h3 := S4.out; rwa [show e = md by omega] at h3)⟩, HG3.out⟩
          · obtain ⟨fs, hfe⟩ : ∃ fs, fs = es := ⟨_, rfl⟩
            have hne1 := decide_eq_false (fun hh => d1 (Int.ofNat_lt.1 hh))
            go_upto_region 43 with (fail)
            have hfs : Hid (SP a md es fs ∧ Srt a md fs) := hide ⟨by rw [hfe]; exact SP.refl _ _ _, by rw [hfe]; have h3 := HT.out.s2; rwa [show j = a by omega] at h3⟩
            have HO3 := hide (hfe ▸ HO2.out)
            have HG3 := HG2
            clear hne1
            have hfl : fs.length = n := hfs.out.1.len.trans hel
            have hsml2 := hsml.sp hfs.out.1
            have S3 := hide (srt_out hfs.out.1 HT.out.s3 (Nat.le_refl _))
            have S4 := hide (srt_out hfs.out.1 HT.out.s4 (by omega))
            by_cases c1 : md < e
            · by_cases c2 : e < b
              · have hk := HI.out md e b fs _ (by omega) HO3.out hsml2 c1 c2 hbn S3.out S4.out
                go_wp2_with (go_at_call 43; refine hk.mono ?_; rintro x w2 ⟨rfl, gs, O4, F4, G4⟩)
                go_end0
                exact ⟨rfl, gs, O4, ⟨HP.out.trans ((hfs.out.1.mono (Nat.le_refl _) (by omega)).trans (F4.1.mono (by omega) (Nat.le_refl _))), sym_join (by omega) (by omega) HT.out.cross hfs.out.1 hfs.out.2 F4.1 F4.2⟩, grown_trans HG3.out G4⟩
              · have hne := decide_eq_false (fun hh => c2 (Int.ofNat_lt.1 hh))
                go_wp2
                go_end0
                exact ⟨rfl, fs, HO3.out, ⟨HP.out.trans (hfs.out.1.mono (Nat.le_refl _) (by omega)), sym_join (by omega) (by omega) HT.out.cross hfs.out.1 hfs.out.2 (SP.refl _ _ _) (by have h3 := S3.out; rwa [show e = b by omega] at h3)⟩, HG3.out⟩
            · have hne := decide_eq_false (fun hh => c1 (Int.ofNat_lt.1 hh))
              go_wp2
              go_end0
              exact ⟨rfl, fs, HO3.out, ⟨HP.out.trans (hfs.out.1.mono (Nat.le_refl _) (by omega)), sym_join (by omega) (by omega) HT.out.cross hfs.out.1 hfs.out.2 (SP.refl _ _ _) (by have h3 := S4.out; rwa [show e = md by omega] at h3)⟩, HG3.out⟩
        · obtain ⟨es, hee⟩ : ∃ es, es = ds := ⟨_, rfl⟩
          have hne0 := decide_eq_false (fun hh => e2 (Int.ofNat_lt.1 hh))
          go_upto_region 41 with (fail)
          have hes : Hid (es.length = ds.length ∧ ∀ u, dem es u = rotf (dem ds) j m e u) := hide ⟨by rw [hee], fun u => by rw [hee]; exact (rot_id k2 k4 (.inr (by omega)) u).symm⟩
          have HO2 := hide (hee ▸ HO.out)
          have HG2 := HG
          clear hne0
          have hel : es.length = n := hes.out.1.trans hlen
          have hT := turned_of HC.out HS1.out HS2.out hes.out.2
          have hsp : SP a b ds es := rot_SP k1 k2 k4 k5 (by omega) hes.out.1 hes.out.2 HC.out.strict
          have hsml := hs.sp hsp
          have HT := hide hT
          have HP := hide hsp
          clear hT hsp HO HG
          by_cases d1 : a < j
          · by_cases d2 : j < md
            · have hk1 := HI.out a j md es _ (by omega) HO2.out hsml d1 d2 (by omega) HT.out.s1 HT.out.s2
              go_upto_region 43 with (go_at_call 43; refine hk1.mono ?_; rintro x w3 ⟨rfl, fs, O3, F3, G3⟩)
              have hfs := hide F3
              have HO3 := hide O3
              have HG3 := hide (grown_trans HG2.out G3)
              clear F3 O3 G3 hk1
              have hfl : fs.length = n := hfs.out.1.len.trans hel
              have hsml2 := hsml.sp hfs.out.1
              have S3 := hide (srt_out hfs.out.1 HT.out.s3 (Nat.le_refl _))
              have S4 := hide (srt_out hfs.out.1 HT.out.s4 (by omega))
              by_cases c1 : md < e
              · by_cases c2 : e < b
                · have hk := HI.out md e b fs _ (by omega) HO3.out hsml2 c1 c2 hbn S3.out S4.out
                  go_wp2_with (go_at_call 43; refine hk.mono ?_; rintro x w2 ⟨rfl, gs, O4, F4, G4⟩)
                  go_end0
                  exact ⟨rfl, gs, O4, ⟨HP.out.trans ((hfs.out.1.mono (Nat.le_refl _) (by omega)).trans (F4.1.mono (by omega) (Nat.le_refl _))), sym_join (by omega) (by omega) HT.out.cross hfs.out.1 hfs.out.2 F4.1 F4.2⟩, grown_trans HG3.out G4⟩
                · have hne := decide_eq_false (fun hh => c2 (Int.ofNat_lt.1 hh))
                  go_wp2
                  go_end0
                  exact ⟨rfl, fs, HO3.out, ⟨HP.out.trans (hfs.out.1.mono (Nat.le_refl _) (by omega)), sym_join (by omega) (by omega) HT.out.cross hfs.out.1 hfs.out.2 (SP.refl _ _ _) (by have h3 := S3.out; rwa [show e = b by omega] at h3)⟩, HG3.out⟩
              · have hne := decide_eq_false (fun hh => c1 (Int.ofNat_lt.1 hh))
                go_wp2
                go_end0
                exact ⟨rfl, fs, HO3.out, ⟨HP.out.trans (hfs.out.1.mono (Nat.le_refl _) (by omega)), sym_join (by omega) (by omega) HT.out.cross hfs.out.1 hfs.out.2 (SP.refl _ _ _) (by have h3 := S4.out; rwa [show e = md by omega] at h3)⟩, HG3.out⟩
            · obtain ⟨fs, hfe⟩ : ∃ fs, fs = es := ⟨_, rfl⟩
              have hne1 := decide_eq_false (fun hh => d2 (Int.ofNat_lt.1 hh))
              go_upto_region 43 with (fail)
              have hfs : Hid (SP a md es fs ∧ Srt a md fs) := hide ⟨by rw [hfe]; exact SP.refl _ _ _, by rw [hfe]; have h3 := HT.out.s1; rwa [show j = md by omega] at h3⟩
              have HO3 := hide (hfe ▸ HO2.out)
              have HG3 := HG2
              clear hne1
              have hfl : fs.length = n := hfs.out.1.len.trans hel
              have hsml2 := hsml.sp hfs.out.1
              have S3 := hide (srt_out hfs.out.1 HT.out.s3 (Nat.le_refl _))
              have S4 := hide (srt_out hfs.out.1 HT.out.s4 (by omega))
              by_cases c1 : md < e
              · by_cases c2 : e < b
                · have hk := HI.out md e b fs _ (by omega) HO3.out hsml2 c1 c2 hbn S3.out S4.out
                  go_wp2_with (go_at_call 43; refine hk.mono ?_; rintro x w2 ⟨rfl, gs, O4, F4, G4⟩)
                  go_end0
                  exact ⟨rfl, gs, O4, ⟨HP.out.trans ((hfs.out.1.mono (Nat.le_refl _) (by omega)).trans (F4.1.mono (by omega) (Nat.le_refl _))), sym_join (by omega) (by omega) HT.out.cross hfs.out.1 hfs.out.2 F4.1 F4.2⟩, grown_trans HG3.out G4⟩
                · have hne := decide_eq_false (fun hh => c2 (Int.ofNat_lt.1 hh))
                  go_wp2
                  go_end0
                  exact ⟨rfl, fs, HO3.out, ⟨HP.out.trans (hfs.out.1.mono (Nat.le_refl _) (by omega)), sym_join (by omega) (by omega) HT.out.cross hfs.out.1 hfs.out.2 (SP.refl _ _ _) (by have h3 := S3.out; rwa [show e = b by omega] at h3)⟩, HG3.out⟩
              · have hne := decide_eq_false (fun hh => c1 (Int.ofNat_lt.1 hh))
                go_wp2
                go_end0
                exact ⟨rfl, fs, HO3.out, ⟨HP.out.trans (hfs.out.1.mono (Nat.le_refl _) (by omega)), sym_join (by omega) (by omega) HT.out.cross hfs.out.1 hfs.out.2 (SP.refl _ _ _) (by have h3 := S4.out; rwa [show e = md by omega] at h3)⟩, HG3.out⟩
          · obtain ⟨fs, hfe⟩ : ∃ fs, fs = es := ⟨_, rfl⟩
            have hne1 := decide_eq_false (fun hh => d1 (Int.ofNat_lt.1 hh))
            go_upto_region 43 with (fail)
            have hfs : Hid (SP a md es fs ∧ Srt a md fs) := hide ⟨by rw [hfe]; exact SP.refl _ _ _, by rw [hfe]; have h3 := HT.out.s2; rwa [show j = a by omega] at h3⟩
            have HO3 := hide (hfe ▸ HO2.out)
            have HG3 := HG2
            clear hne1
            have hfl : fs.length = n := hfs.out.1.len.trans hel
            have hsml2 := hsml.sp hfs.out.1
            have S3 := hide (srt_out hfs.out.1 HT.out.s3 (Nat.le_refl _))
            have S4 := hide (srt_out hfs.out.1 HT.out.s4 (by omega))
            by_cases c1 : md < e
            · by_cases c2 : e < b
              · have hk := HI.out md e b fs _ (by omega) HO3.out hsml2 c1 c2 hbn S3.out S4.out
                go_wp2_with (go_at_call 43; refine hk.mono ?_; rintro x w2 ⟨rfl, gs, O4, F4, G4⟩)
                go_end0
                exact ⟨rfl, gs, O4, ⟨HP.out.trans ((hfs.out.1.mono (Nat.le_refl _) (by omega)).trans (F4.1.mono (by omega) (Nat.le_refl _))), sym_join (by omega) (by omega) HT.out.cross hfs.out.1 hfs.out.2 F4.1 F4.2⟩, grown_trans HG3.out G4⟩
              · have hne := decide_eq_false (fun hh => c2 (Int.ofNat_lt.1 hh))
                go_wp2
                go_end0
                exact ⟨rfl, fs, HO3.out, ⟨HP.out.trans (hfs.out.1.mono (Nat.le_refl _) (by omega)), sym_join (by omega) (by omega) HT.out.cross hfs.out.1 hfs.out.2 (SP.refl _ _ _) (by have h3 := S3.out; rwa [show e = b by omega] at h3)⟩, HG3.out⟩
            · have hne := decide_eq_false (fun hh => c1 (Int.ofNat_lt.1 hh))
              go_wp2
              go_end0
              exact ⟨rfl, fs, HO3.out, ⟨HP.out.trans (hfs.out.1.mono (Nat.le_refl _) (by omega)), sym_join (by omega) (by omega) HT.out.cross hfs.out.1 hfs.out.2 (SP.refl _ _ _) (by have h3 := S4.out; rwa [show e = md by omega] at h3)⟩, HG3.out⟩
      · obtain ⟨es, hee⟩ : ∃ es, es = ds := ⟨_, rfl⟩
        have hne0 := decide_eq_false (fun hh => e1 (Int.ofNat_lt.1 hh))
        go_upto_region 41 with (fail)
        have hes : Hid (es.length = ds.length ∧ ∀ u, dem es u = rotf (dem ds) j m e u) := hide ⟨by rw [hee], fun u => by rw [hee]; exact (rot_id k2 k4 (.inl (by omega)) u).symm⟩
        have HO2 := hide (hee ▸ HO.out)
        have HG2 := HG
        clear hne0
        have hel : es.length = n := hes.out.1.trans hlen
        have hT := turned_of HC.out HS1.out HS2.out hes.out.2
        have hsp : SP a b ds es := rot_SP k1 k2 k4 k5 (by omega) hes.out.1 hes.out.2 HC.out.strict
        have hsml := hs.sp hsp
        have HT := hide hT
        have HP := hide hsp
        clear hT hsp HO HG
        by_cases d1 : a < j
        · by_cases d2 : j < md
          · have hk1 := HI.out a j md es _ (by omega) HO2.out hsml d1 d2 (by omega) HT.out.s1 HT.out.s2
            go_upto_region 43 with (go_at_call 43; refine hk1.mono ?_; rintro x w3 ⟨rfl, fs, O3, F3, G3⟩)
            have hfs := hide F3
            have HO3 := hide O3
            have HG3 := hide (grown_trans HG2.out G3)
            clear F3 O3 G3 hk1
            have hfl : fs.length = n := hfs.out.1.len.trans hel
            have hsml2 := hsml.sp hfs.out.1
            have S3 := hide (srt_out hfs.out.1 HT.out.s3 (Nat.le_refl _))
            have S4 := hide (srt_out hfs.out.1 HT.out.s4 (by omega))
            by_cases c1 : md < e
            · by_cases c2 : e < b
              · have hk := HI.out md e b fs _ (by omega) HO3.out hsml2 c1 c2 hbn S3.out S4.out
                go_wp2_with (go_at_call 43; refine hk.mono ?_; rintro x w2 ⟨rfl, gs, O4, F4, G4⟩)
                go_end0
                exact ⟨rfl, gs, O4, ⟨HP.out.trans ((hfs.out.1.mono (Nat.le_refl _) (by omega)).trans (F4.1.mono (by omega) (Nat.le_refl _))), sym_join (by omega) (by omega) HT.out.cross hfs.out.1 hfs.out.2 F4.1 F4.2⟩, grown_trans HG3.out G4⟩
              · have hne := decide_eq_false (fun hh => c2 (Int.ofNat_lt.1 hh))
                go_wp2
                go_end0
                exact ⟨rfl, fs, HO3.out, ⟨HP.out.trans (hfs.out.1.mono (Nat.le_refl _) (by omega)), sym_join (by omega) (by omega) HT.out.cross hfs.out.1 hfs.out.2 (SP.refl _ _ _) (by have h3 := S3.out; rwa [show e = b by omega] at h3)⟩, HG3.out⟩
            · have hne := decide_eq_false (fun hh => c1 (Int.ofNat_lt.1 hh))
              go_wp2
              go_end0
              exact ⟨rfl, fs, HO3.out, ⟨HP.out.trans (hfs.out.1.mono (Nat.le_refl _) (by omega)), sym_join (by omega) (by omega) HT.out.cross hfs.out.1 hfs.out.2 (SP.refl _ _ _) (by have h3 := S4.out; rwa [show e = md by omega] at h3)⟩, HG3.out⟩
          · obtain ⟨fs, hfe⟩ : ∃ fs, fs = es := ⟨_, rfl⟩
            have hne1 := decide_eq_false (fun hh => d2 (Int.ofNat_lt.1 hh))
            go_upto_region 43 with (fail)
            have hfs : Hid (SP a md es fs ∧ Srt a md fs) := hide ⟨by rw [hfe]; exact SP.refl _ _ _, by rw [hfe]; have h3 := HT.out.s1; rwa [show j = md by omega] at h3⟩
            have HO3 := hide (hfe ▸ HO2.out)
            have HG3 := HG2
            clear hne1
            have hfl : fs.length = n := hfs.out.1.len.trans hel
            have hsml2 := hsml.sp hfs.out.1
            have S3 := hide (srt_out hfs.out.1 HT.out.s3 (Nat.le_refl _))
            have S4 := hide (srt_out hfs.out.1 HT.out.s4 (by omega))
            by_cases c1 : md < e
            · by_cases c2 : e < b
              · have hk := HI.out md e b fs _ (by omega) HO3.out hsml2 c1 c2 hbn S3.out S4.out
                go_wp2_with (go_at_call 43; refine hk.mono ?_; rintro x w2 ⟨rfl, gs, O4, F4, G4⟩)
                go_end0
                exact ⟨rfl, gs, O4, ⟨HP.out.trans ((hfs.out.1.mono (Nat.le_refl _) (by omega)).trans (F4.1.mono (by omega) (Nat.le_refl _))), sym_join (by omega) (by omega) HT.out.cross hfs.out.1 hfs.out.2 F4.1 F4.2⟩, grown_trans HG3.out G4⟩
              · have hne := decide_eq_false (fun hh => c2 (Int.ofNat_lt.1 hh))
                go_wp2
                go_end0
                exact ⟨rfl, fs, HO3.out, ⟨HP.out.trans (hfs.out.1.mono (Nat.le_refl _) (by omega)), sym_join (by omega) (by omega) HT.out.cross hfs.out.1 hfs.out.2 (SP.refl _ _ _) (by have h3 := S3.out; rwa [show e = b by omega] at h3)⟩, HG3.out⟩
            · have hne := decide_eq_false (fun hh => c1 (Int.ofNat_lt.1 hh))
              go_wp2
              go_end0
              exact ⟨rfl, fs, HO3.out, ⟨HP.out.trans (hfs.out.1.mono (Nat.le_refl _) (by omega)), sym_join (by omega) (by omega) HT.out.cross hfs.out.1 hfs.out.2 (SP.refl _ _ _) (by have h3 := S4.out; rwa [show e = md by omega] at h3)⟩, HG3.out⟩
        · obtain ⟨fs, hfe⟩ : ∃ fs, fs = es := ⟨_, rfl⟩
          have hne1 := decide_eq_false (fun hh => d1 (Int.ofNat_lt.1 hh))
          go_upto_region 43 with (fail)
          have hfs : Hid (SP a md es fs ∧ Srt a md fs) := hide ⟨by rw [hfe]; exact SP.refl _ _ _, by rw [hfe]; have h3 := HT.out.s2; rwa [show j = a by omega] at h3⟩
          have HO3 := hide (hfe ▸ HO2.out)
          have HG3 := HG2
          clear hne1
          have hfl : fs.length = n := hfs.out.1.len.trans hel
          have hsml2 := hsml.sp hfs.out.1
          have S3 := hide (srt_out hfs.out.1 HT.out.s3 (Nat.le_refl _))
          have S4 := hide (srt_out hfs.out.1 HT.out.s4 (by omega))
          by_cases c1 : md < e
          · by_cases c2 : e < b
            · have hk := HI.out md e b fs _ (by omega) HO3.out hsml2 c1 c2 hbn S3.out S4.out
              go_wp2_with (go_at_call 43; refine hk.mono ?_; rintro x w2 ⟨rfl, gs, O4, F4, G4⟩)
              go_end0
              exact ⟨rfl, gs, O4, ⟨HP.out.trans ((hfs.out.1.mono (Nat.le_refl _) (by omega)).trans (F4.1.mono (by omega) (Nat.le_refl _))), sym_join (by omega) (by omega) HT.out.cross hfs.out.1 hfs.out.2 F4.1 F4.2⟩, grown_trans HG3.out G4⟩
            · have hne := decide_eq_false (fun hh => c2 (Int.ofNat_lt.1 hh))
              go_wp2
              go_end0
              exact ⟨rfl, fs, HO3.out, ⟨HP.out.trans (hfs.out.1.mono (Nat.le_refl _) (by omega)), sym_join (by omega) (by omega) HT.out.cross hfs.out.1 hfs.out.2 (SP.refl _ _ _) (by have h3 := S3.out; rwa [show e = b by omega] at h3)⟩, HG3.out⟩
          · have hne := decide_eq_false (fun hh => c1 (Int.ofNat_lt.1 hh))
            go_wp2
            go_end0
            exact ⟨rfl, fs, HO3.out, ⟨HP.out.trans (hfs.out.1.mono (Nat.le_refl _) (by omega)), sym_join (by omega) (by omega) HT.out.cross hfs.out.1 hfs.out.2 (SP.refl _ _ _) (by have h3 := S4.out; rwa [show e = md by omega] at h3)⟩, HG3.out⟩
theorem sym_all (B g n c : Nat) (hn : n ≤ 1000) : ∀ L, SymAt B g n c L
  | 0 => fun a m b ds w hL => by omega
  | L + 1 => fun a m b ds w hL h hs ham hmb hbn h1 h2 => by
    by_cases e1 : m = a + 1
    · exact symL_any B g n c a m b ds w h hs e1 hmb hbn hn h2
    · by_cases e2 : b = m + 1
      · exact symR_any B g n c a m b ds w h hs (by omega) e2 hbn hn h1
      · exact symG_any B g n c a m b ds w h hs (by omega) (by omega) hbn hn h1 h2 fun a' m' b' ds' w' hL' => sym_all B g n c hn L a' m' b' ds' w' (by omega)
end Go.Proofs.Ytcbejjkbjompfaa
