/- Contracts: slices.IndexFunc and slices.ContainsFunc at the tables. -/
import Derived.Test.YtdkhldebnpmiiaaGreatDoorClos
namespace Go.Proofs.YtdkhldebnpmiiaaGreatDoor
open Go.RowKit
set_option linter.unusedVariables false
set_option linter.unusedSimpArgs false

/-- where the first one is, or -1 -/
def idx {α : Type} (p : α → Bool) : List α → Int
  | [] => -1
  | x :: l => if p x then 0 else if idx p l < 0 then -1 else idx p l + 1
theorem idx_ge {α : Type} (p : α → Bool) : ∀ l : List α, -1 ≤ idx p l
  | [] => by simp [idx]
  | x :: l => by
    have := idx_ge p l
    rw [idx]
    split
    · omega
    · split <;> omega
theorem idx_hit {α : Type} {p : α → Bool} : ∀ {l : List α} {k : Nat} {x : α}, l[k]? = some x → p x = true → (∀ (j : Nat) (y : α), j < k → l[j]? = some y → p y = false) → idx p l = k
  | [], k, x, h, _, _ => by simp at h
  | y :: l, 0, x, h, hp, _ => by
    simp at h
    subst h
    rw [idx, if_pos hp]
    rfl
  | y :: l, k + 1, x, h, hp, hn => by
    have h0 := hn 0 y (by omega) rfl
    have ih := idx_hit (l := l) (k := k) (by simpa using h) hp (fun j z hj hz => hn (j + 1) z (by omega) (by simpa using hz))
    rw [idx, h0, ih]
    simp
    omega
theorem idx_none {α : Type} {p : α → Bool} : ∀ {l : List α}, (∀ (j : Nat) (y : α), l[j]? = some y → p y = false) → idx p l = -1
  | [], _ => rfl
  | y :: l, hn => by
    have h0 := hn 0 y rfl
    have ih := idx_none (l := l) (fun j z hz => hn (j + 1) z (by simpa using hz))
    rw [idx, h0, ih]
    rfl
theorem idx_any {α : Type} (p : α → Bool) : ∀ l : List α, decide (0 ≤ idx p l) = l.any p
  | [] => rfl
  | x :: l => by
    have ih := idx_any p l
    have hge := idx_ge p l
    rw [List.any_cons, idx]
    cases h : p x
    · simp only [Bool.false_or, ← ih, Bool.false_eq_true, if_false]
      by_cases h2 : idx p l < 0
      · rw [if_pos h2]
        simp
        omega
      · rw [if_neg h2]
        have : 0 ≤ idx p l := by omega
        rw [decide_eq_true this, decide_eq_true (by omega)]
    · simp
/-- where it is, it is one -/
theorem idx_get {α : Type} {p : α → Bool} : ∀ {l : List α}, 0 ≤ idx p l → ∃ (k : Nat) (x : α), idx p l = k ∧ l[k]? = some x ∧ p x = true
  | [], h => by simp [idx] at h
  | y :: l, h => by
    rw [idx] at h ⊢
    split
    · exact ⟨0, y, rfl, rfl, by assumption⟩
    · rename_i hp
      rw [if_neg hp] at h
      by_cases h2 : idx p l < 0
      · rw [if_pos h2] at h; omega
      · obtain ⟨k, x, e, hx, hpx⟩ := idx_get (p := p) (l := l) (by omega)
        rw [if_neg h2]
        exact ⟨k + 1, x, by rw [e]; omega, by simpa using hx, hpx⟩
def IntOut (r : Int) (w : World) (e : Ending) (w' : World) : Prop := e = .returned (.int .i64 r) ∧ Below w.heap.size w w'
set_option maxHeartbeats 1600000 in
theorem index_name (g : Nat) (nm : ByteArray) (A : Option Addr) (n c : Nat) (l : List Nod) (w : World) (h : RdR Nod.v 4 w A n c l) (hg : w.cell? ⟨g, 1, none⟩ = some (.string nm)) :
    Calls Tryz.prog 132 #[.slice A n c, .func (.func 156) #[] #[.pointer (some ⟨g, 0, none⟩)]] w (IntOut (idx (fun y : Nod => y.nm.toList == nm.toList) l) w) := by
  have hcap := h.cap
  have hlen := hide h.len
  have clo : ∀ (x : Nod) (wr : World), Below w.heap.size w wr → Calls Tryz.prog 156 #[.agg #[.int .i64 x.id, .string x.nm, .int .i64 x.dr, .bool x.pas], .pointer (some ⟨g, 0, none⟩)] wr (BoolOut ((fun y : Nod => y.nm.toList == nm.toList) x) wr) := fun x wr hb => same_name x g nm wr ((hb.cell (p := ⟨g, 1, none⟩) (World.block_lt_of_cell? w _ hg)).trans hg)
  go_enter Tryz.func132, Tryz.ntmps132
  go_wp2
  go_loopw [8] (fun i wr => ∃ k : Nat, k ≤ n ∧ i = .int .i64 k ∧ Hid (∀ j y, j < k → l[j]? = some y → (fun y : Nod => y.nm.toList == nm.toList) y = false) ∧ Hid (Below w.heap.size w wr)) (fun i _ => n - (intOf i).toNat)
  case atStart => exact ⟨0, by omega, rfl, hide (fun j y hj => by omega), hide (Below.refl _ _)⟩
  case round =>
    obtain ⟨k, hk, rfl, hno, hbel⟩ := hrel
    by_cases hlt : k < n
    · obtain ⟨b, off, x, rfl, hb, hx, c0, c1, c2, c3⟩ := nod_at (h.below hbel.out) hlt
      have HX := hide hx
      have CL := hide (clo x wr hbel.out)
      clear hx clo
      cases hp : (fun y : Nod => y.nm.toList == nm.toList) x
      · have HP := hide hp
        clear hp
        go_wp2_with (go_at_call 156; refine CL.out.mono ?_; rintro ee w1 ⟨rfl, b1⟩; rw [HP.out])
        have BB := hide (below_trans hbel.out b1)
        have NN := hide (fun j y (hj : j < k + 1) (hy : l[j]? = some y) => show (fun y : Nod => y.nm.toList == nm.toList) y = false from by
          rcases Nat.lt_succ_iff_lt_or_eq.1 hj with h1 | h1
          · exact hno.out j y h1 hy
          · subst h1
            rw [HX.out] at hy
            obtain rfl := Option.some.inj hy
            exact HP.out)
        go_roundw
        case rel => exact ⟨k + 1, by omega, by go_num, NN, BB⟩
        case measure => simp [intOf]; omega
      · have E := hide (idx_hit HX.out hp hno.out)
        have HP := hide hp
        clear hp
        go_wp2_with (go_at_call 156; refine CL.out.mono ?_; rintro ee w1 ⟨rfl, b1⟩; rw [HP.out])
        go_ret
        exact ⟨by rw [E.out]; rfl, below_trans hbel.out b1⟩
    · obtain rfl : k = n := by omega
      have E := hide (idx_none (p := fun y : Nod => y.nm.toList == nm.toList) (l := l) (fun j y hy => hno.out j y (by have := get_lt hy; have := hlen.out; omega) hy))
      go_wp2
      go_ret
      exact ⟨by rw [E.out]; rfl, hbel.out⟩
set_option maxHeartbeats 800000 in
theorem contains_name (g : Nat) (nm : ByteArray) (A : Option Addr) (n c : Nat) (l : List Nod) (w : World) (h : RdR Nod.v 4 w A n c l) (hg : w.cell? ⟨g, 1, none⟩ = some (.string nm)) :
    Calls Tryz.prog 155 #[.slice A n c, .func (.func 156) #[] #[.pointer (some ⟨g, 0, none⟩)]] w (BoolOut (l.any (fun y : Nod => y.nm.toList == nm.toList)) w) := by
  have hk := index_name g nm A n c l w h hg
  have E := hide (idx_any (fun y : Nod => y.nm.toList == nm.toList) l)
  go_enter Tryz.func155, Tryz.ntmps155
  go_wp2_with (go_at_call 132; refine hk.mono ?_; rintro ee w1 ⟨rfl, b1⟩)
  go_ret
  exact ⟨by rw [← E.out]; rfl, b1⟩
set_option maxHeartbeats 1600000 in
theorem index_id (g : Nat) (id : Int) (A : Option Addr) (n c : Nat) (l : List Nod) (w : World) (h : RdR Nod.v 4 w A n c l) (hg : w.cell? ⟨g, 0, none⟩ = some (.int .i64 id)) :
    Calls Tryz.prog 132 #[.slice A n c, .func (.func 133) #[] #[.pointer (some ⟨g, 0, none⟩)]] w (IntOut (idx (fun y : Nod => y.id == id) l) w) := by
  have hcap := h.cap
  have hlen := hide h.len
  have clo : ∀ (x : Nod) (wr : World), Below w.heap.size w wr → Calls Tryz.prog 133 #[.agg #[.int .i64 x.id, .string x.nm, .int .i64 x.dr, .bool x.pas], .pointer (some ⟨g, 0, none⟩)] wr (BoolOut ((fun y : Nod => y.id == id) x) wr) := fun x wr hb => same_id x g id wr ((hb.cell (p := ⟨g, 0, none⟩) (World.block_lt_of_cell? w _ hg)).trans hg)
  go_enter Tryz.func132, Tryz.ntmps132
  go_wp2
  go_loopw [8] (fun i wr => ∃ k : Nat, k ≤ n ∧ i = .int .i64 k ∧ Hid (∀ j y, j < k → l[j]? = some y → (fun y : Nod => y.id == id) y = false) ∧ Hid (Below w.heap.size w wr)) (fun i _ => n - (intOf i).toNat)
  case atStart => exact ⟨0, by omega, rfl, hide (fun j y hj => by omega), hide (Below.refl _ _)⟩
  case round =>
    obtain ⟨k, hk, rfl, hno, hbel⟩ := hrel
    by_cases hlt : k < n
    · obtain ⟨b, off, x, rfl, hb, hx, c0, c1, c2, c3⟩ := nod_at (h.below hbel.out) hlt
      have HX := hide hx
      have CL := hide (clo x wr hbel.out)
      clear hx clo
      cases hp : (fun y : Nod => y.id == id) x
      · have HP := hide hp
        clear hp
        go_wp2_with (go_at_call 133; refine CL.out.mono ?_; rintro ee w1 ⟨rfl, b1⟩; rw [HP.out])
        have BB := hide (below_trans hbel.out b1)
        have NN := hide (fun j y (hj : j < k + 1) (hy : l[j]? = some y) => show (fun y : Nod => y.id == id) y = false from by
          rcases Nat.lt_succ_iff_lt_or_eq.1 hj with h1 | h1
          · exact hno.out j y h1 hy
          · subst h1
            rw [HX.out] at hy
            obtain rfl := Option.some.inj hy
            exact HP.out)
        go_roundw
        case rel => exact ⟨k + 1, by omega, by go_num, NN, BB⟩
        case measure => simp [intOf]; omega
      · have E := hide (idx_hit HX.out hp hno.out)
        have HP := hide hp
        clear hp
        go_wp2_with (go_at_call 133; refine CL.out.mono ?_; rintro ee w1 ⟨rfl, b1⟩; rw [HP.out])
        go_ret
        exact ⟨by rw [E.out]; rfl, below_trans hbel.out b1⟩
    · obtain rfl : k = n := by omega
      have E := hide (idx_none (p := fun y : Nod => y.id == id) (l := l) (fun j y hy => hno.out j y (by have := get_lt hy; have := hlen.out; omega) hy))
      go_wp2
      go_ret
      exact ⟨by rw [E.out]; rfl, hbel.out⟩
set_option maxHeartbeats 800000 in
theorem contains_id (g : Nat) (id : Int) (A : Option Addr) (n c : Nat) (l : List Nod) (w : World) (h : RdR Nod.v 4 w A n c l) (hg : w.cell? ⟨g, 0, none⟩ = some (.int .i64 id)) :
    Calls Tryz.prog 155 #[.slice A n c, .func (.func 133) #[] #[.pointer (some ⟨g, 0, none⟩)]] w (BoolOut (l.any (fun y : Nod => y.id == id)) w) := by
  have hk := index_id g id A n c l w h hg
  have E := hide (idx_any (fun y : Nod => y.id == id) l)
  go_enter Tryz.func155, Tryz.ntmps155
  go_wp2_with (go_at_call 132; refine hk.mono ?_; rintro ee w1 ⟨rfl, b1⟩)
  go_ret
  exact ⟨by rw [← E.out]; rfl, b1⟩
set_option maxHeartbeats 1600000 in
theorem index_slot (g : Nat) (a : Int) (e : Int) (d : Int) (A : Option Addr) (n c : Nat) (l : List Slt) (w : World) (h : RdR Slt.v 8 w A n c l) (hg : w.cell? ⟨g, 0, none⟩ = some (.int .i64 a)) (hg1 : w.cell? ⟨g + 1, 0, none⟩ = some (.int .i64 e)) (hg2 : w.cell? ⟨g + 1 + 1, 0, none⟩ = some (.int .i64 d)) :
    Calls Tryz.prog 161 #[.slice A n c, .func (.func 173) #[] #[.pointer (some ⟨g, 0, none⟩), .pointer (some ⟨g + 1, 0, none⟩), .pointer (some ⟨g + 1 + 1, 0, none⟩)]] w (IntOut (idx (slotB a e d) l) w) := by
  have hcap := h.cap
  have hlen := hide h.len
  have clo : ∀ (x : Slt) (wr : World), Below w.heap.size w wr → Calls Tryz.prog 173 #[.agg #[.int .i64 x.md, .int .i64 x.rd, .int .i64 x.sl, .int .i64 x.nd, .int .i64 x.kd, .int .i64 x.sz, .int .i64 x.du, .bool x.ch], .pointer (some ⟨g, 0, none⟩), .pointer (some ⟨g + 1, 0, none⟩), .pointer (some ⟨g + 1 + 1, 0, none⟩)] wr (BoolOut ((slotB a e d) x) wr) := fun x wr hb => same_slot x g a e d wr ((hb.cell (p := ⟨g, 0, none⟩) (World.block_lt_of_cell? w _ hg)).trans hg) ((hb.cell (p := ⟨g + 1, 0, none⟩) (World.block_lt_of_cell? w _ hg1)).trans hg1) ((hb.cell (p := ⟨g + 1 + 1, 0, none⟩) (World.block_lt_of_cell? w _ hg2)).trans hg2)
  go_enter Tryz.func161, Tryz.ntmps161
  go_wp2
  go_loopw [8] (fun i wr => ∃ k : Nat, k ≤ n ∧ i = .int .i64 k ∧ Hid (∀ j y, j < k → l[j]? = some y → (slotB a e d) y = false) ∧ Hid (Below w.heap.size w wr)) (fun i _ => n - (intOf i).toNat)
  case atStart => exact ⟨0, by omega, rfl, hide (fun j y hj => by omega), hide (Below.refl _ _)⟩
  case round =>
    obtain ⟨k, hk, rfl, hno, hbel⟩ := hrel
    by_cases hlt : k < n
    · obtain ⟨b, off, x, rfl, hb, hx, c0, c1, c2, c3, c4, c5, c6, c7⟩ := slt_at (h.below hbel.out) hlt
      have HX := hide hx
      have CL := hide (clo x wr hbel.out)
      clear hx clo
      cases hp : (slotB a e d) x
      · have HP := hide hp
        clear hp
        go_wp2_with (go_at_call 173; refine CL.out.mono ?_; rintro ee w1 ⟨rfl, b1⟩; rw [HP.out])
        have BB := hide (below_trans hbel.out b1)
        have NN := hide (fun j y (hj : j < k + 1) (hy : l[j]? = some y) => show (slotB a e d) y = false from by
          rcases Nat.lt_succ_iff_lt_or_eq.1 hj with h1 | h1
          · exact hno.out j y h1 hy
          · subst h1
            rw [HX.out] at hy
            obtain rfl := Option.some.inj hy
            exact HP.out)
        go_roundw
        case rel => exact ⟨k + 1, by omega, by go_num, NN, BB⟩
        case measure => simp [intOf]; omega
      · have E := hide (idx_hit HX.out hp hno.out)
        have HP := hide hp
        clear hp
        go_wp2_with (go_at_call 173; refine CL.out.mono ?_; rintro ee w1 ⟨rfl, b1⟩; rw [HP.out])
        go_ret
        exact ⟨by rw [E.out]; rfl, below_trans hbel.out b1⟩
    · obtain rfl : k = n := by omega
      have E := hide (idx_none (p := slotB a e d) (l := l) (fun j y hy => hno.out j y (by have := get_lt hy; have := hlen.out; omega) hy))
      go_wp2
      go_ret
      exact ⟨by rw [E.out]; rfl, hbel.out⟩
set_option maxHeartbeats 800000 in
theorem contains_slot (g : Nat) (a : Int) (e : Int) (d : Int) (A : Option Addr) (n c : Nat) (l : List Slt) (w : World) (h : RdR Slt.v 8 w A n c l) (hg : w.cell? ⟨g, 0, none⟩ = some (.int .i64 a)) (hg1 : w.cell? ⟨g + 1, 0, none⟩ = some (.int .i64 e)) (hg2 : w.cell? ⟨g + 1 + 1, 0, none⟩ = some (.int .i64 d)) :
    Calls Tryz.prog 141 #[.slice A n c, .func (.func 173) #[] #[.pointer (some ⟨g, 0, none⟩), .pointer (some ⟨g + 1, 0, none⟩), .pointer (some ⟨g + 1 + 1, 0, none⟩)]] w (BoolOut (l.any (slotB a e d)) w) := by
  have hk := index_slot g a e d A n c l w h hg hg1 hg2
  have E := hide (idx_any (slotB a e d) l)
  go_enter Tryz.func141, Tryz.ntmps141
  go_wp2_with (go_at_call 161; refine hk.mono ?_; rintro ee w1 ⟨rfl, b1⟩)
  go_ret
  exact ⟨by rw [← E.out]; rfl, b1⟩
set_option maxHeartbeats 1600000 in
theorem index_cold  (A : Option Addr) (n c : Nat) (l : List Slt) (w : World) (h : RdR Slt.v 8 w A n c l)  :
    Calls Tryz.prog 161 #[.slice A n c, .func (.func 136) #[] #[]] w (IntOut (idx (coldB) l) w) := by
  have hcap := h.cap
  have hlen := hide h.len
  have clo : ∀ (x : Slt) (wr : World), Below w.heap.size w wr → Calls Tryz.prog 136 #[.agg #[.int .i64 x.md, .int .i64 x.rd, .int .i64 x.sl, .int .i64 x.nd, .int .i64 x.kd, .int .i64 x.sz, .int .i64 x.du, .bool x.ch]] wr (BoolOut ((coldB) x) wr) := fun x wr hb => cold_any x wr
  go_enter Tryz.func161, Tryz.ntmps161
  go_wp2
  go_loopw [8] (fun i wr => ∃ k : Nat, k ≤ n ∧ i = .int .i64 k ∧ Hid (∀ j y, j < k → l[j]? = some y → (coldB) y = false) ∧ Hid (Below w.heap.size w wr)) (fun i _ => n - (intOf i).toNat)
  case atStart => exact ⟨0, by omega, rfl, hide (fun j y hj => by omega), hide (Below.refl _ _)⟩
  case round =>
    obtain ⟨k, hk, rfl, hno, hbel⟩ := hrel
    by_cases hlt : k < n
    · obtain ⟨b, off, x, rfl, hb, hx, c0, c1, c2, c3, c4, c5, c6, c7⟩ := slt_at (h.below hbel.out) hlt
      have HX := hide hx
      have CL := hide (clo x wr hbel.out)
      clear hx clo
      cases hp : (coldB) x
      · have HP := hide hp
        clear hp
        go_wp2_with (go_at_call 136; refine CL.out.mono ?_; rintro ee w1 ⟨rfl, b1⟩; rw [HP.out])
        have BB := hide (below_trans hbel.out b1)
        have NN := hide (fun j y (hj : j < k + 1) (hy : l[j]? = some y) => show (coldB) y = false from by
          rcases Nat.lt_succ_iff_lt_or_eq.1 hj with h1 | h1
          · exact hno.out j y h1 hy
          · subst h1
            rw [HX.out] at hy
            obtain rfl := Option.some.inj hy
            exact HP.out)
        go_roundw
        case rel => exact ⟨k + 1, by omega, by go_num, NN, BB⟩
        case measure => simp [intOf]; omega
      · have E := hide (idx_hit HX.out hp hno.out)
        have HP := hide hp
        clear hp
        go_wp2_with (go_at_call 136; refine CL.out.mono ?_; rintro ee w1 ⟨rfl, b1⟩; rw [HP.out])
        go_ret
        exact ⟨by rw [E.out]; rfl, below_trans hbel.out b1⟩
    · obtain rfl : k = n := by omega
      have E := hide (idx_none (p := coldB) (l := l) (fun j y hy => hno.out j y (by have := get_lt hy; have := hlen.out; omega) hy))
      go_wp2
      go_ret
      exact ⟨by rw [E.out]; rfl, hbel.out⟩
set_option maxHeartbeats 800000 in
theorem contains_cold  (A : Option Addr) (n c : Nat) (l : List Slt) (w : World) (h : RdR Slt.v 8 w A n c l)  :
    Calls Tryz.prog 141 #[.slice A n c, .func (.func 136) #[] #[]] w (BoolOut (l.any (coldB)) w) := by
  have hk := index_cold  A n c l w h 
  have E := hide (idx_any (coldB) l)
  go_enter Tryz.func141, Tryz.ntmps141
  go_wp2_with (go_at_call 161; refine hk.mono ?_; rintro ee w1 ⟨rfl, b1⟩)
  go_ret
  exact ⟨by rw [← E.out]; rfl, b1⟩
end Go.Proofs.YtdkhldebnpmiiaaGreatDoor
