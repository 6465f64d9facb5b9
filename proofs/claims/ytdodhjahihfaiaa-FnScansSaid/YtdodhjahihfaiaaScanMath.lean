/- Plain facts on the recogniser: its steps, the run over a list of cells, lines and only lines end in phase 6, what is missing. -/
import Derived.Test.YtdodhjahihfaiaaLineMath
namespace Go.Proofs.Ytdodhjahihfaiaa
open Go.RowKit
set_option linter.unusedVariables false
set_option linter.unusedSimpArgs false

/-- a scan: phase, count, value, bytes -/
structure Scn where
  ph : Int
  ct : Int
  vl : Int
  bs : List Int
/-- a cell is read -/
def stepS (s : Scn) (c : Int) : Scn :=
  if s.ph = 0 then (if c = 0 then ⟨1, 1, s.vl, s.bs⟩ else s)
  else if s.ph = 1 then (if c = 1 ∧ 3 ≤ s.ct then ⟨2, 0, s.vl, s.bs⟩ else if c = 0 ∧ s.ct < 15 then ⟨1, s.ct + 1, s.vl, s.bs⟩ else ⟨7, s.ct, s.vl, s.bs⟩)
  else if s.ph = 2 then (if c = 1 then ⟨3, s.ct, s.vl, s.bs⟩ else ⟨5, s.ct, s.vl, s.bs⟩)
  else if s.ph = 3 then (if c = 1 then ⟨7, s.ct, s.vl, s.bs⟩ else ⟨4, 0, 0, s.bs⟩)
  else if s.ph = 4 then (if s.ct < 7 then ⟨4, s.ct + 1, 2 * s.vl + c, s.bs⟩ else ⟨2, 0, 0, s.bs ++ [2 * s.vl + c]⟩)
  else if s.ph = 5 then (if c = 1 then ⟨6, s.ct, s.vl, s.bs⟩ else ⟨7, s.ct, s.vl, s.bs⟩)
  else if s.ph = 6 then (if c = 1 then s else ⟨7, s.ct, s.vl, s.bs⟩)
  else s
/-- a scan is valid -/
def scnB (s : Scn) : Bool := inB 0 7 s.ph && (bytesB s.bs && (inB 0 15 s.ct && inB 0 255 s.vl))
/-- the cell is out of its range -/
def stepR (s : Scn) (c : Int) : Bool := !(inB 0 1 c) || (decide (s.ph = 4) && (decide (7 < s.ct) || decide ((2 : Int) ^ s.ct.toNat ≤ s.vl)))
def stepL (s : Scn) : Bool := decide (s.ph = 4) && (decide (s.ct = 7) && decide (s.bs.length = 1024))
/-- the code of a valid scan and a cell -/
def stepC (s : Scn) (c : Int) : Int := if stepR s c then 2 else if stepL s then 3 else 0
def zeroS : Scn := ⟨0, 0, 0, []⟩

theorem scnB_get {s : Scn} (h : scnB s = true) : (0 ≤ s.ph ∧ s.ph ≤ 7) ∧ (s.bs.length ≤ 1024 ∧ allB 0 255 s.bs = true) ∧ (0 ≤ s.ct ∧ s.ct ≤ 15) ∧ 0 ≤ s.vl ∧ s.vl ≤ 255 := by
  simp only [scnB, Bool.and_eq_true] at h
  obtain ⟨h1, h2, h3, h4⟩ := h
  refine ⟨inB_true h1, ?_, inB_true h3, inB_true h4⟩
  simpa [bytesB, upB] using h2
theorem scnB_mk {s : Scn} (h1 : 0 ≤ s.ph ∧ s.ph ≤ 7) (h2 : s.bs.length ≤ 1024 ∧ allB 0 255 s.bs = true) (h3 : 0 ≤ s.ct ∧ s.ct ≤ 15) (h4 : 0 ≤ s.vl ∧ s.vl ≤ 255) : scnB s = true := by
  simp only [scnB, Bool.and_eq_true]
  exact ⟨inB_yes h1.1 h1.2, by simpa [bytesB, upB] using h2, inB_yes h3.1 h3.2, inB_yes h4.1 h4.2⟩
theorem stepR_get {s : Scn} {c : Int} (h : stepR s c = false) : (0 ≤ c ∧ c ≤ 1) ∧ (s.ph = 4 → s.ct ≤ 7 ∧ s.vl < (2 : Int) ^ s.ct.toNat) := by
  simp only [stepR, Bool.or_eq_false_iff, Bool.not_eq_false'] at h
  refine ⟨inB_true h.1, fun hp => ?_⟩
  have h2 := h.2
  simp [hp] at h2
  omega
theorem pow_small {n : Int} (h0 : 0 ≤ n) (h7 : n ≤ 7) : (2 : Int) ^ n.toNat ≤ 128 := by
  have : n = 0 ∨ n = 1 ∨ n = 2 ∨ n = 3 ∨ n = 4 ∨ n = 5 ∨ n = 6 ∨ n = 7 := by omega
  rcases this with rfl | rfl | rfl | rfl | rfl | rfl | rfl | rfl <;> decide
/-- a valid scan and a cell without an error: the next scan is valid -/
theorem stepS_valid {s : Scn} {c : Int} (h : scnB s = true) (hr : stepR s c = false) (hl : stepL s = false) : scnB (stepS s c) = true := by
  obtain ⟨p, b, k, v⟩ := scnB_get h
  obtain ⟨hc, hb⟩ := stepR_get hr
  rw [stepS]
  split
  · split
    · exact scnB_mk (by simp) b (by simp) v
    · exact h
  · split
    · split
      · exact scnB_mk (by simp) b (by simp) v
      · split
        · exact scnB_mk (by simp) b (by simp; omega) v
        · exact scnB_mk (by simp) b k v
    · split
      · split
        · exact scnB_mk (by simp) b k v
        · exact scnB_mk (by simp) b k v
      · split
        · split
          · exact scnB_mk (by simp) b k v
          · exact scnB_mk (by simp) b (by simp) (by simp)
        · split
          · rename_i h4
            have h5 := hb h4
            have h6 := pow_small k.1 h5.1
            split
            · exact scnB_mk (by simp) b (by simp; omega) (by simp; omega)
            · rename_i h7
              have h8 : s.ct = 7 := by omega
              have h9 : s.bs.length ≠ 1024 := by
                intro e
                simp [stepL, h4, h8, e] at hl
              refine scnB_mk (by simp) ⟨by simp; omega, ?_⟩ (by simp) (by simp)
              rw [allB_append, b.2]
              simp [allB]
              omega
          · split
            · split
              · exact scnB_mk (by simp) b k v
              · exact scnB_mk (by simp) b k v
            · split
              · split
                · exact h
                · exact scnB_mk (by simp) b k v
              · exact h

/-- the scan after the first k cells -/
def scanTo (s : Scn) (cs : List Int) : Nat → Scn
  | 0 => s
  | k + 1 => stepS (scanTo s cs k) (nth cs k)
theorem scanTo_succ (s : Scn) (cs : List Int) (k : Nat) : scanTo s cs (k + 1) = stepS (scanTo s cs k) (nth cs k) := rfl
theorem scanTo_fold (s : Scn) (cs : List Int) (k : Nat) (hk : k ≤ cs.length) : scanTo s cs k = (cs.take k).foldl stepS s := by
  induction k with
  | zero => rfl
  | succ k ih => rw [scanTo_succ, ih (by omega), take_snoc cs k (by omega), List.foldl_append]; rfl
theorem scanTo_prefix {s : Scn} {a b : List Int} {k : Nat} (h : ∀ j, j < k → nth a j = nth b j) : scanTo s a k = scanTo s b k := by
  induction k with
  | zero => rfl
  | succ k ih => rw [scanTo_succ, scanTo_succ, ih (fun j hj => h j (by omega)), h k (by omega)]
theorem scanTo_add (s : Scn) (cs : List Int) (k j : Nat) : scanTo s cs (k + j) = scanTo (scanTo s cs k) (cs.drop k) j := by
  induction j with
  | zero => rfl
  | succ j ih => rw [Nat.add_succ, scanTo_succ, ih, scanTo_succ, nth_drop]

/-- the scan and the code after all cells -/
def scanR (s : Scn) : List Int → Scn × Int
  | [] => (s, 0)
  | c :: cs => if stepC s c = 0 then scanR (stepS s c) cs else (zeroS, stepC s c)
/-- no cell of the first k has an error -/
def OkTo (s : Scn) (cs : List Int) (k : Nat) : Prop := ∀ j, j < k → stepC (scanTo s cs j) (nth cs j) = 0
theorem OkTo.zero (s : Scn) (cs : List Int) : OkTo s cs 0 := fun j h => by omega
theorem OkTo.succ {s : Scn} {cs : List Int} {k : Nat} (h : OkTo s cs k) (h1 : stepC (scanTo s cs k) (nth cs k) = 0) : OkTo s cs (k + 1) := by
  intro j hj
  by_cases e : j = k
  · subst e; exact h1
  · exact h j (by omega)
theorem scanTo_cons (s : Scn) (c : Int) (cs : List Int) (k : Nat) : scanTo s (c :: cs) (k + 1) = scanTo (stepS s c) cs k := by
  rw [Nat.add_comm, scanTo_add]
  rfl
theorem scanR_ok {cs : List Int} : ∀ {s : Scn}, OkTo s cs cs.length → scanR s cs = (scanTo s cs cs.length, 0) := by
  induction cs with
  | nil => intro s _; rfl
  | cons c cs ih =>
    intro s h
    have h0 : stepC s c = 0 := h 0 (by simp)
    rw [scanR, if_pos h0, ih, List.length_cons, scanTo_cons]
    intro j hj
    have := h (j + 1) (by simp; omega)
    rw [scanTo_cons, nth_cons_succ] at this
    exact this
theorem scanR_bad {cs : List Int} : ∀ {s : Scn} {k : Nat}, k < cs.length → OkTo s cs k → stepC (scanTo s cs k) (nth cs k) ≠ 0 → scanR s cs = (zeroS, stepC (scanTo s cs k) (nth cs k)) := by
  induction cs with
  | nil => intro s k h; simp at h
  | cons c cs ih =>
    intro s k hk h hb
    cases k with
    | zero =>
      have h0 : ¬ stepC s c = 0 := hb
      rw [scanR, if_neg h0]; rfl
    | succ k =>
      have h0 : stepC s c = 0 := h 0 (by omega)
      rw [scanTo_cons, nth_cons_succ] at hb ⊢
      rw [scanR, if_pos h0]
      refine ih (by simpa using hk) (fun j hj => ?_) hb
      have := h (j + 1) (by omega)
      rw [scanTo_cons, nth_cons_succ] at this
      exact this
theorem scanR_append {a b : List Int} : ∀ {s : Scn}, (scanR s (a ++ b)).2 = 0 → (scanR s a).2 = 0 ∧ scanR (scanR s a).1 b = scanR s (a ++ b) := by
  induction a with
  | nil => intro s h; exact ⟨rfl, rfl⟩
  | cons c a ih =>
    intro s h
    rw [List.cons_append, scanR] at h
    by_cases h0 : stepC s c = 0
    · rw [if_pos h0] at h
      rw [scanR, if_pos h0, List.cons_append, scanR, if_pos h0]
      exact ih h
    · rw [if_neg h0] at h
      exact absurd h h0
theorem stepC_cases (s : Scn) (c : Int) : (stepR s c = true ∧ stepC s c = 2) ∨ (stepR s c = false ∧ stepL s = true ∧ stepC s c = 3) ∨ (stepR s c = false ∧ stepL s = false ∧ stepC s c = 0) := by
  unfold stepC
  cases h : stepR s c <;> cases g : stepL s <;> simp
theorem scan_valid {s : Scn} {cs : List Int} (h : scnB s = true) : ∀ k, OkTo s cs k → scnB (scanTo s cs k) = true := by
  intro k
  induction k with
  | zero => intro _; exact h
  | succ k ih =>
    intro ho
    have h1 := ih fun j hj => ho j (by omega)
    have h2 := ho k (by omega)
    rcases stepC_cases (scanTo s cs k) (nth cs k) with ⟨_, e⟩ | ⟨_, _, e⟩ | ⟨h3, h4, _⟩
    · rw [e] at h2; cases h2
    · rw [e] at h2; cases h2
    · exact stepS_valid h1 h3 h4
theorem scanR_valid {s : Scn} {cs : List Int} (h : scnB s = true) (h0 : (scanR s cs).2 = 0) : scnB (scanR s cs).1 = true := by
  induction cs generalizing s with
  | nil => exact h
  | cons c cs ih =>
    rw [scanR] at h0 ⊢
    by_cases h1 : stepC s c = 0
    · rw [if_pos h1] at h0 ⊢
      rcases stepC_cases s c with ⟨_, e⟩ | ⟨_, _, e⟩ | ⟨h3, h4, _⟩
      · rw [e] at h1; cases h1
      · rw [e] at h1; cases h1
      · exact ih (stepS_valid h h3 h4) h0
    · rw [if_neg h1] at h0
      exact absurd h0 h1

/-! a line is read -/
theorem run_ones (s : Scn) (h : s.ph = 0 ∨ s.ph = 6) (m : Nat) : (List.replicate m (1 : Int)).foldl stepS s = s := by
  induction m with
  | zero => rfl
  | succ m ih =>
    rw [List.replicate_succ, List.foldl_cons]
    have : stepS s 1 = s := by
      rcases h with h | h <;> simp [stepS, h]
    rw [this, ih]
theorem run_zeros (m : Nat) (h : m + 1 ≤ 15) : (List.replicate (m + 1) (0 : Int)).foldl stepS zeroS = ⟨1, (m : Int) + 1, 0, []⟩ := by
  induction m with
  | zero => rfl
  | succ m ih =>
    rw [List.replicate_succ', List.foldl_append, ih (by omega)]
    have e : ((m : Int) + 1 < 15) := by omega
    simp [stepS, e]
theorem run_blk (d : Int) (h0 : 0 ≤ d) (h1 : d ≤ 255) (bs : List Int) : (blk d).foldl stepS ⟨2, 0, 0, bs⟩ = ⟨2, 0, 0, bs ++ [d]⟩ := by
  have e := num_bits8 h0 h1
  rw [num8_eq, bits8_eq] at e
  simp only [nth, List.getD_cons_zero, List.getD_cons_succ, Nat.zero_add] at e
  rw [blk, bits8_eq]
  simp [stepS]
  omega
theorem run_blks {ds : List Int} (h : allB 0 255 ds = true) (bs : List Int) : (blks ds).foldl stepS ⟨2, 0, 0, bs⟩ = ⟨2, 0, 0, bs ++ ds⟩ := by
  induction ds generalizing bs with
  | nil => simp [blks]
  | cons d ds ih =>
    have h' : (0 ≤ d ∧ d ≤ 255) ∧ allB 0 255 ds = true := by
      rw [allB, List.all_cons, Bool.and_eq_true] at h
      exact ⟨by simpa using h.1, h.2⟩
    rw [blks_cons, List.foldl_append, run_blk d h'.1.1 h'.1.2, ih h'.2]
    simp
theorem run_line {a p b : Nat} {ds : List Int} (hp : 3 ≤ p) (hp' : p ≤ 15) (hd : allB 0 255 ds = true) : (lineOf a p ds b).foldl stepS zeroS = ⟨6, 0, 0, ds⟩ := by
  obtain ⟨m, rfl⟩ : ∃ m, p = m + 1 := ⟨p - 1, by omega⟩
  rw [lineOf, List.foldl_append, run_ones zeroS (.inl rfl), List.foldl_append, tx, List.foldl_append, run_zeros m hp', List.foldl_cons]
  have e1 : stepS ⟨1, (m : Int) + 1, 0, []⟩ 1 = ⟨2, 0, 0, []⟩ := by
    have e : (3 : Int) ≤ (m : Int) + 1 := by omega
    simp [stepS, e]
  rw [e1, List.foldl_append, run_blks hd, List.nil_append]
  have e2 : List.foldl stepS ⟨2, 0, 0, ds⟩ [0, 1] = ⟨6, 0, 0, ds⟩ := by simp [stepS]
  rw [e2, run_ones _ (.inr rfl)]

/-- the bits of a number in a width -/
def numL (l : List Int) : Int := numTo l 0 l.length
theorem numL_snoc (l : List Int) (x : Int) : numL (l ++ [x]) = 2 * numL l + x := by
  rw [numL, numL, List.length_append, List.length_singleton, numTo_succ, Nat.zero_add, nth_append_ge (Nat.le_refl _), Nat.sub_self, nth_cons_zero]
  rw [numTo_shift (a := l ++ [x]) (b := l) (i := 0) (k := 0) l.length (fun j hj => by rw [Nat.zero_add]; exact nth_append_lt hj)]
/-- what the cells read so far are, by the scan -/
def hd1 (a p : Nat) (bs : List Int) : List Int := List.replicate a 1 ++ (List.replicate p 0 ++ (1 :: blks bs))
def Inv (l : List Int) (s : Scn) : Prop :=
  (s.ph = 0 ∧ s = zeroS ∧ ∃ a, l = List.replicate a 1) ∨
  (s.ph = 1 ∧ ∃ a p : Nat, 1 ≤ p ∧ p ≤ 15 ∧ s = ⟨1, p, 0, []⟩ ∧ l = List.replicate a 1 ++ List.replicate p 0) ∨
  (s.ph = 2 ∧ ∃ (a p : Nat) (bs : List Int), 3 ≤ p ∧ p ≤ 15 ∧ allB 0 255 bs = true ∧ s = ⟨2, 0, 0, bs⟩ ∧ l = hd1 a p bs) ∨
  (s.ph = 3 ∧ ∃ (a p : Nat) (bs : List Int), 3 ≤ p ∧ p ≤ 15 ∧ allB 0 255 bs = true ∧ s = ⟨3, 0, 0, bs⟩ ∧ l = hd1 a p bs ++ [1]) ∨
  (s.ph = 4 ∧ ∃ (a p : Nat) (bs r : List Int), 3 ≤ p ∧ p ≤ 15 ∧ allB 0 255 bs = true ∧ allB 0 1 r = true ∧ r.length ≤ 7 ∧ s = ⟨4, r.length, numL r, bs⟩ ∧ l = hd1 a p bs ++ (1 :: 0 :: r)) ∨
  (s.ph = 5 ∧ ∃ (a p : Nat) (bs : List Int), 3 ≤ p ∧ p ≤ 15 ∧ allB 0 255 bs = true ∧ s = ⟨5, 0, 0, bs⟩ ∧ l = hd1 a p bs ++ [0]) ∨
  (s.ph = 6 ∧ ∃ (a p b : Nat) (bs : List Int), 3 ≤ p ∧ p ≤ 15 ∧ allB 0 255 bs = true ∧ s = ⟨6, 0, 0, bs⟩ ∧ l = lineOf a p bs b) ∨
  (s.ph = 7 ∧ (0 ≤ s.ct ∧ s.ct ≤ 15) ∧ (0 ≤ s.vl ∧ s.vl ≤ 255) ∧ allB 0 255 s.bs = true ∧ 10 * s.bs.length ≤ l.length)
theorem Inv.start : Inv [] zeroS := .inl ⟨rfl, rfl, 0, rfl⟩
theorem hd1_len (a p : Nat) (bs : List Int) : (hd1 a p bs).length = a + p + 1 + 10 * bs.length := by simp [hd1, blks_len]; omega
theorem numL_bounds {r : List Int} (h : allB 0 1 r = true) : 0 ≤ numL r ∧ numL r + 1 ≤ 2 ^ r.length := numTo_bounds h 0 r.length (by omega)
theorem bits8_numL {r : List Int} (h : allB 0 1 r = true) (hl : r.length = 8) : bits8 (numL r) = r := by
  apply list_ext_nth
  · rw [bits8_len, hl]
  · intro j hj
    rw [bits8_len] at hj
    have := bits8_num h (a := 0) (by omega) hj
    rw [numL, hl, this, Nat.zero_add]
theorem pow_le_7 {n : Nat} (h : n ≤ 7) : (2 : Int) ^ n ≤ 128 := by
  have : n = 0 ∨ n = 1 ∨ n = 2 ∨ n = 3 ∨ n = 4 ∨ n = 5 ∨ n = 6 ∨ n = 7 := by omega
  rcases this with rfl | rfl | rfl | rfl | rfl | rfl | rfl | rfl <;> decide
theorem Inv.step {l : List Int} {s : Scn} (h : Inv l s) {c : Int} (hc : c = 0 ∨ c = 1) : Inv (l ++ [c]) (stepS s c) := by
  rcases h with ⟨_, rfl, a, rfl⟩ | ⟨_, a, p, h1, h2, rfl, rfl⟩ | ⟨_, a, p, bs, h1, h2, h3, rfl, rfl⟩ | ⟨_, a, p, bs, h1, h2, h3, rfl, rfl⟩ | ⟨_, a, p, bs, r, h1, h2, h3, h4, h5, rfl, rfl⟩ | ⟨_, a, p, bs, h1, h2, h3, rfl, rfl⟩ | ⟨_, a, p, b, bs, h1, h2, h3, rfl, rfl⟩ | ⟨h7, hk, hv, hb, hl⟩
  · rcases hc with rfl | rfl
    · exact .inr (.inl ⟨rfl, a, 1, by omega, by omega, rfl, rfl⟩)
    · exact .inl ⟨rfl, rfl, a + 1, by rw [List.replicate_succ']⟩
  · rcases hc with rfl | rfl
    · by_cases h : p < 15
      · refine .inr (.inl ⟨?_, a, p + 1, by omega, by omega, ?_, ?_⟩)
        · have e : (p : Int) < 15 := by omega
          simp [stepS, e]
        · have e : (p : Int) < 15 := by omega
          simp [stepS, e]
        · rw [List.append_assoc, List.replicate_succ']
      · have e : ¬ (p : Int) < 15 := by omega
        refine .inr (.inr (.inr (.inr (.inr (.inr (.inr ⟨?_, ?_, ?_, ?_, ?_⟩)))))) <;> simp [stepS, e, allB]
        omega
    · by_cases h : 3 ≤ p
      · have e : (3 : Int) ≤ (p : Int) := by omega
        refine .inr (.inr (.inl ⟨?_, a, p, [], h, h2, rfl, ?_, ?_⟩))
        · simp [stepS, e]
        · simp [stepS, e]
        · simp [hd1, blks_nil]
      · have e : ¬ (3 : Int) ≤ (p : Int) := by omega
        refine .inr (.inr (.inr (.inr (.inr (.inr (.inr ⟨?_, ?_, ?_, ?_, ?_⟩)))))) <;> simp [stepS, e, allB]
        omega
  · rcases hc with rfl | rfl
    · exact .inr (.inr (.inr (.inr (.inr (.inl ⟨rfl, a, p, bs, h1, h2, h3, rfl, rfl⟩)))))
    · exact .inr (.inr (.inr (.inl ⟨rfl, a, p, bs, h1, h2, h3, rfl, rfl⟩)))
  · rcases hc with rfl | rfl
    · refine .inr (.inr (.inr (.inr (.inl ⟨rfl, a, p, bs, [], h1, h2, h3, rfl, by simp, rfl, ?_⟩))))
      simp
    · refine .inr (.inr (.inr (.inr (.inr (.inr (.inr ⟨rfl, by simp [stepS], by simp [stepS], by simpa [stepS] using h3, ?_⟩))))))
      simp [stepS, hd1_len]
      omega
  · have hcb : allB 0 1 [c] = true := by rcases hc with rfl | rfl <;> rfl
    have hr1 : allB 0 1 (r ++ [c]) = true := by rw [allB_append, h4, hcb]; rfl
    by_cases h : r.length < 7
    · have e : (r.length : Int) < 7 := by omega
      refine .inr (.inr (.inr (.inr (.inl ⟨?_, a, p, bs, r ++ [c], h1, h2, h3, hr1, by simp; omega, ?_, ?_⟩))))
      · simp [stepS, e]
      · simp [stepS, e, numL_snoc]
      · simp
    · have e : ¬ (r.length : Int) < 7 := by omega
      have hl8 : (r ++ [c]).length = 8 := by simp; omega
      have hn := numL_bounds hr1
      rw [numL_snoc, hl8] at hn
      have hb8 := bits8_numL hr1 hl8
      rw [numL_snoc] at hb8
      refine .inr (.inr (.inl ⟨?_, a, p, bs ++ [2 * numL r + c], h1, h2, ?_, ?_, ?_⟩))
      · simp [stepS, e]
      · rw [allB_append, h3]
        simp [allB]
        omega
      · simp [stepS, e]
      · rw [hd1, hd1, blks_snoc, blk, hb8]
        simp
  · rcases hc with rfl | rfl
    · refine .inr (.inr (.inr (.inr (.inr (.inr (.inr ⟨rfl, by simp [stepS], by simp [stepS], by simpa [stepS] using h3, ?_⟩))))))
      simp [stepS, hd1_len]
      omega
    · refine .inr (.inr (.inr (.inr (.inr (.inr (.inl ⟨rfl, a, p, 0, bs, h1, h2, h3, rfl, ?_⟩))))))
      simp [lineOf, hd1, tx]
  · rcases hc with rfl | rfl
    · refine .inr (.inr (.inr (.inr (.inr (.inr (.inr ⟨rfl, by simp [stepS], by simp [stepS], by simpa [stepS] using h3, ?_⟩))))))
      simp [stepS, lineOf_len]
      omega
    · refine .inr (.inr (.inr (.inr (.inr (.inr (.inl ⟨rfl, a, p, b + 1, bs, h1, h2, h3, rfl, ?_⟩))))))
      rw [lineOf, lineOf, List.replicate_succ']
      simp
  · have e : stepS s c = s := by simp [stepS, h7]
    rw [e]
    exact .inr (.inr (.inr (.inr (.inr (.inr (.inr ⟨h7, hk, hv, hb, by simp; omega⟩))))))
theorem Inv.scan {cs : List Int} (hb : allB 0 1 cs = true) (k : Nat) (hk : k ≤ cs.length) : Inv (cs.take k) (scanTo zeroS cs k) := by
  induction k with
  | zero => exact Inv.start
  | succ k ih =>
    rw [take_snoc cs k (by omega), scanTo_succ]
    have := allB_get hb k (by omega)
    exact (ih (by omega)).step (by omega)
theorem Inv.facts {l : List Int} {s : Scn} (h : Inv l s) : (0 ≤ s.ph ∧ s.ph ≤ 7) ∧ (0 ≤ s.ct ∧ s.ct ≤ 15) ∧ (0 ≤ s.vl ∧ s.vl ≤ 255) ∧ allB 0 255 s.bs = true ∧ 10 * s.bs.length ≤ l.length ∧ (s.ph = 4 → s.ct ≤ 7 ∧ s.vl < (2 : Int) ^ s.ct.toNat) := by
  rcases h with ⟨_, rfl, a, rfl⟩ | ⟨_, a, p, h1, h2, rfl, rfl⟩ | ⟨_, a, p, bs, h1, h2, h3, rfl, rfl⟩ | ⟨_, a, p, bs, h1, h2, h3, rfl, rfl⟩ | ⟨_, a, p, bs, r, h1, h2, h3, h4, h5, rfl, rfl⟩ | ⟨_, a, p, bs, h1, h2, h3, rfl, rfl⟩ | ⟨_, a, p, b, bs, h1, h2, h3, rfl, rfl⟩ | ⟨h7, hk, hv, hb, hl⟩
  · exact ⟨by simp [zeroS], by simp [zeroS], by simp [zeroS], rfl, by simp [zeroS], by simp [zeroS]⟩
  · exact ⟨by simp, by simp; omega, by simp, rfl, by simp, by simp⟩
  · exact ⟨by simp, by simp, by simp, h3, by simp [hd1_len] <;> omega, by simp⟩
  · exact ⟨by simp, by simp, by simp, h3, by simp [hd1_len] <;> omega, by simp⟩
  · have hn := numL_bounds h4
    have hp := pow_le_7 h5
    refine ⟨by simp, by simp; omega, by simp; omega, h3, by simp [hd1_len] <;> omega, fun _ => ⟨by simp; omega, ?_⟩⟩
    simp only [Int.toNat_natCast]
    omega
  · exact ⟨by simp, by simp, by simp, h3, by simp [hd1_len] <;> omega, by simp⟩
  · exact ⟨by simp, by simp, by simp, h3, by simp [lineOf_len] <;> omega, by simp⟩
  · exact ⟨by omega, hk, hv, hb, hl, by omega⟩
/-- a list of cells is read without an error -/
theorem ok_zero {cs : List Int} (hb : allB 0 1 cs = true) (hn : cs.length ≤ 8192) (k : Nat) (hk : k ≤ cs.length) : OkTo zeroS cs k := by
  intro j hj
  have h1 := (Inv.scan hb j (by omega)).facts
  have h2 := allB_get hb j (by omega)
  obtain ⟨f1, f2, f3, f4, f5, f6⟩ := h1
  rw [List.length_take] at f5
  have g1 : stepR (scanTo zeroS cs j) (nth cs j) = false := by
    rw [stepR, inB_yes h2.1 h2.2]
    simp
    intro hp
    have := f6 hp
    omega
  have g2 : stepL (scanTo zeroS cs j) = false := by
    rw [stepL]
    have : ¬ (scanTo zeroS cs j).bs.length = 1024 := by omega
    simp [this]
  rw [stepC, g1, g2]; rfl
theorem scan_zero {cs : List Int} (hb : allB 0 1 cs = true) (hn : cs.length ≤ 8192) : scanR zeroS cs = (scanTo zeroS cs cs.length, 0) := scanR_ok (ok_zero hb hn _ (Nat.le_refl _))
/-- the recogniser ends in phase 6 exactly on lines -/
theorem done_iff {cs : List Int} (hb : allB 0 1 cs = true) : (scanTo zeroS cs cs.length).ph = 6 ↔ lineB cs = true := by
  have e := scanTo_fold zeroS cs cs.length (Nat.le_refl _)
  rw [List.take_of_length_le (Nat.le_refl _)] at e
  constructor
  · intro h
    have hi := Inv.scan hb cs.length (Nat.le_refl _)
    rw [List.take_of_length_le (Nat.le_refl _)] at hi
    rcases hi with ⟨g, _⟩ | ⟨g, _⟩ | ⟨g, _⟩ | ⟨g, _⟩ | ⟨g, _⟩ | ⟨g, _⟩ | ⟨_, a, p, b, bs, h1, h2, h3, _, hl⟩ | ⟨g, _⟩
    · omega
    · omega
    · omega
    · omega
    · omega
    · omega
    · rw [hl]; exact lineOf_B h1 h2
    · omega
  · intro h
    obtain ⟨h1, h2, h3, h4⟩ := line_sound hb h
    rw [e]
    have h1' : cs = lineOf (lineA cs) (lineP cs) (lineD cs) (cs.length - lineE cs - 2) := h1
    have := run_line (a := lineA cs) (b := cs.length - lineE cs - 2) h3 h4 h2
    rw [← h1'] at this
    rw [this]
theorem done_bytes {cs : List Int} (hb : allB 0 1 cs = true) (h : lineB cs = true) : scanTo zeroS cs cs.length = ⟨6, 0, 0, lineD cs⟩ := by
  have e := scanTo_fold zeroS cs cs.length (Nat.le_refl _)
  rw [List.take_of_length_le (Nat.le_refl _)] at e
  obtain ⟨h1, h2, h3, h4⟩ := line_sound hb h
  have h1' : cs = lineOf (lineA cs) (lineP cs) (lineD cs) (cs.length - lineE cs - 2) := h1
  have := run_line (a := lineA cs) (b := cs.length - lineE cs - 2) h3 h4 h2
  rw [← h1'] at this
  rw [e, this]

/-- phase 7 stays -/
theorem step_wrong {s : Scn} (h : s.ph = 7) (c : Int) : stepS s c = s := by simp [stepS, h]
theorem scan_wrong {s : Scn} {cs : List Int} {k : Nat} (h : (scanTo s cs k).ph = 7) (j : Nat) : scanTo s cs (k + j) = scanTo s cs k := by
  induction j with
  | zero => rfl
  | succ j ih => rw [Nat.add_succ, scanTo_succ, ih, step_wrong h]

/-- the cells that are missing -/
def missing (s : Scn) : List Int :=
  if s.ph = 0 ∨ s.ph = 1 then List.replicate (3 - s.ct).toNat 0 ++ [1, 0, 1]
  else if s.ph = 2 then [0, 1]
  else if s.ph = 3 then List.replicate 9 0 ++ [0, 1]
  else if s.ph = 4 then List.replicate (8 - s.ct).toNat 0 ++ [0, 1]
  else if s.ph = 5 then [1]
  else []
/-- the next missing cell -/
def nextM (s : Scn) : Int := if (s.ph = 1 ∧ 3 ≤ s.ct) ∨ s.ph = 5 then 1 else 0
/-- what missing cells ask of a scan -/
def Can (s : Scn) : Prop := (s.ph = 0 ∧ s.ct = 0) ∨ (s.ph = 1 ∧ 1 ≤ s.ct) ∨ s.ph = 2 ∨ s.ph = 3 ∨ (s.ph = 4 ∧ 0 ≤ s.ct ∧ s.ct ≤ 7) ∨ s.ph = 5 ∨ s.ph = 6
theorem Inv.can {l : List Int} {s : Scn} (h : Inv l s) (h7 : s.ph ≠ 7) : Can s := by
  rcases h with ⟨_, rfl, a, rfl⟩ | ⟨_, a, p, h1, h2, rfl, rfl⟩ | ⟨g, _⟩ | ⟨g, _⟩ | ⟨_, a, p, bs, r, h1, h2, h3, h4, h5, rfl, rfl⟩ | ⟨g, _⟩ | ⟨g, _⟩ | ⟨g, _⟩
  · exact .inl ⟨rfl, rfl⟩
  · exact .inr (.inl ⟨rfl, by simp; omega⟩)
  · exact .inr (.inr (.inl g))
  · exact .inr (.inr (.inr (.inl g)))
  · exact .inr (.inr (.inr (.inr (.inl ⟨rfl, by simp, by simp; omega⟩))))
  · exact .inr (.inr (.inr (.inr (.inr (.inl g)))))
  · exact .inr (.inr (.inr (.inr (.inr (.inr g)))))
  · exact absurd g h7
theorem missing_step {s : Scn} (h : Can s) (h6 : s.ph ≠ 6) : missing s = nextM s :: missing (stepS s (nextM s)) ∧ Can (stepS s (nextM s)) := by
  rcases h with ⟨h, h'⟩ | ⟨h, h'⟩ | h | h | ⟨h, h', h''⟩ | h | h
  · constructor
    · simp [missing, nextM, stepS, h, h', List.replicate]
    · simp [Can, nextM, stepS, h, h']
  · by_cases h3 : 3 ≤ s.ct
    · have e : (3 - s.ct).toNat = 0 := by omega
      constructor
      · simp [missing, nextM, stepS, h, h3, e]
      · simp [Can, nextM, stepS, h, h3]
    · have e : (3 - s.ct).toNat = (3 - (s.ct + 1)).toNat + 1 := by omega
      have e2 : s.ct < 15 := by omega
      constructor
      · simp [missing, nextM, stepS, h, h3, e, e2, List.replicate_succ]
      · simp [Can, nextM, stepS, h, h3, e2]
        omega
  · constructor
    · simp [missing, nextM, stepS, h]
    · simp [Can, nextM, stepS, h]
  · constructor
    · simp [missing, nextM, stepS, h, List.replicate]
    · simp [Can, nextM, stepS, h]
  · by_cases h7 : s.ct < 7
    · have e : (8 - s.ct).toNat = (8 - (s.ct + 1)).toNat + 1 := by omega
      constructor
      · simp [missing, nextM, stepS, h, h7, e, List.replicate_succ]
      · simp [Can, nextM, stepS, h, h7]
        omega
    · have e : (8 - s.ct).toNat = 1 := by omega
      constructor
      · simp [missing, nextM, stepS, h, h7, e]
      · simp [Can, nextM, stepS, h, h7]
  · constructor
    · simp [missing, nextM, stepS, h]
    · simp [Can, nextM, stepS, h]
  · exact absurd h h6
theorem missing_done {s : Scn} (h : s.ph = 6) : missing s = [] := by simp [missing, h]
theorem missing_len {s : Scn} (h : Can s) : (missing s).length ≤ 20 := by
  rcases h with ⟨h, h'⟩ | ⟨h, h'⟩ | h | h | ⟨h, h', h''⟩ | h | h <;> simp [missing, h] <;> omega
theorem missing_bits (s : Scn) : allB 0 1 (missing s) = true := by
  unfold missing
  repeat' split
  all_goals simp [allB]
/-- with the missing cells phase 6 is reached, and not earlier -/
theorem missing_reach (n : Nat) : ∀ (s : Scn), Can s → (missing s).length = n → (scanTo s (missing s) n).ph = 6 ∧ ∀ j, j < n → (scanTo s (missing s) j).ph ≠ 6 := by
  induction n with
  | zero =>
    intro s hc hl
    refine ⟨?_, fun j hj => by omega⟩
    by_cases h6 : s.ph = 6
    · exact h6
    · have := (missing_step hc h6).1
      rw [this] at hl
      simp at hl
  | succ n ih =>
    intro s hc hl
    have h6 : s.ph ≠ 6 := by
      intro h
      rw [missing_done h] at hl
      simp at hl
    obtain ⟨e, hc'⟩ := missing_step hc h6
    have hl' : (missing (stepS s (nextM s))).length = n := by
      rw [e] at hl
      simpa using hl
    obtain ⟨i1, i2⟩ := ih _ hc' hl'
    rw [e]
    refine ⟨by rw [scanTo_cons]; exact i1, fun j hj => ?_⟩
    cases j with
    | zero => exact h6
    | succ j => rw [scanTo_cons]; exact i2 j (by omega)
end Go.Proofs.Ytdodhjahihfaiaa
