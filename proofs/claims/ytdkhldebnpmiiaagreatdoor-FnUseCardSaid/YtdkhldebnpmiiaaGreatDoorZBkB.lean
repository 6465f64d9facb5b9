/- The library's contract of strings.Trim at an ASCII cutset, laid at this program by the kit's tool, in plain words. Contracts: a node's entry, by the program and by the reference. Contracts: a name and a node's entry, by the reference. Contracts: the closures of the tables. Contracts: slices.IndexFunc and slices.ContainsFunc at the tables. Vectors: sets of nodes, as numbers below 2^32. Contracts: looking up a slot and a node. The laws' own look at the size of an argument. The laws' own copies of an argument. Contracts: the entries of a mode, their durations' sum. Contracts: the cycles are short; the senders. -/
import Derived.Shelf.Strings.SlTrimAscii
import Derived.Test.YtdkhldebnpmiiaaGreatDoorProg
import Derived.Test.YtdkhldebnpmiiaaGreatDoorZBkA
import Derived.BigQuiet
import Derived.Laws.Bits64b
import Derived.Laws.MakeOwn
namespace Go.Proofs
open Go.Shelf
def Tryz.lays160_ren : Go.Shelf.Ren := ⟨fun | 160 => 170 | 232 => 176 | 231 => 175 | 227 => 177 | 234 => 179 | 233 => 178 | 236 => 181 | 235 => 180 | 228 => 184 | 271 => 187 | 151 => 186 | 197 => 185 | 120 => 190 | 152 => 189 | 260 => 188 | 137 => 191 | 119 => 192 | 224 => 193 | 225 => 194 | 217 => 195 | 266 => 196 | n => n, fun | 9 => 9 | 4 => 4 | 3 => 3 | 5 => 5 | 117 => 156 | 116 => 155 | 0 => 0 | 124 => 159 | 21 => 21 | 105 => 161 | 46 => 127 | 119 => 165 | 139 => 168 | 138 => 167 | n => n, fun | 3 => 0 | 4 => 1 | n => n⟩
theorem Tryz.lays160 : Go.Proofs.Lays.n160 Tryz.prog Tryz.lays160_ren := {
  mixed := by kernel_rfl
  f119 := Tryz.func192.trans (congrArg some (by kernel_rfl))
  f120 := Tryz.func190.trans (congrArg some (by kernel_rfl))
  f137 := Tryz.func191.trans (congrArg some (by kernel_rfl))
  f151 := Tryz.func186.trans (congrArg some (by kernel_rfl))
  f152 := Tryz.func189.trans (congrArg some (by kernel_rfl))
  f160 := Tryz.func170.trans (congrArg some (by kernel_rfl))
  f197 := Tryz.func185.trans (congrArg some (by kernel_rfl))
  f217 := Tryz.func195.trans (congrArg some (by kernel_rfl))
  f224 := Tryz.func193.trans (congrArg some (by kernel_rfl))
  f225 := Tryz.func194.trans (congrArg some (by kernel_rfl))
  f227 := Tryz.func177.trans (congrArg some (by kernel_rfl))
  f228 := Tryz.func184.trans (congrArg some (by kernel_rfl))
  f231 := Tryz.func175.trans (congrArg some (by kernel_rfl))
  f232 := Tryz.func176.trans (congrArg some (by kernel_rfl))
  f233 := Tryz.func178.trans (congrArg some (by kernel_rfl))
  f234 := Tryz.func179.trans (congrArg some (by kernel_rfl))
  f235 := Tryz.func180.trans (congrArg some (by kernel_rfl))
  f236 := Tryz.func181.trans (congrArg some (by kernel_rfl))
  f260 := Tryz.func188.trans (congrArg some (by kernel_rfl))
  f266 := Tryz.func196.trans (congrArg some (by kernel_rfl))
  f271 := Tryz.func187.trans (congrArg some (by kernel_rfl))
  t0 := Tryz.underlying0
  a0 := Tryz.isAgg0
  z0 := Tryz.sizeOf0
  v0 := Tryz.zeroValue0
  t3 := Tryz.underlying3
  a3 := Tryz.isAgg3
  z3 := Tryz.sizeOf3
  v3 := Tryz.zeroValue3
  t4 := Tryz.underlying4
  a4 := Tryz.isAgg4
  z4 := Tryz.sizeOf4
  v4 := Tryz.zeroValue4
  t5 := Tryz.underlying5
  a5 := Tryz.isAgg5
  z5 := Tryz.sizeOf5
  v5 := Tryz.zeroValue5
  t9 := Tryz.underlying9
  a9 := Tryz.isAgg9
  z9 := Tryz.sizeOf9
  v9 := Tryz.zeroValue9
  t21 := Tryz.underlying21
  a21 := Tryz.isAgg21
  z21 := Tryz.sizeOf21
  v21 := Tryz.zeroValue21
  t46 := Tryz.underlying127
  a46 := Tryz.isAgg127
  z46 := Tryz.sizeOf127
  v46 := Tryz.zeroValue127
  t105 := Tryz.underlying161
  a105 := Tryz.isAgg161
  z105 := Tryz.sizeOf161
  v105 := Tryz.zeroValue161
  t116 := Tryz.underlying155
  a116 := Tryz.isAgg155
  z116 := Tryz.sizeOf155
  t117 := Tryz.underlying156
  a117 := Tryz.isAgg156
  z117 := Tryz.sizeOf156
  v117 := Tryz.zeroValue156
  t119 := Tryz.underlying165
  a119 := Tryz.isAgg165
  z119 := Tryz.sizeOf165
  t124 := Tryz.underlying159
  a124 := Tryz.isAgg159
  z124 := Tryz.sizeOf159
  v124 := Tryz.zeroValue159
  t138 := Tryz.underlying167
  a138 := Tryz.isAgg167
  z138 := Tryz.sizeOf167
  v138 := Tryz.zeroValue167
  t139 := Tryz.underlying168
  a139 := Tryz.isAgg168
  z139 := Tryz.sizeOf168
  v139 := Tryz.zeroValue168
  g3 := by kernel_rfl
  g4 := by kernel_rfl }
open Go.RowKit in
/-- strings.Trim at an ASCII cutset -/
theorem Tryz.strings_Trim_set (s cutset : ByteArray) (w : World) (hs : s.size ≤ 9223372036854775807) (hcs : cutset.size < 4294967281) (hascii : ∀ (j : Nat) b, cutset.data.toList[j]? = some b → b.toNat < 128) :
    Calls Tryz.prog 170 #[.string s, .string cutset] w fun e w' => e = .returned (.string ⟨(Lib.trimS s.data.toList cutset.data.toList).toArray⟩) ∧ Below w.heap.size w w' := Any.strings_Trim_laid Tryz.lays160 (by kernel_rfl) s cutset w hs hcs hascii
end Go.Proofs
namespace Go.Proofs.YtdkhldebnpmiiaaGreatDoor
open Go.RowKit
set_option linter.unusedVariables false
set_option linter.unusedSimpArgs false
theorem iisNode_any (x : Int) (w : World) : Calls Tryz.prog 108 #[.int .i64 x] w fun e w' => e = .returned (.bool (inB 0 31 x)) ∧ w = w' := by
  go_enter Tryz.func108, Tryz.ntmps108
  go_wp2_with fail
  refine (within_any x 0 31 _).mono ?_
  rintro e w1 ⟨rfl, rfl⟩
  go_wp2
  go_ret
  exact ⟨rfl, rfl⟩
theorem l05Node_any (x : Int) (w : World) : Calls Tryz.prog 168 #[.int .i64 x] w fun e w' => e = .returned (.bool (inB 0 31 x)) ∧ w = w' := by
  go_enter Tryz.func168, Tryz.ntmps168
  go_wp2_with fail
  refine (l01In_any x 0 31 _).mono ?_
  rintro e w1 ⟨rfl, rfl⟩
  go_wp2
  go_ret
  exact ⟨rfl, rfl⟩
/-- a letter or a digit -/
def letB (b : UInt8) : Bool := (decide (97 ≤ b.toNat) && decide (b.toNat ≤ 122)) || (decide (48 ≤ b.toNat) && decide (b.toNat ≤ 57))
def lets : List UInt8 := [97, 98, 99, 100, 101, 102, 103, 104, 105, 106, 107, 108, 109, 110, 111, 112, 113, 114, 115, 116, 117, 118, 119, 120, 121, 122, 48, 49, 50, 51, 52, 53, 54, 55, 56, 57]
theorem lets_all : ((List.range 256).all fun n => lets.contains (UInt8.ofNat n) == letB (UInt8.ofNat n)) = true := by decide +kernel
theorem lets_is (b : UInt8) : lets.contains b = letB b := by
  have h := List.all_eq_true.1 lets_all b.toNat (List.mem_range.2 (UInt8.toNat_lt b))
  rw [UInt8.ofNat_toNat] at h
  simpa using h
def nameB (s : ByteArray) : Bool := decide (1 ≤ s.size) && (decide (s.size ≤ 6) && s.data.toList.all letB)
theorem trim_nil (l : List UInt8) : (Lib.trimS l lets).isEmpty = l.all letB := by
  have e : (fun b => lets.contains b) = letB := funext lets_is
  have drop_nil : ∀ l : List UInt8, (l.dropWhile letB).isEmpty = l.all letB := fun l => by
    induction l with
    | nil => rfl
    | cons b l ih =>
      rw [List.dropWhile_cons, List.all_cons]
      cases h : letB b
      · simp
      · simpa using ih
  have drop_all : ∀ l : List UInt8, (l.dropWhile letB).all letB = l.all letB := fun l => by
    induction l with
    | nil => rfl
    | cons b l ih =>
      rw [List.dropWhile_cons, List.all_cons]
      cases h : letB b
      · simp [h]
      · simpa using ih
  unfold Lib.trimS Lib.trimLeftS Lib.trimRightS
  rw [e, drop_nil, List.all_reverse, drop_all, List.all_reverse]
def nodeB (x : Nod) : Bool := nameB x.nm && (inB 0 31 x.id && inB 0 1000 x.dr)
theorem trim_any (s : ByteArray) (w : World) (hs : s.size ≤ 9223372036854775807) :
    Calls Tryz.prog 170 #[.string s, .string ⟨#[97, 98, 99, 100, 101, 102, 103, 104, 105, 106, 107, 108, 109, 110, 111, 112, 113, 114, 115, 116, 117, 118, 119, 120, 121, 122, 48, 49, 50, 51, 52, 53, 54, 55, 56, 57]⟩] w
      fun e w' => ∃ r : ByteArray, e = .returned (.string r) ∧ r.toList.isEmpty = s.data.toList.all letB ∧ (s.data.toList.all letB = true → r = ⟨#[]⟩) ∧ Below w.heap.size w w' := by
  refine (Tryz.strings_Trim_set s _ w hs (by decide) (ascii_of_all (by decide))).mono ?_
  rintro e w1 ⟨rfl, b1⟩
  refine ⟨_, rfl, ?_, fun h => ?_, b1⟩
  · rw [Lib.toList_data]
    exact trim_nil _
  · rw [← trim_nil] at h
    have : Lib.trimS s.data.toList lets = [] := List.isEmpty_iff.1 h
    show (⟨(Lib.trimS s.data.toList lets).toArray⟩ : ByteArray) = _
    rw [this]
set_option maxHeartbeats 3200000 in
theorem iIsNodeInfo_any (x : Nod) (w : World) : Calls Tryz.prog 154 #[.agg #[.int .i64 x.id, .string x.nm, .int .i64 x.dr, .bool x.pas]] w fun e w' => e = .returned (.bool (nodeB x)) ∧ Below w.heap.size w w' := by
  have B0 : Below w.heap.size w (w.alloc (.cells #[.int .i64 x.id, .string x.nm, .int .i64 x.dr, .bool x.pas] 68)) := by (repeat (first | exact Below.refl _ _ | (refine Below.alloc ?_ (by simp <;> omega) _) | (refine Below.setCell ?_ (by simp <;> omega) _)))
  have A0 := At.fresh w 68 #[.int .i64 x.id, .string x.nm, .int .i64 x.dr, .bool x.pas]
  have HN := hide (show nodeB x = (nameB x.nm && (inB 0 31 x.id && inB 0 1000 x.dr)) from rfl)
  by_cases h1 : 1 ≤ x.nm.size
  · have t1 : decide ((1 : Int) ≤ (x.nm.size : Int)) = true := decide_eq_true (by omega)
    by_cases h2 : x.nm.size ≤ 6
    · have t2 : decide ((x.nm.size : Int) ≤ 6) = true := decide_eq_true (by omega)
      have hb : nameB x.nm = x.nm.data.toList.all letB := by rw [nameB, decide_eq_true h1, decide_eq_true h2]; rfl
      have hk := trim_any x.nm (w.alloc (.cells #[.int .i64 x.id, .string x.nm, .int .i64 x.dr, .bool x.pas] 68)) (by omega)
      rw [← hb] at hk
      cases hall : nameB x.nm
      · rw [hall] at hk HN
        have e0 : nodeB x = false := HN.out
        go_enter Tryz.func154, Tryz.ntmps154
        go_wp2_with (go_at_call 170; refine hk.mono ?_; rintro e w1 ⟨r, rfl, hr, _, b1⟩)
        go_ret
        exact ⟨by rw [e0]; rfl, B0.trans (b1.mono (by simp))⟩
      · rw [hall] at hk HN
        have e0 : nodeB x = (inB 0 31 x.id && inB 0 1000 x.dr) := HN.out
        go_enter Tryz.func154, Tryz.ntmps154
        cases hi : inB 0 31 x.id
        · go_wp2_with (first | (go_at_call 170; refine hk.mono ?_; rintro e w1 ⟨r, rfl, _, hr, b1⟩; obtain rfl := hr rfl; have A1 := A0.keep b1; have c0 := A1.cell 0; have c2 := A1.cell 2; simp at c0 c2) | (go_at_call 108; refine (iisNode_any _ _).mono ?_; rintro e w2 ⟨rfl, rfl⟩; rw [hi]))
          go_ret
          exact ⟨by rw [e0, hi]; rfl, B0.trans (b1.mono (by simp))⟩
        · go_wp2_with (first | (go_at_call 170; refine hk.mono ?_; rintro e w1 ⟨r, rfl, _, hr, b1⟩; obtain rfl := hr rfl; have A1 := A0.keep b1; have c0 := A1.cell 0; have c2 := A1.cell 2; simp at c0 c2) | (go_at_call 108; refine (iisNode_any _ _).mono ?_; rintro e w2 ⟨rfl, rfl⟩; rw [hi]) | (go_at_call 101; refine (within_any _ _ _ _).mono ?_; rintro e w3 ⟨rfl, rfl⟩))
          go_ret
          exact ⟨by rw [e0, hi]; rfl, B0.trans (b1.mono (by simp))⟩
    · have t2 : decide ((x.nm.size : Int) ≤ 6) = false := decide_eq_false (by omega)
      have e0 : nodeB x = false := by rw [HN.out, nameB, decide_eq_false h2, Bool.false_and, Bool.and_false, Bool.false_and]
      go_enter Tryz.func154, Tryz.ntmps154
      go_wp2
      go_ret
      exact ⟨by rw [e0]; rfl, B0⟩
  · have t1 : decide ((1 : Int) ≤ (x.nm.size : Int)) = false := decide_eq_false (by omega)
    have e0 : nodeB x = false := by rw [HN.out, nameB, decide_eq_false h1, Bool.false_and, Bool.false_and]
    go_enter Tryz.func154, Tryz.ntmps154
    go_wp2
    go_ret
    exact ⟨by rw [e0]; rfl, B0⟩
end Go.Proofs.YtdkhldebnpmiiaaGreatDoor
namespace Go.Proofs.YtdkhldebnpmiiaaGreatDoor
open Go.RowKit
set_option linter.unusedVariables false
set_option linter.unusedSimpArgs false
theorem byte_at (s : ByteArray) (k : Nat) (h : k < s.size) : s.data.toList[k]? = some s[k] := by
  rw [Array.getElem?_toList]
  exact Array.getElem?_eq_getElem h
set_option maxHeartbeats 1600000 in
theorem l10Name_any (s : ByteArray) (w : World) (hs : s.size ≤ 9223372036854775807) : Calls Tryz.prog 169 #[.string s] w fun e w' => e = .returned (.bool (nameB s)) ∧ w = w' := by
  go_enter Tryz.func169, Tryz.ntmps169
  go_wp2
  go_loopw [3] (fun i wr => ∃ k : Nat, k ≤ s.size ∧ i = .int .i64 k ∧ Hid (∀ j b, j < k → s.data.toList[j]? = some b → letB b = true) ∧ wr = w) (fun i _ => s.size - (intOf i).toNat)
  case atStart => exact ⟨0, by omega, rfl, hide (fun j b hj => by omega), rfl⟩
  case round =>
    obtain ⟨k, hk, rfl, hall, rfl⟩ := hrel
    by_cases hlt : k < s.size
    · have hb := hide (byte_at s k hlt)
      have H : Hid (letB s[k] = ((decide (97 ≤ (s[k].toNat : Int)) && decide ((s[k].toNat : Int) ≤ 122)) || (decide (48 ≤ (s[k].toNat : Int)) && decide ((s[k].toNat : Int) ≤ 57)))) := by
        unfold Hid letB
        congr 1 <;> congr 1 <;> simp <;> omega
      have fin : ∀ v : Bool, letB s[k] = v → Hid ((v = false → nameB s = false) ∧ (v = true → ∀ j b, j < k + 1 → s.data.toList[j]? = some b → letB b = true)) := fun v hv => by
        refine ⟨fun e => ?_, fun e j b hj hjb => ?_⟩
        · have : s.data.toList.all letB = false := List.all_eq_false.2 ⟨_, List.mem_of_getElem? hb.out, by rw [hv, e]; simp⟩
          rw [nameB, this, Bool.and_false, Bool.and_false]
        · rcases Nat.lt_succ_iff_lt_or_eq.1 hj with h | h
          · exact hall.out j b h hjb
          · subst h
            rw [hb.out] at hjb
            obtain rfl := Option.some.inj hjb
            rw [hv, e]
      have fin0 : letB s[k] = false → Hid (nameB s = false) := fun h => (fin false h).out.1 rfl
      have fin1 : letB s[k] = true → Hid (∀ j b, j < k + 1 → s.data.toList[j]? = some b → letB b = true) := fun h => (fin true h).out.2 rfl
      clear fin
      have hcase : ((s[k].toNat : Int) < 48 ∨ 48 ≤ (s[k].toNat : Int) ∧ (s[k].toNat : Int) ≤ 57 ∨ 57 < (s[k].toNat : Int) ∧ (s[k].toNat : Int) < 97 ∨ 97 ≤ (s[k].toNat : Int) ∧ (s[k].toNat : Int) ≤ 122 ∨ 122 < (s[k].toNat : Int)) := by omega
      have bad : ∀ (d1 d2 d3 d4 : Bool), decide ((s[k].toNat : Int) < 97) = d1 → decide (122 < (s[k].toNat : Int)) = d2 → decide ((s[k].toNat : Int) < 48) = d3 → decide (57 < (s[k].toNat : Int)) = d4 → letB s[k] = !((d1 || d2) && (d3 || d4)) := by
        rintro d1 d2 d3 d4 rfl rfl rfl rfl
        rw [H.out]
        have e1 : decide ((s[k].toNat : Int) < 97) = !decide (97 ≤ (s[k].toNat : Int)) := by by_cases h : 97 ≤ (s[k].toNat : Int) <;> simp [h] <;> omega
        have e2 : decide (122 < (s[k].toNat : Int)) = !decide ((s[k].toNat : Int) ≤ 122) := by by_cases h : (s[k].toNat : Int) ≤ 122 <;> simp [h] <;> omega
        have e3 : decide ((s[k].toNat : Int) < 48) = !decide (48 ≤ (s[k].toNat : Int)) := by by_cases h : 48 ≤ (s[k].toNat : Int) <;> simp [h] <;> omega
        have e4 : decide (57 < (s[k].toNat : Int)) = !decide ((s[k].toNat : Int) ≤ 57) := by by_cases h : (s[k].toNat : Int) ≤ 57 <;> simp [h] <;> omega
        rw [e1, e2, e3, e4]
        cases decide (97 ≤ (s[k].toNat : Int)) <;> cases decide ((s[k].toNat : Int) ≤ 122) <;> cases decide (48 ≤ (s[k].toNat : Int)) <;> cases decide ((s[k].toNat : Int) ≤ 57) <;> rfl
      rcases hcase with h | h | h | h | h
      · have t1 : decide ((s[k].toNat : Int) < 97) = true := decide_eq_true (by omega)
        have t2 : decide (122 < (s[k].toNat : Int)) = false := decide_eq_false (by omega)
        have t3 : decide ((s[k].toNat : Int) < 48) = true := decide_eq_true (by omega)
        have F := fin0 (bad true false true false t1 t2 t3 (decide_eq_false (by omega)))
        clear bad fin0 fin1 H h hb
        go_wp2
        go_ret
        exact ⟨by rw [F.out]; rfl, rfl⟩
      · have t1 : decide ((s[k].toNat : Int) < 97) = true := decide_eq_true (by omega)
        have t2 : decide (122 < (s[k].toNat : Int)) = false := decide_eq_false (by omega)
        have t3 : decide ((s[k].toNat : Int) < 48) = false := decide_eq_false (by omega)
        have t4 : decide (57 < (s[k].toNat : Int)) = false := decide_eq_false (by omega)
        have F := fin1 (bad true false false false t1 t2 t3 t4)
        clear bad fin0 fin1 H h hb
        go_wp2
        go_roundw
        case rel => exact ⟨k + 1, by omega, by go_num, F, trivial⟩
        case measure => simp [intOf]; omega
      · have t1 : decide ((s[k].toNat : Int) < 97) = true := decide_eq_true (by omega)
        have t2 : decide (122 < (s[k].toNat : Int)) = false := decide_eq_false (by omega)
        have t3 : decide ((s[k].toNat : Int) < 48) = false := decide_eq_false (by omega)
        have t4 : decide (57 < (s[k].toNat : Int)) = true := decide_eq_true (by omega)
        have F := fin0 (bad true false false true t1 t2 t3 t4)
        clear bad fin0 fin1 H h hb
        go_wp2
        go_ret
        exact ⟨by rw [F.out]; rfl, rfl⟩
      · have t1 : decide ((s[k].toNat : Int) < 97) = false := decide_eq_false (by omega)
        have t2 : decide (122 < (s[k].toNat : Int)) = false := decide_eq_false (by omega)
        have F := fin1 (bad false false (decide ((s[k].toNat : Int) < 48)) (decide (57 < (s[k].toNat : Int))) t1 t2 rfl rfl)
        clear bad fin0 fin1 H h hb
        go_wp2
        go_roundw
        case rel => exact ⟨k + 1, by omega, by go_num, F, trivial⟩
        case measure => simp [intOf]; omega
      · have t1 : decide ((s[k].toNat : Int) < 97) = false := decide_eq_false (by omega)
        have t2 : decide (122 < (s[k].toNat : Int)) = true := decide_eq_true (by omega)
        have t3 : decide ((s[k].toNat : Int) < 48) = false := decide_eq_false (by omega)
        have t4 : decide (57 < (s[k].toNat : Int)) = true := decide_eq_true (by omega)
        have F := fin0 (bad false true false true t1 t2 t3 t4)
        clear bad fin0 fin1 H h hb
        go_wp2
        go_ret
        exact ⟨by rw [F.out]; rfl, rfl⟩
    · obtain rfl : k = s.size := by omega
      have hA : s.data.toList.all letB = true := List.all_eq_true.2 fun b hb => by
        obtain ⟨j, hj, rfl⟩ := List.getElem_of_mem hb
        exact hall.out j _ (by simpa using hj) (List.getElem?_eq_getElem hj)
      have e0 : nameB s = (decide ((1 : Int) ≤ (s.size : Int)) && decide ((s.size : Int) ≤ 6)) := by
        rw [nameB, hA, Bool.and_true]
        congr 1 <;> simp <;> omega
      have E0 := hide e0
      clear e0 hA
      by_cases h1 : 1 ≤ s.size
      · have t1 : decide ((1 : Int) ≤ (s.size : Int)) = true := decide_eq_true (by omega)
        go_wp2
        go_ret
        exact ⟨by rw [E0.out, t1]; rfl, rfl⟩
      · have t1 : decide ((1 : Int) ≤ (s.size : Int)) = false := decide_eq_false (by omega)
        go_wp2
        go_ret
        exact ⟨by rw [E0.out, t1]; rfl, rfl⟩
set_option maxHeartbeats 1600000 in
theorem sIsNodeInfo_any (x : Nod) (w : World) (hs : x.nm.size ≤ 9223372036854775807) : Calls Tryz.prog 153 #[.agg #[.int .i64 x.id, .string x.nm, .int .i64 x.dr, .bool x.pas]] w fun e w' => e = .returned (.bool (nodeB x)) ∧ Below w.heap.size w w' := by
  have B0 : Below w.heap.size w (w.alloc (.cells #[.int .i64 x.id, .string x.nm, .int .i64 x.dr, .bool x.pas] 68)) := by (repeat (first | exact Below.refl _ _ | (refine Below.alloc ?_ (by simp <;> omega) _) | (refine Below.setCell ?_ (by simp <;> omega) _)))
  have HN := hide (show nodeB x = (nameB x.nm && (inB 0 31 x.id && inB 0 1000 x.dr)) from rfl)
  go_enter Tryz.func153, Tryz.ntmps153
  cases h1 : inB 0 31 x.id <;> cases h2 : nameB x.nm
  all_goals
    have H1 := hide h1
    have H2 := hide h2
    clear h1 h2
    go_wp2_with (first | (go_at_call 168; refine (l05Node_any _ _).mono ?_; rintro e w2 ⟨rfl, rfl⟩; rw [H1.out]) | (go_at_call 169; refine (l10Name_any _ _ hs).mono ?_; rintro e w2 ⟨rfl, rfl⟩; rw [H2.out]) | (go_at_call 122; refine (l01In_any _ _ _ _).mono ?_; rintro e w3 ⟨rfl, rfl⟩))
    go_ret
    exact ⟨by rw [HN.out, H1.out, H2.out]; rfl, B0⟩
end Go.Proofs.YtdkhldebnpmiiaaGreatDoor
namespace Go.Proofs.YtdkhldebnpmiiaaGreatDoor
open Go.RowKit
set_option linter.unusedVariables false
set_option linter.unusedSimpArgs false
def BoolOut (b : Bool) (w : World) (e : Ending) (w' : World) : Prop := e = .returned (.bool b) ∧ Below w.heap.size w w'
set_option maxHeartbeats 800000 in
theorem same_name (y : Nod) (g : Nat) (nm : ByteArray) (w : World) (h : w.cell? ⟨g, 1, none⟩ = some (.string nm)) :
    Calls Tryz.prog 156 #[.agg #[.int .i64 y.id, .string y.nm, .int .i64 y.dr, .bool y.pas], .pointer (some ⟨g, 0, none⟩)] w (BoolOut (y.nm.toList == nm.toList) w) := by
  have hg := World.block_lt_of_cell? w _ h
  have h2 := ((Below.refl w.heap.size w).alloc (Nat.le_refl _) (.cells #[.int .i64 y.id, .string y.nm, .int .i64 y.dr, .bool y.pas] 68)).cell (p := ⟨g, 1, none⟩) hg
  rw [h] at h2
  go_enter Tryz.func156, Tryz.ntmps156
  go_wp2
  go_ret
  exact ⟨rfl, by (repeat (first | exact Below.refl _ _ | (refine Below.alloc ?_ (by simp <;> omega) _) | (refine Below.setCell ?_ (by simp <;> omega) _)))⟩
set_option maxHeartbeats 800000 in
theorem same_id (y : Nod) (g : Nat) (id : Int) (w : World) (h : w.cell? ⟨g, 0, none⟩ = some (.int .i64 id)) :
    Calls Tryz.prog 133 #[.agg #[.int .i64 y.id, .string y.nm, .int .i64 y.dr, .bool y.pas], .pointer (some ⟨g, 0, none⟩)] w (BoolOut (y.id == id) w) := by
  have hg := World.block_lt_of_cell? w _ h
  have h2 := ((Below.refl w.heap.size w).alloc (Nat.le_refl _) (.cells #[.int .i64 y.id, .string y.nm, .int .i64 y.dr, .bool y.pas] 68)).cell (p := ⟨g, 0, none⟩) hg
  rw [h] at h2
  go_enter Tryz.func133, Tryz.ntmps133
  go_wp2
  go_ret
  exact ⟨rfl, by (repeat (first | exact Below.refl _ _ | (refine Below.alloc ?_ (by simp <;> omega) _) | (refine Below.setCell ?_ (by simp <;> omega) _)))⟩
def slotB (a b c : Int) (y : Slt) : Bool := y.md == a && (y.rd == b && y.sl == c)
set_option maxHeartbeats 1600000 in
theorem same_slot (y : Slt) (g : Nat) (a b c : Int) (w : World) (h0 : w.cell? ⟨g, 0, none⟩ = some (.int .i64 a)) (h1 : w.cell? ⟨g + 1, 0, none⟩ = some (.int .i64 b)) (h2 : w.cell? ⟨g + 1 + 1, 0, none⟩ = some (.int .i64 c)) :
    Calls Tryz.prog 173 #[.agg #[.int .i64 y.md, .int .i64 y.rd, .int .i64 y.sl, .int .i64 y.nd, .int .i64 y.kd, .int .i64 y.sz, .int .i64 y.du, .bool y.ch], .pointer (some ⟨g, 0, none⟩), .pointer (some ⟨g + 1, 0, none⟩), .pointer (some ⟨g + 1 + 1, 0, none⟩)] w (BoolOut (slotB a b c y) w) := by
  have B0 := (Below.refl w.heap.size w).alloc (Nat.le_refl _) (.cells #[.int .i64 y.md, .int .i64 y.rd, .int .i64 y.sl, .int .i64 y.nd, .int .i64 y.kd, .int .i64 y.sz, .int .i64 y.du, .bool y.ch] 61)
  have g0 := (B0.cell (p := ⟨g, 0, none⟩) (World.block_lt_of_cell? w _ h0)).trans h0
  have g1 := (B0.cell (p := ⟨g + 1, 0, none⟩) (World.block_lt_of_cell? w _ h1)).trans h1
  have g2 := (B0.cell (p := ⟨g + 1 + 1, 0, none⟩) (World.block_lt_of_cell? w _ h2)).trans h2
  have HB := hide B0
  clear B0 h0 h1 h2
  have HS := hide (show slotB a b c y = (y.md == a && (y.rd == b && y.sl == c)) from rfl)
  cases e1 : (y.md == a)
  · rw [e1] at HS
    have E := hide (show slotB a b c y = false from HS.out)
    go_enter Tryz.func173, Tryz.ntmps173
    go_wp2
    go_ret
    exact ⟨by rw [E.out]; rfl, HB.out⟩
  · cases e2 : (y.rd == b)
    · rw [e1, e2] at HS
      have E := hide (show slotB a b c y = false from HS.out)
      go_enter Tryz.func173, Tryz.ntmps173
      go_wp2
      go_ret
      exact ⟨by rw [E.out]; rfl, HB.out⟩
    · rw [e1, e2] at HS
      have E := hide (show slotB a b c y = (y.sl == c) from HS.out)
      go_enter Tryz.func173, Tryz.ntmps173
      go_wp2
      go_ret
      exact ⟨by rw [E.out]; rfl, HB.out⟩
def coldB (y : Slt) : Bool := y.kd == 3 && y.md != 0
set_option maxHeartbeats 1600000 in
theorem cold_any (y : Slt) (w : World) :
    Calls Tryz.prog 136 #[.agg #[.int .i64 y.md, .int .i64 y.rd, .int .i64 y.sl, .int .i64 y.nd, .int .i64 y.kd, .int .i64 y.sz, .int .i64 y.du, .bool y.ch]] w (BoolOut (coldB y) w) := by
  have HB := hide ((Below.refl w.heap.size w).alloc (Nat.le_refl _) (.cells #[.int .i64 y.md, .int .i64 y.rd, .int .i64 y.sl, .int .i64 y.nd, .int .i64 y.kd, .int .i64 y.sz, .int .i64 y.du, .bool y.ch] 61))
  have HS := hide (show coldB y = (y.kd == 3 && y.md != 0) from rfl)
  cases e1 : (y.kd == 3)
  · rw [e1] at HS
    have E := hide (show coldB y = false from HS.out)
    go_enter Tryz.func136, Tryz.ntmps136
    go_wp2
    go_ret
    exact ⟨by rw [E.out]; rfl, HB.out⟩
  · rw [e1] at HS
    have E := hide (show coldB y = (y.md != 0) from HS.out)
    go_enter Tryz.func136, Tryz.ntmps136
    go_wp2
    go_ret
    exact ⟨by rw [E.out]; rfl, HB.out⟩
end Go.Proofs.YtdkhldebnpmiiaaGreatDoor
namespace Go.Proofs.YtdkhldebnpmiiaaGreatDoor
open Go.RowKit
set_option linter.unusedVariables false
set_option linter.unusedSimpArgs false
/-- where the first one is, or -1 -/
def idx {α : Type} (p : α → Bool) : List α → Int
  | [] => -1
  | x :: l => if p x then 0 else if idx p l < 0 then -1 else idx p l + 1
theorem idx_ge {α : Type} (p : α → Bool) : ∀ l : List α, -1 ≤ idx p l
  | [] => by simp [idx]
  | x :: l => by
    have := idx_ge p l
    rw [idx]
    split
    · omega
    · split <;> omega
theorem idx_hit {α : Type} {p : α → Bool} : ∀ {l : List α} {k : Nat} {x : α}, l[k]? = some x → p x = true → (∀ (j : Nat) (y : α), j < k → l[j]? = some y → p y = false) → idx p l = k
  | [], k, x, h, _, _ => by simp at h
  | y :: l, 0, x, h, hp, _ => by
    simp at h
    subst h
    rw [idx, if_pos hp]
    rfl
  | y :: l, k + 1, x, h, hp, hn => by
    have h0 := hn 0 y (by omega) rfl
    have ih := idx_hit (l := l) (k := k) (by simpa using h) hp (fun j z hj hz => hn (j + 1) z (by omega) (by simpa using hz))
    rw [idx, h0, ih]
    simp
    omega
theorem idx_none {α : Type} {p : α → Bool} : ∀ {l : List α}, (∀ (j : Nat) (y : α), l[j]? = some y → p y = false) → idx p l = -1
  | [], _ => rfl
  | y :: l, hn => by
    have h0 := hn 0 y rfl
    have ih := idx_none (l := l) (fun j z hz => hn (j + 1) z (by simpa using hz))
    rw [idx, h0, ih]
    rfl
theorem idx_any {α : Type} (p : α → Bool) : ∀ l : List α, decide (0 ≤ idx p l) = l.any p
  | [] => rfl
  | x :: l => by
    have ih := idx_any p l
    have hge := idx_ge p l
    rw [List.any_cons, idx]
    cases h : p x
    · simp only [Bool.false_or, ← ih, Bool.false_eq_true, if_false]
      by_cases h2 : idx p l < 0
      · rw [if_pos h2]
        simp
        omega
      · rw [if_neg h2]
        have : 0 ≤ idx p l := by omega
        rw [decide_eq_true this, decide_eq_true (by omega)]
    · simp
/-- where it is, it is one -/
theorem idx_get {α : Type} {p : α → Bool} : ∀ {l : List α}, 0 ≤ idx p l → ∃ (k : Nat) (x : α), idx p l = k ∧ l[k]? = some x ∧ p x = true
  | [], h => by simp [idx] at h
  | y :: l, h => by
    rw [idx] at h ⊢
    split
    · exact ⟨0, y, rfl, rfl, by assumption⟩
    · rename_i hp
      rw [if_neg hp] at h
      by_cases h2 : idx p l < 0
      · rw [if_pos h2] at h; omega
      · obtain ⟨k, x, e, hx, hpx⟩ := idx_get (p := p) (l := l) (by omega)
        rw [if_neg h2]
        exact ⟨k + 1, x, by rw [e]; omega, by simpa using hx, hpx⟩
def IntOut (r : Int) (w : World) (e : Ending) (w' : World) : Prop := e = .returned (.int .i64 r) ∧ Below w.heap.size w w'
set_option maxHeartbeats 1600000 in
theorem index_name (g : Nat) (nm : ByteArray) (A : Option Addr) (n c : Nat) (l : List Nod) (w : World) (h : RdR Nod.v 4 w A n c l) (hg : w.cell? ⟨g, 1, none⟩ = some (.string nm)) :
    Calls Tryz.prog 132 #[.slice A n c, .func (.func 156) #[] #[.pointer (some ⟨g, 0, none⟩)]] w (IntOut (idx (fun y : Nod => y.nm.toList == nm.toList) l) w) := by
  have hcap := h.cap
  have hlen := hide h.len
  have clo : ∀ (x : Nod) (wr : World), Below w.heap.size w wr → Calls Tryz.prog 156 #[.agg #[.int .i64 x.id, .string x.nm, .int .i64 x.dr, .bool x.pas], .pointer (some ⟨g, 0, none⟩)] wr (BoolOut ((fun y : Nod => y.nm.toList == nm.toList) x) wr) := fun x wr hb => same_name x g nm wr ((hb.cell (p := ⟨g, 1, none⟩) (World.block_lt_of_cell? w _ hg)).trans hg)
  go_enter Tryz.func132, Tryz.ntmps132
  go_wp2
  go_loopw [8] (fun i wr => ∃ k : Nat, k ≤ n ∧ i = .int .i64 k ∧ Hid (∀ j y, j < k → l[j]? = some y → (fun y : Nod => y.nm.toList == nm.toList) y = false) ∧ Hid (Below w.heap.size w wr)) (fun i _ => n - (intOf i).toNat)
  case atStart => exact ⟨0, by omega, rfl, hide (fun j y hj => by omega), hide (Below.refl _ _)⟩
  case round =>
    obtain ⟨k, hk, rfl, hno, hbel⟩ := hrel
    by_cases hlt : k < n
    · obtain ⟨b, off, x, rfl, hb, hx, c0, c1, c2, c3⟩ := nod_at (h.below hbel.out) hlt
      have HX := hide hx
      have CL := hide (clo x wr hbel.out)
      clear hx clo
      cases hp : (fun y : Nod => y.nm.toList == nm.toList) x
      · have HP := hide hp
        clear hp
        go_wp2_with (go_at_call 156; refine CL.out.mono ?_; rintro ee w1 ⟨rfl, b1⟩; rw [HP.out])
        have BB := hide (below_trans hbel.out b1)
        have NN := hide (fun j y (hj : j < k + 1) (hy : l[j]? = some y) => show (fun y : Nod => y.nm.toList == nm.toList) y = false from by
          rcases Nat.lt_succ_iff_lt_or_eq.1 hj with h1 | h1
          · exact hno.out j y h1 hy
          · subst h1
            rw [HX.out] at hy
            obtain rfl := Option.some.inj hy
            exact HP.out)
        go_roundw
        case rel => exact ⟨k + 1, by omega, by go_num, NN, BB⟩
        case measure => simp [intOf]; omega
      · have E := hide (idx_hit HX.out hp hno.out)
        have HP := hide hp
        clear hp
        go_wp2_with (go_at_call 156; refine CL.out.mono ?_; rintro ee w1 ⟨rfl, b1⟩; rw [HP.out])
        go_ret
        exact ⟨by rw [E.out]; rfl, below_trans hbel.out b1⟩
    · obtain rfl : k = n := by omega
      have E := hide (idx_none (p := fun y : Nod => y.nm.toList == nm.toList) (l := l) (fun j y hy => hno.out j y (by have := get_lt hy; have := hlen.out; omega) hy))
      go_wp2
      go_ret
      exact ⟨by rw [E.out]; rfl, hbel.out⟩
set_option maxHeartbeats 800000 in
theorem contains_name (g : Nat) (nm : ByteArray) (A : Option Addr) (n c : Nat) (l : List Nod) (w : World) (h : RdR Nod.v 4 w A n c l) (hg : w.cell? ⟨g, 1, none⟩ = some (.string nm)) :
    Calls Tryz.prog 155 #[.slice A n c, .func (.func 156) #[] #[.pointer (some ⟨g, 0, none⟩)]] w (BoolOut (l.any (fun y : Nod => y.nm.toList == nm.toList)) w) := by
  have hk := index_name g nm A n c l w h hg
  have E := hide (idx_any (fun y : Nod => y.nm.toList == nm.toList) l)
  go_enter Tryz.func155, Tryz.ntmps155
  go_wp2_with (go_at_call 132; refine hk.mono ?_; rintro ee w1 ⟨rfl, b1⟩)
  go_ret
  exact ⟨by rw [← E.out]; rfl, b1⟩
set_option maxHeartbeats 1600000 in
theorem index_id (g : Nat) (id : Int) (A : Option Addr) (n c : Nat) (l : List Nod) (w : World) (h : RdR Nod.v 4 w A n c l) (hg : w.cell? ⟨g, 0, none⟩ = some (.int .i64 id)) :
    Calls Tryz.prog 132 #[.slice A n c, .func (.func 133) #[] #[.pointer (some ⟨g, 0, none⟩)]] w (IntOut (idx (fun y : Nod => y.id == id) l) w) := by
  have hcap := h.cap
  have hlen := hide h.len
  have clo : ∀ (x : Nod) (wr : World), Below w.heap.size w wr → Calls Tryz.prog 133 #[.agg #[.int .i64 x.id, .string x.nm, .int .i64 x.dr, .bool x.pas], .pointer (some ⟨g, 0, none⟩)] wr (BoolOut ((fun y : Nod => y.id == id) x) wr) := fun x wr hb => same_id x g id wr ((hb.cell (p := ⟨g, 0, none⟩) (World.block_lt_of_cell? w _ hg)).trans hg)
  go_enter Tryz.func132, Tryz.ntmps132
  go_wp2
  go_loopw [8] (fun i wr => ∃ k : Nat, k ≤ n ∧ i = .int .i64 k ∧ Hid (∀ j y, j < k → l[j]? = some y → (fun y : Nod => y.id == id) y = false) ∧ Hid (Below w.heap.size w wr)) (fun i _ => n - (intOf i).toNat)
  case atStart => exact ⟨0, by omega, rfl, hide (fun j y hj => by omega), hide (Below.refl _ _)⟩
  case round =>
    obtain ⟨k, hk, rfl, hno, hbel⟩ := hrel
    by_cases hlt : k < n
    · obtain ⟨b, off, x, rfl, hb, hx, c0, c1, c2, c3⟩ := nod_at (h.below hbel.out) hlt
      have HX := hide hx
      have CL := hide (clo x wr hbel.out)
      clear hx clo
      cases hp : (fun y : Nod => y.id == id) x
      · have HP := hide hp
        clear hp
        go_wp2_with (go_at_call 133; refine CL.out.mono ?_; rintro ee w1 ⟨rfl, b1⟩; rw [HP.out])
        have BB := hide (below_trans hbel.out b1)
        have NN := hide (fun j y (hj : j < k + 1) (hy : l[j]? = some y) => show (fun y : Nod => y.id == id) y = false from by
          rcases Nat.lt_succ_iff_lt_or_eq.1 hj with h1 | h1
          · exact hno.out j y h1 hy
          · subst h1
            rw [HX.out] at hy
            obtain rfl := Option.some.inj hy
            exact HP.out)
        go_roundw
        case rel => exact ⟨k + 1, by omega, by go_num, NN, BB⟩
        case measure => simp [intOf]; omega
      · have E := hide (idx_hit HX.out hp hno.out)
        have HP := hide hp
        clear hp
        go_wp2_with (go_at_call 133; refine CL.out.mono ?_; rintro ee w1 ⟨rfl, b1⟩; rw [HP.out])
        go_ret
        exact ⟨by rw [E.out]; rfl, below_trans hbel.out b1⟩
    · obtain rfl : k = n := by omega
      have E := hide (idx_none (p := fun y : Nod => y.id == id) (l := l) (fun j y hy => hno.out j y (by have := get_lt hy; have := hlen.out; omega) hy))
      go_wp2
      go_ret
      exact ⟨by rw [E.out]; rfl, hbel.out⟩
set_option maxHeartbeats 1600000 in
theorem index_slot (g : Nat) (a : Int) (e : Int) (d : Int) (A : Option Addr) (n c : Nat) (l : List Slt) (w : World) (h : RdR Slt.v 8 w A n c l) (hg : w.cell? ⟨g, 0, none⟩ = some (.int .i64 a)) (hg1 : w.cell? ⟨g + 1, 0, none⟩ = some (.int .i64 e)) (hg2 : w.cell? ⟨g + 1 + 1, 0, none⟩ = some (.int .i64 d)) :
    Calls Tryz.prog 161 #[.slice A n c, .func (.func 173) #[] #[.pointer (some ⟨g, 0, none⟩), .pointer (some ⟨g + 1, 0, none⟩), .pointer (some ⟨g + 1 + 1, 0, none⟩)]] w (IntOut (idx (slotB a e d) l) w) := by
  have hcap := h.cap
  have hlen := hide h.len
  have clo : ∀ (x : Slt) (wr : World), Below w.heap.size w wr → Calls Tryz.prog 173 #[.agg #[.int .i64 x.md, .int .i64 x.rd, .int .i64 x.sl, .int .i64 x.nd, .int .i64 x.kd, .int .i64 x.sz, .int .i64 x.du, .bool x.ch], .pointer (some ⟨g, 0, none⟩), .pointer (some ⟨g + 1, 0, none⟩), .pointer (some ⟨g + 1 + 1, 0, none⟩)] wr (BoolOut ((slotB a e d) x) wr) := fun x wr hb => same_slot x g a e d wr ((hb.cell (p := ⟨g, 0, none⟩) (World.block_lt_of_cell? w _ hg)).trans hg) ((hb.cell (p := ⟨g + 1, 0, none⟩) (World.block_lt_of_cell? w _ hg1)).trans hg1) ((hb.cell (p := ⟨g + 1 + 1, 0, none⟩) (World.block_lt_of_cell? w _ hg2)).trans hg2)
  go_enter Tryz.func161, Tryz.ntmps161
  go_wp2
  go_loopw [8] (fun i wr => ∃ k : Nat, k ≤ n ∧ i = .int .i64 k ∧ Hid (∀ j y, j < k → l[j]? = some y → (slotB a e d) y = false) ∧ Hid (Below w.heap.size w wr)) (fun i _ => n - (intOf i).toNat)
  case atStart => exact ⟨0, by omega, rfl, hide (fun j y hj => by omega), hide (Below.refl _ _)⟩
  case round =>
    obtain ⟨k, hk, rfl, hno, hbel⟩ := hrel
    by_cases hlt : k < n
    · obtain ⟨b, off, x, rfl, hb, hx, c0, c1, c2, c3, c4, c5, c6, c7⟩ := slt_at (h.below hbel.out) hlt
      have HX := hide hx
      have CL := hide (clo x wr hbel.out)
      clear hx clo
      cases hp : (slotB a e d) x
      · have HP := hide hp
        clear hp
        go_wp2_with (go_at_call 173; refine CL.out.mono ?_; rintro ee w1 ⟨rfl, b1⟩; rw [HP.out])
        have BB := hide (below_trans hbel.out b1)
        have NN := hide (fun j y (hj : j < k + 1) (hy : l[j]? = some y) => show (slotB a e d) y = false from by
          rcases Nat.lt_succ_iff_lt_or_eq.1 hj with h1 | h1
          · exact hno.out j y h1 hy
          · subst h1
            rw [HX.out] at hy
            obtain rfl := Option.some.inj hy
            exact HP.out)
        go_roundw
        case rel => exact ⟨k + 1, by omega, by go_num, NN, BB⟩
        case measure => simp [intOf]; omega
      · have E := hide (idx_hit HX.out hp hno.out)
        have HP := hide hp
        clear hp
        go_wp2_with (go_at_call 173; refine CL.out.mono ?_; rintro ee w1 ⟨rfl, b1⟩; rw [HP.out])
        go_ret
        exact ⟨by rw [E.out]; rfl, below_trans hbel.out b1⟩
    · obtain rfl : k = n := by omega
      have E := hide (idx_none (p := slotB a e d) (l := l) (fun j y hy => hno.out j y (by have := get_lt hy; have := hlen.out; omega) hy))
      go_wp2
      go_ret
      exact ⟨by rw [E.out]; rfl, hbel.out⟩
set_option maxHeartbeats 1600000 in
theorem index_cold  (A : Option Addr) (n c : Nat) (l : List Slt) (w : World) (h : RdR Slt.v 8 w A n c l)  :
    Calls Tryz.prog 161 #[.slice A n c, .func (.func 136) #[] #[]] w (IntOut (idx (coldB) l) w) := by
  have hcap := h.cap
  have hlen := hide h.len
  have clo : ∀ (x : Slt) (wr : World), Below w.heap.size w wr → Calls Tryz.prog 136 #[.agg #[.int .i64 x.md, .int .i64 x.rd, .int .i64 x.sl, .int .i64 x.nd, .int .i64 x.kd, .int .i64 x.sz, .int .i64 x.du, .bool x.ch]] wr (BoolOut ((coldB) x) wr) := fun x wr hb => cold_any x wr
  go_enter Tryz.func161, Tryz.ntmps161
  go_wp2
  go_loopw [8] (fun i wr => ∃ k : Nat, k ≤ n ∧ i = .int .i64 k ∧ Hid (∀ j y, j < k → l[j]? = some y → (coldB) y = false) ∧ Hid (Below w.heap.size w wr)) (fun i _ => n - (intOf i).toNat)
  case atStart => exact ⟨0, by omega, rfl, hide (fun j y hj => by omega), hide (Below.refl _ _)⟩
  case round =>
    obtain ⟨k, hk, rfl, hno, hbel⟩ := hrel
    by_cases hlt : k < n
    · obtain ⟨b, off, x, rfl, hb, hx, c0, c1, c2, c3, c4, c5, c6, c7⟩ := slt_at (h.below hbel.out) hlt
      have HX := hide hx
      have CL := hide (clo x wr hbel.out)
      clear hx clo
      cases hp : (coldB) x
      · have HP := hide hp
        clear hp
        go_wp2_with (go_at_call 136; refine CL.out.mono ?_; rintro ee w1 ⟨rfl, b1⟩; rw [HP.out])
        have BB := hide (below_trans hbel.out b1)
        have NN := hide (fun j y (hj : j < k + 1) (hy : l[j]? = some y) => show (coldB) y = false from by
          rcases Nat.lt_succ_iff_lt_or_eq.1 hj with h1 | h1
          · exact hno.out j y h1 hy
          · subst h1
            rw [HX.out] at hy
            obtain rfl := Option.some.inj hy
            exact HP.out)
        go_roundw
        case rel => exact ⟨k + 1, by omega, by go_num, NN, BB⟩
        case measure => simp [intOf]; omega
      · have E := hide (idx_hit HX.out hp hno.out)
        have HP := hide hp
        clear hp
        go_wp2_with (go_at_call 136; refine CL.out.mono ?_; rintro ee w1 ⟨rfl, b1⟩; rw [HP.out])
        go_ret
        exact ⟨by rw [E.out]; rfl, below_trans hbel.out b1⟩
    · obtain rfl : k = n := by omega
      have E := hide (idx_none (p := coldB) (l := l) (fun j y hy => hno.out j y (by have := get_lt hy; have := hlen.out; omega) hy))
      go_wp2
      go_ret
      exact ⟨by rw [E.out]; rfl, hbel.out⟩
set_option maxHeartbeats 800000 in
theorem contains_cold  (A : Option Addr) (n c : Nat) (l : List Slt) (w : World) (h : RdR Slt.v 8 w A n c l)  :
    Calls Tryz.prog 141 #[.slice A n c, .func (.func 136) #[] #[]] w (BoolOut (l.any (coldB)) w) := by
  have hk := index_cold  A n c l w h 
  have E := hide (idx_any (coldB) l)
  go_enter Tryz.func141, Tryz.ntmps141
  go_wp2_with (go_at_call 161; refine hk.mono ?_; rintro ee w1 ⟨rfl, b1⟩)
  go_ret
  exact ⟨by rw [← E.out]; rfl, b1⟩
end Go.Proofs.YtdkhldebnpmiiaaGreatDoor
namespace Go.Proofs.YtdkhldebnpmiiaaGreatDoor
open Go.RowKit
set_option linter.unusedVariables false
set_option linter.unusedSimpArgs false
theorem wrap_nat {a : Nat} (h : a < 9223372036854775808) : IntKind.i64.wrap (a : Int) = (a : Int) := by
  refine IntWalk.i64_in ?_ ?_
  all_goals omega
theorem ofInt_nat {a : Nat} (ha : a < 4294967296) : (BitVec.ofInt 64 (a : Int)).toNat = a := by
  rw [BitVec.ofInt_natCast, BitVec.toNat_ofNat]
  exact Nat.mod_eq_of_lt (by omega)
theorem or_nat (a b : Nat) (ha : a < 4294967296) (hb : b < 4294967296) : bits .or .i64 (a : Int) (b : Int) = ((a ||| b : Nat) : Int) := by
  have hx : a ||| b < 2 ^ 32 := Nat.or_lt_two_pow (by omega) (by omega)
  show IntKind.i64.wrap ((BitVec.ofInt 64 (a : Int) ||| BitVec.ofInt 64 (b : Int)).toNat : Int) = _
  rw [BitVec.toNat_or, ofInt_nat ha, ofInt_nat hb]
  exact wrap_nat (by omega)
theorem and_nat (a b : Nat) (ha : a < 4294967296) (hb : b < 4294967296) : bits .and .i64 (a : Int) (b : Int) = ((a &&& b : Nat) : Int) := by
  have hx : a &&& b < 2 ^ 32 := Nat.and_lt_two_pow _ (by omega)
  show IntKind.i64.wrap ((BitVec.ofInt 64 (a : Int) &&& BitVec.ofInt 64 (b : Int)).toNat : Int) = _
  rw [BitVec.toNat_and, ofInt_nat ha, ofInt_nat hb]
  exact wrap_nat (by omega)
theorem xor_nat (a b : Nat) (ha : a < 4294967296) (hb : b < 4294967296) : bits .xor .i64 (a : Int) (b : Int) = ((a ^^^ b : Nat) : Int) := by
  have hx : a ^^^ b < 2 ^ 32 := Nat.xor_lt_two_pow (by omega) (by omega)
  show IntKind.i64.wrap ((BitVec.ofInt 64 (a : Int) ^^^ BitVec.ofInt 64 (b : Int)).toNat : Int) = _
  rw [BitVec.toNat_xor, ofInt_nat ha, ofInt_nat hb]
  exact wrap_nat (by omega)
theorem pow_lt32 {n : Nat} (hn : n < 32) : 2 ^ n < 4294967296 := by
  have h : 2 ^ n ≤ 2 ^ 31 := Nat.pow_le_pow_right (by omega) (by omega)
  omega
theorem div_lt32 {v : Nat} (n : Nat) (hv : v < 4294967296) : v / 2 ^ n < 4294967296 := Nat.lt_of_le_of_lt (Nat.div_le_self _ _) hv
theorem has_nat (v n : Nat) (hv : v < 4294967296) : (bits .and .i64 ((v : Int) / 2 ^ n) 1 == 1) = v.testBit n := by
  have e : ((v : Int) / 2 ^ n) = ((v / 2 ^ n : Nat) : Int) := by
    rw [Int.natCast_ediv, Int.natCast_pow]
    rfl
  rw [e, show (1 : Int) = ((1 : Nat) : Int) from rfl, and_nat _ _ (div_lt32 n hv) (by omega), Nat.and_one_is_mod, Nat.testBit_eq_decide_div_mod_eq]
  exact Bool.eq_iff_iff.mpr (by rw [beq_iff_eq, decide_eq_true_iff]; omega)
theorem shl_nat {n : Nat} (hn : n < 32) : wrap64 (2 ^ n) = ((2 ^ n : Nat) : Int) := by
  have e : ((2 : Int) ^ n) = ((2 ^ n : Nat) : Int) := by
    rw [Int.natCast_pow]
    rfl
  have := pow_lt32 hn
  rw [e]
  generalize 2 ^ n = p at *
  exact IntWalk.wrap64_in _ ⟨by omega, by omega⟩
theorem or_lt32 {a b : Nat} (ha : a < 4294967296) (hb : b < 4294967296) : a ||| b < 4294967296 := by
  have := Nat.or_lt_two_pow (n := 32) (x := a) (y := b) (by omega) (by omega)
  omega
theorem xor_pow {v n : Nat} (h : v.testBit n = false) : v ^^^ 2 ^ n = v ||| 2 ^ n := by
  apply Nat.eq_of_testBit_eq
  intro i
  rw [Nat.testBit_xor, Nat.testBit_or, Nat.testBit_two_pow]
  by_cases e : n = i
  · subst e
    simp [h]
  · simp [e]
theorem or_pow {v n : Nat} (h : v.testBit n = true) : v ||| 2 ^ n = v := by
  apply Nat.eq_of_testBit_eq
  intro i
  rw [Nat.testBit_or, Nat.testBit_two_pow]
  by_cases e : n = i
  · subst e
    simp [h]
  · simp [e]
/-- what an or with one bit says of a bit -/
theorem or_pow_bit (v n i : Nat) : (v ||| 2 ^ n).testBit i = (v.testBit i || decide (n = i)) := by
  rw [Nat.testBit_or, Nat.testBit_two_pow]
/-- a and not b is none when all bits of a are bits of b -/
theorem andNot_nat (a b : Nat) (ha : a < 4294967296) (hb : b < 4294967296) : bits .andNot .i64 (a : Int) (b : Int) = ((a &&& (a ^^^ b) : Nat) : Int) := by
  have hx : a &&& (a ^^^ b) < 2 ^ 32 := Nat.lt_of_le_of_lt (Nat.and_le_left) (by omega)
  show IntKind.i64.wrap ((BitVec.ofInt 64 (a : Int) &&& ~~~ BitVec.ofInt 64 (b : Int)).toNat : Int) = _
  have e : BitVec.ofInt 64 (a : Int) &&& ~~~ BitVec.ofInt 64 (b : Int) = BitVec.ofInt 64 (a : Int) &&& (BitVec.ofInt 64 (a : Int) ^^^ BitVec.ofInt 64 (b : Int)) := by
    ext i hi
    simp only [BitVec.getElem_and, BitVec.getElem_not, BitVec.getElem_xor]
    cases (BitVec.ofInt 64 (a : Int))[i] <;> cases (BitVec.ofInt 64 (b : Int))[i] <;> rfl
  rw [e, BitVec.toNat_and, BitVec.toNat_xor, ofInt_nat ha, ofInt_nat hb]
  exact wrap_nat (by omega)
/-- within: the spare bits are none when the greater has no bit more -/
theorem spare_none {a b : Nat} (hs : ∀ i, b.testBit i = true → a.testBit i = true) : a &&& (a ^^^ b) = 0 ↔ b = a := by
  constructor
  · intro h
    apply Nat.eq_of_testBit_eq
    intro i
    have hi : (a &&& (a ^^^ b)).testBit i = false := by rw [h]; exact Nat.zero_testBit i
    rw [Nat.testBit_and, Nat.testBit_xor] at hi
    have := hs i
    revert hi this
    cases a.testBit i <;> cases b.testBit i <;> simp
  · rintro rfl
    rw [Nat.xor_self, Nat.and_zero]
def orV (v : Nat) (n : Int) : Nat := v ||| 2 ^ n.toNat
/-- the nodes that are not passive -/
def actV (l : List Nod) : Nat := l.foldl (fun v x => if x.pas then v else orV v x.id) 0
set_option maxHeartbeats 800000 in
theorem ihas_any (v n : Nat) (hv : v < 4294967296) (hn : n < 32) (w : World) : Calls Tryz.prog 84 #[.int .i64 v, .int .i64 n] w (fun e w' => e = .returned (.bool (v.testBit n)) ∧ w = w') := by
  have HV := hide (has_nat v n hv)
  go_enter Tryz.func84, Tryz.ntmps84
  go_wp2
  go_ret
  exact ⟨by rw [HV.out]; rfl, rfl⟩
set_option maxHeartbeats 800000 in
theorem l05Has_any (v n : Nat) (hv : v < 4294967296) (hn : n < 32) (w : World) : Calls Tryz.prog 88 #[.int .i64 v, .int .i64 n] w (fun e w' => e = .returned (.bool (v.testBit n)) ∧ w = w') := by
  have HV := hide (has_nat v n hv)
  go_enter Tryz.func88, Tryz.ntmps88
  go_wp2
  go_ret
  exact ⟨by rw [HV.out]; rfl, rfl⟩
set_option maxHeartbeats 800000 in
theorem l05Set_any (v n : Nat) (hv : v < 4294967296) (hn : n < 32) (w : World) : Calls Tryz.prog 115 #[.int .i64 v, .int .i64 n, .bool true] w (fun e w' => e = .returned (.int .i64 ((v ||| 2 ^ n : Nat) : Int)) ∧ w = w') := by
  have HS := hide (show wrap64 (2 ^ n) = ((2 ^ n : Nat) : Int) from shl_nat hn)
  have HX := hide (xor_nat v (2 ^ n) hv (pow_lt32 hn))
  cases hb : v.testBit n
  · have HE := hide (xor_pow hb)
    have t := (has_nat v n hv).trans hb
    clear hb
    go_enter Tryz.func115, Tryz.ntmps115
    go_wp2
    go_ret
    exact ⟨by rw [HS.out, HX.out, HE.out]; rfl, rfl⟩
  · have HE := hide (or_pow hb)
    have t := (has_nat v n hv).trans hb
    clear hb
    go_enter Tryz.func115, Tryz.ntmps115
    go_wp2
    go_ret
    exact ⟨by rw [HE.out]; rfl, rfl⟩
/-- the nodes' ids are numbers below 32 -/
def Ids (l : List Nod) : Prop := ∀ x ∈ l, 0 ≤ x.id ∧ x.id < 32
theorem actV_lt (l : List Nod) (h : Ids l) : actV l < 4294967296 := by
  have H : ∀ (l : List Nod) (v : Nat), Ids l → v < 4294967296 → l.foldl (fun v x => if x.pas then v else orV v x.id) v < 4294967296 := by
    intro l
    induction l with
    | nil => intro v _ hv; exact hv
    | cons x l ih =>
      intro v hi hv
      refine ih _ (fun y hy => hi y (by simp [hy])) ?_
      have := hi x (by simp)
      show (if x.pas = true then v else orV v x.id) < _
      split
      · exact hv
      · exact or_lt32 hv (pow_lt32 (by omega))
  exact H l 0 h (by omega)
theorem actV_succ {l : List Nod} {k : Nat} {x : Nod} (h : l[k]? = some x) : actV (l.take (k + 1)) = if x.pas then actV (l.take k) else orV (actV (l.take k)) x.id := by
  rw [actV, List.take_add_one, h, List.foldl_append]
  rfl
set_option maxHeartbeats 1600000 in
theorem activeVector_any (A : Option Addr) (n c : Nat) (l : List Nod) (w : World) (h : RdR Nod.v 4 w A n c l) (hi : Ids l) : Calls Tryz.prog 85 #[.slice A n c] w (fun e w' => e = .returned (.int .i64 (actV l : Int)) ∧ Below w.heap.size w w') := by
  have hcap := h.cap
  have hlen := hide h.len
  go_enter Tryz.func85, Tryz.ntmps85
  go_wp2
  go_loopw [3, 8] (fun v i wr => ∃ k u : Nat, k ≤ n ∧ i = .int .i64 k ∧ v = .int .i64 u ∧ Hid (u = actV (l.take k)) ∧ Hid (Below w.heap.size w wr)) (fun _ i _ => n - (intOf i).toNat)
  case atStart => exact ⟨0, 0, by omega, rfl, rfl, hide (by simp [actV]), hide (Below.refl _ _)⟩
  case round =>
    obtain ⟨k, u, hk, rfl, rfl, hu, hbel⟩ := hrel
    by_cases hlt : k < n
    · obtain ⟨b, off, x, rfl, hb, hx, c0, c1, c2, c3⟩ := nod_at (h.below hbel.out) hlt
      obtain ⟨i0, i1⟩ := hi x (List.mem_of_getElem? hx)
      obtain ⟨d, hd⟩ : ∃ d : Nat, x.id = d := ⟨x.id.toNat, by omega⟩
      rw [hd] at c0
      have hd32 : d < 32 := by omega
      have HU := hide (show u < 4294967296 by rw [hu.out]; exact actV_lt _ (fun y hy => hi y (List.mem_of_mem_take hy)))
      have HS := hide (show wrap64 (2 ^ d) = ((2 ^ d : Nat) : Int) from shl_nat hd32)
      have HX := hide (or_nat u (2 ^ d) HU.out (pow_lt32 hd32))
      have HB := hide (show Below w.heap.size w (wr.alloc (.cells #[.int .i64 d, .string x.nm, .int .i64 x.dr, .bool x.pas] 68)) from below_trans hbel.out ((Below.refl _ _).alloc (Nat.le_refl _) _))
      have HN := hide (actV_succ hx)
      have HD := hide hd
      clear hx i0 i1 hd
      cases hp : x.pas
      · rw [hp] at HN c3 HB
        have NN := hide (show (u ||| 2 ^ d) = actV (l.take (k + 1)) by rw [HN.out, ← hu.out, orV, HD.out]; simp)
        clear hp HN
        go_wp2
        go_roundw
        case rel => exact ⟨k + 1, u ||| 2 ^ d, by omega, by go_num, by rw [HS.out, HX.out], NN, HB⟩
        case measure => simp [intOf]; omega
      · rw [hp] at HN c3 HB
        have NN := hide (show u = actV (l.take (k + 1)) by rw [HN.out, ← hu.out]; simp)
        clear hp HN
        go_wp2
        go_roundw
        case rel => exact ⟨k + 1, u, by omega, by go_num, rfl, NN, HB⟩
        case measure => simp [intOf]; omega
    · obtain rfl : k = n := by omega
      have E := hide (show u = actV l by rw [hu.out, ← hlen.out, List.take_length])
      go_wp2
      go_ret
      exact ⟨by rw [E.out]; rfl, hbel.out⟩
set_option maxHeartbeats 1600000 in
theorem l10Active_any (A : Option Addr) (n c : Nat) (l : List Nod) (w : World) (h : RdR Nod.v 4 w A n c l) (hi : Ids l) : Calls Tryz.prog 89 #[.slice A n c] w (fun e w' => e = .returned (.int .i64 (actV l : Int)) ∧ w = w') := by
  have hcap := h.cap
  have hlen := hide h.len
  go_enter Tryz.func89, Tryz.ntmps89
  go_wp2
  go_loopw [3, 4] (fun v i wr => ∃ k u : Nat, k ≤ n ∧ i = .int .i64 k ∧ v = .int .i64 u ∧ Hid (u = actV (l.take k)) ∧ wr = w) (fun _ i _ => n - (intOf i).toNat)
  case atStart => exact ⟨0, 0, by omega, rfl, rfl, hide (by simp [actV]), rfl⟩
  case round =>
    obtain ⟨k, u, hk, rfl, rfl, hu, rfl⟩ := hrel
    by_cases hlt : k < n
    · obtain ⟨b, off, x, rfl, hb, hx, c0, c1, c2, c3⟩ := nod_at h hlt
      obtain ⟨i0, i1⟩ := hi x (List.mem_of_getElem? hx)
      obtain ⟨d, hd⟩ : ∃ d : Nat, x.id = d := ⟨x.id.toNat, by omega⟩
      rw [hd] at c0
      have hd32 : d < 32 := by omega
      have HU := hide (show u < 4294967296 by rw [hu.out]; exact actV_lt _ (fun y hy => hi y (List.mem_of_mem_take hy)))
      have HN := hide (actV_succ hx)
      have HD := hide hd
      clear hx i0 i1 hd
      cases hp : x.pas
      · rw [hp] at HN c3
        have NN := hide (show (u ||| 2 ^ d) = actV (l.take (k + 1)) by rw [HN.out, ← hu.out, orV, HD.out]; simp)
        clear hp HN
        go_wp2_with fail
        go_at_call 115
        (with_reducible refine (l05Set_any u d HU.out hd32 _).mono ?_)
        rintro ee w1 ⟨rfl, rfl⟩
        go_wp2
        go_roundw
        case rel => exact ⟨k + 1, u ||| 2 ^ d, by omega, by go_num, rfl, NN, trivial⟩
        case measure => simp [intOf]; omega
      · rw [hp] at HN c3
        have NN := hide (show u = actV (l.take (k + 1)) by rw [HN.out, ← hu.out]; simp)
        clear hp HN
        go_wp2
        go_roundw
        case rel => exact ⟨k + 1, u, by omega, by go_num, rfl, NN, trivial⟩
        case measure => simp [intOf]; omega
    · obtain rfl : k = n := by omega
      have E := hide (show u = actV l by rw [hu.out, ← hlen.out, List.take_length])
      go_wp2
      go_ret
      exact ⟨by rw [E.out]; rfl, rfl⟩
end Go.Proofs.YtdkhldebnpmiiaaGreatDoor
namespace Go.Proofs.YtdkhldebnpmiiaaGreatDoor
open Go.RowKit
set_option linter.unusedVariables false
set_option linter.unusedSimpArgs false
set_option maxHeartbeats 1600000 in
theorem findSlot_any (a b d : Int) (A : Option Addr) (n c : Nat) (l : List Slt) (w : World) (h : RdR Slt.v 8 w A n c l) :
    Calls Tryz.prog 162 #[.slice A n c, .int .i64 a, .int .i64 b, .int .i64 d] w (IntOut (idx (slotB a b d) l) w) := by
  have B0 : Below w.heap.size w (((w.alloc (.cells #[.int .i64 a] 2)).alloc (.cells #[.int .i64 b] 2)).alloc (.cells #[.int .i64 d] 2)) := by (repeat (first | exact Below.refl _ _ | (refine Below.alloc ?_ (by simp <;> omega) _) | (refine Below.setCell ?_ (by simp <;> omega) _)))
  have H1 := hide (h.below B0)
  have HB := hide B0
  clear B0
  go_enter Tryz.func162, Tryz.ntmps162
  go_wp2_with fail
  go_at_call 161
  refine (index_slot _ a b d A n c l _ H1.out (by simp [go_sem]) (by simp [go_sem]) (by simp [go_sem])).mono ?_
  rintro ee w1 ⟨rfl, b1⟩
  have BB := hide (below_trans HB.out b1)
  go_wp2
  go_ret
  exact ⟨rfl, BB.out⟩
set_option maxHeartbeats 1600000 in
theorem findNode_any (id : Int) (A : Option Addr) (n c : Nat) (l : List Nod) (w : World) (h : RdR Nod.v 4 w A n c l) :
    Calls Tryz.prog 113 #[.slice A n c, .int .i64 id] w (IntOut (idx (fun y => y.id == id) l) w) := by
  have B0 : Below w.heap.size w (w.alloc (.cells #[.int .i64 id] 2)) := by (repeat (first | exact Below.refl _ _ | (refine Below.alloc ?_ (by simp <;> omega) _) | (refine Below.setCell ?_ (by simp <;> omega) _)))
  have H1 := hide (h.below B0)
  have HB := hide B0
  clear B0
  go_enter Tryz.func113, Tryz.ntmps113
  go_wp2_with fail
  go_at_call 132
  refine (index_id _ id A n c l _ H1.out (by simp [go_sem])).mono ?_
  rintro ee w1 ⟨rfl, b1⟩
  have BB := hide (below_trans HB.out b1)
  go_wp2
  go_ret
  exact ⟨rfl, BB.out⟩
set_option maxHeartbeats 1600000 in
theorem l12Find_any (a b d : Int) (A : Option Addr) (n c : Nat) (l : List Slt) (w : World) (h : RdR Slt.v 8 w A n c l) :
    Calls Tryz.prog 167 #[.slice A n c, .int .i64 a, .int .i64 b, .int .i64 d] w (fun e w' => e = .returned (.int .i64 (idx (slotB a b d) l)) ∧ w = w') := by
  have hcap := h.cap
  have hlen := hide h.len
  go_enter Tryz.func167, Tryz.ntmps167
  go_wp2
  go_loopw [9] (fun i wr => ∃ k : Nat, k ≤ n ∧ i = .int .i64 k ∧ Hid (∀ j y, j < k → l[j]? = some y → slotB a b d y = false) ∧ wr = w) (fun i _ => n - (intOf i).toNat)
  case atStart => exact ⟨0, by omega, rfl, hide (fun j y hj => by omega), rfl⟩
  case round =>
    obtain ⟨k, hk, rfl, hno, rfl⟩ := hrel
    by_cases hlt : k < n
    · obtain ⟨b', off, x, rfl, hb, hx, c0, c1, c2, c3, c4, c5, c6, c7⟩ := slt_at h hlt
      have HX := hide hx
      have HS := hide (show slotB a b d x = (x.md == a && (x.rd == b && x.sl == d)) from rfl)
      clear hx
      have NN : slotB a b d x = false → Hid (∀ j y, j < k + 1 → l[j]? = some y → slotB a b d y = false) := fun hp j y hj hy => by
        rcases Nat.lt_succ_iff_lt_or_eq.1 hj with h1 | h1
        · exact hno.out j y h1 hy
        · subst h1
          rw [HX.out] at hy
          obtain rfl := Option.some.inj hy
          exact hp
      cases e1 : (x.md == a)
      · have N2 := NN (by rw [HS.out, e1]; rfl)
        clear NN HS
        go_wp2
        go_roundw
        case rel => exact ⟨k + 1, by omega, by go_num, N2, trivial⟩
        case measure => simp [intOf]; omega
      · cases e2 : (x.rd == b)
        · have N2 := NN (by rw [HS.out, e1, e2]; rfl)
          clear NN HS
          go_wp2
          go_roundw
          case rel => exact ⟨k + 1, by omega, by go_num, N2, trivial⟩
          case measure => simp [intOf]; omega
        · cases e3 : (x.sl == d)
          · have N2 := NN (by rw [HS.out, e1, e2, e3]; rfl)
            clear NN HS
            go_wp2
            go_roundw
            case rel => exact ⟨k + 1, by omega, by go_num, N2, trivial⟩
            case measure => simp [intOf]; omega
          · have E := hide (idx_hit HX.out (show slotB a b d x = true by rw [HS.out, e1, e2, e3]; rfl) hno.out)
            clear NN HS
            go_wp2
            go_ret
            exact ⟨by rw [E.out]; rfl, rfl⟩
    · obtain rfl : k = n := by omega
      have E := hide (idx_none (p := slotB a b d) (l := l) (fun j y hy => hno.out j y (by have := get_lt hy; have := hlen.out; omega) hy))
      go_wp2
      go_ret
      exact ⟨by rw [E.out]; rfl, rfl⟩
end Go.Proofs.YtdkhldebnpmiiaaGreatDoor
namespace Go.Proofs.YtdkhldebnpmiiaaGreatDoor
open Go.RowKit
set_option linter.unusedVariables false
set_option linter.unusedSimpArgs false
section
variable {α : Type} {f : α → List Value} {k : Nat} {T : TypeId} {w w' : World} {A : Option Addr} {n c B : Nat} {l : List α}
theorem made_flat (hk : ∀ x, (f x).length = k) (hk0 : 0 < k) (z : Array Value) (x0 : α) (hz : z.toList = f x0) (n : Nat) : (madeCells z (n * k)).toList = (List.replicate n x0).flatMap f := by
  have hzs : z.size = k := by rw [← Array.length_toList, hz, hk]
  apply List.ext_getElem?
  intro q
  have hq : q = q / k * k + q % k := by rw [Nat.mul_comm]; exact (Nat.div_add_mod q k).symm
  have hm : q % k < k := Nat.mod_lt _ hk0
  have e := flat_get hk (List.replicate n x0) (q / k) (q % k) hm
  rw [← hq] at e
  rw [e, Array.getElem?_toList]
  by_cases h : q < n * k
  · have h1 : q / k < n := Nat.div_lt_of_lt_mul (by rw [Nat.mul_comm]; exact h)
    rw [List.getElem?_replicate, if_pos h1, Option.bind_some, ← hz, Array.getElem?_toList]
    simp [madeCells, h, hzs]
    rw [Array.getElem!_eq_getD, Array.getD_eq_getD_getElem?, Array.getElem?_eq_getElem (by rw [hzs]; exact hm)]
    simp
  · have h1 : ¬ q / k < n := fun h2 => h (by
      have : (q / k + 1) * k ≤ n * k := Nat.mul_le_mul_right k h2
      rw [Nat.succ_mul] at this
      omega)
    rw [List.getElem?_replicate, if_neg h1]
    simp [madeCells, h]
theorem OwnR.made (hk : ∀ x, (f x).length = k) (hk0 : 0 < k) (z : Array Value) (x0 : α) (hz : z.toList = f x0) (w : World) (hB : B ≤ w.heap.size) {n : Nat} (hn : n ≤ 9223372036854775807) :
    OwnR T f k (w.alloc (.cells (madeCells z (n * k)) T)) B (some ⟨w.heap.size, 0, none⟩) n n (List.replicate n x0) :=
  OwnR.lit w hB hk _ _ (made_flat hk hk0 z x0 hz n) (by simp) hn
/-- make of a row of records -/
theorem make_rec {t e : TypeId} {z : Value} {bytes : Nat} (ht : Tryz.prog.underlying t = some (.slice e)) (hinfo : (Tryz.prog.info? e).map (fun i => (i.zero, i.size, i.bytes)) = some (some z, k, bytes)) (n : Nat) (hbytes : bytes * n ≤ 281474976710656) (h63 : n ≤ 9223372036854775807) (w : World) :
    (Instr.makeSlice t (.int .i64 (n : Int)) (.int .i64 (n : Int))).run Tryz.prog w = .ok (.slice (some ⟨w.heap.size, 0, none⟩) n n) (w.alloc (.cells (madeCells z.cells (n * k)) e)) := by
  obtain ⟨i, hi, hzz⟩ := Option.map_eq_some_iff.1 hinfo
  simp only [Prod.mk.injEq] at hzz
  obtain ⟨hz, hs, hb⟩ := hzz
  have hb' : (i.bytes : Int) * (n : Int) ≤ 281474976710656 := by
    have h : ((i.bytes * n : Nat) : Int) ≤ 281474976710656 := by rw [hb]; omega
    rwa [Int.natCast_mul] at h
  have hr := run_make (P := Tryz.prog) w t e i z ht hi hz .i64 .i64 n n (by omega) (Int.le_refl _) hb' (by omega)
  simp only [Int.toNat_natCast, hs] at hr
  exact hr
end
theorem info_nod : (Tryz.prog.info? 68).map (fun i => (i.zero, i.size, i.bytes)) = some (some (.agg #[.int .i64 0, .string ⟨#[]⟩, .int .i64 0, .bool false]), 4, 40) := by kernel_rfl
theorem info_mod : (Tryz.prog.info? 107).map (fun i => (i.zero, i.size, i.bytes)) = some (some (.agg #[.int .i64 0, .int .i64 0, .slice none 0 0]), 3, 40) := by kernel_rfl
theorem info_slt : (Tryz.prog.info? 61).map (fun i => (i.zero, i.size, i.bytes)) = some (some (.agg #[.int .i64 0, .int .i64 0, .int .i64 0, .int .i64 0, .int .i64 0, .int .i64 0, .int .i64 0, .bool false]), 8, 64) := by kernel_rfl
def mod0 : Mod := ⟨0, 0, none, 0, 0, []⟩
end Go.Proofs.YtdkhldebnpmiiaaGreatDoor
namespace Go.Proofs.YtdkhldebnpmiiaaGreatDoor
open Go.RowKit
set_option linter.unusedVariables false
set_option linter.unusedSimpArgs false
/-- the sum of the durations -/
def durs (l : List Slt) : Int := (l.map (·.du)).sum
def Durs (l : List Slt) : Prop := ∀ x ∈ l, 0 ≤ x.du ∧ x.du ≤ 1000
theorem durs_snoc (l : List Slt) (x : Slt) : durs (l ++ [x]) = durs l + x.du := by simp [durs]
theorem durs_bound {l : List Slt} (h : Durs l) : 0 ≤ durs l ∧ durs l ≤ 1000 * l.length := by
  induction l with
  | nil => simp [durs]
  | cons x l ih =>
    have := ih (fun y hy => h y (by simp [hy]))
    have hx := h x (by simp)
    have e : durs (x :: l) = x.du + durs l := by simp [durs]
    rw [e, List.length_cons]
    omega
theorem takeR {α : Type} {l : List α} {k : Nat} {x : α} (h : l[k]? = some x) : l.take (k + 1) = l.take k ++ [x] := by rw [List.take_add_one, h]; rfl
theorem Durs.take {l : List Slt} (h : Durs l) (k : Nat) : Durs (l.take k) := fun x hx => h x (List.mem_of_mem_take hx)
theorem Durs.filter {l : List Slt} (h : Durs l) (p : Slt → Bool) : Durs (l.filter p) := fun x hx => h x (List.mem_filter.1 hx).1
set_option maxHeartbeats 1600000 in
theorem sumDurations_any (A : Option Addr) (n c : Nat) (l : List Slt) (w : World) (h : RdR Slt.v 8 w A n c l) (hn : n ≤ 120) (hd : Durs l) :
    Calls Tryz.prog 86 #[.slice A n c] w (fun e w' => e = .returned (.int .i64 (durs l)) ∧ Below w.heap.size w w') := by
  have hcap := h.cap
  have hlen := hide h.len
  go_enter Tryz.func86, Tryz.ntmps86
  go_wp2
  go_loopw [3, 8] (fun v i wr => ∃ (k : Nat) (u : Int), k ≤ n ∧ i = .int .i64 k ∧ v = .int .i64 u ∧ Hid (u = durs (l.take k)) ∧ Hid (Below w.heap.size w wr)) (fun _ i _ => n - (intOf i).toNat)
  case atStart => exact ⟨0, 0, by omega, rfl, rfl, hide (by simp [durs]), hide (Below.refl _ _)⟩
  case round =>
    obtain ⟨k, u, hk, rfl, rfl, hu, hbel⟩ := hrel
    by_cases hlt : k < n
    · obtain ⟨b, off, x, rfl, hb, hx, c0, c1, c2, c3, c4, c5, c6, c7⟩ := slt_at (h.below hbel.out) hlt
      have NN := hide (show u + x.du = durs (l.take (k + 1)) by rw [takeR hx, durs_snoc, hu.out])
      have hub := durs_bound (hd.take k)
      rw [← hu.out, List.length_take] at hub
      have hxb := hd x (List.mem_of_getElem? hx)
      have u0 : 0 ≤ u := hub.1
      have u1 : u ≤ 120000 := by omega
      have HB := hide (show Below w.heap.size w (wr.alloc (.cells #[.int .i64 x.md, .int .i64 x.rd, .int .i64 x.sl, .int .i64 x.nd, .int .i64 x.kd, .int .i64 x.sz, .int .i64 x.du, .bool x.ch] 61)) from below_trans hbel.out ((Below.refl _ _).alloc (Nat.le_refl _) _))
      clear hx hub
      go_wp2
      go_roundw
      case rel => exact ⟨k + 1, u + x.du, by omega, by go_num, by go_num, NN, HB⟩
      case measure => simp [intOf]; omega
    · obtain rfl : k = n := by omega
      have E := hide (show u = durs l by rw [hu.out, ← hlen.out, List.take_length])
      go_wp2
      go_ret
      exact ⟨by rw [E.out]; rfl, hbel.out⟩
/-- the entries of a mode -/
def modeL (mode : Int) (l : List Slt) : List Slt := l.filter (fun x => x.md == mode)
theorem Durs.modeL {l : List Slt} (h : Durs l) (mode : Int) : Durs (modeL mode l) := h.filter _
theorem modeL_len (mode : Int) (l : List Slt) : (modeL mode l).length ≤ l.length := List.length_filter_le _ _
theorem modeL_snoc (mode : Int) (l : List Slt) (x : Slt) : modeL mode (l ++ [x]) = modeL mode l ++ (if x.md == mode then [x] else []) := by
  rw [modeL, List.filter_append]
  congr 1
  cases h : (x.md == mode) <;> simp [h]
set_option maxHeartbeats 1600000 in
theorem l13Cycle_any (v : Value) (m : Mdl) (mode : Int) (w : World) (h : RdM w v m) (hn : m.ss.length ≤ 120) (hd : Durs m.ss) :
    Calls Tryz.prog 77 #[v, .int .i64 mode] w (fun e w' => e = .returned (.int .i64 (durs (modeL mode m.ss))) ∧ Below w.heap.size w w') := by
  obtain ⟨A1, n1, c1, A2, n2, c2, A3, n3, c3, rfl, h1, h2, h3⟩ := h
  have hlen := hide h3.len
  rw [hlen.out] at hn
  have hcap := h3.cap
  obtain ⟨W0, hW0⟩ : ∃ W0, W0 = w.alloc (.cells #[.int .i64 m.id, .slice A1 n1 c1, .slice A2 n2 c2, .slice A3 n3 c3] 28) := ⟨_, rfl⟩
  have F0 : At W0 w.heap.size 28 #[.int .i64 m.id, .slice A1 n1 c1, .slice A2 n2 c2, .slice A3 n3 c3] := by rw [hW0]; exact At.fresh _ _ _
  have BA := hide (show Below w.heap.size w W0 by rw [hW0]; exact (Below.refl _ _).alloc (Nat.le_refl _) _)
  have H3 := h3.below BA.out
  have d3 := F0.cell 3
  simp at d3
  have HW := hide hW0
  clear hW0 F0 h1 h2 h3
  go_enter Tryz.func77, Tryz.ntmps77
  go_wp2_with fail
  rw [← HW.out]
  go_loopw [5, 6] (fun v i wr => ∃ (k : Nat) (u : Int), k ≤ n3 ∧ i = .int .i64 k ∧ v = .int .i64 u ∧ Hid (u = durs (modeL mode (m.ss.take k))) ∧ wr = W0) (fun _ i _ => n3 - (intOf i).toNat)
  case atStart => exact ⟨0, 0, by omega, rfl, rfl, hide (by simp [durs, modeL]), rfl⟩
  case round =>
    obtain ⟨k, u, hk, rfl, rfl, hu, rfl⟩ := hrel
    by_cases hlt : k < n3
    · obtain ⟨b, off, x, rfl, hb, hx, c0, c1, c2, c3, c4, c5, c6, c7⟩ := slt_at H3 hlt
      have HX := hide (show modeL mode (m.ss.take (k + 1)) = _ by rw [takeR hx, modeL_snoc])
      have hub := durs_bound ((hd.take k).filter (fun x => x.md == mode))
      rw [show (m.ss.take k).filter (fun x => x.md == mode) = modeL mode (m.ss.take k) from rfl, ← hu.out] at hub
      have hfl : (modeL mode (m.ss.take k)).length ≤ k := Nat.le_trans (List.length_filter_le _ _) (by rw [List.length_take]; omega)
      have hxb := hd x (List.mem_of_getElem? hx)
      have u0 : 0 ≤ u := hub.1
      have u1 : u ≤ 120000 := by omega
      clear hx hub hfl
      cases e : (x.md == mode)
      · have NN := hide (show u = durs (modeL mode (m.ss.take (k + 1))) by rw [HX.out, e, hu.out]; simp)
        go_wp2
        go_roundw
        case rel => exact ⟨k + 1, u, by omega, by go_num, rfl, NN, trivial⟩
        case measure => simp [intOf]; omega
      · have NN := hide (show u + x.du = durs (modeL mode (m.ss.take (k + 1))) by rw [HX.out, e, if_pos rfl, durs_snoc, hu.out])
        go_wp2
        go_roundw
        case rel => exact ⟨k + 1, u + x.du, by omega, by go_num, by go_num, NN, trivial⟩
        case measure => simp [intOf]; omega
    · obtain rfl : k = n3 := by omega
      have E := hide (show u = durs (modeL mode m.ss) by rw [hu.out, ← hlen.out, List.take_length])
      go_wp2
      go_ret
      exact ⟨by rw [E.out]; rfl, BA.out⟩
set_option maxHeartbeats 3200000 in
theorem modeSlots_any (v : Value) (m : Mdl) (mode : Int) (w : World) (h : RdM w v m) (hn : m.ss.length ≤ 120) :
    Calls Tryz.prog 75 #[v, .int .i64 mode] w (fun e w' => ∃ A' c', e = .returned (.slice A' (modeL mode m.ss).length c') ∧ OwnR 61 Slt.v 8 w' w.heap.size A' (modeL mode m.ss).length c' (modeL mode m.ss) ∧ Below w.heap.size w w') := by
  obtain ⟨A1, n1, c1, A2, n2, c2, A3, n3, c3, rfl, h1, h2, h3⟩ := h
  have hlen := hide h3.len
  rw [hlen.out] at hn
  have hcap := h3.cap
  obtain ⟨W0, hW0⟩ : ∃ W0, W0 = w.alloc (.cells #[.int .i64 m.id, .slice A1 n1 c1, .slice A2 n2 c2, .slice A3 n3 c3] 28) := ⟨_, rfl⟩
  have F0 : At W0 w.heap.size 28 #[.int .i64 m.id, .slice A1 n1 c1, .slice A2 n2 c2, .slice A3 n3 c3] := by rw [hW0]; exact At.fresh _ _ _
  have BA0 : Below w.heap.size w W0 := by rw [hW0]; exact (Below.refl _ _).alloc (Nat.le_refl _) _
  have BA := hide (BA0.alloc BA0.size (.cells #[] 61))
  have own0 : OwnR 61 Slt.v 8 (W0.alloc (.cells #[] 61)) w.heap.size (some ⟨W0.heap.size, 0, none⟩) 0 0 [] := OwnR.empty W0 BA0.size Slt.k
  have H3 := hide h3
  rw [show W0.heap.size = w.heap.size + 1 by rw [hW0]; simp] at own0
  have d3 := (F0.alloc (.cells #[] 61)).cell 3
  simp at d3
  have HW := hide hW0
  clear hW0 F0 h1 h2 h3 BA0
  go_enter Tryz.func75, Tryz.ntmps75
  go_wp2_with fail
  rw [← HW.out]
  go_loopw [5, 12] (fun s i wr => ∃ (k p : Nat) (A' : Option Addr) (c' : Nat), k ≤ n3 ∧ i = .int .i64 k ∧ s = .slice A' p c' ∧ p ≤ k ∧ OwnR 61 Slt.v 8 wr w.heap.size A' p c' (modeL mode (m.ss.take k)) ∧ Below w.heap.size w wr) (fun _ i _ => n3 - (intOf i).toNat)
  case atStart => exact ⟨0, 0, _, 0, by omega, rfl, rfl, by omega, own0, BA.out⟩
  case round =>
    obtain ⟨k, p, A', c', hk, rfl, rfl, hp, hown, hbel⟩ := hrel
    have hsz := hbel.size
    by_cases hlt : k < n3
    · obtain ⟨b, off, x, rfl, hb, hx, c0, c1, c2, c3, c4, c5, c6, c7⟩ := slt_at (H3.out.below hbel) hlt
      have HX := hide (show modeL mode (m.ss.take (k + 1)) = _ by rw [takeR hx, modeL_snoc])
      have HB := hide (show Below w.heap.size w (wr.alloc (.cells #[.int .i64 x.md, .int .i64 x.rd, .int .i64 x.sl, .int .i64 x.nd, .int .i64 x.kd, .int .i64 x.sz, .int .i64 x.du, .bool x.ch] 61)) from below_trans hbel ((Below.refl _ _).alloc (Nat.le_refl _) _))
      have HO := hide (hown.alloc (.cells #[.int .i64 x.md, .int .i64 x.rd, .int .i64 x.sl, .int .i64 x.nd, .int .i64 x.kd, .int .i64 x.sz, .int .i64 x.du, .bool x.ch] 61))
      clear hx hown hbel
      cases e : (x.md == mode)
      · rw [e, if_neg (by simp), List.append_nil] at HX
        have NN := hide (show OwnR 61 Slt.v 8 (wr.alloc (.cells #[.int .i64 x.md, .int .i64 x.rd, .int .i64 x.sl, .int .i64 x.nd, .int .i64 x.kd, .int .i64 x.sz, .int .i64 x.du, .bool x.ch] 61)) w.heap.size A' p c' (modeL mode (m.ss.take (k + 1))) by rw [HX.out]; exact HO.out)
        clear HX
        go_wp2
        go_roundw
        case rel => exact ⟨k + 1, p, A', c', by omega, by go_num, rfl, by omega, NN.out, HB.out⟩
        case measure => simp [intOf]; omega
      · rw [e, if_pos rfl] at HX
        have HSZ : ∀ o, (wr.alloc o).heap.size = wr.heap.size + 1 := fun o => by simp
        go_wp2_with (at_builtin; go_loud (refine append_rec info_slt Tryz.underlying26 rfl (by decide) (by decide) rfl _ _ rfl rfl HO.out _ 1 [x] rfl rfl (by simp [Slt.v, Value.oneCell']) (by rw [HSZ]; rfl) (by omega) (by simp; omega) ?_); intro A2 c2 w2 own2 gr2)
        have hb2 := below_ownR HB.out (by simp; omega) HO.out (Nat.le_refl _) gr2
        rw [← HX.out] at own2
        clear HX
        go_roundw
        case rel => exact ⟨k + 1, p + 1, A2, c2, by omega, by go_num, rfl, by omega, own2, hb2⟩
        case measure => simp [intOf]; omega
    · obtain rfl : k = n3 := by omega
      have E := hide (show m.ss.take k = m.ss by rw [← hlen.out, List.take_length])
      rw [E.out] at hown
      obtain rfl : p = (modeL mode m.ss).length := hown.len.symm
      go_wp2
      go_ret
      exact ⟨A', c', rfl, hown, hbel⟩
end Go.Proofs.YtdkhldebnpmiiaaGreatDoor
namespace Go.Proofs.YtdkhldebnpmiiaaGreatDoor
open Go.RowKit
set_option linter.unusedVariables false
set_option linter.unusedSimpArgs false
def shortTo (m : Mdl) (k : Nat) : Bool := (List.range k).all (fun i => decide (durs (modeL i m.ss) ≤ 32000))
def shortB (m : Mdl) : Bool := shortTo m m.ms.length
theorem shortTo_succ (m : Mdl) (k : Nat) : shortTo m (k + 1) = (shortTo m k && decide (durs (modeL k m.ss) ≤ 32000)) := by simp [shortTo, List.range_succ]
theorem shortB_bad {m : Mdl} {k : Nat} (h : k < m.ms.length) (hb : ¬ durs (modeL k m.ss) ≤ 32000) : shortB m = false := List.all_eq_false.2 ⟨k, List.mem_range.2 h, by rw [decide_eq_false hb]; simp⟩
set_option maxHeartbeats 3200000 in
theorem isShort_any (v : Value) (m : Mdl) (w : World) (h : RdM w v m) (hn : m.ss.length ≤ 120) (hd : Durs m.ss) :
    Calls Tryz.prog 143 #[v] w (BoolOut (shortB m) w) := by
  have HM := hide h
  obtain ⟨A1, n1, c1, A2, n2, c2, A3, n3, c3, rfl, h1, h2, h3⟩ := h
  have hlen := hide h2.len
  have hcap := h2.cap
  obtain ⟨W0, hW0⟩ : ∃ W0, W0 = w.alloc (.cells #[.int .i64 m.id, .slice A1 n1 c1, .slice A2 n2 c2, .slice A3 n3 c3] 28) := ⟨_, rfl⟩
  have F0 : At W0 w.heap.size 28 #[.int .i64 m.id, .slice A1 n1 c1, .slice A2 n2 c2, .slice A3 n3 c3] := by rw [hW0]; exact At.fresh _ _ _
  have BA := hide (show Below w.heap.size w W0 by rw [hW0]; exact (Below.refl _ _).alloc (Nat.le_refl _) _)
  have HF := hide F0
  have d2 := F0.cell 2
  simp at d2
  have HW := hide hW0
  clear hW0 F0 h1 h2 h3
  go_enter Tryz.func143, Tryz.ntmps143
  go_wp2_with fail
  rw [← HW.out]
  go_loopw [7] (fun i wr => ∃ k : Nat, k ≤ n2 ∧ i = .int .i64 k ∧ Hid (shortTo m k = true) ∧ Hid (Below W0.heap.size W0 wr)) (fun i _ => n2 - (intOf i).toNat)
  case atStart => exact ⟨0, by omega, rfl, hide rfl, hide (Below.refl _ _)⟩
  case round =>
    obtain ⟨k, hk, rfl, hall, hbel⟩ := hrel
    by_cases hlt : k < n2
    · have F1 := HF.out.keep hbel.out
      have e0 := F1.cell 0
      have e1 := F1.cell 1
      have e2 := F1.cell 2
      have e3 := F1.cell 3
      simp at e0 e1 e2 e3
      have HL := hide (show k < m.ms.length by rw [hlen.out]; exact hlt)
      have HM1 := hide (HM.out.below (below_trans BA.out hbel.out))
      clear F1
      go_wp2_with fail
      go_at_call 75
      (with_reducible refine (modeSlots_any _ m k _ HM1.out hn).mono ?_)
      rintro ee w1 ⟨A', c', rfl, own1, b1⟩
      have B1 := hide (below_trans hbel.out b1)
      have hfl : (modeL k m.ss).length ≤ 120 := Nat.le_trans (List.length_filter_le _ _) hn
      go_wp2_with fail
      go_at_call 86
      (with_reducible refine (sumDurations_any _ _ _ _ _ own1.rd hfl (hd.modeL _)).mono ?_)
      rintro ee w2 ⟨rfl, b2⟩
      have B2 := hide (below_trans B1.out b2)
      clear b1 b2 own1 hfl
      obtain ⟨u, hu⟩ : ∃ u, u = durs (modeL k m.ss) := ⟨_, rfl⟩
      rw [← hu]
      by_cases h1 : (32000 : Int) < u
      · have E := hide (shortB_bad HL.out (by rw [← hu]; omega))
        have t1 : decide ((32000 : Int) < u) = true := decide_eq_true h1
        clear hu h1
        go_wp2
        go_ret
        exact ⟨by rw [E.out]; rfl, below_trans BA.out B2.out⟩
      · have NN := hide (show shortTo m (k + 1) = true by rw [shortTo_succ, hall.out, ← hu, decide_eq_true (by omega)]; rfl)
        have t1 : decide ((32000 : Int) < u) = false := decide_eq_false h1
        clear hu h1
        go_wp2
        go_roundw
        case rel => exact ⟨k + 1, by omega, by go_num, NN, B2⟩
        case measure => simp [intOf]; omega
    · obtain rfl : k = n2 := by omega
      have E := hide (show shortB m = true by rw [shortB, hlen.out]; exact hall.out)
      go_wp2
      go_ret
      exact ⟨by rw [E.out]; rfl, below_trans BA.out hbel.out⟩
end Go.Proofs.YtdkhldebnpmiiaaGreatDoor
