/-
  Keys with texts: the plain law (texts by keys, the document's list, definitions).
  Keys with texts: is and key of the program.
-/
import Derived.Lib.SplitLaws
import Derived.Test.YtonbnmicgmnliaaDoorZMcB
namespace Go.Proofs.YtonbnmicgmnliaaDoor
set_option linter.unusedSimpArgs false
set_option linter.unusedVariables false
set_option linter.unusedVariables false

/-! ### Pieces at a separator -/
def sp (x : UInt8) : List UInt8 → List UInt8 × List (List UInt8)
  | [] => ([], [])
  | c :: l => if c = x then ([], (sp x l).1 :: (sp x l).2) else (c :: (sp x l).1, (sp x l).2)
theorem sp_yes (x : UInt8) (l : List UInt8) : sp x (x :: l) = ([], (sp x l).1 :: (sp x l).2) := by
  show (if x = x then _ else _) = _
  rw [if_pos rfl]
theorem sp_no (x c : UInt8) (l : List UInt8) (h : ¬ c = x) : sp x (c :: l) = (c :: (sp x l).1, (sp x l).2) := by
  show (if c = x then _ else _) = _
  rw [if_neg h]
def sps (x : UInt8) (l : List UInt8) : List (List UInt8) := (sp x l).1 :: (sp x l).2
theorem split_sps (x : UInt8) : ∀ l : List UInt8, Lib.splitK [x] 0 (Lib.count l [x]) l = sps x l
  | [] => by rw [Lib.count_one]; rfl
  | c :: l => by
    have ih := split_sps x l
    by_cases hc : c = x
    · subst hc
      rw [Lib.count_cons_eq, Nat.add_comm, Lib.splitK]
      have hix : Lib.index (c :: l) [c] = 0 := by unfold Lib.index; simp [List.isPrefixOf]
      rw [hix]
      simp only [show ((0 : Int) == -1) = false from rfl, Bool.false_eq_true, if_false]
      simp only [Int.toNat_zero, Nat.zero_add, List.length_cons, List.length_nil, List.take_zero, List.drop_succ_cons, List.drop_zero]
      rw [ih]
      unfold sps
      rw [sp_yes]
    · rw [Lib.count_cons_ne c x l hc]
      have hp : ([x] : List UInt8).isPrefixOf (c :: l) = false := by simp [List.isPrefixOf]; exact fun h => hc h.symm
      have hix : Lib.index (c :: l) [x] = if Lib.index l [x] == -1 then -1 else Lib.index l [x] + 1 := by rw [Lib.index, hp]; simp
      have hpc : sps x (c :: l) = (c :: (sp x l).1) :: (sp x l).2 := by unfold sps; rw [sp_no x c l hc]
      rw [hpc]
      unfold sps at ih
      generalize Lib.count l [x] = k at ih ⊢
      cases k with
      | zero =>
        rw [Lib.splitK] at ih ⊢
        injection ih with i1 i2
        rw [← i1, ← i2]
      | succ k =>
        rw [Lib.splitK] at ih ⊢
        rw [hix]
        by_cases hm : (Lib.index l [x] == -1) = true
        · rw [if_pos hm] at ih ⊢
          injection ih with i1 i2
          rw [← i1, ← i2, if_pos (by decide)]
        · rw [if_neg hm] at ih ⊢
          have hge := Lib.index_ge l [x]
          have hne : Lib.index l [x] ≠ -1 := fun e => hm (by rw [e]; rfl)
          obtain ⟨j, hj⟩ : ∃ j : Nat, Lib.index l [x] = j := ⟨(Lib.index l [x]).toNat, by omega⟩
          rw [hj] at ih ⊢
          have h1 : (((j : Int) + 1) == -1) = false := by simp; omega
          rw [h1]
          simp only [Bool.false_eq_true, if_false]
          have h2 : ((j : Int) + 1).toNat = j + 1 := by omega
          rw [h2]
          injection ih with i1 i2
          simp only [Int.toNat_natCast, Nat.add_zero] at i1 i2
          rw [← i1, ← i2]
          simp
theorem sps_len (x : UInt8) : ∀ l : List UInt8, (sps x l).length ≤ l.length + 1
  | [] => by simp [sps, sp]
  | c :: l => by
    have ih := sps_len x l
    unfold sps at ih ⊢
    by_cases hc : c = x
    · subst hc; rw [sp_yes]; simp at ih ⊢; omega
    · rw [sp_no _ _ _ hc]; simp at ih ⊢; omega
theorem sps_short (x : UInt8) : ∀ l : List UInt8, ∀ q ∈ sps x l, q.length ≤ l.length
  | [], q, hq => by simp [sps, sp] at hq; subst hq; simp
  | c :: l, q, hq => by
    have ih := sps_short x l
    unfold sps at ih hq
    by_cases hc : c = x
    · subst hc
      rw [sp_yes] at hq
      simp only [List.mem_cons] at hq ih
      rcases hq with rfl | hq
      · simp
      · have := ih q (by simpa using hq); simp; omega
    · rw [sp_no _ _ _ hc] at hq
      simp only [List.mem_cons] at hq ih
      rcases hq with rfl | hq
      · have := ih _ (.inl rfl); simp; omega
      · have := ih q (.inr hq); simp; omega

/-! ### Keys -/
/-- Is it a key? -/
def isK (n : Nat) : Bool := decide (17 ≤ n) && decide (n ≤ 34) && decide (n ≠ 22) && decide (n ≠ 27) && decide (n ≠ 30)
theorem isK_in {n : Nat} (h : isK n = true) : 17 ≤ n ∧ n ≤ 34 := by unfold isK at h; simp at h; omega
/-- The digits of a number, kept small. -/
def isDg (c : UInt8) : Bool := decide (48 ≤ c.toNat) && decide (c.toNat ≤ 57)
def valK (m : Nat) (q : List UInt8) : Nat := q.foldl (fun n c => min (n * 10 + (c.toNat - 48)) m) 0
theorem valK_snoc (m : Nat) (q : List UInt8) (c : UInt8) : valK m (q ++ [c]) = min (valK m q * 10 + (c.toNat - 48)) m := by unfold valK; rw [List.foldl_append]; rfl
theorem valK_le (m : Nat) (q : List UInt8) : valK m q ≤ m := by
  rcases List.eq_nil_or_concat q with rfl | ⟨l, c, rfl⟩
  · exact Nat.zero_le _
  · rw [List.concat_eq_append, valK_snoc]; omega
/-! ### The texts -/
abbrev Txs := List (List UInt8)
def usedL (L : Txs) : Nat := (L.map List.length).sum
/-! ### Definitions -/
/-- What is ahead of a stroke and what is behind it. -/
def cutS : List UInt8 → Option (List UInt8 × List UInt8)
  | [] => none
  | c :: l => if c = 47 then some ([], l) else (cutS l).map fun p => (c :: p.1, p.2)
/-- A definition's key and digits. -/
def defP (q : List UInt8) : Option (Nat × List UInt8) := match cutS q with
  | none => none
  | some (a, b) => if a.all isDg = true ∧ isK (valK 68 a) = true then some (valK 68 a, b) else none
/-- A definition: the texts then. -/
def defR (L : Txs) (q : List UInt8) : Option Txs := if q = [] then some L else match defP q with
  | none => none
  | some (n, b) => (hexR b).map fun t => L.set (n - 17) t
/-- All of them. -/
def withR (L : Txs) : List (List UInt8) → Option Txs
  | [] => some L
  | q :: l => match defR L q with
    | none => none
    | some L' => withR L' l
theorem withR_take {l : List (List UInt8)} {L L1 L2 : Txs} {i : Nat} {q : List UInt8} (h : withR L (l.take i) = some L1) (hq : l[i]? = some q) (h2 : defR L1 q = some L2) : withR L (l.take (i + 1)) = some L2 := by
  rw [List.take_add_one, hq]
  have key : ∀ (a : List (List UInt8)) (L : Txs), withR L a = some L1 → withR L (a ++ [q]) = some L2 := by
    intro a
    induction a with
    | nil => intro L h; injection h with h; subst h; simp [withR, h2]
    | cons x a ih =>
      intro L h
      simp only [List.cons_append, withR] at h ⊢
      split at h
      · cases h
      · rename_i L' hx
        exact ih L' h
  exact key _ _ h
theorem withR_bad {l : List (List UInt8)} {L L1 : Txs} {i : Nat} {q : List UInt8} (h : withR L (l.take i) = some L1) (hq : l[i]? = some q) (h2 : defR L1 q = none) : withR L l = none := by
  have e : l = l.take i ++ q :: l.drop (i + 1) := by
    obtain ⟨hi, hx⟩ := List.getElem?_eq_some_iff.1 hq
    rw [← hx, List.getElem_cons_drop, List.take_append_drop]
  have key : ∀ (a b : List (List UInt8)) (L : Txs), withR L a = some L1 → withR L (a ++ q :: b) = none := by
    intro a b
    induction a with
    | nil => intro L h; injection h with h; subst h; simp [withR, h2]
    | cons x a ih =>
      intro L h
      simp only [List.cons_append, withR] at h ⊢
      split at h
      · cases h
      · rename_i L' hx
        exact ih L' h
  rw [e]
  exact key _ _ _ h
/-- What a definition does: texts, lock, error. -/
def dfnR (L : Txs) (lk clear lock : Bool) (data : List UInt8) : Txs × Bool × Int :=
  match withR (if clear = true then List.replicate 18 [] else L) (sps 59 data) with
  | none => (L, lk, 3)
  | some L1 => if 804 < usedL L1 then (L, lk, 5) else if lk = true then (L, lk, 6) else (L1, lock, 0)
end Go.Proofs.YtonbnmicgmnliaaDoor

namespace Go.Proofs.YtonbnmicgmnliaaDoor
set_option linter.unusedSimpArgs false
set_option linter.unusedVariables false
open Go.RowKit
set_option linter.unusedVariables false

/-- Is a number a key's? -/
def isZ (n : Int) : Bool := decide (17 ≤ n) && decide (n ≤ 34) && decide (n ≠ 22) && decide (n ≠ 27) && decide (n ≠ 30)
theorem isZ_nat (n : Nat) : isZ (n : Int) = isK n := by
  rw [Bool.eq_iff_iff]
  unfold isZ isK
  simp only [Bool.and_eq_true, decide_eq_true_eq]
  omega
theorem isZ_form {n : Int} (h : isZ n = true) : ∃ m : Nat, n = m ∧ isK m = true ∧ 17 ≤ m ∧ m ≤ 34 := by
  have h0 : 17 ≤ n := by
    unfold isZ at h
    simp only [Bool.and_eq_true, decide_eq_true_eq] at h
    omega
  refine ⟨n.toNat, by omega, ?_⟩
  have e : n = (n.toNat : Int) := by omega
  rw [e, isZ_nat] at h
  exact ⟨h, isK_in h⟩
set_option maxHeartbeats 400000 in
theorem is_any (n : Int) (w : World) : Calls Tryd.prog 39 #[.int .i64 n] w fun e w' => e = .returned (.bool (isZ n)) ∧ w = w' := by
  obtain ⟨b, hb⟩ : ∃ b, b = isZ n := ⟨_, rfl⟩
  rw [← hb]
  have HB := Lib.hid hb
  clear hb
  by_cases h : n = 22 ∨ n = 27 ∨ n = 30
  · have hf : b = false := by
      rw [HB.out]; unfold isZ
      rcases h with rfl | rfl | rfl <;> decide
    subst hf
    rcases h with rfl | rfl | rfl
    all_goals
      go_enter Tryd.func39, Tryd.ntmps39
      go_wp2
      go_ret
      exact ⟨rfl, rfl⟩
  · have h1 : (n == 22) = false := by simp; omega
    have h2 : (n == 27) = false := by simp; omega
    have h3 : (n == 30) = false := by simp; omega
    have hv : b = (decide (17 ≤ n) && decide (n ≤ 34)) := by
      rw [HB.out, Bool.eq_iff_iff]; unfold isZ
      simp only [Bool.and_eq_true, decide_eq_true_eq]
      omega
    have HV := Lib.hid hv
    clear hv h
    by_cases h4 : 17 ≤ n
    · go_enter Tryd.func39, Tryd.ntmps39
      go_wp2
      go_ret
      exact ⟨by rw [HV.out]; simp [h4] <;> omega, rfl⟩
    · go_enter Tryd.func39, Tryd.ntmps39
      go_wp2
      go_ret
      exact ⟨by rw [HV.out]; simp [h4] <;> omega, rfl⟩
theorem keyA (m : Nat) (c : UInt8) (h : 48 ≤ c.toNat) : min ((m : Int) * 10 + ((c.toNat : Int) - 48)) 68 = ((min (m * 10 + (c.toNat - 48)) 68 : Nat) : Int) := by omega
/-- What key answers. -/
def keyV (q : List UInt8) : Value := if q.all isDg = true then .tuple #[.int .i64 (valK 68 q : Nat), .bool (isK (valK 68 q))] else .tuple #[.int .i64 0, .bool false]
set_option maxRecDepth 100000 in
set_option maxHeartbeats 2000000 in
theorem key_any (q : List UInt8) (w : World) (hl : q.length ≤ 1000000) : Calls Tryd.prog 28 #[.string (bsl q)] w fun e w' => e = .returned (keyV q) ∧ w = w' := by
  obtain ⟨R, hR⟩ : ∃ R, R = keyV q := ⟨_, rfl⟩
  rw [← hR]
  have HR := Lib.hid hR
  clear hR
  have hg0 := fun (x : Nat) (h : x < (bsl q).size) => bsl_get (l := q) h
  have hsz := bsl_size q
  obtain ⟨t, ht⟩ : ∃ t, t = bsl q := ⟨_, rfl⟩
  rw [← ht]
  have hg1 : ∀ (x : Nat) (h : x < t.size) (h' : x < q.length), t[x]'h = q[x]'h' := by subst ht; exact fun x h _ => hg0 x h
  have HG := Lib.hid hg1
  clear hg1
  rw [← ht] at hsz
  have HT := Lib.hid ht
  clear ht hg0
  have hszb : t.size ≤ 1000000 := by omega
  have HSZ := Lib.hid hsz
  clear hsz
  go_enter Tryd.func28, Tryd.ntmps28
  go_wp2_with fail
  go_loopw [8, 4] (fun iv nv wr => ∃ k : Nat, iv = .int .i64 (k : Int) ∧ k ≤ t.size ∧ nv = .int .i64 (valK 68 (q.take k) : Nat) ∧ Hid ((q.take k).all isDg = true) ∧ wr = w) (fun iv _ _ => t.size - (intOf iv).toNat)
  case atStart => exact ⟨0, rfl, Nat.zero_le _, by simp [valK], Lib.hid (by simp), rfl⟩
  case round =>
    obtain ⟨k, rfl, hk, rfl, HA, rfl⟩ := hrel
    by_cases hlt : k < t.size
    · have hki : (k : Int) < (t.size : Int) := by omega
      have hkq : k < q.length := by have := HSZ.out; omega
      have hg := HG.out k hlt hkq
      obtain ⟨c, hc⟩ : ∃ c, c = q[k] := ⟨_, rfl⟩
      rw [← hc] at hg
      have htk : q.take (k + 1) = q.take k ++ [c] := by rw [List.take_succ_eq_append_getElem hkq, hc]
      have hcq : c ∈ q := by rw [hc]; exact List.getElem_mem hkq
      obtain ⟨m, hm⟩ : ∃ m, m = valK 68 (q.take k) := ⟨_, rfl⟩
      have hml : m ≤ 68 := by rw [hm]; exact valK_le _ _
      rw [← hm]
      have hv : valK 68 (q.take (k + 1)) = min (m * 10 + (c.toNat - 48)) 68 := by rw [htk, valK_snoc, hm]
      have hall : (q.take (k + 1)).all isDg = isDg c := by rw [htk, List.all_append, HA.out]; simp
      have hbad : isDg c = false → R = .tuple #[.int .i64 0, .bool false] := by
        intro h
        rw [HR.out]
        unfold keyV
        rw [if_neg]
        intro ha
        have := List.all_eq_true.1 ha c hcq
        rw [h] at this; cases this
      have HV := Lib.hid hv
      have HALL := Lib.hid hall
      have HBAD := Lib.hid hbad
      clear hv hall hbad hm hc htk hcq
      have hcl := c.toNat_lt
      by_cases hd : 48 ≤ c.toNat ∧ c.toNat ≤ 57
      · have hisd : isDg c = true := by unfold isDg; simp [hd.1, hd.2]
        have h1 : ¬ (c.toNat : Int) < 48 := by omega
        have h2 : ¬ (57 : Int) < (c.toNat : Int) := by omega
        have h1' : ¬ c.toNat < 48 := by omega
        have h2' : ¬ 57 < c.toNat := by omega
        have e1 : IntKind.i64.wrap ((m : Int) * 10) = (m : Int) * 10 := IntWalk.i64_in _ (by omega)
        have e2 : IntKind.u8.wrap ((c.toNat : Int) - 48) = (c.toNat : Int) - 48 := u8_small _ (by omega) (by omega)
        have e3 : IntKind.i64.wrap ((c.toNat : Int) - 48) = (c.toNat : Int) - 48 := IntWalk.i64_in _ (by omega)
        have e4 : IntKind.i64.wrap ((m : Int) * 10 + ((c.toNat : Int) - 48)) = (m : Int) * 10 + ((c.toNat : Int) - 48) := IntWalk.i64_in _ (by omega)
        have hmin := keyA m c hd.1
        rw [← HV.out] at hmin
        have HISD := Lib.hid hisd
        clear hd hisd
        go_wp2_with fail
        go_roundw
        case rel => exact ⟨k + 1, by go_num, by omega, rfl, Lib.hid (by rw [HALL.out]; exact HISD.out), by first | rfl | trivial⟩
        case measure => simp [intOf]; omega
      · have hres := HBAD.out (by unfold isDg; rw [Bool.and_eq_false_iff]; simp only [decide_eq_false_iff_not]; omega)
        have HRES := Lib.hid hres
        clear hres
        by_cases h1 : c.toNat < 48
        · have h1' : (c.toNat : Int) < 48 := by omega
          clear hd
          go_wp2_with fail
          go_ret2
          exact ⟨by rw [HRES.out]; rfl, rfl⟩
        · have h1' : ¬ (c.toNat : Int) < 48 := by omega
          have h2 : 57 < c.toNat := by omega
          have h2' : (57 : Int) < (c.toNat : Int) := by omega
          clear hd
          go_wp2_with fail
          go_ret2
          exact ⟨by rw [HRES.out]; rfl, rfl⟩
    · obtain rfl : k = t.size := by omega
      have hres : R = .tuple #[.int .i64 (valK 68 q : Nat), .bool (isK (valK 68 q))] := by
        have ha := HA.out
        rw [HSZ.out, List.take_length] at ha
        rw [HR.out]; unfold keyV; rw [if_pos ha]
      have htk : q.take t.size = q := by rw [HSZ.out, List.take_length]
      rw [htk]
      have hvl := valK_le 68 q
      have HRES := Lib.hid hres
      clear hres htk HA
      go_wp2_with (go_at_call 39; (with_reducible refine (is_any _ _).mono ?_); rw [isZ_nat]; rintro e w1 ⟨rfl, rfl⟩)
      go_ret2
      exact ⟨by rw [HRES.out]; rfl, rfl⟩
end Go.Proofs.YtonbnmicgmnliaaDoor
