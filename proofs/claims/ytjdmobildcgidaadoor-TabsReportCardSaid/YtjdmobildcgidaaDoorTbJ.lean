/-
  Tab stops told as a text: the plain law.
-/
import Derived.Test.YtjdmobildcgidaaDoorTbI
import Derived.Lib.SplitLaws
namespace Go.Proofs.YtjdmobildcgidaaDoor
set_option linter.unusedSimpArgs false
set_option linter.unusedVariables false
open Go.RowKit
set_option linter.unusedVariables false

/-- A text of a list. -/
def bsl (l : List UInt8) : ByteArray := ⟨l.toArray⟩
theorem bsl_size (l : List UInt8) : (bsl l).size = l.length := by simp [bsl, ByteArray.size]
theorem bsl_list (l : List UInt8) : (bsl l).data.toList = l := by simp [bsl]
theorem bsl_of (s : ByteArray) : s = bsl s.data.toList := by simp [bsl]
theorem bsl_extract (l : List UInt8) (x y : Nat) : (bsl l).extract x y = bsl ((l.drop x).take (y - x)) := by
  unfold bsl
  apply ByteArray.ext
  rw [ByteArray.data_extract]
  apply Array.ext'
  simp [List.extract_eq_take_drop]
theorem bsl_get {l : List UInt8} {x : Nat} (h : x < (bsl l).size) : (bsl l)[x]'h = l[x]'(by rw [← bsl_size]; exact h) := by simp [bsl, ByteArray.getElem_eq_getElem_data]
theorem bsl_emptyL {l : List UInt8} (h : l = []) : (bsl l).toList.isEmpty = true := by rw [ByteArray.toList_eq]; simp [bsl, h]
theorem bsl_consL {l : List UInt8} (h : l ≠ []) : (bsl l).toList.isEmpty = false := by rw [ByteArray.toList_eq]; simp [bsl, h]
theorem u8_small (x : Int) (h0 : 0 ≤ x) (h1 : x < 256) : IntKind.u8.wrap x = x := by
  rw [IntKind.wrap_u8]; omega

/-- A text cut at its strokes: the first piece, and the others. -/
def pc : List UInt8 → List UInt8 × List (List UInt8)
  | [] => ([], [])
  | c :: l => if c = 47 then ([], (pc l).1 :: (pc l).2) else (c :: (pc l).1, (pc l).2)
theorem pc_yes (l : List UInt8) : pc (47 :: l) = ([], (pc l).1 :: (pc l).2) := by
  show (if (47 : UInt8) = 47 then _ else _) = _
  rw [if_pos rfl]
theorem pc_no (c : UInt8) (l : List UInt8) (h : ¬ c = 47) : pc (c :: l) = (c :: (pc l).1, (pc l).2) := by
  show (if c = 47 then _ else _) = _
  rw [if_neg h]
def pcs (l : List UInt8) : List (List UInt8) := (pc l).1 :: (pc l).2
theorem split_pcs : ∀ l : List UInt8, Lib.splitK [47] 0 (Lib.count l [47]) l = pcs l
  | [] => by rw [Lib.count_one]; rfl
  | c :: l => by
    have ih := split_pcs l
    by_cases hc : c = 47
    · subst hc
      rw [Lib.count_cons_eq, Nat.add_comm, Lib.splitK]
      have hix : Lib.index (47 :: l) [47] = 0 := by unfold Lib.index; simp [List.isPrefixOf]
      rw [hix]
      simp only [show ((0 : Int) == -1) = false from rfl, Bool.false_eq_true, if_false]
      simp only [Int.toNat_zero, Nat.zero_add, List.length_cons, List.length_nil, List.take_zero, List.drop_succ_cons, List.drop_zero]
      rw [ih]
      unfold pcs
      rw [pc_yes]
    · rw [Lib.count_cons_ne c 47 l hc]
      have hp : ([47] : List UInt8).isPrefixOf (c :: l) = false := by simp [List.isPrefixOf]; exact fun h => hc h.symm
      have hix : Lib.index (c :: l) [47] = if Lib.index l [47] == -1 then -1 else Lib.index l [47] + 1 := by rw [Lib.index, hp]; simp
      have hpc : pcs (c :: l) = (c :: (pc l).1) :: (pc l).2 := by unfold pcs; rw [pc_no c l hc]
      rw [hpc]
      unfold pcs at ih
      generalize Lib.count l [47] = k at ih ⊢
      cases k with
      | zero =>
        rw [Lib.splitK] at ih ⊢
        injection ih with i1 i2
        rw [← i1, ← i2]
      | succ k =>
        rw [Lib.splitK] at ih ⊢
        rw [hix]
        by_cases hm : (Lib.index l [47] == -1) = true
        · rw [if_pos hm] at ih ⊢
          injection ih with i1 i2
          rw [← i1, ← i2, if_pos (by decide)]
        · rw [if_neg hm] at ih ⊢
          have hge := Lib.index_ge l [47]
          have hne : Lib.index l [47] ≠ -1 := fun e => hm (by rw [e]; rfl)
          obtain ⟨j, hj⟩ : ∃ j : Nat, Lib.index l [47] = j := ⟨(Lib.index l [47]).toNat, by omega⟩
          rw [hj] at ih ⊢
          have h1 : (((j : Int) + 1) == -1) = false := by simp; omega
          rw [h1]
          simp only [Bool.false_eq_true, if_false]
          have h2 : ((j : Int) + 1).toNat = j + 1 := by omega
          rw [h2]
          injection ih with i1 i2
          simp only [Int.toNat_natCast, Nat.add_zero] at i1 i2
          rw [← i1, ← i2]
          simp
theorem pc_app : ∀ (ds u : List UInt8), (∀ c ∈ ds, c ≠ 47) → pc (ds ++ u) = (ds ++ (pc u).1, (pc u).2)
  | [], u, _ => rfl
  | c :: ds, u, h => by
    rw [List.cons_append, pc_no _ _ (h c (by simp)), pc_app ds u (fun c hc => h c (by simp [hc]))]
    rfl
def isD (c : UInt8) : Bool := decide (48 ≤ c.toNat) && decide (c.toNat ≤ 57)
theorem isD_ne {c : UInt8} (h : isD c = true) : c ≠ 47 := by rintro rfl; exact absurd h (by decide)
/-- What digits tell, and no more than 1000. -/
def valD (q : List UInt8) : Nat := q.foldl (fun n c => min (n * 10 + (c.toNat - 48)) 1000) 0
theorem valD_snoc (q : List UInt8) (c : UInt8) : valD (q ++ [c]) = min (valD q * 10 + (c.toNat - 48)) 1000 := by unfold valD; rw [List.foldl_append]; rfl
theorem valD_le (q : List UInt8) : valD q ≤ 1000 := by
  rcases List.eq_nil_or_concat q with rfl | ⟨q', c, rfl⟩
  · exact Nat.zero_le _
  · rw [List.concat_eq_append, valD_snoc]; exact Nat.min_le_right _ _
def colR (q : List UInt8) : Option Nat := if q.isEmpty = false ∧ q.all isD = true then some (valD q) else none
def setP (out : List Bool) (n : Nat) : List Bool := if 1 ≤ n then out.set (n - 1) true else out
theorem setP_len (out : List Bool) (n : Nat) : (setP out n).length = out.length := by unfold setP; split <;> simp
def rstP : List Bool → List (List UInt8) → Option (List Bool)
  | out, [] => some out
  | out, q :: qs => match colR q with
    | none => none
    | some n => rstP (setP out n) qs
def rstO (N : Nat) (t : List UInt8) : Option (List Bool) := if t.isEmpty = true then some (List.replicate N false) else rstP (List.replicate N false) (pcs t)
theorem rstP_len : ∀ (qs : List (List UInt8)) (out r : List Bool), rstP out qs = some r → r.length = out.length
  | [], out, r, h => by injection h with h; rw [h]
  | q :: qs, out, r, h => by
    unfold rstP at h
    cases hc : colR q with
    | none => rw [hc] at h; cases h
    | some n => rw [hc] at h; rw [rstP_len qs _ _ h, setP_len]
theorem rstO_len (N : Nat) (t : List UInt8) (r : List Bool) (h : rstO N t = some r) : r.length = N := by
  unfold rstO at h
  split at h
  · injection h with h; rw [← h]; simp
  · rw [rstP_len _ _ _ h]; simp
/-- The list behind Restore. -/
def rstL (l : List Bool) (t : List UInt8) : List Bool := (rstO l.length t).getD l
def rstE (l : List Bool) (t : List UInt8) : Int := if (rstO l.length t).isSome = true then 0 else 3
theorem rstL_len (l : List Bool) (t : List UInt8) : (rstL l t).length = l.length := by
  unfold rstL
  cases h : rstO l.length t with
  | none => rfl
  | some r => exact rstO_len _ _ _ h

theorem colA (m : Nat) (c : UInt8) (h : 48 ≤ c.toNat) : min ((m : Int) * 10 + ((c.toNat : Int) - 48)) 1000 = ((min (m * 10 + (c.toNat - 48)) 1000 : Nat) : Int) := by omega
/-- What column answers. -/
def colV (q : List UInt8) : Value := if q.all isD = true then .tuple #[.int .i64 ((valD q : Int) - 1), .bool (!q.isEmpty)] else .tuple #[.int .i64 0, .bool false]
set_option maxRecDepth 100000 in
set_option maxHeartbeats 2000000 in
theorem column_any (q : List UInt8) (w : World) (hl : q.length ≤ 1000000) : Calls Tryd.prog 40 #[.string (bsl q)] w fun e w' => e = .returned (colV q) ∧ Gr w w' := by
  obtain ⟨R, hR⟩ : ∃ R, R = colV q := ⟨_, rfl⟩
  rw [← hR]
  have HR := Lib.hid hR
  clear hR
  have hg0 := fun (x : Nat) (h : x < (bsl q).size) => bsl_get (l := q) h
  have hsz := bsl_size q
  have hne : (bsl q).toList.isEmpty = q.isEmpty := by
    cases q with
    | nil => exact bsl_emptyL rfl
    | cons c q => exact bsl_consL (by simp)
  obtain ⟨t, ht⟩ : ∃ t, t = bsl q := ⟨_, rfl⟩
  rw [← ht]
  have hg1 : ∀ (x : Nat) (h : x < t.size) (h' : x < q.length), t[x]'h = q[x]'h' := by subst ht; exact fun x h _ => hg0 x h
  have HG := Lib.hid hg1
  clear hg1
  rw [← ht] at hsz hne
  have HT := Lib.hid ht
  clear ht hg0
  have hszb : t.size ≤ 1000000 := by omega
  have HSZ := Lib.hid hsz
  clear hsz
  go_enter Tryd.func40, Tryd.ntmps40
  go_wp2_with fail
  go_loopw [8, 4] (fun iv nv wr => ∃ k : Nat, iv = .int .i64 (k : Int) ∧ k ≤ t.size ∧ nv = .int .i64 (valD (q.take k) : Nat) ∧ Hid ((q.take k).all isD = true) ∧ Gr w wr) (fun iv _ _ => t.size - (intOf iv).toNat)
  case atStart => exact ⟨0, rfl, Nat.zero_le _, by simp [valD], Lib.hid (by simp), by (repeat (first | with_reducible exact Gr.refl _ | with_reducible assumption | with_reducible refine Gr.setCell ?_ (by simp; try omega) _ | with_reducible refine Gr.alloc ?_ _ | with_reducible refine Gr.drew ?_ | with_reducible refine Gr.drewN ?_ _ | with_reducible refine Gr.trans ?_ (by assumption)))⟩
  case round =>
    obtain ⟨k, rfl, hk, rfl, HA, hgr⟩ := hrel
    by_cases hlt : k < t.size
    · have hki : (k : Int) < (t.size : Int) := by omega
      have hkq : k < q.length := by have := HSZ.out; omega
      have hg := HG.out k hlt hkq
      obtain ⟨c, hc⟩ : ∃ c, c = q[k] := ⟨_, rfl⟩
      rw [← hc] at hg
      have htk : q.take (k + 1) = q.take k ++ [c] := by rw [List.take_succ_eq_append_getElem hkq, hc]
      have hcq : c ∈ q := by rw [hc]; exact List.getElem_mem hkq
      obtain ⟨m, hm⟩ : ∃ m, m = valD (q.take k) := ⟨_, rfl⟩
      have hml : m ≤ 1000 := by rw [hm]; exact valD_le _
      rw [← hm]
      have hv : valD (q.take (k + 1)) = min (m * 10 + (c.toNat - 48)) 1000 := by rw [htk, valD_snoc, hm]
      have hall : (q.take (k + 1)).all isD = isD c := by rw [htk, List.all_append, HA.out]; simp
      have hbad : isD c = false → R = .tuple #[.int .i64 0, .bool false] := by
        intro h
        rw [HR.out]
        unfold colV
        rw [if_neg]
        intro ha
        have := List.all_eq_true.1 ha c hcq
        rw [h] at this; cases this
      have HV := Lib.hid hv
      have HALL := Lib.hid hall
      have HBAD := Lib.hid hbad
      clear hv hall hbad hm hc htk hcq
      have hcl := c.toNat_lt
      by_cases hd : 48 ≤ c.toNat ∧ c.toNat ≤ 57
      · have hisd : isD c = true := by unfold isD; simp [hd.1, hd.2]
        have h1 : (48 : Int) ≤ (c.toNat : Int) := by omega
        have h2 : (c.toNat : Int) ≤ 57 := by omega
        have h1' : 48 ≤ c.toNat := hd.1
        have h2' : c.toNat ≤ 57 := hd.2
        have e1 : IntKind.i64.wrap ((m : Int) * 10) = (m : Int) * 10 := IntWalk.i64_in _ (by omega)
        have e2 : IntKind.u8.wrap ((c.toNat : Int) - 48) = (c.toNat : Int) - 48 := u8_small _ (by omega) (by omega)
        have e3 : IntKind.i64.wrap ((c.toNat : Int) - 48) = (c.toNat : Int) - 48 := IntWalk.i64_in _ (by omega)
        have e4 : IntKind.i64.wrap ((m : Int) * 10 + ((c.toNat : Int) - 48)) = (m : Int) * 10 + ((c.toNat : Int) - 48) := IntWalk.i64_in _ (by omega)
        have hmin := colA m c hd.1
        rw [← HV.out] at hmin
        have HISD := Lib.hid hisd
        clear hd hisd
        go_wp2_with fail
        refine ⟨⟨k + 1, by go_num, by omega, rfl, Lib.hid (by rw [HALL.out]; exact HISD.out), by (repeat (first | with_reducible exact Gr.refl _ | with_reducible assumption | with_reducible refine Gr.setCell ?_ (by simp; try omega) _ | with_reducible refine Gr.alloc ?_ _ | with_reducible refine Gr.drew ?_ | with_reducible refine Gr.drewN ?_ _ | with_reducible refine Gr.trans ?_ (by assumption)))⟩, ?_⟩
        simp [intOf]; omega
      · have hres := HBAD.out (by unfold isD; rw [Bool.and_eq_false_iff]; simp only [decide_eq_false_iff_not]; omega)
        have HRES := Lib.hid hres
        clear hres
        by_cases h1 : 48 ≤ c.toNat
        · have h2 : ¬ c.toNat ≤ 57 := by omega
          have h1' : (48 : Int) ≤ (c.toNat : Int) := by omega
          have h2' : ¬ (c.toNat : Int) ≤ 57 := by omega
          clear hd
          go_wp2_with fail
          go_ret2
          exact ⟨by rw [HRES.out]; rfl, hgr⟩
        · have h1' : ¬ (48 : Int) ≤ (c.toNat : Int) := by omega
          clear hd
          go_wp2_with fail
          go_ret2
          exact ⟨by rw [HRES.out]; rfl, hgr⟩
    · obtain rfl : k = t.size := by omega
      have hres : R = .tuple #[.int .i64 ((valD q : Int) - 1), .bool (!q.isEmpty)] := by
        have ha := HA.out
        rw [HSZ.out, List.take_length] at ha
        rw [HR.out]; unfold colV; rw [if_pos ha]
      have htk : q.take t.size = q := by rw [HSZ.out, List.take_length]
      rw [htk]
      have hvl := valD_le q
      have HRES := Lib.hid hres
      clear hres htk HA
      go_wp2_with fail
      go_ret2
      exact ⟨by rw [HRES.out]; rfl, hgr⟩
end Go.Proofs.YtjdmobildcgidaaDoor
