/-
  Keys with texts: Get and one of the document, walked.
-/
import Derived.Test.YtdfohcnejdhkiaaDoorZUdL
import Derived.Test.YtdfohcnejdhkiaaDoorZMcE
namespace Go.Proofs.YtdfohcnejdhkiaaDoor
set_option linter.unusedSimpArgs false
set_option linter.unusedVariables false
open Go.RowKit
set_option linter.unusedVariables false

theorem scan_at {q : List UInt8} {k : Nat} (h : (q.take k).all isDg = true) (hk : k = q.length ∨ ∃ c, q[k]? = some c ∧ isDg c = false) : q.takeWhile isDg = q.take k ∧ q.dropWhile isDg = q.drop k := by
  have key : ∀ (a b : List UInt8), a.all isDg = true → (b = [] ∨ ∃ c r, b = c :: r ∧ isDg c = false) → (a ++ b).takeWhile isDg = a ∧ (a ++ b).dropWhile isDg = b := by
    intro a b ha hb
    induction a with
    | nil =>
      rcases hb with rfl | ⟨c, r, rfl, hc⟩
      · simp
      · simp [hc]
    | cons x a ih =>
      simp only [List.all_cons, Bool.and_eq_true] at ha
      obtain ⟨i1, i2⟩ := ih ha.2
      rw [List.cons_append, List.takeWhile_cons, List.dropWhile_cons, if_pos ha.1, if_pos ha.1, i1, i2]
      exact ⟨rfl, rfl⟩
  have := key (q.take k) (q.drop k) h (by
    rcases hk with rfl | ⟨c, hc, hd⟩
    · left; simp
    · right
      obtain ⟨hi, hx⟩ := List.getElem?_eq_some_iff.1 hc
      exact ⟨c, q.drop (k + 1), by rw [← hx, List.getElem_cons_drop], hd⟩)
  rw [List.take_append_drop] at this
  exact this
/-- What one leaves. -/
def OneTo (w : World) (v : Value) (r : Option Ds) (e : Ending) (w' : World) : Prop := ∃ v', e = .returned (.tuple #[v', .bool r.isSome]) ∧ (∀ l', r = some l' → DL w' v' l') ∧ (r = none → v' = v) ∧ Gr w w'
theorem rkeyA (m : Nat) (c : UInt8) (h : 48 ≤ c.toNat) : (10 * (m : Int) + ((c.toNat : Int) - 48)) = ((m * 10 + (c.toNat - 48) : Nat) : Int) := by omega
set_option maxRecDepth 100000 in
set_option maxHeartbeats 2000000 in
theorem rone_any {v : Value} {l : Ds} (q : List UInt8) (w : World) (h : DL w v l) (hn : l.length ≤ 1000) (hl : q.length ≤ 1000000) : Calls Tryd.prog 35 #[v, .string (bsl q)] w (OneTo w v (oneD l q)) := by
  by_cases hq0 : q = []
  · subst hq0
    have he : (bsl ([] : List UInt8)).toList.isEmpty = true := bslE
    have hres : oneD l [] = some l := by simp [oneD]
    rw [hres]
    clear hres
    go_enter Tryd.func35, Tryd.ntmps35
    go_wp2_with fail
    go_ret2
    refine ⟨_, rfl, ?_, ?_, Gr.refl _⟩
    · intro l' h'; injection h' with h'; rw [← h']; exact h
    · intro h'; cases h'
  have he : (bsl q).toList.isEmpty = false := bslN hq0
  obtain ⟨R, hR⟩ : ∃ R, R = oneD l q := ⟨_, rfl⟩
  rw [← hR]
  have hR2 : R = match scanP q with | none => none | some (n, b) => (hexR b).map fun t => putR n t (decide (t = [])) l := by rw [hR]; unfold oneD; rw [if_neg hq0]; rfl
  have HR := Lib.hid hR2
  clear hR hR2
  have hg0 := fun (x : Nat) (h : x < (bsl q).size) => bsl_get (l := q) h
  have hsz := bsl_size q
  have hfr : ∀ (k : Nat) (W : World), k ≤ q.length → Calls Tryd.prog 42 #[.string ((bsl q).extract k (bsl q).size)] W fun e w' => e = .returned (.tuple #[.string (bsl (docR (q.drop k)).1), .bool (docR (q.drop k)).2]) ∧ Gr W w' := by
    intro k W hk
    rw [bsl_extract, bsl_size, List.take_of_length_le (by simp)]
    exact rfromHex_any _ _ (by simp; omega)
  obtain ⟨t, ht⟩ : ∃ t, t = bsl q := ⟨_, rfl⟩
  rw [← ht] at he hfr ⊢
  have hg1 : ∀ (x : Nat) (h : x < t.size) (h' : x < q.length), t[x]'h = q[x]'h' := by subst ht; exact fun x h _ => hg0 x h
  have HG := Lib.hid hg1
  have HFR := Lib.hid hfr
  clear hg1 hfr
  rw [← ht] at hsz
  have hszb : t.size ≤ 1000000 := by omega
  have HSZ := Lib.hid hsz
  have HH := Lib.hid h
  clear hsz ht hg0 h
  go_enter Tryd.func35, Tryd.ntmps35
  go_wp2_with fail
  go_loopw [6, 7] (fun nv iv wr => ∃ k : Nat, iv = .int .i64 (k : Int) ∧ k ≤ t.size ∧ nv = .int .i64 (valK 1000 (q.take k) : Nat) ∧ Hid ((q.take k).all isDg = true) ∧ wr = w) (fun _ iv _ => t.size - (intOf iv).toNat)
  case atStart => exact ⟨0, rfl, Nat.zero_le _, by simp [valK], Lib.hid (by simp), rfl⟩
  case round =>
    obtain ⟨k, rfl, hk, rfl, HA, rfl⟩ := hrel
    have hk0 : (0 : Int) ≤ (k : Int) := by omega
    obtain ⟨m, hm⟩ : ∃ m, m = valK 1000 (q.take k) := ⟨_, rfl⟩
    have hml : m ≤ 1000 := by rw [hm]; exact valK_le _ _
    rw [← hm]
    by_cases hlt : k < t.size
    · have hki : (k : Int) < (t.size : Int) := by omega
      have hkq : k < q.length := by have := HSZ.out; omega
      have hg := HG.out k hlt hkq
      obtain ⟨c, hc⟩ : ∃ c, c = q[k] := ⟨_, rfl⟩
      rw [← hc] at hg
      have hcq : q[k]? = some c := by rw [hc]; exact List.getElem?_eq_getElem hkq
      have hcl := c.toNat_lt
      by_cases hd : 48 ≤ c.toNat ∧ c.toNat ≤ 57
      · have hisd : isDg c = true := by unfold isDg; simp [hd.1, hd.2]
        have htk : q.take (k + 1) = q.take k ++ [c] := by rw [List.take_succ_eq_append_getElem hkq, hc]
        have hv : valK 1000 (q.take (k + 1)) = min (m * 10 + (c.toNat - 48)) 1000 := by rw [htk, valK_snoc, hm]
        have hall : (q.take (k + 1)).all isDg = true := by rw [htk, List.all_append, HA.out]; simp [hisd]
        have h1 : (48 : Int) ≤ (c.toNat : Int) := by omega
        have h2 : (c.toNat : Int) ≤ 57 := by omega
        have h1' : 48 ≤ c.toNat := hd.1
        have h2' : c.toNat ≤ 57 := hd.2
        have hA := rkeyA m c hd.1
        obtain ⟨x, hx⟩ : ∃ x, x = m * 10 + (c.toNat - 48) := ⟨_, rfl⟩
        rw [← hx] at hv hA
        have hxl : x ≤ 10009 := by omega
        have e1 : IntKind.i64.wrap (10 * (m : Int)) = 10 * (m : Int) := IntWalk.i64_in _ (by omega)
        have e2 : IntKind.u8.wrap ((c.toNat : Int) - 48) = (c.toNat : Int) - 48 := u8_small _ (by omega) (by omega)
        have e3 : IntKind.i64.wrap ((c.toNat : Int) - 48) = (c.toNat : Int) - 48 := IntWalk.i64_in _ (by omega)
        have e4 : IntKind.i64.wrap (10 * (m : Int) + ((c.toNat : Int) - 48)) = (x : Int) := by rw [hA]; exact IntWalk.i64_in _ (by omega)
        have HV := Lib.hid hv
        have HALL := Lib.hid hall
        clear hd hisd hall hv hx hA htk hcq hm hc
        by_cases h1000 : 1000 < x
        · have h1000i : (1000 : Int) < (x : Int) := by omega
          have H1 := Lib.hid h1000
          clear h1000
          go_wp2_with fail
          go_roundw
          case rel => exact ⟨k + 1, by go_num, by omega, by rw [HV.out, Nat.min_eq_right (by have := H1.out; omega)]; rfl, HALL, by first | rfl | trivial⟩
          case measure => simp [intOf]; omega
        · have h1000i : ¬ (1000 : Int) < (x : Int) := by omega
          have H1 := Lib.hid h1000
          clear h1000
          go_wp2_with fail
          go_roundw
          case rel => exact ⟨k + 1, by go_num, by omega, by rw [HV.out, Nat.min_eq_left (by have := H1.out; omega)], HALL, by first | rfl | trivial⟩
          case measure => simp [intOf]; omega
      · have hisd : isDg c = false := by unfold isDg; rw [Bool.and_eq_false_iff]; simp only [decide_eq_false_iff_not]; omega
        obtain ⟨s1, s2⟩ := scan_at HA.out (.inr ⟨c, hcq, hisd⟩)
        have hdk : q.drop k = c :: q.drop (k + 1) := by rw [hc, List.getElem_cons_drop]
        have hsc : scanP q = if c = 47 ∧ isK m = true then some (m, q.drop (k + 1)) else none := by
          unfold scanP
          rw [s2, hdk, s1, ← hm]
        have hnd : ((decide ((48 : Int) ≤ (c.toNat : Int))) && (decide ((c.toNat : Int) ≤ 57))) = false := by rw [Bool.and_eq_false_iff]; simp only [decide_eq_false_iff_not]; omega
        have hnk : ((k : Int) == (t.size : Int)) = false := by simp; omega
        have hke : ¬ (k : Int) = (t.size : Int) := by omega
        have hR1 : R = match (if c = 47 ∧ isK m = true then some (m, q.drop (k + 1)) else none) with | none => none | some (n, b) => (hexR b).map fun t => putR n t (decide (t = [])) l := by rw [HR.out, hsc]
        have hcint : (c.toNat : Int) = 47 ↔ c = 47 := by
          constructor
          · intro e
            have : c.toNat = 47 := by omega
            exact UInt8.toNat_inj.1 this
          · rintro rfl; rfl
        obtain ⟨a, cc, rfl⟩ := HH.out.form
        by_cases hc47 : c = 47
        · have hci : ((c.toNat : Int) != 47) = false := by simp [hcint.2 hc47]
          have hci2 : (c.toNat : Int) = 47 := hcint.2 hc47
          by_cases hkk : isK m = true
          · rw [if_pos ⟨hc47, hkk⟩] at hR1
            have hris := ris_any (m : Int) wr
            rw [isZ_nat, hkk] at hris
            have e5 : IntKind.i64.wrap ((k : Int) + 1) = (k : Int) + 1 := IntWalk.i64_in _ (by omega)
            have hfr := fun W => HFR.out (k + 1) W (by omega)
            have HR1 := Lib.hid hR1
            clear hR1 hsc s1 s2 hdk hisd hnd hm hc hcq hcint hc47 HA hd
            rcases hh : hexR (q.drop (k + 1)) with _ | o
            · rw [docR_none hh] at hfr
              have hres : R = none := by rw [HR1.out]; show (hexR (q.drop (k + 1))).map _ = _; rw [hh]; rfl
              subst hres
              clear hh
              go_wp2_with (first
                | (go_at_call 18; (with_reducible refine hris.mono ?_); rintro e w1 ⟨rfl, rfl⟩)
                | (go_at_call 42; (with_reducible refine (hfr _).mono ?_); rintro e w2 ⟨rfl, hg2⟩))
              go_ret2
              refine ⟨_, rfl, ?_, ?_, by (repeat (first | with_reducible exact Gr.refl _ | with_reducible assumption | with_reducible refine Gr.setCell ?_ (by simp; try omega) _ | with_reducible refine Gr.alloc ?_ _ | with_reducible refine Gr.drew ?_ | with_reducible refine Gr.drewN ?_ _ | with_reducible refine Gr.trans ?_ (by assumption)))⟩
              · intro l' h'; cases h'
              · intro _; rfl
            · rw [docR_some hh] at hfr
              have hres : R = some (putR m o (decide (o = [])) l) := by rw [HR1.out]; show (hexR (q.drop (k + 1))).map _ = _; rw [hh]; rfl
              subst hres
              have hput := fun (W : World) (hg : Gr wr W) => put_any m o W (HH.out.gr hg) hn hml
              clear hh
              go_wp2_with (first
                | (go_at_call 18; (with_reducible refine hris.mono ?_); rintro e w1 ⟨rfl, rfl⟩)
                | (go_at_call 42; (with_reducible refine (hfr _).mono ?_); rintro e w2 ⟨rfl, hg2⟩)
                | (go_at_call 43; (with_reducible refine (hput _ hg2).mono ?_); rintro e w3 ⟨v3, rfl, hD3, hg3⟩))
              go_ret2
              refine ⟨_, rfl, ?_, ?_, by (repeat (first | with_reducible exact Gr.refl _ | with_reducible assumption | with_reducible refine Gr.setCell ?_ (by simp; try omega) _ | with_reducible refine Gr.alloc ?_ _ | with_reducible refine Gr.drew ?_ | with_reducible refine Gr.drewN ?_ _ | with_reducible refine Gr.trans ?_ (by assumption)))⟩
              · intro l' h'; injection h' with h'; rw [← h']; exact hD3
              · intro h'; cases h'
          · rw [if_neg (fun h => hkk h.2)] at hR1
            have hris := ris_any (m : Int) wr
            rw [isZ_nat, Bool.eq_false_iff.2 hkk] at hris
            subst hR1
            clear hsc s1 s2 hdk hisd hnd hm hc hcq hcint hc47 HA hd hkk
            go_wp2_with (go_at_call 18; (with_reducible refine hris.mono ?_); rintro e w1 ⟨rfl, rfl⟩)
            go_ret2
            refine ⟨_, rfl, ?_, ?_, Gr.refl _⟩
            · intro l' h'; cases h'
            · intro _; rfl
        · have hci : ((c.toNat : Int) != 47) = true := by
            simp only [bne_iff_ne]
            exact fun e => hc47 (hcint.1 e)
          have hci2 : ¬ (c.toNat : Int) = 47 := fun e => hc47 (hcint.1 e)
          rw [if_neg (fun h => hc47 h.1)] at hR1
          subst hR1
          clear hsc s1 s2 hdk hisd hm hc hcq hcint hc47 HA
          by_cases h48 : 48 ≤ c.toNat
          · have h48i : (48 : Int) ≤ (c.toNat : Int) := by omega
            have h57 : ¬ c.toNat ≤ 57 := by omega
            have h57i : ¬ (c.toNat : Int) ≤ 57 := by omega
            clear hnd hd
            go_wp2_with fail
            go_ret2
            refine ⟨_, rfl, ?_, ?_, Gr.refl _⟩
            · intro l' h'; cases h'
            · intro _; rfl
          · have h48i : ¬ (48 : Int) ≤ (c.toNat : Int) := by omega
            clear hnd hd
            go_wp2_with fail
            go_ret2
            refine ⟨_, rfl, ?_, ?_, Gr.refl _⟩
            · intro l' h'; cases h'
            · intro _; rfl
    · obtain rfl : k = t.size := by omega
      have hki : ¬ (t.size : Int) < (t.size : Int) := by omega
      obtain ⟨s1, s2⟩ := scan_at HA.out (.inl HSZ.out)
      have hres : R = none := by
        rw [HR.out]
        have : scanP q = none := by unfold scanP; rw [s2, HSZ.out, List.drop_length]
        rw [this]
      subst hres
      clear s1 s2 hm HA
      obtain ⟨a, cc, rfl⟩ := HH.out.form
      go_wp2_with fail
      go_ret2
      refine ⟨_, rfl, ?_, ?_, Gr.refl _⟩
      · intro l' h'; cases h'
      · intro _; rfl
end Go.Proofs.YtdfohcnejdhkiaaDoor
