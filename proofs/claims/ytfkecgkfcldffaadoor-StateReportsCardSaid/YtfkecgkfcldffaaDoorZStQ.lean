/-
  The law StateReports (gen_stq.py).
-/
import Derived.Test.YtfkecgkfcldffaaDoorZStP
import Derived.Test.YtfkecgkfcldffaaDoorZStM
import Derived.Test.YtfkecgkfcldffaaDoorZStH
namespace Go.Proofs.YtfkecgkfcldffaaDoor
set_option linter.unusedSimpArgs false
set_option linter.unusedVariables false
open Go.ChangeShapes Go.WideShapes Go.RowKit
set_option linter.unusedVariables false

theorem inner_of {pb pr T l b r : Int} (h : 0 ≤ T ∧ T < b ∧ b ≤ max 0 (max 1 pb) ∧ 0 ≤ l ∧ l < r ∧ r ≤ max 0 (max 1 pr)) : innerZ pb pr T l b r = (T, l, b, r) := by
  obtain ⟨h1, h2, h3, h4, h5, h6⟩ := h
  have e1 : max 0 T = T := by omega
  have e2 : max 0 l = l := by omega
  have e3 : min (max 0 (max 1 pb)) b = b := by omega
  have e4 : min (max 0 (max 1 pr)) r = r := by omega
  have k1 : emptyZ 0 0 (max 0 (max 1 pb)) (max 0 (max 1 pr)) = false := by unfold emptyZ; simp; omega
  have k2 : emptyZ T l b r = false := by unfold emptyZ; simp; omega
  have hm : meetZ 0 0 (max 0 (max 1 pb)) (max 0 (max 1 pr)) T l b r = (T, l, b, r) := by
    unfold meetZ
    rw [e1, e2, e3, e4, k1, k2]
    rfl
  unfold innerZ
  rw [hm]
  simp only [k2, Bool.false_eq_true, if_false]
theorem inner_facts (pb pr mt ml mb mr : Int) : 0 ≤ (innerZ pb pr mt ml mb mr).1 ∧ (innerZ pb pr mt ml mb mr).1 < (innerZ pb pr mt ml mb mr).2.2.1 ∧ (innerZ pb pr mt ml mb mr).2.2.1 ≤ max 0 (max 1 pb) ∧ 0 ≤ (innerZ pb pr mt ml mb mr).2.1 ∧ (innerZ pb pr mt ml mb mr).2.1 < (innerZ pb pr mt ml mb mr).2.2.2 ∧ (innerZ pb pr mt ml mb mr).2.2.2 ≤ max 0 (max 1 pr) := by
  unfold innerZ
  split
  · unfold wholeZ; simp only; omega
  · rename_i h
    have hm : ∀ m : Int × Int × Int × Int, m = meetZ 0 0 (max 0 (max 1 pb)) (max 0 (max 1 pr)) mt ml mb mr → emptyZ m.1 m.2.1 m.2.2.1 m.2.2.2 = false → 0 ≤ m.1 ∧ m.1 < m.2.2.1 ∧ m.2.2.1 ≤ max 0 (max 1 pb) ∧ 0 ≤ m.2.1 ∧ m.2.1 < m.2.2.2 ∧ m.2.2.2 ≤ max 0 (max 1 pr) := by
      intro m hm he
      have hq := empty_f he
      unfold meetZ at hm
      split at hm
      · subst hm; simp only at hq; omega
      · subst hm; simp only at hq ⊢; omega
    exact hm _ rfl (by simpa using h)
theorem clamp_idem {B R row col : Int} (hB : 1 ≤ B) (hR : 1 ≤ R) : clampZ 0 0 B R (clampZ 0 0 B R row col).1 (clampZ 0 0 B R row col).2 = clampZ 0 0 B R row col := by
  have k1 : emptyZ 0 0 B R = false := by unfold emptyZ; simp; omega
  unfold clampZ
  rw [k1]
  simp only [Bool.false_eq_true, if_false]
  unfold clipZ
  simp only [Prod.mk.injEq]
  constructor <;> omega
theorem uL_idem (x : Int) : uL (uL x) = uL x := by
  unfold uL selI between
  by_cases h : 0 ≤ x ∧ x ≤ 3
  · simp [h]
  · have h2 : (decide (0 ≤ x) && decide (x ≤ 3)) = false := by simp; omega
    rw [h2]; rfl
theorem uR_idem (x : Int) : uR (uR x) = uR x := by
  unfold uR selI between
  by_cases h : 0 ≤ x ∧ x ≤ 3
  · simp [h]
  · have h2 : (decide (0 ≤ x) && decide (x ≤ 3)) = false := by simp; omega
    rw [h2]; rfl
theorem clipz_idem (x a b : Int) (h : a ≤ b) : clipZ (clipZ x a b) a b = clipZ x a b := by unfold clipZ; omega
theorem Cor.clean_clean (c : Cor) : c.clean.clean = c.clean := by
  have hf := inner_facts c.pb c.pr c.mt c.ml c.mb c.mr
  have hi := inner_of (pb := max 0 (max 1 c.pb)) (pr := max 0 (max 1 c.pr)) (T := (innerZ c.pb c.pr c.mt c.ml c.mb c.mr).1) (l := (innerZ c.pb c.pr c.mt c.ml c.mb c.mr).2.1) (b := (innerZ c.pb c.pr c.mt c.ml c.mb c.mr).2.2.1) (r := (innerZ c.pb c.pr c.mt c.ml c.mb c.mr).2.2.2) (by omega)
  have hc := clamp_idem (B := max 0 (max 1 c.pb)) (R := max 0 (max 1 c.pr)) (row := c.row) (col := c.col) (by omega) (by omega)
  have eB : max 0 (max 1 (max 0 (max 1 c.pb))) = max 0 (max 1 c.pb) := by omega
  have eR : max 0 (max 1 (max 0 (max 1 c.pr))) = max 0 (max 1 c.pr) := by omega
  have h16 := clipz_idem c.pages 1 16 (by decide)
  have hcin := clipz_in c.pages 1 16 (by decide)
  have hpg := clipz_idem c.page 0 (clipZ c.pages 1 16 - 1) (by omega)
  have hsg : (bif ((bif (c.sg == 3 || c.sg == 2) then c.sg else 0) == 3 || (bif (c.sg == 3 || c.sg == 2) then c.sg else 0) == 2) then (bif (c.sg == 3 || c.sg == 2) then c.sg else 0) else 0) = (bif (c.sg == 3 || c.sg == 2) then c.sg else 0) := by
    cases h : (c.sg == 3 || c.sg == 2)
    · rfl
    · simp only [cond_true]; rw [h]; rfl
  have hr : c.rend % 32 % 32 = c.rend % 32 := by omega
  have hmo : c.modes % 131072 % 131072 = c.modes % 131072 := by omega
  unfold Cor.clean
  simp only [wholeZ, eB, eR, hc, hi, hr, hmo, uL_idem, uR_idem, hsg, clipz_idem _ 1 5 (by decide), clipz_idem _ 0 2 (by decide), h16, hpg]
/-- The program's check is the document's. -/
theorem prs_agree (c : Cor) (x0 x1 x2 x3 x4 x5 x6 x7 x8 x9 x10 x11 : Int) (hb : In16 x0 ∧ In16 x1 ∧ In16 x2 ∧ In16 x3 ∧ In16 x4 ∧ In16 x5 ∧ In16 x6 ∧ In16 x7 ∧ In16 x8 ∧ In16 x9 ∧ In16 x10 ∧ In16 x11) :
    (okL c.clean.pb c.clean.pr x0 x1 x2 x3 x4 x5 x6 x7 x8 x9 x10 x11 = true → (rcor c x0 x1 x2 x3 x4 x5 x6 x7 x8 x9 x10 x11).clean = dcor c x0 x1 x2 x3 x4 x5 x6 x7 x8 x9 x10 x11 ∧ (rcor c x0 x1 x2 x3 x4 x5 x6 x7 x8 x9 x10 x11).clean.clean.nums = [x0, x1, x2, x3, x4, x5, x6, x7, x8, x9, x10, x11]) ∧ ((rcor c x0 x1 x2 x3 x4 x5 x6 x7 x8 x9 x10 x11).clean.clean.nums = [x0, x1, x2, x3, x4, x5, x6, x7, x8, x9, x10, x11] → okL c.clean.pb c.clean.pr x0 x1 x2 x3 x4 x5 x6 x7 x8 x9 x10 x11 = true) := by
  obtain ⟨h0, h1, h2, h3, h4, h5, h6, h7, h8, h9, h10, h11⟩ := hb
  unfold In16 at *
  rw [Cor.clean_clean]
  have eB : max 0 (max 1 c.clean.pb) = c.clean.pb := by show max 0 (max 1 (max 0 (max 1 c.pb))) = max 0 (max 1 c.pb); omega
  have eR : max 0 (max 1 c.clean.pr) = c.clean.pr := by show max 0 (max 1 (max 0 (max 1 c.pr))) = max 0 (max 1 c.pr); omega
  have f1 : ∀ x : Int, 0 ≤ x → (flagZ (!(x == 0)) = x ↔ x < 2) := by
    intro x hx
    cases h : (x == 0) with
    | true => have : x = 0 := by simpa using h
              subst this; decide
    | false => have : x ≠ 0 := by simpa using h
               show (1 : Int) = x ↔ x < 2; omega
  have f2 : ∀ x : Int, 0 ≤ x → x < 2 → (!(x == 0)) = (x == 1) := by
    intro x h0 h1
    have : x = 0 ∨ x = 1 := by omega
    rcases this with rfl | rfl <;> rfl
  have hn : (rcor c x0 x1 x2 x3 x4 x5 x6 x7 x8 x9 x10 x11).clean.nums = [clipZ x0 1 5, flagZ (!(x1 == 0)), (x2 * 4096 + x3) % 131072 / 4096, (x2 * 4096 + x3) % 131072 % 4096, flagZ (!(x4 == 0)), clipZ x5 0 2, flagZ (!(x6 == 0)), (innerZ c.clean.pb c.clean.pr x7 x8 x9 x10).1, (innerZ c.clean.pb c.clean.pr x7 x8 x9 x10).2.1, (innerZ c.clean.pb c.clean.pr x7 x8 x9 x10).2.2.1, (innerZ c.clean.pb c.clean.pr x7 x8 x9 x10).2.2.2, flagZ (!(x11 == 0))] := rfl
  constructor
  · intro hk
    unfold okL at hk
    simp only [Bool.and_eq_true, decide_eq_true_eq] at hk
    obtain ⟨⟨⟨⟨⟨⟨⟨⟨⟨⟨⟨⟨k1, k2⟩, k3⟩, k4⟩, k5⟩, k6⟩, k7⟩, k8⟩, k9⟩, k10⟩, k11⟩, k12⟩, k13⟩ := hk
    have hi := inner_of (pb := c.clean.pb) (pr := c.clean.pr) (T := x7) (l := x8) (b := x9) (r := x10) (by rw [eB, eR]; omega)
    constructor
    · have cc := Cor.clean_clean c
      have e0 : clipZ x0 1 5 = x0 := by unfold clipZ; omega
      have e5 : clipZ x5 0 2 = x5 := by unfold clipZ; omega
      have em : (x2 * 4096 + x3) % 131072 = 4096 * x2 + x3 := by omega
      have hcl : (rcor c x0 x1 x2 x3 x4 x5 x6 x7 x8 x9 x10 x11).clean = { c.clean.clean with level := clipZ x0 1 5, eight := !(x1 == 0), modes := (x2 * 4096 + x3) % 131072, stream := !(x4 == 0), status := clipZ x5 0 2, below := !(x6 == 0), mt := (innerZ c.clean.pb c.clean.pr x7 x8 x9 x10).1, ml := (innerZ c.clean.pb c.clean.pr x7 x8 x9 x10).2.1, mb := (innerZ c.clean.pb c.clean.pr x7 x8 x9 x10).2.2.1, mr := (innerZ c.clean.pb c.clean.pr x7 x8 x9 x10).2.2.2, origin := !(x11 == 0) } := rfl
      rw [hcl, cc, hi, e0, e5, em, f2 x1 h1.1 k1, f2 x4 h4.1 k2, f2 x6 h6.1 k3, f2 x11 h11.1 k4]
      rfl
    · rw [hn, hi, (f1 x1 h1.1).2 k1, (f1 x4 h4.1).2 k2, (f1 x6 h6.1).2 k3, (f1 x11 h11.1).2 k4]
      have e0 : clipZ x0 1 5 = x0 := by unfold clipZ; omega
      have e5 : clipZ x5 0 2 = x5 := by unfold clipZ; omega
      have e2 : (x2 * 4096 + x3) % 131072 / 4096 = x2 := by omega
      have e3 : (x2 * 4096 + x3) % 131072 % 4096 = x3 := by omega
      rw [e0, e5, e2, e3]
  · intro hk
    rw [hn] at hk
    simp only [List.cons.injEq, and_true] at hk
    obtain ⟨k0, k1, k2, k3, k4, k5, k6, k7, k8, k9, k10, k11⟩ := hk
    have hf := inner_facts c.clean.pb c.clean.pr x7 x8 x9 x10
    rw [k7, k8, k9, k10, eB, eR] at hf
    have g1 := (f1 x1 h1.1).1 k1
    have g4 := (f1 x4 h4.1).1 k4
    have g6 := (f1 x6 h6.1).1 k6
    have g11 := (f1 x11 h11.1).1 k11
    have c0 := clipz_in x0 1 5 (by decide)
    have c5 := clipz_in x5 0 2 (by decide)
    unfold okL
    simp only [Bool.and_eq_true, decide_eq_true_eq]
    omega
/-- What a text brings back: the state, and whether it did. -/
def resP (c : Cor) (l : List Int) : Cor × Bool :=
  if l.all isAcc = true then
    match numsR l with
    | [x0, x1, x2, x3, x4, x5, x6, x7, x8, x9, x10, x11] => if okL c.clean.pb c.clean.pr x0 x1 x2 x3 x4 x5 x6 x7 x8 x9 x10 x11 = true then (dcor c x0 x1 x2 x3 x4 x5 x6 x7 x8 x9 x10 x11, true) else (c.clean, false)
    | _ => (c.clean, false)
  else (c.clean, false)
def resC (c : Cor) (l : List Int) : Cor := (resP c l).1
def resK (c : Cor) (l : List Int) : Bool := (resP c l).2
def errK (b : Bool) : Int := bif b then 0 else 3
theorem res_bad {c : Cor} {l : List Int} (h : l.all isAcc = false) : resC c l = c.clean ∧ resK c l = false := by
  unfold resC resK resP; rw [h]; exact ⟨rfl, rfl⟩
theorem res_len {c : Cor} {l : List Int} (h : l.all isAcc = true) (hx : (numsR l).length ≠ 12) : resC c l = c.clean ∧ resK c l = false := by
  unfold resC resK resP
  rw [if_pos h]
  split
  · rename_i he; rw [he] at hx; exact absurd rfl hx
  · exact ⟨rfl, rfl⟩
theorem res_12 {c : Cor} {l : List Int} (x0 x1 x2 x3 x4 x5 x6 x7 x8 x9 x10 x11 : Int) (h : l.all isAcc = true) (hx : numsR l = [x0, x1, x2, x3, x4, x5, x6, x7, x8, x9, x10, x11]) : resC c l = (if okL c.clean.pb c.clean.pr x0 x1 x2 x3 x4 x5 x6 x7 x8 x9 x10 x11 = true then dcor c x0 x1 x2 x3 x4 x5 x6 x7 x8 x9 x10 x11 else c.clean) ∧ resK c l = okL c.clean.pb c.clean.pr x0 x1 x2 x3 x4 x5 x6 x7 x8 x9 x10 x11 := by
  unfold resC resK resP
  rw [if_pos h, hx]
  simp only
  cases okL c.clean.pb c.clean.pr x0 x1 x2 x3 x4 x5 x6 x7 x8 x9 x10 x11 <;> exact ⟨rfl, rfl⟩
theorem acc_in : ∀ (l : List Int) (s : PS), (∀ x ∈ s.done, In16 x) → In16 s.now → l.all isAcc = true → (∀ x ∈ (l.foldl accByte s).done, In16 x) ∧ In16 (l.foldl accByte s).now
  | [], s, h1, h2, _ => ⟨h1, h2⟩
  | c :: l, s, h1, h2, h3 => by
    rw [List.all_cons, Bool.and_eq_true] at h3
    rw [List.foldl_cons]
    have hc := h3.1
    refine acc_in l _ ?_ ?_ h3.2
    · unfold accByte
      split
      · simp only
        split
        · intro x hx
          rcases List.mem_append.1 hx with hx | hx
          · exact h1 x hx
          · simp at hx; subst hx; exact h2
        · exact h1
      · exact h1
    · unfold accByte
      split
      · exact ⟨by simp, by simp⟩
      · rename_i hne
        unfold isAcc at hc
        simp [hne] at hc
        unfold In16 at h2 ⊢
        simp only
        omega
theorem nums_in16 {l : List Int} (h : l.all isAcc = true) : ∀ x ∈ numsR l, In16 x := by
  have h1 := acc_in l PS.init (by simp [PS.init]) ⟨by decide, by decide⟩ h
  rw [← acc_nums l PS.init rfl rfl rfl]
  unfold accList
  split
  · intro x hx
    rcases List.mem_append.1 hx with hx | hx
    · exact h1.1 x hx
    · simp at hx; subst hx; exact h1.2
  · exact h1.1
theorem in16_all {l : List Int} {x0 x1 x2 x3 x4 x5 x6 x7 x8 x9 x10 x11 : Int} (h : l.all isAcc = true) (hx : numsR l = [x0, x1, x2, x3, x4, x5, x6, x7, x8, x9, x10, x11]) : In16 x0 ∧ In16 x1 ∧ In16 x2 ∧ In16 x3 ∧ In16 x4 ∧ In16 x5 ∧ In16 x6 ∧ In16 x7 ∧ In16 x8 ∧ In16 x9 ∧ In16 x10 ∧ In16 x11 := by
  have := nums_in16 h
  rw [hx] at this
  simp only [List.forall_mem_cons, List.not_mem_nil, false_implies, implies_true, and_true] at this
  exact this
theorem srst_any (c : Cor) (l : List Int) (w : World) (hok : c.Ok) (hl : ∀ c ∈ l, 0 ≤ c ∧ c < 256) (hn : l.length ≤ 300) : Calls Tryd.prog 18 #[.agg (cvA c), .string (strOf l)] w fun e w' => e = .returned (.tuple #[.agg (cvA (resC c l)), .int .i64 (errK (resK c l))]) ∧ Gr w w' := by
  cases ha : l.all isAcc with
  | false => obtain ⟨e1, e2⟩ := res_bad (c := c) ha; rw [e1, e2]; exact prs_bad c l w hok hl hn ha
  | true =>
    by_cases hx : (numsR l).length = 12
    · obtain ⟨x0, x1, x2, x3, x4, x5, x6, x7, x8, x9, x10, x11, hx⟩ := isL hx
      have hb := in16_all ha hx
      obtain ⟨e1, e2⟩ := res_12 (c := c) x0 x1 x2 x3 x4 x5 x6 x7 x8 x9 x10 x11 ha hx
      obtain ⟨k1, k2⟩ := prs_agree c x0 x1 x2 x3 x4 x5 x6 x7 x8 x9 x10 x11 hb
      rw [e1, e2]
      have hw := prs_12 c l w hok hl hn x0 x1 x2 x3 x4 x5 x6 x7 x8 x9 x10 x11 ha hx hb
      cases hk : okL c.clean.pb c.clean.pr x0 x1 x2 x3 x4 x5 x6 x7 x8 x9 x10 x11 with
      | true =>
        obtain ⟨q1, q2⟩ := k1 hk
        rw [if_pos rfl, ← q1]
        rw [decide_eq_true q2] at hw
        exact hw
      | false =>
        rw [if_neg (by decide)]
        rw [decide_eq_false fun h => by rw [k2 h] at hk; cases hk] at hw
        exact hw
    · obtain ⟨e1, e2⟩ := res_len (c := c) ha hx; rw [e1, e2]; exact prs_len c l w hok hl hn ha hx
theorem srrst_any (c : Cor) (l : List Int) (w : World) (hok : c.Ok) (hl : ∀ c ∈ l, 0 ≤ c ∧ c < 256) (hn : l.length ≤ 300) : Calls Tryd.prog 19 #[.agg (cdA c), .string (strOf l)] w fun e w' => e = .returned (.tuple #[.agg (cdA (resC c l)), .bool (resK c l)]) ∧ Gr w w' := by
  cases ha : l.all isAcc with
  | false => obtain ⟨e1, e2⟩ := res_bad (c := c) ha; rw [e1, e2]; exact drs_bad c l w hok hl hn ha
  | true =>
    by_cases hx : (numsR l).length = 12
    · obtain ⟨x0, x1, x2, x3, x4, x5, x6, x7, x8, x9, x10, x11, hx⟩ := isL hx
      have hb := in16_all ha hx
      obtain ⟨e1, e2⟩ := res_12 (c := c) x0 x1 x2 x3 x4 x5 x6 x7 x8 x9 x10 x11 ha hx
      rw [e1, e2]
      have := drs_12 c l w hok hl hn x0 x1 x2 x3 x4 x5 x6 x7 x8 x9 x10 x11 ha hx hb
      cases hk : okL c.clean.pb c.clean.pr x0 x1 x2 x3 x4 x5 x6 x7 x8 x9 x10 x11 with
      | true => rw [hk] at this; exact this
      | false => rw [hk] at this; exact this
    · obtain ⟨e1, e2⟩ := res_len (c := c) ha hx; rw [e1, e2]; exact drs_len c l w hok hl hn ha hx
theorem dcor_ok {c : Cor} (h : c.Ok) (x0 x1 x2 x3 x4 x5 x6 x7 x8 x9 x10 x11 : Int) (hb : In16 x0 ∧ In16 x1 ∧ In16 x2 ∧ In16 x3 ∧ In16 x4 ∧ In16 x5 ∧ In16 x6 ∧ In16 x7 ∧ In16 x8 ∧ In16 x9 ∧ In16 x10 ∧ In16 x11) : (dcor c x0 x1 x2 x3 x4 x5 x6 x7 x8 x9 x10 x11).Ok := by
  have k := h.clean
  obtain ⟨h0, h1, h2, h3, h4, h5, h6, h7, h8, h9, h10, h11⟩ := hb
  refine ⟨k.row, k.col, k.rend, k.g, k.gl, k.gr, k.sg, k.p, ⟨i6p h7, i6p h8, i6p h9, i6p h10⟩, ⟨?_, ?_⟩, i6p h0, i6p h5, k.page, k.pages⟩
  · show 0 ≤ 4096 * x2 + x3; unfold In16 at h2 h3; omega
  · show 4096 * x2 + x3 < 4294967296; unfold In16 at h2 h3; omega
theorem res_ok {c : Cor} (h : c.Ok) (l : List Int) : (resC c l).Ok := by
  cases ha : l.all isAcc with
  | false => rw [(res_bad (c := c) ha).1]; exact h.clean
  | true =>
    by_cases hx : (numsR l).length = 12
    · obtain ⟨x0, x1, x2, x3, x4, x5, x6, x7, x8, x9, x10, x11, hx⟩ := isL hx
      rw [(res_12 (c := c) x0 x1 x2 x3 x4 x5 x6 x7 x8 x9 x10 x11 ha hx).1]
      split
      · exact dcor_ok h x0 x1 x2 x3 x4 x5 x6 x7 x8 x9 x10 x11 (in16_all ha hx)
      · exact h.clean
    · rw [(res_len (c := c) ha hx).1]; exact h.clean
abbrev litsC (c : Cor) : List Lit := [.int .i64 c.row, .int .i64 c.col, .int .u8 c.rend, .bool c.kept, .bool c.wrap, .bool c.origin, .int .i64 c.g0, .int .i64 c.g1, .int .i64 c.g2, .int .i64 c.g3, .int .i64 c.gl, .int .i64 c.gr, .int .i64 c.sg, .int .i64 c.pt, .int .i64 c.pl, .int .i64 c.pb, .int .i64 c.pr, .int .i64 c.mt, .int .i64 c.ml, .int .i64 c.mb, .int .i64 c.mr, .int .i64 c.modes, .int .i64 c.level, .bool c.eight, .bool c.stream, .int .i64 c.status, .bool c.below, .int .i64 c.page, .int .i64 c.pages]
theorem err_0 (b : Bool) : (errK b == 0) = b := by cases b <;> rfl
theorem err_3 (b : Bool) : (!(errK b == 3)) = b := by cases b <;> rfl
theorem fmt_b (l : List Int) : ∀ c ∈ fmtGo l, 0 ≤ c ∧ c < 256 := fun c hc => by have := fmtGo_in l c hc; omega
theorem fmt_l (c : Cor) : (fmtGo c.clean.nums).length ≤ 300 := by
  have := fmtGo_len c.clean.nums
  have h2 : c.clean.nums.length = 12 := rfl
  omega
theorem take_b {l : List Int} (h : ∀ c ∈ l, 0 ≤ c ∧ c < 256) (n : Nat) : ∀ c ∈ l.take n, 0 ≤ c ∧ c < 256 := fun c hc => h c (List.mem_of_mem_take hc)
/-- A text, cut. -/
def cutL (l : List Int) : List Int := bif decide (300 < ((l.length : Nat) : Int)) then l.take 300 else l
theorem cut_b {l : List Int} (h : ∀ c ∈ l, 0 ≤ c ∧ c < 256) : ∀ c ∈ cutL l, 0 ≤ c ∧ c < 256 := by
  unfold cutL
  cases decide (300 < ((l.length : Nat) : Int)) with
  | true => exact take_b h 300
  | false => exact h
theorem cut_l (l : List Int) : (cutL l).length ≤ 300 := by
  unfold cutL
  cases hd : decide (300 < ((l.length : Nat) : Int)) with
  | true => rw [cond_true]; simp; omega
  | false => have := of_decide_eq_false hd; rw [cond_false]; omega
theorem nums_small {c : Cor} (hok : c.Ok) (hs : smallZ c = true) : ∀ n ∈ c.clean.nums, 0 ≤ n ∧ n ≤ 65535 := by
  unfold smallZ at hs
  simp only [Bool.and_eq_true, decide_eq_true_eq] at hs
  have hf := inner_facts c.pb c.pr c.mt c.ml c.mb c.mr
  have e1 : c.clean.mt = (innerZ c.pb c.pr c.mt c.ml c.mb c.mr).1 := rfl
  have e2 : c.clean.ml = (innerZ c.pb c.pr c.mt c.ml c.mb c.mr).2.1 := rfl
  have e3 : c.clean.mb = (innerZ c.pb c.pr c.mt c.ml c.mb c.mr).2.2.1 := rfl
  have e4 : c.clean.mr = (innerZ c.pb c.pr c.mt c.ml c.mb c.mr).2.2.2 := rfl
  exact nums_in hok.clean (by omega) (by omega)
theorem run_neq_op {P : Program} {e : Nat → Value} {w : World} {o : Oper} {t t' : TypeId} {x y : Operand} {xs ys : Array Value} {b : Bool} (ho : o.op = .binOp .neq t x y t') (hx : evE e x = .agg xs) (hy : evE e y = .agg ys) (hg : P.eqGuardType P.depth t = false)
    (hr : (Op.equal t (.agg xs) (.agg ys)).run P w = .ok b w) : (execOp (evE e) o).run P w = .ok (.value (.bool (!b))) w := by
  have hr' : (Op.equalIn 10000 t (.agg xs) (.agg ys)).run P w = .ok b w := hr
  unfold execOp
  have hgd : (eqGuard .neq t x y (.agg xs) (.agg ys)).run P w = .ok () w := run_eqGuard_agg (P := P) (w := w) BinOp.neq t x y xs ys hg
  simp only [ho, hx, hy, Sem.run_bind, hgd, Result.andThen_ok, run_neq_struct, hr', Sem.run_pure]
set_option maxRecDepth 100000 in
set_option maxHeartbeats 8000000 in
theorem reps_no1 (c d : Cor) (l : List Int) (w : World) (hT : tabT w) (hl : ∀ c ∈ l, 0 ≤ c ∧ c < 256) (hbig : l.length ≤ 9223372036854775807) (hsc : smallZ c = false) : Calls Tryd.prog 5 #[.agg (cdA c), .agg (cdA d), .string (strOf l)] w fun e w' => e = .returned (.bool true) ∧ Gr w w' := by
  refine calls_sx (n := 76) (args := [.agg (cdA c), .agg (cdA d), .string (strOf l)]) Tryd.func5 rfl rfl rfl ?_
  have hs0 := SH.none w
  refine CW.seq ?_
  refine CW.region ?_
  refine SL.newH (mk := fun g => .pointer (some ⟨g, 0, none⟩)) (C := (cdA c)) (T := 33) hs0 rfl rfl (by kernel_rfl) (fun g_1 w_2 hs_3 => ?_)
  have hs_3 : SH [] w w_2 [pt g_1 (cdA c) 33] := hs_3
  refine SL.newH (mk := fun g => .pointer (some ⟨g, 0, none⟩)) (C := (cdA d)) (T := 33) hs_3 rfl rfl (by kernel_rfl) (fun g_4 w_5 hs_6 => ?_)
  have hs_6 : SH [] w w_5 [pt g_1 (cdA c) 33, pt g_4 (cdA d) 33] := hs_6
  refine SL.v (.bool false) ?_
  refine SL.nil ?_
  refine CW.seq ?_
  refine CW.seq ?_
  refine CW.region ?_
  refine SL.call (f := 6) (args := #[]) (w1 := w_5) rfl rfl (by kernel_rfl) (awake_19 w_5 (hT.gr hs_6.gr)) ?_
  rintro x w_7 ⟨rfl, hc_8⟩
  refine ⟨.bool true, rfl, ?_⟩
  have hs_9 := hs_6.grow hc_8
  refine SL.v (.bool false) ?_
  refine SL.nil ?_
  refine CW.cond_false (by kernel_rfl) ?_
  refine CW.skip ?_
  refine CW.seq ?_
  refine CW.seq ?_
  refine CW.region ?_
  refine SL.load (g := g_1) (off := 0) (v := .agg (cdA c)) rfl rfl rfl (by kernel_rfl) (hs_9.pt_at (i := 0) rfl) (by kernel_rfl) ?_
  refine SL.call (f := 7) (args := #[.agg (cdA c)]) (w1 := w_7) rfl rfl (by kernel_rfl) (hsc ▸ small_any c w_7) ?_
  rintro x w_10 ⟨rfl, hc_11⟩
  refine ⟨.bool false, rfl, ?_⟩
  have hs_12 := hs_9.grow hc_11
  refine SL.v (.bool true) ?_
  refine SL.v (.bool true) ?_
  refine SL.no true ?_
  refine SL.no true ?_
  refine SL.no true ?_
  refine SL.v (.bool true) ?_
  refine SL.nil ?_
  refine CW.cond_true (by kernel_rfl) ?_
  refine CW.seq ?_
  refine CW.region ?_
  refine SL.v (.bool true) ?_
  refine SL.nil ?_
  refine CW.ret ?_
  repeat with_reducible first | refine PThen.ret ?_ | refine PBlock.ret ?_
  refine PRet.tmp (t := 6) (v := .bool true) rfl rfl (by kernel_rfl) ?_
  exact ⟨rfl, hs_12.gr⟩
set_option maxRecDepth 100000 in
set_option maxHeartbeats 8000000 in
theorem reps_no2 (c d : Cor) (l : List Int) (w : World) (hT : tabT w) (hl : ∀ c ∈ l, 0 ≤ c ∧ c < 256) (hbig : l.length ≤ 9223372036854775807) (hsc : smallZ c = true) (hsd : smallZ d = false) : Calls Tryd.prog 5 #[.agg (cdA c), .agg (cdA d), .string (strOf l)] w fun e w' => e = .returned (.bool true) ∧ Gr w w' := by
  refine calls_sx (n := 76) (args := [.agg (cdA c), .agg (cdA d), .string (strOf l)]) Tryd.func5 rfl rfl rfl ?_
  have hs0 := SH.none w
  refine CW.seq ?_
  refine CW.region ?_
  refine SL.newH (mk := fun g => .pointer (some ⟨g, 0, none⟩)) (C := (cdA c)) (T := 33) hs0 rfl rfl (by kernel_rfl) (fun g_1 w_2 hs_3 => ?_)
  have hs_3 : SH [] w w_2 [pt g_1 (cdA c) 33] := hs_3
  refine SL.newH (mk := fun g => .pointer (some ⟨g, 0, none⟩)) (C := (cdA d)) (T := 33) hs_3 rfl rfl (by kernel_rfl) (fun g_4 w_5 hs_6 => ?_)
  have hs_6 : SH [] w w_5 [pt g_1 (cdA c) 33, pt g_4 (cdA d) 33] := hs_6
  refine SL.v (.bool false) ?_
  refine SL.nil ?_
  refine CW.seq ?_
  refine CW.seq ?_
  refine CW.region ?_
  refine SL.call (f := 6) (args := #[]) (w1 := w_5) rfl rfl (by kernel_rfl) (awake_19 w_5 (hT.gr hs_6.gr)) ?_
  rintro x w_7 ⟨rfl, hc_8⟩
  refine ⟨.bool true, rfl, ?_⟩
  have hs_9 := hs_6.grow hc_8
  refine SL.v (.bool false) ?_
  refine SL.nil ?_
  refine CW.cond_false (by kernel_rfl) ?_
  refine CW.skip ?_
  refine CW.seq ?_
  refine CW.seq ?_
  refine CW.region ?_
  refine SL.load (g := g_1) (off := 0) (v := .agg (cdA c)) rfl rfl rfl (by kernel_rfl) (hs_9.pt_at (i := 0) rfl) (by kernel_rfl) ?_
  refine SL.call (f := 7) (args := #[.agg (cdA c)]) (w1 := w_7) rfl rfl (by kernel_rfl) (hsc ▸ small_any c w_7) ?_
  rintro x w_10 ⟨rfl, hc_11⟩
  refine ⟨.bool true, rfl, ?_⟩
  have hs_12 := hs_9.grow hc_11
  refine SL.v (.bool false) ?_
  refine SL.v (.bool false) ?_
  refine SL.go ?_
  refine SL.load (g := g_4) (off := 0) (v := .agg (cdA d)) rfl rfl rfl (by kernel_rfl) (hs_12.pt_at (i := 1) rfl) (by kernel_rfl) ?_
  refine SL.go ?_
  refine SL.call (f := 7) (args := #[.agg (cdA d)]) (w1 := w_10) rfl rfl (by kernel_rfl) (hsd ▸ small_any d w_10) ?_
  rintro x w_13 ⟨rfl, hc_14⟩
  refine ⟨.bool false, rfl, ?_⟩
  have hs_15 := hs_12.grow hc_14
  refine SL.go ?_
  refine SL.v (.bool true) ?_
  refine SL.v (.bool true) ?_
  refine SL.nil ?_
  refine CW.cond_true (by kernel_rfl) ?_
  refine CW.seq ?_
  refine CW.region ?_
  refine SL.v (.bool true) ?_
  refine SL.nil ?_
  refine CW.ret ?_
  repeat with_reducible first | refine PThen.ret ?_ | refine PBlock.ret ?_
  refine PRet.tmp (t := 6) (v := .bool true) rfl rfl (by kernel_rfl) ?_
  exact ⟨rfl, hs_15.gr⟩
set_option maxRecDepth 100000 in
set_option maxHeartbeats 8000000 in
theorem reps_yes (c d : Cor) (l : List Int) (w : World) (hT : tabT w) (hl : ∀ c ∈ l, 0 ≤ c ∧ c < 256) (hbig : l.length ≤ 9223372036854775807) (hokc : c.Ok) (hokd : d.Ok) (hsc : smallZ c = true) (hsd : smallZ d = true) : Calls Tryd.prog 5 #[.agg (cdA c), .agg (cdA d), .string (strOf l)] w fun e w' => e = .returned (.bool true) ∧ Gr w w' := by
  have hmc := hokc.modes
  have hmd := hokd.modes
  have hnum := nums_small hokc hsc
  refine calls_sx (n := 76) (args := [.agg (cdA c), .agg (cdA d), .string (strOf l)]) Tryd.func5 rfl rfl rfl ?_
  have hs0 := SH.none w
  refine CW.seq ?_
  refine CW.region ?_
  refine SL.newH (mk := fun g => .pointer (some ⟨g, 0, none⟩)) (C := (cdA c)) (T := 33) hs0 rfl rfl (by kernel_rfl) (fun g_1 w_2 hs_3 => ?_)
  have hs_3 : SH [] w w_2 [pt g_1 (cdA c) 33] := hs_3
  refine SL.newH (mk := fun g => .pointer (some ⟨g, 0, none⟩)) (C := (cdA d)) (T := 33) hs_3 rfl rfl (by kernel_rfl) (fun g_4 w_5 hs_6 => ?_)
  have hs_6 : SH [] w w_5 [pt g_1 (cdA c) 33, pt g_4 (cdA d) 33] := hs_6
  refine SL.v (.bool false) ?_
  refine SL.nil ?_
  refine CW.seq ?_
  refine CW.seq ?_
  refine CW.region ?_
  refine SL.call (f := 6) (args := #[]) (w1 := w_5) rfl rfl (by kernel_rfl) (awake_19 w_5 (hT.gr hs_6.gr)) ?_
  rintro x w_7 ⟨rfl, hc_8⟩
  refine ⟨.bool true, rfl, ?_⟩
  have hs_9 := hs_6.grow hc_8
  refine SL.v (.bool false) ?_
  refine SL.nil ?_
  refine CW.cond_false (by kernel_rfl) ?_
  refine CW.skip ?_
  refine CW.seq ?_
  refine CW.seq ?_
  refine CW.region ?_
  refine SL.load (g := g_1) (off := 0) (v := .agg (cdA c)) rfl rfl rfl (by kernel_rfl) (hs_9.pt_at (i := 0) rfl) (by kernel_rfl) ?_
  refine SL.call (f := 7) (args := #[.agg (cdA c)]) (w1 := w_7) rfl rfl (by kernel_rfl) (hsc ▸ small_any c w_7) ?_
  rintro x w_10 ⟨rfl, hc_11⟩
  refine ⟨.bool true, rfl, ?_⟩
  have hs_12 := hs_9.grow hc_11
  refine SL.v (.bool false) ?_
  refine SL.v (.bool false) ?_
  refine SL.go ?_
  refine SL.load (g := g_4) (off := 0) (v := .agg (cdA d)) rfl rfl rfl (by kernel_rfl) (hs_12.pt_at (i := 1) rfl) (by kernel_rfl) ?_
  refine SL.go ?_
  refine SL.call (f := 7) (args := #[.agg (cdA d)]) (w1 := w_10) rfl rfl (by kernel_rfl) (hsd ▸ small_any d w_10) ?_
  rintro x w_13 ⟨rfl, hc_14⟩
  refine ⟨.bool true, rfl, ?_⟩
  have hs_15 := hs_12.grow hc_14
  refine SL.go ?_
  refine SL.v (.bool false) ?_
  refine SL.v (.bool false) ?_
  refine SL.nil ?_
  refine CW.cond_false (by kernel_rfl) ?_
  refine CW.skip ?_
  refine CW.seq ?_
  refine CW.seq ?_
  refine CW.region ?_
  refine SL.v (.string (strOf l)) ?_
  refine SL.val (v := .int .i64 ((l.length : Nat) : Int)) (w' := w_13) rfl rfl (run_slen rfl (by kernel_rfl) (by kernel_rfl) (strOf_sz _)) ?_
  refine SL.v (.bool (decide (300 < ((l.length : Nat) : Int)))) ?_
  refine SL.nil ?_
  refine CW.mid (fun e9 w9 => SH [] w w9 [pt g_1 (cdA c) 33, pt g_4 (cdA d) 33] ∧ e9 0 = .agg (cdA c) ∧ e9 1 = .agg (cdA d) ∧ e9 2 = .string (strOf (bif (decide (300 < ((l.length : Nat) : Int))) then l.take 300 else l)) ∧ e9 3 = .pointer (some ⟨g_1, 0, none⟩) ∧ e9 4 = .pointer (some ⟨g_4, 0, none⟩) ∧ e9 6 = .bool false ∧ e9 14 = .bool true ∧ e9 15 = .bool false ∧ e9 16 = .agg (cdA c) ∧ e9 17 = .bool true ∧ e9 18 = .bool false ∧ e9 19 = .bool false ∧ e9 20 = .agg (cdA d) ∧ e9 21 = .bool true ∧ e9 22 = .bool false ∧ e9 23 = .bool false ∧ e9 24 = .string (strOf l) ∧ e9 25 = .int .i64 ((l.length : Nat) : Int) ∧ e9 26 = .bool (decide (300 < ((l.length : Nat) : Int)))) ?_ ?_
  · skip
    rcases Bool.eq_false_or_eq_true (decide (300 < ((l.length : Nat) : Int))) with hb_17 | hb_17
    · try rw [hb_17]
      have hqhb_17 := of_decide_eq_true hb_17
      refine CW.cond_true (by kernel_rfl) ?_
      refine CW.region ?_
      refine SL.v (.string (strOf l)) ?_
      refine SL.val (v := .string (strOf (l.take 300))) (w' := w_13) rfl rfl (run_sto (q := .i64) (I := 300) (l := l) (i := 300) rfl (by kernel_rfl) (by kernel_rfl) rfl (by kernel_rfl) (by omega)) ?_
      refine SL.v (.string (strOf (l.take 300))) ?_
      refine SL.nil ?_
      exact ⟨hs_15, (by kernel_rfl), (by kernel_rfl), (by kernel_rfl), (by kernel_rfl), (by kernel_rfl), (by kernel_rfl), (by kernel_rfl), (by kernel_rfl), (by kernel_rfl), (by kernel_rfl), (by kernel_rfl), (by kernel_rfl), (by kernel_rfl), (by kernel_rfl), (by kernel_rfl), (by kernel_rfl), (by kernel_rfl), (by kernel_rfl), (by kernel_rfl)⟩
    · try rw [hb_17]
      have hqhb_17 := of_decide_eq_false hb_17
      refine CW.cond_false (by kernel_rfl) ?_
      refine CW.skip ?_
      exact ⟨hs_15, (by kernel_rfl), (by kernel_rfl), (by kernel_rfl), (by kernel_rfl), (by kernel_rfl), (by kernel_rfl), (by kernel_rfl), (by kernel_rfl), (by kernel_rfl), (by kernel_rfl), (by kernel_rfl), (by kernel_rfl), (by kernel_rfl), (by kernel_rfl), (by kernel_rfl), (by kernel_rfl), (by kernel_rfl), (by kernel_rfl), (by kernel_rfl)⟩
  · rintro e_18 w_19 ⟨hs_20, hv_22, hv_23, hv_24, hv_25, hv_26, hv_27, hv_28, hv_29, hv_30, hv_31, hv_32, hv_33, hv_34, hv_35, hv_36, hv_37, hv_38, hv_39, hv_40⟩
    obtain ⟨e_21, rfl⟩ : ∃ e_21, e_18 = put1 (put1 (put1 (put1 (put1 (put1 (put1 (put1 (put1 (put1 (put1 (put1 (put1 (put1 (put1 (put1 (put1 (put1 (put1 e_21 0 (.agg (cdA c))) 1 (.agg (cdA d))) 2 (.string (strOf (cutL l)))) 3 (.pointer (some ⟨g_1, 0, none⟩))) 4 (.pointer (some ⟨g_4, 0, none⟩))) 6 (.bool false)) 14 (.bool true)) 15 (.bool false)) 16 (.agg (cdA c))) 17 (.bool true)) 18 (.bool false)) 19 (.bool false)) 20 (.agg (cdA d))) 21 (.bool true)) 22 (.bool false)) 23 (.bool false)) 24 (.string (strOf l))) 25 (.int .i64 ((l.length : Nat) : Int))) 26 (.bool (decide (300 < ((l.length : Nat) : Int)))) := ⟨e_18, (put_self hv_40).trans (congrArg (fun z => put1 z 26 (.bool (decide (300 < ((l.length : Nat) : Int))))) ((put_self hv_39).trans (congrArg (fun z => put1 z 25 (.int .i64 ((l.length : Nat) : Int))) ((put_self hv_38).trans (congrArg (fun z => put1 z 24 (.string (strOf l))) ((put_self hv_37).trans (congrArg (fun z => put1 z 23 (.bool false)) ((put_self hv_36).trans (congrArg (fun z => put1 z 22 (.bool false)) ((put_self hv_35).trans (congrArg (fun z => put1 z 21 (.bool true)) ((put_self hv_34).trans (congrArg (fun z => put1 z 20 (.agg (cdA d))) ((put_self hv_33).trans (congrArg (fun z => put1 z 19 (.bool false)) ((put_self hv_32).trans (congrArg (fun z => put1 z 18 (.bool false)) ((put_self hv_31).trans (congrArg (fun z => put1 z 17 (.bool true)) ((put_self hv_30).trans (congrArg (fun z => put1 z 16 (.agg (cdA c))) ((put_self hv_29).trans (congrArg (fun z => put1 z 15 (.bool false)) ((put_self hv_28).trans (congrArg (fun z => put1 z 14 (.bool true)) ((put_self hv_27).trans (congrArg (fun z => put1 z 6 (.bool false)) ((put_self hv_26).trans (congrArg (fun z => put1 z 4 (.pointer (some ⟨g_4, 0, none⟩))) ((put_self hv_25).trans (congrArg (fun z => put1 z 3 (.pointer (some ⟨g_1, 0, none⟩))) ((put_self hv_24).trans (congrArg (fun z => put1 z 2 (.string (strOf (cutL l)))) ((put_self hv_23).trans (congrArg (fun z => put1 z 1 (.agg (cdA d))) (put_self hv_22))))))))))))))))))))))))))))))))))))⟩
    clear hv_22 hv_23 hv_24 hv_25 hv_26 hv_27 hv_28 hv_29 hv_30 hv_31 hv_32 hv_33 hv_34 hv_35 hv_36 hv_37 hv_38 hv_39 hv_40
    refine CW.seq ?_
    refine CW.region ?_
    refine SL.load (g := g_1) (off := 0) (v := .agg (cdA c)) rfl rfl rfl (by kernel_rfl) (hs_20.pt_at (i := 0) rfl) (by kernel_rfl) ?_
    refine SL.call (f := 9) (args := #[.agg (cdA c)]) (w1 := w_19) rfl rfl (by kernel_rfl) (own19 c w_19 hmc) ?_
    rintro x w_41 ⟨rfl, hc_42⟩
    refine ⟨.agg (cvA c), rfl, ?_⟩
    have hs_43 := hs_20.grow hc_42
    refine SL.call (f := 16) (args := #[.agg (cvA c)]) (w1 := w_41) rfl rfl (by kernel_rfl) (rep_any c w_41 hokc (hT.gr hs_43.gr) hnum) ?_
    rintro x w_44 ⟨rfl, hc_45⟩
    refine ⟨.string (strOf (fmtGo c.clean.nums)), rfl, ?_⟩
    have hs_46 := hs_43.grow hc_45
    refine SL.v (.string (strOf (fmtGo c.clean.nums))) ?_
    refine SL.nil ?_
    refine CW.seq ?_
    refine CW.seq ?_
    refine CW.region ?_
    refine SL.v (.string (strOf (fmtGo c.clean.nums))) ?_
    refine SL.load (g := g_1) (off := 0) (v := .agg (cdA c)) rfl rfl rfl (by kernel_rfl) (hs_46.pt_at (i := 0) rfl) (by kernel_rfl) ?_
    refine SL.call (f := 17) (args := #[.agg (cdA c)]) (w1 := w_44) rfl rfl (by kernel_rfl) (rrep_any c w_44 hokc (hT.gr hs_46.gr) hnum) ?_
    rintro x w_47 ⟨rfl, hc_48⟩
    refine ⟨.string (strOf (fmtGo c.clean.nums)), rfl, ?_⟩
    have hs_49 := hs_46.grow hc_48
    refine SL.val (v := .bool false) (w' := w_47) rfl rfl (run_strneB (a := strOf (fmtGo c.clean.nums)) (b := strOf (fmtGo c.clean.nums)) (c := true) rfl (by kernel_rfl) (by kernel_rfl) (seqB_self _)) ?_
    refine SL.nil ?_
    refine CW.cond_false (by kernel_rfl) ?_
    refine CW.skip ?_
    refine CW.seq ?_
    refine CW.seq ?_
    refine CW.region ?_
    refine SL.v (.string (strOf (fmtGo c.clean.nums))) ?_
    refine SL.v (.string (strOf (cutL l))) ?_
    refine SL.newH (mk := fun g => .slice (some ⟨g, 0, none⟩) 2 2) (C := #[.string (strOf (fmtGo c.clean.nums)), .string (strOf (cutL l))]) (T := 9) hs_49 rfl rfl (by kernel_rfl) (fun g_50 w_51 hs_52 => ?_)
    have hs_52 : SH [] w w_51 [pt g_1 (cdA c) 33, pt g_4 (cdA d) 33, pt g_50 #[.string (strOf (fmtGo c.clean.nums)), .string (strOf (cutL l))] 9] := hs_52
    refine SL.val (v := .int .i64 2) (w' := w_51) rfl rfl (by kernel_rfl) ?_
    refine SL.v (.int .i64 0) ?_
    refine SL.nil ?_
    refine CW.block ?_
    refine CW.loopN 3 ?_
    refine CR.more ?_
    refine CW.seq ?_
    refine CW.region ?_
    refine SL.v (.bool true) ?_
    refine SL.nil ?_
    refine CW.seq ?_
    refine CW.cond_true (by kernel_rfl) ?_
    refine CW.skip ?_
    refine CW.seq ?_
    refine CW.block ?_
    refine CW.seq ?_
    refine CW.region ?_
    refine SL.v (.pointer (some ⟨g_50, 0, none⟩)) ?_
    refine SL.load (g := g_50) (off := 0) (v := .string (strOf (fmtGo c.clean.nums))) rfl rfl rfl (by kernel_rfl) (hs_52.pt_at (i := 2) rfl) (by kernel_rfl) ?_
    refine SL.v (.string (strOf (fmtGo c.clean.nums))) ?_
    refine SL.nil ?_
    refine CW.seq ?_
    refine CW.region ?_
    refine SL.load (g := g_4) (off := 0) (v := .agg (cdA d)) rfl rfl rfl (by kernel_rfl) (hs_52.pt_at (i := 1) rfl) (by kernel_rfl) ?_
    refine SL.call (f := 9) (args := #[.agg (cdA d)]) (w1 := w_51) rfl rfl (by kernel_rfl) (own19 d w_51 hmd) ?_
    rintro x w_53 ⟨rfl, hc_54⟩
    refine ⟨.agg (cvA d), rfl, ?_⟩
    have hs_55 := hs_52.grow hc_54
    refine SL.v (.string (strOf (fmtGo c.clean.nums))) ?_
    refine SL.call (f := 18) (args := #[.agg (cvA d), .string (strOf (fmtGo c.clean.nums))]) (w1 := w_53) rfl rfl (by kernel_rfl) (srst_any d (fmtGo c.clean.nums) w_53 hokd (fmt_b _) (fmt_l c)) ?_
    rintro x w_56 ⟨rfl, hc_57⟩
    refine ⟨.tuple #[.agg (cvA (resC d (fmtGo c.clean.nums))), .int .i64 (errK (resK d (fmtGo c.clean.nums)))], rfl, ?_⟩
    have hs_58 := hs_55.grow hc_57
    refine SL.v (.tuple #[.agg (cvA (resC d (fmtGo c.clean.nums))), .int .i64 (errK (resK d (fmtGo c.clean.nums)))]) ?_
    refine SL.v (.agg (cvA (resC d (fmtGo c.clean.nums)))) ?_
    refine SL.v (.int .i64 (errK (resK d (fmtGo c.clean.nums)))) ?_
    refine SL.newH (mk := fun g => .pointer (some ⟨g, 0, none⟩)) (C := czA) (T := 46) hs_58 rfl rfl (by kernel_rfl) (fun g_59 w_60 hs_61 => ?_)
    have hs_61 : SH [] w w_60 [pt g_1 (cdA c) 33, pt g_4 (cdA d) 33, pt g_50 #[.string (strOf (fmtGo c.clean.nums)), .string (strOf (cutL l))] 9, pt g_59 czA 46] := hs_61
    refine SL.storeH (i := 3) (g := g_59) (off := 0) (v := .agg (cvA (resC d (fmtGo c.clean.nums)))) (L' := [pt g_1 (cdA c) 33, pt g_4 (cdA d) 33, pt g_50 #[.string (strOf (fmtGo c.clean.nums)), .string (strOf (cutL l))] 9, pt g_59 (cvA (resC d (fmtGo c.clean.nums))) 46]) hs_61 rfl rfl rfl (by kernel_rfl) (by kernel_rfl) rfl (by kernel_rfl) (by kernel_rfl) rfl (by kernel_rfl) rfl (fun w_62 hs_63 => ?_)
    refine SL.v (.int .i64 (errK (resK d (fmtGo c.clean.nums)))) ?_
    refine SL.nil ?_
    refine CW.seq ?_
    refine CW.region ?_
    refine SL.load (g := g_4) (off := 0) (v := .agg (cdA d)) rfl rfl rfl (by kernel_rfl) (hs_63.pt_at (i := 1) rfl) (by kernel_rfl) ?_
    refine SL.v (.string (strOf (fmtGo c.clean.nums))) ?_
    refine SL.call (f := 19) (args := #[.agg (cdA d), .string (strOf (fmtGo c.clean.nums))]) (w1 := w_62) rfl rfl (by kernel_rfl) (srrst_any d (fmtGo c.clean.nums) w_62 hokd (fmt_b _) (fmt_l c)) ?_
    rintro x w_64 ⟨rfl, hc_65⟩
    refine ⟨.tuple #[.agg (cdA (resC d (fmtGo c.clean.nums))), .bool (resK d (fmtGo c.clean.nums))], rfl, ?_⟩
    have hs_66 := hs_63.grow hc_65
    refine SL.v (.tuple #[.agg (cdA (resC d (fmtGo c.clean.nums))), .bool (resK d (fmtGo c.clean.nums))]) ?_
    refine SL.v (.agg (cdA (resC d (fmtGo c.clean.nums)))) ?_
    refine SL.v (.bool (resK d (fmtGo c.clean.nums))) ?_
    refine SL.newH (mk := fun g => .pointer (some ⟨g, 0, none⟩)) (C := czD) (T := 33) hs_66 rfl rfl (by kernel_rfl) (fun g_67 w_68 hs_69 => ?_)
    have hs_69 : SH [] w w_68 [pt g_1 (cdA c) 33, pt g_4 (cdA d) 33, pt g_50 #[.string (strOf (fmtGo c.clean.nums)), .string (strOf (cutL l))] 9, pt g_59 (cvA (resC d (fmtGo c.clean.nums))) 46, pt g_67 czD 33] := hs_69
    refine SL.storeH (i := 4) (g := g_67) (off := 0) (v := .agg (cdA (resC d (fmtGo c.clean.nums)))) (L' := [pt g_1 (cdA c) 33, pt g_4 (cdA d) 33, pt g_50 #[.string (strOf (fmtGo c.clean.nums)), .string (strOf (cutL l))] 9, pt g_59 (cvA (resC d (fmtGo c.clean.nums))) 46, pt g_67 (cdA (resC d (fmtGo c.clean.nums))) 33]) hs_69 rfl rfl rfl (by kernel_rfl) (by kernel_rfl) rfl (by kernel_rfl) (by kernel_rfl) rfl (by kernel_rfl) rfl (fun w_70 hs_71 => ?_)
    refine SL.v (.bool (resK d (fmtGo c.clean.nums))) ?_
    refine SL.nil ?_
    refine CW.seq ?_
    have HGR : GrL [fun v _ => v = .agg (cvA (resC d (fmtGo c.clean.nums))), fun v _ => v = .agg (cdA (resC d (fmtGo c.clean.nums))), fun v _ => v = .agg (cdA (resC d (fmtGo c.clean.nums))), fun v _ => v = .bool false, fun v _ => v = .bool false, fun v _ => v = .int .i64 (errK (resK d (fmtGo c.clean.nums))), fun v _ => v = .bool (resK d (fmtGo c.clean.nums)), fun v _ => v = .bool (resK d (fmtGo c.clean.nums))] := ⟨fun _ _ _ _ h => h, ⟨fun _ _ _ _ h => h, ⟨fun _ _ _ _ h => h, ⟨fun _ _ _ _ h => h, ⟨fun _ _ _ _ h => h, ⟨fun _ _ _ _ h => h, ⟨fun _ _ _ _ h => h, ⟨fun _ _ _ _ h => h, trivial⟩⟩⟩⟩⟩⟩⟩⟩
    refine CW.draw 8 (FW [fun v _ => v = .agg (cvA (resC d (fmtGo c.clean.nums))), fun v _ => v = .agg (cdA (resC d (fmtGo c.clean.nums))), fun v _ => v = .agg (cdA (resC d (fmtGo c.clean.nums))), fun v _ => v = .bool false, fun v _ => v = .bool false, fun v _ => v = .int .i64 (errK (resK d (fmtGo c.clean.nums))), fun v _ => v = .bool (resK d (fmtGo c.clean.nums)), fun v _ => v = .bool (resK d (fmtGo c.clean.nums))]) (fun W => Gr w_70 W) (by kernel_rfl) (by kernel_rfl) (by kernel_rfl) (by kernel_rfl) (by kernel_rfl) (Gr.refl _).drew ?_ ?_
    · refine ⟨?_, ⟨?_, ⟨?_, ⟨?_, ⟨?_, ⟨?_, ⟨?_, ⟨?_, trivial⟩⟩⟩⟩⟩⟩⟩⟩
      · intro L ys W hB hF hP K hK
        show OpE _ _ _ W K
        exact OpE.load (g := g_59) (off := 0) (v := .agg (cvA (resC d (fmtGo c.clean.nums)))) rfl (by kernel_rfl) ((hs_71.grow hB).pt_at (i := 3) rfl) (by kernel_rfl) (hK _ W hB rfl (fun _ _ h => h))
      · intro L ys W hB hF hP K hK
        show OpE _ _ _ W K
        exact OpE.known (j := 0) (v := .agg (cvA (resC d (fmtGo c.clean.nums)))) (hF 0 (hP.1 rfl)) (OpE.call 8 #[.agg (cvA (resC d (fmtGo c.clean.nums)))] W _ (by kernel_rfl) (told19 (resC d (fmtGo c.clean.nums)) W (res_ok hokd _).modes) (fun x w' hx => by obtain ⟨rfl, hg⟩ := hx; exact ⟨_, rfl, hK _ w' (hB.trans hg) rfl (fun _ _ h => FW.gr HGR hg h)⟩))
      · intro L ys W hB hF hP K hK
        show OpE _ _ _ W K
        exact OpE.load (g := g_67) (off := 0) (v := .agg (cdA (resC d (fmtGo c.clean.nums)))) rfl (by kernel_rfl) ((hs_71.grow hB).pt_at (i := 4) rfl) (by kernel_rfl) (hK _ W hB rfl (fun _ _ h => h))
      · intro L ys W hB hF hP K hK
        show OpE _ _ _ W K
        exact OpE.known (j := 1) (v := .agg (cdA (resC d (fmtGo c.clean.nums)))) (hF 1 (hP.1 rfl)) (OpE.known (j := 2) (v := .agg (cdA (resC d (fmtGo c.clean.nums)))) (hF 2 (hP.2.1 rfl)) (OpE.val (.bool false) W (run_neq_op (xs := (cdA (resC d (fmtGo c.clean.nums)))) (ys := (cdA (resC d (fmtGo c.clean.nums)))) (b := true) rfl (by kernel_rfl) (by kernel_rfl) (by kernel_rfl) (run_eql_flat (x := .agg (cdA (resC d (fmtGo c.clean.nums)))) (y := .agg (cdA (resC d (fmtGo c.clean.nums)))) (b := true) (m := 6) (lx := (litsC (resC d (fmtGo c.clean.nums)))) (ly := (litsC (resC d (fmtGo c.clean.nums)))) (by kernel_rfl) (by kernel_rfl) (by kernel_rfl) (by kernel_rfl) (by kernel_rfl) (by kernel_rfl) (Cor.Ok.lits (res_ok hokd _)) (Cor.Ok.lits (res_ok hokd _)) ⟨fun _ => rfl, fun _ => rfl⟩)) (hK _ W hB rfl (fun _ _ h => h))))
      · intro L ys W hB hF hP K hK
        show OpE _ _ _ W K
        exact OpE.known (j := 3) (v := .bool false) (hF 3 (hP.1 rfl)) (OpE.val (.bool false) W (by kernel_rfl) (hK _ W hB rfl (fun _ _ h => h)))
      · intro L ys W hB hF hP K hK
        refine ⟨61, false, rfl, (show fillE _ 0 ys _ 61 = _ from (hF 4 (hP.1 rfl))), .inl ⟨rfl, ?_⟩⟩
        exact OpE.val (.int .i64 (errK (resK d (fmtGo c.clean.nums)))) W (by kernel_rfl) (hK _ W hB rfl (fun _ _ h => h))
      · intro L ys W hB hF hP K hK
        refine ⟨61, false, rfl, (show fillE _ 0 ys _ 61 = _ from (hF 4 (hP.2.1 rfl))), .inl ⟨rfl, ?_⟩⟩
        exact OpE.known (j := 5) (v := .int .i64 (errK (resK d (fmtGo c.clean.nums)))) (hF 5 (hP.1 rfl)) (OpE.val (.bool (resK d (fmtGo c.clean.nums))) W (run_eqv (by kernel_rfl) (congrArg Value.bool (show ((errK (resK d (fmtGo c.clean.nums))) == 0) = (resK d (fmtGo c.clean.nums)) from err_0 _))) (hK _ W hB rfl (fun _ _ h => h)))
      · intro L ys W hB hF hP K hK
        refine ⟨61, false, rfl, (show fillE _ 0 ys _ 61 = _ from (hF 4 (hP.1 rfl))), .inl ⟨rfl, ?_⟩⟩
        exact OpE.val (.bool (resK d (fmtGo c.clean.nums))) W (by kernel_rfl) (hK _ W hB rfl (fun _ _ h => h))
    · intro ys_75 w_72 hs_73 hF_74
      have hg_76 := hs_73
      have hs_73 : SH [] w w_72 [pt g_1 (cdA c) 33, pt g_4 (cdA d) 33, pt g_50 #[.string (strOf (fmtGo c.clean.nums)), .string (strOf (cutL l))] 9, pt g_59 (cvA (resC d (fmtGo c.clean.nums))) 46, pt g_67 (cdA (resC d (fmtGo c.clean.nums))) 33] := hs_71.grow hg_76
      refine SL.knownY (j := 0) (v := .agg (cvA (resC d (fmtGo c.clean.nums)))) (show ys_75 0 = .agg (cvA (resC d (fmtGo c.clean.nums))) from hF_74 0 (by decide)) (SL.knownY (j := 1) (v := .agg (cdA (resC d (fmtGo c.clean.nums)))) (show ys_75 1 = .agg (cdA (resC d (fmtGo c.clean.nums))) from hF_74 1 (by decide)) (SL.knownY (j := 2) (v := .agg (cdA (resC d (fmtGo c.clean.nums)))) (show ys_75 2 = .agg (cdA (resC d (fmtGo c.clean.nums))) from hF_74 2 (by decide)) (SL.knownY (j := 3) (v := .bool false) (show ys_75 3 = .bool false from hF_74 3 (by decide)) (SL.knownY (j := 4) (v := .bool false) (show ys_75 4 = .bool false from hF_74 4 (by decide)) (SL.knownY (j := 5) (v := .int .i64 (errK (resK d (fmtGo c.clean.nums)))) (show ys_75 5 = .int .i64 (errK (resK d (fmtGo c.clean.nums))) from hF_74 5 (by decide)) (SL.knownY (j := 6) (v := .bool (resK d (fmtGo c.clean.nums))) (show ys_75 6 = .bool (resK d (fmtGo c.clean.nums)) from hF_74 6 (by decide)) (SL.knownY (j := 7) (v := .bool (resK d (fmtGo c.clean.nums))) (show ys_75 7 = .bool (resK d (fmtGo c.clean.nums)) from hF_74 7 (by decide)) (?_))))))))
      clear hF_74 HGR
      refine SL.go ?_
      refine SL.val (v := .bool false) (w' := w_72) rfl rfl (run_boolne (a := resK d (fmtGo c.clean.nums)) (b := resK d (fmtGo c.clean.nums)) (c := false) rfl (by kernel_rfl) (by kernel_rfl) (by kernel_rfl) (by cases (resK d (fmtGo c.clean.nums)) <;> rfl)) ?_
      refine SL.v (.bool false) ?_
      refine SL.v (.bool false) ?_
      refine SL.go ?_
      refine SL.v (.bool (resK d (fmtGo c.clean.nums))) ?_
      refine SL.go ?_
      refine SL.v (.bool (!(resK d (fmtGo c.clean.nums)))) ?_
      refine SL.go ?_
      refine SL.v (.bool (!(resK d (fmtGo c.clean.nums)))) ?_
      rcases Bool.eq_false_or_eq_true (resK d (fmtGo c.clean.nums)) with hb_77 | hb_77
      · try rw [hb_77]
        refine SL.no false ?_
        refine SL.no false ?_
        refine SL.go ?_
        refine SL.v (.bool false) ?_
        refine SL.v (.bool false) ?_
        refine SL.nil ?_
        refine CW.cond_false (by kernel_rfl) ?_
        refine CW.skip ?_
        refine CW.region ?_
        refine SL.v (.int .i64 1) ?_
        refine SL.v (.int .i64 1) ?_
        refine SL.nil ?_
        have hs_78 : SH [] w w_72 [pt g_1 (cdA c) 33, pt g_4 (cdA d) 33, pt g_50 #[.string (strOf (fmtGo c.clean.nums)), .string (strOf (cutL l))] 9] := hs_73.pick [0, 0, 0] rfl
        refine CR.fresh (fun e9 => e9 0 = .agg (cdA c) ∧ e9 1 = .agg (cdA d) ∧ e9 2 = .string (strOf (cutL l)) ∧ e9 3 = .pointer (some ⟨g_1, 0, none⟩) ∧ e9 4 = .pointer (some ⟨g_4, 0, none⟩) ∧ e9 6 = .bool false ∧ e9 7 = .string (strOf (fmtGo c.clean.nums)) ∧ e9 14 = .bool true ∧ e9 15 = .bool false ∧ e9 16 = .agg (cdA c) ∧ e9 17 = .bool true ∧ e9 18 = .bool false ∧ e9 19 = .bool false ∧ e9 20 = .agg (cdA d) ∧ e9 21 = .bool true ∧ e9 22 = .bool false ∧ e9 23 = .bool false ∧ e9 24 = .string (strOf l) ∧ e9 25 = .int .i64 ((l.length : Nat) : Int) ∧ e9 26 = .bool (decide (300 < ((l.length : Nat) : Int))) ∧ e9 29 = .agg (cdA c) ∧ e9 30 = .agg (cvA c) ∧ e9 31 = .string (strOf (fmtGo c.clean.nums)) ∧ e9 32 = .string (strOf (fmtGo c.clean.nums)) ∧ e9 33 = .agg (cdA c) ∧ e9 34 = .string (strOf (fmtGo c.clean.nums)) ∧ e9 35 = .bool false ∧ e9 36 = .string (strOf (fmtGo c.clean.nums)) ∧ e9 37 = .string (strOf (cutL l)) ∧ e9 38 = .slice (some ⟨g_50, 0, none⟩) 2 2 ∧ e9 39 = .int .i64 2 ∧ e9 40 = .int .i64 1) ⟨(by kernel_rfl), (by kernel_rfl), (by kernel_rfl), (by kernel_rfl), (by kernel_rfl), (by kernel_rfl), (by kernel_rfl), (by kernel_rfl), (by kernel_rfl), (by kernel_rfl), (by kernel_rfl), (by kernel_rfl), (by kernel_rfl), (by kernel_rfl), (by kernel_rfl), (by kernel_rfl), (by kernel_rfl), (by kernel_rfl), (by kernel_rfl), (by kernel_rfl), (by kernel_rfl), (by kernel_rfl), (by kernel_rfl), (by kernel_rfl), (by kernel_rfl), (by kernel_rfl), (by kernel_rfl), (by kernel_rfl), (by kernel_rfl), (by kernel_rfl), (by kernel_rfl), (by kernel_rfl)⟩ ?_
        rintro e_79 ⟨hv_81, hv_82, hv_83, hv_84, hv_85, hv_86, hv_87, hv_88, hv_89, hv_90, hv_91, hv_92, hv_93, hv_94, hv_95, hv_96, hv_97, hv_98, hv_99, hv_100, hv_101, hv_102, hv_103, hv_104, hv_105, hv_106, hv_107, hv_108, hv_109, hv_110, hv_111, hv_112⟩
        obtain ⟨e_80, rfl⟩ : ∃ e_80, e_79 = put1 (put1 (put1 (put1 (put1 (put1 (put1 (put1 (put1 (put1 (put1 (put1 (put1 (put1 (put1 (put1 (put1 (put1 (put1 (put1 (put1 (put1 (put1 (put1 (put1 (put1 (put1 (put1 (put1 (put1 (put1 (put1 e_80 0 (.agg (cdA c))) 1 (.agg (cdA d))) 2 (.string (strOf (cutL l)))) 3 (.pointer (some ⟨g_1, 0, none⟩))) 4 (.pointer (some ⟨g_4, 0, none⟩))) 6 (.bool false)) 7 (.string (strOf (fmtGo c.clean.nums)))) 14 (.bool true)) 15 (.bool false)) 16 (.agg (cdA c))) 17 (.bool true)) 18 (.bool false)) 19 (.bool false)) 20 (.agg (cdA d))) 21 (.bool true)) 22 (.bool false)) 23 (.bool false)) 24 (.string (strOf l))) 25 (.int .i64 ((l.length : Nat) : Int))) 26 (.bool (decide (300 < ((l.length : Nat) : Int))))) 29 (.agg (cdA c))) 30 (.agg (cvA c))) 31 (.string (strOf (fmtGo c.clean.nums)))) 32 (.string (strOf (fmtGo c.clean.nums)))) 33 (.agg (cdA c))) 34 (.string (strOf (fmtGo c.clean.nums)))) 35 (.bool false)) 36 (.string (strOf (fmtGo c.clean.nums)))) 37 (.string (strOf (cutL l)))) 38 (.slice (some ⟨g_50, 0, none⟩) 2 2)) 39 (.int .i64 2)) 40 (.int .i64 1) := ⟨e_79, (put_self hv_112).trans (congrArg (fun z => put1 z 40 (.int .i64 1)) ((put_self hv_111).trans (congrArg (fun z => put1 z 39 (.int .i64 2)) ((put_self hv_110).trans (congrArg (fun z => put1 z 38 (.slice (some ⟨g_50, 0, none⟩) 2 2)) ((put_self hv_109).trans (congrArg (fun z => put1 z 37 (.string (strOf (cutL l)))) ((put_self hv_108).trans (congrArg (fun z => put1 z 36 (.string (strOf (fmtGo c.clean.nums)))) ((put_self hv_107).trans (congrArg (fun z => put1 z 35 (.bool false)) ((put_self hv_106).trans (congrArg (fun z => put1 z 34 (.string (strOf (fmtGo c.clean.nums)))) ((put_self hv_105).trans (congrArg (fun z => put1 z 33 (.agg (cdA c))) ((put_self hv_104).trans (congrArg (fun z => put1 z 32 (.string (strOf (fmtGo c.clean.nums)))) ((put_self hv_103).trans (congrArg (fun z => put1 z 31 (.string (strOf (fmtGo c.clean.nums)))) ((put_self hv_102).trans (congrArg (fun z => put1 z 30 (.agg (cvA c))) ((put_self hv_101).trans (congrArg (fun z => put1 z 29 (.agg (cdA c))) ((put_self hv_100).trans (congrArg (fun z => put1 z 26 (.bool (decide (300 < ((l.length : Nat) : Int))))) ((put_self hv_99).trans (congrArg (fun z => put1 z 25 (.int .i64 ((l.length : Nat) : Int))) ((put_self hv_98).trans (congrArg (fun z => put1 z 24 (.string (strOf l))) ((put_self hv_97).trans (congrArg (fun z => put1 z 23 (.bool false)) ((put_self hv_96).trans (congrArg (fun z => put1 z 22 (.bool false)) ((put_self hv_95).trans (congrArg (fun z => put1 z 21 (.bool true)) ((put_self hv_94).trans (congrArg (fun z => put1 z 20 (.agg (cdA d))) ((put_self hv_93).trans (congrArg (fun z => put1 z 19 (.bool false)) ((put_self hv_92).trans (congrArg (fun z => put1 z 18 (.bool false)) ((put_self hv_91).trans (congrArg (fun z => put1 z 17 (.bool true)) ((put_self hv_90).trans (congrArg (fun z => put1 z 16 (.agg (cdA c))) ((put_self hv_89).trans (congrArg (fun z => put1 z 15 (.bool false)) ((put_self hv_88).trans (congrArg (fun z => put1 z 14 (.bool true)) ((put_self hv_87).trans (congrArg (fun z => put1 z 7 (.string (strOf (fmtGo c.clean.nums)))) ((put_self hv_86).trans (congrArg (fun z => put1 z 6 (.bool false)) ((put_self hv_85).trans (congrArg (fun z => put1 z 4 (.pointer (some ⟨g_4, 0, none⟩))) ((put_self hv_84).trans (congrArg (fun z => put1 z 3 (.pointer (some ⟨g_1, 0, none⟩))) ((put_self hv_83).trans (congrArg (fun z => put1 z 2 (.string (strOf (cutL l)))) ((put_self hv_82).trans (congrArg (fun z => put1 z 1 (.agg (cdA d))) (put_self hv_81))))))))))))))))))))))))))))))))))))))))))))))))))))))))))))))⟩
        clear hv_81 hv_82 hv_83 hv_84 hv_85 hv_86 hv_87 hv_88 hv_89 hv_90 hv_91 hv_92 hv_93 hv_94 hv_95 hv_96 hv_97 hv_98 hv_99 hv_100 hv_101 hv_102 hv_103 hv_104 hv_105 hv_106 hv_107 hv_108 hv_109 hv_110 hv_111 hv_112
        refine CR.more ?_
        refine CW.seq ?_
        refine CW.region ?_
        refine SL.v (.bool true) ?_
        refine SL.nil ?_
        refine CW.seq ?_
        refine CW.cond_true (by kernel_rfl) ?_
        refine CW.skip ?_
        refine CW.seq ?_
        refine CW.block ?_
        refine CW.seq ?_
        refine CW.region ?_
        refine SL.v (.pointer (some ⟨g_50, 1, none⟩)) ?_
        refine SL.load (g := g_50) (off := 1) (v := .string (strOf (cutL l))) rfl rfl rfl (by kernel_rfl) (hs_78.pt_at (i := 2) rfl) (by kernel_rfl) ?_
        refine SL.v (.string (strOf (cutL l))) ?_
        refine SL.nil ?_
        refine CW.seq ?_
        refine CW.region ?_
        refine SL.load (g := g_4) (off := 0) (v := .agg (cdA d)) rfl rfl rfl (by kernel_rfl) (hs_78.pt_at (i := 1) rfl) (by kernel_rfl) ?_
        refine SL.call (f := 9) (args := #[.agg (cdA d)]) (w1 := w_72) rfl rfl (by kernel_rfl) (own19 d w_72 hmd) ?_
        rintro x w_113 ⟨rfl, hc_114⟩
        refine ⟨.agg (cvA d), rfl, ?_⟩
        have hs_115 := hs_78.grow hc_114
        refine SL.v (.string (strOf (cutL l))) ?_
        refine SL.call (f := 18) (args := #[.agg (cvA d), .string (strOf (cutL l))]) (w1 := w_113) rfl rfl (by kernel_rfl) (srst_any d (cutL l) w_113 hokd (cut_b hl) (cut_l l)) ?_
        rintro x w_116 ⟨rfl, hc_117⟩
        refine ⟨.tuple #[.agg (cvA (resC d (cutL l))), .int .i64 (errK (resK d (cutL l)))], rfl, ?_⟩
        have hs_118 := hs_115.grow hc_117
        refine SL.v (.tuple #[.agg (cvA (resC d (cutL l))), .int .i64 (errK (resK d (cutL l)))]) ?_
        refine SL.v (.agg (cvA (resC d (cutL l)))) ?_
        refine SL.v (.int .i64 (errK (resK d (cutL l)))) ?_
        refine SL.newH (mk := fun g => .pointer (some ⟨g, 0, none⟩)) (C := czA) (T := 46) hs_118 rfl rfl (by kernel_rfl) (fun g_119 w_120 hs_121 => ?_)
        have hs_121 : SH [] w w_120 [pt g_1 (cdA c) 33, pt g_4 (cdA d) 33, pt g_50 #[.string (strOf (fmtGo c.clean.nums)), .string (strOf (cutL l))] 9, pt g_119 czA 46] := hs_121
        refine SL.storeH (i := 3) (g := g_119) (off := 0) (v := .agg (cvA (resC d (cutL l)))) (L' := [pt g_1 (cdA c) 33, pt g_4 (cdA d) 33, pt g_50 #[.string (strOf (fmtGo c.clean.nums)), .string (strOf (cutL l))] 9, pt g_119 (cvA (resC d (cutL l))) 46]) hs_121 rfl rfl rfl (by kernel_rfl) (by kernel_rfl) rfl (by kernel_rfl) (by kernel_rfl) rfl (by kernel_rfl) rfl (fun w_122 hs_123 => ?_)
        refine SL.v (.int .i64 (errK (resK d (cutL l)))) ?_
        refine SL.nil ?_
        refine CW.seq ?_
        refine CW.region ?_
        refine SL.load (g := g_4) (off := 0) (v := .agg (cdA d)) rfl rfl rfl (by kernel_rfl) (hs_123.pt_at (i := 1) rfl) (by kernel_rfl) ?_
        refine SL.v (.string (strOf (cutL l))) ?_
        refine SL.call (f := 19) (args := #[.agg (cdA d), .string (strOf (cutL l))]) (w1 := w_122) rfl rfl (by kernel_rfl) (srrst_any d (cutL l) w_122 hokd (cut_b hl) (cut_l l)) ?_
        rintro x w_124 ⟨rfl, hc_125⟩
        refine ⟨.tuple #[.agg (cdA (resC d (cutL l))), .bool (resK d (cutL l))], rfl, ?_⟩
        have hs_126 := hs_123.grow hc_125
        refine SL.v (.tuple #[.agg (cdA (resC d (cutL l))), .bool (resK d (cutL l))]) ?_
        refine SL.v (.agg (cdA (resC d (cutL l)))) ?_
        refine SL.v (.bool (resK d (cutL l))) ?_
        refine SL.newH (mk := fun g => .pointer (some ⟨g, 0, none⟩)) (C := czD) (T := 33) hs_126 rfl rfl (by kernel_rfl) (fun g_127 w_128 hs_129 => ?_)
        have hs_129 : SH [] w w_128 [pt g_1 (cdA c) 33, pt g_4 (cdA d) 33, pt g_50 #[.string (strOf (fmtGo c.clean.nums)), .string (strOf (cutL l))] 9, pt g_119 (cvA (resC d (cutL l))) 46, pt g_127 czD 33] := hs_129
        refine SL.storeH (i := 4) (g := g_127) (off := 0) (v := .agg (cdA (resC d (cutL l)))) (L' := [pt g_1 (cdA c) 33, pt g_4 (cdA d) 33, pt g_50 #[.string (strOf (fmtGo c.clean.nums)), .string (strOf (cutL l))] 9, pt g_119 (cvA (resC d (cutL l))) 46, pt g_127 (cdA (resC d (cutL l))) 33]) hs_129 rfl rfl rfl (by kernel_rfl) (by kernel_rfl) rfl (by kernel_rfl) (by kernel_rfl) rfl (by kernel_rfl) rfl (fun w_130 hs_131 => ?_)
        refine SL.v (.bool (resK d (cutL l))) ?_
        refine SL.nil ?_
        refine CW.seq ?_
        have HGR : GrL [fun v _ => v = .agg (cvA (resC d (cutL l))), fun v _ => v = .agg (cdA (resC d (cutL l))), fun v _ => v = .agg (cdA (resC d (cutL l))), fun v _ => v = .bool false, fun v _ => v = .bool false, fun v _ => v = .int .i64 (errK (resK d (cutL l))), fun v _ => v = .bool (resK d (cutL l)), fun v _ => v = .bool (resK d (cutL l))] := ⟨fun _ _ _ _ h => h, ⟨fun _ _ _ _ h => h, ⟨fun _ _ _ _ h => h, ⟨fun _ _ _ _ h => h, ⟨fun _ _ _ _ h => h, ⟨fun _ _ _ _ h => h, ⟨fun _ _ _ _ h => h, ⟨fun _ _ _ _ h => h, trivial⟩⟩⟩⟩⟩⟩⟩⟩
        refine CW.draw 8 (FW [fun v _ => v = .agg (cvA (resC d (cutL l))), fun v _ => v = .agg (cdA (resC d (cutL l))), fun v _ => v = .agg (cdA (resC d (cutL l))), fun v _ => v = .bool false, fun v _ => v = .bool false, fun v _ => v = .int .i64 (errK (resK d (cutL l))), fun v _ => v = .bool (resK d (cutL l)), fun v _ => v = .bool (resK d (cutL l))]) (fun W => Gr w_130 W) (by kernel_rfl) (by kernel_rfl) (by kernel_rfl) (by kernel_rfl) (by kernel_rfl) (Gr.refl _).drew ?_ ?_
        · refine ⟨?_, ⟨?_, ⟨?_, ⟨?_, ⟨?_, ⟨?_, ⟨?_, ⟨?_, trivial⟩⟩⟩⟩⟩⟩⟩⟩
          · intro L ys W hB hF hP K hK
            show OpE _ _ _ W K
            exact OpE.load (g := g_119) (off := 0) (v := .agg (cvA (resC d (cutL l)))) rfl (by kernel_rfl) ((hs_131.grow hB).pt_at (i := 3) rfl) (by kernel_rfl) (hK _ W hB rfl (fun _ _ h => h))
          · intro L ys W hB hF hP K hK
            show OpE _ _ _ W K
            exact OpE.known (j := 0) (v := .agg (cvA (resC d (cutL l)))) (hF 0 (hP.1 rfl)) (OpE.call 8 #[.agg (cvA (resC d (cutL l)))] W _ (by kernel_rfl) (told19 (resC d (cutL l)) W (res_ok hokd _).modes) (fun x w' hx => by obtain ⟨rfl, hg⟩ := hx; exact ⟨_, rfl, hK _ w' (hB.trans hg) rfl (fun _ _ h => FW.gr HGR hg h)⟩))
          · intro L ys W hB hF hP K hK
            show OpE _ _ _ W K
            exact OpE.load (g := g_127) (off := 0) (v := .agg (cdA (resC d (cutL l)))) rfl (by kernel_rfl) ((hs_131.grow hB).pt_at (i := 4) rfl) (by kernel_rfl) (hK _ W hB rfl (fun _ _ h => h))
          · intro L ys W hB hF hP K hK
            show OpE _ _ _ W K
            exact OpE.known (j := 1) (v := .agg (cdA (resC d (cutL l)))) (hF 1 (hP.1 rfl)) (OpE.known (j := 2) (v := .agg (cdA (resC d (cutL l)))) (hF 2 (hP.2.1 rfl)) (OpE.val (.bool false) W (run_neq_op (xs := (cdA (resC d (cutL l)))) (ys := (cdA (resC d (cutL l)))) (b := true) rfl (by kernel_rfl) (by kernel_rfl) (by kernel_rfl) (run_eql_flat (x := .agg (cdA (resC d (cutL l)))) (y := .agg (cdA (resC d (cutL l)))) (b := true) (m := 6) (lx := (litsC (resC d (cutL l)))) (ly := (litsC (resC d (cutL l)))) (by kernel_rfl) (by kernel_rfl) (by kernel_rfl) (by kernel_rfl) (by kernel_rfl) (by kernel_rfl) (Cor.Ok.lits (res_ok hokd _)) (Cor.Ok.lits (res_ok hokd _)) ⟨fun _ => rfl, fun _ => rfl⟩)) (hK _ W hB rfl (fun _ _ h => h))))
          · intro L ys W hB hF hP K hK
            show OpE _ _ _ W K
            exact OpE.known (j := 3) (v := .bool false) (hF 3 (hP.1 rfl)) (OpE.val (.bool false) W (by kernel_rfl) (hK _ W hB rfl (fun _ _ h => h)))
          · intro L ys W hB hF hP K hK
            refine ⟨61, false, rfl, (show fillE _ 0 ys _ 61 = _ from (hF 4 (hP.1 rfl))), .inl ⟨rfl, ?_⟩⟩
            exact OpE.val (.int .i64 (errK (resK d (cutL l)))) W (by kernel_rfl) (hK _ W hB rfl (fun _ _ h => h))
          · intro L ys W hB hF hP K hK
            refine ⟨61, false, rfl, (show fillE _ 0 ys _ 61 = _ from (hF 4 (hP.2.1 rfl))), .inl ⟨rfl, ?_⟩⟩
            exact OpE.known (j := 5) (v := .int .i64 (errK (resK d (cutL l)))) (hF 5 (hP.1 rfl)) (OpE.val (.bool (resK d (cutL l))) W (run_eqv (by kernel_rfl) (congrArg Value.bool (show ((errK (resK d (cutL l))) == 0) = (resK d (cutL l)) from err_0 _))) (hK _ W hB rfl (fun _ _ h => h)))
          · intro L ys W hB hF hP K hK
            refine ⟨61, false, rfl, (show fillE _ 0 ys _ 61 = _ from (hF 4 (hP.1 rfl))), .inl ⟨rfl, ?_⟩⟩
            exact OpE.val (.bool (resK d (cutL l))) W (by kernel_rfl) (hK _ W hB rfl (fun _ _ h => h))
        · intro ys_135 w_132 hs_133 hF_134
          have hg_136 := hs_133
          have hs_133 : SH [] w w_132 [pt g_1 (cdA c) 33, pt g_4 (cdA d) 33, pt g_50 #[.string (strOf (fmtGo c.clean.nums)), .string (strOf (cutL l))] 9, pt g_119 (cvA (resC d (cutL l))) 46, pt g_127 (cdA (resC d (cutL l))) 33] := hs_131.grow hg_136
          refine SL.knownY (j := 0) (v := .agg (cvA (resC d (cutL l)))) (show ys_135 0 = .agg (cvA (resC d (cutL l))) from hF_134 0 (by decide)) (SL.knownY (j := 1) (v := .agg (cdA (resC d (cutL l)))) (show ys_135 1 = .agg (cdA (resC d (cutL l))) from hF_134 1 (by decide)) (SL.knownY (j := 2) (v := .agg (cdA (resC d (cutL l)))) (show ys_135 2 = .agg (cdA (resC d (cutL l))) from hF_134 2 (by decide)) (SL.knownY (j := 3) (v := .bool false) (show ys_135 3 = .bool false from hF_134 3 (by decide)) (SL.knownY (j := 4) (v := .bool false) (show ys_135 4 = .bool false from hF_134 4 (by decide)) (SL.knownY (j := 5) (v := .int .i64 (errK (resK d (cutL l)))) (show ys_135 5 = .int .i64 (errK (resK d (cutL l))) from hF_134 5 (by decide)) (SL.knownY (j := 6) (v := .bool (resK d (cutL l))) (show ys_135 6 = .bool (resK d (cutL l)) from hF_134 6 (by decide)) (SL.knownY (j := 7) (v := .bool (resK d (cutL l))) (show ys_135 7 = .bool (resK d (cutL l)) from hF_134 7 (by decide)) (?_))))))))
          clear hF_134 HGR
          refine SL.go ?_
          refine SL.val (v := .bool false) (w' := w_132) rfl rfl (run_boolne (a := resK d (cutL l)) (b := resK d (cutL l)) (c := false) rfl (by kernel_rfl) (by kernel_rfl) (by kernel_rfl) (by cases (resK d (cutL l)) <;> rfl)) ?_
          refine SL.v (.bool false) ?_
          refine SL.v (.bool false) ?_
          refine SL.go ?_
          refine SL.v (.bool (resK d (cutL l))) ?_
          refine SL.go ?_
          refine SL.v (.bool (!(resK d (cutL l)))) ?_
          refine SL.go ?_
          refine SL.v (.bool (!(resK d (cutL l)))) ?_
          rcases Bool.eq_false_or_eq_true (resK d (cutL l)) with hb_137 | hb_137
          · try rw [hb_137]
            refine SL.no false ?_
            refine SL.no false ?_
            refine SL.go ?_
            refine SL.v (.bool false) ?_
            refine SL.v (.bool false) ?_
            refine SL.nil ?_
            refine CW.cond_false (by kernel_rfl) ?_
            refine CW.skip ?_
            refine CW.region ?_
            refine SL.v (.int .i64 2) ?_
            refine SL.v (.int .i64 2) ?_
            refine SL.nil ?_
            have hs_138 : SH [] w w_132 [pt g_1 (cdA c) 33, pt g_4 (cdA d) 33, pt g_50 #[.string (strOf (fmtGo c.clean.nums)), .string (strOf (cutL l))] 9] := hs_133.pick [0, 0, 0] rfl
            refine CR.fresh (fun e9 => e9 0 = .agg (cdA c) ∧ e9 1 = .agg (cdA d) ∧ e9 2 = .string (strOf (cutL l)) ∧ e9 3 = .pointer (some ⟨g_1, 0, none⟩) ∧ e9 4 = .pointer (some ⟨g_4, 0, none⟩) ∧ e9 6 = .bool false ∧ e9 7 = .string (strOf (fmtGo c.clean.nums)) ∧ e9 14 = .bool true ∧ e9 15 = .bool false ∧ e9 16 = .agg (cdA c) ∧ e9 17 = .bool true ∧ e9 18 = .bool false ∧ e9 19 = .bool false ∧ e9 20 = .agg (cdA d) ∧ e9 21 = .bool true ∧ e9 22 = .bool false ∧ e9 23 = .bool false ∧ e9 24 = .string (strOf l) ∧ e9 25 = .int .i64 ((l.length : Nat) : Int) ∧ e9 26 = .bool (decide (300 < ((l.length : Nat) : Int))) ∧ e9 29 = .agg (cdA c) ∧ e9 30 = .agg (cvA c) ∧ e9 31 = .string (strOf (fmtGo c.clean.nums)) ∧ e9 32 = .string (strOf (fmtGo c.clean.nums)) ∧ e9 33 = .agg (cdA c) ∧ e9 34 = .string (strOf (fmtGo c.clean.nums)) ∧ e9 35 = .bool false ∧ e9 36 = .string (strOf (fmtGo c.clean.nums)) ∧ e9 37 = .string (strOf (cutL l)) ∧ e9 38 = .slice (some ⟨g_50, 0, none⟩) 2 2 ∧ e9 39 = .int .i64 2 ∧ e9 40 = .int .i64 2) ⟨(by kernel_rfl), (by kernel_rfl), (by kernel_rfl), (by kernel_rfl), (by kernel_rfl), (by kernel_rfl), (by kernel_rfl), (by kernel_rfl), (by kernel_rfl), (by kernel_rfl), (by kernel_rfl), (by kernel_rfl), (by kernel_rfl), (by kernel_rfl), (by kernel_rfl), (by kernel_rfl), (by kernel_rfl), (by kernel_rfl), (by kernel_rfl), (by kernel_rfl), (by kernel_rfl), (by kernel_rfl), (by kernel_rfl), (by kernel_rfl), (by kernel_rfl), (by kernel_rfl), (by kernel_rfl), (by kernel_rfl), (by kernel_rfl), (by kernel_rfl), (by kernel_rfl), (by kernel_rfl)⟩ ?_
            rintro e_139 ⟨hv_141, hv_142, hv_143, hv_144, hv_145, hv_146, hv_147, hv_148, hv_149, hv_150, hv_151, hv_152, hv_153, hv_154, hv_155, hv_156, hv_157, hv_158, hv_159, hv_160, hv_161, hv_162, hv_163, hv_164, hv_165, hv_166, hv_167, hv_168, hv_169, hv_170, hv_171, hv_172⟩
            obtain ⟨e_140, rfl⟩ : ∃ e_140, e_139 = put1 (put1 (put1 (put1 (put1 (put1 (put1 (put1 (put1 (put1 (put1 (put1 (put1 (put1 (put1 (put1 (put1 (put1 (put1 (put1 (put1 (put1 (put1 (put1 (put1 (put1 (put1 (put1 (put1 (put1 (put1 (put1 e_140 0 (.agg (cdA c))) 1 (.agg (cdA d))) 2 (.string (strOf (cutL l)))) 3 (.pointer (some ⟨g_1, 0, none⟩))) 4 (.pointer (some ⟨g_4, 0, none⟩))) 6 (.bool false)) 7 (.string (strOf (fmtGo c.clean.nums)))) 14 (.bool true)) 15 (.bool false)) 16 (.agg (cdA c))) 17 (.bool true)) 18 (.bool false)) 19 (.bool false)) 20 (.agg (cdA d))) 21 (.bool true)) 22 (.bool false)) 23 (.bool false)) 24 (.string (strOf l))) 25 (.int .i64 ((l.length : Nat) : Int))) 26 (.bool (decide (300 < ((l.length : Nat) : Int))))) 29 (.agg (cdA c))) 30 (.agg (cvA c))) 31 (.string (strOf (fmtGo c.clean.nums)))) 32 (.string (strOf (fmtGo c.clean.nums)))) 33 (.agg (cdA c))) 34 (.string (strOf (fmtGo c.clean.nums)))) 35 (.bool false)) 36 (.string (strOf (fmtGo c.clean.nums)))) 37 (.string (strOf (cutL l)))) 38 (.slice (some ⟨g_50, 0, none⟩) 2 2)) 39 (.int .i64 2)) 40 (.int .i64 2) := ⟨e_139, (put_self hv_172).trans (congrArg (fun z => put1 z 40 (.int .i64 2)) ((put_self hv_171).trans (congrArg (fun z => put1 z 39 (.int .i64 2)) ((put_self hv_170).trans (congrArg (fun z => put1 z 38 (.slice (some ⟨g_50, 0, none⟩) 2 2)) ((put_self hv_169).trans (congrArg (fun z => put1 z 37 (.string (strOf (cutL l)))) ((put_self hv_168).trans (congrArg (fun z => put1 z 36 (.string (strOf (fmtGo c.clean.nums)))) ((put_self hv_167).trans (congrArg (fun z => put1 z 35 (.bool false)) ((put_self hv_166).trans (congrArg (fun z => put1 z 34 (.string (strOf (fmtGo c.clean.nums)))) ((put_self hv_165).trans (congrArg (fun z => put1 z 33 (.agg (cdA c))) ((put_self hv_164).trans (congrArg (fun z => put1 z 32 (.string (strOf (fmtGo c.clean.nums)))) ((put_self hv_163).trans (congrArg (fun z => put1 z 31 (.string (strOf (fmtGo c.clean.nums)))) ((put_self hv_162).trans (congrArg (fun z => put1 z 30 (.agg (cvA c))) ((put_self hv_161).trans (congrArg (fun z => put1 z 29 (.agg (cdA c))) ((put_self hv_160).trans (congrArg (fun z => put1 z 26 (.bool (decide (300 < ((l.length : Nat) : Int))))) ((put_self hv_159).trans (congrArg (fun z => put1 z 25 (.int .i64 ((l.length : Nat) : Int))) ((put_self hv_158).trans (congrArg (fun z => put1 z 24 (.string (strOf l))) ((put_self hv_157).trans (congrArg (fun z => put1 z 23 (.bool false)) ((put_self hv_156).trans (congrArg (fun z => put1 z 22 (.bool false)) ((put_self hv_155).trans (congrArg (fun z => put1 z 21 (.bool true)) ((put_self hv_154).trans (congrArg (fun z => put1 z 20 (.agg (cdA d))) ((put_self hv_153).trans (congrArg (fun z => put1 z 19 (.bool false)) ((put_self hv_152).trans (congrArg (fun z => put1 z 18 (.bool false)) ((put_self hv_151).trans (congrArg (fun z => put1 z 17 (.bool true)) ((put_self hv_150).trans (congrArg (fun z => put1 z 16 (.agg (cdA c))) ((put_self hv_149).trans (congrArg (fun z => put1 z 15 (.bool false)) ((put_self hv_148).trans (congrArg (fun z => put1 z 14 (.bool true)) ((put_self hv_147).trans (congrArg (fun z => put1 z 7 (.string (strOf (fmtGo c.clean.nums)))) ((put_self hv_146).trans (congrArg (fun z => put1 z 6 (.bool false)) ((put_self hv_145).trans (congrArg (fun z => put1 z 4 (.pointer (some ⟨g_4, 0, none⟩))) ((put_self hv_144).trans (congrArg (fun z => put1 z 3 (.pointer (some ⟨g_1, 0, none⟩))) ((put_self hv_143).trans (congrArg (fun z => put1 z 2 (.string (strOf (cutL l)))) ((put_self hv_142).trans (congrArg (fun z => put1 z 1 (.agg (cdA d))) (put_self hv_141))))))))))))))))))))))))))))))))))))))))))))))))))))))))))))))⟩
            clear hv_141 hv_142 hv_143 hv_144 hv_145 hv_146 hv_147 hv_148 hv_149 hv_150 hv_151 hv_152 hv_153 hv_154 hv_155 hv_156 hv_157 hv_158 hv_159 hv_160 hv_161 hv_162 hv_163 hv_164 hv_165 hv_166 hv_167 hv_168 hv_169 hv_170 hv_171 hv_172
            refine CR.more ?_
            refine CW.seq ?_
            refine CW.region ?_
            refine SL.v (.bool false) ?_
            refine SL.nil ?_
            refine CW.seq ?_
            refine CW.cond_false (by kernel_rfl) ?_
            refine CW.exit ?_
            repeat with_reducible first | refine PThen.exit ?_ | refine PBlock.out rfl ?_
            with_reducible refine PBlock.here ?_
            repeat with_reducible refine PBlock.normal ?_
            refine CW.seq ?_
            refine CW.region ?_
            refine SL.v (.bool true) ?_
            refine SL.nil ?_
            refine CW.ret ?_
            repeat with_reducible first | refine PThen.ret ?_ | refine PBlock.ret ?_
            refine PRet.tmp (t := 6) (v := .bool true) rfl rfl (by kernel_rfl) ?_
            exact ⟨rfl, hs_138.gr⟩
          · try rw [hb_137]
            refine SL.go ?_
            refine SL.v (.int .i64 (errK false)) ?_
            refine SL.go ?_
            refine SL.val (v := .bool false) (w' := w_132) rfl rfl (run_eqv (by kernel_rfl) (congrArg Value.bool (show (!((errK false) == 3)) = (false) from err_3 _))) ?_
            refine SL.go ?_
            refine SL.v (.bool false) ?_
            refine SL.v (.bool false) ?_
            refine SL.nil ?_
            refine CW.cond_false (by kernel_rfl) ?_
            refine CW.skip ?_
            refine CW.region ?_
            refine SL.v (.int .i64 2) ?_
            refine SL.v (.int .i64 2) ?_
            refine SL.nil ?_
            have hs_173 : SH [] w w_132 [pt g_1 (cdA c) 33, pt g_4 (cdA d) 33, pt g_50 #[.string (strOf (fmtGo c.clean.nums)), .string (strOf (cutL l))] 9] := hs_133.pick [0, 0, 0] rfl
            refine CR.fresh (fun e9 => e9 0 = .agg (cdA c) ∧ e9 1 = .agg (cdA d) ∧ e9 2 = .string (strOf (cutL l)) ∧ e9 3 = .pointer (some ⟨g_1, 0, none⟩) ∧ e9 4 = .pointer (some ⟨g_4, 0, none⟩) ∧ e9 6 = .bool false ∧ e9 7 = .string (strOf (fmtGo c.clean.nums)) ∧ e9 14 = .bool true ∧ e9 15 = .bool false ∧ e9 16 = .agg (cdA c) ∧ e9 17 = .bool true ∧ e9 18 = .bool false ∧ e9 19 = .bool false ∧ e9 20 = .agg (cdA d) ∧ e9 21 = .bool true ∧ e9 22 = .bool false ∧ e9 23 = .bool false ∧ e9 24 = .string (strOf l) ∧ e9 25 = .int .i64 ((l.length : Nat) : Int) ∧ e9 26 = .bool (decide (300 < ((l.length : Nat) : Int))) ∧ e9 29 = .agg (cdA c) ∧ e9 30 = .agg (cvA c) ∧ e9 31 = .string (strOf (fmtGo c.clean.nums)) ∧ e9 32 = .string (strOf (fmtGo c.clean.nums)) ∧ e9 33 = .agg (cdA c) ∧ e9 34 = .string (strOf (fmtGo c.clean.nums)) ∧ e9 35 = .bool false ∧ e9 36 = .string (strOf (fmtGo c.clean.nums)) ∧ e9 37 = .string (strOf (cutL l)) ∧ e9 38 = .slice (some ⟨g_50, 0, none⟩) 2 2 ∧ e9 39 = .int .i64 2 ∧ e9 40 = .int .i64 2) ⟨(by kernel_rfl), (by kernel_rfl), (by kernel_rfl), (by kernel_rfl), (by kernel_rfl), (by kernel_rfl), (by kernel_rfl), (by kernel_rfl), (by kernel_rfl), (by kernel_rfl), (by kernel_rfl), (by kernel_rfl), (by kernel_rfl), (by kernel_rfl), (by kernel_rfl), (by kernel_rfl), (by kernel_rfl), (by kernel_rfl), (by kernel_rfl), (by kernel_rfl), (by kernel_rfl), (by kernel_rfl), (by kernel_rfl), (by kernel_rfl), (by kernel_rfl), (by kernel_rfl), (by kernel_rfl), (by kernel_rfl), (by kernel_rfl), (by kernel_rfl), (by kernel_rfl), (by kernel_rfl)⟩ ?_
            rintro e_174 ⟨hv_176, hv_177, hv_178, hv_179, hv_180, hv_181, hv_182, hv_183, hv_184, hv_185, hv_186, hv_187, hv_188, hv_189, hv_190, hv_191, hv_192, hv_193, hv_194, hv_195, hv_196, hv_197, hv_198, hv_199, hv_200, hv_201, hv_202, hv_203, hv_204, hv_205, hv_206, hv_207⟩
            obtain ⟨e_175, rfl⟩ : ∃ e_175, e_174 = put1 (put1 (put1 (put1 (put1 (put1 (put1 (put1 (put1 (put1 (put1 (put1 (put1 (put1 (put1 (put1 (put1 (put1 (put1 (put1 (put1 (put1 (put1 (put1 (put1 (put1 (put1 (put1 (put1 (put1 (put1 (put1 e_175 0 (.agg (cdA c))) 1 (.agg (cdA d))) 2 (.string (strOf (cutL l)))) 3 (.pointer (some ⟨g_1, 0, none⟩))) 4 (.pointer (some ⟨g_4, 0, none⟩))) 6 (.bool false)) 7 (.string (strOf (fmtGo c.clean.nums)))) 14 (.bool true)) 15 (.bool false)) 16 (.agg (cdA c))) 17 (.bool true)) 18 (.bool false)) 19 (.bool false)) 20 (.agg (cdA d))) 21 (.bool true)) 22 (.bool false)) 23 (.bool false)) 24 (.string (strOf l))) 25 (.int .i64 ((l.length : Nat) : Int))) 26 (.bool (decide (300 < ((l.length : Nat) : Int))))) 29 (.agg (cdA c))) 30 (.agg (cvA c))) 31 (.string (strOf (fmtGo c.clean.nums)))) 32 (.string (strOf (fmtGo c.clean.nums)))) 33 (.agg (cdA c))) 34 (.string (strOf (fmtGo c.clean.nums)))) 35 (.bool false)) 36 (.string (strOf (fmtGo c.clean.nums)))) 37 (.string (strOf (cutL l)))) 38 (.slice (some ⟨g_50, 0, none⟩) 2 2)) 39 (.int .i64 2)) 40 (.int .i64 2) := ⟨e_174, (put_self hv_207).trans (congrArg (fun z => put1 z 40 (.int .i64 2)) ((put_self hv_206).trans (congrArg (fun z => put1 z 39 (.int .i64 2)) ((put_self hv_205).trans (congrArg (fun z => put1 z 38 (.slice (some ⟨g_50, 0, none⟩) 2 2)) ((put_self hv_204).trans (congrArg (fun z => put1 z 37 (.string (strOf (cutL l)))) ((put_self hv_203).trans (congrArg (fun z => put1 z 36 (.string (strOf (fmtGo c.clean.nums)))) ((put_self hv_202).trans (congrArg (fun z => put1 z 35 (.bool false)) ((put_self hv_201).trans (congrArg (fun z => put1 z 34 (.string (strOf (fmtGo c.clean.nums)))) ((put_self hv_200).trans (congrArg (fun z => put1 z 33 (.agg (cdA c))) ((put_self hv_199).trans (congrArg (fun z => put1 z 32 (.string (strOf (fmtGo c.clean.nums)))) ((put_self hv_198).trans (congrArg (fun z => put1 z 31 (.string (strOf (fmtGo c.clean.nums)))) ((put_self hv_197).trans (congrArg (fun z => put1 z 30 (.agg (cvA c))) ((put_self hv_196).trans (congrArg (fun z => put1 z 29 (.agg (cdA c))) ((put_self hv_195).trans (congrArg (fun z => put1 z 26 (.bool (decide (300 < ((l.length : Nat) : Int))))) ((put_self hv_194).trans (congrArg (fun z => put1 z 25 (.int .i64 ((l.length : Nat) : Int))) ((put_self hv_193).trans (congrArg (fun z => put1 z 24 (.string (strOf l))) ((put_self hv_192).trans (congrArg (fun z => put1 z 23 (.bool false)) ((put_self hv_191).trans (congrArg (fun z => put1 z 22 (.bool false)) ((put_self hv_190).trans (congrArg (fun z => put1 z 21 (.bool true)) ((put_self hv_189).trans (congrArg (fun z => put1 z 20 (.agg (cdA d))) ((put_self hv_188).trans (congrArg (fun z => put1 z 19 (.bool false)) ((put_self hv_187).trans (congrArg (fun z => put1 z 18 (.bool false)) ((put_self hv_186).trans (congrArg (fun z => put1 z 17 (.bool true)) ((put_self hv_185).trans (congrArg (fun z => put1 z 16 (.agg (cdA c))) ((put_self hv_184).trans (congrArg (fun z => put1 z 15 (.bool false)) ((put_self hv_183).trans (congrArg (fun z => put1 z 14 (.bool true)) ((put_self hv_182).trans (congrArg (fun z => put1 z 7 (.string (strOf (fmtGo c.clean.nums)))) ((put_self hv_181).trans (congrArg (fun z => put1 z 6 (.bool false)) ((put_self hv_180).trans (congrArg (fun z => put1 z 4 (.pointer (some ⟨g_4, 0, none⟩))) ((put_self hv_179).trans (congrArg (fun z => put1 z 3 (.pointer (some ⟨g_1, 0, none⟩))) ((put_self hv_178).trans (congrArg (fun z => put1 z 2 (.string (strOf (cutL l)))) ((put_self hv_177).trans (congrArg (fun z => put1 z 1 (.agg (cdA d))) (put_self hv_176))))))))))))))))))))))))))))))))))))))))))))))))))))))))))))))⟩
            clear hv_176 hv_177 hv_178 hv_179 hv_180 hv_181 hv_182 hv_183 hv_184 hv_185 hv_186 hv_187 hv_188 hv_189 hv_190 hv_191 hv_192 hv_193 hv_194 hv_195 hv_196 hv_197 hv_198 hv_199 hv_200 hv_201 hv_202 hv_203 hv_204 hv_205 hv_206 hv_207
            refine CR.more ?_
            refine CW.seq ?_
            refine CW.region ?_
            refine SL.v (.bool false) ?_
            refine SL.nil ?_
            refine CW.seq ?_
            refine CW.cond_false (by kernel_rfl) ?_
            refine CW.exit ?_
            repeat with_reducible first | refine PThen.exit ?_ | refine PBlock.out rfl ?_
            with_reducible refine PBlock.here ?_
            repeat with_reducible refine PBlock.normal ?_
            refine CW.seq ?_
            refine CW.region ?_
            refine SL.v (.bool true) ?_
            refine SL.nil ?_
            refine CW.ret ?_
            repeat with_reducible first | refine PThen.ret ?_ | refine PBlock.ret ?_
            refine PRet.tmp (t := 6) (v := .bool true) rfl rfl (by kernel_rfl) ?_
            exact ⟨rfl, hs_173.gr⟩
      · try rw [hb_77]
        refine SL.go ?_
        refine SL.v (.int .i64 (errK false)) ?_
        refine SL.go ?_
        refine SL.val (v := .bool false) (w' := w_72) rfl rfl (run_eqv (by kernel_rfl) (congrArg Value.bool (show (!((errK false) == 3)) = (false) from err_3 _))) ?_
        refine SL.go ?_
        refine SL.v (.bool false) ?_
        refine SL.v (.bool false) ?_
        refine SL.nil ?_
        refine CW.cond_false (by kernel_rfl) ?_
        refine CW.skip ?_
        refine CW.region ?_
        refine SL.v (.int .i64 1) ?_
        refine SL.v (.int .i64 1) ?_
        refine SL.nil ?_
        have hs_208 : SH [] w w_72 [pt g_1 (cdA c) 33, pt g_4 (cdA d) 33, pt g_50 #[.string (strOf (fmtGo c.clean.nums)), .string (strOf (cutL l))] 9] := hs_73.pick [0, 0, 0] rfl
        refine CR.fresh (fun e9 => e9 0 = .agg (cdA c) ∧ e9 1 = .agg (cdA d) ∧ e9 2 = .string (strOf (cutL l)) ∧ e9 3 = .pointer (some ⟨g_1, 0, none⟩) ∧ e9 4 = .pointer (some ⟨g_4, 0, none⟩) ∧ e9 6 = .bool false ∧ e9 7 = .string (strOf (fmtGo c.clean.nums)) ∧ e9 14 = .bool true ∧ e9 15 = .bool false ∧ e9 16 = .agg (cdA c) ∧ e9 17 = .bool true ∧ e9 18 = .bool false ∧ e9 19 = .bool false ∧ e9 20 = .agg (cdA d) ∧ e9 21 = .bool true ∧ e9 22 = .bool false ∧ e9 23 = .bool false ∧ e9 24 = .string (strOf l) ∧ e9 25 = .int .i64 ((l.length : Nat) : Int) ∧ e9 26 = .bool (decide (300 < ((l.length : Nat) : Int))) ∧ e9 29 = .agg (cdA c) ∧ e9 30 = .agg (cvA c) ∧ e9 31 = .string (strOf (fmtGo c.clean.nums)) ∧ e9 32 = .string (strOf (fmtGo c.clean.nums)) ∧ e9 33 = .agg (cdA c) ∧ e9 34 = .string (strOf (fmtGo c.clean.nums)) ∧ e9 35 = .bool false ∧ e9 36 = .string (strOf (fmtGo c.clean.nums)) ∧ e9 37 = .string (strOf (cutL l)) ∧ e9 38 = .slice (some ⟨g_50, 0, none⟩) 2 2 ∧ e9 39 = .int .i64 2 ∧ e9 40 = .int .i64 1) ⟨(by kernel_rfl), (by kernel_rfl), (by kernel_rfl), (by kernel_rfl), (by kernel_rfl), (by kernel_rfl), (by kernel_rfl), (by kernel_rfl), (by kernel_rfl), (by kernel_rfl), (by kernel_rfl), (by kernel_rfl), (by kernel_rfl), (by kernel_rfl), (by kernel_rfl), (by kernel_rfl), (by kernel_rfl), (by kernel_rfl), (by kernel_rfl), (by kernel_rfl), (by kernel_rfl), (by kernel_rfl), (by kernel_rfl), (by kernel_rfl), (by kernel_rfl), (by kernel_rfl), (by kernel_rfl), (by kernel_rfl), (by kernel_rfl), (by kernel_rfl), (by kernel_rfl), (by kernel_rfl)⟩ ?_
        rintro e_209 ⟨hv_211, hv_212, hv_213, hv_214, hv_215, hv_216, hv_217, hv_218, hv_219, hv_220, hv_221, hv_222, hv_223, hv_224, hv_225, hv_226, hv_227, hv_228, hv_229, hv_230, hv_231, hv_232, hv_233, hv_234, hv_235, hv_236, hv_237, hv_238, hv_239, hv_240, hv_241, hv_242⟩
        obtain ⟨e_210, rfl⟩ : ∃ e_210, e_209 = put1 (put1 (put1 (put1 (put1 (put1 (put1 (put1 (put1 (put1 (put1 (put1 (put1 (put1 (put1 (put1 (put1 (put1 (put1 (put1 (put1 (put1 (put1 (put1 (put1 (put1 (put1 (put1 (put1 (put1 (put1 (put1 e_210 0 (.agg (cdA c))) 1 (.agg (cdA d))) 2 (.string (strOf (cutL l)))) 3 (.pointer (some ⟨g_1, 0, none⟩))) 4 (.pointer (some ⟨g_4, 0, none⟩))) 6 (.bool false)) 7 (.string (strOf (fmtGo c.clean.nums)))) 14 (.bool true)) 15 (.bool false)) 16 (.agg (cdA c))) 17 (.bool true)) 18 (.bool false)) 19 (.bool false)) 20 (.agg (cdA d))) 21 (.bool true)) 22 (.bool false)) 23 (.bool false)) 24 (.string (strOf l))) 25 (.int .i64 ((l.length : Nat) : Int))) 26 (.bool (decide (300 < ((l.length : Nat) : Int))))) 29 (.agg (cdA c))) 30 (.agg (cvA c))) 31 (.string (strOf (fmtGo c.clean.nums)))) 32 (.string (strOf (fmtGo c.clean.nums)))) 33 (.agg (cdA c))) 34 (.string (strOf (fmtGo c.clean.nums)))) 35 (.bool false)) 36 (.string (strOf (fmtGo c.clean.nums)))) 37 (.string (strOf (cutL l)))) 38 (.slice (some ⟨g_50, 0, none⟩) 2 2)) 39 (.int .i64 2)) 40 (.int .i64 1) := ⟨e_209, (put_self hv_242).trans (congrArg (fun z => put1 z 40 (.int .i64 1)) ((put_self hv_241).trans (congrArg (fun z => put1 z 39 (.int .i64 2)) ((put_self hv_240).trans (congrArg (fun z => put1 z 38 (.slice (some ⟨g_50, 0, none⟩) 2 2)) ((put_self hv_239).trans (congrArg (fun z => put1 z 37 (.string (strOf (cutL l)))) ((put_self hv_238).trans (congrArg (fun z => put1 z 36 (.string (strOf (fmtGo c.clean.nums)))) ((put_self hv_237).trans (congrArg (fun z => put1 z 35 (.bool false)) ((put_self hv_236).trans (congrArg (fun z => put1 z 34 (.string (strOf (fmtGo c.clean.nums)))) ((put_self hv_235).trans (congrArg (fun z => put1 z 33 (.agg (cdA c))) ((put_self hv_234).trans (congrArg (fun z => put1 z 32 (.string (strOf (fmtGo c.clean.nums)))) ((put_self hv_233).trans (congrArg (fun z => put1 z 31 (.string (strOf (fmtGo c.clean.nums)))) ((put_self hv_232).trans (congrArg (fun z => put1 z 30 (.agg (cvA c))) ((put_self hv_231).trans (congrArg (fun z => put1 z 29 (.agg (cdA c))) ((put_self hv_230).trans (congrArg (fun z => put1 z 26 (.bool (decide (300 < ((l.length : Nat) : Int))))) ((put_self hv_229).trans (congrArg (fun z => put1 z 25 (.int .i64 ((l.length : Nat) : Int))) ((put_self hv_228).trans (congrArg (fun z => put1 z 24 (.string (strOf l))) ((put_self hv_227).trans (congrArg (fun z => put1 z 23 (.bool false)) ((put_self hv_226).trans (congrArg (fun z => put1 z 22 (.bool false)) ((put_self hv_225).trans (congrArg (fun z => put1 z 21 (.bool true)) ((put_self hv_224).trans (congrArg (fun z => put1 z 20 (.agg (cdA d))) ((put_self hv_223).trans (congrArg (fun z => put1 z 19 (.bool false)) ((put_self hv_222).trans (congrArg (fun z => put1 z 18 (.bool false)) ((put_self hv_221).trans (congrArg (fun z => put1 z 17 (.bool true)) ((put_self hv_220).trans (congrArg (fun z => put1 z 16 (.agg (cdA c))) ((put_self hv_219).trans (congrArg (fun z => put1 z 15 (.bool false)) ((put_self hv_218).trans (congrArg (fun z => put1 z 14 (.bool true)) ((put_self hv_217).trans (congrArg (fun z => put1 z 7 (.string (strOf (fmtGo c.clean.nums)))) ((put_self hv_216).trans (congrArg (fun z => put1 z 6 (.bool false)) ((put_self hv_215).trans (congrArg (fun z => put1 z 4 (.pointer (some ⟨g_4, 0, none⟩))) ((put_self hv_214).trans (congrArg (fun z => put1 z 3 (.pointer (some ⟨g_1, 0, none⟩))) ((put_self hv_213).trans (congrArg (fun z => put1 z 2 (.string (strOf (cutL l)))) ((put_self hv_212).trans (congrArg (fun z => put1 z 1 (.agg (cdA d))) (put_self hv_211))))))))))))))))))))))))))))))))))))))))))))))))))))))))))))))⟩
        clear hv_211 hv_212 hv_213 hv_214 hv_215 hv_216 hv_217 hv_218 hv_219 hv_220 hv_221 hv_222 hv_223 hv_224 hv_225 hv_226 hv_227 hv_228 hv_229 hv_230 hv_231 hv_232 hv_233 hv_234 hv_235 hv_236 hv_237 hv_238 hv_239 hv_240 hv_241 hv_242
        refine CR.more ?_
        refine CW.seq ?_
        refine CW.region ?_
        refine SL.v (.bool true) ?_
        refine SL.nil ?_
        refine CW.seq ?_
        refine CW.cond_true (by kernel_rfl) ?_
        refine CW.skip ?_
        refine CW.seq ?_
        refine CW.block ?_
        refine CW.seq ?_
        refine CW.region ?_
        refine SL.v (.pointer (some ⟨g_50, 1, none⟩)) ?_
        refine SL.load (g := g_50) (off := 1) (v := .string (strOf (cutL l))) rfl rfl rfl (by kernel_rfl) (hs_208.pt_at (i := 2) rfl) (by kernel_rfl) ?_
        refine SL.v (.string (strOf (cutL l))) ?_
        refine SL.nil ?_
        refine CW.seq ?_
        refine CW.region ?_
        refine SL.load (g := g_4) (off := 0) (v := .agg (cdA d)) rfl rfl rfl (by kernel_rfl) (hs_208.pt_at (i := 1) rfl) (by kernel_rfl) ?_
        refine SL.call (f := 9) (args := #[.agg (cdA d)]) (w1 := w_72) rfl rfl (by kernel_rfl) (own19 d w_72 hmd) ?_
        rintro x w_243 ⟨rfl, hc_244⟩
        refine ⟨.agg (cvA d), rfl, ?_⟩
        have hs_245 := hs_208.grow hc_244
        refine SL.v (.string (strOf (cutL l))) ?_
        refine SL.call (f := 18) (args := #[.agg (cvA d), .string (strOf (cutL l))]) (w1 := w_243) rfl rfl (by kernel_rfl) (srst_any d (cutL l) w_243 hokd (cut_b hl) (cut_l l)) ?_
        rintro x w_246 ⟨rfl, hc_247⟩
        refine ⟨.tuple #[.agg (cvA (resC d (cutL l))), .int .i64 (errK (resK d (cutL l)))], rfl, ?_⟩
        have hs_248 := hs_245.grow hc_247
        refine SL.v (.tuple #[.agg (cvA (resC d (cutL l))), .int .i64 (errK (resK d (cutL l)))]) ?_
        refine SL.v (.agg (cvA (resC d (cutL l)))) ?_
        refine SL.v (.int .i64 (errK (resK d (cutL l)))) ?_
        refine SL.newH (mk := fun g => .pointer (some ⟨g, 0, none⟩)) (C := czA) (T := 46) hs_248 rfl rfl (by kernel_rfl) (fun g_249 w_250 hs_251 => ?_)
        have hs_251 : SH [] w w_250 [pt g_1 (cdA c) 33, pt g_4 (cdA d) 33, pt g_50 #[.string (strOf (fmtGo c.clean.nums)), .string (strOf (cutL l))] 9, pt g_249 czA 46] := hs_251
        refine SL.storeH (i := 3) (g := g_249) (off := 0) (v := .agg (cvA (resC d (cutL l)))) (L' := [pt g_1 (cdA c) 33, pt g_4 (cdA d) 33, pt g_50 #[.string (strOf (fmtGo c.clean.nums)), .string (strOf (cutL l))] 9, pt g_249 (cvA (resC d (cutL l))) 46]) hs_251 rfl rfl rfl (by kernel_rfl) (by kernel_rfl) rfl (by kernel_rfl) (by kernel_rfl) rfl (by kernel_rfl) rfl (fun w_252 hs_253 => ?_)
        refine SL.v (.int .i64 (errK (resK d (cutL l)))) ?_
        refine SL.nil ?_
        refine CW.seq ?_
        refine CW.region ?_
        refine SL.load (g := g_4) (off := 0) (v := .agg (cdA d)) rfl rfl rfl (by kernel_rfl) (hs_253.pt_at (i := 1) rfl) (by kernel_rfl) ?_
        refine SL.v (.string (strOf (cutL l))) ?_
        refine SL.call (f := 19) (args := #[.agg (cdA d), .string (strOf (cutL l))]) (w1 := w_252) rfl rfl (by kernel_rfl) (srrst_any d (cutL l) w_252 hokd (cut_b hl) (cut_l l)) ?_
        rintro x w_254 ⟨rfl, hc_255⟩
        refine ⟨.tuple #[.agg (cdA (resC d (cutL l))), .bool (resK d (cutL l))], rfl, ?_⟩
        have hs_256 := hs_253.grow hc_255
        refine SL.v (.tuple #[.agg (cdA (resC d (cutL l))), .bool (resK d (cutL l))]) ?_
        refine SL.v (.agg (cdA (resC d (cutL l)))) ?_
        refine SL.v (.bool (resK d (cutL l))) ?_
        refine SL.newH (mk := fun g => .pointer (some ⟨g, 0, none⟩)) (C := czD) (T := 33) hs_256 rfl rfl (by kernel_rfl) (fun g_257 w_258 hs_259 => ?_)
        have hs_259 : SH [] w w_258 [pt g_1 (cdA c) 33, pt g_4 (cdA d) 33, pt g_50 #[.string (strOf (fmtGo c.clean.nums)), .string (strOf (cutL l))] 9, pt g_249 (cvA (resC d (cutL l))) 46, pt g_257 czD 33] := hs_259
        refine SL.storeH (i := 4) (g := g_257) (off := 0) (v := .agg (cdA (resC d (cutL l)))) (L' := [pt g_1 (cdA c) 33, pt g_4 (cdA d) 33, pt g_50 #[.string (strOf (fmtGo c.clean.nums)), .string (strOf (cutL l))] 9, pt g_249 (cvA (resC d (cutL l))) 46, pt g_257 (cdA (resC d (cutL l))) 33]) hs_259 rfl rfl rfl (by kernel_rfl) (by kernel_rfl) rfl (by kernel_rfl) (by kernel_rfl) rfl (by kernel_rfl) rfl (fun w_260 hs_261 => ?_)
        refine SL.v (.bool (resK d (cutL l))) ?_
        refine SL.nil ?_
        refine CW.seq ?_
        have HGR : GrL [fun v _ => v = .agg (cvA (resC d (cutL l))), fun v _ => v = .agg (cdA (resC d (cutL l))), fun v _ => v = .agg (cdA (resC d (cutL l))), fun v _ => v = .bool false, fun v _ => v = .bool false, fun v _ => v = .int .i64 (errK (resK d (cutL l))), fun v _ => v = .bool (resK d (cutL l)), fun v _ => v = .bool (resK d (cutL l))] := ⟨fun _ _ _ _ h => h, ⟨fun _ _ _ _ h => h, ⟨fun _ _ _ _ h => h, ⟨fun _ _ _ _ h => h, ⟨fun _ _ _ _ h => h, ⟨fun _ _ _ _ h => h, ⟨fun _ _ _ _ h => h, ⟨fun _ _ _ _ h => h, trivial⟩⟩⟩⟩⟩⟩⟩⟩
        refine CW.draw 8 (FW [fun v _ => v = .agg (cvA (resC d (cutL l))), fun v _ => v = .agg (cdA (resC d (cutL l))), fun v _ => v = .agg (cdA (resC d (cutL l))), fun v _ => v = .bool false, fun v _ => v = .bool false, fun v _ => v = .int .i64 (errK (resK d (cutL l))), fun v _ => v = .bool (resK d (cutL l)), fun v _ => v = .bool (resK d (cutL l))]) (fun W => Gr w_260 W) (by kernel_rfl) (by kernel_rfl) (by kernel_rfl) (by kernel_rfl) (by kernel_rfl) (Gr.refl _).drew ?_ ?_
        · refine ⟨?_, ⟨?_, ⟨?_, ⟨?_, ⟨?_, ⟨?_, ⟨?_, ⟨?_, trivial⟩⟩⟩⟩⟩⟩⟩⟩
          · intro L ys W hB hF hP K hK
            show OpE _ _ _ W K
            exact OpE.load (g := g_249) (off := 0) (v := .agg (cvA (resC d (cutL l)))) rfl (by kernel_rfl) ((hs_261.grow hB).pt_at (i := 3) rfl) (by kernel_rfl) (hK _ W hB rfl (fun _ _ h => h))
          · intro L ys W hB hF hP K hK
            show OpE _ _ _ W K
            exact OpE.known (j := 0) (v := .agg (cvA (resC d (cutL l)))) (hF 0 (hP.1 rfl)) (OpE.call 8 #[.agg (cvA (resC d (cutL l)))] W _ (by kernel_rfl) (told19 (resC d (cutL l)) W (res_ok hokd _).modes) (fun x w' hx => by obtain ⟨rfl, hg⟩ := hx; exact ⟨_, rfl, hK _ w' (hB.trans hg) rfl (fun _ _ h => FW.gr HGR hg h)⟩))
          · intro L ys W hB hF hP K hK
            show OpE _ _ _ W K
            exact OpE.load (g := g_257) (off := 0) (v := .agg (cdA (resC d (cutL l)))) rfl (by kernel_rfl) ((hs_261.grow hB).pt_at (i := 4) rfl) (by kernel_rfl) (hK _ W hB rfl (fun _ _ h => h))
          · intro L ys W hB hF hP K hK
            show OpE _ _ _ W K
            exact OpE.known (j := 1) (v := .agg (cdA (resC d (cutL l)))) (hF 1 (hP.1 rfl)) (OpE.known (j := 2) (v := .agg (cdA (resC d (cutL l)))) (hF 2 (hP.2.1 rfl)) (OpE.val (.bool false) W (run_neq_op (xs := (cdA (resC d (cutL l)))) (ys := (cdA (resC d (cutL l)))) (b := true) rfl (by kernel_rfl) (by kernel_rfl) (by kernel_rfl) (run_eql_flat (x := .agg (cdA (resC d (cutL l)))) (y := .agg (cdA (resC d (cutL l)))) (b := true) (m := 6) (lx := (litsC (resC d (cutL l)))) (ly := (litsC (resC d (cutL l)))) (by kernel_rfl) (by kernel_rfl) (by kernel_rfl) (by kernel_rfl) (by kernel_rfl) (by kernel_rfl) (Cor.Ok.lits (res_ok hokd _)) (Cor.Ok.lits (res_ok hokd _)) ⟨fun _ => rfl, fun _ => rfl⟩)) (hK _ W hB rfl (fun _ _ h => h))))
          · intro L ys W hB hF hP K hK
            show OpE _ _ _ W K
            exact OpE.known (j := 3) (v := .bool false) (hF 3 (hP.1 rfl)) (OpE.val (.bool false) W (by kernel_rfl) (hK _ W hB rfl (fun _ _ h => h)))
          · intro L ys W hB hF hP K hK
            refine ⟨61, false, rfl, (show fillE _ 0 ys _ 61 = _ from (hF 4 (hP.1 rfl))), .inl ⟨rfl, ?_⟩⟩
            exact OpE.val (.int .i64 (errK (resK d (cutL l)))) W (by kernel_rfl) (hK _ W hB rfl (fun _ _ h => h))
          · intro L ys W hB hF hP K hK
            refine ⟨61, false, rfl, (show fillE _ 0 ys _ 61 = _ from (hF 4 (hP.2.1 rfl))), .inl ⟨rfl, ?_⟩⟩
            exact OpE.known (j := 5) (v := .int .i64 (errK (resK d (cutL l)))) (hF 5 (hP.1 rfl)) (OpE.val (.bool (resK d (cutL l))) W (run_eqv (by kernel_rfl) (congrArg Value.bool (show ((errK (resK d (cutL l))) == 0) = (resK d (cutL l)) from err_0 _))) (hK _ W hB rfl (fun _ _ h => h)))
          · intro L ys W hB hF hP K hK
            refine ⟨61, false, rfl, (show fillE _ 0 ys _ 61 = _ from (hF 4 (hP.1 rfl))), .inl ⟨rfl, ?_⟩⟩
            exact OpE.val (.bool (resK d (cutL l))) W (by kernel_rfl) (hK _ W hB rfl (fun _ _ h => h))
        · intro ys_265 w_262 hs_263 hF_264
          have hg_266 := hs_263
          have hs_263 : SH [] w w_262 [pt g_1 (cdA c) 33, pt g_4 (cdA d) 33, pt g_50 #[.string (strOf (fmtGo c.clean.nums)), .string (strOf (cutL l))] 9, pt g_249 (cvA (resC d (cutL l))) 46, pt g_257 (cdA (resC d (cutL l))) 33] := hs_261.grow hg_266
          refine SL.knownY (j := 0) (v := .agg (cvA (resC d (cutL l)))) (show ys_265 0 = .agg (cvA (resC d (cutL l))) from hF_264 0 (by decide)) (SL.knownY (j := 1) (v := .agg (cdA (resC d (cutL l)))) (show ys_265 1 = .agg (cdA (resC d (cutL l))) from hF_264 1 (by decide)) (SL.knownY (j := 2) (v := .agg (cdA (resC d (cutL l)))) (show ys_265 2 = .agg (cdA (resC d (cutL l))) from hF_264 2 (by decide)) (SL.knownY (j := 3) (v := .bool false) (show ys_265 3 = .bool false from hF_264 3 (by decide)) (SL.knownY (j := 4) (v := .bool false) (show ys_265 4 = .bool false from hF_264 4 (by decide)) (SL.knownY (j := 5) (v := .int .i64 (errK (resK d (cutL l)))) (show ys_265 5 = .int .i64 (errK (resK d (cutL l))) from hF_264 5 (by decide)) (SL.knownY (j := 6) (v := .bool (resK d (cutL l))) (show ys_265 6 = .bool (resK d (cutL l)) from hF_264 6 (by decide)) (SL.knownY (j := 7) (v := .bool (resK d (cutL l))) (show ys_265 7 = .bool (resK d (cutL l)) from hF_264 7 (by decide)) (?_))))))))
          clear hF_264 HGR
          refine SL.go ?_
          refine SL.val (v := .bool false) (w' := w_262) rfl rfl (run_boolne (a := resK d (cutL l)) (b := resK d (cutL l)) (c := false) rfl (by kernel_rfl) (by kernel_rfl) (by kernel_rfl) (by cases (resK d (cutL l)) <;> rfl)) ?_
          refine SL.v (.bool false) ?_
          refine SL.v (.bool false) ?_
          refine SL.go ?_
          refine SL.v (.bool (resK d (cutL l))) ?_
          refine SL.go ?_
          refine SL.v (.bool (!(resK d (cutL l)))) ?_
          refine SL.go ?_
          refine SL.v (.bool (!(resK d (cutL l)))) ?_
          rcases Bool.eq_false_or_eq_true (resK d (cutL l)) with hb_267 | hb_267
          · try rw [hb_267]
            refine SL.no false ?_
            refine SL.no false ?_
            refine SL.go ?_
            refine SL.v (.bool false) ?_
            refine SL.v (.bool false) ?_
            refine SL.nil ?_
            refine CW.cond_false (by kernel_rfl) ?_
            refine CW.skip ?_
            refine CW.region ?_
            refine SL.v (.int .i64 2) ?_
            refine SL.v (.int .i64 2) ?_
            refine SL.nil ?_
            have hs_268 : SH [] w w_262 [pt g_1 (cdA c) 33, pt g_4 (cdA d) 33, pt g_50 #[.string (strOf (fmtGo c.clean.nums)), .string (strOf (cutL l))] 9] := hs_263.pick [0, 0, 0] rfl
            refine CR.fresh (fun e9 => e9 0 = .agg (cdA c) ∧ e9 1 = .agg (cdA d) ∧ e9 2 = .string (strOf (cutL l)) ∧ e9 3 = .pointer (some ⟨g_1, 0, none⟩) ∧ e9 4 = .pointer (some ⟨g_4, 0, none⟩) ∧ e9 6 = .bool false ∧ e9 7 = .string (strOf (fmtGo c.clean.nums)) ∧ e9 14 = .bool true ∧ e9 15 = .bool false ∧ e9 16 = .agg (cdA c) ∧ e9 17 = .bool true ∧ e9 18 = .bool false ∧ e9 19 = .bool false ∧ e9 20 = .agg (cdA d) ∧ e9 21 = .bool true ∧ e9 22 = .bool false ∧ e9 23 = .bool false ∧ e9 24 = .string (strOf l) ∧ e9 25 = .int .i64 ((l.length : Nat) : Int) ∧ e9 26 = .bool (decide (300 < ((l.length : Nat) : Int))) ∧ e9 29 = .agg (cdA c) ∧ e9 30 = .agg (cvA c) ∧ e9 31 = .string (strOf (fmtGo c.clean.nums)) ∧ e9 32 = .string (strOf (fmtGo c.clean.nums)) ∧ e9 33 = .agg (cdA c) ∧ e9 34 = .string (strOf (fmtGo c.clean.nums)) ∧ e9 35 = .bool false ∧ e9 36 = .string (strOf (fmtGo c.clean.nums)) ∧ e9 37 = .string (strOf (cutL l)) ∧ e9 38 = .slice (some ⟨g_50, 0, none⟩) 2 2 ∧ e9 39 = .int .i64 2 ∧ e9 40 = .int .i64 2) ⟨(by kernel_rfl), (by kernel_rfl), (by kernel_rfl), (by kernel_rfl), (by kernel_rfl), (by kernel_rfl), (by kernel_rfl), (by kernel_rfl), (by kernel_rfl), (by kernel_rfl), (by kernel_rfl), (by kernel_rfl), (by kernel_rfl), (by kernel_rfl), (by kernel_rfl), (by kernel_rfl), (by kernel_rfl), (by kernel_rfl), (by kernel_rfl), (by kernel_rfl), (by kernel_rfl), (by kernel_rfl), (by kernel_rfl), (by kernel_rfl), (by kernel_rfl), (by kernel_rfl), (by kernel_rfl), (by kernel_rfl), (by kernel_rfl), (by kernel_rfl), (by kernel_rfl), (by kernel_rfl)⟩ ?_
            rintro e_269 ⟨hv_271, hv_272, hv_273, hv_274, hv_275, hv_276, hv_277, hv_278, hv_279, hv_280, hv_281, hv_282, hv_283, hv_284, hv_285, hv_286, hv_287, hv_288, hv_289, hv_290, hv_291, hv_292, hv_293, hv_294, hv_295, hv_296, hv_297, hv_298, hv_299, hv_300, hv_301, hv_302⟩
            obtain ⟨e_270, rfl⟩ : ∃ e_270, e_269 = put1 (put1 (put1 (put1 (put1 (put1 (put1 (put1 (put1 (put1 (put1 (put1 (put1 (put1 (put1 (put1 (put1 (put1 (put1 (put1 (put1 (put1 (put1 (put1 (put1 (put1 (put1 (put1 (put1 (put1 (put1 (put1 e_270 0 (.agg (cdA c))) 1 (.agg (cdA d))) 2 (.string (strOf (cutL l)))) 3 (.pointer (some ⟨g_1, 0, none⟩))) 4 (.pointer (some ⟨g_4, 0, none⟩))) 6 (.bool false)) 7 (.string (strOf (fmtGo c.clean.nums)))) 14 (.bool true)) 15 (.bool false)) 16 (.agg (cdA c))) 17 (.bool true)) 18 (.bool false)) 19 (.bool false)) 20 (.agg (cdA d))) 21 (.bool true)) 22 (.bool false)) 23 (.bool false)) 24 (.string (strOf l))) 25 (.int .i64 ((l.length : Nat) : Int))) 26 (.bool (decide (300 < ((l.length : Nat) : Int))))) 29 (.agg (cdA c))) 30 (.agg (cvA c))) 31 (.string (strOf (fmtGo c.clean.nums)))) 32 (.string (strOf (fmtGo c.clean.nums)))) 33 (.agg (cdA c))) 34 (.string (strOf (fmtGo c.clean.nums)))) 35 (.bool false)) 36 (.string (strOf (fmtGo c.clean.nums)))) 37 (.string (strOf (cutL l)))) 38 (.slice (some ⟨g_50, 0, none⟩) 2 2)) 39 (.int .i64 2)) 40 (.int .i64 2) := ⟨e_269, (put_self hv_302).trans (congrArg (fun z => put1 z 40 (.int .i64 2)) ((put_self hv_301).trans (congrArg (fun z => put1 z 39 (.int .i64 2)) ((put_self hv_300).trans (congrArg (fun z => put1 z 38 (.slice (some ⟨g_50, 0, none⟩) 2 2)) ((put_self hv_299).trans (congrArg (fun z => put1 z 37 (.string (strOf (cutL l)))) ((put_self hv_298).trans (congrArg (fun z => put1 z 36 (.string (strOf (fmtGo c.clean.nums)))) ((put_self hv_297).trans (congrArg (fun z => put1 z 35 (.bool false)) ((put_self hv_296).trans (congrArg (fun z => put1 z 34 (.string (strOf (fmtGo c.clean.nums)))) ((put_self hv_295).trans (congrArg (fun z => put1 z 33 (.agg (cdA c))) ((put_self hv_294).trans (congrArg (fun z => put1 z 32 (.string (strOf (fmtGo c.clean.nums)))) ((put_self hv_293).trans (congrArg (fun z => put1 z 31 (.string (strOf (fmtGo c.clean.nums)))) ((put_self hv_292).trans (congrArg (fun z => put1 z 30 (.agg (cvA c))) ((put_self hv_291).trans (congrArg (fun z => put1 z 29 (.agg (cdA c))) ((put_self hv_290).trans (congrArg (fun z => put1 z 26 (.bool (decide (300 < ((l.length : Nat) : Int))))) ((put_self hv_289).trans (congrArg (fun z => put1 z 25 (.int .i64 ((l.length : Nat) : Int))) ((put_self hv_288).trans (congrArg (fun z => put1 z 24 (.string (strOf l))) ((put_self hv_287).trans (congrArg (fun z => put1 z 23 (.bool false)) ((put_self hv_286).trans (congrArg (fun z => put1 z 22 (.bool false)) ((put_self hv_285).trans (congrArg (fun z => put1 z 21 (.bool true)) ((put_self hv_284).trans (congrArg (fun z => put1 z 20 (.agg (cdA d))) ((put_self hv_283).trans (congrArg (fun z => put1 z 19 (.bool false)) ((put_self hv_282).trans (congrArg (fun z => put1 z 18 (.bool false)) ((put_self hv_281).trans (congrArg (fun z => put1 z 17 (.bool true)) ((put_self hv_280).trans (congrArg (fun z => put1 z 16 (.agg (cdA c))) ((put_self hv_279).trans (congrArg (fun z => put1 z 15 (.bool false)) ((put_self hv_278).trans (congrArg (fun z => put1 z 14 (.bool true)) ((put_self hv_277).trans (congrArg (fun z => put1 z 7 (.string (strOf (fmtGo c.clean.nums)))) ((put_self hv_276).trans (congrArg (fun z => put1 z 6 (.bool false)) ((put_self hv_275).trans (congrArg (fun z => put1 z 4 (.pointer (some ⟨g_4, 0, none⟩))) ((put_self hv_274).trans (congrArg (fun z => put1 z 3 (.pointer (some ⟨g_1, 0, none⟩))) ((put_self hv_273).trans (congrArg (fun z => put1 z 2 (.string (strOf (cutL l)))) ((put_self hv_272).trans (congrArg (fun z => put1 z 1 (.agg (cdA d))) (put_self hv_271))))))))))))))))))))))))))))))))))))))))))))))))))))))))))))))⟩
            clear hv_271 hv_272 hv_273 hv_274 hv_275 hv_276 hv_277 hv_278 hv_279 hv_280 hv_281 hv_282 hv_283 hv_284 hv_285 hv_286 hv_287 hv_288 hv_289 hv_290 hv_291 hv_292 hv_293 hv_294 hv_295 hv_296 hv_297 hv_298 hv_299 hv_300 hv_301 hv_302
            refine CR.more ?_
            refine CW.seq ?_
            refine CW.region ?_
            refine SL.v (.bool false) ?_
            refine SL.nil ?_
            refine CW.seq ?_
            refine CW.cond_false (by kernel_rfl) ?_
            refine CW.exit ?_
            repeat with_reducible first | refine PThen.exit ?_ | refine PBlock.out rfl ?_
            with_reducible refine PBlock.here ?_
            repeat with_reducible refine PBlock.normal ?_
            refine CW.seq ?_
            refine CW.region ?_
            refine SL.v (.bool true) ?_
            refine SL.nil ?_
            refine CW.ret ?_
            repeat with_reducible first | refine PThen.ret ?_ | refine PBlock.ret ?_
            refine PRet.tmp (t := 6) (v := .bool true) rfl rfl (by kernel_rfl) ?_
            exact ⟨rfl, hs_268.gr⟩
          · try rw [hb_267]
            refine SL.go ?_
            refine SL.v (.int .i64 (errK false)) ?_
            refine SL.go ?_
            refine SL.val (v := .bool false) (w' := w_262) rfl rfl (run_eqv (by kernel_rfl) (congrArg Value.bool (show (!((errK false) == 3)) = (false) from err_3 _))) ?_
            refine SL.go ?_
            refine SL.v (.bool false) ?_
            refine SL.v (.bool false) ?_
            refine SL.nil ?_
            refine CW.cond_false (by kernel_rfl) ?_
            refine CW.skip ?_
            refine CW.region ?_
            refine SL.v (.int .i64 2) ?_
            refine SL.v (.int .i64 2) ?_
            refine SL.nil ?_
            have hs_303 : SH [] w w_262 [pt g_1 (cdA c) 33, pt g_4 (cdA d) 33, pt g_50 #[.string (strOf (fmtGo c.clean.nums)), .string (strOf (cutL l))] 9] := hs_263.pick [0, 0, 0] rfl
            refine CR.fresh (fun e9 => e9 0 = .agg (cdA c) ∧ e9 1 = .agg (cdA d) ∧ e9 2 = .string (strOf (cutL l)) ∧ e9 3 = .pointer (some ⟨g_1, 0, none⟩) ∧ e9 4 = .pointer (some ⟨g_4, 0, none⟩) ∧ e9 6 = .bool false ∧ e9 7 = .string (strOf (fmtGo c.clean.nums)) ∧ e9 14 = .bool true ∧ e9 15 = .bool false ∧ e9 16 = .agg (cdA c) ∧ e9 17 = .bool true ∧ e9 18 = .bool false ∧ e9 19 = .bool false ∧ e9 20 = .agg (cdA d) ∧ e9 21 = .bool true ∧ e9 22 = .bool false ∧ e9 23 = .bool false ∧ e9 24 = .string (strOf l) ∧ e9 25 = .int .i64 ((l.length : Nat) : Int) ∧ e9 26 = .bool (decide (300 < ((l.length : Nat) : Int))) ∧ e9 29 = .agg (cdA c) ∧ e9 30 = .agg (cvA c) ∧ e9 31 = .string (strOf (fmtGo c.clean.nums)) ∧ e9 32 = .string (strOf (fmtGo c.clean.nums)) ∧ e9 33 = .agg (cdA c) ∧ e9 34 = .string (strOf (fmtGo c.clean.nums)) ∧ e9 35 = .bool false ∧ e9 36 = .string (strOf (fmtGo c.clean.nums)) ∧ e9 37 = .string (strOf (cutL l)) ∧ e9 38 = .slice (some ⟨g_50, 0, none⟩) 2 2 ∧ e9 39 = .int .i64 2 ∧ e9 40 = .int .i64 2) ⟨(by kernel_rfl), (by kernel_rfl), (by kernel_rfl), (by kernel_rfl), (by kernel_rfl), (by kernel_rfl), (by kernel_rfl), (by kernel_rfl), (by kernel_rfl), (by kernel_rfl), (by kernel_rfl), (by kernel_rfl), (by kernel_rfl), (by kernel_rfl), (by kernel_rfl), (by kernel_rfl), (by kernel_rfl), (by kernel_rfl), (by kernel_rfl), (by kernel_rfl), (by kernel_rfl), (by kernel_rfl), (by kernel_rfl), (by kernel_rfl), (by kernel_rfl), (by kernel_rfl), (by kernel_rfl), (by kernel_rfl), (by kernel_rfl), (by kernel_rfl), (by kernel_rfl), (by kernel_rfl)⟩ ?_
            rintro e_304 ⟨hv_306, hv_307, hv_308, hv_309, hv_310, hv_311, hv_312, hv_313, hv_314, hv_315, hv_316, hv_317, hv_318, hv_319, hv_320, hv_321, hv_322, hv_323, hv_324, hv_325, hv_326, hv_327, hv_328, hv_329, hv_330, hv_331, hv_332, hv_333, hv_334, hv_335, hv_336, hv_337⟩
            obtain ⟨e_305, rfl⟩ : ∃ e_305, e_304 = put1 (put1 (put1 (put1 (put1 (put1 (put1 (put1 (put1 (put1 (put1 (put1 (put1 (put1 (put1 (put1 (put1 (put1 (put1 (put1 (put1 (put1 (put1 (put1 (put1 (put1 (put1 (put1 (put1 (put1 (put1 (put1 e_305 0 (.agg (cdA c))) 1 (.agg (cdA d))) 2 (.string (strOf (cutL l)))) 3 (.pointer (some ⟨g_1, 0, none⟩))) 4 (.pointer (some ⟨g_4, 0, none⟩))) 6 (.bool false)) 7 (.string (strOf (fmtGo c.clean.nums)))) 14 (.bool true)) 15 (.bool false)) 16 (.agg (cdA c))) 17 (.bool true)) 18 (.bool false)) 19 (.bool false)) 20 (.agg (cdA d))) 21 (.bool true)) 22 (.bool false)) 23 (.bool false)) 24 (.string (strOf l))) 25 (.int .i64 ((l.length : Nat) : Int))) 26 (.bool (decide (300 < ((l.length : Nat) : Int))))) 29 (.agg (cdA c))) 30 (.agg (cvA c))) 31 (.string (strOf (fmtGo c.clean.nums)))) 32 (.string (strOf (fmtGo c.clean.nums)))) 33 (.agg (cdA c))) 34 (.string (strOf (fmtGo c.clean.nums)))) 35 (.bool false)) 36 (.string (strOf (fmtGo c.clean.nums)))) 37 (.string (strOf (cutL l)))) 38 (.slice (some ⟨g_50, 0, none⟩) 2 2)) 39 (.int .i64 2)) 40 (.int .i64 2) := ⟨e_304, (put_self hv_337).trans (congrArg (fun z => put1 z 40 (.int .i64 2)) ((put_self hv_336).trans (congrArg (fun z => put1 z 39 (.int .i64 2)) ((put_self hv_335).trans (congrArg (fun z => put1 z 38 (.slice (some ⟨g_50, 0, none⟩) 2 2)) ((put_self hv_334).trans (congrArg (fun z => put1 z 37 (.string (strOf (cutL l)))) ((put_self hv_333).trans (congrArg (fun z => put1 z 36 (.string (strOf (fmtGo c.clean.nums)))) ((put_self hv_332).trans (congrArg (fun z => put1 z 35 (.bool false)) ((put_self hv_331).trans (congrArg (fun z => put1 z 34 (.string (strOf (fmtGo c.clean.nums)))) ((put_self hv_330).trans (congrArg (fun z => put1 z 33 (.agg (cdA c))) ((put_self hv_329).trans (congrArg (fun z => put1 z 32 (.string (strOf (fmtGo c.clean.nums)))) ((put_self hv_328).trans (congrArg (fun z => put1 z 31 (.string (strOf (fmtGo c.clean.nums)))) ((put_self hv_327).trans (congrArg (fun z => put1 z 30 (.agg (cvA c))) ((put_self hv_326).trans (congrArg (fun z => put1 z 29 (.agg (cdA c))) ((put_self hv_325).trans (congrArg (fun z => put1 z 26 (.bool (decide (300 < ((l.length : Nat) : Int))))) ((put_self hv_324).trans (congrArg (fun z => put1 z 25 (.int .i64 ((l.length : Nat) : Int))) ((put_self hv_323).trans (congrArg (fun z => put1 z 24 (.string (strOf l))) ((put_self hv_322).trans (congrArg (fun z => put1 z 23 (.bool false)) ((put_self hv_321).trans (congrArg (fun z => put1 z 22 (.bool false)) ((put_self hv_320).trans (congrArg (fun z => put1 z 21 (.bool true)) ((put_self hv_319).trans (congrArg (fun z => put1 z 20 (.agg (cdA d))) ((put_self hv_318).trans (congrArg (fun z => put1 z 19 (.bool false)) ((put_self hv_317).trans (congrArg (fun z => put1 z 18 (.bool false)) ((put_self hv_316).trans (congrArg (fun z => put1 z 17 (.bool true)) ((put_self hv_315).trans (congrArg (fun z => put1 z 16 (.agg (cdA c))) ((put_self hv_314).trans (congrArg (fun z => put1 z 15 (.bool false)) ((put_self hv_313).trans (congrArg (fun z => put1 z 14 (.bool true)) ((put_self hv_312).trans (congrArg (fun z => put1 z 7 (.string (strOf (fmtGo c.clean.nums)))) ((put_self hv_311).trans (congrArg (fun z => put1 z 6 (.bool false)) ((put_self hv_310).trans (congrArg (fun z => put1 z 4 (.pointer (some ⟨g_4, 0, none⟩))) ((put_self hv_309).trans (congrArg (fun z => put1 z 3 (.pointer (some ⟨g_1, 0, none⟩))) ((put_self hv_308).trans (congrArg (fun z => put1 z 2 (.string (strOf (cutL l)))) ((put_self hv_307).trans (congrArg (fun z => put1 z 1 (.agg (cdA d))) (put_self hv_306))))))))))))))))))))))))))))))))))))))))))))))))))))))))))))))⟩
            clear hv_306 hv_307 hv_308 hv_309 hv_310 hv_311 hv_312 hv_313 hv_314 hv_315 hv_316 hv_317 hv_318 hv_319 hv_320 hv_321 hv_322 hv_323 hv_324 hv_325 hv_326 hv_327 hv_328 hv_329 hv_330 hv_331 hv_332 hv_333 hv_334 hv_335 hv_336 hv_337
            refine CR.more ?_
            refine CW.seq ?_
            refine CW.region ?_
            refine SL.v (.bool false) ?_
            refine SL.nil ?_
            refine CW.seq ?_
            refine CW.cond_false (by kernel_rfl) ?_
            refine CW.exit ?_
            repeat with_reducible first | refine PThen.exit ?_ | refine PBlock.out rfl ?_
            with_reducible refine PBlock.here ?_
            repeat with_reducible refine PBlock.normal ?_
            refine CW.seq ?_
            refine CW.region ?_
            refine SL.v (.bool true) ?_
            refine SL.nil ?_
            refine CW.ret ?_
            repeat with_reducible first | refine PThen.ret ?_ | refine PBlock.ret ?_
            refine PRet.tmp (t := 6) (v := .bool true) rfl rfl (by kernel_rfl) ?_
            exact ⟨rfl, hs_303.gr⟩
theorem tab_Reports {w : World} (h : laidMetH Tryd.prog Rows.stateReportsRow.laid w) : tabT w := by
  unfold Rows.stateReportsRow at h
  rw [MakeChecks.laidMetH_plain _ _ _ (by kernel_rfl)] at h
  exact tabT_met19 (laidMet_tail2 (laidMet_tail2 h))
theorem strL (s : ByteArray) : ∃ l : List Int, s = strOf l ∧ (∀ c ∈ l, 0 ≤ c ∧ c < 256) ∧ l.length = s.size := by
  refine ⟨s.data.toList.map fun b => (b.toNat : Int), ?_, ?_, ?_⟩
  · rw [strOf_bytes]
  · intro c hc
    obtain ⟨b, _, rfl⟩ := List.mem_map.1 hc
    have := b.toNat_lt; omega
  · rw [List.length_map, Array.length_toList]; rfl
theorem reps_law (c d : Cor) (s : ByteArray) (w : World) (h0 : c.In) (h1 : d.In) (h2 : s.size ≤ maxLen) (hlaid : laidMetH Tryd.prog Rows.stateReportsRow.laid w) (hsh : w.ShapedOpen Tryd.prog) :
    Calls Tryd.prog 5 #[c.d, d.d, .string s] w fun e w' => e = .returned (.bool true) ∧ Gr w w' := by
  have hT := tab_Reports hlaid
  obtain ⟨l, rfl, hl, hls⟩ := strL s
  have hbig : l.length ≤ 9223372036854775807 := by rw [hls]; simp only [maxLen] at h2; omega
  cases hsc : smallZ c with
  | false => exact reps_no1 c d l w hT hl hbig hsc
  | true =>
    cases hsd : smallZ d with
    | false => exact reps_no2 c d l w hT hl hbig hsc hsd
    | true =>
      exact reps_yes c d l w hT hl hbig (h0.toOk hsc) (h1.toOk hsd) hsc hsd
end Go.Proofs.YtfkecgkfcldffaaDoor
