/-
  Keys with texts: put of the document, walked.
-/
import Derived.Test.YtdfohcnejdhkiaaDoorZUdK
namespace Go.Proofs.YtdfohcnejdhkiaaDoor
set_option linter.unusedSimpArgs false
set_option linter.unusedVariables false
open Go.RowKit
set_option linter.unusedVariables false

/-- The list that is made. -/
structure PO (w wr : World) (v : Value) (o : Ds) : Prop where
  row : wr.ownsRow w.heap.size 61 2 v o.length (dcs o)
  gr : Gr w wr
theorem PO.push {w wr wx w1 : World} {v V : Value} {o : Ds} {p : Nat × List UInt8} {g : Nat} (h : PO w wr v o) (hg : Gr wr wx) (hG : Grew wx w1 v V g)
    (hown : w1.ownsRow w.heap.size 61 2 V (o.length + 1) (dcs o ++ [.int .i64 p.1, .string (bsl p.2)])) : PO w w1 V (o ++ [p]) :=
  ⟨by rw [dcs_app, List.length_append]; exact hown, hG.gr (h.gr.trans hg) fun k hk => ownsRow_base h.row hk⟩
theorem PO.dl {w wr : World} {v : Value} {o : Ds} (h : PO w wr v o) : DL wr v o := by
  refine ⟨h.row.1, ?_⟩
  rcases h.row.2 with h2 | ⟨g, cap, cur, hv, hg, r⟩
  · exact .inl h2
  · exact .inr ⟨g, cap, cur, hv, Nat.zero_le _, r⟩
theorem two_one (k : Int) (s : ByteArray) : ∀ c ∈ [Value.int .i64 k, .string s], c.oneCell' = true := by
  intro c hc
  simp at hc
  rcases hc with rfl | rfl <;> rfl
theorem put_step {key : Nat} {t : List UInt8} {b : Bool} {l o R : Ds} {k : Nat} {p : Nat × List UInt8} (h : o ++ putR key t b (l.drop k) = R) (hp : l[k]? = some p) :
    (key ≤ p.1 → b = false → p.1 ≠ key → (o ++ [(key, t)] ++ [p]) ++ putR key t true (l.drop (k + 1)) = R) ∧
    (key ≤ p.1 → b = false → p.1 = key → (o ++ [(key, t)]) ++ putR key t true (l.drop (k + 1)) = R) ∧
    (¬ (key ≤ p.1 ∧ b = false) → p.1 ≠ key → (o ++ [p]) ++ putR key t b (l.drop (k + 1)) = R) ∧
    (¬ (key ≤ p.1 ∧ b = false) → p.1 = key → o ++ putR key t b (l.drop (k + 1)) = R) := by
  obtain ⟨hk, hx⟩ := List.getElem?_eq_some_iff.1 hp
  have hd : l.drop k = p :: l.drop (k + 1) := by rw [← hx, List.getElem_cons_drop]
  rw [hd] at h
  unfold putR at h
  refine ⟨fun h1 h2 h3 => ?_, fun h1 h2 h3 => ?_, fun h1 h3 => ?_, fun h1 h3 => ?_⟩
  · rw [if_pos ⟨h1, h2⟩, if_pos h3, decide_eq_true h1, Bool.or_true] at h
    rw [← h]; simp
  · rw [if_pos ⟨h1, h2⟩, if_neg (by omega), decide_eq_true h1, Bool.or_true] at h
    rw [← h]; simp
  · rw [if_neg h1, if_pos h3] at h
    have e : (b || decide (key ≤ p.1)) = b := by
      by_cases hle : key ≤ p.1
      · cases b
        · exact absurd ⟨hle, rfl⟩ h1
        · rfl
      · rw [decide_eq_false hle, Bool.or_false]
    rw [e] at h
    rw [← h]; simp
  · rw [if_neg h1, if_neg (by omega)] at h
    have hle : key ≤ p.1 := by omega
    cases b
    · exact absurd ⟨hle, rfl⟩ h1
    · rw [Bool.true_or] at h
      rw [← h]; simp
def PutTo (w : World) (R : Ds) (e : Ending) (w' : World) : Prop := ∃ v', e = .returned v' ∧ DL w' v' R ∧ Gr w w'
set_option maxHeartbeats 1000000 in
set_option maxRecDepth 100000 in
theorem put_any {v : Value} {l : Ds} (key : Nat) (t : List UInt8) (w : World) (h : DL w v l) (hn : l.length ≤ 1000) (hk : key ≤ 1000) : Calls Tryd.prog 43 #[v, .int .i64 key, .string (bsl t)] w (PutTo w (putR key t (decide (t = [])) l)) := by
  obtain ⟨a, c, rfl⟩ := h.form
  obtain ⟨b0, hb0⟩ : ∃ b0, b0 = decide (t = []) := ⟨_, rfl⟩
  rw [← hb0]
  have he : (bsl t).toList.isEmpty = b0 := by
    by_cases ht : t = []
    · subst ht; rw [hb0]; exact bslE
    · rw [hb0, decide_eq_false ht]; exact bslN ht
  obtain ⟨R, hR⟩ : ∃ R, R = putR key t b0 l := ⟨_, rfl⟩
  rw [← hR]
  obtain ⟨ts, hts⟩ : ∃ ts, ts = bsl t := ⟨_, rfl⟩
  rw [← hts] at he ⊢
  have HTS := Lib.hid hts
  have HR := Lib.hid hR
  have HH := Lib.hid h
  clear hR hb0 hts h
  go_enter Tryd.func43, Tryd.ntmps43
  go_wp2_with fail
  go_loopw [7, 8, 9] (fun ov bv iv wr => ∃ (k : Nat) (o : Ds) (b : Bool), iv = .int .i64 (k : Int) ∧ k ≤ l.length ∧ bv = .bool b ∧ o.length ≤ 2 * k ∧ PO w wr ov o ∧ Hid (o ++ putR key t b (l.drop k) = R)) (fun _ _ iv _ => l.length - (intOf iv).toNat)
  case atStart => exact ⟨0, [], b0, rfl, Nat.zero_le _, by first | rfl | simp, Nat.le_refl _, ⟨World.ownsRow_nil _ _ _ _, .refl _⟩, Lib.hid (by rw [HR.out]; rfl)⟩
  case round =>
    obtain ⟨k, o, b, rfl, hkl, rfl, hol, hPO, hinv⟩ := hrel
    obtain ⟨oa, oc, rfl⟩ := hPO.dl.form
    by_cases hlt : k < l.length
    · have hki : (k : Int) < (l.length : Int) := by omega
      have hk0 : (0 : Int) ≤ (k : Int) := by omega
      obtain ⟨p, hp⟩ : ∃ p, l[k]? = some p := ⟨_, List.getElem?_eq_getElem hlt⟩
      obtain ⟨g, rfl, _, _⟩ := HH.out.at_ hp
      have hcell := fun (W : World) (hg : Gr w W) => (HH.out.gr hg).at_ hp
      obtain ⟨g', hg', z0, z1⟩ := hcell wr hPO.gr
      injection hg' with hg'
      injection hg' with hg'
      subst hg'
      obtain ⟨q1, q2, q3, q4⟩ := put_step hinv.out hp
      have Q1 := Lib.hid q1; have Q2 := Lib.hid q2; have Q3 := Lib.hid q3; have Q4 := Lib.hid q4
      have HC := Lib.hid hcell
      have HP := Lib.hid hp
      clear q1 q2 q3 q4 hcell hinv hp
      have hrow := hPO.row
      have hgr := hPO.gr
      have HPO := Lib.hid hPO
      clear hPO
      by_cases h1 : key ≤ p.1 ∧ b = false
      · obtain ⟨h1, rfl⟩ := h1
        have h1i : (key : Int) ≤ (p.1 : Int) := by omega
        by_cases h3 : p.1 = key
        · have h3i : ((p.1 : Int) == (key : Int)) = true := by simp; omega
          have hinv := Q2.out h1 rfl h3
          have HI := Lib.hid hinv
          have h3j : (p.1 : Int) = (key : Int) := by omega
          have h3k : ((p.1 : Int) != (key : Int)) = false := by simp; omega
          clear hinv
          go_wp2_with (first
            | (at_builtin; refine wpList_pushN rfl _ _ _ rfl w.heap.size 61 _ 2 24 Tryd.underlying33 text_info rfl (by omega) (by omega) _ _ _ [.int .i64 key, .string ts] (ownsRow_gr hrow ((Gr.refl wr).alloc _)) _ rfl rfl (heap_alloc_new _ _) rfl (two_one _ _) (by omega) (Below.size (hgr.alloc _)) ?_
               intro g1 cap1 w1 hG1 hown1
               rw [HTS.out] at hown1
               have hPO1 := HPO.out.push (p := (key, t)) ((Gr.refl wr).alloc _) hG1 hown1
               obtain ⟨g'', hg'', z0, z1⟩ := HC.out w1 hPO1.gr
               injection hg'' with hg''
               injection hg'' with hg''
               subst hg''
               have HPO1 := Lib.hid hPO1
               clear hPO1))
          go_roundw
          case rel => exact ⟨k + 1, o ++ [(key, t)], true, by go_num, by omega, rfl, by simp; omega, HPO1.out, HI⟩
          case measure => simp [intOf]; omega
        · have h3k : ((p.1 : Int) != (key : Int)) = true := by simp; omega
          have h3j : ¬ (p.1 : Int) = (key : Int) := by omega
          have hinv := Q1.out h1 rfl h3
          have HI := Lib.hid hinv
          clear hinv
          go_wp2_with (first
            | (at_builtin; refine wpList_pushN rfl _ _ _ rfl w.heap.size 61 _ 2 24 Tryd.underlying33 text_info rfl (by omega) (by omega) _ _ _ [.int .i64 key, .string ts] (ownsRow_gr hrow ((Gr.refl wr).alloc _)) _ rfl rfl (heap_alloc_new _ _) rfl (two_one _ _) (by omega) (Below.size (hgr.alloc _)) ?_
               intro g1 cap1 w1 hG1 hown1
               rw [HTS.out] at hown1
               have hPO1 := HPO.out.push (p := (key, t)) ((Gr.refl wr).alloc _) hG1 hown1
               obtain ⟨g'', hg'', z0, z1⟩ := HC.out w1 hPO1.gr
               injection hg'' with hg''
               injection hg'' with hg''
               subst hg''
               have hrow1 := hPO1.row
               rw [List.length_append, List.length_singleton] at hrow1
               have hgr1 := hPO1.gr
               have HPO1 := Lib.hid hPO1
               clear hPO1)
            | (at_builtin; refine wpList_pushN rfl _ _ _ rfl w.heap.size 61 _ 2 24 Tryd.underlying33 text_info rfl (by omega) (by omega) _ _ _ [.int .i64 p.1, .string (bsl p.2)] (ownsRow_gr hrow1 ((Gr.refl w1).alloc _)) _ rfl rfl (heap_alloc_new _ _) rfl (two_one _ _) (by omega) (Below.size (hgr1.alloc _)) ?_
               intro g2 cap2 w2 hG2 hown2
               have hPO2 := HPO1.out.push (p := p) ((Gr.refl w1).alloc _) hG2 (by rw [List.length_append, List.length_singleton]; exact hown2)
               have HPO2 := Lib.hid hPO2
               clear hPO2))
          go_roundw
          case rel => exact ⟨k + 1, o ++ [(key, t)] ++ [p], true, by go_num, by omega, rfl, by simp; omega, HPO2.out, HI⟩
          case measure => simp [intOf]; omega
      · have hcond : (decide ((key : Int) ≤ (p.1 : Int)) && !b) = false := by
          rw [Bool.and_eq_false_iff]
          by_cases hle : key ≤ p.1
          · right
            cases b
            · exact absurd ⟨hle, rfl⟩ h1
            · rfl
          · left; simp; omega
        by_cases h3 : p.1 = key
        · have h3k : ((p.1 : Int) != (key : Int)) = false := by simp; omega
          have h3j : (p.1 : Int) = (key : Int) := by omega
          have h1i : (key : Int) ≤ (p.1 : Int) := by omega
          have hinv := Q4.out h1 h3
          have hbt : b = true := by
            cases b
            · exact absurd ⟨by omega, rfl⟩ h1
            · rfl
          subst hbt
          have HI := Lib.hid hinv
          clear hinv h1 hcond
          go_wp2_with fail
          go_roundw
          case rel => exact ⟨k + 1, o, true, by go_num, by omega, rfl, by omega, HPO.out, HI⟩
          case measure => simp [intOf]; omega
        · have h3k : ((p.1 : Int) != (key : Int)) = true := by simp; omega
          have h3j : ¬ (p.1 : Int) = (key : Int) := by omega
          have hinv := Q3.out h1 h3
          have HI := Lib.hid hinv
          clear hinv
          by_cases hle : key ≤ p.1
          · have h1i : (key : Int) ≤ (p.1 : Int) := by omega
            have hbt : b = true := by
              cases b
              · exact absurd ⟨hle, rfl⟩ h1
              · rfl
            subst hbt
            clear h1 hcond
            go_wp2_with (first
              | (at_builtin; refine wpList_pushN rfl _ _ _ rfl w.heap.size 61 _ 2 24 Tryd.underlying33 text_info rfl (by omega) (by omega) _ _ _ [.int .i64 p.1, .string (bsl p.2)] (ownsRow_gr hrow ((Gr.refl wr).alloc _)) _ rfl rfl (heap_alloc_new _ _) rfl (two_one _ _) (by omega) (Below.size (hgr.alloc _)) ?_
                 intro g2 cap2 w2 hG2 hown2
                 have hPO2 := HPO.out.push (p := p) ((Gr.refl wr).alloc _) hG2 hown2
                 have HPO2 := Lib.hid hPO2
                 clear hPO2))
            go_roundw
            case rel => exact ⟨k + 1, o ++ [p], true, by go_num, by omega, rfl, by simp; omega, HPO2.out, HI⟩
            case measure => simp [intOf]; omega
          · have h1i : ¬ (key : Int) ≤ (p.1 : Int) := by omega
            clear h1 hcond
            go_wp2_with (first
              | (at_builtin; refine wpList_pushN rfl _ _ _ rfl w.heap.size 61 _ 2 24 Tryd.underlying33 text_info rfl (by omega) (by omega) _ _ _ [.int .i64 p.1, .string (bsl p.2)] (ownsRow_gr hrow ((Gr.refl wr).alloc _)) _ rfl rfl (heap_alloc_new _ _) rfl (two_one _ _) (by omega) (Below.size (hgr.alloc _)) ?_
                 intro g2 cap2 w2 hG2 hown2
                 have hPO2 := HPO.out.push (p := p) ((Gr.refl wr).alloc _) hG2 hown2
                 have HPO2 := Lib.hid hPO2
                 clear hPO2))
            go_roundw
            case rel => exact ⟨k + 1, o ++ [p], b, by go_num, by omega, rfl, by simp; omega, HPO2.out, HI⟩
            case measure => simp [intOf]; omega
    · obtain rfl : k = l.length := by omega
      have hki : ¬ (l.length : Int) < (l.length : Int) := by omega
      have hinv2 := hinv.out
      rw [List.drop_length] at hinv2
      have hrow := hPO.row
      have hgr := hPO.gr
      have HPO := Lib.hid hPO
      cases b
      · have HI := Lib.hid hinv2
        clear hinv2 hinv hPO
        go_wp2_with (first
          | (at_builtin; refine wpList_pushN rfl _ _ _ rfl w.heap.size 61 _ 2 24 Tryd.underlying33 text_info rfl (by omega) (by omega) _ _ _ [.int .i64 key, .string ts] (ownsRow_gr hrow ((Gr.refl wr).alloc _)) _ rfl rfl (heap_alloc_new _ _) rfl (two_one _ _) (by omega) (Below.size (hgr.alloc _)) ?_
             intro g1 cap1 w1 hG1 hown1
             rw [HTS.out] at hown1
             have hPO1 := HPO.out.push (p := (key, t)) ((Gr.refl wr).alloc _) hG1 hown1
             have HPO1 := Lib.hid hPO1
             clear hPO1))
        go_ret
        exact ⟨_, rfl, by rw [← HI.out]; exact HPO1.out.dl, HPO1.out.gr⟩
      · have HI := Lib.hid hinv2
        clear hinv2 hinv hPO
        go_wp2_with fail
        go_ret
        exact ⟨_, rfl, by rw [← HI.out]; simp only [putR, if_true, List.append_nil]; exact HPO.out.dl, hgr⟩
end Go.Proofs.YtdfohcnejdhkiaaDoor
