/-
  Tab stops: the document's Restore.
-/
import Derived.Test.YtjdmobildcgidaaDoorTbN
namespace Go.Proofs.YtjdmobildcgidaaDoor
set_option linter.unusedSimpArgs false
set_option linter.unusedVariables false
open Go.RowKit
set_option linter.unusedVariables false

/-- What the document makes of digits. -/
def valE (q : List UInt8) : Nat := q.foldl (fun n c => min (10 * n + (c.toNat - 48)) 100000) 0
theorem valE_snoc (q : List UInt8) (c : UInt8) : valE (q ++ [c]) = min (10 * valE q + (c.toNat - 48)) 100000 := by unfold valE; rw [List.foldl_append]; rfl
theorem valE_le (q : List UInt8) : valE q ≤ 100000 := by
  rcases List.eq_nil_or_concat q with rfl | ⟨q', c, rfl⟩
  · exact Nat.zero_le _
  · rw [List.concat_eq_append, valE_snoc]; exact Nat.min_le_right _ _
theorem val_same : ∀ (q : List UInt8) (a b : Nat), a = min b 1000 → q.foldl (fun n c => min (n * 10 + (c.toNat - 48)) 1000) a = min (q.foldl (fun n c => min (10 * n + (c.toNat - 48)) 100000) b) 1000
  | [], a, b, h => h
  | c :: q, a, b, h => by
    rw [List.foldl_cons, List.foldl_cons]
    exact val_same q _ _ (by subst h; omega)
theorem valD_E (q : List UInt8) : valD q = min (valE q) 1000 := val_same q 0 0 rfl
/-- What the document does with a number that it has read. -/
theorem setP_E (out : List Bool) (q : List UInt8) (hN : out.length ≤ 500) : setP out (valD q) = if 1 ≤ valE q ∧ valE q ≤ out.length then out.set (valE q - 1) true else out := by
  rw [valD_E]
  unfold setP
  by_cases h1 : 1 ≤ valE q
  · rw [if_pos (by omega)]
    by_cases h2 : valE q ≤ out.length
    · rw [if_pos ⟨h1, h2⟩]; congr 1; omega
    · rw [if_neg (by omega), List.set_eq_of_length_le (by omega)]
  · rw [if_neg (by omega), if_neg (by omega)]
theorem pcs_47 (ds u : List UInt8) (h : ds.all isD = true) : pcs (ds ++ 47 :: u) = ds :: pcs u := by
  unfold pcs
  rw [pc_app ds _ (fun c hc => isD_ne (List.all_eq_true.1 h c hc)), pc_yes]
  simp
theorem pcs_end (ds : List UInt8) (h : ds.all isD = true) : pcs (ds ++ []) = [ds] := by
  unfold pcs
  rw [pc_app ds _ (fun c hc => isD_ne (List.all_eq_true.1 h c hc))]
  simp [pc]
theorem rst_bad (out : List Bool) (ds u : List UInt8) (c : UInt8) (h : ds.all isD = true) (hc : c ≠ 47) (hd : isD c = false) : rstP out (pcs (ds ++ c :: u)) = none := by
  unfold pcs
  rw [pc_app ds _ (fun c hc => isD_ne (List.all_eq_true.1 h c hc)), pc_no c u hc]
  unfold rstP
  have : colR (ds ++ c :: (pc u).1) = none := by
    unfold colR
    rw [if_neg]
    rintro ⟨_, ha⟩
    have := List.all_eq_true.1 ha c (by simp)
    rw [hd] at this; cases this
  simp only [this]
theorem rst_empty (out : List Bool) (qs : List (List UInt8)) : rstP out ([] :: qs) = none := by
  unfold rstP colR
  simp
theorem rst_go (out : List Bool) (ds : List UInt8) (qs : List (List UInt8)) (h : ds.all isD = true) (h0 : 0 < ds.length) : rstP out (ds :: qs) = rstP (setP out (valD ds)) qs := by
  have : colR ds = some (valD ds) := by
    unfold colR
    rw [if_pos ⟨by cases ds with | nil => cases h0 | cons _ _ => rfl, h⟩]
  show (match colR ds with | none => none | some n => rstP (setP out n) qs) = _
  rw [this]

theorem make_bools (N : Nat) (hN : N ≤ 1000) : ∀ w : World, (Instr.makeSlice 25 (.int .i64 (N : Int)) (.int .i64 (N : Int))).run Tryd.prog w = .ok (.slice (some ⟨w.heap.size, 0, none⟩) N N) (w.alloc (.cells (bcs (List.replicate N false)).toArray 4)) := by
  intro w
  obtain ⟨i0, hi0, hz0, hz1, hz2⟩ := info_parts boolI
  have hr := run_make (P := Tryd.prog) w 25 4 i0 (.bool false) boolsT hi0 hz0 .i64 .i64 N N (by omega) (by omega) (by rw [hz2]; omega) (by omega)
  rw [hr, hz1]
  simp only [Int.toNat_natCast, Nat.mul_one]
  have : madeCells (Value.bool false).cells N = (bcs (List.replicate N false)).toArray := by
    apply Array.ext'
    have := toList_madeCells_one (Value.bool false) N
    simp only [bcs, List.map_replicate]
    exact this
  rw [this]
/-- A block of yes and no. -/
def BB (w : World) (g : Nat) (l : List Bool) : Prop := w.heap[g]? = some (.cells (bcs l).toArray 4 (0, 0))
theorem BB.set {w : World} {g : Nat} {l : List Bool} (h : BB w g l) (k : Nat) (b : Bool) : BB (w.setCell ⟨g, k, none⟩ (.bool b)) g (l.set k b) := by
  unfold BB at h ⊢
  have := blk_set h k (.bool b)
  rw [List.setIfInBounds_toArray, bcs_set] at this
  exact this
theorem BB.cell {w : World} {g : Nat} {l : List Bool} (h : BB w g l) (k : Nat) (hk : k < l.length) : (∃ u, w.cell? ⟨g, k, none⟩ = some u) ∧ w.frozen? ⟨g, k, none⟩ = false :=
  ⟨⟨_, cell_of_row h k (.bool l[k]) (by simp [bcs, hk])⟩, by unfold BB at h; simp [World.frozen?, h]⟩
theorem BB.bl {w : World} {g B : Nat} {l : List Bool} {n : Nat} (h : BB w g l) (hB : B ≤ g) (hn : n = l.length) : BL B w (.slice (some ⟨g, 0, none⟩) n n) l := by
  subst hn
  refine ⟨⟨bcs_len l, .inr ⟨g, l.length, _, rfl, h, Nat.le_refl _, by simp [bcs], ?_⟩⟩, fun k hk => by simp only [Value.ownBlock, Option.some.injEq] at hk; omega⟩
  rw [← bcs_len l]; simp

set_option maxRecDepth 100000 in
set_option maxHeartbeats 4000000 in
theorem rrestore_any (B : Nat) (v : Value) (l : List Bool) (t : List UInt8) (w : World) (h : BL B w v l) (hl : l.length ≤ 500) (ht : t.length ≤ 1000000) (hB : B ≤ w.heap.size) :
    Calls Tryd.prog 31 #[v, .string (bsl t)] w fun e w' => ∃ v', e = .returned (.tuple #[v', .int .i64 (rstE l t)]) ∧ BL B w' v' (rstL l t) ∧ Gr w w' := by
  obtain ⟨va, cap, rfl⟩ := h.1.form
  obtain ⟨N, hN⟩ : ∃ N, N = l.length := ⟨_, rfl⟩
  rw [← hN] at h
  have HL := Lib.hid h
  clear h
  rw [← hN] at hl
  have HN := Lib.hid hN
  have hmk := make_bools N (by omega)
  obtain ⟨E, hE⟩ : ∃ E, E = rstE l t := ⟨_, rfl⟩
  obtain ⟨L, hL⟩ : ∃ L, L = rstL l t := ⟨_, rfl⟩
  have hE1 : rstO N t = none → E = 3 ∧ L = l := by
    intro h; rw [hE, hL, hN] at *; unfold rstE rstL; rw [h]; exact ⟨rfl, rfl⟩
  have hE2 : ∀ o, rstO N t = some o → E = 0 ∧ L = o := by
    intro o h; rw [hE, hL, hN] at *; unfold rstE rstL; rw [h]; exact ⟨rfl, rfl⟩
  rw [← hE, ← hL, ← hN]
  clear hE hL hN
  have HE1 := Lib.hid hE1
  have HE2 := Lib.hid hE2
  clear hE1 hE2
  have hg1 : Gr w (w.alloc (.cells (bcs (List.replicate N false)).toArray 4)) := (Gr.refl w).alloc _
  have hb1 : BB (w.alloc (.cells (bcs (List.replicate N false)).toArray 4)) w.heap.size (List.replicate N false) := heap_alloc_new _ _
  cases t with
  | nil =>
    have he : (bsl []).toList.isEmpty = true := bsl_emptyL rfl
    obtain ⟨e1, e2⟩ := HE2.out (List.replicate N false) (by rfl)
    subst e1 e2
    have hs0 : (bsl []).size = 0 := rfl
    obtain ⟨s, hs⟩ : ∃ s, s = bsl [] := ⟨_, rfl⟩
    rw [← hs] at he hs0 ⊢
    clear hs HE1 HE2
    go_enter Tryd.func31, Tryd.ntmps31
    go_wp2_with fail
    go_loopw [9] (fun iv wr => iv = .int .i64 0 ∧ wr = w.alloc (.cells (bcs (List.replicate N false)).toArray 4)) (fun _ _ => 0)
    case atStart => exact ⟨rfl, rfl⟩
    case round =>
      obtain ⟨rfl, rfl⟩ := hrel
      go_wp2_with fail
      go_ret2
      exact ⟨_, rfl, hb1.bl hB (by simp), hg1⟩
  | cons c0 t0 =>
    obtain ⟨t, htt⟩ : ∃ t, t = c0 :: t0 := ⟨_, rfl⟩
    have hne : t.isEmpty = false := by rw [htt]; rfl
    rw [← htt] at ht HE1 HE2 ⊢
    clear htt
    have hO : rstO N t = rstP (List.replicate N false) (pcs t) := by unfold rstO; rw [if_neg (by rw [hne]; decide)]
    obtain ⟨R, hR⟩ : ∃ R, R = rstP (List.replicate N false) (pcs t) := ⟨_, rfl⟩
    rw [← hR] at hO
    have HRO := Lib.hid hO
    have HR := Lib.hid hR
    clear hO hR
    have he : (bsl t).toList.isEmpty = false := bsl_consL (by rintro rfl; cases hne)
    have hg0 := fun (x : Nat) (h : x < (bsl t).size) => bsl_get (l := t) h
    have hsz := bsl_size t
    obtain ⟨s, hs⟩ : ∃ s, s = bsl t := ⟨_, rfl⟩
    rw [← hs] at he hsz ⊢
    have hg1' : ∀ (x : Nat) (h : x < s.size) (h' : x < t.length), s[x]'h = t[x]'h' := by subst hs; exact fun x h _ => hg0 x h
    have HG := Lib.hid hg1'
    clear hg1' hg0 hs hne
    have hszb : s.size ≤ 1000000 := by omega
    have HSZ := Lib.hid hsz
    clear hsz ht
    go_enter Tryd.func31, Tryd.ntmps31
    go_wp2_with fail
    obtain ⟨W1, hW1⟩ : ∃ W1, W1 = w.alloc (.cells (bcs (List.replicate N false)).toArray 4) := ⟨_, rfl⟩
    rw [← hW1] at hb1 hg1 ⊢
    clear hW1 hmk
    go_loopw [7, 8, 9] (fun nv dv iv wr => ∃ (i n d : Nat) (ds : List UInt8) (out : List Bool), iv = .int .i64 (i : Int) ∧ i ≤ s.size + 1 ∧ nv = .int .i64 (n : Int) ∧ dv = .int .i64 (d : Int) ∧ n ≤ 100000 ∧ d ≤ i ∧ Hid (ds.all isD = true ∧ d = ds.length ∧ n = valE ds ∧ out.length = N) ∧ Hid (if i ≤ s.size then rstP out (pcs (ds ++ t.drop i)) = R else R = some out) ∧ BB wr w.heap.size out ∧ Gr w wr) (fun _ _ iv _ => s.size + 1 - (intOf iv).toNat)
    case atStart => exact ⟨0, 0, 0, [], _, rfl, Nat.zero_le _, rfl, rfl, Nat.zero_le _, Nat.zero_le _, Lib.hid ⟨rfl, rfl, rfl, by simp⟩, Lib.hid (by rw [if_pos (Nat.zero_le _)]; exact HR.out.symm), hb1, hg1⟩
    case round =>
      clear hb1 hg1
      obtain ⟨i, n, d, ds, out, rfl, hi, rfl, rfl, hn5, hdi, HA, HX, hbb, hgr⟩ := hrel
      obtain ⟨ha, hdl, hve, hol⟩ := HA.out
      have HDL := Lib.hid hdl; have HVE := Lib.hid hve; have HOL := Lib.hid hol; have HAD := Lib.hid ha
      clear ha hdl hve hol HA
      by_cases hle : i ≤ s.size
      · have hlei : (i : Int) ≤ (s.size : Int) := by omega
        have hx := HX.out
        rw [if_pos hle] at hx
        by_cases hlt : i < s.size
        · have hlti : (i : Int) < (s.size : Int) := by omega
          have hit : i < t.length := by have := HSZ.out; omega
          have hg := HG.out i hlt hit
          obtain ⟨c, hc⟩ : ∃ c, c = t[i] := ⟨_, rfl⟩
          rw [← hc] at hg
          rw [List.drop_eq_getElem_cons hit, ← hc] at hx
          have hii : (i : Int) < 10000000 := by omega
          clear hc HX
          have hcl := c.toNat_lt
          by_cases hd : 48 ≤ c.toNat ∧ c.toNat ≤ 57
          · have hisd : isD c = true := by unfold isD; simp [hd.1, hd.2]
            have h1 : (48 : Int) ≤ (c.toNat : Int) := by omega
            have h2 : (c.toNat : Int) ≤ 57 := by omega
            have h1' : 48 ≤ c.toNat := hd.1
            have h2' : c.toNat ≤ 57 := hd.2
            have e1 : IntKind.i64.wrap (10 * (n : Int)) = 10 * (n : Int) := IntWalk.i64_in _ (by omega)
            have e2 : IntKind.u8.wrap ((c.toNat : Int) - 48) = (c.toNat : Int) - 48 := u8_small _ (by omega) (by omega)
            have e3 : IntKind.i64.wrap ((c.toNat : Int) - 48) = (c.toNat : Int) - 48 := IntWalk.i64_in _ (by omega)
            have e4 : IntKind.i64.wrap (10 * (n : Int) + ((c.toNat : Int) - 48)) = 10 * (n : Int) + ((c.toNat : Int) - 48) := IntWalk.i64_in _ (by omega)
            have hvs : valE (ds ++ [c]) = min (10 * n + (c.toNat - 48)) 100000 := by rw [valE_snoc, ← HVE.out]
            have hx2 : if i + 1 ≤ s.size then rstP out (pcs ((ds ++ [c]) ++ t.drop (i + 1))) = R else R = some out := by
              rw [if_pos (by omega), List.append_assoc]; exact hx
            have hal : (ds ++ [c]).all isD = true := by rw [List.all_append, HAD.out]; simp [hisd]
            have HX2 := Lib.hid hx2; have HVS := Lib.hid hvs; have HAL := Lib.hid hal
            clear hx hx2 hvs hal hd hisd
            by_cases hbig : 100000 < 10 * n + (c.toNat - 48)
            · have hbi : (100000 : Int) < 10 * (n : Int) + ((c.toNat : Int) - 48) := by omega
              go_wp2_with fail
              go_roundw
              case rel => exact ⟨i + 1, 100000, d + 1, ds ++ [c], out, by go_num, by omega, rfl, by go_num, by omega, by omega, Lib.hid ⟨HAL.out, by have := HDL.out; simp; omega, by have := HVS.out; omega, HOL.out⟩, HX2, hbb, hgr⟩
              case measure => simp [intOf]; omega
            · have hbi : ¬ (100000 : Int) < 10 * (n : Int) + ((c.toNat : Int) - 48) := by omega
              go_wp2_with fail
              go_roundw
              case rel => exact ⟨i + 1, 10 * n + (c.toNat - 48), d + 1, ds ++ [c], out, by go_num, by omega, congrArg (Value.int .i64) (by omega), by go_num, by omega, by omega, Lib.hid ⟨HAL.out, by have := HDL.out; simp; omega, by have := HVS.out; omega, HOL.out⟩, HX2, hbb, hgr⟩
              case measure => simp [intOf]; omega
          · have hisd : isD c = false := by unfold isD; rw [Bool.and_eq_false_iff]; simp only [decide_eq_false_iff_not]; omega
            by_cases h47 : c.toNat = 47
            · have hc47 : c = 47 := by
                apply UInt8.toNat_inj.1
                rw [h47]; rfl
              subst hc47
              have h1 : ¬ 48 ≤ (47 : UInt8).toNat := by decide
              have h1i : ¬ (48 : Int) ≤ ((47 : UInt8).toNat : Int) := by decide
              have h47b : (((47 : UInt8).toNat : Int) == 47) = true := by decide
              rw [pcs_47 ds _ HAD.out] at hx
              clear hd hisd h47 hcl
              by_cases hd0 : 0 < d
              · have hd0b : ((d : Int) == 0) = false := by simp; omega
                rw [rst_go out ds _ HAD.out (by have := HDL.out; omega)] at hx
                have hnx : if i + 1 ≤ s.size then rstP (setP out (valD ds)) (pcs ([] ++ t.drop (i + 1))) = R else R = some (setP out (valD ds)) := by
                  rw [if_pos (by omega)]; exact hx
                have HNX := Lib.hid hnx
                clear hnx hx hd0
                have hse := setP_E out ds (by have := HOL.out; omega)
                rw [← HVE.out] at hse
                by_cases hn1 : 1 ≤ n
                · have hn1i : (1 : Int) ≤ (n : Int) := by omega
                  by_cases hn2 : n ≤ N
                  · have hn2i : (n : Int) ≤ (N : Int) := by omega
                    rw [if_pos ⟨hn1, by have := HOL.out; omega⟩] at hse
                    obtain ⟨k, rfl⟩ : ∃ k, n = k + 1 := ⟨n - 1, by omega⟩
                    have hki : (((k + 1 : Nat) : Int)) - 1 = (k : Int) := by omega
                    obtain ⟨⟨u0, hu0⟩, hf0⟩ := hbb.cell k (by have := HOL.out; omega)
                    have hkN : (k : Int) < (N : Int) := by omega
                    have hkw : IntKind.i64.wrap (((k + 1 : Nat) : Int) - 1) = (k : Int) := by rw [hki]; exact IntWalk.i64_in _ (by omega)
                    have hb2 := hbb.set k true
                    have hgr2 : Gr w (wr.setCell ⟨w.heap.size, k, none⟩ (.bool true)) := Gr.setCell hgr (Nat.le_refl _) _
                    have HSE := Lib.hid hse
                    have HGR2 := Lib.hid hgr2; have HB2 := Lib.hid hb2
                    obtain ⟨ni, hni⟩ : ∃ ni, ni = (((k + 1 : Nat) : Int)) := ⟨_, rfl⟩
                    rw [← hni] at hn1i hn2i hki hkw ⊢
                    clear hse hgr2 hb2 hn1 hn2 hni hbb hgr
                    go_wp2_with fail
                    go_roundw
                    case rel => exact ⟨i + 1, 0, 0, [], out.set k true, by go_num, by omega, rfl, rfl, by omega, by omega, Lib.hid ⟨by simp, rfl, rfl, by rw [List.length_set]; exact HOL.out⟩, Lib.hid (by rw [show out.set k true = setP out (valD ds) from HSE.out.symm]; exact HNX.out), HB2.out, HGR2.out⟩
                    case measure => simp [intOf]; omega
                  · have hn2i : ¬ (n : Int) ≤ (N : Int) := by omega
                    rw [if_neg (by have := HOL.out; omega)] at hse
                    have HSE := Lib.hid hse
                    clear hse hn1 hn2
                    go_wp2_with fail
                    go_roundw
                    case rel => exact ⟨i + 1, 0, 0, [], out, by go_num, by omega, rfl, rfl, by omega, by omega, Lib.hid ⟨by simp, rfl, rfl, HOL.out⟩, Lib.hid (by rw [show out = setP out (valD ds) from HSE.out.symm]; exact HNX.out), hbb, hgr⟩
                    case measure => simp [intOf]; omega
                · have hn1i : ¬ (1 : Int) ≤ (n : Int) := by omega
                  rw [if_neg (by have := HOL.out; omega)] at hse
                  have HSE := Lib.hid hse
                  clear hse hn1
                  go_wp2_with fail
                  go_roundw
                  case rel => exact ⟨i + 1, 0, 0, [], out, by go_num, by omega, rfl, rfl, by omega, by omega, Lib.hid ⟨by simp, rfl, rfl, HOL.out⟩, Lib.hid (by rw [show out = setP out (valD ds) from HSE.out.symm]; exact HNX.out), hbb, hgr⟩
                  case measure => simp [intOf]; omega
              · have hd0b : ((d : Int) == 0) = true := by simp; omega
                have hds : ds = [] := List.eq_nil_of_length_eq_zero (by have := HDL.out; omega)
                rw [hds, rst_empty] at hx
                have HRN := Lib.hid hx.symm
                clear hx hd0 hds hbb
                go_wp2_with fail
                go_ret2
                obtain ⟨e1, e2⟩ := HE1.out (HRO.out.trans HRN.out)
                exact ⟨_, by rw [e1]; rfl, by rw [e2]; exact HL.out.gr hgr, hgr⟩
            · have h47b : ((c.toNat : Int) == 47) = false := by simp; omega
              have h47n : ¬ c.toNat = 47 := h47
              rw [rst_bad out ds _ c HAD.out (by rintro rfl; exact h47 rfl) hisd] at hx
              have HRN := Lib.hid hx.symm
              clear hx h47 hisd hbb
              obtain ⟨cn, hcn⟩ : ∃ cn, c.toNat = cn := ⟨_, rfl⟩
              have hg2 : ∀ h : i < s.size, (s[i]'h).toNat = cn := fun h => by rw [← hcn]; exact congrArg UInt8.toNat hg
              have hg3 := hg2 hlt
              rw [hcn] at h47b hd hcl
              clear h47n hg hcn hg2 hii hn5
              by_cases h1 : 48 ≤ cn
              · have h1i : (48 : Int) ≤ (cn : Int) := by omega
                have h2 : ¬ cn ≤ 57 := by omega
                have h2i : ¬ (cn : Int) ≤ 57 := by omega
                clear hd
                go_wp2_with fail
                go_ret2
                obtain ⟨e1, e2⟩ := HE1.out (HRO.out.trans HRN.out)
                exact ⟨_, by rw [e1]; rfl, by rw [e2]; exact HL.out.gr hgr, hgr⟩
              · have h1i : ¬ (48 : Int) ≤ (cn : Int) := by omega
                clear hd
                go_wp2_with fail
                go_ret2
                obtain ⟨e1, e2⟩ := HE1.out (HRO.out.trans HRN.out)
                exact ⟨_, by rw [e1]; rfl, by rw [e2]; exact HL.out.gr hgr, hgr⟩
        · have hie : i = s.size := by omega
          have hlti : ¬ (i : Int) < (s.size : Int) := by omega
          have hdr : t.drop i = [] := List.drop_eq_nil_of_le (by have := HSZ.out; omega)
          rw [hdr, pcs_end ds HAD.out] at hx
          have HIE := Lib.hid hie
          clear hdr HX hle hie
          by_cases hd0 : 0 < d
          · have hd0b : ((d : Int) == 0) = false := by simp; omega
            rw [rst_go out ds _ HAD.out (by have := HDL.out; omega)] at hx
            have hnx : if i + 1 ≤ s.size then rstP (setP out (valD ds)) (pcs ([] ++ t.drop (i + 1))) = R else R = some (setP out (valD ds)) := by
              rw [if_neg (by have := HIE.out; omega)]; exact hx.symm
            have HNX := Lib.hid hnx
            clear hnx hx hd0
            have hse := setP_E out ds (by have := HOL.out; omega)
            rw [← HVE.out] at hse
            by_cases hn1 : 1 ≤ n
            · have hn1i : (1 : Int) ≤ (n : Int) := by omega
              by_cases hn2 : n ≤ N
              · have hn2i : (n : Int) ≤ (N : Int) := by omega
                rw [if_pos ⟨hn1, by have := HOL.out; omega⟩] at hse
                obtain ⟨k, rfl⟩ : ∃ k, n = k + 1 := ⟨n - 1, by omega⟩
                have hki : (((k + 1 : Nat) : Int)) - 1 = (k : Int) := by omega
                obtain ⟨⟨u0, hu0⟩, hf0⟩ := hbb.cell k (by have := HOL.out; omega)
                have hkN : (k : Int) < (N : Int) := by omega
                have hkw : IntKind.i64.wrap (((k + 1 : Nat) : Int) - 1) = (k : Int) := by rw [hki]; exact IntWalk.i64_in _ (by omega)
                have hb2 := hbb.set k true
                have hgr2 : Gr w (wr.setCell ⟨w.heap.size, k, none⟩ (.bool true)) := Gr.setCell hgr (Nat.le_refl _) _
                have HSE := Lib.hid hse
                have HGR2 := Lib.hid hgr2; have HB2 := Lib.hid hb2
                obtain ⟨ni, hni⟩ : ∃ ni, ni = (((k + 1 : Nat) : Int)) := ⟨_, rfl⟩
                rw [← hni] at hn1i hn2i hki hkw ⊢
                clear hse hgr2 hb2 hn1 hn2 hni hbb hgr
                go_wp2_with fail
                go_roundw
                case rel => exact ⟨i + 1, 0, 0, [], out.set k true, by go_num, by have := HIE.out; omega, rfl, rfl, by omega, by omega, Lib.hid ⟨by simp, rfl, rfl, by rw [List.length_set]; exact HOL.out⟩, Lib.hid (by rw [show out.set k true = setP out (valD ds) from HSE.out.symm]; exact HNX.out), HB2.out, HGR2.out⟩
                case measure => simp [intOf]; omega
              · have hn2i : ¬ (n : Int) ≤ (N : Int) := by omega
                rw [if_neg (by have := HOL.out; omega)] at hse
                have HSE := Lib.hid hse
                clear hse hn1 hn2
                go_wp2_with fail
                go_roundw
                case rel => exact ⟨i + 1, 0, 0, [], out, by go_num, by have := HIE.out; omega, rfl, rfl, by omega, by omega, Lib.hid ⟨by simp, rfl, rfl, HOL.out⟩, Lib.hid (by rw [show out = setP out (valD ds) from HSE.out.symm]; exact HNX.out), hbb, hgr⟩
                case measure => simp [intOf]; omega
            · have hn1i : ¬ (1 : Int) ≤ (n : Int) := by omega
              rw [if_neg (by have := HOL.out; omega)] at hse
              have HSE := Lib.hid hse
              clear hse hn1
              go_wp2_with fail
              go_roundw
              case rel => exact ⟨i + 1, 0, 0, [], out, by go_num, by have := HIE.out; omega, rfl, rfl, by omega, by omega, Lib.hid ⟨by simp, rfl, rfl, HOL.out⟩, Lib.hid (by rw [show out = setP out (valD ds) from HSE.out.symm]; exact HNX.out), hbb, hgr⟩
              case measure => simp [intOf]; omega
          · have hd0b : ((d : Int) == 0) = true := by simp; omega
            have hds : ds = [] := List.eq_nil_of_length_eq_zero (by have := HDL.out; omega)
            rw [hds, rst_empty] at hx
            have HRN := Lib.hid hx.symm
            clear hx hd0 hds hbb
            go_wp2_with fail
            go_ret2
            obtain ⟨e1, e2⟩ := HE1.out (HRO.out.trans HRN.out)
            exact ⟨_, by rw [e1]; rfl, by rw [e2]; exact HL.out.gr hgr, hgr⟩
      · have hlei : ¬ (i : Int) ≤ (s.size : Int) := by omega
        have hx := HX.out
        rw [if_neg hle] at hx
        have HXS := Lib.hid hx
        clear hx HX
        go_wp2_with fail
        go_ret2
        obtain ⟨e1, e2⟩ := HE2.out _ (HRO.out.trans HXS.out)
        exact ⟨_, by rw [e1]; rfl, by rw [e2]; exact hbb.bl hB HOL.out.symm, hgr⟩
end Go.Proofs.YtjdmobildcgidaaDoor
