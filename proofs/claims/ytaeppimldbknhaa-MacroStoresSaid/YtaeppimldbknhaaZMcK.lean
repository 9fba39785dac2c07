/-
  Digits and repeats as bytes: the document's Decode.
-/
import Derived.Deep.CutBlock
import Derived.Deep.DeepCutAuto
import Derived.Outline
import Derived.Test.YtaeppimldbknhaaZMcJ
namespace Go.Proofs.Ytaeppimldbknhaa
set_option linter.unusedSimpArgs false
set_option linter.unusedVariables false
open Go.RowKit
set_option linter.unusedVariables false

theorem decR_past {l : List UInt8} {k : Nat} (h : ¬ k < l.length) (M : Nat) (o : List UInt8) : decR (l.drop k) M o = (o, 0) := by
  rw [List.drop_of_length_le (by omega)]; rfl
theorem pieceR_blen {l b rest : List UInt8} {n : Nat} (h : pieceR l = some (b, n, rest)) : b.length ≤ l.length := by
  match l, h with
  | c :: r, h =>
    by_cases hc : c = 33
    · subst hc
      rw [piece_bang] at h
      have h1 := cntR_len 0 r
      generalize (cntR 0 r).2 = t at h h1
      match t, h with
      | s :: u, h =>
        simp only [bangR] at h
        split at h
        · obtain ⟨b', hb, h'⟩ := Option.map_eq_some_iff.1 h
          simp only [Prod.mk.injEq] at h'
          obtain ⟨rfl, _, _⟩ := h'
          have := hexR_len hb
          have := semR_len1 u
          simp at h1 ⊢; omega
        · cases h
    · rw [piece_two _ _ hc] at h
      match r, h with
      | d :: u, h =>
        obtain ⟨b', hb, h'⟩ := Option.map_eq_some_iff.1 h
        simp only [Prod.mk.injEq] at h'
        obtain ⟨rfl, _, _⟩ := h'
        have := hexR_len hb
        simp at this ⊢; omega
theorem byte_eq (k : Nat) (hk : k < 256) : (((UInt8.ofNat k).toNat : Int) != (k : Int)) = false := by
  rw [UInt8.toNat_ofNat']; simp; omega

set_option maxRecDepth 100000 in
set_option maxHeartbeats 4000000 in
theorem rdecode_any (l : List UInt8) (most : Int) (w : World) (hl : l.length ≤ 400000) (hmost : most ≤ 400000) :
    Calls Try.prog 10 #[.string (bsl l), .int .i64 most] w fun e w' => e = .returned (.tuple #[.string (bsl (decR l most.toNat []).1), .int .i64 (decR l most.toNat []).2]) ∧ Gr w w' := by
  have hsz := bsl_size l
  obtain ⟨R, hR⟩ : ∃ R, R = decR l most.toNat [] := ⟨_, rfl⟩
  rw [← hR]
  obtain ⟨M, hM⟩ : ∃ M, M = most.toNat := ⟨_, rfl⟩
  rw [← hM] at hR
  have hM6 : M ≤ 400000 := by omega
  have hsem := fun (a : Nat) (ha : a ≤ l.length) w => semi_any l a w ha (by omega)
  have HR := Lib.hid hR; have HSZ := Lib.hid hsz; have HM := Lib.hid hM
  clear hR hsz hM
  go_enter Try.func10, Try.ntmps10
  go_upto_if 16 with fail
  go_cut [1] (fun v wx => w = wx ∧ v = .int .i64 (M : Int))
  case first =>
    by_cases h0 : most < 0
    · have hM0 : M = 0 := by have := HM.out; omega
      subst hM0
      go_wp2_with fail
      go_meet
      exact ⟨rfl, rfl⟩
    · obtain rfl : most = (M : Int) := by have := HM.out; omega
      go_wp2_with fail
      go_meet
      exact ⟨rfl, rfl⟩
  case rest =>
    obtain ⟨rfl, rfl⟩ := hcut
    go_wp2_with fail
    go_loopw [6, 7] (fun ov iv wr => ∃ (k : Nat) (o : List UInt8), k ≤ l.length + 1 ∧ iv = .int .i64 (k : Int) ∧ ov = .string (bsl o) ∧ o.length ≤ M ∧ Hid (decR (l.drop k) M o = R) ∧ Gr w wr) (fun _ iv _ => l.length + 1 - (intOf iv).toNat)
    case atStart => exact ⟨0, [], by omega, rfl, rfl, by simp, Lib.hid HR.out.symm, by (repeat (first | with_reducible exact Gr.refl _ | with_reducible assumption | with_reducible refine Gr.setCell ?_ (by simp; try omega) _ | with_reducible refine Gr.alloc ?_ _ | with_reducible refine Gr.drew ?_ | with_reducible refine Gr.drewN ?_ _ | with_reducible refine Gr.trans ?_ (by assumption)))⟩
    case round =>
      obtain ⟨k, o, hk, rfl, rfl, ho, HD, hgr⟩ := hrel
      by_cases hlt : k < (bsl l).size
      · have hlt2 : k < l.length := by have := HSZ.out; omega
        have hI : (k : Int) < ((bsl l).size : Int) := by omega
        have hb : (k : Int) ≤ 400000 := by omega
        obtain ⟨c, hgc⟩ : ∃ c, (bsl l)[k]'hlt = c := ⟨_, rfl⟩
        have hd : l.drop k = c :: l.drop (k + 1) := by rw [← hgc, bsl_get hlt]; exact drop_one hlt2
        by_cases h33 : c = 33
        · subst h33
          have hc0 : ((UInt8.toNat 33 : Int) != 33) = false := byte_eq 33 (by omega)
          have HDD := Lib.hid hd
          clear hd
          go_upto_block 2 with fail
          go_cut [7, 10] (fun iv nv wx => wr = wx ∧ ∃ (j m : Nat), j ≤ (bsl l).size ∧ k < j ∧ iv = .int .i64 (j : Int) ∧ nv = .int .i64 (m : Int) ∧ m ≤ 65535 ∧ Hid (cntR 0 (l.drop (k + 1)) = (m, l.drop j)))
          case first =>
            go_wp2_with fail
            go_loop [7, 10] (fun iv nv => ∃ (j m : Nat), j ≤ (bsl l).size ∧ k < j ∧ iv = .int .i64 (j : Int) ∧ nv = .int .i64 (m : Int) ∧ m ≤ 65535 ∧ Hid (cntR m (l.drop j) = cntR 0 (l.drop (k + 1)))) (fun iv _ => (bsl l).size - (intOf iv).toNat)
            case atStart => exact ⟨k + 1, 0, by omega, by omega, by go_num, rfl, by omega, Lib.hid rfl⟩
            case round =>
              obtain ⟨j, m, hj, hkj, rfl, rfl, hm, HC⟩ := hrel
              by_cases hjl : j < (bsl l).size
              · have hjl2 : j < l.length := by have := HSZ.out; omega
                have hJ : (j : Int) < ((bsl l).size : Int) := by omega
                have hjb : (j : Int) ≤ 400000 := by have := HSZ.out; omega
                obtain ⟨e, hge⟩ : ∃ e, (bsl l)[j]'hjl = e := ⟨_, rfl⟩
                have hdj : l.drop j = e :: l.drop (j + 1) := by rw [← hge, bsl_get hjl]; exact drop_one hjl2
                have he := e.toNat_lt
                by_cases hdg : 48 ≤ e.toNat ∧ e.toNat ≤ 57
                · have hstep : cntR (min (m * 10 + (e.toNat - 48)) 65535) (l.drop (j + 1)) = cntR 0 (l.drop (k + 1)) := by rw [← HC.out, hdj]; simp only [cntR]; rw [if_pos hdg]
                  have h1 : (48 : Int) ≤ (e.toNat : Int) := by omega
                  have h2 : (e.toNat : Int) ≤ 57 := by omega
                  have h1' : 48 ≤ e.toNat := hdg.1
                  have h2' : e.toNat ≤ 57 := hdg.2
                  have e1 : IntKind.i64.wrap (10 * (m : Int)) = 10 * (m : Int) := IntWalk.i64_in _ (by omega)
                  have e2 : IntKind.u8.wrap ((e.toNat : Int) - 48) = (e.toNat : Int) - 48 := u8_small _ (by omega) (by omega)
                  have e3 : IntKind.i64.wrap ((e.toNat : Int) - 48) = (e.toNat : Int) - 48 := IntWalk.i64_in _ (by omega)
                  have e4 : IntKind.i64.wrap (10 * (m : Int) + ((e.toNat : Int) - 48)) = 10 * (m : Int) + ((e.toNat : Int) - 48) := IntWalk.i64_in _ (by omega)
                  have HS := Lib.hid hstep; have HDJ := Lib.hid hdj
                  clear hstep hdg hdj
                  by_cases hbig : (65535 : Int) < 10 * (m : Int) + ((e.toNat : Int) - 48)
                  · go_wp2_with fail
                    go_round
                    case rel => exact ⟨j + 1, 65535, by omega, by omega, by go_num, rfl, by omega, Lib.hid (by rw [← HS.out]; congr 1; omega)⟩
                    case measure => simp [intOf]; omega
                  · go_wp2_with fail
                    go_round
                    case rel => exact ⟨j + 1, m * 10 + (e.toNat - 48), by omega, by omega, by go_num, congrArg (Value.int .i64) (by omega), by omega, Lib.hid (by rw [← HS.out]; congr 1; omega)⟩
                    case measure => simp [intOf]; omega
                · have hstep : cntR 0 (l.drop (k + 1)) = (m, l.drop j) := by rw [← HC.out, hdj]; simp only [cntR]; rw [if_neg hdg]
                  have HS := Lib.hid hstep
                  clear hstep hdj
                  by_cases h1 : 48 ≤ e.toNat
                  · have h2 : ¬ e.toNat ≤ 57 := by omega
                    have h1' : (48 : Int) ≤ (e.toNat : Int) := by omega
                    have h2' : ¬ (e.toNat : Int) ≤ 57 := by omega
                    clear hdg
                    go_wp2_with fail
                    go_meet
                    exact ⟨rfl, j, m, hj, hkj, rfl, rfl, hm, HS⟩
                  · have h1' : ¬ (48 : Int) ≤ (e.toNat : Int) := by omega
                    clear hdg
                    go_wp2_with fail
                    go_meet
                    exact ⟨rfl, j, m, hj, hkj, rfl, rfl, hm, HS⟩
              · have hstep : cntR 0 (l.drop (k + 1)) = (m, l.drop j) := by
                  rw [← HC.out, List.drop_of_length_le (by rw [← HSZ.out]; omega)]; rfl
                have HS := Lib.hid hstep
                clear hstep
                have hJ : ¬ (j : Int) < ((bsl l).size : Int) := by omega
                go_wp2_with fail
                go_meet
                exact ⟨rfl, j, m, hj, hkj, rfl, rfl, hm, HS⟩
          case rest =>
            obtain ⟨rfl, j, m, hj, hkj, rfl, rfl, hm, HC⟩ := hcut
            go_upto_if 81 with fail
            go_cut [10] (fun v wx => wr = wx ∧ v = .int .i64 ((max m 1 : Nat) : Int))
            case first =>
              by_cases hm0 : m = 0
              · subst hm0
                go_wp2_with fail
                go_meet
                exact ⟨rfl, rfl⟩
              · have hmz : ((m : Int) == 0) = false := by simp; omega
                go_wp2_with fail
                go_meet
                exact ⟨rfl, congrArg (Value.int .i64) (by omega)⟩
            case rest =>
              obtain ⟨rfl, rfl⟩ := hcut
              obtain ⟨n, hn⟩ : ∃ n, n = max m 1 := ⟨_, rfl⟩
              rw [← hn]
              have hn1 : 1 ≤ n ∧ n ≤ 65535 := by omega
              have hbng : pieceR (l.drop k) = bangR m (l.drop j) := by rw [HDD.out, piece_bang, HC.out]
              have HBN := Lib.hid hbng; have HN := Lib.hid hn
              clear hbng hn
              have hjb : (j : Int) ≤ 400000 := by have := HSZ.out; omega
              by_cases hjl : j < (bsl l).size
              · have hjl2 : j < l.length := by have := HSZ.out; omega
                have hq : ((j : Int) == ((bsl l).size : Int)) = false := by simp; omega
                obtain ⟨e, hge⟩ : ∃ e, (bsl l)[j]'hjl = e := ⟨_, rfl⟩
                have hdj : l.drop j = e :: l.drop (j + 1) := by rw [← hge, bsl_get hjl]; exact drop_one hjl2
                by_cases h59 : e = 59
                · subst h59
                  have he0 : ((UInt8.toNat 59 : Int) != 59) = false := byte_eq 59 (by omega)
                  have hJ : (j : Int) < ((bsl l).size : Int) := by omega
                  obtain ⟨u, hu⟩ : ∃ u, u = l.drop (j + 1) := ⟨_, rfl⟩
                  have hs1 := hsem (j + 1) (by omega)
                  rw [← hu] at hs1 hdj
                  obtain ⟨sp1, sp2⟩ := semR_parts u
                  have htw := twL_le u
                  have hul : u.length = l.length - (j + 1) := by rw [hu, List.length_drop]
                  obtain ⟨E, hE⟩ : ∃ E, E = j + 1 + twL u := ⟨_, rfl⟩
                  rw [← hE] at hs1
                  have ej : ((j + 1 : Nat) : Int) = (j : Int) + 1 := by omega
                  rw [ej] at hs1
                  clear ej
                  have hEl : E ≤ (bsl l).size := by have := HSZ.out; omega
                  have hsl : (bsl l).extract (j + 1) E = bsl (semR u).1 := by rw [bsl_extract, ← hu, sp1, show E - (j + 1) = twL u by omega]
                  have hdE : l.drop (E + 1) = (semR u).2 := by rw [sp2]; generalize twL u = tw at hE ⊢; rw [hu, List.drop_drop]; congr 1; omega
                  have hjE : j + 1 ≤ E := by omega
                  have hjE' : (j : Int) + 1 ≤ (E : Int) := by omega
                  have hx1l : (semR u).1.length ≤ 1000000 := by rw [sp1, List.length_take]; omega
                  obtain ⟨x1, hx1⟩ : ∃ x, x = (semR u).1 := ⟨_, rfl⟩
                  rw [← hx1] at hsl hx1l
                  have hfr := fun w => rfromHex_any x1 w hx1l
                  obtain ⟨xs, hxs⟩ : ∃ xs, xs = bsl x1 := ⟨_, rfl⟩
                  rw [← hxs] at hsl hfr
                  have hbng : pieceR (l.drop k) = (hexR x1).map fun b => (b, n, l.drop (E + 1)) := by rw [HBN.out, hdj, hdE, hx1, HN.out]; rfl
                  have HB2 := Lib.hid hbng
                  clear hx1l hx1 hdE htw hul sp1 sp2 hu hE hxs hdj HBN hbng
                  rcases hx : hexR x1 with _ | b
                  · have hR2 : R = ([], 3) := by rw [← HD.out]; exact decR_bad M o (by rw [HDD.out]; simp) (by rw [HB2.out, hx]; rfl)
                    subst hR2
                    rw [docR_none hx] at hfr
                    clear hx
                    go_wp2_with (first
                      | (go_at_call 27; (with_reducible refine (hs1 _).mono ?_); rintro e w1 ⟨rfl, rfl⟩)
                      | (go_at_call 26; (with_reducible refine (hfr _).mono ?_); rintro e w2 ⟨rfl, hg2⟩))
                    go_ret2
                    exact ⟨rfl, hgr.trans hg2⟩
                  · rw [docR_some hx] at hfr
                    have hp : pieceR (l.drop k) = some (b, n, l.drop (E + 1)) := by rw [HB2.out, hx]; rfl
                    have HP := Lib.hid hp
                    clear hx hp HB2
                    go_upto_block 4 with (first
                      | (go_at_call 27; (with_reducible refine (hs1 _).mono ?_); rintro e w1 ⟨rfl, rfl⟩)
                      | (go_at_call 26; (with_reducible refine (hfr _).mono ?_); rintro e w2 ⟨rfl, hg2⟩))
                    clear hfr hs1
                    have HO : Hid (o.length ≤ M) := Lib.hid ho
                    go_cut [6] (fun ov wx => w2 = wx ∧ ov = .string (bsl (o ++ repR n b)) ∧ o.length + n * b.length ≤ M)
                    case first =>
                      go_wp2_with fail
                      go_loop [6, 14] (fun ov iv => ∃ i : Nat, i ≤ n ∧ iv = .int .i64 (i : Int) ∧ ov = .string (bsl (o ++ repR i b)) ∧ o.length + i * b.length ≤ M) (fun _ iv => n - (intOf iv).toNat)
                      case atStart => exact ⟨0, by omega, rfl, by simp [repR], by simpa using HO.out⟩
                      case round =>
                        obtain ⟨i, hi, rfl, rfl, hoi⟩ := hrel
                        by_cases hin : i < n
                        · have hin' : (i : Int) < (n : Int) := by omega
                          by_cases hb0 : b = []
                          · subst hb0
                            have he2 := bsl_emptyL (l := []) rfl
                            have HOI := Lib.hid hoi
                            clear hoi
                            go_wp2_with fail
                            go_meet
                            exact ⟨rfl, by rw [repR_nil, repR_nil], by have := HO.out; simp; omega⟩
                          · have he2 := bsl_consL hb0
                            have hap : bsl (o ++ repR i b) ++ bsl b = bsl (o ++ repR (i + 1) b) := by rw [bsl_app, repR_succ, List.append_assoc]
                            have hs3 : (bsl (o ++ repR (i + 1) b)).size = o.length + (i + 1) * b.length := by rw [bsl_size, List.length_append, repR_len]
                            have hs4 : (bsl (o ++ repR i b)).size = o.length + i * b.length := by rw [bsl_size, List.length_append, repR_len]
                            have hs5 := bsl_size b
                            have hbl : b.length ≤ 1000000 := by
                              have h1 := hs3; have := HP.out
                              have h2 := pieceR_blen this
                              rw [List.length_drop] at h2; omega
                            have hno : ¬ 9223372036854775807 < (bsl (o ++ repR i b)).size + (bsl b).size := by omega
                            obtain ⟨ox, hox⟩ : ∃ ox, ox = bsl (o ++ repR (i + 1) b) := ⟨_, rfl⟩
                            rw [← hox] at hap hs3
                            have HOX := Lib.hid hox; have HOI := Lib.hid hoi
                            have hmul : (i + 1) * b.length = i * b.length + b.length := Nat.succ_mul _ _
                            by_cases hfull : M < o.length + (i + 1) * b.length
                            · have hR2 : R = ([], 5) := by
                                rw [← HD.out]
                                refine decR_full M o HP.out ?_
                                have : (i + 1) * b.length ≤ n * b.length := Nat.mul_le_mul_right _ hin
                                omega
                              subst hR2
                              have hlen : (M : Int) < (ox.size : Int) := by omega
                              have hlen' : M < ox.size := by omega
                              clear hs3 hs4 hs5 hox hoi hmul hfull
                              go_wp2_with fail
                              go_ret2
                              exact ⟨rfl, hgr.trans hg2⟩
                            · have hlen : ¬ (M : Int) < (ox.size : Int) := by omega
                              have hlen' : ¬ M < ox.size := by omega
                              have HFU := Lib.hid hfull
                              clear hs3 hs4 hs5 hox hoi hmul hfull
                              go_wp2_with fail
                              go_round
                              case rel => exact ⟨i + 1, by omega, by go_num, by rw [HOX.out], by have := HFU.out; omega⟩
                              case measure => simp [intOf]; omega
                        · obtain rfl : i = n := by omega
                          have HOI := Lib.hid hoi
                          clear hoi
                          go_wp2_with fail
                          go_meet
                          exact ⟨rfl, rfl, HOI.out⟩
                    case rest =>
                      obtain ⟨rfl, rfl, hfit⟩ := hcut
                      have hnx := decR_next M o HP.out (by omega)
                      have HNX := Lib.hid hnx; have HF := Lib.hid hfit
                      clear hnx hfit
                      have hEb : (E : Int) ≤ 400000 := by have := HSZ.out; omega
                      go_wp2_with fail
                      go_roundw
                      case rel => exact ⟨E + 1, o ++ repR n b, by have := HSZ.out; omega, by go_num, rfl, by rw [List.length_append, repR_len]; exact HF.out, Lib.hid (HNX.out.symm.trans HD.out), hgr.trans hg2⟩
                      case measure => have := HSZ.out; simp [intOf]; omega
                · have he0 : ((e.toNat : Int) != 59) = true := byte_ne 59 (by omega) h59
                  have hR2 : R = ([], 3) := by
                    rw [← HD.out]
                    exact decR_bad M o (by rw [HDD.out]; simp) (by rw [HBN.out, hdj]; simp only [bangR]; rw [if_neg h59])
                  subst hR2
                  clear hdj
                  go_wp2_with fail
                  go_ret2
                  exact ⟨rfl, hgr⟩
              · have hq : ((j : Int) == ((bsl l).size : Int)) = true := by simp; omega
                have hR2 : R = ([], 3) := by
                  rw [← HD.out]
                  exact decR_bad M o (by rw [HDD.out]; simp) (by rw [HBN.out, List.drop_of_length_le (by rw [← HSZ.out]; omega)]; rfl)
                subst hR2
                go_wp2_with fail
                go_ret2
                exact ⟨rfl, hgr⟩
        · have hc0 : ((c.toNat : Int) != 33) = true := byte_ne 33 (by omega) h33
          have hpt := piece_two c (l.drop (k + 1)) h33
          by_cases hlast : k + 1 = (bsl l).size
          · have hR2 : R = ([], 3) := by
              rw [← HD.out, hd]
              exact decR_bad M o (by simp) (by rw [hpt, List.drop_of_length_le (by rw [← HSZ.out]; omega)]; rfl)
            subst hR2
            have hq : ((k : Int) + 1 == ((bsl l).size : Int)) = true := by simp; omega
            clear hd hpt hlast
            go_wp2_with fail
            go_ret2
            exact ⟨rfl, hgr⟩
          · have hlt1 : k + 1 < (bsl l).size := by omega
            have hq : ((k : Int) + 1 == ((bsl l).size : Int)) = false := by simp; omega
            have hlt12 : k + 1 < l.length := by have := HSZ.out; omega
            have hd2 := drop_one hlt12
            obtain ⟨d, hgd⟩ : ∃ d, l[k + 1]'hlt12 = d := ⟨_, rfl⟩
            rw [hgd] at hd2
            have hsl : (bsl l).extract k (k + 2) = bsl [c, d] := by
              rw [bsl_extract, hd, hd2, show k + 2 - k = 2 by omega]; rfl
            rw [hd2] at hpt hd
            have hk2 : k + 2 ≤ (bsl l).size := by omega
            have hfr := fun w => rfromHex_any [c, d] w (by simp)
            obtain ⟨cd, hcd⟩ : ∃ t, t = bsl [c, d] := ⟨_, rfl⟩
            rw [← hcd] at hsl hfr
            have HCD := Lib.hid hcd; have HPT := Lib.hid hpt; have HDD := Lib.hid hd
            clear hcd hpt hd hd2 hlast hgd
            rcases hx : hexR [c, d] with _ | x
            · have hR2 : R = ([], 3) := by
                rw [← HD.out, HDD.out]
                exact decR_bad M o (by simp) (by rw [HPT.out]; simp [twoR, hx])
              subst hR2
              rw [docR_none hx] at hfr
              clear hx
              go_wp2_with (go_at_call 26; (with_reducible refine (hfr _).mono ?_); rintro e w1 ⟨rfl, hg1⟩)
              go_ret2
              exact ⟨rfl, hgr.trans hg1⟩
            · have hxl := hexR_len hx
              have hp : pieceR (l.drop k) = some (x, 1, l.drop (k + 2)) := by rw [HDD.out, HPT.out]; simp [twoR, hx]
              rw [docR_some hx] at hfr
              have hx1 : x.length = 1 := by simp at hxl; omega
              have hap := bsl_app o x
              have hs1 := bsl_size o
              have hs2 := bsl_size x
              have hs3 := bsl_size (o ++ x)
              rw [List.length_append] at hs3
              have hno : ¬ 9223372036854775807 < (bsl o).size + (bsl x).size := by omega
              obtain ⟨ox, hox⟩ : ∃ ox, ox = bsl (o ++ x) := ⟨_, rfl⟩
              rw [← hox] at hap hs3
              have HOX := Lib.hid hox
              by_cases hfull : M < o.length + 1 * x.length
              · have hR2 : R = ([], 5) := by rw [← HD.out]; exact decR_full M o hp hfull
                subst hR2
                have hlen : (M : Int) < (ox.size : Int) := by omega
                have hlen' : M < ox.size := by omega
                clear hx hxl hp hx1 hs1 hs2 hs3 hox hfull
                go_wp2_with (go_at_call 26; (with_reducible refine (hfr _).mono ?_); rintro e w1 ⟨rfl, hg1⟩)
                go_ret2
                exact ⟨rfl, hgr.trans hg1⟩
              · have hnx := decR_next M o hp hfull
                rw [repR_one] at hnx
                have hlen : ¬ (M : Int) < (ox.size : Int) := by omega
                have hlen' : ¬ M < ox.size := by omega
                have HNX := Lib.hid hnx; have HFU : Hid (o.length + x.length ≤ M) := Lib.hid (by omega)
                clear hx hxl hp hx1 hs1 hs2 hs3 hox hfull hnx
                go_wp2_with (go_at_call 26; (with_reducible refine (hfr _).mono ?_); rintro e w1 ⟨rfl, hg1⟩)
                go_roundw
                case rel => exact ⟨k + 2, o ++ x, by omega, by go_num, by rw [HOX.out], by rw [List.length_append]; exact HFU.out, Lib.hid (HNX.out.symm.trans HD.out), hgr.trans hg1⟩
                case measure => simp [intOf]; omega
      · have hR2 : R = (o, 0) := by rw [← HD.out]; exact decR_past (by rw [← HSZ.out]; exact hlt) M o
        subst hR2
        have hI : ¬ (k : Int) < ((bsl l).size : Int) := by omega
        go_wp2_with fail
        go_ret2
        exact ⟨rfl, hgr⟩
end Go.Proofs.Ytaeppimldbknhaa
