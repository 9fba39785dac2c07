/-
  Digits and repeats as bytes: the program's text.
-/
import Derived.Test.YtaeppimldbknhaaZMcI0
import Derived.Test.YtaeppimldbknhaaZMcH
namespace Go.Proofs.Ytaeppimldbknhaa
set_option linter.unusedSimpArgs false
set_option linter.unusedVariables false
open Go.RowKit
set_option linter.unusedVariables false

theorem repeatL_eq (b : List UInt8) (n : Nat) : Lib.repeatL b n = repR n b := by
  induction n with
  | zero => rfl
  | succ n ih => simp only [Lib.repeatL, ih, repR, List.replicate_succ, List.flatten_cons]
theorem full_iff {M o n b : Nat} (hb : 0 < b) (ho : o ≤ M) : (M - o) / b < n ↔ M < o + n * b := by
  rw [Nat.div_lt_iff_lt_mul hb]; omega

set_option maxRecDepth 100000 in
set_option maxHeartbeats 2000000 in
theorem decode_any (l : List UInt8) (most : Int) (w : World) (hl : l.length ≤ 1000000) (hmost : most ≤ 1000000) (hm : MaxOk w) :
    Calls Try.prog 9 #[.string (bsl l), .int .i64 most] w fun e w' => e = .returned (.tuple #[.string (bsl (decR l most.toNat []).1), .int .i64 (decR l most.toNat []).2]) ∧ Gr w w' := by
  obtain ⟨R, hR⟩ : ∃ R, R = decR l most.toNat [] := ⟨_, rfl⟩
  rw [← hR]
  obtain ⟨M, hM⟩ : ∃ M, M = most.toNat := ⟨_, rfl⟩
  rw [← hM] at hR
  have hmax : max most 0 = (M : Int) := by omega
  have hM6 : M ≤ 1000000 := by omega
  have HR := Lib.hid hR; have HM := Lib.hid hM
  clear hR hM
  go_enter Try.func9, Try.ntmps9
  go_wp2_with fail
  clear hmax
  go_loopw [0] (fun sv wr => ∃ (r o : List UInt8), sv = .string (bsl r) ∧ r.length ≤ 1000000 ∧ o.length ≤ M ∧ IsB w wr o ∧ Hid (decR r M o = R) ∧ Gr w wr) (fun sv _ => match sv with | .string s => s.size | _ => 0)
  case atStart => exact ⟨l, [], rfl, hl, by simp, Lib.fresh_isBuilder 56 5 w, Lib.hid HR.out.symm, by (repeat (first | with_reducible exact Gr.refl _ | with_reducible assumption | with_reducible refine Gr.setCell ?_ (by simp; try omega) _ | with_reducible refine Gr.alloc ?_ _ | with_reducible refine Gr.drew ?_ | with_reducible refine Gr.drewN ?_ _ | with_reducible refine Gr.trans ?_ (by assumption)))⟩
  case round =>
    obtain ⟨r, o, rfl, hr, ho, hbld, HD, hgr⟩ := hrel
    by_cases hr0 : r = []
    · subst hr0
      have he := bsl_emptyL (l := []) rfl
      have hR2 : R = (o, 0) := by rw [← HD.out]; rfl
      subst hR2
      have hst := Try.Builder_String_any w.heap.size w.heap.size o wr hbld hgr.size
      obtain ⟨t, ht⟩ : ∃ t, t = bsl [] := ⟨_, rfl⟩
      rw [← ht] at he ⊢
      clear ht
      go_wp2_with (go_at_call 25; (with_reducible refine hst.mono ?_); rintro e w1 ⟨rfl, hb1⟩)
      go_ret2
      exact ⟨rfl, hgr.step (by omega) hb1⟩
    · have he := bsl_consL hr0
      have hpc := fun w (h : MaxOk w) => piece_any r w hr0 hr h
      have hmr := hm.gr hgr
      obtain ⟨t, ht⟩ : ∃ t, t = bsl r := ⟨_, rfl⟩
      rw [← ht] at he hpc ⊢
      have HT := Lib.hid ht
      clear ht
      rcases hp : pieceR r with _ | ⟨b, n, rest⟩
      · have hR2 : R = ([], 3) := by rw [← HD.out]; exact decR_bad M o hr0 hp
        subst hR2
        unfold PcR at hpc
        rw [hp] at hpc
        clear hp
        go_wp2_with (go_at_call 21; (with_reducible refine (hpc _ hmr).mono ?_); rintro e w1 ⟨⟨pb, pr, pn, rfl⟩, hg1⟩)
        go_ret2
        exact ⟨rfl, hgr.trans hg1⟩
      · unfold PcR at hpc
        rw [hp] at hpc
        simp only [PcOk] at hpc
        obtain ⟨hlt, hn1, hn2⟩ := pieceR_len hp
        by_cases hb0 : b = []
        · subst hb0
          have hnx := decR_next M o hp (by simp; omega)
          rw [repR_nil, List.append_nil] at hnx
          have hrep := fun w => Try.strings_Repeat (bsl []) n w (by omega) (by simp [bsl, ByteArray.size])
          simp only [bsl_list, repeatL_eq, repR_nil] at hrep
          have he2 := bsl_emptyL (l := []) rfl
          have HNX := Lib.hid hnx
          obtain ⟨eb, heb⟩ : ∃ t, t = bsl [] := ⟨_, rfl⟩
          have heb2 : (⟨([] : List UInt8).toArray⟩ : ByteArray) = eb := heb.symm
          rw [heb2] at hrep
          rw [← heb] at he2 hrep hpc
          have HEB := Lib.hid heb
          clear hp hnx heb heb2
          have hws := fun (w2 : World) (h : IsB w w2 o) (hB : w.heap.size ≤ w2.heap.size) => bld_writeString w.heap.size w.heap.size (Lib.byteCells o) eb w2 h (by rw [Lib.byteCells_length, HEB.out]; simp [bsl, ByteArray.size]; omega) hB
          go_wp2_with (first
            | (go_at_call 21; (with_reducible refine (hpc _ hmr).mono ?_); rintro e w1 ⟨rfl, hg1⟩)
            | (go_at_call 24; (with_reducible refine (hrep _).mono ?_); rintro e w2 ⟨rfl, hb2⟩; have hbl2 := isBuilder_gr (isBuilder_gr hbld hg1) hb2; have hgr2 := (hgr.trans hg1).trans hb2; have hsz2 := Gr.size hgr2)
            | (go_at_call 23; (with_reducible refine (hws _ hbl2 hsz2).mono ?_); rintro e w3 ⟨rfl, hbl3, hb3⟩))
          go_roundw
          case rel => exact ⟨rest, o, rfl, by omega, ho, by rw [HEB.out] at hbl3; exact .inr (by simpa [Lib.strCells, bsl] using hbl3), Lib.hid (HNX.out.symm.trans HD.out), hgr2.step (Nat.le_refl _) hb3⟩
          case measure => show (bsl rest).size < t.size; rw [HT.out, bsl_size, bsl_size]; exact hlt
        · have hbl : 0 < b.length := by
            rcases b with _ | ⟨c, b⟩
            · exact absurd rfl hb0
            · simp
          have he2 := bsl_consL hb0
          have hsb := bsl_size b
          have hpos : ((bsl b).size : Int) ≠ 0 := by omega
          have hposn : (bsl b).size ≠ 0 := by omega
          have hLen := fun (w2 : World) (h : IsB w w2 o) => Try.Builder_Len w.heap.size w.heap.size (Lib.byteCells o) w2 h
          simp only [Lib.byteCells_length] at hLen
          have hfi := full_iff (M := M) (n := n) hbl ho
          have hsub : (M : Int) - (o.length : Int) = ((M - o.length : Nat) : Int) := by omega
          have hrep := fun w (hh : (bsl b).size * n ≤ 140737488355328) => Try.strings_Repeat (bsl b) n w (by omega) hh
          simp only [bsl_list, repeatL_eq] at hrep
          obtain ⟨s, hs⟩ : ∃ s, s = bsl b := ⟨_, rfl⟩
          rw [← hs] at he2 hpos hposn hrep hsb hpc
          have HS := Lib.hid hs
          obtain ⟨nb, hnb⟩ : ∃ k, k = b.length := ⟨_, rfl⟩
          rw [← hnb] at hbl hfi hsb
          have hsb' : (s.size : Int) = (nb : Int) := by omega
          have HNB := Lib.hid hnb
          clear hs hnb
          obtain ⟨q, hq⟩ : ∃ q, q = (M - o.length) / nb := ⟨_, rfl⟩
          rw [← hq] at hfi
          have hq6 : q ≤ 1000000 := by rw [hq]; exact Nat.le_trans (Nat.div_le_self _ _) (by omega)
          have hqi : ((M - o.length : Nat) : Int) / (nb : Int) = (q : Int) := by rw [hq, ← Int.natCast_ediv]
          have HQ := Lib.hid hq
          clear hq
          by_cases hfull : M < o.length + n * nb
          · have hR2 : R = ([], 5) := by rw [← HD.out]; exact decR_full M o hp (by rw [← HNB.out]; exact hfull)
            subst hR2
            have hlq : (q : Int) < (n : Int) := by have := hfi.2 hfull; omega
            have hlq' : q < n := hfi.2 hfull
            clear hp hfi hfull hrep
            go_wp2_with (first
              | (go_at_call 21; (with_reducible refine (hpc _ hmr).mono ?_); rintro e w1 ⟨rfl, hg1⟩; have hbl1 := isBuilder_gr hbld hg1)
              | (go_at_call 22; (with_reducible refine (hLen _ hbl1).mono ?_); rintro e w2 ⟨rfl, rfl⟩))
            go_ret2
            exact ⟨rfl, hgr.trans hg1⟩
          · have hnx := decR_next M o hp (by rw [← HNB.out]; exact hfull)
            have hlq : ¬ (q : Int) < (n : Int) := fun h => hfull (hfi.1 (by omega))
            have hlq' : ¬ q < n := fun h => hfull (hfi.1 h)
            have hxl := repR_len n b
            obtain ⟨x, hx⟩ : ∃ x, x = repR n b := ⟨_, rfl⟩
            rw [← hx] at hnx hrep hxl
            rw [← HNB.out] at hxl
            have hrep2 := fun w => hrep w (by rw [hsb, Nat.mul_comm]; omega)
            obtain ⟨xs, hxs⟩ : ∃ xs, xs = bsl x := ⟨_, rfl⟩
            have hxs2 : (⟨x.toArray⟩ : ByteArray) = xs := hxs.symm
            rw [hxs2] at hrep2
            have hws := fun (w2 : World) (h : IsB w w2 o) (hB : w.heap.size ≤ w2.heap.size) => bld_writeString w.heap.size w.heap.size (Lib.byteCells o) xs w2 h (by rw [Lib.byteCells_length, hxs, bsl_size, hxl]; omega) hB
            have HNX := Lib.hid hnx; have HXS := Lib.hid hxs; have HXL := Lib.hid hxl; have HX := Lib.hid hx
            have HFU := Lib.hid hfull
            clear hp hfi hfull hrep hnx hxs hxs2 hxl hx
            go_wp2_with (first
              | (go_at_call 21; (with_reducible refine (hpc _ hmr).mono ?_); rintro e w1 ⟨rfl, hg1⟩; have hbl1 := isBuilder_gr hbld hg1; have hgr1 := hgr.trans hg1)
              | (go_at_call 22; (with_reducible refine (hLen _ hbl1).mono ?_); rintro e w2 ⟨rfl, rfl⟩)
              | (go_at_call 24; (with_reducible refine (hrep2 _).mono ?_); rintro e w4 ⟨rfl, hb4⟩; have hbl2 := isBuilder_gr hbl1 hb4; have hgr2 := hgr1.trans hb4; have hsz2 := Gr.size hgr2)
              | (go_at_call 23; (with_reducible refine (hws _ hbl2 hsz2).mono ?_); rintro e w3 ⟨rfl, hbl3, hb3⟩))
            go_roundw
            case rel => exact ⟨rest, o ++ x, rfl, by omega, by rw [List.length_append, HXL.out]; have := HFU.out; omega, by rw [HXS.out] at hbl3; exact .inr (by rw [Lib.byteCells_append]; exact hbl3), Lib.hid ((show decR rest M (o ++ x) = _ from HNX.out.symm).trans HD.out), hgr2.step (Nat.le_refl _) hb3⟩
            case measure => show (bsl rest).size < t.size; rw [HT.out, bsl_size, bsl_size]; exact hlt
end Go.Proofs.Ytaeppimldbknhaa
