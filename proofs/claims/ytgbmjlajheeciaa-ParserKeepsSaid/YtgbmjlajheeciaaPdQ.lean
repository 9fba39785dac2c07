/-
  The law that a parser keeps no memory of what it is fed, walked whole.
-/
import Derived.Test.YtgbmjlajheeciaaPdP
namespace Go.Proofs.Ytgbmjlajheeciaa
set_option linter.unusedSimpArgs false
set_option linter.unusedVariables false
open Go.RowKit

theorem PP.new0 (B : Nat) (w : World) (hB : B ≤ w.heap.size) : @PP ⟨B⟩ [w.heap.size] (w.alloc (.cells (pcells PS.init (.slice none 0 0) (.slice none 0 0) (.slice none 0 0)) 35)) w.heap.size PS.init :=
  @PP.build ⟨B⟩ _ _ _ _ (.slice none 0 0) (.slice none 0 0) (.slice none 0 0) ⟨heap_alloc_new w _, World.ownsRow_nil _ _ _ _, World.ownsRow_nil _ _ _ _, World.ownsRow_nil _ _ _ _, by simp, by simp [Value.ownBlock], by simp [Value.ownBlock], by simp [Value.ownBlock], by simp [Value.ownBlock], by simp; omega⟩
theorem PP.newB (B : Nat) (w : World) (hB : B ≤ w.heap.size) : @PP ⟨B⟩ [w.heap.size] (w.alloc (.cells #[.int .i64 0, .int .i64 0, .int .u8 0, .int .u8 0, .slice none 0 0, .string ⟨#[]⟩, .slice none 0 0, .slice none 0 0, .slice none 0 0, .int .i64 0, .bool false, .bool false, .bool false] 35)) w.heap.size PS.init := PP.new0 B w hB

set_option maxRecDepth 100000 in
set_option maxHeartbeats 4000000 in
theorem keeps_walk {w : World} {a : Option Addr} {len cap : Nat} {zs : List Int} (h : IsRow .u8 w a len cap zs) :
    Calls Try.prog 6 #[.slice a len cap] w fun e w' => e = .returned (.bool true) ∧ Gr w w' := by
  obtain ⟨n, hnd⟩ : ∃ n, n = min len 500 := ⟨_, rfl⟩
  obtain ⟨hr, hln, hl, hlc, hcm, hpl⟩ := h.rd (n := n) (by omega)
  have hn1 : n ≤ 500 := by omega
  have hsh := fun w' : World => short_walk a len cap 500 w' (by omega) hlc
  rw [← hnd] at hsh
  obtain ⟨l, hld⟩ : ∃ l, l = zs.take n := ⟨_, rfl⟩
  rw [← hld] at hr hln hl
  have hok := feedM_ok init_ok _ hl
  have hpar : ∀ t ∈ (feedM PS.init l).2, t.params.length ≤ 100000 := fun t ht => by have := feedM_params init_ok _ hl t ht; omega
  have hdat : ∀ t ∈ (feedM PS.init l).2, t.data.length ≤ 4096 := feedM_data init_ok _ hl
  have htl : (feedM PS.init l).2.length ≤ 40000 := by have := feedM_len PS.init l; omega
  have hS := fun (w' : World) (h : Rd w' a n (bcells l)) => (rsplit_law (cap := cap) hl (by omega) h).mono fun e w' h => h.v
  have hF := fun (B : Nat) (w' : World) (lv : List Nat) (p : Nat) (a' : Option Addr) (c' : Nat) (h : Rd w' a' n (bcells l)) (ho) (hp : @PP ⟨B⟩ lv w' p PS.init) => @feed_walk2 ⟨B⟩ _ _ _ _ _ _ c' _ hl (by omega) h ho init_ok hp
  obtain ⟨r, hrd⟩ : ∃ r, r = feedM PS.init l := ⟨_, rfl⟩
  rw [← hrd] at hok hpar hdat htl hS hF
  have HPar := Lib.hid hpar; have HDat := Lib.hid hdat; have HR := Lib.hid hr; have HN := Lib.hid hln
  clear hl hpar hdat hld hln hcm h hnd hrd hr hpl
  go_enter Try.func6, Try.ntmps6
  go_wp2_with (first
    | (go_at_call 10; refine (awake_walk _).mono ?_; rintro e w1 ⟨rfl, hg1⟩)
    | (go_at_call 11; refine (hsh _).mono ?_; rintro e w1' ⟨rfl, rfl⟩)
    | (at_builtin; refine wpList_copyRd rfl _ _ _ rfl 5 _ 1 Try.underlying22 uint8_info rfl (by omega) n cap a (bcells l) rfl rfl (HR.out.gr hg1) (bcells_one l) (by omega) ?_; intro va vc w2 hown2 hgx2; have hg2 := hg1.trans hgx2)
    | (go_at_call 13; have hcon := hF w2.heap.size _ [w2.heap.size] w2.heap.size va vc ((HasRow.of_own hown2).rd_.gr ((newG w2).trans (newG _))) (fun _ => own_out hown2 (Nat.le_refl _)) (@PP.grB ⟨w2.heap.size⟩ _ _ _ _ _ (PP.newB w2.heap.size w2 (Nat.le_refl _)) (newG _)); (with_reducible refine hcon.mono ?_); clear hcon; rintro e w3 ⟨ov, qs, lvp, rfl, hs3, hP3, hT3, hr3⟩; clear hr3; obtain ⟨ta, tca, rfl⟩ := row_form (@Toks.fields ⟨w2.heap.size⟩ _ _ _ _ _ hT3).1))
  have hW0 : Gr w2 ((w2.alloc (.cells #[.int .i64 0, .int .i64 0, .int .u8 0, .int .u8 0, .slice none 0 0, .string ⟨#[]⟩, .slice none 0 0, .slice none 0 0, .slice none 0 0, .int .i64 0, .bool false, .bool false, .bool false] 35)).alloc (.cells #[.int .i64 0, .int .i64 0, .int .u8 0, .int .u8 0, .slice none 0 0, .string ⟨#[]⟩, .slice none 0 0, .slice none 0 0, .slice none 0 0, .int .i64 0, .bool false, .bool false, .bool false] 35)) := (newG w2).trans (newG _)
  have hM := ATB.of hT3
  have hOut := @Toks.outs ⟨w2.heap.size⟩ _ _ _ _ _ hT3
  obtain ⟨hg23, ho3⟩ := hs3.own hW0 (fun k hk => by simp at hk; omega)
  have hg3 := hg2.trans hg23
  have hP3z := hP3.zero
  have hqb := (hs3.upd.block (w2.heap.size + 1) (by simp) (by simp)).trans (heap_new2 w2 _ _)
  have hQ3 : PP [w2.heap.size + 1] w3 (w2.heap.size + 1) PS.init := ⟨_, _, _, hqb, World.ownsRow_nil _ _ _ _, World.ownsRow_nil _ _ _ _, World.ownsRow_nil _ _ _ _, by simp, by simp [Value.ownBlock], by simp [Value.ownBlock], by simp [Value.ownBlock], by simp [Value.ownBlock], Nat.zero_le _⟩
  have hdq : Dis lvp [w2.heap.size + 1] := fun k hk hm => by
    simp at hm
    rcases hs3.new k hk with h | h
    · simp at h; omega
    · simp at h; omega
  have hSB0 : SomeB w3 (.slice va n vc) n := ⟨l, HN.out, (HasRow.of_own hown2).gr hg23⟩
  have hKb : ∀ k ∈ (Value.slice va n vc).ownBlock.toList, w1.heap.size ≤ k ∧ k < w2.heap.size := fun k hk => by
    simp at hk
    exact ⟨ownsRow_base hown2 hk, ownsRow_blk hown2 hk⟩
  have hg1s := hg1.size
  have hg2s := hg2.size
  have HO := Lib.hid hOut
  have HKb := Lib.hid hKb
  clear hs3 hP3 hT3 hqb hW0 hown2 hOut hKb
  go_loopw [25] (fun i wr => ∃ k : Nat, k ≤ n ∧ i = .int .i64 k ∧ Upd (Value.slice va n vc).ownBlock.toList w3 wr ∧ SomeB wr (.slice va n vc) n) (fun i _ => n - (intOf i).toNat)
  case atStart => exact ⟨0, Nat.zero_le _, rfl, .refl _ _, hSB0⟩
  case round =>
    clear hSB0
    obtain ⟨k, hk, rfl, hu, hSB⟩ := hrel
    by_cases hlt : k < n
    · obtain ⟨g, C, x, rfl, hg, hc⟩ := hSB.at_ hlt
      have hf := frozen_of hg
      have hkn : (k : Int) < (n : Int) := by omega
      have k0 : (0 : Int) ≤ (k : Int) := by omega
      have hgl := blk_lt hg
      clear hg
      go_wp2_with fail
      go_roundw
      case rel => exact ⟨k + 1, by omega, by go_num, hu.trans1 (Upd.of_setCell wr g k _), hSB.set⟩
      case measure => simp [intOf]; omega
    · have hkn : ¬ (k : Int) < (n : Int) := by omega
      have hGw : Gr w wr := Gr.of_upd hg3 hu (fun k hk => by have := HKb.out k hk; omega)
      have hgot := hM.low hu (fun k hk => (HKb.out k hk).2)
      have hst : Stp (Value.slice va n vc).ownBlock.toList w3 (Value.slice va n vc).ownBlock.toList wr := ⟨hu, fun _ h => .inl h⟩
      have hPw := hP3z.far hst (fun k hk hm => by have h1 := ho3 k hk; have h2 := HKb.out k hm; omega)
      have hQw := hQ3.far hst (fun k hk hm => by simp at hk; have h2 := HKb.out k hm; omega)
      clear hu hSB hst hM hP3z hQ3 hlt hk
      go_wp2_with (first
        | (go_at_call 12; refine (hS _ (HR.out.gr hGw)).mono ?_; rintro e w4 ⟨v2, rqs2, b2, rfl, hR2, hg4⟩)
        | (go_at_call 14; refine (are_walk (hgot.gr hg4).at_ hR2 (by omega) HPar.out).mono ?_; rintro e w5 ⟨rfl, hg5⟩; have hg45 := hg4.trans hg5))
      have hA5 := (hgot.gr hg45).at_
      have hK5 : KeepAt w w2.heap.size lvp w2.heap.size (w2.heap.size + 1) r.1 r.2 (.slice ta r.2.length tca) qs w5 :=
        ⟨hGw.trans hg45, hg2s, hPw.gr hg45, hQw.gr hg45, hA5.row, hA5.len, fun i t x ht hx => ⟨⟨_, rfl, (hA5.toks i t x ht hx).params⟩, ⟨_, rfl, (hA5.toks i t x ht hx).data⟩⟩, HO.out⟩
      clear hgot hPw hQw hA5 hR2 hg4 hg5 hg45 hGw
      go_loopw [43] (fun i w6 => ∃ k : Nat, k ≤ r.2.length ∧ i = .int .i64 k ∧ KeepAt w w2.heap.size lvp w2.heap.size (w2.heap.size + 1) r.1 r.2 (.slice ta r.2.length tca) qs w6) (fun i _ => r.2.length - (intOf i).toNat)
      case atStart => exact ⟨0, Nat.zero_le _, rfl, hK5⟩
      case round =>
        clear hK5
        obtain ⟨k2, hk2, rfl, hK6⟩ := hrel
        obtain ⟨w6, rfl⟩ : ∃ w6 : World, w6 = wr := ⟨_, rfl⟩
        by_cases hlt2 : k2 < r.2.length
        · obtain ⟨g1, p1, t, x, hv1, ht, hx, hr1⟩ := tok_range hK6.row hK6.len hlt2
          injection hv1 with e1 e2 e3
          subst e1
          obtain ⟨hI, hB⟩ := hK6.any k2 t x ht hx
          obtain ⟨hoI, hoB⟩ := hK6.own k2 x hx
          obtain ⟨xp, xd⟩ := x
          obtain ⟨pa, pc, hxp⟩ : ∃ a c, xp = .slice a t.params.length c := by obtain ⟨_, _, h⟩ := hI; exact h.form
          obtain ⟨da, dc, hxd⟩ : ∃ a c, xd = .slice a t.data.length c := by obtain ⟨_, _, h⟩ := hB; exact h.form
          subst hxp; subst hxd
          simp only at hoI hoB
          have z0 := hr1 0 _ rfl
          have z1 := hr1 1 _ rfl
          have z2 := hr1 2 _ rfl
          have z3 := hr1 3 _ rfl
          have z4 := hr1 4 _ rfl
          have z5 := hr1 5 _ rfl
          simp only [Nat.add_zero] at z0
          have hgl := lt_of_cell z0
          have HT := Lib.hid ht; have HX := Lib.hid hx; have HoI := Lib.hid hoI; have HoB := Lib.hid hoB
          have hkn2 : (k2 : Int) < (r.2.length : Int) := by omega
          have hpl : t.params.length ≤ 100000 := HPar.out t (List.mem_of_getElem? ht)
          have hdl : t.data.length ≤ 4096 := HDat.out t (List.mem_of_getElem? ht)
          have hK7 := hK6.grow ((Gr.refl w6).alloc (.cells (tcells t (.slice pa t.params.length pc, .slice da t.data.length dc)).toArray 31))
          have hT7 := heap_alloc_new w6 (.cells (tcells t (.slice pa t.params.length pc, .slice da t.data.length dc)).toArray 31)
          obtain ⟨T, hTd⟩ : ∃ T, T = w6.heap.size := ⟨_, rfl⟩
          clear hr1 ht hx hoI hoB hI hB hK6 e2 e3
          go_wp2_with fail
          rw [← hTd] at hT7
          go_loopw [50] (fun i w7 => ∃ j : Nat, j ≤ t.params.length ∧ i = .int .i64 j ∧ KeepAt w w2.heap.size lvp w2.heap.size (w2.heap.size + 1) r.1 r.2 (.slice (some ⟨g1, 0, none⟩) r.2.length tca) qs w7 ∧ w7.heap[T]? = some (.cells (tcells t (.slice pa t.params.length pc, .slice da t.data.length dc)).toArray 31 (0, 0))) (fun i _ => t.params.length - (intOf i).toNat)
          case atStart => exact ⟨0, Nat.zero_le _, rfl, hK7, hT7⟩
          case round =>
            clear hK7 hT7 z0 z1 z2 z3 z4 z5
            obtain ⟨j, hj, rfl, hK8, hT8⟩ := hrel
            rw [hTd] at hT8
            obtain ⟨t0, t1, t2, t3, t4, t5, tf⟩ := cells6 hT8
            by_cases hltj : j < t.params.length
            · obtain ⟨g, C, x, rfl, hg, hc⟩ := (hK8.any k2 t _ HT.out HX.out).1.at_ hltj
              obtain ⟨hBg, hlg⟩ := HoI.out g rfl
              have hf := frozen_of hg
              have hjn : (j : Int) < (t.params.length : Int) := by omega
              have hgT : w6.heap.size ≠ g := by rintro e; rw [e, hg] at hT8; simp at hT8
              have hg8 := blk_lt hg
              have HG := Lib.hid hg; have HT8 := Lib.hid hT8
              clear hg hT8
              go_wp2_with fail
              go_roundw
              case rel => exact ⟨j + 1, by omega, by go_num, hK8.setI HG.out hBg hlg j _, by rw [hTd]; exact blk_far HT8.out (by simpa using hgT) _⟩
              case measure => simp [intOf]; omega
            · have hjn : ¬ (j : Int) < (t.params.length : Int) := by omega
              clear hj hltj
              have HT8 := Lib.hid hT8
              clear hT8
              go_wp2_with fail
              go_loopw [64] (fun i w9 => ∃ j : Nat, j ≤ t.data.length ∧ i = .int .i64 j ∧ KeepAt w w2.heap.size lvp w2.heap.size (w2.heap.size + 1) r.1 r.2 (.slice (some ⟨g1, 0, none⟩) r.2.length tca) qs w9 ∧ w9.heap[T]? = some (.cells (tcells t (.slice pa t.params.length pc, .slice da t.data.length dc)).toArray 31 (0, 0))) (fun i _ => t.data.length - (intOf i).toNat)
              case atStart => exact ⟨0, Nat.zero_le _, rfl, hK8, by rw [hTd]; exact HT8.out⟩
              case round =>
                clear hK8 t0 t1 t2 t3 t4 t5 tf HT8
                obtain ⟨j2, hj2, rfl, hK9, hT9⟩ := hrel
                rw [hTd] at hT9
                obtain ⟨t0, t1, t2, t3, t4, t5, tf⟩ := cells6 hT9
                by_cases hltj2 : j2 < t.data.length
                · obtain ⟨g, C, x, rfl, hg, hc⟩ := (hK9.any k2 t _ HT.out HX.out).2.at_ hltj2
                  obtain ⟨hBg, hlg⟩ := HoB.out g rfl
                  have hf := frozen_of hg
                  have hjn2 : (j2 : Int) < (t.data.length : Int) := by omega
                  have hgT : w6.heap.size ≠ g := by rintro e; rw [e, hg] at hT9; simp at hT9
                  have hg9 := blk_lt hg
                  have HG := Lib.hid hg; have HT9 := Lib.hid hT9
                  clear hg hT9
                  go_wp2_with fail
                  go_roundw
                  case rel => exact ⟨j2 + 1, by omega, by go_num, hK9.setB HG.out hBg hlg j2 _, by rw [hTd]; exact blk_far HT9.out (by simpa using hgT) _⟩
                  case measure => simp [intOf]; omega
                · have hjn2 : ¬ (j2 : Int) < (t.data.length : Int) := by omega
                  clear hj2 hltj2 hT9
                  go_wp2_with fail
                  go_roundw
                  case rel => exact ⟨k2 + 1, by omega, by go_num, hK9⟩
                  case measure => simp [intOf]; omega
        · have hkn2 : ¬ (k2 : Int) < (r.2.length : Int) := by omega
          have hq := hF 0 w6 [w2.heap.size + 1] (w2.heap.size + 1) a cap (HR.out.gr hK6.gr) (fun h0 => HR.out.outL h0 (fun k hk => by simp at hk; omega)) hK6.pq
          clear hF
          go_wp2_with (first
            | (go_at_call 13; refine hq.mono ?_; rintro e w7 ⟨ov7, qs7, lv7, rfl, hs7, hQ7, hT7, hr7⟩; clear hr7 hT7; have hP7 := hK6.pp.far hs7 hdq; have hG7 := (hs7.own hK6.gr (fun k hk => by simp at hk; omega)).1)
            | (go_at_call 17; refine (same_true hok hP7 hQ7.zero).mono ?_; rintro e w8 ⟨rfl, hg8⟩))
          go_ret
          exact ⟨rfl, hG7.trans hg8⟩
end Go.Proofs.Ytgbmjlajheeciaa
