/-
  The document's header of a sequence, walked: the loop.
-/
import Derived.Test.YtgbmjlajheeciaaPcD
namespace Go.Proofs.Ytgbmjlajheeciaa
set_option linter.unusedSimpArgs false
set_option linter.unusedVariables false
open Go.RowKit

theorem HasRow.rd {w : World} {e n : Nat} {v : Value} {xs : List Value} (h : HasRow w e v n xs) : ∃ a cap, v = .slice a n cap ∧ Rd w a n xs ∧ (n = 0 ∨ ∃ g, a = some ⟨g, 0, none⟩ ∧ v.ownBlock = some g) := by
  rcases h.2 with ⟨rfl, rfl⟩ | ⟨g, cap, cur, rfl, hh, hn, hc, ht⟩
  · exact ⟨none, 0, rfl, ⟨h.1, .inl rfl⟩, .inl rfl⟩
  · refine ⟨some ⟨g, 0, none⟩, cap, rfl, ⟨h.1, .inr ⟨g, 0, rfl, fun i u hu => ?_⟩⟩, .inr ⟨g, rfl, rfl⟩⟩
    rw [Nat.zero_add]
    exact h.cells (g := g) rfl i u hu

theorem Upd.setCell {K : List Nat} {a w : World} (h : Upd K a w) {p : Addr} (hp : p.block ∈ K) (u : Value) : Upd K a (w.setCell p u) :=
  ⟨by rw [← h.os]; simp [World.setCell], by rw [← h.tape]; simp [World.setCell], by rw [← h.output]; simp [World.setCell], by have := h.size; simpa using this, fun k hk hn => by
    rw [Below.heap_setCell _ _ _ _ (fun e => hn (by rw [e]; exact hp))]; exact h.block k hk hn⟩
theorem Upd.drew {K : List Nat} {a w : World} (h : Upd K a w) : Upd K a w.drew := ⟨h.os, h.tape, h.output, h.size, h.block⟩
theorem Upd.alloc {K : List Nat} {a w : World} (h : Upd K a w) (o : Obj) : Upd K a (w.alloc o) := h.trans1 (Upd.of_gr ((Gr.refl w).alloc o))
theorem Gr.upd {w wr W : World} {K : List Nat} (h : Gr w wr) (hu : Upd K wr W) (hK : ∀ k ∈ K, w.heap.size ≤ k) : Gr w W :=
  ⟨hu.os.trans h.os, hu.tape.trans h.tape, hu.output.trans h.output, Nat.le_trans h.size hu.size, fun k hk => (hu.block k (Nat.lt_of_lt_of_le hk h.size) fun hm => by have := hK k hm; omega).trans (h.block k hk)⟩
theorem HMem.out {w wr W : World} {ts : List Tok} {bs : List Int} {tv bv : Value} {qs : List (Value × Value)} {c : Array Value} (h : HMem w w.heap.size (w.heap.size + 1) ts bs tv bv qs wr) (hR : wr.heap[w.heap.size]? = some (.cells c 68 (0, 0)))
    (hu : Upd [w.heap.size, w.heap.size + 1] wr W) : RTs W w.heap.size ts tv qs ∧ W.ownsRow w.heap.size 5 1 bv bs.length (bcells bs) ∧ Gr w W := by
  refine ⟨h.toks.keepNil h.nq (ownsRow_same h.toks.row fun k hk => hu.block k (ownsRow_blk h.toks.row hk) ?_), ownsRow_same h.bytes fun k hk => hu.block k (ownsRow_blk h.bytes hk) ?_, h.gr.upd hu (by simp)⟩
  · simp
    exact ⟨fun e => row_ne h.toks.row hR (by decide) (e ▸ hk), fun e => row_ne h.toks.row h.blk (by decide) (e ▸ hk)⟩
  · simp
    exact ⟨fun e => row_ne h.bytes hR (by decide) (e ▸ hk), fun e => row_ne h.bytes h.blk (by decide) (e ▸ hk)⟩
theorem HMem.blkB {w wr W w1 : World} {B H g : Nat} {ts : List Tok} {bs : List Int} {tv bv V : Value} {qs : List (Value × Value)} (h : HMem w B H ts bs tv bv qs wr) (hg : Gr wr W) (hG : Grew W w1 bv V g) :
    w1.heap[H]? = some (.cells #[tv, bv, .int .i64 0, .int .i64 0] 68 (0, 0)) :=
  (hG.new (Nat.lt_of_lt_of_le (blk_lt h.blk) hg.size) (row_ne h.bytes h.blk (by decide))).trans (hg.blk h.blk)
theorem HMem.blkT {w wr W w1 : World} {B H g : Nat} {ts : List Tok} {bs : List Int} {tv bv V : Value} {qs : List (Value × Value)} (h : HMem w B H ts bs tv bv qs wr) (hg : Gr wr W) (hG : Grew W w1 tv V g) :
    w1.heap[H]? = some (.cells #[tv, bv, .int .i64 0, .int .i64 0] 68 (0, 0)) :=
  (hG.new (Nat.lt_of_lt_of_le (blk_lt h.blk) hg.size) (row_ne h.toks.row h.blk (by decide))).trans (hg.blk h.blk)
/-- The block of the result is as it was. -/
theorem HMem.resB {w wr W w1 : World} {B H R g : Nat} {ts : List Tok} {bs : List Int} {tv bv V : Value} {qs : List (Value × Value)} {c : Array Value} (h : HMem w B H ts bs tv bv qs wr) (hR : wr.heap[R]? = some (.cells c 68 (0, 0))) (hg : Gr wr W) (hG : Grew W w1 bv V g) :
    w1.heap[R]? = some (.cells c 68 (0, 0)) :=
  (hG.new (Nat.lt_of_lt_of_le (blk_lt hR) hg.size) (row_ne h.bytes hR (by decide))).trans (hg.blk hR)
theorem HMem.resT {w wr W w1 : World} {B H R g : Nat} {ts : List Tok} {bs : List Int} {tv bv V : Value} {qs : List (Value × Value)} {c : Array Value} (h : HMem w B H ts bs tv bv qs wr) (hR : wr.heap[R]? = some (.cells c 68 (0, 0))) (hg : Gr wr W) (hG : Grew W w1 tv V g) :
    w1.heap[R]? = some (.cells c 68 (0, 0)) :=
  (hG.new (Nat.lt_of_lt_of_le (blk_lt hR) hg.size) (row_ne h.toks.row hR (by decide))).trans (hg.blk hR)
theorem gr_le {a b : World} (h : Gr a b) : a.heap.size ≤ b.heap.size := h.size
theorem nil_one (c : Int) : ∀ v ∈ tcells (ctrlT c) (.slice none 0 0, .slice none 0 0), v.oneCell' = true := by
  intro v hv
  simp [tcells] at hv
  rcases hv with rfl | rfl | rfl | rfl | rfl | rfl <;> rfl
theorem rctrl_lit (c : Int) (w : World) : Calls Try.prog 24 #[.int .u8 c] w fun e w' => e = .returned (.agg #[.int .i64 2, .int .u8 c, .int .u8 0, .slice none 0 0, .string ⟨#[]⟩, .slice none 0 0]) ∧ Gr w w' := rctrl_any c w
theorem HeaderTo.mk {w W : World} {l : List Int} {at_ : Nat} {h : HR} {tv bv : Value} {qs : List (Value × Value)} {nx en : Int} (he : en = h.ended) (ho : RTs W w.heap.size h.toks tv qs ∧ W.ownsRow w.heap.size 5 1 bv h.bytes.length (bcells h.bytes) ∧ Gr w W) (hq : NilQ qs)
    (hn : h.ended ≠ 0 → ∃ n : Nat, nx = n ∧ h.rest = l.drop n ∧ at_ ≤ n ∧ n ≤ l.length) : HeaderTo w l at_ h (.returned (.agg #[tv, bv, .int .i64 nx, .int .i64 en])) W :=
  ⟨tv, qs, bv, nx, by rw [he], ho.1, hq, ho.2.1, hn, ho.2.2⟩

set_option maxRecDepth 100000 in
set_option maxHeartbeats 2000000 in
theorem rheader_walk {w : World} {a : Option Addr} {n cap at_ : Nat} {l : List Int} (last : Int) (hl : ∀ c ∈ l, 0 ≤ c ∧ c < 256) (hn : n ≤ 80000) (hat : at_ ≤ n) (hr : Rd w a n (bcells l)) :
    Calls Try.prog 40 #[.slice a n cap, .int .i64 (at_ : Int), .int .u8 last] w (HeaderTo w l at_ (hdr last (l.drop at_))) := by
  have hln : l.length = n := by simpa [bcells] using hr.1
  go_enter Try.func40, Try.ntmps40
  go_wp2_with fail
  go_loopw [8] (fun i wr => ∃ (k : Nat) (ts : List Tok) (bs : List Int) (tv bv : Value) (qs : List (Value × Value)), k ≤ n ∧ at_ ≤ k ∧ ts.length ≤ k ∧ bs.length ≤ k ∧ i = .int .i64 k ∧ HdrPos last l at_ k ts bs ∧ HMem w w.heap.size (w.heap.size + 1) ts bs tv bv qs wr ∧
      wr.heap[w.heap.size]? = some (.cells #[.slice none 0 0, .slice none 0 0, .int .i64 0, .int .i64 0] 68 (0, 0))) (fun i _ => n - (intOf i).toNat)
  case atStart =>
    refine ⟨at_, [], [], _, _, [], hat, Nat.le_refl _, by simp, by simp, rfl, by simp [HdrPos], ⟨?_, .nil _ _, by simp [NilQ], World.ownsRow_nil _ _ _ _, by (repeat (first | with_reducible (refine Gr.setCell ?_ ?hp _; case hp => (simp; try omega)) | with_reducible refine Gr.alloc ?_ _ | with_reducible refine Gr.drew ?_ | with_reducible refine Gr.drewN ?_ _ | with_reducible assumption | with_reducible exact Gr.refl _ | with_reducible refine Gr.trans ?_ (by assumption)))⟩, ?_⟩
    · have := heap_alloc_new (w.alloc (.cells #[.slice none 0 0, .slice none 0 0, .int .i64 0, .int .i64 0] 68)) (.cells #[.slice none 0 0, .slice none 0 0, .int .i64 0, .int .i64 0] 68)
      simpa using this
    · exact ((Gr.refl _).alloc _).blk (heap_alloc_new w _)
  case round =>
    obtain ⟨k, ts, bs, tv, bv, qs, hk, hak, hts, hbs, rfl, hpos, hM, hR⟩ := hrel
    obtain ⟨ta, tc, rfl⟩ := row_form hM.toks.row
    obtain ⟨ba, bc, rfl⟩ := row_form hM.bytes
    obtain ⟨k0, k1, k2, k3, kf⟩ := cells4 hM.blk
    obtain ⟨r0, r1, r2, r3, rf⟩ := cells4 hR
    have hsz := blk_lt hM.blk
    have HP := Lib.hid hpos; clear hpos
    by_cases hlt : k < n
    · obtain ⟨b, off, c, rfl, hc, hcell, hb⟩ := (hr.gr hM.gr).byte hlt
      obtain ⟨c0, c1⟩ := hl c (List.mem_of_getElem? hc)
      have HC := Lib.hid hc
      have hkn : (k : Int) < (n : Int) := by omega
      clear hr hl hc
      cases hbrk : brk c with
      | true =>
        have he := HP.out.brk HC.out hbrk
        rw [he]
        have HE := Lib.hid he; clear he
        have hcon : Calls Try.prog 55 #[.int .u8 c] wr fun e w' => e = .returned (.bool true) ∧ wr = w' := by rw [← hbrk]; exact rbreaks_any c wr
        clear hbrk
        go_wp2_with (go_at_call 55; refine hcon.mono ?_; rintro e w' ⟨rfl, rfl⟩)
        refine bodyPost_ret (v := .agg #[.slice ta ts.length tc, .slice ba bs.length bc, .int .i64 k, .int .i64 2]) (by simp [results, Try.results40, go_sem, *]) rfl ?_
        refine .mk rfl (hM.out hR ?_) hM.nq fun _ => ⟨k, rfl, rfl, hak, by omega⟩
        (repeat (first | with_reducible exact Upd.refl _ _ | with_reducible refine Upd.setCell ?_ (by simp) _ | with_reducible refine Upd.alloc ?_ _ | with_reducible refine Upd.drew ?_))
      | false =>
        have hcon : Calls Try.prog 55 #[.int .u8 c] wr fun e w' => e = .returned (.bool false) ∧ wr = w' := by rw [← hbrk]; exact rbreaks_any c wr
        by_cases h32 : c < 32
        · have HN := Lib.hid (HP.out.ctrl HC.out hbrk h32)
          clear hbrk
          go_wp2_with (go_at_call 55; refine hcon.mono ?_; rintro e w' ⟨rfl, rfl⟩)
          have hgr0 := hM.gr
          go_region_law (first
            | ((rw [if_pos (by rfl)]; go_simp; refine (rctrl_lit _ _).mono ?_; rintro e w1 ⟨rfl, hg1⟩; obtain ⟨g0, g1, g2, g3, gf⟩ := cells4 (hg1.blk hM.blk); have hz1 := blk_lt (hg1.blk hM.blk)))
            | (refine step_pushN rfl _ _ _ rfl w.heap.size 52 _ 6 80 Try.underlying25 rtoken_info rfl (by omega) (by omega) _ _ _ (tcells (ctrlT c) (.slice none 0 0, .slice none 0 0)) (ownsRow_gr hM.toks.row (by (repeat (first | with_reducible (refine Gr.setCell ?_ ?hp _; case hp => (simp; try omega)) | with_reducible refine Gr.alloc ?_ _ | with_reducible refine Gr.drew ?_ | with_reducible refine Gr.drewN ?_ _ | with_reducible assumption | with_reducible exact Gr.refl _ | with_reducible refine Gr.trans ?_ (by assumption))))) _ (by rfl) (by rfl) (heap_alloc_new _ _) rfl (nil_one _) (by omega) (gr_le (by (repeat (first | with_reducible (refine Gr.setCell ?_ ?hp _; case hp => (simp; try omega)) | with_reducible refine Gr.alloc ?_ _ | with_reducible refine Gr.drew ?_ | with_reducible refine Gr.drewN ?_ _ | with_reducible assumption | with_reducible exact Gr.refl _ | with_reducible refine Gr.trans ?_ (by assumption))))) ?_; intro g cap w2 hG hown; obtain ⟨s0, s1, s2, s3, sf⟩ := cells4 (hM.blkT (by (repeat (first | with_reducible (refine Gr.setCell ?_ ?hp _; case hp => (simp; try omega)) | with_reducible refine Gr.alloc ?_ _ | with_reducible refine Gr.drew ?_ | with_reducible refine Gr.drewN ?_ _ | with_reducible assumption | with_reducible exact Gr.refl _ | with_reducible refine Gr.trans ?_ (by assumption)))) hG)))
          all_goals
            go_wp2_with fail
            go_roundw
            case rel => exact ⟨k + 1, ts ++ [ctrlT c], bs, _, _, _, by omega, by omega, by simp; omega, by omega, by go_num, HN.out, hM.ctrl (by (repeat (first | with_reducible (refine Gr.setCell ?_ ?hp _; case hp => (simp; try omega)) | with_reducible refine Gr.alloc ?_ _ | with_reducible refine Gr.drew ?_ | with_reducible refine Gr.drewN ?_ _ | with_reducible assumption | with_reducible exact Gr.refl _ | with_reducible refine Gr.trans ?_ (by assumption)))) hG hown (Nat.le_refl _) (by omega), blk_far (hM.resT hR (by (repeat (first | with_reducible (refine Gr.setCell ?_ ?hp _; case hp => (simp; try omega)) | with_reducible refine Gr.alloc ?_ _ | with_reducible refine Gr.drew ?_ | with_reducible refine Gr.drewN ?_ _ | with_reducible assumption | with_reducible exact Gr.refl _ | with_reducible refine Gr.trans ?_ (by assumption)))) hG) (by simp) _⟩
            case measure => simp [intOf]; omega
        · by_cases h127 : c % 128 = 127
          · have HN := Lib.hid (HP.out.skip HC.out hbrk h32 h127)
            have q : ((c % 128) == 127) = true := by simpa using h127
            clear hbrk h127
            go_wp2_with (go_at_call 55; refine hcon.mono ?_; rintro e w' ⟨rfl, rfl⟩)
            go_roundw
            case rel => exact ⟨k + 1, ts, bs, _, _, qs, by omega, by omega, by omega, by omega, by go_num, HN.out, hM, hR⟩
            case measure => simp [intOf]; omega
          · have q : ((c % 128) == 127) = false := by simpa using h127
            by_cases hla : last ≤ c % 128
            · have he := HP.out.last HC.out hbrk h32 h127 hla
              rw [he]
              have HE := Lib.hid he; clear he hbrk h127
              go_wp2_with (first
                | (go_at_call 55; refine hcon.mono ?_; rintro e w' ⟨rfl, rfl⟩)
                | (at_builtin; refine wpList_push1 rfl _ _ _ rfl w.heap.size 5 (.int .u8 0) 1 Try.underlying22 u8_info rfl (by omega) _ _ _ _ (hM.bytes.alloc _) _ rfl rfl (cell_alloc1 _ _ _) rfl (by omega) (by simp; omega) ?_; intro g cap w2 hG hown
                   obtain ⟨g0, g1, g2, g3, gf⟩ := cells4 (hM.blkB ((Gr.refl _).alloc _) hG)
                   have hR2 := hM.resB hR ((Gr.refl _).alloc _) hG
                   obtain ⟨s0, s1, s2, s3, sf⟩ := cells4 hR2))
              have hM2 := hM.byte (c := c % 128) ((Gr.refl _).alloc _) hG hown (Nat.le_refl _) (by omega)
              refine bodyPost_ret (v := .agg #[.slice ta ts.length tc, .slice (some ⟨g, 0, none⟩) (bs.length + 1) cap, .int .i64 ((k : Int) + 1), .int .i64 1]) (by simp [results, Try.results40, go_sem, *]) rfl ?_
              refine .mk rfl (hM2.out (blk_far hR2 (by simp) _) ?_) hM.nq fun _ => ⟨k + 1, by simp, rfl, by omega, by omega⟩
              (repeat (first | with_reducible exact Upd.refl _ _ | with_reducible refine Upd.setCell ?_ (by simp) _ | with_reducible refine Upd.alloc ?_ _ | with_reducible refine Upd.drew ?_))
            · have HN := Lib.hid (HP.out.byte HC.out hbrk h32 h127 hla)
              clear hbrk h127
              go_wp2_with (first
                | (go_at_call 55; refine hcon.mono ?_; rintro e w' ⟨rfl, rfl⟩)
                | (at_builtin; refine wpList_push1 rfl _ _ _ rfl w.heap.size 5 (.int .u8 0) 1 Try.underlying22 u8_info rfl (by omega) _ _ _ _ (hM.bytes.alloc _) _ rfl rfl (cell_alloc1 _ _ _) rfl (by omega) (by simp; omega) ?_; intro g cap w2 hG hown
                   obtain ⟨g0, g1, g2, g3, gf⟩ := cells4 (hM.blkB ((Gr.refl _).alloc _) hG)
                   have hR2 := hM.resB hR ((Gr.refl _).alloc _) hG
                   obtain ⟨s0, s1, s2, s3, sf⟩ := cells4 hR2))
              go_roundw
              case rel => exact ⟨k + 1, ts, bs ++ [c % 128], _, _, qs, by omega, by omega, by omega, by simp; omega, by go_num, HN.out, hM.byte ((Gr.refl _).alloc _) hG hown (Nat.le_refl _) (by omega), blk_far hR2 (by simp) _⟩
              case measure => simp [intOf]; omega
    · have he := HP.out.end (by omega)
      have HE := Lib.hid he; clear he
      have hkn : ¬ (k : Int) < (n : Int) := by omega
      clear hr hl
      go_wp2_with fail
      refine bodyPost_ret (v := .agg #[.slice ta ts.length tc, .slice ba bs.length bc, .int .i64 0, .int .i64 0]) (by simp [results, Try.results40, go_sem, *]) rfl ?_
      rw [HE.out]
      refine .mk (h := ⟨ts, bs, [], 0⟩) rfl (hM.out hR ?_) hM.nq fun h => (h rfl).elim
      (repeat (first | with_reducible exact Upd.refl _ _ | with_reducible refine Upd.setCell ?_ (by simp) _ | with_reducible refine Upd.alloc ?_ _ | with_reducible refine Upd.drew ?_))
end Go.Proofs.Ytgbmjlajheeciaa
