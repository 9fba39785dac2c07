/-
  The law ParserBack, walked.
-/
import Derived.Test.YtgbmjlajheeciaaDoorZTkBw
import Derived.Test.YtgbmjlajheeciaaDoorZTkUn
import Derived.Test.YtgbmjlajheeciaaDoorZTkFw
import Derived.Test.YtgbmjlajheeciaaDoorZPdM
namespace Go.Proofs.YtgbmjlajheeciaaDoor
set_option linter.unusedSimpArgs false
set_option linter.unusedVariables false
open Go.RowKit
set_option linter.unusedVariables false

/-- The bytes of some tokens, one behind the other. -/
def bk (eight : Bool) (ts : List Tok) : List Int := ts.flatMap fun t => bytesR t eight
theorem bk_add (eight : Bool) (ts : List Tok) (t : Tok) : bk eight (ts ++ [t]) = bk eight ts ++ bytesR t eight := by simp [bk]
/-- The bytes so far, and the tokens so far. -/
structure BK (w wr : World) (eight : Bool) (sv wv : Value) (ts : List Tok) (qs : List (Value × Value)) : Prop where
  gr : Gr w wr
  srow : wr.ownsRow w.heap.size 5 1 sv (bk eight ts).length (bcells (bk eight ts))
  wrow : wr.ownsRow w.heap.size 25 6 wv ts.length (tsCells ts qs)
  len : qs.length = ts.length
  toks : ∀ (i : Nat) (t : Tok) (q : Value × Value), ts[i]? = some t → qs[i]? = some q → checkR t = 0 ∧ TRange t ∧ RdQ w t q
theorem BK.nil {w wr : World} (hg : Gr w wr) (eight : Bool) : BK w wr eight (.slice none 0 0) (.slice none 0 0) [] [] :=
  ⟨hg, World.ownsRow_nil _ _ _ _, World.ownsRow_nil _ _ _ _, rfl, by simp⟩
theorem BK.step {w wr wx : World} {eight : Bool} {sv wv : Value} {ts : List Tok} {qs : List (Value × Value)} (h : BK w wr eight sv wv ts qs) (hg : Gr wr wx) : BK w wx eight sv wv ts qs :=
  ⟨h.gr.trans hg, ownsRow_gr h.srow hg, ownsRow_gr h.wrow hg, h.len, h.toks⟩
theorem BK.all {w wr : World} {eight : Bool} {sv wv : Value} {ts : List Tok} {qs : List (Value × Value)} (h : BK w wr eight sv wv ts qs) : ∀ t ∈ ts, checkR t = 0 ∧ TRange t := by
  intro t ht
  obtain ⟨i, hi, rfl⟩ := List.mem_iff_getElem.1 ht
  have := h.toks i ts[i] _ (List.getElem?_eq_getElem hi) (List.getElem?_eq_getElem (by rw [h.len]; exact hi))
  exact ⟨this.1, this.2.1⟩
theorem BK.ar {w wr : World} {eight : Bool} {sv wv : Value} {ts : List Tok} {qs : List (Value × Value)} (h : BK w wr eight sv wv ts qs) : AR wr ts wv qs :=
  ⟨⟨h.wrow.1, (ownsRow_zero h.wrow).2⟩, h.len, fun i t q ht hq => ⟨(h.toks i t q ht hq).2.1, (h.toks i t q ht hq).2.2.gr h.gr⟩⟩
theorem BK.bytes {w wr : World} {eight : Bool} {sv wv : Value} {ts : List Tok} {qs : List (Value × Value)} (h : BK w wr eight sv wv ts qs) : (bk eight ts).length ≤ ts.length * 4300 ∧ (∀ c ∈ bk eight ts, 0 ≤ c ∧ c < 256) ∧ feedM PS.init (bk eight ts) = (PS.init, ts) := by
  have ha := h.all
  refine ⟨backs_len ts (fun t ht => (ha t ht).1) eight, fun c hc => ?_, bytes_backs ts (fun t ht => check_zero (ha t ht).2 (ha t ht).1) eight⟩
  unfold bk at hc
  obtain ⟨t, ht, hc⟩ := List.mem_flatMap.1 hc
  exact bytes_in (ha t ht).2 (check_zero (ha t ht).2 (ha t ht).1) eight c hc
/-- The bytes of one more: the tokens are as they were. -/
theorem BK.w2 {w wr w2 : World} {eight : Bool} {sv wv : Value} {ts : List Tok} {qs : List (Value × Value)} (h : BK w wr eight sv wv ts qs) (hg2 : wr.grownBy w2 sv.ownBlock) :
    w2.ownsRow w.heap.size 25 6 wv ts.length (tsCells ts qs) :=
  ownsRow_same h.wrow fun k hk => hg2.block k (ownsRow_blk h.wrow hk) fun e => row_type h.wrow h.srow (by decide) hk e.symm
theorem BK.push {w w2 W3 w4 : World} {eight : Bool} {va : Option Addr} {n cap g : Nat} {wv V : Value} {ts : List Tok} {qs : List (Value × Value)} {t : Tok} {q : Value × Value} (hlen : qs.length = ts.length)
    (htoks : ∀ (i : Nat) (t : Tok) (q : Value × Value), ts[i]? = some t → qs[i]? = some q → checkR t = 0 ∧ TRange t ∧ RdQ w t q) (hg0 : Gr w w2)
    (hs : w2.ownsRow w.heap.size 5 1 (.slice va n cap) n (bcells (bk eight ts) ++ bcells (bytesR t eight))) (hw : w2.ownsRow w.heap.size 25 6 wv ts.length (tsCells ts qs))
    (hg3 : Gr w2 W3) (hG : Grew W3 w4 wv V g) (hown : w4.ownsRow w.heap.size 25 6 V (ts.length + 1) (tsCells ts qs ++ tcells t q)) (ht : checkR t = 0) (hr : TRange t) (hq : RdQ w t q) :
    BK w w4 eight (.slice va n cap) V (ts ++ [t]) (qs ++ [q]) := by
  have hs3 := ownsRow_gr hs hg3
  have hw3 := ownsRow_gr hw hg3
  have hn : (bk eight (ts ++ [t])).length = n := by
    have := hs.1
    rw [Nat.mul_one] at this
    rw [← this, bk_add]; simp [bcells]
  refine ⟨hG.gr (hg0.trans hg3) fun k hk => ownsRow_base hw hk, ?_, ?_, by simp [hlen], ?_⟩
  · rw [hn, bk_add, show bcells (bk eight ts ++ bytesR t eight) = bcells (bk eight ts) ++ bcells (bytesR t eight) by simp [bcells]]
    exact ownsRow_same hs3 fun k hk => hG.new (ownsRow_blk hs3 hk) (row_type hs3 hw3 (by decide) hk)
  · rw [tsCells_append _ _ _ _ hlen, show (ts ++ [t]).length = ts.length + 1 by simp]
    exact hown
  · intro i t' q' hi hq'
    rcases Nat.lt_or_ge i ts.length with hlt | hge
    · rw [List.getElem?_append_left hlt] at hi
      rw [List.getElem?_append_left (by rw [hlen]; exact hlt)] at hq'
      exact htoks i t' q' hi hq'
    · rw [List.getElem?_append_right hge] at hi
      rw [List.getElem?_append_right (by rw [hlen]; exact hge)] at hq'
      have hi0 : i - ts.length = 0 := by
        rcases hx : i - ts.length with _ | m
        · rfl
        · rw [hx] at hi; simp at hi
      rw [hi0] at hi
      rw [hlen, hi0] at hq'
      simp at hi hq'
      subst hi; subst hq'
      exact ⟨ht, hr, hq⟩

theorem blen {w : World} {t : Tok} {va : Option Addr} {n vc : Nat} (h : checkR t = 0) (eight : Bool) (hr : HasRow w 5 (.slice va n vc) n (bcells (bytesR t eight))) : n ≤ 4300 := by
  have h1 := hr.1
  have h2 := bytesR_len h eight
  simp [bcells] at h1
  omega
theorem back_laid {w : World} (h : laidMetH Tryd.prog Rows.parserBackRow.laid w) : tabT w := by
  unfold Rows.parserBackRow at h
  rw [MakeChecks.laidMetH_plain _ _ _ (by kernel_rfl)] at h
  exact tabT_met (laidMet_tail2 (laidMet_tail2 h))

set_option maxRecDepth 100000 in
set_option maxHeartbeats 2000000 in
theorem back_walk (ta : Option Addr) (tn tc : Nat) (eight : Bool) (w : World) (h : IsToks w ta tn) (hT : tabT w) :
    Calls Tryd.prog 7 #[.slice ta tn tc, .bool eight] w fun e w' => e = .returned (.bool true) ∧ Gr w w' := by
  obtain ⟨hmax, hel⟩ := h
  unfold maxLen at hmax
  go_enter Tryd.func7, Tryd.ntmps7
  go_wp2_with (first
    | (go_at_call 21; refine (awake_walk _).mono ?_; rintro e w1 ⟨rfl, hg1⟩))
  go_loopw [5, 6, 7] (fun sv wv iv wr => ∃ (k : Nat) (ts : List Tok) (qs : List (Value × Value)), k ≤ tn ∧ k ≤ 20 ∧ ts.length ≤ k ∧ iv = .int .i64 k ∧ BK w wr eight sv wv ts qs) (fun _ _ iv _ => 20 - (intOf iv).toNat)
  case atStart => exact ⟨0, [], [], Nat.zero_le _, Nat.zero_le _, Nat.le_refl _, rfl, .nil hg1 eight⟩
  case round =>
    obtain ⟨k, ts, qs, hk1, hk2, hts, rfl, hB⟩ := hrel
    have hk0 : (0 : Int) ≤ (k : Int) := by omega
    by_cases hkt : k < tn ∧ k < 20
    · obtain ⟨hk3, hk4⟩ := hkt
      obtain ⟨b, off, rfl, hel2⟩ := hel.resolve_left (by omega)
      obtain ⟨kk, c, m, a1, n1, c1, z1, s, a2, n2, c2, z2, hx, hti⟩ := hel2 k hk3
      have K := tokIn_kit hti hT
      have hrd := hti.rd
      obtain ⟨T, hTd⟩ : ∃ T, T = tokI kk c m n1 z1 s n2 z2 := ⟨_, rfl⟩
      rw [← hTd] at K hrd
      obtain ⟨r, hr⟩ : ∃ r, r = checkR T := ⟨_, rfl⟩
      rw [← hr] at K
      obtain ⟨q1, q2, q3, q4, _⟩ := K.parts
      clear hTd
      subst q1; subst q2; subst q3; subst q4
      have hrg : w.rangeAt b (off + k * 6) [.int .i64 T.kind, .int .u8 T.code, .int .u8 T.mark, .slice a1 n1 c1, .string (strOf T.inters), .slice a2 n2 c2] := by
        obtain ⟨x0, x1, x2, x3, x4, x5⟩ := hx
        intro j u hj
        rw [Nat.add_assoc]
        rcases j with _ | _ | _ | _ | _ | _ | j <;> simp at hj
        all_goals (subst hj; assumption)
      have hkn : (k : Int) < (tn : Int) := by omega
      have hk20 : (k : Int) < 20 := by omega
      have HR : ∀ W, Gr w W → W.rangeAt b (off + k * 6) [.int .i64 T.kind, .int .u8 T.code, .int .u8 T.mark, .slice a1 n1 c1, .string (strOf T.inters), .slice a2 n2 c2] := fun W hg j u hj => hg.cellAt (hrg j u hj)
      have hgr := hB.gr
      have hby := hB.bytes.1
      obtain ⟨sa, sc, rfl⟩ := row_form hB.srow
      obtain ⟨wa, wc, rfl⟩ := row_form hB.wrow
      have HB := Lib.hid hB
      have HRd := Lib.hid hrd
      have Hr := Lib.hid hr
      clear hel hel2 hx hti hrg hB hrd hr hT
      by_cases h0 : r = 0
      · subst h0
        go_wp2_with (first
          | (refine wpList_load_whole rfl 25 _ rfl b (off + k * 6) rfl #[.int .i64 T.kind, .int .u8 T.code, .int .u8 T.mark, .slice a1 n1 c1, .string (strOf T.inters), .slice a2 n2 c2] _ (HR _ (by (repeat (first | with_reducible exact Gr.refl _ | with_reducible assumption | with_reducible refine Gr.setCell ?_ (by simp; try omega) _ | with_reducible refine Gr.alloc ?_ _ | with_reducible refine Gr.drew ?_ | with_reducible refine Gr.drewN ?_ _ | with_reducible refine Gr.trans ?_ (by assumption))))) Tryd.underlying25 rfl rtok_size ?_)
          | (go_at_call 9; (with_reducible refine (K.own _ (by (repeat (first | with_reducible exact Gr.refl _ | with_reducible assumption | with_reducible refine Gr.setCell ?_ (by simp; try omega) _ | with_reducible refine Gr.alloc ?_ _ | with_reducible refine Gr.drew ?_ | with_reducible refine Gr.drewN ?_ _ | with_reducible refine Gr.trans ?_ (by assumption))))).mono ?_); rintro e w2 ⟨pa, pc, da, dc, rfl, hO, hg2⟩)
          | (go_at_call 14; (with_reducible refine (K.bytes _ pa pc da dc hO.r (by (repeat (first | with_reducible exact Gr.refl _ | with_reducible assumption | with_reducible refine Gr.setCell ?_ (by simp; try omega) _ | with_reducible refine Gr.alloc ?_ _ | with_reducible refine Gr.drew ?_ | with_reducible refine Gr.drewN ?_ _ | with_reducible refine Gr.trans ?_ (by assumption)))) _).mono ?_); rintro e w3 ⟨va, n, vc, rfl, hrow, hg3⟩; rw [if_pos rfl] at hrow; have hnl := blen (t := T) Hr.out.symm eight hrow)
          | (go_at_call 11; (with_reducible refine (K.rcheck _ (by (repeat (first | with_reducible exact Gr.refl _ | with_reducible assumption | with_reducible refine Gr.setCell ?_ (by simp; try omega) _ | with_reducible refine Gr.alloc ?_ _ | with_reducible refine Gr.drew ?_ | with_reducible refine Gr.drewN ?_ _ | with_reducible refine Gr.trans ?_ (by assumption))))).mono ?_); rintro e w4 ⟨rfl, hg4⟩)
          | (at_builtin; refine wpList_addX (w0 := w) rfl _ _ _ _ rfl 5 _ 1 Tryd.underlying23 uint8_info rfl _ _ _ rfl (ownsRow_gr HB.out.srow (w' := w4) (by (repeat (first | with_reducible exact Gr.refl _ | with_reducible assumption | with_reducible refine Gr.setCell ?_ (by simp; try omega) _ | with_reducible refine Gr.alloc ?_ _ | with_reducible refine Gr.drew ?_ | with_reducible refine Gr.drewN ?_ _ | with_reducible refine Gr.trans ?_ (by assumption))))) (by (repeat (first | with_reducible exact Gr.refl _ | with_reducible assumption | with_reducible refine Gr.setCell ?_ (by simp; try omega) _ | with_reducible refine Gr.alloc ?_ _ | with_reducible refine Gr.drew ?_ | with_reducible refine Gr.drewN ?_ _ | with_reducible refine Gr.trans ?_ (by assumption)))) _ n _ rfl (src_rd Tryd.underlying23 (hrow.rd_.gr (by (repeat (first | with_reducible exact Gr.refl _ | with_reducible assumption | with_reducible refine Gr.setCell ?_ (by simp; try omega) _ | with_reducible refine Gr.alloc ?_ _ | with_reducible refine Gr.drew ?_ | with_reducible refine Gr.drewN ?_ _ | with_reducible refine Gr.trans ?_ (by assumption))))) (bcells_one _)) (by unfold maxLen; omega) (by omega) ?_; intro xa xc w5 hs5 hg5 hgb5; have hw5 := (HB.out.step (wx := w4) (by (repeat (first | with_reducible exact Gr.refl _ | with_reducible assumption | with_reducible refine Gr.setCell ?_ (by simp; try omega) _ | with_reducible refine Gr.alloc ?_ _ | with_reducible refine Gr.drew ?_ | with_reducible refine Gr.drewN ?_ _ | with_reducible refine Gr.trans ?_ (by assumption))))).w2 hgb5)
          | (at_builtin; refine wpList_pushN rfl _ _ _ rfl w.heap.size 25 _ 6 80 Tryd.underlying45 rtoken_info rfl (by omega) (by omega) _ _ _ (tcells T (.slice a1 n1 c1, .slice a2 n2 c2)) (ownsRow_gr hw5 ((Gr.refl w5).alloc _)) _ rfl rfl (heap_alloc_new _ _) rfl (tok_one _ _ _ _ _ _ _) (by omega) (gr_le (hg5.alloc _)) ?_; intro g cap w6 hG hown))
        go_roundw
        case rel => exact ⟨k + 1, ts ++ [T], qs ++ [(.slice a1 n1 c1, .slice a2 n2 c2)], by omega, by omega, by simp; omega, by go_num, BK.push HB.out.len HB.out.toks hg5 hs5 hw5 ((Gr.refl w5).alloc _) hG hown Hr.out.symm HRd.out.2.1 ⟨a1, n1, c1, a2, n2, c2, rfl, HRd.out.1⟩⟩
        case measure => simp [intOf]; omega
      · have hb1 : (r == 0) = false := by simpa using h0
        go_wp2_with (first
          | (refine wpList_load_whole rfl 25 _ rfl b (off + k * 6) rfl #[.int .i64 T.kind, .int .u8 T.code, .int .u8 T.mark, .slice a1 n1 c1, .string (strOf T.inters), .slice a2 n2 c2] _ (HR _ (by (repeat (first | with_reducible exact Gr.refl _ | with_reducible assumption | with_reducible refine Gr.setCell ?_ (by simp; try omega) _ | with_reducible refine Gr.alloc ?_ _ | with_reducible refine Gr.drew ?_ | with_reducible refine Gr.drewN ?_ _ | with_reducible refine Gr.trans ?_ (by assumption))))) Tryd.underlying25 rfl rtok_size ?_)
          | (go_at_call 9; (with_reducible refine (K.own _ (by (repeat (first | with_reducible exact Gr.refl _ | with_reducible assumption | with_reducible refine Gr.setCell ?_ (by simp; try omega) _ | with_reducible refine Gr.alloc ?_ _ | with_reducible refine Gr.drew ?_ | with_reducible refine Gr.drewN ?_ _ | with_reducible refine Gr.trans ?_ (by assumption))))).mono ?_); rintro e w2 ⟨pa, pc, da, dc, rfl, hO, hg2⟩)
          | (go_at_call 14; (with_reducible refine (K.bytes _ pa pc da dc hO.r (by (repeat (first | with_reducible exact Gr.refl _ | with_reducible assumption | with_reducible refine Gr.setCell ?_ (by simp; try omega) _ | with_reducible refine Gr.alloc ?_ _ | with_reducible refine Gr.drew ?_ | with_reducible refine Gr.drewN ?_ _ | with_reducible refine Gr.trans ?_ (by assumption)))) _).mono ?_); rintro e w3 ⟨va, n, vc, rfl, hrow, hg3⟩; rw [if_neg h0] at hrow)
          | (go_at_call 11; (with_reducible refine (K.rcheck _ (by (repeat (first | with_reducible exact Gr.refl _ | with_reducible assumption | with_reducible refine Gr.setCell ?_ (by simp; try omega) _ | with_reducible refine Gr.alloc ?_ _ | with_reducible refine Gr.drew ?_ | with_reducible refine Gr.drewN ?_ _ | with_reducible refine Gr.trans ?_ (by assumption))))).mono ?_); rintro e w4 ⟨rfl, hg4⟩))
        go_roundw
        case rel => exact ⟨k + 1, ts, qs, by omega, by omega, by omega, by go_num, HB.out.step (by (repeat (first | with_reducible exact Gr.refl _ | with_reducible assumption | with_reducible refine Gr.setCell ?_ (by simp; try omega) _ | with_reducible refine Gr.alloc ?_ _ | with_reducible refine Gr.drew ?_ | with_reducible refine Gr.drewN ?_ _ | with_reducible refine Gr.trans ?_ (by assumption))))⟩
        case measure => simp [intOf]; omega
    · have hby := hB.bytes
      have hfm := hby.2.2
      obtain ⟨l, hld⟩ : ∃ l, l = bk eight ts := ⟨_, rfl⟩
      have hsr := hB.srow
      rw [← hld] at hby hfm hsr
      obtain ⟨sa, sc, rfl⟩ := row_form hsr
      obtain ⟨wa, wc, rfl⟩ := row_form hB.wrow
      have hrd := (HasRow.of_own hsr).rd_
      have hts2 : (feedM PS.init l).2.length ≤ 80000 := by rw [hfm]; show ts.length ≤ 80000; omega
      have hf := feed_walk3 (cap := sc) hby.2.1 (by omega) hts2 (hrd.gr ((Gr.refl wr).alloc (.cells (pcells PS.init (.slice none 0 0) (.slice none 0 0) (.slice none 0 0)) 50))) (fun _ => own_out hsr (Nat.le_refl _)) init_ok (PP.new wr)
      rw [hfm] at hf
      have hAR := hB.ar
      have hgr := hB.gr
      have htl : ts.length ≤ 200000 := by omega
      have hcond : ((k : Int) < (tn : Int) ∧ (k : Int) < 20) = False := by simp; omega
      have HB := Lib.hid hB
      clear hel hB hT hfm hsr hrd hby hld hts2
      rcases Nat.lt_or_ge k tn with h1 | h1
      · have hkn : (k : Int) < (tn : Int) := by omega
        have hk20 : ¬ (k : Int) < 20 := by omega
        clear hkt hcond
        go_wp2_with (first
          | (go_at_call 23; refine hf.mono ?_; rintro e w4 ⟨ov, qs4, lv4, rfl, hs4, hP4, hT4, _⟩; obtain ⟨oa, oc, rfl⟩ := row_form hT4.row; have hg4 := (hs4.own ((Gr.refl wr).alloc _) (fun k hk => by simp at hk; omega)).1)
          | (go_at_call 22; refine (are_rdq hT4.at_ (hAR.gr hg4) htl).mono ?_; rintro e w5 ⟨rfl, hg5⟩)
          | (go_at_call 24; refine (idle_walk (hP4.gr hg5)).mono ?_; rintro e w6 ⟨rfl, rfl⟩))
        go_ret
        exact ⟨rfl, by (repeat (first | with_reducible exact Gr.refl _ | with_reducible assumption | with_reducible refine Gr.setCell ?_ (by simp; try omega) _ | with_reducible refine Gr.alloc ?_ _ | with_reducible refine Gr.drew ?_ | with_reducible refine Gr.drewN ?_ _ | with_reducible refine Gr.trans ?_ (by assumption)))⟩
      · have hkn : ¬ (k : Int) < (tn : Int) := by omega
        clear hkt hcond
        go_wp2_with (first
          | (go_at_call 23; refine hf.mono ?_; rintro e w4 ⟨ov, qs4, lv4, rfl, hs4, hP4, hT4, _⟩; obtain ⟨oa, oc, rfl⟩ := row_form hT4.row; have hg4 := (hs4.own ((Gr.refl wr).alloc _) (fun k hk => by simp at hk; omega)).1)
          | (go_at_call 22; refine (are_rdq hT4.at_ (hAR.gr hg4) htl).mono ?_; rintro e w5 ⟨rfl, hg5⟩)
          | (go_at_call 24; refine (idle_walk (hP4.gr hg5)).mono ?_; rintro e w6 ⟨rfl, rfl⟩))
        go_ret
        exact ⟨rfl, by (repeat (first | with_reducible exact Gr.refl _ | with_reducible assumption | with_reducible refine Gr.setCell ?_ (by simp; try omega) _ | with_reducible refine Gr.alloc ?_ _ | with_reducible refine Gr.drew ?_ | with_reducible refine Gr.drewN ?_ _ | with_reducible refine Gr.trans ?_ (by assumption)))⟩
theorem back_law (ta : Option Addr) (tn tc : Nat) (eight : Bool) (w : World) (h : IsToks w ta tn) (hlaid : laidMetH Tryd.prog Rows.parserBackRow.laid w) (hsh : w.ShapedOpen Tryd.prog) :
    Calls Tryd.prog 7 #[.slice ta tn tc, .bool eight] w fun e w' => e = .returned (.bool true) ∧ Gr w w' :=
  back_walk ta tn tc eight w h (back_laid hlaid)
end Go.Proofs.YtgbmjlajheeciaaDoor
