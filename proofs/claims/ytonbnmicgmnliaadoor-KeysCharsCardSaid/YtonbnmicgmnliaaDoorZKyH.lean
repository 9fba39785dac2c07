/-
  The law KeysChars: what is typed is sent as it is, but for controls; walked (gen_kyh.py).
-/
import Derived.Test.YtonbnmicgmnliaaDoorZPdE
import Derived.Test.YtonbnmicgmnliaaDoorZTkF
import Derived.Test.YtonbnmicgmnliaaDoorZSrcN
import Derived.Test.YtonbnmicgmnliaaDoorZKyM
namespace Go.Proofs.YtonbnmicgmnliaaDoor
set_option linter.unusedSimpArgs false
set_option linter.unusedVariables false
open Go.ChangeShapes Go.WideShapes Go.Deep Go.RowKit
set_option linter.unusedVariables false

/-- The row of what was sent, and the text of what was wanted. -/
structure ChS (w8 wr : World) (n k m : Nat) (ra : Option Addr) (rc : Nat) (L : List Int) (tx : ByteArray) : Prop where
  kn : k ≤ n
  k100 : k ≤ 100
  mle : m ≤ k
  len : L.length = m
  own : wr.ownsRow w8.heap.size 5 1 (.slice ra m rc) m (bcells L)
  gr : Gr w8 wr
  txt : tx = strOf L
theorem ChS.same {w8 wr w' : World} {n k m : Nat} {ra rb : Option Addr} {rc rd : Nat} {L : List Int} {tx : ByteArray} (h : ChS w8 wr n k m ra rc L tx) (hk : k < n) (hk2 : k < 100) (ho : w'.ownsRow w8.heap.size 5 1 (.slice rb (m + 0) rd) (m + 0) (bcells L ++ [])) (hg : Gr w8 w') : ChS w8 w' n (k + 1) m rb rd L tx :=
  ⟨by omega, by omega, by have := h.mle; omega, h.len, by simpa using ho, hg, h.txt⟩
theorem ChS.more {w8 wr w' : World} {n k m : Nat} {ra rb : Option Addr} {rc rd : Nat} {L : List Int} {tx tx' : ByteArray} {c : Int} (h : ChS w8 wr n k m ra rc L tx) (hk : k < n) (hk2 : k < 100) (ho : w'.ownsRow w8.heap.size 5 1 (.slice rb (m + 1) rd) (m + 1) (bcells L ++ bcells [c])) (hg : Gr w8 w') (ht : tx' = tx ++ strOf [c]) : ChS w8 w' n (k + 1) (m + 1) rb rd (L ++ [c]) tx' :=
  ⟨by omega, by omega, by have := h.mle; omega, by simp [h.len], by simpa [bcells] using ho, hg, by rw [ht, h.txt, strOf_app]⟩
theorem hasB_off (m : BitVec 32) : hasB (setB m 0 false) 0 = false := by simp [has_set]
set_option maxRecDepth 100000 in
set_option maxHeartbeats 4000000 in
theorem chars_walk {w : World} {a : Option Addr} {len cap : Nat} {zs : List Int} (h : IsRow .u8 w a len cap zs) (m0 : BitVec 32) (lv : Int) (ei : Bool) (d : List UInt8) (hT : tabT w) (hM : MaxOk w) :
    Calls Tryd.prog 4 #[.slice a len cap, .agg #[.int .u32 (m0.toNat : Int), .int .i64 lv, .bool ei, .string (bsl d)]] w fun e w' => e = .returned (.bool true) ∧ Gr w w' := by
  obtain ⟨hr, hln, hl, hlc, hcm, hpl⟩ := h.rd (n := len) (Nat.le_refl _)
  obtain ⟨l, hld⟩ : ∃ l, l = zs.take len := ⟨_, rfl⟩
  rw [← hld] at hr hln hl
  have hB2 := heap_alloc_new w (.cells #[.int .u32 (m0.toNat : Int), .int .i64 lv, .bool ei, .string (bsl d)] 27)
  have hg2 := (Gr.refl w).alloc (.cells #[.int .u32 (m0.toNat : Int), .int .i64 lv, .bool ei, .string (bsl d)] 27)
  obtain ⟨w2, hw2⟩ : ∃ w2, w2 = w.alloc (.cells #[.int .u32 (m0.toNat : Int), .int .i64 lv, .bool ei, .string (bsl d)] 27) := ⟨_, rfl⟩
  have htx := fun (W : World) (hg : Gr w2 W) => texts_any m0 lv ei d W (hM.gr ((hw2 ▸ hg2).trans hg))
  obtain ⟨tx, htxd⟩ : ∃ tx, tx = bsl d := ⟨_, rfl⟩
  rw [← htxd] at htx hw2 hB2 hg2 ⊢
  clear htxd hld h hcm
  rw [← hw2] at hB2 hg2
  have haw := awake22 (w := w2) (hT.gr hg2)
  obtain ⟨g3, hg3d⟩ : ∃ g, g = w.heap.size := ⟨_, rfl⟩
  rw [← hg3d] at hB2
  have hcB : ∀ W, Gr w2 W → W.cell? ⟨g3, 0, none⟩ = some (.int .u32 (m0.toNat : Int)) ∧ W.cell? ⟨g3, 1, none⟩ = some (.int .i64 lv) ∧ W.cell? ⟨g3, 2, none⟩ = some (.bool ei) ∧ W.cell? ⟨g3, 3, none⟩ = some (.string tx) := fun W hg => ⟨hg.cellAt (cell_of_row hB2 0 _ rfl), hg.cellAt (cell_of_row hB2 1 _ rfl), hg.cellAt (cell_of_row hB2 2 _ rfl), hg.cellAt (cell_of_row hB2 3 _ rfl)⟩
  have HB2 := Lib.hid hcB
  have HT := Lib.hid hT
  have HG := Lib.hid hg2
  have HR := Lib.hid (hr.gr hg2)
  have HL := Lib.hid hl
  have HN := Lib.hid hln
  clear hcB hB2 hT hg2 hM hr hl hln
  have hw0 := with_0 m0 false
  obtain ⟨m5, hm5⟩ : ∃ x, x = setB m0 0 false := ⟨_, rfl⟩
  have hm50 : hasB m5 0 = false := by rw [hm5]; exact hasB_off m0
  rw [← hm5] at hw0
  have HM5 := Lib.hid hm50
  clear hm5 hm50
  go_enter Tryd.func4, Tryd.ntmps4
  go_upto_region 1 with (fail)
  rw [← hw2, ← hg3d]
  clear hw2 hg3d
  go_upto_region 3 with (go_at_call 5; (with_reducible refine haw.mono ?_); rintro e w3 ⟨rfl, hg3⟩)
  clear haw
  obtain ⟨hq0, hq1, hq2, hq3⟩ := HB2.out _ hg3
  go_upto_region 5 with (first
    | (go_at_call 8; (with_reducible refine (htx _ hg3).mono ?_); rintro e w8 ⟨p, L, lk, rfl, hK, hg8, _⟩; have hgB := hg3.trans hg8; obtain ⟨hq0, hq1, hq2, hq3⟩ := HB2.out _ hgB)
    | (go_at_call 6; (with_reducible refine (hw0 _).mono ?_); rintro e w9 ⟨rfl, rfl⟩))
  clear hq0 hq1 hq2 hq3 htx hw0
  have ht8 := HT.out.gr (HG.out.trans hgB)
  have hE0 : ∀ W, Gr w8 W → ∀ c : Int, 0 ≤ c ∧ c < 256 → Calls Tryd.prog 9 #[.agg #[.int .i64 0, .int .u8 c, .bool false, .bool false], .int .u32 (m5.toNat : Int), .int .i64 lv, .bool ei, .pointer (some ⟨p, 0, none⟩)] W (RowTo W (charK c lv false).length (charK c lv false)) := fun W hg c hc => by
    have := encode_any 0 c false false m5 lv ei p (ht8.gr hg) (hK.gr hg) hc
    rw [HM5.out] at this
    exact this
  have HE0 := Lib.hid hE0
  have HQ := Lib.hid (fun (W : World) (hg : Gr w8 W) => (⟨(HB2.out W (hgB.trans hg)).2.1, (HB2.out W (hgB.trans hg)).2.2.1⟩ : W.cell? ⟨g3, 1, none⟩ = some (.int .i64 lv) ∧ W.cell? ⟨g3, 2, none⟩ = some (.bool ei)))
  have HR8 := Lib.hid (HR.out.gr hgB)
  have HGZ := Lib.hid (HG.out.trans hgB)
  clear ht8 hE0 hK HB2 HT HG HR hgB hg3 hg8 HM5
  go_upto_region 8 with (fail)
  go_loopw [7, 8, 20] (fun gv wv iv wr => ∃ (k m : Nat) (ra : Option Addr) (rc : Nat) (L : List Int) (tx : ByteArray), gv = .slice ra m rc ∧ wv = .string tx ∧ iv = .int .i64 k ∧ ChS w8 wr len k m ra rc L tx) (fun _ _ iv _ => len - (intOf iv).toNat)
  case atStart => exact ⟨0, 0, none, 0, [], _, rfl, rfl, rfl, ⟨by omega, by omega, by omega, rfl, by simpa [bcells] using World.ownsRow_nil w8 w8.heap.size 5 1, .refl _, rfl⟩⟩
  case round =>
    obtain ⟨k, m, ra, rc, L, tx1, rfl, rfl, rfl, hS⟩ := hrel
    have HS := Lib.hid hS
    have hkn := hS.kn
    have hk100 := hS.k100
    have hmk := hS.mle
    have hgr := hS.gr
    have hown := hS.own
    have hsz : tx1.size = m := by rw [hS.txt, strOf_size, hS.len]
    have hnb : ¬ 9223372036854775807 < tx1.size + 1 := by omega
    have hfin := conv_own8 hown rfl
    rw [← hS.txt] at hfin
    have HF := Lib.hid hfin
    clear hS hfin
    have hk0 : (0 : Int) ≤ (k : Int) := by omega
    by_cases hlt : k < len
    · have hkl : (k : Int) < (len : Int) := by omega
      obtain ⟨b, off, c, rfl, hc, hcell, hb⟩ := (HR8.out.gr hgr).byte hlt
      obtain ⟨hc0, hc1⟩ := HL.out c (List.mem_of_getElem? hc)
      clear hc
      by_cases h100 : k < 100
      · have h100a : ¬ (100 : Int) ≤ (k : Int) := by omega
        have hcs : (c < 32) ∨ (32 ≤ c ∧ 126 < c ∧ c < 160) ∨ (32 ≤ c ∧ 126 < c ∧ 160 ≤ c ∧ lv < 2) ∨ (32 ≤ c ∧ c ≤ 126) ∨ (32 ≤ c ∧ 126 < c ∧ 160 ≤ c ∧ 2 ≤ lv) := by omega
        obtain ⟨k1, k2⟩ := HQ.out _ hgr
        have hE := fun (W : World) (hg : Gr w8 W) => HE0.out W hg c ⟨hc0, hc1⟩
        have q3 := fun (W : World) (hg : Gr w8 W) => (HQ.out W hg).1
        rcases hcs with q | ⟨q, qa, qb⟩ | ⟨q, qa, qb, qc⟩ | ⟨q, qa⟩ | ⟨q, qa, qb, qc⟩
        · have hkc : charK c lv false = [] := if_pos (by omega)
          have hE : ∀ W, Gr w8 W → Calls Tryd.prog 9 #[.agg #[.int .i64 0, .int .u8 c, .bool false, .bool false], .int .u32 (m5.toNat : Int), .int .i64 lv, .bool ei, .pointer (some ⟨p, 0, none⟩)] W (RowTo W 0 []) := fun W hg => by have := hE W hg; rw [hkc] at this; exact this
          clear hkc
          go_wp2_with (first
            | (go_at_call 9; (with_reducible refine (hE _ hgr).mono ?_); rintro e w3 ⟨xa, xc, rfl, hrow3, hg3⟩; have hgr3 := hgr.trans hg3; have hown3 := ownsRow_gr hown hg3)
            | (at_builtin; (refine wpList_addX (w0 := w8) rfl _ _ _ _ rfl 5 _ 1 bytesT uint8_info rfl _ m _ rfl hown3 hgr3 _ 0 _ rfl (src_has hrow3) (by unfold maxLen; omega) (by omega) ?_); intro va cap5 w4 hown4 hgr4 _; have q4 := q3 _ hgr4))
          go_roundw
          case rel => exact ⟨k + 1, m, va, cap5, L, tx1, rfl, rfl, by go_num, HS.out.same hlt h100 hown4 hgr4⟩
          case measure => simp [intOf]; omega
        · have hkc : charK c lv false = [] := if_pos (by omega)
          have hE : ∀ W, Gr w8 W → Calls Tryd.prog 9 #[.agg #[.int .i64 0, .int .u8 c, .bool false, .bool false], .int .u32 (m5.toNat : Int), .int .i64 lv, .bool ei, .pointer (some ⟨p, 0, none⟩)] W (RowTo W 0 []) := fun W hg => by have := hE W hg; rw [hkc] at this; exact this
          clear hkc
          go_wp2_with (first
            | (go_at_call 9; (with_reducible refine (hE _ hgr).mono ?_); rintro e w3 ⟨xa, xc, rfl, hrow3, hg3⟩; have hgr3 := hgr.trans hg3; have hown3 := ownsRow_gr hown hg3)
            | (at_builtin; (refine wpList_addX (w0 := w8) rfl _ _ _ _ rfl 5 _ 1 bytesT uint8_info rfl _ m _ rfl hown3 hgr3 _ 0 _ rfl (src_has hrow3) (by unfold maxLen; omega) (by omega) ?_); intro va cap5 w4 hown4 hgr4 _; have q4 := q3 _ hgr4))
          go_roundw
          case rel => exact ⟨k + 1, m, va, cap5, L, tx1, rfl, rfl, by go_num, HS.out.same hlt h100 hown4 hgr4⟩
          case measure => simp [intOf]; omega
        · have hkc : charK c lv false = [] := if_pos (by omega)
          have hE : ∀ W, Gr w8 W → Calls Tryd.prog 9 #[.agg #[.int .i64 0, .int .u8 c, .bool false, .bool false], .int .u32 (m5.toNat : Int), .int .i64 lv, .bool ei, .pointer (some ⟨p, 0, none⟩)] W (RowTo W 0 []) := fun W hg => by have := hE W hg; rw [hkc] at this; exact this
          clear hkc
          go_wp2_with (first
            | (go_at_call 9; (with_reducible refine (hE _ hgr).mono ?_); rintro e w3 ⟨xa, xc, rfl, hrow3, hg3⟩; have hgr3 := hgr.trans hg3; have hown3 := ownsRow_gr hown hg3)
            | (at_builtin; (refine wpList_addX (w0 := w8) rfl _ _ _ _ rfl 5 _ 1 bytesT uint8_info rfl _ m _ rfl hown3 hgr3 _ 0 _ rfl (src_has hrow3) (by unfold maxLen; omega) (by omega) ?_); intro va cap5 w4 hown4 hgr4 _; have q4 := q3 _ hgr4))
          go_roundw
          case rel => exact ⟨k + 1, m, va, cap5, L, tx1, rfl, rfl, by go_num, HS.out.same hlt h100 hown4 hgr4⟩
          case measure => simp [intOf]; omega
        · have hkc : charK c lv false = [c] := by unfold charK; rw [if_neg (by omega)]; simp
          have hE : ∀ W, Gr w8 W → Calls Tryd.prog 9 #[.agg #[.int .i64 0, .int .u8 c, .bool false, .bool false], .int .u32 (m5.toNat : Int), .int .i64 lv, .bool ei, .pointer (some ⟨p, 0, none⟩)] W (RowTo W 1 [c]) := fun W hg => by have := hE W hg; rw [hkc] at this; exact this
          clear hkc
          go_wp2_with (first
            | (go_at_call 9; (with_reducible refine (hE _ hgr).mono ?_); rintro e w3 ⟨xa, xc, rfl, hrow3, hg3⟩; have hgr3 := hgr.trans hg3; have hown3 := ownsRow_gr hown hg3)
            | (at_builtin; (refine wpList_addX (w0 := w8) rfl _ _ _ _ rfl 5 _ 1 bytesT uint8_info rfl _ m _ rfl hown3 hgr3 _ 1 _ rfl (src_has hrow3) (by unfold maxLen; omega) (by omega) ?_); intro va cap5 w4 hown4 hgr4 _; have q4 := q3 _ hgr4; have q5 := conv1 w4 c; have q6 : (strOf [c]).size = 1 := rfl))
          go_roundw
          case rel => exact ⟨k + 1, m + 1, va, cap5, L ++ [c], _, rfl, rfl, by go_num, HS.out.more hlt h100 (ownsRow_gr hown4 ((Gr.refl w4).alloc _)) (hgr4.alloc _) rfl⟩
          case measure => simp [intOf]; omega
        · have hkc : charK c lv false = [c] := by unfold charK; rw [if_neg (by omega)]; simp
          have hE : ∀ W, Gr w8 W → Calls Tryd.prog 9 #[.agg #[.int .i64 0, .int .u8 c, .bool false, .bool false], .int .u32 (m5.toNat : Int), .int .i64 lv, .bool ei, .pointer (some ⟨p, 0, none⟩)] W (RowTo W 1 [c]) := fun W hg => by have := hE W hg; rw [hkc] at this; exact this
          clear hkc
          go_wp2_with (first
            | (go_at_call 9; (with_reducible refine (hE _ hgr).mono ?_); rintro e w3 ⟨xa, xc, rfl, hrow3, hg3⟩; have hgr3 := hgr.trans hg3; have hown3 := ownsRow_gr hown hg3)
            | (at_builtin; (refine wpList_addX (w0 := w8) rfl _ _ _ _ rfl 5 _ 1 bytesT uint8_info rfl _ m _ rfl hown3 hgr3 _ 1 _ rfl (src_has hrow3) (by unfold maxLen; omega) (by omega) ?_); intro va cap5 w4 hown4 hgr4 _; have q4 := q3 _ hgr4; have q5 := conv1 w4 c; have q6 : (strOf [c]).size = 1 := rfl))
          go_roundw
          case rel => exact ⟨k + 1, m + 1, va, cap5, L ++ [c], _, rfl, rfl, by go_num, HS.out.more hlt h100 (ownsRow_gr hown4 ((Gr.refl w4).alloc _)) (hgr4.alloc _) rfl⟩
          case measure => simp [intOf]; omega
      · have h100a : (100 : Int) ≤ (k : Int) := by omega
        have hfin := HF.out
        go_wp2_with fail
        go_ret
        exact ⟨rfl, HGZ.out.trans hgr⟩
    · have hkl : ¬ (k : Int) < (len : Int) := by omega
      have hfin := HF.out
      go_wp2_with fail
      go_ret
      exact ⟨rfl, HGZ.out.trans hgr⟩
theorem chars_laid {w : World} (h : laidMetH Tryd.prog Rows.keysCharsRow.laid w) : tabT w := by
  unfold Rows.keysCharsRow at h
  rw [MakeChecks.laidMetH_plain _ _ _ (by kernel_rfl)] at h
  exact tabT_met22 (laidMet_tail2 (laidMet_tail2 h))
theorem chars_law (a : Option Addr) (len cap : Nat) (z : List Int) (m lv : Int) (ei : Bool) (s : ByteArray) (w : World) (w0 : IsRow .u8 w a len cap z) (w1 : BdIn m s) (hlaid : laidMetH Tryd.prog Rows.keysCharsRow.laid w) (hsh : w.ShapedOpen Tryd.prog) :
    Calls Tryd.prog 4 #[.slice a len cap, .agg #[.int .u32 m, .int .i64 lv, .bool ei, .string s]] w fun e w' => e = .returned (.bool true) ∧ Gr w w' := by
  obtain ⟨M, rfl⟩ := u32_bits w1.1
  have := chars_walk w0 M lv ei s.data.toList (chars_laid hlaid) (MaxOk.of22 hsh)
  rw [bsl_of s] at this
  exact this
end Go.Proofs.YtonbnmicgmnliaaDoor
