/-
  Bytes out of hexadecimal digits: the document's text.
-/
import Derived.Deep.RegionHeld3
import Derived.Test.YtaeppimldbknhaaZMcD
namespace Go.Proofs.Ytaeppimldbknhaa
set_option linter.unusedSimpArgs false
set_option linter.unusedVariables false
open Go.RowKit
set_option linter.unusedVariables false

/-- What the document's FromHex answers. -/
def docR (l : List UInt8) : List UInt8 × Bool := match hexR l with | some o => (o, true) | none => ([], false)
theorem docR_some {l o : List UInt8} (h : hexR l = some o) : docR l = (o, true) := by unfold docR; rw [h]
theorem docR_none {l : List UInt8} (h : hexR l = none) : docR l = ([], false) := by unfold docR; rw [h]

set_option maxRecDepth 100000 in
set_option maxHeartbeats 2000000 in
theorem rfromHex_any (l : List UInt8) (w : World) (hl : l.length ≤ 1000000) : Calls Try.prog 26 #[.string (bsl l)] w fun e w' => e = .returned (.tuple #[.string (bsl (docR l).1), .bool (docR l).2]) ∧ Gr w w' := by
  have hsz := bsl_size l
  have HSZ := Lib.hid hsz
  clear hsz
  go_enter Try.func26, Try.ntmps26
  go_wp2_with fail
  go_loopw [4, 5] (fun v iv wr => ∃ (i k : Nat) (o : List UInt8) (va : Option Addr) (cap : Nat), i ≤ (bsl l).size ∧ iv = .int .i64 (i : Int) ∧ v = .slice va k cap ∧ wr.ownsRow w.heap.size 5 1 (.slice va k cap) k (Lib.byteCells o) ∧ (i = 2 * k ∧ hexAt l o k) ∧ Gr w wr) (fun _ iv _ => ((bsl l).size + 2 - (intOf iv).toNat))
  case atStart => exact ⟨0, 0, [], none, 0, by omega, rfl, rfl, by simpa [Lib.byteCells] using World.ownsRow_nil w w.heap.size 5 1, ⟨rfl, hexAt_zero l⟩, by (repeat (first | with_reducible exact Gr.refl _ | with_reducible assumption | with_reducible refine Gr.setCell ?_ (by simp; try omega) _ | with_reducible refine Gr.alloc ?_ _ | with_reducible refine Gr.drew ?_ | with_reducible refine Gr.drewN ?_ _ | with_reducible refine Gr.trans ?_ (by assumption)))⟩
  case round =>
    obtain ⟨i, k, o, va, cap, hk, rfl, rfl, hown, hik, hgr⟩ := hrel
    by_cases hlt : i < (bsl l).size
    · have hin := hik.1
      have hI : (i : Int) < ((bsl l).size : Int) := by omega
      have hib : (i : Int) ≤ 1000000 := by have := HSZ.out; omega
      have HIN := Lib.hid hin
      by_cases hlast : i + 1 = (bsl l).size
      · have hbad : docR l = ([], false) := docR_none (hexR_even (by have := HSZ.out; omega))
        have HB := Lib.hid hbad
        have hq : ((i : Int) + 1 == ((bsl l).size : Int)) = true := by simp; omega
        have HIK := Lib.hid hik; have HLA := Lib.hid hlast
        clear hin hik hbad hlast
        go_wp2_with fail
        go_ret2
        exact ⟨by rw [HB.out]; rfl, by (repeat (first | with_reducible exact Gr.refl _ | with_reducible assumption | with_reducible refine Gr.setCell ?_ (by simp; try omega) _ | with_reducible refine Gr.alloc ?_ _ | with_reducible refine Gr.drew ?_ | with_reducible refine Gr.drewN ?_ _ | with_reducible refine Gr.trans ?_ (by assumption)))⟩
      · have hlt1 : i + 1 < (bsl l).size := by omega
        have hI1 : (i : Int) + 1 < ((bsl l).size : Int) := by omega
        have hq : ((i : Int) + 1 == ((bsl l).size : Int)) = false := by simp; omega
        have g1 := bsl_get hlt
        have g2 := bsl_get hlt1
        have d1 : (digR ((bsl l)[i]) = none ∧ digZ ((bsl l)[i]).toNat = -1) ∨ ∃ x : Nat, x < 16 ∧ digR ((bsl l)[i]) = some x ∧ digZ ((bsl l)[i]).toNat = x := by
          rcases hx : digR ((bsl l)[i]) with _ | x
          · exact .inl ⟨rfl, digZ_none hx⟩
          · exact .inr ⟨x, digR_lt hx, rfl, digZ_some hx⟩
        have d2 : (digR ((bsl l)[i + 1]) = none ∧ digZ ((bsl l)[i + 1]).toNat = -1) ∨ ∃ x : Nat, x < 16 ∧ digR ((bsl l)[i + 1]) = some x ∧ digZ ((bsl l)[i + 1]).toNat = x := by
          rcases hx : digR ((bsl l)[i + 1]) with _ | x
          · exact .inl ⟨rfl, digZ_none hx⟩
          · exact .inr ⟨x, digR_lt hx, rfl, digZ_some hx⟩
        have c1 := fun w => value_any (((bsl l)[i]).toNat : Int) (by omega) (by have := ((bsl l)[i]).toNat_lt; omega) w
        have c2 := fun w => value_any (((bsl l)[i + 1]).toNat : Int) (by omega) (by have := ((bsl l)[i + 1]).toNat_lt; omega) w
        have G1 := Lib.hid g1; have G2 := Lib.hid g2; have HIK := Lib.hid hik
        clear g1 g2 hin hik hlast
        have e1 : IntKind.i64.wrap ((i : Int) + 1) = (i : Int) + 1 := IntWalk.i64_in _ (by omega)
        have e2 : 0 ≤ (i : Int) + 1 := by omega
        have e3 : ((i : Int) + 1).toNat = i + 1 := by omega
        rcases d1 with ⟨x0, x1⟩ | ⟨x, xl, x0, x1⟩
        · have hbad : docR l = ([], false) := docR_none (hexAt_bad HIK.out.2 (by have := HSZ.out; have := HIN.out; omega) (.inl (by have := HIN.out; subst this; rw [← G1.out]; exact x0)))
          have HB := Lib.hid hbad
          have X0 := Lib.hid x0
          rw [x1] at c1
          clear hbad x0 x1 d2
          go_wp2_with (go_at_call 48; (first | (with_reducible refine (c1 _).mono ?_) | (with_reducible refine (c2 _).mono ?_)); rintro e w1 ⟨rfl, rfl⟩)
          go_ret2
          exact ⟨by rw [HB.out]; rfl, by (repeat (first | with_reducible exact Gr.refl _ | with_reducible assumption | with_reducible refine Gr.setCell ?_ (by simp; try omega) _ | with_reducible refine Gr.alloc ?_ _ | with_reducible refine Gr.drew ?_ | with_reducible refine Gr.drewN ?_ _ | with_reducible refine Gr.trans ?_ (by assumption)))⟩
        · rcases d2 with ⟨y0, y1⟩ | ⟨y, yl, y0, y1⟩
          · have hbad : docR l = ([], false) := docR_none (hexAt_bad HIK.out.2 (by have := HSZ.out; have := HIN.out; omega) (.inr (by have := HIN.out; subst this; rw [← G2.out]; exact y0)))
            have HB := Lib.hid hbad
            have X0 := Lib.hid x0; have Y0 := Lib.hid y0
            rw [x1] at c1
            rw [y1] at c2
            clear hbad x0 x1 y0 y1
            go_wp2_with (go_at_call 48; (first | (with_reducible refine (c1 _).mono ?_) | (with_reducible refine (c2 _).mono ?_)); rintro e w1 ⟨rfl, rfl⟩)
            go_ret2
            exact ⟨by rw [HB.out]; rfl, by (repeat (first | with_reducible exact Gr.refl _ | with_reducible assumption | with_reducible refine Gr.setCell ?_ (by simp; try omega) _ | with_reducible refine Gr.alloc ?_ _ | with_reducible refine Gr.drew ?_ | with_reducible refine Gr.drewN ?_ _ | with_reducible refine Gr.trans ?_ (by assumption)))⟩
          · have hnext := hexAt_next HIK.out.2 (by have := HSZ.out; have := HIN.out; omega) (by have := HIN.out; subst this; rw [← G1.out]; exact x0) (by have := HIN.out; subst this; rw [← G2.out]; exact y0)
            have hbp := byte_pair xl yl
            have hso := u8_small (16 * (x : Int) + (y : Int)) (by omega) (by omega)
            rw [x1] at c1
            rw [y1] at c2
            obtain ⟨b, hb⟩ : ∃ b, b = UInt8.ofNat (16 * x + y) := ⟨_, rfl⟩
            rw [← hb] at hnext hbp
            rw [← hbp] at hso
            have X0 := Lib.hid x0; have Y0 := Lib.hid y0; have HBB := Lib.hid hb
            have e4 : IntKind.i64.wrap (16 * (x : Int)) = 16 * (x : Int) := IntWalk.i64_in _ (by omega)
            have e5 : IntKind.i64.wrap (16 * (x : Int) + (y : Int)) = (b.toNat : Int) := by rw [hbp]; exact IntWalk.i64_in _ (by omega)
            have HBP := Lib.hid hbp
            clear x0 x1 y0 y1 hb hbp
            have hkb : k + 1 ≤ 1000000 := by have := HIN.out; have := HSZ.out; omega
            go_wp2_with (go_at_call 48; (first | (with_reducible refine (c1 _).mono ?_) | (with_reducible refine (c2 _).mono ?_)); rintro e w1 ⟨rfl, rfl⟩)
            go_region_held3 (fun w9 => Gr w w9)
              ((refine (fun hg => hg) ?_; (repeat (first | with_reducible exact Gr.refl _ | with_reducible assumption | with_reducible refine Gr.setCell ?_ (by simp; try omega) _ | with_reducible refine Gr.alloc ?_ _ | with_reducible refine Gr.drew ?_ | with_reducible refine Gr.drewN ?_ _ | with_reducible refine Gr.trans ?_ (by assumption)))))
              (first
                | (go_at_call 48; (first | (with_reducible refine (c1 _).mono ?_) | (with_reducible refine (c2 _).mono ?_)); rintro e w1 ⟨rfl, rfl⟩)
                | (refine step_add (w0 := w) (by rfl) _ _ _ _ (by rfl) 5 _ 1 mcT mcI rfl (by omega) _ k _ (by rfl) (ownsRow_gr hown (by (repeat (first | with_reducible exact Gr.refl _ | with_reducible assumption | with_reducible refine Gr.setCell ?_ (by simp; try omega) _ | with_reducible refine Gr.alloc ?_ _ | with_reducible refine Gr.drew ?_ | with_reducible refine Gr.drewN ?_ _ | with_reducible refine Gr.trans ?_ (by assumption))))) (by (repeat (first | with_reducible exact Gr.refl _ | with_reducible assumption | with_reducible refine Gr.setCell ?_ (by simp; try omega) _ | with_reducible refine Gr.alloc ?_ _ | with_reducible refine Gr.drew ?_ | with_reducible refine Gr.drewN ?_ _ | with_reducible refine Gr.trans ?_ (by assumption)))) _ 1 [.int .u8 b.toNat] (by rfl) (src_block mcT _ (heap_alloc_new _ _) rfl (by simp [Value.oneCell'])) (by omega) ?_; intro va2 cap2 w3 hown3 hg3))
            all_goals go_wp2_with fail
            all_goals exact ⟨⟨i + 2, k + 1, o ++ [b], va2, cap2, by omega, by go_num, rfl, by simpa [Lib.byteCells] using hown3, ⟨by have := HIN.out; omega, hnext⟩, hg3⟩, by simp [intOf]; omega⟩
    · have hln : l.length = 2 * k := by have := HSZ.out; have := hik.1; omega
      have hfr := docR_some (hexAt_end hik.2 hln)
      have HFR := Lib.hid hfr
      have hcv := conv_own hown
      clear hln hfr hik
      go_wp2_with fail
      go_ret2
      exact ⟨by rw [HFR.out]; rfl, by (repeat (first | with_reducible exact Gr.refl _ | with_reducible assumption | with_reducible refine Gr.setCell ?_ (by simp; try omega) _ | with_reducible refine Gr.alloc ?_ _ | with_reducible refine Gr.drew ?_ | with_reducible refine Gr.drewN ?_ _ | with_reducible refine Gr.trans ?_ (by assumption)))⟩
end Go.Proofs.Ytaeppimldbknhaa
