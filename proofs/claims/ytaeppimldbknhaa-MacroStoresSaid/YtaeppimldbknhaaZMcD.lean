/-
  Bytes out of hexadecimal digits: both texts.
-/
import Derived.Laws.IdiomStrings
import Derived.Test.YtaeppimldbknhaaZMcC
namespace Go.Proofs.Ytaeppimldbknhaa
set_option linter.unusedSimpArgs false
set_option linter.unusedVariables false
open Go.RowKit
set_option linter.unusedVariables false

theorem mcT : Try.prog.underlying 31 = some (.slice 5) := Try.underlying31
theorem mcI : (Try.prog.info? 5).map (fun i => (i.zero, i.size, i.bytes)) = some (some (.int .u8 0), 1, 1) := by kernel_rfl
/-- A row of bytes as a text. -/
theorem conv_own {w : World} {B n : Nat} {v : Value} {l : List UInt8} (h : w.ownsRow B 5 1 v n (Lib.byteCells l)) : (convert 31 9 v).run Try.prog w = .ok (.string (bsl l)) w := by
  have hl : l.length = n := by have := h.1; simp [Lib.byteCells_length] at this; omega
  rcases h.2 with ⟨rfl, rfl⟩ | ⟨g, cap, cur, rfl, _⟩
  · have : l = [] := List.eq_nil_of_length_eq_zero hl
    subst this
    exact run_convert_bytes_nil w _ 5 Try.underlying31 Try.underlying5 0 0 _ Try.underlying9
  · subst hl
    refine run_convert_bytes_back w _ _ 5 ⟨g, 0, none⟩ cap l Try.underlying31 Try.underlying5 Try.underlying9 (fun j hj => ?_)
    exact h.cells (g := g) rfl j _ (by simp [Lib.byteCells, List.getElem?_eq_getElem hj])
theorem shl_or (a b : Int) (ha : 0 ≤ a ∧ a < 16) (hb : 0 ≤ b ∧ b < 16) : IntKind.u8.wrap (bits BinOp.or IntKind.i64 (a * 16) b) = 16 * a + b := by
  have H : ∀ x y : Fin 16, IntKind.u8.wrap (bits BinOp.or IntKind.i64 ((x.val : Int) * 16) (y.val : Int)) = 16 * (x.val : Int) + (y.val : Int) := by decide +kernel
  have := H ⟨a.toNat, by omega⟩ ⟨b.toNat, by omega⟩
  simpa only [Int.toNat_of_nonneg ha.1, Int.toNat_of_nonneg hb.1] using this
theorem byte_pair {x y : Nat} (hx : x < 16) (hy : y < 16) : ((UInt8.ofNat (16 * x + y)).toNat : Int) = 16 * (x : Int) + (y : Int) := by
  rw [UInt8.toNat_ofNat']; omega

/-- What is read of digits and what is left. -/
def hexAt (l o : List UInt8) (k : Nat) : Prop := hexR l = (hexR (l.drop (2 * k))).map (o ++ ·)
theorem hexAt_zero (l : List UInt8) : hexAt l [] 0 := by unfold hexAt; simp
theorem hexAt_end {l o : List UInt8} {k : Nat} (h : hexAt l o k) (hk : l.length = 2 * k) : hexR l = some o := by
  unfold hexAt at h; rw [h, ← hk, List.drop_length]; simp [hexR]
theorem drop_two {l : List UInt8} {i : Nat} (h : i + 1 < l.length) : l.drop i = l[i] :: l[i + 1] :: l.drop (i + 2) := by
  rw [List.drop_eq_getElem_cons (by omega), List.drop_eq_getElem_cons (by omega)]
theorem hexAt_next {l o : List UInt8} {k x y : Nat} (h : hexAt l o k) (hk : 2 * k + 1 < l.length) (hx : digR l[2 * k] = some x) (hy : digR l[2 * k + 1] = some y) : hexAt l (o ++ [UInt8.ofNat (16 * x + y)]) (k + 1) := by
  unfold hexAt at h ⊢
  rw [h, drop_two hk]
  simp only [hexR, hx, hy, Option.map_map, show 2 * (k + 1) = 2 * k + 2 from rfl]
  congr 1
  funext a
  simp
theorem hexAt_bad {l o : List UInt8} {k : Nat} (h : hexAt l o k) (hk : 2 * k + 1 < l.length) (hb : digR l[2 * k] = none ∨ digR l[2 * k + 1] = none) : hexR l = none := by
  unfold hexAt at h
  rw [h, drop_two hk]
  rcases hb with hb | hb
  · simp [hexR, hb]
  · simp only [hexR, hb]
    cases digR l[2 * k] <;> rfl
/-- What the program's FromHex answers. -/
def fromR (l : List UInt8) : List UInt8 × Int := match hexR l with | some o => (o, 0) | none => ([], 3)
theorem fromR_some {l o : List UInt8} (h : hexR l = some o) : fromR l = (o, 0) := by unfold fromR; rw [h]
theorem fromR_none {l : List UInt8} (h : hexR l = none) : fromR l = ([], 3) := by unfold fromR; rw [h]

set_option maxRecDepth 100000 in
set_option maxHeartbeats 2000000 in
theorem fromHex_any (l : List UInt8) (w : World) (hl : l.length ≤ 1000000) : Calls Try.prog 40 #[.string (bsl l)] w fun e w' => e = .returned (.tuple #[.string (bsl (fromR l).1), .int .i64 (fromR l).2]) ∧ Gr w w' := by
  have hsz := bsl_size l
  by_cases hodd : l.length % 2 = 1
  · rw [fromR_none (hexR_even hodd)]
    have ho : ((bsl l).size : Int) % 2 = 1 := by omega
    clear hsz hodd
    go_enter Try.func40, Try.ntmps40
    go_wp2
    go_ret2
    exact ⟨rfl, by (repeat (first | with_reducible exact Gr.refl _ | with_reducible assumption | with_reducible refine Gr.setCell ?_ (by simp; try omega) _ | with_reducible refine Gr.alloc ?_ _ | with_reducible refine Gr.drew ?_ | with_reducible refine Gr.drewN ?_ _ | with_reducible refine Gr.trans ?_ (by assumption)))⟩
  · have ho : (((bsl l).size : Int) % 2 == 1) = false := by simp; omega
    obtain ⟨n, hn⟩ : ∃ n, l.length = 2 * n := ⟨l.length / 2, by omega⟩
    rw [hn] at hsz
    have HSZ := Lib.hid hsz
    have HN := Lib.hid hn
    clear hsz hn hodd
    go_enter Try.func40, Try.ntmps40
    go_wp2_with fail
    go_loopw [4, 5] (fun v iv wr => ∃ (i k : Nat) (o : List UInt8) (va : Option Addr) (cap : Nat), i ≤ (bsl l).size ∧ iv = .int .i64 (i : Int) ∧ v = .slice va k cap ∧ wr.ownsRow w.heap.size 5 1 (.slice va k cap) k (Lib.byteCells o) ∧ (i = 2 * k ∧ hexAt l o k) ∧ Gr w wr) (fun _ iv _ => ((bsl l).size + 2 - (intOf iv).toNat))
    case atStart => exact ⟨0, 0, [], none, 0, by omega, rfl, rfl, by simpa [Lib.byteCells] using World.ownsRow_nil w w.heap.size 5 1, ⟨rfl, hexAt_zero l⟩, by (repeat (first | with_reducible exact Gr.refl _ | with_reducible assumption | with_reducible refine Gr.setCell ?_ (by simp; try omega) _ | with_reducible refine Gr.alloc ?_ _ | with_reducible refine Gr.drew ?_ | with_reducible refine Gr.drewN ?_ _ | with_reducible refine Gr.trans ?_ (by assumption)))⟩
    case round =>
      obtain ⟨i, k, o, va, cap, hk, rfl, rfl, hown, hik, hgr⟩ := hrel
      by_cases hlt : i < (bsl l).size
      · have hsz := HSZ.out
        have hin := hik.1
        have hlt1 : i + 1 < (bsl l).size := by omega
        have hI : (i : Int) < ((bsl l).size : Int) := by omega
        have hI1 : (i : Int) + 1 < ((bsl l).size : Int) := by omega
        have g1 := bsl_get hlt
        have g2 := bsl_get hlt1
        have d1 : (digR ((bsl l)[i]) = none ∧ digZ ((bsl l)[i]).toNat = -1) ∨ ∃ x : Nat, x < 16 ∧ digR ((bsl l)[i]) = some x ∧ digZ ((bsl l)[i]).toNat = x := by
          rcases hx : digR ((bsl l)[i]) with _ | x
          · exact .inl ⟨rfl, digZ_none hx⟩
          · exact .inr ⟨x, digR_lt hx, rfl, digZ_some hx⟩
        have d2 : (digR ((bsl l)[i + 1]) = none ∧ digZ ((bsl l)[i + 1]).toNat = -1) ∨ ∃ x : Nat, x < 16 ∧ digR ((bsl l)[i + 1]) = some x ∧ digZ ((bsl l)[i + 1]).toNat = x := by
          rcases hx : digR ((bsl l)[i + 1]) with _ | x
          · exact .inl ⟨rfl, digZ_none hx⟩
          · exact .inr ⟨x, digR_lt hx, rfl, digZ_some hx⟩
        have c1 := fun w => digit_any (((bsl l)[i]).toNat : Int) (by omega) (by have := ((bsl l)[i]).toNat_lt; omega) w
        have c2 := fun w => digit_any (((bsl l)[i + 1]).toNat : Int) (by omega) (by have := ((bsl l)[i + 1]).toNat_lt; omega) w
        have G1 := Lib.hid g1; have G2 := Lib.hid g2; have HIK := Lib.hid hik; have HIN := Lib.hid hin
        clear g1 g2 hin hik hsz
        have e1 : IntKind.i64.wrap ((i : Int) + 1) = (i : Int) + 1 := IntWalk.i64_in _ (by have := HN.out; have := HSZ.out; omega)
        have e2 : 0 ≤ (i : Int) + 1 := by omega
        have e3 : ((i : Int) + 1).toNat = i + 1 := by omega
        rcases d1 with ⟨x0, x1⟩ | ⟨x, xl, x0, x1⟩
        · have hbad : fromR l = ([], 3) := fromR_none (hexAt_bad HIK.out.2 (by have := HN.out; have := HSZ.out; have := HIN.out; omega) (.inl (by have := HIN.out; subst this; rw [← G1.out]; exact x0)))
          have HB := Lib.hid hbad
          have X0 := Lib.hid x0
          rw [x1] at c1
          clear hbad x0 x1 d2
          go_wp2_with fail
          go_quiet ((go_at_call 53; (first | (with_reducible exact Calls.quiet_of_same (c1 _)) | (with_reducible exact Calls.quiet_of_same (c2 _)))))
          go_wp2_with fail
          go_ret2
          exact ⟨by rw [HB.out]; rfl, by (repeat (first | with_reducible exact Gr.refl _ | with_reducible assumption | with_reducible refine Gr.setCell ?_ (by simp; try omega) _ | with_reducible refine Gr.alloc ?_ _ | with_reducible refine Gr.drew ?_ | with_reducible refine Gr.drewN ?_ _ | with_reducible refine Gr.trans ?_ (by assumption)))⟩
        · rcases d2 with ⟨y0, y1⟩ | ⟨y, yl, y0, y1⟩
          · have hbad : fromR l = ([], 3) := fromR_none (hexAt_bad HIK.out.2 (by have := HN.out; have := HSZ.out; have := HIN.out; omega) (.inr (by have := HIN.out; subst this; rw [← G2.out]; exact y0)))
            have HB := Lib.hid hbad
            have X0 := Lib.hid x0; have Y0 := Lib.hid y0
            rw [x1] at c1
            rw [y1] at c2
            clear hbad x0 x1 y0 y1
            go_wp2_with fail
            go_quiet ((go_at_call 53; (first | (with_reducible exact Calls.quiet_of_same (c1 _)) | (with_reducible exact Calls.quiet_of_same (c2 _)))))
            go_wp2_with fail
            go_ret2
            exact ⟨by rw [HB.out]; rfl, by (repeat (first | with_reducible exact Gr.refl _ | with_reducible assumption | with_reducible refine Gr.setCell ?_ (by simp; try omega) _ | with_reducible refine Gr.alloc ?_ _ | with_reducible refine Gr.drew ?_ | with_reducible refine Gr.drewN ?_ _ | with_reducible refine Gr.trans ?_ (by assumption)))⟩
          · have hnext := hexAt_next HIK.out.2 (by have := HN.out; have := HSZ.out; have := HIN.out; omega) (by have := HIN.out; subst this; rw [← G1.out]; exact x0) (by have := HIN.out; subst this; rw [← G2.out]; exact y0)
            have hbp := byte_pair xl yl
            have hso := shl_or (x : Int) (y : Int) (by omega) (by omega)
            rw [x1] at c1
            rw [y1] at c2
            obtain ⟨b, hb⟩ : ∃ b, b = UInt8.ofNat (16 * x + y) := ⟨_, rfl⟩
            rw [← hb] at hnext hbp
            rw [← hbp] at hso
            have X0 := Lib.hid x0; have Y0 := Lib.hid y0; have HBB := Lib.hid hb; have HBP := Lib.hid hbp
            clear x0 x1 y0 y1 hb hbp
            have hib : (i : Int) ≤ 1000000 := by have := HN.out; have := HSZ.out; omega
            have hkb : k + 1 ≤ 1000000 := by have := HIN.out; have := HN.out; have := HSZ.out; omega
            go_wp2_with fail
            go_quiet ((go_at_call 53; (first | (with_reducible exact Calls.quiet_of_same (c1 _)) | (with_reducible exact Calls.quiet_of_same (c2 _)))))
            have hown1 := ownsRow_gr hown ((Gr.refl wr).drewN nq)
            have hgr1 := hgr.trans ((Gr.refl wr).drewN nq)
            obtain ⟨wA, hwA⟩ : ∃ wA, wA = wr.drewN nq := ⟨_, rfl⟩
            rw [← hwA] at hown1 hgr1 ⊢
            clear hwA hown hgr
            go_wp2_with (at_builtin; (refine wpList_add (w0 := w) rfl _ _ _ _ rfl 5 _ 1 mcT mcI rfl (by omega) _ k _ rfl (hown1.alloc _) (hgr1.alloc _) _ 1 [.int .u8 b.toNat] rfl (src_block mcT _ (heap_alloc_new _ _) rfl (by simp [Value.oneCell'])) (by omega) ?_); intro va2 cap2 w3 hown3 hg3)
            go_roundw
            case rel => exact ⟨i + 2, k + 1, o ++ [b], va2, cap2, by omega, by go_num, rfl, by simpa [Lib.byteCells] using hown3, ⟨by have := HIN.out; omega, hnext⟩, hg3⟩
            case measure => simp [intOf]; omega
      · have hin := hik.1
        have hln : l.length = 2 * k := by have := HSZ.out; have := HN.out; omega
        have hfr := fromR_some (hexAt_end hik.2 hln)
        have HFR := Lib.hid hfr
        have hcv := conv_own hown
        clear hin hln hfr hik
        go_wp2_with fail
        go_ret2
        exact ⟨by rw [HFR.out]; rfl, by (repeat (first | with_reducible exact Gr.refl _ | with_reducible assumption | with_reducible refine Gr.setCell ?_ (by simp; try omega) _ | with_reducible refine Gr.alloc ?_ _ | with_reducible refine Gr.drew ?_ | with_reducible refine Gr.drewN ?_ _ | with_reducible refine Gr.trans ?_ (by assumption)))⟩
end Go.Proofs.Ytaeppimldbknhaa
