/-
 A cursor that is brought back by the program, walked (gen_stu.py).
-/
import Derived.Test.YtfkecgkfcldffaaGreatDoorZStR
import Derived.Test.YtfkecgkfcldffaaGreatDoorZHf
import Derived.Test.YtfkecgkfcldffaaGreatDoorZIsV
import Derived.Test.YtfkecgkfcldffaaGreatDoorZStQ
namespace Go.Proofs.YtfkecgkfcldffaaGreatDoor
set_option linter.unusedSimpArgs false
set_option linter.unusedVariables false
open Go.RowKit
set_option linter.unusedVariables false

abbrev qStU_1 (f0 : List Int) (f1 : List Int) (f2 : List Int) (f3 : List Int) (f4 : List Int) (f5 : List Int) (f6 : List Int) (f7 : List Int) (f8 : List Int) (f9 : List Int) : Array Value := #[.string (strOf f0), .string (strOf f1), .string (strOf f2), .string (strOf f3), .string (strOf f4), .string (strOf f5), .string (strOf f6), .string (strOf f7), .string (strOf f8), .string (strOf f9)]
theorem split_10 (l : List Int) (f0 f1 f2 f3 f4 f5 f6 f7 f8 f9 : List Int) (w : World) (hl : ∀ c ∈ l, 0 ≤ c ∧ c < 256) (hn : l.length ≤ 1000000) (hm : MaxOkS w) (hx : splitSemi l = [f0, f1, f2, f3, f4, f5, f6, f7, f8, f9]) : Tr Tryz.prog 28 #[.string (strOf l), .string ⟨#[59]⟩] w []
  (fun v Q => ∃ g, v = sv g 0 10 10 ∧ Q = [pt g (qStU_1 f0 f1 f2 f3 f4 f5 f6 f7 f8 f9) 9]) := (split_semi l w hl hn hm).mono fun v Q h => by
 rw [hx] at h; exact h
theorem numV_in {l : List Int} : 0 ≤ numV l ∧ numV l ≤ 65535 := by
 cases ha : l.all isAcc with
 | false => rw [(nmK_bad ha).1]; decide
 | true =>
  by_cases hx : (numsR l).length = 1
  ·obtain ⟨x, hx⟩ : ∃ x, numsR l = [x] := by
    match numsR l, hx with
    | [x], _ => exact ⟨x, rfl⟩
   rw [(nmK_one ha hx).1]
   exact nums_in16 ha x (by rw [hx]; simp)
  ·rw [(nmK_len ha hx).1]; decide
theorem bitV_in (l : List Int) {m : Int} (hm : 0 ≤ m) : 0 ≤ bitV l m ∧ bitV l m ≤ m := by
 unfold bitV
 cases h : bitK l m with
 | false => rw [cond_false]; omega
 | true =>
  unfold bitK at h
  simp only [Bool.and_eq_true, decide_eq_true_eq] at h
  rw [cond_true]; omega
/-- Whether all nine fields can be. -/
def curK (f0 f1 f2 f3 f4 f5 f6 f7 f8 f9 : List Int) : Bool := numK f0 && numK f1 && numK f2 && bitK f3 31 && bitK f4 1 && bitK f5 15 && numK f6 && numK f7 && bitK f8 15
def s7 (c : Cor) : S7 := ⟨c.g0, c.g1, c.g2, c.g3, c.gl, c.gr, c.sg⟩
/-- The sets that are brought back, and whether they are. -/
def curS7 (c : Cor) (f0 f1 f2 f3 f4 f5 f6 f7 f8 f9 : List Int) : S7 × Bool := rstR (64 + bitV f8 15) (numV f6) (numV f7) (s7 c.clean) (f9.map fun c => UInt8.ofNat c.toNat)
/-- The state with another cursor. -/
def ccur (c : Cor) (f0 f1 f2 f3 f4 f5 f6 f7 f8 f9 : List Int) (Z : S7) (sg : Int) : Cor := { c.clean with row := numV f0 - 1, col := numV f1 - 1, rend := bitV f3 31, kept := bitV f4 1 == 1, wrap := bitV f5 15 / 8 == 1, origin := bitV f5 15 % 2 == 1, g0 := Z.a0, g1 := Z.a1, g2 := Z.a2, g3 := Z.a3, gl := Z.a4, gr := Z.a5, sg := sg, page := numV f2 - 1 }
def sgl (h : Int) : Int := bif decide (0 < h / 2 % 4) then h / 2 % 4 + 1 else 0
def okCur (c : Cor) (f0 f1 f2 f3 f4 f5 f6 f7 f8 f9 : List Int) : Bool := curK f0 f1 f2 f3 f4 f5 f6 f7 f8 f9 && (curS7 c f0 f1 f2 f3 f4 f5 f6 f7 f8 f9).2 && !(bitV f5 15 / 2 % 4 == 3)
def S7.In (Z : S7) : Prop := I6 Z.a0 ∧ I6 Z.a1 ∧ I6 Z.a2 ∧ I6 Z.a3 ∧ I6 Z.a4 ∧ I6 Z.a5
theorem selI_in {b : Bool} {x y : Int} (hx : I6 x) (hy : I6 y) : I6 (selI b x y) := by cases b <;> assumption
theorem find_in (wd : Bool) (id : ByteArray) : I6 (findP wd id) := by have := find_range wd id; unfold I6; omega
theorem doS_in {k n : Int} {wd : Bool} {id : ByteArray} {Z : S7} (h : Z.In) : (doS 1 n wd id 0 Z).In := by
 obtain ⟨h0, h1, h2, h3, h4, h5⟩ := h
 rw [doS_des]
 exact ⟨selI_in (find_in _ _) h0, selI_in (find_in _ _) h1, selI_in (find_in _ _) h2, selI_in (find_in _ _) h3, h4, h5⟩
theorem rstS_in {sz : Int} {X : S7} {l : List UInt8} (h : X.In) : ∀ (k : Nat) (p : S7 × Nat), rstS sz X l k = some p → p.1.In
 | 0, p, hp => by simp [rstS] at hp; subst hp; exact h
 | k + 1, p, hp => by
  unfold rstS at hp
  rw [Option.bind_eq_some_iff] at hp
  obtain ⟨q, hq, hp⟩ := hp
  have ih := rstS_in h k q hq
  split at hp
  ·cases hp
  ·split at hp
   ·injection hp with hp; subst hp; exact doS_in (k := 1) ih
   ·cases hp
theorem rstR_in {sz gl gr : Int} {X : S7} {l : List UInt8} (h : X.In) : (rstR sz gl gr X l).1.In := by
 unfold rstR
 split
 ·rename_i hb
  split
  ·rename_i Z a hz
   have := rstS_in h 4 _ hz
   split
   ·obtain ⟨h0, h1, h2, h3, h4, h5⟩ := this
    refine ⟨h0, h1, h2, h3, ?_, ?_⟩
    ·have := hb.1; unfold between at this; simp at this; show I6 gl; unfold I6; omega
    ·have := hb.2.1; unfold between at this; simp at this; show I6 gr; unfold I6; omega
   ·exact h
  ·exact h
 ·exact h
theorem s7_in {c : Cor} (h : c.Ok) : (s7 c.clean).In := ⟨h.g.1, h.g.2.1, h.g.2.2.1, h.g.2.2.2, h.clean.gl, h.clean.gr⟩
theorem ccur_ok {c : Cor} (h : c.Ok) (f0 f1 f2 f3 f4 f5 f6 f7 f8 f9 : List Int) {Z : S7} {sg : Int} (hZ : Z.In) (hs : I6 sg) : (ccur c f0 f1 f2 f3 f4 f5 f6 f7 f8 f9 Z sg).Ok := by
 have k := h.clean
 have a0 := numV_in (l := f0)
 have a1 := numV_in (l := f1)
 have a2 := numV_in (l := f2)
 have a3 := bitV_in f3 (m := 31) (by decide)
 obtain ⟨h0, h1, h2, h3, h4, h5⟩ := hZ
 refine ⟨?_, ?_, ⟨?_, ?_⟩, ⟨h0, h1, h2, h3⟩, h4, h5, hs, k.p, k.m, k.modes, k.level, k.status, ?_, k.pages⟩
 ·show I6 (numV f0 - 1); unfold I6; omega
 ·show I6 (numV f1 - 1); unfold I6; omega
 ·show 0 ≤ bitV f3 31; omega
 ·show bitV f3 31 < 256; omega
 ·show I6 (numV f2 - 1); unfold I6; omega
theorem how_1 (h : Int) (h0 : 0 ≤ h ∧ h ≤ 15) : bits .and .i64 (Int.fdiv h (2 ^ 1)) 3 = h / 2 % 4 ∧ bits .and .i64 h 1 = h % 2 ∧ Int.fdiv h (2 ^ 3) = h / 8 := by
 have H : ∀ k : Fin 16, bits .and .i64 (Int.fdiv (k.val : Int) (2 ^ 1)) 3 = (k.val : Int) / 2 % 4 ∧ bits .and .i64 (k.val : Int) 1 = (k.val : Int) % 2 ∧ Int.fdiv (k.val : Int) (2 ^ 3) = (k.val : Int) / 8 := by decide +kernel
 have := H ⟨h.toNat, by omega⟩
 simpa [Int.toNat_of_nonneg h0.1] using this
theorem how_sg (h : Int) (h0 : 0 ≤ h ∧ h ≤ 15) (h3 : (h / 2 % 4 == 3) = false) (hp : decide (0 < h / 2 % 4) = true) : selI (between 2 3 (h / 2 % 4 + 1)) (h / 2 % 4 + 1) 0 = sgl h := by
 have H : ∀ k : Fin 16, ((k.val : Int) / 2 % 4 == 3) = false → decide (0 < (k.val : Int) / 2 % 4) = true → selI (between 2 3 ((k.val : Int) / 2 % 4 + 1)) ((k.val : Int) / 2 % 4 + 1) 0 = sgl (k.val : Int) := by decide +kernel
 have := H ⟨h.toNat, by omega⟩
 simp only [Int.toNat_of_nonneg h0.1] at this
 exact this h3 hp
abbrev qStU_11 (c : Cor) : Array Value := #[iv c.clean.g0, iv c.clean.g1, iv c.clean.g2, iv c.clean.g3, iv c.clean.gl, iv c.clean.gr, iv c.clean.sg]
theorem rst_cur (c : Cor) (f0 f1 f2 f3 f4 f5 f6 f7 f8 f9 : List Int) (Z : S7 × Bool) (hZ : curS7 c f0 f1 f2 f3 f4 f5 f6 f7 f8 f9 = Z) (hn : f9.length ≤ 1000) (w : World) :
  Calls Tryz.prog 32 #[.agg (qStU_11 c), iv (numV f6), iv (numV f7), .int .u8 (64 + (bitV f8 15)), .string (strOf f9)] w fun e w' => e = .returned (.tuple #[.agg #[iv (Z.1.a0), iv (Z.1.a1), iv (Z.1.a2), iv (Z.1.a3), iv (Z.1.a4), iv (Z.1.a5), iv (Z.1.a6)], .bool (Z.2)]) ∧ Gr w w' := by
 have a8 := bitV_in f8 (m := 15) (by decide)
 have h := rst_any (s7 c.clean) (numV f6) (numV f7) (64 + bitV f8 15) (f9.map fun c => UInt8.ofNat c.toNat) w (by omega) (by simp only [maxLen, List.length_map]; omega)
 unfold curS7 at hZ
 rw [hZ] at h
 exact h
abbrev qStU_0 (c : Cor) (f0 : List Int) (f1 : List Int) (f2 : List Int) (f3 : List Int) (f4 : List Int) (f5 : List Int) (f6 : List Int) (f7 : List Int) (f8 : List Int) (f9 : List Int) (Z : S7 × Bool) : Array Value := #[iv ((ccur c f0 f1 f2 f3 f4 f5 f6 f7 f8 f9 Z.1 (selI (between 2 3 ((bitV f5 15 / 2 % 4) + 1)) ((bitV f5 15 / 2 % 4) + 1) 0)).clean.row), iv ((ccur c f0 f1 f2 f3 f4 f5 f6 f7 f8 f9 Z.1 (selI (between 2 3 ((bitV f5 15 / 2 % 4) + 1)) ((bitV f5 15 / 2 % 4) + 1) 0)).clean.col), .int .u8 ((ccur c f0 f1 f2 f3 f4 f5 f6 f7 f8 f9 Z.1 (selI (between 2 3 ((bitV f5 15 / 2 % 4) + 1)) ((bitV f5 15 / 2 % 4) + 1) 0)).clean.rend), .bool ((ccur c f0 f1 f2 f3 f4 f5 f6 f7 f8 f9 Z.1 (selI (between 2 3 ((bitV f5 15 / 2 % 4) + 1)) ((bitV f5 15 / 2 % 4) + 1) 0)).clean.kept), .bool ((ccur c f0 f1 f2 f3 f4 f5 f6 f7 f8 f9 Z.1 (selI (between 2 3 ((bitV f5 15 / 2 % 4) + 1)) ((bitV f5 15 / 2 % 4) + 1) 0)).clean.wrap), .bool ((ccur c f0 f1 f2 f3 f4 f5 f6 f7 f8 f9 Z.1 (selI (between 2 3 ((bitV f5 15 / 2 % 4) + 1)) ((bitV f5 15 / 2 % 4) + 1) 0)).clean.origin), iv ((ccur c f0 f1 f2 f3 f4 f5 f6 f7 f8 f9 Z.1 (selI (between 2 3 ((bitV f5 15 / 2 % 4) + 1)) ((bitV f5 15 / 2 % 4) + 1) 0)).clean.g0), iv ((ccur c f0 f1 f2 f3 f4 f5 f6 f7 f8 f9 Z.1 (selI (between 2 3 ((bitV f5 15 / 2 % 4) + 1)) ((bitV f5 15 / 2 % 4) + 1) 0)).clean.g1), iv ((ccur c f0 f1 f2 f3 f4 f5 f6 f7 f8 f9 Z.1 (selI (between 2 3 ((bitV f5 15 / 2 % 4) + 1)) ((bitV f5 15 / 2 % 4) + 1) 0)).clean.g2), iv ((ccur c f0 f1 f2 f3 f4 f5 f6 f7 f8 f9 Z.1 (selI (between 2 3 ((bitV f5 15 / 2 % 4) + 1)) ((bitV f5 15 / 2 % 4) + 1) 0)).clean.g3), iv ((ccur c f0 f1 f2 f3 f4 f5 f6 f7 f8 f9 Z.1 (selI (between 2 3 ((bitV f5 15 / 2 % 4) + 1)) ((bitV f5 15 / 2 % 4) + 1) 0)).clean.gl), iv ((ccur c f0 f1 f2 f3 f4 f5 f6 f7 f8 f9 Z.1 (selI (between 2 3 ((bitV f5 15 / 2 % 4) + 1)) ((bitV f5 15 / 2 % 4) + 1) 0)).clean.gr), iv ((ccur c f0 f1 f2 f3 f4 f5 f6 f7 f8 f9 Z.1 (selI (between 2 3 ((bitV f5 15 / 2 % 4) + 1)) ((bitV f5 15 / 2 % 4) + 1) 0)).clean.sg), iv ((ccur c f0 f1 f2 f3 f4 f5 f6 f7 f8 f9 Z.1 (selI (between 2 3 ((bitV f5 15 / 2 % 4) + 1)) ((bitV f5 15 / 2 % 4) + 1) 0)).clean.pt), iv ((ccur c f0 f1 f2 f3 f4 f5 f6 f7 f8 f9 Z.1 (selI (between 2 3 ((bitV f5 15 / 2 % 4) + 1)) ((bitV f5 15 / 2 % 4) + 1) 0)).clean.pl), iv ((ccur c f0 f1 f2 f3 f4 f5 f6 f7 f8 f9 Z.1 (selI (between 2 3 ((bitV f5 15 / 2 % 4) + 1)) ((bitV f5 15 / 2 % 4) + 1) 0)).clean.pb), iv ((ccur c f0 f1 f2 f3 f4 f5 f6 f7 f8 f9 Z.1 (selI (between 2 3 ((bitV f5 15 / 2 % 4) + 1)) ((bitV f5 15 / 2 % 4) + 1) 0)).clean.pr), iv ((ccur c f0 f1 f2 f3 f4 f5 f6 f7 f8 f9 Z.1 (selI (between 2 3 ((bitV f5 15 / 2 % 4) + 1)) ((bitV f5 15 / 2 % 4) + 1) 0)).clean.mt), iv ((ccur c f0 f1 f2 f3 f4 f5 f6 f7 f8 f9 Z.1 (selI (between 2 3 ((bitV f5 15 / 2 % 4) + 1)) ((bitV f5 15 / 2 % 4) + 1) 0)).clean.ml), iv ((ccur c f0 f1 f2 f3 f4 f5 f6 f7 f8 f9 Z.1 (selI (between 2 3 ((bitV f5 15 / 2 % 4) + 1)) ((bitV f5 15 / 2 % 4) + 1) 0)).clean.mb), iv ((ccur c f0 f1 f2 f3 f4 f5 f6 f7 f8 f9 Z.1 (selI (between 2 3 ((bitV f5 15 / 2 % 4) + 1)) ((bitV f5 15 / 2 % 4) + 1) 0)).clean.mr), .int .u32 ((ccur c f0 f1 f2 f3 f4 f5 f6 f7 f8 f9 Z.1 (selI (between 2 3 ((bitV f5 15 / 2 % 4) + 1)) ((bitV f5 15 / 2 % 4) + 1) 0)).clean.modes), iv ((ccur c f0 f1 f2 f3 f4 f5 f6 f7 f8 f9 Z.1 (selI (between 2 3 ((bitV f5 15 / 2 % 4) + 1)) ((bitV f5 15 / 2 % 4) + 1) 0)).clean.level), .bool ((ccur c f0 f1 f2 f3 f4 f5 f6 f7 f8 f9 Z.1 (selI (between 2 3 ((bitV f5 15 / 2 % 4) + 1)) ((bitV f5 15 / 2 % 4) + 1) 0)).clean.eight), .bool ((ccur c f0 f1 f2 f3 f4 f5 f6 f7 f8 f9 Z.1 (selI (between 2 3 ((bitV f5 15 / 2 % 4) + 1)) ((bitV f5 15 / 2 % 4) + 1) 0)).clean.stream), iv ((ccur c f0 f1 f2 f3 f4 f5 f6 f7 f8 f9 Z.1 (selI (between 2 3 ((bitV f5 15 / 2 % 4) + 1)) ((bitV f5 15 / 2 % 4) + 1) 0)).clean.status), .bool ((ccur c f0 f1 f2 f3 f4 f5 f6 f7 f8 f9 Z.1 (selI (between 2 3 ((bitV f5 15 / 2 % 4) + 1)) ((bitV f5 15 / 2 % 4) + 1) 0)).clean.below), iv ((ccur c f0 f1 f2 f3 f4 f5 f6 f7 f8 f9 Z.1 (selI (between 2 3 ((bitV f5 15 / 2 % 4) + 1)) ((bitV f5 15 / 2 % 4) + 1) 0)).clean.page), iv ((ccur c f0 f1 f2 f3 f4 f5 f6 f7 f8 f9 Z.1 (selI (between 2 3 ((bitV f5 15 / 2 % 4) + 1)) ((bitV f5 15 / 2 % 4) + 1) 0)).clean.pages)]
abbrev qStU_2 (f0 : List Int) (f1 : List Int) (f3 : List Int) (f4 : List Int) (c : Cor) (f2 : List Int) : Array Value := #[iv ((numV f0) - 1), iv ((numV f1) - 1), .int .u8 (bitV f3 31), .bool ((bitV f4 1) == 1), .bool c.clean.wrap, .bool c.clean.origin, iv c.clean.g0, iv c.clean.g1, iv c.clean.g2, iv c.clean.g3, iv c.clean.gl, iv c.clean.gr, iv c.clean.sg, iv c.clean.pt, iv c.clean.pl, iv c.clean.pb, iv c.clean.pr, iv c.clean.mt, iv c.clean.ml, iv c.clean.mb, iv c.clean.mr, .int .u32 c.clean.modes, iv c.clean.level, .bool c.clean.eight, .bool c.clean.stream, iv c.clean.status, .bool c.clean.below, iv ((numV f2) - 1), iv c.clean.pages]
abbrev qStU_3 (c : Cor) (f0 : List Int) (f1 : List Int) (f2 : List Int) (f3 : List Int) (f4 : List Int) (f5 : List Int) (f6 : List Int) (f7 : List Int) (f8 : List Int) (f9 : List Int) (Z : S7 × Bool) : Array Value := #[iv ((ccur c f0 f1 f2 f3 f4 f5 f6 f7 f8 f9 Z.1 0).clean.row), iv ((ccur c f0 f1 f2 f3 f4 f5 f6 f7 f8 f9 Z.1 0).clean.col), .int .u8 ((ccur c f0 f1 f2 f3 f4 f5 f6 f7 f8 f9 Z.1 0).clean.rend), .bool ((ccur c f0 f1 f2 f3 f4 f5 f6 f7 f8 f9 Z.1 0).clean.kept), .bool ((ccur c f0 f1 f2 f3 f4 f5 f6 f7 f8 f9 Z.1 0).clean.wrap), .bool ((ccur c f0 f1 f2 f3 f4 f5 f6 f7 f8 f9 Z.1 0).clean.origin), iv ((ccur c f0 f1 f2 f3 f4 f5 f6 f7 f8 f9 Z.1 0).clean.g0), iv ((ccur c f0 f1 f2 f3 f4 f5 f6 f7 f8 f9 Z.1 0).clean.g1), iv ((ccur c f0 f1 f2 f3 f4 f5 f6 f7 f8 f9 Z.1 0).clean.g2), iv ((ccur c f0 f1 f2 f3 f4 f5 f6 f7 f8 f9 Z.1 0).clean.g3), iv ((ccur c f0 f1 f2 f3 f4 f5 f6 f7 f8 f9 Z.1 0).clean.gl), iv ((ccur c f0 f1 f2 f3 f4 f5 f6 f7 f8 f9 Z.1 0).clean.gr), iv ((ccur c f0 f1 f2 f3 f4 f5 f6 f7 f8 f9 Z.1 0).clean.sg), iv ((ccur c f0 f1 f2 f3 f4 f5 f6 f7 f8 f9 Z.1 0).clean.pt), iv ((ccur c f0 f1 f2 f3 f4 f5 f6 f7 f8 f9 Z.1 0).clean.pl), iv ((ccur c f0 f1 f2 f3 f4 f5 f6 f7 f8 f9 Z.1 0).clean.pb), iv ((ccur c f0 f1 f2 f3 f4 f5 f6 f7 f8 f9 Z.1 0).clean.pr), iv ((ccur c f0 f1 f2 f3 f4 f5 f6 f7 f8 f9 Z.1 0).clean.mt), iv ((ccur c f0 f1 f2 f3 f4 f5 f6 f7 f8 f9 Z.1 0).clean.ml), iv ((ccur c f0 f1 f2 f3 f4 f5 f6 f7 f8 f9 Z.1 0).clean.mb), iv ((ccur c f0 f1 f2 f3 f4 f5 f6 f7 f8 f9 Z.1 0).clean.mr), .int .u32 ((ccur c f0 f1 f2 f3 f4 f5 f6 f7 f8 f9 Z.1 0).clean.modes), iv ((ccur c f0 f1 f2 f3 f4 f5 f6 f7 f8 f9 Z.1 0).clean.level), .bool ((ccur c f0 f1 f2 f3 f4 f5 f6 f7 f8 f9 Z.1 0).clean.eight), .bool ((ccur c f0 f1 f2 f3 f4 f5 f6 f7 f8 f9 Z.1 0).clean.stream), iv ((ccur c f0 f1 f2 f3 f4 f5 f6 f7 f8 f9 Z.1 0).clean.status), .bool ((ccur c f0 f1 f2 f3 f4 f5 f6 f7 f8 f9 Z.1 0).clean.below), iv ((ccur c f0 f1 f2 f3 f4 f5 f6 f7 f8 f9 Z.1 0).clean.page), iv ((ccur c f0 f1 f2 f3 f4 f5 f6 f7 f8 f9 Z.1 0).clean.pages)]
abbrev qStU_4 (Z : S7 × Bool) : Array Value := #[iv Z.1.a0, iv Z.1.a1, iv Z.1.a2, iv Z.1.a3, iv Z.1.a4, iv Z.1.a5, iv Z.1.a6]
abbrev qStU_5 (f5 : List Int) : Int := (selI (between 2 3 ((bitV f5 15 / 2 % 4) + 1)) ((bitV f5 15 / 2 % 4) + 1) 0)
abbrev qStU_8 (f0 : List Int) (f1 : List Int) (f3 : List Int) (f4 : List Int) (f5 : List Int) (Z : S7 × Bool) (c : Cor) (f2 : List Int) : Array Value := #[iv ((numV f0) - 1), iv ((numV f1) - 1), .int .u8 (bitV f3 31), .bool ((bitV f4 1) == 1), .bool ((bitV f5 15 / 8) == 1), .bool ((bitV f5 15 % 2) == 1), iv Z.1.a0, iv Z.1.a1, iv Z.1.a2, iv Z.1.a3, iv Z.1.a4, iv Z.1.a5, iv 0, iv c.clean.pt, iv c.clean.pl, iv c.clean.pb, iv c.clean.pr, iv c.clean.mt, iv c.clean.ml, iv c.clean.mb, iv c.clean.mr, .int .u32 c.clean.modes, iv c.clean.level, .bool c.clean.eight, .bool c.clean.stream, iv c.clean.status, .bool c.clean.below, iv ((numV f2) - 1), iv c.clean.pages]
abbrev qStU_9 (f0 : List Int) (f1 : List Int) (c : Cor) (f2 : List Int) : Array Value := #[iv ((numV f0) - 1), iv ((numV f1) - 1), .int .u8 c.clean.rend, .bool c.clean.kept, .bool c.clean.wrap, .bool c.clean.origin, iv c.clean.g0, iv c.clean.g1, iv c.clean.g2, iv c.clean.g3, iv c.clean.gl, iv c.clean.gr, iv c.clean.sg, iv c.clean.pt, iv c.clean.pl, iv c.clean.pb, iv c.clean.pr, iv c.clean.mt, iv c.clean.ml, iv c.clean.mb, iv c.clean.mr, .int .u32 c.clean.modes, iv c.clean.level, .bool c.clean.eight, .bool c.clean.stream, iv c.clean.status, .bool c.clean.below, iv ((numV f2) - 1), iv c.clean.pages]
abbrev qStU_10 (f0 : List Int) (f1 : List Int) (f3 : List Int) (c : Cor) (f2 : List Int) : Array Value := #[iv ((numV f0) - 1), iv ((numV f1) - 1), .int .u8 (bitV f3 31), .bool c.clean.kept, .bool c.clean.wrap, .bool c.clean.origin, iv c.clean.g0, iv c.clean.g1, iv c.clean.g2, iv c.clean.g3, iv c.clean.gl, iv c.clean.gr, iv c.clean.sg, iv c.clean.pt, iv c.clean.pl, iv c.clean.pb, iv c.clean.pr, iv c.clean.mt, iv c.clean.ml, iv c.clean.mb, iv c.clean.mr, .int .u32 c.clean.modes, iv c.clean.level, .bool c.clean.eight, .bool c.clean.stream, iv c.clean.status, .bool c.clean.below, iv ((numV f2) - 1), iv c.clean.pages]
set_option maxRecDepth 100000 in
set_option maxHeartbeats 8000000 in
theorem setc_z (c : Cor) (l : List Int) (f0 f1 f2 f3 f4 f5 f6 f7 f8 f9 : List Int) (Z : S7 × Bool) (hZ : curS7 c f0 f1 f2 f3 f4 f5 f6 f7 f8 f9 = Z) (w : World) (hok : c.Ok) (hM : MaxOkS w) (hl : ∀ c ∈ l, 0 ≤ c ∧ c < 256) (hn : l.length ≤ 1000) (hx : splitSemi l = [f0, f1, f2, f3, f4, f5, f6, f7, f8, f9]) (hf0 : ∀ c ∈ f0, 0 ≤ c ∧ c < 256) (hf1 : ∀ c ∈ f1, 0 ≤ c ∧ c < 256) (hf2 : ∀ c ∈ f2, 0 ≤ c ∧ c < 256) (hf3 : ∀ c ∈ f3, 0 ≤ c ∧ c < 256) (hf4 : ∀ c ∈ f4, 0 ≤ c ∧ c < 256) (hf5 : ∀ c ∈ f5, 0 ≤ c ∧ c < 256) (hf6 : ∀ c ∈ f6, 0 ≤ c ∧ c < 256) (hf7 : ∀ c ∈ f7, 0 ≤ c ∧ c < 256) (hf8 : ∀ c ∈ f8, 0 ≤ c ∧ c < 256) (hf9 : ∀ c ∈ f9, 0 ≤ c ∧ c < 256) (nf0 : f0.length ≤ 1000) (nf1 : f1.length ≤ 1000) (nf2 : f2.length ≤ 1000) (nf3 : f3.length ≤ 1000) (nf4 : f4.length ≤ 1000) (nf5 : f5.length ≤ 1000) (nf6 : f6.length ≤ 1000) (nf7 : f7.length ≤ 1000) (nf8 : f8.length ≤ 1000) (nf9 : f9.length ≤ 1000) :
  Calls Tryz.prog 10 #[.agg (cvA c), .string (strOf l)] w fun e w' => e = .returned (.tuple #[.agg (bif okCur c f0 f1 f2 f3 f4 f5 f6 f7 f8 f9 then cvA (ccur c f0 f1 f2 f3 f4 f5 f6 f7 f8 f9 Z.1 (sgl (bitV f5 15))).clean else cvA c.clean), iv (bif okCur c f0 f1 f2 f3 f4 f5 f6 f7 f8 f9 then 0 else 3)]) ∧ Gr w w' := by
 have hcm := hok.clean.modes
 have a0 := numV_in (l := f0)
 have a1 := numV_in (l := f1)
 have a2 := numV_in (l := f2)
 have a6 := numV_in (l := f6)
 have a7 := numV_in (l := f7)
 have a3 := bitV_in f3 (m := 31) (by decide)
 have a4 := bitV_in f4 (m := 1) (by decide)
 have a5 := bitV_in f5 (m := 15) (by decide)
 have a8 := bitV_in f8 (m := 15) (by decide)
 have hh : 0 ≤ bitV f5 15 ∧ bitV f5 15 ≤ 15 := a5
 have hsgl : ∀ x : Int, (0 ≤ x ∧ x ≤ 100) → I6 x := fun x h => by unfold I6; omega
 refine calls_sx (n := 126) (args := [.agg (cvA c), .string (strOf l)]) Tryz.func10 rfl rfl rfl ?_
 have hs0 := SH.none w
 refine CW.seq ?_
 refine CW.region ?_
 refine SL.newH (mk := fun g => pv g 0) (C := (cvA c)) (T := 45) hs0 rfl rfl (by kernel_rfl) (fun g_1 w_2 hs_3 => ?_)
 have hs_3 : SH [] w w_2 [pt g_1 (cvA c) 45] := hs_3
 refine SL.newH (mk := fun g => pv g 0) (C := czA) (T := 45) hs_3 rfl rfl (by kernel_rfl) (fun g_4 w_5 hs_6 => ?_)
 have hs_6 : SH [] w w_5 [pt g_1 (cvA c) 45, pt g_4 czA 45] := hs_6
 refine SL.v (iv 0) ?_
 refine SL.nil ?_
 refine CW.seq ?_
 refine CW.region ?_
 refine SL.load (g := g_1) (off := 0) (v := .agg (cvA c)) rfl rfl rfl (by kernel_rfl) (hs_6.pt_at (i := 0) rfl) (by kernel_rfl) ?_
 refine SL.call (f := 20) (args := #[.agg (cvA c)]) (w1 := w_5) rfl rfl (by kernel_rfl) (clean_any c w_5 hok) ?_
 rintro x w_7 ⟨rfl, hc_8⟩
 refine ⟨_, rfl, ?_⟩
 have hs_9 := hs_6.grow hc_8
 refine SL.storeH (i := 0) (g := g_1) (off := 0) (v := .agg (cvA c.clean)) (L' := [pt g_1 (cvA c.clean) 45, pt g_4 czA 45]) hs_9 rfl rfl rfl (by kernel_rfl) (by kernel_rfl) rfl (by kernel_rfl) (by kernel_rfl) rfl (by kernel_rfl) rfl (fun w_10 hs_11 => ?_)
 refine SL.nil ?_
 refine CW.seq ?_
 refine CW.region ?_
 refine SL.v (.string (strOf l)) ?_
 refine SL.callH (f := 28) (args := #[.string (strOf l), .string ⟨#[59]⟩]) (Pre := []) (Rest := [pt g_1 (cvA c.clean) 45, pt g_4 czA 45]) [] hs_11 rfl rfl (by kernel_rfl) rfl (split_10 l f0 f1 f2 f3 f4 f5 f6 f7 f8 f9 w_10 hl (by omega) (hM.gr hs_11.gr) hx) ?_
 rintro v_ Q_ w_13 ⟨g_12, rfl, rfl⟩ hs_15
 have hs_15 : SH [] w w_13 [pt g_12 (qStU_1 f0 f1 f2 f3 f4 f5 f6 f7 f8 f9) 9, pt g_1 (cvA c.clean) 45, pt g_4 czA 45] := hs_15
 refine SL.v (.agg #[sv g_12 0 10 10, .bool false]) ?_
 refine SL.newH (mk := fun g => pv g 0) (C := #[.slice none 0 0, .bool false]) (T := 78) hs_15 rfl rfl (by kernel_rfl) (fun g_16 w_17 hs_18 => ?_)
 have hs_18 : SH [] w w_17 [pt g_12 (qStU_1 f0 f1 f2 f3 f4 f5 f6 f7 f8 f9) 9, pt g_1 (cvA c.clean) 45, pt g_4 czA 45, pt g_16 #[.slice none 0 0, .bool false] 78] := hs_18
 refine SL.storeH (i := 3) (g := g_16) (off := 0) (v := .agg #[sv g_12 0 10 10, .bool false]) (L' := [pt g_12 (qStU_1 f0 f1 f2 f3 f4 f5 f6 f7 f8 f9) 9, pt g_1 (cvA c.clean) 45, pt g_4 czA 45, pt g_16 #[sv g_12 0 10 10, .bool false] 78]) hs_18 rfl rfl rfl (by kernel_rfl) (by kernel_rfl) rfl (by kernel_rfl) (by kernel_rfl) rfl (by kernel_rfl) rfl (fun w_19 hs_20 => ?_)
 refine SL.nil ?_
 refine CW.seq ?_
 refine CW.seq ?_
 refine CW.region ?_
 refine SL.v (pv g_16 0) ?_
 refine SL.load (g := g_16) (off := 0) (v := sv g_12 0 10 10) rfl rfl rfl (by kernel_rfl) (hs_20.pt_at (i := 3) rfl) (by kernel_rfl) ?_
 refine SL.val (v := iv 10) (w' := w_19) rfl rfl (by kernel_rfl) ?_
 refine SL.v (.bool false) ?_
 refine SL.nil ?_
 refine CW.cond_false (by kernel_rfl) ?_
 refine CW.skip ?_
 refine CW.seq ?_
 refine CW.region ?_
 refine SL.load (g := g_1) (off := 0) (v := .agg (cvA c.clean)) rfl rfl rfl (by kernel_rfl) (hs_20.pt_at (i := 1) rfl) (by kernel_rfl) ?_
 refine SL.newH (mk := fun g => pv g 0) (C := czA) (T := 45) hs_20 rfl rfl (by kernel_rfl) (fun g_21 w_22 hs_23 => ?_)
 have hs_23 : SH [] w w_22 [pt g_12 (qStU_1 f0 f1 f2 f3 f4 f5 f6 f7 f8 f9) 9, pt g_1 (cvA c.clean) 45, pt g_4 czA 45, pt g_16 #[sv g_12 0 10 10, .bool false] 78, pt g_21 czA 45] := hs_23
 refine SL.storeH (i := 4) (g := g_21) (off := 0) (v := .agg (cvA c.clean)) (L' := [pt g_12 (qStU_1 f0 f1 f2 f3 f4 f5 f6 f7 f8 f9) 9, pt g_1 (cvA c.clean) 45, pt g_4 czA 45, pt g_16 #[sv g_12 0 10 10, .bool false] 78, pt g_21 (cvA c.clean) 45]) hs_23 rfl rfl rfl (by kernel_rfl) (by kernel_rfl) rfl (by kernel_rfl) (by kernel_rfl) rfl (by kernel_rfl) rfl (fun w_24 hs_25 => ?_)
 refine SL.nil ?_
 refine CW.seq ?_
 refine CW.region ?_
 refine SL.v (pv g_21 0) ?_
 refine SL.v (pv g_21 0) ?_
 refine SL.nil ?_
 refine CW.seq ?_
 refine CW.region ?_
 refine SL.v (pv g_21 0) ?_
 refine SL.v (pv g_21 0) ?_
 refine SL.callH (f := 29) (args := #[pv g_16 0, .func (.func 30) #[] #[]]) (Pre := [pt g_16 #[sv g_12 0 10 10, .bool false] 78, pt g_12 (qStU_1 f0 f1 f2 f3 f4 f5 f6 f7 f8 f9) 9]) (Rest := [pt g_1 (cvA c.clean) 45, pt g_4 czA 45, pt g_21 (cvA c.clean) 45]) [3, 0] hs_25 rfl rfl (by kernel_rfl) rfl (next_num g_16 g_12 0 10 10 (qStU_1 f0 f1 f2 f3 f4 f5 f6 f7 f8 f9) f0 false w_24 hf0 (by omega) rfl (by decide)) ?_
 rintro v_ Q_ w_26 ⟨rfl, rfl⟩ hs_28
 have hs_28 : SH [] w w_26 [pt g_16 #[sv g_12 1 9 9, .bool (false || !(numK f0))] 78, pt g_12 (qStU_1 f0 f1 f2 f3 f4 f5 f6 f7 f8 f9) 9, pt g_1 (cvA c.clean) 45, pt g_4 czA 45, pt g_21 (cvA c.clean) 45] := hs_28
 refine SL.val (v := iv ((numV f0) - 1)) (w' := w_26) rfl rfl (by have hw : IntKind.i64.wrap ((numV f0) - 1) = (numV f0) - 1 := IntWalk.i64_in _ (by omega); exact run_eqv (by kernel_rfl) (congrArg (fun z => Value.int .i64 z) hw)) ?_
 refine SL.callH (f := 29) (args := #[pv g_16 0, .func (.func 30) #[] #[]]) (Pre := [pt g_16 #[sv g_12 1 9 9, .bool (false || !(numK f0))] 78, pt g_12 (qStU_1 f0 f1 f2 f3 f4 f5 f6 f7 f8 f9) 9]) (Rest := [pt g_1 (cvA c.clean) 45, pt g_4 czA 45, pt g_21 (cvA c.clean) 45]) [0, 0] hs_28 rfl rfl (by kernel_rfl) rfl (next_num g_16 g_12 1 9 9 (qStU_1 f0 f1 f2 f3 f4 f5 f6 f7 f8 f9) f1 (false || !(numK f0)) w_26 hf1 (by omega) rfl (by decide)) ?_
 rintro v_ Q_ w_29 ⟨rfl, rfl⟩ hs_31
 have hs_31 : SH [] w w_29 [pt g_16 #[sv g_12 2 8 8, .bool ((false || !(numK f0)) || !(numK f1))] 78, pt g_12 (qStU_1 f0 f1 f2 f3 f4 f5 f6 f7 f8 f9) 9, pt g_1 (cvA c.clean) 45, pt g_4 czA 45, pt g_21 (cvA c.clean) 45] := hs_31
 refine SL.val (v := iv ((numV f1) - 1)) (w' := w_29) rfl rfl (by have hw : IntKind.i64.wrap ((numV f1) - 1) = (numV f1) - 1 := IntWalk.i64_in _ (by omega); exact run_eqv (by kernel_rfl) (congrArg (fun z => Value.int .i64 z) hw)) ?_
 refine SL.callH (f := 29) (args := #[pv g_16 0, .func (.func 30) #[] #[]]) (Pre := [pt g_16 #[sv g_12 2 8 8, .bool ((false || !(numK f0)) || !(numK f1))] 78, pt g_12 (qStU_1 f0 f1 f2 f3 f4 f5 f6 f7 f8 f9) 9]) (Rest := [pt g_1 (cvA c.clean) 45, pt g_4 czA 45, pt g_21 (cvA c.clean) 45]) [0, 0] hs_31 rfl rfl (by kernel_rfl) rfl (next_num g_16 g_12 2 8 8 (qStU_1 f0 f1 f2 f3 f4 f5 f6 f7 f8 f9) f2 ((false || !(numK f0)) || !(numK f1)) w_29 hf2 (by omega) rfl (by decide)) ?_
 rintro v_ Q_ w_32 ⟨rfl, rfl⟩ hs_34
 have hs_34 : SH [] w w_32 [pt g_16 #[sv g_12 3 7 7, .bool (((false || !(numK f0)) || !(numK f1)) || !(numK f2))] 78, pt g_12 (qStU_1 f0 f1 f2 f3 f4 f5 f6 f7 f8 f9) 9, pt g_1 (cvA c.clean) 45, pt g_4 czA 45, pt g_21 (cvA c.clean) 45] := hs_34
 refine SL.val (v := iv ((numV f2) - 1)) (w' := w_32) rfl rfl (by have hw : IntKind.i64.wrap ((numV f2) - 1) = (numV f2) - 1 := IntWalk.i64_in _ (by omega); exact run_eqv (by kernel_rfl) (congrArg (fun z => Value.int .i64 z) hw)) ?_
 refine SL.v (pv g_21 0) ?_
 refine SL.v (pv g_21 0) ?_
 refine SL.v (pv g_21 0) ?_
 refine SL.storeH (i := 4) (g := g_21) (off := 0) (v := iv ((numV f0) - 1)) (L' := [pt g_16 #[sv g_12 3 7 7, .bool (((false || !(numK f0)) || !(numK f1)) || !(numK f2))] 78, pt g_12 (qStU_1 f0 f1 f2 f3 f4 f5 f6 f7 f8 f9) 9, pt g_1 (cvA c.clean) 45, pt g_4 czA 45, pt g_21 #[iv ((numV f0) - 1), iv c.clean.col, .int .u8 c.clean.rend, .bool c.clean.kept, .bool c.clean.wrap, .bool c.clean.origin, iv c.clean.g0, iv c.clean.g1, iv c.clean.g2, iv c.clean.g3, iv c.clean.gl, iv c.clean.gr, iv c.clean.sg, iv c.clean.pt, iv c.clean.pl, iv c.clean.pb, iv c.clean.pr, iv c.clean.mt, iv c.clean.ml, iv c.clean.mb, iv c.clean.mr, .int .u32 c.clean.modes, iv c.clean.level, .bool c.clean.eight, .bool c.clean.stream, iv c.clean.status, .bool c.clean.below, iv c.clean.page, iv c.clean.pages] 45]) hs_34 rfl rfl rfl (by kernel_rfl) (by kernel_rfl) rfl (by kernel_rfl) (by kernel_rfl) rfl (by kernel_rfl) rfl (fun w_35 hs_36 => ?_)
 refine SL.v (pv g_21 0) ?_
 refine SL.v (pv g_21 0) ?_
 refine SL.v (pv g_21 1) ?_
 refine SL.storeH (i := 4) (g := g_21) (off := 1) (v := iv ((numV f1) - 1)) (L' := [pt g_16 #[sv g_12 3 7 7, .bool (((false || !(numK f0)) || !(numK f1)) || !(numK f2))] 78, pt g_12 (qStU_1 f0 f1 f2 f3 f4 f5 f6 f7 f8 f9) 9, pt g_1 (cvA c.clean) 45, pt g_4 czA 45, pt g_21 #[iv ((numV f0) - 1), iv ((numV f1) - 1), .int .u8 c.clean.rend, .bool c.clean.kept, .bool c.clean.wrap, .bool c.clean.origin, iv c.clean.g0, iv c.clean.g1, iv c.clean.g2, iv c.clean.g3, iv c.clean.gl, iv c.clean.gr, iv c.clean.sg, iv c.clean.pt, iv c.clean.pl, iv c.clean.pb, iv c.clean.pr, iv c.clean.mt, iv c.clean.ml, iv c.clean.mb, iv c.clean.mr, .int .u32 c.clean.modes, iv c.clean.level, .bool c.clean.eight, .bool c.clean.stream, iv c.clean.status, .bool c.clean.below, iv c.clean.page, iv c.clean.pages] 45]) hs_36 rfl rfl rfl (by kernel_rfl) (by kernel_rfl) rfl (by kernel_rfl) (by kernel_rfl) rfl (by kernel_rfl) rfl (fun w_37 hs_38 => ?_)
 refine SL.v (pv g_21 27) ?_
 refine SL.storeH (i := 4) (g := g_21) (off := 27) (v := iv ((numV f2) - 1)) (L' := [pt g_16 #[sv g_12 3 7 7, .bool (((false || !(numK f0)) || !(numK f1)) || !(numK f2))] 78, pt g_12 (qStU_1 f0 f1 f2 f3 f4 f5 f6 f7 f8 f9) 9, pt g_1 (cvA c.clean) 45, pt g_4 czA 45, pt g_21 (qStU_9 f0 f1 c f2) 45]) hs_38 rfl rfl rfl (by kernel_rfl) (by kernel_rfl) rfl (by kernel_rfl) (by kernel_rfl) rfl (by kernel_rfl) rfl (fun w_39 hs_40 => ?_)
 refine SL.nil ?_
 refine CW.seq ?_
 refine CW.region ?_
 refine SL.v (pv g_21 0) ?_
 refine SL.v (.func (.func 31) #[iv 31] #[]) ?_
 refine SL.callH (f := 29) (args := #[pv g_16 0, .func (.func 31) #[iv 31] #[]]) (Pre := [pt g_16 #[sv g_12 3 7 7, .bool (((false || !(numK f0)) || !(numK f1)) || !(numK f2))] 78, pt g_12 (qStU_1 f0 f1 f2 f3 f4 f5 f6 f7 f8 f9) 9]) (Rest := [pt g_1 (cvA c.clean) 45, pt g_4 czA 45, pt g_21 (qStU_9 f0 f1 c f2) 45]) [0, 0] hs_40 rfl rfl (by kernel_rfl) rfl (next_bit g_16 g_12 3 7 7 (qStU_1 f0 f1 f2 f3 f4 f5 f6 f7 f8 f9) f3 (((false || !(numK f0)) || !(numK f1)) || !(numK f2)) w_39 hf3 (by omega) rfl (by decide) 31 (by decide)) ?_
 rintro v_ Q_ w_41 ⟨rfl, rfl⟩ hs_43
 have hs_43 : SH [] w w_41 [pt g_16 #[sv g_12 4 6 6, .bool ((((false || !(numK f0)) || !(numK f1)) || !(numK f2)) || !(bitK f3 31))] 78, pt g_12 (qStU_1 f0 f1 f2 f3 f4 f5 f6 f7 f8 f9) 9, pt g_1 (cvA c.clean) 45, pt g_4 czA 45, pt g_21 (qStU_9 f0 f1 c f2) 45] := hs_43
 refine SL.val (v := .int .u8 (bitV f3 31)) (w' := w_41) rfl rfl (by have hw : IntKind.u8.wrap (bitV f3 31) = bitV f3 31 := wrap_u8 (by omega) (by omega); exact run_eqv (by kernel_rfl) (congrArg (fun z => Value.int .u8 z) hw)) ?_
 refine SL.v (pv g_21 0) ?_
 refine SL.v (pv g_21 2) ?_
 refine SL.storeH (i := 4) (g := g_21) (off := 2) (v := .int .u8 (bitV f3 31)) (L' := [pt g_16 #[sv g_12 4 6 6, .bool ((((false || !(numK f0)) || !(numK f1)) || !(numK f2)) || !(bitK f3 31))] 78, pt g_12 (qStU_1 f0 f1 f2 f3 f4 f5 f6 f7 f8 f9) 9, pt g_1 (cvA c.clean) 45, pt g_4 czA 45, pt g_21 (qStU_10 f0 f1 f3 c f2) 45]) hs_43 rfl rfl rfl (by kernel_rfl) (by kernel_rfl) rfl (by kernel_rfl) (by kernel_rfl) rfl (by kernel_rfl) rfl (fun w_44 hs_45 => ?_)
 refine SL.nil ?_
 refine CW.seq ?_
 refine CW.region ?_
 refine SL.v (pv g_21 0) ?_
 refine SL.v (.func (.func 31) #[iv 1] #[]) ?_
 refine SL.callH (f := 29) (args := #[pv g_16 0, .func (.func 31) #[iv 1] #[]]) (Pre := [pt g_16 #[sv g_12 4 6 6, .bool ((((false || !(numK f0)) || !(numK f1)) || !(numK f2)) || !(bitK f3 31))] 78, pt g_12 (qStU_1 f0 f1 f2 f3 f4 f5 f6 f7 f8 f9) 9]) (Rest := [pt g_1 (cvA c.clean) 45, pt g_4 czA 45, pt g_21 (qStU_10 f0 f1 f3 c f2) 45]) [0, 0] hs_45 rfl rfl (by kernel_rfl) rfl (next_bit g_16 g_12 4 6 6 (qStU_1 f0 f1 f2 f3 f4 f5 f6 f7 f8 f9) f4 ((((false || !(numK f0)) || !(numK f1)) || !(numK f2)) || !(bitK f3 31)) w_44 hf4 (by omega) rfl (by decide) 1 (by decide)) ?_
 rintro v_ Q_ w_46 ⟨rfl, rfl⟩ hs_48
 have hs_48 : SH [] w w_46 [pt g_16 #[sv g_12 5 5 5, .bool (((((false || !(numK f0)) || !(numK f1)) || !(numK f2)) || !(bitK f3 31)) || !(bitK f4 1))] 78, pt g_12 (qStU_1 f0 f1 f2 f3 f4 f5 f6 f7 f8 f9) 9, pt g_1 (cvA c.clean) 45, pt g_4 czA 45, pt g_21 (qStU_10 f0 f1 f3 c f2) 45] := hs_48
 refine SL.v (.bool ((bitV f4 1) == 1)) ?_
 refine SL.v (pv g_21 0) ?_
 refine SL.v (pv g_21 3) ?_
 refine SL.storeH (i := 4) (g := g_21) (off := 3) (v := .bool ((bitV f4 1) == 1)) (L' := [pt g_16 #[sv g_12 5 5 5, .bool (((((false || !(numK f0)) || !(numK f1)) || !(numK f2)) || !(bitK f3 31)) || !(bitK f4 1))] 78, pt g_12 (qStU_1 f0 f1 f2 f3 f4 f5 f6 f7 f8 f9) 9, pt g_1 (cvA c.clean) 45, pt g_4 czA 45, pt g_21 (qStU_2 f0 f1 f3 f4 c f2) 45]) hs_48 rfl rfl rfl (by kernel_rfl) (by kernel_rfl) rfl (by kernel_rfl) (by kernel_rfl) rfl (by kernel_rfl) rfl (fun w_49 hs_50 => ?_)
 refine SL.nil ?_
 refine CW.seq ?_
 refine CW.region ?_
 refine SL.v (.func (.func 31) #[iv 15] #[]) ?_
 refine SL.callH (f := 29) (args := #[pv g_16 0, .func (.func 31) #[iv 15] #[]]) (Pre := [pt g_16 #[sv g_12 5 5 5, .bool (((((false || !(numK f0)) || !(numK f1)) || !(numK f2)) || !(bitK f3 31)) || !(bitK f4 1))] 78, pt g_12 (qStU_1 f0 f1 f2 f3 f4 f5 f6 f7 f8 f9) 9]) (Rest := [pt g_1 (cvA c.clean) 45, pt g_4 czA 45, pt g_21 (qStU_2 f0 f1 f3 f4 c f2) 45]) [0, 0] hs_50 rfl rfl (by kernel_rfl) rfl (next_bit g_16 g_12 5 5 5 (qStU_1 f0 f1 f2 f3 f4 f5 f6 f7 f8 f9) f5 (((((false || !(numK f0)) || !(numK f1)) || !(numK f2)) || !(bitK f3 31)) || !(bitK f4 1)) w_49 hf5 (by omega) rfl (by decide) 15 (by decide)) ?_
 rintro v_ Q_ w_51 ⟨rfl, rfl⟩ hs_53
 have hs_53 : SH [] w w_51 [pt g_16 #[sv g_12 6 4 4, .bool ((((((false || !(numK f0)) || !(numK f1)) || !(numK f2)) || !(bitK f3 31)) || !(bitK f4 1)) || !(bitK f5 15))] 78, pt g_12 (qStU_1 f0 f1 f2 f3 f4 f5 f6 f7 f8 f9) 9, pt g_1 (cvA c.clean) 45, pt g_4 czA 45, pt g_21 (qStU_2 f0 f1 f3 f4 c f2) 45] := hs_53
 refine SL.v (iv (bitV f5 15)) ?_
 refine SL.nil ?_
 refine CW.seq ?_
 refine CW.region ?_
 refine SL.callH (f := 29) (args := #[pv g_16 0, .func (.func 30) #[] #[]]) (Pre := [pt g_16 #[sv g_12 6 4 4, .bool ((((((false || !(numK f0)) || !(numK f1)) || !(numK f2)) || !(bitK f3 31)) || !(bitK f4 1)) || !(bitK f5 15))] 78, pt g_12 (qStU_1 f0 f1 f2 f3 f4 f5 f6 f7 f8 f9) 9]) (Rest := [pt g_1 (cvA c.clean) 45, pt g_4 czA 45, pt g_21 (qStU_2 f0 f1 f3 f4 c f2) 45]) [0, 0] hs_53 rfl rfl (by kernel_rfl) rfl (next_num g_16 g_12 6 4 4 (qStU_1 f0 f1 f2 f3 f4 f5 f6 f7 f8 f9) f6 ((((((false || !(numK f0)) || !(numK f1)) || !(numK f2)) || !(bitK f3 31)) || !(bitK f4 1)) || !(bitK f5 15)) w_51 hf6 (by omega) rfl (by decide)) ?_
 rintro v_ Q_ w_54 ⟨rfl, rfl⟩ hs_56
 have hs_56 : SH [] w w_54 [pt g_16 #[sv g_12 7 3 3, .bool (((((((false || !(numK f0)) || !(numK f1)) || !(numK f2)) || !(bitK f3 31)) || !(bitK f4 1)) || !(bitK f5 15)) || !(numK f6))] 78, pt g_12 (qStU_1 f0 f1 f2 f3 f4 f5 f6 f7 f8 f9) 9, pt g_1 (cvA c.clean) 45, pt g_4 czA 45, pt g_21 (qStU_2 f0 f1 f3 f4 c f2) 45] := hs_56
 refine SL.callH (f := 29) (args := #[pv g_16 0, .func (.func 30) #[] #[]]) (Pre := [pt g_16 #[sv g_12 7 3 3, .bool (((((((false || !(numK f0)) || !(numK f1)) || !(numK f2)) || !(bitK f3 31)) || !(bitK f4 1)) || !(bitK f5 15)) || !(numK f6))] 78, pt g_12 (qStU_1 f0 f1 f2 f3 f4 f5 f6 f7 f8 f9) 9]) (Rest := [pt g_1 (cvA c.clean) 45, pt g_4 czA 45, pt g_21 (qStU_2 f0 f1 f3 f4 c f2) 45]) [0, 0] hs_56 rfl rfl (by kernel_rfl) rfl (next_num g_16 g_12 7 3 3 (qStU_1 f0 f1 f2 f3 f4 f5 f6 f7 f8 f9) f7 (((((((false || !(numK f0)) || !(numK f1)) || !(numK f2)) || !(bitK f3 31)) || !(bitK f4 1)) || !(bitK f5 15)) || !(numK f6)) w_54 hf7 (by omega) rfl (by decide)) ?_
 rintro v_ Q_ w_57 ⟨rfl, rfl⟩ hs_59
 have hs_59 : SH [] w w_57 [pt g_16 #[sv g_12 8 2 2, .bool ((((((((false || !(numK f0)) || !(numK f1)) || !(numK f2)) || !(bitK f3 31)) || !(bitK f4 1)) || !(bitK f5 15)) || !(numK f6)) || !(numK f7))] 78, pt g_12 (qStU_1 f0 f1 f2 f3 f4 f5 f6 f7 f8 f9) 9, pt g_1 (cvA c.clean) 45, pt g_4 czA 45, pt g_21 (qStU_2 f0 f1 f3 f4 c f2) 45] := hs_59
 refine SL.v (iv (numV f6)) ?_
 refine SL.v (iv (numV f7)) ?_
 refine SL.nil ?_
 refine CW.seq ?_
 refine CW.region ?_
 refine SL.v (.func (.func 31) #[iv 15] #[]) ?_
 refine SL.callH (f := 29) (args := #[pv g_16 0, .func (.func 31) #[iv 15] #[]]) (Pre := [pt g_16 #[sv g_12 8 2 2, .bool ((((((((false || !(numK f0)) || !(numK f1)) || !(numK f2)) || !(bitK f3 31)) || !(bitK f4 1)) || !(bitK f5 15)) || !(numK f6)) || !(numK f7))] 78, pt g_12 (qStU_1 f0 f1 f2 f3 f4 f5 f6 f7 f8 f9) 9]) (Rest := [pt g_1 (cvA c.clean) 45, pt g_4 czA 45, pt g_21 (qStU_2 f0 f1 f3 f4 c f2) 45]) [0, 0] hs_59 rfl rfl (by kernel_rfl) rfl (next_bit g_16 g_12 8 2 2 (qStU_1 f0 f1 f2 f3 f4 f5 f6 f7 f8 f9) f8 ((((((((false || !(numK f0)) || !(numK f1)) || !(numK f2)) || !(bitK f3 31)) || !(bitK f4 1)) || !(bitK f5 15)) || !(numK f6)) || !(numK f7)) w_57 hf8 (by omega) rfl (by decide) 15 (by decide)) ?_
 rintro v_ Q_ w_60 ⟨rfl, rfl⟩ hs_62
 have hs_62 : SH [] w w_60 [pt g_16 #[sv g_12 9 1 1, .bool (((((((((false || !(numK f0)) || !(numK f1)) || !(numK f2)) || !(bitK f3 31)) || !(bitK f4 1)) || !(bitK f5 15)) || !(numK f6)) || !(numK f7)) || !(bitK f8 15))] 78, pt g_12 (qStU_1 f0 f1 f2 f3 f4 f5 f6 f7 f8 f9) 9, pt g_1 (cvA c.clean) 45, pt g_4 czA 45, pt g_21 (qStU_2 f0 f1 f3 f4 c f2) 45] := hs_62
 refine SL.val (v := iv (64 + (bitV f8 15))) (w' := w_60) rfl rfl (by have hw : IntKind.i64.wrap (64 + (bitV f8 15)) = 64 + (bitV f8 15) := IntWalk.i64_in _ (by omega); exact run_eqv (by kernel_rfl) (congrArg (fun z => Value.int .i64 z) hw)) ?_
 refine SL.v (iv (64 + (bitV f8 15))) ?_
 refine SL.nil ?_
 refine CW.seq ?_
 have KPY : KeepY 17 16 0 [fun ys _ => ys 0 = pv g_21 0, fun ys _ => ys 1 = pv g_21 0, fun ys _ => ys 2 = pv g_21 6, fun ys _ => ys 3 = .agg (qStU_11 c), fun ys _ => ys 4 = iv (numV f6), fun ys _ => ys 5 = iv (numV f7), fun ys _ => ys 6 = iv (64 + (bitV f8 15)), fun ys _ => ys 7 = .int .u8 (64 + (bitV f8 15)), fun ys _ => ys 8 = pv g_16 0, fun ys _ => ys 9 = sv g_12 9 1 1, fun ys _ => ys 10 = pv g_12 9, fun ys _ => ys 11 = .string (strOf f9), fun ys _ => ys 12 = .tuple #[.agg (qStU_4 Z), .bool Z.2], fun ys _ => ys 13 = .tuple #[.agg (qStU_4 Z), .bool Z.2], fun ys _ => ys 14 = .agg (qStU_4 Z), fun ys _ => ys 15 = .bool Z.2, OwnB w_60 16 7 38, PutB w_60 16 (qStU_4 Z) 38] := ⟨fun i_ hne hal ys v W W1 hg hf => (setYne hne).trans hf, ⟨fun i_ hne hal ys v W W1 hg hf => (setYne hne).trans hf, ⟨fun i_ hne hal ys v W W1 hg hf => (setYne hne).trans hf, ⟨fun i_ hne hal ys v W W1 hg hf => (setYne hne).trans hf, ⟨fun i_ hne hal ys v W W1 hg hf => (setYne hne).trans hf, ⟨fun i_ hne hal ys v W W1 hg hf => (setYne hne).trans hf, ⟨fun i_ hne hal ys v W W1 hg hf => (setYne hne).trans hf, ⟨fun i_ hne hal ys v W W1 hg hf => (setYne hne).trans hf, ⟨fun i_ hne hal ys v W W1 hg hf => (setYne hne).trans hf, ⟨fun i_ hne hal ys v W W1 hg hf => (setYne hne).trans hf, ⟨fun i_ hne hal ys v W W1 hg hf => (setYne hne).trans hf, ⟨fun i_ hne hal ys v W W1 hg hf => (setYne hne).trans hf, ⟨fun i_ hne hal ys v W W1 hg hf => (setYne hne).trans hf, ⟨fun i_ hne hal ys v W W1 hg hf => (setYne hne).trans hf, ⟨fun i_ hne hal ys v W W1 hg hf => (setYne hne).trans hf, ⟨fun i_ hne hal ys v W W1 hg hf => (setYne hne).trans hf, ⟨fun i_ hne hal ys v W W1 hg hf => OwnB.keep hf hne hg, ⟨fun i_ hne hal ys v W W1 hg hf => PutB.keep hf (hal rfl).symm hg, trivial⟩⟩⟩⟩⟩⟩⟩⟩⟩⟩⟩⟩⟩⟩⟩⟩⟩⟩
 have KPS : PutY 17 16 w_60 (qStU_4 Z) 38 0 [fun ys _ => ys 0 = pv g_21 0, fun ys _ => ys 1 = pv g_21 0, fun ys _ => ys 2 = pv g_21 6, fun ys _ => ys 3 = .agg (qStU_11 c), fun ys _ => ys 4 = iv (numV f6), fun ys _ => ys 5 = iv (numV f7), fun ys _ => ys 6 = iv (64 + (bitV f8 15)), fun ys _ => ys 7 = .int .u8 (64 + (bitV f8 15)), fun ys _ => ys 8 = pv g_16 0, fun ys _ => ys 9 = sv g_12 9 1 1, fun ys _ => ys 10 = pv g_12 9, fun ys _ => ys 11 = .string (strOf f9), fun ys _ => ys 12 = .tuple #[.agg (qStU_4 Z), .bool Z.2], fun ys _ => ys 13 = .tuple #[.agg (qStU_4 Z), .bool Z.2], fun ys _ => ys 14 = .agg (qStU_4 Z), fun ys _ => ys 15 = .bool Z.2, OwnB w_60 16 7 38, PutB w_60 16 (qStU_4 Z) 38] := ⟨fun hne ys v W W1 g hv hge hb hf => (setYne hne).trans hf, ⟨fun hne ys v W W1 g hv hge hb hf => (setYne hne).trans hf, ⟨fun hne ys v W W1 g hv hge hb hf => (setYne hne).trans hf, ⟨fun hne ys v W W1 g hv hge hb hf => (setYne hne).trans hf, ⟨fun hne ys v W W1 g hv hge hb hf => (setYne hne).trans hf, ⟨fun hne ys v W W1 g hv hge hb hf => (setYne hne).trans hf, ⟨fun hne ys v W W1 g hv hge hb hf => (setYne hne).trans hf, ⟨fun hne ys v W W1 g hv hge hb hf => (setYne hne).trans hf, ⟨fun hne ys v W W1 g hv hge hb hf => (setYne hne).trans hf, ⟨fun hne ys v W W1 g hv hge hb hf => (setYne hne).trans hf, ⟨fun hne ys v W W1 g hv hge hb hf => (setYne hne).trans hf, ⟨fun hne ys v W W1 g hv hge hb hf => (setYne hne).trans hf, ⟨fun hne ys v W W1 g hv hge hb hf => (setYne hne).trans hf, ⟨fun hne ys v W W1 g hv hge hb hf => (setYne hne).trans hf, ⟨fun hne ys v W W1 g hv hge hb hf => (setYne hne).trans hf, ⟨fun hne ys v W W1 g hv hge hb hf => (setYne hne).trans hf, ⟨fun hne ys v W W1 g hv hge hb hf => OwnB.put hf (by decide) hv hge hb rfl, ⟨fun hne ys v W W1 g hv hge hb hf => absurd rfl hne, trivial⟩⟩⟩⟩⟩⟩⟩⟩⟩⟩⟩⟩⟩⟩⟩⟩⟩⟩
 refine CW.drawY 18 (FWY [fun ys _ => ys 0 = pv g_21 0, fun ys _ => ys 1 = pv g_21 0, fun ys _ => ys 2 = pv g_21 6, fun ys _ => ys 3 = .agg (qStU_11 c), fun ys _ => ys 4 = iv (numV f6), fun ys _ => ys 5 = iv (numV f7), fun ys _ => ys 6 = iv (64 + (bitV f8 15)), fun ys _ => ys 7 = .int .u8 (64 + (bitV f8 15)), fun ys _ => ys 8 = pv g_16 0, fun ys _ => ys 9 = sv g_12 9 1 1, fun ys _ => ys 10 = pv g_12 9, fun ys _ => ys 11 = .string (strOf f9), fun ys _ => ys 12 = .tuple #[.agg (qStU_4 Z), .bool Z.2], fun ys _ => ys 13 = .tuple #[.agg (qStU_4 Z), .bool Z.2], fun ys _ => ys 14 = .agg (qStU_4 Z), fun ys _ => ys 15 = .bool Z.2, OwnB w_60 16 7 38, PutB w_60 16 (qStU_4 Z) 38]) (fun _ W => Gr w_60 W) (by kernel_rfl) (by kernel_rfl) (by kernel_rfl) (by kernel_rfl) (by kernel_rfl) (Gr.refl _).drew ?_ ?_
 ·refine ⟨?_, ⟨?_, ⟨?_, ⟨?_, ⟨?_, ⟨?_, ⟨?_, ⟨?_, ⟨?_, ⟨?_, ⟨?_, ⟨?_, ⟨?_, ⟨?_, ⟨?_, ⟨?_, ⟨?_, ⟨?_, trivial⟩⟩⟩⟩⟩⟩⟩⟩⟩⟩⟩⟩⟩⟩⟩⟩⟩⟩
  ·intro L ys W hC hn hB hF hP K hK
   show OpE _ _ _ W K
   exact OpE.val (pv g_21 0) W (by kernel_rfl) (hK _ W hB setYat (by intro k_ hk_ hf_; have hne_ : k_ ≠ 0 := (fun e => hn (by subst e; exact hk_)); exact FWY.keep KPY (by rw [Nat.zero_add]; exact hne_) (by rw [Nat.zero_add]; exact fun _ => by decide) (Gr.refl W) hf_))
  ·intro L ys W hC hn hB hF hP K hK
   show OpE _ _ _ W K
   exact OpE.known (j := 0) (v := pv g_21 0) (hF 0 (hP.1 rfl)) (OpE.val (pv g_21 0) W (by kernel_rfl) (hK _ W hB setYat (by intro k_ hk_ hf_; have hne_ : k_ ≠ 1 := (fun e => hn (by subst e; exact hk_)); exact FWY.keep KPY (by rw [Nat.zero_add]; exact hne_) (by rw [Nat.zero_add]; exact fun _ => by decide) (Gr.refl W) hf_)))
  ·intro L ys W hC hn hB hF hP K hK
   show OpE _ _ _ W K
   exact OpE.known (j := 1) (v := pv g_21 0) (hF 1 (hP.1 rfl)) (OpE.val (pv g_21 6) W (by kernel_rfl) (hK _ W hB setYat (by intro k_ hk_ hf_; have hne_ : k_ ≠ 2 := (fun e => hn (by subst e; exact hk_)); exact FWY.keep KPY (by rw [Nat.zero_add]; exact hne_) (by rw [Nat.zero_add]; exact fun _ => by decide) (Gr.refl W) hf_)))
  ·intro L ys W hC hn hB hF hP K hK
   show OpE _ _ _ W K
   exact OpE.known (j := 2) (v := pv g_21 6) (hF 2 (hP.1 rfl)) (OpE.load (g := g_21) (off := 6) (v := .agg (qStU_11 c)) rfl (by kernel_rfl) ((hs_62.grow hB).pt_at (i := 4) rfl) (by kernel_rfl) (hK _ W hB setYat (by intro k_ hk_ hf_; have hne_ : k_ ≠ 3 := (fun e => hn (by subst e; exact hk_)); exact FWY.keep KPY (by rw [Nat.zero_add]; exact hne_) (by rw [Nat.zero_add]; exact fun _ => by decide) (Gr.refl W) hf_)))
  ·intro L ys W hC hn hB hF hP K hK
   show OpE _ _ _ W K
   exact OpE.val (iv (numV f6)) W (by kernel_rfl) (hK _ W hB setYat (by intro k_ hk_ hf_; have hne_ : k_ ≠ 4 := (fun e => hn (by subst e; exact hk_)); exact FWY.keep KPY (by rw [Nat.zero_add]; exact hne_) (by rw [Nat.zero_add]; exact fun _ => by decide) (Gr.refl W) hf_))
  ·intro L ys W hC hn hB hF hP K hK
   show OpE _ _ _ W K
   exact OpE.val (iv (numV f7)) W (by kernel_rfl) (hK _ W hB setYat (by intro k_ hk_ hf_; have hne_ : k_ ≠ 5 := (fun e => hn (by subst e; exact hk_)); exact FWY.keep KPY (by rw [Nat.zero_add]; exact hne_) (by rw [Nat.zero_add]; exact fun _ => by decide) (Gr.refl W) hf_))
  ·intro L ys W hC hn hB hF hP K hK
   show OpE _ _ _ W K
   exact OpE.val (iv (64 + (bitV f8 15))) W (by kernel_rfl) (hK _ W hB setYat (by intro k_ hk_ hf_; have hne_ : k_ ≠ 6 := (fun e => hn (by subst e; exact hk_)); exact FWY.keep KPY (by rw [Nat.zero_add]; exact hne_) (by rw [Nat.zero_add]; exact fun _ => by decide) (Gr.refl W) hf_))
  ·intro L ys W hC hn hB hF hP K hK
   show OpE _ _ _ W K
   exact OpE.known (j := 6) (v := iv (64 + (bitV f8 15))) (hF 6 (hP.1 rfl)) (OpE.val (.int .u8 (64 + (bitV f8 15))) W (by have hw : IntKind.u8.wrap (64 + (bitV f8 15)) = 64 + (bitV f8 15) := wrap_u8 (by omega) (by omega); exact run_eqv (by kernel_rfl) (congrArg (fun z => Value.int .u8 z) hw)) (hK _ W hB setYat (by intro k_ hk_ hf_; have hne_ : k_ ≠ 7 := (fun e => hn (by subst e; exact hk_)); exact FWY.keep KPY (by rw [Nat.zero_add]; exact hne_) (by rw [Nat.zero_add]; exact fun _ => by decide) (Gr.refl W) hf_)))
  ·intro L ys W hC hn hB hF hP K hK
   show OpE _ _ _ W K
   exact OpE.val (pv g_16 0) W (by kernel_rfl) (hK _ W hB setYat (by intro k_ hk_ hf_; have hne_ : k_ ≠ 8 := (fun e => hn (by subst e; exact hk_)); exact FWY.keep KPY (by rw [Nat.zero_add]; exact hne_) (by rw [Nat.zero_add]; exact fun _ => by decide) (Gr.refl W) hf_))
  ·intro L ys W hC hn hB hF hP K hK
   show OpE _ _ _ W K
   exact OpE.known (j := 8) (v := pv g_16 0) (hF 8 (hP.1 rfl)) (OpE.load (g := g_16) (off := 0) (v := sv g_12 9 1 1) rfl (by kernel_rfl) ((hs_62.grow hB).pt_at (i := 0) rfl) (by kernel_rfl) (hK _ W hB setYat (by intro k_ hk_ hf_; have hne_ : k_ ≠ 9 := (fun e => hn (by subst e; exact hk_)); exact FWY.keep KPY (by rw [Nat.zero_add]; exact hne_) (by rw [Nat.zero_add]; exact fun _ => by decide) (Gr.refl W) hf_)))
  ·intro L ys W hC hn hB hF hP K hK
   show OpE _ _ _ W K
   exact OpE.known (j := 9) (v := sv g_12 9 1 1) (hF 9 (hP.1 rfl)) (OpE.val (pv g_12 9) W (by kernel_rfl) (hK _ W hB setYat (by intro k_ hk_ hf_; have hne_ : k_ ≠ 10 := (fun e => hn (by subst e; exact hk_)); exact FWY.keep KPY (by rw [Nat.zero_add]; exact hne_) (by rw [Nat.zero_add]; exact fun _ => by decide) (Gr.refl W) hf_)))
  ·intro L ys W hC hn hB hF hP K hK
   show OpE _ _ _ W K
   exact OpE.known (j := 10) (v := pv g_12 9) (hF 10 (hP.1 rfl)) (OpE.load (g := g_12) (off := 9) (v := .string (strOf f9)) rfl (by kernel_rfl) ((hs_62.grow hB).pt_at (i := 1) rfl) (by kernel_rfl) (hK _ W hB setYat (by intro k_ hk_ hf_; have hne_ : k_ ≠ 11 := (fun e => hn (by subst e; exact hk_)); exact FWY.keep KPY (by rw [Nat.zero_add]; exact hne_) (by rw [Nat.zero_add]; exact fun _ => by decide) (Gr.refl W) hf_)))
  ·intro L ys W hC hn hB hF hP K hK
   show OpE _ _ _ W K
   exact OpE.known (j := 3) (v := .agg (qStU_11 c)) (hF 3 (hP.1 rfl)) (OpE.known (j := 4) (v := iv (numV f6)) (hF 4 (hP.2.1 rfl)) (OpE.known (j := 5) (v := iv (numV f7)) (hF 5 (hP.2.2.1 rfl)) (OpE.known (j := 7) (v := .int .u8 (64 + (bitV f8 15))) (hF 7 (hP.2.2.2.1 rfl)) (OpE.known (j := 11) (v := .string (strOf f9)) (hF 11 (hP.2.2.2.2.1 rfl)) (OpE.call 32 #[.agg (qStU_11 c), iv (numV f6), iv (numV f7), .int .u8 (64 + (bitV f8 15)), .string (strOf f9)] W _ (by kernel_rfl) (rst_cur c f0 f1 f2 f3 f4 f5 f6 f7 f8 f9 Z hZ nf9 W) (fun x w' hx => by obtain ⟨rfl, hg⟩ := hx; exact ⟨_, rfl, hK _ w' (hB.trans hg) setYat (by intro k_ hk_ hf_; have hne_ : k_ ≠ 12 := (fun e => hn (by subst e; exact hk_)); exact FWY.keep KPY (by rw [Nat.zero_add]; exact hne_) (by rw [Nat.zero_add]; exact fun _ => by decide) hg hf_)⟩))))))
  ·intro L ys W hC hn hB hF hP K hK
   show OpE _ _ _ W K
   exact OpE.known (j := 12) (v := .tuple #[.agg (qStU_4 Z), .bool Z.2]) (hF 12 (hP.1 rfl)) (OpE.val (.tuple #[.agg (qStU_4 Z), .bool Z.2]) W (by kernel_rfl) (hK _ W hB setYat (by intro k_ hk_ hf_; have hne_ : k_ ≠ 13 := (fun e => hn (by subst e; exact hk_)); exact FWY.keep KPY (by rw [Nat.zero_add]; exact hne_) (by rw [Nat.zero_add]; exact fun _ => by decide) (Gr.refl W) hf_)))
  ·intro L ys W hC hn hB hF hP K hK
   show OpE _ _ _ W K
   exact OpE.known (j := 13) (v := .tuple #[.agg (qStU_4 Z), .bool Z.2]) (hF 13 (hP.1 rfl)) (OpE.val (.agg (qStU_4 Z)) W (by kernel_rfl) (hK _ W hB setYat (by intro k_ hk_ hf_; have hne_ : k_ ≠ 14 := (fun e => hn (by subst e; exact hk_)); exact FWY.keep KPY (by rw [Nat.zero_add]; exact hne_) (by rw [Nat.zero_add]; exact fun _ => by decide) (Gr.refl W) hf_)))
  ·intro L ys W hC hn hB hF hP K hK
   show OpE _ _ _ W K
   exact OpE.known (j := 13) (v := .tuple #[.agg (qStU_4 Z), .bool Z.2]) (hF 13 (hP.1 rfl)) (OpE.val (.bool Z.2) W (by kernel_rfl) (hK _ W hB setYat (by intro k_ hk_ hf_; have hne_ : k_ ≠ 15 := (fun e => hn (by subst e; exact hk_)); exact FWY.keep KPY (by rw [Nat.zero_add]; exact hne_) (by rw [Nat.zero_add]; exact fun _ => by decide) (Gr.refl W) hf_)))
  ·intro L ys W hC hn hB hF hP K hK
   show OpE _ _ _ W K
   exact OpE.new (mk := fun g => pv g 0) (C := #[iv 0, iv 0, iv 0, iv 0, iv 0, iv 0, iv 0]) (T := 38) (by kernel_rfl) (hK _ _ (hB.alloc _) (⟨W.heap.size, _, setYat, hB.size, heap_alloc_new _ _, rfl⟩) (by intro k_ hk_ hf_; have hne_ : k_ ≠ 16 := (fun e => hn (by subst e; exact hk_)); exact FWY.keep KPY (by rw [Nat.zero_add]; exact hne_) (by rw [Nat.zero_add]; exact fun e => absurd (hC 17 (by subst e; exact hk_) 16 (by decide)) hn) ((Gr.refl W).alloc _) hf_))
  ·intro L ys W hC hn hB hF hP K hK
   obtain ⟨g_, C_, hv_, hge_, hb_, hsz_⟩ := hF 16 (hP.2.2.2.2.2.2.2.2.2.2.2.2.2.2.2.2.2.2.2.1 rfl)
   show OpE _ _ _ W K
   obtain ⟨q1_, q2_, q3_⟩ := setCells_blk (t := 38) ((.agg (qStU_4 Z) : Value).cells.toList) 0 W C_ hb_
   have hset_ : setL C_ 0 ((.agg (qStU_4 Z) : Value).cells.toList) = (qStU_4 Z) := setL_allY (by rw [hsz_]; rfl)
   rw [hset_] at q1_
   have hg_ : Gr w_60 (W.setCells g_ 0 ((.agg (qStU_4 Z) : Value).cells.toList)) := hB.upd q2_ (by simpa using hge_)
   exact OpE.known (j := 16) (v := pv g_ 0) hv_ (OpE.known (j := 14) (v := .agg (qStU_4 Z)) (hF 14 (hP.2.2.2.2.2.2.2.2.2.2.2.2.2.2.2.2.2.1 rfl)) (OpE.store (g := g_) (off := 0) (C := C_) (T := 38) (v := .agg (qStU_4 Z)) rfl (by kernel_rfl) (by kernel_rfl) hb_ (by kernel_rfl) (by kernel_rfl) (by rw [hsz_]; rfl) (hK _ _ hg_ (⟨g_, by rw [setYne (by decide)]; exact hv_, hge_, q1_⟩) (by intro k_ hk_ hf_; have hne_ : k_ ≠ 17 := (fun e => hn (by subst e; exact hk_)); exact FWY.put KPS (by rw [Nat.zero_add]; exact hne_) hv_ hge_ (q1_) hf_))))
 ·intro ys_67 w_63 hg_64 hF_66
  obtain ⟨g_68, hv_, hge_, hb_⟩ := hF_66 17 (by decide)
  have hs_69 := hs_62.fresh hg_64 hb_ hge_
  have hs_69 : SH [] w w_63 [pt g_16 #[sv g_12 9 1 1, .bool (((((((((false || !(numK f0)) || !(numK f1)) || !(numK f2)) || !(bitK f3 31)) || !(bitK f4 1)) || !(bitK f5 15)) || !(numK f6)) || !(numK f7)) || !(bitK f8 15))] 78, pt g_12 (qStU_1 f0 f1 f2 f3 f4 f5 f6 f7 f8 f9) 9, pt g_1 (cvA c.clean) 45, pt g_4 czA 45, pt g_21 (qStU_2 f0 f1 f3 f4 c f2) 45, pt g_68 (qStU_4 Z) 38] := hs_69
  refine SL.knownY (j := 15) (v := .bool Z.2) (hF_66 15 (by decide)) (SL.knownY (j := 16) (v := pv g_68 0) hv_ (?_))
  clear hF_66 KPY KPS
  refine SL.v (.bool Z.2) ?_
  refine SL.nil ?_
  refine CW.seq ?_
  refine CW.region ?_
  refine SL.v (iv (bitV f5 15)) ?_
  refine SL.v (iv (Int.fdiv (bitV f5 15) (2 ^ 1))) ?_
  refine SL.val (v := iv (bitV f5 15 / 2 % 4)) (w' := w_63) rfl rfl (run_eqv (by kernel_rfl) (congrArg (Value.int .i64) (show (bits .and .i64 (Int.fdiv (bitV f5 15) (2 ^ 1)) 3 : Int) = bitV f5 15 / 2 % 4 from (how_1 _ hh).1))) ?_
  refine SL.v (iv (bitV f5 15 / 2 % 4)) ?_
  refine SL.nil ?_
  refine CW.seq ?_
  refine CW.seq ?_
  refine CW.region ?_
  refine SL.v (pv g_16 1) ?_
  refine SL.load (g := g_16) (off := 1) (v := .bool (((((((((false || !(numK f0)) || !(numK f1)) || !(numK f2)) || !(bitK f3 31)) || !(bitK f4 1)) || !(bitK f5 15)) || !(numK f6)) || !(numK f7)) || !(bitK f8 15))) rfl rfl rfl (by kernel_rfl) (hs_69.pt_at (i := 0) rfl) (by kernel_rfl) ?_
  refine SL.v (.bool (((((((((false || !(numK f0)) || !(numK f1)) || !(numK f2)) || !(bitK f3 31)) || !(bitK f4 1)) || !(bitK f5 15)) || !(numK f6)) || !(numK f7)) || !(bitK f8 15))) ?_
  rcases Bool.eq_false_or_eq_true (((((((((false || !(numK f0)) || !(numK f1)) || !(numK f2)) || !(bitK f3 31)) || !(bitK f4 1)) || !(bitK f5 15)) || !(numK f6)) || !(numK f7)) || !(bitK f8 15)) with hb_70 | hb_70
  ·try rw [hb_70]
   rw [hb_70] at hs_69
   refine SL.no true ?_
   refine SL.no true ?_
   refine SL.v (.bool true) ?_
   refine SL.v (.bool true) ?_
   refine SL.no true ?_
   refine SL.no true ?_
   refine SL.v (.bool true) ?_
   refine SL.nil ?_
   refine CW.cond_true (by kernel_rfl) ?_
   refine CW.seq ?_
   refine CW.region ?_
   refine SL.load (g := g_1) (off := 0) (v := .agg (cvA c.clean)) rfl rfl rfl (by kernel_rfl) (hs_69.pt_at (i := 2) rfl) (by kernel_rfl) ?_
   refine SL.storeH (i := 3) (g := g_4) (off := 0) (v := .agg (cvA c.clean)) (L' := [pt g_16 #[sv g_12 9 1 1, .bool true] 78, pt g_12 (qStU_1 f0 f1 f2 f3 f4 f5 f6 f7 f8 f9) 9, pt g_1 (cvA c.clean) 45, pt g_4 (cvA c.clean) 45, pt g_21 (qStU_2 f0 f1 f3 f4 c f2) 45, pt g_68 (qStU_4 Z) 38]) hs_69 rfl rfl rfl (by kernel_rfl) (by kernel_rfl) rfl (by kernel_rfl) (by kernel_rfl) rfl (by kernel_rfl) rfl (fun w_71 hs_72 => ?_)
   refine SL.v (iv 3) ?_
   refine SL.nil ?_
   refine CW.ret ?_
   repeat with_reducible first | refine PThen.ret ?_ | refine PBlock.ret ?_
   refine PRet.cellTmp (t := 4) (u := 5) (ty := 45) (g := g_4) (v := .agg (cvA c.clean)) (v' := iv 3) rfl rfl rfl (by kernel_rfl) (hs_72.pt_at (i := 3) rfl) (by kernel_rfl) (by kernel_rfl) ?_
   have hb_ : (((((((((false || !(numK f0)) || !(numK f1)) || !(numK f2)) || !(bitK f3 31)) || !(bitK f4 1)) || !(bitK f5 15)) || !(numK f6)) || !(numK f7)) || !(bitK f8 15)) = !curK f0 f1 f2 f3 f4 f5 f6 f7 f8 f9 := by simp only [curK, Bool.not_and, Bool.false_or]
   rw [hb_] at hb_70
   have hk_ : curK f0 f1 f2 f3 f4 f5 f6 f7 f8 f9 = false := by simpa using hb_70
   have hq_ : okCur c f0 f1 f2 f3 f4 f5 f6 f7 f8 f9 = false := by unfold okCur; rw [hk_]; rfl
   exact ⟨by rw [hq_]; rfl, hs_72.gr⟩
  ·try rw [hb_70]
   rw [hb_70] at hs_69
   refine SL.go ?_
   refine SL.v (.bool Z.2) ?_
   refine SL.go ?_
   refine SL.v (.bool (!Z.2)) ?_
   refine SL.v (.bool (!Z.2)) ?_
   refine SL.v (.bool (!Z.2)) ?_
   rcases Bool.eq_false_or_eq_true (Z.2) with hb_73 | hb_73
   ·try rw [hb_73]
    refine SL.go ?_
    refine SL.v (iv (bitV f5 15 / 2 % 4)) ?_
    refine SL.go ?_
    refine SL.v (.bool ((bitV f5 15 / 2 % 4) == 3)) ?_
    refine SL.v (.bool ((bitV f5 15 / 2 % 4) == 3)) ?_
    refine SL.nil ?_
    rcases Bool.eq_false_or_eq_true ((bitV f5 15 / 2 % 4) == 3) with hb_74 | hb_74
    ·try rw [hb_74]
     refine CW.cond_true (by kernel_rfl) ?_
     refine CW.seq ?_
     refine CW.region ?_
     refine SL.load (g := g_1) (off := 0) (v := .agg (cvA c.clean)) rfl rfl rfl (by kernel_rfl) (hs_69.pt_at (i := 2) rfl) (by kernel_rfl) ?_
     refine SL.storeH (i := 3) (g := g_4) (off := 0) (v := .agg (cvA c.clean)) (L' := [pt g_16 #[sv g_12 9 1 1, .bool false] 78, pt g_12 (qStU_1 f0 f1 f2 f3 f4 f5 f6 f7 f8 f9) 9, pt g_1 (cvA c.clean) 45, pt g_4 (cvA c.clean) 45, pt g_21 (qStU_2 f0 f1 f3 f4 c f2) 45, pt g_68 (qStU_4 Z) 38]) hs_69 rfl rfl rfl (by kernel_rfl) (by kernel_rfl) rfl (by kernel_rfl) (by kernel_rfl) rfl (by kernel_rfl) rfl (fun w_75 hs_76 => ?_)
     refine SL.v (iv 3) ?_
     refine SL.nil ?_
     refine CW.ret ?_
     repeat with_reducible first | refine PThen.ret ?_ | refine PBlock.ret ?_
     refine PRet.cellTmp (t := 4) (u := 5) (ty := 45) (g := g_4) (v := .agg (cvA c.clean)) (v' := iv 3) rfl rfl rfl (by kernel_rfl) (hs_76.pt_at (i := 3) rfl) (by kernel_rfl) (by kernel_rfl) ?_
     have hb_ : (((((((((false || !(numK f0)) || !(numK f1)) || !(numK f2)) || !(bitK f3 31)) || !(bitK f4 1)) || !(bitK f5 15)) || !(numK f6)) || !(numK f7)) || !(bitK f8 15)) = !curK f0 f1 f2 f3 f4 f5 f6 f7 f8 f9 := by simp only [curK, Bool.not_and, Bool.false_or]
     rw [hb_] at hb_70
     have hk_ : curK f0 f1 f2 f3 f4 f5 f6 f7 f8 f9 = true := by simpa using hb_70
     have hq_ : okCur c f0 f1 f2 f3 f4 f5 f6 f7 f8 f9 = false := by unfold okCur; rw [hk_, hZ, hb_73, hb_74]; rfl
     exact ⟨by rw [hq_]; rfl, hs_76.gr⟩
    ·try rw [hb_74]
     refine CW.cond_false (by kernel_rfl) ?_
     refine CW.skip ?_
     refine CW.seq ?_
     refine CW.region ?_
     refine SL.v (pv g_21 0) ?_
     refine SL.v (pv g_21 0) ?_
     refine SL.v (pv g_21 0) ?_
     refine SL.load (g := g_68) (off := 0) (v := .agg (qStU_4 Z)) rfl rfl rfl (by kernel_rfl) (hs_69.pt_at (i := 5) rfl) (by kernel_rfl) ?_
     refine SL.v (iv (bitV f5 15)) ?_
     refine SL.val (v := iv (bitV f5 15 % 2)) (w' := w_63) rfl rfl (run_eqv (by kernel_rfl) (congrArg (Value.int .i64) (show (bits .and .i64 (bitV f5 15) 1 : Int) = bitV f5 15 % 2 from (how_1 _ hh).2.1))) ?_
     refine SL.v (.bool ((bitV f5 15 % 2) == 1)) ?_
     refine SL.v (iv (bitV f5 15)) ?_
     refine SL.val (v := iv (bitV f5 15 / 8)) (w' := w_63) rfl rfl (run_eqv (by kernel_rfl) (congrArg (Value.int .i64) (show (Int.fdiv (bitV f5 15) (2 ^ 3) : Int) = bitV f5 15 / 8 from (how_1 _ hh).2.2))) ?_
     refine SL.v (.bool ((bitV f5 15 / 8) == 1)) ?_
     refine SL.v (pv g_21 0) ?_
     refine SL.v (pv g_21 6) ?_
     refine SL.storeH (i := 4) (g := g_21) (off := 6) (v := .agg (qStU_4 Z)) (L' := [pt g_16 #[sv g_12 9 1 1, .bool false] 78, pt g_12 (qStU_1 f0 f1 f2 f3 f4 f5 f6 f7 f8 f9) 9, pt g_1 (cvA c.clean) 45, pt g_4 czA 45, pt g_21 #[iv ((numV f0) - 1), iv ((numV f1) - 1), .int .u8 (bitV f3 31), .bool ((bitV f4 1) == 1), .bool c.clean.wrap, .bool c.clean.origin, iv Z.1.a0, iv Z.1.a1, iv Z.1.a2, iv Z.1.a3, iv Z.1.a4, iv Z.1.a5, iv Z.1.a6, iv c.clean.pt, iv c.clean.pl, iv c.clean.pb, iv c.clean.pr, iv c.clean.mt, iv c.clean.ml, iv c.clean.mb, iv c.clean.mr, .int .u32 c.clean.modes, iv c.clean.level, .bool c.clean.eight, .bool c.clean.stream, iv c.clean.status, .bool c.clean.below, iv ((numV f2) - 1), iv c.clean.pages] 45, pt g_68 (qStU_4 Z) 38]) hs_69 rfl rfl rfl (by kernel_rfl) (by kernel_rfl) rfl (by kernel_rfl) (by kernel_rfl) rfl (by kernel_rfl) rfl (fun w_77 hs_78 => ?_)
     refine SL.v (pv g_21 0) ?_
     refine SL.v (pv g_21 5) ?_
     refine SL.storeH (i := 4) (g := g_21) (off := 5) (v := .bool ((bitV f5 15 % 2) == 1)) (L' := [pt g_16 #[sv g_12 9 1 1, .bool false] 78, pt g_12 (qStU_1 f0 f1 f2 f3 f4 f5 f6 f7 f8 f9) 9, pt g_1 (cvA c.clean) 45, pt g_4 czA 45, pt g_21 #[iv ((numV f0) - 1), iv ((numV f1) - 1), .int .u8 (bitV f3 31), .bool ((bitV f4 1) == 1), .bool c.clean.wrap, .bool ((bitV f5 15 % 2) == 1), iv Z.1.a0, iv Z.1.a1, iv Z.1.a2, iv Z.1.a3, iv Z.1.a4, iv Z.1.a5, iv Z.1.a6, iv c.clean.pt, iv c.clean.pl, iv c.clean.pb, iv c.clean.pr, iv c.clean.mt, iv c.clean.ml, iv c.clean.mb, iv c.clean.mr, .int .u32 c.clean.modes, iv c.clean.level, .bool c.clean.eight, .bool c.clean.stream, iv c.clean.status, .bool c.clean.below, iv ((numV f2) - 1), iv c.clean.pages] 45, pt g_68 (qStU_4 Z) 38]) hs_78 rfl rfl rfl (by kernel_rfl) (by kernel_rfl) rfl (by kernel_rfl) (by kernel_rfl) rfl (by kernel_rfl) rfl (fun w_79 hs_80 => ?_)
     refine SL.v (pv g_21 0) ?_
     refine SL.v (pv g_21 4) ?_
     refine SL.storeH (i := 4) (g := g_21) (off := 4) (v := .bool ((bitV f5 15 / 8) == 1)) (L' := [pt g_16 #[sv g_12 9 1 1, .bool false] 78, pt g_12 (qStU_1 f0 f1 f2 f3 f4 f5 f6 f7 f8 f9) 9, pt g_1 (cvA c.clean) 45, pt g_4 czA 45, pt g_21 #[iv ((numV f0) - 1), iv ((numV f1) - 1), .int .u8 (bitV f3 31), .bool ((bitV f4 1) == 1), .bool ((bitV f5 15 / 8) == 1), .bool ((bitV f5 15 % 2) == 1), iv Z.1.a0, iv Z.1.a1, iv Z.1.a2, iv Z.1.a3, iv Z.1.a4, iv Z.1.a5, iv Z.1.a6, iv c.clean.pt, iv c.clean.pl, iv c.clean.pb, iv c.clean.pr, iv c.clean.mt, iv c.clean.ml, iv c.clean.mb, iv c.clean.mr, .int .u32 c.clean.modes, iv c.clean.level, .bool c.clean.eight, .bool c.clean.stream, iv c.clean.status, .bool c.clean.below, iv ((numV f2) - 1), iv c.clean.pages] 45, pt g_68 (qStU_4 Z) 38]) hs_80 rfl rfl rfl (by kernel_rfl) (by kernel_rfl) rfl (by kernel_rfl) (by kernel_rfl) rfl (by kernel_rfl) rfl (fun w_81 hs_82 => ?_)
     refine SL.nil ?_
     refine CW.seq ?_
     refine CW.region ?_
     refine SL.v (pv g_21 0) ?_
     refine SL.v (pv g_21 0) ?_
     refine SL.v (pv g_21 6) ?_
     refine SL.v (pv g_21 12) ?_
     refine SL.storeH (i := 4) (g := g_21) (off := 12) (v := iv 0) (L' := [pt g_16 #[sv g_12 9 1 1, .bool false] 78, pt g_12 (qStU_1 f0 f1 f2 f3 f4 f5 f6 f7 f8 f9) 9, pt g_1 (cvA c.clean) 45, pt g_4 czA 45, pt g_21 (qStU_8 f0 f1 f3 f4 f5 Z c f2) 45, pt g_68 (qStU_4 Z) 38]) hs_82 rfl rfl rfl (by kernel_rfl) (by kernel_rfl) rfl (by kernel_rfl) (by kernel_rfl) rfl (by kernel_rfl) rfl (fun w_83 hs_84 => ?_)
     refine SL.nil ?_
     refine CW.seq ?_
     refine CW.seq ?_
     refine CW.region ?_
     refine SL.v (iv (bitV f5 15 / 2 % 4)) ?_
     refine SL.v (.bool (decide (0 < (bitV f5 15 / 2 % 4)))) ?_
     refine SL.nil ?_
     rcases Bool.eq_false_or_eq_true (decide (0 < (bitV f5 15 / 2 % 4))) with hb_85 | hb_85
     ·try rw [hb_85]
      have hqhb_85 := of_decide_eq_true hb_85
      refine CW.cond_true (by kernel_rfl) ?_
      refine CW.region ?_
      refine SL.v (pv g_21 0) ?_
      refine SL.v (pv g_21 0) ?_
      refine SL.v (pv g_21 0) ?_
      refine SL.v (pv g_21 6) ?_
      refine SL.load (g := g_21) (off := 6) (v := .agg #[iv Z.1.a0, iv Z.1.a1, iv Z.1.a2, iv Z.1.a3, iv Z.1.a4, iv Z.1.a5, iv 0]) rfl rfl rfl (by kernel_rfl) (hs_84.pt_at (i := 4) rfl) (by kernel_rfl) ?_
      refine SL.v (iv (bitV f5 15 / 2 % 4)) ?_
      refine SL.val (v := iv ((bitV f5 15 / 2 % 4) + 1)) (w' := w_83) rfl rfl (by have hw : IntKind.i64.wrap ((bitV f5 15 / 2 % 4) + 1) = (bitV f5 15 / 2 % 4) + 1 := IntWalk.i64_in _ (by omega); exact run_eqv (by kernel_rfl) (congrArg (fun z => Value.int .i64 z) hw)) ?_
      refine SL.call (f := 33) (args := #[.agg #[iv Z.1.a0, iv Z.1.a1, iv Z.1.a2, iv Z.1.a3, iv Z.1.a4, iv Z.1.a5, iv 0], iv ((bitV f5 15 / 2 % 4) + 1)]) (w1 := w_83) rfl rfl (by kernel_rfl) (once_any Z.1.a0 Z.1.a1 Z.1.a2 Z.1.a3 Z.1.a4 Z.1.a5 0 ((bitV f5 15 / 2 % 4) + 1) w_83) ?_
      rintro x w_86 ⟨rfl, hc_87⟩
      refine ⟨_, rfl, ?_⟩
      have hs_88 := hs_84.grow hc_87
      refine SL.v (pv g_21 0) ?_
      refine SL.v (pv g_21 6) ?_
      refine SL.storeH (i := 4) (g := g_21) (off := 6) (v := .agg #[iv Z.1.a0, iv Z.1.a1, iv Z.1.a2, iv Z.1.a3, iv Z.1.a4, iv Z.1.a5, iv (qStU_5 f5)]) (L' := [pt g_16 #[sv g_12 9 1 1, .bool false] 78, pt g_12 (qStU_1 f0 f1 f2 f3 f4 f5 f6 f7 f8 f9) 9, pt g_1 (cvA c.clean) 45, pt g_4 czA 45, pt g_21 #[iv ((numV f0) - 1), iv ((numV f1) - 1), .int .u8 (bitV f3 31), .bool ((bitV f4 1) == 1), .bool ((bitV f5 15 / 8) == 1), .bool ((bitV f5 15 % 2) == 1), iv Z.1.a0, iv Z.1.a1, iv Z.1.a2, iv Z.1.a3, iv Z.1.a4, iv Z.1.a5, iv (qStU_5 f5), iv c.clean.pt, iv c.clean.pl, iv c.clean.pb, iv c.clean.pr, iv c.clean.mt, iv c.clean.ml, iv c.clean.mb, iv c.clean.mr, .int .u32 c.clean.modes, iv c.clean.level, .bool c.clean.eight, .bool c.clean.stream, iv c.clean.status, .bool c.clean.below, iv ((numV f2) - 1), iv c.clean.pages] 45, pt g_68 (qStU_4 Z) 38]) hs_88 rfl rfl rfl (by kernel_rfl) (by kernel_rfl) rfl (by kernel_rfl) (by kernel_rfl) rfl (by kernel_rfl) rfl (fun w_89 hs_90 => ?_)
      refine SL.nil ?_
      refine CW.seq ?_
      refine CW.region ?_
      refine SL.load (g := g_21) (off := 0) (v := .agg #[iv ((numV f0) - 1), iv ((numV f1) - 1), .int .u8 (bitV f3 31), .bool ((bitV f4 1) == 1), .bool ((bitV f5 15 / 8) == 1), .bool ((bitV f5 15 % 2) == 1), iv Z.1.a0, iv Z.1.a1, iv Z.1.a2, iv Z.1.a3, iv Z.1.a4, iv Z.1.a5, iv (qStU_5 f5), iv c.clean.pt, iv c.clean.pl, iv c.clean.pb, iv c.clean.pr, iv c.clean.mt, iv c.clean.ml, iv c.clean.mb, iv c.clean.mr, .int .u32 c.clean.modes, iv c.clean.level, .bool c.clean.eight, .bool c.clean.stream, iv c.clean.status, .bool c.clean.below, iv ((numV f2) - 1), iv c.clean.pages]) rfl rfl rfl (by kernel_rfl) (hs_90.pt_at (i := 4) rfl) (by kernel_rfl) ?_
      refine SL.call (f := 20) (args := #[.agg #[iv ((numV f0) - 1), iv ((numV f1) - 1), .int .u8 (bitV f3 31), .bool ((bitV f4 1) == 1), .bool ((bitV f5 15 / 8) == 1), .bool ((bitV f5 15 % 2) == 1), iv Z.1.a0, iv Z.1.a1, iv Z.1.a2, iv Z.1.a3, iv Z.1.a4, iv Z.1.a5, iv (qStU_5 f5), iv c.clean.pt, iv c.clean.pl, iv c.clean.pb, iv c.clean.pr, iv c.clean.mt, iv c.clean.ml, iv c.clean.mb, iv c.clean.mr, .int .u32 c.clean.modes, iv c.clean.level, .bool c.clean.eight, .bool c.clean.stream, iv c.clean.status, .bool c.clean.below, iv ((numV f2) - 1), iv c.clean.pages]]) (w1 := w_89) rfl rfl (by kernel_rfl) (clean_any (ccur c f0 f1 f2 f3 f4 f5 f6 f7 f8 f9 Z.1 (qStU_5 f5)) w_89 (ccur_ok hok f0 f1 f2 f3 f4 f5 f6 f7 f8 f9 (by rw [← hZ]; exact rstR_in (s7_in hok)) (selI_in (hsgl _ (by omega)) (hsgl _ (by omega))))) ?_
      rintro x w_91 ⟨rfl, hc_92⟩
      refine ⟨_, rfl, ?_⟩
      have hs_93 := hs_90.grow hc_92
      refine SL.storeH (i := 3) (g := g_4) (off := 0) (v := .agg (qStU_0 c f0 f1 f2 f3 f4 f5 f6 f7 f8 f9 Z)) (L' := [pt g_16 #[sv g_12 9 1 1, .bool false] 78, pt g_12 (qStU_1 f0 f1 f2 f3 f4 f5 f6 f7 f8 f9) 9, pt g_1 (cvA c.clean) 45, pt g_4 (qStU_0 c f0 f1 f2 f3 f4 f5 f6 f7 f8 f9 Z) 45, pt g_21 #[iv ((numV f0) - 1), iv ((numV f1) - 1), .int .u8 (bitV f3 31), .bool ((bitV f4 1) == 1), .bool ((bitV f5 15 / 8) == 1), .bool ((bitV f5 15 % 2) == 1), iv Z.1.a0, iv Z.1.a1, iv Z.1.a2, iv Z.1.a3, iv Z.1.a4, iv Z.1.a5, iv (qStU_5 f5), iv c.clean.pt, iv c.clean.pl, iv c.clean.pb, iv c.clean.pr, iv c.clean.mt, iv c.clean.ml, iv c.clean.mb, iv c.clean.mr, .int .u32 c.clean.modes, iv c.clean.level, .bool c.clean.eight, .bool c.clean.stream, iv c.clean.status, .bool c.clean.below, iv ((numV f2) - 1), iv c.clean.pages] 45, pt g_68 (qStU_4 Z) 38]) hs_93 rfl rfl rfl (by kernel_rfl) (by kernel_rfl) rfl (by kernel_rfl) (by kernel_rfl) rfl (by kernel_rfl) rfl (fun w_94 hs_95 => ?_)
      refine SL.v (iv 0) ?_
      refine SL.nil ?_
      refine CW.ret ?_
      repeat with_reducible first | refine PThen.ret ?_ | refine PBlock.ret ?_
      refine PRet.cellTmp (t := 4) (u := 5) (ty := 45) (g := g_4) (v := .agg (qStU_0 c f0 f1 f2 f3 f4 f5 f6 f7 f8 f9 Z)) (v' := iv 0) rfl rfl rfl (by kernel_rfl) (hs_95.pt_at (i := 3) rfl) (by kernel_rfl) (by kernel_rfl) ?_
      have hb_ : (((((((((false || !(numK f0)) || !(numK f1)) || !(numK f2)) || !(bitK f3 31)) || !(bitK f4 1)) || !(bitK f5 15)) || !(numK f6)) || !(numK f7)) || !(bitK f8 15)) = !curK f0 f1 f2 f3 f4 f5 f6 f7 f8 f9 := by simp only [curK, Bool.not_and, Bool.false_or]
      rw [hb_] at hb_70
      have hk_ : curK f0 f1 f2 f3 f4 f5 f6 f7 f8 f9 = true := by simpa using hb_70
      have hq_ : okCur c f0 f1 f2 f3 f4 f5 f6 f7 f8 f9 = true := by unfold okCur; rw [hk_, hZ, hb_73, hb_74]; rfl
      have hsg_ : selI (between 2 3 (bitV f5 15 / 2 % 4 + 1)) (bitV f5 15 / 2 % 4 + 1) 0 = sgl (bitV f5 15) := how_sg _ hh hb_74 hb_85
      exact ⟨by rw [hq_, ← hsg_]; rfl, hs_95.gr⟩
     ·try rw [hb_85]
      have hqhb_85 := of_decide_eq_false hb_85
      refine CW.cond_false (by kernel_rfl) ?_
      refine CW.skip ?_
      refine CW.seq ?_
      refine CW.region ?_
      refine SL.load (g := g_21) (off := 0) (v := .agg (qStU_8 f0 f1 f3 f4 f5 Z c f2)) rfl rfl rfl (by kernel_rfl) (hs_84.pt_at (i := 4) rfl) (by kernel_rfl) ?_
      refine SL.call (f := 20) (args := #[.agg (qStU_8 f0 f1 f3 f4 f5 Z c f2)]) (w1 := w_83) rfl rfl (by kernel_rfl) (clean_any (ccur c f0 f1 f2 f3 f4 f5 f6 f7 f8 f9 Z.1 0) w_83 (ccur_ok hok f0 f1 f2 f3 f4 f5 f6 f7 f8 f9 (by rw [← hZ]; exact rstR_in (s7_in hok)) (hsgl _ (by omega)))) ?_
      rintro x w_96 ⟨rfl, hc_97⟩
      refine ⟨_, rfl, ?_⟩
      have hs_98 := hs_84.grow hc_97
      refine SL.storeH (i := 3) (g := g_4) (off := 0) (v := .agg (qStU_3 c f0 f1 f2 f3 f4 f5 f6 f7 f8 f9 Z)) (L' := [pt g_16 #[sv g_12 9 1 1, .bool false] 78, pt g_12 (qStU_1 f0 f1 f2 f3 f4 f5 f6 f7 f8 f9) 9, pt g_1 (cvA c.clean) 45, pt g_4 (qStU_3 c f0 f1 f2 f3 f4 f5 f6 f7 f8 f9 Z) 45, pt g_21 (qStU_8 f0 f1 f3 f4 f5 Z c f2) 45, pt g_68 (qStU_4 Z) 38]) hs_98 rfl rfl rfl (by kernel_rfl) (by kernel_rfl) rfl (by kernel_rfl) (by kernel_rfl) rfl (by kernel_rfl) rfl (fun w_99 hs_100 => ?_)
      refine SL.v (iv 0) ?_
      refine SL.nil ?_
      refine CW.ret ?_
      repeat with_reducible first | refine PThen.ret ?_ | refine PBlock.ret ?_
      refine PRet.cellTmp (t := 4) (u := 5) (ty := 45) (g := g_4) (v := .agg (qStU_3 c f0 f1 f2 f3 f4 f5 f6 f7 f8 f9 Z)) (v' := iv 0) rfl rfl rfl (by kernel_rfl) (hs_100.pt_at (i := 3) rfl) (by kernel_rfl) (by kernel_rfl) ?_
      have hb_ : (((((((((false || !(numK f0)) || !(numK f1)) || !(numK f2)) || !(bitK f3 31)) || !(bitK f4 1)) || !(bitK f5 15)) || !(numK f6)) || !(numK f7)) || !(bitK f8 15)) = !curK f0 f1 f2 f3 f4 f5 f6 f7 f8 f9 := by simp only [curK, Bool.not_and, Bool.false_or]
      rw [hb_] at hb_70
      have hk_ : curK f0 f1 f2 f3 f4 f5 f6 f7 f8 f9 = true := by simpa using hb_70
      have hq_ : okCur c f0 f1 f2 f3 f4 f5 f6 f7 f8 f9 = true := by unfold okCur; rw [hk_, hZ, hb_73, hb_74]; rfl
      have hsg_ : (0 : Int) = sgl (bitV f5 15) := by unfold sgl; rw [hb_85]; rfl
      exact ⟨by rw [hq_, ← hsg_]; rfl, hs_100.gr⟩
   ·try rw [hb_73]
    refine SL.no true ?_
    refine SL.no true ?_
    refine SL.v (.bool true) ?_
    refine SL.nil ?_
    refine CW.cond_true (by kernel_rfl) ?_
    refine CW.seq ?_
    refine CW.region ?_
    refine SL.load (g := g_1) (off := 0) (v := .agg (cvA c.clean)) rfl rfl rfl (by kernel_rfl) (hs_69.pt_at (i := 2) rfl) (by kernel_rfl) ?_
    refine SL.storeH (i := 3) (g := g_4) (off := 0) (v := .agg (cvA c.clean)) (L' := [pt g_16 #[sv g_12 9 1 1, .bool false] 78, pt g_12 (qStU_1 f0 f1 f2 f3 f4 f5 f6 f7 f8 f9) 9, pt g_1 (cvA c.clean) 45, pt g_4 (cvA c.clean) 45, pt g_21 (qStU_2 f0 f1 f3 f4 c f2) 45, pt g_68 (qStU_4 Z) 38]) hs_69 rfl rfl rfl (by kernel_rfl) (by kernel_rfl) rfl (by kernel_rfl) (by kernel_rfl) rfl (by kernel_rfl) rfl (fun w_101 hs_102 => ?_)
    refine SL.v (iv 3) ?_
    refine SL.nil ?_
    refine CW.ret ?_
    repeat with_reducible first | refine PThen.ret ?_ | refine PBlock.ret ?_
    refine PRet.cellTmp (t := 4) (u := 5) (ty := 45) (g := g_4) (v := .agg (cvA c.clean)) (v' := iv 3) rfl rfl rfl (by kernel_rfl) (hs_102.pt_at (i := 3) rfl) (by kernel_rfl) (by kernel_rfl) ?_
    have hb_ : (((((((((false || !(numK f0)) || !(numK f1)) || !(numK f2)) || !(bitK f3 31)) || !(bitK f4 1)) || !(bitK f5 15)) || !(numK f6)) || !(numK f7)) || !(bitK f8 15)) = !curK f0 f1 f2 f3 f4 f5 f6 f7 f8 f9 := by simp only [curK, Bool.not_and, Bool.false_or]
    rw [hb_] at hb_70
    have hk_ : curK f0 f1 f2 f3 f4 f5 f6 f7 f8 f9 = true := by simpa using hb_70
    have hq_ : okCur c f0 f1 f2 f3 f4 f5 f6 f7 f8 f9 = false := by unfold okCur; rw [hk_, hZ, hb_73]; rfl
    exact ⟨by rw [hq_]; rfl, hs_102.gr⟩
theorem setc_10 (c : Cor) (l : List Int) (f0 f1 f2 f3 f4 f5 f6 f7 f8 f9 : List Int) (w : World) (hok : c.Ok) (hM : MaxOkS w) (hl : ∀ c ∈ l, 0 ≤ c ∧ c < 256) (hn : l.length ≤ 1000) (hx : splitSemi l = [f0, f1, f2, f3, f4, f5, f6, f7, f8, f9]) (hf0 : ∀ c ∈ f0, 0 ≤ c ∧ c < 256) (hf1 : ∀ c ∈ f1, 0 ≤ c ∧ c < 256) (hf2 : ∀ c ∈ f2, 0 ≤ c ∧ c < 256) (hf3 : ∀ c ∈ f3, 0 ≤ c ∧ c < 256) (hf4 : ∀ c ∈ f4, 0 ≤ c ∧ c < 256) (hf5 : ∀ c ∈ f5, 0 ≤ c ∧ c < 256) (hf6 : ∀ c ∈ f6, 0 ≤ c ∧ c < 256) (hf7 : ∀ c ∈ f7, 0 ≤ c ∧ c < 256) (hf8 : ∀ c ∈ f8, 0 ≤ c ∧ c < 256) (hf9 : ∀ c ∈ f9, 0 ≤ c ∧ c < 256) (nf0 : f0.length ≤ 1000) (nf1 : f1.length ≤ 1000) (nf2 : f2.length ≤ 1000) (nf3 : f3.length ≤ 1000) (nf4 : f4.length ≤ 1000) (nf5 : f5.length ≤ 1000) (nf6 : f6.length ≤ 1000) (nf7 : f7.length ≤ 1000) (nf8 : f8.length ≤ 1000) (nf9 : f9.length ≤ 1000) :
  Calls Tryz.prog 10 #[.agg (cvA c), .string (strOf l)] w fun e w' => e = .returned (.tuple #[.agg (bif okCur c f0 f1 f2 f3 f4 f5 f6 f7 f8 f9 then cvA (ccur c f0 f1 f2 f3 f4 f5 f6 f7 f8 f9 (curS7 c f0 f1 f2 f3 f4 f5 f6 f7 f8 f9).1 (sgl (bitV f5 15))).clean else cvA c.clean), iv (bif okCur c f0 f1 f2 f3 f4 f5 f6 f7 f8 f9 then 0 else 3)]) ∧ Gr w w' :=
 setc_z c l f0 f1 f2 f3 f4 f5 f6 f7 f8 f9 _ rfl w hok hM hl hn hx hf0 hf1 hf2 hf3 hf4 hf5 hf6 hf7 hf8 hf9 nf0 nf1 nf2 nf3 nf4 nf5 nf6 nf7 nf8 nf9
end Go.Proofs.YtfkecgkfcldffaaGreatDoor
