/-
  The bytes of a token in plain terms, and that the machine reads them back.
  Numbers as a text, in the program's words: param.Format.
  Numbers as a text, in the document's words; an escape and a byte, there.
-/
import Derived.IntWalk
import Derived.Laws.RangeAny
import Derived.Laws.RangeString
import Derived.Lib.ItoaNum
import Derived.Lib.Join
import Derived.Test.YtfkecgkfcldffaaGreatDoorShelf
import Derived.Test.YtfkecgkfcldffaaGreatDoorZPdR
import Derived.Test.YtfkecgkfcldffaaGreatDoorZSrc
import Derived.Test.YtfkecgkfcldffaaGreatDoorZPdC
import Derived.Test.YtfkecgkfcldffaaGreatDoorZLaid
import Derived.Test.YtfkecgkfcldffaaGreatDoorZOrd2
namespace Go.Proofs.YtfkecgkfcldffaaGreatDoor
set_option linter.unusedSimpArgs false
set_option linter.unusedVariables false

/-- A numeral's digits. -/
def digs (n : Int) : List Int := (Lib.decDigits n.toNat).map fun b => (b.toNat : Int)
def clipR (n : Int) : Int := if n < 0 then 0 else if 65535 < n then 65535 else n
/-- Numbers between semicolons. -/
def fmtGo : List Int → List Int
  | [] => []
  | [n] => digs (clipR n)
  | n :: l => digs (clipR n) ++ 59 :: fmtGo l
def fmtR (l : List Int) : List Int := fmtGo (l.take 30)
/-! ### Digits -/
theorem dig_cast (n : Nat) (h : n < 10) : ((UInt8.ofNat (48 + n)).toNat : Int) = 48 + (n : Int) := by
  rw [UInt8.toNat_ofNat']; omega
theorem digs_small (n : Nat) (h : n < 10) : digs n = [48 + (n : Int)] := by
  unfold digs; rw [Int.toNat_natCast, Lib.decDigits, dif_pos h]; simp only [List.map_cons, List.map_nil, dig_cast n h]
theorem digs_big (n : Nat) (h : ¬ n < 10) : digs n = digs ((n / 10 : Nat) : Int) ++ [48 + ((n % 10 : Nat) : Int)] := by
  unfold digs; rw [Int.toNat_natCast, Int.toNat_natCast, Lib.decDigits, dif_neg h, List.map_append]
  simp only [List.map_cons, List.map_nil, dig_cast (n % 10) (by omega)]
theorem digs_in (n : Nat) : ∀ c ∈ digs n, 48 ≤ c ∧ c ≤ 57 := by
  induction n using Nat.strongRecOn with
  | ind n ih =>
    by_cases h : n < 10
    · rw [digs_small n h]; intro c hc; simp at hc; omega
    · rw [digs_big n h]; intro c hc
      rcases List.mem_append.1 hc with hc | hc
      · exact ih (n / 10) (by omega) c hc
      · simp at hc; omega
theorem digs_ne (n : Nat) : digs n ≠ [] := by
  by_cases h : n < 10
  · rw [digs_small n h]; simp
  · rw [digs_big n h]; simp
theorem numR_digs (n : Nat) (h : n ≤ 65535) : numR (digs n) = n := by
  induction n using Nat.strongRecOn with
  | ind n ih =>
    by_cases h10 : n < 10
    · rw [digs_small n h10]; simp [numR]; omega
    · have := ih (n / 10) (by omega) (by omega)
      rw [digs_big n h10]
      simp only [numR, List.foldl_append, List.foldl_cons, List.foldl_nil] at this ⊢
      rw [this]; omega

/-! ### Numbers between semicolons -/
theorem splitSemi_append (a b : List Int) (h : ∀ c ∈ a, c ≠ 59) : splitSemi (a ++ 59 :: b) = a :: splitSemi b := by
  induction a with
  | nil => simp [splitSemi]
  | cons c l ih =>
    have hc : c ≠ 59 := h c (by simp)
    have := ih fun x hx => h x (by simp [hx])
    simp only [List.cons_append, splitSemi, if_neg hc, this]
theorem splitSemi_plain (a : List Int) (h : ∀ c ∈ a, c ≠ 59) : splitSemi a = [a] := by
  induction a with
  | nil => simp [splitSemi]
  | cons c l ih =>
    have hc : c ≠ 59 := h c (by simp)
    have := ih fun x hx => h x (by simp [hx])
    simp only [splitSemi, if_neg hc, this]
theorem clipR_id {n : Int} (h0 : 0 ≤ n) (h1 : n ≤ 65535) : clipR n = n := by unfold clipR; rw [if_neg (by omega), if_neg (by omega)]
theorem clipR_in (n : Int) : 0 ≤ clipR n ∧ clipR n ≤ 65535 := by unfold clipR; split <;> (try split) <;> omega
theorem digs_in' {n : Int} (h : 0 ≤ n) : ∀ c ∈ digs n, 48 ≤ c ∧ c ≤ 57 := by
  obtain ⟨k, rfl⟩ : ∃ k : Nat, n = k := ⟨n.toNat, by omega⟩
  exact digs_in k
theorem digs_ne' {n : Int} (h : 0 ≤ n) : digs n ≠ [] := by
  obtain ⟨k, rfl⟩ : ∃ k : Nat, n = k := ⟨n.toNat, by omega⟩
  exact digs_ne k
theorem numR_digs' {n : Int} (h : 0 ≤ n) (h' : n ≤ 65535) : numR (digs n) = n := by
  obtain ⟨k, rfl⟩ : ∃ k : Nat, n = k := ⟨n.toNat, by omega⟩
  exact numR_digs k (by omega)
theorem fmtGo_in (l : List Int) : ∀ c ∈ fmtGo l, (48 ≤ c ∧ c ≤ 57) ∨ c = 59 := by
  induction l with
  | nil => simp [fmtGo]
  | cons n l ih =>
    have hd := digs_in' (clipR_in n).1
    cases l with
    | nil => intro c hc; have := hd c hc; omega
    | cons m l =>
      intro c hc
      simp only [fmtGo] at hc
      rcases List.mem_append.1 hc with hc | hc
      · have := hd c hc; omega
      · rcases List.mem_cons.1 hc with rfl | hc
        · omega
        · exact ih c hc
theorem fmtGo_ne (n : Int) (l : List Int) : fmtGo (n :: l) ≠ [] := by
  cases l with
  | nil => exact digs_ne' (clipR_in n).1
  | cons m l => simp [fmtGo]
theorem split_fmt (n : Int) (l : List Int) : (splitSemi (fmtGo (n :: l))).map numR = (n :: l).map clipR := by
  induction l generalizing n with
  | nil =>
    have hd := digs_in' (clipR_in n).1
    rw [show fmtGo [n] = digs (clipR n) from rfl, splitSemi_plain _ (fun c hc => by have := hd c hc; omega)]
    simp [numR_digs' (clipR_in n).1 (clipR_in n).2]
  | cons m l ih =>
    have hd := digs_in' (clipR_in n).1
    rw [show fmtGo (n :: m :: l) = digs (clipR n) ++ 59 :: fmtGo (m :: l) from rfl, splitSemi_append _ _ (fun c hc => by have := hd c hc; omega)]
    simp only [List.map_cons, numR_digs' (clipR_in n).1 (clipR_in n).2] at ih ⊢
    rw [ih m]
theorem map_clip {l : List Int} (h : NumsL l) : l.map clipR = l := by
  obtain ⟨_, h⟩ := h
  conv => rhs; rw [← List.map_id l]
  exact List.map_congr_left fun x hx => clipR_id (h x hx).1 (h x hx).2
theorem nums_fmt {l : List Int} (h : NumsL l) : numsR (fmtR l) = l := by
  have h30 := h.1
  unfold fmtR
  rw [List.take_of_length_le h30]
  cases l with
  | nil => simp [fmtGo, numsR]
  | cons n l =>
    unfold numsR
    rw [if_neg (fmtGo_ne n l), split_fmt, map_clip h, List.take_of_length_le h30]
/-! ### The machine reads a token's bytes back -/
end Go.Proofs.YtfkecgkfcldffaaGreatDoor

namespace Go.Proofs.YtfkecgkfcldffaaGreatDoor
set_option linter.unusedSimpArgs false
set_option linter.unusedVariables false
open Go.RowKit

def tabT (w : World) : Prop := Lib.TabIs Tryz.prog w "internal/strconv.uint64pow10" .u64 Lib.pow10Tab
theorem tabT.gr {w w' : World} (h : tabT w) (hg : Gr w w') : tabT w' := by
  obtain ⟨g, hgl⟩ : ∃ g, Tryz.prog.globalNamed "internal/strconv.uint64pow10" = some g := ⟨1, by kernel_rfl⟩
  exact tabIs_gr hgl (by decide) h hg
theorem grow_gr (w : World) (k : Nat) (os : Array Obj) : Gr w (Sort.grow (w.drewN k) os) := by
  refine ⟨rfl, rfl, rfl, by simp [Sort.grow], fun j hj => ?_⟩
  simp only [Sort.grow]
  rw [Array.getElem?_append_left (by simpa using hj)]
  rfl
theorem strOf_bytes (l : List UInt8) : strOf (l.map fun b => (b.toNat : Int)) = ⟨l.toArray⟩ := by
  unfold strOf
  rw [List.map_map]
  congr 2
  conv => rhs; rw [← List.map_id l]
  exact List.map_congr_left fun b _ => by simp
theorem itoa_walk {w : World} (n : Int) (h0 : 0 ≤ n) (h1 : n ≤ 65535) (hT : tabT w) : Calls Tryz.prog 49 #[.int .i64 n] w fun e w' => e = .returned (.string (strOf (digs n))) ∧ Gr w w' := by
  refine (Tryz.strconv_Itoa n (by omega) (by omega) w hT).mono ?_
  rintro e w' ⟨rfl, k, os, rfl⟩
  refine ⟨?_, grow_gr w k os⟩
  have : Lib.itoa n = Lib.decDigits n.toNat := by unfold Lib.itoa; rw [if_neg (by omega)]
  rw [this, digs, strOf_bytes]
theorem clip_max (x : Int) : max 0 (min x 65535) = clipR x := by unfold clipR; omega
theorem ret_i {k : IntKind} {a b : Int} (h : a = b) : Ending.returned (.int k a) = .returned (.int k b) := by rw [h]
theorem clip_any (x : Int) (w : World) : Calls Tryz.prog 61 #[.int .i64 x, .int .i64 0, .int .i64 65535] w fun e w' => e = .returned (.int .i64 (clipR x)) ∧ w = w' := by
  go_enter Tryz.func61, Tryz.ntmps61
  go_wp2
  go_ret
  exact ⟨ret_i (clip_max x), rfl⟩

/-- A row of strings of the call's own. -/
def scells (l : List ByteArray) : List Value := l.map Value.string
theorem strT : Tryz.prog.underlying 49 = some (.slice 9) := Tryz.underlying49
theorem stri : (Tryz.prog.info? 9).map (fun i => (i.zero, i.size, i.bytes)) = some (some (.string ⟨#[]⟩), 1, 16) := by kernel_rfl
theorem ints_elem : Tryz.prog.underlying 75 = some (.slice (Tryz.prog.elem 75)) := by kernel_rfl
theorem ints_size (w : World) : (sizeOf (Tryz.prog.elem 75)).run Tryz.prog w = .ok 1 w := by kernel_rfl
/-- The texts of numbers. -/
def dstr (n : Int) : ByteArray := strOf (digs (clipR n))
theorem dstr_bytes (n : Int) : (dstr n).data.toList = Lib.decDigits (clipR n).toNat := by
  unfold dstr digs; rw [strOf_bytes]
theorem join_fmt (l : List Int) : strOf (fmtGo l) = ⟨(Lib.join ((l.map dstr).map (·.data.toList)) [59]).toArray⟩ := by
  suffices h : fmtGo l = (Lib.join ((l.map dstr).map (·.data.toList)) [59]).map fun b => (b.toNat : Int) by rw [h, strOf_bytes]
  induction l with
  | nil => rfl
  | cons n l ih =>
    cases l with
    | nil => simp [fmtGo, Lib.join_one, dstr_bytes, digs]
    | cons m l =>
      rw [show fmtGo (n :: m :: l) = digs (clipR n) ++ 59 :: fmtGo (m :: l) from rfl, ih]
      simp only [List.map_cons, Lib.join, List.intercalate, List.intersperse, List.flatten_cons, List.map_append, dstr_bytes, digs, List.map_nil]
      simp
theorem fmt_len (l : List Int) : (Lib.join ((l.map dstr).map (·.data.toList)) [59]).length ≤ 6 * l.length := by
  have h := congrArg (fun b : ByteArray => b.data.toList.length) (join_fmt l)
  simp [strOf] at h
  rw [List.map_map, ← h]
  clear h
  induction l with
  | nil => simp [fmtGo]
  | cons n l ih =>
    have hd : (digs (clipR n)).length ≤ 5 := by
      obtain ⟨k, hk⟩ : ∃ k : Nat, clipR n = k := ⟨(clipR n).toNat, by have := clipR_in n; omega⟩
      have hk2 : k < 100000 := by have := clipR_in n; omega
      rw [hk]
      unfold digs
      rw [List.length_map, Int.toNat_natCast, Lib.decDigits_length]
      have hs : ∀ j, Lib.nDigits j = if j < 10 then 1 else Lib.nDigits (j / 10) + 1 := fun j => by rw [Lib.nDigits]; split <;> rfl
      rw [hs, hs, hs, hs, hs]
      repeat' split
      all_goals omega
    cases l with
    | nil => simp [fmtGo]; omega
    | cons m l => simp only [fmtGo, List.length_append, List.length_cons] at ih ⊢; omega
/-- Where Format stands. -/
def FmtAt (w : World) (l : List Int) (k : Nat) (v : Value) (wr : World) : Prop := wr.ownsRow w.heap.size 9 1 v k (scells ((l.take k).map dstr)) ∧ Gr w wr
theorem FmtAt.add {w wr : World} {l : List Int} {k : Nat} {va : Option Addr} {cap : Nat} {x : Int} (hx : l[k]? = some x) (h : wr.ownsRow w.heap.size 9 1 (.slice va (k + 1) cap) (k + 1) (scells ((l.take k).map dstr) ++ [.string (dstr x)])) (hg : Gr w wr) : FmtAt w l (k + 1) (.slice va (k + 1) cap) wr := by
  refine ⟨?_, hg⟩
  have hk := (List.getElem?_eq_some_iff.1 hx).1
  have e : (l.take (k + 1)).map dstr = (l.take k).map dstr ++ [dstr x] := by
    rw [List.take_add_one, hx]; simp
  rw [e]
  simpa [scells] using h

set_option maxRecDepth 100000 in
set_option maxHeartbeats 1000000 in
theorem fmt_walk {w : World} {a : Option Addr} {n cap : Nat} {l : List Int} (hr : Rd w a n (icells l)) (hcap : n ≤ cap) (hT : tabT w) :
    Calls Tryz.prog 23 #[.slice a n cap] w fun e w' => e = .returned (.string (strOf (fmtR l))) ∧ Gr w w' := by
  obtain ⟨m, hm⟩ : ∃ m, m = min n 30 := ⟨_, rfl⟩
  obtain ⟨a', hrun, hcut⟩ := cut_to ints_elem ints_size a n cap m (by omega) hcap
  have hr' := hcut _ _ hr
  have hll : l.length = n := by simpa [icells] using hr.1
  obtain ⟨l', hl'⟩ : ∃ l', l' = l.take m := ⟨_, rfl⟩
  have hR : Rd w a' m (icells l') := by rw [hl']; simpa [icells, List.map_take] using hr'
  have hlm : l'.length = m := by rw [hl', List.length_take]; omega
  have hres : fmtR l = fmtGo l' := by
    unfold fmtR; rw [hl', hm]
    congr 1
    rcases Nat.le_total n 30 with h | h
    · rw [Nat.min_eq_left h, List.take_of_length_le (by omega), List.take_of_length_le (by omega)]
    · rw [Nat.min_eq_right h]
  have hm30 : m ≤ 30 := by omega
  have hmi : min (n : Int) 30 = (m : Int) := by omega
  have HRES := Lib.hid hres
  clear hcut hr hr' hl' hres hm hll
  have HM := Lib.hid hlm; clear hlm
  go_enter Tryz.func23, Tryz.ntmps23
  go_wp2_with fail
  go_loopw [3, 12] (fun v i wr => ∃ k : Nat, k ≤ m ∧ i = .int .i64 k ∧ FmtAt w l' k v wr) (fun _ i _ => m - (intOf i).toNat)
  case atStart => exact ⟨0, Nat.zero_le _, rfl, World.ownsRow_nil _ _ _ _, Gr.refl _⟩
  case round =>
    obtain ⟨k, hk, rfl, hrow, hgr⟩ := hrel
    obtain ⟨va, vc, rfl⟩ := row_form hrow
    by_cases hlt : k < m
    · obtain ⟨b, off, u, rfl, hu, hcell, hb⟩ := (hR.gr hgr).at_ hlt
      obtain ⟨x, hx, rfl⟩ : ∃ x, l'[k]? = some x ∧ u = .int .i64 x := by
        simp only [icells, List.getElem?_map] at hu
        rcases hx : l'[k]? with _ | x
        · rw [hx] at hu; cases hu
        · rw [hx] at hu; simp at hu; exact ⟨x, rfl, hu.symm⟩
      have HX := Lib.hid hx
      have hcl := clipR_in x
      have hT2 := hT.gr hgr
      have hkm : (k : Int) < (m : Int) := by omega
      clear hR hu hrun hx
      go_wp2_with (first
        | (go_at_call 61; refine (clip_any x _).mono ?_; rintro e w1 ⟨rfl, rfl⟩)
        | (go_at_call 49; refine (itoa_walk (clipR x) hcl.1 hcl.2 hT2).mono ?_; rintro e w2 ⟨rfl, hg2⟩)
        | (at_builtin; refine wpList_add (w0 := w) rfl _ _ _ _ rfl 9 _ 16 strT stri rfl (by omega) _ k _ rfl ((ownsRow_gr hrow hg2).alloc _) ((hgr.trans hg2).alloc _) _ 1 [.string (strOf (digs (clipR x)))] rfl (src_block strT _ (heap_alloc_new _ _) rfl (by simp [Value.oneCell'])) (by omega) ?_; intro ga cap2 w3 hown hg3))
      go_roundw
      case rel => exact ⟨k + 1, by omega, by go_num, FmtAt.add HX.out hown hg3⟩
      case measure => simp [intOf]; omega
    · obtain rfl : k = m := by omega
      have hkm : ¬ (k : Int) < (k : Int) := by omega
      rw [List.take_of_length_le (by have := HM.out; omega)] at hrow
      rcases l' with _ | ⟨x, l'⟩
      · obtain rfl : k = 0 := by have := HM.out; simpa using this.symm
        have hj := fun w => Tryz.strings_Join_none va vc ⟨#[59]⟩ w
        clear hR hrun
        go_wp2_with (go_at_call 22; refine (hj _).mono ?_; rintro e w2 ⟨rfl, rfl⟩)
        go_ret
        exact ⟨by rw [HRES.out]; rfl, hgr⟩
      · obtain ⟨g, cap3, hv, _, hlt3⟩ := hrow.form (by have := HM.out; simp at this; omega)
        have hc3 := hrow.cells (g := g) (by rw [hv]; rfl)
        injection hv with hv1 hv2 hv3
        subst hv1; subst hv3
        have hcap3 : k ≤ vc := by
          rcases hrow.2 with ⟨hv, _⟩ | ⟨g', cap', cur, hv, _, _, hn, _⟩
          · cases hv
          · injection hv with _ _ e; omega
        have hj := Tryz.strings_Join g 0 vc (((x :: l').map dstr)) ⟨#[59]⟩
        rw [List.length_map, HM.out] at hj
        have hj2 := fun wr h1 h2 => hj wr h1 h2 (by omega) hcap3 (by have := fmt_len (x :: l'); have := HM.out; simp only [ByteArray.data] at *; omega)
        have hcells : ∀ (j : Nat) (y : ByteArray), ((x :: l').map dstr)[j]? = some y → wr.cell? ⟨g, 0 + j, none⟩ = some (.string y) := by
          intro j y hy
          have := hc3 j (.string y) (by rw [scells, List.getElem?_map, hy]; rfl)
          have e : (⟨g, 0, none⟩ : Addr).add j = ⟨g, 0 + j, none⟩ := by rcases j with _ | j <;> simp [Addr.add]
          rwa [e] at this
        have hj3 := hj2 wr hcells hlt3
        clear hR hrun hj hj2 hcells hc3
        go_wp2_with (go_at_call 22; refine hj3.mono ?_; rintro e w2 ⟨rfl, hg2⟩)
        go_ret
        refine ⟨?_, hgr.trans hg2⟩
        rw [HRES.out, join_fmt]
        simp only [List.map_cons, List.map_map]
        rfl
end Go.Proofs.YtfkecgkfcldffaaGreatDoor

namespace Go.Proofs.YtfkecgkfcldffaaGreatDoor
set_option linter.unusedSimpArgs false
set_option linter.unusedVariables false
open Go.RowKit

theorem fmtGo_len (l : List Int) : (fmtGo l).length ≤ 6 * l.length := by
  have h := congrArg (fun b : ByteArray => b.data.toList.length) (join_fmt l)
  have h2 := fmt_len l
  simp [strOf] at h
  rw [List.map_map] at h2
  omega
end Go.Proofs.YtfkecgkfcldffaaGreatDoor
