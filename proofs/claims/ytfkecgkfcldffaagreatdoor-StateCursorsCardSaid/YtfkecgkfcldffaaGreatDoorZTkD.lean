/-
  The bytes of a token in plain terms, and that the machine reads them back.
  Numbers as a text, in the program's words: param.Format.
  Numbers as a text, in the document's words; an escape and a byte, there.
-/
import Derived.IntWalk
import Derived.Laws.RangeAny
import Derived.Laws.RangeString
import Derived.Lib.ItoaNum
import Derived.Lib.Join
import Derived.Test.YtfkecgkfcldffaaGreatDoorShelf
import Derived.Test.YtfkecgkfcldffaaGreatDoorZPdI
import Derived.Test.YtfkecgkfcldffaaGreatDoorZSrc
import Derived.Test.YtfkecgkfcldffaaGreatDoorZLaid
import Derived.Test.YtfkecgkfcldffaaGreatDoorZOrd2
namespace Go.Proofs.YtfkecgkfcldffaaGreatDoor
set_option linter.unusedSimpArgs false
set_option linter.unusedVariables false

/-- A numeral's digits. -/
def digs (n : Int) : List Int := (Lib.decDigits n.toNat).map fun b => (b.toNat : Int)
def clipR (n : Int) : Int := if n < 0 then 0 else if 65535 < n then 65535 else n
/-- Numbers between semicolons. -/
def fmtGo : List Int → List Int
  | [] => []
  | [n] => digs (clipR n)
  | n :: l => digs (clipR n) ++ 59 :: fmtGo l
def fmtR (l : List Int) : List Int := fmtGo (l.take 30)
/-! ### Digits -/
theorem dig_cast (n : Nat) (h : n < 10) : ((UInt8.ofNat (48 + n)).toNat : Int) = 48 + (n : Int) := by
  rw [UInt8.toNat_ofNat']; omega
theorem digs_small (n : Nat) (h : n < 10) : digs n = [48 + (n : Int)] := by
  unfold digs; rw [Int.toNat_natCast, Lib.decDigits, dif_pos h]; simp only [List.map_cons, List.map_nil, dig_cast n h]
theorem digs_big (n : Nat) (h : ¬ n < 10) : digs n = digs ((n / 10 : Nat) : Int) ++ [48 + ((n % 10 : Nat) : Int)] := by
  unfold digs; rw [Int.toNat_natCast, Int.toNat_natCast, Lib.decDigits, dif_neg h, List.map_append]
  simp only [List.map_cons, List.map_nil, dig_cast (n % 10) (by omega)]
/-! ### Numbers between semicolons -/
theorem clipR_id {n : Int} (h0 : 0 ≤ n) (h1 : n ≤ 65535) : clipR n = n := by unfold clipR; rw [if_neg (by omega), if_neg (by omega)]
theorem clipR_in (n : Int) : 0 ≤ clipR n ∧ clipR n ≤ 65535 := by unfold clipR; split <;> (try split) <;> omega
/-! ### The machine reads a token's bytes back -/
end Go.Proofs.YtfkecgkfcldffaaGreatDoor

namespace Go.Proofs.YtfkecgkfcldffaaGreatDoor
set_option linter.unusedSimpArgs false
set_option linter.unusedVariables false
open Go.RowKit

def tabT (w : World) : Prop := Lib.TabIs Tryz.prog w "internal/strconv.uint64pow10" .u64 Lib.pow10Tab
theorem tabT.gr {w w' : World} (h : tabT w) (hg : Gr w w') : tabT w' := by
  obtain ⟨g, hgl⟩ : ∃ g, Tryz.prog.globalNamed "internal/strconv.uint64pow10" = some g := ⟨1, by kernel_rfl⟩
  exact tabIs_gr hgl (by decide) h hg
theorem grow_gr (w : World) (k : Nat) (os : Array Obj) : Gr w (Sort.grow (w.drewN k) os) := by
  refine ⟨rfl, rfl, rfl, by simp [Sort.grow], fun j hj => ?_⟩
  simp only [Sort.grow]
  rw [Array.getElem?_append_left (by simpa using hj)]
  rfl
theorem strOf_bytes (l : List UInt8) : strOf (l.map fun b => (b.toNat : Int)) = ⟨l.toArray⟩ := by
  unfold strOf
  rw [List.map_map]
  congr 2
  conv => rhs; rw [← List.map_id l]
  exact List.map_congr_left fun b _ => by simp
theorem itoa_walk {w : World} (n : Int) (h0 : 0 ≤ n) (h1 : n ≤ 65535) (hT : tabT w) : Calls Tryz.prog 49 #[.int .i64 n] w fun e w' => e = .returned (.string (strOf (digs n))) ∧ Gr w w' := by
  refine (Tryz.strconv_Itoa n (by omega) (by omega) w hT).mono ?_
  rintro e w' ⟨rfl, k, os, rfl⟩
  refine ⟨?_, grow_gr w k os⟩
  have : Lib.itoa n = Lib.decDigits n.toNat := by unfold Lib.itoa; rw [if_neg (by omega)]
  rw [this, digs, strOf_bytes]
theorem clip_max (x : Int) : max 0 (min x 65535) = clipR x := by unfold clipR; omega
theorem ret_i {k : IntKind} {a b : Int} (h : a = b) : Ending.returned (.int k a) = .returned (.int k b) := by rw [h]
theorem clip_any (x : Int) (w : World) : Calls Tryz.prog 61 #[.int .i64 x, .int .i64 0, .int .i64 65535] w fun e w' => e = .returned (.int .i64 (clipR x)) ∧ w = w' := by
  go_enter Tryz.func61, Tryz.ntmps61
  go_wp2
  go_ret
  exact ⟨ret_i (clip_max x), rfl⟩

/-- A row of strings of the call's own. -/
def scells (l : List ByteArray) : List Value := l.map Value.string
theorem strT : Tryz.prog.underlying 49 = some (.slice 9) := Tryz.underlying49
theorem stri : (Tryz.prog.info? 9).map (fun i => (i.zero, i.size, i.bytes)) = some (some (.string ⟨#[]⟩), 1, 16) := by kernel_rfl
theorem ints_elem : Tryz.prog.underlying 75 = some (.slice (Tryz.prog.elem 75)) := by kernel_rfl
theorem ints_size (w : World) : (sizeOf (Tryz.prog.elem 75)).run Tryz.prog w = .ok 1 w := by kernel_rfl
/-- The texts of numbers. -/
def dstr (n : Int) : ByteArray := strOf (digs (clipR n))
theorem dstr_bytes (n : Int) : (dstr n).data.toList = Lib.decDigits (clipR n).toNat := by
  unfold dstr digs; rw [strOf_bytes]
theorem join_fmt (l : List Int) : strOf (fmtGo l) = ⟨(Lib.join ((l.map dstr).map (·.data.toList)) [59]).toArray⟩ := by
  suffices h : fmtGo l = (Lib.join ((l.map dstr).map (·.data.toList)) [59]).map fun b => (b.toNat : Int) by rw [h, strOf_bytes]
  induction l with
  | nil => rfl
  | cons n l ih =>
    cases l with
    | nil => simp [fmtGo, Lib.join_one, dstr_bytes, digs]
    | cons m l =>
      rw [show fmtGo (n :: m :: l) = digs (clipR n) ++ 59 :: fmtGo (m :: l) from rfl, ih]
      simp only [List.map_cons, Lib.join, List.intercalate, List.intersperse, List.flatten_cons, List.map_append, dstr_bytes, digs, List.map_nil]
      simp
theorem fmt_len (l : List Int) : (Lib.join ((l.map dstr).map (·.data.toList)) [59]).length ≤ 6 * l.length := by
  have h := congrArg (fun b : ByteArray => b.data.toList.length) (join_fmt l)
  simp [strOf] at h
  rw [List.map_map, ← h]
  clear h
  induction l with
  | nil => simp [fmtGo]
  | cons n l ih =>
    have hd : (digs (clipR n)).length ≤ 5 := by
      obtain ⟨k, hk⟩ : ∃ k : Nat, clipR n = k := ⟨(clipR n).toNat, by have := clipR_in n; omega⟩
      have hk2 : k < 100000 := by have := clipR_in n; omega
      rw [hk]
      unfold digs
      rw [List.length_map, Int.toNat_natCast, Lib.decDigits_length]
      have hs : ∀ j, Lib.nDigits j = if j < 10 then 1 else Lib.nDigits (j / 10) + 1 := fun j => by rw [Lib.nDigits]; split <;> rfl
      rw [hs, hs, hs, hs, hs]
      repeat' split
      all_goals omega
    cases l with
    | nil => simp [fmtGo]; omega
    | cons m l => simp only [fmtGo, List.length_append, List.length_cons] at ih ⊢; omega
/-- Where Format stands. -/
def FmtAt (w : World) (l : List Int) (k : Nat) (v : Value) (wr : World) : Prop := wr.ownsRow w.heap.size 9 1 v k (scells ((l.take k).map dstr)) ∧ Gr w wr
theorem FmtAt.add {w wr : World} {l : List Int} {k : Nat} {va : Option Addr} {cap : Nat} {x : Int} (hx : l[k]? = some x) (h : wr.ownsRow w.heap.size 9 1 (.slice va (k + 1) cap) (k + 1) (scells ((l.take k).map dstr) ++ [.string (dstr x)])) (hg : Gr w wr) : FmtAt w l (k + 1) (.slice va (k + 1) cap) wr := by
  refine ⟨?_, hg⟩
  have hk := (List.getElem?_eq_some_iff.1 hx).1
  have e : (l.take (k + 1)).map dstr = (l.take k).map dstr ++ [dstr x] := by
    rw [List.take_add_one, hx]; simp
  rw [e]
  simpa [scells] using h

set_option maxRecDepth 100000 in
set_option maxHeartbeats 1000000 in
theorem fmt_walk {w : World} {a : Option Addr} {n cap : Nat} {l : List Int} (hr : Rd w a n (icells l)) (hcap : n ≤ cap) (hT : tabT w) :
    Calls Tryz.prog 23 #[.slice a n cap] w fun e w' => e = .returned (.string (strOf (fmtR l))) ∧ Gr w w' := by
  obtain ⟨m, hm⟩ : ∃ m, m = min n 30 := ⟨_, rfl⟩
  obtain ⟨a', hrun, hcut⟩ := cut_to ints_elem ints_size a n cap m (by omega) hcap
  have hr' := hcut _ _ hr
  have hll : l.length = n := by simpa [icells] using hr.1
  obtain ⟨l', hl'⟩ : ∃ l', l' = l.take m := ⟨_, rfl⟩
  have hR : Rd w a' m (icells l') := by rw [hl']; simpa [icells, List.map_take] using hr'
  have hlm : l'.length = m := by rw [hl', List.length_take]; omega
  have hres : fmtR l = fmtGo l' := by
    unfold fmtR; rw [hl', hm]
    congr 1
    rcases Nat.le_total n 30 with h | h
    · rw [Nat.min_eq_left h, List.take_of_length_le (by omega), List.take_of_length_le (by omega)]
    · rw [Nat.min_eq_right h]
  have hm30 : m ≤ 30 := by omega
  have hmi : min (n : Int) 30 = (m : Int) := by omega
  have HRES := Lib.hid hres
  clear hcut hr hr' hl' hres hm hll
  have HM := Lib.hid hlm; clear hlm
  go_enter Tryz.func23, Tryz.ntmps23
  go_wp2_with fail
  go_loopw [3, 12] (fun v i wr => ∃ k : Nat, k ≤ m ∧ i = .int .i64 k ∧ FmtAt w l' k v wr) (fun _ i _ => m - (intOf i).toNat)
  case atStart => exact ⟨0, Nat.zero_le _, rfl, World.ownsRow_nil _ _ _ _, Gr.refl _⟩
  case round =>
    obtain ⟨k, hk, rfl, hrow, hgr⟩ := hrel
    obtain ⟨va, vc, rfl⟩ := row_form hrow
    by_cases hlt : k < m
    · obtain ⟨b, off, u, rfl, hu, hcell, hb⟩ := (hR.gr hgr).at_ hlt
      obtain ⟨x, hx, rfl⟩ : ∃ x, l'[k]? = some x ∧ u = .int .i64 x := by
        simp only [icells, List.getElem?_map] at hu
        rcases hx : l'[k]? with _ | x
        · rw [hx] at hu; cases hu
        · rw [hx] at hu; simp at hu; exact ⟨x, rfl, hu.symm⟩
      have HX := Lib.hid hx
      have hcl := clipR_in x
      have hT2 := hT.gr hgr
      have hkm : (k : Int) < (m : Int) := by omega
      clear hR hu hrun hx
      go_wp2_with (first
        | (go_at_call 61; refine (clip_any x _).mono ?_; rintro e w1 ⟨rfl, rfl⟩)
        | (go_at_call 49; refine (itoa_walk (clipR x) hcl.1 hcl.2 hT2).mono ?_; rintro e w2 ⟨rfl, hg2⟩)
        | (at_builtin; refine wpList_add (w0 := w) rfl _ _ _ _ rfl 9 _ 16 strT stri rfl (by omega) _ k _ rfl ((ownsRow_gr hrow hg2).alloc _) ((hgr.trans hg2).alloc _) _ 1 [.string (strOf (digs (clipR x)))] rfl (src_block strT _ (heap_alloc_new _ _) rfl (by simp [Value.oneCell'])) (by omega) ?_; intro ga cap2 w3 hown hg3))
      go_roundw
      case rel => exact ⟨k + 1, by omega, by go_num, FmtAt.add HX.out hown hg3⟩
      case measure => simp [intOf]; omega
    · obtain rfl : k = m := by omega
      have hkm : ¬ (k : Int) < (k : Int) := by omega
      rw [List.take_of_length_le (by have := HM.out; omega)] at hrow
      rcases l' with _ | ⟨x, l'⟩
      · obtain rfl : k = 0 := by have := HM.out; simpa using this.symm
        have hj := fun w => Tryz.strings_Join_none va vc ⟨#[59]⟩ w
        clear hR hrun
        go_wp2_with (go_at_call 22; refine (hj _).mono ?_; rintro e w2 ⟨rfl, rfl⟩)
        go_ret
        exact ⟨by rw [HRES.out]; rfl, hgr⟩
      · obtain ⟨g, cap3, hv, _, hlt3⟩ := hrow.form (by have := HM.out; simp at this; omega)
        have hc3 := hrow.cells (g := g) (by rw [hv]; rfl)
        injection hv with hv1 hv2 hv3
        subst hv1; subst hv3
        have hcap3 : k ≤ vc := by
          rcases hrow.2 with ⟨hv, _⟩ | ⟨g', cap', cur, hv, _, _, hn, _⟩
          · cases hv
          · injection hv with _ _ e; omega
        have hj := Tryz.strings_Join g 0 vc (((x :: l').map dstr)) ⟨#[59]⟩
        rw [List.length_map, HM.out] at hj
        have hj2 := fun wr h1 h2 => hj wr h1 h2 (by omega) hcap3 (by have := fmt_len (x :: l'); have := HM.out; simp only [ByteArray.data] at *; omega)
        have hcells : ∀ (j : Nat) (y : ByteArray), ((x :: l').map dstr)[j]? = some y → wr.cell? ⟨g, 0 + j, none⟩ = some (.string y) := by
          intro j y hy
          have := hc3 j (.string y) (by rw [scells, List.getElem?_map, hy]; rfl)
          have e : (⟨g, 0, none⟩ : Addr).add j = ⟨g, 0 + j, none⟩ := by rcases j with _ | j <;> simp [Addr.add]
          rwa [e] at this
        have hj3 := hj2 wr hcells hlt3
        clear hR hrun hj hj2 hcells hc3
        go_wp2_with (go_at_call 22; refine hj3.mono ?_; rintro e w2 ⟨rfl, hg2⟩)
        go_ret
        refine ⟨?_, hgr.trans hg2⟩
        rw [HRES.out, join_fmt]
        simp only [List.map_cons, List.map_map]
        rfl
end Go.Proofs.YtfkecgkfcldffaaGreatDoor

namespace Go.Proofs.YtfkecgkfcldffaaGreatDoor
set_option linter.unusedSimpArgs false
set_option linter.unusedVariables false
open Go.RowKit

theorem conv_new (w : World) (l : List Int) (n : Nat) (hn : l.length = n) : (convert 69 9 (.slice (some ⟨w.heap.size, 0, none⟩) n n)).run Tryz.prog (w.alloc (.cells (bcells l).toArray 5)) = .ok (.string (strOf l)) (w.alloc (.cells (bcells l).toArray 5)) := by
  subst hn
  have h : HasRow (w.alloc (.cells (bcells l).toArray 5)) 5 (.slice (some ⟨w.heap.size, 0, none⟩) l.length l.length) l.length (bcells l) :=
    ⟨by simp [bcells], .inr ⟨w.heap.size, l.length, _, rfl, ⟨_, heap_alloc_new _ _⟩, Nat.le_refl _, by simp [bcells], by simp only [bcells]; exact List.take_of_length_le (by simp)⟩⟩
  exact conv_row h
theorem conv1 (w : World) (c : Int) : (convert 69 9 (.slice (some ⟨w.heap.size, 0, none⟩) 1 1)).run Tryz.prog (w.alloc (.cells #[.int .u8 c] 5)) = .ok (.string (strOf [c])) (w.alloc (.cells #[.int .u8 c] 5)) := conv_new w [c] 1 rfl
theorem conv_at1 {w : World} {g : Nat} {c : Int} (h : w.heap[g]? = some (.cells #[.int .u8 c] 5 (0, 0))) : (convert 69 9 (.slice (some ⟨g, 0, none⟩) 1 1)).run Tryz.prog w = .ok (.string (strOf [c])) w :=
  conv_row (l := [c]) ⟨rfl, .inr ⟨g, 1, _, rfl, ⟨_, h⟩, Nat.le_refl _, by simp, by simp [bcells]⟩⟩
theorem strOf_app (a b : List Int) : strOf a ++ strOf b = strOf (a ++ b) := by
  apply ByteArray.ext
  rw [ByteArray.data_append]
  apply Array.ext'
  simp [strOf]

theorem digs_size (n : Nat) (h : n ≤ 1000000) : (strOf (digs n)).size ≤ 7 := by
  have e : (strOf (digs n)).size = (digs n).length := by simp [strOf, ByteArray.size]
  rw [e]
  unfold digs
  rw [List.length_map, Int.toNat_natCast, Lib.decDigits_length]
  have hs : ∀ j, Lib.nDigits j = if j < 10 then 1 else Lib.nDigits (j / 10) + 1 := fun j => by rw [Lib.nDigits]; split <;> rfl
  rw [hs, hs, hs, hs, hs, hs, hs]
  repeat' split
  all_goals omega
def decF (w0 : World) (n : Nat) : Nat → Value → World → Prop
  | 0, v, _ => v = .int .i64 n
  | 1, v, _ => v = .int .i64 ((n : Int) / 10)
  | 2, v, _ => v = .string (strOf (digs ((n : Int) / 10)))
  | 3, v, _ => v = .int .i64 n
  | 4, v, _ => v = .int .i64 ((n : Int) % 10)
  | 5, v, _ => v = .int .i64 (48 + ((n : Int) % 10))
  | 6, v, _ => v = .int .u8 (48 + ((n : Int) % 10))
  | 7, v, w => ∃ g, v = .slice (some ⟨g, 0, none⟩) 1 1 ∧ w.heap[g]? = some (.cells #[.int .u8 (48 + ((n : Int) % 10))] 5 (0, 0))
  | 8, v, _ => v = .string (strOf [48 + ((n : Int) % 10)])
  | 9, v, _ => v = .string (strOf (digs n))
  | 10, v, _ => v = .string (strOf (digs n))
  | _, _, _ => True
theorem decF.gr {w0 w w' : World} {n j : Nat} {u : Value} (h : decF w0 n j u w) (hg : Gr w w') : decF w0 n j u w' := by
  match j, h with
  | 0, h | 1, h | 2, h | 3, h | 4, h | 5, h | 6, h | 8, h | 9, h | 10, h => exact h
  | 7, h => obtain ⟨g, h1, h2⟩ := h; exact ⟨g, h1, hg.blk h2⟩
  | _ + 11, _ => exact trivial

set_option maxRecDepth 100000 in
set_option maxHeartbeats 1000000 in
theorem decimal_walk (n : Nat) (hn : n ≤ 1000000) : ∀ w : World, Calls Tryz.prog 70 #[.int .i64 n] w fun e w' => e = .returned (.string (strOf (digs n))) ∧ Gr w w' := by
  induction n using Nat.strongRecOn with
  | ind n ih =>
    intro w
    by_cases h10 : n < 10
    · have kc := conv1
      have hd := digs_small n h10
      have HD := Lib.hid hd; clear hd ih
      go_enter Tryz.func70, Tryz.ntmps70
      go_wp2_with fail
      go_ret
      exact ⟨by rw [HD.out]; rfl, by (repeat (first | with_reducible exact Gr.refl _ | with_reducible assumption | with_reducible refine Gr.setCell ?_ (by simp; try omega) _ | with_reducible refine Gr.alloc ?_ _ | with_reducible refine Gr.drew ?_ | with_reducible refine Gr.drewN ?_ _ | with_reducible refine Gr.trans ?_ (by assumption)))⟩
    · have e1 : ((n / 10 : Nat) : Int) = (n : Int) / 10 := by omega
      have e2 : ((n % 10 : Nat) : Int) = (n : Int) % 10 := by omega
      have hc := ih (n / 10) (by omega) (by omega)
      have hd := digs_big n h10
      have hs1 := digs_size (n / 10) (by omega)
      rw [e1] at hc hd hs1
      rw [e2] at hd
      clear e1 e2
      have HD := Lib.hid hd; clear hd ih
      have hw1 : IntKind.i64.wrap ((n : Int) / 10) = (n : Int) / 10 := IntWalk.i64_in _ (by omega)
      have hw2 : IntKind.i64.wrap (48 + (n : Int) % 10) = 48 + (n : Int) % 10 := IntWalk.i64_in _ (by omega)
      have hw3 : IntKind.u8.wrap (48 + (n : Int) % 10) = 48 + (n : Int) % 10 := by
        obtain ⟨k, hk, hk2⟩ : ∃ k : Nat, (n : Int) % 10 = k ∧ k < 10 := ⟨n % 10, by omega, by omega⟩
        rw [hk]
        have H : ∀ j : Fin 10, IntKind.u8.wrap (48 + (j.val : Int)) = 48 + (j.val : Int) := by decide +kernel
        exact H ⟨k, hk2⟩
      go_enter Tryz.func70, Tryz.ntmps70
      go_wp2_with fail
      refine wp_region_facts (decF w n) (Gr w) (by kernel_rfl) (by kernel_rfl) (by kernel_rfl) ((Gr.refl _).drew) ?_ ?_
      · refine Steps.cons1 1 rfl rfl ?_ (Steps.cons1 2 rfl rfl ?_ (Steps.cons1 3 rfl rfl ?_ (Steps.cons1 4 rfl rfl ?_ (Steps.cons1 5 rfl rfl ?_ (Steps.cons1 6 rfl rfl ?_ (Steps.cons1 7 rfl rfl ?_ (Steps.cons1 8 rfl rfl ?_ (Steps.cons1 9 rfl rfl ?_ (Steps.cons1 10 rfl rfl ?_ (Steps.cons1 11 rfl rfl ?_ (Steps.nil)))))))))))
        · (intro ys w' hB hP K hK; simp only [Preds, Region.binds, decF, forall_const, and_true, true_and] at hP; simp only [fillA]; go_simp; (have h2 := fun v => hK v w' hB); simp only [decF, forall_eq] at h2; (have h2 := h2 (fun _ _ _ h => h)); simp [fillA, Act.put, hP] at h2; exact h2)
        · (intro ys w' hB hP K hK; simp only [Preds, Region.binds, decF, forall_const, and_true, true_and] at hP; simp only [fillA]; go_simp; (have h2 := fun v => hK v w' hB); simp only [decF, forall_eq] at h2; (have h2 := h2 (fun _ _ _ h => h)); simp [fillA, Act.put, hP] at h2; exact h2)
        · (intro ys w' hB hP; simp only [Preds, Region.binds, decF, forall_const, and_true, true_and] at hP)
          intro K hK
          simp only [fillA]
          go_simp
          refine (hc w').mono ?_
          rintro e w1 ⟨rfl, hg⟩
          have h2 := hK _ w1 (hB.trans hg) rfl (fun j u _ h => h.gr hg)
          simp [fillA, Act.put, hP] at h2
          exact h2
        · (intro ys w' hB hP K hK; simp only [Preds, Region.binds, decF, forall_const, and_true, true_and] at hP; simp only [fillA]; go_simp; (have h2 := fun v => hK v w' hB); simp only [decF, forall_eq] at h2; (have h2 := h2 (fun _ _ _ h => h)); simp [fillA, Act.put, hP] at h2; exact h2)
        · (intro ys w' hB hP K hK; simp only [Preds, Region.binds, decF, forall_const, and_true, true_and] at hP; simp only [fillA]; go_simp; (have h2 := fun v => hK v w' hB); simp only [decF, forall_eq] at h2; (have h2 := h2 (fun _ _ _ h => h)); simp [fillA, Act.put, hP] at h2; exact h2)
        · (intro ys w' hB hP K hK; simp only [Preds, Region.binds, decF, forall_const, and_true, true_and] at hP; simp only [fillA]; go_simp; (have h2 := fun v => hK v w' hB); simp only [decF, forall_eq] at h2; (have h2 := h2 (fun _ _ _ h => h)); simp [fillA, Act.put, hP] at h2; exact h2)
        · (intro ys w' hB hP K hK; simp only [Preds, Region.binds, decF, forall_const, and_true, true_and] at hP; simp only [fillA]; go_simp; (have h2 := fun v => hK v w' hB); simp only [decF, forall_eq] at h2; (have h2 := h2 (fun _ _ _ h => h)); simp [fillA, Act.put, hP] at h2; exact h2)
        · (intro ys w' hB hP; simp only [Preds, Region.binds, decF, forall_const, and_true, true_and] at hP)
          intro K hK
          simp only [fillA]
          go_simp
          have h2 := hK (.slice (some ⟨w'.heap.size, 0, none⟩) 1 1) (w'.alloc (.cells #[.int .u8 (48 + ((n : Int) % 10))] 5)) (hB.alloc _) ⟨_, rfl, heap_alloc_new _ _⟩ (fun j u _ h => h.gr ((Gr.refl _).alloc _))
          simp [fillA, Act.put, hP] at h2
          exact h2
        · (intro ys w' hB hP; simp only [Preds, Region.binds, decF, forall_const, and_true, true_and] at hP)
          obtain ⟨g, h7, h8⟩ : ∃ g, ys 7 = .slice (some ⟨g, 0, none⟩) 1 1 ∧ w'.heap[g]? = some (.cells #[.int .u8 (48 + ((n : Int) % 10))] 5 (0, 0)) := by simpa using hP
          have hcv := conv_at1 h8
          intro K hK
          simp only [fillA]
          go_simp
          have h2 := hK _ w' hB rfl (fun j u _ h => h)
          simp [fillA, Act.put, h7] at h2
          exact h2
        · (intro ys w' hB hP; simp only [Preds, Region.binds, decF, forall_const, and_true, true_and] at hP)
          obtain ⟨h2', h8'⟩ : ys 2 = .string (strOf (digs ((n : Int) / 10))) ∧ ys 8 = .string (strOf [48 + ((n : Int) % 10)]) := by simpa using hP
          have hs2 : (strOf [48 + ((n : Int) % 10)]).size = 1 := rfl
          have hs3 : ¬ 9223372036854775807 < (strOf (digs ((n : Int) / 10))).size + 1 := by omega
          have hdd : decF w n 9 (.string (strOf (digs ((n : Int) / 10)) ++ strOf [48 + ((n : Int) % 10)])) w' := by
            show _ = _
            rw [strOf_app, ← HD.out]
          intro K hK
          simp only [fillA]
          go_simp
          have h2 := hK _ w' hB hdd (fun j u _ h => h)
          simp [fillA, Act.put, h2', h8'] at h2
          exact h2
        · (intro ys w' hB hP K hK; simp only [Preds, Region.binds, decF, forall_const, and_true, true_and] at hP; simp only [fillA]; go_simp; (have h2 := fun v => hK v w' hB); simp only [decF, forall_eq] at h2; (have h2 := h2 (fun _ _ _ h => h)); simp [fillA, Act.put, hP] at h2; exact h2)
      · intro ys w' hB hF
        have f10 : ys 10 = _ := hF 10 (by decide)
        clear hF
        simp only [fillA, f10]
        clear f10
        go_wp2_with fail
        go_ret
        exact ⟨by simp [Act.put], hB⟩

theorem dec_any (y : Int) (h0 : 0 ≤ y) (h1 : y ≤ 65535) (w : World) : Calls Tryz.prog 70 #[.int .i64 y] w fun e w' => e = .returned (.string (strOf (digs y))) ∧ Gr w w' := by
  obtain ⟨k, rfl⟩ : ∃ k : Nat, y = k := ⟨y.toNat, by omega⟩
  exact decimal_walk k (by omega) w
theorem digs_size2 (y : Int) (h0 : 0 ≤ y) (h1 : y ≤ 65535) : (strOf (digs y)).size ≤ 7 := by
  obtain ⟨k, rfl⟩ : ∃ k : Nat, y = k := ⟨y.toNat, by omega⟩
  exact digs_size k (by omega)
/-- The document's Format stands behind k numbers. -/
def RFmt (w : World) (l : List Int) (k : Nat) (v : Value) (wr : World) : Prop := v = .string (strOf (fmtGo (l.take k))) ∧ Gr w wr
theorem fmtGo_snoc (l : List Int) (x : Int) : fmtGo (l ++ [x]) = (if l = [] then [] else fmtGo l ++ [59]) ++ digs (clipR x) := by
  induction l with
  | nil => simp [fmtGo]
  | cons n l ih =>
    cases l with
    | nil => simp [fmtGo]
    | cons m l =>
      rw [show (n :: m :: l) ++ [x] = n :: m :: (l ++ [x]) from rfl, show fmtGo (n :: m :: (l ++ [x])) = digs (clipR n) ++ 59 :: fmtGo ((m :: l) ++ [x]) from rfl, ih]
      simp [fmtGo]
theorem strOf_size' (l : List Int) : (strOf l).size = l.length := by simp [strOf, ByteArray.size]
theorem fmtGo_len (l : List Int) : (fmtGo l).length ≤ 6 * l.length := by
  have h := congrArg (fun b : ByteArray => b.data.toList.length) (join_fmt l)
  have h2 := fmt_len l
  simp [strOf] at h
  rw [List.map_map] at h2
  omega
theorem fmt_first {l : List Int} {x : Int} (h : l[0]? = some x) : strOf (fmtGo (l.take 1)) = strOf (digs (clipR x)) := by
  cases l with
  | nil => simp at h
  | cons y l => simp at h; subst h; rfl
theorem fmt_next {l : List Int} {x : Int} {k : Nat} (h : l[k]? = some x) (h0 : 0 < k) : strOf (fmtGo (l.take (k + 1))) = strOf (fmtGo (l.take k)) ++ ⟨#[59]⟩ ++ strOf (digs (clipR x)) := by
  have hk := (List.getElem?_eq_some_iff.1 h).1
  have hne : l.take k ≠ [] := by
    intro e
    have := congrArg List.length e
    rw [List.length_take, List.length_nil] at this; omega
  rw [List.take_add_one, h, Option.toList_some, fmtGo_snoc, if_neg hne, show (⟨#[59]⟩ : ByteArray) = strOf [59] from rfl, strOf_app, strOf_app]

set_option maxRecDepth 100000 in
set_option maxHeartbeats 2000000 in
theorem rfmt_walk {w : World} {a : Option Addr} {n cap : Nat} {l : List Int} (hr : Rd w a n (icells l)) (hcap : n ≤ cap) (hmax : cap ≤ maxLen) :
    Calls Tryz.prog 27 #[.slice a n cap] w fun e w' => e = .returned (.string (strOf (fmtR l))) ∧ Gr w w' := by
  unfold maxLen at hmax
  obtain ⟨m, hm⟩ : ∃ m, m = min n 30 := ⟨_, rfl⟩
  have hll : l.length = n := by simpa [icells] using hr.1
  have HL := Lib.hid hll
  have HRES := Lib.hid (show fmtR l = fmtGo (l.take m) by
    unfold fmtR; rw [hm]; congr 1
    rcases Nat.le_total n 30 with h | h
    · rw [Nat.min_eq_left h, List.take_of_length_le (by omega), List.take_of_length_le (by omega)]
    · rw [Nat.min_eq_right h])
  have HM := Lib.hid hm
  have hm30 : m ≤ 30 := by omega
  have hmn : m ≤ n := by omega
  clear hll hm
  go_enter Tryz.func27, Tryz.ntmps27
  go_wp2_with fail
  go_loopw [3, 4] (fun s i wr => ∃ k : Nat, k ≤ m ∧ i = .int .i64 k ∧ RFmt w l k s wr) (fun _ i _ => m - (intOf i).toNat)
  case atStart => exact ⟨0, Nat.zero_le _, rfl, by simp [fmtGo, strOf], Gr.refl _⟩
  case round =>
    obtain ⟨k, hk, rfl, rfl, hgr⟩ := hrel
    by_cases hlt : k < m
    · obtain ⟨b, off, u, rfl, hu, hcell, hb⟩ := (hr.gr hgr).at_ (show k < n by omega)
      obtain ⟨x, hx, rfl⟩ : ∃ x, l[k]? = some x ∧ u = .int .i64 x := by
        simp only [icells, List.getElem?_map] at hu
        rcases hx : l[k]? with _ | x
        · rw [hx] at hu; cases hu
        · rw [hx] at hu; simp at hu; exact ⟨x, rfl, hu.symm⟩
      have HX := Lib.hid hx
      have hfl : (strOf (fmtGo (l.take k))).size ≤ 180 := by
        have h1 := fmtGo_len (l.take k)
        rw [strOf_size']
        rw [List.length_take] at h1
        omega
      have hkn : (k : Int) < (n : Int) := by omega
      have hk30 : (k : Int) < 30 := by omega
      clear hr hu hx
      obtain ⟨f, hf⟩ : ∃ f, f = strOf (fmtGo (l.take k)) := ⟨_, rfl⟩
      rw [← hf] at hfl ⊢
      have HF := Lib.hid hf
      clear hf
      have hone : (⟨#[59]⟩ : ByteArray).size = 1 := rfl
      obtain ⟨y, hy⟩ : ∃ y, y = clipR x := ⟨_, rfl⟩
      have HY := Lib.hid hy
      have hy0 : 0 ≤ y ∧ y ≤ 65535 := by rw [hy]; exact clipR_in x
      have hds := digs_size2 y hy0.1 hy0.2
      have hdec := dec_any y hy0.1 hy0.2
      obtain ⟨d, hd⟩ : ∃ d, d = strOf (digs y) := ⟨_, rfl⟩
      rw [← hd] at hds hdec
      have hfin : RFmt w l (k + 1) (.string (if k = 0 then f ++ d else f ++ ⟨#[59]⟩ ++ d)) = fun wr => Gr w wr := by
        funext wr
        simp only [RFmt, eq_iff_iff, and_iff_right_iff_imp]
        intro _
        congr 1
        rw [hd, hy]
        by_cases h0 : k = 0
        · rw [if_pos h0]
          have hf0 : f = strOf [] := by rw [HF.out, h0]; rfl
          rw [hf0, strOf_app, h0, fmt_first (by rw [← h0]; exact HX.out)]
          rfl
        · rw [if_neg h0, HF.out, fmt_next HX.out (by omega)]
      have HFIN := Lib.hid hfin
      have hys : (x < 0 ∧ y = 0) ∨ (0 ≤ x ∧ x ≤ 65535 ∧ y = x) ∨ (65535 < x ∧ y = 65535) := by rw [hy]; unfold clipR; omega
      have hs1 : ¬ 9223372036854775807 < f.size + d.size := by omega
      have hs2 : ¬ 9223372036854775807 < f.size + 1 := by omega
      have hs3 : ¬ 9223372036854775807 < f.size + 1 + d.size := by omega
      clear hy hy0 hd hfin
      rcases Nat.eq_zero_or_pos k with h0 | h0
      all_goals rcases hys with ⟨h1, rfl⟩ | ⟨h1, h2, rfl⟩ | ⟨h1, rfl⟩
      all_goals
        try (subst h0; simp only [Nat.add_zero] at hcell)
        go_wp2_with (go_at_call 70; refine (hdec _).mono ?_; rintro e w2 ⟨rfl, hg2⟩)
        go_roundw
        case rel =>
          first | refine ⟨k + 1, by omega, by go_num, ?_⟩ | refine ⟨1, by omega, rfl, ?_⟩
          have := HFIN.out
          first
            | (simp only [if_true, Nat.zero_add] at this; rw [this]; exact hgr.trans hg2)
            | (rw [if_neg (by omega)] at this; rw [this]; exact hgr.trans hg2)
        case measure => simp [intOf]; omega
    · obtain rfl : k = m := by omega
      have hkn : ((k : Int) < (n : Int) ∧ ¬ (k : Int) < 30) ∨ ¬ (k : Int) < (n : Int) := by have := HM.out; omega
      clear hr
      rcases hkn with ⟨h1, h2⟩ | h1
      all_goals
        go_wp2_with fail
        go_ret
        exact ⟨by rw [HRES.out]; rfl, hgr⟩
end Go.Proofs.YtfkecgkfcldffaaGreatDoor
