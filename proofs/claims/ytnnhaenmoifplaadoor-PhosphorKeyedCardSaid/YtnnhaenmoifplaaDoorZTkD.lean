/-
  Bytes of a token, the small parts: an escape and a byte, in the program's text and in the document's.
  Numbers as a text, in the program's words: param.Format.
  Numbers as a text, in the document's words; an escape and a byte, there.
-/
import Derived.IntWalk
import Derived.Lib.Join
import Derived.Test.YtnnhaenmoifplaaDoorShelf
import Derived.Test.YtnnhaenmoifplaaDoorZTkA
import Derived.Test.YtnnhaenmoifplaaDoorZSrc
import Derived.Test.YtnnhaenmoifplaaDoorZPdT
import Derived.Test.YtnnhaenmoifplaaDoorZPdC
import Derived.Test.YtnnhaenmoifplaaDoorZSs
import Derived.Test.YtnnhaenmoifplaaDoorZOrd6
namespace Go.Proofs.YtnnhaenmoifplaaDoor
set_option linter.unusedSimpArgs false
set_option linter.unusedVariables false
open Go.RowKit

/-- A row of bytes of the call's own, from w0 on. -/
def BRow (w0 w : World) (v : Value) (l : List Int) : Prop := w.ownsRow w0.heap.size 5 1 v l.length (bcells l)
/-- What a function that adds bytes gives back. -/
def BOut (w0 : World) (l : List Int) (e : Ending) (w' : World) : Prop := ∃ v, e = .returned v ∧ BRow w0 w' v l ∧ Gr w0 w'
theorem u8i : (Tryd.prog.info? 5).map (fun i => (i.zero, i.size, i.bytes)) = some (some (.int .u8 0), 1, 1) := by kernel_rfl
theorem bytesT : Tryd.prog.underlying 32 = some (.slice 5) := Tryd.underlying32
theorem BRow.nil (w0 w : World) : BRow w0 w (.slice none 0 0) [] := World.ownsRow_nil _ _ _ _
theorem BRow.gr {w0 w w' : World} {v : Value} {l : List Int} (h : BRow w0 w v l) (hg : Gr w w') : BRow w0 w' v l := ownsRow_gr h hg
theorem BRow.form {w0 w : World} {v : Value} {l : List Int} (h : BRow w0 w v l) : ∃ a c, v = .slice a l.length c := row_form h
theorem BRow.app {w0 w : World} {va : Option Addr} {n m cap : Nat} {l l2 : List Int} (h : w.ownsRow w0.heap.size 5 1 (.slice va (n + m) cap) (n + m) (bcells l ++ bcells l2)) (hn : l.length = n) (hm : l2.length = m) : BRow w0 w (.slice va (n + m) cap) (l ++ l2) := by
  unfold BRow
  rw [show (l ++ l2).length = n + m by simp [hn, hm], show bcells (l ++ l2) = bcells l ++ bcells l2 by simp [bcells]]
  exact h

set_option maxHeartbeats 1000000 in
theorem pair_walk {w0 w : World} {v : Value} {l : List Int} {c : Int} (eight : Bool) (hr : BRow w0 w v l) (hg : Gr w0 w) (hl : l.length ≤ 100000) (hc : 0 ≤ c ∧ c < 256) :
    Calls Tryd.prog 49 #[v, .int .u8 c, .bool eight] w (BOut w0 (l ++ pairR c eight)) := by
  obtain ⟨a, cp, rfl⟩ := hr.form
  obtain ⟨n, hn⟩ : ∃ n, n = l.length := ⟨_, rfl⟩
  unfold BRow at hr
  rw [← hn] at hr hl ⊢
  have HN := Lib.hid hn; clear hn
  cases eight with
  | false =>
    go_enter Tryd.func49, Tryd.ntmps49
    go_wp2_with (at_builtin; (refine wpList_add (w0 := w0) rfl _ _ _ _ rfl 5 _ 1 bytesT u8i rfl (by omega) _ n _ rfl (hr.alloc _) (hg.alloc _) _ 2 [.int .u8 27, .int .u8 c] rfl (src_block bytesT _ (heap_alloc_new _ _) rfl (by simp [Value.oneCell'])) (by omega) ?_); intro va cap w' hown hgr)
    go_ret
    exact ⟨_, rfl, by rw [show pairR c false = [27, c] by simp [pairR]]; exact BRow.app (l2 := [27, c]) hown HN.out.symm rfl, hgr⟩
  | true =>
    by_cases h : 64 ≤ c ∧ c < 96
    · have h1 := in_true c 64 95 w h.1 (by omega)
      have hs : pairR c true = [c + 64] := by simp [pairR, h]
      have HS := Lib.hid hs; clear hs
      obtain ⟨h2, h3⟩ := h
      go_enter Tryd.func49, Tryd.ntmps49
      go_wp2_with (first
        | (go_at_call 60; refine h1.mono ?_; rintro e w' ⟨rfl, rfl⟩)
        | (at_builtin; (refine wpList_add (w0 := w0) rfl _ _ _ _ rfl 5 _ 1 bytesT u8i rfl (by omega) _ n _ rfl (hr.alloc _) (hg.alloc _) _ 1 [.int .u8 (c + 64)] rfl (src_block bytesT _ (heap_alloc_new _ _) rfl (by simp [Value.oneCell'])) (by omega) ?_); intro va cap w' hown hgr))
      go_ret
      exact ⟨_, rfl, by rw [HS.out]; exact BRow.app (l2 := [c + 64]) hown HN.out.symm rfl, hgr⟩
    · have h1 := in_false c 64 95 w (by omega)
      have hs : pairR c true = [27, c] := by simp [pairR]; omega
      have HS := Lib.hid hs; clear hs h
      go_enter Tryd.func49, Tryd.ntmps49
      go_wp2_with (first
        | (go_at_call 60; refine h1.mono ?_; rintro e w' ⟨rfl, rfl⟩)
        | (at_builtin; (refine wpList_add (w0 := w0) rfl _ _ _ _ rfl 5 _ 1 bytesT u8i rfl (by omega) _ n _ rfl (hr.alloc _) (hg.alloc _) _ 2 [.int .u8 27, .int .u8 c] rfl (src_block bytesT _ (heap_alloc_new _ _) rfl (by simp [Value.oneCell'])) (by omega) ?_); intro va cap w' hown hgr))
      go_ret
      exact ⟨_, rfl, by rw [HS.out]; exact BRow.app (l2 := [27, c]) hown HN.out.symm rfl, hgr⟩
end Go.Proofs.YtnnhaenmoifplaaDoor

namespace Go.Proofs.YtnnhaenmoifplaaDoor
set_option linter.unusedSimpArgs false
set_option linter.unusedVariables false
open Go.RowKit

def tabT (w : World) : Prop := Lib.TabIs Tryd.prog w "internal/strconv.uint64pow10" .u64 Lib.pow10Tab
theorem tabT.gr {w w' : World} (h : tabT w) (hg : Gr w w') : tabT w' := by
  obtain ⟨g, hgl⟩ : ∃ g, Tryd.prog.globalNamed "internal/strconv.uint64pow10" = some g := ⟨1, by kernel_rfl⟩
  exact tabIs_gr hgl (by decide) h hg
theorem grow_gr (w : World) (k : Nat) (os : Array Obj) : Gr w (Sort.grow (w.drewN k) os) := by
  refine ⟨rfl, rfl, rfl, by simp [Sort.grow], fun j hj => ?_⟩
  simp only [Sort.grow]
  rw [Array.getElem?_append_left (by simpa using hj)]
  rfl
theorem strOf_bytes (l : List UInt8) : strOf (l.map fun b => (b.toNat : Int)) = ⟨l.toArray⟩ := by
  unfold strOf
  rw [List.map_map]
  congr 2
  conv => rhs; rw [← List.map_id l]
  exact List.map_congr_left fun b _ => by simp
theorem itoa_walk {w : World} (n : Int) (h0 : 0 ≤ n) (h1 : n ≤ 65535) (hT : tabT w) : Calls Tryd.prog 62 #[.int .i64 n] w fun e w' => e = .returned (.string (strOf (digs n))) ∧ Gr w w' := by
  refine (Tryd.strconv_Itoa n (by omega) (by omega) w hT).mono ?_
  rintro e w' ⟨rfl, k, os, rfl⟩
  refine ⟨?_, grow_gr w k os⟩
  have : Lib.itoa n = Lib.decDigits n.toNat := by unfold Lib.itoa; rw [if_neg (by omega)]
  rw [this, digs, strOf_bytes]
theorem clip_max (x : Int) : max 0 (min x 65535) = clipR x := by unfold clipR; omega
theorem ret_i {k : IntKind} {a b : Int} (h : a = b) : Ending.returned (.int k a) = .returned (.int k b) := by rw [h]
theorem clip_any (x : Int) (w : World) : Calls Tryd.prog 47 #[.int .i64 x, .int .i64 0, .int .i64 65535] w fun e w' => e = .returned (.int .i64 (clipR x)) ∧ w = w' := by
  go_enter Tryd.func47, Tryd.ntmps47
  go_wp2
  go_ret
  exact ⟨ret_i (clip_max x), rfl⟩

/-- A row of strings of the call's own. -/
def scells (l : List ByteArray) : List Value := l.map Value.string
theorem strT : Tryd.prog.underlying 96 = some (.slice 9) := Tryd.underlying96
theorem stri : (Tryd.prog.info? 9).map (fun i => (i.zero, i.size, i.bytes)) = some (some (.string ⟨#[]⟩), 1, 16) := by kernel_rfl
theorem ints_elem : Tryd.prog.underlying 31 = some (.slice (Tryd.prog.elem 31)) := by kernel_rfl
theorem ints_size (w : World) : (sizeOf (Tryd.prog.elem 31)).run Tryd.prog w = .ok 1 w := by kernel_rfl
/-- The texts of numbers. -/
def dstr (n : Int) : ByteArray := strOf (digs (clipR n))
theorem dstr_bytes (n : Int) : (dstr n).data.toList = Lib.decDigits (clipR n).toNat := by
  unfold dstr digs; rw [strOf_bytes]
theorem join_fmt (l : List Int) : strOf (fmtGo l) = ⟨(Lib.join ((l.map dstr).map (·.data.toList)) [59]).toArray⟩ := by
  suffices h : fmtGo l = (Lib.join ((l.map dstr).map (·.data.toList)) [59]).map fun b => (b.toNat : Int) by rw [h, strOf_bytes]
  induction l with
  | nil => rfl
  | cons n l ih =>
    cases l with
    | nil => simp [fmtGo, Lib.join_one, dstr_bytes, digs]
    | cons m l =>
      rw [show fmtGo (n :: m :: l) = digs (clipR n) ++ 59 :: fmtGo (m :: l) from rfl, ih]
      simp only [List.map_cons, Lib.join, List.intercalate, List.intersperse, List.flatten_cons, List.map_append, dstr_bytes, digs, List.map_nil]
      simp
theorem fmt_len (l : List Int) : (Lib.join ((l.map dstr).map (·.data.toList)) [59]).length ≤ 6 * l.length := by
  have h := congrArg (fun b : ByteArray => b.data.toList.length) (join_fmt l)
  simp [strOf] at h
  rw [List.map_map, ← h]
  clear h
  induction l with
  | nil => simp [fmtGo]
  | cons n l ih =>
    have hd : (digs (clipR n)).length ≤ 5 := by
      obtain ⟨k, hk⟩ : ∃ k : Nat, clipR n = k := ⟨(clipR n).toNat, by have := clipR_in n; omega⟩
      have hk2 : k < 100000 := by have := clipR_in n; omega
      rw [hk]
      unfold digs
      rw [List.length_map, Int.toNat_natCast, Lib.decDigits_length]
      have hs : ∀ j, Lib.nDigits j = if j < 10 then 1 else Lib.nDigits (j / 10) + 1 := fun j => by rw [Lib.nDigits]; split <;> rfl
      rw [hs, hs, hs, hs, hs]
      repeat' split
      all_goals omega
    cases l with
    | nil => simp [fmtGo]; omega
    | cons m l => simp only [fmtGo, List.length_append, List.length_cons] at ih ⊢; omega
/-- Where Format stands. -/
def FmtAt (w : World) (l : List Int) (k : Nat) (v : Value) (wr : World) : Prop := wr.ownsRow w.heap.size 9 1 v k (scells ((l.take k).map dstr)) ∧ Gr w wr
theorem FmtAt.add {w wr : World} {l : List Int} {k : Nat} {va : Option Addr} {cap : Nat} {x : Int} (hx : l[k]? = some x) (h : wr.ownsRow w.heap.size 9 1 (.slice va (k + 1) cap) (k + 1) (scells ((l.take k).map dstr) ++ [.string (dstr x)])) (hg : Gr w wr) : FmtAt w l (k + 1) (.slice va (k + 1) cap) wr := by
  refine ⟨?_, hg⟩
  have hk := (List.getElem?_eq_some_iff.1 hx).1
  have e : (l.take (k + 1)).map dstr = (l.take k).map dstr ++ [dstr x] := by
    rw [List.take_add_one, hx]; simp
  rw [e]
  simpa [scells] using h

set_option maxRecDepth 100000 in
set_option maxHeartbeats 1000000 in
theorem fmt_walk {w : World} {a : Option Addr} {n cap : Nat} {l : List Int} (hr : Rd w a n (icells l)) (hcap : n ≤ cap) (hT : tabT w) :
    Calls Tryd.prog 51 #[.slice a n cap] w fun e w' => e = .returned (.string (strOf (fmtR l))) ∧ Gr w w' := by
  obtain ⟨m, hm⟩ : ∃ m, m = min n 30 := ⟨_, rfl⟩
  obtain ⟨a', hrun, hcut⟩ := cut_to ints_elem ints_size a n cap m (by omega) hcap
  have hr' := hcut _ _ hr
  have hll : l.length = n := by simpa [icells] using hr.1
  obtain ⟨l', hl'⟩ : ∃ l', l' = l.take m := ⟨_, rfl⟩
  have hR : Rd w a' m (icells l') := by rw [hl']; simpa [icells, List.map_take] using hr'
  have hlm : l'.length = m := by rw [hl', List.length_take]; omega
  have hres : fmtR l = fmtGo l' := by
    unfold fmtR; rw [hl', hm]
    congr 1
    rcases Nat.le_total n 30 with h | h
    · rw [Nat.min_eq_left h, List.take_of_length_le (by omega), List.take_of_length_le (by omega)]
    · rw [Nat.min_eq_right h]
  have hm30 : m ≤ 30 := by omega
  have hmi : min (n : Int) 30 = (m : Int) := by omega
  have HRES := Lib.hid hres
  clear hcut hr hr' hl' hres hm hll
  have HM := Lib.hid hlm; clear hlm
  go_enter Tryd.func51, Tryd.ntmps51
  go_wp2_with fail
  go_loopw [3, 12] (fun v i wr => ∃ k : Nat, k ≤ m ∧ i = .int .i64 k ∧ FmtAt w l' k v wr) (fun _ i _ => m - (intOf i).toNat)
  case atStart => exact ⟨0, Nat.zero_le _, rfl, World.ownsRow_nil _ _ _ _, Gr.refl _⟩
  case round =>
    obtain ⟨k, hk, rfl, hrow, hgr⟩ := hrel
    obtain ⟨va, vc, rfl⟩ := row_form hrow
    by_cases hlt : k < m
    · obtain ⟨b, off, u, rfl, hu, hcell, hb⟩ := (hR.gr hgr).at_ hlt
      obtain ⟨x, hx, rfl⟩ : ∃ x, l'[k]? = some x ∧ u = .int .i64 x := by
        simp only [icells, List.getElem?_map] at hu
        rcases hx : l'[k]? with _ | x
        · rw [hx] at hu; cases hu
        · rw [hx] at hu; simp at hu; exact ⟨x, rfl, hu.symm⟩
      have HX := Lib.hid hx
      have hcl := clipR_in x
      have hT2 := hT.gr hgr
      have hkm : (k : Int) < (m : Int) := by omega
      clear hR hu hrun hx
      go_wp2_with (first
        | (go_at_call 47; refine (clip_any x _).mono ?_; rintro e w1 ⟨rfl, rfl⟩)
        | (go_at_call 62; refine (itoa_walk (clipR x) hcl.1 hcl.2 hT2).mono ?_; rintro e w2 ⟨rfl, hg2⟩)
        | (at_builtin; refine wpList_add (w0 := w) rfl _ _ _ _ rfl 9 _ 16 strT stri rfl (by omega) _ k _ rfl ((ownsRow_gr hrow hg2).alloc _) ((hgr.trans hg2).alloc _) _ 1 [.string (strOf (digs (clipR x)))] rfl (src_block strT _ (heap_alloc_new _ _) rfl (by simp [Value.oneCell'])) (by omega) ?_; intro ga cap2 w3 hown hg3))
      go_roundw
      case rel => exact ⟨k + 1, by omega, by go_num, FmtAt.add HX.out hown hg3⟩
      case measure => simp [intOf]; omega
    · obtain rfl : k = m := by omega
      have hkm : ¬ (k : Int) < (k : Int) := by omega
      rw [List.take_of_length_le (by have := HM.out; omega)] at hrow
      rcases l' with _ | ⟨x, l'⟩
      · obtain rfl : k = 0 := by have := HM.out; simpa using this.symm
        have hj := fun w => Tryd.strings_Join_none va vc ⟨#[59]⟩ w
        clear hR hrun
        go_wp2_with (go_at_call 63; refine (hj _).mono ?_; rintro e w2 ⟨rfl, rfl⟩)
        go_ret
        exact ⟨by rw [HRES.out]; rfl, hgr⟩
      · obtain ⟨g, cap3, hv, _, hlt3⟩ := hrow.form (by have := HM.out; simp at this; omega)
        have hc3 := hrow.cells (g := g) (by rw [hv]; rfl)
        injection hv with hv1 hv2 hv3
        subst hv1; subst hv3
        have hcap3 : k ≤ vc := by
          rcases hrow.2 with ⟨hv, _⟩ | ⟨g', cap', cur, hv, _, _, hn, _⟩
          · cases hv
          · injection hv with _ _ e; omega
        have hj := Tryd.strings_Join g 0 vc (((x :: l').map dstr)) ⟨#[59]⟩
        rw [List.length_map, HM.out] at hj
        have hj2 := fun wr h1 h2 => hj wr h1 h2 (by omega) hcap3 (by have := fmt_len (x :: l'); have := HM.out; simp only [ByteArray.data] at *; omega)
        have hcells : ∀ (j : Nat) (y : ByteArray), ((x :: l').map dstr)[j]? = some y → wr.cell? ⟨g, 0 + j, none⟩ = some (.string y) := by
          intro j y hy
          have := hc3 j (.string y) (by rw [scells, List.getElem?_map, hy]; rfl)
          have e : (⟨g, 0, none⟩ : Addr).add j = ⟨g, 0 + j, none⟩ := by rcases j with _ | j <;> simp [Addr.add]
          rwa [e] at this
        have hj3 := hj2 wr hcells hlt3
        clear hR hrun hj hj2 hcells hc3
        go_wp2_with (go_at_call 63; refine hj3.mono ?_; rintro e w2 ⟨rfl, hg2⟩)
        go_ret
        refine ⟨?_, hgr.trans hg2⟩
        rw [HRES.out, join_fmt]
        simp only [List.map_cons, List.map_map]
        rfl
end Go.Proofs.YtnnhaenmoifplaaDoor

namespace Go.Proofs.YtnnhaenmoifplaaDoor
set_option linter.unusedSimpArgs false
set_option linter.unusedVariables false
open Go.RowKit

theorem conv_new (w : World) (l : List Int) (n : Nat) (hn : l.length = n) : (convert 32 9 (.slice (some ⟨w.heap.size, 0, none⟩) n n)).run Tryd.prog (w.alloc (.cells (bcells l).toArray 5)) = .ok (.string (strOf l)) (w.alloc (.cells (bcells l).toArray 5)) := by
  subst hn
  have h : HasRow (w.alloc (.cells (bcells l).toArray 5)) 5 (.slice (some ⟨w.heap.size, 0, none⟩) l.length l.length) l.length (bcells l) :=
    ⟨by simp [bcells], .inr ⟨w.heap.size, l.length, _, rfl, ⟨_, heap_alloc_new _ _⟩, Nat.le_refl _, by simp [bcells], by simp only [bcells]; exact List.take_of_length_le (by simp)⟩⟩
  exact conv_row h
theorem conv1 (w : World) (c : Int) : (convert 32 9 (.slice (some ⟨w.heap.size, 0, none⟩) 1 1)).run Tryd.prog (w.alloc (.cells #[.int .u8 c] 5)) = .ok (.string (strOf [c])) (w.alloc (.cells #[.int .u8 c] 5)) := conv_new w [c] 1 rfl
theorem strOf_size' (l : List Int) : (strOf l).size = l.length := by simp [strOf, ByteArray.size]
theorem fmtGo_len (l : List Int) : (fmtGo l).length ≤ 6 * l.length := by
  have h := congrArg (fun b : ByteArray => b.data.toList.length) (join_fmt l)
  have h2 := fmt_len l
  simp [strOf] at h
  rw [List.map_map] at h2
  omega
end Go.Proofs.YtnnhaenmoifplaaDoor
