/-
  Tab stops told as a text: the walks.
-/
import Derived.Test.YtjdmobildcgidaaDoorTbZ
namespace Go.Proofs.YtjdmobildcgidaaDoor
set_option linter.unusedSimpArgs false
set_option linter.unusedVariables false
open Go.RowKit
set_option linter.unusedVariables false

def scells (l : List ByteArray) : List Value := l.map Value.string
theorem strT : Tryd.prog.underlying 63 = some (.slice 9) := Tryd.underlying63
theorem stri : (Tryd.prog.info? 9).map (fun i => (i.zero, i.size, i.bytes)) = some (some (.string ⟨#[]⟩), 1, 16) := by kernel_rfl
theorem scells_one (l : List ByteArray) : ∀ c ∈ scells l, c.oneCell' = true := by
  intro c hc; obtain ⟨_, _, rfl⟩ := List.mem_map.1 hc; rfl
/-- The texts of k numbers. -/
def RepAt (w : World) (L : List Nat) (k : Nat) (v : Value) (wr : World) : Prop := wr.ownsRow w.heap.size 9 1 v k (scells ((L.take k).map rstr)) ∧ Gr w wr
theorem RepAt.add {w wr : World} {L : List Nat} {k : Nat} {va : Option Addr} {cap : Nat} {x : Nat} (hx : L[k]? = some x) (h : wr.ownsRow w.heap.size 9 1 (.slice va (k + 1) cap) (k + 1) (scells ((L.take k).map rstr) ++ [.string (rstr x)])) (hg : Gr w wr) : RepAt w L (k + 1) (.slice va (k + 1) cap) wr := by
  refine ⟨?_, hg⟩
  have e : (L.take (k + 1)).map rstr = (L.take k).map rstr ++ [rstr x] := by
    rw [List.take_add_one, hx]; simp
  rw [e]
  simpa [scells] using h
theorem rep_blen (L : List Nat) (h : ∀ x ∈ L, x ≤ 512) : (Lib.join ((L.map rstr).map (·.data.toList)) [47]).length ≤ 8 * L.length := repB_len L h

set_option maxRecDepth 100000 in
set_option maxHeartbeats 2000000 in
theorem report_any (p : Nat) (n : Int) (f : Nat → Bool) (w : World) (h : StAt w p n f) (hT : TabOk w) (hT2 : tabT w) :
    Calls Tryd.prog 25 #[.pointer (some ⟨p, 0, none⟩)] w fun e w' => e = .returned (.string (strOf (repGo (listF f 512)))) ∧ Gr w w' := by
  have hls := list_any p n f w h hT
  obtain ⟨L, hL⟩ : ∃ L, L = listF f 512 := ⟨_, rfl⟩
  have hL5 : L.length ≤ 512 := by rw [hL]; exact listF_len f 512
  have hLx : ∀ x ∈ L, x ≤ 512 := by rw [hL]; exact listF_le f 512
  rw [← hL] at hls ⊢
  clear hL h hT
  have HX := Lib.hid hLx
  clear hLx
  go_enter Tryd.func25, Tryd.ntmps25
  go_wp2_with (go_at_call 19; (with_reducible refine hls.mono ?_); rintro e w1 ⟨va, cap, rfl, hown, hg1⟩)
  clear hls
  obtain ⟨m, hm⟩ : ∃ m, m = L.length := ⟨_, rfl⟩
  rw [← hm] at hown hL5 ⊢
  have HM := Lib.hid hm
  clear hm
  have HR := Lib.hid (HasRow.of_own hown)
  clear hown
  go_loopw [3, 9] (fun v i wr => ∃ k : Nat, k ≤ m ∧ i = .int .i64 k ∧ RepAt w1 L k v wr) (fun _ i _ => m - (intOf i).toNat)
  case atStart => exact ⟨0, Nat.zero_le _, rfl, World.ownsRow_nil _ _ _ _, Gr.refl _⟩
  case round =>
    obtain ⟨k, hk, rfl, hrow, hgr1⟩ := hrel
    have hgr := hg1.trans hgr1
    obtain ⟨vb, vc, rfl⟩ := row_form hrow
    by_cases hlt : k < m
    · obtain ⟨g, cap2, u, hv, hu, hcell⟩ := (HR.out.gr hgr1).at_ hlt
      injection hv with e1 e2 e3
      subst e1; subst e3; clear e2
      have hux := ncells_at hu
      subst hux
      obtain ⟨x, hx⟩ : ∃ x, L[k]? = some x := ⟨L[k]'(by have := HM.out; omega), List.getElem?_eq_getElem _⟩
      have hx5 := HX.out x (List.mem_of_getElem? hx)
      rw [List.getD_eq_getElem?_getD, hx, Option.getD_some] at hcell
      have hit := fun (W : World) (hg : Gr w W) => itoa_walk (w := W) ((x : Int) + 1) (by omega) (by omega) (hT2.gr hg)
      rw [show strOf (digs ((x : Int) + 1)) = rstr x from rfl] at hit
      have HXX := Lib.hid hx
      have hkm : (k : Int) < (m : Int) := by omega
      clear hu hx
      go_wp2_with (first
        | (go_at_call 36; (with_reducible refine (hit _ ?_).mono ?_); ((repeat (first | with_reducible exact Gr.refl _ | with_reducible assumption | with_reducible refine Gr.setCell ?_ (by simp; try omega) _ | with_reducible refine Gr.alloc ?_ _ | with_reducible refine Gr.drew ?_ | with_reducible refine Gr.drewN ?_ _ | with_reducible refine Gr.trans ?_ (by assumption)))); rintro e w2 ⟨rfl, hg2⟩)
        | (at_builtin; refine wpList_add (w0 := w1) rfl _ _ _ _ rfl 9 _ 16 strT stri rfl (by omega) _ k _ rfl ((ownsRow_gr hrow hg2).alloc _) ((hgr1.trans hg2).alloc _) _ 1 [.string (rstr x)] rfl (src_block strT _ (heap_alloc_new _ _) rfl (by simp [Value.oneCell'])) (by omega) ?_; intro ga cap3 w3 hown hg3))
      go_roundw
      case rel => exact ⟨k + 1, by omega, by go_num, RepAt.add HXX.out hown hg3⟩
      case measure => simp [intOf]; omega
    · obtain rfl : k = m := by omega
      have hkm : ¬ (k : Int) < (k : Int) := by omega
      rw [List.take_of_length_le (by have := HM.out; omega)] at hrow
      rcases L with _ | ⟨x, L'⟩
      · obtain rfl : k = 0 := by have := HM.out; simpa using this
        have hj := fun w => Tryd.strings_Join_none vb vc ⟨#[47]⟩ w
        go_wp2_with (go_at_call 37; (with_reducible refine (hj _).mono ?_); rintro e w2 ⟨rfl, rfl⟩)
        go_ret
        exact ⟨rfl, hgr⟩
      · obtain ⟨g, cap3, hv, _, hlt3⟩ := hrow.form (by have := HM.out; simp at this; omega)
        have hc3 := hrow.cells (g := g) (by rw [hv]; rfl)
        injection hv with hv1 hv2 hv3
        subst hv1; subst hv3
        have hcap3 : k ≤ vc := by
          rcases hrow.2 with ⟨hv, _⟩ | ⟨g', cap', cur, hv, _, _, hn, _⟩
          · cases hv
          · injection hv with _ _ e; omega
        have hj := Tryd.strings_Join g 0 vc (((x :: L').map rstr)) ⟨#[47]⟩
        rw [List.length_map, ← HM.out] at hj
        have hj2 := fun wr h1 h2 => hj wr h1 h2 (by omega) hcap3 (by have := rep_blen (x :: L') HX.out; have := HM.out; simp only [ByteArray.data] at *; omega)
        have hcells : ∀ (j : Nat) (y : ByteArray), ((x :: L').map rstr)[j]? = some y → wr.cell? ⟨g, 0 + j, none⟩ = some (.string y) := by
          intro j y hy
          have := hc3 j (.string y) (by rw [scells, List.getElem?_map, hy]; rfl)
          have e : (⟨g, 0, none⟩ : Addr).add j = ⟨g, 0 + j, none⟩ := by rcases j with _ | j <;> simp [Addr.add]
          rwa [e] at this
        have hj3 := hj2 wr hcells hlt3
        rw [← join_rep] at hj3
        obtain ⟨R, hR⟩ : ∃ R, R = strOf (repGo (x :: L')) := ⟨_, rfl⟩
        rw [← hR] at hj3
        have HRR := Lib.hid hR
        clear hR hj hj2 hcells hc3
        go_wp2_with (go_at_call 37; (with_reducible refine hj3.mono ?_); rintro e w2 ⟨rfl, hg2⟩)
        go_ret
        exact ⟨by rw [HRR.out]; rfl, hgr.trans hg2⟩

/-- So many columns told. -/
theorem rep_step (f : Nat → Bool) (i : Nat) (hf : f i = true) : repGo (listF f (i + 1)) = (if listF f i = [] then [] else repGo (listF f i) ++ [47]) ++ digs ((i : Int) + 1) := by
  rw [listF_succ, if_pos hf, repGo_snoc]
theorem strOf_size' (l : List Int) : (strOf l).size = l.length := by simp [strOf, ByteArray.size]
set_option maxRecDepth 100000 in
set_option maxHeartbeats 2000000 in
theorem rreport_any (B : Nat) (v : Value) (l : List Bool) (w : World) (h : BL B w v l) (hl : l.length ≤ 500) :
    Calls Tryd.prog 26 #[v] w fun e w' => e = .returned (.string (strOf (repGo (listF (lf l) 512)))) ∧ Gr w w' := by
  obtain ⟨va, cap, rfl⟩ := h.1.form
  rw [listF_end l 512 (by omega)]
  have HL := Lib.hid h
  clear h
  obtain ⟨N, hN⟩ : ∃ N, N = l.length := ⟨_, rfl⟩
  rw [← hN] at hl
  have HN := Lib.hid hN
  rw [← hN]
  clear hN
  go_enter Tryd.func26, Tryd.ntmps26
  go_wp2_with fail
  go_loopw [3, 4] (fun sv iv wr => ∃ i : Nat, iv = .int .i64 (i : Int) ∧ i ≤ N ∧ sv = .string (strOf (repGo (listF (lf l) i))) ∧ Gr w wr) (fun _ iv _ => N - (intOf iv).toNat)
  case atStart => exact ⟨0, rfl, Nat.zero_le _, rfl, by (repeat (first | with_reducible exact Gr.refl _ | with_reducible assumption | with_reducible refine Gr.setCell ?_ (by simp; try omega) _ | with_reducible refine Gr.alloc ?_ _ | with_reducible refine Gr.drew ?_ | with_reducible refine Gr.drewN ?_ _ | with_reducible refine Gr.trans ?_ (by assumption)))⟩
  case round =>
    obtain ⟨i, rfl, hi, rfl, hgr⟩ := hrel
    by_cases hlt : i < N
    · have hiN : (i : Int) < (N : Int) := by omega
      obtain ⟨g, cap2, hv, hc⟩ := (HL.out.gr hgr).at_ (k := i) (by have := HN.out; omega)
      injection hv with e1 e2 e3
      subst e1
      have hs := listF_succ (lf l) i
      have hst := rep_step (lf l) i
      obtain ⟨b, hb⟩ : ∃ b, b = l.getD i false := ⟨_, rfl⟩
      have hfb : lf l i = b := by rw [hb]; rfl
      rw [← hb] at hc
      rw [hfb] at hs hst
      clear hfb hb e2 e3
      cases b with
      | true =>
        have hst := hst rfl
        have hdec := decimal_walk (i + 1) (by omega)
        rw [show ((i + 1 : Nat) : Int) = (i : Int) + 1 by omega] at hdec
        have hds := digs_size (i + 1) (by omega)
        rw [show ((i + 1 : Nat) : Int) = (i : Int) + 1 by omega] at hds
        have hlen := rep_len (listF (lf l) i) (fun x hx => by have := listF_le _ _ x hx; omega)
        have hl2 := listF_len (lf l) i
        by_cases hnil : listF (lf l) i = []
        · rw [if_pos hnil, List.nil_append] at hst
          have HS := Lib.hid hst
          rw [hnil]
          have h0 : strOf (repGo []) = ⟨#[]⟩ := rfl
          rw [h0]
          obtain ⟨d, hd⟩ : ∃ d, d = strOf (digs ((i : Int) + 1)) := ⟨_, rfl⟩
          have HD := Lib.hid hd
          rw [← hd] at hdec hds
          have hsz : ¬ 9223372036854775807 < (⟨#[]⟩ : ByteArray).size + d.size := by
            have : (⟨#[]⟩ : ByteArray).size = 0 := rfl
            omega
          have h00 : (⟨#[]⟩ : ByteArray).size = 0 := rfl
          clear hst hs hnil hd h0 hlen hl2
          go_wp2_with (go_at_call 38; (with_reducible refine (hdec _).mono ?_); rintro e w2 ⟨rfl, hg2⟩)
          go_roundw
          case rel => exact ⟨i + 1, by go_num, by omega, by rw [HS.out, HD.out]; rfl, hgr.trans hg2⟩
          case measure => simp [intOf]; omega
        · rw [if_neg hnil] at hst
          have HS := Lib.hid hst
          have hne := rep_ne hnil
          obtain ⟨r, hr⟩ : ∃ r, r = strOf (repGo (listF (lf l) i)) := ⟨_, rfl⟩
          have hrs : r.size ≤ 8 * 500 := by rw [hr, strOf_size']; omega
          have hre : r.toList.isEmpty = false := by
            rw [ByteArray.toList_eq, hr]
            simpa [strOf] using hne
          have hre2 : r.toList ≠ [] := by intro e; rw [e] at hre; cases hre
          obtain ⟨d, hd⟩ : ∃ d, d = strOf (digs ((i : Int) + 1)) := ⟨_, rfl⟩
          have HD := Lib.hid hd
          have HR := Lib.hid hr
          rw [← hd] at hdec hds
          rw [← hr]
          have hone : (⟨#[47]⟩ : ByteArray).size = 1 := rfl
          have hs2 : ¬ 9223372036854775807 < r.size + 1 := by omega
          have hs3 : ¬ 9223372036854775807 < r.size + 1 + d.size := by omega
          clear hst hs hnil hd hr hlen hl2 hne
          go_wp2_with (go_at_call 38; (with_reducible refine (hdec _).mono ?_); rintro e w2 ⟨rfl, hg2⟩)
          go_roundw
          case rel => exact ⟨i + 1, by go_num, by omega, by rw [HS.out, HD.out, HR.out, ← strOf_app, ← strOf_app]; rfl, hgr.trans hg2⟩
          case measure => simp [intOf]; omega
      | false =>
        rw [if_neg (by decide), List.append_nil] at hs
        have HS := Lib.hid hs
        clear hs hst
        go_wp2_with fail
        go_roundw
        case rel => exact ⟨i + 1, by go_num, by omega, by rw [HS.out], hgr⟩
        case measure => simp [intOf]; omega
    · obtain rfl : i = N := by omega
      obtain ⟨r, hr⟩ : ∃ r, r = strOf (repGo (listF (lf l) i)) := ⟨_, rfl⟩
      have HR := Lib.hid hr
      rw [← hr]
      clear hr
      go_wp2_with fail
      go_ret
      exact ⟨by rw [← HR.out]; rfl, hgr⟩
end Go.Proofs.YtjdmobildcgidaaDoor
