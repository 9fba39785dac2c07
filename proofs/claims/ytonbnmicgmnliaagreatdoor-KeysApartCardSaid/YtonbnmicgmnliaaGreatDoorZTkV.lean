/-
  The document's bytes of sequences and strings; of any token that can be.
  The document's bytes of any token that can be; both texts' bytes as one word.
-/
import Derived.Test.YtonbnmicgmnliaaGreatDoorZTkT
import Derived.Test.YtonbnmicgmnliaaGreatDoorZTkS
import Derived.Test.YtonbnmicgmnliaaGreatDoorZTkO
namespace Go.Proofs.YtonbnmicgmnliaaGreatDoor
set_option linter.unusedSimpArgs false
set_option linter.unusedVariables false
open Go.RowKit
set_option linter.unusedVariables false

theorem src_pair {w : World} {B n : Nat} {v : Value} {l : List Int} (hn : n = l.length) (h : w.ownsRow B 5 1 v n (bcells l)) : Src Tryz.prog 1 31 v n (bcells l) w := by
  subst hn; exact src_has (HasRow.of_own h)
theorem rb_of {w : World} {B n : Nat} {v : Value} {xs : List Value} {L : List Int} (h : w.ownsRow B 5 1 v n xs) (hx : xs = bcells L) : HasRow w 5 v L.length (bcells L) := by
  subst hx
  have hn : n = L.length := by have := h.1; simpa [bcells] using this.symm
  subst hn
  exact HasRow.of_own h

set_option maxRecDepth 100000 in
set_option maxHeartbeats 4000000 in
theorem rb_csi {w : World} {k c m : Int} {ps l d : List Int} {a1 a2 : Option Addr} {n1 c1 n2 c2 : Nat} (eight : Bool) (hl : IntsOk l) (hp : Rd w a1 n1 (icells ps)) (hcap : n1 ≤ c1) (hmax : c1 ≤ maxLen) :
    Calls Tryz.prog 27 #[.agg #[.int .i64 4, .int .u8 c, .int .u8 0, .slice a1 n1 c1, .string (strOf l), .slice a2 n2 c2], .bool eight] w (RBOut w (pairR (begR 4) eight ++ fmtR ps ++ l ++ [c])) := by
  have hsz : (strOf l).size ≤ 3 := by rw [strOf_size']; exact hl.1
  have hcl : (strOf l).data.toList.map (fun b => Value.int .u8 (b.toNat : Int)) = bcells l := byteCells_strOf l fun c hc => by have := hl.2 c hc; omega
  have hfz : (strOf (fmtR ps)).size ≤ 180 := by rw [strOf_size']; exact fmtR_len ps
  have hfl : (strOf (fmtR ps)).data.toList.map (fun b => Value.int .u8 (b.toNat : Int)) = bcells (fmtR ps) := byteCells_strOf (fmtR ps) fun c hc => by have := fmtR_in ps c hc; omega
  have hfm := fun w' (hg : Gr w w') => rfmt_walk (cap := c1) (hp.gr hg) hcap hmax
  obtain ⟨fs, hfd⟩ : ∃ fs, fs = strOf (fmtR ps) := ⟨_, rfl⟩
  rw [← hfd] at hfz hfl hfm
  obtain ⟨s, hsd⟩ : ∃ s, s = strOf l := ⟨_, rfl⟩
  rw [← hsd] at hsz hcl ⊢
  have HC := Lib.hid hcl
  have HF := Lib.hid hfl
  have hb0 := heap_alloc_new w (.cells #[.int .i64 4, .int .u8 c, .int .u8 0, .slice a1 n1 c1, .string s, .slice a2 n2 c2] 65)
  have hw0 := (Gr.refl w).alloc (.cells #[.int .i64 4, .int .u8 c, .int .u8 0, .slice a1 n1 c1, .string s, .slice a2 n2 c2] 65)
  have hb1 : ∀ w9, Gr (w.alloc (.cells #[.int .i64 4, .int .u8 c, .int .u8 0, .slice a1 n1 c1, .string s, .slice a2 n2 c2] 65)) w9 → w9.heap[w.heap.size]? = some (.cells #[.int .i64 4, .int .u8 c, .int .u8 0, .slice a1 n1 c1, .string s, .slice a2 n2 c2] 65 (0, 0)) := fun w9 hg => hg.blk hb0
  have hbeg := fun w => begins_walk 4 w
  obtain ⟨b, hb⟩ : ∃ b, b = begR 4 := ⟨_, rfl⟩
  have hb256 : 0 ≤ b ∧ b < 256 := by rw [hb]; unfold begR; (repeat' split) <;> omega
  have hpr1 := fun w => rpair_own (w := w) (c := b) eight hb256
  have hpr2 := fun w => rpair_own (w := w) (c := 92) eight (by omega)
  rw [← hb] at hbeg ⊢
  clear hsd hb hb256 hcl hfl hfd hp hl
  go_enter Tryz.func27, Tryz.ntmps27
  go_upto_region 1 with (fail)
  obtain ⟨wb, hwb⟩ : ∃ wb, wb = w.alloc (.cells #[.int .i64 4, .int .u8 c, .int .u8 0, .slice a1 n1 c1, .string s, .slice a2 n2 c2] 65) := ⟨_, rfl⟩
  rw [← hwb] at hb1 hw0 ⊢
  have hS := fun (w9 : World) (hg : Gr wb w9) => cells6 (hb1 w9 hg)
  have hbz : w.heap.size < wb.heap.size := by rw [hwb]; simp
  clear hwb hb0
  have hgb := Gr.refl wb
  obtain ⟨t0, t1, t2, t3, t4, t5, tf⟩ := hS _ hgb
  go_wp2_with (first
    | (go_at_call 39; (with_reducible refine (hbeg _).mono ?_); rintro e w1 ⟨rfl, rfl⟩)
    | (go_at_call 38; (first
       | ((with_reducible refine (hpr1 _).mono ?_); rintro e w2 ⟨va2, vc2, p2, rfl, hn2, hle2, hown2, hg2⟩; have HN2 := Lib.hid hn2; clear hn2; obtain ⟨y0, y1, y2, y3, y4, y5, yf⟩ := hS _ hg2)))
    | (go_at_call 40; (with_reducible refine (hfm _ ?_).mono ?_); (refine hw0.trans ?_; (repeat (first | with_reducible exact Gr.refl _ | with_reducible assumption | with_reducible refine Gr.setCell ?_ (by simp; try omega) _ | with_reducible refine Gr.alloc ?_ _ | with_reducible refine Gr.drew ?_ | with_reducible refine Gr.drewN ?_ _ | with_reducible refine Gr.trans ?_ (by assumption)))); rintro e w4 ⟨rfl, hg4⟩)
    | ((with_reducible refine wpList_s2b rfl _ _ _ 5 rfl Tryz.underlying9 bytesT Tryz.underlying5 fs rfl ?_); intro cap5 w5 hcap5 hrow5 hg5 hz5)
    | (at_builtin; refine wpList_addX (w0 := wb) rfl _ _ _ _ rfl 5 _ 1 bytesT u8i rfl _ (p2) _ rfl (ownsRow_gr hown2 (by (repeat (first | with_reducible exact Gr.refl _ | with_reducible assumption | with_reducible refine Gr.setCell ?_ (by simp; try omega) _ | with_reducible refine Gr.alloc ?_ _ | with_reducible refine Gr.drew ?_ | with_reducible refine Gr.drewN ?_ _ | with_reducible refine Gr.trans ?_ (by assumption))))) (by (repeat (first | with_reducible exact Gr.refl _ | with_reducible assumption | with_reducible refine Gr.setCell ?_ (by simp; try omega) _ | with_reducible refine Gr.alloc ?_ _ | with_reducible refine Gr.drew ?_ | with_reducible refine Gr.drewN ?_ _ | with_reducible refine Gr.trans ?_ (by assumption)))) _ fs.size _ rfl (src_at bytesT hrow5) (by unfold maxLen; omega) (by omega) ?_; intro va6 vc6 w6 hown6 hg6 _; obtain ⟨x60, x61, x62, x63, x64, x65, x6f⟩ := hS _ hg6)
    | ((with_reducible refine wpList_s2b rfl _ _ _ 5 rfl Tryz.underlying9 bytesT Tryz.underlying5 s rfl ?_); intro cap7 w7 hcap7 hrow7 hg7 hz7)
    | (at_builtin; refine wpList_addX (w0 := wb) rfl _ _ _ _ rfl 5 _ 1 bytesT u8i rfl _ (p2 + fs.size) _ rfl (ownsRow_gr hown6 (by (repeat (first | with_reducible exact Gr.refl _ | with_reducible assumption | with_reducible refine Gr.setCell ?_ (by simp; try omega) _ | with_reducible refine Gr.alloc ?_ _ | with_reducible refine Gr.drew ?_ | with_reducible refine Gr.drewN ?_ _ | with_reducible refine Gr.trans ?_ (by assumption))))) (by (repeat (first | with_reducible exact Gr.refl _ | with_reducible assumption | with_reducible refine Gr.setCell ?_ (by simp; try omega) _ | with_reducible refine Gr.alloc ?_ _ | with_reducible refine Gr.drew ?_ | with_reducible refine Gr.drewN ?_ _ | with_reducible refine Gr.trans ?_ (by assumption)))) _ s.size _ rfl (src_at bytesT hrow7) (by unfold maxLen; omega) (by omega) ?_; intro va8 vc8 w8 hown8 hg8 _; obtain ⟨x80, x81, x82, x83, x84, x85, x8f⟩ := hS _ hg8)
    | (at_builtin; refine wpList_addX (w0 := wb) rfl _ _ _ _ rfl 5 _ 1 bytesT u8i rfl _ (p2 + fs.size + s.size) _ rfl (ownsRow_gr hown8 (by (repeat (first | with_reducible exact Gr.refl _ | with_reducible assumption | with_reducible refine Gr.setCell ?_ (by simp; try omega) _ | with_reducible refine Gr.alloc ?_ _ | with_reducible refine Gr.drew ?_ | with_reducible refine Gr.drewN ?_ _ | with_reducible refine Gr.trans ?_ (by assumption))))) (by (repeat (first | with_reducible exact Gr.refl _ | with_reducible assumption | with_reducible refine Gr.setCell ?_ (by simp; try omega) _ | with_reducible refine Gr.alloc ?_ _ | with_reducible refine Gr.drew ?_ | with_reducible refine Gr.drewN ?_ _ | with_reducible refine Gr.trans ?_ (by assumption)))) _ 1 [.int .u8 c] rfl (src_block bytesT _ (heap_alloc_new _ _) rfl (by simp [Value.oneCell'])) (by unfold maxLen; omega) (by omega) ?_; intro va9 vc9 w9 hown9 hg9 _; obtain ⟨x90, x91, x92, x93, x94, x95, x9f⟩ := hS _ hg9))
  go_ret
  refine ⟨_, rfl, rb_of hown9 ?_, hw0.trans hg9⟩
  rw [HF.out, HC.out]
  simp [bcells]

set_option maxRecDepth 100000 in
set_option maxHeartbeats 4000000 in
theorem rb_csi_m {w : World} {k c m : Int} {ps l d : List Int} {a1 a2 : Option Addr} {n1 c1 n2 c2 : Nat} (eight : Bool) (hm : 60 ≤ m ∧ m ≤ 63) (hl : IntsOk l) (hp : Rd w a1 n1 (icells ps)) (hcap : n1 ≤ c1) (hmax : c1 ≤ maxLen) :
    Calls Tryz.prog 27 #[.agg #[.int .i64 4, .int .u8 c, .int .u8 m, .slice a1 n1 c1, .string (strOf l), .slice a2 n2 c2], .bool eight] w (RBOut w (pairR (begR 4) eight ++ [m] ++ fmtR ps ++ l ++ [c])) := by
  have hsz : (strOf l).size ≤ 3 := by rw [strOf_size']; exact hl.1
  have hcl : (strOf l).data.toList.map (fun b => Value.int .u8 (b.toNat : Int)) = bcells l := byteCells_strOf l fun c hc => by have := hl.2 c hc; omega
  have hfz : (strOf (fmtR ps)).size ≤ 180 := by rw [strOf_size']; exact fmtR_len ps
  have hfl : (strOf (fmtR ps)).data.toList.map (fun b => Value.int .u8 (b.toNat : Int)) = bcells (fmtR ps) := byteCells_strOf (fmtR ps) fun c hc => by have := fmtR_in ps c hc; omega
  have hfm := fun w' (hg : Gr w w') => rfmt_walk (cap := c1) (hp.gr hg) hcap hmax
  obtain ⟨fs, hfd⟩ : ∃ fs, fs = strOf (fmtR ps) := ⟨_, rfl⟩
  rw [← hfd] at hfz hfl hfm
  obtain ⟨s, hsd⟩ : ∃ s, s = strOf l := ⟨_, rfl⟩
  rw [← hsd] at hsz hcl ⊢
  have HC := Lib.hid hcl
  have HF := Lib.hid hfl
  have hb0 := heap_alloc_new w (.cells #[.int .i64 4, .int .u8 c, .int .u8 m, .slice a1 n1 c1, .string s, .slice a2 n2 c2] 65)
  have hw0 := (Gr.refl w).alloc (.cells #[.int .i64 4, .int .u8 c, .int .u8 m, .slice a1 n1 c1, .string s, .slice a2 n2 c2] 65)
  have hb1 : ∀ w9, Gr (w.alloc (.cells #[.int .i64 4, .int .u8 c, .int .u8 m, .slice a1 n1 c1, .string s, .slice a2 n2 c2] 65)) w9 → w9.heap[w.heap.size]? = some (.cells #[.int .i64 4, .int .u8 c, .int .u8 m, .slice a1 n1 c1, .string s, .slice a2 n2 c2] 65 (0, 0)) := fun w9 hg => hg.blk hb0
  have hbeg := fun w => begins_walk 4 w
  obtain ⟨b, hb⟩ : ∃ b, b = begR 4 := ⟨_, rfl⟩
  have hb256 : 0 ≤ b ∧ b < 256 := by rw [hb]; unfold begR; (repeat' split) <;> omega
  have hpr1 := fun w => rpair_own (w := w) (c := b) eight hb256
  have hpr2 := fun w => rpair_own (w := w) (c := 92) eight (by omega)
  rw [← hb] at hbeg ⊢
  have hmz : (m != 0) = true := by simp; omega
  clear hsd hb hb256 hcl hfl hfd hp hl
  go_enter Tryz.func27, Tryz.ntmps27
  go_upto_region 1 with (fail)
  obtain ⟨wb, hwb⟩ : ∃ wb, wb = w.alloc (.cells #[.int .i64 4, .int .u8 c, .int .u8 m, .slice a1 n1 c1, .string s, .slice a2 n2 c2] 65) := ⟨_, rfl⟩
  rw [← hwb] at hb1 hw0 ⊢
  have hS := fun (w9 : World) (hg : Gr wb w9) => cells6 (hb1 w9 hg)
  have hbz : w.heap.size < wb.heap.size := by rw [hwb]; simp
  clear hwb hb0
  have hgb := Gr.refl wb
  obtain ⟨t0, t1, t2, t3, t4, t5, tf⟩ := hS _ hgb
  go_wp2_with (first
    | (go_at_call 39; (with_reducible refine (hbeg _).mono ?_); rintro e w1 ⟨rfl, rfl⟩)
    | (go_at_call 38; (first
       | ((with_reducible refine (hpr1 _).mono ?_); rintro e w2 ⟨va2, vc2, p2, rfl, hn2, hle2, hown2, hg2⟩; have HN2 := Lib.hid hn2; clear hn2; obtain ⟨y0, y1, y2, y3, y4, y5, yf⟩ := hS _ hg2)))
    | (at_builtin; refine wpList_addX (w0 := wb) rfl _ _ _ _ rfl 5 _ 1 bytesT u8i rfl _ (p2) _ rfl (ownsRow_gr hown2 (by (repeat (first | with_reducible exact Gr.refl _ | with_reducible assumption | with_reducible refine Gr.setCell ?_ (by simp; try omega) _ | with_reducible refine Gr.alloc ?_ _ | with_reducible refine Gr.drew ?_ | with_reducible refine Gr.drewN ?_ _ | with_reducible refine Gr.trans ?_ (by assumption))))) (by (repeat (first | with_reducible exact Gr.refl _ | with_reducible assumption | with_reducible refine Gr.setCell ?_ (by simp; try omega) _ | with_reducible refine Gr.alloc ?_ _ | with_reducible refine Gr.drew ?_ | with_reducible refine Gr.drewN ?_ _ | with_reducible refine Gr.trans ?_ (by assumption)))) _ 1 [.int .u8 m] rfl (src_block bytesT _ (heap_alloc_new _ _) rfl (by simp [Value.oneCell'])) (by unfold maxLen; omega) (by omega) ?_; intro va3 vc3 w3 hown3 hg3 _; obtain ⟨x30, x31, x32, x33, x34, x35, x3f⟩ := hS _ hg3)
    | (go_at_call 40; (with_reducible refine (hfm _ ?_).mono ?_); (refine hw0.trans ?_; (repeat (first | with_reducible exact Gr.refl _ | with_reducible assumption | with_reducible refine Gr.setCell ?_ (by simp; try omega) _ | with_reducible refine Gr.alloc ?_ _ | with_reducible refine Gr.drew ?_ | with_reducible refine Gr.drewN ?_ _ | with_reducible refine Gr.trans ?_ (by assumption)))); rintro e w4 ⟨rfl, hg4⟩)
    | ((with_reducible refine wpList_s2b rfl _ _ _ 5 rfl Tryz.underlying9 bytesT Tryz.underlying5 fs rfl ?_); intro cap5 w5 hcap5 hrow5 hg5 hz5)
    | (at_builtin; refine wpList_addX (w0 := wb) rfl _ _ _ _ rfl 5 _ 1 bytesT u8i rfl _ (p2 + 1) _ rfl (ownsRow_gr hown3 (by (repeat (first | with_reducible exact Gr.refl _ | with_reducible assumption | with_reducible refine Gr.setCell ?_ (by simp; try omega) _ | with_reducible refine Gr.alloc ?_ _ | with_reducible refine Gr.drew ?_ | with_reducible refine Gr.drewN ?_ _ | with_reducible refine Gr.trans ?_ (by assumption))))) (by (repeat (first | with_reducible exact Gr.refl _ | with_reducible assumption | with_reducible refine Gr.setCell ?_ (by simp; try omega) _ | with_reducible refine Gr.alloc ?_ _ | with_reducible refine Gr.drew ?_ | with_reducible refine Gr.drewN ?_ _ | with_reducible refine Gr.trans ?_ (by assumption)))) _ fs.size _ rfl (src_at bytesT hrow5) (by unfold maxLen; omega) (by omega) ?_; intro va6 vc6 w6 hown6 hg6 _; obtain ⟨x60, x61, x62, x63, x64, x65, x6f⟩ := hS _ hg6)
    | ((with_reducible refine wpList_s2b rfl _ _ _ 5 rfl Tryz.underlying9 bytesT Tryz.underlying5 s rfl ?_); intro cap7 w7 hcap7 hrow7 hg7 hz7)
    | (at_builtin; refine wpList_addX (w0 := wb) rfl _ _ _ _ rfl 5 _ 1 bytesT u8i rfl _ (p2 + 1 + fs.size) _ rfl (ownsRow_gr hown6 (by (repeat (first | with_reducible exact Gr.refl _ | with_reducible assumption | with_reducible refine Gr.setCell ?_ (by simp; try omega) _ | with_reducible refine Gr.alloc ?_ _ | with_reducible refine Gr.drew ?_ | with_reducible refine Gr.drewN ?_ _ | with_reducible refine Gr.trans ?_ (by assumption))))) (by (repeat (first | with_reducible exact Gr.refl _ | with_reducible assumption | with_reducible refine Gr.setCell ?_ (by simp; try omega) _ | with_reducible refine Gr.alloc ?_ _ | with_reducible refine Gr.drew ?_ | with_reducible refine Gr.drewN ?_ _ | with_reducible refine Gr.trans ?_ (by assumption)))) _ s.size _ rfl (src_at bytesT hrow7) (by unfold maxLen; omega) (by omega) ?_; intro va8 vc8 w8 hown8 hg8 _; obtain ⟨x80, x81, x82, x83, x84, x85, x8f⟩ := hS _ hg8)
    | (at_builtin; refine wpList_addX (w0 := wb) rfl _ _ _ _ rfl 5 _ 1 bytesT u8i rfl _ (p2 + 1 + fs.size + s.size) _ rfl (ownsRow_gr hown8 (by (repeat (first | with_reducible exact Gr.refl _ | with_reducible assumption | with_reducible refine Gr.setCell ?_ (by simp; try omega) _ | with_reducible refine Gr.alloc ?_ _ | with_reducible refine Gr.drew ?_ | with_reducible refine Gr.drewN ?_ _ | with_reducible refine Gr.trans ?_ (by assumption))))) (by (repeat (first | with_reducible exact Gr.refl _ | with_reducible assumption | with_reducible refine Gr.setCell ?_ (by simp; try omega) _ | with_reducible refine Gr.alloc ?_ _ | with_reducible refine Gr.drew ?_ | with_reducible refine Gr.drewN ?_ _ | with_reducible refine Gr.trans ?_ (by assumption)))) _ 1 [.int .u8 c] rfl (src_block bytesT _ (heap_alloc_new _ _) rfl (by simp [Value.oneCell'])) (by unfold maxLen; omega) (by omega) ?_; intro va9 vc9 w9 hown9 hg9 _; obtain ⟨x90, x91, x92, x93, x94, x95, x9f⟩ := hS _ hg9))
  go_ret
  refine ⟨_, rfl, rb_of hown9 ?_, hw0.trans hg9⟩
  rw [HF.out, HC.out]
  simp [bcells]

set_option maxRecDepth 100000 in
set_option maxHeartbeats 4000000 in
theorem rb_dcs {w : World} {k c m : Int} {ps l d : List Int} {a1 a2 : Option Addr} {n1 c1 n2 c2 : Nat} (eight : Bool) (hl : IntsOk l) (hp : Rd w a1 n1 (icells ps)) (hcap : n1 ≤ c1) (hmax : c1 ≤ maxLen) (hd : Rd w a2 n2 (bcells d)) (hd4 : n2 ≤ 4096) :
    Calls Tryz.prog 27 #[.agg #[.int .i64 5, .int .u8 c, .int .u8 0, .slice a1 n1 c1, .string (strOf l), .slice a2 n2 c2], .bool eight] w (RBOut w (pairR (begR 5) eight ++ fmtR ps ++ l ++ [c] ++ d ++ pairR 92 eight)) := by
  have hsz : (strOf l).size ≤ 3 := by rw [strOf_size']; exact hl.1
  have hcl : (strOf l).data.toList.map (fun b => Value.int .u8 (b.toNat : Int)) = bcells l := byteCells_strOf l fun c hc => by have := hl.2 c hc; omega
  have hfz : (strOf (fmtR ps)).size ≤ 180 := by rw [strOf_size']; exact fmtR_len ps
  have hfl : (strOf (fmtR ps)).data.toList.map (fun b => Value.int .u8 (b.toNat : Int)) = bcells (fmtR ps) := byteCells_strOf (fmtR ps) fun c hc => by have := fmtR_in ps c hc; omega
  have hfm := fun w' (hg : Gr w w') => rfmt_walk (cap := c1) (hp.gr hg) hcap hmax
  obtain ⟨fs, hfd⟩ : ∃ fs, fs = strOf (fmtR ps) := ⟨_, rfl⟩
  rw [← hfd] at hfz hfl hfm
  have hsd2 := fun w' (hg : Gr w w') => src_rd bytesT (cap := c2) (hd.gr hg) (bcells_one d)
  obtain ⟨s, hsd⟩ : ∃ s, s = strOf l := ⟨_, rfl⟩
  rw [← hsd] at hsz hcl ⊢
  have HC := Lib.hid hcl
  have HF := Lib.hid hfl
  have hb0 := heap_alloc_new w (.cells #[.int .i64 5, .int .u8 c, .int .u8 0, .slice a1 n1 c1, .string s, .slice a2 n2 c2] 65)
  have hw0 := (Gr.refl w).alloc (.cells #[.int .i64 5, .int .u8 c, .int .u8 0, .slice a1 n1 c1, .string s, .slice a2 n2 c2] 65)
  have hb1 : ∀ w9, Gr (w.alloc (.cells #[.int .i64 5, .int .u8 c, .int .u8 0, .slice a1 n1 c1, .string s, .slice a2 n2 c2] 65)) w9 → w9.heap[w.heap.size]? = some (.cells #[.int .i64 5, .int .u8 c, .int .u8 0, .slice a1 n1 c1, .string s, .slice a2 n2 c2] 65 (0, 0)) := fun w9 hg => hg.blk hb0
  have hbeg := fun w => begins_walk 5 w
  obtain ⟨b, hb⟩ : ∃ b, b = begR 5 := ⟨_, rfl⟩
  have hb256 : 0 ≤ b ∧ b < 256 := by rw [hb]; unfold begR; (repeat' split) <;> omega
  have hpr1 := fun w => rpair_own (w := w) (c := b) eight hb256
  have hpr2 := fun w => rpair_own (w := w) (c := 92) eight (by omega)
  rw [← hb] at hbeg ⊢
  clear hsd hb hb256 hcl hfl hfd hp hl hd
  go_enter Tryz.func27, Tryz.ntmps27
  go_upto_region 1 with (fail)
  obtain ⟨wb, hwb⟩ : ∃ wb, wb = w.alloc (.cells #[.int .i64 5, .int .u8 c, .int .u8 0, .slice a1 n1 c1, .string s, .slice a2 n2 c2] 65) := ⟨_, rfl⟩
  rw [← hwb] at hb1 hw0 ⊢
  have hS := fun (w9 : World) (hg : Gr wb w9) => cells6 (hb1 w9 hg)
  have hbz : w.heap.size < wb.heap.size := by rw [hwb]; simp
  clear hwb hb0
  have hgb := Gr.refl wb
  obtain ⟨t0, t1, t2, t3, t4, t5, tf⟩ := hS _ hgb
  go_wp2_with (first
    | (go_at_call 39; (with_reducible refine (hbeg _).mono ?_); rintro e w1 ⟨rfl, rfl⟩)
    | (go_at_call 38; (first
       | ((with_reducible refine (hpr1 _).mono ?_); rintro e w2 ⟨va2, vc2, p2, rfl, hn2, hle2, hown2, hg2⟩; have HN2 := Lib.hid hn2; clear hn2; obtain ⟨y0, y1, y2, y3, y4, y5, yf⟩ := hS _ hg2)
       | ((with_reducible refine (hpr2 _).mono ?_); rintro e w12 ⟨va12, vc12, p12, rfl, hn12, hle12, hown12, hg12⟩; have HN12 := Lib.hid hn12; clear hn12)))
    | (go_at_call 40; (with_reducible refine (hfm _ ?_).mono ?_); (refine hw0.trans ?_; (repeat (first | with_reducible exact Gr.refl _ | with_reducible assumption | with_reducible refine Gr.setCell ?_ (by simp; try omega) _ | with_reducible refine Gr.alloc ?_ _ | with_reducible refine Gr.drew ?_ | with_reducible refine Gr.drewN ?_ _ | with_reducible refine Gr.trans ?_ (by assumption)))); rintro e w4 ⟨rfl, hg4⟩)
    | ((with_reducible refine wpList_s2b rfl _ _ _ 5 rfl Tryz.underlying9 bytesT Tryz.underlying5 fs rfl ?_); intro cap5 w5 hcap5 hrow5 hg5 hz5)
    | (at_builtin; refine wpList_addX (w0 := wb) rfl _ _ _ _ rfl 5 _ 1 bytesT u8i rfl _ (p2) _ rfl (ownsRow_gr hown2 (by (repeat (first | with_reducible exact Gr.refl _ | with_reducible assumption | with_reducible refine Gr.setCell ?_ (by simp; try omega) _ | with_reducible refine Gr.alloc ?_ _ | with_reducible refine Gr.drew ?_ | with_reducible refine Gr.drewN ?_ _ | with_reducible refine Gr.trans ?_ (by assumption))))) (by (repeat (first | with_reducible exact Gr.refl _ | with_reducible assumption | with_reducible refine Gr.setCell ?_ (by simp; try omega) _ | with_reducible refine Gr.alloc ?_ _ | with_reducible refine Gr.drew ?_ | with_reducible refine Gr.drewN ?_ _ | with_reducible refine Gr.trans ?_ (by assumption)))) _ fs.size _ rfl (src_at bytesT hrow5) (by unfold maxLen; omega) (by omega) ?_; intro va6 vc6 w6 hown6 hg6 _; obtain ⟨x60, x61, x62, x63, x64, x65, x6f⟩ := hS _ hg6)
    | ((with_reducible refine wpList_s2b rfl _ _ _ 5 rfl Tryz.underlying9 bytesT Tryz.underlying5 s rfl ?_); intro cap7 w7 hcap7 hrow7 hg7 hz7)
    | (at_builtin; refine wpList_addX (w0 := wb) rfl _ _ _ _ rfl 5 _ 1 bytesT u8i rfl _ (p2 + fs.size) _ rfl (ownsRow_gr hown6 (by (repeat (first | with_reducible exact Gr.refl _ | with_reducible assumption | with_reducible refine Gr.setCell ?_ (by simp; try omega) _ | with_reducible refine Gr.alloc ?_ _ | with_reducible refine Gr.drew ?_ | with_reducible refine Gr.drewN ?_ _ | with_reducible refine Gr.trans ?_ (by assumption))))) (by (repeat (first | with_reducible exact Gr.refl _ | with_reducible assumption | with_reducible refine Gr.setCell ?_ (by simp; try omega) _ | with_reducible refine Gr.alloc ?_ _ | with_reducible refine Gr.drew ?_ | with_reducible refine Gr.drewN ?_ _ | with_reducible refine Gr.trans ?_ (by assumption)))) _ s.size _ rfl (src_at bytesT hrow7) (by unfold maxLen; omega) (by omega) ?_; intro va8 vc8 w8 hown8 hg8 _; obtain ⟨x80, x81, x82, x83, x84, x85, x8f⟩ := hS _ hg8)
    | (at_builtin; refine wpList_addX (w0 := wb) rfl _ _ _ _ rfl 5 _ 1 bytesT u8i rfl _ (p2 + fs.size + s.size) _ rfl (ownsRow_gr hown8 (by (repeat (first | with_reducible exact Gr.refl _ | with_reducible assumption | with_reducible refine Gr.setCell ?_ (by simp; try omega) _ | with_reducible refine Gr.alloc ?_ _ | with_reducible refine Gr.drew ?_ | with_reducible refine Gr.drewN ?_ _ | with_reducible refine Gr.trans ?_ (by assumption))))) (by (repeat (first | with_reducible exact Gr.refl _ | with_reducible assumption | with_reducible refine Gr.setCell ?_ (by simp; try omega) _ | with_reducible refine Gr.alloc ?_ _ | with_reducible refine Gr.drew ?_ | with_reducible refine Gr.drewN ?_ _ | with_reducible refine Gr.trans ?_ (by assumption)))) _ 1 [.int .u8 c] rfl (src_block bytesT _ (heap_alloc_new _ _) rfl (by simp [Value.oneCell'])) (by unfold maxLen; omega) (by omega) ?_; intro va9 vc9 w9 hown9 hg9 _; obtain ⟨x90, x91, x92, x93, x94, x95, x9f⟩ := hS _ hg9)
    | (at_builtin; refine wpList_addX (w0 := wb) rfl _ _ _ _ rfl 5 _ 1 bytesT u8i rfl _ (p2 + fs.size + s.size + 1) _ rfl (ownsRow_gr hown9 (by (repeat (first | with_reducible exact Gr.refl _ | with_reducible assumption | with_reducible refine Gr.setCell ?_ (by simp; try omega) _ | with_reducible refine Gr.alloc ?_ _ | with_reducible refine Gr.drew ?_ | with_reducible refine Gr.drewN ?_ _ | with_reducible refine Gr.trans ?_ (by assumption))))) (by (repeat (first | with_reducible exact Gr.refl _ | with_reducible assumption | with_reducible refine Gr.setCell ?_ (by simp; try omega) _ | with_reducible refine Gr.alloc ?_ _ | with_reducible refine Gr.drew ?_ | with_reducible refine Gr.drewN ?_ _ | with_reducible refine Gr.trans ?_ (by assumption)))) _ n2 _ rfl (hsd2 _ (hw0.trans (by (repeat (first | with_reducible exact Gr.refl _ | with_reducible assumption | with_reducible refine Gr.setCell ?_ (by simp; try omega) _ | with_reducible refine Gr.alloc ?_ _ | with_reducible refine Gr.drew ?_ | with_reducible refine Gr.drewN ?_ _ | with_reducible refine Gr.trans ?_ (by assumption)))))) (by unfold maxLen; omega) (by omega) ?_; intro va10 vc10 w10 hown10 hg10 _; obtain ⟨x100, x101, x102, x103, x104, x105, x10f⟩ := hS _ hg10)
    | (at_builtin; refine wpList_addX (w0 := wb) rfl _ _ _ _ rfl 5 _ 1 bytesT u8i rfl _ (p2 + fs.size + s.size + 1 + n2) _ rfl (ownsRow_gr hown10 (by (repeat (first | with_reducible exact Gr.refl _ | with_reducible assumption | with_reducible refine Gr.setCell ?_ (by simp; try omega) _ | with_reducible refine Gr.alloc ?_ _ | with_reducible refine Gr.drew ?_ | with_reducible refine Gr.drewN ?_ _ | with_reducible refine Gr.trans ?_ (by assumption))))) (by (repeat (first | with_reducible exact Gr.refl _ | with_reducible assumption | with_reducible refine Gr.setCell ?_ (by simp; try omega) _ | with_reducible refine Gr.alloc ?_ _ | with_reducible refine Gr.drew ?_ | with_reducible refine Gr.drewN ?_ _ | with_reducible refine Gr.trans ?_ (by assumption)))) _ p12 _ rfl (src_pair HN12.out hown12) (by unfold maxLen; omega) (by omega) ?_; intro va11 vc11 w11 hown11 hg11 _; obtain ⟨x110, x111, x112, x113, x114, x115, x11f⟩ := hS _ hg11))
  go_ret
  refine ⟨_, rfl, rb_of hown11 ?_, hw0.trans hg11⟩
  rw [HF.out, HC.out]
  simp [bcells]

set_option maxRecDepth 100000 in
set_option maxHeartbeats 4000000 in
theorem rb_dcs_m {w : World} {k c m : Int} {ps l d : List Int} {a1 a2 : Option Addr} {n1 c1 n2 c2 : Nat} (eight : Bool) (hm : 60 ≤ m ∧ m ≤ 63) (hl : IntsOk l) (hp : Rd w a1 n1 (icells ps)) (hcap : n1 ≤ c1) (hmax : c1 ≤ maxLen) (hd : Rd w a2 n2 (bcells d)) (hd4 : n2 ≤ 4096) :
    Calls Tryz.prog 27 #[.agg #[.int .i64 5, .int .u8 c, .int .u8 m, .slice a1 n1 c1, .string (strOf l), .slice a2 n2 c2], .bool eight] w (RBOut w (pairR (begR 5) eight ++ [m] ++ fmtR ps ++ l ++ [c] ++ d ++ pairR 92 eight)) := by
  have hsz : (strOf l).size ≤ 3 := by rw [strOf_size']; exact hl.1
  have hcl : (strOf l).data.toList.map (fun b => Value.int .u8 (b.toNat : Int)) = bcells l := byteCells_strOf l fun c hc => by have := hl.2 c hc; omega
  have hfz : (strOf (fmtR ps)).size ≤ 180 := by rw [strOf_size']; exact fmtR_len ps
  have hfl : (strOf (fmtR ps)).data.toList.map (fun b => Value.int .u8 (b.toNat : Int)) = bcells (fmtR ps) := byteCells_strOf (fmtR ps) fun c hc => by have := fmtR_in ps c hc; omega
  have hfm := fun w' (hg : Gr w w') => rfmt_walk (cap := c1) (hp.gr hg) hcap hmax
  obtain ⟨fs, hfd⟩ : ∃ fs, fs = strOf (fmtR ps) := ⟨_, rfl⟩
  rw [← hfd] at hfz hfl hfm
  have hsd2 := fun w' (hg : Gr w w') => src_rd bytesT (cap := c2) (hd.gr hg) (bcells_one d)
  obtain ⟨s, hsd⟩ : ∃ s, s = strOf l := ⟨_, rfl⟩
  rw [← hsd] at hsz hcl ⊢
  have HC := Lib.hid hcl
  have HF := Lib.hid hfl
  have hb0 := heap_alloc_new w (.cells #[.int .i64 5, .int .u8 c, .int .u8 m, .slice a1 n1 c1, .string s, .slice a2 n2 c2] 65)
  have hw0 := (Gr.refl w).alloc (.cells #[.int .i64 5, .int .u8 c, .int .u8 m, .slice a1 n1 c1, .string s, .slice a2 n2 c2] 65)
  have hb1 : ∀ w9, Gr (w.alloc (.cells #[.int .i64 5, .int .u8 c, .int .u8 m, .slice a1 n1 c1, .string s, .slice a2 n2 c2] 65)) w9 → w9.heap[w.heap.size]? = some (.cells #[.int .i64 5, .int .u8 c, .int .u8 m, .slice a1 n1 c1, .string s, .slice a2 n2 c2] 65 (0, 0)) := fun w9 hg => hg.blk hb0
  have hbeg := fun w => begins_walk 5 w
  obtain ⟨b, hb⟩ : ∃ b, b = begR 5 := ⟨_, rfl⟩
  have hb256 : 0 ≤ b ∧ b < 256 := by rw [hb]; unfold begR; (repeat' split) <;> omega
  have hpr1 := fun w => rpair_own (w := w) (c := b) eight hb256
  have hpr2 := fun w => rpair_own (w := w) (c := 92) eight (by omega)
  rw [← hb] at hbeg ⊢
  have hmz : (m != 0) = true := by simp; omega
  clear hsd hb hb256 hcl hfl hfd hp hl hd
  go_enter Tryz.func27, Tryz.ntmps27
  go_upto_region 1 with (fail)
  obtain ⟨wb, hwb⟩ : ∃ wb, wb = w.alloc (.cells #[.int .i64 5, .int .u8 c, .int .u8 m, .slice a1 n1 c1, .string s, .slice a2 n2 c2] 65) := ⟨_, rfl⟩
  rw [← hwb] at hb1 hw0 ⊢
  have hS := fun (w9 : World) (hg : Gr wb w9) => cells6 (hb1 w9 hg)
  have hbz : w.heap.size < wb.heap.size := by rw [hwb]; simp
  clear hwb hb0
  have hgb := Gr.refl wb
  obtain ⟨t0, t1, t2, t3, t4, t5, tf⟩ := hS _ hgb
  go_wp2_with (first
    | (go_at_call 39; (with_reducible refine (hbeg _).mono ?_); rintro e w1 ⟨rfl, rfl⟩)
    | (go_at_call 38; (first
       | ((with_reducible refine (hpr1 _).mono ?_); rintro e w2 ⟨va2, vc2, p2, rfl, hn2, hle2, hown2, hg2⟩; have HN2 := Lib.hid hn2; clear hn2; obtain ⟨y0, y1, y2, y3, y4, y5, yf⟩ := hS _ hg2)
       | ((with_reducible refine (hpr2 _).mono ?_); rintro e w12 ⟨va12, vc12, p12, rfl, hn12, hle12, hown12, hg12⟩; have HN12 := Lib.hid hn12; clear hn12)))
    | (at_builtin; refine wpList_addX (w0 := wb) rfl _ _ _ _ rfl 5 _ 1 bytesT u8i rfl _ (p2) _ rfl (ownsRow_gr hown2 (by (repeat (first | with_reducible exact Gr.refl _ | with_reducible assumption | with_reducible refine Gr.setCell ?_ (by simp; try omega) _ | with_reducible refine Gr.alloc ?_ _ | with_reducible refine Gr.drew ?_ | with_reducible refine Gr.drewN ?_ _ | with_reducible refine Gr.trans ?_ (by assumption))))) (by (repeat (first | with_reducible exact Gr.refl _ | with_reducible assumption | with_reducible refine Gr.setCell ?_ (by simp; try omega) _ | with_reducible refine Gr.alloc ?_ _ | with_reducible refine Gr.drew ?_ | with_reducible refine Gr.drewN ?_ _ | with_reducible refine Gr.trans ?_ (by assumption)))) _ 1 [.int .u8 m] rfl (src_block bytesT _ (heap_alloc_new _ _) rfl (by simp [Value.oneCell'])) (by unfold maxLen; omega) (by omega) ?_; intro va3 vc3 w3 hown3 hg3 _; obtain ⟨x30, x31, x32, x33, x34, x35, x3f⟩ := hS _ hg3)
    | (go_at_call 40; (with_reducible refine (hfm _ ?_).mono ?_); (refine hw0.trans ?_; (repeat (first | with_reducible exact Gr.refl _ | with_reducible assumption | with_reducible refine Gr.setCell ?_ (by simp; try omega) _ | with_reducible refine Gr.alloc ?_ _ | with_reducible refine Gr.drew ?_ | with_reducible refine Gr.drewN ?_ _ | with_reducible refine Gr.trans ?_ (by assumption)))); rintro e w4 ⟨rfl, hg4⟩)
    | ((with_reducible refine wpList_s2b rfl _ _ _ 5 rfl Tryz.underlying9 bytesT Tryz.underlying5 fs rfl ?_); intro cap5 w5 hcap5 hrow5 hg5 hz5)
    | (at_builtin; refine wpList_addX (w0 := wb) rfl _ _ _ _ rfl 5 _ 1 bytesT u8i rfl _ (p2 + 1) _ rfl (ownsRow_gr hown3 (by (repeat (first | with_reducible exact Gr.refl _ | with_reducible assumption | with_reducible refine Gr.setCell ?_ (by simp; try omega) _ | with_reducible refine Gr.alloc ?_ _ | with_reducible refine Gr.drew ?_ | with_reducible refine Gr.drewN ?_ _ | with_reducible refine Gr.trans ?_ (by assumption))))) (by (repeat (first | with_reducible exact Gr.refl _ | with_reducible assumption | with_reducible refine Gr.setCell ?_ (by simp; try omega) _ | with_reducible refine Gr.alloc ?_ _ | with_reducible refine Gr.drew ?_ | with_reducible refine Gr.drewN ?_ _ | with_reducible refine Gr.trans ?_ (by assumption)))) _ fs.size _ rfl (src_at bytesT hrow5) (by unfold maxLen; omega) (by omega) ?_; intro va6 vc6 w6 hown6 hg6 _; obtain ⟨x60, x61, x62, x63, x64, x65, x6f⟩ := hS _ hg6)
    | ((with_reducible refine wpList_s2b rfl _ _ _ 5 rfl Tryz.underlying9 bytesT Tryz.underlying5 s rfl ?_); intro cap7 w7 hcap7 hrow7 hg7 hz7)
    | (at_builtin; refine wpList_addX (w0 := wb) rfl _ _ _ _ rfl 5 _ 1 bytesT u8i rfl _ (p2 + 1 + fs.size) _ rfl (ownsRow_gr hown6 (by (repeat (first | with_reducible exact Gr.refl _ | with_reducible assumption | with_reducible refine Gr.setCell ?_ (by simp; try omega) _ | with_reducible refine Gr.alloc ?_ _ | with_reducible refine Gr.drew ?_ | with_reducible refine Gr.drewN ?_ _ | with_reducible refine Gr.trans ?_ (by assumption))))) (by (repeat (first | with_reducible exact Gr.refl _ | with_reducible assumption | with_reducible refine Gr.setCell ?_ (by simp; try omega) _ | with_reducible refine Gr.alloc ?_ _ | with_reducible refine Gr.drew ?_ | with_reducible refine Gr.drewN ?_ _ | with_reducible refine Gr.trans ?_ (by assumption)))) _ s.size _ rfl (src_at bytesT hrow7) (by unfold maxLen; omega) (by omega) ?_; intro va8 vc8 w8 hown8 hg8 _; obtain ⟨x80, x81, x82, x83, x84, x85, x8f⟩ := hS _ hg8)
    | (at_builtin; refine wpList_addX (w0 := wb) rfl _ _ _ _ rfl 5 _ 1 bytesT u8i rfl _ (p2 + 1 + fs.size + s.size) _ rfl (ownsRow_gr hown8 (by (repeat (first | with_reducible exact Gr.refl _ | with_reducible assumption | with_reducible refine Gr.setCell ?_ (by simp; try omega) _ | with_reducible refine Gr.alloc ?_ _ | with_reducible refine Gr.drew ?_ | with_reducible refine Gr.drewN ?_ _ | with_reducible refine Gr.trans ?_ (by assumption))))) (by (repeat (first | with_reducible exact Gr.refl _ | with_reducible assumption | with_reducible refine Gr.setCell ?_ (by simp; try omega) _ | with_reducible refine Gr.alloc ?_ _ | with_reducible refine Gr.drew ?_ | with_reducible refine Gr.drewN ?_ _ | with_reducible refine Gr.trans ?_ (by assumption)))) _ 1 [.int .u8 c] rfl (src_block bytesT _ (heap_alloc_new _ _) rfl (by simp [Value.oneCell'])) (by unfold maxLen; omega) (by omega) ?_; intro va9 vc9 w9 hown9 hg9 _; obtain ⟨x90, x91, x92, x93, x94, x95, x9f⟩ := hS _ hg9)
    | (at_builtin; refine wpList_addX (w0 := wb) rfl _ _ _ _ rfl 5 _ 1 bytesT u8i rfl _ (p2 + 1 + fs.size + s.size + 1) _ rfl (ownsRow_gr hown9 (by (repeat (first | with_reducible exact Gr.refl _ | with_reducible assumption | with_reducible refine Gr.setCell ?_ (by simp; try omega) _ | with_reducible refine Gr.alloc ?_ _ | with_reducible refine Gr.drew ?_ | with_reducible refine Gr.drewN ?_ _ | with_reducible refine Gr.trans ?_ (by assumption))))) (by (repeat (first | with_reducible exact Gr.refl _ | with_reducible assumption | with_reducible refine Gr.setCell ?_ (by simp; try omega) _ | with_reducible refine Gr.alloc ?_ _ | with_reducible refine Gr.drew ?_ | with_reducible refine Gr.drewN ?_ _ | with_reducible refine Gr.trans ?_ (by assumption)))) _ n2 _ rfl (hsd2 _ (hw0.trans (by (repeat (first | with_reducible exact Gr.refl _ | with_reducible assumption | with_reducible refine Gr.setCell ?_ (by simp; try omega) _ | with_reducible refine Gr.alloc ?_ _ | with_reducible refine Gr.drew ?_ | with_reducible refine Gr.drewN ?_ _ | with_reducible refine Gr.trans ?_ (by assumption)))))) (by unfold maxLen; omega) (by omega) ?_; intro va10 vc10 w10 hown10 hg10 _; obtain ⟨x100, x101, x102, x103, x104, x105, x10f⟩ := hS _ hg10)
    | (at_builtin; refine wpList_addX (w0 := wb) rfl _ _ _ _ rfl 5 _ 1 bytesT u8i rfl _ (p2 + 1 + fs.size + s.size + 1 + n2) _ rfl (ownsRow_gr hown10 (by (repeat (first | with_reducible exact Gr.refl _ | with_reducible assumption | with_reducible refine Gr.setCell ?_ (by simp; try omega) _ | with_reducible refine Gr.alloc ?_ _ | with_reducible refine Gr.drew ?_ | with_reducible refine Gr.drewN ?_ _ | with_reducible refine Gr.trans ?_ (by assumption))))) (by (repeat (first | with_reducible exact Gr.refl _ | with_reducible assumption | with_reducible refine Gr.setCell ?_ (by simp; try omega) _ | with_reducible refine Gr.alloc ?_ _ | with_reducible refine Gr.drew ?_ | with_reducible refine Gr.drewN ?_ _ | with_reducible refine Gr.trans ?_ (by assumption)))) _ p12 _ rfl (src_pair HN12.out hown12) (by unfold maxLen; omega) (by omega) ?_; intro va11 vc11 w11 hown11 hg11 _; obtain ⟨x110, x111, x112, x113, x114, x115, x11f⟩ := hS _ hg11))
  go_ret
  refine ⟨_, rfl, rb_of hown11 ?_, hw0.trans hg11⟩
  rw [HF.out, HC.out]
  simp [bcells]

set_option maxRecDepth 100000 in
set_option maxHeartbeats 4000000 in
theorem rb_str {w : World} {k c m : Int} {ps l d : List Int} {a1 a2 : Option Addr} {n1 c1 n2 c2 : Nat} (eight : Bool) (hk : 6 ≤ k ∧ k ≤ 9) (hd : Rd w a2 n2 (bcells d)) (hd4 : n2 ≤ 4096) :
    Calls Tryz.prog 27 #[.agg #[.int .i64 k, .int .u8 c, .int .u8 m, .slice a1 n1 c1, .string (strOf l), .slice a2 n2 c2], .bool eight] w (RBOut w (pairR (begR k) eight ++ d ++ pairR 92 eight)) := by
  have hsd2 := fun w' (hg : Gr w w') => src_rd bytesT (cap := c2) (hd.gr hg) (bcells_one d)
  obtain ⟨s, hsd⟩ : ∃ s, s = strOf l := ⟨_, rfl⟩
  rw [← hsd]
  have hb0 := heap_alloc_new w (.cells #[.int .i64 k, .int .u8 c, .int .u8 m, .slice a1 n1 c1, .string s, .slice a2 n2 c2] 65)
  have hw0 := (Gr.refl w).alloc (.cells #[.int .i64 k, .int .u8 c, .int .u8 m, .slice a1 n1 c1, .string s, .slice a2 n2 c2] 65)
  have hb1 : ∀ w9, Gr (w.alloc (.cells #[.int .i64 k, .int .u8 c, .int .u8 m, .slice a1 n1 c1, .string s, .slice a2 n2 c2] 65)) w9 → w9.heap[w.heap.size]? = some (.cells #[.int .i64 k, .int .u8 c, .int .u8 m, .slice a1 n1 c1, .string s, .slice a2 n2 c2] 65 (0, 0)) := fun w9 hg => hg.blk hb0
  have hbeg := fun w => begins_walk k w
  obtain ⟨b, hb⟩ : ∃ b, b = begR k := ⟨_, rfl⟩
  have hb256 : 0 ≤ b ∧ b < 256 := by rw [hb]; unfold begR; (repeat' split) <;> omega
  have hpr1 := fun w => rpair_own (w := w) (c := b) eight hb256
  have hpr2 := fun w => rpair_own (w := w) (c := 92) eight (by omega)
  rw [← hb] at hbeg ⊢
  clear hsd hb hb256 hd
  have k1 : ¬ k < 3 := by omega
  have k2 : ¬ k = 3 := by omega
  have k2b : (k == 3) = false := by simpa using k2
  have k3 : ¬ k < 6 := by omega
  have k4 : 4 < k := by omega
  clear hk
  go_enter Tryz.func27, Tryz.ntmps27
  go_upto_region 1 with (fail)
  obtain ⟨wb, hwb⟩ : ∃ wb, wb = w.alloc (.cells #[.int .i64 k, .int .u8 c, .int .u8 m, .slice a1 n1 c1, .string s, .slice a2 n2 c2] 65) := ⟨_, rfl⟩
  rw [← hwb] at hb1 hw0 ⊢
  have hS := fun (w9 : World) (hg : Gr wb w9) => cells6 (hb1 w9 hg)
  have hbz : w.heap.size < wb.heap.size := by rw [hwb]; simp
  clear hwb hb0
  have hgb := Gr.refl wb
  obtain ⟨t0, t1, t2, t3, t4, t5, tf⟩ := hS _ hgb
  go_wp2_with (first
    | (go_at_call 39; (with_reducible refine (hbeg _).mono ?_); rintro e w1 ⟨rfl, rfl⟩)
    | (go_at_call 38; (first
       | ((with_reducible refine (hpr1 _).mono ?_); rintro e w2 ⟨va2, vc2, p2, rfl, hn2, hle2, hown2, hg2⟩; have HN2 := Lib.hid hn2; clear hn2; obtain ⟨y0, y1, y2, y3, y4, y5, yf⟩ := hS _ hg2)
       | ((with_reducible refine (hpr2 _).mono ?_); rintro e w12 ⟨va12, vc12, p12, rfl, hn12, hle12, hown12, hg12⟩; have HN12 := Lib.hid hn12; clear hn12)))
    | (at_builtin; refine wpList_addX (w0 := wb) rfl _ _ _ _ rfl 5 _ 1 bytesT u8i rfl _ (p2) _ rfl (ownsRow_gr hown2 (by (repeat (first | with_reducible exact Gr.refl _ | with_reducible assumption | with_reducible refine Gr.setCell ?_ (by simp; try omega) _ | with_reducible refine Gr.alloc ?_ _ | with_reducible refine Gr.drew ?_ | with_reducible refine Gr.drewN ?_ _ | with_reducible refine Gr.trans ?_ (by assumption))))) (by (repeat (first | with_reducible exact Gr.refl _ | with_reducible assumption | with_reducible refine Gr.setCell ?_ (by simp; try omega) _ | with_reducible refine Gr.alloc ?_ _ | with_reducible refine Gr.drew ?_ | with_reducible refine Gr.drewN ?_ _ | with_reducible refine Gr.trans ?_ (by assumption)))) _ n2 _ rfl (hsd2 _ (hw0.trans (by (repeat (first | with_reducible exact Gr.refl _ | with_reducible assumption | with_reducible refine Gr.setCell ?_ (by simp; try omega) _ | with_reducible refine Gr.alloc ?_ _ | with_reducible refine Gr.drew ?_ | with_reducible refine Gr.drewN ?_ _ | with_reducible refine Gr.trans ?_ (by assumption)))))) (by unfold maxLen; omega) (by omega) ?_; intro va10 vc10 w10 hown10 hg10 _; obtain ⟨x100, x101, x102, x103, x104, x105, x10f⟩ := hS _ hg10)
    | (at_builtin; refine wpList_addX (w0 := wb) rfl _ _ _ _ rfl 5 _ 1 bytesT u8i rfl _ (p2 + n2) _ rfl (ownsRow_gr hown10 (by (repeat (first | with_reducible exact Gr.refl _ | with_reducible assumption | with_reducible refine Gr.setCell ?_ (by simp; try omega) _ | with_reducible refine Gr.alloc ?_ _ | with_reducible refine Gr.drew ?_ | with_reducible refine Gr.drewN ?_ _ | with_reducible refine Gr.trans ?_ (by assumption))))) (by (repeat (first | with_reducible exact Gr.refl _ | with_reducible assumption | with_reducible refine Gr.setCell ?_ (by simp; try omega) _ | with_reducible refine Gr.alloc ?_ _ | with_reducible refine Gr.drew ?_ | with_reducible refine Gr.drewN ?_ _ | with_reducible refine Gr.trans ?_ (by assumption)))) _ p12 _ rfl (src_pair HN12.out hown12) (by unfold maxLen; omega) (by omega) ?_; intro va11 vc11 w11 hown11 hg11 _; obtain ⟨x110, x111, x112, x113, x114, x115, x11f⟩ := hS _ hg11))
  go_ret
  refine ⟨_, rfl, rb_of hown11 ?_, hw0.trans hg11⟩
  skip
  simp [bcells]
end Go.Proofs.YtonbnmicgmnliaaGreatDoor

namespace Go.Proofs.YtonbnmicgmnliaaGreatDoor
set_option linter.unusedSimpArgs false
set_option linter.unusedVariables false
open Go.RowKit
set_option linter.unusedVariables false

theorem rbytes_can {w : World} {t : Tok} {a1 a2 : Option Addr} {n1 c1 n2 c2 : Nat} (hc : Can t) (h : RdTok w t a1 n1 a2 n2) (hcap : n1 ≤ c1) (hmax : c1 ≤ maxLen) (eight : Bool) :
    Calls Tryz.prog 27 #[.agg #[.int .i64 t.kind, .int .u8 t.code, .int .u8 t.mark, .slice a1 n1 c1, .string (strOf t.inters), .slice a2 n2 c2], .bool eight] w (RBOut w (bytesR t eight)) := by
  have hd := h.dlen
  have hp := h.params
  have hdt := h.data
  cases hc with
  | print c hh => exact rb_one eight (.inl rfl)
  | ctrl c hh => exact rb_one eight (.inr rfl)
  | esc c l hh hl hx =>
    by_cases hl0 : l = []
    · subst hl0
      have e : bytesR ⟨3, c, 0, [], [], []⟩ eight = pairR c eight := by simp [bytesR]
      rw [e]
      exact rb_esc0 (c := c) eight (by omega)
    · have e : bytesR ⟨3, c, 0, [], l, []⟩ eight = [27] ++ (l ++ [c]) := by simp [bytesR, hl0]
      rw [e]
      exact rb_esc eight hl hl0
  | csi c m ps l hh hm hps hl =>
    rcases hm with rfl | hm
    · have e : bytesR ⟨4, c, 0, ps, l, []⟩ eight = pairR (begR 4) eight ++ fmtR ps ++ l ++ [c] := by simp [bytesR]
      rw [e]
      exact rb_csi (k := 0) (m := 0) (d := []) eight hl hp hcap hmax
    · have hm0 : m ≠ 0 := by omega
      have e : bytesR ⟨4, c, m, ps, l, []⟩ eight = pairR (begR 4) eight ++ [m] ++ fmtR ps ++ l ++ [c] := by simp [bytesR, hm0]
      rw [e]
      exact rb_csi_m (k := 0) (d := []) eight hm hl hp hcap hmax
  | dcs c m ps l d hh hm hps hl hdd =>
    have hd4 : n2 ≤ 4096 := by have := hdd.1; simp only at hd; omega
    rcases hm with rfl | hm
    · have e : bytesR ⟨5, c, 0, ps, l, d⟩ eight = pairR (begR 5) eight ++ fmtR ps ++ l ++ [c] ++ d ++ pairR 92 eight := by simp [bytesR]
      rw [e]
      exact rb_dcs (k := 0) (m := 0) eight hl hp hcap hmax hdt hd4
    · have hm0 : m ≠ 0 := by omega
      have e : bytesR ⟨5, c, m, ps, l, d⟩ eight = pairR (begR 5) eight ++ [m] ++ fmtR ps ++ l ++ [c] ++ d ++ pairR 92 eight := by simp [bytesR, hm0]
      rw [e]
      exact rb_dcs_m (k := 0) eight hm hl hp hcap hmax hdt hd4
  | str k d hk hdd =>
    have hd4 : n2 ≤ 4096 := by have := hdd.1; simp only at hd; omega
    have e : bytesR ⟨k, 0, 0, [], [], d⟩ eight = pairR (begR k) eight ++ d ++ pairR 92 eight := by
      have h1 : ¬ k < 3 := by omega
      have h2 : ¬ k = 3 := by omega
      have h3 : ¬ k < 6 := by omega
      have h4 : 4 < k := by omega
      simp [bytesR, h1, h2, h3, h4]
    rw [e]
    exact rb_str (ps := []) (l := []) eight hk hdt hd4

end Go.Proofs.YtonbnmicgmnliaaGreatDoor
