/-
  The law KeysApart, walked (gen_kyx2.py).
-/
import Derived.Test.YtonbnmicgmnliaaGreatDoorZKyX0
namespace Go.Proofs.YtonbnmicgmnliaaGreatDoor
set_option linter.unusedSimpArgs false
set_option linter.unusedVariables false
open Go.RowKit
set_option linter.unusedVariables false

def kxF (ta : Option Addr) (tc : Nat) (ga : Option Addr) (gn gc : Nat) (X : ByteArray) (ei : Bool) (n : Int) (A : List Int) : Nat → Value → World → Prop
  | 0, v, _ => v = .slice ta 1 tc
  | 1, v, _ => v = .int .i64 1
  | 2, v, _ => v = .bool false
  | 3, v, _ => v = .bool false
  | 4, v, _ => v = .slice ga gn gc
  | 5, v, _ => v = .string X
  | 6, v, _ => v = .bool ei
  | 7, v, _ => v = .int .i64 n
  | 8, v, w' => ∃ g, v = .slice (some ⟨g, 0, none⟩) 1 1 ∧ w'.heap[g]? = some (.cells #[.int .i64 n] 3 (0, 0))
  | 9, v, w' => ∃ va m vc, v = .slice va m vc ∧ HasRow w' 5 (.slice va m vc) m (bcells A)
  | 10, v, _ => v = .string X
  | 11, v, _ => v = .bool false
  | 12, v, _ => v = .bool false
  | _, _, _ => True
theorem kxF.gr {ta : Option Addr} {tc : Nat} {ga : Option Addr} {gn gc : Nat} {X : ByteArray} {ei : Bool} {n : Int} {A : List Int} {w1 w2 : World} {j : Nat} {u : Value} (h : kxF ta tc ga gn gc X ei n A j u w1) (hg : Gr w1 w2) : kxF ta tc ga gn gc X ei n A j u w2 := by
  unfold kxF at h ⊢
  split <;> first | exact h | skip
  · obtain ⟨g, e, h1⟩ := h; exact ⟨g, e, hg.blk h1⟩
  · obtain ⟨va, m, vc, e, h1⟩ := h; exact ⟨va, m, vc, e, h1.gr hg⟩
  all_goals trivial
/-- What has been sent. -/
structure ApS (w wB wr : World) (g8 : Nat) (x y : ByteArray) : Prop where
  upd : Upd [g8] wB wr
  row : wr.heap[g8]? = some (.cells #[.string x, .string y] 28 (0, 0))
  gb : Gr w wB
  lt : w.heap.size ≤ g8
theorem ApS.gr {w wB wr : World} {g8 : Nat} {x y : ByteArray} (h : ApS w wB wr g8 x y) : Gr w wr := h.gb.upd h.upd (by simpa using h.lt)
theorem ApS.set0 {w wB wr w' : World} {g8 : Nat} {x y : ByteArray} (h : ApS w wB wr g8 x y) (hg : Gr wr w') (u : ByteArray) : ApS w wB (w'.setCell ⟨g8, 0, none⟩ (.string u)) g8 u y :=
  ⟨(h.upd.gr hg).setCell (by simp) _, blk_set (hg.blk h.row) 0 _, h.gb, h.lt⟩
theorem ApS.set1 {w wB wr w' : World} {g8 : Nat} {x y : ByteArray} (h : ApS w wB wr g8 x y) (hg : Gr wr w') (u : ByteArray) : ApS w wB (w'.setCell ⟨g8, 1, none⟩ (.string u)) g8 x u :=
  ⟨(h.upd.gr hg).setCell (by simp) _, blk_set (hg.blk h.row) 1 _, h.gb, h.lt⟩
theorem ev_cells {wr w1 : World} {k c : Int} {s t : Bool} (hg1 : Gr (wr.alloc (.cells #[.int .i64 k, .int .u8 c, .bool s, .bool t] 23)) w1) : w1.cell? ⟨wr.heap.size, 0, none⟩ = some (.int .i64 k) ∧ w1.cell? ⟨wr.heap.size, 1, none⟩ = some (.int .u8 c) ∧ w1.cell? ⟨wr.heap.size, 2, none⟩ = some (.bool s) ∧ w1.cell? ⟨wr.heap.size, 3, none⟩ = some (.bool t) ∧ w1.frozen? ⟨wr.heap.size, 1, none⟩ = false ∧ w1.frozen? ⟨wr.heap.size, 2, none⟩ = false ∧ (∀ u1 u2 W, Gr ((w1.setCell ⟨wr.heap.size, 1, none⟩ u1).setCell ⟨wr.heap.size, 2, none⟩ u2) W → W.cell? ⟨wr.heap.size, 0, none⟩ = some (.int .i64 k)) ∧ (∀ u2 W, Gr (w1.setCell ⟨wr.heap.size, 2, none⟩ u2) W → W.cell? ⟨wr.heap.size, 0, none⟩ = some (.int .i64 k)) := by
  have hb := hg1.blk (heap_alloc_new wr (.cells #[.int .i64 k, .int .u8 c, .bool s, .bool t] 23))
  exact ⟨cell_of_row hb 0 _ rfl, cell_of_row hb 1 _ rfl, cell_of_row hb 2 _ rfl, cell_of_row hb 3 _ rfl, by simp [World.frozen?, hb], by simp [World.frozen?, hb], fun u1 u2 W hg => cell_of_row (hg.blk (blk_set (blk_set hb 1 u1) 2 u2)) 0 _ rfl, fun u2 W hg => cell_of_row (hg.blk (blk_set hb 2 u2)) 0 _ rfl⟩
def ApR (w wB : World) (g8 : Nat) (ka ca kb cb : Int) (X0 X1 : ByteArray) (iv : Value) (wr : World) : Prop :=
  (iv = .int .i64 0 ∧ ApS w wB wr g8 ⟨#[]⟩ ⟨#[]⟩) ∨ (iv = .int .i64 1 ∧ okA ka ca ∧ ApS w wB wr g8 X0 ⟨#[]⟩) ∨ (iv = .int .i64 2 ∧ okA ka ca ∧ okA kb cb ∧ ApS w wB wr g8 X0 X1)
/-- What the calls of a round answer. -/
structure ApK (w wB wr : World) (g7 : Nat) (k c : Int) (t ei : Bool) (X : ByteArray) : Prop where
  enc : ∀ W, Gr wr W → Calls Tryz.prog 6 #[.agg #[.int .i64 k, .int .u8 (if k = 16 then c else 0), .bool false, .bool t], .int .u32 0, .int .i64 2, .bool ei, .pointer (some ⟨g7, 0, none⟩)] W (RowTo W (apL (nK k c) ei).length (apL (nK k c) ei))
  spl : ∀ (W : World) (a : Option Addr) (cap n : Nat), n = (apL (nK k c) ei).length → HasRow W 5 (.slice a n cap) n (bcells (apL (nK k c) ei)) → Calls Tryz.prog 8 #[.slice a n cap] W fun e w' => ∃ va vc, e = .returned (.slice va 1 vc) ∧ Gr W w'
  csi : ∀ (W : World) (g : Nat), W.heap[g]? = some (.cells #[.int .i64 (nK k c)] 3 (0, 0)) → Calls Tryz.prog 9 #[.bool ei, .string ⟨#[126]⟩, .slice (some ⟨g, 0, none⟩) 1 1] W (RBOut W (apL (nK k c) ei))
  txt : X = strOf (apL (nK k c) ei)
theorem ap_len {n : Int} (h0 : 0 < n) (h1 : n ≤ 34) (e : Bool) : (apL n e).length ≤ 40000 := by
  rw [(ap_eq h0 h1 e).1]
  unfold apF
  by_cases hn : n < 10
  · rw [if_pos hn]; cases e <;> simp
  · rw [if_neg hn]; cases e <;> simp
theorem apK {w wB wr : World} {g7 g8 : Nat} {x y : ByteArray} (hS : ApS w wB wr g8 x y) (hK : KAt wB g7 noL false) (hne : g7 ≠ g8) (hT : tabT w) {k c : Int} (t ei : Bool) {X : ByteArray} (hok : okA k c) (hc : 0 ≤ c ∧ c < 256) (hX : X = strOf (apL (nK k c) ei)) : ApK w wB wr g7 k c t ei X := by
  have hr := nK_in hok
  refine ⟨fun W hg => ?_, fun W a cap n hn h => ?_, fun W g h => ?_, hX⟩
  · have hKr : KAt wr g7 noL false := ⟨hS.upd.blk hK.blk (by simpa using hne), hK.len⟩
    have := encode_any k (if k = 16 then c else 0) false t 0#32 2 ei g7 (hT.gr (hS.gr.trans hg)) (hKr.gr hg) (by split <;> omega)
    rw [enc_ap t ei hok] at this
    exact this
  · have hlen : n ≤ 40000 := by have := ap_len hr.1 hr.2 ei; omega
    have := psplit_walk (cap := cap) (ap_in hr.1 hr.2 ei) hlen h.rd_
    refine this.mono ?_
    rintro e w1 ⟨ov, qs, rfl, hA, hg⟩
    obtain ⟨sa, sc, rfl⟩ := row_form hA.row
    rw [(ap_eq hr.1 hr.2 ei).2]
    exact ⟨sa, sc, rfl, hg⟩
  · have := rcsi_any (s := ⟨#[126]⟩) ei (hasRow_lit (n := 1) (l := [nK k c]) rfl rfl h) (by omega) (by decide)
    exact this
set_option maxRecDepth 100000 in
set_option maxHeartbeats 8000000 in
theorem apart_walk (ka ca kb cb : Int) (sa ta sb tb ei : Bool) (w : World) (hT : tabT w) (hca : 0 ≤ ca ∧ ca < 256) (hcb : 0 ≤ cb ∧ cb < 256) :
    Calls Tryz.prog 3 #[.agg #[.int .i64 ka, .int .u8 ca, .bool sa, .bool ta], .agg #[.int .i64 kb, .int .u8 cb, .bool sb, .bool tb], .bool ei] w fun e w' => e = .returned (.bool true) ∧ Gr w w' := by
  have hg2 := ((Gr.refl w).alloc (.cells #[.int .i64 ka, .int .u8 ca, .bool sa, .bool ta] 23)).alloc (.cells #[.int .i64 kb, .int .u8 cb, .bool sb, .bool tb] 23)
  have hE3 := ((Gr.refl _).alloc (.cells #[.int .i64 kb, .int .u8 cb, .bool sb, .bool tb] 23)).blk (heap_alloc_new w (.cells #[.int .i64 ka, .int .u8 ca, .bool sa, .bool ta] 23))
  have hE4 := heap_new2 w (.cells #[.int .i64 ka, .int .u8 ca, .bool sa, .bool ta] 23) (.cells #[.int .i64 kb, .int .u8 cb, .bool sb, .bool tb] 23)
  have hs2 : ((w.alloc (.cells #[.int .i64 ka, .int .u8 ca, .bool sa, .bool ta] 23)).alloc (.cells #[.int .i64 kb, .int .u8 cb, .bool sb, .bool tb] 23)).heap.size = w.heap.size + 2 := by simp
  obtain ⟨w2, hw2⟩ : ∃ w2, w2 = (w.alloc (.cells #[.int .i64 ka, .int .u8 ca, .bool sa, .bool ta] 23)).alloc (.cells #[.int .i64 kb, .int .u8 cb, .bool sb, .bool tb] 23) := ⟨_, rfl⟩
  rw [← hw2] at hE3 hE4 hg2 hs2
  have haw := awake22 (w := w2) (hT.gr hg2)
  obtain ⟨g3, hg3d⟩ : ∃ g, g = w.heap.size := ⟨_, rfl⟩
  rw [← hg3d] at hE3 hE4 hs2
  have HT := Lib.hid hT
  have HS2 := Lib.hid hs2
  have HG := Lib.hid hg2
  have HE3 := Lib.hid hE3
  have HE4 := Lib.hid hE4
  clear hT hg2 hE3 hE4
  go_enter Tryz.func3, Tryz.ntmps3
  go_upto_region 1 with (fail)
  rw [← hw2, ← hg3d]
  have HG3 := Lib.hid hg3d
  clear hw2 hg3d hs2
  go_upto_region 3 with (go_at_call 4; (with_reducible refine haw.mono ?_); rintro e w3 ⟨rfl, hg3⟩)
  clear haw
  have k30 : ∀ W, Gr w3 W → W.cell? ⟨g3, 0, none⟩ = some (.int .i64 ka) ∧ W.cell? ⟨g3, 1, none⟩ = some (.int .u8 ca) ∧ W.cell? ⟨g3, 2, none⟩ = some (.bool sa) ∧ W.cell? ⟨g3, 3, none⟩ = some (.bool ta) := fun W hg => ⟨(hg3.trans hg).cellAt (cell_of_row HE3.out 0 _ rfl), (hg3.trans hg).cellAt (cell_of_row HE3.out 1 _ rfl), (hg3.trans hg).cellAt (cell_of_row HE3.out 2 _ rfl), (hg3.trans hg).cellAt (cell_of_row HE3.out 3 _ rfl)⟩
  have k40 : ∀ W, Gr w3 W → W.cell? ⟨g3 + 1, 0, none⟩ = some (.int .i64 kb) ∧ W.cell? ⟨g3 + 1, 1, none⟩ = some (.int .u8 cb) ∧ W.cell? ⟨g3 + 1, 2, none⟩ = some (.bool sb) ∧ W.cell? ⟨g3 + 1, 3, none⟩ = some (.bool tb) := fun W hg => ⟨(hg3.trans hg).cellAt (cell_of_row HE4.out 0 _ rfl), (hg3.trans hg).cellAt (cell_of_row HE4.out 1 _ rfl), (hg3.trans hg).cellAt (cell_of_row HE4.out 2 _ rfl), (hg3.trans hg).cellAt (cell_of_row HE4.out 3 _ rfl)⟩
  have hgAB := ((Gr.refl w3).alloc (.cells #[.string ⟨#[]⟩, .string ⟨#[]⟩, .string ⟨#[]⟩, .string ⟨#[]⟩, .string ⟨#[]⟩, .string ⟨#[]⟩, .string ⟨#[]⟩, .string ⟨#[]⟩, .string ⟨#[]⟩, .string ⟨#[]⟩, .string ⟨#[]⟩, .string ⟨#[]⟩, .string ⟨#[]⟩, .string ⟨#[]⟩, .string ⟨#[]⟩, .string ⟨#[]⟩, .string ⟨#[]⟩, .string ⟨#[]⟩, .bool false] 27)).alloc (.cells #[.string ⟨#[]⟩, .string ⟨#[]⟩] 28)
  obtain ⟨x30, x31, x32, x33⟩ := k30 _ hgAB
  obtain ⟨x40, x41, x42, x43⟩ := k40 _ hgAB
  clear k30 k40
  have hsA : (w3.alloc (.cells #[.string ⟨#[]⟩, .string ⟨#[]⟩, .string ⟨#[]⟩, .string ⟨#[]⟩, .string ⟨#[]⟩, .string ⟨#[]⟩, .string ⟨#[]⟩, .string ⟨#[]⟩, .string ⟨#[]⟩, .string ⟨#[]⟩, .string ⟨#[]⟩, .string ⟨#[]⟩, .string ⟨#[]⟩, .string ⟨#[]⟩, .string ⟨#[]⟩, .string ⟨#[]⟩, .string ⟨#[]⟩, .string ⟨#[]⟩, .bool false] 27)).heap.size = w3.heap.size + 1 := by simp
  have hb8 := heap_new2 w3 (.cells #[.string ⟨#[]⟩, .string ⟨#[]⟩, .string ⟨#[]⟩, .string ⟨#[]⟩, .string ⟨#[]⟩, .string ⟨#[]⟩, .string ⟨#[]⟩, .string ⟨#[]⟩, .string ⟨#[]⟩, .string ⟨#[]⟩, .string ⟨#[]⟩, .string ⟨#[]⟩, .string ⟨#[]⟩, .string ⟨#[]⟩, .string ⟨#[]⟩, .string ⟨#[]⟩, .string ⟨#[]⟩, .string ⟨#[]⟩, .bool false] 27) (.cells #[.string ⟨#[]⟩, .string ⟨#[]⟩] 28)
  have hK7 := (KAt.fresh w3).gr ((Gr.refl _).alloc (.cells #[.string ⟨#[]⟩, .string ⟨#[]⟩] 28))
  go_upto_region 6 with (fail)
  obtain ⟨wA, hwA⟩ : ∃ wA, wA = (w3.alloc (.cells #[.string ⟨#[]⟩, .string ⟨#[]⟩, .string ⟨#[]⟩, .string ⟨#[]⟩, .string ⟨#[]⟩, .string ⟨#[]⟩, .string ⟨#[]⟩, .string ⟨#[]⟩, .string ⟨#[]⟩, .string ⟨#[]⟩, .string ⟨#[]⟩, .string ⟨#[]⟩, .string ⟨#[]⟩, .string ⟨#[]⟩, .string ⟨#[]⟩, .string ⟨#[]⟩, .string ⟨#[]⟩, .string ⟨#[]⟩, .bool false] 27)).alloc (.cells #[.string ⟨#[]⟩, .string ⟨#[]⟩] 28) := ⟨_, rfl⟩
  have hszA : wA.heap.size = w3.heap.size + 1 + 1 := by rw [hwA]; simp
  rw [← hwA] at hb8 hK7 hgAB ⊢
  have hsl0 := heap_alloc_new wA (.cells #[.int .i64 ka, .int .u8 ca, .bool sa, .bool ta, .int .i64 kb, .int .u8 cb, .bool sb, .bool tb] 23)
  rw [hszA] at hsl0
  obtain ⟨g7, hg7⟩ : ∃ g, g = w3.heap.size := ⟨_, rfl⟩
  obtain ⟨g8, hg8⟩ : ∃ g, g = g7 + 1 := ⟨_, rfl⟩
  obtain ⟨gs, hgs⟩ : ∃ g, g = g8 + 1 := ⟨_, rfl⟩
  obtain ⟨wB, hwB⟩ : ∃ wB, wB = wA.alloc (.cells #[.int .i64 ka, .int .u8 ca, .bool sa, .bool ta, .int .i64 kb, .int .u8 cb, .bool sb, .bool tb] 23) := ⟨_, rfl⟩
  have hne78 : g7 ≠ g8 := by omega
  have hnes8 : gs ≠ g8 := by omega
  have hszg : w.heap.size ≤ w3.heap.size := by have := (HG.out.trans hg3).size; exact this
  have hgAB2 : Gr wA wB := by rw [hwB]; exact (Gr.refl wA).alloc _
  rw [← hg7, ← hg8, ← hgs, ← hwB] at hsl0
  rw [← hwB]
  rw [← hg7] at hK7
  rw [← hg7, ← hg8] at hb8
  simp only [← hg7]
  simp only [← hg8]
  simp only [← hgs]
  have hS0 : ApS w wB wB g8 ⟨#[]⟩ ⟨#[]⟩ := ⟨Upd.refl _ _, hgAB2.blk hb8, (HG.out.trans hg3).trans (hgAB.trans hgAB2), by omega⟩
  have hKB := hK7.gr hgAB2
  have h3B := (hg3.trans (hgAB.trans hgAB2)).blk HE3.out
  have h4B := (hg3.trans (hgAB.trans hgAB2)).blk HE4.out
  have hne3 : g3 ≠ g8 := by have := hg3.size; have := HS2.out; omega
  have hne4 : g3 + 1 ≠ g8 := by have := hg3.size; have := HS2.out; omega
  have H3B := Lib.hid h3B
  have H4B := Lib.hid h4B
  have HSL := Lib.hid hsl0
  have HSZ := Lib.hid hszA
  obtain ⟨X0, hX0⟩ : ∃ X, X = strOf (apL (nK ka ca) ei) := ⟨_, rfl⟩
  obtain ⟨X1, hX1⟩ : ∃ X, X = strOf (apL (nK kb cb) ei) := ⟨_, rfl⟩
  have HX0 := Lib.hid hX0
  have HX1 := Lib.hid hX1
  clear hwA hszA hg7 hg8 hgs hwB hszg hb8 hK7 hgAB hgAB2 hsA h3B h4B hsl0 hX0 hX1 x30 x31 x32 x33 x40 x41 x42 x43 HE3 HE4 HG
  go_loopw [22] (fun iv wr => ApR w wB g8 ka ca kb cb X0 X1 iv wr) (fun iv _ => 2 - (intOf iv).toNat)
  case atStart => exact .inl ⟨rfl, hS0⟩
  case round =>
    clear hS0
    rcases hrel with ⟨rfl, hS⟩ | ⟨rfl, hok0, hS⟩ | ⟨rfl, hok0, hok1, hS⟩
    all_goals have hsl : wr.heap[gs]? = some (.cells #[.int .i64 ka, .int .u8 ca, .bool sa, .bool ta, .int .i64 kb, .int .u8 cb, .bool sb, .bool tb] 23 (0, 0)) := hS.upd.blk HSL.out (by simpa using hnes8)
    · skip
      have e0 : wr.cell? ⟨gs, 0, none⟩ = some (.int .i64 ka) := cell_of_row hsl 0 _ rfl
      have e1 : wr.cell? ⟨gs, 1, none⟩ = some (.int .u8 ca) := cell_of_row hsl 1 _ rfl
      have e2 : wr.cell? ⟨gs, 2, none⟩ = some (.bool sa) := cell_of_row hsl 2 _ rfl
      have e3 : wr.cell? ⟨gs, 3, none⟩ = some (.bool ta) := cell_of_row hsl 3 _ rfl
      have hnum := rnum_any ca
      have hgr := hS.gr
      obtain ⟨N, hN⟩ : ∃ N, N = numK ca := ⟨_, rfl⟩
      rw [← hN] at hnum
      have hcs : (ka < 9) ∨ (9 ≤ ka ∧ 14 < ka ∧ ka ≠ 16) ∨ (ka = 16 ∧ N ≤ 0) ∨ (9 ≤ ka ∧ ka ≤ 14) ∨ (ka = 16 ∧ 0 < N) := by omega
      rcases hcs with q | ⟨q, qa, qb⟩ | ⟨q, qa⟩ | ⟨q, qa⟩ | ⟨q, qa⟩
      · clear hS hN
        have qn : ka ≠ 16 := by omega
        have qz : (ka == 16) = false := by simp; omega
        go_wp2_with (go_at_call 5; (with_reducible refine (hnum _).mono ?_); rintro e w1 ⟨rfl, hg1⟩; obtain ⟨y0, y1, y2, y3, fz1, fz2, y5, y6⟩ := ev_cells hg1)
        go_ret
        exact ⟨rfl, (hgr.alloc _).trans hg1⟩
      · clear hS hN
        have qz : (ka == 16) = false := by simpa using qb
        have qy : decide (ka ≤ 14) = false := by simp; omega
        go_wp2_with (go_at_call 5; (with_reducible refine (hnum _).mono ?_); rintro e w1 ⟨rfl, hg1⟩; obtain ⟨y0, y1, y2, y3, fz1, fz2, y5, y6⟩ := ev_cells hg1)
        go_ret
        exact ⟨rfl, (hgr.alloc _).trans hg1⟩
      · clear hS hN
        subst q
        have qy : decide (0 < N) = false := by simp; omega
        go_wp2_with (go_at_call 5; (with_reducible refine (hnum _).mono ?_); rintro e w1 ⟨rfl, hg1⟩; obtain ⟨y0, y1, y2, y3, fz1, fz2, y5, y6⟩ := ev_cells hg1)
        go_ret
        exact ⟨rfl, (hgr.alloc _).trans hg1⟩
      · have hok : okA ka ca := .inl ⟨q, qa⟩
        have hr := nK_in hok
        have hnn : nK ka ca = ka - 8 := by unfold nK; rw [if_neg (by omega)]
        have hKK := apK (t := ta) (ei := ei) hS hKB hne78 HT.out hok hca HX0.out
        have qn : (ka == 16) = false := by simp; omega
        have qy : decide (ka ≤ 14) = true := by simp; omega
        have qz : ka ≠ 16 := by omega
        have hcc : (if ka = 16 then ca else 0) = 0 := if_neg qz
        obtain ⟨hE, hsp, hcsi, htx⟩ := hKK
        rw [hcc] at hE
        rw [hnn] at hr
        obtain ⟨A, hA⟩ : ∃ A, A = apL (nK ka ca) ei := ⟨_, rfl⟩
        rw [← hA] at hE hsp hcsi htx
        rw [hnn] at hcsi
        obtain ⟨gn, hgn⟩ : ∃ n, n = A.length := ⟨_, rfl⟩
        rw [← hgn] at hE hsp
        have HX := Lib.hid htx
        have HS := Lib.hid hS
        have HOK := Lib.hid hok
        clear hA hgn htx hcc hnn hS hok hN
        have hgA : Gr wr (wr.alloc (.cells #[.int .i64 ka, .int .u8 0, .bool false, .bool ta] 23)) := (Gr.refl wr).alloc _
        go_upto_region 19 with (first
          | (go_at_call 5; (with_reducible refine (hnum _).mono ?_); rintro e w1 ⟨rfl, hg1⟩; obtain ⟨y0, y1, y2, y3, fz1, fz2, y5, y6⟩ := ev_cells hg1)
          | (go_at_call 7; (with_reducible refine (own22 _ _ _ _ _).mono ?_); rintro e w4 ⟨rfl, hg4⟩)
          | (go_at_call 6; (with_reducible refine (hE _ (by (repeat (first | with_reducible exact Gr.refl _ | with_reducible assumption | with_reducible refine Gr.setCell ?_ (by simp; try omega) _ | with_reducible refine Gr.alloc ?_ _ | with_reducible refine Gr.drew ?_ | with_reducible refine Gr.drewN ?_ _ | with_reducible refine Gr.trans ?_ (by assumption))))).mono ?_); rintro e w5 ⟨ga, gc, rfl, hrow, hg5⟩)
          | (go_at_call 8; (with_reducible refine (hsp _ _ _ _ rfl hrow).mono ?_); rintro e w6 ⟨la, lc, rfl, hg6⟩; have z0 := y5 _ _ _ (hg4.trans (hg5.trans hg6)); clear y5 y6))
        have hgB : Gr wr w6 := by (repeat (first | with_reducible exact Gr.refl _ | with_reducible assumption | with_reducible refine Gr.setCell ?_ (by simp; try omega) _ | with_reducible refine Gr.alloc ?_ _ | with_reducible refine Gr.drew ?_ | with_reducible refine Gr.drewN ?_ _ | with_reducible refine Gr.trans ?_ (by assumption)))
        have hcv0 := conv_row (hrow.gr hg6)
        rw [← HX.out] at hcv0
        have HCV := Lib.hid (fun (W : World) (hg : Gr w6 W) => (by have := conv_row (hrow.gr (hg6.trans hg)); rw [← HX.out] at this; exact this : (convert 31 9 (.slice ga gn gc)).run Tryz.prog W = .ok (.string X0) W))
        have HCS := Lib.hid hcsi
        have HZ := Lib.hid hgB
        clear hcv0 hrow hcsi hE hsp hnum z0 y0 y1 y2 y3 fz1 fz2 e0 e1 e2 e3 hsl hgA hg1 hg4 hg5 hg6 hgB
        refine wp_region_facts6 (kxF la lc ga gn gc X0 ei (ka - 8) A) (Gr w6) (by kernel_rfl) (by kernel_rfl) (by kernel_rfl) (Gr.refl w6).drew ?_ ?_
        · intro hap
          refine Steps.cons1 1 rfl rfl ?_ (Steps.cons1 2 rfl rfl ?_ (Steps.cons1 3 rfl rfl ?_ (Steps.cons1 4 rfl rfl ?_ (Steps.consY 5 rfl 3 false rfl hap (by kernel_rfl) ?_ ?_ (Steps.consY 6 rfl 3 false rfl hap (by kernel_rfl) ?_ ?_ (Steps.consY 7 rfl 3 false rfl hap (by kernel_rfl) ?_ ?_ (Steps.consY 8 rfl 3 false rfl hap (by kernel_rfl) ?_ ?_ (Steps.consY 9 rfl 3 false rfl hap (by kernel_rfl) ?_ ?_ (Steps.consY 10 rfl 3 false rfl hap (by kernel_rfl) ?_ ?_ (Steps.consY 11 rfl 3 false rfl hap (by kernel_rfl) ?_ ?_ (Steps.consY 12 rfl 3 false rfl hap (by kernel_rfl) ?_ ?_ (Steps.cons1 13 rfl rfl ?_ (Steps.nil)))))))))))))
          · (intro ys w' hB hP K hK; simp only [Preds, Region.binds, kxF, forall_const, and_true, true_and] at hP; simp only [fillA]; go_simp; (have h2 := fun v => hK v w' hB); simp only [kxF, forall_eq] at h2; (have h2 := h2 (fun _ _ _ h => h)); simp [fillA, Act.put, hP] at h2; exact h2)
          · (intro ys w' hB hP K hK; simp only [Preds, Region.binds, kxF, forall_const, and_true, true_and] at hP; simp only [fillA]; go_simp; (have h2 := fun v => hK v w' hB); simp only [kxF, forall_eq] at h2; (have h2 := h2 (fun _ _ _ h => h)); simp [fillA, Act.put, hP] at h2; exact h2)
          · (intro ys w' hB hP K hK; simp only [Preds, Region.binds, kxF, forall_const, and_true, true_and] at hP; simp only [fillA]; go_simp; (have h2 := fun v => hK v w' hB); simp only [kxF, forall_eq] at h2; (have h2 := h2 (fun _ _ _ h => h)); simp [fillA, Act.put, hP] at h2; exact h2)
          · (intro ys w' hB hP K hK; simp only [Preds, Region.binds, kxF, forall_const, and_true, true_and] at hP; simp only [fillA]; go_simp; (have h2 := fun v => hK v w' hB); simp only [kxF, forall_eq] at h2; (have h2 := h2 (fun _ _ _ h => h)); simp [fillA, Act.put, hP] at h2; exact h2)
          · (intro ys w' hB hP; simp only [Preds, Region.binds, kxF, forall_const, and_true, true_and] at hP; simp [hP])
          · (intro ys w' hB hP K hK; simp only [Preds, Region.binds, kxF, forall_const, and_true, true_and] at hP; simp only [fillA]; go_simp; (have h2 := fun v => hK v w' hB); simp only [kxF, forall_eq] at h2; (have h2 := h2 (fun _ _ _ h => h)); simp [fillA, Act.put, hP] at h2; exact h2)
          · (intro ys w' hB hP; simp only [Preds, Region.binds, kxF, forall_const, and_true, true_and] at hP; simp [hP])
          · (intro ys w' hB hP; simp only [Preds, Region.binds, kxF, forall_const, and_true, true_and] at hP)
            have hcv := HCV.out w' hB
            intro K hK
            simp only [fillA]
            go_simp
            have h2 := hK _ w' hB rfl (fun j u _ h => h)
            simp [fillA, Act.put, hP] at h2
            exact h2
          · (intro ys w' hB hP; simp only [Preds, Region.binds, kxF, forall_const, and_true, true_and] at hP; simp [hP])
          · (intro ys w' hB hP K hK; simp only [Preds, Region.binds, kxF, forall_const, and_true, true_and] at hP; simp only [fillA]; go_simp; (have h2 := fun v => hK v w' hB); simp only [kxF, forall_eq] at h2; (have h2 := h2 (fun _ _ _ h => h)); simp [fillA, Act.put, hP] at h2; exact h2)
          · (intro ys w' hB hP; simp only [Preds, Region.binds, kxF, forall_const, and_true, true_and] at hP; simp [hP])
          · (intro ys w' hB hP K hK; simp only [Preds, Region.binds, kxF, forall_const, and_true, true_and] at hP; simp only [fillA]; go_simp; (have h2 := fun v => hK v w' hB); simp only [kxF, forall_eq] at h2; (have h2 := h2 (fun _ _ _ h => h)); simp [fillA, Act.put, hP] at h2; exact h2)
          · (intro ys w' hB hP; simp only [Preds, Region.binds, kxF, forall_const, and_true, true_and] at hP; simp [hP])
          · (intro ys w' hB hP; simp only [Preds, Region.binds, kxF, forall_const, and_true, true_and] at hP)
            intro K hK
            simp only [fillA]
            go_simp
            have h2 := hK (.slice (some ⟨w'.heap.size, 0, none⟩) 1 1) (w'.alloc (.cells #[.int .i64 (ka - 8)] 3)) (hB.alloc _) ⟨w'.heap.size, rfl, heap_alloc_new _ _⟩ (fun j u _ h => h.gr ((Gr.refl w').alloc _))
            simp [fillA, Act.put, hP] at h2
            exact h2
          · (intro ys w' hB hP; simp only [Preds, Region.binds, kxF, forall_const, and_true, true_and] at hP; simp [hP])
          · (intro ys w' hB hP; simp only [Preds, Region.binds, kxF, forall_const, and_true, true_and] at hP)
            obtain ⟨g, hy, hrow⟩ : ∃ g, ys 8 = .slice (some ⟨g, 0, none⟩) 1 1 ∧ w'.heap[g]? = some (.cells #[.int .i64 (ka - 8)] 3 (0, 0)) := (by first | exact hP | exact hP.1 | exact hP.2 | exact hP.2.1 | exact hP.2.2 | exact hP.2.2.1 | exact hP.2.2.2 | exact hP.2.2.2.1 | exact hP.2.2.2.2 | exact hP.1.1 | exact hP.1.2)
            have h6 : ys 6 = .bool ei := (by first | exact hP | exact hP.1 | exact hP.2 | exact hP.2.1 | exact hP.2.2 | exact hP.2.2.1 | exact hP.2.2.2 | exact hP.2.2.2.1 | exact hP.2.2.2.2 | exact hP.1.1 | exact hP.1.2)
            have h3 : ys 3 = .bool false := (by first | exact hP | exact hP.1 | exact hP.2 | exact hP.2.1 | exact hP.2.2 | exact hP.2.2.1 | exact hP.2.2.2 | exact hP.2.2.2.1 | exact hP.2.2.2.2 | exact hP.1.1 | exact hP.1.2)
            clear hP
            intro K hK
            simp only [fillA]
            go_simp
            (with_reducible refine (HCS.out _ g hrow).mono ?_)
            rintro e w10 ⟨v2, rfl, hrow2, hg10⟩
            obtain ⟨va2, vc2, rfl⟩ := hrow2.form
            have h2 := hK _ w10 (hB.trans hg10) ⟨va2, _, vc2, rfl, hrow2⟩ (fun j u _ h => h.gr hg10)
            simp [fillA, Act.put, hy, h6, h3] at h2
            exact h2
          · (intro ys w' hB hP; simp only [Preds, Region.binds, kxF, forall_const, and_true, true_and] at hP; simp [hP])
          · (intro ys w' hB hP; simp only [Preds, Region.binds, kxF, forall_const, and_true, true_and] at hP)
            obtain ⟨va2, n2', vc2, hy, hrow2⟩ : ∃ va m vc, ys 9 = .slice va m vc ∧ HasRow w' 5 (.slice va m vc) m (bcells A) := (by first | exact hP | exact hP.1 | exact hP.2 | exact hP.2.1 | exact hP.2.2 | exact hP.2.2.1 | exact hP.2.2.2 | exact hP.2.2.2.1 | exact hP.2.2.2.2 | exact hP.1.1 | exact hP.1.2)
            have h3 : ys 3 = .bool false := (by first | exact hP | exact hP.1 | exact hP.2 | exact hP.2.1 | exact hP.2.2 | exact hP.2.2.1 | exact hP.2.2.2 | exact hP.2.2.2.1 | exact hP.2.2.2.2 | exact hP.1.1 | exact hP.1.2)
            clear hP
            have hcv2 := conv_row hrow2
            rw [← HX.out] at hcv2
            intro K hK
            simp only [fillA]
            go_simp
            have h2 := hK _ w' hB rfl (fun j u _ h => h)
            simp [fillA, Act.put, hy, h3] at h2
            exact h2
          · (intro ys w' hB hP; simp only [Preds, Region.binds, kxF, forall_const, and_true, true_and] at hP; simp [hP])
          · (intro ys w' hB hP K hK; simp only [Preds, Region.binds, kxF, forall_const, and_true, true_and] at hP; simp only [fillA]; go_simp; (have h2 := fun v => hK v w' hB); simp only [kxF, forall_eq] at h2; (have h2 := h2 (fun _ _ _ h => h)); simp [fillA, Act.put, hP] at h2; exact h2)
          · (intro ys w' hB hP K hK; simp only [Preds, Region.binds, kxF, forall_const, and_true, true_and] at hP; simp only [fillA]; go_simp; (have h2 := fun v => hK v w' hB); simp only [kxF, forall_eq] at h2; (have h2 := h2 (fun _ _ _ h => h)); simp [fillA, Act.put, hP] at h2; exact h2)
        · intro ys3 w11 hB3 hF
          have f12 : ys3 12 = .bool false := hF 12 (by decide)
          clear hF
          have hcv := HCV.out w11 hB3
          have hb8 := (HZ.out.trans hB3).blk HS.out.row
          have hc8 := cell_of_row hb8 0 _ rfl
          have hf8 : w11.frozen? ⟨g8, 0, none⟩ = false := by simp [World.frozen?, hb8]
          simp only [fillA, f12, Act.put, Nat.zero_add, List.setIfInBounds_toArray, List.set_cons_zero, List.set_cons_succ]
          clear f12
          go_wp2_with fail
          go_roundw
          case rel => exact .inr (.inl ⟨rfl, HOK.out, HS.out.set0 (HZ.out.trans hB3) X0⟩)
          case measure => simp [intOf]
      · have hok : okA ka ca := .inr ⟨q, by rw [← hN]; exact qa⟩
        have hr := nK_in hok
        have hnn : nK ka ca = N := by unfold nK; rw [if_pos q, hN]
        have hKK := apK (t := ta) (ei := ei) hS hKB hne78 HT.out hok hca HX0.out
        have hcc : (if ka = 16 then ca else 0) = ca := if_pos q
        obtain ⟨hE, hsp, hcsi, htx⟩ := hKK
        rw [hcc] at hE
        rw [hnn] at hr
        obtain ⟨A, hA⟩ : ∃ A, A = apL (nK ka ca) ei := ⟨_, rfl⟩
        rw [← hA] at hE hsp hcsi htx
        rw [hnn] at hcsi
        obtain ⟨gn, hgn⟩ : ∃ n, n = A.length := ⟨_, rfl⟩
        rw [← hgn] at hE hsp
        have HX := Lib.hid htx
        have HS := Lib.hid hS
        have HOK := Lib.hid hok
        clear hA hgn htx hcc hnn hS hok hN
        have qy : decide (0 < N) = true := by simp; omega
        subst q
        have hgA : Gr wr (wr.alloc (.cells #[.int .i64 16, .int .u8 ca, .bool false, .bool ta] 23)) := (Gr.refl wr).alloc _
        go_upto_region 19 with (first
          | (go_at_call 5; (with_reducible refine (hnum _).mono ?_); rintro e w1 ⟨rfl, hg1⟩; obtain ⟨y0, y1, y2, y3, fz1, fz2, y5, y6⟩ := ev_cells hg1)
          | (go_at_call 7; (with_reducible refine (own22 _ _ _ _ _).mono ?_); rintro e w4 ⟨rfl, hg4⟩)
          | (go_at_call 6; (with_reducible refine (hE _ (by (repeat (first | with_reducible exact Gr.refl _ | with_reducible assumption | with_reducible refine Gr.setCell ?_ (by simp; try omega) _ | with_reducible refine Gr.alloc ?_ _ | with_reducible refine Gr.drew ?_ | with_reducible refine Gr.drewN ?_ _ | with_reducible refine Gr.trans ?_ (by assumption))))).mono ?_); rintro e w5 ⟨ga, gc, rfl, hrow, hg5⟩)
          | (go_at_call 8; (with_reducible refine (hsp _ _ _ _ rfl hrow).mono ?_); rintro e w6 ⟨la, lc, rfl, hg6⟩; have z0 := y6 _ _ (hg4.trans (hg5.trans hg6)); clear y5 y6))
        have hgB : Gr wr w6 := by (repeat (first | with_reducible exact Gr.refl _ | with_reducible assumption | with_reducible refine Gr.setCell ?_ (by simp; try omega) _ | with_reducible refine Gr.alloc ?_ _ | with_reducible refine Gr.drew ?_ | with_reducible refine Gr.drewN ?_ _ | with_reducible refine Gr.trans ?_ (by assumption)))
        have hcv0 := conv_row (hrow.gr hg6)
        rw [← HX.out] at hcv0
        have HCV := Lib.hid (fun (W : World) (hg : Gr w6 W) => (by have := conv_row (hrow.gr (hg6.trans hg)); rw [← HX.out] at this; exact this : (convert 31 9 (.slice ga gn gc)).run Tryz.prog W = .ok (.string X0) W))
        have HCS := Lib.hid hcsi
        have HZ := Lib.hid hgB
        clear hcv0 hrow hcsi hE hsp hnum z0 y0 y1 y2 y3 fz1 fz2 e0 e1 e2 e3 hsl hgA hg1 hg4 hg5 hg6 hgB
        refine wp_region_facts6 (kxF la lc ga gn gc X0 ei N A) (Gr w6) (by kernel_rfl) (by kernel_rfl) (by kernel_rfl) (Gr.refl w6).drew ?_ ?_
        · intro hap
          refine Steps.cons1 1 rfl rfl ?_ (Steps.cons1 2 rfl rfl ?_ (Steps.cons1 3 rfl rfl ?_ (Steps.cons1 4 rfl rfl ?_ (Steps.consY 5 rfl 3 false rfl hap (by kernel_rfl) ?_ ?_ (Steps.consY 6 rfl 3 false rfl hap (by kernel_rfl) ?_ ?_ (Steps.consY 7 rfl 3 false rfl hap (by kernel_rfl) ?_ ?_ (Steps.consY 8 rfl 3 false rfl hap (by kernel_rfl) ?_ ?_ (Steps.consY 9 rfl 3 false rfl hap (by kernel_rfl) ?_ ?_ (Steps.consY 10 rfl 3 false rfl hap (by kernel_rfl) ?_ ?_ (Steps.consY 11 rfl 3 false rfl hap (by kernel_rfl) ?_ ?_ (Steps.consY 12 rfl 3 false rfl hap (by kernel_rfl) ?_ ?_ (Steps.cons1 13 rfl rfl ?_ (Steps.nil)))))))))))))
          · (intro ys w' hB hP K hK; simp only [Preds, Region.binds, kxF, forall_const, and_true, true_and] at hP; simp only [fillA]; go_simp; (have h2 := fun v => hK v w' hB); simp only [kxF, forall_eq] at h2; (have h2 := h2 (fun _ _ _ h => h)); simp [fillA, Act.put, hP] at h2; exact h2)
          · (intro ys w' hB hP K hK; simp only [Preds, Region.binds, kxF, forall_const, and_true, true_and] at hP; simp only [fillA]; go_simp; (have h2 := fun v => hK v w' hB); simp only [kxF, forall_eq] at h2; (have h2 := h2 (fun _ _ _ h => h)); simp [fillA, Act.put, hP] at h2; exact h2)
          · (intro ys w' hB hP K hK; simp only [Preds, Region.binds, kxF, forall_const, and_true, true_and] at hP; simp only [fillA]; go_simp; (have h2 := fun v => hK v w' hB); simp only [kxF, forall_eq] at h2; (have h2 := h2 (fun _ _ _ h => h)); simp [fillA, Act.put, hP] at h2; exact h2)
          · (intro ys w' hB hP K hK; simp only [Preds, Region.binds, kxF, forall_const, and_true, true_and] at hP; simp only [fillA]; go_simp; (have h2 := fun v => hK v w' hB); simp only [kxF, forall_eq] at h2; (have h2 := h2 (fun _ _ _ h => h)); simp [fillA, Act.put, hP] at h2; exact h2)
          · (intro ys w' hB hP; simp only [Preds, Region.binds, kxF, forall_const, and_true, true_and] at hP; simp [hP])
          · (intro ys w' hB hP K hK; simp only [Preds, Region.binds, kxF, forall_const, and_true, true_and] at hP; simp only [fillA]; go_simp; (have h2 := fun v => hK v w' hB); simp only [kxF, forall_eq] at h2; (have h2 := h2 (fun _ _ _ h => h)); simp [fillA, Act.put, hP] at h2; exact h2)
          · (intro ys w' hB hP; simp only [Preds, Region.binds, kxF, forall_const, and_true, true_and] at hP; simp [hP])
          · (intro ys w' hB hP; simp only [Preds, Region.binds, kxF, forall_const, and_true, true_and] at hP)
            have hcv := HCV.out w' hB
            intro K hK
            simp only [fillA]
            go_simp
            have h2 := hK _ w' hB rfl (fun j u _ h => h)
            simp [fillA, Act.put, hP] at h2
            exact h2
          · (intro ys w' hB hP; simp only [Preds, Region.binds, kxF, forall_const, and_true, true_and] at hP; simp [hP])
          · (intro ys w' hB hP K hK; simp only [Preds, Region.binds, kxF, forall_const, and_true, true_and] at hP; simp only [fillA]; go_simp; (have h2 := fun v => hK v w' hB); simp only [kxF, forall_eq] at h2; (have h2 := h2 (fun _ _ _ h => h)); simp [fillA, Act.put, hP] at h2; exact h2)
          · (intro ys w' hB hP; simp only [Preds, Region.binds, kxF, forall_const, and_true, true_and] at hP; simp [hP])
          · (intro ys w' hB hP K hK; simp only [Preds, Region.binds, kxF, forall_const, and_true, true_and] at hP; simp only [fillA]; go_simp; (have h2 := fun v => hK v w' hB); simp only [kxF, forall_eq] at h2; (have h2 := h2 (fun _ _ _ h => h)); simp [fillA, Act.put, hP] at h2; exact h2)
          · (intro ys w' hB hP; simp only [Preds, Region.binds, kxF, forall_const, and_true, true_and] at hP; simp [hP])
          · (intro ys w' hB hP; simp only [Preds, Region.binds, kxF, forall_const, and_true, true_and] at hP)
            intro K hK
            simp only [fillA]
            go_simp
            have h2 := hK (.slice (some ⟨w'.heap.size, 0, none⟩) 1 1) (w'.alloc (.cells #[.int .i64 N] 3)) (hB.alloc _) ⟨w'.heap.size, rfl, heap_alloc_new _ _⟩ (fun j u _ h => h.gr ((Gr.refl w').alloc _))
            simp [fillA, Act.put, hP] at h2
            exact h2
          · (intro ys w' hB hP; simp only [Preds, Region.binds, kxF, forall_const, and_true, true_and] at hP; simp [hP])
          · (intro ys w' hB hP; simp only [Preds, Region.binds, kxF, forall_const, and_true, true_and] at hP)
            obtain ⟨g, hy, hrow⟩ : ∃ g, ys 8 = .slice (some ⟨g, 0, none⟩) 1 1 ∧ w'.heap[g]? = some (.cells #[.int .i64 N] 3 (0, 0)) := (by first | exact hP | exact hP.1 | exact hP.2 | exact hP.2.1 | exact hP.2.2 | exact hP.2.2.1 | exact hP.2.2.2 | exact hP.2.2.2.1 | exact hP.2.2.2.2 | exact hP.1.1 | exact hP.1.2)
            have h6 : ys 6 = .bool ei := (by first | exact hP | exact hP.1 | exact hP.2 | exact hP.2.1 | exact hP.2.2 | exact hP.2.2.1 | exact hP.2.2.2 | exact hP.2.2.2.1 | exact hP.2.2.2.2 | exact hP.1.1 | exact hP.1.2)
            have h3 : ys 3 = .bool false := (by first | exact hP | exact hP.1 | exact hP.2 | exact hP.2.1 | exact hP.2.2 | exact hP.2.2.1 | exact hP.2.2.2 | exact hP.2.2.2.1 | exact hP.2.2.2.2 | exact hP.1.1 | exact hP.1.2)
            clear hP
            intro K hK
            simp only [fillA]
            go_simp
            (with_reducible refine (HCS.out _ g hrow).mono ?_)
            rintro e w10 ⟨v2, rfl, hrow2, hg10⟩
            obtain ⟨va2, vc2, rfl⟩ := hrow2.form
            have h2 := hK _ w10 (hB.trans hg10) ⟨va2, _, vc2, rfl, hrow2⟩ (fun j u _ h => h.gr hg10)
            simp [fillA, Act.put, hy, h6, h3] at h2
            exact h2
          · (intro ys w' hB hP; simp only [Preds, Region.binds, kxF, forall_const, and_true, true_and] at hP; simp [hP])
          · (intro ys w' hB hP; simp only [Preds, Region.binds, kxF, forall_const, and_true, true_and] at hP)
            obtain ⟨va2, n2', vc2, hy, hrow2⟩ : ∃ va m vc, ys 9 = .slice va m vc ∧ HasRow w' 5 (.slice va m vc) m (bcells A) := (by first | exact hP | exact hP.1 | exact hP.2 | exact hP.2.1 | exact hP.2.2 | exact hP.2.2.1 | exact hP.2.2.2 | exact hP.2.2.2.1 | exact hP.2.2.2.2 | exact hP.1.1 | exact hP.1.2)
            have h3 : ys 3 = .bool false := (by first | exact hP | exact hP.1 | exact hP.2 | exact hP.2.1 | exact hP.2.2 | exact hP.2.2.1 | exact hP.2.2.2 | exact hP.2.2.2.1 | exact hP.2.2.2.2 | exact hP.1.1 | exact hP.1.2)
            clear hP
            have hcv2 := conv_row hrow2
            rw [← HX.out] at hcv2
            intro K hK
            simp only [fillA]
            go_simp
            have h2 := hK _ w' hB rfl (fun j u _ h => h)
            simp [fillA, Act.put, hy, h3] at h2
            exact h2
          · (intro ys w' hB hP; simp only [Preds, Region.binds, kxF, forall_const, and_true, true_and] at hP; simp [hP])
          · (intro ys w' hB hP K hK; simp only [Preds, Region.binds, kxF, forall_const, and_true, true_and] at hP; simp only [fillA]; go_simp; (have h2 := fun v => hK v w' hB); simp only [kxF, forall_eq] at h2; (have h2 := h2 (fun _ _ _ h => h)); simp [fillA, Act.put, hP] at h2; exact h2)
          · (intro ys w' hB hP K hK; simp only [Preds, Region.binds, kxF, forall_const, and_true, true_and] at hP; simp only [fillA]; go_simp; (have h2 := fun v => hK v w' hB); simp only [kxF, forall_eq] at h2; (have h2 := h2 (fun _ _ _ h => h)); simp [fillA, Act.put, hP] at h2; exact h2)
        · intro ys3 w11 hB3 hF
          have f12 : ys3 12 = .bool false := hF 12 (by decide)
          clear hF
          have hcv := HCV.out w11 hB3
          have hb8 := (HZ.out.trans hB3).blk HS.out.row
          have hc8 := cell_of_row hb8 0 _ rfl
          have hf8 : w11.frozen? ⟨g8, 0, none⟩ = false := by simp [World.frozen?, hb8]
          simp only [fillA, f12, Act.put, Nat.zero_add, List.setIfInBounds_toArray, List.set_cons_zero, List.set_cons_succ]
          clear f12
          go_wp2_with fail
          go_roundw
          case rel => exact .inr (.inl ⟨rfl, HOK.out, HS.out.set0 (HZ.out.trans hB3) X0⟩)
          case measure => simp [intOf]
    · skip
      have e0 : wr.cell? ⟨gs, 4, none⟩ = some (.int .i64 kb) := cell_of_row hsl 4 _ rfl
      have e1 : wr.cell? ⟨gs, 5, none⟩ = some (.int .u8 cb) := cell_of_row hsl 5 _ rfl
      have e2 : wr.cell? ⟨gs, 6, none⟩ = some (.bool sb) := cell_of_row hsl 6 _ rfl
      have e3 : wr.cell? ⟨gs, 7, none⟩ = some (.bool tb) := cell_of_row hsl 7 _ rfl
      have hnum := rnum_any cb
      have hgr := hS.gr
      obtain ⟨N, hN⟩ : ∃ N, N = numK cb := ⟨_, rfl⟩
      rw [← hN] at hnum
      have hcs : (kb < 9) ∨ (9 ≤ kb ∧ 14 < kb ∧ kb ≠ 16) ∨ (kb = 16 ∧ N ≤ 0) ∨ (9 ≤ kb ∧ kb ≤ 14) ∨ (kb = 16 ∧ 0 < N) := by omega
      rcases hcs with q | ⟨q, qa, qb⟩ | ⟨q, qa⟩ | ⟨q, qa⟩ | ⟨q, qa⟩
      · clear hS hN
        have qn : kb ≠ 16 := by omega
        have qz : (kb == 16) = false := by simp; omega
        go_wp2_with (go_at_call 5; (with_reducible refine (hnum _).mono ?_); rintro e w1 ⟨rfl, hg1⟩; obtain ⟨y0, y1, y2, y3, fz1, fz2, y5, y6⟩ := ev_cells hg1)
        go_ret
        exact ⟨rfl, (hgr.alloc _).trans hg1⟩
      · clear hS hN
        have qz : (kb == 16) = false := by simpa using qb
        have qy : decide (kb ≤ 14) = false := by simp; omega
        go_wp2_with (go_at_call 5; (with_reducible refine (hnum _).mono ?_); rintro e w1 ⟨rfl, hg1⟩; obtain ⟨y0, y1, y2, y3, fz1, fz2, y5, y6⟩ := ev_cells hg1)
        go_ret
        exact ⟨rfl, (hgr.alloc _).trans hg1⟩
      · clear hS hN
        subst q
        have qy : decide (0 < N) = false := by simp; omega
        go_wp2_with (go_at_call 5; (with_reducible refine (hnum _).mono ?_); rintro e w1 ⟨rfl, hg1⟩; obtain ⟨y0, y1, y2, y3, fz1, fz2, y5, y6⟩ := ev_cells hg1)
        go_ret
        exact ⟨rfl, (hgr.alloc _).trans hg1⟩
      · have hok : okA kb cb := .inl ⟨q, qa⟩
        have hr := nK_in hok
        have hnn : nK kb cb = kb - 8 := by unfold nK; rw [if_neg (by omega)]
        have hKK := apK (t := tb) (ei := ei) hS hKB hne78 HT.out hok hcb HX1.out
        have qn : (kb == 16) = false := by simp; omega
        have qy : decide (kb ≤ 14) = true := by simp; omega
        have qz : kb ≠ 16 := by omega
        have hcc : (if kb = 16 then cb else 0) = 0 := if_neg qz
        obtain ⟨hE, hsp, hcsi, htx⟩ := hKK
        rw [hcc] at hE
        rw [hnn] at hr
        obtain ⟨A, hA⟩ : ∃ A, A = apL (nK kb cb) ei := ⟨_, rfl⟩
        rw [← hA] at hE hsp hcsi htx
        rw [hnn] at hcsi
        obtain ⟨gn, hgn⟩ : ∃ n, n = A.length := ⟨_, rfl⟩
        rw [← hgn] at hE hsp
        have HX := Lib.hid htx
        have HS := Lib.hid hS
        have HOK := Lib.hid hok
        clear hA hgn htx hcc hnn hS hok hN
        have hgA : Gr wr (wr.alloc (.cells #[.int .i64 kb, .int .u8 0, .bool false, .bool tb] 23)) := (Gr.refl wr).alloc _
        go_upto_region 19 with (first
          | (go_at_call 5; (with_reducible refine (hnum _).mono ?_); rintro e w1 ⟨rfl, hg1⟩; obtain ⟨y0, y1, y2, y3, fz1, fz2, y5, y6⟩ := ev_cells hg1)
          | (go_at_call 7; (with_reducible refine (own22 _ _ _ _ _).mono ?_); rintro e w4 ⟨rfl, hg4⟩)
          | (go_at_call 6; (with_reducible refine (hE _ (by (repeat (first | with_reducible exact Gr.refl _ | with_reducible assumption | with_reducible refine Gr.setCell ?_ (by simp; try omega) _ | with_reducible refine Gr.alloc ?_ _ | with_reducible refine Gr.drew ?_ | with_reducible refine Gr.drewN ?_ _ | with_reducible refine Gr.trans ?_ (by assumption))))).mono ?_); rintro e w5 ⟨ga, gc, rfl, hrow, hg5⟩)
          | (go_at_call 8; (with_reducible refine (hsp _ _ _ _ rfl hrow).mono ?_); rintro e w6 ⟨la, lc, rfl, hg6⟩; have z0 := y5 _ _ _ (hg4.trans (hg5.trans hg6)); clear y5 y6))
        have hgB : Gr wr w6 := by (repeat (first | with_reducible exact Gr.refl _ | with_reducible assumption | with_reducible refine Gr.setCell ?_ (by simp; try omega) _ | with_reducible refine Gr.alloc ?_ _ | with_reducible refine Gr.drew ?_ | with_reducible refine Gr.drewN ?_ _ | with_reducible refine Gr.trans ?_ (by assumption)))
        have hcv0 := conv_row (hrow.gr hg6)
        rw [← HX.out] at hcv0
        have HCV := Lib.hid (fun (W : World) (hg : Gr w6 W) => (by have := conv_row (hrow.gr (hg6.trans hg)); rw [← HX.out] at this; exact this : (convert 31 9 (.slice ga gn gc)).run Tryz.prog W = .ok (.string X1) W))
        have HCS := Lib.hid hcsi
        have HZ := Lib.hid hgB
        clear hcv0 hrow hcsi hE hsp hnum z0 y0 y1 y2 y3 fz1 fz2 e0 e1 e2 e3 hsl hgA hg1 hg4 hg5 hg6 hgB
        refine wp_region_facts6 (kxF la lc ga gn gc X1 ei (kb - 8) A) (Gr w6) (by kernel_rfl) (by kernel_rfl) (by kernel_rfl) (Gr.refl w6).drew ?_ ?_
        · intro hap
          refine Steps.cons1 1 rfl rfl ?_ (Steps.cons1 2 rfl rfl ?_ (Steps.cons1 3 rfl rfl ?_ (Steps.cons1 4 rfl rfl ?_ (Steps.consY 5 rfl 3 false rfl hap (by kernel_rfl) ?_ ?_ (Steps.consY 6 rfl 3 false rfl hap (by kernel_rfl) ?_ ?_ (Steps.consY 7 rfl 3 false rfl hap (by kernel_rfl) ?_ ?_ (Steps.consY 8 rfl 3 false rfl hap (by kernel_rfl) ?_ ?_ (Steps.consY 9 rfl 3 false rfl hap (by kernel_rfl) ?_ ?_ (Steps.consY 10 rfl 3 false rfl hap (by kernel_rfl) ?_ ?_ (Steps.consY 11 rfl 3 false rfl hap (by kernel_rfl) ?_ ?_ (Steps.consY 12 rfl 3 false rfl hap (by kernel_rfl) ?_ ?_ (Steps.cons1 13 rfl rfl ?_ (Steps.nil)))))))))))))
          · (intro ys w' hB hP K hK; simp only [Preds, Region.binds, kxF, forall_const, and_true, true_and] at hP; simp only [fillA]; go_simp; (have h2 := fun v => hK v w' hB); simp only [kxF, forall_eq] at h2; (have h2 := h2 (fun _ _ _ h => h)); simp [fillA, Act.put, hP] at h2; exact h2)
          · (intro ys w' hB hP K hK; simp only [Preds, Region.binds, kxF, forall_const, and_true, true_and] at hP; simp only [fillA]; go_simp; (have h2 := fun v => hK v w' hB); simp only [kxF, forall_eq] at h2; (have h2 := h2 (fun _ _ _ h => h)); simp [fillA, Act.put, hP] at h2; exact h2)
          · (intro ys w' hB hP K hK; simp only [Preds, Region.binds, kxF, forall_const, and_true, true_and] at hP; simp only [fillA]; go_simp; (have h2 := fun v => hK v w' hB); simp only [kxF, forall_eq] at h2; (have h2 := h2 (fun _ _ _ h => h)); simp [fillA, Act.put, hP] at h2; exact h2)
          · (intro ys w' hB hP K hK; simp only [Preds, Region.binds, kxF, forall_const, and_true, true_and] at hP; simp only [fillA]; go_simp; (have h2 := fun v => hK v w' hB); simp only [kxF, forall_eq] at h2; (have h2 := h2 (fun _ _ _ h => h)); simp [fillA, Act.put, hP] at h2; exact h2)
          · (intro ys w' hB hP; simp only [Preds, Region.binds, kxF, forall_const, and_true, true_and] at hP; simp [hP])
          · (intro ys w' hB hP K hK; simp only [Preds, Region.binds, kxF, forall_const, and_true, true_and] at hP; simp only [fillA]; go_simp; (have h2 := fun v => hK v w' hB); simp only [kxF, forall_eq] at h2; (have h2 := h2 (fun _ _ _ h => h)); simp [fillA, Act.put, hP] at h2; exact h2)
          · (intro ys w' hB hP; simp only [Preds, Region.binds, kxF, forall_const, and_true, true_and] at hP; simp [hP])
          · (intro ys w' hB hP; simp only [Preds, Region.binds, kxF, forall_const, and_true, true_and] at hP)
            have hcv := HCV.out w' hB
            intro K hK
            simp only [fillA]
            go_simp
            have h2 := hK _ w' hB rfl (fun j u _ h => h)
            simp [fillA, Act.put, hP] at h2
            exact h2
          · (intro ys w' hB hP; simp only [Preds, Region.binds, kxF, forall_const, and_true, true_and] at hP; simp [hP])
          · (intro ys w' hB hP K hK; simp only [Preds, Region.binds, kxF, forall_const, and_true, true_and] at hP; simp only [fillA]; go_simp; (have h2 := fun v => hK v w' hB); simp only [kxF, forall_eq] at h2; (have h2 := h2 (fun _ _ _ h => h)); simp [fillA, Act.put, hP] at h2; exact h2)
          · (intro ys w' hB hP; simp only [Preds, Region.binds, kxF, forall_const, and_true, true_and] at hP; simp [hP])
          · (intro ys w' hB hP K hK; simp only [Preds, Region.binds, kxF, forall_const, and_true, true_and] at hP; simp only [fillA]; go_simp; (have h2 := fun v => hK v w' hB); simp only [kxF, forall_eq] at h2; (have h2 := h2 (fun _ _ _ h => h)); simp [fillA, Act.put, hP] at h2; exact h2)
          · (intro ys w' hB hP; simp only [Preds, Region.binds, kxF, forall_const, and_true, true_and] at hP; simp [hP])
          · (intro ys w' hB hP; simp only [Preds, Region.binds, kxF, forall_const, and_true, true_and] at hP)
            intro K hK
            simp only [fillA]
            go_simp
            have h2 := hK (.slice (some ⟨w'.heap.size, 0, none⟩) 1 1) (w'.alloc (.cells #[.int .i64 (kb - 8)] 3)) (hB.alloc _) ⟨w'.heap.size, rfl, heap_alloc_new _ _⟩ (fun j u _ h => h.gr ((Gr.refl w').alloc _))
            simp [fillA, Act.put, hP] at h2
            exact h2
          · (intro ys w' hB hP; simp only [Preds, Region.binds, kxF, forall_const, and_true, true_and] at hP; simp [hP])
          · (intro ys w' hB hP; simp only [Preds, Region.binds, kxF, forall_const, and_true, true_and] at hP)
            obtain ⟨g, hy, hrow⟩ : ∃ g, ys 8 = .slice (some ⟨g, 0, none⟩) 1 1 ∧ w'.heap[g]? = some (.cells #[.int .i64 (kb - 8)] 3 (0, 0)) := (by first | exact hP | exact hP.1 | exact hP.2 | exact hP.2.1 | exact hP.2.2 | exact hP.2.2.1 | exact hP.2.2.2 | exact hP.2.2.2.1 | exact hP.2.2.2.2 | exact hP.1.1 | exact hP.1.2)
            have h6 : ys 6 = .bool ei := (by first | exact hP | exact hP.1 | exact hP.2 | exact hP.2.1 | exact hP.2.2 | exact hP.2.2.1 | exact hP.2.2.2 | exact hP.2.2.2.1 | exact hP.2.2.2.2 | exact hP.1.1 | exact hP.1.2)
            have h3 : ys 3 = .bool false := (by first | exact hP | exact hP.1 | exact hP.2 | exact hP.2.1 | exact hP.2.2 | exact hP.2.2.1 | exact hP.2.2.2 | exact hP.2.2.2.1 | exact hP.2.2.2.2 | exact hP.1.1 | exact hP.1.2)
            clear hP
            intro K hK
            simp only [fillA]
            go_simp
            (with_reducible refine (HCS.out _ g hrow).mono ?_)
            rintro e w10 ⟨v2, rfl, hrow2, hg10⟩
            obtain ⟨va2, vc2, rfl⟩ := hrow2.form
            have h2 := hK _ w10 (hB.trans hg10) ⟨va2, _, vc2, rfl, hrow2⟩ (fun j u _ h => h.gr hg10)
            simp [fillA, Act.put, hy, h6, h3] at h2
            exact h2
          · (intro ys w' hB hP; simp only [Preds, Region.binds, kxF, forall_const, and_true, true_and] at hP; simp [hP])
          · (intro ys w' hB hP; simp only [Preds, Region.binds, kxF, forall_const, and_true, true_and] at hP)
            obtain ⟨va2, n2', vc2, hy, hrow2⟩ : ∃ va m vc, ys 9 = .slice va m vc ∧ HasRow w' 5 (.slice va m vc) m (bcells A) := (by first | exact hP | exact hP.1 | exact hP.2 | exact hP.2.1 | exact hP.2.2 | exact hP.2.2.1 | exact hP.2.2.2 | exact hP.2.2.2.1 | exact hP.2.2.2.2 | exact hP.1.1 | exact hP.1.2)
            have h3 : ys 3 = .bool false := (by first | exact hP | exact hP.1 | exact hP.2 | exact hP.2.1 | exact hP.2.2 | exact hP.2.2.1 | exact hP.2.2.2 | exact hP.2.2.2.1 | exact hP.2.2.2.2 | exact hP.1.1 | exact hP.1.2)
            clear hP
            have hcv2 := conv_row hrow2
            rw [← HX.out] at hcv2
            intro K hK
            simp only [fillA]
            go_simp
            have h2 := hK _ w' hB rfl (fun j u _ h => h)
            simp [fillA, Act.put, hy, h3] at h2
            exact h2
          · (intro ys w' hB hP; simp only [Preds, Region.binds, kxF, forall_const, and_true, true_and] at hP; simp [hP])
          · (intro ys w' hB hP K hK; simp only [Preds, Region.binds, kxF, forall_const, and_true, true_and] at hP; simp only [fillA]; go_simp; (have h2 := fun v => hK v w' hB); simp only [kxF, forall_eq] at h2; (have h2 := h2 (fun _ _ _ h => h)); simp [fillA, Act.put, hP] at h2; exact h2)
          · (intro ys w' hB hP K hK; simp only [Preds, Region.binds, kxF, forall_const, and_true, true_and] at hP; simp only [fillA]; go_simp; (have h2 := fun v => hK v w' hB); simp only [kxF, forall_eq] at h2; (have h2 := h2 (fun _ _ _ h => h)); simp [fillA, Act.put, hP] at h2; exact h2)
        · intro ys3 w11 hB3 hF
          have f12 : ys3 12 = .bool false := hF 12 (by decide)
          clear hF
          have hcv := HCV.out w11 hB3
          have hb8 := (HZ.out.trans hB3).blk HS.out.row
          have hc8 := cell_of_row hb8 1 _ rfl
          have hf8 : w11.frozen? ⟨g8, 1, none⟩ = false := by simp [World.frozen?, hb8]
          simp only [fillA, f12, Act.put, Nat.zero_add, List.setIfInBounds_toArray, List.set_cons_zero, List.set_cons_succ]
          clear f12
          go_wp2_with fail
          go_roundw
          case rel => exact .inr (.inr ⟨rfl, hok0, HOK.out, HS.out.set1 (HZ.out.trans hB3) X1⟩)
          case measure => simp [intOf]
      · have hok : okA kb cb := .inr ⟨q, by rw [← hN]; exact qa⟩
        have hr := nK_in hok
        have hnn : nK kb cb = N := by unfold nK; rw [if_pos q, hN]
        have hKK := apK (t := tb) (ei := ei) hS hKB hne78 HT.out hok hcb HX1.out
        have hcc : (if kb = 16 then cb else 0) = cb := if_pos q
        obtain ⟨hE, hsp, hcsi, htx⟩ := hKK
        rw [hcc] at hE
        rw [hnn] at hr
        obtain ⟨A, hA⟩ : ∃ A, A = apL (nK kb cb) ei := ⟨_, rfl⟩
        rw [← hA] at hE hsp hcsi htx
        rw [hnn] at hcsi
        obtain ⟨gn, hgn⟩ : ∃ n, n = A.length := ⟨_, rfl⟩
        rw [← hgn] at hE hsp
        have HX := Lib.hid htx
        have HS := Lib.hid hS
        have HOK := Lib.hid hok
        clear hA hgn htx hcc hnn hS hok hN
        have qy : decide (0 < N) = true := by simp; omega
        subst q
        have hgA : Gr wr (wr.alloc (.cells #[.int .i64 16, .int .u8 cb, .bool false, .bool tb] 23)) := (Gr.refl wr).alloc _
        go_upto_region 19 with (first
          | (go_at_call 5; (with_reducible refine (hnum _).mono ?_); rintro e w1 ⟨rfl, hg1⟩; obtain ⟨y0, y1, y2, y3, fz1, fz2, y5, y6⟩ := ev_cells hg1)
          | (go_at_call 7; (with_reducible refine (own22 _ _ _ _ _).mono ?_); rintro e w4 ⟨rfl, hg4⟩)
          | (go_at_call 6; (with_reducible refine (hE _ (by (repeat (first | with_reducible exact Gr.refl _ | with_reducible assumption | with_reducible refine Gr.setCell ?_ (by simp; try omega) _ | with_reducible refine Gr.alloc ?_ _ | with_reducible refine Gr.drew ?_ | with_reducible refine Gr.drewN ?_ _ | with_reducible refine Gr.trans ?_ (by assumption))))).mono ?_); rintro e w5 ⟨ga, gc, rfl, hrow, hg5⟩)
          | (go_at_call 8; (with_reducible refine (hsp _ _ _ _ rfl hrow).mono ?_); rintro e w6 ⟨la, lc, rfl, hg6⟩; have z0 := y6 _ _ (hg4.trans (hg5.trans hg6)); clear y5 y6))
        have hgB : Gr wr w6 := by (repeat (first | with_reducible exact Gr.refl _ | with_reducible assumption | with_reducible refine Gr.setCell ?_ (by simp; try omega) _ | with_reducible refine Gr.alloc ?_ _ | with_reducible refine Gr.drew ?_ | with_reducible refine Gr.drewN ?_ _ | with_reducible refine Gr.trans ?_ (by assumption)))
        have hcv0 := conv_row (hrow.gr hg6)
        rw [← HX.out] at hcv0
        have HCV := Lib.hid (fun (W : World) (hg : Gr w6 W) => (by have := conv_row (hrow.gr (hg6.trans hg)); rw [← HX.out] at this; exact this : (convert 31 9 (.slice ga gn gc)).run Tryz.prog W = .ok (.string X1) W))
        have HCS := Lib.hid hcsi
        have HZ := Lib.hid hgB
        clear hcv0 hrow hcsi hE hsp hnum z0 y0 y1 y2 y3 fz1 fz2 e0 e1 e2 e3 hsl hgA hg1 hg4 hg5 hg6 hgB
        refine wp_region_facts6 (kxF la lc ga gn gc X1 ei N A) (Gr w6) (by kernel_rfl) (by kernel_rfl) (by kernel_rfl) (Gr.refl w6).drew ?_ ?_
        · intro hap
          refine Steps.cons1 1 rfl rfl ?_ (Steps.cons1 2 rfl rfl ?_ (Steps.cons1 3 rfl rfl ?_ (Steps.cons1 4 rfl rfl ?_ (Steps.consY 5 rfl 3 false rfl hap (by kernel_rfl) ?_ ?_ (Steps.consY 6 rfl 3 false rfl hap (by kernel_rfl) ?_ ?_ (Steps.consY 7 rfl 3 false rfl hap (by kernel_rfl) ?_ ?_ (Steps.consY 8 rfl 3 false rfl hap (by kernel_rfl) ?_ ?_ (Steps.consY 9 rfl 3 false rfl hap (by kernel_rfl) ?_ ?_ (Steps.consY 10 rfl 3 false rfl hap (by kernel_rfl) ?_ ?_ (Steps.consY 11 rfl 3 false rfl hap (by kernel_rfl) ?_ ?_ (Steps.consY 12 rfl 3 false rfl hap (by kernel_rfl) ?_ ?_ (Steps.cons1 13 rfl rfl ?_ (Steps.nil)))))))))))))
          · (intro ys w' hB hP K hK; simp only [Preds, Region.binds, kxF, forall_const, and_true, true_and] at hP; simp only [fillA]; go_simp; (have h2 := fun v => hK v w' hB); simp only [kxF, forall_eq] at h2; (have h2 := h2 (fun _ _ _ h => h)); simp [fillA, Act.put, hP] at h2; exact h2)
          · (intro ys w' hB hP K hK; simp only [Preds, Region.binds, kxF, forall_const, and_true, true_and] at hP; simp only [fillA]; go_simp; (have h2 := fun v => hK v w' hB); simp only [kxF, forall_eq] at h2; (have h2 := h2 (fun _ _ _ h => h)); simp [fillA, Act.put, hP] at h2; exact h2)
          · (intro ys w' hB hP K hK; simp only [Preds, Region.binds, kxF, forall_const, and_true, true_and] at hP; simp only [fillA]; go_simp; (have h2 := fun v => hK v w' hB); simp only [kxF, forall_eq] at h2; (have h2 := h2 (fun _ _ _ h => h)); simp [fillA, Act.put, hP] at h2; exact h2)
          · (intro ys w' hB hP K hK; simp only [Preds, Region.binds, kxF, forall_const, and_true, true_and] at hP; simp only [fillA]; go_simp; (have h2 := fun v => hK v w' hB); simp only [kxF, forall_eq] at h2; (have h2 := h2 (fun _ _ _ h => h)); simp [fillA, Act.put, hP] at h2; exact h2)
          · (intro ys w' hB hP; simp only [Preds, Region.binds, kxF, forall_const, and_true, true_and] at hP; simp [hP])
          · (intro ys w' hB hP K hK; simp only [Preds, Region.binds, kxF, forall_const, and_true, true_and] at hP; simp only [fillA]; go_simp; (have h2 := fun v => hK v w' hB); simp only [kxF, forall_eq] at h2; (have h2 := h2 (fun _ _ _ h => h)); simp [fillA, Act.put, hP] at h2; exact h2)
          · (intro ys w' hB hP; simp only [Preds, Region.binds, kxF, forall_const, and_true, true_and] at hP; simp [hP])
          · (intro ys w' hB hP; simp only [Preds, Region.binds, kxF, forall_const, and_true, true_and] at hP)
            have hcv := HCV.out w' hB
            intro K hK
            simp only [fillA]
            go_simp
            have h2 := hK _ w' hB rfl (fun j u _ h => h)
            simp [fillA, Act.put, hP] at h2
            exact h2
          · (intro ys w' hB hP; simp only [Preds, Region.binds, kxF, forall_const, and_true, true_and] at hP; simp [hP])
          · (intro ys w' hB hP K hK; simp only [Preds, Region.binds, kxF, forall_const, and_true, true_and] at hP; simp only [fillA]; go_simp; (have h2 := fun v => hK v w' hB); simp only [kxF, forall_eq] at h2; (have h2 := h2 (fun _ _ _ h => h)); simp [fillA, Act.put, hP] at h2; exact h2)
          · (intro ys w' hB hP; simp only [Preds, Region.binds, kxF, forall_const, and_true, true_and] at hP; simp [hP])
          · (intro ys w' hB hP K hK; simp only [Preds, Region.binds, kxF, forall_const, and_true, true_and] at hP; simp only [fillA]; go_simp; (have h2 := fun v => hK v w' hB); simp only [kxF, forall_eq] at h2; (have h2 := h2 (fun _ _ _ h => h)); simp [fillA, Act.put, hP] at h2; exact h2)
          · (intro ys w' hB hP; simp only [Preds, Region.binds, kxF, forall_const, and_true, true_and] at hP; simp [hP])
          · (intro ys w' hB hP; simp only [Preds, Region.binds, kxF, forall_const, and_true, true_and] at hP)
            intro K hK
            simp only [fillA]
            go_simp
            have h2 := hK (.slice (some ⟨w'.heap.size, 0, none⟩) 1 1) (w'.alloc (.cells #[.int .i64 N] 3)) (hB.alloc _) ⟨w'.heap.size, rfl, heap_alloc_new _ _⟩ (fun j u _ h => h.gr ((Gr.refl w').alloc _))
            simp [fillA, Act.put, hP] at h2
            exact h2
          · (intro ys w' hB hP; simp only [Preds, Region.binds, kxF, forall_const, and_true, true_and] at hP; simp [hP])
          · (intro ys w' hB hP; simp only [Preds, Region.binds, kxF, forall_const, and_true, true_and] at hP)
            obtain ⟨g, hy, hrow⟩ : ∃ g, ys 8 = .slice (some ⟨g, 0, none⟩) 1 1 ∧ w'.heap[g]? = some (.cells #[.int .i64 N] 3 (0, 0)) := (by first | exact hP | exact hP.1 | exact hP.2 | exact hP.2.1 | exact hP.2.2 | exact hP.2.2.1 | exact hP.2.2.2 | exact hP.2.2.2.1 | exact hP.2.2.2.2 | exact hP.1.1 | exact hP.1.2)
            have h6 : ys 6 = .bool ei := (by first | exact hP | exact hP.1 | exact hP.2 | exact hP.2.1 | exact hP.2.2 | exact hP.2.2.1 | exact hP.2.2.2 | exact hP.2.2.2.1 | exact hP.2.2.2.2 | exact hP.1.1 | exact hP.1.2)
            have h3 : ys 3 = .bool false := (by first | exact hP | exact hP.1 | exact hP.2 | exact hP.2.1 | exact hP.2.2 | exact hP.2.2.1 | exact hP.2.2.2 | exact hP.2.2.2.1 | exact hP.2.2.2.2 | exact hP.1.1 | exact hP.1.2)
            clear hP
            intro K hK
            simp only [fillA]
            go_simp
            (with_reducible refine (HCS.out _ g hrow).mono ?_)
            rintro e w10 ⟨v2, rfl, hrow2, hg10⟩
            obtain ⟨va2, vc2, rfl⟩ := hrow2.form
            have h2 := hK _ w10 (hB.trans hg10) ⟨va2, _, vc2, rfl, hrow2⟩ (fun j u _ h => h.gr hg10)
            simp [fillA, Act.put, hy, h6, h3] at h2
            exact h2
          · (intro ys w' hB hP; simp only [Preds, Region.binds, kxF, forall_const, and_true, true_and] at hP; simp [hP])
          · (intro ys w' hB hP; simp only [Preds, Region.binds, kxF, forall_const, and_true, true_and] at hP)
            obtain ⟨va2, n2', vc2, hy, hrow2⟩ : ∃ va m vc, ys 9 = .slice va m vc ∧ HasRow w' 5 (.slice va m vc) m (bcells A) := (by first | exact hP | exact hP.1 | exact hP.2 | exact hP.2.1 | exact hP.2.2 | exact hP.2.2.1 | exact hP.2.2.2 | exact hP.2.2.2.1 | exact hP.2.2.2.2 | exact hP.1.1 | exact hP.1.2)
            have h3 : ys 3 = .bool false := (by first | exact hP | exact hP.1 | exact hP.2 | exact hP.2.1 | exact hP.2.2 | exact hP.2.2.1 | exact hP.2.2.2 | exact hP.2.2.2.1 | exact hP.2.2.2.2 | exact hP.1.1 | exact hP.1.2)
            clear hP
            have hcv2 := conv_row hrow2
            rw [← HX.out] at hcv2
            intro K hK
            simp only [fillA]
            go_simp
            have h2 := hK _ w' hB rfl (fun j u _ h => h)
            simp [fillA, Act.put, hy, h3] at h2
            exact h2
          · (intro ys w' hB hP; simp only [Preds, Region.binds, kxF, forall_const, and_true, true_and] at hP; simp [hP])
          · (intro ys w' hB hP K hK; simp only [Preds, Region.binds, kxF, forall_const, and_true, true_and] at hP; simp only [fillA]; go_simp; (have h2 := fun v => hK v w' hB); simp only [kxF, forall_eq] at h2; (have h2 := h2 (fun _ _ _ h => h)); simp [fillA, Act.put, hP] at h2; exact h2)
          · (intro ys w' hB hP K hK; simp only [Preds, Region.binds, kxF, forall_const, and_true, true_and] at hP; simp only [fillA]; go_simp; (have h2 := fun v => hK v w' hB); simp only [kxF, forall_eq] at h2; (have h2 := h2 (fun _ _ _ h => h)); simp [fillA, Act.put, hP] at h2; exact h2)
        · intro ys3 w11 hB3 hF
          have f12 : ys3 12 = .bool false := hF 12 (by decide)
          clear hF
          have hcv := HCV.out w11 hB3
          have hb8 := (HZ.out.trans hB3).blk HS.out.row
          have hc8 := cell_of_row hb8 1 _ rfl
          have hf8 : w11.frozen? ⟨g8, 1, none⟩ = false := by simp [World.frozen?, hb8]
          simp only [fillA, f12, Act.put, Nat.zero_add, List.setIfInBounds_toArray, List.set_cons_zero, List.set_cons_succ]
          clear f12
          go_wp2_with fail
          go_roundw
          case rel => exact .inr (.inr ⟨rfl, hok0, HOK.out, HS.out.set1 (HZ.out.trans hB3) X1⟩)
          case measure => simp [intOf]
    · have h3 : wr.heap[g3]? = some (.cells #[.int .i64 ka, .int .u8 ca, .bool sa, .bool ta] 23 (0, 0)) := hS.upd.blk H3B.out (by simpa using hne3)
      have h4 : wr.heap[g3 + 1]? = some (.cells #[.int .i64 kb, .int .u8 cb, .bool sb, .bool tb] 23 (0, 0)) := hS.upd.blk H4B.out (by simpa using hne4)
      have a0 : wr.cell? ⟨g3, 0, none⟩ = some (.int .i64 ka) := cell_of_row h3 0 _ rfl
      have a1 : wr.cell? ⟨g3, 1, none⟩ = some (.int .u8 ca) := cell_of_row h3 1 _ rfl
      have b0 : wr.cell? ⟨g3 + 1, 0, none⟩ = some (.int .i64 kb) := cell_of_row h4 0 _ rfl
      have b1 : wr.cell? ⟨g3 + 1, 1, none⟩ = some (.int .u8 cb) := cell_of_row h4 1 _ rfl
      have x0 : wr.cell? ⟨g8, 0, none⟩ = some (.string X0) := cell_of_row hS.row 0 _ rfl
      have x1 : wr.cell? ⟨g8, 1, none⟩ = some (.string X1) := cell_of_row hS.row 1 _ rfl
      have hgz := hS.gr
      have r0 := nK_in hok0
      have r1 := nK_in hok1
      have hX : nK ka ca = nK kb cb → X0 = X1 := fun h => by rw [HX0.out, HX1.out, h]
      have hXn : nK ka ca ≠ nK kb cb → ((¬ X0.toList = X1.toList) ∧ (X0.toList == X1.toList) = false) := fun h => by
        rw [HX0.out, HX1.out]
        exact str_ne (ap_in r0.1 r0.2 ei) (ap_in r1.1 r1.2 ei) (fun e => h (ap_inj r0.1 r0.2 r1.1 r1.2 e))
      have hs := nK_same hok0 hok1
      clear hS hsl h3 h4 hok0 hok1 r0 r1 HX0 HX1 HSL H3B H4B HSZ hKB
      by_cases hk : ka = kb
      · subst hk
        by_cases h16 : ka = 16
        · by_cases hcc : ca = cb
          · obtain rfl : X0 = X1 := hX (hs.2 ⟨rfl, .inr hcc⟩)
            subst hcc; subst h16
            clear hX hXn hs
            go_wp2_with fail
            go_ret
            exact ⟨rfl, hgz⟩
          · obtain ⟨n1, n2⟩ := hXn (fun e => by have := hs.1 e; omega)
            have qc : (ca == cb) = false := by simpa using hcc
            subst h16
            clear hX hXn hs hcc
            go_wp2_with fail
            go_ret
            exact ⟨rfl, hgz⟩
        · obtain rfl : X0 = X1 := hX (hs.2 ⟨rfl, .inl h16⟩)
          have q16 : (ka == 16) = false := by simpa using h16
          clear hX hXn hs
          go_wp2_with fail
          go_ret
          exact ⟨rfl, hgz⟩
      · obtain ⟨n1, n2⟩ := hXn (fun e => hk (hs.1 e).1)
        have qk : (ka == kb) = false := by simpa using hk
        clear hX hXn hs hk
        go_wp2_with fail
        go_ret
        exact ⟨rfl, hgz⟩
end Go.Proofs.YtonbnmicgmnliaaGreatDoor
