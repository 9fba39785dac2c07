/-
  What is told of a state is brought back: the plain law.
-/
import Derived.Test.YtfkecgkfcldffaaGreatDoorZStS
import Derived.Test.YtfkecgkfcldffaaGreatDoorZIsW
namespace Go.Proofs.YtfkecgkfcldffaaGreatDoor
set_option linter.unusedSimpArgs false
set_option linter.unusedVariables false
open Go.RowKit
set_option linter.unusedVariables false

/-- Lists of bytes, joined by semicolons. -/
def joinL : List (List Int) → List Int
  | [] => []
  | [q] => q
  | q :: r :: l => q ++ 59 :: joinL (r :: l)
theorem split_joinL : ∀ (q : List Int) (l : List (List Int)), (∀ x ∈ q :: l, ∀ c ∈ x, c ≠ 59) → splitSemi (joinL (q :: l)) = q :: l
  | q, [], h => splitSemi_plain q (h q (by simp))
  | q, r :: l, h => by
    show splitSemi (q ++ 59 :: joinL (r :: l)) = _
    rw [splitSemi_append q _ (h q (by simp)), split_joinL r l fun x hx => h x (List.mem_cons_of_mem _ hx)]
def howZ (c : Cor) : Int := flagZ c.origin + 2 * flagZ (c.sg == 2) + 4 * flagZ (c.sg == 3) + 8 * flagZ c.wrap
/-- A state that can be told and brought back. -/
structure GoodC (C : Cor) : Prop where
  cc : C.clean = C
  ok : C.Ok
  row : 0 ≤ C.row ∧ C.row < 60000
  col : 0 ≤ C.col ∧ C.col < 60000
  page : 0 ≤ C.page ∧ C.page < 16
  g : between 1 17 C.g0 = true ∧ between 1 17 C.g1 = true ∧ between 1 17 C.g2 = true ∧ between 1 17 C.g3 = true
  w0 : wideOf C.g0 = false
  gl : between 0 3 C.gl = true
  gr : between 1 3 C.gr = true
  sg : C.sg = 0 ∨ C.sg = 2 ∨ C.sg = 3
  small : smallZ C = true
theorem numV_digs {n : Int} (h0 : 0 ≤ n) (h1 : n ≤ 65535) : numV (digs n) = n ∧ numK (digs n) = true := by
  have hd := digs_in' h0
  have ha : (digs n).all isAcc = true := by
    rw [List.all_eq_true]; intro x hx; have := hd x hx; simp only [isAcc, Bool.or_eq_true, Bool.and_eq_true, decide_eq_true_eq]; omega
  refine nmK_one ha ?_
  unfold numsR
  rw [if_neg (digs_ne' h0), splitSemi_plain _ (fun c hc => by have := hd c hc; omega)]
  simp [numR_digs' h0 h1]
theorem bitV_one {x m : Int} (h0 : 0 ≤ x) (h1 : x ≤ m) : bitV [64 + x] m = x ∧ bitK [64 + x] m = true := by
  have hk : bitK [64 + x] m = true := by
    show (decide (1 = 1) && decide (64 ≤ 64 + x) && decide (64 + x ≤ 64 + m)) = true
    simp only [Bool.and_eq_true, decide_eq_true_eq]
    exact ⟨⟨trivial, by omega⟩, by omega⟩
  refine ⟨?_, hk⟩
  unfold bitV
  rw [hk, cond_true]
  show 64 + x - 64 = x
  omega
theorem bytes_str {l : List Int} (h : ∀ c ∈ l, 0 ≤ c ∧ c < 256) : ((strOf l).data.toList.map fun b => (b.toNat : Int)) = l := by
  show ((l.map fun c => UInt8.ofNat c.toNat).map fun b => (b.toNat : Int)) = l
  rw [List.map_map]
  conv => rhs; rw [← List.map_id l]
  refine List.map_congr_left fun c hc => ?_
  have := h c hc
  show ((UInt8.ofNat c.toNat).toNat : Int) = c
  rw [UInt8.toNat_ofNat']
  omega
theorem bytes_bk (l : List UInt8) : ((l.map fun b => (b.toNat : Int)).map fun c => UInt8.ofNat c.toNat) = l := by
  rw [List.map_map]
  conv => rhs; rw [← List.map_id l]
  refine List.map_congr_left fun b _ => ?_
  show UInt8.ofNat ((b.toNat : Int)).toNat = b
  rw [Int.toNat_natCast, UInt8.ofNat_toNat]
theorem ids_59 (n : Int) (hn : between 1 17 n = true) : ∀ b ∈ (idOf n).data.toList, b ≠ 59 :=
  fin17 (p := fun n => ∀ b ∈ (idOf n).data.toList, b ≠ 59) (by decide +kernel) n hn
theorem repIds_59 (g : Nat → Int) : ∀ k, (∀ j, j < k → between 1 17 (g j) = true) → ∀ b ∈ repIds g k, b ≠ 59
  | 0, _ => by simp [repIds]
  | k + 1, h => fun b hb => by
    rcases List.mem_append.1 (show b ∈ repIds g k ++ (idOf (g k)).data.toList from hb) with hb | hb
    · exact repIds_59 g k (fun j hj => h j (by omega)) b hb
    · exact ids_59 (g k) (h k (by omega)) b hb
theorem how_in (c : Cor) (h : c.sg = 0 ∨ c.sg = 2 ∨ c.sg = 3) : (0 ≤ howZ c ∧ howZ c ≤ 15) ∧ (howZ c % 2 == 1) = c.origin ∧ (howZ c / 8 == 1) = c.wrap ∧ sgl (howZ c) = c.sg ∧ (howZ c / 2 % 4 == 3) = false := by
  unfold howZ
  rcases h with h | h | h <;> rw [h] <;> cases c.origin <;> cases c.wrap <;> decide
theorem kept_in (b : Bool) : (flagZ b == 1) = b := by cases b <;> rfl
/-- The ten fields of a cursor's text. -/
def tenL (C : Cor) : List (List Int) := [digs (C.row + 1), digs (C.col + 1), digs (C.page + 1), [64 + C.rend], [64 + flagZ C.kept], [64 + howZ C], digs C.gl, digs C.gr, [repSize (gNo C.g0 C.g1 C.g2 C.g3) 4], (repIds (gNo C.g0 C.g1 C.g2 C.g3) 4).map fun b => (b.toNat : Int)]
theorem join_toList (xs : List ByteArray) : ((joinB xs).data.toList.map fun b => (b.toNat : Int)) = joinL (xs.map fun s => s.data.toList.map fun b => (b.toNat : Int)) := by
  show ((Lib.join (xs.map (·.data.toList)) [59]).map fun b => (b.toNat : Int)) = _
  induction xs with
  | nil => simp [Lib.join, joinL]
  | cons x xs ih =>
    cases xs with
    | nil => rw [List.map_cons, List.map_nil, join_one]; rfl
    | cons y ys =>
      rw [List.map_cons, List.map_cons, join_two, List.map_append, List.map_cons]
      rw [List.map_cons] at ih
      rw [ih]
      rfl
theorem curL_ten {C : Cor} (h : GoodC C) : curL C = joinL (tenL C) := by
  have hr := h.row; have hc := h.col; have hp := h.page
  have hgl := h.gl; have hgr := h.gr
  simp only [between, Bool.and_eq_true, decide_eq_true_eq] at hgl hgr
  have hrend : 0 ≤ C.rend ∧ C.rend < 32 := by
    have := congrArg Cor.rend h.cc
    have e : C.clean.rend = C.rend % 32 := rfl
    have := h.ok.rend
    omega
  have hsz := rep_between (gNo C.g0 C.g1 C.g2 C.g3)
  simp only [between, Bool.and_eq_true, decide_eq_true_eq] at hsz
  have hh := (how_in C h.sg).1
  have eL : uL C.gl = C.gl := by unfold uL; rw [h.gl]; rfl
  have eR : uR C.gr = C.gr := by unfold uR; rw [show between 0 3 C.gr = true by simp only [between, Bool.and_eq_true, decide_eq_true_eq]; omega]; rfl
  have k1 := fmt_b [C.row + 1, C.col + 1, C.page + 1]
  have k2 := fmt_b [C.gl, C.gr]
  have hfk := flag_in C.kept
  unfold curL curS
  rw [h.cc, eL, eR, join_toList]
  simp only [List.map_cons, List.map_nil]
  rw [show fmtR [C.row + 1, C.col + 1, C.page + 1] = fmtGo [C.row + 1, C.col + 1, C.page + 1] from rfl, show fmtR [C.gl, C.gr] = fmtGo [C.gl, C.gr] from rfl, bytes_str k1, bytes_str k2]
  rw [bytes_str (l := [64 + C.rend]) (by simp; omega), bytes_str (l := [64 + flagZ C.kept]) (by simp; omega), bytes_str (l := [repSize (gNo C.g0 C.g1 C.g2 C.g3) 4]) (by simp; omega)]
  rw [show flagZ C.origin + 2 * flagZ (C.sg == 2) + 4 * flagZ (C.sg == 3) + 8 * flagZ C.wrap = howZ C from rfl, bytes_str (l := [64 + howZ C]) (by simp; omega)]
  have e1 : fmtGo [C.row + 1, C.col + 1, C.page + 1] = digs (C.row + 1) ++ 59 :: (digs (C.col + 1) ++ 59 :: digs (C.page + 1)) := by
    show digs (clipR (C.row + 1)) ++ 59 :: (digs (clipR (C.col + 1)) ++ 59 :: digs (clipR (C.page + 1))) = _
    rw [clipR_id (by omega) (by omega), clipR_id (by omega) (by omega), clipR_id (by omega) (by omega)]
  have e2 : fmtGo [C.gl, C.gr] = digs C.gl ++ 59 :: digs C.gr := by
    show digs (clipR C.gl) ++ 59 :: digs (clipR C.gr) = _
    rw [clipR_id (by omega) (by omega), clipR_id (by omega) (by omega)]
  rw [e1, e2]
  simp only [joinL, tenL, List.append_assoc, List.cons_append, List.nil_append]
theorem ten_split {C : Cor} (h : GoodC C) : splitSemi (curL C) = tenL C := by
  have hr := h.row; have hc := h.col; have hp := h.page
  have hgl := h.gl; have hgr := h.gr
  simp only [between, Bool.and_eq_true, decide_eq_true_eq] at hgl hgr
  have hrend : 0 ≤ C.rend := h.ok.rend.1
  have hsz := rep_between (gNo C.g0 C.g1 C.g2 C.g3)
  simp only [between, Bool.and_eq_true, decide_eq_true_eq] at hsz
  have hh := (how_in C h.sg).1
  have hfk := flag_in C.kept
  have hg : ∀ j, j < 4 → between 1 17 (gNo C.g0 C.g1 C.g2 C.g3 j) = true := by
    intro j hj
    rcases (by omega : j = 0 ∨ j = 1 ∨ j = 2 ∨ j = 3) with rfl | rfl | rfl | rfl
    · exact h.g.1
    · exact h.g.2.1
    · exact h.g.2.2.1
    · exact h.g.2.2.2
  rw [curL_ten h]
  refine split_joinL _ _ ?_
  have hd : ∀ n : Int, 0 ≤ n → ∀ c ∈ digs n, c ≠ 59 := fun n hn c hc => by have := digs_in' hn c hc; omega
  simp only [List.forall_mem_cons, List.not_mem_nil, false_implies, implies_true, and_true]
  refine ⟨hd _ (by omega), hd _ (by omega), hd _ (by omega), by omega, by omega, by omega, hd _ (by omega), hd _ (by omega), by omega, ?_⟩
  intro c hc
  obtain ⟨b, hb, rfl⟩ := List.mem_map.1 hc
  have := repIds_59 _ 4 hg b hb
  intro e
  exact this (UInt8.toNat_inj.1 (by show b.toNat = 59; omega))
/-- The one state with the cursor of the other. -/
def wantC (C D : Cor) : Cor := { D with row := C.row, col := C.col, rend := C.rend, kept := C.kept, wrap := C.wrap, origin := C.origin, g0 := C.g0, g1 := C.g1, g2 := C.g2, g3 := C.g3, gl := C.gl, gr := C.gr, sg := C.sg, page := C.page }
structure Twin (C D : Cor) : Prop where
  cc : D.clean = D
  pt : D.pt = C.pt
  pl : D.pl = C.pl
  pb : D.pb = C.pb
  pr : D.pr = C.pr
  pages : D.pages = C.pages
theorem want_clean {C D : Cor} (h : GoodC C) (t : Twin C D) : (wantC C D).clean = wantC C D := by
  have q : (wantC C D).clean = { C.clean with mt := D.clean.mt, ml := D.clean.ml, mb := D.clean.mb, mr := D.clean.mr, modes := D.clean.modes, level := D.clean.level, eight := D.clean.eight, stream := D.clean.stream, status := D.clean.status, below := D.clean.below } := by
    unfold wantC Cor.clean
    simp only [t.pb, t.pr, t.pages]
  rw [q, h.cc, t.cc]
  unfold wantC
  rw [t.pt, t.pl, t.pb, t.pr, t.pages]
theorem cur_back {C D : Cor} (h : GoodC C) (t : Twin C D) : curOk D (curL C) = true ∧ curC D (curL C) = wantC C D := by
  have hr := h.row; have hc := h.col; have hp := h.page
  have hgl := h.gl; have hgr := h.gr
  simp only [between, Bool.and_eq_true, decide_eq_true_eq] at hgl hgr
  have hrend : 0 ≤ C.rend ∧ C.rend ≤ 31 := by
    have := congrArg Cor.rend h.cc
    have e : C.clean.rend = C.rend % 32 := rfl
    have := h.ok.rend
    omega
  have hsz := rep_between (gNo C.g0 C.g1 C.g2 C.g3)
  simp only [between, Bool.and_eq_true, decide_eq_true_eq] at hsz
  obtain ⟨hh, o1, o2, o3, o4⟩ := how_in C h.sg
  have hfk := flag_in C.kept
  obtain ⟨v0, k0⟩ := numV_digs (n := C.row + 1) (by omega) (by omega)
  obtain ⟨v1, k1⟩ := numV_digs (n := C.col + 1) (by omega) (by omega)
  obtain ⟨v2, k2⟩ := numV_digs (n := C.page + 1) (by omega) (by omega)
  obtain ⟨v6, k6⟩ := numV_digs (n := C.gl) (by omega) (by omega)
  obtain ⟨v7, k7⟩ := numV_digs (n := C.gr) (by omega) (by omega)
  obtain ⟨v3, k3⟩ := bitV_one (m := 31) hrend.1 hrend.2
  obtain ⟨v4, k4⟩ := bitV_one (x := flagZ C.kept) (m := 1) (by omega) (by omega)
  obtain ⟨v5, k5⟩ := bitV_one (m := 15) hh.1 hh.2
  obtain ⟨v8, k8⟩ := bitV_one (x := repSize (gNo C.g0 C.g1 C.g2 C.g3) 4 - 64) (m := 15) (by omega) (by omega)
  rw [show 64 + (repSize (gNo C.g0 C.g1 C.g2 C.g3) 4 - 64) = repSize (gNo C.g0 C.g1 C.g2 C.g3) 4 by omega] at v8 k8
  have hx := ten_split h
  obtain ⟨e1, e2⟩ := cur_10 (c := D) (digs (C.row + 1)) (digs (C.col + 1)) (digs (C.page + 1)) ([64 + C.rend]) ([64 + flagZ C.kept]) ([64 + howZ C]) (digs C.gl) (digs C.gr) ([repSize (gNo C.g0 C.g1 C.g2 C.g3) 4]) ((repIds (gNo C.g0 C.g1 C.g2 C.g3) 4).map fun b => (b.toNat : Int)) hx
  have hs : curS7 D (digs (C.row + 1)) (digs (C.col + 1)) (digs (C.page + 1)) ([64 + C.rend]) ([64 + flagZ C.kept]) ([64 + howZ C]) (digs C.gl) (digs C.gr) ([repSize (gNo C.g0 C.g1 C.g2 C.g3) 4]) ((repIds (gNo C.g0 C.g1 C.g2 C.g3) 4).map fun b => (b.toNat : Int)) = (⟨C.g0, C.g1, C.g2, C.g3, C.gl, C.gr, D.sg⟩, true) := by
    unfold curS7
    rw [v6, v7, v8, bytes_bk, show 64 + (repSize (gNo C.g0 C.g1 C.g2 C.g3) 4 - 64) = repSize (gNo C.g0 C.g1 C.g2 C.g3) 4 by omega, t.cc]
    exact rst_back (gNo C.g0 C.g1 C.g2 C.g3) C.gl C.gr (s7 D) (by
      intro j hj
      rcases (by omega : j = 0 ∨ j = 1 ∨ j = 2 ∨ j = 3) with rfl | rfl | rfl | rfl
      · exact h.g.1
      · exact h.g.2.1
      · exact h.g.2.2.1
      · exact h.g.2.2.2) h.w0 h.gl h.gr
  have hok : okCur D (digs (C.row + 1)) (digs (C.col + 1)) (digs (C.page + 1)) ([64 + C.rend]) ([64 + flagZ C.kept]) ([64 + howZ C]) (digs C.gl) (digs C.gr) ([repSize (gNo C.g0 C.g1 C.g2 C.g3) 4]) ((repIds (gNo C.g0 C.g1 C.g2 C.g3) 4).map fun b => (b.toNat : Int)) = true := by
    unfold okCur curK
    rw [k0, k1, k2, k3, k4, k5, k6, k7, k8, hs, v5, o4]
    rfl
  have hcc : ccur D (digs (C.row + 1)) (digs (C.col + 1)) (digs (C.page + 1)) ([64 + C.rend]) ([64 + flagZ C.kept]) ([64 + howZ C]) (digs C.gl) (digs C.gr) ([repSize (gNo C.g0 C.g1 C.g2 C.g3) 4]) ((repIds (gNo C.g0 C.g1 C.g2 C.g3) 4).map fun b => (b.toNat : Int)) (curS7 D (digs (C.row + 1)) (digs (C.col + 1)) (digs (C.page + 1)) ([64 + C.rend]) ([64 + flagZ C.kept]) ([64 + howZ C]) (digs C.gl) (digs C.gr) ([repSize (gNo C.g0 C.g1 C.g2 C.g3) 4]) ((repIds (gNo C.g0 C.g1 C.g2 C.g3) 4).map fun b => (b.toNat : Int))).1 (sgl (bitV [64 + howZ C] 15)) = wantC C D := by
    unfold ccur
    rw [hs, v0, v1, v2, v3, v4, v5, o1, o2, o3, t.cc, kept_in, Int.add_sub_cancel, Int.add_sub_cancel, Int.add_sub_cancel]
    rfl
  rw [hok] at e1 e2
  refine ⟨e2, ?_⟩
  rw [e1, cond_true, hcc]
  exact want_clean h t
/-- All of the one state but its cursor, which is the other's. -/
def allC (C D : Cor) : Cor := { C with row := D.row, col := D.col, rend := D.rend, kept := D.kept, wrap := D.wrap, g0 := D.g0, g1 := D.g1, g2 := D.g2, g3 := D.g3, gl := D.gl, gr := D.gr, sg := D.sg, page := D.page }
theorem rep_back {C D : Cor} (h : GoodC C) (t : Twin C D) : resK D (fmtGo C.clean.nums) = true ∧ resC D (fmtGo C.clean.nums) = allC C D := by
  have hn := nums_small h.ok h.small
  have hf := inner_facts C.pb C.pr C.mt C.ml C.mb C.mr
  have m1 : (innerZ C.pb C.pr C.mt C.ml C.mb C.mr).1 = C.mt := congrArg Cor.mt h.cc
  have m2 : (innerZ C.pb C.pr C.mt C.ml C.mb C.mr).2.1 = C.ml := congrArg Cor.ml h.cc
  have m3 : (innerZ C.pb C.pr C.mt C.ml C.mb C.mr).2.2.1 = C.mb := congrArg Cor.mb h.cc
  have m4 : (innerZ C.pb C.pr C.mt C.ml C.mb C.mr).2.2.2 = C.mr := congrArg Cor.mr h.cc
  have m5 : max 0 (max 1 C.pb) = C.pb := congrArg Cor.pb h.cc
  have m6 : max 0 (max 1 C.pr) = C.pr := congrArg Cor.pr h.cc
  have m7 : C.modes % 131072 = C.modes := congrArg Cor.modes h.cc
  have m8 : clipZ C.level 1 5 = C.level := congrArg Cor.level h.cc
  have m9 : clipZ C.status 0 2 = C.status := congrArg Cor.status h.cc
  rw [m1, m2, m3, m4, m5, m6] at hf
  have c8 := clipz_in C.level 1 5 (by decide)
  have c9 := clipz_in C.status 0 2 (by decide)
  rw [h.cc] at hn ⊢
  have hl : C.nums = [C.level, flagZ C.eight, C.modes / 4096, C.modes % 4096, flagZ C.stream, C.status, flagZ C.below, C.mt, C.ml, C.mb, C.mr, flagZ C.origin] := rfl
  have hN : NumsL C.nums := ⟨Nat.le_of_ble_eq_true rfl, hn⟩
  have hx : numsR (fmtGo C.nums) = [C.level, flagZ C.eight, C.modes / 4096, C.modes % 4096, flagZ C.stream, C.status, flagZ C.below, C.mt, C.ml, C.mb, C.mr, flagZ C.origin] := by
    have := nums_fmt hN
    exact this
  have ha : (fmtGo C.nums).all isAcc = true := by
    rw [List.all_eq_true]; intro x hx; have hq := fmtGo_in C.nums x hx; simp only [isAcc, Bool.or_eq_true, Bool.and_eq_true, decide_eq_true_eq]; omega
  obtain ⟨e1, e2⟩ := res_12 (c := D) (C.level) (flagZ C.eight) (C.modes / 4096) (C.modes % 4096) (flagZ C.stream) (C.status) (flagZ C.below) (C.mt) (C.ml) (C.mb) (C.mr) (flagZ C.origin) ha hx
  have f1 := flag_in C.eight
  have f2 := flag_in C.stream
  have f3 := flag_in C.below
  have f4 := flag_in C.origin
  have hk : okL D.clean.pb D.clean.pr (C.level) (flagZ C.eight) (C.modes / 4096) (C.modes % 4096) (flagZ C.stream) (C.status) (flagZ C.below) (C.mt) (C.ml) (C.mb) (C.mr) (flagZ C.origin) = true := by
    rw [t.cc, t.pb, t.pr]
    unfold okL
    simp only [Bool.and_eq_true, decide_eq_true_eq]
    omega
  rw [hk] at e1 e2
  refine ⟨e2, ?_⟩
  rw [e1, if_pos rfl]
  unfold dcor allC
  rw [t.cc, kept_in, kept_in, kept_in, kept_in, show 4096 * (C.modes / 4096) + C.modes % 4096 = C.modes by omega]
  simp only [t.pt, t.pl, t.pb, t.pr, t.pages]
/-- Sets that may be told. -/
def capG (k g : Int) : Int := bif ((decide (g < 1) || decide (17 < g)) || (k == 0 && g == 5)) then 1 else g
theorem capG_in (k g : Int) : between 1 17 (capG k g) = true ∧ (k = 0 → wideOf (capG k g) = false) := by
  unfold capG
  cases hb : ((decide (g < 1) || decide (17 < g)) || (k == 0 && g == 5)) with
  | true => rw [cond_true]; exact ⟨by decide, fun _ => by decide +kernel⟩
  | false =>
    simp only [Bool.or_eq_false_iff, decide_eq_false_iff_not, Bool.and_eq_false_iff, beq_eq_false_iff_ne] at hb
    obtain ⟨⟨h1, h2⟩, h3⟩ := hb
    rw [cond_false]
    have hg : between 1 17 g = true := by simp only [between, Bool.and_eq_true, decide_eq_true_eq]; omega
    refine ⟨hg, fun hk => ?_⟩
    rw [wide5 g hg, decide_eq_false]
    intro e
    rcases h3 with h3 | h3
    · exact h3 hk
    · exact h3 e
def capR (g : Int) : Int := bif (g == 0) then 2 else g
/-- A state whose sets may be told. -/
def capC (c : Cor) : Cor := { c with g0 := capG 0 c.g0, g1 := capG 1 c.g1, g2 := capG 2 c.g2, g3 := capG 3 c.g3, gr := capR c.gr }
def capD (C d : Cor) : Cor := { d with pt := C.pt, pl := C.pl, pb := C.pb, pr := C.pr, pages := C.pages }
theorem i6_between {x : Int} (h : between 1 17 x = true) : I6 x := by simp only [between, Bool.and_eq_true, decide_eq_true_eq] at h; unfold I6; omega
theorem capC_ok {c : Cor} (h : c.Ok) : (capC c).Ok :=
  ⟨h.row, h.col, h.rend, ⟨i6_between (capG_in 0 _).1, i6_between (capG_in 1 _).1, i6_between (capG_in 2 _).1, i6_between (capG_in 3 _).1⟩, h.gl, (by
    have := h.gr
    show I6 (capR c.gr)
    unfold capR
    cases (c.gr == 0) with
    | false => exact this
    | true => show I6 2; unfold I6; decide), h.sg, h.p, h.m, h.modes, h.level, h.status, h.page, h.pages⟩
theorem capD_ok {C d : Cor} (h : C.Ok) (k : d.Ok) : (capD C d).Ok :=
  ⟨k.row, k.col, k.rend, k.g, k.gl, k.gr, k.sg, h.p, k.m, k.modes, k.level, k.status, k.page, h.pages⟩
theorem good_cap {c : Cor} (h : c.Ok) (hs : smallZ c = true) : GoodC (capC c).clean := by
  have hk := (capC_ok h)
  have hcp := clean_pos hk
  unfold smallZ at hs
  simp only [Bool.and_eq_true, decide_eq_true_eq] at hs
  have e : emptyZ 0 0 (max 0 (max 1 c.pb)) (max 0 (max 1 c.pr)) = false := by
    unfold emptyZ
    have h1 : ¬ max 0 (max 1 c.pb) ≤ 0 := by omega
    have h2 : ¬ max 0 (max 1 c.pr) ≤ 0 := by omega
    simp [h1, h2]
  have h1 : (capC c).clean.row = clipZ c.row 0 (max 0 (max 1 c.pb) - 1) := by
    show (clampZ 0 0 (max 0 (max 1 c.pb)) (max 0 (max 1 c.pr)) c.row c.col).1 = _
    unfold clampZ; rw [if_neg (by rw [e]; decide)]
  have h2 : (capC c).clean.col = clipZ c.col 0 (max 0 (max 1 c.pr) - 1) := by
    show (clampZ 0 0 (max 0 (max 1 c.pb)) (max 0 (max 1 c.pr)) c.row c.col).2 = _
    unfold clampZ; rw [if_neg (by rw [e]; decide)]
  have r1 := clipz_in c.row 0 (max 0 (max 1 c.pb) - 1) (by omega)
  have r2 := clipz_in c.col 0 (max 0 (max 1 c.pr) - 1) (by omega)
  refine ⟨Cor.clean_clean _, hk.clean, by omega, by omega, hcp.1, ⟨(capG_in 0 _).1, (capG_in 1 _).1, (capG_in 2 _).1, (capG_in 3 _).1⟩, (capG_in 0 _).2 rfl, ?_, ?_, ?_, ?_⟩
  · show between 0 3 (uL c.gl) = true
    unfold uL
    cases hb : between 0 3 c.gl
    · rfl
    · exact hb
  · show between 1 3 (uR (capR c.gr)) = true
    unfold uR
    cases hb : between 0 3 (capR c.gr) with
    | false => rfl
    | true =>
      show between 1 3 (capR c.gr) = true
      unfold capR at hb ⊢
      cases h0 : (c.gr == 0) with
      | true => rfl
      | false =>
        rw [h0, cond_false] at hb
        rw [cond_false]
        simp only [between, Bool.and_eq_true, decide_eq_true_eq] at hb ⊢
        simp only [beq_eq_false_iff_ne] at h0
        omega
  · show (bif (c.sg == 3 || c.sg == 2) then c.sg else 0) = 0 ∨ (bif (c.sg == 3 || c.sg == 2) then c.sg else 0) = 2 ∨ (bif (c.sg == 3 || c.sg == 2) then c.sg else 0) = 3
    cases h3 : (c.sg == 3) with
    | true => have : c.sg = 3 := by simpa using h3
              rw [this]; decide
    | false =>
      cases h2 : (c.sg == 2) with
      | true => have : c.sg = 2 := by simpa using h2
                rw [this]; decide
      | false => exact .inl rfl
  · have hm := hk.clean.modes
    have e1 : (capC c).clean.pb = max 0 (max 1 c.pb) := rfl
    have e2 : (capC c).clean.pr = max 0 (max 1 c.pr) := rfl
    unfold smallZ
    simp only [Bool.and_eq_true, decide_eq_true_eq]
    omega
theorem twin_cap {C d : Cor} (h : GoodC C) : Twin C (capD C d).clean := by
  refine ⟨Cor.clean_clean _, ?_, ?_, ?_, ?_, ?_⟩
  · have e := congrArg Cor.pt h.cc; exact e
  · have e := congrArg Cor.pl h.cc; exact e
  · have e := congrArg Cor.pb h.cc; exact e
  · have e := congrArg Cor.pr h.cc; exact e
  · have e := congrArg Cor.pages h.cc; exact e
end Go.Proofs.YtfkecgkfcldffaaGreatDoor
