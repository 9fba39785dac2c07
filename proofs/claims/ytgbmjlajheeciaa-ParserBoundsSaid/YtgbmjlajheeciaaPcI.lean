/-
  The document's parts of a sequence's header, walked.
  The document's parts of a sequence's header, walked: the loops.
-/
import Derived.Test.YtgbmjlajheeciaaPcH
import Derived.Deep.DeepCutAuto
import Derived.Deep.CutBlock
namespace Go.Proofs.Ytgbmjlajheeciaa
set_option linter.unusedSimpArgs false
set_option linter.unusedVariables false
section
open Go.RowKit

theorem while_take (u : List Int) (k : Nat) (hk : k ≤ u.length) (h1 : ∀ (j : Nat) (x : Int), j < k → u[j]? = some x → 48 ≤ x) (h2 : ∀ x : Int, u[k]? = some x → x < 48) :
    (u.takeWhile fun x => decide (48 ≤ x)) = u.take k ∧ (u.dropWhile fun x => decide (48 ≤ x)) = u.drop k := by
  induction u generalizing k with
  | nil => simp at hk; subst hk; simp
  | cons x u ih =>
    cases k with
    | zero =>
      have := h2 x rfl
      simp [List.takeWhile, List.dropWhile, show ¬ 48 ≤ x by omega]
    | succ k =>
      have hx := h1 0 x (by omega) rfl
      obtain ⟨i1, i2⟩ := ih k (by simpa using hk) (fun j y hj hy => h1 (j + 1) y (by omega) (by simpa using hy)) (fun y hy => h2 y (by simpa using hy))
      simp [List.takeWhile, List.dropWhile, hx, i1, i2]
/-- What reading a header's parts leaves. -/
def ParseTo (w : World) (kind : Int) (p : Tok × Bool) (e : Ending) (w' : World) : Prop :=
  ∃ t pv, e = .returned (.tuple #[.agg (xcells t pv (.slice none 0 0)), .bool p.2]) ∧ HasRow w' 3 pv t.params.length (icells t.params) ∧ t.kind = kind ∧ t.data = [] ∧ (p.2 = true → t = p.1) ∧ Gr w w'
theorem str_bad (l : List Int) : ∀ (t t' : Tok) (ts : List Tok), t.kind = t'.kind → strR t false l ts = strR t' false l ts := by
  induction l with
  | nil => intros; rfl
  | cons c l ih =>
    intro t t' ts h
    simp only [strR, h]
    simp only [Bool.false_eq_true, false_and, if_false]
    rw [ih ⟨t'.kind, t.code, t.mark, t.params, t.inters, if dataOk c = true then t.data ++ [c] else t.data⟩ ⟨t'.kind, t'.code, t'.mark, t'.params, t'.inters, if dataOk c = true then t'.data ++ [c] else t'.data⟩ ts rfl]
/-- The good of a header's parts, place by place. -/
def goodAt (u : List Int) (k i : Nat) : Bool := (u.take k).all isAcc && decide ((u.drop k).length ≤ 3) && ((u.drop k).take (i - k)).all fun x => decide (x < 48)
theorem goodAt_next {u : List Int} {k i : Nat} {x : Int} (hk : k ≤ i) (hx : u[i]? = some x) : goodAt u k (i + 1) = (goodAt u k i && decide (x < 48)) := by
  unfold goodAt
  have e : (u.drop k).take (i + 1 - k) = (u.drop k).take (i - k) ++ [x] := by
    rw [show i + 1 - k = (i - k) + 1 by omega, List.take_add_one, List.getElem?_drop, show k + (i - k) = i by omega, hx]
    rfl
  rw [e, List.all_append]
  simp [Bool.and_assoc]
theorem goodAt_start (u : List Int) (k : Nat) : goodAt u k k = ((u.take k).all isAcc && decide ((u.drop k).length ≤ 3)) := by simp [goodAt]
theorem parseR_eq {kind c : Int} {bs : List Int} {k : Nat} (h : ((unmark bs).takeWhile fun x => decide (48 ≤ x)) = (unmark bs).take k ∧ ((unmark bs).dropWhile fun x => decide (48 ≤ x)) = (unmark bs).drop k) :
    parseR kind bs c = (⟨kind, c, markOf bs, numsR ((unmark bs).take k), (unmark bs).drop k, []⟩, goodAt (unmark bs) k (unmark bs).length) := by
  unfold parseR goodAt
  simp only [h.1, h.2]
  rw [List.take_of_length_le (show ((unmark bs).drop k).length ≤ (unmark bs).length - k by simp)]
theorem conv_at {w : World} {g off n cap : Nat} {l : List Int} (hl : l.length = n) (hc : ∀ i u, l[i]? = some u → w.cell? ⟨g, off + i, none⟩ = some (.int .u8 u)) : (convert 22 9 (.slice (some ⟨g, off, none⟩) n cap)).run Try.prog w = .ok (.string (strOf l)) w := by
  refine run_convert_bytes_arg w _ 5 Try.underlying22 Try.underlying5 g off n cap l hl (fun i hi => ?_) _ Try.underlying9
  refine hc i _ ?_
  simp [List.getD, List.getElem?_eq_getElem (show i < l.length by omega)]

theorem wpList_conv {ops : Array Oper} {rest : List Oper} {o : Oper} {a : Act} {w : World} {Q : Exit → Act → World → Prop} (hgd : o.guard = none) (x : Operand) (ho : o.op = .convert 22 9 x) {g off n cap : Nat} (hx : a.eval x = .slice (some ⟨g, off, none⟩) n cap) (l : List Int) (hl : l.length = n)
    (hc : ∀ i u, l[i]? = some u → w.cell? ⟨g, off + i, none⟩ = some (.int .u8 u)) (h : wpList Try.prog ops Q rest (a.put o.dst (.string (strOf l))) w) : wpList Try.prog ops Q (o :: rest) a w :=
  wpList_plain hgd fun _ hK => by
    have hrun := conv_at (cap := cap) hl hc
    unfold Oper.wp
    simp [execOp, ho, hx, hrun, Result.andThen]
    exact hK _ _ h
theorem cells_gr {w W : World} {g off : Nat} {l : List Int} (h : ∀ (i : Nat) (u : Int), l[i]? = some u → w.cell? ⟨g, off + i, none⟩ = some (.int .u8 u)) (hg : Gr w W) : ∀ (i : Nat) (u : Int), l[i]? = some u → W.cell? ⟨g, off + i, none⟩ = some (.int .u8 u) :=
  fun i u hi => hg.cellAt (h i u hi)
theorem cells_take {w : World} {g off k : Nat} {l : List Int} (h : ∀ (i : Nat) (u : Int), l[i]? = some u → w.cell? ⟨g, off + i, none⟩ = some (.int .u8 u)) : ∀ (i : Nat) (u : Int), (l.take k)[i]? = some u → w.cell? ⟨g, off + i, none⟩ = some (.int .u8 u) := by
  intro i u hi
  rw [List.getElem?_take] at hi
  split at hi
  · exact h i u hi
  · cases hi
theorem cells_drop {w : World} {g off k : Nat} {l : List Int} (h : ∀ (i : Nat) (u : Int), l[i]? = some u → w.cell? ⟨g, off + i, none⟩ = some (.int .u8 u)) : ∀ (i : Nat) (u : Int), (l.drop k)[i]? = some u → w.cell? ⟨g, off + k + i, none⟩ = some (.int .u8 u) := by
  intro i u hi
  rw [List.getElem?_drop] at hi
  rw [show off + k + i = off + (k + i) by omega]
  exact h _ u hi
end
section
open Go.RowKit

def Dig (u : List Int) (k : Nat) : Prop := ∀ (j : Nat) (x : Int), j < k → u[j]? = some x → 48 ≤ x
theorem Dig.next {u : List Int} {k : Nat} {y : Int} (h : Dig u k) (hy : u[k]? = some y) (h48 : 48 ≤ y) : Dig u (k + 1) := by
  intro j x hj hx
  by_cases e : j = k
  · subst e; rw [hy] at hx; injection hx with hx; omega
  · exact h j x (by omega) hx
theorem strOf_size (l : List Int) : (strOf l).size = l.length := by simp [strOf, ByteArray.size]
theorem HasRow.updK {w w' : World} {K : List Nat} {v : Value} {n : Nat} {xs : List Value} (h : HasRow w 3 v n xs) (hu : Upd K w w') (hK : ∀ k ∈ K, ∃ c, w.heap[k]? = some (.cells c 52 (0, 0))) : HasRow w' 3 v n xs :=
  h.same fun k hk => hu.block k (h.blk hk) fun hm => by
    obtain ⟨c, hc⟩ := hK k hm
    exact hasRow_ne h hc (by decide) hk
/-- The numbers of a header, however its bytes are. -/
theorem nums_call {l : List Int} (hl : ∀ c ∈ l, 0 ≤ c ∧ c < 256) (hn : l.length ≤ 80000) (ha : l.all isAcc = true) (W : World) : Calls Try.prog 58 #[.string (strOf l)] W (NumsTo W l) := by
  have h := rparse_good (strOf l) W (by rw [strOf_size]; omega) (by rw [bl_strOf l hl]; exact ha)
  rwa [bl_strOf l hl] at h
theorem nums_bad {l : List Int} (hl : ∀ c ∈ l, 0 ≤ c ∧ c < 256) (hn : l.length ≤ 80000) (ha : l.all isAcc = false) (W : World) : Calls Try.prog 58 #[.string (strOf l)] W fun e w' => e = .returned (.tuple #[.slice none 0 0, .int .i64 3]) ∧ W = w' :=
  rparse_bad (strOf l) W (by rw [strOf_size]; omega) (by rw [bl_strOf l hl]; exact ha)
theorem keep2 {w w1 : World} {o o' : Obj} (h : Gr ((w.alloc o).alloc o') w1) : w1.heap[w.heap.size]? = some o ∧ w1.heap[w.heap.size + 1]? = some o' := by
  refine ⟨h.blk (((Gr.refl _).alloc o').blk (heap_alloc_new w o)), ?_⟩
  have := h.blk (heap_alloc_new (w.alloc o) o')
  simpa using this
theorem ParseTo.mk {w W : World} {kind : Int} {p : Tok × Bool} {t : Tok} {pv : Value} {b : Bool} (hb : p.2 = b) (h1 : HasRow W 3 pv t.params.length (icells t.params)) (hk : t.kind = kind) (hd : t.data = []) (ht : b = true → t = p.1) (hg : Gr w W) :
    ParseTo w kind p (.returned (.tuple #[.agg (xcells t pv (.slice none 0 0)), .bool b])) W := ⟨t, pv, by rw [hb], h1, hk, hd, fun h => ht (hb ▸ h), hg⟩

def mkB (bs : List Int) : Bool := match bs with | x :: _ => decide (60 ≤ x ∧ x ≤ 63) | [] => false
/-- What lies behind the mark. -/
def Behind (w : World) (g : Nat) (bs : List Int) (off ul capu : Nat) : Prop := (unmark bs).length = ul ∧ ul + 1 ≤ capu ∧ ∀ (i : Nat) (u : Int), (unmark bs)[i]? = some u → w.cell? ⟨g, off + i, none⟩ = some (.int .u8 u)
def boxX (kind c mk : Int) (v3 v4 : Value) : Obj := .cells #[.int .i64 kind, .int .u8 c, .int .u8 mk, v3, v4, .slice none 0 0] 52
def boxR : Obj := .cells #[.int .i64 0, .int .u8 0, .int .u8 0, .slice none 0 0, .string ⟨#[]⟩, .slice none 0 0] 52
def worldX (w : World) (kind c mk : Int) : World := (w.alloc boxR).alloc (boxX kind c mk (.slice none 0 0) (.string ⟨#[]⟩))
def Cut1 (w : World) (kind c : Int) (bs : List Int) (v : Value) (wx : World) : Prop := v = .bool (mkB bs) ∧ wx = worldX w kind c 0
def Cut2 (w : World) (g : Nat) (kind c : Int) (bs : List Int) (v : Value) (wx : World) : Prop := ∃ off ul capu, v = .slice (some ⟨g, off, none⟩) ul capu ∧ Behind w g bs off ul capu ∧ wx = worldX w kind c (markOf bs)

set_option maxRecDepth 100000 in
set_option maxHeartbeats 4000000 in
theorem rparse_walk {w : World} {g cap m : Nat} {bs : List Int} {c kind : Int} (hb : ∀ x ∈ bs, 0 ≤ x ∧ x < 256) (hm : bs.length = m) (hn : m ≤ 80000) (hcap : m + 1 ≤ cap) (hg : g < w.heap.size)
    (hc : ∀ (i : Nat) (u : Int), (bs ++ [c])[i]? = some u → w.cell? ⟨g, i, none⟩ = some (.int .u8 u)) :
    Calls Try.prog 44 #[.int .i64 kind, .slice (some ⟨g, 0, none⟩) (m + 1) cap] w (ParseTo w kind (parseR kind bs c)) := by
  have hlast : w.cell? ⟨g, m, none⟩ = some (.int .u8 c) := hc m c (by rw [List.getElem?_append_right (by omega), hm]; simp)
  have hcb : ∀ (i : Nat) (u : Int), bs[i]? = some u → w.cell? ⟨g, i, none⟩ = some (.int .u8 u) := fun i u hi => hc i u (by rw [List.getElem?_append_left (List.getElem?_eq_some_iff.1 hi).1]; exact hi)
  have HC := Lib.hid hcb
  have HM := Lib.hid hm
  clear hc hcb hm
  go_enter Try.func44, Try.ntmps44
  go_upto_region 3 with fail
  go_cut [39] (fun v wx => Cut1 w kind c bs v wx)
  case first =>
    by_cases h0 : m = 0
    · subst h0
      have hbs : bs = [] := List.eq_nil_of_length_eq_zero HM.out
      subst hbs
      clear hb
      go_wp2_with fail
      go_meet
      exact ⟨rfl, rfl⟩
    · obtain ⟨x, r, hbs⟩ : ∃ x r, bs = x :: r := by
        cases bs with
        | nil => exact absurd HM.out (fun h => h0 (by simpa using h.symm))
        | cons x r => exact ⟨x, r, rfl⟩
      have hx0 := HC.out 0 x (by rw [hbs]; rfl)
      have hm0 : (0 : Int) < (m : Int) := by omega
      have hmk : mkB bs = (decide (60 ≤ x) && decide (x ≤ 63)) := by rw [hbs]; simp [mkB]
      have HK := Lib.hid hmk
      have HS := Lib.hid hbs
      clear h0 hbs hmk hb
      by_cases h60 : 60 ≤ x
      · have hq := decide_eq_true h60
        cases hq2 : decide (x ≤ 63)
        all_goals
          go_wp2_with fail
          go_meet
          exact ⟨by rw [HK.out, hq, hq2]; rfl, rfl⟩
      · have hq : decide (60 ≤ x) = false := by simpa using h60
        go_wp2_with fail
        go_meet
        exact ⟨by rw [HK.out, hq]; rfl, rfl⟩
  case rest =>
    obtain ⟨rfl, rfl⟩ := hcut
    unfold worldX boxX boxR
    go_upto_if 39 with fail
    go_cut [1] (fun v wx => Cut2 w g kind c bs v wx)
    case first =>
      cases hmk : mkB bs with
      | false =>
        have hum : unmark bs = bs ∧ markOf bs = 0 := by
          cases bs with
          | nil => exact ⟨rfl, rfl⟩
          | cons x r =>
            have h : ¬ (60 ≤ x ∧ x ≤ 63) := by simpa [mkB] using hmk
            simp [unmark, markOf, h]
        have HU := Lib.hid hum
        clear hum
        go_wp2_with fail
        go_meet
        refine ⟨0, m, cap, rfl, ⟨by rw [HU.out.1]; exact HM.out, hcap, fun i u hi => ?_⟩, by rw [HU.out.2]; rfl⟩
        rw [HU.out.1] at hi
        rw [Nat.zero_add]
        exact HC.out i u hi
      | true =>
        obtain ⟨x, r, hbs⟩ : ∃ x r, bs = x :: r := by
          cases bs with
          | nil => cases hmk
          | cons x r => exact ⟨x, r, rfl⟩
        have hx0 := HC.out 0 x (by rw [hbs]; rfl)
        have hum : unmark bs = r ∧ markOf bs = x := by
          rw [hbs] at hmk ⊢
          have h : 60 ≤ x ∧ x ≤ 63 := by simpa [mkB] using hmk
          simp [unmark, markOf, h]
        have hr : r.length + 1 = m := by have := HM.out; rw [hbs] at this; simpa using this
        have hm0 : (0 : Int) < (m : Int) := by omega
        have hm1 : (1 : Int) ≤ (m : Int) := by omega
        have hcap1 : cap ≠ 1 := by omega
        have HU := Lib.hid hum
        have HS := Lib.hid hbs
        have HR := Lib.hid hr
        clear hum hbs hr hb
        go_wp2_with fail
        go_meet
        refine ⟨1, m - 1, cap - 1, ?_, ⟨by rw [HU.out.1]; have := HR.out; omega, by have := HR.out; omega, fun i u hi => ?_⟩, by rw [HU.out.2]; rfl⟩
        · rfl
        rw [HU.out.1] at hi
        have := HC.out (i + 1) u (by rw [HS.out]; simpa using hi)
        rwa [show i + 1 = 1 + i by omega] at this
    case rest =>
      obtain ⟨off, ul, capu, rfl, ⟨hul, hcu, hcl⟩, rfl⟩ := hcut
      unfold worldX boxX boxR
      have HL := Lib.hid hul
      have HCl := Lib.hid hcl
      have hul8 : ul ≤ 80000 := by
        have h1 := HM.out
        have h2 : (unmark bs).length ≤ bs.length := by
          unfold unmark
          split
          · split <;> simp
          · simp
        omega
      have hub : ∀ x ∈ unmark bs, 0 ≤ x ∧ x < 256 := fun x hx => hb x (by
        unfold unmark at hx
        split at hx
        · split at hx
          · exact List.mem_cons_of_mem _ hx
          · exact hx
        · exact hx)
      have HB := Lib.hid hub
      clear hul hcl hub hb hlast hcap
      obtain ⟨U, hU⟩ : ∃ U, U = unmark bs := ⟨_, rfl⟩
      rw [← hU] at HL HCl HB
      have HUU := Lib.hid hU
      clear hU
      go_upto_block 0 with fail
      go_cut [7] (fun v wx => ∃ k : Nat, k ≤ ul ∧ v = .int .i64 k ∧ Dig U k ∧ (∀ x : Int, U[k]? = some x → x < 48) ∧ wx = worldX w kind c (markOf bs))
      case first =>
        go_wp2_with fail
        go_loop [7] (fun i => ∃ k : Nat, k ≤ ul ∧ i = .int .i64 k ∧ Dig U k) (fun i => ul - (intOf i).toNat)
        case atStart => exact ⟨0, by omega, rfl, fun j x h => by omega⟩
        case round =>
          obtain ⟨k, hk, rfl, hdg⟩ := hrel
          have HD := Lib.hid hdg; clear hdg
          by_cases hlt : k < ul
          · obtain ⟨y, hy⟩ : ∃ y, U[k]? = some y := ⟨U[k]'(by rw [HL.out]; exact hlt), List.getElem?_eq_getElem _⟩
            have hcy := HCl.out k y hy
            have hkk : (k : Int) < (ul : Int) := by omega
            have HY := Lib.hid hy
            clear hy
            by_cases h48 : 48 ≤ y
            · have q := decide_eq_true h48
              have HN := Lib.hid (HD.out.next HY.out h48)
              go_wp2_with fail
              go_round
              case rel => exact ⟨k + 1, by omega, by go_num, HN.out⟩
              case measure => simp [intOf]; omega
            · have q : decide (48 ≤ y) = false := by simpa using h48
              go_wp2_with fail
              go_meet
              refine ⟨k, hk, rfl, HD.out, fun x hx => ?_, rfl⟩
              have := HY.out
              rw [hx] at this
              injection this with this
              omega
          · have hkk : ¬ (k : Int) < (ul : Int) := by omega
            go_wp2_with fail
            go_meet
            refine ⟨k, hk, rfl, HD.out, fun x hx => ?_, rfl⟩
            have := (List.getElem?_eq_some_iff.1 hx).1
            rw [HL.out] at this
            omega
      case rest =>
        obtain ⟨k, hk, rfl, hdg, hst, rfl⟩ := hcut
        unfold worldX boxX boxR
        have hw := while_take U k (by rw [HL.out]; exact hk) hdg hst
        have HW := Lib.hid hw
        have hlt1 : (U.take k).length = k := by rw [List.length_take, HL.out]; omega
        have hlt2 : (U.drop k).length = ul - k := by rw [List.length_drop, HL.out]
        have hc1 := conv_at (cap := capu) hlt1 (cells_take (cells_gr (W := worldX w kind c (markOf bs)) HCl.out (((Gr.refl w).alloc _).alloc _)))
        unfold worldX boxX boxR at hc1
        have HT1 := Lib.hid hlt1
        have HT2 := Lib.hid hlt2
        clear hdg hst hw hlt1 hlt2
        go_upto_region 9 with fail
        go_cut [8, 9] (fun lv ev wx => ∃ (va : Option Addr) (vc : Nat) (ps : List Int), lv = .slice va ps.length vc ∧ HasRow wx 3 lv ps.length (icells ps) ∧ (((U.take k).all isAcc = true ∧ ev = .int .i64 0 ∧ ps = numsR (U.take k)) ∨ ((U.take k).all isAcc = false ∧ ev = .int .i64 3 ∧ ps = [])) ∧
          wx.heap[w.heap.size]? = some boxR ∧ wx.heap[w.heap.size + 1]? = some (boxX kind c (markOf bs) (.slice none 0 0) (.string ⟨#[]⟩)) ∧ Gr w wx)
        case first =>
          have hr1 : ∀ x ∈ U.take k, 0 ≤ x ∧ x < 256 := fun x hx => HB.out x (List.mem_of_mem_take hx)
          have hl1 : (U.take k).length ≤ 80000 := by rw [HT1.out]; omega
          cases hac : (U.take k).all isAcc with
          | true =>
            have hnc := nums_call hr1 hl1 hac
            have HR1 := Lib.hid hr1; have HR2 := Lib.hid hl1
            clear hr1 hl1
            go_wp2_with (go_at_call 58; refine (hnc _).mono ?_; rintro e w1 ⟨v, rfl, hrow, hg1⟩; obtain ⟨va, vc, rfl⟩ := row_form hrow)
            go_meet
            obtain ⟨hRb, hXb⟩ := keep2 hg1
            exact ⟨va, vc, _, rfl, .of_own hrow, .inl ⟨by first | rfl | exact hac, rfl, rfl⟩, hRb, hXb, (((Gr.refl w).alloc _).alloc _).trans hg1⟩
          | false =>
            have hnc := nums_bad hr1 hl1 hac
            have HR1 := Lib.hid hr1; have HR2 := Lib.hid hl1
            clear hr1 hl1
            go_wp2_with (go_at_call 58; refine (hnc _).mono ?_; rintro e w1 ⟨rfl, rfl⟩)
            go_meet
            obtain ⟨hRb, hXb⟩ := keep2 (Gr.refl ((w.alloc boxR).alloc (boxX kind c (markOf bs) (.slice none 0 0) (.string ⟨#[]⟩))))
            exact ⟨none, 0, [], rfl, .nil _ _, .inr ⟨by first | rfl | exact hac, rfl, rfl⟩, hRb, hXb, ((Gr.refl w).alloc _).alloc _⟩
        case rest =>
          obtain ⟨va, vc, ps, rfl, hrow, hev, hRb, hXb, hgr⟩ := hcut
          unfold boxR at hRb
          unfold boxX at hXb
          obtain ⟨x0, x1, x2, x3, x4, x5, xf⟩ := cells6 hXb
          obtain ⟨r0, r1, r2, r3, r4, r5, rf⟩ := cells6 hRb
          have hXs := blk_lt hXb
          have hcd : ∀ (i : Nat) (u : Int), (U.drop k)[i]? = some u → (wc.setCell ⟨w.heap.size + 1, 3, none⟩ (.slice va ps.length vc)).cell? ⟨g, off + k + i, none⟩ = some (.int .u8 u) := fun i u hi => by
            rw [World.cell?_setCell_other _ _ _ _ (by intro e; injection e; omega)]
            exact hgr.cellAt (cells_drop HCl.out i u hi)
          have hc2 := conv_at (cap := capu - k) HT2.out hcd
          have HE := Lib.hid hev
          have HR := Lib.hid hrow
          have HGr := Lib.hid hgr
          have HXb := Lib.hid hXb; have HRb := Lib.hid hRb
          have hkc : capu ≠ k := by omega
          have hku : (k : Int) ≤ (ul : Int) := by omega
          have hkcu : (k : Int) ≤ (capu : Int) := by omega
          have hucu : (ul : Int) ≤ (capu : Int) := by omega
          clear hc1 hcd hev hrow hgr hXb hRb
          go_upto_region 12 with fail
          go_cut [10] (fun v wx => v = .bool (goodAt U k k) ∧ wx = (wc.setCell ⟨w.heap.size + 1, 3, none⟩ (.slice va ps.length vc)).setCell ⟨w.heap.size + 1, 4, none⟩ (.string (strOf (U.drop k))))
          case first =>
            have hg0 := goodAt_start U k
            rw [show decide ((U.drop k).length ≤ 3) = decide (((strOf (U.drop k)).size : Int) ≤ 3) by rw [strOf_size]; exact decide_eq_decide.2 (by omega)] at hg0
            rcases HE.out with ⟨ha, rfl, hps⟩ | ⟨ha, rfl, hps⟩
            · rw [ha] at hg0
              have HP := Lib.hid hps
              have HA := Lib.hid ha
              clear hps ha
              cases h3 : decide (((strOf (U.drop k)).size : Int) ≤ 3)
              all_goals
                rw [h3] at hg0
                have HG := Lib.hid hg0
                clear hg0
                go_wp2_with fail
                go_meet
                exact ⟨by rw [HG.out]; rfl, rfl⟩
            · rw [ha] at hg0
              have HG := Lib.hid hg0
              have HP := Lib.hid hps
              have HA := Lib.hid ha
              clear hps ha hg0
              go_wp2_with fail
              go_meet
              exact ⟨by rw [HG.out]; rfl, rfl⟩
          case rest =>
            obtain ⟨rfl, rfl⟩ := hcut
            clear hc2
            go_wp2_with fail
            go_loop [10, 11] (fun gd i => ∃ k2 : Nat, k ≤ k2 ∧ k2 ≤ ul ∧ i = .int .i64 k2 ∧ gd = .bool (goodAt U k k2)) (fun _ i => ul - (intOf i).toNat)
            case atStart => exact ⟨k, Nat.le_refl _, hk, rfl, rfl⟩
            case round =>
              obtain ⟨k2, hk2, hk2m, rfl, rfl⟩ := hrel
              obtain ⟨gb, hgb⟩ : ∃ gb, gb = goodAt U k k2 := ⟨_, rfl⟩
              rw [← hgb]
              have HB2 := Lib.hid hgb; clear hgb
              by_cases hlt2 : k2 < ul
              · obtain ⟨y2, hy2⟩ : ∃ y2, U[k2]? = some y2 := ⟨U[k2]'(by rw [HL.out]; exact hlt2), List.getElem?_eq_getElem _⟩
                have hcy2 := HGr.out.cellAt (HCl.out k2 y2 hy2)
                have hkk2 : (k2 : Int) < (ul : Int) := by omega
                have hnx := goodAt_next hk2 hy2
                rw [← HB2.out] at hnx
                clear hy2
                cases gb with
                | true =>
                  rw [Bool.true_and] at hnx
                  cases h48 : decide (y2 < 48)
                  all_goals
                    rw [h48] at hnx
                    have HX := Lib.hid hnx
                    clear hnx
                    go_wp2_with fail
                    go_round
                    case rel => exact ⟨k2 + 1, by omega, by omega, by go_num, by rw [HX.out]⟩
                    case measure => simp [intOf]; omega
                | false =>
                  rw [Bool.false_and] at hnx
                  have HX := Lib.hid hnx
                  clear hnx
                  go_wp2_with fail
                  go_round
                  case rel => exact ⟨k2 + 1, by omega, by omega, by go_num, by rw [HX.out]⟩
                  case measure => simp [intOf]; omega
              · have hkk2 : ¬ (k2 : Int) < (ul : Int) := by omega
                have hke : k2 = ul := by omega
                have HK := Lib.hid hke
                clear hke
                go_wp2_with fail
                refine bodyPost_ret (v := .tuple #[.agg (xcells ⟨kind, c, markOf bs, ps, U.drop k, []⟩ (.slice va ps.length vc) (.slice none 0 0)), .bool gb]) (by simp [results, Try.results44, go_sem, xcells, *]) rfl ?_
                have hp := parseR_eq (kind := kind) (c := c) (bs := bs) (k := k) (by rw [← HUU.out]; exact HW.out)
                rw [← HUU.out, HL.out] at hp
                rw [hp]
                refine .mk (p := _) (t := ⟨kind, c, markOf bs, ps, U.drop k, []⟩) (by rw [HB2.out, HK.out]) (HR.out.updK (K := [w.heap.size, w.heap.size + 1]) ?_ ?_) rfl rfl (fun h => ?_) (HGr.out.upd (K := [w.heap.size, w.heap.size + 1]) ?_ (by simp))
                · (repeat (first | with_reducible exact Upd.refl _ _ | with_reducible refine Upd.setCell ?_ (by simp) _ | with_reducible refine Upd.alloc ?_ _ | with_reducible refine Upd.drew ?_))
                · intro k hk
                  simp at hk
                  rcases hk with rfl | rfl
                  · exact ⟨_, HRb.out⟩
                  · exact ⟨_, HXb.out⟩
                · rcases HE.out with ⟨_, _, hps⟩ | ⟨ha, _, _⟩
                  · rw [hps]
                  · have h1 : goodAt U k k2 = false := by unfold goodAt; rw [ha]; rfl
                    rw [HB2.out, h1] at h; cases h
                · (repeat (first | with_reducible exact Upd.refl _ _ | with_reducible refine Upd.setCell ?_ (by simp) _ | with_reducible refine Upd.alloc ?_ _ | with_reducible refine Upd.drew ?_))
end
end Go.Proofs.Ytgbmjlajheeciaa
