/-
  The document's answer as a sequence or a string with numbers: phosphorref18.Function, walked.
  phosphorref18.Function, walked.
-/
import Derived.Test.YtonbnmicgmnliaaGreatDoorZTkV
import Derived.Test.YtonbnmicgmnliaaGreatDoorZRyE
namespace Go.Proofs.YtonbnmicgmnliaaGreatDoor
set_option linter.unusedSimpArgs false
set_option linter.unusedVariables false
open Go.RowKit
set_option linter.unusedVariables false

/-- The document's token being made. -/
structure GBox (w : World) (T : Nat) (k c m : Int) (p : Value) (s : ByteArray) (db : Option Addr) (dn dc : Nat) (d : List Int) (w' : World) : Prop where
  box : w'.heap[T]? = some (.cells #[.int .i64 k, .int .u8 c, .int .u8 m, p, .string s, .slice db dn dc] 65 (0, 0))
  data : HasRow w' 5 (.slice db dn dc) dn (bcells d)
  gr : Gr w w'
  lt : w.heap.size ≤ T
def GRow (w : World) (n : Nat) (p : Value) (l : List Int) (w' : World) : Prop := w'.ownsRow w.heap.size 3 1 p n (icells l)
section
variable {w w' : World} {T dn dc : Nat} {k c m : Int} {p : Value} {s : ByteArray} {db : Option Addr} {d : List Int}
theorem GBox.drew (h : GBox w T k c m p s db dn dc d w') : GBox w T k c m p s db dn dc d w'.drew := ⟨h.box, h.data.gr (Gr.refl _).drew, h.gr.drew, h.lt⟩
theorem GBox.set1 (h : GBox w T k c m p s db dn dc d w') (x : Int) : GBox w T k x m p s db dn dc d (w'.setCell ⟨T, 1, none⟩ (.int .u8 x)) :=
  ⟨blk_set h.box 1 _, h.data.far1 h.box (by decide), h.gr.setCell h.lt _, h.lt⟩
theorem GBox.set2 (h : GBox w T k c m p s db dn dc d w') (x : Int) : GBox w T k c x p s db dn dc d (w'.setCell ⟨T, 2, none⟩ (.int .u8 x)) :=
  ⟨blk_set h.box 2 _, h.data.far1 h.box (by decide), h.gr.setCell h.lt _, h.lt⟩
theorem GBox.set3 (h : GBox w T k c m p s db dn dc d w') (x : Value) : GBox w T k c m x s db dn dc d (w'.setCell ⟨T, 3, none⟩ x) :=
  ⟨blk_set h.box 3 _, h.data.far1 h.box (by decide), h.gr.setCell h.lt _, h.lt⟩
theorem GBox.set4 (h : GBox w T k c m p s db dn dc d w') (x : ByteArray) : GBox w T k c m p x db dn dc d (w'.setCell ⟨T, 4, none⟩ (.string x)) :=
  ⟨blk_set h.box 4 _, h.data.far1 h.box (by decide), h.gr.setCell h.lt _, h.lt⟩
theorem GRow.set {n o : Nat} {l : List Int} {cs : Array Value} (h : GRow w n p l w') (hb : w'.heap[T]? = some (.cells cs 65 (0, 0))) (u : Value) : GRow w n p l (w'.setCell ⟨T, o, none⟩ u) :=
  ownsRow_same h fun k hk => Below.heap_setCell w' ⟨T, o, none⟩ u k fun x => hasRow_ne (HasRow.of_own h) hb (by decide) (by rw [hk]; exact congrArg some x)
theorem GBox.app {w2 : World} {j : Nat} {v : Value} {xs : List Value} {o : Obj} (h : GBox w T k c m p s db dn dc d w') (hR : w'.ownsRow w.heap.size 3 1 v j xs) (hgb : (w'.alloc o).grownBy w2 v.ownBlock) (hg : Gr w w2) : GBox w T k c m p s db dn dc d w2 := by
  have ho := (Gr.refl w').alloc o
  refine ⟨grown_blk hgb (fun e => hasRow_ne (HasRow.of_own hR) h.box (by decide) e.symm) (ho.blk h.box), (h.data.gr ho).same fun q hq => ?_, hg, h.lt⟩
  refine hgb.block q ((h.data.gr ho).blk hq) fun e => ?_
  rcases hR.2 with ⟨rfl, _⟩ | ⟨g, cap, cur, rfl, _, hh, _⟩
  · cases e
  · have hgq : q = g := by simpa [Value.ownBlock] using e
    subst hgq
    exact hasRow_ne h.data hh (by decide) hq
end
/-- What the end of Function is told: the document's Check and Bytes of the token that was made. -/
structure FinKit (w : World) (k y M : Int) (va : Option Addr) (j ca : Nat) (l : List Int) (I : ByteArray) (db : Option Addr) (dn dc : Nat) (d : List Int) (eight : Bool) (A : List Int) (r : Int) : Prop where
  check : ∀ W, Gr w W → HasRow W 3 (.slice va j ca) j (icells l) → HasRow W 5 (.slice db dn dc) dn (bcells d) → Calls Tryz.prog 26 #[.agg #[.int .i64 k, .int .u8 y, .int .u8 M, .slice va j ca, .string I, .slice db dn dc]] W fun e w' => e = .returned (.int .i64 r) ∧ Gr W w'
  bytes : r = 0 → ∀ W, Gr w W → HasRow W 3 (.slice va j ca) j (icells l) → HasRow W 5 (.slice db dn dc) dn (bcells d) → Calls Tryz.prog 27 #[.agg #[.int .i64 k, .int .u8 y, .int .u8 M, .slice va j ca, .string I, .slice db dn dc], .bool eight] W (RBOut W A)
  none : r ≠ 0 → A = []
theorem finKit {w : World} {k y M : Int} {va db : Option Addr} {j ca dn dc : Nat} {l d : List Int} {I : ByteArray} {T0 : Tok} (eight : Bool) (hr : TRange T0) (e0 : T0.kind = k) (e1 : T0.code = y) (e2 : T0.mark = M) (e3 : T0.params = l) (e4 : strOf T0.inters = I) (e5 : T0.data = d) (hj : j ≤ 30) (hca : ca ≤ maxLen) (hjc : j ≤ ca) (hI : T0.inters.length ≤ 1000) (hdn : dn ≤ 100000) :
    FinKit w k y M va j ca l I db dn dc d eight (ansR T0 eight) (checkR T0) := by
  subst e0; subst e1; subst e2; subst e3; subst e4; subst e5
  have hrd : ∀ W, HasRow W 3 (.slice va j ca) j (icells T0.params) → HasRow W 5 (.slice db dn dc) dn (bcells T0.data) → RdTok W T0 va j db dn := fun W h1 h2 => ⟨h1.rd_, h2.rd_, by omega, by omega, by omega⟩
  refine ⟨fun W hg h1 h2 => ?_, fun h0 W hg h1 h2 => ?_, fun h0 => if_neg h0⟩
  · exact rcheck_any hr (hrd W h1 h2)
  · have e : ansR T0 eight = bytesR T0 eight := if_pos h0
    rw [e]
    exact rbytes_can (check_zero hr h0) (hrd W h1 h2) hjc hca eight
end Go.Proofs.YtonbnmicgmnliaaGreatDoor

namespace Go.Proofs.YtonbnmicgmnliaaGreatDoor
set_option linter.unusedSimpArgs false
set_option linter.unusedVariables false
open Go.RowKit
set_option linter.unusedVariables false

def GIn (w : World) (T dn dc : Nat) (k : Int) (db : Option Addr) (d ps : List Int) (j : Nat) (wr : World) : Prop :=
  ∃ va ca, GBox w T k 0 0 (.slice va j ca) ⟨#[]⟩ db dn dc d wr ∧ GRow w j (.slice va j ca) ((ps.take j).map clip16) wr
theorem GIn.next {w wr w2 : World} {T dn dc j ca ca2 : Nat} {k x X : Int} {db va va2 : Option Addr} {d ps : List Int} (hB : GBox w T k 0 0 (.slice va j ca) ⟨#[]⟩ db dn dc d wr) (hR : GRow w j (.slice va j ca) ((ps.take j).map clip16) wr)
    (hx : ps[j]? = some x) (hX : clip16 x = X) (hown : w2.ownsRow w.heap.size 3 1 (.slice va2 (j + 1) ca2) (j + 1) (icells ((ps.take j).map clip16) ++ [.int .i64 X])) (hg : Gr w w2) (hgb : (wr.alloc (.cells #[.int .i64 X] 3)).grownBy w2 (Value.slice va j ca).ownBlock) :
    GIn w T dn dc k db d ps (j + 1) (w2.setCell ⟨T, 3, none⟩ (.slice va2 (j + 1) ca2)) ∧ (∃ cs, cs = #[.int .i64 k, .int .u8 0, .int .u8 0, .slice va j ca, .string ⟨#[]⟩, .slice db dn dc] ∧ w2.heap[T]? = some (.cells cs 65 (0, 0))) := by
  have h2 := hB.app hR hgb hg
  refine ⟨⟨va2, ca2, h2.set3 _, GRow.set ?_ h2.box _⟩, _, rfl, h2.box⟩
  unfold GRow
  have e : icells ((ps.take (j + 1)).map clip16) = icells ((ps.take j).map clip16) ++ [.int .i64 X] := by
    rw [List.take_add_one, hx, ← hX]; simp [icells]
  rw [e]
  exact hown
set_option maxRecDepth 100000 in
set_option maxHeartbeats 4000000 in
theorem rfun_walk {w : World} {k : Int} {s d : ByteArray} {a : Option Addr} {n c : Nat} {ps : List Int} (eight : Bool) (hk : k = 4 ∨ k = 5) (h : HasRow w 3 (.slice a n c) n (icells ps)) (hn : n ≤ 9223372036854775807) (hs : s.size ≤ 1000) (hd : d.size ≤ 100000) :
    Calls Tryz.prog 14 #[.bool eight, .int .i64 k, .string s, .string d, .slice a n c] w (RBOut w (ansR (funT k (nums s) ps (nums d)) eight)) := by
  have hlen : ps.length = n := by simpa [icells] using h.1
  have HN := Lib.hid hlen
  have HH := Lib.hid h
  have HK := Lib.hid hk
  have hg0 := Gr.refl w
  obtain ⟨A, hA⟩ : ∃ A, A = ansR (funT k (nums s) ps (nums d)) eight := ⟨_, rfl⟩
  rw [← hA]
  have HA := Lib.hid hA
  clear hlen h hk hA
  go_enter Tryz.func14, Tryz.ntmps14
  go_upto_region 2 with ((with_reducible refine wpList_s2bH rfl _ _ _ rfl Tryz.underlying9 bytesT Tryz.underlying5 d rfl ?_); intro dc w1 hrow hg1 hz1; clear hz1)
  have hF : GBox w w1.heap.size k 0 0 (.slice none 0 0) ⟨#[]⟩ (some ⟨w.heap.size, 0, none⟩) d.size dc (nums d) (w1.alloc (.cells #[.int .i64 k, .int .u8 0, .int .u8 0, .slice none 0 0, .string ⟨#[]⟩, .slice (some ⟨w.heap.size, 0, none⟩) d.size dc] 65)) :=
    ⟨heap_alloc_new w1 _, hrow.gr ((Gr.refl w1).alloc _), hg1.alloc _, hg1.size⟩
  obtain ⟨wA, hwA⟩ : ∃ wA, wA = w1.alloc (.cells #[.int .i64 k, .int .u8 0, .int .u8 0, .slice none 0 0, .string ⟨#[]⟩, .slice (some ⟨w.heap.size, 0, none⟩) d.size dc] 65) := ⟨_, rfl⟩
  rw [← hwA] at hF ⊢
  obtain ⟨T, hT⟩ : ∃ T, T = w1.heap.size := ⟨_, rfl⟩
  rw [← hT] at hF ⊢
  obtain ⟨db, hdb⟩ : ∃ db : Option Addr, db = some ⟨w.heap.size, 0, none⟩ := ⟨_, rfl⟩
  rw [← hdb] at hF
  obtain ⟨dn, hdn⟩ : ∃ dn, dn = d.size := ⟨_, rfl⟩
  rw [← hdn] at hF hd
  have HDN := Lib.hid hdn
  clear hwA hT hdb hdn hrow hg1 w1
  go_wp2_with fail
  go_loopw [12] (fun iv wr => ∃ j : Nat, iv = .int .i64 (j : Int) ∧ j ≤ n ∧ j ≤ 30 ∧ GIn w T dn dc k db (nums d) ps j wr) (fun iv _ => n - (intOf iv).toNat)
  case atStart => exact ⟨0, rfl, by omega, by omega, none, 0, hF, World.ownsRow_nil _ _ _ _⟩
  case round =>
    clear hF
    obtain ⟨j, rfl, hj, hj30, va, ca, hB, hR⟩ := hrel
    obtain ⟨t0, t1, t2, t3, t4, t5, tf⟩ := cells6 hB.box
    by_cases hlt : j < n ∧ j < 30
    · obtain ⟨h1, h2⟩ := hlt
      have h1' : (j : Int) < (n : Int) := by omega
      have h2' : (j : Int) < 30 := by omega
      obtain ⟨g, c', u, hv, hu, hcell⟩ := (HH.out.gr hB.gr).at_ h1
      injection hv with hv1 _ hv2
      subst hv1
      subst hv2
      obtain ⟨x, hx, rfl⟩ := icells_get hu
      by_cases hx0 : x < 0
      · have hX : clip16 x = 0 := by unfold clip16; rw [if_pos hx0]
        have hstep := fun va2 ca2 w2 => GIn.next (va2 := va2) (ca2 := ca2) (w2 := w2) hB hR hx hX
        have HS := Lib.hid hstep
        clear hx hX hu hstep
        go_wp2_with (at_builtin; (refine wpList_addX (w0 := w) rfl _ _ _ _ rfl 3 _ 8 intsT intI rfl _ j _ rfl (ownsRow_gr hR ((Gr.refl wr).alloc _)) (hB.gr.alloc _) _ 1 [.int .i64 0] rfl (src_block intsT _ (heap_alloc_new _ _) rfl (by simp [Value.oneCell'])) (by unfold maxLen; omega) (by omega) ?_); intro va2 ca2 w2 hown2 hg2 hgb2; obtain ⟨hn2, cs, hcs, hbx⟩ := HS.out va2 ca2 w2 hown2 hg2 hgb2; subst hcs; obtain ⟨t0, t1, t2, t3, t4, t5, tf⟩ := cells6 hbx)
        go_roundw
        case rel => exact ⟨j + 1, by go_num, by omega, by omega, hn2⟩
        case measure => simp [intOf]; omega
      · by_cases hx6 : 65535 < x
        · have hX : clip16 x = 65535 := by unfold clip16; rw [if_neg hx0, if_pos hx6]
          have hstep := fun va2 ca2 w2 => GIn.next (va2 := va2) (ca2 := ca2) (w2 := w2) hB hR hx hX
          have HS := Lib.hid hstep
          clear hx hX hu hstep
          go_wp2_with (at_builtin; (refine wpList_addX (w0 := w) rfl _ _ _ _ rfl 3 _ 8 intsT intI rfl _ j _ rfl (ownsRow_gr hR ((Gr.refl wr).alloc _)) (hB.gr.alloc _) _ 1 [.int .i64 65535] rfl (src_block intsT _ (heap_alloc_new _ _) rfl (by simp [Value.oneCell'])) (by unfold maxLen; omega) (by omega) ?_); intro va2 ca2 w2 hown2 hg2 hgb2; obtain ⟨hn2, cs, hcs, hbx⟩ := HS.out va2 ca2 w2 hown2 hg2 hgb2; subst hcs; obtain ⟨t0, t1, t2, t3, t4, t5, tf⟩ := cells6 hbx)
          go_roundw
          case rel => exact ⟨j + 1, by go_num, by omega, by omega, hn2⟩
          case measure => simp [intOf]; omega
        · have hX : clip16 x = x := by unfold clip16; rw [if_neg hx0, if_neg hx6]
          have hstep := fun va2 ca2 w2 => GIn.next (va2 := va2) (ca2 := ca2) (w2 := w2) hB hR hx hX
          have HS := Lib.hid hstep
          clear hx hX hu hstep
          go_wp2_with (at_builtin; (refine wpList_addX (w0 := w) rfl _ _ _ _ rfl 3 _ 8 intsT intI rfl _ j _ rfl (ownsRow_gr hR ((Gr.refl wr).alloc _)) (hB.gr.alloc _) _ 1 [.int .i64 x] rfl (src_block intsT _ (heap_alloc_new _ _) rfl (by simp [Value.oneCell'])) (by unfold maxLen; omega) (by omega) ?_); intro va2 ca2 w2 hown2 hg2 hgb2; obtain ⟨hn2, cs, hcs, hbx⟩ := HS.out va2 ca2 w2 hown2 hg2 hgb2; subst hcs; obtain ⟨t0, t1, t2, t3, t4, t5, tf⟩ := cells6 hbx)
          go_roundw
          case rel => exact ⟨j + 1, by go_num, by omega, by omega, hn2⟩
          case measure => simp [intOf]; omega
    · have hjm : j = min n 30 := by omega
      have e3 : (ps.take j).map clip16 = (ps.take 30).map clip16 := by
        rw [hjm]
        have := HN.out
        by_cases h : n ≤ 30
        · rw [List.take_of_length_le (by omega), List.take_of_length_le (by omega)]
        · congr 2; omega
      have hcases : ¬ j < n ∨ (j < n ∧ ¬ j < 30) := by omega
      obtain ⟨l, hl⟩ : ∃ l, l = (ps.take 30).map clip16 := ⟨_, rfl⟩
      rw [e3, ← hl] at hR
      have hjc : j ≤ ca ∧ ca ≤ maxLen := by
        rcases hR.2 with ⟨hv, hz⟩ | ⟨g, cap, cur, hv, _, _, h1, h2, _⟩
        · injection hv with _ h1 h2; subst h2; omega
        · injection hv with _ _ h3; subst h3; exact ⟨h1, h2⟩
      have hrng : TRange (funT k (nums s) ps (nums d)) := fun_range (nums_in s) (nums_in d)
      have hnone : s.size = 0 → A = [] := by
        intro h0
        have hn0 : nums s = [] := List.eq_nil_of_length_eq_zero (by rw [nums_len]; exact h0)
        rw [HA.out, hn0]
        exact if_neg (fun_none k ps (nums d) HK.out)
      obtain ⟨r, hr⟩ : ∃ r, r = checkR (funT k (nums s) ps (nums d)) := ⟨_, rfl⟩
      have hil : (restR (nums s)).dropLast.length ≤ 1000 := by
        have h1 : (restR (nums s)).length ≤ (nums s).length := by unfold restR; split <;> simp
        rw [nums_len] at h1
        rw [List.length_dropLast]; omega
      have hkit := finKit (w := w) (va := va) (db := db) (ca := ca) (dc := dc) (dn := dn) eight hrng rfl rfl rfl rfl rfl rfl hj30 hjc.2 hjc.1 hil hd
      simp only [funT] at hkit
      have hkit2 : FinKit w k ((restR (nums s)).getLastD 0) (markR (nums s)) va j ca l (strOf (restR (nums s)).dropLast) db dn dc (nums d) eight A r := by rw [hl, HA.out, hr]; exact hkit
      have HL := Lib.hid hl
      have HJ := Lib.hid hjm
      have HNO := Lib.hid hnone
      clear e3 hl hjm hlt hkit hr hrng hnone hil
      by_cases h0 : s.size = 0
      · have hA0 : A = [] := HNO.out h0
        subst hA0
        have hgr := hB.gr
        have h0' : ((s.size : Int) == 0) = true := by simp [h0]
        clear hkit2 HNO
        rcases hcases with hc1 | ⟨hc1, hc2⟩
        all_goals
          go_wp2_with fail
          go_ret
          exact ⟨.slice none 0 0, rfl, HasRow.nil _ _, hgr⟩
      · obtain ⟨m, hm⟩ : ∃ m, s.size = m + 1 := ⟨s.size - 1, by omega⟩
        have hs0 : 0 < s.size := by omega
        have hml : m < s.size := by omega
        obtain ⟨x, hx, ex⟩ : ∃ x : Int, (nums s)[0]? = some x ∧ ((s[0]'hs0).toNat : Int) = x := ⟨_, nums_at hs0, rfl⟩
        obtain ⟨y, hy, ey⟩ : ∃ y : Int, (nums s)[m]? = some y ∧ ((s[m]'hml).toNat : Int) = y := ⟨_, nums_at hml, rfl⟩
        have hmk := markB_at hx
        have hnl : (nums s).length = m + 1 := by rw [nums_len]; exact hm
        cases hmb : markB (nums s) with
        | true =>
          obtain ⟨hm1, hm2⟩ := markR_yes hmb hx
          have hx6 : 60 ≤ x ∧ x ≤ 63 ∧ 1 < m + 1 := by
            rw [hmb] at hmk
            have := hmk.symm
            simp only [Bool.and_eq_true, decide_eq_true_eq] at this
            rw [hnl] at this; exact this
          obtain ⟨x60, x63, xm⟩ := hx6
          have hlast : (restR (nums s)).getLastD 0 = y := by
            rw [hm2, List.getLastD_eq_getLast?, List.getLast?_eq_getElem?, List.length_drop, hnl, List.getElem?_drop, show 1 + (m + 1 - 1 - 1) = m by omega, hy]; rfl
          have hint : strOf (restR (nums s)).dropLast = s.extract 1 m := by
            rw [strOf_ext, hm2, List.dropLast_eq_take, List.length_drop, hnl]; rfl
          rw [hm1, hlast, hint] at hkit2
          have HK2 := Lib.hid hkit2
          clear hmk hm1 hm2 hmb hx hy hlast hint hkit2 h0 hnl
          have hB2 := ((hB.set2 x).set4 (s.extract 1 m)).set1 y
          have hR2 := GRow.set (o := 1) (GRow.set (o := 4) (GRow.set (o := 2) hR hB.box (.int .u8 x)) (hB.set2 x).box (.string (s.extract 1 m))) ((hB.set2 x).set4 (s.extract 1 m)).box (.int .u8 y)
          have hI2 := HasRow.of_own hR2
          have xm0 : 1 ≤ m := by omega
          have xmI : (1 : Int) ≤ (m : Int) := by omega
          have xmJ : (1 : Int) < (s.size : Int) := by omega
          by_cases hr0 : r = 0
          · subst hr0
            rcases hcases with hc1 | ⟨hc1, hc2⟩
            all_goals
              go_wp2_with (first
                | (go_at_call 26; (with_reducible refine (HK2.out.check _ hB2.gr hI2 hB2.data).mono ?_); rintro e w3 ⟨rfl, hg3⟩; obtain ⟨t0, t1, t2, t3, t4, t5, tf⟩ := cells6 (hg3.blk hB2.box); have hB3gr := hB2.gr.trans hg3; have hI3 := hI2.gr hg3; have hD3 := hB2.data.gr hg3)
                | (go_at_call 27; (with_reducible refine (HK2.out.bytes rfl _ hB3gr hI3 hD3).mono ?_); rintro e w4 ⟨v, rfl, hv, hg4⟩))
              go_ret
              exact ⟨v, rfl, hv, hB3gr.trans hg4⟩
          · have hA0 := HK2.out.none hr0
            have hrb : (r != 0) = true := by simpa using hr0
            subst hA0
            clear HNO hr0
            rcases hcases with hc1 | ⟨hc1, hc2⟩
            all_goals
              go_wp2_with (go_at_call 26; (with_reducible refine (HK2.out.check _ hB2.gr hI2 hB2.data).mono ?_); rintro e w3 ⟨rfl, hg3⟩; obtain ⟨t0, t1, t2, t3, t4, t5, tf⟩ := cells6 (hg3.blk hB2.box); have hB3gr := hB2.gr.trans hg3)
              go_ret
              exact ⟨.slice none 0 0, rfl, HasRow.nil _ _, hB3gr⟩
        | false =>
          obtain ⟨hm1, hm2⟩ := markR_no hmb
          have hlast : (restR (nums s)).getLastD 0 = y := by
            rw [hm2, List.getLastD_eq_getLast?, List.getLast?_eq_getElem?, hnl, Nat.add_sub_cancel, hy]; rfl
          have hint : strOf (restR (nums s)).dropLast = s.extract 0 m := by
            rw [strOf_ext, hm2, List.dropLast_eq_take, hnl]; rfl
          rw [hm1, hlast, hint] at hkit2
          have HK2 := Lib.hid hkit2
          have hno : ¬ 0 < m ∨ (0 < m ∧ x < 60) ∨ (0 < m ∧ 60 ≤ x ∧ 63 < x) := by
            rw [hmb] at hmk
            have := hmk.symm
            simp only [Bool.and_eq_false_iff, decide_eq_false_iff_not] at this
            rw [hnl] at this; omega
          clear hmk hm1 hm2 hmb hx hy hlast hint hkit2 h0 hnl
          have hB2 := (hB.set4 (s.extract 0 m)).set1 y
          have hR2 := GRow.set (o := 1) (GRow.set (o := 4) hR hB.box (.string (s.extract 0 m))) (hB.set4 (s.extract 0 m)).box (.int .u8 y)
          have hI2 := HasRow.of_own hR2
          by_cases hr0 : r = 0
          · subst hr0
            rcases hcases with hc1 | ⟨hc1, hc2⟩ <;> rcases hno with hm0 | ⟨hm0, hx1⟩ | ⟨hm0, hx1, hx2⟩
            all_goals
              go_wp2_with (first
                | (go_at_call 26; (with_reducible refine (HK2.out.check _ hB2.gr hI2 hB2.data).mono ?_); rintro e w3 ⟨rfl, hg3⟩; obtain ⟨t0, t1, t2, t3, t4, t5, tf⟩ := cells6 (hg3.blk hB2.box); have hB3gr := hB2.gr.trans hg3; have hI3 := hI2.gr hg3; have hD3 := hB2.data.gr hg3)
                | (go_at_call 27; (with_reducible refine (HK2.out.bytes rfl _ hB3gr hI3 hD3).mono ?_); rintro e w4 ⟨v, rfl, hv, hg4⟩))
              go_ret
              exact ⟨v, rfl, hv, hB3gr.trans hg4⟩
          · have hA0 := HK2.out.none hr0
            have hrb : (r != 0) = true := by simpa using hr0
            subst hA0
            clear HNO hr0
            rcases hcases with hc1 | ⟨hc1, hc2⟩ <;> rcases hno with hm0 | ⟨hm0, hx1⟩ | ⟨hm0, hx1, hx2⟩
            all_goals
              go_wp2_with (go_at_call 26; (with_reducible refine (HK2.out.check _ hB2.gr hI2 hB2.data).mono ?_); rintro e w3 ⟨rfl, hg3⟩; obtain ⟨t0, t1, t2, t3, t4, t5, tf⟩ := cells6 (hg3.blk hB2.box); have hB3gr := hB2.gr.trans hg3)
              go_ret
              exact ⟨.slice none 0 0, rfl, HasRow.nil _ _, hB3gr⟩
end Go.Proofs.YtonbnmicgmnliaaGreatDoor
