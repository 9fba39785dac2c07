/-
  The law PhosphorKeyed, walked (gen_pkc.py).
-/
import Derived.ChangeArms
import Derived.MakeChecks
import Derived.OpenShut
import Derived.Test.YtnnhaenmoifplaaDoorRows
import Derived.WideShapes
import Derived.Test.YtnnhaenmoifplaaDoorZLw4
import Derived.Test.YtnnhaenmoifplaaDoorZSs
import Derived.Test.YtnnhaenmoifplaaDoorZPkB
namespace Go.Proofs.YtnnhaenmoifplaaDoor
set_option linter.unusedSimpArgs false
set_option linter.unusedVariables false
open Go.ChangeShapes Go.WideShapes Go.RowKit
set_option linter.unusedVariables false

def curZ (k : Int) : Bool := decide (5 ≤ k) && decide (k ≤ 8)
/-- What may begin a sequence. -/
def skipZ (e : Ev) (lv : Int) : Bool := ((e.k == 4) || ((e.k == 16) && decide (lv < 2))) || ((e.k == 0) && e.ct)
theorem skip_f {e : Ev} {lv : Int} (h : skipZ e lv = false) : e.k ≠ 4 ∧ ¬ (e.k = 16 ∧ lv < 2) ∧ ¬ (e.k = 0 ∧ e.ct = true) := by
  unfold skipZ at h
  simp only [Bool.or_eq_false_iff, Bool.and_eq_false_iff, beq_eq_false_iff_ne, decide_eq_false_iff_not] at h
  obtain ⟨⟨h1, h2⟩, h3⟩ := h
  refine ⟨h1, fun h => ?_, fun h => ?_⟩
  · rcases h2 with h2 | h2
    · exact h2 h.1
    · exact h2 h.2
  · rcases h3 with h3 | h3
    · exact h3 h.1
    · rw [h.2] at h3; cases h3
def ev0 : Ev := ⟨0, 0, false, false⟩
def evC (e : Ev) : List Value := [.int .i64 e.k, .int .u8 e.c, .bool e.sh, .bool e.ct]
set_option maxRecDepth 100000 in
set_option maxHeartbeats 4000000 in
theorem cursor_any (k : Int) (w : World) : Calls Tryd.prog 8 #[.int .i64 k] w fun e w' => e = .returned (.bool (curZ k)) ∧ Gr w w' := by
  refine calls_sx (n := 9) (args := [.int .i64 k]) Tryd.func8 rfl rfl rfl ?_
  have hs0 := Bk.init w
  refine CW.seq ?_
  refine CW.region ?_
  refine SL.v (.bool false) ?_
  refine SL.nil ?_
  refine CW.seq ?_
  refine CW.region ?_
  refine SL.v (.int .i64 k) ?_
  refine SL.v (.bool (decide (5 ≤ k))) ?_
  refine SL.v (.bool (decide (5 ≤ k))) ?_
  rcases Bool.eq_false_or_eq_true (decide (5 ≤ k)) with hb_1 | hb_1
  · try rw [hb_1]
    have hqhb_1 := of_decide_eq_true hb_1
    refine SL.go ?_
    refine SL.v (.int .i64 k) ?_
    refine SL.go ?_
    refine SL.v (.bool (decide (k ≤ 8))) ?_
    refine SL.v (.bool (decide (k ≤ 8))) ?_
    refine SL.v (.bool (decide (k ≤ 8))) ?_
    refine SL.nil ?_
    refine CW.ret ?_
    repeat with_reducible first | refine PThen.ret ?_ | refine PBlock.ret ?_
    refine PRet.tmp (t := 2) (v := .bool (decide (k ≤ 8))) rfl rfl (by kernel_rfl) ?_
    exact ⟨by unfold curZ; (try rw [hb_1]); rfl, hs0.gr⟩
  · try rw [hb_1]
    have hqhb_1 := of_decide_eq_false hb_1
    refine SL.no false ?_
    refine SL.no false ?_
    refine SL.v (.bool false) ?_
    refine SL.v (.bool false) ?_
    refine SL.nil ?_
    refine CW.ret ?_
    repeat with_reducible first | refine PThen.ret ?_ | refine PBlock.ret ?_
    refine PRet.tmp (t := 2) (v := .bool false) rfl rfl (by kernel_rfl) ?_
    exact ⟨by unfold curZ; (try rw [hb_1]); rfl, hs0.gr⟩
set_option maxRecDepth 100000 in
set_option maxHeartbeats 4000000 in
theorem own22_any (E : Ev) (w : World) : Calls Tryd.prog 5 #[.agg #[.int .i64 E.k, .int .u8 E.c, .bool E.sh, .bool E.ct]] w fun e w' => e = .returned (.agg #[.int .i64 E.k, .int .u8 E.c, .bool E.sh, .bool E.ct]) ∧ Gr w w' := by
  refine calls_sx (n := 12) (args := [.agg #[.int .i64 E.k, .int .u8 E.c, .bool E.sh, .bool E.ct]]) Tryd.func5 rfl rfl rfl ?_
  have hs0 := Bk.init w
  refine CW.seq ?_
  refine CW.region ?_
  refine SL.new (mk := fun g => .pointer (some ⟨g, 0, none⟩)) (C := #[.int .i64 E.k, .int .u8 E.c, .bool E.sh, .bool E.ct]) (T := 40) hs0 rfl rfl (by kernel_rfl) (fun g_1 w_2 hs_3 => ?_)
  have hs_3 : Bk w w_2 [(g_1, .cells #[.int .i64 E.k, .int .u8 E.c, .bool E.sh, .bool E.ct] 40 (0, 0))] := hs_3
  refine SL.new (mk := fun g => .pointer (some ⟨g, 0, none⟩)) (C := #[.int .i64 0, .int .u8 0, .bool false, .bool false]) (T := 42) hs_3 rfl rfl (by kernel_rfl) (fun g_4 w_5 hs_6 => ?_)
  have hs_6 : Bk w w_5 [(g_1, .cells #[.int .i64 E.k, .int .u8 E.c, .bool E.sh, .bool E.ct] 40 (0, 0)), (g_4, .cells #[.int .i64 0, .int .u8 0, .bool false, .bool false] 42 (0, 0))] := hs_6
  refine SL.nil ?_
  refine CW.seq ?_
  refine CW.region ?_
  refine SL.v (.pointer (some ⟨g_1, 0, none⟩)) ?_
  refine SL.load (g := g_1) (off := 0) (v := .int .i64 E.k) rfl rfl rfl (by kernel_rfl) (hs_6.all 0 g_1 _ rfl) (by kernel_rfl) ?_
  refine SL.v (.pointer (some ⟨g_1, 1, none⟩)) ?_
  refine SL.load (g := g_1) (off := 1) (v := .int .u8 E.c) rfl rfl rfl (by kernel_rfl) (hs_6.all 0 g_1 _ rfl) (by kernel_rfl) ?_
  refine SL.v (.pointer (some ⟨g_1, 2, none⟩)) ?_
  refine SL.load (g := g_1) (off := 2) (v := .bool E.sh) rfl rfl rfl (by kernel_rfl) (hs_6.all 0 g_1 _ rfl) (by kernel_rfl) ?_
  refine SL.v (.pointer (some ⟨g_1, 3, none⟩)) ?_
  refine SL.load (g := g_1) (off := 3) (v := .bool E.ct) rfl rfl rfl (by kernel_rfl) (hs_6.all 0 g_1 _ rfl) (by kernel_rfl) ?_
  refine SL.v (.agg #[.int .i64 E.k, .int .u8 E.c, .bool E.sh, .bool E.ct]) ?_
  refine SL.store (i := 1) (g := g_4) (off := 0) (v := .agg #[.int .i64 E.k, .int .u8 E.c, .bool E.sh, .bool E.ct]) (L' := [(g_1, .cells #[.int .i64 E.k, .int .u8 E.c, .bool E.sh, .bool E.ct] 40 (0, 0)), (g_4, .cells #[.int .i64 E.k, .int .u8 E.c, .bool E.sh, .bool E.ct] 42 (0, 0))]) hs_6 rfl rfl rfl (by kernel_rfl) (by kernel_rfl) rfl (by kernel_rfl) (by kernel_rfl) rfl (by kernel_rfl) rfl (fun w_7 hs_8 => ?_)
  refine SL.nil ?_
  refine CW.ret ?_
  repeat with_reducible first | refine PThen.ret ?_ | refine PBlock.ret ?_
  refine PRet.cell (t := 2) (ty := 42) (g := g_4) (v := .agg #[.int .i64 E.k, .int .u8 E.c, .bool E.sh, .bool E.ct]) rfl rfl (by kernel_rfl) (hs_8.all 1 g_4 _ rfl) (by kernel_rfl) ?_
  exact ⟨rfl, hs_8.gr⟩
set_option maxRecDepth 100000 in
set_option maxHeartbeats 8000000 in
theorem keyed_0 (a : Option Addr) (cp : Nat) (m : BitVec 32) (lv : Int) (ei : Bool) (s : ByteArray) (w : World) (hT : tabT w) : Calls Tryd.prog 3 #[.slice a 0 cp, .agg #[.int .u32 (m.toNat : Int), .int .i64 lv, .bool ei, .string s]] w fun e w' => e = .returned (.bool true) ∧ Gr w w' := by
  refine calls_sx (n := 109) (args := [.slice a 0 cp, .agg #[.int .u32 (m.toNat : Int), .int .i64 lv, .bool ei, .string s]]) Tryd.func3 rfl rfl rfl ?_
  have hs0 := SH.none w
  refine CW.seq ?_
  refine CW.region ?_
  refine SL.newH (mk := fun g => .pointer (some ⟨g, 0, none⟩)) (C := #[.int .u32 (m.toNat : Int), .int .i64 lv, .bool ei, .string s]) (T := 26) hs0 rfl rfl (by kernel_rfl) (fun g_1 w_2 hs_3 => ?_)
  have hs_3 : SH [] w w_2 [pt g_1 #[.int .u32 (m.toNat : Int), .int .i64 lv, .bool ei, .string s] 26] := hs_3
  refine SL.v (.bool false) ?_
  refine SL.nil ?_
  refine CW.seq ?_
  refine CW.region ?_
  refine SL.newH (mk := fun g => .pointer (some ⟨g, 0, none⟩)) (C := #[.string ⟨#[]⟩, .string ⟨#[]⟩, .string ⟨#[]⟩, .string ⟨#[]⟩, .string ⟨#[]⟩, .string ⟨#[]⟩, .string ⟨#[]⟩, .string ⟨#[]⟩, .string ⟨#[]⟩, .string ⟨#[]⟩, .string ⟨#[]⟩, .string ⟨#[]⟩, .string ⟨#[]⟩, .string ⟨#[]⟩, .string ⟨#[]⟩, .string ⟨#[]⟩, .string ⟨#[]⟩, .string ⟨#[]⟩, .bool false]) (T := 29) hs_3 rfl rfl (by kernel_rfl) (fun g_4 w_5 hs_6 => ?_)
  have hs_6 : SH [] w w_5 [pt g_1 #[.int .u32 (m.toNat : Int), .int .i64 lv, .bool ei, .string s] 26, pt g_4 #[.string ⟨#[]⟩, .string ⟨#[]⟩, .string ⟨#[]⟩, .string ⟨#[]⟩, .string ⟨#[]⟩, .string ⟨#[]⟩, .string ⟨#[]⟩, .string ⟨#[]⟩, .string ⟨#[]⟩, .string ⟨#[]⟩, .string ⟨#[]⟩, .string ⟨#[]⟩, .string ⟨#[]⟩, .string ⟨#[]⟩, .string ⟨#[]⟩, .string ⟨#[]⟩, .string ⟨#[]⟩, .string ⟨#[]⟩, .bool false] 29] := hs_6
  refine SL.nil ?_
  refine CW.seq ?_
  refine CW.region ?_
  refine SL.newH (mk := fun g => .pointer (some ⟨g, 0, none⟩)) (C := #[.int .i64 0, .int .i64 0, .int .u8 0, .int .u8 0, .slice none 0 0, .string ⟨#[]⟩, .slice none 0 0, .slice none 0 0, .slice none 0 0, .int .i64 0, .bool false, .bool false, .bool false]) (T := 38) hs_6 rfl rfl (by kernel_rfl) (fun g_7 w_8 hs_9 => ?_)
  have hs_9 : SH [] w w_8 [pt g_1 #[.int .u32 (m.toNat : Int), .int .i64 lv, .bool ei, .string s] 26, pt g_4 #[.string ⟨#[]⟩, .string ⟨#[]⟩, .string ⟨#[]⟩, .string ⟨#[]⟩, .string ⟨#[]⟩, .string ⟨#[]⟩, .string ⟨#[]⟩, .string ⟨#[]⟩, .string ⟨#[]⟩, .string ⟨#[]⟩, .string ⟨#[]⟩, .string ⟨#[]⟩, .string ⟨#[]⟩, .string ⟨#[]⟩, .string ⟨#[]⟩, .string ⟨#[]⟩, .string ⟨#[]⟩, .string ⟨#[]⟩, .bool false] 29, pt g_7 #[.int .i64 0, .int .i64 0, .int .u8 0, .int .u8 0, .slice none 0 0, .string ⟨#[]⟩, .slice none 0 0, .slice none 0 0, .slice none 0 0, .int .i64 0, .bool false, .bool false, .bool false] 38] := hs_9
  refine SL.nil ?_
  refine CW.seq ?_
  refine CW.seq ?_
  refine CW.region ?_
  refine SL.v (.int .i64 0) ?_
  refine SL.nil ?_
  refine CW.block ?_
  refine CW.loopN 1 ?_
  refine CR.more ?_
  refine CW.seq ?_
  refine CW.seq ?_
  refine CW.region ?_
  refine SL.v (.int .i64 0) ?_
  refine SL.v (.slice a 0 cp) ?_
  refine SL.val (v := .int .i64 0) (w' := w_8) rfl rfl (by kernel_rfl) ?_
  refine SL.v (.bool false) ?_
  refine SL.v (.bool false) ?_
  refine SL.no false ?_
  refine SL.no false ?_
  refine SL.v (.bool false) ?_
  refine SL.nil ?_
  refine CW.cond_false (by kernel_rfl) ?_
  refine CW.exit ?_
  repeat with_reducible first | refine PThen.exit ?_ | refine PBlock.out rfl ?_
  with_reducible refine PBlock.here ?_
  repeat with_reducible refine PBlock.normal ?_
  refine CW.seq ?_
  refine CW.region ?_
  refine SL.v (.bool true) ?_
  refine SL.nil ?_
  refine CW.ret ?_
  repeat with_reducible first | refine PThen.ret ?_ | refine PBlock.ret ?_
  refine PRet.tmp (t := 4) (v := .bool true) rfl rfl (by kernel_rfl) ?_
  exact ⟨rfl, hs_9.gr⟩
set_option maxRecDepth 100000 in
set_option maxHeartbeats 8000000 in
theorem keyed_n (b off cp : Nat) (C : Array Value) (T : TypeId) (fr : Nat × Nat) (evs : List Ev) (m : BitVec 32) (lv : Int) (ei : Bool) (s : ByteArray) (w : World) (hT : tabT w) (hb0 : w.heap[b]? = some (.cells C T fr)) (hev : ∀ i, i < evs.length → (C.toList.drop (off + i * 4)).take 4 = evC (evs.getD i ev0) ∧ 0 ≤ (evs.getD i ev0).c ∧ (evs.getD i ev0).c < 256) (hbig : evs.length ≤ 9223372036854775807) : Calls Tryd.prog 3 #[.slice (some ⟨b, off, none⟩) evs.length cp, .agg #[.int .u32 (m.toNat : Int), .int .i64 lv, .bool ei, .string s]] w fun e w' => e = .returned (.bool true) ∧ Gr w w' := by
  refine calls_sx (n := 109) (args := [.slice (some ⟨b, off, none⟩) evs.length cp, .agg #[.int .u32 (m.toNat : Int), .int .i64 lv, .bool ei, .string s]]) Tryd.func3 rfl rfl rfl ?_
  have hs0 := SH.none w
  refine CW.seq ?_
  refine CW.region ?_
  refine SL.newH (mk := fun g => .pointer (some ⟨g, 0, none⟩)) (C := #[.int .u32 (m.toNat : Int), .int .i64 lv, .bool ei, .string s]) (T := 26) hs0 rfl rfl (by kernel_rfl) (fun g_1 w_2 hs_3 => ?_)
  have hs_3 : SH [] w w_2 [pt g_1 #[.int .u32 (m.toNat : Int), .int .i64 lv, .bool ei, .string s] 26] := hs_3
  refine SL.v (.bool false) ?_
  refine SL.nil ?_
  refine CW.seq ?_
  refine CW.region ?_
  refine SL.newH (mk := fun g => .pointer (some ⟨g, 0, none⟩)) (C := #[.string ⟨#[]⟩, .string ⟨#[]⟩, .string ⟨#[]⟩, .string ⟨#[]⟩, .string ⟨#[]⟩, .string ⟨#[]⟩, .string ⟨#[]⟩, .string ⟨#[]⟩, .string ⟨#[]⟩, .string ⟨#[]⟩, .string ⟨#[]⟩, .string ⟨#[]⟩, .string ⟨#[]⟩, .string ⟨#[]⟩, .string ⟨#[]⟩, .string ⟨#[]⟩, .string ⟨#[]⟩, .string ⟨#[]⟩, .bool false]) (T := 29) hs_3 rfl rfl (by kernel_rfl) (fun g_4 w_5 hs_6 => ?_)
  have hs_6 : SH [] w w_5 [pt g_1 #[.int .u32 (m.toNat : Int), .int .i64 lv, .bool ei, .string s] 26, pt g_4 #[.string ⟨#[]⟩, .string ⟨#[]⟩, .string ⟨#[]⟩, .string ⟨#[]⟩, .string ⟨#[]⟩, .string ⟨#[]⟩, .string ⟨#[]⟩, .string ⟨#[]⟩, .string ⟨#[]⟩, .string ⟨#[]⟩, .string ⟨#[]⟩, .string ⟨#[]⟩, .string ⟨#[]⟩, .string ⟨#[]⟩, .string ⟨#[]⟩, .string ⟨#[]⟩, .string ⟨#[]⟩, .string ⟨#[]⟩, .bool false] 29] := hs_6
  refine SL.nil ?_
  refine CW.seq ?_
  refine CW.region ?_
  refine SL.newH (mk := fun g => .pointer (some ⟨g, 0, none⟩)) (C := #[.int .i64 0, .int .i64 0, .int .u8 0, .int .u8 0, .slice none 0 0, .string ⟨#[]⟩, .slice none 0 0, .slice none 0 0, .slice none 0 0, .int .i64 0, .bool false, .bool false, .bool false]) (T := 38) hs_6 rfl rfl (by kernel_rfl) (fun g_7 w_8 hs_9 => ?_)
  have hs_9 : SH [] w w_8 [pt g_1 #[.int .u32 (m.toNat : Int), .int .i64 lv, .bool ei, .string s] 26, pt g_4 #[.string ⟨#[]⟩, .string ⟨#[]⟩, .string ⟨#[]⟩, .string ⟨#[]⟩, .string ⟨#[]⟩, .string ⟨#[]⟩, .string ⟨#[]⟩, .string ⟨#[]⟩, .string ⟨#[]⟩, .string ⟨#[]⟩, .string ⟨#[]⟩, .string ⟨#[]⟩, .string ⟨#[]⟩, .string ⟨#[]⟩, .string ⟨#[]⟩, .string ⟨#[]⟩, .string ⟨#[]⟩, .string ⟨#[]⟩, .bool false] 29, pt g_7 #[.int .i64 0, .int .i64 0, .int .u8 0, .int .u8 0, .slice none 0 0, .string ⟨#[]⟩, .slice none 0 0, .slice none 0 0, .slice none 0 0, .int .i64 0, .bool false, .bool false, .bool false] 38] := hs_9
  refine SL.nil ?_
  refine CW.seq ?_
  refine CW.seq ?_
  refine CW.region ?_
  refine SL.v (.int .i64 0) ?_
  refine SL.nil ?_
  refine CW.block ?_
  have hs_10 : SH [] w w_8 [pt g_1 #[.int .u32 (m.toNat : Int), .int .i64 lv, .bool ei, .string s] 26, pt g_4 #[.string ⟨#[]⟩, .string ⟨#[]⟩, .string ⟨#[]⟩, .string ⟨#[]⟩, .string ⟨#[]⟩, .string ⟨#[]⟩, .string ⟨#[]⟩, .string ⟨#[]⟩, .string ⟨#[]⟩, .string ⟨#[]⟩, .string ⟨#[]⟩, .string ⟨#[]⟩, .string ⟨#[]⟩, .string ⟨#[]⟩, .string ⟨#[]⟩, .string ⟨#[]⟩, .string ⟨#[]⟩, .string ⟨#[]⟩, .bool false] 29, parH g_7] := hs_9.toPar (i := 2) rfl rfl
  refine CW.loopI (fun m_ e9 w9 => ∃ (k : Nat), m_ = evs.length - k ∧ SH [] w w9 [pt g_1 #[.int .u32 (m.toNat : Int), .int .i64 lv, .bool ei, .string s] 26, pt g_4 #[.string ⟨#[]⟩, .string ⟨#[]⟩, .string ⟨#[]⟩, .string ⟨#[]⟩, .string ⟨#[]⟩, .string ⟨#[]⟩, .string ⟨#[]⟩, .string ⟨#[]⟩, .string ⟨#[]⟩, .string ⟨#[]⟩, .string ⟨#[]⟩, .string ⟨#[]⟩, .string ⟨#[]⟩, .string ⟨#[]⟩, .string ⟨#[]⟩, .string ⟨#[]⟩, .string ⟨#[]⟩, .string ⟨#[]⟩, .bool false] 29, parH g_7] ∧ (k ≤ evs.length) ∧ e9 0 = .slice (some ⟨b, off, none⟩) evs.length cp ∧ e9 3 = .pointer (some ⟨g_1, 0, none⟩) ∧ e9 4 = .bool false ∧ e9 5 = .pointer (some ⟨g_4, 0, none⟩) ∧ e9 6 = .pointer (some ⟨g_7, 0, none⟩) ∧ e9 7 = .int .i64 ((k : Nat) : Int)) ⟨_, 0, rfl, hs_10, (Nat.zero_le _), (by kernel_rfl), (by kernel_rfl), (by kernel_rfl), (by kernel_rfl), (by kernel_rfl), (by kernel_rfl)⟩ ?_
  rintro m_11 e_12 w_13 ⟨k, hm_15, hs_14, hk, hv_16, hv_17, hv_18, hv_19, hv_20, hv_21⟩
  obtain ⟨e_22, rfl⟩ : ∃ e_22, e_12 = put1 (put1 (put1 (put1 (put1 (put1 e_22 0 (.slice (some ⟨b, off, none⟩) evs.length cp)) 3 (.pointer (some ⟨g_1, 0, none⟩))) 4 (.bool false)) 5 (.pointer (some ⟨g_4, 0, none⟩))) 6 (.pointer (some ⟨g_7, 0, none⟩))) 7 (.int .i64 ((k : Nat) : Int)) := ⟨e_12, (put_self hv_21).trans (congrArg (fun z => put1 z 7 (.int .i64 ((k : Nat) : Int))) ((put_self hv_20).trans (congrArg (fun z => put1 z 6 (.pointer (some ⟨g_7, 0, none⟩))) ((put_self hv_19).trans (congrArg (fun z => put1 z 5 (.pointer (some ⟨g_4, 0, none⟩))) ((put_self hv_18).trans (congrArg (fun z => put1 z 4 (.bool false)) ((put_self hv_17).trans (congrArg (fun z => put1 z 3 (.pointer (some ⟨g_1, 0, none⟩))) (put_self hv_16))))))))))⟩
  clear hv_16 hv_17 hv_18 hv_19 hv_20 hv_21
  obtain ⟨E, hE⟩ : ∃ E, E = evs.getD k ev0 := ⟨_, rfl⟩
  have hld : k < evs.length → (C.toList.drop (off + (k * 4))).take 4 = evC E := fun h_ => by rw [hE]; exact (hev k h_).1
  have hcE : 0 ≤ E.c ∧ E.c < 256 := by
    by_cases h_ : k < evs.length
    · rw [hE]; exact (hev k h_).2
    · rw [hE, List.getD_eq_getElem?_getD, List.getElem?_eq_none (by omega)]; decide
  clear hE
  refine CW.seq ?_
  refine CW.seq ?_
  refine CW.region ?_
  refine SL.v (.int .i64 ((k : Nat) : Int)) ?_
  refine SL.v (.slice (some ⟨b, off, none⟩) evs.length cp) ?_
  refine SL.val (v := .int .i64 ((evs.length : Nat) : Int)) (w' := w_13) rfl rfl (by kernel_rfl) ?_
  refine SL.v (.bool (decide (((k : Nat) : Int) < ((evs.length : Nat) : Int)))) ?_
  refine SL.v (.bool (decide (((k : Nat) : Int) < ((evs.length : Nat) : Int)))) ?_
  rcases Bool.eq_false_or_eq_true (decide (((k : Nat) : Int) < ((evs.length : Nat) : Int))) with hb_23 | hb_23
  · try rw [hb_23]
    have hqhb_23 := of_decide_eq_true hb_23
    refine SL.go ?_
    refine SL.v (.int .i64 ((k : Nat) : Int)) ?_
    refine SL.go ?_
    refine SL.v (.bool (decide (((k : Nat) : Int) < 40))) ?_
    refine SL.v (.bool (decide (((k : Nat) : Int) < 40))) ?_
    refine SL.nil ?_
    rcases Bool.eq_false_or_eq_true (decide (((k : Nat) : Int) < 40)) with hb_24 | hb_24
    · try rw [hb_24]
      have hqhb_24 := of_decide_eq_true hb_24
      refine CW.cond_true (by kernel_rfl) ?_
      refine CW.skip ?_
      refine CW.seq ?_
      refine CW.block ?_
      refine CW.seq ?_
      refine CW.region ?_
      refine SL.v (.slice (some ⟨b, off, none⟩) evs.length cp) ?_
      refine SL.v (.int .i64 ((k : Nat) : Int)) ?_
      refine SL.val (v := .pointer (some ⟨b, off + (k * 4), none⟩)) (w' := w_13) rfl rfl ((run_ix (len := evs.length) (cap := cp) (q := .i64) (I := ((k : Nat) : Int)) (g := b) (off := off) (i := k) (size := 4) rfl (by kernel_rfl) (by kernel_rfl) rfl (by kernel_rfl) (by kernel_rfl) (by omega)).trans (by rw [show off + k * 4 = off + (k * 4) from by omega])) ?_
      refine SL.load (g := b) (off := off + (k * 4)) (v := .agg #[.int .i64 E.k, .int .u8 E.c, .bool E.sh, .bool E.ct]) rfl rfl rfl (by kernel_rfl) (hs_14.gr.blk hb0) (ldV_row (k := 4) (by kernel_rfl) (by kernel_rfl) (hld (by omega)) rfl rfl) ?_
      refine SL.newH (mk := fun g => .pointer (some ⟨g, 0, none⟩)) (C := #[.int .i64 0, .int .u8 0, .bool false, .bool false]) (T := 40) hs_14 rfl rfl (by kernel_rfl) (fun g_25 w_26 hs_27 => ?_)
      have hs_27 : SH [] w w_26 [pt g_1 #[.int .u32 (m.toNat : Int), .int .i64 lv, .bool ei, .string s] 26, pt g_4 #[.string ⟨#[]⟩, .string ⟨#[]⟩, .string ⟨#[]⟩, .string ⟨#[]⟩, .string ⟨#[]⟩, .string ⟨#[]⟩, .string ⟨#[]⟩, .string ⟨#[]⟩, .string ⟨#[]⟩, .string ⟨#[]⟩, .string ⟨#[]⟩, .string ⟨#[]⟩, .string ⟨#[]⟩, .string ⟨#[]⟩, .string ⟨#[]⟩, .string ⟨#[]⟩, .string ⟨#[]⟩, .string ⟨#[]⟩, .bool false] 29, parH g_7, pt g_25 #[.int .i64 0, .int .u8 0, .bool false, .bool false] 40] := hs_27
      refine SL.storeH (i := 3) (g := g_25) (off := 0) (v := .agg #[.int .i64 E.k, .int .u8 E.c, .bool E.sh, .bool E.ct]) (L' := [pt g_1 #[.int .u32 (m.toNat : Int), .int .i64 lv, .bool ei, .string s] 26, pt g_4 #[.string ⟨#[]⟩, .string ⟨#[]⟩, .string ⟨#[]⟩, .string ⟨#[]⟩, .string ⟨#[]⟩, .string ⟨#[]⟩, .string ⟨#[]⟩, .string ⟨#[]⟩, .string ⟨#[]⟩, .string ⟨#[]⟩, .string ⟨#[]⟩, .string ⟨#[]⟩, .string ⟨#[]⟩, .string ⟨#[]⟩, .string ⟨#[]⟩, .string ⟨#[]⟩, .string ⟨#[]⟩, .string ⟨#[]⟩, .bool false] 29, parH g_7, pt g_25 #[.int .i64 E.k, .int .u8 E.c, .bool E.sh, .bool E.ct] 40]) hs_27 rfl rfl rfl (by kernel_rfl) (by kernel_rfl) rfl (by kernel_rfl) (by kernel_rfl) rfl (by kernel_rfl) rfl (fun w_28 hs_29 => ?_)
      refine SL.nil ?_
      refine CW.seq ?_
      refine CW.seq ?_
      refine CW.mid (fun e9 w9 => SH [] w w9 [pt g_1 #[.int .u32 (m.toNat : Int), .int .i64 lv, .bool ei, .string s] 26, pt g_4 #[.string ⟨#[]⟩, .string ⟨#[]⟩, .string ⟨#[]⟩, .string ⟨#[]⟩, .string ⟨#[]⟩, .string ⟨#[]⟩, .string ⟨#[]⟩, .string ⟨#[]⟩, .string ⟨#[]⟩, .string ⟨#[]⟩, .string ⟨#[]⟩, .string ⟨#[]⟩, .string ⟨#[]⟩, .string ⟨#[]⟩, .string ⟨#[]⟩, .string ⟨#[]⟩, .string ⟨#[]⟩, .string ⟨#[]⟩, .bool false] 29, parH g_7, pt g_25 #[.int .i64 E.k, .int .u8 E.c, .bool E.sh, .bool E.ct] 40] ∧ e9 0 = .slice (some ⟨b, off, none⟩) evs.length cp ∧ e9 3 = .pointer (some ⟨g_1, 0, none⟩) ∧ e9 4 = .bool false ∧ e9 5 = .pointer (some ⟨g_4, 0, none⟩) ∧ e9 6 = .pointer (some ⟨g_7, 0, none⟩) ∧ e9 7 = .int .i64 ((k : Nat) : Int) ∧ e9 8 = .pointer (some ⟨g_25, 0, none⟩) ∧ e9 17 = .int .i64 ((k : Nat) : Int) ∧ e9 18 = .bool true ∧ e9 19 = .bool true ∧ e9 47 = .bool (skipZ E lv)) ?_ ?_
      · skip
        refine CW.region ?_
        refine SL.v (.pointer (some ⟨g_25, 0, none⟩)) ?_
        refine SL.load (g := g_25) (off := 0) (v := .int .i64 E.k) rfl rfl rfl (by kernel_rfl) (hs_29.pt_at (i := 3) rfl) (by kernel_rfl) ?_
        refine SL.v (.bool (E.k == 4)) ?_
        refine SL.v (.bool (E.k == 4)) ?_
        rcases Bool.eq_false_or_eq_true (E.k == 4) with hb_30 | hb_30
        · try rw [hb_30]
          have hqhb_30 : E.k = 4 := by simpa using hb_30
          refine SL.no true ?_
          refine SL.no true ?_
          refine SL.no true ?_
          refine SL.no true ?_
          refine SL.un ?_
          refine SL.un ?_
          refine SL.un ?_
          refine SL.no true ?_
          refine SL.v (.bool true) ?_
          refine SL.v (.bool true) ?_
          refine SL.no true ?_
          refine SL.no true ?_
          refine SL.no true ?_
          refine SL.no true ?_
          refine SL.un ?_
          refine SL.un ?_
          refine SL.no true ?_
          refine SL.v (.bool true) ?_
          refine SL.nil ?_
          have hq_ : skipZ E lv = true := by unfold skipZ; rw [hb_30]; rfl
          rw [hq_]
          exact ⟨hs_29, (by kernel_rfl), (by kernel_rfl), (by kernel_rfl), (by kernel_rfl), (by kernel_rfl), (by kernel_rfl), (by kernel_rfl), (by kernel_rfl), (by kernel_rfl), (by kernel_rfl), (by kernel_rfl)⟩
        · try rw [hb_30]
          have hqhb_30 : E.k ≠ 4 := by simpa using hb_30
          refine SL.go ?_
          refine SL.v (.pointer (some ⟨g_25, 0, none⟩)) ?_
          refine SL.go ?_
          refine SL.load (g := g_25) (off := 0) (v := .int .i64 E.k) rfl rfl rfl (by kernel_rfl) (hs_29.pt_at (i := 3) rfl) (by kernel_rfl) ?_
          refine SL.go ?_
          refine SL.v (.bool (E.k == 16)) ?_
          refine SL.go ?_
          refine SL.v (.bool (E.k == 16)) ?_
          rcases Bool.eq_false_or_eq_true (E.k == 16) with hb_31 | hb_31
          · try rw [hb_31]
            have hqhb_31 : E.k = 16 := by simpa using hb_31
            refine SL.go ?_
            refine SL.v (.pointer (some ⟨g_1, 1, none⟩)) ?_
            refine SL.go ?_
            refine SL.load (g := g_1) (off := 1) (v := .int .i64 lv) rfl rfl rfl (by kernel_rfl) (hs_29.pt_at (i := 0) rfl) (by kernel_rfl) ?_
            refine SL.go ?_
            refine SL.v (.bool (decide (lv < 2))) ?_
            refine SL.go ?_
            refine SL.v (.bool (decide (lv < 2))) ?_
            refine SL.v (.bool (decide (lv < 2))) ?_
            refine SL.v (.bool (decide (lv < 2))) ?_
            rcases Bool.eq_false_or_eq_true (decide (lv < 2)) with hb_32 | hb_32
            · try rw [hb_32]
              have hqhb_32 := of_decide_eq_true hb_32
              refine SL.no true ?_
              refine SL.no true ?_
              refine SL.no true ?_
              refine SL.no true ?_
              refine SL.un ?_
              refine SL.un ?_
              refine SL.no true ?_
              refine SL.v (.bool true) ?_
              refine SL.nil ?_
              have hq_ : skipZ E lv = true := by unfold skipZ; rw [hb_30, hb_31, hb_32]; rfl
              rw [hq_]
              exact ⟨hs_29, (by kernel_rfl), (by kernel_rfl), (by kernel_rfl), (by kernel_rfl), (by kernel_rfl), (by kernel_rfl), (by kernel_rfl), (by kernel_rfl), (by kernel_rfl), (by kernel_rfl), (by kernel_rfl)⟩
            · try rw [hb_32]
              have hqhb_32 := of_decide_eq_false hb_32
              refine SL.go ?_
              refine SL.v (.pointer (some ⟨g_25, 0, none⟩)) ?_
              refine SL.go ?_
              refine SL.load (g := g_25) (off := 0) (v := .int .i64 E.k) rfl rfl rfl (by kernel_rfl) (hs_29.pt_at (i := 3) rfl) (by kernel_rfl) ?_
              refine SL.go ?_
              refine SL.v (.bool (E.k == 0)) ?_
              refine SL.go ?_
              refine SL.v (.bool (E.k == 0)) ?_
              rcases Bool.eq_false_or_eq_true (E.k == 0) with hb_33 | hb_33
              · try rw [hb_33]
                have hqhb_33 : E.k = 0 := by simpa using hb_33
                refine SL.go ?_
                refine SL.v (.pointer (some ⟨g_25, 3, none⟩)) ?_
                refine SL.go ?_
                refine SL.load (g := g_25) (off := 3) (v := .bool E.ct) rfl rfl rfl (by kernel_rfl) (hs_29.pt_at (i := 3) rfl) (by kernel_rfl) ?_
                refine SL.go ?_
                refine SL.v (.bool E.ct) ?_
                refine SL.v (.bool E.ct) ?_
                refine SL.nil ?_
                have hq_ : skipZ E lv = E.ct := by unfold skipZ; rw [hb_30, hb_31, hb_32, hb_33]; rfl
                rw [hq_]
                exact ⟨hs_29, (by kernel_rfl), (by kernel_rfl), (by kernel_rfl), (by kernel_rfl), (by kernel_rfl), (by kernel_rfl), (by kernel_rfl), (by kernel_rfl), (by kernel_rfl), (by kernel_rfl), (by kernel_rfl)⟩
              · try rw [hb_33]
                have hqhb_33 : E.k ≠ 0 := by simpa using hb_33
                refine SL.no false ?_
                refine SL.no false ?_
                refine SL.go ?_
                refine SL.v (.bool false) ?_
                refine SL.v (.bool false) ?_
                refine SL.nil ?_
                have hq_ : skipZ E lv = false := by unfold skipZ; rw [hb_30, hb_31, hb_32, hb_33]; rfl
                rw [hq_]
                exact ⟨hs_29, (by kernel_rfl), (by kernel_rfl), (by kernel_rfl), (by kernel_rfl), (by kernel_rfl), (by kernel_rfl), (by kernel_rfl), (by kernel_rfl), (by kernel_rfl), (by kernel_rfl), (by kernel_rfl)⟩
          · try rw [hb_31]
            have hqhb_31 : E.k ≠ 16 := by simpa using hb_31
            refine SL.no false ?_
            refine SL.no false ?_
            refine SL.no false ?_
            refine SL.go ?_
            refine SL.v (.bool false) ?_
            refine SL.v (.bool false) ?_
            refine SL.v (.bool false) ?_
            refine SL.go ?_
            refine SL.v (.pointer (some ⟨g_25, 0, none⟩)) ?_
            refine SL.go ?_
            refine SL.load (g := g_25) (off := 0) (v := .int .i64 E.k) rfl rfl rfl (by kernel_rfl) (hs_29.pt_at (i := 3) rfl) (by kernel_rfl) ?_
            refine SL.go ?_
            refine SL.v (.bool (E.k == 0)) ?_
            refine SL.go ?_
            refine SL.v (.bool (E.k == 0)) ?_
            rcases Bool.eq_false_or_eq_true (E.k == 0) with hb_34 | hb_34
            · try rw [hb_34]
              have hqhb_34 : E.k = 0 := by simpa using hb_34
              refine SL.go ?_
              refine SL.v (.pointer (some ⟨g_25, 3, none⟩)) ?_
              refine SL.go ?_
              refine SL.load (g := g_25) (off := 3) (v := .bool E.ct) rfl rfl rfl (by kernel_rfl) (hs_29.pt_at (i := 3) rfl) (by kernel_rfl) ?_
              refine SL.go ?_
              refine SL.v (.bool E.ct) ?_
              refine SL.v (.bool E.ct) ?_
              refine SL.nil ?_
              have hq_ : skipZ E lv = E.ct := by unfold skipZ; rw [hb_30, hb_31, hb_34]; rfl
              rw [hq_]
              exact ⟨hs_29, (by kernel_rfl), (by kernel_rfl), (by kernel_rfl), (by kernel_rfl), (by kernel_rfl), (by kernel_rfl), (by kernel_rfl), (by kernel_rfl), (by kernel_rfl), (by kernel_rfl), (by kernel_rfl)⟩
            · try rw [hb_34]
              have hqhb_34 : E.k ≠ 0 := by simpa using hb_34
              refine SL.no false ?_
              refine SL.no false ?_
              refine SL.go ?_
              refine SL.v (.bool false) ?_
              refine SL.v (.bool false) ?_
              refine SL.nil ?_
              have hq_ : skipZ E lv = false := by unfold skipZ; rw [hb_30, hb_31, hb_34]; rfl
              rw [hq_]
              exact ⟨hs_29, (by kernel_rfl), (by kernel_rfl), (by kernel_rfl), (by kernel_rfl), (by kernel_rfl), (by kernel_rfl), (by kernel_rfl), (by kernel_rfl), (by kernel_rfl), (by kernel_rfl), (by kernel_rfl)⟩
      · rintro e_35 w_36 ⟨hs_37, hv_39, hv_40, hv_41, hv_42, hv_43, hv_44, hv_45, hv_46, hv_47, hv_48, hv_49⟩
        obtain ⟨e_38, rfl⟩ : ∃ e_38, e_35 = put1 (put1 (put1 (put1 (put1 (put1 (put1 (put1 (put1 (put1 (put1 e_38 0 (.slice (some ⟨b, off, none⟩) evs.length cp)) 3 (.pointer (some ⟨g_1, 0, none⟩))) 4 (.bool false)) 5 (.pointer (some ⟨g_4, 0, none⟩))) 6 (.pointer (some ⟨g_7, 0, none⟩))) 7 (.int .i64 ((k : Nat) : Int))) 8 (.pointer (some ⟨g_25, 0, none⟩))) 17 (.int .i64 ((k : Nat) : Int))) 18 (.bool true)) 19 (.bool true)) 47 (.bool (skipZ E lv)) := ⟨e_35, (put_self hv_49).trans (congrArg (fun z => put1 z 47 (.bool (skipZ E lv))) ((put_self hv_48).trans (congrArg (fun z => put1 z 19 (.bool true)) ((put_self hv_47).trans (congrArg (fun z => put1 z 18 (.bool true)) ((put_self hv_46).trans (congrArg (fun z => put1 z 17 (.int .i64 ((k : Nat) : Int))) ((put_self hv_45).trans (congrArg (fun z => put1 z 8 (.pointer (some ⟨g_25, 0, none⟩))) ((put_self hv_44).trans (congrArg (fun z => put1 z 7 (.int .i64 ((k : Nat) : Int))) ((put_self hv_43).trans (congrArg (fun z => put1 z 6 (.pointer (some ⟨g_7, 0, none⟩))) ((put_self hv_42).trans (congrArg (fun z => put1 z 5 (.pointer (some ⟨g_4, 0, none⟩))) ((put_self hv_41).trans (congrArg (fun z => put1 z 4 (.bool false)) ((put_self hv_40).trans (congrArg (fun z => put1 z 3 (.pointer (some ⟨g_1, 0, none⟩))) (put_self hv_39))))))))))))))))))))⟩
        clear hv_39 hv_40 hv_41 hv_42 hv_43 hv_44 hv_45 hv_46 hv_47 hv_48 hv_49
        rcases Bool.eq_false_or_eq_true (skipZ E lv) with hb_50 | hb_50
        · try rw [hb_50]
          refine CW.cond_true (by kernel_rfl) ?_
          refine CW.exit ?_
          repeat with_reducible first | refine PThen.exit ?_ | refine PBlock.out rfl ?_
          with_reducible refine PBlock.here ?_
          repeat with_reducible refine PBlock.normal ?_
          refine CW.region ?_
          refine SL.v (.int .i64 ((k : Nat) : Int)) ?_
          refine SL.val (v := .int .i64 ((k + 1 : Nat) : Int)) (w' := w_36) rfl rfl (by have hw : IntKind.i64.wrap (((k : Nat) : Int) + 1) = ((k + 1 : Nat) : Int) := (IntWalk.i64_in _ (by omega)).trans (by omega); exact run_eqv (by kernel_rfl) (congrArg (fun z => Value.int .i64 z) hw)) ?_
          refine SL.v (.int .i64 ((k + 1 : Nat) : Int)) ?_
          refine SL.nil ?_
          exact ⟨_, ⟨k + 1, rfl, (hs_37.pick [0, 0, 0] rfl), (by omega), (by kernel_rfl), (by kernel_rfl), (by kernel_rfl), (by kernel_rfl), (by kernel_rfl), (by kernel_rfl)⟩, by omega⟩
        · try rw [hb_50]
          have hsk := skip_f hb_50
          refine CW.cond_false (by kernel_rfl) ?_
          refine CW.skip ?_
          refine CW.seq ?_
          have HGR : GrL [fun v _ => v = .agg #[.int .i64 E.k, .int .u8 E.c, .bool E.sh, .bool E.ct], fun v _ => v = .agg #[.int .i64 E.k, .int .u8 E.c, .bool E.sh, .bool E.ct], fun v _ => v = .pointer (some ⟨g_1, 0, none⟩), fun v _ => v = .int .u32 (m.toNat : Int), fun v _ => v = .pointer (some ⟨g_1, 1, none⟩), fun v _ => v = .int .i64 lv, fun v _ => v = .pointer (some ⟨g_1, 2, none⟩), fun v _ => v = .bool ei] := ⟨fun _ _ _ _ h => h, ⟨fun _ _ _ _ h => h, ⟨fun _ _ _ _ h => h, ⟨fun _ _ _ _ h => h, ⟨fun _ _ _ _ h => h, ⟨fun _ _ _ _ h => h, ⟨fun _ _ _ _ h => h, ⟨fun _ _ _ _ h => h, trivial⟩⟩⟩⟩⟩⟩⟩⟩
          refine CW.draw 8 (FW [fun v _ => v = .agg #[.int .i64 E.k, .int .u8 E.c, .bool E.sh, .bool E.ct], fun v _ => v = .agg #[.int .i64 E.k, .int .u8 E.c, .bool E.sh, .bool E.ct], fun v _ => v = .pointer (some ⟨g_1, 0, none⟩), fun v _ => v = .int .u32 (m.toNat : Int), fun v _ => v = .pointer (some ⟨g_1, 1, none⟩), fun v _ => v = .int .i64 lv, fun v _ => v = .pointer (some ⟨g_1, 2, none⟩), fun v _ => v = .bool ei]) (fun W => Gr w_36 W) (by kernel_rfl) (by kernel_rfl) (by kernel_rfl) (by kernel_rfl) (by kernel_rfl) (Gr.refl _).drew ?_ ?_
          · refine ⟨?_, ⟨?_, ⟨?_, ⟨?_, ⟨?_, ⟨?_, ⟨?_, ⟨?_, trivial⟩⟩⟩⟩⟩⟩⟩⟩
            · intro L ys W hB hF hP K hK
              show OpE _ _ _ W K
              exact OpE.load (g := g_25) (off := 0) (v := .agg #[.int .i64 E.k, .int .u8 E.c, .bool E.sh, .bool E.ct]) rfl (by kernel_rfl) ((hs_37.grow hB).pt_at (i := 3) rfl) (by kernel_rfl) (hK _ W hB rfl (fun _ _ h => h))
            · intro L ys W hB hF hP K hK
              show OpE _ _ _ W K
              exact OpE.known (j := 0) (v := .agg #[.int .i64 E.k, .int .u8 E.c, .bool E.sh, .bool E.ct]) (hF 0 (hP.1 rfl)) (OpE.call 5 #[.agg #[.int .i64 E.k, .int .u8 E.c, .bool E.sh, .bool E.ct]] W _ (by kernel_rfl) (own22_any E W) (fun x w' hx => by obtain ⟨rfl, hg⟩ := hx; exact ⟨_, rfl, hK _ w' (hB.trans hg) rfl (fun _ _ h => FW.gr HGR hg h)⟩))
            · intro L ys W hB hF hP K hK
              show OpE _ _ _ W K
              exact OpE.val (.pointer (some ⟨g_1, 0, none⟩)) W (by kernel_rfl) (hK _ W hB rfl (fun _ _ h => h))
            · intro L ys W hB hF hP K hK
              show OpE _ _ _ W K
              exact OpE.known (j := 2) (v := .pointer (some ⟨g_1, 0, none⟩)) (hF 2 (hP.1 rfl)) (OpE.load (g := g_1) (off := 0) (v := .int .u32 (m.toNat : Int)) rfl (by kernel_rfl) ((hs_37.grow hB).pt_at (i := 0) rfl) (by kernel_rfl) (hK _ W hB rfl (fun _ _ h => h)))
            · intro L ys W hB hF hP K hK
              show OpE _ _ _ W K
              exact OpE.val (.pointer (some ⟨g_1, 1, none⟩)) W (by kernel_rfl) (hK _ W hB rfl (fun _ _ h => h))
            · intro L ys W hB hF hP K hK
              show OpE _ _ _ W K
              exact OpE.known (j := 4) (v := .pointer (some ⟨g_1, 1, none⟩)) (hF 4 (hP.1 rfl)) (OpE.load (g := g_1) (off := 1) (v := .int .i64 lv) rfl (by kernel_rfl) ((hs_37.grow hB).pt_at (i := 0) rfl) (by kernel_rfl) (hK _ W hB rfl (fun _ _ h => h)))
            · intro L ys W hB hF hP K hK
              show OpE _ _ _ W K
              exact OpE.val (.pointer (some ⟨g_1, 2, none⟩)) W (by kernel_rfl) (hK _ W hB rfl (fun _ _ h => h))
            · intro L ys W hB hF hP K hK
              show OpE _ _ _ W K
              exact OpE.known (j := 6) (v := .pointer (some ⟨g_1, 2, none⟩)) (hF 6 (hP.1 rfl)) (OpE.load (g := g_1) (off := 2) (v := .bool ei) rfl (by kernel_rfl) ((hs_37.grow hB).pt_at (i := 0) rfl) (by kernel_rfl) (hK _ W hB rfl (fun _ _ h => h)))
          · intro ys_54 w_51 hs_52 hF_53
            have hg_55 := hs_52
            have hs_52 : SH [] w w_51 [pt g_1 #[.int .u32 (m.toNat : Int), .int .i64 lv, .bool ei, .string s] 26, pt g_4 #[.string ⟨#[]⟩, .string ⟨#[]⟩, .string ⟨#[]⟩, .string ⟨#[]⟩, .string ⟨#[]⟩, .string ⟨#[]⟩, .string ⟨#[]⟩, .string ⟨#[]⟩, .string ⟨#[]⟩, .string ⟨#[]⟩, .string ⟨#[]⟩, .string ⟨#[]⟩, .string ⟨#[]⟩, .string ⟨#[]⟩, .string ⟨#[]⟩, .string ⟨#[]⟩, .string ⟨#[]⟩, .string ⟨#[]⟩, .bool false] 29, parH g_7, pt g_25 #[.int .i64 E.k, .int .u8 E.c, .bool E.sh, .bool E.ct] 40] := hs_37.grow hg_55
            refine SL.knownY (j := 1) (v := .agg #[.int .i64 E.k, .int .u8 E.c, .bool E.sh, .bool E.ct]) (show ys_54 1 = .agg #[.int .i64 E.k, .int .u8 E.c, .bool E.sh, .bool E.ct] from hF_53 1 (by decide)) (SL.knownY (j := 3) (v := .int .u32 (m.toNat : Int)) (show ys_54 3 = .int .u32 (m.toNat : Int) from hF_53 3 (by decide)) (SL.knownY (j := 5) (v := .int .i64 lv) (show ys_54 5 = .int .i64 lv from hF_53 5 (by decide)) (SL.knownY (j := 7) (v := .bool ei) (show ys_54 7 = .bool ei from hF_53 7 (by decide)) (?_))))
            clear hF_53 HGR
            refine SL.callH (f := 4) (args := #[.agg #[.int .i64 E.k, .int .u8 E.c, .bool E.sh, .bool E.ct], .int .u32 (m.toNat : Int), .int .i64 lv, .bool ei, .pointer (some ⟨g_4, 0, none⟩)]) (Pre := []) (Rest := [pt g_1 #[.int .u32 (m.toNat : Int), .int .i64 lv, .bool ei, .string s] 26, pt g_4 #[.string ⟨#[]⟩, .string ⟨#[]⟩, .string ⟨#[]⟩, .string ⟨#[]⟩, .string ⟨#[]⟩, .string ⟨#[]⟩, .string ⟨#[]⟩, .string ⟨#[]⟩, .string ⟨#[]⟩, .string ⟨#[]⟩, .string ⟨#[]⟩, .string ⟨#[]⟩, .string ⟨#[]⟩, .string ⟨#[]⟩, .string ⟨#[]⟩, .string ⟨#[]⟩, .string ⟨#[]⟩, .string ⟨#[]⟩, .bool false] 29, parH g_7, pt g_25 #[.int .i64 E.k, .int .u8 E.c, .bool E.sh, .bool E.ct] 40]) [] hs_52 rfl rfl (by kernel_rfl) rfl (encode_tr E m lv ei g_4 w_51 (hT.gr hs_52.gr) ((hs_52.pt_at (i := 1) rfl)) hcE) ?_
            rintro v_ Q_ w_59 ⟨va_56, vc_57, rfl, rfl⟩ hs_61
            have hs_61 : SH [] w w_59 [brH va_56 (keyE E m lv ei).length vc_57 (keyE E m lv ei), pt g_1 #[.int .u32 (m.toNat : Int), .int .i64 lv, .bool ei, .string s] 26, pt g_4 #[.string ⟨#[]⟩, .string ⟨#[]⟩, .string ⟨#[]⟩, .string ⟨#[]⟩, .string ⟨#[]⟩, .string ⟨#[]⟩, .string ⟨#[]⟩, .string ⟨#[]⟩, .string ⟨#[]⟩, .string ⟨#[]⟩, .string ⟨#[]⟩, .string ⟨#[]⟩, .string ⟨#[]⟩, .string ⟨#[]⟩, .string ⟨#[]⟩, .string ⟨#[]⟩, .string ⟨#[]⟩, .string ⟨#[]⟩, .bool false] 29, parH g_7, pt g_25 #[.int .i64 E.k, .int .u8 E.c, .bool E.sh, .bool E.ct] 40] := hs_61
            refine SL.v (.slice va_56 ((keyE E m lv ei).length) vc_57) ?_
            refine SL.nil ?_
            refine CW.seq ?_
            rcases Bool.eq_false_or_eq_true (curZ E.k) with hb_62 | hb_62
            · try rw [hb_62]
              have hkc : 5 ≤ E.k ∧ E.k ≤ 8 := by unfold curZ at hb_62; simpa using hb_62
              rcases Bool.eq_false_or_eq_true (hasB m 0) with hb_63 | hb_63
              · try rw [hb_63]
                refine CW.region ?_
                refine SL.v (.slice va_56 ((keyE E m lv ei).length) vc_57) ?_
                obtain ⟨ts, hko⟩ := key_ok E.k E.c E.sh E.ct (hasB m 0) (hasB m 3) (hasB m 4) (hasB m 12) (hasB m 13) lv ei hcE hsk.1 hsk.2.1 hsk.2.2
                have hko1 := hko.toks
                have hko2 : (keyE E m lv ei).length ≤ 6 := hko.len
                refine SL.callH (f := 6) (args := #[.pointer (some ⟨g_7, 0, none⟩), .slice va_56 ((keyE E m lv ei).length) vc_57]) (Pre := [parH g_7, brH va_56 (keyE E m lv ei).length vc_57 (keyE E m lv ei)]) (Rest := [pt g_1 #[.int .u32 (m.toNat : Int), .int .i64 lv, .bool ei, .string s] 26, pt g_4 #[.string ⟨#[]⟩, .string ⟨#[]⟩, .string ⟨#[]⟩, .string ⟨#[]⟩, .string ⟨#[]⟩, .string ⟨#[]⟩, .string ⟨#[]⟩, .string ⟨#[]⟩, .string ⟨#[]⟩, .string ⟨#[]⟩, .string ⟨#[]⟩, .string ⟨#[]⟩, .string ⟨#[]⟩, .string ⟨#[]⟩, .string ⟨#[]⟩, .string ⟨#[]⟩, .string ⟨#[]⟩, .string ⟨#[]⟩, .bool false] 29, pt g_25 #[.int .i64 E.k, .int .u8 E.c, .bool E.sh, .bool E.ct] 40]) [3, 0] hs_61 rfl rfl (by kernel_rfl) rfl (feed_tr (l := keyE E m lv ei) (ts := ts) g_7 vc_57 va_56 w_59 hko) ?_
                rintro v_ Q_ w_69 ⟨a_64, c_65, qs_66, rfl, hq_67, rfl⟩ hs_71
                have hs_71 : SH [] w w_69 [parH g_7, rowH 34 6 a_64 ts.length c_65 (tsCells ts qs_66), pt g_1 #[.int .u32 (m.toNat : Int), .int .i64 lv, .bool ei, .string s] 26, pt g_4 #[.string ⟨#[]⟩, .string ⟨#[]⟩, .string ⟨#[]⟩, .string ⟨#[]⟩, .string ⟨#[]⟩, .string ⟨#[]⟩, .string ⟨#[]⟩, .string ⟨#[]⟩, .string ⟨#[]⟩, .string ⟨#[]⟩, .string ⟨#[]⟩, .string ⟨#[]⟩, .string ⟨#[]⟩, .string ⟨#[]⟩, .string ⟨#[]⟩, .string ⟨#[]⟩, .string ⟨#[]⟩, .string ⟨#[]⟩, .bool false] 29, pt g_25 #[.int .i64 E.k, .int .u8 E.c, .bool E.sh, .bool E.ct] 40] := hs_71
                refine SL.v (.slice a_64 ts.length c_65) ?_
                refine SL.nil ?_
                refine CW.seq ?_
                refine CW.seq ?_
                refine CW.region ?_
                refine SL.call (f := 7) (args := #[.pointer (some ⟨g_7, 0, none⟩)]) (w1 := w_69) rfl rfl (by kernel_rfl) (idle_par (hs_71.get (i := 0) rfl)) ?_
                rintro x w_72 ⟨rfl, rfl⟩
                refine ⟨.bool true, rfl, ?_⟩
                refine SL.v (.bool false) ?_
                refine SL.v (.bool false) ?_
                refine SL.go ?_
                refine SL.v (.slice a_64 ts.length c_65) ?_
                refine SL.go ?_
                refine SL.val (v := .int .i64 ((ts.length : Nat) : Int)) (w' := w_69) rfl rfl (by kernel_rfl) ?_
                refine SL.go ?_
                refine SL.v (.bool (decide (2 < ((ts.length : Nat) : Int)))) ?_
                refine SL.v (.bool (decide (2 < ((ts.length : Nat) : Int)))) ?_
                refine SL.v (.bool (decide (2 < ((ts.length : Nat) : Int)))) ?_
                have hb_75 : (decide (2 < ((ts.length : Nat) : Int))) = false := (decide_eq_false (by omega))
                rw [hb_75]
                have hqhb_75 := of_decide_eq_false hb_75
                refine SL.go ?_
                refine SL.v (.slice va_56 ((keyE E m lv ei).length) vc_57) ?_
                refine SL.go ?_
                refine SL.val (v := .int .i64 (((keyE E m lv ei).length : Nat) : Int)) (w' := w_69) rfl rfl (by kernel_rfl) ?_
                refine SL.go ?_
                refine SL.v (.bool (decide (6 < (((keyE E m lv ei).length : Nat) : Int)))) ?_
                refine SL.v (.bool (decide (6 < (((keyE E m lv ei).length : Nat) : Int)))) ?_
                refine SL.nil ?_
                have hb_76 : (decide (6 < (((keyE E m lv ei).length : Nat) : Int))) = false := (decide_eq_false (by omega))
                rw [hb_76]
                have hqhb_76 := of_decide_eq_false hb_76
                refine CW.cond_false (by kernel_rfl) ?_
                refine CW.skip ?_
                refine CW.seq ?_
                refine CW.region ?_
                refine SL.v (.pointer (some ⟨g_25, 0, none⟩)) ?_
                refine SL.load (g := g_25) (off := 0) (v := .int .i64 E.k) rfl rfl rfl (by kernel_rfl) (hs_71.pt_at (i := 4) rfl) (by kernel_rfl) ?_
                refine SL.call (f := 8) (args := #[.int .i64 E.k]) (w1 := w_69) rfl rfl (by kernel_rfl) (hb_62 ▸ cursor_any E.k w_69) ?_
                rintro x w_77 ⟨rfl, hc_78⟩
                refine ⟨.bool true, rfl, ?_⟩
                have hs_79 := hs_71.grow hc_78
                refine SL.v (.bool true) ?_
                refine SL.go ?_
                refine SL.v (.pointer (some ⟨g_1, 0, none⟩)) ?_
                refine SL.go ?_
                refine SL.load (g := g_1) (off := 0) (v := .int .u32 (m.toNat : Int)) rfl rfl rfl (by kernel_rfl) (hs_79.pt_at (i := 2) rfl) (by kernel_rfl) ?_
                refine SL.go ?_
                refine SL.call (f := 9) (args := #[.int .u32 (m.toNat : Int), .int .i64 0]) (w1 := w_77) rfl rfl (by kernel_rfl) (hb_63 ▸ (hasFor m).h0 w_77) ?_
                rintro x w_80 ⟨rfl, rfl⟩
                refine ⟨.bool true, rfl, ?_⟩
                refine SL.go ?_
                refine SL.v (.bool false) ?_
                refine SL.v (.bool false) ?_
                refine SL.nil ?_
                refine CW.cond_false (by kernel_rfl) ?_
                refine CW.skip ?_
                refine CW.region ?_
                refine SL.v (.int .i64 ((k : Nat) : Int)) ?_
                refine SL.val (v := .int .i64 ((k + 1 : Nat) : Int)) (w' := w_77) rfl rfl (by have hw : IntKind.i64.wrap (((k : Nat) : Int) + 1) = ((k + 1 : Nat) : Int) := (IntWalk.i64_in _ (by omega)).trans (by omega); exact run_eqv (by kernel_rfl) (congrArg (fun z => Value.int .i64 z) hw)) ?_
                refine SL.v (.int .i64 ((k + 1 : Nat) : Int)) ?_
                refine SL.nil ?_
                exact ⟨_, ⟨k + 1, rfl, (hs_79.pick [2, 2, 0] rfl), (by omega), (by kernel_rfl), (by kernel_rfl), (by kernel_rfl), (by kernel_rfl), (by kernel_rfl), (by kernel_rfl)⟩, by omega⟩
              · try rw [hb_63]
                rcases Bool.eq_false_or_eq_true (hasB m 4) with hb_83 | hb_83
                · try rw [hb_83]
                  refine CW.region ?_
                  refine SL.v (.slice va_56 ((keyE E m lv ei).length) vc_57) ?_
                  have hko : KeyOk (keyE E m lv ei) [⟨3, 79, 0, [], [], []⟩, ⟨1, 60 + E.k, 0, [], [], []⟩] := by
                    have h_ := arrow_ok E.k E.c E.sh E.ct (hasB m 3) (hasB m 4) (hasB m 12) (hasB m 13) lv ei hkc
                    unfold keyE; rw [hb_63]; rw [hb_83] at h_ ⊢; exact h_
                  have hko2 : (keyE E m lv ei).length ≤ 6 := hko.len
                  refine SL.callH (f := 6) (args := #[.pointer (some ⟨g_7, 0, none⟩), .slice va_56 ((keyE E m lv ei).length) vc_57]) (Pre := [parH g_7, brH va_56 (keyE E m lv ei).length vc_57 (keyE E m lv ei)]) (Rest := [pt g_1 #[.int .u32 (m.toNat : Int), .int .i64 lv, .bool ei, .string s] 26, pt g_4 #[.string ⟨#[]⟩, .string ⟨#[]⟩, .string ⟨#[]⟩, .string ⟨#[]⟩, .string ⟨#[]⟩, .string ⟨#[]⟩, .string ⟨#[]⟩, .string ⟨#[]⟩, .string ⟨#[]⟩, .string ⟨#[]⟩, .string ⟨#[]⟩, .string ⟨#[]⟩, .string ⟨#[]⟩, .string ⟨#[]⟩, .string ⟨#[]⟩, .string ⟨#[]⟩, .string ⟨#[]⟩, .string ⟨#[]⟩, .bool false] 29, pt g_25 #[.int .i64 E.k, .int .u8 E.c, .bool E.sh, .bool E.ct] 40]) [3, 0] hs_61 rfl rfl (by kernel_rfl) rfl (feed_tr (l := keyE E m lv ei) (ts := [⟨3, 79, 0, [], [], []⟩, ⟨1, 60 + E.k, 0, [], [], []⟩]) g_7 vc_57 va_56 w_59 hko) ?_
                  rintro v_ Q_ w_97 ⟨a_84, c_85, qs_86, rfl, hq_87, rfl⟩ hs_99
                  have hs_99 : SH [] w w_97 [parH g_7, rowH 34 6 a_84 2 c_85 (tsCells [⟨3, 79, 0, [], [], []⟩, ⟨1, 60 + E.k, 0, [], [], []⟩] qs_86), pt g_1 #[.int .u32 (m.toNat : Int), .int .i64 lv, .bool ei, .string s] 26, pt g_4 #[.string ⟨#[]⟩, .string ⟨#[]⟩, .string ⟨#[]⟩, .string ⟨#[]⟩, .string ⟨#[]⟩, .string ⟨#[]⟩, .string ⟨#[]⟩, .string ⟨#[]⟩, .string ⟨#[]⟩, .string ⟨#[]⟩, .string ⟨#[]⟩, .string ⟨#[]⟩, .string ⟨#[]⟩, .string ⟨#[]⟩, .string ⟨#[]⟩, .string ⟨#[]⟩, .string ⟨#[]⟩, .string ⟨#[]⟩, .bool false] 29, pt g_25 #[.int .i64 E.k, .int .u8 E.c, .bool E.sh, .bool E.ct] 40] := hs_99
                  obtain ⟨q_95, q_96, rfl⟩ : ∃ q_95 q_96, qs_86 = [q_95, q_96] := by
                    match qs_86, hq_87 with
                    | [q_95, q_96], _ => exact ⟨q_95, q_96, rfl⟩
                  obtain ⟨g_88, pad_89, ha_90, hs_91, hl_92, hc_93, hm_94⟩ := hs_99.ofRow (i := 1) rfl (by decide)
                  subst ha_90
                  have hs_100 : SH [] w w_97 [parH g_7, pt g_1 #[.int .u32 (m.toNat : Int), .int .i64 lv, .bool ei, .string s] 26, pt g_4 #[.string ⟨#[]⟩, .string ⟨#[]⟩, .string ⟨#[]⟩, .string ⟨#[]⟩, .string ⟨#[]⟩, .string ⟨#[]⟩, .string ⟨#[]⟩, .string ⟨#[]⟩, .string ⟨#[]⟩, .string ⟨#[]⟩, .string ⟨#[]⟩, .string ⟨#[]⟩, .string ⟨#[]⟩, .string ⟨#[]⟩, .string ⟨#[]⟩, .string ⟨#[]⟩, .string ⟨#[]⟩, .string ⟨#[]⟩, .bool false] 29, pt g_25 #[.int .i64 E.k, .int .u8 E.c, .bool E.sh, .bool E.ct] 40, pt g_88 ⟨[.int .i64 3, .int .u8 79, .int .u8 0, q_95.1, .string (strOf []), q_95.2, .int .i64 1, .int .u8 (60 + E.k), .int .u8 0, q_96.1, .string (strOf []), q_96.2] ++ pad_89⟩ 34] := hs_91
                  refine SL.v (.slice (some ⟨g_88, 0, none⟩) 2 c_85) ?_
                  refine SL.nil ?_
                  refine CW.seq ?_
                  refine CW.seq ?_
                  refine CW.region ?_
                  refine SL.call (f := 7) (args := #[.pointer (some ⟨g_7, 0, none⟩)]) (w1 := w_97) rfl rfl (by kernel_rfl) (idle_par (hs_100.get (i := 0) rfl)) ?_
                  rintro x w_101 ⟨rfl, rfl⟩
                  refine ⟨.bool true, rfl, ?_⟩
                  refine SL.v (.bool false) ?_
                  refine SL.v (.bool false) ?_
                  refine SL.go ?_
                  refine SL.v (.slice (some ⟨g_88, 0, none⟩) 2 c_85) ?_
                  refine SL.go ?_
                  refine SL.val (v := .int .i64 2) (w' := w_97) rfl rfl (by kernel_rfl) ?_
                  refine SL.go ?_
                  refine SL.v (.bool false) ?_
                  refine SL.v (.bool false) ?_
                  refine SL.v (.bool false) ?_
                  refine SL.go ?_
                  refine SL.v (.slice va_56 ((keyE E m lv ei).length) vc_57) ?_
                  refine SL.go ?_
                  refine SL.val (v := .int .i64 (((keyE E m lv ei).length : Nat) : Int)) (w' := w_97) rfl rfl (by kernel_rfl) ?_
                  refine SL.go ?_
                  refine SL.v (.bool (decide (6 < (((keyE E m lv ei).length : Nat) : Int)))) ?_
                  refine SL.v (.bool (decide (6 < (((keyE E m lv ei).length : Nat) : Int)))) ?_
                  refine SL.nil ?_
                  have hb_104 : (decide (6 < (((keyE E m lv ei).length : Nat) : Int))) = false := (decide_eq_false (by omega))
                  rw [hb_104]
                  have hqhb_104 := of_decide_eq_false hb_104
                  refine CW.cond_false (by kernel_rfl) ?_
                  refine CW.skip ?_
                  refine CW.seq ?_
                  refine CW.region ?_
                  refine SL.v (.pointer (some ⟨g_25, 0, none⟩)) ?_
                  refine SL.load (g := g_25) (off := 0) (v := .int .i64 E.k) rfl rfl rfl (by kernel_rfl) (hs_100.pt_at (i := 3) rfl) (by kernel_rfl) ?_
                  refine SL.call (f := 8) (args := #[.int .i64 E.k]) (w1 := w_97) rfl rfl (by kernel_rfl) (hb_62 ▸ cursor_any E.k w_97) ?_
                  rintro x w_105 ⟨rfl, hc_106⟩
                  refine ⟨.bool true, rfl, ?_⟩
                  have hs_107 := hs_100.grow hc_106
                  refine SL.v (.bool true) ?_
                  refine SL.go ?_
                  refine SL.v (.pointer (some ⟨g_1, 0, none⟩)) ?_
                  refine SL.go ?_
                  refine SL.load (g := g_1) (off := 0) (v := .int .u32 (m.toNat : Int)) rfl rfl rfl (by kernel_rfl) (hs_107.pt_at (i := 1) rfl) (by kernel_rfl) ?_
                  refine SL.go ?_
                  refine SL.call (f := 9) (args := #[.int .u32 (m.toNat : Int), .int .i64 0]) (w1 := w_105) rfl rfl (by kernel_rfl) (hb_63 ▸ (hasFor m).h0 w_105) ?_
                  rintro x w_108 ⟨rfl, rfl⟩
                  refine ⟨.bool false, rfl, ?_⟩
                  refine SL.go ?_
                  refine SL.v (.bool true) ?_
                  refine SL.v (.bool true) ?_
                  refine SL.nil ?_
                  refine CW.cond_true (by kernel_rfl) ?_
                  refine CW.seq ?_
                  refine CW.region ?_
                  refine SL.v (.int .i64 4) ?_
                  refine SL.nil ?_
                  refine CW.seq ?_
                  refine CW.seq ?_
                  refine CW.region ?_
                  refine SL.v (.pointer (some ⟨g_1, 0, none⟩)) ?_
                  refine SL.load (g := g_1) (off := 0) (v := .int .u32 (m.toNat : Int)) rfl rfl rfl (by kernel_rfl) (hs_107.pt_at (i := 1) rfl) (by kernel_rfl) ?_
                  refine SL.call (f := 9) (args := #[.int .u32 (m.toNat : Int), .int .i64 4]) (w1 := w_105) rfl rfl (by kernel_rfl) (hb_83 ▸ (hasFor m).h4 w_105) ?_
                  rintro x w_111 ⟨rfl, rfl⟩
                  refine ⟨.bool true, rfl, ?_⟩
                  refine SL.nil ?_
                  refine CW.cond_true (by kernel_rfl) ?_
                  refine CW.region ?_
                  refine SL.v (.int .i64 3) ?_
                  refine SL.nil ?_
                  refine CW.seq ?_
                  have HGR : GrL [fun v _ => v = .slice (some ⟨g_88, 0, none⟩) 2 c_85, fun v _ => v = .int .i64 2, fun v _ => v = .bool false, fun v _ => v = .bool false, fun v _ => v = .slice (some ⟨g_88, 0, none⟩) 2 c_85, fun v _ => v = .pointer (some ⟨g_88, 0, none⟩), fun v _ => v = .pointer (some ⟨g_88, 0, none⟩), fun v _ => v = .int .i64 3, fun v _ => v = .int .i64 3, fun v _ => v = .bool false, fun v _ => v = .bool false, fun v _ => v = .bool false, fun v _ => v = .slice (some ⟨g_88, 0, none⟩) 2 c_85, fun v _ => v = .slice (some ⟨g_88, 0, none⟩) 2 c_85, fun v _ => v = .int .i64 2, fun v _ => v = .int .i64 1, fun v _ => v = .pointer (some ⟨g_88, 6, none⟩), fun v _ => v = .pointer (some ⟨g_88, 7, none⟩), fun v _ => v = .int .u8 (60 + E.k), fun v _ => v = .pointer (some ⟨g_25, 0, none⟩), fun v _ => v = .int .i64 E.k, fun v _ => v = .int .i64 (65 + E.k), fun v _ => v = .int .i64 ((65 + E.k) - 5), fun v _ => v = .int .u8 ((65 + E.k) - 5)] := ⟨fun _ _ _ _ h => h, ⟨fun _ _ _ _ h => h, ⟨fun _ _ _ _ h => h, ⟨fun _ _ _ _ h => h, ⟨fun _ _ _ _ h => h, ⟨fun _ _ _ _ h => h, ⟨fun _ _ _ _ h => h, ⟨fun _ _ _ _ h => h, ⟨fun _ _ _ _ h => h, ⟨fun _ _ _ _ h => h, ⟨fun _ _ _ _ h => h, ⟨fun _ _ _ _ h => h, ⟨fun _ _ _ _ h => h, ⟨fun _ _ _ _ h => h, ⟨fun _ _ _ _ h => h, ⟨fun _ _ _ _ h => h, ⟨fun _ _ _ _ h => h, ⟨fun _ _ _ _ h => h, ⟨fun _ _ _ _ h => h, ⟨fun _ _ _ _ h => h, ⟨fun _ _ _ _ h => h, ⟨fun _ _ _ _ h => h, ⟨fun _ _ _ _ h => h, ⟨fun _ _ _ _ h => h, trivial⟩⟩⟩⟩⟩⟩⟩⟩⟩⟩⟩⟩⟩⟩⟩⟩⟩⟩⟩⟩⟩⟩⟩⟩
                  refine CW.draw 24 (FW [fun v _ => v = .slice (some ⟨g_88, 0, none⟩) 2 c_85, fun v _ => v = .int .i64 2, fun v _ => v = .bool false, fun v _ => v = .bool false, fun v _ => v = .slice (some ⟨g_88, 0, none⟩) 2 c_85, fun v _ => v = .pointer (some ⟨g_88, 0, none⟩), fun v _ => v = .pointer (some ⟨g_88, 0, none⟩), fun v _ => v = .int .i64 3, fun v _ => v = .int .i64 3, fun v _ => v = .bool false, fun v _ => v = .bool false, fun v _ => v = .bool false, fun v _ => v = .slice (some ⟨g_88, 0, none⟩) 2 c_85, fun v _ => v = .slice (some ⟨g_88, 0, none⟩) 2 c_85, fun v _ => v = .int .i64 2, fun v _ => v = .int .i64 1, fun v _ => v = .pointer (some ⟨g_88, 6, none⟩), fun v _ => v = .pointer (some ⟨g_88, 7, none⟩), fun v _ => v = .int .u8 (60 + E.k), fun v _ => v = .pointer (some ⟨g_25, 0, none⟩), fun v _ => v = .int .i64 E.k, fun v _ => v = .int .i64 (65 + E.k), fun v _ => v = .int .i64 ((65 + E.k) - 5), fun v _ => v = .int .u8 ((65 + E.k) - 5)]) (fun W => Gr w_105 W) (by kernel_rfl) (by kernel_rfl) (by kernel_rfl) (by kernel_rfl) (by kernel_rfl) (Gr.refl _).drew ?_ ?_
                  · refine ⟨?_, ⟨?_, ⟨?_, ⟨?_, ⟨?_, ⟨?_, ⟨?_, ⟨?_, ⟨?_, ⟨?_, ⟨?_, ⟨?_, ⟨?_, ⟨?_, ⟨?_, ⟨?_, ⟨?_, ⟨?_, ⟨?_, ⟨?_, ⟨?_, ⟨?_, ⟨?_, ⟨?_, trivial⟩⟩⟩⟩⟩⟩⟩⟩⟩⟩⟩⟩⟩⟩⟩⟩⟩⟩⟩⟩⟩⟩⟩⟩
                    · intro L ys W hB hF hP K hK
                      show OpE _ _ _ W K
                      exact OpE.val (.slice (some ⟨g_88, 0, none⟩) 2 c_85) W (by kernel_rfl) (hK _ W hB rfl (fun _ _ h => h))
                    · intro L ys W hB hF hP K hK
                      show OpE _ _ _ W K
                      exact OpE.known (j := 0) (v := .slice (some ⟨g_88, 0, none⟩) 2 c_85) (hF 0 (hP.1 rfl)) (OpE.val (.int .i64 2) W (by kernel_rfl) (hK _ W hB rfl (fun _ _ h => h)))
                    · intro L ys W hB hF hP K hK
                      show OpE _ _ _ W K
                      exact OpE.known (j := 1) (v := .int .i64 2) (hF 1 (hP.1 rfl)) (OpE.val (.bool false) W (by kernel_rfl) (hK _ W hB rfl (fun _ _ h => h)))
                    · intro L ys W hB hF hP K hK
                      show OpE _ _ _ W K
                      exact OpE.known (j := 2) (v := .bool false) (hF 2 (hP.1 rfl)) (OpE.val (.bool false) W (by kernel_rfl) (hK _ W hB rfl (fun _ _ h => h)))
                    · intro L ys W hB hF hP K hK
                      refine ⟨86, false, rfl, (show fillE _ 0 ys _ 86 = _ from (hF 3 (hP.1 rfl))), .inl ⟨rfl, ?_⟩⟩
                      exact OpE.val (.slice (some ⟨g_88, 0, none⟩) 2 c_85) W (by kernel_rfl) (hK _ W hB rfl (fun _ _ h => h))
                    · intro L ys W hB hF hP K hK
                      refine ⟨86, false, rfl, (show fillE _ 0 ys _ 86 = _ from (hF 3 (hP.2.1 rfl))), .inl ⟨rfl, ?_⟩⟩
                      exact OpE.known (j := 4) (v := .slice (some ⟨g_88, 0, none⟩) 2 c_85) (hF 4 (hP.1 rfl)) (OpE.val (.pointer (some ⟨g_88, 0, none⟩)) W (by kernel_rfl) (hK _ W hB rfl (fun _ _ h => h)))
                    · intro L ys W hB hF hP K hK
                      refine ⟨86, false, rfl, (show fillE _ 0 ys _ 86 = _ from (hF 3 (hP.2.1 rfl))), .inl ⟨rfl, ?_⟩⟩
                      exact OpE.known (j := 5) (v := .pointer (some ⟨g_88, 0, none⟩)) (hF 5 (hP.1 rfl)) (OpE.val (.pointer (some ⟨g_88, 0, none⟩)) W (by kernel_rfl) (hK _ W hB rfl (fun _ _ h => h)))
                    · intro L ys W hB hF hP K hK
                      refine ⟨86, false, rfl, (show fillE _ 0 ys _ 86 = _ from (hF 3 (hP.2.1 rfl))), .inl ⟨rfl, ?_⟩⟩
                      exact OpE.known (j := 6) (v := .pointer (some ⟨g_88, 0, none⟩)) (hF 6 (hP.1 rfl)) (OpE.load (g := g_88) (off := 0) (v := .int .i64 3) rfl (by kernel_rfl) ((hs_107.grow hB).pt_at (i := 4) rfl) (by kernel_rfl) (hK _ W hB rfl (fun _ _ h => h)))
                    · intro L ys W hB hF hP K hK
                      refine ⟨86, false, rfl, (show fillE _ 0 ys _ 86 = _ from (hF 3 (hP.1 rfl))), .inl ⟨rfl, ?_⟩⟩
                      exact OpE.val (.int .i64 3) W (by kernel_rfl) (hK _ W hB rfl (fun _ _ h => h))
                    · intro L ys W hB hF hP K hK
                      refine ⟨86, false, rfl, (show fillE _ 0 ys _ 86 = _ from (hF 3 (hP.2.2.1 rfl))), .inl ⟨rfl, ?_⟩⟩
                      exact OpE.known (j := 7) (v := .int .i64 3) (hF 7 (hP.1 rfl)) (OpE.known (j := 8) (v := .int .i64 3) (hF 8 (hP.2.1 rfl)) (OpE.val (.bool false) W (by kernel_rfl) (hK _ W hB rfl (fun _ _ h => h))))
                    · intro L ys W hB hF hP K hK
                      show OpE _ _ _ W K
                      exact OpE.known (j := 3) (v := .bool false) (hF 3 (hP.1 rfl)) (OpE.known (j := 9) (v := .bool false) (hF 9 (hP.2.1 rfl)) (OpE.val (.bool false) W (by kernel_rfl) (hK _ W hB rfl (fun _ _ h => h))))
                    · intro L ys W hB hF hP K hK
                      show OpE _ _ _ W K
                      exact OpE.known (j := 10) (v := .bool false) (hF 10 (hP.1 rfl)) (OpE.val (.bool false) W (by kernel_rfl) (hK _ W hB rfl (fun _ _ h => h)))
                    · intro L ys W hB hF hP K hK
                      refine ⟨94, false, rfl, (show fillE _ 0 ys _ 94 = _ from (hF 11 (hP.1 rfl))), .inl ⟨rfl, ?_⟩⟩
                      exact OpE.val (.slice (some ⟨g_88, 0, none⟩) 2 c_85) W (by kernel_rfl) (hK _ W hB rfl (fun _ _ h => h))
                    · intro L ys W hB hF hP K hK
                      refine ⟨94, false, rfl, (show fillE _ 0 ys _ 94 = _ from (hF 11 (hP.1 rfl))), .inl ⟨rfl, ?_⟩⟩
                      exact OpE.val (.slice (some ⟨g_88, 0, none⟩) 2 c_85) W (by kernel_rfl) (hK _ W hB rfl (fun _ _ h => h))
                    · intro L ys W hB hF hP K hK
                      refine ⟨94, false, rfl, (show fillE _ 0 ys _ 94 = _ from (hF 11 (hP.2.1 rfl))), .inl ⟨rfl, ?_⟩⟩
                      exact OpE.known (j := 13) (v := .slice (some ⟨g_88, 0, none⟩) 2 c_85) (hF 13 (hP.1 rfl)) (OpE.val (.int .i64 2) W (by kernel_rfl) (hK _ W hB rfl (fun _ _ h => h)))
                    · intro L ys W hB hF hP K hK
                      refine ⟨94, false, rfl, (show fillE _ 0 ys _ 94 = _ from (hF 11 (hP.2.1 rfl))), .inl ⟨rfl, ?_⟩⟩
                      exact OpE.known (j := 14) (v := .int .i64 2) (hF 14 (hP.1 rfl)) (OpE.val (.int .i64 1) W (by kernel_rfl) (hK _ W hB rfl (fun _ _ h => h)))
                    · intro L ys W hB hF hP K hK
                      refine ⟨94, false, rfl, (show fillE _ 0 ys _ 94 = _ from (hF 11 (hP.2.2.1 rfl))), .inl ⟨rfl, ?_⟩⟩
                      exact OpE.known (j := 12) (v := .slice (some ⟨g_88, 0, none⟩) 2 c_85) (hF 12 (hP.1 rfl)) (OpE.known (j := 15) (v := .int .i64 1) (hF 15 (hP.2.1 rfl)) (OpE.val (.pointer (some ⟨g_88, 6, none⟩)) W (by kernel_rfl) (hK _ W hB rfl (fun _ _ h => h))))
                    · intro L ys W hB hF hP K hK
                      refine ⟨94, false, rfl, (show fillE _ 0 ys _ 94 = _ from (hF 11 (hP.2.1 rfl))), .inl ⟨rfl, ?_⟩⟩
                      exact OpE.known (j := 16) (v := .pointer (some ⟨g_88, 6, none⟩)) (hF 16 (hP.1 rfl)) (OpE.val (.pointer (some ⟨g_88, 7, none⟩)) W (by kernel_rfl) (hK _ W hB rfl (fun _ _ h => h)))
                    · intro L ys W hB hF hP K hK
                      refine ⟨94, false, rfl, (show fillE _ 0 ys _ 94 = _ from (hF 11 (hP.2.1 rfl))), .inl ⟨rfl, ?_⟩⟩
                      exact OpE.known (j := 17) (v := .pointer (some ⟨g_88, 7, none⟩)) (hF 17 (hP.1 rfl)) (OpE.load (g := g_88) (off := 7) (v := .int .u8 (60 + E.k)) rfl (by kernel_rfl) ((hs_107.grow hB).pt_at (i := 4) rfl) (by kernel_rfl) (hK _ W hB rfl (fun _ _ h => h)))
                    · intro L ys W hB hF hP K hK
                      refine ⟨94, false, rfl, (show fillE _ 0 ys _ 94 = _ from (hF 11 (hP.1 rfl))), .inl ⟨rfl, ?_⟩⟩
                      exact OpE.val (.pointer (some ⟨g_25, 0, none⟩)) W (by kernel_rfl) (hK _ W hB rfl (fun _ _ h => h))
                    · intro L ys W hB hF hP K hK
                      refine ⟨94, false, rfl, (show fillE _ 0 ys _ 94 = _ from (hF 11 (hP.2.1 rfl))), .inl ⟨rfl, ?_⟩⟩
                      exact OpE.known (j := 19) (v := .pointer (some ⟨g_25, 0, none⟩)) (hF 19 (hP.1 rfl)) (OpE.load (g := g_25) (off := 0) (v := .int .i64 E.k) rfl (by kernel_rfl) ((hs_107.grow hB).pt_at (i := 3) rfl) (by kernel_rfl) (hK _ W hB rfl (fun _ _ h => h)))
                    · intro L ys W hB hF hP K hK
                      refine ⟨94, false, rfl, (show fillE _ 0 ys _ 94 = _ from (hF 11 (hP.2.1 rfl))), .inl ⟨rfl, ?_⟩⟩
                      exact OpE.known (j := 20) (v := .int .i64 E.k) (hF 20 (hP.1 rfl)) (OpE.val (.int .i64 (65 + E.k)) W (by have hw : IntKind.i64.wrap (65 + E.k) = 65 + E.k := IntWalk.i64_in _ (by omega); exact run_eqv (by kernel_rfl) (congrArg (fun z => Value.int .i64 z) hw)) (hK _ W hB rfl (fun _ _ h => h)))
                    · intro L ys W hB hF hP K hK
                      refine ⟨94, false, rfl, (show fillE _ 0 ys _ 94 = _ from (hF 11 (hP.2.1 rfl))), .inl ⟨rfl, ?_⟩⟩
                      exact OpE.known (j := 21) (v := .int .i64 (65 + E.k)) (hF 21 (hP.1 rfl)) (OpE.val (.int .i64 ((65 + E.k) - 5)) W (by have hw : IntKind.i64.wrap ((65 + E.k) - 5) = (65 + E.k) - 5 := IntWalk.i64_in _ (by omega); exact run_eqv (by kernel_rfl) (congrArg (fun z => Value.int .i64 z) hw)) (hK _ W hB rfl (fun _ _ h => h)))
                    · intro L ys W hB hF hP K hK
                      refine ⟨94, false, rfl, (show fillE _ 0 ys _ 94 = _ from (hF 11 (hP.2.1 rfl))), .inl ⟨rfl, ?_⟩⟩
                      exact OpE.known (j := 22) (v := .int .i64 ((65 + E.k) - 5)) (hF 22 (hP.1 rfl)) (OpE.val (.int .u8 ((65 + E.k) - 5)) W (by have hw : IntKind.u8.wrap ((65 + E.k) - 5) = (65 + E.k) - 5 := wrap_u8 (by omega) (by omega); exact run_eqv (by kernel_rfl) (congrArg (fun z => Value.int .u8 z) hw)) (hK _ W hB rfl (fun _ _ h => h)))
                  · intro ys_117 w_114 hs_115 hF_116
                    have hg_118 := hs_115
                    have hs_115 : SH [] w w_114 [parH g_7, pt g_1 #[.int .u32 (m.toNat : Int), .int .i64 lv, .bool ei, .string s] 26, pt g_4 #[.string ⟨#[]⟩, .string ⟨#[]⟩, .string ⟨#[]⟩, .string ⟨#[]⟩, .string ⟨#[]⟩, .string ⟨#[]⟩, .string ⟨#[]⟩, .string ⟨#[]⟩, .string ⟨#[]⟩, .string ⟨#[]⟩, .string ⟨#[]⟩, .string ⟨#[]⟩, .string ⟨#[]⟩, .string ⟨#[]⟩, .string ⟨#[]⟩, .string ⟨#[]⟩, .string ⟨#[]⟩, .string ⟨#[]⟩, .bool false] 29, pt g_25 #[.int .i64 E.k, .int .u8 E.c, .bool E.sh, .bool E.ct] 40, pt g_88 ⟨[.int .i64 3, .int .u8 79, .int .u8 0, q_95.1, .string (strOf []), q_95.2, .int .i64 1, .int .u8 (60 + E.k), .int .u8 0, q_96.1, .string (strOf []), q_96.2] ++ pad_89⟩ 34] := hs_107.grow hg_118
                    refine SL.knownY (j := 4) (v := .slice (some ⟨g_88, 0, none⟩) 2 c_85) (show ys_117 4 = .slice (some ⟨g_88, 0, none⟩) 2 c_85 from hF_116 4 (by decide)) (SL.knownY (j := 5) (v := .pointer (some ⟨g_88, 0, none⟩)) (show ys_117 5 = .pointer (some ⟨g_88, 0, none⟩) from hF_116 5 (by decide)) (SL.knownY (j := 6) (v := .pointer (some ⟨g_88, 0, none⟩)) (show ys_117 6 = .pointer (some ⟨g_88, 0, none⟩) from hF_116 6 (by decide)) (SL.knownY (j := 7) (v := .int .i64 3) (show ys_117 7 = .int .i64 3 from hF_116 7 (by decide)) (SL.knownY (j := 8) (v := .int .i64 3) (show ys_117 8 = .int .i64 3 from hF_116 8 (by decide)) (SL.knownY (j := 9) (v := .bool false) (show ys_117 9 = .bool false from hF_116 9 (by decide)) (SL.knownY (j := 11) (v := .bool false) (show ys_117 11 = .bool false from hF_116 11 (by decide)) (SL.knownY (j := 12) (v := .slice (some ⟨g_88, 0, none⟩) 2 c_85) (show ys_117 12 = .slice (some ⟨g_88, 0, none⟩) 2 c_85 from hF_116 12 (by decide)) (SL.knownY (j := 13) (v := .slice (some ⟨g_88, 0, none⟩) 2 c_85) (show ys_117 13 = .slice (some ⟨g_88, 0, none⟩) 2 c_85 from hF_116 13 (by decide)) (SL.knownY (j := 14) (v := .int .i64 2) (show ys_117 14 = .int .i64 2 from hF_116 14 (by decide)) (SL.knownY (j := 15) (v := .int .i64 1) (show ys_117 15 = .int .i64 1 from hF_116 15 (by decide)) (SL.knownY (j := 16) (v := .pointer (some ⟨g_88, 6, none⟩)) (show ys_117 16 = .pointer (some ⟨g_88, 6, none⟩) from hF_116 16 (by decide)) (SL.knownY (j := 17) (v := .pointer (some ⟨g_88, 7, none⟩)) (show ys_117 17 = .pointer (some ⟨g_88, 7, none⟩) from hF_116 17 (by decide)) (SL.knownY (j := 18) (v := .int .u8 (60 + E.k)) (show ys_117 18 = .int .u8 (60 + E.k) from hF_116 18 (by decide)) (SL.knownY (j := 19) (v := .pointer (some ⟨g_25, 0, none⟩)) (show ys_117 19 = .pointer (some ⟨g_25, 0, none⟩) from hF_116 19 (by decide)) (SL.knownY (j := 20) (v := .int .i64 E.k) (show ys_117 20 = .int .i64 E.k from hF_116 20 (by decide)) (SL.knownY (j := 21) (v := .int .i64 (65 + E.k)) (show ys_117 21 = .int .i64 (65 + E.k) from hF_116 21 (by decide)) (SL.knownY (j := 22) (v := .int .i64 ((65 + E.k) - 5)) (show ys_117 22 = .int .i64 ((65 + E.k) - 5) from hF_116 22 (by decide)) (SL.knownY (j := 23) (v := .int .u8 ((65 + E.k) - 5)) (show ys_117 23 = .int .u8 ((65 + E.k) - 5) from hF_116 23 (by decide)) (?_)))))))))))))))))))
                    clear hF_116 HGR
                    refine SL.go ?_
                    refine SL.val (v := .bool false) (w' := w_114) rfl rfl (run_eqv (by kernel_rfl) (congrArg Value.bool (show (!((60 + E.k) == ((65 + E.k) - 5))) = (false) from (by simp; omega)))) ?_
                    refine SL.v (.bool false) ?_
                    refine SL.nil ?_
                    refine CW.cond_false (by kernel_rfl) ?_
                    refine CW.skip ?_
                    refine CW.region ?_
                    refine SL.v (.int .i64 ((k : Nat) : Int)) ?_
                    refine SL.val (v := .int .i64 ((k + 1 : Nat) : Int)) (w' := w_114) rfl rfl (by have hw : IntKind.i64.wrap (((k : Nat) : Int) + 1) = ((k + 1 : Nat) : Int) := (IntWalk.i64_in _ (by omega)).trans (by omega); exact run_eqv (by kernel_rfl) (congrArg (fun z => Value.int .i64 z) hw)) ?_
                    refine SL.v (.int .i64 ((k + 1 : Nat) : Int)) ?_
                    refine SL.nil ?_
                    exact ⟨_, ⟨k + 1, rfl, (hs_115.pick [1, 1, 0] rfl), (by omega), (by kernel_rfl), (by kernel_rfl), (by kernel_rfl), (by kernel_rfl), (by kernel_rfl), (by kernel_rfl)⟩, by omega⟩
                · try rw [hb_83]
                  refine CW.region ?_
                  refine SL.v (.slice va_56 ((keyE E m lv ei).length) vc_57) ?_
                  have hko : KeyOk (keyE E m lv ei) [⟨4, 60 + E.k, 0, [], [], []⟩] := by
                    have h_ := arrow_ok E.k E.c E.sh E.ct (hasB m 3) (hasB m 4) (hasB m 12) (hasB m 13) lv ei hkc
                    unfold keyE; rw [hb_63]; rw [hb_83] at h_ ⊢; exact h_
                  have hko2 : (keyE E m lv ei).length ≤ 6 := hko.len
                  refine SL.callH (f := 6) (args := #[.pointer (some ⟨g_7, 0, none⟩), .slice va_56 ((keyE E m lv ei).length) vc_57]) (Pre := [parH g_7, brH va_56 (keyE E m lv ei).length vc_57 (keyE E m lv ei)]) (Rest := [pt g_1 #[.int .u32 (m.toNat : Int), .int .i64 lv, .bool ei, .string s] 26, pt g_4 #[.string ⟨#[]⟩, .string ⟨#[]⟩, .string ⟨#[]⟩, .string ⟨#[]⟩, .string ⟨#[]⟩, .string ⟨#[]⟩, .string ⟨#[]⟩, .string ⟨#[]⟩, .string ⟨#[]⟩, .string ⟨#[]⟩, .string ⟨#[]⟩, .string ⟨#[]⟩, .string ⟨#[]⟩, .string ⟨#[]⟩, .string ⟨#[]⟩, .string ⟨#[]⟩, .string ⟨#[]⟩, .string ⟨#[]⟩, .bool false] 29, pt g_25 #[.int .i64 E.k, .int .u8 E.c, .bool E.sh, .bool E.ct] 40]) [3, 0] hs_61 rfl rfl (by kernel_rfl) rfl (feed_tr (l := keyE E m lv ei) (ts := [⟨4, 60 + E.k, 0, [], [], []⟩]) g_7 vc_57 va_56 w_59 hko) ?_
                  rintro v_ Q_ w_131 ⟨a_119, c_120, qs_121, rfl, hq_122, rfl⟩ hs_133
                  have hs_133 : SH [] w w_131 [parH g_7, rowH 34 6 a_119 1 c_120 (tsCells [⟨4, 60 + E.k, 0, [], [], []⟩] qs_121), pt g_1 #[.int .u32 (m.toNat : Int), .int .i64 lv, .bool ei, .string s] 26, pt g_4 #[.string ⟨#[]⟩, .string ⟨#[]⟩, .string ⟨#[]⟩, .string ⟨#[]⟩, .string ⟨#[]⟩, .string ⟨#[]⟩, .string ⟨#[]⟩, .string ⟨#[]⟩, .string ⟨#[]⟩, .string ⟨#[]⟩, .string ⟨#[]⟩, .string ⟨#[]⟩, .string ⟨#[]⟩, .string ⟨#[]⟩, .string ⟨#[]⟩, .string ⟨#[]⟩, .string ⟨#[]⟩, .string ⟨#[]⟩, .bool false] 29, pt g_25 #[.int .i64 E.k, .int .u8 E.c, .bool E.sh, .bool E.ct] 40] := hs_133
                  obtain ⟨q_130, rfl⟩ : ∃ q_130, qs_121 = [q_130] := by
                    match qs_121, hq_122 with
                    | [q_130], _ => exact ⟨q_130, rfl⟩
                  obtain ⟨g_123, pad_124, ha_125, hs_126, hl_127, hc_128, hm_129⟩ := hs_133.ofRow (i := 1) rfl (by decide)
                  subst ha_125
                  have hs_134 : SH [] w w_131 [parH g_7, pt g_1 #[.int .u32 (m.toNat : Int), .int .i64 lv, .bool ei, .string s] 26, pt g_4 #[.string ⟨#[]⟩, .string ⟨#[]⟩, .string ⟨#[]⟩, .string ⟨#[]⟩, .string ⟨#[]⟩, .string ⟨#[]⟩, .string ⟨#[]⟩, .string ⟨#[]⟩, .string ⟨#[]⟩, .string ⟨#[]⟩, .string ⟨#[]⟩, .string ⟨#[]⟩, .string ⟨#[]⟩, .string ⟨#[]⟩, .string ⟨#[]⟩, .string ⟨#[]⟩, .string ⟨#[]⟩, .string ⟨#[]⟩, .bool false] 29, pt g_25 #[.int .i64 E.k, .int .u8 E.c, .bool E.sh, .bool E.ct] 40, pt g_123 ⟨[.int .i64 4, .int .u8 (60 + E.k), .int .u8 0, q_130.1, .string (strOf []), q_130.2] ++ pad_124⟩ 34] := hs_126
                  refine SL.v (.slice (some ⟨g_123, 0, none⟩) 1 c_120) ?_
                  refine SL.nil ?_
                  refine CW.seq ?_
                  refine CW.seq ?_
                  refine CW.region ?_
                  refine SL.call (f := 7) (args := #[.pointer (some ⟨g_7, 0, none⟩)]) (w1 := w_131) rfl rfl (by kernel_rfl) (idle_par (hs_134.get (i := 0) rfl)) ?_
                  rintro x w_135 ⟨rfl, rfl⟩
                  refine ⟨.bool true, rfl, ?_⟩
                  refine SL.v (.bool false) ?_
                  refine SL.v (.bool false) ?_
                  refine SL.go ?_
                  refine SL.v (.slice (some ⟨g_123, 0, none⟩) 1 c_120) ?_
                  refine SL.go ?_
                  refine SL.val (v := .int .i64 1) (w' := w_131) rfl rfl (by kernel_rfl) ?_
                  refine SL.go ?_
                  refine SL.v (.bool false) ?_
                  refine SL.v (.bool false) ?_
                  refine SL.v (.bool false) ?_
                  refine SL.go ?_
                  refine SL.v (.slice va_56 ((keyE E m lv ei).length) vc_57) ?_
                  refine SL.go ?_
                  refine SL.val (v := .int .i64 (((keyE E m lv ei).length : Nat) : Int)) (w' := w_131) rfl rfl (by kernel_rfl) ?_
                  refine SL.go ?_
                  refine SL.v (.bool (decide (6 < (((keyE E m lv ei).length : Nat) : Int)))) ?_
                  refine SL.v (.bool (decide (6 < (((keyE E m lv ei).length : Nat) : Int)))) ?_
                  refine SL.nil ?_
                  have hb_138 : (decide (6 < (((keyE E m lv ei).length : Nat) : Int))) = false := (decide_eq_false (by omega))
                  rw [hb_138]
                  have hqhb_138 := of_decide_eq_false hb_138
                  refine CW.cond_false (by kernel_rfl) ?_
                  refine CW.skip ?_
                  refine CW.seq ?_
                  refine CW.region ?_
                  refine SL.v (.pointer (some ⟨g_25, 0, none⟩)) ?_
                  refine SL.load (g := g_25) (off := 0) (v := .int .i64 E.k) rfl rfl rfl (by kernel_rfl) (hs_134.pt_at (i := 3) rfl) (by kernel_rfl) ?_
                  refine SL.call (f := 8) (args := #[.int .i64 E.k]) (w1 := w_131) rfl rfl (by kernel_rfl) (hb_62 ▸ cursor_any E.k w_131) ?_
                  rintro x w_139 ⟨rfl, hc_140⟩
                  refine ⟨.bool true, rfl, ?_⟩
                  have hs_141 := hs_134.grow hc_140
                  refine SL.v (.bool true) ?_
                  refine SL.go ?_
                  refine SL.v (.pointer (some ⟨g_1, 0, none⟩)) ?_
                  refine SL.go ?_
                  refine SL.load (g := g_1) (off := 0) (v := .int .u32 (m.toNat : Int)) rfl rfl rfl (by kernel_rfl) (hs_141.pt_at (i := 1) rfl) (by kernel_rfl) ?_
                  refine SL.go ?_
                  refine SL.call (f := 9) (args := #[.int .u32 (m.toNat : Int), .int .i64 0]) (w1 := w_139) rfl rfl (by kernel_rfl) (hb_63 ▸ (hasFor m).h0 w_139) ?_
                  rintro x w_142 ⟨rfl, rfl⟩
                  refine ⟨.bool false, rfl, ?_⟩
                  refine SL.go ?_
                  refine SL.v (.bool true) ?_
                  refine SL.v (.bool true) ?_
                  refine SL.nil ?_
                  refine CW.cond_true (by kernel_rfl) ?_
                  refine CW.seq ?_
                  refine CW.region ?_
                  refine SL.v (.int .i64 4) ?_
                  refine SL.nil ?_
                  refine CW.seq ?_
                  refine CW.seq ?_
                  refine CW.region ?_
                  refine SL.v (.pointer (some ⟨g_1, 0, none⟩)) ?_
                  refine SL.load (g := g_1) (off := 0) (v := .int .u32 (m.toNat : Int)) rfl rfl rfl (by kernel_rfl) (hs_141.pt_at (i := 1) rfl) (by kernel_rfl) ?_
                  refine SL.call (f := 9) (args := #[.int .u32 (m.toNat : Int), .int .i64 4]) (w1 := w_139) rfl rfl (by kernel_rfl) (hb_83 ▸ (hasFor m).h4 w_139) ?_
                  rintro x w_145 ⟨rfl, rfl⟩
                  refine ⟨.bool false, rfl, ?_⟩
                  refine SL.nil ?_
                  refine CW.cond_false (by kernel_rfl) ?_
                  refine CW.skip ?_
                  refine CW.seq ?_
                  have HGR : GrL [fun v _ => v = .slice (some ⟨g_123, 0, none⟩) 1 c_120, fun v _ => v = .int .i64 1, fun v _ => v = .bool false, fun v _ => v = .bool false, fun v _ => v = .slice (some ⟨g_123, 0, none⟩) 1 c_120, fun v _ => v = .pointer (some ⟨g_123, 0, none⟩), fun v _ => v = .pointer (some ⟨g_123, 0, none⟩), fun v _ => v = .int .i64 4, fun v _ => v = .int .i64 4, fun v _ => v = .bool false, fun v _ => v = .bool false, fun v _ => v = .bool false, fun v _ => v = .slice (some ⟨g_123, 0, none⟩) 1 c_120, fun v _ => v = .slice (some ⟨g_123, 0, none⟩) 1 c_120, fun v _ => v = .int .i64 1, fun v _ => v = .int .i64 0, fun v _ => v = .pointer (some ⟨g_123, 0, none⟩), fun v _ => v = .pointer (some ⟨g_123, 1, none⟩), fun v _ => v = .int .u8 (60 + E.k), fun v _ => v = .pointer (some ⟨g_25, 0, none⟩), fun v _ => v = .int .i64 E.k, fun v _ => v = .int .i64 (65 + E.k), fun v _ => v = .int .i64 ((65 + E.k) - 5), fun v _ => v = .int .u8 ((65 + E.k) - 5)] := ⟨fun _ _ _ _ h => h, ⟨fun _ _ _ _ h => h, ⟨fun _ _ _ _ h => h, ⟨fun _ _ _ _ h => h, ⟨fun _ _ _ _ h => h, ⟨fun _ _ _ _ h => h, ⟨fun _ _ _ _ h => h, ⟨fun _ _ _ _ h => h, ⟨fun _ _ _ _ h => h, ⟨fun _ _ _ _ h => h, ⟨fun _ _ _ _ h => h, ⟨fun _ _ _ _ h => h, ⟨fun _ _ _ _ h => h, ⟨fun _ _ _ _ h => h, ⟨fun _ _ _ _ h => h, ⟨fun _ _ _ _ h => h, ⟨fun _ _ _ _ h => h, ⟨fun _ _ _ _ h => h, ⟨fun _ _ _ _ h => h, ⟨fun _ _ _ _ h => h, ⟨fun _ _ _ _ h => h, ⟨fun _ _ _ _ h => h, ⟨fun _ _ _ _ h => h, ⟨fun _ _ _ _ h => h, trivial⟩⟩⟩⟩⟩⟩⟩⟩⟩⟩⟩⟩⟩⟩⟩⟩⟩⟩⟩⟩⟩⟩⟩⟩
                  refine CW.draw 24 (FW [fun v _ => v = .slice (some ⟨g_123, 0, none⟩) 1 c_120, fun v _ => v = .int .i64 1, fun v _ => v = .bool false, fun v _ => v = .bool false, fun v _ => v = .slice (some ⟨g_123, 0, none⟩) 1 c_120, fun v _ => v = .pointer (some ⟨g_123, 0, none⟩), fun v _ => v = .pointer (some ⟨g_123, 0, none⟩), fun v _ => v = .int .i64 4, fun v _ => v = .int .i64 4, fun v _ => v = .bool false, fun v _ => v = .bool false, fun v _ => v = .bool false, fun v _ => v = .slice (some ⟨g_123, 0, none⟩) 1 c_120, fun v _ => v = .slice (some ⟨g_123, 0, none⟩) 1 c_120, fun v _ => v = .int .i64 1, fun v _ => v = .int .i64 0, fun v _ => v = .pointer (some ⟨g_123, 0, none⟩), fun v _ => v = .pointer (some ⟨g_123, 1, none⟩), fun v _ => v = .int .u8 (60 + E.k), fun v _ => v = .pointer (some ⟨g_25, 0, none⟩), fun v _ => v = .int .i64 E.k, fun v _ => v = .int .i64 (65 + E.k), fun v _ => v = .int .i64 ((65 + E.k) - 5), fun v _ => v = .int .u8 ((65 + E.k) - 5)]) (fun W => Gr w_139 W) (by kernel_rfl) (by kernel_rfl) (by kernel_rfl) (by kernel_rfl) (by kernel_rfl) (Gr.refl _).drew ?_ ?_
                  · refine ⟨?_, ⟨?_, ⟨?_, ⟨?_, ⟨?_, ⟨?_, ⟨?_, ⟨?_, ⟨?_, ⟨?_, ⟨?_, ⟨?_, ⟨?_, ⟨?_, ⟨?_, ⟨?_, ⟨?_, ⟨?_, ⟨?_, ⟨?_, ⟨?_, ⟨?_, ⟨?_, ⟨?_, trivial⟩⟩⟩⟩⟩⟩⟩⟩⟩⟩⟩⟩⟩⟩⟩⟩⟩⟩⟩⟩⟩⟩⟩⟩
                    · intro L ys W hB hF hP K hK
                      show OpE _ _ _ W K
                      exact OpE.val (.slice (some ⟨g_123, 0, none⟩) 1 c_120) W (by kernel_rfl) (hK _ W hB rfl (fun _ _ h => h))
                    · intro L ys W hB hF hP K hK
                      show OpE _ _ _ W K
                      exact OpE.known (j := 0) (v := .slice (some ⟨g_123, 0, none⟩) 1 c_120) (hF 0 (hP.1 rfl)) (OpE.val (.int .i64 1) W (by kernel_rfl) (hK _ W hB rfl (fun _ _ h => h)))
                    · intro L ys W hB hF hP K hK
                      show OpE _ _ _ W K
                      exact OpE.known (j := 1) (v := .int .i64 1) (hF 1 (hP.1 rfl)) (OpE.val (.bool false) W (by kernel_rfl) (hK _ W hB rfl (fun _ _ h => h)))
                    · intro L ys W hB hF hP K hK
                      show OpE _ _ _ W K
                      exact OpE.known (j := 2) (v := .bool false) (hF 2 (hP.1 rfl)) (OpE.val (.bool false) W (by kernel_rfl) (hK _ W hB rfl (fun _ _ h => h)))
                    · intro L ys W hB hF hP K hK
                      refine ⟨86, false, rfl, (show fillE _ 0 ys _ 86 = _ from (hF 3 (hP.1 rfl))), .inl ⟨rfl, ?_⟩⟩
                      exact OpE.val (.slice (some ⟨g_123, 0, none⟩) 1 c_120) W (by kernel_rfl) (hK _ W hB rfl (fun _ _ h => h))
                    · intro L ys W hB hF hP K hK
                      refine ⟨86, false, rfl, (show fillE _ 0 ys _ 86 = _ from (hF 3 (hP.2.1 rfl))), .inl ⟨rfl, ?_⟩⟩
                      exact OpE.known (j := 4) (v := .slice (some ⟨g_123, 0, none⟩) 1 c_120) (hF 4 (hP.1 rfl)) (OpE.val (.pointer (some ⟨g_123, 0, none⟩)) W (by kernel_rfl) (hK _ W hB rfl (fun _ _ h => h)))
                    · intro L ys W hB hF hP K hK
                      refine ⟨86, false, rfl, (show fillE _ 0 ys _ 86 = _ from (hF 3 (hP.2.1 rfl))), .inl ⟨rfl, ?_⟩⟩
                      exact OpE.known (j := 5) (v := .pointer (some ⟨g_123, 0, none⟩)) (hF 5 (hP.1 rfl)) (OpE.val (.pointer (some ⟨g_123, 0, none⟩)) W (by kernel_rfl) (hK _ W hB rfl (fun _ _ h => h)))
                    · intro L ys W hB hF hP K hK
                      refine ⟨86, false, rfl, (show fillE _ 0 ys _ 86 = _ from (hF 3 (hP.2.1 rfl))), .inl ⟨rfl, ?_⟩⟩
                      exact OpE.known (j := 6) (v := .pointer (some ⟨g_123, 0, none⟩)) (hF 6 (hP.1 rfl)) (OpE.load (g := g_123) (off := 0) (v := .int .i64 4) rfl (by kernel_rfl) ((hs_141.grow hB).pt_at (i := 4) rfl) (by kernel_rfl) (hK _ W hB rfl (fun _ _ h => h)))
                    · intro L ys W hB hF hP K hK
                      refine ⟨86, false, rfl, (show fillE _ 0 ys _ 86 = _ from (hF 3 (hP.1 rfl))), .inl ⟨rfl, ?_⟩⟩
                      exact OpE.val (.int .i64 4) W (by kernel_rfl) (hK _ W hB rfl (fun _ _ h => h))
                    · intro L ys W hB hF hP K hK
                      refine ⟨86, false, rfl, (show fillE _ 0 ys _ 86 = _ from (hF 3 (hP.2.2.1 rfl))), .inl ⟨rfl, ?_⟩⟩
                      exact OpE.known (j := 7) (v := .int .i64 4) (hF 7 (hP.1 rfl)) (OpE.known (j := 8) (v := .int .i64 4) (hF 8 (hP.2.1 rfl)) (OpE.val (.bool false) W (by kernel_rfl) (hK _ W hB rfl (fun _ _ h => h))))
                    · intro L ys W hB hF hP K hK
                      show OpE _ _ _ W K
                      exact OpE.known (j := 3) (v := .bool false) (hF 3 (hP.1 rfl)) (OpE.known (j := 9) (v := .bool false) (hF 9 (hP.2.1 rfl)) (OpE.val (.bool false) W (by kernel_rfl) (hK _ W hB rfl (fun _ _ h => h))))
                    · intro L ys W hB hF hP K hK
                      show OpE _ _ _ W K
                      exact OpE.known (j := 10) (v := .bool false) (hF 10 (hP.1 rfl)) (OpE.val (.bool false) W (by kernel_rfl) (hK _ W hB rfl (fun _ _ h => h)))
                    · intro L ys W hB hF hP K hK
                      refine ⟨94, false, rfl, (show fillE _ 0 ys _ 94 = _ from (hF 11 (hP.1 rfl))), .inl ⟨rfl, ?_⟩⟩
                      exact OpE.val (.slice (some ⟨g_123, 0, none⟩) 1 c_120) W (by kernel_rfl) (hK _ W hB rfl (fun _ _ h => h))
                    · intro L ys W hB hF hP K hK
                      refine ⟨94, false, rfl, (show fillE _ 0 ys _ 94 = _ from (hF 11 (hP.1 rfl))), .inl ⟨rfl, ?_⟩⟩
                      exact OpE.val (.slice (some ⟨g_123, 0, none⟩) 1 c_120) W (by kernel_rfl) (hK _ W hB rfl (fun _ _ h => h))
                    · intro L ys W hB hF hP K hK
                      refine ⟨94, false, rfl, (show fillE _ 0 ys _ 94 = _ from (hF 11 (hP.2.1 rfl))), .inl ⟨rfl, ?_⟩⟩
                      exact OpE.known (j := 13) (v := .slice (some ⟨g_123, 0, none⟩) 1 c_120) (hF 13 (hP.1 rfl)) (OpE.val (.int .i64 1) W (by kernel_rfl) (hK _ W hB rfl (fun _ _ h => h)))
                    · intro L ys W hB hF hP K hK
                      refine ⟨94, false, rfl, (show fillE _ 0 ys _ 94 = _ from (hF 11 (hP.2.1 rfl))), .inl ⟨rfl, ?_⟩⟩
                      exact OpE.known (j := 14) (v := .int .i64 1) (hF 14 (hP.1 rfl)) (OpE.val (.int .i64 0) W (by kernel_rfl) (hK _ W hB rfl (fun _ _ h => h)))
                    · intro L ys W hB hF hP K hK
                      refine ⟨94, false, rfl, (show fillE _ 0 ys _ 94 = _ from (hF 11 (hP.2.2.1 rfl))), .inl ⟨rfl, ?_⟩⟩
                      exact OpE.known (j := 12) (v := .slice (some ⟨g_123, 0, none⟩) 1 c_120) (hF 12 (hP.1 rfl)) (OpE.known (j := 15) (v := .int .i64 0) (hF 15 (hP.2.1 rfl)) (OpE.val (.pointer (some ⟨g_123, 0, none⟩)) W (by kernel_rfl) (hK _ W hB rfl (fun _ _ h => h))))
                    · intro L ys W hB hF hP K hK
                      refine ⟨94, false, rfl, (show fillE _ 0 ys _ 94 = _ from (hF 11 (hP.2.1 rfl))), .inl ⟨rfl, ?_⟩⟩
                      exact OpE.known (j := 16) (v := .pointer (some ⟨g_123, 0, none⟩)) (hF 16 (hP.1 rfl)) (OpE.val (.pointer (some ⟨g_123, 1, none⟩)) W (by kernel_rfl) (hK _ W hB rfl (fun _ _ h => h)))
                    · intro L ys W hB hF hP K hK
                      refine ⟨94, false, rfl, (show fillE _ 0 ys _ 94 = _ from (hF 11 (hP.2.1 rfl))), .inl ⟨rfl, ?_⟩⟩
                      exact OpE.known (j := 17) (v := .pointer (some ⟨g_123, 1, none⟩)) (hF 17 (hP.1 rfl)) (OpE.load (g := g_123) (off := 1) (v := .int .u8 (60 + E.k)) rfl (by kernel_rfl) ((hs_141.grow hB).pt_at (i := 4) rfl) (by kernel_rfl) (hK _ W hB rfl (fun _ _ h => h)))
                    · intro L ys W hB hF hP K hK
                      refine ⟨94, false, rfl, (show fillE _ 0 ys _ 94 = _ from (hF 11 (hP.1 rfl))), .inl ⟨rfl, ?_⟩⟩
                      exact OpE.val (.pointer (some ⟨g_25, 0, none⟩)) W (by kernel_rfl) (hK _ W hB rfl (fun _ _ h => h))
                    · intro L ys W hB hF hP K hK
                      refine ⟨94, false, rfl, (show fillE _ 0 ys _ 94 = _ from (hF 11 (hP.2.1 rfl))), .inl ⟨rfl, ?_⟩⟩
                      exact OpE.known (j := 19) (v := .pointer (some ⟨g_25, 0, none⟩)) (hF 19 (hP.1 rfl)) (OpE.load (g := g_25) (off := 0) (v := .int .i64 E.k) rfl (by kernel_rfl) ((hs_141.grow hB).pt_at (i := 3) rfl) (by kernel_rfl) (hK _ W hB rfl (fun _ _ h => h)))
                    · intro L ys W hB hF hP K hK
                      refine ⟨94, false, rfl, (show fillE _ 0 ys _ 94 = _ from (hF 11 (hP.2.1 rfl))), .inl ⟨rfl, ?_⟩⟩
                      exact OpE.known (j := 20) (v := .int .i64 E.k) (hF 20 (hP.1 rfl)) (OpE.val (.int .i64 (65 + E.k)) W (by have hw : IntKind.i64.wrap (65 + E.k) = 65 + E.k := IntWalk.i64_in _ (by omega); exact run_eqv (by kernel_rfl) (congrArg (fun z => Value.int .i64 z) hw)) (hK _ W hB rfl (fun _ _ h => h)))
                    · intro L ys W hB hF hP K hK
                      refine ⟨94, false, rfl, (show fillE _ 0 ys _ 94 = _ from (hF 11 (hP.2.1 rfl))), .inl ⟨rfl, ?_⟩⟩
                      exact OpE.known (j := 21) (v := .int .i64 (65 + E.k)) (hF 21 (hP.1 rfl)) (OpE.val (.int .i64 ((65 + E.k) - 5)) W (by have hw : IntKind.i64.wrap ((65 + E.k) - 5) = (65 + E.k) - 5 := IntWalk.i64_in _ (by omega); exact run_eqv (by kernel_rfl) (congrArg (fun z => Value.int .i64 z) hw)) (hK _ W hB rfl (fun _ _ h => h)))
                    · intro L ys W hB hF hP K hK
                      refine ⟨94, false, rfl, (show fillE _ 0 ys _ 94 = _ from (hF 11 (hP.2.1 rfl))), .inl ⟨rfl, ?_⟩⟩
                      exact OpE.known (j := 22) (v := .int .i64 ((65 + E.k) - 5)) (hF 22 (hP.1 rfl)) (OpE.val (.int .u8 ((65 + E.k) - 5)) W (by have hw : IntKind.u8.wrap ((65 + E.k) - 5) = (65 + E.k) - 5 := wrap_u8 (by omega) (by omega); exact run_eqv (by kernel_rfl) (congrArg (fun z => Value.int .u8 z) hw)) (hK _ W hB rfl (fun _ _ h => h)))
                  · intro ys_151 w_148 hs_149 hF_150
                    have hg_152 := hs_149
                    have hs_149 : SH [] w w_148 [parH g_7, pt g_1 #[.int .u32 (m.toNat : Int), .int .i64 lv, .bool ei, .string s] 26, pt g_4 #[.string ⟨#[]⟩, .string ⟨#[]⟩, .string ⟨#[]⟩, .string ⟨#[]⟩, .string ⟨#[]⟩, .string ⟨#[]⟩, .string ⟨#[]⟩, .string ⟨#[]⟩, .string ⟨#[]⟩, .string ⟨#[]⟩, .string ⟨#[]⟩, .string ⟨#[]⟩, .string ⟨#[]⟩, .string ⟨#[]⟩, .string ⟨#[]⟩, .string ⟨#[]⟩, .string ⟨#[]⟩, .string ⟨#[]⟩, .bool false] 29, pt g_25 #[.int .i64 E.k, .int .u8 E.c, .bool E.sh, .bool E.ct] 40, pt g_123 ⟨[.int .i64 4, .int .u8 (60 + E.k), .int .u8 0, q_130.1, .string (strOf []), q_130.2] ++ pad_124⟩ 34] := hs_141.grow hg_152
                    refine SL.knownY (j := 4) (v := .slice (some ⟨g_123, 0, none⟩) 1 c_120) (show ys_151 4 = .slice (some ⟨g_123, 0, none⟩) 1 c_120 from hF_150 4 (by decide)) (SL.knownY (j := 5) (v := .pointer (some ⟨g_123, 0, none⟩)) (show ys_151 5 = .pointer (some ⟨g_123, 0, none⟩) from hF_150 5 (by decide)) (SL.knownY (j := 6) (v := .pointer (some ⟨g_123, 0, none⟩)) (show ys_151 6 = .pointer (some ⟨g_123, 0, none⟩) from hF_150 6 (by decide)) (SL.knownY (j := 7) (v := .int .i64 4) (show ys_151 7 = .int .i64 4 from hF_150 7 (by decide)) (SL.knownY (j := 8) (v := .int .i64 4) (show ys_151 8 = .int .i64 4 from hF_150 8 (by decide)) (SL.knownY (j := 9) (v := .bool false) (show ys_151 9 = .bool false from hF_150 9 (by decide)) (SL.knownY (j := 11) (v := .bool false) (show ys_151 11 = .bool false from hF_150 11 (by decide)) (SL.knownY (j := 12) (v := .slice (some ⟨g_123, 0, none⟩) 1 c_120) (show ys_151 12 = .slice (some ⟨g_123, 0, none⟩) 1 c_120 from hF_150 12 (by decide)) (SL.knownY (j := 13) (v := .slice (some ⟨g_123, 0, none⟩) 1 c_120) (show ys_151 13 = .slice (some ⟨g_123, 0, none⟩) 1 c_120 from hF_150 13 (by decide)) (SL.knownY (j := 14) (v := .int .i64 1) (show ys_151 14 = .int .i64 1 from hF_150 14 (by decide)) (SL.knownY (j := 15) (v := .int .i64 0) (show ys_151 15 = .int .i64 0 from hF_150 15 (by decide)) (SL.knownY (j := 16) (v := .pointer (some ⟨g_123, 0, none⟩)) (show ys_151 16 = .pointer (some ⟨g_123, 0, none⟩) from hF_150 16 (by decide)) (SL.knownY (j := 17) (v := .pointer (some ⟨g_123, 1, none⟩)) (show ys_151 17 = .pointer (some ⟨g_123, 1, none⟩) from hF_150 17 (by decide)) (SL.knownY (j := 18) (v := .int .u8 (60 + E.k)) (show ys_151 18 = .int .u8 (60 + E.k) from hF_150 18 (by decide)) (SL.knownY (j := 19) (v := .pointer (some ⟨g_25, 0, none⟩)) (show ys_151 19 = .pointer (some ⟨g_25, 0, none⟩) from hF_150 19 (by decide)) (SL.knownY (j := 20) (v := .int .i64 E.k) (show ys_151 20 = .int .i64 E.k from hF_150 20 (by decide)) (SL.knownY (j := 21) (v := .int .i64 (65 + E.k)) (show ys_151 21 = .int .i64 (65 + E.k) from hF_150 21 (by decide)) (SL.knownY (j := 22) (v := .int .i64 ((65 + E.k) - 5)) (show ys_151 22 = .int .i64 ((65 + E.k) - 5) from hF_150 22 (by decide)) (SL.knownY (j := 23) (v := .int .u8 ((65 + E.k) - 5)) (show ys_151 23 = .int .u8 ((65 + E.k) - 5) from hF_150 23 (by decide)) (?_)))))))))))))))))))
                    clear hF_150 HGR
                    refine SL.go ?_
                    refine SL.val (v := .bool false) (w' := w_148) rfl rfl (run_eqv (by kernel_rfl) (congrArg Value.bool (show (!((60 + E.k) == ((65 + E.k) - 5))) = (false) from (by simp; omega)))) ?_
                    refine SL.v (.bool false) ?_
                    refine SL.nil ?_
                    refine CW.cond_false (by kernel_rfl) ?_
                    refine CW.skip ?_
                    refine CW.region ?_
                    refine SL.v (.int .i64 ((k : Nat) : Int)) ?_
                    refine SL.val (v := .int .i64 ((k + 1 : Nat) : Int)) (w' := w_148) rfl rfl (by have hw : IntKind.i64.wrap (((k : Nat) : Int) + 1) = ((k + 1 : Nat) : Int) := (IntWalk.i64_in _ (by omega)).trans (by omega); exact run_eqv (by kernel_rfl) (congrArg (fun z => Value.int .i64 z) hw)) ?_
                    refine SL.v (.int .i64 ((k + 1 : Nat) : Int)) ?_
                    refine SL.nil ?_
                    exact ⟨_, ⟨k + 1, rfl, (hs_149.pick [1, 1, 0] rfl), (by omega), (by kernel_rfl), (by kernel_rfl), (by kernel_rfl), (by kernel_rfl), (by kernel_rfl), (by kernel_rfl)⟩, by omega⟩
            · try rw [hb_62]
              refine CW.region ?_
              refine SL.v (.slice va_56 ((keyE E m lv ei).length) vc_57) ?_
              obtain ⟨ts, hko⟩ := key_ok E.k E.c E.sh E.ct (hasB m 0) (hasB m 3) (hasB m 4) (hasB m 12) (hasB m 13) lv ei hcE hsk.1 hsk.2.1 hsk.2.2
              have hko1 := hko.toks
              have hko2 : (keyE E m lv ei).length ≤ 6 := hko.len
              refine SL.callH (f := 6) (args := #[.pointer (some ⟨g_7, 0, none⟩), .slice va_56 ((keyE E m lv ei).length) vc_57]) (Pre := [parH g_7, brH va_56 (keyE E m lv ei).length vc_57 (keyE E m lv ei)]) (Rest := [pt g_1 #[.int .u32 (m.toNat : Int), .int .i64 lv, .bool ei, .string s] 26, pt g_4 #[.string ⟨#[]⟩, .string ⟨#[]⟩, .string ⟨#[]⟩, .string ⟨#[]⟩, .string ⟨#[]⟩, .string ⟨#[]⟩, .string ⟨#[]⟩, .string ⟨#[]⟩, .string ⟨#[]⟩, .string ⟨#[]⟩, .string ⟨#[]⟩, .string ⟨#[]⟩, .string ⟨#[]⟩, .string ⟨#[]⟩, .string ⟨#[]⟩, .string ⟨#[]⟩, .string ⟨#[]⟩, .string ⟨#[]⟩, .bool false] 29, pt g_25 #[.int .i64 E.k, .int .u8 E.c, .bool E.sh, .bool E.ct] 40]) [3, 0] hs_61 rfl rfl (by kernel_rfl) rfl (feed_tr (l := keyE E m lv ei) (ts := ts) g_7 vc_57 va_56 w_59 hko) ?_
              rintro v_ Q_ w_158 ⟨a_153, c_154, qs_155, rfl, hq_156, rfl⟩ hs_160
              have hs_160 : SH [] w w_158 [parH g_7, rowH 34 6 a_153 ts.length c_154 (tsCells ts qs_155), pt g_1 #[.int .u32 (m.toNat : Int), .int .i64 lv, .bool ei, .string s] 26, pt g_4 #[.string ⟨#[]⟩, .string ⟨#[]⟩, .string ⟨#[]⟩, .string ⟨#[]⟩, .string ⟨#[]⟩, .string ⟨#[]⟩, .string ⟨#[]⟩, .string ⟨#[]⟩, .string ⟨#[]⟩, .string ⟨#[]⟩, .string ⟨#[]⟩, .string ⟨#[]⟩, .string ⟨#[]⟩, .string ⟨#[]⟩, .string ⟨#[]⟩, .string ⟨#[]⟩, .string ⟨#[]⟩, .string ⟨#[]⟩, .bool false] 29, pt g_25 #[.int .i64 E.k, .int .u8 E.c, .bool E.sh, .bool E.ct] 40] := hs_160
              refine SL.v (.slice a_153 ts.length c_154) ?_
              refine SL.nil ?_
              refine CW.seq ?_
              refine CW.seq ?_
              refine CW.region ?_
              refine SL.call (f := 7) (args := #[.pointer (some ⟨g_7, 0, none⟩)]) (w1 := w_158) rfl rfl (by kernel_rfl) (idle_par (hs_160.get (i := 0) rfl)) ?_
              rintro x w_161 ⟨rfl, rfl⟩
              refine ⟨.bool true, rfl, ?_⟩
              refine SL.v (.bool false) ?_
              refine SL.v (.bool false) ?_
              refine SL.go ?_
              refine SL.v (.slice a_153 ts.length c_154) ?_
              refine SL.go ?_
              refine SL.val (v := .int .i64 ((ts.length : Nat) : Int)) (w' := w_158) rfl rfl (by kernel_rfl) ?_
              refine SL.go ?_
              refine SL.v (.bool (decide (2 < ((ts.length : Nat) : Int)))) ?_
              refine SL.v (.bool (decide (2 < ((ts.length : Nat) : Int)))) ?_
              refine SL.v (.bool (decide (2 < ((ts.length : Nat) : Int)))) ?_
              have hb_164 : (decide (2 < ((ts.length : Nat) : Int))) = false := (decide_eq_false (by omega))
              rw [hb_164]
              have hqhb_164 := of_decide_eq_false hb_164
              refine SL.go ?_
              refine SL.v (.slice va_56 ((keyE E m lv ei).length) vc_57) ?_
              refine SL.go ?_
              refine SL.val (v := .int .i64 (((keyE E m lv ei).length : Nat) : Int)) (w' := w_158) rfl rfl (by kernel_rfl) ?_
              refine SL.go ?_
              refine SL.v (.bool (decide (6 < (((keyE E m lv ei).length : Nat) : Int)))) ?_
              refine SL.v (.bool (decide (6 < (((keyE E m lv ei).length : Nat) : Int)))) ?_
              refine SL.nil ?_
              have hb_165 : (decide (6 < (((keyE E m lv ei).length : Nat) : Int))) = false := (decide_eq_false (by omega))
              rw [hb_165]
              have hqhb_165 := of_decide_eq_false hb_165
              refine CW.cond_false (by kernel_rfl) ?_
              refine CW.skip ?_
              refine CW.seq ?_
              refine CW.region ?_
              refine SL.v (.pointer (some ⟨g_25, 0, none⟩)) ?_
              refine SL.load (g := g_25) (off := 0) (v := .int .i64 E.k) rfl rfl rfl (by kernel_rfl) (hs_160.pt_at (i := 4) rfl) (by kernel_rfl) ?_
              refine SL.call (f := 8) (args := #[.int .i64 E.k]) (w1 := w_158) rfl rfl (by kernel_rfl) (hb_62 ▸ cursor_any E.k w_158) ?_
              rintro x w_166 ⟨rfl, hc_167⟩
              refine ⟨.bool false, rfl, ?_⟩
              have hs_168 := hs_160.grow hc_167
              refine SL.v (.bool false) ?_
              refine SL.no false ?_
              refine SL.no false ?_
              refine SL.no false ?_
              refine SL.no false ?_
              refine SL.v (.bool false) ?_
              refine SL.nil ?_
              refine CW.cond_false (by kernel_rfl) ?_
              refine CW.skip ?_
              refine CW.region ?_
              refine SL.v (.int .i64 ((k : Nat) : Int)) ?_
              refine SL.val (v := .int .i64 ((k + 1 : Nat) : Int)) (w' := w_166) rfl rfl (by have hw : IntKind.i64.wrap (((k : Nat) : Int) + 1) = ((k + 1 : Nat) : Int) := (IntWalk.i64_in _ (by omega)).trans (by omega); exact run_eqv (by kernel_rfl) (congrArg (fun z => Value.int .i64 z) hw)) ?_
              refine SL.v (.int .i64 ((k + 1 : Nat) : Int)) ?_
              refine SL.nil ?_
              exact ⟨_, ⟨k + 1, rfl, (hs_168.pick [2, 2, 0] rfl), (by omega), (by kernel_rfl), (by kernel_rfl), (by kernel_rfl), (by kernel_rfl), (by kernel_rfl), (by kernel_rfl)⟩, by omega⟩
    · try rw [hb_24]
      have hqhb_24 := of_decide_eq_false hb_24
      refine CW.cond_false (by kernel_rfl) ?_
      refine CW.exit ?_
      repeat with_reducible first | refine PThen.exit ?_ | refine PBlock.out rfl ?_
      with_reducible refine PBlock.here ?_
      repeat with_reducible refine PBlock.normal ?_
      refine CW.seq ?_
      refine CW.region ?_
      refine SL.v (.bool true) ?_
      refine SL.nil ?_
      refine CW.ret ?_
      repeat with_reducible first | refine PThen.ret ?_ | refine PBlock.ret ?_
      refine PRet.tmp (t := 4) (v := .bool true) rfl rfl (by kernel_rfl) ?_
      exact ⟨rfl, hs_14.gr⟩
  · try rw [hb_23]
    have hqhb_23 := of_decide_eq_false hb_23
    refine SL.no false ?_
    refine SL.no false ?_
    refine SL.v (.bool false) ?_
    refine SL.nil ?_
    refine CW.cond_false (by kernel_rfl) ?_
    refine CW.exit ?_
    repeat with_reducible first | refine PThen.exit ?_ | refine PBlock.out rfl ?_
    with_reducible refine PBlock.here ?_
    repeat with_reducible refine PBlock.normal ?_
    refine CW.seq ?_
    refine CW.region ?_
    refine SL.v (.bool true) ?_
    refine SL.nil ?_
    refine CW.ret ?_
    repeat with_reducible first | refine PThen.ret ?_ | refine PBlock.ret ?_
    refine PRet.tmp (t := 4) (v := .bool true) rfl rfl (by kernel_rfl) ?_
    exact ⟨rfl, hs_14.gr⟩
def BdIn (m : Int) (s : ByteArray) : Prop := (0 ≤ m ∧ m < 4294967296) ∧ s.size ≤ maxLen
theorem int_u32 {c : Int} (h : (Lit.int .u32 c).wf = true) : 0 ≤ c ∧ c < 4294967296 := by
  have := bounds_u32 h
  omega
set_option maxRecDepth 100000 in
theorem open_bd {H : Type} {enc : TypeId × Value → H} {w : World} {base b0 : Nat} {spare : Nat → Bool} {held : Bool} {r : Reach} {v : Value} {d : DataW H} {p : List MemPlace} {X : Prop}
    (hv : Value.okWide Tryd.prog w r b0 26 v) (h : DataW.Trod enc Tryd.prog w base spare held 26 v d p) (hs : X) :
    ∃ (m lv : Int) (ei : Bool) (s : ByteArray), v = .agg #[.int .u32 m, .int .i64 lv, .bool ei, .string s] ∧ BdIn m s := by
  have hC : Tryd.prog.cellsOf 26 = 4 := by kernel_rfl
  have hC1 : Tryd.prog.cellsOf 24 = 1 := by kernel_rfl
  have hC2 : Tryd.prog.cellsOf 3 = 1 := by kernel_rfl
  have hC3 : Tryd.prog.cellsOf 4 = 1 := by kernel_rfl
  have hC4 : Tryd.prog.cellsOf 9 = 1 := by kernel_rfl
  obtain ⟨cs, rfl, hsz⟩ := okWide_struct Tryd.underlying26 hv
  obtain ⟨l⟩ := cs
  match l, hsz.trans hC with
  | [x0, x1, x2, x3], _ =>
    obtain ⟨fuel, hf⟩ := h
    obtain ⟨xs, n, _, hx, _, hlen, hg⟩ := DataW.trod_struct Tryd.underlying26 hf
    match xs, hlen with
    | [y0, y1, y2, y3], _ =>
      have q0 := hg 0 _ rfl
      have q1 := hg 1 _ rfl
      have q2 := hg 2 _ rfl
      have q3 := hg 3 _ rfl
      simp [hC1, hC2, hC3, hC4, Value.cells] at q0 q1 q2 q3
      obtain ⟨m, e0, _, wm⟩ := DataW.trod_int Tryd.underlying24 q0
      obtain ⟨lv, e1, _, _⟩ := DataW.trod_int Tryd.underlying3 q1
      obtain ⟨ei, e2, _⟩ := DataW.trod_bool Tryd.underlying4 q2
      obtain ⟨s, e3, _, ws⟩ := DataW.trod_string Tryd.underlying9 q3
      simp at e0 e1 e2 e3
      subst e0; subst e1; subst e2; subst e3
      exact ⟨m, lv, ei, s, rfl, int_u32 wm, ws⟩
/-- What the fields of an event hold. -/
def evU : Nat → Value → Prop
  | 0, v => ∃ z, v = .int .i64 z
  | 1, v => ∃ z, v = .int .u8 z ∧ 0 ≤ z ∧ z < 256
  | 2, v => ∃ b, v = .bool b
  | 3, v => ∃ b, v = .bool b
  | _, _ => True
set_option maxRecDepth 100000 in
theorem open_evs {H : Type} {enc : TypeId × Value → H} {w : World} {base b0 : Nat} {spare : Nat → Bool} {held : Bool} {r : Reach} {v : Value} {d : DataW H} {p : List MemPlace}
    (hv : Value.okWide Tryd.prog w r b0 22 v) (h : DataW.Trod enc Tryd.prog w base spare held 22 v d p) :
    ∃ (a : Option Addr) (len cap : Nat), v = .slice a len cap ∧ IsStructs w a len 4 evU := by
  obtain ⟨a, len, cap, rfl⟩ := okWide_slice Tryd.underlying22 hv
  obtain ⟨fuel, hf⟩ := h
  refine ⟨a, len, cap, rfl, ?_⟩
  refine open_structs Tryd.underlying22 Tryd.underlying40 (by kernel_rfl) (by kernel_rfl) (by decide) evU ?_ (a := a) (len := len) (cap := cap) (by simp [Value.cells]) hf
  intro j f v n y hj ht
  match j, hj with
  | 0, hj => injection hj with hj; subst hj; obtain ⟨z, e, hw⟩ := field_int Tryd.underlying3 ht; exact ⟨z, e⟩
  | 1, hj => injection hj with hj; subst hj; obtain ⟨z, e, hw⟩ := field_int Tryd.underlying5 ht; exact ⟨z, e, by have := bounds_u8 hw; omega⟩
  | 2, hj => injection hj with hj; subst hj; exact field_bool Tryd.underlying4 ht
  | 3, hj => injection hj with hj; subst hj; exact field_bool Tryd.underlying4 ht
  | _ + 4, hj => simp at hj
theorem cell_row {w : World} {b o : Nat} {v : Value} (h : w.cell? ⟨b, o, none⟩ = some v) : ∃ C T fr, w.heap[b]? = some (.cells C T fr) ∧ C[o]? = some v := by
  unfold World.cell? at h
  simp only at h
  split at h
  · rename_i C T fr hb
    exact ⟨C, T, fr, hb, h⟩
  · cases h
theorem evs_of {w : World} {a : Option Addr} {n : Nat} (h : IsStructs w a n 4 evU) (hn : 0 < n) : ∃ (b off : Nat) (C : Array Value) (T : TypeId) (fr : Nat × Nat) (evs : List Ev), a = some ⟨b, off, none⟩ ∧ evs.length = n ∧ w.heap[b]? = some (.cells C T fr) ∧
    ∀ i, i < evs.length → (C.toList.drop (off + i * 4)).take 4 = evC (evs.getD i ev0) ∧ 0 ≤ (evs.getD i ev0).c ∧ (evs.getD i ev0).c < 256 := by
  rcases h.2 with h0 | ⟨b, off, ha, hb, hc⟩
  · omega
  obtain ⟨v, hv, _⟩ := hc 0 0 hn (by omega)
  obtain ⟨C, T, fr, hB, _⟩ := cell_row hv
  have hcell : ∀ i j, i < n → j < 4 → ∃ v, C[off + (i * 4 + j)]? = some v ∧ evU j v := by
    intro i j hi hj
    obtain ⟨v, hv, hf⟩ := hc i j hi hj
    obtain ⟨C', T', fr', hB', hC⟩ := cell_row hv
    rw [hB] at hB'
    simp only [Option.some.injEq, Obj.cells.injEq] at hB'
    rw [← hB'.1] at hC
    exact ⟨v, hC, hf⟩
  have hev : ∀ i : Fin n, ∃ e : Ev, (C.toList.drop (off + i.val * 4)).take 4 = evC e ∧ 0 ≤ e.c ∧ e.c < 256 := by
    intro ⟨i, hi⟩
    obtain ⟨v0, x0, z, rfl⟩ := hcell i 0 hi (by omega)
    obtain ⟨v1, x1, c, rfl, hc1⟩ := hcell i 1 hi (by omega)
    obtain ⟨v2, x2, s, rfl⟩ := hcell i 2 hi (by omega)
    obtain ⟨v3, x3, t, rfl⟩ := hcell i 3 hi (by omega)
    refine ⟨⟨z, c, s, t⟩, ?_, hc1⟩
    refine List.ext_getElem? fun q => ?_
    rw [List.getElem?_take, List.getElem?_drop]
    by_cases hq : q < 4
    · rw [if_pos hq, Array.getElem?_toList, show off + i * 4 + q = off + (i * 4 + q) by omega]
      match q, hq with
      | 0, _ => exact x0
      | 1, _ => exact x1
      | 2, _ => exact x2
      | 3, _ => exact x3
    · rw [if_neg hq, List.getElem?_eq_none (by show 4 ≤ q; omega)]
  refine ⟨b, off, C, T, fr, List.ofFn fun i => Classical.choose (hev i), ha, by simp, hB, fun i hi => ?_⟩
  have hi' : i < n := by simpa using hi
  have e : (List.ofFn fun i => Classical.choose (hev i)).getD i ev0 = Classical.choose (hev ⟨i, hi'⟩) := by
    rw [List.getD_eq_getElem?_getD, List.getElem?_eq_getElem hi, Option.getD_some, List.getElem_ofFn]
  rw [e]
  exact Classical.choose_spec (hev ⟨i, hi'⟩)
theorem tabT_metK {w : World} {rest : List (String × DataW Unit)} (h : laidMet Tryd.prog (("internal/strconv.uint64pow10", Rows.laid_internal_strconv_uint64pow10) :: rest) w) : tabT w :=
  tabIs_head2 (g := 1) (by rfl) (by kernel_rfl) (by kernel_rfl) Tryd.underlying121 (by kernel_rfl) (by kernel_rfl) (by kernel_rfl) h
theorem tab_Keyed {w : World} (h : laidMetH Tryd.prog Rows.phosphorKeyedRow.laid w) : tabT w := by
  unfold Rows.phosphorKeyedRow at h
  rw [MakeChecks.laidMetH_plain _ _ _ (by kernel_rfl)] at h
  exact tabT_metK (laidMet_tail2 (laidMet_tail2 h))
theorem keyed_law (a : Option Addr) (n cp : Nat) (m lv : Int) (ei : Bool) (s : ByteArray) (w : World) (hevs : IsStructs w a n 4 evU) (hbd : BdIn m s) (hlaid : laidMetH Tryd.prog Rows.phosphorKeyedRow.laid w) (hsh : w.ShapedOpen Tryd.prog) :
    Calls Tryd.prog 3 #[.slice a n cp, .agg #[.int .u32 m, .int .i64 lv, .bool ei, .string s]] w fun e w' => e = .returned (.bool true) ∧ Gr w w' := by
  have hT := tab_Keyed hlaid
  have hm : m = ((BitVec.ofNat 32 m.toNat).toNat : Int) := by
    have h1 := hbd.1
    rw [BitVec.toNat_ofNat]
    omega
  rw [hm]
  rcases Nat.eq_zero_or_pos n with rfl | hn
  · exact keyed_0 a cp _ lv ei s w hT
  · obtain ⟨b, off, C, T, fr, evs, rfl, rfl, hb, hev⟩ := evs_of hevs hn
    have hmx := hevs.1
    exact keyed_n b off cp C T fr evs _ lv ei s w hT hb hev (by unfold maxLen at hmx; omega)
end Go.Proofs.YtnnhaenmoifplaaDoor
