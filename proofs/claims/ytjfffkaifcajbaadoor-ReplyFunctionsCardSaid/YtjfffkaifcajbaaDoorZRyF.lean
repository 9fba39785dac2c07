/-
  What is answered as a sequence and as a string with numbers: reply.Csi, reply.Dcs, walked.
  The document's answer as a sequence or a string with numbers: phosphorref18.Function, walked.
-/
import Derived.Lib.ConvBytes
import Derived.Test.YtjfffkaifcajbaaDoorZSrcN
import Derived.Test.YtjfffkaifcajbaaDoorZRyD
import Derived.Test.YtjfffkaifcajbaaDoorZTkX0
namespace Go.Proofs.YtjfffkaifcajbaaDoor
set_option linter.unusedSimpArgs false
set_option linter.unusedVariables false
open Go.RowKit
set_option linter.unusedVariables false

/-- An answer: bytes in memory of the call's own. -/
def AnsOwn (w : World) (l : List Int) (e : Ending) (w' : World) : Prop := ∃ va vc, e = .returned (.slice va l.length vc) ∧ w'.ownsRow w.heap.size 5 1 (.slice va l.length vc) l.length (bcells l) ∧ Gr w w'
/-- The bytes of any token: memory of the call's own, none where it can't be. -/
theorem bytes_ans {w : World} {t : Tok} {q : Value × Value} (hr : TRange t) (h : RTok w t q) (hT : tabT w) (eight : Bool) :
    Calls Tryd.prog 39 #[.agg (tcells t q).toArray, .bool eight] w fun e w' => ∃ va vc r, e = .returned (.tuple #[.slice va (ansR t eight).length vc, .int .i64 r]) ∧ w'.ownsRow w.heap.size 5 1 (.slice va (ansR t eight).length vc) (ansR t eight).length (bcells (ansR t eight)) ∧ Gr w w' := by
  by_cases h0 : checkR t = 0
  · refine (bytes_can (check_zero hr h0) h hT eight).mono ?_
    rintro e w' ⟨v, rfl, ⟨w0, hg0, hb⟩, hg⟩
    obtain ⟨va, vc, rfl⟩ := hb.form
    have e : ansR t eight = bytesR t eight := if_pos h0
    exact ⟨va, vc, 0, by rw [e], by rw [e]; exact World.ownsRow.mono hb (gr_le hg0), hg⟩
  · refine (bytes_none hr h h0 eight).mono ?_
    rintro e w' ⟨rfl, hg⟩
    have e : ansR t eight = [] := if_neg h0
    exact ⟨none, 0, _, by rw [e]; rfl, by rw [e]; exact World.ownsRow_nil _ _ _ _, hg⟩
/-- The token that function makes, by name. -/
theorem fun_tok {w : World} {k : Int} {s : ByteArray} {a : Option Addr} {n c : Nat} {ps d : List Int} (h : HasRow w 3 (.slice a n c) n (icells ps)) (hb : n * 8 ≤ 140737488355328) (hs : s.size ≤ 1000) {T : Tok} (hT : T = funT k (nums s) ps d) :
    Calls Tryd.prog 40 #[.int .i64 k, .string s, .slice a n c] w fun e w' => ∃ va ca, e = .returned (.agg #[.int .i64 k, .int .u8 T.code, .int .u8 T.mark, .slice va T.params.length ca, .string (strOf T.inters), .slice none 0 0]) ∧ w'.ownsRow w.heap.size 3 1 (.slice va T.params.length ca) T.params.length (icells T.params) ∧ Gr w w' := by
  subst hT
  refine (fun_walk h hb hs).mono ?_
  rintro e w' ⟨va, ca, rfl, hO, hg⟩
  have hl : (funT k (nums s) ps d).params.length = min ps.length 30 := by show ((ps.take 30).map clip16).length = _; rw [List.length_map, List.length_take]; omega
  exact ⟨va, ca, by rw [hl]; rfl, by rw [hl]; exact hO, hg⟩

set_option maxRecDepth 100000 in
set_option maxHeartbeats 2000000 in
theorem csi_any {w : World} {s : ByteArray} {a : Option Addr} {n c : Nat} {ps : List Int} (eight : Bool) (h : HasRow w 3 (.slice a n c) n (icells ps)) (hb : n * 8 ≤ 140737488355328) (hs : s.size ≤ 1000) (hT : tabT w) :
    Calls Tryd.prog 26 #[.bool eight, .string s, .slice a n c] w (AnsOwn w (ansR (funT 4 (nums s) ps []) eight)) := by
  obtain ⟨T, hTT⟩ : ∃ T, T = funT 4 (nums s) ps [] := ⟨_, rfl⟩
  have hf := fun_tok (d := []) h hb hs hTT
  have hby : ∀ W va ca, Gr w W → W.ownsRow w.heap.size 3 1 (.slice va T.params.length ca) T.params.length (icells T.params) →
      Calls Tryd.prog 39 #[.agg #[.int .i64 4, .int .u8 T.code, .int .u8 T.mark, .slice va T.params.length ca, .string (strOf T.inters), .slice none 0 0], .bool eight] W fun e w' => ∃ va vc r, e = .returned (.tuple #[.slice va (ansR T eight).length vc, .int .i64 r]) ∧ w'.ownsRow W.heap.size 5 1 (.slice va (ansR T eight).length vc) (ansR T eight).length (bcells (ansR T eight)) ∧ Gr W w' := by
    intro W va ca hg hO
    have hr : TRange T := by rw [hTT]; exact fun_range (nums_in s) (by simp)
    have hk : T.kind = 4 := by rw [hTT]; rfl
    have hd : T.data = [] := by rw [hTT]; rfl
    have hq : RTok W T (.slice va T.params.length ca, .slice none 0 0) := ⟨HasRow.of_own hO, by rw [hd]; exact HasRow.nil _ _⟩
    have := bytes_ans hr hq (hT.gr hg) eight
    unfold tcells at this
    rw [hk] at this
    exact this
  rw [← hTT]
  clear h hb hs hTT
  obtain ⟨A, hA⟩ : ∃ A, A = ansR T eight := ⟨_, rfl⟩
  rw [← hA] at hby ⊢
  clear hA
  go_enter Tryd.func26, Tryd.ntmps26
  go_wp2_with (first
    | (go_at_call 40; (with_reducible refine hf.mono ?_); rintro e w1 ⟨va, ca, rfl, hO, hg1⟩)
    | (go_at_call 39; (with_reducible refine (hby _ _ _ hg1 hO).mono ?_); rintro e w2 ⟨vb, cb, r, rfl, hO2, hg2⟩))
  go_ret
  exact ⟨vb, cb, rfl, World.ownsRow.mono hO2 hg1.size, hg1.trans hg2⟩

/-- A new row of bytes that a text was turned into. -/
theorem hasRow_text (w : World) (s : ByteArray) : HasRow (Lib.bytesWorld w 5 s) 5 (.slice (some ⟨w.heap.size, 0, none⟩) s.size (grownCap w s.size 0 5)) s.size (bcells (nums s)) := by
  have hge := grownCap_ge w s.size 0 5
  have hsz : s.data.size = s.size := rfl
  refine ⟨by simp [bcells, nums_len], .inr ⟨w.heap.size, _, Lib.bytesCells w 5 s, rfl, ⟨_, Lib.bytesWorld_at_new w _ s⟩, hge, ?_, ?_⟩⟩
  · simp only [Lib.bytesCells, Array.size_append, Array.size_map, Array.size_replicate, hsz]; omega
  · unfold Lib.bytesCells
    rw [Array.toList_append, List.take_append_of_le_length (by simp [hsz]), List.take_of_length_le (by simp [hsz])]
    simp [bcells, nums]
section
variable {P : Program} {ops : Array Oper} {rest : List Oper} {u : Oper} {a : Act} {w : World} {K : Act → World → Prop} {Q : Exit → Act → World → Prop}
theorem wp_s2bH (x : Operand) (src dst : TypeId) (hu : u.op = .convert src dst x) {td : TypeDesc} (hsrc : P.underlying src = some td) (hdst : P.underlying dst = some (.slice 5)) (he : P.underlying 5 = some (.int .u8))
    (s : ByteArray) (hx : a.eval x = .string s)
    (H : ∀ cap w', HasRow w' 5 (.slice (some ⟨w.heap.size, 0, none⟩) s.size cap) s.size (bcells (nums s)) → Gr w w' → w'.heap.size = w.heap.size + 1 → K (a.put u.dst (.slice (some ⟨w.heap.size, 0, none⟩) s.size cap)) w') : u.wp P a w K Q := by
  have hr := Lib.run_convert_string_bytes (P := P) w src dst 5 s hsrc hdst he
  unfold Oper.wp execOp
  simp only [hu, hx, Sem.run_bind, hr, Result.andThen_ok, Sem.run_pure]
  exact H _ _ (hasRow_text w s) ((Gr.refl w).bytesWorld 5 s) (Lib.bytesWorld_size w 5 s)
theorem wpList_s2bH (hgd : u.guard = none) (x : Operand) (src dst : TypeId) (hu : u.op = .convert src dst x) {td : TypeDesc} (hsrc : P.underlying src = some td) (hdst : P.underlying dst = some (.slice 5)) (he : P.underlying 5 = some (.int .u8))
    (s : ByteArray) (hx : a.eval x = .string s)
    (H : ∀ cap w', HasRow w' 5 (.slice (some ⟨w.heap.size, 0, none⟩) s.size cap) s.size (bcells (nums s)) → Gr w w' → w'.heap.size = w.heap.size + 1 → wpList P ops Q rest (a.put u.dst (.slice (some ⟨w.heap.size, 0, none⟩) s.size cap)) w') : wpList P ops Q (u :: rest) a w :=
  wpList_plain hgd fun _ hK => wp_s2bH x src dst hu hsrc hdst he s hx fun cap w' h1 h2 h3 => hK _ _ (H cap w' h1 h2 h3)
end
theorem HasRow.far1 {w : World} {e e' n T o : Nat} {v u : Value} {xs : List Value} {cs : Array Value} (h : HasRow w e v n xs) (hb : w.heap[T]? = some (.cells cs e' (0, 0))) (hne : e ≠ e') : HasRow (w.setCell ⟨T, o, none⟩ u) e v n xs :=
  h.same fun k hk => Below.heap_setCell w ⟨T, o, none⟩ u k fun x => hasRow_ne h hb hne (by rw [hk]; exact congrArg some x)
set_option maxRecDepth 100000 in
set_option maxHeartbeats 2000000 in
theorem dcs_any {w : World} {s d : ByteArray} {a : Option Addr} {n c : Nat} {ps : List Int} (eight : Bool) (h : HasRow w 3 (.slice a n c) n (icells ps)) (hb : n * 8 ≤ 140737488355328) (hs : s.size ≤ 1000) (hT : tabT w) :
    Calls Tryd.prog 27 #[.bool eight, .string s, .string d, .slice a n c] w (AnsOwn w (ansR (funT 5 (nums s) ps (nums d)) eight)) := by
  obtain ⟨T, hTT⟩ : ∃ T, T = funT 5 (nums s) ps (nums d) := ⟨_, rfl⟩
  have hf := fun_tok (d := nums d) h hb hs hTT
  have hby : ∀ W va ca vb cb, Gr w W → HasRow W 3 (.slice va T.params.length ca) T.params.length (icells T.params) → HasRow W 5 (.slice vb d.size cb) d.size (bcells (nums d)) →
      Calls Tryd.prog 39 #[.agg #[.int .i64 5, .int .u8 T.code, .int .u8 T.mark, .slice va T.params.length ca, .string (strOf T.inters), .slice vb d.size cb], .bool eight] W fun e w' => ∃ va vc r, e = .returned (.tuple #[.slice va (ansR T eight).length vc, .int .i64 r]) ∧ w'.ownsRow W.heap.size 5 1 (.slice va (ansR T eight).length vc) (ansR T eight).length (bcells (ansR T eight)) ∧ Gr W w' := by
    intro W va ca vb cb hg hO hD
    have hr : TRange T := by rw [hTT]; exact fun_range (nums_in s) (nums_in d)
    have hk : T.kind = 5 := by rw [hTT]; rfl
    have hd : T.data = nums d := by rw [hTT]; rfl
    have hq : RTok W T (.slice va T.params.length ca, .slice vb d.size cb) := ⟨hO, by rw [hd, nums_len]; exact hD⟩
    have := bytes_ans hr hq (hT.gr hg) eight
    unfold tcells at this
    rw [hk] at this
    exact this
  rw [← hTT]
  clear h hb hs hTT
  obtain ⟨A, hA⟩ : ∃ A, A = ansR T eight := ⟨_, rfl⟩
  rw [← hA] at hby ⊢
  clear hA
  go_enter Tryd.func27, Tryd.ntmps27
  go_wp2_with (first
    | (go_at_call 40; (with_reducible refine hf.mono ?_); rintro e w1 ⟨va, ca, rfl, hO, hg1⟩; have hnb := heap_alloc_new w1 (.cells #[.int .i64 5, .int .u8 T.code, .int .u8 T.mark, .slice va T.params.length ca, .string (strOf T.inters), .slice none 0 0] 50); have hgA := (Gr.refl w1).alloc (.cells #[.int .i64 5, .int .u8 T.code, .int .u8 T.mark, .slice va T.params.length ca, .string (strOf T.inters), .slice none 0 0] 50))
    | ((with_reducible refine wpList_s2bH rfl _ _ _ rfl Tryd.underlying9 bytesT Tryd.underlying5 d rfl ?_); intro cb w2 hrow hg2 hz2; rw [show (w1.alloc (.cells #[.int .i64 5, .int .u8 T.code, .int .u8 T.mark, .slice va T.params.length ca, .string (strOf T.inters), .slice none 0 0] 50)).heap.size = w1.heap.size + 1 from by simp] at hrow; clear hz2; have hbx := hg2.blk hnb; obtain ⟨t0, t1, t2, t3, t4, t5, tf⟩ := cells6 hbx; have hI2 := fun u => HasRow.far1 (o := 5) (u := u) ((HasRow.of_own hO).gr (hgA.trans hg2)) hbx (by decide); have hU2 := fun u => HasRow.far1 (o := 5) (u := u) hrow hbx (by decide); have hgW := fun u => (hg1.trans (hgA.trans hg2)).setCell (p := ⟨w1.heap.size, 5, none⟩) hg1.size u)
    | (go_at_call 39; (with_reducible refine (hby _ _ _ _ _ (hgW _) (hI2 _) (hU2 _)).mono ?_); rintro e w3 ⟨ve, ce, r, rfl, hO2, hg3⟩))
  go_ret
  exact ⟨ve, ce, rfl, World.ownsRow.mono hO2 (hgW _).size, (hgW _).trans hg3⟩
end Go.Proofs.YtjfffkaifcajbaaDoor

namespace Go.Proofs.YtjfffkaifcajbaaDoor
set_option linter.unusedSimpArgs false
set_option linter.unusedVariables false
open Go.RowKit
set_option linter.unusedVariables false

/-- The document's token being made. -/
structure GBox (w : World) (T : Nat) (k c m : Int) (p : Value) (s : ByteArray) (db : Option Addr) (dn dc : Nat) (d : List Int) (w' : World) : Prop where
  box : w'.heap[T]? = some (.cells #[.int .i64 k, .int .u8 c, .int .u8 m, p, .string s, .slice db dn dc] 76 (0, 0))
  data : HasRow w' 5 (.slice db dn dc) dn (bcells d)
  gr : Gr w w'
  lt : w.heap.size ≤ T
def GRow (w : World) (n : Nat) (p : Value) (l : List Int) (w' : World) : Prop := w'.ownsRow w.heap.size 3 1 p n (icells l)
section
variable {w w' : World} {T dn dc : Nat} {k c m : Int} {p : Value} {s : ByteArray} {db : Option Addr} {d : List Int}
theorem GBox.drew (h : GBox w T k c m p s db dn dc d w') : GBox w T k c m p s db dn dc d w'.drew := ⟨h.box, h.data.gr (Gr.refl _).drew, h.gr.drew, h.lt⟩
theorem GBox.set1 (h : GBox w T k c m p s db dn dc d w') (x : Int) : GBox w T k x m p s db dn dc d (w'.setCell ⟨T, 1, none⟩ (.int .u8 x)) :=
  ⟨blk_set h.box 1 _, h.data.far1 h.box (by decide), h.gr.setCell h.lt _, h.lt⟩
theorem GBox.set2 (h : GBox w T k c m p s db dn dc d w') (x : Int) : GBox w T k c x p s db dn dc d (w'.setCell ⟨T, 2, none⟩ (.int .u8 x)) :=
  ⟨blk_set h.box 2 _, h.data.far1 h.box (by decide), h.gr.setCell h.lt _, h.lt⟩
theorem GBox.set3 (h : GBox w T k c m p s db dn dc d w') (x : Value) : GBox w T k c m x s db dn dc d (w'.setCell ⟨T, 3, none⟩ x) :=
  ⟨blk_set h.box 3 _, h.data.far1 h.box (by decide), h.gr.setCell h.lt _, h.lt⟩
theorem GBox.set4 (h : GBox w T k c m p s db dn dc d w') (x : ByteArray) : GBox w T k c m p x db dn dc d (w'.setCell ⟨T, 4, none⟩ (.string x)) :=
  ⟨blk_set h.box 4 _, h.data.far1 h.box (by decide), h.gr.setCell h.lt _, h.lt⟩
theorem GRow.set {n o : Nat} {l : List Int} {cs : Array Value} (h : GRow w n p l w') (hb : w'.heap[T]? = some (.cells cs 76 (0, 0))) (u : Value) : GRow w n p l (w'.setCell ⟨T, o, none⟩ u) :=
  ownsRow_same h fun k hk => Below.heap_setCell w' ⟨T, o, none⟩ u k fun x => hasRow_ne (HasRow.of_own h) hb (by decide) (by rw [hk]; exact congrArg some x)
theorem GBox.app {w2 : World} {j : Nat} {v : Value} {xs : List Value} {o : Obj} (h : GBox w T k c m p s db dn dc d w') (hR : w'.ownsRow w.heap.size 3 1 v j xs) (hgb : (w'.alloc o).grownBy w2 v.ownBlock) (hg : Gr w w2) : GBox w T k c m p s db dn dc d w2 := by
  have ho := (Gr.refl w').alloc o
  refine ⟨grown_blk hgb (fun e => hasRow_ne (HasRow.of_own hR) h.box (by decide) e.symm) (ho.blk h.box), (h.data.gr ho).same fun q hq => ?_, hg, h.lt⟩
  refine hgb.block q ((h.data.gr ho).blk hq) fun e => ?_
  rcases hR.2 with ⟨rfl, _⟩ | ⟨g, cap, cur, rfl, _, hh, _⟩
  · cases e
  · have hgq : q = g := by simpa [Value.ownBlock] using e
    subst hgq
    exact hasRow_ne h.data hh (by decide) hq
end
/-- What the end of Function is told: the document's Check and Bytes of the token that was made. -/
structure FinKit (w : World) (k y M : Int) (va : Option Addr) (j ca : Nat) (l : List Int) (I : ByteArray) (db : Option Addr) (dn dc : Nat) (d : List Int) (eight : Bool) (A : List Int) (r : Int) : Prop where
  check : ∀ W, Gr w W → HasRow W 3 (.slice va j ca) j (icells l) → HasRow W 5 (.slice db dn dc) dn (bcells d) → Calls Tryd.prog 44 #[.agg #[.int .i64 k, .int .u8 y, .int .u8 M, .slice va j ca, .string I, .slice db dn dc]] W fun e w' => e = .returned (.int .i64 r) ∧ Gr W w'
  bytes : r = 0 → ∀ W, Gr w W → HasRow W 3 (.slice va j ca) j (icells l) → HasRow W 5 (.slice db dn dc) dn (bcells d) → Calls Tryd.prog 45 #[.agg #[.int .i64 k, .int .u8 y, .int .u8 M, .slice va j ca, .string I, .slice db dn dc], .bool eight] W (RBOut W A)
  none : r ≠ 0 → A = []
theorem finKit {w : World} {k y M : Int} {va db : Option Addr} {j ca dn dc : Nat} {l d : List Int} {I : ByteArray} {T0 : Tok} (eight : Bool) (hr : TRange T0) (e0 : T0.kind = k) (e1 : T0.code = y) (e2 : T0.mark = M) (e3 : T0.params = l) (e4 : strOf T0.inters = I) (e5 : T0.data = d) (hj : j ≤ 30) (hca : ca ≤ maxLen) (hjc : j ≤ ca) (hI : T0.inters.length ≤ 1000) (hdn : dn ≤ 100000) :
    FinKit w k y M va j ca l I db dn dc d eight (ansR T0 eight) (checkR T0) := by
  subst e0; subst e1; subst e2; subst e3; subst e4; subst e5
  have hrd : ∀ W, HasRow W 3 (.slice va j ca) j (icells T0.params) → HasRow W 5 (.slice db dn dc) dn (bcells T0.data) → RdTok W T0 va j db dn := fun W h1 h2 => ⟨h1.rd_, h2.rd_, by omega, by omega, by omega⟩
  refine ⟨fun W hg h1 h2 => ?_, fun h0 W hg h1 h2 => ?_, fun h0 => if_neg h0⟩
  · exact rcheck_any hr (hrd W h1 h2)
  · have e : ansR T0 eight = bytesR T0 eight := if_pos h0
    rw [e]
    exact rbytes_can (check_zero hr h0) (hrd W h1 h2) hjc hca eight
end Go.Proofs.YtjfffkaifcajbaaDoor
