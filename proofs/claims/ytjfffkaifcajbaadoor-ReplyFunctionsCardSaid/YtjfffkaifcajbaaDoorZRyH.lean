/-
  Answers of few numbers: the cursor's place and modes, in both texts.
-/
import Derived.Test.YtjfffkaifcajbaaDoorZRyG
namespace Go.Proofs.YtjfffkaifcajbaaDoor
set_option linter.unusedSimpArgs false
set_option linter.unusedVariables false
open Go.RowKit
set_option linter.unusedVariables false

def csiR (id ps : List Int) (eight : Bool) : List Int := ansR (funT 4 id ps []) eight
def dcsR (id d ps : List Int) (eight : Bool) : List Int := ansR (funT 5 id ps d) eight
theorem hasRow_lit {w : World} {g n : Nat} {l : List Int} {cs : Array Value} (hn : l.length = n) (hc : cs = (icells l).toArray) (h : w.heap[g]? = some (.cells cs 3 (0, 0))) : HasRow w 3 (.slice (some ⟨g, 0, none⟩) n n) n (icells l) := by
  subst hc
  refine ⟨by rw [icells_len]; exact hn, .inr ⟨g, n, _, rfl, ⟨_, h⟩, Nat.le_refl _, by simp [icells_len, hn], ?_⟩⟩
  exact List.take_of_length_le (by simp [icells_len, hn])
/-- What the answers are told of a row of numbers, n of them. -/
structure Lits (w : World) (s : ByteArray) (L : List Int) (eight : Bool) : Prop where
  c1 : ∀ W g a, Gr w W → W.heap[g]? = some (.cells #[.int .i64 a] 3 (0, 0)) → Calls Tryd.prog 26 #[.bool eight, .string s, .slice (some ⟨g, 0, none⟩) 1 1] W (AnsOwn W (csiR L [a] eight))
  c2 : ∀ W g a b, Gr w W → W.heap[g]? = some (.cells #[.int .i64 a, .int .i64 b] 3 (0, 0)) → Calls Tryd.prog 26 #[.bool eight, .string s, .slice (some ⟨g, 0, none⟩) 2 2] W (AnsOwn W (csiR L [a, b] eight))
  c3 : ∀ W g a b c, Gr w W → W.heap[g]? = some (.cells #[.int .i64 a, .int .i64 b, .int .i64 c] 3 (0, 0)) → Calls Tryd.prog 26 #[.bool eight, .string s, .slice (some ⟨g, 0, none⟩) 3 3] W (AnsOwn W (csiR L [a, b, c] eight))
  r2 : ∀ W g a b, Gr w W → W.heap[g]? = some (.cells #[.int .i64 a, .int .i64 b] 3 (0, 0)) → Calls Tryd.prog 15 #[.bool eight, .string s, .slice (some ⟨g, 0, none⟩) 2 2] W (RBOut W (csiR L [a, b] eight))
  r3 : ∀ W g a b c, Gr w W → W.heap[g]? = some (.cells #[.int .i64 a, .int .i64 b, .int .i64 c] 3 (0, 0)) → Calls Tryd.prog 15 #[.bool eight, .string s, .slice (some ⟨g, 0, none⟩) 3 3] W (RBOut W (csiR L [a, b, c] eight))
  d1 : ∀ W g a d, Gr w W → W.heap[g]? = some (.cells #[.int .i64 a] 3 (0, 0)) → Calls Tryd.prog 27 #[.bool eight, .string s, .string d, .slice (some ⟨g, 0, none⟩) 1 1] W (AnsOwn W (dcsR L (nums d) [a] eight))
  d0 : ∀ W d, Gr w W → Calls Tryd.prog 27 #[.bool eight, .string s, .string d, .slice none 0 0] W (AnsOwn W (dcsR L (nums d) [] eight))
  e1 : ∀ W g a d, d.size ≤ 100000 → Gr w W → W.heap[g]? = some (.cells #[.int .i64 a] 3 (0, 0)) → Calls Tryd.prog 17 #[.bool eight, .string s, .string d, .slice (some ⟨g, 0, none⟩) 1 1] W (RBOut W (dcsR L (nums d) [a] eight))
  e0 : ∀ W d, d.size ≤ 100000 → Gr w W → Calls Tryd.prog 17 #[.bool eight, .string s, .string d, .slice none 0 0] W (RBOut W (dcsR L (nums d) [] eight))

set_option maxRecDepth 100000 in
set_option maxHeartbeats 1000000 in
theorem rcsi_any {w : World} {s : ByteArray} {a : Option Addr} {n c : Nat} {ps : List Int} (eight : Bool) (h : HasRow w 3 (.slice a n c) n (icells ps)) (hn : n ≤ 9223372036854775807) (hs : s.size ≤ 1000) :
    Calls Tryd.prog 15 #[.bool eight, .string s, .slice a n c] w (RBOut w (csiR (nums s) ps eight)) := by
  have hf := rfun_walk (k := 4) (d := ⟨#[]⟩) eight (.inl rfl) h hn hs (by decide)
  rw [show nums ⟨#[]⟩ = [] from rfl] at hf
  obtain ⟨A, hA⟩ : ∃ A, A = csiR (nums s) ps eight := ⟨_, rfl⟩
  unfold csiR at hA
  rw [← hA] at hf
  unfold csiR
  rw [← hA]
  clear h hA
  go_enter Tryd.func15, Tryd.ntmps15
  go_wp2_with (go_at_call 37; (with_reducible refine hf.mono ?_); rintro e w1 ⟨v, rfl, hv, hg⟩)
  go_ret
  exact ⟨v, rfl, hv, hg⟩
set_option maxRecDepth 100000 in
set_option maxHeartbeats 1000000 in
theorem rdcs_any {w : World} {s d : ByteArray} {a : Option Addr} {n c : Nat} {ps : List Int} (eight : Bool) (h : HasRow w 3 (.slice a n c) n (icells ps)) (hn : n ≤ 9223372036854775807) (hs : s.size ≤ 1000) (hd : d.size ≤ 100000) :
    Calls Tryd.prog 17 #[.bool eight, .string s, .string d, .slice a n c] w (RBOut w (dcsR (nums s) (nums d) ps eight)) := by
  have hf := rfun_walk (k := 5) (d := d) eight (.inr rfl) h hn hs hd
  obtain ⟨A, hA⟩ : ∃ A, A = dcsR (nums s) (nums d) ps eight := ⟨_, rfl⟩
  unfold dcsR at hA
  rw [← hA] at hf
  unfold dcsR
  rw [← hA]
  clear h hA
  go_enter Tryd.func17, Tryd.ntmps17
  go_wp2_with (go_at_call 37; (with_reducible refine hf.mono ?_); rintro e w1 ⟨v, rfl, hv, hg⟩)
  go_ret
  exact ⟨v, rfl, hv, hg⟩
theorem lits {w : World} (s : ByteArray) (L : List Int) (eight : Bool) (hL : nums s = L) (hs : s.size ≤ 1000) (hT : tabT w) : Lits w s L eight := by
  subst hL
  exact ⟨fun W g a hg h => csi_any eight (hasRow_lit (l := [a]) rfl rfl h) (by omega) hs (hT.gr hg),
    fun W g a b hg h => csi_any eight (hasRow_lit (l := [a, b]) rfl rfl h) (by omega) hs (hT.gr hg),
    fun W g a b c hg h => csi_any eight (hasRow_lit (l := [a, b, c]) rfl rfl h) (by omega) hs (hT.gr hg),
    fun W g a b hg h => rcsi_any eight (hasRow_lit (l := [a, b]) rfl rfl h) (by omega) hs,
    fun W g a b c hg h => rcsi_any eight (hasRow_lit (l := [a, b, c]) rfl rfl h) (by omega) hs,
    fun W g a d hg h => dcs_any eight (hasRow_lit (l := [a]) rfl rfl h) (by omega) hs (hT.gr hg),
    fun W d hg => dcs_any eight (ps := []) (HasRow.nil W _) (by omega) hs (hT.gr hg),
    fun W g a d hd hg h => rdcs_any eight (hasRow_lit (l := [a]) rfl rfl h) (by omega) hs hd,
    fun W d hd hg => rdcs_any eight (ps := []) (HasRow.nil W _) (by omega) hs hd⟩

theorem clipI_in (x lo hi : Int) (h : lo ≤ hi) : lo ≤ clipI x lo hi ∧ clipI x lo hi ≤ hi := by unfold clipI; split <;> (try split) <;> omega
theorem clipI_max (x lo hi : Int) (h : lo ≤ hi) : max lo (min x hi) = clipI x lo hi := by unfold clipI; split <;> (try split) <;> omega
theorem clipL (x : Int) (w : World) : Calls Tryd.prog 36 #[.int .i64 x, .int .i64 (-1), .int .i64 65535] w fun e w' => e = .returned (.int .i64 (clipI x (-1) 65535)) ∧ w = w' := by
  go_enter Tryd.func36, Tryd.ntmps36
  go_wp2
  go_ret
  exact ⟨ret_i (clipI_max x (-1) 65535 (by decide)), rfl⟩
theorem clip5 (x : Int) (w : World) : Calls Tryd.prog 36 #[.int .i64 x, .int .i64 1, .int .i64 5] w fun e w' => e = .returned (.int .i64 (clipI x 1 5)) ∧ w = w' := by
  go_enter Tryd.func36, Tryd.ntmps36
  go_wp2
  go_ret
  exact ⟨ret_i (clipI_max x 1 5 (by decide)), rfl⟩
theorem more_any (x : Int) (w : World) (h0 : -9223372036854775808 ≤ x) : Calls Tryd.prog 38 #[.int .i64 x] w fun e w' => e = .returned (.int .i64 (moreI x)) ∧ w = w' := by
  by_cases h : 65535 ≤ x
  · have e : moreI x = 65535 := if_pos h
    rw [e]
    clear e
    go_enter Tryd.func38, Tryd.ntmps38
    go_wp2
    go_ret
    exact ⟨rfl, rfl⟩
  · have e : moreI x = x + 1 := if_neg h
    rw [e]
    clear e
    have h2 : x ≤ 65534 := by omega
    go_enter Tryd.func38, Tryd.ntmps38
    go_wp2
    go_ret
    exact ⟨rfl, rfl⟩
/-- The numbers of a place as the document says. -/
def placeR (row col page : Int) : List Int := if page < 0 then [moreI row, moreI col] else [moreI row, moreI col, moreI page]
def placeI (page : Int) : List Int := if page < 0 then [82] else [63, 82]
theorem place_eq2 (id : List Int) (row col : Int) (eight : Bool) : csiR id [clipI row (-1) 65535 + 1, clipI col (-1) 65535 + 1] eight = csiR id [moreI row, moreI col] eight := by
  unfold csiR
  rw [fun_congr (qs := [moreI row, moreI col]) (by simp [place_clip])]
theorem place_eq3 (id : List Int) (row col page : Int) (eight : Bool) : csiR id [clipI row (-1) 65535 + 1, clipI col (-1) 65535 + 1, min page 65535 + 1] eight = csiR id [moreI row, moreI col, moreI page] eight := by
  unfold csiR
  have e : min page 65535 = if 65535 < page then 65535 else page := by split <;> omega
  rw [fun_congr (qs := [moreI row, moreI col, moreI page]) (by simp [place_clip, e, page_clip])]
set_option maxRecDepth 100000 in
set_option maxHeartbeats 1000000 in
theorem place_any {w : World} (eight : Bool) (row col page : Int) (hT : tabT w) (hp : -9223372036854775808 ≤ page) : Calls Tryd.prog 18 #[.bool eight, .int .i64 row, .int .i64 col, .int .i64 page] w (AnsOwn w (csiR (placeI page) (placeR row col page) eight)) := by
  have L2 := lits (w := w) ⟨#[82]⟩ [82] eight rfl (by decide) hT
  have L3 := lits (w := w) ⟨#[63, 82]⟩ [63, 82] eight rfl (by decide) hT
  have hc := clipL
  have b1 := clipI_in row (-1) 65535 (by decide)
  have b2 := clipI_in col (-1) 65535 (by decide)
  obtain ⟨b10, b11⟩ := b1
  obtain ⟨b20, b21⟩ := b2
  have E2 := Lib.hid (place_eq2 [82] row col eight)
  have E3 := Lib.hid (place_eq3 [63, 82] row col page eight)
  obtain ⟨A, hA⟩ : ∃ A, A = clipI row (-1) 65535 := ⟨_, rfl⟩
  obtain ⟨B, hB⟩ : ∃ B, B = clipI col (-1) 65535 := ⟨_, rfl⟩
  have hc1 := hc row
  have hc2 := hc col
  rw [← hA] at b10 b11 E2 E3 hc1
  rw [← hB] at b20 b21 E2 E3 hc2
  clear hA hB hc
  by_cases hpg : page < 0
  · have e1 : placeR row col page = [moreI row, moreI col] := if_pos hpg
    have e2 : placeI page = [82] := if_pos hpg
    rw [e1, e2, ← E2.out]
    clear e1 e2
    go_enter Tryd.func18, Tryd.ntmps18
    go_wp2_with (first
      | (go_at_call 36; (first | (with_reducible refine (hc1 _).mono ?_) | (with_reducible refine (hc2 _).mono ?_)); rintro e w1 ⟨rfl, rfl⟩)
      | (go_at_call 26; (with_reducible refine (L2.c2 _ _ _ _ ((Gr.refl w).alloc _) (heap_alloc_new _ _)).mono ?_); rintro e w2 ⟨va, vc, rfl, hO, hg⟩))
    go_ret
    exact ⟨va, vc, rfl, World.ownsRow.mono hO (by simp), ((Gr.refl w).alloc _).trans hg⟩
  · have e1 : placeR row col page = [moreI row, moreI col, moreI page] := if_neg hpg
    have e2 : placeI page = [63, 82] := if_neg hpg
    rw [e1, e2, ← E3.out]
    clear e1 e2
    have hm1 : min page 65535 ≤ 65535 := by omega
    have hm2 : 0 ≤ min page 65535 := by omega
    go_enter Tryd.func18, Tryd.ntmps18
    go_wp2_with (first
      | (go_at_call 36; (first | (with_reducible refine (hc1 _).mono ?_) | (with_reducible refine (hc2 _).mono ?_)); rintro e w1 ⟨rfl, rfl⟩)
      | (go_at_call 26; (with_reducible refine (L3.c3 _ _ _ _ _ ((Gr.refl w).alloc _) (heap_alloc_new _ _)).mono ?_); rintro e w2 ⟨va, vc, rfl, hO, hg⟩))
    go_ret
    exact ⟨va, vc, rfl, World.ownsRow.mono hO (by simp), ((Gr.refl w).alloc _).trans hg⟩
set_option maxRecDepth 100000 in
set_option maxHeartbeats 1000000 in
theorem rplace_any {w : World} (eight : Bool) (row col page : Int) (hT : tabT w) (h1 : -9223372036854775808 ≤ row) (h2 : -9223372036854775808 ≤ col) (h3 : -9223372036854775808 ≤ page) : Calls Tryd.prog 19 #[.bool eight, .int .i64 row, .int .i64 col, .int .i64 page] w (RBOut w (csiR (placeI page) (placeR row col page) eight)) := by
  have L2 := lits (w := w) ⟨#[82]⟩ [82] eight rfl (by decide) hT
  have L3 := lits (w := w) ⟨#[63, 82]⟩ [63, 82] eight rfl (by decide) hT
  have hc1 := fun W => more_any row W h1
  have hc2 := fun W => more_any col W h2
  have hc3 := fun W => more_any page W h3
  unfold placeR placeI
  obtain ⟨A, hA⟩ : ∃ A, A = moreI row := ⟨_, rfl⟩
  obtain ⟨B, hB⟩ : ∃ B, B = moreI col := ⟨_, rfl⟩
  obtain ⟨C, hC⟩ : ∃ C, C = moreI page := ⟨_, rfl⟩
  rw [← hA] at hc1 ⊢
  rw [← hB] at hc2 ⊢
  rw [← hC] at hc3 ⊢
  clear hA hB hC h1 h2 h3
  by_cases hpg : page < 0
  · rw [if_pos hpg, if_pos hpg]
    go_enter Tryd.func19, Tryd.ntmps19
    go_wp2_with (first
      | (go_at_call 38; (first | (with_reducible refine (hc1 _).mono ?_) | (with_reducible refine (hc2 _).mono ?_) | (with_reducible refine (hc3 _).mono ?_)); rintro e w1 ⟨rfl, rfl⟩)
      | (go_at_call 15; (with_reducible refine (L2.r2 _ _ _ _ ((Gr.refl w).alloc _) (heap_alloc_new _ _)).mono ?_); rintro e w2 ⟨v, rfl, hv, hg⟩))
    go_ret
    exact ⟨v, rfl, hv, ((Gr.refl w).alloc _).trans hg⟩
  · rw [if_neg hpg, if_neg hpg]
    go_enter Tryd.func19, Tryd.ntmps19
    go_wp2_with (first
      | (go_at_call 38; (first | (with_reducible refine (hc1 _).mono ?_) | (with_reducible refine (hc2 _).mono ?_) | (with_reducible refine (hc3 _).mono ?_)); rintro e w1 ⟨rfl, rfl⟩)
      | (go_at_call 15; (with_reducible refine (L3.r3 _ _ _ _ _ ((Gr.refl w).alloc _) (heap_alloc_new _ _)).mono ?_); rintro e w2 ⟨v, rfl, hv, hg⟩))
    go_ret
    exact ⟨v, rfl, hv, ((Gr.refl w).alloc _).trans hg⟩
def modeI (dec : Bool) : List Int := if dec = true then [63, 36, 121] else [36, 121]
set_option maxRecDepth 100000 in
set_option maxHeartbeats 1000000 in
theorem mode_any {w : World} (eight dec : Bool) (n value : Int) (hT : tabT w) : Calls Tryd.prog 20 #[.bool eight, .bool dec, .int .i64 n, .int .i64 value] w (AnsOwn w (csiR (modeI dec) [n, value] eight)) := by
  have L2 := lits (w := w) ⟨#[36, 121]⟩ [36, 121] eight rfl (by decide) hT
  have L3 := lits (w := w) ⟨#[63, 36, 121]⟩ [63, 36, 121] eight rfl (by decide) hT
  cases dec
  all_goals
    unfold modeI
    simp only [if_true, Bool.false_eq_true, if_false]
    go_enter Tryd.func20, Tryd.ntmps20
    go_wp2_with (go_at_call 26; (first | (with_reducible refine (L2.c2 _ _ _ _ ((Gr.refl w).alloc _) (heap_alloc_new _ _)).mono ?_) | (with_reducible refine (L3.c2 _ _ _ _ ((Gr.refl w).alloc _) (heap_alloc_new _ _)).mono ?_)); rintro e w2 ⟨va, vc, rfl, hO, hg⟩)
    go_ret
    exact ⟨va, vc, rfl, World.ownsRow.mono hO (by simp), ((Gr.refl w).alloc _).trans hg⟩
set_option maxRecDepth 100000 in
set_option maxHeartbeats 1000000 in
theorem rmode_any {w : World} (eight dec : Bool) (n value : Int) (hT : tabT w) : Calls Tryd.prog 21 #[.bool eight, .bool dec, .int .i64 n, .int .i64 value] w (RBOut w (csiR (modeI dec) [n, value] eight)) := by
  have L2 := lits (w := w) ⟨#[36, 121]⟩ [36, 121] eight rfl (by decide) hT
  have L3 := lits (w := w) ⟨#[63, 36, 121]⟩ [63, 36, 121] eight rfl (by decide) hT
  cases dec
  all_goals
    unfold modeI
    simp only [if_true, Bool.false_eq_true, if_false]
    go_enter Tryd.func21, Tryd.ntmps21
    go_wp2_with (go_at_call 15; (first | (with_reducible refine (L2.r2 _ _ _ _ ((Gr.refl w).alloc _) (heap_alloc_new _ _)).mono ?_) | (with_reducible refine (L3.r2 _ _ _ _ ((Gr.refl w).alloc _) (heap_alloc_new _ _)).mono ?_)); rintro e w2 ⟨v, rfl, hv, hg⟩)
    go_ret
    exact ⟨v, rfl, hv, ((Gr.refl w).alloc _).trans hg⟩
set_option maxRecDepth 100000 in
set_option maxHeartbeats 1000000 in
theorem second_any {w : World} (eight : Bool) (hT : tabT w) : Calls Tryd.prog 14 #[.bool eight] w (AnsOwn w (csiR [62, 99] [64, 1, 0] eight)) := by
  have L3 := lits (w := w) ⟨#[62, 99]⟩ [62, 99] eight rfl (by decide) hT
  go_enter Tryd.func14, Tryd.ntmps14
  go_wp2_with (go_at_call 26; (with_reducible refine (L3.c3 _ _ _ _ _ ((Gr.refl w).alloc _) (heap_alloc_new _ _)).mono ?_); rintro e w2 ⟨va, vc, rfl, hO, hg⟩)
  go_ret
  exact ⟨va, vc, rfl, World.ownsRow.mono hO (by simp), ((Gr.refl w).alloc _).trans hg⟩
end Go.Proofs.YtjfffkaifcajbaaDoor
