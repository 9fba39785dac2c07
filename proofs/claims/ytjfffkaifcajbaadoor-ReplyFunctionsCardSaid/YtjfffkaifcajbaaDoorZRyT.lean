/-
  The law ReplyTells, walked.
-/
import Derived.Test.YtjfffkaifcajbaaDoorZRyU
namespace Go.Proofs.YtjfffkaifcajbaaDoor
set_option linter.unusedSimpArgs false
set_option linter.unusedVariables false
open Go.RowKit
set_option linter.unusedVariables false

theorem bytes_ne {t : Tok} (h : Can t) (hk : t.kind = 4 ∨ t.kind = 5) (eight : Bool) : 0 < (bytesR t eight).length := by
  have hp : ∀ x : Int, 0 < (pairR x eight).length := fun x => by unfold pairR; split <;> simp
  have h4 := hp (begR 4)
  have h5 := hp (begR 5)
  cases h with
  | print c hh => simp [bytesR]
  | ctrl c hh => simp [bytesR]
  | esc c l hh hl0 hx => simp at hk
  | csi c m ps l hh hm hps hl0 => simp [bytesR]; omega
  | dcs c m ps l d hh hm hps hl0 hd => simp [bytesR]; omega
  | str k d hk2 hd => simp at hk; omega
theorem csi_ne {id ps : List Int} (h : goodB (funT 4 id ps []) = true) (hr : ∀ c ∈ id, 0 ≤ c ∧ c < 256) (hi : (restR id).dropLast.length ≤ 3) (eight : Bool) : 0 < (csiR id ps eight).length := by
  have hc := csi_there (ps := ps) h hi
  have hr2 : TRange (funT 4 id ps []) := fun_range hr (by simp)
  unfold csiR ansR
  rw [if_pos hc]
  exact bytes_ne (check_zero hr2 hc) (.inl rfl) eight
theorem dcs_ne {id ps d : List Int} (hd : d.length ≤ 4096) (hda : d.all dataOk = true) (h : goodB (funT 4 id ps []) = true) (hr : ∀ c ∈ id, 0 ≤ c ∧ c < 256) (hrd : ∀ c ∈ d, 0 ≤ c ∧ c < 256) (hi : (restR id).dropLast.length ≤ 3) (eight : Bool) : 0 < (dcsR id d ps eight).length := by
  have hc : checkR (funT 5 id ps d) = 0 := (fun_both hd hda).2 (csi_there (ps := ps) h hi)
  have hr2 : TRange (funT 5 id ps d) := fun_range hr hrd
  unfold dcsR ansR
  rw [if_pos hc]
  exact bytes_ne (check_zero hr2 hc) (.inr rfl) eight
theorem digB_in (n : Nat) (h : n < 16) : (48 ≤ ((digB n).toNat : Int) ∧ ((digB n).toNat : Int) ≤ 57) ∨ (65 ≤ ((digB n).toNat : Int) ∧ ((digB n).toNat : Int) ≤ 70) := by
  unfold digB
  split <;> (rw [UInt8.toNat_ofNat']; omega)
theorem sumD_mem {sum c : Int} (h : c ∈ sumD sum) : (48 ≤ c ∧ c ≤ 57) ∨ (65 ≤ c ∧ c ≤ 70) := by
  have h1 := digB_in ((sum % 65536).toNat / 4096) (by omega)
  have h2 := digB_in ((sum % 65536).toNat / 256 % 16) (by omega)
  have h3 := digB_in ((sum % 65536).toNat / 16 % 16) (by omega)
  have h4 := digB_in ((sum % 65536).toNat % 16) (by omega)
  simp only [sumD, bints, List.map_cons, List.map_nil, List.mem_cons, List.not_mem_nil, or_false] at h
  rcases h with rfl | rfl | rfl | rfl
  · exact h1
  · exact h2
  · exact h3
  · exact h4
theorem sumD_ok (sum : Int) : (sumD sum).all dataOk = true := by
  rw [List.all_eq_true]
  intro c hc
  have := sumD_mem hc
  simp [dataOk]; omega
theorem sumD_in (sum : Int) : ∀ c ∈ sumD sum, 0 ≤ c ∧ c < 256 := fun c hc => by have := sumD_mem hc; omega
/-- An answer as a row of so many bytes. -/
def RowTo (W : World) (n : Nat) (L : List Int) (e : Ending) (w' : World) : Prop := ∃ va vc, e = .returned (.slice va n vc) ∧ HasRow w' 5 (.slice va n vc) n (bcells L) ∧ Gr W w'
theorem ans_row {f : FuncId} {args : Array Value} {W : World} {n : Nat} {L : List Int} (h : Calls Tryd.prog f args W (AnsOwn W L)) (hn : n = L.length) : Calls Tryd.prog f args W (RowTo W n L) := by
  subst hn
  exact h.mono fun e w' ⟨va, vc, he, hO, hg⟩ => ⟨va, vc, he, HasRow.of_own hO, hg⟩
theorem rb_row {f : FuncId} {args : Array Value} {W : World} {n : Nat} {L : List Int} (h : Calls Tryd.prog f args W (RBOut W L)) (hn : n = L.length) : Calls Tryd.prog f args W (RowTo W n L) := by
  subst hn
  refine h.mono fun e w' ⟨v, he, hO, hg⟩ => ?_
  obtain ⟨va, vc, rfl⟩ := hO.form
  exact ⟨va, vc, he, hO, hg⟩
/-- Rows that lie there. -/
def Acc (rows : List (Value × Nat × List Int)) (w : World) : Prop := ∀ r ∈ rows, HasRow w 5 r.1 r.2.1 (bcells r.2.2)
theorem Acc.nil (w : World) : Acc [] w := fun _ h => by cases h
theorem Acc.gr {rows : List (Value × Nat × List Int)} {w w' : World} (h : Acc rows w) (hg : Gr w w') : Acc rows w' := fun r hr => (h r hr).gr hg
theorem Acc.push {rows : List (Value × Nat × List Int)} {w : World} {v : Value} {n : Nat} {L : List Int} (h : Acc rows w) (hv : HasRow w 5 v n (bcells L)) : Acc ((v, n, L) :: rows) w := fun r hr => by
  rcases List.mem_cons.1 hr with rfl | hr
  · exact hv
  · exact h r hr
/-- What the loop looks at: eight pairs of rows, in each both alike and not empty. -/
def Pairs (g : Nat) (w : World) : Prop := ∀ j, j < 8 → ∃ va vb vc vd n L, 0 < n ∧ w.cell? ⟨g, j * 2, none⟩ = some (.slice va n vc) ∧ w.cell? ⟨g, j * 2 + 1, none⟩ = some (.slice vb n vd) ∧ HasRow w 5 (.slice va n vc) n (bcells L) ∧ HasRow w 5 (.slice vb n vd) n (bcells L)
theorem Pairs.gr {g : Nat} {w w' : World} (h : Pairs g w) (hg : Gr w w') : Pairs g w' := fun j hj => by
  obtain ⟨va, vb, vc, vd, n, L, h1, h2, h3, h4, h5⟩ := h j hj
  exact ⟨va, vb, vc, vd, n, L, h1, hg.cellAt h2, hg.cellAt h3, h4.gr hg, h5.gr hg⟩
set_option maxRecDepth 100000 in
set_option maxHeartbeats 2000000 in
theorem single_any {w : World} (eight : Bool) (c : Int) (hT : tabT w) : Calls Tryd.prog 24 #[.bool eight, .int .u8 c] w (AnsOwn w (pairR 79 eight ++ [c])) := by
  have hb : ∀ W, Gr w W → Calls Tryd.prog 39 #[.agg #[.int .i64 3, .int .u8 79, .int .u8 0, .slice none 0 0, .string ⟨#[]⟩, .slice none 0 0], .bool eight] W fun e w' => ∃ va vc r, e = .returned (.tuple #[.slice va (ansR ⟨3, 79, 0, [], [], []⟩ eight).length vc, .int .i64 r]) ∧ w'.ownsRow W.heap.size 5 1 (.slice va (ansR ⟨3, 79, 0, [], [], []⟩ eight).length vc) (ansR ⟨3, 79, 0, [], [], []⟩ eight).length (bcells (ansR ⟨3, 79, 0, [], [], []⟩ eight)) ∧ Gr W w' :=
    fun W hg => bytes_ans (t := ⟨3, 79, 0, [], [], []⟩) (q := (.slice none 0 0, .slice none 0 0)) ⟨by decide, by decide, by simp, by simp⟩ ⟨HasRow.nil _ _, HasRow.nil _ _⟩ (hT.gr hg) eight
  have e : ansR ⟨3, 79, 0, [], [], []⟩ eight = pairR 79 eight := by cases eight <;> rfl
  rw [e] at hb
  obtain ⟨A, hA⟩ : ∃ A, A = pairR 79 eight := ⟨_, rfl⟩
  have hAl : A.length ≤ 2 := by rw [hA]; unfold pairR; split <;> simp
  rw [← hA] at hb ⊢
  clear e hA
  obtain ⟨n, hn⟩ : ∃ n, n = A.length := ⟨_, rfl⟩
  have hbc : bcells (A ++ [c]) = bcells A ++ [.int .u8 c] := by simp [bcells]
  have hlen : (A ++ [c]).length = n + 1 := by simp [hn]
  unfold AnsOwn
  rw [hlen, hbc]
  rw [← hn] at hb hAl
  clear hn hbc hlen
  go_enter Tryd.func24, Tryd.ntmps24
  go_wp2_with (first
    | (go_at_call 39; (with_reducible refine (hb _ (Gr.refl w)).mono ?_); rintro e w1 ⟨va, vc, r, rfl, hO, hg1⟩)
    | (at_builtin; (refine wpList_addX (w0 := w) rfl _ _ _ _ rfl 5 _ 1 bytesT u8i rfl _ n _ rfl (ownsRow_gr hO ((Gr.refl w1).alloc _)) (hg1.alloc _) _ 1 [.int .u8 c] rfl (src_block bytesT _ (heap_alloc_new _ _) rfl (by simp [Value.oneCell'])) (by unfold maxLen; omega) (by omega) ?_); intro vb cb w2 hown2 hg2 hgb2))
  go_ret
  exact ⟨vb, cb, rfl, hown2, hg2⟩
theorem conv3 (a b c : Int) (W : World) : (convert 30 9 (.slice (some ⟨W.heap.size, 0, none⟩) 3 3)).run Tryd.prog (W.alloc (.cells #[.int .u8 a, .int .u8 b, .int .u8 c] 5)) = .ok (.string (strOf [a, b, c])) (W.alloc (.cells #[.int .u8 a, .int .u8 b, .int .u8 c] 5)) := conv_new W [a, b, c] 3 rfl
set_option maxRecDepth 100000 in
set_option maxHeartbeats 8000000 in
theorem tells_walk {w : World} (eight : Bool) (a b : Int) (hT : tabT w) (ha0 : -9223372036854775808 ≤ a) (ha1 : a ≤ 9223372036854775807) (hb0 : -9223372036854775808 ≤ b) (hb1 : b ≤ 9223372036854775807) :
    Calls Tryd.prog 4 #[.bool eight, .int .i64 a, .int .i64 b] w fun e w' => e = .returned (.bool true) ∧ Gr w w' := by
  have haw := awake18 hT
  have hsg := fun (W : World) (c : Int) (hg : Gr w W) => single_any eight c (hT.gr hg)
  obtain ⟨L0, hL0⟩ : ∃ L, L = csiR [63, 99] (firstR (clipI a 1 5)) eight := ⟨_, rfl⟩
  obtain ⟨n0, hn0⟩ : ∃ n, n = L0.length := ⟨_, rfl⟩
  have hp0 : 0 < n0 := by rw [hn0, hL0]; exact csi_ne (by simp [goodB, funT, restR, markR, markB, codeB, restB]) (by decide) (by simp [restR, markB]) eight
  have c0 : ∀ W, Gr w W → Calls Tryd.prog 12 #[.bool eight, .int .i64 a] W (RowTo W n0 L0) := fun W hg => by rw [hn0, hL0]; exact ans_row (first_any eight a (hT.gr hg)) rfl
  have d0 : ∀ W, Gr w W → Calls Tryd.prog 13 #[.bool eight, .int .i64 a] W (RowTo W n0 L0) := fun W hg => by rw [hn0, hL0]; exact rb_row (rfirst_any eight a (hT.gr hg)) rfl
  clear hn0 hL0
  obtain ⟨L1, hL1⟩ : ∃ L, L = csiR [62, 99] [64, 1, 0] eight := ⟨_, rfl⟩
  obtain ⟨n1, hn1⟩ : ∃ n, n = L1.length := ⟨_, rfl⟩
  have hp1 : 0 < n1 := by rw [hn1, hL1]; exact csi_ne (by simp [goodB, funT, restR, markR, markB, codeB, restB]) (by decide) (by simp [restR, markB]) eight
  have c1 : ∀ W, Gr w W → Calls Tryd.prog 14 #[.bool eight] W (RowTo W n1 L1) := fun W hg => by rw [hn1, hL1]; exact ans_row (second_any eight (hT.gr hg)) rfl
  have d1 : ∀ W g, Gr w W → W.heap[g]? = some (.cells #[.int .i64 64, .int .i64 1, .int .i64 0] 3 (0, 0)) → Calls Tryd.prog 15 #[.bool eight, .string ⟨#[62, 99]⟩, .slice (some ⟨g, 0, none⟩) 3 3] W (RowTo W n1 L1) := fun W g hg hb => by rw [hn1, hL1]; exact rb_row ((lits (w := W) ⟨#[62, 99]⟩ [62, 99] eight rfl (by decide) (hT.gr hg)).r3 W g 64 1 0 (Gr.refl W) hb) rfl
  clear hn1 hL1
  obtain ⟨L2, hL2⟩ : ∃ L, L = dcsR [33, 124] [48, 48, 48, 48, 48, 48, 48, 48] [] eight := ⟨_, rfl⟩
  obtain ⟨n2, hn2⟩ : ∃ n, n = L2.length := ⟨_, rfl⟩
  have hp2 : 0 < n2 := by rw [hn2, hL2]; exact dcs_ne (by decide) (by decide) (by simp [goodB, funT, restR, markR, markB, codeB, restB, interB]) (by decide) (by decide) (by simp [restR, markB]) eight
  have c2 : ∀ W, Gr w W → Calls Tryd.prog 16 #[.bool eight] W (RowTo W n2 L2) := fun W hg => by rw [hn2, hL2]; exact ans_row (third_any eight (hT.gr hg)) rfl
  have d2 : ∀ W, Gr w W → Calls Tryd.prog 17 #[.bool eight, .string ⟨#[33, 124]⟩, .string ⟨#[48, 48, 48, 48, 48, 48, 48, 48]⟩, .slice none 0 0] W (RowTo W n2 L2) := fun W hg => by rw [hn2, hL2]; exact rb_row ((lits (w := W) ⟨#[33, 124]⟩ [33, 124] eight rfl (by decide) (hT.gr hg)).e0 W ⟨#[48, 48, 48, 48, 48, 48, 48, 48]⟩ (by decide) (Gr.refl W)) rfl
  clear hn2 hL2
  obtain ⟨L3, hL3⟩ : ∃ L, L = csiR (placeI (-1)) (placeR a b (-1)) eight := ⟨_, rfl⟩
  obtain ⟨n3, hn3⟩ : ∃ n, n = L3.length := ⟨_, rfl⟩
  have hp3 : 0 < n3 := by rw [hn3, hL3]; exact csi_ne (by simp [goodB, funT, restR, markR, markB, codeB, restB, placeI]) (by decide) (by simp [restR, markB, placeI]) eight
  have c3 : ∀ W, Gr w W → Calls Tryd.prog 18 #[.bool eight, .int .i64 a, .int .i64 b, .int .i64 (-1)] W (RowTo W n3 L3) := fun W hg => by rw [hn3, hL3]; exact ans_row (place_any eight a b (-1) (hT.gr hg) (by decide)) rfl
  have d3 : ∀ W, Gr w W → Calls Tryd.prog 19 #[.bool eight, .int .i64 a, .int .i64 b, .int .i64 (-1)] W (RowTo W n3 L3) := fun W hg => by rw [hn3, hL3]; exact rb_row (rplace_any eight a b (-1) (hT.gr hg) ha0 hb0 (by decide)) rfl
  clear hn3 hL3
  obtain ⟨L4, hL4⟩ : ∃ L, L = csiR (placeI a) (placeR a b a) eight := ⟨_, rfl⟩
  obtain ⟨n4, hn4⟩ : ∃ n, n = L4.length := ⟨_, rfl⟩
  have hp4 : 0 < n4 := by rw [hn4, hL4]; exact (by unfold placeI; split <;> exact csi_ne (by simp [goodB, funT, restR, markR, markB, codeB, restB]) (by decide) (by simp [restR, markB]) eight)
  have c4 : ∀ W, Gr w W → Calls Tryd.prog 18 #[.bool eight, .int .i64 a, .int .i64 b, .int .i64 a] W (RowTo W n4 L4) := fun W hg => by rw [hn4, hL4]; exact ans_row (place_any eight a b a (hT.gr hg) ha0) rfl
  have d4 : ∀ W, Gr w W → Calls Tryd.prog 19 #[.bool eight, .int .i64 a, .int .i64 b, .int .i64 a] W (RowTo W n4 L4) := fun W hg => by rw [hn4, hL4]; exact rb_row (rplace_any eight a b a (hT.gr hg) ha0 hb0 ha0) rfl
  clear hn4 hL4
  obtain ⟨L5, hL5⟩ : ∃ L, L = csiR (modeI true) [a, b] eight := ⟨_, rfl⟩
  obtain ⟨n5, hn5⟩ : ∃ n, n = L5.length := ⟨_, rfl⟩
  have hp5 : 0 < n5 := by rw [hn5, hL5]; exact csi_ne (by simp [goodB, funT, restR, markR, markB, codeB, restB, modeI, interB]) (by decide) (by simp [restR, markB, modeI]) eight
  have c5 : ∀ W, Gr w W → Calls Tryd.prog 20 #[.bool eight, .bool true, .int .i64 a, .int .i64 b] W (RowTo W n5 L5) := fun W hg => by rw [hn5, hL5]; exact ans_row (mode_any eight true a b (hT.gr hg)) rfl
  have d5 : ∀ W, Gr w W → Calls Tryd.prog 21 #[.bool eight, .bool true, .int .i64 a, .int .i64 b] W (RowTo W n5 L5) := fun W hg => by rw [hn5, hL5]; exact rb_row (rmode_any eight true a b (hT.gr hg)) rfl
  clear hn5 hL5
  obtain ⟨L6, hL6⟩ : ∃ L, L = csiR (modeI false) [a, b] eight := ⟨_, rfl⟩
  obtain ⟨n6, hn6⟩ : ∃ n, n = L6.length := ⟨_, rfl⟩
  have hp6 : 0 < n6 := by rw [hn6, hL6]; exact csi_ne (by simp [goodB, funT, restR, markR, markB, codeB, restB, modeI, interB]) (by decide) (by simp [restR, markB, modeI]) eight
  have c6 : ∀ W, Gr w W → Calls Tryd.prog 20 #[.bool eight, .bool false, .int .i64 a, .int .i64 b] W (RowTo W n6 L6) := fun W hg => by rw [hn6, hL6]; exact ans_row (mode_any eight false a b (hT.gr hg)) rfl
  have d6 : ∀ W, Gr w W → Calls Tryd.prog 21 #[.bool eight, .bool false, .int .i64 a, .int .i64 b] W (RowTo W n6 L6) := fun W hg => by rw [hn6, hL6]; exact rb_row (rmode_any eight false a b (hT.gr hg)) rfl
  clear hn6 hL6
  obtain ⟨L7, hL7⟩ : ∃ L, L = dcsR [33, 126] (sumD b) [a] eight := ⟨_, rfl⟩
  obtain ⟨n7, hn7⟩ : ∃ n, n = L7.length := ⟨_, rfl⟩
  have hp7 : 0 < n7 := by rw [hn7, hL7]; exact dcs_ne (by simp [sumD, bints]) (sumD_ok b) (by simp [goodB, funT, restR, markR, markB, codeB, restB, interB]) (by decide) (sumD_in b) (by simp [restR, markB]) eight
  have c7 : ∀ W, Gr w W → Calls Tryd.prog 22 #[.bool eight, .int .i64 a, .int .i64 b] W (RowTo W n7 L7) := fun W hg => by rw [hn7, hL7]; exact ans_row (sum_any eight a b (hT.gr hg) hb0 hb1) rfl
  have d7 : ∀ W, Gr w W → Calls Tryd.prog 23 #[.bool eight, .int .i64 a, .int .i64 b] W (RowTo W n7 L7) := fun W hg => by rw [hn7, hL7]; exact rb_row (rsum_any eight a b (hT.gr hg) hb0 hb1) rfl
  clear hn7 hL7
  go_enter Tryd.func4, Tryd.ntmps4
  go_wp2_with (first
    | (go_at_call 7; (with_reducible refine haw.mono ?_); rintro e w1 ⟨rfl, hg1⟩; have hg := hg1; have hacc := Acc.nil w1)
    | (go_at_call 12; ((with_reducible refine (c0 _ hg).mono ?_); rintro e wp0 ⟨vap0, vcp0, rfl, hrp0, hqp0⟩; have hg := hg.trans hqp0; have hacc := (hacc.gr hqp0).push hrp0; clear hrp0))
    | (go_at_call 13; ((with_reducible refine (d0 _ hg).mono ?_); rintro e wd0 ⟨vad0, vcd0, rfl, hrd0, hqd0⟩; have hg := hg.trans hqd0; have hacc := (hacc.gr hqd0).push hrd0; clear hrd0))
    | (go_at_call 14; ((with_reducible refine (c1 _ hg).mono ?_); rintro e wp1 ⟨vap1, vcp1, rfl, hrp1, hqp1⟩; have hg := hg.trans hqp1; have hacc := (hacc.gr hqp1).push hrp1; clear hrp1))
    | (go_at_call 15; ((with_reducible refine (d1 _ _ (hg.alloc _) (heap_alloc_new _ _)).mono ?_); rintro e wd1 ⟨vad1, vcd1, rfl, hrd1, hqd1⟩; have hqd1 := ((Gr.refl _).alloc _).trans hqd1; have hg := hg.trans hqd1; have hacc := (hacc.gr hqd1).push hrd1; clear hrd1))
    | (go_at_call 16; ((with_reducible refine (c2 _ hg).mono ?_); rintro e wp2 ⟨vap2, vcp2, rfl, hrp2, hqp2⟩; have hg := hg.trans hqp2; have hacc := (hacc.gr hqp2).push hrp2; clear hrp2))
    | (go_at_call 17; ((with_reducible refine (d2 _ hg).mono ?_); rintro e wd2 ⟨vad2, vcd2, rfl, hrd2, hqd2⟩; have hg := hg.trans hqd2; have hacc := (hacc.gr hqd2).push hrd2; clear hrd2))
    | (go_at_call 18; (first | ((with_reducible refine (c3 _ hg).mono ?_); rintro e wp3 ⟨vap3, vcp3, rfl, hrp3, hqp3⟩; have hg := hg.trans hqp3; have hacc := (hacc.gr hqp3).push hrp3; clear hrp3) | ((with_reducible refine (c4 _ hg).mono ?_); rintro e wp4 ⟨vap4, vcp4, rfl, hrp4, hqp4⟩; have hg := hg.trans hqp4; have hacc := (hacc.gr hqp4).push hrp4; clear hrp4)))
    | (go_at_call 19; (first | ((with_reducible refine (d3 _ hg).mono ?_); rintro e wd3 ⟨vad3, vcd3, rfl, hrd3, hqd3⟩; have hg := hg.trans hqd3; have hacc := (hacc.gr hqd3).push hrd3; clear hrd3) | ((with_reducible refine (d4 _ hg).mono ?_); rintro e wd4 ⟨vad4, vcd4, rfl, hrd4, hqd4⟩; have hg := hg.trans hqd4; have hacc := (hacc.gr hqd4).push hrd4; clear hrd4)))
    | (go_at_call 20; (first | ((with_reducible refine (c5 _ hg).mono ?_); rintro e wp5 ⟨vap5, vcp5, rfl, hrp5, hqp5⟩; have hg := hg.trans hqp5; have hacc := (hacc.gr hqp5).push hrp5; clear hrp5) | ((with_reducible refine (c6 _ hg).mono ?_); rintro e wp6 ⟨vap6, vcp6, rfl, hrp6, hqp6⟩; have hg := hg.trans hqp6; have hacc := (hacc.gr hqp6).push hrp6; clear hrp6)))
    | (go_at_call 21; (first | ((with_reducible refine (d5 _ hg).mono ?_); rintro e wd5 ⟨vad5, vcd5, rfl, hrd5, hqd5⟩; have hg := hg.trans hqd5; have hacc := (hacc.gr hqd5).push hrd5; clear hrd5) | ((with_reducible refine (d6 _ hg).mono ?_); rintro e wd6 ⟨vad6, vcd6, rfl, hrd6, hqd6⟩; have hg := hg.trans hqd6; have hacc := (hacc.gr hqd6).push hrd6; clear hrd6)))
    | (go_at_call 22; ((with_reducible refine (c7 _ hg).mono ?_); rintro e wp7 ⟨vap7, vcp7, rfl, hrp7, hqp7⟩; have hg := hg.trans hqp7; have hacc := (hacc.gr hqp7).push hrp7; clear hrp7))
    | (go_at_call 23; ((with_reducible refine (d7 _ hg).mono ?_); rintro e wd7 ⟨vad7, vcd7, rfl, hrd7, hqd7⟩; have hg := hg.trans hqd7; have hacc := (hacc.gr hqd7).push hrd7; clear hrd7)))
  have hnew := heap_alloc_new wd7 (.cells #[.slice vap0 n0 vcp0, .slice vad0 n0 vcd0, .slice vap1 n1 vcp1, .slice vad1 n1 vcd1, .slice vap2 n2 vcp2, .slice vad2 n2 vcd2, .slice vap3 n3 vcp3, .slice vad3 n3 vcd3, .slice vap4 n4 vcp4, .slice vad4 n4 vcd4, .slice vap5 n5 vcp5, .slice vad5 n5 vcd5, .slice vap6 n6 vcp6, .slice vad6 n6 vcd6, .slice vap7 n7 vcp7, .slice vad7 n7 vcd7] 32)
  have hP : Pairs wd7.heap.size (wd7.alloc (.cells #[.slice vap0 n0 vcp0, .slice vad0 n0 vcd0, .slice vap1 n1 vcp1, .slice vad1 n1 vcd1, .slice vap2 n2 vcp2, .slice vad2 n2 vcd2, .slice vap3 n3 vcp3, .slice vad3 n3 vcd3, .slice vap4 n4 vcp4, .slice vad4 n4 vcd4, .slice vap5 n5 vcp5, .slice vad5 n5 vcd5, .slice vap6 n6 vcp6, .slice vad6 n6 vcd6, .slice vap7 n7 vcp7, .slice vad7 n7 vcd7] 32)) := by
    have hacc := hacc.gr ((Gr.refl wd7).alloc (.cells #[.slice vap0 n0 vcp0, .slice vad0 n0 vcd0, .slice vap1 n1 vcp1, .slice vad1 n1 vcd1, .slice vap2 n2 vcp2, .slice vad2 n2 vcd2, .slice vap3 n3 vcp3, .slice vad3 n3 vcd3, .slice vap4 n4 vcp4, .slice vad4 n4 vcd4, .slice vap5 n5 vcp5, .slice vad5 n5 vcd5, .slice vap6 n6 vcp6, .slice vad6 n6 vcd6, .slice vap7 n7 vcp7, .slice vad7 n7 vcd7] 32))
    intro j hj
    match j, hj with
    | 0, _ => exact ⟨vap0, vad0, vcp0, vcd0, n0, L0, hp0, cell_of_row hnew 0 _ rfl, cell_of_row hnew 1 _ rfl, hacc (_, _, _) (by simp), hacc (_, _, _) (by simp)⟩
    | 1, _ => exact ⟨vap1, vad1, vcp1, vcd1, n1, L1, hp1, cell_of_row hnew 2 _ rfl, cell_of_row hnew 3 _ rfl, hacc (_, _, _) (by simp), hacc (_, _, _) (by simp)⟩
    | 2, _ => exact ⟨vap2, vad2, vcp2, vcd2, n2, L2, hp2, cell_of_row hnew 4 _ rfl, cell_of_row hnew 5 _ rfl, hacc (_, _, _) (by simp), hacc (_, _, _) (by simp)⟩
    | 3, _ => exact ⟨vap3, vad3, vcp3, vcd3, n3, L3, hp3, cell_of_row hnew 6 _ rfl, cell_of_row hnew 7 _ rfl, hacc (_, _, _) (by simp), hacc (_, _, _) (by simp)⟩
    | 4, _ => exact ⟨vap4, vad4, vcp4, vcd4, n4, L4, hp4, cell_of_row hnew 8 _ rfl, cell_of_row hnew 9 _ rfl, hacc (_, _, _) (by simp), hacc (_, _, _) (by simp)⟩
    | 5, _ => exact ⟨vap5, vad5, vcp5, vcd5, n5, L5, hp5, cell_of_row hnew 10 _ rfl, cell_of_row hnew 11 _ rfl, hacc (_, _, _) (by simp), hacc (_, _, _) (by simp)⟩
    | 6, _ => exact ⟨vap6, vad6, vcp6, vcd6, n6, L6, hp6, cell_of_row hnew 12 _ rfl, cell_of_row hnew 13 _ rfl, hacc (_, _, _) (by simp), hacc (_, _, _) (by simp)⟩
    | 7, _ => exact ⟨vap7, vad7, vcp7, vcd7, n7, L7, hp7, cell_of_row hnew 14 _ rfl, cell_of_row hnew 15 _ rfl, hacc (_, _, _) (by simp), hacc (_, _, _) (by simp)⟩
  have hgA := hg.alloc (.cells #[.slice vap0 n0 vcp0, .slice vad0 n0 vcd0, .slice vap1 n1 vcp1, .slice vad1 n1 vcd1, .slice vap2 n2 vcp2, .slice vad2 n2 vcd2, .slice vap3 n3 vcp3, .slice vad3 n3 vcd3, .slice vap4 n4 vcp4, .slice vad4 n4 vcd4, .slice vap5 n5 vcp5, .slice vad5 n5 vcd5, .slice vap6 n6 vcp6, .slice vad6 n6 vcd6, .slice vap7 n7 vcp7, .slice vad7 n7 vcd7] 32)
  obtain ⟨wA, hwA⟩ : ∃ wA, wA = wd7.alloc (.cells #[.slice vap0 n0 vcp0, .slice vad0 n0 vcd0, .slice vap1 n1 vcp1, .slice vad1 n1 vcd1, .slice vap2 n2 vcp2, .slice vad2 n2 vcd2, .slice vap3 n3 vcp3, .slice vad3 n3 vcd3, .slice vap4 n4 vcp4, .slice vad4 n4 vcd4, .slice vap5 n5 vcp5, .slice vad5 n5 vcd5, .slice vap6 n6 vcp6, .slice vad6 n6 vcd6, .slice vap7 n7 vcp7, .slice vad7 n7 vcd7] 32) := ⟨_, rfl⟩
  obtain ⟨g, hgg⟩ : ∃ g, g = wd7.heap.size := ⟨_, rfl⟩
  rw [← hwA] at hP hgA ⊢
  rw [← hgg] at hP
  have HGG := Lib.hid hgg
  clear hacc hnew hwA hgg
  go_loopw [79] (fun iv wr => ∃ j : Nat, iv = .int .i64 (j : Int) ∧ j ≤ 8 ∧ Pairs wd7.heap.size wr ∧ Gr w wr) (fun iv _ => 8 - (intOf iv).toNat)
  case atStart => exact ⟨0, rfl, by omega, HGG.out ▸ hP, hgA⟩
  case round =>
    clear hP
    obtain ⟨j, rfl, hj, hP, hgr⟩ := hrel
    by_cases hlt : j < 8
    · obtain ⟨va, vb, vc, vd, n, L, hn0, k0, k1, h4, h5⟩ := hP j hlt
      have hjI : (j : Int) < 8 := by omega
      have hnB : ((n : Int) == 0) = false := by simp; omega
      have hnN : ¬ n = 0 := by omega
      have hcv1 := fun o : Obj => conv_row (h4.gr ((Gr.refl wr).alloc o))
      have hcv2 := fun o : Obj => conv_row (h5.gr ((Gr.refl wr).alloc o))
      obtain ⟨X, hX⟩ : ∃ X, X = strOf L := ⟨_, rfl⟩
      rw [← hX] at hcv1 hcv2
      have hgn := fun o : Obj => hgr.alloc o
      have hPn := fun o : Obj => hP.gr ((Gr.refl wr).alloc o)
      clear hX h4 h5
      go_wp2_with fail
      go_roundw
      case rel => exact ⟨j + 1, by go_num, by omega, hPn _, hgn _⟩
      case measure => simp [intOf]; omega
    · obtain rfl : j = 8 := by omega
      have k2 := conv2
      have k3 := conv3
      cases eight
      · have hs1 : ∀ (W : World) (c : Int), Gr w W → Calls Tryd.prog 24 #[.bool false, .int .u8 c] W fun e w' => ∃ va vc, e = .returned (.slice va 3 vc) ∧ w'.ownsRow W.heap.size 5 1 (.slice va 3 vc) 3 (bcells [27, 79, c]) ∧ Gr W w' := fun W c hg => hsg W c hg
        go_wp2_with (go_at_call 24; (with_reducible refine (hs1 _ _ hgr).mono ?_); rintro e w9 ⟨ve, vf, rfl, hO, hg9⟩; have hcv := conv_own8 hO rfl; have hcv4 := fun o : Obj => conv_own8 (ownsRow_gr hO ((Gr.refl w9).alloc o)) rfl)
        go_ret
        exact ⟨rfl, by (repeat (first | with_reducible exact Gr.refl _ | with_reducible assumption | with_reducible refine Gr.setCell ?_ (by simp; try omega) _ | with_reducible refine Gr.alloc ?_ _ | with_reducible refine Gr.drew ?_ | with_reducible refine Gr.drewN ?_ _ | with_reducible refine Gr.trans ?_ (by assumption)))⟩
      · have hs1 : ∀ (W : World) (c : Int), Gr w W → Calls Tryd.prog 24 #[.bool true, .int .u8 c] W fun e w' => ∃ va vc, e = .returned (.slice va 2 vc) ∧ w'.ownsRow W.heap.size 5 1 (.slice va 2 vc) 2 (bcells [143, c]) ∧ Gr W w' := fun W c hg => hsg W c hg
        go_wp2_with (go_at_call 24; (with_reducible refine (hs1 _ _ hgr).mono ?_); rintro e w9 ⟨ve, vf, rfl, hO, hg9⟩; have hcv := conv_own8 hO rfl; have hcv4 := fun o : Obj => conv_own8 (ownsRow_gr hO ((Gr.refl w9).alloc o)) rfl)
        go_ret
        exact ⟨rfl, by (repeat (first | with_reducible exact Gr.refl _ | with_reducible assumption | with_reducible refine Gr.setCell ?_ (by simp; try omega) _ | with_reducible refine Gr.alloc ?_ _ | with_reducible refine Gr.drew ?_ | with_reducible refine Gr.drewN ?_ _ | with_reducible refine Gr.trans ?_ (by assumption)))⟩
theorem tells_laid {w : World} (h : laidMetH Tryd.prog Rows.replyTellsRow.laid w) : tabT w := by
  unfold Rows.replyTellsRow at h
  rw [MakeChecks.laidMetH_plain _ _ _ (by kernel_rfl)] at h
  exact tabT_met (laidMet_tail2 (laidMet_tail2 h))
theorem i64_bounds {a : Int} (h : (Lit.int .i64 a).wf = true) : -9223372036854775808 ≤ a ∧ a ≤ 9223372036854775807 := by
  have := bounds_i64 h
  omega
theorem tells_law (eight : Bool) (a b : Int) (w : World) (w1 : (Lit.int .i64 a).wf = true) (w2 : (Lit.int .i64 b).wf = true) (hlaid : laidMetH Tryd.prog Rows.replyTellsRow.laid w) (hsh : w.ShapedOpen Tryd.prog) : Calls Tryd.prog 4 #[.bool eight, .int .i64 a, .int .i64 b] w fun e w' => e = .returned (.bool true) ∧ Gr w w' :=
  tells_walk eight a b (tells_laid hlaid) (i64_bounds w1).1 (i64_bounds w1).2 (i64_bounds w2).1 (i64_bounds w2).2
end Go.Proofs.YtjfffkaifcajbaaDoor
