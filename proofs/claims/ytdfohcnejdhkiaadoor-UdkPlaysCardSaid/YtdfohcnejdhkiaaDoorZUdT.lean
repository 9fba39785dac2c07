/-
  Keys with texts: the law UdkPlays, walked.
-/
import Derived.Test.YtdfohcnejdhkiaaDoorZUdS
import Derived.Test.YtdfohcnejdhkiaaDoorZUdJ
import Derived.Test.YtdfohcnejdhkiaaDoorZOrd7
import Derived.Test.YtdfohcnejdhkiaaDoorZSs
namespace Go.Proofs.YtdfohcnejdhkiaaDoor
set_option linter.unusedSimpArgs false
set_option linter.unusedVariables false
open Go.ChangeShapes Go.WideShapes Go.Deep Go.RowKit
set_option linter.unusedVariables false

/-- What the fields of an act hold. -/
def actU : Nat → Value → Prop
  | 0, v => ∃ z, v = .int .i64 z
  | 1, v => ∃ b, v = .bool b
  | 2, v => ∃ b, v = .bool b
  | 3, v => ∃ s : ByteArray, v = .string s ∧ s.size ≤ maxLen
  | _, _ => True
set_option maxRecDepth 100000 in
theorem open_acts {H : Type} {enc : TypeId × Value → H} {w : World} {base b0 : Nat} {spare : Nat → Bool} {held : Bool} {r : Reach} {v : Value} {d : DataW H} {p : List MemPlace}
    (hv : Value.okWide Tryd.prog w r b0 32 v) (h : DataW.Trod enc Tryd.prog w base spare held 32 v d p) :
    ∃ (a : Option Addr) (len cap : Nat), v = .slice a len cap ∧ IsStructs w a len 4 actU := by
  obtain ⟨a, len, cap, rfl⟩ := okWide_slice Tryd.underlying32 hv
  obtain ⟨fuel, hf⟩ := h
  refine ⟨a, len, cap, rfl, ?_⟩
  refine open_structs Tryd.underlying32 Tryd.underlying41 (by kernel_rfl) (by kernel_rfl) (by decide) actU ?_ (a := a) (len := len) (cap := cap) (by simp [Value.cells]) hf
  intro j f v n y hj ht
  match j, hj with
  | 0, hj => injection hj with hj; subst hj; obtain ⟨z, e, hw⟩ := field_int Tryd.underlying3 ht; exact ⟨z, e⟩
  | 1, hj => injection hj with hj; subst hj; exact field_bool Tryd.underlying4 ht
  | 2, hj => injection hj with hj; subst hj; exact field_bool Tryd.underlying4 ht
  | 3, hj => injection hj with hj; subst hj; exact field_string Tryd.underlying9 ht
  | _ + 4, hj => simp at hj
/-- An act of a row that came in. -/
theorem act_at {w : World} {a : Option Addr} {n : Nat} (h : IsStructs w a n 4 actU) {i : Nat} (hi : i < n) : ∃ (b off : Nat) (kind : Int) (cl lo : Bool) (data : List UInt8), a = some ⟨b, off, none⟩ ∧ b < w.heap.size ∧ data.length ≤ 9223372036854775807 ∧
    w.rangeAt b (off + i * 4) [.int .i64 kind, .bool cl, .bool lo, .string (bsl data)] := by
  rcases h.2 with h0 | ⟨b, off, ha, hb, hc⟩
  · omega
  · obtain ⟨v0, x0, ⟨z, rfl⟩⟩ := hc i 0 hi (by omega)
    obtain ⟨v1, x1, ⟨cl, rfl⟩⟩ := hc i 1 hi (by omega)
    obtain ⟨v2, x2, ⟨lo, rfl⟩⟩ := hc i 2 hi (by omega)
    obtain ⟨v3, x3, ⟨s, rfl, hs⟩⟩ := hc i 3 hi (by omega)
    refine ⟨b, off, z, cl, lo, s.data.toList, ha, hb, ?_, fun j u hj => ?_⟩
    · have : s.data.toList.length = s.size := by rw [Array.length_toList]; rfl
      rw [this]; unfold maxLen at hs; exact hs
    · rw [Nat.add_assoc]
      rw [← bsl_of s] at hj
      rcases j with _ | _ | _ | _ | j <;> simp at hj
      all_goals (subst hj; assumption)
theorem dfnR_used {L : Txs} {lk clear lock : Bool} {data : List UInt8} (h : usedL L ≤ 804) : usedL (dfnR L lk clear lock data).1 ≤ 804 := by
  unfold dfnR
  split
  · exact h
  · rename_i L1 h1
    split
    · exact h
    · split
      · exact h
      · rename_i h2 _
        show usedL L1 ≤ 804
        omega
theorem doP_inv {L : Txs} {lk : Bool} (kind : Int) (clear lock : Bool) (data : List UInt8) (hI : KInv L) (hu : usedL L ≤ 804) : KInv (doP L lk kind clear lock data).1 ∧ usedL (doP L lk kind clear lock data).1 ≤ 804 := by
  unfold doP
  split
  · exact ⟨hI, hu⟩
  · split
    · exact ⟨KInv.none, by rw [used_none]; omega⟩
    · exact ⟨hI.dfn, dfnR_used hu⟩
/-- What is known in the region of an act. -/
def plF (p n0 : Nat) (a : Option Addr) (n c k b off : Nat) (v : Value) (lk : Bool) (act : Array Value) (L' : Txs) (lk' : Bool) : Nat → (Nat → Value) → World → Prop
  | 0, ys, _ => ys 0 = .agg #[v, .bool lk]
  | 1, ys, _ => ys 1 = .slice a n c
  | 2, ys, _ => ys 2 = .int .i64 (k : Int)
  | 3, ys, _ => ys 3 = .pointer (some ⟨b, off + k * 4, none⟩)
  | 4, ys, _ => ys 4 = .agg act
  | 5, ys, W => ∃ v', ys 5 = .tuple #[.agg #[v', .bool lk'], .bool true] ∧ DL W v' (docL L') ∧ KAt W p L' lk'
  | 6, ys, W => ∃ v', ys 6 = .tuple #[.agg #[v', .bool lk'], .bool true] ∧ DL W v' (docL L')
  | 7, ys, W => ∃ v', ys 7 = .agg #[v', .bool lk'] ∧ DL W v' (docL L')
  | 8, ys, _ => ys 8 = .bool true
  | 9, ys, W => ∃ b9, ys 9 = .pointer (some ⟨b9, 0, none⟩) ∧ n0 ≤ b9 ∧ W.heap[b9]? = some (.cells #[.slice none 0 0, .bool false] 35 (0, 0))
  | 10, ys, W => ∃ b9 v', ys 9 = .pointer (some ⟨b9, 0, none⟩) ∧ n0 ≤ b9 ∧ W.heap[b9]? = some (.cells #[v', .bool lk'] 35 (0, 0)) ∧ DL W v' (docL L')
  | 11, ys, _ => ys 11 = .bool true
  | _, _, _ => True
def plG (p : Nat) (v : Value) (L : Txs) (lk : Bool) : Nat → World → Prop
  | 5, W => KAt W p L lk ∧ DL W v (docL L)
  | _, _ => True
def plDead (i j : Nat) : Bool := i == 10 && j == 9
section
variable {p n0 n c k b off : Nat} {a : Option Addr} {v : Value} {lk lk' : Bool} {act : Array Value} {L L' : Txs} {W W' : World} {j : Nat} {ys : Nat → Value}
theorem plF.gr (h : plF p n0 a n c k b off v lk act L' lk' j ys W) (hg : Gr W W') : plF p n0 a n c k b off v lk act L' lk' j ys W' := by
  unfold plF at h ⊢
  split <;> first | exact h | skip
  · obtain ⟨v', e, h1, h2⟩ := h; exact ⟨v', e, h1.gr hg, h2.gr hg⟩
  · obtain ⟨v', e, h1⟩ := h; exact ⟨v', e, h1.gr hg⟩
  · obtain ⟨v', e, h1⟩ := h; exact ⟨v', e, h1.gr hg⟩
  · obtain ⟨b9, e, h1, h2⟩ := h; exact ⟨b9, e, h1, hg.blk h2⟩
  · obtain ⟨b9, v', e, h1, h2, h3⟩ := h; exact ⟨b9, v', e, h1, hg.blk h2, h3.gr hg⟩
  · trivial
theorem plG.gr (h : plG p v L lk j W) (hg : Gr W W') : plG p v L lk j W' := by
  unfold plG at h ⊢
  split
  · exact ⟨h.1.gr hg, h.2.gr hg⟩
  · trivial
theorem plF.do_ (h : plF p n0 a n c k b off v lk act L' lk' j ys W) (hu : Upd [p] W W') (hK : KAt W p L lk) (hp : p < n0) (h5 : j ≠ 5) : plF p n0 a n c k b off v lk act L' lk' j ys W' := by
  unfold plF at h ⊢
  split <;> first | exact h | skip
  · exact absurd rfl h5
  · obtain ⟨v', e, h1⟩ := h; exact ⟨v', e, h1.keys hK hu⟩
  · obtain ⟨v', e, h1⟩ := h; exact ⟨v', e, h1.keys hK hu⟩
  · obtain ⟨b9, e, h1, h2⟩ := h; exact ⟨b9, e, h1, hu.blk h2 (by simp; omega)⟩
  · obtain ⟨b9, v', e, h1, h2, h3⟩ := h; exact ⟨b9, v', e, h1, hu.blk h2 (by simp; omega), h3.keys hK hu⟩
  · trivial
theorem plF.set {b9 : Nat} {C : Array Value} (h : plF p n0 a n c k b off v lk act L' lk' j ys W) (hu : Upd [b9] W W') (hb : W.heap[b9]? = some (.cells C 35 (0, 0))) (hp : p ≠ b9) (h9 : j ≠ 9) (h10 : j ≠ 10) : plF p n0 a n c k b off v lk act L' lk' j ys W' := by
  unfold plF at h ⊢
  split <;> first | exact h | skip
  · obtain ⟨v', e, h1, h2⟩ := h; exact ⟨v', e, h1.upd hu hb (by decide), h2.upd hu (by simpa using hp)⟩
  · obtain ⟨v', e, h1⟩ := h; exact ⟨v', e, h1.upd hu hb (by decide)⟩
  · obtain ⟨v', e, h1⟩ := h; exact ⟨v', e, h1.upd hu hb (by decide)⟩
  · exact absurd rfl h9
  · exact absurd rfl h10
  · trivial
theorem plG.set {b9 : Nat} {C : Array Value} (h : plG p v L lk j W) (hu : Upd [b9] W W') (hb : W.heap[b9]? = some (.cells C 35 (0, 0))) (hp : p ≠ b9) : plG p v L lk j W' := by
  unfold plG at h ⊢
  split
  · exact ⟨h.1.upd hu (by simpa using hp), h.2.upd hu hb (by decide)⟩
  · trivial
end
theorem wp_load_act {o : Oper} {a : Act} {w : World} {K : Act → World → Prop} {Q : Exit → Act → World → Prop} (x : Operand) (ho : o.op = .load 41 x) (g off : Nat) (hx : a.eval x = .pointer (some ⟨g, off, none⟩)) {cs : List Value} (hl : cs.length = 4) (hc : w.rangeAt g off cs)
    (h : K (a.put o.dst (.agg cs.toArray)) w) : o.wp Tryd.prog a w K Q :=
  wp_load_mid 41 x ho g off hx cs _ hc Tryd.underlying41 rfl (by rw [hl]; kernel_rfl) h
theorem wp_store_keys {o : Oper} {a : Act} {w : World} {K : Act → World → Prop} {Q : Exit → Act → World → Prop} (hgd : o.guard = none) (x y : Operand) (ho : o.op = .store 35 x y) (hdst : o.dst = none) (g : Nat) (v1 : Value) (l1 : Bool) (old : Array Value)
    (hx : a.eval x = .pointer (some ⟨g, 0, none⟩)) (hy : a.eval y = .agg #[v1, .bool l1]) (hg : w.heap[g]? = some (.cells old 35 (0, 0))) (hold : old.size = 2) (h1 : (#[v1, .bool l1] : Array Value).all (·.oneCell') = true)
    (h : ∀ w', w'.heap[g]? = some (.cells #[v1, .bool l1] 35 (0, 0)) → Upd [g] w w' → K (a.put o.dst undef) w') : o.wp Tryd.prog a w K Q := by
  refine wp_store_mid 35 x y ho g 0 #[v1, .bool l1] hx hy (fun j hj => ?_) rkeys_size h1 ?_
  · refine ⟨?_, by simp [World.frozen?, hg]⟩
    have : 0 + j < old.size := by rw [hold]; simpa using hj
    simp [World.cell?, hg]
    omega
  · obtain ⟨k1, k2, k3⟩ := setCells_blk (t := 35) [v1, .bool l1] 0 w old hg
    have e : setL old 0 [v1, .bool l1] = #[v1, .bool l1] := setL_all (by simp [hold])
    rw [e] at k1
    exact h _ k1 k2
/-- Between the acts. -/
structure PSt (w wr : World) (p b6 : Nat) (v : Value) (L : Txs) (lk : Bool) : Prop where
  gr : Gr w wr
  k : KAt wr p L lk
  b : wr.heap[b6]? = some (.cells #[v, .bool lk] 35 (0, 0))
  dl : DL wr v (docL L)
  inv : KInv L
  used : usedL L ≤ 804
  ne : p ≠ b6 ∧ w.heap.size ≤ p ∧ w.heap.size ≤ b6
set_option maxRecDepth 100000 in
set_option maxHeartbeats 4000000 in
theorem plays_walk (a : Option Addr) (n c : Nat) (key : Int) (w : World) (hacts : IsStructs w a n 4 actU) (hM : MaxOk w) :
    Calls Tryd.prog 4 #[.slice a n c, .int .i64 key] w fun e w' => e = .returned (.bool true) ∧ Gr w w' := by
  go_enter Tryd.func4, Tryd.ntmps4
  go_upto_region 3 with (go_at_call 6; (with_reducible refine (awake_any _ hM).mono ?_); rintro e w1 ⟨rfl, hg1⟩)
  have hKf := KAt.fresh w1
  have hgA := (Gr.refl (w1.alloc (.cells #[.string ⟨#[]⟩, .string ⟨#[]⟩, .string ⟨#[]⟩, .string ⟨#[]⟩, .string ⟨#[]⟩, .string ⟨#[]⟩, .string ⟨#[]⟩, .string ⟨#[]⟩, .string ⟨#[]⟩, .string ⟨#[]⟩, .string ⟨#[]⟩, .string ⟨#[]⟩, .string ⟨#[]⟩, .string ⟨#[]⟩, .string ⟨#[]⟩, .string ⟨#[]⟩, .string ⟨#[]⟩, .string ⟨#[]⟩, .bool false] 27))).alloc (.cells #[.slice none 0 0, .bool false] 35)
  have hbf := heap_alloc_new (w1.alloc (.cells #[.string ⟨#[]⟩, .string ⟨#[]⟩, .string ⟨#[]⟩, .string ⟨#[]⟩, .string ⟨#[]⟩, .string ⟨#[]⟩, .string ⟨#[]⟩, .string ⟨#[]⟩, .string ⟨#[]⟩, .string ⟨#[]⟩, .string ⟨#[]⟩, .string ⟨#[]⟩, .string ⟨#[]⟩, .string ⟨#[]⟩, .string ⟨#[]⟩, .string ⟨#[]⟩, .string ⟨#[]⟩, .string ⟨#[]⟩, .bool false] 27)) (.cells #[.slice none 0 0, .bool false] 35)
  have hs1 : (w1.alloc (.cells #[.string ⟨#[]⟩, .string ⟨#[]⟩, .string ⟨#[]⟩, .string ⟨#[]⟩, .string ⟨#[]⟩, .string ⟨#[]⟩, .string ⟨#[]⟩, .string ⟨#[]⟩, .string ⟨#[]⟩, .string ⟨#[]⟩, .string ⟨#[]⟩, .string ⟨#[]⟩, .string ⟨#[]⟩, .string ⟨#[]⟩, .string ⟨#[]⟩, .string ⟨#[]⟩, .string ⟨#[]⟩, .string ⟨#[]⟩, .bool false] 27)).heap.size = w1.heap.size + 1 := by simp
  rw [hs1] at hbf
  have hS0 : PSt w ((w1.alloc (.cells #[.string ⟨#[]⟩, .string ⟨#[]⟩, .string ⟨#[]⟩, .string ⟨#[]⟩, .string ⟨#[]⟩, .string ⟨#[]⟩, .string ⟨#[]⟩, .string ⟨#[]⟩, .string ⟨#[]⟩, .string ⟨#[]⟩, .string ⟨#[]⟩, .string ⟨#[]⟩, .string ⟨#[]⟩, .string ⟨#[]⟩, .string ⟨#[]⟩, .string ⟨#[]⟩, .string ⟨#[]⟩, .string ⟨#[]⟩, .bool false] 27)).alloc (.cells #[.slice none 0 0, .bool false] 35)) w1.heap.size (w1.heap.size + 1) (.slice none 0 0) noL false :=
    ⟨(hg1.alloc _).alloc _, hKf.gr hgA, hbf, by rw [doc_none]; exact DL.nil _, KInv.none, by rw [used_none]; omega, by omega, Below.size hg1, by have := Below.size hg1; omega⟩
  go_upto_region 6 with fail
  obtain ⟨w0, hw0⟩ : ∃ w0, w0 = ((w1.alloc (.cells #[.string ⟨#[]⟩, .string ⟨#[]⟩, .string ⟨#[]⟩, .string ⟨#[]⟩, .string ⟨#[]⟩, .string ⟨#[]⟩, .string ⟨#[]⟩, .string ⟨#[]⟩, .string ⟨#[]⟩, .string ⟨#[]⟩, .string ⟨#[]⟩, .string ⟨#[]⟩, .string ⟨#[]⟩, .string ⟨#[]⟩, .string ⟨#[]⟩, .string ⟨#[]⟩, .string ⟨#[]⟩, .string ⟨#[]⟩, .bool false] 27)).alloc (.cells #[.slice none 0 0, .bool false] 35)) := ⟨_, rfl⟩
  obtain ⟨p, hp⟩ : ∃ p, p = w1.heap.size := ⟨_, rfl⟩
  obtain ⟨b6, hb6d⟩ : ∃ b, b = w1.heap.size + 1 := ⟨_, rfl⟩
  rw [← hw0] at hS0 ⊢
  rw [← hb6d] at hS0 ⊢
  rw [← hp] at hS0 ⊢
  clear hw0 hp hb6d hKf hgA hbf hs1 hg1
  go_loopw [7] (fun iv wr => ∃ (k : Nat) (v : Value) (Lk : Txs) (lk : Bool), iv = .int .i64 (k : Int) ∧ k ≤ n ∧ k ≤ 20 ∧ PSt w wr p b6 v Lk lk) (fun iv _ => 20 - (intOf iv).toNat)
  case atStart => exact ⟨0, _, _, _, rfl, Nat.zero_le _, by omega, hS0⟩
  case round =>
    clear hS0
    obtain ⟨k, v, Lk, lk, rfl, hkn, hk20, hS⟩ := hrel
    have hk0 : (0 : Int) ≤ (k : Int) := by omega
    by_cases hgo : k < n ∧ k < 20
    · obtain ⟨hk1, hk2⟩ := hgo
      have hki : (k : Int) < (n : Int) := by omega
      have hki2 : (k : Int) < 20 := by omega
      obtain ⟨b, off, kind, cl, lo, data, rfl, hbw, hdl, hrg⟩ := act_at hacts hk1
      have hcl := clone_any hS.k
      have HS := Lib.hid hS
      clear hS
      go_upto_region 9 with (go_at_call 10; (with_reducible refine hcl.mono ?_); rintro e w2 ⟨rfl, hKq, hg2⟩)
      obtain ⟨q, hq⟩ : ∃ q, q = wr.heap.size := ⟨_, rfl⟩
      rw [← hq] at hKq ⊢
      have hK2 := HS.out.k.gr hg2
      have hD2 := HS.out.dl.gr hg2
      have hb6 := hg2.blk HS.out.b
      have hgw2 := HS.out.gr.trans hg2
      obtain ⟨hne6a, hpw, hbw6⟩ := HS.out.ne
      have hne6 : b6 ≠ p := fun e => hne6a e.symm
      have hpl := (Array.getElem?_eq_some_iff.1 HS.out.k.blk).1
      have hpn : p < w2.heap.size := Nat.lt_of_lt_of_le hpl (Below.size hg2)
      have hqp : p ≠ q := by omega
      have hqn : q < w2.heap.size := (Array.getElem?_eq_some_iff.1 hKq.blk).1
      have hb6n : b6 < w2.heap.size := (Array.getElem?_eq_some_iff.1 hb6).1
      have hu804 := HS.out.used
      have hact : ∀ W, Upd [p] w2 W → W.rangeAt b (off + k * 4) [.int .i64 kind, .bool cl, .bool lo, .string (bsl data)] := fun W hu j u hj => by
        have hc := hgw2.cellAt (hrg j u hj)
        have hblk := hu.block b (Nat.lt_of_lt_of_le hbw (Below.size hgw2)) (by simp; omega)
        rw [← hc]
        simp [World.cell?, hblk]
      have hMw : ∀ W, Upd [p] w2 W → MaxOk W := fun W hu => hM.gr (hgw2.upd hu (by simpa using hpw))
      obtain ⟨pr, hpr⟩ : ∃ pr, pr = doP Lk lk kind cl lo data := ⟨_, rfl⟩
      have hinv' := doP_inv kind cl lo data HS.out.inv hu804 (lk := lk)
      rw [← hpr] at hinv'
      obtain ⟨L', lk'⟩ := pr
      have HINV := Lib.hid hinv'
      clear hcl hq hpl hinv'
      refine wp_region_facts7 (plF p w2.heap.size (some ⟨b, off, none⟩) n c k b off v lk #[.int .i64 kind, .bool cl, .bool lo, .string (bsl data)] L' lk') (fun _ _ _ _ => True) plDead (plG p v Lk lk) (Upd [p] w2) (by kernel_rfl) (by kernel_rfl) (by kernel_rfl) ?_ (Upd.refl _ _).drew (fun j => by
        refine plG.gr ?_ ((Gr.refl w2).drew)
        unfold plG
        split <;> first | exact ⟨hK2, hD2⟩ | trivial) ?_ ?_
      · intro j o ho ys zs w' hj he hF
        unfold plF at hF ⊢
        split at hF <;> first | (simp only [← hj]; exact hF) | exact hF | trivial | skip
        · obtain ⟨b9, v', e1, e2⟩ := hF
          have := he ⟨9, .data⟩ (by injection ho with ho; subst ho; simp) rfl
          exact ⟨b9, v', by rw [← this]; exact e1, e2⟩
      · refine Steps7.cons1 1 rfl rfl ?_ (Steps7.cons1 2 rfl rfl ?_ (Steps7.cons1 3 rfl rfl ?_ (Steps7.cons1 4 rfl rfl ?_ (Steps7.cons1 5 rfl rfl ?_ (Steps7.cons1 6 rfl rfl ?_ (Steps7.cons1 7 rfl rfl ?_ (Steps7.cons1 8 rfl rfl ?_ (Steps7.cons1 9 rfl rfl ?_ (Steps7.cons1 10 rfl rfl ?_ (Steps7.cons1 11 rfl rfl ?_ (Steps7.cons1 12 rfl rfl ?_ (Steps7.nil))))))))))))
        · (intro L ys w' hB hD hP hn; simp only [LAll, Region.binds, forall_const, and_true, true_and] at hP)
          have hb := hB.blk hb6 (by simpa using hne6)
          have z0 : w'.cell? ⟨b6, 0, none⟩ = some v := cell_of_row hb 0 _ rfl
          have z1 : w'.cell? ⟨b6, 1, none⟩ = some (.bool lk) := cell_of_row hb 1 _ rfl
          intro K hK
          simp only [fillA]
          go_simp
          have h2 := hK (.agg #[v, .bool lk]) w' hB (setY_at ys 0 _) (fun j _ _ h => h) (fun j _ _ h => h) (fun j _ => ⟨fun _ => trivial, fun _ => trivial⟩)
          simp [fillA, Act.put] at h2
          exact h2
        · (intro L ys w' hB hD hP hn; simp only [LAll, Region.binds, forall_const, and_true, true_and] at hP)
          intro K hK
          simp only [fillA]
          go_simp
          have h2 := hK (.slice (some ⟨b, off, none⟩) n c) w' hB (setY_at ys 1 _) (fun j _ _ h => h) (fun j _ _ h => h) (fun j _ => ⟨fun _ => trivial, fun _ => trivial⟩)
          simp [fillA, Act.put] at h2
          exact h2
        · (intro L ys w' hB hD hP hn; simp only [LAll, Region.binds, forall_const, and_true, true_and] at hP)
          intro K hK
          simp only [fillA]
          go_simp
          have h2 := hK (.int .i64 (k : Int)) w' hB (setY_at ys 2 _) (fun j _ _ h => h) (fun j _ _ h => h) (fun j _ => ⟨fun _ => trivial, fun _ => trivial⟩)
          simp [fillA, Act.put] at h2
          exact h2
        · (intro L ys w' hB hD hP hn; simp only [LAll, Region.binds, forall_const, and_true, true_and] at hP)
          have f1 : ys 1 = .slice (some ⟨b, off, none⟩) n c := hD.fact 1 (by first | exact hP | exact hP.1 | exact hP.2.1 | exact hP.2.2.1 | exact hP.2.2.2.1 | exact hP.2.2.2.2 | exact hP.2 | exact hP.2.2 | exact hP.2.2.2) (fun i _ => by simp [plDead])
          have f2 : ys 2 = .int .i64 (k : Int) := hD.fact 2 (by first | exact hP | exact hP.1 | exact hP.2.1 | exact hP.2.2.1 | exact hP.2.2.2.1 | exact hP.2.2.2.2 | exact hP.2 | exact hP.2.2 | exact hP.2.2.2) (fun i _ => by simp [plDead])
          intro K hK
          simp only [fillA]
          go_simp
          have h2 := hK (.pointer (some ⟨b, off + k * 4, none⟩)) w' hB (setY_at ys 3 _) (fun j _ _ h => h) (fun j _ _ h => h) (fun j _ => ⟨fun _ => trivial, fun _ => trivial⟩)
          simp [fillA, Act.put, f1, f2] at h2
          exact h2
        · (intro L ys w' hB hD hP hn; simp only [LAll, Region.binds, forall_const, and_true, true_and] at hP)
          have f3 : ys 3 = .pointer (some ⟨b, off + k * 4, none⟩) := hD.fact 3 (by first | exact hP | exact hP.1 | exact hP.2.1 | exact hP.2.2.1 | exact hP.2.2.2.1 | exact hP.2.2.2.2 | exact hP.2 | exact hP.2.2 | exact hP.2.2.2) (fun i _ => by simp [plDead])
          intro K hK
          simp only [fillA]
          have hr := hact w' hB
          have key : ∀ {o : Oper} {a : Act} {Q : Exit → Act → World → Prop} (x : Operand), o.op = .load 41 x → a.eval x = .pointer (some ⟨b, off + k * 4, none⟩) → K (a.put o.dst (Value.agg #[Value.int .i64 kind, Value.bool cl, Value.bool lo, Value.string (bsl data)])) w' → o.wp Tryd.prog a w' K Q := fun x ho hx h => wp_load_act x ho b (off + k * 4) hx rfl hr h
          with_reducible refine key (.tmp 32) rfl ?_ ?_
          · simp [Act.eval, Act.put, f3]
          have h2 := hK (Value.agg #[Value.int .i64 kind, Value.bool cl, Value.bool lo, Value.string (bsl data)]) w' hB (setY_at ys 4 _) (fun j _ _ h => h) (fun j _ _ h => h) (fun j _ => ⟨fun _ => trivial, fun _ => trivial⟩)
          simp [fillA, Act.put, f3] at h2 ⊢
          exact h2
        · (intro L ys w' hB hD hP hn; simp only [LAll, Region.binds, forall_const, and_true, true_and] at hP)
          have f0 : ys 0 = .agg #[v, .bool lk] := hD.fact 0 (by first | exact hP | exact hP.1 | exact hP.2.1 | exact hP.2.2.1 | exact hP.2.2.2.1 | exact hP.2.2.2.2 | exact hP.2 | exact hP.2.2 | exact hP.2.2.2) (fun i _ => by simp [plDead])
          have f4 : ys 4 = .agg #[.int .i64 kind, .bool cl, .bool lo, .string (bsl data)] := hD.fact 4 (by first | exact hP | exact hP.1 | exact hP.2.1 | exact hP.2.2.1 | exact hP.2.2.2.1 | exact hP.2.2.2.2 | exact hP.2 | exact hP.2.2 | exact hP.2.2.2) (fun i _ => by simp [plDead])
          obtain ⟨hK5, hD5⟩ : KAt w' p Lk lk ∧ DL w' v (docL Lk) := hD.yet 5 hn
          intro K hK
          simp only [fillA]
          go_simp
          have hcon := do_any kind cl lo data hK5 hD5 (by omega) (hMw w' hB) hdl
          rw [← hpr] at hcon
          (with_reducible refine hcon.mono ?_)
          clear hcon
          rintro e w4 ⟨v', rfl, hK4, hD4, hu4⟩
          have h2 := hK (.tuple #[.agg #[v', .bool lk'], .bool true]) w4 (hB.trans hu4) ⟨v', setY_at ys 5 _, hD4, hK4⟩ (fun j hl _ h => h.do_ hu4 hK5 hpn (fun e => hn (e ▸ hl))) (fun j _ hne h => by
            unfold plG
            split
            · exact absurd rfl hne
            · trivial) (fun j _ => ⟨fun _ => trivial, fun _ => trivial⟩)
          simp [fillA, Act.put, f0, f4] at h2
          exact h2
        · (intro L ys w' hB hD hP hn; simp only [LAll, Region.binds, forall_const, and_true, true_and] at hP)
          obtain ⟨v', fx, hDx, _⟩ : ∃ v', ys 5 = .tuple #[.agg #[v', .bool lk'], .bool true] ∧ DL w' v' (docL L') ∧ KAt w' p L' lk' := hD.fact 5 (by first | exact hP | exact hP.1 | exact hP.2.1 | exact hP.2.2.1 | exact hP.2.2.2.1 | exact hP.2.2.2.2 | exact hP.2 | exact hP.2.2 | exact hP.2.2.2) (fun i _ => by simp [plDead])
          intro K hK
          simp only [fillA]
          go_simp
          have h2 := hK (.tuple #[.agg #[v', .bool lk'], .bool true]) w' hB ⟨v', setY_at ys 6 _, hDx⟩ (fun j _ _ h => h) (fun j _ _ h => h) (fun j _ => ⟨fun _ => trivial, fun _ => trivial⟩)
          simp [fillA, Act.put, fx] at h2
          exact h2
        · (intro L ys w' hB hD hP hn; simp only [LAll, Region.binds, forall_const, and_true, true_and] at hP)
          obtain ⟨v', fx, hDx⟩ : ∃ v', ys 6 = .tuple #[.agg #[v', .bool lk'], .bool true] ∧ DL w' v' (docL L') := hD.fact 6 (by first | exact hP | exact hP.1 | exact hP.2.1 | exact hP.2.2.1 | exact hP.2.2.2.1 | exact hP.2.2.2.2 | exact hP.2 | exact hP.2.2 | exact hP.2.2.2) (fun i _ => by simp [plDead])
          intro K hK
          simp only [fillA]
          go_simp
          have h2 := hK (.agg #[v', .bool lk']) w' hB ⟨v', setY_at ys 7 _, hDx⟩ (fun j _ _ h => h) (fun j _ _ h => h) (fun j _ => ⟨fun _ => trivial, fun _ => trivial⟩)
          simp [fillA, Act.put, fx] at h2
          exact h2
        · (intro L ys w' hB hD hP hn; simp only [LAll, Region.binds, forall_const, and_true, true_and] at hP)
          obtain ⟨v', fx, hDx⟩ : ∃ v', ys 6 = .tuple #[.agg #[v', .bool lk'], .bool true] ∧ DL w' v' (docL L') := hD.fact 6 (by first | exact hP | exact hP.1 | exact hP.2.1 | exact hP.2.2.1 | exact hP.2.2.2.1 | exact hP.2.2.2.2 | exact hP.2 | exact hP.2.2 | exact hP.2.2.2) (fun i _ => by simp [plDead])
          intro K hK
          simp only [fillA]
          go_simp
          have h2 := hK (.bool true) w' hB (setY_at ys 8 _) (fun j _ _ h => h) (fun j _ _ h => h) (fun j _ => ⟨fun _ => trivial, fun _ => trivial⟩)
          simp [fillA, Act.put, fx] at h2
          exact h2
        · (intro L ys w' hB hD hP hn; simp only [LAll, Region.binds, forall_const, and_true, true_and] at hP)
          intro K hK
          simp only [fillA]
          go_simp
          have hg := (Gr.refl w').alloc (.cells #[.slice none 0 0, .bool false] 35)
          have h2 := hK (.pointer (some ⟨w'.heap.size, 0, none⟩)) (w'.alloc (.cells #[.slice none 0 0, .bool false] 35)) (hB.gr hg) ⟨_, setY_at ys 9 _, hB.size, heap_alloc_new _ _⟩ (fun j _ _ h => h.gr hg) (fun j _ _ h => h.gr hg) (fun j _ => ⟨fun _ => trivial, fun _ => trivial⟩)
          simp [fillA, Act.put] at h2
          exact h2
        · (intro L ys w' hB hD hP hn; simp only [LAll, Region.binds, forall_const, and_true, true_and] at hP)
          obtain ⟨v', f7, hD7⟩ : ∃ v', ys 7 = .agg #[v', .bool lk'] ∧ DL w' v' (docL L') := hD.fact 7 (by first | exact hP | exact hP.1 | exact hP.2.1 | exact hP.2.2.1 | exact hP.2.2.2.1 | exact hP.2.2.2.2 | exact hP.2 | exact hP.2.2 | exact hP.2.2.2) (fun i _ => by simp [plDead])
          obtain ⟨b9, f9, hn9, hb9⟩ : ∃ b9, ys 9 = .pointer (some ⟨b9, 0, none⟩) ∧ w2.heap.size ≤ b9 ∧ w'.heap[b9]? = some (.cells #[.slice none 0 0, .bool false] 35 (0, 0)) := hD.fact 9 (by first | exact hP | exact hP.1 | exact hP.2.1 | exact hP.2.2.1 | exact hP.2.2.2.1 | exact hP.2.2.2.2 | exact hP.2 | exact hP.2.2 | exact hP.2.2.2) (fun i hi => by
            rcases (by omega : i = 10 ∨ i ≠ 10) with rfl | h
            · exact absurd hi hn
            · simp [plDead, h])
          have ho' : (#[v', .bool lk'] : Array Value).all (·.oneCell') = true := by obtain ⟨x, y, rfl⟩ := hD7.form; simp [Value.oneCell']
          intro K hK
          simp only [fillA]
          have key : ∀ {o : Oper} {a : Act} {Q : Exit → Act → World → Prop} (x y : Operand), o.guard = none → o.op = .store 35 x y → o.dst = none → a.eval x = .pointer (some ⟨b9, 0, none⟩) → a.eval y = .agg #[v', .bool lk'] → (∀ w'', w''.heap[b9]? = some (.cells #[v', .bool lk'] 35 (0, 0)) → Upd [b9] w' w'' → K (a.put o.dst undef) w'') → o.wp Tryd.prog a w' K Q := fun x y hgd ho hdst hx hy h => wp_store_keys hgd x y ho hdst b9 v' lk' _ hx hy hb9 rfl ho' h
          with_reducible refine key (.tmp 9) (.tmp 35) rfl rfl rfl ?_ ?_ ?_
          · simp [Act.eval, Act.put, f9]
          · simp [Act.eval, Act.put, f7]
          intro w'' hb'' hu''
          have h2 := hK undef w'' (hB.two hu'' (by simpa using hn9)) ⟨b9, v', by simpa [setY] using f9, hn9, hb'', hD7.upd hu'' hb9 (by decide)⟩ (fun j hl hne h => h.set hu'' hb9 (by omega) (fun e => by subst e; simp [plDead] at hne) (fun e => hn (e ▸ hl))) (fun j _ _ h => h.set hu'' hb9 (by omega)) (fun j _ => ⟨fun _ => trivial, fun _ => trivial⟩)
          simp [fillA, Act.put, f9, f7] at h2 ⊢
          exact h2
        · (intro L ys w' hB hD hP hn; simp only [LAll, Region.binds, forall_const, and_true, true_and] at hP)
          have f8 : ys 8 = .bool true := hD.fact 8 (by first | exact hP | exact hP.1 | exact hP.2.1 | exact hP.2.2.1 | exact hP.2.2.2.1 | exact hP.2.2.2.2 | exact hP.2 | exact hP.2.2 | exact hP.2.2.2) (fun i _ => by simp [plDead])
          intro K hK
          simp only [fillA]
          go_simp
          have h2 := hK (.bool true) w' hB (setY_at ys 11 _) (fun j _ _ h => h) (fun j _ _ h => h) (fun j _ => ⟨fun _ => trivial, fun _ => trivial⟩)
          simp [fillA, Act.put, f8] at h2
          exact h2
      · intro ys w3 hB hF _
        obtain ⟨v5, _, _, hK3⟩ := hF 5 (by decide) (fun i _ => by simp [plDead])
        obtain ⟨b9, v', f9, hn9, hb9, hD9⟩ := hF 10 (by decide) (fun i _ => by simp [plDead])
        have f11 : ys 11 = .bool true := hF 11 (by decide) (fun i _ => by simp [plDead])
        clear hF
        simp only [fillA, Act.put, List.setIfInBounds_toArray, List.set_cons_succ, List.set_cons_zero, Nat.zero_add, Nat.reduceAdd, f9, f11]
        clear f9 f11
        have hKq3 := hKq.upd hB (by simpa using fun e => hqp e.symm)
        have hb63 := hB.blk hb6 (by simpa using hne6)
        have hDv3 := hD2.keys hK2 hB
        have h96 : b9 ≠ b6 := by omega
        have hgw3 : Gr w w3 := hgw2.upd hB (by simpa using hpw)
        have hz := fun (W : World) (hg : Gr w3 W) => show W.cell? ⟨b9, 0, none⟩ = some v' ∧ W.cell? ⟨b9, 1, none⟩ = some (.bool lk') ∧ W.cell? ⟨b6, 0, none⟩ = some v ∧ W.cell? ⟨b6, 1, none⟩ = some (.bool lk) from ⟨cell_of_row (hg.blk hb9) 0 _ rfl, cell_of_row (hg.blk hb9) 1 _ rfl, cell_of_row (hg.blk hb63) 0 _ rfl, cell_of_row (hg.blk hb63) 1 _ rfl⟩
        have hi1 := fun (W : World) (hg : Gr w3 W) => is_keys (hK3.gr hg) (hD9.gr hg) HINV.out.1 HINV.out.2
        have hi2 := fun (W : World) (hg : Gr w3 W) => is_keys (hKq3.gr hg) (hDv3.gr hg) HS.out.inv HS.out.used
        have hs1 := fun (W : World) (hg : Gr w3 W) => psame_any (hK3.gr hg) (hKq3.gr hg)
        have hn18 : (docL L').length ≤ 1000 := by have := docGo_len 17 L'; have := hK3.len; unfold docL; omega
        have hs2 := fun (W : World) (hg : Gr w3 W) => rsame_any (lk := lk') (lk' := lk) (hD9.gr hg) (hDv3.gr hg) hn18
        have hsb : ((lk' == lk) && decide (docL L' = docL Lk)) = (decide (L' = Lk) && (lk' == lk)) := by
          rw [Bool.and_comm]
          congr 1
          rw [Bool.eq_iff_iff, decide_eq_true_iff, decide_eq_true_iff]
          exact ⟨fun e => docL_inj HINV.out.1 HS.out.inv e, fun e => by rw [e]⟩
        obtain ⟨sb, hsbd⟩ : ∃ sb, sb = (decide (L' = Lk) && (lk' == lk)) := ⟨_, rfl⟩
        rw [← hsbd] at hs1 hsb
        simp only [hsb] at hs2
        have hg33 := Gr.refl w3
        obtain ⟨z0, z1, z2, z3⟩ := hz w3 hg33
        have hok' : (#[v', .bool lk'] : Array Value).all (·.oneCell') = true := by obtain ⟨x, y, rfl⟩ := hD9.form; simp [Value.oneCell']
        have HB := Lib.hid hB; have HKQ := Lib.hid hKq; have HK2 := Lib.hid hK2; have HD2 := Lib.hid hD2; have HD9 := Lib.hid hD9; have HK3 := Lib.hid hK3; have HGW := Lib.hid hgw3
        clear hB hKq hK2 hD2 hD9 hK3 hgw3 hact hMw hpr hsb hsbd hKq3 hDv3 hdl hrg hu804
        go_upto_region 10 with fail
        go_region_held3 (fun w9 => Gr w3 w9 ∧ w9.cell? ⟨b9, 0, none⟩ = some v' ∧ w9.cell? ⟨b9, 1, none⟩ = some (.bool lk') ∧ w9.cell? ⟨b6, 0, none⟩ = some v ∧ w9.cell? ⟨b6, 1, none⟩ = some (.bool lk))
          ((refine (fun hg => ⟨hg, (hz _ hg).1, (hz _ hg).2.1, (hz _ hg).2.2.1, (hz _ hg).2.2.2⟩) ?_; (repeat (first | with_reducible exact Gr.refl _ | with_reducible assumption | with_reducible refine Gr.setCell ?_ (by simp; try omega) _ | with_reducible refine Gr.alloc ?_ _ | with_reducible refine Gr.drew ?_ | with_reducible refine Gr.drewN ?_ _ | with_reducible refine Gr.trans ?_ (by assumption)))))
          (first
            | (go_at_call 12; (with_reducible refine (hi1 _ ?_).mono ?_); ((repeat (first | with_reducible exact Gr.refl _ | with_reducible assumption | with_reducible refine Gr.setCell ?_ (by simp; try omega) _ | with_reducible refine Gr.alloc ?_ _ | with_reducible refine Gr.drew ?_ | with_reducible refine Gr.drewN ?_ _ | with_reducible refine Gr.trans ?_ (by assumption)))); rintro e w4 ⟨rfl, hg4⟩)
            | (go_at_call 12; (with_reducible refine (hi2 _ ?_).mono ?_); ((repeat (first | with_reducible exact Gr.refl _ | with_reducible assumption | with_reducible refine Gr.setCell ?_ (by simp; try omega) _ | with_reducible refine Gr.alloc ?_ _ | with_reducible refine Gr.drew ?_ | with_reducible refine Gr.drewN ?_ _ | with_reducible refine Gr.trans ?_ (by assumption)))); rintro e w5 ⟨rfl, hg5⟩)
            | (go_at_call 13; (with_reducible refine (hs1 _ ?_).mono ?_); ((repeat (first | with_reducible exact Gr.refl _ | with_reducible assumption | with_reducible refine Gr.setCell ?_ (by simp; try omega) _ | with_reducible refine Gr.alloc ?_ _ | with_reducible refine Gr.drew ?_ | with_reducible refine Gr.drewN ?_ _ | with_reducible refine Gr.trans ?_ (by assumption)))); rintro e w6 ⟨rfl, hg6⟩)
            | (go_at_call 14; (with_reducible refine (hs2 _ ?_).mono ?_); ((repeat (first | with_reducible exact Gr.refl _ | with_reducible assumption | with_reducible refine Gr.setCell ?_ (by simp; try omega) _ | with_reducible refine Gr.alloc ?_ _ | with_reducible refine Gr.drew ?_ | with_reducible refine Gr.drewN ?_ _ | with_reducible refine Gr.trans ?_ (by assumption)))); rintro e w7 ⟨rfl, hg7⟩))
        have hgx : Gr w3 w7 := by (repeat (first | with_reducible exact Gr.refl _ | with_reducible assumption | with_reducible refine Gr.setCell ?_ (by simp; try omega) _ | with_reducible refine Gr.alloc ?_ _ | with_reducible refine Gr.drew ?_ | with_reducible refine Gr.drewN ?_ _ | with_reducible refine Gr.trans ?_ (by assumption)))
        obtain ⟨z0, z1, z2, z3⟩ := hz w7 hgx
        have hb6x := hgx.blk hb63
        clear hz hi1 hi2 hs1 hs2
        go_wp2_with (refine wpList_store_part rfl _ _ _ rfl b6 0 #[v', .bool lk'] rfl rfl _ _ #[v', .bool lk'] hb6x (by simp) rkeys_size hok' rfl ?_; intro w8 hb8 hu8 hs8)
        go_roundw
        case rel => exact ⟨k + 1, v', L', lk', by go_num, by omega, by omega, ⟨(HGW.out.trans hgx).upd hu8 (by simpa using hbw6), (HK3.out.gr hgx).upd hu8 (by simpa using hne6a), hb8, (HD9.out.gr hgx).upd hu8 hb6x (by decide), HINV.out.1, HINV.out.2, hne6a, hpw, hbw6⟩⟩
        case measure => simp [intOf]; omega
    · have hget := get_any key hS.k
      have hrget := fun (W : World) (hg : Gr wr W) => rget_any (lk := lk) key W (hS.dl.gr hg) (by have := docGo_len 17 Lk; have := hS.k.len; unfold docL; omega)
      rw [getI_doc hS.inv key] at hrget
      have z0 : wr.cell? ⟨b6, 0, none⟩ = some v := cell_of_row hS.b 0 _ rfl
      have z1 : wr.cell? ⟨b6, 1, none⟩ = some (.bool lk) := cell_of_row hS.b 1 _ rfl
      have hgw := hS.gr
      obtain ⟨g, hgd⟩ : ∃ g, g = getZ Lk key := ⟨_, rfl⟩
      rw [← hgd] at hget hrget
      obtain ⟨S, o, hg1, hg2⟩ : ∃ (S : ByteArray) (o : Bool), (Value.tuple #[.string (bsl g), .bool (!g.isEmpty)]) = .tuple #[.string S, .bool o] ∧ getV (if g = [] then none else some g) = .tuple #[.string S, .bool o] := by
        cases g with
        | nil => exact ⟨_, _, rfl, rfl⟩
        | cons x r => exact ⟨_, _, rfl, by rw [if_neg (by simp)]; rfl⟩
      rw [hg1] at hget
      rw [hg2] at hrget
      clear hgd hg1 hg2 hS
      rcases Nat.lt_or_ge k n with h1 | h1
      · have hki : (k : Int) < (n : Int) := by omega
        have hki2 : ¬ (k : Int) < 20 := by omega
        clear hgo
        go_wp2_with (first
          | (go_at_call 15; (with_reducible refine hget.mono ?_); rintro e w2 ⟨rfl, rfl⟩)
          | (go_at_call 16; (with_reducible refine (hrget _ (Gr.refl _)).mono ?_); rintro e w3 ⟨rfl, hg3⟩))
        go_ret
        exact ⟨by simp, by (repeat (first | with_reducible exact Gr.refl _ | with_reducible assumption | with_reducible refine Gr.setCell ?_ (by simp; try omega) _ | with_reducible refine Gr.alloc ?_ _ | with_reducible refine Gr.drew ?_ | with_reducible refine Gr.drewN ?_ _ | with_reducible refine Gr.trans ?_ (by assumption)))⟩
      · have hki : ¬ (k : Int) < (n : Int) := by omega
        clear hgo
        go_wp2_with (first
          | (go_at_call 15; (with_reducible refine hget.mono ?_); rintro e w2 ⟨rfl, rfl⟩)
          | (go_at_call 16; (with_reducible refine (hrget _ (Gr.refl _)).mono ?_); rintro e w3 ⟨rfl, hg3⟩))
        go_ret
        exact ⟨by simp, by (repeat (first | with_reducible exact Gr.refl _ | with_reducible assumption | with_reducible refine Gr.setCell ?_ (by simp; try omega) _ | with_reducible refine Gr.alloc ?_ _ | with_reducible refine Gr.drew ?_ | with_reducible refine Gr.drewN ?_ _ | with_reducible refine Gr.trans ?_ (by assumption)))⟩
theorem plays_law (a : Option Addr) (n c : Nat) (key : Int) (w : World) (hacts : IsStructs w a n 4 actU) (hlaid : laidMetH Tryd.prog Rows.udkPlaysRow.laid w) (hsh : w.ShapedOpen Tryd.prog) :
    Calls Tryd.prog 4 #[.slice a n c, .int .i64 key] w fun e w' => e = .returned (.bool true) ∧ Gr w w' :=
  plays_walk a n c key w hacts (MaxOk.of hsh)
end Go.Proofs.YtdfohcnejdhkiaaDoor
