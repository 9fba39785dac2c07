/-
  Keys with texts: the acts of the law UdkBack, walked.
-/
import Derived.Test.YtdfohcnejdhkiaaDoorZUdV
namespace Go.Proofs.YtdfohcnejdhkiaaDoor
set_option linter.unusedSimpArgs false
set_option linter.unusedVariables false
open Go.ChangeShapes Go.WideShapes Go.Deep Go.RowKit
set_option linter.unusedVariables false

/-- What is known in the region of an act. -/
def bkF (p b8 : Nat) (a : Option Addr) (n c k b off : Nat) (v : Value) (lk : Bool) (act : Array Value) (L' : Txs) (lk' : Bool) : Nat → (Nat → Value) → World → Prop
  | 0, ys, _ => ys 0 = .agg #[v, .bool lk]
  | 1, ys, _ => ys 1 = .slice a n c
  | 2, ys, _ => ys 2 = .int .i64 (k : Int)
  | 3, ys, _ => ys 3 = .pointer (some ⟨b, off + k * 4, none⟩)
  | 4, ys, _ => ys 4 = .agg act
  | 5, ys, W => ∃ v', ys 5 = .tuple #[.agg #[v', .bool lk'], .bool true] ∧ DL W v' (docL L') ∧ KAt W p L' lk'
  | 6, ys, W => ∃ v', ys 6 = .tuple #[.agg #[v', .bool lk'], .bool true] ∧ DL W v' (docL L')
  | 7, ys, W => ∃ v', ys 7 = .agg #[v', .bool lk'] ∧ DL W v' (docL L')
  | 8, ys, _ => ys 8 = .bool true
  | 9, ys, W => ∃ v', W.heap[b8]? = some (.cells #[v', .bool lk'] 35 (0, 0)) ∧ DL W v' (docL L')
  | _, _, _ => True
def bkG (p b8 : Nat) (v : Value) (L : Txs) (lk : Bool) : Nat → World → Prop
  | 0, W => W.heap[b8]? = some (.cells #[v, .bool lk] 35 (0, 0))
  | 5, W => KAt W p L lk ∧ DL W v (docL L)
  | _, _ => True
/-- What holds in all of it. -/
structure BkB (p b8 : Nat) (w2 W : World) : Prop where
  upd : Upd [p, b8] w2 W
  box : ∃ C : Array Value, C.size = 2 ∧ W.heap[b8]? = some (.cells C 35 (0, 0))
section
variable {p b8 n c k b off : Nat} {a : Option Addr} {v : Value} {lk lk' : Bool} {act : Array Value} {L L' : Txs} {W W' : World} {j : Nat} {ys : Nat → Value}
theorem bkF.gr (h : bkF p b8 a n c k b off v lk act L' lk' j ys W) (hg : Gr W W') : bkF p b8 a n c k b off v lk act L' lk' j ys W' := by
  unfold bkF at h ⊢
  split <;> first | exact h | skip
  · obtain ⟨v', e, h1, h2⟩ := h; exact ⟨v', e, h1.gr hg, h2.gr hg⟩
  · obtain ⟨v', e, h1⟩ := h; exact ⟨v', e, h1.gr hg⟩
  · obtain ⟨v', e, h1⟩ := h; exact ⟨v', e, h1.gr hg⟩
  · obtain ⟨v', h2, h3⟩ := h; exact ⟨v', hg.blk h2, h3.gr hg⟩
  · trivial
theorem bkG.gr (h : bkG p b8 v L lk j W) (hg : Gr W W') : bkG p b8 v L lk j W' := by
  unfold bkG at h ⊢
  split
  · exact hg.blk h
  · exact ⟨h.1.gr hg, h.2.gr hg⟩
  · trivial
theorem bkF.do_ (h : bkF p b8 a n c k b off v lk act L' lk' j ys W) (hu : Upd [p] W W') (hK : KAt W p L lk) (hp : b8 ≠ p) (h5 : j ≠ 5) : bkF p b8 a n c k b off v lk act L' lk' j ys W' := by
  unfold bkF at h ⊢
  split <;> first | exact h | skip
  · exact absurd rfl h5
  · obtain ⟨v', e, h1⟩ := h; exact ⟨v', e, h1.keys hK hu⟩
  · obtain ⟨v', e, h1⟩ := h; exact ⟨v', e, h1.keys hK hu⟩
  · obtain ⟨v', h2, h3⟩ := h; exact ⟨v', hu.blk h2 (by simpa using hp), h3.keys hK hu⟩
  · trivial
theorem bkF.set {C : Array Value} (h : bkF p b8 a n c k b off v lk act L' lk' j ys W) (hu : Upd [b8] W W') (hb : W.heap[b8]? = some (.cells C 35 (0, 0))) (hp : p ≠ b8) (h9 : j ≠ 9) : bkF p b8 a n c k b off v lk act L' lk' j ys W' := by
  unfold bkF at h ⊢
  split <;> first | exact h | skip
  · obtain ⟨v', e, h1, h2⟩ := h; exact ⟨v', e, h1.upd hu hb (by decide), h2.upd hu (by simpa using hp)⟩
  · obtain ⟨v', e, h1⟩ := h; exact ⟨v', e, h1.upd hu hb (by decide)⟩
  · obtain ⟨v', e, h1⟩ := h; exact ⟨v', e, h1.upd hu hb (by decide)⟩
  · exact absurd rfl h9
  · trivial
end
set_option maxRecDepth 100000 in
set_option maxHeartbeats 4000000 in
theorem back_walk (a : Option Addr) (n c : Nat) (key : Int) (text : List UInt8) (w : World) (hacts : IsStructs w a n 4 actU) (hM : MaxOk w) (htl : text.length ≤ 9223372036854775807) :
    Calls Tryd.prog 5 #[.slice a n c, .int .i64 key, .string (bsl text)] w fun e w' => e = .returned (.bool true) ∧ Gr w w' := by
  obtain ⟨tx, htx⟩ : ∃ tx, tx = bsl text := ⟨_, rfl⟩
  rw [← htx]
  have HTX := Lib.hid htx
  clear htx
  go_enter Tryd.func5, Tryd.ntmps5
  go_upto_region 3 with (go_at_call 6; (with_reducible refine (awake_any _ hM).mono ?_); rintro e w1 ⟨rfl, hg1⟩)
  have hKf := KAt.fresh w1
  have hgA := (Gr.refl (w1.alloc (.cells #[.string ⟨#[]⟩, .string ⟨#[]⟩, .string ⟨#[]⟩, .string ⟨#[]⟩, .string ⟨#[]⟩, .string ⟨#[]⟩, .string ⟨#[]⟩, .string ⟨#[]⟩, .string ⟨#[]⟩, .string ⟨#[]⟩, .string ⟨#[]⟩, .string ⟨#[]⟩, .string ⟨#[]⟩, .string ⟨#[]⟩, .string ⟨#[]⟩, .string ⟨#[]⟩, .string ⟨#[]⟩, .string ⟨#[]⟩, .bool false] 27))).alloc (.cells #[.slice none 0 0, .bool false] 35)
  have hbf := heap_alloc_new (w1.alloc (.cells #[.string ⟨#[]⟩, .string ⟨#[]⟩, .string ⟨#[]⟩, .string ⟨#[]⟩, .string ⟨#[]⟩, .string ⟨#[]⟩, .string ⟨#[]⟩, .string ⟨#[]⟩, .string ⟨#[]⟩, .string ⟨#[]⟩, .string ⟨#[]⟩, .string ⟨#[]⟩, .string ⟨#[]⟩, .string ⟨#[]⟩, .string ⟨#[]⟩, .string ⟨#[]⟩, .string ⟨#[]⟩, .string ⟨#[]⟩, .bool false] 27)) (.cells #[.slice none 0 0, .bool false] 35)
  have hs1 : (w1.alloc (.cells #[.string ⟨#[]⟩, .string ⟨#[]⟩, .string ⟨#[]⟩, .string ⟨#[]⟩, .string ⟨#[]⟩, .string ⟨#[]⟩, .string ⟨#[]⟩, .string ⟨#[]⟩, .string ⟨#[]⟩, .string ⟨#[]⟩, .string ⟨#[]⟩, .string ⟨#[]⟩, .string ⟨#[]⟩, .string ⟨#[]⟩, .string ⟨#[]⟩, .string ⟨#[]⟩, .string ⟨#[]⟩, .string ⟨#[]⟩, .bool false] 27)).heap.size = w1.heap.size + 1 := by simp
  rw [hs1] at hbf
  have hS0 : PSt w ((w1.alloc (.cells #[.string ⟨#[]⟩, .string ⟨#[]⟩, .string ⟨#[]⟩, .string ⟨#[]⟩, .string ⟨#[]⟩, .string ⟨#[]⟩, .string ⟨#[]⟩, .string ⟨#[]⟩, .string ⟨#[]⟩, .string ⟨#[]⟩, .string ⟨#[]⟩, .string ⟨#[]⟩, .string ⟨#[]⟩, .string ⟨#[]⟩, .string ⟨#[]⟩, .string ⟨#[]⟩, .string ⟨#[]⟩, .string ⟨#[]⟩, .bool false] 27)).alloc (.cells #[.slice none 0 0, .bool false] 35)) w1.heap.size (w1.heap.size + 1) (.slice none 0 0) noL false :=
    ⟨(hg1.alloc _).alloc _, hKf.gr hgA, hbf, by rw [doc_none]; exact DL.nil _, KInv.none, by rw [used_none]; omega, by omega, Below.size hg1, by have := Below.size hg1; omega⟩
  go_upto_region 6 with fail
  obtain ⟨w0, hw0⟩ : ∃ w0, w0 = ((w1.alloc (.cells #[.string ⟨#[]⟩, .string ⟨#[]⟩, .string ⟨#[]⟩, .string ⟨#[]⟩, .string ⟨#[]⟩, .string ⟨#[]⟩, .string ⟨#[]⟩, .string ⟨#[]⟩, .string ⟨#[]⟩, .string ⟨#[]⟩, .string ⟨#[]⟩, .string ⟨#[]⟩, .string ⟨#[]⟩, .string ⟨#[]⟩, .string ⟨#[]⟩, .string ⟨#[]⟩, .string ⟨#[]⟩, .string ⟨#[]⟩, .bool false] 27)).alloc (.cells #[.slice none 0 0, .bool false] 35)) := ⟨_, rfl⟩
  obtain ⟨p, hp⟩ : ∃ p, p = w1.heap.size := ⟨_, rfl⟩
  obtain ⟨b8, hb8d⟩ : ∃ b, b = w1.heap.size + 1 := ⟨_, rfl⟩
  rw [← hw0] at hS0 ⊢
  rw [← hb8d] at hS0 ⊢
  rw [← hp] at hS0 ⊢
  clear hw0 hp hb8d hKf hgA hbf hs1 hg1
  go_loopw [9] (fun iv wr => ∃ (k : Nat) (v : Value) (Lk : Txs) (lk : Bool), iv = .int .i64 (k : Int) ∧ k ≤ n ∧ k ≤ 8 ∧ PSt w wr p b8 v Lk lk) (fun iv _ => 8 - (intOf iv).toNat)
  case atStart => exact ⟨0, _, _, _, rfl, Nat.zero_le _, by omega, hS0⟩
  case round =>
    clear hS0
    obtain ⟨k, v, Lk, lk, rfl, hkn, hk20, hS⟩ := hrel
    have hk0 : (0 : Int) ≤ (k : Int) := by omega
    by_cases hgo : k < n ∧ k < 8
    · obtain ⟨hk1, hk2⟩ := hgo
      have hki : (k : Int) < (n : Int) := by omega
      have hki2 : (k : Int) < 8 := by omega
      obtain ⟨b, off, kind, cl, lo, data, rfl, hbw, hdl, hrg⟩ := act_at hacts hk1
      have HS := Lib.hid hS
      clear hS
      have hK2 := HS.out.k
      have hD2 := HS.out.dl
      have hb8 := HS.out.b
      have hgw2 := HS.out.gr
      obtain ⟨hne6a, hpw, hbw6⟩ := HS.out.ne
      have hne6 : b8 ≠ p := fun e => hne6a e.symm
      have hu804 := HS.out.used
      have hact : ∀ W, Upd [p, b8] wr W → W.rangeAt b (off + k * 4) [.int .i64 kind, .bool cl, .bool lo, .string (bsl data)] := fun W hu j u hj => by
        have hc := hgw2.cellAt (hrg j u hj)
        have hblk := hu.block b (Nat.lt_of_lt_of_le hbw (Below.size hgw2)) (by simp; omega)
        rw [← hc]
        simp [World.cell?, hblk]
      have hMw : ∀ W, Upd [p, b8] wr W → MaxOk W := fun W hu => hM.gr (hgw2.upd hu (by intro x hx; simp at hx; rcases hx with rfl | rfl <;> assumption))
      obtain ⟨pr, hpr⟩ : ∃ pr, pr = doP Lk lk kind cl lo data := ⟨_, rfl⟩
      have hinv' := doP_inv kind cl lo data HS.out.inv hu804 (lk := lk)
      rw [← hpr] at hinv'
      obtain ⟨L', lk'⟩ := pr
      have HINV := Lib.hid hinv'
      clear hinv'
      go_upto_region 8 with fail
      refine wp_region_facts7 (bkF p b8 (some ⟨b, off, none⟩) n c k b off v lk #[.int .i64 kind, .bool cl, .bool lo, .string (bsl data)] L' lk') (fun _ _ _ _ => True) (fun _ _ => false) (bkG p b8 v Lk lk) (BkB p b8 wr) (by kernel_rfl) (by kernel_rfl) (by kernel_rfl) ?_ ⟨(Upd.refl _ _).drew, _, rfl, (Gr.refl wr).drew.blk hb8⟩ (fun j => by
        refine bkG.gr ?_ ((Gr.refl wr).drew)
        unfold bkG
        split <;> first | exact hb8 | exact ⟨hK2, hD2⟩ | trivial) ?_ ?_
      · intro j o ho ys zs w' hj he hF
        unfold bkF at hF ⊢
        split at hF <;> first | (simp only [← hj]; exact hF) | exact hF | trivial
      · refine Steps7.cons1 1 rfl rfl ?_ (Steps7.cons1 2 rfl rfl ?_ (Steps7.cons1 3 rfl rfl ?_ (Steps7.cons1 4 rfl rfl ?_ (Steps7.cons1 5 rfl rfl ?_ (Steps7.cons1 6 rfl rfl ?_ (Steps7.cons1 7 rfl rfl ?_ (Steps7.cons1 8 rfl rfl ?_ (Steps7.cons1 9 rfl rfl ?_ (Steps7.cons1 10 rfl rfl ?_ (Steps7.nil))))))))))
        · (intro L ys w' hB hD hP hn; simp only [LAll, Region.binds, forall_const, and_true, true_and] at hP)
          have hb : w'.heap[b8]? = some (.cells #[v, .bool lk] 35 (0, 0)) := hD.yet 0 hn
          have z0 : w'.cell? ⟨b8, 0, none⟩ = some v := cell_of_row hb 0 _ rfl
          have z1 : w'.cell? ⟨b8, 1, none⟩ = some (.bool lk) := cell_of_row hb 1 _ rfl
          intro K hK
          simp only [fillA]
          go_simp
          have h2 := hK (.agg #[v, .bool lk]) w' hB (setY_at ys 0 _) (fun j _ _ h => h) (fun j _ _ h => h) (fun j _ => ⟨fun _ => trivial, fun _ => trivial⟩)
          simp [fillA, Act.put] at h2
          exact h2
        · (intro L ys w' hB hD hP hn; simp only [LAll, Region.binds, forall_const, and_true, true_and] at hP)
          intro K hK
          simp only [fillA]
          go_simp
          have h2 := hK (.slice (some ⟨b, off, none⟩) n c) w' hB (setY_at ys 1 _) (fun j _ _ h => h) (fun j _ _ h => h) (fun j _ => ⟨fun _ => trivial, fun _ => trivial⟩)
          simp [fillA, Act.put] at h2
          exact h2
        · (intro L ys w' hB hD hP hn; simp only [LAll, Region.binds, forall_const, and_true, true_and] at hP)
          intro K hK
          simp only [fillA]
          go_simp
          have h2 := hK (.int .i64 (k : Int)) w' hB (setY_at ys 2 _) (fun j _ _ h => h) (fun j _ _ h => h) (fun j _ => ⟨fun _ => trivial, fun _ => trivial⟩)
          simp [fillA, Act.put] at h2
          exact h2
        · (intro L ys w' hB hD hP hn; simp only [LAll, Region.binds, forall_const, and_true, true_and] at hP)
          have f1 : ys 1 = .slice (some ⟨b, off, none⟩) n c := hD.fact 1 (by first | exact hP | exact hP.1 | exact hP.2.1 | exact hP.2.2.1 | exact hP.2.2.2.1 | exact hP.2.2.2.2 | exact hP.2 | exact hP.2.2 | exact hP.2.2.2) (fun _ _ => rfl)
          have f2 : ys 2 = .int .i64 (k : Int) := hD.fact 2 (by first | exact hP | exact hP.1 | exact hP.2.1 | exact hP.2.2.1 | exact hP.2.2.2.1 | exact hP.2.2.2.2 | exact hP.2 | exact hP.2.2 | exact hP.2.2.2) (fun _ _ => rfl)
          intro K hK
          simp only [fillA]
          go_simp
          have h2 := hK (.pointer (some ⟨b, off + k * 4, none⟩)) w' hB (setY_at ys 3 _) (fun j _ _ h => h) (fun j _ _ h => h) (fun j _ => ⟨fun _ => trivial, fun _ => trivial⟩)
          simp [fillA, Act.put, f1, f2] at h2
          exact h2
        · (intro L ys w' hB hD hP hn; simp only [LAll, Region.binds, forall_const, and_true, true_and] at hP)
          have f3 : ys 3 = .pointer (some ⟨b, off + k * 4, none⟩) := hD.fact 3 (by first | exact hP | exact hP.1 | exact hP.2.1 | exact hP.2.2.1 | exact hP.2.2.2.1 | exact hP.2.2.2.2 | exact hP.2 | exact hP.2.2 | exact hP.2.2.2) (fun _ _ => rfl)
          intro K hK
          simp only [fillA]
          have hr := hact w' hB.upd
          have key : ∀ {o : Oper} {a : Act} {Q : Exit → Act → World → Prop} (x : Operand), o.op = .load 41 x → a.eval x = .pointer (some ⟨b, off + k * 4, none⟩) → K (a.put o.dst (Value.agg #[Value.int .i64 kind, Value.bool cl, Value.bool lo, Value.string (bsl data)])) w' → o.wp Tryd.prog a w' K Q := fun x ho hx h => wp_load_act x ho b (off + k * 4) hx rfl hr h
          with_reducible refine key (.tmp 33) rfl ?_ ?_
          · simp [Act.eval, Act.put, f3]
          have h2 := hK (Value.agg #[Value.int .i64 kind, Value.bool cl, Value.bool lo, Value.string (bsl data)]) w' hB (setY_at ys 4 _) (fun j _ _ h => h) (fun j _ _ h => h) (fun j _ => ⟨fun _ => trivial, fun _ => trivial⟩)
          simp [fillA, Act.put, f3] at h2 ⊢
          exact h2
        · (intro L ys w' hB hD hP hn; simp only [LAll, Region.binds, forall_const, and_true, true_and] at hP)
          have f0 : ys 0 = .agg #[v, .bool lk] := hD.fact 0 (by first | exact hP | exact hP.1 | exact hP.2.1 | exact hP.2.2.1 | exact hP.2.2.2.1 | exact hP.2.2.2.2 | exact hP.2 | exact hP.2.2 | exact hP.2.2.2) (fun _ _ => rfl)
          have f4 : ys 4 = .agg #[.int .i64 kind, .bool cl, .bool lo, .string (bsl data)] := hD.fact 4 (by first | exact hP | exact hP.1 | exact hP.2.1 | exact hP.2.2.1 | exact hP.2.2.2.1 | exact hP.2.2.2.2 | exact hP.2 | exact hP.2.2 | exact hP.2.2.2) (fun _ _ => rfl)
          have hn0 : L 0 := (by first | exact hP | exact hP.1 | exact hP.2.1 | exact hP.2.2.1 | exact hP.2.2.2.1 | exact hP.2.2.2.2 | exact hP.2 | exact hP.2.2 | exact hP.2.2.2)
          obtain ⟨hK5, hD5⟩ : KAt w' p Lk lk ∧ DL w' v (docL Lk) := hD.yet 5 hn
          intro K hK
          simp only [fillA]
          go_simp
          have hcon := do_any kind cl lo data hK5 hD5 (by omega) (hMw w' hB.upd) hdl
          rw [← hpr] at hcon
          (with_reducible refine hcon.mono ?_)
          clear hcon
          rintro e w4 ⟨v', rfl, hK4, hD4, hu4⟩
          have hB4 : BkB p b8 wr w4 := by
            obtain ⟨C, hC1, hC2⟩ := hB.box
            exact ⟨hB.upd.trans (hu4.mono (by simp)), C, hC1, hu4.blk hC2 (by simpa using hne6)⟩
          have h2 := hK (.tuple #[.agg #[v', .bool lk'], .bool true]) w4 hB4 ⟨v', setY_at ys 5 _, hD4, hK4⟩ (fun j hl _ h => h.do_ hu4 hK5 hne6 (fun e => hn (e ▸ hl))) (fun j hl hne h => by
            unfold bkG
            split
            · exact absurd hn0 hl
            · exact absurd rfl hne
            · trivial) (fun j _ => ⟨fun _ => trivial, fun _ => trivial⟩)
          simp [fillA, Act.put, f0, f4] at h2
          exact h2
        · (intro L ys w' hB hD hP hn; simp only [LAll, Region.binds, forall_const, and_true, true_and] at hP)
          obtain ⟨v', fx, hDx, _⟩ : ∃ v', ys 5 = .tuple #[.agg #[v', .bool lk'], .bool true] ∧ DL w' v' (docL L') ∧ KAt w' p L' lk' := hD.fact 5 (by first | exact hP | exact hP.1 | exact hP.2.1 | exact hP.2.2.1 | exact hP.2.2.2.1 | exact hP.2.2.2.2 | exact hP.2 | exact hP.2.2 | exact hP.2.2.2) (fun _ _ => rfl)
          intro K hK
          simp only [fillA]
          go_simp
          have h2 := hK (.tuple #[.agg #[v', .bool lk'], .bool true]) w' hB ⟨v', setY_at ys 6 _, hDx⟩ (fun j _ _ h => h) (fun j _ _ h => h) (fun j _ => ⟨fun _ => trivial, fun _ => trivial⟩)
          simp [fillA, Act.put, fx] at h2
          exact h2
        · (intro L ys w' hB hD hP hn; simp only [LAll, Region.binds, forall_const, and_true, true_and] at hP)
          obtain ⟨v', fx, hDx⟩ : ∃ v', ys 6 = .tuple #[.agg #[v', .bool lk'], .bool true] ∧ DL w' v' (docL L') := hD.fact 6 (by first | exact hP | exact hP.1 | exact hP.2.1 | exact hP.2.2.1 | exact hP.2.2.2.1 | exact hP.2.2.2.2 | exact hP.2 | exact hP.2.2 | exact hP.2.2.2) (fun _ _ => rfl)
          intro K hK
          simp only [fillA]
          go_simp
          have h2 := hK (.agg #[v', .bool lk']) w' hB ⟨v', setY_at ys 7 _, hDx⟩ (fun j _ _ h => h) (fun j _ _ h => h) (fun j _ => ⟨fun _ => trivial, fun _ => trivial⟩)
          simp [fillA, Act.put, fx] at h2
          exact h2
        · (intro L ys w' hB hD hP hn; simp only [LAll, Region.binds, forall_const, and_true, true_and] at hP)
          obtain ⟨v', fx, hDx⟩ : ∃ v', ys 6 = .tuple #[.agg #[v', .bool lk'], .bool true] ∧ DL w' v' (docL L') := hD.fact 6 (by first | exact hP | exact hP.1 | exact hP.2.1 | exact hP.2.2.1 | exact hP.2.2.2.1 | exact hP.2.2.2.2 | exact hP.2 | exact hP.2.2 | exact hP.2.2.2) (fun _ _ => rfl)
          intro K hK
          simp only [fillA]
          go_simp
          have h2 := hK (.bool true) w' hB (setY_at ys 8 _) (fun j _ _ h => h) (fun j _ _ h => h) (fun j _ => ⟨fun _ => trivial, fun _ => trivial⟩)
          simp [fillA, Act.put, fx] at h2
          exact h2
        · (intro L ys w' hB hD hP hn; simp only [LAll, Region.binds, forall_const, and_true, true_and] at hP)
          have hl7 : L 7 := (by first | exact hP | exact hP.1 | exact hP.2.1 | exact hP.2.2.1 | exact hP.2.2.2.1 | exact hP.2.2.2.2 | exact hP.2 | exact hP.2.2 | exact hP.2.2.2)
          obtain ⟨v', f7, hD7⟩ : ∃ v', ys 7 = .agg #[v', .bool lk'] ∧ DL w' v' (docL L') := hD.fact 7 (by first | exact hP | exact hP.1 | exact hP.2.1 | exact hP.2.2.1 | exact hP.2.2.2.1 | exact hP.2.2.2.2 | exact hP.2 | exact hP.2.2 | exact hP.2.2.2) (fun _ _ => rfl)
          have hl6 := hD.back 7 _ hl7 rfl ⟨6, .data⟩ (by simp) rfl
          have hl5 := hD.back 6 _ hl6 rfl ⟨5, .data⟩ (by simp) rfl
          have hl0 := hD.back 5 _ hl5 rfl ⟨0, .data⟩ (by simp) rfl
          obtain ⟨C, hC1, hC2⟩ := hB.box
          have ho' : (#[v', .bool lk'] : Array Value).all (·.oneCell') = true := by obtain ⟨x, y, rfl⟩ := hD7.form; simp [Value.oneCell']
          intro K hK
          simp only [fillA]
          have key : ∀ {o : Oper} {a : Act} {Q : Exit → Act → World → Prop} (x y : Operand), o.guard = none → o.op = .store 35 x y → o.dst = none → a.eval x = .pointer (some ⟨b8, 0, none⟩) → a.eval y = .agg #[v', .bool lk'] → (∀ w'', w''.heap[b8]? = some (.cells #[v', .bool lk'] 35 (0, 0)) → Upd [b8] w' w'' → K (a.put o.dst undef) w'') → o.wp Tryd.prog a w' K Q := fun x y hgd ho hdst hx hy h => wp_store_keys hgd x y ho hdst b8 v' lk' _ hx hy hC2 hC1 ho' h
          with_reducible refine key (.tmp 8) (.tmp 36) rfl rfl rfl ?_ ?_ ?_
          · simp [Act.eval, Act.put]
          · simp [Act.eval, Act.put, f7]
          intro w'' hb'' hu''
          have h2 := hK undef w'' ⟨hB.upd.trans (hu''.mono (by simp)), _, rfl, hb''⟩ ⟨v', hb'', hD7.upd hu'' hC2 (by decide)⟩ (fun j hl _ h => h.set hu'' hC2 hne6a (fun e => hn (e ▸ hl))) (fun j hl _ h => by
            unfold bkG
            split
            · exact absurd hl0 hl
            · exact absurd hl5 hl
            · trivial) (fun j _ => ⟨fun _ => trivial, fun _ => trivial⟩)
          simp [fillA, Act.put, f7] at h2 ⊢
          exact h2
      · intro ys w3 hB hF _
        obtain ⟨v5, _, _, hK3⟩ := hF 5 (by decide) (fun _ _ => rfl)
        obtain ⟨v', hb9, hD9⟩ := hF 9 (by decide) (fun _ _ => rfl)
        clear hF
        simp only [fillA, Act.put, List.setIfInBounds_toArray, List.set_cons_succ, List.set_cons_zero, Nat.zero_add, Nat.reduceAdd]
        have hgw3 : Gr w w3 := HS.out.gr.upd hB.upd (by intro x hx; simp at hx; rcases hx with rfl | rfl <;> assumption)
        go_wp2_with fail
        go_roundw
        case rel => exact ⟨k + 1, v', L', lk', by go_num, by omega, by omega, ⟨hgw3, hK3, hb9, hD9, HINV.out.1, HINV.out.2, hne6a, hpw, hbw6⟩⟩
        case measure => simp [intOf]; omega
    · rcases Nat.lt_or_ge k n with h1 | h1
      · have hki : (k : Int) < (n : Int) := by omega
        have hki2 : ¬ (k : Int) < 8 := by omega
        clear hgo
        have hlock := lock_any false hS.k
        have HS := Lib.hid hS
        clear hS
        go_upto_region 9 with fail
        obtain ⟨T, hTd⟩ : ∃ T, T = text.take 40 := ⟨_, rfl⟩
        by_cases hbig : 40 < tx.size
        · have hbigi : (40 : Int) < (tx.size : Int) := by omega
          have hex : tx.extract 0 40 = bsl T := by rw [HTX.out, bsl_extract, hTd]; rfl
          have hTl : T.length ≤ 40 := by rw [hTd]; simp; omega
          have HTD := Lib.hid hTd
          clear hTd
          go_upto_region 11 with fail
          go_upto_region 13 with (first
            | (go_at_call 17; (with_reducible refine hlock.mono ?_); rintro e w2 ⟨rfl, hK2, hu2⟩; have hcl := clone_any hK2)
            | (go_at_call 10; (with_reducible refine hcl.mono ?_); rintro e w3 ⟨rfl, hKq, hg3⟩))
          have hgw3 : Gr w w3 := (HS.out.gr.upd hu2 (by simpa using HS.out.ne.2.1)).trans hg3
          have hK3 := hK2.gr hg3
          have hqp : p ≠ w2.heap.size := by have := (Array.getElem?_eq_some_iff.1 hK2.blk).1; omega
          obtain ⟨q, hq⟩ : ∃ q, q = w2.heap.size := ⟨_, rfl⟩
          rw [← hq] at hKq hqp ⊢
          have hu804 := HS.out.used
          have hLl := HS.out.k.len
          have hsp := space_any hK3 (by omega)
          have hri := ris_any key w3
          have hsz : (bsl T).size = T.length := bsl_size T
          obtain ⟨U, hU⟩ : ∃ U, U = usedL Lk := ⟨_, rfl⟩
          rw [← hU] at hsp hu804
          have HU := Lib.hid hU
          clear hU
          clear hcl hu2 hK2 hg3 hlock hq
          by_cases hzk : isZ key = true
          rotate_left
          · rw [Bool.eq_false_iff.2 hzk] at hri
            clear hzk
            go_wp2_with (go_at_call 18; (with_reducible refine hri.mono ?_); rintro e w4 ⟨rfl, rfl⟩)
            go_ret
            exact ⟨rfl, hgw3⟩
          rw [hzk] at hri
          by_cases hroom : T.length + U ≤ 804
          rotate_left
          · have hlong : (804 : Int) - (U : Int) < ((bsl T).size : Int) := by rw [hsz]; omega
            have hlong2 : (804 : Int) < ((bsl T).size : Int) + (U : Int) := by rw [hsz]; omega
            clear hroom
            go_wp2_with (first
              | (go_at_call 18; (with_reducible refine hri.mono ?_); rintro e w4 ⟨rfl, rfl⟩)
              | (go_at_call 9; (with_reducible refine hsp.mono ?_); rintro e w5 ⟨rfl, hg5⟩))
            go_ret
            exact ⟨rfl, by (repeat (first | with_reducible exact Gr.refl _ | with_reducible assumption | with_reducible refine Gr.setCell ?_ (by simp; try omega) _ | with_reducible refine Gr.alloc ?_ _ | with_reducible refine Gr.drew ?_ | with_reducible refine Gr.drewN ?_ _ | with_reducible refine Gr.trans ?_ (by assumption)))⟩
          have hshort : ¬ (804 : Int) - (U : Int) < ((bsl T).size : Int) := by rw [hsz]; omega
          have hshort2 : ((bsl T).size : Int) ≤ (804 : Int) - (U : Int) := by rw [hsz]; omega
          obtain ⟨m, rfl, hkm, hm1, hm2⟩ := isZ_form hzk
          go_upto_region 15 with (first
            | (go_at_call 18; (with_reducible refine hri.mono ?_); rintro e w4 ⟨rfl, rfl⟩)
            | (go_at_call 9; (with_reducible refine hsp.mono ?_); rintro e w5 ⟨rfl, hg5⟩))
          obtain ⟨_, _, _, _, _, _, hk1, hk2⟩ := key_digits ⟨m, by omega⟩ hkm
          simp only at hk1 hk2
          have hA : Int.tdiv (m : Int) 10 = ((m / 10 : Nat) : Int) := by rw [Int.tdiv_eq_ediv_of_nonneg (by omega)]; omega
          have hBm : Int.tmod (m : Int) 10 = ((m % 10 : Nat) : Int) := by rw [Int.tmod_eq_emod_of_nonneg (by omega)]; omega
          obtain ⟨A, hAd⟩ : ∃ A : Int, A = ((m / 10 : Nat) : Int) := ⟨_, rfl⟩
          obtain ⟨B, hBd⟩ : ∃ B : Int, B = ((m % 10 : Nat) : Int) := ⟨_, rfl⟩
          rw [← hAd] at hA
          rw [← hBd] at hBm
          have hA1 : IntKind.i64.wrap A = A := IntWalk.i64_in _ (by omega)
          have hB1 : IntKind.i64.wrap B = B := IntWalk.i64_in _ (by omega)
          have hA2 : 48 + A = ((kd1 m).toNat : Int) := by rw [hk1, hAd]; omega
          have hB2 : 48 + B = ((kd2 m).toNat : Int) := by rw [hk2, hBd]; omega
          have hA3 : IntKind.i64.wrap ((kd1 m).toNat : Int) = ((kd1 m).toNat : Int) := IntWalk.i64_in _ (by omega)
          have hB3 : IntKind.i64.wrap ((kd2 m).toNat : Int) = ((kd2 m).toNat : Int) := IntWalk.i64_in _ (by omega)
          have hA4 : IntKind.u8.wrap ((kd1 m).toNat : Int) = ((kd1 m).toNat : Int) := u8_small _ (by omega) (by omega)
          have hB4 : IntKind.u8.wrap ((kd2 m).toNat : Int) = ((kd2 m).toNat : Int) := u8_small _ (by omega) (by omega)
          have hcat : bsl [kd1 m, kd2 m, 47] ++ bsl (hexB T) = bsl (keyData m T) := bsl_app _ _
          have hcatl : ¬ 9223372036854775807 < (bsl [kd1 m, kd2 m, 47]).size + (bsl (hexB T)).size := by rw [bsl_size, bsl_size, hexB_len]; simp; omega
          have hdat : (keyData m T).length ≤ 100000 := by unfold keyData; simp only [List.length_cons]; rw [hexB_len]; omega
          have HK3 := Lib.hid hK3; have HKQ := Lib.hid hKq; have HGW := Lib.hid hgw3; have HG5 := Lib.hid hg5
          have HROOM := Lib.hid hroom
          clear hK3 hKq hgw3 hsp hri hzk hk1 hk2 hAd hBd hshort hshort2 hroom hsz
          obtain ⟨w30, hw30⟩ : ∃ w30, w30 = w3 := ⟨_, rfl⟩
          rw [← hw30] at HK3 HKQ HGW HG5
          clear hw30
          refine wp_region_facts7 (daF m T A B) (fun _ _ _ _ => True) (fun _ _ => false) (fun _ _ => True) (Gr w5) (by kernel_rfl) (by kernel_rfl) (by kernel_rfl) ?_ (Gr.refl w5).drew (fun _ => trivial) ?_ ?_
          · intro j o ho ys zs w' hj he hF
            unfold daF at hF ⊢
            split at hF <;> first | (simp only [← hj]; exact hF) | exact hF | trivial
          · refine Steps7.cons1 1 rfl rfl ?_ (Steps7.cons1 2 rfl rfl ?_ (Steps7.cons1 3 rfl rfl ?_ (Steps7.cons1 4 rfl rfl ?_ (Steps7.cons1 5 rfl rfl ?_ (Steps7.cons1 6 rfl rfl ?_ (Steps7.cons1 7 rfl rfl ?_ (Steps7.cons1 8 rfl rfl ?_ (Steps7.cons1 9 rfl rfl ?_ (Steps7.cons1 10 rfl rfl ?_ (Steps7.cons1 11 rfl rfl ?_ (Steps7.cons1 12 rfl rfl ?_ (Steps7.cons1 13 rfl rfl ?_ (Steps7.cons1 14 rfl rfl ?_ (Steps7.nil))))))))))))))
            · (intro L ys w' hB hD hP hn; simp only [LAll, Region.binds, forall_const, and_true, true_and] at hP)
              intro K hK
              simp only [fillA]
              go_simp
              have h2 := hK (.int .i64 (m : Int)) w' hB (setY_at ys 0 _) (fun j _ _ h => h) (fun j _ _ h => h) (fun j _ => ⟨fun _ => trivial, fun _ => trivial⟩)
              simp [fillA, Act.put] at h2
              exact h2
            · (intro L ys w' hB hD hP hn; simp only [LAll, Region.binds, forall_const, and_true, true_and] at hP)
              have f0 : ys 0 = .int .i64 (m : Int) := hD.fact 0 (by first | exact hP | exact hP.1 | exact hP.2.1 | exact hP.2.2.1 | exact hP.2.2.2.1 | exact hP.2.2.2.2 | exact hP.2 | exact hP.2.2 | exact hP.2.2.2) (fun _ _ => rfl)
              intro K hK
              simp only [fillA]
              go_simp
              have h2 := hK (.int .i64 A) w' hB (setY_at ys 1 _) (fun j _ _ h => h) (fun j _ _ h => h) (fun j _ => ⟨fun _ => trivial, fun _ => trivial⟩)
              simp [fillA, Act.put, f0] at h2
              exact h2
            · (intro L ys w' hB hD hP hn; simp only [LAll, Region.binds, forall_const, and_true, true_and] at hP)
              have f1 : ys 1 = .int .i64 A := hD.fact 1 (by first | exact hP | exact hP.1 | exact hP.2.1 | exact hP.2.2.1 | exact hP.2.2.2.1 | exact hP.2.2.2.2 | exact hP.2 | exact hP.2.2 | exact hP.2.2.2) (fun _ _ => rfl)
              intro K hK
              simp only [fillA]
              go_simp
              have h2 := hK (.int .i64 ((kd1 m).toNat : Int)) w' hB (setY_at ys 2 _) (fun j _ _ h => h) (fun j _ _ h => h) (fun j _ => ⟨fun _ => trivial, fun _ => trivial⟩)
              simp [fillA, Act.put, f1] at h2
              exact h2
            · (intro L ys w' hB hD hP hn; simp only [LAll, Region.binds, forall_const, and_true, true_and] at hP)
              have f2 : ys 2 = .int .i64 ((kd1 m).toNat : Int) := hD.fact 2 (by first | exact hP | exact hP.1 | exact hP.2.1 | exact hP.2.2.1 | exact hP.2.2.2.1 | exact hP.2.2.2.2 | exact hP.2 | exact hP.2.2 | exact hP.2.2.2) (fun _ _ => rfl)
              intro K hK
              simp only [fillA]
              go_simp
              have h2 := hK (.int .u8 ((kd1 m).toNat : Int)) w' hB (setY_at ys 3 _) (fun j _ _ h => h) (fun j _ _ h => h) (fun j _ => ⟨fun _ => trivial, fun _ => trivial⟩)
              simp [fillA, Act.put, f2] at h2
              exact h2
            · (intro L ys w' hB hD hP hn; simp only [LAll, Region.binds, forall_const, and_true, true_and] at hP)
              intro K hK
              simp only [fillA]
              go_simp
              have h2 := hK (.int .i64 (m : Int)) w' hB (setY_at ys 4 _) (fun j _ _ h => h) (fun j _ _ h => h) (fun j _ => ⟨fun _ => trivial, fun _ => trivial⟩)
              simp [fillA, Act.put] at h2
              exact h2
            · (intro L ys w' hB hD hP hn; simp only [LAll, Region.binds, forall_const, and_true, true_and] at hP)
              have f4 : ys 4 = .int .i64 (m : Int) := hD.fact 4 (by first | exact hP | exact hP.1 | exact hP.2.1 | exact hP.2.2.1 | exact hP.2.2.2.1 | exact hP.2.2.2.2 | exact hP.2 | exact hP.2.2 | exact hP.2.2.2) (fun _ _ => rfl)
              intro K hK
              simp only [fillA]
              go_simp
              have h2 := hK (.int .i64 B) w' hB (setY_at ys 5 _) (fun j _ _ h => h) (fun j _ _ h => h) (fun j _ => ⟨fun _ => trivial, fun _ => trivial⟩)
              simp [fillA, Act.put, f4] at h2
              exact h2
            · (intro L ys w' hB hD hP hn; simp only [LAll, Region.binds, forall_const, and_true, true_and] at hP)
              have f5 : ys 5 = .int .i64 B := hD.fact 5 (by first | exact hP | exact hP.1 | exact hP.2.1 | exact hP.2.2.1 | exact hP.2.2.2.1 | exact hP.2.2.2.2 | exact hP.2 | exact hP.2.2 | exact hP.2.2.2) (fun _ _ => rfl)
              intro K hK
              simp only [fillA]
              go_simp
              have h2 := hK (.int .i64 ((kd2 m).toNat : Int)) w' hB (setY_at ys 6 _) (fun j _ _ h => h) (fun j _ _ h => h) (fun j _ => ⟨fun _ => trivial, fun _ => trivial⟩)
              simp [fillA, Act.put, f5] at h2
              exact h2
            · (intro L ys w' hB hD hP hn; simp only [LAll, Region.binds, forall_const, and_true, true_and] at hP)
              have f6 : ys 6 = .int .i64 ((kd2 m).toNat : Int) := hD.fact 6 (by first | exact hP | exact hP.1 | exact hP.2.1 | exact hP.2.2.1 | exact hP.2.2.2.1 | exact hP.2.2.2.2 | exact hP.2 | exact hP.2.2 | exact hP.2.2.2) (fun _ _ => rfl)
              intro K hK
              simp only [fillA]
              go_simp
              have h2 := hK (.int .u8 ((kd2 m).toNat : Int)) w' hB (setY_at ys 7 _) (fun j _ _ h => h) (fun j _ _ h => h) (fun j _ => ⟨fun _ => trivial, fun _ => trivial⟩)
              simp [fillA, Act.put, f6] at h2
              exact h2
            · (intro L ys w' hB hD hP hn; simp only [LAll, Region.binds, forall_const, and_true, true_and] at hP)
              have f3 : ys 3 = .int .u8 ((kd1 m).toNat : Int) := hD.fact 3 (by first | exact hP | exact hP.1 | exact hP.2.1 | exact hP.2.2.1 | exact hP.2.2.2.1 | exact hP.2.2.2.2 | exact hP.2 | exact hP.2.2 | exact hP.2.2.2) (fun _ _ => rfl)
              have f7 : ys 7 = .int .u8 ((kd2 m).toNat : Int) := hD.fact 7 (by first | exact hP | exact hP.1 | exact hP.2.1 | exact hP.2.2.1 | exact hP.2.2.2.1 | exact hP.2.2.2.2 | exact hP.2 | exact hP.2.2 | exact hP.2.2.2) (fun _ _ => rfl)
              intro K hK
              simp only [fillA]
              go_simp
              have hg := (Gr.refl w').alloc (.cells #[.int .u8 ((kd1 m).toNat : Int), .int .u8 ((kd2 m).toNat : Int), .int .u8 47] 5)
              have h2 := hK (.slice (some ⟨w'.heap.size, 0, none⟩) 3 3) (w'.alloc (.cells #[.int .u8 ((kd1 m).toNat : Int), .int .u8 ((kd2 m).toNat : Int), .int .u8 47] 5)) (hB.trans hg) ⟨_, setY_at ys 8 _, heap_alloc_new _ _⟩ (fun j _ _ h => h.gr hg) (fun j _ _ h => h) (fun j _ => ⟨fun _ => trivial, fun _ => trivial⟩)
              simp [fillA, Act.put, f3, f7] at h2
              exact h2
            · (intro L ys w' hB hD hP hn; simp only [LAll, Region.binds, forall_const, and_true, true_and] at hP)
              obtain ⟨g, f8, hg8⟩ : ∃ g, ys 8 = .slice (some ⟨g, 0, none⟩) 3 3 ∧ w'.heap[g]? = some (.cells (Lib.byteCells [kd1 m, kd2 m, 47]).toArray 5 (0, 0)) := hD.fact 8 (by first | exact hP | exact hP.1 | exact hP.2.1 | exact hP.2.2.1 | exact hP.2.2.2.1 | exact hP.2.2.2.2 | exact hP.2 | exact hP.2.2 | exact hP.2.2.2) (fun _ _ => rfl)
              have hown : w'.ownsRow 0 5 1 (.slice (some ⟨g, 0, none⟩) 3 3) 3 (Lib.byteCells [kd1 m, kd2 m, 47]) := ⟨rfl, .inr ⟨g, 3, _, rfl, Nat.zero_le _, hg8, Nat.le_refl _, by unfold maxLen; omega, rfl, rfl⟩⟩
              have hcv := conv_own hown
              intro K hK
              simp only [fillA]
              go_simp
              have h2 := hK (.string (bsl [kd1 m, kd2 m, 47])) w' hB (setY_at ys 9 _) (fun j _ _ h => h) (fun j _ _ h => h) (fun j _ => ⟨fun _ => trivial, fun _ => trivial⟩)
              simp [fillA, Act.put, f8] at h2
              exact h2
            · (intro L ys w' hB hD hP hn; simp only [LAll, Region.binds, forall_const, and_true, true_and] at hP)
              intro K hK
              simp only [fillA]
              go_simp
              have h2 := hK (.string (bsl T)) w' hB (setY_at ys 10 _) (fun j _ _ h => h) (fun j _ _ h => h) (fun j _ => ⟨fun _ => trivial, fun _ => trivial⟩)
              simp [fillA, Act.put] at h2
              exact h2
            · (intro L ys w' hB hD hP hn; simp only [LAll, Region.binds, forall_const, and_true, true_and] at hP)
              have f10 : ys 10 = .string (bsl T) := hD.fact 10 (by first | exact hP | exact hP.1 | exact hP.2.1 | exact hP.2.2.1 | exact hP.2.2.2.1 | exact hP.2.2.2.2 | exact hP.2 | exact hP.2.2 | exact hP.2.2.2) (fun _ _ => rfl)
              intro K hK
              simp only [fillA]
              go_simp
              have hcon := hex_any T w' (by omega)
              (with_reducible refine hcon.mono ?_)
              clear hcon
              rintro e w4 ⟨rfl, hg⟩
              have h2 := hK (.string (bsl (hexB T))) w4 (hB.trans hg) (setY_at ys 11 _) (fun j _ _ h => h.gr hg) (fun j _ _ h => h) (fun j _ => ⟨fun _ => trivial, fun _ => trivial⟩)
              simp [fillA, Act.put, f10] at h2
              exact h2
            · (intro L ys w' hB hD hP hn; simp only [LAll, Region.binds, forall_const, and_true, true_and] at hP)
              have f9 : ys 9 = .string (bsl [kd1 m, kd2 m, 47]) := hD.fact 9 (by first | exact hP | exact hP.1 | exact hP.2.1 | exact hP.2.2.1 | exact hP.2.2.2.1 | exact hP.2.2.2.2 | exact hP.2 | exact hP.2.2 | exact hP.2.2.2) (fun _ _ => rfl)
              have f11 : ys 11 = .string (bsl (hexB T)) := hD.fact 11 (by first | exact hP | exact hP.1 | exact hP.2.1 | exact hP.2.2.1 | exact hP.2.2.2.1 | exact hP.2.2.2.2 | exact hP.2 | exact hP.2.2 | exact hP.2.2.2) (fun _ _ => rfl)
              intro K hK
              simp only [fillA]
              go_simp
              have h2 := hK (.string (bsl (keyData m T))) w' hB (setY_at ys 12 _) (fun j _ _ h => h) (fun j _ _ h => h) (fun j _ => ⟨fun _ => trivial, fun _ => trivial⟩)
              simp [fillA, Act.put, f9, f11] at h2
              exact h2
            · (intro L ys w' hB hD hP hn; simp only [LAll, Region.binds, forall_const, and_true, true_and] at hP)
              have f12 : ys 12 = .string (bsl (keyData m T)) := hD.fact 12 (by first | exact hP | exact hP.1 | exact hP.2.1 | exact hP.2.2.1 | exact hP.2.2.2.1 | exact hP.2.2.2.2 | exact hP.2 | exact hP.2.2 | exact hP.2.2.2) (fun _ _ => rfl)
              intro K hK
              simp only [fillA]
              go_simp
              have h2 := hK (.string (bsl (keyData m T))) w' hB (setY_at ys 13 _) (fun j _ _ h => h) (fun j _ _ h => h) (fun j _ => ⟨fun _ => trivial, fun _ => trivial⟩)
              simp [fillA, Act.put, f12] at h2
              exact h2
          · intro ys w4 hB hF _
            have f13 : ys 13 = .string (bsl (keyData m T)) := hF 13 (by decide) (fun _ _ => rfl)
            clear hF
            simp only [fillA, Act.put, List.setIfInBounds_toArray, List.set_cons_succ, List.set_cons_zero, Nat.zero_add, Nat.reduceAdd, f13]
            clear f13
            have hgw4 : Gr w w4 := (HGW.out.trans HG5.out).trans hB
            have hK4 := HK3.out.gr (HG5.out.trans hB)
            have hKq4 := HKQ.out.gr (HG5.out.trans hB)
            have hdef := define_any false false (keyData m T) hK4 hdat (hM.gr hgw4) (by rw [← HU.out]; omega)
            rw [back_dfn hkm (by rw [← HU.out]; exact HROOM.out)] at hdef
            clear hA hBm hA1 hB1 hA2 hB2 hA3 hB3 hA4 hB4 hcat hcatl hdat hM
            have HGW4 := Lib.hid hgw4
            have HKQ4 := Lib.hid hKq4
            have HM1 := Lib.hid hm1
            have HQP := Lib.hid hqp
            have HPW := Lib.hid HS.out.ne.2.1
            clear hgw4 hKq4 hK4 hB
            go_upto_region 19 with (go_at_call 8; (with_reducible refine hdef.mono ?_); rintro e w6 ⟨rfl, hK6, hu6⟩)
            have hKq6 := HKQ4.out.upd hu6 (by simpa using fun e => HQP.out e.symm)
            have hgw6 : Gr w w6 := HGW4.out.upd hu6 (by simpa using HPW.out)
            have hga := fun (x : Nat) => get_any (x : Int) hK6
            have hgb := fun (x : Nat) => get_any (x : Int) hKq6
            have hgs := fun (x : Nat) => get_set (T := T) hLl hkm x
            have HGS := Lib.hid hgs
            clear hgs hK6 hKq6 hu6 hdef
            go_loopw [12] (fun iv wr => ∃ x : Nat, iv = .int .i64 (x : Int) ∧ x ≤ 40 ∧ wr = w6) (fun iv _ => 40 - (intOf iv).toNat)
            case atStart => exact ⟨0, rfl, Nat.zero_le _, rfl⟩
            case round =>
              obtain ⟨x, rfl, hx40, rfl⟩ := hrel
              by_cases hlt : x < 40
              · have hxi : (x : Int) < 40 := by omega
                have ha := hga x
                have hb := hgb x
                rw [HGS.out x] at ha
                clear hga hgb
                by_cases hxm : x = m
                · subst hxm
                  rw [if_pos rfl] at ha
                  go_wp2_with (first
                    | (go_at_call 15; (with_reducible refine ha.mono ?_); rintro e w7 ⟨rfl, rfl⟩)
                    | (go_at_call 15; (with_reducible refine hb.mono ?_); rintro e w8 ⟨rfl, rfl⟩))
                  go_roundw
                  case rel => exact ⟨x + 1, by go_num, by omega, by first | rfl | trivial⟩
                  case measure => simp [intOf]; omega
                · have hne : ((x : Int) == (m : Int)) = false := by simp; omega
                  have hne2 : ¬ (x : Int) = (m : Int) := by omega
                  rw [if_neg hxm] at ha
                  go_wp2_with (first
                    | (go_at_call 15; (with_reducible refine ha.mono ?_); rintro e w7 ⟨rfl, rfl⟩)
                    | (go_at_call 15; (with_reducible refine hb.mono ?_); rintro e w8 ⟨rfl, rfl⟩))
                  go_roundw
                  case rel => exact ⟨x + 1, by go_num, by omega, by first | rfl | trivial⟩
                  case measure => simp [intOf]; omega
              · have hxi : ¬ (x : Int) < 40 := by omega
                go_wp2_with fail
                go_ret
                exact ⟨rfl, hgw6⟩
        · have hbigi : ¬ (40 : Int) < (tx.size : Int) := by omega
          have hex : tx = bsl T := by
            have := HTX.out
            rw [this, bsl_size] at hbig
            rw [this, hTd, List.take_of_length_le (by omega)]
          have hTl : T.length ≤ 40 := by rw [hTd]; simp; omega
          have HTD := Lib.hid hTd
          clear hTd
          subst hex
          go_upto_region 11 with fail
          go_upto_region 13 with (first
            | (go_at_call 17; (with_reducible refine hlock.mono ?_); rintro e w2 ⟨rfl, hK2, hu2⟩; have hcl := clone_any hK2)
            | (go_at_call 10; (with_reducible refine hcl.mono ?_); rintro e w3 ⟨rfl, hKq, hg3⟩))
          have hgw3 : Gr w w3 := (HS.out.gr.upd hu2 (by simpa using HS.out.ne.2.1)).trans hg3
          have hK3 := hK2.gr hg3
          have hqp : p ≠ w2.heap.size := by have := (Array.getElem?_eq_some_iff.1 hK2.blk).1; omega
          obtain ⟨q, hq⟩ : ∃ q, q = w2.heap.size := ⟨_, rfl⟩
          rw [← hq] at hKq hqp ⊢
          have hu804 := HS.out.used
          have hLl := HS.out.k.len
          have hsp := space_any hK3 (by omega)
          have hri := ris_any key w3
          have hsz : (bsl T).size = T.length := bsl_size T
          obtain ⟨U, hU⟩ : ∃ U, U = usedL Lk := ⟨_, rfl⟩
          rw [← hU] at hsp hu804
          have HU := Lib.hid hU
          clear hU
          clear hcl hu2 hK2 hg3 hlock hq
          by_cases hzk : isZ key = true
          rotate_left
          · rw [Bool.eq_false_iff.2 hzk] at hri
            clear hzk
            go_wp2_with (go_at_call 18; (with_reducible refine hri.mono ?_); rintro e w4 ⟨rfl, rfl⟩)
            go_ret
            exact ⟨rfl, hgw3⟩
          rw [hzk] at hri
          by_cases hroom : T.length + U ≤ 804
          rotate_left
          · have hlong : (804 : Int) - (U : Int) < ((bsl T).size : Int) := by rw [hsz]; omega
            have hlong2 : (804 : Int) < ((bsl T).size : Int) + (U : Int) := by rw [hsz]; omega
            clear hroom
            go_wp2_with (first
              | (go_at_call 18; (with_reducible refine hri.mono ?_); rintro e w4 ⟨rfl, rfl⟩)
              | (go_at_call 9; (with_reducible refine hsp.mono ?_); rintro e w5 ⟨rfl, hg5⟩))
            go_ret
            exact ⟨rfl, by (repeat (first | with_reducible exact Gr.refl _ | with_reducible assumption | with_reducible refine Gr.setCell ?_ (by simp; try omega) _ | with_reducible refine Gr.alloc ?_ _ | with_reducible refine Gr.drew ?_ | with_reducible refine Gr.drewN ?_ _ | with_reducible refine Gr.trans ?_ (by assumption)))⟩
          have hshort : ¬ (804 : Int) - (U : Int) < ((bsl T).size : Int) := by rw [hsz]; omega
          have hshort2 : ((bsl T).size : Int) ≤ (804 : Int) - (U : Int) := by rw [hsz]; omega
          obtain ⟨m, rfl, hkm, hm1, hm2⟩ := isZ_form hzk
          go_upto_region 15 with (first
            | (go_at_call 18; (with_reducible refine hri.mono ?_); rintro e w4 ⟨rfl, rfl⟩)
            | (go_at_call 9; (with_reducible refine hsp.mono ?_); rintro e w5 ⟨rfl, hg5⟩))
          obtain ⟨_, _, _, _, _, _, hk1, hk2⟩ := key_digits ⟨m, by omega⟩ hkm
          simp only at hk1 hk2
          have hA : Int.tdiv (m : Int) 10 = ((m / 10 : Nat) : Int) := by rw [Int.tdiv_eq_ediv_of_nonneg (by omega)]; omega
          have hBm : Int.tmod (m : Int) 10 = ((m % 10 : Nat) : Int) := by rw [Int.tmod_eq_emod_of_nonneg (by omega)]; omega
          obtain ⟨A, hAd⟩ : ∃ A : Int, A = ((m / 10 : Nat) : Int) := ⟨_, rfl⟩
          obtain ⟨B, hBd⟩ : ∃ B : Int, B = ((m % 10 : Nat) : Int) := ⟨_, rfl⟩
          rw [← hAd] at hA
          rw [← hBd] at hBm
          have hA1 : IntKind.i64.wrap A = A := IntWalk.i64_in _ (by omega)
          have hB1 : IntKind.i64.wrap B = B := IntWalk.i64_in _ (by omega)
          have hA2 : 48 + A = ((kd1 m).toNat : Int) := by rw [hk1, hAd]; omega
          have hB2 : 48 + B = ((kd2 m).toNat : Int) := by rw [hk2, hBd]; omega
          have hA3 : IntKind.i64.wrap ((kd1 m).toNat : Int) = ((kd1 m).toNat : Int) := IntWalk.i64_in _ (by omega)
          have hB3 : IntKind.i64.wrap ((kd2 m).toNat : Int) = ((kd2 m).toNat : Int) := IntWalk.i64_in _ (by omega)
          have hA4 : IntKind.u8.wrap ((kd1 m).toNat : Int) = ((kd1 m).toNat : Int) := u8_small _ (by omega) (by omega)
          have hB4 : IntKind.u8.wrap ((kd2 m).toNat : Int) = ((kd2 m).toNat : Int) := u8_small _ (by omega) (by omega)
          have hcat : bsl [kd1 m, kd2 m, 47] ++ bsl (hexB T) = bsl (keyData m T) := bsl_app _ _
          have hcatl : ¬ 9223372036854775807 < (bsl [kd1 m, kd2 m, 47]).size + (bsl (hexB T)).size := by rw [bsl_size, bsl_size, hexB_len]; simp; omega
          have hdat : (keyData m T).length ≤ 100000 := by unfold keyData; simp only [List.length_cons]; rw [hexB_len]; omega
          have HK3 := Lib.hid hK3; have HKQ := Lib.hid hKq; have HGW := Lib.hid hgw3; have HG5 := Lib.hid hg5
          have HROOM := Lib.hid hroom
          clear hK3 hKq hgw3 hsp hri hzk hk1 hk2 hAd hBd hshort hshort2 hroom hsz
          obtain ⟨w30, hw30⟩ : ∃ w30, w30 = w3 := ⟨_, rfl⟩
          rw [← hw30] at HK3 HKQ HGW HG5
          clear hw30
          refine wp_region_facts7 (daF m T A B) (fun _ _ _ _ => True) (fun _ _ => false) (fun _ _ => True) (Gr w5) (by kernel_rfl) (by kernel_rfl) (by kernel_rfl) ?_ (Gr.refl w5).drew (fun _ => trivial) ?_ ?_
          · intro j o ho ys zs w' hj he hF
            unfold daF at hF ⊢
            split at hF <;> first | (simp only [← hj]; exact hF) | exact hF | trivial
          · refine Steps7.cons1 1 rfl rfl ?_ (Steps7.cons1 2 rfl rfl ?_ (Steps7.cons1 3 rfl rfl ?_ (Steps7.cons1 4 rfl rfl ?_ (Steps7.cons1 5 rfl rfl ?_ (Steps7.cons1 6 rfl rfl ?_ (Steps7.cons1 7 rfl rfl ?_ (Steps7.cons1 8 rfl rfl ?_ (Steps7.cons1 9 rfl rfl ?_ (Steps7.cons1 10 rfl rfl ?_ (Steps7.cons1 11 rfl rfl ?_ (Steps7.cons1 12 rfl rfl ?_ (Steps7.cons1 13 rfl rfl ?_ (Steps7.cons1 14 rfl rfl ?_ (Steps7.nil))))))))))))))
            · (intro L ys w' hB hD hP hn; simp only [LAll, Region.binds, forall_const, and_true, true_and] at hP)
              intro K hK
              simp only [fillA]
              go_simp
              have h2 := hK (.int .i64 (m : Int)) w' hB (setY_at ys 0 _) (fun j _ _ h => h) (fun j _ _ h => h) (fun j _ => ⟨fun _ => trivial, fun _ => trivial⟩)
              simp [fillA, Act.put] at h2
              exact h2
            · (intro L ys w' hB hD hP hn; simp only [LAll, Region.binds, forall_const, and_true, true_and] at hP)
              have f0 : ys 0 = .int .i64 (m : Int) := hD.fact 0 (by first | exact hP | exact hP.1 | exact hP.2.1 | exact hP.2.2.1 | exact hP.2.2.2.1 | exact hP.2.2.2.2 | exact hP.2 | exact hP.2.2 | exact hP.2.2.2) (fun _ _ => rfl)
              intro K hK
              simp only [fillA]
              go_simp
              have h2 := hK (.int .i64 A) w' hB (setY_at ys 1 _) (fun j _ _ h => h) (fun j _ _ h => h) (fun j _ => ⟨fun _ => trivial, fun _ => trivial⟩)
              simp [fillA, Act.put, f0] at h2
              exact h2
            · (intro L ys w' hB hD hP hn; simp only [LAll, Region.binds, forall_const, and_true, true_and] at hP)
              have f1 : ys 1 = .int .i64 A := hD.fact 1 (by first | exact hP | exact hP.1 | exact hP.2.1 | exact hP.2.2.1 | exact hP.2.2.2.1 | exact hP.2.2.2.2 | exact hP.2 | exact hP.2.2 | exact hP.2.2.2) (fun _ _ => rfl)
              intro K hK
              simp only [fillA]
              go_simp
              have h2 := hK (.int .i64 ((kd1 m).toNat : Int)) w' hB (setY_at ys 2 _) (fun j _ _ h => h) (fun j _ _ h => h) (fun j _ => ⟨fun _ => trivial, fun _ => trivial⟩)
              simp [fillA, Act.put, f1] at h2
              exact h2
            · (intro L ys w' hB hD hP hn; simp only [LAll, Region.binds, forall_const, and_true, true_and] at hP)
              have f2 : ys 2 = .int .i64 ((kd1 m).toNat : Int) := hD.fact 2 (by first | exact hP | exact hP.1 | exact hP.2.1 | exact hP.2.2.1 | exact hP.2.2.2.1 | exact hP.2.2.2.2 | exact hP.2 | exact hP.2.2 | exact hP.2.2.2) (fun _ _ => rfl)
              intro K hK
              simp only [fillA]
              go_simp
              have h2 := hK (.int .u8 ((kd1 m).toNat : Int)) w' hB (setY_at ys 3 _) (fun j _ _ h => h) (fun j _ _ h => h) (fun j _ => ⟨fun _ => trivial, fun _ => trivial⟩)
              simp [fillA, Act.put, f2] at h2
              exact h2
            · (intro L ys w' hB hD hP hn; simp only [LAll, Region.binds, forall_const, and_true, true_and] at hP)
              intro K hK
              simp only [fillA]
              go_simp
              have h2 := hK (.int .i64 (m : Int)) w' hB (setY_at ys 4 _) (fun j _ _ h => h) (fun j _ _ h => h) (fun j _ => ⟨fun _ => trivial, fun _ => trivial⟩)
              simp [fillA, Act.put] at h2
              exact h2
            · (intro L ys w' hB hD hP hn; simp only [LAll, Region.binds, forall_const, and_true, true_and] at hP)
              have f4 : ys 4 = .int .i64 (m : Int) := hD.fact 4 (by first | exact hP | exact hP.1 | exact hP.2.1 | exact hP.2.2.1 | exact hP.2.2.2.1 | exact hP.2.2.2.2 | exact hP.2 | exact hP.2.2 | exact hP.2.2.2) (fun _ _ => rfl)
              intro K hK
              simp only [fillA]
              go_simp
              have h2 := hK (.int .i64 B) w' hB (setY_at ys 5 _) (fun j _ _ h => h) (fun j _ _ h => h) (fun j _ => ⟨fun _ => trivial, fun _ => trivial⟩)
              simp [fillA, Act.put, f4] at h2
              exact h2
            · (intro L ys w' hB hD hP hn; simp only [LAll, Region.binds, forall_const, and_true, true_and] at hP)
              have f5 : ys 5 = .int .i64 B := hD.fact 5 (by first | exact hP | exact hP.1 | exact hP.2.1 | exact hP.2.2.1 | exact hP.2.2.2.1 | exact hP.2.2.2.2 | exact hP.2 | exact hP.2.2 | exact hP.2.2.2) (fun _ _ => rfl)
              intro K hK
              simp only [fillA]
              go_simp
              have h2 := hK (.int .i64 ((kd2 m).toNat : Int)) w' hB (setY_at ys 6 _) (fun j _ _ h => h) (fun j _ _ h => h) (fun j _ => ⟨fun _ => trivial, fun _ => trivial⟩)
              simp [fillA, Act.put, f5] at h2
              exact h2
            · (intro L ys w' hB hD hP hn; simp only [LAll, Region.binds, forall_const, and_true, true_and] at hP)
              have f6 : ys 6 = .int .i64 ((kd2 m).toNat : Int) := hD.fact 6 (by first | exact hP | exact hP.1 | exact hP.2.1 | exact hP.2.2.1 | exact hP.2.2.2.1 | exact hP.2.2.2.2 | exact hP.2 | exact hP.2.2 | exact hP.2.2.2) (fun _ _ => rfl)
              intro K hK
              simp only [fillA]
              go_simp
              have h2 := hK (.int .u8 ((kd2 m).toNat : Int)) w' hB (setY_at ys 7 _) (fun j _ _ h => h) (fun j _ _ h => h) (fun j _ => ⟨fun _ => trivial, fun _ => trivial⟩)
              simp [fillA, Act.put, f6] at h2
              exact h2
            · (intro L ys w' hB hD hP hn; simp only [LAll, Region.binds, forall_const, and_true, true_and] at hP)
              have f3 : ys 3 = .int .u8 ((kd1 m).toNat : Int) := hD.fact 3 (by first | exact hP | exact hP.1 | exact hP.2.1 | exact hP.2.2.1 | exact hP.2.2.2.1 | exact hP.2.2.2.2 | exact hP.2 | exact hP.2.2 | exact hP.2.2.2) (fun _ _ => rfl)
              have f7 : ys 7 = .int .u8 ((kd2 m).toNat : Int) := hD.fact 7 (by first | exact hP | exact hP.1 | exact hP.2.1 | exact hP.2.2.1 | exact hP.2.2.2.1 | exact hP.2.2.2.2 | exact hP.2 | exact hP.2.2 | exact hP.2.2.2) (fun _ _ => rfl)
              intro K hK
              simp only [fillA]
              go_simp
              have hg := (Gr.refl w').alloc (.cells #[.int .u8 ((kd1 m).toNat : Int), .int .u8 ((kd2 m).toNat : Int), .int .u8 47] 5)
              have h2 := hK (.slice (some ⟨w'.heap.size, 0, none⟩) 3 3) (w'.alloc (.cells #[.int .u8 ((kd1 m).toNat : Int), .int .u8 ((kd2 m).toNat : Int), .int .u8 47] 5)) (hB.trans hg) ⟨_, setY_at ys 8 _, heap_alloc_new _ _⟩ (fun j _ _ h => h.gr hg) (fun j _ _ h => h) (fun j _ => ⟨fun _ => trivial, fun _ => trivial⟩)
              simp [fillA, Act.put, f3, f7] at h2
              exact h2
            · (intro L ys w' hB hD hP hn; simp only [LAll, Region.binds, forall_const, and_true, true_and] at hP)
              obtain ⟨g, f8, hg8⟩ : ∃ g, ys 8 = .slice (some ⟨g, 0, none⟩) 3 3 ∧ w'.heap[g]? = some (.cells (Lib.byteCells [kd1 m, kd2 m, 47]).toArray 5 (0, 0)) := hD.fact 8 (by first | exact hP | exact hP.1 | exact hP.2.1 | exact hP.2.2.1 | exact hP.2.2.2.1 | exact hP.2.2.2.2 | exact hP.2 | exact hP.2.2 | exact hP.2.2.2) (fun _ _ => rfl)
              have hown : w'.ownsRow 0 5 1 (.slice (some ⟨g, 0, none⟩) 3 3) 3 (Lib.byteCells [kd1 m, kd2 m, 47]) := ⟨rfl, .inr ⟨g, 3, _, rfl, Nat.zero_le _, hg8, Nat.le_refl _, by unfold maxLen; omega, rfl, rfl⟩⟩
              have hcv := conv_own hown
              intro K hK
              simp only [fillA]
              go_simp
              have h2 := hK (.string (bsl [kd1 m, kd2 m, 47])) w' hB (setY_at ys 9 _) (fun j _ _ h => h) (fun j _ _ h => h) (fun j _ => ⟨fun _ => trivial, fun _ => trivial⟩)
              simp [fillA, Act.put, f8] at h2
              exact h2
            · (intro L ys w' hB hD hP hn; simp only [LAll, Region.binds, forall_const, and_true, true_and] at hP)
              intro K hK
              simp only [fillA]
              go_simp
              have h2 := hK (.string (bsl T)) w' hB (setY_at ys 10 _) (fun j _ _ h => h) (fun j _ _ h => h) (fun j _ => ⟨fun _ => trivial, fun _ => trivial⟩)
              simp [fillA, Act.put] at h2
              exact h2
            · (intro L ys w' hB hD hP hn; simp only [LAll, Region.binds, forall_const, and_true, true_and] at hP)
              have f10 : ys 10 = .string (bsl T) := hD.fact 10 (by first | exact hP | exact hP.1 | exact hP.2.1 | exact hP.2.2.1 | exact hP.2.2.2.1 | exact hP.2.2.2.2 | exact hP.2 | exact hP.2.2 | exact hP.2.2.2) (fun _ _ => rfl)
              intro K hK
              simp only [fillA]
              go_simp
              have hcon := hex_any T w' (by omega)
              (with_reducible refine hcon.mono ?_)
              clear hcon
              rintro e w4 ⟨rfl, hg⟩
              have h2 := hK (.string (bsl (hexB T))) w4 (hB.trans hg) (setY_at ys 11 _) (fun j _ _ h => h.gr hg) (fun j _ _ h => h) (fun j _ => ⟨fun _ => trivial, fun _ => trivial⟩)
              simp [fillA, Act.put, f10] at h2
              exact h2
            · (intro L ys w' hB hD hP hn; simp only [LAll, Region.binds, forall_const, and_true, true_and] at hP)
              have f9 : ys 9 = .string (bsl [kd1 m, kd2 m, 47]) := hD.fact 9 (by first | exact hP | exact hP.1 | exact hP.2.1 | exact hP.2.2.1 | exact hP.2.2.2.1 | exact hP.2.2.2.2 | exact hP.2 | exact hP.2.2 | exact hP.2.2.2) (fun _ _ => rfl)
              have f11 : ys 11 = .string (bsl (hexB T)) := hD.fact 11 (by first | exact hP | exact hP.1 | exact hP.2.1 | exact hP.2.2.1 | exact hP.2.2.2.1 | exact hP.2.2.2.2 | exact hP.2 | exact hP.2.2 | exact hP.2.2.2) (fun _ _ => rfl)
              intro K hK
              simp only [fillA]
              go_simp
              have h2 := hK (.string (bsl (keyData m T))) w' hB (setY_at ys 12 _) (fun j _ _ h => h) (fun j _ _ h => h) (fun j _ => ⟨fun _ => trivial, fun _ => trivial⟩)
              simp [fillA, Act.put, f9, f11] at h2
              exact h2
            · (intro L ys w' hB hD hP hn; simp only [LAll, Region.binds, forall_const, and_true, true_and] at hP)
              have f12 : ys 12 = .string (bsl (keyData m T)) := hD.fact 12 (by first | exact hP | exact hP.1 | exact hP.2.1 | exact hP.2.2.1 | exact hP.2.2.2.1 | exact hP.2.2.2.2 | exact hP.2 | exact hP.2.2 | exact hP.2.2.2) (fun _ _ => rfl)
              intro K hK
              simp only [fillA]
              go_simp
              have h2 := hK (.string (bsl (keyData m T))) w' hB (setY_at ys 13 _) (fun j _ _ h => h) (fun j _ _ h => h) (fun j _ => ⟨fun _ => trivial, fun _ => trivial⟩)
              simp [fillA, Act.put, f12] at h2
              exact h2
          · intro ys w4 hB hF _
            have f13 : ys 13 = .string (bsl (keyData m T)) := hF 13 (by decide) (fun _ _ => rfl)
            clear hF
            simp only [fillA, Act.put, List.setIfInBounds_toArray, List.set_cons_succ, List.set_cons_zero, Nat.zero_add, Nat.reduceAdd, f13]
            clear f13
            have hgw4 : Gr w w4 := (HGW.out.trans HG5.out).trans hB
            have hK4 := HK3.out.gr (HG5.out.trans hB)
            have hKq4 := HKQ.out.gr (HG5.out.trans hB)
            have hdef := define_any false false (keyData m T) hK4 hdat (hM.gr hgw4) (by rw [← HU.out]; omega)
            rw [back_dfn hkm (by rw [← HU.out]; exact HROOM.out)] at hdef
            clear hA hBm hA1 hB1 hA2 hB2 hA3 hB3 hA4 hB4 hcat hcatl hdat hM
            have HGW4 := Lib.hid hgw4
            have HKQ4 := Lib.hid hKq4
            have HM1 := Lib.hid hm1
            have HQP := Lib.hid hqp
            have HPW := Lib.hid HS.out.ne.2.1
            clear hgw4 hKq4 hK4 hB
            go_upto_region 19 with (go_at_call 8; (with_reducible refine hdef.mono ?_); rintro e w6 ⟨rfl, hK6, hu6⟩)
            have hKq6 := HKQ4.out.upd hu6 (by simpa using fun e => HQP.out e.symm)
            have hgw6 : Gr w w6 := HGW4.out.upd hu6 (by simpa using HPW.out)
            have hga := fun (x : Nat) => get_any (x : Int) hK6
            have hgb := fun (x : Nat) => get_any (x : Int) hKq6
            have hgs := fun (x : Nat) => get_set (T := T) hLl hkm x
            have HGS := Lib.hid hgs
            clear hgs hK6 hKq6 hu6 hdef
            go_loopw [12] (fun iv wr => ∃ x : Nat, iv = .int .i64 (x : Int) ∧ x ≤ 40 ∧ wr = w6) (fun iv _ => 40 - (intOf iv).toNat)
            case atStart => exact ⟨0, rfl, Nat.zero_le _, rfl⟩
            case round =>
              obtain ⟨x, rfl, hx40, rfl⟩ := hrel
              by_cases hlt : x < 40
              · have hxi : (x : Int) < 40 := by omega
                have ha := hga x
                have hb := hgb x
                rw [HGS.out x] at ha
                clear hga hgb
                by_cases hxm : x = m
                · subst hxm
                  rw [if_pos rfl] at ha
                  go_wp2_with (first
                    | (go_at_call 15; (with_reducible refine ha.mono ?_); rintro e w7 ⟨rfl, rfl⟩)
                    | (go_at_call 15; (with_reducible refine hb.mono ?_); rintro e w8 ⟨rfl, rfl⟩))
                  go_roundw
                  case rel => exact ⟨x + 1, by go_num, by omega, by first | rfl | trivial⟩
                  case measure => simp [intOf]; omega
                · have hne : ((x : Int) == (m : Int)) = false := by simp; omega
                  have hne2 : ¬ (x : Int) = (m : Int) := by omega
                  rw [if_neg hxm] at ha
                  go_wp2_with (first
                    | (go_at_call 15; (with_reducible refine ha.mono ?_); rintro e w7 ⟨rfl, rfl⟩)
                    | (go_at_call 15; (with_reducible refine hb.mono ?_); rintro e w8 ⟨rfl, rfl⟩))
                  go_roundw
                  case rel => exact ⟨x + 1, by go_num, by omega, by first | rfl | trivial⟩
                  case measure => simp [intOf]; omega
              · have hxi : ¬ (x : Int) < 40 := by omega
                go_wp2_with fail
                go_ret
                exact ⟨rfl, hgw6⟩
      · have hki : ¬ (k : Int) < (n : Int) := by omega
        clear hgo
        have hlock := lock_any false hS.k
        have HS := Lib.hid hS
        clear hS
        go_upto_region 9 with fail
        obtain ⟨T, hTd⟩ : ∃ T, T = text.take 40 := ⟨_, rfl⟩
        by_cases hbig : 40 < tx.size
        · have hbigi : (40 : Int) < (tx.size : Int) := by omega
          have hex : tx.extract 0 40 = bsl T := by rw [HTX.out, bsl_extract, hTd]; rfl
          have hTl : T.length ≤ 40 := by rw [hTd]; simp; omega
          have HTD := Lib.hid hTd
          clear hTd
          go_upto_region 11 with fail
          go_upto_region 13 with (first
            | (go_at_call 17; (with_reducible refine hlock.mono ?_); rintro e w2 ⟨rfl, hK2, hu2⟩; have hcl := clone_any hK2)
            | (go_at_call 10; (with_reducible refine hcl.mono ?_); rintro e w3 ⟨rfl, hKq, hg3⟩))
          have hgw3 : Gr w w3 := (HS.out.gr.upd hu2 (by simpa using HS.out.ne.2.1)).trans hg3
          have hK3 := hK2.gr hg3
          have hqp : p ≠ w2.heap.size := by have := (Array.getElem?_eq_some_iff.1 hK2.blk).1; omega
          obtain ⟨q, hq⟩ : ∃ q, q = w2.heap.size := ⟨_, rfl⟩
          rw [← hq] at hKq hqp ⊢
          have hu804 := HS.out.used
          have hLl := HS.out.k.len
          have hsp := space_any hK3 (by omega)
          have hri := ris_any key w3
          have hsz : (bsl T).size = T.length := bsl_size T
          obtain ⟨U, hU⟩ : ∃ U, U = usedL Lk := ⟨_, rfl⟩
          rw [← hU] at hsp hu804
          have HU := Lib.hid hU
          clear hU
          clear hcl hu2 hK2 hg3 hlock hq
          by_cases hzk : isZ key = true
          rotate_left
          · rw [Bool.eq_false_iff.2 hzk] at hri
            clear hzk
            go_wp2_with (go_at_call 18; (with_reducible refine hri.mono ?_); rintro e w4 ⟨rfl, rfl⟩)
            go_ret
            exact ⟨rfl, hgw3⟩
          rw [hzk] at hri
          by_cases hroom : T.length + U ≤ 804
          rotate_left
          · have hlong : (804 : Int) - (U : Int) < ((bsl T).size : Int) := by rw [hsz]; omega
            have hlong2 : (804 : Int) < ((bsl T).size : Int) + (U : Int) := by rw [hsz]; omega
            clear hroom
            go_wp2_with (first
              | (go_at_call 18; (with_reducible refine hri.mono ?_); rintro e w4 ⟨rfl, rfl⟩)
              | (go_at_call 9; (with_reducible refine hsp.mono ?_); rintro e w5 ⟨rfl, hg5⟩))
            go_ret
            exact ⟨rfl, by (repeat (first | with_reducible exact Gr.refl _ | with_reducible assumption | with_reducible refine Gr.setCell ?_ (by simp; try omega) _ | with_reducible refine Gr.alloc ?_ _ | with_reducible refine Gr.drew ?_ | with_reducible refine Gr.drewN ?_ _ | with_reducible refine Gr.trans ?_ (by assumption)))⟩
          have hshort : ¬ (804 : Int) - (U : Int) < ((bsl T).size : Int) := by rw [hsz]; omega
          have hshort2 : ((bsl T).size : Int) ≤ (804 : Int) - (U : Int) := by rw [hsz]; omega
          obtain ⟨m, rfl, hkm, hm1, hm2⟩ := isZ_form hzk
          go_upto_region 15 with (first
            | (go_at_call 18; (with_reducible refine hri.mono ?_); rintro e w4 ⟨rfl, rfl⟩)
            | (go_at_call 9; (with_reducible refine hsp.mono ?_); rintro e w5 ⟨rfl, hg5⟩))
          obtain ⟨_, _, _, _, _, _, hk1, hk2⟩ := key_digits ⟨m, by omega⟩ hkm
          simp only at hk1 hk2
          have hA : Int.tdiv (m : Int) 10 = ((m / 10 : Nat) : Int) := by rw [Int.tdiv_eq_ediv_of_nonneg (by omega)]; omega
          have hBm : Int.tmod (m : Int) 10 = ((m % 10 : Nat) : Int) := by rw [Int.tmod_eq_emod_of_nonneg (by omega)]; omega
          obtain ⟨A, hAd⟩ : ∃ A : Int, A = ((m / 10 : Nat) : Int) := ⟨_, rfl⟩
          obtain ⟨B, hBd⟩ : ∃ B : Int, B = ((m % 10 : Nat) : Int) := ⟨_, rfl⟩
          rw [← hAd] at hA
          rw [← hBd] at hBm
          have hA1 : IntKind.i64.wrap A = A := IntWalk.i64_in _ (by omega)
          have hB1 : IntKind.i64.wrap B = B := IntWalk.i64_in _ (by omega)
          have hA2 : 48 + A = ((kd1 m).toNat : Int) := by rw [hk1, hAd]; omega
          have hB2 : 48 + B = ((kd2 m).toNat : Int) := by rw [hk2, hBd]; omega
          have hA3 : IntKind.i64.wrap ((kd1 m).toNat : Int) = ((kd1 m).toNat : Int) := IntWalk.i64_in _ (by omega)
          have hB3 : IntKind.i64.wrap ((kd2 m).toNat : Int) = ((kd2 m).toNat : Int) := IntWalk.i64_in _ (by omega)
          have hA4 : IntKind.u8.wrap ((kd1 m).toNat : Int) = ((kd1 m).toNat : Int) := u8_small _ (by omega) (by omega)
          have hB4 : IntKind.u8.wrap ((kd2 m).toNat : Int) = ((kd2 m).toNat : Int) := u8_small _ (by omega) (by omega)
          have hcat : bsl [kd1 m, kd2 m, 47] ++ bsl (hexB T) = bsl (keyData m T) := bsl_app _ _
          have hcatl : ¬ 9223372036854775807 < (bsl [kd1 m, kd2 m, 47]).size + (bsl (hexB T)).size := by rw [bsl_size, bsl_size, hexB_len]; simp; omega
          have hdat : (keyData m T).length ≤ 100000 := by unfold keyData; simp only [List.length_cons]; rw [hexB_len]; omega
          have HK3 := Lib.hid hK3; have HKQ := Lib.hid hKq; have HGW := Lib.hid hgw3; have HG5 := Lib.hid hg5
          have HROOM := Lib.hid hroom
          clear hK3 hKq hgw3 hsp hri hzk hk1 hk2 hAd hBd hshort hshort2 hroom hsz
          obtain ⟨w30, hw30⟩ : ∃ w30, w30 = w3 := ⟨_, rfl⟩
          rw [← hw30] at HK3 HKQ HGW HG5
          clear hw30
          refine wp_region_facts7 (daF m T A B) (fun _ _ _ _ => True) (fun _ _ => false) (fun _ _ => True) (Gr w5) (by kernel_rfl) (by kernel_rfl) (by kernel_rfl) ?_ (Gr.refl w5).drew (fun _ => trivial) ?_ ?_
          · intro j o ho ys zs w' hj he hF
            unfold daF at hF ⊢
            split at hF <;> first | (simp only [← hj]; exact hF) | exact hF | trivial
          · refine Steps7.cons1 1 rfl rfl ?_ (Steps7.cons1 2 rfl rfl ?_ (Steps7.cons1 3 rfl rfl ?_ (Steps7.cons1 4 rfl rfl ?_ (Steps7.cons1 5 rfl rfl ?_ (Steps7.cons1 6 rfl rfl ?_ (Steps7.cons1 7 rfl rfl ?_ (Steps7.cons1 8 rfl rfl ?_ (Steps7.cons1 9 rfl rfl ?_ (Steps7.cons1 10 rfl rfl ?_ (Steps7.cons1 11 rfl rfl ?_ (Steps7.cons1 12 rfl rfl ?_ (Steps7.cons1 13 rfl rfl ?_ (Steps7.cons1 14 rfl rfl ?_ (Steps7.nil))))))))))))))
            · (intro L ys w' hB hD hP hn; simp only [LAll, Region.binds, forall_const, and_true, true_and] at hP)
              intro K hK
              simp only [fillA]
              go_simp
              have h2 := hK (.int .i64 (m : Int)) w' hB (setY_at ys 0 _) (fun j _ _ h => h) (fun j _ _ h => h) (fun j _ => ⟨fun _ => trivial, fun _ => trivial⟩)
              simp [fillA, Act.put] at h2
              exact h2
            · (intro L ys w' hB hD hP hn; simp only [LAll, Region.binds, forall_const, and_true, true_and] at hP)
              have f0 : ys 0 = .int .i64 (m : Int) := hD.fact 0 (by first | exact hP | exact hP.1 | exact hP.2.1 | exact hP.2.2.1 | exact hP.2.2.2.1 | exact hP.2.2.2.2 | exact hP.2 | exact hP.2.2 | exact hP.2.2.2) (fun _ _ => rfl)
              intro K hK
              simp only [fillA]
              go_simp
              have h2 := hK (.int .i64 A) w' hB (setY_at ys 1 _) (fun j _ _ h => h) (fun j _ _ h => h) (fun j _ => ⟨fun _ => trivial, fun _ => trivial⟩)
              simp [fillA, Act.put, f0] at h2
              exact h2
            · (intro L ys w' hB hD hP hn; simp only [LAll, Region.binds, forall_const, and_true, true_and] at hP)
              have f1 : ys 1 = .int .i64 A := hD.fact 1 (by first | exact hP | exact hP.1 | exact hP.2.1 | exact hP.2.2.1 | exact hP.2.2.2.1 | exact hP.2.2.2.2 | exact hP.2 | exact hP.2.2 | exact hP.2.2.2) (fun _ _ => rfl)
              intro K hK
              simp only [fillA]
              go_simp
              have h2 := hK (.int .i64 ((kd1 m).toNat : Int)) w' hB (setY_at ys 2 _) (fun j _ _ h => h) (fun j _ _ h => h) (fun j _ => ⟨fun _ => trivial, fun _ => trivial⟩)
              simp [fillA, Act.put, f1] at h2
              exact h2
            · (intro L ys w' hB hD hP hn; simp only [LAll, Region.binds, forall_const, and_true, true_and] at hP)
              have f2 : ys 2 = .int .i64 ((kd1 m).toNat : Int) := hD.fact 2 (by first | exact hP | exact hP.1 | exact hP.2.1 | exact hP.2.2.1 | exact hP.2.2.2.1 | exact hP.2.2.2.2 | exact hP.2 | exact hP.2.2 | exact hP.2.2.2) (fun _ _ => rfl)
              intro K hK
              simp only [fillA]
              go_simp
              have h2 := hK (.int .u8 ((kd1 m).toNat : Int)) w' hB (setY_at ys 3 _) (fun j _ _ h => h) (fun j _ _ h => h) (fun j _ => ⟨fun _ => trivial, fun _ => trivial⟩)
              simp [fillA, Act.put, f2] at h2
              exact h2
            · (intro L ys w' hB hD hP hn; simp only [LAll, Region.binds, forall_const, and_true, true_and] at hP)
              intro K hK
              simp only [fillA]
              go_simp
              have h2 := hK (.int .i64 (m : Int)) w' hB (setY_at ys 4 _) (fun j _ _ h => h) (fun j _ _ h => h) (fun j _ => ⟨fun _ => trivial, fun _ => trivial⟩)
              simp [fillA, Act.put] at h2
              exact h2
            · (intro L ys w' hB hD hP hn; simp only [LAll, Region.binds, forall_const, and_true, true_and] at hP)
              have f4 : ys 4 = .int .i64 (m : Int) := hD.fact 4 (by first | exact hP | exact hP.1 | exact hP.2.1 | exact hP.2.2.1 | exact hP.2.2.2.1 | exact hP.2.2.2.2 | exact hP.2 | exact hP.2.2 | exact hP.2.2.2) (fun _ _ => rfl)
              intro K hK
              simp only [fillA]
              go_simp
              have h2 := hK (.int .i64 B) w' hB (setY_at ys 5 _) (fun j _ _ h => h) (fun j _ _ h => h) (fun j _ => ⟨fun _ => trivial, fun _ => trivial⟩)
              simp [fillA, Act.put, f4] at h2
              exact h2
            · (intro L ys w' hB hD hP hn; simp only [LAll, Region.binds, forall_const, and_true, true_and] at hP)
              have f5 : ys 5 = .int .i64 B := hD.fact 5 (by first | exact hP | exact hP.1 | exact hP.2.1 | exact hP.2.2.1 | exact hP.2.2.2.1 | exact hP.2.2.2.2 | exact hP.2 | exact hP.2.2 | exact hP.2.2.2) (fun _ _ => rfl)
              intro K hK
              simp only [fillA]
              go_simp
              have h2 := hK (.int .i64 ((kd2 m).toNat : Int)) w' hB (setY_at ys 6 _) (fun j _ _ h => h) (fun j _ _ h => h) (fun j _ => ⟨fun _ => trivial, fun _ => trivial⟩)
              simp [fillA, Act.put, f5] at h2
              exact h2
            · (intro L ys w' hB hD hP hn; simp only [LAll, Region.binds, forall_const, and_true, true_and] at hP)
              have f6 : ys 6 = .int .i64 ((kd2 m).toNat : Int) := hD.fact 6 (by first | exact hP | exact hP.1 | exact hP.2.1 | exact hP.2.2.1 | exact hP.2.2.2.1 | exact hP.2.2.2.2 | exact hP.2 | exact hP.2.2 | exact hP.2.2.2) (fun _ _ => rfl)
              intro K hK
              simp only [fillA]
              go_simp
              have h2 := hK (.int .u8 ((kd2 m).toNat : Int)) w' hB (setY_at ys 7 _) (fun j _ _ h => h) (fun j _ _ h => h) (fun j _ => ⟨fun _ => trivial, fun _ => trivial⟩)
              simp [fillA, Act.put, f6] at h2
              exact h2
            · (intro L ys w' hB hD hP hn; simp only [LAll, Region.binds, forall_const, and_true, true_and] at hP)
              have f3 : ys 3 = .int .u8 ((kd1 m).toNat : Int) := hD.fact 3 (by first | exact hP | exact hP.1 | exact hP.2.1 | exact hP.2.2.1 | exact hP.2.2.2.1 | exact hP.2.2.2.2 | exact hP.2 | exact hP.2.2 | exact hP.2.2.2) (fun _ _ => rfl)
              have f7 : ys 7 = .int .u8 ((kd2 m).toNat : Int) := hD.fact 7 (by first | exact hP | exact hP.1 | exact hP.2.1 | exact hP.2.2.1 | exact hP.2.2.2.1 | exact hP.2.2.2.2 | exact hP.2 | exact hP.2.2 | exact hP.2.2.2) (fun _ _ => rfl)
              intro K hK
              simp only [fillA]
              go_simp
              have hg := (Gr.refl w').alloc (.cells #[.int .u8 ((kd1 m).toNat : Int), .int .u8 ((kd2 m).toNat : Int), .int .u8 47] 5)
              have h2 := hK (.slice (some ⟨w'.heap.size, 0, none⟩) 3 3) (w'.alloc (.cells #[.int .u8 ((kd1 m).toNat : Int), .int .u8 ((kd2 m).toNat : Int), .int .u8 47] 5)) (hB.trans hg) ⟨_, setY_at ys 8 _, heap_alloc_new _ _⟩ (fun j _ _ h => h.gr hg) (fun j _ _ h => h) (fun j _ => ⟨fun _ => trivial, fun _ => trivial⟩)
              simp [fillA, Act.put, f3, f7] at h2
              exact h2
            · (intro L ys w' hB hD hP hn; simp only [LAll, Region.binds, forall_const, and_true, true_and] at hP)
              obtain ⟨g, f8, hg8⟩ : ∃ g, ys 8 = .slice (some ⟨g, 0, none⟩) 3 3 ∧ w'.heap[g]? = some (.cells (Lib.byteCells [kd1 m, kd2 m, 47]).toArray 5 (0, 0)) := hD.fact 8 (by first | exact hP | exact hP.1 | exact hP.2.1 | exact hP.2.2.1 | exact hP.2.2.2.1 | exact hP.2.2.2.2 | exact hP.2 | exact hP.2.2 | exact hP.2.2.2) (fun _ _ => rfl)
              have hown : w'.ownsRow 0 5 1 (.slice (some ⟨g, 0, none⟩) 3 3) 3 (Lib.byteCells [kd1 m, kd2 m, 47]) := ⟨rfl, .inr ⟨g, 3, _, rfl, Nat.zero_le _, hg8, Nat.le_refl _, by unfold maxLen; omega, rfl, rfl⟩⟩
              have hcv := conv_own hown
              intro K hK
              simp only [fillA]
              go_simp
              have h2 := hK (.string (bsl [kd1 m, kd2 m, 47])) w' hB (setY_at ys 9 _) (fun j _ _ h => h) (fun j _ _ h => h) (fun j _ => ⟨fun _ => trivial, fun _ => trivial⟩)
              simp [fillA, Act.put, f8] at h2
              exact h2
            · (intro L ys w' hB hD hP hn; simp only [LAll, Region.binds, forall_const, and_true, true_and] at hP)
              intro K hK
              simp only [fillA]
              go_simp
              have h2 := hK (.string (bsl T)) w' hB (setY_at ys 10 _) (fun j _ _ h => h) (fun j _ _ h => h) (fun j _ => ⟨fun _ => trivial, fun _ => trivial⟩)
              simp [fillA, Act.put] at h2
              exact h2
            · (intro L ys w' hB hD hP hn; simp only [LAll, Region.binds, forall_const, and_true, true_and] at hP)
              have f10 : ys 10 = .string (bsl T) := hD.fact 10 (by first | exact hP | exact hP.1 | exact hP.2.1 | exact hP.2.2.1 | exact hP.2.2.2.1 | exact hP.2.2.2.2 | exact hP.2 | exact hP.2.2 | exact hP.2.2.2) (fun _ _ => rfl)
              intro K hK
              simp only [fillA]
              go_simp
              have hcon := hex_any T w' (by omega)
              (with_reducible refine hcon.mono ?_)
              clear hcon
              rintro e w4 ⟨rfl, hg⟩
              have h2 := hK (.string (bsl (hexB T))) w4 (hB.trans hg) (setY_at ys 11 _) (fun j _ _ h => h.gr hg) (fun j _ _ h => h) (fun j _ => ⟨fun _ => trivial, fun _ => trivial⟩)
              simp [fillA, Act.put, f10] at h2
              exact h2
            · (intro L ys w' hB hD hP hn; simp only [LAll, Region.binds, forall_const, and_true, true_and] at hP)
              have f9 : ys 9 = .string (bsl [kd1 m, kd2 m, 47]) := hD.fact 9 (by first | exact hP | exact hP.1 | exact hP.2.1 | exact hP.2.2.1 | exact hP.2.2.2.1 | exact hP.2.2.2.2 | exact hP.2 | exact hP.2.2 | exact hP.2.2.2) (fun _ _ => rfl)
              have f11 : ys 11 = .string (bsl (hexB T)) := hD.fact 11 (by first | exact hP | exact hP.1 | exact hP.2.1 | exact hP.2.2.1 | exact hP.2.2.2.1 | exact hP.2.2.2.2 | exact hP.2 | exact hP.2.2 | exact hP.2.2.2) (fun _ _ => rfl)
              intro K hK
              simp only [fillA]
              go_simp
              have h2 := hK (.string (bsl (keyData m T))) w' hB (setY_at ys 12 _) (fun j _ _ h => h) (fun j _ _ h => h) (fun j _ => ⟨fun _ => trivial, fun _ => trivial⟩)
              simp [fillA, Act.put, f9, f11] at h2
              exact h2
            · (intro L ys w' hB hD hP hn; simp only [LAll, Region.binds, forall_const, and_true, true_and] at hP)
              have f12 : ys 12 = .string (bsl (keyData m T)) := hD.fact 12 (by first | exact hP | exact hP.1 | exact hP.2.1 | exact hP.2.2.1 | exact hP.2.2.2.1 | exact hP.2.2.2.2 | exact hP.2 | exact hP.2.2 | exact hP.2.2.2) (fun _ _ => rfl)
              intro K hK
              simp only [fillA]
              go_simp
              have h2 := hK (.string (bsl (keyData m T))) w' hB (setY_at ys 13 _) (fun j _ _ h => h) (fun j _ _ h => h) (fun j _ => ⟨fun _ => trivial, fun _ => trivial⟩)
              simp [fillA, Act.put, f12] at h2
              exact h2
          · intro ys w4 hB hF _
            have f13 : ys 13 = .string (bsl (keyData m T)) := hF 13 (by decide) (fun _ _ => rfl)
            clear hF
            simp only [fillA, Act.put, List.setIfInBounds_toArray, List.set_cons_succ, List.set_cons_zero, Nat.zero_add, Nat.reduceAdd, f13]
            clear f13
            have hgw4 : Gr w w4 := (HGW.out.trans HG5.out).trans hB
            have hK4 := HK3.out.gr (HG5.out.trans hB)
            have hKq4 := HKQ.out.gr (HG5.out.trans hB)
            have hdef := define_any false false (keyData m T) hK4 hdat (hM.gr hgw4) (by rw [← HU.out]; omega)
            rw [back_dfn hkm (by rw [← HU.out]; exact HROOM.out)] at hdef
            clear hA hBm hA1 hB1 hA2 hB2 hA3 hB3 hA4 hB4 hcat hcatl hdat hM
            have HGW4 := Lib.hid hgw4
            have HKQ4 := Lib.hid hKq4
            have HM1 := Lib.hid hm1
            have HQP := Lib.hid hqp
            have HPW := Lib.hid HS.out.ne.2.1
            clear hgw4 hKq4 hK4 hB
            go_upto_region 19 with (go_at_call 8; (with_reducible refine hdef.mono ?_); rintro e w6 ⟨rfl, hK6, hu6⟩)
            have hKq6 := HKQ4.out.upd hu6 (by simpa using fun e => HQP.out e.symm)
            have hgw6 : Gr w w6 := HGW4.out.upd hu6 (by simpa using HPW.out)
            have hga := fun (x : Nat) => get_any (x : Int) hK6
            have hgb := fun (x : Nat) => get_any (x : Int) hKq6
            have hgs := fun (x : Nat) => get_set (T := T) hLl hkm x
            have HGS := Lib.hid hgs
            clear hgs hK6 hKq6 hu6 hdef
            go_loopw [12] (fun iv wr => ∃ x : Nat, iv = .int .i64 (x : Int) ∧ x ≤ 40 ∧ wr = w6) (fun iv _ => 40 - (intOf iv).toNat)
            case atStart => exact ⟨0, rfl, Nat.zero_le _, rfl⟩
            case round =>
              obtain ⟨x, rfl, hx40, rfl⟩ := hrel
              by_cases hlt : x < 40
              · have hxi : (x : Int) < 40 := by omega
                have ha := hga x
                have hb := hgb x
                rw [HGS.out x] at ha
                clear hga hgb
                by_cases hxm : x = m
                · subst hxm
                  rw [if_pos rfl] at ha
                  go_wp2_with (first
                    | (go_at_call 15; (with_reducible refine ha.mono ?_); rintro e w7 ⟨rfl, rfl⟩)
                    | (go_at_call 15; (with_reducible refine hb.mono ?_); rintro e w8 ⟨rfl, rfl⟩))
                  go_roundw
                  case rel => exact ⟨x + 1, by go_num, by omega, by first | rfl | trivial⟩
                  case measure => simp [intOf]; omega
                · have hne : ((x : Int) == (m : Int)) = false := by simp; omega
                  have hne2 : ¬ (x : Int) = (m : Int) := by omega
                  rw [if_neg hxm] at ha
                  go_wp2_with (first
                    | (go_at_call 15; (with_reducible refine ha.mono ?_); rintro e w7 ⟨rfl, rfl⟩)
                    | (go_at_call 15; (with_reducible refine hb.mono ?_); rintro e w8 ⟨rfl, rfl⟩))
                  go_roundw
                  case rel => exact ⟨x + 1, by go_num, by omega, by first | rfl | trivial⟩
                  case measure => simp [intOf]; omega
              · have hxi : ¬ (x : Int) < 40 := by omega
                go_wp2_with fail
                go_ret
                exact ⟨rfl, hgw6⟩
        · have hbigi : ¬ (40 : Int) < (tx.size : Int) := by omega
          have hex : tx = bsl T := by
            have := HTX.out
            rw [this, bsl_size] at hbig
            rw [this, hTd, List.take_of_length_le (by omega)]
          have hTl : T.length ≤ 40 := by rw [hTd]; simp; omega
          have HTD := Lib.hid hTd
          clear hTd
          subst hex
          go_upto_region 11 with fail
          go_upto_region 13 with (first
            | (go_at_call 17; (with_reducible refine hlock.mono ?_); rintro e w2 ⟨rfl, hK2, hu2⟩; have hcl := clone_any hK2)
            | (go_at_call 10; (with_reducible refine hcl.mono ?_); rintro e w3 ⟨rfl, hKq, hg3⟩))
          have hgw3 : Gr w w3 := (HS.out.gr.upd hu2 (by simpa using HS.out.ne.2.1)).trans hg3
          have hK3 := hK2.gr hg3
          have hqp : p ≠ w2.heap.size := by have := (Array.getElem?_eq_some_iff.1 hK2.blk).1; omega
          obtain ⟨q, hq⟩ : ∃ q, q = w2.heap.size := ⟨_, rfl⟩
          rw [← hq] at hKq hqp ⊢
          have hu804 := HS.out.used
          have hLl := HS.out.k.len
          have hsp := space_any hK3 (by omega)
          have hri := ris_any key w3
          have hsz : (bsl T).size = T.length := bsl_size T
          obtain ⟨U, hU⟩ : ∃ U, U = usedL Lk := ⟨_, rfl⟩
          rw [← hU] at hsp hu804
          have HU := Lib.hid hU
          clear hU
          clear hcl hu2 hK2 hg3 hlock hq
          by_cases hzk : isZ key = true
          rotate_left
          · rw [Bool.eq_false_iff.2 hzk] at hri
            clear hzk
            go_wp2_with (go_at_call 18; (with_reducible refine hri.mono ?_); rintro e w4 ⟨rfl, rfl⟩)
            go_ret
            exact ⟨rfl, hgw3⟩
          rw [hzk] at hri
          by_cases hroom : T.length + U ≤ 804
          rotate_left
          · have hlong : (804 : Int) - (U : Int) < ((bsl T).size : Int) := by rw [hsz]; omega
            have hlong2 : (804 : Int) < ((bsl T).size : Int) + (U : Int) := by rw [hsz]; omega
            clear hroom
            go_wp2_with (first
              | (go_at_call 18; (with_reducible refine hri.mono ?_); rintro e w4 ⟨rfl, rfl⟩)
              | (go_at_call 9; (with_reducible refine hsp.mono ?_); rintro e w5 ⟨rfl, hg5⟩))
            go_ret
            exact ⟨rfl, by (repeat (first | with_reducible exact Gr.refl _ | with_reducible assumption | with_reducible refine Gr.setCell ?_ (by simp; try omega) _ | with_reducible refine Gr.alloc ?_ _ | with_reducible refine Gr.drew ?_ | with_reducible refine Gr.drewN ?_ _ | with_reducible refine Gr.trans ?_ (by assumption)))⟩
          have hshort : ¬ (804 : Int) - (U : Int) < ((bsl T).size : Int) := by rw [hsz]; omega
          have hshort2 : ((bsl T).size : Int) ≤ (804 : Int) - (U : Int) := by rw [hsz]; omega
          obtain ⟨m, rfl, hkm, hm1, hm2⟩ := isZ_form hzk
          go_upto_region 15 with (first
            | (go_at_call 18; (with_reducible refine hri.mono ?_); rintro e w4 ⟨rfl, rfl⟩)
            | (go_at_call 9; (with_reducible refine hsp.mono ?_); rintro e w5 ⟨rfl, hg5⟩))
          obtain ⟨_, _, _, _, _, _, hk1, hk2⟩ := key_digits ⟨m, by omega⟩ hkm
          simp only at hk1 hk2
          have hA : Int.tdiv (m : Int) 10 = ((m / 10 : Nat) : Int) := by rw [Int.tdiv_eq_ediv_of_nonneg (by omega)]; omega
          have hBm : Int.tmod (m : Int) 10 = ((m % 10 : Nat) : Int) := by rw [Int.tmod_eq_emod_of_nonneg (by omega)]; omega
          obtain ⟨A, hAd⟩ : ∃ A : Int, A = ((m / 10 : Nat) : Int) := ⟨_, rfl⟩
          obtain ⟨B, hBd⟩ : ∃ B : Int, B = ((m % 10 : Nat) : Int) := ⟨_, rfl⟩
          rw [← hAd] at hA
          rw [← hBd] at hBm
          have hA1 : IntKind.i64.wrap A = A := IntWalk.i64_in _ (by omega)
          have hB1 : IntKind.i64.wrap B = B := IntWalk.i64_in _ (by omega)
          have hA2 : 48 + A = ((kd1 m).toNat : Int) := by rw [hk1, hAd]; omega
          have hB2 : 48 + B = ((kd2 m).toNat : Int) := by rw [hk2, hBd]; omega
          have hA3 : IntKind.i64.wrap ((kd1 m).toNat : Int) = ((kd1 m).toNat : Int) := IntWalk.i64_in _ (by omega)
          have hB3 : IntKind.i64.wrap ((kd2 m).toNat : Int) = ((kd2 m).toNat : Int) := IntWalk.i64_in _ (by omega)
          have hA4 : IntKind.u8.wrap ((kd1 m).toNat : Int) = ((kd1 m).toNat : Int) := u8_small _ (by omega) (by omega)
          have hB4 : IntKind.u8.wrap ((kd2 m).toNat : Int) = ((kd2 m).toNat : Int) := u8_small _ (by omega) (by omega)
          have hcat : bsl [kd1 m, kd2 m, 47] ++ bsl (hexB T) = bsl (keyData m T) := bsl_app _ _
          have hcatl : ¬ 9223372036854775807 < (bsl [kd1 m, kd2 m, 47]).size + (bsl (hexB T)).size := by rw [bsl_size, bsl_size, hexB_len]; simp; omega
          have hdat : (keyData m T).length ≤ 100000 := by unfold keyData; simp only [List.length_cons]; rw [hexB_len]; omega
          have HK3 := Lib.hid hK3; have HKQ := Lib.hid hKq; have HGW := Lib.hid hgw3; have HG5 := Lib.hid hg5
          have HROOM := Lib.hid hroom
          clear hK3 hKq hgw3 hsp hri hzk hk1 hk2 hAd hBd hshort hshort2 hroom hsz
          obtain ⟨w30, hw30⟩ : ∃ w30, w30 = w3 := ⟨_, rfl⟩
          rw [← hw30] at HK3 HKQ HGW HG5
          clear hw30
          refine wp_region_facts7 (daF m T A B) (fun _ _ _ _ => True) (fun _ _ => false) (fun _ _ => True) (Gr w5) (by kernel_rfl) (by kernel_rfl) (by kernel_rfl) ?_ (Gr.refl w5).drew (fun _ => trivial) ?_ ?_
          · intro j o ho ys zs w' hj he hF
            unfold daF at hF ⊢
            split at hF <;> first | (simp only [← hj]; exact hF) | exact hF | trivial
          · refine Steps7.cons1 1 rfl rfl ?_ (Steps7.cons1 2 rfl rfl ?_ (Steps7.cons1 3 rfl rfl ?_ (Steps7.cons1 4 rfl rfl ?_ (Steps7.cons1 5 rfl rfl ?_ (Steps7.cons1 6 rfl rfl ?_ (Steps7.cons1 7 rfl rfl ?_ (Steps7.cons1 8 rfl rfl ?_ (Steps7.cons1 9 rfl rfl ?_ (Steps7.cons1 10 rfl rfl ?_ (Steps7.cons1 11 rfl rfl ?_ (Steps7.cons1 12 rfl rfl ?_ (Steps7.cons1 13 rfl rfl ?_ (Steps7.cons1 14 rfl rfl ?_ (Steps7.nil))))))))))))))
            · (intro L ys w' hB hD hP hn; simp only [LAll, Region.binds, forall_const, and_true, true_and] at hP)
              intro K hK
              simp only [fillA]
              go_simp
              have h2 := hK (.int .i64 (m : Int)) w' hB (setY_at ys 0 _) (fun j _ _ h => h) (fun j _ _ h => h) (fun j _ => ⟨fun _ => trivial, fun _ => trivial⟩)
              simp [fillA, Act.put] at h2
              exact h2
            · (intro L ys w' hB hD hP hn; simp only [LAll, Region.binds, forall_const, and_true, true_and] at hP)
              have f0 : ys 0 = .int .i64 (m : Int) := hD.fact 0 (by first | exact hP | exact hP.1 | exact hP.2.1 | exact hP.2.2.1 | exact hP.2.2.2.1 | exact hP.2.2.2.2 | exact hP.2 | exact hP.2.2 | exact hP.2.2.2) (fun _ _ => rfl)
              intro K hK
              simp only [fillA]
              go_simp
              have h2 := hK (.int .i64 A) w' hB (setY_at ys 1 _) (fun j _ _ h => h) (fun j _ _ h => h) (fun j _ => ⟨fun _ => trivial, fun _ => trivial⟩)
              simp [fillA, Act.put, f0] at h2
              exact h2
            · (intro L ys w' hB hD hP hn; simp only [LAll, Region.binds, forall_const, and_true, true_and] at hP)
              have f1 : ys 1 = .int .i64 A := hD.fact 1 (by first | exact hP | exact hP.1 | exact hP.2.1 | exact hP.2.2.1 | exact hP.2.2.2.1 | exact hP.2.2.2.2 | exact hP.2 | exact hP.2.2 | exact hP.2.2.2) (fun _ _ => rfl)
              intro K hK
              simp only [fillA]
              go_simp
              have h2 := hK (.int .i64 ((kd1 m).toNat : Int)) w' hB (setY_at ys 2 _) (fun j _ _ h => h) (fun j _ _ h => h) (fun j _ => ⟨fun _ => trivial, fun _ => trivial⟩)
              simp [fillA, Act.put, f1] at h2
              exact h2
            · (intro L ys w' hB hD hP hn; simp only [LAll, Region.binds, forall_const, and_true, true_and] at hP)
              have f2 : ys 2 = .int .i64 ((kd1 m).toNat : Int) := hD.fact 2 (by first | exact hP | exact hP.1 | exact hP.2.1 | exact hP.2.2.1 | exact hP.2.2.2.1 | exact hP.2.2.2.2 | exact hP.2 | exact hP.2.2 | exact hP.2.2.2) (fun _ _ => rfl)
              intro K hK
              simp only [fillA]
              go_simp
              have h2 := hK (.int .u8 ((kd1 m).toNat : Int)) w' hB (setY_at ys 3 _) (fun j _ _ h => h) (fun j _ _ h => h) (fun j _ => ⟨fun _ => trivial, fun _ => trivial⟩)
              simp [fillA, Act.put, f2] at h2
              exact h2
            · (intro L ys w' hB hD hP hn; simp only [LAll, Region.binds, forall_const, and_true, true_and] at hP)
              intro K hK
              simp only [fillA]
              go_simp
              have h2 := hK (.int .i64 (m : Int)) w' hB (setY_at ys 4 _) (fun j _ _ h => h) (fun j _ _ h => h) (fun j _ => ⟨fun _ => trivial, fun _ => trivial⟩)
              simp [fillA, Act.put] at h2
              exact h2
            · (intro L ys w' hB hD hP hn; simp only [LAll, Region.binds, forall_const, and_true, true_and] at hP)
              have f4 : ys 4 = .int .i64 (m : Int) := hD.fact 4 (by first | exact hP | exact hP.1 | exact hP.2.1 | exact hP.2.2.1 | exact hP.2.2.2.1 | exact hP.2.2.2.2 | exact hP.2 | exact hP.2.2 | exact hP.2.2.2) (fun _ _ => rfl)
              intro K hK
              simp only [fillA]
              go_simp
              have h2 := hK (.int .i64 B) w' hB (setY_at ys 5 _) (fun j _ _ h => h) (fun j _ _ h => h) (fun j _ => ⟨fun _ => trivial, fun _ => trivial⟩)
              simp [fillA, Act.put, f4] at h2
              exact h2
            · (intro L ys w' hB hD hP hn; simp only [LAll, Region.binds, forall_const, and_true, true_and] at hP)
              have f5 : ys 5 = .int .i64 B := hD.fact 5 (by first | exact hP | exact hP.1 | exact hP.2.1 | exact hP.2.2.1 | exact hP.2.2.2.1 | exact hP.2.2.2.2 | exact hP.2 | exact hP.2.2 | exact hP.2.2.2) (fun _ _ => rfl)
              intro K hK
              simp only [fillA]
              go_simp
              have h2 := hK (.int .i64 ((kd2 m).toNat : Int)) w' hB (setY_at ys 6 _) (fun j _ _ h => h) (fun j _ _ h => h) (fun j _ => ⟨fun _ => trivial, fun _ => trivial⟩)
              simp [fillA, Act.put, f5] at h2
              exact h2
            · (intro L ys w' hB hD hP hn; simp only [LAll, Region.binds, forall_const, and_true, true_and] at hP)
              have f6 : ys 6 = .int .i64 ((kd2 m).toNat : Int) := hD.fact 6 (by first | exact hP | exact hP.1 | exact hP.2.1 | exact hP.2.2.1 | exact hP.2.2.2.1 | exact hP.2.2.2.2 | exact hP.2 | exact hP.2.2 | exact hP.2.2.2) (fun _ _ => rfl)
              intro K hK
              simp only [fillA]
              go_simp
              have h2 := hK (.int .u8 ((kd2 m).toNat : Int)) w' hB (setY_at ys 7 _) (fun j _ _ h => h) (fun j _ _ h => h) (fun j _ => ⟨fun _ => trivial, fun _ => trivial⟩)
              simp [fillA, Act.put, f6] at h2
              exact h2
            · (intro L ys w' hB hD hP hn; simp only [LAll, Region.binds, forall_const, and_true, true_and] at hP)
              have f3 : ys 3 = .int .u8 ((kd1 m).toNat : Int) := hD.fact 3 (by first | exact hP | exact hP.1 | exact hP.2.1 | exact hP.2.2.1 | exact hP.2.2.2.1 | exact hP.2.2.2.2 | exact hP.2 | exact hP.2.2 | exact hP.2.2.2) (fun _ _ => rfl)
              have f7 : ys 7 = .int .u8 ((kd2 m).toNat : Int) := hD.fact 7 (by first | exact hP | exact hP.1 | exact hP.2.1 | exact hP.2.2.1 | exact hP.2.2.2.1 | exact hP.2.2.2.2 | exact hP.2 | exact hP.2.2 | exact hP.2.2.2) (fun _ _ => rfl)
              intro K hK
              simp only [fillA]
              go_simp
              have hg := (Gr.refl w').alloc (.cells #[.int .u8 ((kd1 m).toNat : Int), .int .u8 ((kd2 m).toNat : Int), .int .u8 47] 5)
              have h2 := hK (.slice (some ⟨w'.heap.size, 0, none⟩) 3 3) (w'.alloc (.cells #[.int .u8 ((kd1 m).toNat : Int), .int .u8 ((kd2 m).toNat : Int), .int .u8 47] 5)) (hB.trans hg) ⟨_, setY_at ys 8 _, heap_alloc_new _ _⟩ (fun j _ _ h => h.gr hg) (fun j _ _ h => h) (fun j _ => ⟨fun _ => trivial, fun _ => trivial⟩)
              simp [fillA, Act.put, f3, f7] at h2
              exact h2
            · (intro L ys w' hB hD hP hn; simp only [LAll, Region.binds, forall_const, and_true, true_and] at hP)
              obtain ⟨g, f8, hg8⟩ : ∃ g, ys 8 = .slice (some ⟨g, 0, none⟩) 3 3 ∧ w'.heap[g]? = some (.cells (Lib.byteCells [kd1 m, kd2 m, 47]).toArray 5 (0, 0)) := hD.fact 8 (by first | exact hP | exact hP.1 | exact hP.2.1 | exact hP.2.2.1 | exact hP.2.2.2.1 | exact hP.2.2.2.2 | exact hP.2 | exact hP.2.2 | exact hP.2.2.2) (fun _ _ => rfl)
              have hown : w'.ownsRow 0 5 1 (.slice (some ⟨g, 0, none⟩) 3 3) 3 (Lib.byteCells [kd1 m, kd2 m, 47]) := ⟨rfl, .inr ⟨g, 3, _, rfl, Nat.zero_le _, hg8, Nat.le_refl _, by unfold maxLen; omega, rfl, rfl⟩⟩
              have hcv := conv_own hown
              intro K hK
              simp only [fillA]
              go_simp
              have h2 := hK (.string (bsl [kd1 m, kd2 m, 47])) w' hB (setY_at ys 9 _) (fun j _ _ h => h) (fun j _ _ h => h) (fun j _ => ⟨fun _ => trivial, fun _ => trivial⟩)
              simp [fillA, Act.put, f8] at h2
              exact h2
            · (intro L ys w' hB hD hP hn; simp only [LAll, Region.binds, forall_const, and_true, true_and] at hP)
              intro K hK
              simp only [fillA]
              go_simp
              have h2 := hK (.string (bsl T)) w' hB (setY_at ys 10 _) (fun j _ _ h => h) (fun j _ _ h => h) (fun j _ => ⟨fun _ => trivial, fun _ => trivial⟩)
              simp [fillA, Act.put] at h2
              exact h2
            · (intro L ys w' hB hD hP hn; simp only [LAll, Region.binds, forall_const, and_true, true_and] at hP)
              have f10 : ys 10 = .string (bsl T) := hD.fact 10 (by first | exact hP | exact hP.1 | exact hP.2.1 | exact hP.2.2.1 | exact hP.2.2.2.1 | exact hP.2.2.2.2 | exact hP.2 | exact hP.2.2 | exact hP.2.2.2) (fun _ _ => rfl)
              intro K hK
              simp only [fillA]
              go_simp
              have hcon := hex_any T w' (by omega)
              (with_reducible refine hcon.mono ?_)
              clear hcon
              rintro e w4 ⟨rfl, hg⟩
              have h2 := hK (.string (bsl (hexB T))) w4 (hB.trans hg) (setY_at ys 11 _) (fun j _ _ h => h.gr hg) (fun j _ _ h => h) (fun j _ => ⟨fun _ => trivial, fun _ => trivial⟩)
              simp [fillA, Act.put, f10] at h2
              exact h2
            · (intro L ys w' hB hD hP hn; simp only [LAll, Region.binds, forall_const, and_true, true_and] at hP)
              have f9 : ys 9 = .string (bsl [kd1 m, kd2 m, 47]) := hD.fact 9 (by first | exact hP | exact hP.1 | exact hP.2.1 | exact hP.2.2.1 | exact hP.2.2.2.1 | exact hP.2.2.2.2 | exact hP.2 | exact hP.2.2 | exact hP.2.2.2) (fun _ _ => rfl)
              have f11 : ys 11 = .string (bsl (hexB T)) := hD.fact 11 (by first | exact hP | exact hP.1 | exact hP.2.1 | exact hP.2.2.1 | exact hP.2.2.2.1 | exact hP.2.2.2.2 | exact hP.2 | exact hP.2.2 | exact hP.2.2.2) (fun _ _ => rfl)
              intro K hK
              simp only [fillA]
              go_simp
              have h2 := hK (.string (bsl (keyData m T))) w' hB (setY_at ys 12 _) (fun j _ _ h => h) (fun j _ _ h => h) (fun j _ => ⟨fun _ => trivial, fun _ => trivial⟩)
              simp [fillA, Act.put, f9, f11] at h2
              exact h2
            · (intro L ys w' hB hD hP hn; simp only [LAll, Region.binds, forall_const, and_true, true_and] at hP)
              have f12 : ys 12 = .string (bsl (keyData m T)) := hD.fact 12 (by first | exact hP | exact hP.1 | exact hP.2.1 | exact hP.2.2.1 | exact hP.2.2.2.1 | exact hP.2.2.2.2 | exact hP.2 | exact hP.2.2 | exact hP.2.2.2) (fun _ _ => rfl)
              intro K hK
              simp only [fillA]
              go_simp
              have h2 := hK (.string (bsl (keyData m T))) w' hB (setY_at ys 13 _) (fun j _ _ h => h) (fun j _ _ h => h) (fun j _ => ⟨fun _ => trivial, fun _ => trivial⟩)
              simp [fillA, Act.put, f12] at h2
              exact h2
          · intro ys w4 hB hF _
            have f13 : ys 13 = .string (bsl (keyData m T)) := hF 13 (by decide) (fun _ _ => rfl)
            clear hF
            simp only [fillA, Act.put, List.setIfInBounds_toArray, List.set_cons_succ, List.set_cons_zero, Nat.zero_add, Nat.reduceAdd, f13]
            clear f13
            have hgw4 : Gr w w4 := (HGW.out.trans HG5.out).trans hB
            have hK4 := HK3.out.gr (HG5.out.trans hB)
            have hKq4 := HKQ.out.gr (HG5.out.trans hB)
            have hdef := define_any false false (keyData m T) hK4 hdat (hM.gr hgw4) (by rw [← HU.out]; omega)
            rw [back_dfn hkm (by rw [← HU.out]; exact HROOM.out)] at hdef
            clear hA hBm hA1 hB1 hA2 hB2 hA3 hB3 hA4 hB4 hcat hcatl hdat hM
            have HGW4 := Lib.hid hgw4
            have HKQ4 := Lib.hid hKq4
            have HM1 := Lib.hid hm1
            have HQP := Lib.hid hqp
            have HPW := Lib.hid HS.out.ne.2.1
            clear hgw4 hKq4 hK4 hB
            go_upto_region 19 with (go_at_call 8; (with_reducible refine hdef.mono ?_); rintro e w6 ⟨rfl, hK6, hu6⟩)
            have hKq6 := HKQ4.out.upd hu6 (by simpa using fun e => HQP.out e.symm)
            have hgw6 : Gr w w6 := HGW4.out.upd hu6 (by simpa using HPW.out)
            have hga := fun (x : Nat) => get_any (x : Int) hK6
            have hgb := fun (x : Nat) => get_any (x : Int) hKq6
            have hgs := fun (x : Nat) => get_set (T := T) hLl hkm x
            have HGS := Lib.hid hgs
            clear hgs hK6 hKq6 hu6 hdef
            go_loopw [12] (fun iv wr => ∃ x : Nat, iv = .int .i64 (x : Int) ∧ x ≤ 40 ∧ wr = w6) (fun iv _ => 40 - (intOf iv).toNat)
            case atStart => exact ⟨0, rfl, Nat.zero_le _, rfl⟩
            case round =>
              obtain ⟨x, rfl, hx40, rfl⟩ := hrel
              by_cases hlt : x < 40
              · have hxi : (x : Int) < 40 := by omega
                have ha := hga x
                have hb := hgb x
                rw [HGS.out x] at ha
                clear hga hgb
                by_cases hxm : x = m
                · subst hxm
                  rw [if_pos rfl] at ha
                  go_wp2_with (first
                    | (go_at_call 15; (with_reducible refine ha.mono ?_); rintro e w7 ⟨rfl, rfl⟩)
                    | (go_at_call 15; (with_reducible refine hb.mono ?_); rintro e w8 ⟨rfl, rfl⟩))
                  go_roundw
                  case rel => exact ⟨x + 1, by go_num, by omega, by first | rfl | trivial⟩
                  case measure => simp [intOf]; omega
                · have hne : ((x : Int) == (m : Int)) = false := by simp; omega
                  have hne2 : ¬ (x : Int) = (m : Int) := by omega
                  rw [if_neg hxm] at ha
                  go_wp2_with (first
                    | (go_at_call 15; (with_reducible refine ha.mono ?_); rintro e w7 ⟨rfl, rfl⟩)
                    | (go_at_call 15; (with_reducible refine hb.mono ?_); rintro e w8 ⟨rfl, rfl⟩))
                  go_roundw
                  case rel => exact ⟨x + 1, by go_num, by omega, by first | rfl | trivial⟩
                  case measure => simp [intOf]; omega
              · have hxi : ¬ (x : Int) < 40 := by omega
                go_wp2_with fail
                go_ret
                exact ⟨rfl, hgw6⟩
theorem back_law (a : Option Addr) (n c : Nat) (key : Int) (s : ByteArray) (hs : s.size ≤ maxLen) (w : World) (hacts : IsStructs w a n 4 actU) (hlaid : laidMetH Tryd.prog Rows.udkBackRow.laid w) (hsh : w.ShapedOpen Tryd.prog) :
    Calls Tryd.prog 5 #[.slice a n c, .int .i64 key, .string s] w fun e w' => e = .returned (.bool true) ∧ Gr w w' := by
  rw [bsl_of s]
  refine back_walk a n c key s.data.toList w hacts (MaxOk.of hsh) ?_
  have : s.data.toList.length = s.size := by rw [Array.length_toList]; rfl
  rw [this]; unfold maxLen at hs; exact hs
end Go.Proofs.YtdfohcnejdhkiaaDoor
