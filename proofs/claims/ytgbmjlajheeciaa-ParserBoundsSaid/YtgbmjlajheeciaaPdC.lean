/-
  What the parser's laws call besides: Idle, Split, short; a slice that came in, cut and appended.
-/
import Derived.Test.YtgbmjlajheeciaaPdB
namespace Go.Proofs.Ytgbmjlajheeciaa
set_option linter.unusedSimpArgs false
set_option linter.unusedVariables false
open Go.RowKit

/-! ### The tokens' numbers are few -/
theorem emit_params {s : PS} (h : s.done.length ≤ 30) : ∀ t ∈ emit s, t.params.length ≤ 30 := by
  intro t ht
  unfold emit at ht
  split at ht
  · simp at ht
  · simp at ht; subst ht
    show (accList s).length ≤ 30
    unfold accList
    split
    · rename_i hx; simp; omega
    · exact h
theorem takeM1_params {s : PS} (h : s.done.length ≤ 30) (c : Int) : ∀ t ∈ (takeM1 s c).2, t.params.length ≤ 30 := by
  intro t ht
  have he : ∀ d, t ∈ (escapedM s d).2 → t.params.length ≤ 30 := by
    intro d hd
    simp only [escapedM] at hd
    repeat' split at hd
    all_goals first | (simp at hd; done) | exact emit_params (by simpa using h) _ hd
  have hh : ∀ d, t ∈ (headerM s d).2 → t.params.length ≤ 30 := by
    intro d hd
    simp only [headerM] at hd
    repeat' split at hd
    all_goals first | (simp at hd; done) | exact emit_params (by simpa using h) _ hd
  have hs : t ∈ (stepM s c).2 → t.params.length ≤ 30 := by
    intro hd
    simp only [stepM] at hd
    repeat' split at hd
    all_goals first | (simp at hd; done) | exact he _ hd | exact hh _ hd | (simp [printT] at hd; subst hd; simp)
  simp only [takeM1] at ht
  repeat' split at ht
  all_goals first | (simp at ht; done) | exact hs ht | exact emit_params h _ ht | (simp [ctrlT] at ht; subst ht; simp)
theorem takeM_params {s : PS} (h : s.done.length ≤ 30) (c : Int) : ∀ t ∈ (takeM s c).2, t.params.length ≤ 30 := by
  intro t ht
  simp only [takeM] at ht
  repeat' split at ht
  all_goals first | exact emit_params h _ ht | exact takeM1_params (by simp [PS.begin_]) _ _ ht | exact takeM1_params h _ _ ht
theorem runM_params (l : List Int) : ∀ s : PS, s.ok → (∀ c ∈ l, 0 ≤ c ∧ c < 256) → ∀ t ∈ (runM s l).2, t.params.length ≤ 30 := by
  induction l with
  | nil => intro s _ _ t ht; simp [runM] at ht
  | cons c l ih =>
    intro s hs hl t ht
    simp only [runM, List.mem_append] at ht
    rcases ht with ht | ht
    · exact takeM_params hs.done _ _ ht
    · exact ih _ (ok_take hs c (hl c (by simp))) (fun x hx => hl x (by simp [hx])) _ ht
theorem feedM_params {s : PS} (h : s.ok) (l : List Int) (hl : ∀ c ∈ l, 0 ≤ c ∧ c < 256) : ∀ t ∈ (feedM s l).2, t.params.length ≤ 30 := runM_params _ _ h (plainL_range l hl)
theorem init_ok : PS.init.ok := ⟨by decide, by decide, by decide, by decide, by decide, by decide, by decide, by decide⟩

/-! ### Blocks of a call's own -/
def OwnL (B : Nat) (lv : List Nat) : Prop := ∀ k ∈ lv, B ≤ k
theorem Stp.own {w0 w w' : World} {lv lv' : List Nat} (h : Stp lv w lv' w') (hg : Gr w0 w) (ho : OwnL w0.heap.size lv) : Gr w0 w' ∧ OwnL w0.heap.size lv' := by
  refine ⟨⟨h.upd.os.trans hg.os, h.upd.tape.trans hg.tape, h.upd.output.trans hg.output, Nat.le_trans hg.size h.upd.size, fun k hk => ?_⟩, fun k hk => ?_⟩
  · rw [h.upd.block k (Nat.lt_of_lt_of_le hk hg.size) (fun hm => by have := ho k hm; omega)]
    exact hg.block k hk
  · rcases h.new k hk with h1 | h1
    · exact ho k h1
    · exact Nat.le_trans hg.size h1
theorem Rd.cell_ {w : World} {a : Option Addr} {n : Nat} {xs : List Value} (h : Rd w a n xs) (j : Nat) (u : Value) (hj : xs[j]? = some u) (x : Addr) (hx : a = some x) : w.cell? (x.add j) = some u := by
  have hjl := (List.getElem?_eq_some_iff.1 hj).1
  rcases h.2 with h0 | ⟨b, off, rfl, hc⟩
  · have := h.1; omega
  · injection hx with hx; subst hx
    have e : (⟨b, off, none⟩ : Addr).add j = ⟨b, off + j, none⟩ := by rcases j with _ | j <;> simp [Addr.add]
    rw [e]; exact hc j u hj
/-- A slice that is cut. -/
theorem Rd.cut {w : World} {a : Option Addr} {n : Nat} {xs : List Value} (h : Rd w a n xs) {lo hi : Nat} (h1 : lo ≤ hi) (h2 : hi ≤ n) (b : Bool) (hb : b = true → hi - lo = 0) : Rd w (if b = true then a else a.map (·.add lo)) (hi - lo) ((xs.drop lo).take (hi - lo)) := by
  refine ⟨by simp [h.1]; omega, ?_⟩
  rcases Nat.eq_zero_or_pos (hi - lo) with h0 | h0
  · exact .inl h0
  · refine .inr ?_
    have hbf : ¬ b = true := fun e => by have := hb e; omega
    rw [if_neg hbf]
    rcases h.2 with hn | ⟨g, off, rfl, hc⟩
    · omega
    · refine ⟨g, off + lo, by simp only [Option.map_some]; rcases lo with _ | j <;> simp [Addr.add], fun i u hi' => ?_⟩
      rw [List.getElem?_take] at hi'
      split at hi'
      · rw [List.getElem?_drop] at hi'
        rw [Nat.add_assoc]
        exact hc _ u hi'
      · cases hi'
/-- What was there is in no new block. -/
theorem Rd.out {w : World} {a : Option Addr} {n : Nat} {xs : List Value} (h : Rd w a n xs) (h0 : 0 < n) {k : Nat} (hk : w.heap.size ≤ k) : Out [k] a := by
  obtain ⟨b, off, u, rfl, _, _, hb⟩ := h.at_ h0
  intro x hx hm
  injection hx with hx
  subst hx
  simp at hm; omega
theorem Rd.outL {w0 : World} {lv : List Nat} {a : Option Addr} {n : Nat} {xs : List Value} (h : Rd w0 a n xs) (h0 : 0 < n) (hl : OwnL w0.heap.size lv) : Out lv a := by
  obtain ⟨b, off, u, rfl, _, _, hb⟩ := h.at_ h0
  intro x hx hm
  injection hx with hx
  subst hx
  have := hl _ hm
  simp at this; omega
/-- A slice from a place on, and up to one. -/
theorem cut_from {P : Program} {t : TypeId} (ht : P.underlying t = some (.slice (P.elem t))) (hs : ∀ w : World, (sizeOf (P.elem t)).run P w = .ok 1 w) (a : Option Addr) (n cap k : Nat) (hk : k ≤ n) (hn : n ≤ cap) :
    ∃ a', (∀ w, (Instr.slice t (.slice a n cap) (some (.int .i64 k)) none none).run P w = .ok (.slice a' (n - k) (cap - k)) w) ∧ ∀ w xs, Rd w a n xs → Rd w a' (n - k) (xs.drop k) := by
  refine ⟨if cap = k then a else a.map (·.add k), fun w => ?_, fun w xs h => ?_⟩
  · rw [run_slice_l w t a n cap ht .i64 k (by omega) (by omega), hs]
    simp [Result.andThen, sliced]
  · have := h.cut (lo := k) (hi := n) hk (Nat.le_refl _) (decide (cap = k)) (fun e => by have := of_decide_eq_true e; omega)
    simp only [decide_eq_true_eq] at this
    rwa [List.take_of_length_le (by simp [h.1])] at this
theorem cut_to {P : Program} {t : TypeId} (ht : P.underlying t = some (.slice (P.elem t))) (hs : ∀ w : World, (sizeOf (P.elem t)).run P w = .ok 1 w) (a : Option Addr) (n cap k : Nat) (hk : k ≤ n) (hn : n ≤ cap) :
    ∃ a', (∀ w, (Instr.slice t (.slice a n cap) none (some (.int .i64 k)) none).run P w = .ok (.slice a' k cap) w) ∧ ∀ w xs, Rd w a n xs → Rd w a' k (xs.take k) := by
  refine ⟨if cap = 0 then a else a.map (·.add 0), fun w => ?_, fun w xs h => ?_⟩
  · rw [run_slice_h w t a n cap ht .i64 k (by omega) (by omega), hs]
    simp [Result.andThen, sliced]
  · have := h.cut (lo := 0) (hi := k) (by omega) hk (decide (cap = 0)) (fun e => by have := of_decide_eq_true e; omega)
    simpa using this
theorem cut_mid {P : Program} {t : TypeId} (ht : P.underlying t = some (.slice (P.elem t))) (hs : ∀ w : World, (sizeOf (P.elem t)).run P w = .ok 1 w) (a : Option Addr) (n cap lo hi : Nat) (hl : lo ≤ hi) (hk : hi ≤ n) (hn : n ≤ cap) :
    ∃ a', (∀ w, (Instr.slice t (.slice a n cap) (some (.int .i64 lo)) (some (.int .i64 hi)) none).run P w = .ok (.slice a' (hi - lo) (cap - lo)) w) ∧ ∀ w xs, Rd w a n xs → Rd w a' (hi - lo) ((xs.drop lo).take (hi - lo)) := by
  refine ⟨if cap = lo then a else a.map (·.add lo), fun w => ?_, fun w xs h => ?_⟩
  · rw [run_slice_lh w t a n cap ht .i64 .i64 lo hi (by omega) (by omega) (by omega), hs]
    simp [Result.andThen, sliced]
  · have := h.cut hl hk (decide (cap = lo)) (fun e => by have := of_decide_eq_true e; omega)
    simpa using this
theorem bytes_elem : Try.prog.underlying 22 = some (.slice (Try.prog.elem 22)) := by kernel_rfl
theorem bytes_size (w : World) : (sizeOf (Try.prog.elem 22)).run Try.prog w = .ok 1 w := by kernel_rfl
theorem bcells_cut (l : List Int) (lo n : Nat) : ((bcells l).drop lo).take n = bcells ((l.drop lo).take n) := by simp [bcells, List.map_take, List.map_drop]
theorem IsRow.rd {w : World} {a : Option Addr} {len cap : Nat} {zs : List Int} (h : IsRow .u8 w a len cap zs) {n : Nat} (hn : n ≤ len) : Rd w a n (bcells (zs.take n)) ∧ (zs.take n).length = n ∧ (∀ c ∈ zs.take n, 0 ≤ c ∧ c < 256) ∧ len ≤ cap ∧ cap ≤ maxLen ∧ (0 < n → ∃ b off, a = some ⟨b, off, none⟩) := by
  rcases Nat.eq_zero_or_pos cap with h0 | h0
  · have : len = 0 ∧ len ≤ cap := by
      rcases h with ⟨_, h1, h2, _⟩ | ⟨_, _, h1, _⟩ <;> omega
    have hn0 : n = 0 := by omega
    subst hn0
    exact ⟨⟨by simp [bcells], .inl rfl⟩, by simp, by simp, this.2, by unfold maxLen; omega, by omega⟩
  · obtain ⟨b, off, ha, h1, h2, h3, h4, hc, hw⟩ := h.plain h0
    refine ⟨⟨by simp [bcells]; omega, .inr ⟨b, off, ha, fun i u hi => ?_⟩⟩, by simp; omega, fun c hc' => ?_, h1, h2, fun _ => ⟨b, off, ha⟩⟩
    · simp only [bcells, List.getElem?_map] at hi
      rcases hx : (zs.take n)[i]? with _ | x
      · rw [hx] at hi; cases hi
      · rw [hx] at hi
        simp only [Option.map_some, Option.some.injEq] at hi
        subst hi
        rw [List.getElem?_take] at hx
        split at hx
        · have := hc i (by omega)
          rw [this]
          simp [List.getD, hx]
        · cases hx
    · have := hw c (List.mem_of_mem_take hc')
      have h2 : IntKind.u8.min ≤ c ∧ c ≤ IntKind.u8.max := by simpa [Lit.wf] using this
      have e1 : IntKind.u8.min = 0 := rfl
      have e2 : IntKind.u8.max = 255 := rfl
      omega

/-- What came in is appended to a row of the call's own. -/
theorem run_appRd {P : Program} (w : World) (t ty e : TypeId) (i : TypeInfo) (z : Value) (size bytes base : Nat) (ht : P.underlying t = some (.slice e)) (hi : P.info? e = some i) (hz : i.zero = some z) (hsize : i.size = size) (hby : i.bytes = bytes) (hzs : z.cells.size = size) (hsz : 0 < size)
    (v : Value) (n : Nat) (xs : List Value) (hown : w.ownsRow base e size v n xs) (A : Option Addr) (m c : Nat) (ys : List Value) (hl : ys.length = m * size) (hr : Rd w A (m * size) ys) (h1 : ∀ u ∈ ys, u.oneCell' = true) (h63 : n + m ≤ maxLen) (hbytes : (n + m) * bytes ≤ 140737488355328) (hbase : base ≤ w.heap.size) :
    ∃ V w', (Builtin.append_ #[t, t] ty #[v, .slice A m c]).run P w = .ok V w' ∧ w'.ownsRow base e size V (n + m) (xs ++ ys) ∧ w.grownBy w' v.ownBlock ∧ (V.ownBlock = v.ownBlock ∨ V.ownBlock = some w.heap.size) := by
  rcases A with _ | x
  · have hm : m = 0 := by
      rcases hr.2 with h0 | ⟨b, off, h, _⟩
      · rcases Nat.mul_eq_zero.1 h0 with h | h
        · exact h
        · omega
      · cases h
    subst hm
    have hys : ys = [] := List.eq_nil_of_length_eq_zero (by simpa using hl)
    subst hys
    refine ⟨v, w, ?_, by simpa using hown, World.grownBy.refl w _, .inl rfl⟩
    rcases hown.2 with ⟨rfl, rfl⟩ | ⟨g, cap, cur, rfl, _, _, hnc, _⟩
    · simp [Builtin.append_, run_underlying ht, sizeOf, typeInfo, hi, Builtin.lenOf, Builtin.firstCells]
    · simp [Builtin.append_, run_underlying ht, sizeOf, typeInfo, hi, Builtin.lenOf, Builtin.firstCells, hnc, storeCells]
  · obtain ⟨V, w', hrun, h2, h3, _, h5⟩ := run_append_own_at (P := P) w base t ty e i z size bytes ht hi hz hsize hby hzs hsz v n xs hown x m c ys hl (fun j u hj => hr.cell_ j u hj x rfl) h1 h63 hbytes hbase
    exact ⟨V, w', hrun, h2, h3, h5⟩
theorem wpList_appRd {P : Program} {ops : Array Oper} {rest : List Oper} {o : Oper} {a : Act} {w : World} {Q : Exit → Act → World → Prop} (hgd : o.guard = none) (s x : Operand) (t : TypeId) (ho : o.op = .call { callee := .builtin .append, args := #[s, x], argTypes := #[t, t] })
    (e : TypeId) (z : Value) (bytes base : Nat) (ht : P.underlying t = some (.slice e)) (hinfo : (P.info? e).map (fun i => (i.zero, i.size, i.bytes)) = some (some z, 1, bytes)) (hzs : z.cells.size = 1) (hby : bytes ≤ 1000)
    (v : Value) (n m c : Nat) (A : Option Addr) (xs ys : List Value) (hs : a.eval s = v) (hx : a.eval x = .slice A m c) (hown : w.ownsRow base e 1 v n xs) (hr : Rd w A m ys) (h1 : ∀ u ∈ ys, u.oneCell' = true) (hnm : n + m ≤ 10000000) (hbase : base ≤ w.heap.size)
    (h : ∀ V w', w'.ownsRow base e 1 V (n + m) (xs ++ ys) → w.grownBy w' v.ownBlock → (V.ownBlock = v.ownBlock ∨ V.ownBlock = some w.heap.size) → wpList P ops Q rest (a.put o.dst V) w') : wpList P ops Q (o :: rest) a w :=
  wpList_plain hgd fun _ hK => by
    obtain ⟨i0, hi0, hz0, hz1, hz2⟩ := info_parts hinfo
    obtain ⟨V, w', hrun, h2, h3, h4⟩ := run_appRd (P := P) w t o.type e i0 z 1 bytes base ht hi0 hz0 hz1 hz2 hzs (by omega) v n xs hown A m c ys (by simpa using hr.1) (by simpa using hr) h1 (by simp only [maxLen]; omega) (by have : (n + m) * bytes ≤ (n + m) * 1000 := Nat.mul_le_mul_left _ hby; omega) hbase
    unfold Oper.wp execOp
    simp only [ho, resolve, invoke, builtin, Sem.run_bind, Sem.run_pure, Result.andThen_ok, List.map_toArray, List.map_cons, List.map_nil, hs, hx, hrun]
    exact hK _ _ (h V w' h2 h3 h4)
/-- What came in is copied into a row of its own. -/
theorem wpList_copyRd {P : Program} {ops : Array Oper} {rest : List Oper} {o : Oper} {a : Act} {w : World} {Q : Exit → Act → World → Prop} (hgd : o.guard = none) (s x : Operand) (t : TypeId) (ho : o.op = .call { callee := .builtin .append, args := #[s, x], argTypes := #[t, t] })
    (e : TypeId) (z : Value) (bytes : Nat) (ht : P.underlying t = some (.slice e)) (hinfo : (P.info? e).map (fun i => (i.zero, i.size, i.bytes)) = some (some z, 1, bytes)) (hzs : z.cells.size = 1) (hby : bytes ≤ 1000)
    (m c : Nat) (A : Option Addr) (ys : List Value) (hs : a.eval s = .slice (some ⟨w.heap.size, 0, none⟩) 0 0) (hx : a.eval x = .slice A m c) (hr : Rd w A m ys) (h1 : ∀ u ∈ ys, u.oneCell' = true) (hnm : m ≤ 10000000)
    (h : ∀ va vc w', w'.ownsRow w.heap.size e 1 (.slice va m vc) m ys → Gr w w' → wpList P ops Q rest (a.put o.dst (.slice va m vc)) w') : wpList P ops Q (o :: rest) a (w.alloc (.cells #[] e)) := by
  refine wpList_appRd hgd s x t ho e z bytes w.heap.size ht hinfo hzs hby _ 0 m c A [] ys hs hx (World.ownsRow_made w #[] 0 (Nat.le_refl _) (Nat.zero_le _) rfl) (hr.upd (Upd.of_gr (lv := []) ((Gr.refl w).alloc _)) (by simp [Out])) h1 (by omega) (by simp) ?_
  intro V w2 hown hgrow _
  rw [Nat.zero_add, List.nil_append] at hown
  obtain ⟨va, vc, rfl⟩ := row_form hown
  exact h va vc w2 hown (Below.grown ((Gr.refl w).alloc _) hgrow (by simp) (by intro k hk; simp [Value.ownBlock] at hk; omega))
theorem bcells_one (l : List Int) : ∀ u ∈ bcells l, u.oneCell' = true := by
  intro u hu
  simp only [bcells, List.mem_map] at hu
  obtain ⟨c, _, rfl⟩ := hu
  rfl
theorem rd_of_block {w : World} {g : Nat} {cs : List Value} {t : TypeId} {fr : Nat × Nat} (h : w.heap[g]? = some (.cells cs.toArray t fr)) : Rd w (some ⟨g, 0, none⟩) cs.length cs :=
  ⟨rfl, .inr ⟨g, 0, rfl, fun i u hi => by rw [Nat.zero_add]; exact cell_of_row h i u (by simpa using hi)⟩⟩
theorem HasRow.rd_ {w : World} {e n : Nat} {a : Option Addr} {c : Nat} {xs : List Value} (h : HasRow w e (.slice a n c) n xs) : Rd w a n xs := by
  refine ⟨h.1, ?_⟩
  rcases h.2 with ⟨_, h0⟩ | ⟨g, cap, cur, hv, _⟩
  · exact .inl h0
  · injection hv with ha
    exact .inr ⟨g, 0, ha, fun i u hi => by rw [Nat.zero_add]; exact h.cells (g := g) (by rw [ha]; rfl) i u hi⟩

theorem PP.gr {lv : List Nat} {w w' : World} {p : Nat} {s : PS} (h : PP lv w p s) (hg : Gr w w') : PP lv w' p s := by
  obtain ⟨iv, dv, av, h⟩ := h
  exact ⟨iv, dv, av, h.keep (Upd.of_gr (lv := []) hg) ((hg.block p (blk_lt h.blk)).trans h.blk) rfl rfl rfl (by simp) (by simp) (by simp)⟩
theorem own_lt {w : World} {B e size n : Nat} {a : Option Addr} {c : Nat} {xs : List Value} (h : w.ownsRow B e size (.slice a n c) n xs) : ∀ x, a = some x → x.block < w.heap.size := by
  rintro x rfl
  rcases h.2 with ⟨hv, _⟩ | ⟨g, cap, cur, hv, _, hh, _⟩
  · cases hv
  · injection hv with hv; injection hv with hv; subst hv; exact blk_lt hh
theorem own_out {w : World} {B e size n : Nat} {a : Option Addr} {c : Nat} {xs : List Value} (h : w.ownsRow B e size (.slice a n c) n xs) {k : Nat} (hk : w.heap.size ≤ k) : Out [k] a := by
  intro x hx hm
  have := own_lt h x hx
  simp at hm; omega
/-! ### The calls -/
theorem PP.new (w : World) : PP [w.heap.size] (w.alloc (.cells (pcells PS.init (.slice none 0 0) (.slice none 0 0) (.slice none 0 0)) 35)) w.heap.size PS.init :=
  ⟨_, _, _, heap_alloc_new w _, World.ownsRow_nil _ _ _ _, World.ownsRow_nil _ _ _ _, World.ownsRow_nil _ _ _ _, by simp, by simp [Value.ownBlock], by simp [Value.ownBlock], by simp [Value.ownBlock], by simp [Value.ownBlock], Nat.zero_le _⟩
set_option maxHeartbeats 400000 in
theorem idle_walk {lv : List Nat} {w : World} {p : Nat} {s : PS} (h : PP lv w p s) : Calls Try.prog 15 #[.pointer (some ⟨p, 0, none⟩)] w fun e w' => e = .returned (.bool (decide (s.phase = 0))) ∧ w = w' := by
  obtain ⟨iv, dv, av, h⟩ := h
  obtain ⟨k0, _⟩ := cells13 h.blk
  go_enter Try.func15, Try.ntmps15
  go_wp2
  go_ret
  exact ⟨by first | rfl | (congr 2; rw [Bool.eq_iff_iff]; simp), rfl⟩
set_option maxHeartbeats 400000 in
theorem short_walk (a : Option Addr) (len cap k : Nat) (w : World) (hk : k ≤ 100000) (hlc : len ≤ cap) : Calls Try.prog 11 #[.slice a len cap, .int .i64 k] w fun e w' => e = .returned (.slice a (min len k) cap) ∧ w = w' := by
  by_cases h : k < len
  · have hm : min len k = k := by omega
    rw [hm]
    clear hm
    go_enter Try.func11, Try.ntmps11
    go_wp2
    go_ret
    exact ⟨rfl, rfl⟩
  · have hm : min len k = len := by omega
    rw [hm]
    clear hm
    go_enter Try.func11, Try.ntmps11
    go_wp2
    go_ret
    exact ⟨rfl, rfl⟩
/-- What a call that hands out tokens leaves. -/
def ToksTo (w : World) (ts : List Tok) (e : Ending) (w' : World) : Prop := ∃ ov qs, e = .returned ov ∧ AT 31 w' ts ov qs ∧ Gr w w'
set_option maxHeartbeats 1000000 in
theorem psplit_walk {w : World} {a : Option Addr} {n cap : Nat} {l : List Int} (hl : ∀ c ∈ l, 0 ≤ c ∧ c < 256) (hn : n ≤ 40000) (hr : Rd w a n (bcells l)) : Calls Try.prog 16 #[.slice a n cap] w (ToksTo w (feedM PS.init l).2) := by
  have hP := PP.new w
  have hg := (Gr.refl w).alloc (.cells (pcells PS.init (.slice none 0 0) (.slice none 0 0) (.slice none 0 0)) 35)
  have hf := feed_walk (cap := cap) hl hn (hr.gr hg) (fun h0 => hr.out h0 (Nat.le_refl _)) init_ok hP
  go_enter Try.func16, Try.ntmps16
  go_wp2_with (go_at_call 13; refine hf.mono ?_; rintro e w1 ⟨ov, qs, lv', rfl, hs1, hP1, hT1⟩; obtain ⟨va, vc, rfl⟩ := row_form hT1.row)
  go_ret
  exact ⟨_, qs, rfl, hT1.at_, (hs1.own hg (fun k hk => by simp at hk; omega)).1⟩
end Go.Proofs.Ytgbmjlajheeciaa
