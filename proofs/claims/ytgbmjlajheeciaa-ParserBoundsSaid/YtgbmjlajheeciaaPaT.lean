/-
  What appending leaves of a parser and its tokens.
  The parser's small methods, walked.
  The parser's method inter, walked.
  The parser's method text, walked.
  The accumulator's method Byte, walked.
  What a new token leaves of a parser and its tokens.
  The parser's method plain, walked.
-/
import Derived.Test.YtgbmjlajheeciaaPaS
import Derived.Deep.RegionLaw
namespace Go.Proofs.Ytgbmjlajheeciaa
set_option linter.unusedSimpArgs false
set_option linter.unusedVariables false
set_option linter.unusedSectionVars false
section
open Go.RowKit
variable [Bs]

variable {lv lv' K : List Nat} {w w1 w2 : World} {p o : Nat} {s s' : PS} {iv dv av ov : Value} {ts : List Tok} {qs : List (Value × Value)}

/-- Behind a growing and a store into the parser: the changed blocks. -/
theorem Grew.upd (h : Grew w w1 ov iv p) (_hp : ov.ownBlock ≠ some o) (_ho : o < w.heap.size) (i : Nat) (u : Value) (hm : ∀ k, ov.ownBlock = some k → k ∈ lv) (hol : o ∈ lv) :
    Stp lv w (p :: lv) (w1.setCell ⟨o, i, none⟩ u) ∧ Upd (o :: ov.ownBlock.toList) w (w1.setCell ⟨o, i, none⟩ u) := by
  have hu : Upd (o :: ov.ownBlock.toList) w (w1.setCell ⟨o, i, none⟩ u) := by
    refine ⟨?_, ?_, ?_, ?_, fun k hk hn => ?_⟩
    · rw [← h.grown.os]; simp [World.setCell]
    · rw [← h.grown.tape]; simp [World.setCell]
    · rw [← h.grown.output]; simp [World.setCell]
    · have := h.grown.size; simpa using this
    · simp at hn
      rw [Below.heap_setCell _ _ _ _ (fun e => hn.1 e)]
      exact h.grown.block k hk fun e => hn.2 e.symm
  refine ⟨⟨⟨hu.os, hu.tape, hu.output, hu.size, fun k hk hn => hu.block k hk ?_⟩, ?_⟩, hu⟩
  · simp
    exact ⟨fun e => hn (e ▸ hol), fun e => hn (hm k e)⟩
  · intro k hk
    rcases List.mem_cons.1 hk with rfl | hk
    · rcases h.at_ with e | e
      · exact .inl (hm _ e)
      · exact .inr (by omega)
    · exact .inl hk

/-- The other rows. -/
theorem Grew.far {V x : Value} {g B e size n : Nat} {xs : List Value} (h : Grew w w1 ov V g) (hx : w.ownsRow B e size x n xs) (h1 : ∀ k, x.ownBlock = some k → ov.ownBlock ≠ some k) {k : Nat} (hk : x.ownBlock = some k) : k ≠ g := by
  have := ownsRow_blk hx hk
  rcases h.at_ with q | q
  · rintro rfl; exact h1 _ hk q
  · omega

theorem St.pushI {V : Value} {g : Nat} {c : Int} (h : St lv w p s iv dv av o ts ov qs) (hg : Grew w w1 iv V g) (hV : w1.ownsRow Bs.b 5 1 V (s.inters.length + 1) (bcells (s.inters ++ [c]))) :
    St (g :: lv) (w1.setCell ⟨p, 7, none⟩ V) p { s with inters := s.inters ++ [c] } V dv av o ts ov qs ∧ Stp lv w (g :: lv) (w1.setCell ⟨p, 7, none⟩ V) := by
  obtain ⟨hs, hu⟩ := hg.upd h.ip (blk_lt h.pm.blk) 7 V h.pm.iIn h.pm.pIn
  have gp : g ≠ p := (hg.ne (blk_lt h.pm.blk) h.ip).symm
  have far : ∀ {x : Value} {e size n : Nat} {xs : List Value}, w.ownsRow Bs.b e size x n xs → x.ownBlock ≠ some p → (∀ k, x.ownBlock = some k → iv.ownBlock ≠ some k) → (w1.setCell ⟨p, 7, none⟩ V).ownsRow Bs.b e size x n xs := by
    intro x e size n xs hx hxp hxi
    exact ownsRow_same hx fun k hk => hu.block k (ownsRow_blk hx hk) (by simp; exact ⟨fun e => hxp (e ▸ hk), hxi k hk⟩)
  have hb := blk_set ((hg.new (blk_lt h.pm.blk) h.ip).trans h.pm.blk) 7 V
  refine ⟨⟨⟨hb, ?_, far h.pm.data h.dp fun k hk e => h.pm.apart k e hk, far h.pm.done h.ap fun k hk => row_type h.pm.done h.pm.inters (by decide) hk, by simp [h.pm.pIn], ?_, fun k hk => by simp [h.pm.dIn k hk], fun k hk => by simp [h.pm.aIn k hk], ?_, Nat.le_trans h.pm.bs hs.upd.size⟩, ?_⟩, hs⟩
  · have : (s.inters ++ [c]).length = s.inters.length + 1 := by simp
    rw [this]
    exact ownsRow_same hV fun k hk => by
      rw [hg.own] at hk; injection hk with hk; subst hk
      rw [Below.heap_setCell _ _ _ _ gp]
  · intro k hk; rw [hg.own] at hk; injection hk with hk; simp [hk]
  · intro k hk hk'
    rw [hg.own] at hk; injection hk with hk
    exact hg.far h.pm.data (fun k hk e => h.pm.apart k e hk) hk' hk.symm
  · refine h.om.upd hu ?_ ?_ ?_ ?_ (by simp [h.om.oIn]) fun k hk => by simp [h.om.rIn k hk]
    · simp; exact ⟨h.op, h.io⟩
    · intro k hk; simp; exact ⟨fun e => h.rp (e ▸ hk), row_type h.om.row h.pm.inters (by decide) hk⟩
    · intro k _ hk
      simp at hk
      rcases hk with rfl | hk
      · exact h.pm.pIn
      · exact h.pm.iIn k hk
    · intro k hk hl
      rcases List.mem_cons.1 hl with rfl | hl
      · rcases hg.at_ with e | e
        · exact h.pm.iIn _ e
        · omega
      · exact hl
theorem St.pushD {V : Value} {g : Nat} {c : Int} (h : St lv w p s iv dv av o ts ov qs) (hg : Grew w w1 dv V g) (hV : w1.ownsRow Bs.b 5 1 V (s.data.length + 1) (bcells (s.data ++ [c]))) :
    St (g :: lv) (w1.setCell ⟨p, 6, none⟩ V) p { s with data := s.data ++ [c] } iv V av o ts ov qs ∧ Stp lv w (g :: lv) (w1.setCell ⟨p, 6, none⟩ V) := by
  obtain ⟨hs, hu⟩ := hg.upd h.dp (blk_lt h.pm.blk) 6 V h.pm.dIn h.pm.pIn
  have gp : g ≠ p := (hg.ne (blk_lt h.pm.blk) h.dp).symm
  have far : ∀ {x : Value} {e size n : Nat} {xs : List Value}, w.ownsRow Bs.b e size x n xs → x.ownBlock ≠ some p → (∀ k, x.ownBlock = some k → dv.ownBlock ≠ some k) → (w1.setCell ⟨p, 6, none⟩ V).ownsRow Bs.b e size x n xs := by
    intro x e size n xs hx hxp hxi
    exact ownsRow_same hx fun k hk => hu.block k (ownsRow_blk hx hk) (by simp; exact ⟨fun e => hxp (e ▸ hk), hxi k hk⟩)
  have hb := blk_set ((hg.new (blk_lt h.pm.blk) h.dp).trans h.pm.blk) 6 V
  refine ⟨⟨⟨hb, far h.pm.inters h.ip fun k hk => h.pm.apart k hk, ?_, far h.pm.done h.ap fun k hk => row_type h.pm.done h.pm.data (by decide) hk, by simp [h.pm.pIn], fun k hk => by simp [h.pm.iIn k hk], ?_, fun k hk => by simp [h.pm.aIn k hk], ?_, Nat.le_trans h.pm.bs hs.upd.size⟩, ?_⟩, hs⟩
  · have : (s.data ++ [c]).length = s.data.length + 1 := by simp
    rw [this]
    exact ownsRow_same hV fun k hk => by
      rw [hg.own] at hk; injection hk with hk; subst hk
      rw [Below.heap_setCell _ _ _ _ gp]
  · intro k hk; rw [hg.own] at hk; injection hk with hk; simp [hk]
  · intro k hk hk'
    rw [hg.own] at hk'; injection hk' with hk'
    exact hg.far h.pm.inters (fun k hk => h.pm.apart k hk) hk hk'.symm
  · refine h.om.upd hu ?_ ?_ ?_ ?_ (by simp [h.om.oIn]) fun k hk => by simp [h.om.rIn k hk]
    · simp; exact ⟨h.op, h.do_⟩
    · intro k hk; simp; exact ⟨fun e => h.rp (e ▸ hk), row_type h.om.row h.pm.data (by decide) hk⟩
    · intro k _ hk
      simp at hk
      rcases hk with rfl | hk
      · exact h.pm.pIn
      · exact h.pm.dIn k hk
    · intro k hk hl
      rcases List.mem_cons.1 hl with rfl | hl
      · rcases hg.at_ with e | e
        · exact h.pm.dIn _ e
        · omega
      · exact hl
theorem St.pushA {V : Value} {g : Nat} {c : Int} (h : St lv w p s iv dv av o ts ov qs) (hg : Grew w w1 av V g) (hV : w1.ownsRow Bs.b 3 1 V (s.done.length + 1) (icells (s.done ++ [c]))) :
    St (g :: lv) (w1.setCell ⟨p, 8, none⟩ V) p { s with done := s.done ++ [c] } iv dv V o ts ov qs ∧ Stp lv w (g :: lv) (w1.setCell ⟨p, 8, none⟩ V) := by
  obtain ⟨hs, hu⟩ := hg.upd h.ap (blk_lt h.pm.blk) 8 V h.pm.aIn h.pm.pIn
  have gp : g ≠ p := (hg.ne (blk_lt h.pm.blk) h.ap).symm
  have far : ∀ {x : Value} {e size n : Nat} {xs : List Value}, w.ownsRow Bs.b e size x n xs → x.ownBlock ≠ some p → (∀ k, x.ownBlock = some k → av.ownBlock ≠ some k) → (w1.setCell ⟨p, 8, none⟩ V).ownsRow Bs.b e size x n xs := by
    intro x e size n xs hx hxp hxi
    exact ownsRow_same hx fun k hk => hu.block k (ownsRow_blk hx hk) (by simp; exact ⟨fun e => hxp (e ▸ hk), hxi k hk⟩)
  have hb := blk_set ((hg.new (blk_lt h.pm.blk) h.ap).trans h.pm.blk) 8 V
  refine ⟨⟨⟨hb, far h.pm.inters h.ip fun k hk => row_type h.pm.inters h.pm.done (by decide) hk, far h.pm.data h.dp fun k hk => row_type h.pm.data h.pm.done (by decide) hk, ?_, by simp [h.pm.pIn], fun k hk => by simp [h.pm.iIn k hk], fun k hk => by simp [h.pm.dIn k hk], ?_, h.pm.apart, Nat.le_trans h.pm.bs hs.upd.size⟩, ?_⟩, hs⟩
  · have : (s.done ++ [c]).length = s.done.length + 1 := by simp
    rw [this]
    exact ownsRow_same hV fun k hk => by
      rw [hg.own] at hk; injection hk with hk; subst hk
      rw [Below.heap_setCell _ _ _ _ gp]
  · intro k hk; rw [hg.own] at hk; injection hk with hk; simp [hk]
  · refine h.om.upd hu ?_ ?_ ?_ ?_ (by simp [h.om.oIn]) fun k hk => by simp [h.om.rIn k hk]
    · simp; exact ⟨h.op, h.ao⟩
    · intro k hk; simp; exact ⟨fun e => h.rp (e ▸ hk), row_type h.om.row h.pm.done (by decide) hk⟩
    · intro k _ hk
      simp at hk
      rcases hk with rfl | hk
      · exact h.pm.pIn
      · exact h.pm.aIn k hk
    · intro k hk hl
      rcases List.mem_cons.1 hl with rfl | hl
      · rcases hg.at_ with e | e
        · exact h.pm.aIn _ e
        · omega
      · exact hl
end
section
open Go.RowKit
variable [Bs]

variable {lv : List Nat} {w : World} {p o : Nat} {s : PS} {ts : List Tok}

set_option maxRecDepth 100000 in
set_option maxHeartbeats 400000 in
theorem reset_walk (p : Nat) (cs : Array Value) (hcs : cs.size = 13) (w : World) (h : w.heap[p]? = some (.cells cs 35 (0, 0))) :
    Calls Try.prog 20 #[.pointer (some ⟨p, 0, none⟩)] w fun e w' => e = .returned (.tuple #[]) ∧
      (w'.heap[p]? = some (.cells (pcells PS.init (.slice none 0 0) (.slice none 0 0) (.slice none 0 0)) 35 (0, 0)) ∧ Upd [p] w w' ∧ w'.heap.size = w.heap.size) := by
  go_enter Try.func20, Try.ntmps20
  go_wp2_with (first
    | (refine wpList_store_only rfl 35 _ _ rfl p (pcells PS.init (.slice none 0 0) (.slice none 0 0) (.slice none 0 0)) rfl rfl 35 cs h (by kernel_rfl) hcs (by kernel_rfl) ?_; intro w1 hh hb hs))
  go_end0
  exact ⟨rfl, hh, hb, hs⟩

theorem reset_SS (h : SS lv w p s o ts) : Calls Try.prog 20 #[.pointer (some ⟨p, 0, none⟩)] w fun e w' => e = .returned (.tuple #[]) ∧ Stp lv w lv w' ∧ SS lv w' p PS.init o ts := by
  obtain ⟨iv, dv, av, ov, qs, h⟩ := h
  refine (reset_walk p _ rfl w h.pm.blk).mono ?_
  rintro e w' ⟨rfl, hh, hu, _⟩
  exact ⟨rfl, .one h.pm.pIn hu, _, _, _, _, _, h.fresh hu hh rfl rfl rfl⟩

def bcell (at_ kind : Int) : Array Value := pcells (PS.begin_ at_ kind) (.slice none 0 0) (.slice none 0 0) (.slice none 0 0)
set_option maxRecDepth 100000 in
set_option maxHeartbeats 400000 in
theorem begin_walk (p : Nat) (at_ kind : Int) (cs : Array Value) (hcs : cs.size = 13) (w : World) (h : w.heap[p]? = some (.cells cs 35 (0, 0))) :
    Calls Try.prog 59 #[.pointer (some ⟨p, 0, none⟩), .int .i64 at_, .int .i64 kind] w fun e w' => e = .returned (.tuple #[]) ∧
      (w'.heap[p]? = some (.cells (bcell at_ kind) 35 (0, 0)) ∧ Upd [p] w w' ∧ w'.heap.size = w.heap.size) := by
  go_enter Try.func59, Try.ntmps59
  go_wp2_with (first
    | (refine wpList_store_only rfl 35 _ _ rfl p (bcell at_ kind) rfl rfl 35 cs h (by kernel_rfl) hcs (by kernel_rfl) ?_; intro w1 hh hb hs))
  go_end0
  exact ⟨rfl, hh, hb, hs⟩
theorem begin_SS (at_ kind : Int) (h : SS lv w p s o ts) : Calls Try.prog 59 #[.pointer (some ⟨p, 0, none⟩), .int .i64 at_, .int .i64 kind] w fun e w' => e = .returned (.tuple #[]) ∧ Stp lv w lv w' ∧ SS lv w' p (PS.begin_ at_ kind) o ts := by
  obtain ⟨iv, dv, av, ov, qs, h⟩ := h
  refine (begin_walk p at_ kind _ rfl w h.pm.blk).mono ?_
  rintro e w' ⟨rfl, hh, hu, _⟩
  exact ⟨rfl, .one h.pm.pIn hu, _, _, _, _, _, h.fresh hu hh rfl rfl rfl⟩
end
section
open Go.RowKit
variable [Bs]

variable {lv : List Nat} {w : World} {p o : Nat} {s : PS} {ts : List Tok}

theorem u8_info : (Try.prog.info? 5).map (fun i => (i.zero, i.size, i.bytes)) = some (some (.int .u8 0), 1, 1) := by kernel_rfl

theorem St.set {iv dv av ov : Value} {qs : List (Value × Value)} {s' : PS} (h : St lv w p s iv dv av o ts ov qs) (i : Nat) (u : Value) (hcs : (pcells s iv dv av).setIfInBounds i u = pcells s' iv dv av)
    (hi : s'.inters = s.inters) (hd : s'.data = s.data) (ha : s'.done = s.done) : St lv (w.setCell ⟨p, i, none⟩ u) p s' iv dv av o ts ov qs ∧ Upd [p] w (w.setCell ⟨p, i, none⟩ u) := by
  have hu : Upd [p] w (w.setCell ⟨p, i, none⟩ u) := by
    refine ⟨by simp [World.setCell], by simp [World.setCell], by simp [World.setCell], by simp, fun k _ hn => ?_⟩
    rw [Below.heap_setCell _ _ _ _ (by simpa using hn)]
  exact ⟨h.cells hu (by rw [blk_set h.pm.blk, hcs]) hi hd ha, hu⟩
theorem Upd.trans1 {a b c : World} {K : List Nat} (h : Upd K a b) (k : Upd K b c) : Upd K a c :=
  ⟨k.os.trans h.os, k.tape.trans h.tape, k.output.trans h.output, Nat.le_trans h.size k.size, fun i hi hn => (k.block i (Nat.lt_of_lt_of_le hi h.size) hn).trans (h.block i hi hn)⟩

theorem int_info : (Try.prog.info? 3).map (fun i => (i.zero, i.size, i.bytes)) = some (some (.int .i64 0), 1, 8) := by kernel_rfl

theorem wpList_pushI {iv dv av ov : Value} {qs : List (Value × Value)} {ops : Array Oper} {rest : List Oper} {u : Oper} {a : Act} {Q : Exit → Act → World → Prop} (hgd : u.guard = none) (x y : Operand) (t : TypeId)
    (hu : u.op = .call { callee := .builtin .append, args := #[x, y], argTypes := #[t, t] }) (ht : Try.prog.underlying t = some (.slice 5)) (h : St lv w p s iv dv av o ts ov qs) (c : Int) (b : Nat)
    (hx : a.eval x = iv) (hy : a.eval y = .slice (some ⟨b, 0, none⟩) 1 1) (hb : w.cell? ⟨b, 0, none⟩ = some (Value.int .u8 c)) (hn : s.inters.length ≤ 100000)
    (K : ∀ g cap w1, Grew w w1 iv (.slice (some ⟨g, 0, none⟩) (s.inters.length + 1) cap) g → w1.ownsRow Bs.b 5 1 (.slice (some ⟨g, 0, none⟩) (s.inters.length + 1) cap) (s.inters.length + 1) (bcells (s.inters ++ [c])) →
      w1.heap[p]? = some (.cells (pcells s iv dv av) 35 (0, 0)) → wpList Try.prog ops Q rest (a.put u.dst (.slice (some ⟨g, 0, none⟩) (s.inters.length + 1) cap)) w1) : wpList Try.prog ops Q (u :: rest) a w := by
  obtain ⟨i0, hi0, hz0, hz1, hz2⟩ := info_parts u8_info
  refine wpList_append_lies _ hgd x y t hu Bs.b 5 i0 _ 1 1 ht hi0 hz0 hz1 hz2 rfl (by omega) _ _ _ hx h.pm.inters ⟨b, 0, none⟩ 1 1 [Value.int .u8 c] hy rfl ?_ ?_ (by omega) ?_ ?_ h.pm.bs _ rfl ?_
  · intro j v hv
    have hj : j = 0 := by rcases j with _ | j <;> simp at hv <;> rfl
    subst hj
    simp at hv; subst hv
    simpa [Addr.add] using hb
  · intro v hv; simp at hv; subst hv; rfl
  · simp only [maxLen]; omega
  · omega
  · intro g cap w1 hown hgr hat hlt
    have hG : Grew w w1 iv (.slice (some ⟨g, 0, none⟩) (s.inters.length + 1) cap) g := ⟨hgr, hat, hlt, rfl⟩
    exact K g cap w1 hG (by simpa [bcells] using hown) ((hG.new (blk_lt h.pm.blk) h.ip).trans h.pm.blk)

theorem wpList_pushD {iv dv av ov : Value} {qs : List (Value × Value)} {ops : Array Oper} {rest : List Oper} {u : Oper} {a : Act} {Q : Exit → Act → World → Prop} (hgd : u.guard = none) (x y : Operand) (t : TypeId)
    (hu : u.op = .call { callee := .builtin .append, args := #[x, y], argTypes := #[t, t] }) (ht : Try.prog.underlying t = some (.slice 5)) (h : St lv w p s iv dv av o ts ov qs) (c : Int) (b : Nat)
    (hx : a.eval x = dv) (hy : a.eval y = .slice (some ⟨b, 0, none⟩) 1 1) (hb : w.cell? ⟨b, 0, none⟩ = some (Value.int .u8 c)) (hn : s.data.length ≤ 100000)
    (K : ∀ g cap w1, Grew w w1 dv (.slice (some ⟨g, 0, none⟩) (s.data.length + 1) cap) g → w1.ownsRow Bs.b 5 1 (.slice (some ⟨g, 0, none⟩) (s.data.length + 1) cap) (s.data.length + 1) (bcells (s.data ++ [c])) →
      w1.heap[p]? = some (.cells (pcells s iv dv av) 35 (0, 0)) → wpList Try.prog ops Q rest (a.put u.dst (.slice (some ⟨g, 0, none⟩) (s.data.length + 1) cap)) w1) : wpList Try.prog ops Q (u :: rest) a w := by
  obtain ⟨i0, hi0, hz0, hz1, hz2⟩ := info_parts u8_info
  refine wpList_append_lies _ hgd x y t hu Bs.b 5 i0 _ 1 1 ht hi0 hz0 hz1 hz2 rfl (by omega) _ _ _ hx h.pm.data ⟨b, 0, none⟩ 1 1 [Value.int .u8 c] hy rfl ?_ ?_ (by omega) ?_ ?_ h.pm.bs _ rfl ?_
  · intro j v hv
    have hj : j = 0 := by rcases j with _ | j <;> simp at hv <;> rfl
    subst hj
    simp at hv; subst hv
    simpa [Addr.add] using hb
  · intro v hv; simp at hv; subst hv; rfl
  · simp only [maxLen]; omega
  · omega
  · intro g cap w1 hown hgr hat hlt
    have hG : Grew w w1 dv (.slice (some ⟨g, 0, none⟩) (s.data.length + 1) cap) g := ⟨hgr, hat, hlt, rfl⟩
    exact K g cap w1 hG (by simpa [bcells] using hown) ((hG.new (blk_lt h.pm.blk) h.dp).trans h.pm.blk)

theorem wpList_pushA {iv dv av ov : Value} {qs : List (Value × Value)} {ops : Array Oper} {rest : List Oper} {u : Oper} {a : Act} {Q : Exit → Act → World → Prop} (hgd : u.guard = none) (x y : Operand) (t : TypeId)
    (hu : u.op = .call { callee := .builtin .append, args := #[x, y], argTypes := #[t, t] }) (ht : Try.prog.underlying t = some (.slice 3)) (h : St lv w p s iv dv av o ts ov qs) (c : Int) (b : Nat)
    (hx : a.eval x = av) (hy : a.eval y = .slice (some ⟨b, 0, none⟩) 1 1) (hb : w.cell? ⟨b, 0, none⟩ = some (Value.int .i64 c)) (hn : s.done.length ≤ 100000)
    (K : ∀ g cap w1, Grew w w1 av (.slice (some ⟨g, 0, none⟩) (s.done.length + 1) cap) g → w1.ownsRow Bs.b 3 1 (.slice (some ⟨g, 0, none⟩) (s.done.length + 1) cap) (s.done.length + 1) (icells (s.done ++ [c])) →
      w1.heap[p]? = some (.cells (pcells s iv dv av) 35 (0, 0)) → wpList Try.prog ops Q rest (a.put u.dst (.slice (some ⟨g, 0, none⟩) (s.done.length + 1) cap)) w1) : wpList Try.prog ops Q (u :: rest) a w := by
  obtain ⟨i0, hi0, hz0, hz1, hz2⟩ := info_parts int_info
  refine wpList_append_lies _ hgd x y t hu Bs.b 3 i0 _ 1 8 ht hi0 hz0 hz1 hz2 rfl (by omega) _ _ _ hx h.pm.done ⟨b, 0, none⟩ 1 1 [Value.int .i64 c] hy rfl ?_ ?_ (by omega) ?_ ?_ h.pm.bs _ rfl ?_
  · intro j v hv
    have hj : j = 0 := by rcases j with _ | j <;> simp at hv <;> rfl
    subst hj
    simp at hv; subst hv
    simpa [Addr.add] using hb
  · intro v hv; simp at hv; subst hv; rfl
  · simp only [maxLen]; omega
  · omega
  · intro g cap w1 hown hgr hat hlt
    have hG : Grew w w1 av (.slice (some ⟨g, 0, none⟩) (s.done.length + 1) cap) g := ⟨hgr, hat, hlt, rfl⟩
    exact K g cap w1 hG (by simpa [icells] using hown) ((hG.new (blk_lt h.pm.blk) h.ap).trans h.pm.blk)

set_option maxRecDepth 100000 in
set_option maxHeartbeats 1000000 in
theorem inter_SS (c : Int) (hok : s.ok) (h : SS lv w p s o ts) : Calls Try.prog 70 #[.pointer (some ⟨p, 0, none⟩), .int .u8 c] w fun e w' => e = .returned (.tuple #[]) ∧ ∃ lv', Stp lv w lv' w' ∧ SS lv' w' p (interM s c) o ts := by
  obtain ⟨iv, dv, av, ov, qs, h⟩ := h
  obtain ⟨k0, k1, k2, k3, k4, k5, k6, k7, k8, k9, k10, k11, k12, kf⟩ := cells13 h.pm.blk
  obtain ⟨ia, ic, rfl⟩ := row_form h.pm.inters
  obtain ⟨h2, hu2⟩ := h.set (s' := { s with first := false }) 11 (.bool false) rfl rfl rfl rfl
  obtain ⟨h3, hu3⟩ := h2.set (s' := { s with first := false, void := decide (3 ≤ (s.inters.length : Int)) }) 12 (.bool (decide (3 ≤ (s.inters.length : Int)))) rfl rfl rfl rfl
  have h4 := h3.gr ((Gr.refl _).alloc (.cells #[.int .u8 c] 5))
  have hb4 : ((w.setCell ⟨p, 11, none⟩ (.bool false)).setCell ⟨p, 12, none⟩ (.bool (decide (3 ≤ (s.inters.length : Int)))) |>.alloc (.cells #[.int .u8 c] 5)).cell? ⟨w.heap.size, 0, none⟩ = some (.int .u8 c) := by
    have e : ((w.setCell ⟨p, 11, none⟩ (.bool false)).setCell ⟨p, 12, none⟩ (.bool (decide (3 ≤ (s.inters.length : Int))))).heap.size = w.heap.size := by simp
    have := heap_alloc_new ((w.setCell ⟨p, 11, none⟩ (.bool false)).setCell ⟨p, 12, none⟩ (.bool (decide (3 ≤ (s.inters.length : Int))))) (.cells #[.int .u8 c] 5)
    rw [e] at this
    exact (cells1 this).1
  have hn4 : s.inters.length ≤ 100000 := by have := hok.inters; omega
  go_enter Try.func70, Try.ntmps70
  go_wp2_with (first
    | (refine wpList_pushI rfl _ _ _ rfl Try.underlying22 h4 c w.heap.size rfl rfl hb4 hn4 ?_
       intro g cap w1 hG hown hb1
       obtain ⟨r0, r1, r2, r3, r4, r5, r6, r7, r8, r9, r10, r11, r12, rf⟩ := cells13 hb1))
  all_goals go_end0
  · rename_i hv
    obtain ⟨h3, hu3⟩ := h2.set (s' := { s with first := false, void := true }) 12 (.bool true) rfl rfl rfl rfl
    have e : interM s c = { s with first := false, void := true } := by simp [interM, hv]
    rw [e]
    exact ⟨rfl, lv, .one h.pm.pIn (hu2.trans1 hu3), _, _, _, _, _, h3⟩
  · rename_i hv hl
    obtain ⟨h5, hs5⟩ := h4.pushI (c := c) hG hown
    have hl' : ¬ 3 ≤ s.inters.length := by simp at hl; omega
    have e : interM s c = { s with first := false, void := decide (3 ≤ (s.inters.length : Int)), inters := s.inters ++ [c] } := by simp [interM, hv, hl']; omega
    rw [e]
    exact ⟨rfl, _, ((Stp.one h.pm.pIn (hu2.trans1 hu3)).trans (.gr ((Gr.refl _).alloc _))).trans hs5, _, _, _, _, _, h5⟩
  · rename_i hv hl
    have hl' : 3 ≤ s.inters.length := by simp at hl; omega
    have e : interM s c = { s with first := false, void := decide (3 ≤ (s.inters.length : Int)) } := by simp [interM, hv, hl']; omega
    rw [e]
    exact ⟨rfl, lv, .one h.pm.pIn (hu2.trans1 hu3), _, _, _, _, _, h3⟩
end
section
open Go.RowKit
variable [Bs]

variable {lv : List Nat} {w : World} {p o : Nat} {s : PS} {ts : List Tok}

theorem St.dropD {iv dv av ov : Value} {qs : List (Value × Value)} (h : St lv w p s iv dv av o ts ov qs) :
    St lv (w.setCell ⟨p, 6, none⟩ (.slice none 0 0)) p { s with data := [] } iv (.slice none 0 0) av o ts ov qs ∧ Upd [p] w (w.setCell ⟨p, 6, none⟩ (.slice none 0 0)) := by
  have hu : Upd [p] w (w.setCell ⟨p, 6, none⟩ (.slice none 0 0)) := by
    refine ⟨by simp [World.setCell], by simp [World.setCell], by simp [World.setCell], by simp, fun k _ hn => ?_⟩
    rw [Below.heap_setCell _ _ _ _ (by simpa using hn)]
  refine ⟨⟨⟨blk_set h.pm.blk 6 _, ownsRow_same h.pm.inters fun k hk => hu.block k (ownsRow_blk h.pm.inters hk) ?_, World.ownsRow_nil _ _ _ _, ownsRow_same h.pm.done fun k hk => hu.block k (ownsRow_blk h.pm.done hk) ?_, h.pm.pIn, h.pm.iIn, by simp [Value.ownBlock], h.pm.aIn, by simp [Value.ownBlock], Nat.le_trans h.pm.bs hu.size⟩,
    h.om.upd hu (by simp; exact h.op) (fun k hk => by simp; rintro rfl; exact h.rp hk) (fun k _ hk => by simp at hk; subst hk; exact h.pm.pIn) (fun _ _ h => h) h.om.oIn h.om.rIn⟩, hu⟩
  · simp; rintro rfl; exact h.ip hk
  · simp; rintro rfl; exact h.ap hk

set_option maxRecDepth 100000 in
set_option maxHeartbeats 1000000 in
theorem text_SS (c : Int) (u : Value) (hok : s.ok) (h : SS lv w p s o ts) : Calls Try.prog 64 #[.pointer (some ⟨p, 0, none⟩), .int .u8 c, u] w fun e w' => e = .returned (.tuple #[]) ∧ ∃ lv', Stp lv w lv' w' ∧ SS lv' w' p (textM s c) o ts := by
  obtain ⟨iv, dv, av, ov, qs, h⟩ := h
  obtain ⟨k0, k1, k2, k3, k4, k5, k6, k7, k8, k9, k10, k11, k12, kf⟩ := cells13 h.pm.blk
  obtain ⟨ia, ic, rfl⟩ := row_form h.pm.data
  obtain ⟨h3, hu3⟩ := h.set (s' := { s with void := decide (4096 ≤ (s.data.length : Int)) }) 12 (.bool (decide (4096 ≤ (s.data.length : Int)))) rfl rfl rfl rfl
  have h4 := h3.gr ((Gr.refl _).alloc (.cells #[.int .u8 c] 5))
  have hb4 : (w.setCell ⟨p, 12, none⟩ (.bool (decide (4096 ≤ (s.data.length : Int)))) |>.alloc (.cells #[.int .u8 c] 5)).cell? ⟨w.heap.size, 0, none⟩ = some (.int .u8 c) := by
    have e : (w.setCell ⟨p, 12, none⟩ (.bool (decide (4096 ≤ (s.data.length : Int))))).heap.size = w.heap.size := by simp
    have := heap_alloc_new (w.setCell ⟨p, 12, none⟩ (.bool (decide (4096 ≤ (s.data.length : Int))))) (.cells #[.int .u8 c] 5)
    rw [e] at this
    exact (cells1 this).1
  have hn4 : s.data.length ≤ 100000 := by have := hok.data; omega
  go_enter Try.func64, Try.ntmps64
  go_wp2_with (first
    | (refine wpList_pushD rfl _ _ _ rfl Try.underlying22 h4 c w.heap.size rfl rfl hb4 hn4 ?_
       intro g cap w1 hG hown hb1
       obtain ⟨r0, r1, r2, r3, r4, r5, r6, r7, r8, r9, r10, r11, r12, rf⟩ := cells13 hb1))
  all_goals first | go_end0 | (refine bodyPost_ret (results_none rfl _ _ _) rfl ?_)
  · rename_i hv
    obtain ⟨h5, hu5⟩ := h.set (s' := { s with void := true }) 12 (.bool true) rfl rfl rfl rfl
    obtain ⟨h6, hu6⟩ := h5.dropD
    have e : textM s c = { s with void := true, data := [] } := by simp [textM, hv]
    rw [e]
    exact ⟨rfl, lv, .one h.pm.pIn (hu5.trans1 hu6), _, _, _, _, _, h6⟩
  · rename_i hv hl
    obtain ⟨h5, hu5⟩ := h.set (s' := { s with void := true }) 12 (.bool true) rfl rfl rfl rfl
    obtain ⟨h6, hu6⟩ := h5.dropD
    have hl' : 4096 ≤ s.data.length := by omega
    have e : textM s c = { s with void := true, data := [] } := by simp [textM, hl']
    rw [e]
    exact ⟨rfl, lv, .one h.pm.pIn (hu5.trans1 hu6), _, _, _, _, _, h6⟩
  · rename_i hv hl
    obtain ⟨h5, hs5⟩ := h4.pushD (c := c) hG hown
    have hl' : ¬ 4096 ≤ s.data.length := by omega
    have e : textM s c = { s with void := decide (4096 ≤ (s.data.length : Int)), data := s.data ++ [c] } := by simp [textM, hv, hl']; omega
    rw [e]
    exact ⟨rfl, _, ((Stp.one h.pm.pIn hu3).trans (.gr ((Gr.refl _).alloc _))).trans hs5, _, _, _, _, _, h5⟩
end
section
open Go.RowKit
variable [Bs]

variable {lv : List Nat} {w : World} {p o : Nat} {s : PS} {ts : List Tok}

def accS (s : PS) (c : Int) : PS := if isAcc c = true then accByte s c else s

/-- Appending a number, at a step of a region that draws its order. -/
theorem step_pushA {iv dv ov : Value} {qs : List (Value × Value)} {W : World} {ia : Option Addr} {ic : Nat} {ops : Array Oper} {u : Oper} {a : Act} {K : Act → World → Prop} {Q : Exit → Act → World → Prop} {E : Prop} (hgd : u.guard = none) (x y : Operand) (t : TypeId)
    (hu : u.op = .call { callee := .builtin .append, args := #[x, y], argTypes := #[t, t] }) (ht : Try.prog.underlying t = some (.slice 3)) (h : St lv w p s iv dv (.slice ia s.done.length ic) o ts ov qs) (c : Int) (b : Nat)
    (hx : a.eval x = .slice ia s.done.length ic) (hy : a.eval y = .slice (some ⟨b, 0, none⟩) 1 1) (hW : Gr w W) (hb : W.cell? ⟨b, 0, none⟩ = some (.int .i64 c)) (hn : s.done.length ≤ 100000)
    (H : ∀ g cap w1, Grew W w1 (.slice ia s.done.length ic) (.slice (some ⟨g, 0, none⟩) (s.done.length + 1) cap) g → w1.ownsRow Bs.b 3 1 (.slice (some ⟨g, 0, none⟩) (s.done.length + 1) cap) (s.done.length + 1) (icells (s.done ++ [c])) →
      w1.heap[p]? = some (.cells (pcells s iv dv (.slice ia s.done.length ic)) 35 (0, 0)) → K (a.put u.dst (.slice (some ⟨g, 0, none⟩) (s.done.length + 1) cap)) w1) :
    if Region.wanted u (yielded ops a.tmps) = true then Oper.wp Try.prog u a W K Q else E := by
  obtain ⟨i0, hi0, hz0, hz1, hz2⟩ := info_parts int_info
  have h4 := h.gr hW
  refine step_append_lies _ hgd x y t hu Bs.b 3 i0 _ 1 8 ht hi0 hz0 hz1 hz2 rfl (by omega) _ _ _ hx h4.pm.done ⟨b, 0, none⟩ 1 1 [.int .i64 c] hy rfl ?_ ?_ (by omega) ?_ ?_ h4.pm.bs _ rfl ?_
  · intro j v hv
    have hj : j = 0 := by rcases j with _ | j <;> simp at hv <;> rfl
    subst hj
    simp at hv; subst hv
    simpa [Addr.add] using hb
  · intro v hv; simp at hv; subst hv; rfl
  · simp only [maxLen]; omega
  · omega
  · intro g cap w1 hown hgr hat hlt
    have hG : Grew W w1 (.slice ia s.done.length ic) (.slice (some ⟨g, 0, none⟩) (s.done.length + 1) cap) g := ⟨hgr, hat, hlt, rfl⟩
    exact H g cap w1 hG (by simpa [icells] using hown) ((hG.new (blk_lt h4.pm.blk) h4.ap).trans h4.pm.blk)

theorem acc_semi {iv dv ov av V : Value} {g : Nat} {qs : List (Value × Value)} {W w1 : World} (h : St lv w p s iv dv av o ts ov qs) (hW : Gr w W) (hG : Grew W w1 av V g)
    (hown : w1.ownsRow Bs.b 3 1 V (s.done.length + 1) (icells (s.done ++ [s.now]))) :
    ∃ lv', Stp lv w lv' (((w1.setCell ⟨p, 8, none⟩ V).setCell ⟨p, 9, none⟩ (.int .i64 0)).setCell ⟨p, 10, none⟩ (.bool true)) ∧
      SS lv' (((w1.setCell ⟨p, 8, none⟩ V).setCell ⟨p, 9, none⟩ (.int .i64 0)).setCell ⟨p, 10, none⟩ (.bool true)) p { s with done := s.done ++ [s.now], now := 0, begun := true } o ts := by
  obtain ⟨h5, hs5⟩ := (h.gr hW).pushA (c := s.now) hG hown
  obtain ⟨h6, hu6⟩ := h5.set (s' := { s with done := s.done ++ [s.now], now := 0 }) 9 (.int .i64 0) rfl rfl rfl rfl
  obtain ⟨h7, hu7⟩ := h6.set (s' := { s with done := s.done ++ [s.now], now := 0, begun := true }) 10 (.bool true) rfl rfl rfl rfl
  exact ⟨_, ((Stp.gr hW).trans hs5).trans (.one (by simp [h.pm.pIn]) (hu6.trans1 hu7)), _, _, _, _, _, h7⟩
theorem acc_set {iv dv ov av : Value} {qs : List (Value × Value)} (h : St lv w p s iv dv av o ts ov qs) (n : Int) :
    ∃ lv', Stp lv w lv' ((w.setCell ⟨p, 9, none⟩ (.int .i64 n)).setCell ⟨p, 10, none⟩ (.bool true)) ∧ SS lv' ((w.setCell ⟨p, 9, none⟩ (.int .i64 n)).setCell ⟨p, 10, none⟩ (.bool true)) p { s with now := n, begun := true } o ts := by
  obtain ⟨h6, hu6⟩ := h.set (s' := { s with now := n }) 9 (.int .i64 n) rfl rfl rfl rfl
  obtain ⟨h7, hu7⟩ := h6.set (s' := { s with now := n, begun := true }) 10 (.bool true) rfl rfl rfl rfl
  exact ⟨_, .one h.pm.pIn (hu6.trans1 hu7), _, _, _, _, _, h7⟩

set_option maxRecDepth 100000 in
set_option maxHeartbeats 1000000 in
theorem accByte_SS (c : Int) (hc0 : 0 ≤ c) (hc1 : c < 256) (hok : s.ok) (h : SS lv w p s o ts) : Calls Try.prog 71 #[.pointer (some ⟨p, 8, none⟩), .int .u8 c] w fun e w' => e = .returned (.bool (isAcc c)) ∧ ∃ lv', Stp lv w lv' w' ∧ SS lv' w' p (accS s c) o ts := by
  obtain ⟨iv, dv, av, ov, qs, hS⟩ := h
  obtain ⟨k0, k1, k2, k3, k4, k5, k6, k7, k8, k9, k10, k11, k12, kf⟩ := cells13 hS.pm.blk
  obtain ⟨ia, ic, rfl⟩ := row_form hS.pm.done
  obtain ⟨q0, q1, q2, q3, q4, q5, q6, q7, q8, q9, q10, q11, q12, qf⟩ := cells13 (((Gr.refl w).alloc (.cells #[.int .i64 s.now] 3)).blk hS.pm.blk)
  have hn4 : s.done.length ≤ 100000 := by have := hok.done; omega
  obtain ⟨n0, n1⟩ := hok.now
  go_enter Try.func71, Try.ntmps71
  go_wp2_with fail
  · go_region_law (refine step_pushA rfl _ _ _ rfl Try.underlying29 hS s.now w.heap.size (by simp [Act.eval, Act.put]) (by simp [Act.eval, Act.put]) (by (repeat (first | with_reducible (refine Gr.setCell ?_ ?hp _; case hp => (simp; try omega)) | with_reducible refine Gr.alloc ?_ _ | with_reducible refine Gr.drew ?_ | with_reducible refine Gr.drewN ?_ _ | with_reducible assumption | with_reducible exact Gr.refl _ | with_reducible refine Gr.trans ?_ (by assumption)))) (by simp) hn4 ?_; intro g cap w1 hG hown hb1; obtain ⟨r0, r1, r2, r3, r4, r5, r6, r7, r8, r9, r10, r11, r12, rf⟩ := cells13 hb1)
    all_goals (go_wp2_with fail; go_ret)
    all_goals
      have hc : c = 59 := by simpa using ‹(c == 59) = true›
      have hl : s.done.length < 30 := by omega
      have e : accS s c = { s with done := s.done ++ [s.now], now := 0, begun := true } := by simp [accS, isAcc, accByte, hc, hl]
      rw [show isAcc c = true by simp [isAcc, hc], e]
      refine ⟨rfl, acc_semi hS (W := _) ?_ hG hown⟩
      (repeat (first | with_reducible (refine Gr.setCell ?_ ?hp _; case hp => (simp; try omega)) | with_reducible refine Gr.alloc ?_ _ | with_reducible refine Gr.drew ?_ | with_reducible refine Gr.drewN ?_ _ | with_reducible assumption | with_reducible exact Gr.refl _ | with_reducible refine Gr.trans ?_ (by assumption)))
  all_goals go_ret
  · have hc : c = 59 := by simpa using ‹(c == 59) = true›
    have hl : ¬ s.done.length < 30 := by omega
    have e : accS s c = { s with now := 0, begun := true } := by simp [accS, isAcc, accByte, hc, hl]
    rw [show isAcc c = true by simp [isAcc, hc], e]
    exact ⟨rfl, acc_set hS 0⟩
  · have hc : c ≠ 59 := by simpa using ‹(c == 59) = false›
    have e : accS s c = { s with now := 65535, begun := true } := by
      have : min (s.now * 10 + (c - 48)) 65535 = 65535 := by omega
      simp [accS, isAcc, accByte, hc, this]; omega
    rw [show isAcc c = true by simp [isAcc]; omega, e]
    exact ⟨rfl, acc_set hS 65535⟩
  · have hc : c ≠ 59 := by simpa using ‹(c == 59) = false›
    have e : accS s c = { s with now := s.now * 10 + (c - 48), begun := true } := by
      have : min (s.now * 10 + (c - 48)) 65535 = s.now * 10 + (c - 48) := by omega
      simp [accS, isAcc, accByte, hc, this]; omega
    rw [show isAcc c = true by simp [isAcc]; omega, e]
    exact ⟨rfl, acc_set hS _⟩
  all_goals
    have hc : c ≠ 59 := by simpa using ‹(c == 59) = false›
    have hf : isAcc c = false := by simp [isAcc]; omega
    have e : accS s c = s := by simp [accS, hf]
    rw [hf, e]
    exact ⟨rfl, lv, .refl _ _, _, _, _, _, _, hS⟩
end
section
open Go.RowKit
variable [Bs]

variable {lv : List Nat} {w w1 : World} {p o : Nat} {s : PS} {iv dv av ov : Value} {ts : List Tok} {qs : List (Value × Value)}

theorem tsCells_append (ts : List Tok) (qs : List (Value × Value)) (t : Tok) (q : Value × Value) (h : qs.length = ts.length) : tsCells (ts ++ [t]) (qs ++ [q]) = tsCells ts qs ++ tcells t q := by
  induction ts generalizing qs with
  | nil => cases qs with
    | nil => simp [tsCells]
    | cons => simp at h
  | cons a l ih => cases qs with
    | nil => simp at h
    | cons b r => simp [tsCells, ih r (by simpa using h)]

theorem St.pushO {V : Value} {g : Nat} {t : Tok} {q : Value × Value} (h : St lv w p s iv dv av o ts ov qs) (ht : TMem lv w t q.1 q.2) (hg : Grew w w1 ov V g)
    (hV : w1.ownsRow Bs.b 31 6 V (ts.length + 1) (tsCells ts qs ++ tcells t q)) :
    St (g :: lv) (w1.setCell ⟨o, 0, none⟩ V) p s iv dv av o (ts ++ [t]) V (qs ++ [q]) ∧ Stp lv w (g :: lv) (w1.setCell ⟨o, 0, none⟩ V) := by
  obtain ⟨hs, hu⟩ := hg.upd h.ro (blk_lt h.om.blk) 0 V h.om.rIn h.om.oIn
  have go : g ≠ o := (hg.ne (blk_lt h.om.blk) h.ro).symm
  have hgl : ∀ k, k < w.heap.size → k ∈ g :: lv → k ∈ lv := by
    intro k hk hl
    rcases List.mem_cons.1 hl with rfl | hl
    · rcases hg.at_ with e | e
      · exact h.om.rIn _ e
      · omega
    · exact hl
  have hKl : ∀ k, k < w.heap.size → k ∈ o :: ov.ownBlock.toList → k ∈ lv := by
    intro k _ hk
    simp at hk
    rcases hk with rfl | hk
    · exact h.om.oIn
    · exact h.om.rIn k hk
  have far : ∀ {x : Value} {e size n : Nat} {xs : List Value}, w.ownsRow Bs.b e size x n xs → x.ownBlock ≠ some o → (∀ k, x.ownBlock = some k → ov.ownBlock ≠ some k) → (w1.setCell ⟨o, 0, none⟩ V).ownsRow Bs.b e size x n xs := by
    intro x e size n xs hx hxp hxi
    exact ownsRow_same hx fun k hk => hu.block k (ownsRow_blk hx hk) (by simp; exact ⟨fun e => hxp (e ▸ hk), hxi k hk⟩)
  refine ⟨⟨⟨?_, far h.pm.inters h.io fun k hk => row_type h.pm.inters h.om.row (by decide) hk, far h.pm.data h.do_ fun k hk => row_type h.pm.data h.om.row (by decide) hk, far h.pm.done h.ao fun k hk => row_type h.pm.done h.om.row (by decide) hk,
      by simp [h.pm.pIn], fun k hk => by simp [h.pm.iIn k hk], fun k hk => by simp [h.pm.dIn k hk], fun k hk => by simp [h.pm.aIn k hk], h.pm.apart, Nat.le_trans h.pm.bs hu.size⟩, ⟨blk_set ((hg.new (blk_lt h.om.blk) h.ro).trans h.om.blk) 0 V, ?_, ?_, ?_, by simp [h.om.oIn], ?_, Nat.le_trans h.om.bs hu.size⟩⟩, hs⟩
  · rw [hu.block p (blk_lt h.pm.blk) (by simp; exact ⟨h.po, h.rp⟩)]; exact h.pm.blk
  · rw [tsCells_append _ _ _ _ h.om.len, show (ts ++ [t]).length = ts.length + 1 by simp]
    exact ownsRow_same hV fun k hk => by
      rw [hg.own] at hk; injection hk with hk; subst hk
      rw [Below.heap_setCell _ _ _ _ go]
  · simp [h.om.len]
  · intro i t' q' hi hq
    rcases Nat.lt_or_ge i ts.length with hlt | hge
    · rw [List.getElem?_append_left hlt] at hi
      rw [List.getElem?_append_left (by rw [h.om.len]; exact hlt)] at hq
      exact (h.om.toks i t' q' hi hq).upd hu hKl hgl
    · rw [List.getElem?_append_right hge] at hi
      rw [List.getElem?_append_right (by rw [h.om.len]; exact hge)] at hq
      have hi0 : i - ts.length = 0 := by
        rcases hx : i - ts.length with _ | n
        · rfl
        · rw [hx] at hi; simp at hi
      rw [hi0] at hi
      rw [h.om.len, hi0] at hq
      simp at hi hq
      subst hi; subst hq
      exact ht.upd hu hKl hgl
  · intro k hk; rw [hg.own] at hk; injection hk with hk; simp [hk]
end
section
open Go.RowKit
variable [Bs]

variable {lv : List Nat} {w : World} {p o : Nat} {s : PS} {ts : List Tok}

theorem token_info : (Try.prog.info? 31).map (fun i => (i.zero, i.size, i.bytes)) = some (some (.agg #[.int .i64 0, .int .u8 0, .int .u8 0, .slice none 0 0, .string ⟨#[]⟩, .slice none 0 0]), 6, 80) := by kernel_rfl

/-- Appending a token that lies in a block of its own. -/
theorem wpList_pushO {iv dv av ov : Value} {qs : List (Value × Value)} {ops : Array Oper} {rest : List Oper} {u : Oper} {a : Act} {Q : Exit → Act → World → Prop} (hgd : u.guard = none) (x y : Operand) (t : TypeId)
    (hu : u.op = .call { callee := .builtin .append, args := #[x, y], argTypes := #[t, t] }) (ht : Try.prog.underlying t = some (.slice 31)) (h : St lv w p s iv dv av o ts ov qs) (tk : Tok) (q : Value × Value) (b : Nat)
    (hx : a.eval x = ov) (hy : a.eval y = .slice (some ⟨b, 0, none⟩) 1 1) (hb : w.heap[b]? = some (.cells (tcells tk q).toArray 31 (0, 0))) (hq : q.1.oneCell' = true ∧ q.2.oneCell' = true) (hn : ts.length ≤ 100000)
    (K : ∀ g cap w1, Grew w w1 ov (.slice (some ⟨g, 0, none⟩) (ts.length + 1) cap) g → w1.ownsRow Bs.b 31 6 (.slice (some ⟨g, 0, none⟩) (ts.length + 1) cap) (ts.length + 1) (tsCells ts qs ++ tcells tk q) →
      w1.heap[o]? = some (.cells #[ov] 36 (0, 0)) → wpList Try.prog ops Q rest (a.put u.dst (.slice (some ⟨g, 0, none⟩) (ts.length + 1) cap)) w1) : wpList Try.prog ops Q (u :: rest) a w := by
  obtain ⟨i0, hi0, hz0, hz1, hz2⟩ := info_parts token_info
  refine wpList_append_lies _ hgd x y t hu Bs.b 31 i0 _ 6 80 ht hi0 hz0 hz1 hz2 rfl (by omega) _ _ _ hx h.om.row ⟨b, 0, none⟩ 1 1 (tcells tk q) hy rfl ?_ ?_ (by omega) ?_ ?_ h.om.bs _ rfl ?_
  · intro j v hv
    have hc := cell_of_row hb j v (by simpa using hv)
    have e : (⟨b, 0, none⟩ : Addr).add j = ⟨b, j, none⟩ := by rcases j with _ | j <;> simp [Addr.add]
    rw [e]; exact hc
  · intro v hv
    simp [tcells] at hv
    rcases hv with rfl | rfl | rfl | rfl | rfl | rfl
    all_goals first | rfl | exact hq.1 | exact hq.2
  · simp only [maxLen]; omega
  · omega
  · intro g cap w1 hown hgr hat hlt
    have hG : Grew w w1 ov (.slice (some ⟨g, 0, none⟩) (ts.length + 1) cap) g := ⟨hgr, hat, hlt, rfl⟩
    exact K g cap w1 hG hown ((hG.new (blk_lt h.om.blk) h.ro).trans h.om.blk)

set_option maxRecDepth 100000 in
set_option maxHeartbeats 1000000 in
theorem plain_SS (c : Int) (u : Value) (hn : ts.length ≤ 100000) (h : SS lv w p s o ts) : Calls Try.prog 61 #[u, .int .u8 c, .pointer (some ⟨o, 0, none⟩)] w fun e w' => e = .returned (.tuple #[]) ∧ ∃ lv', Stp lv w lv' w' ∧ SS lv' w' p s o (ts ++ [printT c]) := by
  obtain ⟨iv, dv, av, ov, qs, hS⟩ := h
  obtain ⟨k0, kf⟩ := cells1 hS.om.blk
  have hW := (Gr.refl w).alloc (.cells (tcells (printT c) (.slice none 0 0, .slice none 0 0)).toArray 31)
  have h4 := hS.gr hW
  have hb4 := heap_alloc_new w (.cells (tcells (printT c) (.slice none 0 0, .slice none 0 0)).toArray 31)
  go_enter Try.func61, Try.ntmps61
  go_wp2_with (first
    | (refine wpList_pushO rfl _ _ _ rfl Try.underlying36 h4 (printT c) (.slice none 0 0, .slice none 0 0) w.heap.size rfl rfl hb4 ⟨rfl, rfl⟩ hn ?_
       intro g cap w1 hG hown hb1
       obtain ⟨r0, rf⟩ := cells1 hb1))
  go_end0
  have ht : TMem lv (w.alloc (.cells (tcells (printT c) (.slice none 0 0, .slice none 0 0)).toArray 31)) (printT c) (.slice none 0 0) (.slice none 0 0) :=
    ⟨.nil _ _, .nil _ _, by simp [Value.ownBlock], by simp [Value.ownBlock], by simp [Value.ownBlock], by simp [Value.ownBlock]⟩
  obtain ⟨h5, hs5⟩ := h4.pushO (q := (.slice none 0 0, .slice none 0 0)) ht hG hown
  exact ⟨rfl, _, (Stp.gr hW).trans hs5, _, _, _, _, _, h5⟩
end
end Go.Proofs.Ytgbmjlajheeciaa
