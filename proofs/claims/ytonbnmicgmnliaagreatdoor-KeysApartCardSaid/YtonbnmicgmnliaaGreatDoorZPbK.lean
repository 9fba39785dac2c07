/-
  The parser is fed, walked.
-/
import Derived.Test.YtonbnmicgmnliaaGreatDoorZPbJ
namespace Go.Proofs.YtonbnmicgmnliaaGreatDoor
set_option linter.unusedSimpArgs false
set_option linter.unusedVariables false
set_option linter.unusedSectionVars false
open Go.RowKit
variable [Bs]

/-- A slice that reads as a list of cells. -/
def Rd (w : World) (a : Option Addr) (n : Nat) (xs : List Value) : Prop :=
  xs.length = n ∧ (n = 0 ∨ ∃ b off, a = some ⟨b, off, none⟩ ∧ ∀ i u, xs[i]? = some u → w.cell? ⟨b, off + i, none⟩ = some u)
/-- It lies in no block of a list. -/
def Out (lv : List Nat) (a : Option Addr) : Prop := ∀ x, a = some x → x.block ∉ lv
theorem Rd.at_ {w : World} {a : Option Addr} {n : Nat} {xs : List Value} (h : Rd w a n xs) {k : Nat} (hk : k < n) : ∃ b off u, a = some ⟨b, off, none⟩ ∧ xs[k]? = some u ∧ w.cell? ⟨b, off + k, none⟩ = some u ∧ b < w.heap.size := by
  rcases h.2 with h0 | ⟨b, off, rfl, hc⟩
  · omega
  · have hl : k < xs.length := by rw [h.1]; exact hk
    have := hc k _ (List.getElem?_eq_getElem hl)
    exact ⟨b, off, _, rfl, List.getElem?_eq_getElem hl, this, lt_of_cell this⟩
theorem Rd.upd {w w' : World} {lv : List Nat} {a : Option Addr} {n : Nat} {xs : List Value} (h : Rd w a n xs) (hu : Upd lv w w') (ho : Out lv a) : Rd w' a n xs := by
  refine ⟨h.1, ?_⟩
  rcases h.2 with h0 | ⟨b, off, rfl, hc⟩
  · exact .inl h0
  · refine .inr ⟨b, off, rfl, fun i u hi => ?_⟩
    have := hc i u hi
    rw [World.cell?_of_block (w' := w') (w := w) (hu.block b (lt_of_cell this) (ho _ rfl))]
    exact this

theorem takeM1_len (s : PS) (c : Int) : (takeM1 s c).2.length ≤ 1 := by
  have he : ∀ s : PS, (escapedM s c).2.length ≤ 1 ∧ (escapedM s (c % 128)).2.length ≤ 1 := by
    intro s
    constructor <;> (simp only [escapedM]; repeat' split) <;> first | exact emit_le _ | simp
  have hh : ∀ s : PS, (headerM s (c % 128)).2.length ≤ 1 := by
    intro s
    simp only [headerM]; repeat' split
    all_goals first | exact emit_le _ | simp
  have hs : (stepM s c).2.length ≤ 1 := by
    simp only [stepM]; repeat' split
    all_goals first | exact (he _).2 | exact hh _ | simp
  simp only [takeM1]; repeat' split
  all_goals first | exact hs | exact emit_le _ | simp
theorem takeM_len (s : PS) (c : Int) : (takeM s c).2.length ≤ 1 := by
  simp only [takeM]; repeat' split
  all_goals first | exact takeM1_len _ _ | exact emit_le _
theorem runM_len (l : List Int) : ∀ s : PS, (runM s l).2.length ≤ l.length := by
  induction l with
  | nil => simp [runM]
  | cons c l ih =>
    intro s
    have := ih (takeM s c).1
    have := takeM_len s c
    simp only [runM, List.length_append, List.length_cons]; omega
theorem runM_ok (l : List Int) : ∀ s : PS, s.ok → (∀ c ∈ l, 0 ≤ c ∧ c < 256) → (runM s l).1.ok := by
  induction l with
  | nil => intro s h _; exact h
  | cons c l ih =>
    intro s h hl
    exact ih _ (ok_take h c (hl c (by simp))) fun x hx => hl x (by simp [hx])
theorem plainOf_range (c : Int) (h : 0 ≤ c ∧ c < 256) : ∀ x ∈ plainOf c, 0 ≤ x ∧ x < 256 := by
  intro x hx
  unfold plainOf at hx
  split at hx
  · simp at hx
  · split at hx <;> (simp at hx; omega)
theorem plainL_range (l : List Int) (h : ∀ c ∈ l, 0 ≤ c ∧ c < 256) : ∀ x ∈ plainL l, 0 ≤ x ∧ x < 256 := by
  intro x hx
  obtain ⟨c, hc, hm⟩ := List.mem_flatMap.1 hx
  exact plainOf_range c (h c hc) x hm
theorem plainL_len (l : List Int) : (plainL l).length ≤ 2 * l.length := by
  induction l with
  | nil => simp [plainL]
  | cons c l ih =>
    have : (plainOf c).length ≤ 2 := by unfold plainOf; split; simp; split <;> simp
    simp only [plainL, List.flatMap_cons, List.length_append, List.length_cons] at ih ⊢; omega
theorem feedM_len (s : PS) (l : List Int) : (feedM s l).2.length ≤ 2 * l.length := Nat.le_trans (runM_len _ _) (plainL_len l)
theorem feedM_ok {s : PS} (h : s.ok) (l : List Int) (hl : ∀ c ∈ l, 0 ≤ c ∧ c < 256) : (feedM s l).1.ok := runM_ok _ _ h (plainL_range l hl)
theorem feedM_one (s : PS) (c : Int) : feedM s [c] = runM s (plainOf c) := by simp [feedM, plainL]

/-- A parser in memory. -/
def PP (lv : List Nat) (w : World) (p : Nat) (s : PS) : Prop := ∃ iv dv av, PMem lv w p s iv dv av
/-- Tokens in a row of their own, out of what may change. -/
structure Toks (lv : List Nat) (w : World) (ts : List Tok) (ov : Value) (qs : List (Value × Value)) : Prop where
  row : w.ownsRow Bs.b 55 6 ov ts.length (tsCells ts qs)
  len : qs.length = ts.length
  toks : ∀ (i : Nat) (t : Tok) (q : Value × Value), ts[i]? = some t → qs[i]? = some q → TMem lv w t q.1 q.2
  rOut : ∀ k, ov.ownBlock = some k → k ∉ lv

/-- How far a chunk is taken. -/
def Fed (lv : List Nat) (w : World) (p o : Nat) (s : PS) (l : List Int) (k : Nat) (wr : World) : Prop := ∃ lv', Stp lv w lv' wr ∧ SS lv' wr p (feedM s (l.take k)).1 o (feedM s (l.take k)).2
theorem feed_take {s : PS} {l : List Int} {k : Nat} {c : Int} (hc : l[k]? = some c) : feedM s (l.take (k + 1)) = ((runM (feedM s (l.take k)).1 (plainOf c)).1, (feedM s (l.take k)).2 ++ (runM (feedM s (l.take k)).1 (plainOf c)).2) := by
  rw [List.take_add_one, hc]
  simp only [Option.toList_some]
  rw [feed_append, feedM_one]
theorem Fed.skip {lv : List Nat} {w wr : World} {p o : Nat} {s : PS} {l : List Int} {k : Nat} {c : Int} (h : Fed lv w p o s l k wr) (hc : l[k]? = some c) (h0 : c = 0 ∨ c = 127) : Fed lv w p o s l (k + 1) wr := by
  obtain ⟨lv', hs, hS⟩ := h
  refine ⟨lv', hs, ?_⟩
  rw [feed_take hc, plainOf, if_pos h0]
  simpa [runM] using hS
theorem Fed.one {lv lv' : List Nat} {w wr w1 : World} {p o : Nat} {s : PS} {l : List Int} {k : Nat} {c : Int} (hs : Stp lv w lv' wr) (hc : l[k]? = some c) (h0 : ¬ (c = 0 ∨ c = 127)) (h1 : ¬ (128 ≤ c ∧ c < 160))
    (ht : Took lv' wr p o (feedM s (l.take k)).2 (takeM (feedM s (l.take k)).1 c) w1) : Fed lv w p o s l (k + 1) w1 := by
  obtain ⟨lv2, hs2, hS2⟩ := ht
  refine ⟨lv2, hs.trans hs2, ?_⟩
  rw [feed_take hc, plainOf, if_neg h0, if_neg h1]
  simpa [runM] using hS2
theorem Fed.two {lv lv' lv2 : List Nat} {w wr w1 w2 : World} {p o : Nat} {s : PS} {l : List Int} {k : Nat} {c : Int} (hs : Stp lv w lv' wr) (hc : l[k]? = some c) (h1 : 128 ≤ c ∧ c < 160)
    (hs2 : Stp lv' wr lv2 w1) (ht : Took lv2 w1 p o ((feedM s (l.take k)).2 ++ (takeM (feedM s (l.take k)).1 27).2) (takeM (takeM (feedM s (l.take k)).1 27).1 (c - 64)) w2) : Fed lv w p o s l (k + 1) w2 := by
  obtain ⟨lv3, hs3, hS3⟩ := ht
  refine ⟨lv3, (hs.trans hs2).trans hs3, ?_⟩
  rw [feed_take hc, plainOf, if_neg (by omega), if_pos h1]
  simpa [runM] using hS3

theorem Rd.byte {w : World} {a : Option Addr} {n : Nat} {l : List Int} (h : Rd w a n (bcells l)) {k : Nat} (hk : k < n) : ∃ b off c, a = some ⟨b, off, none⟩ ∧ l[k]? = some c ∧ w.cell? ⟨b, off + k, none⟩ = some (.int .u8 c) ∧ b < w.heap.size := by
  obtain ⟨b, off, u, ha, hu, hc, hb⟩ := h.at_ hk
  have : k < l.length := by have := h.1; simp [bcells] at this; omega
  simp [bcells, List.getElem?_eq_getElem this] at hu
  subst hu
  exact ⟨b, off, _, ha, List.getElem?_eq_getElem this, hc, hb⟩
theorem PP.start {lv : List Nat} {w : World} {p : Nat} {s : PS} (h : PP lv w p s) : SS (w.heap.size :: lv) (w.alloc (.cells #[.slice none 0 0] 38)) p s w.heap.size [] := by
  obtain ⟨iv, dv, av, h⟩ := h
  have hg := (Gr.refl w).alloc (.cells #[.slice none 0 0] 38)
  refine ⟨iv, dv, av, .slice none 0 0, [], ⟨⟨hg.blk h.blk, ownsRow_gr h.inters hg, ownsRow_gr h.data hg, ownsRow_gr h.done hg, by simp [h.pIn], fun k hk => by simp [h.iIn k hk], fun k hk => by simp [h.dIn k hk], fun k hk => by simp [h.aIn k hk], h.apart, Nat.le_trans h.bs hg.size⟩,
    ⟨heap_alloc_new w _, World.ownsRow_nil _ _ _ _, rfl, by simp, by simp, by simp [Value.ownBlock], Nat.le_trans h.bs hg.size⟩⟩⟩
/-- What may change once the tokens are handed out. -/
def lvO (lv : List Nat) (o : Nat) (ov : Value) : List Nat := lv.filter fun k => decide (k ≠ o) && decide (ov.ownBlock ≠ some k)
theorem mem_lvO {lv : List Nat} {o : Nat} {ov : Value} {k : Nat} : k ∈ lvO lv o ov ↔ k ∈ lv ∧ k ≠ o ∧ ov.ownBlock ≠ some k := by simp [lvO, List.mem_filter]
theorem Fed.fin {lv : List Nat} {w wr : World} {p : Nat} {s : PS} {l : List Int} {n : Nat} (hn : l.length ≤ n) (h : Fed (w.heap.size :: lv) (w.alloc (.cells #[.slice none 0 0] 38)) p w.heap.size s l n wr) :
    ∃ ov qs lv', wr.cell? ⟨w.heap.size, 0, none⟩ = some ov ∧ Stp lv w lv' wr ∧ PP lv' wr p (feedM s l).1 ∧ Toks lv' wr (feedM s l).2 ov qs ∧ ∀ k, ov.ownBlock = some k → k ∈ lv ∨ w.heap.size ≤ k := by
  obtain ⟨lv1, hs, iv, dv, av, ov, qs, hS⟩ := h
  have h1 : Stp lv w (w.heap.size :: lv) (w.alloc (.cells #[.slice none 0 0] 38)) := ⟨.of_gr ((Gr.refl w).alloc _), fun k hk => by
    rcases List.mem_cons.1 hk with rfl | hk
    · exact .inr (Nat.le_refl _)
    · exact .inl hk⟩
  rw [List.take_of_length_le hn] at hS
  refine ⟨ov, qs, lvO lv1 w.heap.size ov, (cells1 hS.om.blk).1, ?_, ⟨iv, dv, av, hS.pm.blk, hS.pm.inters, hS.pm.data, hS.pm.done, mem_lvO.2 ⟨hS.pm.pIn, hS.po, hS.rp⟩, fun k hk => mem_lvO.2 ⟨hS.pm.iIn k hk, ?_, ?_⟩, fun k hk => mem_lvO.2 ⟨hS.pm.dIn k hk, ?_, ?_⟩,
    fun k hk => mem_lvO.2 ⟨hS.pm.aIn k hk, ?_, ?_⟩, hS.pm.apart, hS.pm.bs⟩, ⟨hS.om.row, hS.om.len, fun i t q ht hq => (hS.om.toks i t q ht hq).sub fun k hk => (mem_lvO.1 hk).1, fun k hk hm => (mem_lvO.1 hm).2.2 hk⟩, fun k hk => (h1.trans hs).new k (hS.om.rIn k hk)⟩
  · have h2 := h1.trans hs
    exact ⟨h2.upd, fun k hk => h2.new k (mem_lvO.1 hk).1⟩
  · rintro rfl; exact hS.io hk
  · exact row_type hS.pm.inters hS.om.row (by decide) hk
  · rintro rfl; exact hS.do_ hk
  · exact row_type hS.pm.data hS.om.row (by decide) hk
  · rintro rfl; exact hS.ao hk
  · exact row_type hS.pm.done hS.om.row (by decide) hk

/-- What feeding leaves. -/
def FeedTo (lv : List Nat) (w : World) (p : Nat) (r : PS × List Tok) (e : Ending) (w' : World) : Prop := ∃ ov qs lv', e = .returned ov ∧ Stp lv w lv' w' ∧ PP lv' w' p r.1 ∧ Toks lv' w' r.2 ov qs
/-- .. and where the row of its tokens lies. -/
def FeedTo2 (lv : List Nat) (w : World) (p : Nat) (r : PS × List Tok) (e : Ending) (w' : World) : Prop := ∃ ov qs lv', e = .returned ov ∧ Stp lv w lv' w' ∧ PP lv' w' p r.1 ∧ Toks lv' w' r.2 ov qs ∧ ∀ k, ov.ownBlock = some k → k ∈ lv ∨ w.heap.size ≤ k
set_option maxRecDepth 100000 in
set_option maxHeartbeats 1000000 in
theorem feed_walk2 {lv : List Nat} {w : World} {p : Nat} {s : PS} {a : Option Addr} {n cap : Nat} {l : List Int} (hl : ∀ c ∈ l, 0 ≤ c ∧ c < 256) (hn : n ≤ 40000) (hr : Rd w a n (bcells l)) (ho : 0 < n → Out lv a) (hok : s.ok) (h : PP lv w p s) :
    Calls Tryz.prog 13 #[.pointer (some ⟨p, 0, none⟩), .slice a n cap] w (FeedTo2 lv w p (feedM s l)) := by
  have hln : l.length = n := by simpa [bcells] using hr.1
  go_enter Tryz.func13, Tryz.ntmps13
  go_wp2_with fail
  go_loopw [10] (fun i wr => ∃ k : Nat, k ≤ n ∧ i = .int .i64 k ∧ Fed (w.heap.size :: lv) (w.alloc (.cells #[.slice none 0 0] 38)) p w.heap.size s l k wr) (fun i _ => n - (intOf i).toNat)
  case atStart => exact ⟨0, Nat.zero_le _, rfl, w.heap.size :: lv, .refl _ _, by simpa [feedM, plainL, runM] using h.start⟩
  case round =>
    obtain ⟨k, hk, rfl, hF⟩ := hrel
    by_cases hlt : k < n
    · obtain ⟨lv', hs, hS⟩ := hF
      have hg0 : Gr w (w.alloc (.cells #[.slice none 0 0] 38)) := (Gr.refl w).alloc _
      have hu : Upd (w.heap.size :: lv) w wr := (Upd.of_gr hg0).trans1 hs.upd
      have hr' : Rd wr a n (bcells l) := hr.upd hu (fun x hx hm => by
        obtain ⟨b, off, c, ha, _, _, hb⟩ := hr.byte hlt
        rw [ha] at hx; injection hx with hx; subst hx
        rcases List.mem_cons.1 hm with e | hm
        · simp at e; omega
        · exact ho (by omega) _ ha hm)
      obtain ⟨b, off, c, rfl, hc, hcell, hb⟩ := hr'.byte hlt
      have hrange := hl c (List.mem_of_getElem? hc)
      obtain ⟨c0, c1⟩ := hrange
      have hok' : (feedM s (l.take k)).1.ok := feedM_ok hok _ fun x hx => hl x (List.mem_of_mem_take hx)
      have hlen : (feedM s (l.take k)).2.length ≤ 80000 := by
        have h1 := feedM_len s (l.take k)
        have h2 := List.length_take_le k l
        omega
      have hkn : (k : Int) < (n : Int) := by omega
      clear hu hr hr' ho hl hln hk
      by_cases h0 : c = 0 ∨ c = 127
      · have hF' : Fed (w.heap.size :: lv) (w.alloc (.cells #[.slice none 0 0] 38)) p w.heap.size s l (k + 1) wr := Fed.skip ⟨lv', hs, hS⟩ hc h0
        rcases h0 with rfl | rfl
        all_goals
          go_wp2_with fail
          go_roundw
          case rel => exact ⟨k + 1, by omega, by go_num, hF'⟩
          case measure => simp [intOf]; omega
      · have q0 : (c == 0) = false := by simp; omega
        have q127 : (c == 127) = false := by simp; omega
        by_cases h1 : 128 ≤ c ∧ c < 160
        · have h1a := decide_eq_true h1.1
          have h1b := decide_eq_true h1.2
          have ht1 := take_SS 27 (by omega) hok' (by omega) hS
          have hok2 := ok_take hok' 27 (by omega)
          have hlen2 := takeM_len (feedM s (l.take k)).1 27
          obtain ⟨h1c, h1d⟩ := h1
          have H0 := Lib.hid h0; clear h0
          go_wp2_with (first
            | (refine (take_SS (c - 64) (by omega) hok2 (by simp; omega) hS1).mono ?_; rintro e w2 ⟨rfl, hS2⟩)
            | (go_at_call 25; refine ht1.mono ?_; rintro e w1 ⟨rfl, lv1, hs1, hS1⟩))
          go_roundw
          case rel => exact ⟨k + 1, by omega, by go_num, .two hs hc ⟨h1c, h1d⟩ hs1 hS2⟩
          case measure => simp [intOf]; omega
        · have q1 : (decide (128 ≤ c) && decide (c < 160)) = false := by simp; omega
          have ht1 := take_SS c (by omega) hok' (by omega) hS
          have H0 := Lib.hid h0; clear h0
          have H1 := Lib.hid h1; clear h1
          cases h128 : decide (128 ≤ c)
          · go_wp2_with (first
              | (go_at_call 25; refine ht1.mono ?_; rintro e w1 ⟨rfl, hS1⟩))
            go_roundw
            case rel => exact ⟨k + 1, by omega, by go_num, .one hs hc H0.out H1.out hS1⟩
            case measure => simp [intOf]; omega
          · have h160 : decide (c < 160) = false := by simpa [h128] using q1
            go_wp2_with (first
              | (go_at_call 25; refine ht1.mono ?_; rintro e w1 ⟨rfl, hS1⟩))
            go_roundw
            case rel => exact ⟨k + 1, by omega, by go_num, .one hs hc H0.out H1.out hS1⟩
            case measure => simp [intOf]; omega
    · obtain ⟨ov, qs, lv', hcell, h1, h2, h3, h4⟩ := hF.fin (by omega)
      have H4 := Lib.hid h4; clear h4
      have hkn : ¬ (k : Int) < (n : Int) := by omega
      go_wp2_with fail
      go_ret
      exact ⟨ov, qs, lv', rfl, h1, h2, h3, H4.out⟩
theorem feed_walk {lv : List Nat} {w : World} {p : Nat} {s : PS} {a : Option Addr} {n cap : Nat} {l : List Int} (hl : ∀ c ∈ l, 0 ≤ c ∧ c < 256) (hn : n ≤ 40000) (hr : Rd w a n (bcells l)) (ho : 0 < n → Out lv a) (hok : s.ok) (h : PP lv w p s) :
    Calls Tryz.prog 13 #[.pointer (some ⟨p, 0, none⟩), .slice a n cap] w (FeedTo lv w p (feedM s l)) :=
  (feed_walk2 hl hn hr ho hok h).mono fun e w' ⟨ov, qs, lv', h1, h2, h3, h4, _⟩ => ⟨ov, qs, lv', h1, h2, h3, h4⟩
/-- Where nothing is said of it the least block is the first. -/
instance zeroB : Bs := ⟨0⟩
end Go.Proofs.YtonbnmicgmnliaaGreatDoor
