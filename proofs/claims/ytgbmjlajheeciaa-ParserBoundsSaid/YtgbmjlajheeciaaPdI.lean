/-
  A row of tokens told one by one, walked; parsers side by side.
-/
import Derived.Test.YtgbmjlajheeciaaPdF
namespace Go.Proofs.Ytgbmjlajheeciaa
set_option linter.unusedSimpArgs false
set_option linter.unusedVariables false
open Go.RowKit

/-- A parser that stands outside has nothing begun. -/
def Idl (s : PS) : Prop := s.phase = 0 → s = PS.init
theorem idl_inter {s : PS} {c : Int} (h : s.phase ≠ 0) : Idl (interM s c) := fun h0 => absurd (by rw [(interM_keeps s c).1] at h0; exact h0) h
theorem idl_esc {s : PS} {c : Int} (h : s.phase ≠ 0) : Idl (escapedM s c).1 := by
  simp only [escapedM]
  split
  · exact idl_inter h
  · split
    · exact fun _ => rfl
    · split
      · rename_i hk
        intro h0
        rcases opKind_cases c with h1 | ⟨_, h1⟩ | ⟨_, h1⟩
        · exact absurd h1 hk
        · simp [PS.begin_, h1] at h0
        · simp [PS.begin_, h1] at h0
      · split <;> exact fun _ => rfl
theorem idl_hdr {s : PS} {c : Int} (h : s.phase ≠ 0) : Idl (headerM s c).1 := by
  simp only [headerM]
  repeat' split
  all_goals first | exact fun _ => rfl | (refine idl_inter ?_; exact h) | (intro h0; exact absurd h0 h) | (intro h0; simp at h0; done) | (intro h0; simp only [accByte] at h0; split at h0 <;> exact absurd h0 h)
theorem idl_step {s : PS} {c : Int} (h : Idl s) : Idl (stepM s c).1 := by
  simp only [stepM]
  split
  · rename_i h1
    split
    · exact h
    · exact idl_esc (by omega)
  · split
    · rename_i h1
      split
      · exact h
      · exact idl_hdr (by omega)
    · split
      · rename_i h1
        intro h0
        simp only [textM] at h0
        split at h0 <;> exact absurd (h1.symm.trans h0) (by decide)
      · exact h
theorem idl_take1 {s : PS} {c : Int} (h : Idl s) : Idl (takeM1 s c).1 := by
  simp only [takeM1]
  repeat' split
  all_goals first | exact fun _ => rfl | exact idl_step h | exact h | (intro h0; simp [PS.begin_] at h0; done)
theorem idl_take {s : PS} {c : Int} (h : Idl s) : Idl (takeM s c).1 := by
  simp only [takeM]
  split
  · split
    · exact fun _ => rfl
    · exact idl_take1 (fun h0 => absurd h0 (by simp [PS.begin_]))
  · exact idl_take1 h
theorem idl_run (l : List Int) : ∀ s : PS, Idl s → Idl (runM s l).1 := by
  induction l with
  | nil => intro s h; exact h
  | cons c l ih => intro s h; exact ih _ (idl_take h)
theorem idl_feed (l : List Int) : Idl (feedM PS.init l).1 := idl_run _ _ fun _ => rfl

/-! ### Parsers side by side -/
theorem PMem.gr {lv : List Nat} {w w' : World} {p : Nat} {s : PS} {iv dv av : Value} (h : PMem lv w p s iv dv av) (hg : Gr w w') : PMem lv w' p s iv dv av :=
  h.keep (Upd.of_gr (lv := []) hg) ((hg.block p (blk_lt h.blk)).trans h.blk) rfl rfl rfl (by simp) (by simp) (by simp)
def Dis (lv lv2 : List Nat) : Prop := ∀ k ∈ lv, k ∉ lv2
theorem PP.far {lv K lv' : List Nat} {w w' : World} {p : Nat} {s : PS} (h : PP lv w p s) (hs : Stp K w lv' w') (hd : Dis lv K) : PP lv w' p s := by
  obtain ⟨iv, dv, av, h⟩ := h
  have hk : ∀ k, k < w.heap.size → k ∈ lv → w'.heap[k]? = w.heap[k]? := fun k hk hm => hs.upd.block k hk (hd k hm)
  exact ⟨iv, dv, av, (hk p (blk_lt h.blk) h.pIn).trans h.blk, ownsRow_same h.inters fun k hb => hk k (ownsRow_blk h.inters hb) (h.iIn k hb), ownsRow_same h.data fun k hb => hk k (ownsRow_blk h.data hb) (h.dIn k hb),
    ownsRow_same h.done fun k hb => hk k (ownsRow_blk h.done hb) (h.aIn k hb), h.pIn, h.iIn, h.dIn, h.aIn, h.apart, Nat.zero_le _⟩
theorem Dis.stp {lv K lv' : List Nat} {w w' : World} (hd : Dis lv K) (hl : Lvl w lv) (hs : Stp K w lv' w') : Dis lv lv' := fun k hk hm => by
  rcases hs.new k hm with h | h
  · exact hd k hk h
  · have := hl k hk; omega
theorem Dis.symm {lv lv2 : List Nat} (h : Dis lv lv2) : Dis lv2 lv := fun k hk hm => h k hm hk
theorem Dis.sub {lv lv2 a b : List Nat} (h : Dis lv lv2) (ha : ∀ k ∈ a, k ∈ lv) (hb : ∀ k ∈ b, k ∈ lv2) : Dis a b := fun k hk hm => h k (ha k hk) (hb k hm)
/-- The blocks that are there. -/
def trimL (w : World) (lv : List Nat) : List Nat := lv.filter fun k => decide (k < w.heap.size)
theorem trimL_sub {w : World} {lv : List Nat} {k : Nat} (h : k ∈ trimL w lv) : k ∈ lv := (List.mem_filter.1 h).1
theorem trimL_lvl (w : World) (lv : List Nat) : Lvl w (trimL w lv) := fun k hk => by simpa using (List.mem_filter.1 hk).2
theorem Lvl.mono {w w' : World} {lv : List Nat} (h : Lvl w lv) (hs : w.heap.size ≤ w'.heap.size) : Lvl w' lv := fun k hk => Nat.lt_of_lt_of_le (h k hk) hs
theorem PP.trimL {lv : List Nat} {w : World} {p : Nat} {s : PS} (h : PP lv w p s) : PP (trimL w lv) w p s := h.trim
theorem Toks.sub {lv lv' : List Nat} {w : World} {ts : List Tok} {ov : Value} {qs : List (Value × Value)} (h : Toks lv w ts ov qs) (hs : ∀ k ∈ lv', k ∈ lv) : Toks lv' w ts ov qs :=
  ⟨h.row, h.len, fun i t q ht hq => (h.toks i t q ht hq).sub hs, fun k hk hm => h.rOut k hk (hs k hm)⟩
theorem Stp.sub {lv lv' lv2 : List Nat} {w w' : World} (h : Stp lv w lv' w') (hs : ∀ k ∈ lv2, k ∈ lv') : Stp lv w lv2 w' := ⟨h.upd, fun k hk => h.new k (hs k hk)⟩
/-- Tokens are in no block of another parser. -/
theorem Toks.apart {lv K lv' : List Nat} {w w' : World} {ts : List Tok} {ov : Value} {qs : List (Value × Value)} (h : Toks K w ts ov qs) (hs : Stp K w lv' w') : Toks lv' w' ts ov qs := h.stp hs
theorem AT.nil (e : TypeId) (w : World) : AT e w [] (.slice none 0 0) [] := ⟨World.ownsRow_nil _ _ _ _, rfl, by simp⟩
theorem AT.one {e : TypeId} {w : World} {ts : List Tok} {v : Value} {qs : List (Value × Value)} (h : AT e w ts v qs) : ∀ u ∈ tsCells ts qs, u.oneCell' = true := by
  have key : ∀ (ts : List Tok) (qs : List (Value × Value)), (∀ (i : Nat) (t : Tok) (q : Value × Value), ts[i]? = some t → qs[i]? = some q → RTok w t q) → ∀ u ∈ tsCells ts qs, u.oneCell' = true := by
    intro ts
    induction ts with
    | nil => intro qs _ u hu; cases qs <;> simp [tsCells] at hu
    | cons t l ih =>
      intro qs hq u hu
      cases qs with
      | nil => simp [tsCells] at hu
      | cons q r =>
        simp only [tsCells, List.mem_append] at hu
        rcases hu with hu | hu
        · have h0 := hq 0 t q rfl rfl
          obtain ⟨pa, pc, hp⟩ := h0.params.form
          obtain ⟨da, dc, hd⟩ := h0.data.form
          simp only [tcells, hp, hd] at hu
          simp at hu
          rcases hu with rfl | rfl | rfl | rfl | rfl | rfl <;> rfl
        · exact ih r (fun i t' q' ht hq' => hq (i + 1) t' q' (by simpa using ht) (by simpa using hq')) u hu
  exact key ts qs h.toks

theorem told_lit (t : Tok) (pa da : Option Addr) (pn pc dn dc : Nat) (w : World) : Calls Try.prog 27 #[.agg #[.int .i64 t.kind, .int .u8 t.code, .int .u8 t.mark, .slice pa pn pc, .string (strOf t.inters), .slice da dn dc]] w fun e w' => e = .returned (.agg #[.int .i64 t.kind, .int .u8 t.code, .int .u8 t.mark, .slice pa pn pc, .string (strOf t.inters), .slice da dn dc]) ∧ Gr w w' := told_any t pa da pn pc dn dc w
/-- How far tokens are told. -/
structure AllPos (w : World) (B : Nat) (ts : List Tok) (qs : List (Value × Value)) (k : Nat) (v : Value) : Prop where
  row : w.ownsRow B 52 6 v k (tsCells (ts.take k) (qs.take k))
theorem take_snoc_get {α : Type} {l : List α} {k : Nat} {x : α} (h : l[k]? = some x) : l.take (k + 1) = l.take k ++ [x] := by
  rw [List.take_add_one, h]; rfl
set_option maxRecDepth 100000 in
set_option maxHeartbeats 2000000 in
theorem all_walk {w : World} {ts : List Tok} {v : Value} {qs : List (Value × Value)} (h : AT 31 w ts v qs) (hn : ts.length ≤ 200000) :
    Calls Try.prog 18 #[v] w fun e w' => ∃ v', e = .returned v' ∧ AT 52 w' ts v' qs ∧ Gr w w' := by
  obtain ⟨a1, c1, rfl⟩ := row_form h.row
  go_enter Try.func18, Try.ntmps18
  go_wp2_with fail
  go_loopw [3, 8] (fun v i wr => ∃ k : Nat, k ≤ ts.length ∧ i = .int .i64 k ∧ AllPos wr w.heap.size ts qs k v ∧ Gr w wr) (fun _ i _ => ts.length - (intOf i).toNat)
  case atStart => exact ⟨0, Nat.zero_le _, rfl, ⟨by simp only [List.take_zero]; exact World.ownsRow_nil _ _ _ _⟩, .refl _⟩
  case round =>
    obtain ⟨k, hk, rfl, hA, hg⟩ := hrel
    obtain ⟨va, vc, rfl⟩ := row_form hA.row
    by_cases hlt : k < ts.length
    · obtain ⟨g1, p1, t, q, hv1, ht, hq, hr1⟩ := tok_range (h.gr hg).row h.len hlt
      injection hv1 with e1 e2 e3
      subst e1
      have hrt := h.toks k t q ht hq
      obtain ⟨qp, qd⟩ := q
      obtain ⟨pa, pc, hp⟩ := hrt.params.form
      obtain ⟨da, dc, hd⟩ := hrt.data.form
      simp only at hp hd
      subst hp; subst hd
      have hts := take_snoc_get ht
      have hqs := take_snoc_get hq
      have hlq : (qs.take k).length = (ts.take k).length := by simp [h.len]
      have z0 := hr1 0 _ rfl
      have z1 := hr1 1 _ rfl
      have z2 := hr1 2 _ rfl
      have z3 := hr1 3 _ rfl
      have z4 := hr1 4 _ rfl
      have z5 := hr1 5 _ rfl
      simp only [Nat.add_zero] at z0
      have hgl : g1 < wr.heap.size := lt_of_cell z0
      have HT := Lib.hid hts; have HQ := Lib.hid hqs; have HL := Lib.hid hlq
      have hkn : (k : Int) < (ts.length : Int) := by omega
      have hg1 := hg.alloc (.cells (tcells t (.slice pa t.params.length pc, .slice da t.data.length dc)).toArray 31)
      have hb1 := heap_alloc_new wr (.cells (tcells t (.slice pa t.params.length pc, .slice da t.data.length dc)).toArray 31)
      clear h hr1 hrt ht hq hts hqs hlq e2 e3
      go_wp2_with (first
        | (go_at_call 27; refine (told_lit t _ _ _ _ _ _ _).mono ?_; rintro e w2 ⟨rfl, hg2⟩; have hg2' := hg1.trans hg2)
        | (at_builtin; refine wpList_pushN rfl _ _ _ rfl w.heap.size 52 _ 6 80 Try.underlying25 rtoken_info rfl (by omega) (by omega) _ _ _ (tcells t (.slice pa t.params.length pc, .slice da t.data.length dc)) (ownsRow_gr hA.row (((Gr.refl wr).alloc _).trans (hg2.alloc _))) _ rfl rfl (heap_alloc_new _ _) rfl (tok_one _ _ _ _ _ _ _) (by omega) (by have := hg2'.size; simp; omega) ?_; intro g cp w3 hG hown))
      go_roundw
      case rel => exact ⟨k + 1, by omega, by go_num, ⟨by rw [HT.out, HQ.out, tsCells_append _ _ _ _ HL.out]; exact hown⟩, hG.gr (hg2'.alloc _) fun k hk => ownsRow_base hA.row hk⟩
      case measure => simp [intOf]; omega
    · have hkn : ¬ (k : Int) < (ts.length : Int) := by omega
      have hke : k = ts.length := by omega
      have H := Lib.hid hke
      clear hke
      go_wp2_with fail
      go_ret
      have hr := hA.row
      have hkl : k = qs.length := by rw [h.len]; exact H.out
      rw [List.take_of_length_le (by omega), List.take_of_length_le (by omega)] at hr
      have hke := H.out
      subst hke
      exact ⟨.slice va ts.length vc, rfl, ⟨ownsRow_zero hr, h.len, fun i t q ht hq => (h.toks i t q ht hq).gr hg⟩, hg⟩
end Go.Proofs.Ytgbmjlajheeciaa
