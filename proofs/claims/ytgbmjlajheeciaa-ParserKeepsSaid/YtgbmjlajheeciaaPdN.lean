/-
  A parser's Clone, walked whole.
-/
import Derived.Test.YtgbmjlajheeciaaPdM
namespace Go.Proofs.Ytgbmjlajheeciaa
set_option linter.unusedSimpArgs false
set_option linter.unusedVariables false
open Go.RowKit

theorem Gr.of_upd {w0 w w' : World} {K : List Nat} (hg : Gr w0 w) (hu : Upd K w w') (hK : ∀ k ∈ K, w0.heap.size ≤ k) : Gr w0 w' :=
  ⟨hu.os.trans hg.os, hu.tape.trans hg.tape, hu.output.trans hg.output, Nat.le_trans hg.size hu.size, fun k hk => (hu.block k (Nat.lt_of_lt_of_le hk hg.size) fun hm => by have := hK k hm; omega).trans (hg.block k hk)⟩
theorem parser_size : (Try.prog.info? 35).map (·.size) = some 13 := by kernel_rfl
theorem acc_size : (Try.prog.info? 33).map (·.size) = some 3 := by kernel_rfl
theorem now_copy {w : World} {s : PS} {da : Option Addr} {dc : Nat} (hd : s.data.length ≤ 100000) (h : HasRow w 5 (.slice da s.data.length dc) s.data.length (bcells s.data)) :
    Calls Try.prog 31 #[.agg #[.int .i64 s.kind, .int .u8 s.code, .int .u8 s.mark, .slice none 0 0, .string ⟨#[]⟩, .slice da s.data.length dc]] w fun e w' => ∃ dv, e = .returned (.agg #[.int .i64 s.kind, .int .u8 s.code, .int .u8 s.mark, .slice none 0 0, .string ⟨#[]⟩, dv]) ∧
      w'.ownsRow w.heap.size 5 1 dv s.data.length (bcells s.data) ∧ Gr w w' := by
  refine (copy_walk (nl := true) (t := ⟨s.kind, s.code, s.mark, [], [], s.data⟩) (pa := none) (pc := 0) (by simp) hd ⟨.nil _ _, h⟩ (fun _ => rfl)).mono ?_
  rintro e w' ⟨pv, dv, rfl, _, hr, hg, hn⟩
  have := hn rfl
  subst this
  exact ⟨dv, rfl, hr, hg⟩

/-- A parser in memory, part by part. -/
def PMemF (B : Nat) (lv : List Nat) (w : World) (p : Nat) (s : PS) (iv dv av : Value) : Prop :=
  w.heap[p]? = some (.cells (pcells s iv dv av) 35 (0, 0)) ∧ w.ownsRow B 5 1 iv s.inters.length (bcells s.inters) ∧ w.ownsRow B 5 1 dv s.data.length (bcells s.data) ∧ w.ownsRow B 3 1 av s.done.length (icells s.done) ∧ p ∈ lv ∧
  (∀ k, iv.ownBlock = some k → k ∈ lv) ∧ (∀ k, dv.ownBlock = some k → k ∈ lv) ∧ (∀ k, av.ownBlock = some k → k ∈ lv) ∧ (∀ k, iv.ownBlock = some k → dv.ownBlock ≠ some k) ∧ B ≤ w.heap.size
theorem PP.fields [Bs] {lv : List Nat} {w : World} {p : Nat} {s : PS} (h : PP lv w p s) : ∃ iv dv av, PMemF Bs.b lv w p s iv dv av := by
  obtain ⟨iv, dv, av, h⟩ := h
  exact ⟨iv, dv, av, h.blk, h.inters, h.data, h.done, h.pIn, h.iIn, h.dIn, h.aIn, h.apart, h.bs⟩
theorem PP.build [Bs] {lv : List Nat} {w : World} {p : Nat} {s : PS} {iv dv av : Value} (h : PMemF Bs.b lv w p s iv dv av) : PP lv w p s := by
  obtain ⟨h1, h2, h3, h4, h5, h6, h7, h8, h9, h10⟩ := h
  exact ⟨iv, dv, av, h1, h2, h3, h4, h5, h6, h7, h8, h9, h10⟩
theorem PP.zero {B : Nat} {lv : List Nat} {w : World} {p : Nat} {s : PS} (h : @PP ⟨B⟩ lv w p s) : PP lv w p s := by
  obtain ⟨iv, dv, av, h1, h2, h3, h4, h5, h6, h7, h8, h9, h10⟩ := @PP.fields ⟨B⟩ _ _ _ _ h
  exact ⟨iv, dv, av, h1, ownsRow_le (Nat.zero_le _) h2, ownsRow_le (Nat.zero_le _) h3, ownsRow_le (Nat.zero_le _) h4, h5, h6, h7, h8, h9, Nat.zero_le _⟩
theorem PP.grB [Bs] {lv : List Nat} {w w' : World} {p : Nat} {s : PS} (h : PP lv w p s) (hg : Gr w w') : PP lv w' p s := by
  obtain ⟨iv, dv, av, h⟩ := h
  exact ⟨iv, dv, av, hg.blk h.blk, ownsRow_gr h.inters hg, ownsRow_gr h.data hg, ownsRow_gr h.done hg, h.pIn, h.iIn, h.dIn, h.aIn, h.apart, Nat.le_trans h.bs hg.size⟩
theorem Toks.fields [Bs] {lv : List Nat} {w : World} {ts : List Tok} {ov : Value} {qs : List (Value × Value)} (h : Toks lv w ts ov qs) : w.ownsRow Bs.b 31 6 ov ts.length (tsCells ts qs) ∧ qs.length = ts.length ∧
    ∀ (i : Nat) (t : Tok) (q : Value × Value), ts[i]? = some t → qs[i]? = some q → RTok w t q ∧ (∀ k, q.1.ownBlock = some k → Bs.b ≤ k) ∧ ∀ k, q.2.ownBlock = some k → Bs.b ≤ k :=
  ⟨h.row, h.len, fun i t q ht hq => ⟨⟨(h.toks i t q ht hq).params, (h.toks i t q ht hq).data⟩, (h.toks i t q ht hq).pNew, (h.toks i t q ht hq).dNew⟩⟩
/-- Tokens in blocks from a base on. -/
structure ATB (B : Nat) (e : TypeId) (w : World) (ts : List Tok) (v : Value) (qs : List (Value × Value)) : Prop where
  at_ : AT e w ts v qs
  row : ∀ k, v.ownBlock = some k → B ≤ k
  pNew : ∀ (i : Nat) (q : Value × Value), qs[i]? = some q → (∀ k, q.1.ownBlock = some k → B ≤ k) ∧ ∀ k, q.2.ownBlock = some k → B ≤ k
theorem ATB.of {B : Nat} {lv : List Nat} {w : World} {ts : List Tok} {ov : Value} {qs : List (Value × Value)} (h : @Toks ⟨B⟩ lv w ts ov qs) : ATB B 31 w ts ov qs := by
  obtain ⟨h1, h2, h3⟩ := @Toks.fields ⟨B⟩ _ _ _ _ _ h
  refine ⟨⟨ownsRow_le (Nat.zero_le _) h1, h2, fun i t q ht hq => (h3 i t q ht hq).1⟩, fun k hk => ownsRow_base h1 hk, fun i q hq => ?_⟩
  have hi : i < ts.length := by
    have := (List.getElem?_eq_some_iff.1 hq).1
    omega
  exact (h3 i _ q (List.getElem?_eq_getElem hi) hq).2
/-- Only blocks ahead of the base have changed. -/
theorem ATB.low {B : Nat} {K : List Nat} {e : TypeId} {w w' : World} {ts : List Tok} {v : Value} {qs : List (Value × Value)} (h : ATB B e w ts v qs) (hu : Upd K w w') (hK : ∀ k ∈ K, k < B) : ATB B e w' ts v qs := by
  refine ⟨⟨ownsRow_same h.at_.row fun k hk => hu.block k (ownsRow_blk h.at_.row hk) (fun hm => by have := h.row k hk; have := hK k hm; omega), h.at_.len, fun i t q ht hq => ?_⟩, h.row, h.pNew⟩
  obtain ⟨h1, h2⟩ := h.pNew i q hq
  have := h.at_.toks i t q ht hq
  exact ⟨this.params.same fun k hk => hu.block k (this.params.blk hk) (fun hm => by have := h1 k hk; have := hK k hm; omega), this.data.same fun k hk => hu.block k (this.data.blk hk) (fun hm => by have := h2 k hk; have := hK k hm; omega)⟩
theorem ATB.gr {B : Nat} {e : TypeId} {w w' : World} {ts : List Tok} {v : Value} {qs : List (Value × Value)} (h : ATB B e w ts v qs) (hg : Gr w w') : ATB B e w' ts v qs := ⟨h.at_.gr hg, h.row, h.pNew⟩
/-- What a clone leaves. -/
def CloneTo (w : World) (s : PS) (e : Ending) (w' : World) : Prop := ∃ q lvq, e = .returned (.pointer (some ⟨q, 0, none⟩)) ∧ @PP ⟨w.heap.size⟩ lvq w' q s ∧ OwnL w.heap.size lvq ∧ Gr w w' ∧ Lvl w' lvq
set_option maxRecDepth 100000 in
set_option maxHeartbeats 2000000 in
theorem pclone_walk {lv : List Nat} {w : World} {p : Nat} {s : PS} (hok : s.ok) (h : PP lv w p s) : Calls Try.prog 19 #[.pointer (some ⟨p, 0, none⟩)] w (CloneTo w s) := by
  obtain ⟨iv, dv, av, h⟩ := h
  obtain ⟨k0, k1, k2, k3, k4, k5, k6, k7, k8, k9, k10, k11, k12, kf⟩ := cells13 h.blk
  have hir := HasRow.of_own h.inters
  have hdr := HasRow.of_own h.data
  obtain ⟨ia, ic, rfl⟩ := row_form h.inters
  obtain ⟨da, dc, rfl⟩ := row_form h.data
  obtain ⟨aa, ac, rfl⟩ := row_form h.done
  have hni := hok.inters
  have hnd := hok.data
  have hpl := blk_lt h.blk
  have hrg : w.rangeAt p 0 (pcells s (.slice ia s.inters.length ic) (.slice da s.data.length dc) (.slice aa s.done.length ac)).toList := range_part h.blk 0 _ fun j v hj => by rw [Nat.zero_add]; simpa using hj
  clear k0 k1 k2 k3 k4 k5 k6 k7 k8 k9 k10 k11 k12 kf
  go_enter Try.func19, Try.ntmps19
  go_wp2_with (first
    | (refine wpList_load_whole rfl 35 _ rfl p 0 rfl (pcells s (.slice ia s.inters.length ic) (.slice da s.data.length dc) (.slice aa s.done.length ac)) _ hrg Try.underlying35 rfl parser_size ?_)
    | (refine wpList_store_only rfl 35 _ _ rfl w.heap.size (pcells s (.slice ia s.inters.length ic) (.slice da s.data.length dc) (.slice aa s.done.length ac)) rfl rfl 35 _ (heap_alloc_new w _) parser_size rfl (by kernel_rfl) ?_; intro w1 hh1 hu1 hs1
       have hG1 : Gr w w1 := Gr.of_upd ((Gr.refl w).alloc _) hu1 (by simp)
       obtain ⟨k0, k1, k2, k3, k4, k5, k6, k7, k8, k9, k10, k11, k12, kf⟩ := cells13 (hG1.blk h.blk))
    | (go_at_call 31; refine (now_copy (by omega) (hdr.gr hG1)).mono ?_; rintro e w2 ⟨dv2, rfl, hd2, hg2⟩; have hG2 := hG1.trans hg2; have hh2 := hg2.blk hh1; obtain ⟨da2, dc2, rfl⟩ := row_form hd2)
    | (refine wpList_store_part rfl 31 _ _ rfl w.heap.size 1 #[.int .i64 s.kind, .int .u8 s.code, .int .u8 s.mark, .slice none 0 0, .string ⟨#[]⟩, .slice da2 s.data.length dc2] rfl rfl 35 _ (pcells s (.slice ia s.inters.length ic) (.slice da2 s.data.length dc2) (.slice aa s.done.length ac)) hh2 (by simp [pcells]) ptok_size (by kernel_rfl) (by simp [setL, pcells]) ?_; intro w3 hh3 hu3 hs3
       have hG3 : Gr w w3 := Gr.of_upd hG2 hu3 (by simp)
       obtain ⟨l0, l1, l2, l3, l4, l5, l6, l7, l8, l9, l10, l11, l12, lf⟩ := cells13 (hG3.blk h.blk))
    | (go_at_call 32; refine (cloneH_bytes (hir.gr hG3) (by omega)).mono ?_; rintro e w4 ⟨iv2, rfl, hi4, hg4⟩; have hG4 := hG3.trans hg4; have hh4 := hg4.blk hh3; obtain ⟨ia2, ic2, rfl⟩ := row_form hi4
       obtain ⟨m0, m1, m2, m3, m4, m5, m6, m7, m8, m9, m10, m11, m12, mf⟩ := cells13 hh4
       have hql := blk_lt hh4)
    | (go_at_call 33; have hca := acc_clone hok (h.gr (hG4.setCell (p := ⟨w.heap.size, 7, none⟩) (Nat.le_refl _) (.slice ia2 s.inters.length ic2))); (rw [show (w4.setCell ⟨w.heap.size, 7, none⟩ (.slice ia2 s.inters.length ic2)).heap.size = w4.heap.size by simp] at hca); refine hca.mono ?_; clear hca; rintro e w6 ⟨av2, rfl, hb6, ha6, hg6⟩
       obtain ⟨aa2, ac2, rfl⟩ := row_form ha6
       have hG6 := (hG4.setCell (p := ⟨w.heap.size, 7, none⟩) (Nat.le_refl _) (.slice ia2 s.inters.length ic2)).trans hg6
       have hh6 := hg6.blk (blk_set hh4 7 (.slice ia2 s.inters.length ic2))
       obtain ⟨z0, z1, z2, zf⟩ := cells3 hb6)
    | (refine wpList_store_part rfl 33 _ _ rfl w.heap.size 8 #[.slice aa2 s.done.length ac2, .int .i64 s.now, .bool s.begun] rfl rfl 35 _ (pcells s (.slice ia2 s.inters.length ic2) (.slice da2 s.data.length dc2) (.slice aa2 s.done.length ac2)) hh6 (by simp [pcells]) acc_size (by kernel_rfl) (by simp [setL, pcells]) ?_; intro w7 hh7 hu7 hs7
       have hG7 : Gr w w7 := Gr.of_upd hG6 hu7 (by simp)))
  have q1 : w.heap.size < w1.heap.size := by have := hs1; simp at this; omega
  have q3 : w.heap.size < w3.heap.size := by have := hg2.size; omega
  have far : ∀ {B e n : Nat} {v : Value} {xs : List Value} {wa wb : World}, wa.ownsRow B e 1 v n xs → w.heap.size < B → Upd [w.heap.size] wa wb → wb.ownsRow B e 1 v n xs := fun h hB hu => ownsRow_same h fun k hk => hu.block k (ownsRow_blk h hk) (by have := ownsRow_base h hk; simp; omega)
  have d7 := far (ownsRow_gr (far (ownsRow_gr (far hd2 q1 hu3) hg4) q1 (Upd.of_setCell w4 w.heap.size 7 _)) hg6) q1 hu7
  have i7 := far (ownsRow_gr (far hi4 q3 (Upd.of_setCell w4 w.heap.size 7 _)) hg6) q3 hu7
  have a7 := far ha6 hql hu7
  go_ret
  refine ⟨w.heap.size, w.heap.size :: ((Value.slice ia2 s.inters.length ic2).ownBlock.toList ++ (Value.slice da2 s.data.length dc2).ownBlock.toList ++ (Value.slice aa2 s.done.length ac2).ownBlock.toList), rfl, @PP.build ⟨w.heap.size⟩ _ _ _ _ _ _ _ ⟨hh7, ownsRow_le (Nat.le_of_lt q3) i7, ownsRow_le (Nat.le_of_lt q1) d7, ownsRow_le (Nat.le_of_lt hql) a7, by simp, fun k hk => by simp [hk], fun k hk => by simp [hk], fun k hk => by simp [hk], fun k hk hk' => ?_, hG7.size⟩, fun k hk => ?_, hG7, fun k hk => ?_⟩
  · have h1 := ownsRow_base hi4 hk
    have h2 := ownsRow_blk hd2 hk'
    omega
  · simp only [List.mem_cons, List.mem_append, Option.mem_toList] at hk
    rcases hk with rfl | (hk | hk) | hk
    · exact Nat.le_refl _
    · have := ownsRow_base i7 hk; omega
    · have := ownsRow_base d7 hk; omega
    · have := ownsRow_base a7 hk; omega
  · simp only [List.mem_cons, List.mem_append, Option.mem_toList] at hk
    rcases hk with rfl | (hk | hk) | hk
    · exact blk_lt hh7
    · exact ownsRow_blk i7 hk
    · exact ownsRow_blk d7 hk
    · exact ownsRow_blk a7 hk
end Go.Proofs.Ytgbmjlajheeciaa
