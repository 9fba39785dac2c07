/-
  Keys with texts: the law's do, walked.
-/
import Derived.Test.YtdfohcnejdhkiaaDoorZUdN
namespace Go.Proofs.YtdfohcnejdhkiaaDoor
set_option linter.unusedSimpArgs false
set_option linter.unusedVariables false
open Go.RowKit
set_option linter.unusedVariables false

/-- What an act does. -/
def doP (L : Txs) (lk : Bool) (kind : Int) (clear lock : Bool) (data : List UInt8) : Txs × Bool :=
  if kind = 1 then (L, lock) else if kind = 2 then (noL, lk) else ((dfnR L lk clear lock (data.take 3000)).1, (dfnR L lk clear lock (data.take 3000)).2.1)
def DoTo (w : World) (p : Nat) (r : Txs × Bool) (e : Ending) (w' : World) : Prop := ∃ v', e = .returned (.tuple #[.agg #[v', .bool r.2], .bool true]) ∧ KAt w' p r.1 r.2 ∧ DL w' v' (docL r.1) ∧ Upd [p] w w'
theorem DL.keys {w w' : World} {v : Value} {l : Ds} {p : Nat} {L : Txs} {lk : Bool} (h : DL w v l) (hK : KAt w p L lk) (hu : Upd [p] w w') : DL w' v l := h.upd hu hK.blk (by decide)
theorem Upd.two {w wr W : World} {p : Nat} {K : List Nat} (h : Upd [p] w wr) (hu : Upd K wr W) (hK : ∀ k ∈ K, w.heap.size ≤ k) : Upd [p] w W :=
  ⟨hu.os.trans h.os, hu.tape.trans h.tape, hu.output.trans h.output, Nat.le_trans h.size hu.size, fun k hk hn => (hu.block k (Nat.lt_of_lt_of_le hk h.size) fun hm => by have := hK k hm; omega).trans (h.block k hk hn)⟩
theorem doc_none : docL noL = [] := by decide
set_option maxHeartbeats 2000000 in
set_option maxRecDepth 100000 in
theorem do_lock {p : Nat} {L : Txs} {lk : Bool} {v : Value} (kind : Int) (clear lock : Bool) (data : List UInt8) {w : World} (hK : KAt w p L lk) (hD : DL w v (docL L)) (hu : usedL L ≤ 1000000) (hM : MaxOk w) (hdl : data.length ≤ 9223372036854775807) (hk : kind = 1) :
    Calls Tryd.prog 11 #[.pointer (some ⟨p, 0, none⟩), .agg #[v, .bool lk], .agg #[.int .i64 kind, .bool clear, .bool lock, .string (bsl data)]] w (DoTo w p (doP L lk kind clear lock data)) := by
  have hoc : (#[v, .bool lk] : Array Value).all (·.oneCell') = true := by
    obtain ⟨a, c, rfl⟩ := hD.form
    simp [Value.oneCell']
  obtain ⟨ts, hts⟩ : ∃ ts, ts = bsl data := ⟨_, rfl⟩
  have hr : doP L lk kind clear lock data = (L, lock) := by unfold doP; rw [if_pos hk]
  rw [hr]
  rw [← hts]
  subst hk
  clear hts hr hu hM hdl
  have hb4 : (((w.alloc (.cells #[v, .bool lk] 35)).alloc (.cells #[.int .i64 1, .bool clear, .bool lock, .string ts] 41)).alloc (.cells #[.slice none 0 0, .bool false] 35)).heap[w.heap.size]? = some (.cells #[v, .bool lk] 35 (0, 0)) := (((Gr.refl _).alloc _).alloc _).blk (heap_alloc_new w _)
  have hb5 : (((w.alloc (.cells #[v, .bool lk] 35)).alloc (.cells #[.int .i64 1, .bool clear, .bool lock, .string ts] 41)).alloc (.cells #[.slice none 0 0, .bool false] 35)).heap[w.heap.size + 1]? = some (.cells #[.int .i64 1, .bool clear, .bool lock, .string ts] 41 (0, 0)) := ((Gr.refl _).alloc _).blk (by have := heap_alloc_new (w.alloc (.cells #[v, .bool lk] 35)) (.cells #[.int .i64 1, .bool clear, .bool lock, .string ts] 41); simpa using this)
  have hb6 : (((w.alloc (.cells #[v, .bool lk] 35)).alloc (.cells #[.int .i64 1, .bool clear, .bool lock, .string ts] 41)).alloc (.cells #[.slice none 0 0, .bool false] 35)).heap[w.heap.size + 1 + 1]? = some (.cells #[.slice none 0 0, .bool false] 35 (0, 0)) := by have := heap_alloc_new ((w.alloc (.cells #[v, .bool lk] 35)).alloc (.cells #[.int .i64 1, .bool clear, .bool lock, .string ts] 41)) (.cells #[.slice none 0 0, .bool false] 35); simpa using this
  have hg3 : Gr w (((w.alloc (.cells #[v, .bool lk] 35)).alloc (.cells #[.int .i64 1, .bool clear, .bool lock, .string ts] 41)).alloc (.cells #[.slice none 0 0, .bool false] 35)) := (((Gr.refl w).alloc _).alloc _).alloc _
  have hpl := (Array.getElem?_eq_some_iff.1 hK.blk).1
  go_enter Tryd.func11, Tryd.ntmps11
  go_upto_region 1 with fail
  obtain ⟨w3, hw3⟩ : ∃ w3, w3 = (((w.alloc (.cells #[v, .bool lk] 35)).alloc (.cells #[.int .i64 1, .bool clear, .bool lock, .string ts] 41)).alloc (.cells #[.slice none 0 0, .bool false] 35)) := ⟨_, rfl⟩
  rw [← hw3] at hb4 hb5 hb6 hg3 ⊢
  obtain ⟨b4, hb4d⟩ : ∃ b, b = w.heap.size := ⟨_, rfl⟩
  obtain ⟨b5, hb5d⟩ : ∃ b, b = w.heap.size + 1 := ⟨_, rfl⟩
  obtain ⟨b6, hb6d⟩ : ∃ b, b = w.heap.size + 1 + 1 := ⟨_, rfl⟩
  have hne : p ≠ b4 ∧ p ≠ b5 ∧ p ≠ b6 ∧ b4 ≠ b5 ∧ b4 ≠ b6 ∧ b5 ≠ b6 ∧ w.heap.size ≤ b4 ∧ w.heap.size ≤ b5 ∧ w.heap.size ≤ b6 := by omega
  rw [← hb6d] at hb6 ⊢
  rw [← hb5d] at hb5 ⊢
  rw [← hb4d] at hb4 ⊢
  clear hw3 hb4d hb5d hb6d
  obtain ⟨n1, n2, n3, n4, n5, n6, n7, n8, n9⟩ := hne
  have a0 : w3.cell? ⟨b4, 0, none⟩ = some v := cell_of_row hb4 0 _ rfl
  have a1 : w3.cell? ⟨b4, 1, none⟩ = some (.bool lk) := cell_of_row hb4 1 _ rfl
  have c0 : w3.cell? ⟨b5, 0, none⟩ = some (.int .i64 1) := cell_of_row hb5 0 _ rfl
  have c1 : w3.cell? ⟨b5, 1, none⟩ = some (.bool clear) := cell_of_row hb5 1 _ rfl
  have c2 : w3.cell? ⟨b5, 2, none⟩ = some (.bool lock) := cell_of_row hb5 2 _ rfl
  have c3 : w3.cell? ⟨b5, 3, none⟩ = some (.string ts) := cell_of_row hb5 3 _ rfl
  have hK3 := hK.gr hg3
  have hD3 := hD.gr hg3
  have hoc2 : (#[v, .bool lock] : Array Value).all (·.oneCell') = true := by
    obtain ⟨a, c, rfl⟩ := hD.form
    simp [Value.oneCell']
  have hlock := lock_any lock hK3
  have HD3 := Lib.hid hD3
  have HK3 := Lib.hid hK3
  clear hD hK hD3 hK3
  go_wp2_with (first
    | (go_at_call 17; (with_reducible refine hlock.mono ?_); rintro e w4 ⟨rfl, hK4, hu4⟩
       have hb4w := hu4.blk hb4 (by simp; omega)
       have hb5w := hu4.blk hb5 (by simp; omega)
       have hb6w := hu4.blk hb6 (by simp; omega)
       have c2 : w4.cell? ⟨b5, 2, none⟩ = some (.bool lock) := cell_of_row hb5w 2 _ rfl
       have a1 : w4.cell? ⟨b4, 1, none⟩ = some (.bool lk) := cell_of_row hb4w 1 _ rfl
       have f1 : w4.frozen? ⟨b4, 1, none⟩ = false := by simp [World.frozen?, hb4w]
       have hb4x := blk_set hb4w 1 (.bool lock)
       simp only [List.setIfInBounds_toArray, List.set_cons_zero, List.set_cons_succ] at hb4x
       have hb6x := (Upd.of_setCell w4 b4 1 (.bool lock)).blk hb6w (by simp; omega)
       have y0 : (w4.setCell ⟨b4, 1, none⟩ (.bool lock)).cell? ⟨b4, 0, none⟩ = some v := cell_of_row hb4x 0 _ rfl
       have y1 : (w4.setCell ⟨b4, 1, none⟩ (.bool lock)).cell? ⟨b4, 1, none⟩ = some (.bool lock) := cell_of_row hb4x 1 _ rfl)
    | (refine wpList_store_part rfl _ _ _ rfl b6 0 #[v, .bool lock] rfl rfl _ _ #[v, .bool lock] hb6x (by simp) rkeys_size hoc2 rfl ?_; intro w6 hb7 hu6 hs6))
  refine bodyPost_ret (results_cell_tmp rfl _ w6 b6 35 #[v, .bool lock] (0, 0) _ rfl hb7 Tryd.underlying35 rfl rkeys_size) rfl ?_
  have hu5 : Upd [p] w (w4.setCell ⟨b4, 1, none⟩ (.bool lock)) := ((Upd.of_gr hg3).trans hu4).two (Upd.of_setCell _ _ _ _) (by simpa using n7)
  exact ⟨v, rfl, (hK4.upd (Upd.of_setCell w4 b4 1 (.bool lock)) (by simpa using n1)).upd hu6 (by simpa using n3), ((HD3.out.keys HK3.out hu4).upd (Upd.of_setCell w4 b4 1 (.bool lock)) hb4w (by decide)).upd hu6 hb6x (by decide), hu5.two hu6 (by simpa using n9)⟩
set_option maxHeartbeats 2000000 in
set_option maxRecDepth 100000 in
theorem do_clear {p : Nat} {L : Txs} {lk : Bool} {v : Value} (kind : Int) (clear lock : Bool) (data : List UInt8) {w : World} (hK : KAt w p L lk) (hD : DL w v (docL L)) (hu : usedL L ≤ 1000000) (hM : MaxOk w) (hdl : data.length ≤ 9223372036854775807) (hk : kind = 2) :
    Calls Tryd.prog 11 #[.pointer (some ⟨p, 0, none⟩), .agg #[v, .bool lk], .agg #[.int .i64 kind, .bool clear, .bool lock, .string (bsl data)]] w (DoTo w p (doP L lk kind clear lock data)) := by
  have hoc : (#[v, .bool lk] : Array Value).all (·.oneCell') = true := by
    obtain ⟨a, c, rfl⟩ := hD.form
    simp [Value.oneCell']
  obtain ⟨ts, hts⟩ : ∃ ts, ts = bsl data := ⟨_, rfl⟩
  have hr : doP L lk kind clear lock data = (noL, lk) := by unfold doP; rw [if_neg (by omega), if_pos hk]
  rw [hr]
  rw [← hts]
  subst hk
  clear hts hr hu hM hdl
  have hb4 : (((w.alloc (.cells #[v, .bool lk] 35)).alloc (.cells #[.int .i64 2, .bool clear, .bool lock, .string ts] 41)).alloc (.cells #[.slice none 0 0, .bool false] 35)).heap[w.heap.size]? = some (.cells #[v, .bool lk] 35 (0, 0)) := (((Gr.refl _).alloc _).alloc _).blk (heap_alloc_new w _)
  have hb5 : (((w.alloc (.cells #[v, .bool lk] 35)).alloc (.cells #[.int .i64 2, .bool clear, .bool lock, .string ts] 41)).alloc (.cells #[.slice none 0 0, .bool false] 35)).heap[w.heap.size + 1]? = some (.cells #[.int .i64 2, .bool clear, .bool lock, .string ts] 41 (0, 0)) := ((Gr.refl _).alloc _).blk (by have := heap_alloc_new (w.alloc (.cells #[v, .bool lk] 35)) (.cells #[.int .i64 2, .bool clear, .bool lock, .string ts] 41); simpa using this)
  have hb6 : (((w.alloc (.cells #[v, .bool lk] 35)).alloc (.cells #[.int .i64 2, .bool clear, .bool lock, .string ts] 41)).alloc (.cells #[.slice none 0 0, .bool false] 35)).heap[w.heap.size + 1 + 1]? = some (.cells #[.slice none 0 0, .bool false] 35 (0, 0)) := by have := heap_alloc_new ((w.alloc (.cells #[v, .bool lk] 35)).alloc (.cells #[.int .i64 2, .bool clear, .bool lock, .string ts] 41)) (.cells #[.slice none 0 0, .bool false] 35); simpa using this
  have hg3 : Gr w (((w.alloc (.cells #[v, .bool lk] 35)).alloc (.cells #[.int .i64 2, .bool clear, .bool lock, .string ts] 41)).alloc (.cells #[.slice none 0 0, .bool false] 35)) := (((Gr.refl w).alloc _).alloc _).alloc _
  have hpl := (Array.getElem?_eq_some_iff.1 hK.blk).1
  go_enter Tryd.func11, Tryd.ntmps11
  go_upto_region 1 with fail
  obtain ⟨w3, hw3⟩ : ∃ w3, w3 = (((w.alloc (.cells #[v, .bool lk] 35)).alloc (.cells #[.int .i64 2, .bool clear, .bool lock, .string ts] 41)).alloc (.cells #[.slice none 0 0, .bool false] 35)) := ⟨_, rfl⟩
  rw [← hw3] at hb4 hb5 hb6 hg3 ⊢
  obtain ⟨b4, hb4d⟩ : ∃ b, b = w.heap.size := ⟨_, rfl⟩
  obtain ⟨b5, hb5d⟩ : ∃ b, b = w.heap.size + 1 := ⟨_, rfl⟩
  obtain ⟨b6, hb6d⟩ : ∃ b, b = w.heap.size + 1 + 1 := ⟨_, rfl⟩
  have hne : p ≠ b4 ∧ p ≠ b5 ∧ p ≠ b6 ∧ b4 ≠ b5 ∧ b4 ≠ b6 ∧ b5 ≠ b6 ∧ w.heap.size ≤ b4 ∧ w.heap.size ≤ b5 ∧ w.heap.size ≤ b6 := by omega
  rw [← hb6d] at hb6 ⊢
  rw [← hb5d] at hb5 ⊢
  rw [← hb4d] at hb4 ⊢
  clear hw3 hb4d hb5d hb6d
  obtain ⟨n1, n2, n3, n4, n5, n6, n7, n8, n9⟩ := hne
  have a0 : w3.cell? ⟨b4, 0, none⟩ = some v := cell_of_row hb4 0 _ rfl
  have a1 : w3.cell? ⟨b4, 1, none⟩ = some (.bool lk) := cell_of_row hb4 1 _ rfl
  have c0 : w3.cell? ⟨b5, 0, none⟩ = some (.int .i64 2) := cell_of_row hb5 0 _ rfl
  have c1 : w3.cell? ⟨b5, 1, none⟩ = some (.bool clear) := cell_of_row hb5 1 _ rfl
  have c2 : w3.cell? ⟨b5, 2, none⟩ = some (.bool lock) := cell_of_row hb5 2 _ rfl
  have c3 : w3.cell? ⟨b5, 3, none⟩ = some (.string ts) := cell_of_row hb5 3 _ rfl
  have hK3 := hK.gr hg3
  have hD3 := hD.gr hg3
  have hlock := clear_any hK3
  have HD3 := Lib.hid hD3
  have HK3 := Lib.hid hK3
  clear hD hK hD3 hK3
  go_wp2_with (first
    | (go_at_call 21; (with_reducible refine hlock.mono ?_); rintro e w4 ⟨rfl, hK4, hu4⟩
       have hb4w := hu4.blk hb4 (by simp; omega)
       have hb6w := hu4.blk hb6 (by simp; omega)
       have a0 : w4.cell? ⟨b4, 0, none⟩ = some v := cell_of_row hb4w 0 _ rfl
       have f1 : w4.frozen? ⟨b4, 0, none⟩ = false := by simp [World.frozen?, hb4w]
       have hb4x := blk_set hb4w 0 (.slice none 0 0)
       simp only [List.setIfInBounds_toArray, List.set_cons_zero, List.set_cons_succ] at hb4x
       have hb6x := (Upd.of_setCell w4 b4 0 (.slice none 0 0)).blk hb6w (by simp; omega)
       have y0 : (w4.setCell ⟨b4, 0, none⟩ (.slice none 0 0)).cell? ⟨b4, 0, none⟩ = some (.slice none 0 0) := cell_of_row hb4x 0 _ rfl
       have y1 : (w4.setCell ⟨b4, 0, none⟩ (.slice none 0 0)).cell? ⟨b4, 1, none⟩ = some (.bool lk) := cell_of_row hb4x 1 _ rfl)
    | (refine wpList_store_part rfl _ _ _ rfl b6 0 #[.slice none 0 0, .bool lk] rfl rfl _ _ #[.slice none 0 0, .bool lk] hb6x (by simp) rkeys_size (by simp [Value.oneCell']) rfl ?_; intro w6 hb7 hu6 hs6))
  refine bodyPost_ret (results_cell_tmp rfl _ w6 b6 35 #[.slice none 0 0, .bool lk] (0, 0) _ rfl hb7 Tryd.underlying35 rfl rkeys_size) rfl ?_
  have hu5 : Upd [p] w (w4.setCell ⟨b4, 0, none⟩ (.slice none 0 0)) := ((Upd.of_gr hg3).trans hu4).two (Upd.of_setCell _ _ _ _) (by simpa using n7)
  exact ⟨_, rfl, (hK4.upd (Upd.of_setCell w4 b4 0 (.slice none 0 0)) (by simpa using n1)).upd hu6 (by simpa using n3), by rw [doc_none]; exact DL.nil _, hu5.two hu6 (by simpa using n9)⟩
set_option maxHeartbeats 2000000 in
set_option maxRecDepth 100000 in
theorem do_def {p : Nat} {L : Txs} {lk : Bool} {v : Value} (kind : Int) (clear lock : Bool) (data : List UInt8) {w : World} (hK : KAt w p L lk) (hD : DL w v (docL L)) (hu : usedL L ≤ 1000000) (hM : MaxOk w) (hdl : data.length ≤ 9223372036854775807) (hk1 : ¬ kind = 1) (hk2 : ¬ kind = 2) :
    Calls Tryd.prog 11 #[.pointer (some ⟨p, 0, none⟩), .agg #[v, .bool lk], .agg #[.int .i64 kind, .bool clear, .bool lock, .string (bsl data)]] w (DoTo w p (doP L lk kind clear lock data)) := by
  have hoc : (#[v, .bool lk] : Array Value).all (·.oneCell') = true := by
    obtain ⟨a, c, rfl⟩ := hD.form
    simp [Value.oneCell']
  obtain ⟨ts, hts⟩ : ∃ ts, ts = bsl data := ⟨_, rfl⟩
  obtain ⟨r, hrd⟩ : ∃ r, r = dfnR L lk clear lock (data.take 3000) := ⟨_, rfl⟩
  have hr : doP L lk kind clear lock data = (r.1, r.2.1) := by unfold doP; rw [if_neg hk1, if_neg hk2, hrd]
  rw [hr]
  have hdef := fun (W : World) (h : KAt W p L lk) (hM : MaxOk W) => define_any clear lock (data.take 3000) h (by simp; omega) hM hu
  have hrdef := fun (W : World) (h : DL W v (docL L)) => rdefine_any (lk := lk) clear lock (data.take 3000) W h hK.len (by simp; omega) hu
  rw [← hrd] at hdef hrdef
  have hex : (bsl data).extract 0 3000 = bsl (data.take 3000) := by rw [bsl_extract]; rfl
  have hsz := bsl_size data
  obtain ⟨S, hS⟩ : ∃ S, S = bsl (data.take 3000) := ⟨_, rfl⟩
  rw [← hS] at hdef hrdef hex
  have hsm : ¬ 3000 < ts.size → ts = S := by
    intro h
    rw [hts, hS, List.take_of_length_le (by rw [hts, hsz] at h; omega)]
  rw [← hts] at hex hsz ⊢
  have hk1b : (kind == 1) = false := by simpa using hk1
  have hk2b : (kind == 2) = false := by simpa using hk2
  have HSM := Lib.hid hsm
  have hs63 : ts.size ≤ 9223372036854775807 := by omega
  clear hts hr hu hsm hrd hS hk1 hk2 hsz hdl
  have hb4 : (((w.alloc (.cells #[v, .bool lk] 35)).alloc (.cells #[.int .i64 kind, .bool clear, .bool lock, .string ts] 41)).alloc (.cells #[.slice none 0 0, .bool false] 35)).heap[w.heap.size]? = some (.cells #[v, .bool lk] 35 (0, 0)) := (((Gr.refl _).alloc _).alloc _).blk (heap_alloc_new w _)
  have hb5 : (((w.alloc (.cells #[v, .bool lk] 35)).alloc (.cells #[.int .i64 kind, .bool clear, .bool lock, .string ts] 41)).alloc (.cells #[.slice none 0 0, .bool false] 35)).heap[w.heap.size + 1]? = some (.cells #[.int .i64 kind, .bool clear, .bool lock, .string ts] 41 (0, 0)) := ((Gr.refl _).alloc _).blk (by have := heap_alloc_new (w.alloc (.cells #[v, .bool lk] 35)) (.cells #[.int .i64 kind, .bool clear, .bool lock, .string ts] 41); simpa using this)
  have hb6 : (((w.alloc (.cells #[v, .bool lk] 35)).alloc (.cells #[.int .i64 kind, .bool clear, .bool lock, .string ts] 41)).alloc (.cells #[.slice none 0 0, .bool false] 35)).heap[w.heap.size + 1 + 1]? = some (.cells #[.slice none 0 0, .bool false] 35 (0, 0)) := by have := heap_alloc_new ((w.alloc (.cells #[v, .bool lk] 35)).alloc (.cells #[.int .i64 kind, .bool clear, .bool lock, .string ts] 41)) (.cells #[.slice none 0 0, .bool false] 35); simpa using this
  have hg3 : Gr w (((w.alloc (.cells #[v, .bool lk] 35)).alloc (.cells #[.int .i64 kind, .bool clear, .bool lock, .string ts] 41)).alloc (.cells #[.slice none 0 0, .bool false] 35)) := (((Gr.refl w).alloc _).alloc _).alloc _
  have hpl := (Array.getElem?_eq_some_iff.1 hK.blk).1
  go_enter Tryd.func11, Tryd.ntmps11
  go_upto_region 1 with fail
  obtain ⟨w3, hw3⟩ : ∃ w3, w3 = (((w.alloc (.cells #[v, .bool lk] 35)).alloc (.cells #[.int .i64 kind, .bool clear, .bool lock, .string ts] 41)).alloc (.cells #[.slice none 0 0, .bool false] 35)) := ⟨_, rfl⟩
  rw [← hw3] at hb4 hb5 hb6 hg3 ⊢
  obtain ⟨b4, hb4d⟩ : ∃ b, b = w.heap.size := ⟨_, rfl⟩
  obtain ⟨b5, hb5d⟩ : ∃ b, b = w.heap.size + 1 := ⟨_, rfl⟩
  obtain ⟨b6, hb6d⟩ : ∃ b, b = w.heap.size + 1 + 1 := ⟨_, rfl⟩
  have hne : p ≠ b4 ∧ p ≠ b5 ∧ p ≠ b6 ∧ b4 ≠ b5 ∧ b4 ≠ b6 ∧ b5 ≠ b6 ∧ w.heap.size ≤ b4 ∧ w.heap.size ≤ b5 ∧ w.heap.size ≤ b6 := by omega
  rw [← hb6d] at hb6 ⊢
  rw [← hb5d] at hb5 ⊢
  rw [← hb4d] at hb4 ⊢
  clear hw3 hb4d hb5d hb6d
  obtain ⟨n1, n2, n3, n4, n5, n6, n7, n8, n9⟩ := hne
  have a0 : w3.cell? ⟨b4, 0, none⟩ = some v := cell_of_row hb4 0 _ rfl
  have a1 : w3.cell? ⟨b4, 1, none⟩ = some (.bool lk) := cell_of_row hb4 1 _ rfl
  have c0 : w3.cell? ⟨b5, 0, none⟩ = some (.int .i64 kind) := cell_of_row hb5 0 _ rfl
  have c1 : w3.cell? ⟨b5, 1, none⟩ = some (.bool clear) := cell_of_row hb5 1 _ rfl
  have c2 : w3.cell? ⟨b5, 2, none⟩ = some (.bool lock) := cell_of_row hb5 2 _ rfl
  have c3 : w3.cell? ⟨b5, 3, none⟩ = some (.string ts) := cell_of_row hb5 3 _ rfl
  have hK3 := hK.gr hg3
  have hD3 := hD.gr hg3
  have hdef := fun (W : World) (h : KAt W p L lk) (hg : Gr w W) => hdef W h (hM.gr hg)
  have HD3 := Lib.hid hD3
  have HK3 := Lib.hid hK3
  have HM := Lib.hid hM
  clear hD hK hM
  by_cases hbig : 3000 < ts.size
  · have hbigi : (3000 : Int) < (ts.size : Int) := by omega
    have f3 : w3.frozen? ⟨b5, 3, none⟩ = false := by simp [World.frozen?, hb5]
    have hb5x := blk_set hb5 3 (.string S)
    simp only [List.setIfInBounds_toArray, List.set_cons_zero, List.set_cons_succ] at hb5x
    have hb4x := (Upd.of_setCell w3 b5 3 (.string S)).blk hb4 (by simp; omega)
    have hb6x := (Upd.of_setCell w3 b5 3 (.string S)).blk hb6 (by simp; omega)
    have hK5 := hK3.upd (Upd.of_setCell w3 b5 3 (.string S)) (by simpa using n2)
    have hD5 := hD3.upd (Upd.of_setCell w3 b5 3 (.string S)) hb5 (by decide)
    have hg5 : Gr w (w3.setCell ⟨b5, 3, none⟩ (.string S)) := hg3.upd (Upd.of_setCell _ _ _ _) (by simpa using n8)
    have hu5 : Upd [p] w (w3.setCell ⟨b5, 3, none⟩ (.string S)) := Upd.of_gr hg5
    have y1 : (w3.setCell ⟨b5, 3, none⟩ (.string S)).cell? ⟨b5, 1, none⟩ = some (.bool clear) := cell_of_row hb5x 1 _ rfl
    have y2 : (w3.setCell ⟨b5, 3, none⟩ (.string S)).cell? ⟨b5, 2, none⟩ = some (.bool lock) := cell_of_row hb5x 2 _ rfl
    have y3 : (w3.setCell ⟨b5, 3, none⟩ (.string S)).cell? ⟨b5, 3, none⟩ = some (.string S) := cell_of_row hb5x 3 _ rfl
    have HD5 := Lib.hid hD5
    have HK5 := Lib.hid hK5
    have hdef := fun (W : World) (h : KAt (w3.setCell ⟨b5, 3, none⟩ (.string S)) p L lk) => hdef _ h hg5
    clear hD3 hK3 hD5
    have hb8a := fun (W : World) => heap_alloc_new W (.cells #[.slice none 0 0, .bool false] 35)
    go_wp2_with (first
      | (go_at_call 8; (with_reducible refine (hdef w3 hK5).mono ?_); rintro e w6 ⟨rfl, hK6, hu6⟩
         have hb4y := hu6.blk hb4x (by simpa using fun h => n1 h.symm)
         have hb5y := hu6.blk hb5x (by simpa using fun h => n2 h.symm)
         have hb6y := hu6.blk hb6x (by simpa using fun h => n3 h.symm)
         have a0 : w6.cell? ⟨b4, 0, none⟩ = some v := cell_of_row hb4y 0 _ rfl
         have a1 : w6.cell? ⟨b4, 1, none⟩ = some (.bool lk) := cell_of_row hb4y 1 _ rfl
         have c1 : w6.cell? ⟨b5, 1, none⟩ = some (.bool clear) := cell_of_row hb5y 1 _ rfl
         have c2 : w6.cell? ⟨b5, 2, none⟩ = some (.bool lock) := cell_of_row hb5y 2 _ rfl
         have c3 : w6.cell? ⟨b5, 3, none⟩ = some (.string S) := cell_of_row hb5y 3 _ rfl
         have hD6 := HD5.out.keys HK5.out hu6
         have HD6 := Lib.hid hD6
         clear hD6)
      | (go_at_call 24; (with_reducible refine (hrdef _ HD6.out).mono ?_); rintro e w7 ⟨v7, rfl, hD7, hg7⟩
         have hb6z := hg7.blk hb6y
         have ho7 : (#[v7, .bool r.2.1] : Array Value).all (·.oneCell') = true := by
           obtain ⟨a, c, rfl⟩ := hD7.form
           simp [Value.oneCell']
         have hb9 := heap_alloc_new w7 (.cells #[.slice none 0 0, .bool false] 35))
      | (refine wpList_store_part rfl _ _ _ rfl _ 0 #[v7, .bool r.2.1] rfl rfl _ _ #[v7, .bool r.2.1] hb9 (by simp) rkeys_size ho7 rfl ?_; intro w8 hb9x hu8 hs8
         have y0 : w8.cell? ⟨w7.heap.size, 0, none⟩ = some v7 := cell_of_row hb9x 0 _ rfl
         have y1 : w8.cell? ⟨w7.heap.size, 1, none⟩ = some (.bool r.2.1) := cell_of_row hb9x 1 _ rfl
         have hg78 : Gr w7 w8 := ((Gr.refl w7).alloc _).upd hu8 (by simp)
         have hb6u := hg78.blk hb6z)
      | (refine wpList_store_part rfl _ _ _ rfl b6 0 #[v7, .bool r.2.1] rfl rfl _ _ #[v7, .bool r.2.1] hb6u (by simp) rkeys_size ho7 rfl ?_; intro w9 hb7 hu9 hs9))
    refine bodyPost_ret (results_cell_tmp rfl _ w9 b6 35 #[v7, .bool r.2.1] (0, 0) _ rfl hb7 Tryd.underlying35 rfl rkeys_size) rfl ?_
    have hux := ((hu5.trans hu6).trans (Upd.of_gr (hg7.trans hg78))).two hu9 (by simpa using n9)
    exact ⟨v7, by simp, ((hK6.gr (hg7.trans hg78)).upd hu9 (by simpa using n3)), (hD7.gr hg78).upd hu9 hb6u (by decide), hux⟩
  · have hbigi : ¬ (3000 : Int) < (ts.size : Int) := by omega
    have hts := HSM.out hbig
    subst hts
    have hb5x := hb5
    have hb4x := hb4
    have hb6x := hb6
    have hK5 := hK3
    have hD5 := hD3
    have hu5 : Upd [p] w w3 := Upd.of_gr hg3
    have HD5 := Lib.hid hD5
    have HK5 := Lib.hid hK5
    have hdef := fun (W : World) (h : KAt w3 p L lk) => hdef _ h hg3
    clear hD3 hK3 hD5
    have hb8a := fun (W : World) => heap_alloc_new W (.cells #[.slice none 0 0, .bool false] 35)
    go_wp2_with (first
      | (go_at_call 8; (with_reducible refine (hdef w3 hK5).mono ?_); rintro e w6 ⟨rfl, hK6, hu6⟩
         have hb4y := hu6.blk hb4x (by simpa using fun h => n1 h.symm)
         have hb5y := hu6.blk hb5x (by simpa using fun h => n2 h.symm)
         have hb6y := hu6.blk hb6x (by simpa using fun h => n3 h.symm)
         have a0 : w6.cell? ⟨b4, 0, none⟩ = some v := cell_of_row hb4y 0 _ rfl
         have a1 : w6.cell? ⟨b4, 1, none⟩ = some (.bool lk) := cell_of_row hb4y 1 _ rfl
         have c1 : w6.cell? ⟨b5, 1, none⟩ = some (.bool clear) := cell_of_row hb5y 1 _ rfl
         have c2 : w6.cell? ⟨b5, 2, none⟩ = some (.bool lock) := cell_of_row hb5y 2 _ rfl
         have c3 : w6.cell? ⟨b5, 3, none⟩ = some (.string ts) := cell_of_row hb5y 3 _ rfl
         have hD6 := HD5.out.keys HK5.out hu6
         have HD6 := Lib.hid hD6
         clear hD6)
      | (go_at_call 24; (with_reducible refine (hrdef _ HD6.out).mono ?_); rintro e w7 ⟨v7, rfl, hD7, hg7⟩
         have hb6z := hg7.blk hb6y
         have ho7 : (#[v7, .bool r.2.1] : Array Value).all (·.oneCell') = true := by
           obtain ⟨a, c, rfl⟩ := hD7.form
           simp [Value.oneCell']
         have hb9 := heap_alloc_new w7 (.cells #[.slice none 0 0, .bool false] 35))
      | (refine wpList_store_part rfl _ _ _ rfl _ 0 #[v7, .bool r.2.1] rfl rfl _ _ #[v7, .bool r.2.1] hb9 (by simp) rkeys_size ho7 rfl ?_; intro w8 hb9x hu8 hs8
         have y0 : w8.cell? ⟨w7.heap.size, 0, none⟩ = some v7 := cell_of_row hb9x 0 _ rfl
         have y1 : w8.cell? ⟨w7.heap.size, 1, none⟩ = some (.bool r.2.1) := cell_of_row hb9x 1 _ rfl
         have hg78 : Gr w7 w8 := ((Gr.refl w7).alloc _).upd hu8 (by simp)
         have hb6u := hg78.blk hb6z)
      | (refine wpList_store_part rfl _ _ _ rfl b6 0 #[v7, .bool r.2.1] rfl rfl _ _ #[v7, .bool r.2.1] hb6u (by simp) rkeys_size ho7 rfl ?_; intro w9 hb7 hu9 hs9))
    refine bodyPost_ret (results_cell_tmp rfl _ w9 b6 35 #[v7, .bool r.2.1] (0, 0) _ rfl hb7 Tryd.underlying35 rfl rkeys_size) rfl ?_
    have hux := ((hu5.trans hu6).trans (Upd.of_gr (hg7.trans hg78))).two hu9 (by simpa using n9)
    exact ⟨v7, by simp, ((hK6.gr (hg7.trans hg78)).upd hu9 (by simpa using n3)), (hD7.gr hg78).upd hu9 hb6u (by decide), hux⟩
theorem do_any {p : Nat} {L : Txs} {lk : Bool} {v : Value} (kind : Int) (clear lock : Bool) (data : List UInt8) {w : World} (hK : KAt w p L lk) (hD : DL w v (docL L)) (hu : usedL L ≤ 1000000) (hM : MaxOk w) (hdl : data.length ≤ 9223372036854775807) :
    Calls Tryd.prog 11 #[.pointer (some ⟨p, 0, none⟩), .agg #[v, .bool lk], .agg #[.int .i64 kind, .bool clear, .bool lock, .string (bsl data)]] w (DoTo w p (doP L lk kind clear lock data)) := by
  by_cases h1 : kind = 1
  · exact do_lock kind clear lock data hK hD hu hM hdl h1
  · by_cases h2 : kind = 2
    · exact do_clear kind clear lock data hK hD hu hM hdl h2
    · exact do_def kind clear lock data hK hD hu hM hdl h1 h2
end Go.Proofs.YtdfohcnejdhkiaaDoor
