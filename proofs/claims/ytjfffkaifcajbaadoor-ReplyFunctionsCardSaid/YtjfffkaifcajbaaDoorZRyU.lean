/-
  A token's bytes are bytes, and few.
  Two tokens that a parser said, looked at.
  Law 18's 'few'.
-/
import Derived.Deep.DeepCutAuto
import Derived.Test.YtjfffkaifcajbaaDoorZTkX0
import Derived.Test.YtjfffkaifcajbaaDoorZOrd6
import Derived.Test.YtjfffkaifcajbaaDoorZPdI
import Derived.Test.YtjfffkaifcajbaaDoorZRyJ
namespace Go.Proofs.YtjfffkaifcajbaaDoor
set_option linter.unusedSimpArgs false
set_option linter.unusedVariables false
open Go.RowKit
set_option linter.unusedVariables false

theorem bytes_in {t : Tok} (hr : TRange t) (h : Can t) (eight : Bool) : ∀ c ∈ bytesR t eight, 0 ≤ c ∧ c < 256 := by
  have hpr : ∀ x : Int, 0 ≤ x → x < 256 → ∀ c ∈ pairR x eight, 0 ≤ c ∧ c < 256 := by
    intro x h0 h1 c hc
    unfold pairR at hc
    split at hc
    · rename_i hx
      simp at hc; omega
    · simp at hc; omega
  have hf : ∀ ps, ∀ c ∈ fmtR ps, 0 ≤ c ∧ c < 256 := fun ps c hc => by have := fmtR_in ps c hc; omega
  have hl : ∀ {l : List Int}, IntsOk l → ∀ c ∈ l, 0 ≤ c ∧ c < 256 := fun h c hc => by have := h.2 c hc; omega
  have hb : ∀ k, 0 ≤ begR k ∧ begR k < 256 := fun k => by unfold begR; (repeat' split) <;> omega
  cases h with
  | print c hh => intro x hx; simp [bytesR] at hx; omega
  | ctrl c hh => intro x hx; simp [bytesR] at hx; omega
  | esc c l hh hl0 hx =>
    intro x hx
    by_cases h0 : l = []
    · subst h0
      simp [bytesR] at hx
      exact hpr c (by omega) (by omega) x hx
    · simp [bytesR, h0] at hx
      rcases hx with rfl | hx | rfl
      · omega
      · exact hl hl0 x hx
      · omega
  | csi c m ps l hh hm hps hl0 =>
    intro x hx
    simp [bytesR] at hx
    rcases hx with hx | hx | hx | hx | hx
    · exact hpr _ (hb 4).1 (hb 4).2 x hx
    · rcases hm with hm | hm <;> omega
    · exact hf ps x hx
    · exact hl hl0 x hx
    · omega
  | dcs c m ps l d hh hm hps hl0 hd =>
    intro x hx
    simp [bytesR] at hx
    rcases hx with hx | hx | hx | hx | hx | hx | hx
    · exact hpr _ (hb 5).1 (hb 5).2 x hx
    · rcases hm with hm | hm <;> omega
    · exact hf ps x hx
    · exact hl hl0 x hx
    · omega
    · exact hr.data x hx
    · exact hpr 92 (by omega) (by omega) x hx
  | str k d hk hd =>
    intro x hx
    have h1 : ¬ k < 3 := by omega
    have h2 : ¬ k = 3 := by omega
    have h3 : ¬ k < 6 := by omega
    have h4 : 4 < k := by omega
    simp [bytesR, h1, h2, h3, h4] at hx
    rcases hx with hx | hx | hx
    · exact hpr _ (hb k).1 (hb k).2 x hx
    · exact hr.data x hx
    · exact hpr 92 (by omega) (by omega) x hx
theorem bytes_len {t : Tok} (h : Can t) (eight : Bool) : (bytesR t eight).length ≤ 5000 := by
  have hpr : ∀ x : Int, (pairR x eight).length ≤ 2 := fun x => by unfold pairR; split <;> simp
  have p4 := hpr (begR 4)
  have p5 := hpr (begR 5)
  have p9 := hpr 92
  cases h with
  | print c hh => simp [bytesR]
  | ctrl c hh => simp [bytesR]
  | esc c l hh hl0 hx =>
    have h3 := hl0.1
    have := hpr c
    by_cases h0 : l = []
    · subst h0; simp [bytesR]; omega
    · simp [bytesR, h0]; omega
  | csi c m ps l hh hm hps hl0 =>
    have h3 := hl0.1
    have hf := fmtR_len ps
    by_cases h0 : m = 0
    · simp [bytesR, h0]; omega
    · simp [bytesR, h0]; omega
  | dcs c m ps l d hh hm hps hl0 hd =>
    have h3 := hl0.1
    have h4 := hd.1
    have hf := fmtR_len ps
    by_cases h0 : m = 0
    · simp [bytesR, h0]; omega
    · simp [bytesR, h0]; omega
  | str k d hk hd =>
    have h1 : ¬ k < 3 := by omega
    have h2 : ¬ k = 3 := by omega
    have h3 : ¬ k < 6 := by omega
    have h4 : 4 < k := by omega
    have h5 := hd.1
    have := hpr (begR k)
    simp [bytesR, h1, h2, h3, h4]; omega
end Go.Proofs.YtjfffkaifcajbaaDoor

namespace Go.Proofs.YtjfffkaifcajbaaDoor
set_option linter.unusedSimpArgs false
set_option linter.unusedVariables false
open Go.RowKit
set_option linter.unusedVariables false

/-- Two tokens in memory, one behind the other. -/
structure TwoAt (w : World) (g : Nat) (k1 c1 m1 : Int) (s1 : ByteArray) (p1 d1 : Value) (k2 c2 m2 : Int) (s2 : ByteArray) (p2 d2 : Value) : Prop where
  e0 : w.cell? ⟨g, 0, none⟩ = some (.int .i64 k1)
  e1 : w.cell? ⟨g, 1, none⟩ = some (.int .u8 c1)
  e2 : w.cell? ⟨g, 2, none⟩ = some (.int .u8 m1)
  e3 : w.cell? ⟨g, 3, none⟩ = some p1
  e4 : w.cell? ⟨g, 4, none⟩ = some (.string s1)
  e5 : w.cell? ⟨g, 5, none⟩ = some d1
  f0 : w.cell? ⟨g, 6, none⟩ = some (.int .i64 k2)
  f1 : w.cell? ⟨g, 7, none⟩ = some (.int .u8 c2)
  f2 : w.cell? ⟨g, 8, none⟩ = some (.int .u8 m2)
  f3 : w.cell? ⟨g, 9, none⟩ = some p2
  f4 : w.cell? ⟨g, 10, none⟩ = some (.string s2)
  f5 : w.cell? ⟨g, 11, none⟩ = some d2
theorem TwoAt.gr {w w' : World} {g : Nat} {k1 c1 m1 k2 c2 m2 : Int} {s1 s2 : ByteArray} {p1 d1 p2 d2 : Value} (h : TwoAt w g k1 c1 m1 s1 p1 d1 k2 c2 m2 s2 p2 d2) (hg : Gr w w') : TwoAt w' g k1 c1 m1 s1 p1 d1 k2 c2 m2 s2 p2 d2 :=
  ⟨hg.cellAt h.e0, hg.cellAt h.e1, hg.cellAt h.e2, hg.cellAt h.e3, hg.cellAt h.e4, hg.cellAt h.e5, hg.cellAt h.f0, hg.cellAt h.f1, hg.cellAt h.f2, hg.cellAt h.f3, hg.cellAt h.f4, hg.cellAt h.f5⟩
theorem two_at {w : World} {t u : Tok} {v : Value} {qs : List (Value × Value)} (h : AT 50 w [t, u] v qs) :
    ∃ g cap a1 c1 a2 c2 b1 d1 b2 d2, v = .slice (some ⟨g, 0, none⟩) 2 cap ∧ TwoAt w g t.kind t.code t.mark (strOf t.inters) (.slice a1 t.params.length c1) (.slice a2 t.data.length c2) u.kind u.code u.mark (strOf u.inters) (.slice b1 u.params.length d1) (.slice b2 u.data.length d2) ∧
      RTok w t (.slice a1 t.params.length c1, .slice a2 t.data.length c2) ∧ RTok w u (.slice b1 u.params.length d1, .slice b2 u.data.length d2) := by
  obtain ⟨g, cap, t1, q1, h1, h2, h3, h4, h5⟩ := h.range (i := 0) (by simp)
  obtain ⟨g', cap', t2, q2, h1', h2', h3', h4', h5'⟩ := h.range (i := 1) (by simp)
  rw [h1] at h1'
  injection h1' with e1
  injection e1 with e1
  injection e1 with e1
  subst e1
  have t1e : t = t1 := by simpa using h2
  have t2e : u = t2 := by simpa using h2'
  subst t1e; subst t2e
  obtain ⟨q1a, q1b⟩ := q1
  obtain ⟨q2a, q2b⟩ := q2
  obtain ⟨a1, c1, e1⟩ := h5.params.form
  obtain ⟨a2, c2, e2⟩ := h5.data.form
  obtain ⟨b1, d1, e3⟩ := h5'.params.form
  obtain ⟨b2, d2, e4⟩ := h5'.data.form
  simp only at e1 e2 e3 e4
  subst e1; subst e2; subst e3; subst e4
  exact ⟨g, cap, a1, c1, a2, c2, b1, d1, b2, d2, h1, ⟨h4 0 _ rfl, h4 1 _ rfl, h4 2 _ rfl, h4 3 _ rfl, h4 4 _ rfl, h4 5 _ rfl, h4' 0 _ rfl, h4' 1 _ rfl, h4' 2 _ rfl, h4' 3 _ rfl, h4' 4 _ rfl, h4' 5 _ rfl⟩, h5, h5'⟩
/-- What two answers, one behind the other, are read as. -/
theorem split_two {w : World} {t u : Tok} {e1 e2 : Bool} {a : Option Addr} {n c : Nat} {L : List Int} (hL : L = ansR t e1 ++ ansR u e2) (hr : Rd w a n (bcells L)) (ht : TRange t) (hu : TRange u) (h1 : checkR t = 0) (h2 : checkR u = 0) :
    Calls Tryd.prog 29 #[.slice a n c] w (ToksTo w [t, u]) := by
  have e := ans_split ht hu h1 h2 e1 e2
  rw [← hL] at e
  have hin : ∀ c ∈ L, 0 ≤ c ∧ c < 256 := by
    intro c hc
    rw [hL, List.mem_append] at hc
    unfold ansR at hc
    rw [if_pos h1, if_pos h2] at hc
    rcases hc with hc | hc
    · exact bytes_in ht (check_zero ht h1) e1 c hc
    · exact bytes_in hu (check_zero hu h2) e2 c hc
  have hn : n ≤ 40000 := by
    have hl : L.length = n := by simpa [bcells] using hr.1
    have b1 := bytes_len (check_zero ht h1) e1
    have b2 := bytes_len (check_zero hu h2) e2
    have hl2 : L.length = (ansR t e1).length + (ansR u e2).length := by rw [hL, List.length_append]
    unfold ansR at hl2
    rw [if_pos h1, if_pos h2] at hl2
    omega
  have := psplit_walk (cap := c) hin hn hr
  rw [e] at this
  exact this
end Go.Proofs.YtjfffkaifcajbaaDoor

namespace Go.Proofs.YtjfffkaifcajbaaDoor
set_option linter.unusedSimpArgs false
set_option linter.unusedVariables false
open Go.RowKit
set_option linter.unusedVariables false

set_option maxRecDepth 100000 in
set_option maxHeartbeats 2000000 in
theorem few_any {w : World} {a : Option Addr} {n c : Nat} {ps : List Int} (h : Rd w a n (icells ps)) (hnc : n ≤ c) :
    Calls Tryd.prog 25 #[.slice a n c] w fun e w' => ∃ va vc, e = .returned (.slice va (min n 40) vc) ∧ w'.ownsRow w.heap.size 3 1 (.slice va (min n 40) vc) (min n 40) (icells (ps.take 40)) ∧ Gr w w' := by
  have hl : ps.length = n := by simpa [icells] using h.1
  have hnw := heap_alloc_new w (.cells #[] 3)
  have hgw := (Gr.refl w).alloc (.cells #[] 3)
  by_cases h40 : 40 < n
  · have hm : min n 40 = 40 := by omega
    rw [hm]
    obtain ⟨a', hrun, hcut⟩ := cut_to ints_elem ints_size a n c 40 (by omega) hnc
    have hR : Rd w a' 40 (icells (ps.take 40)) := by have := hcut _ _ h; simpa [icells, List.map_take] using this
    have hsrc := src_rd (t := 35) intsT (hR.gr hgw) (ione (ps.take 40)) (cap := c)
    have h40I : (40 : Int) < (n : Int) := by omega
    have hrun' : ∀ W : World, (Instr.slice 35 (.slice a n c) none (some (.int .i64 40)) none).run Tryd.prog W = .ok (.slice a' 40 c) W := hrun
    clear hm h hl hrun hcut hR
    go_enter Tryd.func25, Tryd.ntmps25
    go_wp2_with (at_builtin; refine wpList_new rfl _ _ _ _ rfl 3 _ 8 intsT intI rfl w.heap.size rfl hnw _ 40 (icells (ps.take 40)) rfl hsrc (by unfold maxLen; omega) (by omega) ?_; intro va vc w2 hown2 hgx2)
    go_ret
    exact ⟨va, vc, rfl, hown2, hgw.trans hgx2⟩
  · have hm : min n 40 = n := by omega
    rw [hm, List.take_of_length_le (by omega)]
    have hsrc := src_rd (t := 35) intsT (h.gr hgw) (ione ps) (cap := c)
    have h40I : ¬ (40 : Int) < (n : Int) := by omega
    clear hm h hl
    go_enter Tryd.func25, Tryd.ntmps25
    go_wp2_with (at_builtin; refine wpList_new rfl _ _ _ _ rfl 3 _ 8 intsT intI rfl w.heap.size rfl hnw _ n (icells ps) rfl hsrc (by unfold maxLen; omega) (by omega) ?_; intro va vc w2 hown2 hgx2)
    go_ret
    exact ⟨va, vc, rfl, hown2, hgw.trans hgx2⟩
end Go.Proofs.YtjfffkaifcajbaaDoor
