/-
  token.Check of any token.
  The document's Check of any token.
  The document's Check of any token: the whole.
  Any two tokens that came in: the document's Check, and its Same.
  A token that came in as an argument: what a walk is told of it.
-/
import Derived.ChangeOld
import Derived.Deep.Fields
import Derived.OpenShut
import Derived.ProofKit
import Derived.SizedLaws
import Derived.WideShapes
import Derived.Test.YtnnhaenmoifplaaDoorZTkJ
namespace Go.Proofs.YtnnhaenmoifplaaDoor
set_option linter.unusedSimpArgs false
set_option linter.unusedVariables false
open Go.RowKit
set_option linter.unusedVariables false

def greatB (ps l d : List Int) : Bool := decide (3 < l.length) || (decide (30 < ps.length) || (decide (4096 < d.length) || ps.any fun x => !(decide (0 ≤ x) && decide (x ≤ 65535))))
theorem greatB_iff (ps l d : List Int) : greatB ps l d = true ↔ Great ps l d := by
  unfold greatB Great
  simp only [Bool.or_eq_true, decide_eq_true_eq, List.any_eq_true, Bool.not_eq_true', Bool.and_eq_false_iff, decide_eq_false_iff_not]
  constructor
  · rintro (h | h | h | ⟨x, hx, h⟩)
    · exact .inl h
    · exact .inr (.inl h)
    · exact .inr (.inr (.inl h))
    · exact .inr (.inr (.inr ⟨x, hx, fun hh => by rcases h with h | h <;> omega⟩))
  · rintro (h | h | h | ⟨x, hx, h⟩)
    · exact .inl h
    · exact .inr (.inl h)
    · exact .inr (.inr (.inl h))
    · exact .inr (.inr (.inr ⟨x, hx, by omega⟩))
/-- Is what a kind must not have not there? -/
def restB (t : Tok) : Bool :=
  if t.kind = 1 ∨ t.kind = 2 then decide (t.mark = 0 ∧ t.params = [] ∧ t.inters = [] ∧ t.data = []) else if t.kind = 3 then decide (t.mark = 0 ∧ t.params = [] ∧ t.data = [])
  else if t.kind = 4 then decide (t.data = []) else if t.kind = 5 then true else decide (t.mark = 0 ∧ t.params = [] ∧ t.inters = [])
def goodB (t : Tok) : Bool := codeB t.kind t.code (decide (t.inters = [])) && (decide (t.mark = 0 ∨ (60 ≤ t.mark ∧ t.mark ≤ 63)) && (t.inters.all interB && (t.data.all dataOk && restB t)))
def checkR (t : Tok) : Int := if t.kind < 1 ∨ 9 < t.kind then 1 else if greatB t.params t.inters t.data = true then 2 else if goodB t = true then 0 else 3
structure TRange (t : Tok) : Prop where
  code : 0 ≤ t.code ∧ t.code < 256
  mark : 0 ≤ t.mark ∧ t.mark < 256
  inters : ∀ c ∈ t.inters, 0 ≤ c ∧ c < 256
  data : ∀ c ∈ t.data, 0 ≤ c ∧ c < 256

theorem can_of {t : Tok} (hr : TRange t) (hk : ¬ (t.kind < 1 ∨ 9 < t.kind)) (hg : greatB t.params t.inters t.data = false) (h : goodB t = true) : Can t := by
  obtain ⟨k, c, m, ps, l, d⟩ := t
  obtain ⟨hc, hm, _, _⟩ := hr
  simp only at hc hm hk hg
  have hG : ¬ Great ps l d := by rw [← greatB_iff, hg]; simp
  unfold Great at hG
  have g1 : l.length ≤ 3 := by omega
  have g2 : ps.length ≤ 30 := by omega
  have g3 : d.length ≤ 4096 := by omega
  have g4 : ∀ x ∈ ps, 0 ≤ x ∧ x ≤ 65535 := by
    intro x hx
    by_cases h : 0 ≤ x ∧ x ≤ 65535
    · exact h
    · exact absurd (.inr (.inr (.inr ⟨x, hx, h⟩))) hG
  simp only [goodB, Bool.and_eq_true, decide_eq_true_eq, List.all_eq_true] at h
  obtain ⟨h1, h2, h3, h4, h5⟩ := h
  have hI : IntsOk l := ⟨g1, fun x hx => of_decide_eq_true (h3 x hx)⟩
  have hD : DatOk d := ⟨g3, h4⟩
  have hM : MarkOk m := h2
  have hP : NumsL ps := ⟨g2, g4⟩
  rcases (by omega : k = 1 ∨ k = 2 ∨ k = 3 ∨ k = 4 ∨ k = 5 ∨ (6 ≤ k ∧ k ≤ 9)) with rfl | rfl | rfl | rfl | rfl | hk6
  · simp [restB] at h5
    obtain ⟨rfl, rfl, rfl, rfl⟩ := h5
    have : showsB c = true := h1
    exact .print c (by have := of_decide_eq_true this; omega)
  · simp [restB] at h5
    obtain ⟨rfl, rfl, rfl, rfl⟩ := h5
    have h1' : decide (1 ≤ c ∧ c ≤ 31 ∧ c ≠ 24 ∧ c ≠ 27) = true := h1
    exact .ctrl c (of_decide_eq_true h1')
  · simp [restB] at h5
    obtain ⟨rfl, rfl, rfl⟩ := h5
    have h1' : decide (¬ (decide (l = []) = true ∧ (opKind c ≠ 0 ∨ c = 92)) ∧ 48 ≤ c ∧ c ≤ 126) = true := h1
    obtain ⟨q1, q2⟩ := of_decide_eq_true h1'
    refine .esc c l q2 hI fun hl => ?_
    have q3 : ¬ (opKind c ≠ 0 ∨ c = 92) := fun hx => q1 ⟨by simp [hl], hx⟩
    refine ⟨?_, fun e => q3 (.inr e)⟩
    by_cases h0 : opKind c = 0
    · exact h0
    · exact absurd (.inl h0) q3
  · simp [restB] at h5
    subst h5
    have h1' : decide (64 ≤ c ∧ c ≤ 126) = true := h1
    exact .csi c m ps l (of_decide_eq_true h1') hM hP hI
  · have h1' : decide (64 ≤ c ∧ c ≤ 126) = true := h1
    exact .dcs c m ps l d (of_decide_eq_true h1') hM hP hI hD
  · have e5 : restB ⟨k, c, m, ps, l, d⟩ = decide (m = 0 ∧ ps = [] ∧ l = []) := by
      unfold restB
      simp only
      rw [if_neg (by omega), if_neg (by omega), if_neg (by omega), if_neg (by omega)]
    rw [e5] at h5
    obtain ⟨rfl, rfl, rfl⟩ := of_decide_eq_true h5
    have e1 : codeB k c (decide (([] : List Int) = [])) = decide (c = 0) := by
      unfold codeB
      rw [if_neg (by omega), if_neg (by omega), if_neg (by omega), if_neg (by omega)]
    rw [e1] at h1
    obtain rfl := of_decide_eq_true h1
    exact .str k d hk6 hD
theorem can_kind {t : Tok} (h : Can t) : 1 ≤ t.kind ∧ t.kind ≤ 9 := by cases h <;> simp <;> omega
theorem can_not_great {t : Tok} (h : Can t) : greatB t.params t.inters t.data = false := by
  have key : ∀ ps l d, NumsL ps → IntsOk l → DatOk d → greatB ps l d = false := by
    intro ps l d hp hl hd
    rw [Bool.eq_false_iff]
    intro e
    rcases (greatB_iff _ _ _).1 e with h | h | h | ⟨x, hx, h⟩
    · have := hl.1; omega
    · have := hp.1; omega
    · have := hd.1; omega
    · exact h (hp.2 x hx)
  have n0 : NumsL [] := ⟨by simp, by simp⟩
  have d0 : DatOk [] := ⟨by simp, by simp⟩
  cases h with
  | print c h => exact key _ _ _ n0 intsOk_nil d0
  | ctrl c h => exact key _ _ _ n0 intsOk_nil d0
  | esc c l h hl hx => exact key _ _ _ n0 hl d0
  | csi c m ps l h hm hp hl => exact key _ _ _ hp hl d0
  | dcs c m ps l d h hm hp hl hd => exact key _ _ _ hp hl hd
  | str k d hk hd => exact key _ _ _ n0 intsOk_nil hd
theorem can_good {t : Tok} (h : Can t) : goodB t = true := by
  have hi : ∀ l, IntsOk l → l.all interB = true := fun l h => List.all_eq_true.2 fun x hx => decide_eq_true (h.2 x hx)
  have hd' : ∀ d, DatOk d → d.all dataOk = true := fun d h => List.all_eq_true.2 h.2
  unfold goodB
  cases h with
  | print c h =>
    have : codeB 1 c (decide (([] : List Int) = [])) = true := decide_eq_true (show (32 ≤ c ∧ c ≤ 126) ∨ 160 ≤ c by omega)
    show (codeB 1 c (decide (([] : List Int) = [])) && _) = true
    rw [this]; simp [restB]
  | ctrl c h =>
    have : codeB 2 c (decide (([] : List Int) = [])) = true := decide_eq_true h
    show (codeB 2 c (decide (([] : List Int) = [])) && _) = true
    rw [this]; simp [restB]
  | esc c l h hl hx =>
    have : codeB 3 c (decide (l = [])) = true := decide_eq_true (show ¬ (decide (l = []) = true ∧ (opKind c ≠ 0 ∨ c = 92)) ∧ 48 ≤ c ∧ c ≤ 126 from ⟨fun ⟨a, b⟩ => by
      have := hx (of_decide_eq_true a)
      rcases b with b | b
      · exact b this.1
      · exact this.2 b, h⟩)
    simp [this, restB, hi l hl]
  | csi c m ps l h hm hp hl =>
    have : codeB 4 c (decide (l = [])) = true := decide_eq_true h
    have hmm : (m = 0 ∨ 60 ≤ m ∧ m ≤ 63) := hm
    simp [this, restB, hi l hl, hmm]
  | dcs c m ps l d h hm hp hl hd =>
    have : codeB 5 c (decide (l = [])) = true := decide_eq_true h
    have hmm : (m = 0 ∨ 60 ≤ m ∧ m ≤ 63) := hm
    simp [this, restB, hi l hl, hmm, hd' d hd]
  | str k d hk hd =>
    have e1 : codeB k 0 (decide (([] : List Int) = [])) = true := by
      unfold codeB
      rw [if_neg (by omega), if_neg (by omega), if_neg (by omega), if_neg (by omega)]; rfl
    have e5 : restB ⟨k, 0, 0, [], [], d⟩ = true := by
      unfold restB
      simp only
      rw [if_neg (by omega), if_neg (by omega), if_neg (by omega), if_neg (by omega)]; rfl
    show (codeB k 0 (decide (([] : List Int) = [])) && (_ && (_ && (d.all dataOk && restB ⟨k, 0, 0, [], [], d⟩)))) = true
    rw [e1, e5, hd' d hd]; simp
theorem check_can0 {t : Tok} (h : Can t) : checkR t = 0 := by
  have := can_kind h
  unfold checkR
  rw [if_neg (by omega), if_neg (by rw [can_not_great h]; simp), if_pos (can_good h)]
theorem check_zero {t : Tok} (hr : TRange t) (h : checkR t = 0) : Can t := by
  unfold checkR at h
  split at h
  · cases h
  · rename_i hk
    split at h
    · cases h
    · rename_i hg
      split at h
      · rename_i hgd; exact can_of hr hk (by simpa using hg) hgd
      · cases h

theorem len_ne {l : List Int} (h : l ≠ []) : l.length ≠ 0 := fun e => h (List.eq_nil_of_length_eq_zero e)
theorem rest_off4 {m : Int} {ps l d : List Int} (h : m = 0 → ps = [] → l = [] → ¬ d = []) : m ≠ 0 ∨ ps.length ≠ 0 ∨ l ≠ [] ∨ d.length ≠ 0 := by
  by_cases h1 : m = 0
  · by_cases h2 : ps = []
    · by_cases h3 : l = []
      · exact .inr (.inr (.inr (len_ne (h h1 h2 h3))))
      · exact .inr (.inr (.inl h3))
    · exact .inr (.inl (len_ne h2))
  · exact .inl h1
theorem rest_off3 {m : Int} {ps d : List Int} (h : m = 0 → ps = [] → ¬ d = []) : m ≠ 0 ∨ ps.length ≠ 0 ∨ d.length ≠ 0 := by
  by_cases h1 : m = 0
  · by_cases h2 : ps = []
    · exact .inr (.inr (len_ne (h h1 h2)))
    · exact .inr (.inl (len_ne h2))
  · exact .inl h1
theorem rest_offs {m : Int} {ps l : List Int} (h : m = 0 → ps = [] → ¬ l = []) : m ≠ 0 ∨ ps.length ≠ 0 ∨ l ≠ [] := by
  by_cases h1 : m = 0
  · by_cases h2 : ps = []
    · exact .inr (.inr (h h1 h2))
    · exact .inr (.inl (len_ne h2))
  · exact .inl h1
set_option maxHeartbeats 1000000 in
set_option maxRecDepth 100000 in
theorem great_false2 {w : World} {k c m : Int} {ps l d : List Int} {qp qd : Value} (hp : NumsL ps) (hl3 : l.length ≤ 3) (hd : d.length ≤ 4096) (h1 : HasRow w 3 qp ps.length (icells ps)) (h2 : HasRow w 5 qd d.length (bcells d)) :
    Calls Tryd.prog 56 #[.agg #[.int .i64 k, .int .u8 c, .int .u8 m, qp, .string (strOf l), qd]] w fun e w' => e = .returned (.bool false) ∧ Gr w w' := by
  obtain ⟨a1, c1, rfl⟩ := h1.form
  obtain ⟨a2, c2, rfl⟩ := h2.form
  have hs := strOf_size' l
  have hp30 := hp.1
  have hg := (Gr.refl w).alloc (.cells #[.int .i64 k, .int .u8 c, .int .u8 m, .slice a1 ps.length c1, .string (strOf l), .slice a2 d.length c2] 34)
  have hc := contains_none (h1.gr hg) hp
  obtain ⟨s, hsd⟩ : ∃ s, s = strOf l := ⟨_, rfl⟩
  rw [← hsd] at hs hc hg ⊢
  have hs3 : s.size ≤ 3 := by omega
  have q1 : decide (3 < (s.size : Int)) = false := by simp; omega
  have q2 : decide (30 < (ps.length : Int)) = false := by simp; omega
  have q3 : decide (4096 < (d.length : Int)) = false := by simp; omega
  clear hs hsd h1 h2 hp hl3
  go_enter Tryd.func56, Tryd.ntmps56
  go_wp2_with (go_at_call 65; refine hc.mono ?_; rintro e w1 ⟨rfl, rfl⟩)
  go_ret
  exact ⟨rfl, hg⟩

def ChecksTo (w : World) (k c m : Int) (s : ByteArray) (v1 v2 : Value) (r : Int) : Prop :=
  Calls Tryd.prog 48 #[.agg #[.int .i64 k, .int .u8 c, .int .u8 m, v1, .string s, v2]] w fun e w' => e = .returned (.int .i64 r) ∧ Gr w w'
set_option maxHeartbeats 1000000 in
set_option maxRecDepth 100000 in
theorem check_kind {w : World} {k c m : Int} {s : ByteArray} {a1 a2 : Option Addr} {n1 c1 n2 c2 : Nat} (hk : k < 1 ∨ 9 < k) : ChecksTo w k c m s (.slice a1 n1 c1) (.slice a2 n2 c2) 1 := by
  unfold ChecksTo
  by_cases h1 : k < 1
  · clear hk
    go_enter Tryd.func48, Tryd.ntmps48
    go_wp2_with fail
    go_ret
    exact ⟨rfl, by (repeat (first | with_reducible exact Gr.refl _ | with_reducible assumption | with_reducible refine Gr.setCell ?_ (by simp; try omega) _ | with_reducible refine Gr.alloc ?_ _ | with_reducible refine Gr.drew ?_ | with_reducible refine Gr.drewN ?_ _ | with_reducible refine Gr.trans ?_ (by assumption)))⟩
  · have h2 : 9 < k := hk.resolve_left h1
    clear hk
    go_enter Tryd.func48, Tryd.ntmps48
    go_wp2_with fail
    go_ret
    exact ⟨rfl, by (repeat (first | with_reducible exact Gr.refl _ | with_reducible assumption | with_reducible refine Gr.setCell ?_ (by simp; try omega) _ | with_reducible refine Gr.alloc ?_ _ | with_reducible refine Gr.drew ?_ | with_reducible refine Gr.drewN ?_ _ | with_reducible refine Gr.trans ?_ (by assumption)))⟩
set_option maxHeartbeats 1000000 in
set_option maxRecDepth 100000 in
theorem check_great {w : World} {k c m : Int} {s : ByteArray} {a1 a2 : Option Addr} {n1 c1 n2 c2 : Nat} (hk1 : 1 ≤ k) (hk9 : k ≤ 9)
    (hgr : ∀ w', Gr w w' → Calls Tryd.prog 56 #[.agg #[.int .i64 k, .int .u8 c, .int .u8 m, .slice a1 n1 c1, .string s, .slice a2 n2 c2]] w' fun e w2 => e = .returned (.bool true) ∧ Gr w' w2) : ChecksTo w k c m s (.slice a1 n1 c1) (.slice a2 n2 c2) 2 := by
  unfold ChecksTo
  have hw0 := (Gr.refl w).alloc (.cells #[.int .i64 k, .int .u8 c, .int .u8 m, .slice a1 n1 c1, .string s, .slice a2 n2 c2] 34)
  go_enter Tryd.func48, Tryd.ntmps48
  go_wp2_with (go_at_call 56; refine (hgr _ hw0).mono ?_; rintro e w2 ⟨rfl, hg2⟩)
  go_ret
  exact ⟨rfl, hw0.trans hg2⟩

set_option maxRecDepth 100000 in
set_option maxHeartbeats 1000000 in
theorem check_any {w : World} {t : Tok} {q : Value × Value} (hr : TRange t) (h : RTok w t q) : Calls Tryd.prog 48 #[.agg (tcells t q).toArray] w fun e w' => e = .returned (.int .i64 (checkR t)) ∧ Gr w w' := by
  by_cases h0 : checkR t = 0
  · rw [h0]; exact check_can (check_zero hr h0) h
  · obtain ⟨qp, qd⟩ := q
    obtain ⟨a1, c1, hv1⟩ := h.params.form
    obtain ⟨a2, c2, hv2⟩ := h.data.form
    simp only at hv1 hv2
    subst hv1; subst hv2
    obtain ⟨k, c, m, ps, l, d⟩ := t
    obtain ⟨hp, hd⟩ := h
    obtain ⟨hrc, hrm, hrl, hrd⟩ := hr
    simp only at hp hd hrc hrm hrl hrd
    unfold checkR at h0 ⊢
    simp only at h0 ⊢
    by_cases hk : k < 1 ∨ 9 < k
    · rw [if_pos hk]; exact check_kind hk
    · rw [if_neg hk] at h0 ⊢
      by_cases hg : greatB ps l d = true
      · rw [if_pos hg]
        exact check_great (k := k) (by omega) (by omega) fun w' hw => great_true ((greatB_iff _ _ _).1 hg) (hp.gr hw) (hd.gr hw)
      · rw [if_neg hg] at h0 ⊢
        have hG : ¬ Great ps l d := fun x => hg ((greatB_iff _ _ _).2 x)
        by_cases hgd : goodB ⟨k, c, m, ps, l, d⟩ = true
        · exact absurd (if_pos hgd) h0
        · rw [if_neg hgd]
          unfold Great at hG
          have g1 : l.length ≤ 3 := by omega
          have g2 : ps.length ≤ 30 := by omega
          have g3 : d.length ≤ 4096 := by omega
          have g4 : NumsL ps := ⟨g2, fun x hx => by
            by_cases h : 0 ≤ x ∧ x ≤ 65535
            · exact h
            · exact absurd (.inr (.inr (.inr ⟨x, hx, h⟩))) hG⟩
          have hgr := fun w' (hw : Gr w w') => great_false2 (k := k) (c := c) (m := m) (l := l) (d := d) g4 g1 g3 (hp.gr hw) (hd.gr hw)
          have hcd := fun w' (_ : Gr w w') => code_any k c m (by omega) l a1 a2 ps.length c1 d.length c2 w'
          have hI : l.all interB = true ∨ ∃ x ∈ l, ¬ (32 ≤ x ∧ x ≤ 47) := by
            by_cases h : l.all interB = true
            · exact .inl h
            · right
              rw [Bool.not_eq_true, List.all_eq_false] at h
              obtain ⟨x, hx, hn⟩ := h
              exact ⟨x, hx, fun e => hn (decide_eq_true e)⟩
          have hD : d.all dataOk = true ∨ ∃ x ∈ d, dataOk x = false := by
            by_cases h : d.all dataOk = true
            · exact .inl h
            · right
              rw [Bool.not_eq_true, List.all_eq_false] at h
              obtain ⟨x, hx, hn⟩ := h
              exact ⟨x, hx, by simpa using hn⟩
          have hM : decide (m = 0 ∨ (60 ≤ m ∧ m ≤ 63)) = true ∨ (m ≠ 0 ∧ inB m 60 63 = false) := by
            by_cases h : m = 0 ∨ (60 ≤ m ∧ m ≤ 63)
            · exact .inl (decide_eq_true h)
            · exact .inr ⟨fun e => h (.inl e), decide_eq_false fun e => h (.inr e)⟩
          have hC : codeB k c (decide (l = [])) = true ∨ codeB k c (decide (l = [])) = false := by cases codeB k c (decide (l = [])) <;> simp
          have hR : restB ⟨k, c, m, ps, l, d⟩ = false ∨ (m ≠ 0 ∧ inB m 60 63 = false) ∨ codeB k c (decide (l = [])) = false ∨ (∃ x ∈ l, ¬ (32 ≤ x ∧ x ≤ 47)) ∨ (∃ x ∈ d, dataOk x = false) := by
            rcases hC with h1 | h1
            · rcases hM with h2 | h2
              · rcases hI with h3 | h3
                · rcases hD with h4 | h4
                  · left
                    rw [Bool.eq_false_iff]; intro h5
                    exact hgd (by simp only [goodB, h1, h2, h3, h4, h5, Bool.and_self])
                  · exact .inr (.inr (.inr (.inr h4)))
                · exact .inr (.inr (.inr (.inl h3)))
              · exact .inr (.inl h2)
            · exact .inr (.inr (.inl h1))
          have hps : ps ≠ [] → ps.length ≠ 0 := fun h e => h (List.eq_nil_of_length_eq_zero e)
          have hds : d ≠ [] → d.length ≠ 0 := fun h e => h (List.eq_nil_of_length_eq_zero e)
          clear hI hD hM hC h0 hgd hG hg
          rcases (by omega : k = 1 ∨ k = 2 ∨ k = 3 ∨ k = 4 ∨ k = 5 ∨ k = 6 ∨ k = 7 ∨ k = 8 ∨ k = 9) with rfl | rfl | rfl | rfl | rfl | rfl | rfl | rfl | rfl
          · refine bad_1 hrl g1 g3 rfl hd hgr hcd ?_
            rcases hR with h | h | h | h | h
            · exact .inr (.inr (.inr (.inr (rest_off4 (by simpa [restB] using h)))))
            · exact .inl h
            · exact .inr (.inl h)
            · exact .inr (.inr (.inl h))
            · exact .inr (.inr (.inr (.inl h)))
          · refine bad_2 hrl g1 g3 rfl hd hgr hcd ?_
            rcases hR with h | h | h | h | h
            · exact .inr (.inr (.inr (.inr (rest_off4 (by simpa [restB] using h)))))
            · exact .inl h
            · exact .inr (.inl h)
            · exact .inr (.inr (.inl h))
            · exact .inr (.inr (.inr (.inl h)))
          · refine bad_3 hrl g1 g3 rfl hd hgr hcd ?_
            rcases hR with h | h | h | h | h
            · exact .inr (.inr (.inr (.inr (rest_off3 (by simpa [restB] using h)))))
            · exact .inl h
            · exact .inr (.inl h)
            · exact .inr (.inr (.inl h))
            · exact .inr (.inr (.inr (.inl h)))
          · refine bad_4 hrl g1 g3 rfl hd hgr hcd ?_
            rcases hR with h | h | h | h | h
            · exact .inr (.inr (.inr (.inr (hds (by simpa [restB] using h)))))
            · exact .inl h
            · exact .inr (.inl h)
            · exact .inr (.inr (.inl h))
            · exact .inr (.inr (.inr (.inl h)))
          · refine bad_5 hrl g1 g3 rfl hd hgr hcd ?_
            rcases hR with h | h | h | h | h
            · simp [restB] at h
            · exact .inl h
            · exact .inr (.inl h)
            · exact .inr (.inr (.inl h))
            · exact .inr (.inr (.inr (.inl h)))
          · refine bad_6 hrl g1 g3 rfl hd hgr hcd ?_
            rcases hR with h | h | h | h | h
            · exact .inr (.inr (.inr (.inr (rest_offs (by simpa [restB] using h)))))
            · exact .inl h
            · exact .inr (.inl h)
            · exact .inr (.inr (.inl h))
            · exact .inr (.inr (.inr (.inl h)))
          · refine bad_7 hrl g1 g3 rfl hd hgr hcd ?_
            rcases hR with h | h | h | h | h
            · exact .inr (.inr (.inr (.inr (rest_offs (by simpa [restB] using h)))))
            · exact .inl h
            · exact .inr (.inl h)
            · exact .inr (.inr (.inl h))
            · exact .inr (.inr (.inr (.inl h)))
          · refine bad_8 hrl g1 g3 rfl hd hgr hcd ?_
            rcases hR with h | h | h | h | h
            · exact .inr (.inr (.inr (.inr (rest_offs (by simpa [restB] using h)))))
            · exact .inl h
            · exact .inr (.inl h)
            · exact .inr (.inr (.inl h))
            · exact .inr (.inr (.inr (.inl h)))
          · refine bad_9 hrl g1 g3 rfl hd hgr hcd ?_
            rcases hR with h | h | h | h | h
            · exact .inr (.inr (.inr (.inr (rest_offs (by simpa [restB] using h)))))
            · exact .inl h
            · exact .inr (.inl h)
            · exact .inr (.inr (.inl h))
            · exact .inr (.inr (.inr (.inl h)))
end Go.Proofs.YtnnhaenmoifplaaDoor

namespace Go.Proofs.YtnnhaenmoifplaaDoor
set_option linter.unusedSimpArgs false
set_option linter.unusedVariables false
open Go.RowKit
set_option linter.unusedVariables false

theorem qstr {s : ByteArray} (hs : s ≠ ⟨#[]⟩) : s.toList.isEmpty = false ∧ ¬ s.toList = [] ∧ (s.toList == (⟨#[]⟩ : ByteArray).toList) = false := by
  have q1 : s.toList.isEmpty = false := by
    rw [Bool.eq_false_iff]; intro e
    apply hs
    have : s.toList = [] := by simpa using e
    exact (bytes_inj s ⟨#[]⟩).1 (by rw [this, ByteArray.toList_eq])
  have q2 : ¬ s.toList = [] := by simpa using q1
  refine ⟨q1, q2, ?_⟩
  rw [show (⟨#[]⟩ : ByteArray).toList = [] from by rw [ByteArray.toList_eq]]
  cases hx : s.toList with
  | nil => exact absurd hx q2
  | cons a b => rfl
end Go.Proofs.YtnnhaenmoifplaaDoor

namespace Go.Proofs.YtnnhaenmoifplaaDoor
set_option linter.unusedSimpArgs false
set_option linter.unusedVariables false
open Go.RowKit
set_option linter.unusedVariables false

/-- A token that came in: its numbers and bytes lie anywhere. -/
structure RdTok (w : World) (t : Tok) (a1 : Option Addr) (n1 : Nat) (a2 : Option Addr) (n2 : Nat) : Prop where
  params : Rd w a1 n1 (icells t.params)
  data : Rd w a2 n2 (bcells t.data)
  small : n1 ≤ 9223372036854775807 ∧ n2 ≤ 9223372036854775807 ∧ t.inters.length ≤ 9223372036854775807
theorem RdTok.gr {w w' : World} {t : Tok} {a1 a2 : Option Addr} {n1 n2 : Nat} (h : RdTok w t a1 n1 a2 n2) (hg : Gr w w') : RdTok w' t a1 n1 a2 n2 := ⟨h.params.gr hg, h.data.gr hg, h.small⟩
end Go.Proofs.YtnnhaenmoifplaaDoor

namespace Go.Proofs.YtnnhaenmoifplaaDoor
set_option linter.unusedSimpArgs false
set_option linter.unusedVariables false
open Go.RowKit
set_option linter.unusedVariables false

theorem icellsN_len (l : List Int) : (icells l).length = l.length := by simp [icells]
end Go.Proofs.YtnnhaenmoifplaaDoor

namespace Go.Proofs.YtnnhaenmoifplaaDoor
set_option linter.unusedSimpArgs false
set_option linter.unusedVariables false
open Go.ChangeShapes Go.WideShapes Go.ChangeAt Go.Deep Go.RowKit
set_option linter.unusedVariables false

/-- A text's bytes as numbers. -/
def nums (s : ByteArray) : List Int := s.data.toList.map fun b => (b.toNat : Int)
theorem nums_str (s : ByteArray) : strOf (nums s) = s := by
  unfold nums
  rw [strOf_bytes]
theorem nums_in (s : ByteArray) : ∀ c ∈ nums s, 0 ≤ c ∧ c < 256 := by
  intro c hc
  obtain ⟨b, _, rfl⟩ := List.mem_map.1 hc
  have := b.toNat_lt
  omega
theorem nums_len (s : ByteArray) : (nums s).length = s.size := by unfold nums; rw [List.length_map, Array.length_toList]; rfl
end Go.Proofs.YtnnhaenmoifplaaDoor
