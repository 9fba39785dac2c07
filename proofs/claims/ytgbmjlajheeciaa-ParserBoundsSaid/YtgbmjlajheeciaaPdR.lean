/-
  Every token that the machine says can be: the plain law.
-/
import Derived.Test.YtgbmjlajheeciaaPdI
namespace Go.Proofs.Ytgbmjlajheeciaa
set_option linter.unusedSimpArgs false
set_option linter.unusedVariables false

def IntsOk (l : List Int) : Prop := l.length ≤ 3 ∧ ∀ c ∈ l, 32 ≤ c ∧ c ≤ 47
def MarkOk (m : Int) : Prop := m = 0 ∨ 60 ≤ m ∧ m ≤ 63
def NumsL (l : List Int) : Prop := l.length ≤ 30 ∧ ∀ x ∈ l, 0 ≤ x ∧ x ≤ 65535
def NumsOk (s : PS) : Prop := NumsL s.done ∧ 0 ≤ s.now ∧ s.now ≤ 65535
def DatOk (l : List Int) : Prop := l.length ≤ 4096 ∧ ∀ c ∈ l, dataOk c = true
/-- A token that can be. -/
inductive Can : Tok → Prop
  | print (c : Int) (h : (32 ≤ c ∧ c ≤ 126) ∨ (160 ≤ c ∧ c < 256)) : Can ⟨1, c, 0, [], [], []⟩
  | ctrl (c : Int) (h : 1 ≤ c ∧ c ≤ 31 ∧ c ≠ 24 ∧ c ≠ 27) : Can ⟨2, c, 0, [], [], []⟩
  | esc (c : Int) (l : List Int) (hc : 48 ≤ c ∧ c ≤ 126) (hl : IntsOk l) (h : l = [] → opKind c = 0 ∧ c ≠ 92) : Can ⟨3, c, 0, [], l, []⟩
  | csi (c m : Int) (ps l : List Int) (hc : 64 ≤ c ∧ c ≤ 126) (hm : MarkOk m) (hp : NumsL ps) (hl : IntsOk l) : Can ⟨4, c, m, ps, l, []⟩
  | dcs (c m : Int) (ps l d : List Int) (hc : 64 ≤ c ∧ c ≤ 126) (hm : MarkOk m) (hp : NumsL ps) (hl : IntsOk l) (hd : DatOk d) : Can ⟨5, c, m, ps, l, d⟩
  | str (k : Int) (d : List Int) (hk : 6 ≤ k ∧ k ≤ 9) (hd : DatOk d) : Can ⟨k, 0, 0, [], [], d⟩

structure Inv1 (s : PS) : Prop where
  phase : s.phase = 1
  kind : s.kind = 3
  mark : s.mark = 0
  data : s.data = []
  done : s.done = []
  begun : s.begun = false
  ints : IntsOk s.inters
  some : s.first = false → s.void = true ∨ s.inters ≠ []
  none : s.first = true → s.inters = []
structure Inv2 (s : PS) : Prop where
  phase : s.phase = 2
  kind : s.kind = 4 ∨ s.kind = 5
  data : s.data = []
  mark : MarkOk s.mark
  ints : IntsOk s.inters
  nums : NumsOk s
structure Inv3 (s : PS) : Prop where
  phase : s.phase = 3 ∨ s.phase = 4
  data : DatOk s.data
  rest : (s.kind = 5 ∧ 64 ≤ s.code ∧ s.code ≤ 126 ∧ MarkOk s.mark ∧ IntsOk s.inters ∧ NumsOk s) ∨ (6 ≤ s.kind ∧ s.kind ≤ 9 ∧ s.code = 0 ∧ s.mark = 0 ∧ s.done = [] ∧ s.begun = false ∧ s.inters = [])
def Inv (s : PS) : Prop := s = PS.init ∨ Inv1 s ∨ Inv2 s ∨ Inv3 s
/-- What a step leaves. -/
def Good (r : PS × List Tok) : Prop := Inv r.1 ∧ ∀ t ∈ r.2, Can t

theorem intsOk_nil : IntsOk [] := ⟨by simp, by simp⟩
theorem numsOk_acc {s : PS} (h : NumsOk s) : NumsL (accList s) := by
  obtain ⟨⟨h1, h2⟩, h3, h4⟩ := h
  unfold accList
  split
  · rename_i hb
    refine ⟨by simp; omega, fun x hx => ?_⟩
    rcases List.mem_append.1 hx with hx | hx
    · exact h2 x hx
    · simp at hx; subst hx; exact ⟨h3, h4⟩
  · exact ⟨h1, h2⟩
theorem acc_none {s : PS} (h : s.done = []) (hb : s.begun = false) : accList s = [] := by simp [accList, h, hb]
theorem ints_inter {s : PS} {d : Int} (h : IntsOk s.inters) (hd : 32 ≤ d ∧ d < 48) : IntsOk (interM s d).inters ∧ ((interM s d).void = true ∨ (interM s d).inters ≠ []) := by
  obtain ⟨h1, h2⟩ := h
  cases hv : (s.void || decide (3 ≤ s.inters.length)) with
  | true => simp only [interM, hv, if_true]; exact ⟨⟨h1, h2⟩, .inl trivial⟩
  | false =>
    have hlt : ¬ 3 ≤ s.inters.length := by
      simp only [Bool.or_eq_false_iff, decide_eq_false_iff_not] at hv; exact hv.2
    simp only [interM, hv]
    refine ⟨⟨by simp; omega, fun c hc => ?_⟩, .inr (by simp)⟩
    simp at hc
    rcases hc with hc | hc
    · exact h2 c hc
    · omega
theorem begin1 : Inv (PS.begin_ 1 3) := .inr (.inl ⟨rfl, rfl, rfl, rfl, rfl, rfl, intsOk_nil, by simp [PS.begin_], by simp [PS.begin_]⟩)
theorem good_none {s : PS} (h : Inv s) : Good (s, []) := ⟨h, by simp⟩
theorem good_init {l : List Tok} (h : ∀ t ∈ l, Can t) : Good (PS.init, l) := ⟨.inl rfl, h⟩

theorem good_esc {s : PS} {d : Int} (h : Inv1 s) (hd : 32 ≤ d ∧ d ≤ 126) : Good (escapedM s d) := by
  simp only [escapedM]
  split
  · obtain ⟨h1, h2⟩ := ints_inter (d := d) h.ints ⟨hd.1, by assumption⟩
    refine good_none (.inr (.inl ⟨h.phase, h.kind, h.mark, h.data, h.done, h.begun, h1, fun _ => h2, fun hf => ?_⟩))
    simp [interM] at hf
  · have hem : ∀ t ∈ emit { s with code := d }, ∀ (_ : s.inters = [] → opKind d = 0 ∧ d ≠ 92), Can t := by
      intro t ht hx
      simp only [emit] at ht
      split at ht
      · simp at ht
      · simp at ht; subst ht
        rw [show accList { s with code := d } = [] from acc_none h.done h.begun, h.kind, h.mark, h.data]
        exact .esc _ _ ⟨by omega, hd.2⟩ h.ints hx
    split
    · rename_i hf
      refine good_init fun t ht => hem t ht fun he => ?_
      rcases h.some hf with hv | hv
      · simp [emit, hv] at ht
      · exact absurd he hv
    · split
      · rename_i hk
        rcases opKind_cases d with h0 | ⟨h45, h2⟩ | ⟨h5, h3⟩
        · exact absurd h0 hk
        · refine good_none (.inr (.inr (.inl ⟨by simp [PS.begin_, h2], by simpa [PS.begin_] using h45, rfl, .inl rfl, intsOk_nil, ⟨by simp [PS.begin_], by simp [PS.begin_]⟩, by simp [PS.begin_], by simp [PS.begin_]⟩)))
        · refine good_none (.inr (.inr (.inr ⟨by simp [PS.begin_, h3], ⟨by simp [PS.begin_], by simp [PS.begin_]⟩, .inr ⟨by simp [PS.begin_]; omega, by have := (opKind_le d).2; simpa [PS.begin_] using this, rfl, rfl, rfl, rfl, rfl⟩⟩)))
      · split
        · exact good_init (by simp)
        · rename_i hk h92
          exact good_init fun t ht => hem t ht fun _ => ⟨by simpa using hk, h92⟩
theorem good_hdr {s : PS} {d : Int} (h : Inv2 s) (hd : 32 ≤ d ∧ d ≤ 126) : Good (headerM s d) := by
  have hn : NumsOk s := h.nums
  simp only [headerM]
  split
  · obtain ⟨h1, _⟩ := ints_inter (s := { s with first := false }) (d := d) h.ints ⟨hd.1, by assumption⟩
    exact good_none (.inr (.inr (.inl ⟨h.phase, h.kind, h.data, h.mark, h1, h.nums⟩)))
  · split
    · rename_i h64
      split
      · rename_i hk
        refine good_init fun t ht => ?_
        simp only [emit] at ht
        split at ht
        · simp at ht
        · simp at ht; subst ht
          have hk : s.kind = 4 := hk
          rw [hk, h.data]
          exact .csi _ _ _ _ ⟨h64, hd.2⟩ h.mark (numsOk_acc (s := { s with first := false, code := d }) hn) h.ints
      · rename_i hk
        have hk5 : s.kind = 5 := by rcases h.kind with e | e; exact absurd e hk; exact e
        refine good_none (.inr (.inr (.inr ⟨.inl rfl, ?_, .inl ⟨hk5, h64, hd.2, h.mark, h.ints, hn⟩⟩)))
        show DatOk s.data
        rw [h.data]; exact ⟨by simp, by simp⟩
    · split
      · rename_i hm
        exact good_none (.inr (.inr (.inl ⟨h.phase, h.kind, h.data, .inr ⟨hm.1, by show d ≤ 63; omega⟩, h.ints, hn⟩)))
      · split
        · exact good_none (.inr (.inr (.inl ⟨h.phase, h.kind, h.data, h.mark, h.ints, hn⟩)))
        · rename_i hx
          have ha : isAcc d = true := by
            cases hq : isAcc d with
            | true => rfl
            | false => exact absurd (.inr (.inr hq)) hx
          obtain ⟨⟨n1, n2⟩, n3, n4⟩ := hn
          refine good_none (.inr (.inr (.inl ?_)))
          simp only [accByte]
          split
          · refine ⟨h.phase, h.kind, h.data, h.mark, h.ints, ⟨?_, by simp, by simp⟩⟩
            show NumsL (if s.done.length < 30 then s.done ++ [s.now] else s.done)
            split
            · refine ⟨by simp; omega, fun x hx => ?_⟩
              rcases List.mem_append.1 hx with hx | hx
              · exact n2 x hx
              · simp at hx; subst hx; exact ⟨n3, n4⟩
            · exact ⟨n1, n2⟩
          · rename_i h59
            have hr : 48 ≤ d := by
              simp only [isAcc, Bool.or_eq_true, Bool.and_eq_true, decide_eq_true_eq] at ha
              omega
            refine ⟨h.phase, h.kind, h.data, h.mark, h.ints, ⟨⟨n1, n2⟩, ?_, ?_⟩⟩
            · show 0 ≤ min (s.now * 10 + (d - 48)) 65535
              omega
            · show min (s.now * 10 + (d - 48)) 65535 ≤ 65535
              omega
theorem emit3 {s : PS} (h : Inv3 s) : ∀ t ∈ emit s, Can t := by
  intro t ht
  simp only [emit] at ht
  split at ht
  · simp at ht
  · simp at ht; subst ht
    rcases h.rest with ⟨h1, h2, h3, h4, h5, h6⟩ | ⟨h1, h2, h3, h4, h5, h6, h7⟩
    · rw [h1]; exact .dcs _ _ _ _ _ ⟨h2, h3⟩ h4 (numsOk_acc h6) h5 h.data
    · rw [h3, h4, h7, acc_none h5 h6]; exact .str _ _ ⟨h1, h2⟩ h.data
theorem good_text {s : PS} {c : Int} (h : Inv3 s) (hc : dataOk c = true) : Inv (textM s c) := by
  refine .inr (.inr (.inr ?_))
  simp only [textM]
  split
  · exact ⟨h.phase, ⟨by simp, by simp⟩, h.rest⟩
  · rename_i hx
    refine ⟨h.phase, ⟨by simp; omega, fun x hx => ?_⟩, h.rest⟩
    simp at hx
    rcases hx with hx | rfl
    · exact h.data.2 x hx
    · exact hc
theorem good_step {s : PS} {c : Int} (h : Inv s) (hp : s.phase ≠ 4) (hc : pb c) (h32 : 32 ≤ c ∨ (s.phase = 3 ∧ 8 ≤ c ∧ c ≤ 13)) : Good (stepM s c) := by
  unfold pb at hc
  simp only [stepM]
  rcases h with rfl | h | h | h
  · refine ⟨by simpa [PS.init] using .inl rfl, ?_⟩
    intro t ht
    simp [PS.init] at ht; subst ht
    exact .print c (by simp [PS.init] at h32; omega)
  · have h1 := h.phase
    rw [if_pos h1]
    have : 32 ≤ c := by rcases h32 with h | ⟨h, _⟩; exact h; omega
    split
    · exact good_none (.inr (.inl h))
    · exact good_esc h (by omega)
  · have h1 := h.phase
    rw [if_neg (by omega), if_pos h1]
    have : 32 ≤ c := by rcases h32 with h | ⟨h, _⟩; exact h; omega
    split
    · exact good_none (.inr (.inr (.inl h)))
    · exact good_hdr h (by omega)
  · have h1 : s.phase = 3 := by rcases h.phase with e | e; exact e; exact absurd e hp
    rw [if_neg (by omega), if_neg (by omega), if_pos h1]
    refine good_none (good_text h ?_)
    simp only [dataOk, Bool.or_eq_true, Bool.and_eq_true, decide_eq_true_eq]
    omega
theorem good_take1 {s : PS} {c : Int} (h : Inv s) (hp : s.phase ≠ 4 ∨ c = 27) (hc : pb c) : Good (takeM1 s c) := by
  have hc' := hc
  unfold pb at hc'
  simp only [takeM1]
  split
  · split
    · rename_i h3
      rcases h with rfl | h | h | h
      · simp [PS.init] at h3
      · exact absurd (h.phase.symm.trans h3) (by decide)
      · exact absurd (h.phase.symm.trans h3) (by decide)
      · exact good_none (.inr (.inr (.inr ⟨.inr rfl, h.data, h.rest⟩)))
    · exact good_none begin1
  · rename_i h27
    have hp4 : s.phase ≠ 4 := hp.resolve_right h27
    split
    · exact good_init (by simp)
    · split
      · exact good_init (by intro t ht; simp at ht; subst ht; exact .ctrl 26 (by omega))
      · split
        · exact good_step h hp4 hc (.inl (by assumption))
        · split
          · exact ⟨h, by intro t ht; simp at ht; subst ht; exact .ctrl c (by omega)⟩
          · rename_i h3
            have h3 : s.phase = 3 := by simpa using h3
            split
            · refine good_init ?_
              rcases h with rfl | h | h | h
              · simp [PS.init] at h3
              · exact absurd (h.phase.symm.trans h3) (by decide)
              · exact absurd (h.phase.symm.trans h3) (by decide)
              · exact emit3 h
            · split
              · rename_i h8
                exact good_step h hp4 hc (.inr ⟨h3, h8⟩)
              · exact good_none h
theorem good_take {s : PS} {c : Int} (h : Inv s) (hc : pb c) : Good (takeM s c) := by
  simp only [takeM]
  split
  · rename_i h4
    split
    · refine good_init ?_
      rcases h with rfl | h | h | h
      · simp [PS.init] at h4
      · exact absurd (h.phase.symm.trans h4.1) (by decide)
      · exact absurd (h.phase.symm.trans h4.1) (by decide)
      · exact emit3 h
    · exact good_take1 begin1 (.inl (by simp [PS.begin_])) hc
  · rename_i h4
    refine good_take1 h ?_ hc
    by_cases h27 : c = 27
    · exact .inr h27
    · exact .inl fun h => h4 ⟨h, h27⟩
theorem good_run (l : List Int) : ∀ s : PS, Inv s → (∀ c ∈ l, pb c) → Good (runM s l) := by
  induction l with
  | nil => intro s h _; exact good_none h
  | cons c l ih =>
    intro s h hl
    obtain ⟨h1, h2⟩ := good_take h (hl c (by simp))
    obtain ⟨h3, h4⟩ := ih _ h1 fun x hx => hl x (by simp [hx])
    refine ⟨h3, fun t ht => ?_⟩
    simp only [runM, List.mem_append] at ht
    rcases ht with ht | ht
    · exact h2 t ht
    · exact h4 t ht
theorem good_feed {s : PS} (h : Inv s) (l : List Int) (hl : ∀ c ∈ l, 0 ≤ c ∧ c < 256) : Good (feedM s l) := good_run _ _ h (plain_pb l hl)
end Go.Proofs.Ytgbmjlajheeciaa
