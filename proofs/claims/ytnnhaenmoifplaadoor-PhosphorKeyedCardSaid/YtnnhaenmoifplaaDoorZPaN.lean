/-
  The machine that takes byte by byte says what the document's reading of the whole stream says.
  The machine that takes byte by byte says what the document's reading of the whole stream says: the whole of it.
  A whole stream: the machine's tokens, and whether something is left begun, are the document's.
-/
import Derived.Test.YtnnhaenmoifplaaDoorZPaM
namespace Go.Proofs.YtnnhaenmoifplaaDoor
set_option linter.unusedSimpArgs false
set_option linter.unusedVariables false
section
/-! ### Behind an escape -/
def F1 (bs : List Int) : PS := bs.foldl interM (PS.begin_ 1 3)
theorem F1_snoc (bs : List Int) (d : Int) : F1 (bs ++ [d]) = interM (F1 bs) d := by simp [F1, List.foldl_append]
theorem F1_form (bs : List Int) : F1 bs = ⟨1, 3, 0, 0, bs.take 3, [], [], 0, false, decide (bs = []), decide (3 < bs.length)⟩ := by
  suffices h : ∀ n, ∀ bs : List Int, bs.length = n → F1 bs = ⟨1, 3, 0, 0, bs.take 3, [], [], 0, false, decide (bs = []), decide (3 < bs.length)⟩ from h _ bs rfl
  intro n
  induction n with
  | zero => intro bs h; rw [List.length_eq_zero_iff] at h; subst h; rfl
  | succ n ih =>
    intro bs h
    have hne : bs ≠ [] := by intro e; simp [e] at h
    obtain ⟨b, d, rfl⟩ : ∃ b d, bs = b ++ [d] := ⟨bs.dropLast, bs.getLast hne, (List.dropLast_concat_getLast hne).symm⟩
    have hb : b.length = n := by simp at h; omega
    rw [F1_snoc, ih b hb]
    simp only [interM, List.length_take]
    by_cases h3 : 3 < n + 1
    · have e1 : (decide (3 < n) || decide (3 ≤ min 3 n)) = true := by simp; omega
      have e2 : (b ++ [d]).take 3 = b.take 3 := by rw [List.take_append_of_le_length (by omega)]
      simp only [hb, e1, e2, if_true]
      simp [hb]
      omega
    · have e1 : (decide (3 < b.length) || decide (3 ≤ min 3 b.length)) = false := by simp; omega
      have e2 : (b ++ [d]).take 3 = b.take 3 ++ [d] := by rw [List.take_of_length_le (by simp; omega), List.take_of_length_le (by omega)]
      rw [e1, e2]
      simp [hb]; omega

/-! ### In the numbers of a sequence -/
def F2 (kind : Int) (bs : List Int) : PS := bs.foldl (fun s d => (headerM s d).1) (PS.begin_ 2 kind)
theorem F2_snoc (k : Int) (bs : List Int) (d : Int) : F2 k (bs ++ [d]) = (headerM (F2 k bs) d).1 := by simp [F2, List.foldl_append]
theorem headerM_keeps (s : PS) (d : Int) (h : d < 64) : (headerM s d).2 = [] ∧ (headerM s d).1.phase = s.phase ∧ (headerM s d).1.kind = s.kind ∧ (headerM s d).1.code = s.code ∧ (headerM s d).1.data = s.data := by
  have h64 : ¬ 64 ≤ d := by omega
  unfold headerM
  simp only [h64, if_false]
  split
  · simp [interM]
  · split
    · simp
    · split
      · simp
      · simp [accByte]; split <;> simp
theorem F2_keeps (k : Int) (bs : List Int) (hb : ∀ x ∈ bs, x < 64) : (F2 k bs).phase = 2 ∧ (F2 k bs).kind = k ∧ (F2 k bs).code = 0 ∧ (F2 k bs).data = [] := by
  suffices h : ∀ (bs : List Int) (s : PS), (∀ x ∈ bs, x < 64) → s.phase = 2 ∧ s.kind = k ∧ s.code = 0 ∧ s.data = [] →
      (bs.foldl (fun s d => (headerM s d).1) s).phase = 2 ∧ (bs.foldl (fun s d => (headerM s d).1) s).kind = k ∧ (bs.foldl (fun s d => (headerM s d).1) s).code = 0 ∧ (bs.foldl (fun s d => (headerM s d).1) s).data = [] from
    h bs _ hb (by simp [PS.begin_])
  intro bs
  induction bs with
  | nil => intro s _ h; exact h
  | cons d l ih =>
    intro s hb h
    obtain ⟨_, k1, k2, k3, k4⟩ := headerM_keeps s d (hb d (by simp))
    exact ih _ (fun x hx => hb x (by simp [hx])) (by rw [k1, k2, k3, k4]; exact h)

/-- Once void, void. -/
theorem void_stays (bs : List Int) : ∀ s : PS, s.void = true → (∀ x ∈ bs, x < 64) → (bs.foldl (fun s d => (headerM s d).1) s).void = true := by
  induction bs with
  | nil => intro s h _; exact h
  | cons d l ih =>
    intro s h hb
    refine ih _ ?_ (fun x hx => hb x (by simp [hx]))
    have h64 : ¬ 64 ≤ d := by have := hb d (by simp); omega
    unfold headerM
    simp only [h64, if_false]
    split
    · simp [interM, h]
    · split
      · simp [h]
      · rw [if_pos (by simp [h])]

/-- Bytes that are no numbers: the intermediates. -/
theorem ints_run (l : List Int) : ∀ s : PS, s.void = false → s.first = false → s.inters.length ≤ 3 → (s.inters ≠ [] ∨ ∃ x r, l = x :: r ∧ x < 48) ∨ l = [] → (∀ x ∈ l, x < 64) →
    let q := l.foldl (fun s d => (headerM s d).1) s
    q.void = !(decide (s.inters.length + l.length ≤ 3) && l.all fun x => decide (x < 48)) ∧
    (q.void = false → q = { s with inters := s.inters ++ l }) := by
  induction l with
  | nil => intro s hv hf hl _ _; cases s; simp_all
  | cons d l ih =>
    intro s hv hf hl hi hb
    have hd : d < 64 := hb d (by simp)
    have hbl : ∀ x ∈ l, x < 64 := fun x hx => hb x (by simp [hx])
    by_cases h48 : d < 48
    · have hh : (headerM s d).1 = interM s d := by
        have e : { s with first := false } = s := by rw [← hf]
        simp only [headerM, h48, if_true]
        rw [e]
      by_cases h3 : 3 ≤ s.inters.length
      · have hvo : (interM s d).void = true := by simp [interM, h3]
        have hv2 := void_stays l (interM s d) hvo hbl
        simp only [List.foldl_cons, hh]
        refine ⟨?_, fun h => by rw [hv2] at h; cases h⟩
        rw [hv2]
        have : ¬ s.inters.length + (l.length + 1) ≤ 3 := by omega
        simp [this]
      · have hvo : interM s d = { s with inters := s.inters ++ [d] } := by
          simp [interM, hv, h3, ← hf]
        obtain ⟨i1, i2⟩ := ih (interM s d) (by rw [hvo]; exact hv) (by rw [hvo]; exact hf) (by rw [hvo]; simp; omega) (.inl (.inl (by rw [hvo]; simp))) hbl
        simp only [List.foldl_cons, hh]
        refine ⟨?_, fun h => ?_⟩
        · rw [i1, hvo]
          simp [h48, Nat.add_assoc, Nat.add_comm 1]
        · rw [i2 h, hvo]; simp
    · have hne : s.inters ≠ [] := by
        rcases hi with (h | ⟨x, r, h, hx⟩) | h
        · exact h
        · injection h with h1 _; omega
        · cases h
      have hvo : (headerM s d).1.void = true := by
        have h64 : ¬ 64 ≤ d := by omega
        simp [headerM, h48, h64, hf, hne]
      have hv2 := void_stays l _ hvo hbl
      simp only [List.foldl_cons]
      refine ⟨?_, fun h => by rw [hv2] at h; cases h⟩
      rw [hv2]
      simp [h48]

/-- The numbers. -/
theorem nums_run (l : List Int) : ∀ s : PS, s.void = false → s.first = false → s.inters = [] → (∀ x ∈ l, 48 ≤ x ∧ x < 64) →
    let q := l.foldl (fun s d => (headerM s d).1) s
    q.void = !(l.all isAcc) ∧ (q.void = false → q = l.foldl accByte s) := by
  induction l with
  | nil => intro s hv _ _ _; simp [hv]
  | cons d l ih =>
    intro s hv hf hi hb
    obtain ⟨h1, h2⟩ := hb d (by simp)
    have hbl : ∀ x ∈ l, 48 ≤ x ∧ x < 64 := fun x hx => hb x (by simp [hx])
    have e : { s with first := false } = s := by rw [← hf]
    have h48 : ¬ d < 48 := by omega
    have h64 : ¬ 64 ≤ d := by omega
    cases ha : isAcc d with
    | true =>
      have hh : (headerM s d).1 = accByte s d := by
        simp only [headerM, h48, h64, if_false, e, hf]
        rw [if_neg (by simp), if_neg (by simp [hi, hv, ha])]
      have hk : (accByte s d).void = false ∧ (accByte s d).first = false ∧ (accByte s d).inters = [] := by
        unfold accByte; split <;> simp [hv, hf, hi]
      obtain ⟨i1, i2⟩ := ih (accByte s d) hk.1 hk.2.1 hk.2.2 hbl
      simp only [List.foldl_cons, hh, List.all_cons, ha, Bool.true_and]
      exact ⟨i1, i2⟩
    | false =>
      have hvo : (headerM s d).1.void = true := by
        simp only [headerM, h48, h64, if_false, e, hf]
        rw [if_neg (by simp), if_pos (by simp [ha])]
      have hv2 := void_stays l _ hvo (fun x hx => (hbl x hx).2)
      simp only [List.foldl_cons, List.all_cons, ha, Bool.false_and]
      exact ⟨by rw [hv2]; rfl, fun h => by rw [hv2] at h; cases h⟩

theorem accByte_keeps (l : List Int) : ∀ s : PS, let q := l.foldl accByte s; q.phase = s.phase ∧ q.kind = s.kind ∧ q.code = s.code ∧ q.mark = s.mark ∧ q.inters = s.inters ∧ q.data = s.data ∧ q.first = s.first ∧ q.void = s.void := by
  induction l with
  | nil => intro s; simp
  | cons d l ih =>
    intro s
    have := ih (accByte s d)
    simp only [List.foldl_cons]
    have e : (accByte s d).phase = s.phase ∧ (accByte s d).kind = s.kind ∧ (accByte s d).code = s.code ∧ (accByte s d).mark = s.mark ∧ (accByte s d).inters = s.inters ∧ (accByte s d).data = s.data ∧ (accByte s d).first = s.first ∧ (accByte s d).void = s.void := by
      unfold accByte; split <;> simp
    obtain ⟨a1, a2, a3, a4, a5, a6, a7, a8⟩ := e
    rw [a1, a2, a3, a4, a5, a6, a7, a8] at this
    exact this

/-- The numbers that are still to come, the one being read being n. -/
def piecesFrom (n : Int) (l : List Int) : List Int :=
  match splitSemi l with
  | [] => []
  | p :: r => (p.foldl (fun n c => min (n * 10 + (c - 48)) 65535) n) :: r.map numR
theorem splitSemi_ne (l : List Int) : splitSemi l ≠ [] := by
  cases l with
  | nil => simp [splitSemi]
  | cons c l => unfold splitSemi; split; simp; split <;> simp
theorem pieces_zero (l : List Int) : piecesFrom 0 l = (splitSemi l).map numR := by
  unfold piecesFrom
  split
  · rename_i h; exact absurd h (splitSemi_ne l)
  · rename_i p r h; simp [h, numR]
theorem acc_run (l : List Int) : ∀ s : PS, s.begun = true → s.done.length ≤ 30 → accList (l.foldl accByte s) = (s.done ++ piecesFrom s.now l).take 30 := by
  induction l with
  | nil =>
    intro s hb hl
    simp only [List.foldl_nil, accList, hb, true_and, piecesFrom, splitSemi, List.foldl_nil, List.map_nil]
    split
    · rw [List.take_of_length_le (by simp; omega)]
    · rw [List.take_append_of_le_length (by omega), List.take_of_length_le (by omega)]
  | cons c l ih =>
    intro s hb hl
    simp only [List.foldl_cons]
    by_cases h59 : c = 59
    · subst h59
      have hp : piecesFrom s.now (59 :: l) = s.now :: piecesFrom 0 l := by
        rw [pieces_zero]; simp [piecesFrom, splitSemi]
      have hd : (accByte s 59).done.length ≤ 30 := by
        unfold accByte; simp only [if_true]; split
        · simp; omega
        · exact hl
      rw [ih (accByte s 59) (by simp [accByte]) hd, hp]
      simp only [accByte, if_true]
      split
      · simp
      · rw [List.take_append_of_le_length (by omega), List.take_append_of_le_length (by omega)]
    · have hp : piecesFrom s.now (c :: l) = piecesFrom (min (s.now * 10 + (c - 48)) 65535) l := by
        unfold piecesFrom
        rw [splitSemi, if_neg h59]
        split
        · rename_i h; split at h <;> cases h
        · rename_i p r h
          split at h
          · rename_i h2; exact absurd h2 (splitSemi_ne l)
          · rename_i p' r' h2; injection h with h3 h4; subst h3 h4; rw [h2]; rfl
      rw [ih (accByte s c) (by simp [accByte, h59]) (by simp [accByte, h59]; exact hl), hp]
      simp [accByte, h59]
theorem acc_nums (l : List Int) (s : PS) (hb : s.begun = false) (hd : s.done = []) (hn : s.now = 0) : accList (l.foldl accByte s) = numsR l := by
  cases l with
  | nil => simp [accList, hb, hd, numsR]
  | cons c l =>
    have h := acc_run (c :: l) { s with begun := true } rfl (by simp [hd])
    have e : (c :: l).foldl accByte { s with begun := true } = (c :: l).foldl accByte s := by
      simp only [List.foldl_cons]
      congr 1
    rw [e] at h
    rw [h, hd, hn, pieces_zero]
    simp [numsR]
end
section
theorem parse_start (k x : Int) (l : List Int) (hx : 32 ≤ x ∧ x < 64) :
    ∃ s : PS, (s.void = false ∧ s.first = false ∧ s.inters = [] ∧ s.begun = false ∧ s.done = [] ∧ s.now = 0 ∧ s.mark = markOf (x :: l)) ∧ F2 k (x :: l) = (unmark (x :: l)).foldl (fun s d => (headerM s d).1) s := by
  by_cases h60 : 60 ≤ x
  · refine ⟨{ PS.begin_ 2 k with first := false, mark := x }, by simp [PS.begin_, markOf]; omega, ?_⟩
    have e : unmark (x :: l) = l := by simp [unmark]; omega
    rw [e]
    have hh : (headerM (PS.begin_ 2 k) x).1 = { PS.begin_ 2 k with first := false, mark := x } := by
      have h48 : ¬ x < 48 := by omega
      have h64 : ¬ 64 ≤ x := by omega
      simp [headerM, h48, h64, h60, PS.begin_]
    simp only [F2, List.foldl_cons, hh]
  · refine ⟨{ PS.begin_ 2 k with first := false }, by simp [PS.begin_, markOf]; omega, ?_⟩
    have e : unmark (x :: l) = x :: l := by simp [unmark]; omega
    rw [e]
    have hh : (headerM (PS.begin_ 2 k) x).1 = (headerM { PS.begin_ 2 k with first := false } x).1 := by
      simp [headerM, h60, PS.begin_, interM, accByte]
    simp only [F2, List.foldl_cons, hh]

theorem parse_run (k : Int) (bs : List Int) (c : Int) (hb : ∀ x ∈ bs, 32 ≤ x ∧ x < 64) :
    (F2 k bs).void = !(parseR k bs c).2 ∧ ((parseR k bs c).2 = true → (F2 k bs).mark = markOf bs ∧ accList (F2 k bs) = (parseR k bs c).1.params ∧ (F2 k bs).inters = (parseR k bs c).1.inters) := by
  cases bs with
  | nil => simp [F2, parseR, unmark, PS.begin_, markOf, accList, numsR]
  | cons x l =>
    obtain ⟨s, ⟨h1, h2, h3, h4, h5, h6, h7⟩, e0⟩ := parse_start k x l (hb x (by simp))
    have hm : ∀ y ∈ unmark (x :: l), 32 ≤ y ∧ y < 64 := by
      intro y hy
      unfold unmark at hy
      simp only at hy
      split at hy
      · exact hb y (by simp [hy])
      · exact hb y hy
    rw [e0]
    unfold parseR
    simp only
    rw [← h7]
    generalize unmark (x :: l) = m at hm
    clear hb e0 h7
    have hsplit : m = m.takeWhile (fun x => decide (48 ≤ x)) ++ m.dropWhile (fun x => decide (48 ≤ x)) := (List.takeWhile_append_dropWhile).symm
    have hn : ∀ y ∈ m.takeWhile (fun x => decide (48 ≤ x)), 48 ≤ y ∧ y < 64 := by
      intro y hy
      refine ⟨?_, (hm y (List.takeWhile_subset _ hy)).2⟩
      have := List.all_takeWhile (p := fun x : Int => decide (48 ≤ x)) (l := m)
      rw [List.all_eq_true] at this
      simpa using this y hy
    have hi : ∀ y ∈ m.dropWhile (fun x => decide (48 ≤ x)), y < 64 := fun y hy => (hm y (List.dropWhile_subset _ hy)).2
    have hh : (∃ y r, m.dropWhile (fun x => decide (48 ≤ x)) = y :: r ∧ y < 48) ∨ m.dropWhile (fun x => decide (48 ≤ x)) = [] := by
      cases hd : m.dropWhile (fun x => decide (48 ≤ x)) with
      | nil => exact .inr rfl
      | cons y r =>
        refine .inl ⟨y, r, rfl, ?_⟩
        have hne : m.dropWhile (fun x => decide (48 ≤ x)) ≠ [] := by rw [hd]; simp
        have := List.head_dropWhile_not (p := fun x : Int => decide (48 ≤ x)) (l := m) hne
        simp only [hd, List.head_cons, decide_eq_false_iff_not] at this
        omega
    generalize m.takeWhile (fun x => decide (48 ≤ x)) = nums at *
    generalize m.dropWhile (fun x => decide (48 ≤ x)) = ints at *
    subst hsplit
    obtain ⟨n1, n2⟩ := nums_run nums s h1 h2 h3 hn
    rw [List.foldl_append]
    generalize nums.foldl (fun s d => (headerM s d).1) s = q at n1 n2 ⊢
    cases ha : nums.all isAcc with
    | false =>
      rw [ha] at n1
      have := void_stays ints q n1 hi
      rw [this]
      simp
    | true =>
      rw [ha] at n1
      have hq := n2 n1
      have hk := accByte_keeps nums s
      simp only at hk
      rw [← hq] at hk
      obtain ⟨k1, k2, k3, k4, k5, k6, k7, k8⟩ := hk
      have hacc : accList q = numsR nums := by rw [hq]; exact acc_nums nums s h4 h5 h6
      obtain ⟨i1, i2⟩ := ints_run ints q n1 (by rw [k7]; exact h2) (by rw [k5, h3]; simp) (by rcases hh with h | h; exact .inl (.inr h); exact .inr h) hi
      rw [k5, h3] at i1
      simp only [List.length_nil, Nat.zero_add] at i1
      simp only [Bool.true_and]
      refine ⟨i1, fun hg => ?_⟩
      have hv : (ints.foldl (fun s d => (headerM s d).1) q).void = false := by rw [i1, hg]; rfl
      have e := i2 hv
      rw [e]
      refine ⟨k4, ?_, by rw [k5, h3]; rfl⟩
      rw [← hacc]; rfl

/-! ### In a string -/
/-- The machine in a string stands where the reading stands. -/
def InStr (s : PS) (t : Tok) (good : Bool) : Prop :=
  s.phase = 3 ∧ s.kind = t.kind ∧ (s.void = !(good && decide (t.data.length ≤ 4096))) ∧
  (s.void = false → s.code = t.code ∧ s.mark = t.mark ∧ accList s = t.params ∧ s.inters = t.inters ∧ s.data = t.data)

theorem emit_str {s : PS} {t : Tok} {good : Bool} (h : InStr s t good) (before : List Tok) : before ++ emit s = if good ∧ t.data.length ≤ 4096 then before ++ [t] else before := by
  obtain ⟨_, hk, hv, hd⟩ := h
  unfold emit
  cases hvo : s.void with
  | true =>
    rw [hvo] at hv
    have : ¬ (good = true ∧ t.data.length ≤ 4096) := by
      rintro ⟨a, b⟩; simp [a, b] at hv
    simp [this]
  | false =>
    rw [hvo] at hv
    have : good = true ∧ t.data.length ≤ 4096 := by simpa using hv.symm
    obtain ⟨a, b, c, d, e⟩ := hd hvo
    simp [this, hk, a, b, c, d, e]

theorem text_str {s : PS} {t : Tok} {good : Bool} (h : InStr s t good) (c : Int) : InStr (textM s c) { t with data := t.data ++ [c] } good := by
  obtain ⟨hp, hk, hv, hd⟩ := h
  unfold textM
  cases hvo : s.void with
  | true =>
    rw [hvo] at hv
    simp only [true_or, if_true]
    refine ⟨hp, hk, ?_, fun h => by cases h⟩
    simp only [List.length_append, List.length_cons, List.length_nil, Nat.zero_add]
    cases good with
    | false => rfl
    | true =>
      have : ¬ t.data.length ≤ 4096 := by intro x; simp [x] at hv
      have : ¬ t.data.length + 1 ≤ 4096 := by omega
      simp [this]
  | false =>
    rw [hvo] at hv
    have hg : good = true ∧ t.data.length ≤ 4096 := by simpa using hv.symm
    obtain ⟨a, b, c', d, e⟩ := hd hvo
    simp only [Bool.false_eq_true, false_or]
    rw [e]
    by_cases h4 : 4096 ≤ t.data.length
    · rw [if_pos h4]
      refine ⟨hp, hk, ?_, fun h => by cases h⟩
      have : ¬ t.data.length + 1 ≤ 4096 := by omega
      simp [this]
    · rw [if_neg h4]
      refine ⟨hp, hk, ?_, fun _ => ⟨a, b, c', d, rfl⟩⟩
      have : t.data.length + 1 ≤ 4096 := by omega
      simp [hvo, hg.1, this]

end
section
theorem stepM_1 (s : PS) (c : Int) (h : s.phase = 1) : stepM s c = if c % 128 = 127 then (s, []) else escapedM s (c % 128) := by simp [stepM, h]
theorem stepM_2 (s : PS) (c : Int) (h : s.phase = 2) : stepM s c = if c % 128 = 127 then (s, []) else headerM s (c % 128) := by simp [stepM, h]
theorem F1_step (bs : List Int) (d : Int) (h : d < 48) : escapedM (F1 bs) d = (F1 (bs ++ [d]), []) := by rw [F1_snoc]; simp [escapedM, h]
/-- What a parser is fed, byte by byte. -/
def feedM (s : PS) (l : List Int) : PS × List Tok := runM s (plainL l)
theorem feed_append (s : PS) (a b : List Int) : feedM s (a ++ b) = ((feedM (feedM s a).1 b).1, (feedM s a).2 ++ (feedM (feedM s a).1 b).2) := by
  simp only [feedM, plainL, List.flatMap_append, runM_append]

end
end Go.Proofs.YtnnhaenmoifplaaDoor
