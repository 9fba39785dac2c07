/-
  The machine that takes byte by byte says what the document's reading of the whole stream says.
  The machine that takes byte by byte says what the document's reading of the whole stream says: the whole of it.
  A whole stream: the machine's tokens, and whether something is left begun, are the document's.
-/
import Derived.Test.YtomflpkokcldeaaPaM
namespace Go.Proofs.Ytomflpkokcldeaa
set_option linter.unusedSimpArgs false
set_option linter.unusedVariables false
section
/-! ### Behind an escape -/
def F1 (bs : List Int) : PS := bs.foldl interM (PS.begin_ 1 3)
theorem F1_snoc (bs : List Int) (d : Int) : F1 (bs ++ [d]) = interM (F1 bs) d := by simp [F1, List.foldl_append]
theorem F1_form (bs : List Int) : F1 bs = ⟨1, 3, 0, 0, bs.take 3, [], [], 0, false, decide (bs = []), decide (3 < bs.length)⟩ := by
  suffices h : ∀ n, ∀ bs : List Int, bs.length = n → F1 bs = ⟨1, 3, 0, 0, bs.take 3, [], [], 0, false, decide (bs = []), decide (3 < bs.length)⟩ from h _ bs rfl
  intro n
  induction n with
  | zero => intro bs h; rw [List.length_eq_zero_iff] at h; subst h; rfl
  | succ n ih =>
    intro bs h
    have hne : bs ≠ [] := by intro e; simp [e] at h
    obtain ⟨b, d, rfl⟩ : ∃ b d, bs = b ++ [d] := ⟨bs.dropLast, bs.getLast hne, (List.dropLast_concat_getLast hne).symm⟩
    have hb : b.length = n := by simp at h; omega
    rw [F1_snoc, ih b hb]
    simp only [interM, List.length_take]
    by_cases h3 : 3 < n + 1
    · have e1 : (decide (3 < n) || decide (3 ≤ min 3 n)) = true := by simp; omega
      have e2 : (b ++ [d]).take 3 = b.take 3 := by rw [List.take_append_of_le_length (by omega)]
      simp only [hb, e1, e2, if_true]
      simp [hb]
      omega
    · have e1 : (decide (3 < b.length) || decide (3 ≤ min 3 b.length)) = false := by simp; omega
      have e2 : (b ++ [d]).take 3 = b.take 3 ++ [d] := by rw [List.take_of_length_le (by simp; omega), List.take_of_length_le (by omega)]
      rw [e1, e2]
      simp [hb]; omega

/-! ### In the numbers of a sequence -/
def F2 (kind : Int) (bs : List Int) : PS := bs.foldl (fun s d => (headerM s d).1) (PS.begin_ 2 kind)
theorem F2_snoc (k : Int) (bs : List Int) (d : Int) : F2 k (bs ++ [d]) = (headerM (F2 k bs) d).1 := by simp [F2, List.foldl_append]
theorem interM_keeps (s : PS) (d : Int) : (interM s d).phase = s.phase ∧ (interM s d).kind = s.kind ∧ (interM s d).code = s.code ∧ (interM s d).mark = s.mark ∧ (interM s d).data = s.data ∧ (interM s d).done = s.done ∧ (interM s d).now = s.now ∧ (interM s d).begun = s.begun := by simp [interM]
theorem headerM_keeps (s : PS) (d : Int) (h : d < 64) : (headerM s d).2 = [] ∧ (headerM s d).1.phase = s.phase ∧ (headerM s d).1.kind = s.kind ∧ (headerM s d).1.code = s.code ∧ (headerM s d).1.data = s.data := by
  have h64 : ¬ 64 ≤ d := by omega
  unfold headerM
  simp only [h64, if_false]
  split
  · simp [interM]
  · split
    · simp
    · split
      · simp
      · simp [accByte]; split <;> simp
theorem F2_keeps (k : Int) (bs : List Int) (hb : ∀ x ∈ bs, x < 64) : (F2 k bs).phase = 2 ∧ (F2 k bs).kind = k ∧ (F2 k bs).code = 0 ∧ (F2 k bs).data = [] := by
  suffices h : ∀ (bs : List Int) (s : PS), (∀ x ∈ bs, x < 64) → s.phase = 2 ∧ s.kind = k ∧ s.code = 0 ∧ s.data = [] →
      (bs.foldl (fun s d => (headerM s d).1) s).phase = 2 ∧ (bs.foldl (fun s d => (headerM s d).1) s).kind = k ∧ (bs.foldl (fun s d => (headerM s d).1) s).code = 0 ∧ (bs.foldl (fun s d => (headerM s d).1) s).data = [] from
    h bs _ hb (by simp [PS.begin_])
  intro bs
  induction bs with
  | nil => intro s _ h; exact h
  | cons d l ih =>
    intro s hb h
    obtain ⟨_, k1, k2, k3, k4⟩ := headerM_keeps s d (hb d (by simp))
    exact ih _ (fun x hx => hb x (by simp [hx])) (by rw [k1, k2, k3, k4]; exact h)

/-- Once void, void. -/
theorem void_stays (bs : List Int) : ∀ s : PS, s.void = true → (∀ x ∈ bs, x < 64) → (bs.foldl (fun s d => (headerM s d).1) s).void = true := by
  induction bs with
  | nil => intro s h _; exact h
  | cons d l ih =>
    intro s h hb
    refine ih _ ?_ (fun x hx => hb x (by simp [hx]))
    have h64 : ¬ 64 ≤ d := by have := hb d (by simp); omega
    unfold headerM
    simp only [h64, if_false]
    split
    · simp [interM, h]
    · split
      · simp [h]
      · rw [if_pos (by simp [h])]

/-- Bytes that are no numbers: the intermediates. -/
theorem ints_run (l : List Int) : ∀ s : PS, s.void = false → s.first = false → s.inters.length ≤ 3 → (s.inters ≠ [] ∨ ∃ x r, l = x :: r ∧ x < 48) ∨ l = [] → (∀ x ∈ l, x < 64) →
    let q := l.foldl (fun s d => (headerM s d).1) s
    q.void = !(decide (s.inters.length + l.length ≤ 3) && l.all fun x => decide (x < 48)) ∧
    (q.void = false → q = { s with inters := s.inters ++ l }) := by
  induction l with
  | nil => intro s hv hf hl _ _; cases s; simp_all
  | cons d l ih =>
    intro s hv hf hl hi hb
    have hd : d < 64 := hb d (by simp)
    have hbl : ∀ x ∈ l, x < 64 := fun x hx => hb x (by simp [hx])
    by_cases h48 : d < 48
    · have hh : (headerM s d).1 = interM s d := by
        have e : { s with first := false } = s := by rw [← hf]
        simp only [headerM, h48, if_true]
        rw [e]
      by_cases h3 : 3 ≤ s.inters.length
      · have hvo : (interM s d).void = true := by simp [interM, h3]
        have hv2 := void_stays l (interM s d) hvo hbl
        simp only [List.foldl_cons, hh]
        refine ⟨?_, fun h => by rw [hv2] at h; cases h⟩
        rw [hv2]
        have : ¬ s.inters.length + (l.length + 1) ≤ 3 := by omega
        simp [this]
      · have hvo : interM s d = { s with inters := s.inters ++ [d] } := by
          simp [interM, hv, h3, ← hf]
        obtain ⟨i1, i2⟩ := ih (interM s d) (by rw [hvo]; exact hv) (by rw [hvo]; exact hf) (by rw [hvo]; simp; omega) (.inl (.inl (by rw [hvo]; simp))) hbl
        simp only [List.foldl_cons, hh]
        refine ⟨?_, fun h => ?_⟩
        · rw [i1, hvo]
          simp [h48, Nat.add_assoc, Nat.add_comm 1]
        · rw [i2 h, hvo]; simp
    · have hne : s.inters ≠ [] := by
        rcases hi with (h | ⟨x, r, h, hx⟩) | h
        · exact h
        · injection h with h1 _; omega
        · cases h
      have hvo : (headerM s d).1.void = true := by
        have h64 : ¬ 64 ≤ d := by omega
        simp [headerM, h48, h64, hf, hne]
      have hv2 := void_stays l _ hvo hbl
      simp only [List.foldl_cons]
      refine ⟨?_, fun h => by rw [hv2] at h; cases h⟩
      rw [hv2]
      simp [h48]

/-- The numbers. -/
theorem nums_run (l : List Int) : ∀ s : PS, s.void = false → s.first = false → s.inters = [] → (∀ x ∈ l, 48 ≤ x ∧ x < 64) →
    let q := l.foldl (fun s d => (headerM s d).1) s
    q.void = !(l.all isAcc) ∧ (q.void = false → q = l.foldl accByte s) := by
  induction l with
  | nil => intro s hv _ _ _; simp [hv]
  | cons d l ih =>
    intro s hv hf hi hb
    obtain ⟨h1, h2⟩ := hb d (by simp)
    have hbl : ∀ x ∈ l, 48 ≤ x ∧ x < 64 := fun x hx => hb x (by simp [hx])
    have e : { s with first := false } = s := by rw [← hf]
    have h48 : ¬ d < 48 := by omega
    have h64 : ¬ 64 ≤ d := by omega
    cases ha : isAcc d with
    | true =>
      have hh : (headerM s d).1 = accByte s d := by
        simp only [headerM, h48, h64, if_false, e, hf]
        rw [if_neg (by simp), if_neg (by simp [hi, hv, ha])]
      have hk : (accByte s d).void = false ∧ (accByte s d).first = false ∧ (accByte s d).inters = [] := by
        unfold accByte; split <;> simp [hv, hf, hi]
      obtain ⟨i1, i2⟩ := ih (accByte s d) hk.1 hk.2.1 hk.2.2 hbl
      simp only [List.foldl_cons, hh, List.all_cons, ha, Bool.true_and]
      exact ⟨i1, i2⟩
    | false =>
      have hvo : (headerM s d).1.void = true := by
        simp only [headerM, h48, h64, if_false, e, hf]
        rw [if_neg (by simp), if_pos (by simp [ha])]
      have hv2 := void_stays l _ hvo (fun x hx => (hbl x hx).2)
      simp only [List.foldl_cons, List.all_cons, ha, Bool.false_and]
      exact ⟨by rw [hv2]; rfl, fun h => by rw [hv2] at h; cases h⟩

theorem accByte_keeps (l : List Int) : ∀ s : PS, let q := l.foldl accByte s; q.phase = s.phase ∧ q.kind = s.kind ∧ q.code = s.code ∧ q.mark = s.mark ∧ q.inters = s.inters ∧ q.data = s.data ∧ q.first = s.first ∧ q.void = s.void := by
  induction l with
  | nil => intro s; simp
  | cons d l ih =>
    intro s
    have := ih (accByte s d)
    simp only [List.foldl_cons]
    have e : (accByte s d).phase = s.phase ∧ (accByte s d).kind = s.kind ∧ (accByte s d).code = s.code ∧ (accByte s d).mark = s.mark ∧ (accByte s d).inters = s.inters ∧ (accByte s d).data = s.data ∧ (accByte s d).first = s.first ∧ (accByte s d).void = s.void := by
      unfold accByte; split <;> simp
    obtain ⟨a1, a2, a3, a4, a5, a6, a7, a8⟩ := e
    rw [a1, a2, a3, a4, a5, a6, a7, a8] at this
    exact this

/-- The numbers that are still to come, the one being read being n. -/
def piecesFrom (n : Int) (l : List Int) : List Int :=
  match splitSemi l with
  | [] => []
  | p :: r => (p.foldl (fun n c => min (n * 10 + (c - 48)) 65535) n) :: r.map numR
theorem splitSemi_ne (l : List Int) : splitSemi l ≠ [] := by
  cases l with
  | nil => simp [splitSemi]
  | cons c l => unfold splitSemi; split; simp; split <;> simp
theorem pieces_zero (l : List Int) : piecesFrom 0 l = (splitSemi l).map numR := by
  unfold piecesFrom
  split
  · rename_i h; exact absurd h (splitSemi_ne l)
  · rename_i p r h; simp [h, numR]
theorem acc_run (l : List Int) : ∀ s : PS, s.begun = true → s.done.length ≤ 30 → accList (l.foldl accByte s) = (s.done ++ piecesFrom s.now l).take 30 := by
  induction l with
  | nil =>
    intro s hb hl
    simp only [List.foldl_nil, accList, hb, true_and, piecesFrom, splitSemi, List.foldl_nil, List.map_nil]
    split
    · rw [List.take_of_length_le (by simp; omega)]
    · rw [List.take_append_of_le_length (by omega), List.take_of_length_le (by omega)]
  | cons c l ih =>
    intro s hb hl
    simp only [List.foldl_cons]
    by_cases h59 : c = 59
    · subst h59
      have hp : piecesFrom s.now (59 :: l) = s.now :: piecesFrom 0 l := by
        rw [pieces_zero]; simp [piecesFrom, splitSemi]
      have hd : (accByte s 59).done.length ≤ 30 := by
        unfold accByte; simp only [if_true]; split
        · simp; omega
        · exact hl
      rw [ih (accByte s 59) (by simp [accByte]) hd, hp]
      simp only [accByte, if_true]
      split
      · simp
      · rw [List.take_append_of_le_length (by omega), List.take_append_of_le_length (by omega)]
    · have hp : piecesFrom s.now (c :: l) = piecesFrom (min (s.now * 10 + (c - 48)) 65535) l := by
        unfold piecesFrom
        rw [splitSemi, if_neg h59]
        split
        · rename_i h; split at h <;> cases h
        · rename_i p r h
          split at h
          · rename_i h2; exact absurd h2 (splitSemi_ne l)
          · rename_i p' r' h2; injection h with h3 h4; subst h3 h4; rw [h2]; rfl
      rw [ih (accByte s c) (by simp [accByte, h59]) (by simp [accByte, h59]; exact hl), hp]
      simp [accByte, h59]
theorem acc_nums (l : List Int) (s : PS) (hb : s.begun = false) (hd : s.done = []) (hn : s.now = 0) : accList (l.foldl accByte s) = numsR l := by
  cases l with
  | nil => simp [accList, hb, hd, numsR]
  | cons c l =>
    have h := acc_run (c :: l) { s with begun := true } rfl (by simp [hd])
    have e : (c :: l).foldl accByte { s with begun := true } = (c :: l).foldl accByte s := by
      simp only [List.foldl_cons]
      congr 1
    rw [e] at h
    rw [h, hd, hn, pieces_zero]
    simp [numsR]
end
section
theorem parse_start (k x : Int) (l : List Int) (hx : 32 ≤ x ∧ x < 64) :
    ∃ s : PS, (s.void = false ∧ s.first = false ∧ s.inters = [] ∧ s.begun = false ∧ s.done = [] ∧ s.now = 0 ∧ s.mark = markOf (x :: l)) ∧ F2 k (x :: l) = (unmark (x :: l)).foldl (fun s d => (headerM s d).1) s := by
  by_cases h60 : 60 ≤ x
  · refine ⟨{ PS.begin_ 2 k with first := false, mark := x }, by simp [PS.begin_, markOf]; omega, ?_⟩
    have e : unmark (x :: l) = l := by simp [unmark]; omega
    rw [e]
    have hh : (headerM (PS.begin_ 2 k) x).1 = { PS.begin_ 2 k with first := false, mark := x } := by
      have h48 : ¬ x < 48 := by omega
      have h64 : ¬ 64 ≤ x := by omega
      simp [headerM, h48, h64, h60, PS.begin_]
    simp only [F2, List.foldl_cons, hh]
  · refine ⟨{ PS.begin_ 2 k with first := false }, by simp [PS.begin_, markOf]; omega, ?_⟩
    have e : unmark (x :: l) = x :: l := by simp [unmark]; omega
    rw [e]
    have hh : (headerM (PS.begin_ 2 k) x).1 = (headerM { PS.begin_ 2 k with first := false } x).1 := by
      simp [headerM, h60, PS.begin_, interM, accByte]
    simp only [F2, List.foldl_cons, hh]

theorem parse_run (k : Int) (bs : List Int) (c : Int) (hb : ∀ x ∈ bs, 32 ≤ x ∧ x < 64) :
    (F2 k bs).void = !(parseR k bs c).2 ∧ ((parseR k bs c).2 = true → (F2 k bs).mark = markOf bs ∧ accList (F2 k bs) = (parseR k bs c).1.params ∧ (F2 k bs).inters = (parseR k bs c).1.inters) := by
  cases bs with
  | nil => simp [F2, parseR, unmark, PS.begin_, markOf, accList, numsR]
  | cons x l =>
    obtain ⟨s, ⟨h1, h2, h3, h4, h5, h6, h7⟩, e0⟩ := parse_start k x l (hb x (by simp))
    have hm : ∀ y ∈ unmark (x :: l), 32 ≤ y ∧ y < 64 := by
      intro y hy
      unfold unmark at hy
      simp only at hy
      split at hy
      · exact hb y (by simp [hy])
      · exact hb y hy
    rw [e0]
    unfold parseR
    simp only
    rw [← h7]
    generalize unmark (x :: l) = m at hm
    clear hb e0 h7
    have hsplit : m = m.takeWhile (fun x => decide (48 ≤ x)) ++ m.dropWhile (fun x => decide (48 ≤ x)) := (List.takeWhile_append_dropWhile).symm
    have hn : ∀ y ∈ m.takeWhile (fun x => decide (48 ≤ x)), 48 ≤ y ∧ y < 64 := by
      intro y hy
      refine ⟨?_, (hm y (List.takeWhile_subset _ hy)).2⟩
      have := List.all_takeWhile (p := fun x : Int => decide (48 ≤ x)) (l := m)
      rw [List.all_eq_true] at this
      simpa using this y hy
    have hi : ∀ y ∈ m.dropWhile (fun x => decide (48 ≤ x)), y < 64 := fun y hy => (hm y (List.dropWhile_subset _ hy)).2
    have hh : (∃ y r, m.dropWhile (fun x => decide (48 ≤ x)) = y :: r ∧ y < 48) ∨ m.dropWhile (fun x => decide (48 ≤ x)) = [] := by
      cases hd : m.dropWhile (fun x => decide (48 ≤ x)) with
      | nil => exact .inr rfl
      | cons y r =>
        refine .inl ⟨y, r, rfl, ?_⟩
        have hne : m.dropWhile (fun x => decide (48 ≤ x)) ≠ [] := by rw [hd]; simp
        have := List.head_dropWhile_not (p := fun x : Int => decide (48 ≤ x)) (l := m) hne
        simp only [hd, List.head_cons, decide_eq_false_iff_not] at this
        omega
    generalize m.takeWhile (fun x => decide (48 ≤ x)) = nums at *
    generalize m.dropWhile (fun x => decide (48 ≤ x)) = ints at *
    subst hsplit
    obtain ⟨n1, n2⟩ := nums_run nums s h1 h2 h3 hn
    rw [List.foldl_append]
    generalize nums.foldl (fun s d => (headerM s d).1) s = q at n1 n2 ⊢
    cases ha : nums.all isAcc with
    | false =>
      rw [ha] at n1
      have := void_stays ints q n1 hi
      rw [this]
      simp
    | true =>
      rw [ha] at n1
      have hq := n2 n1
      have hk := accByte_keeps nums s
      simp only at hk
      rw [← hq] at hk
      obtain ⟨k1, k2, k3, k4, k5, k6, k7, k8⟩ := hk
      have hacc : accList q = numsR nums := by rw [hq]; exact acc_nums nums s h4 h5 h6
      obtain ⟨i1, i2⟩ := ints_run ints q n1 (by rw [k7]; exact h2) (by rw [k5, h3]; simp) (by rcases hh with h | h; exact .inl (.inr h); exact .inr h) hi
      rw [k5, h3] at i1
      simp only [List.length_nil, Nat.zero_add] at i1
      simp only [Bool.true_and]
      refine ⟨i1, fun hg => ?_⟩
      have hv : (ints.foldl (fun s d => (headerM s d).1) q).void = false := by rw [i1, hg]; rfl
      have e := i2 hv
      rw [e]
      refine ⟨k4, ?_, by rw [k5, h3]; rfl⟩
      rw [← hacc]; rfl

/-! ### In a string -/
/-- The machine in a string stands where the reading stands. -/
def InStr (s : PS) (t : Tok) (good : Bool) : Prop :=
  s.phase = 3 ∧ s.kind = t.kind ∧ (s.void = !(good && decide (t.data.length ≤ 4096))) ∧
  (s.void = false → s.code = t.code ∧ s.mark = t.mark ∧ accList s = t.params ∧ s.inters = t.inters ∧ s.data = t.data)

theorem emit_str {s : PS} {t : Tok} {good : Bool} (h : InStr s t good) (before : List Tok) : before ++ emit s = if good ∧ t.data.length ≤ 4096 then before ++ [t] else before := by
  obtain ⟨_, hk, hv, hd⟩ := h
  unfold emit
  cases hvo : s.void with
  | true =>
    rw [hvo] at hv
    have : ¬ (good = true ∧ t.data.length ≤ 4096) := by
      rintro ⟨a, b⟩; simp [a, b] at hv
    simp [this]
  | false =>
    rw [hvo] at hv
    have : good = true ∧ t.data.length ≤ 4096 := by simpa using hv.symm
    obtain ⟨a, b, c, d, e⟩ := hd hvo
    simp [this, hk, a, b, c, d, e]

theorem text_str {s : PS} {t : Tok} {good : Bool} (h : InStr s t good) (c : Int) : InStr (textM s c) { t with data := t.data ++ [c] } good := by
  obtain ⟨hp, hk, hv, hd⟩ := h
  unfold textM
  cases hvo : s.void with
  | true =>
    rw [hvo] at hv
    simp only [true_or, if_true]
    refine ⟨hp, hk, ?_, fun h => by cases h⟩
    simp only [List.length_append, List.length_cons, List.length_nil, Nat.zero_add]
    cases good with
    | false => rfl
    | true =>
      have : ¬ t.data.length ≤ 4096 := by intro x; simp [x] at hv
      have : ¬ t.data.length + 1 ≤ 4096 := by omega
      simp [this]
  | false =>
    rw [hvo] at hv
    have hg : good = true ∧ t.data.length ≤ 4096 := by simpa using hv.symm
    obtain ⟨a, b, c', d, e⟩ := hd hvo
    simp only [Bool.false_eq_true, false_or]
    rw [e]
    by_cases h4 : 4096 ≤ t.data.length
    · rw [if_pos h4]
      refine ⟨hp, hk, ?_, fun h => by cases h⟩
      have : ¬ t.data.length + 1 ≤ 4096 := by omega
      simp [this]
    · rw [if_neg h4]
      refine ⟨hp, hk, ?_, fun _ => ⟨a, b, c', d, rfl⟩⟩
      have : t.data.length + 1 ≤ 4096 := by omega
      simp [hvo, hg.1, this]

theorem agrees_rest {r : PS × List Tok} {q : List Tok × Option (List Int)} {g : List Int → PS × List Tok} {rest : List Int} (hq : q.2 = some rest) (h1 : r.1 = (g rest).1) (h2 : r.2 = q.1 ++ (g rest).2) : Agrees r q g := by
  unfold Agrees; rw [hq]; exact ⟨h1, h2⟩

theorem str_run : ∀ (n : Nat) (l : List Int), l.length ≤ n → (∀ c ∈ l, pb c) → ∀ (s : PS) (t : Tok) (good : Bool) (before : List Tok), InStr s t good →
    Agrees ((runM s l).1, before ++ (runM s l).2) (strR t good l before) (runM PS.init) ∧ (∀ rest, (strR t good l before).2 = some rest → rest.length ≤ l.length ∧ ∀ c ∈ rest, pb c) := by
  intro n
  induction n with
  | zero =>
    intro l hl _ s t good before h
    have : l = [] := List.length_eq_zero_iff.1 (by omega)
    subst this
    have hp := h.1
    refine ⟨?_, by simp [strR]⟩
    simp [Agrees, strR, runM, hp]
  | succ n ih =>
    intro l hl hb s t good before h
    cases l with
    | nil =>
      have hp := h.1
      refine ⟨?_, by simp [strR]⟩
      simp [Agrees, strR, runM, hp]
    | cons c l =>
      have hp := h.1
      have hk := h.2.1
      have hc := hb c (by simp)
      have hb' : ∀ x ∈ l, pb x := fun x hx => hb x (by simp [hx])
      have hl' : l.length ≤ n := by simp at hl; omega
      have h4 : s.phase ≠ 4 := by rw [hp]; decide
      by_cases h27 : c = 27
      · subst h27
        have t27 : takeM s 27 = ({ s with phase := 4 }, []) := by simp [takeM, takeM1, hp]
        cases l with
        | nil =>
          refine ⟨?_, by simp [strR]⟩
          simp [Agrees, strR, runM, t27]
        | cons d r =>
          have hd := hb' d (by simp)
          by_cases h92 : d % 128 = 92
          · have hd27 : d ≠ 27 := by intro e; rw [e] at h92; revert h92; decide
            have td : takeM { s with phase := 4 } d = (PS.init, emit { s with phase := 4 }) := by simp [takeM, hd27, h92]
            have ee : emit { s with phase := 4 } = emit s := rfl
            have es : strR t good (27 :: d :: r) before = (if good ∧ t.data.length ≤ 4096 then before ++ [t] else before, some r) := by simp [strR, h92]
            rw [es]
            refine ⟨agrees_rest rfl (by simp [runM, t27, td]) ?_, ?_⟩
            · simp only [runM, t27, td, ee, List.nil_append]
              rw [← List.append_assoc, emit_str h]
            · intro rest hr; simp only [Option.some.injEq] at hr; subst hr; exact ⟨by simp; omega, fun x hx => hb' x (by simp [hx])⟩
          · have es : strR t good (27 :: d :: r) before = (before, some (27 :: d :: r)) := by simp [strR, h92, brk, brokenR]
            rw [es]
            refine ⟨agrees_rest rfl ?_ ?_, by rintro rest hr; simp only [Option.some.injEq] at hr; subst hr; exact ⟨Nat.le_refl _, hb⟩⟩
            all_goals
              have ti : takeM PS.init 27 = (PS.begin_ 1 3, []) := by simp [takeM, takeM1, PS.init]
              have te : takeM { s with phase := 4 } d = takeM (PS.begin_ 1 3) d := by
                by_cases hd27 : d = 27
                · subst hd27; simp [takeM, takeM1, PS.begin_]
                · have : (PS.begin_ 1 3).phase ≠ 4 := by simp [PS.begin_]
                  simp [takeM, hd27, h92, this]
              simp [runM, t27, ti, te]
      · by_cases h7 : c = 7 ∧ t.kind = 6
        · obtain ⟨rfl, hk6⟩ := h7
          have ts : takeM s 7 = (PS.init, emit s) := by simp [takeM, takeM1, hp, hk, hk6]
          have es : strR t good (7 :: l) before = (if good ∧ t.data.length ≤ 4096 then before ++ [t] else before, some l) := by simp [strR, hk6]
          rw [es]
          refine ⟨agrees_rest rfl (by simp [runM, ts]) ?_, ?_⟩
          · simp only [runM, ts]
            rw [← List.append_assoc, emit_str h]
          · intro rest hr; simp only [Option.some.injEq] at hr; subst hr; exact ⟨by simp, hb'⟩
        · cases hbr : brk c with
          | true =>
            have es : strR t good (c :: l) before = brokenR (c :: l) before := by simp [strR, h27, h7, hbr]
            rw [es]
            simp only [brk, Bool.or_eq_true, decide_eq_true_eq] at hbr
            rcases hbr with (rfl | rfl) | rfl
            · refine ⟨agrees_rest rfl ?_ ?_, by rintro rest hr; simp [brokenR] at hr; subst hr; exact ⟨by simp, hb'⟩⟩ <;> simp [brokenR, runM, takeM, takeM1]
            · refine ⟨agrees_rest rfl ?_ ?_, by rintro rest hr; simp [brokenR] at hr; subst hr; exact ⟨by simp, hb'⟩⟩ <;> simp [brokenR, runM, takeM, takeM1]
            · exact absurd rfl h27
          | false =>
            have hbr' := hbr
            simp only [brk, Bool.or_eq_false_iff, decide_eq_false_iff_not] at hbr
            have es : strR t good (c :: l) before = strR { t with data := if dataOk c then t.data ++ [c] else t.data } good l before := by
              rw [strR]; simp [h27, h7, hbr']
            rw [es]
            cases hd : dataOk c with
            | true =>
              have ts : takeM s c = (textM s c, []) := by
                simp only [dataOk, Bool.or_eq_true, Bool.and_eq_true, decide_eq_true_eq] at hd
                by_cases h32 : 32 ≤ c
                · rw [take_step s c h4 h32]; simp [stepM, hp]
                · have h8 : 8 ≤ c ∧ c ≤ 13 := by omega
                  have h7' : ¬ (c = 7 ∧ s.kind = 6) := by rw [hk]; exact h7
                  simp [takeM, takeM1, h4, h27, hbr, h32, hp, h7', h8, stepM]
              obtain ⟨a, b⟩ := ih l hl' hb' (textM s c) { t with data := t.data ++ [c] } good before (text_str h c)
              refine ⟨?_, fun rest hr => ⟨by have := (b rest (by simpa using hr)).1; simp; omega, (b rest (by simpa using hr)).2⟩⟩
              simpa [runM, ts] using a
            | false =>
              have ts : takeM s c = (s, []) := by
                simp only [dataOk, Bool.or_eq_false_iff, Bool.and_eq_false_iff, decide_eq_false_iff_not] at hd
                unfold pb at hc
                have h32 : ¬ 32 ≤ c := by omega
                have h8 : ¬ (8 ≤ c ∧ c ≤ 13) := by omega
                have h7' : ¬ (c = 7 ∧ s.kind = 6) := by rw [hk]; exact h7
                simp [takeM, takeM1, h4, h27, hbr, h32, hp, h7', h8]
              have ht : ({ t with data := t.data } : Tok) = t := rfl
              obtain ⟨a, b⟩ := ih l hl' hb' s t good before h
              refine ⟨?_, fun rest hr => ⟨by have := (b rest (by simpa using hr)).1; simp; omega, (b rest (by simpa using hr)).2⟩⟩
              simpa [runM, ts] using a
end
section
theorem stepM_1 (s : PS) (c : Int) (h : s.phase = 1) : stepM s c = if c % 128 = 127 then (s, []) else escapedM s (c % 128) := by simp [stepM, h]
theorem stepM_2 (s : PS) (c : Int) (h : s.phase = 2) : stepM s c = if c % 128 = 127 then (s, []) else headerM s (c % 128) := by simp [stepM, h]
theorem F1_step (bs : List Int) (d : Int) (h : d < 48) : escapedM (F1 bs) d = (F1 (bs ++ [d]), []) := by rw [F1_snoc]; simp [escapedM, h]
theorem opKind_cases (c : Int) : opKind c = 0 ∨ ((opKind c = 4 ∨ opKind c = 5) ∧ opAt c = 2) ∨ (5 < opKind c ∧ opAt c = 3) := by
  unfold opKind opAt
  by_cases h1 : c = 91
  · simp [h1]
  · by_cases h2 : c = 80
    · simp [h2]
    · by_cases h3 : c = 93
      · simp [h3]
      · by_cases h4 : c = 88
        · simp [h4]
        · by_cases h5 : c = 94
          · simp [h5]
          · by_cases h6 : c = 95 <;> simp [h1, h2, h3, h4, h5, h6]

theorem agrees_none {r : PS × List Tok} {q : List Tok × Option (List Int)} {g : List Int → PS × List Tok} (hq : q.2 = none) (h1 : r.2 = q.1) (h2 : r.1.phase ≠ 0) : Agrees r q g := by
  unfold Agrees; rw [hq]; exact ⟨h1, h2⟩

theorem broken_rest (c : Int) (l : List Int) (before : List Tok) (rest : List Int) (h : (brokenR (c :: l) before).2 = some rest) (hb : ∀ x ∈ c :: l, pb x) : rest.length ≤ (c :: l).length ∧ ∀ x ∈ rest, pb x := by
  unfold brokenR at h
  simp only at h
  split at h
  · simp only [Option.some.injEq] at h; subst h; exact ⟨by simp, fun x hx => hb x (by simp [hx])⟩
  · split at h
    · simp only [Option.some.injEq] at h; subst h; exact ⟨by simp, fun x hx => hb x (by simp [hx])⟩
    · simp only [Option.some.injEq] at h; subst h; exact ⟨Nat.le_refl _, hb⟩

/-- Behind the bytes that begin a sequence with numbers. -/
theorem nums_seq (k : Int) (hk : k = 4 ∨ k = 5) (l : List Int) (hl : ∀ c ∈ l, pb c) (before : List Tok) :
    let g := hdr 64 l
    let all := before ++ g.toks
    let q := if g.ended = 0 then (all, none) else if g.ended = 2 then brokenR g.rest all
      else if k = 5 then strR (parseR k g.bytes.dropLast (g.bytes.getLastD 0)).1 (parseR k g.bytes.dropLast (g.bytes.getLastD 0)).2 g.rest all
      else (if (parseR k g.bytes.dropLast (g.bytes.getLastD 0)).2 then all ++ [(parseR k g.bytes.dropLast (g.bytes.getLastD 0)).1] else all, some g.rest)
    Agrees ((runM (PS.begin_ 2 k) l).1, before ++ (runM (PS.begin_ 2 k) l).2) q (runM PS.init) ∧ (∀ rest, q.2 = some rest → rest.length ≤ l.length ∧ ∀ c ∈ rest, pb c) := by
  have hk4 := fun bs (h : ∀ x ∈ bs, x < 64) => F2_keeps k bs h
  have hs : ∀ bs d, (∀ x ∈ bs, x < 64) → 32 ≤ d → d < 64 → headerM (F2 k bs) d = (F2 k (bs ++ [d]), []) := by
    intro bs d _ _ hd
    rw [F2_snoc, ← (headerM_keeps (F2 k bs) d hd).1]
  obtain ⟨r1, r2, r3⟩ := hdr_run 2 (.inr rfl) headerM stepM_2 64 (F2 k) (fun bs h => (hk4 bs h).1) hs l hl [] (by simp)
  have e0 : F2 k [] = PS.begin_ 2 k := rfl
  simp only [e0, List.nil_append] at r3
  simp only
  generalize hdr 64 l = g at r1 r2 r3 ⊢
  obtain ⟨toks, bytes, rest, ended⟩ := g
  simp only at r1 r2 r3 ⊢
  rcases r3 with ⟨rfl, q0, q2⟩ | ⟨rfl, q0, ⟨c, r, rfl, hbr⟩, q3⟩ | ⟨rfl, q2, b, c, rfl, hc, _, hc2, hb, q3⟩
  · rw [if_pos rfl, q2]
    have hp : (F2 k bytes).phase ≠ 0 := by rw [(hk4 bytes q0).1]; decide
    exact ⟨agrees_none rfl rfl hp, fun rest h => by cases h⟩
  · rw [if_neg (by decide), if_pos rfl, q3]
    have hp : (F2 k bytes).phase ≠ 3 := by rw [(hk4 bytes q0).1]; decide
    refine ⟨?_, fun rest h => ?_⟩
    · have := runM_brk (F2 k bytes) c r hp hbr (before ++ toks)
      simpa [List.append_assoc] using this
    · obtain ⟨a1, a2⟩ := broken_rest c r _ rest h r1
      exact ⟨Nat.le_trans a1 r2, a2⟩
  · rw [if_neg (by decide), if_neg (by decide), List.dropLast_concat, q3]
    have hgl : (b ++ [c]).getLastD 0 = c := by simp
    rw [hgl]
    have hb64 : ∀ x ∈ b, x < 64 := fun x hx => (hb x hx).2
    obtain ⟨k1, k2, k3, k4⟩ := hk4 b hb64
    obtain ⟨p1, p2⟩ := parse_run k b c hb
    have h48 : ¬ c < 48 := by omega
    have hparse : (parseR k b c).1.kind = k ∧ (parseR k b c).1.code = c ∧ (parseR k b c).1.mark = markOf b ∧ (parseR k b c).1.data = [] := by simp [parseR]
    obtain ⟨t1, t2, t3, t4⟩ := hparse
    rcases hk with rfl | rfl
    · rw [if_neg (by decide)]
      have hh : headerM (F2 4 b) c = (PS.init, emit { F2 4 b with first := false, code := c }) := by
        simp [headerM, h48, hc, k2]
      rw [hh]
      refine ⟨agrees_rest rfl rfl ?_, ?_⟩
      · simp only [← List.append_assoc]
        congr 1
        cases hg : (parseR 4 b c).2 with
        | false => rw [hg] at p1; simp [emit, p1]
        | true =>
          obtain ⟨m1, m2, m3⟩ := p2 hg
          rw [hg] at p1
          have hT : (parseR 4 b c).1 = ⟨4, c, markOf b, (parseR 4 b c).1.params, (parseR 4 b c).1.inters, []⟩ := rfl
          have hE : (if (F2 4 b).void = true then [] else [(⟨(F2 4 b).kind, c, (F2 4 b).mark, accList (F2 4 b), (F2 4 b).inters, (F2 4 b).data⟩ : Tok)]) = [(parseR 4 b c).1] := by
            rw [p1, k2, m1, m2, m3, k4, hT]; rfl
          rw [if_pos rfl]
          refine Eq.trans ?_ (congrArg (fun x => before ++ toks ++ x) hE)
          rfl
      · intro rest' h; simp only [Option.some.injEq] at h; subst h; exact ⟨by omega, r1⟩
    · rw [if_pos rfl]
      have hh : headerM (F2 5 b) c = ({ F2 5 b with first := false, code := c, phase := 3 }, []) := by
        simp [headerM, h48, hc, k2]
      rw [hh]
      have hin : InStr { F2 5 b with first := false, code := c, phase := 3 } (parseR 5 b c).1 (parseR 5 b c).2 := by
        refine ⟨rfl, by rw [t1]; exact k2, ?_, ?_⟩
        · rw [t4]; simp [p1]
        · intro hv
          have hv' : (F2 5 b).void = false := hv
          have hg : (parseR 5 b c).2 = true := by rw [p1] at hv'; simpa using hv'
          obtain ⟨m1, m2, m3⟩ := p2 hg
          exact ⟨t2.symm, by rw [t3]; exact m1, by rw [← m2]; rfl, m3, by rw [t4]; exact k4⟩
      obtain ⟨s1, s2⟩ := str_run rest.length rest (Nat.le_refl _) r1 _ _ _ (before ++ toks) hin
      refine ⟨?_, fun rest' h => ⟨Nat.le_trans (s2 rest' h).1 r2, (s2 rest' h).2⟩⟩
      simpa [List.append_assoc] using s1

theorem seq_run (l : List Int) (hl : ∀ c ∈ l, pb c) :
    Agrees (runM (PS.begin_ 1 3) l) (seqR l) (runM PS.init) ∧ (∀ rest, (seqR l).2 = some rest → rest.length ≤ l.length ∧ ∀ c ∈ rest, pb c) := by
  have hF : ∀ bs, (∀ x ∈ bs, x < 48) → (F1 bs).phase = 1 := by intro bs _; rw [F1_form]
  have hs : ∀ bs d, (∀ x ∈ bs, x < 48) → 32 ≤ d → d < 48 → escapedM (F1 bs) d = (F1 (bs ++ [d]), []) := fun bs d _ _ h => F1_step bs d h
  obtain ⟨r1, r2, r3⟩ := hdr_run 1 (.inl rfl) escapedM stepM_1 48 F1 hF hs l hl [] (by simp)
  have e0 : F1 [] = PS.begin_ 1 3 := rfl
  simp only [e0, List.nil_append] at r3
  unfold seqR
  simp only
  generalize hdr 48 l = g at r1 r2 r3 ⊢
  obtain ⟨toks, bytes, rest, ended⟩ := g
  simp only at r1 r2 r3 ⊢
  rcases r3 with ⟨rfl, q0, q2⟩ | ⟨rfl, q0, ⟨c, r, rfl, hbr⟩, q3⟩ | ⟨rfl, q2, b, c, rfl, hc, _, hc2, hb, q3⟩
  · rw [if_pos rfl, q2]
    have hp : (F1 bytes).phase ≠ 0 := by rw [F1_form]; simp
    exact ⟨agrees_none rfl rfl hp, fun rest h => by cases h⟩
  · rw [if_neg (by decide), if_pos rfl, q3]
    have hp : (F1 bytes).phase ≠ 3 := by rw [F1_form]; simp
    refine ⟨runM_brk (F1 bytes) c r hp hbr toks, fun rest h => ?_⟩
    obtain ⟨a1, a2⟩ := broken_rest c r _ rest h r1
    exact ⟨Nat.le_trans a1 r2, a2⟩
  · rw [if_neg (by decide), if_neg (by decide), List.dropLast_concat, q3]
    have hgl : (b ++ [c]).getLastD 0 = c := by simp
    rw [hgl]
    have h48 : ¬ c < 48 := by omega
    have hdone : ∀ rest', (some rest : Option (List Int)) = some rest' → rest'.length ≤ l.length ∧ ∀ c ∈ rest', pb c := by
      intro rest' h; simp only [Option.some.injEq] at h; subst h; exact ⟨by omega, r1⟩
    by_cases hbn : b = []
    · subst hbn
      rcases opKind_cases c with ho | ⟨ho, ha⟩ | ⟨ho, ha⟩
      · rw [if_pos (.inr ho)]
        by_cases h92 : c = 92
        · subst h92
          have hh : escapedM (F1 []) 92 = (PS.init, []) := by decide
          rw [hh]
          exact ⟨agrees_rest rfl rfl (by simp), hdone⟩
        · have hh : escapedM (F1 []) c = (PS.init, [⟨3, c, 0, [], [], []⟩]) := by
            simp [escapedM, F1, PS.begin_, h48, ho, h92, emit, accList]
          rw [hh]
          exact ⟨agrees_rest rfl rfl (by simp [h92]), hdone⟩
      · have hne : opKind c ≠ 0 := by omega
        have hh : escapedM (F1 []) c = (PS.begin_ 2 (opKind c), []) := by
          simp [escapedM, F1, PS.begin_, h48, hne, ha]
        rw [hh, if_neg (by simp [hne]), if_neg (by omega)]
        obtain ⟨s1, s2⟩ := nums_seq (opKind c) ho rest r1 toks
        refine ⟨by simpa using s1, fun rest' h => ?_⟩
        have := s2 rest' h
        exact ⟨by omega, this.2⟩
      · have hne : opKind c ≠ 0 := by omega
        have hh : escapedM (F1 []) c = (PS.begin_ 3 (opKind c), []) := by
          simp [escapedM, F1, PS.begin_, h48, hne, ha]
        rw [hh, if_neg (by simp [hne]), if_pos ho]
        have hin : InStr (PS.begin_ 3 (opKind c)) ⟨opKind c, 0, 0, [], [], []⟩ true := by
          refine ⟨rfl, rfl, rfl, fun _ => ⟨rfl, rfl, rfl, rfl, rfl⟩⟩
        obtain ⟨s1, s2⟩ := str_run rest.length rest (Nat.le_refl _) r1 _ _ _ toks hin
        refine ⟨by simpa using s1, fun rest' h => ?_⟩
        have := s2 rest' h
        exact ⟨by omega, this.2⟩
    · rw [if_pos (.inl hbn)]
      have hh : escapedM (F1 b) c = (PS.init, if b.length ≤ 3 then [⟨3, c, 0, [], b, []⟩] else []) := by
        rw [F1_form]
        by_cases h3 : b.length ≤ 3
        · have h3' : ¬ 3 < b.length := by omega
          simp [escapedM, h48, hbn, emit, h3, h3', accList, List.take_of_length_le h3]
        · have h3' : 3 < b.length := by omega
          simp [escapedM, h48, hbn, emit, h3, h3']
      rw [hh]
      refine ⟨agrees_rest rfl rfl ?_, hdone⟩
      by_cases h3 : b.length ≤ 3 <;> simp [h3, hbn]

theorem split_run : ∀ (f : Nat) (l : List Int), l.length ≤ f → (∀ c ∈ l, pb c) →
    (runM PS.init l).2 = (splitR f l).1 ∧ ((splitR f l).2 = true ↔ (runM PS.init l).1.phase ≠ 0) := by
  intro f
  induction f with
  | zero =>
    intro l hl _
    have : l = [] := List.length_eq_zero_iff.1 (by omega)
    subst this
    simp [runM, splitR, PS.init]
  | succ f ih =>
    intro l hl hb
    cases l with
    | nil => simp [runM, splitR, PS.init]
    | cons c l =>
      have hc := hb c (by simp)
      have hb' : ∀ x ∈ l, pb x := fun x hx => hb x (by simp [hx])
      have hl' : l.length ≤ f := by simp at hl; omega
      by_cases h27 : c = 27
      · subst h27
        have ti : takeM PS.init 27 = (PS.begin_ 1 3, []) := by simp [takeM, takeM1, PS.init]
        obtain ⟨a, b⟩ := seq_run l hb'
        simp only [runM, ti, List.nil_append, splitR, if_true]
        unfold Agrees at a
        cases hq : seqR l with
        | mk ts o =>
          rw [hq] at a b
          cases o with
          | none => simp only at a ⊢; exact ⟨a.1, by simp [a.2]⟩
          | some rest =>
            simp only at a b ⊢
            obtain ⟨b1, b2⟩ := b rest rfl
            obtain ⟨i1, i2⟩ := ih rest (by omega) b2
            rw [a.1, a.2, i1]
            exact ⟨rfl, i2⟩
      · obtain ⟨i1, i2⟩ := ih l hl' hb'
        have ht : takeM PS.init c = (PS.init, if 32 ≤ c then [printT c] else if c ≠ 24 then [ctrlT c] else []) := by
          have h4 : PS.init.phase ≠ 4 := by decide
          by_cases h32 : 32 ≤ c
          · rw [take_step _ _ h4 h32]; simp [stepM, PS.init, h32]
          · by_cases h24 : c = 24
            · subst h24; decide
            · by_cases h26 : c = 26
              · subst h26; decide
              · simp [takeM, takeM1, PS.init, h27, h24, h26, h32]
        simp only [runM, ht, splitR, h27, if_false]
        exact ⟨by rw [i1], i2⟩

/-- What a parser is fed, byte by byte. -/
def feedM (s : PS) (l : List Int) : PS × List Tok := runM s (plainL l)
theorem plain_pb (l : List Int) (h : ∀ c ∈ l, 0 ≤ c ∧ c < 256) : ∀ c ∈ plainL l, pb c := by
  intro c hc
  unfold plainL at hc
  obtain ⟨x, hx, hm⟩ := List.mem_flatMap.1 hc
  have := h x hx
  unfold plainOf at hm
  unfold pb
  split at hm
  · simp at hm
  · split at hm
    · simp at hm; omega
    · simp at hm; omega
theorem feed_append (s : PS) (a b : List Int) : feedM s (a ++ b) = ((feedM (feedM s a).1 b).1, (feedM s a).2 ++ (feedM (feedM s a).1 b).2) := by
  simp only [feedM, plainL, List.flatMap_append, runM_append]

theorem feed_split (l : List Int) (h : ∀ c ∈ l, 0 ≤ c ∧ c < 256) :
    (feedM PS.init l).2 = (splitR (plainL l).length (plainL l)).1 ∧ ((splitR (plainL l).length (plainL l)).2 = true ↔ (feedM PS.init l).1.phase ≠ 0) :=
  split_run _ _ (Nat.le_refl _) (plain_pb l h)
end
end Go.Proofs.Ytomflpkokcldeaa
