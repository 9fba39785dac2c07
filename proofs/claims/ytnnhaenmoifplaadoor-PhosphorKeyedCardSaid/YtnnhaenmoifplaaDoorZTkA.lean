/-
  The bytes of a token in plain terms, and that the machine reads them back.
-/
import Derived.Lib.ItoaNum
import Derived.Test.YtnnhaenmoifplaaDoorZPdT
namespace Go.Proofs.YtnnhaenmoifplaaDoor
set_option linter.unusedSimpArgs false
set_option linter.unusedVariables false

/-- A numeral's digits. -/
def digs (n : Int) : List Int := (Lib.decDigits n.toNat).map fun b => (b.toNat : Int)
def clipR (n : Int) : Int := if n < 0 then 0 else if 65535 < n then 65535 else n
/-- Numbers between semicolons. -/
def fmtGo : List Int → List Int
  | [] => []
  | [n] => digs (clipR n)
  | n :: l => digs (clipR n) ++ 59 :: fmtGo l
def fmtR (l : List Int) : List Int := fmtGo (l.take 30)
def pairR (c : Int) (eight : Bool) : List Int := if eight = true ∧ 64 ≤ c ∧ c < 96 then [c + 64] else [27, c]
def begR (k : Int) : Int := if k = 4 then 91 else if k = 5 then 80 else if k = 6 then 93 else if k = 7 then 88 else if k = 8 then 94 else if k = 9 then 95 else 0
def bytesR (t : Tok) (eight : Bool) : List Int :=
  if t.kind < 3 then [t.code]
  else if t.kind = 3 then (if t.inters = [] then pairR t.code eight else 27 :: t.inters ++ [t.code])
  else pairR (begR t.kind) eight ++ (if t.kind < 6 then (if t.mark ≠ 0 then [t.mark] else []) ++ fmtR t.params ++ t.inters ++ [t.code] else []) ++ (if 4 < t.kind then t.data ++ pairR 92 eight else [])

/-! ### Digits -/
theorem dig_cast (n : Nat) (h : n < 10) : ((UInt8.ofNat (48 + n)).toNat : Int) = 48 + (n : Int) := by
  rw [UInt8.toNat_ofNat']; omega
theorem digs_small (n : Nat) (h : n < 10) : digs n = [48 + (n : Int)] := by
  unfold digs; rw [Int.toNat_natCast, Lib.decDigits, dif_pos h]; simp only [List.map_cons, List.map_nil, dig_cast n h]
theorem digs_big (n : Nat) (h : ¬ n < 10) : digs n = digs ((n / 10 : Nat) : Int) ++ [48 + ((n % 10 : Nat) : Int)] := by
  unfold digs; rw [Int.toNat_natCast, Int.toNat_natCast, Lib.decDigits, dif_neg h, List.map_append]
  simp only [List.map_cons, List.map_nil, dig_cast (n % 10) (by omega)]
theorem digs_in (n : Nat) : ∀ c ∈ digs n, 48 ≤ c ∧ c ≤ 57 := by
  induction n using Nat.strongRecOn with
  | ind n ih =>
    by_cases h : n < 10
    · rw [digs_small n h]; intro c hc; simp at hc; omega
    · rw [digs_big n h]; intro c hc
      rcases List.mem_append.1 hc with hc | hc
      · exact ih (n / 10) (by omega) c hc
      · simp at hc; omega
theorem digs_ne (n : Nat) : digs n ≠ [] := by
  by_cases h : n < 10
  · rw [digs_small n h]; simp
  · rw [digs_big n h]; simp
theorem numR_digs (n : Nat) (h : n ≤ 65535) : numR (digs n) = n := by
  induction n using Nat.strongRecOn with
  | ind n ih =>
    by_cases h10 : n < 10
    · rw [digs_small n h10]; simp [numR]; omega
    · have := ih (n / 10) (by omega) (by omega)
      rw [digs_big n h10]
      simp only [numR, List.foldl_append, List.foldl_cons, List.foldl_nil] at this ⊢
      rw [this]; omega

/-! ### Numbers between semicolons -/
theorem splitSemi_append (a b : List Int) (h : ∀ c ∈ a, c ≠ 59) : splitSemi (a ++ 59 :: b) = a :: splitSemi b := by
  induction a with
  | nil => simp [splitSemi]
  | cons c l ih =>
    have hc : c ≠ 59 := h c (by simp)
    have := ih fun x hx => h x (by simp [hx])
    simp only [List.cons_append, splitSemi, if_neg hc, this]
theorem splitSemi_plain (a : List Int) (h : ∀ c ∈ a, c ≠ 59) : splitSemi a = [a] := by
  induction a with
  | nil => simp [splitSemi]
  | cons c l ih =>
    have hc : c ≠ 59 := h c (by simp)
    have := ih fun x hx => h x (by simp [hx])
    simp only [splitSemi, if_neg hc, this]
theorem clipR_id {n : Int} (h0 : 0 ≤ n) (h1 : n ≤ 65535) : clipR n = n := by unfold clipR; rw [if_neg (by omega), if_neg (by omega)]
theorem clipR_in (n : Int) : 0 ≤ clipR n ∧ clipR n ≤ 65535 := by unfold clipR; split <;> (try split) <;> omega
theorem digs_in' {n : Int} (h : 0 ≤ n) : ∀ c ∈ digs n, 48 ≤ c ∧ c ≤ 57 := by
  obtain ⟨k, rfl⟩ : ∃ k : Nat, n = k := ⟨n.toNat, by omega⟩
  exact digs_in k
theorem digs_ne' {n : Int} (h : 0 ≤ n) : digs n ≠ [] := by
  obtain ⟨k, rfl⟩ : ∃ k : Nat, n = k := ⟨n.toNat, by omega⟩
  exact digs_ne k
theorem numR_digs' {n : Int} (h : 0 ≤ n) (h' : n ≤ 65535) : numR (digs n) = n := by
  obtain ⟨k, rfl⟩ : ∃ k : Nat, n = k := ⟨n.toNat, by omega⟩
  exact numR_digs k (by omega)
theorem fmtGo_in (l : List Int) : ∀ c ∈ fmtGo l, (48 ≤ c ∧ c ≤ 57) ∨ c = 59 := by
  induction l with
  | nil => simp [fmtGo]
  | cons n l ih =>
    have hd := digs_in' (clipR_in n).1
    cases l with
    | nil => intro c hc; have := hd c hc; omega
    | cons m l =>
      intro c hc
      simp only [fmtGo] at hc
      rcases List.mem_append.1 hc with hc | hc
      · have := hd c hc; omega
      · rcases List.mem_cons.1 hc with rfl | hc
        · omega
        · exact ih c hc
theorem fmtGo_ne (n : Int) (l : List Int) : fmtGo (n :: l) ≠ [] := by
  cases l with
  | nil => exact digs_ne' (clipR_in n).1
  | cons m l => simp [fmtGo]
theorem split_fmt (n : Int) (l : List Int) : (splitSemi (fmtGo (n :: l))).map numR = (n :: l).map clipR := by
  induction l generalizing n with
  | nil =>
    have hd := digs_in' (clipR_in n).1
    rw [show fmtGo [n] = digs (clipR n) from rfl, splitSemi_plain _ (fun c hc => by have := hd c hc; omega)]
    simp [numR_digs' (clipR_in n).1 (clipR_in n).2]
  | cons m l ih =>
    have hd := digs_in' (clipR_in n).1
    rw [show fmtGo (n :: m :: l) = digs (clipR n) ++ 59 :: fmtGo (m :: l) from rfl, splitSemi_append _ _ (fun c hc => by have := hd c hc; omega)]
    simp only [List.map_cons, numR_digs' (clipR_in n).1 (clipR_in n).2] at ih ⊢
    rw [ih m]
theorem map_clip {l : List Int} (h : NumsL l) : l.map clipR = l := by
  obtain ⟨_, h⟩ := h
  conv => rhs; rw [← List.map_id l]
  exact List.map_congr_left fun x hx => clipR_id (h x hx).1 (h x hx).2
theorem nums_fmt {l : List Int} (h : NumsL l) : numsR (fmtR l) = l := by
  have h30 := h.1
  unfold fmtR
  rw [List.take_of_length_le h30]
  cases l with
  | nil => simp [fmtGo, numsR]
  | cons n l =>
    unfold numsR
    rw [if_neg (fmtGo_ne n l), split_fmt, map_clip h, List.take_of_length_le h30]
theorem fmtR_in2 (l : List Int) : ∀ c ∈ fmtR l, (48 ≤ c ∧ c ≤ 57) ∨ c = 59 := fmtGo_in _
theorem fmtR_in (l : List Int) : ∀ c ∈ fmtR l, 48 ≤ c ∧ c ≤ 59 := fun c hc => by have := fmtR_in2 l c hc; omega

/-! ### The machine reads a token's bytes back -/
theorem plainL_id {l : List Int} (h : ∀ c ∈ l, c ≠ 0 ∧ c ≠ 127 ∧ ¬ (128 ≤ c ∧ c < 160)) : plainL l = l := by
  induction l with
  | nil => rfl
  | cons c l ih =>
    have hc := h c (by simp)
    have hp : plainOf c = [c] := by unfold plainOf; rw [if_neg (by omega), if_neg hc.2.2]
    have := ih fun x hx => h x (by simp [hx])
    unfold plainL at this ⊢
    rw [List.flatMap_cons, hp, this]; rfl
theorem plainL_append (a b : List Int) : plainL (a ++ b) = plainL a ++ plainL b := by simp [plainL]
theorem plainL_pair {c : Int} (h : 64 ≤ c ∧ c ≤ 126) (eight : Bool) : plainL (pairR c eight) = [27, c] := by
  unfold pairR
  split
  · rename_i h2
    have : plainOf (c + 64) = [27, c] := by unfold plainOf; rw [if_neg (by omega), if_pos (by omega)]; simp
    simp [plainL, this]
  · exact plainL_id (by intro x hx; simp at hx; omega)
theorem dataOk_facts {c : Int} (h : dataOk c = true) : (8 ≤ c ∧ c ≤ 13) ∨ (32 ≤ c ∧ c ≤ 126) ∨ 160 ≤ c := by
  simp [dataOk] at h; omega

theorem run_text (l : List Int) (hl : ∀ c ∈ l, dataOk c = true) : ∀ s : PS, s.phase = 3 → runM s l = (l.foldl textM s, []) ∧ (l.foldl textM s).phase = 3 := by
  induction l with
  | nil => intro s h; exact ⟨rfl, h⟩
  | cons c l ih =>
    intro s h
    have hd := dataOk_facts (hl c (by simp))
    have hs : takeM s c = (textM s c, []) := by
      unfold takeM
      rw [if_neg (by omega)]
      unfold takeM1
      rw [if_neg (by omega), if_neg (by omega), if_neg (by omega)]
      by_cases h32 : 32 ≤ c
      · rw [if_pos h32]; unfold stepM; simp [h]
      · rw [if_neg h32, if_neg (by omega), if_neg (by omega), if_pos (by omega)]; unfold stepM; simp [h]
    have hp : (textM s c).phase = 3 := by unfold textM; split <;> exact h
    obtain ⟨i1, i2⟩ := ih (fun x hx => hl x (by simp [hx])) _ hp
    refine ⟨?_, i2⟩
    simp only [runM, hs, i1, List.foldl_cons, List.nil_append]
theorem text_fold (l : List Int) : ∀ (s : PS) (t : Tok) (good : Bool), InStr s t good → InStr (l.foldl textM s) { t with data := t.data ++ l } good := by
  induction l with
  | nil => intro s t g h; simpa using h
  | cons c l ih =>
    intro s t g h
    have := ih _ _ _ (text_str h c)
    simpa using this
/-- A string's end. -/
theorem run_end (s : PS) (h : s.phase = 3) : runM s [27, 92] = (PS.init, emit { s with phase := 4 }) := by
  have h1 : takeM s 27 = ({ s with phase := 4 }, []) := by
    unfold takeM; rw [if_neg (by omega)]; unfold takeM1; simp [h]
  have h2 : takeM { s with phase := 4 } 92 = (PS.init, emit { s with phase := 4 }) := by
    unfold takeM; simp
  simp only [runM, h1, h2, List.nil_append, List.append_nil]
theorem emit_phase (s : PS) (p : Int) : emit { s with phase := p } = emit s := rfl

theorem run_ints (l : List Int) (hl : ∀ c ∈ l, 32 ≤ c ∧ c ≤ 47) : ∀ b : List Int, runM (F1 b) l = (F1 (b ++ l), []) := by
  induction l with
  | nil => intro b; simp [runM]
  | cons c l ih =>
    intro b
    have hc := hl c (by simp)
    have hp : (F1 b).phase = 1 := by rw [F1_form]
    have h1 : takeM (F1 b) c = (F1 (b ++ [c]), []) := by
      rw [take_step _ _ (by omega) (by omega), stepM_1 _ _ hp, show c % 128 = c by omega, if_neg (by omega), F1_step _ _ (by omega)]
    have := ih (fun x hx => hl x (by simp [hx])) (b ++ [c])
    simp only [runM, h1, this, List.append_assoc, List.singleton_append, List.nil_append]
theorem run_head (k : Int) (l : List Int) (hl : ∀ c ∈ l, 32 ≤ c ∧ c < 64) : ∀ b : List Int, (∀ c ∈ b, 32 ≤ c ∧ c < 64) → runM (F2 k b) l = (F2 k (b ++ l), []) := by
  induction l with
  | nil => intro b _; simp [runM]
  | cons c l ih =>
    intro b hb
    have hc := hl c (by simp)
    obtain ⟨hp, _⟩ := F2_keeps k b fun x hx => (hb x hx).2
    have h1 : takeM (F2 k b) c = (F2 k (b ++ [c]), []) := by
      rw [take_step _ _ (by omega) (by omega), stepM_2 _ _ hp, show c % 128 = c by omega, if_neg (by omega), F2_snoc]
      exact Prod.ext rfl (headerM_keeps (F2 k b) c (by omega)).1
    have := ih (fun x hx => hl x (by simp [hx])) (b ++ [c]) (by
      intro x hx; rcases List.mem_append.1 hx with h | h
      · exact hb x h
      · simp at h; omega)
    simp only [runM, h1, this, List.append_assoc, List.singleton_append, List.nil_append]

/-- What stands ahead of the last byte of a sequence's head. -/
def headR (m : Int) (ps l : List Int) : List Int := (if m ≠ 0 then [m] else []) ++ fmtR ps ++ l
theorem headR_in {m : Int} {ps l : List Int} (hm : MarkOk m) (hl : IntsOk l) : ∀ c ∈ headR m ps l, 32 ≤ c ∧ c < 64 := by
  intro c hc
  unfold headR at hc
  rcases List.mem_append.1 hc with hc | hc
  · rcases List.mem_append.1 hc with hc | hc
    · split at hc
      · simp at hc; unfold MarkOk at hm; omega
      · simp at hc
    · have := fmtR_in ps c hc; omega
  · have := hl.2 c hc; omega
theorem parse_head {k c m : Int} {ps l : List Int} (hm : MarkOk m) (hp : NumsL ps) (hl : IntsOk l) :
    parseR k (headR m ps l) c = (⟨k, c, m, ps, l, []⟩, true) := by
  have hf : ∀ x ∈ fmtR ps, 48 ≤ x ∧ x ≤ 59 := fmtR_in ps
  have hu : unmark (headR m ps l) = fmtR ps ++ l ∧ markOf (headR m ps l) = m := by
    unfold headR
    by_cases h0 : m = 0
    · subst h0
      simp only [ne_eq, not_true_eq_false, if_false, List.nil_append]
      cases hx : fmtR ps ++ l with
      | nil => simp [unmark, markOf]
      | cons y r =>
        have hy : y ∈ fmtR ps ++ l := by rw [hx]; simp
        have : y < 60 := by
          rcases List.mem_append.1 hy with h | h
          · have := hf y h; omega
          · have := hl.2 y h; omega
        simp only [unmark, markOf]
        rw [if_neg (by omega), if_neg (by omega)]; exact ⟨rfl, rfl⟩
    · have : 60 ≤ m ∧ m ≤ 63 := by unfold MarkOk at hm; omega
      simp [h0, unmark, markOf, this]
  unfold parseR
  simp only [hu.1, hu.2]
  have ht : (fmtR ps ++ l).takeWhile (fun x => decide (48 ≤ x)) = fmtR ps ∧ (fmtR ps ++ l).dropWhile (fun x => decide (48 ≤ x)) = l := by
    have hl0 : l.takeWhile (fun x => decide (48 ≤ x)) = [] ∧ l.dropWhile (fun x => decide (48 ≤ x)) = l := by
      cases l with
      | nil => simp
      | cons y r =>
        have := hl.2 y (by simp)
        have hd : decide (48 ≤ y) = false := by simp; omega
        simp [List.takeWhile, List.dropWhile, hd]
    have hf0 : ∀ x ∈ fmtR ps, decide (48 ≤ x) = true := fun x hx => by simpa using (hf x hx).1
    rw [List.takeWhile_append_of_pos hf0, List.dropWhile_append_of_pos hf0, hl0.1, hl0.2]
    simp
  rw [ht.1, ht.2, nums_fmt hp]
  refine Prod.ext rfl ?_
  have h1 : (fmtR ps).all isAcc = true := by
    rw [List.all_eq_true]; intro x hx; have hq := fmtR_in2 ps x hx; simp only [isAcc, Bool.or_eq_true, Bool.and_eq_true, decide_eq_true_eq]; omega
  have h2 : l.all (fun x => decide (x < 48)) = true := by
    rw [List.all_eq_true]; intro x hx; have := hl.2 x hx; simp; omega
  simp [h1, hl.1, h2]

/-- The head of a sequence with numbers. -/
theorem run_seq_head {k c m : Int} {ps l : List Int} (hk : k = 4 ∨ k = 5) (hc : 64 ≤ c ∧ c ≤ 126) (hm : MarkOk m) (hp : NumsL ps) (hl : IntsOk l) :
    runM PS.init ([27, begR k] ++ headR m ps l ++ [c]) = headerM (F2 k (headR m ps l)) c ∧ (F2 k (headR m ps l)).phase = 2 ∧ (F2 k (headR m ps l)).kind = k ∧ (F2 k (headR m ps l)).data = [] ∧
      (F2 k (headR m ps l)).void = false ∧ (F2 k (headR m ps l)).mark = m ∧ accList (F2 k (headR m ps l)) = ps ∧ (F2 k (headR m ps l)).inters = l := by
  have hin := headR_in (ps := ps) hm hl
  obtain ⟨hph, hkd, _, hdt⟩ := F2_keeps k (headR m ps l) fun x hx => (hin x hx).2
  obtain ⟨p1, p2⟩ := parse_run k (headR m ps l) c hin
  rw [parse_head hm hp hl] at p1 p2
  obtain ⟨q1, q2, q3⟩ := p2 rfl
  have hmk : markOf (headR m ps l) = m := by
    have := congrArg (fun x => x.1.mark) (parse_head (k := k) (c := c) hm hp hl)
    exact this
  refine ⟨?_, hph, hkd, hdt, by simpa using p1, q1.trans hmk, q2, q3⟩
  have h0 : runM PS.init [27, begR k] = (F2 k [], []) := by
    rcases hk with rfl | rfl <;> decide
  rw [List.append_assoc, runM_append, h0]
  simp only [List.nil_append]
  rw [runM_append, run_head k _ hin [] (by simp)]
  simp only [List.nil_append]
  have hs : takeM (F2 k (headR m ps l)) c = headerM (F2 k (headR m ps l)) c := by
    rw [take_step _ _ (by omega) (by omega), stepM_2 _ _ hph, show c % 128 = c by omega, if_neg (by omega)]
  simp only [runM, hs, List.append_nil]

theorem bytes_back {t : Tok} (h : Can t) (eight : Bool) : feedM PS.init (bytesR t eight) = (PS.init, [t]) := by
  unfold feedM
  cases h with
  | print c hc =>
    have hb : bytesR ⟨1, c, 0, [], [], []⟩ eight = [c] := by simp [bytesR]
    rw [hb, plainL_id (by intro x hx; simp at hx; omega)]
    have : takeM PS.init c = (PS.init, [printT c]) := by
      rw [take_step _ _ (by simp [PS.init]) (by omega)]; simp [stepM, PS.init]
    simp [runM, this, printT]
  | ctrl c hc =>
    have hb : bytesR ⟨2, c, 0, [], [], []⟩ eight = [c] := by simp [bytesR]
    rw [hb, plainL_id (by intro x hx; simp at hx; omega)]
    have : takeM PS.init c = (PS.init, [ctrlT c]) := by
      unfold takeM; rw [if_neg (by simp [PS.init])]; unfold takeM1
      rw [if_neg (by omega), if_neg (by omega)]
      by_cases h26 : c = 26
      · subst h26; simp
      · rw [if_neg h26, if_neg (by omega), if_pos (by simp [PS.init])]
    simp [runM, this, ctrlT]
  | esc c l hc hl hx =>
    have hrun : plainL (bytesR ⟨3, c, 0, [], l, []⟩ eight) = 27 :: l ++ [c] := by
      by_cases h0 : l = []
      · subst h0
        have hb : bytesR ⟨3, c, 0, [], [], []⟩ eight = pairR c eight := by simp [bytesR]
        rw [hb]
        by_cases h64 : 64 ≤ c
        · rw [plainL_pair ⟨h64, hc.2⟩]; rfl
        · have : pairR c eight = [27, c] := by unfold pairR; rw [if_neg (by omega)]
          rw [this, plainL_id (by intro x hx; simp at hx; omega)]; rfl
      · have hb : bytesR ⟨3, c, 0, [], l, []⟩ eight = 27 :: l ++ [c] := by simp [bytesR, h0]
        rw [hb, plainL_id]
        intro x hx
        simp at hx
        rcases hx with rfl | hx | rfl
        · omega
        · have := hl.2 x hx; omega
        · omega
    rw [hrun]
    have h1 : runM PS.init [27] = (F1 [], []) := by decide
    rw [show 27 :: l ++ [c] = [27] ++ (l ++ [c]) from rfl, runM_append, h1]
    simp only [List.nil_append]
    rw [runM_append, run_ints l hl.2 []]
    simp only [List.nil_append]
    have hp : (F1 l).phase = 1 := by rw [F1_form]
    have hs : takeM (F1 l) c = escapedM (F1 l) c := by
      rw [take_step _ _ (by omega) (by omega), stepM_1 _ _ hp, show c % 128 = c by omega, if_neg (by omega)]
    have he : escapedM (F1 l) c = (PS.init, [⟨3, c, 0, [], l, []⟩]) := by
      rw [F1_form]
      have h3 : decide (3 < l.length) = false := by have := hl.1; simp; omega
      have ht : l.take 3 = l := List.take_of_length_le hl.1
      rw [h3, ht]
      unfold escapedM
      rw [if_neg (by omega)]
      by_cases h0 : l = []
      · subst h0
        obtain ⟨a, b⟩ := hx rfl
        simp [a, b, emit, accList]
      · simp [h0, emit, accList]
    simp only [runM, hs, he, List.append_nil]
  | csi c m ps l hc hm hp hl =>
    have hin := headR_in (ps := ps) hm hl
    have hb : bytesR ⟨4, c, m, ps, l, []⟩ eight = pairR 91 eight ++ (headR m ps l ++ [c]) := by simp [bytesR, begR, headR]
    have hb2 : plainL (headR m ps l ++ [c]) = headR m ps l ++ [c] := plainL_id (by
      intro x hx
      rcases List.mem_append.1 hx with h | h
      · have := hin x h; omega
      · simp at h; omega)
    rw [hb, plainL_append, plainL_pair (by omega), hb2]
    obtain ⟨h0, h1, h2, h3, h4, h5, h6, h7⟩ := run_seq_head (.inl rfl) hc hm hp hl
    rw [show [(27 : Int), 91] ++ (headR m ps l ++ [c]) = [27, begR 4] ++ headR m ps l ++ [c] by simp [begR], h0]
    unfold headerM
    rw [if_neg (by omega), if_pos hc.1]
    simp only [h2, if_true]
    unfold emit
    have h4' : ({ F2 4 (headR m ps l) with first := false, code := c } : PS).void = false := h4
    simp only [h4, Bool.false_eq_true, if_false, h2, h3, h5, h7]
    refine Prod.ext rfl ?_
    simp only [List.cons.injEq, Tok.mk.injEq, and_true, true_and]
    exact h6
  | dcs c m ps l d hc hm hp hl hd =>
    have hin := headR_in (ps := ps) hm hl
    have hb : bytesR ⟨5, c, m, ps, l, d⟩ eight = pairR 80 eight ++ (headR m ps l ++ [c] ++ d ++ pairR 92 eight) := by simp [bytesR, begR, headR]
    have hdd := fun x hx => dataOk_facts (hd.2 x hx)
    have hb2 : plainL (headR m ps l ++ [c] ++ d) = headR m ps l ++ [c] ++ d := plainL_id (by
      intro x hx
      rcases List.mem_append.1 hx with h | h
      · rcases List.mem_append.1 h with h | h
        · have := hin x h; omega
        · simp at h; omega
      · have := hdd x h; omega)
    rw [hb, plainL_append, plainL_append, plainL_pair (by omega), plainL_pair (by omega), hb2]
    obtain ⟨h0, h1, h2, h3, h4, h5, h6, h7⟩ := run_seq_head (.inr rfl) hc hm hp hl
    rw [show [(27 : Int), 80] ++ (headR m ps l ++ [c] ++ d ++ [27, 92]) = ([27, begR 5] ++ headR m ps l ++ [c]) ++ (d ++ [27, 92]) by simp [begR], runM_append, h0]
    have hh : headerM (F2 5 (headR m ps l)) c = ({ F2 5 (headR m ps l) with first := false, code := c, phase := 3 }, []) := by
      unfold headerM
      rw [if_neg (by omega), if_pos hc.1]
      simp [h2]
    rw [hh]
    simp only [List.nil_append]
    have hI : InStr { F2 5 (headR m ps l) with first := false, code := c, phase := 3 } ⟨5, c, m, ps, l, []⟩ true := by
      refine ⟨rfl, h2, by simp [h4], fun _ => ⟨rfl, h5, h6, h7, h3⟩⟩
    obtain ⟨r1, r2⟩ := run_text d hd.2 _ hI.1
    rw [runM_append, r1]
    simp only [List.nil_append]
    rw [run_end _ r2, emit_phase]
    have he := emit_str (text_fold d _ _ _ hI) []
    rw [if_pos ⟨rfl, by simpa using hd.1⟩] at he
    simp only [List.nil_append] at he
    rw [he]
  | str k d hk hd =>
    have hdd := fun x hx => dataOk_facts (hd.2 x hx)
    have h92 : 64 ≤ begR k ∧ begR k ≤ 126 := by
      rcases (by omega : k = 6 ∨ k = 7 ∨ k = 8 ∨ k = 9) with rfl | rfl | rfl | rfl <;> decide
    have hb : bytesR ⟨k, 0, 0, [], [], d⟩ eight = pairR (begR k) eight ++ (d ++ pairR 92 eight) := by
      simp only [bytesR]
      rw [if_neg (by omega), if_neg (by omega), if_neg (by omega), if_pos (by omega)]
      simp
    have hb2 : plainL d = d := plainL_id (by intro x hx; have := hdd x hx; omega)
    rw [hb, plainL_append, plainL_append, plainL_pair h92, plainL_pair (by omega), hb2, runM_append]
    have h0 : runM PS.init [27, begR k] = (PS.begin_ 3 k, []) := by
      rcases (by omega : k = 6 ∨ k = 7 ∨ k = 8 ∨ k = 9) with rfl | rfl | rfl | rfl <;> decide
    rw [h0]
    simp only [List.nil_append]
    have hI : InStr (PS.begin_ 3 k) ⟨k, 0, 0, [], [], []⟩ true := by
      refine ⟨rfl, rfl, by simp [PS.begin_], fun _ => ⟨rfl, rfl, by simp [PS.begin_, accList], rfl, rfl⟩⟩
    obtain ⟨r1, r2⟩ := run_text d hd.2 _ hI.1
    rw [runM_append, r1]
    simp only [List.nil_append]
    rw [run_end _ r2, emit_phase]
    have he := emit_str (text_fold d _ _ _ hI) []
    rw [if_pos ⟨rfl, by simpa using hd.1⟩] at he
    simp only [List.nil_append] at he
    rw [he]

end Go.Proofs.YtnnhaenmoifplaaDoor
