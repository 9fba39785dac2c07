/-
  Keys with texts: the plain law (texts by keys, the document's list, definitions).
-/
import Derived.Lib.SplitLaws
import Derived.Test.YtdfohcnejdhkiaaDoorZMcB
namespace Go.Proofs.YtdfohcnejdhkiaaDoor
set_option linter.unusedSimpArgs false
set_option linter.unusedVariables false
set_option linter.unusedVariables false

/-! ### Pieces at a separator -/
def sp (x : UInt8) : List UInt8 → List UInt8 × List (List UInt8)
  | [] => ([], [])
  | c :: l => if c = x then ([], (sp x l).1 :: (sp x l).2) else (c :: (sp x l).1, (sp x l).2)
theorem sp_yes (x : UInt8) (l : List UInt8) : sp x (x :: l) = ([], (sp x l).1 :: (sp x l).2) := by
  show (if x = x then _ else _) = _
  rw [if_pos rfl]
theorem sp_no (x c : UInt8) (l : List UInt8) (h : ¬ c = x) : sp x (c :: l) = (c :: (sp x l).1, (sp x l).2) := by
  show (if c = x then _ else _) = _
  rw [if_neg h]
def sps (x : UInt8) (l : List UInt8) : List (List UInt8) := (sp x l).1 :: (sp x l).2
theorem split_sps (x : UInt8) : ∀ l : List UInt8, Lib.splitK [x] 0 (Lib.count l [x]) l = sps x l
  | [] => by rw [Lib.count_one]; rfl
  | c :: l => by
    have ih := split_sps x l
    by_cases hc : c = x
    · subst hc
      rw [Lib.count_cons_eq, Nat.add_comm, Lib.splitK]
      have hix : Lib.index (c :: l) [c] = 0 := by unfold Lib.index; simp [List.isPrefixOf]
      rw [hix]
      simp only [show ((0 : Int) == -1) = false from rfl, Bool.false_eq_true, if_false]
      simp only [Int.toNat_zero, Nat.zero_add, List.length_cons, List.length_nil, List.take_zero, List.drop_succ_cons, List.drop_zero]
      rw [ih]
      unfold sps
      rw [sp_yes]
    · rw [Lib.count_cons_ne c x l hc]
      have hp : ([x] : List UInt8).isPrefixOf (c :: l) = false := by simp [List.isPrefixOf]; exact fun h => hc h.symm
      have hix : Lib.index (c :: l) [x] = if Lib.index l [x] == -1 then -1 else Lib.index l [x] + 1 := by rw [Lib.index, hp]; simp
      have hpc : sps x (c :: l) = (c :: (sp x l).1) :: (sp x l).2 := by unfold sps; rw [sp_no x c l hc]
      rw [hpc]
      unfold sps at ih
      generalize Lib.count l [x] = k at ih ⊢
      cases k with
      | zero =>
        rw [Lib.splitK] at ih ⊢
        injection ih with i1 i2
        rw [← i1, ← i2]
      | succ k =>
        rw [Lib.splitK] at ih ⊢
        rw [hix]
        by_cases hm : (Lib.index l [x] == -1) = true
        · rw [if_pos hm] at ih ⊢
          injection ih with i1 i2
          rw [← i1, ← i2, if_pos (by decide)]
        · rw [if_neg hm] at ih ⊢
          have hge := Lib.index_ge l [x]
          have hne : Lib.index l [x] ≠ -1 := fun e => hm (by rw [e]; rfl)
          obtain ⟨j, hj⟩ : ∃ j : Nat, Lib.index l [x] = j := ⟨(Lib.index l [x]).toNat, by omega⟩
          rw [hj] at ih ⊢
          have h1 : (((j : Int) + 1) == -1) = false := by simp; omega
          rw [h1]
          simp only [Bool.false_eq_true, if_false]
          have h2 : ((j : Int) + 1).toNat = j + 1 := by omega
          rw [h2]
          injection ih with i1 i2
          simp only [Int.toNat_natCast, Nat.add_zero] at i1 i2
          rw [← i1, ← i2]
          simp
theorem sp_app (x : UInt8) : ∀ (ds u : List UInt8), (∀ c ∈ ds, c ≠ x) → sp x (ds ++ u) = (ds ++ (sp x u).1, (sp x u).2)
  | [], u, _ => rfl
  | c :: ds, u, h => by
    rw [List.cons_append, sp_no _ _ _ (h c (by simp)), sp_app x ds u (fun c hc => h c (by simp [hc]))]
    rfl
theorem sps_none {x : UInt8} {l : List UInt8} (h : ∀ c ∈ l, c ≠ x) : sps x l = [l] := by
  have := sp_app x l [] h
  rw [List.append_nil] at this
  unfold sps; rw [this]; simp [sp]
theorem sps_cut {x : UInt8} {l r : List UInt8} (h : ∀ c ∈ l, c ≠ x) : sps x (l ++ x :: r) = l :: sps x r := by
  unfold sps; rw [sp_app x l _ h, sp_yes]; simp
theorem sps_len (x : UInt8) : ∀ l : List UInt8, (sps x l).length ≤ l.length + 1
  | [] => by simp [sps, sp]
  | c :: l => by
    have ih := sps_len x l
    unfold sps at ih ⊢
    by_cases hc : c = x
    · subst hc; rw [sp_yes]; simp at ih ⊢; omega
    · rw [sp_no _ _ _ hc]; simp at ih ⊢; omega
theorem sps_short (x : UInt8) : ∀ l : List UInt8, ∀ q ∈ sps x l, q.length ≤ l.length
  | [], q, hq => by simp [sps, sp] at hq; subst hq; simp
  | c :: l, q, hq => by
    have ih := sps_short x l
    unfold sps at ih hq
    by_cases hc : c = x
    · subst hc
      rw [sp_yes] at hq
      simp only [List.mem_cons] at hq ih
      rcases hq with rfl | hq
      · simp
      · have := ih q (by simpa using hq); simp; omega
    · rw [sp_no _ _ _ hc] at hq
      simp only [List.mem_cons] at hq ih
      rcases hq with rfl | hq
      · have := ih _ (.inl rfl); simp; omega
      · have := ih q (.inr hq); simp; omega

/-! ### Keys -/
/-- Is it a key? -/
def isK (n : Nat) : Bool := decide (17 ≤ n) && decide (n ≤ 34) && decide (n ≠ 22) && decide (n ≠ 27) && decide (n ≠ 30)
theorem isK_in {n : Nat} (h : isK n = true) : 17 ≤ n ∧ n ≤ 34 := by unfold isK at h; simp at h; omega
/-- The digits of a number, kept small. -/
def isDg (c : UInt8) : Bool := decide (48 ≤ c.toNat) && decide (c.toNat ≤ 57)
def valK (m : Nat) (q : List UInt8) : Nat := q.foldl (fun n c => min (n * 10 + (c.toNat - 48)) m) 0
theorem valK_snoc (m : Nat) (q : List UInt8) (c : UInt8) : valK m (q ++ [c]) = min (valK m q * 10 + (c.toNat - 48)) m := by unfold valK; rw [List.foldl_append]; rfl
theorem valK_le (m : Nat) (q : List UInt8) : valK m q ≤ m := by
  rcases List.eq_nil_or_concat q with rfl | ⟨l, c, rfl⟩
  · exact Nat.zero_le _
  · rw [List.concat_eq_append, valK_snoc]; omega
theorem valK_two (q : List UInt8) : valK 68 q = min (valK 1000 q) 68 := by
  have h : ∀ (l : List UInt8) (a b : Nat), a = min b 68 → l.foldl (fun n c => min (n * 10 + (c.toNat - 48)) 68) a = min (l.foldl (fun n c => min (n * 10 + (c.toNat - 48)) 1000) b) 68 := by
    intro l
    induction l with
    | nil => intro a b e; exact e
    | cons c l ih => intro a b e; simp only [List.foldl_cons]; exact ih _ _ (by omega)
  exact h q 0 0 rfl
theorem isK_two (q : List UInt8) : isK (valK 68 q) = isK (valK 1000 q) ∧ (isK (valK 68 q) = true → valK 68 q = valK 1000 q) := by
  have h := valK_two q
  have hb : valK 1000 q ≤ 68 ∨ 68 < valK 1000 q := by omega
  rcases hb with hb | hb
  · have e : valK 68 q = valK 1000 q := by omega
    exact ⟨by rw [e], fun _ => e⟩
  · have e : valK 68 q = 68 := by omega
    have f1 : isK 68 = false := by decide
    have f2 : isK (valK 1000 q) = false := by
      rcases hk : isK (valK 1000 q) with _ | _
      · rfl
      · have := isK_in hk; omega
    rw [e, f1, f2]
    exact ⟨rfl, fun h => by cases h⟩

/-! ### The texts -/
abbrev Txs := List (List UInt8)
/-- As the document has them: by rising keys. -/
def docGo : Nat → Txs → List (Nat × List UInt8)
  | _, [] => []
  | k, s :: l => if s = [] then docGo (k + 1) l else (k, s) :: docGo (k + 1) l
def docL (L : Txs) : List (Nat × List UInt8) := docGo 17 L
def usedL (L : Txs) : Nat := (L.map List.length).sum
def usedD (l : List (Nat × List UInt8)) : Nat := (l.map fun p => p.2.length).sum
theorem used_go : ∀ (k : Nat) (L : Txs), usedD (docGo k L) = usedL L
  | _, [] => rfl
  | k, s :: l => by
    have ih := used_go (k + 1) l
    unfold usedD usedL at ih ⊢
    unfold docGo
    split
    · rename_i h; subst h; simpa using ih
    · simp [ih]
theorem used_doc (L : Txs) : usedD (docL L) = usedL L := used_go 17 L
theorem docGo_len : ∀ (k : Nat) (L : Txs), (docGo k L).length ≤ L.length
  | _, [] => by simp [docGo]
  | k, s :: l => by
    have := docGo_len (k + 1) l
    unfold docGo; split <;> simp <;> omega
theorem docGo_ge : ∀ (k : Nat) (L : Txs), ∀ p ∈ docGo k L, k ≤ p.1 ∧ p.1 < k + L.length
  | _, [], p, hp => by simp [docGo] at hp
  | k, s :: l, p, hp => by
    unfold docGo at hp
    split at hp
    · have := docGo_ge (k + 1) l p hp; simp; omega
    · rcases List.mem_cons.1 hp with rfl | hp
      · simp
      · have := docGo_ge (k + 1) l p hp; simp; omega
/-- A key has a text: put into the document's list. -/
def putR (key : Nat) (t : List UInt8) : Bool → List (Nat × List UInt8) → List (Nat × List UInt8)
  | done, [] => if done = true then [] else [(key, t)]
  | done, p :: l => (if key ≤ p.1 ∧ done = false then [(key, t)] else []) ++ (if p.1 ≠ key then [p] else []) ++ putR key t (done || decide (key ≤ p.1)) l
theorem putR_done (key : Nat) (t : List UInt8) : ∀ l : List (Nat × List UInt8), (∀ p ∈ l, p.1 ≠ key) → putR key t true l = l
  | [], _ => rfl
  | p :: l, h => by
    unfold putR
    rw [if_neg (by simp), if_pos (h p (by simp)), Bool.true_or, putR_done key t l fun q hq => h q (by simp [hq])]
    rfl
theorem put_head (key : Nat) (t : List UInt8) (l : List (Nat × List UInt8)) (h : ∀ p ∈ l, key < p.1) : putR key t false l = (key, t) :: l := by
  match l, h with
  | [], _ => rfl
  | p :: l, h =>
    have hp := h p (by simp)
    unfold putR
    rw [if_pos ⟨by omega, rfl⟩, if_pos (by omega), show (false || decide (key ≤ p.1)) = true by simp; omega, putR_done key t l fun q hq => by have := h q (by simp [hq]); omega]
    rfl
theorem put_go (t : List UInt8) : ∀ (k key : Nat) (L : Txs), k ≤ key → key < k + L.length → putR key t (decide (t = [])) (docGo k L) = docGo k (L.set (key - k) t)
  | k, key, [], h1, h2 => by simp at h2; omega
  | k, key, s :: l, h1, h2 => by
    have hge := docGo_ge (k + 1) l
    rcases Nat.eq_or_lt_of_le h1 with he | hlt
    · subst he
      rw [Nat.sub_self, List.set_cons_zero]
      have hd : ∀ p ∈ docGo (k + 1) l, p.1 ≠ k := fun p hp => by have := hge p hp; omega
      have hl : ∀ p ∈ docGo (k + 1) l, k < p.1 := fun p hp => by have := hge p hp; omega
      by_cases ht : t = []
      · subst ht
        simp only [docGo, if_true, decide_true]
        split
        · exact putR_done _ _ _ hd
        · unfold putR
          rw [if_neg (by simp), if_neg (by simp), Bool.true_or, putR_done _ _ _ hd]; rfl
      · simp only [docGo, if_neg ht, decide_eq_false ht]
        split
        · exact put_head _ _ _ hl
        · unfold putR
          rw [if_pos ⟨Nat.le_refl _, rfl⟩, if_neg (by simp), show (false || decide (k ≤ (k, s).1)) = true by simp, putR_done _ _ _ hd]; rfl
    · rw [show key - k = (key - (k + 1)) + 1 by omega, List.set_cons_succ]
      have ih := put_go t (k + 1) key l (by omega) (by simp at h2; omega)
      unfold docGo
      split
      · exact ih
      · unfold putR
        rw [if_neg (by simp; omega), if_pos (by simp; omega), show decide (key ≤ (k, s).1) = false by simp; omega, Bool.or_false, ih]; rfl
theorem put_doc {L : Txs} (t : List UInt8) {key : Nat} (hL : L.length = 18) (hk : isK key = true) : putR key t (decide (t = [])) (docL L) = docL (L.set (key - 17) t) := by
  have := isK_in hk
  exact put_go t 17 key L (by omega) (by omega)

/-! ### Definitions -/
/-- What is ahead of a stroke and what is behind it. -/
def cutS : List UInt8 → Option (List UInt8 × List UInt8)
  | [] => none
  | c :: l => if c = 47 then some ([], l) else (cutS l).map fun p => (c :: p.1, p.2)
theorem cutS_app : ∀ (a b : List UInt8), (∀ c ∈ a, c ≠ 47) → cutS (a ++ 47 :: b) = some (a, b)
  | [], b, _ => rfl
  | c :: a, b, h => by
    have hc := h c (by simp)
    show (if c = 47 then _ else _) = _
    rw [if_neg hc]
    show (cutS (a ++ 47 :: b)).map _ = _
    rw [cutS_app a b fun x hx => h x (by simp [hx])]; rfl
theorem cutS_none : ∀ (a : List UInt8), (∀ c ∈ a, c ≠ 47) → cutS a = none
  | [], _ => rfl
  | c :: a, h => by
    show (if c = 47 then _ else _) = _
    rw [if_neg (h c (by simp)), cutS_none a fun x hx => h x (by simp [hx])]; rfl
/-- A definition's key and digits. -/
def defP (q : List UInt8) : Option (Nat × List UInt8) := match cutS q with
  | none => none
  | some (a, b) => if a.all isDg = true ∧ isK (valK 68 a) = true then some (valK 68 a, b) else none
/-- A definition: the texts then. -/
def defR (L : Txs) (q : List UInt8) : Option Txs := if q = [] then some L else match defP q with
  | none => none
  | some (n, b) => (hexR b).map fun t => L.set (n - 17) t
theorem defR_len {L L' : Txs} {q : List UInt8} (h : defR L q = some L') : L'.length = L.length := by
  unfold defR at h
  split at h
  · injection h with h; rw [← h]
  · split at h
    · cases h
    · obtain ⟨t, _, rfl⟩ := Option.map_eq_some_iff.1 h
      simp
/-- All of them. -/
def withR (L : Txs) : List (List UInt8) → Option Txs
  | [] => some L
  | q :: l => match defR L q with
    | none => none
    | some L' => withR L' l
theorem withR_take {l : List (List UInt8)} {L L1 L2 : Txs} {i : Nat} {q : List UInt8} (h : withR L (l.take i) = some L1) (hq : l[i]? = some q) (h2 : defR L1 q = some L2) : withR L (l.take (i + 1)) = some L2 := by
  rw [List.take_add_one, hq]
  have key : ∀ (a : List (List UInt8)) (L : Txs), withR L a = some L1 → withR L (a ++ [q]) = some L2 := by
    intro a
    induction a with
    | nil => intro L h; injection h with h; subst h; simp [withR, h2]
    | cons x a ih =>
      intro L h
      simp only [List.cons_append, withR] at h ⊢
      split at h
      · cases h
      · rename_i L' hx
        exact ih L' h
  exact key _ _ h
theorem withR_bad {l : List (List UInt8)} {L L1 : Txs} {i : Nat} {q : List UInt8} (h : withR L (l.take i) = some L1) (hq : l[i]? = some q) (h2 : defR L1 q = none) : withR L l = none := by
  have e : l = l.take i ++ q :: l.drop (i + 1) := by
    obtain ⟨hi, hx⟩ := List.getElem?_eq_some_iff.1 hq
    rw [← hx, List.getElem_cons_drop, List.take_append_drop]
  have key : ∀ (a b : List (List UInt8)) (L : Txs), withR L a = some L1 → withR L (a ++ q :: b) = none := by
    intro a b
    induction a with
    | nil => intro L h; injection h with h; subst h; simp [withR, h2]
    | cons x a ih =>
      intro L h
      simp only [List.cons_append, withR] at h ⊢
      split at h
      · cases h
      · rename_i L' hx
        exact ih L' h
  rw [e]
  exact key _ _ _ h
/-- What a definition does: texts, lock, error. -/
def dfnR (L : Txs) (lk clear lock : Bool) (data : List UInt8) : Txs × Bool × Int :=
  match withR (if clear = true then List.replicate 18 [] else L) (sps 59 data) with
  | none => (L, lk, 3)
  | some L1 => if 804 < usedL L1 then (L, lk, 5) else if lk = true then (L, lk, 6) else (L1, lock, 0)
end Go.Proofs.YtdfohcnejdhkiaaDoor
