/-
  Macros as a list by rising numbers, and as a map's data: the plain law.
-/
import Derived.Maps.Ext
import Derived.Test.YtaeppimldbknhaaZMpL
import Derived.Test.YtaeppimldbknhaaZMcA
namespace Go.Proofs.Ytaeppimldbknhaa
set_option linter.unusedSimpArgs false
set_option linter.unusedVariables false
open Go.RowKit Go.Maps
set_option linter.unusedVariables false

/-- A macro: its number and its bytes. -/
abbrev Mac := Int × List UInt8
def mac0 : Mac := (0, [])
def macE (p : Mac) : Lit × DataW Unit := (.int .i64 p.1, .lit (.string p.2))
def macD (l : List Mac) : DataW Unit := .map (l.map macE)
def usedL (l : List Mac) : Nat := (l.map fun p => p.2.length).sum
def riseL (l : List Mac) : Prop := l.Pairwise fun p q => p.1 < q.1
/-- What a store may be. -/
structure MacOk (l : List Mac) : Prop where
  rise : riseL l
  rng : ∀ p ∈ l, 0 ≤ p.1 ∧ p.1 < 64
  used : usedL l ≤ 6144
theorem usedL_cons (p : Mac) (l : List Mac) : usedL (p :: l) = p.2.length + usedL l := by simp [usedL]
theorem usedL_app (l m : List Mac) : usedL (l ++ m) = usedL l + usedL m := by simp [usedL]
theorem usedL_filter (f : Mac → Bool) (l : List Mac) : usedL (l.filter f) ≤ usedL l := by
  induction l with
  | nil => simp [usedL]
  | cons p l ih =>
    rw [List.filter_cons]
    split
    · rw [usedL_cons, usedL_cons]; omega
    · rw [usedL_cons]; omega
theorem macD_tot (l : List Mac) : totD (macD l) = usedL l := by
  unfold totD macD usedL sumF
  simp only
  rw [List.filter_eq_self.2 (by simp), List.map_map]
  rfl
theorem macD_size (l : List Mac) : Maps.size (macD l) = l.length := by simp [Maps.size, macD]
theorem keyI64 (z : Int) : WideAt.IsKeyLit (.int .i64 z) := by simp [WideAt.IsKeyLit]
theorem same_i (a b : Int) : (Lit.int .i64 a).sameKey (.int .i64 b) = (a == b) := by
  simp [Lit.sameKey]
  by_cases h : a = b <;> simp [h]
theorem filter_map_mac (f : Lit × DataW Unit → Bool) (l : List Mac) : (l.map macE).filter f = (l.filter fun p => f (macE p)).map macE := by
  rw [List.filter_map]; rfl
def delL (l : List Mac) (i : Int) : List Mac := l.filter fun p => !(p.1 == i)
def befL (l : List Mac) (i : Int) : List Mac := l.filter fun p => decide (p.1 < i)
def behL (l : List Mac) (i : Int) : List Mac := l.filter fun p => decide (i < p.1)
theorem macD_del (l : List Mac) (i : Int) : (macD l).del (.int .i64 i) = macD (delL l i) := by
  unfold DataW.del macD delL
  simp only
  rw [filter_map_mac]
  simp only [macE, same_i]
theorem delL_split {l : List Mac} (h : riseL l) (i : Int) : delL l i = befL l i ++ behL l i := by
  induction l with
  | nil => rfl
  | cons p l ih =>
    have hp := List.pairwise_cons.1 h
    have ih := ih hp.2
    unfold delL befL behL at ih ⊢
    rw [List.filter_cons, List.filter_cons, List.filter_cons]
    rcases Int.lt_trichotomy p.1 i with h1 | h1 | h1
    · have e1 : (p.1 == i) = false := by simp; omega
      have e2 : ¬ (i < p.1) := by omega
      simp [e1, h1, e2, ih]
    · have e3 : ∀ q ∈ l, ¬ q.1 < i := fun q hq => by have := hp.1 q hq; omega
      have e4 : l.filter (fun p => decide (p.1 < i)) = [] := List.filter_eq_nil_iff.2 fun q hq => by simpa using e3 q hq
      have e1 : (p.1 == i) = true := by simp [h1]
      have e2 : ¬ (p.1 < i) := by omega
      have e5 : ¬ (i < p.1) := by omega
      rw [ih]
      simp [e1, e2, e5]
    · have e3 : ∀ q ∈ l, ¬ q.1 < i := fun q hq => by have := hp.1 q hq; omega
      have e4 : l.filter (fun p => decide (p.1 < i)) = [] := List.filter_eq_nil_iff.2 fun q hq => by simpa using e3 q hq
      have e1 : (p.1 == i) = false := by simp; omega
      have e2 : ¬ (p.1 < i) := by omega
      rw [ih]
      simp [e1, e2, h1, e4]
theorem befL_mem {l : List Mac} {i : Int} {p : Mac} (h : p ∈ befL l i) : p ∈ l ∧ p.1 < i := by
  unfold befL at h; simpa using List.mem_filter.1 h
theorem behL_mem {l : List Mac} {i : Int} {p : Mac} (h : p ∈ behL l i) : p ∈ l ∧ i < p.1 := by
  unfold behL at h; simpa using List.mem_filter.1 h
theorem rise_mid {l : List Mac} (h : riseL l) (i : Int) (t : List UInt8) : riseL (befL l i ++ (i, t) :: behL l i) := by
  unfold riseL
  rw [List.pairwise_append]
  refine ⟨h.filter _, List.pairwise_cons.2 ⟨fun p hp => (behL_mem hp).2, h.filter _⟩, fun a ha b hb => ?_⟩
  rcases List.mem_cons.1 hb with rfl | hb
  · exact (befL_mem ha).2
  · have := (befL_mem ha).2; have := (behL_mem hb).2; show a.1 < b.1; omega
theorem rise_del {l : List Mac} (h : riseL l) (i : Int) : riseL (delL l i) := h.filter _
theorem insert_mid (i : Int) (d : DataW Unit) : ∀ (a b : List (Lit × DataW Unit)), (∀ p ∈ a, (Lit.int .i64 i).before p.1 = false) → (∀ p ∈ b, (Lit.int .i64 i).before p.1 = true) → DataW.insert (.int .i64 i, d) (a ++ b) = a ++ (.int .i64 i, d) :: b
  | [], [], _, _ => rfl
  | [], q :: b, _, hb => by
    show (if (Lit.int .i64 i).before q.1 = true then _ else _) = _
    rw [if_pos (hb q (by simp))]; rfl
  | p :: a, b, ha, hb => by
    show (if (Lit.int .i64 i).before p.1 = true then _ else p :: DataW.insert (.int .i64 i, d) (a ++ b)) = _
    rw [if_neg (by rw [ha p (by simp)]; simp), insert_mid i d a b (fun q hq => ha q (List.mem_cons_of_mem _ hq)) hb]
    rfl
theorem macD_put {l : List Mac} (h : riseL l) (i : Int) (t : List UInt8) : (macD (delL l i)).put (.int .i64 i) (.lit (.string t)) = macD (befL l i ++ (i, t) :: behL l i) := by
  have hd : (delL l i).filter (fun p => !(p.1 == i)) = delL l i := List.filter_eq_self.2 fun p hp => by
    unfold delL at hp; exact (List.mem_filter.1 hp).2
  unfold DataW.put macD
  simp only
  rw [filter_map_mac]
  simp only [macE, same_i]
  rw [hd, delL_split h, List.map_append, List.map_append, List.map_cons]
  congr 1
  refine insert_mid i _ _ _ (fun p hp => ?_) fun p hp => ?_
  · obtain ⟨q, hq, rfl⟩ := List.mem_map.1 hp
    have := (befL_mem hq).2
    simp [Lit.before, macE]; omega
  · obtain ⟨q, hq, rfl⟩ := List.mem_map.1 hp
    have := (behL_mem hq).2
    simp [Lit.before, macE]; omega
def getL (l : List Mac) (i : Int) : Option (List UInt8) := (l.find? fun p => p.1 == i).map (·.2)
theorem macD_at (l : List Mac) (i : Int) (zd : DataW Unit) : (macD l).atKey (.int .i64 i) zd = (match getL l i with | some t => .lit (.string t) | none => zd) := by
  unfold DataW.atKey macD getL
  simp only
  rw [List.find?_map]
  have : ((fun p : Lit × DataW Unit => p.1.sameKey (.int .i64 i)) ∘ macE) = fun p : Mac => p.1 == i := by
    funext p; simp [macE, same_i]
  rw [this]
  cases l.find? (fun p => p.1 == i) <;> rfl
theorem macD_has (l : List Mac) (i : Int) : Maps.has (macD l) (.int .i64 i) = (getL l i).isSome := by
  rw [show macD l = .map (l.map macE) from rfl, has_eq, List.any_map]
  have : ((fun p : Lit × DataW Unit => p.1.sameKey (.int .i64 i)) ∘ macE) = fun p : Mac => p.1 == i := by
    funext p; simp [macE, same_i]
  rw [this]
  unfold getL
  rw [Option.isSome_map]
  cases h : l.find? (fun p => p.1 == i) with
  | none =>
    rw [List.find?_eq_none] at h
    simpa using h
  | some q =>
    have h1 := List.find?_some h
    have h2 := List.mem_of_find?_eq_some h
    simp only [Option.isSome_some, List.any_eq_true]
    exact ⟨q, h2, h1⟩
theorem macD_inj {l m : List Mac} (h : macD l = macD m) : l = m := by
  unfold macD at h
  injection h with h
  refine (List.map_inj_right ?_).1 h
  rintro ⟨a, s⟩ ⟨b, t⟩ h
  simp [macE] at h
  rw [h.1, h.2]
theorem getL_mem {l : List Mac} {i : Int} {t : List UInt8} (h : getL l i = some t) : (i, t) ∈ l := by
  unfold getL at h
  simp only [Option.map_eq_some_iff] at h
  obtain ⟨⟨a, s⟩, h1, rfl⟩ := h
  have h2 := List.find?_some h1
  have h3 := List.mem_of_find?_eq_some h1
  have : a = i := by simpa using h2
  rw [← this]; exact h3
theorem used_mem {l : List Mac} {p : Mac} (h : p ∈ l) : p.2.length ≤ usedL l := by
  induction l with
  | nil => simp at h
  | cons q l ih =>
    rw [usedL_cons]
    rcases List.mem_cons.1 h with rfl | h
    · omega
    · have := ih h; omega
theorem rise_len {l : List Mac} (h : MacOk l) : l.length ≤ 64 := by
  have hn : (l.map fun p => p.1.toNat).Nodup := by
    unfold List.Nodup
    rw [List.pairwise_map]
    refine (List.Pairwise.and_mem.1 h.rise).imp fun {a b} hab => ?_
    have := h.rng a hab.1; have := h.rng b hab.2.1; omega
  have hs : (l.map fun p => p.1.toNat) ⊆ List.range 64 := fun x hx => by
    obtain ⟨p, hp, rfl⟩ := List.mem_map.1 hx
    have := h.rng p hp
    rw [List.mem_range]; omega
  have := hn.length_le_of_subset hs
  simpa using this

/-! ### Define -/
/-- Error and store of a Define. -/
def restL (l : List Mac) (i : Int) (c : Bool) : List Mac := delL (bif c then [] else l) i
def leftL (l : List Mac) (i : Int) (c : Bool) : Nat := 6144 - usedL (restL l i c)
def textR (h : Bool) (d : List UInt8) (n : Nat) : List UInt8 × Int := bif h then decR d n [] else (d, 0)
def putL (l : List Mac) (i : Int) (c : Bool) (t : List UInt8) : List Mac := befL (bif c then [] else l) i ++ ((if t = [] then [] else [(i, t)]) ++ behL (bif c then [] else l) i)
def defR (l : List Mac) (i : Int) (c h : Bool) (d : List UInt8) : List Mac × Int :=
  if i < 0 ∨ 63 < i then (l, 1) else
  if (textR h d (leftL l i c)).2 ≠ 0 then (l, (textR h d (leftL l i c)).2) else
  if leftL l i c < (textR h d (leftL l i c)).1.length then (l, 5) else
  (putL l i c (textR h d (leftL l i c)).1, 0)
theorem rise_bif {l : List Mac} (h : riseL l) (c : Bool) : riseL (bif c then [] else l) := by
  cases c
  · exact h
  · exact List.Pairwise.nil
theorem defR_ok {l : List Mac} (h : MacOk l) (i : Int) (c hx : Bool) (d : List UInt8) : MacOk (defR l i c hx d).1 := by
  unfold defR
  split
  · exact h
  rename_i h1
  split
  · exact h
  split
  · exact h
  rename_i h2 h3
  obtain ⟨t, ht⟩ : ∃ t, t = (textR hx d (leftL l i c)).1 := ⟨_, rfl⟩
  rw [← ht] at h3 ⊢
  have hr := rise_bif h.rise c
  have hsub : ∀ p ∈ (bif c then [] else l), p ∈ l := by cases c <;> simp
  have hu : usedL (bif c then [] else l) ≤ 6144 := by
    cases c
    · exact h.used
    · simp [usedL]
  unfold leftL restL at h3
  rw [delL_split hr, usedL_app] at h3
  have h4 : usedL (befL (bif c then [] else l) i) + usedL (behL (bif c then [] else l) i) ≤ 6144 := by
    rw [← usedL_app, ← delL_split hr]
    exact Nat.le_trans (usedL_filter _ _) hu
  refine ⟨?_, ?_, ?_⟩
  · show riseL (putL l i c t)
    unfold putL
    by_cases hz : t = []
    · rw [if_pos hz, List.nil_append, ← delL_split hr]; exact rise_del hr i
    · rw [if_neg hz]; exact rise_mid hr i t
  · intro p hp
    have hp : p ∈ putL l i c t := hp
    unfold putL at hp
    rcases List.mem_append.1 hp with hp | hp
    · exact h.rng p (hsub p (befL_mem hp).1)
    · rcases List.mem_append.1 hp with hp | hp
      · split at hp
        · simp at hp
        · simp at hp; subst hp; show 0 ≤ i ∧ i < 64; omega
      · exact h.rng p (hsub p (behL_mem hp).1)
  · show usedL (putL l i c t) ≤ 6144
    unfold putL
    rw [usedL_app, usedL_app]
    have : usedL (if t = [] then [] else [(i, t)]) ≤ t.length := by
      split <;> simp [usedL]
    omega
/-! ### the sum of all bytes -/
def sumB (t : List UInt8) : Nat := (t.map fun c => c.toNat).sum
def sumL (l : List Mac) : Nat := (l.map fun p => sumB p.2).sum
end Go.Proofs.Ytaeppimldbknhaa
