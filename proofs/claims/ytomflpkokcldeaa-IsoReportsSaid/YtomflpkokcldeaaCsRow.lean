/-
  The plain table of the sets: numbers, ids, sizes, names; finding by id; both texts find the same.
-/
import Derived.Test.YtomflpkokcldeaaCsTab
namespace Go.Proofs.Ytomflpkokcldeaa
set_option linter.unusedSimpArgs false
set_option linter.unusedVariables false
def rowSet (k : Nat) : Int := match k with
  | 0 => 1
  | 1 => 2
  | 2 => 3
  | 3 => 4
  | 4 => 5
  | 5 => 6
  | 6 => 7
  | 7 => 8
  | 8 => 9
  | 9 => 10
  | 10 => 11
  | 11 => 12
  | 12 => 13
  | 13 => 14
  | 14 => 15
  | 15 => 16
  | 16 => 17
  | 17 => 8
  | 18 => 9
  | 19 => 10
  | 20 => 13
  | 21 => 13
  | 22 => 16
  | 23 => 2
  | _ => 0
def rowId (k : Nat) : ByteArray := match k with
  | 0 => ⟨#[66]⟩
  | 1 => ⟨#[48]⟩
  | 2 => ⟨#[62]⟩
  | 3 => ⟨#[37, 53]⟩
  | 4 => ⟨#[65]⟩
  | 5 => ⟨#[65]⟩
  | 6 => ⟨#[52]⟩
  | 7 => ⟨#[53]⟩
  | 8 => ⟨#[82]⟩
  | 9 => ⟨#[57]⟩
  | 10 => ⟨#[75]⟩
  | 11 => ⟨#[89]⟩
  | 12 => ⟨#[96]⟩
  | 13 => ⟨#[37, 54]⟩
  | 14 => ⟨#[90]⟩
  | 15 => ⟨#[55]⟩
  | 16 => ⟨#[61]⟩
  | 17 => ⟨#[67]⟩
  | 18 => ⟨#[102]⟩
  | 19 => ⟨#[81]⟩
  | 20 => ⟨#[69]⟩
  | 21 => ⟨#[54]⟩
  | 22 => ⟨#[72]⟩
  | 23 => ⟨#[50]⟩
  | _ => ⟨#[]⟩
def rowWide (k : Nat) : Bool := match k with
  | 0 => false
  | 1 => false
  | 2 => false
  | 3 => false
  | 4 => true
  | 5 => false
  | 6 => false
  | 7 => false
  | 8 => false
  | 9 => false
  | 10 => false
  | 11 => false
  | 12 => false
  | 13 => false
  | 14 => false
  | 15 => false
  | 16 => false
  | 17 => false
  | 18 => false
  | 19 => false
  | 20 => false
  | 21 => false
  | 22 => false
  | 23 => false
  | _ => false
def rowName (k : Nat) : ByteArray := match k with
  | 0 => ⟨#[97, 115, 99, 105, 105]⟩
  | 1 => ⟨#[115, 112, 101, 99, 105, 97, 108]⟩
  | 2 => ⟨#[116, 101, 99, 104, 110, 105, 99, 97, 108]⟩
  | 3 => ⟨#[115, 117, 112, 112, 108, 101, 109, 101, 110, 116, 97, 108]⟩
  | 4 => ⟨#[108, 97, 116, 105, 110]⟩
  | 5 => ⟨#[98, 114, 105, 116, 105, 115, 104]⟩
  | 6 => ⟨#[100, 117, 116, 99, 104]⟩
  | 7 => ⟨#[102, 105, 110, 110, 105, 115, 104]⟩
  | 8 => ⟨#[102, 114, 101, 110, 99, 104]⟩
  | 9 => ⟨#[99, 97, 110, 97, 100, 105, 97, 110]⟩
  | 10 => ⟨#[103, 101, 114, 109, 97, 110]⟩
  | 11 => ⟨#[105, 116, 97, 108, 105, 97, 110]⟩
  | 12 => ⟨#[110, 111, 114, 119, 101, 103, 105, 97, 110]⟩
  | 13 => ⟨#[112, 111, 114, 116, 117, 103, 117, 101, 115, 101]⟩
  | 14 => ⟨#[115, 112, 97, 110, 105, 115, 104]⟩
  | 15 => ⟨#[115, 119, 101, 100, 105, 115, 104]⟩
  | 16 => ⟨#[115, 119, 105, 115, 115]⟩
  | 17 => ⟨#[]⟩
  | 18 => ⟨#[]⟩
  | 19 => ⟨#[]⟩
  | 20 => ⟨#[]⟩
  | 21 => ⟨#[]⟩
  | 22 => ⟨#[]⟩
  | 23 => ⟨#[]⟩
  | _ => ⟨#[]⟩
def ridOf (n : Int) : ByteArray :=
  if n = 1 then ⟨#[66]⟩ else
  if n = 2 then ⟨#[48]⟩ else
  if n = 3 then ⟨#[62]⟩ else
  if n = 4 then ⟨#[37, 53]⟩ else
  if n = 5 then ⟨#[65]⟩ else
  if n = 6 then ⟨#[65]⟩ else
  if n = 7 then ⟨#[52]⟩ else
  if n = 8 then ⟨#[53]⟩ else
  if n = 9 then ⟨#[82]⟩ else
  if n = 10 then ⟨#[57]⟩ else
  if n = 11 then ⟨#[75]⟩ else
  if n = 12 then ⟨#[89]⟩ else
  if n = 13 then ⟨#[96]⟩ else
  if n = 14 then ⟨#[37, 54]⟩ else
  if n = 15 then ⟨#[90]⟩ else
  if n = 16 then ⟨#[55]⟩ else
  if n = 17 then ⟨#[61]⟩ else
  ⟨#[]⟩
def rnameOf (n : Int) : ByteArray :=
  if n = 1 then ⟨#[97, 115, 99, 105, 105]⟩ else
  if n = 2 then ⟨#[115, 112, 101, 99, 105, 97, 108]⟩ else
  if n = 3 then ⟨#[116, 101, 99, 104, 110, 105, 99, 97, 108]⟩ else
  if n = 4 then ⟨#[115, 117, 112, 112, 108, 101, 109, 101, 110, 116, 97, 108]⟩ else
  if n = 5 then ⟨#[108, 97, 116, 105, 110]⟩ else
  if n = 6 then ⟨#[98, 114, 105, 116, 105, 115, 104]⟩ else
  if n = 7 then ⟨#[100, 117, 116, 99, 104]⟩ else
  if n = 8 then ⟨#[102, 105, 110, 110, 105, 115, 104]⟩ else
  if n = 9 then ⟨#[102, 114, 101, 110, 99, 104]⟩ else
  if n = 10 then ⟨#[99, 97, 110, 97, 100, 105, 97, 110]⟩ else
  if n = 11 then ⟨#[103, 101, 114, 109, 97, 110]⟩ else
  if n = 12 then ⟨#[105, 116, 97, 108, 105, 97, 110]⟩ else
  if n = 13 then ⟨#[110, 111, 114, 119, 101, 103, 105, 97, 110]⟩ else
  if n = 14 then ⟨#[112, 111, 114, 116, 117, 103, 117, 101, 115, 101]⟩ else
  if n = 15 then ⟨#[115, 112, 97, 110, 105, 115, 104]⟩ else
  if n = 16 then ⟨#[115, 119, 101, 100, 105, 115, 104]⟩ else
  if n = 17 then ⟨#[115, 119, 105, 115, 115]⟩ else
  ⟨#[]⟩

def findFrom (wide : Bool) (id : ByteArray) : Nat → Nat → Int
  | 0, _ => 0
  | f + 1, k => if rowId k = id ∧ rowWide k = wide then rowSet k else findFrom wide id f (k + 1)
/-- The set of an id; 0: none. -/
def findP (wide : Bool) (id : ByteArray) : Int := findFrom wide id 24 0

def rfindFrom (wide : Bool) (id : ByteArray) : Nat → Int → Int
  | 0, _ => 0
  | f + 1, s => if (decide (s = 5) = wide) ∧ ridOf s = id then s else rfindFrom wide id f (s + 1)
def rtail (id : ByteArray) : Int :=
  if id = ⟨#[67]⟩ then 8 else if id = ⟨#[102]⟩ then 9 else if id = ⟨#[81]⟩ then 10 else if id = ⟨#[69]⟩ then 13 else if id = ⟨#[54]⟩ then 13 else if id = ⟨#[72]⟩ then 16 else if id = ⟨#[50]⟩ then 2 else 0
def rfindP (wide : Bool) (id : ByteArray) : Int :=
  if rfindFrom wide id 17 1 ≠ 0 then rfindFrom wide id 17 1 else if wide then 0 else rtail id

def idOf (n : Int) : ByteArray := if between 1 17 n then rowId (n - 1).toNat else ⟨#[]⟩
def setNo (n : Int) : Int := if between 1 17 n then rowSet (n - 1).toNat else 0
def wideOf (n : Int) : Bool := if between 1 17 n then rowWide (n - 1).toNat else false
def nameOf (n : Int) : ByteArray := if between 1 17 n then rowName (n - 1).toNat else ⟨#[]⟩

theorem fin17 {p : Int → Prop} (h : ∀ n : Fin 17, p (n.val + 1)) (n : Int) (hn : between 1 17 n = true) : p n := by
  simp only [between, Bool.and_eq_true, decide_eq_true_eq] at hn
  obtain ⟨k, rfl⟩ : ∃ k : Fin 17, n = k.val + 1 := ⟨⟨(n - 1).toNat, by omega⟩, by simp; omega⟩
  exact h k
theorem id_eq (n : Int) : idOf n = ridOf n := by
  cases hb : between 1 17 n with
  | true => exact fin17 (p := fun n => idOf n = ridOf n) (by decide +kernel) n hb
  | false =>
    simp only [idOf, hb, Bool.false_eq_true, if_false]
    simp only [between, Bool.and_eq_false_iff, decide_eq_false_iff_not] at hb
    unfold ridOf
    repeat rw [if_neg (by omega)]
theorem wide_eq (n : Int) : wideOf n = decide (n = 5) := by
  cases hb : between 1 17 n with
  | true => exact fin17 (p := fun n => wideOf n = decide (n = 5)) (by decide +kernel) n hb
  | false =>
    simp only [wideOf, hb]
    simp only [between, Bool.and_eq_false_iff, decide_eq_false_iff_not] at hb
    have : ¬ n = 5 := by omega
    simp [this]
theorem name_eq (n : Int) : nameOf n = rnameOf n := by
  cases hb : between 1 17 n with
  | true => exact fin17 (p := fun n => nameOf n = rnameOf n) (by decide +kernel) n hb
  | false =>
    simp only [nameOf, hb, Bool.false_eq_true, if_false]
    simp only [between, Bool.and_eq_false_iff, decide_eq_false_iff_not] at hb
    unfold rnameOf
    repeat rw [if_neg (by omega)]

theorem find_eq (wide : Bool) (id : ByteArray) : findP wide id = rfindP wide id := by
  by_cases h : id ∈ (List.range 24).map rowId
  · have H : ∀ w : Bool, ∀ k ∈ List.range 24, findP w (rowId k) = rfindP w (rowId k) := by decide +kernel
    obtain ⟨k, hk, rfl⟩ := List.mem_map.1 h
    exact H wide k hk
  · have hn : ∀ k, k < 24 → rowId k ≠ id := fun k hk e => h (List.mem_map.2 ⟨k, List.mem_range.2 hk, e⟩)
    have hf : ∀ f k, f + k ≤ 24 → findFrom wide id f k = 0 := by
      intro f
      induction f with
      | zero => intros; rfl
      | succ f ih => intro k hk; rw [findFrom, if_neg (fun e => hn k (by omega) e.1), ih _ (by omega)]
    have hr : ∀ f (k : Nat), f + k ≤ 17 → rfindFrom wide id f (k + 1) = 0 := by
      intro f
      induction f with
      | zero => intros; rfl
      | succ f ih =>
        intro k hk
        have e : ridOf (k + 1 : Int) = rowId k := by
          have := id_eq (k + 1)
          rw [← this, idOf, if_pos (by simp [between]; omega)]
          congr 1; omega
        rw [rfindFrom, if_neg (fun x => hn k (by omega) (by rw [← e]; exact x.2))]
        exact ih (k + 1) (by omega)
    have ht : rtail id = 0 := by
      unfold rtail
      rw [if_neg (fun e => hn 17 (by omega) e.symm), if_neg (fun e => hn 18 (by omega) e.symm), if_neg (fun e => hn 19 (by omega) e.symm), if_neg (fun e => hn 20 (by omega) e.symm),
        if_neg (fun e => hn 21 (by omega) e.symm), if_neg (fun e => hn 22 (by omega) e.symm), if_neg (fun e => hn 23 (by omega) e.symm)]
    have h1 := hf 24 0 (by omega)
    have h2 := hr 17 0 (by omega)
    simp only [findP, h1, rfindP]
    have h2' : rfindFrom wide id 17 1 = 0 := h2
    rw [h2', ht]
    simp

theorem find_wide : ∀ (wide : Bool) (id : ByteArray), findP wide id ≠ 0 → wideOf (findP wide id) = wide := by
  intro wide id h0
  by_cases h : id ∈ (List.range 24).map rowId
  · have H : ∀ w : Bool, ∀ k ∈ List.range 24, findP w (rowId k) ≠ 0 → wideOf (findP w (rowId k)) = w := by decide +kernel
    obtain ⟨k, hk, rfl⟩ := List.mem_map.1 h
    exact H wide k hk h0
  · have hn : ∀ k, k < 24 → rowId k ≠ id := fun k hk e => h (List.mem_map.2 ⟨k, List.mem_range.2 hk, e⟩)
    have hf : ∀ f k, f + k ≤ 24 → findFrom wide id f k = 0 := by
      intro f
      induction f with
      | zero => intros; rfl
      | succ f ih => intro k hk; rw [findFrom, if_neg (fun e => hn k (by omega) e.1), ih _ (by omega)]
    exact absurd (hf 24 0 (by omega)) h0

theorem find_back (n : Int) (hn : between 1 17 n = true) : findP (wideOf n) (idOf n) = n :=
  fin17 (p := fun n => findP (wideOf n) (idOf n) = n) (by decide +kernel) n hn
theorem find_none (n : Int) (hn : between 1 17 n = false) : findP (wideOf n) (idOf n) = 0 := by
  simp only [wideOf, idOf, hn, Bool.false_eq_true, if_false]; decide +kernel
theorem rowSet_pos (k : Nat) (h : k < 24) : rowSet k ≠ 0 := by
  have H : ∀ k : Fin 24, rowSet k.val ≠ 0 := by decide +kernel
  exact H ⟨k, h⟩
theorem find_range (wide : Bool) (id : ByteArray) : 0 ≤ findP wide id ∧ findP wide id ≤ 17 := by
  have H : ∀ k, 0 ≤ rowSet k ∧ rowSet k ≤ 17 := by intro k; unfold rowSet; split <;> decide
  have hf : ∀ f k, 0 ≤ findFrom wide id f k ∧ findFrom wide id f k ≤ 17 := by
    intro f
    induction f with
    | zero => intro k; show (0 : Int) ≤ 0 ∧ (0 : Int) ≤ 17; omega
    | succ f ih => intro k; rw [findFrom]; split; exact H k; exact ih _
  exact hf 24 0
end Go.Proofs.Ytomflpkokcldeaa
