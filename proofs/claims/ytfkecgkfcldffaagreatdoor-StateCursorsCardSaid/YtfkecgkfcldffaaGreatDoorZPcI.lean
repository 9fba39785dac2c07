/-
  The document's small functions on bytes, walked.
  The document's reading of numbers, walked.
  The document's plain stream, walked.
  The document's parts of a sequence's header, walked.
  The document's parts of a sequence's header, walked: the loops.
-/
import Derived.Deep.CutBlock
import Derived.Deep.DeepCutAuto
import Derived.Test.YtfkecgkfcldffaaGreatDoorZPbK
namespace Go.Proofs.YtfkecgkfcldffaaGreatDoor
set_option linter.unusedSimpArgs false
set_option linter.unusedVariables false
open Go.RowKit

/-- The bytes of a string as numbers. -/
def bl (s : ByteArray) : List Int := s.data.toList.map fun b => (b.toNat : Int)
theorem bl_len (s : ByteArray) : (bl s).length = s.size := by simp only [bl, List.length_map, Array.length_toList]; rfl
theorem bl_get (s : ByteArray) (k : Nat) (h : k < s.size) : (bl s)[k]? = some (s[k].toNat : Int) := by
  have : k < s.data.toList.length := h
  simp only [bl, List.getElem?_map, List.getElem?_eq_getElem this, Option.map_some]
  rfl
theorem u8_nat (c : Int) (h : 0 ≤ c ∧ c < 256) : ((UInt8.ofNat c.toNat).toNat : Int) = c := by
  have : (UInt8.ofNat c.toNat).toNat = c.toNat % 2 ^ 8 := UInt8.toNat_ofNat'
  rw [this]; omega
theorem bl_strOf (l : List Int) (h : ∀ c ∈ l, 0 ≤ c ∧ c < 256) : bl (strOf l) = l := by
  simp only [bl, strOf, List.map_map]
  conv => rhs; rw [← List.map_id l]
  apply List.map_congr_left
  intro c hc
  exact u8_nat c (h c hc)
theorem bl_extract (s : ByteArray) (a b : Nat) : bl (s.extract a b) = ((bl s).drop a).take (b - a) := by
  simp [bl, ByteArray.data_extract, Array.toList_extract, List.extract_eq_take_drop, List.map_take, List.map_drop]

theorem num_cap (l : List Int) : ∀ n : Int, 65535 ≤ n → (∀ c ∈ l, 48 ≤ c ∧ c ≤ 57) → l.foldl (fun n c => min (n * 10 + (c - 48)) 65535) (min n 65535) = 65535 := by
  induction l with
  | nil => intro n h _; simp; omega
  | cons c l ih =>
    intro n h hl
    have hc := hl c (by simp)
    simp only [List.foldl_cons]
    have := ih 65535 (by omega) fun x hx => hl x (by simp [hx])
    rw [show min (min n 65535 * 10 + (c - 48)) 65535 = min 65535 65535 by omega]
    exact this

set_option maxRecDepth 100000 in
set_option maxHeartbeats 1000000 in
theorem rnumber_any (s : ByteArray) (w : World) (hs : s.size ≤ 100000) (hd : ∀ c ∈ bl s, 48 ≤ c ∧ c ≤ 57) : Calls Tryz.prog 104 #[.string s] w fun e w' => e = .returned (.int .i64 (numR (bl s))) ∧ w = w' := by
  have hlen := bl_len s
  go_enter Tryz.func104, Tryz.ntmps104
  go_wp2
  go_loop [3, 4] (fun n i => ∃ (k : Nat) (m : Int), k ≤ s.size ∧ i = .int .i64 k ∧ n = .int .i64 m ∧ 0 ≤ m ∧ m ≤ 65535 ∧ ((bl s).drop k).foldl (fun n c => min (n * 10 + (c - 48)) 65535) m = numR (bl s)) (fun _ i => s.size - (intOf i).toNat)
  case atStart => exact ⟨0, 0, Nat.zero_le _, rfl, rfl, by omega, by omega, by simp [numR]⟩
  case round =>
    obtain ⟨k, m, hk, rfl, rfl, m0, m1, hr⟩ := hrel
    by_cases hlt : k < s.size
    · have hg := bl_get s k hlt
      have hmem : (s[k].toNat : Int) ∈ bl s := List.mem_of_getElem? hg
      obtain ⟨d0, d1⟩ := hd _ hmem
      have hdrop : (bl s).drop k = (s[k].toNat : Int) :: (bl s).drop (k + 1) := by
        rw [List.drop_eq_getElem_cons (by omega)]
        congr 1
        rw [List.getElem?_eq_getElem (by omega)] at hg
        injection hg
      rw [hdrop, List.foldl_cons] at hr
      obtain ⟨d, hdd⟩ : ∃ d : Nat, d = s[k].toNat := ⟨_, rfl⟩
      have H := Lib.hid hr; clear hr hg hmem hdrop
      by_cases hbig : 65535 < m * 10 + ((s[k].toNat : Int) - 48)
      · have hv : numR (bl s) = 65535 := by
          rw [← H.out]
          have := num_cap ((bl s).drop (k + 1)) (m * 10 + ((s[k].toNat : Int) - 48)) (by omega) fun x hx => hd x (List.mem_of_mem_drop hx)
          exact this
        have H2 := Lib.hid hv; clear hv
        have hb2 : 65535 < 10 * m + ((s[k].toNat : Int) - 48) := by omega
        clear hbig hdd hd
        go_wp2
        go_ret
        exact ⟨by rw [H2.out]; rfl, rfl⟩
      · have hb2 : ¬ 65535 < 10 * m + ((s[k].toNat : Int) - 48) := by omega
        have H2 := Lib.hid hbig
        clear hbig hdd hd
        go_wp2
        go_round
        case rel =>
          refine ⟨k + 1, 10 * m + ((s[k].toNat : Int) - 48), by omega, by go_num, by go_num, by omega, by omega, ?_⟩
          rw [← H.out]
          have := H2.out
          rw [show min (m * 10 + ((s[k].toNat : Int) - 48)) 65535 = 10 * m + ((s[k].toNat : Int) - 48) by omega]
        case measure => simp [intOf]; omega
    · have : (bl s).drop k = [] := List.drop_eq_nil_of_le (by omega)
      rw [this] at hr
      simp only [List.foldl_nil] at hr
      have H := Lib.hid hr; clear hr
      go_wp2
      go_ret
      exact ⟨by rw [H.out]; rfl, rfl⟩
end Go.Proofs.YtfkecgkfcldffaaGreatDoor

namespace Go.Proofs.YtfkecgkfcldffaaGreatDoor
set_option linter.unusedSimpArgs false
set_option linter.unusedVariables false
open Go.RowKit

set_option maxRecDepth 100000 in
set_option maxHeartbeats 1000000 in
theorem rparse_bad (s : ByteArray) (w : World) (hs : s.size ≤ 100000) (ha : (bl s).all isAcc = false) : Calls Tryz.prog 78 #[.string s] w fun e w' => e = .returned (.tuple #[.slice none 0 0, .int .i64 3]) ∧ w = w' := by
  have hlen := bl_len s
  go_enter Tryz.func78, Tryz.ntmps78
  go_wp2
  go_loop [4] (fun i => ∃ k : Nat, k ≤ s.size ∧ i = .int .i64 k ∧ ((bl s).drop k).all isAcc = false) (fun i => s.size - (intOf i).toNat)
  case atStart => exact ⟨0, Nat.zero_le _, rfl, by simpa using ha⟩
  case round =>
    obtain ⟨k, hk, rfl, hr⟩ := hrel
    by_cases hlt : k < s.size
    · have hg := bl_get s k hlt
      have hdrop : (bl s).drop k = (s[k].toNat : Int) :: (bl s).drop (k + 1) := by
        rw [List.drop_eq_getElem_cons (by omega)]
        congr 1
        rw [List.getElem?_eq_getElem (by omega)] at hg
        injection hg
      rw [hdrop, List.all_cons] at hr
      clear hg hdrop
      obtain ⟨c, hc⟩ : ∃ c : Int, (s[k].toNat : Int) = c := ⟨_, rfl⟩
      rw [hc] at hr
      clear ha
      by_cases h59 : c = 59
      · have h1 : isAcc c = true := by simp [isAcc, h59]
        rw [h1, Bool.true_and] at hr
        have H := Lib.hid hr; clear hr h1
        have q : (c != 59) = false := by simpa using h59
        clear h59
        go_wp2
        go_round
        case rel => exact ⟨k + 1, by omega, by go_num, H.out⟩
        case measure => simp [intOf]; omega
      · have q : (c != 59) = true := by simpa using h59
        by_cases h48 : c < 48
        · have H := Lib.hid hr; clear hr h59
          have q1 := decide_eq_true h48
          go_wp2
          go_ret2
          exact ⟨rfl, rfl⟩
        · have q1 : decide (c < 48) = false := by simpa using h48
          by_cases h57 : 57 < c
          · have H := Lib.hid hr; clear hr h59
            have q2 := decide_eq_true h57
            go_wp2
            go_ret2
            exact ⟨rfl, rfl⟩
          · have h1 : isAcc c = true := by simp [isAcc]; omega
            rw [h1, Bool.true_and] at hr
            have H := Lib.hid hr; clear hr h1 h59
            have q2 : decide (57 < c) = false := by simpa using h57
            go_wp2
            go_round
            case rel => exact ⟨k + 1, by omega, by go_num, H.out⟩
            case measure => simp [intOf]; omega
    · have : (bl s).drop k = [] := List.drop_eq_nil_of_le (by omega)
      rw [this] at hr
      cases hr

def piecesL (l : List Int) : List Int := (splitSemi l).map numR
theorem split_none : ∀ (l : List Int), (∀ j : Nat, l[j]? ≠ some 59) → splitSemi l = [l]
  | [], _ => rfl
  | c :: l, h => by
    have h0 : c ≠ 59 := by have := h 0; simpa using this
    simp only [splitSemi, if_neg h0]
    rw [split_none l fun j => by have := h (j + 1); simpa using this]
theorem split_at : ∀ (l : List Int) (m : Nat), (∀ j, j < m → l[j]? ≠ some 59) → l[m]? = some 59 → splitSemi l = l.take m :: splitSemi (l.drop (m + 1))
  | [], m, _, h => by simp at h
  | c :: l, 0, _, h => by
    simp at h; subst h
    simp [splitSemi]
  | c :: l, m + 1, h, hm => by
    have h0 : c ≠ 59 := by have := h 0 (by omega); simpa using this
    simp only [splitSemi, if_neg h0]
    rw [split_at l m (fun j hj => by have := h (j + 1) (by omega); simpa using this) (by simpa using hm)]
    simp
/-- How far the pieces are read. -/
def PiecePos (l : List Int) (b k : Nat) (done : List Int) : Prop :=
  (k ≤ l.length ∧ b ≤ k ∧ (∀ j, b ≤ j → j < k → l[j]? ≠ some 59) ∧ piecesL l = done ++ piecesL (l.drop b)) ∨ (k = l.length + 1 ∧ b = k ∧ piecesL l = done)
theorem PiecePos.next {l done : List Int} {b k : Nat} {c : Int} (h : PiecePos l b k done) (hc : l[k]? = some c) (hne : c ≠ 59) : PiecePos l b (k + 1) done := by
  have hk : k < l.length := (List.getElem?_eq_some_iff.1 hc).1
  rcases h with ⟨h1, h2, h3, h4⟩ | ⟨h1, _⟩
  · refine .inl ⟨by omega, by omega, fun j hj hjk => ?_, h4⟩
    by_cases e : j = k
    · subst e; rw [hc]; simpa using hne
    · exact h3 j hj (by omega)
  · omega
theorem PiecePos.piece {l done : List Int} {b k : Nat} (h : PiecePos l b k done) (hk : k ≤ l.length) (hc : k < l.length → l[k]? = some 59) : PiecePos l (k + 1) (k + 1) (done ++ [numR ((l.drop b).take (k - b))]) := by
  rcases h with ⟨h1, h2, h3, h4⟩ | ⟨h1, _⟩
  · have hf : ∀ j : Nat, j < k - b → (l.drop b)[j]? ≠ some 59 := fun j hj => by rw [List.getElem?_drop]; exact h3 _ (by omega) (by omega)
    by_cases e : k = l.length
    · have hn : ∀ j : Nat, (l.drop b)[j]? ≠ some 59 := fun j => by
        by_cases hj : j < k - b
        · exact hf j hj
        · rw [List.getElem?_drop, List.getElem?_eq_none (by omega)]; simp
      refine .inr ⟨by omega, rfl, ?_⟩
      rw [h4]
      unfold piecesL
      rw [split_none _ hn, List.take_of_length_le (by simp; omega)]
      rfl
    · have hm : (l.drop b)[k - b]? = some 59 := by rw [List.getElem?_drop, show b + (k - b) = k by omega]; exact hc (by omega)
      refine .inl ⟨by omega, by omega, fun j hj hjk => by omega, ?_⟩
      rw [h4]
      unfold piecesL
      rw [split_at _ _ hf hm, List.drop_drop, show b + (k - b + 1) = k + 1 by omega]
      simp
  · omega
theorem take_snoc30 (done : List Int) (x : Int) : (done ++ [x]).take 30 = if done.length < 30 then done.take 30 ++ [x] else done.take 30 := by
  split
  · rename_i h
    rw [List.take_of_length_le (by simp; omega), List.take_of_length_le (by omega)]
  · rename_i h
    rw [List.take_append_of_le_length (by omega)]

theorem PiecePos.digits {l done : List Int} {b k : Nat} (h : PiecePos l b k done) (ha : ∀ c ∈ l, isAcc c = true) : ∀ c ∈ (l.drop b).take (k - b), 48 ≤ c ∧ c ≤ 57 := by
  intro c hc
  obtain ⟨j, hj⟩ := List.mem_iff_getElem?.1 hc
  rw [List.getElem?_take] at hj
  split at hj
  · rw [List.getElem?_drop] at hj
    have h1 := ha c (List.mem_of_getElem? hj)
    have h2 : c ≠ 59 := by
      rcases h with ⟨_, _, h3, _⟩ | ⟨_, h3, _⟩
      · rintro rfl; exact h3 _ (by omega) (by omega) hj
      · omega
    simp [isAcc, h2] at h1
    exact h1
  · cases hj
theorem numsR_all {l done : List Int} {b : Nat} (h : PiecePos l b (l.length + 1) done) (hne : 0 < l.length) : numsR l = done.take 30 := by
  rcases h with ⟨h1, _⟩ | ⟨_, _, h3⟩
  · omega
  · unfold numsR
    rw [if_neg (by rintro rfl; simp at hne)]
    show (piecesL l).take 30 = _
    rw [h3]

/-- What reading numbers leaves. -/
def NumsTo (w : World) (l : List Int) (e : Ending) (w' : World) : Prop := ∃ v, e = .returned (.tuple #[v, .int .i64 0]) ∧ w'.ownsRow w.heap.size 3 1 v (numsR l).length (icells (numsR l)) ∧ Gr w w'

set_option maxRecDepth 100000 in
set_option maxHeartbeats 2000000 in
theorem rparse_good (s : ByteArray) (w : World) (hs : s.size ≤ 100000) (ha : (bl s).all isAcc = true) : Calls Tryz.prog 78 #[.string s] w (NumsTo w (bl s)) := by
  have hlen := bl_len s
  have hacc : ∀ c ∈ bl s, isAcc c = true := List.all_eq_true.1 ha
  go_enter Tryz.func78, Tryz.ntmps78
  go_wp2
  go_loop [4] (fun i => ∃ k : Nat, k ≤ s.size ∧ i = .int .i64 k) (fun i => s.size - (intOf i).toNat)
  case atStart => exact ⟨0, Nat.zero_le _, rfl⟩
  case round =>
    obtain ⟨k, hk, rfl⟩ := hrel
    by_cases hlt : k < s.size
    · have hg := bl_get s k hlt
      have hac := hacc _ (List.mem_of_getElem? hg)
      clear hg ha hacc
      obtain ⟨c, hc⟩ : ∃ c : Int, (s[k].toNat : Int) = c := ⟨_, rfl⟩
      rw [hc] at hac
      simp only [isAcc, Bool.or_eq_true, decide_eq_true_eq, Bool.and_eq_true] at hac
      by_cases h59 : c = 59
      · have q : (c != 59) = false := by simpa using h59
        clear h59 hac
        go_wp2
        go_round
        case rel => exact ⟨k + 1, by omega, by go_num⟩
        case measure => simp [intOf]; omega
      · have q : (c != 59) = true := by simpa using h59
        have q1 : decide (c < 48) = false := by simp; omega
        have q2 : decide (57 < c) = false := by simp; omega
        clear h59 hac
        go_wp2
        go_round
        case rel => exact ⟨k + 1, by omega, by go_num⟩
        case measure => simp [intOf]; omega
    · clear ha
      by_cases h0 : s.size = 0
      · have he : s = ⟨#[]⟩ := by
          cases s with
          | mk d => congr 1; exact Array.eq_empty_of_size_eq_zero h0
        have hn : numsR (bl s) = [] := by
          rw [he]; simp [bl, numsR]
        have H := Lib.hid hn; clear hn
        clear hlen hacc
        subst he
        clear h0 hs
        go_wp2
        go_ret2
        refine ⟨.slice none 0 0, rfl, ?_, .refl _⟩
        rw [H.out]
        exact World.ownsRow_nil _ _ _ _
      · have hne : s.toList.isEmpty = false := by
          rw [ByteArray.toList_eq]
          cases hd : s.data.toList with
          | nil => exact absurd (by have := congrArg List.length hd; simpa using this) h0
          | cons x y => rfl
        have h0' : 0 < s.size := by omega
        clear h0
        go_wp2
        go_loopw [5, 6, 7] (fun v b i wr => ∃ (b' k n : Nat) (done : List Int), n = min 30 done.length ∧ k ≤ s.size + 1 ∧ b' ≤ k ∧ i = .int .i64 k ∧ b = .int .i64 b' ∧ wr.ownsRow w.heap.size 3 1 v n (icells (done.take 30)) ∧ Gr w wr ∧ PiecePos (bl s) b' k done) (fun _ _ i _ => s.size + 1 - (intOf i).toNat)
        case atStart => exact ⟨0, 0, 0, [], by simp, by omega, by omega, rfl, rfl, World.ownsRow_nil _ _ _ _, .refl _, .inl ⟨by omega, by omega, fun j h1 h2 => by omega, by simp⟩⟩
        case round =>
          obtain ⟨b', k, n, done, hn30, hk1, hb1, rfl, rfl, hrow, hgr, hpos⟩ := hrel
          clear hlt hk
          have hsz := hgr.size
          have HM := Lib.hid hn30
          have hn31 : n ≤ 30 := by omega
          clear hn30
          obtain ⟨ra, rc, hv⟩ := row_form hrow
          subst hv
          have HP := Lib.hid hpos; clear hpos
          by_cases hlt : k < s.size
          · have hg := bl_get s k hlt
            obtain ⟨c, hc⟩ : ∃ c : Int, (s[k].toNat : Int) = c := ⟨_, rfl⟩
            rw [hc] at hg
            have HG := Lib.hid hg; clear hg
            by_cases h59 : c = 59
            · have q : (c != 59) = false := by simpa using h59
              have HN := HP.out.piece (by omega) (fun _ => by rw [HG.out, h59])
              have hkk : (k : Int) < (s.size : Int) := by omega
              clear h59
              have hdig : ∀ c ∈ bl (s.extract b' k), 48 ≤ c ∧ c ≤ 57 := by rw [bl_extract]; exact HP.out.digits hacc
              have hexs : (s.extract b' k).size ≤ 100000 := by have := bl_len (s.extract b' k); rw [bl_extract, List.length_take, List.length_drop] at this; omega
              have hnum := rnumber_any (s.extract b' k) wr hexs hdig
              rw [bl_extract] at hnum
              obtain ⟨x, hx⟩ : ∃ x, x = numR (((bl s).drop b').take (k - b')) := ⟨_, rfl⟩
              rw [← hx] at hnum HN
              have HN := Lib.hid HN
              have H1 := Lib.hid hexs; have H2 := Lib.hid hdig
              clear hx hacc hexs hdig
              by_cases h30 : done.length < 30
              · have hl30 : n = done.length := by have := HM.out; omega
                have hq : (n : Int) < 30 := by omega
                have hrow2 : ∀ (v' : Value) (w' : World), w'.ownsRow w.heap.size 3 1 v' (n + 1) (icells (done.take 30) ++ [.int .i64 x]) → w'.ownsRow w.heap.size 3 1 v' (n + 1) (icells ((done ++ [x]).take 30)) := by
                  intro v' w' h
                  rw [take_snoc30, if_pos h30]
                  simpa [icells] using h
                have H3 := Lib.hid hl30; have H4 := Lib.hid hrow2; have H5 := Lib.hid h30
                have hle : n ≤ 30 := by omega
                clear hl30 hrow2 h30
                go_wp2_with (first
                  | (go_at_call 104; refine hnum.mono ?_; rintro e w1 ⟨rfl, rfl⟩)
                  | (at_builtin; refine wpList_push1 rfl _ _ _ rfl w.heap.size 3 (.int .i64 0) 8 Tryz.underlying75 int_info rfl (by omega) _ _ _ _ (hrow.alloc _) _ rfl rfl (cell_alloc1 _ _ _) rfl (by omega) (by simp; omega) ?_; intro g cap w2 hG hown))
                go_roundw
                case rel => exact ⟨k + 1, k + 1, n + 1, done ++ [x], by have := HM.out; have := H5.out; simp; omega, by omega, by omega, by go_num, by go_num, H4.out _ _ hown, hG.gr (hgr.alloc _) fun k hk => ownsRow_base hrow hk, HN.out⟩
                case measure => simp [intOf]; omega
              · have hl30 : n = 30 := by have := HM.out; omega
                have hq : ¬ (n : Int) < 30 := by omega
                have hrow2 : wr.ownsRow w.heap.size 3 1 (.slice ra n rc) n (icells ((done ++ [x]).take 30)) := by
                  rw [take_snoc30, if_neg h30]; exact hrow
                have H3 := Lib.hid hl30; have H5 := Lib.hid h30
                clear hl30 h30
                go_wp2
                go_roundw
                case rel => exact ⟨k + 1, k + 1, n, done ++ [x], by have := HM.out; have := H5.out; simp; omega, by omega, by omega, by go_num, by go_num, hrow2, hgr, HN.out⟩
                case measure => simp [intOf]; omega
            · have q : (c != 59) = true := by simpa using h59
              have HN := Lib.hid (HP.out.next HG.out h59)
              clear h59 hacc
              have hkk : (k : Int) < (s.size : Int) := by omega
              go_wp2
              go_roundw
              case rel => exact ⟨b', k + 1, n, done, HM.out, by omega, by omega, by go_num, rfl, hrow, hgr, HN.out⟩
              case measure => simp [intOf]; omega
          · by_cases he : k = s.size
            · have HN := HP.out.piece (by omega) (fun h => by omega)
              have hkk : ¬ (k : Int) < (s.size : Int) := by omega
              have hkk2 : (k : Int) ≤ (s.size : Int) := by omega
              clear he
              have hdig : ∀ c ∈ bl (s.extract b' k), 48 ≤ c ∧ c ≤ 57 := by rw [bl_extract]; exact HP.out.digits hacc
              have hexs : (s.extract b' k).size ≤ 100000 := by have := bl_len (s.extract b' k); rw [bl_extract, List.length_take, List.length_drop] at this; omega
              have hnum := rnumber_any (s.extract b' k) wr hexs hdig
              rw [bl_extract] at hnum
              obtain ⟨x, hx⟩ : ∃ x, x = numR (((bl s).drop b').take (k - b')) := ⟨_, rfl⟩
              rw [← hx] at hnum HN
              have HN := Lib.hid HN
              have H1 := Lib.hid hexs; have H2 := Lib.hid hdig
              clear hx hacc hexs hdig
              by_cases h30 : done.length < 30
              · have hl30 : n = done.length := by have := HM.out; omega
                have hq : (n : Int) < 30 := by omega
                have hrow2 : ∀ (v' : Value) (w' : World), w'.ownsRow w.heap.size 3 1 v' (n + 1) (icells (done.take 30) ++ [.int .i64 x]) → w'.ownsRow w.heap.size 3 1 v' (n + 1) (icells ((done ++ [x]).take 30)) := by
                  intro v' w' h
                  rw [take_snoc30, if_pos h30]
                  simpa [icells] using h
                have H3 := Lib.hid hl30; have H4 := Lib.hid hrow2; have H5 := Lib.hid h30
                have hle : n ≤ 30 := by omega
                clear hl30 hrow2 h30
                go_wp2_with (first
                  | (go_at_call 104; refine hnum.mono ?_; rintro e w1 ⟨rfl, rfl⟩)
                  | (at_builtin; refine wpList_push1 rfl _ _ _ rfl w.heap.size 3 (.int .i64 0) 8 Tryz.underlying75 int_info rfl (by omega) _ _ _ _ (hrow.alloc _) _ rfl rfl (cell_alloc1 _ _ _) rfl (by omega) (by simp; omega) ?_; intro g cap w2 hG hown))
                go_roundw
                case rel => exact ⟨k + 1, k + 1, n + 1, done ++ [x], by have := HM.out; have := H5.out; simp; omega, by omega, by omega, by go_num, by go_num, H4.out _ _ hown, hG.gr (hgr.alloc _) fun k hk => ownsRow_base hrow hk, HN.out⟩
                case measure => simp [intOf]; omega
              · have hl30 : n = 30 := by have := HM.out; omega
                have hq : ¬ (n : Int) < 30 := by omega
                have hrow2 : wr.ownsRow w.heap.size 3 1 (.slice ra n rc) n (icells ((done ++ [x]).take 30)) := by
                  rw [take_snoc30, if_neg h30]; exact hrow
                have H3 := Lib.hid hl30; have H5 := Lib.hid h30
                clear hl30 h30
                go_wp2
                go_roundw
                case rel => exact ⟨k + 1, k + 1, n, done ++ [x], by have := HM.out; have := H5.out; simp; omega, by omega, by omega, by go_num, by go_num, hrow2, hgr, HN.out⟩
                case measure => simp [intOf]; omega
            · have hkk2 : ¬ (k : Int) ≤ (s.size : Int) := by omega
              have he : k = (bl s).length + 1 := by omega
              have hn : numsR (bl s) = done.take 30 := numsR_all (b := b') (by rw [← he]; exact HP.out) (by omega)
              have H := Lib.hid hn
              clear hn he hacc hlen
              go_wp2
              go_ret2
              refine ⟨.slice ra n rc, rfl, ?_, hgr⟩
              rw [H.out, List.length_take, ← HM.out]
              exact hrow
end Go.Proofs.YtfkecgkfcldffaaGreatDoor

namespace Go.Proofs.YtfkecgkfcldffaaGreatDoor
set_option linter.unusedSimpArgs false
set_option linter.unusedVariables false
open Go.RowKit

theorem Rd.gr {w w' : World} {a : Option Addr} {n : Nat} {xs : List Value} (h : Rd w a n xs) (hg : Gr w w') : Rd w' a n xs := h.upd (Upd.of_gr (lv := []) hg) (by simp [Out])
end Go.Proofs.YtfkecgkfcldffaaGreatDoor

namespace Go.Proofs.YtfkecgkfcldffaaGreatDoor
set_option linter.unusedSimpArgs false
set_option linter.unusedVariables false
section
open Go.RowKit

end
section
open Go.RowKit

theorem strOf_size (l : List Int) : (strOf l).size = l.length := by simp [strOf, ByteArray.size]
/-- The numbers of a header, however its bytes are. -/
theorem nums_call {l : List Int} (hl : ∀ c ∈ l, 0 ≤ c ∧ c < 256) (hn : l.length ≤ 80000) (ha : l.all isAcc = true) (W : World) : Calls Tryz.prog 78 #[.string (strOf l)] W (NumsTo W l) := by
  have h := rparse_good (strOf l) W (by rw [strOf_size]; omega) (by rw [bl_strOf l hl]; exact ha)
  rwa [bl_strOf l hl] at h
theorem nums_bad {l : List Int} (hl : ∀ c ∈ l, 0 ≤ c ∧ c < 256) (hn : l.length ≤ 80000) (ha : l.all isAcc = false) (W : World) : Calls Tryz.prog 78 #[.string (strOf l)] W fun e w' => e = .returned (.tuple #[.slice none 0 0, .int .i64 3]) ∧ W = w' :=
  rparse_bad (strOf l) W (by rw [strOf_size]; omega) (by rw [bl_strOf l hl]; exact ha)
end
end Go.Proofs.YtfkecgkfcldffaaGreatDoor
