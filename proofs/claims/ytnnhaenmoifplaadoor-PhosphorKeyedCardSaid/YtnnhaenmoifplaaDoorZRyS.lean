/-
  What is answered as a sequence: the plain law (a token of an id and numbers).
  A token of an id and numbers, made by the program: reply.function, walked.
  reply.function, walked.
  What is answered as a sequence and as a string with numbers: reply.Csi, reply.Dcs, walked.
  Answers of few numbers: the cursor's place and modes, in both texts.
  A character of G3, answered; answers as rows of so many bytes.
-/
import Derived.Deep.DeepCutAuto
import Derived.Deep.RegionHeld3
import Derived.Lib.ConvBytes
import Derived.Test.YtnnhaenmoifplaaDoorZTkQ
import Derived.Test.YtnnhaenmoifplaaDoorZOrd6
import Derived.Test.YtnnhaenmoifplaaDoorZTkKa
import Derived.Test.YtnnhaenmoifplaaDoorZPdI
import Derived.Test.YtnnhaenmoifplaaDoorZTkP
namespace Go.Proofs.YtnnhaenmoifplaaDoor
set_option linter.unusedSimpArgs false
set_option linter.unusedVariables false
set_option linter.unusedVariables false

/-- Has an id a mark at its head? -/
def markB (id : List Int) : Bool := match id with
  | c :: _ :: _ => decide (60 ≤ c ∧ c ≤ 63)
  | _ => false
def markR (id : List Int) : Int := if markB id = true then id.headD 0 else 0
/-- What is behind the mark. -/
def restR (id : List Int) : List Int := if markB id = true then id.tail else id
def clip16 (n : Int) : Int := if n < 0 then 0 else if 65535 < n then 65535 else n
/-- The token of an id, numbers and data. -/
def funT (kind : Int) (id ps d : List Int) : Tok := ⟨kind, (restR id).getLastD 0, markR id, (ps.take 30).map clip16, (restR id).dropLast, d⟩
/-- What is answered. -/
def ansR (t : Tok) (eight : Bool) : List Int := if checkR t = 0 then bytesR t eight else []
theorem markB_iff {id : List Int} : markB id = true ↔ ∃ c e r, id = c :: e :: r ∧ 60 ≤ c ∧ c ≤ 63 := by
  unfold markB
  constructor
  · intro h
    split at h
    · rename_i c e r
      exact ⟨c, e, r, rfl, of_decide_eq_true h⟩
    · cases h
  · rintro ⟨c, e, r, rfl, h⟩
    exact decide_eq_true h
theorem fun_range {kind : Int} {id ps d : List Int} (hi : ∀ c ∈ id, 0 ≤ c ∧ c < 256) (hd : ∀ c ∈ d, 0 ≤ c ∧ c < 256) : TRange (funT kind id ps d) := by
  have hr : ∀ c ∈ restR id, 0 ≤ c ∧ c < 256 := by
    intro c hc
    unfold restR at hc
    split at hc
    · exact hi c (List.mem_of_mem_tail hc)
    · exact hi c hc
  refine ⟨?_, ?_, fun c hc => hr c ((List.dropLast_subset _) hc), hd⟩
  · show 0 ≤ (restR id).getLastD 0 ∧ (restR id).getLastD 0 < 256
    cases h : restR id with
    | nil => simp
    | cons a r =>
      rw [← List.getLast_eq_getLastD (by simp)]
      exact hr _ (by rw [h]; exact List.getLast_mem _)
  · show 0 ≤ markR id ∧ markR id < 256
    unfold markR
    split
    · rename_i hm
      obtain ⟨c, e, r, rfl, h1, h2⟩ := markB_iff.1 hm
      show 0 ≤ c ∧ c < 256
      omega
    · omega
/-! ### Places, levels -/
end Go.Proofs.YtnnhaenmoifplaaDoor

namespace Go.Proofs.YtnnhaenmoifplaaDoor
set_option linter.unusedSimpArgs false
set_option linter.unusedVariables false
open Go.RowKit
set_option linter.unusedVariables false

theorem nums_at {s : ByteArray} {k : Nat} (hk : k < s.size) : (nums s)[k]? = some ((s[k]'hk).toNat : Int) := by
  have h : k < (nums s).length := by rw [nums_len]; exact hk
  rw [List.getElem?_eq_getElem h]
  simp [nums, ByteArray.getElem_eq_getElem_data]
theorem nums_extract (s : ByteArray) (a b : Nat) : nums (s.extract a b) = ((nums s).drop a).take (b - a) := by
  unfold nums
  rw [← List.map_drop, ← List.map_take]
  congr 1
  rw [ByteArray.data_extract, Array.toList_extract]
theorem strOf_ext (s : ByteArray) (a b : Nat) : s.extract a b = strOf (((nums s).drop a).take (b - a)) := by
  rw [← nums_extract, nums_str]
/-- A function's token being made: its box, and the box of what is returned. -/
structure FBox (w : World) (T : Nat) (k c m : Int) (p : Value) (s : ByteArray) (w' : World) : Prop where
  box : w'.heap[T]? = some (.cells #[.int .i64 k, .int .u8 c, .int .u8 m, p, .string s, .slice none 0 0] 34 (0, 0))
  out : w'.heap[w.heap.size]? = some (.cells #[.int .i64 0, .int .u8 0, .int .u8 0, .slice none 0 0, .string ⟨#[]⟩, .slice none 0 0] 34 (0, 0))
  gr : Gr w w'
  lt : w.heap.size < T
/-- .. its numbers in a row of the call's own. -/
def FRow (w : World) (n : Nat) (p : Value) (l : List Int) (w' : World) : Prop := w'.ownsRow (w.heap.size + 1) 3 1 p n (icells l)
theorem FBox.drew {w w' : World} {T : Nat} {k c m : Int} {p : Value} {s : ByteArray} (h : FBox w T k c m p s w') : FBox w T k c m p s w'.drew := ⟨h.box, h.out, h.gr.drew, h.lt⟩
theorem FBox.set1 {w w' : World} {T : Nat} {k c m : Int} {p : Value} {s : ByteArray} (h : FBox w T k c m p s w') (x : Int) : FBox w T k x m p s (w'.setCell ⟨T, 1, none⟩ (.int .u8 x)) :=
  ⟨blk_set h.box 1 _, blk_far h.out (by have := h.lt; show w.heap.size ≠ T; omega) _, h.gr.setCell (Nat.le_of_lt h.lt) _, h.lt⟩
theorem FBox.set2 {w w' : World} {T : Nat} {k c m : Int} {p : Value} {s : ByteArray} (h : FBox w T k c m p s w') (x : Int) : FBox w T k c x p s (w'.setCell ⟨T, 2, none⟩ (.int .u8 x)) :=
  ⟨blk_set h.box 2 _, blk_far h.out (by have := h.lt; show w.heap.size ≠ T; omega) _, h.gr.setCell (Nat.le_of_lt h.lt) _, h.lt⟩
theorem FBox.set3 {w w' : World} {T : Nat} {k c m : Int} {p : Value} {s : ByteArray} (h : FBox w T k c m p s w') (x : Value) : FBox w T k c m x s (w'.setCell ⟨T, 3, none⟩ x) :=
  ⟨blk_set h.box 3 _, blk_far h.out (by have := h.lt; show w.heap.size ≠ T; omega) _, h.gr.setCell (Nat.le_of_lt h.lt) _, h.lt⟩
theorem FBox.set4 {w w' : World} {T : Nat} {k c m : Int} {p : Value} {s : ByteArray} (h : FBox w T k c m p s w') (x : ByteArray) : FBox w T k c m p x (w'.setCell ⟨T, 4, none⟩ (.string x)) :=
  ⟨blk_set h.box 4 _, blk_far h.out (by have := h.lt; show w.heap.size ≠ T; omega) _, h.gr.setCell (Nat.le_of_lt h.lt) _, h.lt⟩
/-- A store into a token's box leaves a row of integers as it was. -/
theorem FRow.set {w w' : World} {n T o : Nat} {p : Value} {l : List Int} {cs : Array Value} (h : FRow w n p l w') (hb : w'.heap[T]? = some (.cells cs 34 (0, 0))) (u : Value) : FRow w n p l (w'.setCell ⟨T, o, none⟩ u) := by
  refine ownsRow_same h fun k hk => Below.heap_setCell w' ⟨T, o, none⟩ u k ?_
  intro e
  have e' : k = T := e
  rw [← e'] at hb
  rcases h.2 with ⟨rfl, _⟩ | ⟨g, cap, cur, rfl, _, hh, _⟩
  · cases hk
  · have hk' : g = k := by simpa [Value.ownBlock] using hk
    rw [← hk', hh] at hb
    simp at hb
theorem FRow.drew {w w' : World} {n : Nat} {p : Value} {l : List Int} (h : FRow w n p l w') : FRow w n p l w'.drew := ownsRow_gr h (Gr.refl _).drew
def FunTo (w : World) (kind : Int) (id ps : List Int) (e : Ending) (w' : World) : Prop :=
  ∃ va ca, e = .returned (.agg #[.int .i64 kind, .int .u8 ((restR id).getLastD 0), .int .u8 (markR id), .slice va (min ps.length 30) ca, .string (strOf (restR id).dropLast), .slice none 0 0]) ∧ w'.ownsRow w.heap.size 3 1 (.slice va (min ps.length 30) ca) (min ps.length 30) (icells ((ps.take 30).map clip16)) ∧ Gr w w'
def FMark (w wA : World) (L : List Int) (v : Value) (wx : World) : Prop := v = .bool (markB L) ∧ wx = wA
def FRest (w : World) (T n : Nat) (k : Int) (p : Value) (ps L : List Int) (v : Value) (wx : World) : Prop := ∃ t, v = .string t ∧ nums t = restR L ∧ FBox w T k 0 (markR L) p ⟨#[]⟩ wx ∧ FRow w n p ps wx
def FIn (w : World) (T n : Nat) (k c m : Int) (s : ByteArray) (p : Value) (l : List Int) (j : Nat) (wr : World) : Prop := FBox w T k c m p s wr ∧ FRow w n p ((l.take j).map clip16 ++ l.drop j) wr
theorem FIn.ne {w wr : World} {T n ca j g : Nat} {k c m : Int} {s : ByteArray} {l : List Int} (h : FIn w T n k c m s (.slice (some ⟨g, 0, none⟩) n ca) l j wr) : g ≠ T := by
  rintro rfl
  rcases h.2.2 with ⟨hv, _⟩ | ⟨g', cap, cur, hv, _, hh, _⟩
  · cases hv
  · injection hv with hv; injection hv with hv; injection hv with hv; subst hv
    have := h.1.box
    rw [hh] at this
    simp at this
theorem FIn.next {w wr : World} {T n ca j g : Nat} {k c m x : Int} {s : ByteArray} {l : List Int} (h : FIn w T n k c m s (.slice (some ⟨g, 0, none⟩) n ca) l j wr) (hn : l.length = n) (hj : j < n) (hx : l[j]? = some x) : FIn w T n k c m s (.slice (some ⟨g, 0, none⟩) n ca) l (j + 1) (wr.setCell ⟨g, j, none⟩ (.int .i64 (clip16 x))) := by
  obtain ⟨h1, h2⟩ := h
  have hgT : g ≠ T := FIn.ne ⟨h1, h2⟩
  have hg : w.heap.size + 1 ≤ g := ownsRow_base h2 rfl
  refine ⟨⟨blk_far h1.box (fun e => hgT e.symm) _, blk_far h1.out (by show w.heap.size ≠ g; omega) _, h1.gr.setCell (by show w.heap.size ≤ g; omega) _, h1.lt⟩, ?_⟩
  have h3 := own_put (u := .int .i64 (clip16 x)) h2 hj
  rw [icells_set] at h3
  have e : ((l.take j).map clip16 ++ l.drop j).set j (clip16 x) = (l.take (j + 1)).map clip16 ++ l.drop (j + 1) := by
    obtain ⟨hjl, hxe⟩ := List.getElem?_eq_some_iff.1 hx
    have hlen : ((l.take j).map clip16).length = j := by simp; omega
    rw [List.set_append_right _ _ (by omega), hlen, Nat.sub_self, List.drop_eq_getElem_cons hjl, List.set_cons_zero, List.take_succ_eq_append_getElem hjl, List.map_append, List.append_assoc, hxe]
    rfl
  rw [e] at h3
  exact h3
theorem own_or2 {w : World} {B e n c : Nat} {a : Option Addr} {xs : List Value} (h : w.ownsRow B e 1 (.slice a n c) n xs) : (n = 0 ∧ a = none ∧ c = 0) ∨ ∃ g, a = some ⟨g, 0, none⟩ ∧ B ≤ g ∧ g < w.heap.size ∧ n ≤ c := by
  rcases h.2 with ⟨h2, _⟩ | ⟨g, cap, cur, hv, hg, hh, hn, r⟩
  · injection h2 with h1 h2 h3; exact .inl ⟨h2, h1, h3⟩
  · injection hv with e1 e2 e3
    subst e3
    exact .inr ⟨g, e1, hg, (Array.getElem?_eq_some_iff.1 hh).1, hn⟩
/-- A row cut behind some of its elements. -/
theorem own_take {w : World} {B e n c m g : Nat} {xs : List Value} (h : w.ownsRow B e 1 (.slice (some ⟨g, 0, none⟩) n c) n xs) (hm : m ≤ n) : w.ownsRow B e 1 (.slice (some ⟨g, 0, none⟩) m c) m (xs.take m) := by
  obtain ⟨h1, h2⟩ := h
  refine ⟨by simp; omega, ?_⟩
  rcases h2 with ⟨h2, _⟩ | ⟨g', cap, cur, hv, hg, hh, hn, hmx, hs, ht⟩
  · cases h2
  · injection hv with e1 _ e3
    injection e1 with e1
    injection e1 with e1
    subst e1
    subst e3
    refine .inr ⟨g, c, cur, rfl, hg, hh, by omega, hmx, hs, ?_⟩
    rw [← ht, List.take_take]
    congr 1
    omega
theorem ints_to (g n cap m : Nat) (hm : m ≤ n) (hn : n ≤ cap) (W : World) : (Instr.slice 31 (.slice (some ⟨g, 0, none⟩) n cap) none (some (.int .i64 (m : Int))) none).run Tryd.prog W = .ok (.slice (some ⟨g, 0, none⟩) m cap) W := by
  rw [run_slice_h W 31 _ n cap ints_elem .i64 m (by omega) (by omega), ints_size]
  simp [Result.andThen, sliced, Addr.add]
theorem fldT (a b c d e f : Value) (w : World) : (Instr.field 34 (.agg #[a, b, c, d, e, f]) 3).run Tryd.prog w = .ok d w := by kernel_rfl
theorem str_to (t : ByteArray) (m : Nat) (h : m ≤ t.size) (W : World) : (Instr.slice 9 (.string t) none (some (.int .i64 (m : Int))) none).run Tryd.prog W = .ok (.string (t.extract 0 m)) W := by
  rw [run_slice_string_to_if (h := Tryd.underlying9), if_pos ⟨by omega, by omega⟩]
  simp
theorem FIn.drew {w wr : World} {T n j : Nat} {k c m : Int} {s : ByteArray} {p : Value} {l : List Int} (h : FIn w T n k c m s p l j wr) : FIn w T n k c m s p l j wr.drew := ⟨h.1.drew, FRow.drew h.2⟩
theorem ints_to0 (W : World) : (Instr.slice 31 (.slice none 0 0) none (some (.int .i64 ((0 : Nat) : Int))) none).run Tryd.prog W = .ok (.slice none 0 0) W := by
  obtain ⟨z, hz⟩ : ∃ z : Nat, z = 0 := ⟨_, rfl⟩
  rw [← hz, run_slice_h W 31 _ z z ints_elem .i64 z (by omega) (by omega), ints_size]
  simp [Result.andThen, sliced, hz]
/-- The numbers cut to thirty. -/
theorem fun_cut {w wc : World} {T n ca m : Nat} {k C M : Int} {I : ByteArray} {va : Option Addr} {ps : List Int} (hF : FBox w T k C M (.slice va n ca) I wc) (hR : FRow w n (.slice va n ca) ps wc) (hm : m ≤ n) :
    (∀ W : World, (Instr.slice 31 (.slice va n ca) none (some (.int .i64 (m : Int))) none).run Tryd.prog W = .ok (.slice va m ca) W) ∧ FIn w T m k C M I (.slice va m ca) (ps.take m) 0 (wc.setCell ⟨T, 3, none⟩ (.slice va m ca)) ∧ (0 < m → ∃ g, va = some ⟨g, 0, none⟩) := by
  rcases own_or2 hR with ⟨rfl, rfl, rfl⟩ | ⟨g, rfl, hg1, hg2, hnc⟩
  · obtain rfl : m = 0 := by omega
    refine ⟨fun W => ints_to0 W, ⟨hF.set3 _, ?_⟩, fun h => by omega⟩
    have := hR.set hF.box (.slice none 0 0) (o := 3)
    have hn : ps = [] := by have := hR.1; simpa [icells] using this
    subst hn
    exact this
  · have hrow := own_take (hR.set hF.box (.slice (some ⟨g, 0, none⟩) m ca) (o := 3)) hm
    have hic : (icells ps).take m = icells (ps.take m) := by simp [icells, List.map_take]
    rw [hic] at hrow
    exact ⟨ints_to g n ca m hm hnc, ⟨hF.set3 _, by simpa [FRow] using hrow⟩, fun _ => ⟨g, rfl⟩⟩
end Go.Proofs.YtnnhaenmoifplaaDoor

namespace Go.Proofs.YtnnhaenmoifplaaDoor
set_option linter.unusedSimpArgs false
set_option linter.unusedVariables false
open Go.RowKit
set_option linter.unusedVariables false

theorem markB_at {L : List Int} {x : Int} (h : L[0]? = some x) : markB L = (decide (60 ≤ x) && (decide (x ≤ 63) && decide (1 < L.length))) := by
  rcases L with _ | ⟨y, _ | ⟨z, r⟩⟩
  · cases h
  · simp [markB]
  · simp at h; subst h
    by_cases h1 : 60 ≤ y <;> by_cases h2 : y ≤ 63 <;> simp [markB, h1, h2]
theorem markR_no {L : List Int} (h : markB L = false) : markR L = 0 ∧ restR L = L := by unfold markR restR; simp [h]
theorem markR_yes {L : List Int} {x : Int} (h : markB L = true) (hx : L[0]? = some x) : markR L = x ∧ restR L = L.drop 1 := by
  unfold markR restR
  rw [if_pos h, if_pos h]
  rcases L with _ | ⟨y, r⟩
  · cases hx
  · simp at hx; subst hx; exact ⟨rfl, rfl⟩
set_option maxRecDepth 100000 in
set_option maxHeartbeats 4000000 in
theorem fun_walk {w : World} {k : Int} {s : ByteArray} {a : Option Addr} {n c : Nat} {ps : List Int} (h : HasRow w 3 (.slice a n c) n (icells ps)) (hb : n * 8 ≤ 140737488355328) (hs : s.size ≤ 1000) :
    Calls Tryd.prog 38 #[.int .i64 k, .string s, .slice a n c] w (FunTo w k (nums s) ps) := by
  have hlen : ps.length = n := by simpa [icells] using h.1
  have hcp := fun (W : World) (hg : Gr w W) => copy_walk (k := 0) (c := 0) (m := 0) (s := ⟨#[]⟩) (a2 := none) (n2 := 0) (c2 := 0) (d := []) (h.gr hg) (HasRow.nil W 5) hb (by omega)
  have hw0 := (Gr.refl w).alloc (.cells #[.int .i64 0, .int .u8 0, .int .u8 0, .slice none 0 0, .string ⟨#[]⟩, .slice none 0 0] 34)
  have HN := Lib.hid hlen
  have hfl := fldT
  clear hlen h
  go_enter Tryd.func38, Tryd.ntmps38
  go_upto_region 2 with (go_at_call 46; (with_reducible refine (hcp _ hw0).mono ?_); rintro e w1 ⟨va, ca, vb, cb, rfl, hO, hO2, hg1⟩)
  have hF : FBox w w1.heap.size k 0 0 (.slice va n ca) ⟨#[]⟩ (w1.alloc (.cells #[.int .i64 k, .int .u8 0, .int .u8 0, .slice va n ca, .string ⟨#[]⟩, .slice none 0 0] 34)) :=
    ⟨heap_alloc_new w1 _, (Gr.refl w1).alloc _ |>.blk (hg1.blk (heap_alloc_new w _)), (hw0.trans hg1).alloc _, by have := hg1.lt1 w.heap.size (by simp); exact this⟩
  have hR : FRow w n (.slice va n ca) ps (w1.alloc (.cells #[.int .i64 k, .int .u8 0, .int .u8 0, .slice va n ca, .string ⟨#[]⟩, .slice none 0 0] 34)) := by
    have := ownsRow_gr hO ((Gr.refl w1).alloc (.cells #[.int .i64 k, .int .u8 0, .int .u8 0, .slice va n ca, .string ⟨#[]⟩, .slice none 0 0] 34))
    unfold FRow
    simpa using this
  clear hfl hcp hw0 hO hO2
  obtain ⟨wA, hwA⟩ : ∃ wA, wA = w1.alloc (.cells #[.int .i64 k, .int .u8 0, .int .u8 0, .slice va n ca, .string ⟨#[]⟩, .slice none 0 0] 34) := ⟨_, rfl⟩
  rw [← hwA] at hF hR ⊢
  clear hwA
  obtain ⟨T, hT⟩ : ∃ T, T = w1.heap.size := ⟨_, rfl⟩
  rw [← hT] at hF ⊢
  clear hT hg1 w1
  go_cut [33] (fun v wx => FMark w wA (nums s) v wx)
  case first =>
    by_cases h0 : s.size = 0
    · obtain rfl : s = ⟨#[]⟩ := by
        have : nums s = [] := List.eq_nil_of_length_eq_zero (by rw [nums_len]; exact h0)
        rw [← nums_str s, this]; rfl
      clear h0
      go_wp2_with fail
      go_meet
      exact ⟨rfl, rfl⟩
    · have hs0 : 0 < s.size := by omega
      obtain ⟨q1, q2, q3⟩ := qstr (s := s) (fun e => h0 (by rw [e]; rfl))
      obtain ⟨x, hx, ex⟩ : ∃ x : Int, (nums s)[0]? = some x ∧ ((s[0]'hs0).toNat : Int) = x := ⟨_, nums_at hs0, rfl⟩
      have hmk := markB_at hx
      rw [nums_len] at hmk
      have HM := Lib.hid hmk
      clear hmk hx h0
      by_cases h60 : 60 ≤ x
      · have p60 := decide_eq_true h60
        by_cases h63 : x ≤ 63
        · have p63 := decide_eq_true h63
          by_cases h1 : 1 < s.size
          · have h1' : (1 : Int) < (s.size : Int) := by omega
            have HD := Lib.hid (decide_eq_true h1)
            go_wp2_with fail
            go_meet
            exact ⟨by rw [HM.out, p60, p63, HD.out]; rfl, rfl⟩
          · have h1' : ¬ (1 : Int) < (s.size : Int) := by omega
            have HD := Lib.hid (decide_eq_false h1)
            go_wp2_with fail
            go_meet
            exact ⟨by rw [HM.out, p60, p63, HD.out]; rfl, rfl⟩
        · have p63 := decide_eq_false h63
          go_wp2_with fail
          go_meet
          exact ⟨by rw [HM.out, p60, p63]; rfl, rfl⟩
      · have p60 := decide_eq_false h60
        go_wp2_with fail
        go_meet
        exact ⟨by rw [HM.out, p60]; rfl, rfl⟩
  case rest =>
    obtain ⟨rfl, rfl⟩ := hcut
    go_upto_if 33 with fail
    go_cut [1] (fun v wx => FRest w T n k (.slice va n ca) ps (nums s) v wx)
    case first =>
      cases hmk : markB (nums s) with
      | false =>
        have hm2 := markR_no hmk
        have HM := Lib.hid hm2
        clear hm2 hmk
        go_wp2_with fail
        go_meet
        exact ⟨s, rfl, HM.out.2.symm, by rw [HM.out.1]; exact hF, hR⟩
      | true =>
        have hs0 : 0 < s.size := by
          rcases Nat.eq_zero_or_pos s.size with h0 | h0
          · have : nums s = [] := List.eq_nil_of_length_eq_zero (by rw [nums_len]; exact h0)
            rw [this] at hmk; cases hmk
          · exact h0
        obtain ⟨x, hx, ex⟩ : ∃ x : Int, (nums s)[0]? = some x ∧ ((s[0]'hs0).toNat : Int) = x := ⟨_, nums_at hs0, rfl⟩
        have hm2 := markR_yes hmk hx
        have HM := Lib.hid hm2
        have hnx : nums (s.extract 1 s.size) = restR (nums s) := by
          rw [nums_extract, hm2.2, List.take_of_length_le (by simp [nums_len])]
        have HX := Lib.hid hnx
        have hs1 : 1 ≤ s.size := hs0
        have hs2 : (1 : Int) ≤ (s.size : Int) := by omega
        have hs3 : (0 : Int) < (s.size : Int) := by omega
        clear hm2 hmk hx hnx
        obtain ⟨t0, t1, t2, t3, t4, t5, tf⟩ := cells6 hF.box
        go_wp2_with fail
        go_region_held3 (fun w9 => True) (exact trivial) (fail)
        all_goals go_wp2_with fail
        all_goals go_meet
        all_goals exact ⟨_, rfl, HX.out, by rw [HM.out.1]; exact hF.drew.set2 x, hR.drew.set hF.drew.box _⟩
    case rest =>
      obtain ⟨t, rfl, ht, hF, hR⟩ := hcut
      have hts : t.size ≤ 1000 := by
        have h1 : (restR (nums s)).length ≤ (nums s).length := by unfold restR; split <;> simp
        rw [← ht, nums_len, nums_len] at h1
        omega
      obtain ⟨M, hM⟩ : ∃ M, M = markR (nums s) := ⟨_, rfl⟩
      obtain ⟨R, hR0⟩ : ∃ R, R = restR (nums s) := ⟨_, rfl⟩
      have HMM := Lib.hid hM
      have HRR := Lib.hid hR0
      rw [← hM] at hF
      rw [← hR0] at ht
      have HT := Lib.hid ht
      clear hM hR0 ht
      obtain ⟨t0, t1, t2, t3, t4, t5, tf⟩ := cells6 hF.box
      go_upto_if 43 with fail
      go_cut [8] (fun _ wx => FBox w T k (R.getLastD 0) M (.slice va n ca) (strOf R.dropLast) wx ∧ FRow w n (.slice va n ca) ps wx)
      case first =>
        by_cases h0 : t.size = 0
        · have hR0 : R = [] := by rw [← HT.out]; exact List.eq_nil_of_length_eq_zero (by rw [nums_len]; exact h0)
          have HR0 := Lib.hid hR0
          clear hR0
          go_wp2_with fail
          go_meet
          exact ⟨by rw [HR0.out]; exact hF, hR⟩
        · obtain ⟨m, hm⟩ : ∃ m, t.size = m + 1 := ⟨t.size - 1, by omega⟩
          have hml : m < t.size := by omega
          obtain ⟨y, hy, ey⟩ : ∃ y : Int, (nums t)[m]? = some y ∧ ((t[m]'hml).toNat : Int) = y := ⟨_, nums_at hml, rfl⟩
          have h1 : R.getLastD 0 = y := by
            rw [HT.out] at hy
            have hl : R.length = m + 1 := by rw [← HT.out, nums_len]; exact hm
            rw [List.getLastD_eq_getLast?, List.getLast?_eq_getElem?, hl, Nat.add_sub_cancel, hy]; rfl
          have h2 : t.extract 0 m = strOf R.dropLast := by
            have hl : R.length = m + 1 := by rw [← HT.out, nums_len]; exact hm
            rw [strOf_ext, HT.out, List.dropLast_eq_take, hl]
            simp
          have H1 := Lib.hid h1
          have H2 := Lib.hid h2
          have hst := str_to t m (by omega)
          clear hy h1 h2 h0
          go_wp2_with fail
          go_region_held3 (fun w9 => True) (exact trivial) (fail)
          all_goals go_wp2_with fail
          all_goals go_meet
          all_goals
            rw [H1.out, ← H2.out]
            first
              | exact ⟨((hF.set4 (t.extract 0 m)).set1 y).drew, ((hR.set hF.box _).set (hF.set4 (t.extract 0 m)).box _).drew⟩
              | exact ⟨((hF.set1 y).set4 (t.extract 0 m)).drew, ((hR.set hF.box _).set (hF.set1 y).box _).drew⟩
      case rest =>
        obtain ⟨hF2, hR2⟩ := hcut
        clear t0 t1 t2 t3 t4 t5 tf hF hR
        obtain ⟨C, hC⟩ : ∃ C, C = R.getLastD 0 := ⟨_, rfl⟩
        obtain ⟨I, hI⟩ : ∃ I, I = strOf R.dropLast := ⟨_, rfl⟩
        rw [← hC, ← hI] at hF2
        have HC := Lib.hid hC
        have HI := Lib.hid hI
        clear hC hI
        obtain ⟨t0, t1, t2, t3, t4, t5, tf⟩ := cells6 hF2.box
        have hcl := clip_any
        obtain ⟨m, hm⟩ : ∃ m, m = min n 30 := ⟨_, rfl⟩
        have hm1 : m ≤ n := by omega
        have hm3 : m ≤ 30 := by omega
        have hmI : min (n : Int) 30 = (m : Int) := by omega
        have HM2 := Lib.hid hm
        clear hm
        obtain ⟨hsl, hIn, hblk⟩ := fun_cut hF2 hR2 hm1
        have hlm : (ps.take m).length = m := by rw [List.length_take, HN.out]; omega
        have HLM := Lib.hid hlm
        clear hR2 hF2 hlm
        obtain ⟨l, hl⟩ : ∃ l, l = ps.take m := ⟨_, rfl⟩
        rw [← hl] at hIn HLM
        have HL := Lib.hid hl
        clear hl
        go_wp2_with fail
        go_loopw [63, 9, 10] (fun iv _ _ wr => ∃ j : Nat, iv = .int .i64 (j : Int) ∧ j ≤ m ∧ FIn w T m k C M I (.slice va m ca) l j wr) (fun iv _ _ _ => m - (intOf iv).toNat)
        case atStart => exact ⟨0, rfl, Nat.zero_le _, hIn⟩
        case round =>
          clear hIn t0 t1 t2 t3 t4 t5 tf
          obtain ⟨j, rfl, hj, hIn⟩ := hrel
          obtain ⟨t0, t1, t2, t3, t4, t5, tf⟩ := cells6 hIn.1.box
          by_cases hlt : j < m
          · obtain ⟨g, rfl⟩ := hblk (by omega)
            have hjl : j < l.length := by rw [HLM.out]; exact hlt
            have hx : l[j]? = some l[j] := List.getElem?_eq_getElem hjl
            obtain ⟨x, hxx⟩ : ∃ x, x = l[j] := ⟨_, rfl⟩
            rw [← hxx] at hx
            have hx2 : (icells ((l.take j).map clip16 ++ l.drop j))[j]? = some (.int .i64 x) := by
              have hlen : ((l.take j).map clip16).length = j := by simp; omega
              unfold icells
              rw [List.getElem?_map, List.getElem?_append_right (by omega), hlen, Nat.sub_self, List.getElem?_drop, Nat.add_zero, hx]
              rfl
            obtain ⟨hcell, hfro⟩ := own_cellAt hIn.2 hx2
            have hnext := hIn.next HLM.out hlt hx
            have hgT := hIn.ne
            have hne : ∀ (W : World) (u : Value), (W.setCell ⟨g, j, none⟩ u).cell? ⟨T, 3, none⟩ = W.cell? ⟨T, 3, none⟩ := fun W u => World.cell?_setCell_other W ⟨g, j, none⟩ ⟨T, 3, none⟩ u (fun e => hgT (congrArg Addr.block e))
            have hjI : (j : Int) < (m : Int) := by omega
            have hjB : (j : Int) < 9223372036854775807 := by omega
            have hcx : Hid (clipR x = clip16 x) := Lib.hid rfl
            clear hx hx2 hxx hjl hIn
            go_wp2_with fail
            go_region_held3 (fun w9 => w9.cell? ⟨T, 3, none⟩ = some (.slice (some ⟨g, 0, none⟩) m ca)) (first | go_keep | (simp [hne]; assumption)) ((go_at_call 47; (with_reducible refine (hcl _ _).mono ?_); rintro e w5 ⟨rfl, rfl⟩))
            all_goals go_wp2_with fail
            all_goals go_roundw
            case rel => exact ⟨j + 1, by go_num, by omega, hnext.drew⟩
            case measure => simp [intOf]; omega
          · obtain rfl : m = j := by omega
            obtain ⟨hF3, hR3⟩ := hIn
            have e3 : (l.take m).map clip16 ++ l.drop m = (ps.take 30).map clip16 := by
              have h1 : l.length = m := HLM.out
              rw [List.take_of_length_le (by omega), List.drop_of_length_le (by omega), List.append_nil, HL.out]
              rw [show ps.take m = ps.take 30 from by
                have := HM2.out; have := HN.out
                by_cases h : n ≤ 30
                · rw [List.take_of_length_le (by omega), List.take_of_length_le (by omega)]
                · congr 1; omega]
            have hmm : m = min ps.length 30 := by rw [HN.out]; exact HM2.out
            rw [e3] at hR3
            have ho := hF3.out
            have HMM3 := Lib.hid hmm
            obtain ⟨p0, p1, p2, p3, p4, p5, pf⟩ := cells6 ho
            clear hmm e3
            go_wp2_with fail
            have hp := put6 ho (.int .i64 k) (.int .u8 C) (.int .u8 M) (.slice va m ca) (.string I) (.slice none 0 0)
            obtain ⟨w6, hw6⟩ : ∃ w6, w6 = (((((wr.setCell ⟨w.heap.size, 0, none⟩ (.int .i64 k)).setCell ⟨w.heap.size, 1, none⟩ (.int .u8 C)).setCell ⟨w.heap.size, 2, none⟩ (.int .u8 M)).setCell ⟨w.heap.size, 3, none⟩ (.slice va m ca)).setCell ⟨w.heap.size, 4, none⟩ (.string I)).setCell ⟨w.heap.size, 5, none⟩ (.slice none 0 0) := ⟨_, rfl⟩
            rw [← hw6] at hp ⊢
            obtain ⟨hp1, hp2, hp3⟩ := hp
            clear hw6
            have hg6 := hp3 w (Nat.le_refl _) hF3.gr
            have e1 := World.ownsRow.mono (hp2 _ _ _ _ _ (by omega) hR3) (Nat.le_add_right w.heap.size 1)
            clear hp2 hp3 ho p0 p1 p2 p3 p4 p5 pf t0 t1 t2 t3 t4 t5 tf
            obtain ⟨t0, t1, t2, t3, t4, t5, tf⟩ := cells6 hp1
            refine bodyPost_ret (v := .agg #[.int .i64 k, .int .u8 C, .int .u8 M, .slice va m ca, .string I, .slice none 0 0]) (by simp [results, Tryd.results38, go_sem, Act.put, t0, t1, t2, t3, t4, t5]) (by simp [Act.put]) ?_
            rw [HC.out, HI.out, HRR.out, HMM.out]
            refine ⟨va, ca, ?_, ?_, hg6⟩
            · rw [← HMM3.out]
            · rw [← HMM3.out]; exact e1
end Go.Proofs.YtnnhaenmoifplaaDoor

namespace Go.Proofs.YtnnhaenmoifplaaDoor
set_option linter.unusedSimpArgs false
set_option linter.unusedVariables false
open Go.RowKit
set_option linter.unusedVariables false

/-- An answer: bytes in memory of the call's own. -/
def AnsOwn (w : World) (l : List Int) (e : Ending) (w' : World) : Prop := ∃ va vc, e = .returned (.slice va l.length vc) ∧ w'.ownsRow w.heap.size 5 1 (.slice va l.length vc) l.length (bcells l) ∧ Gr w w'
/-- The bytes of any token: memory of the call's own, none where it can't be. -/
theorem bytes_ans {w : World} {t : Tok} {q : Value × Value} (hr : TRange t) (h : RTok w t q) (hT : tabT w) (eight : Bool) :
    Calls Tryd.prog 39 #[.agg (tcells t q).toArray, .bool eight] w fun e w' => ∃ va vc r, e = .returned (.tuple #[.slice va (ansR t eight).length vc, .int .i64 r]) ∧ w'.ownsRow w.heap.size 5 1 (.slice va (ansR t eight).length vc) (ansR t eight).length (bcells (ansR t eight)) ∧ Gr w w' := by
  by_cases h0 : checkR t = 0
  · refine (bytes_can (check_zero hr h0) h hT eight).mono ?_
    rintro e w' ⟨v, rfl, ⟨w0, hg0, hb⟩, hg⟩
    obtain ⟨va, vc, rfl⟩ := hb.form
    have e : ansR t eight = bytesR t eight := if_pos h0
    exact ⟨va, vc, 0, by rw [e], by rw [e]; exact World.ownsRow.mono hb (gr_le hg0), hg⟩
  · refine (bytes_none hr h h0 eight).mono ?_
    rintro e w' ⟨rfl, hg⟩
    have e : ansR t eight = [] := if_neg h0
    exact ⟨none, 0, _, by rw [e]; rfl, by rw [e]; exact World.ownsRow_nil _ _ _ _, hg⟩
/-- The token that function makes, by name. -/
theorem fun_tok {w : World} {k : Int} {s : ByteArray} {a : Option Addr} {n c : Nat} {ps d : List Int} (h : HasRow w 3 (.slice a n c) n (icells ps)) (hb : n * 8 ≤ 140737488355328) (hs : s.size ≤ 1000) {T : Tok} (hT : T = funT k (nums s) ps d) :
    Calls Tryd.prog 38 #[.int .i64 k, .string s, .slice a n c] w fun e w' => ∃ va ca, e = .returned (.agg #[.int .i64 k, .int .u8 T.code, .int .u8 T.mark, .slice va T.params.length ca, .string (strOf T.inters), .slice none 0 0]) ∧ w'.ownsRow w.heap.size 3 1 (.slice va T.params.length ca) T.params.length (icells T.params) ∧ Gr w w' := by
  subst hT
  refine (fun_walk h hb hs).mono ?_
  rintro e w' ⟨va, ca, rfl, hO, hg⟩
  have hl : (funT k (nums s) ps d).params.length = min ps.length 30 := by show ((ps.take 30).map clip16).length = _; rw [List.length_map, List.length_take]; omega
  exact ⟨va, ca, by rw [hl]; rfl, by rw [hl]; exact hO, hg⟩

set_option maxRecDepth 100000 in
set_option maxHeartbeats 2000000 in
theorem csi_any {w : World} {s : ByteArray} {a : Option Addr} {n c : Nat} {ps : List Int} (eight : Bool) (h : HasRow w 3 (.slice a n c) n (icells ps)) (hb : n * 8 ≤ 140737488355328) (hs : s.size ≤ 1000) (hT : tabT w) :
    Calls Tryd.prog 24 #[.bool eight, .string s, .slice a n c] w (AnsOwn w (ansR (funT 4 (nums s) ps []) eight)) := by
  obtain ⟨T, hTT⟩ : ∃ T, T = funT 4 (nums s) ps [] := ⟨_, rfl⟩
  have hf := fun_tok (d := []) h hb hs hTT
  have hby : ∀ W va ca, Gr w W → W.ownsRow w.heap.size 3 1 (.slice va T.params.length ca) T.params.length (icells T.params) →
      Calls Tryd.prog 39 #[.agg #[.int .i64 4, .int .u8 T.code, .int .u8 T.mark, .slice va T.params.length ca, .string (strOf T.inters), .slice none 0 0], .bool eight] W fun e w' => ∃ va vc r, e = .returned (.tuple #[.slice va (ansR T eight).length vc, .int .i64 r]) ∧ w'.ownsRow W.heap.size 5 1 (.slice va (ansR T eight).length vc) (ansR T eight).length (bcells (ansR T eight)) ∧ Gr W w' := by
    intro W va ca hg hO
    have hr : TRange T := by rw [hTT]; exact fun_range (nums_in s) (by simp)
    have hk : T.kind = 4 := by rw [hTT]; rfl
    have hd : T.data = [] := by rw [hTT]; rfl
    have hq : RTok W T (.slice va T.params.length ca, .slice none 0 0) := ⟨HasRow.of_own hO, by rw [hd]; exact HasRow.nil _ _⟩
    have := bytes_ans hr hq (hT.gr hg) eight
    unfold tcells at this
    rw [hk] at this
    exact this
  rw [← hTT]
  clear h hb hs hTT
  obtain ⟨A, hA⟩ : ∃ A, A = ansR T eight := ⟨_, rfl⟩
  rw [← hA] at hby ⊢
  clear hA
  go_enter Tryd.func24, Tryd.ntmps24
  go_wp2_with (first
    | (go_at_call 38; (with_reducible refine hf.mono ?_); rintro e w1 ⟨va, ca, rfl, hO, hg1⟩)
    | (go_at_call 39; (with_reducible refine (hby _ _ _ hg1 hO).mono ?_); rintro e w2 ⟨vb, cb, r, rfl, hO2, hg2⟩))
  go_ret
  exact ⟨vb, cb, rfl, World.ownsRow.mono hO2 hg1.size, hg1.trans hg2⟩

/-- A new row of bytes that a text was turned into. -/
theorem hasRow_text (w : World) (s : ByteArray) : HasRow (Lib.bytesWorld w 5 s) 5 (.slice (some ⟨w.heap.size, 0, none⟩) s.size (grownCap w s.size 0 5)) s.size (bcells (nums s)) := by
  have hge := grownCap_ge w s.size 0 5
  have hsz : s.data.size = s.size := rfl
  refine ⟨by simp [bcells, nums_len], .inr ⟨w.heap.size, _, Lib.bytesCells w 5 s, rfl, ⟨_, Lib.bytesWorld_at_new w _ s⟩, hge, ?_, ?_⟩⟩
  · simp only [Lib.bytesCells, Array.size_append, Array.size_map, Array.size_replicate, hsz]; omega
  · unfold Lib.bytesCells
    rw [Array.toList_append, List.take_append_of_le_length (by simp [hsz]), List.take_of_length_le (by simp [hsz])]
    simp [bcells, nums]
section
variable {P : Program} {ops : Array Oper} {rest : List Oper} {u : Oper} {a : Act} {w : World} {K : Act → World → Prop} {Q : Exit → Act → World → Prop}
theorem wp_s2bH (x : Operand) (src dst : TypeId) (hu : u.op = .convert src dst x) {td : TypeDesc} (hsrc : P.underlying src = some td) (hdst : P.underlying dst = some (.slice 5)) (he : P.underlying 5 = some (.int .u8))
    (s : ByteArray) (hx : a.eval x = .string s)
    (H : ∀ cap w', HasRow w' 5 (.slice (some ⟨w.heap.size, 0, none⟩) s.size cap) s.size (bcells (nums s)) → Gr w w' → w'.heap.size = w.heap.size + 1 → K (a.put u.dst (.slice (some ⟨w.heap.size, 0, none⟩) s.size cap)) w') : u.wp P a w K Q := by
  have hr := Lib.run_convert_string_bytes (P := P) w src dst 5 s hsrc hdst he
  unfold Oper.wp execOp
  simp only [hu, hx, Sem.run_bind, hr, Result.andThen_ok, Sem.run_pure]
  exact H _ _ (hasRow_text w s) ((Gr.refl w).bytesWorld 5 s) (Lib.bytesWorld_size w 5 s)
theorem wpList_s2bH (hgd : u.guard = none) (x : Operand) (src dst : TypeId) (hu : u.op = .convert src dst x) {td : TypeDesc} (hsrc : P.underlying src = some td) (hdst : P.underlying dst = some (.slice 5)) (he : P.underlying 5 = some (.int .u8))
    (s : ByteArray) (hx : a.eval x = .string s)
    (H : ∀ cap w', HasRow w' 5 (.slice (some ⟨w.heap.size, 0, none⟩) s.size cap) s.size (bcells (nums s)) → Gr w w' → w'.heap.size = w.heap.size + 1 → wpList P ops Q rest (a.put u.dst (.slice (some ⟨w.heap.size, 0, none⟩) s.size cap)) w') : wpList P ops Q (u :: rest) a w :=
  wpList_plain hgd fun _ hK => wp_s2bH x src dst hu hsrc hdst he s hx fun cap w' h1 h2 h3 => hK _ _ (H cap w' h1 h2 h3)
end
end Go.Proofs.YtnnhaenmoifplaaDoor

namespace Go.Proofs.YtnnhaenmoifplaaDoor
set_option linter.unusedSimpArgs false
set_option linter.unusedVariables false
open Go.RowKit
set_option linter.unusedVariables false

def csiR (id ps : List Int) (eight : Bool) : List Int := ansR (funT 4 id ps []) eight
theorem hasRow_lit {w : World} {g n : Nat} {l : List Int} {cs : Array Value} (hn : l.length = n) (hc : cs = (icells l).toArray) (h : w.heap[g]? = some (.cells cs 3 (0, 0))) : HasRow w 3 (.slice (some ⟨g, 0, none⟩) n n) n (icells l) := by
  subst hc
  refine ⟨by rw [icellsN_len]; exact hn, .inr ⟨g, n, _, rfl, ⟨_, h⟩, Nat.le_refl _, by simp [icellsN_len, hn], ?_⟩⟩
  exact List.take_of_length_le (by simp [icellsN_len, hn])
end Go.Proofs.YtnnhaenmoifplaaDoor

namespace Go.Proofs.YtnnhaenmoifplaaDoor
set_option linter.unusedSimpArgs false
set_option linter.unusedVariables false
open Go.RowKit
set_option linter.unusedVariables false

set_option maxRecDepth 100000 in
set_option maxHeartbeats 2000000 in
theorem single_any {w : World} (eight : Bool) (c : Int) (hT : tabT w) : Calls Tryd.prog 26 #[.bool eight, .int .u8 c] w (AnsOwn w (pairR 79 eight ++ [c])) := by
  have hb : ∀ W, Gr w W → Calls Tryd.prog 39 #[.agg #[.int .i64 3, .int .u8 79, .int .u8 0, .slice none 0 0, .string ⟨#[]⟩, .slice none 0 0], .bool eight] W fun e w' => ∃ va vc r, e = .returned (.tuple #[.slice va (ansR ⟨3, 79, 0, [], [], []⟩ eight).length vc, .int .i64 r]) ∧ w'.ownsRow W.heap.size 5 1 (.slice va (ansR ⟨3, 79, 0, [], [], []⟩ eight).length vc) (ansR ⟨3, 79, 0, [], [], []⟩ eight).length (bcells (ansR ⟨3, 79, 0, [], [], []⟩ eight)) ∧ Gr W w' :=
    fun W hg => bytes_ans (t := ⟨3, 79, 0, [], [], []⟩) (q := (.slice none 0 0, .slice none 0 0)) ⟨by decide, by decide, by simp, by simp⟩ ⟨HasRow.nil _ _, HasRow.nil _ _⟩ (hT.gr hg) eight
  have e : ansR ⟨3, 79, 0, [], [], []⟩ eight = pairR 79 eight := by cases eight <;> rfl
  rw [e] at hb
  obtain ⟨A, hA⟩ : ∃ A, A = pairR 79 eight := ⟨_, rfl⟩
  have hAl : A.length ≤ 2 := by rw [hA]; unfold pairR; split <;> simp
  rw [← hA] at hb ⊢
  clear e hA
  obtain ⟨n, hn⟩ : ∃ n, n = A.length := ⟨_, rfl⟩
  have hbc : bcells (A ++ [c]) = bcells A ++ [.int .u8 c] := by simp [bcells]
  have hlen : (A ++ [c]).length = n + 1 := by simp [hn]
  unfold AnsOwn
  rw [hlen, hbc]
  rw [← hn] at hb hAl
  clear hn hbc hlen
  go_enter Tryd.func26, Tryd.ntmps26
  go_wp2_with (first
    | (go_at_call 39; (with_reducible refine (hb _ (Gr.refl w)).mono ?_); rintro e w1 ⟨va, vc, r, rfl, hO, hg1⟩)
    | (at_builtin; (refine wpList_addX (w0 := w) rfl _ _ _ _ rfl 5 _ 1 bytesT u8i rfl _ n _ rfl (ownsRow_gr hO ((Gr.refl w1).alloc _)) (hg1.alloc _) _ 1 [.int .u8 c] rfl (src_block bytesT _ (heap_alloc_new _ _) rfl (by simp [Value.oneCell'])) (by unfold maxLen; omega) (by omega) ?_); intro vb cb w2 hown2 hg2 hgb2))
  go_ret
  exact ⟨vb, cb, rfl, hown2, hg2⟩
end Go.Proofs.YtnnhaenmoifplaaDoor
