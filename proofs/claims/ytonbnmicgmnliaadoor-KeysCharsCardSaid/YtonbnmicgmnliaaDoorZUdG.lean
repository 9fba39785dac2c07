/-
  Keys with texts: Split, Cut; the keys with definitions more (with of the program).
  Keys with texts: the keys with definitions more (with of the program), walked.
-/
import Derived.Deep.DeepCutAuto
import Derived.Test.YtonbnmicgmnliaaDoorZUdE2
import Derived.Test.YtonbnmicgmnliaaDoorZMcD
namespace Go.Proofs.YtonbnmicgmnliaaDoor
set_option linter.unusedSimpArgs false
set_option linter.unusedVariables false
open Go.RowKit
set_option linter.unusedVariables false

/-- Where a library function reads a global. -/
def MaxOk (w : World) : Prop := ∃ m, w.cell? ⟨0, 0, none⟩ = some (.int .i64 m)
theorem MaxOk.gr {w w' : World} (h : MaxOk w) (hg : Gr w w') : MaxOk w' := by
  obtain ⟨m, hm⟩ := h
  exact ⟨m, hg.cellAt hm⟩
theorem split_b (t : List UInt8) : (Lib.splitB ⟨#[59]⟩ 0 (Lib.countB (bsl t) ⟨#[59]⟩) (bsl t)).map (·.data.toList) = sps 59 t := by
  rw [Lib.splitB_data, ← split_sps]
  rfl
theorem split_any (t : List UInt8) (w : World) (hl : t.length ≤ 1000000) (hm : MaxOk w) : Calls Tryd.prog 26 #[.string (bsl t), .string ⟨#[59]⟩] w fun e w' => e = .returned (.slice (some ⟨w.heap.size, 0, none⟩) (sps 59 t).length (sps 59 t).length) ∧ w' = w.alloc (.cells ((sps 59 t).map fun q => Value.string (bsl q)).toArray 9) := by
  obtain ⟨m, hm⟩ := hm
  refine (Tryd.strings_Split (bsl t) ⟨#[59]⟩ m w (by rw [bsl_size]; omega) hm (by decide)).mono ?_
  rintro e w' ⟨rfl, rfl⟩
  have h1 := split_b t
  have h2 := Lib.splitB_all ⟨#[59]⟩ (by decide) 0 _ (bsl t) rfl
  generalize Lib.splitB ⟨#[59]⟩ 0 (Lib.countB (bsl t) ⟨#[59]⟩) (bsl t) = L at h1 h2 ⊢
  rw [← h2, ← h1]
  refine ⟨by simp, ?_⟩
  rw [List.map_map]
  congr 3
theorem cut_ix : ∀ q : List UInt8, match cutS q with
    | none => Lib.index q [47] = -1
    | some p => Lib.index q [47] = (p.1.length : Int) ∧ q = p.1 ++ 47 :: p.2
  | [] => by simp [cutS]; rfl
  | c :: l => by
    have ih := cut_ix l
    by_cases hc : c = 47
    · subst hc
      have hix : Lib.index (47 :: l) [47] = 0 := by unfold Lib.index; simp [List.isPrefixOf]
      show match (if (47 : UInt8) = 47 then some (([] : List UInt8), l) else (cutS l).map fun p => (47 :: p.1, p.2)) with
        | none => Lib.index (47 :: l) [47] = -1
        | some p => Lib.index (47 :: l) [47] = (p.1.length : Int) ∧ 47 :: l = p.1 ++ 47 :: p.2
      rw [if_pos rfl]
      exact ⟨hix, rfl⟩
    · have hp : ([47] : List UInt8).isPrefixOf (c :: l) = false := by simp [List.isPrefixOf]; exact fun h => hc h.symm
      have hix : Lib.index (c :: l) [47] = if Lib.index l [47] == -1 then -1 else Lib.index l [47] + 1 := by rw [Lib.index, hp]; simp
      show match (if c = 47 then some (([] : List UInt8), l) else (cutS l).map fun p => (c :: p.1, p.2)) with
        | none => Lib.index (c :: l) [47] = -1
        | some p => Lib.index (c :: l) [47] = (p.1.length : Int) ∧ c :: l = p.1 ++ 47 :: p.2
      rw [if_neg hc, hix]
      rcases hs : cutS l with _ | p
      · rw [hs] at ih
        simp only [Option.map_none]
        rw [ih]; rfl
      · rw [hs] at ih
        simp only [Option.map_some]
        obtain ⟨h1, h2⟩ := ih
        rw [h1]
        refine ⟨?_, by rw [List.cons_append, ← h2]⟩
        have : ((p.1.length : Int) == -1) = false := by simp
        rw [this]; simp
/-- What Cut hands out. -/
def cutV (q : List UInt8) : List UInt8 × List UInt8 × Bool := match cutS q with
  | none => (q, [], false)
  | some p => (p.1, p.2, true)
theorem cut_v (q : List UInt8) : Lib.cut q [47] = cutV q := by
  have h := cut_ix q
  unfold cutV Lib.cut
  rcases hs : cutS q with _ | p
  · rw [hs] at h
    simp only at h
    rw [h]; rfl
  · rw [hs] at h
    obtain ⟨h1, h2⟩ := h
    rw [h1, if_pos (by omega)]
    simp only [Int.toNat_natCast, List.length_cons, List.length_nil]
    conv => lhs; rw [h2]
    rw [List.take_left]
    congr 2
    rw [← List.drop_drop, List.drop_left]
    rfl
theorem cut_any (q : List UInt8) (w : World) (hl : q.length ≤ 1000000) (hm : MaxOk w) : Calls Tryd.prog 27 #[.string (bsl q), .string ⟨#[47]⟩] w fun e w' => e = .returned (.tuple #[.string (bsl (cutV q).1), .string (bsl (cutV q).2.1), .bool (cutV q).2.2]) ∧ Gr w w' := by
  obtain ⟨m, hm⟩ := hm
  refine (Tryd.strings_Cut (bsl q) ⟨#[47]⟩ m w (by rw [bsl_size]; omega) hm).mono ?_
  rintro e w' ⟨rfl, n, rfl⟩
  rw [bsl_list]
  have h1 := cut_v q
  refine ⟨?_, (Gr.refl w).drewN n⟩
  show Ending.returned (.tuple #[.string (bsl (Lib.cut q [47]).1), .string (bsl (Lib.cut q [47]).2.1), .bool (Lib.cut q [47]).2.2]) = _
  rw [h1]
theorem cutV_len (q : List UInt8) : (cutV q).1.length ≤ q.length ∧ (cutV q).2.1.length ≤ q.length := by
  have h := cut_ix q
  unfold cutV
  rcases hs : cutS q with _ | p
  · simp
  · rw [hs] at h
    have := congrArg List.length h.2
    simp only [List.length_append, List.length_cons] at this
    simp only
    omega
/-- A definition that is none, by what is read of it. -/
theorem keyV_form (q : List UInt8) : ∃ (n : Nat) (b : Bool), keyV q = .tuple #[.int .i64 n, .bool b] ∧ b = (q.all isDg && isK (valK 68 q)) ∧ (b = true → n = valK 68 q) := by
  unfold keyV
  by_cases h : q.all isDg = true
  · rw [if_pos h]
    exact ⟨_, _, rfl, by rw [h, Bool.true_and], fun _ => rfl⟩
  · rw [if_neg h]
    exact ⟨0, false, rfl, by rw [Bool.eq_false_iff.2 h, Bool.false_and], fun h => by cases h⟩
theorem fromR_form (l : List UInt8) : ∃ (t : List UInt8) (e : Int), fromR l = (t, e) ∧ ((e = 0 ∧ hexR l = some t) ∨ (e = 3 ∧ hexR l = none)) := by
  unfold fromR
  rcases h : hexR l with _ | o
  · exact ⟨_, _, rfl, .inr ⟨rfl, rfl⟩⟩
  · exact ⟨_, _, rfl, .inl ⟨rfl, rfl⟩⟩
theorem defR_none {L : Txs} {q : List UInt8} (hq : q ≠ []) {n : Nat} {kb : Bool} {t : List UInt8} {e : Int} (hk : kb = ((cutV q).1.all isDg && isK (valK 68 (cutV q).1))) (ht : (e = 0 ∧ hexR (cutV q).2.1 = some t) ∨ (e = 3 ∧ hexR (cutV q).2.1 = none))
    (h : (cutV q).2.2 = false ∨ kb = false ∨ e ≠ 0) : defR L q = none := by
  unfold defR
  rw [if_neg hq]
  unfold defP
  unfold cutV at hk ht h
  rcases hs : cutS q with _ | p
  · rfl
  · rw [hs] at hk ht h
    simp only at hk ht h ⊢
    split
    · rfl
    · rename_i n b hp
      split at hp
      · rename_i hc
        injection hp with hp
        injection hp with e1 e2
        subst e2
        rcases h with h | h | h
        · cases h
        · rw [hk, hc.1, hc.2] at h; cases h
        · rcases ht with ⟨h1, _⟩ | ⟨_, h2⟩
          · exact absurd h1 h
          · rw [h2]; rfl
      · cases hp
theorem defR_some {L : Txs} {q : List UInt8} (hq : q ≠ []) {n : Nat} {kb : Bool} {t : List UInt8} {e : Int} (hk : kb = ((cutV q).1.all isDg && isK (valK 68 (cutV q).1))) (hn : kb = true → n = valK 68 (cutV q).1) (ht : (e = 0 ∧ hexR (cutV q).2.1 = some t) ∨ (e = 3 ∧ hexR (cutV q).2.1 = none))
    (h : (cutV q).2.2 = true) (h1 : kb = true) (h2 : e = 0) : defR L q = some (L.set (n - 17) t) ∧ isK n = true := by
  unfold defR
  rw [if_neg hq]
  unfold defP
  unfold cutV at hk ht h hn
  rcases hs : cutS q with _ | p
  · rw [hs] at h; cases h
  · rw [hs] at hk ht h hn
    simp only at hk ht h hn ⊢
    have hb := h1
    rw [hk, Bool.and_eq_true] at hb
    rw [if_pos hb]
    simp only
    have ht' : hexR p.2 = some t := by
      rcases ht with ⟨_, h3⟩ | ⟨h3, _⟩
      · exact h3
      · rw [h2] at h3; cases h3
    rw [ht', hn h1]
    exact ⟨rfl, hb.2⟩
end Go.Proofs.YtonbnmicgmnliaaDoor

namespace Go.Proofs.YtonbnmicgmnliaaDoor
set_option linter.unusedSimpArgs false
set_option linter.unusedVariables false
open Go.RowKit
set_option linter.unusedVariables false

theorem bslE : (bsl ([] : List UInt8)).toList.isEmpty = true := by rw [ByteArray.toList_eq]; simp [bsl]
theorem bslN {l : List UInt8} (h : l ≠ []) : (bsl l).toList.isEmpty = false := by rw [ByteArray.toList_eq]; simp [bsl, h]
theorem results_cell_tmp {P : Program} {fn : Func} {p u : Tmp} {ty : TypeId} (h : fn.results = #[.cell p ty, .tmp u]) (tmps : Array Value) (w : World) (g : Nat) (t : TypeId) (cs : Array Value) (fr : Nat × Nat) (d : TypeDesc)
    (hp : tmps.getD p undef = .pointer (some ⟨g, 0, none⟩)) (hg : w.heap[g]? = some (.cells cs t fr))
    (hu : P.underlying ty = some d) (hd : (match d with | .struct _ | .array _ _ => true | _ => false) = true) (hi : (P.info? ty).map (·.size) = some cs.size) :
    (results fn tmps).run P w = .ok (.tuple #[.agg cs, tmps.getD u undef]) w := by
  have hp' : tmps[p]?.getD undef = .pointer (some ⟨g, 0, none⟩) := by simpa using hp
  simp [results, h, hp', asAddr, run_loadVar_row w g t ty cs fr d hg hu hd hi]
/-- While definitions are read. -/
structure WSt (w wr : World) (g0 g1 g2 : Nat) (L1 : Txs) (lk : Bool) (z : Array Value) (P : List (List UInt8)) : Prop where
  gr : Gr w wr
  keys : KAt wr g0 L1 lk
  zero : wr.heap[g1]? = some (.cells z 43 (0, 0))
  pcs : wr.heap[g2]? = some (.cells (P.map fun q => Value.string (bsl q)).toArray 9 (0, 0))
  ne : g0 ≠ g1 ∧ g0 ≠ g2 ∧ g1 ≠ g2 ∧ w.heap.size ≤ g0 ∧ w.heap.size ≤ g1
theorem WSt.step {w wr wx : World} {g0 g1 g2 : Nat} {L1 : Txs} {lk : Bool} {z : Array Value} {P : List (List UInt8)} (h : WSt w wr g0 g1 g2 L1 lk z P) (hg : Gr wr wx) : WSt w wx g0 g1 g2 L1 lk z P :=
  ⟨h.gr.trans hg, h.keys.gr hg, hg.blk h.zero, hg.blk h.pcs, h.ne⟩
theorem WSt.set {w wr : World} {g0 g1 g2 : Nat} {L1 : Txs} {lk : Bool} {z : Array Value} {P : List (List UInt8)} (h : WSt w wr g0 g1 g2 L1 lk z P) {i : Nat} (hi : i < 18) (s : List UInt8) : WSt w (wr.setCell ⟨g0, i, none⟩ (.string (bsl s))) g0 g1 g2 (L1.set i s) lk z P := by
  obtain ⟨n1, n2, n3, n4, n5⟩ := h.ne
  exact ⟨h.gr.upd (Upd.of_setCell _ _ _ _) (by simpa using n4), h.keys.setText hi s, (Upd.of_setCell _ _ _ _).blk h.zero (by simp; omega), (Upd.of_setCell _ _ _ _).blk h.pcs (by simp; omega), h.ne⟩
/-- What with leaves. -/
def WithTo (w : World) (lk : Bool) (r : Option Txs) (e : Ending) (w' : World) : Prop := ∃ L', e = .returned (.tuple #[.agg (kcs L' lk).toArray, .bool r.isSome]) ∧ L'.length = 18 ∧ (∀ L1, r = some L1 → L' = L1) ∧ Gr w w'
set_option maxHeartbeats 1000000 in
set_option maxRecDepth 100000 in
theorem with_any (L : Txs) (lk : Bool) (d : List UInt8) (w : World) (hL : L.length = 18) (hd : d.length ≤ 100000) (hM : MaxOk w) : Calls Tryd.prog 15 #[.agg (kcs L lk).toArray, .string (bsl d)] w (WithTo w lk (withR L (sps 59 d))) := by
  have hPl := sps_len 59 d
  have hPs := sps_short 59 d
  have hspl := fun W hm => split_any d W (by omega) hm
  obtain ⟨P, hP⟩ : ∃ P, P = sps 59 d := ⟨_, rfl⟩
  rw [← hP] at hPl hPs hspl ⊢
  have hl := kcs_len hL lk
  obtain ⟨cs, hcs⟩ : ∃ cs, cs = kcs L lk := ⟨_, rfl⟩
  rw [← hcs] at hl ⊢
  have HC := Lib.hid hcs
  have HP := Lib.hid hP
  clear hcs hP
  go_enter Tryd.func15, Tryd.ntmps15
  go_upto_region 1 with fail
  have hb1 := heap_alloc_new (w.alloc (.cells cs.toArray 43)) (.cells #[.string ⟨#[]⟩, .string ⟨#[]⟩, .string ⟨#[]⟩, .string ⟨#[]⟩, .string ⟨#[]⟩, .string ⟨#[]⟩, .string ⟨#[]⟩, .string ⟨#[]⟩, .string ⟨#[]⟩, .string ⟨#[]⟩, .string ⟨#[]⟩, .string ⟨#[]⟩, .string ⟨#[]⟩, .string ⟨#[]⟩, .string ⟨#[]⟩, .string ⟨#[]⟩, .string ⟨#[]⟩, .string ⟨#[]⟩, .bool false] 43)
  have hb0 := ((Gr.refl (w.alloc (.cells cs.toArray 43))).alloc (.cells #[.string ⟨#[]⟩, .string ⟨#[]⟩, .string ⟨#[]⟩, .string ⟨#[]⟩, .string ⟨#[]⟩, .string ⟨#[]⟩, .string ⟨#[]⟩, .string ⟨#[]⟩, .string ⟨#[]⟩, .string ⟨#[]⟩, .string ⟨#[]⟩, .string ⟨#[]⟩, .string ⟨#[]⟩, .string ⟨#[]⟩, .string ⟨#[]⟩, .string ⟨#[]⟩, .string ⟨#[]⟩, .string ⟨#[]⟩, .bool false] 43)).blk (heap_alloc_new w (.cells cs.toArray 43))
  have hg0 : Gr w ((w.alloc (.cells cs.toArray 43)).alloc (.cells #[.string ⟨#[]⟩, .string ⟨#[]⟩, .string ⟨#[]⟩, .string ⟨#[]⟩, .string ⟨#[]⟩, .string ⟨#[]⟩, .string ⟨#[]⟩, .string ⟨#[]⟩, .string ⟨#[]⟩, .string ⟨#[]⟩, .string ⟨#[]⟩, .string ⟨#[]⟩, .string ⟨#[]⟩, .string ⟨#[]⟩, .string ⟨#[]⟩, .string ⟨#[]⟩, .string ⟨#[]⟩, .string ⟨#[]⟩, .bool false] 43)) := ((Gr.refl w).alloc _).alloc _
  have hs0 : ((w.alloc (.cells cs.toArray 43)).alloc (.cells #[.string ⟨#[]⟩, .string ⟨#[]⟩, .string ⟨#[]⟩, .string ⟨#[]⟩, .string ⟨#[]⟩, .string ⟨#[]⟩, .string ⟨#[]⟩, .string ⟨#[]⟩, .string ⟨#[]⟩, .string ⟨#[]⟩, .string ⟨#[]⟩, .string ⟨#[]⟩, .string ⟨#[]⟩, .string ⟨#[]⟩, .string ⟨#[]⟩, .string ⟨#[]⟩, .string ⟨#[]⟩, .string ⟨#[]⟩, .bool false] 43)).heap.size = w.heap.size + 1 + 1 := by simp
  have hs1 : (w.alloc (.cells cs.toArray 43)).heap.size = w.heap.size + 1 := by simp
  rw [hs1] at hb1
  obtain ⟨w2, hw2⟩ : ∃ w2, w2 = ((w.alloc (.cells cs.toArray 43)).alloc (.cells #[.string ⟨#[]⟩, .string ⟨#[]⟩, .string ⟨#[]⟩, .string ⟨#[]⟩, .string ⟨#[]⟩, .string ⟨#[]⟩, .string ⟨#[]⟩, .string ⟨#[]⟩, .string ⟨#[]⟩, .string ⟨#[]⟩, .string ⟨#[]⟩, .string ⟨#[]⟩, .string ⟨#[]⟩, .string ⟨#[]⟩, .string ⟨#[]⟩, .string ⟨#[]⟩, .string ⟨#[]⟩, .string ⟨#[]⟩, .bool false] 43)) := ⟨_, rfl⟩
  rw [← hw2] at hb1 hb0 hg0 hs0 ⊢
  obtain ⟨z, hz⟩ : ∃ z : Array Value, z = #[.string ⟨#[]⟩, .string ⟨#[]⟩, .string ⟨#[]⟩, .string ⟨#[]⟩, .string ⟨#[]⟩, .string ⟨#[]⟩, .string ⟨#[]⟩, .string ⟨#[]⟩, .string ⟨#[]⟩, .string ⟨#[]⟩, .string ⟨#[]⟩, .string ⟨#[]⟩, .string ⟨#[]⟩, .string ⟨#[]⟩, .string ⟨#[]⟩, .string ⟨#[]⟩, .string ⟨#[]⟩, .string ⟨#[]⟩, .bool false] := ⟨_, rfl⟩
  rw [← hz] at hb1
  have hz19 : z.size = 19 := by rw [hz]; rfl
  clear hw2 hz hs1
  obtain ⟨g0, hg0d⟩ : ∃ g0, g0 = w.heap.size := ⟨_, rfl⟩
  obtain ⟨g1, hg1d⟩ : ∃ g1, g1 = w.heap.size + 1 := ⟨_, rfl⟩
  rw [← hg1d] at hb1 ⊢
  rw [← hg0d] at hb0 ⊢
  have hM2 := hM.gr hg0
  have HS0 := Lib.hid hs0
  have HG0 := Lib.hid hg0d
  have HG1 := Lib.hid hg1d
  clear hs0 hg0d hg1d
  go_upto_region 2 with (go_at_call 26; (with_reducible refine (hspl _ hM2).mono ?_); rintro e w3 ⟨rfl, rfl⟩)
  have hb2 := heap_alloc_new w2 (.cells (P.map fun q => Value.string (bsl q)).toArray 9)
  have hg2 := (Gr.refl w2).alloc (.cells (P.map fun q => Value.string (bsl q)).toArray 9)
  obtain ⟨w3, hw3⟩ : ∃ w3, w3 = w2.alloc (.cells (P.map fun q => Value.string (bsl q)).toArray 9) := ⟨_, rfl⟩
  obtain ⟨g2, hg2d⟩ : ∃ g2, g2 = w2.heap.size := ⟨_, rfl⟩
  rw [← hw3] at hb2 hg2 ⊢
  rw [← hg2d] at hb2 ⊢
  have hs0 := HS0.out
  have hg0d := HG0.out
  have hg1d := HG1.out
  have hW : WSt w w3 g0 g1 g2 L lk z P := ⟨hg0.trans hg2, ⟨by rw [hg2.blk hb0, HC.out], hL⟩, hg2.blk hb1, hb2, by omega, by omega, by omega, by omega, by omega⟩
  clear hw3 hb0 hb1 hb2 hg0 hg2 hs0 hspl hg0d hg1d hg2d hM2 HS0 HG0 HG1
  go_loopw [18] (fun iv wr => ∃ (k : Nat) (L1 : Txs), iv = .int .i64 (k : Int) ∧ k ≤ P.length ∧ withR L (P.take k) = some L1 ∧ WSt w wr g0 g1 g2 L1 lk z P) (fun iv _ => P.length - (intOf iv).toNat)
  case atStart => exact ⟨0, L, rfl, Nat.zero_le _, by simp [withR], hW⟩
  case round =>
    clear hW
    obtain ⟨k, L1, rfl, hk, hw1, hW⟩ := hrel
    by_cases hlt : k < P.length
    · have hki : (k : Int) < (P.length : Int) := by omega
      have hk0 : (0 : Int) ≤ (k : Int) := by omega
      obtain ⟨q, hq⟩ : ∃ q, P[k]? = some q := ⟨_, List.getElem?_eq_getElem hlt⟩
      have hql := hPs q (List.mem_of_getElem? hq)
      have hc : wr.cell? ⟨g2, k, none⟩ = some (.string (bsl q)) := cell_of_row hW.pcs k _ (by simp [hq])
      by_cases hq0 : q = []
      · subst hq0
        have he : (bsl ([] : List UInt8)).toList.isEmpty = true := bslE
        have hw2 := withR_take hw1 hq (show defR L1 [] = some L1 by simp [defR])
        have HW2 := Lib.hid hw2
        clear hw1 hw2 hq
        go_wp2_with fail
        go_roundw
        case rel => exact ⟨k + 1, L1, by go_num, by omega, HW2.out, hW⟩
        case measure => simp [intOf]; omega
      · have he : (bsl q).toList.isEmpty = false := bslN hq0
        have hcl := cutV_len q
        have hcut := fun W (hg : Gr wr W) => cut_any q W (by omega) (hM.gr (hW.gr.trans hg))
        obtain ⟨n, kb, hkv, hkb, hkn⟩ := keyV_form (cutV q).1
        have hkey := fun W => key_any (cutV q).1 W (by omega)
        rw [hkv] at hkey
        obtain ⟨t, e, hfr, hte⟩ := fromR_form (cutV q).2.1
        have hfrom := fun W => fromHex_any (cutV q).2.1 W (by omega)
        rw [hfr] at hfrom
        have hbad := defR_none (L := L1) hq0 (n := n) hkb hte
        have hgood := defR_some (L := L1) hq0 (n := n) hkb hkn hte
        have hte2 : e = 0 ∨ e = 3 := by rcases hte with ⟨h, _⟩ | ⟨h, _⟩ <;> simp [h]
        have htl : True := trivial
        obtain ⟨A, hA⟩ : ∃ A, A = bsl (cutV q).1 := ⟨_, rfl⟩
        obtain ⟨B, hB⟩ : ∃ B, B = bsl (cutV q).2.1 := ⟨_, rfl⟩
        obtain ⟨c, hcd⟩ : ∃ c, c = (cutV q).2.2 := ⟨_, rfl⟩
        rw [← hA, ← hB, ← hcd] at hcut
        rw [← hA] at hkey
        rw [← hB] at hfrom
        rw [← hcd] at hbad hgood
        have HBAD := Lib.hid hbad
        have HGOOD := Lib.hid hgood
        have HW := Lib.hid hW
        have HW1 := Lib.hid hw1
        have HQ := Lib.hid hq
        have HHC := Lib.hid hcut
        clear hbad hgood hA hB hcd hfr hte hkv hkb hkn hcl hw1 hq hcut hW
        by_cases hall : c = true ∧ kb = true ∧ e = 0
        · obtain ⟨rfl, rfl, rfl⟩ := hall
          obtain ⟨hdef, hkn⟩ := HGOOD.out rfl rfl rfl
          obtain ⟨hn1, hn2⟩ := isK_in hkn
          obtain ⟨i, rfl⟩ : ∃ i, n = 17 + i := ⟨n - 17, by omega⟩
          have hi18 : i < 18 := by omega
          rw [show 17 + i - 17 = i by omega] at hdef
          have hdef2 := withR_take HW1.out HQ.out hdef
          have HDEF := Lib.hid hdef2
          have e1 : ((17 + i : Nat) : Int) = 17 + (i : Int) := by omega
          rw [e1] at hkey
          have e2 : IntKind.i64.wrap (17 + (i : Int) - 17) = (i : Int) := by rw [IntWalk.i64_in _ (by omega)]; omega
          have e3 : (i : Int) < 18 := by omega
          have e4 : (0 : Int) ≤ (i : Int) := by omega
          have e5 : (17 : Int) + (i : Int) - 17 = (i : Int) := by omega
          clear hdef hdef2 e1 hkn hn1 hn2 hte2
          go_wp2_with (first
            | (go_at_call 27; (with_reducible refine (HHC.out _ (Gr.refl _)).mono ?_); rintro e w4 ⟨rfl, hg4⟩)
            | (go_at_call 28; (with_reducible refine (hkey _).mono ?_); rintro e w5 ⟨rfl, rfl⟩)
            | (go_at_call 29; (with_reducible refine (hfrom _).mono ?_); rintro e w6 ⟨rfl, hg6⟩
               have hg46 := hg4.trans hg6
               have hW6 := (HW.out.step hg46)
               obtain ⟨so, hso⟩ : ∃ so, L1[i]? = some so := ⟨_, List.getElem?_eq_getElem (by rw [hW6.keys.len]; exact hi18)⟩
               have hcw := hW6.keys.cell hso
               have hfz := hW6.keys.frozen i
               have HW6 := Lib.hid hW6
               clear hW6 hso))
          go_roundw
          case rel => exact ⟨k + 1, _, by go_num, by omega, HDEF.out, HW6.out.set hi18 t⟩
          case measure => simp [intOf]; omega
        · have hnone : withR L P = none := withR_bad HW1.out HQ.out (HBAD.out (by
            rcases c with _ | _
            · exact .inl rfl
            · rcases kb with _ | _
              · exact .inr (.inl rfl)
              · exact .inr (.inr fun he => hall ⟨rfl, rfl, he⟩)))
          have HN := Lib.hid hnone
          have hl1 := kcs_len HW.out.keys.len lk
          have hone := kcs_one L1 lk
          obtain ⟨cs1, hcs1⟩ : ∃ cs1, cs1 = kcs L1 lk := ⟨_, rfl⟩
          rw [← hcs1] at hl1 hone
          have HC1 := Lib.hid hcs1
          clear hcs1 hnone
          rcases c with _ | _
          · clear hall hte2
            go_wp2_with (first
            | (go_at_call 27; (with_reducible refine (HHC.out _ (Gr.refl _)).mono ?_); rintro e w4 ⟨rfl, hg4⟩)
            | (go_at_call 28; (with_reducible refine (hkey _).mono ?_); rintro e w5 ⟨rfl, rfl⟩)
            | (go_at_call 29; (with_reducible refine (hfrom _).mono ?_); rintro e w6 ⟨rfl, hg6⟩
               have hg46 := hg4.trans hg6
               have hW6 := (HW.out.step hg46)
               have hr := hW6.keys.range
               have hz1 := hW6.zero
               rw [← HC1.out] at hr
               have HW6 := Lib.hid hW6
               clear hW6)
            | (refine wpList_load_whole rfl 43 _ rfl g0 0 rfl cs1.toArray _ hr Tryd.underlying43 rfl (by rw [keys_size, hl1]) ?_)
            | (refine wpList_store_part rfl _ _ _ rfl g1 0 cs1.toArray rfl rfl _ z _ hz1 (by simp [hl1, hz19]) (by rw [keys_size]; simp [hl1]) hone (setL_all (by simp [hl1, hz19])) ?_; intro w7 hb7 hu7 hs7))
            refine bodyPost_ret (results_cell_tmp rfl _ w7 g1 43 cs1.toArray (0, 0) _ rfl hb7 Tryd.underlying43 rfl (by rw [keys_size]; simp [hl1])) rfl ?_
            refine ⟨L1, ?_, HW.out.keys.len, fun L2 h => ?_, HW6.out.gr.upd hu7 (by simpa using HW6.out.ne.2.2.2.2)⟩
            · rw [HN.out, ← HC1.out]; rfl
            · rw [HN.out] at h; cases h
          · rcases kb with _ | _
            · clear hall hte2
              go_wp2_with (first
            | (go_at_call 27; (with_reducible refine (HHC.out _ (Gr.refl _)).mono ?_); rintro e w4 ⟨rfl, hg4⟩)
            | (go_at_call 28; (with_reducible refine (hkey _).mono ?_); rintro e w5 ⟨rfl, rfl⟩)
            | (go_at_call 29; (with_reducible refine (hfrom _).mono ?_); rintro e w6 ⟨rfl, hg6⟩
               have hg46 := hg4.trans hg6
               have hW6 := (HW.out.step hg46)
               have hr := hW6.keys.range
               have hz1 := hW6.zero
               rw [← HC1.out] at hr
               have HW6 := Lib.hid hW6
               clear hW6)
            | (refine wpList_load_whole rfl 43 _ rfl g0 0 rfl cs1.toArray _ hr Tryd.underlying43 rfl (by rw [keys_size, hl1]) ?_)
            | (refine wpList_store_part rfl _ _ _ rfl g1 0 cs1.toArray rfl rfl _ z _ hz1 (by simp [hl1, hz19]) (by rw [keys_size]; simp [hl1]) hone (setL_all (by simp [hl1, hz19])) ?_; intro w7 hb7 hu7 hs7))
              refine bodyPost_ret (results_cell_tmp rfl _ w7 g1 43 cs1.toArray (0, 0) _ rfl hb7 Tryd.underlying43 rfl (by rw [keys_size]; simp [hl1])) rfl ?_
              refine ⟨L1, ?_, HW.out.keys.len, fun L2 h => ?_, HW6.out.gr.upd hu7 (by simpa using HW6.out.ne.2.2.2.2)⟩
              · rw [HN.out, ← HC1.out]; rfl
              · rw [HN.out] at h; cases h
            · have he3 : e = 3 := by
                rcases hte2 with h | h
                · exact absurd ⟨rfl, rfl, h⟩ hall
                · exact h
              subst he3
              clear hall hte2
              go_wp2_with (first
            | (go_at_call 27; (with_reducible refine (HHC.out _ (Gr.refl _)).mono ?_); rintro e w4 ⟨rfl, hg4⟩)
            | (go_at_call 28; (with_reducible refine (hkey _).mono ?_); rintro e w5 ⟨rfl, rfl⟩)
            | (go_at_call 29; (with_reducible refine (hfrom _).mono ?_); rintro e w6 ⟨rfl, hg6⟩
               have hg46 := hg4.trans hg6
               have hW6 := (HW.out.step hg46)
               have hr := hW6.keys.range
               have hz1 := hW6.zero
               rw [← HC1.out] at hr
               have HW6 := Lib.hid hW6
               clear hW6)
            | (refine wpList_load_whole rfl 43 _ rfl g0 0 rfl cs1.toArray _ hr Tryd.underlying43 rfl (by rw [keys_size, hl1]) ?_)
            | (refine wpList_store_part rfl _ _ _ rfl g1 0 cs1.toArray rfl rfl _ z _ hz1 (by simp [hl1, hz19]) (by rw [keys_size]; simp [hl1]) hone (setL_all (by simp [hl1, hz19])) ?_; intro w7 hb7 hu7 hs7))
              refine bodyPost_ret (results_cell_tmp rfl _ w7 g1 43 cs1.toArray (0, 0) _ rfl hb7 Tryd.underlying43 rfl (by rw [keys_size]; simp [hl1])) rfl ?_
              refine ⟨L1, ?_, HW.out.keys.len, fun L2 h => ?_, HW6.out.gr.upd hu7 (by simpa using HW6.out.ne.2.2.2.2)⟩
              · rw [HN.out, ← HC1.out]; rfl
              · rw [HN.out] at h; cases h
    · have hkP : k = P.length := by omega
      have hki : ¬ (k : Int) < (P.length : Int) := by omega
      rw [hkP, List.take_length] at hw1
      have hr := hW.keys.range
      have hl1 := kcs_len hW.keys.len lk
      have hone := kcs_one L1 lk
      have hz1 := hW.zero
      obtain ⟨cs1, hcs1⟩ : ∃ cs1, cs1 = kcs L1 lk := ⟨_, rfl⟩
      rw [← hcs1] at hr hl1 hone
      have HC1 := Lib.hid hcs1
      have HW := Lib.hid hW
      have HK := Lib.hid hkP
      have HW1 := Lib.hid hw1
      clear hcs1 hW hkP hw1 hlt
      go_wp2_with (first
        | (refine wpList_load_whole rfl 43 _ rfl g0 0 rfl cs1.toArray _ hr Tryd.underlying43 rfl (by rw [keys_size, hl1]) ?_)
        | (refine wpList_store_part rfl _ _ _ rfl g1 0 cs1.toArray rfl rfl _ z _ hz1 (by simp [hl1, hz19]) (by rw [keys_size]; simp [hl1]) hone (setL_all (by simp [hl1, hz19])) ?_; intro w7 hb7 hu7 hs7))
      refine bodyPost_ret (results_cell_tmp rfl _ w7 g1 43 cs1.toArray (0, 0) _ rfl hb7 Tryd.underlying43 rfl (by rw [keys_size]; simp [hl1])) rfl ?_
      refine ⟨L1, ?_, HW.out.keys.len, fun L2 h => ?_, HW.out.gr.upd hu7 (by simpa using HW.out.ne.2.2.2.2)⟩
      · rw [HW1.out, ← HC1.out]; rfl
      · rw [HW1.out] at h; injection h
end Go.Proofs.YtonbnmicgmnliaaDoor
