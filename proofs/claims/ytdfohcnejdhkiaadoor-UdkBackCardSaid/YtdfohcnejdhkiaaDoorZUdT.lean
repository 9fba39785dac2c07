/-
  Keys with texts: the law UdkPlays, walked.
-/
import Derived.DeepKeys
import Derived.RegionTactic
import Derived.Test.YtdfohcnejdhkiaaDoorZOrd
import Derived.Test.YtdfohcnejdhkiaaDoorZUdP
import Derived.Test.YtdfohcnejdhkiaaDoorZUdJ
import Derived.Test.YtdfohcnejdhkiaaDoorZOrd7
import Derived.Test.YtdfohcnejdhkiaaDoorZSs
namespace Go.Proofs.YtdfohcnejdhkiaaDoor
set_option linter.unusedSimpArgs false
set_option linter.unusedVariables false
open Go.ChangeShapes Go.WideShapes Go.Deep Go.RowKit
set_option linter.unusedVariables false

/-- What the fields of an act hold. -/
def actU : Nat → Value → Prop
  | 0, v => ∃ z, v = .int .i64 z
  | 1, v => ∃ b, v = .bool b
  | 2, v => ∃ b, v = .bool b
  | 3, v => ∃ s : ByteArray, v = .string s ∧ s.size ≤ maxLen
  | _, _ => True
set_option maxRecDepth 100000 in
theorem open_acts {H : Type} {enc : TypeId × Value → H} {w : World} {base b0 : Nat} {spare : Nat → Bool} {held : Bool} {r : Reach} {v : Value} {d : DataW H} {p : List MemPlace}
    (hv : Value.okWide Tryd.prog w r b0 32 v) (h : DataW.Trod enc Tryd.prog w base spare held 32 v d p) :
    ∃ (a : Option Addr) (len cap : Nat), v = .slice a len cap ∧ IsStructs w a len 4 actU := by
  obtain ⟨a, len, cap, rfl⟩ := okWide_slice Tryd.underlying32 hv
  obtain ⟨fuel, hf⟩ := h
  refine ⟨a, len, cap, rfl, ?_⟩
  refine open_structs Tryd.underlying32 Tryd.underlying41 (by kernel_rfl) (by kernel_rfl) (by decide) actU ?_ (a := a) (len := len) (cap := cap) (by simp [Value.cells]) hf
  intro j f v n y hj ht
  match j, hj with
  | 0, hj => injection hj with hj; subst hj; obtain ⟨z, e, hw⟩ := field_int Tryd.underlying3 ht; exact ⟨z, e⟩
  | 1, hj => injection hj with hj; subst hj; exact field_bool Tryd.underlying4 ht
  | 2, hj => injection hj with hj; subst hj; exact field_bool Tryd.underlying4 ht
  | 3, hj => injection hj with hj; subst hj; exact field_string Tryd.underlying9 ht
  | _ + 4, hj => simp at hj
/-- An act of a row that came in. -/
theorem act_at {w : World} {a : Option Addr} {n : Nat} (h : IsStructs w a n 4 actU) {i : Nat} (hi : i < n) : ∃ (b off : Nat) (kind : Int) (cl lo : Bool) (data : List UInt8), a = some ⟨b, off, none⟩ ∧ b < w.heap.size ∧ data.length ≤ 9223372036854775807 ∧
    w.rangeAt b (off + i * 4) [.int .i64 kind, .bool cl, .bool lo, .string (bsl data)] := by
  rcases h.2 with h0 | ⟨b, off, ha, hb, hc⟩
  · omega
  · obtain ⟨v0, x0, ⟨z, rfl⟩⟩ := hc i 0 hi (by omega)
    obtain ⟨v1, x1, ⟨cl, rfl⟩⟩ := hc i 1 hi (by omega)
    obtain ⟨v2, x2, ⟨lo, rfl⟩⟩ := hc i 2 hi (by omega)
    obtain ⟨v3, x3, ⟨s, rfl, hs⟩⟩ := hc i 3 hi (by omega)
    refine ⟨b, off, z, cl, lo, s.data.toList, ha, hb, ?_, fun j u hj => ?_⟩
    · have : s.data.toList.length = s.size := by rw [Array.length_toList]; rfl
      rw [this]; unfold maxLen at hs; exact hs
    · rw [Nat.add_assoc]
      rw [← bsl_of s] at hj
      rcases j with _ | _ | _ | _ | j <;> simp at hj
      all_goals (subst hj; assumption)
theorem dfnR_used {L : Txs} {lk clear lock : Bool} {data : List UInt8} (h : usedL L ≤ 804) : usedL (dfnR L lk clear lock data).1 ≤ 804 := by
  unfold dfnR
  split
  · exact h
  · rename_i L1 h1
    split
    · exact h
    · split
      · exact h
      · rename_i h2 _
        show usedL L1 ≤ 804
        omega
theorem doP_inv {L : Txs} {lk : Bool} (kind : Int) (clear lock : Bool) (data : List UInt8) (hI : KInv L) (hu : usedL L ≤ 804) : KInv (doP L lk kind clear lock data).1 ∧ usedL (doP L lk kind clear lock data).1 ≤ 804 := by
  unfold doP
  split
  · exact ⟨hI, hu⟩
  · split
    · exact ⟨KInv.none, by rw [used_none]; omega⟩
    · exact ⟨hI.dfn, dfnR_used hu⟩
section
variable {p n0 n c k b off : Nat} {a : Option Addr} {v : Value} {lk lk' : Bool} {act : Array Value} {L L' : Txs} {W W' : World} {j : Nat} {ys : Nat → Value}
end
theorem wp_load_act {o : Oper} {a : Act} {w : World} {K : Act → World → Prop} {Q : Exit → Act → World → Prop} (x : Operand) (ho : o.op = .load 41 x) (g off : Nat) (hx : a.eval x = .pointer (some ⟨g, off, none⟩)) {cs : List Value} (hl : cs.length = 4) (hc : w.rangeAt g off cs)
    (h : K (a.put o.dst (.agg cs.toArray)) w) : o.wp Tryd.prog a w K Q :=
  wp_load_mid 41 x ho g off hx cs _ hc Tryd.underlying41 rfl (by rw [hl]; kernel_rfl) h
theorem wp_store_keys {o : Oper} {a : Act} {w : World} {K : Act → World → Prop} {Q : Exit → Act → World → Prop} (hgd : o.guard = none) (x y : Operand) (ho : o.op = .store 35 x y) (hdst : o.dst = none) (g : Nat) (v1 : Value) (l1 : Bool) (old : Array Value)
    (hx : a.eval x = .pointer (some ⟨g, 0, none⟩)) (hy : a.eval y = .agg #[v1, .bool l1]) (hg : w.heap[g]? = some (.cells old 35 (0, 0))) (hold : old.size = 2) (h1 : (#[v1, .bool l1] : Array Value).all (·.oneCell') = true)
    (h : ∀ w', w'.heap[g]? = some (.cells #[v1, .bool l1] 35 (0, 0)) → Upd [g] w w' → K (a.put o.dst undef) w') : o.wp Tryd.prog a w K Q := by
  refine wp_store_mid 35 x y ho g 0 #[v1, .bool l1] hx hy (fun j hj => ?_) rkeys_size h1 ?_
  · refine ⟨?_, by simp [World.frozen?, hg]⟩
    have : 0 + j < old.size := by rw [hold]; simpa using hj
    simp [World.cell?, hg]
    omega
  · obtain ⟨k1, k2, k3⟩ := setCells_blk (t := 35) [v1, .bool l1] 0 w old hg
    have e : setL old 0 [v1, .bool l1] = #[v1, .bool l1] := setL_all (by simp [hold])
    rw [e] at k1
    exact h _ k1 k2
/-- Between the acts. -/
structure PSt (w wr : World) (p b6 : Nat) (v : Value) (L : Txs) (lk : Bool) : Prop where
  gr : Gr w wr
  k : KAt wr p L lk
  b : wr.heap[b6]? = some (.cells #[v, .bool lk] 35 (0, 0))
  dl : DL wr v (docL L)
  inv : KInv L
  used : usedL L ≤ 804
  ne : p ≠ b6 ∧ w.heap.size ≤ p ∧ w.heap.size ≤ b6
end Go.Proofs.YtdfohcnejdhkiaaDoor
