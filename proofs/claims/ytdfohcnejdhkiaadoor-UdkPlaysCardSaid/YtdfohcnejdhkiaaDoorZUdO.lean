/-
  Keys with texts: Ids of the program.
-/
import Derived.Test.YtdfohcnejdhkiaaDoorZUdN
namespace Go.Proofs.YtdfohcnejdhkiaaDoor
set_option linter.unusedSimpArgs false
set_option linter.unusedVariables false
open Go.RowKit
set_option linter.unusedVariables false

def ncs (l : Ds) : List Value := l.map fun p => .int .i64 p.1
theorem int_infoK : (Tryd.prog.info? 3).map (fun i => (i.zero, i.size, i.bytes)) = some (some (.int .i64 0), 1, 8) := by kernel_rfl
theorem docGo_app : ∀ (k : Nat) (a b : Txs), docGo k (a ++ b) = docGo k a ++ docGo (k + a.length) b
  | _, [], _ => by simp [docGo]
  | k, s :: a, b => by
    show (if s = [] then docGo (k + 1) (a ++ b) else (k, s) :: docGo (k + 1) (a ++ b)) = (if s = [] then docGo (k + 1) a else (k, s) :: docGo (k + 1) a) ++ docGo (k + (s :: a).length) b
    rw [docGo_app (k + 1) a b, show k + 1 + a.length = k + (s :: a).length by simp; omega]
    split <;> simp
theorem doc_take {L : Txs} {k : Nat} {s : List UInt8} (h : L[k]? = some s) : docL (L.take (k + 1)) = docL (L.take k) ++ (if s = [] then [] else [(17 + k, s)]) := by
  have hk := (List.getElem?_eq_some_iff.1 h).1
  unfold docL
  rw [List.take_add_one, h, Option.toList_some, docGo_app, List.length_take, Nat.min_eq_left (by omega)]
  rfl
theorem run_index_txt (cs : Array Value) (k : Nat) (v : Value) (hk : k < 18) (hx : cs[k]? = some v) (w : World) : (Instr.index 25 (.agg cs) (.int .i64 (k : Int))).run Tryd.prog w = .ok v w := by
  have hs : (sizeOf 9).run Tryd.prog w = .ok 1 w := by kernel_rfl
  have hc : (0 : Int) ≤ (k : Int) ∧ (k : Int) < 18 := by omega
  simp [Instr.index, run_underlying Tryd.underlying25, asIntOf, hs, go_sem, hk, hx]
def IdsTo (w : World) (L : Txs) (e : Ending) (w' : World) : Prop := ∃ v, e = .returned v ∧ w'.ownsRow w.heap.size 3 1 v (docL L).length (ncs (docL L)) ∧ Gr w w'
set_option maxHeartbeats 1000000 in
set_option maxRecDepth 100000 in
theorem ids_any {p : Nat} {L : Txs} {lk : Bool} {w : World} (h : KAt w p L lk) : Calls Tryd.prog 25 #[.pointer (some ⟨p, 0, none⟩)] w (IdsTo w L) := by
  have hL := h.len
  have hrg : w.rangeAt p 0 (tcs L) := fun j v hj => by
    rw [Nat.zero_add]
    refine cell_of_row h.blk j _ ?_
    unfold kcs
    rw [List.getElem?_toArray, List.getElem?_append_left (List.getElem?_eq_some_iff.1 hj).1]
    exact hj
  have htl : (tcs L).length = 18 := by rw [tcs_len, hL]
  have htc := fun (k : Nat) (s : List UInt8) (hs : L[k]? = some s) => show (tcs L)[k]? = some (Value.string (bsl s)) by simp [tcs, hs]
  obtain ⟨cs, hcs⟩ : ∃ cs, cs = tcs L := ⟨_, rfl⟩
  rw [← hcs] at hrg htl htc
  have HTC := Lib.hid htc
  clear hcs htc h
  go_enter Tryd.func25, Tryd.ntmps25
  go_wp2_with (refine wpList_load_whole rfl 25 _ rfl p 0 rfl cs.toArray _ hrg Tryd.underlying25 rfl (by rw [texts_size, htl]) ?_)
  go_loopw [3, 10] (fun ov iv wr => ∃ (k : Nat), iv = .int .i64 (k : Int) ∧ k ≤ 18 ∧ wr.ownsRow w.heap.size 3 1 ov (docL (L.take k)).length (ncs (docL (L.take k))) ∧ Gr w wr) (fun _ iv _ => 18 - (intOf iv).toNat)
  case atStart => exact ⟨0, rfl, Nat.zero_le _, by simpa [docL, docGo, ncs] using World.ownsRow_nil w w.heap.size 3 1, .refl _⟩
  case round =>
    obtain ⟨k, rfl, hk, hrow, hgr⟩ := hrel
    by_cases hlt : k < 18
    · have hki : (k : Int) < 18 := by omega
      have hk0 : (0 : Int) ≤ (k : Int) := by omega
      obtain ⟨s, hs⟩ : ∃ s, L[k]? = some s := ⟨_, List.getElem?_eq_getElem (by omega)⟩
      have hidx := fun (W : World) => run_index_txt cs.toArray k (.string (bsl s)) hlt (by simpa using HTC.out k s hs) W
      have hdt := doc_take hs
      obtain ⟨oa, oc, rfl⟩ := row_form hrow
      by_cases hs0 : s = []
      · have he : (bsl s).toList.isEmpty = true := by rw [hs0]; exact bslE
        rw [if_pos hs0, List.append_nil] at hdt
        have HDT := Lib.hid hdt
        have HROW := Lib.hid hrow
        clear hdt hs hs0 hrow
        go_wp2_with fail
        go_roundw
        case rel => exact ⟨k + 1, by go_num, by omega, by rw [HDT.out]; exact HROW.out, hgr⟩
        case measure => simp [intOf]; omega
      · have he : (bsl s).toList.isEmpty = false := bslN hs0
        rw [if_neg hs0] at hdt
        have hlen := docGo_len 17 (L.take k)
        have hdl : (docL (L.take k)).length ≤ 18 := by unfold docL; have := List.length_take_le k L; omega
        have e1 : IntKind.i64.wrap ((k : Int) + 17) = (k : Int) + 17 := IntWalk.i64_in _ (by omega)
        have hrow2 : ∀ (W : World) (g cap : Nat), W.ownsRow w.heap.size 3 1 (.slice (some ⟨g, 0, none⟩) ((docL (L.take k)).length + 1) cap) ((docL (L.take k)).length + 1) (ncs (docL (L.take k)) ++ [.int .i64 ((k : Int) + 17)]) → W.ownsRow w.heap.size 3 1 (.slice (some ⟨g, 0, none⟩) ((docL (L.take k)).length + 1) cap) (docL (L.take (k + 1))).length (ncs (docL (L.take (k + 1)))) := by
          intro W g cap h
          rw [hdt, List.length_append, List.length_singleton, show ncs (docL (L.take k) ++ [(17 + k, s)]) = ncs (docL (L.take k)) ++ [.int .i64 ((k : Int) + 17)] by simp [ncs]; omega]
          exact h
        have HR2 := Lib.hid hrow2
        obtain ⟨o, ho⟩ : ∃ o, o = docL (L.take k) := ⟨_, rfl⟩
        rw [← ho] at hrow hdl ⊢
        have HO := Lib.hid ho
        have hbw := hrow
        clear hdt hs hs0 hrow2 hlen ho hbw
        go_wp2_with (first
          | (at_builtin; refine wpList_pushN rfl _ _ _ rfl w.heap.size 3 _ 1 8 Tryd.underlying57 int_infoK rfl (by omega) (by omega) _ _ _ [.int .i64 ((k : Int) + 17)] (ownsRow_gr hrow ((Gr.refl wr).alloc _)) _ rfl rfl (heap_alloc_new _ _) rfl (by simp [Value.oneCell']) (by omega) (Below.size (hgr.alloc _)) ?_
             intro g1 cap1 w1 hG1 hown1
             have hg1 : Gr w w1 := hG1.gr (hgr.alloc _) fun k hk => ownsRow_base hrow hk
             rw [HO.out] at hown1
             have HO1 := Lib.hid hown1
             clear hown1))
        go_roundw
        case rel => exact ⟨k + 1, by go_num, by omega, by rw [HO.out]; exact HR2.out _ _ _ HO1.out, hg1⟩
        case measure => simp [intOf]; omega
    · obtain rfl : k = 18 := by omega
      rw [List.take_of_length_le (by omega)] at hrow
      obtain ⟨oa, oc, rfl⟩ := row_form hrow
      have HROW := Lib.hid hrow
      clear hrow
      go_wp2_with fail
      go_ret
      exact ⟨_, rfl, HROW.out, hgr⟩
end Go.Proofs.YtdfohcnejdhkiaaDoor
