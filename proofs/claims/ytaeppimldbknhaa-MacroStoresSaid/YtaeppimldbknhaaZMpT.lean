/-
  Get, Ids, Sum, Same, Clear of the macros' store (gen_mpt.py).
-/
import Derived.Test.YtaeppimldbknhaaZMpS
namespace Go.Proofs.Ytaeppimldbknhaa
set_option linter.unusedSimpArgs false
set_option linter.unusedVariables false
open Go.RowKit Go.Maps Go.Sort Go.Shelf
set_option linter.unusedVariables false

set_option maxRecDepth 100000 in
set_option maxHeartbeats 4000000 in
theorem gget_map (g b n : Nat) (l : List Mac) (i : Int) (w : World) (hwf : (Lit.int .i64 i).wf = true) : Tr Try.prog 19 #[.pointer (some ⟨g, 0, none⟩), .int .i64 i] w [pt g #[.map (some b)] 35, mpH Try.prog 3 9 b n (macD l)] (fun v Q => v = .tuple #[.string (bsl ((getL l i).getD [])), .bool (getL l i).isSome] ∧ Q = [pt g #[.map (some b)] 35, mpH Try.prog 3 9 b n (macD l)]) := by
  refine Tr.of fun U hs0 => ?_
  refine calls_sx (n := 19) (args := [.pointer (some ⟨g, 0, none⟩), .int .i64 i]) Try.func19 rfl rfl rfl ?_
  refine CW.seq ?_
  refine CW.region ?_
  refine SL.v (.string ⟨#[]⟩) ?_
  refine SL.v (.bool false) ?_
  refine SL.nil ?_
  refine CW.seq ?_
  refine CW.region ?_
  refine SL.v (.pointer (some ⟨g, 0, none⟩)) ?_
  refine SL.v (.pointer (some ⟨g, 0, none⟩)) ?_
  refine SL.v (.pointer (some ⟨g, 0, none⟩)) ?_
  refine SL.load (g := g) (off := 0) (v := .map (some b)) rfl rfl rfl (by kernel_rfl) (hs0.pt_at (i := 0) rfl) (by kernel_rfl) ?_
  refine SL.v (.int .i64 i) ?_
  refine SL.mpLookM (i := 1) (b := b) (c := n) (M := l) (z := i) hs0 rfl rfl rfl rfl rfl (by kernel_rfl) rfl hwf ?_
  refine SL.v (.tuple #[.string (bsl ((getL l i).getD [])), .bool ((getL l i).isSome)]) ?_
  refine SL.v (.string (bsl ((getL l i).getD []))) ?_
  refine SL.v (.bool ((getL l i).isSome)) ?_
  refine SL.v (.string (bsl ((getL l i).getD []))) ?_
  refine SL.v (.bool ((getL l i).isSome)) ?_
  refine SL.nil ?_
  refine CW.seq ?_
  refine CW.region ?_
  refine SL.v (.string (bsl ((getL l i).getD []))) ?_
  refine SL.v (.bool ((getL l i).isSome)) ?_
  refine SL.v (.string (bsl ((getL l i).getD []))) ?_
  refine SL.v (.bool ((getL l i).isSome)) ?_
  refine SL.nil ?_
  refine CW.ret ?_
  repeat with_reducible first | refine PThen.ret ?_ | refine PBlock.ret ?_
  refine PRet.tmp2 (t := 4) (u := 5) (v := .string (bsl ((getL l i).getD []))) (v' := .bool ((getL l i).isSome)) rfl rfl rfl (by kernel_rfl) (by kernel_rfl) ?_
  exact ⟨_, _, rfl, ⟨rfl, rfl⟩, hs0.pick [0, 0] rfl⟩
set_option maxRecDepth 100000 in
set_option maxHeartbeats 4000000 in
theorem gget_nil (g : Nat) (i : Int) (w : World) (hwf : (Lit.int .i64 i).wf = true) : Tr Try.prog 19 #[.pointer (some ⟨g, 0, none⟩), .int .i64 i] w [pt g #[.map none] 35] (fun v Q => v = .tuple #[.string (bsl []), .bool false] ∧ Q = [pt g #[.map none] 35]) := by
  refine Tr.of fun U hs0 => ?_
  refine calls_sx (n := 19) (args := [.pointer (some ⟨g, 0, none⟩), .int .i64 i]) Try.func19 rfl rfl rfl ?_
  refine CW.seq ?_
  refine CW.region ?_
  refine SL.v (.string ⟨#[]⟩) ?_
  refine SL.v (.bool false) ?_
  refine SL.nil ?_
  refine CW.seq ?_
  refine CW.region ?_
  refine SL.v (.pointer (some ⟨g, 0, none⟩)) ?_
  refine SL.v (.pointer (some ⟨g, 0, none⟩)) ?_
  refine SL.v (.pointer (some ⟨g, 0, none⟩)) ?_
  refine SL.load (g := g) (off := 0) (v := .map none) rfl rfl rfl (by kernel_rfl) (hs0.pt_at (i := 0) rfl) (by kernel_rfl) ?_
  refine SL.v (.int .i64 i) ?_
  refine SL.mpLookNil (z := i) rfl rfl rfl rfl rfl (by kernel_rfl) hwf ?_
  refine SL.v (.tuple #[.string (bsl ([] : List UInt8)), .bool false]) ?_
  refine SL.v (.string (bsl ([] : List UInt8))) ?_
  refine SL.v (.bool false) ?_
  refine SL.v (.string (bsl ([] : List UInt8))) ?_
  refine SL.v (.bool false) ?_
  refine SL.nil ?_
  refine CW.seq ?_
  refine CW.region ?_
  refine SL.v (.string (bsl ([] : List UInt8))) ?_
  refine SL.v (.bool false) ?_
  refine SL.v (.string (bsl ([] : List UInt8))) ?_
  refine SL.v (.bool false) ?_
  refine SL.nil ?_
  refine CW.ret ?_
  repeat with_reducible first | refine PThen.ret ?_ | refine PBlock.ret ?_
  refine PRet.tmp2 (t := 4) (u := 5) (v := .string (bsl ([] : List UInt8))) (v' := .bool false) rfl rfl rfl (by kernel_rfl) (by kernel_rfl) ?_
  exact ⟨_, _, rfl, ⟨rfl, rfl⟩, hs0.pick [0] rfl⟩
theorem get_o (g : Nat) (ob : Option Nat) (n : Nat) (l : List Mac) (i : Int) (w : World) (hwf : (Lit.int .i64 i).wf = true) : Tr Try.prog 19 #[.pointer (some ⟨g, 0, none⟩), .int .i64 i] w [pt g #[.map ob] 35, oH ob n (macD l)] (fun v Q => v = .tuple #[.string (bsl ((getL l i).getD [])), .bool (getL l i).isSome] ∧ Q = [pt g #[.map ob] 35, oH ob n (macD l)]) := by
  cases ob with
  | some b => exact gget_map g b n l i w hwf
  | none =>
    refine Tr.pureEnd (fun hp => gget_nil g i w hwf) fun hp v Q h => ?_
    obtain ⟨h1, rfl⟩ := hp
    have : l = [] := macD_inj h1
    subst this
    exact .inr ⟨h.1, by rw [h.2]; rfl⟩
theorem sorted_tr (k b n : Nat) (l : List Mac) (w : World) (hk : MacOk l) : Tr Try.prog 51 #[.func (.func 64) #[] #[.pointer (some ⟨k, 0, none⟩)]] w [pt k #[.map (some b)] 33, mpH Try.prog 3 9 b n (macD l)] (fun v Q => ∃ a c, v = .slice a l.length c ∧ Q = [rowH 3 1 a l.length c (icells (l.map (·.1))), pt k #[.map (some b)] 33, mpH Try.prog 3 9 b n (macD l)]) := fun fp hfp => by
  have hfp0 := hfp
  obtain ⟨f1, f2, rfl, ⟨rfl, hc⟩, ⟨f3, f4, rfl, ⟨rfl, hown⟩, h4, _⟩, _⟩ := hfp
  have hlen := rise_len hk
  have hsz : Maps.size (macD l) = l.length := macD_size l
  have hseq := AnyZI.keys_gives (ρ := Try.keysI_ren) { Try.keysI with } Fence.wide 2 trivial rfl (by omega) k b n (macD l) w (heap_lt hc) (cell_of_row hc 0 _ rfl) hown
  have cS := AnyZI.sorted_in Try.sortedI Fence.wide 5 trivial trivial trivial trivial rfl (by omega) (sorts_any _) (enters_of Try.func63 (by kernel_rfl) rfl) 64 #[.pointer (some ⟨k, 0, none⟩)] trivial (enters_of Try.func64 (by kernel_rfl) rfl) _ _ (by rw [hsz]; unfold maxLen; omega) (by rw [hsz]; omega) w hseq
  refine (callsIn_wide.1 cS).mono fun e w' hx => ?_
  obtain ⟨v, ss, rfl, hS, hrow, hnil, hb⟩ := hx
  rw [intKeys_mac] at hS
  have hsl : ss.length = l.length := by rw [hS.length_eq, List.length_map]
  rw [sort_mac hk.rise hS, hsl] at hrow
  have hg : Gr w w' := hb
  have hkeep := hfp0.keep _ _ w' _ (fun g hm => hg.block g (hfp0.live _ _ _ g hm))
  obtain ⟨a, c, rfl⟩ : ∃ a c, v = .slice a l.length c := by
    rcases hrow.2 with ⟨rfl, h0⟩ | ⟨g, cap, cur, rfl, _⟩
    · exact ⟨none, 0, by rw [h0]⟩
    · exact ⟨_, _, rfl⟩
  have hnew : ∀ g ∈ (Value.slice a l.length c).ownBlock.toList, w.heap.size ≤ g := by
    intro g hg'
    rcases hrow.2 with ⟨h0, _⟩ | ⟨g', cap, cur, hv, hge, _⟩
    · rw [h0] at hg'; simp [Value.ownBlock] at hg'
    · rw [hv] at hg'; simp [Value.ownBlock] at hg'; omega
  refine ⟨_, _, _ ++ _, rfl, ⟨a, c, rfl, rfl⟩, ⟨_, _, rfl, ⟨?_, rfl⟩, hkeep, fun g h1 h2 => ?_⟩, hg.updU, fun g hg' => ?_⟩
  · exact ⟨hrow.1, hrow.2.imp id fun ⟨g, cap, cur, h1, _, h3⟩ => ⟨g, cap, cur, h1, Nat.zero_le _, h3⟩⟩
  · have := hnew g h1; have := hfp0.live _ _ _ g h2; omega
  · rcases List.mem_append.1 hg' with h | h
    · exact .inr (hnew g h)
    · exact .inl h
theorem sorted_nil (k : Nat) (w : World) (hc : w.heap[k]? = some (.cells #[.map none] 33 (0, 0))) : Calls Try.prog 51 #[.func (.func 64) #[] #[.pointer (some ⟨k, 0, none⟩)]] w fun e w' => e = .returned (.slice none 0 0) ∧ Gr w w' := by
  have hseq := AnyZI.keys_gives_nil (ρ := Try.keysI_ren) { Try.keysI with } Fence.wide 2 trivial rfl k w (heap_lt hc) (cell_of_row hc 0 _ rfl)
  have cS := AnyZI.sorted_in Try.sortedI Fence.wide 5 trivial trivial trivial trivial rfl (by omega) (sorts_any _) (enters_of Try.func63 (by kernel_rfl) rfl) 64 #[.pointer (some ⟨k, 0, none⟩)] trivial (enters_of Try.func64 (by kernel_rfl) rfl) _ 0 (Nat.zero_le _) (by omega) w hseq
  refine (callsIn_wide.1 cS).mono fun e w' hx => ?_
  obtain ⟨v, ss, rfl, hS, hrow, hnil, hb⟩ := hx
  subst hS
  exact ⟨by rw [hnil.2 rfl], hb⟩
set_option maxRecDepth 100000 in
theorem ids_map (g b n : Nat) (l : List Mac) (w : World) (hk9 : MacOk l) : Tr Try.prog 36 #[.pointer (some ⟨g, 0, none⟩)] w [pt g #[.map (some b)] 35, mpH Try.prog 3 9 b n (macD l)] (fun v Q => ∃ a c, v = .slice a l.length c ∧ Q = [rowH 3 1 a l.length c (icells (l.map (·.1))), pt g #[.map (some b)] 35, mpH Try.prog 3 9 b n (macD l)]) := by
  refine Tr.of fun U hs0 => ?_
  refine calls_sx (n := 9) (args := [.pointer (some ⟨g, 0, none⟩)]) Try.func36 rfl rfl rfl ?_
  refine CW.seq ?_
  refine CW.region ?_
  refine SL.v (.slice none 0 0) ?_
  refine SL.nil ?_
  refine CW.seq ?_
  refine CW.region ?_
  refine SL.v (.pointer (some ⟨g, 0, none⟩)) ?_
  refine SL.v (.pointer (some ⟨g, 0, none⟩)) ?_
  refine SL.v (.pointer (some ⟨g, 0, none⟩)) ?_
  refine SL.load (g := g) (off := 0) (v := .map (some b)) rfl rfl rfl (by kernel_rfl) (hs0.pt_at (i := 0) rfl) (by kernel_rfl) ?_
  refine SL.call (f := 52) (args := #[.map (some b)]) (w1 := w) rfl rfl (by kernel_rfl) (keys_any (some b) w) ?_
  rintro x w_2 ⟨g_1, rfl, hb_5, hge_6, hc_3⟩
  refine ⟨.func (.func 64) #[] #[.pointer (some ⟨g_1, 0, none⟩)], rfl, ?_⟩
  have hs_4 := hs0.fresh hc_3 hb_5 hge_6
  have hs_4 : SH U w w_2 [pt g #[.map (some b)] 35, mpH Try.prog 3 9 b n (macD l), pt g_1 #[.map (some b)] 33] := hs_4
  refine SL.callH (f := 51) (args := #[.func (.func 64) #[] #[.pointer (some ⟨g_1, 0, none⟩)]]) (Pre := [pt g_1 #[.map (some b)] 33, mpH Try.prog 3 9 b n (macD l)]) (Rest := [pt g #[.map (some b)] 35]) [2, 1] hs_4 rfl rfl (by kernel_rfl) rfl (sorted_tr g_1 b n l w_2 hk9) ?_
  rintro v_ Q_ w_9 ⟨a_7, c_8, rfl, rfl⟩ hs_11
  have hs_11 : SH U w w_9 [rowH 3 1 a_7 l.length c_8 (icells (l.map (·.1))), pt g_1 #[.map (some b)] 33, mpH Try.prog 3 9 b n (macD l), pt g #[.map (some b)] 35] := hs_11
  refine SL.v (.slice a_7 l.length c_8) ?_
  refine SL.nil ?_
  refine CW.ret ?_
  repeat with_reducible first | refine PThen.ret ?_ | refine PBlock.ret ?_
  refine PRet.tmp (t := 2) (v := .slice a_7 l.length c_8) rfl rfl (by kernel_rfl) ?_
  exact ⟨_, _, rfl, ⟨a_7, c_8, rfl, rfl⟩, hs_11.pick [0, 2, 1] rfl⟩
set_option maxRecDepth 100000 in
set_option maxHeartbeats 4000000 in
theorem ids_nil (g : Nat) (w : World) : Tr Try.prog 36 #[.pointer (some ⟨g, 0, none⟩)] w [pt g #[.map none] 35] (fun v Q => v = .slice none 0 0 ∧ Q = [pt g #[.map none] 35]) := by
  refine Tr.of fun U hs0 => ?_
  refine calls_sx (n := 9) (args := [.pointer (some ⟨g, 0, none⟩)]) Try.func36 rfl rfl rfl ?_
  refine CW.seq ?_
  refine CW.region ?_
  refine SL.v (.slice none 0 0) ?_
  refine SL.nil ?_
  refine CW.seq ?_
  refine CW.region ?_
  refine SL.v (.pointer (some ⟨g, 0, none⟩)) ?_
  refine SL.v (.pointer (some ⟨g, 0, none⟩)) ?_
  refine SL.v (.pointer (some ⟨g, 0, none⟩)) ?_
  refine SL.load (g := g) (off := 0) (v := .map none) rfl rfl rfl (by kernel_rfl) (hs0.pt_at (i := 0) rfl) (by kernel_rfl) ?_
  refine SL.call (f := 52) (args := #[.map none]) (w1 := w) rfl rfl (by kernel_rfl) (keys_any none w) ?_
  rintro x w_2 ⟨g_1, rfl, hb_5, hge_6, hc_3⟩
  refine ⟨.func (.func 64) #[] #[.pointer (some ⟨g_1, 0, none⟩)], rfl, ?_⟩
  have hs_4 := hs0.fresh hc_3 hb_5 hge_6
  have hs_4 : SH U w w_2 [pt g #[.map none] 35, pt g_1 #[.map none] 33] := hs_4
  refine SL.call (f := 51) (args := #[.func (.func 64) #[] #[.pointer (some ⟨g_1, 0, none⟩)]]) (w1 := w_2) rfl rfl (by kernel_rfl) (sorted_nil g_1 w_2 ((hs_4.pt_at (i := 1) rfl))) ?_
  rintro x w_7 ⟨rfl, hc_8⟩
  refine ⟨.slice none 0 0, rfl, ?_⟩
  have hs_9 := hs_4.grow hc_8
  refine SL.v (.slice none 0 0) ?_
  refine SL.nil ?_
  refine CW.ret ?_
  repeat with_reducible first | refine PThen.ret ?_ | refine PBlock.ret ?_
  refine PRet.tmp (t := 2) (v := .slice none 0 0) rfl rfl (by kernel_rfl) ?_
  exact ⟨_, _, rfl, ⟨rfl, rfl⟩, hs_9.pick [0] rfl⟩
theorem ids_o (g : Nat) (ob : Option Nat) (n : Nat) (l : List Mac) (w : World) (hk9 : MacOk l) : Tr Try.prog 36 #[.pointer (some ⟨g, 0, none⟩)] w [pt g #[.map ob] 35, oH ob n (macD l)] (fun v Q => ∃ a c, v = .slice a l.length c ∧ Q = [rowH 3 1 a l.length c (icells (l.map (·.1))), pt g #[.map ob] 35, oH ob n (macD l)]) := by
  cases ob with
  | some b => exact ids_map g b n l w hk9
  | none =>
    intro fp hfp
    obtain ⟨hp, h1⟩ := hfp.pureEnd
    have hl : l = [] := macD_inj hp.1
    subst hl
    refine (ids_nil g w fp h1).mono fun e w' hx => ?_
    obtain ⟨v, Q, fp', rfl, ⟨rfl, rfl⟩, hq, hu, hf⟩ := hx
    exact ⟨_, _, fp', rfl, ⟨none, 0, rfl, rfl⟩, ⟨[], fp', rfl, ⟨World.ownsRow_nil w' 0 3 1, rfl⟩, hq.addPure hp, by simp⟩, hu, hf⟩
set_option maxRecDepth 100000 in
set_option maxHeartbeats 4000000 in
theorem sum_map (g b n : Nat) (l : List Mac) (w : World) (hOk9 : MapOk (macD l)) : Tr Try.prog 38 #[.pointer (some ⟨g, 0, none⟩)] w [pt g #[.map (some b)] 35, mpH Try.prog 3 9 b n (macD l)] (fun v Q => v = .int .i64 ((sumL l % 65536 : Nat) : Int) ∧ Q = [pt g #[.map (some b)] 35, mpH Try.prog 3 9 b n (macD l)]) := by
  refine Tr.of fun U hs0 => ?_
  refine calls_sx (n := 30) (args := [.pointer (some ⟨g, 0, none⟩)]) Try.func38 rfl rfl rfl ?_
  refine CW.seq ?_
  refine CW.region ?_
  refine SL.v (.int .i64 0) ?_
  refine SL.nil ?_
  refine CW.seq ?_
  refine CW.region ?_
  refine SL.v (.int .u16 0) ?_
  refine SL.nil ?_
  refine CW.seq ?_
  refine CW.seq ?_
  refine CW.region ?_
  refine SL.v (.pointer (some ⟨g, 0, none⟩)) ?_
  refine SL.v (.pointer (some ⟨g, 0, none⟩)) ?_
  refine SL.v (.pointer (some ⟨g, 0, none⟩)) ?_
  refine SL.load (g := g) (off := 0) (v := .map (some b)) rfl rfl rfl (by kernel_rfl) (hs0.pt_at (i := 0) rfl) (by kernel_rfl) ?_
  refine SL.mpRange (L' := []) (i := 1) (b := b) (c := n) (D := macD l) keyI hs0 rfl rfl rfl rfl (by kernel_rfl) rfl (fun r_1 w_2 hs_3 => ?_)
  have hs_3 : SH U w w_2 [pt g #[.map (some b)] 35, rgH Try.prog 3 9 b r_1 n (macD l) (Maps.has (macD l)) (Maps.size (macD l))] := hs_3
  refine SL.nil ?_
  refine CW.block ?_
  refine CW.loopI (fun m_ e9 w9 => ∃ (cnt : Nat), ∃ (left : Lit → Bool), ∃ (t : Nat), m_ = cnt ∧ SH U w w9 [pt g #[.map (some b)] 35, rgH Try.prog 3 9 b r_1 n (macD l) left cnt] ∧ ((t + sumLeft (macD l) left) % 65536 = sumL l % 65536) ∧ (t < 65536) ∧ e9 2 = .int .i64 0 ∧ e9 3 = .int .u16 ((t : Nat) : Int) ∧ e9 11 = .pointer (some ⟨r_1, 0, none⟩)) ⟨_, _, _, 0, rfl, hs_3, (by rw [sumLeft_first]; omega), (by omega), (by kernel_rfl), (by kernel_rfl), (by kernel_rfl)⟩ ?_
  rintro m_4 e_5 w_6 ⟨cnt, left, t, hm_8, hs_7, ht, ht6, hv_9, hv_10, hv_11⟩
  obtain ⟨e_12, rfl⟩ : ∃ e_12, e_5 = put1 (put1 (put1 e_12 2 (.int .i64 0)) 3 (.int .u16 ((t : Nat) : Int))) 11 (.pointer (some ⟨r_1, 0, none⟩)) := ⟨e_5, (put_self hv_11).trans (congrArg (fun z => put1 z 11 (.pointer (some ⟨r_1, 0, none⟩))) ((put_self hv_10).trans (congrArg (fun z => put1 z 3 (.int .u16 ((t : Nat) : Int))) (put_self hv_9))))⟩
  clear hv_9 hv_10 hv_11
  refine CW.seq ?_
  refine CW.region ?_
  refine SL.mpNextS (i := 1) (b := b) (r := r_1) (c := n) (cnt := cnt) (D := macD l) (left := left) keyI (Try.underlying3) (Try.underlying9) hs_7 rfl rfl rfl (by kernel_rfl) rfl ?_ ?_
  · intro hc_13 hl_14
    refine SL.v (.bool false) ?_
    refine SL.nil ?_
    refine CW.seq ?_
    refine CW.cond_false (by kernel_rfl) ?_
    refine CW.exit ?_
    repeat with_reducible first | refine PThen.exit ?_ | refine PBlock.out rfl ?_
    with_reducible refine PBlock.here ?_
    repeat with_reducible refine PBlock.normal ?_
    refine CW.seq ?_
    refine CW.region ?_
    refine SL.v (.int .u16 ((t : Nat) : Int)) ?_
    refine SL.val (v := .int .i64 ((t : Nat) : Int)) (w' := w_6) rfl rfl (by have hw : IntKind.i64.wrap (((t : Nat) : Int)) = ((t : Nat) : Int) := IntWalk.i64_in _ (by omega); exact run_eqv (by kernel_rfl) (congrArg (fun z => Value.int .i64 z) hw)) ?_
    refine SL.v (.int .i64 ((t : Nat) : Int)) ?_
    refine SL.nil ?_
    refine CW.ret ?_
    repeat with_reducible first | refine PThen.ret ?_ | refine PBlock.ret ?_
    refine PRet.tmp (t := 2) (v := .int .i64 ((t : Nat) : Int)) rfl rfl (by kernel_rfl) ?_
    have h0_ := sumLeft_last hOk9 hl_14
    have ht_ : t = sumL l % 65536 := by omega
    have hs9 := hs_7.mpDone (i := 1) rfl
    rw [ht_]
    exact ⟨_, _, rfl, ⟨rfl, rfl⟩, hs9⟩
  · intro x_15 s_16 kl_17 w_18 cnt_19 hkey_20 hlk_21 hat_22 hsz_23 hlt_24 hs_25 hen_26
    have hs_25 : SH U w w_18 [pt g #[.map (some b)] 35, rgH Try.prog 3 9 b r_1 n (macD l) (fun z => left z && !z.sameKey kl_17) cnt_19] := hs_25
    obtain ⟨t_27, rfl⟩ : ∃ t, s_16 = bsl t := ⟨_, bsl_of s_16⟩
    have hst_ := hOk9.sumStep hlk_21 hat_22
    have htl_ : t_27.length ≤ maxLen := by rw [← bsl_size]; exact hsz_23
    unfold maxLen at htl_
    refine SL.v (.bool true) ?_
    refine SL.nil ?_
    refine CW.seq ?_
    refine CW.cond_true (by kernel_rfl) ?_
    refine CW.skip ?_
    refine CW.block ?_
    refine CW.seq ?_
    refine CW.region ?_
    refine SL.val (v := .tuple #[.int .i64 x_15, .string (bsl t_27)]) (w' := w_18) rfl rfl (run_entry rfl (by kernel_rfl) hen_26) ?_
    refine SL.v (.string (bsl t_27)) ?_
    refine SL.v (.string (bsl t_27)) ?_
    refine SL.nil ?_
    refine CW.seq ?_
    refine CW.region ?_
    refine SL.v (.string (bsl t_27)) ?_
    refine SL.val (v := .int .i64 ((t_27.length : Nat) : Int)) (w' := w_18) rfl rfl (run_slen rfl (by kernel_rfl) (by kernel_rfl) (bsl_size _)) ?_
    refine SL.v (.int .i64 0) ?_
    refine SL.nil ?_
    refine CW.block ?_
    refine CW.loopI (fun m_ e9 w9 => ∃ (j : Nat), ∃ (u : Nat), m_ = t_27.length - j ∧ SH U w w9 [pt g #[.map (some b)] 35, rgH Try.prog 3 9 b r_1 n (macD l) (fun z => left z && !z.sameKey kl_17) cnt_19] ∧ (j ≤ t_27.length) ∧ ((u = (t + sumB (t_27.take j)) % 65536)) ∧ e9 2 = .int .i64 0 ∧ e9 3 = .int .u16 ((u : Nat) : Int) ∧ e9 5 = .string (bsl t_27) ∧ e9 11 = .pointer (some ⟨r_1, 0, none⟩) ∧ e9 13 = .bool true ∧ e9 17 = .int .i64 ((t_27.length : Nat) : Int) ∧ e9 18 = .int .i64 ((j : Nat) : Int)) ⟨_, 0, t, rfl, hs_25, (Nat.zero_le _), (by rw [show sumB (t_27.take 0) = 0 from rfl]; omega), (by kernel_rfl), (by kernel_rfl), (by kernel_rfl), (by kernel_rfl), (by kernel_rfl), (by kernel_rfl), (by kernel_rfl)⟩ ?_
    rintro m_28 e_29 w_30 ⟨j, u, hm_32, hs_31, hj, hu, hv_33, hv_34, hv_35, hv_36, hv_37, hv_38, hv_39⟩
    obtain ⟨e_40, rfl⟩ : ∃ e_40, e_29 = put1 (put1 (put1 (put1 (put1 (put1 (put1 e_40 2 (.int .i64 0)) 3 (.int .u16 ((u : Nat) : Int))) 5 (.string (bsl t_27))) 11 (.pointer (some ⟨r_1, 0, none⟩))) 13 (.bool true)) 17 (.int .i64 ((t_27.length : Nat) : Int))) 18 (.int .i64 ((j : Nat) : Int)) := ⟨e_29, (put_self hv_39).trans (congrArg (fun z => put1 z 18 (.int .i64 ((j : Nat) : Int))) ((put_self hv_38).trans (congrArg (fun z => put1 z 17 (.int .i64 ((t_27.length : Nat) : Int))) ((put_self hv_37).trans (congrArg (fun z => put1 z 13 (.bool true)) ((put_self hv_36).trans (congrArg (fun z => put1 z 11 (.pointer (some ⟨r_1, 0, none⟩))) ((put_self hv_35).trans (congrArg (fun z => put1 z 5 (.string (bsl t_27))) ((put_self hv_34).trans (congrArg (fun z => put1 z 3 (.int .u16 ((u : Nat) : Int))) (put_self hv_33))))))))))))⟩
    clear hv_33 hv_34 hv_35 hv_36 hv_37 hv_38 hv_39
    have hv_ : j < t_27.length → sumB (t_27.take (j + 1)) = sumB (t_27.take j) + (t_27.getD j 0).toNat := sumB_take
    have hb_ : (t_27.getD j 0).toNat < 256 := UInt8.toNat_lt _
    refine CW.seq ?_
    refine CW.region ?_
    refine SL.v (.bool (decide (((j : Nat) : Int) < ((t_27.length : Nat) : Int)))) ?_
    refine SL.nil ?_
    refine CW.seq ?_
    rcases Bool.eq_false_or_eq_true (decide (((j : Nat) : Int) < ((t_27.length : Nat) : Int))) with hb_41 | hb_41
    · try rw [hb_41]
      have hqhb_41 := of_decide_eq_true hb_41
      refine CW.cond_true (by kernel_rfl) ?_
      refine CW.skip ?_
      refine CW.seq ?_
      refine CW.block ?_
      refine CW.seq ?_
      refine CW.region ?_
      refine SL.v (.int .i64 ((j : Nat) : Int)) ?_
      refine SL.v (.int .i64 ((j : Nat) : Int)) ?_
      refine SL.nil ?_
      refine CW.region ?_
      refine SL.v (.int .u16 ((u : Nat) : Int)) ?_
      refine SL.v (.string (bsl t_27)) ?_
      refine SL.v (.int .i64 ((j : Nat) : Int)) ?_
      refine SL.val (v := .int .u8 (((t_27.getD j 0).toNat : Nat) : Int)) (w' := w_30) rfl rfl (run_sidxB (q := .i64) (J := ((j : Nat) : Int)) (l := t_27) (i := j) rfl (by kernel_rfl) (by kernel_rfl) rfl (by kernel_rfl) (by omega)) ?_
      refine SL.val (v := .int .u16 (((t_27.getD j 0).toNat : Nat) : Int)) (w' := w_30) rfl rfl (by have hw : IntKind.u16.wrap ((((t_27.getD j 0).toNat : Nat) : Int)) = (((t_27.getD j 0).toNat : Nat) : Int) := wrap_u16 (by omega) (by omega); exact run_eqv (by kernel_rfl) (congrArg (fun z => Value.int .u16 z) hw)) ?_
      refine SL.val (v := .int .u16 (((u + (t_27.getD j 0).toNat) % 65536 : Nat) : Int)) (w' := w_30) rfl rfl (run_eqv (by kernel_rfl) (congrArg (Value.int .u16) (show IntKind.u16.wrap (((u : Nat) : Int) + (((t_27.getD j 0).toNat : Nat) : Int)) = (((u + (t_27.getD j 0).toNat) % 65536 : Nat) : Int) from wrap16 _ _))) ?_
      refine SL.v (.int .u16 (((u + (t_27.getD j 0).toNat) % 65536 : Nat) : Int)) ?_
      refine SL.nil ?_
      refine CW.region ?_
      refine SL.val (v := .int .i64 ((j + 1 : Nat) : Int)) (w' := w_30) rfl rfl (by have hw : IntKind.i64.wrap (((j : Nat) : Int) + 1) = ((j + 1 : Nat) : Int) := (IntWalk.i64_in _ (by omega)).trans (by omega); exact run_eqv (by kernel_rfl) (congrArg (fun z => Value.int .i64 z) hw)) ?_
      refine SL.v (.int .i64 ((j + 1 : Nat) : Int)) ?_
      refine SL.nil ?_
      exact ⟨_, ⟨j + 1, (u + (t_27.getD j 0).toNat) % 65536, rfl, hs_31, (by omega), (by rw [hv_ (by omega)]; omega), (by kernel_rfl), (by kernel_rfl), (by kernel_rfl), (by kernel_rfl), (by kernel_rfl), (by kernel_rfl), (by kernel_rfl)⟩, by omega⟩
    · try rw [hb_41]
      have hqhb_41 := of_decide_eq_false hb_41
      refine CW.cond_false (by kernel_rfl) ?_
      refine CW.exit ?_
      repeat with_reducible first | refine PThen.exit ?_ | refine PBlock.out rfl ?_
      with_reducible refine PBlock.here ?_
      repeat with_reducible refine PBlock.normal ?_
      exact ⟨_, ⟨cnt_19, _, u, rfl, hs_31, (by have := sumB_all (t := t_27) (j := j) (by omega); omega), (by omega), (by kernel_rfl), (by kernel_rfl), (by kernel_rfl)⟩, by omega⟩
set_option maxRecDepth 100000 in
set_option maxHeartbeats 4000000 in
theorem sum_nil (g : Nat) (w : World) : Tr Try.prog 38 #[.pointer (some ⟨g, 0, none⟩)] w [pt g #[.map none] 35] (fun v Q => v = .int .i64 0 ∧ Q = [pt g #[.map none] 35]) := by
  refine Tr.of fun U hs0 => ?_
  refine calls_sx (n := 30) (args := [.pointer (some ⟨g, 0, none⟩)]) Try.func38 rfl rfl rfl ?_
  refine CW.seq ?_
  refine CW.region ?_
  refine SL.v (.int .i64 0) ?_
  refine SL.nil ?_
  refine CW.seq ?_
  refine CW.region ?_
  refine SL.v (.int .u16 0) ?_
  refine SL.nil ?_
  refine CW.seq ?_
  refine CW.seq ?_
  refine CW.region ?_
  refine SL.v (.pointer (some ⟨g, 0, none⟩)) ?_
  refine SL.v (.pointer (some ⟨g, 0, none⟩)) ?_
  refine SL.v (.pointer (some ⟨g, 0, none⟩)) ?_
  refine SL.load (g := g) (off := 0) (v := .map none) rfl rfl rfl (by kernel_rfl) (hs0.pt_at (i := 0) rfl) (by kernel_rfl) ?_
  refine SL.mpRangeNil (k := 3) (el := 9) hs0 rfl rfl rfl rfl (by kernel_rfl) (fun r_1 w_2 hs_3 => ?_)
  have hs_3 : SH U w w_2 [pt g #[.map none] 35, inH r_1] := hs_3
  refine SL.nil ?_
  refine CW.block ?_
  refine CW.loopN 1 ?_
  refine CR.more ?_
  refine CW.seq ?_
  refine CW.region ?_
  refine SL.mpNextNil (i := 1) hs_3 rfl rfl rfl (by kernel_rfl) rfl ?_
  refine SL.v (.bool false) ?_
  refine SL.nil ?_
  refine CW.seq ?_
  refine CW.cond_false (by kernel_rfl) ?_
  refine CW.exit ?_
  repeat with_reducible first | refine PThen.exit ?_ | refine PBlock.out rfl ?_
  with_reducible refine PBlock.here ?_
  repeat with_reducible refine PBlock.normal ?_
  refine CW.seq ?_
  refine CW.region ?_
  refine SL.v (.int .u16 0) ?_
  refine SL.v (.int .i64 0) ?_
  refine SL.v (.int .i64 0) ?_
  refine SL.nil ?_
  refine CW.ret ?_
  repeat with_reducible first | refine PThen.ret ?_ | refine PBlock.ret ?_
  refine PRet.tmp (t := 2) (v := .int .i64 0) rfl rfl (by kernel_rfl) ?_
  exact ⟨_, _, rfl, ⟨rfl, rfl⟩, hs_3.pick [0] rfl⟩
theorem sum_o (g : Nat) (ob : Option Nat) (n : Nat) (l : List Mac) (w : World) (hk9 : MacOk l) : Tr Try.prog 38 #[.pointer (some ⟨g, 0, none⟩)] w [pt g #[.map ob] 35, oH ob n (macD l)] (fun v Q => v = .int .i64 ((sumL l % 65536 : Nat) : Int) ∧ Q = [pt g #[.map ob] 35, oH ob n (macD l)]) := by
  have hOk : MapOk (macD l) := ⟨⟨_, rfl, by rw [List.pairwise_map]; exact hk9.rise.imp fun {a b} hab e => by simp [macE] at e; omega, fun p hp => by obtain ⟨q, _, rfl⟩ := List.mem_map.1 hp; exact keyI64 _⟩⟩
  cases ob with
  | some b => exact sum_map g b n l w hOk
  | none =>
    refine Tr.pureEnd (fun hp => sum_nil g w) fun hp v Q h => ?_
    obtain ⟨h1, rfl⟩ := hp
    have : l = [] := macD_inj h1
    subst this
    exact .inr ⟨h.1, by rw [h.2]; rfl⟩
end Go.Proofs.Ytaeppimldbknhaa
