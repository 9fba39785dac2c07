/-
 The numbers of a text, read by the program (gen_stn.py).
-/
import Derived.Test.YtfkecgkfcldffaaGreatDoorZHf
import Derived.Test.YtfkecgkfcldffaaGreatDoorZPaN
import Derived.Test.YtfkecgkfcldffaaGreatDoorZPbK
import Derived.Test.YtfkecgkfcldffaaGreatDoorZStI
namespace Go.Proofs.YtfkecgkfcldffaaGreatDoor
set_option linter.unusedSimpArgs false
set_option linter.unusedVariables false
open Go.RowKit
set_option linter.unusedVariables false

/-- What was taken of a text: the pieces of it. -/
def accP (p : Nat) (s : PS) (a : Option Addr) (c : Nat) : List HA := [pt p #[.slice a (s.done).length c, iv (s.now), .bool s.begun] 143, rowH 3 1 a (s.done).length c (icells (s.done))]
set_option maxRecDepth 100000 in
set_option maxHeartbeats 4000000 in
theorem byte_more (p cc : Nat) (a : Option Addr) (d : List Int) (now : Int) (bg : Bool) (c : Int) (w : World) (hn : 0 ≤ now ∧ now ≤ 65535) (hc : 0 ≤ c ∧ c < 256) (h1 : (c == 59) = true) (h2 : d.length < 30) :
  Tr Tryz.prog 84 #[pv p 0, .int .u8 c] w [pt p #[.slice a (d).length cc, iv (now), .bool bg] 143, rowH 3 1 a (d).length cc (icells (d))] (fun v Q => ∃ a_ c_, v = .bool true ∧ Q = [pt p #[.slice a_ (d ++ [now]).length c_, iv (0), .bool true] 143, rowH 3 1 a_ (d ++ [now]).length c_ (icells (d ++ [now]))]) := by
 refine Tr.of fun U hs0 => ?_
 refine calls_sx (n := 53) (args := [pv p 0, .int .u8 c]) Tryz.func84 rfl rfl rfl ?_
 refine CW.seq ?_
 refine CW.region ?_
 refine SL.v (.bool false) ?_
 refine SL.nil ?_
 refine CW.seq ?_
 refine CW.block ?_
 refine CW.seq ?_
 refine CW.region ?_
 refine SL.v (.int .u8 c) ?_
 refine SL.v (.bool (c == 59)) ?_
 refine SL.v (.bool (c == 59)) ?_
 refine SL.nil ?_
 have hb_1 : (c == 59) = true := h1
 rw [hb_1]
 refine CW.cond_true (by kernel_rfl) ?_
 refine CW.seq ?_
 refine CW.seq ?_
 refine CW.region ?_
 refine SL.v (pv p 0) ?_
 refine SL.v (pv p 0) ?_
 refine SL.v (pv p 0) ?_
 refine SL.load (g := p) (off := 0) (v := .slice a ((d).length) cc) rfl rfl rfl (by kernel_rfl) (hs0.pt_at (i := 0) rfl) (by kernel_rfl) ?_
 refine SL.val (v := iv (((d).length : Nat) : Int)) (w' := w) rfl rfl (by kernel_rfl) ?_
 refine SL.v (.bool (decide ((((d).length : Nat) : Int) < 30))) ?_
 refine SL.nil ?_
 have hb_2 : (decide ((((d).length : Nat) : Int) < 30)) = true := (decide_eq_true (by omega))
 rw [hb_2]
 have hqhb_2 := of_decide_eq_true hb_2
 refine CW.cond_true (by kernel_rfl) ?_
 obtain ⟨fj_3, hpj_4, hfr_5⟩ := hs0.frame (Pre := [rowH 3 1 a (d).length cc (icells d)]) (Rest := [pt p #[.slice a ((d).length) cc, iv now, .bool bg] 143]) [1] rfl
 have HGR : GrL [fun v _ => v = pv p 0, fun v _ => v = pv p 0, fun v _ => v = pv p 0, fun v _ => v = pv p 0, fun v _ => v = .slice a ((d).length) cc, fun v _ => v = pv p 0, fun v _ => v = pv p 0, fun v _ => v = pv p 1, fun v _ => v = iv now, NewB w (fun g => sv g 0 1 1) (.cells #[iv now] 3 (0, 0)), LeftJ fj_3 w (fun v Q => ∃ a_ c_, v = .slice a_ (d ++ [now]).length c_ ∧ Q = [rowH 3 1 a_ (d ++ [now]).length c_ (icells (d ++ [now]))])] := ⟨fun _ _ _ _ h => h, ⟨fun _ _ _ _ h => h, ⟨fun _ _ _ _ h => h, ⟨fun _ _ _ _ h => h, ⟨fun _ _ _ _ h => h, ⟨fun _ _ _ _ h => h, ⟨fun _ _ _ _ h => h, ⟨fun _ _ _ _ h => h, ⟨fun _ _ _ _ h => h, ⟨fun _ _ _ hg h => NewB.gr hg h, ⟨fun _ _ _ hg h => LeftJ.gr h hg, trivial⟩⟩⟩⟩⟩⟩⟩⟩⟩⟩⟩
 have HUP : UpdLJ fj_3 10 0 [fun v _ => v = pv p 0, fun v _ => v = pv p 0, fun v _ => v = pv p 0, fun v _ => v = pv p 0, fun v _ => v = .slice a ((d).length) cc, fun v _ => v = pv p 0, fun v _ => v = pv p 0, fun v _ => v = pv p 1, fun v _ => v = iv now, NewB w (fun g => sv g 0 1 1) (.cells #[iv now] 3 (0, 0)), LeftJ fj_3 w (fun v Q => ∃ a_ c_, v = .slice a_ (d ++ [now]).length c_ ∧ Q = [rowH 3 1 a_ (d ++ [now]).length c_ (icells (d ++ [now]))])] := ⟨.inr fun _ _ _ _ h => h, ⟨.inr fun _ _ _ _ h => h, ⟨.inr fun _ _ _ _ h => h, ⟨.inr fun _ _ _ _ h => h, ⟨.inr fun _ _ _ _ h => h, ⟨.inr fun _ _ _ _ h => h, ⟨.inr fun _ _ _ _ h => h, ⟨.inr fun _ _ _ _ h => h, ⟨.inr fun _ _ _ _ h => h, ⟨.inr fun _ _ _ hu h => NewB.upd (hpj_4.live) hu h, ⟨.inl rfl, trivial⟩⟩⟩⟩⟩⟩⟩⟩⟩⟩⟩
 refine CW.drawG 11 (FW [fun v _ => v = pv p 0, fun v _ => v = pv p 0, fun v _ => v = pv p 0, fun v _ => v = pv p 0, fun v _ => v = .slice a ((d).length) cc, fun v _ => v = pv p 0, fun v _ => v = pv p 0, fun v _ => v = pv p 1, fun v _ => v = iv now, NewB w (fun g => sv g 0 1 1) (.cells #[iv now] 3 (0, 0)), LeftJ fj_3 w (fun v Q => ∃ a_ c_, v = .slice a_ (d ++ [now]).length c_ ∧ Q = [rowH 3 1 a_ (d ++ [now]).length c_ (icells (d ++ [now]))])]) (BaseJ 10 fj_3 w) (by kernel_rfl) (by kernel_rfl) (by kernel_rfl) (by kernel_rfl) (by kernel_rfl) BaseJ.init ?_ ?_
 ·refine ⟨?_, ⟨?_, ⟨?_, ⟨?_, ⟨?_, ⟨?_, ⟨?_, ⟨?_, ⟨?_, ⟨?_, ⟨?_, trivial⟩⟩⟩⟩⟩⟩⟩⟩⟩⟩⟩
  ·intro L ys W hC hn hB hF hP K hK
   show OpE _ _ _ W K
   exact OpE.val (pv p 0) W (by kernel_rfl) (hK _ W (hB.step (Gr.refl W)) rfl (fun _ _ h => h))
  ·intro L ys W hC hn hB hF hP K hK
   show OpE _ _ _ W K
   exact OpE.val (pv p 0) W (by kernel_rfl) (hK _ W (hB.step (Gr.refl W)) rfl (fun _ _ h => h))
  ·intro L ys W hC hn hB hF hP K hK
   show OpE _ _ _ W K
   exact OpE.known (j := 1) (v := pv p 0) (hF 1 (hP.1 rfl)) (OpE.val (pv p 0) W (by kernel_rfl) (hK _ W (hB.step (Gr.refl W)) rfl (fun _ _ h => h)))
  ·intro L ys W hC hn hB hF hP K hK
   show OpE _ _ _ W K
   exact OpE.known (j := 2) (v := pv p 0) (hF 2 (hP.1 rfl)) (OpE.val (pv p 0) W (by kernel_rfl) (hK _ W (hB.step (Gr.refl W)) rfl (fun _ _ h => h)))
  ·intro L ys W hC hn hB hF hP K hK
   show OpE _ _ _ W K
   exact OpE.known (j := 3) (v := pv p 0) (hF 3 (hP.1 rfl)) (OpE.load (g := p) (off := 0) (v := .slice a ((d).length) cc) rfl (by kernel_rfl) ((hfr_5 W [] [] hB.1 rfl (by simp)).pt_at (i := 0) rfl) (by kernel_rfl) (hK _ W (hB.step (Gr.refl W)) rfl (fun _ _ h => h)))
  ·intro L ys W hC hn hB hF hP K hK
   show OpE _ _ _ W K
   exact OpE.val (pv p 0) W (by kernel_rfl) (hK _ W (hB.step (Gr.refl W)) rfl (fun _ _ h => h))
  ·intro L ys W hC hn hB hF hP K hK
   show OpE _ _ _ W K
   exact OpE.known (j := 5) (v := pv p 0) (hF 5 (hP.1 rfl)) (OpE.val (pv p 0) W (by kernel_rfl) (hK _ W (hB.step (Gr.refl W)) rfl (fun _ _ h => h)))
  ·intro L ys W hC hn hB hF hP K hK
   show OpE _ _ _ W K
   exact OpE.known (j := 6) (v := pv p 0) (hF 6 (hP.1 rfl)) (OpE.val (pv p 1) W (by kernel_rfl) (hK _ W (hB.step (Gr.refl W)) rfl (fun _ _ h => h)))
  ·intro L ys W hC hn hB hF hP K hK
   show OpE _ _ _ W K
   exact OpE.known (j := 7) (v := pv p 1) (hF 7 (hP.1 rfl)) (OpE.load (g := p) (off := 1) (v := iv now) rfl (by kernel_rfl) ((hfr_5 W [] [] hB.1 rfl (by simp)).pt_at (i := 0) rfl) (by kernel_rfl) (hK _ W (hB.step (Gr.refl W)) rfl (fun _ _ h => h)))
  ·intro L ys W hC hn hB hF hP K hK
   show OpE _ _ _ W K
   exact OpE.known (j := 8) (v := iv now) (hF 8 (hP.1 rfl)) (OpE.new (mk := fun g => sv g 0 1 1) (C := #[iv now]) (T := 3) (by kernel_rfl) (hK _ _ (hB.step ((Gr.refl W).alloc _)) ⟨W.heap.size, rfl, heap_alloc_new _ _, hB.1.size⟩ (fun _ _ h => FW.gr HGR ((Gr.refl W).alloc _) h)))
  ·intro L ys W hC hn hB hF hP K hK
   obtain ⟨gq9, hvq9, hbq9, hgq9⟩ := hF 9 (hP.2.1 rfl)
   obtain ⟨a_, c_, w_, hr_, hu_, f_, hq_, hf_⟩ := run_appRH (P := Tryz.prog) (yv := sv gq9 0 1 1) (t := 75) (tx := 75) (ty := 75) (z := iv 0) (size := 1) (bytes := 8) (m := 1) (news := [iv now]) (xs' := icells (d ++ [now])) (k' := (d ++ [now]).length) (hpj_4.keep _ _ _ _ (fun g hm => (hB.2 hn).block g (hpj_4.live _ _ _ g hm))) (by kernel_rfl) (by kernel_rfl) (by kernel_rfl) (by kernel_rfl) (by kernel_rfl) (srcH (off := 0) (cs := [iv now]) (el := 3) (by kernel_rfl) hbq9 rfl rfl (List.all_eq_true.1 (by kernel_rfl))) (by simp; omega) (icells_app d ([now])) (by simp)
   show OpE _ _ _ W K
   exact OpE.known (j := 4) (v := .slice a ((d).length) cc) (hF 4 (hP.1 rfl)) (OpE.known (j := 9) (v := sv gq9 0 1 1) hvq9 (OpE.val (.slice a_ (d ++ [now]).length c_) w_ (run_appop (v := .slice a ((d).length) cc) (yv := sv gq9 0 1 1) rfl (by kernel_rfl) (by kernel_rfl) hr_) (hK _ w_ (hB.done hu_) ⟨_, f_, ⟨a_, c_, rfl, rfl⟩, hq_, fun g hg => (hf_ g hg).imp_right (Nat.le_trans hB.1.size)⟩ (fun k hk hf => FW.updJ HUP hn hk hu_ hf))))
 ·intro ys_13 w_9 hb_10 hF_12
  obtain ⟨Q_, f_, ⟨a_6, c_7, hvj, rfl⟩, hq_, hf_⟩ := hF_12 10 (by decide)
  have hs_11 : SH U w w_9 [rowH 3 1 a_6 (d ++ [now]).length c_7 (icells (d ++ [now])), pt p #[.slice a ((d).length) cc, iv now, .bool bg] 143] := hfr_5 w_9 _ f_ hb_10.1 hq_ hf_
  refine SL.knownY (j := 0) (v := pv p 0) (show ys_13 0 = pv p 0 from hF_12 0 (by decide)) (SL.knownY (j := 10) (v := .slice a_6 ((d ++ [now]).length) c_7) (show ys_13 10 = .slice a_6 ((d ++ [now]).length) c_7 from hvj) (?_))
  clear hF_12 HGR HUP hq_ hf_ hb_10 hfr_5 hpj_4
  refine SL.v (pv p 0) ?_
  refine SL.v (pv p 0) ?_
  refine SL.storeH (i := 1) (g := p) (off := 0) (v := .slice a_6 ((d ++ [now]).length) c_7) (L' := [rowH 3 1 a_6 (d ++ [now]).length c_7 (icells (d ++ [now])), pt p #[.slice a_6 ((d ++ [now]).length) c_7, iv now, .bool bg] 143]) hs_11 rfl rfl rfl (by kernel_rfl) (by kernel_rfl) rfl (by kernel_rfl) (by kernel_rfl) rfl (by kernel_rfl) rfl (fun w_14 hs_15 => ?_)
  refine SL.nil ?_
  refine CW.region ?_
  refine SL.v (pv p 0) ?_
  refine SL.v (pv p 0) ?_
  refine SL.v (pv p 1) ?_
  refine SL.storeH (i := 1) (g := p) (off := 1) (v := iv 0) (L' := [rowH 3 1 a_6 (d ++ [now]).length c_7 (icells (d ++ [now])), pt p #[.slice a_6 ((d ++ [now]).length) c_7, iv 0, .bool bg] 143]) hs_15 rfl rfl rfl (by kernel_rfl) (by kernel_rfl) rfl (by kernel_rfl) (by kernel_rfl) rfl (by kernel_rfl) rfl (fun w_16 hs_17 => ?_)
  refine SL.nil ?_
  refine CW.seq ?_
  refine CW.region ?_
  refine SL.v (pv p 0) ?_
  refine SL.v (pv p 0) ?_
  refine SL.v (pv p 2) ?_
  refine SL.storeH (i := 1) (g := p) (off := 2) (v := .bool true) (L' := [rowH 3 1 a_6 (d ++ [now]).length c_7 (icells (d ++ [now])), pt p #[.slice a_6 ((d ++ [now]).length) c_7, iv 0, .bool true] 143]) hs_17 rfl rfl rfl (by kernel_rfl) (by kernel_rfl) rfl (by kernel_rfl) (by kernel_rfl) rfl (by kernel_rfl) rfl (fun w_18 hs_19 => ?_)
  refine SL.nil ?_
  refine CW.seq ?_
  refine CW.region ?_
  refine SL.v (.bool true) ?_
  refine SL.nil ?_
  refine CW.ret ?_
  repeat with_reducible first | refine PThen.ret ?_ | refine PBlock.ret ?_
  refine PRet.tmp (t := 4) (v := .bool true) rfl rfl (by kernel_rfl) ?_
  exact ⟨_, _, rfl, ⟨a_6, c_7, rfl, rfl⟩, hs_19.pick [1, 0] rfl⟩
set_option maxRecDepth 100000 in
set_option maxHeartbeats 4000000 in
theorem byte_full (p cc : Nat) (a : Option Addr) (d : List Int) (now : Int) (bg : Bool) (c : Int) (w : World) (hn : 0 ≤ now ∧ now ≤ 65535) (hc : 0 ≤ c ∧ c < 256) (h1 : (c == 59) = true) (h2 : ¬ d.length < 30) :
  Tr Tryz.prog 84 #[pv p 0, .int .u8 c] w [pt p #[.slice a (d).length cc, iv (now), .bool bg] 143, rowH 3 1 a (d).length cc (icells (d))] (fun v Q => ∃ a_ c_, v = .bool true ∧ Q = [pt p #[.slice a_ (d).length c_, iv (0), .bool true] 143, rowH 3 1 a_ (d).length c_ (icells (d))]) := by
 refine Tr.of fun U hs0 => ?_
 refine calls_sx (n := 53) (args := [pv p 0, .int .u8 c]) Tryz.func84 rfl rfl rfl ?_
 refine CW.seq ?_
 refine CW.region ?_
 refine SL.v (.bool false) ?_
 refine SL.nil ?_
 refine CW.seq ?_
 refine CW.block ?_
 refine CW.seq ?_
 refine CW.region ?_
 refine SL.v (.int .u8 c) ?_
 refine SL.v (.bool (c == 59)) ?_
 refine SL.v (.bool (c == 59)) ?_
 refine SL.nil ?_
 have hb_1 : (c == 59) = true := h1
 rw [hb_1]
 refine CW.cond_true (by kernel_rfl) ?_
 refine CW.seq ?_
 refine CW.seq ?_
 refine CW.region ?_
 refine SL.v (pv p 0) ?_
 refine SL.v (pv p 0) ?_
 refine SL.v (pv p 0) ?_
 refine SL.load (g := p) (off := 0) (v := .slice a ((d).length) cc) rfl rfl rfl (by kernel_rfl) (hs0.pt_at (i := 0) rfl) (by kernel_rfl) ?_
 refine SL.val (v := iv (((d).length : Nat) : Int)) (w' := w) rfl rfl (by kernel_rfl) ?_
 refine SL.v (.bool (decide ((((d).length : Nat) : Int) < 30))) ?_
 refine SL.nil ?_
 have hb_2 : (decide ((((d).length : Nat) : Int) < 30)) = false := (decide_eq_false (by omega))
 rw [hb_2]
 have hqhb_2 := of_decide_eq_false hb_2
 refine CW.cond_false (by kernel_rfl) ?_
 refine CW.skip ?_
 refine CW.region ?_
 refine SL.v (pv p 0) ?_
 refine SL.v (pv p 0) ?_
 refine SL.v (pv p 1) ?_
 refine SL.storeH (i := 0) (g := p) (off := 1) (v := iv 0) (L' := [pt p #[.slice a ((d).length) cc, iv 0, .bool bg] 143, rowH 3 1 a (d).length cc (icells d)]) hs0 rfl rfl rfl (by kernel_rfl) (by kernel_rfl) rfl (by kernel_rfl) (by kernel_rfl) rfl (by kernel_rfl) rfl (fun w_3 hs_4 => ?_)
 refine SL.nil ?_
 refine CW.seq ?_
 refine CW.region ?_
 refine SL.v (pv p 0) ?_
 refine SL.v (pv p 0) ?_
 refine SL.v (pv p 2) ?_
 refine SL.storeH (i := 0) (g := p) (off := 2) (v := .bool true) (L' := [pt p #[.slice a ((d).length) cc, iv 0, .bool true] 143, rowH 3 1 a (d).length cc (icells d)]) hs_4 rfl rfl rfl (by kernel_rfl) (by kernel_rfl) rfl (by kernel_rfl) (by kernel_rfl) rfl (by kernel_rfl) rfl (fun w_5 hs_6 => ?_)
 refine SL.nil ?_
 refine CW.seq ?_
 refine CW.region ?_
 refine SL.v (.bool true) ?_
 refine SL.nil ?_
 refine CW.ret ?_
 repeat with_reducible first | refine PThen.ret ?_ | refine PBlock.ret ?_
 refine PRet.tmp (t := 4) (v := .bool true) rfl rfl (by kernel_rfl) ?_
 exact ⟨_, _, rfl, ⟨a, cc, rfl, rfl⟩, hs_6.pick [0, 0] rfl⟩
set_option maxRecDepth 100000 in
set_option maxHeartbeats 4000000 in
theorem byte_digit (p cc : Nat) (a : Option Addr) (d : List Int) (now : Int) (bg : Bool) (c : Int) (w : World) (hn : 0 ≤ now ∧ now ≤ 65535) (hc : 0 ≤ c ∧ c < 256) (h1 : (c == 59) = false) (h2 : 48 ≤ c ∧ c ≤ 57) :
  Tr Tryz.prog 84 #[pv p 0, .int .u8 c] w [pt p #[.slice a (d).length cc, iv (now), .bool bg] 143, rowH 3 1 a (d).length cc (icells (d))] (fun v Q => ∃ a_ c_, v = .bool true ∧ Q = [pt p #[.slice a_ (d).length c_, iv (min (now * 10 + (c - 48)) 65535), .bool true] 143, rowH 3 1 a_ (d).length c_ (icells (d))]) := by
 refine Tr.of fun U hs0 => ?_
 refine calls_sx (n := 53) (args := [pv p 0, .int .u8 c]) Tryz.func84 rfl rfl rfl ?_
 refine CW.seq ?_
 refine CW.region ?_
 refine SL.v (.bool false) ?_
 refine SL.nil ?_
 refine CW.seq ?_
 refine CW.block ?_
 refine CW.seq ?_
 refine CW.region ?_
 refine SL.v (.int .u8 c) ?_
 refine SL.v (.bool (c == 59)) ?_
 refine SL.v (.bool (c == 59)) ?_
 refine SL.nil ?_
 have hb_1 : (c == 59) = false := h1
 rw [hb_1]
 refine CW.cond_false (by kernel_rfl) ?_
 refine CW.seq ?_
 refine CW.region ?_
 refine SL.v (.int .u8 c) ?_
 refine SL.v (.bool (decide (48 ≤ c))) ?_
 refine SL.v (.bool (decide (48 ≤ c))) ?_
 have hb_2 : (decide (48 ≤ c)) = true := (decide_eq_true h2.1)
 rw [hb_2]
 have hqhb_2 := of_decide_eq_true hb_2
 refine SL.go ?_
 refine SL.v (.int .u8 c) ?_
 refine SL.go ?_
 refine SL.v (.bool (decide (c ≤ 57))) ?_
 refine SL.v (.bool (decide (c ≤ 57))) ?_
 refine SL.v (.bool (decide (c ≤ 57))) ?_
 refine SL.nil ?_
 have hb_3 : (decide (c ≤ 57)) = true := (decide_eq_true h2.2)
 rw [hb_3]
 have hqhb_3 := of_decide_eq_true hb_3
 refine CW.cond_true (by kernel_rfl) ?_
 refine CW.region ?_
 refine SL.v (pv p 0) ?_
 refine SL.v (pv p 0) ?_
 refine SL.v (pv p 0) ?_
 refine SL.v (pv p 1) ?_
 refine SL.load (g := p) (off := 1) (v := iv now) rfl rfl rfl (by kernel_rfl) (hs0.pt_at (i := 0) rfl) (by kernel_rfl) ?_
 refine SL.val (v := iv (now * 10)) (w' := w) rfl rfl (by have hw : IntKind.i64.wrap (now * 10) = now * 10 := IntWalk.i64_in _ (by omega); exact run_eqv (by kernel_rfl) (congrArg (fun z => Value.int .i64 z) hw)) ?_
 refine SL.v (.int .u8 c) ?_
 refine SL.val (v := .int .u8 (c - 48)) (w' := w) rfl rfl (by have hw : IntKind.u8.wrap (c - 48) = c - 48 := wrap_u8 (by omega) (by omega); exact run_eqv (by kernel_rfl) (congrArg (fun z => Value.int .u8 z) hw)) ?_
 refine SL.val (v := iv (c - 48)) (w' := w) rfl rfl (by have hw : IntKind.i64.wrap (c - 48) = c - 48 := IntWalk.i64_in _ (by omega); exact run_eqv (by kernel_rfl) (congrArg (fun z => Value.int .i64 z) hw)) ?_
 refine SL.val (v := iv ((now * 10) + (c - 48))) (w' := w) rfl rfl (by have hw : IntKind.i64.wrap ((now * 10) + (c - 48)) = (now * 10) + (c - 48) := IntWalk.i64_in _ (by omega); exact run_eqv (by kernel_rfl) (congrArg (fun z => Value.int .i64 z) hw)) ?_
 refine SL.val (v := iv (min ((now * 10) + (c - 48)) 65535)) (w' := w) rfl rfl (run_eqv (by kernel_rfl) (congrArg (Value.int .i64) (imin ((now * 10) + (c - 48)) 65535))) ?_
 refine SL.v (pv p 0) ?_
 refine SL.v (pv p 1) ?_
 refine SL.storeH (i := 0) (g := p) (off := 1) (v := iv (min ((now * 10) + (c - 48)) 65535)) (L' := [pt p #[.slice a ((d).length) cc, iv (min ((now * 10) + (c - 48)) 65535), .bool bg] 143, rowH 3 1 a (d).length cc (icells d)]) hs0 rfl rfl rfl (by kernel_rfl) (by kernel_rfl) rfl (by kernel_rfl) (by kernel_rfl) rfl (by kernel_rfl) rfl (fun w_4 hs_5 => ?_)
 refine SL.nil ?_
 refine CW.seq ?_
 refine CW.region ?_
 refine SL.v (pv p 0) ?_
 refine SL.v (pv p 0) ?_
 refine SL.v (pv p 2) ?_
 refine SL.storeH (i := 0) (g := p) (off := 2) (v := .bool true) (L' := [pt p #[.slice a ((d).length) cc, iv (min ((now * 10) + (c - 48)) 65535), .bool true] 143, rowH 3 1 a (d).length cc (icells d)]) hs_5 rfl rfl rfl (by kernel_rfl) (by kernel_rfl) rfl (by kernel_rfl) (by kernel_rfl) rfl (by kernel_rfl) rfl (fun w_6 hs_7 => ?_)
 refine SL.nil ?_
 refine CW.seq ?_
 refine CW.region ?_
 refine SL.v (.bool true) ?_
 refine SL.nil ?_
 refine CW.ret ?_
 repeat with_reducible first | refine PThen.ret ?_ | refine PBlock.ret ?_
 refine PRet.tmp (t := 4) (v := .bool true) rfl rfl (by kernel_rfl) ?_
 exact ⟨_, _, rfl, ⟨a, cc, rfl, rfl⟩, hs_7.pick [0, 0] rfl⟩
set_option maxRecDepth 100000 in
set_option maxHeartbeats 4000000 in
theorem byte_lt (p cc : Nat) (a : Option Addr) (d : List Int) (now : Int) (bg : Bool) (c : Int) (w : World) (hn : 0 ≤ now ∧ now ≤ 65535) (hc : 0 ≤ c ∧ c < 256) (h1 : (c == 59) = false) (h2 : c < 48) :
  Tr Tryz.prog 84 #[pv p 0, .int .u8 c] w [pt p #[.slice a (d).length cc, iv (now), .bool bg] 143, rowH 3 1 a (d).length cc (icells (d))] (fun v Q => ∃ a_ c_, v = .bool false ∧ Q = [pt p #[.slice a_ (d).length c_, iv (now), .bool bg] 143, rowH 3 1 a_ (d).length c_ (icells (d))]) := by
 refine Tr.of fun U hs0 => ?_
 refine calls_sx (n := 53) (args := [pv p 0, .int .u8 c]) Tryz.func84 rfl rfl rfl ?_
 refine CW.seq ?_
 refine CW.region ?_
 refine SL.v (.bool false) ?_
 refine SL.nil ?_
 refine CW.seq ?_
 refine CW.block ?_
 refine CW.seq ?_
 refine CW.region ?_
 refine SL.v (.int .u8 c) ?_
 refine SL.v (.bool (c == 59)) ?_
 refine SL.v (.bool (c == 59)) ?_
 refine SL.nil ?_
 have hb_1 : (c == 59) = false := h1
 rw [hb_1]
 refine CW.cond_false (by kernel_rfl) ?_
 refine CW.seq ?_
 refine CW.region ?_
 refine SL.v (.int .u8 c) ?_
 refine SL.v (.bool (decide (48 ≤ c))) ?_
 refine SL.v (.bool (decide (48 ≤ c))) ?_
 have hb_2 : (decide (48 ≤ c)) = false := (decide_eq_false (by omega))
 rw [hb_2]
 have hqhb_2 := of_decide_eq_false hb_2
 refine SL.no false ?_
 refine SL.no false ?_
 refine SL.v (.bool false) ?_
 refine SL.v (.bool false) ?_
 refine SL.nil ?_
 refine CW.cond_false (by kernel_rfl) ?_
 refine CW.seq ?_
 refine CW.region ?_
 refine SL.v (.bool false) ?_
 refine SL.nil ?_
 refine CW.ret ?_
 repeat with_reducible first | refine PThen.ret ?_ | refine PBlock.ret ?_
 refine PRet.tmp (t := 4) (v := .bool false) rfl rfl (by kernel_rfl) ?_
 exact ⟨_, _, rfl, ⟨a, cc, rfl, rfl⟩, hs0.pick [0, 0] rfl⟩
set_option maxRecDepth 100000 in
set_option maxHeartbeats 4000000 in
theorem byte_gt (p cc : Nat) (a : Option Addr) (d : List Int) (now : Int) (bg : Bool) (c : Int) (w : World) (hn : 0 ≤ now ∧ now ≤ 65535) (hc : 0 ≤ c ∧ c < 256) (h1 : (c == 59) = false) (h2 : 57 < c) :
  Tr Tryz.prog 84 #[pv p 0, .int .u8 c] w [pt p #[.slice a (d).length cc, iv (now), .bool bg] 143, rowH 3 1 a (d).length cc (icells (d))] (fun v Q => ∃ a_ c_, v = .bool false ∧ Q = [pt p #[.slice a_ (d).length c_, iv (now), .bool bg] 143, rowH 3 1 a_ (d).length c_ (icells (d))]) := by
 refine Tr.of fun U hs0 => ?_
 refine calls_sx (n := 53) (args := [pv p 0, .int .u8 c]) Tryz.func84 rfl rfl rfl ?_
 refine CW.seq ?_
 refine CW.region ?_
 refine SL.v (.bool false) ?_
 refine SL.nil ?_
 refine CW.seq ?_
 refine CW.block ?_
 refine CW.seq ?_
 refine CW.region ?_
 refine SL.v (.int .u8 c) ?_
 refine SL.v (.bool (c == 59)) ?_
 refine SL.v (.bool (c == 59)) ?_
 refine SL.nil ?_
 have hb_1 : (c == 59) = false := h1
 rw [hb_1]
 refine CW.cond_false (by kernel_rfl) ?_
 refine CW.seq ?_
 refine CW.region ?_
 refine SL.v (.int .u8 c) ?_
 refine SL.v (.bool (decide (48 ≤ c))) ?_
 refine SL.v (.bool (decide (48 ≤ c))) ?_
 have hb_2 : (decide (48 ≤ c)) = true := (decide_eq_true (by omega))
 rw [hb_2]
 have hqhb_2 := of_decide_eq_true hb_2
 refine SL.go ?_
 refine SL.v (.int .u8 c) ?_
 refine SL.go ?_
 refine SL.v (.bool (decide (c ≤ 57))) ?_
 refine SL.v (.bool (decide (c ≤ 57))) ?_
 refine SL.v (.bool (decide (c ≤ 57))) ?_
 refine SL.nil ?_
 have hb_3 : (decide (c ≤ 57)) = false := (decide_eq_false (by omega))
 rw [hb_3]
 have hqhb_3 := of_decide_eq_false hb_3
 refine CW.cond_false (by kernel_rfl) ?_
 refine CW.seq ?_
 refine CW.region ?_
 refine SL.v (.bool false) ?_
 refine SL.nil ?_
 refine CW.ret ?_
 repeat with_reducible first | refine PThen.ret ?_ | refine PBlock.ret ?_
 refine PRet.tmp (t := 4) (v := .bool false) rfl rfl (by kernel_rfl) ?_
 exact ⟨_, _, rfl, ⟨a, cc, rfl, rfl⟩, hs0.pick [0, 0] rfl⟩
def accStep (s : PS) (c : Int) : PS := if isAcc c = true then accByte s c else s
theorem byte_any (p cc : Nat) (a : Option Addr) (s : PS) (c : Int) (w : World) (hn : 0 ≤ s.now ∧ s.now ≤ 65535) (hc : 0 ≤ c ∧ c < 256) :
  Tr Tryz.prog 84 #[pv p 0, .int .u8 c] w (accP p s a cc) (fun v Q => ∃ a_ c_, v = .bool (isAcc c) ∧ Q = accP p (accStep s c) a_ c_) := by
 unfold accP
 cases h1 : (c == 59) with
 | true =>
  have e1 : c = 59 := by simpa using h1
  have e2 : isAcc c = true := by subst e1; decide
  have e3 : accStep s c = { s with done := if s.done.length < 30 then s.done ++ [s.now] else s.done, now := 0, begun := true } := by unfold accStep accByte; rw [if_pos e2, if_pos e1]
  rw [e2, e3]
  by_cases h2 : s.done.length < 30
  ·simp only [if_pos h2]; exact byte_more p cc a s.done s.now s.begun c w hn hc h1 h2
  ·simp only [if_neg h2]; exact byte_full p cc a s.done s.now s.begun c w hn hc h1 h2
 | false =>
  have e1 : ¬ c = 59 := by simpa using h1
  by_cases h2 : 48 ≤ c ∧ c ≤ 57
  ·have e2 : isAcc c = true := by unfold isAcc; simp [h2]
   have e3 : accStep s c = { s with now := min (s.now * 10 + (c - 48)) 65535, begun := true } := by unfold accStep accByte; rw [if_pos e2, if_neg e1]
   rw [e2, e3]
   exact byte_digit p cc a s.done s.now s.begun c w hn hc h1 h2
  ·have e2 : isAcc c = false := by unfold isAcc; simp [e1]; omega
   have e3 : accStep s c = s := by unfold accStep; rw [if_neg (by rw [e2]; decide)]
   rw [e2, e3]
   rcases Int.lt_or_le c 48 with h3 | h3
   ·exact byte_lt p cc a s.done s.now s.begun c w hn hc h1 h3
   ·exact byte_gt p cc a s.done s.now s.begun c w hn hc h1 (by omega)
theorem HSt.one {A : HA} {w : World} {fp : List Nat} (h : HSt [A] w fp) : A.at_ w fp := by
 obtain ⟨f1, f2, rfl, h1, h2, _⟩ := h
 have : f2 = [] := h2
 subst this
 rw [List.append_nil]; exact h1
theorem HSt.mk1 {A : HA} {w : World} {fp : List Nat} (h : A.at_ w fp) : HSt [A] w fp := ⟨fp, [], by simp, h, rfl, by simp⟩
theorem own_new {w' : World} {B n : Nat} {v : Value} {T size : Nat} {xs : List Value} (h : w'.ownsRow B T size v n xs) : ∃ a c, v = .slice a n c ∧ HSt [rowH T size a n c xs] w' v.ownBlock.toList ∧ ∀ g ∈ v.ownBlock.toList, B ≤ g := by
 obtain ⟨h1, ⟨rfl, rfl⟩ | ⟨g, cap, cur, rfl, h3, h4⟩⟩ := h
 ·exact ⟨none, 0, rfl, HSt.mk1 ⟨⟨h1, .inl ⟨rfl, rfl⟩⟩, rfl⟩, by simp [Value.ownBlock]⟩
 ·exact ⟨_, cap, rfl, HSt.mk1 ⟨⟨h1, .inr ⟨g, cap, cur, rfl, Nat.zero_le _, h4⟩⟩, rfl⟩, by simp [Value.ownBlock]; exact h3⟩
theorem clone_tr (a : Option Addr) (n c : Nat) (l : List Int) (w : World) (hn : n ≤ 100000) : Tr Tryz.prog 106 #[.slice a n c] w [rowH 3 1 a n c (icells l)] (fun v Q => ∃ a_ c_, v = .slice a_ n c_ ∧ Q = [rowH 3 1 a n c (icells l), rowH 3 1 a_ n c_ (icells l)]) := fun fp hfp => by
 have h1 := hfp.one
 refine (clone_ints 0 n _ l w h1.1 hn).mono fun e w' hx => ?_
 obtain ⟨v', rfl, hown, hg⟩ := hx
 obtain ⟨a', c', rfl, hst, hB⟩ := own_new hown
 refine ⟨_, _, fp ++ _, rfl, ⟨a', c', rfl, rfl⟩, (hfp.keep _ _ _ _ fun g hm => hg.block g (hfp.live _ _ _ g hm)).app hst fun g hm hm' => ?_, hg.updU, fun g hm => ?_⟩
 ·have := hfp.live _ _ _ g hm; have := hB g hm'; omega
 ·rcases List.mem_append.1 hm with hm | hm
  ·exact .inl hm
  ·exact .inr (hB g hm)
theorem clip_tr (a : Option Addr) (n c : Nat) (l : List Int) (w : World) : Tr Tryz.prog 107 #[.slice a n c] w [rowH 3 1 a n c (icells l)] (fun v Q => ∃ a_ c_, v = .slice a_ n c_ ∧ Q = [rdH 3 a_ n c_ (icells l)]) := fun fp hfp => by
 have h1 := hfp.one
 have hlen : (icells l).length = n := by simpa using h1.1.1
 refine (clip_ints 0 n _ _ w h1.1).mono fun e w' hx => ?_
 obtain ⟨v', rfl, hr, hk, rfl⟩ := hx
 obtain ⟨e1, ⟨e2, e3⟩ | ⟨g, cap, cur, e2, ⟨fr, hb⟩, hnc, hcs, htk⟩⟩ := hr
 ·subst e2
  have hfp0 : fp = [] := by rw [h1.2, ← hk]; rfl
  exact ⟨_, _, [], rfl, ⟨none, 0, by rw [e3], rfl⟩, HSt.mk1 ⟨hlen, .inl ⟨rfl, rfl, e3, rfl⟩⟩, Upd.refl _ _, by simp⟩
 ·subst e2
  have hfpg : fp = [g] := by rw [h1.2, ← hk]; rfl
  have hb2 : w.heap[g]? = some (.cells cur 3 (0, 0)) := by
   rcases h1.1.2 with ⟨e5, _⟩ | ⟨g', cap', cur', e5, _, h6, _⟩
   ·rw [e5] at hk; simp [Value.ownBlock] at hk
   ·rw [e5] at hk; simp [Value.ownBlock] at hk
    subst hk
    rw [h6] at hb; injection hb with hb; injection hb with hb1 _ _
    rw [← hb1]; exact h6
  have hcur : cur = ⟨icells l ++ cur.toList.drop n⟩ := by
   apply Array.ext'
   show cur.toList = icells l ++ cur.toList.drop n
   conv => rhs; rw [← htk]
   exact (List.take_append_drop _ _).symm
  refine ⟨_, _, [g], rfl, ⟨some ⟨g, 0, none⟩, cap, rfl, rfl⟩, HSt.mk1 ⟨hlen, .inr ⟨g, cur.toList.drop n, rfl, rfl, ?_, hnc⟩⟩, Upd.refl _ _, fun k hm => .inl (by rw [hfpg]; exact hm)⟩
  rw [← hcur]; exact hb2
set_option maxRecDepth 100000 in
set_option maxHeartbeats 4000000 in
theorem list_more (p cc : Nat) (a : Option Addr) (d : List Int) (now : Int) (bg : Bool) (w : World) (hd : d.length ≤ 30) (h1 : bg = true) (h2 : d.length < 30) :
  Tr Tryz.prog 85 #[pv p 0] w [pt p #[.slice a (d).length cc, iv (now), .bool bg] 143, rowH 3 1 a (d).length cc (icells (d))] (fun v Q => ∃ a_ c_, v = .slice a_ (d ++ [now]).length c_ ∧ Q = [pt p #[.slice a (d).length cc, iv (now), .bool bg] 143, rowH 3 1 a (d).length cc (icells (d))] ++ [rdH 3 a_ (d ++ [now]).length c_ (icells (d ++ [now]))]) := by
 refine Tr.of fun U hs0 => ?_
 refine calls_sx (n := 27) (args := [pv p 0]) Tryz.func85 rfl rfl rfl ?_
 refine CW.seq ?_
 refine CW.region ?_
 refine SL.v (.slice none 0 0) ?_
 refine SL.nil ?_
 refine CW.seq ?_
 refine CW.region ?_
 refine SL.v (pv p 0) ?_
 refine SL.v (pv p 0) ?_
 refine SL.v (pv p 0) ?_
 refine SL.load (g := p) (off := 0) (v := .slice a ((d).length) cc) rfl rfl rfl (by kernel_rfl) (hs0.pt_at (i := 0) rfl) (by kernel_rfl) ?_
 refine SL.callH (f := 106) (args := #[.slice a ((d).length) cc]) (Pre := [rowH 3 1 a (d).length cc (icells d)]) (Rest := [pt p #[.slice a ((d).length) cc, iv now, .bool bg] 143]) [1] hs0 rfl rfl (by kernel_rfl) rfl (clone_tr a ((d).length) cc d w (by omega)) ?_
 rintro v_ Q_ w_4 ⟨a_1, c_2, rfl, rfl⟩ hs_6
 have hs_6 : SH U w w_4 [rowH 3 1 a (d).length cc (icells d), rowH 3 1 a_1 (d).length c_2 (icells d), pt p #[.slice a ((d).length) cc, iv now, .bool bg] 143] := hs_6
 refine SL.v (.slice a_1 ((d).length) c_2) ?_
 refine SL.nil ?_
 refine CW.seq ?_
 refine CW.seq ?_
 refine CW.region ?_
 refine SL.v (pv p 0) ?_
 refine SL.v (pv p 0) ?_
 refine SL.v (pv p 2) ?_
 refine SL.load (g := p) (off := 2) (v := .bool bg) rfl rfl rfl (by kernel_rfl) (hs_6.pt_at (i := 2) rfl) (by kernel_rfl) ?_
 refine SL.v (.bool bg) ?_
 have hb_7 : (bg) = true := h1
 rw [hb_7]
 rw [hb_7] at hs_6
 refine SL.go ?_
 refine SL.v (.slice a_1 ((d).length) c_2) ?_
 refine SL.go ?_
 refine SL.val (v := iv (((d).length : Nat) : Int)) (w' := w_4) rfl rfl (by kernel_rfl) ?_
 refine SL.go ?_
 refine SL.v (.bool (decide ((((d).length : Nat) : Int) < 30))) ?_
 refine SL.v (.bool (decide ((((d).length : Nat) : Int) < 30))) ?_
 refine SL.nil ?_
 have hb_8 : (decide ((((d).length : Nat) : Int) < 30)) = true := (decide_eq_true (by omega))
 rw [hb_8]
 have hqhb_8 := of_decide_eq_true hb_8
 refine CW.cond_true (by kernel_rfl) ?_
 refine CW.region ?_
 refine SL.v (.slice a_1 ((d).length) c_2) ?_
 refine SL.v (pv p 0) ?_
 refine SL.v (pv p 0) ?_
 refine SL.v (pv p 1) ?_
 refine SL.load (g := p) (off := 1) (v := iv now) rfl rfl rfl (by kernel_rfl) (hs_6.pt_at (i := 2) rfl) (by kernel_rfl) ?_
 refine SL.newH (mk := fun g => sv g 0 1 1) (C := #[iv now]) (T := 3) hs_6 rfl rfl (by kernel_rfl) (fun g_9 w_10 hs_11 => ?_)
 have hs_11 : SH U w w_10 [rowH 3 1 a (d).length cc (icells d), rowH 3 1 a_1 (d).length c_2 (icells d), pt p #[.slice a ((d).length) cc, iv now, .bool true] 143, pt g_9 #[iv now] 3] := hs_11
 refine SL.appR (z := iv 0) (size := 1) (bytes := 8) (el := 3) (m := 1) (news := [iv now]) (i := 1) (xs' := icells (d ++ [now])) (k' := (d ++ [now]).length) (L' := [rowH 3 1 a (d).length cc (icells d), pt p #[.slice a ((d).length) cc, iv now, .bool true] 143, pt g_9 #[iv now] 3]) hs_11 rfl rfl rfl (by kernel_rfl) (by kernel_rfl) (by kernel_rfl) (by kernel_rfl) (by kernel_rfl) (by kernel_rfl) rfl rfl (srcH (off := 0) (cs := [iv now]) (el := 3) (by kernel_rfl) (hs_11.pt_at (i := 3) rfl) rfl rfl (List.all_eq_true.1 (by kernel_rfl))) (by simp; omega) (icells_app d ([now])) (by simp) rfl (fun a_12 c_13 w_14 hs_15 => ?_)
 have hs_15 : SH U w w_14 [rowH 3 1 a (d).length cc (icells d), pt p #[.slice a ((d).length) cc, iv now, .bool true] 143, pt g_9 #[iv now] 3, rowH 3 1 a_12 (d ++ [now]).length c_13 (icells (d ++ [now]))] := hs_15
 refine SL.v (.slice a_12 ((d ++ [now]).length) c_13) ?_
 refine SL.nil ?_
 refine CW.seq ?_
 refine CW.region ?_
 refine SL.v (.slice a_12 ((d ++ [now]).length) c_13) ?_
 refine SL.callH (f := 107) (args := #[.slice a_12 ((d ++ [now]).length) c_13]) (Pre := [rowH 3 1 a_12 (d ++ [now]).length c_13 (icells (d ++ [now]))]) (Rest := [rowH 3 1 a (d).length cc (icells d), pt p #[.slice a ((d).length) cc, iv now, .bool true] 143, pt g_9 #[iv now] 3]) [3] hs_15 rfl rfl (by kernel_rfl) rfl (clip_tr a_12 ((d ++ [now]).length) c_13 (d ++ [now]) w_14) ?_
 rintro v_ Q_ w_20 ⟨a_17, c_18, rfl, rfl⟩ hs_22
 have hs_22 : SH U w w_20 [rdH 3 a_17 (d ++ [now]).length c_18 (icells (d ++ [now])), rowH 3 1 a (d).length cc (icells d), pt p #[.slice a ((d).length) cc, iv now, .bool true] 143, pt g_9 #[iv now] 3] := hs_22
 refine SL.v (.slice a_17 ((d ++ [now]).length) c_18) ?_
 refine SL.nil ?_
 refine CW.ret ?_
 repeat with_reducible first | refine PThen.ret ?_ | refine PBlock.ret ?_
 refine PRet.tmp (t := 2) (v := .slice a_17 ((d ++ [now]).length) c_18) rfl rfl (by kernel_rfl) ?_
 exact ⟨_, _, rfl, ⟨a_17, c_18, rfl, rfl⟩, hs_22.pick [2, 1, 0] rfl⟩
set_option maxRecDepth 100000 in
set_option maxHeartbeats 4000000 in
theorem list_full (p cc : Nat) (a : Option Addr) (d : List Int) (now : Int) (bg : Bool) (w : World) (hd : d.length ≤ 30) (h1 : bg = true) (h2 : ¬ d.length < 30) :
  Tr Tryz.prog 85 #[pv p 0] w [pt p #[.slice a (d).length cc, iv (now), .bool bg] 143, rowH 3 1 a (d).length cc (icells (d))] (fun v Q => ∃ a_ c_, v = .slice a_ (d).length c_ ∧ Q = [pt p #[.slice a (d).length cc, iv (now), .bool bg] 143, rowH 3 1 a (d).length cc (icells (d))] ++ [rdH 3 a_ (d).length c_ (icells (d))]) := by
 refine Tr.of fun U hs0 => ?_
 refine calls_sx (n := 27) (args := [pv p 0]) Tryz.func85 rfl rfl rfl ?_
 refine CW.seq ?_
 refine CW.region ?_
 refine SL.v (.slice none 0 0) ?_
 refine SL.nil ?_
 refine CW.seq ?_
 refine CW.region ?_
 refine SL.v (pv p 0) ?_
 refine SL.v (pv p 0) ?_
 refine SL.v (pv p 0) ?_
 refine SL.load (g := p) (off := 0) (v := .slice a ((d).length) cc) rfl rfl rfl (by kernel_rfl) (hs0.pt_at (i := 0) rfl) (by kernel_rfl) ?_
 refine SL.callH (f := 106) (args := #[.slice a ((d).length) cc]) (Pre := [rowH 3 1 a (d).length cc (icells d)]) (Rest := [pt p #[.slice a ((d).length) cc, iv now, .bool bg] 143]) [1] hs0 rfl rfl (by kernel_rfl) rfl (clone_tr a ((d).length) cc d w (by omega)) ?_
 rintro v_ Q_ w_4 ⟨a_1, c_2, rfl, rfl⟩ hs_6
 have hs_6 : SH U w w_4 [rowH 3 1 a (d).length cc (icells d), rowH 3 1 a_1 (d).length c_2 (icells d), pt p #[.slice a ((d).length) cc, iv now, .bool bg] 143] := hs_6
 refine SL.v (.slice a_1 ((d).length) c_2) ?_
 refine SL.nil ?_
 refine CW.seq ?_
 refine CW.seq ?_
 refine CW.region ?_
 refine SL.v (pv p 0) ?_
 refine SL.v (pv p 0) ?_
 refine SL.v (pv p 2) ?_
 refine SL.load (g := p) (off := 2) (v := .bool bg) rfl rfl rfl (by kernel_rfl) (hs_6.pt_at (i := 2) rfl) (by kernel_rfl) ?_
 refine SL.v (.bool bg) ?_
 have hb_7 : (bg) = true := h1
 rw [hb_7]
 rw [hb_7] at hs_6
 refine SL.go ?_
 refine SL.v (.slice a_1 ((d).length) c_2) ?_
 refine SL.go ?_
 refine SL.val (v := iv (((d).length : Nat) : Int)) (w' := w_4) rfl rfl (by kernel_rfl) ?_
 refine SL.go ?_
 refine SL.v (.bool (decide ((((d).length : Nat) : Int) < 30))) ?_
 refine SL.v (.bool (decide ((((d).length : Nat) : Int) < 30))) ?_
 refine SL.nil ?_
 have hb_8 : (decide ((((d).length : Nat) : Int) < 30)) = false := (decide_eq_false (by omega))
 rw [hb_8]
 have hqhb_8 := of_decide_eq_false hb_8
 refine CW.cond_false (by kernel_rfl) ?_
 refine CW.skip ?_
 refine CW.seq ?_
 refine CW.region ?_
 refine SL.v (.slice a_1 ((d).length) c_2) ?_
 refine SL.callH (f := 107) (args := #[.slice a_1 ((d).length) c_2]) (Pre := [rowH 3 1 a_1 (d).length c_2 (icells d)]) (Rest := [rowH 3 1 a (d).length cc (icells d), pt p #[.slice a ((d).length) cc, iv now, .bool true] 143]) [1] hs_6 rfl rfl (by kernel_rfl) rfl (clip_tr a_1 ((d).length) c_2 d w_4) ?_
 rintro v_ Q_ w_12 ⟨a_9, c_10, rfl, rfl⟩ hs_14
 have hs_14 : SH U w w_12 [rdH 3 a_9 (d).length c_10 (icells d), rowH 3 1 a (d).length cc (icells d), pt p #[.slice a ((d).length) cc, iv now, .bool true] 143] := hs_14
 refine SL.v (.slice a_9 ((d).length) c_10) ?_
 refine SL.nil ?_
 refine CW.ret ?_
 repeat with_reducible first | refine PThen.ret ?_ | refine PBlock.ret ?_
 refine PRet.tmp (t := 2) (v := .slice a_9 ((d).length) c_10) rfl rfl (by kernel_rfl) ?_
 exact ⟨_, _, rfl, ⟨a_9, c_10, rfl, rfl⟩, hs_14.pick [2, 1, 0] rfl⟩
set_option maxRecDepth 100000 in
set_option maxHeartbeats 4000000 in
theorem list_none (p cc : Nat) (a : Option Addr) (d : List Int) (now : Int) (bg : Bool) (w : World) (hd : d.length ≤ 30) (h1 : bg = false) :
  Tr Tryz.prog 85 #[pv p 0] w [pt p #[.slice a (d).length cc, iv (now), .bool bg] 143, rowH 3 1 a (d).length cc (icells (d))] (fun v Q => ∃ a_ c_, v = .slice a_ (d).length c_ ∧ Q = [pt p #[.slice a (d).length cc, iv (now), .bool bg] 143, rowH 3 1 a (d).length cc (icells (d))] ++ [rdH 3 a_ (d).length c_ (icells (d))]) := by
 refine Tr.of fun U hs0 => ?_
 refine calls_sx (n := 27) (args := [pv p 0]) Tryz.func85 rfl rfl rfl ?_
 refine CW.seq ?_
 refine CW.region ?_
 refine SL.v (.slice none 0 0) ?_
 refine SL.nil ?_
 refine CW.seq ?_
 refine CW.region ?_
 refine SL.v (pv p 0) ?_
 refine SL.v (pv p 0) ?_
 refine SL.v (pv p 0) ?_
 refine SL.load (g := p) (off := 0) (v := .slice a ((d).length) cc) rfl rfl rfl (by kernel_rfl) (hs0.pt_at (i := 0) rfl) (by kernel_rfl) ?_
 refine SL.callH (f := 106) (args := #[.slice a ((d).length) cc]) (Pre := [rowH 3 1 a (d).length cc (icells d)]) (Rest := [pt p #[.slice a ((d).length) cc, iv now, .bool bg] 143]) [1] hs0 rfl rfl (by kernel_rfl) rfl (clone_tr a ((d).length) cc d w (by omega)) ?_
 rintro v_ Q_ w_4 ⟨a_1, c_2, rfl, rfl⟩ hs_6
 have hs_6 : SH U w w_4 [rowH 3 1 a (d).length cc (icells d), rowH 3 1 a_1 (d).length c_2 (icells d), pt p #[.slice a ((d).length) cc, iv now, .bool bg] 143] := hs_6
 refine SL.v (.slice a_1 ((d).length) c_2) ?_
 refine SL.nil ?_
 refine CW.seq ?_
 refine CW.seq ?_
 refine CW.region ?_
 refine SL.v (pv p 0) ?_
 refine SL.v (pv p 0) ?_
 refine SL.v (pv p 2) ?_
 refine SL.load (g := p) (off := 2) (v := .bool bg) rfl rfl rfl (by kernel_rfl) (hs_6.pt_at (i := 2) rfl) (by kernel_rfl) ?_
 refine SL.v (.bool bg) ?_
 have hb_7 : (bg) = false := h1
 rw [hb_7]
 rw [hb_7] at hs_6
 refine SL.no false ?_
 refine SL.no false ?_
 refine SL.no false ?_
 refine SL.v (.bool false) ?_
 refine SL.nil ?_
 refine CW.cond_false (by kernel_rfl) ?_
 refine CW.skip ?_
 refine CW.seq ?_
 refine CW.region ?_
 refine SL.v (.slice a_1 ((d).length) c_2) ?_
 refine SL.callH (f := 107) (args := #[.slice a_1 ((d).length) c_2]) (Pre := [rowH 3 1 a_1 (d).length c_2 (icells d)]) (Rest := [rowH 3 1 a (d).length cc (icells d), pt p #[.slice a ((d).length) cc, iv now, .bool false] 143]) [1] hs_6 rfl rfl (by kernel_rfl) rfl (clip_tr a_1 ((d).length) c_2 d w_4) ?_
 rintro v_ Q_ w_11 ⟨a_8, c_9, rfl, rfl⟩ hs_13
 have hs_13 : SH U w w_11 [rdH 3 a_8 (d).length c_9 (icells d), rowH 3 1 a (d).length cc (icells d), pt p #[.slice a ((d).length) cc, iv now, .bool false] 143] := hs_13
 refine SL.v (.slice a_8 ((d).length) c_9) ?_
 refine SL.nil ?_
 refine CW.ret ?_
 repeat with_reducible first | refine PThen.ret ?_ | refine PBlock.ret ?_
 refine PRet.tmp (t := 2) (v := .slice a_8 ((d).length) c_9) rfl rfl (by kernel_rfl) ?_
 exact ⟨_, _, rfl, ⟨a_8, c_9, rfl, rfl⟩, hs_13.pick [2, 1, 0] rfl⟩
theorem list_any (p cc : Nat) (a : Option Addr) (s : PS) (w : World) (hd : s.done.length ≤ 30) : Tr Tryz.prog 85 #[pv p 0] w (accP p s a cc) (fun v Q => ∃ a_ c_, v = .slice a_ (accList s).length c_ ∧ Q = accP p s a cc ++ [rdH 3 a_ (accList s).length c_ (icells (accList s))]) := by
 unfold accP accList
 cases h1 : s.begun with
 | true =>
  by_cases h2 : s.done.length < 30
  ·rw [if_pos ⟨rfl, h2⟩]; exact list_more p cc a s.done s.now true w hd rfl h2
  ·rw [if_neg (fun h => h2 h.2)]; exact list_full p cc a s.done s.now true w hd rfl h2
 | false =>
  rw [if_neg (fun h => by cases h.1)]; exact list_none p cc a s.done s.now false w hd rfl
theorem take_snocD {l : List Int} {k : Nat} (hk : k < l.length) : l.take (k + 1) = l.take k ++ [l.getD k 0] := by
 rw [List.getD_eq_getElem?_getD, List.getElem?_eq_getElem hk, Option.getD_some, List.take_append_getElem hk]
theorem getD_byte {l : List Int} (hl : ∀ c ∈ l, 0 ≤ c ∧ c < 256) {k : Nat} (hk : k < l.length) : 0 ≤ l.getD k 0 ∧ l.getD k 0 < 256 := by
 rw [List.getD_eq_getElem?_getD, List.getElem?_eq_getElem hk, Option.getD_some]; exact hl _ (List.getElem_mem hk)
theorem parse_step {l : List Int} {k : Nat} {s : PS} (hk : k < l.length) (h : s = (l.take k).foldl accByte PS.init) (ha : isAcc (l.getD k 0) = true) : accStep s (l.getD k 0) = (l.take (k + 1)).foldl accByte PS.init := by
 rw [take_snocD hk, List.foldl_append, ← h]
 unfold accStep
 rw [if_pos ha]
 rfl
theorem all_step {l : List Int} {k : Nat} (hk : k < l.length) (h : (l.take k).all isAcc = true) (ha : isAcc (l.getD k 0) = true) : (l.take (k + 1)).all isAcc = true := by
 rw [take_snocD hk, List.all_append, h]; simp only [List.all_cons, List.all_nil, ha, Bool.and_true, Bool.and_self]
theorem now_step {s : PS} {c : Int} (h : 0 ≤ s.now ∧ s.now ≤ 65535) : 0 ≤ (accStep s c).now ∧ (accStep s c).now ≤ 65535 := by
 unfold accStep accByte isAcc
 split
 ·rename_i ha
  split
  ·simp
  ·rename_i hc
   simp [hc] at ha
   simp only
   omega
 ·exact h
theorem done_step {s : PS} {c : Int} (h : s.done.length ≤ 30) : (accStep s c).done.length ≤ 30 := by
 unfold accStep accByte
 split
 ·split
  ·simp only
   split
   ·simp; omega
   ·exact h
  ·exact h
 ·exact h
theorem all_bad {l : List Int} {k : Nat} (hk : k < l.length) (ha : isAcc (l.getD k 0) = false) : l.all isAcc = false := by
 rw [List.getD_eq_getElem?_getD, List.getElem?_eq_getElem hk, Option.getD_some] at ha
 cases h : l.all isAcc with
 | false => rfl
 | true => rw [List.all_eq_true] at h; rw [h _ (List.getElem_mem hk)] at ha; cases ha
/-- What comes of a text that is read as numbers. -/
def NumsRd (l : List Int) (v : Value) (Q : List HA) : Prop :=
 (l.all isAcc = true ∧ ∃ a c, v = .tuple #[.slice a (numsR l).length c, iv 0] ∧ Q = [rdH 3 a (numsR l).length c (icells (numsR l))]) ∨ (l.all isAcc = false ∧ v = .tuple #[.slice none 0 0, iv 3] ∧ Q = [])
set_option maxRecDepth 100000 in
set_option maxHeartbeats 4000000 in
theorem pparse_any (l : List Int) (w : World) (hl : ∀ c ∈ l, 0 ≤ c ∧ c < 256) (hn : l.length ≤ 100000) : Tr Tryz.prog 46 #[.string (strOf l)] w [] (NumsRd l) := by
 refine Tr.of fun U hs0 => ?_
 refine calls_sx (n := 18) (args := [.string (strOf l)]) Tryz.func46 rfl rfl rfl ?_
 refine CW.seq ?_
 refine CW.region ?_
 refine SL.v (.slice none 0 0) ?_
 refine SL.v (iv 0) ?_
 refine SL.nil ?_
 refine CW.seq ?_
 refine CW.region ?_
 refine SL.newH (mk := fun g => pv g 0) (C := #[.slice none 0 0, iv 0, .bool false]) (T := 143) hs0 rfl rfl (by kernel_rfl) (fun g_1 w_2 hs_3 => ?_)
 have hs_3 : SH U w w_2 [pt g_1 #[.slice none 0 0, iv 0, .bool false] 143] := hs_3
 refine SL.nil ?_
 refine CW.seq ?_
 refine CW.seq ?_
 refine CW.region ?_
 refine SL.v (.string (strOf l)) ?_
 refine SL.val (v := iv ((l.length : Nat) : Int)) (w' := w_2) rfl rfl (run_slen rfl (by kernel_rfl) (by kernel_rfl) (strOf_sz _)) ?_
 refine SL.v (iv 0) ?_
 refine SL.nil ?_
 refine CW.block ?_
 have hs_4 : SH U w w_2 [pt g_1 #[.slice none (PS.init.done).length 0, iv (PS.init.now), .bool PS.init.begun] 143, rowH 3 1 none (PS.init.done).length 0 (icells (PS.init.done))] := hs_3.row0 3 1
 refine CW.loopI (fun m_ e9 w9 => ∃ (k : Nat), ∃ (s : PS), ∃ (a : Option Addr), ∃ (c : Nat), m_ = l.length - k ∧ SH U w w9 [pt g_1 #[.slice a ((s.done).length) c, iv s.now, .bool s.begun] 143, rowH 3 1 a (s.done).length c (icells s.done)] ∧ (k ≤ l.length) ∧ (s = (l.take k).foldl accByte PS.init) ∧ ((l.take k).all isAcc = true) ∧ (0 ≤ s.now ∧ s.now ≤ 65535) ∧ (s.done.length ≤ 30) ∧ e9 0 = .string (strOf l) ∧ e9 2 = .slice none 0 0 ∧ e9 3 = iv 0 ∧ e9 4 = pv g_1 0 ∧ e9 7 = iv ((l.length : Nat) : Int) ∧ e9 8 = iv ((k : Nat) : Int)) ⟨_, 0, PS.init, none, 0, rfl, hs_4, (Nat.zero_le _), rfl, rfl, (by decide), (by decide), (by kernel_rfl), (by kernel_rfl), (by kernel_rfl), (by kernel_rfl), (by kernel_rfl), (by kernel_rfl)⟩ ?_
 rintro m_5 e_6 w_7 ⟨k, s, a, c, hm_9, hs_8, hk, hss, hall, hnow, hdn, hv_10, hv_11, hv_12, hv_13, hv_14, hv_15⟩
 obtain ⟨e_16, rfl⟩ : ∃ e_16, e_6 = put1 (put1 (put1 (put1 (put1 (put1 e_16 0 (.string (strOf l))) 2 (.slice none 0 0)) 3 (iv 0)) 4 (pv g_1 0)) 7 (iv ((l.length : Nat) : Int))) 8 (iv ((k : Nat) : Int)) := ⟨e_6, (put_self hv_15).trans (congrArg (fun z => put1 z 8 (iv ((k : Nat) : Int))) ((put_self hv_14).trans (congrArg (fun z => put1 z 7 (iv ((l.length : Nat) : Int))) ((put_self hv_13).trans (congrArg (fun z => put1 z 4 (pv g_1 0)) ((put_self hv_12).trans (congrArg (fun z => put1 z 3 (iv 0)) ((put_self hv_11).trans (congrArg (fun z => put1 z 2 (.slice none 0 0)) (put_self hv_10))))))))))⟩
 clear hv_10 hv_11 hv_12 hv_13 hv_14 hv_15
 refine CW.seq ?_
 refine CW.region ?_
 refine SL.v (.bool (decide (((k : Nat) : Int) < ((l.length : Nat) : Int)))) ?_
 refine SL.nil ?_
 refine CW.seq ?_
 rcases Bool.eq_false_or_eq_true (decide (((k : Nat) : Int) < ((l.length : Nat) : Int))) with hb_17 | hb_17
 ·try rw [hb_17]
  have hqhb_17 := of_decide_eq_true hb_17
  refine CW.cond_true (by kernel_rfl) ?_
  refine CW.skip ?_
  refine CW.seq ?_
  refine CW.block ?_
  refine CW.seq ?_
  refine CW.region ?_
  refine SL.v (iv ((k : Nat) : Int)) ?_
  refine SL.v (iv ((k : Nat) : Int)) ?_
  refine SL.nil ?_
  refine CW.seq ?_
  refine CW.region ?_
  refine SL.v (.string (strOf l)) ?_
  refine SL.v (iv ((k : Nat) : Int)) ?_
  refine SL.val (v := .int .u8 (l.getD k 0)) (w' := w_7) rfl rfl (run_sidx (q := .i64) (I := ((k : Nat) : Int)) (l := l) (i := k) rfl (by kernel_rfl) (by kernel_rfl) rfl (by kernel_rfl) hl (by omega)) ?_
  refine SL.callH (f := 84) (args := #[pv g_1 0, .int .u8 (l.getD k 0)]) (Pre := [pt g_1 #[.slice a ((s.done).length) c, iv s.now, .bool s.begun] 143, rowH 3 1 a (s.done).length c (icells s.done)]) (Rest := []) [0, 0] hs_8 rfl rfl (by kernel_rfl) rfl (byte_any g_1 c a s (l.getD k 0) w_7 hnow (getD_byte hl (by omega))) ?_
  rintro v_ Q_ w_20 ⟨a_18, c_19, rfl, rfl⟩ hs_22
  have hs_22 : SH U w w_20 [pt g_1 #[.slice a_18 (((accStep s (l.getD k 0)).done).length) c_19, iv ((accStep s (l.getD k 0)).now), .bool ((accStep s (l.getD k 0)).begun)] 143, rowH 3 1 a_18 ((accStep s (l.getD k 0)).done).length c_19 (icells ((accStep s (l.getD k 0)).done))] := hs_22
  refine SL.v (.bool (!(isAcc (l.getD k 0)))) ?_
  refine SL.nil ?_
  rcases Bool.eq_false_or_eq_true (isAcc (l.getD k 0)) with hb_23 | hb_23
  ·try rw [hb_23]
   refine CW.cond_false (by kernel_rfl) ?_
   refine CW.skip ?_
   refine CW.region ?_
   refine SL.val (v := iv ((k + 1 : Nat) : Int)) (w' := w_20) rfl rfl (by have hw : IntKind.i64.wrap (((k : Nat) : Int) + 1) = ((k + 1 : Nat) : Int) := (IntWalk.i64_in _ (by omega)).trans (by omega); exact run_eqv (by kernel_rfl) (congrArg (fun z => Value.int .i64 z) hw)) ?_
   refine SL.v (iv ((k + 1 : Nat) : Int)) ?_
   refine SL.nil ?_
   exact ⟨_, ⟨k + 1, (accStep s (l.getD k 0)), a_18, c_19, rfl, hs_22, (by omega), (parse_step (by omega) hss hb_23), (all_step (by omega) hall hb_23), (now_step hnow), (done_step hdn), (by kernel_rfl), (by kernel_rfl), (by kernel_rfl), (by kernel_rfl), (by kernel_rfl), (by kernel_rfl)⟩, by omega⟩
  ·try rw [hb_23]
   refine CW.cond_true (by kernel_rfl) ?_
   refine CW.seq ?_
   refine CW.region ?_
   refine SL.v (.slice none 0 0) ?_
   refine SL.v (iv 3) ?_
   refine SL.nil ?_
   refine CW.ret ?_
   repeat with_reducible first | refine PThen.ret ?_ | refine PBlock.ret ?_
   refine PRet.tmp2 (t := 2) (u := 3) (v := .slice none 0 0) (v' := iv 3) rfl rfl rfl (by kernel_rfl) (by kernel_rfl) ?_
   exact ⟨_, _, rfl, .inr ⟨all_bad (by omega) hb_23, rfl, rfl⟩, hs_22.pick [] rfl⟩
 ·try rw [hb_17]
  have hqhb_17 := of_decide_eq_false hb_17
  refine CW.cond_false (by kernel_rfl) ?_
  refine CW.exit ?_
  repeat with_reducible first | refine PThen.exit ?_ | refine PBlock.out rfl ?_
  with_reducible refine PBlock.here ?_
  repeat with_reducible refine PBlock.normal ?_
  refine CW.seq ?_
  refine CW.region ?_
  refine SL.callH (f := 85) (args := #[pv g_1 0]) (Pre := [pt g_1 #[.slice a ((s.done).length) c, iv s.now, .bool s.begun] 143, rowH 3 1 a (s.done).length c (icells s.done)]) (Rest := []) [0, 0] hs_8 rfl rfl (by kernel_rfl) rfl (list_any g_1 c a s w_7 hdn) ?_
  rintro v_ Q_ w_27 ⟨a_24, c_25, rfl, rfl⟩ hs_29
  have hs_29 : SH U w w_27 [pt g_1 #[.slice a ((s.done).length) c, iv s.now, .bool s.begun] 143, rowH 3 1 a (s.done).length c (icells s.done), rdH 3 a_24 (accList s).length c_25 (icells (accList s))] := hs_29
  refine SL.v (.slice a_24 ((accList s).length) c_25) ?_
  refine SL.v (iv 0) ?_
  refine SL.nil ?_
  refine CW.ret ?_
  repeat with_reducible first | refine PThen.ret ?_ | refine PBlock.ret ?_
  refine PRet.tmp2 (t := 2) (u := 3) (v := .slice a_24 ((accList s).length) c_25) (v' := iv 0) rfl rfl rfl (by kernel_rfl) (by kernel_rfl) ?_
  have hkl : l.take k = l := List.take_of_length_le (by omega)
  rw [hkl] at hall hss
  have hnl : accList s = numsR l := by rw [hss]; exact acc_nums l PS.init rfl rfl rfl
  have hs9 := hs_29.pick [2] rfl
  rw [hnl] at hs9 ⊢
  exact ⟨_, _, rfl, .inl ⟨hall, a_24, c_25, rfl, rfl⟩, hs9⟩
end Go.Proofs.YtfkecgkfcldffaaGreatDoor
