/-
  Renditions, modes and states of both texts, walked (gen_stb.py).
-/
import Derived.Test.YthfipedfoofobaaDoorZStA
import Derived.Test.YthfipedfoofobaaDoorZSr
import Derived.Test.YthfipedfoofobaaDoorZIsD
namespace Go.Proofs.YthfipedfoofobaaDoor
set_option linter.unusedSimpArgs false
set_option linter.unusedVariables false
open Go.RowKit
set_option linter.unusedVariables false

set_option maxRecDepth 100000 in
set_option maxHeartbeats 4000000 in
theorem part_m1  (w : World) : Calls Tryd.prog 27 #[.int .i64 (-1)] w fun e w' => e = .returned (.int .u8 0) ∧ Gr w w' := by
  refine calls_sx (n := 14) (args := [.int .i64 (-1)]) Tryd.func27 rfl rfl rfl ?_
  have hs0 := Bk.init w
  refine CW.seq ?_
  refine CW.region ?_
  refine SL.v (.int .u8 0) ?_
  refine SL.nil ?_
  refine CW.seq ?_
  refine CW.seq ?_
  refine CW.region ?_
  refine SL.v (.int .i64 (-1)) ?_
  refine SL.nil ?_
  refine CW.block ?_
  refine CW.seq ?_
  refine CW.region ?_
  refine SL.v (.bool false) ?_
  refine SL.v (.bool false) ?_
  refine SL.nil ?_
  refine CW.cond_false (by kernel_rfl) ?_
  refine CW.seq ?_
  refine CW.region ?_
  refine SL.v (.bool false) ?_
  refine SL.v (.bool false) ?_
  refine SL.nil ?_
  refine CW.cond_false (by kernel_rfl) ?_
  refine CW.seq ?_
  refine CW.region ?_
  refine SL.v (.bool false) ?_
  refine SL.v (.bool false) ?_
  refine SL.nil ?_
  refine CW.cond_false (by kernel_rfl) ?_
  refine CW.seq ?_
  refine CW.region ?_
  refine SL.v (.bool false) ?_
  refine SL.v (.bool false) ?_
  refine SL.nil ?_
  refine CW.cond_false (by kernel_rfl) ?_
  refine CW.seq ?_
  refine CW.region ?_
  refine SL.v (.bool false) ?_
  refine SL.v (.bool false) ?_
  refine SL.nil ?_
  refine CW.cond_false (by kernel_rfl) ?_
  refine CW.skip ?_
  refine CW.seq ?_
  refine CW.region ?_
  refine SL.v (.int .u8 0) ?_
  refine SL.nil ?_
  refine CW.ret ?_
  repeat with_reducible first | refine PThen.ret ?_ | refine PBlock.ret ?_
  refine PRet.tmp (t := 2) (v := .int .u8 0) rfl rfl (by kernel_rfl) ?_
  exact ⟨rfl, hs0.gr⟩
set_option maxRecDepth 100000 in
set_option maxHeartbeats 4000000 in
theorem ended_m1  (w : World) : Calls Tryd.prog 57 #[.int .i64 (-1)] w fun e w' => e = .returned (.int .u8 0) ∧ Gr w w' := by
  refine calls_sx (n := 14) (args := [.int .i64 (-1)]) Tryd.func57 rfl rfl rfl ?_
  have hs0 := Bk.init w
  refine CW.seq ?_
  refine CW.region ?_
  refine SL.v (.int .u8 0) ?_
  refine SL.nil ?_
  refine CW.seq ?_
  refine CW.seq ?_
  refine CW.region ?_
  refine SL.v (.int .i64 (-1)) ?_
  refine SL.nil ?_
  refine CW.block ?_
  refine CW.seq ?_
  refine CW.region ?_
  refine SL.v (.bool false) ?_
  refine SL.v (.bool false) ?_
  refine SL.nil ?_
  refine CW.cond_false (by kernel_rfl) ?_
  refine CW.seq ?_
  refine CW.seq ?_
  refine CW.region ?_
  refine SL.v (.bool false) ?_
  refine SL.v (.bool false) ?_
  refine SL.nil ?_
  refine CW.cond_false (by kernel_rfl) ?_
  refine CW.seq ?_
  refine CW.region ?_
  refine SL.v (.bool false) ?_
  refine SL.v (.bool false) ?_
  refine SL.nil ?_
  refine CW.cond_false (by kernel_rfl) ?_
  refine CW.seq ?_
  refine CW.region ?_
  refine SL.v (.bool false) ?_
  refine SL.v (.bool false) ?_
  refine SL.nil ?_
  refine CW.cond_false (by kernel_rfl) ?_
  refine CW.region ?_
  refine SL.v (.bool false) ?_
  refine SL.v (.bool false) ?_
  refine SL.nil ?_
  refine CW.cond_false (by kernel_rfl) ?_
  refine CW.skip ?_
  refine CW.seq ?_
  refine CW.region ?_
  refine SL.v (.int .u8 0) ?_
  refine SL.nil ?_
  refine CW.ret ?_
  repeat with_reducible first | refine PThen.ret ?_ | refine PBlock.ret ?_
  refine PRet.tmp (t := 2) (v := .int .u8 0) rfl rfl (by kernel_rfl) ?_
  exact ⟨rfl, hs0.gr⟩
set_option maxRecDepth 100000 in
set_option maxHeartbeats 4000000 in
theorem one_m1 (r : Int) (w : World) : Calls Tryd.prog 39 #[.int .u8 r, .int .i64 (-1)] w fun e w' => e = .returned (.int .u8 (bits .andNot .u8 (bits .or .u8 r 0) 0)) ∧ Gr w w' := by
  refine calls_sx (n := 14) (args := [.int .u8 r, .int .i64 (-1)]) Tryd.func39 rfl rfl rfl ?_
  have hs0 := Bk.init w
  refine CW.seq ?_
  refine CW.region ?_
  refine SL.v (.int .u8 0) ?_
  refine SL.nil ?_
  refine CW.seq ?_
  refine CW.seq ?_
  refine CW.region ?_
  refine SL.v (.int .i64 (-1)) ?_
  refine SL.v (.bool false) ?_
  refine SL.nil ?_
  refine CW.cond_false (by kernel_rfl) ?_
  refine CW.skip ?_
  refine CW.seq ?_
  refine CW.region ?_
  refine SL.v (.int .u8 r) ?_
  refine SL.v (.int .i64 (-1)) ?_
  refine SL.call (f := 27) (args := #[.int .i64 (-1)]) (w1 := w) rfl rfl (by kernel_rfl) (part_m1 w) ?_
  rintro x w_1 ⟨rfl, hc_2⟩
  refine ⟨.int .u8 0, rfl, ?_⟩
  have hs_3 := hs0.grow hc_2
  refine SL.v (.int .u8 (bits .or .u8 r 0)) ?_
  refine SL.v (.int .i64 (-1)) ?_
  refine SL.call (f := 57) (args := #[.int .i64 (-1)]) (w1 := w_1) rfl rfl (by kernel_rfl) (ended_m1 w_1) ?_
  rintro x w_4 ⟨rfl, hc_5⟩
  refine ⟨.int .u8 0, rfl, ?_⟩
  have hs_6 := hs_3.grow hc_5
  refine SL.v (.int .u8 (bits .andNot .u8 (bits .or .u8 r 0) 0)) ?_
  refine SL.v (.int .u8 (bits .andNot .u8 (bits .or .u8 r 0) 0)) ?_
  refine SL.nil ?_
  refine CW.ret ?_
  repeat with_reducible first | refine PThen.ret ?_ | refine PBlock.ret ?_
  refine PRet.tmp (t := 4) (v := .int .u8 (bits .andNot .u8 (bits .or .u8 r 0) 0)) rfl rfl (by kernel_rfl) ?_
  exact ⟨rfl, hs_6.gr⟩
set_option maxRecDepth 100000 in
set_option maxHeartbeats 4000000 in
theorem each_m1 (r : Int) (g : Nat) (w : World) (hb : w.heap[g]? = some (.cells #[.int .i64 (-1)] 3 (0, 0))) : Calls Tryd.prog 38 #[.int .u8 r, .slice (some ⟨g, 0, none⟩) 1 1, .func (.func 39) #[] #[]] w fun e w' => e = .returned (.int .u8 (bits .andNot .u8 (bits .or .u8 (bits .and .u8 r 31) 0) 0)) ∧ Gr w w' := by
  refine calls_sx (n := 29) (args := [.int .u8 r, .slice (some ⟨g, 0, none⟩) 1 1, .func (.func 39) #[] #[]]) Tryd.func38 rfl rfl rfl ?_
  have hs0 := Bk.init w
  refine CW.seq ?_
  refine CW.region ?_
  refine SL.v (.int .u8 0) ?_
  refine SL.nil ?_
  refine CW.seq ?_
  refine CW.region ?_
  refine SL.v (.int .u8 r) ?_
  refine SL.v (.int .u8 (bits .and .u8 r 31)) ?_
  refine SL.v (.int .u8 (bits .and .u8 r 31)) ?_
  refine SL.nil ?_
  refine CW.seq ?_
  refine CW.seq ?_
  refine CW.region ?_
  refine SL.v (.slice (some ⟨g, 0, none⟩) 1 1) ?_
  refine SL.val (v := .int .i64 1) (w' := w) rfl rfl (by kernel_rfl) ?_
  refine SL.v (.bool false) ?_
  refine SL.nil ?_
  refine CW.cond_false (by kernel_rfl) ?_
  refine CW.skip ?_
  refine CW.seq ?_
  refine CW.seq ?_
  refine CW.region ?_
  refine SL.v (.slice (some ⟨g, 0, none⟩) 1 1) ?_
  refine SL.val (v := .int .i64 1) (w' := w) rfl rfl (by kernel_rfl) ?_
  refine SL.v (.int .i64 0) ?_
  refine SL.nil ?_
  refine CW.block ?_
  refine CW.loopN 2 ?_
  refine CR.more ?_
  refine CW.seq ?_
  refine CW.region ?_
  refine SL.v (.bool true) ?_
  refine SL.nil ?_
  refine CW.seq ?_
  refine CW.cond_true (by kernel_rfl) ?_
  refine CW.skip ?_
  refine CW.seq ?_
  refine CW.block ?_
  refine CW.seq ?_
  refine CW.region ?_
  refine SL.v (.pointer (some ⟨g, 0, none⟩)) ?_
  refine SL.load (g := g) (off := 0) (v := .int .i64 (-1)) rfl rfl rfl (by kernel_rfl) (hs0.gr.blk hb) (by kernel_rfl) ?_
  refine SL.v (.int .i64 (-1)) ?_
  refine SL.nil ?_
  refine CW.region ?_
  refine SL.v (.func (.func 39) #[] #[]) ?_
  refine SL.v (.int .u8 (bits .and .u8 r 31)) ?_
  refine SL.v (.int .i64 (-1)) ?_
  refine SL.call (f := 39) (args := #[.int .u8 (bits .and .u8 r 31), .int .i64 (-1)]) (w1 := w) rfl rfl (by kernel_rfl) (one_m1 (bits .and .u8 r 31) w) ?_
  rintro x w_1 ⟨rfl, hc_2⟩
  refine ⟨.int .u8 (bits .andNot .u8 (bits .or .u8 (bits .and .u8 r 31) 0) 0), rfl, ?_⟩
  have hs_3 := hs0.grow hc_2
  refine SL.v (.int .u8 (bits .andNot .u8 (bits .or .u8 (bits .and .u8 r 31) 0) 0)) ?_
  refine SL.nil ?_
  refine CW.region ?_
  refine SL.v (.int .i64 1) ?_
  refine SL.v (.int .i64 1) ?_
  refine SL.nil ?_
  refine CR.fresh (fun e9 => e9 0 = .int .u8 (bits .andNot .u8 (bits .or .u8 (bits .and .u8 r 31) 0) 0) ∧ e9 2 = .func (.func 39) #[] #[] ∧ e9 6 = .int .u8 0 ∧ e9 17 = .slice (some ⟨g, 0, none⟩) 1 1 ∧ e9 18 = .int .i64 1 ∧ e9 19 = .int .i64 1) ⟨(by kernel_rfl), (by kernel_rfl), (by kernel_rfl), (by kernel_rfl), (by kernel_rfl), (by kernel_rfl)⟩ ?_
  rintro e_4 ⟨hv_6, hv_7, hv_8, hv_9, hv_10, hv_11⟩
  obtain ⟨e_5, rfl⟩ : ∃ e_5, e_4 = put1 (put1 (put1 (put1 (put1 (put1 e_5 0 (.int .u8 (bits .andNot .u8 (bits .or .u8 (bits .and .u8 r 31) 0) 0))) 2 (.func (.func 39) #[] #[])) 6 (.int .u8 0)) 17 (.slice (some ⟨g, 0, none⟩) 1 1)) 18 (.int .i64 1)) 19 (.int .i64 1) := ⟨e_4, (put_self hv_11).trans (congrArg (fun z => put1 z 19 (.int .i64 1)) ((put_self hv_10).trans (congrArg (fun z => put1 z 18 (.int .i64 1)) ((put_self hv_9).trans (congrArg (fun z => put1 z 17 (.slice (some ⟨g, 0, none⟩) 1 1)) ((put_self hv_8).trans (congrArg (fun z => put1 z 6 (.int .u8 0)) ((put_self hv_7).trans (congrArg (fun z => put1 z 2 (.func (.func 39) #[] #[])) (put_self hv_6))))))))))⟩
  clear hv_6 hv_7 hv_8 hv_9 hv_10 hv_11
  refine CR.more ?_
  refine CW.seq ?_
  refine CW.region ?_
  refine SL.v (.bool false) ?_
  refine SL.nil ?_
  refine CW.seq ?_
  refine CW.cond_false (by kernel_rfl) ?_
  refine CW.exit ?_
  repeat with_reducible first | refine PThen.exit ?_ | refine PBlock.out rfl ?_
  with_reducible refine PBlock.here ?_
  repeat with_reducible refine PBlock.normal ?_
  refine CW.seq ?_
  refine CW.region ?_
  refine SL.v (.int .u8 (bits .andNot .u8 (bits .or .u8 (bits .and .u8 r 31) 0) 0)) ?_
  refine SL.v (.int .u8 (bits .andNot .u8 (bits .or .u8 (bits .and .u8 r 31) 0) 0)) ?_
  refine SL.nil ?_
  refine CW.ret ?_
  repeat with_reducible first | refine PThen.ret ?_ | refine PBlock.ret ?_
  refine PRet.tmp (t := 6) (v := .int .u8 (bits .andNot .u8 (bits .or .u8 (bits .and .u8 r 31) 0) 0)) rfl rfl (by kernel_rfl) ?_
  exact ⟨rfl, hs_3.gr⟩
set_option maxRecDepth 100000 in
set_option maxHeartbeats 4000000 in
theorem apply_m1 (r : Int) (g : Nat) (w : World) (hb : w.heap[g]? = some (.cells #[.int .i64 (-1)] 3 (0, 0))) : Calls Tryd.prog 22 #[.int .u8 r, .slice (some ⟨g, 0, none⟩) 1 1] w fun e w' => e = .returned (.int .u8 (bits .andNot .u8 (bits .or .u8 (bits .and .u8 r 31) 0) 0)) ∧ Gr w w' := by
  refine calls_sx (n := 8) (args := [.int .u8 r, .slice (some ⟨g, 0, none⟩) 1 1]) Tryd.func22 rfl rfl rfl ?_
  have hs0 := Bk.init w
  refine CW.seq ?_
  refine CW.region ?_
  refine SL.v (.int .u8 0) ?_
  refine SL.nil ?_
  refine CW.seq ?_
  refine CW.region ?_
  refine SL.v (.int .u8 r) ?_
  refine SL.v (.slice (some ⟨g, 0, none⟩) 1 1) ?_
  refine SL.call (f := 38) (args := #[.int .u8 r, .slice (some ⟨g, 0, none⟩) 1 1, .func (.func 39) #[] #[]]) (w1 := w) rfl rfl (by kernel_rfl) (each_m1 r g w (hs0.gr.blk hb)) ?_
  rintro x w_1 ⟨rfl, hc_2⟩
  refine ⟨.int .u8 (bits .andNot .u8 (bits .or .u8 (bits .and .u8 r 31) 0) 0), rfl, ?_⟩
  have hs_3 := hs0.grow hc_2
  refine SL.v (.int .u8 (bits .andNot .u8 (bits .or .u8 (bits .and .u8 r 31) 0) 0)) ?_
  refine SL.nil ?_
  refine CW.ret ?_
  repeat with_reducible first | refine PThen.ret ?_ | refine PBlock.ret ?_
  refine PRet.tmp (t := 4) (v := .int .u8 (bits .andNot .u8 (bits .or .u8 (bits .and .u8 r 31) 0) 0)) rfl rfl (by kernel_rfl) ?_
  exact ⟨rfl, hs_3.gr⟩
theorem rend_m1 {r : Int} (h0 : 0 ≤ r) (h1 : r < 256) : bits .andNot .u8 (bits .or .u8 (bits .and .u8 r 31) 0) 0 = r % 32 := by
  have H : ∀ k : Fin 256, bits .andNot .u8 (bits .or .u8 (bits .and .u8 (k.val : Int) 31) 0) 0 = (k.val : Int) % 32 := by decide +kernel
  have := H ⟨r.toNat, by omega⟩
  simpa [Int.toNat_of_nonneg h0] using this
set_option maxRecDepth 100000 in
set_option maxHeartbeats 4000000 in
theorem mclear_any (m : Int) (w : World) : Calls Tryd.prog 24 #[.int .u32 m] w fun e w' => e = .returned (.int .u32 (bits .and .u32 m 131071)) ∧ Gr w w' := by
  refine calls_sx (n := 5) (args := [.int .u32 m]) Tryd.func24 rfl rfl rfl ?_
  have hs0 := Bk.init w
  refine CW.seq ?_
  refine CW.region ?_
  refine SL.v (.int .u32 0) ?_
  refine SL.nil ?_
  refine CW.seq ?_
  refine CW.region ?_
  refine SL.v (.int .u32 m) ?_
  refine SL.v (.int .u32 (bits .and .u32 m 131071)) ?_
  refine SL.v (.int .u32 (bits .and .u32 m 131071)) ?_
  refine SL.nil ?_
  refine CW.ret ?_
  repeat with_reducible first | refine PThen.ret ?_ | refine PBlock.ret ?_
  refine PRet.tmp (t := 2) (v := .int .u32 (bits .and .u32 m 131071)) rfl rfl (by kernel_rfl) ?_
  exact ⟨rfl, hs0.gr⟩
theorem st_ofInt (a : BitVec 32) : BitVec.ofInt 32 (a.toNat : Int) = a := by rw [BitVec.ofInt_natCast]; simp
theorem st_and (a b : BitVec 32) : bits .and .u32 (a.toNat : Int) (b.toNat : Int) = ((a &&& b).toNat : Int) := by
  show IntKind.u32.wrap ((BitVec.ofInt 32 (a.toNat : Int) &&& BitVec.ofInt 32 (b.toNat : Int)).toNat : Int) = _
  rw [st_ofInt, st_ofInt, IntKind.wrap_u32]
  have := (a &&& b).isLt
  omega
theorem mclear (m : Int) (h0 : 0 ≤ m) (h1 : m < 4294967296) : bits .and .u32 m 131071 = m % 131072 := by
  have e1 : m = (((BitVec.ofNat 32 m.toNat).toNat : Nat) : Int) := by rw [BitVec.toNat_ofNat]; omega
  have e2 : (131071 : Int) = (((131071#32).toNat : Nat) : Int) := rfl
  have e3 := st_and (BitVec.ofNat 32 m.toNat) 131071#32
  rw [← e1, ← e2, BitVec.toNat_and, show (131071#32).toNat = 2 ^ 17 - 1 from rfl, Nat.and_two_pow_sub_one_eq_mod, BitVec.toNat_ofNat] at e3
  rw [e3]
  omega
/-- A state. -/
structure Cor where
  row : Int
  col : Int
  rend : Int
  kept : Bool
  wrap : Bool
  origin : Bool
  g0 : Int
  g1 : Int
  g2 : Int
  g3 : Int
  gl : Int
  gr : Int
  sg : Int
  pt : Int
  pl : Int
  pb : Int
  pr : Int
  mt : Int
  ml : Int
  mb : Int
  mr : Int
  modes : Int
  level : Int
  eight : Bool
  stream : Bool
  status : Int
  below : Bool
  page : Int
  pages : Int
structure Cor.Ok (c : Cor) : Prop where
  row : I6 c.row
  col : I6 c.col
  rend : 0 ≤ c.rend ∧ c.rend < 256
  g : I6 c.g0 ∧ I6 c.g1 ∧ I6 c.g2 ∧ I6 c.g3
  gl : I6 c.gl
  gr : I6 c.gr
  sg : I6 c.sg
  p : I6 c.pt ∧ I6 c.pl ∧ I6 c.pb ∧ I6 c.pr
  m : I6 c.mt ∧ I6 c.ml ∧ I6 c.mb ∧ I6 c.mr
  modes : 0 ≤ c.modes ∧ c.modes < 4294967296
  level : I6 c.level
  status : I6 c.status
  page : I6 c.page
  pages : I6 c.pages
abbrev cvA (c : Cor) : Array Value := #[.int .i64 c.row, .int .i64 c.col, .int .u8 c.rend, .bool c.kept, .bool c.wrap, .bool c.origin, .int .i64 c.g0, .int .i64 c.g1, .int .i64 c.g2, .int .i64 c.g3, .int .i64 c.gl, .int .i64 c.gr, .int .i64 c.sg, .int .i64 c.pt, .int .i64 c.pl, .int .i64 c.pb, .int .i64 c.pr, .int .i64 c.mt, .int .i64 c.ml, .int .i64 c.mb, .int .i64 c.mr, .int .u32 c.modes, .int .i64 c.level, .bool c.eight, .bool c.stream, .int .i64 c.status, .bool c.below, .int .i64 c.page, .int .i64 c.pages]
abbrev cdA (c : Cor) : Array Value := #[.int .i64 c.row, .int .i64 c.col, .int .u8 c.rend, .bool c.kept, .bool c.wrap, .bool c.origin, .int .i64 c.g0, .int .i64 c.g1, .int .i64 c.g2, .int .i64 c.g3, .int .i64 c.gl, .int .i64 c.gr, .int .i64 c.sg, .int .i64 c.pt, .int .i64 c.pl, .int .i64 c.pb, .int .i64 c.pr, .int .i64 c.mt, .int .i64 c.ml, .int .i64 c.mb, .int .i64 c.mr, .int .i64 c.modes, .int .i64 c.level, .bool c.eight, .bool c.stream, .int .i64 c.status, .bool c.below, .int .i64 c.page, .int .i64 c.pages]
abbrev czA : Array Value := #[.int .i64 0, .int .i64 0, .int .u8 0, .bool false, .bool false, .bool false, .int .i64 0, .int .i64 0, .int .i64 0, .int .i64 0, .int .i64 0, .int .i64 0, .int .i64 0, .int .i64 0, .int .i64 0, .int .i64 0, .int .i64 0, .int .i64 0, .int .i64 0, .int .i64 0, .int .i64 0, .int .u32 0, .int .i64 0, .bool false, .bool false, .int .i64 0, .bool false, .int .i64 0, .int .i64 0]
def Cor.v (c : Cor) : Value := .agg (cvA c)
def Cor.d (c : Cor) : Value := .agg (cdA c)
def Cor.cv (c : Cor) : Value := .agg #[.int .i64 c.row, .int .i64 c.col, .int .u8 c.rend, .bool c.kept, .bool c.wrap, .bool c.origin, .int .i64 c.g0, .int .i64 c.g1, .int .i64 c.g2, .int .i64 c.g3, .int .i64 c.gl, .int .i64 c.gr, .int .i64 c.sg]
def Cor.fv (c : Cor) : Value := .agg #[.int .i64 c.pt, .int .i64 c.pl, .int .i64 c.pb, .int .i64 c.pr, .int .i64 c.mt, .int .i64 c.ml, .int .i64 c.mb, .int .i64 c.mr]
abbrev qStB_3 (g0 : Int) (g1 : Int) (g2 : Int) (g3 : Int) (gl : Int) (gr : Int) (si : Int) : Array Value := #[.int .i64 g0, .int .i64 g1, .int .i64 g2, .int .i64 g3, .int .i64 gl, .int .i64 gr, .int .i64 si]
set_option maxRecDepth 100000 in
set_option maxHeartbeats 4000000 in
theorem own10 (g0 g1 g2 g3 gl gr si : Int) (w : World) : Calls Tryd.prog 18 #[.agg (qStB_3 g0 g1 g2 g3 gl gr si)] w fun e w' => e = .returned (.agg (qStB_3 g0 g1 g2 g3 gl gr si)) ∧ Gr w w' := by
  refine calls_sx (n := 12) (args := [.agg (qStB_3 g0 g1 g2 g3 gl gr si)]) Tryd.func18 rfl rfl rfl ?_
  have hs0 := Bk.init w
  refine CW.seq ?_
  refine CW.region ?_
  refine SL.new (mk := fun g => .pointer (some ⟨g, 0, none⟩)) (C := (qStB_3 g0 g1 g2 g3 gl gr si)) (T := 25) hs0 rfl rfl (by kernel_rfl) (fun g_1 w_2 hs_3 => ?_)
  have hs_3 : Bk w w_2 [(g_1, .cells (qStB_3 g0 g1 g2 g3 gl gr si) 25 (0, 0))] := hs_3
  refine SL.new (mk := fun g => .pointer (some ⟨g, 0, none⟩)) (C := #[.int .i64 0, .int .i64 0, .int .i64 0, .int .i64 0, .int .i64 0, .int .i64 0, .int .i64 0]) (T := 36) hs_3 rfl rfl (by kernel_rfl) (fun g_4 w_5 hs_6 => ?_)
  have hs_6 : Bk w w_5 [(g_1, .cells (qStB_3 g0 g1 g2 g3 gl gr si) 25 (0, 0)), (g_4, .cells #[.int .i64 0, .int .i64 0, .int .i64 0, .int .i64 0, .int .i64 0, .int .i64 0, .int .i64 0] 36 (0, 0))] := hs_6
  refine SL.nil ?_
  refine CW.seq ?_
  refine CW.region ?_
  refine SL.v (.pointer (some ⟨g_1, 0, none⟩)) ?_
  refine SL.load (g := g_1) (off := 0) (v := .agg #[.int .i64 g0, .int .i64 g1, .int .i64 g2, .int .i64 g3]) rfl rfl rfl (by kernel_rfl) (hs_6.all 0 g_1 _ rfl) (by kernel_rfl) ?_
  refine SL.v (.pointer (some ⟨g_1, 4, none⟩)) ?_
  refine SL.load (g := g_1) (off := 4) (v := .int .i64 gl) rfl rfl rfl (by kernel_rfl) (hs_6.all 0 g_1 _ rfl) (by kernel_rfl) ?_
  refine SL.v (.pointer (some ⟨g_1, 5, none⟩)) ?_
  refine SL.load (g := g_1) (off := 5) (v := .int .i64 gr) rfl rfl rfl (by kernel_rfl) (hs_6.all 0 g_1 _ rfl) (by kernel_rfl) ?_
  refine SL.v (.pointer (some ⟨g_1, 6, none⟩)) ?_
  refine SL.load (g := g_1) (off := 6) (v := .int .i64 si) rfl rfl rfl (by kernel_rfl) (hs_6.all 0 g_1 _ rfl) (by kernel_rfl) ?_
  refine SL.v (.agg (qStB_3 g0 g1 g2 g3 gl gr si)) ?_
  refine SL.store (i := 1) (g := g_4) (off := 0) (v := .agg (qStB_3 g0 g1 g2 g3 gl gr si)) (L' := [(g_1, .cells (qStB_3 g0 g1 g2 g3 gl gr si) 25 (0, 0)), (g_4, .cells (qStB_3 g0 g1 g2 g3 gl gr si) 36 (0, 0))]) hs_6 rfl rfl rfl (by kernel_rfl) (by kernel_rfl) rfl (by kernel_rfl) (by kernel_rfl) rfl (by kernel_rfl) rfl (fun w_7 hs_8 => ?_)
  refine SL.nil ?_
  refine CW.ret ?_
  repeat with_reducible first | refine PThen.ret ?_ | refine PBlock.ret ?_
  refine PRet.cell (t := 2) (ty := 36) (g := g_4) (v := .agg (qStB_3 g0 g1 g2 g3 gl gr si)) rfl rfl (by kernel_rfl) (hs_8.all 1 g_4 _ rfl) (by kernel_rfl) ?_
  exact ⟨rfl, hs_8.gr⟩
abbrev qStB_0 (c : Cor) : Array Value := #[.int .i64 c.row, .int .i64 c.col, .int .u8 c.rend, .bool c.kept, .bool c.wrap, .bool c.origin, .int .i64 c.g0, .int .i64 c.g1, .int .i64 c.g2, .int .i64 c.g3, .int .i64 c.gl, .int .i64 c.gr, .int .i64 c.sg]
abbrev qStB_2 (c : Cor) : Array Value := #[.int .i64 c.g0, .int .i64 c.g1, .int .i64 c.g2, .int .i64 c.g3, .int .i64 c.gl, .int .i64 c.gr, .int .i64 c.sg]
abbrev qStB_4  : Array Value := #[.int .i64 0, .int .i64 0, .int .u8 0, .bool false, .bool false, .bool false, .int .i64 0, .int .i64 0, .int .i64 0, .int .i64 0, .int .i64 0, .int .i64 0, .int .i64 0]
set_option maxRecDepth 100000 in
set_option maxHeartbeats 4000000 in
theorem own13 (c : Cor) (w : World) : Calls Tryd.prog 9 #[.agg (qStB_0 c)] w fun e w' => e = .returned (c.cv) ∧ Gr w w' := by
  refine calls_sx (n := 20) (args := [.agg (qStB_0 c)]) Tryd.func9 rfl rfl rfl ?_
  have hs0 := Bk.init w
  refine CW.seq ?_
  refine CW.region ?_
  refine SL.new (mk := fun g => .pointer (some ⟨g, 0, none⟩)) (C := (qStB_0 c)) (T := 27) hs0 rfl rfl (by kernel_rfl) (fun g_1 w_2 hs_3 => ?_)
  have hs_3 : Bk w w_2 [(g_1, .cells (qStB_0 c) 27 (0, 0))] := hs_3
  refine SL.new (mk := fun g => .pointer (some ⟨g, 0, none⟩)) (C := (qStB_4)) (T := 38) hs_3 rfl rfl (by kernel_rfl) (fun g_4 w_5 hs_6 => ?_)
  have hs_6 : Bk w w_5 [(g_1, .cells (qStB_0 c) 27 (0, 0)), (g_4, .cells (qStB_4) 38 (0, 0))] := hs_6
  refine SL.nil ?_
  refine CW.seq ?_
  have HGR : GrL [fun v _ => v = .pointer (some ⟨g_1, 0, none⟩), fun v _ => v = .int .i64 c.row, fun v _ => v = .pointer (some ⟨g_1, 1, none⟩), fun v _ => v = .int .i64 c.col, fun v _ => v = .agg #[.int .i64 c.row, .int .i64 c.col], fun v _ => v = .pointer (some ⟨g_1, 2, none⟩), fun v _ => v = .int .u8 c.rend, fun v _ => v = .pointer (some ⟨g_1, 3, none⟩), fun v _ => v = .bool c.kept, fun v _ => v = .pointer (some ⟨g_1, 4, none⟩), fun v _ => v = .bool c.wrap, fun v _ => v = .pointer (some ⟨g_1, 5, none⟩), fun v _ => v = .bool c.origin, fun v _ => v = .pointer (some ⟨g_1, 6, none⟩), fun v _ => v = .agg (qStB_2 c), fun v _ => v = .agg (qStB_2 c)] := ⟨fun _ _ _ _ h => h, ⟨fun _ _ _ _ h => h, ⟨fun _ _ _ _ h => h, ⟨fun _ _ _ _ h => h, ⟨fun _ _ _ _ h => h, ⟨fun _ _ _ _ h => h, ⟨fun _ _ _ _ h => h, ⟨fun _ _ _ _ h => h, ⟨fun _ _ _ _ h => h, ⟨fun _ _ _ _ h => h, ⟨fun _ _ _ _ h => h, ⟨fun _ _ _ _ h => h, ⟨fun _ _ _ _ h => h, ⟨fun _ _ _ _ h => h, ⟨fun _ _ _ _ h => h, ⟨fun _ _ _ _ h => h, trivial⟩⟩⟩⟩⟩⟩⟩⟩⟩⟩⟩⟩⟩⟩⟩⟩
  refine CW.draw 16 (FW [fun v _ => v = .pointer (some ⟨g_1, 0, none⟩), fun v _ => v = .int .i64 c.row, fun v _ => v = .pointer (some ⟨g_1, 1, none⟩), fun v _ => v = .int .i64 c.col, fun v _ => v = .agg #[.int .i64 c.row, .int .i64 c.col], fun v _ => v = .pointer (some ⟨g_1, 2, none⟩), fun v _ => v = .int .u8 c.rend, fun v _ => v = .pointer (some ⟨g_1, 3, none⟩), fun v _ => v = .bool c.kept, fun v _ => v = .pointer (some ⟨g_1, 4, none⟩), fun v _ => v = .bool c.wrap, fun v _ => v = .pointer (some ⟨g_1, 5, none⟩), fun v _ => v = .bool c.origin, fun v _ => v = .pointer (some ⟨g_1, 6, none⟩), fun v _ => v = .agg (qStB_2 c), fun v _ => v = .agg (qStB_2 c)]) (fun W => Bk w W [(g_1, .cells (qStB_0 c) 27 (0, 0)), (g_4, .cells (qStB_4) 38 (0, 0))] ∧ Gr w_5 W) (by kernel_rfl) (by kernel_rfl) (by kernel_rfl) (by kernel_rfl) (by kernel_rfl) ⟨hs_6.drew, (Gr.refl _).drew⟩ ?_ ?_
  · refine ⟨?_, ⟨?_, ⟨?_, ⟨?_, ⟨?_, ⟨?_, ⟨?_, ⟨?_, ⟨?_, ⟨?_, ⟨?_, ⟨?_, ⟨?_, ⟨?_, ⟨?_, ⟨?_, trivial⟩⟩⟩⟩⟩⟩⟩⟩⟩⟩⟩⟩⟩⟩⟩⟩
    · intro L ys W hB hF hP K hK
      show OpE _ _ _ W K
      exact OpE.val (.pointer (some ⟨g_1, 0, none⟩)) W (by kernel_rfl) (hK _ W hB rfl (fun _ _ h => h))
    · intro L ys W hB hF hP K hK
      show OpE _ _ _ W K
      exact OpE.known (j := 0) (v := .pointer (some ⟨g_1, 0, none⟩)) (hF 0 (hP.1 rfl)) (OpE.load (g := g_1) (off := 0) (v := .int .i64 c.row) rfl (by kernel_rfl) (hB.1.all 0 g_1 _ rfl) (by kernel_rfl) (hK _ W hB rfl (fun _ _ h => h)))
    · intro L ys W hB hF hP K hK
      show OpE _ _ _ W K
      exact OpE.val (.pointer (some ⟨g_1, 1, none⟩)) W (by kernel_rfl) (hK _ W hB rfl (fun _ _ h => h))
    · intro L ys W hB hF hP K hK
      show OpE _ _ _ W K
      exact OpE.known (j := 2) (v := .pointer (some ⟨g_1, 1, none⟩)) (hF 2 (hP.1 rfl)) (OpE.load (g := g_1) (off := 1) (v := .int .i64 c.col) rfl (by kernel_rfl) (hB.1.all 0 g_1 _ rfl) (by kernel_rfl) (hK _ W hB rfl (fun _ _ h => h)))
    · intro L ys W hB hF hP K hK
      show OpE _ _ _ W K
      exact OpE.known (j := 1) (v := .int .i64 c.row) (hF 1 (hP.1 rfl)) (OpE.known (j := 3) (v := .int .i64 c.col) (hF 3 (hP.2.1 rfl)) (OpE.val (.agg #[.int .i64 c.row, .int .i64 c.col]) W (by kernel_rfl) (hK _ W hB rfl (fun _ _ h => h))))
    · intro L ys W hB hF hP K hK
      show OpE _ _ _ W K
      exact OpE.val (.pointer (some ⟨g_1, 2, none⟩)) W (by kernel_rfl) (hK _ W hB rfl (fun _ _ h => h))
    · intro L ys W hB hF hP K hK
      show OpE _ _ _ W K
      exact OpE.known (j := 5) (v := .pointer (some ⟨g_1, 2, none⟩)) (hF 5 (hP.1 rfl)) (OpE.load (g := g_1) (off := 2) (v := .int .u8 c.rend) rfl (by kernel_rfl) (hB.1.all 0 g_1 _ rfl) (by kernel_rfl) (hK _ W hB rfl (fun _ _ h => h)))
    · intro L ys W hB hF hP K hK
      show OpE _ _ _ W K
      exact OpE.val (.pointer (some ⟨g_1, 3, none⟩)) W (by kernel_rfl) (hK _ W hB rfl (fun _ _ h => h))
    · intro L ys W hB hF hP K hK
      show OpE _ _ _ W K
      exact OpE.known (j := 7) (v := .pointer (some ⟨g_1, 3, none⟩)) (hF 7 (hP.1 rfl)) (OpE.load (g := g_1) (off := 3) (v := .bool c.kept) rfl (by kernel_rfl) (hB.1.all 0 g_1 _ rfl) (by kernel_rfl) (hK _ W hB rfl (fun _ _ h => h)))
    · intro L ys W hB hF hP K hK
      show OpE _ _ _ W K
      exact OpE.val (.pointer (some ⟨g_1, 4, none⟩)) W (by kernel_rfl) (hK _ W hB rfl (fun _ _ h => h))
    · intro L ys W hB hF hP K hK
      show OpE _ _ _ W K
      exact OpE.known (j := 9) (v := .pointer (some ⟨g_1, 4, none⟩)) (hF 9 (hP.1 rfl)) (OpE.load (g := g_1) (off := 4) (v := .bool c.wrap) rfl (by kernel_rfl) (hB.1.all 0 g_1 _ rfl) (by kernel_rfl) (hK _ W hB rfl (fun _ _ h => h)))
    · intro L ys W hB hF hP K hK
      show OpE _ _ _ W K
      exact OpE.val (.pointer (some ⟨g_1, 5, none⟩)) W (by kernel_rfl) (hK _ W hB rfl (fun _ _ h => h))
    · intro L ys W hB hF hP K hK
      show OpE _ _ _ W K
      exact OpE.known (j := 11) (v := .pointer (some ⟨g_1, 5, none⟩)) (hF 11 (hP.1 rfl)) (OpE.load (g := g_1) (off := 5) (v := .bool c.origin) rfl (by kernel_rfl) (hB.1.all 0 g_1 _ rfl) (by kernel_rfl) (hK _ W hB rfl (fun _ _ h => h)))
    · intro L ys W hB hF hP K hK
      show OpE _ _ _ W K
      exact OpE.val (.pointer (some ⟨g_1, 6, none⟩)) W (by kernel_rfl) (hK _ W hB rfl (fun _ _ h => h))
    · intro L ys W hB hF hP K hK
      show OpE _ _ _ W K
      exact OpE.known (j := 13) (v := .pointer (some ⟨g_1, 6, none⟩)) (hF 13 (hP.1 rfl)) (OpE.load (g := g_1) (off := 6) (v := .agg (qStB_2 c)) rfl (by kernel_rfl) (hB.1.all 0 g_1 _ rfl) (by kernel_rfl) (hK _ W hB rfl (fun _ _ h => h)))
    · intro L ys W hB hF hP K hK
      show OpE _ _ _ W K
      exact OpE.known (j := 14) (v := .agg (qStB_2 c)) (hF 14 (hP.1 rfl)) (OpE.call 18 #[.agg (qStB_2 c)] W _ (by kernel_rfl) (own10 c.g0 c.g1 c.g2 c.g3 c.gl c.gr c.sg W) (fun x w' hx => by obtain ⟨rfl, hg⟩ := hx; exact ⟨_, rfl, hK _ w' ⟨hB.1.grow hg, hB.2.trans hg⟩ rfl (fun _ _ h => FW.gr HGR hg h)⟩))
  · intro ys_10 w_7 hs_8 hF_9
    have hs_8 : Bk w w_7 [(g_1, .cells (qStB_0 c) 27 (0, 0)), (g_4, .cells (qStB_4) 38 (0, 0))] := hs_8.1
    refine SL.knownY (j := 4) (v := .agg #[.int .i64 c.row, .int .i64 c.col]) (show ys_10 4 = .agg #[.int .i64 c.row, .int .i64 c.col] from hF_9 4 (by decide)) (SL.knownY (j := 6) (v := .int .u8 c.rend) (show ys_10 6 = .int .u8 c.rend from hF_9 6 (by decide)) (SL.knownY (j := 8) (v := .bool c.kept) (show ys_10 8 = .bool c.kept from hF_9 8 (by decide)) (SL.knownY (j := 10) (v := .bool c.wrap) (show ys_10 10 = .bool c.wrap from hF_9 10 (by decide)) (SL.knownY (j := 12) (v := .bool c.origin) (show ys_10 12 = .bool c.origin from hF_9 12 (by decide)) (SL.knownY (j := 15) (v := .agg (qStB_2 c)) (show ys_10 15 = .agg (qStB_2 c) from hF_9 15 (by decide)) (?_))))))
    clear hF_9 HGR
    refine SL.v (.agg (qStB_0 c)) ?_
    refine SL.store (i := 1) (g := g_4) (off := 0) (v := .agg (qStB_0 c)) (L' := [(g_1, .cells (qStB_0 c) 27 (0, 0)), (g_4, .cells (qStB_0 c) 38 (0, 0))]) hs_8 rfl rfl rfl (by kernel_rfl) (by kernel_rfl) rfl (by kernel_rfl) (by kernel_rfl) rfl (by kernel_rfl) rfl (fun w_11 hs_12 => ?_)
    refine SL.nil ?_
    refine CW.ret ?_
    repeat with_reducible first | refine PThen.ret ?_ | refine PBlock.ret ?_
    refine PRet.cell (t := 2) (ty := 38) (g := g_4) (v := .agg (qStB_0 c)) rfl rfl (by kernel_rfl) (hs_12.all 1 g_4 _ rfl) (by kernel_rfl) ?_
    exact ⟨rfl, hs_12.gr⟩
abbrev qStB_1 (c : Cor) : Array Value := #[.int .i64 c.pt, .int .i64 c.pl, .int .i64 c.pb, .int .i64 c.pr, .int .i64 c.mt, .int .i64 c.ml, .int .i64 c.mb, .int .i64 c.mr]
set_option maxRecDepth 100000 in
set_option maxHeartbeats 4000000 in
theorem frame13 (c : Cor) (w : World) : Calls Tryd.prog 10 #[.agg (qStB_1 c)] w fun e w' => e = .returned (c.fv) ∧ Gr w w' := by
  refine calls_sx (n := 8) (args := [.agg (qStB_1 c)]) Tryd.func10 rfl rfl rfl ?_
  have hs0 := Bk.init w
  refine CW.seq ?_
  refine CW.region ?_
  refine SL.new (mk := fun g => .pointer (some ⟨g, 0, none⟩)) (C := (qStB_1 c)) (T := 31) hs0 rfl rfl (by kernel_rfl) (fun g_1 w_2 hs_3 => ?_)
  have hs_3 : Bk w w_2 [(g_1, .cells (qStB_1 c) 31 (0, 0))] := hs_3
  refine SL.new (mk := fun g => .pointer (some ⟨g, 0, none⟩)) (C := #[.int .i64 0, .int .i64 0, .int .i64 0, .int .i64 0, .int .i64 0, .int .i64 0, .int .i64 0, .int .i64 0]) (T := 39) hs_3 rfl rfl (by kernel_rfl) (fun g_4 w_5 hs_6 => ?_)
  have hs_6 : Bk w w_5 [(g_1, .cells (qStB_1 c) 31 (0, 0)), (g_4, .cells #[.int .i64 0, .int .i64 0, .int .i64 0, .int .i64 0, .int .i64 0, .int .i64 0, .int .i64 0, .int .i64 0] 39 (0, 0))] := hs_6
  refine SL.nil ?_
  refine CW.seq ?_
  refine CW.region ?_
  refine SL.v (.pointer (some ⟨g_1, 0, none⟩)) ?_
  refine SL.load (g := g_1) (off := 0) (v := .agg #[.int .i64 c.pt, .int .i64 c.pl, .int .i64 c.pb, .int .i64 c.pr]) rfl rfl rfl (by kernel_rfl) (hs_6.all 0 g_1 _ rfl) (by kernel_rfl) ?_
  refine SL.v (.pointer (some ⟨g_1, 4, none⟩)) ?_
  refine SL.load (g := g_1) (off := 4) (v := .agg #[.int .i64 c.mt, .int .i64 c.ml, .int .i64 c.mb, .int .i64 c.mr]) rfl rfl rfl (by kernel_rfl) (hs_6.all 0 g_1 _ rfl) (by kernel_rfl) ?_
  refine SL.v (.agg (qStB_1 c)) ?_
  refine SL.store (i := 1) (g := g_4) (off := 0) (v := .agg (qStB_1 c)) (L' := [(g_1, .cells (qStB_1 c) 31 (0, 0)), (g_4, .cells (qStB_1 c) 39 (0, 0))]) hs_6 rfl rfl rfl (by kernel_rfl) (by kernel_rfl) rfl (by kernel_rfl) (by kernel_rfl) rfl (by kernel_rfl) rfl (fun w_7 hs_8 => ?_)
  refine SL.nil ?_
  refine CW.ret ?_
  repeat with_reducible first | refine PThen.ret ?_ | refine PBlock.ret ?_
  refine PRet.cell (t := 2) (ty := 39) (g := g_4) (v := .agg (qStB_1 c)) rfl rfl (by kernel_rfl) (hs_8.all 1 g_4 _ rfl) (by kernel_rfl) ?_
  exact ⟨rfl, hs_8.gr⟩
set_option maxRecDepth 100000 in
set_option maxHeartbeats 4000000 in
theorem own19 (c : Cor) (w : World) (hm : 0 ≤ c.modes ∧ c.modes < 4294967296) : Calls Tryd.prog 4 #[.agg (cdA c)] w fun e w' => e = .returned (c.v) ∧ Gr w w' := by
  obtain ⟨hm1, hm2⟩ := hm
  refine calls_sx (n := 27) (args := [.agg (cdA c)]) Tryd.func4 rfl rfl rfl ?_
  have hs0 := Bk.init w
  refine CW.seq ?_
  refine CW.region ?_
  refine SL.new (mk := fun g => .pointer (some ⟨g, 0, none⟩)) (C := (cdA c)) (T := 33) hs0 rfl rfl (by kernel_rfl) (fun g_1 w_2 hs_3 => ?_)
  have hs_3 : Bk w w_2 [(g_1, .cells (cdA c) 33 (0, 0))] := hs_3
  refine SL.new (mk := fun g => .pointer (some ⟨g, 0, none⟩)) (C := czA) (T := 43) hs_3 rfl rfl (by kernel_rfl) (fun g_4 w_5 hs_6 => ?_)
  have hs_6 : Bk w w_5 [(g_1, .cells (cdA c) 33 (0, 0)), (g_4, .cells czA 43 (0, 0))] := hs_6
  refine SL.nil ?_
  refine CW.seq ?_
  have HGR : GrL [fun v _ => v = .pointer (some ⟨g_1, 0, none⟩), fun v _ => v = .agg (qStB_0 c), fun v _ => v = .agg (qStB_0 c), fun v _ => v = .pointer (some ⟨g_1, 13, none⟩), fun v _ => v = .agg (qStB_1 c), fun v _ => v = .agg (qStB_1 c), fun v _ => v = .pointer (some ⟨g_1, 21, none⟩), fun v _ => v = .int .i64 c.modes, fun v _ => v = .int .u32 c.modes, fun v _ => v = .pointer (some ⟨g_1, 22, none⟩), fun v _ => v = .int .i64 c.level, fun v _ => v = .pointer (some ⟨g_1, 23, none⟩), fun v _ => v = .bool c.eight, fun v _ => v = .pointer (some ⟨g_1, 24, none⟩), fun v _ => v = .bool c.stream, fun v _ => v = .pointer (some ⟨g_1, 25, none⟩), fun v _ => v = .int .i64 c.status, fun v _ => v = .pointer (some ⟨g_1, 26, none⟩), fun v _ => v = .bool c.below, fun v _ => v = .pointer (some ⟨g_1, 27, none⟩), fun v _ => v = .int .i64 c.page, fun v _ => v = .pointer (some ⟨g_1, 28, none⟩), fun v _ => v = .int .i64 c.pages] := ⟨fun _ _ _ _ h => h, ⟨fun _ _ _ _ h => h, ⟨fun _ _ _ _ h => h, ⟨fun _ _ _ _ h => h, ⟨fun _ _ _ _ h => h, ⟨fun _ _ _ _ h => h, ⟨fun _ _ _ _ h => h, ⟨fun _ _ _ _ h => h, ⟨fun _ _ _ _ h => h, ⟨fun _ _ _ _ h => h, ⟨fun _ _ _ _ h => h, ⟨fun _ _ _ _ h => h, ⟨fun _ _ _ _ h => h, ⟨fun _ _ _ _ h => h, ⟨fun _ _ _ _ h => h, ⟨fun _ _ _ _ h => h, ⟨fun _ _ _ _ h => h, ⟨fun _ _ _ _ h => h, ⟨fun _ _ _ _ h => h, ⟨fun _ _ _ _ h => h, ⟨fun _ _ _ _ h => h, ⟨fun _ _ _ _ h => h, ⟨fun _ _ _ _ h => h, trivial⟩⟩⟩⟩⟩⟩⟩⟩⟩⟩⟩⟩⟩⟩⟩⟩⟩⟩⟩⟩⟩⟩⟩
  refine CW.draw 23 (FW [fun v _ => v = .pointer (some ⟨g_1, 0, none⟩), fun v _ => v = .agg (qStB_0 c), fun v _ => v = .agg (qStB_0 c), fun v _ => v = .pointer (some ⟨g_1, 13, none⟩), fun v _ => v = .agg (qStB_1 c), fun v _ => v = .agg (qStB_1 c), fun v _ => v = .pointer (some ⟨g_1, 21, none⟩), fun v _ => v = .int .i64 c.modes, fun v _ => v = .int .u32 c.modes, fun v _ => v = .pointer (some ⟨g_1, 22, none⟩), fun v _ => v = .int .i64 c.level, fun v _ => v = .pointer (some ⟨g_1, 23, none⟩), fun v _ => v = .bool c.eight, fun v _ => v = .pointer (some ⟨g_1, 24, none⟩), fun v _ => v = .bool c.stream, fun v _ => v = .pointer (some ⟨g_1, 25, none⟩), fun v _ => v = .int .i64 c.status, fun v _ => v = .pointer (some ⟨g_1, 26, none⟩), fun v _ => v = .bool c.below, fun v _ => v = .pointer (some ⟨g_1, 27, none⟩), fun v _ => v = .int .i64 c.page, fun v _ => v = .pointer (some ⟨g_1, 28, none⟩), fun v _ => v = .int .i64 c.pages]) (fun W => Bk w W [(g_1, .cells (cdA c) 33 (0, 0)), (g_4, .cells czA 43 (0, 0))] ∧ Gr w_5 W) (by kernel_rfl) (by kernel_rfl) (by kernel_rfl) (by kernel_rfl) (by kernel_rfl) ⟨hs_6.drew, (Gr.refl _).drew⟩ ?_ ?_
  · refine ⟨?_, ⟨?_, ⟨?_, ⟨?_, ⟨?_, ⟨?_, ⟨?_, ⟨?_, ⟨?_, ⟨?_, ⟨?_, ⟨?_, ⟨?_, ⟨?_, ⟨?_, ⟨?_, ⟨?_, ⟨?_, ⟨?_, ⟨?_, ⟨?_, ⟨?_, ⟨?_, trivial⟩⟩⟩⟩⟩⟩⟩⟩⟩⟩⟩⟩⟩⟩⟩⟩⟩⟩⟩⟩⟩⟩⟩
    · intro L ys W hB hF hP K hK
      show OpE _ _ _ W K
      exact OpE.val (.pointer (some ⟨g_1, 0, none⟩)) W (by kernel_rfl) (hK _ W hB rfl (fun _ _ h => h))
    · intro L ys W hB hF hP K hK
      show OpE _ _ _ W K
      exact OpE.known (j := 0) (v := .pointer (some ⟨g_1, 0, none⟩)) (hF 0 (hP.1 rfl)) (OpE.load (g := g_1) (off := 0) (v := .agg (qStB_0 c)) rfl (by kernel_rfl) (hB.1.all 0 g_1 _ rfl) (by kernel_rfl) (hK _ W hB rfl (fun _ _ h => h)))
    · intro L ys W hB hF hP K hK
      show OpE _ _ _ W K
      exact OpE.known (j := 1) (v := .agg (qStB_0 c)) (hF 1 (hP.1 rfl)) (OpE.call 9 #[.agg (qStB_0 c)] W _ (by kernel_rfl) (own13 c W) (fun x w' hx => by obtain ⟨rfl, hg⟩ := hx; exact ⟨_, rfl, hK _ w' ⟨hB.1.grow hg, hB.2.trans hg⟩ rfl (fun _ _ h => FW.gr HGR hg h)⟩))
    · intro L ys W hB hF hP K hK
      show OpE _ _ _ W K
      exact OpE.val (.pointer (some ⟨g_1, 13, none⟩)) W (by kernel_rfl) (hK _ W hB rfl (fun _ _ h => h))
    · intro L ys W hB hF hP K hK
      show OpE _ _ _ W K
      exact OpE.known (j := 3) (v := .pointer (some ⟨g_1, 13, none⟩)) (hF 3 (hP.1 rfl)) (OpE.load (g := g_1) (off := 13) (v := .agg (qStB_1 c)) rfl (by kernel_rfl) (hB.1.all 0 g_1 _ rfl) (by kernel_rfl) (hK _ W hB rfl (fun _ _ h => h)))
    · intro L ys W hB hF hP K hK
      show OpE _ _ _ W K
      exact OpE.known (j := 4) (v := .agg (qStB_1 c)) (hF 4 (hP.1 rfl)) (OpE.call 10 #[.agg (qStB_1 c)] W _ (by kernel_rfl) (frame13 c W) (fun x w' hx => by obtain ⟨rfl, hg⟩ := hx; exact ⟨_, rfl, hK _ w' ⟨hB.1.grow hg, hB.2.trans hg⟩ rfl (fun _ _ h => FW.gr HGR hg h)⟩))
    · intro L ys W hB hF hP K hK
      show OpE _ _ _ W K
      exact OpE.val (.pointer (some ⟨g_1, 21, none⟩)) W (by kernel_rfl) (hK _ W hB rfl (fun _ _ h => h))
    · intro L ys W hB hF hP K hK
      show OpE _ _ _ W K
      exact OpE.known (j := 6) (v := .pointer (some ⟨g_1, 21, none⟩)) (hF 6 (hP.1 rfl)) (OpE.load (g := g_1) (off := 21) (v := .int .i64 c.modes) rfl (by kernel_rfl) (hB.1.all 0 g_1 _ rfl) (by kernel_rfl) (hK _ W hB rfl (fun _ _ h => h)))
    · intro L ys W hB hF hP K hK
      show OpE _ _ _ W K
      exact OpE.known (j := 7) (v := .int .i64 c.modes) (hF 7 (hP.1 rfl)) (OpE.val (.int .u32 c.modes) W (by have hw : IntKind.u32.wrap (c.modes) = c.modes := wrap_u32 (by omega) (by omega); exact run_eqv (by kernel_rfl) (congrArg (fun z => Value.int .u32 z) hw)) (hK _ W hB rfl (fun _ _ h => h)))
    · intro L ys W hB hF hP K hK
      show OpE _ _ _ W K
      exact OpE.val (.pointer (some ⟨g_1, 22, none⟩)) W (by kernel_rfl) (hK _ W hB rfl (fun _ _ h => h))
    · intro L ys W hB hF hP K hK
      show OpE _ _ _ W K
      exact OpE.known (j := 9) (v := .pointer (some ⟨g_1, 22, none⟩)) (hF 9 (hP.1 rfl)) (OpE.load (g := g_1) (off := 22) (v := .int .i64 c.level) rfl (by kernel_rfl) (hB.1.all 0 g_1 _ rfl) (by kernel_rfl) (hK _ W hB rfl (fun _ _ h => h)))
    · intro L ys W hB hF hP K hK
      show OpE _ _ _ W K
      exact OpE.val (.pointer (some ⟨g_1, 23, none⟩)) W (by kernel_rfl) (hK _ W hB rfl (fun _ _ h => h))
    · intro L ys W hB hF hP K hK
      show OpE _ _ _ W K
      exact OpE.known (j := 11) (v := .pointer (some ⟨g_1, 23, none⟩)) (hF 11 (hP.1 rfl)) (OpE.load (g := g_1) (off := 23) (v := .bool c.eight) rfl (by kernel_rfl) (hB.1.all 0 g_1 _ rfl) (by kernel_rfl) (hK _ W hB rfl (fun _ _ h => h)))
    · intro L ys W hB hF hP K hK
      show OpE _ _ _ W K
      exact OpE.val (.pointer (some ⟨g_1, 24, none⟩)) W (by kernel_rfl) (hK _ W hB rfl (fun _ _ h => h))
    · intro L ys W hB hF hP K hK
      show OpE _ _ _ W K
      exact OpE.known (j := 13) (v := .pointer (some ⟨g_1, 24, none⟩)) (hF 13 (hP.1 rfl)) (OpE.load (g := g_1) (off := 24) (v := .bool c.stream) rfl (by kernel_rfl) (hB.1.all 0 g_1 _ rfl) (by kernel_rfl) (hK _ W hB rfl (fun _ _ h => h)))
    · intro L ys W hB hF hP K hK
      show OpE _ _ _ W K
      exact OpE.val (.pointer (some ⟨g_1, 25, none⟩)) W (by kernel_rfl) (hK _ W hB rfl (fun _ _ h => h))
    · intro L ys W hB hF hP K hK
      show OpE _ _ _ W K
      exact OpE.known (j := 15) (v := .pointer (some ⟨g_1, 25, none⟩)) (hF 15 (hP.1 rfl)) (OpE.load (g := g_1) (off := 25) (v := .int .i64 c.status) rfl (by kernel_rfl) (hB.1.all 0 g_1 _ rfl) (by kernel_rfl) (hK _ W hB rfl (fun _ _ h => h)))
    · intro L ys W hB hF hP K hK
      show OpE _ _ _ W K
      exact OpE.val (.pointer (some ⟨g_1, 26, none⟩)) W (by kernel_rfl) (hK _ W hB rfl (fun _ _ h => h))
    · intro L ys W hB hF hP K hK
      show OpE _ _ _ W K
      exact OpE.known (j := 17) (v := .pointer (some ⟨g_1, 26, none⟩)) (hF 17 (hP.1 rfl)) (OpE.load (g := g_1) (off := 26) (v := .bool c.below) rfl (by kernel_rfl) (hB.1.all 0 g_1 _ rfl) (by kernel_rfl) (hK _ W hB rfl (fun _ _ h => h)))
    · intro L ys W hB hF hP K hK
      show OpE _ _ _ W K
      exact OpE.val (.pointer (some ⟨g_1, 27, none⟩)) W (by kernel_rfl) (hK _ W hB rfl (fun _ _ h => h))
    · intro L ys W hB hF hP K hK
      show OpE _ _ _ W K
      exact OpE.known (j := 19) (v := .pointer (some ⟨g_1, 27, none⟩)) (hF 19 (hP.1 rfl)) (OpE.load (g := g_1) (off := 27) (v := .int .i64 c.page) rfl (by kernel_rfl) (hB.1.all 0 g_1 _ rfl) (by kernel_rfl) (hK _ W hB rfl (fun _ _ h => h)))
    · intro L ys W hB hF hP K hK
      show OpE _ _ _ W K
      exact OpE.val (.pointer (some ⟨g_1, 28, none⟩)) W (by kernel_rfl) (hK _ W hB rfl (fun _ _ h => h))
    · intro L ys W hB hF hP K hK
      show OpE _ _ _ W K
      exact OpE.known (j := 21) (v := .pointer (some ⟨g_1, 28, none⟩)) (hF 21 (hP.1 rfl)) (OpE.load (g := g_1) (off := 28) (v := .int .i64 c.pages) rfl (by kernel_rfl) (hB.1.all 0 g_1 _ rfl) (by kernel_rfl) (hK _ W hB rfl (fun _ _ h => h)))
  · intro ys_10 w_7 hs_8 hF_9
    have hs_8 : Bk w w_7 [(g_1, .cells (cdA c) 33 (0, 0)), (g_4, .cells czA 43 (0, 0))] := hs_8.1
    refine SL.knownY (j := 2) (v := .agg (qStB_0 c)) (show ys_10 2 = .agg (qStB_0 c) from hF_9 2 (by decide)) (SL.knownY (j := 5) (v := .agg (qStB_1 c)) (show ys_10 5 = .agg (qStB_1 c) from hF_9 5 (by decide)) (SL.knownY (j := 8) (v := .int .u32 c.modes) (show ys_10 8 = .int .u32 c.modes from hF_9 8 (by decide)) (SL.knownY (j := 10) (v := .int .i64 c.level) (show ys_10 10 = .int .i64 c.level from hF_9 10 (by decide)) (SL.knownY (j := 12) (v := .bool c.eight) (show ys_10 12 = .bool c.eight from hF_9 12 (by decide)) (SL.knownY (j := 14) (v := .bool c.stream) (show ys_10 14 = .bool c.stream from hF_9 14 (by decide)) (SL.knownY (j := 16) (v := .int .i64 c.status) (show ys_10 16 = .int .i64 c.status from hF_9 16 (by decide)) (SL.knownY (j := 18) (v := .bool c.below) (show ys_10 18 = .bool c.below from hF_9 18 (by decide)) (SL.knownY (j := 20) (v := .int .i64 c.page) (show ys_10 20 = .int .i64 c.page from hF_9 20 (by decide)) (SL.knownY (j := 22) (v := .int .i64 c.pages) (show ys_10 22 = .int .i64 c.pages from hF_9 22 (by decide)) (?_))))))))))
    clear hF_9 HGR
    refine SL.v (.agg (cvA c)) ?_
    refine SL.store (i := 1) (g := g_4) (off := 0) (v := .agg (cvA c)) (L' := [(g_1, .cells (cdA c) 33 (0, 0)), (g_4, .cells (cvA c) 43 (0, 0))]) hs_8 rfl rfl rfl (by kernel_rfl) (by kernel_rfl) rfl (by kernel_rfl) (by kernel_rfl) rfl (by kernel_rfl) rfl (fun w_11 hs_12 => ?_)
    refine SL.nil ?_
    refine CW.ret ?_
    repeat with_reducible first | refine PThen.ret ?_ | refine PBlock.ret ?_
    refine PRet.cell (t := 2) (ty := 43) (g := g_4) (v := .agg (cvA c)) rfl rfl (by kernel_rfl) (hs_12.all 1 g_4 _ rfl) (by kernel_rfl) ?_
    exact ⟨rfl, hs_12.gr⟩
end Go.Proofs.YthfipedfoofobaaDoor
