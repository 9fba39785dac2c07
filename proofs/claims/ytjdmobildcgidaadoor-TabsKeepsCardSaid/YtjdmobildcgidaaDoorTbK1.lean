/-
  Tab stops: the law TabsKeeps.
-/
import Derived.Test.YtjdmobildcgidaaDoorTbR
import Derived.Deep.DeepCutAuto
namespace Go.Proofs.YtjdmobildcgidaaDoor
set_option linter.unusedSimpArgs false
set_option linter.unusedVariables false
open Go.RowKit
set_option linter.unusedVariables false

/-- Some row of so many numbers of the call's own. -/
def SomeI (B : Nat) (w : World) (v : Value) (n : Nat) : Prop := ∃ xs, w.ownsRow B 3 1 v n xs
theorem SomeI.at_ {B : Nat} {w : World} {va : Option Addr} {n cap k : Nat} (h : SomeI B w (.slice va n cap) n) (hk : k < n) : ∃ g u, va = some ⟨g, 0, none⟩ ∧ B ≤ g ∧ w.cell? ⟨g, k, none⟩ = some u ∧ w.frozen? ⟨g, k, none⟩ = false := by
  obtain ⟨xs, h⟩ := h
  obtain ⟨g, cap', hv, hB, ⟨u, hu⟩, hf⟩ := own_cell h hk
  injection hv with e1 e2 e3
  exact ⟨g, u, e1, hB, hu, hf⟩
theorem SomeI.set {B : Nat} {w : World} {g n cap k : Nat} (h : SomeI B w (.slice (some ⟨g, 0, none⟩) n cap) n) (u : Value) : SomeI B (w.setCell ⟨g, k, none⟩ u) (.slice (some ⟨g, 0, none⟩) n cap) n := by
  obtain ⟨xs, h0, h⟩ := h
  rcases h with ⟨hv, _⟩ | ⟨g', cap', cur, hv, hB, hh, hn, hm, hc, ht⟩
  · cases hv
  · injection hv with e1 e2 e3
    injection e1 with e1
    injection e1 with e1
    subst e1 e3
    refine ⟨_, ?_, .inr ⟨g, cap, cur.setIfInBounds k u, rfl, hB, blk_set hh k u, hn, hm, by simpa using hc, rfl⟩⟩
    simp only [Array.toList_setIfInBounds, List.length_take, List.length_set, Array.length_toList, hc]
    omega

theorem HasRow.far {w w' : World} {K : List Nat} {e n : Nat} {v : Value} {xs : List Value} (h : HasRow w e v n xs) (hu : Upd K w w') (hK : ∀ k, v.ownBlock = some k → k ∉ K) : HasRow w' e v n xs := h.same fun k hk => hu.block k (h.blk hk) (hK k hk)

section
variable {P : Program} {ops : Array Oper} {rest : List Oper} {u : Oper} {a : Act} {w : World} {Q : Exit → Act → World → Prop}
/-- append, told by the block that may turn. -/
theorem wpList_addU (hgd : u.guard = none) (x y : Operand) (t tx : TypeId) (hu : u.op = .call { callee := .builtin .append, args := #[x, y], argTypes := #[t, tx] })
    (e : TypeId) (z : Value) (bytes : Nat) (ht : P.underlying t = some (.slice e)) (hinfo : (P.info? e).map (fun i => (i.zero, i.size, i.bytes)) = some (some z, 1, bytes)) (hzs : z.cells.size = 1) (hby : bytes ≤ 1000)
    (B : Nat) (v : Value) (n : Nat) (xs : List Value) (hx : a.eval x = v) (hown : w.ownsRow B e 1 v n xs) (hB : B ≤ w.heap.size)
    (yv : Value) (m : Nat) (news : List Value) (hy : a.eval y = yv) (hs : Src P 1 tx yv m news w) (hn : n + m ≤ 100000000)
    (H : ∀ va cap w', w'.ownsRow B e 1 (.slice va (n + m) cap) (n + m) (xs ++ news) → Upd v.ownBlock.toList w w' → wpList P ops Q rest (a.put u.dst (.slice va (n + m) cap)) w') : wpList P ops Q (u :: rest) a w :=
  wpList_plain hgd fun _ hK => by
    obtain ⟨i0, hi0, hz0, hz1, hz2⟩ := info_parts hinfo
    obtain ⟨v', w', hrun, h2, h3, _⟩ := run_append_src_own (P := P) w B t tx u.type e i0 z 1 bytes ht hi0 hz0 hz1 hz2 hzs (by omega) v n xs hown yv m news hs (by simp only [maxLen]; omega)
      (by have : (n + m) * bytes ≤ (n + m) * 1000 := Nat.mul_le_mul_left _ hby; omega) hB
    obtain ⟨va, cap, rfl⟩ := row_form h2
    unfold Oper.wp execOp
    simp only [hu, resolve, invoke, builtin, Sem.run_bind, Sem.run_pure, Result.andThen_ok, List.map_toArray, List.map_cons, List.map_nil, hx, hy, hrun]
    exact hK _ _ (H va cap w' h2 (Upd.of_grown h3))
end

set_option maxRecDepth 100000 in
set_option maxHeartbeats 4000000 in
theorem keeps_walk (a : Option Addr) (len cap : Nat) (w : World) (hacts : IsStructs w a len 3 actF) (hT : TabOk w) (hM : MaxOk w) :
    Calls Tryd.prog 6 #[.slice a len cap] w fun e w' => e = .returned (.bool true) ∧ Gr w w' := by
  have haw := awake_any w hT
  have hpl := fun (W : World) (hg : Gr w W) => played_any 70 a len cap W (hacts.gr hg) (hT.gr hg) (hM.gr hg)
  have HT := Lib.hid hT
  clear hacts hT hM
  go_enter Tryd.func6, Tryd.ntmps6
  go_wp2_with fail
  (with_reducible refine haw.mono ?_)
  rintro e w1 ⟨rfl, hg1⟩
  go_wp2_with fail
  (with_reducible refine (hpl _ hg1).mono ?_)
  rintro e w2 ⟨p, v, l, rfl, hp, hst, hbl, hln, hg2⟩
  have hgw2 := hg1.trans hg2
  have hT2 := HT.out.gr hgw2
  clear haw hpl hg1 hg2 HT
  have hlist := fun (W : World) (hs : StAt W p (l.length : Nat) (lf l)) (hT : TabOk W) => list_any p _ _ W hs hT
  have hst : StAt w2 p (l.length : Nat) (lf l) := hst
  have hpl := lt_of_cell hst.cell0
  have hvl := fun k hk => hbl.1.blk (k := k) hk
  obtain ⟨L, hL⟩ : ∃ L, L = listF (lf l) 512 := ⟨_, rfl⟩
  have hLn : L.length ≤ 512 := by rw [hL]; exact listF_len _ _
  have hrl := fun (W : World) (hb : BL (p + 1) W v l) => rlist_any _ _ l W hb hln
  have hsame := fun (W : World) (v1 v2 : Value) (h1 : HasRow W 3 v1 L.length (ncells L)) (h2 : HasRow W 3 v2 L.length (ncells L)) => same_nums h1 h2 (by omega)
  rw [← hL] at hlist hrl
  have HST := Lib.hid hst
  have HBL := Lib.hid hbl
  have HT := Lib.hid hT2
  have HV := Lib.hid hvl
  clear hst hbl hL hln hT2 hvl
  go_wp2_with fail
  (with_reducible refine (hlist _ HST.out HT.out).mono ?_)
  rintro e w3 ⟨va, ca, rfl, hownA, hg3⟩
  go_wp2_with fail
  (with_reducible refine (hlist _ (StAt.gr HST.out hg3) (HT.out.gr hg3)).mono ?_)
  rintro e w4 ⟨vb, cb, rfl, hownB, hg4⟩
  have hg24 := hg3.trans hg4
  have hT4 := HT.out.gr hg24
  have hst4 := StAt.gr HST.out hg24
  have hbl4 := HBL.out.gr hg24
  have hrb4 := HasRow.of_own hownB
  have hkA : ∀ k ∈ (Value.slice va L.length ca).ownBlock.toList, w2.heap.size ≤ k ∧ k < w3.heap.size := fun k hk => by
    simp at hk
    exact ⟨ownsRow_base hownA hk, ownsRow_blk hownA hk⟩
  have hkB : ∀ k, (Value.slice vb L.length cb).ownBlock = some k → k ∉ (Value.slice va L.length ca).ownBlock.toList := fun k hk hm => by
    have h1 := ownsRow_base hownB hk
    have h2 := hkA k hm
    omega
  have hSA : SomeI w2.heap.size w4 (.slice va L.length ca) L.length := ⟨_, ownsRow_gr hownA hg4⟩
  have hws : w2.heap.size ≤ w4.heap.size := hg24.size
  have hgw4 := hgw2.trans hg24
  have hkw : ∀ k ∈ (Value.slice va L.length ca).ownBlock.toList, w.heap.size ≤ k := fun k hk => Nat.le_trans hgw2.size (hkA k hk).1
  have hfin : ∀ W, Upd (Value.slice va L.length ca).ownBlock.toList w4 W → Gr w W ∧ TabOk W ∧ StAt W p (l.length : Nat) (lf l) ∧ BL (p + 1) W v l ∧ HasRow W 3 (.slice vb L.length cb) L.length (ncells L) := fun W hu => by
    refine ⟨Gr.upd hgw4 hu hkw, ?_, hu.blk hst4 (fun hm => by have := (hkA p hm).1; omega), ⟨HasRow.far hbl4.1 hu (fun k hk hm => by have h1 := HV.out k hk; have h2 := (hkA k hm).1; omega), hbl4.2⟩, HasRow.far hrb4 hu hkB⟩
    have hg2W : Gr w2 W := Gr.upd hg24 hu fun k hk => (hkA k hk).1
    exact HT.out.gr hg2W
  have HF := Lib.hid hfin
  have HKA := Lib.hid hkA
  clear hfin hkA hkB hkw hownA hownB hrb4 hst4 hbl4 hT4 hg3 hg4 hgw4 hg24
  go_wp2_with fail
  go_loopw [25] (fun i wr => ∃ k : Nat, k ≤ L.length ∧ i = .int .i64 k ∧ Upd (Value.slice va L.length ca).ownBlock.toList w4 wr ∧ SomeI w2.heap.size wr (.slice va L.length ca) L.length) (fun i _ => L.length - (intOf i).toNat)
  case atStart => exact ⟨0, Nat.zero_le _, rfl, .refl _ _, hSA⟩
  case round =>
    clear hSA
    obtain ⟨k, hk, rfl, hu, hSB⟩ := hrel
    by_cases hlt : k < L.length
    · obtain ⟨g, x, rfl, hg, hc, hf⟩ := hSB.at_ hlt
      have hkn : (k : Int) < (L.length : Int) := by omega
      have hgl := lt_of_cell hc
      go_wp2_with fail
      go_roundw
      case rel => exact ⟨k + 1, by omega, by go_num, hu.setCell (by simp [Value.ownBlock]) _, hSB.set _⟩
      case measure => simp [intOf]; omega
    · have hkn : ¬ (k : Int) < (L.length : Int) := by omega
      obtain ⟨xs, hown⟩ := hSB
      have hwr := hu.size
      go_wp2_with (at_builtin; (refine wpList_addU rfl _ _ _ _ rfl 3 _ 8 intsT intI rfl (by omega) w2.heap.size _ L.length xs rfl (ownsRow_gr hown ((Gr.refl _).alloc _)) (by simp; omega) _ 3 [.int .i64 1, .int .i64 2, .int .i64 3] rfl (src_block intsT _ (heap_alloc_new _ _) rfl (by simp [Value.oneCell'])) (by omega) ?_); intro va2 cap2 w6 hown6 hu6)
      obtain ⟨hgw6, hT6, hst6, hbl6, hrb6⟩ := HF.out w6 ((hu.alloc _).trans hu6)
      have hT7 := fun (W : World) (hg : Gr w6 W) => hT6.gr hg
      clear hown hown6 hu6 hu
      go_wp2_with (first
        | (go_at_call 20; (with_reducible refine (hrl _ hbl6).mono ?_); rintro e w7 ⟨v7, c7, rfl, hown7, hg7⟩)
        | (go_at_call 19; (with_reducible refine (hlist _ (StAt.gr hst6 ?_) (hT6.gr ?_)).mono ?_); ((repeat (first | with_reducible exact Gr.refl _ | with_reducible assumption | with_reducible refine Gr.setCell ?_ (by simp; try omega) _ | with_reducible refine Gr.alloc ?_ _ | with_reducible refine Gr.drew ?_ | with_reducible refine Gr.drewN ?_ _ | with_reducible refine Gr.trans ?_ (by assumption)))); ((repeat (first | with_reducible exact Gr.refl _ | with_reducible assumption | with_reducible refine Gr.setCell ?_ (by simp; try omega) _ | with_reducible refine Gr.alloc ?_ _ | with_reducible refine Gr.drew ?_ | with_reducible refine Gr.drewN ?_ _ | with_reducible refine Gr.trans ?_ (by assumption)))); rintro e w8 ⟨v8, c8, rfl, hown8, hg8⟩)
        | (go_at_call 18; (first
           | ((with_reducible refine (hsame _ _ _ (HasRow.gr hrb6 hg7) (HasRow.of_own hown7)).mono ?_); rintro e w9 ⟨rfl, hg9⟩)
           | ((with_reducible refine (hsame _ _ _ (HasRow.of_own hown8) (HasRow.gr hrb6 ?_)).mono ?_); ((repeat (first | with_reducible exact Gr.refl _ | with_reducible assumption | with_reducible refine Gr.setCell ?_ (by simp; try omega) _ | with_reducible refine Gr.alloc ?_ _ | with_reducible refine Gr.drew ?_ | with_reducible refine Gr.drewN ?_ _ | with_reducible refine Gr.trans ?_ (by assumption)))); rintro e w10 ⟨rfl, hg10⟩))))
      go_ret
      exact ⟨rfl, hgw6.trans (by (repeat (first | with_reducible exact Gr.refl _ | with_reducible assumption | with_reducible refine Gr.setCell ?_ (by simp; try omega) _ | with_reducible refine Gr.alloc ?_ _ | with_reducible refine Gr.drew ?_ | with_reducible refine Gr.drewN ?_ _ | with_reducible refine Gr.trans ?_ (by assumption))))⟩

theorem keeps_law (a : Option Addr) (len cap : Nat) (w : World) (hacts : IsStructs w a len 3 actF) (hlaid : laidMetH Tryd.prog Rows.tabsKeepsRow.laid w) (hsh : w.ShapedOpen Tryd.prog) :
    Calls Tryd.prog 6 #[.slice a len cap] w fun e w' => e = .returned (.bool true) ∧ Gr w w' :=
  keeps_walk a len cap w hacts (tabOk_of (by kernel_rfl) hlaid) (MaxOk.of hsh)
end Go.Proofs.YtjdmobildcgidaaDoor
