/-
  Tab stops: the fixed fact; a slice of acts that came in; the law TabsGrow.
-/
import Derived.Test.YtjdmobildcgidaaDoorTbP
import Derived.Test.YtjdmobildcgidaaDoorTbT
import Derived.ProofKit
import Derived.OpenShut
import Derived.ChangeOld
namespace Go.Proofs.YtjdmobildcgidaaDoor
set_option linter.unusedSimpArgs false
set_option linter.unusedVariables false
open Go.ChangeShapes Go.WideShapes Go.ChangeAt Go.Deep Go.RowKit
set_option linter.unusedVariables false

set_option maxRecDepth 100000 in
theorem open_acts {H : Type} {enc : TypeId × Value → H} {w : World} {base b0 : Nat} {spare : Nat → Bool} {held : Bool} {r : Reach} {v : Value} {d : DataW H} {p : List MemPlace}
    (hv : Value.okWide Tryd.prog w r b0 22 v) (h : DataW.Trod enc Tryd.prog w base spare held 22 v d p) :
    ∃ (a : Option Addr) (len cap : Nat), v = .slice a len cap ∧ IsStructs w a len 3 actF := by
  obtain ⟨a, len, cap, rfl⟩ := okWide_slice Tryd.underlying22 hv
  obtain ⟨fuel, hf⟩ := h
  refine ⟨a, len, cap, rfl, ?_⟩
  refine open_structs Tryd.underlying22 Tryd.underlying54 (by kernel_rfl) (by kernel_rfl) (by decide) actF ?_ (a := a) (len := len) (cap := cap) (by simp [Value.cells]) hf
  intro j f v n y hj ht
  match j, hj with
  | 0, hj => injection hj with hj; subst hj; obtain ⟨z, e, hw⟩ := field_int Tryd.underlying3 ht; exact ⟨z, e, hw⟩
  | 1, hj => injection hj with hj; subst hj; obtain ⟨z, e, hw⟩ := field_int Tryd.underlying3 ht; exact ⟨z, e, hw⟩
  | 2, hj => injection hj with hj; subst hj; exact field_string Tryd.underlying9 ht
  | _ + 3, hj => simp at hj

set_option maxRecDepth 100000 in
set_option maxHeartbeats 4000000 in
theorem grow_walk (a : Option Addr) (len cap : Nat) (n1 n2 : Int) (w : World) (hacts : IsStructs w a len 3 actF) (hT : TabOk w) (hM : MaxOk w) :
    Calls Tryd.prog 5 #[.slice a len cap, .int .i64 n1, .int .i64 n2] w fun e w' => e = .returned (.bool true) ∧ Gr w w' := by
  have haw := awake_any w hT
  have hpl := fun (W : World) (hg : Gr w W) => played_any 80 a len cap W (hacts.gr hg) (hT.gr hg) (hM.gr hg)
  have HT := Lib.hid hT
  clear hacts hT hM
  go_enter Tryd.func5, Tryd.ntmps5
  go_wp2_with (first
    | (go_at_call 9; (with_reducible refine haw.mono ?_); rintro e w1 ⟨rfl, hg1⟩)
    | (go_at_call 10; (with_reducible refine (hpl _ hg1).mono ?_); rintro e w2 ⟨p, v, l, rfl, hp, hst, hbl, hln, hg2⟩;
       have hT2 := HT.out.gr (hg1.trans hg2); have hr1 := resize_l p l n1 w2 hst hln)
    | (go_at_call 16; (first
        | ((with_reducible refine hr1.mono ?_); rintro e w3 ⟨rfl, hs3, hu3⟩; have hr2 := resize_l p _ n2 w3 hs3 (by rw [rszL_len]; exact clN_le _); clear hr1)
        | ((with_reducible refine hr2.mono ?_); rintro e w4 ⟨rfl, hs4, hu4⟩; have hb4 := hbl.upd (hu3.trans hu4) (by simp); have hrr1 := rresize_any (p + 1) v l n1 w4 hb4 hln; clear hr2)))
    | (go_at_call 17; (first
        | ((with_reducible refine hrr1.mono ?_); rintro e w5 ⟨v5, rfl, hb5, hg5⟩; have hrr2 := rresize_any _ v5 _ n2 w5 hb5 (by rw [rszL_len]; exact clN_le _); clear hrr1)
        | ((with_reducible refine hrr2.mono ?_); rintro e w6 ⟨v6, rfl, hb6, hg6⟩; clear hrr2; obtain ⟨va6, cap6, rfl⟩ := hb6.1.form; have hs6 := StAt.gr hs4 (hg5.trans hg6)))))
  have hlN : (rszL (rszL l n1) n2).length ≤ 500 := by rw [rszL_len]; exact clN_le _
  obtain ⟨L, hL⟩ : ∃ L, L = rszL (rszL l n1) n2 := ⟨_, rfl⟩
  rw [← hL] at hb6 hs6 hlN ⊢
  have hg56 := hg5.trans hg6
  have hgw6 : Gr w w6 := (Gr.upd (hg1.trans hg2) (hu3.trans hu4) (by simp; have := hg1.size; omega)).trans hg56
  have hgu : Upd [p] w2 w6 := (hu3.trans hu4).gr hg56
  have hT6 : TabOk w6 := HT.out.gr hgw6
  clear hL hst hbl hln hT2 hs3 hu3 hs4 hu4 hb4 hb5 hg5 hg6 hg56 hgu haw hpl
  have hcols := fun (W : World) (hg : Gr w6 W) => cols_any p _ _ W (StAt.gr hs6 hg)
  have hlist := fun (W : World) (hg : Gr w6 W) => list_any p _ _ W (StAt.gr hs6 hg) (hT6.gr hg)
  have hrlist := fun (W : World) (hg : Gr w6 W) => rlist_any _ _ L W (hb6.gr hg) hlN
  have hnl : (listF (lf L) 512).length ≤ 100000 := by have := listF_len (lf L) 512; omega
  go_wp2_with (first
    | (go_at_call 21; (with_reducible refine (hcols _ ?_).mono ?_); ((repeat (first | with_reducible exact Gr.refl _ | with_reducible assumption | with_reducible refine Gr.setCell ?_ (by simp; try omega) _ | with_reducible refine Gr.alloc ?_ _ | with_reducible refine Gr.drew ?_ | with_reducible refine Gr.drewN ?_ _ | with_reducible refine Gr.trans ?_ (by assumption)))); rintro e w7 ⟨rfl, rfl⟩)
    | (go_at_call 19; (with_reducible refine (hlist _ ?_).mono ?_); ((repeat (first | with_reducible exact Gr.refl _ | with_reducible assumption | with_reducible refine Gr.setCell ?_ (by simp; try omega) _ | with_reducible refine Gr.alloc ?_ _ | with_reducible refine Gr.drew ?_ | with_reducible refine Gr.drewN ?_ _ | with_reducible refine Gr.trans ?_ (by assumption)))); rintro e w8 ⟨va8, cap8, rfl, hown8, hg8⟩)
    | (go_at_call 20; (with_reducible refine (hrlist _ ?_).mono ?_); ((repeat (first | with_reducible exact Gr.refl _ | with_reducible assumption | with_reducible refine Gr.setCell ?_ (by simp; try omega) _ | with_reducible refine Gr.alloc ?_ _ | with_reducible refine Gr.drew ?_ | with_reducible refine Gr.drewN ?_ _ | with_reducible refine Gr.trans ?_ (by assumption)))); rintro e w9 ⟨va9, cap9, rfl, hown9, hg9⟩)
    | (go_at_call 18; (with_reducible refine (same_nums (HasRow.of_own (ownsRow_gr hown8 ?_)) (HasRow.of_own (ownsRow_gr hown9 ?_)) hnl).mono ?_); ((repeat (first | with_reducible exact Gr.refl _ | with_reducible assumption | with_reducible refine Gr.setCell ?_ (by simp; try omega) _ | with_reducible refine Gr.alloc ?_ _ | with_reducible refine Gr.drew ?_ | with_reducible refine Gr.drewN ?_ _ | with_reducible refine Gr.trans ?_ (by assumption)))); ((repeat (first | with_reducible exact Gr.refl _ | with_reducible assumption | with_reducible refine Gr.setCell ?_ (by simp; try omega) _ | with_reducible refine Gr.alloc ?_ _ | with_reducible refine Gr.drew ?_ | with_reducible refine Gr.drewN ?_ _ | with_reducible refine Gr.trans ?_ (by assumption)))); rintro e w10 ⟨rfl, hg10⟩))
  go_ret
  exact ⟨rfl, hgw6.trans (by (repeat (first | with_reducible exact Gr.refl _ | with_reducible assumption | with_reducible refine Gr.setCell ?_ (by simp; try omega) _ | with_reducible refine Gr.alloc ?_ _ | with_reducible refine Gr.drew ?_ | with_reducible refine Gr.drewN ?_ _ | with_reducible refine Gr.trans ?_ (by assumption))))⟩

theorem grow_law (a : Option Addr) (len cap : Nat) (n1 n2 : Int) (w : World) (hacts : IsStructs w a len 3 actF) (hlaid : laidMetH Tryd.prog Rows.tabsGrowRow.laid w) (hsh : w.ShapedOpen Tryd.prog) :
    Calls Tryd.prog 5 #[.slice a len cap, .int .i64 n1, .int .i64 n2] w fun e w' => e = .returned (.bool true) ∧ Gr w w' :=
  grow_walk a len cap n1 n2 w hacts (tabOk_of (by kernel_rfl) hlaid) (MaxOk.of hsh)
end Go.Proofs.YtjdmobildcgidaaDoor
