/-
  What a parser says of one sequence; the settings of a state as lists of bytes (gen_sea.py).
-/
import Derived.Lib.ConvBytes
import Derived.Test.YthfipedfoofobaaDoorZPdI
import Derived.Test.YthfipedfoofobaaDoorZStJ
import Derived.Test.YthfipedfoofobaaDoorZRyE
import Derived.Test.YthfipedfoofobaaDoorZTkBi
import Derived.Test.YthfipedfoofobaaDoorZHe
import Derived.Test.YthfipedfoofobaaDoorZFl
namespace Go.Proofs.YthfipedfoofobaaDoor
set_option linter.unusedSimpArgs false
set_option linter.unusedVariables false
open Go.RowKit
set_option linter.unusedVariables false

theorem can_range {t : Tok} (h : Can t) (hd : ∀ c ∈ t.data, 0 ≤ c ∧ c < 256) : TRange t := by
  cases h with
  | print c h => exact ⟨by show 0 ≤ c ∧ c < 256; omega, by show (0 : Int) ≤ 0 ∧ (0 : Int) < 256; omega, by simp, by simp⟩
  | ctrl c h => exact ⟨by show 0 ≤ c ∧ c < 256; omega, by show (0 : Int) ≤ 0 ∧ (0 : Int) < 256; omega, by simp, by simp⟩
  | esc c l hc hl h => exact ⟨by show 0 ≤ c ∧ c < 256; omega, by show (0 : Int) ≤ 0 ∧ (0 : Int) < 256; omega, fun x hx => by have := hl.2 x hx; omega, by simp⟩
  | csi c m ps l hc hm hp hl => exact ⟨by show 0 ≤ c ∧ c < 256; omega, by show 0 ≤ m ∧ m < 256; unfold MarkOk at hm; omega, fun x hx => by have := hl.2 x hx; omega, by simp⟩
  | dcs c m ps l d hc hm hp hl hd' => exact ⟨by show 0 ≤ c ∧ c < 256; omega, by show 0 ≤ m ∧ m < 256; unfold MarkOk at hm; omega, fun x hx => by have := hl.2 x hx; omega, hd⟩
  | str k d hk hd' => exact ⟨by show (0 : Int) ≤ 0 ∧ (0 : Int) < 256; omega, by show (0 : Int) ≤ 0 ∧ (0 : Int) < 256; omega, by simp, hd⟩
theorem split_one {w : World} {t : Tok} {e1 : Bool} {a : Option Addr} {n c : Nat} {L : List Int} (h : Can t) (hd : ∀ c ∈ t.data, 0 ≤ c ∧ c < 256) (hL : L = bytesR t e1) (hr : Rd w a n (bcells L)) :
    Calls Tryd.prog 6 #[.slice a n c] w (ToksTo w [t]) := by
  have e := bytes_back h e1
  have hin : ∀ c ∈ L, 0 ≤ c ∧ c < 256 := by rw [hL]; exact bytes_in (can_range h hd) h e1
  have hn : n ≤ 40000 := by
    have hl : L.length = n := by simpa [bcells] using hr.1
    have b1 := bytes_len h e1
    rw [← hL] at b1; omega
  rw [← hL] at e
  have := psplit_walk (cap := c) hin hn hr
  rw [e] at this
  exact this
/-- One token, said in memory. -/
def OneTo (w : World) (t : Tok) (e : Ending) (w' : World) : Prop := ∃ (g cap : Nat) (pad : List Value) (a1 : Option Addr) (c1 : Nat) (a2 : Option Addr) (c2 : Nat), e = .returned (.slice (some ⟨g, 0, none⟩) 1 cap) ∧
  w'.heap[g]? = some (.cells ⟨[.int .i64 t.kind, .int .u8 t.code, .int .u8 t.mark, .slice a1 t.params.length c1, .string (strOf t.inters), .slice a2 t.data.length c2] ++ pad⟩ 53 (0, 0)) ∧ HasRow w' 5 (.slice a2 t.data.length c2) t.data.length (bcells t.data) ∧ Gr w w'
theorem one_to {w : World} {t : Tok} {e : Ending} {w' : World} (h : ToksTo w [t] e w') : OneTo w t e w' := by
  obtain ⟨ov, qs, rfl, hA, hg⟩ := h
  obtain ⟨q, rfl⟩ : ∃ q, qs = [q] := by
    have := hA.len
    match qs, this with
    | [q], _ => exact ⟨q, rfl⟩
  have hT := hA.toks 0 t q rfl rfl
  obtain ⟨h1, ⟨_, h2⟩ | ⟨g, cap, cur, rfl, h3, h4, h5, h6, h7, h8⟩⟩ := hA.row
  · cases h2
  · obtain ⟨a1, c1, e1⟩ := hT.params.form
    obtain ⟨a2, c2, e2⟩ := hT.data.form
    obtain ⟨q1, q2⟩ := q
    simp only at e1 e2
    subst e1; subst e2
    have hcur : cur = ⟨[.int .i64 t.kind, .int .u8 t.code, .int .u8 t.mark, .slice a1 t.params.length c1, .string (strOf t.inters), .slice a2 t.data.length c2] ++ cur.toList.drop 6⟩ := by
      apply Array.ext'
      show cur.toList = tsCells [t] [(.slice a1 t.params.length c1, .slice a2 t.data.length c2)] ++ cur.toList.drop 6
      conv => rhs; rw [← h8]
      exact (List.take_append_drop _ _).symm
    rw [hcur] at h4
    exact ⟨g, cap, cur.toList.drop 6, a1, c1, a2, c2, rfl, h4, hT.data, hg⟩
theorem split_1 {w : World} {t : Tok} {a : Option Addr} {n c : Nat} {L : List Int} (h : Can t) (hd : ∀ c ∈ t.data, 0 ≤ c ∧ c < 256) (hL : L = bytesR t false) (hr : HasRow w 5 (.slice a n c) n (bcells L)) :
    Calls Tryd.prog 6 #[.slice a n c] w (OneTo w t) := (split_one h hd hL hr.rd_).mono fun e w' k => one_to k
theorem strOf_apE (a b : List Int) : strOf (a ++ b) = strOf a ++ strOf b := by
  apply ByteArray.ext
  apply Array.ext'
  simp only [strOf, List.map_append, ByteArray.data_append, Array.toList_append]
/-- A setting's sequence. -/
def setT (C : Int) (I L : List Int) : Tok := ⟨4, C, 0, L, I, []⟩
/-- .. and as what is told. -/
def dcsT (l : List Int) : Tok := ⟨5, 114, 0, [1], [36], l⟩
theorem setT_can {C : Int} {I L : List Int} (hC : 64 ≤ C ∧ C ≤ 126) (hI : IntsOk I) (hL : NumsL L) : Can (setT C I L) := .csi C 0 L I hC (.inl rfl) hL hI
theorem setT_bytes (C : Int) (I L : List Int) : [27, 91] ++ (fmtR L ++ (I ++ [C])) = bytesR (setT C I L) false := by
  show _ = [27, 91] ++ (([] ++ fmtR L) ++ I ++ [C]) ++ []
  simp
theorem dcsT_can {l : List Int} (h : DatOk l) : Can (dcsT l) := .dcs 114 0 [1] [36] l (by decide) (.inl rfl) ⟨by decide, by decide⟩ ⟨by decide, by decide⟩ h
theorem set_dat {L : List Int} {B : List Int} (hB : B.length ≤ 5) (hd : ∀ c ∈ B, dataOk c = true) : DatOk (fmtR L ++ B) := by
  refine ⟨?_, fun c hc => ?_⟩
  · have := fmtGo_len (L.take 30)
    have h2 : (L.take 30).length ≤ 30 := by simp; omega
    rw [List.length_append]
    unfold fmtR
    omega
  · rcases List.mem_append.1 hc with hc | hc
    · have := fmtR_in2 L c hc
      unfold dataOk
      simp only [Bool.or_eq_true, Bool.and_eq_true, decide_eq_true_eq]
      omega
    · exact hd c hc
theorem set_b {L : List Int} {B : List Int} (hd : ∀ c ∈ B, 0 ≤ c ∧ c < 256) : ∀ c ∈ fmtR L ++ B, 0 ≤ c ∧ c < 256 := fun c hc => by
  rcases List.mem_append.1 hc with hc | hc
  · have := fmtR_in2 L c hc; omega
  · exact hd c hc
theorem set_l {L : List Int} {B : List Int} (hB : B.length ≤ 5) : (fmtR L ++ B).length ≤ 1000 := by
  have := fmtGo_len (L.take 30)
  have h2 : (L.take 30).length ≤ 30 := by simp; omega
  rw [List.length_append]
  unfold fmtR
  omega
theorem cat_b {a b : List Int} (ha : ∀ c ∈ a, 0 ≤ c ∧ c < 256) (hb : ∀ c ∈ b, 0 ≤ c ∧ c < 256) : ∀ c ∈ a ++ b, 0 ≤ c ∧ c < 256 := fun c hc => by
  rcases List.mem_append.1 hc with hc | hc
  · exact ha c hc
  · exact hb c hc
theorem nums_strL {l : List Int} (h : ∀ c ∈ l, 0 ≤ c ∧ c < 256) : nums (strOf l) = l := by
  show ((l.map fun c => UInt8.ofNat c.toNat).map fun b => (b.toNat : Int)) = l
  rw [List.map_map]
  conv => rhs; rw [← List.map_id l]
  refine List.map_congr_left fun c hc => ?_
  have := h c hc
  show ((UInt8.ofNat c.toNat).toNat : Int) = c
  rw [UInt8.toNat_ofNat']
  omega
theorem hasRow_1 {w : World} {g : Nat} (hb : w.heap[g]? = some (.cells #[.int .i64 1] 3 (0, 0))) : HasRow w 3 (.slice (some ⟨g, 0, none⟩) 1 1) 1 (icells [1]) :=
  ⟨rfl, .inr ⟨g, 1, _, rfl, ⟨_, hb⟩, Nat.le_refl _, Nat.le_refl _, rfl⟩⟩
theorem dcs_set {w : World} {l : List Int} {g : Nat} (hb : w.heap[g]? = some (.cells #[.int .i64 1] 3 (0, 0))) (hl : DatOk l) (hr : ∀ c ∈ l, 0 ≤ c ∧ c < 256) (hT : tabT w) :
    Calls Tryd.prog 8 #[.bool false, .string ⟨#[36, 114]⟩, .string (strOf l), .slice (some ⟨g, 0, none⟩) 1 1] w fun e w' => ∃ (va : Option Addr) (vc : Nat), e = .returned (.slice va (bytesR (dcsT l) false).length vc) ∧ HasRow w' 5 (.slice va (bytesR (dcsT l) false).length vc) (bytesR (dcsT l) false).length (bcells (bytesR (dcsT l) false)) ∧ Gr w w' := by
  have h := dcs_any (d := strOf l) (s := ⟨#[36, 114]⟩) false (hasRow_1 hb) (by decide) (by decide) hT
  have e : funT 5 (nums ⟨#[36, 114]⟩) [1] (nums (strOf l)) = dcsT l := by
    rw [nums_strL hr]
    rfl
  have e2 : ansR (dcsT l) false = bytesR (dcsT l) false := if_pos (check_can0 (dcsT_can hl))
  rw [e] at h
  unfold AnsOwn at h
  rw [e2] at h
  refine h.mono ?_
  rintro x w' ⟨va, vc, rfl, ho, hg⟩
  exact ⟨va, vc, rfl, HasRow.of_own ho, hg⟩
section
variable {P : Program} {n : Nat} {ops : Array Oper} {lo : List Oper} {Q : Post} {e : Nat → Value} {w : World} {o : Oper}
/-- A text as bytes. -/
theorem SL.bytesR {src dst : TypeId} {td : TypeDesc} {x : Operand} {l : List Int} (hg : o.guard = none) (hd : dok n o.dst = true) (ho : o.op = .convert src dst x) (hsrc : P.underlying src = some td) (hdst : P.underlying dst = some (.slice 5)) (he : P.underlying 5 = some (.int .u8)) (hx : evE e x = .string (strOf l)) (hl : ∀ c ∈ l, 0 ≤ c ∧ c < 256)
    (h : ∀ g cap w', HasRow w' 5 (.slice (some ⟨g, 0, none⟩) l.length cap) l.length (bcells l) → Gr w w' → SL P n ops Q lo (dput e o.dst (.slice (some ⟨g, 0, none⟩) l.length cap)) w') : SL P n ops Q (o :: lo) e w := by
  have hr := Lib.run_convert_string_bytes (P := P) w src dst 5 (strOf l) hsrc hdst he
  have h1 := hasRow_text w (strOf l)
  rw [nums_strL hl] at h1
  have hs : (strOf l).size = l.length := strOf_sz l
  rw [hs] at h1 hr
  refine SL.val hg hd ?_ (h w.heap.size _ _ h1 ((Gr.refl w).bytesWorld 5 (strOf l)))
  unfold execOp
  simp only [ho, hx, Sem.run_bind, hr, Result.andThen_ok, Sem.run_pure]
theorem run_catL {w : World} {x y : Operand} {t t' : TypeId} {a b : List Int} (ho : o.op = .binOp .add t x y t') (hx : evE e x = .string (strOf a)) (hy : evE e y = .string (strOf b)) (ha : a.length ≤ 100000) (hb : b.length ≤ 100000) :
    (execOp (evE e) o).run P w = .ok (.value (.string (strOf (a ++ b)))) w := by
  rw [strOf_apE]
  refine run_cat ho hx hy ?_ ?_
  · have := strOf_sz a; omega
  · have := strOf_sz b; omega
end
theorem setl_0 (c : Cor) (w : World) (hok : c.Ok) (hT : tabT w) : Calls Tryd.prog 5 #[.agg (cvA c), .string ⟨#[109]⟩] w fun e w' => e = .returned (.tuple #[.string (strOf (fmtR (rpar c.clean.rend) ++ [109])), .bool true]) ∧ Gr w w' := by
  rw [strOf_apE]
  exact set_0 c w hok hT
theorem setl_1 (c : Cor) (w : World) (hok : c.Ok) (hT : tabT w) : Calls Tryd.prog 5 #[.agg (cvA c), .string ⟨#[114]⟩] w fun e w' => e = .returned (.tuple #[.string (strOf (fmtR ([c.clean.mt + 1, c.clean.mb]) ++ [114])), .bool true]) ∧ Gr w w' := by
  rw [strOf_apE]
  exact set_1 c w hok hT
theorem setl_2 (c : Cor) (w : World) (hok : c.Ok) (hT : tabT w) : Calls Tryd.prog 5 #[.agg (cvA c), .string ⟨#[115]⟩] w fun e w' => e = .returned (.tuple #[.string (strOf (fmtR ([c.clean.ml + 1, c.clean.mr]) ++ [115])), .bool true]) ∧ Gr w w' := by
  rw [strOf_apE]
  exact set_2 c w hok hT
theorem setl_3 (c : Cor) (w : World) (hok : c.Ok) (hT : tabT w) : Calls Tryd.prog 5 #[.agg (cvA c), .string ⟨#[34, 113]⟩] w fun e w' => e = .returned (.tuple #[.string (strOf (fmtR ([flagZ c.clean.kept]) ++ [34, 113])), .bool true]) ∧ Gr w w' := by
  rw [strOf_apE]
  exact set_3 c w hok hT
theorem setl_4 (c : Cor) (w : World) (hok : c.Ok) (hT : tabT w) : Calls Tryd.prog 5 #[.agg (cvA c), .string ⟨#[34, 112]⟩] w fun e w' => e = .returned (.tuple #[.string (strOf (fmtR ([60 + c.clean.level, flagZ (!c.clean.eight)]) ++ [34, 112])), .bool true]) ∧ Gr w w' := by
  rw [strOf_apE]
  exact set_4 c w hok hT
theorem setl_5 (c : Cor) (w : World) (hok : c.Ok) (hT : tabT w) : Calls Tryd.prog 5 #[.agg (cvA c), .string ⟨#[42, 120]⟩] w fun e w' => e = .returned (.tuple #[.string (strOf (fmtR ([2 - flagZ c.clean.stream]) ++ [42, 120])), .bool true]) ∧ Gr w w' := by
  rw [strOf_apE]
  exact set_5 c w hok hT
theorem setl_6 (c : Cor) (w : World) (hok : c.Ok) (hT : tabT w) : Calls Tryd.prog 5 #[.agg (cvA c), .string ⟨#[116]⟩] w fun e w' => e = .returned (.tuple #[.string (strOf (fmtR ([c.clean.pb]) ++ [116])), .bool true]) ∧ Gr w w' := by
  rw [strOf_apE]
  exact set_6 c w hok hT
theorem setl_7 (c : Cor) (w : World) (hok : c.Ok) (hT : tabT w) : Calls Tryd.prog 5 #[.agg (cvA c), .string ⟨#[36, 124]⟩] w fun e w' => e = .returned (.tuple #[.string (strOf (fmtR ([c.clean.pr]) ++ [36, 124])), .bool true]) ∧ Gr w w' := by
  rw [strOf_apE]
  exact set_7 c w hok hT
theorem setl_8 (c : Cor) (w : World) (hok : c.Ok) (hT : tabT w) : Calls Tryd.prog 5 #[.agg (cvA c), .string ⟨#[36, 126]⟩] w fun e w' => e = .returned (.tuple #[.string (strOf (fmtR ([c.clean.status]) ++ [36, 126])), .bool true]) ∧ Gr w w' := by
  rw [strOf_apE]
  exact set_8 c w hok hT
theorem setl_9 (c : Cor) (w : World) (hok : c.Ok) (hT : tabT w) : Calls Tryd.prog 5 #[.agg (cvA c), .string ⟨#[36, 125]⟩] w fun e w' => e = .returned (.tuple #[.string (strOf (fmtR ([flagZ c.clean.below]) ++ [36, 125])), .bool true]) ∧ Gr w w' := by
  rw [strOf_apE]
  exact set_9 c w hok hT
theorem one_nums {a : Int} (h : 0 ≤ a ∧ a ≤ 65535) : NumsL [a] := ⟨by simp, by simpa using h⟩
theorem two_nums {a b : Int} (h : 0 ≤ a ∧ a ≤ 65535) (k : 0 ≤ b ∧ b ≤ 65535) : NumsL [a, b] := ⟨by simp, by simp; omega⟩
theorem rpar_nums (r : Int) : NumsL (rpar r) := by
  unfold rpar rparL
  cases (r % 2 == 1) <;> cases (r / 2 % 2 == 1) <;> cases (r / 4 % 2 == 1) <;> cases (r / 8 % 2 == 1) <;> cases (r / 16 % 2 == 1) <;> exact ⟨by decide, by decide⟩
theorem innerE (pb pr mt ml mb mr : Int) : 0 ≤ (innerZ pb pr mt ml mb mr).1 ∧ (innerZ pb pr mt ml mb mr).1 < (innerZ pb pr mt ml mb mr).2.2.1 ∧ (innerZ pb pr mt ml mb mr).2.2.1 ≤ max 0 (max 1 pb) ∧ 0 ≤ (innerZ pb pr mt ml mb mr).2.1 ∧ (innerZ pb pr mt ml mb mr).2.1 < (innerZ pb pr mt ml mb mr).2.2.2 ∧ (innerZ pb pr mt ml mb mr).2.2.2 ≤ max 0 (max 1 pr) := by
  unfold innerZ
  split
  · unfold wholeZ; simp only; omega
  · rename_i h
    have hm : ∀ m : Int × Int × Int × Int, m = meetZ 0 0 (max 0 (max 1 pb)) (max 0 (max 1 pr)) mt ml mb mr → emptyZ m.1 m.2.1 m.2.2.1 m.2.2.2 = false → 0 ≤ m.1 ∧ m.1 < m.2.2.1 ∧ m.2.2.1 ≤ max 0 (max 1 pb) ∧ 0 ≤ m.2.1 ∧ m.2.1 < m.2.2.2 ∧ m.2.2.2 ≤ max 0 (max 1 pr) := by
      intro m hm he
      have hq := empty_f he
      unfold meetZ at hm
      split at hm
      · subst hm; simp only at hq; omega
      · subst hm; simp only at hq ⊢; omega
    exact hm _ rfl (by simpa using h)
/-- What PhosphorSet asks of a state. -/
structure SmallS (c : Cor) : Prop where
  modes : 0 ≤ c.modes ∧ c.modes < 4294967296
  pb : c.pb ≤ 60000
  pr : c.pr ≤ 60000
theorem set_nums {c : Cor} (hok : c.Ok) (h : SmallS c) : NumsL (rpar c.clean.rend) ∧ NumsL ([c.clean.mt + 1, c.clean.mb]) ∧ NumsL ([c.clean.ml + 1, c.clean.mr]) ∧ NumsL ([flagZ c.clean.kept]) ∧ NumsL ([60 + c.clean.level, flagZ (!c.clean.eight)]) ∧ NumsL ([2 - flagZ c.clean.stream]) ∧ NumsL ([c.clean.pb]) ∧ NumsL ([c.clean.pr]) ∧ NumsL ([c.clean.status]) ∧ NumsL ([flagZ c.clean.below]) := by
  have hf := innerE c.pb c.pr c.mt c.ml c.mb c.mr
  have m1 : c.clean.mt = (innerZ c.pb c.pr c.mt c.ml c.mb c.mr).1 := rfl
  have m2 : c.clean.ml = (innerZ c.pb c.pr c.mt c.ml c.mb c.mr).2.1 := rfl
  have m3 : c.clean.mb = (innerZ c.pb c.pr c.mt c.ml c.mb c.mr).2.2.1 := rfl
  have m4 : c.clean.mr = (innerZ c.pb c.pr c.mt c.ml c.mb c.mr).2.2.2 := rfl
  have m5 : c.clean.pb = max 0 (max 1 c.pb) := rfl
  have m6 : c.clean.pr = max 0 (max 1 c.pr) := rfl
  have h5 := clipz_in c.level 1 5 (by decide)
  have h2 := clipz_in c.status 0 2 (by decide)
  have m8 : c.clean.level = clipZ c.level 1 5 := rfl
  have m9 : c.clean.status = clipZ c.status 0 2 := rfl
  have f1 := flag_in c.clean.kept
  have f2 := flag_in (!c.clean.eight)
  have f3 := flag_in c.clean.stream
  have f4 := flag_in c.clean.below
  have hb := h.pb
  have hr := h.pr
  refine ⟨?_, ?_, ?_, ?_, ?_, ?_, ?_, ?_, ?_, ?_⟩
  · exact rpar_nums _
  · exact two_nums (by omega) (by omega)
  · exact two_nums (by omega) (by omega)
  · exact one_nums (by omega)
  · exact two_nums (by omega) (by omega)
  · exact one_nums (by omega)
  · exact one_nums (by omega)
  · exact one_nums (by omega)
  · exact one_nums (by omega)
  · exact one_nums (by omega)
end Go.Proofs.YthfipedfoofobaaDoor
