/-
  The plain tables of the document's answer for the sets of characters; no program in sight.
-/
import Derived.Test.YtomflpkokcldeaaCsTab
namespace Go.Proofs.Ytomflpkokcldeaa
set_option linter.unusedSimpArgs false
set_option linter.unusedVariables false
def specL : List Int := [32, 9670, 9618, 9225, 9228, 9229, 9226, 176, 177, 9252, 9227, 9496, 9488, 9484, 9492, 9532, 9146, 9147, 9472, 9148, 9149, 9500, 9508, 9524, 9516, 9474, 8804, 8805, 960, 8800, 163, 183]
def techL : List Int := [9143, 9484, 9472, 8992, 8993, 9474, 9121, 9123, 9124, 9126, 9115, 9117, 9118, 9120, 9128, 9132, 65533, 65533, 65533, 65533, 65533, 65533, 65533, 65533, 65533, 65533, 65533, 8804, 8800, 8805, 8747, 8756, 8733, 8734, 247, 916, 8711, 934, 915, 8764, 8771, 920, 215, 923, 8660, 8658, 8801, 928, 936, 65533, 931, 65533, 65533, 8730, 937, 926, 933, 8834, 8835, 8745, 8746, 8743, 8744, 172, 945, 946, 967, 948, 949, 966, 947, 951, 953, 952, 954, 955, 65533, 957, 8706, 960, 968, 961, 963, 964, 65533, 402, 969, 958, 965, 950, 8592, 8593, 8594, 8595]
theorem spec_at (i : Nat) (h : i < 32) : ([Value.int .i64 32, Value.int .i64 9670, Value.int .i64 9618, Value.int .i64 9225, Value.int .i64 9228, Value.int .i64 9229, Value.int .i64 9226, Value.int .i64 176, Value.int .i64 177, Value.int .i64 9252, Value.int .i64 9227, Value.int .i64 9496, Value.int .i64 9488, Value.int .i64 9484, Value.int .i64 9492, Value.int .i64 9532, Value.int .i64 9146, Value.int .i64 9147, Value.int .i64 9472, Value.int .i64 9148, Value.int .i64 9149, Value.int .i64 9500, Value.int .i64 9508, Value.int .i64 9524, Value.int .i64 9516, Value.int .i64 9474, Value.int .i64 8804, Value.int .i64 8805, Value.int .i64 960, Value.int .i64 8800, Value.int .i64 163, Value.int .i64 183] : List Value)[i]? = some (Value.int .i64 (specL.getD i 0)) := by
  have e : ([Value.int .i64 32, Value.int .i64 9670, Value.int .i64 9618, Value.int .i64 9225, Value.int .i64 9228, Value.int .i64 9229, Value.int .i64 9226, Value.int .i64 176, Value.int .i64 177, Value.int .i64 9252, Value.int .i64 9227, Value.int .i64 9496, Value.int .i64 9488, Value.int .i64 9484, Value.int .i64 9492, Value.int .i64 9532, Value.int .i64 9146, Value.int .i64 9147, Value.int .i64 9472, Value.int .i64 9148, Value.int .i64 9149, Value.int .i64 9500, Value.int .i64 9508, Value.int .i64 9524, Value.int .i64 9516, Value.int .i64 9474, Value.int .i64 8804, Value.int .i64 8805, Value.int .i64 960, Value.int .i64 8800, Value.int .i64 163, Value.int .i64 183] : List Value) = specL.map (Value.int .i64) := rfl
  have hl : specL.length = 32 := rfl
  rw [e, List.getElem?_map, List.getD_eq_getElem?_getD, List.getElem?_eq_getElem (by omega)]; rfl

theorem tech_at (i : Nat) (h : i < 94) : ([Value.int .i64 9143, Value.int .i64 9484, Value.int .i64 9472, Value.int .i64 8992, Value.int .i64 8993, Value.int .i64 9474, Value.int .i64 9121, Value.int .i64 9123, Value.int .i64 9124, Value.int .i64 9126, Value.int .i64 9115, Value.int .i64 9117, Value.int .i64 9118, Value.int .i64 9120, Value.int .i64 9128, Value.int .i64 9132, Value.int .i64 65533, Value.int .i64 65533, Value.int .i64 65533, Value.int .i64 65533, Value.int .i64 65533, Value.int .i64 65533, Value.int .i64 65533, Value.int .i64 65533, Value.int .i64 65533, Value.int .i64 65533, Value.int .i64 65533, Value.int .i64 8804, Value.int .i64 8800, Value.int .i64 8805, Value.int .i64 8747, Value.int .i64 8756, Value.int .i64 8733, Value.int .i64 8734, Value.int .i64 247, Value.int .i64 916, Value.int .i64 8711, Value.int .i64 934, Value.int .i64 915, Value.int .i64 8764, Value.int .i64 8771, Value.int .i64 920, Value.int .i64 215, Value.int .i64 923, Value.int .i64 8660, Value.int .i64 8658, Value.int .i64 8801, Value.int .i64 928, Value.int .i64 936, Value.int .i64 65533, Value.int .i64 931, Value.int .i64 65533, Value.int .i64 65533, Value.int .i64 8730, Value.int .i64 937, Value.int .i64 926, Value.int .i64 933, Value.int .i64 8834, Value.int .i64 8835, Value.int .i64 8745, Value.int .i64 8746, Value.int .i64 8743, Value.int .i64 8744, Value.int .i64 172, Value.int .i64 945, Value.int .i64 946, Value.int .i64 967, Value.int .i64 948, Value.int .i64 949, Value.int .i64 966, Value.int .i64 947, Value.int .i64 951, Value.int .i64 953, Value.int .i64 952, Value.int .i64 954, Value.int .i64 955, Value.int .i64 65533, Value.int .i64 957, Value.int .i64 8706, Value.int .i64 960, Value.int .i64 968, Value.int .i64 961, Value.int .i64 963, Value.int .i64 964, Value.int .i64 65533, Value.int .i64 402, Value.int .i64 969, Value.int .i64 958, Value.int .i64 965, Value.int .i64 950, Value.int .i64 8592, Value.int .i64 8593, Value.int .i64 8594, Value.int .i64 8595] : List Value)[i]? = some (Value.int .i64 (techL.getD i 0)) := by
  have e : ([Value.int .i64 9143, Value.int .i64 9484, Value.int .i64 9472, Value.int .i64 8992, Value.int .i64 8993, Value.int .i64 9474, Value.int .i64 9121, Value.int .i64 9123, Value.int .i64 9124, Value.int .i64 9126, Value.int .i64 9115, Value.int .i64 9117, Value.int .i64 9118, Value.int .i64 9120, Value.int .i64 9128, Value.int .i64 9132, Value.int .i64 65533, Value.int .i64 65533, Value.int .i64 65533, Value.int .i64 65533, Value.int .i64 65533, Value.int .i64 65533, Value.int .i64 65533, Value.int .i64 65533, Value.int .i64 65533, Value.int .i64 65533, Value.int .i64 65533, Value.int .i64 8804, Value.int .i64 8800, Value.int .i64 8805, Value.int .i64 8747, Value.int .i64 8756, Value.int .i64 8733, Value.int .i64 8734, Value.int .i64 247, Value.int .i64 916, Value.int .i64 8711, Value.int .i64 934, Value.int .i64 915, Value.int .i64 8764, Value.int .i64 8771, Value.int .i64 920, Value.int .i64 215, Value.int .i64 923, Value.int .i64 8660, Value.int .i64 8658, Value.int .i64 8801, Value.int .i64 928, Value.int .i64 936, Value.int .i64 65533, Value.int .i64 931, Value.int .i64 65533, Value.int .i64 65533, Value.int .i64 8730, Value.int .i64 937, Value.int .i64 926, Value.int .i64 933, Value.int .i64 8834, Value.int .i64 8835, Value.int .i64 8745, Value.int .i64 8746, Value.int .i64 8743, Value.int .i64 8744, Value.int .i64 172, Value.int .i64 945, Value.int .i64 946, Value.int .i64 967, Value.int .i64 948, Value.int .i64 949, Value.int .i64 966, Value.int .i64 947, Value.int .i64 951, Value.int .i64 953, Value.int .i64 952, Value.int .i64 954, Value.int .i64 955, Value.int .i64 65533, Value.int .i64 957, Value.int .i64 8706, Value.int .i64 960, Value.int .i64 968, Value.int .i64 961, Value.int .i64 963, Value.int .i64 964, Value.int .i64 65533, Value.int .i64 402, Value.int .i64 969, Value.int .i64 958, Value.int .i64 965, Value.int .i64 950, Value.int .i64 8592, Value.int .i64 8593, Value.int .i64 8594, Value.int .i64 8595] : List Value) = techL.map (Value.int .i64) := rfl
  have hl : techL.length = 94 := rfl
  rw [e, List.getElem?_map, List.getD_eq_getElem?_getD, List.getElem?_eq_getElem (by omega)]; rfl

def nation (n c : Int) : Int :=
  if n = 7 then if c = 35 then 163 else if c = 64 then 190 else if c = 91 then 307 else if c = 92 then 189 else if c = 93 then 124 else if c = 123 then 168 else if c = 124 then 402 else if c = 125 then 188 else if c = 126 then 180 else c else
  if n = 8 then if c = 91 then 196 else if c = 92 then 214 else if c = 93 then 197 else if c = 94 then 220 else if c = 96 then 233 else if c = 123 then 228 else if c = 124 then 246 else if c = 125 then 229 else if c = 126 then 252 else c else
  if n = 9 then if c = 35 then 163 else if c = 64 then 224 else if c = 91 then 176 else if c = 92 then 231 else if c = 93 then 167 else if c = 123 then 233 else if c = 124 then 249 else if c = 125 then 232 else if c = 126 then 168 else c else
  if n = 10 then if c = 64 then 224 else if c = 91 then 226 else if c = 92 then 231 else if c = 93 then 234 else if c = 94 then 238 else if c = 96 then 244 else if c = 123 then 233 else if c = 124 then 249 else if c = 125 then 232 else if c = 126 then 251 else c else
  if n = 11 then if c = 64 then 167 else if c = 91 then 196 else if c = 92 then 214 else if c = 93 then 220 else if c = 123 then 228 else if c = 124 then 246 else if c = 125 then 252 else if c = 126 then 223 else c else
  if n = 12 then if c = 35 then 163 else if c = 64 then 167 else if c = 91 then 176 else if c = 92 then 231 else if c = 93 then 233 else if c = 96 then 249 else if c = 123 then 224 else if c = 124 then 242 else if c = 125 then 232 else if c = 126 then 236 else c else
  if n = 13 then if c = 64 then 196 else if c = 91 then 198 else if c = 92 then 216 else if c = 93 then 197 else if c = 94 then 220 else if c = 96 then 228 else if c = 123 then 230 else if c = 124 then 248 else if c = 125 then 229 else if c = 126 then 252 else c else
  if n = 14 then if c = 91 then 195 else if c = 92 then 199 else if c = 93 then 213 else if c = 123 then 227 else if c = 124 then 231 else if c = 125 then 245 else c else
  if n = 15 then if c = 35 then 163 else if c = 64 then 167 else if c = 91 then 161 else if c = 92 then 209 else if c = 93 then 191 else if c = 123 then 176 else if c = 124 then 241 else if c = 125 then 231 else c else
  if n = 16 then if c = 64 then 201 else if c = 91 then 196 else if c = 92 then 214 else if c = 93 then 197 else if c = 94 then 220 else if c = 96 then 233 else if c = 123 then 228 else if c = 124 then 246 else if c = 125 then 229 else if c = 126 then 252 else c else
  if n = 17 then if c = 35 then 249 else if c = 64 then 224 else if c = 91 then 233 else if c = 92 then 231 else if c = 93 then 234 else if c = 94 then 238 else if c = 95 then 232 else if c = 96 then 244 else if c = 123 then 228 else if c = 124 then 246 else if c = 125 then 252 else if c = 126 then 251 else c else
  if n = 6 then if c = 35 then 163 else c else
  c

def rsuppl (c : Int) : Int :=
  if c = 36 then 65533 else if c = 38 then 65533 else if c = 40 then 164 else if c = 44 then 65533 else if c = 45 then 65533 else if c = 46 then 65533 else if c = 47 then 65533
  else if c = 52 then 65533 else if c = 56 then 65533 else if c = 62 then 65533 else if c = 80 then 65533 else if c = 87 then 338 else if c = 93 then 376 else if c = 94 then 65533
  else if c = 112 then 65533 else if c = 119 then 339 else if c = 125 then 255 else if c = 126 then 65533 else c + 128

def rspec (c : Int) : Int := if c < 95 then c else specL.getD (c - 95).toNat 0

/-- The document's glyph of a code of seven bits. -/
def RGl (n c : Int) : Int :=
  if n < 1 then 0 else if 17 < n then 0 else if c < 32 then 0
  else if n = 5 then c + 128 else if c = 127 then 0 else if c = 32 then 32
  else if n = 2 then rspec c else if n = 3 then techL.getD (c - 33).toNat 0 else if n = 4 then rsuppl c else nation n c

theorem gl_fin : ∀ n : Fin 18, ∀ c : Fin 128, Gl n.val c.val = RGl n.val c.val := by decide +kernel
theorem gl_eq (n c : Int) (h0 : 0 ≤ c) (h1 : c < 128) : Gl n c = RGl n c := by
  by_cases hn : 0 ≤ n ∧ n < 18
  · have := gl_fin ⟨n.toNat, by omega⟩ ⟨c.toNat, by omega⟩
    simpa [Int.toNat_of_nonneg h0, Int.toNat_of_nonneg hn.1] using this
  · have hb : between 1 17 n = false := by simp [between]; omega
    unfold Gl RGl
    rw [hb]
    by_cases h : n < 1
    · simp [h]
    · have : 17 < n := by omega
      simp [h, this]
theorem rgl_fin : ∀ n : Fin 18, ∀ c : Fin 128, 0 ≤ RGl n.val c.val ∧ RGl n.val c.val ≤ 65535 := by decide +kernel
theorem rgl_range (n c : Int) (h0 : 0 ≤ c) (h1 : c < 128) : 0 ≤ RGl n c ∧ RGl n c ≤ 65535 := by
  by_cases hn : 0 ≤ n ∧ n < 18
  · have := rgl_fin ⟨n.toNat, by omega⟩ ⟨c.toNat, by omega⟩
    simpa [Int.toNat_of_nonneg h0, Int.toNat_of_nonneg hn.1] using this
  · unfold RGl
    by_cases h : n < 1
    · simp [h]
    · have : 17 < n := by omega
      simp [h, this]
end Go.Proofs.Ytomflpkokcldeaa
