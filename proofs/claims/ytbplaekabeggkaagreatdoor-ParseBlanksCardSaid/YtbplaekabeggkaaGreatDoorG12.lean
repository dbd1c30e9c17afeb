/- PROVED: the law ParseBlanks of layer 4 answers true for every string, as its given card says (the listed package variables as the program lays them); no other condition. The parser, the lexer and the writer of the awake test are walked whole. Text 12 of 16. -/
import Derived.Test.YtbplaekabeggkaaGreatDoorG01
import Derived.Lib.AtoiAll
import Derived.Lib.SlTrimSet
import Derived.Shelf.Strings.SlTrimAscii
import Derived.Shelf.Strings.Builder1
import Derived.Shelf.Strings.Builder2
import Derived.Shelf.Strings.OnBuilder
import Derived.Shelf.Strings.Trim
import Derived.Shelf.Small.Utf8
import Derived.Shelf.Small.Strs
import Derived.Shelf.Small.Wraps
import Derived.Shelf.Strings.Builder2Cap
import Derived.Shelf.Strconv.Atoi
import Derived.Shelf.Strconv.Itoa0
import Derived.Shelf.Strconv.Itoa1
import Derived.Shelf.LaysM
import Derived.Shelf.Strconv.Itoa2
import Derived.Shelf.Strconv.Itoa3
import Derived.Shelf.Strconv.AtoiErrFast
import Derived.Shelf.Strconv.ParseIntEmpty
import Derived.Shelf.Strconv.AtoiFail
import Derived.Shelf.Strconv.Clone
import Derived.Shelf.Strconv.SyntaxError
import Derived.Shelf.LaysC
import Derived.Shelf.Strconv.ToError
import Derived.Shelf.Strconv.Lower
import Derived.Shelf.Strconv.ParseUint10
import Derived.Shelf.Strconv.ParseUint10Empty
import Derived.Shelf.Strconv.ParseUint10Any
import Derived.Shelf.Strconv.ParseInt10
import Derived.Shelf.Strconv.AtoiLong
import Derived.Shelf.Strconv.AtoiInnerAll
import Derived.Shelf.Strconv.RangeError
import Derived.Shelf.Strconv.ToErrorRange
import Derived.Shelf.Strconv.AtoiAll
import Derived.Shelf.Strconv.ErrVarAll
import Derived.Shelf.Strings.Search1
import Derived.Shelf.Strings.Prefix
import Derived.Shelf.Unicode.Decode
import Derived.Shelf.Strings.Runes
import Derived.Shelf.Strings.AsciiSet
import Derived.Shelf.Unicode.DecodeSlow
import Derived.Shelf.Unicode.DecodeAny
import Derived.Shelf.Unicode.DecodeLast
import Derived.Shelf.Slices.Turned
import Derived.Test.YtbplaekabeggkaaGreatDoorProg
import Derived.Test.YtbplaekabeggkaaGreatDoorG11
set_option linter.unusedSimpArgs false
set_option linter.unusedVariables false
/-
  OWN: digits, as plain functions: what the library's parse of a number comes to at a text of digits.
-/
namespace Go.Proofs.YtbplaekabeggkaaGreatDoor
open Go

theorem isDig_iff (c : UInt8) : isDig c = true ↔ 48 ≤ c.toNat ∧ c.toNat ≤ 57 := by
  unfold isDig
  simp [UInt8.le_iff_toNat_le]
def digF (n : Nat) (c : UInt8) : Nat := n * 10 + (c.toNat - 48)
theorem digF_ge : ∀ (l : List UInt8) (a : Nat), a ≤ l.foldl digF a
  | [], a => Nat.le_refl _
  | c :: l, a => by
    have := digF_ge l (digF a c)
    have h : a ≤ digF a c := by unfold digF; omega
    simp only [List.foldl_cons]
    omega
theorem parse_digits : ∀ (l : List UInt8) (a : Nat), a < 18446744073709551616 → l.all isDig = true → Lib.parseUint10 a l = if l.foldl digF a < 18446744073709551616 then .ok (l.foldl digF a) else .range
  | [], a, ha, _ => by simp [Lib.parseUint10, ha]
  | c :: l, a, ha, h => by
    simp only [List.all_cons, Bool.and_eq_true] at h
    have hc := (isDig_iff c).1 h.1
    have hg := digF_ge l (digF a c)
    rw [show (c :: l).foldl digF a = l.foldl digF (digF a c) from rfl]
    rw [Lib.parseUint10, if_pos hc]
    by_cases h1 : 1844674407370955162 ≤ a
    · rw [if_pos h1, if_neg]
      unfold digF at hg ⊢
      omega
    · rw [if_neg h1]
      by_cases h2 : 18446744073709551616 ≤ a * 10 + (c.toNat - 48)
      · rw [if_pos h2, if_neg]
        unfold digF at hg ⊢
        omega
      · rw [if_neg h2]
        exact parse_digits l (digF a c) (by unfold digF; omega) h.2

theorem digits_parts {d : List UInt8} (h : isDigitsL d = true) : d ≠ [] ∧ d.all isDig = true := by
  unfold isDigitsL at h
  simp only [Bool.and_eq_true, bne_iff_ne] at h
  exact ⟨h.1.1, h.1.2⟩

/-- what Atoi comes to where num.Parse calls it -/
theorem atoi_num {s : List UInt8} (h : isDigitsL (if s.head? = some 45 then s.tail else s) = true) (h0 : ¬ s = [45, 48]) :
    (∃ v, Lib.atoiAll s = .ok v ∧ numParse s = (v, 0)) ∨ (Lib.atoiAll s = .range ∧ numParse s = (0, 2)) := by
  obtain ⟨hne, hall⟩ := digits_parts h
  cases s with
  | nil => simp at hne
  | cons c r =>
    have hnp : numParse (c :: r) = (let d := if (c :: r).head? = some 45 then (c :: r).tail else (c :: r); let v : Int := if (c :: r).head? = some 45 then -(digVal d : Int) else digVal d; if -9223372036854775808 ≤ v ∧ v ≤ 9223372036854775807 then (v, 0) else (0, 2)) := by
      unfold numParse
      have h0' : ((c :: r) == [45, 48]) = false := by simpa using h0
      simp only [h, h0', Bool.not_true, Bool.false_or, Bool.false_eq_true, if_false]
    rw [hnp]
    by_cases hc : c = 45
    · subst hc
      simp only [List.head?_cons, if_true, List.tail_cons] at h hall hne ⊢
      have hp := parse_digits r 0 (by omega) hall
      have hv : digVal r = r.foldl digF 0 := rfl
      simp only [Lib.atoiAll]
      have e1 : ((45 : UInt8).toNat = 43 ∨ (45 : UInt8).toNat = 45) := by decide
      have e2 : (45 : UInt8).toNat = 45 := rfl
      rw [if_pos e1, Lib.parseMag, if_neg hne, hp, hv]
      generalize r.foldl digF 0 = u
      by_cases hu : u < 18446744073709551616
      · rw [if_pos hu]
        dsimp only
        by_cases h3 : 9223372036854775808 < u
        · right
          rw [if_neg (by simp), if_pos ⟨e2, h3⟩, if_neg (by omega)]
          exact ⟨rfl, rfl⟩
        · left
          rw [if_neg (by simp), if_neg (fun h => h3 h.2), if_pos e2, if_pos (by omega)]
          exact ⟨_, rfl, rfl⟩
      · right
        rw [if_neg hu, if_neg (by omega)]
        exact ⟨rfl, rfl⟩
    · have hh : ¬ (c :: r).head? = some 45 := by simpa using hc
      simp only [hh, if_false] at h hall hne ⊢
      have hp := parse_digits (c :: r) 0 (by omega) hall
      have hv : digVal (c :: r) = (c :: r).foldl digF 0 := rfl
      have hcd := (isDig_iff c).1 (by simp only [List.all_cons, Bool.and_eq_true] at hall; exact hall.1)
      simp only [Lib.atoiAll]
      have e1 : ¬ (c.toNat = 43 ∨ c.toNat = 45) := by omega
      have e2 : ¬ c.toNat = 45 := by omega
      rw [if_neg e1, Lib.parseMag, if_neg (by simp), hp, hv]
      generalize (c :: r).foldl digF 0 = u
      by_cases hu : u < 18446744073709551616
      · rw [if_pos hu]
        dsimp only
        by_cases h3 : 9223372036854775808 ≤ u
        · right
          rw [if_pos ⟨e2, h3⟩, if_neg (by omega)]
          exact ⟨rfl, rfl⟩
        · left
          rw [if_neg (fun h => h3 h.2), if_neg (fun h => e2 h.1), if_neg e2, if_pos (by omega)]
          exact ⟨_, rfl, rfl⟩
      · right
        rw [if_neg hu, if_neg (by omega)]
        exact ⟨rfl, rfl⟩
theorem num_bad {s : List UInt8} (h : isDigitsL (if s.head? = some 45 then s.tail else s) = false ∨ s = [45, 48]) : numParse s = (0, 1) := by
  unfold numParse
  rcases h with h | h
  · simp only [h, Bool.not_false, Bool.true_or, if_true]
  · subst h; decide

def digsL : List UInt8 := [48, 49, 50, 51, 52, 53, 54, 55, 56, 57]
theorem digs_contains (c : UInt8) : digsL.contains c = isDig c := by
  rw [Bool.eq_iff_iff, isDig_iff]
  simp only [digsL, List.contains_eq_mem, decide_eq_true_eq, List.mem_cons, List.not_mem_nil, or_false, ← UInt8.toNat_inj]
  have : ∀ n : Nat, n < 256 → (UInt8.ofNat n).toNat = n := fun n hn => by simp; omega
  constructor
  · rintro (h | h | h | h | h | h | h | h | h | h) <;> (rw [h]; decide)
  · intro h
    have e : c.toNat = 48 ∨ c.toNat = 49 ∨ c.toNat = 50 ∨ c.toNat = 51 ∨ c.toNat = 52 ∨ c.toNat = 53 ∨ c.toNat = 54 ∨ c.toNat = 55 ∨ c.toNat = 56 ∨ c.toNat = 57 := by omega
    exact e
theorem dropWhile_nil {p : UInt8 → Bool} : ∀ (l : List UInt8), l.dropWhile p = [] ↔ l.all p = true
  | [] => by simp
  | c :: l => by
    rw [List.dropWhile_cons, List.all_cons]
    cases p c <;> simp [dropWhile_nil l]
theorem dropWhile_head {p : UInt8 → Bool} : ∀ (l : List UInt8) (c : UInt8) (q : List UInt8), l.dropWhile p = c :: q → p c = false
  | [], _, _, h => by simp at h
  | d :: l, c, q, h => by
    rw [List.dropWhile_cons] at h
    cases hp : p d with
    | true => rw [hp] at h; exact dropWhile_head l c q h
    | false => rw [hp] at h; simp at h; rw [← h.1]; exact hp
theorem trim_nil (s : List UInt8) : (Lib.trimS s digsL == []) = s.all isDig := by
  have hf : (fun c => digsL.contains c) = isDig := funext digs_contains
  rw [Bool.eq_iff_iff, beq_iff_eq]
  unfold Lib.trimS Lib.trimLeftS Lib.trimRightS
  rw [hf, dropWhile_nil]
  constructor
  · intro h
    cases hX : s.reverse.dropWhile isDig with
    | nil =>
      have := (dropWhile_nil (p := isDig) s.reverse).1 hX
      simpa using this
    | cons c q =>
      rw [hX] at h
      have h1 := dropWhile_head _ _ _ hX
      simp [h1] at h
  · intro h
    have : s.reverse.dropWhile isDig = [] := (dropWhile_nil _).2 (by simpa using h)
    rw [this]
    rfl
end Go.Proofs.YtbplaekabeggkaaGreatDoor

namespace Go.Proofs
open Go.Shelf
def Tryz.lays156_ren : Go.Shelf.Ren := ⟨fun | 156 => 38 | 165 => 69 | 166 => 70 | 169 => 71 | 240 => 97 | 241 => 98 | 276 => 129 | 277 => 130 | n => n, fun | 31 => 44 | 9 => 9 | 3 => 3 | 4 => 4 | 0 => 0 | 20 => 20 | 72 => 116 | 76 => 120 | 70 => 113 | 37 => 114 | 75 => 119 | 127 => 144 | 164 => 164 | 5 => 5 | 80 => 80 | n => n, fun | n => n⟩
theorem Tryz.lays156 : Go.Proofs.Lays.n156 Tryz.prog Tryz.lays156_ren := {
  mixed := by kernel_rfl
  f156 := Tryz.func38.trans (congrArg some (by kernel_rfl))
  f165 := Tryz.func69.trans (congrArg some (by kernel_rfl))
  f166 := Tryz.func70.trans (congrArg some (by kernel_rfl))
  f169 := Tryz.func71.trans (congrArg some (by kernel_rfl))
  f240 := Tryz.func97.trans (congrArg some (by kernel_rfl))
  f241 := Tryz.func98.trans (congrArg some (by kernel_rfl))
  f276 := Tryz.func129.trans (congrArg some (by kernel_rfl))
  f277 := Tryz.func130.trans (congrArg some (by kernel_rfl))
  t0 := Tryz.underlying0
  a0 := Tryz.isAgg0
  z0 := Tryz.sizeOf0
  v0 := Tryz.zeroValue0
  t3 := Tryz.underlying3
  a3 := Tryz.isAgg3
  z3 := Tryz.sizeOf3
  v3 := Tryz.zeroValue3
  t4 := Tryz.underlying4
  a4 := Tryz.isAgg4
  z4 := Tryz.sizeOf4
  v4 := Tryz.zeroValue4
  t9 := Tryz.underlying9
  a9 := Tryz.isAgg9
  z9 := Tryz.sizeOf9
  v9 := Tryz.zeroValue9
  t20 := Tryz.underlying20
  a20 := Tryz.isAgg20
  z20 := Tryz.sizeOf20
  v20 := Tryz.zeroValue20
  t31 := Tryz.underlying44
  a31 := Tryz.isAgg44
  z31 := Tryz.sizeOf44
  v31 := Tryz.zeroValue44
  t37 := Tryz.underlying114
  a37 := Tryz.isAgg114
  z37 := Tryz.sizeOf114
  v37 := Tryz.zeroValue114
  t70 := Tryz.underlying113
  a70 := Tryz.isAgg113
  z70 := Tryz.sizeOf113
  v70 := Tryz.zeroValue113
  t72 := Tryz.underlying116
  a72 := Tryz.isAgg116
  z72 := Tryz.sizeOf116
  v72 := Tryz.zeroValue116
  t75 := Tryz.underlying119
  a75 := Tryz.isAgg119
  z75 := Tryz.sizeOf119
  v75 := Tryz.zeroValue119
  t76 := Tryz.underlying120
  a76 := Tryz.isAgg120
  z76 := Tryz.sizeOf120
  v76 := Tryz.zeroValue120
  t127 := Tryz.underlying144
  a127 := Tryz.isAgg144
  z127 := Tryz.sizeOf144
  v127 := Tryz.zeroValue144
  t164 := Tryz.underlying164
  a164 := Tryz.isAgg164
  z164 := Tryz.sizeOf164
  v164 := Tryz.zeroValue164 }
theorem Tryz.Builder_Extra_156 : Builder.Extra Tryz.prog Tryz.lays156_ren := {
  sizeBuilder := by kernel_rfl
  liesBuilder := by kernel_rfl
  t5 := Tryz.underlying5
  a5 := Tryz.isAgg5
  z5 := Tryz.sizeOf5
  v5 := Tryz.zeroValue5
  infoByte := by kernel_rfl
  cellsByte := by kernel_rfl
  sizeByte := by kernel_rfl
  neB5 := by decide }
open Go.RowKit in
/-- No element: the empty string; the world is as it was. (Whatever the slice's address and capacity: a nil slice too.) (LAID: no walk: one application.) -/
theorem Tryz.strings_Join_none (a : Option Addr) (c : Nat) (sep : ByteArray) (w : World) :
    Calls Tryz.prog 38 #[.slice a 0 c, .string sep] w fun e w' => e = .returned (.string ⟨#[]⟩) ∧ w' = w := Any.strings_Join_none Tryz.lays156 Tryz.Builder_Extra_156 a c sep w
open Go.RowKit in
/-- strings.Join: "Join concatenates the elements of its first argument to create a single string. The separator string sep is placed between elements in the resulting string.": HOWEVER MANY ELEMENTS. Below the heap's end the world is as it was. (LAID: no walk: one application.) -/
theorem Tryz.strings_Join (bk o c : Nat) (xs : List ByteArray) (sep : ByteArray) (w : World) (hcells : ∀ (j : Nat) x, xs[j]? = some x → w.cell? ⟨bk, o + j, none⟩ = some (.string x)) (hbk : bk < w.heap.size) (hN : xs.length ≤ 140737488355328) (hcap : xs.length ≤ c) (hlen : (Lib.join (xs.map (·.data.toList)) sep.data.toList).length ≤ 140737488355328) :
    Calls Tryz.prog 38 #[.slice (some ⟨bk, o, none⟩) xs.length c, .string sep] w fun e w' => e = .returned (.string ⟨(Lib.join (xs.map (·.data.toList)) sep.data.toList).toArray⟩) ∧ Below w.heap.size w w' := Any.strings_Join Tryz.lays156 Tryz.Builder_Extra_156 bk o c xs sep w hcells hbk hN hcap hlen
def Tryz.lays160_ren : Go.Shelf.Ren := ⟨fun | 160 => 154 | 232 => 169 | 231 => 168 | 227 => 170 | 234 => 172 | 233 => 171 | 236 => 174 | 235 => 173 | 228 => 194 | 271 => 197 | 151 => 196 | 197 => 195 | 120 => 219 | 152 => 218 | 260 => 217 | 137 => 229 | 119 => 230 | 224 => 231 | 225 => 232 | 217 => 234 | 266 => 238 | n => n, fun | 9 => 9 | 4 => 4 | 3 => 3 | 5 => 5 | 117 => 184 | 116 => 183 | 0 => 0 | 124 => 187 | 21 => 21 | 105 => 201 | 46 => 51 | 119 => 223 | 139 => 226 | 138 => 225 | n => n, fun | 3 => 4 | 4 => 5 | n => n⟩
theorem Tryz.lays160 : Go.Proofs.Lays.n160 Tryz.prog Tryz.lays160_ren := {
  mixed := by kernel_rfl
  f119 := Tryz.func230.trans (congrArg some (by kernel_rfl))
  f120 := Tryz.func219.trans (congrArg some (by kernel_rfl))
  f137 := Tryz.func229.trans (congrArg some (by kernel_rfl))
  f151 := Tryz.func196.trans (congrArg some (by kernel_rfl))
  f152 := Tryz.func218.trans (congrArg some (by kernel_rfl))
  f160 := Tryz.func154.trans (congrArg some (by kernel_rfl))
  f197 := Tryz.func195.trans (congrArg some (by kernel_rfl))
  f217 := Tryz.func234.trans (congrArg some (by kernel_rfl))
  f224 := Tryz.func231.trans (congrArg some (by kernel_rfl))
  f225 := Tryz.func232.trans (congrArg some (by kernel_rfl))
  f227 := Tryz.func170.trans (congrArg some (by kernel_rfl))
  f228 := Tryz.func194.trans (congrArg some (by kernel_rfl))
  f231 := Tryz.func168.trans (congrArg some (by kernel_rfl))
  f232 := Tryz.func169.trans (congrArg some (by kernel_rfl))
  f233 := Tryz.func171.trans (congrArg some (by kernel_rfl))
  f234 := Tryz.func172.trans (congrArg some (by kernel_rfl))
  f235 := Tryz.func173.trans (congrArg some (by kernel_rfl))
  f236 := Tryz.func174.trans (congrArg some (by kernel_rfl))
  f260 := Tryz.func217.trans (congrArg some (by kernel_rfl))
  f266 := Tryz.func238.trans (congrArg some (by kernel_rfl))
  f271 := Tryz.func197.trans (congrArg some (by kernel_rfl))
  t0 := Tryz.underlying0
  a0 := Tryz.isAgg0
  z0 := Tryz.sizeOf0
  v0 := Tryz.zeroValue0
  t3 := Tryz.underlying3
  a3 := Tryz.isAgg3
  z3 := Tryz.sizeOf3
  v3 := Tryz.zeroValue3
  t4 := Tryz.underlying4
  a4 := Tryz.isAgg4
  z4 := Tryz.sizeOf4
  v4 := Tryz.zeroValue4
  t5 := Tryz.underlying5
  a5 := Tryz.isAgg5
  z5 := Tryz.sizeOf5
  v5 := Tryz.zeroValue5
  t9 := Tryz.underlying9
  a9 := Tryz.isAgg9
  z9 := Tryz.sizeOf9
  v9 := Tryz.zeroValue9
  t21 := Tryz.underlying21
  a21 := Tryz.isAgg21
  z21 := Tryz.sizeOf21
  v21 := Tryz.zeroValue21
  t46 := Tryz.underlying51
  a46 := Tryz.isAgg51
  z46 := Tryz.sizeOf51
  v46 := Tryz.zeroValue51
  t105 := Tryz.underlying201
  a105 := Tryz.isAgg201
  z105 := Tryz.sizeOf201
  v105 := Tryz.zeroValue201
  t116 := Tryz.underlying183
  a116 := Tryz.isAgg183
  z116 := Tryz.sizeOf183
  t117 := Tryz.underlying184
  a117 := Tryz.isAgg184
  z117 := Tryz.sizeOf184
  v117 := Tryz.zeroValue184
  t119 := Tryz.underlying223
  a119 := Tryz.isAgg223
  z119 := Tryz.sizeOf223
  t124 := Tryz.underlying187
  a124 := Tryz.isAgg187
  z124 := Tryz.sizeOf187
  v124 := Tryz.zeroValue187
  t138 := Tryz.underlying225
  a138 := Tryz.isAgg225
  z138 := Tryz.sizeOf225
  v138 := Tryz.zeroValue225
  t139 := Tryz.underlying226
  a139 := Tryz.isAgg226
  z139 := Tryz.sizeOf226
  v139 := Tryz.zeroValue226
  g3 := by kernel_rfl
  g4 := by kernel_rfl }
def Tryz.lays171_ren : Go.Shelf.Ren := ⟨fun | 171 => 114 | 243 => 145 | 246 => 167 | 283 => 190 | 284 => 191 | 285 => 192 | 286 => 193 | 129 => 213 | 317 => 212 | 318 => 214 | 319 => 215 | 320 => 216 | 337 => 227 | 338 => 228 | n => n, fun | 3 => 3 | 9 => 9 | 2 => 2 | 4 => 4 | 171 => 196 | 0 => 0 | 53 => 50 | 37 => 114 | 5 => 5 | 173 => 199 | 212 => 213 | 51 => 173 | 20 => 20 | 213 => 214 | 46 => 51 | 232 => 230 | 233 => 231 | n => n, fun | 17 => 3 | 18 => 6 | 19 => 7 | n => n⟩
theorem Tryz.lays171 : Go.Proofs.Lays.n171 Tryz.prog Tryz.lays171_ren := {
  mixed := by kernel_rfl
  f129 := Tryz.func213.trans (congrArg some (by kernel_rfl))
  f171 := Tryz.func114.trans (congrArg some (by kernel_rfl))
  f243 := Tryz.func145.trans (congrArg some (by kernel_rfl))
  f246 := Tryz.func167.trans (congrArg some (by kernel_rfl))
  f283 := Tryz.func190.trans (congrArg some (by kernel_rfl))
  f284 := Tryz.func191.trans (congrArg some (by kernel_rfl))
  f285 := Tryz.func192.trans (congrArg some (by kernel_rfl))
  f286 := Tryz.func193.trans (congrArg some (by kernel_rfl))
  f317 := Tryz.func212.trans (congrArg some (by kernel_rfl))
  f318 := Tryz.func214.trans (congrArg some (by kernel_rfl))
  f319 := Tryz.func215.trans (congrArg some (by kernel_rfl))
  f320 := Tryz.func216.trans (congrArg some (by kernel_rfl))
  f337 := Tryz.func227.trans (congrArg some (by kernel_rfl))
  f338 := Tryz.func228.trans (congrArg some (by kernel_rfl))
  t0 := Tryz.underlying0
  a0 := Tryz.isAgg0
  z0 := Tryz.sizeOf0
  v0 := Tryz.zeroValue0
  t2 := Tryz.underlying2
  a2 := Tryz.isAgg2
  z2 := Tryz.sizeOf2
  v2 := Tryz.zeroValue2
  t3 := Tryz.underlying3
  a3 := Tryz.isAgg3
  z3 := Tryz.sizeOf3
  v3 := Tryz.zeroValue3
  t4 := Tryz.underlying4
  a4 := Tryz.isAgg4
  z4 := Tryz.sizeOf4
  v4 := Tryz.zeroValue4
  t5 := Tryz.underlying5
  a5 := Tryz.isAgg5
  z5 := Tryz.sizeOf5
  v5 := Tryz.zeroValue5
  t9 := Tryz.underlying9
  a9 := Tryz.isAgg9
  z9 := Tryz.sizeOf9
  v9 := Tryz.zeroValue9
  t20 := Tryz.underlying20
  a20 := Tryz.isAgg20
  z20 := Tryz.sizeOf20
  v20 := Tryz.zeroValue20
  t37 := Tryz.underlying114
  a37 := Tryz.isAgg114
  z37 := Tryz.sizeOf114
  v37 := Tryz.zeroValue114
  t46 := Tryz.underlying51
  a46 := Tryz.isAgg51
  z46 := Tryz.sizeOf51
  v46 := Tryz.zeroValue51
  t51 := Tryz.underlying173
  a51 := Tryz.isAgg173
  z51 := Tryz.sizeOf173
  v51 := Tryz.zeroValue173
  t53 := Tryz.underlying50
  a53 := Tryz.isAgg50
  z53 := Tryz.sizeOf50
  v53 := Tryz.zeroValue50
  t171 := Tryz.underlying196
  a171 := Tryz.isAgg196
  z171 := Tryz.sizeOf196
  v171 := Tryz.zeroValue196
  t173 := Tryz.underlying199
  a173 := Tryz.isAgg199
  z173 := Tryz.sizeOf199
  v173 := Tryz.zeroValue199
  t212 := Tryz.underlying213
  a212 := Tryz.isAgg213
  z212 := Tryz.sizeOf213
  v212 := Tryz.zeroValue213
  t213 := Tryz.underlying214
  a213 := Tryz.isAgg214
  z213 := Tryz.sizeOf214
  t232 := Tryz.underlying230
  a232 := Tryz.isAgg230
  z232 := Tryz.sizeOf230
  v232 := Tryz.zeroValue230
  t233 := Tryz.underlying231
  a233 := Tryz.isAgg231
  z233 := Tryz.sizeOf231
  v233 := Tryz.zeroValue231
  g17 := by kernel_rfl
  g18 := by kernel_rfl
  g19 := by kernel_rfl }
open Go.RowKit Go.Sort Go.Lib in
/-- THE ROAD WITHOUT THE TABLE: 0 <= i < 100: NO PREMISE ON THE WORLD, AND THE WORLD IS AS IT WAS: a row that keeps its argument in that range need list no table ('laid = []'). (LAID: no walk: one application.) -/
theorem Tryz.strconv_Itoa_small (i : Nat) (hi : i < 100) (w : World) :
    Calls Tryz.prog 114 #[.int .i64 i] w fun e w' => e = .returned (.string ⟨(Lib.decDigits i).toArray⟩) ∧ w' = w := Any.strconv_Itoa_small Tryz.lays171 i hi w
def Tryz.laysC172_ren : Go.Shelf.Ren := ⟨fun | 172 => 128 | 244 => 155 | 245 => 156 | 247 => 175 | 279 => 176 | 280 => 177 | 281 => 178 | 282 => 179 | 287 => 198 | 316 => 199 | 171 => 114 | 205 => 200 | 321 => 220 | 322 => 221 | 243 => 145 | 246 => 167 | 283 => 190 | 284 => 191 | 285 => 192 | 286 => 193 | 129 => 213 | 317 => 212 | 318 => 214 | 319 => 215 | 320 => 216 | 337 => 227 | 338 => 228 | n => n, fun | 9 => 9 | 3 => 3 | 75 => 119 | 76 => 120 | 4 => 4 | 5 => 5 | 167 => 188 | 37 => 114 | 0 => 0 | 85 => 189 | 2 => 2 | 168 => 191 | 53 => 50 | 175 => 204 | 46 => 51 | 210 => 207 | 127 => 144 | 145 => 220 | 143 => 218 | 21 => 21 | 171 => 196 | 173 => 199 | 212 => 213 | 51 => 173 | 20 => 20 | 213 => 214 | 232 => 230 | 233 => 231 | 80 => 80 | n => n, fun | 15 => 1 | 16 => 2 | 17 => 3 | 18 => 6 | 19 => 7 | n => n⟩
theorem Tryz.laysC172 : Go.Proofs.LaysC.n172 Tryz.prog Tryz.laysC172_ren := {
  mixed := by kernel_rfl
  f129 := Tryz.func213.trans (congrArg some (by kernel_rfl))
  f171 := Tryz.func114.trans (congrArg some (by kernel_rfl))
  f172 := Tryz.func128.trans (congrArg some (by kernel_rfl))
  f205 := Tryz.func200.trans (congrArg some (by kernel_rfl))
  f243 := Tryz.func145.trans (congrArg some (by kernel_rfl))
  f244 := Tryz.func155.trans (congrArg some (by kernel_rfl))
  f245 := Tryz.func156.trans (congrArg some (by kernel_rfl))
  f246 := Tryz.func167.trans (congrArg some (by kernel_rfl))
  f247 := Tryz.func175.trans (congrArg some (by kernel_rfl))
  f279 := Tryz.func176.trans (congrArg some (by kernel_rfl))
  f280 := Tryz.func177.trans (congrArg some (by kernel_rfl))
  f281 := Tryz.func178.trans (congrArg some (by kernel_rfl))
  f282 := Tryz.func179.trans (congrArg some (by kernel_rfl))
  f283 := Tryz.func190.trans (congrArg some (by kernel_rfl))
  f284 := Tryz.func191.trans (congrArg some (by kernel_rfl))
  f285 := Tryz.func192.trans (congrArg some (by kernel_rfl))
  f286 := Tryz.func193.trans (congrArg some (by kernel_rfl))
  f287 := Tryz.func198.trans (congrArg some (by kernel_rfl))
  f316 := Tryz.func199.trans (congrArg some (by kernel_rfl))
  f317 := Tryz.func212.trans (congrArg some (by kernel_rfl))
  f318 := Tryz.func214.trans (congrArg some (by kernel_rfl))
  f319 := Tryz.func215.trans (congrArg some (by kernel_rfl))
  f320 := Tryz.func216.trans (congrArg some (by kernel_rfl))
  f321 := Tryz.func220.trans (congrArg some (by kernel_rfl))
  f322 := Tryz.func221.trans (congrArg some (by kernel_rfl))
  f337 := Tryz.func227.trans (congrArg some (by kernel_rfl))
  f338 := Tryz.func228.trans (congrArg some (by kernel_rfl))
  t0 := Tryz.underlying0
  a0 := Tryz.isAgg0
  z0 := Tryz.sizeOf0
  v0 := Tryz.zeroValue0
  t2 := Tryz.underlying2
  a2 := Tryz.isAgg2
  z2 := Tryz.sizeOf2
  v2 := Tryz.zeroValue2
  t3 := Tryz.underlying3
  a3 := Tryz.isAgg3
  z3 := Tryz.sizeOf3
  v3 := Tryz.zeroValue3
  t4 := Tryz.underlying4
  a4 := Tryz.isAgg4
  z4 := Tryz.sizeOf4
  v4 := Tryz.zeroValue4
  t5 := Tryz.underlying5
  a5 := Tryz.isAgg5
  z5 := Tryz.sizeOf5
  v5 := Tryz.zeroValue5
  t9 := Tryz.underlying9
  a9 := Tryz.isAgg9
  z9 := Tryz.sizeOf9
  v9 := Tryz.zeroValue9
  t20 := Tryz.underlying20
  a20 := Tryz.isAgg20
  z20 := Tryz.sizeOf20
  v20 := Tryz.zeroValue20
  t21 := Tryz.underlying21
  a21 := Tryz.isAgg21
  z21 := Tryz.sizeOf21
  v21 := Tryz.zeroValue21
  t37 := Tryz.underlying114
  a37 := Tryz.isAgg114
  z37 := Tryz.sizeOf114
  v37 := Tryz.zeroValue114
  t46 := Tryz.underlying51
  a46 := Tryz.isAgg51
  z46 := Tryz.sizeOf51
  v46 := Tryz.zeroValue51
  t51 := Tryz.underlying173
  a51 := Tryz.isAgg173
  z51 := Tryz.sizeOf173
  v51 := Tryz.zeroValue173
  t53 := Tryz.underlying50
  a53 := Tryz.isAgg50
  z53 := Tryz.sizeOf50
  v53 := Tryz.zeroValue50
  t75 := Tryz.underlying119
  a75 := Tryz.isAgg119
  z75 := Tryz.sizeOf119
  v75 := Tryz.zeroValue119
  t76 := Tryz.underlying120
  a76 := Tryz.isAgg120
  z76 := Tryz.sizeOf120
  v76 := Tryz.zeroValue120
  t85 := Tryz.underlying189
  a85 := Tryz.isAgg189
  z85 := Tryz.sizeOf189
  v85 := Tryz.zeroValue189
  t127 := Tryz.underlying144
  a127 := Tryz.isAgg144
  z127 := Tryz.sizeOf144
  v127 := Tryz.zeroValue144
  t143 := Tryz.underlying218
  a143 := Tryz.isAgg218
  z143 := Tryz.sizeOf218
  v143 := Tryz.zeroValue218
  t145 := Tryz.underlying220
  a145 := Tryz.isAgg220
  z145 := Tryz.sizeOf220
  v145 := Tryz.zeroValue220
  t167 := Tryz.underlying188
  a167 := Tryz.isAgg188
  z167 := Tryz.sizeOf188
  v167 := Tryz.zeroValue188
  t168 := Tryz.underlying191
  a168 := Tryz.isAgg191
  z168 := Tryz.sizeOf191
  v168 := Tryz.zeroValue191
  t171 := Tryz.underlying196
  a171 := Tryz.isAgg196
  z171 := Tryz.sizeOf196
  v171 := Tryz.zeroValue196
  t173 := Tryz.underlying199
  a173 := Tryz.isAgg199
  z173 := Tryz.sizeOf199
  v173 := Tryz.zeroValue199
  t175 := Tryz.underlying204
  a175 := Tryz.isAgg204
  z175 := Tryz.sizeOf204
  v175 := Tryz.zeroValue204
  t210 := Tryz.underlying207
  a210 := Tryz.isAgg207
  z210 := Tryz.sizeOf207
  v210 := Tryz.zeroValue207
  t212 := Tryz.underlying213
  a212 := Tryz.isAgg213
  z212 := Tryz.sizeOf213
  v212 := Tryz.zeroValue213
  t213 := Tryz.underlying214
  a213 := Tryz.isAgg214
  z213 := Tryz.sizeOf214
  t232 := Tryz.underlying230
  a232 := Tryz.isAgg230
  z232 := Tryz.sizeOf230
  v232 := Tryz.zeroValue230
  t233 := Tryz.underlying231
  a233 := Tryz.isAgg231
  z233 := Tryz.sizeOf231
  v233 := Tryz.zeroValue231
  g15 := by kernel_rfl
  g16 := by kernel_rfl
  g17 := by kernel_rfl
  g18 := by kernel_rfl
  g19 := by kernel_rfl
  t80 := Tryz.underlying80
  a80 := Tryz.isAgg80
  z80 := Tryz.sizeOf80
  v80 := Tryz.zeroValue80
  i0 := by kernel_rfl
  i2 := by kernel_rfl
  i3 := by kernel_rfl
  i4 := by kernel_rfl
  i5 := by kernel_rfl
  i9 := by kernel_rfl
  i20 := by kernel_rfl
  i21 := by kernel_rfl
  i37 := by kernel_rfl
  i46 := by kernel_rfl
  i51 := by kernel_rfl
  i53 := by kernel_rfl
  i75 := by kernel_rfl
  i76 := by kernel_rfl
  i80 := by kernel_rfl
  i85 := by kernel_rfl
  i127 := by kernel_rfl
  i143 := by kernel_rfl
  i145 := by kernel_rfl
  i167 := by kernel_rfl
  i168 := by kernel_rfl
  i171 := by kernel_rfl
  i173 := by kernel_rfl
  i175 := by kernel_rfl
  i210 := by kernel_rfl
  i212 := by kernel_rfl
  i232 := by kernel_rfl
  i233 := by kernel_rfl
  m15 := by kernel_rfl
  m16 := by kernel_rfl
  m17 := by kernel_rfl
  m18 := by kernel_rfl
  m19 := by kernel_rfl
  c0 := by kernel_rfl
  c2 := by kernel_rfl
  c3 := by kernel_rfl
  c4 := by kernel_rfl
  c5 := by kernel_rfl
  c9 := by kernel_rfl
  c20 := by kernel_rfl
  c21 := by kernel_rfl
  c37 := by kernel_rfl
  c46 := by kernel_rfl
  c51 := by kernel_rfl
  c53 := by kernel_rfl
  c75 := by kernel_rfl
  c76 := by kernel_rfl
  c80 := by kernel_rfl
  c85 := by kernel_rfl
  c127 := by kernel_rfl
  c143 := by kernel_rfl
  c145 := by kernel_rfl
  c167 := by kernel_rfl
  c168 := by kernel_rfl
  c171 := by kernel_rfl
  c173 := by kernel_rfl
  c175 := by kernel_rfl
  c210 := by kernel_rfl
  c212 := by kernel_rfl
  c213 := by kernel_rfl
  c232 := by kernel_rfl
  c233 := by kernel_rfl }
open Go.RowKit in
/-- strconv.Atoi, AT EVERY STRING THAT SPELLS AN int ('Lib.atoiAll .. = .ok v'; of whatever length: leading zeros count): v, AND NO ERROR. The world: as it was, or with the one new row that '[]byte(..)' lays. (LAID: no walk: one application.) -/
theorem Tryz.strconv_Atoi_ok (s : ByteArray) (hmax : s.size ≤ 9223372036854775806) (v : Int) (h : Lib.atoiAll s.data.toList = .ok v) (w : World) :
    Calls Tryz.prog 128 #[.string s] w fun e w' => e = .returned (.tuple #[.int .i64 v, .nilIface]) ∧ (w' = w ∨ ∃ t, w' = Lib.bytesWorld w 5 t) := Any.strconv_Atoi_ok Tryz.laysC172 s hmax v h w
open Go.RowKit in
/-- strconv.Atoi, AT EVERY NUMERAL THAT NO int HOLDS ('.range'): THE GREATEST OR THE LEAST int, BY THE SIGN ('Lib.atoiSat'), AND AN ERROR THAT IS NOT nil: a *NumError in a new block N: {Func: "Atoi", Num: s's bytes, Err: what the variable ErrRange holds}. Of what was there nothing has turned. (LAID: no walk: one application.) -/
theorem Tryz.strconv_Atoi_range (s : ByteArray) (hlim : s.size ≤ 281474976710656) (h : Lib.atoiAll s.data.toList = .range) (ev : Value) (w : World) (hv : w.cell? ⟨2, 0, none⟩ = some ev) (hev : ev = .nilIface ∨ ∃ te pe, ev = .iface te pe) :
    Calls Tryz.prog 128 #[.string s] w fun e w' => ∃ N, e = .returned (.tuple #[.int .i64 (Lib.atoiSat s.data.toList), .iface 191 (.pointer (some ⟨N, 0, none⟩))]) ∧ w.heap.size ≤ N ∧ w'.heap[N]? = some (.cells #[.string ⟨#[65, 116, 111, 105]⟩, .string s, ev] 207 (0, 0)) ∧ Below w.heap.size w w' := Any.strconv_Atoi_range Tryz.laysC172 s hlim h ev w hv hev
def Tryz.lays101_ren : Go.Shelf.Ren := ⟨fun | 101 => 126 | 208 => 153 | 206 => 90 | n => n, fun | 9 => 9 | 4 => 4 | 3 => 3 | n => n, fun | n => n⟩
theorem Tryz.lays101 : Go.Proofs.Lays.n101 Tryz.prog Tryz.lays101_ren := {
  mixed := by kernel_rfl
  f101 := Tryz.func126.trans (congrArg some (by kernel_rfl))
  f206 := Tryz.func90.trans (congrArg some (by kernel_rfl))
  f208 := Tryz.func153.trans (congrArg some (by kernel_rfl))
  t3 := Tryz.underlying3
  a3 := Tryz.isAgg3
  z3 := Tryz.sizeOf3
  v3 := Tryz.zeroValue3
  t4 := Tryz.underlying4
  a4 := Tryz.isAgg4
  z4 := Tryz.sizeOf4
  v4 := Tryz.zeroValue4
  t9 := Tryz.underlying9
  a9 := Tryz.isAgg9
  z9 := Tryz.sizeOf9
  v9 := Tryz.zeroValue9 }
open Go.RowKit Go.Lib in
/-- strings.TrimPrefix: "TrimPrefix returns s without the provided leading prefix string. If s doesn't start with prefix, s is returned unchanged.": IT RETURNS 'Lib.trimPrefix s prefix'; the world is as it was. (LAID: no walk: one application.) -/
theorem Tryz.strings_TrimPrefix (s p : ByteArray) (w : World) :
    Calls Tryz.prog 126 #[.string s, .string p] w fun e w' => e = .returned (.string ⟨(Lib.trimPrefix s.data.toList p.data.toList).toArray⟩) ∧ w' = w := Any.strings_TrimPrefix Tryz.lays101 s p w
end Go.Proofs

namespace Go.Proofs.YtbplaekabeggkaaGreatDoor
open Go.RowKit

theorem kp_below {w w' : World} (h : Below w.heap.size w w') : Kp w.heap.size [] w w' := ⟨h.os, h.tape, h.output, h.size, fun k hk _ => h.block k hk⟩

theorem trim_digs (s : ByteArray) (w : World) (hs : s.size ≤ 100000) : Calls Tryz.prog 154 #[.string s, .string ⟨#[48, 49, 50, 51, 52, 53, 54, 55, 56, 57]⟩] w fun e w' => e = .returned (.string (B (Lib.trimS s.toList digsL))) ∧ Kp w.heap.size [] w w' := by
  refine (Any.strings_Trim_laid Tryz.lays160 (by kernel_rfl) s ⟨#[48, 49, 50, 51, 52, 53, 54, 55, 56, 57]⟩ w (by omega) (by decide) (ascii_of_all (by decide))).mono ?_
  rintro e w' ⟨rfl, hb⟩
  refine ⟨?_, kp_below hb⟩
  rw [ByteArray.toList_eq]
  rfl

theorem head_get {s : ByteArray} {c : UInt8} {r : List UInt8} (h : s.toList = c :: r) : ∃ h0 : 0 < s.size, s[0] = c := by
  have h0 : 0 < s.size := by rw [← ba_len, h]; simp
  refine ⟨h0, ?_⟩
  have := ba_get s 0 h0
  rw [h] at this
  simpa using this.symm

set_option maxRecDepth 100000 in
set_option maxHeartbeats 1000000 in
theorem isDigits_c (s : ByteArray) (w : World) (hs : s.size ≤ 100000) : Calls Tryz.prog 127 #[.string s] w fun e w' => e = .returned (.bool (isDigitsL s.toList)) ∧ Kp w.heap.size [] w w' := by
  have ht := trim_digs s w hs
  cases hl : s.toList with
  | nil =>
    have hb : (s.toList == []) = true := by rw [hl]; rfl
    have hb2 : s.toList.isEmpty = true := by rw [hl]; rfl
    clear hl
    go_enter Tryz.func127, Tryz.ntmps127
    go_wp2
    go_ret
    exact ⟨rfl, kpa⟩
  | cons c r =>
    obtain ⟨h0, hc⟩ := head_get hl
    have hb : (s.toList == []) = false := by rw [hl]; rfl
    have hb2 : s.toList.isEmpty = false := by rw [hl]; rfl
    have hq := trim_nil s.toList
    have hz := u8_eq c 48 (by decide)
    have hd : isDigitsL (c :: r) = ((Lib.trimS s.toList digsL == []) && ((c != 48) || ((c :: r) == [48]))) := by
      rw [hq, hl]
      unfold isDigitsL
      have e1 : ((c :: r) != []) = true := by simp
      rw [e1, Bool.true_and]
      congr 1
    rw [hd]
    have h01 : (s.toList == [48]) = ((c :: r) == [48]) := by rw [hl]
    generalize ((c :: r) == [48]) = z at *
    have hne : (c != 48) = !((c.toNat : Int) == 48) := by
      rw [bne]
      have := hz
      rw [show ((48 : Nat) : Int) = 48 from rfl] at this
      rw [this]; rfl
    rw [hne]
    clear hz hd hq hl hne
    generalize Lib.trimS s.toList digsL = tr at *
    cases htr : (tr == []) with
    | false =>
      have htr2 : tr.isEmpty = false := by cases tr <;> simp_all
      go_enter Tryz.func127, Tryz.ntmps127
      go_wp2_with fail
      refine (ht).mono ?_
      rintro e w1 ⟨rfl, hk1⟩
      have z1 := hk1.size
      try simp at z1
      replace K : Kp w.heap.size [] w w1 := kpa
      replace Kz := K.size
      have Kz_w1 := Kz
      clear hk1
      go_wp2
      go_ret
      exact ⟨rfl, by assumption⟩
    | true =>
      obtain rfl : tr = [] := by simpa using htr
      clear htr
      cases hx : ((c.toNat : Int) == 48) with
      | false =>
        have hx2 : ((s[0].toNat : Int) == 48) = false := by rw [hc]; exact hx
        have hx3 : ((s[0].toNat : Int) != 48) = true := by rw [bne, hx2]; rfl
        clear hx hc
        go_enter Tryz.func127, Tryz.ntmps127
        go_wp2_with fail
        refine (ht).mono ?_
        rintro e w1 ⟨rfl, hk1⟩
        have z1 := hk1.size
        try simp at z1
        replace K : Kp w.heap.size [] w w1 := kpa
        replace Kz := K.size
        have Kz_w1 := Kz
        clear hk1
        go_wp2
        go_ret
        exact ⟨rfl, by assumption⟩
      | true =>
        have hx2 : ((s[0].toNat : Int) == 48) = true := by rw [hc]; exact hx
        have hx3 : ((s[0].toNat : Int) != 48) = false := by rw [bne, hx2]; rfl
        clear hx hc
        cases z with
        | false =>
          go_enter Tryz.func127, Tryz.ntmps127
          go_wp2_with fail
          refine (ht).mono ?_
          rintro e w1 ⟨rfl, hk1⟩
          have z1 := hk1.size
          try simp at z1
          replace K : Kp w.heap.size [] w w1 := kpa
          replace Kz := K.size
          have Kz_w1 := Kz
          clear hk1
          go_wp2
          go_ret
          exact ⟨rfl, by assumption⟩
        | true =>
          go_enter Tryz.func127, Tryz.ntmps127
          go_wp2_with fail
          refine (ht).mono ?_
          rintro e w1 ⟨rfl, hk1⟩
          have z1 := hk1.size
          try simp at z1
          replace K : Kp w.heap.size [] w w1 := kpa
          replace Kz := K.size
          have Kz_w1 := Kz
          clear hk1
          go_wp2
          go_ret
          exact ⟨rfl, by assumption⟩

/-- the variable ErrRange -/
def Vars (w : World) : Prop := ∃ ev, w.cell? ⟨2, 0, none⟩ = some ev ∧ (ev = .nilIface ∨ ∃ te pe, ev = .iface te pe)
theorem Vars.lt {w : World} (h : Vars w) : 2 < w.heap.size := by
  obtain ⟨ev, h, -⟩ := h
  unfold World.cell? at h
  split at h
  · rename_i hh; exact (Array.getElem?_eq_some_iff.1 hh).1
  · cases h
theorem Vars.kp {w w' : World} {n : Nat} {S : List Nat} (h : Vars w) (k : Kp n S w w') (hn : 2 < n) (hS : 2 ∉ S) : Vars w' := by
  obtain ⟨ev, h1, h2⟩ := h
  exact ⟨ev, by rw [k.cell 2 0 hn hS]; exact h1, h2⟩

theorem atoi_ok (s : ByteArray) (v : Int) (h : Lib.atoiAll s.toList = .ok v) (w : World) (hs : s.size ≤ 100000) :
    Calls Tryz.prog 128 #[.string s] w fun e w' => e = .returned (.tuple #[.int .i64 v, .nilIface]) ∧ Kp w.heap.size [] w w' := by
  rw [ByteArray.toList_eq] at h
  refine (Tryz.strconv_Atoi_ok s (by omega) v h w).mono ?_
  rintro e w' ⟨rfl, hw⟩
  refine ⟨rfl, ?_⟩
  rcases hw with rfl | ⟨t, rfl⟩
  · exact Kp.refl _ _ _
  · exact kp_below (Lib.bytesWorld_below _ _ _)
theorem atoi_range (s : ByteArray) (h : Lib.atoiAll s.toList = .range) (w : World) (hs : s.size ≤ 100000) (hv : Vars w) :
    Calls Tryz.prog 128 #[.string s] w fun e w' => (∃ n N, e = .returned (.tuple #[.int .i64 n, .iface 191 (.pointer (some ⟨N, 0, none⟩))])) ∧ Kp w.heap.size [] w w' := by
  rw [ByteArray.toList_eq] at h
  obtain ⟨ev, h1, h2⟩ := hv
  refine (Tryz.strconv_Atoi_range s (by omega) h ev w h1 h2).mono ?_
  rintro e w' ⟨N, rfl, -, -, hb⟩
  exact ⟨⟨_, _, rfl⟩, kp_below hb⟩

theorem trim_minus (s : ByteArray) (w : World) : Calls Tryz.prog 126 #[.string s, .string ⟨#[45]⟩] w fun e w' => e = .returned (.string (B (if s.toList.head? = some 45 then s.toList.tail else s.toList))) ∧ w = w' := by
  refine (Tryz.strings_TrimPrefix s ⟨#[45]⟩ w).mono ?_
  rintro e w' ⟨rfl, rfl⟩
  refine ⟨?_, rfl⟩
  rw [ByteArray.toList_eq]
  unfold Lib.trimPrefix Lib.hasPrefix B
  cases h : s.data.toList with
  | nil => simp
  | cons c r =>
    simp only [List.isPrefixOf, Bool.and_true, List.head?_cons, Option.some.injEq, List.tail_cons, List.length_cons, List.length_nil, List.drop_succ_cons, List.drop_zero, beq_iff_eq]
    by_cases hc : c = 45
    · subst hc; simp
    · have : ¬ (45 : UInt8) = c := fun e => hc e.symm
      simp [hc, this]

set_option maxRecDepth 100000 in
set_option maxHeartbeats 1000000 in
theorem num_c (s : ByteArray) (w : World) (hs : s.size ≤ 100000) (hv : (numParse s.toList).2 ≠ 0 → Vars w) :
    Calls Tryz.prog 93 #[.string s] w fun e w' => e = .returned (.tuple #[.int .i64 (numParse s.toList).1, .int .i64 (numParse s.toList).2]) ∧ Kp w.heap.size [] w w' := by
  have ht := trim_minus s w
  have hbad := num_bad (s := s.toList)
  have hgood := atoi_num (s := s.toList)
  have hdl : (if s.toList.head? = some 45 then s.toList.tail else s.toList).length ≤ 100000 := by
    split
    · have := ba_len s; rw [List.length_tail]; omega
    · rw [ba_len]; exact hs
  have hD := fun w1 => isDigits_c (B (if s.toList.head? = some 45 then s.toList.tail else s.toList)) w1 (by rw [B_size]; exact hdl)
  simp only [B_toList] at hD
  generalize (if s.toList.head? = some 45 then s.toList.tail else s.toList) = d at *
  clear hdl
  cases h1 : isDigitsL d with
  | false =>
    have hn := hbad (.inl h1)
    rw [hn]
    rw [h1] at hD
    clear hn hbad hgood h1 hv
    go_enter Tryz.func93, Tryz.ntmps93
    go_wp2_with fail
    refine (ht).mono ?_
    rintro e w1 ⟨rfl, rfl⟩
    go_wp2_with fail
    refine (hD _).mono ?_
    rintro e w2 ⟨rfl, hk2⟩
    have z2 := hk2.size
    try simp at z2
    replace K : Kp w.heap.size [] w w2 := kpa
    replace Kz := K.size
    have Kz_w2 := Kz
    clear hk2
    go_wp2
    go_ret2
    exact ⟨rfl, by assumption⟩
  | true =>
    rw [h1] at hD
    by_cases h2 : s.toList = [45, 48]
    · have hn := hbad (.inr h2)
      rw [hn]
      have hb : (s.toList == [45, 48]) = true := by rw [h2]; rfl
      clear hn hbad hgood h1 h2 hv
      go_enter Tryz.func93, Tryz.ntmps93
      go_wp2_with fail
      refine (ht).mono ?_
      rintro e w1 ⟨rfl, rfl⟩
      go_wp2_with fail
      refine (hD _).mono ?_
      rintro e w2 ⟨rfl, hk2⟩
      have z2 := hk2.size
      try simp at z2
      replace K : Kp w.heap.size [] w w2 := kpa
      replace Kz := K.size
      have Kz_w2 := Kz
      clear hk2
      go_wp2
      go_ret2
      exact ⟨rfl, by assumption⟩
    · have hb : (s.toList == [45, 48]) = false := by simpa using h2
      rcases hgood h1 h2 with ⟨v, ha, hn⟩ | ⟨ha, hn⟩
      · rw [hn]
        have hA := fun w1 => atoi_ok s v ha w1 hs
        clear hn hbad hgood h1 h2 hv ha
        go_enter Tryz.func93, Tryz.ntmps93
        go_wp2_with fail
        refine (ht).mono ?_
        rintro e w1 ⟨rfl, rfl⟩
        go_wp2_with fail
        refine (hD _).mono ?_
        rintro e w2 ⟨rfl, hk2⟩
        have z2 := hk2.size
        try simp at z2
        replace K : Kp w.heap.size [] w w2 := kpa
        replace Kz := K.size
        have Kz_w2 := Kz
        clear hk2
        go_wp2_with fail
        refine (hA _).mono ?_
        rintro e w3 ⟨rfl, hk3⟩
        have z3 := hk3.size
        try simp at z3
        replace K : Kp w.heap.size [] w w3 := kpa
        replace Kz := K.size
        have Kz_w3 := Kz
        clear hk3
        go_wp2
        go_ret2
        exact ⟨rfl, by assumption⟩
      · have hvw := hv (by rw [hn]; decide)
        rw [hn]
        have hA := fun w1 h => atoi_range s ha w1 hs h
        have hlt := hvw.lt
        clear hn hbad hgood h1 h2 hv ha
        have HV := Lib.hid hvw
        clear hvw
        go_enter Tryz.func93, Tryz.ntmps93
        go_wp2_with fail
        refine (ht).mono ?_
        rintro e w1 ⟨rfl, rfl⟩
        go_wp2_with fail
        refine (hD _).mono ?_
        rintro e w2 ⟨rfl, hk2⟩
        have z2 := hk2.size
        try simp at z2
        replace K : Kp w.heap.size [] w w2 := kpa
        replace Kz := K.size
        have Kz_w2 := Kz
        clear hk2
        go_wp2_with fail
        refine (hA _ (HV.out.kp K hlt (by simp))).mono ?_
        rintro e w3 ⟨⟨n, N, rfl⟩, hk3⟩
        have z3 := hk3.size
        replace K : Kp w.heap.size [] w w3 := kpa
        replace Kz := K.size
        have Kz_w3 := Kz
        clear hk3
        go_wp2
        go_ret2
        exact ⟨rfl, by assumption⟩

end Go.Proofs.YtbplaekabeggkaaGreatDoor

namespace Go.Proofs.YtbplaekabeggkaaGreatDoor
open Go.RowKit

theorem contains_idx (ss : List (List UInt8)) (s : List UInt8) : decide (0 ≤ idxL ss s) = ss.contains s := by
  unfold idxL
  cases h : ss.findIdx? (· == s) with
  | none =>
    rw [List.findIdx?_eq_none_iff] at h
    have : ss.contains s = false := by
      rw [← Bool.not_eq_true]
      intro hc
      have hm := List.contains_iff_mem.1 hc
      have := h s hm
      simp at this
    rw [this]; rfl
  | some i =>
    obtain ⟨hi, hp, -⟩ := List.findIdx?_eq_some_iff_getElem.1 h
    have : ss.contains s = true := by
      rw [List.contains_iff_mem]
      simp only [beq_iff_eq] at hp
      rw [← hp]
      exact List.getElem_mem hi
    rw [this]; simp

set_option maxRecDepth 100000 in
set_option maxHeartbeats 400000 in
theorem contains_c (w : World) (a : Option Addr) (n cap : Nat) (ss : List (List UInt8)) (s : ByteArray) (hS : Strs w (.slice a n cap) ss) (hl : ss.length ≤ 100000) :
    Calls Tryz.prog 124 #[.slice a n cap, .string s] w fun e w' => e = .returned (.bool (ss.contains s.toList)) ∧ w = w' := by
  have hi := index_c w a n cap ss s hS hl
  rw [← contains_idx]
  generalize idxL ss s.toList = q at *
  go_enter Tryz.func124, Tryz.ntmps124
  go_wp2_with fail
  refine (hi).mono ?_
  rintro e w1 ⟨rfl, rfl⟩
  go_wp2
  go_ret
  exact ⟨rfl, rfl⟩

set_option maxRecDepth 100000 in
set_option maxHeartbeats 400000 in
theorem keys_c (w : World) : Calls Tryz.prog 125 #[] w fun e w' => e = .returned (.slice (some ⟨w.heap.size, 0, none⟩) 16 16) ∧ w' = w.alloc (.cells (strsV keysL) 9) := by
  go_enter Tryz.func125, Tryz.ntmps125
  go_wp2
  go_ret
  exact ⟨rfl, rfl⟩
set_option maxRecDepth 100000 in
set_option maxHeartbeats 400000 in
theorem isKey_c (s : ByteArray) (w : World) : Calls Tryz.prog 92 #[.string s] w fun e w' => e = .returned (.bool (isKeyL s.toList)) ∧ Kp w.heap.size [] w w' := by
  have hc := contains_c _ _ _ _ _ s (Strs.new w keysL 16 9) (by decide)
  change Calls _ _ _ _ fun e w' => e = .returned (.bool (isKeyL s.toList)) ∧ _ = w' at hc
  generalize isKeyL s.toList = q at *
  go_enter Tryz.func92, Tryz.ntmps92
  go_wp2_with fail
  refine (keys_c _).mono ?_
  rintro e w1 ⟨rfl, rfl⟩
  go_wp2_with fail
  refine (hc).mono ?_
  rintro e w2 ⟨rfl, rfl⟩
  go_wp2
  go_ret
  exact ⟨rfl, kpa⟩

theorem take_run (p : UInt8 → Bool) : ∀ (s : List UInt8), s.take (runL p s) = s.takeWhile p
  | [] => rfl
  | c :: s => by
    unfold runL
    rw [List.takeWhile_cons]
    cases p c
    · simp
    · simp only [if_true, List.length_cons, List.take_succ_cons]
      have := take_run p s
      unfold runL at this
      rw [this]

theorem Blk.thr {w : World} {b : Nat} {x y z : Value} {t : TypeId} (h : Blk w b #[x, y, z] t) : w.cell? ⟨b, 0, none⟩ = some x ∧ w.cell? ⟨b, 1, none⟩ = some y ∧ w.cell? ⟨b, 2, none⟩ = some z := ⟨h.cell 0, h.cell 1, h.cell 2⟩
@[reducible] def tokE (x : Tok × Int) : Ending := .returned (.tuple #[.agg #[.int .i64 x.1.kind, .string (B x.1.text), .int .i64 x.1.at_], .int .i64 x.2])

set_option maxRecDepth 100000 in
set_option maxHeartbeats 2000000 in
theorem word_c (s : List UInt8) (w : World) (hs : s.length ≤ 10000) : Calls Tryz.prog 65 #[.string (B s)] w fun e w' => e = tokE (wordL s) ∧ Kp w.heap.size [] w w' := by
  have hr := fun w1 => run_alnum (B s) w1 (by rw [B_size]; omega)
  simp only [B_toList] at hr
  have hle := runL_le isAlnum s
  have htk := take_run isAlnum s
  unfold wordL
  rw [← htk]
  have hk := fun w1 => isKey_c (B (s.take (runL isAlnum s))) w1
  simp only [B_toList] at hk
  clear htk
  generalize hn : runL isAlnum s = n at *
  clear hn
  have htl : (s.take n).length ≤ 10000 := by rw [List.length_take]; omega
  dsimp only
  have t0 : w.heap.size < w.heap.size + 1 := by omega
  cases hq : isKeyL (s.take n) with
  | true =>
    rw [hq] at hk
    clear hq
    by_cases hl : 12 < (s.take n).length
    · rw [if_pos hl, if_pos rfl]
      go_enter Tryz.func65, Tryz.ntmps65
      go_wp2_with fail
      refine (hr _).mono ?_
      rintro e w1 ⟨rfl, rfl⟩
      go_wp2_with fail
      generalize htg : s.take n = t at *
      have HT := Lib.hid htg
      clear htg
      have hli : (12 : Int) < (t.length : Int) := by omega
      refine (hk _).mono ?_
      rintro e w2 ⟨rfl, hk2⟩
      have z2 := hk2.size
      simp at z2
      have R2 : Blk w2 w.heap.size #[.int .i64 0, .string ⟨#[]⟩, .int .i64 0] 35 := bka
      have T2 : Blk w2 (w.heap.size + 1) #[.int .i64 1, .string (B t), .int .i64 0] 35 := bka
      have R0 := R2.thr
      have T0 := T2.thr
      obtain ⟨r0, r1, r2⟩ := R0
      obtain ⟨t0', t1, t2⟩ := T0
      have rf0 := R2.frozen 0
      have rf1 := R2.frozen 1
      have rf2 := R2.frozen 2
      have tf0 := T2.frozen 0
      have tl := T2.lt
      have rl := R2.lt
      have K2 : Kp w.heap.size [] w w2 := kpa
      have ne1 : ¬ w.heap.size = w.heap.size + 1 := by omega
      have ne2 : ¬ w.heap.size + 1 = w.heap.size := by omega
      clear hk2
      go_wp2
      refine bodyPost_ret (v := .tuple #[.agg #[.int .i64 2, .string (B t), .int .i64 0], .int .i64 4]) (by simp [results, Tryz.results65, go_sem, *]) rfl ?_
      exact ⟨by rw [HT.out], kpa⟩
    · rw [if_neg hl, if_pos rfl]
      go_enter Tryz.func65, Tryz.ntmps65
      go_wp2_with fail
      refine (hr _).mono ?_
      rintro e w1 ⟨rfl, rfl⟩
      go_wp2_with fail
      generalize htg : s.take n = t at *
      have HT := Lib.hid htg
      clear htg
      have hli : ¬ (12 : Int) < (t.length : Int) := by omega
      refine (hk _).mono ?_
      rintro e w2 ⟨rfl, hk2⟩
      have z2 := hk2.size
      simp at z2
      have R2 : Blk w2 w.heap.size #[.int .i64 0, .string ⟨#[]⟩, .int .i64 0] 35 := bka
      have T2 : Blk w2 (w.heap.size + 1) #[.int .i64 1, .string (B t), .int .i64 0] 35 := bka
      have R0 := R2.thr
      have T0 := T2.thr
      obtain ⟨r0, r1, r2⟩ := R0
      obtain ⟨t0', t1, t2⟩ := T0
      have rf0 := R2.frozen 0
      have rf1 := R2.frozen 1
      have rf2 := R2.frozen 2
      have tf0 := T2.frozen 0
      have tl := T2.lt
      have rl := R2.lt
      have K2 : Kp w.heap.size [] w w2 := kpa
      have ne1 : ¬ w.heap.size = w.heap.size + 1 := by omega
      have ne2 : ¬ w.heap.size + 1 = w.heap.size := by omega
      clear hk2
      go_wp2
      refine bodyPost_ret (v := .tuple #[.agg #[.int .i64 2, .string (B t), .int .i64 0], .int .i64 0]) (by simp [results, Tryz.results65, go_sem, *]) rfl ?_
      exact ⟨by rw [HT.out], kpa⟩
  | false =>
    rw [hq] at hk
    clear hq
    rw [if_neg (by decide)]
    by_cases hl : 12 < (s.take n).length
    · rw [if_pos hl]
      go_enter Tryz.func65, Tryz.ntmps65
      go_wp2_with fail
      refine (hr _).mono ?_
      rintro e w1 ⟨rfl, rfl⟩
      go_wp2_with fail
      generalize htg : s.take n = t at *
      have HT := Lib.hid htg
      clear htg
      have hli : (12 : Int) < (t.length : Int) := by omega
      refine (hk _).mono ?_
      rintro e w2 ⟨rfl, hk2⟩
      have z2 := hk2.size
      simp at z2
      have R2 : Blk w2 w.heap.size #[.int .i64 0, .string ⟨#[]⟩, .int .i64 0] 35 := bka
      have T2 : Blk w2 (w.heap.size + 1) #[.int .i64 1, .string (B t), .int .i64 0] 35 := bka
      have R0 := R2.thr
      have T0 := T2.thr
      obtain ⟨r0, r1, r2⟩ := R0
      obtain ⟨t0', t1, t2⟩ := T0
      have rf0 := R2.frozen 0
      have rf1 := R2.frozen 1
      have rf2 := R2.frozen 2
      have tf0 := T2.frozen 0
      have tl := T2.lt
      have rl := R2.lt
      have K2 : Kp w.heap.size [] w w2 := kpa
      have ne1 : ¬ w.heap.size = w.heap.size + 1 := by omega
      have ne2 : ¬ w.heap.size + 1 = w.heap.size := by omega
      clear hk2
      go_wp2
      refine bodyPost_ret (v := .tuple #[.agg #[.int .i64 1, .string (B t), .int .i64 0], .int .i64 4]) (by simp [results, Tryz.results65, go_sem, *]) rfl ?_
      exact ⟨by rw [HT.out], kpa⟩
    · rw [if_neg hl]
      go_enter Tryz.func65, Tryz.ntmps65
      go_wp2_with fail
      refine (hr _).mono ?_
      rintro e w1 ⟨rfl, rfl⟩
      go_wp2_with fail
      generalize htg : s.take n = t at *
      have HT := Lib.hid htg
      clear htg
      have hli : ¬ (12 : Int) < (t.length : Int) := by omega
      refine (hk _).mono ?_
      rintro e w2 ⟨rfl, hk2⟩
      have z2 := hk2.size
      simp at z2
      have R2 : Blk w2 w.heap.size #[.int .i64 0, .string ⟨#[]⟩, .int .i64 0] 35 := bka
      have T2 : Blk w2 (w.heap.size + 1) #[.int .i64 1, .string (B t), .int .i64 0] 35 := bka
      have R0 := R2.thr
      have T0 := T2.thr
      obtain ⟨r0, r1, r2⟩ := R0
      obtain ⟨t0', t1, t2⟩ := T0
      have rf0 := R2.frozen 0
      have rf1 := R2.frozen 1
      have rf2 := R2.frozen 2
      have tf0 := T2.frozen 0
      have tl := T2.lt
      have rl := R2.lt
      have K2 : Kp w.heap.size [] w w2 := kpa
      have ne1 : ¬ w.heap.size = w.heap.size + 1 := by omega
      have ne2 : ¬ w.heap.size + 1 = w.heap.size := by omega
      clear hk2
      go_wp2
      refine bodyPost_ret (v := .tuple #[.agg #[.int .i64 1, .string (B t), .int .i64 0], .int .i64 0]) (by simp [results, Tryz.results65, go_sem, *]) rfl ?_
      exact ⟨by rw [HT.out], kpa⟩

theorem B_get (s : List UInt8) (n : Nat) (h : n < (B s).size) : s[n]? = some (B s)[n] := by
  have := ba_get (B s) n h
  rwa [B_toList] at this
theorem tuple_ret {a b : Value} (h : a = b) : Ending.returned a = .returned b := by rw [h]
set_option maxRecDepth 100000 in
set_option maxHeartbeats 2000000 in
theorem number_s (s : List UInt8) (w : World) (hs : s.length ≤ 10000) (hv : Vars w) : Calls Tryz.prog 67 #[.string (B s)] w fun e w' => e = tokE (numberL s) ∧ Kp w.heap.size [] w w' := by
  have hr := fun w1 => run_digit (B s) w1 (by rw [B_size]; omega)
  simp only [B_toList] at hr
  have hle := runL_le isDig s
  have htk := take_run isDig s
  have htl : (s.takeWhile isDig).length = runL isDig s := rfl
  unfold numberL
  dsimp only
  rw [htl, ← htk]
  clear htl htk
  generalize hn : runL isDig s = n at *
  clear hn
  have hlv := hv.lt
  have hnc := fun w1 (h : (numParse (s.take n)).2 ≠ 0 → Vars w1) => num_c (B (s.take n)) w1 (by rw [B_size, List.length_take]; omega) (by rw [B_toList]; exact h)
  simp only [B_toList] at hnc
  have HVk : ∀ W, Kp w.heap.size [] w W → Vars W := fun W k => hv.kp k hlv (by simp)
  clear hv
  have HP : ((s.drop n).head?.map isLetter).getD false = false → (n < s.length → ∃ h : n < (B s).size, isLetter (B s)[n] = false) := by
    intro h hlt
    have h1 : n < (B s).size := by rw [B_size]; exact hlt
    rw [List.head?_drop, B_get s n h1] at h
    exact ⟨h1, by simpa using h⟩
  have HQ : ((s.drop n).head?.map isLetter).getD false = true → ∃ h : n < (B s).size, isLetter (B s)[n] = true := by
    intro h
    by_cases hlt : n < s.length
    · have h1 : n < (B s).size := by rw [B_size]; exact hlt
      rw [List.head?_drop, B_get s n h1] at h
      exact ⟨h1, by simpa using h⟩
    · rw [List.head?_drop, List.getElem?_eq_none (by omega)] at h
      simp at h
  generalize ((s.drop n).head?.map isLetter).getD false = q at *
  cases q with
  | true =>
    obtain ⟨hb, hl⟩ := HQ rfl
    have hL := fun w1 => isLetter_c (B s)[n] w1
    rw [hl] at hL
    have hlt : n < s.length := by rw [B_size] at hb; exact hb
    rw [if_pos rfl]
    clear HP HQ hl hnc
    go_enter Tryz.func67, Tryz.ntmps67
    go_wp2_with fail
    refine (hr _).mono ?_
    rintro e w1 ⟨rfl, rfl⟩
    go_wp2_with fail
    generalize htg : s.take n = t at *
    have HT := Lib.hid htg
    clear htg
    refine (hL _).mono ?_
    rintro e w2 ⟨rfl, rfl⟩
    go_wp2
    refine bodyPost_ret (v := .tuple #[.agg #[.int .i64 3, .string (B t), .int .i64 0], .int .i64 1]) (by simp [results, Tryz.results67, go_sem, *]) rfl ?_
    exact ⟨by rw [HT.out], kpa⟩
  | false =>
    rw [if_neg (by decide)]
    have HP := HP rfl
    clear HQ
    by_cases hlt : n < s.length
    · obtain ⟨hb, hl⟩ := HP hlt
      have hL := fun w1 => isLetter_c (B s)[n] w1
      rw [hl] at hL
      clear HP hl
      go_enter Tryz.func67, Tryz.ntmps67
      go_wp2_with fail
      refine (hr _).mono ?_
      rintro e w1 ⟨rfl, rfl⟩
      go_wp2_with fail
      refine (hL _).mono ?_
      rintro e w1 ⟨rfl, rfl⟩
      go_wp2_with fail
      refine (hnc _ (fun _ => HVk _ ?_)).mono ?_
      · exact kpa
      rintro e w2 ⟨rfl, hk2⟩
      generalize htg : s.take n = t at *
      have HT := Lib.hid htg
      clear htg hnc
      generalize hp1 : (numParse t).1 = p1 at *
      generalize hp2 : (numParse t).2 = p2 at *
      have HP2 := Lib.hid hp2
      clear hp1 hp2
      have z2 := hk2.size
      simp at z2
      have R2 : Blk w2 w.heap.size #[.int .i64 0, .string ⟨#[]⟩, .int .i64 0] 35 := bka
      have T2 : Blk w2 (w.heap.size + 1) #[.int .i64 3, .string (B t), .int .i64 0] 35 := bka
      have K2 : Kp w.heap.size [] w w2 := kpa
      obtain ⟨r0, r1, r2⟩ := R2.thr
      obtain ⟨t0', t1, t2⟩ := T2.thr
      have rf0 := R2.frozen 0
      have rf1 := R2.frozen 1
      have rf2 := R2.frozen 2
      have tl := T2.lt
      have rl := R2.lt
      have ne1 : ¬ w.heap.size = w.heap.size + 1 := by omega
      have ne2 : ¬ w.heap.size + 1 = w.heap.size := by omega
      clear hk2
      go_wp2
      refine bodyPost_ret (v := .tuple #[.agg #[.int .i64 3, .string (B t), .int .i64 0], .int .i64 p2]) (by simp [results, Tryz.results67, go_sem, *]) rfl ?_
      exact ⟨by rw [HT.out, HP2.out], kpa⟩
    · clear HP
      go_enter Tryz.func67, Tryz.ntmps67
      go_wp2_with fail
      refine (hr _).mono ?_
      rintro e w1 ⟨rfl, rfl⟩
      go_wp2_with fail
      refine (hnc _ (fun _ => HVk _ ?_)).mono ?_
      · exact kpa
      rintro e w2 ⟨rfl, hk2⟩
      generalize htg : s.take n = t at *
      have HT := Lib.hid htg
      clear htg hnc
      generalize hp1 : (numParse t).1 = p1 at *
      generalize hp2 : (numParse t).2 = p2 at *
      have HP2 := Lib.hid hp2
      clear hp1 hp2
      have z2 := hk2.size
      simp at z2
      have R2 : Blk w2 w.heap.size #[.int .i64 0, .string ⟨#[]⟩, .int .i64 0] 35 := bka
      have T2 : Blk w2 (w.heap.size + 1) #[.int .i64 3, .string (B t), .int .i64 0] 35 := bka
      have K2 : Kp w.heap.size [] w w2 := kpa
      obtain ⟨r0, r1, r2⟩ := R2.thr
      obtain ⟨t0', t1, t2⟩ := T2.thr
      have rf0 := R2.frozen 0
      have rf1 := R2.frozen 1
      have rf2 := R2.frozen 2
      have tl := T2.lt
      have rl := R2.lt
      have ne1 : ¬ w.heap.size = w.heap.size + 1 := by omega
      have ne2 : ¬ w.heap.size + 1 = w.heap.size := by omega
      clear hk2
      go_wp2
      refine bodyPost_ret (v := .tuple #[.agg #[.int .i64 3, .string (B t), .int .i64 0], .int .i64 p2]) (by simp [results, Tryz.results67, go_sem, *]) rfl ?_
      exact ⟨by rw [HT.out, HP2.out], kpa⟩

end Go.Proofs.YtbplaekabeggkaaGreatDoor

namespace Go.Proofs.YtbplaekabeggkaaGreatDoor
open Go.RowKit

def idxP (ss : List (List UInt8)) (p : List UInt8 → Bool) : Int := match ss.findIdx? p with | some i => i | none => -1
theorem idxP_hit {ss : List (List UInt8)} {p : List UInt8 → Bool} {k : Nat} (hk : k < ss.length) (hno : ∀ j, j < k → ∀ x, ss[j]? = some x → p x = false) (h : p ss[k] = true) : idxP ss p = k := by
  unfold idxP
  have : ss.findIdx? p = some k := by
    rw [List.findIdx?_eq_some_iff_getElem]
    refine ⟨hk, h, fun j hj => ?_⟩
    have := hno j hj ss[j] (List.getElem?_eq_getElem (by omega))
    simpa using this
  rw [this]
theorem idxP_miss {ss : List (List UInt8)} {p : List UInt8 → Bool} (hno : ∀ j, j < ss.length → ∀ x, ss[j]? = some x → p x = false) : idxP ss p = -1 := by
  unfold idxP
  have : ss.findIdx? p = none := by
    rw [List.findIdx?_eq_none_iff]
    intro x hx
    obtain ⟨j, hj, rfl⟩ := List.getElem_of_mem hx
    exact hno j hj ss[j] (List.getElem?_eq_getElem hj)
  rw [this]

set_option maxRecDepth 100000 in
set_option maxHeartbeats 400000 in
theorem sign1_c (s : List UInt8) (x : List UInt8) (b : Nat) (w : World) (hs : s.length ≤ 10000) (hx : x.length ≤ 100) (hb : Loc w b (.string (B s)) 9) :
    Calls Tryz.prog 96 #[.string (B x), ptrV b] w fun e w' => e = .returned (.bool (x.isPrefixOf s)) ∧ w = w' := by
  have hp := hasPrefix_c (B s) (B x) w (by rw [B_size]; omega) (by rw [B_size]; omega)
  rw [B_toList, B_toList] at hp
  have hc := hb.cell
  go_enter Tryz.func96, Tryz.ntmps96
  go_wp2_with fail
  refine (hp).mono ?_
  rintro e w1 ⟨rfl, rfl⟩
  go_wp2
  go_ret
  exact ⟨rfl, rfl⟩

theorem cf96 (x : ByteArray) (b : Nat) (w : World) : (callFunc 96 #[.string x, .pointer (some ⟨b, 0, none⟩)]).run Tryz.prog w = .ok (.enter 96 #[.string x, .pointer (some ⟨b, 0, none⟩)]) w := by kernel_rfl

set_option maxRecDepth 100000 in
set_option maxHeartbeats 1000000 in
theorem indexSign_c (s : List UInt8) (b : Nat) (w : World) (hs : s.length ≤ 10000) (hb : Loc w b (.string (B s)) 9) (a : Option Addr) (n cap : Nat) (ss : List (List UInt8)) (hS : Strs w (.slice a n cap) ss) (hl : ss.length ≤ 100000) (hx : ∀ x ∈ ss, x.length ≤ 100) :
    Calls Tryz.prog 94 #[.slice a n cap, .func (.func 96) #[] #[ptrV b]] w fun e w' => e = .returned (.int .i64 (idxP ss fun x => x.isPrefixOf s)) ∧ w = w' := by
  obtain ⟨a', n', cap', hv, hn, hc⟩ := hS
  cases hv
  have HN := Lib.hid hn
  have hnl : n ≤ 100000 := by omega
  have hcf := cf96
  have hF := fun x (h : x.length ≤ 100) => sign1_c s x b w hs h hb
  clear hn
  go_enter Tryz.func94, Tryz.ntmps94
  go_wp2
  go_loop [8] (fun i => ∃ k : Nat, k ≤ n ∧ i = .int .i64 k ∧ Go.Aside (∀ j, j < k → ∀ x, ss[j]? = some x → x.isPrefixOf s = false)) (fun i => n - (intOf i).toNat)
  case atStart => exact ⟨0, Nat.zero_le _, rfl, fun j hj => absurd hj (by omega)⟩
  case round =>
    obtain ⟨k, hk, rfl, A⟩ := hrel
    by_cases hlt : k < n
    · have hkl : k < ss.length := by have := HN.out; omega
      obtain ⟨g, o, rfl, hcell⟩ := hc k ss[k] (List.getElem?_eq_getElem hkl)
      have hFk := hF ss[k] (hx _ (List.getElem_mem hkl))
      cases he : (ss[k]).isPrefixOf s with
      | true =>
        have HF := Lib.hid (idxP_hit (p := fun x => x.isPrefixOf s) hkl A.out he)
        rw [he] at hFk
        clear he hc A hF
        go_wp2_with fail
        refine (hFk).mono ?_
        rintro e w1 ⟨rfl, rfl⟩
        go_wp2
        go_ret
        exact ⟨by rw [HF.out]; rfl, rfl⟩
      | false =>
        have A2 : Go.Aside (∀ j, j < k + 1 → ∀ x, ss[j]? = some x → x.isPrefixOf s = false) := by
          intro j hj x hx
          rcases Nat.lt_or_ge j k with h | h
          · exact A.out j h x hx
          · obtain rfl : j = k := by omega
            rw [List.getElem?_eq_getElem hkl] at hx
            cases hx
            exact he
        rw [he] at hFk
        clear he hc A hF
        go_wp2_with fail
        refine (hFk).mono ?_
        rintro e w1 ⟨rfl, rfl⟩
        go_wp2
        go_round
        case rel => exact ⟨k + 1, by omega, by go_num, A2⟩
        case measure => simp [intOf]; omega
    · have hkn : k = ss.length := by have := HN.out; omega
      have HF := Lib.hid (idxP_miss (p := fun x => x.isPrefixOf s) (ss := ss) (fun j hj => A.out j (by omega)))
      clear hkn hc A hF
      go_wp2
      go_ret
      exact ⟨by rw [HF.out]; rfl, rfl⟩

set_option maxRecDepth 100000 in
set_option maxHeartbeats 400000 in
theorem signsX_c (w : World) : Calls Tryz.prog 95 #[] w fun e w' => ∃ g, e = .returned (.slice (some ⟨g, 0, none⟩) 28 28) ∧ w.heap.size ≤ g ∧ Strs w' (.slice (some ⟨g, 0, none⟩) 28 28) signsX ∧ Kp w.heap.size [] w w' := by
  have h : Calls Tryz.prog 95 #[] w fun e w' => e = .returned (.slice (some ⟨w.heap.size, 0, none⟩) 28 28) ∧ w' = w.alloc (.cells (strsV signsX) 9) := by
    go_enter Tryz.func95, Tryz.ntmps95
    go_wp2
    go_ret
    exact ⟨rfl, rfl⟩
  refine h.mono ?_
  rintro e w' ⟨rfl, rfl⟩
  exact ⟨_, rfl, Nat.le_refl _, Strs.new w signsX 28 9, kpa⟩

theorem signL_idx (s : List UInt8) : (∃ i : Nat, ∃ x, idxP signsX (fun x => x.isPrefixOf s) = i ∧ signsX[i]? = some x ∧ signL s = (⟨4, x, 0⟩, 0)) ∨ (idxP signsX (fun x => x.isPrefixOf s) = -1 ∧ signL s = (⟨0, [], 0⟩, 1)) := by
  unfold idxP signL
  cases h : signsX.findIdx? (fun x => x.isPrefixOf s) with
  | none =>
    right
    refine ⟨rfl, ?_⟩
    rw [List.findIdx?_eq_none_iff] at h
    have : signsX.find? (fun x => x.isPrefixOf s) = none := by
      rw [List.find?_eq_none]
      intro x hx
      rw [h x hx]; simp
    rw [this]
  | some i =>
    left
    obtain ⟨hi, hp, hno⟩ := List.findIdx?_eq_some_iff_getElem.1 h
    refine ⟨i, signsX[i], rfl, List.getElem?_eq_getElem hi, ?_⟩
    have : signsX.find? (fun x => x.isPrefixOf s) = some signsX[i] := by
      rw [List.find?_eq_some_iff_getElem]
      exact ⟨hp, i, hi, rfl, fun j hj => by have h := hno j hj; revert h; cases (signsX[j]).isPrefixOf s <;> simp⟩
    rw [this]

set_option maxRecDepth 100000 in
set_option maxHeartbeats 1000000 in
theorem sign_s (s : List UInt8) (w : World) (hs : s.length ≤ 10000) : Calls Tryz.prog 68 #[.string (B s)] w fun e w' => e = tokE (signL s) ∧ Kp w.heap.size [] w w' := by
  have hmf : ∀ (fn : Fn) (first cap : Array Value) (w : World), (Instr.makeFunc fn first cap).run Tryz.prog w = .ok (.func fn first cap) w := fun _ _ _ _ => rfl
  have hI := fun w1 a n cap (hb : Loc w1 w.heap.size (.string (B s)) 9) (hS : Strs w1 (.slice a n cap) signsX) => indexSign_c s w.heap.size w1 hs hb a n cap signsX hS (by decide) (by decide)
  rcases signL_idx s with ⟨i, x, h1, h2, h3⟩ | ⟨h1, h3⟩
  · rw [h3]
    have hil : i < 28 := (List.getElem?_eq_some_iff.1 h2).1
    simp only [h1] at hI
    have H2 := Lib.hid h2
    clear h1 h2 h3
    go_enter Tryz.func68, Tryz.ntmps68
    go_wp2_with fail
    refine (signsX_c _).mono ?_
    rintro e w1 ⟨g, rfl, hg, hS, hk1⟩
    have z1 := hk1.size
    simp at z1 hg
    have L1 : Loc w1 w.heap.size (.string (B s)) 9 := loca
    have R1 : Blk w1 (w.heap.size + 1) #[.int .i64 0, .string ⟨#[]⟩, .int .i64 0] 35 := bka
    have K1 : Kp w.heap.size [] w w1 := kpa
    clear hk1
    go_wp2_with fail
    refine (hI _ _ _ _ L1 hS).mono ?_
    rintro e w2 ⟨rfl, rfl⟩
    go_wp2_with fail
    refine (signsX_c _).mono ?_
    rintro e w2 ⟨g2, rfl, hg2, hS2, hk2⟩
    have z2 := hk2.size
    obtain ⟨a', n', c', hv, hn', hc'⟩ := hS2
    cases hv
    obtain ⟨g3, o3, hg3, hcell⟩ := hc' i x H2.out
    cases hg3
    rw [Nat.zero_add] at hcell
    have R2 : Blk w2 (w.heap.size + 1) #[.int .i64 0, .string ⟨#[]⟩, .int .i64 0] 35 := bka
    have K2 : Kp w.heap.size [] w w2 := kpa
    clear hk2 hc' hn' hS R1
    obtain ⟨r0, r1, r2⟩ := R2.thr
    have rf0 := R2.frozen 0
    have rf1 := R2.frozen 1
    have rf2 := R2.frozen 2
    have rl := R2.lt
    have g2l : g2 < w2.heap.size := by
      unfold World.cell? at hcell
      split at hcell
      · rename_i hh; exact (Array.getElem?_eq_some_iff.1 hh).1
      · cases hcell
    have ne1 : ¬ g2 = w.heap.size + 1 := by omega
    have ne2 : ¬ w.heap.size + 1 = g2 := by omega
    have hi0 : ¬ (i : Int) < 0 := by omega
    have hil2 : (i : Int) < 28 := by omega
    go_wp2
    refine bodyPost_ret (v := .tuple #[.agg #[.int .i64 4, .string (B x), .int .i64 0], .int .i64 0]) (by simp [results, Tryz.results68, go_sem, *]) rfl ?_
    exact ⟨rfl, kpa⟩
  · rw [h3]
    simp only [h1] at hI
    clear h1 h3
    go_enter Tryz.func68, Tryz.ntmps68
    go_wp2_with fail
    refine (signsX_c _).mono ?_
    rintro e w1 ⟨g, rfl, hg, hS, hk1⟩
    have z1 := hk1.size
    simp at z1 hg
    have L1 : Loc w1 w.heap.size (.string (B s)) 9 := loca
    have R1 : Blk w1 (w.heap.size + 1) #[.int .i64 0, .string ⟨#[]⟩, .int .i64 0] 35 := bka
    have K1 : Kp w.heap.size [] w w1 := kpa
    clear hk1
    obtain ⟨r0, r1, r2⟩ := R1.thr
    have rf0 := R1.frozen 0
    have rf1 := R1.frozen 1
    have rf2 := R1.frozen 2
    have rl := R1.lt
    go_wp2_with fail
    refine (hI _ _ _ _ L1 hS).mono ?_
    rintro e w2 ⟨rfl, rfl⟩
    go_wp2
    refine bodyPost_ret (v := .tuple #[.agg #[.int .i64 0, .string ⟨#[]⟩, .int .i64 0], .int .i64 1]) (by simp [results, Tryz.results68, go_sem, *]) rfl ?_
    exact ⟨rfl, kpa⟩

set_option maxRecDepth 100000 in
set_option maxHeartbeats 1000000 in
theorem next_s (s : List UInt8) (w : World) (h0 : s ≠ []) (hs : s.length ≤ 10000) (hv : Vars w) : Calls Tryz.prog 37 #[.string (B s)] w fun e w' => e = tokE (nextL s) ∧ Kp w.heap.size [] w w' := by
  obtain ⟨c, r, hcr⟩ : ∃ c r, s = c :: r := by
    cases s with
    | nil => exact absurd rfl h0
    | cons c r => exact ⟨c, r, rfl⟩
  obtain ⟨hb, hc⟩ := head_get (s := B s) (c := c) (r := r) (by rw [B_toList]; exact hcr)
  have hlv := hv.lt
  have hVk : Vars (w.alloc (.cells #[.int .i64 0, .string ⟨#[]⟩, .int .i64 0] 35)) := hv.kp (n := w.heap.size) (S := []) (kpa) hlv (by simp)
  have hlt : 0 < s.length := by rw [B_size] at hb; exact hb
  have hL : ∀ w1, Calls Tryz.prog 64 #[u8V ((B s)[0]'hb)] w1 fun e w' => e = .returned (.bool (isLetter c)) ∧ w1 = w' := fun w1 => by have := isLetter_c c w1; rw [hc]; exact this
  have hD : ∀ w1, Calls Tryz.prog 66 #[u8V ((B s)[0]'hb)] w1 fun e w' => e = .returned (.bool (isDig c)) ∧ w1 = w' := fun w1 => by have := isDigit_c c w1; rw [hc]; exact this
  have hW := word_c s (w.alloc (.cells #[.int .i64 0, .string ⟨#[]⟩, .int .i64 0] 35)) hs
  have hN := number_s s (w.alloc (.cells #[.int .i64 0, .string ⟨#[]⟩, .int .i64 0] 35)) hs hVk
  have hS := sign_s s (w.alloc (.cells #[.int .i64 0, .string ⟨#[]⟩, .int .i64 0] 35)) hs
  have hnx : nextL s = if isLetter c = true then wordL s else if isDig c = true then numberL s else signL s := by
    unfold nextL
    rw [hcr]; rfl
  rw [hnx]
  clear hc hcr hnx hv hVk
  cases h1 : isLetter c with
  | true =>
    rw [h1] at hL
    rw [if_pos rfl]
    generalize wordL s = x at *
    obtain ⟨⟨kd, tx, at_⟩, er⟩ := x
    dsimp only [tokE] at hW
    clear h1 hN hS hD
    go_enter Tryz.func37, Tryz.ntmps37
    go_wp2_with fail
    refine (hL _).mono ?_
    rintro e w1 ⟨rfl, rfl⟩
    go_wp2_with fail
    refine hW.mono ?_
    rintro e w2 ⟨rfl, hk2⟩
    have z2 := hk2.size
    simp at z2
    have R2 : Blk w2 w.heap.size #[.int .i64 0, .string ⟨#[]⟩, .int .i64 0] 35 := bka
    have K2 : Kp w.heap.size [] w w2 := kpa
    obtain ⟨r0, r1, r2⟩ := R2.thr
    have rf0 := R2.frozen 0
    have rf1 := R2.frozen 1
    have rf2 := R2.frozen 2
    have rl := R2.lt
    clear hk2
    go_wp2
    refine bodyPost_ret (v := .tuple #[.agg #[.int .i64 kd, .string (B tx), .int .i64 at_], .int .i64 er]) (by simp [results, Tryz.results37, go_sem, *]) rfl ?_
    exact ⟨rfl, kpa⟩
  | false =>
    rw [h1] at hL
    rw [if_neg (by decide)]
    cases h2 : isDig c with
    | true =>
      rw [h2] at hD
      rw [if_pos rfl]
      generalize numberL s = x at *
      obtain ⟨⟨kd, tx, at_⟩, er⟩ := x
      dsimp only [tokE] at hN
      clear h1 h2 hW hS
      go_enter Tryz.func37, Tryz.ntmps37
      go_wp2_with fail
      refine (hL _).mono ?_
      rintro e w1 ⟨rfl, rfl⟩
      go_wp2_with fail
      refine (hD _).mono ?_
      rintro e w2 ⟨rfl, rfl⟩
      go_wp2_with fail
      refine hN.mono ?_
      rintro e w2 ⟨rfl, hk2⟩
      have z2 := hk2.size
      simp at z2
      have R2 : Blk w2 w.heap.size #[.int .i64 0, .string ⟨#[]⟩, .int .i64 0] 35 := bka
      have K2 : Kp w.heap.size [] w w2 := kpa
      obtain ⟨r0, r1, r2⟩ := R2.thr
      have rf0 := R2.frozen 0
      have rf1 := R2.frozen 1
      have rf2 := R2.frozen 2
      have rl := R2.lt
      clear hk2
      go_wp2
      refine bodyPost_ret (v := .tuple #[.agg #[.int .i64 kd, .string (B tx), .int .i64 at_], .int .i64 er]) (by simp [results, Tryz.results37, go_sem, *]) rfl ?_
      exact ⟨rfl, kpa⟩
    | false =>
      rw [h2] at hD
      rw [if_neg (by decide)]
      generalize signL s = x at *
      obtain ⟨⟨kd, tx, at_⟩, er⟩ := x
      dsimp only [tokE] at hS
      clear h1 h2 hW hN
      go_enter Tryz.func37, Tryz.ntmps37
      go_wp2_with fail
      refine (hL _).mono ?_
      rintro e w1 ⟨rfl, rfl⟩
      go_wp2_with fail
      refine (hD _).mono ?_
      rintro e w2 ⟨rfl, rfl⟩
      go_wp2_with fail
      refine hS.mono ?_
      rintro e w2 ⟨rfl, hk2⟩
      have z2 := hk2.size
      simp at z2
      have R2 : Blk w2 w.heap.size #[.int .i64 0, .string ⟨#[]⟩, .int .i64 0] 35 := bka
      have K2 : Kp w.heap.size [] w w2 := kpa
      obtain ⟨r0, r1, r2⟩ := R2.thr
      have rf0 := R2.frozen 0
      have rf1 := R2.frozen 1
      have rf2 := R2.frozen 2
      have rl := R2.lt
      clear hk2
      go_wp2
      refine bodyPost_ret (v := .tuple #[.agg #[.int .i64 kd, .string (B tx), .int .i64 at_], .int .i64 er]) (by simp [results, Tryz.results37, go_sem, *]) rfl ?_
      exact ⟨rfl, kpa⟩

end Go.Proofs.YtbplaekabeggkaaGreatDoor

namespace Go.Proofs.YtbplaekabeggkaaGreatDoor
open Go.RowKit

theorem Tryz.info35 : (Tryz.prog.info? 35).map (fun i => (i.zero, i.size, i.bytes)) = some (some (.agg #[.int .i64 0, .string ⟨#[]⟩, .int .i64 0]), 3, 32) := by kernel_rfl
theorem Tryz.under23 : Tryz.prog.underlying 23 = some (.slice 35) := by kernel_rfl

@[reducible] def tokCells (ts : List Tok) : List Value := ts.flatMap fun t => [.int .i64 t.kind, .string (B t.text), .int .i64 t.at_]
theorem tokCells_len (ts : List Tok) : (tokCells ts).length = ts.length * 3 := by
  induction ts with
  | nil => rfl
  | cons t ts ih => simp only [tokCells, List.flatMap_cons, List.length_append, List.length_cons, List.length_nil] at ih ⊢; omega
theorem tokCells_get : ∀ (ts : List Tok) (i : Nat) (t : Tok), ts[i]? = some t → (tokCells ts)[i * 3]? = some (.int .i64 t.kind) ∧ (tokCells ts)[i * 3 + 1]? = some (.string (B t.text)) ∧ (tokCells ts)[i * 3 + 2]? = some (.int .i64 t.at_)
  | [], i, t, h => by simp at h
  | x :: ts, 0, t, h => by simp at h; subst h; simp [tokCells]
  | x :: ts, i + 1, t, h => by
    simp only [List.getElem?_cons_succ] at h
    have := tokCells_get ts i t h
    have e : tokCells (x :: ts) = [.int .i64 x.kind, .string (B x.text), .int .i64 x.at_] ++ tokCells ts := rfl
    rw [e, List.getElem?_append_right (by simp; omega), List.getElem?_append_right (by simp; omega), List.getElem?_append_right (by simp; omega)]
    have e1 : (i + 1) * 3 - 3 = i * 3 := by omega
    have e2 : (i + 1) * 3 + 1 - 3 = i * 3 + 1 := by omega
    have e3 : (i + 1) * 3 + 2 - 3 = i * 3 + 2 := by omega
    simp only [List.length_cons, List.length_nil, Nat.zero_add, e1, e2, e3]
    exact this

/-- 'append(out, t)' -/
theorem app_tok {w : World} {o : Oper} {a : Act} {K : Act → World → Prop} {Q : Exit → Act → World → Prop} (s x : Nat)
    (ho : o.op = .call { callee := .builtin .append, args := #[.tmp s, .tmp x], argTypes := #[23, 23] })
    (base : Nat) (v : Value) (ts : List Tok) (t : Tok) (hs : a.eval (.tmp s) = v) (hown : w.ownsRow base 35 3 v ts.length (tokCells ts)) (g0 : Nat) (hx : a.eval (.tmp x) = .slice (some ⟨g0, 0, none⟩) 1 1)
    (hnews : Blk w g0 #[.int .i64 t.kind, .string (B t.text), .int .i64 t.at_] 35) (hm : ts.length ≤ 100000) (hbase : base ≤ w.heap.size)
    (h : ∀ g cap w', w'.ownsRow base 35 3 (.slice (some ⟨g, 0, none⟩) (ts.length + 1) cap) (ts.length + 1) (tokCells (ts ++ [t])) → w.grownBy w' v.ownBlock → (v.ownBlock = some g ∨ g = w.heap.size) → g < w'.heap.size → K (a.put o.dst (.slice (some ⟨g, 0, none⟩) (ts.length + 1) cap)) w') : o.wp Tryz.prog a w K Q := by
  obtain ⟨i0, hi0, hz0, hz1, hz2⟩ := info_parts Tryz.info35
  refine wp_append_lies w _ _ 23 ho base 35 i0 _ 3 32 Tryz.under23 hi0 hz0 hz1 hz2 rfl (by omega) v ts.length _ hs hown ⟨g0, 0, none⟩ 1 1 [.int .i64 t.kind, .string (B t.text), .int .i64 t.at_] hx rfl ?_ (by simp [Value.oneCell']) (by omega) (by unfold maxLen; omega) (by omega) hbase _ rfl (fun g cap w' h1 => h g cap w' (by
    have e : tokCells (ts ++ [t]) = tokCells ts ++ [.int .i64 t.kind, .string (B t.text), .int .i64 t.at_] := by simp [tokCells]
    rw [e]; exact h1))
  intro j u hj
  have hadd : (⟨g0, 0, none⟩ : Addr).add j = ⟨g0, j, none⟩ := by unfold Addr.add; split <;> simp_all
  rw [hadd, hnews.cell]
  simpa using hj

end Go.Proofs.YtbplaekabeggkaaGreatDoor

namespace Go.Proofs.YtbplaekabeggkaaGreatDoor
open Go.RowKit

def PostScan (w : World) (r : Res (List Tok)) (e : Ending) (w' : World) : Prop :=
  match r with
  | .ok ts _ => ∃ v, e = .returned (.tuple #[v, .int .i64 0, .int .i64 0]) ∧ w'.ownsRow w.heap.size 35 3 v ts.length (tokCells ts) ∧ Kp w.heap.size [] w w'
  | .stop a er => e = .returned (.tuple #[.slice none 0 0, .int .i64 a, .int .i64 er]) ∧ Kp w.heap.size [] w w'

theorem good_len {s : List UInt8} {n : Nat} (h : n < s.length) (he : (nextL (s.drop n)).2 = 0) : n + (nextL (s.drop n)).1.text.length ≤ s.length ∧ 1 ≤ (nextL (s.drop n)).1.text.length := by
  generalize hX : nextL (s.drop n) = x at *
  obtain ⟨⟨kd, tx, a0⟩, er⟩ := x
  dsimp only at he ⊢
  subst he
  obtain ⟨hg, r, hr⟩ := good_of (t := ⟨kd, tx, n⟩) hX
  have := congrArg List.length hr
  simp only [List.length_drop, List.length_append] at this
  have hl2 : 1 ≤ tx.length := by obtain ⟨c, q, e, -⟩ := hg.first; dsimp only at e; rw [e]; simp
  omega

set_option maxRecDepth 100000 in
set_option maxHeartbeats 4000000 in
theorem scan_c (s : List UInt8) (w : World) (hs : s.length ≤ 10000) (hv : Vars w) (r : Res (List Tok)) (hq : scan s = some r) :
    Calls Tryz.prog 9 #[.string (B s)] w (PostScan w r) := by
  have hlv := hv.lt
  have hVk : ∀ W, Kp w.heap.size [] w W → Vars W := fun W k => hv.kp k hlv (by simp)
  unfold scan at hq
  by_cases h4 : 4096 < s.length
  · rw [if_pos h4] at hq
    cases hq
    have hli : (4096 : Int) < (s.length : Int) := by omega
    go_enter Tryz.func9, Tryz.ntmps9
    go_wp2
    go_ret3
    exact ⟨rfl, kpa⟩
  rw [if_neg h4] at hq
  have hli : ¬ (4096 : Int) < (s.length : Int) := by omega
  cases hS : skipL (s.length + 1) s with
  | none => rw [hS] at hq; cases hq
  | some n0 =>
  rw [hS] at hq
  have hn0 := skipL_le _ _ _ hS
  have hsk := fun w1 => skip_c s w1 hs _ n0 hS
  have HM := Lib.hid hq
  clear hS hv hq
  go_enter Tryz.func9, Tryz.ntmps9
  go_wp2_with fail
  refine (hsk _).mono ?_
  rintro e w1 ⟨rfl, rfl⟩
  clear hsk
  go_wp2_with fail
  go_loopg [5, 6] (s.length + 1) (fun j v i wr => ∃ (n : Nat) (ts : List Tok), i = .int .i64 n ∧ Go.Aside (scanL j s n ts = some r ∧ ts.length ≤ n ∧ n ≤ s.length) ∧ wr.ownsRow w.heap.size 35 3 v ts.length (tokCells ts) ∧ Kp w.heap.size [] w wr)
  case atStart => exact ⟨n0, [], rfl, ⟨HM.out, by simp, hn0⟩, World.ownsRow_nil _ _ _ _, kpa⟩
  case round =>
    obtain ⟨n, ts, rfl, A, hO, K⟩ := hrel
    obtain ⟨hA, hAl, hAn⟩ := A.out
    have Kz := K.size
    clear A HM
    cases gk with
    | zero => simp [scanL] at hA
    | succ gk =>
    rw [scanL] at hA
    by_cases hlt : n < s.length
    rotate_left
    · rw [if_neg hlt] at hA
      cases hA
      have hlti : ¬ (n : Int) < (s.length : Int) := by omega
      go_wp2
      go_ret3
      exact ⟨_, rfl, hO, K⟩
    rw [if_pos hlt] at hA
    have hlti : (n : Int) < (s.length : Int) := by omega
    have hn := next_s (s.drop n) wr (by intro e; have := congrArg List.length e; simp at this; omega) (by simp; omega) (hVk _ K)
    have hgl := good_len hlt
    generalize hX : nextL (s.drop n) = x at *
    obtain ⟨⟨kd, tx, a0⟩, er⟩ := x
    dsimp only [tokE] at hn hA hgl
    clear hX
    by_cases he : er = 0
    rotate_left
    · rw [if_neg he] at hA
      cases hA
      have heb : (er != 0) = true := by simpa using he
      have heb2 : (er == 0) = false := by simpa using he
      clear he hgl
      go_wp2_with fail
      refine hn.mono ?_
      rintro e w2 ⟨rfl, hk2⟩
      have z2 := hk2.size
      go_wp2
      go_ret3
      exact ⟨rfl, kpa⟩
    subst he
    rw [if_pos rfl] at hA
    obtain ⟨hgl1, hgl2⟩ := hgl rfl
    cases hS : skipL (s.length + 1) (s.drop (n + tx.length)) with
    | none => rw [hS] at hA; cases hA
    | some m =>
    rw [hS] at hA
    dsimp only at hA
    have hm := skipL_le _ _ _ hS
    rw [List.length_drop] at hm
    have hsk := fun w1 => skip_c (s.drop (n + tx.length)) w1 (by simp; omega) _ m hS
    have HA := Lib.hid hA
    clear hS hA hgl
    go_wp2_with fail
    refine hn.mono ?_
    rintro e w2 ⟨rfl, hk2⟩
    have z2 := hk2.size
    have hown : ∀ k, u5.ownBlock = some k → w.heap.size ≤ k ∧ k < wr.heap.size := fun k hk => hO.lt k hk
    have hOk : ∀ W, Kp wr.heap.size [] wr W → W.ownsRow w.heap.size 35 3 u5 ts.length (tokCells ts) := fun W k => ownsRow_frame hO (Nat.le_refl _) (fun i hi => k.block i (hown i hi).2 (by simp))
    go_wp2_with (first | (at_builtin; refine wpList_plain rfl (fun KK hKK => ?_); refine app_tok 37 39 rfl w.heap.size u5 ts ⟨kd, tx, n⟩ rfl (hOk _ (kpa)) (w2.heap.size + 1) rfl (bka) (by omega) (by simp; omega) ?_; intro g cap w5 ho5 hg5 hat5 hlt5; have T5 : Blk w5 w2.heap.size #[.int .i64 kd, .string (B tx), .int .i64 n] 35 := Blk.grown (bka) hg5 (fun e => by have := (hown _ e.symm).2; omega); have s5 := hg5.size; simp at s5; obtain ⟨t0, t1, t2⟩ := T5.thr; have tl := T5.lt; refine hKK _ _ ?_; clear hKK KK) | fail)
    have K5 : Kp w.heap.size [] w w5 := Kp.grown (kpa) (by simp; omega) hg5 (fun k e => .inl (hown k e).1)
    have hlen : ts.length + 1 = (ts ++ [(⟨kd, tx, n⟩ : Tok)]).length := by simp
    have HL := Lib.hid hlen
    clear hlen
    go_wp2_with fail
    refine (hsk _).mono ?_
    rintro e w4 ⟨rfl, rfl⟩
    go_wp2
    go_roundg gk
    case measure => omega
    case rel => exact ⟨n + tx.length + m, ts ++ [⟨kd, tx, n⟩], by push_cast; rfl, ⟨HA.out, by simp; omega, by omega⟩, HL.out ▸ ho5, K5⟩

end Go.Proofs.YtbplaekabeggkaaGreatDoor
