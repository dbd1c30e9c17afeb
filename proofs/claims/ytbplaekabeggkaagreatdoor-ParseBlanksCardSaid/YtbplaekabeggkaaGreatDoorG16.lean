/- PROVED: the law ParseBlanks of layer 4 answers true for every string, as its given card says (the listed package variables as the program lays them); no other condition. The parser, the lexer and the writer of the awake test are walked whole. Text 16 of 16. -/
import Derived.Test.YtbplaekabeggkaaGreatDoorG15
import Derived.Test.YtbplaekabeggkaaGreatDoorG13
import Derived.Test.YtbplaekabeggkaaGreatDoorG11
import Derived.Test.YtbplaekabeggkaaGreatDoorCards
import Derived.Test.YtbplaekabeggkaaGreatDoorTie
import Derived.ProofKit
import Derived.OpenShut
import Derived.LaidMore
import Derived.Lay
import Derived.SevenTiedAt
import Derived.Stop.Joined
import Derived.Stop.LaidErr
import Derived.ChangeMaps5
set_option linter.unusedSimpArgs false
set_option linter.unusedVariables false
namespace Go.Proofs.YtbplaekabeggkaaGreatDoor
open Go.RowKit

def srcA : List UInt8 := [102, 117, 110, 99, 32, 109, 97, 105, 110, 40, 41, 123, 112, 114, 105, 110, 116, 40, 49, 43, 50, 42, 51, 41, 59, 125]
def srcB : List UInt8 := [102, 117, 110, 99, 32, 109, 97, 105, 110, 40, 41, 32, 123, 32, 120, 32, 61, 32, 59, 32, 125]
def srcC : List UInt8 := [118, 97, 114, 32, 120]
def tE : T := .mk 24 [] [] 1 19 [.mk 15 [] [] 1 18 [], .mk 24 [] [] 3 21 [.mk 15 [] [] 2 20 [], .mk 15 [] [] 3 22 []]]
def tP : T := .mk 12 [] [] 0 12 [tE]
def tB : T := .mk 6 [] [] 0 11 [tP]
def tF : T := .mk 4 [109, 97, 105, 110] [] 0 5 [tB]
def tA : T := .mk 1 [] [] 0 0 [tF]
theorem parse_A : parseL 300 srcA = some (.ok tA 0) := by kernel_rfl
theorem parse_B : parseL 300 srcB = some (.stop 18 1) := by kernel_rfl
theorem parse_C : parseL 300 srcC = some (.stop 5 1) := by kernel_rfl
def shA : List UInt8 := [102, 117, 110, 99, 32, 109, 97, 105, 110, 32, 40, 32, 41, 32, 123, 32, 112, 114, 105, 110, 116, 32, 40, 32, 40, 32, 49, 32, 43, 32, 40, 32, 50, 32, 42, 32, 51, 32, 41, 32, 41, 32, 41, 32, 59, 32, 125]
theorem show_A : showL tA = shA := by kernel_rfl
theorem ok_A : okS tA = true := by kernel_rfl
theorem size_A : sizeT tA = 9 := by kernel_rfl
theorem len_A : (showT tA).length ≤ 90000 := Nat.le_of_ble_eq_true (by kernel_rfl)
theorem len_A2 : (joinL (showT tA)).length ≤ 10000000 := Nat.le_of_ble_eq_true (by kernel_rfl)

theorem kid_v {w : World} {v : Value} {t : T} (h : IsN w v t) (i : Nat) (u : T) (hu : t.kids[i]?.getD zeroT = u) {n : Int} (hn : n = i) : Calls Tryz.prog 30 #[v, .int .i64 n] w (PostK w u) := by
  subst hn hu; exact kid_c h i
theorem op_v {w : World} {v : Value} {t : T} (h : IsN w v t) (n : Int) (hn : t.op = n) : Calls Tryz.prog 31 #[v] w fun e w' => e = .returned (.int .i64 n) ∧ Kp w.heap.size [] w w' := hn ▸ op_c h
theorem n_v {w : World} {v : Value} {t : T} (h : IsN w v t) (n : Int) (hn : t.n = n) : Calls Tryz.prog 33 #[v] w fun e w' => e = .returned (.int .i64 n) ∧ Kp w.heap.size [] w w' := hn ▸ n_c h
theorem at_v {w : World} {v : Value} {t : T} (h : IsN w v t) (n : Int) (hn : t.at_ = n) : Calls Tryz.prog 34 #[v] w fun e w' => e = .returned (.int .i64 n) ∧ Kp w.heap.size [] w w' := hn ▸ at_c h
theorem kids_v {w : World} {v : Value} {t : T} (h : IsN w v t) (n : Int) (hn : (t.kids.length : Int) = n) : Calls Tryz.prog 32 #[v] w fun e w' => e = .returned (.int .i64 n) ∧ Kp w.heap.size [] w w' := hn ▸ kids_c h

set_option maxRecDepth 100000 in
set_option maxHeartbeats 4000000 in
theorem awake_c (w : World) (hv : Vars w) : Calls Tryz.prog 8 #[] w fun e w' => e = .returned (.bool true) ∧ Kp w.heap.size [] w w' := by
  have hlv := hv.lt
  have hV : ∀ W, Kp w.heap.size [] w W → Vars W := fun W k => hv.kp k hlv (by simp)
  have K := Kp.refl w.heap.size [] w
  go_enter Tryz.func8, Tryz.ntmps8
  go_wp2_with fail
  refine (parse_c srcA _ (by decide) (hV _ K) 300 _ parse_A).mono ?_
  rintro e w1 ⟨b, rfl, hT, hk1⟩
  have z1 := hk1.size
  have N : IsN w1 (.agg #[ptrV b]) tA := .inr ⟨b, _, _, rfl, Nat.le_refl _, hT⟩
  replace K : Kp w.heap.size [] w w1 := kpa
  replace Kz := K.size
  have Kz_w1 := Kz
  clear hk1 hT
  have X : Loc (w1.alloc (.cells #[ptrV b] 30)) w1.heap.size (ptrV b) 30 := Loc.new _ _ _
  go_wp2_with fail
  refine (parse_c srcB _ (by decide) (hV _ (kpa)) 300 _ parse_B).mono ?_
  rintro e w2 ⟨rfl, hk2⟩
  have z2 := hk2.size
  try simp at z2
  replace N : IsN w2 (.agg #[ptrV b]) tA := inna
  replace X : Loc w2 w1.heap.size (ptrV b) 30 := loca
  replace Xc := X.cell
  replace Xl := X.lt
  have Xl_w2 := Xl
  replace Xf := X.frozen
  replace K : Kp w.heap.size [] w w2 := kpa
  replace Kz := K.size
  have Kz_w2 := Kz
  clear hk2
  go_wp2_with fail
  refine (parse_c srcC _ (by decide) (hV _ (kpa)) 300 _ parse_C).mono ?_
  rintro e w3 ⟨rfl, hk3⟩
  have z3 := hk3.size
  try simp at z3
  replace N : IsN w3 (.agg #[ptrV b]) tA := inna
  replace X : Loc w3 w1.heap.size (ptrV b) 30 := loca
  replace Xc := X.cell
  replace Xl := X.lt
  have Xl_w3 := Xl
  replace Xf := X.frozen
  replace K : Kp w.heap.size [] w w3 := kpa
  replace Kz := K.size
  have Kz_w3 := Kz
  clear hk3
  go_wp2_with fail
  refine (kid_v (N.alloc _) 0 tF rfl rfl).mono ?_
  rintro e w4 ⟨v4, rfl, NF, hk4⟩
  have z4 := hk4.size
  try simp at z4
  replace N : IsN w4 (.agg #[ptrV b]) tA := inna
  replace X : Loc w4 w1.heap.size (ptrV b) 30 := loca
  replace Xc := X.cell
  replace Xl := X.lt
  have Xl_w4 := Xl
  replace Xf := X.frozen
  replace NF : IsN w4 v4 tF := inna
  replace K : Kp w.heap.size [] w w4 := kpa
  replace Kz := K.size
  have Kz_w4 := Kz
  clear hk4
  go_wp2_with fail
  refine (kid_v NF 0 tB rfl rfl).mono ?_
  rintro e w5 ⟨v5, rfl, NB, hk5⟩
  have z5 := hk5.size
  try simp at z5
  replace N : IsN w5 (.agg #[ptrV b]) tA := inna
  replace X : Loc w5 w1.heap.size (ptrV b) 30 := loca
  replace Xc := X.cell
  replace Xl := X.lt
  have Xl_w5 := Xl
  replace Xf := X.frozen
  replace NF : IsN w5 v4 tF := inna
  replace NB : IsN w5 v5 tB := inna
  replace K : Kp w.heap.size [] w w5 := kpa
  replace Kz := K.size
  have Kz_w5 := Kz
  clear hk5
  obtain ⟨p, rfl⟩ := NB.shape
  clear NF
  have Y : Loc (w5.alloc (.cells #[.pointer p] 30)) w5.heap.size (.pointer p) 30 := Loc.new _ _ _
  replace N : IsN ((w5.alloc (.cells #[.pointer p] 30))) (.agg #[ptrV b]) tA := inna
  replace X : Loc ((w5.alloc (.cells #[.pointer p] 30))) w1.heap.size (ptrV b) 30 := loca
  replace Xc := X.cell
  replace Xl := X.lt
  have Xl_w5alloccellspointerp30 := Xl
  replace Xf := X.frozen
  replace NB : IsN ((w5.alloc (.cells #[.pointer p] 30))) (.agg #[.pointer p]) tB := inna
  replace Y : Loc ((w5.alloc (.cells #[.pointer p] 30))) w5.heap.size (.pointer p) 30 := loca
  replace Yc := Y.cell
  replace Yl := Y.lt
  have Yl_w5alloccellspointerp30 := Yl
  replace Yf := Y.frozen
  go_wp2_with fail
  refine ((op_v N 1 rfl)).mono ?_
  rintro e w6 ⟨rfl, hk6⟩
  have z6 := hk6.size
  try simp at z6
  replace N : IsN w6 (.agg #[ptrV b]) tA := inna
  replace X : Loc w6 w1.heap.size (ptrV b) 30 := loca
  replace Xc := X.cell
  replace Xl := X.lt
  have Xl_w6 := Xl
  replace Xf := X.frozen
  replace NB : IsN w6 (.agg #[.pointer p]) tB := inna
  replace Y : Loc w6 w5.heap.size (.pointer p) 30 := loca
  replace Yc := Y.cell
  replace Yl := Y.lt
  have Yl_w6 := Yl
  replace Yf := Y.frozen
  replace K : Kp w.heap.size [] w w6 := kpa
  replace Kz := K.size
  have Kz_w6 := Kz
  clear hk6
  go_wp2_with fail
  refine ((kids_v N 1 rfl)).mono ?_
  rintro e w7 ⟨rfl, hk7⟩
  have z7 := hk7.size
  try simp at z7
  replace N : IsN w7 (.agg #[ptrV b]) tA := inna
  replace X : Loc w7 w1.heap.size (ptrV b) 30 := loca
  replace Xc := X.cell
  replace Xl := X.lt
  have Xl_w7 := Xl
  replace Xf := X.frozen
  replace NB : IsN w7 (.agg #[.pointer p]) tB := inna
  replace Y : Loc w7 w5.heap.size (.pointer p) 30 := loca
  replace Yc := Y.cell
  replace Yl := Y.lt
  have Yl_w7 := Yl
  replace Yf := Y.frozen
  replace K : Kp w.heap.size [] w w7 := kpa
  replace Kz := K.size
  have Kz_w7 := Kz
  clear hk7
  go_wp2_with fail
  refine ((op_v NB 6 rfl)).mono ?_
  rintro e w8 ⟨rfl, hk8⟩
  have z8 := hk8.size
  try simp at z8
  replace N : IsN w8 (.agg #[ptrV b]) tA := inna
  replace X : Loc w8 w1.heap.size (ptrV b) 30 := loca
  replace Xc := X.cell
  replace Xl := X.lt
  have Xl_w8 := Xl
  replace Xf := X.frozen
  replace NB : IsN w8 (.agg #[.pointer p]) tB := inna
  replace Y : Loc w8 w5.heap.size (.pointer p) 30 := loca
  replace Yc := Y.cell
  replace Yl := Y.lt
  have Yl_w8 := Yl
  replace Yf := Y.frozen
  replace K : Kp w.heap.size [] w w8 := kpa
  replace Kz := K.size
  have Kz_w8 := Kz
  clear hk8
  go_wp2_with fail
  refine (kid_v NB 0 tP rfl rfl).mono ?_
  rintro e w9 ⟨v9, rfl, NP, hk9⟩
  have z9 := hk9.size
  try simp at z9
  replace N : IsN w9 (.agg #[ptrV b]) tA := inna
  replace X : Loc w9 w1.heap.size (ptrV b) 30 := loca
  replace Xc := X.cell
  replace Xl := X.lt
  have Xl_w9 := Xl
  replace Xf := X.frozen
  replace NB : IsN w9 (.agg #[.pointer p]) tB := inna
  replace Y : Loc w9 w5.heap.size (.pointer p) 30 := loca
  replace Yc := Y.cell
  replace Yl := Y.lt
  have Yl_w9 := Yl
  replace Yf := Y.frozen
  replace NP : IsN w9 v9 tP := inna
  replace K : Kp w.heap.size [] w w9 := kpa
  replace Kz := K.size
  have Kz_w9 := Kz
  clear hk9
  go_wp2_with fail
  refine (kid_v NP 0 tE rfl rfl).mono ?_
  rintro e w10 ⟨v10, rfl, NE, hk10⟩
  have z10 := hk10.size
  try simp at z10
  replace N : IsN w10 (.agg #[ptrV b]) tA := inna
  replace X : Loc w10 w1.heap.size (ptrV b) 30 := loca
  replace Xc := X.cell
  replace Xl := X.lt
  have Xl_w10 := Xl
  replace Xf := X.frozen
  replace NB : IsN w10 (.agg #[.pointer p]) tB := inna
  replace Y : Loc w10 w5.heap.size (.pointer p) 30 := loca
  replace Yc := Y.cell
  replace Yl := Y.lt
  have Yl_w10 := Yl
  replace Yf := Y.frozen
  replace NP : IsN w10 v9 tP := inna
  replace NE : IsN w10 v10 tE := inna
  replace K : Kp w.heap.size [] w w10 := kpa
  replace Kz := K.size
  have Kz_w10 := Kz
  clear hk10
  go_wp2_with fail
  refine ((op_v NE 24 rfl)).mono ?_
  rintro e w11 ⟨rfl, hk11⟩
  have z11 := hk11.size
  try simp at z11
  replace N : IsN w11 (.agg #[ptrV b]) tA := inna
  replace X : Loc w11 w1.heap.size (ptrV b) 30 := loca
  replace Xc := X.cell
  replace Xl := X.lt
  have Xl_w11 := Xl
  replace Xf := X.frozen
  replace NB : IsN w11 (.agg #[.pointer p]) tB := inna
  replace Y : Loc w11 w5.heap.size (.pointer p) 30 := loca
  replace Yc := Y.cell
  replace Yl := Y.lt
  have Yl_w11 := Yl
  replace Yf := Y.frozen
  replace NP : IsN w11 v9 tP := inna
  replace NE : IsN w11 v10 tE := inna
  replace K : Kp w.heap.size [] w w11 := kpa
  replace Kz := K.size
  have Kz_w11 := Kz
  clear hk11
  clear NP NE
  go_wp2_with fail
  refine (kid_v NB 0 tP rfl rfl).mono ?_
  rintro e w12 ⟨v12, rfl, NP, hk12⟩
  have z12 := hk12.size
  try simp at z12
  replace N : IsN w12 (.agg #[ptrV b]) tA := inna
  replace X : Loc w12 w1.heap.size (ptrV b) 30 := loca
  replace Xc := X.cell
  replace Xl := X.lt
  have Xl_w12 := Xl
  replace Xf := X.frozen
  replace NB : IsN w12 (.agg #[.pointer p]) tB := inna
  replace Y : Loc w12 w5.heap.size (.pointer p) 30 := loca
  replace Yc := Y.cell
  replace Yl := Y.lt
  have Yl_w12 := Yl
  replace Yf := Y.frozen
  replace NP : IsN w12 v12 tP := inna
  replace K : Kp w.heap.size [] w w12 := kpa
  replace Kz := K.size
  have Kz_w12 := Kz
  clear hk12
  go_wp2_with fail
  refine (kid_v NP 0 tE rfl rfl).mono ?_
  rintro e w13 ⟨v13, rfl, NE, hk13⟩
  have z13 := hk13.size
  try simp at z13
  replace N : IsN w13 (.agg #[ptrV b]) tA := inna
  replace X : Loc w13 w1.heap.size (ptrV b) 30 := loca
  replace Xc := X.cell
  replace Xl := X.lt
  have Xl_w13 := Xl
  replace Xf := X.frozen
  replace NB : IsN w13 (.agg #[.pointer p]) tB := inna
  replace Y : Loc w13 w5.heap.size (.pointer p) 30 := loca
  replace Yc := Y.cell
  replace Yl := Y.lt
  have Yl_w13 := Yl
  replace Yf := Y.frozen
  replace NP : IsN w13 v12 tP := inna
  replace NE : IsN w13 v13 tE := inna
  replace K : Kp w.heap.size [] w w13 := kpa
  replace Kz := K.size
  have Kz_w13 := Kz
  clear hk13
  go_wp2_with fail
  refine ((n_v NE 1 rfl)).mono ?_
  rintro e w14 ⟨rfl, hk14⟩
  have z14 := hk14.size
  try simp at z14
  replace N : IsN w14 (.agg #[ptrV b]) tA := inna
  replace X : Loc w14 w1.heap.size (ptrV b) 30 := loca
  replace Xc := X.cell
  replace Xl := X.lt
  have Xl_w14 := Xl
  replace Xf := X.frozen
  replace NB : IsN w14 (.agg #[.pointer p]) tB := inna
  replace Y : Loc w14 w5.heap.size (.pointer p) 30 := loca
  replace Yc := Y.cell
  replace Yl := Y.lt
  have Yl_w14 := Yl
  replace Yf := Y.frozen
  replace NP : IsN w14 v12 tP := inna
  replace NE : IsN w14 v13 tE := inna
  replace K : Kp w.heap.size [] w w14 := kpa
  replace Kz := K.size
  have Kz_w14 := Kz
  clear hk14
  clear NP NE
  go_wp2_with fail
  refine (kid_v NB 0 tP rfl rfl).mono ?_
  rintro e w15 ⟨v15, rfl, NP, hk15⟩
  have z15 := hk15.size
  try simp at z15
  replace N : IsN w15 (.agg #[ptrV b]) tA := inna
  replace X : Loc w15 w1.heap.size (ptrV b) 30 := loca
  replace Xc := X.cell
  replace Xl := X.lt
  have Xl_w15 := Xl
  replace Xf := X.frozen
  replace NB : IsN w15 (.agg #[.pointer p]) tB := inna
  replace Y : Loc w15 w5.heap.size (.pointer p) 30 := loca
  replace Yc := Y.cell
  replace Yl := Y.lt
  have Yl_w15 := Yl
  replace Yf := Y.frozen
  replace NP : IsN w15 v15 tP := inna
  replace K : Kp w.heap.size [] w w15 := kpa
  replace Kz := K.size
  have Kz_w15 := Kz
  clear hk15
  go_wp2_with fail
  refine (kid_v NP 0 tE rfl rfl).mono ?_
  rintro e w16 ⟨v16, rfl, NE, hk16⟩
  have z16 := hk16.size
  try simp at z16
  replace N : IsN w16 (.agg #[ptrV b]) tA := inna
  replace X : Loc w16 w1.heap.size (ptrV b) 30 := loca
  replace Xc := X.cell
  replace Xl := X.lt
  have Xl_w16 := Xl
  replace Xf := X.frozen
  replace NB : IsN w16 (.agg #[.pointer p]) tB := inna
  replace Y : Loc w16 w5.heap.size (.pointer p) 30 := loca
  replace Yc := Y.cell
  replace Yl := Y.lt
  have Yl_w16 := Yl
  replace Yf := Y.frozen
  replace NP : IsN w16 v15 tP := inna
  replace NE : IsN w16 v16 tE := inna
  replace K : Kp w.heap.size [] w w16 := kpa
  replace Kz := K.size
  have Kz_w16 := Kz
  clear hk16
  go_wp2_with fail
  refine ((at_v NE 19 rfl)).mono ?_
  rintro e w17 ⟨rfl, hk17⟩
  have z17 := hk17.size
  try simp at z17
  replace N : IsN w17 (.agg #[ptrV b]) tA := inna
  replace X : Loc w17 w1.heap.size (ptrV b) 30 := loca
  replace Xc := X.cell
  replace Xl := X.lt
  have Xl_w17 := Xl
  replace Xf := X.frozen
  replace NB : IsN w17 (.agg #[.pointer p]) tB := inna
  replace Y : Loc w17 w5.heap.size (.pointer p) 30 := loca
  replace Yc := Y.cell
  replace Yl := Y.lt
  have Yl_w17 := Yl
  replace Yf := Y.frozen
  replace NP : IsN w17 v15 tP := inna
  replace NE : IsN w17 v16 tE := inna
  replace K : Kp w.heap.size [] w w17 := kpa
  replace Kz := K.size
  have Kz_w17 := Kz
  clear hk17
  clear NP NE
  have HS := show_c N ok_A len_A len_A2
  rw [show_A] at HS
  go_wp2_with fail
  refine (HS).mono ?_
  rintro e w18 ⟨rfl, hk18⟩
  have z18 := hk18.size
  try simp at z18
  replace N : IsN w18 (.agg #[ptrV b]) tA := inna
  replace X : Loc w18 w1.heap.size (ptrV b) 30 := loca
  replace Xc := X.cell
  replace Xl := X.lt
  have Xl_w18 := Xl
  replace Xf := X.frozen
  replace NB : IsN w18 (.agg #[.pointer p]) tB := inna
  replace Y : Loc w18 w5.heap.size (.pointer p) 30 := loca
  replace Yc := Y.cell
  replace Yl := Y.lt
  have Yl_w18 := Yl
  replace Yf := Y.frozen
  replace K : Kp w.heap.size [] w w18 := kpa
  replace Kz := K.size
  have Kz_w18 := Kz
  clear hk18
  clear HS
  have HZ := size_n _ tA (Nat.le_refl _) (by rw [size_A]; decide) b _ N
  rw [size_A] at HZ
  go_wp2_with fail
  refine (HZ).mono ?_
  rintro e w19 ⟨rfl, hk19⟩
  have z19 := hk19.size
  try simp at z19
  replace N : IsN w19 (.agg #[ptrV b]) tA := inna
  replace X : Loc w19 w1.heap.size (ptrV b) 30 := loca
  replace Xc := X.cell
  replace Xl := X.lt
  have Xl_w19 := Xl
  replace Xf := X.frozen
  replace NB : IsN w19 (.agg #[.pointer p]) tB := inna
  replace Y : Loc w19 w5.heap.size (.pointer p) 30 := loca
  replace Yc := Y.cell
  replace Yl := Y.lt
  have Yl_w19 := Yl
  replace Yf := Y.frozen
  replace K : Kp w.heap.size [] w w19 := kpa
  replace Kz := K.size
  have Kz_w19 := Kz
  clear hk19
  clear HZ
  go_wp2_with fail
  refine (kid_v N 7 zeroT rfl rfl).mono ?_
  rintro e w20 ⟨v20, rfl, NZ, hk20⟩
  have z20 := hk20.size
  try simp at z20
  replace N : IsN w20 (.agg #[ptrV b]) tA := inna
  replace X : Loc w20 w1.heap.size (ptrV b) 30 := loca
  replace Xc := X.cell
  replace Xl := X.lt
  have Xl_w20 := Xl
  replace Xf := X.frozen
  replace NB : IsN w20 (.agg #[.pointer p]) tB := inna
  replace Y : Loc w20 w5.heap.size (.pointer p) 30 := loca
  replace Yc := Y.cell
  replace Yl := Y.lt
  have Yl_w20 := Yl
  replace Yf := Y.frozen
  replace NZ : IsN w20 v20 zeroT := inna
  replace K : Kp w.heap.size [] w w20 := kpa
  replace Kz := K.size
  have Kz_w20 := Kz
  clear hk20
  go_wp2_with fail
  refine ((op_v NZ 0 rfl)).mono ?_
  rintro e w21 ⟨rfl, hk21⟩
  have z21 := hk21.size
  try simp at z21
  replace N : IsN w21 (.agg #[ptrV b]) tA := inna
  replace X : Loc w21 w1.heap.size (ptrV b) 30 := loca
  replace Xc := X.cell
  replace Xl := X.lt
  have Xl_w21 := Xl
  replace Xf := X.frozen
  replace NB : IsN w21 (.agg #[.pointer p]) tB := inna
  replace Y : Loc w21 w5.heap.size (.pointer p) 30 := loca
  replace Yc := Y.cell
  replace Yl := Y.lt
  have Yl_w21 := Yl
  replace Yf := Y.frozen
  replace NZ : IsN w21 v20 zeroT := inna
  replace K : Kp w.heap.size [] w w21 := kpa
  replace Kz := K.size
  have Kz_w21 := Kz
  clear hk21
  go_wp2
  go_ret
  exact ⟨rfl, kpa⟩

end Go.Proofs.YtbplaekabeggkaaGreatDoor

namespace Go.Proofs.YtbplaekabeggkaaGreatDoor

theorem placed_same (l : List Tok) (en en' : Int) : Same l (placed 0 l) en en' := by
  refine ⟨placed_length l 0, fun i => ?_, fun i => ?_⟩
  all_goals
    unfold tokAt
    cases h : l[i]? with
    | none =>
      have h1 : (placed 0 l)[i]? = none := by rw [List.getElem?_eq_none_iff] at h ⊢; rw [placed_length]; exact h
      rw [h1]; rfl
    | some t =>
      obtain ⟨b, hb⟩ := placed_get l 0 i t h
      rw [hb]; rfl

/-- what the two parses come to -/
theorem back {s : List UInt8} {l : List Tok} {p : Nat} (h : scan s = some (.ok l p)) (hs : s.length ≤ 2048) :
    ∃ k, (∃ t u, parseL k s = some (.ok t 0) ∧ parseL k (joinL (l.map (·.text))) = some (.ok u 0) ∧ sameT t u = true) ∨
      (∃ e i, parseL k s = some (.stop (tokAt l s.length i).at_ e) ∧ parseL k (joinL (l.map (·.text))) = some (.stop (tokAt (placed 0 l) (joinL (l.map (·.text))).length i).at_ e)) := by
  have hj := scan_joined h hs
  refine ⟨10 * l.length + 20, ?_⟩
  have hr := rel_prog (placed_same l s.length (joinL (l.map (·.text))).length) (10 * l.length + 20) [] [] 0 rfl
  have ht := pProg_tot (10 * l.length + 20) l s.length [] 0 (by omega)
  unfold parseL
  rw [h, hj]
  dsimp only
  rcases hr.parts with ⟨h1, -⟩ | ⟨a, b, q, h1, h2, h3⟩ | ⟨i, e, h1, h2⟩
  · exact absurd h1 ht
  · rw [h1, h2]
    refine .inl ⟨_, _, rfl, rfl, ?_⟩
    rw [sameT_bare]
    simp only [bare, h3]
  · rw [h1, h2]
    exact .inr ⟨e, i, rfl, rfl⟩

/-- the first token that stands at a token's place is that token -/
theorem place_inj {s : List UInt8} {l : List Tok} {p : Nat} (h : scan s = some (.ok l p)) (i j : Nat) (hi : i < l.length) (he : (tokAt l s.length i).at_ = (tokAt l s.length j).at_) : i = j := by
  obtain ⟨-, -, h1, h2, -, -⟩ := scan_spec h
  have hp := List.pairwise_iff_getElem.1 h2
  have ei : tokAt l s.length i = l[i] := by unfold tokAt; rw [List.getElem?_eq_getElem hi]; rfl
  rw [ei] at he
  rcases Nat.lt_or_ge j l.length with hj | hj
  · have ej : tokAt l s.length j = l[j] := by unfold tokAt; rw [List.getElem?_eq_getElem hj]; rfl
    rw [ej] at he
    rcases Nat.lt_trichotomy i j with h | h | h
    · have := hp i j hi hj h; omega
    · exact h
    · have := hp j i hj hi h; omega
  · have ej : tokAt l s.length j = noTok s.length := by unfold tokAt; rw [List.getElem?_eq_none hj]; rfl
    rw [ej] at he
    have := (h1 l[i] (List.getElem_mem hi)).2.2
    have e2 : (noTok s.length).at_ = s.length := rfl
    omega

theorem tokAt_in {l : List Tok} {en : Int} {i : Nat} (h : i < l.length) : tokAt l en i = l[i] := by unfold tokAt; rw [List.getElem?_eq_getElem h]; rfl
theorem tokAt_out {l : List Tok} {en : Int} {i : Nat} (h : l.length ≤ i) : (tokAt l en i).at_ = en := by unfold tokAt; rw [List.getElem?_eq_none h]; rfl

end Go.Proofs.YtbplaekabeggkaaGreatDoor

namespace Go.Proofs.YtbplaekabeggkaaGreatDoor
open Go.RowKit

/-- a slice value that reads as a row of tokens -/
structure TokRow (w : World) (v : Value) (l : List Tok) : Prop where
  own : ∃ base, w.ownsRow base 35 3 v l.length (tokCells l)
namespace TokRow
variable {w w' : World} {v : Value} {l : List Tok}
theorem kp {n : Nat} (h : TokRow w v l) (k : Kp n [] w w') (hn : w.heap.size ≤ n) : TokRow w' v l := by
  obtain ⟨base, h⟩ := h.own
  exact ⟨⟨base, ownsRow_frame h (Nat.le_refl _) (fun g hg => k.block g (by have := (h.lt g hg).2; omega) (by simp))⟩⟩
theorem alloc (h : TokRow w v l) (o : Obj) : TokRow (w.alloc o) v l := h.kp ((Kp.refl w.heap.size [] w).alloc (Nat.le_refl _) o) (Nat.le_refl _)
theorem drew (h : TokRow w v l) : TokRow w.drew v l := h.kp ((Kp.refl w.heap.size [] w).drew) (Nat.le_refl _)
theorem drewN (h : TokRow w v l) (q : Nat) : TokRow (w.drewN q) v l := h.kp ((Kp.refl w.heap.size [] w).drewN q) (Nat.le_refl _)
theorem shape (h : TokRow w v l) : ∃ a c, v = .slice a l.length c := by
  obtain ⟨base, h⟩ := h.own
  rcases h.2 with ⟨rfl, h0⟩ | ⟨g, cap, cur, rfl, -⟩
  · exact ⟨_, _, by rw [h0]⟩
  · exact ⟨_, _, rfl⟩
theorem get {a : Option Addr} {n c : Nat} (h : TokRow w (.slice a n c) l) {i : Nat} (hi : i < l.length) (en : Int) : ∃ g, a = some ⟨g, 0, none⟩ ∧ g < w.heap.size ∧ w.cell? ⟨g, i * 3 + 2, none⟩ = some (.int .i64 (tokAt l en i).at_) := by
  obtain ⟨base, h⟩ := h.own
  rcases h.2 with ⟨-, h0⟩ | ⟨g, cap, cur, e, h1, h2, -⟩
  · omega
  · cases e
    have hc := h.cells (g := g) rfl
    have hadd : ∀ j, (⟨g, 0, none⟩ : Addr).add j = ⟨g, j, none⟩ := fun j => by unfold Addr.add; split <;> simp_all
    have c3 := hc _ _ (tokCells_get l i l[i] (List.getElem?_eq_getElem hi)).2.2
    rw [hadd] at c3
    exact ⟨g, rfl, (Array.getElem?_eq_some_iff.1 h2).1, by rw [tokAt_in hi]; exact c3⟩
end TokRow
theorem trwa {w : World} {v : Value} {l : List Tok} (h : TokRow w v l := by (repeat' (first | assumption | (refine TokRow.alloc ?_ _) | (refine TokRow.drewN ?_ _) | (refine TokRow.drew ?_) | (refine TokRow.kp ?_ (by assumption) ?_) | omega | (simp; done) | (simp; omega)))) : TokRow w v l := h

set_option maxRecDepth 100000 in
set_option maxHeartbeats 1000000 in
theorem law_long (s : List UInt8) (w : World) (hv : Vars w) (h : 2048 < s.length) : Calls Tryz.prog 3 #[.string (B s)] w fun e w' => e = .returned (.bool true) ∧ Kp w.heap.size [] w w' := by
  have ha := awake_c w hv
  have hi : (2048 : Int) < (s.length : Int) := by omega
  go_enter Tryz.func3, Tryz.ntmps3
  go_wp2_with fail
  refine ha.mono ?_
  rintro e w1 ⟨rfl, hk1⟩
  go_wp2
  go_ret
  exact ⟨rfl, kpa⟩

set_option maxRecDepth 100000 in
set_option maxHeartbeats 1000000 in
theorem law_stop (s : List UInt8) (w : World) (hv : Vars w) (h : s.length ≤ 2048) (a e0 : Int) (hS : scan s = some (.stop a e0)) : Calls Tryz.prog 3 #[.string (B s)] w fun e w' => e = .returned (.bool true) ∧ Kp w.heap.size [] w w' := by
  have ha := awake_c w hv
  have hlv := hv.lt
  have hV : ∀ W, Kp w.heap.size [] w W → Vars W := fun W k => hv.kp k hlv (by simp)
  have hi : ¬ (2048 : Int) < (s.length : Int) := by omega
  have hne := scan_err hS
  have heb : (e0 != 0) = true := by simpa using hne
  have hsc := fun w1 hv1 => scan_c s w1 (by omega) hv1 _ hS
  clear hS hne
  go_enter Tryz.func3, Tryz.ntmps3
  go_wp2_with fail
  refine ha.mono ?_
  clear ha
  rintro e w1 ⟨rfl, hk1⟩
  have hV1 := hV _ hk1
  go_wp2_with fail
  refine (hsc _ hV1).mono ?_
  rintro e w2 ⟨rfl, hk2⟩
  have z2 := hk2.size
  have z1 := hk1.size
  go_wp2
  go_ret
  exact ⟨rfl, kpa⟩

set_option maxRecDepth 100000 in
set_option maxHeartbeats 4000000 in
theorem law_ok (s m : List UInt8) (l : List Tok) (w : World) (hv : Vars w) (h : s.length ≤ 2048) (hm : m = joinL (l.map (·.text))) (hml : m.length ≤ 10000) (hll : l.length ≤ 10000) (hS : scan s = some (.ok l 0)) (hS2 : scan m = some (.ok (placed 0 l) 0)) (k : Nat) (t u : T) (hP : parseL k s = some (.ok t 0)) (hP2 : parseL k m = some (.ok u 0)) (hsm : sameT t u = true) : Calls Tryz.prog 3 #[.string (B s)] w fun e w' => e = .returned (.bool true) ∧ Kp w.heap.size [] w w' := by
  have ha := awake_c w hv
  have hlv := hv.lt
  have hV : ∀ W, Kp w.heap.size [] w W → Vars W := fun W k => hv.kp k hlv (by simp)
  have hi : ¬ (2048 : Int) < (s.length : Int) := by omega
  have hsc := fun w1 hv1 => scan_c s w1 (by omega) hv1 _ hS
  have hsc2 := fun w1 hv1 => scan_c m w1 hml hv1 _ hS2
  have hjo := fun base v w1 hO => join_c l base v w1 hO (by omega) (by rw [← hm]; omega)
  rw [← hm] at hjo
  have hpl := placed_length l 0
  have hp1 := fun w1 hv1 => parse_c s w1 (by omega) hv1 k _ hP
  have hp2 := fun w1 hv1 => parse_c m w1 (by omega) hv1 k _ hP2
  have HPI := Lib.hid (place_inj hS)
  clear hS hS2 hP hP2 hm
  have K := Kp.refl w.heap.size [] w
  go_enter Tryz.func3, Tryz.ntmps3
  go_wp2_with fail
  refine (ha).mono ?_
  rintro e w1 ⟨rfl, hk1⟩
  have z1 := hk1.size
  try simp at z1
  replace K : Kp w.heap.size [] w w1 := kpa
  replace Kz := K.size
  have Kz_w1 := Kz
  clear hk1
  clear ha
  have hV1 := hV _ K
  go_wp2_with fail
  refine (hsc _ hV1).mono ?_
  clear hsc hV1
  rintro e w2 ⟨v2, rfl, hO2, hk2⟩
  have z2 := hk2.size
  have R : TokRow w2 v2 l := ⟨⟨_, hO2⟩⟩
  obtain ⟨a2, c2, rfl⟩ := R.shape
  replace K : Kp w.heap.size [] w w2 := kpa
  replace Kz := K.size
  have Kz_w2 := Kz
  clear hk2
  go_wp2_with fail
  refine (hjo _ _ _ hO2).mono ?_
  clear hjo hO2
  rintro e w3 ⟨rfl, hk3⟩
  have z3 := hk3.size
  replace R : TokRow w3 (.slice a2 l.length c2) l := trwa
  replace K : Kp w.heap.size [] w w3 := kpa
  replace Kz := K.size
  have Kz_w3 := Kz
  clear hk3
  have hV1 := hV _ K
  go_wp2_with fail
  refine (hsc2 _ hV1).mono ?_
  clear hsc2 hV1
  rintro e w4 ⟨v4, rfl, hO4, hk4⟩
  have z4 := hk4.size
  have Q : TokRow w4 v4 (placed 0 l) := ⟨⟨_, hO4⟩⟩
  clear hO4
  obtain ⟨a4, c4, rfl⟩ := Q.shape
  rw [hpl] at Q
  rw [hpl]
  replace R : TokRow w4 (.slice a2 l.length c2) l := trwa
  replace K : Kp w.heap.size [] w w4 := kpa
  replace Kz := K.size
  have Kz_w4 := Kz
  clear hk4
  have hV1 := hV _ K
  go_wp2_with fail
  refine (hp1 _ hV1).mono ?_
  clear hp1 hV1
  rintro e w5 ⟨b5, rfl, hT5, hk5⟩
  have z5 := hk5.size
  have N5 : IsN w5 (.agg #[ptrV b5]) t := .inr ⟨b5, _, _, rfl, Nat.le_refl _, hT5⟩
  clear hT5
  replace R : TokRow w5 (.slice a2 l.length c2) l := trwa
  replace Q : TokRow w5 (.slice a4 l.length c4) (placed 0 l) := trwa
  replace K : Kp w.heap.size [] w w5 := kpa
  replace Kz := K.size
  have Kz_w5 := Kz
  clear hk5
  have X : Loc (w5.alloc (.cells #[ptrV b5] 30)) w5.heap.size (ptrV b5) 30 := Loc.new _ _ _
  have hV1 : Vars (w5.alloc (.cells #[ptrV b5] 30)) := hV _ (kpa)
  go_wp2_with fail
  refine (hp2 _ hV1).mono ?_
  clear hp2 hV1
  rintro e w6 ⟨b6, rfl, hT6, hk6⟩
  have z6 := hk6.size
  try simp at z6
  have N6 : IsN w6 (.agg #[ptrV b6]) u := .inr ⟨b6, _, _, rfl, Nat.le_refl _, hT6⟩
  clear hT6
  replace R : TokRow w6 (.slice a2 l.length c2) l := trwa
  replace Q : TokRow w6 (.slice a4 l.length c4) (placed 0 l) := trwa
  replace N5 : IsN w6 (.agg #[ptrV b5]) t := inna
  replace X : Loc w6 w5.heap.size (ptrV b5) 30 := loca
  replace Xc := X.cell
  replace Xl := X.lt
  have Xl_w6 := Xl
  replace Xf := X.frozen
  replace K : Kp w.heap.size [] w w6 := kpa
  replace Kz := K.size
  have Kz_w6 := Kz
  clear hk6
  have Y : Loc (w6.alloc (.cells #[ptrV b6] 30)) w6.heap.size (ptrV b6) 30 := Loc.new _ _ _
  have hal := alike_c t u _ _ _ (N5.alloc (.cells #[ptrV b6] 30)) (N6.alloc (.cells #[ptrV b6] 30))
  rw [hsm] at hal
  go_wp2_with fail
  refine hal.mono ?_
  clear hal
  rintro e w7 ⟨rfl, hk7⟩
  have z7 := hk7.size
  try simp at z7
  go_wp2
  go_ret
  exact ⟨rfl, kpa⟩

set_option maxRecDepth 100000 in
set_option maxHeartbeats 4000000 in
theorem law_stop0 (s m : List UInt8) (l : List Tok) (w : World) (hv : Vars w) (h : s.length ≤ 2048) (hm : m = joinL (l.map (·.text))) (hml : m.length ≤ 10000) (hll : l.length ≤ 10000) (hS : scan s = some (.ok l 0)) (hS2 : scan m = some (.ok (placed 0 l) 0)) (k : Nat) (i : Nat) (hP : parseL k s = some (.stop (tokAt l s.length i).at_ 0)) (hP2 : parseL k m = some (.stop (tokAt (placed 0 l) m.length i).at_ 0)) : Calls Tryz.prog 3 #[.string (B s)] w fun e w' => e = .returned (.bool true) ∧ Kp w.heap.size [] w w' := by
  have ha := awake_c w hv
  have hlv := hv.lt
  have hV : ∀ W, Kp w.heap.size [] w W → Vars W := fun W k => hv.kp k hlv (by simp)
  have hi : ¬ (2048 : Int) < (s.length : Int) := by omega
  have hsc := fun w1 hv1 => scan_c s w1 (by omega) hv1 _ hS
  have hsc2 := fun w1 hv1 => scan_c m w1 hml hv1 _ hS2
  have hjo := fun base v w1 hO => join_c l base v w1 hO (by omega) (by rw [← hm]; omega)
  rw [← hm] at hjo
  have hpl := placed_length l 0
  have hp1 := fun w1 hv1 => parse_c s w1 (by omega) hv1 k _ hP
  have hp2 := fun w1 hv1 => parse_c m w1 (by omega) hv1 k _ hP2
  have HPI := Lib.hid (place_inj hS)
  clear hS hS2 hP hP2 hm
  have K := Kp.refl w.heap.size [] w
  go_enter Tryz.func3, Tryz.ntmps3
  go_wp2_with fail
  refine (ha).mono ?_
  rintro e w1 ⟨rfl, hk1⟩
  have z1 := hk1.size
  try simp at z1
  replace K : Kp w.heap.size [] w w1 := kpa
  replace Kz := K.size
  have Kz_w1 := Kz
  clear hk1
  clear ha
  have hV1 := hV _ K
  go_wp2_with fail
  refine (hsc _ hV1).mono ?_
  clear hsc hV1
  rintro e w2 ⟨v2, rfl, hO2, hk2⟩
  have z2 := hk2.size
  have R : TokRow w2 v2 l := ⟨⟨_, hO2⟩⟩
  obtain ⟨a2, c2, rfl⟩ := R.shape
  replace K : Kp w.heap.size [] w w2 := kpa
  replace Kz := K.size
  have Kz_w2 := Kz
  clear hk2
  go_wp2_with fail
  refine (hjo _ _ _ hO2).mono ?_
  clear hjo hO2
  rintro e w3 ⟨rfl, hk3⟩
  have z3 := hk3.size
  replace R : TokRow w3 (.slice a2 l.length c2) l := trwa
  replace K : Kp w.heap.size [] w w3 := kpa
  replace Kz := K.size
  have Kz_w3 := Kz
  clear hk3
  have hV1 := hV _ K
  go_wp2_with fail
  refine (hsc2 _ hV1).mono ?_
  clear hsc2 hV1
  rintro e w4 ⟨v4, rfl, hO4, hk4⟩
  have z4 := hk4.size
  have Q : TokRow w4 v4 (placed 0 l) := ⟨⟨_, hO4⟩⟩
  clear hO4
  obtain ⟨a4, c4, rfl⟩ := Q.shape
  rw [hpl] at Q
  rw [hpl]
  replace R : TokRow w4 (.slice a2 l.length c2) l := trwa
  replace K : Kp w.heap.size [] w w4 := kpa
  replace Kz := K.size
  have Kz_w4 := Kz
  clear hk4
  have hV1 := hV _ K
  go_wp2_with fail
  refine (hp1 _ hV1).mono ?_
  clear hp1 hV1
  rintro e w5 ⟨rfl, hk5⟩
  have z5 := hk5.size
  replace R : TokRow w5 (.slice a2 l.length c2) l := trwa
  replace Q : TokRow w5 (.slice a4 l.length c4) (placed 0 l) := trwa
  replace K : Kp w.heap.size [] w w5 := kpa
  replace Kz := K.size
  have Kz_w5 := Kz
  clear hk5
  have X : Loc (w5.alloc (.cells #[.pointer none] 30)) w5.heap.size (.pointer none) 30 := Loc.new _ _ _
  have hV1 : Vars (w5.alloc (.cells #[.pointer none] 30)) := hV _ (kpa)
  go_wp2_with fail
  refine (hp2 _ hV1).mono ?_
  clear hp2 hV1
  rintro e w6 ⟨rfl, hk6⟩
  have z6 := hk6.size
  try simp at z6
  replace R : TokRow w6 (.slice a2 l.length c2) l := trwa
  replace Q : TokRow w6 (.slice a4 l.length c4) (placed 0 l) := trwa
  replace X : Loc w6 w5.heap.size (.pointer none) 30 := loca
  replace Xc := X.cell
  replace Xl := X.lt
  have Xl_w6 := Xl
  replace Xf := X.frozen
  replace K : Kp w.heap.size [] w w6 := kpa
  replace Kz := K.size
  have Kz_w6 := Kz
  clear hk6
  have Y : Loc (w6.alloc (.cells #[.pointer none] 30)) w6.heap.size (.pointer none) 30 := Loc.new _ _ _
  have hal := alike_c zeroT zeroT nilN nilN (w6.alloc (.cells #[.pointer none] 30)) (.inl ⟨rfl, rfl⟩) (.inl ⟨rfl, rfl⟩)
  rw [show sameT zeroT zeroT = true from rfl] at hal
  go_wp2_with fail
  refine hal.mono ?_
  clear hal
  rintro e w7 ⟨rfl, hk7⟩
  have z7 := hk7.size
  try simp at z7
  replace R : TokRow w7 (.slice a2 l.length c2) l := trwa
  replace Q : TokRow w7 (.slice a4 l.length c4) (placed 0 l) := trwa
  replace X : Loc w7 w5.heap.size (.pointer none) 30 := loca
  replace Xc := X.cell
  replace Xl := X.lt
  have Xl_w7 := Xl
  replace Xf := X.frozen
  replace K : Kp w.heap.size [] w w7 := kpa
  replace Kz := K.size
  have Kz_w7 := Kz
  clear hk7
  go_wp2
  go_ret
  exact ⟨rfl, kpa⟩

set_option maxRecDepth 100000 in
set_option maxHeartbeats 4000000 in
theorem law_stop1 (s m : List UInt8) (l : List Tok) (w : World) (hv : Vars w) (h : s.length ≤ 2048) (hm : m = joinL (l.map (·.text))) (hml : m.length ≤ 10000) (hll : l.length ≤ 10000) (hS : scan s = some (.ok l 0)) (hS2 : scan m = some (.ok (placed 0 l) 0)) (k : Nat) (i : Nat) (e0 : Int) (he0 : e0 ≠ 0) (hP : parseL k s = some (.stop (tokAt l s.length i).at_ e0)) (hP2 : parseL k m = some (.stop (tokAt (placed 0 l) m.length i).at_ e0)) : Calls Tryz.prog 3 #[.string (B s)] w fun e w' => e = .returned (.bool true) ∧ Kp w.heap.size [] w w' := by
  have ha := awake_c w hv
  have hlv := hv.lt
  have hV : ∀ W, Kp w.heap.size [] w W → Vars W := fun W k => hv.kp k hlv (by simp)
  have hi : ¬ (2048 : Int) < (s.length : Int) := by omega
  have hsc := fun w1 hv1 => scan_c s w1 (by omega) hv1 _ hS
  have hsc2 := fun w1 hv1 => scan_c m w1 hml hv1 _ hS2
  have hjo := fun base v w1 hO => join_c l base v w1 hO (by omega) (by rw [← hm]; omega)
  rw [← hm] at hjo
  have hpl := placed_length l 0
  have hp1 := fun w1 hv1 => parse_c s w1 (by omega) hv1 k _ hP
  have hp2 := fun w1 hv1 => parse_c m w1 (by omega) hv1 k _ hP2
  have HPI := Lib.hid (place_inj hS)
  clear hS hS2 hP hP2 hm
  have K := Kp.refl w.heap.size [] w
  go_enter Tryz.func3, Tryz.ntmps3
  go_wp2_with fail
  refine (ha).mono ?_
  rintro e w1 ⟨rfl, hk1⟩
  have z1 := hk1.size
  try simp at z1
  replace K : Kp w.heap.size [] w w1 := kpa
  replace Kz := K.size
  have Kz_w1 := Kz
  clear hk1
  clear ha
  have hV1 := hV _ K
  go_wp2_with fail
  refine (hsc _ hV1).mono ?_
  clear hsc hV1
  rintro e w2 ⟨v2, rfl, hO2, hk2⟩
  have z2 := hk2.size
  have R : TokRow w2 v2 l := ⟨⟨_, hO2⟩⟩
  obtain ⟨a2, c2, rfl⟩ := R.shape
  replace K : Kp w.heap.size [] w w2 := kpa
  replace Kz := K.size
  have Kz_w2 := Kz
  clear hk2
  go_wp2_with fail
  refine (hjo _ _ _ hO2).mono ?_
  clear hjo hO2
  rintro e w3 ⟨rfl, hk3⟩
  have z3 := hk3.size
  replace R : TokRow w3 (.slice a2 l.length c2) l := trwa
  replace K : Kp w.heap.size [] w w3 := kpa
  replace Kz := K.size
  have Kz_w3 := Kz
  clear hk3
  have hV1 := hV _ K
  go_wp2_with fail
  refine (hsc2 _ hV1).mono ?_
  clear hsc2 hV1
  rintro e w4 ⟨v4, rfl, hO4, hk4⟩
  have z4 := hk4.size
  have Q : TokRow w4 v4 (placed 0 l) := ⟨⟨_, hO4⟩⟩
  clear hO4
  obtain ⟨a4, c4, rfl⟩ := Q.shape
  rw [hpl] at Q
  rw [hpl]
  replace R : TokRow w4 (.slice a2 l.length c2) l := trwa
  replace K : Kp w.heap.size [] w w4 := kpa
  replace Kz := K.size
  have Kz_w4 := Kz
  clear hk4
  have hV1 := hV _ K
  go_wp2_with fail
  refine (hp1 _ hV1).mono ?_
  clear hp1 hV1
  rintro e w5 ⟨rfl, hk5⟩
  have z5 := hk5.size
  replace R : TokRow w5 (.slice a2 l.length c2) l := trwa
  replace Q : TokRow w5 (.slice a4 l.length c4) (placed 0 l) := trwa
  replace K : Kp w.heap.size [] w w5 := kpa
  replace Kz := K.size
  have Kz_w5 := Kz
  clear hk5
  have X : Loc (w5.alloc (.cells #[.pointer none] 30)) w5.heap.size (.pointer none) 30 := Loc.new _ _ _
  have hV1 : Vars (w5.alloc (.cells #[.pointer none] 30)) := hV _ (kpa)
  go_wp2_with fail
  refine (hp2 _ hV1).mono ?_
  clear hp2 hV1
  rintro e w6 ⟨rfl, hk6⟩
  have z6 := hk6.size
  try simp at z6
  replace R : TokRow w6 (.slice a2 l.length c2) l := trwa
  replace Q : TokRow w6 (.slice a4 l.length c4) (placed 0 l) := trwa
  replace X : Loc w6 w5.heap.size (.pointer none) 30 := loca
  replace Xc := X.cell
  replace Xl := X.lt
  have Xl_w6 := Xl
  replace Xf := X.frozen
  replace K : Kp w.heap.size [] w w6 := kpa
  replace Kz := K.size
  have Kz_w6 := Kz
  clear hk6
  have Y : Loc (w6.alloc (.cells #[.pointer none] 30)) w6.heap.size (.pointer none) 30 := Loc.new _ _ _
  have hal := alike_c zeroT zeroT nilN nilN (w6.alloc (.cells #[.pointer none] 30)) (.inl ⟨rfl, rfl⟩) (.inl ⟨rfl, rfl⟩)
  rw [show sameT zeroT zeroT = true from rfl] at hal
  go_wp2_with fail
  refine hal.mono ?_
  clear hal
  rintro e w7 ⟨rfl, hk7⟩
  have z7 := hk7.size
  try simp at z7
  replace R : TokRow w7 (.slice a2 l.length c2) l := trwa
  replace Q : TokRow w7 (.slice a4 l.length c4) (placed 0 l) := trwa
  replace X : Loc w7 w5.heap.size (.pointer none) 30 := loca
  replace Xc := X.cell
  replace Xl := X.lt
  have Xl_w7 := Xl
  replace Xf := X.frozen
  replace K : Kp w.heap.size [] w w7 := kpa
  replace Kz := K.size
  have Kz_w7 := Kz
  clear hk7
  have heb : (e0 == 0) = false := by simpa using he0
  have hen : (e0 != 0) = true := by simpa using he0
  go_wp2_with fail
  go_loopg [16] (l.length + 1) (fun j iv wr => ∃ n : Nat, iv = .int .i64 n ∧ wr = w7 ∧ Go.Aside (j + n = l.length + 1 ∧ n ≤ l.length ∧ n ≤ i))
  case atStart => exact ⟨0, rfl, rfl, ⟨by simp, by simp, by simp⟩⟩
  case round =>
    obtain ⟨n, rfl, rfl, A⟩ := hrel
    obtain ⟨q1, q2, q3⟩ := A.out
    cases gk with
    | zero => omega
    | succ gk =>
    by_cases hlt : n < l.length
    · have hlti : (n : Int) < (l.length : Int) := by omega
      obtain ⟨g2, rfl, gl2, c02⟩ := R.get hlt s.length
      obtain ⟨g4, rfl, gl4, c04⟩ := Q.get (i := n) (by rw [hpl]; exact hlt) m.length
      by_cases hni : n = i
      · subst hni
        clear HPI hpl
        generalize (tokAt l s.length n).at_ = p at *
        generalize (tokAt (placed 0 l) m.length n).at_ = q at *
        go_wp2
        go_ret
        exact ⟨rfl, K⟩
      · have hne : ((tokAt l s.length n).at_ == (tokAt l s.length i).at_) = false := by
          have := fun e => hni (HPI.out n i hlt e)
          simpa using this
        clear HPI hpl
        generalize (tokAt l s.length n).at_ = p at *
        generalize (tokAt l s.length i).at_ = p2 at *
        generalize (tokAt (placed 0 l) m.length n).at_ = q at *
        go_wp2
        go_roundg gk
        case measure => omega
        case rel => exact ⟨n + 1, by push_cast; rfl, rfl, ⟨by omega, by omega, by omega⟩⟩
    · have hlti : ¬ (n : Int) < (l.length : Int) := by omega
      have e1 : (tokAt l s.length i).at_ = s.length := tokAt_out (by omega)
      have e2 : (tokAt (placed 0 l) m.length i).at_ = m.length := tokAt_out (by rw [hpl]; omega)
      rw [e1, e2]
      clear HPI hpl
      go_wp2
      go_ret
      exact ⟨rfl, K⟩

end Go.Proofs.YtbplaekabeggkaaGreatDoor

namespace Go.Proofs.YtbplaekabeggkaaGreatDoor
open Go.RowKit

theorem blanks_c (b : ByteArray) (w : World) (hv : Vars w) : Calls Tryz.prog 3 #[.string b] w fun e w' => e = .returned (.bool true) ∧ Kp w.heap.size [] w w' := by
  rw [← B_of b]
  generalize b.toList = s
  rcases Nat.lt_or_ge 2048 s.length with h | h
  · exact law_long s w hv h
  cases hS : scan s with
  | none => exact absurd hS (scan_tot s)
  | some x =>
    cases x with
    | stop a e => exact law_stop s w hv h a e hS
    | ok l p =>
      obtain ⟨hp, -, -, -, h3, h4⟩ := scan_spec hS
      subst hp
      have hS2 := scan_joined hS h
      have hl := joinL_length (l.map (·.text))
      rw [List.map_map, List.length_map] at hl
      have hsum : (l.map (List.length ∘ fun x => x.text)).sum = (l.map fun t => t.text.length).sum := rfl
      rw [hsum] at hl
      obtain ⟨k, ⟨t, u, h5, h6, h7⟩ | ⟨e, i, h5, h6⟩⟩ := back hS h
      · exact law_ok s _ l w hv h rfl (by omega) (by omega) hS hS2 k t u h5 h6 h7
      · by_cases he : e = 0
        · subst he
          exact law_stop0 s _ l w hv h rfl (by omega) (by omega) hS hS2 k i h5 h6
        · exact law_stop1 s _ l w hv h rfl (by omega) (by omega) hS hS2 k i e he h5 h6

end Go.Proofs.YtbplaekabeggkaaGreatDoor

namespace Go.Proofs.YtbplaekabeggkaaGreatDoor
open Go.ChangeShapes Go.WideShapes Go.ChangeAt Go.RowKit Go.ChangeMaps

theorem own : ownKnob Tryz.prog.godebug = Option.none := by kernel_rfl
theorem gR : Tryz.prog.globalNamed "strconv.ErrRange" = some 2 := by kernel_rfl
theorem gRType : (Tryz.prog.globals[2]?).map (·.type) = some 119 := by kernel_rfl
theorem cells220 : Tryz.prog.cellsOf 220 = 1 := by kernel_rfl
theorem cells9 : Tryz.prog.cellsOf 9 = 1 := by kernel_rfl
theorem star : "*" ++ "errors.errorString" = "*errors.errorString" := by decide
theorem row218 (u : TypeId) (h : Tryz.prog.typeName? 3 u = some "*errors.errorString") : u = 218 :=
  typeName_ptr_named (nm := "errors.errorString") (by rw [star]; kernel_rfl) (by kernel_rfl) (by decide) u (by rw [star]; exact h)

theorem below_of_kp {w w' : World} (k : Kp w.heap.size [] w w') : Below w.heap.size w w' := ⟨k.os, k.tape, k.output, k.size, fun i hi => k.block i hi (by simp)⟩

/-- what the row's list gives the walk: strconv.ErrRange holds an error -/
theorem vars_of_laid {W : World} (h : laidMet Tryz.prog Rows.parseBlanksRow.laid W) : Vars W := by
  have h5 := laidMet.tail (laidMet.tail (laidMet.tail (laidMet.tail h)))
  obtain ⟨a, s, hv, -, -, -⟩ := laid_sentinel h5 gR gRType Tryz.underlying119 row218 Tryz.underlying218 Tryz.underlying220 rfl rfl Tryz.underlying9 cells220 cells9
  have h0 := World.var?_cell gR hv 0
  exact ⟨_, by simpa using h0, .inr ⟨_, _, rfl⟩⟩

set_option maxRecDepth 100000 in
theorem lifted (os : Os) (started : os.Started) (H : Type) (enc : TypeId × Value → H) :
    ReturnsInHanded {} Tryz.checked os 3 .any (fun w args => (Rows.parseBlanksSpec.pre enc Tryz.prog Tryz.f3 Rows.parseBlanksRow.domain false w args ∧ laidMetH Tryz.prog Rows.parseBlanksRow.laid w) ∧ sizedMet enc Tryz.prog Tryz.f3 (OpenSpec.ofChange Rows.parseBlanksSpec) false w args)
      (Rows.parseBlanksSpec.post enc Tryz.prog Tryz.f3 false true false false) := by
  refine returnsInHanded_of_change_and (C := Tryz.checked) (X := fun w _ => laidMetH Tryz.prog Rows.parseBlanksRow.laid w) (fun _ _ _ hh h => h.of_heap hh) own started (by kernel_rfl) Tryz.func3
    (ChangeSpec.witness_shaped (enc := enc) (C := Tryz.checked) (os := os) (X := fun w _ => laidMetH Tryz.prog Rows.parseBlanksRow.laid w) false (World.laidAll Tryz.prog os Rows.parseBlanksRow.laid) #[.string ⟨#[]⟩] 8 (World.laidAll_os _ _ _)
      (World.shaped_of_ZipB (by kernel_rfl) (by kernel_rfl)) (by kernel_rfl) (by kernel_rfl) (by kernel_rfl)
      (by rw [MakeChecks.laidMetH_plain _ _ _ (by kernel_rfl)]; exact laidMet_laidAll _ (by kernel_rfl) (by kernel_rfl))) ?_
  intro W base args ds gs before hval0 hW hc _ hL _
  have hval : ∀ (j : Nat) t v, Tryz.f3.params[j]? = some t → args[j]? = some v → Value.okWide Tryz.prog W .any base t v := hval0
  have hW' := hW
  obtain ⟨p, q, hA0, hV, rfl, _, _⟩ := hW
  have hA : DataW.TrodAll enc Tryz.prog W 0 (fun _ => true) true Tryz.f3.params.toList args.toList ds p := hA0
  rw [Tryz.params3] at hA hval
  obtain ⟨v0, d0, rfl, rfl, h0⟩ := trodAll_one hA
  obtain ⟨rfl, rfl⟩ := trodVars_none hV
  obtain ⟨s, rfl, rfl, rfl, hs⟩ := open_string Tryz.underlying9 (hval 0 9 v0 rfl rfl) h0
  simp only [List.append_nil] at hW'
  rw [MakeChecks.laidMetH_plain _ _ _ (by kernel_rfl)] at hL
  refine (blanks_c s W (vars_of_laid hL)).mono fun e W' ⟨he, hk⟩ => ?_
  subst he
  exact ⟨_, rfl, _, _, _, [], [], [], hW', trodAll_mk1 (shut_bool Tryz.underlying4 _), trodAll_mk1 (shut_string Tryz.underlying9 hs), rfl, (below_of_kp hk).frame _, fun h => by cases h⟩

theorem holds : Rows.ParseBlanksSaid :=
  OpenClaim.holds_of_wide 3 Tryz.f3 rfl rfl rfl rfl rfl rfl rfl ⟨rfl, rfl, rfl, rfl, rfl⟩ rfl rfl rfl rfl rfl (by kernel_rfl) Tryz.func3 (by kernel_rfl)
    (of_decide_eq_true (by kernel_rfl)) (by unfold Func.isWrapper; first | (rw [if_pos (by decide +kernel)]; kernel_rfl) | (rw [if_neg (by decide +kernel)]; exact ⟨rfl, rfl⟩))
    (fun os started H enc _ => lifted os started H enc)

theorem blanks_card : Rows.ParseBlanksCardSaid :=
  Claim7.holds_tied_plain_at .later [] [.data, .data, .data, .data, .sentinel, .sentinel, .pinned] true (true, "a81e55ac9b9969f85df3eec119f4e3e460ad30d46030c42a55ca5944c27d9ba2") true holds (fun _ h => by cases h) (by kernel_rfl) (fun _ h => by cases h) parseBlanks_row_tie rfl ⟨rfl, rfl⟩ (by kernel_rfl) rfl
    (fun f fn hf hfn => by
      obtain rfl : f = 3 := Option.some.inj ((show Tryz.prog.funcNamed "truant/truantlaw04.ParseBlanks" = some 3 by kernel_rfl).symm.trans hf) |>.symm
      obtain rfl : fn = Tryz.f3 := (Option.some.inj (Tryz.func3.symm.trans hfn)).symm
      exact ⟨by kernel_rfl, fun j t ht => by
        rw [Tryz.params3] at ht
        have hm : t ∈ [9] := by simpa using Array.mem_of_getElem? ht
        have hall : ([9].all fun u => !Tryz.prog.wantsStandIn u) = true := by kernel_rfl
        exact (show Tryz.prog.wantsStandIn t = false from by simpa using List.all_eq_true.1 hall t hm)⟩)
    (by kernel_rfl)
#print axioms blanks_card

end Go.Proofs.YtbplaekabeggkaaGreatDoor
