/- PROVED: the law ParseBlanks of layer 4 answers true for every string, as its given card says (the listed package variables as the program lays them); no other condition. The parser, the lexer and the writer of the awake test are walked whole. Text 15 of 16. -/
import Derived.Test.YtbplaekabeggkaaGreatDoorG14
import Derived.Deep.LoopGhost
import Derived.Test.YtbplaekabeggkaaGreatDoorG11
set_option linter.unusedSimpArgs false
set_option linter.unusedVariables false
namespace Go.Proofs.YtbplaekabeggkaaGreatDoor
open Go.RowKit

theorem IsN.kids_le {w : World} {v : Value} {t : T} (h : IsN w v t) : t.kids.length ≤ 9223372036854775807 := by
  rcases h with ⟨-, rfl⟩ | ⟨b, lo, hi, -, hh, hT⟩
  · simp [zeroT, T.kids]
  · cases t with
    | mk op name typ n a ks =>
      simp only [IsT] at hT
      obtain ⟨-, -, sv, bs, -, h2, -, h4⟩ := hT
      have := IsL.len _ _ h4
      simp only [T.kids]
      rcases h2.2 with ⟨-, h⟩ | ⟨g, cap, cur, -, -, -, h5, h6, -⟩
      · omega
      · unfold maxLen at h6; omega

set_option maxRecDepth 100000 in
set_option maxHeartbeats 2000000 in
theorem alike_eq (t u : T) (hrec : ∀ i, i < t.kids.length → ∀ (va vb : Value) (w : World), IsN w va (t.kids[i]?.getD zeroT) → IsN w vb (u.kids[i]?.getD zeroT) → Calls Tryz.prog 12 #[va, vb] w fun e w' => e = .returned (.bool (sameT (t.kids[i]?.getD zeroT) (u.kids[i]?.getD zeroT))) ∧ Kp w.heap.size [] w w')
    (va vb : Value) (w : World) (hA : IsN w va t) (hB : IsN w vb u) (h1 : t.op = u.op) (h2 : t.name = u.name) (h3 : t.typ = u.typ) (h4 : t.n = u.n) (h5 : t.kids.length = u.kids.length) :
    Calls Tryz.prog 12 #[va, vb] w fun e w' => e = .returned (.bool (sameTs t.kids u.kids)) ∧ Kp w.heap.size [] w w' := by
  obtain ⟨pa, rfl⟩ := hA.shape
  obtain ⟨pb, rfl⟩ := hB.shape
  have A := hA
  have C := hB
  have K := Kp.refl w.heap.size [] w
  clear hA hB
  have X : Loc ((w.alloc (.cells #[.pointer pa] 30)).alloc (.cells #[.pointer pb] 30)) w.heap.size (.pointer pa) 30 := loca
  have Y : Loc ((w.alloc (.cells #[.pointer pa] 30)).alloc (.cells #[.pointer pb] 30)) (w.heap.size + 1) (.pointer pb) 30 := loca
  replace A : IsN (((w.alloc (.cells #[.pointer pa] 30)).alloc (.cells #[.pointer pb] 30))) (.agg #[.pointer pa]) t := inna
  replace C : IsN (((w.alloc (.cells #[.pointer pa] 30)).alloc (.cells #[.pointer pb] 30))) (.agg #[.pointer pb]) u := inna
  replace X : Loc (((w.alloc (.cells #[.pointer pa] 30)).alloc (.cells #[.pointer pb] 30))) w.heap.size (.pointer pa) 30 := loca
  replace Xc := X.cell
  replace Xl := X.lt
  have Xl_walloccellspointerpa30alloccellspointerpb30 := Xl
  replace Xf := X.frozen
  replace Y : Loc (((w.alloc (.cells #[.pointer pa] 30)).alloc (.cells #[.pointer pb] 30))) (w.heap.size + 1) (.pointer pb) 30 := loca
  replace Yc := Y.cell
  replace Yl := Y.lt
  have Yl_walloccellspointerpa30alloccellspointerpb30 := Yl
  replace Yf := Y.frozen
  replace K : Kp w.heap.size [] w (((w.alloc (.cells #[.pointer pa] 30)).alloc (.cells #[.pointer pb] 30))) := kpa
  replace Kz := K.size
  have Kz_walloccellspointerpa30alloccellspointerpb30 := Kz
  have hb1 : (t.op == u.op) = true := by simp [h1]
  have hn1 : (t.op != u.op) = false := by simp [h1]
  have hb2 : (t.name == u.name) = true := by simp [h2]
  have hn2 : (t.name != u.name) = false := by simp [h2]
  have hb3 : (t.typ == u.typ) = true := by simp [h3]
  have hn3 : (t.typ != u.typ) = false := by simp [h3]
  have hb4 : (t.n == u.n) = true := by simp [h4]
  have hn4 : (t.n != u.n) = false := by simp [h4]
  have hb5 : ((t.kids.length : Int) == (u.kids.length : Int)) = true := by simp [h5]
  have hn5 : ((t.kids.length : Int) != (u.kids.length : Int)) = false := by simp [h5]
  have hkl := A.kids_le
  go_enter Tryz.func12, Tryz.ntmps12
  go_wp2_with fail
  refine wp_region_U (S := (fun V => V.cell? ⟨w.heap.size, 0, none⟩ = some (.pointer pa) ∧ V.cell? ⟨w.heap.size + 1, 0, none⟩ = some (.pointer pb))) (F := []) (by kernel_rfl) (by (first | (simp; done) | (simp [World.cell?_setCell_other, World.cell?_alloc_lt, *]; done))) (fun hHeld => ?_)
  replace A : IsN (((w.alloc (.cells #[.pointer pa] 30)).alloc (.cells #[.pointer pb] 30)).drew) (.agg #[.pointer pa]) t := inna
  replace C : IsN (((w.alloc (.cells #[.pointer pa] 30)).alloc (.cells #[.pointer pb] 30)).drew) (.agg #[.pointer pb]) u := inna
  replace X : Loc (((w.alloc (.cells #[.pointer pa] 30)).alloc (.cells #[.pointer pb] 30)).drew) w.heap.size (.pointer pa) 30 := loca
  replace Xc := X.cell
  replace Xl := X.lt
  have Xl_walloccellspointerpa30alloccellspointerpb30drew := Xl
  replace Xf := X.frozen
  replace Y : Loc (((w.alloc (.cells #[.pointer pa] 30)).alloc (.cells #[.pointer pb] 30)).drew) (w.heap.size + 1) (.pointer pb) 30 := loca
  replace Yc := Y.cell
  replace Yl := Y.lt
  have Yl_walloccellspointerpa30alloccellspointerpb30drew := Yl
  replace Yf := Y.frozen
  replace K : Kp w.heap.size [] w (((w.alloc (.cells #[.pointer pa] 30)).alloc (.cells #[.pointer pb] 30)).drew) := kpa
  replace Kz := K.size
  have Kz_walloccellspointerpa30alloccellspointerpb30drew := Kz
  refine tkU 0 (v := ?_) rfl (by kernel_rfl) (fun _ _ _ h => h) (Or.inl ⟨by rfl, ?_⟩) (by assumption) ?_
  rotate_left
  · intro w hSw; (try dsimp only at hSw); go_simp; try with_reducible rfl
  try simp only [Act.put, pz]
  refine tkU 2 (v := ?_) rfl (by kernel_rfl) (fun _ _ _ h => h) (Or.inl ⟨by rfl, ?_⟩) (by assumption) ?_
  rotate_left
  · intro w hSw; (try dsimp only at hSw); go_simp; try with_reducible rfl
  try simp only [Act.put, pz]
  refine wpAnyU_one (i := 1) (by kernel_rfl) rfl rfl (fun K1 hK => ?_)
  go_simp
  refine (op_c A).mono ?_
  rintro e w3 ⟨rfl, hk3⟩
  have z3 := hk3.size
  try simp at z3
  replace A : IsN w3 (.agg #[.pointer pa]) t := inna
  replace C : IsN w3 (.agg #[.pointer pb]) u := inna
  replace X : Loc w3 w.heap.size (.pointer pa) 30 := loca
  replace Xc := X.cell
  replace Xl := X.lt
  have Xl_w3 := Xl
  replace Xf := X.frozen
  replace Y : Loc w3 (w.heap.size + 1) (.pointer pb) 30 := loca
  replace Yc := Y.cell
  replace Yl := Y.lt
  have Yl_w3 := Yl
  replace Yf := Y.frozen
  replace K : Kp w.heap.size [] w w3 := kpa
  replace Kz := K.size
  have Kz_w3 := Kz
  clear hk3
  try dsimp only
  try simp only [sz3]
  refine hK.out _ _ ?_ ?_
  · intro _; exact ⟨Xc, Yc⟩
  clear hK K1
  try simp only [Act.put, pz]
  refine wpAnyU_one (i := 3) (by kernel_rfl) rfl rfl (fun K1 hK => ?_)
  go_simp
  refine (op_c C).mono ?_
  rintro e w4 ⟨rfl, hk4⟩
  have z4 := hk4.size
  try simp at z4
  replace A : IsN w4 (.agg #[.pointer pa]) t := inna
  replace C : IsN w4 (.agg #[.pointer pb]) u := inna
  replace X : Loc w4 w.heap.size (.pointer pa) 30 := loca
  replace Xc := X.cell
  replace Xl := X.lt
  have Xl_w4 := Xl
  replace Xf := X.frozen
  replace Y : Loc w4 (w.heap.size + 1) (.pointer pb) 30 := loca
  replace Yc := Y.cell
  replace Yl := Y.lt
  have Yl_w4 := Yl
  replace Yf := Y.frozen
  replace K : Kp w.heap.size [] w w4 := kpa
  replace Kz := K.size
  have Kz_w4 := Kz
  clear hk4
  try dsimp only
  try simp only [sz3]
  refine hK.out _ _ ?_ ?_
  · intro _; exact ⟨Xc, Yc⟩
  clear hK K1
  try simp only [Act.put, pz]
  refine wpAnyU_one (i := 4) (by kernel_rfl) rfl rfl (fun K1 hK => ?_)
  go_simp
  try dsimp only
  try simp only [sz3]
  refine hK.out _ _ ?_ ?_
  · intro _; exact ⟨Xc, Yc⟩
  clear hK K1
  try simp only [Act.put, pz]
  refine wpAnyU_one (i := 5) (by kernel_rfl) rfl rfl (fun K1 hK => ?_)
  go_simp
  try dsimp only
  try simp only [sz3]
  refine hK.out _ _ ?_ ?_
  · intro _; exact ⟨Xc, Yc⟩
  clear hK K1
  try simp only [Act.put, pz]
  have hS2 := And.intro Xc Yc
  refine tkU 6 (v := ?_) rfl (by kernel_rfl) (fun _ _ _ h => h) (Or.inl ⟨by rfl, ?_⟩) (by assumption) ?_
  rotate_left
  · intro w hSw; (try dsimp only at hSw); go_simp; try with_reducible rfl
  try simp only [Act.put, pz]
  refine tkU 8 (v := ?_) rfl (by kernel_rfl) (fun _ _ _ h => h) (Or.inl ⟨by rfl, ?_⟩) (by assumption) ?_
  rotate_left
  · intro w hSw; (try dsimp only at hSw); go_simp; try with_reducible rfl
  try simp only [Act.put, pz]
  refine wpAnyU_oneG (i := 7) (by kernel_rfl) rfl (by rfl) (fun K1 hK => ?_)
  go_simp
  refine (name_c A).mono ?_
  rintro e w5 ⟨rfl, hk5⟩
  have z5 := hk5.size
  try simp at z5
  replace A : IsN w5 (.agg #[.pointer pa]) t := inna
  replace C : IsN w5 (.agg #[.pointer pb]) u := inna
  replace X : Loc w5 w.heap.size (.pointer pa) 30 := loca
  replace Xc := X.cell
  replace Xl := X.lt
  have Xl_w5 := Xl
  replace Xf := X.frozen
  replace Y : Loc w5 (w.heap.size + 1) (.pointer pb) 30 := loca
  replace Yc := Y.cell
  replace Yl := Y.lt
  have Yl_w5 := Yl
  replace Yf := Y.frozen
  replace K : Kp w.heap.size [] w w5 := kpa
  replace Kz := K.size
  have Kz_w5 := Kz
  clear hk5
  try dsimp only
  try simp only [sz3]
  refine hK.out _ _ ?_ ?_
  · intro _; exact ⟨Xc, Yc⟩
  clear hK K1
  try simp only [Act.put, pz]
  refine wpAnyU_oneG (i := 9) (by kernel_rfl) rfl (by rfl) (fun K1 hK => ?_)
  go_simp
  refine (name_c C).mono ?_
  rintro e w6 ⟨rfl, hk6⟩
  have z6 := hk6.size
  try simp at z6
  replace A : IsN w6 (.agg #[.pointer pa]) t := inna
  replace C : IsN w6 (.agg #[.pointer pb]) u := inna
  replace X : Loc w6 w.heap.size (.pointer pa) 30 := loca
  replace Xc := X.cell
  replace Xl := X.lt
  have Xl_w6 := Xl
  replace Xf := X.frozen
  replace Y : Loc w6 (w.heap.size + 1) (.pointer pb) 30 := loca
  replace Yc := Y.cell
  replace Yl := Y.lt
  have Yl_w6 := Yl
  replace Yf := Y.frozen
  replace K : Kp w.heap.size [] w w6 := kpa
  replace Kz := K.size
  have Kz_w6 := Kz
  clear hk6
  try dsimp only
  try simp only [sz3]
  refine hK.out _ _ ?_ ?_
  · intro _; exact ⟨Xc, Yc⟩
  clear hK K1
  try simp only [Act.put, pz]
  refine wpAnyU_oneG (i := 10) (by kernel_rfl) rfl (by rfl) (fun K1 hK => ?_)
  go_simp
  try dsimp only
  try simp only [sz3]
  refine hK.out _ _ ?_ ?_
  · intro _; exact ⟨Xc, Yc⟩
  clear hK K1
  try simp only [Act.put, pz]
  refine wpAnyU_one (i := 11) (by kernel_rfl) rfl rfl (fun K1 hK => ?_)
  go_simp
  try dsimp only
  try simp only [sz3]
  refine hK.out _ _ ?_ ?_
  · intro _; exact ⟨Xc, Yc⟩
  clear hK K1
  try simp only [Act.put, pz]
  refine wpAnyU_one (i := 12) (by kernel_rfl) rfl rfl (fun K1 hK => ?_)
  go_simp
  try dsimp only
  try simp only [sz3]
  refine hK.out _ _ ?_ ?_
  · intro _; exact ⟨Xc, Yc⟩
  clear hK K1
  try simp only [Act.put, pz]
  have hS3 := And.intro Xc Yc
  refine tkU 13 (v := ?_) rfl (by kernel_rfl) (fun _ _ _ h => h) (Or.inl ⟨by rfl, ?_⟩) (by assumption) ?_
  rotate_left
  · intro w hSw; (try dsimp only at hSw); go_simp; try with_reducible rfl
  try simp only [Act.put, pz]
  refine tkU 15 (v := ?_) rfl (by kernel_rfl) (fun _ _ _ h => h) (Or.inl ⟨by rfl, ?_⟩) (by assumption) ?_
  rotate_left
  · intro w hSw; (try dsimp only at hSw); go_simp; try with_reducible rfl
  try simp only [Act.put, pz]
  refine wpAnyU_oneG (i := 14) (by kernel_rfl) rfl (by rfl) (fun K1 hK => ?_)
  go_simp
  refine (type_c A).mono ?_
  rintro e w7 ⟨rfl, hk7⟩
  have z7 := hk7.size
  try simp at z7
  replace A : IsN w7 (.agg #[.pointer pa]) t := inna
  replace C : IsN w7 (.agg #[.pointer pb]) u := inna
  replace X : Loc w7 w.heap.size (.pointer pa) 30 := loca
  replace Xc := X.cell
  replace Xl := X.lt
  have Xl_w7 := Xl
  replace Xf := X.frozen
  replace Y : Loc w7 (w.heap.size + 1) (.pointer pb) 30 := loca
  replace Yc := Y.cell
  replace Yl := Y.lt
  have Yl_w7 := Yl
  replace Yf := Y.frozen
  replace K : Kp w.heap.size [] w w7 := kpa
  replace Kz := K.size
  have Kz_w7 := Kz
  clear hk7
  try dsimp only
  try simp only [sz3]
  refine hK.out _ _ ?_ ?_
  · intro _; exact ⟨Xc, Yc⟩
  clear hK K1
  try simp only [Act.put, pz]
  refine wpAnyU_oneG (i := 16) (by kernel_rfl) rfl (by rfl) (fun K1 hK => ?_)
  go_simp
  refine (type_c C).mono ?_
  rintro e w8 ⟨rfl, hk8⟩
  have z8 := hk8.size
  try simp at z8
  replace A : IsN w8 (.agg #[.pointer pa]) t := inna
  replace C : IsN w8 (.agg #[.pointer pb]) u := inna
  replace X : Loc w8 w.heap.size (.pointer pa) 30 := loca
  replace Xc := X.cell
  replace Xl := X.lt
  have Xl_w8 := Xl
  replace Xf := X.frozen
  replace Y : Loc w8 (w.heap.size + 1) (.pointer pb) 30 := loca
  replace Yc := Y.cell
  replace Yl := Y.lt
  have Yl_w8 := Yl
  replace Yf := Y.frozen
  replace K : Kp w.heap.size [] w w8 := kpa
  replace Kz := K.size
  have Kz_w8 := Kz
  clear hk8
  try dsimp only
  try simp only [sz3]
  refine hK.out _ _ ?_ ?_
  · intro _; exact ⟨Xc, Yc⟩
  clear hK K1
  try simp only [Act.put, pz]
  refine wpAnyU_oneG (i := 17) (by kernel_rfl) rfl (by rfl) (fun K1 hK => ?_)
  go_simp
  try dsimp only
  try simp only [sz3]
  refine hK.out _ _ ?_ ?_
  · intro _; exact ⟨Xc, Yc⟩
  clear hK K1
  try simp only [Act.put, pz]
  refine wpAnyU_one (i := 18) (by kernel_rfl) rfl rfl (fun K1 hK => ?_)
  go_simp
  try dsimp only
  try simp only [sz3]
  refine hK.out _ _ ?_ ?_
  · intro _; exact ⟨Xc, Yc⟩
  clear hK K1
  try simp only [Act.put, pz]
  refine wpAnyU_one (i := 19) (by kernel_rfl) rfl rfl (fun K1 hK => ?_)
  go_simp
  try dsimp only
  try simp only [sz3]
  refine hK.out _ _ ?_ ?_
  · intro _; exact ⟨Xc, Yc⟩
  clear hK K1
  try simp only [Act.put, pz]
  have hS4 := And.intro Xc Yc
  refine tkU 20 (v := ?_) rfl (by kernel_rfl) (fun _ _ _ h => h) (Or.inl ⟨by rfl, ?_⟩) (by assumption) ?_
  rotate_left
  · intro w hSw; (try dsimp only at hSw); go_simp; try with_reducible rfl
  try simp only [Act.put, pz]
  refine tkU 22 (v := ?_) rfl (by kernel_rfl) (fun _ _ _ h => h) (Or.inl ⟨by rfl, ?_⟩) (by assumption) ?_
  rotate_left
  · intro w hSw; (try dsimp only at hSw); go_simp; try with_reducible rfl
  try simp only [Act.put, pz]
  refine wpAnyU_oneG (i := 21) (by kernel_rfl) rfl (by rfl) (fun K1 hK => ?_)
  go_simp
  refine (n_c A).mono ?_
  rintro e w9 ⟨rfl, hk9⟩
  have z9 := hk9.size
  try simp at z9
  replace A : IsN w9 (.agg #[.pointer pa]) t := inna
  replace C : IsN w9 (.agg #[.pointer pb]) u := inna
  replace X : Loc w9 w.heap.size (.pointer pa) 30 := loca
  replace Xc := X.cell
  replace Xl := X.lt
  have Xl_w9 := Xl
  replace Xf := X.frozen
  replace Y : Loc w9 (w.heap.size + 1) (.pointer pb) 30 := loca
  replace Yc := Y.cell
  replace Yl := Y.lt
  have Yl_w9 := Yl
  replace Yf := Y.frozen
  replace K : Kp w.heap.size [] w w9 := kpa
  replace Kz := K.size
  have Kz_w9 := Kz
  clear hk9
  try dsimp only
  try simp only [sz3]
  refine hK.out _ _ ?_ ?_
  · intro _; exact ⟨Xc, Yc⟩
  clear hK K1
  try simp only [Act.put, pz]
  refine wpAnyU_oneG (i := 23) (by kernel_rfl) rfl (by rfl) (fun K1 hK => ?_)
  go_simp
  refine (n_c C).mono ?_
  rintro e w10 ⟨rfl, hk10⟩
  have z10 := hk10.size
  try simp at z10
  replace A : IsN w10 (.agg #[.pointer pa]) t := inna
  replace C : IsN w10 (.agg #[.pointer pb]) u := inna
  replace X : Loc w10 w.heap.size (.pointer pa) 30 := loca
  replace Xc := X.cell
  replace Xl := X.lt
  have Xl_w10 := Xl
  replace Xf := X.frozen
  replace Y : Loc w10 (w.heap.size + 1) (.pointer pb) 30 := loca
  replace Yc := Y.cell
  replace Yl := Y.lt
  have Yl_w10 := Yl
  replace Yf := Y.frozen
  replace K : Kp w.heap.size [] w w10 := kpa
  replace Kz := K.size
  have Kz_w10 := Kz
  clear hk10
  try dsimp only
  try simp only [sz3]
  refine hK.out _ _ ?_ ?_
  · intro _; exact ⟨Xc, Yc⟩
  clear hK K1
  try simp only [Act.put, pz]
  refine wpAnyU_oneG (i := 24) (by kernel_rfl) rfl (by rfl) (fun K1 hK => ?_)
  go_simp
  try dsimp only
  try simp only [sz3]
  refine hK.out _ _ ?_ ?_
  · intro _; exact ⟨Xc, Yc⟩
  clear hK K1
  try simp only [Act.put, pz]
  refine wpAnyU_one (i := 25) (by kernel_rfl) rfl rfl (fun K1 hK => ?_)
  go_simp
  try dsimp only
  try simp only [sz3]
  refine hK.out _ _ ?_ ?_
  · intro _; exact ⟨Xc, Yc⟩
  clear hK K1
  try simp only [Act.put, pz]
  refine wpAnyU_one (i := 26) (by kernel_rfl) rfl rfl (fun K1 hK => ?_)
  go_simp
  try dsimp only
  try simp only [sz3]
  refine hK.out _ _ ?_ ?_
  · intro _; exact ⟨Xc, Yc⟩
  clear hK K1
  try simp only [Act.put, pz]
  have hS5 := And.intro Xc Yc
  refine tkU 27 (v := ?_) rfl (by kernel_rfl) (fun _ _ _ h => h) (Or.inl ⟨by rfl, ?_⟩) (by assumption) ?_
  rotate_left
  · intro w hSw; (try dsimp only at hSw); go_simp; try with_reducible rfl
  try simp only [Act.put, pz]
  refine tkU 29 (v := ?_) rfl (by kernel_rfl) (fun _ _ _ h => h) (Or.inl ⟨by rfl, ?_⟩) (by assumption) ?_
  rotate_left
  · intro w hSw; (try dsimp only at hSw); go_simp; try with_reducible rfl
  try simp only [Act.put, pz]
  refine wpAnyU_oneG (i := 28) (by kernel_rfl) rfl (by rfl) (fun K1 hK => ?_)
  go_simp
  refine (kids_c A).mono ?_
  rintro e w11 ⟨rfl, hk11⟩
  have z11 := hk11.size
  try simp at z11
  replace A : IsN w11 (.agg #[.pointer pa]) t := inna
  replace C : IsN w11 (.agg #[.pointer pb]) u := inna
  replace X : Loc w11 w.heap.size (.pointer pa) 30 := loca
  replace Xc := X.cell
  replace Xl := X.lt
  have Xl_w11 := Xl
  replace Xf := X.frozen
  replace Y : Loc w11 (w.heap.size + 1) (.pointer pb) 30 := loca
  replace Yc := Y.cell
  replace Yl := Y.lt
  have Yl_w11 := Yl
  replace Yf := Y.frozen
  replace K : Kp w.heap.size [] w w11 := kpa
  replace Kz := K.size
  have Kz_w11 := Kz
  clear hk11
  try dsimp only
  try simp only [sz3]
  refine hK.out _ _ ?_ ?_
  · intro _; exact ⟨Xc, Yc⟩
  clear hK K1
  try simp only [Act.put, pz]
  refine wpAnyU_oneG (i := 30) (by kernel_rfl) rfl (by rfl) (fun K1 hK => ?_)
  go_simp
  refine (kids_c C).mono ?_
  rintro e w12 ⟨rfl, hk12⟩
  have z12 := hk12.size
  try simp at z12
  replace A : IsN w12 (.agg #[.pointer pa]) t := inna
  replace C : IsN w12 (.agg #[.pointer pb]) u := inna
  replace X : Loc w12 w.heap.size (.pointer pa) 30 := loca
  replace Xc := X.cell
  replace Xl := X.lt
  have Xl_w12 := Xl
  replace Xf := X.frozen
  replace Y : Loc w12 (w.heap.size + 1) (.pointer pb) 30 := loca
  replace Yc := Y.cell
  replace Yl := Y.lt
  have Yl_w12 := Yl
  replace Yf := Y.frozen
  replace K : Kp w.heap.size [] w w12 := kpa
  replace Kz := K.size
  have Kz_w12 := Kz
  clear hk12
  try dsimp only
  try simp only [sz3]
  refine hK.out _ _ ?_ ?_
  · intro _; exact ⟨Xc, Yc⟩
  clear hK K1
  try simp only [Act.put, pz]
  refine wpAnyU_oneG (i := 31) (by kernel_rfl) rfl (by rfl) (fun K1 hK => ?_)
  go_simp
  try dsimp only
  try simp only [sz3]
  refine hK.out _ _ ?_ ?_
  · intro _; exact ⟨Xc, Yc⟩
  clear hK K1
  try simp only [Act.put, pz]
  refine wpAnyU_one (i := 32) (by kernel_rfl) rfl rfl (fun K1 hK => ?_)
  go_simp
  try dsimp only
  try simp only [sz3]
  refine hK.out _ _ ?_ ?_
  · intro _; exact ⟨Xc, Yc⟩
  clear hK K1
  try simp only [Act.put, pz]
  refine wpAnyU_done (by kernel_rfl) ?_ _
  have Kz0 := K.size
  generalize hwz : w10 = W10 at *
  clear hwz
  clear hn1 hn2 hn3 hn4 hn5 hb1 hb2 hb3 hb4 hb5
  go_wp2_with fail
  go_loopg [5] (t.kids.length + 1) (fun j iv wr => ∃ i : Nat, iv = .int .i64 i ∧ Go.Aside (j + i = t.kids.length + 1 ∧ i ≤ t.kids.length ∧ ∀ k, k < i → sameT (t.kids[k]?.getD zeroT) (u.kids[k]?.getD zeroT) = true) ∧ IsN wr (.agg #[.pointer pa]) t ∧ IsN wr (.agg #[.pointer pb]) u ∧ Loc wr w.heap.size (.pointer pa) 30 ∧ Loc wr (w.heap.size + 1) (.pointer pb) 30 ∧ Kp w.heap.size [] w wr)
  case atStart => exact ⟨0, rfl, ⟨by simp, by simp, by simp⟩, A, C, X, Y, K⟩
  case round =>
    obtain ⟨i, rfl, Q, A, C, X, Y, K⟩ := hrel
    obtain ⟨q1, q2, q3⟩ := Q.out
    cases gk with
    | zero => omega
    | succ gk =>
    have HQ := Lib.hid q3
    clear q3
    replace A : IsN wr (.agg #[.pointer pa]) t := inna
    replace C : IsN wr (.agg #[.pointer pb]) u := inna
    replace X : Loc wr w.heap.size (.pointer pa) 30 := loca
    replace Xc := X.cell
    replace Xl := X.lt
    have Xl_wr := Xl
    replace Xf := X.frozen
    replace Y : Loc wr (w.heap.size + 1) (.pointer pb) 30 := loca
    replace Yc := Y.cell
    replace Yl := Y.lt
    have Yl_wr := Yl
    replace Yf := Y.frozen
    replace K : Kp w.heap.size [] w wr := kpa
    replace Kz := K.size
    have Kz_wr := Kz
    by_cases hlt : i < t.kids.length
    · have hlti : (i : Int) < (t.kids.length : Int) := by omega
      have hR := hrec i hlt
      go_wp2_with fail
      refine (kids_c A).mono ?_
      rintro e w21 ⟨rfl, hk21⟩
      have z21 := hk21.size
      try simp at z21
      replace A : IsN w21 (.agg #[.pointer pa]) t := inna
      replace C : IsN w21 (.agg #[.pointer pb]) u := inna
      replace X : Loc w21 w.heap.size (.pointer pa) 30 := loca
      replace Xc := X.cell
      replace Xl := X.lt
      have Xl_w21 := Xl
      replace Xf := X.frozen
      replace Y : Loc w21 (w.heap.size + 1) (.pointer pb) 30 := loca
      replace Yc := Y.cell
      replace Yl := Y.lt
      have Yl_w21 := Yl
      replace Yf := Y.frozen
      replace K : Kp w.heap.size [] w w21 := kpa
      replace Kz := K.size
      have Kz_w21 := Kz
      clear hk21
      clear hrec
      cases hsm : sameT (t.kids[i]?.getD zeroT) (u.kids[i]?.getD zeroT)
      all_goals rw [hsm] at hR
      all_goals (have HS := Lib.hid hsm; clear hsm)
      all_goals go_wp2_with fail
      · refine wp_region_U (S := (fun V => V.cell? ⟨w.heap.size, 0, none⟩ = some (.pointer pa) ∧ V.cell? ⟨w.heap.size + 1, 0, none⟩ = some (.pointer pb))) (F := []) (by kernel_rfl) (by (first | (simp; done) | (simp [World.cell?_setCell_other, World.cell?_alloc_lt, *]; done))) (fun hHeld => ?_)
        refine tkU 0 (v := ?_) rfl (by kernel_rfl) (fun _ _ _ h => h) (Or.inl ⟨by rfl, ?_⟩) (by assumption) ?_
        rotate_left
        · intro w hSw; (try dsimp only at hSw); go_simp; try with_reducible rfl
        try simp only [Act.put, pz]
        refine tkU 1 (v := ?_) rfl (by kernel_rfl) (fun _ _ _ h => h) (Or.inl ⟨by rfl, ?_⟩) (by assumption) ?_
        rotate_left
        · intro w hSw; (try dsimp only at hSw); go_simp; try with_reducible rfl
        try simp only [Act.put, pz]
        refine tkU 3 (v := ?_) rfl (by kernel_rfl) (fun _ _ _ h => h) (Or.inl ⟨by rfl, ?_⟩) (by assumption) ?_
        rotate_left
        · intro w hSw; (try dsimp only at hSw); go_simp; try with_reducible rfl
        try simp only [Act.put, pz]
        refine tkU 4 (v := ?_) rfl (by kernel_rfl) (fun _ _ _ h => h) (Or.inl ⟨by rfl, ?_⟩) (by assumption) ?_
        rotate_left
        · intro w hSw; (try dsimp only at hSw); go_simp; try with_reducible rfl
        try simp only [Act.put, pz]
        refine wpAnyU_one (i := 2) (by kernel_rfl) rfl rfl (fun K1 hK => ?_)
        go_simp
        refine (kid_c A.drew i).mono ?_
        rintro e w22 ⟨v1, rfl, N1, hk22⟩
        have z22 := hk22.size
        try simp at z22
        replace A : IsN w22 (.agg #[.pointer pa]) t := inna
        replace C : IsN w22 (.agg #[.pointer pb]) u := inna
        replace X : Loc w22 w.heap.size (.pointer pa) 30 := loca
        replace Xc := X.cell
        replace Xl := X.lt
        have Xl_w22 := Xl
        replace Xf := X.frozen
        replace Y : Loc w22 (w.heap.size + 1) (.pointer pb) 30 := loca
        replace Yc := Y.cell
        replace Yl := Y.lt
        have Yl_w22 := Yl
        replace Yf := Y.frozen
        replace N1 : IsN w22 v1 (t.kids[i]?.getD zeroT) := inna
        replace K : Kp w.heap.size [] w w22 := kpa
        replace Kz := K.size
        have Kz_w22 := Kz
        clear hk22
        try dsimp only
        try simp only [sz3]
        refine hK.out _ _ ?_ ?_
        · intro _; exact ⟨Xc, Yc⟩
        clear hK K1
        try simp only [Act.put, pz]
        refine wpAnyU_one (i := 5) (by kernel_rfl) rfl rfl (fun K1 hK => ?_)
        go_simp
        refine (kid_c C i).mono ?_
        rintro e w23 ⟨v2, rfl, N2, hk23⟩
        have z23 := hk23.size
        try simp at z23
        replace A : IsN w23 (.agg #[.pointer pa]) t := inna
        replace C : IsN w23 (.agg #[.pointer pb]) u := inna
        replace X : Loc w23 w.heap.size (.pointer pa) 30 := loca
        replace Xc := X.cell
        replace Xl := X.lt
        have Xl_w23 := Xl
        replace Xf := X.frozen
        replace Y : Loc w23 (w.heap.size + 1) (.pointer pb) 30 := loca
        replace Yc := Y.cell
        replace Yl := Y.lt
        have Yl_w23 := Yl
        replace Yf := Y.frozen
        replace N1 : IsN w23 v1 (t.kids[i]?.getD zeroT) := inna
        replace N2 : IsN w23 v2 (u.kids[i]?.getD zeroT) := inna
        replace K : Kp w.heap.size [] w w23 := kpa
        replace Kz := K.size
        have Kz_w23 := Kz
        clear hk23
        try dsimp only
        try simp only [sz3]
        refine hK.out _ _ ?_ ?_
        · intro _; exact ⟨Xc, Yc⟩
        clear hK K1
        try simp only [Act.put, pz]
        refine wpAnyU_one (i := 6) (by kernel_rfl) rfl rfl (fun K1 hK => ?_)
        go_simp
        refine (hR v1 v2 _ N1 N2).mono ?_
        rintro e w24 ⟨rfl, hk24⟩
        have z24 := hk24.size
        try simp at z24
        replace A : IsN w24 (.agg #[.pointer pa]) t := inna
        replace C : IsN w24 (.agg #[.pointer pb]) u := inna
        replace X : Loc w24 w.heap.size (.pointer pa) 30 := loca
        replace Xc := X.cell
        replace Xl := X.lt
        have Xl_w24 := Xl
        replace Xf := X.frozen
        replace Y : Loc w24 (w.heap.size + 1) (.pointer pb) 30 := loca
        replace Yc := Y.cell
        replace Yl := Y.lt
        have Yl_w24 := Yl
        replace Yf := Y.frozen
        replace K : Kp w.heap.size [] w w24 := kpa
        replace Kz := K.size
        have Kz_w24 := Kz
        clear hk24
        try dsimp only
        try simp only [sz3]
        refine hK.out _ _ ?_ ?_
        · intro _; exact ⟨Xc, Yc⟩
        clear hK K1
        try simp only [Act.put, pz]
        refine wpAnyU_one (i := 7) (by kernel_rfl) rfl rfl (fun K1 hK => ?_)
        go_simp
        try dsimp only
        try simp only [sz3]
        refine hK.out _ _ ?_ ?_
        · intro _; exact ⟨Xc, Yc⟩
        clear hK K1
        try simp only [Act.put, pz]
        refine wpAnyU_done (by kernel_rfl) ?_ _
        go_wp2
        go_ret
        exact ⟨by rw [sameTs_not t.kids u.kids i hlt HS.out h5]; rfl, kpa⟩
      · refine wp_region_U (S := (fun V => V.cell? ⟨w.heap.size, 0, none⟩ = some (.pointer pa) ∧ V.cell? ⟨w.heap.size + 1, 0, none⟩ = some (.pointer pb))) (F := []) (by kernel_rfl) (by (first | (simp; done) | (simp [World.cell?_setCell_other, World.cell?_alloc_lt, *]; done))) (fun hHeld => ?_)
        refine tkU 0 (v := ?_) rfl (by kernel_rfl) (fun _ _ _ h => h) (Or.inl ⟨by rfl, ?_⟩) (by assumption) ?_
        rotate_left
        · intro w hSw; (try dsimp only at hSw); go_simp; try with_reducible rfl
        try simp only [Act.put, pz]
        refine tkU 1 (v := ?_) rfl (by kernel_rfl) (fun _ _ _ h => h) (Or.inl ⟨by rfl, ?_⟩) (by assumption) ?_
        rotate_left
        · intro w hSw; (try dsimp only at hSw); go_simp; try with_reducible rfl
        try simp only [Act.put, pz]
        refine tkU 3 (v := ?_) rfl (by kernel_rfl) (fun _ _ _ h => h) (Or.inl ⟨by rfl, ?_⟩) (by assumption) ?_
        rotate_left
        · intro w hSw; (try dsimp only at hSw); go_simp; try with_reducible rfl
        try simp only [Act.put, pz]
        refine tkU 4 (v := ?_) rfl (by kernel_rfl) (fun _ _ _ h => h) (Or.inl ⟨by rfl, ?_⟩) (by assumption) ?_
        rotate_left
        · intro w hSw; (try dsimp only at hSw); go_simp; try with_reducible rfl
        try simp only [Act.put, pz]
        refine wpAnyU_one (i := 2) (by kernel_rfl) rfl rfl (fun K1 hK => ?_)
        go_simp
        refine (kid_c A.drew i).mono ?_
        rintro e w22 ⟨v1, rfl, N1, hk22⟩
        have z22 := hk22.size
        try simp at z22
        replace A : IsN w22 (.agg #[.pointer pa]) t := inna
        replace C : IsN w22 (.agg #[.pointer pb]) u := inna
        replace X : Loc w22 w.heap.size (.pointer pa) 30 := loca
        replace Xc := X.cell
        replace Xl := X.lt
        have Xl_w22 := Xl
        replace Xf := X.frozen
        replace Y : Loc w22 (w.heap.size + 1) (.pointer pb) 30 := loca
        replace Yc := Y.cell
        replace Yl := Y.lt
        have Yl_w22 := Yl
        replace Yf := Y.frozen
        replace N1 : IsN w22 v1 (t.kids[i]?.getD zeroT) := inna
        replace K : Kp w.heap.size [] w w22 := kpa
        replace Kz := K.size
        have Kz_w22 := Kz
        clear hk22
        try dsimp only
        try simp only [sz3]
        refine hK.out _ _ ?_ ?_
        · intro _; exact ⟨Xc, Yc⟩
        clear hK K1
        try simp only [Act.put, pz]
        refine wpAnyU_one (i := 5) (by kernel_rfl) rfl rfl (fun K1 hK => ?_)
        go_simp
        refine (kid_c C i).mono ?_
        rintro e w23 ⟨v2, rfl, N2, hk23⟩
        have z23 := hk23.size
        try simp at z23
        replace A : IsN w23 (.agg #[.pointer pa]) t := inna
        replace C : IsN w23 (.agg #[.pointer pb]) u := inna
        replace X : Loc w23 w.heap.size (.pointer pa) 30 := loca
        replace Xc := X.cell
        replace Xl := X.lt
        have Xl_w23 := Xl
        replace Xf := X.frozen
        replace Y : Loc w23 (w.heap.size + 1) (.pointer pb) 30 := loca
        replace Yc := Y.cell
        replace Yl := Y.lt
        have Yl_w23 := Yl
        replace Yf := Y.frozen
        replace N1 : IsN w23 v1 (t.kids[i]?.getD zeroT) := inna
        replace N2 : IsN w23 v2 (u.kids[i]?.getD zeroT) := inna
        replace K : Kp w.heap.size [] w w23 := kpa
        replace Kz := K.size
        have Kz_w23 := Kz
        clear hk23
        try dsimp only
        try simp only [sz3]
        refine hK.out _ _ ?_ ?_
        · intro _; exact ⟨Xc, Yc⟩
        clear hK K1
        try simp only [Act.put, pz]
        refine wpAnyU_one (i := 6) (by kernel_rfl) rfl rfl (fun K1 hK => ?_)
        go_simp
        refine (hR v1 v2 _ N1 N2).mono ?_
        rintro e w24 ⟨rfl, hk24⟩
        have z24 := hk24.size
        try simp at z24
        replace A : IsN w24 (.agg #[.pointer pa]) t := inna
        replace C : IsN w24 (.agg #[.pointer pb]) u := inna
        replace X : Loc w24 w.heap.size (.pointer pa) 30 := loca
        replace Xc := X.cell
        replace Xl := X.lt
        have Xl_w24 := Xl
        replace Xf := X.frozen
        replace Y : Loc w24 (w.heap.size + 1) (.pointer pb) 30 := loca
        replace Yc := Y.cell
        replace Yl := Y.lt
        have Yl_w24 := Yl
        replace Yf := Y.frozen
        replace K : Kp w.heap.size [] w w24 := kpa
        replace Kz := K.size
        have Kz_w24 := Kz
        clear hk24
        try dsimp only
        try simp only [sz3]
        refine hK.out _ _ ?_ ?_
        · intro _; exact ⟨Xc, Yc⟩
        clear hK K1
        try simp only [Act.put, pz]
        refine wpAnyU_one (i := 7) (by kernel_rfl) rfl rfl (fun K1 hK => ?_)
        go_simp
        try dsimp only
        try simp only [sz3]
        refine hK.out _ _ ?_ ?_
        · intro _; exact ⟨Xc, Yc⟩
        clear hK K1
        try simp only [Act.put, pz]
        refine wpAnyU_done (by kernel_rfl) ?_ _
        go_wp2
        go_roundg gk
        case measure => omega
        case rel => exact ⟨i + 1, by push_cast; rfl, ⟨by omega, by omega, fun k hk => by
          rcases Nat.lt_or_ge k i with h | h
          · exact HQ.out k h
          · rw [show k = i by omega]; exact HS.out⟩, A, C, X, Y, K⟩
    · have hlti : ¬ (i : Int) < (t.kids.length : Int) := by omega
      clear hrec
      go_wp2_with fail
      refine (kids_c A).mono ?_
      rintro e w21 ⟨rfl, hk21⟩
      have z21 := hk21.size
      try simp at z21
      replace A : IsN w21 (.agg #[.pointer pa]) t := inna
      replace C : IsN w21 (.agg #[.pointer pb]) u := inna
      replace X : Loc w21 w.heap.size (.pointer pa) 30 := loca
      replace Xc := X.cell
      replace Xl := X.lt
      have Xl_w21 := Xl
      replace Xf := X.frozen
      replace Y : Loc w21 (w.heap.size + 1) (.pointer pb) 30 := loca
      replace Yc := Y.cell
      replace Yl := Y.lt
      have Yl_w21 := Yl
      replace Yf := Y.frozen
      replace K : Kp w.heap.size [] w w21 := kpa
      replace Kz := K.size
      have Kz_w21 := Kz
      clear hk21
      go_wp2
      go_ret
      exact ⟨by rw [sameTs_all t.kids u.kids h5 (fun k hk => HQ.out k (by omega))]; rfl, kpa⟩

theorem alike_n (n : Nat) : ∀ (t u : T), SizeOf.sizeOf t ≤ n → ∀ (va vb : Value) (w : World), IsN w va t → IsN w vb u → Calls Tryz.prog 12 #[va, vb] w fun e w' => e = .returned (.bool (sameT t u)) ∧ Kp w.heap.size [] w w' := by
  induction n with
  | zero => intro t u h; cases t; simp only [T.mk.sizeOf_spec] at h; omega
  | succ n ih =>
    intro t u hs va vb w hA hB
    rw [sameT_eq]
    by_cases h1 : t.op = u.op
    rotate_left
    · rw [show (t.op == u.op) = false by simpa using h1]; exact alike_1 t u va vb w hA hB h1
    by_cases h2 : t.name = u.name
    rotate_left
    · rw [show (t.name == u.name) = false by simpa using h2, Bool.and_false]; exact alike_2 t u va vb w hA hB h1 h2
    by_cases h3 : t.typ = u.typ
    rotate_left
    · rw [show (t.typ == u.typ) = false by simpa using h3, Bool.and_false]; exact alike_3 t u va vb w hA hB h1 h2 h3
    by_cases h4 : t.n = u.n
    rotate_left
    · rw [show (t.n == u.n) = false by simpa using h4, Bool.and_false]; exact alike_4 t u va vb w hA hB h1 h2 h3 h4
    by_cases h5 : t.kids.length = u.kids.length
    rotate_left
    · rw [sameTs_len _ _ h5, Bool.and_false]; exact alike_5 t u va vb w hA hB h1 h2 h3 h4 h5
    rw [h1, h2, h3, h4]
    simp only [beq_self_eq_true, Bool.true_and]
    exact alike_eq t u (fun i hi va vb w hA hB => ih _ _ (by have := kid_size hi; omega) va vb w hA hB) va vb w hA hB h1 h2 h3 h4 h5

theorem alike_c (t u : T) (va vb : Value) (w : World) (hA : IsN w va t) (hB : IsN w vb u) : Calls Tryz.prog 12 #[va, vb] w fun e w' => e = .returned (.bool (sameT t u)) ∧ Kp w.heap.size [] w w' := alike_n _ t u (Nat.le_refl _) va vb w hA hB

end Go.Proofs.YtbplaekabeggkaaGreatDoor

namespace Go.Proofs.YtbplaekabeggkaaGreatDoor
open Go.RowKit

set_option maxRecDepth 100000 in
set_option maxHeartbeats 1000000 in
theorem stmt_12 {w : World} {bk lim : Nat} {xs y0 : List (List UInt8)} {v : Value} {t : T} (nm ty : ByteArray) (n at_ : Int) (a : Option Addr) (m cap : Nat) (hN : IsN w v t) (hW : Wr w bk lim xs) (hx : xs.length + y0.length + 4 ≤ 100000)
    (h0 : ∀ v' w', IsN w' v' (t.kids[0]?.getD zeroT) → Wr w' bk lim (xs ++ [kPrint, kLpar]) → Calls Tryz.prog 52 #[ptrV bk, v'] w' (PostA w' bk lim (xs ++ [kPrint, kLpar] ++ y0))) :
    Calls Tryz.prog 86 #[ptrV bk, v, .agg #[.int .i64 12, .string nm, .string ty, .int .i64 n, .int .i64 at_, .slice a m cap]] w (PostA w bk lim (xs ++ [kPrint, kLpar] ++ y0 ++ [kRpar] ++ [kSemi])) := by
  obtain ⟨p, rfl⟩ := hN.shape
  have WR := hW
  have N := hN
  have X : Loc ((w.alloc (.cells #[.pointer p] 30)).alloc (.cells #[.int .i64 12, .string nm, .string ty, .int .i64 n, .int .i64 at_, .slice a m cap] 108)) w.heap.size (.pointer p) 30 := (Loc.new _ _ _).alloc _
  have K := Wk.refl lim w
  have D : Blk ((w.alloc (.cells #[.pointer p] 30)).alloc (.cells #[.int .i64 12, .string nm, .string ty, .int .i64 n, .int .i64 at_, .slice a m cap] 108)) (w.heap.size + 1) #[.int .i64 12, .string nm, .string ty, .int .i64 n, .int .i64 at_, .slice a m cap] 108 := Blk.new' _ _ _ (by simp)
  clear hW hN
  have WRl_w := WR.le
  replace WR : Wr (((w.alloc (.cells #[.pointer p] 30)).alloc (.cells #[.int .i64 12, .string nm, .string ty, .int .i64 n, .int .i64 at_, .slice a m cap] 108))) bk lim xs := wrca
  replace WRl := WR.lt
  have WRl_walloccellspointerp30alloccellsinti6412stringnmstringtyinti64ninti64atsliceamcap108 := WR.le
  replace N : IsN (((w.alloc (.cells #[.pointer p] 30)).alloc (.cells #[.int .i64 12, .string nm, .string ty, .int .i64 n, .int .i64 at_, .slice a m cap] 108))) (.agg #[.pointer p]) t := inna
  replace X : Loc (((w.alloc (.cells #[.pointer p] 30)).alloc (.cells #[.int .i64 12, .string nm, .string ty, .int .i64 n, .int .i64 at_, .slice a m cap] 108))) w.heap.size (.pointer p) 30 := loca
  replace Xc := X.cell
  replace Xl := X.lt
  have Xl_walloccellspointerp30alloccellsinti6412stringnmstringtyinti64ninti64atsliceamcap108 := Xl
  replace Xf := X.frozen
  replace D : Blk (((w.alloc (.cells #[.pointer p] 30)).alloc (.cells #[.int .i64 12, .string nm, .string ty, .int .i64 n, .int .i64 at_, .slice a m cap] 108))) (w.heap.size + 1) #[.int .i64 12, .string nm, .string ty, .int .i64 n, .int .i64 at_, .slice a m cap] 108 := bka
  replace Dl := D.lt
  replace D0 := D.six.1
  replace D1 := D.six.2.1
  replace D2 := D.six.2.2.1
  replace D3 := D.six.2.2.2.1
  replace D4 := D.six.2.2.2.2.1
  replace D5 := D.six.2.2.2.2.2
  replace Df := D.frozen
  replace K : Wk lim w (((w.alloc (.cells #[.pointer p] 30)).alloc (.cells #[.int .i64 12, .string nm, .string ty, .int .i64 n, .int .i64 at_, .slice a m cap] 108))) := wkca
  go_enter Tryz.func86, Tryz.ntmps86
  go_wp2_with fail
  refine ((add_c [kPrint, kLpar] (w.heap.size + 1 + 1) (WR.alloc _) (bka) (by omega) (by simp) (by simp))).mono ?_
  rintro e w2 ⟨rfl, WR2, hw2⟩
  have z2 := hw2.size
  try simp at z2
  clear WR
  replace N : IsN w2 (.agg #[.pointer p]) t := inna
  replace X : Loc w2 w.heap.size (.pointer p) 30 := loca
  replace Xc := X.cell
  replace Xl := X.lt
  have Xl_w2 := Xl
  replace Xf := X.frozen
  replace D : Blk w2 (w.heap.size + 1) #[.int .i64 12, .string nm, .string ty, .int .i64 n, .int .i64 at_, .slice a m cap] 108 := bka
  replace Dl := D.lt
  replace D0 := D.six.1
  replace D1 := D.six.2.1
  replace D2 := D.six.2.2.1
  replace D3 := D.six.2.2.2.1
  replace D4 := D.six.2.2.2.2.1
  replace D5 := D.six.2.2.2.2.2
  replace Df := D.frozen
  replace K : Wk lim w w2 := wkca
  clear hw2
  have WR := WR2
  clear WR2
  replace WRl := WR.lt
  have WRl_w2 := WR.le
  go_wp2_with fail
  refine (kid0_c N 0 rfl).mono ?_
  rintro e w3 ⟨v3, rfl, N3, hk3⟩
  have z3 := hk3.size
  replace WR : Wr w3 bk lim (xs ++ [kPrint, kLpar]) := wrca
  replace WRl := WR.lt
  have WRl_w3 := WR.le
  replace N : IsN w3 (.agg #[.pointer p]) t := inna
  replace X : Loc w3 w.heap.size (.pointer p) 30 := loca
  replace Xc := X.cell
  replace Xl := X.lt
  have Xl_w3 := Xl
  replace Xf := X.frozen
  replace D : Blk w3 (w.heap.size + 1) #[.int .i64 12, .string nm, .string ty, .int .i64 n, .int .i64 at_, .slice a m cap] 108 := bka
  replace Dl := D.lt
  replace D0 := D.six.1
  replace D1 := D.six.2.1
  replace D2 := D.six.2.2.1
  replace D3 := D.six.2.2.2.1
  replace D4 := D.six.2.2.2.2.1
  replace D5 := D.six.2.2.2.2.2
  replace Df := D.frozen
  replace N3 : IsN w3 v3 (t.kids[0]?.getD zeroT) := inna
  replace K : Wk lim w w3 := wkca
  clear hk3
  have H := h0 v3 _ N3 WR
  go_wp2_with fail
  refine (H).mono ?_
  rintro e w4 ⟨rfl, WR4, hw4⟩
  have z4 := hw4.size
  try simp at z4
  clear WR
  replace N : IsN w4 (.agg #[.pointer p]) t := inna
  replace X : Loc w4 w.heap.size (.pointer p) 30 := loca
  replace Xc := X.cell
  replace Xl := X.lt
  have Xl_w4 := Xl
  replace Xf := X.frozen
  replace D : Blk w4 (w.heap.size + 1) #[.int .i64 12, .string nm, .string ty, .int .i64 n, .int .i64 at_, .slice a m cap] 108 := bka
  replace Dl := D.lt
  replace D0 := D.six.1
  replace D1 := D.six.2.1
  replace D2 := D.six.2.2.1
  replace D3 := D.six.2.2.2.1
  replace D4 := D.six.2.2.2.2.1
  replace D5 := D.six.2.2.2.2.2
  replace Df := D.frozen
  replace K : Wk lim w w4 := wkca
  clear hw4
  have WR := WR4
  clear WR4
  replace WRl := WR.lt
  have WRl_w4 := WR.le
  clear H h0 N3
  go_wp2_with fail
  refine ((add_c [kRpar] w4.heap.size (WR.alloc _) (bka) (by simp; omega) (by simp) (by simp))).mono ?_
  rintro e w5 ⟨rfl, WR5, hw5⟩
  have z5 := hw5.size
  try simp at z5
  clear WR
  replace N : IsN w5 (.agg #[.pointer p]) t := inna
  replace X : Loc w5 w.heap.size (.pointer p) 30 := loca
  replace Xc := X.cell
  replace Xl := X.lt
  have Xl_w5 := Xl
  replace Xf := X.frozen
  replace D : Blk w5 (w.heap.size + 1) #[.int .i64 12, .string nm, .string ty, .int .i64 n, .int .i64 at_, .slice a m cap] 108 := bka
  replace Dl := D.lt
  replace D0 := D.six.1
  replace D1 := D.six.2.1
  replace D2 := D.six.2.2.1
  replace D3 := D.six.2.2.2.1
  replace D4 := D.six.2.2.2.2.1
  replace D5 := D.six.2.2.2.2.2
  replace Df := D.frozen
  replace K : Wk lim w w5 := wkca
  clear hw5
  have WR := WR5
  clear WR5
  replace WRl := WR.lt
  have WRl_w5 := WR.le
  go_wp2_with fail
  refine ((add_c [kSemi] w5.heap.size (WR.alloc _) (bka) (by simp; omega) (by simp) (by simp))).mono ?_
  rintro e w6 ⟨rfl, WR6, hw6⟩
  have z6 := hw6.size
  try simp at z6
  clear WR
  replace N : IsN w6 (.agg #[.pointer p]) t := inna
  replace X : Loc w6 w.heap.size (.pointer p) 30 := loca
  replace Xc := X.cell
  replace Xl := X.lt
  have Xl_w6 := Xl
  replace Xf := X.frozen
  replace D : Blk w6 (w.heap.size + 1) #[.int .i64 12, .string nm, .string ty, .int .i64 n, .int .i64 at_, .slice a m cap] 108 := bka
  replace Dl := D.lt
  replace D0 := D.six.1
  replace D1 := D.six.2.1
  replace D2 := D.six.2.2.1
  replace D3 := D.six.2.2.2.1
  replace D4 := D.six.2.2.2.2.1
  replace D5 := D.six.2.2.2.2.2
  replace Df := D.frozen
  replace K : Wk lim w w6 := wkca
  clear hw6
  have WR := WR6
  clear WR6
  replace WRl := WR.lt
  have WRl_w6 := WR.le
  go_wp2
  refine bodyPost_ret (v := .tuple #[]) (by simp [results, Tryz.results86, go_sem, *]) rfl ?_
  exact ⟨rfl, WR, wkca⟩

def catTo (ys : List (List (List UInt8))) (i : Nat) : List (List UInt8) := (ys.take i).flatten
theorem catTo_succ {ys : List (List (List UInt8))} {i : Nat} (h : i < ys.length) : catTo ys (i + 1) = catTo ys i ++ ys[i] := by
  unfold catTo
  rw [show ys.take (i + 1) = ys.take i ++ [ys[i]] from by rw [List.take_add_one, List.getElem?_eq_getElem h]; rfl, List.flatten_append, List.flatten_singleton]
theorem catTo_le (ys : List (List (List UInt8))) (i : Nat) : (catTo ys i).length ≤ ys.flatten.length := by
  unfold catTo
  have h : ys.flatten = (ys.take i).flatten ++ (ys.drop i).flatten := by rw [← List.flatten_append, List.take_append_drop]
  rw [h, List.length_append]; omega

/-- what each kid's writing gives, from wherever the writer stands -/
def KidsW (bk lim : Nat) (ts : List T) (ys : List (List (List UInt8))) (xs : List (List UInt8)) : Prop :=
  ys.length = ts.length ∧ ∀ i, (h : i < ts.length) → (h' : i < ys.length) → ∀ v' w', IsN w' v' ts[i] → Wr w' bk lim (xs ++ catTo ys i) → Calls Tryz.prog 52 #[ptrV bk, v'] w' (PostA w' bk lim (xs ++ catTo ys i ++ ys[i]))

set_option maxRecDepth 100000 in
set_option maxHeartbeats 1000000 in
theorem stmt_6 {w : World} {bk lim : Nat} {xs : List (List UInt8)} {ys : List (List (List UInt8))} {v : Value} {t : T} (nm ty : ByteArray) (n at_ : Int) (a : Option Addr) (cap : Nat) (hN : IsN w v t) (hV : DataV w (.slice a t.kids.length cap) t.kids) (hW : Wr w bk lim xs) (hx : xs.length + ys.flatten.length + 4 ≤ 100000)
    (hk : KidsW bk lim t.kids ys (xs ++ [kOpen])) :
    Calls Tryz.prog 86 #[ptrV bk, v, .agg #[.int .i64 6, .string nm, .string ty, .int .i64 n, .int .i64 at_, .slice a t.kids.length cap]] w (PostA w bk lim (xs ++ [kOpen] ++ ys.flatten ++ [kClose])) := by
  obtain ⟨p, rfl⟩ := hN.shape
  have hkl := hN.kids_le
  obtain ⟨hyl, hkc⟩ := hk
  have WR := hW
  have V := hV
  have K := Wk.refl lim w
  have D : Blk ((w.alloc (.cells #[.pointer p] 30)).alloc (.cells #[.int .i64 6, .string nm, .string ty, .int .i64 n, .int .i64 at_, .slice a t.kids.length cap] 108)) (w.heap.size + 1) #[.int .i64 6, .string nm, .string ty, .int .i64 n, .int .i64 at_, .slice a t.kids.length cap] 108 := Blk.new' _ _ _ (by simp)
  clear hW hN hV
  generalize hts : t.kids = ts at *
  have hts0 : ts = [] ∨ ∃ g, a = some ⟨g, 0, none⟩ := by
    obtain ⟨a', cap', e, h⟩ := V
    cases e
    exact h.imp id (fun ⟨g, _, _, e, _⟩ => ⟨g, e⟩)
  have WRl_w := WR.le
  replace WR : Wr (((w.alloc (.cells #[.pointer p] 30)).alloc (.cells #[.int .i64 6, .string nm, .string ty, .int .i64 n, .int .i64 at_, .slice a ts.length cap] 108))) bk lim xs := wrca
  replace WRl := WR.lt
  have WRl_walloccellspointerp30alloccellsinti646stringnmstringtyinti64ninti64atsliceatslengthcap108 := WR.le
  replace V : DataV (((w.alloc (.cells #[.pointer p] 30)).alloc (.cells #[.int .i64 6, .string nm, .string ty, .int .i64 n, .int .i64 at_, .slice a ts.length cap] 108))) (.slice a ts.length cap) ts := dvca
  replace D : Blk (((w.alloc (.cells #[.pointer p] 30)).alloc (.cells #[.int .i64 6, .string nm, .string ty, .int .i64 n, .int .i64 at_, .slice a ts.length cap] 108))) (w.heap.size + 1) #[.int .i64 6, .string nm, .string ty, .int .i64 n, .int .i64 at_, .slice a ts.length cap] 108 := bka
  replace Dl := D.lt
  replace D0 := D.six.1
  replace D1 := D.six.2.1
  replace D2 := D.six.2.2.1
  replace D3 := D.six.2.2.2.1
  replace D4 := D.six.2.2.2.2.1
  replace D5 := D.six.2.2.2.2.2
  replace Df := D.frozen
  replace K : Wk lim w (((w.alloc (.cells #[.pointer p] 30)).alloc (.cells #[.int .i64 6, .string nm, .string ty, .int .i64 n, .int .i64 at_, .slice a ts.length cap] 108))) := wkca
  go_enter Tryz.func86, Tryz.ntmps86
  go_wp2_with fail
  refine ((add_c [kOpen] (w.heap.size + 1 + 1) (WR.alloc _) (bka) (by omega) (by simp) (by simp))).mono ?_
  rintro e w2 ⟨rfl, WR2, hw2⟩
  have z2 := hw2.size
  try simp at z2
  clear WR
  replace V : DataV w2 (.slice a ts.length cap) ts := dvca
  replace D : Blk w2 (w.heap.size + 1) #[.int .i64 6, .string nm, .string ty, .int .i64 n, .int .i64 at_, .slice a ts.length cap] 108 := bka
  replace Dl := D.lt
  replace D0 := D.six.1
  replace D1 := D.six.2.1
  replace D2 := D.six.2.2.1
  replace D3 := D.six.2.2.2.1
  replace D4 := D.six.2.2.2.2.1
  replace D5 := D.six.2.2.2.2.2
  replace Df := D.frozen
  replace K : Wk lim w w2 := wkca
  clear hw2
  have WR := WR2
  clear WR2
  replace WRl := WR.lt
  have WRl_w2 := WR.le
  go_wp2_with fail
  go_loopg [18] (ts.length + 1) (fun j iv wr => ∃ i : Nat, iv = .int .i64 i ∧ Go.Aside (j + i = ts.length + 1 ∧ i ≤ ts.length) ∧ Wr wr bk lim (xs ++ [kOpen] ++ catTo ys i) ∧ DataV wr (.slice a ts.length cap) ts ∧ Wk lim w wr)
  case atStart => exact ⟨0, rfl, ⟨by simp, by simp⟩, by simpa [catTo] using WR, V, K⟩
  case round =>
    obtain ⟨i, rfl, Q, WR', V', K'⟩ := hrel
    obtain ⟨q1, q2⟩ := Q.out
    cases gk with
    | zero => omega
    | succ gk =>
    clear WR V K D D0 D1 D2 D3 D4 D5 Df Dl
    have WR := WR'
    have V := V'
    have K := K'
    clear WR' V' K'
    have cl := catTo_le ys i
    replace WR : Wr wr bk lim (xs ++ [kOpen] ++ catTo ys i) := wrca
    replace WRl := WR.lt
    have WRl_wr := WR.le
    replace V : DataV wr (.slice a ts.length cap) ts := dvca
    replace K : Wk lim w wr := wkca
    by_cases hlt : i < ts.length
    · have hlti : (i : Int) < (ts.length : Int) := by omega
      obtain ⟨g, rfl⟩ : ∃ g, a = some ⟨g, 0, none⟩ := by
        rcases hts0 with h | h
        · rw [h] at hlt; simp at hlt
        · exact h
      obtain ⟨g', u, cap', e, gl, c0, N⟩ := V.get hlt
      cases e
      have hyi : i < ys.length := by omega
      have H := fun w' => hkc i hlt hyi (.agg #[ptrV u]) w'
      have hcs := catTo_succ hyi
      have HCS := Lib.hid hcs
      clear hcs
      go_wp2_with fail
      refine (H _ (inna) (WR.alloc _)).mono ?_
      clear H
      rintro e w5 ⟨rfl, WR5, hw5⟩
      have z5 := hw5.size
      try simp at z5
      clear WR
      replace V : DataV w5 (.slice (some ⟨g, 0, none⟩) ts.length cap) ts := dvca
      replace K : Wk lim w w5 := wkca
      clear hw5
      have WR := WR5
      clear WR5
      go_wp2
      go_roundg gk
      case measure => omega
      case rel => exact ⟨i + 1, by push_cast; rfl, ⟨by omega, by omega⟩, by rw [HCS.out, ← List.append_assoc]; exact WR, V, K⟩
    · have hlti : ¬ (i : Int) < (ts.length : Int) := by omega
      have he : catTo ys i = ys.flatten := by unfold catTo; rw [List.take_of_length_le (by omega)]
      clear hkc
      rw [he] at WR
      go_wp2_with fail
      refine ((add_c [kClose] wr.heap.size (WR.alloc _) (bka) (by simp only [List.length_append, List.length_cons, List.length_nil]; omega) (by simp) (by simp))).mono ?_
      rintro e w6 ⟨rfl, WR6, hw6⟩
      have z6 := hw6.size
      try simp at z6
      clear WR
      replace V : DataV w6 (.slice a ts.length cap) ts := dvca
      replace K : Wk lim w w6 := wkca
      clear hw6
      have WR := WR6
      clear WR6
      replace WRl := WR.lt
      have WRl_w6 := WR.le
      go_wp2
      refine bodyPost_ret (v := .tuple #[]) (by simp [results, Tryz.results86, go_sem, *]) rfl ?_
      exact ⟨rfl, WR, wkca⟩

end Go.Proofs.YtbplaekabeggkaaGreatDoor

namespace Go.Proofs.YtbplaekabeggkaaGreatDoor
open Go.RowKit

set_option maxRecDepth 100000 in
set_option maxHeartbeats 1000000 in
theorem decl_1 {w : World} {bk lim : Nat} {xs : List (List UInt8)} {ys : List (List (List UInt8))} {v : Value} {t : T} (nm ty : ByteArray) (n at_ : Int) (a : Option Addr) (cap : Nat) (hN : IsN w v t) (hV : DataV w (.slice a t.kids.length cap) t.kids) (hW : Wr w bk lim xs) (hx : xs.length + ys.flatten.length + 4 ≤ 100000)
    (hk : KidsW bk lim t.kids ys xs) :
    Calls Tryz.prog 85 #[ptrV bk, v, .agg #[.int .i64 1, .string nm, .string ty, .int .i64 n, .int .i64 at_, .slice a t.kids.length cap]] w (PostA w bk lim (xs ++ ys.flatten)) := by
  obtain ⟨p, rfl⟩ := hN.shape
  have hkl := hN.kids_le
  obtain ⟨hyl, hkc⟩ := hk
  have WR := hW
  have V := hV
  have K := Wk.refl lim w
  have D : Blk ((w.alloc (.cells #[.pointer p] 30)).alloc (.cells #[.int .i64 1, .string nm, .string ty, .int .i64 n, .int .i64 at_, .slice a t.kids.length cap] 108)) (w.heap.size + 1) #[.int .i64 1, .string nm, .string ty, .int .i64 n, .int .i64 at_, .slice a t.kids.length cap] 108 := Blk.new' _ _ _ (by simp)
  clear hW hN hV
  generalize hts : t.kids = ts at *
  have hts0 : ts = [] ∨ ∃ g, a = some ⟨g, 0, none⟩ := by
    obtain ⟨a', cap', e, h⟩ := V
    cases e
    exact h.imp id (fun ⟨g, _, _, e, _⟩ => ⟨g, e⟩)
  have WRl_w := WR.le
  replace WR : Wr (((w.alloc (.cells #[.pointer p] 30)).alloc (.cells #[.int .i64 1, .string nm, .string ty, .int .i64 n, .int .i64 at_, .slice a ts.length cap] 108))) bk lim xs := wrca
  replace WRl := WR.lt
  have WRl_walloccellspointerp30alloccellsinti641stringnmstringtyinti64ninti64atsliceatslengthcap108 := WR.le
  replace V : DataV (((w.alloc (.cells #[.pointer p] 30)).alloc (.cells #[.int .i64 1, .string nm, .string ty, .int .i64 n, .int .i64 at_, .slice a ts.length cap] 108))) (.slice a ts.length cap) ts := dvca
  replace D : Blk (((w.alloc (.cells #[.pointer p] 30)).alloc (.cells #[.int .i64 1, .string nm, .string ty, .int .i64 n, .int .i64 at_, .slice a ts.length cap] 108))) (w.heap.size + 1) #[.int .i64 1, .string nm, .string ty, .int .i64 n, .int .i64 at_, .slice a ts.length cap] 108 := bka
  replace Dl := D.lt
  replace D0 := D.six.1
  replace D1 := D.six.2.1
  replace D2 := D.six.2.2.1
  replace D3 := D.six.2.2.2.1
  replace D4 := D.six.2.2.2.2.1
  replace D5 := D.six.2.2.2.2.2
  replace Df := D.frozen
  replace K : Wk lim w (((w.alloc (.cells #[.pointer p] 30)).alloc (.cells #[.int .i64 1, .string nm, .string ty, .int .i64 n, .int .i64 at_, .slice a ts.length cap] 108))) := wkca
  go_enter Tryz.func85, Tryz.ntmps85
  go_wp2_with fail
  go_loopg [18] (ts.length + 1) (fun j iv wr => ∃ i : Nat, iv = .int .i64 i ∧ Go.Aside (j + i = ts.length + 1 ∧ i ≤ ts.length) ∧ Wr wr bk lim (xs ++ catTo ys i) ∧ DataV wr (.slice a ts.length cap) ts ∧ Wk lim w wr)
  case atStart => exact ⟨0, rfl, ⟨by simp, by simp⟩, by simpa [catTo] using WR, V, K⟩
  case round =>
    obtain ⟨i, rfl, Q, WR', V', K'⟩ := hrel
    obtain ⟨q1, q2⟩ := Q.out
    cases gk with
    | zero => omega
    | succ gk =>
    clear WR V K D D0 D1 D2 D3 D4 D5 Df Dl
    have WR := WR'
    have V := V'
    have K := K'
    clear WR' V' K'
    have cl := catTo_le ys i
    replace WR : Wr wr bk lim (xs ++ catTo ys i) := wrca
    replace WRl := WR.lt
    have WRl_wr := WR.le
    replace V : DataV wr (.slice a ts.length cap) ts := dvca
    replace K : Wk lim w wr := wkca
    by_cases hlt : i < ts.length
    · have hlti : (i : Int) < (ts.length : Int) := by omega
      obtain ⟨g, rfl⟩ : ∃ g, a = some ⟨g, 0, none⟩ := by
        rcases hts0 with h | h
        · rw [h] at hlt; simp at hlt
        · exact h
      obtain ⟨g', u, cap', e, gl, c0, N⟩ := V.get hlt
      cases e
      have hyi : i < ys.length := by omega
      have H := fun w' => hkc i hlt hyi (.agg #[ptrV u]) w'
      have hcs := catTo_succ hyi
      have HCS := Lib.hid hcs
      clear hcs
      go_wp2_with fail
      refine (H _ (inna) (WR.alloc _)).mono ?_
      clear H
      rintro e w5 ⟨rfl, WR5, hw5⟩
      have z5 := hw5.size
      try simp at z5
      clear WR
      replace V : DataV w5 (.slice (some ⟨g, 0, none⟩) ts.length cap) ts := dvca
      replace K : Wk lim w w5 := wkca
      clear hw5
      have WR := WR5
      clear WR5
      go_wp2
      go_roundg gk
      case measure => omega
      case rel => exact ⟨i + 1, by push_cast; rfl, ⟨by omega, by omega⟩, by rw [HCS.out, ← List.append_assoc]; exact WR, V, K⟩
    · have hlti : ¬ (i : Int) < (ts.length : Int) := by omega
      have he : catTo ys i = ys.flatten := by unfold catTo; rw [List.take_of_length_le (by omega)]
      clear hkc
      rw [he] at WR
      go_wp2
      refine bodyPost_ret (v := .tuple #[]) (by simp [results, Tryz.results85, go_sem, *]) rfl ?_
      exact ⟨rfl, WR, wkca⟩

set_option maxRecDepth 100000 in
set_option maxHeartbeats 400000 in
theorem cut_none (w : World) : Calls Tryz.prog 142 #[.string ⟨#[]⟩, .string ⟨#[42]⟩] w fun e w' => e = .returned (.tuple #[.string ⟨#[]⟩, .bool false]) ∧ w' = w := by
  have h1 : Calls Tryz.prog 161 #[.string ⟨#[]⟩, .string ⟨#[42]⟩] w fun e w' => e = .returned (.tuple #[.string ⟨#[]⟩, .bool false]) ∧ w' = w := by
    have hc := hasPrefix_in ⟨#[]⟩ ⟨#[42]⟩ w (by decide) (by decide)
    rw [show ((⟨#[42]⟩ : ByteArray).toList.isPrefixOf (⟨#[]⟩ : ByteArray).toList) = false from by rw [mk_toList, mk_toList]; rfl] at hc
    go_enter Tryz.func161, Tryz.ntmps161
    go_wp2_with fail
    refine hc.mono ?_
    rintro e w2 ⟨rfl, rfl⟩
    go_wp2
    go_ret2
    exact ⟨rfl, rfl⟩
  go_enter Tryz.func142, Tryz.ntmps142
  go_wp2_with fail
  refine h1.mono ?_
  rintro e w2 ⟨rfl, rfl⟩
  go_wp2
  go_ret2
  exact ⟨rfl, rfl⟩

set_option maxRecDepth 100000 in
set_option maxHeartbeats 400000 in
theorem elem_none (w : World) : Calls Tryz.prog 146 #[.string ⟨#[]⟩] w fun e w' => e = .returned (.tuple #[.string ⟨#[]⟩, .bool false]) ∧ w' = w := by
  have h1 := cut_none w
  go_enter Tryz.func146, Tryz.ntmps146
  go_wp2_with fail
  refine h1.mono ?_
  rintro e w2 ⟨rfl, rfl⟩
  go_wp2
  go_ret2
  exact ⟨rfl, rfl⟩

def PostU (w : World) (e : Ending) (w' : World) : Prop := e = .returned (.tuple #[]) ∧ w' = w
set_option maxRecDepth 100000 in
set_option maxHeartbeats 400000 in
theorem typ_none (bk : Nat) (w : World) : Calls Tryz.prog 116 #[ptrV bk, .string ⟨#[]⟩] w (PostU w) := by
  have h1 := elem_none w
  go_enter Tryz.func116, Tryz.ntmps116
  go_wp2_with fail
  refine h1.mono ?_
  rintro e w2 ⟨rfl, rfl⟩
  go_wp2
  refine bodyPost_ret (v := .tuple #[]) (by simp [results, Tryz.results116, go_sem, *]) rfl ?_
  exact ⟨rfl, rfl⟩

set_option maxRecDepth 100000 in
set_option maxHeartbeats 400000 in
theorem row_none (bk : Nat) (a : Option Addr) (c : Nat) (w : World) : Calls Tryz.prog 117 #[ptrV bk, .slice a 0 c] w (PostU w) := by
  go_enter Tryz.func117, Tryz.ntmps117
  go_wp2_with fail
  go_loopg [8] 1 (fun j iv wr => iv = .int .i64 0 ∧ wr = w ∧ Go.Aside (j = 1 ∧ True))
  case atStart => exact ⟨rfl, rfl, ⟨rfl, trivial⟩⟩
  case round =>
    obtain ⟨rfl, rfl, Q⟩ := hrel
    go_wp2
    refine bodyPost_ret (v := .tuple #[]) (by simp [results, Tryz.results117, go_sem, *]) rfl ?_
    exact ⟨rfl, rfl⟩

end Go.Proofs.YtbplaekabeggkaaGreatDoor

namespace Go.Proofs.YtbplaekabeggkaaGreatDoor
open Go.RowKit

set_option maxRecDepth 100000 in
set_option maxHeartbeats 1000000 in
theorem decl_4 {w : World} {bk lim : Nat} {xs y0 : List (List UInt8)} {v : Value} {t : T} (nm : List UInt8) (n at_ : Int) (a : Option Addr) (cap : Nat) (hN : IsN w v t) (hV : DataV w (.slice a 1 cap) t.kids) (hl : t.kids.length = 1) (hW : Wr w bk lim xs) (hx : xs.length + y0.length + 4 ≤ 100000)
    (h0 : ∀ v' w', IsN w' v' (t.kids[0]?.getD zeroT) → Wr w' bk lim (xs ++ [kFunc, nm, kLpar] ++ [kRpar]) → Calls Tryz.prog 52 #[ptrV bk, v'] w' (PostA w' bk lim (xs ++ [kFunc, nm, kLpar] ++ [kRpar] ++ y0))) :
    Calls Tryz.prog 85 #[ptrV bk, v, .agg #[.int .i64 4, .string (B nm), .string ⟨#[]⟩, .int .i64 n, .int .i64 at_, .slice a 1 cap]] w (PostA w bk lim (xs ++ [kFunc, nm, kLpar] ++ [kRpar] ++ y0)) := by
  obtain ⟨p, rfl⟩ := hN.shape
  have WR := hW
  have N := hN
  obtain ⟨g, u, cap', e, gl, c0, -⟩ := hV.get (i := 0) (by omega)
  have hc1 : ¬ cap = 0 ∨ True := .inr trivial
  rw [hl] at e
  cases e
  have X : Loc ((w.alloc (.cells #[.pointer p] 30)).alloc (.cells #[.int .i64 4, .string (B nm), .string ⟨#[]⟩, .int .i64 n, .int .i64 at_, .slice (some ⟨g, 0, none⟩) 1 cap] 108)) w.heap.size (.pointer p) 30 := (Loc.new _ _ _).alloc _
  have K := Wk.refl lim w
  have D : Blk ((w.alloc (.cells #[.pointer p] 30)).alloc (.cells #[.int .i64 4, .string (B nm), .string ⟨#[]⟩, .int .i64 n, .int .i64 at_, .slice (some ⟨g, 0, none⟩) 1 cap] 108)) (w.heap.size + 1) #[.int .i64 4, .string (B nm), .string ⟨#[]⟩, .int .i64 n, .int .i64 at_, .slice (some ⟨g, 0, none⟩) 1 cap] 108 := Blk.new' _ _ _ (by simp)
  clear hW hN hV c0
  have WRl_w := WR.le
  replace WR : Wr (((w.alloc (.cells #[.pointer p] 30)).alloc (.cells #[.int .i64 4, .string (B nm), .string ⟨#[]⟩, .int .i64 n, .int .i64 at_, .slice (some ⟨g, 0, none⟩) 1 cap] 108))) bk lim xs := wrca
  replace WRl := WR.lt
  have WRl_walloccellspointerp30alloccellsinti644stringBnmstringinti64ninti64atslicesomeg0none1cap108 := WR.le
  replace N : IsN (((w.alloc (.cells #[.pointer p] 30)).alloc (.cells #[.int .i64 4, .string (B nm), .string ⟨#[]⟩, .int .i64 n, .int .i64 at_, .slice (some ⟨g, 0, none⟩) 1 cap] 108))) (.agg #[.pointer p]) t := inna
  replace X : Loc (((w.alloc (.cells #[.pointer p] 30)).alloc (.cells #[.int .i64 4, .string (B nm), .string ⟨#[]⟩, .int .i64 n, .int .i64 at_, .slice (some ⟨g, 0, none⟩) 1 cap] 108))) w.heap.size (.pointer p) 30 := loca
  replace Xc := X.cell
  replace Xl := X.lt
  have Xl_walloccellspointerp30alloccellsinti644stringBnmstringinti64ninti64atslicesomeg0none1cap108 := Xl
  replace Xf := X.frozen
  replace D : Blk (((w.alloc (.cells #[.pointer p] 30)).alloc (.cells #[.int .i64 4, .string (B nm), .string ⟨#[]⟩, .int .i64 n, .int .i64 at_, .slice (some ⟨g, 0, none⟩) 1 cap] 108))) (w.heap.size + 1) #[.int .i64 4, .string (B nm), .string ⟨#[]⟩, .int .i64 n, .int .i64 at_, .slice (some ⟨g, 0, none⟩) 1 cap] 108 := bka
  replace Dl := D.lt
  replace D0 := D.six.1
  replace D1 := D.six.2.1
  replace D2 := D.six.2.2.1
  replace D3 := D.six.2.2.2.1
  replace D4 := D.six.2.2.2.2.1
  replace D5 := D.six.2.2.2.2.2
  replace Df := D.frozen
  replace K : Wk lim w (((w.alloc (.cells #[.pointer p] 30)).alloc (.cells #[.int .i64 4, .string (B nm), .string ⟨#[]⟩, .int .i64 n, .int .i64 at_, .slice (some ⟨g, 0, none⟩) 1 cap] 108))) := wkca
  go_enter Tryz.func85, Tryz.ntmps85
  go_wp2_with fail
  refine ((add_c [kFunc, nm, kLpar] (w.heap.size + 1 + 1) (WR.alloc _) (bka) (by omega) (by simp) (by simp))).mono ?_
  rintro e w2 ⟨rfl, WR2, hw2⟩
  have z2 := hw2.size
  try simp at z2
  clear WR
  replace N : IsN w2 (.agg #[.pointer p]) t := inna
  replace X : Loc w2 w.heap.size (.pointer p) 30 := loca
  replace Xc := X.cell
  replace Xl := X.lt
  have Xl_w2 := Xl
  replace Xf := X.frozen
  replace D : Blk w2 (w.heap.size + 1) #[.int .i64 4, .string (B nm), .string ⟨#[]⟩, .int .i64 n, .int .i64 at_, .slice (some ⟨g, 0, none⟩) 1 cap] 108 := bka
  replace Dl := D.lt
  replace D0 := D.six.1
  replace D1 := D.six.2.1
  replace D2 := D.six.2.2.1
  replace D3 := D.six.2.2.2.1
  replace D4 := D.six.2.2.2.2.1
  replace D5 := D.six.2.2.2.2.2
  replace Df := D.frozen
  replace K : Wk lim w w2 := wkca
  clear hw2
  have WR := WR2
  clear WR2
  replace WRl := WR.lt
  have WRl_w2 := WR.le
  go_wp2_with fail
  refine (row_none _ _ _ _).mono ?_
  rintro e w3 ⟨rfl, rfl⟩
  go_wp2_with fail
  refine ((add_c [kRpar] w3.heap.size (WR.alloc _) (bka) (by simp; omega) (by simp) (by simp))).mono ?_
  rintro e w4 ⟨rfl, WR4, hw4⟩
  have z4 := hw4.size
  try simp at z4
  clear WR
  replace N : IsN w4 (.agg #[.pointer p]) t := inna
  replace X : Loc w4 w.heap.size (.pointer p) 30 := loca
  replace Xc := X.cell
  replace Xl := X.lt
  have Xl_w4 := Xl
  replace Xf := X.frozen
  replace D : Blk w4 (w.heap.size + 1) #[.int .i64 4, .string (B nm), .string ⟨#[]⟩, .int .i64 n, .int .i64 at_, .slice (some ⟨g, 0, none⟩) 1 cap] 108 := bka
  replace Dl := D.lt
  replace D0 := D.six.1
  replace D1 := D.six.2.1
  replace D2 := D.six.2.2.1
  replace D3 := D.six.2.2.2.1
  replace D4 := D.six.2.2.2.2.1
  replace D5 := D.six.2.2.2.2.2
  replace Df := D.frozen
  replace K : Wk lim w w4 := wkca
  clear hw4
  have WR := WR4
  clear WR4
  replace WRl := WR.lt
  have WRl_w4 := WR.le
  go_wp2_with fail
  refine (typ_none _ _).mono ?_
  rintro e w5 ⟨rfl, rfl⟩
  go_wp2_with fail
  refine (kid0_c N 0 rfl).mono ?_
  rintro e w6 ⟨v6, rfl, N6, hk6⟩
  have z6 := hk6.size
  replace WR : Wr w6 bk lim (xs ++ [kFunc, nm, kLpar] ++ [kRpar]) := wrca
  replace WRl := WR.lt
  have WRl_w6 := WR.le
  replace N : IsN w6 (.agg #[.pointer p]) t := inna
  replace X : Loc w6 w.heap.size (.pointer p) 30 := loca
  replace Xc := X.cell
  replace Xl := X.lt
  have Xl_w6 := Xl
  replace Xf := X.frozen
  replace D : Blk w6 (w.heap.size + 1) #[.int .i64 4, .string (B nm), .string ⟨#[]⟩, .int .i64 n, .int .i64 at_, .slice (some ⟨g, 0, none⟩) 1 cap] 108 := bka
  replace Dl := D.lt
  replace D0 := D.six.1
  replace D1 := D.six.2.1
  replace D2 := D.six.2.2.1
  replace D3 := D.six.2.2.2.1
  replace D4 := D.six.2.2.2.2.1
  replace D5 := D.six.2.2.2.2.2
  replace Df := D.frozen
  replace N6 : IsN w6 v6 (t.kids[0]?.getD zeroT) := inna
  replace K : Wk lim w w6 := wkca
  clear hk6
  have H := h0 v6 _ N6 WR
  go_wp2_with fail
  refine (H).mono ?_
  rintro e w7 ⟨rfl, WR7, hw7⟩
  have z7 := hw7.size
  try simp at z7
  clear WR
  replace N : IsN w7 (.agg #[.pointer p]) t := inna
  replace X : Loc w7 w.heap.size (.pointer p) 30 := loca
  replace Xc := X.cell
  replace Xl := X.lt
  have Xl_w7 := Xl
  replace Xf := X.frozen
  replace D : Blk w7 (w.heap.size + 1) #[.int .i64 4, .string (B nm), .string ⟨#[]⟩, .int .i64 n, .int .i64 at_, .slice (some ⟨g, 0, none⟩) 1 cap] 108 := bka
  replace Dl := D.lt
  replace D0 := D.six.1
  replace D1 := D.six.2.1
  replace D2 := D.six.2.2.1
  replace D3 := D.six.2.2.2.1
  replace D4 := D.six.2.2.2.2.1
  replace D5 := D.six.2.2.2.2.2
  replace Df := D.frozen
  replace K : Wk lim w w7 := wkca
  clear hw7
  have WR := WR7
  clear WR7
  replace WRl := WR.lt
  have WRl_w7 := WR.le
  clear H h0 N6
  go_wp2
  refine bodyPost_ret (v := .tuple #[]) (by simp [results, Tryz.results85, go_sem, *]) rfl ?_
  exact ⟨rfl, by simpa using WR, wkca⟩

end Go.Proofs.YtbplaekabeggkaaGreatDoor

namespace Go.Proofs.YtbplaekabeggkaaGreatDoor
open Go.RowKit

mutual
/-- the trees of which the writer is walked here: those of the awake test -/
def okS : T → Bool
  | .mk op name typ n _ ks => okSs ks && (op == 1 || (op == 4 && typ == [] && ks.length == 1) || op == 6 || (op == 12 && 1 ≤ ks.length) || (op == 15 && 0 ≤ n && n < 100) || (op == 24 && 1 ≤ n && n ≤ 16 && 2 ≤ ks.length))
def okSs : List T → Bool
  | [] => true
  | t :: ts => okS t && okSs ts
end
theorem okSs_get : ∀ (ts : List T), okSs ts = true → ∀ (i : Nat) (h : i < ts.length), okS ts[i] = true
  | [], _, i, h => by simp at h
  | t :: ts, ho, i, h => by
    simp only [okSs, Bool.and_eq_true] at ho
    cases i with
    | zero => exact ho.1
    | succ i => exact okSs_get ts ho.2 i (by simpa using h)
theorem showTs_len : ∀ (ts : List T), (showTs ts).length = ts.length
  | [] => rfl
  | t :: ts => by simp only [showTs, List.length_cons, showTs_len ts]
theorem showTs_get : ∀ (ts : List T) (i : Nat) (h : i < ts.length) (h' : i < (showTs ts).length), (showTs ts)[i] = showT ts[i]
  | [], i, h, _ => by simp at h
  | t :: ts, 0, h, _ => rfl
  | t :: ts, i + 1, h, h' => by
    simp only [showTs, List.getElem_cons_succ]
    exact showTs_get ts i (by simpa using h) (by simp [showTs_len] at h h' ⊢; omega)
theorem flat_len {ys : List (List (List UInt8))} {i : Nat} (h : i < ys.length) : (catTo ys i).length + ys[i].length ≤ ys.flatten.length := by
  have := catTo_le ys (i + 1)
  rw [catTo_succ h, List.length_append] at this
  exact this

theorem shown_c (k : Nat) : ∀ (t : T), SizeOf.sizeOf t ≤ k → okS t = true → ∀ (bk lim : Nat) (xs : List (List UInt8)) (v : Value) (w : World), IsN w v t → Wr w bk lim xs → xs.length + (showT t).length ≤ 90000 → Calls Tryz.prog 52 #[ptrV bk, v] w (PostA w bk lim (xs ++ showT t)) := by
  induction k with
  | zero => intro t h; cases t; simp only [T.mk.sizeOf_spec] at h; omega
  | succ k ih =>
    intro t hs ho bk lim xs v w hN hW hl
    obtain ⟨op, name, typ, n, at_, ks⟩ := t
    have hkid : ∀ i, (h : i < ks.length) → ∀ xs' : List (List UInt8), xs'.length + (showT ks[i]).length ≤ 90000 → ∀ v' w', IsN w' v' ks[i] → Wr w' bk lim xs' → Calls Tryz.prog 52 #[ptrV bk, v'] w' (PostA w' bk lim (xs' ++ showT ks[i])) := by
      intro i h xs' hl' v' w' hN' hW'
      have hsz : SizeOf.sizeOf ks[i] ≤ k := by
        have := List.sizeOf_lt_of_mem (List.getElem_mem h)
        simp only [T.mk.sizeOf_spec] at hs
        omega
      simp only [okS, Bool.and_eq_true] at ho
      exact ih _ hsz (okSs_get ks ho.1 i h) bk lim xs' v' w' hN' hW' hl'
    have hsh : showT (.mk op name typ n at_ ks) = comb op name typ n (showTs ks) := rfl
    have hsl := showTs_len ks
    have hsg := showTs_get ks
    have hfl := @flat_len (showTs ks)
    have g0 : ∀ i, (h : i < ks.length) → (showTs ks).getD i [] = showT ks[i] := fun i h => by
      rw [List.getD_eq_getElem?_getD, List.getElem?_eq_getElem (by omega), Option.getD_some]; exact hsg i h (by omega)
    rw [hsh] at hl ⊢
    simp only [okS, Bool.and_eq_true, Bool.or_eq_true, beq_iff_eq, decide_eq_true_eq] at ho
    obtain ⟨-, ho⟩ := ho
    rcases ho with ((((rfl | ⟨⟨rfl, rfl⟩, hk⟩) | rfl) | ⟨rfl, hk⟩) | ⟨⟨rfl, h1⟩, h2⟩) | ⟨⟨⟨rfl, h1⟩, h2⟩, hk⟩
    · have e : comb 1 name typ n (showTs ks) = (showTs ks).flatten := rfl
      rw [e] at hl ⊢
      refine node_85 (by simp only [T.op]; decide) hN hW (fun w1 a cap hN1 hV hW1 => ?_)
      exact decl_1 _ _ _ _ _ _ hN1 hV hW1 (by omega) ⟨hsl, fun i h h' v' w' a b => by
        rw [hsg i h h']
        exact hkid i h _ (by have := hfl h'; rw [hsg i h h'] at this; rw [List.length_append]; omega) v' w' a b⟩
    · obtain ⟨b, rfl⟩ := List.length_eq_one_iff.1 hk
      have e : comb 4 name [] n (showTs [b]) = [kFunc, name, kLpar] ++ [kRpar] ++ showT b := rfl
      rw [e] at hl ⊢
      refine node_85 (by simp only [T.op]; decide) hN hW (fun w1 a cap hN1 hV hW1 => ?_)
      have := @decl_4 w1 bk lim xs (showT b) v (.mk 4 name [] n at_ [b]) name n at_ a cap hN1 hV rfl hW1 (by simp at hl; omega) (fun v' w' a b => hkid 0 (by simp) _ (by simp at hl ⊢; omega) v' w' a b)
      rw [List.append_assoc, List.append_assoc] at this
      rw [List.append_assoc]
      exact this
    · have e : comb 6 name typ n (showTs ks) = [kOpen] ++ (showTs ks).flatten ++ [kClose] := rfl
      rw [e] at hl ⊢
      have hl' : xs.length + (showTs ks).flatten.length + 2 ≤ 90000 := by rw [List.length_append, List.length_append] at hl; simp only [List.length_cons, List.length_nil] at hl; omega
      refine node_86 (by simp only [T.op]; decide) hN hW (fun w1 a cap hN1 hV hW1 => ?_)
      rw [← List.append_assoc, ← List.append_assoc]
      exact stmt_6 _ _ _ _ _ _ hN1 hV hW1 (by omega) ⟨hsl, fun i h h' v' w' a b => by
        rw [hsg i h h']
        exact hkid i h _ (by have := hfl h'; rw [hsg i h h'] at this; rw [List.length_append, List.length_append]; simp only [List.length_cons, List.length_nil]; omega) v' w' a b⟩
    · obtain ⟨b, r, rfl⟩ : ∃ b r, ks = b :: r := by cases ks with
        | nil => simp at hk
        | cons b r => exact ⟨b, r, rfl⟩
      have e : comb 12 name typ n (showTs (b :: r)) = [kPrint, kLpar] ++ showT b ++ [kRpar] ++ [kSemi] := rfl
      rw [e] at hl ⊢
      have hl' : xs.length + (showT b).length + 4 ≤ 90000 := by simp only [List.length_append, List.length_cons, List.length_nil] at hl; omega
      refine node_86 (by simp only [T.op]; decide) hN hW (fun w1 a cap hN1 hV hW1 => ?_)
      rw [← List.append_assoc, ← List.append_assoc, ← List.append_assoc]
      exact stmt_12 _ _ _ _ _ _ _ hN1 hW1 (by omega) (fun v' w' a b => hkid 0 (by simp) _ (by simp only [List.length_append, List.length_cons, List.length_nil, List.getElem_cons_zero]; omega) v' w' a b)
    · obtain ⟨m, rfl⟩ := Int.eq_ofNat_of_zero_le h1
      have e : comb 15 name typ m (showTs ks) = [itoaL m] := rfl
      rw [e] at hl ⊢
      refine node_87 (by simp only [T.op]; decide) hN hW (fun w1 a cap hN1 hV hW1 => ?_)
      exact expr_15 v m _ _ _ _ _ _ hN1.shape (by omega) hW1 (by omega)
    · obtain ⟨b, c, r, rfl⟩ : ∃ b c r, ks = b :: c :: r := by
        match ks, hk with
        | b :: c :: r, _ => exact ⟨b, c, r, rfl⟩
      obtain ⟨m, rfl⟩ := Int.eq_ofNat_of_zero_le (show 0 ≤ n by omega)
      have e : comb 24 name typ m (showTs (b :: c :: r)) = [kLpar] ++ showT b ++ [signStr m] ++ showT c ++ [kRpar] := rfl
      rw [e] at hl ⊢
      have hl' : xs.length + (showT b).length + (showT c).length + 3 ≤ 90000 := by simp only [List.length_append, List.length_cons, List.length_nil] at hl; omega
      refine node_87 (by simp only [T.op]; decide) hN hW (fun w1 a cap hN1 hV hW1 => ?_)
      rw [← List.append_assoc, ← List.append_assoc, ← List.append_assoc, ← List.append_assoc]
      exact expr_24 m _ _ _ _ _ _ (by omega) (by omega) hN1 hW1 (by omega) (fun v' w' a b => hkid 0 (by simp) _ (by simp only [List.length_append, List.length_cons, List.length_nil, List.getElem_cons_zero]; omega) v' w' a b)
        (fun v' w' a b => hkid 1 (by simp) _ (by simp only [List.length_append, List.length_cons, List.length_nil, List.getElem_cons_zero, List.getElem_cons_succ]; omega) v' w' a b)

end Go.Proofs.YtbplaekabeggkaaGreatDoor

namespace Go.Proofs.YtbplaekabeggkaaGreatDoor
open Go.RowKit

set_option maxRecDepth 100000 in
set_option maxHeartbeats 1000000 in
theorem show_c {w : World} {v : Value} {t : T} (hN : IsN w v t) (ho : okS t = true) (hl : (showT t).length ≤ 90000) (hl2 : (joinL (showT t)).length ≤ 10000000) :
    Calls Tryz.prog 25 #[v] w fun e w' => e = .returned (.string (B (showL t))) ∧ Kp w.heap.size [] w w' := by
  obtain ⟨p, rfl⟩ := hN.shape
  have N := hN
  have WR : Wr ((w.alloc (.cells #[.pointer p] 30)).alloc (.cells #[.slice none 0 0] 97)) (w.heap.size + 1) w.heap.size [] := ⟨by omega, none, 0, 0, Loc.new' _ _ _ (by simp), World.ownsRow_nil _ _ _ _⟩
  have K := Wk.refl w.heap.size w
  have H := shown_c _ t (Nat.le_refl _) ho (w.heap.size + 1) w.heap.size [] (.agg #[.pointer p]) _ ((N.alloc (.cells #[.pointer p] 30)).alloc (.cells #[.slice none 0 0] 97)) WR (by simpa using hl)
  rw [List.nil_append] at H
  clear hN N
  replace WR : Wr (((w.alloc (.cells #[.pointer p] 30)).alloc (.cells #[.slice none 0 0] 97))) (w.heap.size + 1) w.heap.size [] := wrca
  replace WRl := WR.lt
  have WRl_walloccellspointerp30alloccellsslicenone0097 := WR.le
  replace K : Wk w.heap.size w (((w.alloc (.cells #[.pointer p] 30)).alloc (.cells #[.slice none 0 0] 97))) := wkca
  go_enter Tryz.func25, Tryz.ntmps25
  go_wp2_with fail
  refine (H).mono ?_
  rintro e w3 ⟨rfl, WR3, hw3⟩
  have z3 := hw3.size
  try simp at z3
  clear WR
  replace K : Wk w.heap.size w w3 := wkca
  clear hw3
  have WR := WR3
  clear WR3
  replace WRl := WR.lt
  have WRl_w3 := WR.le
  obtain ⟨a, n, c, L, hO⟩ := WR.row
  have L0 := L.cell
  have Lf := L.frozen
  have Ll := L.lt
  have hj := joinS_c w3 w.heap.size _ _ hO (by omega) hl2
  clear H
  go_wp2_with fail
  refine hj.mono ?_
  rintro e w4 ⟨rfl, hk4⟩
  have z4 := hk4.size
  have K3 := K.kp
  go_wp2
  go_ret
  exact ⟨rfl, K3.trans (hk4.le (by omega))⟩

end Go.Proofs.YtbplaekabeggkaaGreatDoor

namespace Go.Proofs.YtbplaekabeggkaaGreatDoor
open Go.RowKit

theorem sizeTs_take : ∀ (ts : List T) (i : Nat) (h : i < ts.length), sizeTs (ts.take (i + 1)) = sizeTs (ts.take i) + sizeT ts[i]
  | [], i, h => by simp at h
  | t :: ts, 0, h => by simp [sizeTs]
  | t :: ts, i + 1, h => by
    have := sizeTs_take ts i (by simpa using h)
    simp only [List.take_succ_cons, sizeTs, List.getElem_cons_succ] at this ⊢
    omega
theorem sizeTs_le : ∀ (ts : List T) (i : Nat), sizeTs (ts.take i) ≤ sizeTs ts
  | [], i => by simp [sizeTs]
  | t :: ts, 0 => by simp [sizeTs]
  | t :: ts, i + 1 => by
    have := sizeTs_le ts i
    simp only [List.take_succ_cons, sizeTs]
    omega

set_option maxRecDepth 100000 in
set_option maxHeartbeats 1000000 in
theorem size_n (k : Nat) : ∀ (t : T), SizeOf.sizeOf t ≤ k → sizeT t ≤ 100000 → ∀ (b : Nat) (w : World), IsN w (.agg #[ptrV b]) t → Calls Tryz.prog 35 #[.agg #[ptrV b]] w fun e w' => e = .returned (.int .i64 (sizeT t)) ∧ Kp w.heap.size [] w w' := by
  induction k with
  | zero => intro t h; cases t; simp only [T.mk.sizeOf_spec] at h; omega
  | succ k ih =>
    intro t hs hsz b w hN
    have hkl := hN.kids_le
    have hst : sizeT t = 1 + sizeTs t.kids := by cases t; simp only [sizeT, T.kids]
    have hkid : ∀ i, (h : i < t.kids.length) → ∀ (u : Nat) (w' : World), IsN w' (.agg #[ptrV u]) t.kids[i] → Calls Tryz.prog 35 #[.agg #[ptrV u]] w' fun e w'' => e = .returned (.int .i64 (sizeT t.kids[i])) ∧ Kp w'.heap.size [] w' w'' := by
      intro i h u w' hN'
      have h1 := kid_size h
      rw [List.getElem?_eq_getElem h, Option.getD_some] at h1
      have h2 := sizeTs_take t.kids i h
      have h3 := sizeTs_le t.kids (i + 1)
      exact ih _ (by omega) (by omega) u w' hN'
    rcases id hN with ⟨h, -⟩ | ⟨b', lo, hi, h, hh, hT⟩
    · simp at h
    have eb : b' = b := by simpa using h.symm
    subst eb
    obtain ⟨sv, hB, hV⟩ := hT.dataV hh
    obtain ⟨a, cap, e, hV'⟩ := id hV
    subst e
    have V := hV
    have D : Blk w b' #[.int .i64 t.op, .string (B t.name), .string (B t.typ), .int .i64 t.n, .int .i64 t.at_, .slice a t.kids.length cap] 108 := ⟨hB⟩
    have D := D.alloc (.cells #[ptrV b'] 30)
    have V := V.alloc (.cells #[ptrV b'] 30)
    clear hT hN hB hV h
    rw [hst] at hsz ⊢
    have HST := Lib.hid hst
    clear hst
    generalize hts : t.kids = ts at *
    have hts0 : ts = [] ∨ ∃ g, a = some ⟨g, 0, none⟩ := hV'.imp id (fun ⟨g, _, _, e, _⟩ => ⟨g, e⟩)
    clear hV'
    have K : Kp w.heap.size [] w (w.alloc (.cells #[ptrV b'] 30)) := kpa
    have Dl := D.lt
    have D5 := D.six.2.2.2.2.2
    have szz : ∀ i, sizeTs (ts.take i) ≤ sizeTs ts := sizeTs_le ts
    have szs := sizeTs_take ts
    go_enter Tryz.func35, Tryz.ntmps35
    go_wp2_with fail
    go_loopg [3, 15] (ts.length + 1) (fun j sv iv wr => ∃ i : Nat, iv = .int .i64 i ∧ sv = .int .i64 (1 + sizeTs (ts.take i) : Nat) ∧ Go.Aside (j + i = ts.length + 1 ∧ i ≤ ts.length) ∧ DataV wr (.slice a ts.length cap) ts ∧ Kp w.heap.size [] w wr)
    case atStart => exact ⟨0, rfl, by simp [sizeTs], ⟨by simp, by simp⟩, V, K⟩
    case round =>
      obtain ⟨i, rfl, rfl, Q, V', K'⟩ := hrel
      obtain ⟨q1, q2⟩ := Q.out
      cases gk with
      | zero => omega
      | succ gk =>
      clear V K D D5 Dl
      have V := V'
      have K := K'
      clear V' K'
      have Kz := K.size
      have hle := szz i
      by_cases hlt : i < ts.length
      · have hlti : (i : Int) < (ts.length : Int) := by omega
        obtain ⟨g, rfl⟩ : ∃ g, a = some ⟨g, 0, none⟩ := by
          rcases hts0 with h | h
          · rw [h] at hlt; simp at hlt
          · exact h
        obtain ⟨g', u, cap', e, gl, c0, N⟩ := V.get hlt
        cases e
        have H := hkid i hlt u
        have hss := szs i hlt
        have hle2 := szz (i + 1)
        clear hkid szz szs
        have N' : IsN (wr.alloc (.cells #[ptrV u] 30)) (.agg #[ptrV u]) ts[i] := N.alloc _
        generalize sizeT ts[i] = sk at *
        go_wp2_with fail
        refine (H _ N').mono ?_
        clear H
        rintro e w5 ⟨rfl, hk5⟩
        have z5 := hk5.size
        try simp at z5
        have V5 : DataV w5 (.slice (some ⟨g, 0, none⟩) ts.length cap) ts := (V.alloc _).kp hk5 (Nat.le_refl _)
        have K5 : Kp w.heap.size [] w w5 := kpa
        go_wp2
        go_roundg gk
        case measure => omega
        case rel => exact ⟨i + 1, by push_cast; rfl, by rw [hss]; congr 1; omega, ⟨by omega, by omega⟩, V5, K5⟩
      · have hlti : ¬ (i : Int) < (ts.length : Int) := by omega
        have he : ts.take i = ts := List.take_of_length_le (by omega)
        rw [he] at *
        clear hkid
        go_wp2
        go_ret
        exact ⟨rfl, K⟩

end Go.Proofs.YtbplaekabeggkaaGreatDoor
