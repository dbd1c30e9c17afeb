/- PROVED: the law ParseBlanks of layer 4 answers true for every string, as its given card says (the listed package variables as the program lays them); no other condition. The parser, the lexer and the writer of the awake test are walked whole. Text 8 of 16. -/
import Derived.Test.YtbplaekabeggkaaGreatDoorG07
set_option linter.unusedSimpArgs false
set_option linter.unusedVariables false
namespace Go.Proofs.YtbplaekabeggkaaGreatDoor
open Go.RowKit

set_option maxRecDepth 100000 in
set_option maxHeartbeats 4000000 in
theorem stmt_step {k : Nat} (hP : CPostfix k) (hE : CExpr k) (hBr : CBrackets k) (hB : CBlock k) (hI : CBranch k) : CStmt (k + 1) := by
  intro toks en br lim pos dep w r hR hd hq
  have hlim := hR.limle
  have hbr := hR.lt
  rw [pStmt] at hq
  try dsimp only at hq
  have D := hR
  have Dm := D.limle
  have K := Kp.refl w.heap.size [br] w
  clear hR
  by_cases ci : isTok (tokAt toks en pos) kIf = true
  · rw [if_pos ci] at hq
    go_enter Tryz.func160, Tryz.ntmps160
    go_wp2_with fail
    refine ((is_c (pos := pos) (dep := dep) (toks := toks) (en := en) (lim := lim) (rda) ⟨#[105,102]⟩).mono ?_)
    rw [mk_toList, show isTok _ (#[105,102] : Array UInt8).toList = true from ci]
    rintro e w1 ⟨rfl, hk1⟩
    have z1 := hk1.size
    try simp at z1
    replace D : Rdr toks en br lim pos dep w1 := rda
    replace Dm := D.limle
    replace R : Loc w1 w.heap.size (.pointer none) 30 := loca
    replace Rc := R.cell
    replace Rl := R.lt
    have Rl_w1 := Rl
    replace Rf := R.frozen
    replace K : Kp w.heap.size [br] w w1 := kpa
    replace Kz := K.size
    have Kz_w1 := Kz
    clear hk1
    go_wp2_with fail
    refine (hI toks en br lim pos dep _ r D hd hq).mono ?_
    cases r with
    | stop a er =>
      rintro e w2 ⟨rfl, hk2⟩
      have z2 := hk2.size
      try simp at z2
      go_wp2
      exact ⟨rfl, rfl, kpa⟩
    | ok t p =>
      rintro e w2 ⟨b2, rfl, hT2, D2, hk2⟩
      have z2 := hk2.size
      try simp at z2
      clear D
      replace R : Loc w2 w.heap.size (.pointer none) 30 := loca
      replace Rc := R.cell
      replace Rl := R.lt
      have Rl_w2 := Rl
      replace Rf := R.frozen
      replace K : Kp w.heap.size [br] w w2 := kpa
      replace Kz := K.size
      have Kz_w2 := Kz
      clear hk2
      go_wp2
      refine bodyPost_ret (v := .agg #[ptrV b2]) (by simp [results, Tryz.results160, go_sem, *]) rfl ?_
      refine ⟨b2, rfl, ?_, rda, kpa⟩
      refine IsT.frame sza sza (fun k hk hk' => ?_) _ _ hT2
      try simp at hk
      (repeat' (first | rfl | (rw [hS_ne (by first | omega | (simp; omega))]) | (rw [hA_old (by first | omega | (simp; omega))]) | (rw [hD]) | (rw [hDN])))
  rw [if_neg ci] at hq
  rw [Bool.not_eq_true] at ci
  by_cases cf : isTok (tokAt toks en pos) kFor = true
  · rw [if_pos cf] at hq
    have hp := isTok_lt cf
    cases hX : pExpr k toks en dep 1 (pos + 1) with
    | none => rw [hX] at hq; cases hq
    | some x =>
    rw [hX] at hq
    have HX := fun w1 (h1 : Rdr toks en br lim (pos + 1) dep w1) => hE toks en br lim (pos + 1) dep 1 w1 x h1 hd (by omega) hX
    clear hX
    cases x with
    | stop a er =>
      cases hq
      go_enter Tryz.func160, Tryz.ntmps160
      go_wp2_with fail
      refine ((is_c (pos := pos) (dep := dep) (toks := toks) (en := en) (lim := lim) (rda) ⟨#[105,102]⟩).mono ?_)
      rw [mk_toList, show isTok _ (#[105,102] : Array UInt8).toList = false from ci]
      rintro e w1 ⟨rfl, hk1⟩
      have z1 := hk1.size
      try simp at z1
      replace D : Rdr toks en br lim pos dep w1 := rda
      replace Dm := D.limle
      replace R : Loc w1 w.heap.size (.pointer none) 30 := loca
      replace Rc := R.cell
      replace Rl := R.lt
      have Rl_w1 := Rl
      replace Rf := R.frozen
      replace K : Kp w.heap.size [br] w w1 := kpa
      replace Kz := K.size
      have Kz_w1 := Kz
      clear hk1
      go_wp2_with fail
      refine ((is_c (pos := pos) (dep := dep) (toks := toks) (en := en) (lim := lim) (rda) ⟨#[102,111,114]⟩).mono ?_)
      rw [mk_toList, show isTok _ (#[102,111,114] : Array UInt8).toList = true from cf]
      rintro e w2 ⟨rfl, hk2⟩
      have z2 := hk2.size
      try simp at z2
      replace D : Rdr toks en br lim pos dep w2 := rda
      replace Dm := D.limle
      replace R : Loc w2 w.heap.size (.pointer none) 30 := loca
      replace Rc := R.cell
      replace Rl := R.lt
      have Rl_w2 := Rl
      replace Rf := R.frozen
      replace K : Kp w.heap.size [br] w w2 := kpa
      replace Kz := K.size
      have Kz_w2 := Kz
      clear hk2
      go_wp2_with fail
      refine (take_c D hp).mono ?_
      rintro e w3 ⟨rfl, D3, hk3⟩
      have z3 := hk3.size
      try simp at z3
      replace R : Loc w3 w.heap.size (.pointer none) 30 := loca
      replace Rc := R.cell
      replace Rl := R.lt
      have Rl_w3 := Rl
      replace Rf := R.frozen
      replace K : Kp w.heap.size [br] w w3 := kpa
      replace Kz := K.size
      have Kz_w3 := Kz
      clear hk3 D
      have D := D3
      clear D3
      replace Dm := D.limle
      go_wp2_with fail
      refine (HX _ D).mono ?_
      rintro e w4 ⟨rfl, hk4⟩
      have z4 := hk4.size
      try simp at z4
      go_wp2
      exact ⟨rfl, rfl, kpa⟩
    | ok x p =>
    dsimp only at hq
    cases hY : pBlock k toks en dep p with
    | none => rw [hY] at hq; cases hq
    | some y =>
    rw [hY] at hq
    have HY := fun w1 (h1 : Rdr toks en br lim p dep w1) => hB toks en br lim p dep w1 y h1 hd hY
    clear hY hE hB hP hI hBr
    go_enter Tryz.func160, Tryz.ntmps160
    go_wp2_with fail
    refine ((is_c (pos := pos) (dep := dep) (toks := toks) (en := en) (lim := lim) (rda) ⟨#[105,102]⟩).mono ?_)
    rw [mk_toList, show isTok _ (#[105,102] : Array UInt8).toList = false from ci]
    rintro e w1 ⟨rfl, hk1⟩
    have z1 := hk1.size
    try simp at z1
    replace D : Rdr toks en br lim pos dep w1 := rda
    replace Dm := D.limle
    replace R : Loc w1 w.heap.size (.pointer none) 30 := loca
    replace Rc := R.cell
    replace Rl := R.lt
    have Rl_w1 := Rl
    replace Rf := R.frozen
    replace K : Kp w.heap.size [br] w w1 := kpa
    replace Kz := K.size
    have Kz_w1 := Kz
    clear hk1
    go_wp2_with fail
    refine ((is_c (pos := pos) (dep := dep) (toks := toks) (en := en) (lim := lim) (rda) ⟨#[102,111,114]⟩).mono ?_)
    rw [mk_toList, show isTok _ (#[102,111,114] : Array UInt8).toList = true from cf]
    rintro e w2 ⟨rfl, hk2⟩
    have z2 := hk2.size
    try simp at z2
    replace D : Rdr toks en br lim pos dep w2 := rda
    replace Dm := D.limle
    replace R : Loc w2 w.heap.size (.pointer none) 30 := loca
    replace Rc := R.cell
    replace Rl := R.lt
    have Rl_w2 := Rl
    replace Rf := R.frozen
    replace K : Kp w.heap.size [br] w w2 := kpa
    replace Kz := K.size
    have Kz_w2 := Kz
    clear hk2
    go_wp2_with fail
    refine (take_c D hp).mono ?_
    rintro e w3 ⟨rfl, D3, hk3⟩
    have z3 := hk3.size
    try simp at z3
    replace R : Loc w3 w.heap.size (.pointer none) 30 := loca
    replace Rc := R.cell
    replace Rl := R.lt
    have Rl_w3 := Rl
    replace Rf := R.frozen
    replace K : Kp w.heap.size [br] w w3 := kpa
    replace Kz := K.size
    have Kz_w3 := Kz
    clear hk3 D
    have D := D3
    clear D3
    replace Dm := D.limle
    go_wp2_with fail
    refine (HX _ D).mono ?_
    rintro e w4 ⟨b4, rfl, hT4, D4, hk4⟩
    have z4 := hk4.size
    try simp at z4
    have T4 : TreeAt w4 w3.heap.size w4.heap.size b4 x := ⟨Nat.le_refl _, hT4⟩
    clear D
    replace R : Loc w4 w.heap.size (.pointer none) 30 := loca
    replace Rc := R.cell
    replace Rl := R.lt
    have Rl_w4 := Rl
    replace Rf := R.frozen
    replace K : Kp w.heap.size [br] w w4 := kpa
    replace Kz := K.size
    have Kz_w4 := Kz
    have D := D4
    clear hk4 D4 hT4
    go_wp2_with fail
    refine (plain_c _ _ _ _ _ _).mono ?_
    rintro e w5 ⟨rfl, s5, c5, hk5⟩
    have z5 := hk5.size
    try simp at s5
    try simp at z5
    try simp at c5
    have z5' := Nat.le_of_eq s5.symm
    have G5 : Blk w5 w4.heap.size #[ptrV b4] 30 := bka
    have T5 : TreeAt w5 w3.heap.size w4.heap.size b4 x := tra
    have hw3 : w.heap.size < w3.heap.size := Rl_w3
    have hw4 : w.heap.size < w4.heap.size := Rl_w4
    have N : NodeB w5 w.heap.size [w.heap.size, w5.heap.size] (w4.heap.size + 1 + 1) 11 ⟨#[]⟩ ⟨#[]⟩ 0 (tokAt toks en pos).at_ (.slice (some ⟨w4.heap.size, 0, none⟩) 1 1) [b4] [x] :=
      NodeB.built (bs := [b4]) (by omega) (by omega) (by simp; omega) (by omega) (by simp; omega) (by omega) G5.blk (by simp) c5 (Kids.one (by omega) (by omega) (by simp; omega) T5.tr)
    clear s5 c5 G5 T5
    replace R : Loc w5 w.heap.size (.pointer none) 30 := loca
    replace Rc := R.cell
    replace Rl := R.lt
    have Rl_w5 := Rl
    replace Rf := R.frozen
    replace D : Rdr toks en br lim p dep w5 := rda
    replace Dm := D.limle
    replace K : Kp w.heap.size [br] w w5 := kpa
    replace Kz := K.size
    have Kz_w5 := Kz
    clear hk5
    have L := Loc.new w5 (ptrV (w4.heap.size + 1 + 1)) 30
    go_wp2_with fail
    replace R : Loc (w5.alloc (.cells #[ptrV (w4.heap.size + 1 + 1)] 30)) w.heap.size (.pointer none) 30 := loca
    replace Rc := R.cell
    replace Rl := R.lt
    have Rl_w5alloccellsptrVw4heapsize1130 := Rl
    replace Rf := R.frozen
    replace D : Rdr toks en br lim p dep (w5.alloc (.cells #[ptrV (w4.heap.size + 1 + 1)] 30)) := rda
    replace Dm := D.limle
    replace N : NodeB (w5.alloc (.cells #[ptrV (w4.heap.size + 1 + 1)] 30)) w.heap.size [w.heap.size, w5.heap.size] (w4.heap.size + 1 + 1) 11 ⟨#[]⟩ ⟨#[]⟩ 0 (tokAt toks en pos).at_ (.slice (some ⟨w4.heap.size, 0, none⟩) 1 1) [b4] [x] := nba
    replace Nl := N.lt
    replace L : Loc (w5.alloc (.cells #[ptrV (w4.heap.size + 1 + 1)] 30)) w5.heap.size (ptrV (w4.heap.size + 1 + 1)) 30 := loca
    replace Lc := L.cell
    replace Ll := L.lt
    have Ll_w5alloccellsptrVw4heapsize1130 := Ll
    replace Lf := L.frozen
    replace K : Kp w.heap.size [br] w (w5.alloc (.cells #[ptrV (w4.heap.size + 1 + 1)] 30)) := kpa
    replace Kz := K.size
    have Kz_w5alloccellsptrVw4heapsize1130 := Kz
    have hnn : w.heap.size < w5.heap.size := Rl_w5
    have hN' := N.hide
    clear N
    generalize hWW : (w5.alloc (.cells #[ptrV (w4.heap.size + 1 + 1)] 30)) = W5 at *
    clear hWW T4
    have hb0 : w.heap.size ≤ w4.heap.size + 1 + 1 := by omega
    have hb1 : w4.heap.size + 1 + 1 < w5.heap.size := by omega
    generalize w5.heap.size = nv at *
    generalize w4.heap.size + 1 + 1 = bd at *
    obtain ⟨sv, bs, MN⟩ := hN'
    have M0 := R
    have M1 := L
    have hr := D
    have hlen : [x].length ≤ 100000 := by simp
    clear R L D
    cases y with
    | stop a er =>
      cases hq
      have ml := MN.lt
      have mle := MN.lo_le
      have ml1 := M1.lt
      have ml0 := M0.lt
      have mz := K.size
      have m2 := M1.cell
      obtain ⟨m3, m4, -⟩ := MN.cell
      go_wp2_with fail
      refine wp_region_U (S := (fun W => W.cell? ⟨nv, 0, none⟩ = some (ptrV bd) ∧ W.cell? ⟨bd, 5, none⟩ = some sv)) (F := [11,12,13]) (by kernel_rfl) ⟨m2, m3⟩ (fun hHeld => ?_)
      refine tkU 0 (v := ?_) rfl (by kernel_rfl) (fun _ _ _ h => h) (Or.inl ⟨by rfl, ?_⟩) (by assumption) ?_
      rotate_left
      · intro w hSw; (try dsimp only at hSw); go_simp; try with_reducible rfl
      try simp only [Act.put, pz]
      refine tkU 1 (v := ?_) rfl (by kernel_rfl) (fun _ _ _ h => h) (Or.inl ⟨by rfl, ?_⟩) (by assumption) ?_
      rotate_left
      · intro w hSw; (try dsimp only at hSw); go_simp; try with_reducible rfl
      try simp only [Act.put, pz]
      refine tkU 2 (v := ?_) rfl (by kernel_rfl) (fun _ _ _ h => h) (Or.inl ⟨by rfl, ?_⟩) (by assumption) ?_
      rotate_left
      · intro w hSw; (try dsimp only at hSw); go_simp; try with_reducible rfl
      try simp only [Act.put, pz]
      refine tkU 3 (v := ?_) rfl (by kernel_rfl) (fun _ _ _ h => h) (Or.inl ⟨by rfl, ?_⟩) (by assumption) ?_
      rotate_left
      · intro w hSw; (try dsimp only at hSw); go_simp; try with_reducible rfl
      try simp only [Act.put, pz]
      refine tkU 4 (v := ?_) rfl (by kernel_rfl) (fun _ _ _ h => h) (Or.inl ⟨by rfl, ?_⟩) (by assumption) ?_
      rotate_left
      · intro w hSw; (try dsimp only at hSw); go_simp; try with_reducible rfl
      try simp only [Act.put, pz]
      refine tkU 5 (v := ?_) rfl (by kernel_rfl) (fun _ _ _ h => h) (Or.inl ⟨by rfl, ?_⟩) (by assumption) ?_
      rotate_left
      · intro w hSw; (try dsimp only at hSw); go_simp; try with_reducible rfl
      try simp only [Act.put, pz]
      refine tkU 6 (v := ?_) rfl (by kernel_rfl) (fun _ _ _ h => h) (Or.inl ⟨by rfl, ?_⟩) (by assumption) ?_
      rotate_left
      · intro w hSw; (try dsimp only at hSw); go_simp; try with_reducible rfl
      try simp only [Act.put, pz]
      refine tkU 7 (v := ?_) rfl (by kernel_rfl) (fun _ _ _ h => h) (Or.inl ⟨by rfl, ?_⟩) (by assumption) ?_
      rotate_left
      · intro w hSw; (try dsimp only at hSw); go_simp; try with_reducible rfl
      try simp only [Act.put, pz]
      refine wpAnyU_one (i := 8) (by kernel_rfl) rfl rfl (fun K1 hK => ?_)
      go_simp
      refine (HY _ (rda)).mono ?_
      clear hK
      rintro e w6 ⟨rfl, hk6⟩
      have z6 := hk6.size
      try simp at z6
      go_wp2
      exact ⟨rfl, rfl, kpa⟩
    | ok b q =>
      cases hq
      have ml := MN.lt
      have mle := MN.lo_le
      have ml1 := M1.lt
      have ml0 := M0.lt
      have mz := K.size
      have m2 := M1.cell
      obtain ⟨m3, m4, -⟩ := MN.cell
      go_wp2_with fail
      refine wp_region_U (S := (fun W => W.cell? ⟨nv, 0, none⟩ = some (ptrV bd) ∧ W.cell? ⟨bd, 5, none⟩ = some sv)) (F := [11,12,13]) (by kernel_rfl) ⟨m2, m3⟩ (fun hHeld => ?_)
      refine tkU 0 (v := ?_) rfl (by kernel_rfl) (fun _ _ _ h => h) (Or.inl ⟨by rfl, ?_⟩) (by assumption) ?_
      rotate_left
      · intro w hSw; (try dsimp only at hSw); go_simp; try with_reducible rfl
      try simp only [Act.put, pz]
      refine tkU 1 (v := ?_) rfl (by kernel_rfl) (fun _ _ _ h => h) (Or.inl ⟨by rfl, ?_⟩) (by assumption) ?_
      rotate_left
      · intro w hSw; (try dsimp only at hSw); go_simp; try with_reducible rfl
      try simp only [Act.put, pz]
      refine tkU 2 (v := ?_) rfl (by kernel_rfl) (fun _ _ _ h => h) (Or.inl ⟨by rfl, ?_⟩) (by assumption) ?_
      rotate_left
      · intro w hSw; (try dsimp only at hSw); go_simp; try with_reducible rfl
      try simp only [Act.put, pz]
      refine tkU 3 (v := ?_) rfl (by kernel_rfl) (fun _ _ _ h => h) (Or.inl ⟨by rfl, ?_⟩) (by assumption) ?_
      rotate_left
      · intro w hSw; (try dsimp only at hSw); go_simp; try with_reducible rfl
      try simp only [Act.put, pz]
      refine tkU 4 (v := ?_) rfl (by kernel_rfl) (fun _ _ _ h => h) (Or.inl ⟨by rfl, ?_⟩) (by assumption) ?_
      rotate_left
      · intro w hSw; (try dsimp only at hSw); go_simp; try with_reducible rfl
      try simp only [Act.put, pz]
      refine tkU 5 (v := ?_) rfl (by kernel_rfl) (fun _ _ _ h => h) (Or.inl ⟨by rfl, ?_⟩) (by assumption) ?_
      rotate_left
      · intro w hSw; (try dsimp only at hSw); go_simp; try with_reducible rfl
      try simp only [Act.put, pz]
      refine tkU 6 (v := ?_) rfl (by kernel_rfl) (fun _ _ _ h => h) (Or.inl ⟨by rfl, ?_⟩) (by assumption) ?_
      rotate_left
      · intro w hSw; (try dsimp only at hSw); go_simp; try with_reducible rfl
      try simp only [Act.put, pz]
      refine tkU 7 (v := ?_) rfl (by kernel_rfl) (fun _ _ _ h => h) (Or.inl ⟨by rfl, ?_⟩) (by assumption) ?_
      rotate_left
      · intro w hSw; (try dsimp only at hSw); go_simp; try with_reducible rfl
      try simp only [Act.put, pz]
      refine wpAnyU_one (i := 8) (by kernel_rfl) rfl rfl (fun K1 hK => ?_)
      go_simp
      refine (HY _ (rda)).mono ?_
      rintro e w6 ⟨b6, rfl, hT6, hr6, hk6⟩
      have z6 := hk6.size
      try simp at z6
      have M16 := M1.drew.kp hk6 sza sza
      have M06 := M0.drew.kp hk6 sza sza
      have MN6 := MN.drew.kp hk6 sza (by simp; omega)
      try dsimp only
      refine hK.out _ _ ?_ ?_
      · intro _; exact ⟨M16.cell, MN6.cell.1⟩
      clear hK K1
      try simp only [Act.put, pz]
      refine wpAnyU_one (i := 9) (by kernel_rfl) rfl rfl (fun K1 hK => ?_)
      go_simp
      refine hK.out _ _ ?_ ?_
      · intro _; exact ⟨(M16.alloc _).cell, (MN6.alloc _).cell.1⟩
      clear hK K1
      try simp only [Act.put, pz]
      have NN6 := MN6.alloc (.cells #[ptrV b6] 30)
      have nr6 := NN6.row
      refine wpAnyU_one (i := 10) (by kernel_rfl) rfl rfl (fun K1 hK => ?_)
      refine app_node 26 29 rfl _ sv bs b6 rfl nr6.1 ⟨w6.heap.size, 0, none⟩ rfl (by simp) (by rw [Kids.len _ _ nr6.2.2]; exact hlen) (by simp; omega) ?_
      intro g6 cap6 v6 how6 hgr6 hat6 hlt6
      obtain ⟨d36, d46⟩ := NN6.grown5 hgr6
      have M1G := (M16.alloc (.cells #[ptrV b6] 30)).grown hgr6 (NN6.exne (by simp))
      have M0G := (M06.alloc (.cells #[ptrV b6] 30)).grown hgr6 (NN6.exne (by simp))
      have m1g := M1G.cell
      have sG := hgr6.size
      simp at sG
      refine hK.out _ _ ?_ ?_
      · intro _; exact ⟨m1g, d36⟩
      clear hK K1
      try simp only [Act.put, pz]
      refine wpAnyU_one (i := 11) (by kernel_rfl) rfl rfl (fun K1 hK => ?_)
      go_simp
      refine hK.out _ _ ?_ ?_
      · intro hF; exact absurd hF (by decide)
      clear hK K1
      try simp only [Act.put, pz]
      refine wpAnyU_one (i := 12) (by kernel_rfl) rfl rfl (fun K1 hK => ?_)
      go_simp
      refine hK.out _ _ ?_ ?_
      · intro hF; exact absurd hF (by decide)
      clear hK K1
      try simp only [Act.put, pz]
      refine wpAnyU_one (i := 13) (by kernel_rfl) rfl rfl (fun K1 hK => ?_)
      go_simp
      refine hK.out _ _ ?_ ?_
      · intro hF; exact absurd hF (by decide)
      clear hK K1
      try simp only [Act.put, pz]
      refine wpAnyU_done (by kernel_rfl) ?_ _
      have hTA := hT6.frame (Nat.le_refl _) (Nat.le_refl _) (fun k _ hk => hA_old (o := .cells #[ptrV b6] 30) hk)
      have NP6 := NN6.push hTA sza sza (by intro y hy; simp at hy; have q1 := fun y h => (MN.row.2.1 y h).1; simp only [World.size_drew]; rcases hy with hy | hy | hy | hy; omega; (have := q1 y hy; omega); omega; omega) (by simp; omega) how6 hgr6 hat6 hlt6
      have K6 : Kp w.heap.size [br] w v6 := Kp.grown (kpa) (by simp; omega) hgr6 (fun k e => .inl (Nat.le_trans (by omega) (NN6.own_ge e)))
      have hrG := (hr6.alloc (.cells #[ptrV b6] 30)).grown hgr6 (fun k e => Nat.le_trans hlim (Nat.le_trans (by omega) (NN6.own_ge e)))
      have lt1G := M1G.lt
      have lt0G := M0G.lt
      replace hr := hrG.setCell (p := ⟨bd, 5, none⟩) (by simp; omega) (.slice (some ⟨g6, 0, none⟩) (bs.length + 1) cap6)
      replace K := K6.setCell (p := ⟨bd, 5, none⟩) (by left; simp; omega) (.slice (some ⟨g6, 0, none⟩) (bs.length + 1) cap6)
      replace M1 := M1G.other (c := bd) 5 (.slice (some ⟨g6, 0, none⟩) (bs.length + 1) cap6) (fun e => by have := MN.notin; simp [← e] at this)
      replace M0 := M0G.other (c := bd) 5 (.slice (some ⟨g6, 0, none⟩) (bs.length + 1) cap6) (fun e => by have := MN.notin; simp [← e] at this)
      replace MN := NP6.hide
      have szW : v6.heap.size ≤ (v6.setCell ⟨bd, 5, none⟩ (.slice (some ⟨g6, 0, none⟩) (bs.length + 1) cap6)).heap.size := by simp
      clear M16 M06 MN6 NN6 nr6 how6 hgr6 hat6 hlt6 d36 d46 M1G M0G m1g hTA hT6 NP6 K6 hrG hr6 hk6 m2 m3 m4 hHeld
      generalize v6.setCell ⟨bd, 5, none⟩ (.slice (some ⟨g6, 0, none⟩) (bs.length + 1) cap6) = W6 at *
      obtain ⟨sv, bs, MN⟩ := MN
      have m1c := M1.cell
      have m0c := M0.cell
      have m0f := M0.frozen
      have m0l := M0.lt
      go_wp2
      refine bodyPost_ret (v := .agg #[ptrV bd]) (by simp [results, Tryz.results160, go_sem, *]) rfl ?_
      refine ⟨bd, rfl, ?_, rda, kpa⟩
      have MF := MN.setEx (b := w.heap.size) 0 (ptrV bd) (by left; simp)
      exact MF.isT rfl rfl
  rw [if_neg cf] at hq
  rw [Bool.not_eq_true] at cf
  cases hY : pSimple k toks en dep pos with
  | none => rw [hY] at hq; cases hq
  | some y =>
  rw [hY] at hq
  have HY := fun w1 (h1 : Rdr toks en br lim pos dep w1) => simple_c hP hE hBr h1 hd y hY
  clear hY hE hB hP hI hBr
  cases y with
  | stop a er =>
    cases hq
    go_enter Tryz.func160, Tryz.ntmps160
    go_wp2_with fail
    refine ((is_c (pos := pos) (dep := dep) (toks := toks) (en := en) (lim := lim) (rda) ⟨#[105,102]⟩).mono ?_)
    rw [mk_toList, show isTok _ (#[105,102] : Array UInt8).toList = false from ci]
    rintro e w1 ⟨rfl, hk1⟩
    have z1 := hk1.size
    try simp at z1
    replace D : Rdr toks en br lim pos dep w1 := rda
    replace Dm := D.limle
    replace R : Loc w1 w.heap.size (.pointer none) 30 := loca
    replace Rc := R.cell
    replace Rl := R.lt
    have Rl_w1 := Rl
    replace Rf := R.frozen
    replace K : Kp w.heap.size [br] w w1 := kpa
    replace Kz := K.size
    have Kz_w1 := Kz
    clear hk1
    go_wp2_with fail
    refine ((is_c (pos := pos) (dep := dep) (toks := toks) (en := en) (lim := lim) (rda) ⟨#[102,111,114]⟩).mono ?_)
    rw [mk_toList, show isTok _ (#[102,111,114] : Array UInt8).toList = false from cf]
    rintro e w2 ⟨rfl, hk2⟩
    have z2 := hk2.size
    try simp at z2
    replace D : Rdr toks en br lim pos dep w2 := rda
    replace Dm := D.limle
    replace R : Loc w2 w.heap.size (.pointer none) 30 := loca
    replace Rc := R.cell
    replace Rl := R.lt
    have Rl_w2 := Rl
    replace Rf := R.frozen
    replace K : Kp w.heap.size [br] w w2 := kpa
    replace Kz := K.size
    have Kz_w2 := Kz
    clear hk2
    go_wp2_with fail
    refine (HY _ D).mono ?_
    rintro e w3 ⟨rfl, hk3⟩
    have z3 := hk3.size
    try simp at z3
    go_wp2
    exact ⟨rfl, rfl, kpa⟩
  | ok x p =>
  dsimp only at hq
  go_enter Tryz.func160, Tryz.ntmps160
  go_wp2_with fail
  refine ((is_c (pos := pos) (dep := dep) (toks := toks) (en := en) (lim := lim) (rda) ⟨#[105,102]⟩).mono ?_)
  rw [mk_toList, show isTok _ (#[105,102] : Array UInt8).toList = false from ci]
  rintro e w1 ⟨rfl, hk1⟩
  have z1 := hk1.size
  try simp at z1
  replace D : Rdr toks en br lim pos dep w1 := rda
  replace Dm := D.limle
  replace R : Loc w1 w.heap.size (.pointer none) 30 := loca
  replace Rc := R.cell
  replace Rl := R.lt
  have Rl_w1 := Rl
  replace Rf := R.frozen
  replace K : Kp w.heap.size [br] w w1 := kpa
  replace Kz := K.size
  have Kz_w1 := Kz
  clear hk1
  go_wp2_with fail
  refine ((is_c (pos := pos) (dep := dep) (toks := toks) (en := en) (lim := lim) (rda) ⟨#[102,111,114]⟩).mono ?_)
  rw [mk_toList, show isTok _ (#[102,111,114] : Array UInt8).toList = false from cf]
  rintro e w2 ⟨rfl, hk2⟩
  have z2 := hk2.size
  try simp at z2
  replace D : Rdr toks en br lim pos dep w2 := rda
  replace Dm := D.limle
  replace R : Loc w2 w.heap.size (.pointer none) 30 := loca
  replace Rc := R.cell
  replace Rl := R.lt
  have Rl_w2 := Rl
  replace Rf := R.frozen
  replace K : Kp w.heap.size [br] w w2 := kpa
  replace Kz := K.size
  have Kz_w2 := Kz
  clear hk2
  go_wp2_with fail
  refine (HY _ D).mono ?_
  rintro e w4 ⟨b4, rfl, hT4, D4, hk4⟩
  have z4 := hk4.size
  try simp at z4
  have T4 : TreeAt w4 w2.heap.size w4.heap.size b4 x := ⟨Nat.le_refl _, hT4⟩
  clear D
  replace R : Loc w4 w.heap.size (.pointer none) 30 := loca
  replace Rc := R.cell
  replace Rl := R.lt
  have Rl_w4 := Rl
  replace Rf := R.frozen
  replace K : Kp w.heap.size [br] w w4 := kpa
  replace Kz := K.size
  have Kz_w4 := Kz
  have D := D4
  clear hk4 D4 hT4
  have L := Loc.new w4 (ptrV b4) 30
  by_cases cs : isTok (tokAt toks en p) kSemi = true
  · rw [if_pos cs] at hq
    cases hq
    go_wp2_with fail
    refine (expect_yes (toks := toks) (en := en) (lim := lim) (dep := dep) (pos := p) (rda) ⟨#[59]⟩ (by rw [mk_toList]; exact cs)).mono ?_
    rintro e w5 ⟨rfl, D5, hk5⟩
    have z5 := hk5.size
    try simp at z5
    replace R : Loc w5 w.heap.size (.pointer none) 30 := loca
    replace Rc := R.cell
    replace Rl := R.lt
    have Rl_w5 := Rl
    replace Rf := R.frozen
    replace T4 : TreeAt w5 w2.heap.size w4.heap.size b4 x := tra
    replace T4m := T4.le
    replace L : Loc w5 w4.heap.size (ptrV b4) 30 := loca
    replace Lc := L.cell
    replace Ll := L.lt
    have Ll_w5 := Ll
    replace Lf := L.frozen
    replace K : Kp w.heap.size [br] w w5 := kpa
    replace Kz := K.size
    have Kz_w5 := Kz
    clear hk5 D
    have D := D5
    clear D5
    replace Dm := D.limle
    go_wp2
    refine bodyPost_ret (v := .agg #[ptrV b4]) (by simp [results, Tryz.results160, go_sem, *]) rfl ?_
    refine ⟨b4, rfl, ?_, rda, kpa⟩
    exact IsT.frame sza sza (fun k hk hk' => hS_ne (by omega)) _ _ T4.tr
  · rw [if_neg cs] at hq
    rw [Bool.not_eq_true] at cs
    cases hq
    go_wp2_with fail
    refine (expect_no (toks := toks) (en := en) (lim := lim) (dep := dep) (pos := p) (rda) ⟨#[59]⟩ (by rw [mk_toList]; exact cs)).mono ?_
    rintro e w5 ⟨rfl, hk5⟩
    have z5 := hk5.size
    try simp at z5
    go_wp2
    exact ⟨rfl, rfl, kpa⟩

end Go.Proofs.YtbplaekabeggkaaGreatDoor

namespace Go.Proofs.YtbplaekabeggkaaGreatDoor
open Go.RowKit

set_option maxRecDepth 100000 in
set_option maxHeartbeats 4000000 in
theorem branch_step {k : Nat} (hE : CExpr k) (hB : CBlock k) (hI : CBranch k) : CBranch (k + 1) := by
  intro toks en br lim pos dep w r hR hd hq
  have hlim := hR.limle
  have hbr := hR.lt
  rw [pBranch] at hq
  try dsimp only at hq
  have D := hR
  have Dm := D.limle
  have K := Kp.refl w.heap.size [br] w
  clear hR
  by_cases ci : isTok (tokAt toks en pos) kIf = true
  rotate_left
  · rw [if_neg ci] at hq
    rw [Bool.not_eq_true] at ci
    cases hq
    go_enter Tryz.func180, Tryz.ntmps180
    go_wp2_with fail
    refine (expect_no (toks := toks) (en := en) (lim := lim) (dep := dep) (pos := pos) (rda) ⟨#[105, 102]⟩ (by rw [mk_toList]; exact ci)).mono ?_
    rintro e w1 ⟨rfl, hk1⟩
    have z1 := hk1.size
    try simp at z1
    go_wp2
    exact ⟨rfl, rfl, kpa⟩
  rw [if_pos ci] at hq
  cases hX : pExpr k toks en dep 1 (pos + 1) with
  | none => rw [hX] at hq; cases hq
  | some x =>
  rw [hX] at hq
  have HX := fun w1 (h1 : Rdr toks en br lim (pos + 1) dep w1) => hE toks en br lim (pos + 1) dep 1 w1 x h1 hd (by omega) hX
  clear hX
  cases x with
  | stop a er =>
    cases hq
    go_enter Tryz.func180, Tryz.ntmps180
    go_wp2_with fail
    refine (expect_yes (toks := toks) (en := en) (lim := lim) (dep := dep) (pos := pos) (rda) ⟨#[105, 102]⟩ (by rw [mk_toList]; exact ci)).mono ?_
    rintro e w3 ⟨rfl, D3, hk3⟩
    have z3 := hk3.size
    try simp at z3
    replace R : Loc w3 w.heap.size (.pointer none) 30 := loca
    replace Rc := R.cell
    replace Rl := R.lt
    have Rl_w3 := Rl
    replace Rf := R.frozen
    replace K : Kp w.heap.size [br] w w3 := kpa
    replace Kz := K.size
    have Kz_w3 := Kz
    clear hk3 D
    have D := D3
    clear D3
    replace Dm := D.limle
    go_wp2_with fail
    refine (HX _ D).mono ?_
    rintro e w4 ⟨rfl, hk4⟩
    have z4 := hk4.size
    try simp at z4
    go_wp2
    exact ⟨rfl, rfl, kpa⟩
  | ok x p =>
  dsimp only at hq
  cases hY : pBlock k toks en dep p with
  | none => rw [hY] at hq; cases hq
  | some y =>
  rw [hY] at hq
  have HY := fun w1 (h1 : Rdr toks en br lim p dep w1) => hB toks en br lim p dep w1 y h1 hd hY
  clear hY hE
  go_enter Tryz.func180, Tryz.ntmps180
  go_wp2_with fail
  refine (expect_yes (toks := toks) (en := en) (lim := lim) (dep := dep) (pos := pos) (rda) ⟨#[105, 102]⟩ (by rw [mk_toList]; exact ci)).mono ?_
  rintro e w3 ⟨rfl, D3, hk3⟩
  have z3 := hk3.size
  try simp at z3
  replace R : Loc w3 w.heap.size (.pointer none) 30 := loca
  replace Rc := R.cell
  replace Rl := R.lt
  have Rl_w3 := Rl
  replace Rf := R.frozen
  replace K : Kp w.heap.size [br] w w3 := kpa
  replace Kz := K.size
  have Kz_w3 := Kz
  clear hk3 D
  have D := D3
  clear D3
  replace Dm := D.limle
  go_wp2_with fail
  refine (HX _ D).mono ?_
  rintro e w4 ⟨b4, rfl, hT4, D4, hk4⟩
  have z4 := hk4.size
  try simp at z4
  have T4 : TreeAt w4 w3.heap.size w4.heap.size b4 x := ⟨Nat.le_refl _, hT4⟩
  clear D
  replace R : Loc w4 w.heap.size (.pointer none) 30 := loca
  replace Rc := R.cell
  replace Rl := R.lt
  have Rl_w4 := Rl
  replace Rf := R.frozen
  replace K : Kp w.heap.size [br] w w4 := kpa
  replace Kz := K.size
  have Kz_w4 := Kz
  have D := D4
  clear hk4 D4 hT4
  go_wp2_with fail
  refine (plain_c _ _ _ _ _ _).mono ?_
  rintro e w5 ⟨rfl, s5, c5, hk5⟩
  have z5 := hk5.size
  try simp at s5
  try simp at z5
  try simp at c5
  have z5' := Nat.le_of_eq s5.symm
  have G5 : Blk w5 w4.heap.size #[ptrV b4] 30 := bka
  have T5 : TreeAt w5 w3.heap.size w4.heap.size b4 x := tra
  have hw3 : w.heap.size < w3.heap.size := Rl_w3
  have hw4 : w.heap.size < w4.heap.size := Rl_w4
  have N : NodeB w5 w.heap.size [w.heap.size, w5.heap.size] (w4.heap.size + 1 + 1) 10 ⟨#[]⟩ ⟨#[]⟩ 0 (tokAt toks en pos).at_ (.slice (some ⟨w4.heap.size, 0, none⟩) 1 1) [b4] [x] :=
    NodeB.built (bs := [b4]) (by omega) (by omega) (by simp; omega) (by omega) (by simp; omega) (by omega) G5.blk (by simp) c5 (Kids.one (by omega) (by omega) (by simp; omega) T5.tr)
  clear s5 c5 G5 T5
  replace R : Loc w5 w.heap.size (.pointer none) 30 := loca
  replace Rc := R.cell
  replace Rl := R.lt
  have Rl_w5 := Rl
  replace Rf := R.frozen
  replace D : Rdr toks en br lim p dep w5 := rda
  replace Dm := D.limle
  replace K : Kp w.heap.size [br] w w5 := kpa
  replace Kz := K.size
  have Kz_w5 := Kz
  clear hk5
  have L := Loc.new w5 (ptrV (w4.heap.size + 1 + 1)) 30
  go_wp2_with fail
  replace R : Loc (w5.alloc (.cells #[ptrV (w4.heap.size + 1 + 1)] 30)) w.heap.size (.pointer none) 30 := loca
  replace Rc := R.cell
  replace Rl := R.lt
  have Rl_w5alloccellsptrVw4heapsize1130 := Rl
  replace Rf := R.frozen
  replace D : Rdr toks en br lim p dep (w5.alloc (.cells #[ptrV (w4.heap.size + 1 + 1)] 30)) := rda
  replace Dm := D.limle
  replace N : NodeB (w5.alloc (.cells #[ptrV (w4.heap.size + 1 + 1)] 30)) w.heap.size [w.heap.size, w5.heap.size] (w4.heap.size + 1 + 1) 10 ⟨#[]⟩ ⟨#[]⟩ 0 (tokAt toks en pos).at_ (.slice (some ⟨w4.heap.size, 0, none⟩) 1 1) [b4] [x] := nba
  replace Nl := N.lt
  replace L : Loc (w5.alloc (.cells #[ptrV (w4.heap.size + 1 + 1)] 30)) w5.heap.size (ptrV (w4.heap.size + 1 + 1)) 30 := loca
  replace Lc := L.cell
  replace Ll := L.lt
  have Ll_w5alloccellsptrVw4heapsize1130 := Ll
  replace Lf := L.frozen
  replace K : Kp w.heap.size [br] w (w5.alloc (.cells #[ptrV (w4.heap.size + 1 + 1)] 30)) := kpa
  replace Kz := K.size
  have Kz_w5alloccellsptrVw4heapsize1130 := Kz
  have hnn : w.heap.size < w5.heap.size := Rl_w5
  have hN' := N.hide
  clear N
  generalize hWW : (w5.alloc (.cells #[ptrV (w4.heap.size + 1 + 1)] 30)) = W5 at *
  clear hWW T4
  have hb0 : w.heap.size ≤ w4.heap.size + 1 + 1 := by omega
  have hb1 : w4.heap.size + 1 + 1 < w5.heap.size := by omega
  generalize w5.heap.size = nv at *
  generalize w4.heap.size + 1 + 1 = bd at *
  obtain ⟨sv, bs, MN⟩ := hN'
  have M0 := R
  have M1 := L
  have hr := D
  have hlen : [x].length ≤ 100000 := by simp
  clear R L D
  cases y with
  | stop a er =>
    cases hq
    have ml := MN.lt
    have mle := MN.lo_le
    have ml1 := M1.lt
    have ml0 := M0.lt
    have mz := K.size
    have m2 := M1.cell
    obtain ⟨m3, m4, -⟩ := MN.cell
    go_wp2_with fail
    refine wp_region_U (S := (fun W => W.cell? ⟨nv, 0, none⟩ = some (ptrV bd) ∧ W.cell? ⟨bd, 5, none⟩ = some sv)) (F := [11,12,13]) (by kernel_rfl) ⟨m2, m3⟩ (fun hHeld => ?_)
    refine tkU 0 (v := ?_) rfl (by kernel_rfl) (fun _ _ _ h => h) (Or.inl ⟨by rfl, ?_⟩) (by assumption) ?_
    rotate_left
    · intro w hSw; (try dsimp only at hSw); go_simp; try with_reducible rfl
    try simp only [Act.put, pz]
    refine tkU 1 (v := ?_) rfl (by kernel_rfl) (fun _ _ _ h => h) (Or.inl ⟨by rfl, ?_⟩) (by assumption) ?_
    rotate_left
    · intro w hSw; (try dsimp only at hSw); go_simp; try with_reducible rfl
    try simp only [Act.put, pz]
    refine tkU 2 (v := ?_) rfl (by kernel_rfl) (fun _ _ _ h => h) (Or.inl ⟨by rfl, ?_⟩) (by assumption) ?_
    rotate_left
    · intro w hSw; (try dsimp only at hSw); go_simp; try with_reducible rfl
    try simp only [Act.put, pz]
    refine tkU 3 (v := ?_) rfl (by kernel_rfl) (fun _ _ _ h => h) (Or.inl ⟨by rfl, ?_⟩) (by assumption) ?_
    rotate_left
    · intro w hSw; (try dsimp only at hSw); go_simp; try with_reducible rfl
    try simp only [Act.put, pz]
    refine tkU 4 (v := ?_) rfl (by kernel_rfl) (fun _ _ _ h => h) (Or.inl ⟨by rfl, ?_⟩) (by assumption) ?_
    rotate_left
    · intro w hSw; (try dsimp only at hSw); go_simp; try with_reducible rfl
    try simp only [Act.put, pz]
    refine tkU 5 (v := ?_) rfl (by kernel_rfl) (fun _ _ _ h => h) (Or.inl ⟨by rfl, ?_⟩) (by assumption) ?_
    rotate_left
    · intro w hSw; (try dsimp only at hSw); go_simp; try with_reducible rfl
    try simp only [Act.put, pz]
    refine tkU 6 (v := ?_) rfl (by kernel_rfl) (fun _ _ _ h => h) (Or.inl ⟨by rfl, ?_⟩) (by assumption) ?_
    rotate_left
    · intro w hSw; (try dsimp only at hSw); go_simp; try with_reducible rfl
    try simp only [Act.put, pz]
    refine tkU 7 (v := ?_) rfl (by kernel_rfl) (fun _ _ _ h => h) (Or.inl ⟨by rfl, ?_⟩) (by assumption) ?_
    rotate_left
    · intro w hSw; (try dsimp only at hSw); go_simp; try with_reducible rfl
    try simp only [Act.put, pz]
    refine wpAnyU_one (i := 8) (by kernel_rfl) rfl rfl (fun K1 hK => ?_)
    go_simp
    refine (HY _ (rda)).mono ?_
    clear hK
    rintro e w6 ⟨rfl, hk6⟩
    have z6 := hk6.size
    try simp at z6
    go_wp2
    exact ⟨rfl, rfl, kpa⟩
  | ok b q =>
  dsimp only at hq
  have ml := MN.lt
  have mle := MN.lo_le
  have ml1 := M1.lt
  have ml0 := M0.lt
  have mz := K.size
  have m2 := M1.cell
  obtain ⟨m3, m4, -⟩ := MN.cell
  go_wp2_with fail
  refine wp_region_U (S := (fun W => W.cell? ⟨nv, 0, none⟩ = some (ptrV bd) ∧ W.cell? ⟨bd, 5, none⟩ = some sv)) (F := [11,12,13]) (by kernel_rfl) ⟨m2, m3⟩ (fun hHeld => ?_)
  refine tkU 0 (v := ?_) rfl (by kernel_rfl) (fun _ _ _ h => h) (Or.inl ⟨by rfl, ?_⟩) (by assumption) ?_
  rotate_left
  · intro w hSw; (try dsimp only at hSw); go_simp; try with_reducible rfl
  try simp only [Act.put, pz]
  refine tkU 1 (v := ?_) rfl (by kernel_rfl) (fun _ _ _ h => h) (Or.inl ⟨by rfl, ?_⟩) (by assumption) ?_
  rotate_left
  · intro w hSw; (try dsimp only at hSw); go_simp; try with_reducible rfl
  try simp only [Act.put, pz]
  refine tkU 2 (v := ?_) rfl (by kernel_rfl) (fun _ _ _ h => h) (Or.inl ⟨by rfl, ?_⟩) (by assumption) ?_
  rotate_left
  · intro w hSw; (try dsimp only at hSw); go_simp; try with_reducible rfl
  try simp only [Act.put, pz]
  refine tkU 3 (v := ?_) rfl (by kernel_rfl) (fun _ _ _ h => h) (Or.inl ⟨by rfl, ?_⟩) (by assumption) ?_
  rotate_left
  · intro w hSw; (try dsimp only at hSw); go_simp; try with_reducible rfl
  try simp only [Act.put, pz]
  refine tkU 4 (v := ?_) rfl (by kernel_rfl) (fun _ _ _ h => h) (Or.inl ⟨by rfl, ?_⟩) (by assumption) ?_
  rotate_left
  · intro w hSw; (try dsimp only at hSw); go_simp; try with_reducible rfl
  try simp only [Act.put, pz]
  refine tkU 5 (v := ?_) rfl (by kernel_rfl) (fun _ _ _ h => h) (Or.inl ⟨by rfl, ?_⟩) (by assumption) ?_
  rotate_left
  · intro w hSw; (try dsimp only at hSw); go_simp; try with_reducible rfl
  try simp only [Act.put, pz]
  refine tkU 6 (v := ?_) rfl (by kernel_rfl) (fun _ _ _ h => h) (Or.inl ⟨by rfl, ?_⟩) (by assumption) ?_
  rotate_left
  · intro w hSw; (try dsimp only at hSw); go_simp; try with_reducible rfl
  try simp only [Act.put, pz]
  refine tkU 7 (v := ?_) rfl (by kernel_rfl) (fun _ _ _ h => h) (Or.inl ⟨by rfl, ?_⟩) (by assumption) ?_
  rotate_left
  · intro w hSw; (try dsimp only at hSw); go_simp; try with_reducible rfl
  try simp only [Act.put, pz]
  refine wpAnyU_one (i := 8) (by kernel_rfl) rfl rfl (fun K1 hK => ?_)
  go_simp
  refine (HY _ (rda)).mono ?_
  rintro e w6 ⟨b6, rfl, hT6, hr6, hk6⟩
  have z6 := hk6.size
  try simp at z6
  have M16 := M1.drew.kp hk6 sza sza
  have M06 := M0.drew.kp hk6 sza sza
  have MN6 := MN.drew.kp hk6 sza (by simp; omega)
  try dsimp only
  refine hK.out _ _ ?_ ?_
  · intro _; exact ⟨M16.cell, MN6.cell.1⟩
  clear hK K1
  try simp only [Act.put, pz]
  refine wpAnyU_one (i := 9) (by kernel_rfl) rfl rfl (fun K1 hK => ?_)
  go_simp
  refine hK.out _ _ ?_ ?_
  · intro _; exact ⟨(M16.alloc _).cell, (MN6.alloc _).cell.1⟩
  clear hK K1
  try simp only [Act.put, pz]
  have NN6 := MN6.alloc (.cells #[ptrV b6] 30)
  have nr6 := NN6.row
  refine wpAnyU_one (i := 10) (by kernel_rfl) rfl rfl (fun K1 hK => ?_)
  refine app_node 19 22 rfl _ sv bs b6 rfl nr6.1 ⟨w6.heap.size, 0, none⟩ rfl (by simp) (by rw [Kids.len _ _ nr6.2.2]; exact hlen) (by simp; omega) ?_
  intro g6 cap6 v6 how6 hgr6 hat6 hlt6
  obtain ⟨d36, d46⟩ := NN6.grown5 hgr6
  have M1G := (M16.alloc (.cells #[ptrV b6] 30)).grown hgr6 (NN6.exne (by simp))
  have M0G := (M06.alloc (.cells #[ptrV b6] 30)).grown hgr6 (NN6.exne (by simp))
  have m1g := M1G.cell
  have sG := hgr6.size
  simp at sG
  refine hK.out _ _ ?_ ?_
  · intro _; exact ⟨m1g, d36⟩
  clear hK K1
  try simp only [Act.put, pz]
  refine wpAnyU_one (i := 11) (by kernel_rfl) rfl rfl (fun K1 hK => ?_)
  go_simp
  refine hK.out _ _ ?_ ?_
  · intro hF; exact absurd hF (by decide)
  clear hK K1
  try simp only [Act.put, pz]
  refine wpAnyU_one (i := 12) (by kernel_rfl) rfl rfl (fun K1 hK => ?_)
  go_simp
  refine hK.out _ _ ?_ ?_
  · intro hF; exact absurd hF (by decide)
  clear hK K1
  try simp only [Act.put, pz]
  refine wpAnyU_one (i := 13) (by kernel_rfl) rfl rfl (fun K1 hK => ?_)
  go_simp
  refine hK.out _ _ ?_ ?_
  · intro hF; exact absurd hF (by decide)
  clear hK K1
  try simp only [Act.put, pz]
  refine wpAnyU_done (by kernel_rfl) ?_ _
  have hTA := hT6.frame (Nat.le_refl _) (Nat.le_refl _) (fun k _ hk => hA_old (o := .cells #[ptrV b6] 30) hk)
  have NP6 := NN6.push hTA sza sza (by intro y hy; simp at hy; have q1 := fun y h => (MN.row.2.1 y h).1; simp only [World.size_drew]; rcases hy with hy | hy | hy | hy; omega; (have := q1 y hy; omega); omega; omega) (by simp; omega) how6 hgr6 hat6 hlt6
  have K6 : Kp w.heap.size [br] w v6 := Kp.grown (kpa) (by simp; omega) hgr6 (fun k e => .inl (Nat.le_trans (by omega) (NN6.own_ge e)))
  have hrG := (hr6.alloc (.cells #[ptrV b6] 30)).grown hgr6 (fun k e => Nat.le_trans hlim (Nat.le_trans (by omega) (NN6.own_ge e)))
  have lt1G := M1G.lt
  have lt0G := M0G.lt
  replace hr := hrG.setCell (p := ⟨bd, 5, none⟩) (by simp; omega) (.slice (some ⟨g6, 0, none⟩) (bs.length + 1) cap6)
  replace K := K6.setCell (p := ⟨bd, 5, none⟩) (by left; simp; omega) (.slice (some ⟨g6, 0, none⟩) (bs.length + 1) cap6)
  replace M1 := M1G.other (c := bd) 5 (.slice (some ⟨g6, 0, none⟩) (bs.length + 1) cap6) (fun e => by have := MN.notin; simp [← e] at this)
  replace M0 := M0G.other (c := bd) 5 (.slice (some ⟨g6, 0, none⟩) (bs.length + 1) cap6) (fun e => by have := MN.notin; simp [← e] at this)
  replace MN := NP6.hide
  have szW : v6.heap.size ≤ (v6.setCell ⟨bd, 5, none⟩ (.slice (some ⟨g6, 0, none⟩) (bs.length + 1) cap6)).heap.size := by simp
  clear M16 M06 MN6 NN6 nr6 how6 hgr6 hat6 hlt6 d36 d46 M1G M0G m1g hTA hT6 NP6 K6 hrG hr6 hk6 m2 m3 m4 hHeld
  generalize v6.setCell ⟨bd, 5, none⟩ (.slice (some ⟨g6, 0, none⟩) (bs.length + 1) cap6) = W6 at *
  obtain ⟨sv, bs, MN⟩ := MN
  clear HY HX
  have D := hr
  have R := M0
  have L := M1
  have N := MN
  have Rc := R.cell
  have Rl := R.lt
  have Rf := R.frozen
  have Lc := L.cell
  have Ll := L.lt
  have Dm := D.limle
  clear hr M0 M1 MN
  by_cases ce : isTok (tokAt toks en q) kElse = true
  rotate_left
  · rw [if_neg ce] at hq
    rw [Bool.not_eq_true] at ce
    cases hq
    go_wp2_with fail
    refine (accept_no D ⟨#[101, 108, 115, 101]⟩ (by rw [mk_toList]; exact ce)).mono ?_
    rintro e w7 ⟨rfl, hk7⟩
    have z7 := hk7.size
    try simp at z7
    replace D : Rdr toks en br lim q dep w7 := rda
    replace Dm := D.limle
    replace R : Loc w7 w.heap.size (.pointer none) 30 := loca
    replace Rc := R.cell
    replace Rl := R.lt
    have Rl_w7 := Rl
    replace Rf := R.frozen
    replace L : Loc w7 nv (ptrV bd) 30 := loca
    replace Lc := L.cell
    replace Ll := L.lt
    have Ll_w7 := Ll
    replace Lf := L.frozen
    replace N : NodeB w7 w.heap.size [w.heap.size, nv] bd 10 ⟨#[]⟩ ⟨#[]⟩ 0 (tokAt toks en pos).at_ sv bs ([x] ++ [b]) := nba
    replace Nl := N.lt
    replace K : Kp w.heap.size [br] w w7 := kpa
    replace Kz := K.size
    have Kz_w7 := Kz
    clear hk7
    go_wp2
    refine bodyPost_ret (v := .agg #[ptrV bd]) (by simp [results, Tryz.results180, go_sem, *]) rfl ?_
    refine ⟨bd, rfl, ?_, rda, kpa⟩
    have MF := N.setEx (b := w.heap.size) 0 (ptrV bd) (by left; simp)
    exact MF.isT rfl rfl
  rw [if_pos ce] at hq
  by_cases cj : isTok (tokAt toks en (q + 1)) kIf = true
  · rw [if_pos cj] at hq
    cases hZ : pBranch k toks en dep (q + 1) with
    | none => rw [hZ] at hq; cases hq
    | some z =>
    rw [hZ] at hq
    have HZ := fun w1 (h1 : Rdr toks en br lim (q + 1) dep w1) => hI toks en br lim (q + 1) dep w1 z h1 hd hZ
    clear hZ hB hI
    go_wp2_with fail
    refine (accept_yes D ⟨#[101, 108, 115, 101]⟩ (by rw [mk_toList]; exact ce)).mono ?_
    rintro e w7 ⟨rfl, D7, hk7⟩
    have z7 := hk7.size
    try simp at z7
    replace R : Loc w7 w.heap.size (.pointer none) 30 := loca
    replace Rc := R.cell
    replace Rl := R.lt
    have Rl_w7 := Rl
    replace Rf := R.frozen
    replace L : Loc w7 nv (ptrV bd) 30 := loca
    replace Lc := L.cell
    replace Ll := L.lt
    have Ll_w7 := Ll
    replace Lf := L.frozen
    replace N : NodeB w7 w.heap.size [w.heap.size, nv] bd 10 ⟨#[]⟩ ⟨#[]⟩ 0 (tokAt toks en pos).at_ sv bs ([x] ++ [b]) := nba
    replace Nl := N.lt
    replace K : Kp w.heap.size [br] w w7 := kpa
    replace Kz := K.size
    have Kz_w7 := Kz
    clear hk7 D
    have D := D7
    clear D7
    replace Dm := D.limle
    go_wp2_with fail
    refine ((is_c (pos := q + 1) (dep := dep) (toks := toks) (en := en) (lim := lim) (rda) ⟨#[105,102]⟩).mono ?_)
    rw [mk_toList, show isTok _ (#[105,102] : Array UInt8).toList = true from cj]
    rintro e w8 ⟨rfl, hk8⟩
    have z8 := hk8.size
    try simp at z8
    replace D : Rdr toks en br lim (q + 1) dep w8 := rda
    replace Dm := D.limle
    replace R : Loc w8 w.heap.size (.pointer none) 30 := loca
    replace Rc := R.cell
    replace Rl := R.lt
    have Rl_w8 := Rl
    replace Rf := R.frozen
    replace L : Loc w8 nv (ptrV bd) 30 := loca
    replace Lc := L.cell
    replace Ll := L.lt
    have Ll_w8 := Ll
    replace Lf := L.frozen
    replace N : NodeB w8 w.heap.size [w.heap.size, nv] bd 10 ⟨#[]⟩ ⟨#[]⟩ 0 (tokAt toks en pos).at_ sv bs ([x] ++ [b]) := nba
    replace Nl := N.lt
    replace K : Kp w.heap.size [br] w w8 := kpa
    replace Kz := K.size
    have Kz_w8 := Kz
    clear hk8
    have M0 := R
    have M1 := L
    have MN := N
    have hr := D
    have hlen : ([x] ++ [b]).length ≤ 100000 := by simp
    clear R L D N
    cases z with
    | stop a er =>
      cases hq
      have ml := MN.lt
      have mle := MN.lo_le
      have ml1 := M1.lt
      have ml0 := M0.lt
      have mz := K.size
      have m2 := M1.cell
      obtain ⟨m3, m4, -⟩ := MN.cell
      go_wp2_with fail
      refine wp_region_U (S := (fun W => W.cell? ⟨nv, 0, none⟩ = some (ptrV bd) ∧ W.cell? ⟨bd, 5, none⟩ = some sv)) (F := [11,12,13]) (by kernel_rfl) ⟨m2, m3⟩ (fun hHeld => ?_)
      refine tkU 0 (v := ?_) rfl (by kernel_rfl) (fun _ _ _ h => h) (Or.inl ⟨by rfl, ?_⟩) (by assumption) ?_
      rotate_left
      · intro w hSw; (try dsimp only at hSw); go_simp; try with_reducible rfl
      try simp only [Act.put, pz]
      refine tkU 1 (v := ?_) rfl (by kernel_rfl) (fun _ _ _ h => h) (Or.inl ⟨by rfl, ?_⟩) (by assumption) ?_
      rotate_left
      · intro w hSw; (try dsimp only at hSw); go_simp; try with_reducible rfl
      try simp only [Act.put, pz]
      refine tkU 2 (v := ?_) rfl (by kernel_rfl) (fun _ _ _ h => h) (Or.inl ⟨by rfl, ?_⟩) (by assumption) ?_
      rotate_left
      · intro w hSw; (try dsimp only at hSw); go_simp; try with_reducible rfl
      try simp only [Act.put, pz]
      refine tkU 3 (v := ?_) rfl (by kernel_rfl) (fun _ _ _ h => h) (Or.inl ⟨by rfl, ?_⟩) (by assumption) ?_
      rotate_left
      · intro w hSw; (try dsimp only at hSw); go_simp; try with_reducible rfl
      try simp only [Act.put, pz]
      refine tkU 4 (v := ?_) rfl (by kernel_rfl) (fun _ _ _ h => h) (Or.inl ⟨by rfl, ?_⟩) (by assumption) ?_
      rotate_left
      · intro w hSw; (try dsimp only at hSw); go_simp; try with_reducible rfl
      try simp only [Act.put, pz]
      refine tkU 5 (v := ?_) rfl (by kernel_rfl) (fun _ _ _ h => h) (Or.inl ⟨by rfl, ?_⟩) (by assumption) ?_
      rotate_left
      · intro w hSw; (try dsimp only at hSw); go_simp; try with_reducible rfl
      try simp only [Act.put, pz]
      refine tkU 6 (v := ?_) rfl (by kernel_rfl) (fun _ _ _ h => h) (Or.inl ⟨by rfl, ?_⟩) (by assumption) ?_
      rotate_left
      · intro w hSw; (try dsimp only at hSw); go_simp; try with_reducible rfl
      try simp only [Act.put, pz]
      refine tkU 7 (v := ?_) rfl (by kernel_rfl) (fun _ _ _ h => h) (Or.inl ⟨by rfl, ?_⟩) (by assumption) ?_
      rotate_left
      · intro w hSw; (try dsimp only at hSw); go_simp; try with_reducible rfl
      try simp only [Act.put, pz]
      refine wpAnyU_one (i := 8) (by kernel_rfl) rfl rfl (fun K1 hK => ?_)
      go_simp
      refine (HZ _ (rda)).mono ?_
      clear hK
      rintro e w9 ⟨rfl, hk9⟩
      have z9 := hk9.size
      try simp at z9
      go_wp2
      exact ⟨rfl, rfl, kpa⟩
    | ok c q2 =>
      cases hq
      have ml := MN.lt
      have mle := MN.lo_le
      have ml1 := M1.lt
      have ml0 := M0.lt
      have mz := K.size
      have m2 := M1.cell
      obtain ⟨m3, m4, -⟩ := MN.cell
      go_wp2_with fail
      refine wp_region_U (S := (fun W => W.cell? ⟨nv, 0, none⟩ = some (ptrV bd) ∧ W.cell? ⟨bd, 5, none⟩ = some sv)) (F := [11,12,13]) (by kernel_rfl) ⟨m2, m3⟩ (fun hHeld => ?_)
      refine tkU 0 (v := ?_) rfl (by kernel_rfl) (fun _ _ _ h => h) (Or.inl ⟨by rfl, ?_⟩) (by assumption) ?_
      rotate_left
      · intro w hSw; (try dsimp only at hSw); go_simp; try with_reducible rfl
      try simp only [Act.put, pz]
      refine tkU 1 (v := ?_) rfl (by kernel_rfl) (fun _ _ _ h => h) (Or.inl ⟨by rfl, ?_⟩) (by assumption) ?_
      rotate_left
      · intro w hSw; (try dsimp only at hSw); go_simp; try with_reducible rfl
      try simp only [Act.put, pz]
      refine tkU 2 (v := ?_) rfl (by kernel_rfl) (fun _ _ _ h => h) (Or.inl ⟨by rfl, ?_⟩) (by assumption) ?_
      rotate_left
      · intro w hSw; (try dsimp only at hSw); go_simp; try with_reducible rfl
      try simp only [Act.put, pz]
      refine tkU 3 (v := ?_) rfl (by kernel_rfl) (fun _ _ _ h => h) (Or.inl ⟨by rfl, ?_⟩) (by assumption) ?_
      rotate_left
      · intro w hSw; (try dsimp only at hSw); go_simp; try with_reducible rfl
      try simp only [Act.put, pz]
      refine tkU 4 (v := ?_) rfl (by kernel_rfl) (fun _ _ _ h => h) (Or.inl ⟨by rfl, ?_⟩) (by assumption) ?_
      rotate_left
      · intro w hSw; (try dsimp only at hSw); go_simp; try with_reducible rfl
      try simp only [Act.put, pz]
      refine tkU 5 (v := ?_) rfl (by kernel_rfl) (fun _ _ _ h => h) (Or.inl ⟨by rfl, ?_⟩) (by assumption) ?_
      rotate_left
      · intro w hSw; (try dsimp only at hSw); go_simp; try with_reducible rfl
      try simp only [Act.put, pz]
      refine tkU 6 (v := ?_) rfl (by kernel_rfl) (fun _ _ _ h => h) (Or.inl ⟨by rfl, ?_⟩) (by assumption) ?_
      rotate_left
      · intro w hSw; (try dsimp only at hSw); go_simp; try with_reducible rfl
      try simp only [Act.put, pz]
      refine tkU 7 (v := ?_) rfl (by kernel_rfl) (fun _ _ _ h => h) (Or.inl ⟨by rfl, ?_⟩) (by assumption) ?_
      rotate_left
      · intro w hSw; (try dsimp only at hSw); go_simp; try with_reducible rfl
      try simp only [Act.put, pz]
      refine wpAnyU_one (i := 8) (by kernel_rfl) rfl rfl (fun K1 hK => ?_)
      go_simp
      refine (HZ _ (rda)).mono ?_
      rintro e w9 ⟨b9, rfl, hT9, hr9, hk9⟩
      have z9 := hk9.size
      try simp at z9
      have M19 := M1.drew.kp hk9 sza sza
      have M09 := M0.drew.kp hk9 sza sza
      have MN9 := MN.drew.kp hk9 sza (by simp; omega)
      try dsimp only
      refine hK.out _ _ ?_ ?_
      · intro _; exact ⟨M19.cell, MN9.cell.1⟩
      clear hK K1
      try simp only [Act.put, pz]
      refine wpAnyU_one (i := 9) (by kernel_rfl) rfl rfl (fun K1 hK => ?_)
      go_simp
      refine hK.out _ _ ?_ ?_
      · intro _; exact ⟨(M19.alloc _).cell, (MN9.alloc _).cell.1⟩
      clear hK K1
      try simp only [Act.put, pz]
      have NN9 := MN9.alloc (.cells #[ptrV b9] 30)
      have nr9 := NN9.row
      refine wpAnyU_one (i := 10) (by kernel_rfl) rfl rfl (fun K1 hK => ?_)
      refine app_node 40 43 rfl _ sv bs b9 rfl nr9.1 ⟨w9.heap.size, 0, none⟩ rfl (by simp) (by rw [Kids.len _ _ nr9.2.2]; exact hlen) (by simp; omega) ?_
      intro g9 cap9 v9 how9 hgr9 hat9 hlt9
      obtain ⟨d39, d49⟩ := NN9.grown5 hgr9
      have M1G := (M19.alloc (.cells #[ptrV b9] 30)).grown hgr9 (NN9.exne (by simp))
      have M0G := (M09.alloc (.cells #[ptrV b9] 30)).grown hgr9 (NN9.exne (by simp))
      have m1g := M1G.cell
      have sG := hgr9.size
      simp at sG
      refine hK.out _ _ ?_ ?_
      · intro _; exact ⟨m1g, d39⟩
      clear hK K1
      try simp only [Act.put, pz]
      refine wpAnyU_one (i := 11) (by kernel_rfl) rfl rfl (fun K1 hK => ?_)
      go_simp
      refine hK.out _ _ ?_ ?_
      · intro hF; exact absurd hF (by decide)
      clear hK K1
      try simp only [Act.put, pz]
      refine wpAnyU_one (i := 12) (by kernel_rfl) rfl rfl (fun K1 hK => ?_)
      go_simp
      refine hK.out _ _ ?_ ?_
      · intro hF; exact absurd hF (by decide)
      clear hK K1
      try simp only [Act.put, pz]
      refine wpAnyU_one (i := 13) (by kernel_rfl) rfl rfl (fun K1 hK => ?_)
      go_simp
      refine hK.out _ _ ?_ ?_
      · intro hF; exact absurd hF (by decide)
      clear hK K1
      try simp only [Act.put, pz]
      refine wpAnyU_done (by kernel_rfl) ?_ _
      have hTA := hT9.frame (Nat.le_refl _) (Nat.le_refl _) (fun k _ hk => hA_old (o := .cells #[ptrV b9] 30) hk)
      have NP9 := NN9.push hTA sza sza (by intro y hy; simp at hy; have q1 := fun y h => (MN.row.2.1 y h).1; simp only [World.size_drew]; rcases hy with hy | hy | hy | hy; omega; (have := q1 y hy; omega); omega; omega) (by simp; omega) how9 hgr9 hat9 hlt9
      have K9 : Kp w.heap.size [br] w v9 := Kp.grown (kpa) (by simp; omega) hgr9 (fun k e => .inl (Nat.le_trans (by omega) (NN9.own_ge e)))
      have hrG := (hr9.alloc (.cells #[ptrV b9] 30)).grown hgr9 (fun k e => Nat.le_trans hlim (Nat.le_trans (by omega) (NN9.own_ge e)))
      have lt1G := M1G.lt
      have lt0G := M0G.lt
      replace hr := hrG.setCell (p := ⟨bd, 5, none⟩) (by simp; omega) (.slice (some ⟨g9, 0, none⟩) (bs.length + 1) cap9)
      replace K := K9.setCell (p := ⟨bd, 5, none⟩) (by left; simp; omega) (.slice (some ⟨g9, 0, none⟩) (bs.length + 1) cap9)
      replace M1 := M1G.other (c := bd) 5 (.slice (some ⟨g9, 0, none⟩) (bs.length + 1) cap9) (fun e => by have := MN.notin; simp [← e] at this)
      replace M0 := M0G.other (c := bd) 5 (.slice (some ⟨g9, 0, none⟩) (bs.length + 1) cap9) (fun e => by have := MN.notin; simp [← e] at this)
      replace MN := NP9.hide
      have szW : v9.heap.size ≤ (v9.setCell ⟨bd, 5, none⟩ (.slice (some ⟨g9, 0, none⟩) (bs.length + 1) cap9)).heap.size := by simp
      clear M19 M09 MN9 NN9 nr9 how9 hgr9 hat9 hlt9 d39 d49 M1G M0G m1g hTA hT9 NP9 K9 hrG hr9 hk9 m2 m3 m4 hHeld
      generalize v9.setCell ⟨bd, 5, none⟩ (.slice (some ⟨g9, 0, none⟩) (bs.length + 1) cap9) = W9 at *
      obtain ⟨sv, bs, MN⟩ := MN
      have m1c := M1.cell
      have m0c := M0.cell
      have m0f := M0.frozen
      have m0l := M0.lt
      go_wp2
      refine bodyPost_ret (v := .agg #[ptrV bd]) (by simp [results, Tryz.results180, go_sem, *]) rfl ?_
      refine ⟨bd, rfl, ?_, rda, kpa⟩
      have MF := MN.setEx (b := w.heap.size) 0 (ptrV bd) (by left; simp)
      exact MF.isT rfl rfl
  · rw [if_neg cj] at hq
    rw [Bool.not_eq_true] at cj
    cases hZ : pBlock k toks en dep (q + 1) with
    | none => rw [hZ] at hq; cases hq
    | some z =>
    rw [hZ] at hq
    have HZ := fun w1 (h1 : Rdr toks en br lim (q + 1) dep w1) => hB toks en br lim (q + 1) dep w1 z h1 hd hZ
    clear hZ hB hI
    go_wp2_with fail
    refine (accept_yes D ⟨#[101, 108, 115, 101]⟩ (by rw [mk_toList]; exact ce)).mono ?_
    rintro e w7 ⟨rfl, D7, hk7⟩
    have z7 := hk7.size
    try simp at z7
    replace R : Loc w7 w.heap.size (.pointer none) 30 := loca
    replace Rc := R.cell
    replace Rl := R.lt
    have Rl_w7 := Rl
    replace Rf := R.frozen
    replace L : Loc w7 nv (ptrV bd) 30 := loca
    replace Lc := L.cell
    replace Ll := L.lt
    have Ll_w7 := Ll
    replace Lf := L.frozen
    replace N : NodeB w7 w.heap.size [w.heap.size, nv] bd 10 ⟨#[]⟩ ⟨#[]⟩ 0 (tokAt toks en pos).at_ sv bs ([x] ++ [b]) := nba
    replace Nl := N.lt
    replace K : Kp w.heap.size [br] w w7 := kpa
    replace Kz := K.size
    have Kz_w7 := Kz
    clear hk7 D
    have D := D7
    clear D7
    replace Dm := D.limle
    go_wp2_with fail
    refine ((is_c (pos := q + 1) (dep := dep) (toks := toks) (en := en) (lim := lim) (rda) ⟨#[105,102]⟩).mono ?_)
    rw [mk_toList, show isTok _ (#[105,102] : Array UInt8).toList = false from cj]
    rintro e w8 ⟨rfl, hk8⟩
    have z8 := hk8.size
    try simp at z8
    replace D : Rdr toks en br lim (q + 1) dep w8 := rda
    replace Dm := D.limle
    replace R : Loc w8 w.heap.size (.pointer none) 30 := loca
    replace Rc := R.cell
    replace Rl := R.lt
    have Rl_w8 := Rl
    replace Rf := R.frozen
    replace L : Loc w8 nv (ptrV bd) 30 := loca
    replace Lc := L.cell
    replace Ll := L.lt
    have Ll_w8 := Ll
    replace Lf := L.frozen
    replace N : NodeB w8 w.heap.size [w.heap.size, nv] bd 10 ⟨#[]⟩ ⟨#[]⟩ 0 (tokAt toks en pos).at_ sv bs ([x] ++ [b]) := nba
    replace Nl := N.lt
    replace K : Kp w.heap.size [br] w w8 := kpa
    replace Kz := K.size
    have Kz_w8 := Kz
    clear hk8
    have M0 := R
    have M1 := L
    have MN := N
    have hr := D
    have hlen : ([x] ++ [b]).length ≤ 100000 := by simp
    clear R L D N
    cases z with
    | stop a er =>
      cases hq
      have ml := MN.lt
      have mle := MN.lo_le
      have ml1 := M1.lt
      have ml0 := M0.lt
      have mz := K.size
      have m2 := M1.cell
      obtain ⟨m3, m4, -⟩ := MN.cell
      go_wp2_with fail
      refine wp_region_U (S := (fun W => W.cell? ⟨nv, 0, none⟩ = some (ptrV bd) ∧ W.cell? ⟨bd, 5, none⟩ = some sv)) (F := [11,12,13]) (by kernel_rfl) ⟨m2, m3⟩ (fun hHeld => ?_)
      refine tkU 0 (v := ?_) rfl (by kernel_rfl) (fun _ _ _ h => h) (Or.inl ⟨by rfl, ?_⟩) (by assumption) ?_
      rotate_left
      · intro w hSw; (try dsimp only at hSw); go_simp; try with_reducible rfl
      try simp only [Act.put, pz]
      refine tkU 1 (v := ?_) rfl (by kernel_rfl) (fun _ _ _ h => h) (Or.inl ⟨by rfl, ?_⟩) (by assumption) ?_
      rotate_left
      · intro w hSw; (try dsimp only at hSw); go_simp; try with_reducible rfl
      try simp only [Act.put, pz]
      refine tkU 2 (v := ?_) rfl (by kernel_rfl) (fun _ _ _ h => h) (Or.inl ⟨by rfl, ?_⟩) (by assumption) ?_
      rotate_left
      · intro w hSw; (try dsimp only at hSw); go_simp; try with_reducible rfl
      try simp only [Act.put, pz]
      refine tkU 3 (v := ?_) rfl (by kernel_rfl) (fun _ _ _ h => h) (Or.inl ⟨by rfl, ?_⟩) (by assumption) ?_
      rotate_left
      · intro w hSw; (try dsimp only at hSw); go_simp; try with_reducible rfl
      try simp only [Act.put, pz]
      refine tkU 4 (v := ?_) rfl (by kernel_rfl) (fun _ _ _ h => h) (Or.inl ⟨by rfl, ?_⟩) (by assumption) ?_
      rotate_left
      · intro w hSw; (try dsimp only at hSw); go_simp; try with_reducible rfl
      try simp only [Act.put, pz]
      refine tkU 5 (v := ?_) rfl (by kernel_rfl) (fun _ _ _ h => h) (Or.inl ⟨by rfl, ?_⟩) (by assumption) ?_
      rotate_left
      · intro w hSw; (try dsimp only at hSw); go_simp; try with_reducible rfl
      try simp only [Act.put, pz]
      refine tkU 6 (v := ?_) rfl (by kernel_rfl) (fun _ _ _ h => h) (Or.inl ⟨by rfl, ?_⟩) (by assumption) ?_
      rotate_left
      · intro w hSw; (try dsimp only at hSw); go_simp; try with_reducible rfl
      try simp only [Act.put, pz]
      refine tkU 7 (v := ?_) rfl (by kernel_rfl) (fun _ _ _ h => h) (Or.inl ⟨by rfl, ?_⟩) (by assumption) ?_
      rotate_left
      · intro w hSw; (try dsimp only at hSw); go_simp; try with_reducible rfl
      try simp only [Act.put, pz]
      refine wpAnyU_one (i := 8) (by kernel_rfl) rfl rfl (fun K1 hK => ?_)
      go_simp
      refine (HZ _ (rda)).mono ?_
      clear hK
      rintro e w9 ⟨rfl, hk9⟩
      have z9 := hk9.size
      try simp at z9
      go_wp2
      exact ⟨rfl, rfl, kpa⟩
    | ok c q2 =>
      cases hq
      have ml := MN.lt
      have mle := MN.lo_le
      have ml1 := M1.lt
      have ml0 := M0.lt
      have mz := K.size
      have m2 := M1.cell
      obtain ⟨m3, m4, -⟩ := MN.cell
      go_wp2_with fail
      refine wp_region_U (S := (fun W => W.cell? ⟨nv, 0, none⟩ = some (ptrV bd) ∧ W.cell? ⟨bd, 5, none⟩ = some sv)) (F := [11,12,13]) (by kernel_rfl) ⟨m2, m3⟩ (fun hHeld => ?_)
      refine tkU 0 (v := ?_) rfl (by kernel_rfl) (fun _ _ _ h => h) (Or.inl ⟨by rfl, ?_⟩) (by assumption) ?_
      rotate_left
      · intro w hSw; (try dsimp only at hSw); go_simp; try with_reducible rfl
      try simp only [Act.put, pz]
      refine tkU 1 (v := ?_) rfl (by kernel_rfl) (fun _ _ _ h => h) (Or.inl ⟨by rfl, ?_⟩) (by assumption) ?_
      rotate_left
      · intro w hSw; (try dsimp only at hSw); go_simp; try with_reducible rfl
      try simp only [Act.put, pz]
      refine tkU 2 (v := ?_) rfl (by kernel_rfl) (fun _ _ _ h => h) (Or.inl ⟨by rfl, ?_⟩) (by assumption) ?_
      rotate_left
      · intro w hSw; (try dsimp only at hSw); go_simp; try with_reducible rfl
      try simp only [Act.put, pz]
      refine tkU 3 (v := ?_) rfl (by kernel_rfl) (fun _ _ _ h => h) (Or.inl ⟨by rfl, ?_⟩) (by assumption) ?_
      rotate_left
      · intro w hSw; (try dsimp only at hSw); go_simp; try with_reducible rfl
      try simp only [Act.put, pz]
      refine tkU 4 (v := ?_) rfl (by kernel_rfl) (fun _ _ _ h => h) (Or.inl ⟨by rfl, ?_⟩) (by assumption) ?_
      rotate_left
      · intro w hSw; (try dsimp only at hSw); go_simp; try with_reducible rfl
      try simp only [Act.put, pz]
      refine tkU 5 (v := ?_) rfl (by kernel_rfl) (fun _ _ _ h => h) (Or.inl ⟨by rfl, ?_⟩) (by assumption) ?_
      rotate_left
      · intro w hSw; (try dsimp only at hSw); go_simp; try with_reducible rfl
      try simp only [Act.put, pz]
      refine tkU 6 (v := ?_) rfl (by kernel_rfl) (fun _ _ _ h => h) (Or.inl ⟨by rfl, ?_⟩) (by assumption) ?_
      rotate_left
      · intro w hSw; (try dsimp only at hSw); go_simp; try with_reducible rfl
      try simp only [Act.put, pz]
      refine tkU 7 (v := ?_) rfl (by kernel_rfl) (fun _ _ _ h => h) (Or.inl ⟨by rfl, ?_⟩) (by assumption) ?_
      rotate_left
      · intro w hSw; (try dsimp only at hSw); go_simp; try with_reducible rfl
      try simp only [Act.put, pz]
      refine wpAnyU_one (i := 8) (by kernel_rfl) rfl rfl (fun K1 hK => ?_)
      go_simp
      refine (HZ _ (rda)).mono ?_
      rintro e w9 ⟨b9, rfl, hT9, hr9, hk9⟩
      have z9 := hk9.size
      try simp at z9
      have M19 := M1.drew.kp hk9 sza sza
      have M09 := M0.drew.kp hk9 sza sza
      have MN9 := MN.drew.kp hk9 sza (by simp; omega)
      try dsimp only
      refine hK.out _ _ ?_ ?_
      · intro _; exact ⟨M19.cell, MN9.cell.1⟩
      clear hK K1
      try simp only [Act.put, pz]
      refine wpAnyU_one (i := 9) (by kernel_rfl) rfl rfl (fun K1 hK => ?_)
      go_simp
      refine hK.out _ _ ?_ ?_
      · intro _; exact ⟨(M19.alloc _).cell, (MN9.alloc _).cell.1⟩
      clear hK K1
      try simp only [Act.put, pz]
      have NN9 := MN9.alloc (.cells #[ptrV b9] 30)
      have nr9 := NN9.row
      refine wpAnyU_one (i := 10) (by kernel_rfl) rfl rfl (fun K1 hK => ?_)
      refine app_node 40 43 rfl _ sv bs b9 rfl nr9.1 ⟨w9.heap.size, 0, none⟩ rfl (by simp) (by rw [Kids.len _ _ nr9.2.2]; exact hlen) (by simp; omega) ?_
      intro g9 cap9 v9 how9 hgr9 hat9 hlt9
      obtain ⟨d39, d49⟩ := NN9.grown5 hgr9
      have M1G := (M19.alloc (.cells #[ptrV b9] 30)).grown hgr9 (NN9.exne (by simp))
      have M0G := (M09.alloc (.cells #[ptrV b9] 30)).grown hgr9 (NN9.exne (by simp))
      have m1g := M1G.cell
      have sG := hgr9.size
      simp at sG
      refine hK.out _ _ ?_ ?_
      · intro _; exact ⟨m1g, d39⟩
      clear hK K1
      try simp only [Act.put, pz]
      refine wpAnyU_one (i := 11) (by kernel_rfl) rfl rfl (fun K1 hK => ?_)
      go_simp
      refine hK.out _ _ ?_ ?_
      · intro hF; exact absurd hF (by decide)
      clear hK K1
      try simp only [Act.put, pz]
      refine wpAnyU_one (i := 12) (by kernel_rfl) rfl rfl (fun K1 hK => ?_)
      go_simp
      refine hK.out _ _ ?_ ?_
      · intro hF; exact absurd hF (by decide)
      clear hK K1
      try simp only [Act.put, pz]
      refine wpAnyU_one (i := 13) (by kernel_rfl) rfl rfl (fun K1 hK => ?_)
      go_simp
      refine hK.out _ _ ?_ ?_
      · intro hF; exact absurd hF (by decide)
      clear hK K1
      try simp only [Act.put, pz]
      refine wpAnyU_done (by kernel_rfl) ?_ _
      have hTA := hT9.frame (Nat.le_refl _) (Nat.le_refl _) (fun k _ hk => hA_old (o := .cells #[ptrV b9] 30) hk)
      have NP9 := NN9.push hTA sza sza (by intro y hy; simp at hy; have q1 := fun y h => (MN.row.2.1 y h).1; simp only [World.size_drew]; rcases hy with hy | hy | hy | hy; omega; (have := q1 y hy; omega); omega; omega) (by simp; omega) how9 hgr9 hat9 hlt9
      have K9 : Kp w.heap.size [br] w v9 := Kp.grown (kpa) (by simp; omega) hgr9 (fun k e => .inl (Nat.le_trans (by omega) (NN9.own_ge e)))
      have hrG := (hr9.alloc (.cells #[ptrV b9] 30)).grown hgr9 (fun k e => Nat.le_trans hlim (Nat.le_trans (by omega) (NN9.own_ge e)))
      have lt1G := M1G.lt
      have lt0G := M0G.lt
      replace hr := hrG.setCell (p := ⟨bd, 5, none⟩) (by simp; omega) (.slice (some ⟨g9, 0, none⟩) (bs.length + 1) cap9)
      replace K := K9.setCell (p := ⟨bd, 5, none⟩) (by left; simp; omega) (.slice (some ⟨g9, 0, none⟩) (bs.length + 1) cap9)
      replace M1 := M1G.other (c := bd) 5 (.slice (some ⟨g9, 0, none⟩) (bs.length + 1) cap9) (fun e => by have := MN.notin; simp [← e] at this)
      replace M0 := M0G.other (c := bd) 5 (.slice (some ⟨g9, 0, none⟩) (bs.length + 1) cap9) (fun e => by have := MN.notin; simp [← e] at this)
      replace MN := NP9.hide
      have szW : v9.heap.size ≤ (v9.setCell ⟨bd, 5, none⟩ (.slice (some ⟨g9, 0, none⟩) (bs.length + 1) cap9)).heap.size := by simp
      clear M19 M09 MN9 NN9 nr9 how9 hgr9 hat9 hlt9 d39 d49 M1G M0G m1g hTA hT9 NP9 K9 hrG hr9 hk9 m2 m3 m4 hHeld
      generalize v9.setCell ⟨bd, 5, none⟩ (.slice (some ⟨g9, 0, none⟩) (bs.length + 1) cap9) = W9 at *
      obtain ⟨sv, bs, MN⟩ := MN
      have m1c := M1.cell
      have m0c := M0.cell
      have m0f := M0.frozen
      have m0l := M0.lt
      go_wp2
      refine bodyPost_ret (v := .agg #[ptrV bd]) (by simp [results, Tryz.results180, go_sem, *]) rfl ?_
      refine ⟨bd, rfl, ?_, rda, kpa⟩
      have MF := MN.setEx (b := w.heap.size) 0 (ptrV bd) (by left; simp)
      exact MF.isT rfl rfl

end Go.Proofs.YtbplaekabeggkaaGreatDoor
